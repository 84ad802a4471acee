/- Loops with a condition; arithmetic within bounds; lists of numbers. -/
import Derived.Test.YtcjooalmhppkiaaRRRRAbs11
namespace Go.Proofs.YtcjooalmhppkiaaRRRR
open Go.RowKit

abbrev dI (n : Int) : Dt := .p (.raw (.int .i64 n))
abbrev dB (b : Bool) : Dt := .p (.raw (.bool b))
abbrev pI (n : Int) : Pl := .raw (.int .i64 n)
abbrev pB (b : Bool) : Pl := .raw (.bool b)
def pInts (l : List Int) : List Pl := l.map pI
def pBools (l : List Bool) : List Pl := l.map pB
abbrev dInts (l : List Int) : Dt := .p (.sl false l.length (pInts l))
abbrev dBools (l : List Bool) : Dt := .p (.sl false l.length (pBools l))

section
variable {P : Program} {T : Nat → Option TI} {Γ : Ctx} {σ : St} {Q : Exit → St → Prop} {c : Code} {S : Nat → Option Dt} {B : Nat → Option (List Dt)} {o : Oper}

theorem awp_loop_ok {ι : Type} (ok : ι → Prop) (I : ι → St) (μ : ι → Nat) (i0 : ι) (hk : ok i0) (h0 : Ghost Γ σ (I i0)) (round : ∀ i, ok i → AWP P Γ c (thenQ (fun σ' => ∃ j, ok j ∧ μ j < μ i ∧ Ghost Γ σ' (I j)) Q) (I i)) : AWP P Γ (.loop c) Q σ :=
  awp_loop (ι := { i : ι // ok i }) (fun i => I i.1) (fun i => μ i.1) ⟨i0, hk⟩ h0 fun i => awp_mono (round i.1 i.2) fun ex σ' h => by
    cases ex with
    | normal => obtain ⟨j, h1, h2, h3⟩ := h; exact ⟨⟨j, h1⟩, h2, h3⟩
    | _ => exact h

theorem wrap_id {n : Int} (h1 : -9223372036854775808 ≤ n) (h2 : n ≤ 9223372036854775807) : IntKind.i64.wrap n = n := IntWalk.i64_in n (by omega)

theorem add_step (hT : TabOk P T) {t u : TypeId} {i : TI} {x y : Operand} {a b : Int} (ho : o.op = .binOp .add t x y u) (ht : T t = some i) (hx : ev S x = some (dI a)) (hy : ev S y = some (dI b)) (h1 : -9223372036854775808 ≤ a + b) (h2 : a + b ≤ 9223372036854775807) : QStep P o S B (dI (a + b)) none :=
  ax_step hT (by rw [ho]; simp only [ax, ht, hx, hy, binRaw, wrap_id h1 h2])
theorem sub_step (hT : TabOk P T) {t u : TypeId} {i : TI} {x y : Operand} {a b : Int} (ho : o.op = .binOp .sub t x y u) (ht : T t = some i) (hx : ev S x = some (dI a)) (hy : ev S y = some (dI b)) (h1 : -9223372036854775808 ≤ a - b) (h2 : a - b ≤ 9223372036854775807) : QStep P o S B (dI (a - b)) none :=
  ax_step hT (by rw [ho]; simp only [ax, ht, hx, hy, binRaw, wrap_id h1 h2])
theorem mul_step (hT : TabOk P T) {t u : TypeId} {i : TI} {x y : Operand} {a b : Int} (ho : o.op = .binOp .mul t x y u) (ht : T t = some i) (hx : ev S x = some (dI a)) (hy : ev S y = some (dI b)) (h1 : -9223372036854775808 ≤ a * b) (h2 : a * b ≤ 9223372036854775807) : QStep P o S B (dI (a * b)) none :=
  ax_step hT (by rw [ho]; simp only [ax, ht, hx, hy, binRaw, wrap_id h1 h2])
/-- A quotient, or a rest, by what is above 0. -/
theorem quo_step {t u : TypeId} {x y : Operand} {a b : Int} (ho : o.op = .binOp .quo t x y u) (hx : ev S x = some (dI a)) (hy : ev S y = some (dI b)) (h0 : 0 ≤ a) (h1 : 0 < b) (h2 : a ≤ 9223372036854775807) : QStep P o S B (dI (a / b)) none := by
  refine qstep_run fun ac e hs => ?_
  have hx1 := raw_eq (hs.1 x (by rw [ho]; simp [Op.operands]) _ hx)
  have hy1 := raw_eq (hs.1 y (by rw [ho]; simp [Op.operands]) _ hy)
  refine ⟨_, ?_, .p (.raw _)⟩
  obtain ⟨dst, op, type, pos, after, guard⟩ := o
  simp only at ho
  subst ho
  have hb : ¬ b = 0 := by omega
  have hd : a.tdiv b = a / b := Int.tdiv_eq_ediv_of_nonneg h0
  have h3 : 0 ≤ a / b := Int.ediv_nonneg h0 (by omega)
  have h4 : a / b ≤ a := Int.ediv_le_self b h0
  simp [execOp, hx1, hy1, eqGuard, binOp, Op.intDiv, hb, hd, wrap_id (n := a / b) (by omega) (by omega)]
theorem rem_step {t u : TypeId} {x y : Operand} {a b : Int} (ho : o.op = .binOp .rem t x y u) (hx : ev S x = some (dI a)) (hy : ev S y = some (dI b)) (h0 : 0 ≤ a) (h1 : 0 < b) : QStep P o S B (dI (a % b)) none := by
  refine qstep_run fun ac e hs => ?_
  have hx1 := raw_eq (hs.1 x (by rw [ho]; simp [Op.operands]) _ hx)
  have hy1 := raw_eq (hs.1 y (by rw [ho]; simp [Op.operands]) _ hy)
  refine ⟨_, ?_, .p (.raw _)⟩
  obtain ⟨dst, op, type, pos, after, guard⟩ := o
  simp only at ho
  subst ho
  have hb : ¬ b = 0 := by omega
  have hd : a.tmod b = a % b := Int.tmod_eq_emod_of_nonneg h0
  simp [execOp, hx1, hy1, eqGuard, binOp, Op.intDiv, hb, hd]

theorem pInts_len (l : List Int) : (pInts l).length = l.length := by simp [pInts]
theorem pInts_get {l : List Int} {i : Nat} {x : Int} (h : l[i]? = some x) : (pInts l)[i]? = some (pI x) := by simp [pInts, h]
theorem ints_idx {l : List Int} {i : Int} {x : Int} (h : l[i.toNat]? = some x) : ∀ (m : Nat) q, [pI x][m]? = some q → (pInts l)[i.toNat * 1 + m]? = some q := by
  intro m q hq
  cases m with
  | zero => simp at hq; subst hq; simpa using pInts_get h
  | succ m => simp at hq
theorem pBools_len (l : List Bool) : (pBools l).length = l.length := by simp [pBools]
theorem pBools_get {l : List Bool} {i : Nat} {x : Bool} (h : l[i]? = some x) : (pBools l)[i]? = some (pB x) := by simp [pBools, h]
theorem bools_idx {l : List Bool} {i : Int} {x : Bool} (h : l[i.toNat]? = some x) : ∀ (m : Nat) q, [pB x][m]? = some q → (pBools l)[i.toNat * 1 + m]? = some q := by
  intro m q hq
  cases m with
  | zero => simp at hq; subst hq; simpa using pBools_get h
  | succ m => simp at hq
theorem getI {α : Type} {l : List α} {i : Int} (h0 : 0 ≤ i) (h : i < l.length) : ∃ x, l[i.toNat]? = some x := ⟨l[i.toNat]'(by omega), List.getElem?_eq_getElem (by omega)⟩
end
end Go.Proofs.YtcjooalmhppkiaaRRRR
