/- Elements of arrays that are variables of ours. -/
import Derived.Test.YtcjooalmhppkiaaRRRRAbs18
namespace Go.Proofs.YtcjooalmhppkiaaRRRR
open Go.RowKit
section
variable {P : Program} {T : Nat → Option TI} {S : Nat → Option Dt} {B : Nat → Option (List Dt)} {o : Oper}
theorem indexAddrP_step (hT : TabOk P T) {t el : TypeId} {x y : Operand} {nm of n : Nat} {k : IntKind} {i : Int} {z1 z2 : Nat} {z3 : Value} {j : TI} (ho : o.op = .indexAddr t x y) (ht : T t = some ⟨.array n el, z1, z2, z3⟩) (he : T el = some j)
    (hx : ev S x = some (.ptr nm of)) (hy : ev S y = some (.p (.raw (.int k i)))) (h0 : 0 ≤ i) (hlt : i < n) : QStep P o S B (.ptr nm (of + i.toNat * j.sz)) none := by
  refine qstep_run fun a e hs => ?_
  have h1 := hs.1 x (by rw [ho]; simp [Op.operands]) _ hx
  have h2 := raw_eq (hs.1 y (by rw [ho]; simp [Op.operands]) _ hy)
  generalize hv : a.eval x = vx at h1
  cases h1 with
  | ptr hb =>
    rename_i kk
    obtain ⟨d0, hd0, hk⟩ := hT.desc t _ ht
    cases d0 <;> simp only [tkOf, reduceCtorEq, TK.array.injEq] at hk
    rw [hk.1, hk.2] at hd0
    refine ⟨.pointer (some ⟨kk, of + i.toNat * j.sz, none⟩), ?_, .ptr hb⟩
    obtain ⟨dst, op, type, pos, after, guard⟩ := o
    simp only at ho
    subst ho
    simp [execOp, Instr.indexAt, Instr.sureAddr, h2, hv, asIntOf, run_underlying hd0, h0, hlt, run_sizeOf hT he, add_none]
theorem dropK_at {α β : Type} : ∀ (n : Nat) (l : List β) (k : List β → Option α), n ≤ l.length → dropK n l k = k (l.drop n)
  | 0, l, k, _ => rfl
  | n + 1, [], k, h => by simp at h
  | n + 1, x :: l, k, h => by rw [dropK, dropK_at n l k (by simpa using h)]; rfl
theorem loadAt_step (hT : TabOk P T) {ty : TypeId} {x : Operand} {i : TI} {b of : Nat} {cs : List Dt} {d : Dt} (ho : o.op = .load ty x) (ht : T ty = some i) (hag : i.k.agg = false) (hx : ev S x = some (.ptr b of)) (hb : B b = some cs) (hd : cs[of]? = some d) : QStep P o S B d none := by
  refine ax_step hT ?_
  obtain ⟨h1, h2⟩ := List.getElem?_eq_some_iff.1 hd
  rw [ho]
  simp only [ax, ht, hx, hb]
  rw [dropK_at of cs _ (by omega), List.drop_eq_getElem_cons h1, h2]
  simp [loadD, hag]
end
end Go.Proofs.YtcjooalmhppkiaaRRRR
