/- Rests and conversions of other kinds of numbers. -/
import Derived.Test.YtcjooalmhppkiaaRRRRAbs13
namespace Go.Proofs.YtcjooalmhppkiaaRRRR
open Go.RowKit
abbrev dK (k : IntKind) (n : Int) : Dt := .p (.raw (.int k n))
section
variable {P : Program} {T : Nat → Option TI} {S : Nat → Option Dt} {B : Nat → Option (List Dt)} {o : Oper}

theorem remk_step {k : IntKind} {t u : TypeId} {x y : Operand} {a b : Int} (ho : o.op = .binOp .rem t x y u) (hx : ev S x = some (dK k a)) (hy : ev S y = some (dK k b)) (h0 : 0 ≤ a) (h1 : 0 < b) : QStep P o S B (dK k (a % b)) none := by
  refine qstep_run fun ac e hs => ?_
  have hx1 := raw_eq (hs.1 x (by rw [ho]; simp [Op.operands]) _ hx)
  have hy1 := raw_eq (hs.1 y (by rw [ho]; simp [Op.operands]) _ hy)
  refine ⟨_, ?_, .p (.raw _)⟩
  obtain ⟨dst, op, type, pos, after, guard⟩ := o
  simp only at ho
  subst ho
  have hb : ¬ b = 0 := by omega
  have hd : a.tmod b = a % b := Int.tmod_eq_emod_of_nonneg h0
  simp [execOp, hx1, hy1, eqGuard, binOp, Op.intDiv, hb, hd]
/-- A number that is turned into an int. -/
theorem conv_step (hT : TabOk P T) {k : IntKind} {s t : TypeId} {x : Operand} {n : Int} {ks : IntKind} {z1 z2 z4 z5 : Nat} {z3 z6 : Value} (ho : o.op = .convert s t x) (hs : T s = some ⟨.int ks, z1, z2, z3⟩) (ht : T t = some ⟨.int .i64, z4, z5, z6⟩) (hx : ev S x = some (dK k n)) (h1 : -9223372036854775808 ≤ n) (h2 : n ≤ 9223372036854775807) : QStep P o S B (dI n) none :=
  ax_step hT (by rw [ho]; simp only [ax, hs, ht, hx, wrap_id h1 h2])
end
end Go.Proofs.YtcjooalmhppkiaaRRRR
