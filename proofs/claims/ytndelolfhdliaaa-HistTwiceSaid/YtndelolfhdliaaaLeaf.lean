/- The contracts of the small functions: Ahead, May, may, Of. -/
import Derived.Test.YtndelolfhdliaaaBase
namespace Go.Proofs.Ytndelolfhdliaaa
open Go.RowKit

def aheadB (c d : Call) : Bool := decide (c.last < d.first)
def mayB (c : Call) : Bool := decide (0 ≤ c.who ∧ c.who ≤ 7 ∧ 1 ≤ c.kind ∧ c.kind ≤ 7 ∧ 0 ≤ c.obj ∧ c.obj ≤ 7 ∧ 0 ≤ c.first ∧ c.first ≤ c.last ∧ (c.point = -1 ∨ c.first ≤ c.point ∧ c.point ≤ c.last))
def ofK (k : Int) : Int := if k = 1 ∨ k = 2 ∨ k = 3 then 1 else if k = 4 ∨ k = 5 then 2 else if k = 6 ∨ k = 7 then 3 else 0

theorem ret_bool {a b : Bool} (h : a = b) : Ending.returned (.bool a) = .returned (.bool b) := by rw [h]

set_option maxHeartbeats 400000 in
theorem ahead_any (c d : Call) (w : World) :
    Calls Try.prog 10 #[.agg c.cells.toArray, .agg d.cells.toArray] w fun e w' => e = .returned (.bool (aheadB c d)) ∧ Below w.heap.size w w' := by
  unfold Call.cells
  go_enter Try.func10, Try.ntmps10
  go_wp2
  go_ret
  exact ⟨rfl, ((Below.refl _ _).alloc (Nat.le_refl _) _).alloc (by simp) _⟩

set_option maxHeartbeats 400000 in
theorem refAhead_any (c d : Call) (w : World) :
    Calls Try.prog 17 #[.agg c.cells.toArray, .agg d.cells.toArray] w fun e w' => e = .returned (.bool (aheadB c d)) ∧ Below w.heap.size w w' := by
  unfold Call.cells
  go_enter Try.func17, Try.ntmps17
  go_wp2
  go_ret
  exact ⟨rfl, ((Below.refl _ _).alloc (Nat.le_refl _) _).alloc (by simp) _⟩

set_option maxHeartbeats 400000 in
theorem of_any (k : Int) (w : World) :
    Calls Try.prog 20 #[.int .i64 k] w fun e w' => e = .returned (.int .i64 (ofK k)) ∧ w = w' := by
  unfold ofK
  go_enter Try.func20, Try.ntmps20
  go_wp2
  all_goals go_ret
  all_goals simp_all

set_option maxHeartbeats 1000000 in
theorem may_any (c : Call) (w : World) :
    Calls Try.prog 24 #[.agg c.cells.toArray] w fun e w' => e = .returned (.bool (mayB c)) ∧ Below w.heap.size w w' := by
  unfold Call.cells
  go_enter Try.func24, Try.ntmps24
  go_wp2
  all_goals go_ret
  all_goals refine ⟨ret_bool ?_, (Below.refl _ _).alloc (Nat.le_refl _) _⟩
  all_goals unfold mayB
  all_goals first
    | (symm; exact decide_eq_false (by omega))
    | (symm; exact decide_eq_true (by omega))
    | exact decide_eq_decide.2 (by omega)
    | (rw [Bool.eq_iff_iff]; simp; omega)

set_option maxHeartbeats 1000000 in
theorem refMay_any (c : Call) (w : World) :
    Calls Try.prog 16 #[.agg c.cells.toArray] w fun e w' => e = .returned (.bool (mayB c)) ∧ Below w.heap.size w w' := by
  unfold Call.cells
  go_enter Try.func16, Try.ntmps16
  go_wp2
  all_goals go_ret
  all_goals refine ⟨ret_bool ?_, (Below.refl _ _).alloc (Nat.le_refl _) _⟩
  all_goals unfold mayB
  all_goals first
    | (symm; exact decide_eq_false (by omega))
    | (symm; exact decide_eq_true (by omega))
    | exact decide_eq_decide.2 (by omega)
    | (rw [Bool.eq_iff_iff]; simp; omega)
end Go.Proofs.Ytndelolfhdliaaa
