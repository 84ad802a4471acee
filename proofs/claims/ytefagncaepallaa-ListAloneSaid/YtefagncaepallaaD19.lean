/- Cells of a memory, rows that are the same, numbers in a row: their walks. -/
import Derived.Test.YtefagncaepallaaD18
namespace Go.Proofs.Ytefagncaepallaa
open Go.RowKit
set_option maxRecDepth 100000

theorem cellAt_get {xs : List Int} {i : Int} (h0 : 0 ≤ i) (h : i < xs.length) : xs[i.toNat]? = some (cellAt xs i) := by
  have : i.toNat < xs.length := by omega
  simp [cellAt, this]
theorem at_c (xs : List Int) (i : Int) : PureC Try.prog 34 [dMem xs, dI i] (dI (atF xs i)) := by
  generalize hE : atF xs i = E
  unfold atF at hE
  refine pure_fin tabOk Try.func34 rfl Try.ntmps34 rfl rfl rfl fun w cl => ?_
  refine go ?_
  generalize h1 : decide (i < 0) = cc; cases cc
  · have h1' := of_decide_eq_false h1
    refine go ?_
    generalize h2 : decide ((xs.length : Int) ≤ i) = cc; cases cc
    · have h2' := of_decide_eq_false h2
      rw [if_neg (by omega)] at hE
      have hg := cellAt_get (xs := xs) (i := i) (by omega) (by omega)
      refine go ?_
      refine a_q (indexAddr_step tabOk [pI (cellAt xs i)] rfl rfl rfl rfl rfl rfl (by first | omega | (simp; done) | (simp; omega)) (by first | omega | (simp; done) | (simp; omega)) (by first | (simp; done) | exact List.cons_ne_nil _ _) (ints_idx hg)) rfl rfl rfl ?_
      refine go ?_
      first | refine fin_ret rfl ?_ | refine fin_normal rfl ?_
      rw [← hE]
    · rw [if_pos (.inr (of_decide_eq_true h2))] at hE
      refine go ?_
      first | refine fin_ret rfl ?_ | refine fin_normal rfl ?_
      rw [← hE]
  · rw [if_pos (.inl (of_decide_eq_true h1))] at hE
    refine go ?_
    first | refine fin_ret rfl ?_ | refine fin_normal rfl ?_
    rw [← hE]
theorem cell_c (xs : List Int) (i : Int) : PureC Try.prog 15 [dMem xs, dI i] (dI (atF xs i)) := by
  generalize hE : atF xs i = E
  unfold atF at hE
  refine pure_fin tabOk Try.func15 rfl Try.ntmps15 rfl rfl rfl fun w cl => ?_
  refine go ?_
  generalize h1 : decide (i < 0) = cc; cases cc
  · have h1' := of_decide_eq_false h1
    refine go ?_
    generalize h2 : decide ((xs.length : Int) ≤ i) = cc; cases cc
    · have h2' := of_decide_eq_false h2
      rw [if_neg (by omega)] at hE
      have hg := cellAt_get (xs := xs) (i := i) (by omega) (by omega)
      refine go ?_
      refine a_q (indexAddr_step tabOk [pI (cellAt xs i)] rfl rfl rfl rfl rfl rfl (by first | omega | (simp; done) | (simp; omega)) (by first | omega | (simp; done) | (simp; omega)) (by first | (simp; done) | exact List.cons_ne_nil _ _) (ints_idx hg)) rfl rfl rfl ?_
      refine go ?_
      first | refine fin_ret rfl ?_ | refine fin_normal rfl ?_
      rw [← hE]
    · rw [if_pos (.inr (of_decide_eq_true h2))] at hE
      refine go ?_
      first | refine fin_ret rfl ?_ | refine fin_normal rfl ?_
      rw [← hE]
  · rw [if_pos (.inl (of_decide_eq_true h1))] at hE
    refine go ?_
    first | refine fin_ret rfl ?_ | refine fin_normal rfl ?_
    rw [← hE]
end Go.Proofs.Ytefagncaepallaa
