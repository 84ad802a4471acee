/- Cells of a memory, rows that are the same, numbers in a row: their walks. -/
import Derived.Test.YtkkldicehapklaaGreatDB
namespace Go.Proofs.YtkkldicehapklaaGreat
open Go.RowKit
set_option maxRecDepth 100000

theorem cellAt_get {xs : List Int} {i : Int} (h0 : 0 ≤ i) (h : i < xs.length) : xs[i.toNat]? = some (cellAt xs i) := by
  have : i.toNat < xs.length := by omega
  simp [cellAt, this]
theorem at_c (xs : List Int) (i : Int) : PureC Tryz.prog 63 [dMem xs, dI i] (dI (atF xs i)) := by
  generalize hE : atF xs i = E
  unfold atF at hE
  refine pure_fin tabOk Tryz.func63 rfl Tryz.ntmps63 rfl rfl rfl fun w cl => ?_
  refine go ?_
  generalize h1 : decide (i < 0) = cc; cases cc
  · have h1' := of_decide_eq_false h1
    refine go ?_
    generalize h2 : decide ((xs.length : Int) ≤ i) = cc; cases cc
    · have h2' := of_decide_eq_false h2
      rw [if_neg (by omega)] at hE
      have hg := cellAt_get (xs := xs) (i := i) (by omega) (by omega)
      refine go ?_
      refine a_q (indexAddr_step tabOk [pI (cellAt xs i)] rfl rfl rfl rfl rfl rfl (by first | omega | (simp; done) | (simp; omega)) (by first | omega | (simp; done) | (simp; omega)) (by first | (simp; done) | exact List.cons_ne_nil _ _) (ints_idx hg)) rfl rfl rfl ?_
      refine go ?_
      first | refine fin_ret rfl ?_ | refine fin_normal rfl ?_
      rw [← hE]
    · rw [if_pos (.inr (of_decide_eq_true h2))] at hE
      refine go ?_
      first | refine fin_ret rfl ?_ | refine fin_normal rfl ?_
      rw [← hE]
  · rw [if_pos (.inl (of_decide_eq_true h1))] at hE
    refine go ?_
    first | refine fin_ret rfl ?_ | refine fin_normal rfl ?_
    rw [← hE]
theorem cell_c (xs : List Int) (i : Int) : PureC Tryz.prog 105 [dMem xs, dI i] (dI (atF xs i)) := by
  generalize hE : atF xs i = E
  unfold atF at hE
  refine pure_fin tabOk Tryz.func105 rfl Tryz.ntmps105 rfl rfl rfl fun w cl => ?_
  refine go ?_
  generalize h1 : decide (i < 0) = cc; cases cc
  · have h1' := of_decide_eq_false h1
    refine go ?_
    generalize h2 : decide ((xs.length : Int) ≤ i) = cc; cases cc
    · have h2' := of_decide_eq_false h2
      rw [if_neg (by omega)] at hE
      have hg := cellAt_get (xs := xs) (i := i) (by omega) (by omega)
      refine go ?_
      refine a_q (indexAddr_step tabOk [pI (cellAt xs i)] rfl rfl rfl rfl rfl rfl (by first | omega | (simp; done) | (simp; omega)) (by first | omega | (simp; done) | (simp; omega)) (by first | (simp; done) | exact List.cons_ne_nil _ _) (ints_idx hg)) rfl rfl rfl ?_
      refine go ?_
      first | refine fin_ret rfl ?_ | refine fin_normal rfl ?_
      rw [← hE]
    · rw [if_pos (.inr (of_decide_eq_true h2))] at hE
      refine go ?_
      first | refine fin_ret rfl ?_ | refine fin_normal rfl ?_
      rw [← hE]
  · rw [if_pos (.inl (of_decide_eq_true h1))] at hE
    refine go ?_
    first | refine fin_ret rfl ?_ | refine fin_normal rfl ?_
    rw [← hE]
theorem in_c (a : List Int) (v : Int) (ha : a.length ≤ 1000000000) : PureC Tryz.prog 84 [dInts a, dI v] (dB (decide (v ∈ a))) := by
  refine pure_fin tabOk Tryz.func84 rfl Tryz.ntmps84 rfl rfl rfl fun w cl => ?_
  refine go ?_
  refine awp_loop_ok (fun n : Nat => n ≤ a.length ∧ v ∉ a.take n) (fun n => ⟨[(5, dI n), (0, dInts a), (1, dI v)], [], []⟩) (fun n => a.length - n) 0 ⟨by omega, by simp⟩ (zX) ?_
  rintro n ⟨hn, hno⟩
  refine go ?_
  refine ck_b (fun h2 => ?_) (fun h2 => ?_) <;> try rw [h2]
  · have hlt := of_decide_eq_true h2
    obtain ⟨x, hx⟩ := getI (l := a) (i := n) (by omega) hlt
    refine go ?_
    refine a_q (indexAddr_step tabOk [pI x] rfl rfl rfl rfl rfl rfl (by first | omega | (simp; done) | (simp; omega)) (by first | omega | (simp; done) | (simp; omega)) (by first | (simp; done) | exact List.cons_ne_nil _ _) (ints_idx hx)) rfl rfl rfl ?_
    refine go ?_
    simp only [Int.toNat_natCast] at hx
    generalize h3 : decide (x = v) = cc; cases cc
    · refine go ?_
      have h3' := of_decide_eq_false h3
      refine ⟨n + 1, ⟨by omega, ?_⟩, by omega, zX⟩
      rw [List.take_add_one, hx]
      simp only [Option.toList_some, List.mem_append, List.mem_singleton, not_or]
      exact ⟨hno, fun e => h3' e.symm⟩
    · refine go ?_
      first | refine fin_ret rfl ?_ | refine fin_normal rfl ?_
      have h3' := of_decide_eq_true h3
      have : v ∈ a := by rw [← h3']; exact List.mem_of_getElem? hx
      simp [this]
  · refine go ?_
    first | refine fin_ret rfl ?_ | refine fin_normal rfl ?_
    have hge := of_decide_eq_false h2
    rw [List.take_of_length_le (by omega)] at hno
    simp [hno]
end Go.Proofs.YtkkldicehapklaaGreat
