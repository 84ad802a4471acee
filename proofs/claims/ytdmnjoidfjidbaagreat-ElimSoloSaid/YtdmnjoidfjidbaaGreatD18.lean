/- An access of a memory: its walk. -/
import Derived.Test.YtdmnjoidfjidbaaGreatD17
namespace Go.Proofs.YtdmnjoidfjidbaaGreat
open Go.RowKit
set_option maxRecDepth 100000

def OwnRow (ls : List Int) (d : Dt) (bs : List (Nat × List Dt)) : Prop := ∃ c cs, d = .arr 9 0 ls.length c ∧ bs = [(9, cs)] ∧ cs.length = c ∧ ls.length ≤ c ∧ c ≤ maxLen ∧ cs.take ls.length = (pInts ls).map Dt.p ∧ PlainC cs
theorem clone_i (ls : List Int) (h0 : 0 < ls.length) (hl : ls.length ≤ 1000000) : ImpC Tryz.prog 38 [] [dInts ls] [] (OwnRow ls) := by
  refine imp_fin tabOk Tryz.func38 rfl Tryz.ntmps38 rfl rfl rfl (by (repeat (first | exact trivial | refine ⟨rfl, ?_⟩))) fun w cl own kf => ?_
  refine go ?_
  refine a_nil tabOk rfl rfl rfl rfl rfl rfl rfl fun c hc => ?_
  cases c with
  | true => exact absurd (hc rfl) (by omega)
  | false =>
    refine go ?_
    refine a_appendN tabOk 9 rfl rfl rfl rfl rfl rfl rfl rfl rfl rfl rfl rfl rfl h0 (pInts_len ls) (by unfold maxLen; omega) (by show _ * 8 ≤ _; omega) (fun cs' c' h1 h2 h3 h4 h5 => ?_)
    refine go ?_
    refine finI_ret [(9, cs')] rfl rfl (by (repeat (first | exact trivial | refine ⟨⟨rfl, h5 _ _⟩, ?_⟩))) trivial ?_
    exact ⟨c', cs', rfl, rfl, h1, h3, h2, h4, h5⟩
theorem ints_lf (l : List Int) : ∀ x ∈ pInts l, x.lf = true := by
  intro x hx
  simp only [pInts, List.mem_map] at hx
  obtain ⟨i, _, rfl⟩ := hx
  rfl
abbrev dMem (xs : List Int) : Dt := .agg [dInts xs]
theorem turnF_len (xs : List Int) (a : AccT) : (turnF xs a).1.length = xs.length := by
  unfold turnF
  repeat' split
  all_goals simp
theorem fault_zero {n : Int} {a : AccT} (h : faultF n a = 0) : 0 ≤ a.cell ∧ a.cell < n := by
  unfold faultF at h
  split at h
  · rename_i hr
    unfold rightA at hr
    simp only [Bool.and_eq_true, decide_eq_true_eq] at hr
    split at h
    · omega
    · exact ⟨hr.1, by omega⟩
  · omega
set_option maxHeartbeats 4000000 in
theorem memDo_c (xs : List Int) (a : AccT) (hn : xs.length ≤ 1000000) : PureC Tryz.prog 12 [dMem xs, dAcc a] (.tup [dMem (memDoF xs a).1, dRes (memDoF xs a).2.1, dI (memDoF xs a).2.2]) := by
  generalize hE : memDoF xs a = E
  unfold memDoF at hE
  refine pure_fin tabOk Tryz.func12 rfl Tryz.ntmps12 rfl rfl rfl fun w cl => ?_
  refine go ?_
  refine a_q (call_step (fault_c xs.length a) rfl (fun a w => Tryz.call37 a w) rfl) rfl rfl rfl ?_
  refine go ?_
  generalize h1 : decide (faultF xs.length a = 0) = cc; cases cc
  · rw [if_neg (of_decide_eq_false h1)] at hE
    refine go ?_
    first | refine fin_ret rfl ?_ | refine fin_normal rfl ?_
    rw [← hE]
  · have h1' := of_decide_eq_true h1
    rw [if_pos h1'] at hE
    obtain ⟨hc0, hc1⟩ := fault_zero h1'
    have hml := turnF_len xs a
    refine go ?_
    refine a_callI (clone_i xs (by omega) hn) rfl (fun a w => Tryz.call38 a w) rfl rfl trivial trivial rfl rfl rfl rfl ?_ ?_
    · rintro d bs ⟨c, cs, rfl, rfl, _⟩
      exact ⟨.inr rfl, trivial⟩
    rintro d bs ⟨c, cs, rfl, rfl, hlc, hc, hcm, htk, hpl⟩
    have hT := turn_i xs a.kind a.cell.toNat a.old a.new (by omega) hn c cs hlc hc htk hpl
    rw [show ((a.cell.toNat : Nat) : Int) = a.cell by omega] at hT
    refine go ?_
    refine a_callI hT rfl (fun a w => Tryz.call39 a w) rfl rfl (by (repeat (first | exact trivial | refine ⟨⟨rfl, hpl _ _⟩, ?_⟩))) (by (repeat (first | exact trivial | refine ⟨.inr rfl, ?_⟩))) rfl rfl rfl rfl ?_ ?_
    · rintro d bs ⟨_, cs', rfl, _⟩
      exact ⟨.inl rfl, trivial⟩
    rintro d bs ⟨rfl, cs', rfl, k1, k2, k3⟩
    refine goO ?_
    refine q_then_normal ?_
    refine awp_ghost (freeze_ghost 8 9 (pInts (turnF xs a).1) rfl rfl rfl rfl k1 hc (by rw [pInts_len, hml]) k2 hcm (ints_lf _)) ?_
    refine awp_seq ?_
    refine awp_region_w 4 [2] rfl rfl (by kernel_rfl) (by kernel_rfl) (by kernel_rfl) ?_
    refine goQ ?_
    refine go ?_
    first | refine fin_ret rfl ?_ | refine fin_normal rfl ?_
    rw [← hE]
    simp only [dMem, dInts, hml]
end Go.Proofs.YtdmnjoidfjidbaaGreat
