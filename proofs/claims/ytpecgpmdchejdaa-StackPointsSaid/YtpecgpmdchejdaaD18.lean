/- An access of a memory: its walk. -/
import Derived.Test.YtpecgpmdchejdaaD17
namespace Go.Proofs.Ytpecgpmdchejdaa
open Go.RowKit
set_option maxRecDepth 100000

/-- A row of our own that has these numbers. -/
def OwnRow (ls : List Int) (d : Dt) (bs : List (Nat × List Dt)) : Prop := ∃ c cs, d = .arr 9 0 ls.length c ∧ bs = [(9, cs)] ∧ cs.length = c ∧ ls.length ≤ c ∧ c ≤ maxLen ∧ cs.take ls.length = (pInts ls).map Dt.p ∧ PlainC cs
theorem clone_i (ls : List Int) (h0 : 0 < ls.length) (hl : ls.length ≤ 1000000) : ImpC Try.prog 43 [] [dInts ls] [] (OwnRow ls) := by
  refine imp_fin tabOk Try.func43 rfl Try.ntmps43 rfl rfl rfl (by (repeat (first | exact trivial | refine ⟨rfl, ?_⟩))) fun w cl own kf => ?_
  repeat (first | refine zA ?_ | refine zB ?_ | refine zC ?_ | refine zD ?_ | refine zE ?_ | refine zF ?_ | refine zG ?_ | refine zH ?_ | refine zI ?_ | refine zJ ?_ | refine zK ?_ | refine zL ?_ | refine zT ?_ | refine zU ?_ | refine zV ?_ | refine zW ?_ | refine zM ?_ | refine zN ?_ | refine zO ?_ | refine zP ?_ | refine zQ ?_ | refine zR ?_ | refine zS ?_ | refine z0 ?_ | refine z1 ?_ | refine z2 ?_ | refine z3 ?_ | refine z4 ?_ | refine z5 ?_ | refine z6 ?_ | refine z7 ?_ | refine z8 ?_ | refine z9 ?_)
  refine a_nil tabOk rfl rfl rfl rfl rfl rfl rfl fun c hc => ?_
  cases c with
  | true => exact absurd (hc rfl) (by omega)
  | false =>
    repeat (first | refine zA ?_ | refine zB ?_ | refine zC ?_ | refine zD ?_ | refine zE ?_ | refine zF ?_ | refine zG ?_ | refine zH ?_ | refine zI ?_ | refine zJ ?_ | refine zK ?_ | refine zL ?_ | refine zT ?_ | refine zU ?_ | refine zV ?_ | refine zW ?_ | refine zM ?_ | refine zN ?_ | refine zO ?_ | refine zP ?_ | refine zQ ?_ | refine zR ?_ | refine zS ?_ | refine z0 ?_ | refine z1 ?_ | refine z2 ?_ | refine z3 ?_ | refine z4 ?_ | refine z5 ?_ | refine z6 ?_ | refine z7 ?_ | refine z8 ?_ | refine z9 ?_)
    refine a_appendN tabOk 9 rfl rfl rfl rfl rfl rfl rfl rfl rfl rfl rfl rfl rfl h0 (pInts_len ls) (by unfold maxLen; omega) (by show _ * 8 ≤ _; omega) (fun cs' c' h1 h2 h3 h4 h5 => ?_)
    repeat (first | refine zA ?_ | refine zB ?_ | refine zC ?_ | refine zD ?_ | refine zE ?_ | refine zF ?_ | refine zG ?_ | refine zH ?_ | refine zI ?_ | refine zJ ?_ | refine zK ?_ | refine zL ?_ | refine zT ?_ | refine zU ?_ | refine zV ?_ | refine zW ?_ | refine zM ?_ | refine zN ?_ | refine zO ?_ | refine zP ?_ | refine zQ ?_ | refine zR ?_ | refine zS ?_ | refine z0 ?_ | refine z1 ?_ | refine z2 ?_ | refine z3 ?_ | refine z4 ?_ | refine z5 ?_ | refine z6 ?_ | refine z7 ?_ | refine z8 ?_ | refine z9 ?_)
    refine finI_ret [(9, cs')] rfl rfl (by (repeat (first | exact trivial | refine ⟨⟨rfl, h5 _ _⟩, ?_⟩))) trivial ?_
    exact ⟨c', cs', rfl, rfl, h1, h3, h2, h4, h5⟩
theorem ints_lf (l : List Int) : ∀ x ∈ pInts l, x.lf = true := by
  intro x hx
  simp only [pInts, List.mem_map] at hx
  obtain ⟨i, _, rfl⟩ := hx
  rfl
abbrev dMem (xs : List Int) : Dt := .agg [dInts xs]
def memDoF (xs : List Int) (a : AccT) : List Int × ResT × Int := if faultF xs.length a = 0 then ((turnF xs a).1, (turnF xs a).2, 0) else (xs, ⟨0, false⟩, faultF xs.length a)
theorem turnF_len (xs : List Int) (a : AccT) : (turnF xs a).1.length = xs.length := by
  unfold turnF
  repeat' split
  all_goals simp
theorem fault_zero {n : Int} {a : AccT} (h : faultF n a = 0) : 0 ≤ a.cell ∧ a.cell < n := by
  unfold faultF at h
  split at h
  · rename_i hr
    unfold rightA at hr
    simp only [Bool.and_eq_true, decide_eq_true_eq] at hr
    split at h
    · omega
    · exact ⟨hr.1, by omega⟩
  · omega
set_option maxHeartbeats 4000000 in
theorem memDo_c (xs : List Int) (a : AccT) (hn : xs.length ≤ 1000000) : PureC Try.prog 21 [dMem xs, dAcc a] (.tup [dMem (memDoF xs a).1, dRes (memDoF xs a).2.1, dI (memDoF xs a).2.2]) := by
  generalize hE : memDoF xs a = E
  unfold memDoF at hE
  refine pure_fin tabOk Try.func21 rfl Try.ntmps21 rfl rfl rfl fun w cl => ?_
  repeat (first | refine zA ?_ | refine zB ?_ | refine zC ?_ | refine zD ?_ | refine zE ?_ | refine zF ?_ | refine zG ?_ | refine zH ?_ | refine zI ?_ | refine zJ ?_ | refine zK ?_ | refine zL ?_ | refine zT ?_ | refine zU ?_ | refine zV ?_ | refine zW ?_ | refine zM ?_ | refine zN ?_ | refine zO ?_ | refine zP ?_ | refine zQ ?_ | refine zR ?_ | refine zS ?_ | refine z0 ?_ | refine z1 ?_ | refine z2 ?_ | refine z3 ?_ | refine z4 ?_ | refine z5 ?_ | refine z6 ?_ | refine z7 ?_ | refine z8 ?_ | refine z9 ?_)
  refine a_q (call_step (fault_c xs.length a) rfl (fun a w => Try.call42 a w) rfl) rfl rfl rfl ?_
  repeat (first | refine zA ?_ | refine zB ?_ | refine zC ?_ | refine zD ?_ | refine zE ?_ | refine zF ?_ | refine zG ?_ | refine zH ?_ | refine zI ?_ | refine zJ ?_ | refine zK ?_ | refine zL ?_ | refine zT ?_ | refine zU ?_ | refine zV ?_ | refine zW ?_ | refine zM ?_ | refine zN ?_ | refine zO ?_ | refine zP ?_ | refine zQ ?_ | refine zR ?_ | refine zS ?_ | refine z0 ?_ | refine z1 ?_ | refine z2 ?_ | refine z3 ?_ | refine z4 ?_ | refine z5 ?_ | refine z6 ?_ | refine z7 ?_ | refine z8 ?_ | refine z9 ?_)
  generalize h1 : decide (faultF xs.length a = 0) = cc; cases cc
  · rw [if_neg (of_decide_eq_false h1)] at hE
    repeat (first | refine zA ?_ | refine zB ?_ | refine zC ?_ | refine zD ?_ | refine zE ?_ | refine zF ?_ | refine zG ?_ | refine zH ?_ | refine zI ?_ | refine zJ ?_ | refine zK ?_ | refine zL ?_ | refine zT ?_ | refine zU ?_ | refine zV ?_ | refine zW ?_ | refine zM ?_ | refine zN ?_ | refine zO ?_ | refine zP ?_ | refine zQ ?_ | refine zR ?_ | refine zS ?_ | refine z0 ?_ | refine z1 ?_ | refine z2 ?_ | refine z3 ?_ | refine z4 ?_ | refine z5 ?_ | refine z6 ?_ | refine z7 ?_ | refine z8 ?_ | refine z9 ?_)
    first | refine fin_ret rfl ?_ | refine fin_normal rfl ?_
    rw [← hE]
  · have h1' := of_decide_eq_true h1
    rw [if_pos h1'] at hE
    obtain ⟨hc0, hc1⟩ := fault_zero h1'
    have hml := turnF_len xs a
    repeat (first | refine zA ?_ | refine zB ?_ | refine zC ?_ | refine zD ?_ | refine zE ?_ | refine zF ?_ | refine zG ?_ | refine zH ?_ | refine zI ?_ | refine zJ ?_ | refine zK ?_ | refine zL ?_ | refine zT ?_ | refine zU ?_ | refine zV ?_ | refine zW ?_ | refine zM ?_ | refine zN ?_ | refine zO ?_ | refine zP ?_ | refine zQ ?_ | refine zR ?_ | refine zS ?_ | refine z0 ?_ | refine z1 ?_ | refine z2 ?_ | refine z3 ?_ | refine z4 ?_ | refine z5 ?_ | refine z6 ?_ | refine z7 ?_ | refine z8 ?_ | refine z9 ?_)
    refine a_callI (clone_i xs (by omega) hn) rfl (fun a w => Try.call43 a w) rfl rfl trivial trivial rfl rfl rfl rfl ?_ ?_
    · rintro d bs ⟨c, cs, rfl, rfl, _⟩
      exact ⟨.inr rfl, trivial⟩
    rintro d bs ⟨c, cs, rfl, rfl, hlc, hc, hcm, htk, hpl⟩
    have hT := turn_i xs a.kind a.cell.toNat a.old a.new (by omega) hn c cs hlc hc htk hpl
    rw [show ((a.cell.toNat : Nat) : Int) = a.cell by omega] at hT
    repeat (first | refine zA ?_ | refine zB ?_ | refine zC ?_ | refine zD ?_ | refine zE ?_ | refine zF ?_ | refine zG ?_ | refine zH ?_ | refine zI ?_ | refine zJ ?_ | refine zK ?_ | refine zL ?_ | refine zT ?_ | refine zU ?_ | refine zV ?_ | refine zW ?_ | refine zM ?_ | refine zN ?_ | refine zO ?_ | refine zP ?_ | refine zQ ?_ | refine zR ?_ | refine zS ?_ | refine z0 ?_ | refine z1 ?_ | refine z2 ?_ | refine z3 ?_ | refine z4 ?_ | refine z5 ?_ | refine z6 ?_ | refine z7 ?_ | refine z8 ?_ | refine z9 ?_)
    refine a_callI hT rfl (fun a w => Try.call44 a w) rfl rfl (by (repeat (first | exact trivial | refine ⟨⟨rfl, hpl _ _⟩, ?_⟩))) (by (repeat (first | exact trivial | refine ⟨.inr rfl, ?_⟩))) rfl rfl rfl rfl ?_ ?_
    · rintro d bs ⟨_, cs', rfl, _⟩
      exact ⟨.inl rfl, trivial⟩
    rintro d bs ⟨rfl, cs', rfl, k1, k2, k3⟩
    repeat (first | refine z0 ?_ | refine z1 ?_ | refine z2 ?_ | refine z3 ?_ | refine z4 ?_ | refine z5 ?_ | refine z6 ?_ | refine z7 ?_ | refine z8 ?_ | refine z9 ?_)
    refine q_then_normal ?_
    refine awp_ghost (freeze_ghost 8 9 (pInts (turnF xs a).1) rfl rfl rfl rfl k1 hc (by rw [pInts_len, hml]) k2 hcm (ints_lf _)) ?_
    refine awp_seq ?_
    refine awp_region_w 4 [2] rfl rfl (by kernel_rfl) (by kernel_rfl) (by kernel_rfl) ?_
    repeat (first | refine w0 ?_ | refine w1 ?_ | refine w2 ?_ | refine w3 ?_ | refine w4 ?_ | refine w5 ?_ | refine w6 ?_ | refine w7 ?_ | refine w8 ?_ | refine w9 ?_)
    repeat (first | refine zA ?_ | refine zB ?_ | refine zC ?_ | refine zD ?_ | refine zE ?_ | refine zF ?_ | refine zG ?_ | refine zH ?_ | refine zI ?_ | refine zJ ?_ | refine zK ?_ | refine zL ?_ | refine zT ?_ | refine zU ?_ | refine zV ?_ | refine zW ?_ | refine zM ?_ | refine zN ?_ | refine zO ?_ | refine zP ?_ | refine zQ ?_ | refine zR ?_ | refine zS ?_ | refine z0 ?_ | refine z1 ?_ | refine z2 ?_ | refine z3 ?_ | refine z4 ?_ | refine z5 ?_ | refine z6 ?_ | refine z7 ?_ | refine z8 ?_ | refine z9 ?_)
    first | refine fin_ret rfl ?_ | refine fin_normal rfl ?_
    rw [← hE]
    simp only [dMem, dInts, hml]
end Go.Proofs.Ytpecgpmdchejdaa
