/- Programs of sends and receives: their walks. -/
import Derived.Test.YtgoijmomglomlaaG2
import Derived.Test.YtgoijmomglomlaaG3
import Derived.Test.YtgoijmomglomlaaD13
namespace Go.Proofs.Ytgoijmomglomlaa
open Go.RowKit
set_option maxRecDepth 100000

abbrev sFn : Dt := .fn (.func 81) [] [.ptr 14 0, .ptr 15 0, .ptr 16 0, .ptr 17 0]
abbrev rFn : Dt := .fn (.func 92) [] [.ptr 14 0, .ptr 15 0, .ptr 16 0]
/-- The variables of a program of sends, or of receives; 18 is the attempt. -/
abbrev sndB (l : LayT) (me : Int) (log : List ResT) (tl v mine : Int) (s : PsT) : Bxs := [(11, pieceD l me s), (12, [.ptr 11 0]), (13, [dLog log]), (14, [.ptr 11 0]), (15, [dI tl]), (16, [dI v]), (17, [dI mine]), (18, [sFn])]
abbrev rcvB (l : LayT) (me : Int) (log : List ResT) (hd tl : Int) (s : PsT) : Bxs := [(11, pieceD l me s), (12, [.ptr 11 0]), (13, [dLog log]), (14, [.ptr 11 0]), (15, [dI hd]), (16, [dI tl]), (18, [rFn])]
theorem sends_i (l : LayT) (me : Int) (log : List ResT) (s : PsT) (tl v : Int) : ImpC Try.prog 67 [11, 12, 13] [.ptr 11 0, dI tl, dI v] (pieceB l me log s) (fun d bs => d = sFn ∧ bs = sendB l me log tl v 0 s) := by
  refine imp_fin tabOk Try.func67 rfl Try.ntmps67 rfl rfl rfl (by (repeat (first | exact trivial | refine ⟨rfl, ?_⟩))) fun w cl own kf => ?_
  refine goC ?_
  refine a_b (box_step 14 rfl rfl rfl rfl) rfl rfl rfl rfl ?_
  refine a_b (box_step 15 rfl rfl rfl rfl) rfl rfl rfl rfl ?_
  refine a_b (box_step 16 rfl rfl rfl rfl) rfl rfl rfl rfl ?_
  refine a_ax tabOk rfl rfl rfl rfl ?_
  refine aops_nil ?_
  refine goC ?_
  refine a_b (alloc_step tabOk 17 rfl rfl rfl rfl) rfl rfl rfl rfl ?_
  refine go ?_
  refine finI_ret (sendB l me log tl v 0 s) rfl rfl (by (repeat (first | exact trivial | refine ⟨⟨rfl, rfl⟩, ?_⟩))) (by (repeat (first | exact trivial | refine ⟨rfl, ?_⟩))) ?_
  exact ⟨rfl, rfl⟩
theorem receives_i (l : LayT) (me : Int) (log : List ResT) (s : PsT) (hd tl : Int) : ImpC Try.prog 68 [11, 12, 13] [.ptr 11 0, dI hd, dI tl] (pieceB l me log s) (fun d bs => d = rFn ∧ bs = recvB l me log hd tl s) := by
  refine imp_fin tabOk Try.func68 rfl Try.ntmps68 rfl rfl rfl (by (repeat (first | exact trivial | refine ⟨rfl, ?_⟩))) fun w cl own kf => ?_
  refine goC ?_
  refine a_b (box_step 14 rfl rfl rfl rfl) rfl rfl rfl rfl ?_
  refine a_b (box_step 15 rfl rfl rfl rfl) rfl rfl rfl rfl ?_
  refine a_b (box_step 16 rfl rfl rfl rfl) rfl rfl rfl rfl ?_
  refine a_ax tabOk rfl rfl rfl rfl ?_
  refine aops_nil ?_
  refine goC ?_
  refine go ?_
  refine finI_ret (recvB l me log hd tl s) rfl rfl (by (repeat (first | exact trivial | refine ⟨⟨rfl, rfl⟩, ?_⟩))) (by (repeat (first | exact trivial | refine ⟨rfl, ?_⟩))) ?_
  exact ⟨rfl, rfl⟩
def SnR (l : LayT) (me : Int) (log : List ResT) (tl v : Int) (s : PsT) (m : Except AccT (OutT × PsT)) : Dt → Bxs → Prop := fun d bs => ∃ x s' mine, m = .ok (x, s') ∧ s'.gone = s.gone ∧ d = dOut0 x ∧ bs = sndB l me log tl v mine s'
def SnX (l : LayT) (me : Int) (log : List ResT) (tl v : Int) (m : Except AccT (OutT × PsT)) : Value → Bxs → Prop := fun y bs => ∃ a s' mine, m = .error a ∧ y = askedV a ∧ bs = sndB l me log tl v mine s'
set_option maxHeartbeats 4000000 in
theorem next1s_x (l : LayT) (hL : LayOk l) (me : Int) (log : List ResT) (s : PsT) (tl v : Int) (hv0 : 0 ≤ v) (hv1 : v < 4294967296) (hm : s.made ≤ log.length) (hl : log.length ≤ 1000000) :
    ImpX Try.prog 70 [11, 12, 13, 14, 15, 16, 17, 18] [.ptr 18 0] (sndB l me log tl v 0 s) (SnR l me log tl v s (sendM l me tl v log s)) (SnX l me log tl v (sendM l me tl v log s)) := by
  generalize hE : sendM l me tl v log s = E
  unfold sendM at hE
  refine impX_fin tabOk Try.func70 rfl Try.ntmps70 rfl rfl rfl (by (repeat (first | exact trivial | refine ⟨rfl, ?_⟩))) fun w cl own kf => ?_
  refine go ?_
  refine awp_loop_ok (fun p : Nat × Int × PsT => s.made ≤ p.2.2.made ∧ p.2.2.made ≤ log.length ∧ log.length - p.2.2.made < p.1 ∧ p.2.2.gone = s.gone ∧ 0 ≤ p.2.1 ∧ p.2.1 < 65536 ∧ sendL l me tl v p.1 p.2.1 log p.2.2 = E) (fun p => ⟨[(0, .ptr 18 0), (1, .ptr 8 0)], (8, [dI 0, dB false, dI 0, dI 0, .p (.sl true 0 [])]) :: sndB l me log tl v p.2.1 p.2.2, []⟩) (fun p => p.1) (log.length + 1 - s.made, 0, s) ⟨Nat.le_refl _, hm, by simp only; omega, rfl, by simp, by simp, hE⟩ (zX) ?_
  rintro ⟨k, mine, t⟩ ⟨ht0, ht1, ht2, htg, hm0, hm1, hE⟩
  simp only at ht0 ht1 ht2 htg hm0 hm1 hE
  obtain ⟨k, rfl⟩ : ∃ j, k = j + 1 := ⟨k - 1, by omega⟩
  refine (show AWP _ _ _ _ ⟨[(0, .ptr 18 0), (1, .ptr 8 0)], (8, [dI 0, dB false, dI 0, dI 0, .p (.sl true 0 [])]) :: sndB l me log tl v mine t, []⟩ from ?_)
  rw [sendL] at hE
  refine go ?_
  refine a_callvX (sendA_x l hL me log t tl v mine hv0 hv1 hm0 hm1 ht1 hl) rfl (fun a w => Try.call81 a w) rfl rfl rfl (by (repeat (first | exact trivial | refine ⟨⟨rfl, rfl⟩, ?_⟩))) (by (repeat (first | exact trivial | refine ⟨.inr rfl, ?_⟩ | refine ⟨.inl rfl, ?_⟩))) rfl rfl rfl rfl ?_ ?_ ?_ ?_
  · rintro d bs ⟨r, s', _, _, _, _, _, _, rfl, rfl⟩; exact ⟨.inl rfl, .inl rfl, .inl rfl, .inl rfl, .inl rfl, .inl rfl, .inl rfl, trivial⟩
  · rintro v bs ⟨a, s', mine', _, rfl, rfl⟩; exact ⟨.inl rfl, .inl rfl, .inl rfl, .inl rfl, .inl rfl, .inl rfl, .inl rfl, trivial⟩
  · rintro y bs ⟨a, s', mine', h, rfl, rfl⟩
    repeat (first | refine q_then_panic ?_ | refine q_block_panic ?_ | refine q_scope_panic ?_)
    refine finX_panic (sndB l me log tl v mine' s') (by (repeat (first | exact trivial | refine ⟨⟨rfl, rfl⟩, ?_⟩))) (by (repeat (first | exact trivial | refine ⟨rfl, ?_⟩))) ?_
    exact ⟨a, s', mine', by rw [← hE]; exact bind_err h, rfl, rfl⟩
  rintro d bs ⟨r, s1, hq1, hle1, hlen1, hg1, hr0, hr1, rfl, rfl⟩
  rw [bind_ok hq1] at hE
  obtain ⟨ro, mine'⟩ := r
  simp only at hE hr0 hr1
  refine go ?_
  cases ro with
  | none =>
    rw [show ((none, mine') : Option OutT × Int).1.isSome = false from rfl]
    refine go ?_
    exact ⟨(k, mine', s1), ⟨by simp only; omega, hlen1, by simp only; omega, by simp only; rw [hg1]; exact htg, hr0, hr1, hE⟩, by simp only; omega, zX⟩
  | some o =>
    rw [show ((some o, mine') : Option OutT × Int).1.isSome = true from rfl]
    refine go ?_
    first | refine finX_ret (sndB l me log tl v mine' s1) rfl rfl (by (repeat (first | exact trivial | refine ⟨⟨rfl, rfl⟩, ?_⟩))) (by (repeat (first | exact trivial | refine ⟨rfl, ?_⟩))) ?_ | refine finX_normal (sndB l me log tl v mine' s1) rfl rfl (by (repeat (first | exact trivial | refine ⟨⟨rfl, rfl⟩, ?_⟩))) (by (repeat (first | exact trivial | refine ⟨rfl, ?_⟩))) ?_
    exact ⟨o, s1, mine', hE.symm, by rw [hg1]; exact htg, rfl, rfl⟩
def RnR (l : LayT) (me : Int) (log : List ResT) (hd tl : Int) (s : PsT) (m : Except AccT (OutT × PsT)) : Dt → Bxs → Prop := fun d bs => ∃ x s', m = .ok (x, s') ∧ GoneOk s'.gone ∧ s'.gone.length + s.made ≤ s.gone.length + s'.made ∧ s'.made ≤ log.length ∧ d = dOut0 x ∧ bs = rcvB l me log hd tl s'
def RnX (l : LayT) (me : Int) (log : List ResT) (hd tl : Int) (m : Except AccT (OutT × PsT)) : Value → Bxs → Prop := fun y bs => ∃ a s', m = .error a ∧ y = askedV a ∧ bs = rcvB l me log hd tl s'
set_option maxHeartbeats 4000000 in
theorem next1r_x (l : LayT) (hL : LayOk l) (me : Int) (log : List ResT) (s : PsT) (hd tl : Int) (hgo : GoneOk s.gone) (hgl : s.gone.length + log.length ≤ 10000) (hm : s.made ≤ log.length) (hl : log.length ≤ 1000000) :
    ImpX Try.prog 70 [11, 12, 13, 14, 15, 16, 18] [.ptr 18 0] (rcvB l me log hd tl s) (RnR l me log hd tl s (recvM l me hd tl log s)) (RnX l me log hd tl (recvM l me hd tl log s)) := by
  generalize hE : recvM l me hd tl log s = E
  unfold recvM at hE
  refine impX_fin tabOk Try.func70 rfl Try.ntmps70 rfl rfl rfl (by (repeat (first | exact trivial | refine ⟨rfl, ?_⟩))) fun w cl own kf => ?_
  refine go ?_
  refine awp_loop_ok (fun p : Nat × PsT => s.made ≤ p.2.made ∧ p.2.made ≤ log.length ∧ log.length - p.2.made < p.1 ∧ GoneOk p.2.gone ∧ p.2.gone.length + s.made ≤ s.gone.length + p.2.made ∧ recvL l me hd tl p.1 log p.2 = E) (fun p => ⟨[(0, .ptr 18 0), (1, .ptr 7 0)], (7, [dI 0, dB false, dI 0, dI 0, .p (.sl true 0 [])]) :: rcvB l me log hd tl p.2, []⟩) (fun p => p.1) (log.length + 1 - s.made, s) ⟨Nat.le_refl _, hm, by simp only; omega, hgo, Nat.le_refl _, hE⟩ (zX) ?_
  rintro ⟨k, t⟩ ⟨ht0, ht1, ht2, htg, htl, hE⟩
  simp only at ht0 ht1 ht2 htg htl hE
  obtain ⟨k, rfl⟩ : ∃ j, k = j + 1 := ⟨k - 1, by omega⟩
  refine (show AWP _ _ _ _ ⟨[(0, .ptr 18 0), (1, .ptr 7 0)], (7, [dI 0, dB false, dI 0, dI 0, .p (.sl true 0 [])]) :: rcvB l me log hd tl t, []⟩ from ?_)
  rw [recvL] at hE
  refine go ?_
  refine a_callvX (recvA_x l hL me log t hd tl htg (by omega) ht1 hl) rfl (fun a w => Try.call92 a w) rfl rfl rfl (by (repeat (first | exact trivial | refine ⟨⟨rfl, rfl⟩, ?_⟩))) (by (repeat (first | exact trivial | refine ⟨.inr rfl, ?_⟩ | refine ⟨.inl rfl, ?_⟩))) rfl rfl rfl rfl ?_ ?_ ?_ ?_
  · rintro d bs ⟨r, s', _, _, _, _, _, rfl, rfl⟩; exact ⟨.inl rfl, .inl rfl, .inl rfl, .inl rfl, .inl rfl, .inl rfl, trivial⟩
  · rintro v bs ⟨a, s', _, rfl, rfl⟩; exact ⟨.inl rfl, .inl rfl, .inl rfl, .inl rfl, .inl rfl, .inl rfl, trivial⟩
  · rintro y bs ⟨a, s', h, rfl, rfl⟩
    repeat (first | refine q_then_panic ?_ | refine q_block_panic ?_ | refine q_scope_panic ?_)
    refine finX_panic (rcvB l me log hd tl s') (by (repeat (first | exact trivial | refine ⟨⟨rfl, rfl⟩, ?_⟩))) (by (repeat (first | exact trivial | refine ⟨rfl, ?_⟩))) ?_
    exact ⟨a, s', by rw [← hE]; exact bind_err h, rfl, rfl⟩
  rintro d bs ⟨ro, s1, hq1, hle1, hlen1, hg1, hg2, rfl, rfl⟩
  rw [bind_ok hq1] at hE
  refine go ?_
  cases ro with
  | none =>
    rw [show (none : Option OutT).isSome = false from rfl]
    refine go ?_
    exact ⟨(k, s1), ⟨by simp only; omega, hlen1, by simp only; omega, hg1, by simp only; omega, hE⟩, by simp only; omega, zX⟩
  | some o =>
    rw [show (some o).isSome = true from rfl]
    refine go ?_
    first | refine finX_ret (rcvB l me log hd tl s1) rfl rfl (by (repeat (first | exact trivial | refine ⟨⟨rfl, rfl⟩, ?_⟩))) (by (repeat (first | exact trivial | refine ⟨rfl, ?_⟩))) ?_ | refine finX_normal (rcvB l me log hd tl s1) rfl rfl (by (repeat (first | exact trivial | refine ⟨⟨rfl, rfl⟩, ?_⟩))) (by (repeat (first | exact trivial | refine ⟨rfl, ?_⟩))) ?_
    exact ⟨o, s1, hE.symm, hg1, by omega, hlen1, rfl, rfl⟩
end Go.Proofs.Ytgoijmomglomlaa
