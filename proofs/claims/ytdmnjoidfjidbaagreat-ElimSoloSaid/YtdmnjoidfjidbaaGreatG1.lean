/- Tries of pushes and pops, and how a push looks for who met it: their walks. -/
import Derived.Test.YtdmnjoidfjidbaaGreatD9
import Derived.Test.YtdmnjoidfjidbaaGreatW1
import Derived.Test.YtdmnjoidfjidbaaGreatPB
namespace Go.Proofs.YtdmnjoidfjidbaaGreat
open Go.RowKit
set_option maxRecDepth 100000

set_option maxHeartbeats 4000000 in
theorem tryPush_x (l : LayT) (hL : LayOk l) (me : Int) (log : List ResT) (s : PsT) (top n : Int) (hn : n < 9223372036854775808) (hm : s.made ≤ log.length) (hl : log.length ≤ 1000000) : PmC 82 l me log s [.ptr 11 0, dI top, dI n] (tryPush l top n log s) (fun b => dB b) := by
  generalize hE : tryPush l top n log s = E
  unfold tryPush at hE
  refine sX Tryz.func82 Tryz.ntmps82 fun w cl own kf => ?_
  refine go ?_
  refine cX (load_x l me log s top hm hl) (fun a w => Tryz.call84 a w) ?_ ?_ ?_ ?_
  · rintro d bs ⟨x, s', _, _, _, rfl, rfl⟩; exact ⟨.inl rfl, .inl rfl, .inl rfl, trivial⟩
  · rintro v bs ⟨a, s', _, rfl, rfl⟩; exact ⟨.inl rfl, .inl rfl, .inl rfl, trivial⟩
  · rintro v bs ⟨a, s', h, rfl, rfl⟩
    refine gP ?_
    refine fP (pieceB l me log s') ?_
    exact ⟨a, s', by rw [← hE]; exact bind_err h, rfl, rfl⟩
  rintro d bs ⟨was, s3, hq3, hle3, hlen3, rfl, rfl⟩
  rw [bind_ok hq3] at hE
  have hx2 := ofW_cnt was
  refine go ?_
  refine a_q (call_step (of_c was) rfl (fun a w => Tryz.call68 a w) rfl) rfl rfl rfl ?_
  refine go ?_
  refine awp_region_w 6 [] rfl rfl (by kernel_rfl) (by kernel_rfl) (by kernel_rfl) ?_
  refine goQ ?_
  refine r_q (lend_step (pnode_c l hL me s3 n 0 hn (by omega)) rfl (fun a w => Tryz.call81 a w) rfl rfl) rfl rfl ?_
  refine goQ ?_
  refine cX (store_x l me log s3 (nodeF l n 0) (ofW was).idx hlen3 hl) (fun a w => Tryz.call80 a w) ?_ ?_ ?_ ?_
  · rintro d bs ⟨x, s', _, _, _, rfl, rfl⟩; exact ⟨.inl rfl, .inl rfl, .inl rfl, trivial⟩
  · rintro v bs ⟨a, s', _, rfl, rfl⟩; exact ⟨.inl rfl, .inl rfl, .inl rfl, trivial⟩
  · rintro v bs ⟨a, s', h, rfl, rfl⟩
    refine gP ?_
    refine fP (pieceB l me log s') ?_
    exact ⟨a, s', by rw [← hE]; exact bind_err h, rfl, rfl⟩
  rintro d bs ⟨u, s4, hq4, hle4, hlen4, rfl, rfl⟩
  rw [bind_ok hq4] at hE
  refine go ?_
  refine a_q (call_step (turn_c (ofW was) n hx2.1 hx2.2) rfl (fun a w => Tryz.call71 a w) rfl) rfl rfl rfl ?_
  refine go ?_
  refine a_q (call_step (pack_c (turnW (ofW was) n)) rfl (fun a w => Tryz.call70 a w) rfl) rfl rfl rfl ?_
  refine go ?_
  refine cX (cas_x l me log s4 top was (packW (turnW (ofW was) n)) hlen4 hl) (fun a w => Tryz.call87 a w) ?_ ?_ ?_ ?_
  · rintro d bs ⟨x, s', _, _, _, rfl, rfl⟩; exact ⟨.inl rfl, .inl rfl, .inl rfl, trivial⟩
  · rintro v bs ⟨a, s', _, rfl, rfl⟩; exact ⟨.inl rfl, .inl rfl, .inl rfl, trivial⟩
  · rintro v bs ⟨a, s', h, rfl, rfl⟩
    refine gP ?_
    refine fP (pieceB l me log s') ?_
    exact ⟨a, s', by rw [← hE]; exact h, rfl, rfl⟩
  rintro d bs ⟨okk, s5, hq5, hle5, hlen5, rfl, rfl⟩
  refine go ?_
  first | refine fR (pieceB l me log s5) ?_ | refine fN (pieceB l me log s5) ?_
  exact ⟨okk, s5, by rw [← hE]; exact hq5, by omega, hlen5, rfl, rfl⟩

def metR (c mine no : Int) : Nat → Pm Bool
  | 0 => (casM c mine no).bind fun ok => .pure (!ok)
  | k + 1 => (loadM c).bind fun x => if x = mine then metR c mine no k else .pure true
set_option maxHeartbeats 4000000 in
theorem met_x (l : LayT) (me : Int) (log : List ResT) (s : PsT) (c mine no : Int) (hm : s.made ≤ log.length) (hl : log.length ≤ 1000000) : PmC 88 l me log s [.ptr 11 0, dI c, dI mine, dI no] (metM c mine no log s) (fun b => dB b) := by
  generalize hE : metM c mine no log s = E
  have hE : metR c mine no 2 log s = E := hE
  refine sX Tryz.func88 Tryz.ntmps88 fun w cl own kf => ?_
  refine go ?_
  refine awp_loop_ok (fun p : Nat × PsT => p.1 ≤ 2 ∧ s.made ≤ p.2.made ∧ p.2.made ≤ log.length ∧ metR c mine no (2 - p.1) log p.2 = E) (fun p => ⟨[(9, dI p.1), (0, .ptr 11 0), (1, dI c), (2, dI mine), (3, dI no), (8, dB false)], pieceB l me log p.2, []⟩) (fun p => 2 - p.1) (0, s) ⟨by simp only; omega, Nat.le_refl _, hm, hE⟩ (zX) ?_
  rintro ⟨i, t⟩ ⟨hi, ht0, ht1, hE⟩
  simp only at hi ht0 ht1 hE
  refine (show AWP _ _ _ _ ⟨[(9, dI i), (0, .ptr 11 0), (1, dI c), (2, dI mine), (3, dI no), (8, dB false)], pieceB l me log t, []⟩ from ?_)
  refine go ?_
  refine ck_b (fun h1 => ?_) (fun h1 => ?_) <;> try rw [h1]
  · have h1' := of_decide_eq_true h1
    rw [show 2 - i = (2 - (i + 1)) + 1 by omega, metR] at hE
    refine go ?_
    refine cX (load_x l me log t c ht1 hl) (fun a w => Tryz.call84 a w) ?_ ?_ ?_ ?_
    · rintro d bs ⟨x, s', _, _, _, rfl, rfl⟩; exact ⟨.inl rfl, .inl rfl, .inl rfl, trivial⟩
    · rintro v bs ⟨a, s', _, rfl, rfl⟩; exact ⟨.inl rfl, .inl rfl, .inl rfl, trivial⟩
    · rintro v bs ⟨a, s', h, rfl, rfl⟩
      refine gP ?_
      refine fP (pieceB l me log s') ?_
      exact ⟨a, s', by rw [← hE]; exact bind_err h, rfl, rfl⟩
    rintro d bs ⟨x, s1, hq1, hle1, hlen1, rfl, rfl⟩
    rw [bind_ok hq1] at hE
    refine go ?_
    generalize h2 : decide (x = mine) = cc; cases cc
    · rw [if_neg (of_decide_eq_false h2)] at hE
      refine go ?_
      first | refine fR (pieceB l me log s1) ?_ | refine fN (pieceB l me log s1) ?_
      exact ⟨true, s1, hE.symm, by omega, hlen1, rfl, rfl⟩
    · rw [if_pos (of_decide_eq_true h2)] at hE
      refine go ?_
      exact ⟨(i + 1, s1), ⟨by simp only; omega, by simp only; omega, hlen1, hE⟩, by simp only; omega, zX⟩
  · have h1' := of_decide_eq_false h1
    rw [show 2 - i = 0 by omega, metR] at hE
    refine go ?_
    refine cX (cas_x l me log t c mine no ht1 hl) (fun a w => Tryz.call87 a w) ?_ ?_ ?_ ?_
    · rintro d bs ⟨x, s', _, _, _, rfl, rfl⟩; exact ⟨.inl rfl, .inl rfl, .inl rfl, trivial⟩
    · rintro v bs ⟨a, s', _, rfl, rfl⟩; exact ⟨.inl rfl, .inl rfl, .inl rfl, trivial⟩
    · rintro v bs ⟨a, s', h, rfl, rfl⟩
      refine gP ?_
      refine fP (pieceB l me log s') ?_
      exact ⟨a, s', by rw [← hE]; exact bind_err h, rfl, rfl⟩
    rintro d bs ⟨okk, s1, hq1, hle1, hlen1, rfl, rfl⟩
    rw [bind_ok hq1] at hE
    refine go ?_
    first | refine fR (pieceB l me log s1) ?_ | refine fN (pieceB l me log s1) ?_
    exact ⟨!okk, s1, hE.symm, by omega, hlen1, rfl, rfl⟩

set_option maxHeartbeats 4000000 in
theorem tryPop_x (l : LayT) (hL : LayOk l) (me : Int) (log : List ResT) (s : PsT) (top : Int) (hm : s.made ≤ log.length) (hl : log.length ≤ 1000000) : PmC 90 l me log s [.ptr 11 0, dI top] (tryPop l me top log s) (fun p => .tup [dI p.1, dI p.2.1, dI p.2.2]) := by
  generalize hE : tryPop l me top log s = E
  unfold tryPop at hE
  refine sX Tryz.func90 Tryz.ntmps90 fun w cl own kf => ?_
  refine go ?_
  refine cX (guard_x l hL me log s 0 top (.inl rfl) hm hl) (fun a w => Tryz.call103 a w) ?_ ?_ ?_ ?_
  · rintro d bs ⟨x, s', _, _, _, rfl, rfl⟩; exact ⟨.inl rfl, .inl rfl, .inl rfl, trivial⟩
  · rintro v bs ⟨a, s', _, rfl, rfl⟩; exact ⟨.inl rfl, .inl rfl, .inl rfl, trivial⟩
  · rintro v bs ⟨a, s', h, rfl, rfl⟩
    refine gP ?_
    refine fP (pieceB l me log s') ?_
    exact ⟨a, s', by rw [← hE]; exact bind_err h, rfl, rfl⟩
  rintro d bs ⟨p, s1, hq1, hle1, hlen1, rfl, rfl⟩
  rw [bind_ok hq1] at hE
  obtain ⟨was, at_⟩ := p
  simp only at hE
  have hx1 := ofW_idx was
  have hx2 := ofW_cnt was
  refine go ?_
  refine a_q (call_step (of_c was) rfl (fun a w => Tryz.call68 a w) rfl) rfl rfl rfl ?_
  refine go ?_
  generalize h1 : decide ((ofW was).idx = 0) = cc; cases cc
  · rw [if_neg (of_decide_eq_false h1)] at hE
    refine go ?_
    refine a_q (lend_step (pnode_c l hL me s1 (ofW was).idx 0 (by omega) (by omega)) rfl (fun a w => Tryz.call81 a w) rfl rfl) rfl rfl rfl ?_
    refine go ?_
    refine cX (load_x l me log s1 (nodeF l (ofW was).idx 0) hlen1 hl) (fun a w => Tryz.call84 a w) ?_ ?_ ?_ ?_
    · rintro d bs ⟨x, s', _, _, _, rfl, rfl⟩; exact ⟨.inl rfl, .inl rfl, .inl rfl, trivial⟩
    · rintro v bs ⟨a, s', _, rfl, rfl⟩; exact ⟨.inl rfl, .inl rfl, .inl rfl, trivial⟩
    · rintro v bs ⟨a, s', h, rfl, rfl⟩
      refine gP ?_
      refine fP (pieceB l me log s') ?_
      exact ⟨a, s', by rw [← hE]; exact bind_err h, rfl, rfl⟩
    rintro d bs ⟨below, s2, hq2, hle2, hlen2, rfl, rfl⟩
    rw [bind_ok hq2] at hE
    refine go ?_
    refine a_q (call_step (turn_c (ofW was) below hx2.1 hx2.2) rfl (fun a w => Tryz.call71 a w) rfl) rfl rfl rfl ?_
    refine go ?_
    refine a_q (call_step (pack_c (turnW (ofW was) below)) rfl (fun a w => Tryz.call70 a w) rfl) rfl rfl rfl ?_
    refine go ?_
    refine cX (cas_x l me log s2 top was (packW (turnW (ofW was) below)) hlen2 hl) (fun a w => Tryz.call87 a w) ?_ ?_ ?_ ?_
    · rintro d bs ⟨x, s', _, _, _, rfl, rfl⟩; exact ⟨.inl rfl, .inl rfl, .inl rfl, trivial⟩
    · rintro v bs ⟨a, s', _, rfl, rfl⟩; exact ⟨.inl rfl, .inl rfl, .inl rfl, trivial⟩
    · rintro v bs ⟨a, s', h, rfl, rfl⟩
      refine gP ?_
      refine fP (pieceB l me log s') ?_
      exact ⟨a, s', by rw [← hE]; exact bind_err h, rfl, rfl⟩
    rintro d bs ⟨okk, s3, hq3, hle3, hlen3, rfl, rfl⟩
    rw [bind_ok hq3] at hE
    have hs3 := casM_made hq3
    refine go ?_
    cases okk
    · rw [if_neg (by decide), bind_ok last_ok] at hE
      refine go ?_
      refine a_q (lend_step (plast_c l me s3 (by omega)) rfl (fun a w => Tryz.call83 a w) rfl rfl) rfl rfl rfl ?_
      refine go ?_
      first | refine fR (pieceB l me log s3) ?_ | refine fN (pieceB l me log s3) ?_
      exact ⟨_, s3, hE.symm, by omega, hlen3, rfl, rfl⟩
    · rw [if_pos rfl, bind_ok last_ok] at hE
      refine go ?_
      refine awp_region_w 4 [] rfl rfl (by kernel_rfl) (by kernel_rfl) (by kernel_rfl) ?_
      refine goQ ?_
      refine r_q (lend_step (plast_c l me s3 (by omega)) rfl (fun a w => Tryz.call83 a w) rfl rfl) rfl rfl ?_
      refine goQ ?_
      refine go ?_
      first | refine fR (pieceB l me log s3) ?_ | refine fN (pieceB l me log s3) ?_
      exact ⟨_, s3, hE.symm, by omega, hlen3, rfl, rfl⟩
  · rw [if_pos (of_decide_eq_true h1)] at hE
    refine go ?_
    first | refine fR (pieceB l me log s1) ?_ | refine fN (pieceB l me log s1) ?_
    exact ⟨_, s1, hE.symm, hle1, hlen1, rfl, rfl⟩
end Go.Proofs.YtdmnjoidfjidbaaGreat
