/- Pushes and pops at a stack without offers: their walks. -/
import Derived.Test.YtdmnjoidfjidbaaGreatTA
import Derived.Test.YtdmnjoidfjidbaaGreatE13
import Derived.Test.YtdmnjoidfjidbaaGreatPD
namespace Go.Proofs.YtdmnjoidfjidbaaGreat
open Go.RowKit
set_option maxRecDepth 100000

set_option maxHeartbeats 8000000 in
theorem spush_x (l : LayT) (hL : LayOk l) (me : Int) (log : List ResT) (s : PsT) (top v : Int) (hm : s.made ≤ log.length) (hl : log.length ≤ 1000000) : PmCS 34 l me log s [.ptr 11 0, dI top, dI v] (spushM l top v log s) dOut0 := by
  generalize hE : spushM l top v log s = E
  unfold spushM at hE
  refine sX Tryz.func34 Tryz.ntmps34 fun w cl own kf => ?_
  refine go ?_
  refine cX (take_xS l hL me log s hm hl) (fun a w => Tryz.call64 a w) ?_ ?_ ?_ ?_
  · rintro d bs ⟨x, s', _, _, _, rfl, rfl⟩; exact ⟨.inl rfl, .inl rfl, .inl rfl, trivial⟩
  · rintro v bs ⟨a, s', _, rfl, rfl⟩; exact ⟨.inl rfl, .inl rfl, .inl rfl, trivial⟩
  · rintro v bs ⟨a, s', h, rfl, rfl⟩
    refine gP ?_
    refine fP (pieceBS l me log s') ?_
    exact ⟨a, s', by rw [← hE]; exact bind_err h, rfl, rfl⟩
  rintro d bs ⟨p, s1, hq1, hle1, hlen1, rfl, rfl⟩
  rw [bind_ok hq1] at hE
  have hp1 := (takeL_idx hq1).1
  obtain ⟨n, at_, ok⟩ := p
  simp only at hE hp1
  refine go ?_
  cases ok
  · rw [if_neg (by decide)] at hE
    refine go ?_
    first | refine fR (pieceBS l me log s1) ?_ | refine fN (pieceBS l me log s1) ?_
    exact ⟨_, s1, hE.symm, hle1, hlen1, rfl, rfl⟩
  · rw [if_pos rfl] at hE
    refine go ?_
    refine a_q (lend_step (pnode_cS l hL me s1 n 1 (by omega) (by omega)) rfl (fun a w => Tryz.call66 a w) rfl rfl) rfl rfl rfl ?_
    refine go ?_
    refine cX (store_xS l me log s1 (nodeF l n 1) v hlen1 hl) (fun a w => Tryz.call65 a w) ?_ ?_ ?_ ?_
    · rintro d bs ⟨x, s', _, _, _, rfl, rfl⟩; exact ⟨.inl rfl, .inl rfl, .inl rfl, trivial⟩
    · rintro v bs ⟨a, s', _, rfl, rfl⟩; exact ⟨.inl rfl, .inl rfl, .inl rfl, trivial⟩
    · rintro v bs ⟨a, s', h, rfl, rfl⟩
      refine gP ?_
      refine fP (pieceBS l me log s') ?_
      exact ⟨a, s', by rw [← hE]; exact bind_err h, rfl, rfl⟩
    rintro d bs ⟨u, s2, hq2, hle2, hlen2, rfl, rfl⟩
    rw [bind_ok hq2] at hE
    refine go ?_
    refine awp_loop_ok (fun p : Nat × PsT => s.made ≤ p.2.made ∧ p.2.made ≤ log.length ∧ log.length - p.2.made < p.1 ∧ spushL l top n p.1 log p.2 = E) (fun p => ⟨[(0, .ptr 11 0), (1, dI top), (2, dI v), (7, dI n), (6, .ptr 3 0)], (3, [dI 0, dB false, dI 0, dI 0, .p (.sl true 0 [])]) :: pieceBS l me log p.2, []⟩) (fun p => p.1) (log.length + 1 - s2.made, s2) ⟨by simp only; omega, hlen2, by simp only; omega, hE⟩ (zX) ?_
    rintro ⟨k, t⟩ ⟨ht0, ht1, ht2, hE⟩
    simp only at ht0 ht1 ht2 hE
    obtain ⟨k, rfl⟩ : ∃ j, k = j + 1 := ⟨k - 1, by omega⟩
    refine (show AWP _ _ _ _ ⟨[(0, .ptr 11 0), (1, dI top), (2, dI v), (7, dI n), (6, .ptr 3 0)], (3, [dI 0, dB false, dI 0, dI 0, .p (.sl true 0 [])]) :: pieceBS l me log t, []⟩ from ?_)
    rw [spushL, tryPush, bind_assoc] at hE
    refine go ?_
    refine cX (load_xS l me log t top ht1 hl) (fun a w => Tryz.call67 a w) ?_ ?_ ?_ ?_
    · rintro d bs ⟨x, s', _, _, _, rfl, rfl⟩; exact ⟨.inl rfl, .inl rfl, .inl rfl, trivial⟩
    · rintro v bs ⟨a, s', _, rfl, rfl⟩; exact ⟨.inl rfl, .inl rfl, .inl rfl, trivial⟩
    · rintro v bs ⟨a, s', h, rfl, rfl⟩
      refine gP ?_
      refine fP (pieceBS l me log s') ?_
      exact ⟨a, s', by rw [← hE]; exact bind_err h, rfl, rfl⟩
    rintro d bs ⟨was, s3, hq3, hle3, hlen3, rfl, rfl⟩
    rw [bind_ok hq3, bind_assoc] at hE
    have hs3 := loadM_made hq3
    have hx2 := ofW_cnt was
    refine go ?_
    refine a_q (call_step (of_c was) rfl (fun a w => Tryz.call68 a w) rfl) rfl rfl rfl ?_
    refine go ?_
    refine awp_region_w 6 [] rfl rfl (by kernel_rfl) (by kernel_rfl) (by kernel_rfl) ?_
    refine goQ ?_
    refine r_q (lend_step (pnode_cS l hL me s3 n 0 (by omega) (by omega)) rfl (fun a w => Tryz.call66 a w) rfl rfl) rfl rfl ?_
    refine goQ ?_
    refine cX (store_xS l me log s3 (nodeF l n 0) (ofW was).idx hlen3 hl) (fun a w => Tryz.call65 a w) ?_ ?_ ?_ ?_
    · rintro d bs ⟨x, s', _, _, _, rfl, rfl⟩; exact ⟨.inl rfl, .inl rfl, .inl rfl, trivial⟩
    · rintro v bs ⟨a, s', _, rfl, rfl⟩; exact ⟨.inl rfl, .inl rfl, .inl rfl, trivial⟩
    · rintro v bs ⟨a, s', h, rfl, rfl⟩
      refine gP ?_
      refine fP (pieceBS l me log s') ?_
      exact ⟨a, s', by rw [← hE]; exact bind_err h, rfl, rfl⟩
    rintro d bs ⟨u, s4, hq4, hle4, hlen4, rfl, rfl⟩
    rw [bind_ok hq4] at hE
    have hs4 := storeM_made hq4
    refine go ?_
    refine a_q (call_step (turn_c (ofW was) n hx2.1 hx2.2) rfl (fun a w => Tryz.call71 a w) rfl) rfl rfl rfl ?_
    refine go ?_
    refine a_q (call_step (pack_c (turnW (ofW was) n)) rfl (fun a w => Tryz.call70 a w) rfl) rfl rfl rfl ?_
    refine go ?_
    refine cX (cas_xS l me log s4 top was (packW (turnW (ofW was) n)) hlen4 hl) (fun a w => Tryz.call69 a w) ?_ ?_ ?_ ?_
    · rintro d bs ⟨x, s', _, _, _, rfl, rfl⟩; exact ⟨.inl rfl, .inl rfl, .inl rfl, trivial⟩
    · rintro v bs ⟨a, s', _, rfl, rfl⟩; exact ⟨.inl rfl, .inl rfl, .inl rfl, trivial⟩
    · rintro v bs ⟨a, s', h, rfl, rfl⟩
      refine gP ?_
      refine fP (pieceBS l me log s') ?_
      exact ⟨a, s', by rw [← hE]; exact bind_err h, rfl, rfl⟩
    rintro d bs ⟨okk, s5, hq5, hle5, hlen5, rfl, rfl⟩
    rw [bind_ok hq5] at hE
    have hs5 := casM_made hq5
    refine go ?_
    cases okk
    · rw [if_neg (by decide)] at hE
      refine go ?_
      exact ⟨(k, s5), ⟨by simp only; omega, hlen5, by simp only; omega, hE⟩, by simp only; omega, zX⟩
    · rw [if_pos rfl, bind_ok last_ok] at hE
      refine go ?_
      refine a_q (lend_step (plast_cS l me s5 (by omega)) rfl (fun a w => Tryz.call72 a w) rfl rfl) rfl rfl rfl ?_
      refine go ?_
      first | refine fR (pieceBS l me log s5) ?_ | refine fN (pieceBS l me log s5) ?_
      exact ⟨_, s5, hE.symm, by omega, hlen5, rfl, rfl⟩
set_option maxHeartbeats 8000000 in
theorem spop_x (l : LayT) (hL : LayOk l) (me : Int) (log : List ResT) (s : PsT) (top : Int) (hgo : GoneOk s.gone) (hgl : s.gone.length ≤ 10000) (hm : s.made ≤ log.length) (hl : log.length ≤ 1000000) : PmCS 36 l me log s [.ptr 11 0, dI top] (spopM l me top log s) dOut0 := by
  generalize hE : spopM l me top log s = E
  unfold spopM at hE
  refine sX Tryz.func36 Tryz.ntmps36 fun w cl own kf => ?_
  refine go ?_
  refine awp_loop_ok (fun p : Nat × PsT => s.made ≤ p.2.made ∧ p.2.made ≤ log.length ∧ log.length - p.2.made < p.1 ∧ p.2.gone = s.gone ∧ spopL l me top p.1 log p.2 = E) (fun p => ⟨[(0, .ptr 11 0), (1, dI top), (4, .ptr 3 0)], (3, [dI 0, dB false, dI 0, dI 0, .p (.sl true 0 [])]) :: pieceBS l me log p.2, []⟩) (fun p => p.1) (log.length + 1 - s.made, s) ⟨Nat.le_refl _, hm, by simp only; omega, rfl, hE⟩ (zX) ?_
  rintro ⟨k, t⟩ ⟨ht0, ht1, ht2, htg, hE⟩
  simp only at ht0 ht1 ht2 htg hE
  obtain ⟨k, rfl⟩ : ∃ j, k = j + 1 := ⟨k - 1, by omega⟩
  refine (show AWP _ _ _ _ ⟨[(0, .ptr 11 0), (1, dI top), (4, .ptr 3 0)], (3, [dI 0, dB false, dI 0, dI 0, .p (.sl true 0 [])]) :: pieceBS l me log t, []⟩ from ?_)
  rw [spopL] at hE
  refine go ?_
  refine cX (guard_xS l hL me log t 0 top (.inl rfl) ht1 hl) (fun a w => Tryz.call73 a w) ?_ ?_ ?_ ?_
  · rintro d bs ⟨x, s', _, _, _, rfl, rfl⟩; exact ⟨.inl rfl, .inl rfl, .inl rfl, trivial⟩
  · rintro v bs ⟨a, s', _, rfl, rfl⟩; exact ⟨.inl rfl, .inl rfl, .inl rfl, trivial⟩
  · rintro v bs ⟨a, s', h, rfl, rfl⟩
    refine gP ?_
    refine fP (pieceBS l me log s') ?_
    exact ⟨a, s', by rw [← hE]; exact bind_err h, rfl, rfl⟩
  rintro d bs ⟨p, s1, hq1, hle1, hlen1, rfl, rfl⟩
  rw [bind_ok hq1] at hE
  have hs1 := guardL_made ht1 hq1
  have hg1 : s1.gone = s.gone := (guardL_gone hq1).trans htg
  obtain ⟨was, at_⟩ := p
  simp only at hE
  have hx1 := ofW_idx was
  have hx2 := ofW_cnt was
  refine go ?_
  refine a_q (call_step (of_c was) rfl (fun a w => Tryz.call68 a w) rfl) rfl rfl rfl ?_
  refine go ?_
  generalize h1 : decide ((ofW was).idx = 0) = cc; cases cc
  · rw [if_neg (of_decide_eq_false h1)] at hE
    refine go ?_
    refine a_q (lend_step (pnode_cS l hL me s1 (ofW was).idx 0 (by omega) (by omega)) rfl (fun a w => Tryz.call66 a w) rfl rfl) rfl rfl rfl ?_
    refine go ?_
    refine cX (load_xS l me log s1 (nodeF l (ofW was).idx 0) hlen1 hl) (fun a w => Tryz.call67 a w) ?_ ?_ ?_ ?_
    · rintro d bs ⟨x, s', _, _, _, rfl, rfl⟩; exact ⟨.inl rfl, .inl rfl, .inl rfl, trivial⟩
    · rintro v bs ⟨a, s', _, rfl, rfl⟩; exact ⟨.inl rfl, .inl rfl, .inl rfl, trivial⟩
    · rintro v bs ⟨a, s', h, rfl, rfl⟩
      refine gP ?_
      refine fP (pieceBS l me log s') ?_
      exact ⟨a, s', by rw [← hE]; exact bind_err h, rfl, rfl⟩
    rintro d bs ⟨below, s2, hq2, hle2, hlen2, rfl, rfl⟩
    rw [bind_ok hq2] at hE
    have hs2 := loadM_made hq2
    have hg2 : s2.gone = s.gone := by rw [(loadM_gone hq2).1]; exact hg1
    refine go ?_
    refine a_q (call_step (turn_c (ofW was) below hx2.1 hx2.2) rfl (fun a w => Tryz.call71 a w) rfl) rfl rfl rfl ?_
    refine go ?_
    refine a_q (call_step (pack_c (turnW (ofW was) below)) rfl (fun a w => Tryz.call70 a w) rfl) rfl rfl rfl ?_
    refine go ?_
    refine cX (cas_xS l me log s2 top was (packW (turnW (ofW was) below)) hlen2 hl) (fun a w => Tryz.call69 a w) ?_ ?_ ?_ ?_
    · rintro d bs ⟨x, s', _, _, _, rfl, rfl⟩; exact ⟨.inl rfl, .inl rfl, .inl rfl, trivial⟩
    · rintro v bs ⟨a, s', _, rfl, rfl⟩; exact ⟨.inl rfl, .inl rfl, .inl rfl, trivial⟩
    · rintro v bs ⟨a, s', h, rfl, rfl⟩
      refine gP ?_
      refine fP (pieceBS l me log s') ?_
      exact ⟨a, s', by rw [← hE]; exact bind_err h, rfl, rfl⟩
    rintro d bs ⟨okk, s3, hq3, hle3, hlen3, rfl, rfl⟩
    rw [bind_ok hq3] at hE
    have hs3 := casM_made hq3
    have hg3 : s3.gone = s.gone := by rw [(casM_gone hq3).1]; exact hg2
    refine go ?_
    cases okk
    · rw [if_neg (by decide)] at hE
      refine go ?_
      exact ⟨(k, s3), ⟨by simp only; omega, hlen3, by simp only; omega, hg3, hE⟩, by simp only; omega, zX⟩
    · rw [if_pos rfl, bind_ok last_ok] at hE
      refine go ?_
      refine a_q (lend_step (plast_cS l me s3 (by omega)) rfl (fun a w => Tryz.call72 a w) rfl rfl) rfl rfl rfl ?_
      refine go ?_
      refine a_q (lend_step (pnode_cS l hL me s3 (ofW was).idx 1 (by omega) (by omega)) rfl (fun a w => Tryz.call66 a w) rfl rfl) rfl rfl rfl ?_
      refine go ?_
      refine cX (load_xS l me log s3 (nodeF l (ofW was).idx 1) hlen3 hl) (fun a w => Tryz.call67 a w) ?_ ?_ ?_ ?_
      · rintro d bs ⟨x, s', _, _, _, rfl, rfl⟩; exact ⟨.inl rfl, .inl rfl, .inl rfl, trivial⟩
      · rintro v bs ⟨a, s', _, rfl, rfl⟩; exact ⟨.inl rfl, .inl rfl, .inl rfl, trivial⟩
      · rintro v bs ⟨a, s', h, rfl, rfl⟩
        refine gP ?_
        refine fP (pieceBS l me log s') ?_
        exact ⟨a, s', by rw [← hE]; exact bind_err h, rfl, rfl⟩
      rintro d bs ⟨va, s4, hq4, hle4, hlen4, rfl, rfl⟩
      rw [bind_ok hq4] at hE
      have hg4 : s4.gone = s.gone := by rw [(loadM_gone hq4).1]; exact hg3
      refine go ?_
      refine cX (clear_xS l hL me log s4 hlen4 hl) (fun a w => Tryz.call74 a w) ?_ ?_ ?_ ?_
      · rintro d bs ⟨x, s', _, _, _, rfl, rfl⟩; exact ⟨.inl rfl, .inl rfl, .inl rfl, trivial⟩
      · rintro v bs ⟨a, s', _, rfl, rfl⟩; exact ⟨.inl rfl, .inl rfl, .inl rfl, trivial⟩
      · rintro v bs ⟨a, s', h, rfl, rfl⟩
        refine gP ?_
        refine fP (pieceBS l me log s') ?_
        exact ⟨a, s', by rw [← hE]; exact bind_err h, rfl, rfl⟩
      rintro d bs ⟨u, s5, hq5, hle5, hlen5, rfl, rfl⟩
      rw [bind_ok hq5] at hE
      have hg5 : s5.gone = s.gone := (clrL_gone hq5).trans hg4
      refine go ?_
      refine cX (retire_xS l hL me log s5 (ofW was).idx (by omega) (by rw [hg5]; exact hgo) (by rw [hg5]; exact hgl) hlen5 hl) (fun a w => Tryz.call75 a w) ?_ ?_ ?_ ?_
      · rintro d bs ⟨x, s', _, _, _, rfl, rfl⟩; exact ⟨.inl rfl, .inl rfl, .inl rfl, trivial⟩
      · rintro v bs ⟨a, s', _, rfl, rfl⟩; exact ⟨.inl rfl, .inl rfl, .inl rfl, trivial⟩
      · rintro v bs ⟨a, s', h, rfl, rfl⟩
        refine gP ?_
        refine fP (pieceBS l me log s') ?_
        exact ⟨a, s', by rw [← hE]; exact bind_err h, rfl, rfl⟩
      rintro d bs ⟨u, s6, hq6, hle6, hlen6, rfl, rfl⟩
      rw [bind_ok hq6] at hE
      refine go ?_
      first | refine fR (pieceBS l me log s6) ?_ | refine fN (pieceBS l me log s6) ?_
      exact ⟨_, s6, hE.symm, by omega, hlen6, rfl, rfl⟩
  · rw [if_pos (of_decide_eq_true h1)] at hE
    refine go ?_
    refine cX (clear_xS l hL me log s1 hlen1 hl) (fun a w => Tryz.call74 a w) ?_ ?_ ?_ ?_
    · rintro d bs ⟨x, s', _, _, _, rfl, rfl⟩; exact ⟨.inl rfl, .inl rfl, .inl rfl, trivial⟩
    · rintro v bs ⟨a, s', _, rfl, rfl⟩; exact ⟨.inl rfl, .inl rfl, .inl rfl, trivial⟩
    · rintro v bs ⟨a, s', h, rfl, rfl⟩
      refine gP ?_
      refine fP (pieceBS l me log s') ?_
      exact ⟨a, s', by rw [← hE]; exact bind_err h, rfl, rfl⟩
    rintro d bs ⟨u, s2, hq2, hle2, hlen2, rfl, rfl⟩
    rw [bind_ok hq2] at hE
    refine go ?_
    first | refine fR (pieceBS l me log s2) ?_ | refine fN (pieceBS l me log s2) ?_
    exact ⟨_, s2, hE.symm, by omega, hlen2, rfl, rfl⟩
theorem spushL_gone {l : LayT} {top n : Int} : ∀ {k : Nat} {log : List ResT} {s s' : PsT} {x : OutT}, spushL l top n k log s = .ok (x, s') → s'.gone = s.gone
  | 0, log, s, s', x, h => by cases h; rfl
  | k + 1, log, s, s', x, h => by
    rw [spushL] at h
    cases h1 : tryPush l top n log s with
    | error a => rw [bind_err h1] at h; cases h
    | ok q =>
      obtain ⟨b, s1⟩ := q
      rw [bind_ok h1] at h
      have g1 := (tryPush_ok h1).1
      cases b
      · rw [if_neg (by decide)] at h
        exact (spushL_gone h).trans g1
      · rw [if_pos rfl, bind_ok last_ok] at h
        cases h
        exact g1
theorem spushM_gone {l : LayT} {top v : Int} {log : List ResT} {s s' : PsT} {x : OutT} (h : spushM l top v log s = .ok (x, s')) : s'.gone = s.gone := by
  unfold spushM at h
  cases h1 : takeM l log s with
  | error a => rw [bind_err h1] at h; cases h
  | ok q =>
    obtain ⟨p, s1⟩ := q
    rw [bind_ok h1] at h
    have g1 : s1.gone = s.gone := (takeL_idx h1).2
    split at h
    · cases h2 : storeM (nodeF l p.1 1) v log s1 with
      | error a => rw [bind_err h2] at h; cases h
      | ok q =>
        obtain ⟨u, s2⟩ := q
        rw [bind_ok h2] at h
        have g2 : s2.gone = s.gone := by rw [(storeM_gone h2).1]; exact g1
        exact (spushL_gone h).trans g2
    · cases h; exact g1
theorem spopL_len {l : LayT} {me top : Int} : ∀ {k : Nat} {log : List ResT} {s s' : PsT} {x : OutT}, spopL l me top k log s = .ok (x, s') → s'.gone.length ≤ s.gone.length + 1
  | 0, log, s, s', x, h => by cases h; omega
  | k + 1, log, s, s', x, h => by
    rw [spopL] at h
    cases h1 : guardM l me 0 top log s with
    | error a => rw [bind_err h1] at h; cases h
    | ok q =>
      obtain ⟨p, s1⟩ := q
      rw [bind_ok h1] at h
      have g1 : s1.gone = s.gone := guardL_gone h1
      split at h
      · cases h2 : clearM l me log s1 with
        | error a => rw [bind_err h2] at h; cases h
        | ok q =>
          obtain ⟨u, s2⟩ := q
          rw [bind_ok h2] at h
          cases h
          have : s'.gone = s.gone := (clrL_gone h2).trans g1
          rw [this]; omega
      · cases h2 : loadM (nodeF l (ofW p.1).idx 0) log s1 with
        | error a => rw [bind_err h2] at h; cases h
        | ok q =>
          obtain ⟨be, s2⟩ := q
          rw [bind_ok h2] at h
          have g2 : s2.gone = s.gone := by rw [(loadM_gone h2).1]; exact g1
          cases h3 : casM top p.1 (packW (turnW (ofW p.1) be)) log s2 with
          | error a => rw [bind_err h3] at h; cases h
          | ok q =>
            obtain ⟨ok, s3⟩ := q
            rw [bind_ok h3] at h
            have g3 : s3.gone = s.gone := by rw [(casM_gone h3).1]; exact g2
            cases ok
            · rw [if_neg (by decide)] at h
              have := spopL_len h
              rw [g3] at this; exact this
            · rw [if_pos rfl, bind_ok last_ok] at h
              cases h4 : loadM (nodeF l (ofW p.1).idx 1) log s3 with
              | error a => rw [bind_err h4] at h; cases h
              | ok q =>
                obtain ⟨va, s4⟩ := q
                rw [bind_ok h4] at h
                have g4 : s4.gone = s.gone := by rw [(loadM_gone h4).1]; exact g3
                cases h5 : clearM l me log s4 with
                | error a => rw [bind_err h5] at h; cases h
                | ok q =>
                  obtain ⟨u, s5⟩ := q
                  rw [bind_ok h5] at h
                  have g5 : s5.gone = s.gone := (clrL_gone h5).trans g4
                  cases h6 : retireM l (ofW p.1).idx log s5 with
                  | error a => rw [bind_err h6] at h; cases h
                  | ok q =>
                    obtain ⟨u, s6⟩ := q
                    rw [bind_ok h6] at h
                    cases h
                    have := retireM_len h6
                    rw [g5] at this; exact this
theorem spopL_ok {l : LayT} {me top : Int} : ∀ {k : Nat} {log : List ResT} {s s' : PsT} {x : OutT}, spopL l me top k log s = .ok (x, s') → GoneOk s.gone → GoneOk s'.gone
  | 0, log, s, s', x, h, hg => by cases h; exact hg
  | k + 1, log, s, s', x, h, hg => by
    rw [spopL] at h
    cases h1 : guardM l me 0 top log s with
    | error a => rw [bind_err h1] at h; cases h
    | ok q =>
      obtain ⟨p, s1⟩ := q
      rw [bind_ok h1] at h
      have g1 : s1.gone = s.gone := guardL_gone h1
      split at h
      · cases h2 : clearM l me log s1 with
        | error a => rw [bind_err h2] at h; cases h
        | ok q =>
          obtain ⟨u, s2⟩ := q
          rw [bind_ok h2] at h
          cases h
          have : s'.gone = s.gone := (clrL_gone h2).trans g1
          rw [this]; exact hg
      · cases h2 : loadM (nodeF l (ofW p.1).idx 0) log s1 with
        | error a => rw [bind_err h2] at h; cases h
        | ok q =>
          obtain ⟨be, s2⟩ := q
          rw [bind_ok h2] at h
          have g2 : s2.gone = s.gone := by rw [(loadM_gone h2).1]; exact g1
          cases h3 : casM top p.1 (packW (turnW (ofW p.1) be)) log s2 with
          | error a => rw [bind_err h3] at h; cases h
          | ok q =>
            obtain ⟨ok, s3⟩ := q
            rw [bind_ok h3] at h
            have g3 : s3.gone = s.gone := by rw [(casM_gone h3).1]; exact g2
            cases ok
            · rw [if_neg (by decide)] at h
              exact spopL_ok h (by rw [g3]; exact hg)
            · rw [if_pos rfl, bind_ok last_ok] at h
              cases h4 : loadM (nodeF l (ofW p.1).idx 1) log s3 with
              | error a => rw [bind_err h4] at h; cases h
              | ok q =>
                obtain ⟨va, s4⟩ := q
                rw [bind_ok h4] at h
                have g4 : s4.gone = s.gone := by rw [(loadM_gone h4).1]; exact g3
                cases h5 : clearM l me log s4 with
                | error a => rw [bind_err h5] at h; cases h
                | ok q =>
                  obtain ⟨u, s5⟩ := q
                  rw [bind_ok h5] at h
                  have g5 : s5.gone = s.gone := (clrL_gone h5).trans g4
                  cases h6 : retireM l (ofW p.1).idx log s5 with
                  | error a => rw [bind_err h6] at h; cases h
                  | ok q =>
                    obtain ⟨u, s6⟩ := q
                    rw [bind_ok h6] at h
                    cases h
                    exact retireM_ok h6 (by rw [g5]; exact hg) (by have := (ofW_idx p.1).2; omega)
end Go.Proofs.YtdmnjoidfjidbaaGreat
