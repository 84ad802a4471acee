/- Taking and giving nodes: their walks. -/
import Derived.Test.YtdmnjoidfjidbaaGreatD4
namespace Go.Proofs.YtdmnjoidfjidbaaGreat
open Go.RowKit
set_option maxRecDepth 100000

set_option maxHeartbeats 4000000 in
theorem take_x (l : LayT) (hL : LayOk l) (me : Int) (log : List ResT) (s : PsT) (hm : s.made ≤ log.length) (hl : log.length ≤ 1000000) : PmC 79 l me log s [.ptr 11 0] (takeM l log s) (fun p => .tup [dI p.1, dI p.2.1, dB p.2.2]) := by
  generalize hE : takeM l log s = E
  refine sX Tryz.func79 Tryz.ntmps79 fun w cl own kf => ?_
  refine go ?_
  refine awp_loop_ok (fun p : Nat × PsT => s.made ≤ p.2.made ∧ p.2.made ≤ log.length ∧ log.length - p.2.made < p.1 ∧ takeL l p.1 log p.2 = E) (fun p => ⟨[(0, .ptr 11 0)], pieceB l me log p.2, []⟩) (fun p => p.1) (log.length + 1 - s.made, s) ⟨Nat.le_refl _, hm, by simp only; omega, hE⟩ (zX) ?_
  rintro ⟨k, t⟩ ⟨ht0, ht1, ht2, hE⟩
  simp only at ht0 ht1 ht2 hE
  obtain ⟨k, rfl⟩ : ∃ j, k = j + 1 := ⟨k - 1, by omega⟩
  refine (show AWP _ _ _ _ ⟨[(0, .ptr 11 0)], pieceB l me log t, []⟩ from ?_)
  rw [takeL] at hE
  refine go ?_
  refine cX (load_x l me log t l.free ht1 hl) (fun a w => Tryz.call84 a w) ?_ ?_ ?_ ?_
  · rintro d bs ⟨x, s', _, _, _, rfl, rfl⟩; exact ⟨.inl rfl, .inl rfl, .inl rfl, trivial⟩
  · rintro v bs ⟨a, s', _, rfl, rfl⟩; exact ⟨.inl rfl, .inl rfl, .inl rfl, trivial⟩
  · rintro v bs ⟨a, s', h, rfl, rfl⟩
    refine gP ?_
    refine fP (pieceB l me log s') ?_
    exact ⟨a, s', by rw [← hE]; exact bind_err h, rfl, rfl⟩
  rintro d bs ⟨fr, s1, hq1, hle1, hlen1, rfl, rfl⟩
  rw [bind_ok hq1] at hE
  have hs1 := loadM_made hq1
  have hx1 := ofW_idx fr
  have hx2 := ofW_cnt fr
  refine go ?_
  refine a_q (call_step (of_c fr) rfl (fun a w => Tryz.call68 a w) rfl) rfl rfl rfl ?_
  refine go ?_
  generalize h1 : decide ((ofW fr).idx = 0) = cc; cases cc
  · have h1' := of_decide_eq_false h1
    rw [if_neg h1'] at hE
    refine go ?_
    refine a_q (lend_step (pnode_c l hL me s1 (ofW fr).idx 7 (by omega) (by omega)) rfl (fun a w => Tryz.call81 a w) rfl rfl) rfl rfl rfl ?_
    refine go ?_
    refine cX (load_x l me log s1 (nodeF l (ofW fr).idx 7) hlen1 hl) (fun a w => Tryz.call84 a w) ?_ ?_ ?_ ?_
    · rintro d bs ⟨x, s', _, _, _, rfl, rfl⟩; exact ⟨.inl rfl, .inl rfl, .inl rfl, trivial⟩
    · rintro v bs ⟨a, s', _, rfl, rfl⟩; exact ⟨.inl rfl, .inl rfl, .inl rfl, trivial⟩
    · rintro v bs ⟨a, s', h, rfl, rfl⟩
      refine gP ?_
      refine fP (pieceB l me log s') ?_
      exact ⟨a, s', by rw [← hE]; exact bind_err h, rfl, rfl⟩
    rintro d bs ⟨lk, s2, hq2, hle2, hlen2, rfl, rfl⟩
    rw [bind_ok hq2] at hE
    have hs2 := loadM_made hq2
    refine go ?_
    refine awp_region_w 11 [] rfl rfl (by kernel_rfl) (by kernel_rfl) (by kernel_rfl) ?_
    refine goQ ?_
    refine r_q (call_step (turn_c (ofW fr) lk hx2.1 hx2.2) rfl (fun a w => Tryz.call71 a w) rfl) rfl rfl ?_
    refine goQ ?_
    refine r_q (call_step (pack_c (turnW (ofW fr) lk)) rfl (fun a w => Tryz.call70 a w) rfl) rfl rfl ?_
    refine goQ ?_
    refine cX (cas_x l me log s2 l.free fr (packW (turnW (ofW fr) lk)) hlen2 hl) (fun a w => Tryz.call87 a w) ?_ ?_ ?_ ?_
    · rintro d bs ⟨x, s', _, _, _, rfl, rfl⟩; exact ⟨.inl rfl, .inl rfl, .inl rfl, trivial⟩
    · rintro v bs ⟨a, s', _, rfl, rfl⟩; exact ⟨.inl rfl, .inl rfl, .inl rfl, trivial⟩
    · rintro v bs ⟨a, s', h, rfl, rfl⟩
      refine gP ?_
      refine fP (pieceB l me log s') ?_
      exact ⟨a, s', by rw [← hE]; exact bind_err h, rfl, rfl⟩
    rintro d bs ⟨okk, s3, hq3, hle3, hlen3, rfl, rfl⟩
    rw [bind_ok hq3] at hE
    have hs3 := casM_made hq3
    refine go ?_
    cases okk
    · rw [if_neg (by decide)] at hE
      refine go ?_
      exact ⟨(k, s3), ⟨by simp only; omega, hlen3, by simp only; omega, hE⟩, by simp only; omega, zX⟩
    · rw [if_pos rfl, bind_ok last_ok] at hE
      refine go ?_
      refine a_q (lend_step (plast_c l me s3 (by omega)) rfl (fun a w => Tryz.call83 a w) rfl rfl) rfl rfl rfl ?_
      refine go ?_
      refine cX (load_x l me log s3 l.era hlen3 hl) (fun a w => Tryz.call84 a w) ?_ ?_ ?_ ?_
      · rintro d bs ⟨x, s', _, _, _, rfl, rfl⟩; exact ⟨.inl rfl, .inl rfl, .inl rfl, trivial⟩
      · rintro v bs ⟨a, s', _, rfl, rfl⟩; exact ⟨.inl rfl, .inl rfl, .inl rfl, trivial⟩
      · rintro v bs ⟨a, s', h, rfl, rfl⟩
        refine gP ?_
        refine fP (pieceB l me log s') ?_
        exact ⟨a, s', by rw [← hE]; exact bind_err h, rfl, rfl⟩
      rintro d bs ⟨bi, s4, hq4, hle4, hlen4, rfl, rfl⟩
      rw [bind_ok hq4] at hE
      refine go ?_
      refine a_q (lend_step (pnode_c l hL me s4 (ofW fr).idx 6 (by omega) (by omega)) rfl (fun a w => Tryz.call81 a w) rfl rfl) rfl rfl rfl ?_
      refine go ?_
      refine cX (store_x l me log s4 (nodeF l (ofW fr).idx 6) bi hlen4 hl) (fun a w => Tryz.call80 a w) ?_ ?_ ?_ ?_
      · rintro d bs ⟨x, s', _, _, _, rfl, rfl⟩; exact ⟨.inl rfl, .inl rfl, .inl rfl, trivial⟩
      · rintro v bs ⟨a, s', _, rfl, rfl⟩; exact ⟨.inl rfl, .inl rfl, .inl rfl, trivial⟩
      · rintro v bs ⟨a, s', h, rfl, rfl⟩
        refine gP ?_
        refine fP (pieceB l me log s') ?_
        exact ⟨a, s', by rw [← hE]; exact bind_err h, rfl, rfl⟩
      rintro d bs ⟨u, s5, hq5, hle5, hlen5, rfl, rfl⟩
      rw [bind_ok hq5] at hE
      refine go ?_
      first | refine fR (pieceB l me log s5) ?_ | refine fN (pieceB l me log s5) ?_
      exact ⟨_, s5, hE.symm, by omega, hlen5, rfl, rfl⟩
  · rw [if_pos (of_decide_eq_true h1), bind_ok last_ok] at hE
    refine go ?_
    refine a_q (lend_step (plast_c l me s1 (by omega)) rfl (fun a w => Tryz.call83 a w) rfl rfl) rfl rfl rfl ?_
    refine go ?_
    first | refine fR (pieceB l me log s1) ?_ | refine fN (pieceB l me log s1) ?_
    exact ⟨_, s1, hE.symm, by omega, hlen1, rfl, rfl⟩

set_option maxHeartbeats 4000000 in
theorem give_x (l : LayT) (hL : LayOk l) (me : Int) (log : List ResT) (s : PsT) (n : Int) (hn : n < 9223372036854775808) (hm : s.made ≤ log.length) (hl : log.length ≤ 1000000) : PmC 89 l me log s [.ptr 11 0, dI n] (giveM l n log s) (fun _ => .tup []) := by
  generalize hE : giveM l n log s = E
  refine sX Tryz.func89 Tryz.ntmps89 fun w cl own kf => ?_
  refine go ?_
  refine awp_loop_ok (fun p : Nat × PsT => s.made ≤ p.2.made ∧ p.2.made ≤ log.length ∧ log.length - p.2.made < p.1 ∧ giveL l n p.1 log p.2 = E) (fun p => ⟨[(0, .ptr 11 0), (1, dI n)], pieceB l me log p.2, []⟩) (fun p => p.1) (log.length + 1 - s.made, s) ⟨Nat.le_refl _, hm, by simp only; omega, hE⟩ (zX) ?_
  rintro ⟨k, t⟩ ⟨ht0, ht1, ht2, hE⟩
  simp only at ht0 ht1 ht2 hE
  obtain ⟨k, rfl⟩ : ∃ j, k = j + 1 := ⟨k - 1, by omega⟩
  refine (show AWP _ _ _ _ ⟨[(0, .ptr 11 0), (1, dI n)], pieceB l me log t, []⟩ from ?_)
  rw [giveL] at hE
  refine go ?_
  refine cX (load_x l me log t l.free ht1 hl) (fun a w => Tryz.call84 a w) ?_ ?_ ?_ ?_
  · rintro d bs ⟨x, s', _, _, _, rfl, rfl⟩; exact ⟨.inl rfl, .inl rfl, .inl rfl, trivial⟩
  · rintro v bs ⟨a, s', _, rfl, rfl⟩; exact ⟨.inl rfl, .inl rfl, .inl rfl, trivial⟩
  · rintro v bs ⟨a, s', h, rfl, rfl⟩
    refine gP ?_
    refine fP (pieceB l me log s') ?_
    exact ⟨a, s', by rw [← hE]; exact bind_err h, rfl, rfl⟩
  rintro d bs ⟨fr, s1, hq1, hle1, hlen1, rfl, rfl⟩
  rw [bind_ok hq1] at hE
  have hs1 := loadM_made hq1
  have hx2 := ofW_cnt fr
  refine go ?_
  refine a_q (call_step (of_c fr) rfl (fun a w => Tryz.call68 a w) rfl) rfl rfl rfl ?_
  refine go ?_
  refine awp_region_w 6 [] rfl rfl (by kernel_rfl) (by kernel_rfl) (by kernel_rfl) ?_
  refine goQ ?_
  refine r_q (lend_step (pnode_c l hL me s1 n 7 hn (by omega)) rfl (fun a w => Tryz.call81 a w) rfl rfl) rfl rfl ?_
  refine goQ ?_
  refine cX (store_x l me log s1 (nodeF l n 7) (ofW fr).idx hlen1 hl) (fun a w => Tryz.call80 a w) ?_ ?_ ?_ ?_
  · rintro d bs ⟨x, s', _, _, _, rfl, rfl⟩; exact ⟨.inl rfl, .inl rfl, .inl rfl, trivial⟩
  · rintro v bs ⟨a, s', _, rfl, rfl⟩; exact ⟨.inl rfl, .inl rfl, .inl rfl, trivial⟩
  · rintro v bs ⟨a, s', h, rfl, rfl⟩
    refine gP ?_
    refine fP (pieceB l me log s') ?_
    exact ⟨a, s', by rw [← hE]; exact bind_err h, rfl, rfl⟩
  rintro d bs ⟨u, s2, hq2, hle2, hlen2, rfl, rfl⟩
  rw [bind_ok hq2] at hE
  have hs2 := storeM_made hq2
  refine go ?_
  refine awp_region_w 11 [] rfl rfl (by kernel_rfl) (by kernel_rfl) (by kernel_rfl) ?_
  refine goQ ?_
  refine r_q (call_step (turn_c (ofW fr) n hx2.1 hx2.2) rfl (fun a w => Tryz.call71 a w) rfl) rfl rfl ?_
  refine goQ ?_
  refine r_q (call_step (pack_c (turnW (ofW fr) n)) rfl (fun a w => Tryz.call70 a w) rfl) rfl rfl ?_
  refine goQ ?_
  refine cX (cas_x l me log s2 l.free fr (packW (turnW (ofW fr) n)) hlen2 hl) (fun a w => Tryz.call87 a w) ?_ ?_ ?_ ?_
  · rintro d bs ⟨x, s', _, _, _, rfl, rfl⟩; exact ⟨.inl rfl, .inl rfl, .inl rfl, trivial⟩
  · rintro v bs ⟨a, s', _, rfl, rfl⟩; exact ⟨.inl rfl, .inl rfl, .inl rfl, trivial⟩
  · rintro v bs ⟨a, s', h, rfl, rfl⟩
    refine gP ?_
    refine fP (pieceB l me log s') ?_
    exact ⟨a, s', by rw [← hE]; exact bind_err h, rfl, rfl⟩
  rintro d bs ⟨okk, s3, hq3, hle3, hlen3, rfl, rfl⟩
  rw [bind_ok hq3] at hE
  have hs3 := casM_made hq3
  refine go ?_
  cases okk
  · rw [if_neg (by decide)] at hE
    refine go ?_
    exact ⟨(k, s3), ⟨by simp only; omega, hlen3, by simp only; omega, hE⟩, by simp only; omega, zX⟩
  · rw [if_pos rfl] at hE
    refine go ?_
    first | refine fR (pieceB l me log s3) ?_ | refine fN (pieceB l me log s3) ?_
    exact ⟨_, s3, hE.symm, by omega, hlen3, rfl, rfl⟩
end Go.Proofs.YtdmnjoidfjidbaaGreat
