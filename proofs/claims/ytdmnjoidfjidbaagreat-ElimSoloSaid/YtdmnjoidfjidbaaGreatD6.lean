/- Reservations: their walks. -/
import Derived.Test.YtdmnjoidfjidbaaGreatD5

namespace Go.Proofs.YtdmnjoidfjidbaaGreat
open Go.RowKit
set_option maxRecDepth 100000

set_option maxHeartbeats 4000000 in
theorem guard0_x (l : LayT) (hL : LayOk l) (me : Int) (log : List ResT) (s : PsT) (cell : Int) (hm : s.made ≤ log.length) (hl : log.length ≤ 1000000) : PmC 103 l me log s [.ptr 11 0, dI 0, dI cell] (guardM l me 0 cell log s) (fun p => .tup [dI p.1, dI p.2]) := by
  generalize hE : guardM l me 0 cell log s = E
  refine sX Tryz.func103 Tryz.ntmps103 fun w cl own kf => ?_
  refine go ?_
  refine awp_loop_ok (fun p : Nat × PsT => s.made ≤ p.2.made ∧ p.2.made ≤ log.length ∧ log.length - p.2.made < p.1 ∧ guardL l me 0 cell p.1 log p.2 = E) (fun p => ⟨[(0, .ptr 11 0), (1, dI 0), (2, dI cell)], pieceB l me log p.2, []⟩) (fun p => p.1) (log.length + 1 - s.made, s) ⟨Nat.le_refl _, hm, by simp only; omega, hE⟩ (zX) ?_
  rintro ⟨k, t⟩ ⟨ht0, ht1, ht2, hE⟩
  simp only at ht0 ht1 ht2 hE
  obtain ⟨k, rfl⟩ : ∃ j, k = j + 1 := ⟨k - 1, by omega⟩
  refine (show AWP _ _ _ _ ⟨[(0, .ptr 11 0), (1, dI 0), (2, dI cell)], pieceB l me log t, []⟩ from ?_)
  rw [guardL] at hE
  refine go ?_
  refine cX (load_x l me log t cell ht1 hl) (fun a w => Tryz.call84 a w) ?_ ?_ ?_ ?_
  · rintro d bs ⟨x, s', _, _, _, rfl, rfl⟩; exact ⟨.inl rfl, .inl rfl, .inl rfl, trivial⟩
  · rintro v bs ⟨a, s', _, rfl, rfl⟩; exact ⟨.inl rfl, .inl rfl, .inl rfl, trivial⟩
  · rintro v bs ⟨a, s', h, rfl, rfl⟩
    refine gP ?_
    refine fP (pieceB l me log s') ?_
    exact ⟨a, s', by rw [← hE]; exact bind_err h, rfl, rfl⟩
  rintro d bs ⟨v, s1, hq1, hle1, hlen1, rfl, rfl⟩
  rw [bind_ok hq1, bind_ok last_ok] at hE
  have hs1 := loadM_made hq1
  refine go ?_
  refine a_q (lend_step (plast_c l me s1 (by omega)) rfl (fun a w => Tryz.call83 a w) rfl rfl) rfl rfl rfl ?_
  refine go ?_
  refine cX (load_x l me log s1 l.era hlen1 hl) (fun a w => Tryz.call84 a w) ?_ ?_ ?_ ?_
  · rintro d bs ⟨x, s', _, _, _, rfl, rfl⟩; exact ⟨.inl rfl, .inl rfl, .inl rfl, trivial⟩
  · rintro v bs ⟨a, s', _, rfl, rfl⟩; exact ⟨.inl rfl, .inl rfl, .inl rfl, trivial⟩
  · rintro v bs ⟨a, s', h, rfl, rfl⟩
    refine gP ?_
    refine fP (pieceB l me log s') ?_
    exact ⟨a, s', by rw [← hE]; exact bind_err h, rfl, rfl⟩
  rintro d bs ⟨er, s2, hq2, hle2, hlen2, rfl, rfl⟩
  rw [bind_ok hq2] at hE
  have hs2 := loadM_made hq2
  refine go ?_
  refine a_q (indexAddrP_step tabOk rfl rfl rfl rfl rfl (by omega) (by omega)) rfl rfl rfl ?_
  refine go ?_
  generalize h1 : decide (er = s2.e0) = cc; cases cc
  · rw [if_neg (show ¬ er = s2.e 0 from of_decide_eq_false h1)] at hE
    refine go ?_
    refine awp_region_w 12 [] rfl rfl (by kernel_rfl) (by kernel_rfl) (by kernel_rfl) ?_
    refine goQ ?_
    refine r_q (call_step (resv_c l hL me 0 (by omega)) rfl (fun a w => Tryz.call99 a w) rfl) rfl rfl ?_
    refine goQ ?_
    refine cX (store_x l me log s2 (resvF l me 0) er hlen2 hl) (fun a w => Tryz.call80 a w) ?_ ?_ ?_ ?_
    · rintro d bs ⟨x, s', _, _, _, rfl, rfl⟩; exact ⟨.inl rfl, .inl rfl, .inl rfl, trivial⟩
    · rintro v bs ⟨a, s', _, rfl, rfl⟩; exact ⟨.inl rfl, .inl rfl, .inl rfl, trivial⟩
    · rintro v bs ⟨a, s', h, rfl, rfl⟩
      refine gP ?_
      refine fP (pieceB l me log s') ?_
      exact ⟨a, s', by rw [← hE]; exact bind_err h, rfl, rfl⟩
    rintro d bs ⟨u, s3, hq3, hle3, hlen3, rfl, rfl⟩
    rw [bind_ok hq3] at hE
    have hs3 := storeM_made hq3
    refine go ?_
    refine a_q (indexAddrP_step tabOk rfl rfl rfl rfl rfl (by omega) (by omega)) rfl rfl rfl ?_
    refine go ?_
    exact ⟨(k, { s3 with e0 := er }), ⟨by simp only; omega, by simp only; omega, by simp only; omega, hE⟩, by simp only; omega, zX⟩
  · rw [if_pos (show er = s2.e 0 from of_decide_eq_true h1)] at hE
    refine go ?_
    first | refine fR (pieceB l me log s2) ?_ | refine fN (pieceB l me log s2) ?_
    exact ⟨_, s2, hE.symm, by omega, hlen2, rfl, rfl⟩

set_option maxHeartbeats 4000000 in
theorem guard1_x (l : LayT) (hL : LayOk l) (me : Int) (log : List ResT) (s : PsT) (cell : Int) (hm : s.made ≤ log.length) (hl : log.length ≤ 1000000) : PmC 103 l me log s [.ptr 11 0, dI 1, dI cell] (guardM l me 1 cell log s) (fun p => .tup [dI p.1, dI p.2]) := by
  generalize hE : guardM l me 1 cell log s = E
  refine sX Tryz.func103 Tryz.ntmps103 fun w cl own kf => ?_
  refine go ?_
  refine awp_loop_ok (fun p : Nat × PsT => s.made ≤ p.2.made ∧ p.2.made ≤ log.length ∧ log.length - p.2.made < p.1 ∧ guardL l me 1 cell p.1 log p.2 = E) (fun p => ⟨[(0, .ptr 11 0), (1, dI 1), (2, dI cell)], pieceB l me log p.2, []⟩) (fun p => p.1) (log.length + 1 - s.made, s) ⟨Nat.le_refl _, hm, by simp only; omega, hE⟩ (zX) ?_
  rintro ⟨k, t⟩ ⟨ht0, ht1, ht2, hE⟩
  simp only at ht0 ht1 ht2 hE
  obtain ⟨k, rfl⟩ : ∃ j, k = j + 1 := ⟨k - 1, by omega⟩
  refine (show AWP _ _ _ _ ⟨[(0, .ptr 11 0), (1, dI 1), (2, dI cell)], pieceB l me log t, []⟩ from ?_)
  rw [guardL] at hE
  refine go ?_
  refine cX (load_x l me log t cell ht1 hl) (fun a w => Tryz.call84 a w) ?_ ?_ ?_ ?_
  · rintro d bs ⟨x, s', _, _, _, rfl, rfl⟩; exact ⟨.inl rfl, .inl rfl, .inl rfl, trivial⟩
  · rintro v bs ⟨a, s', _, rfl, rfl⟩; exact ⟨.inl rfl, .inl rfl, .inl rfl, trivial⟩
  · rintro v bs ⟨a, s', h, rfl, rfl⟩
    refine gP ?_
    refine fP (pieceB l me log s') ?_
    exact ⟨a, s', by rw [← hE]; exact bind_err h, rfl, rfl⟩
  rintro d bs ⟨v, s1, hq1, hle1, hlen1, rfl, rfl⟩
  rw [bind_ok hq1, bind_ok last_ok] at hE
  have hs1 := loadM_made hq1
  refine go ?_
  refine a_q (lend_step (plast_c l me s1 (by omega)) rfl (fun a w => Tryz.call83 a w) rfl rfl) rfl rfl rfl ?_
  refine go ?_
  refine cX (load_x l me log s1 l.era hlen1 hl) (fun a w => Tryz.call84 a w) ?_ ?_ ?_ ?_
  · rintro d bs ⟨x, s', _, _, _, rfl, rfl⟩; exact ⟨.inl rfl, .inl rfl, .inl rfl, trivial⟩
  · rintro v bs ⟨a, s', _, rfl, rfl⟩; exact ⟨.inl rfl, .inl rfl, .inl rfl, trivial⟩
  · rintro v bs ⟨a, s', h, rfl, rfl⟩
    refine gP ?_
    refine fP (pieceB l me log s') ?_
    exact ⟨a, s', by rw [← hE]; exact bind_err h, rfl, rfl⟩
  rintro d bs ⟨er, s2, hq2, hle2, hlen2, rfl, rfl⟩
  rw [bind_ok hq2] at hE
  have hs2 := loadM_made hq2
  refine go ?_
  refine a_q (indexAddrP_step tabOk rfl rfl rfl rfl rfl (by omega) (by omega)) rfl rfl rfl ?_
  refine go ?_
  generalize h1 : decide (er = s2.e1) = cc; cases cc
  · rw [if_neg (show ¬ er = s2.e 1 from of_decide_eq_false h1)] at hE
    refine go ?_
    refine awp_region_w 12 [] rfl rfl (by kernel_rfl) (by kernel_rfl) (by kernel_rfl) ?_
    refine goQ ?_
    refine r_q (call_step (resv_c l hL me 1 (by omega)) rfl (fun a w => Tryz.call99 a w) rfl) rfl rfl ?_
    refine goQ ?_
    refine cX (store_x l me log s2 (resvF l me 1) er hlen2 hl) (fun a w => Tryz.call80 a w) ?_ ?_ ?_ ?_
    · rintro d bs ⟨x, s', _, _, _, rfl, rfl⟩; exact ⟨.inl rfl, .inl rfl, .inl rfl, trivial⟩
    · rintro v bs ⟨a, s', _, rfl, rfl⟩; exact ⟨.inl rfl, .inl rfl, .inl rfl, trivial⟩
    · rintro v bs ⟨a, s', h, rfl, rfl⟩
      refine gP ?_
      refine fP (pieceB l me log s') ?_
      exact ⟨a, s', by rw [← hE]; exact bind_err h, rfl, rfl⟩
    rintro d bs ⟨u, s3, hq3, hle3, hlen3, rfl, rfl⟩
    rw [bind_ok hq3] at hE
    have hs3 := storeM_made hq3
    refine go ?_
    refine a_q (indexAddrP_step tabOk rfl rfl rfl rfl rfl (by omega) (by omega)) rfl rfl rfl ?_
    refine go ?_
    exact ⟨(k, { s3 with e1 := er }), ⟨by simp only; omega, by simp only; omega, by simp only; omega, hE⟩, by simp only; omega, zX⟩
  · rw [if_pos (show er = s2.e 1 from of_decide_eq_true h1)] at hE
    refine go ?_
    first | refine fR (pieceB l me log s2) ?_ | refine fN (pieceB l me log s2) ?_
    exact ⟨_, s2, hE.symm, by omega, hlen2, rfl, rfl⟩

set_option maxHeartbeats 4000000 in
theorem guard2_x (l : LayT) (hL : LayOk l) (me : Int) (log : List ResT) (s : PsT) (cell : Int) (hm : s.made ≤ log.length) (hl : log.length ≤ 1000000) : PmC 103 l me log s [.ptr 11 0, dI 2, dI cell] (guardM l me 2 cell log s) (fun p => .tup [dI p.1, dI p.2]) := by
  generalize hE : guardM l me 2 cell log s = E
  refine sX Tryz.func103 Tryz.ntmps103 fun w cl own kf => ?_
  refine go ?_
  refine awp_loop_ok (fun p : Nat × PsT => s.made ≤ p.2.made ∧ p.2.made ≤ log.length ∧ log.length - p.2.made < p.1 ∧ guardL l me 2 cell p.1 log p.2 = E) (fun p => ⟨[(0, .ptr 11 0), (1, dI 2), (2, dI cell)], pieceB l me log p.2, []⟩) (fun p => p.1) (log.length + 1 - s.made, s) ⟨Nat.le_refl _, hm, by simp only; omega, hE⟩ (zX) ?_
  rintro ⟨k, t⟩ ⟨ht0, ht1, ht2, hE⟩
  simp only at ht0 ht1 ht2 hE
  obtain ⟨k, rfl⟩ : ∃ j, k = j + 1 := ⟨k - 1, by omega⟩
  refine (show AWP _ _ _ _ ⟨[(0, .ptr 11 0), (1, dI 2), (2, dI cell)], pieceB l me log t, []⟩ from ?_)
  rw [guardL] at hE
  refine go ?_
  refine cX (load_x l me log t cell ht1 hl) (fun a w => Tryz.call84 a w) ?_ ?_ ?_ ?_
  · rintro d bs ⟨x, s', _, _, _, rfl, rfl⟩; exact ⟨.inl rfl, .inl rfl, .inl rfl, trivial⟩
  · rintro v bs ⟨a, s', _, rfl, rfl⟩; exact ⟨.inl rfl, .inl rfl, .inl rfl, trivial⟩
  · rintro v bs ⟨a, s', h, rfl, rfl⟩
    refine gP ?_
    refine fP (pieceB l me log s') ?_
    exact ⟨a, s', by rw [← hE]; exact bind_err h, rfl, rfl⟩
  rintro d bs ⟨v, s1, hq1, hle1, hlen1, rfl, rfl⟩
  rw [bind_ok hq1, bind_ok last_ok] at hE
  have hs1 := loadM_made hq1
  refine go ?_
  refine a_q (lend_step (plast_c l me s1 (by omega)) rfl (fun a w => Tryz.call83 a w) rfl rfl) rfl rfl rfl ?_
  refine go ?_
  refine cX (load_x l me log s1 l.era hlen1 hl) (fun a w => Tryz.call84 a w) ?_ ?_ ?_ ?_
  · rintro d bs ⟨x, s', _, _, _, rfl, rfl⟩; exact ⟨.inl rfl, .inl rfl, .inl rfl, trivial⟩
  · rintro v bs ⟨a, s', _, rfl, rfl⟩; exact ⟨.inl rfl, .inl rfl, .inl rfl, trivial⟩
  · rintro v bs ⟨a, s', h, rfl, rfl⟩
    refine gP ?_
    refine fP (pieceB l me log s') ?_
    exact ⟨a, s', by rw [← hE]; exact bind_err h, rfl, rfl⟩
  rintro d bs ⟨er, s2, hq2, hle2, hlen2, rfl, rfl⟩
  rw [bind_ok hq2] at hE
  have hs2 := loadM_made hq2
  refine go ?_
  refine a_q (indexAddrP_step tabOk rfl rfl rfl rfl rfl (by omega) (by omega)) rfl rfl rfl ?_
  refine go ?_
  generalize h1 : decide (er = s2.e2) = cc; cases cc
  · rw [if_neg (show ¬ er = s2.e 2 from of_decide_eq_false h1)] at hE
    refine go ?_
    refine awp_region_w 12 [] rfl rfl (by kernel_rfl) (by kernel_rfl) (by kernel_rfl) ?_
    refine goQ ?_
    refine r_q (call_step (resv_c l hL me 2 (by omega)) rfl (fun a w => Tryz.call99 a w) rfl) rfl rfl ?_
    refine goQ ?_
    refine cX (store_x l me log s2 (resvF l me 2) er hlen2 hl) (fun a w => Tryz.call80 a w) ?_ ?_ ?_ ?_
    · rintro d bs ⟨x, s', _, _, _, rfl, rfl⟩; exact ⟨.inl rfl, .inl rfl, .inl rfl, trivial⟩
    · rintro v bs ⟨a, s', _, rfl, rfl⟩; exact ⟨.inl rfl, .inl rfl, .inl rfl, trivial⟩
    · rintro v bs ⟨a, s', h, rfl, rfl⟩
      refine gP ?_
      refine fP (pieceB l me log s') ?_
      exact ⟨a, s', by rw [← hE]; exact bind_err h, rfl, rfl⟩
    rintro d bs ⟨u, s3, hq3, hle3, hlen3, rfl, rfl⟩
    rw [bind_ok hq3] at hE
    have hs3 := storeM_made hq3
    refine go ?_
    refine a_q (indexAddrP_step tabOk rfl rfl rfl rfl rfl (by omega) (by omega)) rfl rfl rfl ?_
    refine go ?_
    exact ⟨(k, { s3 with e2 := er }), ⟨by simp only; omega, by simp only; omega, by simp only; omega, hE⟩, by simp only; omega, zX⟩
  · rw [if_pos (show er = s2.e 2 from of_decide_eq_true h1)] at hE
    refine go ?_
    first | refine fR (pieceB l me log s2) ?_ | refine fN (pieceB l me log s2) ?_
    exact ⟨_, s2, hE.symm, by omega, hlen2, rfl, rfl⟩

theorem guard_x (l : LayT) (hL : LayOk l) (me : Int) (log : List ResT) (s : PsT) (i cell : Int) (hi : i = 0 ∨ i = 1 ∨ i = 2) (hm : s.made ≤ log.length) (hl : log.length ≤ 1000000) : PmC 103 l me log s [.ptr 11 0, dI i, dI cell] (guardM l me i cell log s) (fun p => .tup [dI p.1, dI p.2]) := by
  rcases hi with rfl | rfl | rfl
  · exact guard0_x l hL me log s cell hm hl
  · exact guard1_x l hL me log s cell hm hl
  · exact guard2_x l hL me log s cell hm hl

set_option maxHeartbeats 4000000 in
theorem clear_x (l : LayT) (hL : LayOk l) (me : Int) (log : List ResT) (s : PsT) (hm : s.made ≤ log.length) (hl : log.length ≤ 1000000) : PmC 91 l me log s [.ptr 11 0] (clearM l me log s) (fun _ => .tup []) := by
  generalize hE : clearM l me log s = E
  unfold clearM at hE
  refine sX Tryz.func91 Tryz.ntmps91 fun w cl own kf => ?_
  refine go ?_
  refine awp_loop_ok (fun p : Nat × PsT => p.1 ≤ 3 ∧ s.made ≤ p.2.made ∧ p.2.made ≤ log.length ∧ clrL l me p.1 ([s.e0, s.e1, s.e2].drop p.1) log p.2 = E) (fun p => ⟨[(8, dI p.1), (7, .agg [dI s.e0, dI s.e1, dI s.e2]), (0, .ptr 11 0)], pieceB l me log p.2, []⟩) (fun p => 3 - p.1) (0, s) ⟨by simp only; omega, Nat.le_refl _, hm, hE⟩ (zX) ?_
  rintro ⟨i, t⟩ ⟨hi, ht0, ht1, hE⟩
  simp only at hi ht0 ht1 hE
  rcases (show i = 0 ∨ i = 1 ∨ i = 2 ∨ i = 3 by omega) with rfl | rfl | rfl | rfl
  · refine (show AWP _ _ _ _ ⟨[(8, dI 0), (7, .agg [dI s.e0, dI s.e1, dI s.e2]), (0, .ptr 11 0)], pieceB l me log t, []⟩ from ?_)
    have hE : (clr1 l me 0 s.e0).bind (fun _ => clrL l me 1 ([s.e0, s.e1, s.e2].drop 1)) log t = E := hE
    refine go ?_
    refine ck_b (fun h1 => ?_) (fun h1 => ?_) <;> try rw [h1]
    · refine go ?_
      refine a_q (index_step tabOk (dI s.e0) rfl rfl rfl rfl rfl rfl (by omega) (by omega) rfl) rfl rfl rfl ?_
      refine go ?_
      generalize h2 : decide (s.e0 = 0) = cc; cases cc
      · rw [clr1, if_neg (of_decide_eq_false h2)] at hE
        refine go ?_
        refine awp_region_w 11 [] rfl rfl (by kernel_rfl) (by kernel_rfl) (by kernel_rfl) ?_
        refine goQ ?_
        refine r_q (call_step (resv_c l hL me 0 (by omega)) rfl (fun a w => Tryz.call99 a w) rfl) rfl rfl ?_
        refine goQ ?_
        refine cX (store_x l me log t (resvF l me 0) 0 ht1 hl) (fun a w => Tryz.call80 a w) ?_ ?_ ?_ ?_
        · rintro d bs ⟨x, s', _, _, _, rfl, rfl⟩; exact ⟨.inl rfl, .inl rfl, .inl rfl, trivial⟩
        · rintro v bs ⟨a, s', _, rfl, rfl⟩; exact ⟨.inl rfl, .inl rfl, .inl rfl, trivial⟩
        · rintro v bs ⟨a, s', h, rfl, rfl⟩
          refine gP ?_
          refine fP (pieceB l me log s') ?_
          exact ⟨a, s', by rw [← hE]; exact bind_err (bind_err h), rfl, rfl⟩
        rintro d bs ⟨u, s1, hq1, hle1, hlen1, rfl, rfl⟩
        have hE2 : clrL l me 1 ([s.e0, s.e1, s.e2].drop 1) log { s1 with e0 := 0 } = E := by rw [← hE]; exact (bind_ok (f := fun _ => clrL l me 1 ([s.e0, s.e1, s.e2].drop 1)) (bind_ok (f := fun _ => setE 0) hq1)).symm
        refine go ?_
        refine a_q (indexAddrP_step tabOk rfl rfl rfl rfl rfl (by omega) (by omega)) rfl rfl rfl ?_
        refine go ?_
        exact ⟨(1, { s1 with e0 := 0 }), ⟨by simp only; omega, by simp only; omega, by simp only; omega, hE2⟩, by simp only; omega, zX⟩
      · rw [clr1, if_pos (of_decide_eq_true h2)] at hE
        refine go ?_
        exact ⟨(1, t), ⟨by simp only; omega, ht0, ht1, hE⟩, by simp only; omega, zX⟩
    · exact absurd h1 (by decide)
  · refine (show AWP _ _ _ _ ⟨[(8, dI 1), (7, .agg [dI s.e0, dI s.e1, dI s.e2]), (0, .ptr 11 0)], pieceB l me log t, []⟩ from ?_)
    have hE : (clr1 l me 1 s.e1).bind (fun _ => clrL l me 2 ([s.e0, s.e1, s.e2].drop 2)) log t = E := hE
    refine go ?_
    refine ck_b (fun h1 => ?_) (fun h1 => ?_) <;> try rw [h1]
    · refine go ?_
      refine a_q (index_step tabOk (dI s.e1) rfl rfl rfl rfl rfl rfl (by omega) (by omega) rfl) rfl rfl rfl ?_
      refine go ?_
      generalize h2 : decide (s.e1 = 0) = cc; cases cc
      · rw [clr1, if_neg (of_decide_eq_false h2)] at hE
        refine go ?_
        refine awp_region_w 11 [] rfl rfl (by kernel_rfl) (by kernel_rfl) (by kernel_rfl) ?_
        refine goQ ?_
        refine r_q (call_step (resv_c l hL me 1 (by omega)) rfl (fun a w => Tryz.call99 a w) rfl) rfl rfl ?_
        refine goQ ?_
        refine cX (store_x l me log t (resvF l me 1) 0 ht1 hl) (fun a w => Tryz.call80 a w) ?_ ?_ ?_ ?_
        · rintro d bs ⟨x, s', _, _, _, rfl, rfl⟩; exact ⟨.inl rfl, .inl rfl, .inl rfl, trivial⟩
        · rintro v bs ⟨a, s', _, rfl, rfl⟩; exact ⟨.inl rfl, .inl rfl, .inl rfl, trivial⟩
        · rintro v bs ⟨a, s', h, rfl, rfl⟩
          refine gP ?_
          refine fP (pieceB l me log s') ?_
          exact ⟨a, s', by rw [← hE]; exact bind_err (bind_err h), rfl, rfl⟩
        rintro d bs ⟨u, s1, hq1, hle1, hlen1, rfl, rfl⟩
        have hE2 : clrL l me 2 ([s.e0, s.e1, s.e2].drop 2) log { s1 with e1 := 0 } = E := by rw [← hE]; exact (bind_ok (f := fun _ => clrL l me 2 ([s.e0, s.e1, s.e2].drop 2)) (bind_ok (f := fun _ => setE 1) hq1)).symm
        refine go ?_
        refine a_q (indexAddrP_step tabOk rfl rfl rfl rfl rfl (by omega) (by omega)) rfl rfl rfl ?_
        refine go ?_
        exact ⟨(2, { s1 with e1 := 0 }), ⟨by simp only; omega, by simp only; omega, by simp only; omega, hE2⟩, by simp only; omega, zX⟩
      · rw [clr1, if_pos (of_decide_eq_true h2)] at hE
        refine go ?_
        exact ⟨(2, t), ⟨by simp only; omega, ht0, ht1, hE⟩, by simp only; omega, zX⟩
    · exact absurd h1 (by decide)
  · refine (show AWP _ _ _ _ ⟨[(8, dI 2), (7, .agg [dI s.e0, dI s.e1, dI s.e2]), (0, .ptr 11 0)], pieceB l me log t, []⟩ from ?_)
    have hE : (clr1 l me 2 s.e2).bind (fun _ => clrL l me 3 ([s.e0, s.e1, s.e2].drop 3)) log t = E := hE
    refine go ?_
    refine ck_b (fun h1 => ?_) (fun h1 => ?_) <;> try rw [h1]
    · refine go ?_
      refine a_q (index_step tabOk (dI s.e2) rfl rfl rfl rfl rfl rfl (by omega) (by omega) rfl) rfl rfl rfl ?_
      refine go ?_
      generalize h2 : decide (s.e2 = 0) = cc; cases cc
      · rw [clr1, if_neg (of_decide_eq_false h2)] at hE
        refine go ?_
        refine awp_region_w 11 [] rfl rfl (by kernel_rfl) (by kernel_rfl) (by kernel_rfl) ?_
        refine goQ ?_
        refine r_q (call_step (resv_c l hL me 2 (by omega)) rfl (fun a w => Tryz.call99 a w) rfl) rfl rfl ?_
        refine goQ ?_
        refine cX (store_x l me log t (resvF l me 2) 0 ht1 hl) (fun a w => Tryz.call80 a w) ?_ ?_ ?_ ?_
        · rintro d bs ⟨x, s', _, _, _, rfl, rfl⟩; exact ⟨.inl rfl, .inl rfl, .inl rfl, trivial⟩
        · rintro v bs ⟨a, s', _, rfl, rfl⟩; exact ⟨.inl rfl, .inl rfl, .inl rfl, trivial⟩
        · rintro v bs ⟨a, s', h, rfl, rfl⟩
          refine gP ?_
          refine fP (pieceB l me log s') ?_
          exact ⟨a, s', by rw [← hE]; exact bind_err (bind_err h), rfl, rfl⟩
        rintro d bs ⟨u, s1, hq1, hle1, hlen1, rfl, rfl⟩
        have hE2 : clrL l me 3 ([s.e0, s.e1, s.e2].drop 3) log { s1 with e2 := 0 } = E := by rw [← hE]; exact (bind_ok (f := fun _ => clrL l me 3 ([s.e0, s.e1, s.e2].drop 3)) (bind_ok (f := fun _ => setE 2) hq1)).symm
        refine go ?_
        refine a_q (indexAddrP_step tabOk rfl rfl rfl rfl rfl (by omega) (by omega)) rfl rfl rfl ?_
        refine go ?_
        exact ⟨(3, { s1 with e2 := 0 }), ⟨by simp only; omega, by simp only; omega, by simp only; omega, hE2⟩, by simp only; omega, zX⟩
      · rw [clr1, if_pos (of_decide_eq_true h2)] at hE
        refine go ?_
        exact ⟨(3, t), ⟨by simp only; omega, ht0, ht1, hE⟩, by simp only; omega, zX⟩
    · exact absurd h1 (by decide)
  · refine (show AWP _ _ _ _ ⟨[(8, dI 3), (7, .agg [dI s.e0, dI s.e1, dI s.e2]), (0, .ptr 11 0)], pieceB l me log t, []⟩ from ?_)
    refine go ?_
    refine ck_b (fun h1 => ?_) (fun h1 => ?_) <;> try rw [h1]
    · exact absurd h1 (by decide)
    · refine go ?_
      first | refine fR (pieceB l me log t) ?_ | refine fN (pieceB l me log t) ?_
      exact ⟨(), t, hE.symm, ht0, ht1, rfl, rfl⟩
theorem clone2_f (g : List (Int × Int)) (hg : g.length ≤ 100000) : FreshC Tryz.prog 61 [dGone g] 98 2 g.length (pGone g) := by
  have hlen : (pGone g).length = g.length * 2 := by
    clear hg
    induction g with
    | nil => rfl
    | cons x g ih => unfold pGone at ih ⊢; rw [List.flatMap_cons, List.length_append, ih]; simp [pPair]; omega
  refine fresh_fin Tryz.func61 rfl Tryz.ntmps61 rfl rfl rfl fun w cl => ?_
  refine go ?_
  refine a_nil tabOk rfl rfl rfl rfl rfl rfl rfl fun c hc => ?_
  cases c with
  | true =>
    have : g = [] := List.eq_nil_of_length_eq_zero (hc rfl)
    subst this
    refine go ?_
    exact finF_full rfl
  | false =>
    refine go ?_
    refine aops_ghost (tip_ghost 5 0 98 2 rfl rfl rfl) ?_
    refine go ?_
    refine a_append tabOk rfl rfl rfl rfl rfl rfl rfl rfl rfl rfl rfl rfl hlen (by unfold maxLen; omega) (by show (_ + _) * 16 ≤ _; omega) ?_
    rw [Nat.zero_add, List.nil_append]
    refine go ?_
    exact finF_ret rfl rfl
end Go.Proofs.YtdmnjoidfjidbaaGreat
