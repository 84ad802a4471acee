/- Pushes and pops: their walks. -/
import Derived.Test.YtdmnjoidfjidbaaGreatG1
namespace Go.Proofs.YtdmnjoidfjidbaaGreat
open Go.RowKit
set_option maxRecDepth 100000

theorem tryPush_ok {l : LayT} {top n : Int} {log : List ResT} {s s' : PsT} {b : Bool} (h : tryPush l top n log s = .ok (b, s')) : s'.gone = s.gone ∧ s'.made = s.made + 3 := by
  unfold tryPush at h
  cases h1 : loadM top log s with
  | error a => rw [bind_err h1] at h; cases h
  | ok q =>
    obtain ⟨w, s1⟩ := q
    rw [bind_ok h1] at h
    cases h2 : storeM (nodeF l n 0) (ofW w).idx log s1 with
    | error a => rw [bind_err h2] at h; cases h
    | ok q =>
      obtain ⟨u, s2⟩ := q
      rw [bind_ok h2] at h
      rw [(casM_gone h).1, (storeM_gone h2).1, (loadM_gone h1).1]
      exact ⟨rfl, rfl⟩
theorem metM_ok {c mine no : Int} {log : List ResT} {s s' : PsT} {b : Bool} (h : metM c mine no log s = .ok (b, s')) : s'.gone = s.gone ∧ s.made < s'.made := by
  unfold metM at h
  cases h1 : loadM c log s with
  | error a => rw [bind_err h1] at h; cases h
  | ok q =>
    obtain ⟨x, s1⟩ := q
    rw [bind_ok h1] at h
    have g1 := (loadM_gone h1).1
    split at h
    · cases h2 : loadM c log s1 with
      | error a => rw [bind_err h2] at h; cases h
      | ok q =>
        obtain ⟨y, s2⟩ := q
        rw [bind_ok h2] at h
        have g2 := (loadM_gone h2).1
        split at h
        · cases h3 : casM c mine no log s2 with
          | error a => rw [bind_err h3] at h; cases h
          | ok q =>
            obtain ⟨ok, s3⟩ := q
            rw [bind_ok h3] at h
            cases h
            rw [(casM_gone h3).1, g2, g1]
            exact ⟨rfl, by simp only; omega⟩
        · cases h; rw [g2, g1]; exact ⟨rfl, by simp only; omega⟩
    · cases h; rw [g1]; exact ⟨rfl, by simp only; omega⟩
theorem putE_made3 (x : PsT) (i v : Int) : (x.putE i v).made = x.made := by
  unfold PsT.putE
  split
  · rfl
  · split <;> rfl
theorem guardL_mono {l : LayT} {me i cell : Int} : ∀ {k : Nat} {log : List ResT} {s s' : PsT} {p : Int × Int}, guardL l me i cell k log s = .ok (p, s') → s.made ≤ s'.made ∧ (0 < k → s.made < s'.made)
  | 0, log, s, s', p, h => by cases h; exact ⟨Nat.le_refl _, fun h => absurd h (Nat.lt_irrefl _)⟩
  | k + 1, log, s, s', p, h => by
    rw [guardL] at h
    cases h1 : loadM cell log s with
    | error a => rw [bind_err h1] at h; cases h
    | ok q =>
      obtain ⟨v, s1⟩ := q
      rw [bind_ok h1, bind_ok last_ok] at h
      have g1 := loadM_made h1
      cases h2 : loadM l.era log s1 with
      | error a => rw [bind_err h2] at h; cases h
      | ok q =>
        obtain ⟨er, s2⟩ := q
        rw [bind_ok h2] at h
        have g2 := loadM_made h2
        split at h
        · cases h; exact ⟨by omega, fun _ => by omega⟩
        · cases h3 : storeM (resvF l me i) er log s2 with
          | error a => rw [bind_err h3] at h; cases h
          | ok q =>
            obtain ⟨u, s3⟩ := q
            rw [bind_ok h3] at h
            have g3 := storeM_made h3
            have g4 := (guardL_mono h).1
            rw [putE_made3] at g4
            exact ⟨by omega, fun _ => by omega⟩
theorem guardL_made {l : LayT} {me i cell : Int} {log : List ResT} {s s' : PsT} {p : Int × Int} (hm : s.made ≤ log.length) (h : guardM l me i cell log s = .ok (p, s')) : s.made < s'.made := (guardL_mono h).2 (by omega)
theorem tryPop_ok {l : LayT} {me top : Int} {log : List ResT} {s s' : PsT} {p : Int × Int × Int} (h : tryPop l me top log s = .ok (p, s')) : s'.gone = s.gone ∧ (s.made ≤ log.length → s.made < s'.made) ∧ 0 ≤ p.1 ∧ p.1 < 65536 ∧ (p.2.2 = 0 ∨ p.2.2 = 1 ∨ p.2.2 = 2) := by
  unfold tryPop at h
  cases h1 : guardM l me 0 top log s with
  | error a => rw [bind_err h1] at h; cases h
  | ok q =>
    obtain ⟨p0, s1⟩ := q
    rw [bind_ok h1] at h
    have g1 : s1.gone = s.gone := guardL_gone h1
    have m1 : s.made ≤ log.length → s.made < s1.made := fun hm => guardL_made hm h1
    split at h
    · cases h; exact ⟨g1, m1, by simp, by simp, .inl rfl⟩
    · cases h2 : loadM (nodeF l (ofW p0.1).idx 0) log s1 with
      | error a => rw [bind_err h2] at h; cases h
      | ok q =>
        obtain ⟨be, s2⟩ := q
        rw [bind_ok h2] at h
        have g2 := (loadM_gone h2).1
        cases h3 : casM top p0.1 (packW (turnW (ofW p0.1) be)) log s2 with
        | error a => rw [bind_err h3] at h; cases h
        | ok q =>
          obtain ⟨ok, s3⟩ := q
          rw [bind_ok h3] at h
          have g3 := (casM_gone h3).1
          have hx := ofW_idx p0.1
          cases ok
          · rw [if_neg (by decide), bind_ok last_ok] at h
            cases h
            rw [g3, g2]
            exact ⟨g1, fun hm => by have := m1 hm; simp only; omega, by simp, by simp, .inr (.inl rfl)⟩
          · rw [if_pos rfl, bind_ok last_ok] at h
            cases h
            rw [g3, g2]
            exact ⟨g1, fun hm => by have := m1 hm; simp only; omega, hx.1, hx.2, .inr (.inr rfl)⟩
set_option maxHeartbeats 8000000 in
theorem push_x (l : LayT) (hL : LayOk l) (me : Int) (log : List ResT) (s : PsT) (top c v : Int) (hm : s.made ≤ log.length) (hl : log.length ≤ 1000000) : PmC 47 l me log s [.ptr 11 0, dI top, dI c, dI v] (pushM l top c v log s) dOut0 := by
  generalize hE : pushM l top c v log s = E
  unfold pushM at hE
  refine sX Tryz.func47 Tryz.ntmps47 fun w cl own kf => ?_
  refine go ?_
  refine cX (take_x l hL me log s hm hl) (fun a w => Tryz.call79 a w) ?_ ?_ ?_ ?_
  · rintro d bs ⟨x, s', _, _, _, rfl, rfl⟩; exact ⟨.inl rfl, .inl rfl, .inl rfl, trivial⟩
  · rintro v bs ⟨a, s', _, rfl, rfl⟩; exact ⟨.inl rfl, .inl rfl, .inl rfl, trivial⟩
  · rintro v bs ⟨a, s', h, rfl, rfl⟩
    refine gP ?_
    refine fP (pieceB l me log s') ?_
    exact ⟨a, s', by rw [← hE]; exact bind_err h, rfl, rfl⟩
  rintro d bs ⟨p, s1, hq1, hle1, hlen1, rfl, rfl⟩
  rw [bind_ok hq1] at hE
  have hp1 := (takeL_idx hq1).1
  obtain ⟨n, at_, ok⟩ := p
  simp only at hE hp1
  refine go ?_
  cases ok
  · rw [if_neg (by decide)] at hE
    refine go ?_
    first | refine fR (pieceB l me log s1) ?_ | refine fN (pieceB l me log s1) ?_
    exact ⟨_, s1, hE.symm, hle1, hlen1, rfl, rfl⟩
  · rw [if_pos rfl] at hE
    refine go ?_
    refine a_q (lend_step (pnode_c l hL me s1 n 1 (by omega) (by omega)) rfl (fun a w => Tryz.call81 a w) rfl rfl) rfl rfl rfl ?_
    refine go ?_
    refine cX (store_x l me log s1 (nodeF l n 1) v hlen1 hl) (fun a w => Tryz.call80 a w) ?_ ?_ ?_ ?_
    · rintro d bs ⟨x, s', _, _, _, rfl, rfl⟩; exact ⟨.inl rfl, .inl rfl, .inl rfl, trivial⟩
    · rintro v bs ⟨a, s', _, rfl, rfl⟩; exact ⟨.inl rfl, .inl rfl, .inl rfl, trivial⟩
    · rintro v bs ⟨a, s', h, rfl, rfl⟩
      refine gP ?_
      refine fP (pieceB l me log s') ?_
      exact ⟨a, s', by rw [← hE]; exact bind_err h, rfl, rfl⟩
    rintro d bs ⟨u, s2, hq2, hle2, hlen2, rfl, rfl⟩
    rw [bind_ok hq2] at hE
    refine go ?_
    refine awp_loop_ok (fun p : Nat × PsT => s.made ≤ p.2.made ∧ p.2.made ≤ log.length ∧ log.length - p.2.made < p.1 ∧ pushL l top c v n p.1 log p.2 = E) (fun p => ⟨[(0, .ptr 11 0), (1, dI top), (2, dI c), (3, dI v), (9, dI n), (8, .ptr 3 0)], (3, [dI 0, dB false, dI 0, dI 0, .p (.sl true 0 [])]) :: pieceB l me log p.2, []⟩) (fun p => p.1) (log.length + 1 - s2.made, s2) ⟨by simp only; omega, hlen2, by simp only; omega, hE⟩ (zX) ?_
    rintro ⟨k, t⟩ ⟨ht0, ht1, ht2, hE⟩
    simp only at ht0 ht1 ht2 hE
    obtain ⟨k, rfl⟩ : ∃ j, k = j + 1 := ⟨k - 1, by omega⟩
    refine (show AWP _ _ _ _ ⟨[(0, .ptr 11 0), (1, dI top), (2, dI c), (3, dI v), (9, dI n), (8, .ptr 3 0)], (3, [dI 0, dB false, dI 0, dI 0, .p (.sl true 0 [])]) :: pieceB l me log t, []⟩ from ?_)
    rw [pushL] at hE
    refine go ?_
    refine cX (tryPush_x l hL me log t top n (by omega) ht1 hl) (fun a w => Tryz.call82 a w) ?_ ?_ ?_ ?_
    · rintro d bs ⟨x, s', _, _, _, rfl, rfl⟩; exact ⟨.inl rfl, .inl rfl, .inl rfl, trivial⟩
    · rintro v bs ⟨a, s', _, rfl, rfl⟩; exact ⟨.inl rfl, .inl rfl, .inl rfl, trivial⟩
    · rintro v bs ⟨a, s', h, rfl, rfl⟩
      refine gP ?_
      refine fP (pieceB l me log s') ?_
      exact ⟨a, s', by rw [← hE]; exact bind_err h, rfl, rfl⟩
    rintro d bs ⟨ok1, s3, hq3, hle3, hlen3, rfl, rfl⟩
    rw [bind_ok hq3] at hE
    have hs3 := (tryPush_ok hq3).2
    refine go ?_
    cases ok1
    · rw [if_neg (by decide)] at hE
      refine go ?_
      refine cX (load_x l me log s3 c hlen3 hl) (fun a w => Tryz.call84 a w) ?_ ?_ ?_ ?_
      · rintro d bs ⟨x, s', _, _, _, rfl, rfl⟩; exact ⟨.inl rfl, .inl rfl, .inl rfl, trivial⟩
      · rintro v bs ⟨a, s', _, rfl, rfl⟩; exact ⟨.inl rfl, .inl rfl, .inl rfl, trivial⟩
      · rintro v bs ⟨a, s', h, rfl, rfl⟩
        refine gP ?_
        refine fP (pieceB l me log s') ?_
        exact ⟨a, s', by rw [← hE]; exact bind_err h, rfl, rfl⟩
      rintro d bs ⟨w, s4, hq4, hle4, hlen4, rfl, rfl⟩
      rw [bind_ok hq4] at hE
      have hs4 := loadM_made hq4
      have hk0 : 0 ≤ offK w ∧ offK w < 4 := by unfold offK; omega
      have hc0 : 0 ≤ offC w ∧ offC w < 268435456 := by unfold offC; omega
      refine go ?_
      refine a_q (call_step (offered_c w) rfl (fun a w => Tryz.call85 a w) rfl) rfl rfl rfl ?_
      refine go ?_
      generalize h1 : decide (offK w = 0) = cc; cases cc
      · rw [if_neg (of_decide_eq_false h1)] at hE
        refine go ?_
        exact ⟨(k, s4), ⟨by simp only; omega, hlen4, by simp only; omega, hE⟩, by simp only; omega, zX⟩
      · rw [if_pos (of_decide_eq_true h1)] at hE
        refine go ?_
        refine a_q (call_step (offer_c v 1 (offC w + 1)) rfl (fun a w => Tryz.call86 a w) rfl) rfl rfl rfl ?_
        refine go ?_
        refine a_q (call_step (offer_c 0 0 (offC w + 1)) rfl (fun a w => Tryz.call86 a w) rfl) rfl rfl rfl ?_
        refine go ?_
        refine cX (cas_x l me log s4 c w (offW v 1 (offC w + 1)) hlen4 hl) (fun a w => Tryz.call87 a w) ?_ ?_ ?_ ?_
        · rintro d bs ⟨x, s', _, _, _, rfl, rfl⟩; exact ⟨.inl rfl, .inl rfl, .inl rfl, trivial⟩
        · rintro v bs ⟨a, s', _, rfl, rfl⟩; exact ⟨.inl rfl, .inl rfl, .inl rfl, trivial⟩
        · rintro v bs ⟨a, s', h, rfl, rfl⟩
          refine gP ?_
          refine fP (pieceB l me log s') ?_
          exact ⟨a, s', by rw [← hE]; exact bind_err h, rfl, rfl⟩
        rintro d bs ⟨ok2, s5, hq5, hle5, hlen5, rfl, rfl⟩
        rw [bind_ok hq5] at hE
        have hs5 := casM_made hq5
        refine go ?_
        cases ok2
        · rw [if_neg (by decide)] at hE
          refine go ?_
          exact ⟨(k, s5), ⟨by simp only; omega, hlen5, by simp only; omega, hE⟩, by simp only; omega, zX⟩
        · rw [if_pos rfl, bind_ok last_ok] at hE
          refine go ?_
          refine a_q (lend_step (plast_c l me s5 (by omega)) rfl (fun a w => Tryz.call83 a w) rfl rfl) rfl rfl rfl ?_
          refine go ?_
          refine cX (met_x l me log s5 c (offW v 1 (offC w + 1)) (offW 0 0 (offC w + 1)) hlen5 hl) (fun a w => Tryz.call88 a w) ?_ ?_ ?_ ?_
          · rintro d bs ⟨x, s', _, _, _, rfl, rfl⟩; exact ⟨.inl rfl, .inl rfl, .inl rfl, trivial⟩
          · rintro v bs ⟨a, s', _, rfl, rfl⟩; exact ⟨.inl rfl, .inl rfl, .inl rfl, trivial⟩
          · rintro v bs ⟨a, s', h, rfl, rfl⟩
            refine gP ?_
            refine fP (pieceB l me log s') ?_
            exact ⟨a, s', by rw [← hE]; exact bind_err h, rfl, rfl⟩
          rintro d bs ⟨mt, s6, hq6, hle6, hlen6, rfl, rfl⟩
          rw [bind_ok hq6] at hE
          have hs6 := (metM_ok hq6).2
          refine go ?_
          cases mt
          · rw [if_neg (by decide)] at hE
            refine go ?_
            exact ⟨(k, s6), ⟨by simp only; omega, hlen6, by simp only; omega, hE⟩, by simp only; omega, zX⟩
          · rw [if_pos rfl] at hE
            refine go ?_
            refine cX (store_x l me log s6 c (offW 0 0 (offC w + 1)) hlen6 hl) (fun a w => Tryz.call80 a w) ?_ ?_ ?_ ?_
            · rintro d bs ⟨x, s', _, _, _, rfl, rfl⟩; exact ⟨.inl rfl, .inl rfl, .inl rfl, trivial⟩
            · rintro v bs ⟨a, s', _, rfl, rfl⟩; exact ⟨.inl rfl, .inl rfl, .inl rfl, trivial⟩
            · rintro v bs ⟨a, s', h, rfl, rfl⟩
              refine gP ?_
              refine fP (pieceB l me log s') ?_
              exact ⟨a, s', by rw [← hE]; exact bind_err h, rfl, rfl⟩
            rintro d bs ⟨u, s7, hq7, hle7, hlen7, rfl, rfl⟩
            rw [bind_ok hq7] at hE
            refine go ?_
            refine cX (give_x l hL me log s7 n (by omega) hlen7 hl) (fun a w => Tryz.call89 a w) ?_ ?_ ?_ ?_
            · rintro d bs ⟨x, s', _, _, _, rfl, rfl⟩; exact ⟨.inl rfl, .inl rfl, .inl rfl, trivial⟩
            · rintro v bs ⟨a, s', _, rfl, rfl⟩; exact ⟨.inl rfl, .inl rfl, .inl rfl, trivial⟩
            · rintro v bs ⟨a, s', h, rfl, rfl⟩
              refine gP ?_
              refine fP (pieceB l me log s') ?_
              exact ⟨a, s', by rw [← hE]; exact bind_err h, rfl, rfl⟩
            rintro d bs ⟨u, s8, hq8, hle8, hlen8, rfl, rfl⟩
            rw [bind_ok hq8] at hE
            refine go ?_
            rw [show IntKind.i64.wrap (0 - ((s5.made : Int) - 1)) = -((s5.made : Int) - 1) by rw [wrap_id (by omega) (by omega)]; omega, show IntKind.i64.wrap (-((s5.made : Int) - 1) - 2) = -((s5.made : Int) - 1) - 2 from wrap_id (by omega) (by omega)]
            first | refine fR (pieceB l me log s8) ?_ | refine fN (pieceB l me log s8) ?_
            exact ⟨_, s8, hE.symm, by omega, hlen8, rfl, rfl⟩
    · rw [if_pos rfl, bind_ok last_ok] at hE
      refine go ?_
      refine a_q (lend_step (plast_c l me s3 (by omega)) rfl (fun a w => Tryz.call83 a w) rfl rfl) rfl rfl rfl ?_
      refine go ?_
      first | refine fR (pieceB l me log s3) ?_ | refine fN (pieceB l me log s3) ?_
      exact ⟨_, s3, hE.symm, by omega, hlen3, rfl, rfl⟩
set_option maxHeartbeats 8000000 in
theorem pop_x (l : LayT) (hL : LayOk l) (me : Int) (log : List ResT) (s : PsT) (top c : Int) (hgo : GoneOk s.gone) (hgl : s.gone.length ≤ 10000) (hm : s.made ≤ log.length) (hl : log.length ≤ 1000000) : PmC 49 l me log s [.ptr 11 0, dI top, dI c] (popM l me top c log s) dOut0 := by
  generalize hE : popM l me top c log s = E
  unfold popM at hE
  refine sX Tryz.func49 Tryz.ntmps49 fun w cl own kf => ?_
  refine go ?_
  refine awp_loop_ok (fun p : Nat × PsT => s.made ≤ p.2.made ∧ p.2.made ≤ log.length ∧ log.length - p.2.made < p.1 ∧ p.2.gone = s.gone ∧ popL l me top c p.1 log p.2 = E) (fun p => ⟨[(0, .ptr 11 0), (1, dI top), (2, dI c), (6, .ptr 3 0), (7, .ptr 4 0)], (4, [dI 0, dB false, dI 0, dI 0, .p (.sl true 0 [])]) :: (3, [dI 0, dB false, dI 0, dI 0, .p (.sl true 0 [])]) :: pieceB l me log p.2, []⟩) (fun p => p.1) (log.length + 1 - s.made, s) ⟨Nat.le_refl _, hm, by simp only; omega, rfl, hE⟩ (zX) ?_
  rintro ⟨k, t⟩ ⟨ht0, ht1, ht2, htg, hE⟩
  simp only at ht0 ht1 ht2 htg hE
  obtain ⟨k, rfl⟩ : ∃ j, k = j + 1 := ⟨k - 1, by omega⟩
  refine (show AWP _ _ _ _ ⟨[(0, .ptr 11 0), (1, dI top), (2, dI c), (6, .ptr 3 0), (7, .ptr 4 0)], (4, [dI 0, dB false, dI 0, dI 0, .p (.sl true 0 [])]) :: (3, [dI 0, dB false, dI 0, dI 0, .p (.sl true 0 [])]) :: pieceB l me log t, []⟩ from ?_)
  rw [popL] at hE
  refine go ?_
  refine cX (tryPop_x l hL me log t top ht1 hl) (fun a w => Tryz.call90 a w) ?_ ?_ ?_ ?_
  · rintro d bs ⟨x, s', _, _, _, rfl, rfl⟩; exact ⟨.inl rfl, .inl rfl, .inl rfl, trivial⟩
  · rintro v bs ⟨a, s', _, rfl, rfl⟩; exact ⟨.inl rfl, .inl rfl, .inl rfl, trivial⟩
  · rintro v bs ⟨a, s', h, rfl, rfl⟩
    refine gP ?_
    refine fP (pieceB l me log s') ?_
    exact ⟨a, s', by rw [← hE]; exact bind_err h, rfl, rfl⟩
  rintro d bs ⟨p, s1, hq1, hle1, hlen1, rfl, rfl⟩
  rw [bind_ok hq1] at hE
  obtain ⟨g1, m1, n0, n1, hcm⟩ := tryPop_ok hq1
  have hs1 := m1 ht1
  have hg1 : s1.gone = s.gone := g1.trans htg
  obtain ⟨n, at_, came⟩ := p
  simp only at hE n0 n1 hcm
  refine go ?_
  rcases hcm with rfl | rfl | rfl
  · rw [if_pos rfl] at hE
    rw [show decide ((0 : Int) = 0) = true from rfl]
    refine go ?_
    refine cX (clear_x l hL me log s1 hlen1 hl) (fun a w => Tryz.call91 a w) ?_ ?_ ?_ ?_
    · rintro d bs ⟨x, s', _, _, _, rfl, rfl⟩; exact ⟨.inl rfl, .inl rfl, .inl rfl, trivial⟩
    · rintro v bs ⟨a, s', _, rfl, rfl⟩; exact ⟨.inl rfl, .inl rfl, .inl rfl, trivial⟩
    · rintro v bs ⟨a, s', h, rfl, rfl⟩
      refine gP ?_
      refine fP (pieceB l me log s') ?_
      exact ⟨a, s', by rw [← hE]; exact bind_err h, rfl, rfl⟩
    rintro d bs ⟨u, s2, hq2, hle2, hlen2, rfl, rfl⟩
    rw [bind_ok hq2] at hE
    refine go ?_
    first | refine fR (pieceB l me log s2) ?_ | refine fN (pieceB l me log s2) ?_
    exact ⟨_, s2, hE.symm, by omega, hlen2, rfl, rfl⟩
  · rw [if_neg (by decide), if_neg (by decide)] at hE
    rw [show decide ((1 : Int) = 0) = false from rfl]
    refine go ?_
    rw [show decide ((1 : Int) = 2) = false from rfl]
    refine go ?_
    refine cX (load_x l me log s1 c hlen1 hl) (fun a w => Tryz.call84 a w) ?_ ?_ ?_ ?_
    · rintro d bs ⟨x, s', _, _, _, rfl, rfl⟩; exact ⟨.inl rfl, .inl rfl, .inl rfl, trivial⟩
    · rintro v bs ⟨a, s', _, rfl, rfl⟩; exact ⟨.inl rfl, .inl rfl, .inl rfl, trivial⟩
    · rintro v bs ⟨a, s', h, rfl, rfl⟩
      refine gP ?_
      refine fP (pieceB l me log s') ?_
      exact ⟨a, s', by rw [← hE]; exact bind_err h, rfl, rfl⟩
    rintro d bs ⟨w, s2, hq2, hle2, hlen2, rfl, rfl⟩
    rw [bind_ok hq2] at hE
    have hs2 := loadM_made hq2
    have hg2 : s2.gone = s.gone := by rw [(loadM_gone hq2).1]; exact hg1
    have hv0 : 0 ≤ offV w ∧ offV w < 4294967296 := by unfold offV; omega
    refine go ?_
    refine a_q (call_step (offered_c w) rfl (fun a w => Tryz.call85 a w) rfl) rfl rfl rfl ?_
    refine go ?_
    generalize h1 : decide (offK w = 1) = cc; cases cc
    · rw [if_neg (of_decide_eq_false h1)] at hE
      refine go ?_
      exact ⟨(k, s2), ⟨by simp only; omega, hlen2, by simp only; omega, hg2, hE⟩, by simp only; omega, zX⟩
    · rw [if_pos (of_decide_eq_true h1)] at hE
      refine go ?_
      refine a_q (call_step (offer_c (offV w) 2 (offC w)) rfl (fun a w => Tryz.call86 a w) rfl) rfl rfl rfl ?_
      refine go ?_
      refine cX (cas_x l me log s2 c w (offW (offV w) 2 (offC w)) hlen2 hl) (fun a w => Tryz.call87 a w) ?_ ?_ ?_ ?_
      · rintro d bs ⟨x, s', _, _, _, rfl, rfl⟩; exact ⟨.inl rfl, .inl rfl, .inl rfl, trivial⟩
      · rintro v bs ⟨a, s', _, rfl, rfl⟩; exact ⟨.inl rfl, .inl rfl, .inl rfl, trivial⟩
      · rintro v bs ⟨a, s', h, rfl, rfl⟩
        refine gP ?_
        refine fP (pieceB l me log s') ?_
        exact ⟨a, s', by rw [← hE]; exact bind_err h, rfl, rfl⟩
      rintro d bs ⟨ok1, s3, hq3, hle3, hlen3, rfl, rfl⟩
      rw [bind_ok hq3] at hE
      have hs3 := casM_made hq3
      have hg3 : s3.gone = s.gone := by rw [(casM_gone hq3).1]; exact hg2
      refine go ?_
      cases ok1
      · rw [if_neg (by decide)] at hE
        refine go ?_
        exact ⟨(k, s3), ⟨by simp only; omega, hlen3, by simp only; omega, hg3, hE⟩, by simp only; omega, zX⟩
      · rw [if_pos rfl, bind_ok last_ok] at hE
        refine go ?_
        refine a_q (lend_step (plast_c l me s3 (by omega)) rfl (fun a w => Tryz.call83 a w) rfl rfl) rfl rfl rfl ?_
        refine go ?_
        refine cX (clear_x l hL me log s3 hlen3 hl) (fun a w => Tryz.call91 a w) ?_ ?_ ?_ ?_
        · rintro d bs ⟨x, s', _, _, _, rfl, rfl⟩; exact ⟨.inl rfl, .inl rfl, .inl rfl, trivial⟩
        · rintro v bs ⟨a, s', _, rfl, rfl⟩; exact ⟨.inl rfl, .inl rfl, .inl rfl, trivial⟩
        · rintro v bs ⟨a, s', h, rfl, rfl⟩
          refine gP ?_
          refine fP (pieceB l me log s') ?_
          exact ⟨a, s', by rw [← hE]; exact bind_err h, rfl, rfl⟩
        rintro d bs ⟨u, s4, hq4, hle4, hlen4, rfl, rfl⟩
        rw [bind_ok hq4] at hE
        refine go ?_
        first | refine fR (pieceB l me log s4) ?_ | refine fN (pieceB l me log s4) ?_
        exact ⟨_, s4, hE.symm, by omega, hlen4, rfl, rfl⟩
  · rw [if_neg (by decide), if_pos rfl] at hE
    rw [show decide ((2 : Int) = 0) = false from rfl]
    refine go ?_
    rw [show decide ((2 : Int) = 2) = true from rfl]
    refine go ?_
    refine a_q (lend_step (pnode_c l hL me s1 n 1 (by omega) (by omega)) rfl (fun a w => Tryz.call81 a w) rfl rfl) rfl rfl rfl ?_
    refine go ?_
    refine cX (load_x l me log s1 (nodeF l n 1) hlen1 hl) (fun a w => Tryz.call84 a w) ?_ ?_ ?_ ?_
    · rintro d bs ⟨x, s', _, _, _, rfl, rfl⟩; exact ⟨.inl rfl, .inl rfl, .inl rfl, trivial⟩
    · rintro v bs ⟨a, s', _, rfl, rfl⟩; exact ⟨.inl rfl, .inl rfl, .inl rfl, trivial⟩
    · rintro v bs ⟨a, s', h, rfl, rfl⟩
      refine gP ?_
      refine fP (pieceB l me log s') ?_
      exact ⟨a, s', by rw [← hE]; exact bind_err h, rfl, rfl⟩
    rintro d bs ⟨w, s2, hq2, hle2, hlen2, rfl, rfl⟩
    rw [bind_ok hq2] at hE
    have hg2 : s2.gone = s.gone := by rw [(loadM_gone hq2).1]; exact hg1
    refine go ?_
    refine cX (clear_x l hL me log s2 hlen2 hl) (fun a w => Tryz.call91 a w) ?_ ?_ ?_ ?_
    · rintro d bs ⟨x, s', _, _, _, rfl, rfl⟩; exact ⟨.inl rfl, .inl rfl, .inl rfl, trivial⟩
    · rintro v bs ⟨a, s', _, rfl, rfl⟩; exact ⟨.inl rfl, .inl rfl, .inl rfl, trivial⟩
    · rintro v bs ⟨a, s', h, rfl, rfl⟩
      refine gP ?_
      refine fP (pieceB l me log s') ?_
      exact ⟨a, s', by rw [← hE]; exact bind_err h, rfl, rfl⟩
    rintro d bs ⟨u, s3, hq3, hle3, hlen3, rfl, rfl⟩
    rw [bind_ok hq3] at hE
    have hg3 : s3.gone = s.gone := (clrL_gone hq3).trans hg2
    refine go ?_
    refine cX (retire_x l hL me log s3 n (by omega) (by rw [hg3]; exact hgo) (by rw [hg3]; exact hgl) hlen3 hl) (fun a w => Tryz.call92 a w) ?_ ?_ ?_ ?_
    · rintro d bs ⟨x, s', _, _, _, rfl, rfl⟩; exact ⟨.inl rfl, .inl rfl, .inl rfl, trivial⟩
    · rintro v bs ⟨a, s', _, rfl, rfl⟩; exact ⟨.inl rfl, .inl rfl, .inl rfl, trivial⟩
    · rintro v bs ⟨a, s', h, rfl, rfl⟩
      refine gP ?_
      refine fP (pieceB l me log s') ?_
      exact ⟨a, s', by rw [← hE]; exact bind_err h, rfl, rfl⟩
    rintro d bs ⟨u, s4, hq4, hle4, hlen4, rfl, rfl⟩
    rw [bind_ok hq4] at hE
    refine go ?_
    first | refine fR (pieceB l me log s4) ?_ | refine fN (pieceB l me log s4) ?_
    exact ⟨_, s4, hE.symm, by omega, hlen4, rfl, rfl⟩
end Go.Proofs.YtdmnjoidfjidbaaGreat
