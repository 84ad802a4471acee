/- A list's get, put and del: their walks. -/
import Derived.Test.YtkkldicehapklaaGreatG1
namespace Go.Proofs.YtkkldicehapklaaGreat
open Go.RowKit
set_option maxRecDepth 100000

def OpR (l : LayT) (me : Int) (log : List ResT) (hd : Int) (s : PsT) (m : Except AccT (OutT × PsT)) : Dt → Bxs → Prop := fun d bs => ∃ x s' f, m = .ok (x, s') ∧ FiG log s s' ∧ d = dOut0 x ∧ bs = fndB l me log hd f s'
def OpX (l : LayT) (me : Int) (log : List ResT) (hd : Int) (m : Except AccT (OutT × PsT)) : Value → Bxs → Prop := fun x bs => ∃ a s' f, m = .error a ∧ x = askedV a ∧ bs = fndB l me log hd f s'
theorem FiG.trans {log : List ResT} {s t u : PsT} (h : FiG log s t) (h2 : FiG log t u) : FiG log s u := by
  obtain ⟨a1, a2, a3, a4⟩ := h
  obtain ⟨b1, b2, b3, b4⟩ := h2
  exact ⟨by omega, b2, b3, by omega⟩
theorem giveL_gone {l : LayT} {n : Int} : ∀ {k : Nat} {log : List ResT} {s s' : PsT} {u : Unit}, giveL l n k log s = .ok (u, s') → s'.gone = s.gone
  | 0, log, s, s', u, h => by cases h; rfl
  | k + 1, log, s, s', u, h => by
    rw [giveL] at h
    cases h1 : loadM l.free log s with
    | error a => rw [bind_err h1] at h; cases h
    | ok q =>
      obtain ⟨fr, s1⟩ := q
      rw [bind_ok h1] at h
      have g1 : s1.gone = s.gone := by rw [(loadM_gone h1).1]
      cases h2 : storeM (nodeF l n 7) (ofW fr).idx log s1 with
      | error a => rw [bind_err h2] at h; cases h
      | ok q =>
        obtain ⟨lk, s2⟩ := q
        rw [bind_ok h2] at h
        have g2 : s2.gone = s.gone := by rw [(storeM_gone h2).1]; exact g1
        cases h3 : casM l.free fr (packW (turnW (ofW fr) n)) log s2 with
        | error a => rw [bind_err h3] at h; cases h
        | ok q =>
          obtain ⟨ok, s3⟩ := q
          rw [bind_ok h3] at h
          have g3 : s3.gone = s.gone := by rw [(casM_gone h3).1]; exact g2
          split at h
          · cases h; exact g3
          · exact (giveL_gone h).trans g3
theorem takeL_nn {l : LayT} : ∀ {k : Nat} {log : List ResT} {s s' : PsT} {p : Int × Int × Bool}, takeL l k log s = .ok (p, s') → 0 ≤ p.1
  | 0, log, s, s', p, h => by cases h; simp
  | k + 1, log, s, s', p, h => by
    rw [takeL] at h
    cases h1 : loadM l.free log s with
    | error a => rw [bind_err h1] at h; cases h
    | ok q =>
      obtain ⟨fr, s1⟩ := q
      rw [bind_ok h1] at h
      split at h
      · rw [bind_ok last_ok] at h; cases h; simp
      · cases h2 : loadM (nodeF l (ofW fr).idx 7) log s1 with
        | error a => rw [bind_err h2] at h; cases h
        | ok q =>
          obtain ⟨lk, s2⟩ := q
          rw [bind_ok h2] at h
          cases h3 : casM l.free fr (packW (turnW (ofW fr) lk)) log s2 with
          | error a => rw [bind_err h3] at h; cases h
          | ok q =>
            obtain ⟨ok, s3⟩ := q
            rw [bind_ok h3] at h
            split at h
            · rw [bind_ok last_ok] at h
              cases h4 : loadM l.era log s3 with
              | error a => rw [bind_err h4] at h; cases h
              | ok q =>
                obtain ⟨bi, s4⟩ := q
                rw [bind_ok h4] at h
                cases h5 : storeM (nodeF l (ofW fr).idx 6) bi log s4 with
                | error a => rw [bind_err h5] at h; cases h
                | ok q =>
                  obtain ⟨u, s5⟩ := q
                  rw [bind_ok h5] at h
                  cases h
                  exact (ofW_idx fr).1
            · exact takeL_nn h
set_option maxHeartbeats 8000000 in
theorem get_x (l : LayT) (hL : LayOk l) (me : Int) (log : List ResT) (hd o : Int) (f0 : FoundT) (s : PsT) (hgo : GoneOk s.gone) (hgl : s.gone.length + log.length ≤ 10000 + s.made) (hm : s.made ≤ log.length) (hl : log.length ≤ 1000000) :
    ImpX Tryz.prog 95 [11, 12, 13, 14] [.ptr 14 0, dI o] (fndB l me log hd f0 s) (OpR l me log hd s (getM l me hd o log s)) (OpX l me log hd (getM l me hd o log s)) := by
  generalize hE : getM l me hd o log s = E
  unfold getM at hE
  have hG : FiG log s s := ⟨Nat.le_refl _, hm, hgo, Nat.le_refl _⟩
  refine sX Tryz.func95 Tryz.ntmps95 fun w cl own kf => ?_
  refine go ?_
  refine cX (find_x l hL me log hd o f0 s hG.ok (by have := hG.len; have := hG.le; omega) hG.le hl) (fun a w => Tryz.call110 a w) ?_ ?_ ?_ ?_
  · rintro d bs ⟨f', s', _, _, _, _, _, rfl, rfl⟩; exact ⟨.inl rfl, .inl rfl, .inl rfl, .inl rfl, trivial⟩
  · rintro v bs ⟨a, s', f', _, rfl, rfl⟩; exact ⟨.inl rfl, .inl rfl, .inl rfl, .inl rfl, trivial⟩
  · rintro v bs ⟨a, s', f', h, rfl, rfl⟩
    refine gP ?_
    refine fP (fndB l me log hd f' s') ?_
    exact ⟨a, s', f', by rw [← hE]; exact bind_err h, rfl, rfl⟩
  rintro d bs ⟨f1, s1, hq1, hF1, hlt1, hc1, hd1, rfl, rfl⟩
  rw [bind_ok hq1] at hE
  have hG1 := hG.trans hF1
  obtain ⟨th, pv, cu, nx, pt⟩ := f1
  simp only at hE hc1 hd1
  refine go ?_
  refine awp_region_w 12 [] rfl rfl (by kernel_rfl) (by kernel_rfl) (by kernel_rfl) ?_
  refine goQ ?_
  refine go ?_
  cases th
  · rw [if_neg (by decide), outM] at hE
    refine go ?_
    refine cX (clear_x l hL me log s1 hG1.le hl) (fun a w => Tryz.call113 a w) ?_ ?_ ?_ ?_
    · rintro d bs ⟨x, s', _, _, _, rfl, rfl⟩; exact ⟨.inl rfl, .inl rfl, .inl rfl, trivial⟩
    · rintro v bs ⟨a, s', _, rfl, rfl⟩; exact ⟨.inl rfl, .inl rfl, .inl rfl, trivial⟩
    · rintro v bs ⟨a, s', h, rfl, rfl⟩
      refine gP ?_
      refine fP (fndB l me log hd ⟨false, pv, cu, nx, pt⟩ s') ?_
      exact ⟨a, s', _, by rw [← hE]; exact bind_err h, rfl, rfl⟩
    rintro d bs ⟨u, s2, hq2, hle2, hlen2, rfl, rfl⟩
    rw [bind_ok hq2] at hE
    have hG2 := hG1.same (clrL_gone hq2) hle2 hlen2
    refine go ?_
    first | refine fR (fndB l me log hd ⟨false, pv, cu, nx, pt⟩ s2) ?_ | refine fN (fndB l me log hd ⟨false, pv, cu, nx, pt⟩ s2) ?_
    exact ⟨_, s2, _, hE.symm, hG2, rfl, rfl⟩
  · rw [if_pos rfl] at hE
    refine go ?_
    refine awp_region_w 14 [] rfl rfl (by kernel_rfl) (by kernel_rfl) (by kernel_rfl) ?_
    refine goQ ?_
    refine r_q (lend_step (pnode_c l hL me s1 cu 2 (by omega) (by omega)) rfl (fun a w => Tryz.call112 a w) rfl rfl) rfl rfl ?_
    refine goQ ?_
    refine cX (load_x l me log s1 (nodeF l cu 2) hG1.le hl) (fun a w => Tryz.call111 a w) ?_ ?_ ?_ ?_
    · rintro d bs ⟨x, s', _, _, _, rfl, rfl⟩; exact ⟨.inl rfl, .inl rfl, .inl rfl, trivial⟩
    · rintro v bs ⟨a, s', _, rfl, rfl⟩; exact ⟨.inl rfl, .inl rfl, .inl rfl, trivial⟩
    · rintro v bs ⟨a, s', h, rfl, rfl⟩
      refine gP ?_
      refine fP (fndB l me log hd ⟨true, pv, cu, nx, pt⟩ s') ?_
      exact ⟨a, s', _, by rw [← hE]; exact bind_err h, rfl, rfl⟩
    rintro d bs ⟨v, s2, hq2, hle2, hlen2, rfl, rfl⟩
    rw [bind_ok hq2, outM] at hE
    have hG2 := hG1.same (by rw [(loadM_gone hq2).1]) hle2 hlen2
    refine go ?_
    refine cX (clear_x l hL me log s2 hG2.le hl) (fun a w => Tryz.call113 a w) ?_ ?_ ?_ ?_
    · rintro d bs ⟨x, s', _, _, _, rfl, rfl⟩; exact ⟨.inl rfl, .inl rfl, .inl rfl, trivial⟩
    · rintro v bs ⟨a, s', _, rfl, rfl⟩; exact ⟨.inl rfl, .inl rfl, .inl rfl, trivial⟩
    · rintro v bs ⟨a, s', h, rfl, rfl⟩
      refine gP ?_
      refine fP (fndB l me log hd ⟨true, pv, cu, nx, pt⟩ s') ?_
      exact ⟨a, s', _, by rw [← hE]; exact bind_err h, rfl, rfl⟩
    rintro d bs ⟨u, s3, hq3, hle3, hlen3, rfl, rfl⟩
    rw [bind_ok hq3] at hE
    have hG3 := hG2.same (clrL_gone hq3) hle3 hlen3
    refine go ?_
    first | refine fR (fndB l me log hd ⟨true, pv, cu, nx, pt⟩ s3) ?_ | refine fN (fndB l me log hd ⟨true, pv, cu, nx, pt⟩ s3) ?_
    exact ⟨_, s3, _, hE.symm, hG3, rfl, rfl⟩
set_option maxHeartbeats 16000000 in
theorem put_x (l : LayT) (hL : LayOk l) (me : Int) (log : List ResT) (hd o v : Int) (f0 : FoundT) (s : PsT) (hgo : GoneOk s.gone) (hgl : s.gone.length + log.length ≤ 10000 + s.made) (hm : s.made ≤ log.length) (hl : log.length ≤ 1000000) :
    ImpX Tryz.prog 97 [11, 12, 13, 14] [.ptr 14 0, dI o, dI v] (fndB l me log hd f0 s) (OpR l me log hd s (putM l me hd o v log s)) (OpX l me log hd (putM l me hd o v log s)) := by
  generalize hE : putM l me hd o v log s = E
  unfold putM at hE
  have hG : FiG log s s := ⟨Nat.le_refl _, hm, hgo, Nat.le_refl _⟩
  refine sX Tryz.func97 Tryz.ntmps97 fun w cl own kf => ?_
  refine go ?_
  refine awp_loop_ok (fun p : Nat × Int × FoundT × PsT => FiG log s p.2.2.2 ∧ log.length - p.2.2.2.made < p.1 ∧ 0 ≤ p.2.1 ∧ p.2.1 < 65536 ∧ putL l me hd o v p.1 p.2.1 log p.2.2.2 = E) (fun p => ⟨[(7, dI p.2.1), (6, .ptr 4 0), (0, .ptr 14 0), (1, dI o), (2, dI v)], (4, [dI 0, dB false, dI 0, dI 0, .p (.sl true 0 [])]) :: fndB l me log hd p.2.2.1 p.2.2.2, []⟩) (fun p => p.1) (log.length + 1 - s.made, 0, f0, s) ⟨hG, by simp only; omega, by simp, by simp, hE⟩ (zX) ?_
  rintro ⟨k, n, fd, t⟩ ⟨hG, hk, hn0, hn1, hE⟩
  simp only at hG hk hn0 hn1 hE
  obtain ⟨k, rfl⟩ : ∃ j, k = j + 1 := ⟨k - 1, by omega⟩
  refine (show AWP _ _ _ _ ⟨[(7, dI n), (6, .ptr 4 0), (0, .ptr 14 0), (1, dI o), (2, dI v)], (4, [dI 0, dB false, dI 0, dI 0, .p (.sl true 0 [])]) :: fndB l me log hd fd t, []⟩ from ?_)
  rw [putL] at hE
  refine go ?_
  refine cX (find_x l hL me log hd o fd t hG.ok (by have := hG.len; have := hG.le; omega) hG.le hl) (fun a w => Tryz.call110 a w) ?_ ?_ ?_ ?_
  · rintro d bs ⟨f', s', _, _, _, _, _, rfl, rfl⟩; exact ⟨.inl rfl, .inl rfl, .inl rfl, .inl rfl, trivial⟩
  · rintro v bs ⟨a, s', f', _, rfl, rfl⟩; exact ⟨.inl rfl, .inl rfl, .inl rfl, .inl rfl, trivial⟩
  · rintro v bs ⟨a, s', f', h, rfl, rfl⟩
    refine gP ?_
    refine fP (fndB l me log hd f' s') ?_
    exact ⟨a, s', f', by rw [← hE]; exact bind_err h, rfl, rfl⟩
  rintro d bs ⟨f1, s1, hq1, hF1, hlt1, hc1, hd1, rfl, rfl⟩
  rw [bind_ok hq1] at hE
  have hG1 := hG.trans hF1
  obtain ⟨th, pv, cu, nx, pt⟩ := f1
  simp only at hE hc1 hd1
  refine go ?_
  cases th
  · rw [if_neg (by decide)] at hE
    refine go ?_
    generalize h2 : decide (n = 0) = cc; cases cc
    · rw [if_neg (of_decide_eq_false h2), putB, bind_assoc] at hE
      refine go ?_
      refine awp_region_w 16 [] rfl rfl (by kernel_rfl) (by kernel_rfl) (by kernel_rfl) ?_
      refine goQ ?_
      refine r_q (lend_step (pnode_c l hL me s1 n 0 (by omega) (by omega)) rfl (fun a w => Tryz.call112 a w) rfl rfl) rfl rfl ?_
      refine goQ ?_
      refine r_q (call_step (plain_c cu) rfl (fun a w => Tryz.call117 a w) rfl) rfl rfl ?_
      refine goQ ?_
      refine cX (store_x l me log s1 (nodeF l n 0) (plainW cu) hG1.le hl) (fun a w => Tryz.call116 a w) ?_ ?_ ?_ ?_
      · rintro d bs ⟨x, s', _, _, _, rfl, rfl⟩; exact ⟨.inl rfl, .inl rfl, .inl rfl, trivial⟩
      · rintro v bs ⟨a, s', _, rfl, rfl⟩; exact ⟨.inl rfl, .inl rfl, .inl rfl, trivial⟩
      · rintro v bs ⟨a, s', h, rfl, rfl⟩
        refine gP ?_
        refine fP (fndB l me log hd ⟨false, pv, cu, nx, pt⟩ s') ?_
        exact ⟨a, s', _, by rw [← hE]; exact bind_err h, rfl, rfl⟩
      rintro d bs ⟨u, s2, hq2, hle2, hlen2, rfl, rfl⟩
      rw [bind_ok hq2, bind_assoc] at hE
      have hG2 := hG1.same (by rw [(storeM_gone hq2).1]) hle2 hlen2
      have hm2 := storeM_made hq2
      refine go ?_
      refine awp_region_w 17 [] rfl rfl (by kernel_rfl) (by kernel_rfl) (by kernel_rfl) ?_
      refine goQ ?_
      refine r_q (call_step (plain_c cu) rfl (fun a w => Tryz.call117 a w) rfl) rfl rfl ?_
      refine goQ ?_
      refine r_q (call_step (plain_c n) rfl (fun a w => Tryz.call117 a w) rfl) rfl rfl ?_
      refine goQ ?_
      refine cX (cas_x l me log s2 pv (plainW cu) (plainW n) hG2.le hl) (fun a w => Tryz.call118 a w) ?_ ?_ ?_ ?_
      · rintro d bs ⟨x, s', _, _, _, rfl, rfl⟩; exact ⟨.inl rfl, .inl rfl, .inl rfl, trivial⟩
      · rintro v bs ⟨a, s', _, rfl, rfl⟩; exact ⟨.inl rfl, .inl rfl, .inl rfl, trivial⟩
      · rintro v bs ⟨a, s', h, rfl, rfl⟩
        refine gP ?_
        refine fP (fndB l me log hd ⟨false, pv, cu, nx, pt⟩ s') ?_
        exact ⟨a, s', _, by rw [← hE]; exact bind_err h, rfl, rfl⟩
      rintro d bs ⟨ok, s3, hq3, hle3, hlen3, rfl, rfl⟩
      rw [bind_ok hq3] at hE
      have hG3 := hG2.same (by rw [(casM_gone hq3).1]) hle3 hlen3
      have hm3 := casM_made hq3
      refine go ?_
      cases ok
      · rw [if_neg (by decide)] at hE
        refine go ?_
        exact ⟨(k, n, ⟨false, pv, cu, nx, pt⟩, s3), ⟨hG3, by simp only; omega, by simp only; omega, by simp only; omega, hE⟩, by simp only; omega, zX⟩
      · rw [if_pos rfl, bind_assoc, bind_ok last_ok] at hE
        have hE : outM l me ⟨0, true, 0, (s3.made : Int) - 1, []⟩ log s3 = E := hE
        rw [outM] at hE
        refine go ?_
        refine a_q (lend_step (plast_c l me s3 (by omega)) rfl (fun a w => Tryz.call119 a w) rfl rfl) rfl rfl rfl ?_
        refine go ?_
        refine cX (clear_x l hL me log s3 hG3.le hl) (fun a w => Tryz.call113 a w) ?_ ?_ ?_ ?_
        · rintro d bs ⟨x, s', _, _, _, rfl, rfl⟩; exact ⟨.inl rfl, .inl rfl, .inl rfl, trivial⟩
        · rintro v bs ⟨a, s', _, rfl, rfl⟩; exact ⟨.inl rfl, .inl rfl, .inl rfl, trivial⟩
        · rintro v bs ⟨a, s', h, rfl, rfl⟩
          refine gP ?_
          refine fP (fndB l me log hd ⟨false, pv, cu, nx, pt⟩ s') ?_
          exact ⟨a, s', _, by rw [← hE]; exact bind_err h, rfl, rfl⟩
        rintro d bs ⟨u, s4, hq4, hle4, hlen4, rfl, rfl⟩
        rw [bind_ok hq4] at hE
        have hG4 := hG3.same (clrL_gone hq4) hle4 hlen4
        refine go ?_
        first | refine fR (fndB l me log hd ⟨false, pv, cu, nx, pt⟩ s4) ?_ | refine fN (fndB l me log hd ⟨false, pv, cu, nx, pt⟩ s4) ?_
        exact ⟨_, s4, _, hE.symm, hG4, rfl, rfl⟩
    · rw [if_pos (of_decide_eq_true h2)] at hE
      refine go ?_
      refine cX (take_x l hL me log s1 hG1.le hl) (fun a w => Tryz.call115 a w) ?_ ?_ ?_ ?_
      · rintro d bs ⟨x, s', _, _, _, rfl, rfl⟩; exact ⟨.inl rfl, .inl rfl, .inl rfl, trivial⟩
      · rintro v bs ⟨a, s', _, rfl, rfl⟩; exact ⟨.inl rfl, .inl rfl, .inl rfl, trivial⟩
      · rintro v bs ⟨a, s', h, rfl, rfl⟩
        refine gP ?_
        refine fP (fndB l me log hd ⟨false, pv, cu, nx, pt⟩ s') ?_
        exact ⟨a, s', _, by rw [← hE]; exact bind_err h, rfl, rfl⟩
      rintro d bs ⟨p, s2, hq2, hle2, hlen2, rfl, rfl⟩
      rw [bind_ok hq2] at hE
      have hp2 := takeL_idx hq2
      have hp0 := takeL_nn hq2
      have hG2 := hG1.same hp2.2 hle2 hlen2
      obtain ⟨n2, at2, okt⟩ := p
      simp only at hE hp2 hp0
      refine go ?_
      cases okt
      · rw [if_neg (by decide), outM] at hE
        refine go ?_
        refine cX (clear_x l hL me log s2 hG2.le hl) (fun a w => Tryz.call113 a w) ?_ ?_ ?_ ?_
        · rintro d bs ⟨x, s', _, _, _, rfl, rfl⟩; exact ⟨.inl rfl, .inl rfl, .inl rfl, trivial⟩
        · rintro v bs ⟨a, s', _, rfl, rfl⟩; exact ⟨.inl rfl, .inl rfl, .inl rfl, trivial⟩
        · rintro v bs ⟨a, s', h, rfl, rfl⟩
          refine gP ?_
          refine fP (fndB l me log hd ⟨false, pv, cu, nx, pt⟩ s') ?_
          exact ⟨a, s', _, by rw [← hE]; exact bind_err h, rfl, rfl⟩
        rintro d bs ⟨u, s3, hq3, hle3, hlen3, rfl, rfl⟩
        rw [bind_ok hq3] at hE
        have hG3 := hG2.same (clrL_gone hq3) hle3 hlen3
        refine go ?_
        first | refine fR (fndB l me log hd ⟨false, pv, cu, nx, pt⟩ s3) ?_ | refine fN (fndB l me log hd ⟨false, pv, cu, nx, pt⟩ s3) ?_
        exact ⟨_, s3, _, hE.symm, hG3, rfl, rfl⟩
      · rw [if_pos rfl] at hE
        refine go ?_
        refine awp_region_w 11 [] rfl rfl (by kernel_rfl) (by kernel_rfl) (by kernel_rfl) ?_
        refine goQ ?_
        refine r_q (lend_step (pnode_c l hL me s2 n2 1 (by omega) (by omega)) rfl (fun a w => Tryz.call112 a w) rfl rfl) rfl rfl ?_
        refine goQ ?_
        refine cX (store_x l me log s2 (nodeF l n2 1) o hG2.le hl) (fun a w => Tryz.call116 a w) ?_ ?_ ?_ ?_
        · rintro d bs ⟨x, s', _, _, _, rfl, rfl⟩; exact ⟨.inl rfl, .inl rfl, .inl rfl, trivial⟩
        · rintro v bs ⟨a, s', _, rfl, rfl⟩; exact ⟨.inl rfl, .inl rfl, .inl rfl, trivial⟩
        · rintro v bs ⟨a, s', h, rfl, rfl⟩
          refine gP ?_
          refine fP (fndB l me log hd ⟨false, pv, cu, nx, pt⟩ s') ?_
          exact ⟨a, s', _, by rw [← hE]; exact bind_err h, rfl, rfl⟩
        rintro d bs ⟨u, s3, hq3, hle3, hlen3, rfl, rfl⟩
        rw [bind_ok hq3] at hE
        have hG3 := hG2.same (by rw [(storeM_gone hq3).1]) hle3 hlen3
        refine go ?_
        refine awp_region_w 11 [] rfl rfl (by kernel_rfl) (by kernel_rfl) (by kernel_rfl) ?_
        refine goQ ?_
        refine r_q (lend_step (pnode_c l hL me s3 n2 2 (by omega) (by omega)) rfl (fun a w => Tryz.call112 a w) rfl rfl) rfl rfl ?_
        refine goQ ?_
        refine cX (store_x l me log s3 (nodeF l n2 2) v hG3.le hl) (fun a w => Tryz.call116 a w) ?_ ?_ ?_ ?_
        · rintro d bs ⟨x, s', _, _, _, rfl, rfl⟩; exact ⟨.inl rfl, .inl rfl, .inl rfl, trivial⟩
        · rintro v bs ⟨a, s', _, rfl, rfl⟩; exact ⟨.inl rfl, .inl rfl, .inl rfl, trivial⟩
        · rintro v bs ⟨a, s', h, rfl, rfl⟩
          refine gP ?_
          refine fP (fndB l me log hd ⟨false, pv, cu, nx, pt⟩ s') ?_
          exact ⟨a, s', _, by rw [← hE]; exact bind_err h, rfl, rfl⟩
        rintro d bs ⟨u, s4, hq4, hle4, hlen4, rfl, rfl⟩
        rw [bind_ok hq4, putB, bind_assoc] at hE
        have hG4 := hG3.same (by rw [(storeM_gone hq4).1]) hle4 hlen4
        refine go ?_
        refine awp_region_w 16 [] rfl rfl (by kernel_rfl) (by kernel_rfl) (by kernel_rfl) ?_
        refine goQ ?_
        refine r_q (lend_step (pnode_c l hL me s4 n2 0 (by omega) (by omega)) rfl (fun a w => Tryz.call112 a w) rfl rfl) rfl rfl ?_
        refine goQ ?_
        refine r_q (call_step (plain_c cu) rfl (fun a w => Tryz.call117 a w) rfl) rfl rfl ?_
        refine goQ ?_
        refine cX (store_x l me log s4 (nodeF l n2 0) (plainW cu) hG4.le hl) (fun a w => Tryz.call116 a w) ?_ ?_ ?_ ?_
        · rintro d bs ⟨x, s', _, _, _, rfl, rfl⟩; exact ⟨.inl rfl, .inl rfl, .inl rfl, trivial⟩
        · rintro v bs ⟨a, s', _, rfl, rfl⟩; exact ⟨.inl rfl, .inl rfl, .inl rfl, trivial⟩
        · rintro v bs ⟨a, s', h, rfl, rfl⟩
          refine gP ?_
          refine fP (fndB l me log hd ⟨false, pv, cu, nx, pt⟩ s') ?_
          exact ⟨a, s', _, by rw [← hE]; exact bind_err h, rfl, rfl⟩
        rintro d bs ⟨u, s5, hq5, hle5, hlen5, rfl, rfl⟩
        rw [bind_ok hq5, bind_assoc] at hE
        have hG5 := hG4.same (by rw [(storeM_gone hq5).1]) hle5 hlen5
        have hm5 := storeM_made hq5
        refine go ?_
        refine awp_region_w 17 [] rfl rfl (by kernel_rfl) (by kernel_rfl) (by kernel_rfl) ?_
        refine goQ ?_
        refine r_q (call_step (plain_c cu) rfl (fun a w => Tryz.call117 a w) rfl) rfl rfl ?_
        refine goQ ?_
        refine r_q (call_step (plain_c n2) rfl (fun a w => Tryz.call117 a w) rfl) rfl rfl ?_
        refine goQ ?_
        refine cX (cas_x l me log s5 pv (plainW cu) (plainW n2) hG5.le hl) (fun a w => Tryz.call118 a w) ?_ ?_ ?_ ?_
        · rintro d bs ⟨x, s', _, _, _, rfl, rfl⟩; exact ⟨.inl rfl, .inl rfl, .inl rfl, trivial⟩
        · rintro v bs ⟨a, s', _, rfl, rfl⟩; exact ⟨.inl rfl, .inl rfl, .inl rfl, trivial⟩
        · rintro v bs ⟨a, s', h, rfl, rfl⟩
          refine gP ?_
          refine fP (fndB l me log hd ⟨false, pv, cu, nx, pt⟩ s') ?_
          exact ⟨a, s', _, by rw [← hE]; exact bind_err h, rfl, rfl⟩
        rintro d bs ⟨ok, s6, hq6, hle6, hlen6, rfl, rfl⟩
        rw [bind_ok hq6] at hE
        have hG6 := hG5.same (by rw [(casM_gone hq6).1]) hle6 hlen6
        have hm6 := casM_made hq6
        refine go ?_
        cases ok
        · rw [if_neg (by decide)] at hE
          refine go ?_
          exact ⟨(k, n2, ⟨false, pv, cu, nx, pt⟩, s6), ⟨hG6, by simp only; omega, by simp only; omega, by simp only; omega, hE⟩, by simp only; omega, zX⟩
        · rw [if_pos rfl, bind_assoc, bind_ok last_ok] at hE
          have hE : outM l me ⟨0, true, 0, (s6.made : Int) - 1, []⟩ log s6 = E := hE
          rw [outM] at hE
          refine go ?_
          refine a_q (lend_step (plast_c l me s6 (by omega)) rfl (fun a w => Tryz.call119 a w) rfl rfl) rfl rfl rfl ?_
          refine go ?_
          refine cX (clear_x l hL me log s6 hG6.le hl) (fun a w => Tryz.call113 a w) ?_ ?_ ?_ ?_
          · rintro d bs ⟨x, s', _, _, _, rfl, rfl⟩; exact ⟨.inl rfl, .inl rfl, .inl rfl, trivial⟩
          · rintro v bs ⟨a, s', _, rfl, rfl⟩; exact ⟨.inl rfl, .inl rfl, .inl rfl, trivial⟩
          · rintro v bs ⟨a, s', h, rfl, rfl⟩
            refine gP ?_
            refine fP (fndB l me log hd ⟨false, pv, cu, nx, pt⟩ s') ?_
            exact ⟨a, s', _, by rw [← hE]; exact bind_err h, rfl, rfl⟩
          rintro d bs ⟨u, s7, hq7, hle7, hlen7, rfl, rfl⟩
          rw [bind_ok hq7] at hE
          have hG7 := hG6.same (clrL_gone hq7) hle7 hlen7
          refine go ?_
          first | refine fR (fndB l me log hd ⟨false, pv, cu, nx, pt⟩ s7) ?_ | refine fN (fndB l me log hd ⟨false, pv, cu, nx, pt⟩ s7) ?_
          exact ⟨_, s7, _, hE.symm, hG7, rfl, rfl⟩
  · rw [if_pos rfl] at hE
    refine go ?_
    generalize h2 : decide (n = 0) = cc; cases cc
    · rw [if_neg (of_decide_eq_false h2)] at hE
      refine go ?_
      refine cX (give_x l hL me log s1 n (by omega) hG1.le hl) (fun a w => Tryz.call114 a w) ?_ ?_ ?_ ?_
      · rintro d bs ⟨x, s', _, _, _, rfl, rfl⟩; exact ⟨.inl rfl, .inl rfl, .inl rfl, trivial⟩
      · rintro v bs ⟨a, s', _, rfl, rfl⟩; exact ⟨.inl rfl, .inl rfl, .inl rfl, trivial⟩
      · rintro v bs ⟨a, s', h, rfl, rfl⟩
        refine gP ?_
        refine fP (fndB l me log hd ⟨true, pv, cu, nx, pt⟩ s') ?_
        exact ⟨a, s', _, by rw [← hE]; exact bind_err h, rfl, rfl⟩
      rintro d bs ⟨u, s2, hq2, hle2, hlen2, rfl, rfl⟩
      rw [bind_ok hq2, outM] at hE
      have hG2 := hG1.same (giveL_gone hq2) hle2 hlen2
      refine go ?_
      refine cX (clear_x l hL me log s2 hG2.le hl) (fun a w => Tryz.call113 a w) ?_ ?_ ?_ ?_
      · rintro d bs ⟨x, s', _, _, _, rfl, rfl⟩; exact ⟨.inl rfl, .inl rfl, .inl rfl, trivial⟩
      · rintro v bs ⟨a, s', _, rfl, rfl⟩; exact ⟨.inl rfl, .inl rfl, .inl rfl, trivial⟩
      · rintro v bs ⟨a, s', h, rfl, rfl⟩
        refine gP ?_
        refine fP (fndB l me log hd ⟨true, pv, cu, nx, pt⟩ s') ?_
        exact ⟨a, s', _, by rw [← hE]; exact bind_err h, rfl, rfl⟩
      rintro d bs ⟨u, s3, hq3, hle3, hlen3, rfl, rfl⟩
      rw [bind_ok hq3] at hE
      have hG3 := hG2.same (clrL_gone hq3) hle3 hlen3
      refine go ?_
      first | refine fR (fndB l me log hd ⟨true, pv, cu, nx, pt⟩ s3) ?_ | refine fN (fndB l me log hd ⟨true, pv, cu, nx, pt⟩ s3) ?_
      exact ⟨_, s3, _, hE.symm, hG3, rfl, rfl⟩
    · rw [if_pos (of_decide_eq_true h2), outM] at hE
      refine go ?_
      refine cX (clear_x l hL me log s1 hG1.le hl) (fun a w => Tryz.call113 a w) ?_ ?_ ?_ ?_
      · rintro d bs ⟨x, s', _, _, _, rfl, rfl⟩; exact ⟨.inl rfl, .inl rfl, .inl rfl, trivial⟩
      · rintro v bs ⟨a, s', _, rfl, rfl⟩; exact ⟨.inl rfl, .inl rfl, .inl rfl, trivial⟩
      · rintro v bs ⟨a, s', h, rfl, rfl⟩
        refine gP ?_
        refine fP (fndB l me log hd ⟨true, pv, cu, nx, pt⟩ s') ?_
        exact ⟨a, s', _, by rw [← hE]; exact bind_err h, rfl, rfl⟩
      rintro d bs ⟨u, s2, hq2, hle2, hlen2, rfl, rfl⟩
      rw [bind_ok hq2] at hE
      have hG2 := hG1.same (clrL_gone hq2) hle2 hlen2
      refine go ?_
      first | refine fR (fndB l me log hd ⟨true, pv, cu, nx, pt⟩ s2) ?_ | refine fN (fndB l me log hd ⟨true, pv, cu, nx, pt⟩ s2) ?_
      exact ⟨_, s2, _, hE.symm, hG2, rfl, rfl⟩
set_option maxHeartbeats 16000000 in
theorem del_x (l : LayT) (hL : LayOk l) (me : Int) (log : List ResT) (hd o : Int) (f0 : FoundT) (s : PsT) (hgo : GoneOk s.gone) (hgl : s.gone.length + log.length ≤ 10000 + s.made) (hm : s.made ≤ log.length) (hl : log.length ≤ 1000000) :
    ImpX Tryz.prog 99 [11, 12, 13, 14] [.ptr 14 0, dI o] (fndB l me log hd f0 s) (OpR l me log hd s (delM l me hd o log s)) (OpX l me log hd (delM l me hd o log s)) := by
  generalize hE : delM l me hd o log s = E
  unfold delM at hE
  have hG : FiG log s s := ⟨Nat.le_refl _, hm, hgo, Nat.le_refl _⟩
  refine sX Tryz.func99 Tryz.ntmps99 fun w cl own kf => ?_
  refine go ?_
  refine awp_loop_ok (fun p : Nat × FoundT × PsT => FiG log s p.2.2 ∧ log.length - p.2.2.made < p.1 ∧ delL l me hd o p.1 log p.2.2 = E) (fun p => ⟨[(4, .ptr 4 0), (0, .ptr 14 0), (1, dI o)], (4, [dI 0, dB false, dI 0, dI 0, .p (.sl true 0 [])]) :: fndB l me log hd p.2.1 p.2.2, []⟩) (fun p => p.1) (log.length + 1 - s.made, f0, s) ⟨hG, by simp only; omega, hE⟩ (zX) ?_
  rintro ⟨k, fd, t⟩ ⟨hG, hk, hE⟩
  simp only at hG hk hE
  obtain ⟨k, rfl⟩ : ∃ j, k = j + 1 := ⟨k - 1, by omega⟩
  refine (show AWP _ _ _ _ ⟨[(4, .ptr 4 0), (0, .ptr 14 0), (1, dI o)], (4, [dI 0, dB false, dI 0, dI 0, .p (.sl true 0 [])]) :: fndB l me log hd fd t, []⟩ from ?_)
  rw [delL] at hE
  refine go ?_
  refine cX (find_x l hL me log hd o fd t hG.ok (by have := hG.len; have := hG.le; omega) hG.le hl) (fun a w => Tryz.call110 a w) ?_ ?_ ?_ ?_
  · rintro d bs ⟨f', s', _, _, _, _, _, rfl, rfl⟩; exact ⟨.inl rfl, .inl rfl, .inl rfl, .inl rfl, trivial⟩
  · rintro v bs ⟨a, s', f', _, rfl, rfl⟩; exact ⟨.inl rfl, .inl rfl, .inl rfl, .inl rfl, trivial⟩
  · rintro v bs ⟨a, s', f', h, rfl, rfl⟩
    refine gP ?_
    refine fP (fndB l me log hd f' s') ?_
    exact ⟨a, s', f', by rw [← hE]; exact bind_err h, rfl, rfl⟩
  rintro d bs ⟨f1, s1, hq1, hF1, hlt1, hc1, hd1, rfl, rfl⟩
  rw [bind_ok hq1] at hE
  have hG1 := hG.trans hF1
  obtain ⟨th, pv, cu, nx, pt⟩ := f1
  simp only at hE hc1 hd1
  refine go ?_
  cases th
  · rw [if_neg (by decide), outM] at hE
    refine go ?_
    refine cX (clear_x l hL me log s1 hG1.le hl) (fun a w => Tryz.call113 a w) ?_ ?_ ?_ ?_
    · rintro d bs ⟨x, s', _, _, _, rfl, rfl⟩; exact ⟨.inl rfl, .inl rfl, .inl rfl, trivial⟩
    · rintro v bs ⟨a, s', _, rfl, rfl⟩; exact ⟨.inl rfl, .inl rfl, .inl rfl, trivial⟩
    · rintro v bs ⟨a, s', h, rfl, rfl⟩
      refine gP ?_
      refine fP (fndB l me log hd ⟨false, pv, cu, nx, pt⟩ s') ?_
      exact ⟨a, s', _, by rw [← hE]; exact bind_err h, rfl, rfl⟩
    rintro d bs ⟨u, s2, hq2, hle2, hlen2, rfl, rfl⟩
    rw [bind_ok hq2] at hE
    have hG2 := hG1.same (clrL_gone hq2) hle2 hlen2
    refine go ?_
    first | refine fR (fndB l me log hd ⟨false, pv, cu, nx, pt⟩ s2) ?_ | refine fN (fndB l me log hd ⟨false, pv, cu, nx, pt⟩ s2) ?_
    exact ⟨_, s2, _, hE.symm, hG2, rfl, rfl⟩
  · rw [if_pos rfl] at hE
    have hxn := ofW_idx nx
    refine go ?_
    refine a_q (call_step (of_c nx) rfl (fun a w => Tryz.call28 a w) rfl) rfl rfl rfl ?_
    refine go ?_
    refine awp_region_w 21 [] rfl rfl (by kernel_rfl) (by kernel_rfl) (by kernel_rfl) ?_
    refine goQ ?_
    refine r_q (lend_step (pnode_c l hL me s1 cu 0 (by omega) (by omega)) rfl (fun a w => Tryz.call112 a w) rfl rfl) rfl rfl ?_
    refine goQ ?_
    refine r_q (call_step (marked_c (ofW nx).idx) rfl (fun a w => Tryz.call120 a w) rfl) rfl rfl ?_
    refine goQ ?_
    refine cX (cas_x l me log s1 (nodeF l cu 0) nx (markW (ofW nx).idx) hG1.le hl) (fun a w => Tryz.call118 a w) ?_ ?_ ?_ ?_
    · rintro d bs ⟨x, s', _, _, _, rfl, rfl⟩; exact ⟨.inl rfl, .inl rfl, .inl rfl, trivial⟩
    · rintro v bs ⟨a, s', _, rfl, rfl⟩; exact ⟨.inl rfl, .inl rfl, .inl rfl, trivial⟩
    · rintro v bs ⟨a, s', h, rfl, rfl⟩
      refine gP ?_
      refine fP (fndB l me log hd ⟨true, pv, cu, nx, pt⟩ s') ?_
      exact ⟨a, s', _, by rw [← hE]; exact bind_err h, rfl, rfl⟩
    rintro d bs ⟨ok, s2, hq2, hle2, hlen2, rfl, rfl⟩
    rw [bind_ok hq2] at hE
    have hG2 := hG1.same (by rw [(casM_gone hq2).1]) hle2 hlen2
    have hm2 := casM_made hq2
    refine go ?_
    cases ok
    · rw [if_neg (by decide)] at hE
      refine go ?_
      exact ⟨(k, ⟨true, pv, cu, nx, pt⟩, s2), ⟨hG2, by simp only; omega, hE⟩, by simp only; omega, zX⟩
    · rw [if_pos rfl, bind_ok last_ok] at hE
      refine go ?_
      refine a_q (lend_step (plast_c l me s2 (by omega)) rfl (fun a w => Tryz.call119 a w) rfl rfl) rfl rfl rfl ?_
      refine go ?_
      refine awp_region_w 17 [] rfl rfl (by kernel_rfl) (by kernel_rfl) (by kernel_rfl) ?_
      refine goQ ?_
      refine r_q (call_step (plain_c cu) rfl (fun a w => Tryz.call117 a w) rfl) rfl rfl ?_
      refine goQ ?_
      refine r_q (call_step (plain_c (ofW nx).idx) rfl (fun a w => Tryz.call117 a w) rfl) rfl rfl ?_
      refine goQ ?_
      refine cX (cas_x l me log s2 pv (plainW cu) (plainW (ofW nx).idx) hG2.le hl) (fun a w => Tryz.call118 a w) ?_ ?_ ?_ ?_
      · rintro d bs ⟨x, s', _, _, _, rfl, rfl⟩; exact ⟨.inl rfl, .inl rfl, .inl rfl, trivial⟩
      · rintro v bs ⟨a, s', _, rfl, rfl⟩; exact ⟨.inl rfl, .inl rfl, .inl rfl, trivial⟩
      · rintro v bs ⟨a, s', h, rfl, rfl⟩
        refine gP ?_
        refine fP (fndB l me log hd ⟨true, pv, cu, nx, pt⟩ s') ?_
        exact ⟨a, s', _, by rw [← hE]; exact bind_err h, rfl, rfl⟩
      rintro d bs ⟨ok, s3, hq3, hle3, hlen3, rfl, rfl⟩
      rw [bind_ok hq3] at hE
      have hG3 := hG2.same (by rw [(casM_gone hq3).1]) hle3 hlen3
      have hm3 := casM_made hq3
      refine go ?_
      cases ok
      · rw [if_neg (by decide)] at hE
        refine go ?_
        refine cX (find_x l hL me log hd o ⟨true, pv, cu, nx, pt⟩ s3 hG3.ok (by have := hG3.len; have := hG3.le; omega) hG3.le hl) (fun a w => Tryz.call110 a w) ?_ ?_ ?_ ?_
        · rintro d bs ⟨f', s', _, _, _, _, _, rfl, rfl⟩; exact ⟨.inl rfl, .inl rfl, .inl rfl, .inl rfl, trivial⟩
        · rintro v bs ⟨a, s', f', _, rfl, rfl⟩; exact ⟨.inl rfl, .inl rfl, .inl rfl, .inl rfl, trivial⟩
        · rintro v bs ⟨a, s', f', h, rfl, rfl⟩
          refine gP ?_
          refine fP (fndB l me log hd f' s') ?_
          exact ⟨a, s', f', by rw [← hE]; exact bind_err h, rfl, rfl⟩
        rintro d bs ⟨f4, s4, hq4, hF4, hlt4, hc4, hd4, rfl, rfl⟩
        rw [bind_ok hq4] at hE
        have hG4 := hG3.trans hF4
        obtain ⟨th4, pv4, cu4, nx4, pt4⟩ := f4
        rw [outM] at hE
        refine go ?_
        refine cX (clear_x l hL me log s4 hG4.le hl) (fun a w => Tryz.call113 a w) ?_ ?_ ?_ ?_
        · rintro d bs ⟨x, s', _, _, _, rfl, rfl⟩; exact ⟨.inl rfl, .inl rfl, .inl rfl, trivial⟩
        · rintro v bs ⟨a, s', _, rfl, rfl⟩; exact ⟨.inl rfl, .inl rfl, .inl rfl, trivial⟩
        · rintro v bs ⟨a, s', h, rfl, rfl⟩
          refine gP ?_
          refine fP (fndB l me log hd ⟨th4, pv4, cu4, nx4, pt4⟩ s') ?_
          exact ⟨a, s', _, by rw [← hE]; exact bind_err h, rfl, rfl⟩
        rintro d bs ⟨u, s5, hq5, hle5, hlen5, rfl, rfl⟩
        rw [bind_ok hq5] at hE
        have hG5 := hG4.same (clrL_gone hq5) hle5 hlen5
        refine go ?_
        first | refine fR (fndB l me log hd ⟨th4, pv4, cu4, nx4, pt4⟩ s5) ?_ | refine fN (fndB l me log hd ⟨th4, pv4, cu4, nx4, pt4⟩ s5) ?_
        exact ⟨_, s5, _, hE.symm, hG5, rfl, rfl⟩
      · rw [if_pos rfl] at hE
        refine go ?_
        refine cX (clear_x l hL me log s3 hG3.le hl) (fun a w => Tryz.call113 a w) ?_ ?_ ?_ ?_
        · rintro d bs ⟨x, s', _, _, _, rfl, rfl⟩; exact ⟨.inl rfl, .inl rfl, .inl rfl, trivial⟩
        · rintro v bs ⟨a, s', _, rfl, rfl⟩; exact ⟨.inl rfl, .inl rfl, .inl rfl, trivial⟩
        · rintro v bs ⟨a, s', h, rfl, rfl⟩
          refine gP ?_
          refine fP (fndB l me log hd ⟨true, pv, cu, nx, pt⟩ s') ?_
          exact ⟨a, s', _, by rw [← hE]; exact bind_err h, rfl, rfl⟩
        rintro d bs ⟨u, s4, hq4, hle4, hlen4, rfl, rfl⟩
        rw [bind_ok hq4] at hE
        have hG4 := hG3.same (clrL_gone hq4) hle4 hlen4
        refine go ?_
        refine awp_region_w 9 [] rfl rfl (by kernel_rfl) (by kernel_rfl) (by kernel_rfl) ?_
        refine goQ ?_
        refine cX (retire_x l hL me log s4 cu (by omega) hG4.ok (by have := hG4.len; have := hG4.le; omega) hG4.le hl) (fun a w => Tryz.call121 a w) ?_ ?_ ?_ ?_
        · rintro d bs ⟨x, s', _, _, _, rfl, rfl⟩; exact ⟨.inl rfl, .inl rfl, .inl rfl, trivial⟩
        · rintro v bs ⟨a, s', _, rfl, rfl⟩; exact ⟨.inl rfl, .inl rfl, .inl rfl, trivial⟩
        · rintro v bs ⟨a, s', h, rfl, rfl⟩
          refine gP ?_
          refine fP (fndB l me log hd ⟨true, pv, cu, nx, pt⟩ s') ?_
          exact ⟨a, s', _, by rw [← hE]; exact bind_err h, rfl, rfl⟩
        rintro d bs ⟨u, s5, hq5, hle5, hlen5, rfl, rfl⟩
        rw [bind_ok hq5] at hE
        have hG5 : FiG log s s5 := by
          have e1 := retireM_len hq5
          have e2 : s4.gone = s2.gone := (clrL_gone hq4).trans (by rw [(casM_gone hq3).1])
          rw [e2] at e1
          have := hG2.len
          have := hG2.made
          have := hG4.made
          exact ⟨by omega, hlen5, retireM_ok hq5 hG4.ok (by omega), by omega⟩
        refine go ?_
        first | refine fR (fndB l me log hd ⟨true, pv, cu, nx, pt⟩ s5) ?_ | refine fN (fndB l me log hd ⟨true, pv, cu, nx, pt⟩ s5) ?_
        exact ⟨_, s5, _, hE.symm, hG5, rfl, rfl⟩
end Go.Proofs.YtkkldicehapklaaGreat
