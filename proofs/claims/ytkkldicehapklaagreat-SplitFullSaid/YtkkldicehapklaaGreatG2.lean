/- A list's get, put and del: their walks. -/
import Derived.Test.YtkkldicehapklaaGreatG1
namespace Go.Proofs.YtkkldicehapklaaGreat
open Go.RowKit
set_option maxRecDepth 100000
def OpR (l : jN) (me : Int) (log : List jS) (hd : Int) (s : PsT) (m : Except AccT (kY × PsT)) : Dt → Bxs → Prop := fun d bs => ∃ x s' f, m = .ok (x, s') ∧ FiG log s s' ∧ d = jY9 x ∧ bs = qK l me log hd f s'
def OpX (l : jN) (me : Int) (log : List jS) (hd : Int) (m : Except AccT (kY × PsT)) : Value → Bxs → Prop := fun x bs => ∃ a s' f, m = .error a ∧ x = jG4 a ∧ bs = qK l me log hd f s'
theorem FiG.trans {log : List jS} {s t u : PsT} (h : FiG log s t) (h2 : FiG log t u) : FiG log s u := by
 obtain ⟨a1, a2, a3, a4⟩ := h
 obtain ⟨b1, b2, b3, b4⟩ := h2
 exact ⟨by omega, b2, b3, by omega⟩
theorem kK5 {l : jN} {n : Int} : ∀ {k : Nat} {log : List jS} {s s' : PsT} {u : Unit}, jQ9 l n k log s = .ok (u, s') → s'.gone = s.gone
 | 0, log, s, s', u, h => by cases h; rfl
 | k + 1, log, s, s', u, h => by
  rw [jQ9] at h
  cases h1 : yM l.free log s with
  | error a => rw [jI h1] at h; cases h
  | ok q =>
   obtain ⟨fr, s1⟩ := q
   rw [jH h1] at h
   have g1 : s1.gone = s.gone := by rw [(qQ h1).1]
   cases h2 : yY (jQ l n 7) (ofW fr).idx log s1 with
   | error a => rw [jI h2] at h; cases h
   | ok q =>
    obtain ⟨lk, s2⟩ := q
    rw [jH h2] at h
    have g2 : s2.gone = s.gone := by rw [(vX h2).1]; exact g1
    cases h3 : casM l.free fr (vK (jA5 (ofW fr) n)) log s2 with
    | error a => rw [jI h3] at h; cases h
    | ok q =>
     obtain ⟨ok, s3⟩ := q
     rw [jH h3] at h
     have g3 : s3.gone = s.gone := by rw [(uU h3).1]; exact g2
     split at h
     ·cases h; exact g3
     ·exact (kK5 h).trans g3
theorem takeL_nn {l : jN} : ∀ {k : Nat} {log : List jS} {s s' : PsT} {p : Int × Int × Bool}, jP6 l k log s = .ok (p, s') → 0 ≤ p.1
 | 0, log, s, s', p, h => by cases h; simp
 | k + 1, log, s, s', p, h => by
  rw [jP6] at h
  cases h1 : yM l.free log s with
  | error a => rw [jI h1] at h; cases h
  | ok q =>
   obtain ⟨fr, s1⟩ := q
   rw [jH h1] at h
   split at h
   ·rw [jH yA] at h; cases h; simp
   ·cases h2 : yM (jQ l (ofW fr).idx 7) log s1 with
    | error a => rw [jI h2] at h; cases h
    | ok q =>
     obtain ⟨lk, s2⟩ := q
     rw [jH h2] at h
     cases h3 : casM l.free fr (vK (jA5 (ofW fr) lk)) log s2 with
     | error a => rw [jI h3] at h; cases h
     | ok q =>
      obtain ⟨ok, s3⟩ := q
      rw [jH h3] at h
      split at h
      ·rw [jH yA] at h
       cases h4 : yM l.era log s3 with
       | error a => rw [jI h4] at h; cases h
       | ok q =>
        obtain ⟨bi, s4⟩ := q
        rw [jH h4] at h
        cases h5 : yY (jQ l (ofW fr).idx 6) bi log s4 with
        | error a => rw [jI h5] at h; cases h
        | ok q =>
         obtain ⟨u, s5⟩ := q
         rw [jH h5] at h
         cases h
         exact (xT fr).1
      ·exact takeL_nn h
set_option maxHeartbeats 8000000 in
theorem get_x (l : jN) (hL : qJ l) (me : Int) (log : List jS) (hd o : Int) (f0 : vA) (s : PsT) (hgo : yK s.gone) (hgl : s.gone.length + log.length ≤ 10000 + s.made) (hm : s.made ≤ log.length) (hl : log.length ≤ 1000000) :
  ImpX Tryz.prog 95 [11, 12, 13, 14] [.ptr 14 0, dI o] (qK l me log hd f0 s) (OpR l me log hd s (getM l me hd o log s)) (OpX l me log hd (getM l me hd o log s)) := by
 generalize hE : getM l me hd o log s = E
 unfold getM at hE
 have hG : FiG log s s := ⟨Nat.le_refl _, hm, hgo, Nat.le_refl _⟩
 refine sX Tryz.func95 Tryz.ntmps95 fun w cl own kf => ?_
 refine go ?_
 refine cX (find_x l hL me log hd o f0 s hG.ok (by have := hG.len; have := hG.le; omega) hG.le hl) (fun a w => Tryz.call110 a w) ?_ ?_ ?_ ?_
 ·rintro d bs ⟨f', s', _, _, _, _, _, rfl, rfl⟩; exact ⟨.inl rfl, .inl rfl, .inl rfl, .inl rfl, trivial⟩
 ·rintro v bs ⟨a, s', f', _, rfl, rfl⟩; exact ⟨.inl rfl, .inl rfl, .inl rfl, .inl rfl, trivial⟩
 ·rintro v bs ⟨a, s', f', h, rfl, rfl⟩
  refine gP ?_
  refine fP (qK l me log hd f' s') ?_
  exact ⟨a, s', f', by rw [← hE]; exact jI h, rfl, rfl⟩
 rintro d bs ⟨f1, s1, hq1, hF1, hlt1, hc1, hd1, rfl, rfl⟩
 rw [jH hq1] at hE
 have hG1 := hG.trans hF1
 obtain ⟨th, pv, cu, nx, pt⟩ := f1
 simp only at hE hc1 hd1
 refine go ?_
 refine jE 12 [] rfl rfl (by kernel_rfl) (by kernel_rfl) (by kernel_rfl) ?_
 refine goQ ?_
 refine go ?_
 cases th
 ·rw [if_neg (by decide), jI9] at hE
  refine go ?_
  refine cX (jE0 l hL me log s1 hG1.le hl) (fun a w => Tryz.call113 a w) ?_ ?_ ?_ ?_
  ·rintro d bs ⟨x, s', _, _, _, rfl, rfl⟩; exact ⟨.inl rfl, .inl rfl, .inl rfl, trivial⟩
  ·rintro v bs ⟨a, s', _, rfl, rfl⟩; exact ⟨.inl rfl, .inl rfl, .inl rfl, trivial⟩
  ·rintro v bs ⟨a, s', h, rfl, rfl⟩
   refine gP ?_
   refine fP (qK l me log hd ⟨false, pv, cu, nx, pt⟩ s') ?_
   exact ⟨a, s', _, by rw [← hE]; exact jI h, rfl, rfl⟩
  rintro d bs ⟨u, s2, hq2, hle2, hlen2, rfl, rfl⟩
  rw [jH hq2] at hE
  have hG2 := hG1.same (vT hq2) hle2 hlen2
  refine go ?_
  first | refine fR (qK l me log hd ⟨false, pv, cu, nx, pt⟩ s2) ?_ | refine fN (qK l me log hd ⟨false, pv, cu, nx, pt⟩ s2) ?_
  exact ⟨_, s2, _, hE.symm, hG2, rfl, rfl⟩
 ·rw [if_pos rfl] at hE
  refine go ?_
  refine jE 14 [] rfl rfl (by kernel_rfl) (by kernel_rfl) (by kernel_rfl) ?_
  refine goQ ?_
  refine r_q (qB (xP l hL me s1 cu 2 (by omega) (by omega)) rfl (fun a w => Tryz.call112 a w) rfl rfl) rfl rfl ?_
  refine goQ ?_
  refine cX (uX l me log s1 (jQ l cu 2) hG1.le hl) (fun a w => Tryz.call111 a w) ?_ ?_ ?_ ?_
  ·rintro d bs ⟨x, s', _, _, _, rfl, rfl⟩; exact ⟨.inl rfl, .inl rfl, .inl rfl, trivial⟩
  ·rintro v bs ⟨a, s', _, rfl, rfl⟩; exact ⟨.inl rfl, .inl rfl, .inl rfl, trivial⟩
  ·rintro v bs ⟨a, s', h, rfl, rfl⟩
   refine gP ?_
   refine fP (qK l me log hd ⟨true, pv, cu, nx, pt⟩ s') ?_
   exact ⟨a, s', _, by rw [← hE]; exact jI h, rfl, rfl⟩
  rintro d bs ⟨v, s2, hq2, hle2, hlen2, rfl, rfl⟩
  rw [jH hq2, jI9] at hE
  have hG2 := hG1.same (by rw [(qQ hq2).1]) hle2 hlen2
  refine go ?_
  refine cX (jE0 l hL me log s2 hG2.le hl) (fun a w => Tryz.call113 a w) ?_ ?_ ?_ ?_
  ·rintro d bs ⟨x, s', _, _, _, rfl, rfl⟩; exact ⟨.inl rfl, .inl rfl, .inl rfl, trivial⟩
  ·rintro v bs ⟨a, s', _, rfl, rfl⟩; exact ⟨.inl rfl, .inl rfl, .inl rfl, trivial⟩
  ·rintro v bs ⟨a, s', h, rfl, rfl⟩
   refine gP ?_
   refine fP (qK l me log hd ⟨true, pv, cu, nx, pt⟩ s') ?_
   exact ⟨a, s', _, by rw [← hE]; exact jI h, rfl, rfl⟩
  rintro d bs ⟨u, s3, hq3, hle3, hlen3, rfl, rfl⟩
  rw [jH hq3] at hE
  have hG3 := hG2.same (vT hq3) hle3 hlen3
  refine go ?_
  first | refine fR (qK l me log hd ⟨true, pv, cu, nx, pt⟩ s3) ?_ | refine fN (qK l me log hd ⟨true, pv, cu, nx, pt⟩ s3) ?_
  exact ⟨_, s3, _, hE.symm, hG3, rfl, rfl⟩
set_option maxHeartbeats 16000000 in
theorem put_x (l : jN) (hL : qJ l) (me : Int) (log : List jS) (hd o v : Int) (f0 : vA) (s : PsT) (hgo : yK s.gone) (hgl : s.gone.length + log.length ≤ 10000 + s.made) (hm : s.made ≤ log.length) (hl : log.length ≤ 1000000) :
  ImpX Tryz.prog 97 [11, 12, 13, 14] [.ptr 14 0, dI o, dI v] (qK l me log hd f0 s) (OpR l me log hd s (putM l me hd o v log s)) (OpX l me log hd (putM l me hd o v log s)) := by
 generalize hE : putM l me hd o v log s = E
 unfold putM at hE
 have hG : FiG log s s := ⟨Nat.le_refl _, hm, hgo, Nat.le_refl _⟩
 refine sX Tryz.func97 Tryz.ntmps97 fun w cl own kf => ?_
 refine go ?_
 refine jP (fun p : Nat × Int × vA × PsT => FiG log s p.2.2.2 ∧ log.length - p.2.2.2.made < p.1 ∧ 0 ≤ p.2.1 ∧ p.2.1 < 65536 ∧ putL l me hd o v p.1 p.2.1 log p.2.2.2 = E) (fun p => ⟨[(7, dI p.2.1), (6, .ptr 4 0), (0, .ptr 14 0), (1, dI o), (2, dI v)], (4, [dI 0, dB false, dI 0, dI 0, .p (.sl true 0 [])]) :: qK l me log hd p.2.2.1 p.2.2.2, []⟩) (fun p => p.1) (log.length + 1 - s.made, 0, f0, s) ⟨hG, by simp only; omega, by simp, by simp, hE⟩ (zX) ?_
 rintro ⟨k, n, fd, t⟩ ⟨hG, hk, hn0, hn1, hE⟩
 simp only at hG hk hn0 hn1 hE
 obtain ⟨k, rfl⟩ : ∃ j, k = j + 1 := ⟨k - 1, by omega⟩
 refine (show AWP _ _ _ _ ⟨[(7, dI n), (6, .ptr 4 0), (0, .ptr 14 0), (1, dI o), (2, dI v)], (4, [dI 0, dB false, dI 0, dI 0, .p (.sl true 0 [])]) :: qK l me log hd fd t, []⟩ from ?_)
 rw [putL] at hE
 refine go ?_
 refine cX (find_x l hL me log hd o fd t hG.ok (by have := hG.len; have := hG.le; omega) hG.le hl) (fun a w => Tryz.call110 a w) ?_ ?_ ?_ ?_
 ·rintro d bs ⟨f', s', _, _, _, _, _, rfl, rfl⟩; exact ⟨.inl rfl, .inl rfl, .inl rfl, .inl rfl, trivial⟩
 ·rintro v bs ⟨a, s', f', _, rfl, rfl⟩; exact ⟨.inl rfl, .inl rfl, .inl rfl, .inl rfl, trivial⟩
 ·rintro v bs ⟨a, s', f', h, rfl, rfl⟩
  refine gP ?_
  refine fP (qK l me log hd f' s') ?_
  exact ⟨a, s', f', by rw [← hE]; exact jI h, rfl, rfl⟩
 rintro d bs ⟨f1, s1, hq1, hF1, hlt1, hc1, hd1, rfl, rfl⟩
 rw [jH hq1] at hE
 have hG1 := hG.trans hF1
 obtain ⟨th, pv, cu, nx, pt⟩ := f1
 simp only at hE hc1 hd1
 refine go ?_
 cases th
 ·rw [if_neg (by decide)] at hE
  refine go ?_
  generalize h2 : decide (n = 0) = cc; cases cc
  ·rw [if_neg (of_decide_eq_false h2), putB, jR] at hE
   refine go ?_
   refine jE 16 [] rfl rfl (by kernel_rfl) (by kernel_rfl) (by kernel_rfl) ?_
   refine goQ ?_
   refine r_q (qB (xP l hL me s1 n 0 (by omega) (by omega)) rfl (fun a w => Tryz.call112 a w) rfl rfl) rfl rfl ?_
   refine goQ ?_
   refine r_q (jA (jC0 cu) rfl (fun a w => Tryz.call117 a w) rfl) rfl rfl ?_
   refine goQ ?_
   refine cX (wS l me log s1 (jQ l n 0) (qG cu) hG1.le hl) (fun a w => Tryz.call116 a w) ?_ ?_ ?_ ?_
   ·rintro d bs ⟨x, s', _, _, _, rfl, rfl⟩; exact ⟨.inl rfl, .inl rfl, .inl rfl, trivial⟩
   ·rintro v bs ⟨a, s', _, rfl, rfl⟩; exact ⟨.inl rfl, .inl rfl, .inl rfl, trivial⟩
   ·rintro v bs ⟨a, s', h, rfl, rfl⟩
    refine gP ?_
    refine fP (qK l me log hd ⟨false, pv, cu, nx, pt⟩ s') ?_
    exact ⟨a, s', _, by rw [← hE]; exact jI h, rfl, rfl⟩
   rintro d bs ⟨u, s2, hq2, hle2, hlen2, rfl, rfl⟩
   rw [jH hq2, jR] at hE
   have hG2 := hG1.same (by rw [(vX hq2).1]) hle2 hlen2
   have hm2 := xE hq2
   refine go ?_
   refine jE 17 [] rfl rfl (by kernel_rfl) (by kernel_rfl) (by kernel_rfl) ?_
   refine goQ ?_
   refine r_q (jA (jC0 cu) rfl (fun a w => Tryz.call117 a w) rfl) rfl rfl ?_
   refine goQ ?_
   refine r_q (jA (jC0 n) rfl (fun a w => Tryz.call117 a w) rfl) rfl rfl ?_
   refine goQ ?_
   refine cX (cas_x l me log s2 pv (qG cu) (qG n) hG2.le hl) (fun a w => Tryz.call118 a w) ?_ ?_ ?_ ?_
   ·rintro d bs ⟨x, s', _, _, _, rfl, rfl⟩; exact ⟨.inl rfl, .inl rfl, .inl rfl, trivial⟩
   ·rintro v bs ⟨a, s', _, rfl, rfl⟩; exact ⟨.inl rfl, .inl rfl, .inl rfl, trivial⟩
   ·rintro v bs ⟨a, s', h, rfl, rfl⟩
    refine gP ?_
    refine fP (qK l me log hd ⟨false, pv, cu, nx, pt⟩ s') ?_
    exact ⟨a, s', _, by rw [← hE]; exact jI h, rfl, rfl⟩
   rintro d bs ⟨ok, s3, hq3, hle3, hlen3, rfl, rfl⟩
   rw [jH hq3] at hE
   have hG3 := hG2.same (by rw [(uU hq3).1]) hle3 hlen3
   have hm3 := jD6 hq3
   refine go ?_
   cases ok
   ·rw [if_neg (by decide)] at hE
    refine go ?_
    exact ⟨(k, n, ⟨false, pv, cu, nx, pt⟩, s3), ⟨hG3, by simp only; omega, by simp only; omega, by simp only; omega, hE⟩, by simp only; omega, zX⟩
   ·rw [if_pos rfl, jR, jH yA] at hE
    have hE : jI9 l me ⟨0, true, 0, (s3.made : Int) - 1, []⟩ log s3 = E := hE
    rw [jI9] at hE
    refine go ?_
    refine a_q (qB (jD8 l me s3 (by omega)) rfl (fun a w => Tryz.call119 a w) rfl rfl) rfl rfl rfl ?_
    refine go ?_
    refine cX (jE0 l hL me log s3 hG3.le hl) (fun a w => Tryz.call113 a w) ?_ ?_ ?_ ?_
    ·rintro d bs ⟨x, s', _, _, _, rfl, rfl⟩; exact ⟨.inl rfl, .inl rfl, .inl rfl, trivial⟩
    ·rintro v bs ⟨a, s', _, rfl, rfl⟩; exact ⟨.inl rfl, .inl rfl, .inl rfl, trivial⟩
    ·rintro v bs ⟨a, s', h, rfl, rfl⟩
     refine gP ?_
     refine fP (qK l me log hd ⟨false, pv, cu, nx, pt⟩ s') ?_
     exact ⟨a, s', _, by rw [← hE]; exact jI h, rfl, rfl⟩
    rintro d bs ⟨u, s4, hq4, hle4, hlen4, rfl, rfl⟩
    rw [jH hq4] at hE
    have hG4 := hG3.same (vT hq4) hle4 hlen4
    refine go ?_
    first | refine fR (qK l me log hd ⟨false, pv, cu, nx, pt⟩ s4) ?_ | refine fN (qK l me log hd ⟨false, pv, cu, nx, pt⟩ s4) ?_
    exact ⟨_, s4, _, hE.symm, hG4, rfl, rfl⟩
  ·rw [if_pos (of_decide_eq_true h2)] at hE
   refine go ?_
   refine cX (take_x l hL me log s1 hG1.le hl) (fun a w => Tryz.call115 a w) ?_ ?_ ?_ ?_
   ·rintro d bs ⟨x, s', _, _, _, rfl, rfl⟩; exact ⟨.inl rfl, .inl rfl, .inl rfl, trivial⟩
   ·rintro v bs ⟨a, s', _, rfl, rfl⟩; exact ⟨.inl rfl, .inl rfl, .inl rfl, trivial⟩
   ·rintro v bs ⟨a, s', h, rfl, rfl⟩
    refine gP ?_
    refine fP (qK l me log hd ⟨false, pv, cu, nx, pt⟩ s') ?_
    exact ⟨a, s', _, by rw [← hE]; exact jI h, rfl, rfl⟩
   rintro d bs ⟨p, s2, hq2, hle2, hlen2, rfl, rfl⟩
   rw [jH hq2] at hE
   have hp2 := takeL_idx hq2
   have hp0 := takeL_nn hq2
   have hG2 := hG1.same hp2.2 hle2 hlen2
   obtain ⟨n2, at2, okt⟩ := p
   simp only at hE hp2 hp0
   refine go ?_
   cases okt
   ·rw [if_neg (by decide), jI9] at hE
    refine go ?_
    refine cX (jE0 l hL me log s2 hG2.le hl) (fun a w => Tryz.call113 a w) ?_ ?_ ?_ ?_
    ·rintro d bs ⟨x, s', _, _, _, rfl, rfl⟩; exact ⟨.inl rfl, .inl rfl, .inl rfl, trivial⟩
    ·rintro v bs ⟨a, s', _, rfl, rfl⟩; exact ⟨.inl rfl, .inl rfl, .inl rfl, trivial⟩
    ·rintro v bs ⟨a, s', h, rfl, rfl⟩
     refine gP ?_
     refine fP (qK l me log hd ⟨false, pv, cu, nx, pt⟩ s') ?_
     exact ⟨a, s', _, by rw [← hE]; exact jI h, rfl, rfl⟩
    rintro d bs ⟨u, s3, hq3, hle3, hlen3, rfl, rfl⟩
    rw [jH hq3] at hE
    have hG3 := hG2.same (vT hq3) hle3 hlen3
    refine go ?_
    first | refine fR (qK l me log hd ⟨false, pv, cu, nx, pt⟩ s3) ?_ | refine fN (qK l me log hd ⟨false, pv, cu, nx, pt⟩ s3) ?_
    exact ⟨_, s3, _, hE.symm, hG3, rfl, rfl⟩
   ·rw [if_pos rfl] at hE
    refine go ?_
    refine jE 11 [] rfl rfl (by kernel_rfl) (by kernel_rfl) (by kernel_rfl) ?_
    refine goQ ?_
    refine r_q (qB (xP l hL me s2 n2 1 (by omega) (by omega)) rfl (fun a w => Tryz.call112 a w) rfl rfl) rfl rfl ?_
    refine goQ ?_
    refine cX (wS l me log s2 (jQ l n2 1) o hG2.le hl) (fun a w => Tryz.call116 a w) ?_ ?_ ?_ ?_
    ·rintro d bs ⟨x, s', _, _, _, rfl, rfl⟩; exact ⟨.inl rfl, .inl rfl, .inl rfl, trivial⟩
    ·rintro v bs ⟨a, s', _, rfl, rfl⟩; exact ⟨.inl rfl, .inl rfl, .inl rfl, trivial⟩
    ·rintro v bs ⟨a, s', h, rfl, rfl⟩
     refine gP ?_
     refine fP (qK l me log hd ⟨false, pv, cu, nx, pt⟩ s') ?_
     exact ⟨a, s', _, by rw [← hE]; exact jI h, rfl, rfl⟩
    rintro d bs ⟨u, s3, hq3, hle3, hlen3, rfl, rfl⟩
    rw [jH hq3] at hE
    have hG3 := hG2.same (by rw [(vX hq3).1]) hle3 hlen3
    refine go ?_
    refine jE 11 [] rfl rfl (by kernel_rfl) (by kernel_rfl) (by kernel_rfl) ?_
    refine goQ ?_
    refine r_q (qB (xP l hL me s3 n2 2 (by omega) (by omega)) rfl (fun a w => Tryz.call112 a w) rfl rfl) rfl rfl ?_
    refine goQ ?_
    refine cX (wS l me log s3 (jQ l n2 2) v hG3.le hl) (fun a w => Tryz.call116 a w) ?_ ?_ ?_ ?_
    ·rintro d bs ⟨x, s', _, _, _, rfl, rfl⟩; exact ⟨.inl rfl, .inl rfl, .inl rfl, trivial⟩
    ·rintro v bs ⟨a, s', _, rfl, rfl⟩; exact ⟨.inl rfl, .inl rfl, .inl rfl, trivial⟩
    ·rintro v bs ⟨a, s', h, rfl, rfl⟩
     refine gP ?_
     refine fP (qK l me log hd ⟨false, pv, cu, nx, pt⟩ s') ?_
     exact ⟨a, s', _, by rw [← hE]; exact jI h, rfl, rfl⟩
    rintro d bs ⟨u, s4, hq4, hle4, hlen4, rfl, rfl⟩
    rw [jH hq4, putB, jR] at hE
    have hG4 := hG3.same (by rw [(vX hq4).1]) hle4 hlen4
    refine go ?_
    refine jE 16 [] rfl rfl (by kernel_rfl) (by kernel_rfl) (by kernel_rfl) ?_
    refine goQ ?_
    refine r_q (qB (xP l hL me s4 n2 0 (by omega) (by omega)) rfl (fun a w => Tryz.call112 a w) rfl rfl) rfl rfl ?_
    refine goQ ?_
    refine r_q (jA (jC0 cu) rfl (fun a w => Tryz.call117 a w) rfl) rfl rfl ?_
    refine goQ ?_
    refine cX (wS l me log s4 (jQ l n2 0) (qG cu) hG4.le hl) (fun a w => Tryz.call116 a w) ?_ ?_ ?_ ?_
    ·rintro d bs ⟨x, s', _, _, _, rfl, rfl⟩; exact ⟨.inl rfl, .inl rfl, .inl rfl, trivial⟩
    ·rintro v bs ⟨a, s', _, rfl, rfl⟩; exact ⟨.inl rfl, .inl rfl, .inl rfl, trivial⟩
    ·rintro v bs ⟨a, s', h, rfl, rfl⟩
     refine gP ?_
     refine fP (qK l me log hd ⟨false, pv, cu, nx, pt⟩ s') ?_
     exact ⟨a, s', _, by rw [← hE]; exact jI h, rfl, rfl⟩
    rintro d bs ⟨u, s5, hq5, hle5, hlen5, rfl, rfl⟩
    rw [jH hq5, jR] at hE
    have hG5 := hG4.same (by rw [(vX hq5).1]) hle5 hlen5
    have hm5 := xE hq5
    refine go ?_
    refine jE 17 [] rfl rfl (by kernel_rfl) (by kernel_rfl) (by kernel_rfl) ?_
    refine goQ ?_
    refine r_q (jA (jC0 cu) rfl (fun a w => Tryz.call117 a w) rfl) rfl rfl ?_
    refine goQ ?_
    refine r_q (jA (jC0 n2) rfl (fun a w => Tryz.call117 a w) rfl) rfl rfl ?_
    refine goQ ?_
    refine cX (cas_x l me log s5 pv (qG cu) (qG n2) hG5.le hl) (fun a w => Tryz.call118 a w) ?_ ?_ ?_ ?_
    ·rintro d bs ⟨x, s', _, _, _, rfl, rfl⟩; exact ⟨.inl rfl, .inl rfl, .inl rfl, trivial⟩
    ·rintro v bs ⟨a, s', _, rfl, rfl⟩; exact ⟨.inl rfl, .inl rfl, .inl rfl, trivial⟩
    ·rintro v bs ⟨a, s', h, rfl, rfl⟩
     refine gP ?_
     refine fP (qK l me log hd ⟨false, pv, cu, nx, pt⟩ s') ?_
     exact ⟨a, s', _, by rw [← hE]; exact jI h, rfl, rfl⟩
    rintro d bs ⟨ok, s6, hq6, hle6, hlen6, rfl, rfl⟩
    rw [jH hq6] at hE
    have hG6 := hG5.same (by rw [(uU hq6).1]) hle6 hlen6
    have hm6 := jD6 hq6
    refine go ?_
    cases ok
    ·rw [if_neg (by decide)] at hE
     refine go ?_
     exact ⟨(k, n2, ⟨false, pv, cu, nx, pt⟩, s6), ⟨hG6, by simp only; omega, by simp only; omega, by simp only; omega, hE⟩, by simp only; omega, zX⟩
    ·rw [if_pos rfl, jR, jH yA] at hE
     have hE : jI9 l me ⟨0, true, 0, (s6.made : Int) - 1, []⟩ log s6 = E := hE
     rw [jI9] at hE
     refine go ?_
     refine a_q (qB (jD8 l me s6 (by omega)) rfl (fun a w => Tryz.call119 a w) rfl rfl) rfl rfl rfl ?_
     refine go ?_
     refine cX (jE0 l hL me log s6 hG6.le hl) (fun a w => Tryz.call113 a w) ?_ ?_ ?_ ?_
     ·rintro d bs ⟨x, s', _, _, _, rfl, rfl⟩; exact ⟨.inl rfl, .inl rfl, .inl rfl, trivial⟩
     ·rintro v bs ⟨a, s', _, rfl, rfl⟩; exact ⟨.inl rfl, .inl rfl, .inl rfl, trivial⟩
     ·rintro v bs ⟨a, s', h, rfl, rfl⟩
      refine gP ?_
      refine fP (qK l me log hd ⟨false, pv, cu, nx, pt⟩ s') ?_
      exact ⟨a, s', _, by rw [← hE]; exact jI h, rfl, rfl⟩
     rintro d bs ⟨u, s7, hq7, hle7, hlen7, rfl, rfl⟩
     rw [jH hq7] at hE
     have hG7 := hG6.same (vT hq7) hle7 hlen7
     refine go ?_
     first | refine fR (qK l me log hd ⟨false, pv, cu, nx, pt⟩ s7) ?_ | refine fN (qK l me log hd ⟨false, pv, cu, nx, pt⟩ s7) ?_
     exact ⟨_, s7, _, hE.symm, hG7, rfl, rfl⟩
 ·rw [if_pos rfl] at hE
  refine go ?_
  generalize h2 : decide (n = 0) = cc; cases cc
  ·rw [if_neg (of_decide_eq_false h2)] at hE
   refine go ?_
   refine cX (give_x l hL me log s1 n (by omega) hG1.le hl) (fun a w => Tryz.call114 a w) ?_ ?_ ?_ ?_
   ·rintro d bs ⟨x, s', _, _, _, rfl, rfl⟩; exact ⟨.inl rfl, .inl rfl, .inl rfl, trivial⟩
   ·rintro v bs ⟨a, s', _, rfl, rfl⟩; exact ⟨.inl rfl, .inl rfl, .inl rfl, trivial⟩
   ·rintro v bs ⟨a, s', h, rfl, rfl⟩
    refine gP ?_
    refine fP (qK l me log hd ⟨true, pv, cu, nx, pt⟩ s') ?_
    exact ⟨a, s', _, by rw [← hE]; exact jI h, rfl, rfl⟩
   rintro d bs ⟨u, s2, hq2, hle2, hlen2, rfl, rfl⟩
   rw [jH hq2, jI9] at hE
   have hG2 := hG1.same (kK5 hq2) hle2 hlen2
   refine go ?_
   refine cX (jE0 l hL me log s2 hG2.le hl) (fun a w => Tryz.call113 a w) ?_ ?_ ?_ ?_
   ·rintro d bs ⟨x, s', _, _, _, rfl, rfl⟩; exact ⟨.inl rfl, .inl rfl, .inl rfl, trivial⟩
   ·rintro v bs ⟨a, s', _, rfl, rfl⟩; exact ⟨.inl rfl, .inl rfl, .inl rfl, trivial⟩
   ·rintro v bs ⟨a, s', h, rfl, rfl⟩
    refine gP ?_
    refine fP (qK l me log hd ⟨true, pv, cu, nx, pt⟩ s') ?_
    exact ⟨a, s', _, by rw [← hE]; exact jI h, rfl, rfl⟩
   rintro d bs ⟨u, s3, hq3, hle3, hlen3, rfl, rfl⟩
   rw [jH hq3] at hE
   have hG3 := hG2.same (vT hq3) hle3 hlen3
   refine go ?_
   first | refine fR (qK l me log hd ⟨true, pv, cu, nx, pt⟩ s3) ?_ | refine fN (qK l me log hd ⟨true, pv, cu, nx, pt⟩ s3) ?_
   exact ⟨_, s3, _, hE.symm, hG3, rfl, rfl⟩
  ·rw [if_pos (of_decide_eq_true h2), jI9] at hE
   refine go ?_
   refine cX (jE0 l hL me log s1 hG1.le hl) (fun a w => Tryz.call113 a w) ?_ ?_ ?_ ?_
   ·rintro d bs ⟨x, s', _, _, _, rfl, rfl⟩; exact ⟨.inl rfl, .inl rfl, .inl rfl, trivial⟩
   ·rintro v bs ⟨a, s', _, rfl, rfl⟩; exact ⟨.inl rfl, .inl rfl, .inl rfl, trivial⟩
   ·rintro v bs ⟨a, s', h, rfl, rfl⟩
    refine gP ?_
    refine fP (qK l me log hd ⟨true, pv, cu, nx, pt⟩ s') ?_
    exact ⟨a, s', _, by rw [← hE]; exact jI h, rfl, rfl⟩
   rintro d bs ⟨u, s2, hq2, hle2, hlen2, rfl, rfl⟩
   rw [jH hq2] at hE
   have hG2 := hG1.same (vT hq2) hle2 hlen2
   refine go ?_
   first | refine fR (qK l me log hd ⟨true, pv, cu, nx, pt⟩ s2) ?_ | refine fN (qK l me log hd ⟨true, pv, cu, nx, pt⟩ s2) ?_
   exact ⟨_, s2, _, hE.symm, hG2, rfl, rfl⟩
set_option maxHeartbeats 16000000 in
theorem del_x (l : jN) (hL : qJ l) (me : Int) (log : List jS) (hd o : Int) (f0 : vA) (s : PsT) (hgo : yK s.gone) (hgl : s.gone.length + log.length ≤ 10000 + s.made) (hm : s.made ≤ log.length) (hl : log.length ≤ 1000000) :
  ImpX Tryz.prog 99 [11, 12, 13, 14] [.ptr 14 0, dI o] (qK l me log hd f0 s) (OpR l me log hd s (delM l me hd o log s)) (OpX l me log hd (delM l me hd o log s)) := by
 generalize hE : delM l me hd o log s = E
 unfold delM at hE
 have hG : FiG log s s := ⟨Nat.le_refl _, hm, hgo, Nat.le_refl _⟩
 refine sX Tryz.func99 Tryz.ntmps99 fun w cl own kf => ?_
 refine go ?_
 refine jP (fun p : Nat × vA × PsT => FiG log s p.2.2 ∧ log.length - p.2.2.made < p.1 ∧ delL l me hd o p.1 log p.2.2 = E) (fun p => ⟨[(4, .ptr 4 0), (0, .ptr 14 0), (1, dI o)], (4, [dI 0, dB false, dI 0, dI 0, .p (.sl true 0 [])]) :: qK l me log hd p.2.1 p.2.2, []⟩) (fun p => p.1) (log.length + 1 - s.made, f0, s) ⟨hG, by simp only; omega, hE⟩ (zX) ?_
 rintro ⟨k, fd, t⟩ ⟨hG, hk, hE⟩
 simp only at hG hk hE
 obtain ⟨k, rfl⟩ : ∃ j, k = j + 1 := ⟨k - 1, by omega⟩
 refine (show AWP _ _ _ _ ⟨[(4, .ptr 4 0), (0, .ptr 14 0), (1, dI o)], (4, [dI 0, dB false, dI 0, dI 0, .p (.sl true 0 [])]) :: qK l me log hd fd t, []⟩ from ?_)
 rw [delL] at hE
 refine go ?_
 refine cX (find_x l hL me log hd o fd t hG.ok (by have := hG.len; have := hG.le; omega) hG.le hl) (fun a w => Tryz.call110 a w) ?_ ?_ ?_ ?_
 ·rintro d bs ⟨f', s', _, _, _, _, _, rfl, rfl⟩; exact ⟨.inl rfl, .inl rfl, .inl rfl, .inl rfl, trivial⟩
 ·rintro v bs ⟨a, s', f', _, rfl, rfl⟩; exact ⟨.inl rfl, .inl rfl, .inl rfl, .inl rfl, trivial⟩
 ·rintro v bs ⟨a, s', f', h, rfl, rfl⟩
  refine gP ?_
  refine fP (qK l me log hd f' s') ?_
  exact ⟨a, s', f', by rw [← hE]; exact jI h, rfl, rfl⟩
 rintro d bs ⟨f1, s1, hq1, hF1, hlt1, hc1, hd1, rfl, rfl⟩
 rw [jH hq1] at hE
 have hG1 := hG.trans hF1
 obtain ⟨th, pv, cu, nx, pt⟩ := f1
 simp only at hE hc1 hd1
 refine go ?_
 cases th
 ·rw [if_neg (by decide), jI9] at hE
  refine go ?_
  refine cX (jE0 l hL me log s1 hG1.le hl) (fun a w => Tryz.call113 a w) ?_ ?_ ?_ ?_
  ·rintro d bs ⟨x, s', _, _, _, rfl, rfl⟩; exact ⟨.inl rfl, .inl rfl, .inl rfl, trivial⟩
  ·rintro v bs ⟨a, s', _, rfl, rfl⟩; exact ⟨.inl rfl, .inl rfl, .inl rfl, trivial⟩
  ·rintro v bs ⟨a, s', h, rfl, rfl⟩
   refine gP ?_
   refine fP (qK l me log hd ⟨false, pv, cu, nx, pt⟩ s') ?_
   exact ⟨a, s', _, by rw [← hE]; exact jI h, rfl, rfl⟩
  rintro d bs ⟨u, s2, hq2, hle2, hlen2, rfl, rfl⟩
  rw [jH hq2] at hE
  have hG2 := hG1.same (vT hq2) hle2 hlen2
  refine go ?_
  first | refine fR (qK l me log hd ⟨false, pv, cu, nx, pt⟩ s2) ?_ | refine fN (qK l me log hd ⟨false, pv, cu, nx, pt⟩ s2) ?_
  exact ⟨_, s2, _, hE.symm, hG2, rfl, rfl⟩
 ·rw [if_pos rfl] at hE
  have hxn := xT nx
  refine go ?_
  refine a_q (jA (of_c nx) rfl (fun a w => Tryz.call28 a w) rfl) rfl rfl rfl ?_
  refine go ?_
  refine jE 21 [] rfl rfl (by kernel_rfl) (by kernel_rfl) (by kernel_rfl) ?_
  refine goQ ?_
  refine r_q (qB (xP l hL me s1 cu 0 (by omega) (by omega)) rfl (fun a w => Tryz.call112 a w) rfl rfl) rfl rfl ?_
  refine goQ ?_
  refine r_q (jA (marked_c (ofW nx).idx) rfl (fun a w => Tryz.call120 a w) rfl) rfl rfl ?_
  refine goQ ?_
  refine cX (cas_x l me log s1 (jQ l cu 0) nx (wP (ofW nx).idx) hG1.le hl) (fun a w => Tryz.call118 a w) ?_ ?_ ?_ ?_
  ·rintro d bs ⟨x, s', _, _, _, rfl, rfl⟩; exact ⟨.inl rfl, .inl rfl, .inl rfl, trivial⟩
  ·rintro v bs ⟨a, s', _, rfl, rfl⟩; exact ⟨.inl rfl, .inl rfl, .inl rfl, trivial⟩
  ·rintro v bs ⟨a, s', h, rfl, rfl⟩
   refine gP ?_
   refine fP (qK l me log hd ⟨true, pv, cu, nx, pt⟩ s') ?_
   exact ⟨a, s', _, by rw [← hE]; exact jI h, rfl, rfl⟩
  rintro d bs ⟨ok, s2, hq2, hle2, hlen2, rfl, rfl⟩
  rw [jH hq2] at hE
  have hG2 := hG1.same (by rw [(uU hq2).1]) hle2 hlen2
  have hm2 := jD6 hq2
  refine go ?_
  cases ok
  ·rw [if_neg (by decide)] at hE
   refine go ?_
   exact ⟨(k, ⟨true, pv, cu, nx, pt⟩, s2), ⟨hG2, by simp only; omega, hE⟩, by simp only; omega, zX⟩
  ·rw [if_pos rfl, jH yA] at hE
   refine go ?_
   refine a_q (qB (jD8 l me s2 (by omega)) rfl (fun a w => Tryz.call119 a w) rfl rfl) rfl rfl rfl ?_
   refine go ?_
   refine jE 17 [] rfl rfl (by kernel_rfl) (by kernel_rfl) (by kernel_rfl) ?_
   refine goQ ?_
   refine r_q (jA (jC0 cu) rfl (fun a w => Tryz.call117 a w) rfl) rfl rfl ?_
   refine goQ ?_
   refine r_q (jA (jC0 (ofW nx).idx) rfl (fun a w => Tryz.call117 a w) rfl) rfl rfl ?_
   refine goQ ?_
   refine cX (cas_x l me log s2 pv (qG cu) (qG (ofW nx).idx) hG2.le hl) (fun a w => Tryz.call118 a w) ?_ ?_ ?_ ?_
   ·rintro d bs ⟨x, s', _, _, _, rfl, rfl⟩; exact ⟨.inl rfl, .inl rfl, .inl rfl, trivial⟩
   ·rintro v bs ⟨a, s', _, rfl, rfl⟩; exact ⟨.inl rfl, .inl rfl, .inl rfl, trivial⟩
   ·rintro v bs ⟨a, s', h, rfl, rfl⟩
    refine gP ?_
    refine fP (qK l me log hd ⟨true, pv, cu, nx, pt⟩ s') ?_
    exact ⟨a, s', _, by rw [← hE]; exact jI h, rfl, rfl⟩
   rintro d bs ⟨ok, s3, hq3, hle3, hlen3, rfl, rfl⟩
   rw [jH hq3] at hE
   have hG3 := hG2.same (by rw [(uU hq3).1]) hle3 hlen3
   have hm3 := jD6 hq3
   refine go ?_
   cases ok
   ·rw [if_neg (by decide)] at hE
    refine go ?_
    refine cX (find_x l hL me log hd o ⟨true, pv, cu, nx, pt⟩ s3 hG3.ok (by have := hG3.len; have := hG3.le; omega) hG3.le hl) (fun a w => Tryz.call110 a w) ?_ ?_ ?_ ?_
    ·rintro d bs ⟨f', s', _, _, _, _, _, rfl, rfl⟩; exact ⟨.inl rfl, .inl rfl, .inl rfl, .inl rfl, trivial⟩
    ·rintro v bs ⟨a, s', f', _, rfl, rfl⟩; exact ⟨.inl rfl, .inl rfl, .inl rfl, .inl rfl, trivial⟩
    ·rintro v bs ⟨a, s', f', h, rfl, rfl⟩
     refine gP ?_
     refine fP (qK l me log hd f' s') ?_
     exact ⟨a, s', f', by rw [← hE]; exact jI h, rfl, rfl⟩
    rintro d bs ⟨f4, s4, hq4, hF4, hlt4, hc4, hd4, rfl, rfl⟩
    rw [jH hq4] at hE
    have hG4 := hG3.trans hF4
    obtain ⟨th4, pv4, cu4, nx4, pt4⟩ := f4
    rw [jI9] at hE
    refine go ?_
    refine cX (jE0 l hL me log s4 hG4.le hl) (fun a w => Tryz.call113 a w) ?_ ?_ ?_ ?_
    ·rintro d bs ⟨x, s', _, _, _, rfl, rfl⟩; exact ⟨.inl rfl, .inl rfl, .inl rfl, trivial⟩
    ·rintro v bs ⟨a, s', _, rfl, rfl⟩; exact ⟨.inl rfl, .inl rfl, .inl rfl, trivial⟩
    ·rintro v bs ⟨a, s', h, rfl, rfl⟩
     refine gP ?_
     refine fP (qK l me log hd ⟨th4, pv4, cu4, nx4, pt4⟩ s') ?_
     exact ⟨a, s', _, by rw [← hE]; exact jI h, rfl, rfl⟩
    rintro d bs ⟨u, s5, hq5, hle5, hlen5, rfl, rfl⟩
    rw [jH hq5] at hE
    have hG5 := hG4.same (vT hq5) hle5 hlen5
    refine go ?_
    first | refine fR (qK l me log hd ⟨th4, pv4, cu4, nx4, pt4⟩ s5) ?_ | refine fN (qK l me log hd ⟨th4, pv4, cu4, nx4, pt4⟩ s5) ?_
    exact ⟨_, s5, _, hE.symm, hG5, rfl, rfl⟩
   ·rw [if_pos rfl] at hE
    refine go ?_
    refine cX (jE0 l hL me log s3 hG3.le hl) (fun a w => Tryz.call113 a w) ?_ ?_ ?_ ?_
    ·rintro d bs ⟨x, s', _, _, _, rfl, rfl⟩; exact ⟨.inl rfl, .inl rfl, .inl rfl, trivial⟩
    ·rintro v bs ⟨a, s', _, rfl, rfl⟩; exact ⟨.inl rfl, .inl rfl, .inl rfl, trivial⟩
    ·rintro v bs ⟨a, s', h, rfl, rfl⟩
     refine gP ?_
     refine fP (qK l me log hd ⟨true, pv, cu, nx, pt⟩ s') ?_
     exact ⟨a, s', _, by rw [← hE]; exact jI h, rfl, rfl⟩
    rintro d bs ⟨u, s4, hq4, hle4, hlen4, rfl, rfl⟩
    rw [jH hq4] at hE
    have hG4 := hG3.same (vT hq4) hle4 hlen4
    refine go ?_
    refine jE 9 [] rfl rfl (by kernel_rfl) (by kernel_rfl) (by kernel_rfl) ?_
    refine goQ ?_
    refine cX (retire_x l hL me log s4 cu (by omega) hG4.ok (by have := hG4.len; have := hG4.le; omega) hG4.le hl) (fun a w => Tryz.call121 a w) ?_ ?_ ?_ ?_
    ·rintro d bs ⟨x, s', _, _, _, rfl, rfl⟩; exact ⟨.inl rfl, .inl rfl, .inl rfl, trivial⟩
    ·rintro v bs ⟨a, s', _, rfl, rfl⟩; exact ⟨.inl rfl, .inl rfl, .inl rfl, trivial⟩
    ·rintro v bs ⟨a, s', h, rfl, rfl⟩
     refine gP ?_
     refine fP (qK l me log hd ⟨true, pv, cu, nx, pt⟩ s') ?_
     exact ⟨a, s', _, by rw [← hE]; exact jI h, rfl, rfl⟩
    rintro d bs ⟨u, s5, hq5, hle5, hlen5, rfl, rfl⟩
    rw [jH hq5] at hE
    have hG5 : FiG log s s5 := by
     have e1 := kE5 hq5
     have e2 : s4.gone = s2.gone := (vT hq4).trans (by rw [(uU hq3).1])
     rw [e2] at e1
     have := hG2.len
     have := hG2.made
     have := hG4.made
     exact ⟨by omega, hlen5, kM6 hq5 hG4.ok (by omega), by omega⟩
    refine go ?_
    first | refine fR (qK l me log hd ⟨true, pv, cu, nx, pt⟩ s5) ?_ | refine fN (qK l me log hd ⟨true, pv, cu, nx, pt⟩ s5) ?_
    exact ⟨_, s5, _, hE.symm, hG5, rfl, rfl⟩
end Go.Proofs.YtkkldicehapklaaGreat
