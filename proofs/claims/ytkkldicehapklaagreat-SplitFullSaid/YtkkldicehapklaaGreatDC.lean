/- Taking and giving nodes: their walks. -/
import Derived.Test.YtkkldicehapklaaGreatDA
import Derived.Test.YtkkldicehapklaaGreatShort
namespace Go.Proofs.YtkkldicehapklaaGreat
open Go.RowKit
set_option maxRecDepth 100000
set_option maxHeartbeats 4000000 in
theorem take_x (l : jN) (hL : qJ l) (me : Int) (log : List jS) (s : PsT) (hm : s.made ≤ log.length) (hl : log.length ≤ 1000000) : PmC 115 l me log s [.ptr 11 0] (takeM l log s) (fun p => .tup [dI p.1, dI p.2.1, dB p.2.2]) := by
 generalize hE : takeM l log s = E
 refine sX Tryz.func115 Tryz.ntmps115 fun w cl own kf => ?_
 refine go ?_
 refine jP (fun p : Nat × PsT => s.made ≤ p.2.made ∧ p.2.made ≤ log.length ∧ log.length - p.2.made < p.1 ∧ jP6 l p.1 log p.2 = E) (fun p => ⟨[(0, .ptr 11 0)], jW l me log p.2, []⟩) (fun p => p.1) (log.length + 1 - s.made, s) ⟨Nat.le_refl _, hm, by simp only; omega, hE⟩ (zX) ?_
 rintro ⟨k, t⟩ ⟨ht0, ht1, ht2, hE⟩
 simp only at ht0 ht1 ht2 hE
 obtain ⟨k, rfl⟩ : ∃ j, k = j + 1 := ⟨k - 1, by omega⟩
 refine (show AWP _ _ _ _ ⟨[(0, .ptr 11 0)], jW l me log t, []⟩ from ?_)
 rw [jP6] at hE
 refine go ?_
 refine cX (uX l me log t l.free ht1 hl) (fun a w => Tryz.call111 a w) ?_ ?_ ?_ ?_
 ·rintro d bs ⟨x, s', _, _, _, rfl, rfl⟩; exact ⟨.inl rfl, .inl rfl, .inl rfl, trivial⟩
 ·rintro v bs ⟨a, s', _, rfl, rfl⟩; exact ⟨.inl rfl, .inl rfl, .inl rfl, trivial⟩
 ·rintro v bs ⟨a, s', h, rfl, rfl⟩
  refine gP ?_
  refine fP (jW l me log s') ?_
  exact ⟨a, s', by rw [← hE]; exact jI h, rfl, rfl⟩
 rintro d bs ⟨fr, s1, hq1, hle1, hlen1, rfl, rfl⟩
 rw [jH hq1] at hE
 have hs1 := yP hq1
 have hx1 := xT fr
 have hx2 := ofW_cnt fr
 refine go ?_
 refine a_q (jA (of_c fr) rfl (fun a w => Tryz.call28 a w) rfl) rfl rfl rfl ?_
 refine go ?_
 generalize h1 : decide ((ofW fr).idx = 0) = cc; cases cc
 ·have h1' := of_decide_eq_false h1
  rw [if_neg h1'] at hE
  refine go ?_
  refine a_q (qB (xP l hL me s1 (ofW fr).idx 7 (by omega) (by omega)) rfl (fun a w => Tryz.call112 a w) rfl rfl) rfl rfl rfl ?_
  refine go ?_
  refine cX (uX l me log s1 (jQ l (ofW fr).idx 7) hlen1 hl) (fun a w => Tryz.call111 a w) ?_ ?_ ?_ ?_
  ·rintro d bs ⟨x, s', _, _, _, rfl, rfl⟩; exact ⟨.inl rfl, .inl rfl, .inl rfl, trivial⟩
  ·rintro v bs ⟨a, s', _, rfl, rfl⟩; exact ⟨.inl rfl, .inl rfl, .inl rfl, trivial⟩
  ·rintro v bs ⟨a, s', h, rfl, rfl⟩
   refine gP ?_
   refine fP (jW l me log s') ?_
   exact ⟨a, s', by rw [← hE]; exact jI h, rfl, rfl⟩
  rintro d bs ⟨lk, s2, hq2, hle2, hlen2, rfl, rfl⟩
  rw [jH hq2] at hE
  have hs2 := yP hq2
  refine go ?_
  refine jE 11 [] rfl rfl (by kernel_rfl) (by kernel_rfl) (by kernel_rfl) ?_
  refine goQ ?_
  refine r_q (jA (turn_c (ofW fr) lk hx2.1 hx2.2) rfl (fun a w => Tryz.call126 a w) rfl) rfl rfl ?_
  refine goQ ?_
  refine r_q (jA (kC6 (jA5 (ofW fr) lk)) rfl (fun a w => Tryz.call47 a w) rfl) rfl rfl ?_
  refine goQ ?_
  refine cX (cas_x l me log s2 l.free fr (vK (jA5 (ofW fr) lk)) hlen2 hl) (fun a w => Tryz.call118 a w) ?_ ?_ ?_ ?_
  ·rintro d bs ⟨x, s', _, _, _, rfl, rfl⟩; exact ⟨.inl rfl, .inl rfl, .inl rfl, trivial⟩
  ·rintro v bs ⟨a, s', _, rfl, rfl⟩; exact ⟨.inl rfl, .inl rfl, .inl rfl, trivial⟩
  ·rintro v bs ⟨a, s', h, rfl, rfl⟩
   refine gP ?_
   refine fP (jW l me log s') ?_
   exact ⟨a, s', by rw [← hE]; exact jI h, rfl, rfl⟩
  rintro d bs ⟨okk, s3, hq3, hle3, hlen3, rfl, rfl⟩
  rw [jH hq3] at hE
  have hs3 := jD6 hq3
  refine go ?_
  cases okk
  ·rw [if_neg (by decide)] at hE
   refine go ?_
   exact ⟨(k, s3), ⟨by simp only; omega, hlen3, by simp only; omega, hE⟩, by simp only; omega, zX⟩
  ·rw [if_pos rfl, jH yA] at hE
   refine go ?_
   refine a_q (qB (jD8 l me s3 (by omega)) rfl (fun a w => Tryz.call119 a w) rfl rfl) rfl rfl rfl ?_
   refine go ?_
   refine cX (uX l me log s3 l.era hlen3 hl) (fun a w => Tryz.call111 a w) ?_ ?_ ?_ ?_
   ·rintro d bs ⟨x, s', _, _, _, rfl, rfl⟩; exact ⟨.inl rfl, .inl rfl, .inl rfl, trivial⟩
   ·rintro v bs ⟨a, s', _, rfl, rfl⟩; exact ⟨.inl rfl, .inl rfl, .inl rfl, trivial⟩
   ·rintro v bs ⟨a, s', h, rfl, rfl⟩
    refine gP ?_
    refine fP (jW l me log s') ?_
    exact ⟨a, s', by rw [← hE]; exact jI h, rfl, rfl⟩
   rintro d bs ⟨bi, s4, hq4, hle4, hlen4, rfl, rfl⟩
   rw [jH hq4] at hE
   refine go ?_
   refine a_q (qB (xP l hL me s4 (ofW fr).idx 6 (by omega) (by omega)) rfl (fun a w => Tryz.call112 a w) rfl rfl) rfl rfl rfl ?_
   refine go ?_
   refine cX (wS l me log s4 (jQ l (ofW fr).idx 6) bi hlen4 hl) (fun a w => Tryz.call116 a w) ?_ ?_ ?_ ?_
   ·rintro d bs ⟨x, s', _, _, _, rfl, rfl⟩; exact ⟨.inl rfl, .inl rfl, .inl rfl, trivial⟩
   ·rintro v bs ⟨a, s', _, rfl, rfl⟩; exact ⟨.inl rfl, .inl rfl, .inl rfl, trivial⟩
   ·rintro v bs ⟨a, s', h, rfl, rfl⟩
    refine gP ?_
    refine fP (jW l me log s') ?_
    exact ⟨a, s', by rw [← hE]; exact jI h, rfl, rfl⟩
   rintro d bs ⟨u, s5, hq5, hle5, hlen5, rfl, rfl⟩
   rw [jH hq5] at hE
   refine go ?_
   first | refine fR (jW l me log s5) ?_ | refine fN (jW l me log s5) ?_
   exact ⟨_, s5, hE.symm, by omega, hlen5, rfl, rfl⟩
 ·rw [if_pos (of_decide_eq_true h1), jH yA] at hE
  refine go ?_
  refine a_q (qB (jD8 l me s1 (by omega)) rfl (fun a w => Tryz.call119 a w) rfl rfl) rfl rfl rfl ?_
  refine go ?_
  first | refine fR (jW l me log s1) ?_ | refine fN (jW l me log s1) ?_
  exact ⟨_, s1, hE.symm, by omega, hlen1, rfl, rfl⟩
set_option maxHeartbeats 4000000 in
theorem give_x (l : jN) (hL : qJ l) (me : Int) (log : List jS) (s : PsT) (n : Int) (hn : n < 9223372036854775808) (hm : s.made ≤ log.length) (hl : log.length ≤ 1000000) : PmC 114 l me log s [.ptr 11 0, dI n] (giveM l n log s) (fun _ => .tup []) := by
 generalize hE : giveM l n log s = E
 refine sX Tryz.func114 Tryz.ntmps114 fun w cl own kf => ?_
 refine go ?_
 refine jP (fun p : Nat × PsT => s.made ≤ p.2.made ∧ p.2.made ≤ log.length ∧ log.length - p.2.made < p.1 ∧ jQ9 l n p.1 log p.2 = E) (fun p => ⟨[(0, .ptr 11 0), (1, dI n)], jW l me log p.2, []⟩) (fun p => p.1) (log.length + 1 - s.made, s) ⟨Nat.le_refl _, hm, by simp only; omega, hE⟩ (zX) ?_
 rintro ⟨k, t⟩ ⟨ht0, ht1, ht2, hE⟩
 simp only at ht0 ht1 ht2 hE
 obtain ⟨k, rfl⟩ : ∃ j, k = j + 1 := ⟨k - 1, by omega⟩
 refine (show AWP _ _ _ _ ⟨[(0, .ptr 11 0), (1, dI n)], jW l me log t, []⟩ from ?_)
 rw [jQ9] at hE
 refine go ?_
 refine cX (uX l me log t l.free ht1 hl) (fun a w => Tryz.call111 a w) ?_ ?_ ?_ ?_
 ·rintro d bs ⟨x, s', _, _, _, rfl, rfl⟩; exact ⟨.inl rfl, .inl rfl, .inl rfl, trivial⟩
 ·rintro v bs ⟨a, s', _, rfl, rfl⟩; exact ⟨.inl rfl, .inl rfl, .inl rfl, trivial⟩
 ·rintro v bs ⟨a, s', h, rfl, rfl⟩
  refine gP ?_
  refine fP (jW l me log s') ?_
  exact ⟨a, s', by rw [← hE]; exact jI h, rfl, rfl⟩
 rintro d bs ⟨fr, s1, hq1, hle1, hlen1, rfl, rfl⟩
 rw [jH hq1] at hE
 have hs1 := yP hq1
 have hx2 := ofW_cnt fr
 refine go ?_
 refine a_q (jA (of_c fr) rfl (fun a w => Tryz.call28 a w) rfl) rfl rfl rfl ?_
 refine go ?_
 refine jE 6 [] rfl rfl (by kernel_rfl) (by kernel_rfl) (by kernel_rfl) ?_
 refine goQ ?_
 refine r_q (qB (xP l hL me s1 n 7 hn (by omega)) rfl (fun a w => Tryz.call112 a w) rfl rfl) rfl rfl ?_
 refine goQ ?_
 refine cX (wS l me log s1 (jQ l n 7) (ofW fr).idx hlen1 hl) (fun a w => Tryz.call116 a w) ?_ ?_ ?_ ?_
 ·rintro d bs ⟨x, s', _, _, _, rfl, rfl⟩; exact ⟨.inl rfl, .inl rfl, .inl rfl, trivial⟩
 ·rintro v bs ⟨a, s', _, rfl, rfl⟩; exact ⟨.inl rfl, .inl rfl, .inl rfl, trivial⟩
 ·rintro v bs ⟨a, s', h, rfl, rfl⟩
  refine gP ?_
  refine fP (jW l me log s') ?_
  exact ⟨a, s', by rw [← hE]; exact jI h, rfl, rfl⟩
 rintro d bs ⟨u, s2, hq2, hle2, hlen2, rfl, rfl⟩
 rw [jH hq2] at hE
 have hs2 := xE hq2
 refine go ?_
 refine jE 11 [] rfl rfl (by kernel_rfl) (by kernel_rfl) (by kernel_rfl) ?_
 refine goQ ?_
 refine r_q (jA (turn_c (ofW fr) n hx2.1 hx2.2) rfl (fun a w => Tryz.call126 a w) rfl) rfl rfl ?_
 refine goQ ?_
 refine r_q (jA (kC6 (jA5 (ofW fr) n)) rfl (fun a w => Tryz.call47 a w) rfl) rfl rfl ?_
 refine goQ ?_
 refine cX (cas_x l me log s2 l.free fr (vK (jA5 (ofW fr) n)) hlen2 hl) (fun a w => Tryz.call118 a w) ?_ ?_ ?_ ?_
 ·rintro d bs ⟨x, s', _, _, _, rfl, rfl⟩; exact ⟨.inl rfl, .inl rfl, .inl rfl, trivial⟩
 ·rintro v bs ⟨a, s', _, rfl, rfl⟩; exact ⟨.inl rfl, .inl rfl, .inl rfl, trivial⟩
 ·rintro v bs ⟨a, s', h, rfl, rfl⟩
  refine gP ?_
  refine fP (jW l me log s') ?_
  exact ⟨a, s', by rw [← hE]; exact jI h, rfl, rfl⟩
 rintro d bs ⟨okk, s3, hq3, hle3, hlen3, rfl, rfl⟩
 rw [jH hq3] at hE
 have hs3 := jD6 hq3
 refine go ?_
 cases okk
 ·rw [if_neg (by decide)] at hE
  refine go ?_
  exact ⟨(k, s3), ⟨by simp only; omega, hlen3, by simp only; omega, hE⟩, by simp only; omega, zX⟩
 ·rw [if_pos rfl] at hE
  refine go ?_
  first | refine fR (jW l me log s3) ?_ | refine fN (jW l me log s3) ?_
  exact ⟨_, s3, hE.symm, by omega, hlen3, rfl, rfl⟩
set_option maxHeartbeats 4000000 in
theorem guard0_x (l : jN) (hL : qJ l) (me : Int) (log : List jS) (s : PsT) (cell : Int) (hm : s.made ≤ log.length) (hl : log.length ≤ 1000000) : PmC 124 l me log s [.ptr 11 0, dI 0, dI cell] (jI6 l me 0 cell log s) (fun p => .tup [dI p.1, dI p.2]) := by
 generalize hE : jI6 l me 0 cell log s = E
 refine sX Tryz.func124 Tryz.ntmps124 fun w cl own kf => ?_
 refine go ?_
 refine jP (fun p : Nat × PsT => s.made ≤ p.2.made ∧ p.2.made ≤ log.length ∧ log.length - p.2.made < p.1 ∧ wF l me 0 cell p.1 log p.2 = E) (fun p => ⟨[(0, .ptr 11 0), (1, dI 0), (2, dI cell)], jW l me log p.2, []⟩) (fun p => p.1) (log.length + 1 - s.made, s) ⟨Nat.le_refl _, hm, by simp only; omega, hE⟩ (zX) ?_
 rintro ⟨k, t⟩ ⟨ht0, ht1, ht2, hE⟩
 simp only at ht0 ht1 ht2 hE
 obtain ⟨k, rfl⟩ : ∃ j, k = j + 1 := ⟨k - 1, by omega⟩
 refine (show AWP _ _ _ _ ⟨[(0, .ptr 11 0), (1, dI 0), (2, dI cell)], jW l me log t, []⟩ from ?_)
 rw [wF] at hE
 refine go ?_
 refine cX (uX l me log t cell ht1 hl) (fun a w => Tryz.call111 a w) ?_ ?_ ?_ ?_
 ·rintro d bs ⟨x, s', _, _, _, rfl, rfl⟩; exact ⟨.inl rfl, .inl rfl, .inl rfl, trivial⟩
 ·rintro v bs ⟨a, s', _, rfl, rfl⟩; exact ⟨.inl rfl, .inl rfl, .inl rfl, trivial⟩
 ·rintro v bs ⟨a, s', h, rfl, rfl⟩
  refine gP ?_
  refine fP (jW l me log s') ?_
  exact ⟨a, s', by rw [← hE]; exact jI h, rfl, rfl⟩
 rintro d bs ⟨v, s1, hq1, hle1, hlen1, rfl, rfl⟩
 rw [jH hq1, jH yA] at hE
 have hs1 := yP hq1
 refine go ?_
 refine a_q (qB (jD8 l me s1 (by omega)) rfl (fun a w => Tryz.call119 a w) rfl rfl) rfl rfl rfl ?_
 refine go ?_
 refine cX (uX l me log s1 l.era hlen1 hl) (fun a w => Tryz.call111 a w) ?_ ?_ ?_ ?_
 ·rintro d bs ⟨x, s', _, _, _, rfl, rfl⟩; exact ⟨.inl rfl, .inl rfl, .inl rfl, trivial⟩
 ·rintro v bs ⟨a, s', _, rfl, rfl⟩; exact ⟨.inl rfl, .inl rfl, .inl rfl, trivial⟩
 ·rintro v bs ⟨a, s', h, rfl, rfl⟩
  refine gP ?_
  refine fP (jW l me log s') ?_
  exact ⟨a, s', by rw [← hE]; exact jI h, rfl, rfl⟩
 rintro d bs ⟨er, s2, hq2, hle2, hlen2, rfl, rfl⟩
 rw [jH hq2] at hE
 have hs2 := yP hq2
 refine go ?_
 refine a_q (jZ jB rfl rfl rfl rfl rfl (by omega) (by omega)) rfl rfl rfl ?_
 refine go ?_
 generalize h1 : decide (er = s2.e0) = cc; cases cc
 ·rw [if_neg (show ¬ er = s2.e 0 from of_decide_eq_false h1)] at hE
  refine go ?_
  refine jE 12 [] rfl rfl (by kernel_rfl) (by kernel_rfl) (by kernel_rfl) ?_
  refine goQ ?_
  refine r_q (jA (jN8 l hL me 0 (by omega)) rfl (fun a w => Tryz.call125 a w) rfl) rfl rfl ?_
  refine goQ ?_
  refine cX (wS l me log s2 (qV l me 0) er hlen2 hl) (fun a w => Tryz.call116 a w) ?_ ?_ ?_ ?_
  ·rintro d bs ⟨x, s', _, _, _, rfl, rfl⟩; exact ⟨.inl rfl, .inl rfl, .inl rfl, trivial⟩
  ·rintro v bs ⟨a, s', _, rfl, rfl⟩; exact ⟨.inl rfl, .inl rfl, .inl rfl, trivial⟩
  ·rintro v bs ⟨a, s', h, rfl, rfl⟩
   refine gP ?_
   refine fP (jW l me log s') ?_
   exact ⟨a, s', by rw [← hE]; exact jI h, rfl, rfl⟩
  rintro d bs ⟨u, s3, hq3, hle3, hlen3, rfl, rfl⟩
  rw [jH hq3] at hE
  have hs3 := xE hq3
  refine go ?_
  refine a_q (jZ jB rfl rfl rfl rfl rfl (by omega) (by omega)) rfl rfl rfl ?_
  refine go ?_
  exact ⟨(k, { s3 with e0 := er }), ⟨by simp only; omega, by simp only; omega, by simp only; omega, hE⟩, by simp only; omega, zX⟩
 ·rw [if_pos (show er = s2.e 0 from of_decide_eq_true h1)] at hE
  refine go ?_
  first | refine fR (jW l me log s2) ?_ | refine fN (jW l me log s2) ?_
  exact ⟨_, s2, hE.symm, by omega, hlen2, rfl, rfl⟩
set_option maxHeartbeats 4000000 in
theorem guard1_x (l : jN) (hL : qJ l) (me : Int) (log : List jS) (s : PsT) (cell : Int) (hm : s.made ≤ log.length) (hl : log.length ≤ 1000000) : PmC 124 l me log s [.ptr 11 0, dI 1, dI cell] (jI6 l me 1 cell log s) (fun p => .tup [dI p.1, dI p.2]) := by
 generalize hE : jI6 l me 1 cell log s = E
 refine sX Tryz.func124 Tryz.ntmps124 fun w cl own kf => ?_
 refine go ?_
 refine jP (fun p : Nat × PsT => s.made ≤ p.2.made ∧ p.2.made ≤ log.length ∧ log.length - p.2.made < p.1 ∧ wF l me 1 cell p.1 log p.2 = E) (fun p => ⟨[(0, .ptr 11 0), (1, dI 1), (2, dI cell)], jW l me log p.2, []⟩) (fun p => p.1) (log.length + 1 - s.made, s) ⟨Nat.le_refl _, hm, by simp only; omega, hE⟩ (zX) ?_
 rintro ⟨k, t⟩ ⟨ht0, ht1, ht2, hE⟩
 simp only at ht0 ht1 ht2 hE
 obtain ⟨k, rfl⟩ : ∃ j, k = j + 1 := ⟨k - 1, by omega⟩
 refine (show AWP _ _ _ _ ⟨[(0, .ptr 11 0), (1, dI 1), (2, dI cell)], jW l me log t, []⟩ from ?_)
 rw [wF] at hE
 refine go ?_
 refine cX (uX l me log t cell ht1 hl) (fun a w => Tryz.call111 a w) ?_ ?_ ?_ ?_
 ·rintro d bs ⟨x, s', _, _, _, rfl, rfl⟩; exact ⟨.inl rfl, .inl rfl, .inl rfl, trivial⟩
 ·rintro v bs ⟨a, s', _, rfl, rfl⟩; exact ⟨.inl rfl, .inl rfl, .inl rfl, trivial⟩
 ·rintro v bs ⟨a, s', h, rfl, rfl⟩
  refine gP ?_
  refine fP (jW l me log s') ?_
  exact ⟨a, s', by rw [← hE]; exact jI h, rfl, rfl⟩
 rintro d bs ⟨v, s1, hq1, hle1, hlen1, rfl, rfl⟩
 rw [jH hq1, jH yA] at hE
 have hs1 := yP hq1
 refine go ?_
 refine a_q (qB (jD8 l me s1 (by omega)) rfl (fun a w => Tryz.call119 a w) rfl rfl) rfl rfl rfl ?_
 refine go ?_
 refine cX (uX l me log s1 l.era hlen1 hl) (fun a w => Tryz.call111 a w) ?_ ?_ ?_ ?_
 ·rintro d bs ⟨x, s', _, _, _, rfl, rfl⟩; exact ⟨.inl rfl, .inl rfl, .inl rfl, trivial⟩
 ·rintro v bs ⟨a, s', _, rfl, rfl⟩; exact ⟨.inl rfl, .inl rfl, .inl rfl, trivial⟩
 ·rintro v bs ⟨a, s', h, rfl, rfl⟩
  refine gP ?_
  refine fP (jW l me log s') ?_
  exact ⟨a, s', by rw [← hE]; exact jI h, rfl, rfl⟩
 rintro d bs ⟨er, s2, hq2, hle2, hlen2, rfl, rfl⟩
 rw [jH hq2] at hE
 have hs2 := yP hq2
 refine go ?_
 refine a_q (jZ jB rfl rfl rfl rfl rfl (by omega) (by omega)) rfl rfl rfl ?_
 refine go ?_
 generalize h1 : decide (er = s2.e1) = cc; cases cc
 ·rw [if_neg (show ¬ er = s2.e 1 from of_decide_eq_false h1)] at hE
  refine go ?_
  refine jE 12 [] rfl rfl (by kernel_rfl) (by kernel_rfl) (by kernel_rfl) ?_
  refine goQ ?_
  refine r_q (jA (jN8 l hL me 1 (by omega)) rfl (fun a w => Tryz.call125 a w) rfl) rfl rfl ?_
  refine goQ ?_
  refine cX (wS l me log s2 (qV l me 1) er hlen2 hl) (fun a w => Tryz.call116 a w) ?_ ?_ ?_ ?_
  ·rintro d bs ⟨x, s', _, _, _, rfl, rfl⟩; exact ⟨.inl rfl, .inl rfl, .inl rfl, trivial⟩
  ·rintro v bs ⟨a, s', _, rfl, rfl⟩; exact ⟨.inl rfl, .inl rfl, .inl rfl, trivial⟩
  ·rintro v bs ⟨a, s', h, rfl, rfl⟩
   refine gP ?_
   refine fP (jW l me log s') ?_
   exact ⟨a, s', by rw [← hE]; exact jI h, rfl, rfl⟩
  rintro d bs ⟨u, s3, hq3, hle3, hlen3, rfl, rfl⟩
  rw [jH hq3] at hE
  have hs3 := xE hq3
  refine go ?_
  refine a_q (jZ jB rfl rfl rfl rfl rfl (by omega) (by omega)) rfl rfl rfl ?_
  refine go ?_
  exact ⟨(k, { s3 with e1 := er }), ⟨by simp only; omega, by simp only; omega, by simp only; omega, hE⟩, by simp only; omega, zX⟩
 ·rw [if_pos (show er = s2.e 1 from of_decide_eq_true h1)] at hE
  refine go ?_
  first | refine fR (jW l me log s2) ?_ | refine fN (jW l me log s2) ?_
  exact ⟨_, s2, hE.symm, by omega, hlen2, rfl, rfl⟩
set_option maxHeartbeats 4000000 in
theorem guard2_x (l : jN) (hL : qJ l) (me : Int) (log : List jS) (s : PsT) (cell : Int) (hm : s.made ≤ log.length) (hl : log.length ≤ 1000000) : PmC 124 l me log s [.ptr 11 0, dI 2, dI cell] (jI6 l me 2 cell log s) (fun p => .tup [dI p.1, dI p.2]) := by
 generalize hE : jI6 l me 2 cell log s = E
 refine sX Tryz.func124 Tryz.ntmps124 fun w cl own kf => ?_
 refine go ?_
 refine jP (fun p : Nat × PsT => s.made ≤ p.2.made ∧ p.2.made ≤ log.length ∧ log.length - p.2.made < p.1 ∧ wF l me 2 cell p.1 log p.2 = E) (fun p => ⟨[(0, .ptr 11 0), (1, dI 2), (2, dI cell)], jW l me log p.2, []⟩) (fun p => p.1) (log.length + 1 - s.made, s) ⟨Nat.le_refl _, hm, by simp only; omega, hE⟩ (zX) ?_
 rintro ⟨k, t⟩ ⟨ht0, ht1, ht2, hE⟩
 simp only at ht0 ht1 ht2 hE
 obtain ⟨k, rfl⟩ : ∃ j, k = j + 1 := ⟨k - 1, by omega⟩
 refine (show AWP _ _ _ _ ⟨[(0, .ptr 11 0), (1, dI 2), (2, dI cell)], jW l me log t, []⟩ from ?_)
 rw [wF] at hE
 refine go ?_
 refine cX (uX l me log t cell ht1 hl) (fun a w => Tryz.call111 a w) ?_ ?_ ?_ ?_
 ·rintro d bs ⟨x, s', _, _, _, rfl, rfl⟩; exact ⟨.inl rfl, .inl rfl, .inl rfl, trivial⟩
 ·rintro v bs ⟨a, s', _, rfl, rfl⟩; exact ⟨.inl rfl, .inl rfl, .inl rfl, trivial⟩
 ·rintro v bs ⟨a, s', h, rfl, rfl⟩
  refine gP ?_
  refine fP (jW l me log s') ?_
  exact ⟨a, s', by rw [← hE]; exact jI h, rfl, rfl⟩
 rintro d bs ⟨v, s1, hq1, hle1, hlen1, rfl, rfl⟩
 rw [jH hq1, jH yA] at hE
 have hs1 := yP hq1
 refine go ?_
 refine a_q (qB (jD8 l me s1 (by omega)) rfl (fun a w => Tryz.call119 a w) rfl rfl) rfl rfl rfl ?_
 refine go ?_
 refine cX (uX l me log s1 l.era hlen1 hl) (fun a w => Tryz.call111 a w) ?_ ?_ ?_ ?_
 ·rintro d bs ⟨x, s', _, _, _, rfl, rfl⟩; exact ⟨.inl rfl, .inl rfl, .inl rfl, trivial⟩
 ·rintro v bs ⟨a, s', _, rfl, rfl⟩; exact ⟨.inl rfl, .inl rfl, .inl rfl, trivial⟩
 ·rintro v bs ⟨a, s', h, rfl, rfl⟩
  refine gP ?_
  refine fP (jW l me log s') ?_
  exact ⟨a, s', by rw [← hE]; exact jI h, rfl, rfl⟩
 rintro d bs ⟨er, s2, hq2, hle2, hlen2, rfl, rfl⟩
 rw [jH hq2] at hE
 have hs2 := yP hq2
 refine go ?_
 refine a_q (jZ jB rfl rfl rfl rfl rfl (by omega) (by omega)) rfl rfl rfl ?_
 refine go ?_
 generalize h1 : decide (er = s2.e2) = cc; cases cc
 ·rw [if_neg (show ¬ er = s2.e 2 from of_decide_eq_false h1)] at hE
  refine go ?_
  refine jE 12 [] rfl rfl (by kernel_rfl) (by kernel_rfl) (by kernel_rfl) ?_
  refine goQ ?_
  refine r_q (jA (jN8 l hL me 2 (by omega)) rfl (fun a w => Tryz.call125 a w) rfl) rfl rfl ?_
  refine goQ ?_
  refine cX (wS l me log s2 (qV l me 2) er hlen2 hl) (fun a w => Tryz.call116 a w) ?_ ?_ ?_ ?_
  ·rintro d bs ⟨x, s', _, _, _, rfl, rfl⟩; exact ⟨.inl rfl, .inl rfl, .inl rfl, trivial⟩
  ·rintro v bs ⟨a, s', _, rfl, rfl⟩; exact ⟨.inl rfl, .inl rfl, .inl rfl, trivial⟩
  ·rintro v bs ⟨a, s', h, rfl, rfl⟩
   refine gP ?_
   refine fP (jW l me log s') ?_
   exact ⟨a, s', by rw [← hE]; exact jI h, rfl, rfl⟩
  rintro d bs ⟨u, s3, hq3, hle3, hlen3, rfl, rfl⟩
  rw [jH hq3] at hE
  have hs3 := xE hq3
  refine go ?_
  refine a_q (jZ jB rfl rfl rfl rfl rfl (by omega) (by omega)) rfl rfl rfl ?_
  refine go ?_
  exact ⟨(k, { s3 with e2 := er }), ⟨by simp only; omega, by simp only; omega, by simp only; omega, hE⟩, by simp only; omega, zX⟩
 ·rw [if_pos (show er = s2.e 2 from of_decide_eq_true h1)] at hE
  refine go ?_
  first | refine fR (jW l me log s2) ?_ | refine fN (jW l me log s2) ?_
  exact ⟨_, s2, hE.symm, by omega, hlen2, rfl, rfl⟩
theorem guard_x (l : jN) (hL : qJ l) (me : Int) (log : List jS) (s : PsT) (i cell : Int) (hi : i = 0 ∨ i = 1 ∨ i = 2) (hm : s.made ≤ log.length) (hl : log.length ≤ 1000000) : PmC 124 l me log s [.ptr 11 0, dI i, dI cell] (jI6 l me i cell log s) (fun p => .tup [dI p.1, dI p.2]) := by
 rcases hi with rfl | rfl | rfl
 ·exact guard0_x l hL me log s cell hm hl
 ·exact guard1_x l hL me log s cell hm hl
 ·exact guard2_x l hL me log s cell hm hl
set_option maxHeartbeats 4000000 in
theorem jE0 (l : jN) (hL : qJ l) (me : Int) (log : List jS) (s : PsT) (hm : s.made ≤ log.length) (hl : log.length ≤ 1000000) : PmC 113 l me log s [.ptr 11 0] (jH0 l me log s) (fun _ => .tup []) := by
 generalize hE : jH0 l me log s = E
 unfold jH0 at hE
 refine sX Tryz.func113 Tryz.ntmps113 fun w cl own kf => ?_
 refine go ?_
 refine jP (fun p : Nat × PsT => p.1 ≤ 3 ∧ s.made ≤ p.2.made ∧ p.2.made ≤ log.length ∧ clrL l me p.1 ([s.e0, s.e1, s.e2].drop p.1) log p.2 = E) (fun p => ⟨[(8, dI p.1), (7, .agg [dI s.e0, dI s.e1, dI s.e2]), (0, .ptr 11 0)], jW l me log p.2, []⟩) (fun p => 3 - p.1) (0, s) ⟨by simp only; omega, Nat.le_refl _, hm, hE⟩ (zX) ?_
 rintro ⟨i, t⟩ ⟨hi, ht0, ht1, hE⟩
 simp only at hi ht0 ht1 hE
 rcases (show i = 0 ∨ i = 1 ∨ i = 2 ∨ i = 3 by omega) with rfl | rfl | rfl | rfl
 ·refine (show AWP _ _ _ _ ⟨[(8, dI 0), (7, .agg [dI s.e0, dI s.e1, dI s.e2]), (0, .ptr 11 0)], jW l me log t, []⟩ from ?_)
  have hE : (vR l me 0 s.e0).bind (fun _ => clrL l me 1 ([s.e0, s.e1, s.e2].drop 1)) log t = E := hE
  refine go ?_
  refine xQ (fun h1 => ?_) (fun h1 => ?_) <;> try rw [h1]
  ·refine go ?_
   refine a_q (jU0 jB (dI s.e0) rfl rfl rfl rfl rfl rfl (by omega) (by omega) rfl) rfl rfl rfl ?_
   refine go ?_
   generalize h2 : decide (s.e0 = 0) = cc; cases cc
   ·rw [vR, if_neg (of_decide_eq_false h2)] at hE
    refine go ?_
    refine jE 11 [] rfl rfl (by kernel_rfl) (by kernel_rfl) (by kernel_rfl) ?_
    refine goQ ?_
    refine r_q (jA (jN8 l hL me 0 (by omega)) rfl (fun a w => Tryz.call125 a w) rfl) rfl rfl ?_
    refine goQ ?_
    refine cX (wS l me log t (qV l me 0) 0 ht1 hl) (fun a w => Tryz.call116 a w) ?_ ?_ ?_ ?_
    ·rintro d bs ⟨x, s', _, _, _, rfl, rfl⟩; exact ⟨.inl rfl, .inl rfl, .inl rfl, trivial⟩
    ·rintro v bs ⟨a, s', _, rfl, rfl⟩; exact ⟨.inl rfl, .inl rfl, .inl rfl, trivial⟩
    ·rintro v bs ⟨a, s', h, rfl, rfl⟩
     refine gP ?_
     refine fP (jW l me log s') ?_
     exact ⟨a, s', by rw [← hE]; exact jI (jI h), rfl, rfl⟩
    rintro d bs ⟨u, s1, hq1, hle1, hlen1, rfl, rfl⟩
    have hE2 : clrL l me 1 ([s.e0, s.e1, s.e2].drop 1) log { s1 with e0 := 0 } = E := by rw [← hE]; exact (jH (f := fun _ => clrL l me 1 ([s.e0, s.e1, s.e2].drop 1)) (jH (f := fun _ => setE 0) hq1)).symm
    refine go ?_
    refine a_q (jZ jB rfl rfl rfl rfl rfl (by omega) (by omega)) rfl rfl rfl ?_
    refine go ?_
    exact ⟨(1, { s1 with e0 := 0 }), ⟨by simp only; omega, by simp only; omega, by simp only; omega, hE2⟩, by simp only; omega, zX⟩
   ·rw [vR, if_pos (of_decide_eq_true h2)] at hE
    refine go ?_
    exact ⟨(1, t), ⟨by simp only; omega, ht0, ht1, hE⟩, by simp only; omega, zX⟩
  ·exact absurd h1 (by decide)
 ·refine (show AWP _ _ _ _ ⟨[(8, dI 1), (7, .agg [dI s.e0, dI s.e1, dI s.e2]), (0, .ptr 11 0)], jW l me log t, []⟩ from ?_)
  have hE : (vR l me 1 s.e1).bind (fun _ => clrL l me 2 ([s.e0, s.e1, s.e2].drop 2)) log t = E := hE
  refine go ?_
  refine xQ (fun h1 => ?_) (fun h1 => ?_) <;> try rw [h1]
  ·refine go ?_
   refine a_q (jU0 jB (dI s.e1) rfl rfl rfl rfl rfl rfl (by omega) (by omega) rfl) rfl rfl rfl ?_
   refine go ?_
   generalize h2 : decide (s.e1 = 0) = cc; cases cc
   ·rw [vR, if_neg (of_decide_eq_false h2)] at hE
    refine go ?_
    refine jE 11 [] rfl rfl (by kernel_rfl) (by kernel_rfl) (by kernel_rfl) ?_
    refine goQ ?_
    refine r_q (jA (jN8 l hL me 1 (by omega)) rfl (fun a w => Tryz.call125 a w) rfl) rfl rfl ?_
    refine goQ ?_
    refine cX (wS l me log t (qV l me 1) 0 ht1 hl) (fun a w => Tryz.call116 a w) ?_ ?_ ?_ ?_
    ·rintro d bs ⟨x, s', _, _, _, rfl, rfl⟩; exact ⟨.inl rfl, .inl rfl, .inl rfl, trivial⟩
    ·rintro v bs ⟨a, s', _, rfl, rfl⟩; exact ⟨.inl rfl, .inl rfl, .inl rfl, trivial⟩
    ·rintro v bs ⟨a, s', h, rfl, rfl⟩
     refine gP ?_
     refine fP (jW l me log s') ?_
     exact ⟨a, s', by rw [← hE]; exact jI (jI h), rfl, rfl⟩
    rintro d bs ⟨u, s1, hq1, hle1, hlen1, rfl, rfl⟩
    have hE2 : clrL l me 2 ([s.e0, s.e1, s.e2].drop 2) log { s1 with e1 := 0 } = E := by rw [← hE]; exact (jH (f := fun _ => clrL l me 2 ([s.e0, s.e1, s.e2].drop 2)) (jH (f := fun _ => setE 1) hq1)).symm
    refine go ?_
    refine a_q (jZ jB rfl rfl rfl rfl rfl (by omega) (by omega)) rfl rfl rfl ?_
    refine go ?_
    exact ⟨(2, { s1 with e1 := 0 }), ⟨by simp only; omega, by simp only; omega, by simp only; omega, hE2⟩, by simp only; omega, zX⟩
   ·rw [vR, if_pos (of_decide_eq_true h2)] at hE
    refine go ?_
    exact ⟨(2, t), ⟨by simp only; omega, ht0, ht1, hE⟩, by simp only; omega, zX⟩
  ·exact absurd h1 (by decide)
 ·refine (show AWP _ _ _ _ ⟨[(8, dI 2), (7, .agg [dI s.e0, dI s.e1, dI s.e2]), (0, .ptr 11 0)], jW l me log t, []⟩ from ?_)
  have hE : (vR l me 2 s.e2).bind (fun _ => clrL l me 3 ([s.e0, s.e1, s.e2].drop 3)) log t = E := hE
  refine go ?_
  refine xQ (fun h1 => ?_) (fun h1 => ?_) <;> try rw [h1]
  ·refine go ?_
   refine a_q (jU0 jB (dI s.e2) rfl rfl rfl rfl rfl rfl (by omega) (by omega) rfl) rfl rfl rfl ?_
   refine go ?_
   generalize h2 : decide (s.e2 = 0) = cc; cases cc
   ·rw [vR, if_neg (of_decide_eq_false h2)] at hE
    refine go ?_
    refine jE 11 [] rfl rfl (by kernel_rfl) (by kernel_rfl) (by kernel_rfl) ?_
    refine goQ ?_
    refine r_q (jA (jN8 l hL me 2 (by omega)) rfl (fun a w => Tryz.call125 a w) rfl) rfl rfl ?_
    refine goQ ?_
    refine cX (wS l me log t (qV l me 2) 0 ht1 hl) (fun a w => Tryz.call116 a w) ?_ ?_ ?_ ?_
    ·rintro d bs ⟨x, s', _, _, _, rfl, rfl⟩; exact ⟨.inl rfl, .inl rfl, .inl rfl, trivial⟩
    ·rintro v bs ⟨a, s', _, rfl, rfl⟩; exact ⟨.inl rfl, .inl rfl, .inl rfl, trivial⟩
    ·rintro v bs ⟨a, s', h, rfl, rfl⟩
     refine gP ?_
     refine fP (jW l me log s') ?_
     exact ⟨a, s', by rw [← hE]; exact jI (jI h), rfl, rfl⟩
    rintro d bs ⟨u, s1, hq1, hle1, hlen1, rfl, rfl⟩
    have hE2 : clrL l me 3 ([s.e0, s.e1, s.e2].drop 3) log { s1 with e2 := 0 } = E := by rw [← hE]; exact (jH (f := fun _ => clrL l me 3 ([s.e0, s.e1, s.e2].drop 3)) (jH (f := fun _ => setE 2) hq1)).symm
    refine go ?_
    refine a_q (jZ jB rfl rfl rfl rfl rfl (by omega) (by omega)) rfl rfl rfl ?_
    refine go ?_
    exact ⟨(3, { s1 with e2 := 0 }), ⟨by simp only; omega, by simp only; omega, by simp only; omega, hE2⟩, by simp only; omega, zX⟩
   ·rw [vR, if_pos (of_decide_eq_true h2)] at hE
    refine go ?_
    exact ⟨(3, t), ⟨by simp only; omega, ht0, ht1, hE⟩, by simp only; omega, zX⟩
  ·exact absurd h1 (by decide)
 ·refine (show AWP _ _ _ _ ⟨[(8, dI 3), (7, .agg [dI s.e0, dI s.e1, dI s.e2]), (0, .ptr 11 0)], jW l me log t, []⟩ from ?_)
  refine go ?_
  refine xQ (fun h1 => ?_) (fun h1 => ?_) <;> try rw [h1]
  ·exact absurd h1 (by decide)
  ·refine go ?_
   first | refine fR (jW l me log t) ?_ | refine fN (jW l me log t) ?_
   exact ⟨(), t, hE.symm, ht0, ht1, rfl, rfl⟩
theorem jB7 (g : List (Int × Int)) (hg : g.length ≤ 100000) : FreshC Tryz.prog 71 [vG g] 87 2 g.length (vH g) := by
 have hlen : (vH g).length = g.length * 2 := by
  clear hg
  induction g with
  | nil => rfl
  | cons x g ih => unfold vH at ih ⊢; rw [List.flatMap_cons, List.length_append, ih]; simp [pPair]; omega
 refine kA4 Tryz.func71 rfl Tryz.ntmps71 rfl rfl rfl fun w cl => ?_
 refine go ?_
 refine a_nil jB rfl rfl rfl rfl rfl rfl rfl fun c hc => ?_
 cases c with
 | true =>
  have : g = [] := List.eq_nil_of_length_eq_zero (hc rfl)
  subst this
  refine go ?_
  exact finF_full rfl
 | false =>
  refine go ?_
  refine qW (xX 5 0 87 2 rfl rfl rfl) ?_
  refine go ?_
  refine qF jB rfl rfl rfl rfl rfl rfl rfl rfl rfl rfl rfl rfl hlen (by unfold maxLen; omega) (by show (_ + _) * 16 ≤ _; omega) ?_
  rw [Nat.zero_add, List.nil_append]
  refine go ?_
  exact kH5 rfl rfl
theorem clo90_c (r f g0 g1 : Int) : kA Tryz.prog 128 [dI r, .el [pI f], .el [pI g0, pI g1]] (dB (inB f g1 r)) := by
 refine jO jB Tryz.func128 rfl Tryz.ntmps128 rfl rfl rfl fun w cl => ?_
 refine go ?_
 generalize h1 : decide (f ≤ r) = cc; cases cc
 ·refine go ?_
  first | refine jF rfl ?_ | refine jC rfl ?_
  rw [inB, h1]; rfl
 ·refine go ?_
  refine a_q (kF1 jB rfl rfl rfl rfl rfl (by omega) (by omega) rfl) rfl rfl rfl ?_
  refine go ?_
  first | refine jF rfl ?_ | refine jC rfl ?_
  rw [inB, h1]; rfl
def jX9 (p : Int → Bool) : List Int → Nat → Int
 | [], _ => -1
 | r :: l, i => if p r then i else jX9 p l (i + 1)
theorem findF_any (p : Int → Bool) : ∀ (l : List Int) (i : Nat), decide (0 ≤ jX9 p l i) = l.any p
 | [], i => by simp [jX9]
 | r :: l, i => by
  rw [jX9, List.any_cons]
  cases h : p r
  ·simpa using findF_any p l (i + 1)
  ·simp
abbrev cloD (f g0 g1 : Int) : Dt := .fn (.func 128) [] [.el [pI f], .el [pI g0, pI g1]]
set_option maxHeartbeats 4000000 in
theorem idxfn_c (held : List Int) (hh : held.length ≤ 1000000) (f g0 g1 : Int) : kA Tryz.prog 129 [kK held, cloD f g0 g1] (dI (jX9 (inB f g1) held 0)) := by
 generalize hE : jX9 (inB f g1) held 0 = E
 refine jO jB Tryz.func129 rfl Tryz.ntmps129 rfl rfl rfl fun w cl => ?_
 refine go ?_
 refine jP (fun i : Nat => i ≤ held.length ∧ jX9 (inB f g1) (held.drop i) i = E) (fun i => ⟨[(8, dI i), (7, dI held.length), (6, kK held), (0, kK held), (1, cloD f g0 g1)], [], []⟩) (fun i => held.length - i) 0 ⟨Nat.zero_le _, hE⟩ (zX) ?_
 rintro i ⟨hi, hE⟩
 refine go ?_
 refine xQ (fun h1 => ?_) (fun h1 => ?_) <;> try rw [h1]
 ·have h1' := of_decide_eq_true h1
  have hil : i < held.length := by omega
  obtain ⟨x, hx⟩ := getI (l := held) (i := i) (by omega) h1'
  have hd : held.drop i = x :: held.drop (i + 1) := by
   rw [List.drop_eq_getElem_cons hil]
   simp only [Int.toNat_natCast] at hx
   rw [(List.getElem?_eq_some_iff.1 hx).2]
  rw [hd, jX9] at hE
  refine go ?_
  refine a_q (jG jB [pI x] rfl rfl rfl rfl rfl rfl (by first | omega | (simp; done) | (simp; omega)) (by first | omega | (simp; done) | (simp; omega)) (by first | (simp; done) | exact List.cons_ne_nil _ _) (qE hx)) rfl rfl rfl ?_
  refine go ?_
  refine a_q (kJ0 (clo90_c x f g0 g1) rfl (fun a w => Tryz.call128 a w) rfl rfl) rfl rfl rfl ?_
  refine go ?_
  generalize h2 : inB f g1 x = cc; cases cc
  ·rw [h2, if_neg (by decide)] at hE
   refine go ?_
   exact ⟨i + 1, ⟨by omega, hE⟩, by omega, zX⟩
  ·rw [h2, if_pos rfl] at hE
   refine go ?_
   first | refine jF rfl ?_ | refine jC rfl ?_
   rw [hE]
 ·have hil : held.length ≤ i := by have := of_decide_eq_false h1; omega
  rw [List.drop_of_length_le hil, jX9] at hE
  refine go ?_
  first | refine jF rfl ?_ | refine jC rfl ?_
  rw [← hE]
theorem contains_c (held : List Int) (hh : held.length ≤ 1000000) (f g0 g1 : Int) : kA Tryz.prog 127 [kK held, cloD f g0 g1] (dB (held.any (inB f g1))) := by
 refine jO jB Tryz.func127 rfl Tryz.ntmps127 rfl rfl rfl fun w cl => ?_
 refine go ?_
 refine a_q (jA (idxfn_c held hh f g0 g1) rfl (fun a w => Tryz.call129 a w) rfl) rfl rfl rfl ?_
 refine go ?_
 first | refine jF rfl ?_ | refine jC rfl ?_
 rw [← findF_any _ held 0]
end Go.Proofs.YtkkldicehapklaaGreat
