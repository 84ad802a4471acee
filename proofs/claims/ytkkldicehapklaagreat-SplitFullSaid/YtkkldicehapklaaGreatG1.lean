/- A finding: its walk. -/
import Derived.Test.YtkkldicehapklaaGreatG0
import Derived.Test.YtkkldicehapklaaGreatDB
import Derived.Test.YtkkldicehapklaaGreatPB
namespace Go.Proofs.YtkkldicehapklaaGreat
open Go.RowKit
set_option maxRecDepth 100000
abbrev fndD (hd : Int) (f : vA) : List Dt := [.ptr 11 0, dB f.there, dI f.prev, dI f.cur, dI f.next, dI f.point, dI hd]
abbrev qK (l : jN) (me : Int) (log : List jS) (hd : Int) (f : vA) (s : PsT) : Bxs := [(11, pieceD l me s), (12, [.ptr 11 0]), (13, [dLog log]), (14, fndD hd f)]
structure FiG (log : List jS) (s s' : PsT) : Prop where
 made : s.made ≤ s'.made
 le : s'.made ≤ log.length
 ok : yK s'.gone
 len : s'.gone.length + s.made ≤ s.gone.length + s'.made
def FiR (l : jN) (me : Int) (log : List jS) (hd : Int) (s : PsT) (m : Except AccT (vA × PsT)) : Dt → Bxs → Prop := fun d bs => ∃ f s', m = .ok (f, s') ∧ FiG log s s' ∧ s.made < s'.made ∧ 0 ≤ f.cur ∧ f.cur < 65536 ∧ d = .tup [] ∧ bs = qK l me log hd f s'
def FiX (l : jN) (me : Int) (log : List jS) (hd : Int) (m : Except AccT (vA × PsT)) : Value → Bxs → Prop := fun x bs => ∃ a s' f, m = .error a ∧ x = jG4 a ∧ bs = qK l me log hd f s'
theorem FiG.same {log : List jS} {s t s1 : PsT} (h : FiG log s t) (hg : s1.gone = t.gone) (h1 : t.made ≤ s1.made) (h2 : s1.made ≤ log.length) : FiG log s s1 := by
 obtain ⟨a1, a2, a3, a4⟩ := h
 exact ⟨by omega, h2, by rw [hg]; exact a3, by rw [hg]; omega⟩
theorem putE_made3 (x : PsT) (i v : Int) : (x.putE i v).made = x.made := by
 unfold PsT.putE
 split
 ·rfl
 ·split <;> rfl
theorem kD6 {l : jN} {me i cell : Int} : ∀ {k : Nat} {log : List jS} {s s' : PsT} {p : Int × Int}, wF l me i cell k log s = .ok (p, s') → s.made ≤ s'.made ∧ (0 < k → s.made < s'.made)
 | 0, log, s, s', p, h => by cases h; exact ⟨Nat.le_refl _, fun h => absurd h (Nat.lt_irrefl _)⟩
 | k + 1, log, s, s', p, h => by
  rw [wF] at h
  cases h1 : yM cell log s with
  | error a => rw [jI h1] at h; cases h
  | ok q =>
   obtain ⟨v, s1⟩ := q
   rw [jH h1, jH yA] at h
   have g1 := yP h1
   cases h2 : yM l.era log s1 with
   | error a => rw [jI h2] at h; cases h
   | ok q =>
    obtain ⟨er, s2⟩ := q
    rw [jH h2] at h
    have g2 := yP h2
    split at h
    ·cases h; exact ⟨by omega, fun _ => by omega⟩
    ·cases h3 : yY (qV l me i) er log s2 with
     | error a => rw [jI h3] at h; cases h
     | ok q =>
      obtain ⟨u, s3⟩ := q
      rw [jH h3] at h
      have g3 := xE h3
      have g4 := (kD6 h).1
      rw [putE_made3] at g4
      exact ⟨by omega, fun _ => by omega⟩
theorem guardL_made {l : jN} {me i cell : Int} {log : List jS} {s s' : PsT} {p : Int × Int} (hm : s.made ≤ log.length) (h : jI6 l me i cell log s = .ok (p, s')) : s.made < s'.made := (kD6 h).2 (by omega)
theorem kL4 {l : jN} {held : List Int} : ∀ {gs stay : List (Int × Int)} {log : List jS} {s s' : PsT} {r : List (Int × Int)}, uY l held gs stay log s = .ok (r, s') → yK gs → yK stay → yK r
 | [], stay, log, s, s', r, h, _, h2 => by cases h; exact h2
 | g :: gs, stay, log, s, s', r, h, h1, h2 => by
  have h1' : yK gs := fun p hp => h1 p (List.mem_cons_of_mem _ hp)
  rw [uY] at h
  cases k1 : yM (jQ l g.1 6) log s with
  | error a => rw [jI k1] at h; cases h
  | ok q =>
   obtain ⟨b, s1⟩ := q
   rw [jH k1] at h
   split at h
   ·exact kL4 h h1' (fun p hp => by
     rw [List.mem_append, List.mem_singleton] at hp
     rcases hp with hp | rfl
     ·exact h2 p hp
     ·exact h1 _ (by simp))
   ·cases k2 : giveM l g.1 log s1 with
    | error a => rw [jI k2] at h; cases h
    | ok q =>
     obtain ⟨u, s2⟩ := q
     rw [jH k2] at h
     exact kL4 h h1' h2
theorem goneOk_snoc {g : List (Int × Int)} {n e : Int} (h : yK g) (hn : n < 9223372036854775808) : yK (g ++ [(n, e)]) := by
 intro p hp
 rw [List.mem_append, List.mem_singleton] at hp
 rcases hp with hp | rfl
 ·exact h p hp
 ·exact hn
theorem kM6 {l : jN} {n : Int} {log : List jS} {s s' : PsT} {u : Unit} (h : wT l n log s = .ok (u, s')) (hg : yK s.gone) (hn : n < 9223372036854775808) : yK s'.gone := by
 unfold wT at h
 cases h1 : yM l.era log s with
 | error a => rw [jI h1] at h; cases h
 | ok q =>
  obtain ⟨er, s1⟩ := q
  rw [jH h1] at h
  have g1 : s1.gone = s.gone := by rw [(qQ h1).1]
  cases h2 : doM ⟨4, l.era, 0, 1⟩ log s1 with
  | error a => rw [jI h2] at h; cases h
  | ok q =>
   obtain ⟨r, s2⟩ := q
   rw [jH h2] at h
   have g2 : s2.gone = s.gone := by rw [(jL7 h2).1]; exact g1
   have hq : yK (s2.gone ++ [(n, er)]) := by rw [g2]; exact goneOk_snoc hg hn
   split at h
   ·cases h; exact hq
   ·unfold scanM at h
    cases h3 : xA [] (jD0 l 0 l.seats.toNat) log { s2 with gone := s2.gone ++ [(n, er)] } with
    | error a => rw [jI h3] at h; cases h
    | ok q =>
     obtain ⟨held, s3⟩ := q
     rw [jH h3] at h
     cases h4 : uY l held (s2.gone ++ [(n, er)]) [] log s3 with
     | error a => rw [jI h4] at h; cases h
     | ok q =>
      obtain ⟨stay, s4⟩ := q
      rw [jH h4] at h
      unfold xY at h
      cases h
      exact kL4 h4 hq (fun p hp => by simp at hp)
theorem jC0 (n : Int) : kA Tryz.prog 117 [dI n] (dI (qG n)) := by
 refine jO jB Tryz.func117 rfl Tryz.ntmps117 rfl rfl rfl fun w cl => ?_
 refine go ?_
 refine a_q (jA (kC6 ⟨n, false, 0⟩) rfl (fun a w => Tryz.call47 a w) rfl) rfl rfl rfl ?_
 refine go ?_
 first | refine jF rfl ?_ | refine jC rfl ?_
 rfl
theorem marked_c (n : Int) : kA Tryz.prog 120 [dI n] (dI (wP n)) := by
 refine jO jB Tryz.func120 rfl Tryz.ntmps120 rfl rfl rfl fun w cl => ?_
 refine go ?_
 refine a_q (jA (kC6 ⟨n, true, 0⟩) rfl (fun a w => Tryz.call47 a w) rfl) rfl rfl rfl ?_
 refine go ?_
 first | refine jF rfl ?_ | refine jC rfl ?_
 rfl
set_option maxHeartbeats 16000000 in
theorem find_x (l : jN) (hL : qJ l) (me : Int) (log : List jS) (hd o : Int) (f0 : vA) (s : PsT) (hgo : yK s.gone) (hgl : s.gone.length + log.length ≤ 10000 + s.made) (hm : s.made ≤ log.length) (hl : log.length ≤ 1000000) :
  ImpX Tryz.prog 110 [11, 12, 13, 14] [.ptr 14 0, dI o] (qK l me log hd f0 s) (FiR l me log hd s (jT0 l me hd o log s)) (FiX l me log hd (jT0 l me hd o log s)) := by
 generalize hE : jT0 l me hd o log s = E
 unfold jT0 at hE
 refine sX Tryz.func110 Tryz.ntmps110 fun w cl own kf => ?_
 refine awp_jumps (l := 0) (fun p : Nat × vA × PsT => FiG log s p.2.2 ∧ 2 * (log.length - p.2.2.made) + 2 ≤ p.1 ∧ jI0 l me hd o p.1 none log p.2.2 = E) (fun p => ⟨[(0, .ptr 14 0), (1, dI o)], qK l me log hd p.2.1 p.2.2, []⟩) (fun p => p.1) (2 * (log.length - s.made) + 2, f0, s) ⟨⟨Nat.le_refl _, hm, hgo, Nat.le_refl _⟩, Nat.le_refl _, hE⟩ (zX) ?_
 rintro ⟨k, fd, t⟩ ⟨hG, hk, hE⟩
 simp only at hG hk hE
 obtain ⟨k, rfl⟩ : ∃ j, k = j + 1 := ⟨k - 1, by omega⟩
 refine (show AWP _ _ _ _ ⟨[(0, .ptr 14 0), (1, dI o)], qK l me log hd fd t, []⟩ from ?_)
 rw [jI0] at hE
 refine go ?_
 refine jB9 9 10 [] rfl rfl (by kernel_rfl) (by kernel_rfl) (by kernel_rfl) rfl rfl ?_
 refine goQ ?_
 refine cX (guard_x l hL me log t 0 hd (.inl rfl) hG.le hl) (fun a w => Tryz.call124 a w) ?_ ?_ ?_ ?_
 ·rintro d bs ⟨x, s', _, _, _, rfl, rfl⟩; exact ⟨.inl rfl, .inl rfl, .inl rfl, trivial⟩
 ·rintro v bs ⟨a, s', _, rfl, rfl⟩; exact ⟨.inl rfl, .inl rfl, .inl rfl, trivial⟩
 ·rintro v bs ⟨a, s', h, rfl, rfl⟩
  refine gP ?_
  refine fP (qK l me log hd fd s') ?_
  exact ⟨a, s', fd, by rw [← hE]; exact jI h, rfl, rfl⟩
 rintro d bs ⟨p, s1, hq1, hle1, hlen1, rfl, rfl⟩
 rw [jH hq1] at hE
 have hG1 := hG.same (jQ1 hq1) hle1 hlen1
 have hm1 := guardL_made hG.le hq1
 obtain ⟨w, told⟩ := p
 simp only at hE
 have hx1 := xT w
 refine goO ?_
 refine last_in rfl rfl ?_
 refine goQ ?_
 refine go ?_
 refine jE 11 [] rfl rfl (by kernel_rfl) (by kernel_rfl) (by kernel_rfl) ?_
 refine goQ ?_
 refine r_q (jA (of_c w) rfl (fun a w => Tryz.call28 a w) rfl) rfl rfl ?_
 refine goQ ?_
 refine go ?_
 refine jP (fun p : Nat × WalkT × Int × PsT => FiG log s p.2.2.2 ∧ s.made < p.2.2.2.made ∧ 2 * (log.length - p.2.2.2.made) + 1 ≤ p.1 ∧ p.1 ≤ k ∧ (p.2.1.a = 0 ∨ p.2.1.a = 1 ∨ p.2.1.a = 2) ∧ (p.2.1.b = 0 ∨ p.2.1.b = 1 ∨ p.2.1.b = 2) ∧ p.2.1.a ≠ p.2.1.b ∧ p.2.2.1 = 3 - p.2.1.a - p.2.1.b ∧ 0 ≤ p.2.1.cur ∧ p.2.1.cur < 65536 ∧ jI0 l me hd o p.1 (some p.2.1) log p.2.2.2 = E)
  (fun p => ⟨[(4, dI p.2.1.a), (5, dI p.2.1.b), (6, dI p.2.2.1), (0, .ptr 14 0), (1, dI o)], qK l me log hd ⟨false, p.2.1.prev, p.2.1.cur, 0, p.2.1.pt⟩ p.2.2.2, []⟩) (fun p => p.1) (k, ⟨0, 1, hd, (ofW w).idx, told⟩, 2, s1) ⟨hG1, by have := hG.made; simp only; omega, by simp only; omega, Nat.le_refl _, .inl rfl, .inr (.inl rfl), by simp, rfl, hx1.1, hx1.2, hE⟩ (zX) ?_
 rintro ⟨j, ⟨xa, xb, pv, cu, pt⟩, xc, t2⟩ ⟨hG2, hms, hj, hjk, ha, hb, hab, hc, hcu0, hcu1, hE⟩
 simp only at hG2 hms hj hjk ha hb hab hc hcu0 hcu1 hE
 obtain ⟨j, rfl⟩ : ∃ i, j = i + 1 := ⟨j - 1, by omega⟩
 rw [jI0] at hE
 simp only at hE
 rw [← hc] at hE
 refine (show AWP _ _ _ _ ⟨[(4, dI xa), (5, dI xb), (6, dI xc), (0, .ptr 14 0), (1, dI o)], qK l me log hd ⟨false, pv, cu, 0, pt⟩ t2, []⟩ from ?_)
 refine go ?_
 generalize h1 : decide (cu = 0) = cc; cases cc
 ·rw [if_neg (of_decide_eq_false h1)] at hE
  refine go ?_
  refine jB9 15 16 [] rfl rfl (by kernel_rfl) (by kernel_rfl) (by kernel_rfl) rfl rfl ?_
  refine goQ ?_
  refine r_q (qB (xP l hL me t2 cu 0 (by omega) (by omega)) rfl (fun a w => Tryz.call112 a w) rfl rfl) rfl rfl ?_
  refine goQ ?_
  refine cX (guard_x l hL me log t2 xb (jQ l cu 0) hb hG2.le hl) (fun a w => Tryz.call124 a w) ?_ ?_ ?_ ?_
  ·rintro d bs ⟨x, s', _, _, _, rfl, rfl⟩; exact ⟨.inl rfl, .inl rfl, .inl rfl, trivial⟩
  ·rintro v bs ⟨a, s', _, rfl, rfl⟩; exact ⟨.inl rfl, .inl rfl, .inl rfl, trivial⟩
  ·rintro v bs ⟨a, s', h, rfl, rfl⟩
   refine gP ?_
   refine fP (qK l me log hd ⟨false, pv, cu, 0, pt⟩ s') ?_
   exact ⟨a, s', _, by rw [← hE]; exact jI h, rfl, rfl⟩
  rintro d bs ⟨p, s2, hq2, hle2, hlen2, rfl, rfl⟩
  rw [jH hq2] at hE
  have hG3 := hG2.same (jQ1 hq2) hle2 hlen2
  obtain ⟨nw, tl⟩ := p
  simp only at hE
  refine goO ?_
  refine last_in rfl rfl ?_
  refine goQ ?_
  refine go ?_
  refine jE 9 [] rfl rfl (by kernel_rfl) (by kernel_rfl) (by kernel_rfl) ?_
  refine goQ ?_
  refine cX (uX l me log s2 pv hlen2 hl) (fun a w => Tryz.call111 a w) ?_ ?_ ?_ ?_
  ·rintro d bs ⟨x, s', _, _, _, rfl, rfl⟩; exact ⟨.inl rfl, .inl rfl, .inl rfl, trivial⟩
  ·rintro v bs ⟨a, s', _, rfl, rfl⟩; exact ⟨.inl rfl, .inl rfl, .inl rfl, trivial⟩
  ·rintro v bs ⟨a, s', h, rfl, rfl⟩
   refine gP ?_
   refine fP (qK l me log hd ⟨false, pv, cu, 0, pt⟩ s') ?_
   exact ⟨a, s', _, by rw [← hE]; exact jI h, rfl, rfl⟩
  rintro d bs ⟨seen, s3, hq3, hle3, hlen3, rfl, rfl⟩
  rw [jH hq3, jH yA] at hE
  have hG4 := hG3.same (by rw [(qQ hq3).1]) hle3 hlen3
  have hm3 := yP hq3
  refine go ?_
  refine a_q (qB (jD8 l me s3 (by omega)) rfl (fun a w => Tryz.call119 a w) rfl rfl) rfl rfl rfl ?_
  refine go ?_
  refine a_q (jA (jC0 cu) rfl (fun a w => Tryz.call117 a w) rfl) rfl rfl rfl ?_
  refine go ?_
  generalize h2 : decide (seen = qG cu) = cc; cases cc
  ·rw [if_neg (of_decide_eq_false h2)] at hE
   refine go ?_
   refine awp_goto ?_
   repeat (first | refine kE2 ?_ | refine jW0 ?_)
   refine q_jump ?_
   exact ⟨(j, ⟨false, pv, cu, 0, pt⟩, s3), ⟨hG4, by simp only; omega, hE⟩, by simp only; omega, zX⟩
  ·rw [if_pos (of_decide_eq_true h2)] at hE
   refine go ?_
   refine jE 14 [] rfl rfl (by kernel_rfl) (by kernel_rfl) (by kernel_rfl) ?_
   refine goQ ?_
   refine r_q (qB (xP l hL me s3 cu 1 (by omega) (by omega)) rfl (fun a w => Tryz.call112 a w) rfl rfl) rfl rfl ?_
   refine goQ ?_
   refine cX (uX l me log s3 (jQ l cu 1) hlen3 hl) (fun a w => Tryz.call111 a w) ?_ ?_ ?_ ?_
   ·rintro d bs ⟨x, s', _, _, _, rfl, rfl⟩; exact ⟨.inl rfl, .inl rfl, .inl rfl, trivial⟩
   ·rintro v bs ⟨a, s', _, rfl, rfl⟩; exact ⟨.inl rfl, .inl rfl, .inl rfl, trivial⟩
   ·rintro v bs ⟨a, s', h, rfl, rfl⟩
    refine gP ?_
    refine fP (qK l me log hd ⟨false, pv, cu, 0, pt⟩ s') ?_
    exact ⟨a, s', _, by rw [← hE]; exact jI h, rfl, rfl⟩
   rintro d bs ⟨order, s4, hq4, hle4, hlen4, rfl, rfl⟩
   rw [jH hq4] at hE
   have hG5 := hG4.same (by rw [(qQ hq4).1]) hle4 hlen4
   have hm4 := yP hq4
   have hxn := xT nw
   refine go ?_
   refine a_q (jA (of_c nw) rfl (fun a w => Tryz.call28 a w) rfl) rfl rfl rfl ?_
   refine go ?_
   generalize hmk : (ofW nw).mark = mk at *
   cases mk
   ·rw [if_neg (by decide)] at hE
    refine go ?_
    generalize h3 : decide (order < o) = cc; cases cc
    ·rw [if_neg (of_decide_eq_false h3)] at hE
     refine go ?_
     generalize h4 : decide (order = o) = cc; cases cc
     ·rw [if_neg (of_decide_eq_false h4)] at hE
      refine go ?_
      first | refine fR (qK l me log hd ⟨false, pv, cu, 0, (s3.made : Int) - 1⟩ s4) ?_ | refine fN (qK l me log hd ⟨false, pv, cu, 0, (s3.made : Int) - 1⟩ s4) ?_
      exact ⟨_, s4, hE.symm, hG5, by omega, hcu0, hcu1, rfl, rfl⟩
     ·rw [if_pos (of_decide_eq_true h4)] at hE
      refine go ?_
      first | refine fR (qK l me log hd ⟨true, pv, cu, nw, tl⟩ s4) ?_ | refine fN (qK l me log hd ⟨true, pv, cu, nw, tl⟩ s4) ?_
      exact ⟨_, s4, hE.symm, hG5, by omega, hcu0, hcu1, rfl, rfl⟩
    ·rw [if_pos (of_decide_eq_true h3)] at hE
     refine go ?_
     refine jY [14] rfl (by kernel_rfl) (by kernel_rfl) ?_
     refine goQ ?_
     refine r_ea jB rfl rfl rfl (by kernel_rfl) ?_
     refine goQ ?_
     refine r_ea jB rfl rfl rfl (by kernel_rfl) ?_
     refine goQ ?_
     refine r_q (qB (xP l hL me s4 cu 0 (by omega) (by omega)) rfl (fun a w => Tryz.call112 a w) rfl rfl) rfl rfl ?_
     refine goQ ?_
     refine wL ?_
     refine goQ ?_
     refine wL ?_
     refine goQ ?_
     refine go ?_
     exact ⟨(j, ⟨xb, xc, jQ l cu 0, (ofW nw).idx, tl⟩, xa, s4), ⟨hG5, by simp only; omega, by simp only; omega, by simp only; omega, hb, by simp only; omega, by simp only; omega, by simp only; omega, hxn.1, hxn.2, hE⟩, by simp only; omega, zX⟩
   ·rw [if_pos rfl] at hE
    refine go ?_
    refine jE 18 [] rfl rfl (by kernel_rfl) (by kernel_rfl) (by kernel_rfl) ?_
    refine goQ ?_
    refine r_q (jA (jC0 cu) rfl (fun a w => Tryz.call117 a w) rfl) rfl rfl ?_
    refine goQ ?_
    refine r_q (jA (jC0 (ofW nw).idx) rfl (fun a w => Tryz.call117 a w) rfl) rfl rfl ?_
    refine goQ ?_
    refine cX (cas_x l me log s4 pv (qG cu) (qG (ofW nw).idx) hlen4 hl) (fun a w => Tryz.call118 a w) ?_ ?_ ?_ ?_
    ·rintro d bs ⟨x, s', _, _, _, rfl, rfl⟩; exact ⟨.inl rfl, .inl rfl, .inl rfl, trivial⟩
    ·rintro v bs ⟨a, s', _, rfl, rfl⟩; exact ⟨.inl rfl, .inl rfl, .inl rfl, trivial⟩
    ·rintro v bs ⟨a, s', h, rfl, rfl⟩
     refine gP ?_
     refine fP (qK l me log hd ⟨false, pv, cu, 0, pt⟩ s') ?_
     exact ⟨a, s', _, by rw [← hE]; exact jI h, rfl, rfl⟩
    rintro d bs ⟨ok, s5, hq5, hle5, hlen5, rfl, rfl⟩
    rw [jH hq5] at hE
    have hG6 := hG5.same (by rw [(uU hq5).1]) hle5 hlen5
    have hm5 := jD6 hq5
    refine go ?_
    cases ok
    ·rw [if_neg (by decide)] at hE
     refine go ?_
     refine awp_goto ?_
     repeat (first | refine kE2 ?_ | refine jW0 ?_)
     refine q_jump ?_
     exact ⟨(j, ⟨false, pv, cu, 0, pt⟩, s5), ⟨hG6, by simp only; omega, hE⟩, by simp only; omega, zX⟩
    ·rw [if_pos rfl, jH yA] at hE
     refine go ?_
     refine a_q (qB (jD8 l me s5 (by omega)) rfl (fun a w => Tryz.call119 a w) rfl rfl) rfl rfl rfl ?_
     refine go ?_
     refine jE 9 [] rfl rfl (by kernel_rfl) (by kernel_rfl) (by kernel_rfl) ?_
     refine goQ ?_
     refine cX (retire_x l hL me log s5 cu (by omega) hG6.ok (by have := hG6.len; have := hG6.le; omega) hlen5 hl) (fun a w => Tryz.call121 a w) ?_ ?_ ?_ ?_
     ·rintro d bs ⟨x, s', _, _, _, rfl, rfl⟩; exact ⟨.inl rfl, .inl rfl, .inl rfl, trivial⟩
     ·rintro v bs ⟨a, s', _, rfl, rfl⟩; exact ⟨.inl rfl, .inl rfl, .inl rfl, trivial⟩
     ·rintro v bs ⟨a, s', h, rfl, rfl⟩
      refine gP ?_
      refine fP (qK l me log hd ⟨false, pv, cu, 0, (s5.made : Int) - 1⟩ s') ?_
      exact ⟨a, s', _, by rw [← hE]; exact jI h, rfl, rfl⟩
     rintro d bs ⟨u, s6, hq6, hle6, hlen6, rfl, rfl⟩
     rw [jH hq6] at hE
     have hG7 : FiG log s s6 := by
      have e1 := kE5 hq6
      have e2 : s5.gone = s4.gone := by rw [(uU hq5).1]
      rw [e2] at e1
      have := hG5.len
      have := hG6.made
      exact ⟨by omega, hlen6, kM6 hq6 hG6.ok (by omega), by omega⟩
     refine go ?_
     exact ⟨(j, ⟨xb, xa, pv, (ofW nw).idx, (s5.made : Int) - 1⟩, xc, s6), ⟨hG7, by simp only; omega, by simp only; omega, by simp only; omega, hb, ha, by simp only; omega, by simp only; omega, hxn.1, hxn.2, hE⟩, by simp only; omega, zX⟩
 ·rw [if_pos (of_decide_eq_true h1)] at hE
  have hcz : cu = 0 := of_decide_eq_true h1
  refine go ?_
  first | refine fR (qK l me log hd ⟨false, pv, cu, 0, pt⟩ t2) ?_ | refine fN (qK l me log hd ⟨false, pv, cu, 0, pt⟩ t2) ?_
  exact ⟨_, t2, by rw [← hE, hcz]; rfl, hG2, hms, hcu0, hcu1, rfl, rfl⟩
end Go.Proofs.YtkkldicehapklaaGreat
