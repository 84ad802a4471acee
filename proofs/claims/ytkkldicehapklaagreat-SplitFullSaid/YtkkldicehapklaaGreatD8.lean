/- Retiring nodes: its walk, whole. -/
import Derived.Test.YtkkldicehapklaaGreatDC
namespace Go.Proofs.YtkkldicehapklaaGreat
open Go.RowKit
set_option maxRecDepth 100000
theorem pGone_len : ∀ g : List (Int × Int), (vH g).length = g.length * 2
 | [] => rfl
 | x :: g => by
  have ih := pGone_len g
  unfold vH at ih ⊢; rw [List.flatMap_cons, List.length_append, ih]; simp [pPair]; omega
theorem pGone_app (g : List (Int × Int)) (x : Int × Int) : vH (g ++ [x]) = vH g ++ [pI x.1, pI x.2] := by simp [vH, pPair]
theorem jZ4 {l : List (Int × Int)} {i : Int} {r : Int × Int} (h : l[i.toNat]? = some r) : ∀ (m : Nat) q, [pI r.1, pI r.2][m]? = some q → (vH l)[i.toNat * 2 + m]? = some q := kD2 (f := pPair) (fun _ => rfl) h
theorem jC4 (a : List Int) (x : Int) : kD a ++ [pI x] = kD (a ++ [x]) := by simp [kD]
def yK (g : List (Int × Int)) : Prop := ∀ p ∈ g, p.1 < 9223372036854775808
set_option maxHeartbeats 8000000 in
theorem retire_x (l : jN) (hL : qJ l) (me : Int) (log : List jS) (s : PsT) (n : Int) (hn : n < 9223372036854775808) (hgo : yK s.gone) (hgl : s.gone.length ≤ 10000) (hm : s.made ≤ log.length) (hl : log.length ≤ 1000000) : PmC 121 l me log s [.ptr 11 0, dI n] (wT l n log s) (fun _ => .tup []) := by
 have hse := hL.seats
 unfold uP at hse
 generalize hE : wT l n log s = E
 unfold wT at hE
 refine sX Tryz.func121 Tryz.ntmps121 fun w cl own kf => ?_
 refine go ?_
 refine cX (uX l me log s l.era hm hl) (fun a w => Tryz.call111 a w) ?_ ?_ ?_ ?_
 ·rintro d bs ⟨x, s', _, _, _, rfl, rfl⟩; exact ⟨.inl rfl, .inl rfl, .inl rfl, trivial⟩
 ·rintro v bs ⟨a, s', _, rfl, rfl⟩; exact ⟨.inl rfl, .inl rfl, .inl rfl, trivial⟩
 ·rintro v bs ⟨a, s', h, rfl, rfl⟩
  refine gP ?_
  refine fP (jW l me log s') ?_
  exact ⟨a, s', by rw [← hE]; exact jI h, rfl, rfl⟩
 rintro d bs ⟨er, s1, hq1, hle1, hlen1, rfl, rfl⟩
 rw [jH hq1] at hE
 have hs1 := qQ hq1
 refine go ?_
 refine jE 10 [] rfl rfl (by kernel_rfl) (by kernel_rfl) (by kernel_rfl) ?_
 refine goQ ?_
 refine vF (do_x l me log s1 ⟨4, l.era, 0, 1⟩ hlen1 hl) rfl (fun a w => Tryz.call108 a w) rfl rfl rfl (by (repeat (first | exact trivial | refine ⟨⟨rfl, rfl⟩, ?_⟩))) (by (repeat (first | exact trivial | refine ⟨.inr rfl, ?_⟩ | refine ⟨.inl rfl, ?_⟩))) rfl rfl rfl rfl ?_ ?_ ?_ ?_
 ·rintro d bs ⟨x, s', _, _, _, rfl, rfl⟩; exact ⟨.inl rfl, .inl rfl, .inl rfl, trivial⟩
 ·rintro v bs ⟨a, s', _, rfl, rfl⟩; exact ⟨.inl rfl, .inl rfl, .inl rfl, trivial⟩
 ·rintro v bs ⟨a, s', h, rfl, rfl⟩
  refine gP ?_
  refine fP (jW l me log s') ?_
  exact ⟨a, s', by rw [← hE]; exact jI h, rfl, rfl⟩
 rintro d bs ⟨dr, s2, hq2, hle2, hlen2, rfl, rfl⟩
 rw [jH hq2] at hE
 have hg2 : s2.gone = s.gone := by rw [(jL7 hq2).1, hs1.1]
 rw [hg2] at hE
 have hm2 : s.made ≤ s2.made := by omega
 clear hq1 hq2 hs1 hle1 hle2 hlen1
 refine go ?_
 refine a_callF 0 (jB7 s2.gone (by rw [hg2]; omega)) rfl (fun a w => Tryz.call71 a w) rfl rfl rfl rfl rfl (pGone_len _) ?_
 refine go ?_
 refine qF jB rfl rfl rfl rfl rfl rfl rfl rfl rfl rfl rfl rfl rfl (by rw [hg2]; unfold maxLen; omega) (by show (_ + _) * 16 ≤ _; rw [hg2]; omega) ?_
 refine goO ?_
 refine vJ ?_
 refine kP (uA 11 (cs' := pieceD l me { s2 with gone := s.gone ++ [(n, er)] }) rfl (by
  show List.map lowD _ = _
  have e : plGone (s.gone ++ [(n, er)]) = .sl false (s.gone.length + 1) (vH s.gone ++ [pI n, pI er]) := by rw [plGone, pGone_app, List.length_append]; rfl
  simp only [List.map, lowD, lowP, hg2, pieceD, vG]
  rw [e])) ?_
 generalize hgN : s.gone ++ [(n, er)] = gN at hE
 have hgNl : gN.length = s.gone.length + 1 := by rw [← hgN]; simp
 have hgNo : yK gN := by
  intro p hp
  rw [← hgN] at hp
  rcases List.mem_append.1 hp with hp | hp
  ·exact hgo p hp
  ·simp at hp; rw [hp]; exact hn
 have ew : IntKind.i64.wrap (2 * l.seats) = 2 * l.seats := yJ (by omega) (by omega)
 refine kP (σ' := ⟨[(0, .ptr 11 0)], jW l me log { s2 with gone := gN }, []⟩) (zX) ?_
 generalize hs3 : ({ s2 with gone := gN } : PsT) = s3 at hE ⊢
 have hlen3 : s3.made ≤ log.length := by rw [← hs3]; exact hlen2
 have hle3 : s.made ≤ s3.made := by rw [← hs3]; exact hm2
 have hg3 : s3.gone = gN := by rw [← hs3]
 refine go ?_
 refine jY [] rfl (by kernel_rfl) (by kernel_rfl) ?_
 refine goQ ?_
 rw [ew]
 refine goQ ?_
 refine go ?_
 rw [hg3]
 generalize h1 : decide ((gN.length : Int) < 2 * l.seats) = cc; cases cc
 ·have h1' := of_decide_eq_false h1
  rw [if_neg (by omega), scanM] at hE
  refine go ?_
  refine kP (xX 5 0 3 1 rfl rfl rfl) ?_
  refine jP (fun p : Nat × List Int × Nat × PsT => p.1 + p.2.2.1 = l.seats.toNat ∧ p.2.1.length = 3 * p.1 ∧ s.made ≤ p.2.2.2.made ∧ p.2.2.2.made ≤ log.length ∧ p.2.2.2.gone = gN ∧ (xA p.2.1 (jD0 l p.1 p.2.2.1)).bind (fun held => (uY l held gN []).bind fun stay => xY stay) log p.2.2.2 = E) (fun p => ⟨[(62, dI p.1), (61, dI l.seats), (5, .tip 0 p.2.1.length (kD p.2.1)), (0, .ptr 11 0)], jW l me log p.2.2.2, [(0, ⟨3, 1, p.2.1.length⟩)]⟩) (fun p => p.2.2.1) (0, [], l.seats.toNat, s3) ⟨by simp, rfl, hle3, hlen3, hg3, hE⟩ (zX) ?_
  rintro ⟨j, acc, m, t⟩ ⟨hj, hal, ht0, ht1, htg, hE⟩
  simp only at hj hal ht0 ht1 htg hE
  refine (show AWP _ _ _ _ ⟨[(62, dI j), (61, dI l.seats), (5, .tip 0 acc.length (kD acc)), (0, .ptr 11 0)], jW l me log t, [(0, ⟨3, 1, acc.length⟩)]⟩ from ?_)
  refine go ?_
  refine xQ (fun h2 => ?_) (fun h2 => ?_) <;> try rw [h2]
  ·have h2' := of_decide_eq_true h2
   obtain ⟨m, rfl⟩ : ∃ k, m = k + 1 := ⟨m - 1, by omega⟩
   rw [jD0] at hE
   refine go ?_
   refine jP (fun q : Nat × List Int × PsT => q.1 ≤ 3 ∧ q.2.1.length = 3 * j + q.1 ∧ s.made ≤ q.2.2.made ∧ q.2.2.made ≤ log.length ∧ q.2.2.gone = gN ∧ (xA q.2.1 (([qV l j 0, qV l j 1, qV l j 2].drop q.1) ++ jD0 l (j + 1) m)).bind (fun held => (uY l held gN []).bind fun stay => xY stay) log q.2.2 = E) (fun q => ⟨[(65, dI q.1), (62, dI j), (61, dI l.seats), (6, dI j), (5, .tip 0 q.2.1.length (kD q.2.1)), (0, .ptr 11 0)], jW l me log q.2.2, [(0, ⟨3, 1, q.2.1.length⟩)]⟩) (fun q => 3 - q.1) (0, acc, t) ⟨by simp only; omega, by simp only; omega, ht0, ht1, htg, hE⟩ (zX) ?_
   rintro ⟨i, ac, t⟩ ⟨hi, hacl, ht0, ht1, htg, hE⟩
   simp only at hi hacl ht0 ht1 htg hE
   rcases (show i = 0 ∨ i = 1 ∨ i = 2 ∨ i = 3 by omega) with rfl | rfl | rfl | rfl
   ·refine (show AWP _ _ _ _ ⟨[(65, dI 0), (62, dI j), (61, dI l.seats), (6, dI j), (5, .tip 0 ac.length (kD ac)), (0, .ptr 11 0)], jW l me log t, [(0, ⟨3, 1, ac.length⟩)]⟩ from ?_)
    have hE : ((yM (qV l j 0)).bind fun v => xA (ac ++ [v]) (([qV l j 0, qV l j 1, qV l j 2].drop 1) ++ jD0 l (j + 1) m)).bind (fun held => (uY l held gN []).bind fun stay => xY stay) log t = E := hE
    rw [jR] at hE
    refine go ?_
    refine xQ (fun h3 => ?_) (fun h3 => ?_) <;> try rw [h3]
    ·refine go ?_
     refine a_q (jA (jN8 l hL j 0 (by omega)) rfl (fun a w => Tryz.call125 a w) rfl) rfl rfl rfl ?_
     refine go ?_
     refine cX (uX l me log t (qV l j 0) ht1 hl) (fun a w => Tryz.call111 a w) ?_ ?_ ?_ ?_
     ·rintro d bs ⟨x, s', _, _, _, rfl, rfl⟩; exact ⟨.inl rfl, .inl rfl, .inl rfl, trivial⟩
     ·rintro v bs ⟨a, s', _, rfl, rfl⟩; exact ⟨.inl rfl, .inl rfl, .inl rfl, trivial⟩
     ·rintro v bs ⟨a, s', h, rfl, rfl⟩
      refine gP ?_
      refine fP (jW l me log s') ?_
      exact ⟨a, s', by rw [← hE]; exact jI h, rfl, rfl⟩
     rintro d bs ⟨v, s4, hq4, hle4, hlen4, rfl, rfl⟩
     rw [jH hq4] at hE
     have hg4 : s4.gone = gN := by rw [(qQ hq4).1]; exact htg
     refine go ?_
     refine qF jB rfl rfl rfl rfl rfl rfl rfl rfl rfl rfl rfl rfl rfl (by unfold maxLen; omega) (by show (_ + _) * 8 ≤ _; omega) ?_
     rw [jC4, show ac.length + 1 = (ac ++ [v]).length by simp]
     refine go ?_
     exact ⟨(1, ac ++ [v], s4), ⟨by simp only; omega, by simp only [List.length_append, List.length_cons, List.length_nil]; omega, by simp only; omega, hlen4, hg4, hE⟩, by simp only; omega, zX⟩
    ·exact absurd h3 (by decide)
   ·refine (show AWP _ _ _ _ ⟨[(65, dI 1), (62, dI j), (61, dI l.seats), (6, dI j), (5, .tip 0 ac.length (kD ac)), (0, .ptr 11 0)], jW l me log t, [(0, ⟨3, 1, ac.length⟩)]⟩ from ?_)
    have hE : ((yM (qV l j 1)).bind fun v => xA (ac ++ [v]) (([qV l j 0, qV l j 1, qV l j 2].drop 2) ++ jD0 l (j + 1) m)).bind (fun held => (uY l held gN []).bind fun stay => xY stay) log t = E := hE
    rw [jR] at hE
    refine go ?_
    refine xQ (fun h3 => ?_) (fun h3 => ?_) <;> try rw [h3]
    ·refine go ?_
     refine a_q (jA (jN8 l hL j 1 (by omega)) rfl (fun a w => Tryz.call125 a w) rfl) rfl rfl rfl ?_
     refine go ?_
     refine cX (uX l me log t (qV l j 1) ht1 hl) (fun a w => Tryz.call111 a w) ?_ ?_ ?_ ?_
     ·rintro d bs ⟨x, s', _, _, _, rfl, rfl⟩; exact ⟨.inl rfl, .inl rfl, .inl rfl, trivial⟩
     ·rintro v bs ⟨a, s', _, rfl, rfl⟩; exact ⟨.inl rfl, .inl rfl, .inl rfl, trivial⟩
     ·rintro v bs ⟨a, s', h, rfl, rfl⟩
      refine gP ?_
      refine fP (jW l me log s') ?_
      exact ⟨a, s', by rw [← hE]; exact jI h, rfl, rfl⟩
     rintro d bs ⟨v, s4, hq4, hle4, hlen4, rfl, rfl⟩
     rw [jH hq4] at hE
     have hg4 : s4.gone = gN := by rw [(qQ hq4).1]; exact htg
     refine go ?_
     refine qF jB rfl rfl rfl rfl rfl rfl rfl rfl rfl rfl rfl rfl rfl (by unfold maxLen; omega) (by show (_ + _) * 8 ≤ _; omega) ?_
     rw [jC4, show ac.length + 1 = (ac ++ [v]).length by simp]
     refine go ?_
     exact ⟨(2, ac ++ [v], s4), ⟨by simp only; omega, by simp only [List.length_append, List.length_cons, List.length_nil]; omega, by simp only; omega, hlen4, hg4, hE⟩, by simp only; omega, zX⟩
    ·exact absurd h3 (by decide)
   ·refine (show AWP _ _ _ _ ⟨[(65, dI 2), (62, dI j), (61, dI l.seats), (6, dI j), (5, .tip 0 ac.length (kD ac)), (0, .ptr 11 0)], jW l me log t, [(0, ⟨3, 1, ac.length⟩)]⟩ from ?_)
    have hE : ((yM (qV l j 2)).bind fun v => xA (ac ++ [v]) (([qV l j 0, qV l j 1, qV l j 2].drop 3) ++ jD0 l (j + 1) m)).bind (fun held => (uY l held gN []).bind fun stay => xY stay) log t = E := hE
    rw [jR] at hE
    refine go ?_
    refine xQ (fun h3 => ?_) (fun h3 => ?_) <;> try rw [h3]
    ·refine go ?_
     refine a_q (jA (jN8 l hL j 2 (by omega)) rfl (fun a w => Tryz.call125 a w) rfl) rfl rfl rfl ?_
     refine go ?_
     refine cX (uX l me log t (qV l j 2) ht1 hl) (fun a w => Tryz.call111 a w) ?_ ?_ ?_ ?_
     ·rintro d bs ⟨x, s', _, _, _, rfl, rfl⟩; exact ⟨.inl rfl, .inl rfl, .inl rfl, trivial⟩
     ·rintro v bs ⟨a, s', _, rfl, rfl⟩; exact ⟨.inl rfl, .inl rfl, .inl rfl, trivial⟩
     ·rintro v bs ⟨a, s', h, rfl, rfl⟩
      refine gP ?_
      refine fP (jW l me log s') ?_
      exact ⟨a, s', by rw [← hE]; exact jI h, rfl, rfl⟩
     rintro d bs ⟨v, s4, hq4, hle4, hlen4, rfl, rfl⟩
     rw [jH hq4] at hE
     have hg4 : s4.gone = gN := by rw [(qQ hq4).1]; exact htg
     refine go ?_
     refine qF jB rfl rfl rfl rfl rfl rfl rfl rfl rfl rfl rfl rfl rfl (by unfold maxLen; omega) (by show (_ + _) * 8 ≤ _; omega) ?_
     rw [jC4, show ac.length + 1 = (ac ++ [v]).length by simp]
     refine go ?_
     exact ⟨(3, ac ++ [v], s4), ⟨by simp only; omega, by simp only [List.length_append, List.length_cons, List.length_nil]; omega, by simp only; omega, hlen4, hg4, hE⟩, by simp only; omega, zX⟩
    ·exact absurd h3 (by decide)
   ·refine (show AWP _ _ _ _ ⟨[(65, dI 3), (62, dI j), (61, dI l.seats), (6, dI j), (5, .tip 0 ac.length (kD ac)), (0, .ptr 11 0)], jW l me log t, [(0, ⟨3, 1, ac.length⟩)]⟩ from ?_)
    refine go ?_
    refine xQ (fun h3 => ?_) (fun h3 => ?_) <;> try rw [h3]
    ·exact absurd h3 (by decide)
    ·refine go ?_
     exact ⟨(j + 1, ac, m, t), ⟨by simp only; omega, by simp only; omega, ht0, ht1, htg, hE⟩, by simp only; omega, zX⟩
  ·have h2' := of_decide_eq_false h2
   obtain rfl : m = 0 := by omega
   have hE : ((uY l acc gN []).bind fun stay => xY stay) log t = E := hE
   subst htg
   refine kP (kK6 5 (d' := kK acc) rfl rfl) ?_
   refine go ?_
   refine kP (xX 8 1 87 2 rfl rfl rfl) ?_
   refine jP (fun q : Nat × List (Int × Int) × PsT => q.1 ≤ t.gone.length ∧ q.2.1.length ≤ q.1 ∧ s.made ≤ q.2.2.made ∧ q.2.2.made ≤ log.length ∧ ((uY l acc (t.gone.drop q.1) q.2.1).bind fun stay => xY stay) log q.2.2 = E) (fun q => ⟨[(87, dI q.1), (86, dI t.gone.length), (85, vG t.gone), (8, .tip 1 q.2.1.length (vH q.2.1)), (5, kK acc), (0, .ptr 11 0)], jW l me log q.2.2, [(1, ⟨87, 2, q.2.1.length⟩)]⟩) (fun q => t.gone.length - q.1) (0, [], t) ⟨Nat.zero_le _, Nat.le_refl _, ht0, ht1, hE⟩ (zX) ?_
   rintro ⟨i, stay, u⟩ ⟨hi, hsl, hu0, hu1, hE⟩
   simp only at hi hsl hu0 hu1 hE
   refine (show AWP _ _ _ _ ⟨[(87, dI i), (86, dI t.gone.length), (85, vG t.gone), (8, .tip 1 stay.length (vH stay)), (5, kK acc), (0, .ptr 11 0)], jW l me log u, [(1, ⟨87, 2, stay.length⟩)]⟩ from ?_)
   refine go ?_
   refine xQ (fun h3 => ?_) (fun h3 => ?_) <;> try rw [h3]
   ·have h3' := of_decide_eq_true h3
    have hil : i < t.gone.length := by omega
    obtain ⟨gg, hgg⟩ := getI (l := t.gone) (i := i) (by omega) h3'
    have hgo1 := hgNo gg (List.mem_of_getElem? hgg)
    have hd : t.gone.drop i = gg :: t.gone.drop (i + 1) := by
     rw [List.drop_eq_getElem_cons hil]
     simp only [Int.toNat_natCast] at hgg
     rw [(List.getElem?_eq_some_iff.1 hgg).2]
    rw [hd, uY, jR] at hE
    refine go ?_
    refine a_q (jG jB [pI gg.1, pI gg.2] rfl rfl rfl rfl rfl rfl (by first | omega | (simp; done) | (simp; omega)) (by first | omega | (simp; done) | (simp; omega)) (by first | (simp; done) | exact List.cons_ne_nil _ _) (jZ4 hgg)) rfl rfl rfl ?_
    refine go ?_
    refine a_q (jZ jB rfl rfl rfl rfl rfl (by omega) (by omega)) rfl rfl rfl ?_
    refine go ?_
    refine a_q (qB (xP l hL me u gg.1 6 hgo1 (by omega)) rfl (fun a w => Tryz.call112 a w) rfl rfl) rfl rfl rfl ?_
    refine go ?_
    refine cX (uX l me log u (jQ l gg.1 6) hu1 hl) (fun a w => Tryz.call111 a w) ?_ ?_ ?_ ?_
    ·rintro d bs ⟨x, s', _, _, _, rfl, rfl⟩; exact ⟨.inl rfl, .inl rfl, .inl rfl, trivial⟩
    ·rintro v bs ⟨a, s', _, rfl, rfl⟩; exact ⟨.inl rfl, .inl rfl, .inl rfl, trivial⟩
    ·rintro v bs ⟨a, s', h, rfl, rfl⟩
     refine gP ?_
     refine fP (jW l me log s') ?_
     exact ⟨a, s', by rw [← hE]; exact jI h, rfl, rfl⟩
    rintro d bs ⟨bi, s5, hq5, hle5, hlen5, rfl, rfl⟩
    rw [jH hq5] at hE
    refine go ?_
    refine a_q (max_step rfl rfl rfl) rfl rfl rfl ?_
    refine (show zY _ _ _ _ _ ⟨(97, dI (max1 bi)) :: _, _, _⟩ from ?_)
    refine go ?_
    refine a_q (qB (contains_c acc (by omega) (max1 bi) gg.1 gg.2) rfl (fun a w => Tryz.call127 a w) rfl rfl) rfl rfl rfl ?_
    refine go ?_
    generalize h4 : acc.any (inB (max1 bi) gg.2) = cc; cases cc
    ·rw [h4, if_neg (by decide), jR] at hE
     refine go ?_
     refine a_q (jZ jB rfl rfl rfl rfl rfl (by omega) (by omega)) rfl rfl rfl ?_
     refine go ?_
     refine cX (give_x l hL me log s5 gg.1 hgo1 hlen5 hl) (fun a w => Tryz.call114 a w) ?_ ?_ ?_ ?_
     ·rintro d bs ⟨x, s', _, _, _, rfl, rfl⟩; exact ⟨.inl rfl, .inl rfl, .inl rfl, trivial⟩
     ·rintro v bs ⟨a, s', _, rfl, rfl⟩; exact ⟨.inl rfl, .inl rfl, .inl rfl, trivial⟩
     ·rintro v bs ⟨a, s', h, rfl, rfl⟩
      refine gP ?_
      refine fP (jW l me log s') ?_
      exact ⟨a, s', by rw [← hE]; exact jI h, rfl, rfl⟩
     rintro d bs ⟨uu, s6, hq6, hle6, hlen6, rfl, rfl⟩
     rw [jH hq6] at hE
     refine go ?_
     exact ⟨(i + 1, stay, s6), ⟨by simp only; omega, by simp only; omega, by simp only; omega, hlen6, hE⟩, by simp only; omega, zX⟩
    ·rw [h4, if_pos rfl] at hE
     refine go ?_
     refine qF jB rfl rfl rfl rfl rfl rfl rfl rfl rfl rfl rfl rfl rfl (by unfold maxLen; omega) (by show (_ + _) * 16 ≤ _; omega) ?_
     rw [← pGone_app stay gg, show stay.length + 1 = (stay ++ [gg]).length by simp]
     refine go ?_
     exact ⟨(i + 1, stay ++ [gg], s5), ⟨by simp only; omega, by simp only [List.length_append, List.length_cons, List.length_nil]; omega, by simp only; omega, hlen5, hE⟩, by simp only; omega, zX⟩
   ·have h3' := of_decide_eq_false h3
    rw [List.drop_of_length_le (by omega), uY] at hE
    have hE : (Except.ok ((), { u with gone := stay }) : Except AccT (Unit × PsT)) = E := hE
    refine kP (kK6 8 (d' := vG stay) rfl rfl) ?_
    refine go ?_
    first | refine fR (jW l me log { u with gone := stay }) ?_ | refine fN (jW l me log { u with gone := stay }) ?_
    exact ⟨(), { u with gone := stay }, hE.symm, hu0, hu1, rfl, rfl⟩
 ·have h1' := of_decide_eq_true h1
  rw [if_pos (by omega)] at hE
  refine go ?_
  first | refine fR (jW l me log s3) ?_ | refine fN (jW l me log s3) ?_
  exact ⟨(), s3, hE.symm, hle3, hlen3, rfl, rfl⟩
end Go.Proofs.YtkkldicehapklaaGreat
