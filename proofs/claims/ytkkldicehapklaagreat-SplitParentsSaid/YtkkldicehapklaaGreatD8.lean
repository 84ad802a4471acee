/- Retiring nodes: its walk, whole. -/
import Derived.Test.YtkkldicehapklaaGreatDC
namespace Go.Proofs.YtkkldicehapklaaGreat
open Go.RowKit
set_option maxRecDepth 100000

theorem pGone_len : ∀ g : List (Int × Int), (pGone g).length = g.length * 2
  | [] => rfl
  | x :: g => by
    have ih := pGone_len g
    unfold pGone at ih ⊢; rw [List.flatMap_cons, List.length_append, ih]; simp [pPair]; omega
theorem pGone_app (g : List (Int × Int)) (x : Int × Int) : pGone (g ++ [x]) = pGone g ++ [pI x.1, pI x.2] := by simp [pGone, pPair]
theorem gone_idx {l : List (Int × Int)} {i : Int} {r : Int × Int} (h : l[i.toNat]? = some r) : ∀ (m : Nat) q, [pI r.1, pI r.2][m]? = some q → (pGone l)[i.toNat * 2 + m]? = some q := flat2_idx (f := pPair) (fun _ => rfl) h
theorem pInts_snoc (a : List Int) (x : Int) : pInts a ++ [pI x] = pInts (a ++ [x]) := by simp [pInts]
def GoneOk (g : List (Int × Int)) : Prop := ∀ p ∈ g, p.1 < 9223372036854775808
set_option maxHeartbeats 8000000 in
theorem retire_x (l : LayT) (hL : LayOk l) (me : Int) (log : List ResT) (s : PsT) (n : Int) (hn : n < 9223372036854775808) (hgo : GoneOk s.gone) (hgl : s.gone.length ≤ 10000) (hm : s.made ≤ log.length) (hl : log.length ≤ 1000000) : PmC 121 l me log s [.ptr 11 0, dI n] (retireM l n log s) (fun _ => .tup []) := by
  have hse := hL.seats
  unfold smallB at hse
  generalize hE : retireM l n log s = E
  unfold retireM at hE
  refine sX Tryz.func121 Tryz.ntmps121 fun w cl own kf => ?_
  refine go ?_
  refine cX (load_x l me log s l.era hm hl) (fun a w => Tryz.call111 a w) ?_ ?_ ?_ ?_
  · rintro d bs ⟨x, s', _, _, _, rfl, rfl⟩; exact ⟨.inl rfl, .inl rfl, .inl rfl, trivial⟩
  · rintro v bs ⟨a, s', _, rfl, rfl⟩; exact ⟨.inl rfl, .inl rfl, .inl rfl, trivial⟩
  · rintro v bs ⟨a, s', h, rfl, rfl⟩
    refine gP ?_
    refine fP (pieceB l me log s') ?_
    exact ⟨a, s', by rw [← hE]; exact bind_err h, rfl, rfl⟩
  rintro d bs ⟨er, s1, hq1, hle1, hlen1, rfl, rfl⟩
  rw [bind_ok hq1] at hE
  have hs1 := loadM_gone hq1
  refine go ?_
  refine awp_region_w 10 [] rfl rfl (by kernel_rfl) (by kernel_rfl) (by kernel_rfl) ?_
  refine goQ ?_
  refine a_callvX (do_x l me log s1 ⟨4, l.era, 0, 1⟩ hlen1 hl) rfl (fun a w => Tryz.call108 a w) rfl rfl rfl (by (repeat (first | exact trivial | refine ⟨⟨rfl, rfl⟩, ?_⟩))) (by (repeat (first | exact trivial | refine ⟨.inr rfl, ?_⟩ | refine ⟨.inl rfl, ?_⟩))) rfl rfl rfl rfl ?_ ?_ ?_ ?_
  · rintro d bs ⟨x, s', _, _, _, rfl, rfl⟩; exact ⟨.inl rfl, .inl rfl, .inl rfl, trivial⟩
  · rintro v bs ⟨a, s', _, rfl, rfl⟩; exact ⟨.inl rfl, .inl rfl, .inl rfl, trivial⟩
  · rintro v bs ⟨a, s', h, rfl, rfl⟩
    refine gP ?_
    refine fP (pieceB l me log s') ?_
    exact ⟨a, s', by rw [← hE]; exact bind_err h, rfl, rfl⟩
  rintro d bs ⟨dr, s2, hq2, hle2, hlen2, rfl, rfl⟩
  rw [bind_ok hq2] at hE
  have hg2 : s2.gone = s.gone := by rw [(doM_gone hq2).1, hs1.1]
  rw [hg2] at hE
  have hm2 : s.made ≤ s2.made := by omega
  clear hq1 hq2 hs1 hle1 hle2 hlen1
  refine go ?_
  refine a_callF 0 (clone2_f s2.gone (by rw [hg2]; omega)) rfl (fun a w => Tryz.call71 a w) rfl rfl rfl rfl rfl (pGone_len _) ?_
  refine go ?_
  refine a_append tabOk rfl rfl rfl rfl rfl rfl rfl rfl rfl rfl rfl rfl rfl (by rw [hg2]; unfold maxLen; omega) (by show (_ + _) * 16 ≤ _; rw [hg2]; omega) ?_
  refine goO ?_
  refine q_then_normal ?_
  refine awp_ghost (lowB_ghost 11 (cs' := pieceD l me { s2 with gone := s.gone ++ [(n, er)] }) rfl (by
    show List.map lowD _ = _
    have e : plGone (s.gone ++ [(n, er)]) = .sl false (s.gone.length + 1) (pGone s.gone ++ [pI n, pI er]) := by rw [plGone, pGone_app, List.length_append]; rfl
    simp only [List.map, lowD, lowP, hg2, pieceD, dGone]
    rw [e])) ?_
  generalize hgN : s.gone ++ [(n, er)] = gN at hE
  have hgNl : gN.length = s.gone.length + 1 := by rw [← hgN]; simp
  have hgNo : GoneOk gN := by
    intro p hp
    rw [← hgN] at hp
    rcases List.mem_append.1 hp with hp | hp
    · exact hgo p hp
    · simp at hp; rw [hp]; exact hn
  have ew : IntKind.i64.wrap (2 * l.seats) = 2 * l.seats := wrap_id (by omega) (by omega)
  refine awp_ghost (σ' := ⟨[(0, .ptr 11 0)], pieceB l me log { s2 with gone := gN }, []⟩) (zX) ?_
  generalize hs3 : ({ s2 with gone := gN } : PsT) = s3 at hE ⊢
  have hlen3 : s3.made ≤ log.length := by rw [← hs3]; exact hlen2
  have hle3 : s.made ≤ s3.made := by rw [← hs3]; exact hm2
  have hg3 : s3.gone = gN := by rw [← hs3]
  refine go ?_
  refine awp_region_q [] rfl (by kernel_rfl) (by kernel_rfl) ?_
  refine goQ ?_
  rw [ew]
  refine goQ ?_
  refine go ?_
  rw [hg3]
  generalize h1 : decide ((gN.length : Int) < 2 * l.seats) = cc; cases cc
  · have h1' := of_decide_eq_false h1
    rw [if_neg (by omega), scanM] at hE
    refine go ?_
    refine awp_ghost (tip_ghost 5 0 3 1 rfl rfl rfl) ?_
    refine awp_loop_ok (fun p : Nat × List Int × Nat × PsT => p.1 + p.2.2.1 = l.seats.toNat ∧ p.2.1.length = 3 * p.1 ∧ s.made ≤ p.2.2.2.made ∧ p.2.2.2.made ≤ log.length ∧ p.2.2.2.gone = gN ∧ (loadAcc p.2.1 (resvsF l p.1 p.2.2.1)).bind (fun held => (siftL l held gN []).bind fun stay => setGone stay) log p.2.2.2 = E) (fun p => ⟨[(62, dI p.1), (61, dI l.seats), (5, .tip 0 p.2.1.length (pInts p.2.1)), (0, .ptr 11 0)], pieceB l me log p.2.2.2, [(0, ⟨3, 1, p.2.1.length⟩)]⟩) (fun p => p.2.2.1) (0, [], l.seats.toNat, s3) ⟨by simp, rfl, hle3, hlen3, hg3, hE⟩ (zX) ?_
    rintro ⟨j, acc, m, t⟩ ⟨hj, hal, ht0, ht1, htg, hE⟩
    simp only at hj hal ht0 ht1 htg hE
    refine (show AWP _ _ _ _ ⟨[(62, dI j), (61, dI l.seats), (5, .tip 0 acc.length (pInts acc)), (0, .ptr 11 0)], pieceB l me log t, [(0, ⟨3, 1, acc.length⟩)]⟩ from ?_)
    refine go ?_
    refine ck_b (fun h2 => ?_) (fun h2 => ?_) <;> try rw [h2]
    · have h2' := of_decide_eq_true h2
      obtain ⟨m, rfl⟩ : ∃ k, m = k + 1 := ⟨m - 1, by omega⟩
      rw [resvsF] at hE
      refine go ?_
      refine awp_loop_ok (fun q : Nat × List Int × PsT => q.1 ≤ 3 ∧ q.2.1.length = 3 * j + q.1 ∧ s.made ≤ q.2.2.made ∧ q.2.2.made ≤ log.length ∧ q.2.2.gone = gN ∧ (loadAcc q.2.1 (([resvF l j 0, resvF l j 1, resvF l j 2].drop q.1) ++ resvsF l (j + 1) m)).bind (fun held => (siftL l held gN []).bind fun stay => setGone stay) log q.2.2 = E) (fun q => ⟨[(65, dI q.1), (62, dI j), (61, dI l.seats), (6, dI j), (5, .tip 0 q.2.1.length (pInts q.2.1)), (0, .ptr 11 0)], pieceB l me log q.2.2, [(0, ⟨3, 1, q.2.1.length⟩)]⟩) (fun q => 3 - q.1) (0, acc, t) ⟨by simp only; omega, by simp only; omega, ht0, ht1, htg, hE⟩ (zX) ?_
      rintro ⟨i, ac, t⟩ ⟨hi, hacl, ht0, ht1, htg, hE⟩
      simp only at hi hacl ht0 ht1 htg hE
      rcases (show i = 0 ∨ i = 1 ∨ i = 2 ∨ i = 3 by omega) with rfl | rfl | rfl | rfl
      · refine (show AWP _ _ _ _ ⟨[(65, dI 0), (62, dI j), (61, dI l.seats), (6, dI j), (5, .tip 0 ac.length (pInts ac)), (0, .ptr 11 0)], pieceB l me log t, [(0, ⟨3, 1, ac.length⟩)]⟩ from ?_)
        have hE : ((loadM (resvF l j 0)).bind fun v => loadAcc (ac ++ [v]) (([resvF l j 0, resvF l j 1, resvF l j 2].drop 1) ++ resvsF l (j + 1) m)).bind (fun held => (siftL l held gN []).bind fun stay => setGone stay) log t = E := hE
        rw [bind_assoc] at hE
        refine go ?_
        refine ck_b (fun h3 => ?_) (fun h3 => ?_) <;> try rw [h3]
        · refine go ?_
          refine a_q (call_step (resv_c l hL j 0 (by omega)) rfl (fun a w => Tryz.call125 a w) rfl) rfl rfl rfl ?_
          refine go ?_
          refine cX (load_x l me log t (resvF l j 0) ht1 hl) (fun a w => Tryz.call111 a w) ?_ ?_ ?_ ?_
          · rintro d bs ⟨x, s', _, _, _, rfl, rfl⟩; exact ⟨.inl rfl, .inl rfl, .inl rfl, trivial⟩
          · rintro v bs ⟨a, s', _, rfl, rfl⟩; exact ⟨.inl rfl, .inl rfl, .inl rfl, trivial⟩
          · rintro v bs ⟨a, s', h, rfl, rfl⟩
            refine gP ?_
            refine fP (pieceB l me log s') ?_
            exact ⟨a, s', by rw [← hE]; exact bind_err h, rfl, rfl⟩
          rintro d bs ⟨v, s4, hq4, hle4, hlen4, rfl, rfl⟩
          rw [bind_ok hq4] at hE
          have hg4 : s4.gone = gN := by rw [(loadM_gone hq4).1]; exact htg
          refine go ?_
          refine a_append tabOk rfl rfl rfl rfl rfl rfl rfl rfl rfl rfl rfl rfl rfl (by unfold maxLen; omega) (by show (_ + _) * 8 ≤ _; omega) ?_
          rw [pInts_snoc, show ac.length + 1 = (ac ++ [v]).length by simp]
          refine go ?_
          exact ⟨(1, ac ++ [v], s4), ⟨by simp only; omega, by simp only [List.length_append, List.length_cons, List.length_nil]; omega, by simp only; omega, hlen4, hg4, hE⟩, by simp only; omega, zX⟩
        · exact absurd h3 (by decide)
      · refine (show AWP _ _ _ _ ⟨[(65, dI 1), (62, dI j), (61, dI l.seats), (6, dI j), (5, .tip 0 ac.length (pInts ac)), (0, .ptr 11 0)], pieceB l me log t, [(0, ⟨3, 1, ac.length⟩)]⟩ from ?_)
        have hE : ((loadM (resvF l j 1)).bind fun v => loadAcc (ac ++ [v]) (([resvF l j 0, resvF l j 1, resvF l j 2].drop 2) ++ resvsF l (j + 1) m)).bind (fun held => (siftL l held gN []).bind fun stay => setGone stay) log t = E := hE
        rw [bind_assoc] at hE
        refine go ?_
        refine ck_b (fun h3 => ?_) (fun h3 => ?_) <;> try rw [h3]
        · refine go ?_
          refine a_q (call_step (resv_c l hL j 1 (by omega)) rfl (fun a w => Tryz.call125 a w) rfl) rfl rfl rfl ?_
          refine go ?_
          refine cX (load_x l me log t (resvF l j 1) ht1 hl) (fun a w => Tryz.call111 a w) ?_ ?_ ?_ ?_
          · rintro d bs ⟨x, s', _, _, _, rfl, rfl⟩; exact ⟨.inl rfl, .inl rfl, .inl rfl, trivial⟩
          · rintro v bs ⟨a, s', _, rfl, rfl⟩; exact ⟨.inl rfl, .inl rfl, .inl rfl, trivial⟩
          · rintro v bs ⟨a, s', h, rfl, rfl⟩
            refine gP ?_
            refine fP (pieceB l me log s') ?_
            exact ⟨a, s', by rw [← hE]; exact bind_err h, rfl, rfl⟩
          rintro d bs ⟨v, s4, hq4, hle4, hlen4, rfl, rfl⟩
          rw [bind_ok hq4] at hE
          have hg4 : s4.gone = gN := by rw [(loadM_gone hq4).1]; exact htg
          refine go ?_
          refine a_append tabOk rfl rfl rfl rfl rfl rfl rfl rfl rfl rfl rfl rfl rfl (by unfold maxLen; omega) (by show (_ + _) * 8 ≤ _; omega) ?_
          rw [pInts_snoc, show ac.length + 1 = (ac ++ [v]).length by simp]
          refine go ?_
          exact ⟨(2, ac ++ [v], s4), ⟨by simp only; omega, by simp only [List.length_append, List.length_cons, List.length_nil]; omega, by simp only; omega, hlen4, hg4, hE⟩, by simp only; omega, zX⟩
        · exact absurd h3 (by decide)
      · refine (show AWP _ _ _ _ ⟨[(65, dI 2), (62, dI j), (61, dI l.seats), (6, dI j), (5, .tip 0 ac.length (pInts ac)), (0, .ptr 11 0)], pieceB l me log t, [(0, ⟨3, 1, ac.length⟩)]⟩ from ?_)
        have hE : ((loadM (resvF l j 2)).bind fun v => loadAcc (ac ++ [v]) (([resvF l j 0, resvF l j 1, resvF l j 2].drop 3) ++ resvsF l (j + 1) m)).bind (fun held => (siftL l held gN []).bind fun stay => setGone stay) log t = E := hE
        rw [bind_assoc] at hE
        refine go ?_
        refine ck_b (fun h3 => ?_) (fun h3 => ?_) <;> try rw [h3]
        · refine go ?_
          refine a_q (call_step (resv_c l hL j 2 (by omega)) rfl (fun a w => Tryz.call125 a w) rfl) rfl rfl rfl ?_
          refine go ?_
          refine cX (load_x l me log t (resvF l j 2) ht1 hl) (fun a w => Tryz.call111 a w) ?_ ?_ ?_ ?_
          · rintro d bs ⟨x, s', _, _, _, rfl, rfl⟩; exact ⟨.inl rfl, .inl rfl, .inl rfl, trivial⟩
          · rintro v bs ⟨a, s', _, rfl, rfl⟩; exact ⟨.inl rfl, .inl rfl, .inl rfl, trivial⟩
          · rintro v bs ⟨a, s', h, rfl, rfl⟩
            refine gP ?_
            refine fP (pieceB l me log s') ?_
            exact ⟨a, s', by rw [← hE]; exact bind_err h, rfl, rfl⟩
          rintro d bs ⟨v, s4, hq4, hle4, hlen4, rfl, rfl⟩
          rw [bind_ok hq4] at hE
          have hg4 : s4.gone = gN := by rw [(loadM_gone hq4).1]; exact htg
          refine go ?_
          refine a_append tabOk rfl rfl rfl rfl rfl rfl rfl rfl rfl rfl rfl rfl rfl (by unfold maxLen; omega) (by show (_ + _) * 8 ≤ _; omega) ?_
          rw [pInts_snoc, show ac.length + 1 = (ac ++ [v]).length by simp]
          refine go ?_
          exact ⟨(3, ac ++ [v], s4), ⟨by simp only; omega, by simp only [List.length_append, List.length_cons, List.length_nil]; omega, by simp only; omega, hlen4, hg4, hE⟩, by simp only; omega, zX⟩
        · exact absurd h3 (by decide)
      · refine (show AWP _ _ _ _ ⟨[(65, dI 3), (62, dI j), (61, dI l.seats), (6, dI j), (5, .tip 0 ac.length (pInts ac)), (0, .ptr 11 0)], pieceB l me log t, [(0, ⟨3, 1, ac.length⟩)]⟩ from ?_)
        refine go ?_
        refine ck_b (fun h3 => ?_) (fun h3 => ?_) <;> try rw [h3]
        · exact absurd h3 (by decide)
        · refine go ?_
          exact ⟨(j + 1, ac, m, t), ⟨by simp only; omega, by simp only; omega, ht0, ht1, htg, hE⟩, by simp only; omega, zX⟩
    · have h2' := of_decide_eq_false h2
      obtain rfl : m = 0 := by omega
      have hE : ((siftL l acc gN []).bind fun stay => setGone stay) log t = E := hE
      subst htg
      refine awp_ghost (lowS_ghost 5 (d' := dInts acc) rfl rfl) ?_
      refine go ?_
      refine awp_ghost (tip_ghost 8 1 87 2 rfl rfl rfl) ?_
      refine awp_loop_ok (fun q : Nat × List (Int × Int) × PsT => q.1 ≤ t.gone.length ∧ q.2.1.length ≤ q.1 ∧ s.made ≤ q.2.2.made ∧ q.2.2.made ≤ log.length ∧ ((siftL l acc (t.gone.drop q.1) q.2.1).bind fun stay => setGone stay) log q.2.2 = E) (fun q => ⟨[(87, dI q.1), (86, dI t.gone.length), (85, dGone t.gone), (8, .tip 1 q.2.1.length (pGone q.2.1)), (5, dInts acc), (0, .ptr 11 0)], pieceB l me log q.2.2, [(1, ⟨87, 2, q.2.1.length⟩)]⟩) (fun q => t.gone.length - q.1) (0, [], t) ⟨Nat.zero_le _, Nat.le_refl _, ht0, ht1, hE⟩ (zX) ?_
      rintro ⟨i, stay, u⟩ ⟨hi, hsl, hu0, hu1, hE⟩
      simp only at hi hsl hu0 hu1 hE
      refine (show AWP _ _ _ _ ⟨[(87, dI i), (86, dI t.gone.length), (85, dGone t.gone), (8, .tip 1 stay.length (pGone stay)), (5, dInts acc), (0, .ptr 11 0)], pieceB l me log u, [(1, ⟨87, 2, stay.length⟩)]⟩ from ?_)
      refine go ?_
      refine ck_b (fun h3 => ?_) (fun h3 => ?_) <;> try rw [h3]
      · have h3' := of_decide_eq_true h3
        have hil : i < t.gone.length := by omega
        obtain ⟨gg, hgg⟩ := getI (l := t.gone) (i := i) (by omega) h3'
        have hgo1 := hgNo gg (List.mem_of_getElem? hgg)
        have hd : t.gone.drop i = gg :: t.gone.drop (i + 1) := by
          rw [List.drop_eq_getElem_cons hil]
          simp only [Int.toNat_natCast] at hgg
          rw [(List.getElem?_eq_some_iff.1 hgg).2]
        rw [hd, siftL, bind_assoc] at hE
        refine go ?_
        refine a_q (indexAddr_step tabOk [pI gg.1, pI gg.2] rfl rfl rfl rfl rfl rfl (by first | omega | (simp; done) | (simp; omega)) (by first | omega | (simp; done) | (simp; omega)) (by first | (simp; done) | exact List.cons_ne_nil _ _) (gone_idx hgg)) rfl rfl rfl ?_
        refine go ?_
        refine a_q (indexAddrP_step tabOk rfl rfl rfl rfl rfl (by omega) (by omega)) rfl rfl rfl ?_
        refine go ?_
        refine a_q (lend_step (pnode_c l hL me u gg.1 6 hgo1 (by omega)) rfl (fun a w => Tryz.call112 a w) rfl rfl) rfl rfl rfl ?_
        refine go ?_
        refine cX (load_x l me log u (nodeF l gg.1 6) hu1 hl) (fun a w => Tryz.call111 a w) ?_ ?_ ?_ ?_
        · rintro d bs ⟨x, s', _, _, _, rfl, rfl⟩; exact ⟨.inl rfl, .inl rfl, .inl rfl, trivial⟩
        · rintro v bs ⟨a, s', _, rfl, rfl⟩; exact ⟨.inl rfl, .inl rfl, .inl rfl, trivial⟩
        · rintro v bs ⟨a, s', h, rfl, rfl⟩
          refine gP ?_
          refine fP (pieceB l me log s') ?_
          exact ⟨a, s', by rw [← hE]; exact bind_err h, rfl, rfl⟩
        rintro d bs ⟨bi, s5, hq5, hle5, hlen5, rfl, rfl⟩
        rw [bind_ok hq5] at hE
        refine go ?_
        refine a_q (max_step rfl rfl rfl) rfl rfl rfl ?_
        refine (show AOps _ _ _ _ _ ⟨(97, dI (max1 bi)) :: _, _, _⟩ from ?_)
        refine go ?_
        refine a_q (lend_step (contains_c acc (by omega) (max1 bi) gg.1 gg.2) rfl (fun a w => Tryz.call127 a w) rfl rfl) rfl rfl rfl ?_
        refine go ?_
        generalize h4 : acc.any (inB (max1 bi) gg.2) = cc; cases cc
        · rw [h4, if_neg (by decide), bind_assoc] at hE
          refine go ?_
          refine a_q (indexAddrP_step tabOk rfl rfl rfl rfl rfl (by omega) (by omega)) rfl rfl rfl ?_
          refine go ?_
          refine cX (give_x l hL me log s5 gg.1 hgo1 hlen5 hl) (fun a w => Tryz.call114 a w) ?_ ?_ ?_ ?_
          · rintro d bs ⟨x, s', _, _, _, rfl, rfl⟩; exact ⟨.inl rfl, .inl rfl, .inl rfl, trivial⟩
          · rintro v bs ⟨a, s', _, rfl, rfl⟩; exact ⟨.inl rfl, .inl rfl, .inl rfl, trivial⟩
          · rintro v bs ⟨a, s', h, rfl, rfl⟩
            refine gP ?_
            refine fP (pieceB l me log s') ?_
            exact ⟨a, s', by rw [← hE]; exact bind_err h, rfl, rfl⟩
          rintro d bs ⟨uu, s6, hq6, hle6, hlen6, rfl, rfl⟩
          rw [bind_ok hq6] at hE
          refine go ?_
          exact ⟨(i + 1, stay, s6), ⟨by simp only; omega, by simp only; omega, by simp only; omega, hlen6, hE⟩, by simp only; omega, zX⟩
        · rw [h4, if_pos rfl] at hE
          refine go ?_
          refine a_append tabOk rfl rfl rfl rfl rfl rfl rfl rfl rfl rfl rfl rfl rfl (by unfold maxLen; omega) (by show (_ + _) * 16 ≤ _; omega) ?_
          rw [← pGone_app stay gg, show stay.length + 1 = (stay ++ [gg]).length by simp]
          refine go ?_
          exact ⟨(i + 1, stay ++ [gg], s5), ⟨by simp only; omega, by simp only [List.length_append, List.length_cons, List.length_nil]; omega, by simp only; omega, hlen5, hE⟩, by simp only; omega, zX⟩
      · have h3' := of_decide_eq_false h3
        rw [List.drop_of_length_le (by omega), siftL] at hE
        have hE : (Except.ok ((), { u with gone := stay }) : Except AccT (Unit × PsT)) = E := hE
        refine awp_ghost (lowS_ghost 8 (d' := dGone stay) rfl rfl) ?_
        refine go ?_
        first | refine fR (pieceB l me log { u with gone := stay }) ?_ | refine fN (pieceB l me log { u with gone := stay }) ?_
        exact ⟨(), { u with gone := stay }, hE.symm, hu0, hu1, rfl, rfl⟩
  · have h1' := of_decide_eq_true h1
    rw [if_pos (by omega)] at hE
    refine go ?_
    first | refine fR (pieceB l me log s3) ?_ | refine fN (pieceB l me log s3) ?_
    exact ⟨(), s3, hE.symm, hle3, hlen3, rfl, rfl⟩
end Go.Proofs.YtkkldicehapklaaGreat
