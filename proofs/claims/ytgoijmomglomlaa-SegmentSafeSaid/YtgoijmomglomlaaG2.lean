/- Attempts to send: their walk. -/
import Derived.Test.YtgoijmomglomlaaG1
namespace Go.Proofs.Ytgoijmomglomlaa
open Go.RowKit
set_option maxRecDepth 100000

theorem takeL_nn {l : LayT} : ∀ {k : Nat} {log : List ResT} {s s' : PsT} {p : Int × Int × Bool}, takeL l k log s = .ok (p, s') → 0 ≤ p.1
  | 0, log, s, s', p, h => by cases h; simp
  | k + 1, log, s, s', p, h => by
    rw [takeL] at h
    cases h1 : loadM l.free log s with
    | error a => rw [bind_err h1] at h; cases h
    | ok q =>
      obtain ⟨fr, s1⟩ := q
      rw [bind_ok h1] at h
      split at h
      · rw [bind_ok last_ok] at h; cases h; simp
      · cases h2 : loadM (nodeF l (ofW fr).idx 7) log s1 with
        | error a => rw [bind_err h2] at h; cases h
        | ok q =>
          obtain ⟨lk, s2⟩ := q
          rw [bind_ok h2] at h
          cases h3 : casM l.free fr (packW (turnW (ofW fr) lk)) log s2 with
          | error a => rw [bind_err h3] at h; cases h
          | ok q =>
            obtain ⟨ok, s3⟩ := q
            rw [bind_ok h3] at h
            split at h
            · rw [bind_ok last_ok] at h
              cases h4 : loadM l.era log s3 with
              | error a => rw [bind_err h4] at h; cases h
              | ok q =>
                obtain ⟨bi, s4⟩ := q
                rw [bind_ok h4] at h
                cases h5 : storeM (nodeF l (ofW fr).idx 6) bi log s4 with
                | error a => rw [bind_err h5] at h; cases h
                | ok q =>
                  obtain ⟨u, s5⟩ := q
                  rw [bind_ok h5] at h
                  cases h
                  exact (ofW_idx fr).1
            · exact takeL_nn h
set_option maxHeartbeats 8000000 in
theorem sendA_x (l : LayT) (hL : LayOk l) (me : Int) (log : List ResT) (s : PsT) (tl v mine : Int) (hv0 : 0 ≤ v) (hv1 : v < 4294967296) (hm0 : 0 ≤ mine) (hm1 : mine < 65536) (hm : s.made ≤ log.length) (hl : log.length ≤ 1000000) :
    ImpX Try.prog 81 [11, 12, 13, 14, 15, 16, 17] [.ptr 14 0, .ptr 15 0, .ptr 16 0, .ptr 17 0] (sendB l me log tl v mine s) (SaR l me log tl v s (attS l me tl v mine log s)) (SaX l me log tl v (attS l me tl v mine log s)) := by
  generalize hE : attS l me tl v mine log s = E
  unfold attS at hE
  refine impX_fin tabOk Try.func81 rfl Try.ntmps81 rfl rfl rfl (by (repeat (first | exact trivial | refine ⟨rfl, ?_⟩))) fun w cl own kf => ?_
  refine go ?_
  refine a_callX (guard_x l hL me log s tl hm hl) rfl (fun a w => Try.call82 a w) rfl rfl (by (repeat (first | exact trivial | refine ⟨⟨rfl, rfl⟩, ?_⟩))) (by (repeat (first | exact trivial | refine ⟨.inr rfl, ?_⟩ | refine ⟨.inl rfl, ?_⟩))) rfl rfl rfl rfl ?_ ?_ ?_ ?_
  · rintro d bs ⟨x, s', _, _, _, rfl, rfl⟩; exact ⟨.inl rfl, .inl rfl, .inl rfl, trivial⟩
  · rintro v bs ⟨a, s', _, rfl, rfl⟩; exact ⟨.inl rfl, .inl rfl, .inl rfl, trivial⟩
  · rintro v bs ⟨a, s', h, rfl, rfl⟩
    repeat (first | refine q_then_panic ?_ | refine q_block_panic ?_ | refine q_scope_panic ?_)
    refine finX_panic (sendB l me log tl v mine s') (by (repeat (first | exact trivial | refine ⟨⟨rfl, rfl⟩, ?_⟩))) (by (repeat (first | exact trivial | refine ⟨rfl, ?_⟩))) ?_
    exact ⟨a, s', mine, by rw [← hE]; exact bind_err h, rfl, rfl⟩
  rintro d bs ⟨p, s1, hq1, hle1, hlen1, rfl, rfl⟩
  rw [bind_ok hq1] at hE
  have hg1 : s1.gone = s.gone := guardL_gone hq1
  obtain ⟨was, at_⟩ := p
  simp only at hE
  have hx1 := ofW_idx was
  have hx2 := ofW_cnt was
  refine go ?_
  refine a_q (call_step (of_c was) rfl (fun a w => Try.call35 a w) rfl) rfl rfl rfl ?_
  refine go ?_
  generalize hF : (fun o : Option Int => match o with
    | some a => if mine = 0 then (clearM l me).bind fun _ => Pm.pure (some (⟨0, true, 0, a, []⟩ : OutT), mine) else (giveM l mine).bind fun _ => (clearM l me).bind fun _ => Pm.pure (some ⟨0, true, 0, a, []⟩, mine)
    | none => (loadM (nodeF l (ofW was).idx 0)).bind fun next => if next = 0 then (if mine = 0 then (takeM l).bind fun t => if t.2.2 = true then (fillM l t.1 v).bind fun _ => attS2 l me tl was t.1 else (clearM l me).bind fun _ => Pm.pure (some ⟨0, false, 8, t.2.1, []⟩, mine) else attS2 l me tl was mine)
      else (casM tl was (packW (turnW (ofW was) next))).bind fun _ => Pm.pure (none, mine)) = Fk at hE
  rw [show places5 = restP 1 5 0 by decide] at hE
  refine awp_loop_ok (fun p : Nat × PsT => p.1 ≤ 5 ∧ s.made ≤ p.2.made ∧ p.2.made ≤ log.length ∧ p.2.gone = s.gone ∧ (placesS l (ofW was).idx v (restP 1 5 p.1)).bind Fk log p.2 = E) (fun p => ⟨[(25, dI p.1), (0, .ptr 14 0), (1, .ptr 15 0), (2, .ptr 16 0), (3, .ptr 17 0), (4, .ptr 7 0), (6, dI was), (8, .ptr 8 0)], (8, [dI (ofW was).idx, dB (ofW was).mark, dI (ofW was).cnt]) :: (7, [dI 0, dB false, dI 0, dI 0, .p (.sl true 0 [])]) :: sendB l me log tl v mine p.2, []⟩) (fun p => 5 - p.1) (0, s1) ⟨by simp only; omega, by simp only; omega, hlen1, hg1, hE⟩ (zX) ?_
  rintro ⟨i, t⟩ ⟨hi, ht0, ht1, htg, hE⟩
  simp only at hi ht0 ht1 htg hE
  refine (show AWP _ _ _ _ ⟨[(25, dI i), (0, .ptr 14 0), (1, .ptr 15 0), (2, .ptr 16 0), (3, .ptr 17 0), (4, .ptr 7 0), (6, dI was), (8, .ptr 8 0)], (8, [dI (ofW was).idx, dB (ofW was).mark, dI (ofW was).cnt]) :: (7, [dI 0, dB false, dI 0, dI 0, .p (.sl true 0 [])]) :: sendB l me log tl v mine t, []⟩ from ?_)
  refine go ?_
  refine ck_b (fun h1 => ?_) (fun h1 => ?_) <;> try rw [h1]
  · have h1' := of_decide_eq_true h1
    rw [restP_cons (by omega), placesS, bind_assoc] at hE
    refine go ?_
    refine a_q (lend_step (pnode_c l hL me t (ofW was).idx (1 + (i : Int)) (by omega) (by omega)) rfl (fun a w => Try.call83 a w) rfl rfl) rfl rfl rfl ?_
    refine go ?_
    refine a_callX (load_x l me log t (nodeF l (ofW was).idx (1 + (i : Int))) ht1 hl) rfl (fun a w => Try.call84 a w) rfl rfl (by (repeat (first | exact trivial | refine ⟨⟨rfl, rfl⟩, ?_⟩))) (by (repeat (first | exact trivial | refine ⟨.inr rfl, ?_⟩ | refine ⟨.inl rfl, ?_⟩))) rfl rfl rfl rfl ?_ ?_ ?_ ?_
    · rintro d bs ⟨x, s', _, _, _, rfl, rfl⟩; exact ⟨.inl rfl, .inl rfl, .inl rfl, trivial⟩
    · rintro v bs ⟨a, s', _, rfl, rfl⟩; exact ⟨.inl rfl, .inl rfl, .inl rfl, trivial⟩
    · rintro v bs ⟨a, s', h, rfl, rfl⟩
      repeat (first | refine q_then_panic ?_ | refine q_block_panic ?_ | refine q_scope_panic ?_)
      refine finX_panic (sendB l me log tl v mine s') (by (repeat (first | exact trivial | refine ⟨⟨rfl, rfl⟩, ?_⟩))) (by (repeat (first | exact trivial | refine ⟨rfl, ?_⟩))) ?_
      exact ⟨a, s', mine, by rw [← hE]; exact bind_err h, rfl, rfl⟩
    rintro d bs ⟨x, s2, hq2, hle2, hlen2, rfl, rfl⟩
    rw [bind_ok hq2] at hE
    have hg2 : s2.gone = s.gone := by rw [(loadM_gone hq2).1]; exact htg
    have hs2 := loadM_made hq2
    refine go ?_
    generalize h2 : decide (x = 0) = cc; cases cc
    · rw [if_neg (of_decide_eq_false h2)] at hE
      refine go ?_
      exact ⟨(i + 1, s2), ⟨by simp only; omega, by simp only; omega, hlen2, hg2, hE⟩, by simp only; omega, zX⟩
    · rw [if_pos (of_decide_eq_true h2), bind_assoc] at hE
      refine go ?_
      refine a_callX (cas_x l me log s2 (nodeF l (ofW was).idx (1 + (i : Int))) 0 (v + 2) hlen2 hl) rfl (fun a w => Try.call85 a w) rfl rfl (by (repeat (first | exact trivial | refine ⟨⟨rfl, rfl⟩, ?_⟩))) (by (repeat (first | exact trivial | refine ⟨.inr rfl, ?_⟩ | refine ⟨.inl rfl, ?_⟩))) rfl rfl rfl rfl ?_ ?_ ?_ ?_
      · rintro d bs ⟨x, s', _, _, _, rfl, rfl⟩; exact ⟨.inl rfl, .inl rfl, .inl rfl, trivial⟩
      · rintro v bs ⟨a, s', _, rfl, rfl⟩; exact ⟨.inl rfl, .inl rfl, .inl rfl, trivial⟩
      · rintro v bs ⟨a, s', h, rfl, rfl⟩
        repeat (first | refine q_then_panic ?_ | refine q_block_panic ?_ | refine q_scope_panic ?_)
        refine finX_panic (sendB l me log tl v mine s') (by (repeat (first | exact trivial | refine ⟨⟨rfl, rfl⟩, ?_⟩))) (by (repeat (first | exact trivial | refine ⟨rfl, ?_⟩))) ?_
        exact ⟨a, s', mine, by rw [← hE]; exact bind_err h, rfl, rfl⟩
      rintro d bs ⟨okk, s3, hq3, hle3, hlen3, rfl, rfl⟩
      rw [bind_ok hq3] at hE
      have hs3 := casM_made hq3
      have hg3 : s3.gone = s.gone := by rw [(casM_gone hq3).1]; exact hg2
      refine go ?_
      cases okk
      · rw [if_neg (by decide)] at hE
        refine go ?_
        exact ⟨(i + 1, s3), ⟨by simp only; omega, by simp only; omega, hlen3, hg3, hE⟩, by simp only; omega, zX⟩
      · rw [if_pos rfl, bind_assoc, bind_ok last_ok] at hE
        have hE : Fk (some ((s3.made : Int) - 1)) log s3 = E := hE
        rw [← hF] at hE
        simp only at hE
        refine go ?_
        refine a_q (lend_step (plast_c l me s3 (by omega)) rfl (fun a w => Try.call86 a w) rfl rfl) rfl rfl rfl ?_
        refine go ?_
        generalize h3 : decide (mine = 0) = cc; cases cc
        · rw [if_neg (of_decide_eq_false h3)] at hE
          refine go ?_
          refine a_callX (give_x l hL me log s3 mine (by omega) hlen3 hl) rfl (fun a w => Try.call87 a w) rfl rfl (by (repeat (first | exact trivial | refine ⟨⟨rfl, rfl⟩, ?_⟩))) (by (repeat (first | exact trivial | refine ⟨.inr rfl, ?_⟩ | refine ⟨.inl rfl, ?_⟩))) rfl rfl rfl rfl ?_ ?_ ?_ ?_
          · rintro d bs ⟨x, s', _, _, _, rfl, rfl⟩; exact ⟨.inl rfl, .inl rfl, .inl rfl, trivial⟩
          · rintro v bs ⟨a, s', _, rfl, rfl⟩; exact ⟨.inl rfl, .inl rfl, .inl rfl, trivial⟩
          · rintro v bs ⟨a, s', h, rfl, rfl⟩
            repeat (first | refine q_then_panic ?_ | refine q_block_panic ?_ | refine q_scope_panic ?_)
            refine finX_panic (sendB l me log tl v mine s') (by (repeat (first | exact trivial | refine ⟨⟨rfl, rfl⟩, ?_⟩))) (by (repeat (first | exact trivial | refine ⟨rfl, ?_⟩))) ?_
            exact ⟨a, s', mine, by rw [← hE]; exact bind_err h, rfl, rfl⟩
          rintro d bs ⟨u, s4, hq4, hle4, hlen4, rfl, rfl⟩
          rw [bind_ok hq4] at hE
          have hg4 : s4.gone = s.gone := (giveL_gone hq4).trans hg3
          refine go ?_
          refine a_callX (clear_x l hL me log s4 hlen4 hl) rfl (fun a w => Try.call88 a w) rfl rfl (by (repeat (first | exact trivial | refine ⟨⟨rfl, rfl⟩, ?_⟩))) (by (repeat (first | exact trivial | refine ⟨.inr rfl, ?_⟩ | refine ⟨.inl rfl, ?_⟩))) rfl rfl rfl rfl ?_ ?_ ?_ ?_
          · rintro d bs ⟨x, s', _, _, _, rfl, rfl⟩; exact ⟨.inl rfl, .inl rfl, .inl rfl, trivial⟩
          · rintro v bs ⟨a, s', _, rfl, rfl⟩; exact ⟨.inl rfl, .inl rfl, .inl rfl, trivial⟩
          · rintro v bs ⟨a, s', h, rfl, rfl⟩
            repeat (first | refine q_then_panic ?_ | refine q_block_panic ?_ | refine q_scope_panic ?_)
            refine finX_panic (sendB l me log tl v mine s') (by (repeat (first | exact trivial | refine ⟨⟨rfl, rfl⟩, ?_⟩))) (by (repeat (first | exact trivial | refine ⟨rfl, ?_⟩))) ?_
            exact ⟨a, s', mine, by rw [← hE]; exact bind_err h, rfl, rfl⟩
          rintro d bs ⟨u, s5, hq5, hle5, hlen5, rfl, rfl⟩
          rw [bind_ok hq5] at hE
          have hg5 : s5.gone = s.gone := (clrL_gone hq5).trans hg4
          refine go ?_
          first | refine finX_ret (sendB l me log tl v mine s5) rfl rfl (by (repeat (first | exact trivial | refine ⟨⟨rfl, rfl⟩, ?_⟩))) (by (repeat (first | exact trivial | refine ⟨rfl, ?_⟩))) ?_ | refine finX_normal (sendB l me log tl v mine s5) rfl rfl (by (repeat (first | exact trivial | refine ⟨⟨rfl, rfl⟩, ?_⟩))) (by (repeat (first | exact trivial | refine ⟨rfl, ?_⟩))) ?_
          exact ⟨_, s5, hE.symm, by omega, hlen5, hg5, hm0, hm1, rfl, rfl⟩
        · rw [if_pos (of_decide_eq_true h3)] at hE
          refine go ?_
          refine a_callX (clear_x l hL me log s3 hlen3 hl) rfl (fun a w => Try.call88 a w) rfl rfl (by (repeat (first | exact trivial | refine ⟨⟨rfl, rfl⟩, ?_⟩))) (by (repeat (first | exact trivial | refine ⟨.inr rfl, ?_⟩ | refine ⟨.inl rfl, ?_⟩))) rfl rfl rfl rfl ?_ ?_ ?_ ?_
          · rintro d bs ⟨x, s', _, _, _, rfl, rfl⟩; exact ⟨.inl rfl, .inl rfl, .inl rfl, trivial⟩
          · rintro v bs ⟨a, s', _, rfl, rfl⟩; exact ⟨.inl rfl, .inl rfl, .inl rfl, trivial⟩
          · rintro v bs ⟨a, s', h, rfl, rfl⟩
            repeat (first | refine q_then_panic ?_ | refine q_block_panic ?_ | refine q_scope_panic ?_)
            refine finX_panic (sendB l me log tl v mine s') (by (repeat (first | exact trivial | refine ⟨⟨rfl, rfl⟩, ?_⟩))) (by (repeat (first | exact trivial | refine ⟨rfl, ?_⟩))) ?_
            exact ⟨a, s', mine, by rw [← hE]; exact bind_err h, rfl, rfl⟩
          rintro d bs ⟨u, s5, hq5, hle5, hlen5, rfl, rfl⟩
          rw [bind_ok hq5] at hE
          have hg5 : s5.gone = s.gone := (clrL_gone hq5).trans hg3
          refine go ?_
          first | refine finX_ret (sendB l me log tl v mine s5) rfl rfl (by (repeat (first | exact trivial | refine ⟨⟨rfl, rfl⟩, ?_⟩))) (by (repeat (first | exact trivial | refine ⟨rfl, ?_⟩))) ?_ | refine finX_normal (sendB l me log tl v mine s5) rfl rfl (by (repeat (first | exact trivial | refine ⟨⟨rfl, rfl⟩, ?_⟩))) (by (repeat (first | exact trivial | refine ⟨rfl, ?_⟩))) ?_
          exact ⟨_, s5, hE.symm, by omega, hlen5, hg5, hm0, hm1, rfl, rfl⟩
  · have h1' := of_decide_eq_false h1
    rw [restP_nil (by omega), placesS] at hE
    have hE : Fk none log t = E := hE
    rw [← hF] at hE
    simp only at hE
    refine go ?_
    refine awp_region_w 5 [] rfl rfl (by kernel_rfl) (by kernel_rfl) (by kernel_rfl) ?_
    refine goQ ?_
    refine r_q (lend_step (pnode_c l hL me t (ofW was).idx 0 (by omega) (by omega)) rfl (fun a w => Try.call83 a w) rfl rfl) rfl rfl ?_
    refine goQ ?_
    refine a_callX (load_x l me log t (nodeF l (ofW was).idx 0) ht1 hl) rfl (fun a w => Try.call84 a w) rfl rfl (by (repeat (first | exact trivial | refine ⟨⟨rfl, rfl⟩, ?_⟩))) (by (repeat (first | exact trivial | refine ⟨.inr rfl, ?_⟩ | refine ⟨.inl rfl, ?_⟩))) rfl rfl rfl rfl ?_ ?_ ?_ ?_
    · rintro d bs ⟨x, s', _, _, _, rfl, rfl⟩; exact ⟨.inl rfl, .inl rfl, .inl rfl, trivial⟩
    · rintro v bs ⟨a, s', _, rfl, rfl⟩; exact ⟨.inl rfl, .inl rfl, .inl rfl, trivial⟩
    · rintro v bs ⟨a, s', h, rfl, rfl⟩
      repeat (first | refine q_then_panic ?_ | refine q_block_panic ?_ | refine q_scope_panic ?_)
      refine finX_panic (sendB l me log tl v mine s') (by (repeat (first | exact trivial | refine ⟨⟨rfl, rfl⟩, ?_⟩))) (by (repeat (first | exact trivial | refine ⟨rfl, ?_⟩))) ?_
      exact ⟨a, s', mine, by rw [← hE]; exact bind_err h, rfl, rfl⟩
    rintro d bs ⟨next, s2, hq2, hle2, hlen2, rfl, rfl⟩
    rw [bind_ok hq2] at hE
    have hg2 : s2.gone = s.gone := by rw [(loadM_gone hq2).1]; exact htg
    have hs2 := loadM_made hq2
    refine go ?_
    generalize h2 : decide (next = 0) = cc; cases cc
    · rw [if_neg (of_decide_eq_false h2)] at hE
      refine go ?_
      refine awp_region_w 7 [] rfl rfl (by kernel_rfl) (by kernel_rfl) (by kernel_rfl) ?_
      refine goQ ?_
      refine r_q (call_step (turn_c (ofW was) next hx2.1 hx2.2) rfl (fun a w => Try.call89 a w) rfl) rfl rfl ?_
      refine goQ ?_
      refine r_q (call_step (pack_c (turnW (ofW was) next)) rfl (fun a w => Try.call41 a w) rfl) rfl rfl ?_
      refine goQ ?_
      refine a_callX (cas_x l me log s2 tl was (packW (turnW (ofW was) next)) hlen2 hl) rfl (fun a w => Try.call85 a w) rfl rfl (by (repeat (first | exact trivial | refine ⟨⟨rfl, rfl⟩, ?_⟩))) (by (repeat (first | exact trivial | refine ⟨.inr rfl, ?_⟩ | refine ⟨.inl rfl, ?_⟩))) rfl rfl rfl rfl ?_ ?_ ?_ ?_
      · rintro d bs ⟨x, s', _, _, _, rfl, rfl⟩; exact ⟨.inl rfl, .inl rfl, .inl rfl, trivial⟩
      · rintro v bs ⟨a, s', _, rfl, rfl⟩; exact ⟨.inl rfl, .inl rfl, .inl rfl, trivial⟩
      · rintro v bs ⟨a, s', h, rfl, rfl⟩
        repeat (first | refine q_then_panic ?_ | refine q_block_panic ?_ | refine q_scope_panic ?_)
        refine finX_panic (sendB l me log tl v mine s') (by (repeat (first | exact trivial | refine ⟨⟨rfl, rfl⟩, ?_⟩))) (by (repeat (first | exact trivial | refine ⟨rfl, ?_⟩))) ?_
        exact ⟨a, s', mine, by rw [← hE]; exact bind_err h, rfl, rfl⟩
      rintro d bs ⟨okk, s3, hq3, hle3, hlen3, rfl, rfl⟩
      rw [bind_ok hq3] at hE
      have hg3 : s3.gone = s.gone := by rw [(casM_gone hq3).1]; exact hg2
      refine go ?_
      first | refine finX_ret (sendB l me log tl v mine s3) rfl rfl (by (repeat (first | exact trivial | refine ⟨⟨rfl, rfl⟩, ?_⟩))) (by (repeat (first | exact trivial | refine ⟨rfl, ?_⟩))) ?_ | refine finX_normal (sendB l me log tl v mine s3) rfl rfl (by (repeat (first | exact trivial | refine ⟨⟨rfl, rfl⟩, ?_⟩))) (by (repeat (first | exact trivial | refine ⟨rfl, ?_⟩))) ?_
      exact ⟨_, s3, hE.symm, by omega, hlen3, hg3, hm0, hm1, rfl, rfl⟩
    · rw [if_pos (of_decide_eq_true h2)] at hE
      refine go ?_
      generalize h3 : decide (mine = 0) = cc; cases cc
      · rw [if_neg (of_decide_eq_false h3)] at hE
        rw [attS2] at hE
        refine go ?_
        refine awp_region_w 6 [] rfl rfl (by kernel_rfl) (by kernel_rfl) (by kernel_rfl) ?_
        refine goQ ?_
        refine r_q (lend_step (pnode_c l hL me s2 (ofW was).idx 0 (by omega) (by omega)) rfl (fun a w => Try.call83 a w) rfl rfl) rfl rfl ?_
        refine goQ ?_
        refine a_callX (cas_x l me log s2 (nodeF l (ofW was).idx 0) 0 mine hlen2 hl) rfl (fun a w => Try.call85 a w) rfl rfl (by (repeat (first | exact trivial | refine ⟨⟨rfl, rfl⟩, ?_⟩))) (by (repeat (first | exact trivial | refine ⟨.inr rfl, ?_⟩ | refine ⟨.inl rfl, ?_⟩))) rfl rfl rfl rfl ?_ ?_ ?_ ?_
        · rintro d bs ⟨x, s', _, _, _, rfl, rfl⟩; exact ⟨.inl rfl, .inl rfl, .inl rfl, trivial⟩
        · rintro v bs ⟨a, s', _, rfl, rfl⟩; exact ⟨.inl rfl, .inl rfl, .inl rfl, trivial⟩
        · rintro v bs ⟨a, s', h, rfl, rfl⟩
          repeat (first | refine q_then_panic ?_ | refine q_block_panic ?_ | refine q_scope_panic ?_)
          refine finX_panic (sendB l me log tl v mine s') (by (repeat (first | exact trivial | refine ⟨⟨rfl, rfl⟩, ?_⟩))) (by (repeat (first | exact trivial | refine ⟨rfl, ?_⟩))) ?_
          exact ⟨a, s', mine, by rw [← hE]; exact bind_err h, rfl, rfl⟩
        rintro d bs ⟨okk, s3, hq3, hle3, hlen3, rfl, rfl⟩
        rw [bind_ok hq3] at hE
        have hg3 : s3.gone = s.gone := by rw [(casM_gone hq3).1]; exact hg2
        have hs3 := casM_made hq3
        refine go ?_
        cases okk
        · rw [if_neg (by decide)] at hE
          refine go ?_
          first | refine finX_ret (sendB l me log tl v mine s3) rfl rfl (by (repeat (first | exact trivial | refine ⟨⟨rfl, rfl⟩, ?_⟩))) (by (repeat (first | exact trivial | refine ⟨rfl, ?_⟩))) ?_ | refine finX_normal (sendB l me log tl v mine s3) rfl rfl (by (repeat (first | exact trivial | refine ⟨⟨rfl, rfl⟩, ?_⟩))) (by (repeat (first | exact trivial | refine ⟨rfl, ?_⟩))) ?_
          exact ⟨_, s3, hE.symm, by omega, hlen3, hg3, hm0, hm1, rfl, rfl⟩
        · rw [if_pos rfl, bind_ok last_ok] at hE
          refine go ?_
          refine a_q (lend_step (plast_c l me s3 (by omega)) rfl (fun a w => Try.call86 a w) rfl rfl) rfl rfl rfl ?_
          refine go ?_
          refine awp_region_w 7 [] rfl rfl (by kernel_rfl) (by kernel_rfl) (by kernel_rfl) ?_
          refine goQ ?_
          refine r_q (call_step (turn_c (ofW was) mine hx2.1 hx2.2) rfl (fun a w => Try.call89 a w) rfl) rfl rfl ?_
          refine goQ ?_
          refine r_q (call_step (pack_c (turnW (ofW was) mine)) rfl (fun a w => Try.call41 a w) rfl) rfl rfl ?_
          refine goQ ?_
          refine a_callX (cas_x l me log s3 tl was (packW (turnW (ofW was) mine)) hlen3 hl) rfl (fun a w => Try.call85 a w) rfl rfl (by (repeat (first | exact trivial | refine ⟨⟨rfl, rfl⟩, ?_⟩))) (by (repeat (first | exact trivial | refine ⟨.inr rfl, ?_⟩ | refine ⟨.inl rfl, ?_⟩))) rfl rfl rfl rfl ?_ ?_ ?_ ?_
          · rintro d bs ⟨x, s', _, _, _, rfl, rfl⟩; exact ⟨.inl rfl, .inl rfl, .inl rfl, trivial⟩
          · rintro v bs ⟨a, s', _, rfl, rfl⟩; exact ⟨.inl rfl, .inl rfl, .inl rfl, trivial⟩
          · rintro v bs ⟨a, s', h, rfl, rfl⟩
            repeat (first | refine q_then_panic ?_ | refine q_block_panic ?_ | refine q_scope_panic ?_)
            refine finX_panic (sendB l me log tl v mine s') (by (repeat (first | exact trivial | refine ⟨⟨rfl, rfl⟩, ?_⟩))) (by (repeat (first | exact trivial | refine ⟨rfl, ?_⟩))) ?_
            exact ⟨a, s', mine, by rw [← hE]; exact bind_err h, rfl, rfl⟩
          rintro d bs ⟨ok2, s4, hq4, hle4, hlen4, rfl, rfl⟩
          rw [bind_ok hq4] at hE
          have hg4 : s4.gone = s.gone := by rw [(casM_gone hq4).1]; exact hg3
          refine go ?_
          refine a_callX (clear_x l hL me log s4 hlen4 hl) rfl (fun a w => Try.call88 a w) rfl rfl (by (repeat (first | exact trivial | refine ⟨⟨rfl, rfl⟩, ?_⟩))) (by (repeat (first | exact trivial | refine ⟨.inr rfl, ?_⟩ | refine ⟨.inl rfl, ?_⟩))) rfl rfl rfl rfl ?_ ?_ ?_ ?_
          · rintro d bs ⟨x, s', _, _, _, rfl, rfl⟩; exact ⟨.inl rfl, .inl rfl, .inl rfl, trivial⟩
          · rintro v bs ⟨a, s', _, rfl, rfl⟩; exact ⟨.inl rfl, .inl rfl, .inl rfl, trivial⟩
          · rintro v bs ⟨a, s', h, rfl, rfl⟩
            repeat (first | refine q_then_panic ?_ | refine q_block_panic ?_ | refine q_scope_panic ?_)
            refine finX_panic (sendB l me log tl v mine s') (by (repeat (first | exact trivial | refine ⟨⟨rfl, rfl⟩, ?_⟩))) (by (repeat (first | exact trivial | refine ⟨rfl, ?_⟩))) ?_
            exact ⟨a, s', mine, by rw [← hE]; exact bind_err h, rfl, rfl⟩
          rintro d bs ⟨u, s5, hq5, hle5, hlen5, rfl, rfl⟩
          rw [bind_ok hq5] at hE
          have hg5 : s5.gone = s.gone := (clrL_gone hq5).trans hg4
          refine go ?_
          first | refine finX_ret (sendB l me log tl v mine s5) rfl rfl (by (repeat (first | exact trivial | refine ⟨⟨rfl, rfl⟩, ?_⟩))) (by (repeat (first | exact trivial | refine ⟨rfl, ?_⟩))) ?_ | refine finX_normal (sendB l me log tl v mine s5) rfl rfl (by (repeat (first | exact trivial | refine ⟨⟨rfl, rfl⟩, ?_⟩))) (by (repeat (first | exact trivial | refine ⟨rfl, ?_⟩))) ?_
          exact ⟨_, s5, hE.symm, by omega, hlen5, hg5, hm0, hm1, rfl, rfl⟩
      · rw [if_pos (of_decide_eq_true h3)] at hE
        refine go ?_
        refine a_callX (take_x l hL me log s2 hlen2 hl) rfl (fun a w => Try.call90 a w) rfl rfl (by (repeat (first | exact trivial | refine ⟨⟨rfl, rfl⟩, ?_⟩))) (by (repeat (first | exact trivial | refine ⟨.inr rfl, ?_⟩ | refine ⟨.inl rfl, ?_⟩))) rfl rfl rfl rfl ?_ ?_ ?_ ?_
        · rintro d bs ⟨x, s', _, _, _, rfl, rfl⟩; exact ⟨.inl rfl, .inl rfl, .inl rfl, trivial⟩
        · rintro v bs ⟨a, s', _, rfl, rfl⟩; exact ⟨.inl rfl, .inl rfl, .inl rfl, trivial⟩
        · rintro v bs ⟨a, s', h, rfl, rfl⟩
          repeat (first | refine q_then_panic ?_ | refine q_block_panic ?_ | refine q_scope_panic ?_)
          refine finX_panic (sendB l me log tl v mine s') (by (repeat (first | exact trivial | refine ⟨⟨rfl, rfl⟩, ?_⟩))) (by (repeat (first | exact trivial | refine ⟨rfl, ?_⟩))) ?_
          exact ⟨a, s', mine, by rw [← hE]; exact bind_err h, rfl, rfl⟩
        rintro d bs ⟨p, s3, hq3, hle3, hlen3, rfl, rfl⟩
        rw [bind_ok hq3] at hE
        have hp3 := takeL_idx hq3
        have hg3 : s3.gone = s.gone := hp3.2.trans hg2
        have hp0 := takeL_nn hq3
        obtain ⟨n, at2, okk⟩ := p
        simp only at hE hp3 hp0
        refine go ?_
        cases okk
        · rw [if_neg (by decide)] at hE
          refine go ?_
          refine a_callX (clear_x l hL me log s3 hlen3 hl) rfl (fun a w => Try.call88 a w) rfl rfl (by (repeat (first | exact trivial | refine ⟨⟨rfl, rfl⟩, ?_⟩))) (by (repeat (first | exact trivial | refine ⟨.inr rfl, ?_⟩ | refine ⟨.inl rfl, ?_⟩))) rfl rfl rfl rfl ?_ ?_ ?_ ?_
          · rintro d bs ⟨x, s', _, _, _, rfl, rfl⟩; exact ⟨.inl rfl, .inl rfl, .inl rfl, trivial⟩
          · rintro v bs ⟨a, s', _, rfl, rfl⟩; exact ⟨.inl rfl, .inl rfl, .inl rfl, trivial⟩
          · rintro v bs ⟨a, s', h, rfl, rfl⟩
            repeat (first | refine q_then_panic ?_ | refine q_block_panic ?_ | refine q_scope_panic ?_)
            refine finX_panic (sendB l me log tl v mine s') (by (repeat (first | exact trivial | refine ⟨⟨rfl, rfl⟩, ?_⟩))) (by (repeat (first | exact trivial | refine ⟨rfl, ?_⟩))) ?_
            exact ⟨a, s', mine, by rw [← hE]; exact bind_err h, rfl, rfl⟩
          rintro d bs ⟨u, s4, hq4, hle4, hlen4, rfl, rfl⟩
          rw [bind_ok hq4] at hE
          have hg4 : s4.gone = s.gone := (clrL_gone hq4).trans hg3
          refine go ?_
          first | refine finX_ret (sendB l me log tl v mine s4) rfl rfl (by (repeat (first | exact trivial | refine ⟨⟨rfl, rfl⟩, ?_⟩))) (by (repeat (first | exact trivial | refine ⟨rfl, ?_⟩))) ?_ | refine finX_normal (sendB l me log tl v mine s4) rfl rfl (by (repeat (first | exact trivial | refine ⟨⟨rfl, rfl⟩, ?_⟩))) (by (repeat (first | exact trivial | refine ⟨rfl, ?_⟩))) ?_
          exact ⟨_, s4, hE.symm, by omega, hlen4, hg4, hm0, hm1, rfl, rfl⟩
        · rw [if_pos rfl] at hE
          refine go ?_
          refine a_callX (fill_x l hL me log s3 n v (by omega) hv0 hv1 hlen3 hl) rfl (fun a w => Try.call91 a w) rfl rfl (by (repeat (first | exact trivial | refine ⟨⟨rfl, rfl⟩, ?_⟩))) (by (repeat (first | exact trivial | refine ⟨.inr rfl, ?_⟩ | refine ⟨.inl rfl, ?_⟩))) rfl rfl rfl rfl ?_ ?_ ?_ ?_
          · rintro d bs ⟨x, s', _, _, _, rfl, rfl⟩; exact ⟨.inl rfl, .inl rfl, .inl rfl, trivial⟩
          · rintro v bs ⟨a, s', _, rfl, rfl⟩; exact ⟨.inl rfl, .inl rfl, .inl rfl, trivial⟩
          · rintro v bs ⟨a, s', h, rfl, rfl⟩
            repeat (first | refine q_then_panic ?_ | refine q_block_panic ?_ | refine q_scope_panic ?_)
            refine finX_panic (sendB l me log tl v n s') (by (repeat (first | exact trivial | refine ⟨⟨rfl, rfl⟩, ?_⟩))) (by (repeat (first | exact trivial | refine ⟨rfl, ?_⟩))) ?_
            exact ⟨a, s', n, by rw [← hE]; exact bind_err h, rfl, rfl⟩
          rintro d bs ⟨u, s4, hq4, hle4, hlen4, rfl, rfl⟩
          rw [bind_ok hq4] at hE
          have hg4 : s4.gone = s.gone := (fillM_gone hq4).trans hg3
          rw [attS2] at hE
          refine go ?_
          refine awp_region_w 6 [] rfl rfl (by kernel_rfl) (by kernel_rfl) (by kernel_rfl) ?_
          refine goQ ?_
          refine r_q (lend_step (pnode_c l hL me s4 (ofW was).idx 0 (by omega) (by omega)) rfl (fun a w => Try.call83 a w) rfl rfl) rfl rfl ?_
          refine goQ ?_
          refine a_callX (cas_x l me log s4 (nodeF l (ofW was).idx 0) 0 n hlen4 hl) rfl (fun a w => Try.call85 a w) rfl rfl (by (repeat (first | exact trivial | refine ⟨⟨rfl, rfl⟩, ?_⟩))) (by (repeat (first | exact trivial | refine ⟨.inr rfl, ?_⟩ | refine ⟨.inl rfl, ?_⟩))) rfl rfl rfl rfl ?_ ?_ ?_ ?_
          · rintro d bs ⟨x, s', _, _, _, rfl, rfl⟩; exact ⟨.inl rfl, .inl rfl, .inl rfl, trivial⟩
          · rintro v bs ⟨a, s', _, rfl, rfl⟩; exact ⟨.inl rfl, .inl rfl, .inl rfl, trivial⟩
          · rintro v bs ⟨a, s', h, rfl, rfl⟩
            repeat (first | refine q_then_panic ?_ | refine q_block_panic ?_ | refine q_scope_panic ?_)
            refine finX_panic (sendB l me log tl v n s') (by (repeat (first | exact trivial | refine ⟨⟨rfl, rfl⟩, ?_⟩))) (by (repeat (first | exact trivial | refine ⟨rfl, ?_⟩))) ?_
            exact ⟨a, s', n, by rw [← hE]; exact bind_err h, rfl, rfl⟩
          rintro d bs ⟨okk, s5, hq5, hle5, hlen5, rfl, rfl⟩
          rw [bind_ok hq5] at hE
          have hg5 : s5.gone = s.gone := by rw [(casM_gone hq5).1]; exact hg4
          have hs5 := casM_made hq5
          refine go ?_
          cases okk
          · rw [if_neg (by decide)] at hE
            refine go ?_
            first | refine finX_ret (sendB l me log tl v n s5) rfl rfl (by (repeat (first | exact trivial | refine ⟨⟨rfl, rfl⟩, ?_⟩))) (by (repeat (first | exact trivial | refine ⟨rfl, ?_⟩))) ?_ | refine finX_normal (sendB l me log tl v n s5) rfl rfl (by (repeat (first | exact trivial | refine ⟨⟨rfl, rfl⟩, ?_⟩))) (by (repeat (first | exact trivial | refine ⟨rfl, ?_⟩))) ?_
            exact ⟨_, s5, hE.symm, by omega, hlen5, hg5, hp0, hp3.1, rfl, rfl⟩
          · rw [if_pos rfl, bind_ok last_ok] at hE
            refine go ?_
            refine a_q (lend_step (plast_c l me s5 (by omega)) rfl (fun a w => Try.call86 a w) rfl rfl) rfl rfl rfl ?_
            refine go ?_
            refine awp_region_w 7 [] rfl rfl (by kernel_rfl) (by kernel_rfl) (by kernel_rfl) ?_
            refine goQ ?_
            refine r_q (call_step (turn_c (ofW was) n hx2.1 hx2.2) rfl (fun a w => Try.call89 a w) rfl) rfl rfl ?_
            refine goQ ?_
            refine r_q (call_step (pack_c (turnW (ofW was) n)) rfl (fun a w => Try.call41 a w) rfl) rfl rfl ?_
            refine goQ ?_
            refine a_callX (cas_x l me log s5 tl was (packW (turnW (ofW was) n)) hlen5 hl) rfl (fun a w => Try.call85 a w) rfl rfl (by (repeat (first | exact trivial | refine ⟨⟨rfl, rfl⟩, ?_⟩))) (by (repeat (first | exact trivial | refine ⟨.inr rfl, ?_⟩ | refine ⟨.inl rfl, ?_⟩))) rfl rfl rfl rfl ?_ ?_ ?_ ?_
            · rintro d bs ⟨x, s', _, _, _, rfl, rfl⟩; exact ⟨.inl rfl, .inl rfl, .inl rfl, trivial⟩
            · rintro v bs ⟨a, s', _, rfl, rfl⟩; exact ⟨.inl rfl, .inl rfl, .inl rfl, trivial⟩
            · rintro v bs ⟨a, s', h, rfl, rfl⟩
              repeat (first | refine q_then_panic ?_ | refine q_block_panic ?_ | refine q_scope_panic ?_)
              refine finX_panic (sendB l me log tl v n s') (by (repeat (first | exact trivial | refine ⟨⟨rfl, rfl⟩, ?_⟩))) (by (repeat (first | exact trivial | refine ⟨rfl, ?_⟩))) ?_
              exact ⟨a, s', n, by rw [← hE]; exact bind_err h, rfl, rfl⟩
            rintro d bs ⟨ok2, s6, hq6, hle6, hlen6, rfl, rfl⟩
            rw [bind_ok hq6] at hE
            have hg6 : s6.gone = s.gone := by rw [(casM_gone hq6).1]; exact hg5
            refine go ?_
            refine a_callX (clear_x l hL me log s6 hlen6 hl) rfl (fun a w => Try.call88 a w) rfl rfl (by (repeat (first | exact trivial | refine ⟨⟨rfl, rfl⟩, ?_⟩))) (by (repeat (first | exact trivial | refine ⟨.inr rfl, ?_⟩ | refine ⟨.inl rfl, ?_⟩))) rfl rfl rfl rfl ?_ ?_ ?_ ?_
            · rintro d bs ⟨x, s', _, _, _, rfl, rfl⟩; exact ⟨.inl rfl, .inl rfl, .inl rfl, trivial⟩
            · rintro v bs ⟨a, s', _, rfl, rfl⟩; exact ⟨.inl rfl, .inl rfl, .inl rfl, trivial⟩
            · rintro v bs ⟨a, s', h, rfl, rfl⟩
              repeat (first | refine q_then_panic ?_ | refine q_block_panic ?_ | refine q_scope_panic ?_)
              refine finX_panic (sendB l me log tl v n s') (by (repeat (first | exact trivial | refine ⟨⟨rfl, rfl⟩, ?_⟩))) (by (repeat (first | exact trivial | refine ⟨rfl, ?_⟩))) ?_
              exact ⟨a, s', n, by rw [← hE]; exact bind_err h, rfl, rfl⟩
            rintro d bs ⟨u, s7, hq7, hle7, hlen7, rfl, rfl⟩
            rw [bind_ok hq7] at hE
            have hg7 : s7.gone = s.gone := (clrL_gone hq7).trans hg6
            refine go ?_
            first | refine finX_ret (sendB l me log tl v n s7) rfl rfl (by (repeat (first | exact trivial | refine ⟨⟨rfl, rfl⟩, ?_⟩))) (by (repeat (first | exact trivial | refine ⟨rfl, ?_⟩))) ?_ | refine finX_normal (sendB l me log tl v n s7) rfl rfl (by (repeat (first | exact trivial | refine ⟨⟨rfl, rfl⟩, ?_⟩))) (by (repeat (first | exact trivial | refine ⟨rfl, ?_⟩))) ?_
            exact ⟨_, s7, hE.symm, by omega, hlen7, hg7, hp0, hp3.1, rfl, rfl⟩
end Go.Proofs.Ytgoijmomglomlaa
