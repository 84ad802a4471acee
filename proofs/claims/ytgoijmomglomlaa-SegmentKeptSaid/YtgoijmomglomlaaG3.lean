/- Attempts to receive: their walk. -/
import Derived.Test.YtgoijmomglomlaaG1
namespace Go.Proofs.Ytgoijmomglomlaa
open Go.RowKit
set_option maxRecDepth 100000

theorem siftL_ok {l : LayT} {held : List Int} : ∀ {gs stay : List (Int × Int)} {log : List ResT} {s s' : PsT} {r : List (Int × Int)}, siftL l held gs stay log s = .ok (r, s') → GoneOk gs → GoneOk stay → GoneOk r
  | [], stay, log, s, s', r, h, _, h2 => by cases h; exact h2
  | g :: gs, stay, log, s, s', r, h, h1, h2 => by
    have h1' : GoneOk gs := fun p hp => h1 p (List.mem_cons_of_mem _ hp)
    rw [siftL] at h
    cases k1 : loadM (nodeF l g.1 6) log s with
    | error a => rw [bind_err k1] at h; cases h
    | ok q =>
      obtain ⟨b, s1⟩ := q
      rw [bind_ok k1] at h
      split at h
      · exact siftL_ok h h1' (fun p hp => by
          rw [List.mem_append, List.mem_singleton] at hp
          rcases hp with hp | rfl
          · exact h2 p hp
          · exact h1 _ (by simp))
      · cases k2 : giveM l g.1 log s1 with
        | error a => rw [bind_err k2] at h; cases h
        | ok q =>
          obtain ⟨u, s2⟩ := q
          rw [bind_ok k2] at h
          exact siftL_ok h h1' h2
theorem goneOk_snoc {g : List (Int × Int)} {n e : Int} (h : GoneOk g) (hn : n < 9223372036854775808) : GoneOk (g ++ [(n, e)]) := by
  intro p hp
  rw [List.mem_append, List.mem_singleton] at hp
  rcases hp with hp | rfl
  · exact h p hp
  · exact hn
theorem retireM_ok {l : LayT} {n : Int} {log : List ResT} {s s' : PsT} {u : Unit} (h : retireM l n log s = .ok (u, s')) (hg : GoneOk s.gone) (hn : n < 9223372036854775808) : GoneOk s'.gone := by
  unfold retireM at h
  cases h1 : loadM l.era log s with
  | error a => rw [bind_err h1] at h; cases h
  | ok q =>
    obtain ⟨er, s1⟩ := q
    rw [bind_ok h1] at h
    have g1 : s1.gone = s.gone := by rw [(loadM_gone h1).1]
    cases h2 : doM ⟨4, l.era, 0, 1⟩ log s1 with
    | error a => rw [bind_err h2] at h; cases h
    | ok q =>
      obtain ⟨r, s2⟩ := q
      rw [bind_ok h2] at h
      have g2 : s2.gone = s.gone := by rw [(doM_gone h2).1]; exact g1
      have hq : GoneOk (s2.gone ++ [(n, er)]) := by rw [g2]; exact goneOk_snoc hg hn
      split at h
      · cases h; exact hq
      · unfold scanM at h
        cases h3 : loadAcc [] (resvsF l 0 l.seats.toNat) log { s2 with gone := s2.gone ++ [(n, er)] } with
        | error a => rw [bind_err h3] at h; cases h
        | ok q =>
          obtain ⟨held, s3⟩ := q
          rw [bind_ok h3] at h
          cases h4 : siftL l held (s2.gone ++ [(n, er)]) [] log s3 with
          | error a => rw [bind_err h4] at h; cases h
          | ok q =>
            obtain ⟨stay, s4⟩ := q
            rw [bind_ok h4] at h
            unfold setGone at h
            cases h
            exact siftL_ok h4 hq (fun p hp => by simp at hp)
/-- The variables of an attempt to receive. -/
abbrev recvB (l : LayT) (me : Int) (log : List ResT) (hd tl : Int) (s : PsT) : Bxs := [(11, pieceD l me s), (12, [.ptr 11 0]), (13, [dLog log]), (14, [.ptr 11 0]), (15, [dI hd]), (16, [dI tl])]
def RaR (l : LayT) (me : Int) (log : List ResT) (hd tl : Int) (s : PsT) (m : Except AccT (Option OutT × PsT)) : Dt → Bxs → Prop := fun d bs => ∃ r s', m = .ok (r, s') ∧ s.made < s'.made ∧ s'.made ≤ log.length ∧ GoneOk s'.gone ∧ s'.gone.length + s.made ≤ s.gone.length + s'.made ∧ d = .tup [dOut0 (r.getD out0), dB r.isSome] ∧ bs = recvB l me log hd tl s'
def RaX (l : LayT) (me : Int) (log : List ResT) (hd tl : Int) (m : Except AccT (Option OutT × PsT)) : Value → Bxs → Prop := fun x bs => ∃ a s', m = .error a ∧ x = askedV a ∧ bs = recvB l me log hd tl s'
set_option maxHeartbeats 8000000 in
theorem recvA_x (l : LayT) (hL : LayOk l) (me : Int) (log : List ResT) (s : PsT) (hd tl : Int) (hgo : GoneOk s.gone) (hgl : s.gone.length ≤ 10000) (hm : s.made ≤ log.length) (hl : log.length ≤ 1000000) :
    ImpX Try.prog 92 [11, 12, 13, 14, 15, 16] [.ptr 14 0, .ptr 15 0, .ptr 16 0] (recvB l me log hd tl s) (RaR l me log hd tl s (attR l me hd tl log s)) (RaX l me log hd tl (attR l me hd tl log s)) := by
  generalize hE : attR l me hd tl log s = E
  unfold attR at hE
  refine impX_fin tabOk Try.func92 rfl Try.ntmps92 rfl rfl rfl (by (repeat (first | exact trivial | refine ⟨rfl, ?_⟩))) fun w cl own kf => ?_
  refine go ?_
  refine a_callX (guard_x l hL me log s hd hm hl) rfl (fun a w => Try.call82 a w) rfl rfl (by (repeat (first | exact trivial | refine ⟨⟨rfl, rfl⟩, ?_⟩))) (by (repeat (first | exact trivial | refine ⟨.inr rfl, ?_⟩ | refine ⟨.inl rfl, ?_⟩))) rfl rfl rfl rfl ?_ ?_ ?_ ?_
  · rintro d bs ⟨x, s', _, _, _, rfl, rfl⟩; exact ⟨.inl rfl, .inl rfl, .inl rfl, trivial⟩
  · rintro v bs ⟨a, s', _, rfl, rfl⟩; exact ⟨.inl rfl, .inl rfl, .inl rfl, trivial⟩
  · rintro v bs ⟨a, s', h, rfl, rfl⟩
    repeat (first | refine q_then_panic ?_ | refine q_block_panic ?_ | refine q_scope_panic ?_)
    refine finX_panic (recvB l me log hd tl s') (by (repeat (first | exact trivial | refine ⟨⟨rfl, rfl⟩, ?_⟩))) (by (repeat (first | exact trivial | refine ⟨rfl, ?_⟩))) ?_
    exact ⟨a, s', by rw [← hE]; exact bind_err h, rfl, rfl⟩
  rintro d bs ⟨p, s1, hq1, hle1, hlen1, rfl, rfl⟩
  rw [bind_ok hq1] at hE
  have hg1 : s1.gone = s.gone := guardL_gone hq1
  obtain ⟨was, at_⟩ := p
  simp only at hE
  have hx1 := ofW_idx was
  have hx2 := ofW_cnt was
  refine go ?_
  refine a_q (call_step (of_c was) rfl (fun a w => Try.call35 a w) rfl) rfl rfl rfl ?_
  refine go ?_
  generalize hF : (fun o : Option OutT => match o with
    | some o => (clearM l me).bind fun _ => Pm.pure (some o)
    | none => (loadM (nodeF l (ofW was).idx 0)).bind fun next => if next = 0 then lastM.bind fun a => (clearM l me).bind fun _ => Pm.pure (some (⟨0, false, 0, a, []⟩ : OutT))
      else (loadM tl).bind fun en => if (ofW en).idx = (ofW was).idx then (casM tl en (packW (turnW (ofW en) next))).bind fun _ => attR2 l me hd was next else attR2 l me hd was next) = Fk at hE
  rw [show places5 = restP 1 5 0 by decide] at hE
  refine awp_loop_ok (fun p : Nat × PsT => p.1 ≤ 5 ∧ s.made ≤ p.2.made ∧ p.2.made ≤ log.length ∧ p.2.gone = s.gone ∧ (placesR l (ofW was).idx (restP 1 5 p.1)).bind Fk log p.2 = E) (fun p => ⟨[(24, dI p.1), (0, .ptr 14 0), (1, .ptr 15 0), (2, .ptr 16 0), (3, .ptr 6 0), (5, dI was), (7, .ptr 7 0)], (7, [dI (ofW was).idx, dB (ofW was).mark, dI (ofW was).cnt]) :: (6, [dI 0, dB false, dI 0, dI 0, .p (.sl true 0 [])]) :: recvB l me log hd tl p.2, []⟩) (fun p => 5 - p.1) (0, s1) ⟨by simp only; omega, by simp only; omega, hlen1, hg1, hE⟩ (zX) ?_
  rintro ⟨i, t⟩ ⟨hi, ht0, ht1, htg, hE⟩
  simp only at hi ht0 ht1 htg hE
  refine (show AWP _ _ _ _ ⟨[(24, dI i), (0, .ptr 14 0), (1, .ptr 15 0), (2, .ptr 16 0), (3, .ptr 6 0), (5, dI was), (7, .ptr 7 0)], (7, [dI (ofW was).idx, dB (ofW was).mark, dI (ofW was).cnt]) :: (6, [dI 0, dB false, dI 0, dI 0, .p (.sl true 0 [])]) :: recvB l me log hd tl t, []⟩ from ?_)
  refine go ?_
  refine ck_b (fun h1 => ?_) (fun h1 => ?_) <;> try rw [h1]
  · have h1' := of_decide_eq_true h1
    rw [restP_cons (by omega), placesR, bind_assoc] at hE
    refine go ?_
    refine a_q (lend_step (pnode_c l hL me t (ofW was).idx (1 + (i : Int)) (by omega) (by omega)) rfl (fun a w => Try.call83 a w) rfl rfl) rfl rfl rfl ?_
    refine go ?_
    refine a_callX (load_x l me log t (nodeF l (ofW was).idx (1 + (i : Int))) ht1 hl) rfl (fun a w => Try.call84 a w) rfl rfl (by (repeat (first | exact trivial | refine ⟨⟨rfl, rfl⟩, ?_⟩))) (by (repeat (first | exact trivial | refine ⟨.inr rfl, ?_⟩ | refine ⟨.inl rfl, ?_⟩))) rfl rfl rfl rfl ?_ ?_ ?_ ?_
    · rintro d bs ⟨x, s', _, _, _, rfl, rfl⟩; exact ⟨.inl rfl, .inl rfl, .inl rfl, trivial⟩
    · rintro v bs ⟨a, s', _, rfl, rfl⟩; exact ⟨.inl rfl, .inl rfl, .inl rfl, trivial⟩
    · rintro v bs ⟨a, s', h, rfl, rfl⟩
      repeat (first | refine q_then_panic ?_ | refine q_block_panic ?_ | refine q_scope_panic ?_)
      refine finX_panic (recvB l me log hd tl s') (by (repeat (first | exact trivial | refine ⟨⟨rfl, rfl⟩, ?_⟩))) (by (repeat (first | exact trivial | refine ⟨rfl, ?_⟩))) ?_
      exact ⟨a, s', by rw [← hE]; exact bind_err h, rfl, rfl⟩
    rintro d bs ⟨x, s2, hq2, hle2, hlen2, rfl, rfl⟩
    rw [bind_ok hq2, bind_assoc, bind_ok last_ok] at hE
    have hs2 := loadM_made hq2
    have hg2 : s2.gone = s.gone := by rw [(loadM_gone hq2).1]; exact htg
    refine go ?_
    refine a_q (lend_step (plast_c l me s2 (by omega)) rfl (fun a w => Try.call86 a w) rfl rfl) rfl rfl rfl ?_
    refine go ?_
    generalize h2 : decide (x = 0) = cc; cases cc
    · rw [if_neg (of_decide_eq_false h2)] at hE
      refine go ?_
      generalize h3 : decide (x = 1) = cc; cases cc
      · rw [if_neg (of_decide_eq_false h3), bind_assoc] at hE
        refine go ?_
        refine a_callX (cas_x l me log s2 (nodeF l (ofW was).idx (1 + (i : Int))) x 1 hlen2 hl) rfl (fun a w => Try.call85 a w) rfl rfl (by (repeat (first | exact trivial | refine ⟨⟨rfl, rfl⟩, ?_⟩))) (by (repeat (first | exact trivial | refine ⟨.inr rfl, ?_⟩ | refine ⟨.inl rfl, ?_⟩))) rfl rfl rfl rfl ?_ ?_ ?_ ?_
        · rintro d bs ⟨x, s', _, _, _, rfl, rfl⟩; exact ⟨.inl rfl, .inl rfl, .inl rfl, trivial⟩
        · rintro v bs ⟨a, s', _, rfl, rfl⟩; exact ⟨.inl rfl, .inl rfl, .inl rfl, trivial⟩
        · rintro v bs ⟨a, s', h, rfl, rfl⟩
          repeat (first | refine q_then_panic ?_ | refine q_block_panic ?_ | refine q_scope_panic ?_)
          refine finX_panic (recvB l me log hd tl s') (by (repeat (first | exact trivial | refine ⟨⟨rfl, rfl⟩, ?_⟩))) (by (repeat (first | exact trivial | refine ⟨rfl, ?_⟩))) ?_
          exact ⟨a, s', by rw [← hE]; exact bind_err h, rfl, rfl⟩
        rintro d bs ⟨okk, s3, hq3, hle3, hlen3, rfl, rfl⟩
        rw [bind_ok hq3] at hE
        have hs3 := casM_made hq3
        have hg3 : s3.gone = s.gone := by rw [(casM_gone hq3).1]; exact hg2
        refine go ?_
        cases okk
        · rw [if_neg (by decide)] at hE
          refine go ?_
          exact ⟨(i + 1, s3), ⟨by simp only; omega, by simp only; omega, hlen3, hg3, hE⟩, by simp only; omega, zX⟩
        · rw [if_pos rfl, bind_assoc, bind_ok last_ok] at hE
          have hE : Fk (some ⟨w64 (x - 2), true, 0, (s3.made : Int) - 1, []⟩) log s3 = E := hE
          rw [← hF] at hE
          simp only at hE
          refine go ?_
          refine a_q (lend_step (plast_c l me s3 (by omega)) rfl (fun a w => Try.call86 a w) rfl rfl) rfl rfl rfl ?_
          refine go ?_
          refine a_callX (clear_x l hL me log s3 hlen3 hl) rfl (fun a w => Try.call88 a w) rfl rfl (by (repeat (first | exact trivial | refine ⟨⟨rfl, rfl⟩, ?_⟩))) (by (repeat (first | exact trivial | refine ⟨.inr rfl, ?_⟩ | refine ⟨.inl rfl, ?_⟩))) rfl rfl rfl rfl ?_ ?_ ?_ ?_
          · rintro d bs ⟨x, s', _, _, _, rfl, rfl⟩; exact ⟨.inl rfl, .inl rfl, .inl rfl, trivial⟩
          · rintro v bs ⟨a, s', _, rfl, rfl⟩; exact ⟨.inl rfl, .inl rfl, .inl rfl, trivial⟩
          · rintro v bs ⟨a, s', h, rfl, rfl⟩
            repeat (first | refine q_then_panic ?_ | refine q_block_panic ?_ | refine q_scope_panic ?_)
            refine finX_panic (recvB l me log hd tl s') (by (repeat (first | exact trivial | refine ⟨⟨rfl, rfl⟩, ?_⟩))) (by (repeat (first | exact trivial | refine ⟨rfl, ?_⟩))) ?_
            exact ⟨a, s', by rw [← hE]; exact bind_err h, rfl, rfl⟩
          rintro d bs ⟨u, s5, hq5, hle5, hlen5, rfl, rfl⟩
          rw [bind_ok hq5] at hE
          have hg5 : s5.gone = s.gone := (clrL_gone hq5).trans hg3
          refine go ?_
          rw [wrap64]
          refine go ?_
          first | refine finX_ret (recvB l me log hd tl s5) rfl rfl (by (repeat (first | exact trivial | refine ⟨⟨rfl, rfl⟩, ?_⟩))) (by (repeat (first | exact trivial | refine ⟨rfl, ?_⟩))) ?_ | refine finX_normal (recvB l me log hd tl s5) rfl rfl (by (repeat (first | exact trivial | refine ⟨⟨rfl, rfl⟩, ?_⟩))) (by (repeat (first | exact trivial | refine ⟨rfl, ?_⟩))) ?_
          exact ⟨_, s5, hE.symm, by omega, hlen5, by rw [hg5]; exact hgo, by rw [hg5]; omega, rfl, rfl⟩
      · rw [if_pos (of_decide_eq_true h3)] at hE
        refine go ?_
        exact ⟨(i + 1, s2), ⟨by simp only; omega, by simp only; omega, hlen2, hg2, hE⟩, by simp only; omega, zX⟩
    · rw [if_pos (of_decide_eq_true h2)] at hE
      have hE : Fk (some ⟨0, false, 0, (s2.made : Int) - 1, []⟩) log s2 = E := hE
      rw [← hF] at hE
      simp only at hE
      refine go ?_
      refine a_callX (clear_x l hL me log s2 hlen2 hl) rfl (fun a w => Try.call88 a w) rfl rfl (by (repeat (first | exact trivial | refine ⟨⟨rfl, rfl⟩, ?_⟩))) (by (repeat (first | exact trivial | refine ⟨.inr rfl, ?_⟩ | refine ⟨.inl rfl, ?_⟩))) rfl rfl rfl rfl ?_ ?_ ?_ ?_
      · rintro d bs ⟨x, s', _, _, _, rfl, rfl⟩; exact ⟨.inl rfl, .inl rfl, .inl rfl, trivial⟩
      · rintro v bs ⟨a, s', _, rfl, rfl⟩; exact ⟨.inl rfl, .inl rfl, .inl rfl, trivial⟩
      · rintro v bs ⟨a, s', h, rfl, rfl⟩
        repeat (first | refine q_then_panic ?_ | refine q_block_panic ?_ | refine q_scope_panic ?_)
        refine finX_panic (recvB l me log hd tl s') (by (repeat (first | exact trivial | refine ⟨⟨rfl, rfl⟩, ?_⟩))) (by (repeat (first | exact trivial | refine ⟨rfl, ?_⟩))) ?_
        exact ⟨a, s', by rw [← hE]; exact bind_err h, rfl, rfl⟩
      rintro d bs ⟨u, s5, hq5, hle5, hlen5, rfl, rfl⟩
      rw [bind_ok hq5] at hE
      have hg5 : s5.gone = s.gone := (clrL_gone hq5).trans hg2
      refine go ?_
      first | refine finX_ret (recvB l me log hd tl s5) rfl rfl (by (repeat (first | exact trivial | refine ⟨⟨rfl, rfl⟩, ?_⟩))) (by (repeat (first | exact trivial | refine ⟨rfl, ?_⟩))) ?_ | refine finX_normal (recvB l me log hd tl s5) rfl rfl (by (repeat (first | exact trivial | refine ⟨⟨rfl, rfl⟩, ?_⟩))) (by (repeat (first | exact trivial | refine ⟨rfl, ?_⟩))) ?_
      exact ⟨_, s5, hE.symm, by omega, hlen5, by rw [hg5]; exact hgo, by rw [hg5]; omega, rfl, rfl⟩
  · have h1' := of_decide_eq_false h1
    rw [restP_nil (by omega), placesR] at hE
    have hE : Fk none log t = E := hE
    rw [← hF] at hE
    simp only at hE
    refine go ?_
    refine awp_region_w 5 [] rfl rfl (by kernel_rfl) (by kernel_rfl) (by kernel_rfl) ?_
    refine goQ ?_
    refine r_q (lend_step (pnode_c l hL me t (ofW was).idx 0 (by omega) (by omega)) rfl (fun a w => Try.call83 a w) rfl rfl) rfl rfl ?_
    refine goQ ?_
    refine a_callX (load_x l me log t (nodeF l (ofW was).idx 0) ht1 hl) rfl (fun a w => Try.call84 a w) rfl rfl (by (repeat (first | exact trivial | refine ⟨⟨rfl, rfl⟩, ?_⟩))) (by (repeat (first | exact trivial | refine ⟨.inr rfl, ?_⟩ | refine ⟨.inl rfl, ?_⟩))) rfl rfl rfl rfl ?_ ?_ ?_ ?_
    · rintro d bs ⟨x, s', _, _, _, rfl, rfl⟩; exact ⟨.inl rfl, .inl rfl, .inl rfl, trivial⟩
    · rintro v bs ⟨a, s', _, rfl, rfl⟩; exact ⟨.inl rfl, .inl rfl, .inl rfl, trivial⟩
    · rintro v bs ⟨a, s', h, rfl, rfl⟩
      repeat (first | refine q_then_panic ?_ | refine q_block_panic ?_ | refine q_scope_panic ?_)
      refine finX_panic (recvB l me log hd tl s') (by (repeat (first | exact trivial | refine ⟨⟨rfl, rfl⟩, ?_⟩))) (by (repeat (first | exact trivial | refine ⟨rfl, ?_⟩))) ?_
      exact ⟨a, s', by rw [← hE]; exact bind_err h, rfl, rfl⟩
    rintro d bs ⟨next, s2, hq2, hle2, hlen2, rfl, rfl⟩
    rw [bind_ok hq2] at hE
    have hs2 := loadM_made hq2
    have hg2 : s2.gone = s.gone := by rw [(loadM_gone hq2).1]; exact htg
    refine go ?_
    generalize h2 : decide (next = 0) = cc; cases cc
    · rw [if_neg (of_decide_eq_false h2)] at hE
      refine go ?_
      refine a_callX (load_x l me log s2 tl hlen2 hl) rfl (fun a w => Try.call84 a w) rfl rfl (by (repeat (first | exact trivial | refine ⟨⟨rfl, rfl⟩, ?_⟩))) (by (repeat (first | exact trivial | refine ⟨.inr rfl, ?_⟩ | refine ⟨.inl rfl, ?_⟩))) rfl rfl rfl rfl ?_ ?_ ?_ ?_
      · rintro d bs ⟨x, s', _, _, _, rfl, rfl⟩; exact ⟨.inl rfl, .inl rfl, .inl rfl, trivial⟩
      · rintro v bs ⟨a, s', _, rfl, rfl⟩; exact ⟨.inl rfl, .inl rfl, .inl rfl, trivial⟩
      · rintro v bs ⟨a, s', h, rfl, rfl⟩
        repeat (first | refine q_then_panic ?_ | refine q_block_panic ?_ | refine q_scope_panic ?_)
        refine finX_panic (recvB l me log hd tl s') (by (repeat (first | exact trivial | refine ⟨⟨rfl, rfl⟩, ?_⟩))) (by (repeat (first | exact trivial | refine ⟨rfl, ?_⟩))) ?_
        exact ⟨a, s', by rw [← hE]; exact bind_err h, rfl, rfl⟩
      rintro d bs ⟨en, s3, hq3, hle3, hlen3, rfl, rfl⟩
      rw [bind_ok hq3] at hE
      have hg3 : s3.gone = s.gone := by rw [(loadM_gone hq3).1]; exact hg2
      have hx3 := ofW_cnt en
      refine go ?_
      refine a_q (call_step (of_c en) rfl (fun a w => Try.call35 a w) rfl) rfl rfl rfl ?_
      refine go ?_
      generalize h3 : decide ((ofW en).idx = (ofW was).idx) = cc; cases cc
      · rw [if_neg (of_decide_eq_false h3)] at hE
        refine go ?_
        rw [attR2] at hE
        refine awp_region_w 7 [] rfl rfl (by kernel_rfl) (by kernel_rfl) (by kernel_rfl) ?_
        refine goQ ?_
        refine r_q (call_step (turn_c (ofW was) next hx2.1 hx2.2) rfl (fun a w => Try.call89 a w) rfl) rfl rfl ?_
        refine goQ ?_
        refine r_q (call_step (pack_c (turnW (ofW was) next)) rfl (fun a w => Try.call41 a w) rfl) rfl rfl ?_
        refine goQ ?_
        refine a_callX (cas_x l me log s3 hd was (packW (turnW (ofW was) next)) hlen3 hl) rfl (fun a w => Try.call85 a w) rfl rfl (by (repeat (first | exact trivial | refine ⟨⟨rfl, rfl⟩, ?_⟩))) (by (repeat (first | exact trivial | refine ⟨.inr rfl, ?_⟩ | refine ⟨.inl rfl, ?_⟩))) rfl rfl rfl rfl ?_ ?_ ?_ ?_
        · rintro d bs ⟨x, s', _, _, _, rfl, rfl⟩; exact ⟨.inl rfl, .inl rfl, .inl rfl, trivial⟩
        · rintro v bs ⟨a, s', _, rfl, rfl⟩; exact ⟨.inl rfl, .inl rfl, .inl rfl, trivial⟩
        · rintro v bs ⟨a, s', h, rfl, rfl⟩
          repeat (first | refine q_then_panic ?_ | refine q_block_panic ?_ | refine q_scope_panic ?_)
          refine finX_panic (recvB l me log hd tl s') (by (repeat (first | exact trivial | refine ⟨⟨rfl, rfl⟩, ?_⟩))) (by (repeat (first | exact trivial | refine ⟨rfl, ?_⟩))) ?_
          exact ⟨a, s', by rw [← hE]; exact bind_err h, rfl, rfl⟩
        rintro d bs ⟨okk, s5, hq5, hle5, hlen5, rfl, rfl⟩
        rw [bind_ok hq5] at hE
        have hg5 : s5.gone = s.gone := by rw [(casM_gone hq5).1]; exact hg3
        have hs5 := casM_made hq5
        refine go ?_
        cases okk
        · rw [if_neg (by decide)] at hE
          refine go ?_
          first | refine finX_ret (recvB l me log hd tl s5) rfl rfl (by (repeat (first | exact trivial | refine ⟨⟨rfl, rfl⟩, ?_⟩))) (by (repeat (first | exact trivial | refine ⟨rfl, ?_⟩))) ?_ | refine finX_normal (recvB l me log hd tl s5) rfl rfl (by (repeat (first | exact trivial | refine ⟨⟨rfl, rfl⟩, ?_⟩))) (by (repeat (first | exact trivial | refine ⟨rfl, ?_⟩))) ?_
          exact ⟨_, s5, hE.symm, by omega, hlen5, by rw [hg5]; exact hgo, by rw [hg5]; omega, rfl, rfl⟩
        · rw [if_pos rfl] at hE
          refine go ?_
          refine a_callX (clear_x l hL me log s5 hlen5 hl) rfl (fun a w => Try.call88 a w) rfl rfl (by (repeat (first | exact trivial | refine ⟨⟨rfl, rfl⟩, ?_⟩))) (by (repeat (first | exact trivial | refine ⟨.inr rfl, ?_⟩ | refine ⟨.inl rfl, ?_⟩))) rfl rfl rfl rfl ?_ ?_ ?_ ?_
          · rintro d bs ⟨x, s', _, _, _, rfl, rfl⟩; exact ⟨.inl rfl, .inl rfl, .inl rfl, trivial⟩
          · rintro v bs ⟨a, s', _, rfl, rfl⟩; exact ⟨.inl rfl, .inl rfl, .inl rfl, trivial⟩
          · rintro v bs ⟨a, s', h, rfl, rfl⟩
            repeat (first | refine q_then_panic ?_ | refine q_block_panic ?_ | refine q_scope_panic ?_)
            refine finX_panic (recvB l me log hd tl s') (by (repeat (first | exact trivial | refine ⟨⟨rfl, rfl⟩, ?_⟩))) (by (repeat (first | exact trivial | refine ⟨rfl, ?_⟩))) ?_
            exact ⟨a, s', by rw [← hE]; exact bind_err h, rfl, rfl⟩
          rintro d bs ⟨u, s6, hq6, hle6, hlen6, rfl, rfl⟩
          rw [bind_ok hq6] at hE
          have hg6 : s6.gone = s.gone := (clrL_gone hq6).trans hg5
          refine go ?_
          refine a_callX (retire_x l hL me log s6 (ofW was).idx (by omega) (by rw [hg6]; exact hgo) (by rw [hg6]; exact hgl) hlen6 hl) rfl (fun a w => Try.call93 a w) rfl rfl (by (repeat (first | exact trivial | refine ⟨⟨rfl, rfl⟩, ?_⟩))) (by (repeat (first | exact trivial | refine ⟨.inr rfl, ?_⟩ | refine ⟨.inl rfl, ?_⟩))) rfl rfl rfl rfl ?_ ?_ ?_ ?_
          · rintro d bs ⟨x, s', _, _, _, rfl, rfl⟩; exact ⟨.inl rfl, .inl rfl, .inl rfl, trivial⟩
          · rintro v bs ⟨a, s', _, rfl, rfl⟩; exact ⟨.inl rfl, .inl rfl, .inl rfl, trivial⟩
          · rintro v bs ⟨a, s', h, rfl, rfl⟩
            repeat (first | refine q_then_panic ?_ | refine q_block_panic ?_ | refine q_scope_panic ?_)
            refine finX_panic (recvB l me log hd tl s') (by (repeat (first | exact trivial | refine ⟨⟨rfl, rfl⟩, ?_⟩))) (by (repeat (first | exact trivial | refine ⟨rfl, ?_⟩))) ?_
            exact ⟨a, s', by rw [← hE]; exact bind_err h, rfl, rfl⟩
          rintro d bs ⟨u, s7, hq7, hle7, hlen7, rfl, rfl⟩
          rw [bind_ok hq7] at hE
          have hr1 := retireM_len hq7
          have hr2 := retireM_ok hq7 (by rw [hg6]; exact hgo) (by omega)
          rw [hg6] at hr1
          refine go ?_
          first | refine finX_ret (recvB l me log hd tl s7) rfl rfl (by (repeat (first | exact trivial | refine ⟨⟨rfl, rfl⟩, ?_⟩))) (by (repeat (first | exact trivial | refine ⟨rfl, ?_⟩))) ?_ | refine finX_normal (recvB l me log hd tl s7) rfl rfl (by (repeat (first | exact trivial | refine ⟨⟨rfl, rfl⟩, ?_⟩))) (by (repeat (first | exact trivial | refine ⟨rfl, ?_⟩))) ?_
          exact ⟨_, s7, hE.symm, by omega, hlen7, hr2, by omega, rfl, rfl⟩
      · rw [if_pos (of_decide_eq_true h3)] at hE
        refine go ?_
        refine awp_region_w 7 [] rfl rfl (by kernel_rfl) (by kernel_rfl) (by kernel_rfl) ?_
        refine goQ ?_
        refine r_q (call_step (turn_c (ofW en) next hx3.1 hx3.2) rfl (fun a w => Try.call89 a w) rfl) rfl rfl ?_
        refine goQ ?_
        refine r_q (call_step (pack_c (turnW (ofW en) next)) rfl (fun a w => Try.call41 a w) rfl) rfl rfl ?_
        refine goQ ?_
        refine a_callX (cas_x l me log s3 tl en (packW (turnW (ofW en) next)) hlen3 hl) rfl (fun a w => Try.call85 a w) rfl rfl (by (repeat (first | exact trivial | refine ⟨⟨rfl, rfl⟩, ?_⟩))) (by (repeat (first | exact trivial | refine ⟨.inr rfl, ?_⟩ | refine ⟨.inl rfl, ?_⟩))) rfl rfl rfl rfl ?_ ?_ ?_ ?_
        · rintro d bs ⟨x, s', _, _, _, rfl, rfl⟩; exact ⟨.inl rfl, .inl rfl, .inl rfl, trivial⟩
        · rintro v bs ⟨a, s', _, rfl, rfl⟩; exact ⟨.inl rfl, .inl rfl, .inl rfl, trivial⟩
        · rintro v bs ⟨a, s', h, rfl, rfl⟩
          repeat (first | refine q_then_panic ?_ | refine q_block_panic ?_ | refine q_scope_panic ?_)
          refine finX_panic (recvB l me log hd tl s') (by (repeat (first | exact trivial | refine ⟨⟨rfl, rfl⟩, ?_⟩))) (by (repeat (first | exact trivial | refine ⟨rfl, ?_⟩))) ?_
          exact ⟨a, s', by rw [← hE]; exact bind_err h, rfl, rfl⟩
        rintro d bs ⟨okt, s4, hq4, hle4, hlen4, rfl, rfl⟩
        rw [bind_ok hq4] at hE
        have hg4 : s4.gone = s.gone := by rw [(casM_gone hq4).1]; exact hg3
        have hs4 := casM_made hq4
        refine go ?_
        rw [attR2] at hE
        refine awp_region_w 7 [] rfl rfl (by kernel_rfl) (by kernel_rfl) (by kernel_rfl) ?_
        refine goQ ?_
        refine r_q (call_step (turn_c (ofW was) next hx2.1 hx2.2) rfl (fun a w => Try.call89 a w) rfl) rfl rfl ?_
        refine goQ ?_
        refine r_q (call_step (pack_c (turnW (ofW was) next)) rfl (fun a w => Try.call41 a w) rfl) rfl rfl ?_
        refine goQ ?_
        refine a_callX (cas_x l me log s4 hd was (packW (turnW (ofW was) next)) hlen4 hl) rfl (fun a w => Try.call85 a w) rfl rfl (by (repeat (first | exact trivial | refine ⟨⟨rfl, rfl⟩, ?_⟩))) (by (repeat (first | exact trivial | refine ⟨.inr rfl, ?_⟩ | refine ⟨.inl rfl, ?_⟩))) rfl rfl rfl rfl ?_ ?_ ?_ ?_
        · rintro d bs ⟨x, s', _, _, _, rfl, rfl⟩; exact ⟨.inl rfl, .inl rfl, .inl rfl, trivial⟩
        · rintro v bs ⟨a, s', _, rfl, rfl⟩; exact ⟨.inl rfl, .inl rfl, .inl rfl, trivial⟩
        · rintro v bs ⟨a, s', h, rfl, rfl⟩
          repeat (first | refine q_then_panic ?_ | refine q_block_panic ?_ | refine q_scope_panic ?_)
          refine finX_panic (recvB l me log hd tl s') (by (repeat (first | exact trivial | refine ⟨⟨rfl, rfl⟩, ?_⟩))) (by (repeat (first | exact trivial | refine ⟨rfl, ?_⟩))) ?_
          exact ⟨a, s', by rw [← hE]; exact bind_err h, rfl, rfl⟩
        rintro d bs ⟨okk, s5, hq5, hle5, hlen5, rfl, rfl⟩
        rw [bind_ok hq5] at hE
        have hg5 : s5.gone = s.gone := by rw [(casM_gone hq5).1]; exact hg4
        have hs5 := casM_made hq5
        refine go ?_
        cases okk
        · rw [if_neg (by decide)] at hE
          refine go ?_
          first | refine finX_ret (recvB l me log hd tl s5) rfl rfl (by (repeat (first | exact trivial | refine ⟨⟨rfl, rfl⟩, ?_⟩))) (by (repeat (first | exact trivial | refine ⟨rfl, ?_⟩))) ?_ | refine finX_normal (recvB l me log hd tl s5) rfl rfl (by (repeat (first | exact trivial | refine ⟨⟨rfl, rfl⟩, ?_⟩))) (by (repeat (first | exact trivial | refine ⟨rfl, ?_⟩))) ?_
          exact ⟨_, s5, hE.symm, by omega, hlen5, by rw [hg5]; exact hgo, by rw [hg5]; omega, rfl, rfl⟩
        · rw [if_pos rfl] at hE
          refine go ?_
          refine a_callX (clear_x l hL me log s5 hlen5 hl) rfl (fun a w => Try.call88 a w) rfl rfl (by (repeat (first | exact trivial | refine ⟨⟨rfl, rfl⟩, ?_⟩))) (by (repeat (first | exact trivial | refine ⟨.inr rfl, ?_⟩ | refine ⟨.inl rfl, ?_⟩))) rfl rfl rfl rfl ?_ ?_ ?_ ?_
          · rintro d bs ⟨x, s', _, _, _, rfl, rfl⟩; exact ⟨.inl rfl, .inl rfl, .inl rfl, trivial⟩
          · rintro v bs ⟨a, s', _, rfl, rfl⟩; exact ⟨.inl rfl, .inl rfl, .inl rfl, trivial⟩
          · rintro v bs ⟨a, s', h, rfl, rfl⟩
            repeat (first | refine q_then_panic ?_ | refine q_block_panic ?_ | refine q_scope_panic ?_)
            refine finX_panic (recvB l me log hd tl s') (by (repeat (first | exact trivial | refine ⟨⟨rfl, rfl⟩, ?_⟩))) (by (repeat (first | exact trivial | refine ⟨rfl, ?_⟩))) ?_
            exact ⟨a, s', by rw [← hE]; exact bind_err h, rfl, rfl⟩
          rintro d bs ⟨u, s6, hq6, hle6, hlen6, rfl, rfl⟩
          rw [bind_ok hq6] at hE
          have hg6 : s6.gone = s.gone := (clrL_gone hq6).trans hg5
          refine go ?_
          refine a_callX (retire_x l hL me log s6 (ofW was).idx (by omega) (by rw [hg6]; exact hgo) (by rw [hg6]; exact hgl) hlen6 hl) rfl (fun a w => Try.call93 a w) rfl rfl (by (repeat (first | exact trivial | refine ⟨⟨rfl, rfl⟩, ?_⟩))) (by (repeat (first | exact trivial | refine ⟨.inr rfl, ?_⟩ | refine ⟨.inl rfl, ?_⟩))) rfl rfl rfl rfl ?_ ?_ ?_ ?_
          · rintro d bs ⟨x, s', _, _, _, rfl, rfl⟩; exact ⟨.inl rfl, .inl rfl, .inl rfl, trivial⟩
          · rintro v bs ⟨a, s', _, rfl, rfl⟩; exact ⟨.inl rfl, .inl rfl, .inl rfl, trivial⟩
          · rintro v bs ⟨a, s', h, rfl, rfl⟩
            repeat (first | refine q_then_panic ?_ | refine q_block_panic ?_ | refine q_scope_panic ?_)
            refine finX_panic (recvB l me log hd tl s') (by (repeat (first | exact trivial | refine ⟨⟨rfl, rfl⟩, ?_⟩))) (by (repeat (first | exact trivial | refine ⟨rfl, ?_⟩))) ?_
            exact ⟨a, s', by rw [← hE]; exact bind_err h, rfl, rfl⟩
          rintro d bs ⟨u, s7, hq7, hle7, hlen7, rfl, rfl⟩
          rw [bind_ok hq7] at hE
          have hr1 := retireM_len hq7
          have hr2 := retireM_ok hq7 (by rw [hg6]; exact hgo) (by omega)
          rw [hg6] at hr1
          refine go ?_
          first | refine finX_ret (recvB l me log hd tl s7) rfl rfl (by (repeat (first | exact trivial | refine ⟨⟨rfl, rfl⟩, ?_⟩))) (by (repeat (first | exact trivial | refine ⟨rfl, ?_⟩))) ?_ | refine finX_normal (recvB l me log hd tl s7) rfl rfl (by (repeat (first | exact trivial | refine ⟨⟨rfl, rfl⟩, ?_⟩))) (by (repeat (first | exact trivial | refine ⟨rfl, ?_⟩))) ?_
          exact ⟨_, s7, hE.symm, by omega, hlen7, hr2, by omega, rfl, rfl⟩
    · rw [if_pos (of_decide_eq_true h2), bind_ok last_ok] at hE
      refine go ?_
      refine a_q (lend_step (plast_c l me s2 (by omega)) rfl (fun a w => Try.call86 a w) rfl rfl) rfl rfl rfl ?_
      refine go ?_
      refine a_callX (clear_x l hL me log s2 hlen2 hl) rfl (fun a w => Try.call88 a w) rfl rfl (by (repeat (first | exact trivial | refine ⟨⟨rfl, rfl⟩, ?_⟩))) (by (repeat (first | exact trivial | refine ⟨.inr rfl, ?_⟩ | refine ⟨.inl rfl, ?_⟩))) rfl rfl rfl rfl ?_ ?_ ?_ ?_
      · rintro d bs ⟨x, s', _, _, _, rfl, rfl⟩; exact ⟨.inl rfl, .inl rfl, .inl rfl, trivial⟩
      · rintro v bs ⟨a, s', _, rfl, rfl⟩; exact ⟨.inl rfl, .inl rfl, .inl rfl, trivial⟩
      · rintro v bs ⟨a, s', h, rfl, rfl⟩
        repeat (first | refine q_then_panic ?_ | refine q_block_panic ?_ | refine q_scope_panic ?_)
        refine finX_panic (recvB l me log hd tl s') (by (repeat (first | exact trivial | refine ⟨⟨rfl, rfl⟩, ?_⟩))) (by (repeat (first | exact trivial | refine ⟨rfl, ?_⟩))) ?_
        exact ⟨a, s', by rw [← hE]; exact bind_err h, rfl, rfl⟩
      rintro d bs ⟨u, s5, hq5, hle5, hlen5, rfl, rfl⟩
      rw [bind_ok hq5] at hE
      have hg5 : s5.gone = s.gone := (clrL_gone hq5).trans hg2
      refine go ?_
      first | refine finX_ret (recvB l me log hd tl s5) rfl rfl (by (repeat (first | exact trivial | refine ⟨⟨rfl, rfl⟩, ?_⟩))) (by (repeat (first | exact trivial | refine ⟨rfl, ?_⟩))) ?_ | refine finX_normal (recvB l me log hd tl s5) rfl rfl (by (repeat (first | exact trivial | refine ⟨⟨rfl, rfl⟩, ?_⟩))) (by (repeat (first | exact trivial | refine ⟨rfl, ?_⟩))) ?_
      exact ⟨_, s5, hE.symm, by omega, hlen5, by rw [hg5]; exact hgo, by rw [hg5]; omega, rfl, rfl⟩
end Go.Proofs.Ytgoijmomglomlaa
