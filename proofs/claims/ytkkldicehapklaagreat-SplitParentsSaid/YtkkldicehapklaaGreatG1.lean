/- A finding: its walk. -/
import Derived.Test.YtkkldicehapklaaGreatG0
import Derived.Test.YtkkldicehapklaaGreatDB
import Derived.Test.YtkkldicehapklaaGreatPB
namespace Go.Proofs.YtkkldicehapklaaGreat
open Go.RowKit
set_option maxRecDepth 100000

abbrev fndD (hd : Int) (f : FoundT) : List Dt := [.ptr 11 0, dB f.there, dI f.prev, dI f.cur, dI f.next, dI f.point, dI hd]
abbrev fndB (l : LayT) (me : Int) (log : List ResT) (hd : Int) (f : FoundT) (s : PsT) : Bxs := [(11, pieceD l me s), (12, [.ptr 11 0]), (13, [dLog log]), (14, fndD hd f)]
structure FiG (log : List ResT) (s s' : PsT) : Prop where
  made : s.made ≤ s'.made
  le : s'.made ≤ log.length
  ok : GoneOk s'.gone
  len : s'.gone.length + s.made ≤ s.gone.length + s'.made
def FiR (l : LayT) (me : Int) (log : List ResT) (hd : Int) (s : PsT) (m : Except AccT (FoundT × PsT)) : Dt → Bxs → Prop := fun d bs => ∃ f s', m = .ok (f, s') ∧ FiG log s s' ∧ s.made < s'.made ∧ 0 ≤ f.cur ∧ f.cur < 65536 ∧ d = .tup [] ∧ bs = fndB l me log hd f s'
def FiX (l : LayT) (me : Int) (log : List ResT) (hd : Int) (m : Except AccT (FoundT × PsT)) : Value → Bxs → Prop := fun x bs => ∃ a s' f, m = .error a ∧ x = askedV a ∧ bs = fndB l me log hd f s'
theorem FiG.same {log : List ResT} {s t s1 : PsT} (h : FiG log s t) (hg : s1.gone = t.gone) (h1 : t.made ≤ s1.made) (h2 : s1.made ≤ log.length) : FiG log s s1 := by
  obtain ⟨a1, a2, a3, a4⟩ := h
  exact ⟨by omega, h2, by rw [hg]; exact a3, by rw [hg]; omega⟩
theorem putE_made3 (x : PsT) (i v : Int) : (x.putE i v).made = x.made := by
  unfold PsT.putE
  split
  · rfl
  · split <;> rfl
theorem guardL_mono {l : LayT} {me i cell : Int} : ∀ {k : Nat} {log : List ResT} {s s' : PsT} {p : Int × Int}, guardL l me i cell k log s = .ok (p, s') → s.made ≤ s'.made ∧ (0 < k → s.made < s'.made)
  | 0, log, s, s', p, h => by cases h; exact ⟨Nat.le_refl _, fun h => absurd h (Nat.lt_irrefl _)⟩
  | k + 1, log, s, s', p, h => by
    rw [guardL] at h
    cases h1 : loadM cell log s with
    | error a => rw [bind_err h1] at h; cases h
    | ok q =>
      obtain ⟨v, s1⟩ := q
      rw [bind_ok h1, bind_ok last_ok] at h
      have g1 := loadM_made h1
      cases h2 : loadM l.era log s1 with
      | error a => rw [bind_err h2] at h; cases h
      | ok q =>
        obtain ⟨er, s2⟩ := q
        rw [bind_ok h2] at h
        have g2 := loadM_made h2
        split at h
        · cases h; exact ⟨by omega, fun _ => by omega⟩
        · cases h3 : storeM (resvF l me i) er log s2 with
          | error a => rw [bind_err h3] at h; cases h
          | ok q =>
            obtain ⟨u, s3⟩ := q
            rw [bind_ok h3] at h
            have g3 := storeM_made h3
            have g4 := (guardL_mono h).1
            rw [putE_made3] at g4
            exact ⟨by omega, fun _ => by omega⟩
theorem guardL_made {l : LayT} {me i cell : Int} {log : List ResT} {s s' : PsT} {p : Int × Int} (hm : s.made ≤ log.length) (h : guardM l me i cell log s = .ok (p, s')) : s.made < s'.made := (guardL_mono h).2 (by omega)
theorem siftL_ok {l : LayT} {held : List Int} : ∀ {gs stay : List (Int × Int)} {log : List ResT} {s s' : PsT} {r : List (Int × Int)}, siftL l held gs stay log s = .ok (r, s') → GoneOk gs → GoneOk stay → GoneOk r
  | [], stay, log, s, s', r, h, _, h2 => by cases h; exact h2
  | g :: gs, stay, log, s, s', r, h, h1, h2 => by
    have h1' : GoneOk gs := fun p hp => h1 p (List.mem_cons_of_mem _ hp)
    rw [siftL] at h
    cases k1 : loadM (nodeF l g.1 6) log s with
    | error a => rw [bind_err k1] at h; cases h
    | ok q =>
      obtain ⟨b, s1⟩ := q
      rw [bind_ok k1] at h
      split at h
      · exact siftL_ok h h1' (fun p hp => by
          rw [List.mem_append, List.mem_singleton] at hp
          rcases hp with hp | rfl
          · exact h2 p hp
          · exact h1 _ (by simp))
      · cases k2 : giveM l g.1 log s1 with
        | error a => rw [bind_err k2] at h; cases h
        | ok q =>
          obtain ⟨u, s2⟩ := q
          rw [bind_ok k2] at h
          exact siftL_ok h h1' h2
theorem goneOk_snoc {g : List (Int × Int)} {n e : Int} (h : GoneOk g) (hn : n < 9223372036854775808) : GoneOk (g ++ [(n, e)]) := by
  intro p hp
  rw [List.mem_append, List.mem_singleton] at hp
  rcases hp with hp | rfl
  · exact h p hp
  · exact hn
theorem retireM_ok {l : LayT} {n : Int} {log : List ResT} {s s' : PsT} {u : Unit} (h : retireM l n log s = .ok (u, s')) (hg : GoneOk s.gone) (hn : n < 9223372036854775808) : GoneOk s'.gone := by
  unfold retireM at h
  cases h1 : loadM l.era log s with
  | error a => rw [bind_err h1] at h; cases h
  | ok q =>
    obtain ⟨er, s1⟩ := q
    rw [bind_ok h1] at h
    have g1 : s1.gone = s.gone := by rw [(loadM_gone h1).1]
    cases h2 : doM ⟨4, l.era, 0, 1⟩ log s1 with
    | error a => rw [bind_err h2] at h; cases h
    | ok q =>
      obtain ⟨r, s2⟩ := q
      rw [bind_ok h2] at h
      have g2 : s2.gone = s.gone := by rw [(doM_gone h2).1]; exact g1
      have hq : GoneOk (s2.gone ++ [(n, er)]) := by rw [g2]; exact goneOk_snoc hg hn
      split at h
      · cases h; exact hq
      · unfold scanM at h
        cases h3 : loadAcc [] (resvsF l 0 l.seats.toNat) log { s2 with gone := s2.gone ++ [(n, er)] } with
        | error a => rw [bind_err h3] at h; cases h
        | ok q =>
          obtain ⟨held, s3⟩ := q
          rw [bind_ok h3] at h
          cases h4 : siftL l held (s2.gone ++ [(n, er)]) [] log s3 with
          | error a => rw [bind_err h4] at h; cases h
          | ok q =>
            obtain ⟨stay, s4⟩ := q
            rw [bind_ok h4] at h
            unfold setGone at h
            cases h
            exact siftL_ok h4 hq (fun p hp => by simp at hp)
theorem plain_c (n : Int) : PureC Tryz.prog 117 [dI n] (dI (plainW n)) := by
  refine pure_fin tabOk Tryz.func117 rfl Tryz.ntmps117 rfl rfl rfl fun w cl => ?_
  refine go ?_
  refine a_q (call_step (pack_c ⟨n, false, 0⟩) rfl (fun a w => Tryz.call47 a w) rfl) rfl rfl rfl ?_
  refine go ?_
  first | refine fin_ret rfl ?_ | refine fin_normal rfl ?_
  rfl
theorem marked_c (n : Int) : PureC Tryz.prog 120 [dI n] (dI (markW n)) := by
  refine pure_fin tabOk Tryz.func120 rfl Tryz.ntmps120 rfl rfl rfl fun w cl => ?_
  refine go ?_
  refine a_q (call_step (pack_c ⟨n, true, 0⟩) rfl (fun a w => Tryz.call47 a w) rfl) rfl rfl rfl ?_
  refine go ?_
  first | refine fin_ret rfl ?_ | refine fin_normal rfl ?_
  rfl
set_option maxHeartbeats 16000000 in
theorem find_x (l : LayT) (hL : LayOk l) (me : Int) (log : List ResT) (hd o : Int) (f0 : FoundT) (s : PsT) (hgo : GoneOk s.gone) (hgl : s.gone.length + log.length ≤ 10000 + s.made) (hm : s.made ≤ log.length) (hl : log.length ≤ 1000000) :
    ImpX Tryz.prog 110 [11, 12, 13, 14] [.ptr 14 0, dI o] (fndB l me log hd f0 s) (FiR l me log hd s (findM l me hd o log s)) (FiX l me log hd (findM l me hd o log s)) := by
  generalize hE : findM l me hd o log s = E
  unfold findM at hE
  refine sX Tryz.func110 Tryz.ntmps110 fun w cl own kf => ?_
  refine awp_jumps (l := 0) (fun p : Nat × FoundT × PsT => FiG log s p.2.2 ∧ 2 * (log.length - p.2.2.made) + 2 ≤ p.1 ∧ findL l me hd o p.1 none log p.2.2 = E) (fun p => ⟨[(0, .ptr 14 0), (1, dI o)], fndB l me log hd p.2.1 p.2.2, []⟩) (fun p => p.1) (2 * (log.length - s.made) + 2, f0, s) ⟨⟨Nat.le_refl _, hm, hgo, Nat.le_refl _⟩, Nat.le_refl _, hE⟩ (zX) ?_
  rintro ⟨k, fd, t⟩ ⟨hG, hk, hE⟩
  simp only at hG hk hE
  obtain ⟨k, rfl⟩ : ∃ j, k = j + 1 := ⟨k - 1, by omega⟩
  refine (show AWP _ _ _ _ ⟨[(0, .ptr 14 0), (1, dI o)], fndB l me log hd fd t, []⟩ from ?_)
  rw [findL] at hE
  refine go ?_
  refine awp_region_3 9 10 [] rfl rfl (by kernel_rfl) (by kernel_rfl) (by kernel_rfl) rfl rfl ?_
  refine goQ ?_
  refine cX (guard_x l hL me log t 0 hd (.inl rfl) hG.le hl) (fun a w => Tryz.call124 a w) ?_ ?_ ?_ ?_
  · rintro d bs ⟨x, s', _, _, _, rfl, rfl⟩; exact ⟨.inl rfl, .inl rfl, .inl rfl, trivial⟩
  · rintro v bs ⟨a, s', _, rfl, rfl⟩; exact ⟨.inl rfl, .inl rfl, .inl rfl, trivial⟩
  · rintro v bs ⟨a, s', h, rfl, rfl⟩
    refine gP ?_
    refine fP (fndB l me log hd fd s') ?_
    exact ⟨a, s', fd, by rw [← hE]; exact bind_err h, rfl, rfl⟩
  rintro d bs ⟨p, s1, hq1, hle1, hlen1, rfl, rfl⟩
  rw [bind_ok hq1] at hE
  have hG1 := hG.same (guardL_gone hq1) hle1 hlen1
  have hm1 := guardL_made hG.le hq1
  obtain ⟨w, told⟩ := p
  simp only at hE
  have hx1 := ofW_idx w
  refine goO ?_
  refine last_in rfl rfl ?_
  refine goQ ?_
  refine go ?_
  refine awp_region_w 11 [] rfl rfl (by kernel_rfl) (by kernel_rfl) (by kernel_rfl) ?_
  refine goQ ?_
  refine r_q (call_step (of_c w) rfl (fun a w => Tryz.call28 a w) rfl) rfl rfl ?_
  refine goQ ?_
  refine go ?_
  refine awp_loop_ok (fun p : Nat × WalkT × Int × PsT => FiG log s p.2.2.2 ∧ s.made < p.2.2.2.made ∧ 2 * (log.length - p.2.2.2.made) + 1 ≤ p.1 ∧ p.1 ≤ k ∧ (p.2.1.a = 0 ∨ p.2.1.a = 1 ∨ p.2.1.a = 2) ∧ (p.2.1.b = 0 ∨ p.2.1.b = 1 ∨ p.2.1.b = 2) ∧ p.2.1.a ≠ p.2.1.b ∧ p.2.2.1 = 3 - p.2.1.a - p.2.1.b ∧ 0 ≤ p.2.1.cur ∧ p.2.1.cur < 65536 ∧ findL l me hd o p.1 (some p.2.1) log p.2.2.2 = E)
    (fun p => ⟨[(4, dI p.2.1.a), (5, dI p.2.1.b), (6, dI p.2.2.1), (0, .ptr 14 0), (1, dI o)], fndB l me log hd ⟨false, p.2.1.prev, p.2.1.cur, 0, p.2.1.pt⟩ p.2.2.2, []⟩) (fun p => p.1) (k, ⟨0, 1, hd, (ofW w).idx, told⟩, 2, s1) ⟨hG1, by have := hG.made; simp only; omega, by simp only; omega, Nat.le_refl _, .inl rfl, .inr (.inl rfl), by simp, rfl, hx1.1, hx1.2, hE⟩ (zX) ?_
  rintro ⟨j, ⟨xa, xb, pv, cu, pt⟩, xc, t2⟩ ⟨hG2, hms, hj, hjk, ha, hb, hab, hc, hcu0, hcu1, hE⟩
  simp only at hG2 hms hj hjk ha hb hab hc hcu0 hcu1 hE
  obtain ⟨j, rfl⟩ : ∃ i, j = i + 1 := ⟨j - 1, by omega⟩
  rw [findL] at hE
  simp only at hE
  rw [← hc] at hE
  refine (show AWP _ _ _ _ ⟨[(4, dI xa), (5, dI xb), (6, dI xc), (0, .ptr 14 0), (1, dI o)], fndB l me log hd ⟨false, pv, cu, 0, pt⟩ t2, []⟩ from ?_)
  refine go ?_
  generalize h1 : decide (cu = 0) = cc; cases cc
  · rw [if_neg (of_decide_eq_false h1)] at hE
    refine go ?_
    refine awp_region_3 15 16 [] rfl rfl (by kernel_rfl) (by kernel_rfl) (by kernel_rfl) rfl rfl ?_
    refine goQ ?_
    refine r_q (lend_step (pnode_c l hL me t2 cu 0 (by omega) (by omega)) rfl (fun a w => Tryz.call112 a w) rfl rfl) rfl rfl ?_
    refine goQ ?_
    refine cX (guard_x l hL me log t2 xb (nodeF l cu 0) hb hG2.le hl) (fun a w => Tryz.call124 a w) ?_ ?_ ?_ ?_
    · rintro d bs ⟨x, s', _, _, _, rfl, rfl⟩; exact ⟨.inl rfl, .inl rfl, .inl rfl, trivial⟩
    · rintro v bs ⟨a, s', _, rfl, rfl⟩; exact ⟨.inl rfl, .inl rfl, .inl rfl, trivial⟩
    · rintro v bs ⟨a, s', h, rfl, rfl⟩
      refine gP ?_
      refine fP (fndB l me log hd ⟨false, pv, cu, 0, pt⟩ s') ?_
      exact ⟨a, s', _, by rw [← hE]; exact bind_err h, rfl, rfl⟩
    rintro d bs ⟨p, s2, hq2, hle2, hlen2, rfl, rfl⟩
    rw [bind_ok hq2] at hE
    have hG3 := hG2.same (guardL_gone hq2) hle2 hlen2
    obtain ⟨nw, tl⟩ := p
    simp only at hE
    refine goO ?_
    refine last_in rfl rfl ?_
    refine goQ ?_
    refine go ?_
    refine awp_region_w 9 [] rfl rfl (by kernel_rfl) (by kernel_rfl) (by kernel_rfl) ?_
    refine goQ ?_
    refine cX (load_x l me log s2 pv hlen2 hl) (fun a w => Tryz.call111 a w) ?_ ?_ ?_ ?_
    · rintro d bs ⟨x, s', _, _, _, rfl, rfl⟩; exact ⟨.inl rfl, .inl rfl, .inl rfl, trivial⟩
    · rintro v bs ⟨a, s', _, rfl, rfl⟩; exact ⟨.inl rfl, .inl rfl, .inl rfl, trivial⟩
    · rintro v bs ⟨a, s', h, rfl, rfl⟩
      refine gP ?_
      refine fP (fndB l me log hd ⟨false, pv, cu, 0, pt⟩ s') ?_
      exact ⟨a, s', _, by rw [← hE]; exact bind_err h, rfl, rfl⟩
    rintro d bs ⟨seen, s3, hq3, hle3, hlen3, rfl, rfl⟩
    rw [bind_ok hq3, bind_ok last_ok] at hE
    have hG4 := hG3.same (by rw [(loadM_gone hq3).1]) hle3 hlen3
    have hm3 := loadM_made hq3
    refine go ?_
    refine a_q (lend_step (plast_c l me s3 (by omega)) rfl (fun a w => Tryz.call119 a w) rfl rfl) rfl rfl rfl ?_
    refine go ?_
    refine a_q (call_step (plain_c cu) rfl (fun a w => Tryz.call117 a w) rfl) rfl rfl rfl ?_
    refine go ?_
    generalize h2 : decide (seen = plainW cu) = cc; cases cc
    · rw [if_neg (of_decide_eq_false h2)] at hE
      refine go ?_
      refine awp_goto ?_
      repeat (first | refine q_then_goto ?_ | refine q_block_goto ?_)
      refine q_jump ?_
      exact ⟨(j, ⟨false, pv, cu, 0, pt⟩, s3), ⟨hG4, by simp only; omega, hE⟩, by simp only; omega, zX⟩
    · rw [if_pos (of_decide_eq_true h2)] at hE
      refine go ?_
      refine awp_region_w 14 [] rfl rfl (by kernel_rfl) (by kernel_rfl) (by kernel_rfl) ?_
      refine goQ ?_
      refine r_q (lend_step (pnode_c l hL me s3 cu 1 (by omega) (by omega)) rfl (fun a w => Tryz.call112 a w) rfl rfl) rfl rfl ?_
      refine goQ ?_
      refine cX (load_x l me log s3 (nodeF l cu 1) hlen3 hl) (fun a w => Tryz.call111 a w) ?_ ?_ ?_ ?_
      · rintro d bs ⟨x, s', _, _, _, rfl, rfl⟩; exact ⟨.inl rfl, .inl rfl, .inl rfl, trivial⟩
      · rintro v bs ⟨a, s', _, rfl, rfl⟩; exact ⟨.inl rfl, .inl rfl, .inl rfl, trivial⟩
      · rintro v bs ⟨a, s', h, rfl, rfl⟩
        refine gP ?_
        refine fP (fndB l me log hd ⟨false, pv, cu, 0, pt⟩ s') ?_
        exact ⟨a, s', _, by rw [← hE]; exact bind_err h, rfl, rfl⟩
      rintro d bs ⟨order, s4, hq4, hle4, hlen4, rfl, rfl⟩
      rw [bind_ok hq4] at hE
      have hG5 := hG4.same (by rw [(loadM_gone hq4).1]) hle4 hlen4
      have hm4 := loadM_made hq4
      have hxn := ofW_idx nw
      refine go ?_
      refine a_q (call_step (of_c nw) rfl (fun a w => Tryz.call28 a w) rfl) rfl rfl rfl ?_
      refine go ?_
      generalize hmk : (ofW nw).mark = mk at *
      cases mk
      · rw [if_neg (by decide)] at hE
        refine go ?_
        generalize h3 : decide (order < o) = cc; cases cc
        · rw [if_neg (of_decide_eq_false h3)] at hE
          refine go ?_
          generalize h4 : decide (order = o) = cc; cases cc
          · rw [if_neg (of_decide_eq_false h4)] at hE
            refine go ?_
            first | refine fR (fndB l me log hd ⟨false, pv, cu, 0, (s3.made : Int) - 1⟩ s4) ?_ | refine fN (fndB l me log hd ⟨false, pv, cu, 0, (s3.made : Int) - 1⟩ s4) ?_
            exact ⟨_, s4, hE.symm, hG5, by omega, hcu0, hcu1, rfl, rfl⟩
          · rw [if_pos (of_decide_eq_true h4)] at hE
            refine go ?_
            first | refine fR (fndB l me log hd ⟨true, pv, cu, nw, tl⟩ s4) ?_ | refine fN (fndB l me log hd ⟨true, pv, cu, nw, tl⟩ s4) ?_
            exact ⟨_, s4, hE.symm, hG5, by omega, hcu0, hcu1, rfl, rfl⟩
        · rw [if_pos (of_decide_eq_true h3)] at hE
          refine go ?_
          refine awp_region_q [14] rfl (by kernel_rfl) (by kernel_rfl) ?_
          refine goQ ?_
          refine r_ea tabOk rfl rfl rfl (by kernel_rfl) ?_
          refine goQ ?_
          refine r_ea tabOk rfl rfl rfl (by kernel_rfl) ?_
          refine goQ ?_
          refine r_q (lend_step (pnode_c l hL me s4 cu 0 (by omega) (by omega)) rfl (fun a w => Tryz.call112 a w) rfl rfl) rfl rfl ?_
          refine goQ ?_
          refine wL ?_
          refine goQ ?_
          refine wL ?_
          refine goQ ?_
          refine go ?_
          exact ⟨(j, ⟨xb, xc, nodeF l cu 0, (ofW nw).idx, tl⟩, xa, s4), ⟨hG5, by simp only; omega, by simp only; omega, by simp only; omega, hb, by simp only; omega, by simp only; omega, by simp only; omega, hxn.1, hxn.2, hE⟩, by simp only; omega, zX⟩
      · rw [if_pos rfl] at hE
        refine go ?_
        refine awp_region_w 18 [] rfl rfl (by kernel_rfl) (by kernel_rfl) (by kernel_rfl) ?_
        refine goQ ?_
        refine r_q (call_step (plain_c cu) rfl (fun a w => Tryz.call117 a w) rfl) rfl rfl ?_
        refine goQ ?_
        refine r_q (call_step (plain_c (ofW nw).idx) rfl (fun a w => Tryz.call117 a w) rfl) rfl rfl ?_
        refine goQ ?_
        refine cX (cas_x l me log s4 pv (plainW cu) (plainW (ofW nw).idx) hlen4 hl) (fun a w => Tryz.call118 a w) ?_ ?_ ?_ ?_
        · rintro d bs ⟨x, s', _, _, _, rfl, rfl⟩; exact ⟨.inl rfl, .inl rfl, .inl rfl, trivial⟩
        · rintro v bs ⟨a, s', _, rfl, rfl⟩; exact ⟨.inl rfl, .inl rfl, .inl rfl, trivial⟩
        · rintro v bs ⟨a, s', h, rfl, rfl⟩
          refine gP ?_
          refine fP (fndB l me log hd ⟨false, pv, cu, 0, pt⟩ s') ?_
          exact ⟨a, s', _, by rw [← hE]; exact bind_err h, rfl, rfl⟩
        rintro d bs ⟨ok, s5, hq5, hle5, hlen5, rfl, rfl⟩
        rw [bind_ok hq5] at hE
        have hG6 := hG5.same (by rw [(casM_gone hq5).1]) hle5 hlen5
        have hm5 := casM_made hq5
        refine go ?_
        cases ok
        · rw [if_neg (by decide)] at hE
          refine go ?_
          refine awp_goto ?_
          repeat (first | refine q_then_goto ?_ | refine q_block_goto ?_)
          refine q_jump ?_
          exact ⟨(j, ⟨false, pv, cu, 0, pt⟩, s5), ⟨hG6, by simp only; omega, hE⟩, by simp only; omega, zX⟩
        · rw [if_pos rfl, bind_ok last_ok] at hE
          refine go ?_
          refine a_q (lend_step (plast_c l me s5 (by omega)) rfl (fun a w => Tryz.call119 a w) rfl rfl) rfl rfl rfl ?_
          refine go ?_
          refine awp_region_w 9 [] rfl rfl (by kernel_rfl) (by kernel_rfl) (by kernel_rfl) ?_
          refine goQ ?_
          refine cX (retire_x l hL me log s5 cu (by omega) hG6.ok (by have := hG6.len; have := hG6.le; omega) hlen5 hl) (fun a w => Tryz.call121 a w) ?_ ?_ ?_ ?_
          · rintro d bs ⟨x, s', _, _, _, rfl, rfl⟩; exact ⟨.inl rfl, .inl rfl, .inl rfl, trivial⟩
          · rintro v bs ⟨a, s', _, rfl, rfl⟩; exact ⟨.inl rfl, .inl rfl, .inl rfl, trivial⟩
          · rintro v bs ⟨a, s', h, rfl, rfl⟩
            refine gP ?_
            refine fP (fndB l me log hd ⟨false, pv, cu, 0, (s5.made : Int) - 1⟩ s') ?_
            exact ⟨a, s', _, by rw [← hE]; exact bind_err h, rfl, rfl⟩
          rintro d bs ⟨u, s6, hq6, hle6, hlen6, rfl, rfl⟩
          rw [bind_ok hq6] at hE
          have hG7 : FiG log s s6 := by
            have e1 := retireM_len hq6
            have e2 : s5.gone = s4.gone := by rw [(casM_gone hq5).1]
            rw [e2] at e1
            have := hG5.len
            have := hG6.made
            exact ⟨by omega, hlen6, retireM_ok hq6 hG6.ok (by omega), by omega⟩
          refine go ?_
          exact ⟨(j, ⟨xb, xa, pv, (ofW nw).idx, (s5.made : Int) - 1⟩, xc, s6), ⟨hG7, by simp only; omega, by simp only; omega, by simp only; omega, hb, ha, by simp only; omega, by simp only; omega, hxn.1, hxn.2, hE⟩, by simp only; omega, zX⟩
  · rw [if_pos (of_decide_eq_true h1)] at hE
    have hcz : cu = 0 := of_decide_eq_true h1
    refine go ?_
    first | refine fR (fndB l me log hd ⟨false, pv, cu, 0, pt⟩ t2) ?_ | refine fN (fndB l me log hd ⟨false, pv, cu, 0, pt⟩ t2) ?_
    exact ⟨_, t2, by rw [← hE, hcz]; rfl, hG2, hms, hcu0, hcu1, rfl, rfl⟩
end Go.Proofs.YtkkldicehapklaaGreat
