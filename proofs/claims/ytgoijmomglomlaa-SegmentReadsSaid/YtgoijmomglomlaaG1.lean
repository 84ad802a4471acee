/- Filling a node, and attempts to send: their walks. -/
import Derived.Test.YtgoijmomglomlaaD9
import Derived.Test.YtgoijmomglomlaaD17
import Derived.Test.YtgoijmomglomlaaPB
namespace Go.Proofs.Ytgoijmomglomlaa
open Go.RowKit
set_option maxRecDepth 100000

/-- The places from one on. -/
def restP (a : Int) (n i : Nat) : List Int := (List.range (n - i)).map fun (j : Nat) => a + i + j
theorem restP_cons {a : Int} {n i : Nat} (h : i < n) : restP a n i = (a + i) :: restP a n (i + 1) := by
  unfold restP
  obtain ⟨k, hk⟩ : ∃ k, n - i = k + 1 := ⟨n - i - 1, by omega⟩
  rw [hk, show n - (i + 1) = k by omega, List.range_succ_eq_map, List.map_cons, List.map_map]
  congr 1
  · omega
  · apply List.map_congr_left
    intro j _
    simp only [Function.comp]
    omega
theorem restP_nil {a : Int} {n i : Nat} (h : n ≤ i) : restP a n i = [] := by
  unfold restP
  rw [show n - i = 0 by omega]; rfl
set_option maxHeartbeats 4000000 in
theorem fill_x (l : LayT) (hL : LayOk l) (me : Int) (log : List ResT) (s : PsT) (n v : Int) (hn : n < 9223372036854775808) (hv0 : 0 ≤ v) (hv1 : v < 4294967296) (hm : s.made ≤ log.length) (hl : log.length ≤ 1000000) : PmC 91 l me log s [.ptr 11 0, dI n, dI v] (fillM l n v log s) (fun _ => .tup []) := by
  generalize hE : fillM l n v log s = E
  unfold fillM at hE
  refine impX_fin tabOk Try.func91 rfl Try.ntmps91 rfl rfl rfl (by (repeat (first | exact trivial | refine ⟨rfl, ?_⟩))) fun w cl own kf => ?_
  refine go ?_
  refine a_q (lend_step (pnode_c l hL me s n 0 (by omega) (by omega)) rfl (fun a w => Try.call83 a w) rfl rfl) rfl rfl rfl ?_
  refine go ?_
  refine a_callX (store_x l me log s (nodeF l n 0) 0 hm hl) rfl (fun a w => Try.call98 a w) rfl rfl (by (repeat (first | exact trivial | refine ⟨⟨rfl, rfl⟩, ?_⟩))) (by (repeat (first | exact trivial | refine ⟨.inr rfl, ?_⟩ | refine ⟨.inl rfl, ?_⟩))) rfl rfl rfl rfl ?_ ?_ ?_ ?_
  · rintro d bs ⟨x, s', _, _, _, rfl, rfl⟩; exact ⟨.inl rfl, .inl rfl, .inl rfl, trivial⟩
  · rintro v bs ⟨a, s', _, rfl, rfl⟩; exact ⟨.inl rfl, .inl rfl, .inl rfl, trivial⟩
  · rintro v bs ⟨a, s', h, rfl, rfl⟩
    repeat (first | refine q_then_panic ?_ | refine q_block_panic ?_ | refine q_scope_panic ?_)
    refine finX_panic (pieceB l me log s') (by (repeat (first | exact trivial | refine ⟨⟨rfl, rfl⟩, ?_⟩))) (by (repeat (first | exact trivial | refine ⟨rfl, ?_⟩))) ?_
    exact ⟨a, s', by rw [← hE]; exact bind_err h, rfl, rfl⟩
  rintro d bs ⟨u, s1, hq1, hle1, hlen1, rfl, rfl⟩
  rw [bind_ok hq1] at hE
  refine go ?_
  refine a_q (lend_step (pnode_c l hL me s1 n 1 (by omega) (by omega)) rfl (fun a w => Try.call83 a w) rfl rfl) rfl rfl rfl ?_
  refine go ?_
  refine a_callX (store_x l me log s1 (nodeF l n 1) (v + 2) hlen1 hl) rfl (fun a w => Try.call98 a w) rfl rfl (by (repeat (first | exact trivial | refine ⟨⟨rfl, rfl⟩, ?_⟩))) (by (repeat (first | exact trivial | refine ⟨.inr rfl, ?_⟩ | refine ⟨.inl rfl, ?_⟩))) rfl rfl rfl rfl ?_ ?_ ?_ ?_
  · rintro d bs ⟨x, s', _, _, _, rfl, rfl⟩; exact ⟨.inl rfl, .inl rfl, .inl rfl, trivial⟩
  · rintro v bs ⟨a, s', _, rfl, rfl⟩; exact ⟨.inl rfl, .inl rfl, .inl rfl, trivial⟩
  · rintro v bs ⟨a, s', h, rfl, rfl⟩
    repeat (first | refine q_then_panic ?_ | refine q_block_panic ?_ | refine q_scope_panic ?_)
    refine finX_panic (pieceB l me log s') (by (repeat (first | exact trivial | refine ⟨⟨rfl, rfl⟩, ?_⟩))) (by (repeat (first | exact trivial | refine ⟨rfl, ?_⟩))) ?_
    exact ⟨a, s', by rw [← hE]; exact bind_err h, rfl, rfl⟩
  rintro d bs ⟨u, s2, hq2, hle2, hlen2, rfl, rfl⟩
  rw [bind_ok hq2] at hE
  rw [show [2, 3, 4, 5] = restP 2 4 0 by decide] at hE
  refine go ?_
  refine awp_loop_ok (fun p : Nat × PsT => p.1 ≤ 4 ∧ s.made ≤ p.2.made ∧ p.2.made ≤ log.length ∧ fillL l n (restP 2 4 p.1) log p.2 = E) (fun p => ⟨[(19, dI p.1), (0, .ptr 11 0), (1, dI n)], pieceB l me log p.2, []⟩) (fun p => 4 - p.1) (0, s2) ⟨by simp only; omega, by simp only; omega, hlen2, hE⟩ (zX) ?_
  rintro ⟨i, t⟩ ⟨hi, ht0, ht1, hE⟩
  simp only at hi ht0 ht1 hE
  refine (show AWP _ _ _ _ ⟨[(19, dI i), (0, .ptr 11 0), (1, dI n)], pieceB l me log t, []⟩ from ?_)
  refine go ?_
  refine ck_b (fun h1 => ?_) (fun h1 => ?_) <;> try rw [h1]
  · have h1' := of_decide_eq_true h1
    rw [restP_cons (by omega), fillL] at hE
    refine go ?_
    refine a_q (lend_step (pnode_c l hL me t n (2 + (i : Int)) (by omega) (by omega)) rfl (fun a w => Try.call83 a w) rfl rfl) rfl rfl rfl ?_
    refine go ?_
    refine a_callX (store_x l me log t (nodeF l n (2 + (i : Int))) 0 ht1 hl) rfl (fun a w => Try.call98 a w) rfl rfl (by (repeat (first | exact trivial | refine ⟨⟨rfl, rfl⟩, ?_⟩))) (by (repeat (first | exact trivial | refine ⟨.inr rfl, ?_⟩ | refine ⟨.inl rfl, ?_⟩))) rfl rfl rfl rfl ?_ ?_ ?_ ?_
    · rintro d bs ⟨x, s', _, _, _, rfl, rfl⟩; exact ⟨.inl rfl, .inl rfl, .inl rfl, trivial⟩
    · rintro v bs ⟨a, s', _, rfl, rfl⟩; exact ⟨.inl rfl, .inl rfl, .inl rfl, trivial⟩
    · rintro v bs ⟨a, s', h, rfl, rfl⟩
      repeat (first | refine q_then_panic ?_ | refine q_block_panic ?_ | refine q_scope_panic ?_)
      refine finX_panic (pieceB l me log s') (by (repeat (first | exact trivial | refine ⟨⟨rfl, rfl⟩, ?_⟩))) (by (repeat (first | exact trivial | refine ⟨rfl, ?_⟩))) ?_
      exact ⟨a, s', by rw [← hE]; exact bind_err h, rfl, rfl⟩
    rintro d bs ⟨u, s3, hq3, hle3, hlen3, rfl, rfl⟩
    have hE2 : fillL l n (restP 2 4 (i + 1)) log s3 = E := by rw [← hE]; exact (bind_ok (f := fun _ => fillL l n (restP 2 4 (i + 1))) hq3).symm
    refine go ?_
    exact ⟨(i + 1, s3), ⟨by simp only; omega, by simp only; omega, hlen3, hE2⟩, by simp only; omega, zX⟩
  · have h1' := of_decide_eq_false h1
    rw [restP_nil (by omega), fillL] at hE
    refine go ?_
    first | refine finX_ret (pieceB l me log t) rfl rfl (by (repeat (first | exact trivial | refine ⟨⟨rfl, rfl⟩, ?_⟩))) (by (repeat (first | exact trivial | refine ⟨rfl, ?_⟩))) ?_ | refine finX_normal (pieceB l me log t) rfl rfl (by (repeat (first | exact trivial | refine ⟨⟨rfl, rfl⟩, ?_⟩))) (by (repeat (first | exact trivial | refine ⟨rfl, ?_⟩))) ?_
    exact ⟨_, t, hE.symm, ht0, ht1, rfl, rfl⟩
/-- The variables of an attempt to send. -/
abbrev sendB (l : LayT) (me : Int) (log : List ResT) (tl v mine : Int) (s : PsT) : Bxs := [(11, pieceD l me s), (12, [.ptr 11 0]), (13, [dLog log]), (14, [.ptr 11 0]), (15, [dI tl]), (16, [dI v]), (17, [dI mine])]
def SaR (l : LayT) (me : Int) (log : List ResT) (tl v : Int) (s : PsT) (m : Except AccT ((Option OutT × Int) × PsT)) : Dt → Bxs → Prop := fun d bs => ∃ r s', m = .ok (r, s') ∧ s.made < s'.made ∧ s'.made ≤ log.length ∧ s'.gone = s.gone ∧ 0 ≤ r.2 ∧ r.2 < 65536 ∧ d = .tup [dOut0 (r.1.getD out0), dB r.1.isSome] ∧ bs = sendB l me log tl v r.2 s'
def SaX (l : LayT) (me : Int) (log : List ResT) (tl v : Int) (m : Except AccT ((Option OutT × Int) × PsT)) : Value → Bxs → Prop := fun x bs => ∃ a s' mine, m = .error a ∧ x = askedV a ∧ bs = sendB l me log tl v mine s'
theorem giveL_gone {l : LayT} {n : Int} : ∀ {k : Nat} {log : List ResT} {s s' : PsT} {u : Unit}, giveL l n k log s = .ok (u, s') → s'.gone = s.gone
  | 0, log, s, s', u, h => by cases h; rfl
  | k + 1, log, s, s', u, h => by
    rw [giveL] at h
    cases h1 : loadM l.free log s with
    | error a => rw [bind_err h1] at h; cases h
    | ok q =>
      obtain ⟨fr, s1⟩ := q
      rw [bind_ok h1] at h
      have g1 : s1.gone = s.gone := by rw [(loadM_gone h1).1]
      cases h2 : storeM (nodeF l n 7) (ofW fr).idx log s1 with
      | error a => rw [bind_err h2] at h; cases h
      | ok q =>
        obtain ⟨lk, s2⟩ := q
        rw [bind_ok h2] at h
        have g2 : s2.gone = s.gone := by rw [(storeM_gone h2).1]; exact g1
        cases h3 : casM l.free fr (packW (turnW (ofW fr) n)) log s2 with
        | error a => rw [bind_err h3] at h; cases h
        | ok q =>
          obtain ⟨ok, s3⟩ := q
          rw [bind_ok h3] at h
          have g3 : s3.gone = s.gone := by rw [(casM_gone h3).1]; exact g2
          split at h
          · cases h; exact g3
          · exact (giveL_gone h).trans g3
theorem fillL_gone {l : LayT} {n : Int} : ∀ {is : List Int} {log : List ResT} {s s' : PsT} {u : Unit}, fillL l n is log s = .ok (u, s') → s'.gone = s.gone
  | [], log, s, s', u, h => by cases h; rfl
  | i :: is, log, s, s', u, h => by
    rw [fillL] at h
    cases h2 : storeM (nodeF l n i) 0 log s with
    | error a => rw [bind_err h2] at h; cases h
    | ok q =>
      obtain ⟨lk, s2⟩ := q
      rw [bind_ok h2] at h
      exact (fillL_gone h).trans (by rw [(storeM_gone h2).1])
theorem fillM_gone {l : LayT} {n v : Int} {log : List ResT} {s s' : PsT} {u : Unit} (h : fillM l n v log s = .ok (u, s')) : s'.gone = s.gone := by
  rw [fillM] at h
  cases h1 : storeM (nodeF l n 0) 0 log s with
  | error a => rw [bind_err h1] at h; cases h
  | ok q =>
    obtain ⟨u1, s1⟩ := q
    rw [bind_ok h1] at h
    cases h2 : storeM (nodeF l n 1) (v + 2) log s1 with
    | error a => rw [bind_err h2] at h; cases h
    | ok q =>
      obtain ⟨u2, s2⟩ := q
      rw [bind_ok h2] at h
      rw [fillL_gone h, (storeM_gone h2).1, (storeM_gone h1).1]
end Go.Proofs.Ytgoijmomglomlaa
