/- Pushes and pops: their walks. -/
import Derived.Test.YtpecgpmdchejdaaD8
namespace Go.Proofs.Ytpecgpmdchejdaa
open Go.RowKit
set_option maxRecDepth 100000

/-- What an operation tells. -/
structure OutT where
  val : Int
  is : Bool
  err : Int
  point : Int
  gone : List (Int × Int)
deriving DecidableEq
abbrev dOut (o : OutT) : Dt := .agg [dI o.val, dB o.is, dI o.err, dI o.point, dGone o.gone]
/-- The same, where nothing is told of retired nodes yet. -/
abbrev dOut0 (o : OutT) : Dt := .agg [dI o.val, dB o.is, dI o.err, dI o.point, .p (.sl true 0 [])]
def pushL (l : LayT) (top n : Int) : Nat → Pm OutT
  | 0 => .pure ⟨0, false, 0, 0, []⟩
  | k + 1 => (loadM top).bind fun was => (storeM (nodeF l n 0) (ofW was).idx).bind fun _ => (casM top was (packW (turnW (ofW was) n))).bind fun ok =>
    if ok then lastM.bind fun at_ => .pure ⟨0, true, 0, at_, []⟩ else pushL l top n k
def pushM (l : LayT) (top v : Int) : Pm OutT := (takeM l).bind fun p =>
  if p.2.2 then (storeM (nodeF l p.1 1) v).bind fun _ => fun log s => pushL l top p.1 (log.length + 1 - s.made) log s
  else .pure ⟨0, false, 8, p.2.1, []⟩
def popL (l : LayT) (me top : Int) : Nat → Pm OutT
  | 0 => .pure ⟨0, false, 0, 0, []⟩
  | k + 1 => (guardM l me top).bind fun p =>
    if (ofW p.1).idx = 0 then (clearM l me).bind fun _ => .pure ⟨0, false, 0, p.2, []⟩
    else (loadM (nodeF l (ofW p.1).idx 0)).bind fun below => (casM top p.1 (packW (turnW (ofW p.1) below))).bind fun ok =>
      if ok then lastM.bind fun at_ => (loadM (nodeF l (ofW p.1).idx 1)).bind fun v => (clearM l me).bind fun _ => (retireM l (ofW p.1).idx).bind fun _ => .pure ⟨v, true, 0, at_, []⟩
      else popL l me top k
def popM (l : LayT) (me top : Int) : Pm OutT := fun log s => popL l me top (log.length + 1 - s.made) log s

theorem takeL_idx {l : LayT} : ∀ {k : Nat} {log : List ResT} {s s' : PsT} {p : Int × Int × Bool}, takeL l k log s = .ok (p, s') → p.1 < 65536 ∧ s'.gone = s.gone
  | 0, log, s, s', p, h => by cases h; exact ⟨by simp, rfl⟩
  | k + 1, log, s, s', p, h => by
    rw [takeL] at h
    cases h1 : loadM l.free log s with
    | error a => rw [bind_err h1] at h; cases h
    | ok q =>
      obtain ⟨fr, s1⟩ := q
      rw [bind_ok h1] at h
      have g1 : s1.gone = s.gone := by rw [(loadM_gone h1).1]
      split at h
      · rw [bind_ok last_ok] at h; cases h; exact ⟨by simp, g1⟩
      · cases h2 : loadM (nodeF l (ofW fr).idx 7) log s1 with
        | error a => rw [bind_err h2] at h; cases h
        | ok q =>
          obtain ⟨lk, s2⟩ := q
          rw [bind_ok h2] at h
          have g2 : s2.gone = s.gone := by rw [(loadM_gone h2).1]; exact g1
          cases h3 : casM l.free fr (packW (turnW (ofW fr) lk)) log s2 with
          | error a => rw [bind_err h3] at h; cases h
          | ok q =>
            obtain ⟨ok, s3⟩ := q
            rw [bind_ok h3] at h
            have g3 : s3.gone = s.gone := by rw [(casM_gone h3).1]; exact g2
            split at h
            · rw [bind_ok last_ok] at h
              cases h4 : loadM l.era log s3 with
              | error a => rw [bind_err h4] at h; cases h
              | ok q =>
                obtain ⟨bi, s4⟩ := q
                rw [bind_ok h4] at h
                have g4 : s4.gone = s.gone := by rw [(loadM_gone h4).1]; exact g3
                cases h5 : storeM (nodeF l (ofW fr).idx 6) bi log s4 with
                | error a => rw [bind_err h5] at h; cases h
                | ok q =>
                  obtain ⟨u, s5⟩ := q
                  rw [bind_ok h5] at h
                  cases h
                  exact ⟨(ofW_idx fr).2, by rw [(storeM_gone h5).1]; exact g4⟩
            · obtain ⟨a, b⟩ := takeL_idx h
              exact ⟨a, b.trans g3⟩

set_option maxHeartbeats 4000000 in
theorem push_x (l : LayT) (hL : LayOk l) (me : Int) (log : List ResT) (s : PsT) (top v : Int) (hm : s.made ≤ log.length) (hl : log.length ≤ 1000000) : PmC 60 l me log s [.ptr 11 0, dI top, dI v] (pushM l top v log s) dOut0 := by
  generalize hE : pushM l top v log s = E
  unfold pushM at hE
  refine impX_fin tabOk Try.func60 rfl Try.ntmps60 rfl rfl rfl (by (repeat (first | exact trivial | refine ⟨rfl, ?_⟩))) fun w cl own kf => ?_
  repeat (first | refine zA ?_ | refine zB ?_ | refine zC ?_ | refine zD ?_ | refine zE ?_ | refine zF ?_ | refine zG ?_ | refine zH ?_ | refine zI ?_ | refine zJ ?_ | refine zK ?_ | refine zL ?_ | refine zT ?_ | refine zU ?_ | refine zV ?_ | refine zW ?_ | refine zM ?_ | refine zN ?_ | refine zO ?_ | refine zP ?_ | refine zQ ?_ | refine zR ?_ | refine zS ?_ | refine z0 ?_ | refine z1 ?_ | refine z2 ?_ | refine z3 ?_ | refine z4 ?_ | refine z5 ?_ | refine z6 ?_ | refine z7 ?_ | refine z8 ?_ | refine z9 ?_)
  refine a_callX (take_x l hL me log s hm hl) rfl (fun a w => Try.call75 a w) rfl rfl (by (repeat (first | exact trivial | refine ⟨⟨rfl, rfl⟩, ?_⟩))) (by (repeat (first | exact trivial | refine ⟨.inr rfl, ?_⟩ | refine ⟨.inl rfl, ?_⟩))) rfl rfl rfl rfl ?_ ?_ ?_ ?_
  · rintro d bs ⟨x, s', _, _, _, rfl, rfl⟩; exact ⟨.inl rfl, .inl rfl, .inl rfl, trivial⟩
  · rintro v bs ⟨a, s', _, rfl, rfl⟩; exact ⟨.inl rfl, .inl rfl, .inl rfl, trivial⟩
  · rintro v bs ⟨a, s', h, rfl, rfl⟩
    repeat (first | refine q_then_panic ?_ | refine q_block_panic ?_ | refine q_scope_panic ?_)
    refine finX_panic (pieceB l me log s') (by (repeat (first | exact trivial | refine ⟨⟨rfl, rfl⟩, ?_⟩))) (by (repeat (first | exact trivial | refine ⟨rfl, ?_⟩))) ?_
    exact ⟨a, s', by rw [← hE]; exact bind_err h, rfl, rfl⟩
  rintro d bs ⟨p, s1, hq1, hle1, hlen1, rfl, rfl⟩
  rw [bind_ok hq1] at hE
  have hp1 := (takeL_idx hq1).1
  obtain ⟨n, at_, ok⟩ := p
  simp only at hE hp1
  repeat (first | refine zA ?_ | refine zB ?_ | refine zC ?_ | refine zD ?_ | refine zE ?_ | refine zF ?_ | refine zG ?_ | refine zH ?_ | refine zI ?_ | refine zJ ?_ | refine zK ?_ | refine zL ?_ | refine zT ?_ | refine zU ?_ | refine zV ?_ | refine zW ?_ | refine zM ?_ | refine zN ?_ | refine zO ?_ | refine zP ?_ | refine zQ ?_ | refine zR ?_ | refine zS ?_ | refine z0 ?_ | refine z1 ?_ | refine z2 ?_ | refine z3 ?_ | refine z4 ?_ | refine z5 ?_ | refine z6 ?_ | refine z7 ?_ | refine z8 ?_ | refine z9 ?_)
  cases ok
  · rw [if_neg (by decide)] at hE
    repeat (first | refine zA ?_ | refine zB ?_ | refine zC ?_ | refine zD ?_ | refine zE ?_ | refine zF ?_ | refine zG ?_ | refine zH ?_ | refine zI ?_ | refine zJ ?_ | refine zK ?_ | refine zL ?_ | refine zT ?_ | refine zU ?_ | refine zV ?_ | refine zW ?_ | refine zM ?_ | refine zN ?_ | refine zO ?_ | refine zP ?_ | refine zQ ?_ | refine zR ?_ | refine zS ?_ | refine z0 ?_ | refine z1 ?_ | refine z2 ?_ | refine z3 ?_ | refine z4 ?_ | refine z5 ?_ | refine z6 ?_ | refine z7 ?_ | refine z8 ?_ | refine z9 ?_)
    first | refine finX_ret (pieceB l me log s1) rfl rfl (by (repeat (first | exact trivial | refine ⟨⟨rfl, rfl⟩, ?_⟩))) (by (repeat (first | exact trivial | refine ⟨rfl, ?_⟩))) ?_ | refine finX_normal (pieceB l me log s1) rfl rfl (by (repeat (first | exact trivial | refine ⟨⟨rfl, rfl⟩, ?_⟩))) (by (repeat (first | exact trivial | refine ⟨rfl, ?_⟩))) ?_
    exact ⟨_, s1, hE.symm, hle1, hlen1, rfl, rfl⟩
  · rw [if_pos rfl] at hE
    repeat (first | refine zA ?_ | refine zB ?_ | refine zC ?_ | refine zD ?_ | refine zE ?_ | refine zF ?_ | refine zG ?_ | refine zH ?_ | refine zI ?_ | refine zJ ?_ | refine zK ?_ | refine zL ?_ | refine zT ?_ | refine zU ?_ | refine zV ?_ | refine zW ?_ | refine zM ?_ | refine zN ?_ | refine zO ?_ | refine zP ?_ | refine zQ ?_ | refine zR ?_ | refine zS ?_ | refine z0 ?_ | refine z1 ?_ | refine z2 ?_ | refine z3 ?_ | refine z4 ?_ | refine z5 ?_ | refine z6 ?_ | refine z7 ?_ | refine z8 ?_ | refine z9 ?_)
    refine a_q (lend_step (pnode_c l hL me s1 n 1 (by omega) (by omega)) rfl (fun a w => Try.call77 a w) rfl rfl) rfl rfl rfl ?_
    repeat (first | refine zA ?_ | refine zB ?_ | refine zC ?_ | refine zD ?_ | refine zE ?_ | refine zF ?_ | refine zG ?_ | refine zH ?_ | refine zI ?_ | refine zJ ?_ | refine zK ?_ | refine zL ?_ | refine zT ?_ | refine zU ?_ | refine zV ?_ | refine zW ?_ | refine zM ?_ | refine zN ?_ | refine zO ?_ | refine zP ?_ | refine zQ ?_ | refine zR ?_ | refine zS ?_ | refine z0 ?_ | refine z1 ?_ | refine z2 ?_ | refine z3 ?_ | refine z4 ?_ | refine z5 ?_ | refine z6 ?_ | refine z7 ?_ | refine z8 ?_ | refine z9 ?_)
    refine a_callX (store_x l me log s1 (nodeF l n 1) v hlen1 hl) rfl (fun a w => Try.call76 a w) rfl rfl (by (repeat (first | exact trivial | refine ⟨⟨rfl, rfl⟩, ?_⟩))) (by (repeat (first | exact trivial | refine ⟨.inr rfl, ?_⟩ | refine ⟨.inl rfl, ?_⟩))) rfl rfl rfl rfl ?_ ?_ ?_ ?_
    · rintro d bs ⟨x, s', _, _, _, rfl, rfl⟩; exact ⟨.inl rfl, .inl rfl, .inl rfl, trivial⟩
    · rintro v bs ⟨a, s', _, rfl, rfl⟩; exact ⟨.inl rfl, .inl rfl, .inl rfl, trivial⟩
    · rintro v bs ⟨a, s', h, rfl, rfl⟩
      repeat (first | refine q_then_panic ?_ | refine q_block_panic ?_ | refine q_scope_panic ?_)
      refine finX_panic (pieceB l me log s') (by (repeat (first | exact trivial | refine ⟨⟨rfl, rfl⟩, ?_⟩))) (by (repeat (first | exact trivial | refine ⟨rfl, ?_⟩))) ?_
      exact ⟨a, s', by rw [← hE]; exact bind_err h, rfl, rfl⟩
    rintro d bs ⟨u, s2, hq2, hle2, hlen2, rfl, rfl⟩
    rw [bind_ok hq2] at hE
    repeat (first | refine zA ?_ | refine zB ?_ | refine zC ?_ | refine zD ?_ | refine zE ?_ | refine zF ?_ | refine zG ?_ | refine zH ?_ | refine zI ?_ | refine zJ ?_ | refine zK ?_ | refine zL ?_ | refine zT ?_ | refine zU ?_ | refine zV ?_ | refine zW ?_ | refine zM ?_ | refine zN ?_ | refine zO ?_ | refine zP ?_ | refine zQ ?_ | refine zR ?_ | refine zS ?_ | refine z0 ?_ | refine z1 ?_ | refine z2 ?_ | refine z3 ?_ | refine z4 ?_ | refine z5 ?_ | refine z6 ?_ | refine z7 ?_ | refine z8 ?_ | refine z9 ?_)
    refine awp_loop_ok (fun p : Nat × PsT => s.made ≤ p.2.made ∧ p.2.made ≤ log.length ∧ log.length - p.2.made < p.1 ∧ pushL l top n p.1 log p.2 = E) (fun p => ⟨[(0, .ptr 11 0), (1, dI top), (7, dI n), (6, .ptr 3 0)], (3, [dI 0, dB false, dI 0, dI 0, .p (.sl true 0 [])]) :: pieceB l me log p.2, []⟩) (fun p => p.1) (log.length + 1 - s2.made, s2) ⟨by simp only; omega, hlen2, by simp only; omega, hE⟩ (zX) ?_
    rintro ⟨k, t⟩ ⟨ht0, ht1, ht2, hE⟩
    simp only at ht0 ht1 ht2 hE
    obtain ⟨k, rfl⟩ : ∃ j, k = j + 1 := ⟨k - 1, by omega⟩
    refine (show AWP _ _ _ _ ⟨[(0, .ptr 11 0), (1, dI top), (7, dI n), (6, .ptr 3 0)], (3, [dI 0, dB false, dI 0, dI 0, .p (.sl true 0 [])]) :: pieceB l me log t, []⟩ from ?_)
    rw [pushL] at hE
    repeat (first | refine zA ?_ | refine zB ?_ | refine zC ?_ | refine zD ?_ | refine zE ?_ | refine zF ?_ | refine zG ?_ | refine zH ?_ | refine zI ?_ | refine zJ ?_ | refine zK ?_ | refine zL ?_ | refine zT ?_ | refine zU ?_ | refine zV ?_ | refine zW ?_ | refine zM ?_ | refine zN ?_ | refine zO ?_ | refine zP ?_ | refine zQ ?_ | refine zR ?_ | refine zS ?_ | refine z0 ?_ | refine z1 ?_ | refine z2 ?_ | refine z3 ?_ | refine z4 ?_ | refine z5 ?_ | refine z6 ?_ | refine z7 ?_ | refine z8 ?_ | refine z9 ?_)
    refine a_callX (load_x l me log t top ht1 hl) rfl (fun a w => Try.call78 a w) rfl rfl (by (repeat (first | exact trivial | refine ⟨⟨rfl, rfl⟩, ?_⟩))) (by (repeat (first | exact trivial | refine ⟨.inr rfl, ?_⟩ | refine ⟨.inl rfl, ?_⟩))) rfl rfl rfl rfl ?_ ?_ ?_ ?_
    · rintro d bs ⟨x, s', _, _, _, rfl, rfl⟩; exact ⟨.inl rfl, .inl rfl, .inl rfl, trivial⟩
    · rintro v bs ⟨a, s', _, rfl, rfl⟩; exact ⟨.inl rfl, .inl rfl, .inl rfl, trivial⟩
    · rintro v bs ⟨a, s', h, rfl, rfl⟩
      repeat (first | refine q_then_panic ?_ | refine q_block_panic ?_ | refine q_scope_panic ?_)
      refine finX_panic (pieceB l me log s') (by (repeat (first | exact trivial | refine ⟨⟨rfl, rfl⟩, ?_⟩))) (by (repeat (first | exact trivial | refine ⟨rfl, ?_⟩))) ?_
      exact ⟨a, s', by rw [← hE]; exact bind_err h, rfl, rfl⟩
    rintro d bs ⟨was, s3, hq3, hle3, hlen3, rfl, rfl⟩
    rw [bind_ok hq3] at hE
    have hs3 := loadM_made hq3
    have hx2 := ofW_cnt was
    repeat (first | refine zA ?_ | refine zB ?_ | refine zC ?_ | refine zD ?_ | refine zE ?_ | refine zF ?_ | refine zG ?_ | refine zH ?_ | refine zI ?_ | refine zJ ?_ | refine zK ?_ | refine zL ?_ | refine zT ?_ | refine zU ?_ | refine zV ?_ | refine zW ?_ | refine zM ?_ | refine zN ?_ | refine zO ?_ | refine zP ?_ | refine zQ ?_ | refine zR ?_ | refine zS ?_ | refine z0 ?_ | refine z1 ?_ | refine z2 ?_ | refine z3 ?_ | refine z4 ?_ | refine z5 ?_ | refine z6 ?_ | refine z7 ?_ | refine z8 ?_ | refine z9 ?_)
    refine a_q (call_step (of_c was) rfl (fun a w => Try.call30 a w) rfl) rfl rfl rfl ?_
    repeat (first | refine zA ?_ | refine zB ?_ | refine zC ?_ | refine zD ?_ | refine zE ?_ | refine zF ?_ | refine zG ?_ | refine zH ?_ | refine zI ?_ | refine zJ ?_ | refine zK ?_ | refine zL ?_ | refine zT ?_ | refine zU ?_ | refine zV ?_ | refine zW ?_ | refine zM ?_ | refine zN ?_ | refine zO ?_ | refine zP ?_ | refine zQ ?_ | refine zR ?_ | refine zS ?_ | refine z0 ?_ | refine z1 ?_ | refine z2 ?_ | refine z3 ?_ | refine z4 ?_ | refine z5 ?_ | refine z6 ?_ | refine z7 ?_ | refine z8 ?_ | refine z9 ?_)
    refine awp_region_w 6 [] rfl rfl (by kernel_rfl) (by kernel_rfl) (by kernel_rfl) ?_
    repeat (first | refine w0 ?_ | refine w1 ?_ | refine w2 ?_ | refine w3 ?_ | refine w4 ?_ | refine w5 ?_ | refine w6 ?_ | refine w7 ?_ | refine w8 ?_ | refine w9 ?_)
    refine r_q (lend_step (pnode_c l hL me s3 n 0 (by omega) (by omega)) rfl (fun a w => Try.call77 a w) rfl rfl) rfl rfl ?_
    repeat (first | refine w0 ?_ | refine w1 ?_ | refine w2 ?_ | refine w3 ?_ | refine w4 ?_ | refine w5 ?_ | refine w6 ?_ | refine w7 ?_ | refine w8 ?_ | refine w9 ?_)
    refine a_callX (store_x l me log s3 (nodeF l n 0) (ofW was).idx hlen3 hl) rfl (fun a w => Try.call76 a w) rfl rfl (by (repeat (first | exact trivial | refine ⟨⟨rfl, rfl⟩, ?_⟩))) (by (repeat (first | exact trivial | refine ⟨.inr rfl, ?_⟩ | refine ⟨.inl rfl, ?_⟩))) rfl rfl rfl rfl ?_ ?_ ?_ ?_
    · rintro d bs ⟨x, s', _, _, _, rfl, rfl⟩; exact ⟨.inl rfl, .inl rfl, .inl rfl, trivial⟩
    · rintro v bs ⟨a, s', _, rfl, rfl⟩; exact ⟨.inl rfl, .inl rfl, .inl rfl, trivial⟩
    · rintro v bs ⟨a, s', h, rfl, rfl⟩
      repeat (first | refine q_then_panic ?_ | refine q_block_panic ?_ | refine q_scope_panic ?_)
      refine finX_panic (pieceB l me log s') (by (repeat (first | exact trivial | refine ⟨⟨rfl, rfl⟩, ?_⟩))) (by (repeat (first | exact trivial | refine ⟨rfl, ?_⟩))) ?_
      exact ⟨a, s', by rw [← hE]; exact bind_err h, rfl, rfl⟩
    rintro d bs ⟨u, s4, hq4, hle4, hlen4, rfl, rfl⟩
    rw [bind_ok hq4] at hE
    have hs4 := storeM_made hq4
    repeat (first | refine zA ?_ | refine zB ?_ | refine zC ?_ | refine zD ?_ | refine zE ?_ | refine zF ?_ | refine zG ?_ | refine zH ?_ | refine zI ?_ | refine zJ ?_ | refine zK ?_ | refine zL ?_ | refine zT ?_ | refine zU ?_ | refine zV ?_ | refine zW ?_ | refine zM ?_ | refine zN ?_ | refine zO ?_ | refine zP ?_ | refine zQ ?_ | refine zR ?_ | refine zS ?_ | refine z0 ?_ | refine z1 ?_ | refine z2 ?_ | refine z3 ?_ | refine z4 ?_ | refine z5 ?_ | refine z6 ?_ | refine z7 ?_ | refine z8 ?_ | refine z9 ?_)
    refine a_q (call_step (turn_c (ofW was) n hx2.1 hx2.2) rfl (fun a w => Try.call80 a w) rfl) rfl rfl rfl ?_
    repeat (first | refine zA ?_ | refine zB ?_ | refine zC ?_ | refine zD ?_ | refine zE ?_ | refine zF ?_ | refine zG ?_ | refine zH ?_ | refine zI ?_ | refine zJ ?_ | refine zK ?_ | refine zL ?_ | refine zT ?_ | refine zU ?_ | refine zV ?_ | refine zW ?_ | refine zM ?_ | refine zN ?_ | refine zO ?_ | refine zP ?_ | refine zQ ?_ | refine zR ?_ | refine zS ?_ | refine z0 ?_ | refine z1 ?_ | refine z2 ?_ | refine z3 ?_ | refine z4 ?_ | refine z5 ?_ | refine z6 ?_ | refine z7 ?_ | refine z8 ?_ | refine z9 ?_)
    refine a_q (call_step (pack_c (turnW (ofW was) n)) rfl (fun a w => Try.call63 a w) rfl) rfl rfl rfl ?_
    repeat (first | refine zA ?_ | refine zB ?_ | refine zC ?_ | refine zD ?_ | refine zE ?_ | refine zF ?_ | refine zG ?_ | refine zH ?_ | refine zI ?_ | refine zJ ?_ | refine zK ?_ | refine zL ?_ | refine zT ?_ | refine zU ?_ | refine zV ?_ | refine zW ?_ | refine zM ?_ | refine zN ?_ | refine zO ?_ | refine zP ?_ | refine zQ ?_ | refine zR ?_ | refine zS ?_ | refine z0 ?_ | refine z1 ?_ | refine z2 ?_ | refine z3 ?_ | refine z4 ?_ | refine z5 ?_ | refine z6 ?_ | refine z7 ?_ | refine z8 ?_ | refine z9 ?_)
    refine a_callX (cas_x l me log s4 top was (packW (turnW (ofW was) n)) hlen4 hl) rfl (fun a w => Try.call79 a w) rfl rfl (by (repeat (first | exact trivial | refine ⟨⟨rfl, rfl⟩, ?_⟩))) (by (repeat (first | exact trivial | refine ⟨.inr rfl, ?_⟩ | refine ⟨.inl rfl, ?_⟩))) rfl rfl rfl rfl ?_ ?_ ?_ ?_
    · rintro d bs ⟨x, s', _, _, _, rfl, rfl⟩; exact ⟨.inl rfl, .inl rfl, .inl rfl, trivial⟩
    · rintro v bs ⟨a, s', _, rfl, rfl⟩; exact ⟨.inl rfl, .inl rfl, .inl rfl, trivial⟩
    · rintro v bs ⟨a, s', h, rfl, rfl⟩
      repeat (first | refine q_then_panic ?_ | refine q_block_panic ?_ | refine q_scope_panic ?_)
      refine finX_panic (pieceB l me log s') (by (repeat (first | exact trivial | refine ⟨⟨rfl, rfl⟩, ?_⟩))) (by (repeat (first | exact trivial | refine ⟨rfl, ?_⟩))) ?_
      exact ⟨a, s', by rw [← hE]; exact bind_err h, rfl, rfl⟩
    rintro d bs ⟨okk, s5, hq5, hle5, hlen5, rfl, rfl⟩
    rw [bind_ok hq5] at hE
    have hs5 := casM_made hq5
    repeat (first | refine zA ?_ | refine zB ?_ | refine zC ?_ | refine zD ?_ | refine zE ?_ | refine zF ?_ | refine zG ?_ | refine zH ?_ | refine zI ?_ | refine zJ ?_ | refine zK ?_ | refine zL ?_ | refine zT ?_ | refine zU ?_ | refine zV ?_ | refine zW ?_ | refine zM ?_ | refine zN ?_ | refine zO ?_ | refine zP ?_ | refine zQ ?_ | refine zR ?_ | refine zS ?_ | refine z0 ?_ | refine z1 ?_ | refine z2 ?_ | refine z3 ?_ | refine z4 ?_ | refine z5 ?_ | refine z6 ?_ | refine z7 ?_ | refine z8 ?_ | refine z9 ?_)
    cases okk
    · rw [if_neg (by decide)] at hE
      repeat (first | refine zA ?_ | refine zB ?_ | refine zC ?_ | refine zD ?_ | refine zE ?_ | refine zF ?_ | refine zG ?_ | refine zH ?_ | refine zI ?_ | refine zJ ?_ | refine zK ?_ | refine zL ?_ | refine zT ?_ | refine zU ?_ | refine zV ?_ | refine zW ?_ | refine zM ?_ | refine zN ?_ | refine zO ?_ | refine zP ?_ | refine zQ ?_ | refine zR ?_ | refine zS ?_ | refine z0 ?_ | refine z1 ?_ | refine z2 ?_ | refine z3 ?_ | refine z4 ?_ | refine z5 ?_ | refine z6 ?_ | refine z7 ?_ | refine z8 ?_ | refine z9 ?_)
      exact ⟨(k, s5), ⟨by simp only; omega, hlen5, by simp only; omega, hE⟩, by simp only; omega, zX⟩
    · rw [if_pos rfl, bind_ok last_ok] at hE
      repeat (first | refine zA ?_ | refine zB ?_ | refine zC ?_ | refine zD ?_ | refine zE ?_ | refine zF ?_ | refine zG ?_ | refine zH ?_ | refine zI ?_ | refine zJ ?_ | refine zK ?_ | refine zL ?_ | refine zT ?_ | refine zU ?_ | refine zV ?_ | refine zW ?_ | refine zM ?_ | refine zN ?_ | refine zO ?_ | refine zP ?_ | refine zQ ?_ | refine zR ?_ | refine zS ?_ | refine z0 ?_ | refine z1 ?_ | refine z2 ?_ | refine z3 ?_ | refine z4 ?_ | refine z5 ?_ | refine z6 ?_ | refine z7 ?_ | refine z8 ?_ | refine z9 ?_)
      refine a_q (lend_step (plast_c l me s5 (by omega)) rfl (fun a w => Try.call81 a w) rfl rfl) rfl rfl rfl ?_
      repeat (first | refine zA ?_ | refine zB ?_ | refine zC ?_ | refine zD ?_ | refine zE ?_ | refine zF ?_ | refine zG ?_ | refine zH ?_ | refine zI ?_ | refine zJ ?_ | refine zK ?_ | refine zL ?_ | refine zT ?_ | refine zU ?_ | refine zV ?_ | refine zW ?_ | refine zM ?_ | refine zN ?_ | refine zO ?_ | refine zP ?_ | refine zQ ?_ | refine zR ?_ | refine zS ?_ | refine z0 ?_ | refine z1 ?_ | refine z2 ?_ | refine z3 ?_ | refine z4 ?_ | refine z5 ?_ | refine z6 ?_ | refine z7 ?_ | refine z8 ?_ | refine z9 ?_)
      first | refine finX_ret (pieceB l me log s5) rfl rfl (by (repeat (first | exact trivial | refine ⟨⟨rfl, rfl⟩, ?_⟩))) (by (repeat (first | exact trivial | refine ⟨rfl, ?_⟩))) ?_ | refine finX_normal (pieceB l me log s5) rfl rfl (by (repeat (first | exact trivial | refine ⟨⟨rfl, rfl⟩, ?_⟩))) (by (repeat (first | exact trivial | refine ⟨rfl, ?_⟩))) ?_
      exact ⟨_, s5, hE.symm, by omega, hlen5, rfl, rfl⟩
end Go.Proofs.Ytpecgpmdchejdaa
