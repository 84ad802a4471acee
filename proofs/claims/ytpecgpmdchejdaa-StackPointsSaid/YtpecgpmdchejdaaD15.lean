/- What an operation's program does next: its walk. -/
import Derived.Test.YtpecgpmdchejdaaD14
namespace Go.Proofs.Ytpecgpmdchejdaa
open Go.RowKit
set_option maxRecDepth 100000

theorem pushL_gone {l : LayT} {top n : Int} : ∀ {k : Nat} {log : List ResT} {s s' : PsT} {x : OutT}, pushL l top n k log s = .ok (x, s') → s'.gone = s.gone
  | 0, log, s, s', x, h => by cases h; rfl
  | k + 1, log, s, s', x, h => by
    rw [pushL] at h
    cases h1 : loadM top log s with
    | error a => rw [bind_err h1] at h; cases h
    | ok q =>
      obtain ⟨w, s1⟩ := q
      rw [bind_ok h1] at h
      have g1 : s1.gone = s.gone := by rw [(loadM_gone h1).1]
      cases h2 : storeM (nodeF l n 0) (ofW w).idx log s1 with
      | error a => rw [bind_err h2] at h; cases h
      | ok q =>
        obtain ⟨u, s2⟩ := q
        rw [bind_ok h2] at h
        have g2 : s2.gone = s.gone := by rw [(storeM_gone h2).1]; exact g1
        cases h3 : casM top w (packW (turnW (ofW w) n)) log s2 with
        | error a => rw [bind_err h3] at h; cases h
        | ok q =>
          obtain ⟨ok, s3⟩ := q
          rw [bind_ok h3] at h
          have g3 : s3.gone = s.gone := by rw [(casM_gone h3).1]; exact g2
          split at h
          · rw [bind_ok last_ok] at h; cases h; exact g3
          · exact (pushL_gone h).trans g3
theorem pushM_gone {l : LayT} {top v : Int} {log : List ResT} {s s' : PsT} {x : OutT} (h : pushM l top v log s = .ok (x, s')) : s'.gone = s.gone := by
  unfold pushM at h
  cases h1 : takeM l log s with
  | error a => rw [bind_err h1] at h; cases h
  | ok q =>
    obtain ⟨p, s1⟩ := q
    rw [bind_ok h1] at h
    have g1 : s1.gone = s.gone := (takeL_idx h1).2
    split at h
    · cases h2 : storeM (nodeF l p.1 1) v log s1 with
      | error a => rw [bind_err h2] at h; cases h
      | ok q =>
        obtain ⟨u, s2⟩ := q
        rw [bind_ok h2] at h
        have g2 : s2.gone = s.gone := by rw [(storeM_gone h2).1]; exact g1
        exact (pushL_gone h).trans g2
    · cases h; exact g1
theorem siftL_len {l : LayT} {held : List Int} : ∀ {gs stay : List (Int × Int)} {log : List ResT} {s s' : PsT} {r : List (Int × Int)}, siftL l held gs stay log s = .ok (r, s') → r.length ≤ gs.length + stay.length
  | [], stay, log, s, s', r, h => by cases h; simp
  | g :: gs, stay, log, s, s', r, h => by
    rw [siftL] at h
    cases h1 : loadM (nodeF l g.1 6) log s with
    | error a => rw [bind_err h1] at h; cases h
    | ok q =>
      obtain ⟨b, s1⟩ := q
      rw [bind_ok h1] at h
      split at h
      · have := siftL_len h
        simp at this ⊢; omega
      · cases h2 : giveM l g.1 log s1 with
        | error a => rw [bind_err h2] at h; cases h
        | ok q =>
          obtain ⟨u, s2⟩ := q
          rw [bind_ok h2] at h
          have := siftL_len h
          simp at this ⊢; omega
theorem retireM_len {l : LayT} {n : Int} {log : List ResT} {s s' : PsT} {u : Unit} (h : retireM l n log s = .ok (u, s')) : s'.gone.length ≤ s.gone.length + 1 := by
  unfold retireM at h
  cases h1 : loadM l.era log s with
  | error a => rw [bind_err h1] at h; cases h
  | ok q =>
    obtain ⟨er, s1⟩ := q
    rw [bind_ok h1] at h
    have g1 : s1.gone = s.gone := by rw [(loadM_gone h1).1]
    cases h2 : doM ⟨4, l.era, 0, 1⟩ log s1 with
    | error a => rw [bind_err h2] at h; cases h
    | ok q =>
      obtain ⟨r, s2⟩ := q
      rw [bind_ok h2] at h
      have g2 : s2.gone = s.gone := by rw [(doM_gone h2).1]; exact g1
      split at h
      · cases h; simp [g2]
      · unfold scanM at h
        cases h3 : loadAcc [] (resvsF l 0 l.seats.toNat) log { s2 with gone := s2.gone ++ [(n, er)] } with
        | error a => rw [bind_err h3] at h; cases h
        | ok q =>
          obtain ⟨held, s3⟩ := q
          rw [bind_ok h3] at h
          cases h4 : siftL l held (s2.gone ++ [(n, er)]) [] log s3 with
          | error a => rw [bind_err h4] at h; cases h
          | ok q =>
            obtain ⟨stay, s4⟩ := q
            rw [bind_ok h4] at h
            unfold setGone at h
            cases h
            have := siftL_len h4
            simp [g2] at this ⊢; omega
theorem popL_len {l : LayT} {me top : Int} : ∀ {k : Nat} {log : List ResT} {s s' : PsT} {x : OutT}, popL l me top k log s = .ok (x, s') → s'.gone.length ≤ s.gone.length + 1
  | 0, log, s, s', x, h => by cases h; omega
  | k + 1, log, s, s', x, h => by
    rw [popL] at h
    cases h1 : guardM l me top log s with
    | error a => rw [bind_err h1] at h; cases h
    | ok q =>
      obtain ⟨p, s1⟩ := q
      rw [bind_ok h1] at h
      have g1 : s1.gone = s.gone := guardL_gone h1
      split at h
      · cases h2 : clearM l me log s1 with
        | error a => rw [bind_err h2] at h; cases h
        | ok q =>
          obtain ⟨u, s2⟩ := q
          rw [bind_ok h2] at h
          cases h
          have : s'.gone = s.gone := (clrL_gone h2).trans g1
          rw [this]; omega
      · cases h2 : loadM (nodeF l (ofW p.1).idx 0) log s1 with
        | error a => rw [bind_err h2] at h; cases h
        | ok q =>
          obtain ⟨be, s2⟩ := q
          rw [bind_ok h2] at h
          have g2 : s2.gone = s.gone := by rw [(loadM_gone h2).1]; exact g1
          cases h3 : casM top p.1 (packW (turnW (ofW p.1) be)) log s2 with
          | error a => rw [bind_err h3] at h; cases h
          | ok q =>
            obtain ⟨ok, s3⟩ := q
            rw [bind_ok h3] at h
            have g3 : s3.gone = s.gone := by rw [(casM_gone h3).1]; exact g2
            split at h
            · rw [bind_ok last_ok] at h
              cases h4 : loadM (nodeF l (ofW p.1).idx 1) log s3 with
              | error a => rw [bind_err h4] at h; cases h
              | ok q =>
                obtain ⟨va, s4⟩ := q
                rw [bind_ok h4] at h
                have g4 : s4.gone = s.gone := by rw [(loadM_gone h4).1]; exact g3
                cases h5 : clearM l me log s4 with
                | error a => rw [bind_err h5] at h; cases h
                | ok q =>
                  obtain ⟨u, s5⟩ := q
                  rw [bind_ok h5] at h
                  have g5 : s5.gone = s.gone := (clrL_gone h5).trans g4
                  cases h6 : retireM l (ofW p.1).idx log s5 with
                  | error a => rw [bind_err h6] at h; cases h
                  | ok q =>
                    obtain ⟨u, s6⟩ := q
                    rw [bind_ok h6] at h
                    cases h
                    have := retireM_len h6
                    rw [g5] at this; exact this
            · have := popL_len h
              rw [g3] at this; exact this

def finM (m : Except AccT (OutT × PsT)) : AccT × OutT × Bool := match m with
  | .ok (x, s') => (acc0, { x with gone := s'.gone }, true)
  | .error a => (a, out0, false)
/-- What an operation's program does next. -/
def nextF (l : LayT) (me : Int) (gone : List (Int × Int)) (op : OpT) (log : List ResT) : AccT × OutT × Bool :=
  if topF l op.obj < 0 then (acc0, ⟨0, false, 1, -1, gone⟩, true)
  else if op.kind = 4 then finM (pushM l (topF l op.obj) op.a log ⟨0, gone, 0, 0, 0⟩)
  else if op.kind = 5 then finM (popM l me (topF l op.obj) log ⟨0, gone, 0, 0, 0⟩)
  else (acc0, ⟨0, false, 1, -1, gone⟩, true)
abbrev dNx (r : AccT × OutT × Bool) : Dt := .tup [dAcc r.1, dOut r.2.1, dB r.2.2]
set_option maxHeartbeats 4000000 in
theorem next_c (l : LayT) (hL : LayOk l) (me : Int) (gone : List (Int × Int)) (op : OpT) (log : List ResT) (hgo : GoneOk gone) (hgl : gone.length ≤ 10000) (hl : log.length ≤ 1000000) : PureC Try.prog 36 [dLay l, dI me, dGone gone, dOp op, dLog log] (dNx (nextF l me gone op log)) := by
  generalize hE : nextF l me gone op log = E
  unfold nextF at hE
  refine pure_fin tabOk Try.func36 rfl Try.ntmps36 rfl rfl rfl fun w cl => ?_
  repeat (first | refine zA ?_ | refine zB ?_ | refine zC ?_ | refine zD ?_ | refine zE ?_ | refine zF ?_ | refine zG ?_ | refine zH ?_ | refine zI ?_ | refine zJ ?_ | refine zK ?_ | refine zL ?_ | refine zT ?_ | refine zU ?_ | refine zV ?_ | refine zW ?_ | refine zM ?_ | refine zN ?_ | refine zO ?_ | refine zP ?_ | refine zQ ?_ | refine zR ?_ | refine zS ?_)
  refine a_b (box_step 0 rfl rfl rfl rfl) rfl rfl rfl rfl ?_
  refine a_b (box_step 16 rfl rfl rfl rfl) rfl rfl rfl rfl ?_
  refine a_b (alloc_step tabOk 2 rfl rfl rfl rfl) rfl rfl rfl rfl ?_
  refine a_b (alloc_step tabOk 3 rfl rfl rfl rfl) rfl rfl rfl rfl ?_
  repeat (first | refine zA ?_ | refine zB ?_ | refine zC ?_ | refine zD ?_ | refine zE ?_ | refine zF ?_ | refine zG ?_ | refine zH ?_ | refine zI ?_ | refine zJ ?_ | refine zK ?_ | refine zL ?_ | refine zT ?_ | refine zU ?_ | refine zV ?_ | refine zW ?_ | refine zM ?_ | refine zN ?_ | refine zO ?_ | refine zP ?_ | refine zQ ?_ | refine zR ?_ | refine zS ?_ | refine z0 ?_ | refine z1 ?_ | refine z2 ?_ | refine z3 ?_ | refine z4 ?_ | refine z5 ?_ | refine z6 ?_ | refine z7 ?_ | refine z8 ?_ | refine z9 ?_)
  refine a_q (call_step (top_c l hL op.obj) rfl (fun a w => Try.call24 a w) rfl) rfl rfl rfl ?_
  refine a_b (alloc_step tabOk 15 rfl rfl rfl rfl) rfl rfl rfl rfl ?_
  repeat (first | refine zA ?_ | refine zB ?_ | refine zC ?_ | refine zD ?_ | refine zE ?_ | refine zF ?_ | refine zG ?_ | refine zH ?_ | refine zI ?_ | refine zJ ?_ | refine zK ?_ | refine zL ?_ | refine zT ?_ | refine zU ?_ | refine zV ?_ | refine zW ?_ | refine zM ?_ | refine zN ?_ | refine zO ?_ | refine zP ?_ | refine zQ ?_ | refine zR ?_ | refine zS ?_ | refine z0 ?_ | refine z1 ?_ | refine z2 ?_ | refine z3 ?_ | refine z4 ?_ | refine z5 ?_ | refine z6 ?_ | refine z7 ?_ | refine z8 ?_ | refine z9 ?_)
  generalize h1 : decide (topF l op.obj < 0) = cc; cases cc
  · rw [if_neg (of_decide_eq_false h1)] at hE
    repeat (first | refine zA ?_ | refine zB ?_ | refine zC ?_ | refine zD ?_ | refine zE ?_ | refine zF ?_ | refine zG ?_ | refine zH ?_ | refine zI ?_ | refine zJ ?_ | refine zK ?_ | refine zL ?_ | refine zT ?_ | refine zU ?_ | refine zV ?_ | refine zW ?_ | refine zM ?_ | refine zN ?_ | refine zO ?_ | refine zP ?_ | refine zQ ?_ | refine zR ?_ | refine zS ?_ | refine z0 ?_ | refine z1 ?_ | refine z2 ?_ | refine z3 ?_ | refine z4 ?_ | refine z5 ?_ | refine z6 ?_ | refine z7 ?_ | refine z8 ?_ | refine z9 ?_)
    refine a_callI (begin_i l me gone log) rfl (fun a w => Try.call57 a w) rfl rfl trivial trivial rfl rfl rfl rfl ?_ ?_
    · rintro d bs ⟨rfl, rfl⟩; exact ⟨.inr rfl, .inr rfl, .inr rfl, trivial⟩
    rintro d bs ⟨rfl, rfl⟩
    refine a_b (alloc_step tabOk 14 rfl rfl rfl rfl) rfl rfl rfl rfl ?_
    repeat (first | refine zA ?_ | refine zB ?_ | refine zC ?_ | refine zD ?_ | refine zE ?_ | refine zF ?_ | refine zG ?_ | refine zH ?_ | refine zI ?_ | refine zJ ?_ | refine zK ?_ | refine zL ?_ | refine zT ?_ | refine zU ?_ | refine zV ?_ | refine zW ?_ | refine zM ?_ | refine zN ?_ | refine zO ?_ | refine zP ?_ | refine zQ ?_ | refine zR ?_ | refine zS ?_ | refine z0 ?_ | refine z1 ?_ | refine z2 ?_ | refine z3 ?_ | refine z4 ?_ | refine z5 ?_ | refine z6 ?_ | refine z7 ?_ | refine z8 ?_ | refine z9 ?_)
    generalize h2 : decide (op.kind = 4) = cc; cases cc
    · rw [if_neg (of_decide_eq_false h2)] at hE
      repeat (first | refine zA ?_ | refine zB ?_ | refine zC ?_ | refine zD ?_ | refine zE ?_ | refine zF ?_ | refine zG ?_ | refine zH ?_ | refine zI ?_ | refine zJ ?_ | refine zK ?_ | refine zL ?_ | refine zT ?_ | refine zU ?_ | refine zV ?_ | refine zW ?_ | refine zM ?_ | refine zN ?_ | refine zO ?_ | refine zP ?_ | refine zQ ?_ | refine zR ?_ | refine zS ?_ | refine z0 ?_ | refine z1 ?_ | refine z2 ?_ | refine z3 ?_ | refine z4 ?_ | refine z5 ?_ | refine z6 ?_ | refine z7 ?_ | refine z8 ?_ | refine z9 ?_)
      generalize h3 : decide (op.kind = 5) = cc; cases cc
      · rw [if_neg (of_decide_eq_false h3)] at hE
        repeat (first | refine zA ?_ | refine zB ?_ | refine zC ?_ | refine zD ?_ | refine zE ?_ | refine zF ?_ | refine zG ?_ | refine zH ?_ | refine zI ?_ | refine zJ ?_ | refine zK ?_ | refine zL ?_ | refine zT ?_ | refine zU ?_ | refine zV ?_ | refine zW ?_ | refine zM ?_ | refine zN ?_ | refine zO ?_ | refine zP ?_ | refine zQ ?_ | refine zR ?_ | refine zS ?_ | refine z0 ?_ | refine z1 ?_ | refine z2 ?_ | refine z3 ?_ | refine z4 ?_ | refine z5 ?_ | refine z6 ?_ | refine z7 ?_ | refine z8 ?_ | refine z9 ?_)
        refine a_q (call_step (refuse_c gone (by omega)) rfl (fun a w => Try.call56 a w) rfl) rfl rfl rfl ?_
        repeat (first | refine zA ?_ | refine zB ?_ | refine zC ?_ | refine zD ?_ | refine zE ?_ | refine zF ?_ | refine zG ?_ | refine zH ?_ | refine zI ?_ | refine zJ ?_ | refine zK ?_ | refine zL ?_ | refine zT ?_ | refine zU ?_ | refine zV ?_ | refine zW ?_ | refine zM ?_ | refine zN ?_ | refine zO ?_ | refine zP ?_ | refine zQ ?_ | refine zR ?_ | refine zS ?_ | refine z0 ?_ | refine z1 ?_ | refine z2 ?_ | refine z3 ?_ | refine z4 ?_ | refine z5 ?_ | refine z6 ?_ | refine z7 ?_ | refine z8 ?_ | refine z9 ?_)
        first | refine fin_ret rfl ?_ | refine fin_normal rfl ?_
        rw [← hE]
      · rw [if_pos (of_decide_eq_true h3)] at hE
        repeat (first | refine zA ?_ | refine zB ?_ | refine zC ?_ | refine zD ?_ | refine zE ?_ | refine zF ?_ | refine zG ?_ | refine zH ?_ | refine zI ?_ | refine zJ ?_ | refine zK ?_ | refine zL ?_ | refine zT ?_ | refine zU ?_ | refine zV ?_ | refine zW ?_ | refine zM ?_ | refine zN ?_ | refine zO ?_ | refine zP ?_ | refine zQ ?_ | refine zR ?_ | refine zS ?_ | refine z0 ?_ | refine z1 ?_ | refine z2 ?_ | refine z3 ?_ | refine z4 ?_ | refine z5 ?_ | refine z6 ?_ | refine z7 ?_ | refine z8 ?_ | refine z9 ?_)
        refine a_callI (play_pop l me log ⟨0, gone, 0, 0, 0⟩ (topF l op.obj) op _ (fun x s' h => by have := popL_len h; simp at this; omega) (next2_x l hL me log ⟨0, gone, 0, 0, 0⟩ (topF l op.obj) op hgo hgl (Nat.zero_le _) hl)) rfl (fun a w => Try.call58 a w) rfl rfl (by (repeat (first | exact trivial | refine ⟨⟨rfl, rfl⟩, ?_⟩))) trivial rfl rfl rfl rfl ?_ ?_
        · rintro d bs ⟨rfl, _⟩; exact trivial
        rintro d bs ⟨rfl, ⟨x, s', hm, rfl⟩ | ⟨a, hm, rfl⟩⟩
        · rw [hm] at hE
          repeat (first | refine zA ?_ | refine zB ?_ | refine zC ?_ | refine zD ?_ | refine zE ?_ | refine zF ?_ | refine zG ?_ | refine zH ?_ | refine zI ?_ | refine zJ ?_ | refine zK ?_ | refine zL ?_ | refine zT ?_ | refine zU ?_ | refine zV ?_ | refine zW ?_ | refine zM ?_ | refine zN ?_ | refine zO ?_ | refine zP ?_ | refine zQ ?_ | refine zR ?_ | refine zS ?_ | refine z0 ?_ | refine z1 ?_ | refine z2 ?_ | refine z3 ?_ | refine z4 ?_ | refine z5 ?_ | refine z6 ?_ | refine z7 ?_ | refine z8 ?_ | refine z9 ?_)
          first | refine fin_ret rfl ?_ | refine fin_normal rfl ?_
          rw [← hE]; rfl
        · rw [hm] at hE
          repeat (first | refine zA ?_ | refine zB ?_ | refine zC ?_ | refine zD ?_ | refine zE ?_ | refine zF ?_ | refine zG ?_ | refine zH ?_ | refine zI ?_ | refine zJ ?_ | refine zK ?_ | refine zL ?_ | refine zT ?_ | refine zU ?_ | refine zV ?_ | refine zW ?_ | refine zM ?_ | refine zN ?_ | refine zO ?_ | refine zP ?_ | refine zQ ?_ | refine zR ?_ | refine zS ?_ | refine z0 ?_ | refine z1 ?_ | refine z2 ?_ | refine z3 ?_ | refine z4 ?_ | refine z5 ?_ | refine z6 ?_ | refine z7 ?_ | refine z8 ?_ | refine z9 ?_)
          first | refine fin_ret rfl ?_ | refine fin_normal rfl ?_
          rw [← hE]; rfl
    · rw [if_pos (of_decide_eq_true h2)] at hE
      repeat (first | refine zA ?_ | refine zB ?_ | refine zC ?_ | refine zD ?_ | refine zE ?_ | refine zF ?_ | refine zG ?_ | refine zH ?_ | refine zI ?_ | refine zJ ?_ | refine zK ?_ | refine zL ?_ | refine zT ?_ | refine zU ?_ | refine zV ?_ | refine zW ?_ | refine zM ?_ | refine zN ?_ | refine zO ?_ | refine zP ?_ | refine zQ ?_ | refine zR ?_ | refine zS ?_ | refine z0 ?_ | refine z1 ?_ | refine z2 ?_ | refine z3 ?_ | refine z4 ?_ | refine z5 ?_ | refine z6 ?_ | refine z7 ?_ | refine z8 ?_ | refine z9 ?_)
      refine a_callI (play_push l me log ⟨0, gone, 0, 0, 0⟩ (topF l op.obj) op _ (fun x s' h => by rw [pushM_gone h]; simp; omega) (next1_x l hL me log ⟨0, gone, 0, 0, 0⟩ (topF l op.obj) op (Nat.zero_le _) hl)) rfl (fun a w => Try.call58 a w) rfl rfl (by (repeat (first | exact trivial | refine ⟨⟨rfl, rfl⟩, ?_⟩))) trivial rfl rfl rfl rfl ?_ ?_
      · rintro d bs ⟨rfl, _⟩; exact trivial
      rintro d bs ⟨rfl, ⟨x, s', hm, rfl⟩ | ⟨a, hm, rfl⟩⟩
      · rw [hm] at hE
        repeat (first | refine zA ?_ | refine zB ?_ | refine zC ?_ | refine zD ?_ | refine zE ?_ | refine zF ?_ | refine zG ?_ | refine zH ?_ | refine zI ?_ | refine zJ ?_ | refine zK ?_ | refine zL ?_ | refine zT ?_ | refine zU ?_ | refine zV ?_ | refine zW ?_ | refine zM ?_ | refine zN ?_ | refine zO ?_ | refine zP ?_ | refine zQ ?_ | refine zR ?_ | refine zS ?_ | refine z0 ?_ | refine z1 ?_ | refine z2 ?_ | refine z3 ?_ | refine z4 ?_ | refine z5 ?_ | refine z6 ?_ | refine z7 ?_ | refine z8 ?_ | refine z9 ?_)
        first | refine fin_ret rfl ?_ | refine fin_normal rfl ?_
        rw [← hE]; rfl
      · rw [hm] at hE
        repeat (first | refine zA ?_ | refine zB ?_ | refine zC ?_ | refine zD ?_ | refine zE ?_ | refine zF ?_ | refine zG ?_ | refine zH ?_ | refine zI ?_ | refine zJ ?_ | refine zK ?_ | refine zL ?_ | refine zT ?_ | refine zU ?_ | refine zV ?_ | refine zW ?_ | refine zM ?_ | refine zN ?_ | refine zO ?_ | refine zP ?_ | refine zQ ?_ | refine zR ?_ | refine zS ?_ | refine z0 ?_ | refine z1 ?_ | refine z2 ?_ | refine z3 ?_ | refine z4 ?_ | refine z5 ?_ | refine z6 ?_ | refine z7 ?_ | refine z8 ?_ | refine z9 ?_)
        first | refine fin_ret rfl ?_ | refine fin_normal rfl ?_
        rw [← hE]; rfl
  · rw [if_pos (of_decide_eq_true h1)] at hE
    repeat (first | refine zA ?_ | refine zB ?_ | refine zC ?_ | refine zD ?_ | refine zE ?_ | refine zF ?_ | refine zG ?_ | refine zH ?_ | refine zI ?_ | refine zJ ?_ | refine zK ?_ | refine zL ?_ | refine zT ?_ | refine zU ?_ | refine zV ?_ | refine zW ?_ | refine zM ?_ | refine zN ?_ | refine zO ?_ | refine zP ?_ | refine zQ ?_ | refine zR ?_ | refine zS ?_ | refine z0 ?_ | refine z1 ?_ | refine z2 ?_ | refine z3 ?_ | refine z4 ?_ | refine z5 ?_ | refine z6 ?_ | refine z7 ?_ | refine z8 ?_ | refine z9 ?_)
    refine a_q (call_step (refuse_c gone (by omega)) rfl (fun a w => Try.call56 a w) rfl) rfl rfl rfl ?_
    repeat (first | refine zA ?_ | refine zB ?_ | refine zC ?_ | refine zD ?_ | refine zE ?_ | refine zF ?_ | refine zG ?_ | refine zH ?_ | refine zI ?_ | refine zJ ?_ | refine zK ?_ | refine zL ?_ | refine zT ?_ | refine zU ?_ | refine zV ?_ | refine zW ?_ | refine zM ?_ | refine zN ?_ | refine zO ?_ | refine zP ?_ | refine zQ ?_ | refine zR ?_ | refine zS ?_ | refine z0 ?_ | refine z1 ?_ | refine z2 ?_ | refine z3 ?_ | refine z4 ?_ | refine z5 ?_ | refine z6 ?_ | refine z7 ?_ | refine z8 ?_ | refine z9 ?_)
    first | refine fin_ret rfl ?_ | refine fin_normal rfl ?_
    rw [← hE]
end Go.Proofs.Ytpecgpmdchejdaa
