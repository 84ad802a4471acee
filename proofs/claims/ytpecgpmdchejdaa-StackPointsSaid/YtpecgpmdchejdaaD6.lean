/- Reservations: their walks. -/
import Derived.Test.YtpecgpmdchejdaaD5
import Derived.Test.YtpecgpmdchejdaaShort
namespace Go.Proofs.Ytpecgpmdchejdaa
open Go.RowKit
set_option maxRecDepth 100000

/-- Loads a cell under the seat's first reservation. -/
def guardL (l : LayT) (me cell : Int) : Nat → Pm (Int × Int)
  | 0 => .pure (0, 0)
  | k + 1 => (loadM cell).bind fun v => lastM.bind fun at_ => (loadM l.era).bind fun era => fun log s =>
    if era = s.e0 then .ok ((v, at_), s) else (storeM (resvF l me 0) era).bind (fun _ log s => guardL l me cell k log { s with e0 := era }) log s
def guardM (l : LayT) (me cell : Int) : Pm (Int × Int) := fun log s => guardL l me cell (log.length + 1 - s.made) log s
set_option maxHeartbeats 4000000 in
theorem guard_x (l : LayT) (hL : LayOk l) (me : Int) (log : List ResT) (s : PsT) (cell : Int) (hm : s.made ≤ log.length) (hl : log.length ≤ 1000000) : PmC 82 l me log s [.ptr 11 0, dI 0, dI cell] (guardM l me cell log s) (fun p => .tup [dI p.1, dI p.2]) := by
  generalize hE : guardM l me cell log s = E
  refine impX_fin tabOk Try.func82 rfl Try.ntmps82 rfl rfl rfl (by (repeat (first | exact trivial | refine ⟨rfl, ?_⟩))) fun w cl own kf => ?_
  repeat (first | refine zA ?_ | refine zB ?_ | refine zC ?_ | refine zD ?_ | refine zE ?_ | refine zF ?_ | refine zG ?_ | refine zH ?_ | refine zI ?_ | refine zJ ?_ | refine zK ?_ | refine zL ?_ | refine zT ?_ | refine zU ?_ | refine zV ?_ | refine zW ?_ | refine zM ?_ | refine zN ?_ | refine zO ?_ | refine zP ?_ | refine zQ ?_ | refine zR ?_ | refine zS ?_ | refine z0 ?_ | refine z1 ?_ | refine z2 ?_ | refine z3 ?_ | refine z4 ?_ | refine z5 ?_ | refine z6 ?_ | refine z7 ?_ | refine z8 ?_ | refine z9 ?_)
  refine awp_loop_ok (fun p : Nat × PsT => s.made ≤ p.2.made ∧ p.2.made ≤ log.length ∧ log.length - p.2.made < p.1 ∧ guardL l me cell p.1 log p.2 = E) (fun p => ⟨[(0, .ptr 11 0), (1, dI 0), (2, dI cell)], pieceB l me log p.2, []⟩) (fun p => p.1) (log.length + 1 - s.made, s) ⟨Nat.le_refl _, hm, by simp only; omega, hE⟩ (zX) ?_
  rintro ⟨k, t⟩ ⟨ht0, ht1, ht2, hE⟩
  simp only at ht0 ht1 ht2 hE
  obtain ⟨k, rfl⟩ : ∃ j, k = j + 1 := ⟨k - 1, by omega⟩
  refine (show AWP _ _ _ _ ⟨[(0, .ptr 11 0), (1, dI 0), (2, dI cell)], pieceB l me log t, []⟩ from ?_)
  rw [guardL] at hE
  repeat (first | refine zA ?_ | refine zB ?_ | refine zC ?_ | refine zD ?_ | refine zE ?_ | refine zF ?_ | refine zG ?_ | refine zH ?_ | refine zI ?_ | refine zJ ?_ | refine zK ?_ | refine zL ?_ | refine zT ?_ | refine zU ?_ | refine zV ?_ | refine zW ?_ | refine zM ?_ | refine zN ?_ | refine zO ?_ | refine zP ?_ | refine zQ ?_ | refine zR ?_ | refine zS ?_ | refine z0 ?_ | refine z1 ?_ | refine z2 ?_ | refine z3 ?_ | refine z4 ?_ | refine z5 ?_ | refine z6 ?_ | refine z7 ?_ | refine z8 ?_ | refine z9 ?_)
  refine a_callX (load_x l me log t cell ht1 hl) rfl (fun a w => Try.call78 a w) rfl rfl (by (repeat (first | exact trivial | refine ⟨⟨rfl, rfl⟩, ?_⟩))) (by (repeat (first | exact trivial | refine ⟨.inr rfl, ?_⟩ | refine ⟨.inl rfl, ?_⟩))) rfl rfl rfl rfl ?_ ?_ ?_ ?_
  · rintro d bs ⟨x, s', _, _, _, rfl, rfl⟩; exact ⟨.inl rfl, .inl rfl, .inl rfl, trivial⟩
  · rintro v bs ⟨a, s', _, rfl, rfl⟩; exact ⟨.inl rfl, .inl rfl, .inl rfl, trivial⟩
  · rintro v bs ⟨a, s', h, rfl, rfl⟩
    repeat (first | refine q_then_panic ?_ | refine q_block_panic ?_ | refine q_scope_panic ?_)
    refine finX_panic (pieceB l me log s') (by (repeat (first | exact trivial | refine ⟨⟨rfl, rfl⟩, ?_⟩))) (by (repeat (first | exact trivial | refine ⟨rfl, ?_⟩))) ?_
    exact ⟨a, s', by rw [← hE]; exact bind_err h, rfl, rfl⟩
  rintro d bs ⟨v, s1, hq1, hle1, hlen1, rfl, rfl⟩
  rw [bind_ok hq1, bind_ok last_ok] at hE
  have hs1 := loadM_made hq1
  repeat (first | refine zA ?_ | refine zB ?_ | refine zC ?_ | refine zD ?_ | refine zE ?_ | refine zF ?_ | refine zG ?_ | refine zH ?_ | refine zI ?_ | refine zJ ?_ | refine zK ?_ | refine zL ?_ | refine zT ?_ | refine zU ?_ | refine zV ?_ | refine zW ?_ | refine zM ?_ | refine zN ?_ | refine zO ?_ | refine zP ?_ | refine zQ ?_ | refine zR ?_ | refine zS ?_ | refine z0 ?_ | refine z1 ?_ | refine z2 ?_ | refine z3 ?_ | refine z4 ?_ | refine z5 ?_ | refine z6 ?_ | refine z7 ?_ | refine z8 ?_ | refine z9 ?_)
  refine a_q (lend_step (plast_c l me s1 (by omega)) rfl (fun a w => Try.call81 a w) rfl rfl) rfl rfl rfl ?_
  repeat (first | refine zA ?_ | refine zB ?_ | refine zC ?_ | refine zD ?_ | refine zE ?_ | refine zF ?_ | refine zG ?_ | refine zH ?_ | refine zI ?_ | refine zJ ?_ | refine zK ?_ | refine zL ?_ | refine zT ?_ | refine zU ?_ | refine zV ?_ | refine zW ?_ | refine zM ?_ | refine zN ?_ | refine zO ?_ | refine zP ?_ | refine zQ ?_ | refine zR ?_ | refine zS ?_ | refine z0 ?_ | refine z1 ?_ | refine z2 ?_ | refine z3 ?_ | refine z4 ?_ | refine z5 ?_ | refine z6 ?_ | refine z7 ?_ | refine z8 ?_ | refine z9 ?_)
  refine a_callX (load_x l me log s1 l.era hlen1 hl) rfl (fun a w => Try.call78 a w) rfl rfl (by (repeat (first | exact trivial | refine ⟨⟨rfl, rfl⟩, ?_⟩))) (by (repeat (first | exact trivial | refine ⟨.inr rfl, ?_⟩ | refine ⟨.inl rfl, ?_⟩))) rfl rfl rfl rfl ?_ ?_ ?_ ?_
  · rintro d bs ⟨x, s', _, _, _, rfl, rfl⟩; exact ⟨.inl rfl, .inl rfl, .inl rfl, trivial⟩
  · rintro v bs ⟨a, s', _, rfl, rfl⟩; exact ⟨.inl rfl, .inl rfl, .inl rfl, trivial⟩
  · rintro v bs ⟨a, s', h, rfl, rfl⟩
    repeat (first | refine q_then_panic ?_ | refine q_block_panic ?_ | refine q_scope_panic ?_)
    refine finX_panic (pieceB l me log s') (by (repeat (first | exact trivial | refine ⟨⟨rfl, rfl⟩, ?_⟩))) (by (repeat (first | exact trivial | refine ⟨rfl, ?_⟩))) ?_
    exact ⟨a, s', by rw [← hE]; exact bind_err h, rfl, rfl⟩
  rintro d bs ⟨er, s2, hq2, hle2, hlen2, rfl, rfl⟩
  rw [bind_ok hq2] at hE
  have hs2 := loadM_made hq2
  repeat (first | refine zA ?_ | refine zB ?_ | refine zC ?_ | refine zD ?_ | refine zE ?_ | refine zF ?_ | refine zG ?_ | refine zH ?_ | refine zI ?_ | refine zJ ?_ | refine zK ?_ | refine zL ?_ | refine zT ?_ | refine zU ?_ | refine zV ?_ | refine zW ?_ | refine zM ?_ | refine zN ?_ | refine zO ?_ | refine zP ?_ | refine zQ ?_ | refine zR ?_ | refine zS ?_ | refine z0 ?_ | refine z1 ?_ | refine z2 ?_ | refine z3 ?_ | refine z4 ?_ | refine z5 ?_ | refine z6 ?_ | refine z7 ?_ | refine z8 ?_ | refine z9 ?_)
  refine a_q (indexAddrP_step tabOk rfl rfl rfl rfl rfl (by omega) (by omega)) rfl rfl rfl ?_
  repeat (first | refine zA ?_ | refine zB ?_ | refine zC ?_ | refine zD ?_ | refine zE ?_ | refine zF ?_ | refine zG ?_ | refine zH ?_ | refine zI ?_ | refine zJ ?_ | refine zK ?_ | refine zL ?_ | refine zT ?_ | refine zU ?_ | refine zV ?_ | refine zW ?_ | refine zM ?_ | refine zN ?_ | refine zO ?_ | refine zP ?_ | refine zQ ?_ | refine zR ?_ | refine zS ?_ | refine z0 ?_ | refine z1 ?_ | refine z2 ?_ | refine z3 ?_ | refine z4 ?_ | refine z5 ?_ | refine z6 ?_ | refine z7 ?_ | refine z8 ?_ | refine z9 ?_)
  generalize h1 : decide (er = s2.e0) = cc; cases cc
  · rw [if_neg (of_decide_eq_false h1)] at hE
    repeat (first | refine zA ?_ | refine zB ?_ | refine zC ?_ | refine zD ?_ | refine zE ?_ | refine zF ?_ | refine zG ?_ | refine zH ?_ | refine zI ?_ | refine zJ ?_ | refine zK ?_ | refine zL ?_ | refine zT ?_ | refine zU ?_ | refine zV ?_ | refine zW ?_ | refine zM ?_ | refine zN ?_ | refine zO ?_ | refine zP ?_ | refine zQ ?_ | refine zR ?_ | refine zS ?_ | refine z0 ?_ | refine z1 ?_ | refine z2 ?_ | refine z3 ?_ | refine z4 ?_ | refine z5 ?_ | refine z6 ?_ | refine z7 ?_ | refine z8 ?_ | refine z9 ?_)
    refine awp_region_w 12 [] rfl rfl (by kernel_rfl) (by kernel_rfl) (by kernel_rfl) ?_
    repeat (first | refine w0 ?_ | refine w1 ?_ | refine w2 ?_ | refine w3 ?_ | refine w4 ?_ | refine w5 ?_ | refine w6 ?_ | refine w7 ?_ | refine w8 ?_ | refine w9 ?_)
    refine r_q (call_step (resv_c l hL me 0 (by omega)) rfl (fun a w => Try.call23 a w) rfl) rfl rfl ?_
    repeat (first | refine w0 ?_ | refine w1 ?_ | refine w2 ?_ | refine w3 ?_ | refine w4 ?_ | refine w5 ?_ | refine w6 ?_ | refine w7 ?_ | refine w8 ?_ | refine w9 ?_)
    refine a_callX (store_x l me log s2 (resvF l me 0) er hlen2 hl) rfl (fun a w => Try.call76 a w) rfl rfl (by (repeat (first | exact trivial | refine ⟨⟨rfl, rfl⟩, ?_⟩))) (by (repeat (first | exact trivial | refine ⟨.inr rfl, ?_⟩ | refine ⟨.inl rfl, ?_⟩))) rfl rfl rfl rfl ?_ ?_ ?_ ?_
    · rintro d bs ⟨x, s', _, _, _, rfl, rfl⟩; exact ⟨.inl rfl, .inl rfl, .inl rfl, trivial⟩
    · rintro v bs ⟨a, s', _, rfl, rfl⟩; exact ⟨.inl rfl, .inl rfl, .inl rfl, trivial⟩
    · rintro v bs ⟨a, s', h, rfl, rfl⟩
      repeat (first | refine q_then_panic ?_ | refine q_block_panic ?_ | refine q_scope_panic ?_)
      refine finX_panic (pieceB l me log s') (by (repeat (first | exact trivial | refine ⟨⟨rfl, rfl⟩, ?_⟩))) (by (repeat (first | exact trivial | refine ⟨rfl, ?_⟩))) ?_
      exact ⟨a, s', by rw [← hE]; exact bind_err h, rfl, rfl⟩
    rintro d bs ⟨u, s3, hq3, hle3, hlen3, rfl, rfl⟩
    rw [bind_ok hq3] at hE
    have hs3 := storeM_made hq3
    repeat (first | refine zA ?_ | refine zB ?_ | refine zC ?_ | refine zD ?_ | refine zE ?_ | refine zF ?_ | refine zG ?_ | refine zH ?_ | refine zI ?_ | refine zJ ?_ | refine zK ?_ | refine zL ?_ | refine zT ?_ | refine zU ?_ | refine zV ?_ | refine zW ?_ | refine zM ?_ | refine zN ?_ | refine zO ?_ | refine zP ?_ | refine zQ ?_ | refine zR ?_ | refine zS ?_ | refine z0 ?_ | refine z1 ?_ | refine z2 ?_ | refine z3 ?_ | refine z4 ?_ | refine z5 ?_ | refine z6 ?_ | refine z7 ?_ | refine z8 ?_ | refine z9 ?_)
    refine a_q (indexAddrP_step tabOk rfl rfl rfl rfl rfl (by omega) (by omega)) rfl rfl rfl ?_
    repeat (first | refine zA ?_ | refine zB ?_ | refine zC ?_ | refine zD ?_ | refine zE ?_ | refine zF ?_ | refine zG ?_ | refine zH ?_ | refine zI ?_ | refine zJ ?_ | refine zK ?_ | refine zL ?_ | refine zT ?_ | refine zU ?_ | refine zV ?_ | refine zW ?_ | refine zM ?_ | refine zN ?_ | refine zO ?_ | refine zP ?_ | refine zQ ?_ | refine zR ?_ | refine zS ?_ | refine z0 ?_ | refine z1 ?_ | refine z2 ?_ | refine z3 ?_ | refine z4 ?_ | refine z5 ?_ | refine z6 ?_ | refine z7 ?_ | refine z8 ?_ | refine z9 ?_)
    exact ⟨(k, { s3 with e0 := er }), ⟨by simp only; omega, by simp only; omega, by simp only; omega, hE⟩, by simp only; omega, zX⟩
  · rw [if_pos (of_decide_eq_true h1)] at hE
    repeat (first | refine zA ?_ | refine zB ?_ | refine zC ?_ | refine zD ?_ | refine zE ?_ | refine zF ?_ | refine zG ?_ | refine zH ?_ | refine zI ?_ | refine zJ ?_ | refine zK ?_ | refine zL ?_ | refine zT ?_ | refine zU ?_ | refine zV ?_ | refine zW ?_ | refine zM ?_ | refine zN ?_ | refine zO ?_ | refine zP ?_ | refine zQ ?_ | refine zR ?_ | refine zS ?_ | refine z0 ?_ | refine z1 ?_ | refine z2 ?_ | refine z3 ?_ | refine z4 ?_ | refine z5 ?_ | refine z6 ?_ | refine z7 ?_ | refine z8 ?_ | refine z9 ?_)
    first | refine finX_ret (pieceB l me log s2) rfl rfl (by (repeat (first | exact trivial | refine ⟨⟨rfl, rfl⟩, ?_⟩))) (by (repeat (first | exact trivial | refine ⟨rfl, ?_⟩))) ?_ | refine finX_normal (pieceB l me log s2) rfl rfl (by (repeat (first | exact trivial | refine ⟨⟨rfl, rfl⟩, ?_⟩))) (by (repeat (first | exact trivial | refine ⟨rfl, ?_⟩))) ?_
    exact ⟨_, s2, hE.symm, by omega, hlen2, rfl, rfl⟩

/-- Takes back reservations. -/
def setE (i : Nat) : Pm Unit := fun _ s => .ok ((), match i with | 0 => { s with e0 := 0 } | 1 => { s with e1 := 0 } | _ => { s with e2 := 0 })
def clr1 (l : LayT) (me : Int) (i : Nat) (e : Int) : Pm Unit := if e = 0 then .pure () else (storeM (resvF l me i) 0).bind fun _ => setE i
def clrL (l : LayT) (me : Int) (i : Nat) : List Int → Pm Unit
  | [] => .pure ()
  | e :: es => (clr1 l me i e).bind fun _ => clrL l me (i + 1) es
def clearM (l : LayT) (me : Int) : Pm Unit := fun log s => clrL l me 0 [s.e0, s.e1, s.e2] log s
set_option maxHeartbeats 4000000 in
theorem clear_x (l : LayT) (hL : LayOk l) (me : Int) (log : List ResT) (s : PsT) (hm : s.made ≤ log.length) (hl : log.length ≤ 1000000) : PmC 83 l me log s [.ptr 11 0] (clearM l me log s) (fun _ => .tup []) := by
  generalize hE : clearM l me log s = E
  unfold clearM at hE
  refine impX_fin tabOk Try.func83 rfl Try.ntmps83 rfl rfl rfl (by (repeat (first | exact trivial | refine ⟨rfl, ?_⟩))) fun w cl own kf => ?_
  repeat (first | refine zA ?_ | refine zB ?_ | refine zC ?_ | refine zD ?_ | refine zE ?_ | refine zF ?_ | refine zG ?_ | refine zH ?_ | refine zI ?_ | refine zJ ?_ | refine zK ?_ | refine zL ?_ | refine zT ?_ | refine zU ?_ | refine zV ?_ | refine zW ?_ | refine zM ?_ | refine zN ?_ | refine zO ?_ | refine zP ?_ | refine zQ ?_ | refine zR ?_ | refine zS ?_ | refine z0 ?_ | refine z1 ?_ | refine z2 ?_ | refine z3 ?_ | refine z4 ?_ | refine z5 ?_ | refine z6 ?_ | refine z7 ?_ | refine z8 ?_ | refine z9 ?_)
  refine awp_loop_ok (fun p : Nat × PsT => p.1 ≤ 3 ∧ s.made ≤ p.2.made ∧ p.2.made ≤ log.length ∧ clrL l me p.1 ([s.e0, s.e1, s.e2].drop p.1) log p.2 = E) (fun p => ⟨[(8, dI p.1), (7, .agg [dI s.e0, dI s.e1, dI s.e2]), (0, .ptr 11 0)], pieceB l me log p.2, []⟩) (fun p => 3 - p.1) (0, s) ⟨by simp only; omega, Nat.le_refl _, hm, hE⟩ (zX) ?_
  rintro ⟨i, t⟩ ⟨hi, ht0, ht1, hE⟩
  simp only at hi ht0 ht1 hE
  rcases (show i = 0 ∨ i = 1 ∨ i = 2 ∨ i = 3 by omega) with rfl | rfl | rfl | rfl
  · refine (show AWP _ _ _ _ ⟨[(8, dI 0), (7, .agg [dI s.e0, dI s.e1, dI s.e2]), (0, .ptr 11 0)], pieceB l me log t, []⟩ from ?_)
    have hE : (clr1 l me 0 s.e0).bind (fun _ => clrL l me 1 ([s.e0, s.e1, s.e2].drop 1)) log t = E := hE
    repeat (first | refine zA ?_ | refine zB ?_ | refine zC ?_ | refine zD ?_ | refine zE ?_ | refine zF ?_ | refine zG ?_ | refine zH ?_ | refine zI ?_ | refine zJ ?_ | refine zK ?_ | refine zL ?_ | refine zT ?_ | refine zU ?_ | refine zV ?_ | refine zW ?_ | refine zM ?_ | refine zN ?_ | refine zO ?_ | refine zP ?_ | refine zQ ?_ | refine zR ?_ | refine zS ?_ | refine z0 ?_ | refine z1 ?_ | refine z2 ?_ | refine z3 ?_ | refine z4 ?_ | refine z5 ?_ | refine z6 ?_ | refine z7 ?_ | refine z8 ?_ | refine z9 ?_)
    refine ck_b (fun h1 => ?_) (fun h1 => ?_) <;> try rw [h1]
    · repeat (first | refine zA ?_ | refine zB ?_ | refine zC ?_ | refine zD ?_ | refine zE ?_ | refine zF ?_ | refine zG ?_ | refine zH ?_ | refine zI ?_ | refine zJ ?_ | refine zK ?_ | refine zL ?_ | refine zT ?_ | refine zU ?_ | refine zV ?_ | refine zW ?_ | refine zM ?_ | refine zN ?_ | refine zO ?_ | refine zP ?_ | refine zQ ?_ | refine zR ?_ | refine zS ?_ | refine z0 ?_ | refine z1 ?_ | refine z2 ?_ | refine z3 ?_ | refine z4 ?_ | refine z5 ?_ | refine z6 ?_ | refine z7 ?_ | refine z8 ?_ | refine z9 ?_)
      refine a_q (index_step tabOk (dI s.e0) rfl rfl rfl rfl rfl rfl (by omega) (by omega) rfl) rfl rfl rfl ?_
      repeat (first | refine zA ?_ | refine zB ?_ | refine zC ?_ | refine zD ?_ | refine zE ?_ | refine zF ?_ | refine zG ?_ | refine zH ?_ | refine zI ?_ | refine zJ ?_ | refine zK ?_ | refine zL ?_ | refine zT ?_ | refine zU ?_ | refine zV ?_ | refine zW ?_ | refine zM ?_ | refine zN ?_ | refine zO ?_ | refine zP ?_ | refine zQ ?_ | refine zR ?_ | refine zS ?_ | refine z0 ?_ | refine z1 ?_ | refine z2 ?_ | refine z3 ?_ | refine z4 ?_ | refine z5 ?_ | refine z6 ?_ | refine z7 ?_ | refine z8 ?_ | refine z9 ?_)
      generalize h2 : decide (s.e0 = 0) = cc; cases cc
      · rw [clr1, if_neg (of_decide_eq_false h2)] at hE
        repeat (first | refine zA ?_ | refine zB ?_ | refine zC ?_ | refine zD ?_ | refine zE ?_ | refine zF ?_ | refine zG ?_ | refine zH ?_ | refine zI ?_ | refine zJ ?_ | refine zK ?_ | refine zL ?_ | refine zT ?_ | refine zU ?_ | refine zV ?_ | refine zW ?_ | refine zM ?_ | refine zN ?_ | refine zO ?_ | refine zP ?_ | refine zQ ?_ | refine zR ?_ | refine zS ?_ | refine z0 ?_ | refine z1 ?_ | refine z2 ?_ | refine z3 ?_ | refine z4 ?_ | refine z5 ?_ | refine z6 ?_ | refine z7 ?_ | refine z8 ?_ | refine z9 ?_)
        refine awp_region_w 11 [] rfl rfl (by kernel_rfl) (by kernel_rfl) (by kernel_rfl) ?_
        repeat (first | refine w0 ?_ | refine w1 ?_ | refine w2 ?_ | refine w3 ?_ | refine w4 ?_ | refine w5 ?_ | refine w6 ?_ | refine w7 ?_ | refine w8 ?_ | refine w9 ?_)
        refine r_q (call_step (resv_c l hL me 0 (by omega)) rfl (fun a w => Try.call23 a w) rfl) rfl rfl ?_
        repeat (first | refine w0 ?_ | refine w1 ?_ | refine w2 ?_ | refine w3 ?_ | refine w4 ?_ | refine w5 ?_ | refine w6 ?_ | refine w7 ?_ | refine w8 ?_ | refine w9 ?_)
        refine a_callX (store_x l me log t (resvF l me 0) 0 ht1 hl) rfl (fun a w => Try.call76 a w) rfl rfl (by (repeat (first | exact trivial | refine ⟨⟨rfl, rfl⟩, ?_⟩))) (by (repeat (first | exact trivial | refine ⟨.inr rfl, ?_⟩ | refine ⟨.inl rfl, ?_⟩))) rfl rfl rfl rfl ?_ ?_ ?_ ?_
        · rintro d bs ⟨x, s', _, _, _, rfl, rfl⟩; exact ⟨.inl rfl, .inl rfl, .inl rfl, trivial⟩
        · rintro v bs ⟨a, s', _, rfl, rfl⟩; exact ⟨.inl rfl, .inl rfl, .inl rfl, trivial⟩
        · rintro v bs ⟨a, s', h, rfl, rfl⟩
          repeat (first | refine q_then_panic ?_ | refine q_block_panic ?_ | refine q_scope_panic ?_)
          refine finX_panic (pieceB l me log s') (by (repeat (first | exact trivial | refine ⟨⟨rfl, rfl⟩, ?_⟩))) (by (repeat (first | exact trivial | refine ⟨rfl, ?_⟩))) ?_
          exact ⟨a, s', by rw [← hE]; exact bind_err (bind_err h), rfl, rfl⟩
        rintro d bs ⟨u, s1, hq1, hle1, hlen1, rfl, rfl⟩
        have hE2 : clrL l me 1 ([s.e0, s.e1, s.e2].drop 1) log { s1 with e0 := 0 } = E := by rw [← hE]; exact (bind_ok (f := fun _ => clrL l me 1 ([s.e0, s.e1, s.e2].drop 1)) (bind_ok (f := fun _ => setE 0) hq1)).symm
        repeat (first | refine zA ?_ | refine zB ?_ | refine zC ?_ | refine zD ?_ | refine zE ?_ | refine zF ?_ | refine zG ?_ | refine zH ?_ | refine zI ?_ | refine zJ ?_ | refine zK ?_ | refine zL ?_ | refine zT ?_ | refine zU ?_ | refine zV ?_ | refine zW ?_ | refine zM ?_ | refine zN ?_ | refine zO ?_ | refine zP ?_ | refine zQ ?_ | refine zR ?_ | refine zS ?_ | refine z0 ?_ | refine z1 ?_ | refine z2 ?_ | refine z3 ?_ | refine z4 ?_ | refine z5 ?_ | refine z6 ?_ | refine z7 ?_ | refine z8 ?_ | refine z9 ?_)
        refine a_q (indexAddrP_step tabOk rfl rfl rfl rfl rfl (by omega) (by omega)) rfl rfl rfl ?_
        repeat (first | refine zA ?_ | refine zB ?_ | refine zC ?_ | refine zD ?_ | refine zE ?_ | refine zF ?_ | refine zG ?_ | refine zH ?_ | refine zI ?_ | refine zJ ?_ | refine zK ?_ | refine zL ?_ | refine zT ?_ | refine zU ?_ | refine zV ?_ | refine zW ?_ | refine zM ?_ | refine zN ?_ | refine zO ?_ | refine zP ?_ | refine zQ ?_ | refine zR ?_ | refine zS ?_ | refine z0 ?_ | refine z1 ?_ | refine z2 ?_ | refine z3 ?_ | refine z4 ?_ | refine z5 ?_ | refine z6 ?_ | refine z7 ?_ | refine z8 ?_ | refine z9 ?_)
        exact ⟨(1, { s1 with e0 := 0 }), ⟨by simp only; omega, by simp only; omega, by simp only; omega, hE2⟩, by simp only; omega, zX⟩
      · rw [clr1, if_pos (of_decide_eq_true h2)] at hE
        repeat (first | refine zA ?_ | refine zB ?_ | refine zC ?_ | refine zD ?_ | refine zE ?_ | refine zF ?_ | refine zG ?_ | refine zH ?_ | refine zI ?_ | refine zJ ?_ | refine zK ?_ | refine zL ?_ | refine zT ?_ | refine zU ?_ | refine zV ?_ | refine zW ?_ | refine zM ?_ | refine zN ?_ | refine zO ?_ | refine zP ?_ | refine zQ ?_ | refine zR ?_ | refine zS ?_ | refine z0 ?_ | refine z1 ?_ | refine z2 ?_ | refine z3 ?_ | refine z4 ?_ | refine z5 ?_ | refine z6 ?_ | refine z7 ?_ | refine z8 ?_ | refine z9 ?_)
        exact ⟨(1, t), ⟨by simp only; omega, ht0, ht1, hE⟩, by simp only; omega, zX⟩
    · exact absurd h1 (by decide)
  · refine (show AWP _ _ _ _ ⟨[(8, dI 1), (7, .agg [dI s.e0, dI s.e1, dI s.e2]), (0, .ptr 11 0)], pieceB l me log t, []⟩ from ?_)
    have hE : (clr1 l me 1 s.e1).bind (fun _ => clrL l me 2 ([s.e0, s.e1, s.e2].drop 2)) log t = E := hE
    repeat (first | refine zA ?_ | refine zB ?_ | refine zC ?_ | refine zD ?_ | refine zE ?_ | refine zF ?_ | refine zG ?_ | refine zH ?_ | refine zI ?_ | refine zJ ?_ | refine zK ?_ | refine zL ?_ | refine zT ?_ | refine zU ?_ | refine zV ?_ | refine zW ?_ | refine zM ?_ | refine zN ?_ | refine zO ?_ | refine zP ?_ | refine zQ ?_ | refine zR ?_ | refine zS ?_ | refine z0 ?_ | refine z1 ?_ | refine z2 ?_ | refine z3 ?_ | refine z4 ?_ | refine z5 ?_ | refine z6 ?_ | refine z7 ?_ | refine z8 ?_ | refine z9 ?_)
    refine ck_b (fun h1 => ?_) (fun h1 => ?_) <;> try rw [h1]
    · repeat (first | refine zA ?_ | refine zB ?_ | refine zC ?_ | refine zD ?_ | refine zE ?_ | refine zF ?_ | refine zG ?_ | refine zH ?_ | refine zI ?_ | refine zJ ?_ | refine zK ?_ | refine zL ?_ | refine zT ?_ | refine zU ?_ | refine zV ?_ | refine zW ?_ | refine zM ?_ | refine zN ?_ | refine zO ?_ | refine zP ?_ | refine zQ ?_ | refine zR ?_ | refine zS ?_ | refine z0 ?_ | refine z1 ?_ | refine z2 ?_ | refine z3 ?_ | refine z4 ?_ | refine z5 ?_ | refine z6 ?_ | refine z7 ?_ | refine z8 ?_ | refine z9 ?_)
      refine a_q (index_step tabOk (dI s.e1) rfl rfl rfl rfl rfl rfl (by omega) (by omega) rfl) rfl rfl rfl ?_
      repeat (first | refine zA ?_ | refine zB ?_ | refine zC ?_ | refine zD ?_ | refine zE ?_ | refine zF ?_ | refine zG ?_ | refine zH ?_ | refine zI ?_ | refine zJ ?_ | refine zK ?_ | refine zL ?_ | refine zT ?_ | refine zU ?_ | refine zV ?_ | refine zW ?_ | refine zM ?_ | refine zN ?_ | refine zO ?_ | refine zP ?_ | refine zQ ?_ | refine zR ?_ | refine zS ?_ | refine z0 ?_ | refine z1 ?_ | refine z2 ?_ | refine z3 ?_ | refine z4 ?_ | refine z5 ?_ | refine z6 ?_ | refine z7 ?_ | refine z8 ?_ | refine z9 ?_)
      generalize h2 : decide (s.e1 = 0) = cc; cases cc
      · rw [clr1, if_neg (of_decide_eq_false h2)] at hE
        repeat (first | refine zA ?_ | refine zB ?_ | refine zC ?_ | refine zD ?_ | refine zE ?_ | refine zF ?_ | refine zG ?_ | refine zH ?_ | refine zI ?_ | refine zJ ?_ | refine zK ?_ | refine zL ?_ | refine zT ?_ | refine zU ?_ | refine zV ?_ | refine zW ?_ | refine zM ?_ | refine zN ?_ | refine zO ?_ | refine zP ?_ | refine zQ ?_ | refine zR ?_ | refine zS ?_ | refine z0 ?_ | refine z1 ?_ | refine z2 ?_ | refine z3 ?_ | refine z4 ?_ | refine z5 ?_ | refine z6 ?_ | refine z7 ?_ | refine z8 ?_ | refine z9 ?_)
        refine awp_region_w 11 [] rfl rfl (by kernel_rfl) (by kernel_rfl) (by kernel_rfl) ?_
        repeat (first | refine w0 ?_ | refine w1 ?_ | refine w2 ?_ | refine w3 ?_ | refine w4 ?_ | refine w5 ?_ | refine w6 ?_ | refine w7 ?_ | refine w8 ?_ | refine w9 ?_)
        refine r_q (call_step (resv_c l hL me 1 (by omega)) rfl (fun a w => Try.call23 a w) rfl) rfl rfl ?_
        repeat (first | refine w0 ?_ | refine w1 ?_ | refine w2 ?_ | refine w3 ?_ | refine w4 ?_ | refine w5 ?_ | refine w6 ?_ | refine w7 ?_ | refine w8 ?_ | refine w9 ?_)
        refine a_callX (store_x l me log t (resvF l me 1) 0 ht1 hl) rfl (fun a w => Try.call76 a w) rfl rfl (by (repeat (first | exact trivial | refine ⟨⟨rfl, rfl⟩, ?_⟩))) (by (repeat (first | exact trivial | refine ⟨.inr rfl, ?_⟩ | refine ⟨.inl rfl, ?_⟩))) rfl rfl rfl rfl ?_ ?_ ?_ ?_
        · rintro d bs ⟨x, s', _, _, _, rfl, rfl⟩; exact ⟨.inl rfl, .inl rfl, .inl rfl, trivial⟩
        · rintro v bs ⟨a, s', _, rfl, rfl⟩; exact ⟨.inl rfl, .inl rfl, .inl rfl, trivial⟩
        · rintro v bs ⟨a, s', h, rfl, rfl⟩
          repeat (first | refine q_then_panic ?_ | refine q_block_panic ?_ | refine q_scope_panic ?_)
          refine finX_panic (pieceB l me log s') (by (repeat (first | exact trivial | refine ⟨⟨rfl, rfl⟩, ?_⟩))) (by (repeat (first | exact trivial | refine ⟨rfl, ?_⟩))) ?_
          exact ⟨a, s', by rw [← hE]; exact bind_err (bind_err h), rfl, rfl⟩
        rintro d bs ⟨u, s1, hq1, hle1, hlen1, rfl, rfl⟩
        have hE2 : clrL l me 2 ([s.e0, s.e1, s.e2].drop 2) log { s1 with e1 := 0 } = E := by rw [← hE]; exact (bind_ok (f := fun _ => clrL l me 2 ([s.e0, s.e1, s.e2].drop 2)) (bind_ok (f := fun _ => setE 1) hq1)).symm
        repeat (first | refine zA ?_ | refine zB ?_ | refine zC ?_ | refine zD ?_ | refine zE ?_ | refine zF ?_ | refine zG ?_ | refine zH ?_ | refine zI ?_ | refine zJ ?_ | refine zK ?_ | refine zL ?_ | refine zT ?_ | refine zU ?_ | refine zV ?_ | refine zW ?_ | refine zM ?_ | refine zN ?_ | refine zO ?_ | refine zP ?_ | refine zQ ?_ | refine zR ?_ | refine zS ?_ | refine z0 ?_ | refine z1 ?_ | refine z2 ?_ | refine z3 ?_ | refine z4 ?_ | refine z5 ?_ | refine z6 ?_ | refine z7 ?_ | refine z8 ?_ | refine z9 ?_)
        refine a_q (indexAddrP_step tabOk rfl rfl rfl rfl rfl (by omega) (by omega)) rfl rfl rfl ?_
        repeat (first | refine zA ?_ | refine zB ?_ | refine zC ?_ | refine zD ?_ | refine zE ?_ | refine zF ?_ | refine zG ?_ | refine zH ?_ | refine zI ?_ | refine zJ ?_ | refine zK ?_ | refine zL ?_ | refine zT ?_ | refine zU ?_ | refine zV ?_ | refine zW ?_ | refine zM ?_ | refine zN ?_ | refine zO ?_ | refine zP ?_ | refine zQ ?_ | refine zR ?_ | refine zS ?_ | refine z0 ?_ | refine z1 ?_ | refine z2 ?_ | refine z3 ?_ | refine z4 ?_ | refine z5 ?_ | refine z6 ?_ | refine z7 ?_ | refine z8 ?_ | refine z9 ?_)
        exact ⟨(2, { s1 with e1 := 0 }), ⟨by simp only; omega, by simp only; omega, by simp only; omega, hE2⟩, by simp only; omega, zX⟩
      · rw [clr1, if_pos (of_decide_eq_true h2)] at hE
        repeat (first | refine zA ?_ | refine zB ?_ | refine zC ?_ | refine zD ?_ | refine zE ?_ | refine zF ?_ | refine zG ?_ | refine zH ?_ | refine zI ?_ | refine zJ ?_ | refine zK ?_ | refine zL ?_ | refine zT ?_ | refine zU ?_ | refine zV ?_ | refine zW ?_ | refine zM ?_ | refine zN ?_ | refine zO ?_ | refine zP ?_ | refine zQ ?_ | refine zR ?_ | refine zS ?_ | refine z0 ?_ | refine z1 ?_ | refine z2 ?_ | refine z3 ?_ | refine z4 ?_ | refine z5 ?_ | refine z6 ?_ | refine z7 ?_ | refine z8 ?_ | refine z9 ?_)
        exact ⟨(2, t), ⟨by simp only; omega, ht0, ht1, hE⟩, by simp only; omega, zX⟩
    · exact absurd h1 (by decide)
  · refine (show AWP _ _ _ _ ⟨[(8, dI 2), (7, .agg [dI s.e0, dI s.e1, dI s.e2]), (0, .ptr 11 0)], pieceB l me log t, []⟩ from ?_)
    have hE : (clr1 l me 2 s.e2).bind (fun _ => clrL l me 3 ([s.e0, s.e1, s.e2].drop 3)) log t = E := hE
    repeat (first | refine zA ?_ | refine zB ?_ | refine zC ?_ | refine zD ?_ | refine zE ?_ | refine zF ?_ | refine zG ?_ | refine zH ?_ | refine zI ?_ | refine zJ ?_ | refine zK ?_ | refine zL ?_ | refine zT ?_ | refine zU ?_ | refine zV ?_ | refine zW ?_ | refine zM ?_ | refine zN ?_ | refine zO ?_ | refine zP ?_ | refine zQ ?_ | refine zR ?_ | refine zS ?_ | refine z0 ?_ | refine z1 ?_ | refine z2 ?_ | refine z3 ?_ | refine z4 ?_ | refine z5 ?_ | refine z6 ?_ | refine z7 ?_ | refine z8 ?_ | refine z9 ?_)
    refine ck_b (fun h1 => ?_) (fun h1 => ?_) <;> try rw [h1]
    · repeat (first | refine zA ?_ | refine zB ?_ | refine zC ?_ | refine zD ?_ | refine zE ?_ | refine zF ?_ | refine zG ?_ | refine zH ?_ | refine zI ?_ | refine zJ ?_ | refine zK ?_ | refine zL ?_ | refine zT ?_ | refine zU ?_ | refine zV ?_ | refine zW ?_ | refine zM ?_ | refine zN ?_ | refine zO ?_ | refine zP ?_ | refine zQ ?_ | refine zR ?_ | refine zS ?_ | refine z0 ?_ | refine z1 ?_ | refine z2 ?_ | refine z3 ?_ | refine z4 ?_ | refine z5 ?_ | refine z6 ?_ | refine z7 ?_ | refine z8 ?_ | refine z9 ?_)
      refine a_q (index_step tabOk (dI s.e2) rfl rfl rfl rfl rfl rfl (by omega) (by omega) rfl) rfl rfl rfl ?_
      repeat (first | refine zA ?_ | refine zB ?_ | refine zC ?_ | refine zD ?_ | refine zE ?_ | refine zF ?_ | refine zG ?_ | refine zH ?_ | refine zI ?_ | refine zJ ?_ | refine zK ?_ | refine zL ?_ | refine zT ?_ | refine zU ?_ | refine zV ?_ | refine zW ?_ | refine zM ?_ | refine zN ?_ | refine zO ?_ | refine zP ?_ | refine zQ ?_ | refine zR ?_ | refine zS ?_ | refine z0 ?_ | refine z1 ?_ | refine z2 ?_ | refine z3 ?_ | refine z4 ?_ | refine z5 ?_ | refine z6 ?_ | refine z7 ?_ | refine z8 ?_ | refine z9 ?_)
      generalize h2 : decide (s.e2 = 0) = cc; cases cc
      · rw [clr1, if_neg (of_decide_eq_false h2)] at hE
        repeat (first | refine zA ?_ | refine zB ?_ | refine zC ?_ | refine zD ?_ | refine zE ?_ | refine zF ?_ | refine zG ?_ | refine zH ?_ | refine zI ?_ | refine zJ ?_ | refine zK ?_ | refine zL ?_ | refine zT ?_ | refine zU ?_ | refine zV ?_ | refine zW ?_ | refine zM ?_ | refine zN ?_ | refine zO ?_ | refine zP ?_ | refine zQ ?_ | refine zR ?_ | refine zS ?_ | refine z0 ?_ | refine z1 ?_ | refine z2 ?_ | refine z3 ?_ | refine z4 ?_ | refine z5 ?_ | refine z6 ?_ | refine z7 ?_ | refine z8 ?_ | refine z9 ?_)
        refine awp_region_w 11 [] rfl rfl (by kernel_rfl) (by kernel_rfl) (by kernel_rfl) ?_
        repeat (first | refine w0 ?_ | refine w1 ?_ | refine w2 ?_ | refine w3 ?_ | refine w4 ?_ | refine w5 ?_ | refine w6 ?_ | refine w7 ?_ | refine w8 ?_ | refine w9 ?_)
        refine r_q (call_step (resv_c l hL me 2 (by omega)) rfl (fun a w => Try.call23 a w) rfl) rfl rfl ?_
        repeat (first | refine w0 ?_ | refine w1 ?_ | refine w2 ?_ | refine w3 ?_ | refine w4 ?_ | refine w5 ?_ | refine w6 ?_ | refine w7 ?_ | refine w8 ?_ | refine w9 ?_)
        refine a_callX (store_x l me log t (resvF l me 2) 0 ht1 hl) rfl (fun a w => Try.call76 a w) rfl rfl (by (repeat (first | exact trivial | refine ⟨⟨rfl, rfl⟩, ?_⟩))) (by (repeat (first | exact trivial | refine ⟨.inr rfl, ?_⟩ | refine ⟨.inl rfl, ?_⟩))) rfl rfl rfl rfl ?_ ?_ ?_ ?_
        · rintro d bs ⟨x, s', _, _, _, rfl, rfl⟩; exact ⟨.inl rfl, .inl rfl, .inl rfl, trivial⟩
        · rintro v bs ⟨a, s', _, rfl, rfl⟩; exact ⟨.inl rfl, .inl rfl, .inl rfl, trivial⟩
        · rintro v bs ⟨a, s', h, rfl, rfl⟩
          repeat (first | refine q_then_panic ?_ | refine q_block_panic ?_ | refine q_scope_panic ?_)
          refine finX_panic (pieceB l me log s') (by (repeat (first | exact trivial | refine ⟨⟨rfl, rfl⟩, ?_⟩))) (by (repeat (first | exact trivial | refine ⟨rfl, ?_⟩))) ?_
          exact ⟨a, s', by rw [← hE]; exact bind_err (bind_err h), rfl, rfl⟩
        rintro d bs ⟨u, s1, hq1, hle1, hlen1, rfl, rfl⟩
        have hE2 : clrL l me 3 ([s.e0, s.e1, s.e2].drop 3) log { s1 with e2 := 0 } = E := by rw [← hE]; exact (bind_ok (f := fun _ => clrL l me 3 ([s.e0, s.e1, s.e2].drop 3)) (bind_ok (f := fun _ => setE 2) hq1)).symm
        repeat (first | refine zA ?_ | refine zB ?_ | refine zC ?_ | refine zD ?_ | refine zE ?_ | refine zF ?_ | refine zG ?_ | refine zH ?_ | refine zI ?_ | refine zJ ?_ | refine zK ?_ | refine zL ?_ | refine zT ?_ | refine zU ?_ | refine zV ?_ | refine zW ?_ | refine zM ?_ | refine zN ?_ | refine zO ?_ | refine zP ?_ | refine zQ ?_ | refine zR ?_ | refine zS ?_ | refine z0 ?_ | refine z1 ?_ | refine z2 ?_ | refine z3 ?_ | refine z4 ?_ | refine z5 ?_ | refine z6 ?_ | refine z7 ?_ | refine z8 ?_ | refine z9 ?_)
        refine a_q (indexAddrP_step tabOk rfl rfl rfl rfl rfl (by omega) (by omega)) rfl rfl rfl ?_
        repeat (first | refine zA ?_ | refine zB ?_ | refine zC ?_ | refine zD ?_ | refine zE ?_ | refine zF ?_ | refine zG ?_ | refine zH ?_ | refine zI ?_ | refine zJ ?_ | refine zK ?_ | refine zL ?_ | refine zT ?_ | refine zU ?_ | refine zV ?_ | refine zW ?_ | refine zM ?_ | refine zN ?_ | refine zO ?_ | refine zP ?_ | refine zQ ?_ | refine zR ?_ | refine zS ?_ | refine z0 ?_ | refine z1 ?_ | refine z2 ?_ | refine z3 ?_ | refine z4 ?_ | refine z5 ?_ | refine z6 ?_ | refine z7 ?_ | refine z8 ?_ | refine z9 ?_)
        exact ⟨(3, { s1 with e2 := 0 }), ⟨by simp only; omega, by simp only; omega, by simp only; omega, hE2⟩, by simp only; omega, zX⟩
      · rw [clr1, if_pos (of_decide_eq_true h2)] at hE
        repeat (first | refine zA ?_ | refine zB ?_ | refine zC ?_ | refine zD ?_ | refine zE ?_ | refine zF ?_ | refine zG ?_ | refine zH ?_ | refine zI ?_ | refine zJ ?_ | refine zK ?_ | refine zL ?_ | refine zT ?_ | refine zU ?_ | refine zV ?_ | refine zW ?_ | refine zM ?_ | refine zN ?_ | refine zO ?_ | refine zP ?_ | refine zQ ?_ | refine zR ?_ | refine zS ?_ | refine z0 ?_ | refine z1 ?_ | refine z2 ?_ | refine z3 ?_ | refine z4 ?_ | refine z5 ?_ | refine z6 ?_ | refine z7 ?_ | refine z8 ?_ | refine z9 ?_)
        exact ⟨(3, t), ⟨by simp only; omega, ht0, ht1, hE⟩, by simp only; omega, zX⟩
    · exact absurd h1 (by decide)
  · refine (show AWP _ _ _ _ ⟨[(8, dI 3), (7, .agg [dI s.e0, dI s.e1, dI s.e2]), (0, .ptr 11 0)], pieceB l me log t, []⟩ from ?_)
    repeat (first | refine zA ?_ | refine zB ?_ | refine zC ?_ | refine zD ?_ | refine zE ?_ | refine zF ?_ | refine zG ?_ | refine zH ?_ | refine zI ?_ | refine zJ ?_ | refine zK ?_ | refine zL ?_ | refine zT ?_ | refine zU ?_ | refine zV ?_ | refine zW ?_ | refine zM ?_ | refine zN ?_ | refine zO ?_ | refine zP ?_ | refine zQ ?_ | refine zR ?_ | refine zS ?_ | refine z0 ?_ | refine z1 ?_ | refine z2 ?_ | refine z3 ?_ | refine z4 ?_ | refine z5 ?_ | refine z6 ?_ | refine z7 ?_ | refine z8 ?_ | refine z9 ?_)
    refine ck_b (fun h1 => ?_) (fun h1 => ?_) <;> try rw [h1]
    · exact absurd h1 (by decide)
    · repeat (first | refine zA ?_ | refine zB ?_ | refine zC ?_ | refine zD ?_ | refine zE ?_ | refine zF ?_ | refine zG ?_ | refine zH ?_ | refine zI ?_ | refine zJ ?_ | refine zK ?_ | refine zL ?_ | refine zT ?_ | refine zU ?_ | refine zV ?_ | refine zW ?_ | refine zM ?_ | refine zN ?_ | refine zO ?_ | refine zP ?_ | refine zQ ?_ | refine zR ?_ | refine zS ?_ | refine z0 ?_ | refine z1 ?_ | refine z2 ?_ | refine z3 ?_ | refine z4 ?_ | refine z5 ?_ | refine z6 ?_ | refine z7 ?_ | refine z8 ?_ | refine z9 ?_)
      first | refine finX_ret (pieceB l me log t) rfl rfl (by (repeat (first | exact trivial | refine ⟨⟨rfl, rfl⟩, ?_⟩))) (by (repeat (first | exact trivial | refine ⟨rfl, ?_⟩))) ?_ | refine finX_normal (pieceB l me log t) rfl rfl (by (repeat (first | exact trivial | refine ⟨⟨rfl, rfl⟩, ?_⟩))) (by (repeat (first | exact trivial | refine ⟨rfl, ?_⟩))) ?_
      exact ⟨(), t, hE.symm, ht0, ht1, rfl, rfl⟩
/-- What is cloned may be appended to. -/
theorem clone2_f (g : List (Int × Int)) (hg : g.length ≤ 100000) : FreshC Try.prog 72 [dGone g] 60 2 g.length (pGone g) := by
  have hlen : (pGone g).length = g.length * 2 := by
    clear hg
    induction g with
    | nil => rfl
    | cons x g ih => unfold pGone at ih ⊢; rw [List.flatMap_cons, List.length_append, ih]; simp [pPair]; omega
  refine fresh_fin Try.func72 rfl Try.ntmps72 rfl rfl rfl fun w cl => ?_
  repeat (first | refine zA ?_ | refine zB ?_ | refine zC ?_ | refine zD ?_ | refine zE ?_ | refine zF ?_ | refine zG ?_ | refine zH ?_ | refine zI ?_ | refine zJ ?_ | refine zK ?_ | refine zL ?_ | refine zT ?_ | refine zU ?_ | refine zV ?_ | refine zW ?_ | refine zM ?_ | refine zN ?_ | refine zO ?_ | refine zP ?_ | refine zQ ?_ | refine zR ?_ | refine zS ?_ | refine z0 ?_ | refine z1 ?_ | refine z2 ?_ | refine z3 ?_ | refine z4 ?_ | refine z5 ?_ | refine z6 ?_ | refine z7 ?_ | refine z8 ?_ | refine z9 ?_)
  refine a_nil tabOk rfl rfl rfl rfl rfl rfl rfl fun c hc => ?_
  cases c with
  | true =>
    have : g = [] := List.eq_nil_of_length_eq_zero (hc rfl)
    subst this
    repeat (first | refine zA ?_ | refine zB ?_ | refine zC ?_ | refine zD ?_ | refine zE ?_ | refine zF ?_ | refine zG ?_ | refine zH ?_ | refine zI ?_ | refine zJ ?_ | refine zK ?_ | refine zL ?_ | refine zT ?_ | refine zU ?_ | refine zV ?_ | refine zW ?_ | refine zM ?_ | refine zN ?_ | refine zO ?_ | refine zP ?_ | refine zQ ?_ | refine zR ?_ | refine zS ?_ | refine z0 ?_ | refine z1 ?_ | refine z2 ?_ | refine z3 ?_ | refine z4 ?_ | refine z5 ?_ | refine z6 ?_ | refine z7 ?_ | refine z8 ?_ | refine z9 ?_)
    exact finF_full rfl
  | false =>
    repeat (first | refine zA ?_ | refine zB ?_ | refine zC ?_ | refine zD ?_ | refine zE ?_ | refine zF ?_ | refine zG ?_ | refine zH ?_ | refine zI ?_ | refine zJ ?_ | refine zK ?_ | refine zL ?_ | refine zT ?_ | refine zU ?_ | refine zV ?_ | refine zW ?_ | refine zM ?_ | refine zN ?_ | refine zO ?_ | refine zP ?_ | refine zQ ?_ | refine zR ?_ | refine zS ?_ | refine z0 ?_ | refine z1 ?_ | refine z2 ?_ | refine z3 ?_ | refine z4 ?_ | refine z5 ?_ | refine z6 ?_ | refine z7 ?_ | refine z8 ?_ | refine z9 ?_)
    refine aops_ghost (tip_ghost 5 0 60 2 rfl rfl rfl) ?_
    repeat (first | refine zA ?_ | refine zB ?_ | refine zC ?_ | refine zD ?_ | refine zE ?_ | refine zF ?_ | refine zG ?_ | refine zH ?_ | refine zI ?_ | refine zJ ?_ | refine zK ?_ | refine zL ?_ | refine zT ?_ | refine zU ?_ | refine zV ?_ | refine zW ?_ | refine zM ?_ | refine zN ?_ | refine zO ?_ | refine zP ?_ | refine zQ ?_ | refine zR ?_ | refine zS ?_ | refine z0 ?_ | refine z1 ?_ | refine z2 ?_ | refine z3 ?_ | refine z4 ?_ | refine z5 ?_ | refine z6 ?_ | refine z7 ?_ | refine z8 ?_ | refine z9 ?_)
    refine a_append tabOk rfl rfl rfl rfl rfl rfl rfl rfl rfl rfl rfl rfl hlen (by unfold maxLen; omega) (by show (_ + _) * 16 ≤ _; omega) ?_
    rw [Nat.zero_add, List.nil_append]
    repeat (first | refine zA ?_ | refine zB ?_ | refine zC ?_ | refine zD ?_ | refine zE ?_ | refine zF ?_ | refine zG ?_ | refine zH ?_ | refine zI ?_ | refine zJ ?_ | refine zK ?_ | refine zL ?_ | refine zT ?_ | refine zU ?_ | refine zV ?_ | refine zW ?_ | refine zM ?_ | refine zN ?_ | refine zO ?_ | refine zP ?_ | refine zQ ?_ | refine zR ?_ | refine zS ?_ | refine z0 ?_ | refine z1 ?_ | refine z2 ?_ | refine z3 ?_ | refine z4 ?_ | refine z5 ?_ | refine z6 ?_ | refine z7 ?_ | refine z8 ?_ | refine z9 ?_)
    exact finF_ret rfl rfl
end Go.Proofs.Ytpecgpmdchejdaa
