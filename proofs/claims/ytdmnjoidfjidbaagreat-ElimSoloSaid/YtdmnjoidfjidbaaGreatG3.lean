/- What an operation's program does next: its walk. -/
import Derived.Test.YtdmnjoidfjidbaaGreatG2
import Derived.Test.YtdmnjoidfjidbaaGreatW2
import Derived.Test.YtdmnjoidfjidbaaGreatD13
namespace Go.Proofs.YtdmnjoidfjidbaaGreat
open Go.RowKit
set_option maxRecDepth 100000

abbrev nextB (l : LayT) (me : Int) (log : List ResT) (top c : Int) (op : OpT) (s : PsT) : Bxs := [(11, pieceD l me s), (12, [.ptr 11 0]), (13, [dLog log]), (14, [.ptr 11 0]), (15, [dI top]), (17, [dI c]), (16, opD op)]
def NxR {α : Type} (l : LayT) (me : Int) (log : List ResT) (top c : Int) (op : OpT) (m : Except AccT (α × PsT)) (enc : α → Dt) : Dt → Bxs → Prop := fun d bs => ∃ x s', m = .ok (x, s') ∧ d = enc x ∧ bs = nextB l me log top c op s'
def NxX {α : Type} (l : LayT) (me : Int) (log : List ResT) (top c : Int) (op : OpT) (m : Except AccT (α × PsT)) : Value → Bxs → Prop := fun v bs => ∃ a s', m = .error a ∧ v = askedV a ∧ bs = nextB l me log top c op s'
theorem next1_x (l : LayT) (hL : LayOk l) (me : Int) (log : List ResT) (s : PsT) (top c : Int) (op : OpT) (hm : s.made ≤ log.length) (hl : log.length ≤ 1000000) : ImpX Tryz.prog 46 [11, 12, 13, 14, 15, 17, 16] [.ptr 14 0, .ptr 15 0, .ptr 17 0, .ptr 16 0] (nextB l me log top c op s) (NxR l me log top c op (pushM l top c op.a log s) dOut0) (NxX l me log top c op (pushM l top c op.a log s)) := by
  refine sX Tryz.func46 Tryz.ntmps46 fun w cl own kf => ?_
  refine go ?_
  refine cX (push_x l hL me log s top c op.a hm hl) (fun a w => Tryz.call47 a w) ?_ ?_ ?_ ?_
  · rintro d bs ⟨x, s', _, _, _, rfl, rfl⟩; exact ⟨.inl rfl, .inl rfl, .inl rfl, trivial⟩
  · rintro v bs ⟨a, s', _, rfl, rfl⟩; exact ⟨.inl rfl, .inl rfl, .inl rfl, trivial⟩
  · rintro v bs ⟨a, s', h, rfl, rfl⟩
    refine gP ?_
    refine fP (nextB l me log top c op s') ?_
    exact ⟨a, s', h, rfl, rfl⟩
  rintro d bs ⟨x, s', h, hle, hlen, rfl, rfl⟩
  refine go ?_
  first | refine fR (nextB l me log top c op s') ?_ | refine fN (nextB l me log top c op s') ?_
  exact ⟨x, s', h, rfl, rfl⟩
theorem next2_x (l : LayT) (hL : LayOk l) (me : Int) (log : List ResT) (s : PsT) (top c : Int) (op : OpT) (hgo : GoneOk s.gone) (hgl : s.gone.length ≤ 10000) (hm : s.made ≤ log.length) (hl : log.length ≤ 1000000) : ImpX Tryz.prog 48 [11, 12, 13, 14, 15, 17, 16] [.ptr 14 0, .ptr 15 0, .ptr 17 0] (nextB l me log top c op s) (NxR l me log top c op (popM l me top c log s) dOut0) (NxX l me log top c op (popM l me top c log s)) := by
  refine sX Tryz.func48 Tryz.ntmps48 fun w cl own kf => ?_
  refine go ?_
  refine cX (pop_x l hL me log s top c hgo hgl hm hl) (fun a w => Tryz.call49 a w) ?_ ?_ ?_ ?_
  · rintro d bs ⟨x, s', _, _, _, rfl, rfl⟩; exact ⟨.inl rfl, .inl rfl, .inl rfl, trivial⟩
  · rintro v bs ⟨a, s', _, rfl, rfl⟩; exact ⟨.inl rfl, .inl rfl, .inl rfl, trivial⟩
  · rintro v bs ⟨a, s', h, rfl, rfl⟩
    refine gP ?_
    refine fP (nextB l me log top c op s') ?_
    exact ⟨a, s', h, rfl, rfl⟩
  rintro d bs ⟨x, s', h, hle, hlen, rfl, rfl⟩
  refine go ?_
  first | refine fR (nextB l me log top c op s') ?_ | refine fN (nextB l me log top c op s') ?_
  exact ⟨x, s', h, rfl, rfl⟩
def PlayR (m : Except AccT (OutT × PsT)) : Dt → Bxs → Prop := fun d bs => bs = [] ∧ ((∃ x s', m = .ok (x, s') ∧ d = .tup [dAcc acc0, dOut { x with gone := s'.gone }, dB true]) ∨ ∃ a, m = .error a ∧ d = .tup [dAcc a, dOut0 out0, dB false])
abbrev endS (a : AccT) (od : List Dt) (dn : Bool) : St := ⟨[(4, .ptr 22 0), (5, .ptr 23 0), (6, .ptr 24 0)], playB a od dn, []⟩
def PlayQ (m : Except AccT (OutT × PsT)) (Γ : Ctx) : Exit → St → Prop := fun ex σ => (ex = .ret ∧ ∃ x s', m = .ok (x, s') ∧ Ghost Γ σ (endS acc0 (outC { x with gone := s'.gone }) true)) ∨ ∃ a, ex = .panic [pe (askedV a)] ∧ m = .error a ∧ Ghost Γ σ (endS acc0 [dI 0, dB false, dI 0, dI 0, .p (.sl true 0 [])] false)

set_option maxHeartbeats 4000000 in
theorem play_push (l : LayT) (me : Int) (log : List ResT) (s : PsT) (top c : Int) (op : OpT) (m : Except AccT (OutT × PsT)) (hg : ∀ x s', m = .ok (x, s') → s'.gone.length ≤ 100000) (hC : ImpX Tryz.prog 46 [11, 12, 13, 14, 15, 17, 16] [.ptr 14 0, .ptr 15 0, .ptr 17 0, .ptr 16 0] (nextB l me log top c op s) (NxR l me log top c op m dOut0) (NxX l me log top c op m)) :
    ImpC Tryz.prog 45 [] [.ptr 11 0, .fn (.func 46) [] [.ptr 14 0, .ptr 15 0, .ptr 17 0, .ptr 16 0]] (nextB l me log top c op s) (PlayR m) := by
  intro e vs hI hv
  refine calls_of_wp_defers Tryz.func45 rfl ?_
  have hc0 := imp_start (fn := Tryz.f45) (f := 45) (keep := []) [] (by decide) trivial hI hv rfl
  refine wp_seq (Code.wp_mono (fun ex a1 w1 hh => ?_) (AWP.run (Q := fun ex σ => ex = .normal ∧ σ = ⟨[(6, .ptr 24 0), (5, .ptr 23 0), (4, .ptr 22 0), (2, .ptr 21 0), (0, .ptr 11 0), (1, .fn (.func 46) [] [.ptr 14 0, .ptr 15 0, .ptr 17 0, .ptr 16 0])], (24, [dB false]) :: (23, [dI 0, dB false, dI 0, dI 0, .p (.sl true 0 [])]) :: (22, [dI 0, dI 0, dI 0, dI 0]) :: (21, [.ptr 11 0]) :: nextB l me log top c op s, []⟩) ?_ _ e hc0))
  · obtain ⟨σ1, e1, rfl, hc1, rfl, rfl⟩ := hh
    obtain ⟨k1, _, _, b1, _, _⟩ := hc1.boxes 21 _ rfl
    obtain ⟨k2, _, _, b2, _, _⟩ := hc1.boxes 22 _ rfl
    obtain ⟨k3, _, _, b3, _, _⟩ := hc1.boxes 23 _ rfl
    obtain ⟨k4, _, _, b4, _, _⟩ := hc1.boxes 24 _ rfl
    refine wp_seq (wp_defer hc1 rfl rfl rfl rfl rfl rfl rfl rfl [(21, k1), (22, k2), (23, k3), (24, k4)] (fun b k hk => ?_) (fun a2 caps hcaps hc2 => ?_))
    · simp only [lk_cons] at hk
      split at hk
      · rename_i q; cases hk; rw [← q]; exact b1
      · split at hk
        · rename_i q; cases hk; rw [← q]; exact b2
        · split at hk
          · rename_i q; cases hk; rw [← q]; exact b3
          · split at hk
            · rename_i q; cases hk; rw [← q]; exact b4
            · cases hk
    · refine Code.wp_mono (fun ex a3 w3 hh => ?_) (AWP.run (Γ := ⟨18, e.w, e.cl, fun k => ∃ b, e.bx b = some k, [(21, k1), (22, k2), (23, k3), (24, k4)], [{ target := .fn (.func 78) caps.toArray, args := #[] }]⟩) (Q := PlayQ m ⟨18, e.w, e.cl, fun k => ∃ b, e.bx b = some k, [(21, k1), (22, k2), (23, k3), (24, k4)], [{ target := .fn (.func 78) caps.toArray, args := #[] }]⟩) ?_ a2 e1 hc2)
      · obtain ⟨σ3, e3, rfl, hc3, hq⟩ := hh
        rcases hq with ⟨rfl, x, s', hm, hgh⟩ | ⟨a, rfl, hm, hgh⟩
        · skip
          obtain ⟨e4, hw4, hc4⟩ := hgh a3 e3 hc3
          show Leaves Tryz.prog Tryz.f45 a3.tmps _ a3.defers .returning e3.w
          rw [hc4.df, ← hw4]
          have hcap4 : DReps e4 caps [.ptr 22 0, .ptr 21 0, .ptr 23 0, .ptr 24 0] := ⟨hcaps.1, fun i v d hv hd => by
            match i, hv, hd with
            | 0, hv, hd => cases hd; exact ptr_kb (hcaps.2 0 v _ hv rfl) b2 (hc4.env.kb 22 k2 rfl)
            | 1, hv, hd => cases hd; exact ptr_kb (hcaps.2 1 v _ hv rfl) b1 (hc4.env.kb 21 k1 rfl)
            | 2, hv, hd => cases hd; exact ptr_kb (hcaps.2 2 v _ hv rfl) b3 (hc4.env.kb 23 k3 rfl)
            | 3, hv, hd => cases hd; exact ptr_kb (hcaps.2 3 v _ hv rfl) b4 (hc4.env.kb 24 k4 rfl)⟩
          refine leaves_rec hc4 (fun a w => Tryz.call78 a w) hcap4 rfl (by (repeat (first | exact trivial | refine ⟨⟨rfl, rfl⟩, ?_⟩))) ⟨.inr rfl, .inr rfl, .inr rfl, .inr rfl, trivial⟩ rfl (by simp) rfl (fun e0 vs0 h1 h2 => play1_no acc0 { x with gone := s'.gone } true h1 h2) (fun bs' hb => by subst hb; exact ⟨.inl rfl, .inl rfl, .inl rfl, .inl rfl, trivial⟩) (fun bs' e5 hb hc5 => ?_)
          subst hb
          obtain ⟨v, hr, hv5⟩ := resI_rep tabOk (fn := Tryz.f45) (d := .tup [dAcc acc0, dOut { x with gone := s'.gone }, dB true]) hc5 rfl
          refine ⟨v, hr, v, _, [], e5.cut (isIn []) fun _ => false, rfl, rfl, ⟨rfl, .inl ⟨x, s', hm, rfl⟩⟩, cut_in hc5 trivial, hv5.cut rfl, ⟨hc5.env.kept, hc5.env.cl, fun b k hk => ?_, fun b hb => by cases hb⟩⟩
          cases hk
        · skip
          obtain ⟨e4, hw4, hc4⟩ := hgh a3 e3 hc3
          show Leaves Tryz.prog Tryz.f45 a3.tmps _ a3.defers (.panicking [pe (askedV a)]) e3.w
          rw [hc4.df, ← hw4]
          have hcap4 : DReps e4 caps [.ptr 22 0, .ptr 21 0, .ptr 23 0, .ptr 24 0] := ⟨hcaps.1, fun i v d hv hd => by
            match i, hv, hd with
            | 0, hv, hd => cases hd; exact ptr_kb (hcaps.2 0 v _ hv rfl) b2 (hc4.env.kb 22 k2 rfl)
            | 1, hv, hd => cases hd; exact ptr_kb (hcaps.2 1 v _ hv rfl) b1 (hc4.env.kb 21 k1 rfl)
            | 2, hv, hd => cases hd; exact ptr_kb (hcaps.2 2 v _ hv rfl) b3 (hc4.env.kb 23 k3 rfl)
            | 3, hv, hd => cases hd; exact ptr_kb (hcaps.2 3 v _ hv rfl) b4 (hc4.env.kb 24 k4 rfl)⟩
          refine leaves_rec hc4 (fun a w => Tryz.call78 a w) hcap4 rfl (by (repeat (first | exact trivial | refine ⟨⟨rfl, rfl⟩, ?_⟩))) ⟨.inr rfl, .inr rfl, .inr rfl, .inr rfl, trivial⟩ rfl (by simp) rfl (fun e0 vs0 h1 h2 => play1_yes acc0 a _ rfl false h1 h2) (fun bs' hb => by subst hb; exact ⟨.inl rfl, .inl rfl, .inl rfl, .inl rfl, trivial⟩) (fun bs' e5 hb hc5 => ?_)
          subst hb
          obtain ⟨v, hr, hv5⟩ := resI_rep tabOk (fn := Tryz.f45) (d := .tup [dAcc a, dOut0 out0, dB false]) hc5 rfl
          refine ⟨v, hr, v, _, [], e5.cut (isIn []) fun _ => false, rfl, rfl, ⟨rfl, .inr ⟨a, hm, rfl⟩⟩, cut_in hc5 trivial, hv5.cut rfl, ⟨hc5.env.kept, hc5.env.cl, fun b k hk => ?_, fun b hb => by cases hb⟩⟩
          cases hk
      · refine go ?_
        refine a_callvX (hC) rfl (fun a w => Tryz.call46 a w) rfl rfl rfl (by (repeat (first | exact trivial | refine ⟨⟨rfl, rfl⟩, ?_⟩))) (by (repeat (first | exact trivial | refine ⟨.inr rfl, ?_⟩ | refine ⟨.inl rfl, ?_⟩))) rfl rfl rfl rfl ?_ ?_ ?_ ?_
        · rintro d bs ⟨x, s', _, rfl, rfl⟩; exact ⟨.inl rfl, .inl rfl, .inl rfl, .inl rfl, .inl rfl, .inl rfl, .inl rfl, trivial⟩
        · rintro v bs ⟨a, s', _, rfl, rfl⟩; exact ⟨.inl rfl, .inl rfl, .inl rfl, .inl rfl, .inl rfl, .inl rfl, .inl rfl, trivial⟩
        · rintro v bs ⟨a, s', h, rfl, rfl⟩
          refine gP ?_
          exact .inr ⟨a, rfl, h, Ghost.trans (anyB_ghost 21 rfl rfl) (zX)⟩
        rintro d bs ⟨x, s', h, rfl, rfl⟩
        refine go ?_
        refine a_q (call_step ((clone2_f s'.gone (hg x s' h)).pure) rfl (fun a w => Tryz.call61 a w) rfl) rfl rfl rfl ?_
        refine go ?_
        refine awp_region_w 3 [22] rfl rfl (by kernel_rfl) (by kernel_rfl) (by kernel_rfl) ?_
        refine goQ ?_
        refine go ?_
        exact .inl ⟨rfl, x, s', h, Ghost.trans (anyB_ghost 21 rfl rfl) (zX)⟩
  · refine goC ?_
    refine a_b (box_step 21 rfl rfl rfl rfl) rfl rfl rfl rfl ?_
    refine a_b (alloc_step tabOk 22 rfl rfl rfl rfl) rfl rfl rfl rfl ?_
    refine a_b (alloc_step tabOk 23 rfl rfl rfl rfl) rfl rfl rfl rfl ?_
    refine a_b (alloc_step tabOk 24 rfl rfl rfl rfl) rfl rfl rfl rfl ?_
    exact aops_nil ⟨rfl, rfl⟩

set_option maxHeartbeats 4000000 in
theorem play_pop (l : LayT) (me : Int) (log : List ResT) (s : PsT) (top c : Int) (op : OpT) (m : Except AccT (OutT × PsT)) (hg : ∀ x s', m = .ok (x, s') → s'.gone.length ≤ 100000) (hC : ImpX Tryz.prog 48 [11, 12, 13, 14, 15, 17, 16] [.ptr 14 0, .ptr 15 0, .ptr 17 0] (nextB l me log top c op s) (NxR l me log top c op m dOut0) (NxX l me log top c op m)) :
    ImpC Tryz.prog 45 [] [.ptr 11 0, .fn (.func 48) [] [.ptr 14 0, .ptr 15 0, .ptr 17 0]] (nextB l me log top c op s) (PlayR m) := by
  intro e vs hI hv
  refine calls_of_wp_defers Tryz.func45 rfl ?_
  have hc0 := imp_start (fn := Tryz.f45) (f := 45) (keep := []) [] (by decide) trivial hI hv rfl
  refine wp_seq (Code.wp_mono (fun ex a1 w1 hh => ?_) (AWP.run (Q := fun ex σ => ex = .normal ∧ σ = ⟨[(6, .ptr 24 0), (5, .ptr 23 0), (4, .ptr 22 0), (2, .ptr 21 0), (0, .ptr 11 0), (1, .fn (.func 48) [] [.ptr 14 0, .ptr 15 0, .ptr 17 0])], (24, [dB false]) :: (23, [dI 0, dB false, dI 0, dI 0, .p (.sl true 0 [])]) :: (22, [dI 0, dI 0, dI 0, dI 0]) :: (21, [.ptr 11 0]) :: nextB l me log top c op s, []⟩) ?_ _ e hc0))
  · obtain ⟨σ1, e1, rfl, hc1, rfl, rfl⟩ := hh
    obtain ⟨k1, _, _, b1, _, _⟩ := hc1.boxes 21 _ rfl
    obtain ⟨k2, _, _, b2, _, _⟩ := hc1.boxes 22 _ rfl
    obtain ⟨k3, _, _, b3, _, _⟩ := hc1.boxes 23 _ rfl
    obtain ⟨k4, _, _, b4, _, _⟩ := hc1.boxes 24 _ rfl
    refine wp_seq (wp_defer hc1 rfl rfl rfl rfl rfl rfl rfl rfl [(21, k1), (22, k2), (23, k3), (24, k4)] (fun b k hk => ?_) (fun a2 caps hcaps hc2 => ?_))
    · simp only [lk_cons] at hk
      split at hk
      · rename_i q; cases hk; rw [← q]; exact b1
      · split at hk
        · rename_i q; cases hk; rw [← q]; exact b2
        · split at hk
          · rename_i q; cases hk; rw [← q]; exact b3
          · split at hk
            · rename_i q; cases hk; rw [← q]; exact b4
            · cases hk
    · refine Code.wp_mono (fun ex a3 w3 hh => ?_) (AWP.run (Γ := ⟨18, e.w, e.cl, fun k => ∃ b, e.bx b = some k, [(21, k1), (22, k2), (23, k3), (24, k4)], [{ target := .fn (.func 78) caps.toArray, args := #[] }]⟩) (Q := PlayQ m ⟨18, e.w, e.cl, fun k => ∃ b, e.bx b = some k, [(21, k1), (22, k2), (23, k3), (24, k4)], [{ target := .fn (.func 78) caps.toArray, args := #[] }]⟩) ?_ a2 e1 hc2)
      · obtain ⟨σ3, e3, rfl, hc3, hq⟩ := hh
        rcases hq with ⟨rfl, x, s', hm, hgh⟩ | ⟨a, rfl, hm, hgh⟩
        · skip
          obtain ⟨e4, hw4, hc4⟩ := hgh a3 e3 hc3
          show Leaves Tryz.prog Tryz.f45 a3.tmps _ a3.defers .returning e3.w
          rw [hc4.df, ← hw4]
          have hcap4 : DReps e4 caps [.ptr 22 0, .ptr 21 0, .ptr 23 0, .ptr 24 0] := ⟨hcaps.1, fun i v d hv hd => by
            match i, hv, hd with
            | 0, hv, hd => cases hd; exact ptr_kb (hcaps.2 0 v _ hv rfl) b2 (hc4.env.kb 22 k2 rfl)
            | 1, hv, hd => cases hd; exact ptr_kb (hcaps.2 1 v _ hv rfl) b1 (hc4.env.kb 21 k1 rfl)
            | 2, hv, hd => cases hd; exact ptr_kb (hcaps.2 2 v _ hv rfl) b3 (hc4.env.kb 23 k3 rfl)
            | 3, hv, hd => cases hd; exact ptr_kb (hcaps.2 3 v _ hv rfl) b4 (hc4.env.kb 24 k4 rfl)⟩
          refine leaves_rec hc4 (fun a w => Tryz.call78 a w) hcap4 rfl (by (repeat (first | exact trivial | refine ⟨⟨rfl, rfl⟩, ?_⟩))) ⟨.inr rfl, .inr rfl, .inr rfl, .inr rfl, trivial⟩ rfl (by simp) rfl (fun e0 vs0 h1 h2 => play1_no acc0 { x with gone := s'.gone } true h1 h2) (fun bs' hb => by subst hb; exact ⟨.inl rfl, .inl rfl, .inl rfl, .inl rfl, trivial⟩) (fun bs' e5 hb hc5 => ?_)
          subst hb
          obtain ⟨v, hr, hv5⟩ := resI_rep tabOk (fn := Tryz.f45) (d := .tup [dAcc acc0, dOut { x with gone := s'.gone }, dB true]) hc5 rfl
          refine ⟨v, hr, v, _, [], e5.cut (isIn []) fun _ => false, rfl, rfl, ⟨rfl, .inl ⟨x, s', hm, rfl⟩⟩, cut_in hc5 trivial, hv5.cut rfl, ⟨hc5.env.kept, hc5.env.cl, fun b k hk => ?_, fun b hb => by cases hb⟩⟩
          cases hk
        · skip
          obtain ⟨e4, hw4, hc4⟩ := hgh a3 e3 hc3
          show Leaves Tryz.prog Tryz.f45 a3.tmps _ a3.defers (.panicking [pe (askedV a)]) e3.w
          rw [hc4.df, ← hw4]
          have hcap4 : DReps e4 caps [.ptr 22 0, .ptr 21 0, .ptr 23 0, .ptr 24 0] := ⟨hcaps.1, fun i v d hv hd => by
            match i, hv, hd with
            | 0, hv, hd => cases hd; exact ptr_kb (hcaps.2 0 v _ hv rfl) b2 (hc4.env.kb 22 k2 rfl)
            | 1, hv, hd => cases hd; exact ptr_kb (hcaps.2 1 v _ hv rfl) b1 (hc4.env.kb 21 k1 rfl)
            | 2, hv, hd => cases hd; exact ptr_kb (hcaps.2 2 v _ hv rfl) b3 (hc4.env.kb 23 k3 rfl)
            | 3, hv, hd => cases hd; exact ptr_kb (hcaps.2 3 v _ hv rfl) b4 (hc4.env.kb 24 k4 rfl)⟩
          refine leaves_rec hc4 (fun a w => Tryz.call78 a w) hcap4 rfl (by (repeat (first | exact trivial | refine ⟨⟨rfl, rfl⟩, ?_⟩))) ⟨.inr rfl, .inr rfl, .inr rfl, .inr rfl, trivial⟩ rfl (by simp) rfl (fun e0 vs0 h1 h2 => play1_yes acc0 a _ rfl false h1 h2) (fun bs' hb => by subst hb; exact ⟨.inl rfl, .inl rfl, .inl rfl, .inl rfl, trivial⟩) (fun bs' e5 hb hc5 => ?_)
          subst hb
          obtain ⟨v, hr, hv5⟩ := resI_rep tabOk (fn := Tryz.f45) (d := .tup [dAcc a, dOut0 out0, dB false]) hc5 rfl
          refine ⟨v, hr, v, _, [], e5.cut (isIn []) fun _ => false, rfl, rfl, ⟨rfl, .inr ⟨a, hm, rfl⟩⟩, cut_in hc5 trivial, hv5.cut rfl, ⟨hc5.env.kept, hc5.env.cl, fun b k hk => ?_, fun b hb => by cases hb⟩⟩
          cases hk
      · refine go ?_
        refine a_callvX (hC) rfl (fun a w => Tryz.call48 a w) rfl rfl rfl (by (repeat (first | exact trivial | refine ⟨⟨rfl, rfl⟩, ?_⟩))) (by (repeat (first | exact trivial | refine ⟨.inr rfl, ?_⟩ | refine ⟨.inl rfl, ?_⟩))) rfl rfl rfl rfl ?_ ?_ ?_ ?_
        · rintro d bs ⟨x, s', _, rfl, rfl⟩; exact ⟨.inl rfl, .inl rfl, .inl rfl, .inl rfl, .inl rfl, .inl rfl, .inl rfl, trivial⟩
        · rintro v bs ⟨a, s', _, rfl, rfl⟩; exact ⟨.inl rfl, .inl rfl, .inl rfl, .inl rfl, .inl rfl, .inl rfl, .inl rfl, trivial⟩
        · rintro v bs ⟨a, s', h, rfl, rfl⟩
          refine gP ?_
          exact .inr ⟨a, rfl, h, Ghost.trans (anyB_ghost 21 rfl rfl) (zX)⟩
        rintro d bs ⟨x, s', h, rfl, rfl⟩
        refine go ?_
        refine a_q (call_step ((clone2_f s'.gone (hg x s' h)).pure) rfl (fun a w => Tryz.call61 a w) rfl) rfl rfl rfl ?_
        refine go ?_
        refine awp_region_w 3 [22] rfl rfl (by kernel_rfl) (by kernel_rfl) (by kernel_rfl) ?_
        refine goQ ?_
        refine go ?_
        exact .inl ⟨rfl, x, s', h, Ghost.trans (anyB_ghost 21 rfl rfl) (zX)⟩
  · refine goC ?_
    refine a_b (box_step 21 rfl rfl rfl rfl) rfl rfl rfl rfl ?_
    refine a_b (alloc_step tabOk 22 rfl rfl rfl rfl) rfl rfl rfl rfl ?_
    refine a_b (alloc_step tabOk 23 rfl rfl rfl rfl) rfl rfl rfl rfl ?_
    refine a_b (alloc_step tabOk 24 rfl rfl rfl rfl) rfl rfl rfl rfl ?_
    exact aops_nil ⟨rfl, rfl⟩
theorem giveL_gone {l : LayT} {n : Int} : ∀ {k : Nat} {log : List ResT} {s s' : PsT} {u : Unit}, giveL l n k log s = .ok (u, s') → s'.gone = s.gone
  | 0, log, s, s', u, h => by cases h; rfl
  | k + 1, log, s, s', u, h => by
    rw [giveL] at h
    cases h1 : loadM l.free log s with
    | error a => rw [bind_err h1] at h; cases h
    | ok q =>
      obtain ⟨fr, s1⟩ := q
      rw [bind_ok h1] at h
      have g1 : s1.gone = s.gone := by rw [(loadM_gone h1).1]
      cases h2 : storeM (nodeF l n 7) (ofW fr).idx log s1 with
      | error a => rw [bind_err h2] at h; cases h
      | ok q =>
        obtain ⟨lk, s2⟩ := q
        rw [bind_ok h2] at h
        have g2 : s2.gone = s.gone := by rw [(storeM_gone h2).1]; exact g1
        cases h3 : casM l.free fr (packW (turnW (ofW fr) n)) log s2 with
        | error a => rw [bind_err h3] at h; cases h
        | ok q =>
          obtain ⟨ok, s3⟩ := q
          rw [bind_ok h3] at h
          have g3 : s3.gone = s.gone := by rw [(casM_gone h3).1]; exact g2
          split at h
          · cases h; exact g3
          · exact (giveL_gone h).trans g3
theorem pushL_gone {l : LayT} {top c v n : Int} : ∀ {k : Nat} {log : List ResT} {s s' : PsT} {x : OutT}, pushL l top c v n k log s = .ok (x, s') → s'.gone = s.gone
  | 0, log, s, s', x, h => by cases h; rfl
  | k + 1, log, s, s', x, h => by
    rw [pushL] at h
    cases h1 : tryPush l top n log s with
    | error a => rw [bind_err h1] at h; cases h
    | ok q =>
      obtain ⟨b, s1⟩ := q
      rw [bind_ok h1] at h
      have g1 := (tryPush_ok h1).1
      cases b
      · rw [if_neg (by decide)] at h
        cases h2 : loadM c log s1 with
        | error a => rw [bind_err h2] at h; cases h
        | ok q =>
          obtain ⟨w, s2⟩ := q
          rw [bind_ok h2] at h
          have g2 : s2.gone = s.gone := by rw [(loadM_gone h2).1]; exact g1
          split at h
          · cases h3 : casM c w (offW v 1 (offC w + 1)) log s2 with
            | error a => rw [bind_err h3] at h; cases h
            | ok q =>
              obtain ⟨ok, s3⟩ := q
              rw [bind_ok h3] at h
              have g3 : s3.gone = s.gone := by rw [(casM_gone h3).1]; exact g2
              cases ok
              · rw [if_neg (by decide)] at h
                exact (pushL_gone h).trans g3
              · rw [if_pos rfl, bind_ok last_ok] at h
                cases h4 : metM c (offW v 1 (offC w + 1)) (offW 0 0 (offC w + 1)) log s3 with
                | error a => rw [bind_err h4] at h; cases h
                | ok q =>
                  obtain ⟨mt, s4⟩ := q
                  rw [bind_ok h4] at h
                  have g4 := (metM_ok h4).1.trans g3
                  cases mt
                  · rw [if_neg (by decide)] at h
                    exact (pushL_gone h).trans g4
                  · rw [if_pos rfl] at h
                    cases h5 : storeM c (offW 0 0 (offC w + 1)) log s4 with
                    | error a => rw [bind_err h5] at h; cases h
                    | ok q =>
                      obtain ⟨u, s5⟩ := q
                      rw [bind_ok h5] at h
                      have g5 : s5.gone = s.gone := by rw [(storeM_gone h5).1]; exact g4
                      cases h6 : giveM l n log s5 with
                      | error a => rw [bind_err h6] at h; cases h
                      | ok q =>
                        obtain ⟨u, s6⟩ := q
                        rw [bind_ok h6] at h
                        cases h
                        exact (giveL_gone h6).trans g5
          · exact (pushL_gone h).trans g2
      · rw [if_pos rfl, bind_ok last_ok] at h
        cases h
        exact g1
theorem pushM_gone {l : LayT} {top c v : Int} {log : List ResT} {s s' : PsT} {x : OutT} (h : pushM l top c v log s = .ok (x, s')) : s'.gone = s.gone := by
  unfold pushM at h
  cases h1 : takeM l log s with
  | error a => rw [bind_err h1] at h; cases h
  | ok q =>
    obtain ⟨p, s1⟩ := q
    rw [bind_ok h1] at h
    have g1 : s1.gone = s.gone := (takeL_idx h1).2
    split at h
    · cases h2 : storeM (nodeF l p.1 1) v log s1 with
      | error a => rw [bind_err h2] at h; cases h
      | ok q =>
        obtain ⟨u, s2⟩ := q
        rw [bind_ok h2] at h
        have g2 : s2.gone = s.gone := by rw [(storeM_gone h2).1]; exact g1
        exact (pushL_gone h).trans g2
    · cases h; exact g1
theorem popL_len {l : LayT} {me top c : Int} : ∀ {k : Nat} {log : List ResT} {s s' : PsT} {x : OutT}, popL l me top c k log s = .ok (x, s') → s'.gone.length ≤ s.gone.length + 1
  | 0, log, s, s', x, h => by cases h; omega
  | k + 1, log, s, s', x, h => by
    rw [popL] at h
    cases h1 : tryPop l me top log s with
    | error a => rw [bind_err h1] at h; cases h
    | ok q =>
      obtain ⟨p, s1⟩ := q
      rw [bind_ok h1] at h
      have g1 := (tryPop_ok h1).1
      split at h
      · cases h2 : clearM l me log s1 with
        | error a => rw [bind_err h2] at h; cases h
        | ok q =>
          obtain ⟨u, s2⟩ := q
          rw [bind_ok h2] at h
          cases h
          have : s'.gone = s.gone := (clrL_gone h2).trans g1
          rw [this]; omega
      · split at h
        · cases h2 : loadM (nodeF l p.1 1) log s1 with
          | error a => rw [bind_err h2] at h; cases h
          | ok q =>
            obtain ⟨va, s2⟩ := q
            rw [bind_ok h2] at h
            have g2 : s2.gone = s.gone := by rw [(loadM_gone h2).1]; exact g1
            cases h3 : clearM l me log s2 with
            | error a => rw [bind_err h3] at h; cases h
            | ok q =>
              obtain ⟨u, s3⟩ := q
              rw [bind_ok h3] at h
              have g3 : s3.gone = s.gone := (clrL_gone h3).trans g2
              cases h4 : retireM l p.1 log s3 with
              | error a => rw [bind_err h4] at h; cases h
              | ok q =>
                obtain ⟨u, s4⟩ := q
                rw [bind_ok h4] at h
                cases h
                have := retireM_len h4
                rw [g3] at this; exact this
        · cases h2 : loadM c log s1 with
          | error a => rw [bind_err h2] at h; cases h
          | ok q =>
            obtain ⟨w, s2⟩ := q
            rw [bind_ok h2] at h
            have g2 : s2.gone = s.gone := by rw [(loadM_gone h2).1]; exact g1
            split at h
            · cases h3 : casM c w (offW (offV w) 2 (offC w)) log s2 with
              | error a => rw [bind_err h3] at h; cases h
              | ok q =>
                obtain ⟨ok, s3⟩ := q
                rw [bind_ok h3] at h
                have g3 : s3.gone = s.gone := by rw [(casM_gone h3).1]; exact g2
                cases ok
                · rw [if_neg (by decide)] at h
                  have := popL_len h
                  rw [g3] at this; exact this
                · rw [if_pos rfl, bind_ok last_ok] at h
                  cases h4 : clearM l me log s3 with
                  | error a => rw [bind_err h4] at h; cases h
                  | ok q =>
                    obtain ⟨u, s4⟩ := q
                    rw [bind_ok h4] at h
                    cases h
                    have : s'.gone = s.gone := (clrL_gone h4).trans g3
                    rw [this]; omega
            · have := popL_len h
              rw [g2] at this; exact this
abbrev dNx (r : AccT × OutT × Bool) : Dt := .tup [dAcc r.1, dOut r.2.1, dB r.2.2]
set_option maxHeartbeats 8000000 in
theorem next_c (l : LayT) (hL : LayOk l) (me : Int) (hme : 0 ≤ me ∧ me ≤ 1000000) (gone : List (Int × Int)) (op : OpT) (log : List ResT) (hgo : GoneOk gone) (hgl : gone.length ≤ 10000) (hl : log.length ≤ 1000000) : PureC Tryz.prog 17 [dLay l, dI me, dGone gone, dOp op, dLog log] (dNx (nextF l me gone op log)) := by
  generalize hE : nextF l me gone op log = E
  unfold nextF at hE
  refine pure_fin tabOk Tryz.func17 rfl Tryz.ntmps17 rfl rfl rfl fun w cl => ?_
  refine goC ?_
  refine a_b (box_step 0 rfl rfl rfl rfl) rfl rfl rfl rfl ?_
  refine a_b (box_step 16 rfl rfl rfl rfl) rfl rfl rfl rfl ?_
  refine a_b (alloc_step tabOk 2 rfl rfl rfl rfl) rfl rfl rfl rfl ?_
  refine a_b (alloc_step tabOk 3 rfl rfl rfl rfl) rfl rfl rfl rfl ?_
  refine go ?_
  refine a_q (call_step (top_c l hL op.obj) rfl (fun a w => Tryz.call29 a w) rfl) rfl rfl rfl ?_
  refine a_b (alloc_step tabOk 15 rfl rfl rfl rfl) rfl rfl rfl rfl ?_
  refine go ?_
  generalize h1 : decide (topF l op.obj < 0) = cc; cases cc
  · rw [if_neg (of_decide_eq_false h1)] at hE
    refine go ?_
    refine a_callI (begin_i l me gone log) rfl (fun a w => Tryz.call44 a w) rfl rfl trivial trivial rfl rfl rfl rfl ?_ ?_
    · rintro d bs ⟨rfl, rfl⟩; exact ⟨.inr rfl, .inr rfl, .inr rfl, trivial⟩
    rintro d bs ⟨rfl, rfl⟩
    refine a_b (alloc_step tabOk 14 rfl rfl rfl rfl) rfl rfl rfl rfl ?_
    refine go ?_
    refine a_q (call_step (slot_c l hL me op.obj hme.1 hme.2) rfl (fun a w => Tryz.call18 a w) rfl) rfl rfl rfl ?_
    refine a_b (alloc_step tabOk 17 rfl rfl rfl rfl) rfl rfl rfl rfl ?_
    refine go ?_
    generalize h2 : decide (op.kind = 4) = cc; cases cc
    · have h2' := of_decide_eq_false h2
      rw [if_neg (fun h => h2' h.1)] at hE
      refine go ?_
      generalize h5 : decide (op.kind = 5) = cc; cases cc
      · rw [if_neg (of_decide_eq_false h5)] at hE
        refine go ?_
        refine a_q (call_step (refuse_c gone (by omega)) rfl (fun a w => Tryz.call43 a w) rfl) rfl rfl rfl ?_
        refine go ?_
        first | refine fin_ret rfl ?_ | refine fin_normal rfl ?_
        rw [← hE]
      · rw [if_pos (of_decide_eq_true h5)] at hE
        refine go ?_
        refine a_callI (play_pop l me log ⟨0, gone, 0, 0, 0⟩ (topF l op.obj) (slotOf l me op.obj) op _ (fun x s' h => by have := popL_len h; simp at this; omega) (next2_x l hL me log ⟨0, gone, 0, 0, 0⟩ (topF l op.obj) (slotOf l me op.obj) op hgo hgl (Nat.zero_le _) hl)) rfl (fun a w => Tryz.call45 a w) rfl rfl (by (repeat (first | exact trivial | refine ⟨⟨rfl, rfl⟩, ?_⟩))) trivial rfl rfl rfl rfl ?_ ?_
        · rintro d bs ⟨rfl, _⟩; exact trivial
        rintro d bs ⟨rfl, ⟨x, s', hm, rfl⟩ | ⟨a, hm, rfl⟩⟩
        · rw [hm] at hE
          refine go ?_
          first | refine fin_ret rfl ?_ | refine fin_normal rfl ?_
          rw [← hE]; rfl
        · rw [hm] at hE
          refine go ?_
          first | refine fin_ret rfl ?_ | refine fin_normal rfl ?_
          rw [← hE]; rfl
    · have h2' := of_decide_eq_true h2
      refine go ?_
      generalize h3 : decide (op.a ≥ 0) = cc; cases cc
      · have h3' := of_decide_eq_false h3
        rw [if_neg (fun h => h3' h.2.1)] at hE
        refine go ?_
        generalize h5 : decide (op.kind = 5) = cc; cases cc
        · rw [if_neg (of_decide_eq_false h5)] at hE
          refine go ?_
          refine a_q (call_step (refuse_c gone (by omega)) rfl (fun a w => Tryz.call43 a w) rfl) rfl rfl rfl ?_
          refine go ?_
          first | refine fin_ret rfl ?_ | refine fin_normal rfl ?_
          rw [← hE]
        · rw [if_pos (of_decide_eq_true h5)] at hE
          refine go ?_
          refine a_callI (play_pop l me log ⟨0, gone, 0, 0, 0⟩ (topF l op.obj) (slotOf l me op.obj) op _ (fun x s' h => by have := popL_len h; simp at this; omega) (next2_x l hL me log ⟨0, gone, 0, 0, 0⟩ (topF l op.obj) (slotOf l me op.obj) op hgo hgl (Nat.zero_le _) hl)) rfl (fun a w => Tryz.call45 a w) rfl rfl (by (repeat (first | exact trivial | refine ⟨⟨rfl, rfl⟩, ?_⟩))) trivial rfl rfl rfl rfl ?_ ?_
          · rintro d bs ⟨rfl, _⟩; exact trivial
          rintro d bs ⟨rfl, ⟨x, s', hm, rfl⟩ | ⟨a, hm, rfl⟩⟩
          · rw [hm] at hE
            refine go ?_
            first | refine fin_ret rfl ?_ | refine fin_normal rfl ?_
            rw [← hE]; rfl
          · rw [hm] at hE
            refine go ?_
            first | refine fin_ret rfl ?_ | refine fin_normal rfl ?_
            rw [← hE]; rfl
      · have h3' := of_decide_eq_true h3
        refine go ?_
        generalize h4 : decide (op.a < 4294967296) = cc; cases cc
        · have h4' := of_decide_eq_false h4
          rw [if_neg (fun h => h4' h.2.2)] at hE
          refine go ?_
          generalize h5 : decide (op.kind = 5) = cc; cases cc
          · rw [if_neg (of_decide_eq_false h5)] at hE
            refine go ?_
            refine a_q (call_step (refuse_c gone (by omega)) rfl (fun a w => Tryz.call43 a w) rfl) rfl rfl rfl ?_
            refine go ?_
            first | refine fin_ret rfl ?_ | refine fin_normal rfl ?_
            rw [← hE]
          · rw [if_pos (of_decide_eq_true h5)] at hE
            refine go ?_
            refine a_callI (play_pop l me log ⟨0, gone, 0, 0, 0⟩ (topF l op.obj) (slotOf l me op.obj) op _ (fun x s' h => by have := popL_len h; simp at this; omega) (next2_x l hL me log ⟨0, gone, 0, 0, 0⟩ (topF l op.obj) (slotOf l me op.obj) op hgo hgl (Nat.zero_le _) hl)) rfl (fun a w => Tryz.call45 a w) rfl rfl (by (repeat (first | exact trivial | refine ⟨⟨rfl, rfl⟩, ?_⟩))) trivial rfl rfl rfl rfl ?_ ?_
            · rintro d bs ⟨rfl, _⟩; exact trivial
            rintro d bs ⟨rfl, ⟨x, s', hm, rfl⟩ | ⟨a, hm, rfl⟩⟩
            · rw [hm] at hE
              refine go ?_
              first | refine fin_ret rfl ?_ | refine fin_normal rfl ?_
              rw [← hE]; rfl
            · rw [hm] at hE
              refine go ?_
              first | refine fin_ret rfl ?_ | refine fin_normal rfl ?_
              rw [← hE]; rfl
        · rw [if_pos ⟨h2', h3', of_decide_eq_true h4⟩] at hE
          refine go ?_
          refine a_callI (play_push l me log ⟨0, gone, 0, 0, 0⟩ (topF l op.obj) (slotOf l me op.obj) op _ (fun x s' h => by rw [pushM_gone h]; simp; omega) (next1_x l hL me log ⟨0, gone, 0, 0, 0⟩ (topF l op.obj) (slotOf l me op.obj) op (Nat.zero_le _) hl)) rfl (fun a w => Tryz.call45 a w) rfl rfl (by (repeat (first | exact trivial | refine ⟨⟨rfl, rfl⟩, ?_⟩))) trivial rfl rfl rfl rfl ?_ ?_
          · rintro d bs ⟨rfl, _⟩; exact trivial
          rintro d bs ⟨rfl, ⟨x, s', hm, rfl⟩ | ⟨a, hm, rfl⟩⟩
          · rw [hm] at hE
            refine go ?_
            first | refine fin_ret rfl ?_ | refine fin_normal rfl ?_
            rw [← hE]; rfl
          · rw [hm] at hE
            refine go ?_
            first | refine fin_ret rfl ?_ | refine fin_normal rfl ?_
            rw [← hE]; rfl
  · rw [if_pos (of_decide_eq_true h1)] at hE
    refine go ?_
    refine a_q (call_step (refuse_c gone (by omega)) rfl (fun a w => Tryz.call43 a w) rfl) rfl rfl rfl ?_
    refine go ?_
    first | refine fin_ret rfl ?_ | refine fin_normal rfl ?_
    rw [← hE]
end Go.Proofs.YtdmnjoidfjidbaaGreat
