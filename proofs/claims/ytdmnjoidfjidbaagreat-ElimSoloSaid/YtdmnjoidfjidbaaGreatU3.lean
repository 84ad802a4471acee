/- What an operation's program at a stack without offers does next: its walk. -/
import Derived.Test.YtdmnjoidfjidbaaGreatU2
namespace Go.Proofs.YtdmnjoidfjidbaaGreat
open Go.RowKit
set_option maxRecDepth 100000

abbrev nextBS (l : LayT) (me : Int) (log : List ResT) (top : Int) (op : OpT) (s : PsT) : Bxs := [(11, pieceDS l me s), (12, [.ptr 11 0]), (13, [dLog log]), (14, [.ptr 11 0]), (15, [dI top]), (16, opD op)]
def NxRS {α : Type} (l : LayT) (me : Int) (log : List ResT) (top : Int) (op : OpT) (m : Except AccT (α × PsT)) (enc : α → Dt) : Dt → Bxs → Prop := fun d bs => ∃ x s', m = .ok (x, s') ∧ d = enc x ∧ bs = nextBS l me log top op s'
def NxXS {α : Type} (l : LayT) (me : Int) (log : List ResT) (top : Int) (op : OpT) (m : Except AccT (α × PsT)) : Value → Bxs → Prop := fun v bs => ∃ a s', m = .error a ∧ v = askedVS a ∧ bs = nextBS l me log top op s'
theorem next1_xS (l : LayT) (hL : LayOk l) (me : Int) (log : List ResT) (s : PsT) (top : Int) (op : OpT) (hm : s.made ≤ log.length) (hl : log.length ≤ 1000000) : ImpX Tryz.prog 33 [11, 12, 13, 14, 15, 16] [.ptr 14 0, .ptr 15 0, .ptr 16 0] (nextBS l me log top op s) (NxRS l me log top op (spushM l top op.a log s) dOut0) (NxXS l me log top op (spushM l top op.a log s)) := by
  refine sX Tryz.func33 Tryz.ntmps33 fun w cl own kf => ?_
  refine go ?_
  refine cX (spush_x l hL me log s top op.a hm hl) (fun a w => Tryz.call34 a w) ?_ ?_ ?_ ?_
  · rintro d bs ⟨x, s', _, _, _, rfl, rfl⟩; exact ⟨.inl rfl, .inl rfl, .inl rfl, trivial⟩
  · rintro v bs ⟨a, s', _, rfl, rfl⟩; exact ⟨.inl rfl, .inl rfl, .inl rfl, trivial⟩
  · rintro v bs ⟨a, s', h, rfl, rfl⟩
    refine gP ?_
    refine fP (nextBS l me log top op s') ?_
    exact ⟨a, s', h, rfl, rfl⟩
  rintro d bs ⟨x, s', h, hle, hlen, rfl, rfl⟩
  refine go ?_
  first | refine fR (nextBS l me log top op s') ?_ | refine fN (nextBS l me log top op s') ?_
  exact ⟨x, s', h, rfl, rfl⟩
theorem next2_xS (l : LayT) (hL : LayOk l) (me : Int) (log : List ResT) (s : PsT) (top : Int) (op : OpT) (hgo : GoneOk s.gone) (hgl : s.gone.length ≤ 10000) (hm : s.made ≤ log.length) (hl : log.length ≤ 1000000) : ImpX Tryz.prog 35 [11, 12, 13, 14, 15, 16] [.ptr 14 0, .ptr 15 0] (nextBS l me log top op s) (NxRS l me log top op (spopM l me top log s) dOut0) (NxXS l me log top op (spopM l me top log s)) := by
  refine sX Tryz.func35 Tryz.ntmps35 fun w cl own kf => ?_
  refine go ?_
  refine cX (spop_x l hL me log s top hgo hgl hm hl) (fun a w => Tryz.call36 a w) ?_ ?_ ?_ ?_
  · rintro d bs ⟨x, s', _, _, _, rfl, rfl⟩; exact ⟨.inl rfl, .inl rfl, .inl rfl, trivial⟩
  · rintro v bs ⟨a, s', _, rfl, rfl⟩; exact ⟨.inl rfl, .inl rfl, .inl rfl, trivial⟩
  · rintro v bs ⟨a, s', h, rfl, rfl⟩
    refine gP ?_
    refine fP (nextBS l me log top op s') ?_
    exact ⟨a, s', h, rfl, rfl⟩
  rintro d bs ⟨x, s', h, hle, hlen, rfl, rfl⟩
  refine go ?_
  first | refine fR (nextBS l me log top op s') ?_ | refine fN (nextBS l me log top op s') ?_
  exact ⟨x, s', h, rfl, rfl⟩
def PlayQS (m : Except AccT (OutT × PsT)) (Γ : Ctx) : Exit → St → Prop := fun ex σ => (ex = .ret ∧ ∃ x s', m = .ok (x, s') ∧ Ghost Γ σ (endS acc0 (outC { x with gone := s'.gone }) true)) ∨ ∃ a, ex = .panic [pe (askedVS a)] ∧ m = .error a ∧ Ghost Γ σ (endS acc0 [dI 0, dB false, dI 0, dI 0, .p (.sl true 0 [])] false)

set_option maxHeartbeats 4000000 in
theorem play_pushS (l : LayT) (me : Int) (log : List ResT) (s : PsT) (top : Int) (op : OpT) (m : Except AccT (OutT × PsT)) (hg : ∀ x s', m = .ok (x, s') → s'.gone.length ≤ 100000) (hC : ImpX Tryz.prog 33 [11, 12, 13, 14, 15, 16] [.ptr 14 0, .ptr 15 0, .ptr 16 0] (nextBS l me log top op s) (NxRS l me log top op m dOut0) (NxXS l me log top op m)) :
    ImpC Tryz.prog 32 [] [.ptr 11 0, .fn (.func 33) [] [.ptr 14 0, .ptr 15 0, .ptr 16 0]] (nextBS l me log top op s) (PlayR m) := by
  intro e vs hI hv
  refine calls_of_wp_defers Tryz.func32 rfl ?_
  have hc0 := imp_start (fn := Tryz.f32) (f := 32) (keep := []) [] (by decide) trivial hI hv rfl
  refine wp_seq (Code.wp_mono (fun ex a1 w1 hh => ?_) (AWP.run (Q := fun ex σ => ex = .normal ∧ σ = ⟨[(6, .ptr 24 0), (5, .ptr 23 0), (4, .ptr 22 0), (2, .ptr 21 0), (0, .ptr 11 0), (1, .fn (.func 33) [] [.ptr 14 0, .ptr 15 0, .ptr 16 0])], (24, [dB false]) :: (23, [dI 0, dB false, dI 0, dI 0, .p (.sl true 0 [])]) :: (22, [dI 0, dI 0, dI 0, dI 0]) :: (21, [.ptr 11 0]) :: nextBS l me log top op s, []⟩) ?_ _ e hc0))
  · obtain ⟨σ1, e1, rfl, hc1, rfl, rfl⟩ := hh
    obtain ⟨k1, _, _, b1, _, _⟩ := hc1.boxes 21 _ rfl
    obtain ⟨k2, _, _, b2, _, _⟩ := hc1.boxes 22 _ rfl
    obtain ⟨k3, _, _, b3, _, _⟩ := hc1.boxes 23 _ rfl
    obtain ⟨k4, _, _, b4, _, _⟩ := hc1.boxes 24 _ rfl
    refine wp_seq (wp_defer hc1 rfl rfl rfl rfl rfl rfl rfl rfl [(21, k1), (22, k2), (23, k3), (24, k4)] (fun b k hk => ?_) (fun a2 caps hcaps hc2 => ?_))
    · simp only [lk_cons] at hk
      split at hk
      · rename_i q; cases hk; rw [← q]; exact b1
      · split at hk
        · rename_i q; cases hk; rw [← q]; exact b2
        · split at hk
          · rename_i q; cases hk; rw [← q]; exact b3
          · split at hk
            · rename_i q; cases hk; rw [← q]; exact b4
            · cases hk
    · refine Code.wp_mono (fun ex a3 w3 hh => ?_) (AWP.run (Γ := ⟨18, e.w, e.cl, fun k => ∃ b, e.bx b = some k, [(21, k1), (22, k2), (23, k3), (24, k4)], [{ target := .fn (.func 63) caps.toArray, args := #[] }]⟩) (Q := PlayQS m ⟨18, e.w, e.cl, fun k => ∃ b, e.bx b = some k, [(21, k1), (22, k2), (23, k3), (24, k4)], [{ target := .fn (.func 63) caps.toArray, args := #[] }]⟩) ?_ a2 e1 hc2)
      · obtain ⟨σ3, e3, rfl, hc3, hq⟩ := hh
        rcases hq with ⟨rfl, x, s', hm, hgh⟩ | ⟨a, rfl, hm, hgh⟩
        · skip
          obtain ⟨e4, hw4, hc4⟩ := hgh a3 e3 hc3
          show Leaves Tryz.prog Tryz.f32 a3.tmps _ a3.defers .returning e3.w
          rw [hc4.df, ← hw4]
          have hcap4 : DReps e4 caps [.ptr 22 0, .ptr 21 0, .ptr 23 0, .ptr 24 0] := ⟨hcaps.1, fun i v d hv hd => by
            match i, hv, hd with
            | 0, hv, hd => cases hd; exact ptr_kb (hcaps.2 0 v _ hv rfl) b2 (hc4.env.kb 22 k2 rfl)
            | 1, hv, hd => cases hd; exact ptr_kb (hcaps.2 1 v _ hv rfl) b1 (hc4.env.kb 21 k1 rfl)
            | 2, hv, hd => cases hd; exact ptr_kb (hcaps.2 2 v _ hv rfl) b3 (hc4.env.kb 23 k3 rfl)
            | 3, hv, hd => cases hd; exact ptr_kb (hcaps.2 3 v _ hv rfl) b4 (hc4.env.kb 24 k4 rfl)⟩
          refine leaves_rec hc4 (fun a w => Tryz.call63 a w) hcap4 rfl (by (repeat (first | exact trivial | refine ⟨⟨rfl, rfl⟩, ?_⟩))) ⟨.inr rfl, .inr rfl, .inr rfl, .inr rfl, trivial⟩ rfl (by simp) rfl (fun e0 vs0 h1 h2 => play1_noS acc0 { x with gone := s'.gone } true h1 h2) (fun bs' hb => by subst hb; exact ⟨.inl rfl, .inl rfl, .inl rfl, .inl rfl, trivial⟩) (fun bs' e5 hb hc5 => ?_)
          subst hb
          obtain ⟨v, hr, hv5⟩ := resI_rep tabOk (fn := Tryz.f32) (d := .tup [dAcc acc0, dOut { x with gone := s'.gone }, dB true]) hc5 rfl
          refine ⟨v, hr, v, _, [], e5.cut (isIn []) fun _ => false, rfl, rfl, ⟨rfl, .inl ⟨x, s', hm, rfl⟩⟩, cut_in hc5 trivial, hv5.cut rfl, ⟨hc5.env.kept, hc5.env.cl, fun b k hk => ?_, fun b hb => by cases hb⟩⟩
          cases hk
        · skip
          obtain ⟨e4, hw4, hc4⟩ := hgh a3 e3 hc3
          show Leaves Tryz.prog Tryz.f32 a3.tmps _ a3.defers (.panicking [pe (askedVS a)]) e3.w
          rw [hc4.df, ← hw4]
          have hcap4 : DReps e4 caps [.ptr 22 0, .ptr 21 0, .ptr 23 0, .ptr 24 0] := ⟨hcaps.1, fun i v d hv hd => by
            match i, hv, hd with
            | 0, hv, hd => cases hd; exact ptr_kb (hcaps.2 0 v _ hv rfl) b2 (hc4.env.kb 22 k2 rfl)
            | 1, hv, hd => cases hd; exact ptr_kb (hcaps.2 1 v _ hv rfl) b1 (hc4.env.kb 21 k1 rfl)
            | 2, hv, hd => cases hd; exact ptr_kb (hcaps.2 2 v _ hv rfl) b3 (hc4.env.kb 23 k3 rfl)
            | 3, hv, hd => cases hd; exact ptr_kb (hcaps.2 3 v _ hv rfl) b4 (hc4.env.kb 24 k4 rfl)⟩
          refine leaves_rec hc4 (fun a w => Tryz.call63 a w) hcap4 rfl (by (repeat (first | exact trivial | refine ⟨⟨rfl, rfl⟩, ?_⟩))) ⟨.inr rfl, .inr rfl, .inr rfl, .inr rfl, trivial⟩ rfl (by simp) rfl (fun e0 vs0 h1 h2 => play1_yesS acc0 a _ rfl false h1 h2) (fun bs' hb => by subst hb; exact ⟨.inl rfl, .inl rfl, .inl rfl, .inl rfl, trivial⟩) (fun bs' e5 hb hc5 => ?_)
          subst hb
          obtain ⟨v, hr, hv5⟩ := resI_rep tabOk (fn := Tryz.f32) (d := .tup [dAcc a, dOut0 out0, dB false]) hc5 rfl
          refine ⟨v, hr, v, _, [], e5.cut (isIn []) fun _ => false, rfl, rfl, ⟨rfl, .inr ⟨a, hm, rfl⟩⟩, cut_in hc5 trivial, hv5.cut rfl, ⟨hc5.env.kept, hc5.env.cl, fun b k hk => ?_, fun b hb => by cases hb⟩⟩
          cases hk
      · refine go ?_
        refine a_callvX (hC) rfl (fun a w => Tryz.call33 a w) rfl rfl rfl (by (repeat (first | exact trivial | refine ⟨⟨rfl, rfl⟩, ?_⟩))) (by (repeat (first | exact trivial | refine ⟨.inr rfl, ?_⟩ | refine ⟨.inl rfl, ?_⟩))) rfl rfl rfl rfl ?_ ?_ ?_ ?_
        · rintro d bs ⟨x, s', _, rfl, rfl⟩; exact ⟨.inl rfl, .inl rfl, .inl rfl, .inl rfl, .inl rfl, .inl rfl, trivial⟩
        · rintro v bs ⟨a, s', _, rfl, rfl⟩; exact ⟨.inl rfl, .inl rfl, .inl rfl, .inl rfl, .inl rfl, .inl rfl, trivial⟩
        · rintro v bs ⟨a, s', h, rfl, rfl⟩
          refine gP ?_
          exact .inr ⟨a, rfl, h, Ghost.trans (anyB_ghost 21 rfl rfl) (zX)⟩
        rintro d bs ⟨x, s', h, rfl, rfl⟩
        refine go ?_
        refine a_q (call_step ((clone2_f s'.gone (hg x s' h)).pure) rfl (fun a w => Tryz.call61 a w) rfl) rfl rfl rfl ?_
        refine go ?_
        refine awp_region_w 3 [22] rfl rfl (by kernel_rfl) (by kernel_rfl) (by kernel_rfl) ?_
        refine goQ ?_
        refine go ?_
        exact .inl ⟨rfl, x, s', h, Ghost.trans (anyB_ghost 21 rfl rfl) (zX)⟩
  · refine goC ?_
    refine a_b (box_step 21 rfl rfl rfl rfl) rfl rfl rfl rfl ?_
    refine a_b (alloc_step tabOk 22 rfl rfl rfl rfl) rfl rfl rfl rfl ?_
    refine a_b (alloc_step tabOk 23 rfl rfl rfl rfl) rfl rfl rfl rfl ?_
    refine a_b (alloc_step tabOk 24 rfl rfl rfl rfl) rfl rfl rfl rfl ?_
    exact aops_nil ⟨rfl, rfl⟩

set_option maxHeartbeats 4000000 in
theorem play_popS (l : LayT) (me : Int) (log : List ResT) (s : PsT) (top : Int) (op : OpT) (m : Except AccT (OutT × PsT)) (hg : ∀ x s', m = .ok (x, s') → s'.gone.length ≤ 100000) (hC : ImpX Tryz.prog 35 [11, 12, 13, 14, 15, 16] [.ptr 14 0, .ptr 15 0] (nextBS l me log top op s) (NxRS l me log top op m dOut0) (NxXS l me log top op m)) :
    ImpC Tryz.prog 32 [] [.ptr 11 0, .fn (.func 35) [] [.ptr 14 0, .ptr 15 0]] (nextBS l me log top op s) (PlayR m) := by
  intro e vs hI hv
  refine calls_of_wp_defers Tryz.func32 rfl ?_
  have hc0 := imp_start (fn := Tryz.f32) (f := 32) (keep := []) [] (by decide) trivial hI hv rfl
  refine wp_seq (Code.wp_mono (fun ex a1 w1 hh => ?_) (AWP.run (Q := fun ex σ => ex = .normal ∧ σ = ⟨[(6, .ptr 24 0), (5, .ptr 23 0), (4, .ptr 22 0), (2, .ptr 21 0), (0, .ptr 11 0), (1, .fn (.func 35) [] [.ptr 14 0, .ptr 15 0])], (24, [dB false]) :: (23, [dI 0, dB false, dI 0, dI 0, .p (.sl true 0 [])]) :: (22, [dI 0, dI 0, dI 0, dI 0]) :: (21, [.ptr 11 0]) :: nextBS l me log top op s, []⟩) ?_ _ e hc0))
  · obtain ⟨σ1, e1, rfl, hc1, rfl, rfl⟩ := hh
    obtain ⟨k1, _, _, b1, _, _⟩ := hc1.boxes 21 _ rfl
    obtain ⟨k2, _, _, b2, _, _⟩ := hc1.boxes 22 _ rfl
    obtain ⟨k3, _, _, b3, _, _⟩ := hc1.boxes 23 _ rfl
    obtain ⟨k4, _, _, b4, _, _⟩ := hc1.boxes 24 _ rfl
    refine wp_seq (wp_defer hc1 rfl rfl rfl rfl rfl rfl rfl rfl [(21, k1), (22, k2), (23, k3), (24, k4)] (fun b k hk => ?_) (fun a2 caps hcaps hc2 => ?_))
    · simp only [lk_cons] at hk
      split at hk
      · rename_i q; cases hk; rw [← q]; exact b1
      · split at hk
        · rename_i q; cases hk; rw [← q]; exact b2
        · split at hk
          · rename_i q; cases hk; rw [← q]; exact b3
          · split at hk
            · rename_i q; cases hk; rw [← q]; exact b4
            · cases hk
    · refine Code.wp_mono (fun ex a3 w3 hh => ?_) (AWP.run (Γ := ⟨18, e.w, e.cl, fun k => ∃ b, e.bx b = some k, [(21, k1), (22, k2), (23, k3), (24, k4)], [{ target := .fn (.func 63) caps.toArray, args := #[] }]⟩) (Q := PlayQS m ⟨18, e.w, e.cl, fun k => ∃ b, e.bx b = some k, [(21, k1), (22, k2), (23, k3), (24, k4)], [{ target := .fn (.func 63) caps.toArray, args := #[] }]⟩) ?_ a2 e1 hc2)
      · obtain ⟨σ3, e3, rfl, hc3, hq⟩ := hh
        rcases hq with ⟨rfl, x, s', hm, hgh⟩ | ⟨a, rfl, hm, hgh⟩
        · skip
          obtain ⟨e4, hw4, hc4⟩ := hgh a3 e3 hc3
          show Leaves Tryz.prog Tryz.f32 a3.tmps _ a3.defers .returning e3.w
          rw [hc4.df, ← hw4]
          have hcap4 : DReps e4 caps [.ptr 22 0, .ptr 21 0, .ptr 23 0, .ptr 24 0] := ⟨hcaps.1, fun i v d hv hd => by
            match i, hv, hd with
            | 0, hv, hd => cases hd; exact ptr_kb (hcaps.2 0 v _ hv rfl) b2 (hc4.env.kb 22 k2 rfl)
            | 1, hv, hd => cases hd; exact ptr_kb (hcaps.2 1 v _ hv rfl) b1 (hc4.env.kb 21 k1 rfl)
            | 2, hv, hd => cases hd; exact ptr_kb (hcaps.2 2 v _ hv rfl) b3 (hc4.env.kb 23 k3 rfl)
            | 3, hv, hd => cases hd; exact ptr_kb (hcaps.2 3 v _ hv rfl) b4 (hc4.env.kb 24 k4 rfl)⟩
          refine leaves_rec hc4 (fun a w => Tryz.call63 a w) hcap4 rfl (by (repeat (first | exact trivial | refine ⟨⟨rfl, rfl⟩, ?_⟩))) ⟨.inr rfl, .inr rfl, .inr rfl, .inr rfl, trivial⟩ rfl (by simp) rfl (fun e0 vs0 h1 h2 => play1_noS acc0 { x with gone := s'.gone } true h1 h2) (fun bs' hb => by subst hb; exact ⟨.inl rfl, .inl rfl, .inl rfl, .inl rfl, trivial⟩) (fun bs' e5 hb hc5 => ?_)
          subst hb
          obtain ⟨v, hr, hv5⟩ := resI_rep tabOk (fn := Tryz.f32) (d := .tup [dAcc acc0, dOut { x with gone := s'.gone }, dB true]) hc5 rfl
          refine ⟨v, hr, v, _, [], e5.cut (isIn []) fun _ => false, rfl, rfl, ⟨rfl, .inl ⟨x, s', hm, rfl⟩⟩, cut_in hc5 trivial, hv5.cut rfl, ⟨hc5.env.kept, hc5.env.cl, fun b k hk => ?_, fun b hb => by cases hb⟩⟩
          cases hk
        · skip
          obtain ⟨e4, hw4, hc4⟩ := hgh a3 e3 hc3
          show Leaves Tryz.prog Tryz.f32 a3.tmps _ a3.defers (.panicking [pe (askedVS a)]) e3.w
          rw [hc4.df, ← hw4]
          have hcap4 : DReps e4 caps [.ptr 22 0, .ptr 21 0, .ptr 23 0, .ptr 24 0] := ⟨hcaps.1, fun i v d hv hd => by
            match i, hv, hd with
            | 0, hv, hd => cases hd; exact ptr_kb (hcaps.2 0 v _ hv rfl) b2 (hc4.env.kb 22 k2 rfl)
            | 1, hv, hd => cases hd; exact ptr_kb (hcaps.2 1 v _ hv rfl) b1 (hc4.env.kb 21 k1 rfl)
            | 2, hv, hd => cases hd; exact ptr_kb (hcaps.2 2 v _ hv rfl) b3 (hc4.env.kb 23 k3 rfl)
            | 3, hv, hd => cases hd; exact ptr_kb (hcaps.2 3 v _ hv rfl) b4 (hc4.env.kb 24 k4 rfl)⟩
          refine leaves_rec hc4 (fun a w => Tryz.call63 a w) hcap4 rfl (by (repeat (first | exact trivial | refine ⟨⟨rfl, rfl⟩, ?_⟩))) ⟨.inr rfl, .inr rfl, .inr rfl, .inr rfl, trivial⟩ rfl (by simp) rfl (fun e0 vs0 h1 h2 => play1_yesS acc0 a _ rfl false h1 h2) (fun bs' hb => by subst hb; exact ⟨.inl rfl, .inl rfl, .inl rfl, .inl rfl, trivial⟩) (fun bs' e5 hb hc5 => ?_)
          subst hb
          obtain ⟨v, hr, hv5⟩ := resI_rep tabOk (fn := Tryz.f32) (d := .tup [dAcc a, dOut0 out0, dB false]) hc5 rfl
          refine ⟨v, hr, v, _, [], e5.cut (isIn []) fun _ => false, rfl, rfl, ⟨rfl, .inr ⟨a, hm, rfl⟩⟩, cut_in hc5 trivial, hv5.cut rfl, ⟨hc5.env.kept, hc5.env.cl, fun b k hk => ?_, fun b hb => by cases hb⟩⟩
          cases hk
      · refine go ?_
        refine a_callvX (hC) rfl (fun a w => Tryz.call35 a w) rfl rfl rfl (by (repeat (first | exact trivial | refine ⟨⟨rfl, rfl⟩, ?_⟩))) (by (repeat (first | exact trivial | refine ⟨.inr rfl, ?_⟩ | refine ⟨.inl rfl, ?_⟩))) rfl rfl rfl rfl ?_ ?_ ?_ ?_
        · rintro d bs ⟨x, s', _, rfl, rfl⟩; exact ⟨.inl rfl, .inl rfl, .inl rfl, .inl rfl, .inl rfl, .inl rfl, trivial⟩
        · rintro v bs ⟨a, s', _, rfl, rfl⟩; exact ⟨.inl rfl, .inl rfl, .inl rfl, .inl rfl, .inl rfl, .inl rfl, trivial⟩
        · rintro v bs ⟨a, s', h, rfl, rfl⟩
          refine gP ?_
          exact .inr ⟨a, rfl, h, Ghost.trans (anyB_ghost 21 rfl rfl) (zX)⟩
        rintro d bs ⟨x, s', h, rfl, rfl⟩
        refine go ?_
        refine a_q (call_step ((clone2_f s'.gone (hg x s' h)).pure) rfl (fun a w => Tryz.call61 a w) rfl) rfl rfl rfl ?_
        refine go ?_
        refine awp_region_w 3 [22] rfl rfl (by kernel_rfl) (by kernel_rfl) (by kernel_rfl) ?_
        refine goQ ?_
        refine go ?_
        exact .inl ⟨rfl, x, s', h, Ghost.trans (anyB_ghost 21 rfl rfl) (zX)⟩
  · refine goC ?_
    refine a_b (box_step 21 rfl rfl rfl rfl) rfl rfl rfl rfl ?_
    refine a_b (alloc_step tabOk 22 rfl rfl rfl rfl) rfl rfl rfl rfl ?_
    refine a_b (alloc_step tabOk 23 rfl rfl rfl rfl) rfl rfl rfl rfl ?_
    refine a_b (alloc_step tabOk 24 rfl rfl rfl rfl) rfl rfl rfl rfl ?_
    exact aops_nil ⟨rfl, rfl⟩
theorem snext_gone {l : LayT} {me : Int} {gone : List (Int × Int)} {op : OpT} {log : List ResT} (hg : GoneOk gone) : GoneOk (snextF l me gone op log).2.1.gone ∧ (snextF l me gone op log).2.1.gone.length ≤ gone.length + 1 := by
  have hnil : GoneOk [] := fun p hp => by cases hp
  unfold snextF
  split
  · exact ⟨hg, by simp⟩
  · split
    · unfold finM
      cases h : spushM l (topF l op.obj) op.a log ⟨0, gone, 0, 0, 0⟩ with
      | ok q =>
        obtain ⟨x, s'⟩ := q
        have := spushM_gone h
        simp only [this]
        exact ⟨hg, by omega⟩
      | error a => exact ⟨hnil, by simp [out0]⟩
    · split
      · unfold finM
        cases h : spopM l me (topF l op.obj) log ⟨0, gone, 0, 0, 0⟩ with
        | ok q =>
          obtain ⟨x, s'⟩ := q
          exact ⟨spopL_ok h hg, spopL_len h⟩
        | error a => exact ⟨hnil, by simp [out0]⟩
      · exact ⟨hg, by simp⟩
set_option maxHeartbeats 8000000 in
theorem snext_c (l : LayT) (hL : LayOk l) (me : Int) (gone : List (Int × Int)) (op : OpT) (log : List ResT) (hgo : GoneOk gone) (hgl : gone.length ≤ 10000) (hl : log.length ≤ 1000000) : PureC Tryz.prog 11 [dLay l, dI me, dGone gone, dOp op, dLog log] (dNx (snextF l me gone op log)) := by
  generalize hE : snextF l me gone op log = E
  unfold snextF at hE
  refine pure_fin tabOk Tryz.func11 rfl Tryz.ntmps11 rfl rfl rfl fun w cl => ?_
  refine goC ?_
  refine a_b (box_step 0 rfl rfl rfl rfl) rfl rfl rfl rfl ?_
  refine a_b (box_step 16 rfl rfl rfl rfl) rfl rfl rfl rfl ?_
  refine a_b (alloc_step tabOk 2 rfl rfl rfl rfl) rfl rfl rfl rfl ?_
  refine a_b (alloc_step tabOk 3 rfl rfl rfl rfl) rfl rfl rfl rfl ?_
  refine go ?_
  refine a_q (call_step (top_c l hL op.obj) rfl (fun a w => Tryz.call29 a w) rfl) rfl rfl rfl ?_
  refine a_b (alloc_step tabOk 15 rfl rfl rfl rfl) rfl rfl rfl rfl ?_
  refine go ?_
  generalize h1 : decide (topF l op.obj < 0) = cc; cases cc
  · rw [if_neg (of_decide_eq_false h1)] at hE
    refine go ?_
    refine a_callI (begin_iS l me gone log) rfl (fun a w => Tryz.call31 a w) rfl rfl trivial trivial rfl rfl rfl rfl ?_ ?_
    · rintro d bs ⟨rfl, rfl⟩; exact ⟨.inr rfl, .inr rfl, .inr rfl, trivial⟩
    rintro d bs ⟨rfl, rfl⟩
    refine a_b (alloc_step tabOk 14 rfl rfl rfl rfl) rfl rfl rfl rfl ?_
    refine go ?_
    generalize h2 : decide (op.kind = 4) = cc; cases cc
    · rw [if_neg (of_decide_eq_false h2)] at hE
      refine go ?_
      generalize h5 : decide (op.kind = 5) = cc; cases cc
      · rw [if_neg (of_decide_eq_false h5)] at hE
        refine go ?_
        refine a_q (call_step (refuse_cS gone (by omega)) rfl (fun a w => Tryz.call30 a w) rfl) rfl rfl rfl ?_
        refine go ?_
        first | refine fin_ret rfl ?_ | refine fin_normal rfl ?_
        rw [← hE]
      · rw [if_pos (of_decide_eq_true h5)] at hE
        refine go ?_
        refine a_callI (play_popS l me log ⟨0, gone, 0, 0, 0⟩ (topF l op.obj) op _ (fun x s' h => by have := spopL_len h; simp at this; omega) (next2_xS l hL me log ⟨0, gone, 0, 0, 0⟩ (topF l op.obj) op hgo hgl (Nat.zero_le _) hl)) rfl (fun a w => Tryz.call32 a w) rfl rfl (by (repeat (first | exact trivial | refine ⟨⟨rfl, rfl⟩, ?_⟩))) trivial rfl rfl rfl rfl ?_ ?_
        · rintro d bs ⟨rfl, _⟩; exact trivial
        rintro d bs ⟨rfl, ⟨x, s', hm, rfl⟩ | ⟨a, hm, rfl⟩⟩
        · rw [hm] at hE
          refine go ?_
          first | refine fin_ret rfl ?_ | refine fin_normal rfl ?_
          rw [← hE]; rfl
        · rw [hm] at hE
          refine go ?_
          first | refine fin_ret rfl ?_ | refine fin_normal rfl ?_
          rw [← hE]; rfl
    · rw [if_pos (of_decide_eq_true h2)] at hE
      refine go ?_
      refine a_callI (play_pushS l me log ⟨0, gone, 0, 0, 0⟩ (topF l op.obj) op _ (fun x s' h => by rw [spushM_gone h]; simp; omega) (next1_xS l hL me log ⟨0, gone, 0, 0, 0⟩ (topF l op.obj) op (Nat.zero_le _) hl)) rfl (fun a w => Tryz.call32 a w) rfl rfl (by (repeat (first | exact trivial | refine ⟨⟨rfl, rfl⟩, ?_⟩))) trivial rfl rfl rfl rfl ?_ ?_
      · rintro d bs ⟨rfl, _⟩; exact trivial
      rintro d bs ⟨rfl, ⟨x, s', hm, rfl⟩ | ⟨a, hm, rfl⟩⟩
      · rw [hm] at hE
        refine go ?_
        first | refine fin_ret rfl ?_ | refine fin_normal rfl ?_
        rw [← hE]; rfl
      · rw [hm] at hE
        refine go ?_
        first | refine fin_ret rfl ?_ | refine fin_normal rfl ?_
        rw [← hE]; rfl
  · rw [if_pos (of_decide_eq_true h1)] at hE
    refine go ?_
    refine a_q (call_step (refuse_cS gone (by omega)) rfl (fun a w => Tryz.call30 a w) rfl) rfl rfl rfl ?_
    refine go ?_
    first | refine fin_ret rfl ?_ | refine fin_normal rfl ?_
    rw [← hE]
end Go.Proofs.YtdmnjoidfjidbaaGreat
