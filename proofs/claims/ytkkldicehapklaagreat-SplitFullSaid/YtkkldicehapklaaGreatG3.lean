/- A list's programs are run by their logs: their walks. -/
import Derived.Test.YtkkldicehapklaaGreatG2
import Derived.Test.YtkkldicehapklaaGreatDB
namespace Go.Proofs.YtkkldicehapklaaGreat
open Go.RowKit
set_option maxRecDepth 100000
def PlayR (m : Except AccT (kY × PsT)) : Dt → Bxs → Prop := fun d bs => bs = [] ∧ ((∃ x s', m = .ok (x, s') ∧ d = .tup [wM xZ, jO0 { x with gone := s'.gone }, dB true]) ∨ ∃ a, m = .error a ∧ d = .tup [wM a, jY9 jG7, dB false])
abbrev endS (a : AccT) (od : List Dt) (dn : Bool) : St := ⟨[(4, .ptr 22 0), (5, .ptr 23 0), (6, .ptr 24 0)], jJ3 a od dn, []⟩
def PlayQ (m : Except AccT (kY × PsT)) (Γ : Ctx) : Exit → St → Prop := fun ex σ => (ex = .ret ∧ ∃ x s', m = .ok (x, s') ∧ Ghost Γ σ (endS xZ (outC { x with gone := s'.gone }) true)) ∨ ∃ a, ex = .panic [pe (jG4 a)] ∧ m = .error a ∧ Ghost Γ σ (endS xZ [dI 0, dB false, dI 0, dI 0, .p (.sl true 0 [])] false)
abbrev opB (l : jN) (me : Int) (log : List jS) (op : OpT) (f : vA) (s : PsT) : Bxs := [(11, pieceD l me s), (12, [.ptr 11 0]), (13, [dLog log]), (14, fndD op.obj f), (15, [.ptr 14 0]), (16, [dI op.kind, dI op.obj, dI op.a, dI op.b])]
def NxR (l : jN) (me : Int) (log : List jS) (op : OpT) (s : PsT) (m : Except AccT (kY × PsT)) : Dt → Bxs → Prop := fun d bs => ∃ x s' f, m = .ok (x, s') ∧ FiG log s s' ∧ d = jY9 x ∧ bs = opB l me log op f s'
def NxX (l : jN) (me : Int) (log : List jS) (op : OpT) (m : Except AccT (kY × PsT)) : Value → Bxs → Prop := fun x bs => ∃ a s' f, m = .error a ∧ x = jG4 a ∧ bs = opB l me log op f s'
theorem nget_x (l : jN) (hL : qJ l) (me : Int) (log : List jS) (op : OpT) (f0 : vA) (s : PsT) (hgo : yK s.gone) (hgl : s.gone.length + log.length ≤ 10000 + s.made) (hm : s.made ≤ log.length) (hl : log.length ≤ 1000000) :
  ImpX Tryz.prog 94 [11, 12, 13, 14, 15, 16] [.ptr 15 0, .ptr 16 0] (opB l me log op f0 s) (NxR l me log op s (getM l me op.obj op.a log s)) (NxX l me log op (getM l me op.obj op.a log s)) := by
 generalize hE : getM l me op.obj op.a log s = E
 refine sX Tryz.func94 Tryz.ntmps94 fun w cl own kf => ?_
 refine go ?_
 refine cX (get_x l hL me log op.obj op.a f0 s hgo hgl hm hl) (fun a w => Tryz.call95 a w) ?_ ?_ ?_ ?_
 ·rintro d bs ⟨x, s', f', _, _, rfl, rfl⟩; exact ⟨.inl rfl, .inl rfl, .inl rfl, .inl rfl, trivial⟩
 ·rintro v bs ⟨a, s', f', _, rfl, rfl⟩; exact ⟨.inl rfl, .inl rfl, .inl rfl, .inl rfl, trivial⟩
 ·rintro v bs ⟨a, s', f', h, rfl, rfl⟩
  refine gP ?_
  refine fP (opB l me log op f' s') ?_
  exact ⟨a, s', f', hE.symm.trans h, rfl, rfl⟩
 rintro d bs ⟨x, s', f', h, hG, rfl, rfl⟩
 refine go ?_
 first | refine fR (opB l me log op f' s') ?_ | refine fN (opB l me log op f' s') ?_
 exact ⟨x, s', f', hE.symm.trans h, hG, rfl, rfl⟩
set_option maxHeartbeats 4000000 in
theorem play_get (l : jN) (me : Int) (log : List jS) (op : OpT) (f0 : vA) (s : PsT) (m : Except AccT (kY × PsT)) (hgs : s.gone.length + log.length ≤ 100000) (hC : ImpX Tryz.prog 94 [11, 12, 13, 14, 15, 16] [.ptr 15 0, .ptr 16 0] (opB l me log op f0 s) (NxR l me log op s m) (NxX l me log op m)) :
  ImpC Tryz.prog 93 [] [.ptr 11 0, .fn (.func 94) [] [.ptr 15 0, .ptr 16 0]] (opB l me log op f0 s) (PlayR m) := by
 intro e vs hI hv
 refine calls_of_wp_defers Tryz.func93 rfl ?_
 have hc0 := xV (fn := Tryz.f93) (f := 39) (keep := []) [] (by decide) trivial hI hv rfl
 refine wp_seq (Code.wp_mono (fun ex a1 w1 hh => ?_) (AWP.run (Q := fun ex σ => ex = .normal ∧ σ = ⟨[(6, .ptr 24 0), (5, .ptr 23 0), (4, .ptr 22 0), (2, .ptr 21 0), (0, .ptr 11 0), (1, .fn (.func 94) [] [.ptr 15 0, .ptr 16 0])], (24, [dB false]) :: (23, [dI 0, dB false, dI 0, dI 0, .p (.sl true 0 [])]) :: (22, [dI 0, dI 0, dI 0, dI 0]) :: (21, [.ptr 11 0]) :: opB l me log op f0 s, []⟩) ?_ _ e hc0))
 ·obtain ⟨σ1, e1, rfl, hc1, rfl, rfl⟩ := hh
  obtain ⟨k1, _, _, b1, _, _⟩ := hc1.boxes 21 _ rfl
  obtain ⟨k2, _, _, b2, _, _⟩ := hc1.boxes 22 _ rfl
  obtain ⟨k3, _, _, b3, _, _⟩ := hc1.boxes 23 _ rfl
  obtain ⟨k4, _, _, b4, _, _⟩ := hc1.boxes 24 _ rfl
  refine wp_seq (jL0 hc1 rfl rfl rfl rfl rfl rfl rfl rfl [(21, k1), (22, k2), (23, k3), (24, k4)] (fun b k hk => ?_) (fun a2 caps hcaps hc2 => ?_))
  ·simp only [jU] at hk
   split at hk
   ·rename_i q; cases hk; rw [← q]; exact b1
   ·split at hk
    ·rename_i q; cases hk; rw [← q]; exact b2
    ·split at hk
     ·rename_i q; cases hk; rw [← q]; exact b3
     ·split at hk
      ·rename_i q; cases hk; rw [← q]; exact b4
      ·cases hk
  ·refine Code.wp_mono (fun ex a3 w3 hh => ?_) (AWP.run (Γ := ⟨18, e.w, e.cl, fun k => ∃ b, e.bx b = some k, [(21, k1), (22, k2), (23, k3), (24, k4)], [{ target := .fn (.func 109) caps.toArray, args := #[] }]⟩) (Q := PlayQ m ⟨18, e.w, e.cl, fun k => ∃ b, e.bx b = some k, [(21, k1), (22, k2), (23, k3), (24, k4)], [{ target := .fn (.func 109) caps.toArray, args := #[] }]⟩) ?_ a2 e1 hc2)
   ·obtain ⟨σ3, e3, rfl, hc3, hq⟩ := hh
    rcases hq with ⟨rfl, x, s', hm, hgh⟩ | ⟨a, rfl, hm, hgh⟩
    ·skip
     obtain ⟨e4, hw4, hc4⟩ := hgh a3 e3 hc3
     show Leaves Tryz.prog Tryz.f93 a3.tmps _ a3.defers .returning e3.w
     rw [hc4.df, ← hw4]
     have hcap4 : DReps e4 caps [.ptr 22 0, .ptr 21 0, .ptr 23 0, .ptr 24 0] := ⟨hcaps.1, fun i v d hv hd => by
      match i, hv, hd with
      | 0, hv, hd => cases hd; exact kW (hcaps.2 0 v _ hv rfl) b2 (hc4.env.kb 22 k2 rfl)
      | 1, hv, hd => cases hd; exact kW (hcaps.2 1 v _ hv rfl) b1 (hc4.env.kb 21 k1 rfl)
      | 2, hv, hd => cases hd; exact kW (hcaps.2 2 v _ hv rfl) b3 (hc4.env.kb 23 k3 rfl)
      | 3, hv, hd => cases hd; exact kW (hcaps.2 3 v _ hv rfl) b4 (hc4.env.kb 24 k4 rfl)⟩
     refine vE hc4 (fun a w => Tryz.call109 a w) hcap4 rfl (by (repeat (first | exact trivial | refine ⟨⟨rfl, rfl⟩, ?_⟩))) ⟨.inr rfl, .inr rfl, .inr rfl, .inr rfl, trivial⟩ rfl (by simp) rfl (fun e0 vs0 h1 h2 => kH8 xZ { x with gone := s'.gone } true h1 h2) (fun bs' hb => by subst hb; exact ⟨.inl rfl, .inl rfl, .inl rfl, .inl rfl, trivial⟩) (fun bs' e5 hb hc5 => ?_)
     subst hb
     obtain ⟨v, hr, hv5⟩ := vP jB (fn := Tryz.f93) (d := .tup [wM xZ, jO0 { x with gone := s'.gone }, dB true]) hc5 rfl
     refine ⟨v, hr, v, _, [], e5.cut (jM []) fun _ => false, rfl, rfl, ⟨rfl, .inl ⟨x, s', hm, rfl⟩⟩, uC hc5 trivial, hv5.cut rfl, ⟨hc5.env.kept, hc5.env.cl, fun b k hk => ?_, fun b hb => by cases hb⟩⟩
     cases hk
    ·skip
     obtain ⟨e4, hw4, hc4⟩ := hgh a3 e3 hc3
     show Leaves Tryz.prog Tryz.f93 a3.tmps _ a3.defers (.panicking [pe (jG4 a)]) e3.w
     rw [hc4.df, ← hw4]
     have hcap4 : DReps e4 caps [.ptr 22 0, .ptr 21 0, .ptr 23 0, .ptr 24 0] := ⟨hcaps.1, fun i v d hv hd => by
      match i, hv, hd with
      | 0, hv, hd => cases hd; exact kW (hcaps.2 0 v _ hv rfl) b2 (hc4.env.kb 22 k2 rfl)
      | 1, hv, hd => cases hd; exact kW (hcaps.2 1 v _ hv rfl) b1 (hc4.env.kb 21 k1 rfl)
      | 2, hv, hd => cases hd; exact kW (hcaps.2 2 v _ hv rfl) b3 (hc4.env.kb 23 k3 rfl)
      | 3, hv, hd => cases hd; exact kW (hcaps.2 3 v _ hv rfl) b4 (hc4.env.kb 24 k4 rfl)⟩
     refine vE hc4 (fun a w => Tryz.call109 a w) hcap4 rfl (by (repeat (first | exact trivial | refine ⟨⟨rfl, rfl⟩, ?_⟩))) ⟨.inr rfl, .inr rfl, .inr rfl, .inr rfl, trivial⟩ rfl (by simp) rfl (fun e0 vs0 h1 h2 => kA0 xZ a _ rfl false h1 h2) (fun bs' hb => by subst hb; exact ⟨.inl rfl, .inl rfl, .inl rfl, .inl rfl, trivial⟩) (fun bs' e5 hb hc5 => ?_)
     subst hb
     obtain ⟨v, hr, hv5⟩ := vP jB (fn := Tryz.f93) (d := .tup [wM a, jY9 jG7, dB false]) hc5 rfl
     refine ⟨v, hr, v, _, [], e5.cut (jM []) fun _ => false, rfl, rfl, ⟨rfl, .inr ⟨a, hm, rfl⟩⟩, uC hc5 trivial, hv5.cut rfl, ⟨hc5.env.kept, hc5.env.cl, fun b k hk => ?_, fun b hb => by cases hb⟩⟩
     cases hk
   ·refine go ?_
    refine vF (hC) rfl (fun a w => Tryz.call94 a w) rfl rfl rfl (by (repeat (first | exact trivial | refine ⟨⟨rfl, rfl⟩, ?_⟩))) (by (repeat (first | exact trivial | refine ⟨.inr rfl, ?_⟩ | refine ⟨.inl rfl, ?_⟩))) rfl rfl rfl rfl ?_ ?_ ?_ ?_
    ·rintro d bs ⟨x, s', f', _, _, rfl, rfl⟩; exact ⟨.inl rfl, .inl rfl, .inl rfl, .inl rfl, .inl rfl, .inl rfl, trivial⟩
    ·rintro v bs ⟨a, s', f', _, rfl, rfl⟩; exact ⟨.inl rfl, .inl rfl, .inl rfl, .inl rfl, .inl rfl, .inl rfl, trivial⟩
    ·rintro v bs ⟨a, s', f', h, rfl, rfl⟩
     refine gP ?_
     exact .inr ⟨a, rfl, h, Ghost.trans (vB 21 rfl rfl) (zX)⟩
    rintro d bs ⟨x, s', f', h, hgm, rfl, rfl⟩
    have hgm1 := hgm.len
    have hgm2 := hgm.le
    refine go ?_
    refine a_q (jA ((jB7 s'.gone (by omega)).pure) rfl (fun a w => Tryz.call71 a w) rfl) rfl rfl rfl ?_
    refine go ?_
    refine jE 3 [22] rfl rfl (by kernel_rfl) (by kernel_rfl) (by kernel_rfl) ?_
    refine goQ ?_
    refine go ?_
    exact .inl ⟨rfl, x, s', h, Ghost.trans (vB 21 rfl rfl) (zX)⟩
 ·refine goC ?_
  refine a_b (qP 21 rfl rfl rfl rfl) rfl rfl rfl rfl ?_
  refine a_b (jL jB 22 rfl rfl rfl rfl) rfl rfl rfl rfl ?_
  refine a_b (jL jB 23 rfl rfl rfl rfl) rfl rfl rfl rfl ?_
  refine a_b (jL jB 24 rfl rfl rfl rfl) rfl rfl rfl rfl ?_
  exact jD ⟨rfl, rfl⟩
theorem nput_x (l : jN) (hL : qJ l) (me : Int) (log : List jS) (op : OpT) (f0 : vA) (s : PsT) (hgo : yK s.gone) (hgl : s.gone.length + log.length ≤ 10000 + s.made) (hm : s.made ≤ log.length) (hl : log.length ≤ 1000000) :
  ImpX Tryz.prog 96 [11, 12, 13, 14, 15, 16] [.ptr 15 0, .ptr 16 0] (opB l me log op f0 s) (NxR l me log op s (putM l me op.obj op.a op.b log s)) (NxX l me log op (putM l me op.obj op.a op.b log s)) := by
 generalize hE : putM l me op.obj op.a op.b log s = E
 refine sX Tryz.func96 Tryz.ntmps96 fun w cl own kf => ?_
 refine go ?_
 refine cX (put_x l hL me log op.obj op.a op.b f0 s hgo hgl hm hl) (fun a w => Tryz.call97 a w) ?_ ?_ ?_ ?_
 ·rintro d bs ⟨x, s', f', _, _, rfl, rfl⟩; exact ⟨.inl rfl, .inl rfl, .inl rfl, .inl rfl, trivial⟩
 ·rintro v bs ⟨a, s', f', _, rfl, rfl⟩; exact ⟨.inl rfl, .inl rfl, .inl rfl, .inl rfl, trivial⟩
 ·rintro v bs ⟨a, s', f', h, rfl, rfl⟩
  refine gP ?_
  refine fP (opB l me log op f' s') ?_
  exact ⟨a, s', f', hE.symm.trans h, rfl, rfl⟩
 rintro d bs ⟨x, s', f', h, hG, rfl, rfl⟩
 refine go ?_
 first | refine fR (opB l me log op f' s') ?_ | refine fN (opB l me log op f' s') ?_
 exact ⟨x, s', f', hE.symm.trans h, hG, rfl, rfl⟩
set_option maxHeartbeats 4000000 in
theorem play_put (l : jN) (me : Int) (log : List jS) (op : OpT) (f0 : vA) (s : PsT) (m : Except AccT (kY × PsT)) (hgs : s.gone.length + log.length ≤ 100000) (hC : ImpX Tryz.prog 96 [11, 12, 13, 14, 15, 16] [.ptr 15 0, .ptr 16 0] (opB l me log op f0 s) (NxR l me log op s m) (NxX l me log op m)) :
  ImpC Tryz.prog 93 [] [.ptr 11 0, .fn (.func 96) [] [.ptr 15 0, .ptr 16 0]] (opB l me log op f0 s) (PlayR m) := by
 intro e vs hI hv
 refine calls_of_wp_defers Tryz.func93 rfl ?_
 have hc0 := xV (fn := Tryz.f93) (f := 39) (keep := []) [] (by decide) trivial hI hv rfl
 refine wp_seq (Code.wp_mono (fun ex a1 w1 hh => ?_) (AWP.run (Q := fun ex σ => ex = .normal ∧ σ = ⟨[(6, .ptr 24 0), (5, .ptr 23 0), (4, .ptr 22 0), (2, .ptr 21 0), (0, .ptr 11 0), (1, .fn (.func 96) [] [.ptr 15 0, .ptr 16 0])], (24, [dB false]) :: (23, [dI 0, dB false, dI 0, dI 0, .p (.sl true 0 [])]) :: (22, [dI 0, dI 0, dI 0, dI 0]) :: (21, [.ptr 11 0]) :: opB l me log op f0 s, []⟩) ?_ _ e hc0))
 ·obtain ⟨σ1, e1, rfl, hc1, rfl, rfl⟩ := hh
  obtain ⟨k1, _, _, b1, _, _⟩ := hc1.boxes 21 _ rfl
  obtain ⟨k2, _, _, b2, _, _⟩ := hc1.boxes 22 _ rfl
  obtain ⟨k3, _, _, b3, _, _⟩ := hc1.boxes 23 _ rfl
  obtain ⟨k4, _, _, b4, _, _⟩ := hc1.boxes 24 _ rfl
  refine wp_seq (jL0 hc1 rfl rfl rfl rfl rfl rfl rfl rfl [(21, k1), (22, k2), (23, k3), (24, k4)] (fun b k hk => ?_) (fun a2 caps hcaps hc2 => ?_))
  ·simp only [jU] at hk
   split at hk
   ·rename_i q; cases hk; rw [← q]; exact b1
   ·split at hk
    ·rename_i q; cases hk; rw [← q]; exact b2
    ·split at hk
     ·rename_i q; cases hk; rw [← q]; exact b3
     ·split at hk
      ·rename_i q; cases hk; rw [← q]; exact b4
      ·cases hk
  ·refine Code.wp_mono (fun ex a3 w3 hh => ?_) (AWP.run (Γ := ⟨18, e.w, e.cl, fun k => ∃ b, e.bx b = some k, [(21, k1), (22, k2), (23, k3), (24, k4)], [{ target := .fn (.func 109) caps.toArray, args := #[] }]⟩) (Q := PlayQ m ⟨18, e.w, e.cl, fun k => ∃ b, e.bx b = some k, [(21, k1), (22, k2), (23, k3), (24, k4)], [{ target := .fn (.func 109) caps.toArray, args := #[] }]⟩) ?_ a2 e1 hc2)
   ·obtain ⟨σ3, e3, rfl, hc3, hq⟩ := hh
    rcases hq with ⟨rfl, x, s', hm, hgh⟩ | ⟨a, rfl, hm, hgh⟩
    ·skip
     obtain ⟨e4, hw4, hc4⟩ := hgh a3 e3 hc3
     show Leaves Tryz.prog Tryz.f93 a3.tmps _ a3.defers .returning e3.w
     rw [hc4.df, ← hw4]
     have hcap4 : DReps e4 caps [.ptr 22 0, .ptr 21 0, .ptr 23 0, .ptr 24 0] := ⟨hcaps.1, fun i v d hv hd => by
      match i, hv, hd with
      | 0, hv, hd => cases hd; exact kW (hcaps.2 0 v _ hv rfl) b2 (hc4.env.kb 22 k2 rfl)
      | 1, hv, hd => cases hd; exact kW (hcaps.2 1 v _ hv rfl) b1 (hc4.env.kb 21 k1 rfl)
      | 2, hv, hd => cases hd; exact kW (hcaps.2 2 v _ hv rfl) b3 (hc4.env.kb 23 k3 rfl)
      | 3, hv, hd => cases hd; exact kW (hcaps.2 3 v _ hv rfl) b4 (hc4.env.kb 24 k4 rfl)⟩
     refine vE hc4 (fun a w => Tryz.call109 a w) hcap4 rfl (by (repeat (first | exact trivial | refine ⟨⟨rfl, rfl⟩, ?_⟩))) ⟨.inr rfl, .inr rfl, .inr rfl, .inr rfl, trivial⟩ rfl (by simp) rfl (fun e0 vs0 h1 h2 => kH8 xZ { x with gone := s'.gone } true h1 h2) (fun bs' hb => by subst hb; exact ⟨.inl rfl, .inl rfl, .inl rfl, .inl rfl, trivial⟩) (fun bs' e5 hb hc5 => ?_)
     subst hb
     obtain ⟨v, hr, hv5⟩ := vP jB (fn := Tryz.f93) (d := .tup [wM xZ, jO0 { x with gone := s'.gone }, dB true]) hc5 rfl
     refine ⟨v, hr, v, _, [], e5.cut (jM []) fun _ => false, rfl, rfl, ⟨rfl, .inl ⟨x, s', hm, rfl⟩⟩, uC hc5 trivial, hv5.cut rfl, ⟨hc5.env.kept, hc5.env.cl, fun b k hk => ?_, fun b hb => by cases hb⟩⟩
     cases hk
    ·skip
     obtain ⟨e4, hw4, hc4⟩ := hgh a3 e3 hc3
     show Leaves Tryz.prog Tryz.f93 a3.tmps _ a3.defers (.panicking [pe (jG4 a)]) e3.w
     rw [hc4.df, ← hw4]
     have hcap4 : DReps e4 caps [.ptr 22 0, .ptr 21 0, .ptr 23 0, .ptr 24 0] := ⟨hcaps.1, fun i v d hv hd => by
      match i, hv, hd with
      | 0, hv, hd => cases hd; exact kW (hcaps.2 0 v _ hv rfl) b2 (hc4.env.kb 22 k2 rfl)
      | 1, hv, hd => cases hd; exact kW (hcaps.2 1 v _ hv rfl) b1 (hc4.env.kb 21 k1 rfl)
      | 2, hv, hd => cases hd; exact kW (hcaps.2 2 v _ hv rfl) b3 (hc4.env.kb 23 k3 rfl)
      | 3, hv, hd => cases hd; exact kW (hcaps.2 3 v _ hv rfl) b4 (hc4.env.kb 24 k4 rfl)⟩
     refine vE hc4 (fun a w => Tryz.call109 a w) hcap4 rfl (by (repeat (first | exact trivial | refine ⟨⟨rfl, rfl⟩, ?_⟩))) ⟨.inr rfl, .inr rfl, .inr rfl, .inr rfl, trivial⟩ rfl (by simp) rfl (fun e0 vs0 h1 h2 => kA0 xZ a _ rfl false h1 h2) (fun bs' hb => by subst hb; exact ⟨.inl rfl, .inl rfl, .inl rfl, .inl rfl, trivial⟩) (fun bs' e5 hb hc5 => ?_)
     subst hb
     obtain ⟨v, hr, hv5⟩ := vP jB (fn := Tryz.f93) (d := .tup [wM a, jY9 jG7, dB false]) hc5 rfl
     refine ⟨v, hr, v, _, [], e5.cut (jM []) fun _ => false, rfl, rfl, ⟨rfl, .inr ⟨a, hm, rfl⟩⟩, uC hc5 trivial, hv5.cut rfl, ⟨hc5.env.kept, hc5.env.cl, fun b k hk => ?_, fun b hb => by cases hb⟩⟩
     cases hk
   ·refine go ?_
    refine vF (hC) rfl (fun a w => Tryz.call96 a w) rfl rfl rfl (by (repeat (first | exact trivial | refine ⟨⟨rfl, rfl⟩, ?_⟩))) (by (repeat (first | exact trivial | refine ⟨.inr rfl, ?_⟩ | refine ⟨.inl rfl, ?_⟩))) rfl rfl rfl rfl ?_ ?_ ?_ ?_
    ·rintro d bs ⟨x, s', f', _, _, rfl, rfl⟩; exact ⟨.inl rfl, .inl rfl, .inl rfl, .inl rfl, .inl rfl, .inl rfl, trivial⟩
    ·rintro v bs ⟨a, s', f', _, rfl, rfl⟩; exact ⟨.inl rfl, .inl rfl, .inl rfl, .inl rfl, .inl rfl, .inl rfl, trivial⟩
    ·rintro v bs ⟨a, s', f', h, rfl, rfl⟩
     refine gP ?_
     exact .inr ⟨a, rfl, h, Ghost.trans (vB 21 rfl rfl) (zX)⟩
    rintro d bs ⟨x, s', f', h, hgm, rfl, rfl⟩
    have hgm1 := hgm.len
    have hgm2 := hgm.le
    refine go ?_
    refine a_q (jA ((jB7 s'.gone (by omega)).pure) rfl (fun a w => Tryz.call71 a w) rfl) rfl rfl rfl ?_
    refine go ?_
    refine jE 3 [22] rfl rfl (by kernel_rfl) (by kernel_rfl) (by kernel_rfl) ?_
    refine goQ ?_
    refine go ?_
    exact .inl ⟨rfl, x, s', h, Ghost.trans (vB 21 rfl rfl) (zX)⟩
 ·refine goC ?_
  refine a_b (qP 21 rfl rfl rfl rfl) rfl rfl rfl rfl ?_
  refine a_b (jL jB 22 rfl rfl rfl rfl) rfl rfl rfl rfl ?_
  refine a_b (jL jB 23 rfl rfl rfl rfl) rfl rfl rfl rfl ?_
  refine a_b (jL jB 24 rfl rfl rfl rfl) rfl rfl rfl rfl ?_
  exact jD ⟨rfl, rfl⟩
theorem ndel_x (l : jN) (hL : qJ l) (me : Int) (log : List jS) (op : OpT) (f0 : vA) (s : PsT) (hgo : yK s.gone) (hgl : s.gone.length + log.length ≤ 10000 + s.made) (hm : s.made ≤ log.length) (hl : log.length ≤ 1000000) :
  ImpX Tryz.prog 98 [11, 12, 13, 14, 15, 16] [.ptr 15 0, .ptr 16 0] (opB l me log op f0 s) (NxR l me log op s (delM l me op.obj op.a log s)) (NxX l me log op (delM l me op.obj op.a log s)) := by
 generalize hE : delM l me op.obj op.a log s = E
 refine sX Tryz.func98 Tryz.ntmps98 fun w cl own kf => ?_
 refine go ?_
 refine cX (del_x l hL me log op.obj op.a f0 s hgo hgl hm hl) (fun a w => Tryz.call99 a w) ?_ ?_ ?_ ?_
 ·rintro d bs ⟨x, s', f', _, _, rfl, rfl⟩; exact ⟨.inl rfl, .inl rfl, .inl rfl, .inl rfl, trivial⟩
 ·rintro v bs ⟨a, s', f', _, rfl, rfl⟩; exact ⟨.inl rfl, .inl rfl, .inl rfl, .inl rfl, trivial⟩
 ·rintro v bs ⟨a, s', f', h, rfl, rfl⟩
  refine gP ?_
  refine fP (opB l me log op f' s') ?_
  exact ⟨a, s', f', hE.symm.trans h, rfl, rfl⟩
 rintro d bs ⟨x, s', f', h, hG, rfl, rfl⟩
 refine go ?_
 first | refine fR (opB l me log op f' s') ?_ | refine fN (opB l me log op f' s') ?_
 exact ⟨x, s', f', hE.symm.trans h, hG, rfl, rfl⟩
set_option maxHeartbeats 4000000 in
theorem play_del (l : jN) (me : Int) (log : List jS) (op : OpT) (f0 : vA) (s : PsT) (m : Except AccT (kY × PsT)) (hgs : s.gone.length + log.length ≤ 100000) (hC : ImpX Tryz.prog 98 [11, 12, 13, 14, 15, 16] [.ptr 15 0, .ptr 16 0] (opB l me log op f0 s) (NxR l me log op s m) (NxX l me log op m)) :
  ImpC Tryz.prog 93 [] [.ptr 11 0, .fn (.func 98) [] [.ptr 15 0, .ptr 16 0]] (opB l me log op f0 s) (PlayR m) := by
 intro e vs hI hv
 refine calls_of_wp_defers Tryz.func93 rfl ?_
 have hc0 := xV (fn := Tryz.f93) (f := 39) (keep := []) [] (by decide) trivial hI hv rfl
 refine wp_seq (Code.wp_mono (fun ex a1 w1 hh => ?_) (AWP.run (Q := fun ex σ => ex = .normal ∧ σ = ⟨[(6, .ptr 24 0), (5, .ptr 23 0), (4, .ptr 22 0), (2, .ptr 21 0), (0, .ptr 11 0), (1, .fn (.func 98) [] [.ptr 15 0, .ptr 16 0])], (24, [dB false]) :: (23, [dI 0, dB false, dI 0, dI 0, .p (.sl true 0 [])]) :: (22, [dI 0, dI 0, dI 0, dI 0]) :: (21, [.ptr 11 0]) :: opB l me log op f0 s, []⟩) ?_ _ e hc0))
 ·obtain ⟨σ1, e1, rfl, hc1, rfl, rfl⟩ := hh
  obtain ⟨k1, _, _, b1, _, _⟩ := hc1.boxes 21 _ rfl
  obtain ⟨k2, _, _, b2, _, _⟩ := hc1.boxes 22 _ rfl
  obtain ⟨k3, _, _, b3, _, _⟩ := hc1.boxes 23 _ rfl
  obtain ⟨k4, _, _, b4, _, _⟩ := hc1.boxes 24 _ rfl
  refine wp_seq (jL0 hc1 rfl rfl rfl rfl rfl rfl rfl rfl [(21, k1), (22, k2), (23, k3), (24, k4)] (fun b k hk => ?_) (fun a2 caps hcaps hc2 => ?_))
  ·simp only [jU] at hk
   split at hk
   ·rename_i q; cases hk; rw [← q]; exact b1
   ·split at hk
    ·rename_i q; cases hk; rw [← q]; exact b2
    ·split at hk
     ·rename_i q; cases hk; rw [← q]; exact b3
     ·split at hk
      ·rename_i q; cases hk; rw [← q]; exact b4
      ·cases hk
  ·refine Code.wp_mono (fun ex a3 w3 hh => ?_) (AWP.run (Γ := ⟨18, e.w, e.cl, fun k => ∃ b, e.bx b = some k, [(21, k1), (22, k2), (23, k3), (24, k4)], [{ target := .fn (.func 109) caps.toArray, args := #[] }]⟩) (Q := PlayQ m ⟨18, e.w, e.cl, fun k => ∃ b, e.bx b = some k, [(21, k1), (22, k2), (23, k3), (24, k4)], [{ target := .fn (.func 109) caps.toArray, args := #[] }]⟩) ?_ a2 e1 hc2)
   ·obtain ⟨σ3, e3, rfl, hc3, hq⟩ := hh
    rcases hq with ⟨rfl, x, s', hm, hgh⟩ | ⟨a, rfl, hm, hgh⟩
    ·skip
     obtain ⟨e4, hw4, hc4⟩ := hgh a3 e3 hc3
     show Leaves Tryz.prog Tryz.f93 a3.tmps _ a3.defers .returning e3.w
     rw [hc4.df, ← hw4]
     have hcap4 : DReps e4 caps [.ptr 22 0, .ptr 21 0, .ptr 23 0, .ptr 24 0] := ⟨hcaps.1, fun i v d hv hd => by
      match i, hv, hd with
      | 0, hv, hd => cases hd; exact kW (hcaps.2 0 v _ hv rfl) b2 (hc4.env.kb 22 k2 rfl)
      | 1, hv, hd => cases hd; exact kW (hcaps.2 1 v _ hv rfl) b1 (hc4.env.kb 21 k1 rfl)
      | 2, hv, hd => cases hd; exact kW (hcaps.2 2 v _ hv rfl) b3 (hc4.env.kb 23 k3 rfl)
      | 3, hv, hd => cases hd; exact kW (hcaps.2 3 v _ hv rfl) b4 (hc4.env.kb 24 k4 rfl)⟩
     refine vE hc4 (fun a w => Tryz.call109 a w) hcap4 rfl (by (repeat (first | exact trivial | refine ⟨⟨rfl, rfl⟩, ?_⟩))) ⟨.inr rfl, .inr rfl, .inr rfl, .inr rfl, trivial⟩ rfl (by simp) rfl (fun e0 vs0 h1 h2 => kH8 xZ { x with gone := s'.gone } true h1 h2) (fun bs' hb => by subst hb; exact ⟨.inl rfl, .inl rfl, .inl rfl, .inl rfl, trivial⟩) (fun bs' e5 hb hc5 => ?_)
     subst hb
     obtain ⟨v, hr, hv5⟩ := vP jB (fn := Tryz.f93) (d := .tup [wM xZ, jO0 { x with gone := s'.gone }, dB true]) hc5 rfl
     refine ⟨v, hr, v, _, [], e5.cut (jM []) fun _ => false, rfl, rfl, ⟨rfl, .inl ⟨x, s', hm, rfl⟩⟩, uC hc5 trivial, hv5.cut rfl, ⟨hc5.env.kept, hc5.env.cl, fun b k hk => ?_, fun b hb => by cases hb⟩⟩
     cases hk
    ·skip
     obtain ⟨e4, hw4, hc4⟩ := hgh a3 e3 hc3
     show Leaves Tryz.prog Tryz.f93 a3.tmps _ a3.defers (.panicking [pe (jG4 a)]) e3.w
     rw [hc4.df, ← hw4]
     have hcap4 : DReps e4 caps [.ptr 22 0, .ptr 21 0, .ptr 23 0, .ptr 24 0] := ⟨hcaps.1, fun i v d hv hd => by
      match i, hv, hd with
      | 0, hv, hd => cases hd; exact kW (hcaps.2 0 v _ hv rfl) b2 (hc4.env.kb 22 k2 rfl)
      | 1, hv, hd => cases hd; exact kW (hcaps.2 1 v _ hv rfl) b1 (hc4.env.kb 21 k1 rfl)
      | 2, hv, hd => cases hd; exact kW (hcaps.2 2 v _ hv rfl) b3 (hc4.env.kb 23 k3 rfl)
      | 3, hv, hd => cases hd; exact kW (hcaps.2 3 v _ hv rfl) b4 (hc4.env.kb 24 k4 rfl)⟩
     refine vE hc4 (fun a w => Tryz.call109 a w) hcap4 rfl (by (repeat (first | exact trivial | refine ⟨⟨rfl, rfl⟩, ?_⟩))) ⟨.inr rfl, .inr rfl, .inr rfl, .inr rfl, trivial⟩ rfl (by simp) rfl (fun e0 vs0 h1 h2 => kA0 xZ a _ rfl false h1 h2) (fun bs' hb => by subst hb; exact ⟨.inl rfl, .inl rfl, .inl rfl, .inl rfl, trivial⟩) (fun bs' e5 hb hc5 => ?_)
     subst hb
     obtain ⟨v, hr, hv5⟩ := vP jB (fn := Tryz.f93) (d := .tup [wM a, jY9 jG7, dB false]) hc5 rfl
     refine ⟨v, hr, v, _, [], e5.cut (jM []) fun _ => false, rfl, rfl, ⟨rfl, .inr ⟨a, hm, rfl⟩⟩, uC hc5 trivial, hv5.cut rfl, ⟨hc5.env.kept, hc5.env.cl, fun b k hk => ?_, fun b hb => by cases hb⟩⟩
     cases hk
   ·refine go ?_
    refine vF (hC) rfl (fun a w => Tryz.call98 a w) rfl rfl rfl (by (repeat (first | exact trivial | refine ⟨⟨rfl, rfl⟩, ?_⟩))) (by (repeat (first | exact trivial | refine ⟨.inr rfl, ?_⟩ | refine ⟨.inl rfl, ?_⟩))) rfl rfl rfl rfl ?_ ?_ ?_ ?_
    ·rintro d bs ⟨x, s', f', _, _, rfl, rfl⟩; exact ⟨.inl rfl, .inl rfl, .inl rfl, .inl rfl, .inl rfl, .inl rfl, trivial⟩
    ·rintro v bs ⟨a, s', f', _, rfl, rfl⟩; exact ⟨.inl rfl, .inl rfl, .inl rfl, .inl rfl, .inl rfl, .inl rfl, trivial⟩
    ·rintro v bs ⟨a, s', f', h, rfl, rfl⟩
     refine gP ?_
     exact .inr ⟨a, rfl, h, Ghost.trans (vB 21 rfl rfl) (zX)⟩
    rintro d bs ⟨x, s', f', h, hgm, rfl, rfl⟩
    have hgm1 := hgm.len
    have hgm2 := hgm.le
    refine go ?_
    refine a_q (jA ((jB7 s'.gone (by omega)).pure) rfl (fun a w => Tryz.call71 a w) rfl) rfl rfl rfl ?_
    refine go ?_
    refine jE 3 [22] rfl rfl (by kernel_rfl) (by kernel_rfl) (by kernel_rfl) ?_
    refine goQ ?_
    refine go ?_
    exact .inl ⟨rfl, x, s', h, Ghost.trans (vB 21 rfl rfl) (zX)⟩
 ·refine goC ?_
  refine a_b (qP 21 rfl rfl rfl rfl) rfl rfl rfl rfl ?_
  refine a_b (jL jB 22 rfl rfl rfl rfl) rfl rfl rfl rfl ?_
  refine a_b (jL jB 23 rfl rfl rfl rfl) rfl rfl rfl rfl ?_
  refine a_b (jL jB 24 rfl rfl rfl rfl) rfl rfl rfl rfl ?_
  exact jD ⟨rfl, rfl⟩
end Go.Proofs.YtkkldicehapklaaGreat
