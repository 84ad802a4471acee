/- A map's programs are run by their logs: their walks. -/
import Derived.Test.YtkkldicehapklaaGreatH5
import Derived.Test.YtkkldicehapklaaGreatG3
namespace Go.Proofs.YtkkldicehapklaaGreat
open Go.RowKit
set_option maxRecDepth 100000
theorem kB2 {e : Env} {vs : List Value} (a : AccT) (o : kY) (dn : Bool) (hI : jA7 (jJ3 a (outC o) dn) e) (hv : DReps e vs [.ptr 22 0, .ptr 21 0, .ptr 23 0, .ptr 24 0]) :
  CallsD Tryz.prog 72 vs.toArray .returning e.w fun r u2 w' => ∃ e' bs', r = .returned (.tuple #[]) ∧ u2 = .returning ∧ e'.w = w' ∧ jA7 bs' e' ∧ jN3 [21, 22, 23, 24] e e' ∧ bs' = jJ3 a (outC o) dn := by
 refine jE1 (T := tb) Tryz.func72 rfl Tryz.ntmps72 rfl rfl rfl (by (repeat (first | exact trivial | refine ⟨rfl, ?_⟩))) (fun _ _ => rfl) (fun _ => rfl) rfl rfl .no (fun w cl own kf => ?_) hI hv
 refine go ?_
 refine a_q (jT1 Tryz.underlying20 rfl rfl) rfl rfl rfl ?_
 refine go ?_
 refine qD (jJ3 a (outC o) dn) rfl rfl (by (repeat (first | exact trivial | refine ⟨⟨rfl, rfl⟩, ?_⟩))) (by (repeat (first | exact trivial | refine ⟨rfl, ?_⟩))) rfl
theorem jU2 {e : Env} {vs : List Value} (a a' : AccT) (od : List Dt) (ho : od = [dI 0, dB false, dI 0, dI 0, .p (.sl true 0 [])]) (dn : Bool) (hI : jA7 (jJ3 a od dn) e) (hv : DReps e vs [.ptr 22 0, .ptr 21 0, .ptr 23 0, .ptr 24 0]) :
  CallsD Tryz.prog 72 vs.toArray (.panicking [pe (jQ4 a')]) e.w fun r u2 w' => ∃ e' bs', r = .returned (.tuple #[]) ∧ u2 = .panicking [{ v := jQ4 a', recovered := true }] ∧ e'.w = w' ∧ jA7 bs' e' ∧ jN3 [21, 22, 23, 24] e e' ∧ bs' = jJ3 a' od dn := by
 subst ho
 refine jE1 (T := tb) Tryz.func72 rfl Tryz.ntmps72 rfl rfl rfl (by (repeat (first | exact trivial | refine ⟨rfl, ?_⟩))) (fun _ _ => rfl) (fun _ => rfl) rfl rfl (.yes (jQ4 a')) (fun w cl own kf => ?_) hI hv
 refine go ?_
 refine a_q (jQ3 Tryz.underlying20 rfl rfl) rfl rfl rfl ?_
 refine go ?_
 refine a_q (kD5 jB rfl rfl rfl rfl) rfl rfl rfl ?_
 refine go ?_
 refine qD (jJ3 a' _ dn) rfl rfl (by (repeat (first | exact trivial | refine ⟨⟨rfl, rfl⟩, ?_⟩))) (by (repeat (first | exact trivial | refine ⟨rfl, ?_⟩))) rfl
abbrev hendS (a : AccT) (od : List Dt) (dn : Bool) : St := ⟨[(4, .ptr 22 0), (5, .ptr 23 0), (6, .ptr 24 0)], jJ3 a od dn, []⟩
def HPlayQ (m : Except AccT (kY × PsT)) (Γ : Ctx) : Exit → St → Prop := fun ex σ => (ex = .ret ∧ ∃ x s', m = .ok (x, s') ∧ Ghost Γ σ (hendS xZ (outC { x with gone := s'.gone }) true)) ∨ ∃ a, ex = .panic [pe (jQ4 a)] ∧ m = .error a ∧ Ghost Γ σ (hendS xZ [dI 0, dB false, dI 0, dI 0, .p (.sl true 0 [])] false)
set_option maxHeartbeats 4000000 in
theorem hplay1_i (l : jN) (me : Int) (log : List jS) (op : OpT) (s : PsT) (m : Except AccT (kY × PsT)) (hgs : s.gone.length + log.length ≤ 100000) (hC : ImpX Tryz.prog 41 [40, 53, 54, 55, 56, 57, 58] [.ptr 55 0, .ptr 56 0, .ptr 57 0, .ptr 58 0] (nxB fn1 l me op log s) (OutR (nxB fn1 l me op log) log m s) (PhX (nxB fn1 l me op log) m)) :
  ImpC Tryz.prog 40 [] [.ptr 40 0, .fn (.func 41) [] [.ptr 55 0, .ptr 56 0, .ptr 57 0, .ptr 58 0]] (nxB fn1 l me op log s) (PlayR m) := by
 intro e vs hI hv
 refine calls_of_wp_defers Tryz.func40 rfl ?_
 have hc0 := xV (fn := Tryz.f40) (f := 40) (keep := []) [] (by decide) trivial hI hv rfl
 refine wp_seq (Code.wp_mono (fun ex a1 w1 hh => ?_) (AWP.run (Q := fun ex σ => ex = .normal ∧ σ = ⟨[(6, .ptr 24 0), (5, .ptr 23 0), (4, .ptr 22 0), (2, .ptr 21 0), (0, .ptr 40 0), (1, .fn (.func 41) [] [.ptr 55 0, .ptr 56 0, .ptr 57 0, .ptr 58 0])], (24, [dB false]) :: (23, [dI 0, dB false, dI 0, dI 0, .p (.sl true 0 [])]) :: (22, [dI 0, dI 0, dI 0, dI 0]) :: (21, [.ptr 40 0]) :: nxB fn1 l me op log s, []⟩) ?_ _ e hc0))
 ·obtain ⟨σ1, e1, rfl, hc1, rfl, rfl⟩ := hh
  obtain ⟨k1, _, _, b1, _, _⟩ := hc1.boxes 21 _ rfl
  obtain ⟨k2, _, _, b2, _, _⟩ := hc1.boxes 22 _ rfl
  obtain ⟨k3, _, _, b3, _, _⟩ := hc1.boxes 23 _ rfl
  obtain ⟨k4, _, _, b4, _, _⟩ := hc1.boxes 24 _ rfl
  refine wp_seq (jL0 hc1 rfl rfl rfl rfl rfl rfl rfl rfl [(21, k1), (22, k2), (23, k3), (24, k4)] (fun b k hk => ?_) (fun a2 caps hcaps hc2 => ?_))
  ·simp only [jU] at hk
   split at hk
   ·rename_i q; cases hk; rw [← q]; exact b1
   ·split at hk
    ·rename_i q; cases hk; rw [← q]; exact b2
    ·split at hk
     ·rename_i q; cases hk; rw [← q]; exact b3
     ·split at hk
      ·rename_i q; cases hk; rw [← q]; exact b4
      ·cases hk
  ·refine Code.wp_mono (fun ex a3 w3 hh => ?_) (AWP.run (Γ := ⟨18, e.w, e.cl, fun k => ∃ b, e.bx b = some k, [(21, k1), (22, k2), (23, k3), (24, k4)], [{ target := .fn (.func 72) caps.toArray, args := #[] }]⟩) (Q := HPlayQ m ⟨18, e.w, e.cl, fun k => ∃ b, e.bx b = some k, [(21, k1), (22, k2), (23, k3), (24, k4)], [{ target := .fn (.func 72) caps.toArray, args := #[] }]⟩) ?_ a2 e1 hc2)
   ·obtain ⟨σ3, e3, rfl, hc3, hq⟩ := hh
    rcases hq with ⟨rfl, x, s', hm, hgh⟩ | ⟨a, rfl, hm, hgh⟩
    ·skip
     obtain ⟨e4, hw4, hc4⟩ := hgh a3 e3 hc3
     show Leaves Tryz.prog Tryz.f40 a3.tmps _ a3.defers .returning e3.w
     rw [hc4.df, ← hw4]
     have hcap4 : DReps e4 caps [.ptr 22 0, .ptr 21 0, .ptr 23 0, .ptr 24 0] := ⟨hcaps.1, fun i v d hv hd => by
      match i, hv, hd with
      | 0, hv, hd => cases hd; exact kW (hcaps.2 0 v _ hv rfl) b2 (hc4.env.kb 22 k2 rfl)
      | 1, hv, hd => cases hd; exact kW (hcaps.2 1 v _ hv rfl) b1 (hc4.env.kb 21 k1 rfl)
      | 2, hv, hd => cases hd; exact kW (hcaps.2 2 v _ hv rfl) b3 (hc4.env.kb 23 k3 rfl)
      | 3, hv, hd => cases hd; exact kW (hcaps.2 3 v _ hv rfl) b4 (hc4.env.kb 24 k4 rfl)⟩
     refine vE hc4 (fun a w => Tryz.call72 a w) hcap4 rfl (by (repeat (first | exact trivial | refine ⟨⟨rfl, rfl⟩, ?_⟩))) ⟨.inr rfl, .inr rfl, .inr rfl, .inr rfl, trivial⟩ rfl (by simp) rfl (fun e0 vs0 h1 h2 => kB2 xZ { x with gone := s'.gone } true h1 h2) (fun bs' hb => by subst hb; exact ⟨.inl rfl, .inl rfl, .inl rfl, .inl rfl, trivial⟩) (fun bs' e5 hb hc5 => ?_)
     subst hb
     obtain ⟨v, hr, hv5⟩ := vP jB (fn := Tryz.f40) (d := .tup [wM xZ, jO0 { x with gone := s'.gone }, dB true]) hc5 rfl
     refine ⟨v, hr, v, _, [], e5.cut (jM []) fun _ => false, rfl, rfl, ⟨rfl, .inl ⟨x, s', hm, rfl⟩⟩, uC hc5 trivial, hv5.cut rfl, ⟨hc5.env.kept, hc5.env.cl, fun b k hk => ?_, fun b hb => by cases hb⟩⟩
     cases hk
    ·skip
     obtain ⟨e4, hw4, hc4⟩ := hgh a3 e3 hc3
     show Leaves Tryz.prog Tryz.f40 a3.tmps _ a3.defers (.panicking [pe (jQ4 a)]) e3.w
     rw [hc4.df, ← hw4]
     have hcap4 : DReps e4 caps [.ptr 22 0, .ptr 21 0, .ptr 23 0, .ptr 24 0] := ⟨hcaps.1, fun i v d hv hd => by
      match i, hv, hd with
      | 0, hv, hd => cases hd; exact kW (hcaps.2 0 v _ hv rfl) b2 (hc4.env.kb 22 k2 rfl)
      | 1, hv, hd => cases hd; exact kW (hcaps.2 1 v _ hv rfl) b1 (hc4.env.kb 21 k1 rfl)
      | 2, hv, hd => cases hd; exact kW (hcaps.2 2 v _ hv rfl) b3 (hc4.env.kb 23 k3 rfl)
      | 3, hv, hd => cases hd; exact kW (hcaps.2 3 v _ hv rfl) b4 (hc4.env.kb 24 k4 rfl)⟩
     refine vE hc4 (fun a w => Tryz.call72 a w) hcap4 rfl (by (repeat (first | exact trivial | refine ⟨⟨rfl, rfl⟩, ?_⟩))) ⟨.inr rfl, .inr rfl, .inr rfl, .inr rfl, trivial⟩ rfl (by simp) rfl (fun e0 vs0 h1 h2 => jU2 xZ a _ rfl false h1 h2) (fun bs' hb => by subst hb; exact ⟨.inl rfl, .inl rfl, .inl rfl, .inl rfl, trivial⟩) (fun bs' e5 hb hc5 => ?_)
     subst hb
     obtain ⟨v, hr, hv5⟩ := vP jB (fn := Tryz.f40) (d := .tup [wM a, jY9 jG7, dB false]) hc5 rfl
     refine ⟨v, hr, v, _, [], e5.cut (jM []) fun _ => false, rfl, rfl, ⟨rfl, .inr ⟨a, hm, rfl⟩⟩, uC hc5 trivial, hv5.cut rfl, ⟨hc5.env.kept, hc5.env.cl, fun b k hk => ?_, fun b hb => by cases hb⟩⟩
     cases hk
   ·refine go ?_
    refine vF (hC) rfl (fun a w => Tryz.call41 a w) rfl rfl rfl (by (repeat (first | exact trivial | refine ⟨⟨rfl, rfl⟩, ?_⟩))) (by (repeat (first | exact trivial | refine ⟨.inr rfl, ?_⟩ | refine ⟨.inl rfl, ?_⟩))) rfl rfl rfl rfl ?_ ?_ ?_ ?_
    ·rintro d bs ⟨p, _, _, rfl, rfl⟩; exact ⟨.inl rfl, .inl rfl, .inl rfl, .inl rfl, .inl rfl, .inl rfl, .inl rfl, trivial⟩
    ·rintro v bs ⟨a, s', _, rfl, rfl⟩; exact ⟨.inl rfl, .inl rfl, .inl rfl, .inl rfl, .inl rfl, .inl rfl, .inl rfl, trivial⟩
    ·rintro v bs ⟨a, s', h, rfl, rfl⟩
     refine gP ?_
     exact .inr ⟨a, rfl, h, Ghost.trans (vB 21 rfl rfl) (zX)⟩
    rintro d bs ⟨⟨x, s', ex, k, ps⟩, h, hgm, rfl, rfl⟩
    simp only at h hgm
    have hgm1 := hgm.len
    have hgm2 := hgm.le
    refine go ?_
    refine a_q (jA ((jB7 s'.gone (by omega)).pure) rfl (fun a w => Tryz.call71 a w) rfl) rfl rfl rfl ?_
    refine go ?_
    refine jE 3 [22] rfl rfl (by kernel_rfl) (by kernel_rfl) (by kernel_rfl) ?_
    refine goQ ?_
    refine go ?_
    exact .inl ⟨rfl, x, s', h, Ghost.trans (vB 21 rfl rfl) (zX)⟩
 ·refine goC ?_
  refine a_b (qP 21 rfl rfl rfl rfl) rfl rfl rfl rfl ?_
  refine a_b (jL jB 22 rfl rfl rfl rfl) rfl rfl rfl rfl ?_
  refine a_b (jL jB 23 rfl rfl rfl rfl) rfl rfl rfl rfl ?_
  refine a_b (jL jB 24 rfl rfl rfl rfl) rfl rfl rfl rfl ?_
  exact jD ⟨rfl, rfl⟩
set_option maxHeartbeats 4000000 in
theorem hplay2_i (l : jN) (me : Int) (log : List jS) (op : OpT) (s : PsT) (m : Except AccT (kY × PsT)) (hgs : s.gone.length + log.length ≤ 100000) (hC : ImpX Tryz.prog 41 [40, 53, 54, 55, 56, 57, 58] [.ptr 55 0, .ptr 56 0, .ptr 57 0, .ptr 58 0] (nxB fn2 l me op log s) (OutR (nxB fn2 l me op log) log m s) (PhX (nxB fn2 l me op log) m)) :
  ImpC Tryz.prog 40 [] [.ptr 40 0, .fn (.func 41) [] [.ptr 55 0, .ptr 56 0, .ptr 57 0, .ptr 58 0]] (nxB fn2 l me op log s) (PlayR m) := by
 intro e vs hI hv
 refine calls_of_wp_defers Tryz.func40 rfl ?_
 have hc0 := xV (fn := Tryz.f40) (f := 40) (keep := []) [] (by decide) trivial hI hv rfl
 refine wp_seq (Code.wp_mono (fun ex a1 w1 hh => ?_) (AWP.run (Q := fun ex σ => ex = .normal ∧ σ = ⟨[(6, .ptr 24 0), (5, .ptr 23 0), (4, .ptr 22 0), (2, .ptr 21 0), (0, .ptr 40 0), (1, .fn (.func 41) [] [.ptr 55 0, .ptr 56 0, .ptr 57 0, .ptr 58 0])], (24, [dB false]) :: (23, [dI 0, dB false, dI 0, dI 0, .p (.sl true 0 [])]) :: (22, [dI 0, dI 0, dI 0, dI 0]) :: (21, [.ptr 40 0]) :: nxB fn2 l me op log s, []⟩) ?_ _ e hc0))
 ·obtain ⟨σ1, e1, rfl, hc1, rfl, rfl⟩ := hh
  obtain ⟨k1, _, _, b1, _, _⟩ := hc1.boxes 21 _ rfl
  obtain ⟨k2, _, _, b2, _, _⟩ := hc1.boxes 22 _ rfl
  obtain ⟨k3, _, _, b3, _, _⟩ := hc1.boxes 23 _ rfl
  obtain ⟨k4, _, _, b4, _, _⟩ := hc1.boxes 24 _ rfl
  refine wp_seq (jL0 hc1 rfl rfl rfl rfl rfl rfl rfl rfl [(21, k1), (22, k2), (23, k3), (24, k4)] (fun b k hk => ?_) (fun a2 caps hcaps hc2 => ?_))
  ·simp only [jU] at hk
   split at hk
   ·rename_i q; cases hk; rw [← q]; exact b1
   ·split at hk
    ·rename_i q; cases hk; rw [← q]; exact b2
    ·split at hk
     ·rename_i q; cases hk; rw [← q]; exact b3
     ·split at hk
      ·rename_i q; cases hk; rw [← q]; exact b4
      ·cases hk
  ·refine Code.wp_mono (fun ex a3 w3 hh => ?_) (AWP.run (Γ := ⟨18, e.w, e.cl, fun k => ∃ b, e.bx b = some k, [(21, k1), (22, k2), (23, k3), (24, k4)], [{ target := .fn (.func 72) caps.toArray, args := #[] }]⟩) (Q := HPlayQ m ⟨18, e.w, e.cl, fun k => ∃ b, e.bx b = some k, [(21, k1), (22, k2), (23, k3), (24, k4)], [{ target := .fn (.func 72) caps.toArray, args := #[] }]⟩) ?_ a2 e1 hc2)
   ·obtain ⟨σ3, e3, rfl, hc3, hq⟩ := hh
    rcases hq with ⟨rfl, x, s', hm, hgh⟩ | ⟨a, rfl, hm, hgh⟩
    ·skip
     obtain ⟨e4, hw4, hc4⟩ := hgh a3 e3 hc3
     show Leaves Tryz.prog Tryz.f40 a3.tmps _ a3.defers .returning e3.w
     rw [hc4.df, ← hw4]
     have hcap4 : DReps e4 caps [.ptr 22 0, .ptr 21 0, .ptr 23 0, .ptr 24 0] := ⟨hcaps.1, fun i v d hv hd => by
      match i, hv, hd with
      | 0, hv, hd => cases hd; exact kW (hcaps.2 0 v _ hv rfl) b2 (hc4.env.kb 22 k2 rfl)
      | 1, hv, hd => cases hd; exact kW (hcaps.2 1 v _ hv rfl) b1 (hc4.env.kb 21 k1 rfl)
      | 2, hv, hd => cases hd; exact kW (hcaps.2 2 v _ hv rfl) b3 (hc4.env.kb 23 k3 rfl)
      | 3, hv, hd => cases hd; exact kW (hcaps.2 3 v _ hv rfl) b4 (hc4.env.kb 24 k4 rfl)⟩
     refine vE hc4 (fun a w => Tryz.call72 a w) hcap4 rfl (by (repeat (first | exact trivial | refine ⟨⟨rfl, rfl⟩, ?_⟩))) ⟨.inr rfl, .inr rfl, .inr rfl, .inr rfl, trivial⟩ rfl (by simp) rfl (fun e0 vs0 h1 h2 => kB2 xZ { x with gone := s'.gone } true h1 h2) (fun bs' hb => by subst hb; exact ⟨.inl rfl, .inl rfl, .inl rfl, .inl rfl, trivial⟩) (fun bs' e5 hb hc5 => ?_)
     subst hb
     obtain ⟨v, hr, hv5⟩ := vP jB (fn := Tryz.f40) (d := .tup [wM xZ, jO0 { x with gone := s'.gone }, dB true]) hc5 rfl
     refine ⟨v, hr, v, _, [], e5.cut (jM []) fun _ => false, rfl, rfl, ⟨rfl, .inl ⟨x, s', hm, rfl⟩⟩, uC hc5 trivial, hv5.cut rfl, ⟨hc5.env.kept, hc5.env.cl, fun b k hk => ?_, fun b hb => by cases hb⟩⟩
     cases hk
    ·skip
     obtain ⟨e4, hw4, hc4⟩ := hgh a3 e3 hc3
     show Leaves Tryz.prog Tryz.f40 a3.tmps _ a3.defers (.panicking [pe (jQ4 a)]) e3.w
     rw [hc4.df, ← hw4]
     have hcap4 : DReps e4 caps [.ptr 22 0, .ptr 21 0, .ptr 23 0, .ptr 24 0] := ⟨hcaps.1, fun i v d hv hd => by
      match i, hv, hd with
      | 0, hv, hd => cases hd; exact kW (hcaps.2 0 v _ hv rfl) b2 (hc4.env.kb 22 k2 rfl)
      | 1, hv, hd => cases hd; exact kW (hcaps.2 1 v _ hv rfl) b1 (hc4.env.kb 21 k1 rfl)
      | 2, hv, hd => cases hd; exact kW (hcaps.2 2 v _ hv rfl) b3 (hc4.env.kb 23 k3 rfl)
      | 3, hv, hd => cases hd; exact kW (hcaps.2 3 v _ hv rfl) b4 (hc4.env.kb 24 k4 rfl)⟩
     refine vE hc4 (fun a w => Tryz.call72 a w) hcap4 rfl (by (repeat (first | exact trivial | refine ⟨⟨rfl, rfl⟩, ?_⟩))) ⟨.inr rfl, .inr rfl, .inr rfl, .inr rfl, trivial⟩ rfl (by simp) rfl (fun e0 vs0 h1 h2 => jU2 xZ a _ rfl false h1 h2) (fun bs' hb => by subst hb; exact ⟨.inl rfl, .inl rfl, .inl rfl, .inl rfl, trivial⟩) (fun bs' e5 hb hc5 => ?_)
     subst hb
     obtain ⟨v, hr, hv5⟩ := vP jB (fn := Tryz.f40) (d := .tup [wM a, jY9 jG7, dB false]) hc5 rfl
     refine ⟨v, hr, v, _, [], e5.cut (jM []) fun _ => false, rfl, rfl, ⟨rfl, .inr ⟨a, hm, rfl⟩⟩, uC hc5 trivial, hv5.cut rfl, ⟨hc5.env.kept, hc5.env.cl, fun b k hk => ?_, fun b hb => by cases hb⟩⟩
     cases hk
   ·refine go ?_
    refine vF (hC) rfl (fun a w => Tryz.call41 a w) rfl rfl rfl (by (repeat (first | exact trivial | refine ⟨⟨rfl, rfl⟩, ?_⟩))) (by (repeat (first | exact trivial | refine ⟨.inr rfl, ?_⟩ | refine ⟨.inl rfl, ?_⟩))) rfl rfl rfl rfl ?_ ?_ ?_ ?_
    ·rintro d bs ⟨p, _, _, rfl, rfl⟩; exact ⟨.inl rfl, .inl rfl, .inl rfl, .inl rfl, .inl rfl, .inl rfl, .inl rfl, trivial⟩
    ·rintro v bs ⟨a, s', _, rfl, rfl⟩; exact ⟨.inl rfl, .inl rfl, .inl rfl, .inl rfl, .inl rfl, .inl rfl, .inl rfl, trivial⟩
    ·rintro v bs ⟨a, s', h, rfl, rfl⟩
     refine gP ?_
     exact .inr ⟨a, rfl, h, Ghost.trans (vB 21 rfl rfl) (zX)⟩
    rintro d bs ⟨⟨x, s', ex, k, ps⟩, h, hgm, rfl, rfl⟩
    simp only at h hgm
    have hgm1 := hgm.len
    have hgm2 := hgm.le
    refine go ?_
    refine a_q (jA ((jB7 s'.gone (by omega)).pure) rfl (fun a w => Tryz.call71 a w) rfl) rfl rfl rfl ?_
    refine go ?_
    refine jE 3 [22] rfl rfl (by kernel_rfl) (by kernel_rfl) (by kernel_rfl) ?_
    refine goQ ?_
    refine go ?_
    exact .inl ⟨rfl, x, s', h, Ghost.trans (vB 21 rfl rfl) (zX)⟩
 ·refine goC ?_
  refine a_b (qP 21 rfl rfl rfl rfl) rfl rfl rfl rfl ?_
  refine a_b (jL jB 22 rfl rfl rfl rfl) rfl rfl rfl rfl ?_
  refine a_b (jL jB 23 rfl rfl rfl rfl) rfl rfl rfl rfl ?_
  refine a_b (jL jB 24 rfl rfl rfl rfl) rfl rfl rfl rfl ?_
  exact jD ⟨rfl, rfl⟩
set_option maxHeartbeats 4000000 in
theorem hplay3_i (l : jN) (me : Int) (log : List jS) (op : OpT) (s : PsT) (m : Except AccT (kY × PsT)) (hgs : s.gone.length + log.length ≤ 100000) (hC : ImpX Tryz.prog 41 [40, 53, 54, 55, 56, 57, 58] [.ptr 55 0, .ptr 56 0, .ptr 57 0, .ptr 58 0] (nxB fn3 l me op log s) (OutR (nxB fn3 l me op log) log m s) (PhX (nxB fn3 l me op log) m)) :
  ImpC Tryz.prog 40 [] [.ptr 40 0, .fn (.func 41) [] [.ptr 55 0, .ptr 56 0, .ptr 57 0, .ptr 58 0]] (nxB fn3 l me op log s) (PlayR m) := by
 intro e vs hI hv
 refine calls_of_wp_defers Tryz.func40 rfl ?_
 have hc0 := xV (fn := Tryz.f40) (f := 40) (keep := []) [] (by decide) trivial hI hv rfl
 refine wp_seq (Code.wp_mono (fun ex a1 w1 hh => ?_) (AWP.run (Q := fun ex σ => ex = .normal ∧ σ = ⟨[(6, .ptr 24 0), (5, .ptr 23 0), (4, .ptr 22 0), (2, .ptr 21 0), (0, .ptr 40 0), (1, .fn (.func 41) [] [.ptr 55 0, .ptr 56 0, .ptr 57 0, .ptr 58 0])], (24, [dB false]) :: (23, [dI 0, dB false, dI 0, dI 0, .p (.sl true 0 [])]) :: (22, [dI 0, dI 0, dI 0, dI 0]) :: (21, [.ptr 40 0]) :: nxB fn3 l me op log s, []⟩) ?_ _ e hc0))
 ·obtain ⟨σ1, e1, rfl, hc1, rfl, rfl⟩ := hh
  obtain ⟨k1, _, _, b1, _, _⟩ := hc1.boxes 21 _ rfl
  obtain ⟨k2, _, _, b2, _, _⟩ := hc1.boxes 22 _ rfl
  obtain ⟨k3, _, _, b3, _, _⟩ := hc1.boxes 23 _ rfl
  obtain ⟨k4, _, _, b4, _, _⟩ := hc1.boxes 24 _ rfl
  refine wp_seq (jL0 hc1 rfl rfl rfl rfl rfl rfl rfl rfl [(21, k1), (22, k2), (23, k3), (24, k4)] (fun b k hk => ?_) (fun a2 caps hcaps hc2 => ?_))
  ·simp only [jU] at hk
   split at hk
   ·rename_i q; cases hk; rw [← q]; exact b1
   ·split at hk
    ·rename_i q; cases hk; rw [← q]; exact b2
    ·split at hk
     ·rename_i q; cases hk; rw [← q]; exact b3
     ·split at hk
      ·rename_i q; cases hk; rw [← q]; exact b4
      ·cases hk
  ·refine Code.wp_mono (fun ex a3 w3 hh => ?_) (AWP.run (Γ := ⟨18, e.w, e.cl, fun k => ∃ b, e.bx b = some k, [(21, k1), (22, k2), (23, k3), (24, k4)], [{ target := .fn (.func 72) caps.toArray, args := #[] }]⟩) (Q := HPlayQ m ⟨18, e.w, e.cl, fun k => ∃ b, e.bx b = some k, [(21, k1), (22, k2), (23, k3), (24, k4)], [{ target := .fn (.func 72) caps.toArray, args := #[] }]⟩) ?_ a2 e1 hc2)
   ·obtain ⟨σ3, e3, rfl, hc3, hq⟩ := hh
    rcases hq with ⟨rfl, x, s', hm, hgh⟩ | ⟨a, rfl, hm, hgh⟩
    ·skip
     obtain ⟨e4, hw4, hc4⟩ := hgh a3 e3 hc3
     show Leaves Tryz.prog Tryz.f40 a3.tmps _ a3.defers .returning e3.w
     rw [hc4.df, ← hw4]
     have hcap4 : DReps e4 caps [.ptr 22 0, .ptr 21 0, .ptr 23 0, .ptr 24 0] := ⟨hcaps.1, fun i v d hv hd => by
      match i, hv, hd with
      | 0, hv, hd => cases hd; exact kW (hcaps.2 0 v _ hv rfl) b2 (hc4.env.kb 22 k2 rfl)
      | 1, hv, hd => cases hd; exact kW (hcaps.2 1 v _ hv rfl) b1 (hc4.env.kb 21 k1 rfl)
      | 2, hv, hd => cases hd; exact kW (hcaps.2 2 v _ hv rfl) b3 (hc4.env.kb 23 k3 rfl)
      | 3, hv, hd => cases hd; exact kW (hcaps.2 3 v _ hv rfl) b4 (hc4.env.kb 24 k4 rfl)⟩
     refine vE hc4 (fun a w => Tryz.call72 a w) hcap4 rfl (by (repeat (first | exact trivial | refine ⟨⟨rfl, rfl⟩, ?_⟩))) ⟨.inr rfl, .inr rfl, .inr rfl, .inr rfl, trivial⟩ rfl (by simp) rfl (fun e0 vs0 h1 h2 => kB2 xZ { x with gone := s'.gone } true h1 h2) (fun bs' hb => by subst hb; exact ⟨.inl rfl, .inl rfl, .inl rfl, .inl rfl, trivial⟩) (fun bs' e5 hb hc5 => ?_)
     subst hb
     obtain ⟨v, hr, hv5⟩ := vP jB (fn := Tryz.f40) (d := .tup [wM xZ, jO0 { x with gone := s'.gone }, dB true]) hc5 rfl
     refine ⟨v, hr, v, _, [], e5.cut (jM []) fun _ => false, rfl, rfl, ⟨rfl, .inl ⟨x, s', hm, rfl⟩⟩, uC hc5 trivial, hv5.cut rfl, ⟨hc5.env.kept, hc5.env.cl, fun b k hk => ?_, fun b hb => by cases hb⟩⟩
     cases hk
    ·skip
     obtain ⟨e4, hw4, hc4⟩ := hgh a3 e3 hc3
     show Leaves Tryz.prog Tryz.f40 a3.tmps _ a3.defers (.panicking [pe (jQ4 a)]) e3.w
     rw [hc4.df, ← hw4]
     have hcap4 : DReps e4 caps [.ptr 22 0, .ptr 21 0, .ptr 23 0, .ptr 24 0] := ⟨hcaps.1, fun i v d hv hd => by
      match i, hv, hd with
      | 0, hv, hd => cases hd; exact kW (hcaps.2 0 v _ hv rfl) b2 (hc4.env.kb 22 k2 rfl)
      | 1, hv, hd => cases hd; exact kW (hcaps.2 1 v _ hv rfl) b1 (hc4.env.kb 21 k1 rfl)
      | 2, hv, hd => cases hd; exact kW (hcaps.2 2 v _ hv rfl) b3 (hc4.env.kb 23 k3 rfl)
      | 3, hv, hd => cases hd; exact kW (hcaps.2 3 v _ hv rfl) b4 (hc4.env.kb 24 k4 rfl)⟩
     refine vE hc4 (fun a w => Tryz.call72 a w) hcap4 rfl (by (repeat (first | exact trivial | refine ⟨⟨rfl, rfl⟩, ?_⟩))) ⟨.inr rfl, .inr rfl, .inr rfl, .inr rfl, trivial⟩ rfl (by simp) rfl (fun e0 vs0 h1 h2 => jU2 xZ a _ rfl false h1 h2) (fun bs' hb => by subst hb; exact ⟨.inl rfl, .inl rfl, .inl rfl, .inl rfl, trivial⟩) (fun bs' e5 hb hc5 => ?_)
     subst hb
     obtain ⟨v, hr, hv5⟩ := vP jB (fn := Tryz.f40) (d := .tup [wM a, jY9 jG7, dB false]) hc5 rfl
     refine ⟨v, hr, v, _, [], e5.cut (jM []) fun _ => false, rfl, rfl, ⟨rfl, .inr ⟨a, hm, rfl⟩⟩, uC hc5 trivial, hv5.cut rfl, ⟨hc5.env.kept, hc5.env.cl, fun b k hk => ?_, fun b hb => by cases hb⟩⟩
     cases hk
   ·refine go ?_
    refine vF (hC) rfl (fun a w => Tryz.call41 a w) rfl rfl rfl (by (repeat (first | exact trivial | refine ⟨⟨rfl, rfl⟩, ?_⟩))) (by (repeat (first | exact trivial | refine ⟨.inr rfl, ?_⟩ | refine ⟨.inl rfl, ?_⟩))) rfl rfl rfl rfl ?_ ?_ ?_ ?_
    ·rintro d bs ⟨p, _, _, rfl, rfl⟩; exact ⟨.inl rfl, .inl rfl, .inl rfl, .inl rfl, .inl rfl, .inl rfl, .inl rfl, trivial⟩
    ·rintro v bs ⟨a, s', _, rfl, rfl⟩; exact ⟨.inl rfl, .inl rfl, .inl rfl, .inl rfl, .inl rfl, .inl rfl, .inl rfl, trivial⟩
    ·rintro v bs ⟨a, s', h, rfl, rfl⟩
     refine gP ?_
     exact .inr ⟨a, rfl, h, Ghost.trans (vB 21 rfl rfl) (zX)⟩
    rintro d bs ⟨⟨x, s', ex, k, ps⟩, h, hgm, rfl, rfl⟩
    simp only at h hgm
    have hgm1 := hgm.len
    have hgm2 := hgm.le
    refine go ?_
    refine a_q (jA ((jB7 s'.gone (by omega)).pure) rfl (fun a w => Tryz.call71 a w) rfl) rfl rfl rfl ?_
    refine go ?_
    refine jE 3 [22] rfl rfl (by kernel_rfl) (by kernel_rfl) (by kernel_rfl) ?_
    refine goQ ?_
    refine go ?_
    exact .inl ⟨rfl, x, s', h, Ghost.trans (vB 21 rfl rfl) (zX)⟩
 ·refine goC ?_
  refine a_b (qP 21 rfl rfl rfl rfl) rfl rfl rfl rfl ?_
  refine a_b (jL jB 22 rfl rfl rfl rfl) rfl rfl rfl rfl ?_
  refine a_b (jL jB 23 rfl rfl rfl rfl) rfl rfl rfl rfl ?_
  refine a_b (jL jB 24 rfl rfl rfl rfl) rfl rfl rfl rfl ?_
  exact jD ⟨rfl, rfl⟩
end Go.Proofs.YtkkldicehapklaaGreat
