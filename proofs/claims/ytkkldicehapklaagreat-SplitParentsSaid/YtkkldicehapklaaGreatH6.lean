/- A map's programs are run by their logs: their walks. -/
import Derived.Test.YtkkldicehapklaaGreatH5
import Derived.Test.YtkkldicehapklaaGreatG3
namespace Go.Proofs.YtkkldicehapklaaGreat
open Go.RowKit
set_option maxRecDepth 100000

theorem hplay1_no {e : Env} {vs : List Value} (a : AccT) (o : OutT) (dn : Bool) (hI : InOk (playB a (outC o) dn) e) (hv : DReps e vs [.ptr 22 0, .ptr 21 0, .ptr 23 0, .ptr 24 0]) :
    CallsD Tryz.prog 72 vs.toArray .returning e.w fun r u2 w' => ∃ e' bs', r = .returned (.tuple #[]) ∧ u2 = .returning ∧ e'.w = w' ∧ InOk bs' e' ∧ Left [21, 22, 23, 24] e e' ∧ bs' = playB a (outC o) dn := by
  refine recover_calls (T := tb) Tryz.func72 rfl Tryz.ntmps72 rfl rfl rfl (by (repeat (first | exact trivial | refine ⟨rfl, ?_⟩))) (fun _ _ => rfl) (fun _ => rfl) rfl rfl .no (fun w cl own kf => ?_) hI hv
  refine go ?_
  refine a_q (ifaceNil_step Tryz.underlying20 rfl rfl) rfl rfl rfl ?_
  refine go ?_
  refine finI_normal (playB a (outC o) dn) rfl rfl (by (repeat (first | exact trivial | refine ⟨⟨rfl, rfl⟩, ?_⟩))) (by (repeat (first | exact trivial | refine ⟨rfl, ?_⟩))) rfl
theorem hplay1_yes {e : Env} {vs : List Value} (a a' : AccT) (od : List Dt) (ho : od = [dI 0, dB false, dI 0, dI 0, .p (.sl true 0 [])]) (dn : Bool) (hI : InOk (playB a od dn) e) (hv : DReps e vs [.ptr 22 0, .ptr 21 0, .ptr 23 0, .ptr 24 0]) :
    CallsD Tryz.prog 72 vs.toArray (.panicking [pe (askedH a')]) e.w fun r u2 w' => ∃ e' bs', r = .returned (.tuple #[]) ∧ u2 = .panicking [{ v := askedH a', recovered := true }] ∧ e'.w = w' ∧ InOk bs' e' ∧ Left [21, 22, 23, 24] e e' ∧ bs' = playB a' od dn := by
  subst ho
  refine recover_calls (T := tb) Tryz.func72 rfl Tryz.ntmps72 rfl rfl rfl (by (repeat (first | exact trivial | refine ⟨rfl, ?_⟩))) (fun _ _ => rfl) (fun _ => rfl) rfl rfl (.yes (askedH a')) (fun w cl own kf => ?_) hI hv
  refine go ?_
  refine a_q (ifaceSome_step Tryz.underlying20 rfl rfl) rfl rfl rfl ?_
  refine go ?_
  refine a_q (assert_step tabOk rfl rfl rfl rfl) rfl rfl rfl ?_
  refine go ?_
  refine finI_normal (playB a' _ dn) rfl rfl (by (repeat (first | exact trivial | refine ⟨⟨rfl, rfl⟩, ?_⟩))) (by (repeat (first | exact trivial | refine ⟨rfl, ?_⟩))) rfl
abbrev hendS (a : AccT) (od : List Dt) (dn : Bool) : St := ⟨[(4, .ptr 22 0), (5, .ptr 23 0), (6, .ptr 24 0)], playB a od dn, []⟩
def HPlayQ (m : Except AccT (OutT × PsT)) (Γ : Ctx) : Exit → St → Prop := fun ex σ => (ex = .ret ∧ ∃ x s', m = .ok (x, s') ∧ Ghost Γ σ (hendS acc0 (outC { x with gone := s'.gone }) true)) ∨ ∃ a, ex = .panic [pe (askedH a)] ∧ m = .error a ∧ Ghost Γ σ (hendS acc0 [dI 0, dB false, dI 0, dI 0, .p (.sl true 0 [])] false)


set_option maxHeartbeats 4000000 in
theorem hplay1_i (l : LayT) (me : Int) (log : List ResT) (op : OpT) (s : PsT) (m : Except AccT (OutT × PsT)) (hgs : s.gone.length + log.length ≤ 100000) (hC : ImpX Tryz.prog 41 [40, 53, 54, 55, 56, 57, 58] [.ptr 55 0, .ptr 56 0, .ptr 57 0, .ptr 58 0] (nxB fn1 l me op log s) (OutR (nxB fn1 l me op log) log m s) (PhX (nxB fn1 l me op log) m)) :
    ImpC Tryz.prog 40 [] [.ptr 40 0, .fn (.func 41) [] [.ptr 55 0, .ptr 56 0, .ptr 57 0, .ptr 58 0]] (nxB fn1 l me op log s) (PlayR m) := by
  intro e vs hI hv
  refine calls_of_wp_defers Tryz.func40 rfl ?_
  have hc0 := imp_start (fn := Tryz.f40) (f := 40) (keep := []) [] (by decide) trivial hI hv rfl
  refine wp_seq (Code.wp_mono (fun ex a1 w1 hh => ?_) (AWP.run (Q := fun ex σ => ex = .normal ∧ σ = ⟨[(6, .ptr 24 0), (5, .ptr 23 0), (4, .ptr 22 0), (2, .ptr 21 0), (0, .ptr 40 0), (1, .fn (.func 41) [] [.ptr 55 0, .ptr 56 0, .ptr 57 0, .ptr 58 0])], (24, [dB false]) :: (23, [dI 0, dB false, dI 0, dI 0, .p (.sl true 0 [])]) :: (22, [dI 0, dI 0, dI 0, dI 0]) :: (21, [.ptr 40 0]) :: nxB fn1 l me op log s, []⟩) ?_ _ e hc0))
  · obtain ⟨σ1, e1, rfl, hc1, rfl, rfl⟩ := hh
    obtain ⟨k1, _, _, b1, _, _⟩ := hc1.boxes 21 _ rfl
    obtain ⟨k2, _, _, b2, _, _⟩ := hc1.boxes 22 _ rfl
    obtain ⟨k3, _, _, b3, _, _⟩ := hc1.boxes 23 _ rfl
    obtain ⟨k4, _, _, b4, _, _⟩ := hc1.boxes 24 _ rfl
    refine wp_seq (wp_defer hc1 rfl rfl rfl rfl rfl rfl rfl rfl [(21, k1), (22, k2), (23, k3), (24, k4)] (fun b k hk => ?_) (fun a2 caps hcaps hc2 => ?_))
    · simp only [lk_cons] at hk
      split at hk
      · rename_i q; cases hk; rw [← q]; exact b1
      · split at hk
        · rename_i q; cases hk; rw [← q]; exact b2
        · split at hk
          · rename_i q; cases hk; rw [← q]; exact b3
          · split at hk
            · rename_i q; cases hk; rw [← q]; exact b4
            · cases hk
    · refine Code.wp_mono (fun ex a3 w3 hh => ?_) (AWP.run (Γ := ⟨18, e.w, e.cl, fun k => ∃ b, e.bx b = some k, [(21, k1), (22, k2), (23, k3), (24, k4)], [{ target := .fn (.func 72) caps.toArray, args := #[] }]⟩) (Q := HPlayQ m ⟨18, e.w, e.cl, fun k => ∃ b, e.bx b = some k, [(21, k1), (22, k2), (23, k3), (24, k4)], [{ target := .fn (.func 72) caps.toArray, args := #[] }]⟩) ?_ a2 e1 hc2)
      · obtain ⟨σ3, e3, rfl, hc3, hq⟩ := hh
        rcases hq with ⟨rfl, x, s', hm, hgh⟩ | ⟨a, rfl, hm, hgh⟩
        · skip
          obtain ⟨e4, hw4, hc4⟩ := hgh a3 e3 hc3
          show Leaves Tryz.prog Tryz.f40 a3.tmps _ a3.defers .returning e3.w
          rw [hc4.df, ← hw4]
          have hcap4 : DReps e4 caps [.ptr 22 0, .ptr 21 0, .ptr 23 0, .ptr 24 0] := ⟨hcaps.1, fun i v d hv hd => by
            match i, hv, hd with
            | 0, hv, hd => cases hd; exact ptr_kb (hcaps.2 0 v _ hv rfl) b2 (hc4.env.kb 22 k2 rfl)
            | 1, hv, hd => cases hd; exact ptr_kb (hcaps.2 1 v _ hv rfl) b1 (hc4.env.kb 21 k1 rfl)
            | 2, hv, hd => cases hd; exact ptr_kb (hcaps.2 2 v _ hv rfl) b3 (hc4.env.kb 23 k3 rfl)
            | 3, hv, hd => cases hd; exact ptr_kb (hcaps.2 3 v _ hv rfl) b4 (hc4.env.kb 24 k4 rfl)⟩
          refine leaves_rec hc4 (fun a w => Tryz.call72 a w) hcap4 rfl (by (repeat (first | exact trivial | refine ⟨⟨rfl, rfl⟩, ?_⟩))) ⟨.inr rfl, .inr rfl, .inr rfl, .inr rfl, trivial⟩ rfl (by simp) rfl (fun e0 vs0 h1 h2 => hplay1_no acc0 { x with gone := s'.gone } true h1 h2) (fun bs' hb => by subst hb; exact ⟨.inl rfl, .inl rfl, .inl rfl, .inl rfl, trivial⟩) (fun bs' e5 hb hc5 => ?_)
          subst hb
          obtain ⟨v, hr, hv5⟩ := resI_rep tabOk (fn := Tryz.f40) (d := .tup [dAcc acc0, dOut { x with gone := s'.gone }, dB true]) hc5 rfl
          refine ⟨v, hr, v, _, [], e5.cut (isIn []) fun _ => false, rfl, rfl, ⟨rfl, .inl ⟨x, s', hm, rfl⟩⟩, cut_in hc5 trivial, hv5.cut rfl, ⟨hc5.env.kept, hc5.env.cl, fun b k hk => ?_, fun b hb => by cases hb⟩⟩
          cases hk
        · skip
          obtain ⟨e4, hw4, hc4⟩ := hgh a3 e3 hc3
          show Leaves Tryz.prog Tryz.f40 a3.tmps _ a3.defers (.panicking [pe (askedH a)]) e3.w
          rw [hc4.df, ← hw4]
          have hcap4 : DReps e4 caps [.ptr 22 0, .ptr 21 0, .ptr 23 0, .ptr 24 0] := ⟨hcaps.1, fun i v d hv hd => by
            match i, hv, hd with
            | 0, hv, hd => cases hd; exact ptr_kb (hcaps.2 0 v _ hv rfl) b2 (hc4.env.kb 22 k2 rfl)
            | 1, hv, hd => cases hd; exact ptr_kb (hcaps.2 1 v _ hv rfl) b1 (hc4.env.kb 21 k1 rfl)
            | 2, hv, hd => cases hd; exact ptr_kb (hcaps.2 2 v _ hv rfl) b3 (hc4.env.kb 23 k3 rfl)
            | 3, hv, hd => cases hd; exact ptr_kb (hcaps.2 3 v _ hv rfl) b4 (hc4.env.kb 24 k4 rfl)⟩
          refine leaves_rec hc4 (fun a w => Tryz.call72 a w) hcap4 rfl (by (repeat (first | exact trivial | refine ⟨⟨rfl, rfl⟩, ?_⟩))) ⟨.inr rfl, .inr rfl, .inr rfl, .inr rfl, trivial⟩ rfl (by simp) rfl (fun e0 vs0 h1 h2 => hplay1_yes acc0 a _ rfl false h1 h2) (fun bs' hb => by subst hb; exact ⟨.inl rfl, .inl rfl, .inl rfl, .inl rfl, trivial⟩) (fun bs' e5 hb hc5 => ?_)
          subst hb
          obtain ⟨v, hr, hv5⟩ := resI_rep tabOk (fn := Tryz.f40) (d := .tup [dAcc a, dOut0 out0, dB false]) hc5 rfl
          refine ⟨v, hr, v, _, [], e5.cut (isIn []) fun _ => false, rfl, rfl, ⟨rfl, .inr ⟨a, hm, rfl⟩⟩, cut_in hc5 trivial, hv5.cut rfl, ⟨hc5.env.kept, hc5.env.cl, fun b k hk => ?_, fun b hb => by cases hb⟩⟩
          cases hk
      · refine go ?_
        refine a_callvX (hC) rfl (fun a w => Tryz.call41 a w) rfl rfl rfl (by (repeat (first | exact trivial | refine ⟨⟨rfl, rfl⟩, ?_⟩))) (by (repeat (first | exact trivial | refine ⟨.inr rfl, ?_⟩ | refine ⟨.inl rfl, ?_⟩))) rfl rfl rfl rfl ?_ ?_ ?_ ?_
        · rintro d bs ⟨p, _, _, rfl, rfl⟩; exact ⟨.inl rfl, .inl rfl, .inl rfl, .inl rfl, .inl rfl, .inl rfl, .inl rfl, trivial⟩
        · rintro v bs ⟨a, s', _, rfl, rfl⟩; exact ⟨.inl rfl, .inl rfl, .inl rfl, .inl rfl, .inl rfl, .inl rfl, .inl rfl, trivial⟩
        · rintro v bs ⟨a, s', h, rfl, rfl⟩
          refine gP ?_
          exact .inr ⟨a, rfl, h, Ghost.trans (anyB_ghost 21 rfl rfl) (zX)⟩
        rintro d bs ⟨⟨x, s', ex, k, ps⟩, h, hgm, rfl, rfl⟩
        simp only at h hgm
        have hgm1 := hgm.len
        have hgm2 := hgm.le
        refine go ?_
        refine a_q (call_step ((clone2_f s'.gone (by omega)).pure) rfl (fun a w => Tryz.call71 a w) rfl) rfl rfl rfl ?_
        refine go ?_
        refine awp_region_w 3 [22] rfl rfl (by kernel_rfl) (by kernel_rfl) (by kernel_rfl) ?_
        refine goQ ?_
        refine go ?_
        exact .inl ⟨rfl, x, s', h, Ghost.trans (anyB_ghost 21 rfl rfl) (zX)⟩
  · refine goC ?_
    refine a_b (box_step 21 rfl rfl rfl rfl) rfl rfl rfl rfl ?_
    refine a_b (alloc_step tabOk 22 rfl rfl rfl rfl) rfl rfl rfl rfl ?_
    refine a_b (alloc_step tabOk 23 rfl rfl rfl rfl) rfl rfl rfl rfl ?_
    refine a_b (alloc_step tabOk 24 rfl rfl rfl rfl) rfl rfl rfl rfl ?_
    exact aops_nil ⟨rfl, rfl⟩
set_option maxHeartbeats 4000000 in
theorem hplay2_i (l : LayT) (me : Int) (log : List ResT) (op : OpT) (s : PsT) (m : Except AccT (OutT × PsT)) (hgs : s.gone.length + log.length ≤ 100000) (hC : ImpX Tryz.prog 41 [40, 53, 54, 55, 56, 57, 58] [.ptr 55 0, .ptr 56 0, .ptr 57 0, .ptr 58 0] (nxB fn2 l me op log s) (OutR (nxB fn2 l me op log) log m s) (PhX (nxB fn2 l me op log) m)) :
    ImpC Tryz.prog 40 [] [.ptr 40 0, .fn (.func 41) [] [.ptr 55 0, .ptr 56 0, .ptr 57 0, .ptr 58 0]] (nxB fn2 l me op log s) (PlayR m) := by
  intro e vs hI hv
  refine calls_of_wp_defers Tryz.func40 rfl ?_
  have hc0 := imp_start (fn := Tryz.f40) (f := 40) (keep := []) [] (by decide) trivial hI hv rfl
  refine wp_seq (Code.wp_mono (fun ex a1 w1 hh => ?_) (AWP.run (Q := fun ex σ => ex = .normal ∧ σ = ⟨[(6, .ptr 24 0), (5, .ptr 23 0), (4, .ptr 22 0), (2, .ptr 21 0), (0, .ptr 40 0), (1, .fn (.func 41) [] [.ptr 55 0, .ptr 56 0, .ptr 57 0, .ptr 58 0])], (24, [dB false]) :: (23, [dI 0, dB false, dI 0, dI 0, .p (.sl true 0 [])]) :: (22, [dI 0, dI 0, dI 0, dI 0]) :: (21, [.ptr 40 0]) :: nxB fn2 l me op log s, []⟩) ?_ _ e hc0))
  · obtain ⟨σ1, e1, rfl, hc1, rfl, rfl⟩ := hh
    obtain ⟨k1, _, _, b1, _, _⟩ := hc1.boxes 21 _ rfl
    obtain ⟨k2, _, _, b2, _, _⟩ := hc1.boxes 22 _ rfl
    obtain ⟨k3, _, _, b3, _, _⟩ := hc1.boxes 23 _ rfl
    obtain ⟨k4, _, _, b4, _, _⟩ := hc1.boxes 24 _ rfl
    refine wp_seq (wp_defer hc1 rfl rfl rfl rfl rfl rfl rfl rfl [(21, k1), (22, k2), (23, k3), (24, k4)] (fun b k hk => ?_) (fun a2 caps hcaps hc2 => ?_))
    · simp only [lk_cons] at hk
      split at hk
      · rename_i q; cases hk; rw [← q]; exact b1
      · split at hk
        · rename_i q; cases hk; rw [← q]; exact b2
        · split at hk
          · rename_i q; cases hk; rw [← q]; exact b3
          · split at hk
            · rename_i q; cases hk; rw [← q]; exact b4
            · cases hk
    · refine Code.wp_mono (fun ex a3 w3 hh => ?_) (AWP.run (Γ := ⟨18, e.w, e.cl, fun k => ∃ b, e.bx b = some k, [(21, k1), (22, k2), (23, k3), (24, k4)], [{ target := .fn (.func 72) caps.toArray, args := #[] }]⟩) (Q := HPlayQ m ⟨18, e.w, e.cl, fun k => ∃ b, e.bx b = some k, [(21, k1), (22, k2), (23, k3), (24, k4)], [{ target := .fn (.func 72) caps.toArray, args := #[] }]⟩) ?_ a2 e1 hc2)
      · obtain ⟨σ3, e3, rfl, hc3, hq⟩ := hh
        rcases hq with ⟨rfl, x, s', hm, hgh⟩ | ⟨a, rfl, hm, hgh⟩
        · skip
          obtain ⟨e4, hw4, hc4⟩ := hgh a3 e3 hc3
          show Leaves Tryz.prog Tryz.f40 a3.tmps _ a3.defers .returning e3.w
          rw [hc4.df, ← hw4]
          have hcap4 : DReps e4 caps [.ptr 22 0, .ptr 21 0, .ptr 23 0, .ptr 24 0] := ⟨hcaps.1, fun i v d hv hd => by
            match i, hv, hd with
            | 0, hv, hd => cases hd; exact ptr_kb (hcaps.2 0 v _ hv rfl) b2 (hc4.env.kb 22 k2 rfl)
            | 1, hv, hd => cases hd; exact ptr_kb (hcaps.2 1 v _ hv rfl) b1 (hc4.env.kb 21 k1 rfl)
            | 2, hv, hd => cases hd; exact ptr_kb (hcaps.2 2 v _ hv rfl) b3 (hc4.env.kb 23 k3 rfl)
            | 3, hv, hd => cases hd; exact ptr_kb (hcaps.2 3 v _ hv rfl) b4 (hc4.env.kb 24 k4 rfl)⟩
          refine leaves_rec hc4 (fun a w => Tryz.call72 a w) hcap4 rfl (by (repeat (first | exact trivial | refine ⟨⟨rfl, rfl⟩, ?_⟩))) ⟨.inr rfl, .inr rfl, .inr rfl, .inr rfl, trivial⟩ rfl (by simp) rfl (fun e0 vs0 h1 h2 => hplay1_no acc0 { x with gone := s'.gone } true h1 h2) (fun bs' hb => by subst hb; exact ⟨.inl rfl, .inl rfl, .inl rfl, .inl rfl, trivial⟩) (fun bs' e5 hb hc5 => ?_)
          subst hb
          obtain ⟨v, hr, hv5⟩ := resI_rep tabOk (fn := Tryz.f40) (d := .tup [dAcc acc0, dOut { x with gone := s'.gone }, dB true]) hc5 rfl
          refine ⟨v, hr, v, _, [], e5.cut (isIn []) fun _ => false, rfl, rfl, ⟨rfl, .inl ⟨x, s', hm, rfl⟩⟩, cut_in hc5 trivial, hv5.cut rfl, ⟨hc5.env.kept, hc5.env.cl, fun b k hk => ?_, fun b hb => by cases hb⟩⟩
          cases hk
        · skip
          obtain ⟨e4, hw4, hc4⟩ := hgh a3 e3 hc3
          show Leaves Tryz.prog Tryz.f40 a3.tmps _ a3.defers (.panicking [pe (askedH a)]) e3.w
          rw [hc4.df, ← hw4]
          have hcap4 : DReps e4 caps [.ptr 22 0, .ptr 21 0, .ptr 23 0, .ptr 24 0] := ⟨hcaps.1, fun i v d hv hd => by
            match i, hv, hd with
            | 0, hv, hd => cases hd; exact ptr_kb (hcaps.2 0 v _ hv rfl) b2 (hc4.env.kb 22 k2 rfl)
            | 1, hv, hd => cases hd; exact ptr_kb (hcaps.2 1 v _ hv rfl) b1 (hc4.env.kb 21 k1 rfl)
            | 2, hv, hd => cases hd; exact ptr_kb (hcaps.2 2 v _ hv rfl) b3 (hc4.env.kb 23 k3 rfl)
            | 3, hv, hd => cases hd; exact ptr_kb (hcaps.2 3 v _ hv rfl) b4 (hc4.env.kb 24 k4 rfl)⟩
          refine leaves_rec hc4 (fun a w => Tryz.call72 a w) hcap4 rfl (by (repeat (first | exact trivial | refine ⟨⟨rfl, rfl⟩, ?_⟩))) ⟨.inr rfl, .inr rfl, .inr rfl, .inr rfl, trivial⟩ rfl (by simp) rfl (fun e0 vs0 h1 h2 => hplay1_yes acc0 a _ rfl false h1 h2) (fun bs' hb => by subst hb; exact ⟨.inl rfl, .inl rfl, .inl rfl, .inl rfl, trivial⟩) (fun bs' e5 hb hc5 => ?_)
          subst hb
          obtain ⟨v, hr, hv5⟩ := resI_rep tabOk (fn := Tryz.f40) (d := .tup [dAcc a, dOut0 out0, dB false]) hc5 rfl
          refine ⟨v, hr, v, _, [], e5.cut (isIn []) fun _ => false, rfl, rfl, ⟨rfl, .inr ⟨a, hm, rfl⟩⟩, cut_in hc5 trivial, hv5.cut rfl, ⟨hc5.env.kept, hc5.env.cl, fun b k hk => ?_, fun b hb => by cases hb⟩⟩
          cases hk
      · refine go ?_
        refine a_callvX (hC) rfl (fun a w => Tryz.call41 a w) rfl rfl rfl (by (repeat (first | exact trivial | refine ⟨⟨rfl, rfl⟩, ?_⟩))) (by (repeat (first | exact trivial | refine ⟨.inr rfl, ?_⟩ | refine ⟨.inl rfl, ?_⟩))) rfl rfl rfl rfl ?_ ?_ ?_ ?_
        · rintro d bs ⟨p, _, _, rfl, rfl⟩; exact ⟨.inl rfl, .inl rfl, .inl rfl, .inl rfl, .inl rfl, .inl rfl, .inl rfl, trivial⟩
        · rintro v bs ⟨a, s', _, rfl, rfl⟩; exact ⟨.inl rfl, .inl rfl, .inl rfl, .inl rfl, .inl rfl, .inl rfl, .inl rfl, trivial⟩
        · rintro v bs ⟨a, s', h, rfl, rfl⟩
          refine gP ?_
          exact .inr ⟨a, rfl, h, Ghost.trans (anyB_ghost 21 rfl rfl) (zX)⟩
        rintro d bs ⟨⟨x, s', ex, k, ps⟩, h, hgm, rfl, rfl⟩
        simp only at h hgm
        have hgm1 := hgm.len
        have hgm2 := hgm.le
        refine go ?_
        refine a_q (call_step ((clone2_f s'.gone (by omega)).pure) rfl (fun a w => Tryz.call71 a w) rfl) rfl rfl rfl ?_
        refine go ?_
        refine awp_region_w 3 [22] rfl rfl (by kernel_rfl) (by kernel_rfl) (by kernel_rfl) ?_
        refine goQ ?_
        refine go ?_
        exact .inl ⟨rfl, x, s', h, Ghost.trans (anyB_ghost 21 rfl rfl) (zX)⟩
  · refine goC ?_
    refine a_b (box_step 21 rfl rfl rfl rfl) rfl rfl rfl rfl ?_
    refine a_b (alloc_step tabOk 22 rfl rfl rfl rfl) rfl rfl rfl rfl ?_
    refine a_b (alloc_step tabOk 23 rfl rfl rfl rfl) rfl rfl rfl rfl ?_
    refine a_b (alloc_step tabOk 24 rfl rfl rfl rfl) rfl rfl rfl rfl ?_
    exact aops_nil ⟨rfl, rfl⟩
set_option maxHeartbeats 4000000 in
theorem hplay3_i (l : LayT) (me : Int) (log : List ResT) (op : OpT) (s : PsT) (m : Except AccT (OutT × PsT)) (hgs : s.gone.length + log.length ≤ 100000) (hC : ImpX Tryz.prog 41 [40, 53, 54, 55, 56, 57, 58] [.ptr 55 0, .ptr 56 0, .ptr 57 0, .ptr 58 0] (nxB fn3 l me op log s) (OutR (nxB fn3 l me op log) log m s) (PhX (nxB fn3 l me op log) m)) :
    ImpC Tryz.prog 40 [] [.ptr 40 0, .fn (.func 41) [] [.ptr 55 0, .ptr 56 0, .ptr 57 0, .ptr 58 0]] (nxB fn3 l me op log s) (PlayR m) := by
  intro e vs hI hv
  refine calls_of_wp_defers Tryz.func40 rfl ?_
  have hc0 := imp_start (fn := Tryz.f40) (f := 40) (keep := []) [] (by decide) trivial hI hv rfl
  refine wp_seq (Code.wp_mono (fun ex a1 w1 hh => ?_) (AWP.run (Q := fun ex σ => ex = .normal ∧ σ = ⟨[(6, .ptr 24 0), (5, .ptr 23 0), (4, .ptr 22 0), (2, .ptr 21 0), (0, .ptr 40 0), (1, .fn (.func 41) [] [.ptr 55 0, .ptr 56 0, .ptr 57 0, .ptr 58 0])], (24, [dB false]) :: (23, [dI 0, dB false, dI 0, dI 0, .p (.sl true 0 [])]) :: (22, [dI 0, dI 0, dI 0, dI 0]) :: (21, [.ptr 40 0]) :: nxB fn3 l me op log s, []⟩) ?_ _ e hc0))
  · obtain ⟨σ1, e1, rfl, hc1, rfl, rfl⟩ := hh
    obtain ⟨k1, _, _, b1, _, _⟩ := hc1.boxes 21 _ rfl
    obtain ⟨k2, _, _, b2, _, _⟩ := hc1.boxes 22 _ rfl
    obtain ⟨k3, _, _, b3, _, _⟩ := hc1.boxes 23 _ rfl
    obtain ⟨k4, _, _, b4, _, _⟩ := hc1.boxes 24 _ rfl
    refine wp_seq (wp_defer hc1 rfl rfl rfl rfl rfl rfl rfl rfl [(21, k1), (22, k2), (23, k3), (24, k4)] (fun b k hk => ?_) (fun a2 caps hcaps hc2 => ?_))
    · simp only [lk_cons] at hk
      split at hk
      · rename_i q; cases hk; rw [← q]; exact b1
      · split at hk
        · rename_i q; cases hk; rw [← q]; exact b2
        · split at hk
          · rename_i q; cases hk; rw [← q]; exact b3
          · split at hk
            · rename_i q; cases hk; rw [← q]; exact b4
            · cases hk
    · refine Code.wp_mono (fun ex a3 w3 hh => ?_) (AWP.run (Γ := ⟨18, e.w, e.cl, fun k => ∃ b, e.bx b = some k, [(21, k1), (22, k2), (23, k3), (24, k4)], [{ target := .fn (.func 72) caps.toArray, args := #[] }]⟩) (Q := HPlayQ m ⟨18, e.w, e.cl, fun k => ∃ b, e.bx b = some k, [(21, k1), (22, k2), (23, k3), (24, k4)], [{ target := .fn (.func 72) caps.toArray, args := #[] }]⟩) ?_ a2 e1 hc2)
      · obtain ⟨σ3, e3, rfl, hc3, hq⟩ := hh
        rcases hq with ⟨rfl, x, s', hm, hgh⟩ | ⟨a, rfl, hm, hgh⟩
        · skip
          obtain ⟨e4, hw4, hc4⟩ := hgh a3 e3 hc3
          show Leaves Tryz.prog Tryz.f40 a3.tmps _ a3.defers .returning e3.w
          rw [hc4.df, ← hw4]
          have hcap4 : DReps e4 caps [.ptr 22 0, .ptr 21 0, .ptr 23 0, .ptr 24 0] := ⟨hcaps.1, fun i v d hv hd => by
            match i, hv, hd with
            | 0, hv, hd => cases hd; exact ptr_kb (hcaps.2 0 v _ hv rfl) b2 (hc4.env.kb 22 k2 rfl)
            | 1, hv, hd => cases hd; exact ptr_kb (hcaps.2 1 v _ hv rfl) b1 (hc4.env.kb 21 k1 rfl)
            | 2, hv, hd => cases hd; exact ptr_kb (hcaps.2 2 v _ hv rfl) b3 (hc4.env.kb 23 k3 rfl)
            | 3, hv, hd => cases hd; exact ptr_kb (hcaps.2 3 v _ hv rfl) b4 (hc4.env.kb 24 k4 rfl)⟩
          refine leaves_rec hc4 (fun a w => Tryz.call72 a w) hcap4 rfl (by (repeat (first | exact trivial | refine ⟨⟨rfl, rfl⟩, ?_⟩))) ⟨.inr rfl, .inr rfl, .inr rfl, .inr rfl, trivial⟩ rfl (by simp) rfl (fun e0 vs0 h1 h2 => hplay1_no acc0 { x with gone := s'.gone } true h1 h2) (fun bs' hb => by subst hb; exact ⟨.inl rfl, .inl rfl, .inl rfl, .inl rfl, trivial⟩) (fun bs' e5 hb hc5 => ?_)
          subst hb
          obtain ⟨v, hr, hv5⟩ := resI_rep tabOk (fn := Tryz.f40) (d := .tup [dAcc acc0, dOut { x with gone := s'.gone }, dB true]) hc5 rfl
          refine ⟨v, hr, v, _, [], e5.cut (isIn []) fun _ => false, rfl, rfl, ⟨rfl, .inl ⟨x, s', hm, rfl⟩⟩, cut_in hc5 trivial, hv5.cut rfl, ⟨hc5.env.kept, hc5.env.cl, fun b k hk => ?_, fun b hb => by cases hb⟩⟩
          cases hk
        · skip
          obtain ⟨e4, hw4, hc4⟩ := hgh a3 e3 hc3
          show Leaves Tryz.prog Tryz.f40 a3.tmps _ a3.defers (.panicking [pe (askedH a)]) e3.w
          rw [hc4.df, ← hw4]
          have hcap4 : DReps e4 caps [.ptr 22 0, .ptr 21 0, .ptr 23 0, .ptr 24 0] := ⟨hcaps.1, fun i v d hv hd => by
            match i, hv, hd with
            | 0, hv, hd => cases hd; exact ptr_kb (hcaps.2 0 v _ hv rfl) b2 (hc4.env.kb 22 k2 rfl)
            | 1, hv, hd => cases hd; exact ptr_kb (hcaps.2 1 v _ hv rfl) b1 (hc4.env.kb 21 k1 rfl)
            | 2, hv, hd => cases hd; exact ptr_kb (hcaps.2 2 v _ hv rfl) b3 (hc4.env.kb 23 k3 rfl)
            | 3, hv, hd => cases hd; exact ptr_kb (hcaps.2 3 v _ hv rfl) b4 (hc4.env.kb 24 k4 rfl)⟩
          refine leaves_rec hc4 (fun a w => Tryz.call72 a w) hcap4 rfl (by (repeat (first | exact trivial | refine ⟨⟨rfl, rfl⟩, ?_⟩))) ⟨.inr rfl, .inr rfl, .inr rfl, .inr rfl, trivial⟩ rfl (by simp) rfl (fun e0 vs0 h1 h2 => hplay1_yes acc0 a _ rfl false h1 h2) (fun bs' hb => by subst hb; exact ⟨.inl rfl, .inl rfl, .inl rfl, .inl rfl, trivial⟩) (fun bs' e5 hb hc5 => ?_)
          subst hb
          obtain ⟨v, hr, hv5⟩ := resI_rep tabOk (fn := Tryz.f40) (d := .tup [dAcc a, dOut0 out0, dB false]) hc5 rfl
          refine ⟨v, hr, v, _, [], e5.cut (isIn []) fun _ => false, rfl, rfl, ⟨rfl, .inr ⟨a, hm, rfl⟩⟩, cut_in hc5 trivial, hv5.cut rfl, ⟨hc5.env.kept, hc5.env.cl, fun b k hk => ?_, fun b hb => by cases hb⟩⟩
          cases hk
      · refine go ?_
        refine a_callvX (hC) rfl (fun a w => Tryz.call41 a w) rfl rfl rfl (by (repeat (first | exact trivial | refine ⟨⟨rfl, rfl⟩, ?_⟩))) (by (repeat (first | exact trivial | refine ⟨.inr rfl, ?_⟩ | refine ⟨.inl rfl, ?_⟩))) rfl rfl rfl rfl ?_ ?_ ?_ ?_
        · rintro d bs ⟨p, _, _, rfl, rfl⟩; exact ⟨.inl rfl, .inl rfl, .inl rfl, .inl rfl, .inl rfl, .inl rfl, .inl rfl, trivial⟩
        · rintro v bs ⟨a, s', _, rfl, rfl⟩; exact ⟨.inl rfl, .inl rfl, .inl rfl, .inl rfl, .inl rfl, .inl rfl, .inl rfl, trivial⟩
        · rintro v bs ⟨a, s', h, rfl, rfl⟩
          refine gP ?_
          exact .inr ⟨a, rfl, h, Ghost.trans (anyB_ghost 21 rfl rfl) (zX)⟩
        rintro d bs ⟨⟨x, s', ex, k, ps⟩, h, hgm, rfl, rfl⟩
        simp only at h hgm
        have hgm1 := hgm.len
        have hgm2 := hgm.le
        refine go ?_
        refine a_q (call_step ((clone2_f s'.gone (by omega)).pure) rfl (fun a w => Tryz.call71 a w) rfl) rfl rfl rfl ?_
        refine go ?_
        refine awp_region_w 3 [22] rfl rfl (by kernel_rfl) (by kernel_rfl) (by kernel_rfl) ?_
        refine goQ ?_
        refine go ?_
        exact .inl ⟨rfl, x, s', h, Ghost.trans (anyB_ghost 21 rfl rfl) (zX)⟩
  · refine goC ?_
    refine a_b (box_step 21 rfl rfl rfl rfl) rfl rfl rfl rfl ?_
    refine a_b (alloc_step tabOk 22 rfl rfl rfl rfl) rfl rfl rfl rfl ?_
    refine a_b (alloc_step tabOk 23 rfl rfl rfl rfl) rfl rfl rfl rfl ?_
    refine a_b (alloc_step tabOk 24 rfl rfl rfl rfl) rfl rfl rfl rfl ?_
    exact aops_nil ⟨rfl, rfl⟩
end Go.Proofs.YtkkldicehapklaaGreat
