/- Each operation takes effect at its point: the law's walk. -/
import Derived.Test.YtefagncaepallaaE11
import Derived.Test.YtefagncaepallaaE14
import Derived.Test.YtefagncaepallaaPC
namespace Go.Proofs.Ytefagncaepallaa
open Go.RowKit
set_option maxRecDepth 100000
set_option linter.unusedSimpArgs false

abbrev blsC (l : List Bool) : List Dt := l.map dB
theorem blsC_plain (l : List Bool) : PlainC (blsC l) := by
  intro B G
  induction l with
  | nil => rfl
  | cons a l ih => exact ih
theorem blsC_get {l : List Bool} {i : Int} (h0 : 0 ≤ i) (h1 : i < l.length) : (blsC l)[i.toNat]? = some (dB (isAt l i)) := by
  have : i.toNat < l.length := by omega
  simp [blsC, isAt, this]
theorem blsC_set (l : List Bool) (i : Nat) (v : Bool) : (blsC l).set i (dB v) = blsC (l.set i v) := by simp [blsC]
theorem blsC_zero (n : Nat) : List.replicate n (constLeaf (.bool false)) = blsC (List.replicate n false) := by simp [blsC]; exact .inr rfl
def ptZ (n : Nat) (steps : List StepT) (i : Nat) : PtS := (steps.take i).foldl (ptS steps) (ptZ0 n)
theorem ptZ_next (n : Nat) {steps : List StepT} {i : Nat} {s : StepT} (h : steps[i]? = some s) : ptZ n steps (i + 1) = ptS steps (ptZ n steps i) s := by
  unfold ptZ
  rw [List.take_add_one, h]
  simp [List.foldl_append]
/-- Points as the law looks for them. -/
def ptF (w a : Int) : Nat → List StepT → Nat × Int × Int
  | n, [] => (n, -1, 0)
  | n, s :: l => if s.who = w ∧ s.at_ = a then (if s.done then (n, s.out.point, s.out.err) else ptF w a (n + 1) l) else ptF w a n l
theorem ptF_tell (w a : Int) : ∀ (l : List StepT) (n : Nat), (ptF w a n l).2 = tellF l w a
  | [], n => rfl
  | s :: l, n => by
    unfold ptF
    by_cases h : s.who = w ∧ s.at_ = a
    · rw [if_pos h]
      cases hd : s.done
      · rw [tellF_skip (fun hh => by rw [hd] at hh; cases hh.2.2)]
        simp only [Bool.false_eq_true, if_false]
        exact ptF_tell w a l (n + 1)
      · rw [tellF_here h.1 h.2 hd]; rfl
    · rw [if_neg h, tellF_skip (fun hh => h ⟨hh.1, hh.2.1⟩)]
      exact ptF_tell w a l n
theorem ptF_le (w a : Int) : ∀ (l : List StepT) (n : Nat), n ≤ (ptF w a n l).1 ∧ (ptF w a n l).1 ≤ n + l.length
  | [], n => by simp [ptF]
  | s :: l, n => by
    unfold ptF
    simp only [List.length_cons]
    split
    · split
      · simp only; omega
      · have := ptF_le w a l (n + 1); omega
    · have := ptF_le w a l n; omega
theorem drop_some {l : List StepT} {i : Nat} {s : StepT} (h : l[i]? = some s) : l.drop i = s :: l.drop (i + 1) := by
  obtain ⟨h1, h2⟩ := List.getElem?_eq_some_iff.1 h
  rw [List.drop_eq_getElem_cons h1, h2]
theorem awp_via {P : Program} {Γ : Ctx} {Q : Exit → St → Prop} {c : Code} {σ : St} (x : Exit) (τ : St) (h : AWP P Γ c (fun ex σ' => ex = x ∧ Ghost Γ σ' τ) σ) (k : ∀ σ', Ghost Γ σ' τ → Q x σ') : AWP P Γ c Q σ :=
  awp_mono h fun ex σ' hh => by
    obtain ⟨rfl, hg⟩ := hh
    exact k σ' hg
abbrev stepD (s : StepT) (dn : Bool) : List Dt := [dI s.who, dI s.at_, dI s.op.kind, dI s.op.obj, dI s.op.a, dI s.op.b, dGone s.gone, dI s.acc.kind, dI s.acc.cell, dI s.acc.old, dI s.acc.new, dI s.res.val, dB s.res.ok, dB dn, dI s.out.val, dB s.out.is, dI s.out.err, dI s.out.point, dGone s.out.gone]
set_option maxHeartbeats 8000000 in
theorem listPoints_c (p : PlayT) (hf : PlayFits p) : PureC Try.prog 7 [dPlay p] (dB true) := by
  have hfew := few_c p
  have hpg := fun h => few_play hf h
  refine pure_fin tabOk Try.func7 rfl Try.ntmps7 rfl rfl rfl fun w cl => ?_
  refine go ?_
  refine a_q (call_step (awake_c) rfl (fun a w => Try.call8 a w) rfl) rfl rfl rfl ?_
  refine go ?_
  refine a_q (call_step (hfew) rfl (fun a w => Try.call9 a w) rfl) rfl rfl rfl ?_
  generalize fewF p = fb at *
  refine go ?_
  cases fb
  · refine go ?_
    first | refine fin_ret rfl ?_ | refine fin_normal rfl ?_
    rfl
  · have hp := hpg rfl
    obtain ⟨b1, b2⟩ := points_true hp
    have hw1 := hp.ok.w1
    have hw3 := hp.ok.w3
    have hW := where_c p hw1 (by omega) hp.ok.n0
    have hL : LayOk (layP p) := layP_ok hw1 (by omega)
    have hP := played_c p hp
    have hsz := layP_size p
    have hnd : (layP p).nodes = 2 + p.nodes % 8 := rfl
    have hBg := begin_c (layP p) hL (by omega) (by omega) (by omega) (by omega)
    have hlen := played_len hp
    have htd := fun (i : Nat) (s : StepT) => tell_drop hp (i := i) (s := s)
    generalize layP p = l at *
    generalize playedF p = R at *
    obtain ⟨steps, m, gone, ends⟩ := R
    simp only at b1 b2 hlen htd
    subst b1
    dsimp only [dPlayed] at hP
    generalize beginF l = m0 at *
    refine go ?_
    refine a_q (call_step (hW) rfl (fun a w => Try.call10 a w) rfl) rfl rfl rfl ?_
    refine go ?_
    refine a_q (call_step (hP) rfl (fun a w => Try.call11 a w) rfl) rfl rfl rfl ?_
    refine go ?_
    refine a_q (call_step (hBg) rfl (fun a w => Try.call12 a w) rfl) rfl rfl rfl ?_
    refine go ?_
    refine a_q (call_step (newM_c) rfl (fun a w => Try.call21 a w) rfl) rfl rfl rfl ?_
    refine go ?_
    refine a_b (makeA_step tabOk 300 (c := p.want.length) rfl rfl rfl rfl rfl rfl rfl rfl rfl (by show _ * 8 ≤ _; omega) (by unfold maxLen; omega)) rfl rfl rfl rfl ?_
    rw [show List.replicate p.want.length (constLeaf (Value.int .i64 0)) = intsC (List.replicate p.want.length 0) from intsC_zero _]
    refine go ?_
    refine a_b (makeA_step tabOk 301 (c := p.want.length) rfl rfl rfl rfl rfl rfl rfl rfl rfl (by show _ * 8 ≤ _; omega) (by unfold maxLen; omega)) rfl rfl rfl rfl ?_
    rw [show List.replicate p.want.length (constLeaf (Value.int .i64 0)) = intsC (List.replicate p.want.length 0) from intsC_zero _]
    refine go ?_
    refine a_b (makeA_step tabOk 302 (c := p.want.length) rfl rfl rfl rfl rfl rfl rfl rfl rfl (by show _ * 1 ≤ _; omega) (by unfold maxLen; omega)) rfl rfl rfl rfl ?_
    rw [show List.replicate p.want.length (constLeaf (Value.bool false)) = blsC (List.replicate p.want.length false) from blsC_zero _]
    refine go ?_
    have hplx : ∀ {xs : List Int} (B : Nat → Bool) (G : Nat → Bool), Dt.ok.oks B G (intsC xs) = true := fun B G => intsC_plain _ B G
    have hply : ∀ {xs : List Bool} (B : Nat → Bool) (G : Nat → Bool), Dt.ok.oks B G (blsC xs) = true := fun B G => blsC_plain _ B G
    refine awp_loop_ok (fun i : Nat => i ≤ steps.length) (fun i => ⟨[(14, dI i), (13, .arr 302 0 p.want.length p.want.length), (12, .arr 301 0 p.want.length p.want.length), (11, .arr 300 0 p.want.length p.want.length), (10, .ptr 7 0), (9, .ptr 5 0), (8, dB true), (5, dSteps steps), (4, .ptr 1 0), (3, dB true)], [(302, blsC (ptZ p.want.length steps i).is), (301, intsC (ptZ p.want.length steps i).val), (300, intsC (ptZ p.want.length steps i).own), (7, [dI (ptZ p.want.length steps i).c.kind, dInts (ptZ p.want.length steps i).c.keys, dInts (ptZ p.want.length steps i).c.vals]), (5, [dInts (memZ m0 steps i)]), (1, layD l), (0, playD p), (0, playD p)], []⟩) (fun i => steps.length - i) 0 (by omega) (drop_ghost (by (repeat (first | exact trivial | refine ⟨⟨rfl, rfl⟩, ?_⟩))) (by (repeat (first | exact trivial | refine ⟨⟨rfl, rfl⟩, ?_⟩ | refine ⟨⟨rfl, hplx _ _⟩, ?_⟩ | refine ⟨⟨rfl, hply _ _⟩, ?_⟩))) (by (repeat (first | exact trivial | refine ⟨rfl, ?_⟩))) (by (repeat (first | exact trivial | refine ⟨rfl, ?_⟩)))) ?_
    intro i hi
    refine go ?_
    generalize h1 : decide ((i : Int) < (steps.length : Int)) = cc; cases cc
    · refine go ?_
      first | refine fin_ret rfl ?_ | refine fin_normal rfl ?_
      rfl
    · have h1' : i < steps.length := by have := of_decide_eq_true h1; omega
      obtain ⟨s, hs⟩ := getI (l := steps) (i := i) (by omega) (by omega)
      have hs' := hs
      simp only [Int.toNat_natCast] at hs'
      have hnx := ptZ_next p.want.length hs'
      have hnm := memZ_next m0 hs'
      have hok := b2 i s hs'
      rw [show (steps.take i).foldl memS m0 = memZ m0 steps i from rfl, show (steps.take i).foldl (ptS steps) (ptZ0 p.want.length) = ptZ p.want.length steps i from rfl] at hok
      generalize memZ m0 steps i = mi at *
      generalize ptZ p.want.length steps i = z at *
      obtain ⟨k1, k2, k3, k4, k5, k6, k7, k8, k9, k10, k11, k12, k13⟩ := hok
      have hgo := intsC_get (l := z.own) k1 (by omega)
      have hgv := intsC_get (l := z.val) k1 (by omega)
      have hgi := blsC_get (l := z.is) k1 (by omega)
      refine go ?_
      refine a_q (indexAddr_step tabOk (pStep s) rfl rfl rfl rfl rfl rfl (by first | omega | (simp; done) | (simp; omega)) (by first | omega | (simp; done) | (simp; omega)) (by first | (simp; done) | exact List.cons_ne_nil _ _) (steps_idx hs)) rfl rfl rfl ?_
      refine go ?_
      rw [show decide (s.who < 0) = false by rw [decide_eq_false_iff_not]; omega]
      refine go ?_
      rw [show decide (s.who ≥ (p.want.length : Int)) = false by rw [decide_eq_false_iff_not]; omega]
      refine go ?_
      generalize h2 : s.done = cc; cases cc
      · have hM := memDo_c mi s.acc (by omega)
        unfold memDoF at hM
        obtain ⟨j1, j2, j3⟩ := k7 h2
        rw [if_pos j1] at hM
        dsimp only at hM
        have hmS : memS mi s = (turnF mi s.acc).1 := by unfold memS; rw [h2]; rfl
        have htl := (ptF_tell s.who s.at_ (steps.drop i) 0).trans (htd i s hs').symm
        have hE1 : 1 ≤ (ptF s.who s.at_ 0 (steps.drop i)).1 ∧ (ptF s.who s.at_ 0 (steps.drop i)).1 ≤ steps.length := by
          have e1 := drop_some hs'
          have e2 := ptF_le s.who s.at_ (steps.drop (i + 1)) 1
          have e3 : ptF s.who s.at_ 0 (steps.drop i) = ptF s.who s.at_ 1 (steps.drop (i + 1)) := by
            rw [e1, ptF, if_pos ⟨rfl, rfl⟩, if_neg (by simp [h2])]
          rw [e3]
          rw [List.length_drop] at e2
          omega
        refine go ?_
        refine a_q (call_step (hM) rfl (fun a w => Try.call13 a w) rfl) rfl rfl rfl ?_
        refine go ?_
        rw [show decide ((0 : Int) = 0) = true from rfl]
        refine go ?_
        refine awp_via (.exit 2) ⟨[(21, dI (tellF steps s.who s.at_).1), (20, dB (!(decide ((tellF steps s.who s.at_).2 = 0)))), (19, dI (ptF s.who s.at_ 0 (steps.drop i)).1), (15, .ptr 8 0), (14, dI i), (13, .arr 302 0 p.want.length p.want.length), (12, .arr 301 0 p.want.length p.want.length), (11, .arr 300 0 p.want.length p.want.length), (10, .ptr 7 0), (9, .ptr 5 0), (8, dB true), (5, dSteps steps), (4, .ptr 1 0), (3, dB true)], [(5, [dInts (turnF mi s.acc).1]), (8, stepD s false), (302, blsC z.is), (301, intsC z.val), (300, intsC z.own), (7, [dI z.c.kind, dInts z.c.keys, dInts z.c.vals]), (1, layD l), (0, playD p), (0, playD p)], []⟩ ?_ (fun σ' hgh => ?_)
        · rw [← htl]
          refine awp_loop_ok (fun q : Nat × Nat => q.1 ≤ steps.length ∧ q.2 ≤ q.1 ∧ ptF s.who s.at_ q.2 (steps.drop q.1) = ptF s.who s.at_ 0 (steps.drop i)) (fun q => ⟨[(22, dI q.1), (21, dI (-1)), (20, dB false), (19, dI q.2), (15, .ptr 8 0), (14, dI i), (13, .arr 302 0 p.want.length p.want.length), (12, .arr 301 0 p.want.length p.want.length), (11, .arr 300 0 p.want.length p.want.length), (10, .ptr 7 0), (9, .ptr 5 0), (8, dB true), (5, dSteps steps), (4, .ptr 1 0), (3, dB true)], [(5, [dInts (turnF mi s.acc).1]), (8, stepD s false), (302, blsC z.is), (301, intsC z.val), (300, intsC z.own), (7, [dI z.c.kind, dInts z.c.keys, dInts z.c.vals]), (1, layD l), (0, playD p), (0, playD p)], []⟩) (fun q => steps.length - q.1) (i, 0) ⟨by simp only; omega, Nat.zero_le _, rfl⟩ (drop_ghost (by (repeat (first | exact trivial | refine ⟨⟨rfl, rfl⟩, ?_⟩))) (by (repeat (first | exact trivial | refine ⟨⟨rfl, rfl⟩, ?_⟩ | refine ⟨⟨rfl, hplx _ _⟩, ?_⟩ | refine ⟨⟨rfl, hply _ _⟩, ?_⟩))) (by (repeat (first | exact trivial | refine ⟨rfl, ?_⟩))) (by (repeat (first | exact trivial | refine ⟨rfl, ?_⟩)))) ?_
          rintro ⟨k, n⟩ ⟨hk, hn, he⟩
          simp only at hk hn he
          refine (show AWP _ _ _ _ ⟨[(22, dI k), (21, dI (-1)), (20, dB false), (19, dI n), (15, .ptr 8 0), (14, dI i), (13, .arr 302 0 p.want.length p.want.length), (12, .arr 301 0 p.want.length p.want.length), (11, .arr 300 0 p.want.length p.want.length), (10, .ptr 7 0), (9, .ptr 5 0), (8, dB true), (5, dSteps steps), (4, .ptr 1 0), (3, dB true)], [(5, [dInts (turnF mi s.acc).1]), (8, stepD s false), (302, blsC z.is), (301, intsC z.val), (300, intsC z.own), (7, [dI z.c.kind, dInts z.c.keys, dInts z.c.vals]), (1, layD l), (0, playD p), (0, playD p)], []⟩ from ?_)
          refine go ?_
          refine ck_b (fun h5 => ?_) (fun h5 => ?_) <;> try rw [h5]
          · have h5' : k < steps.length := by have := of_decide_eq_true h5; omega
            obtain ⟨t, ht⟩ := getI (l := steps) (i := k) (by omega) (by omega)
            have ht' := ht
            simp only [Int.toNat_natCast] at ht'
            rw [drop_some ht', ptF] at he
            refine go ?_
            refine awp_region_q [] rfl (by kernel_rfl) (by kernel_rfl) ?_
            refine goQ ?_
            refine r_q (indexAddr_step tabOk (pStep t) rfl rfl rfl rfl rfl rfl (by first | omega | (simp; done) | (simp; omega)) (by first | omega | (simp; done) | (simp; omega)) (by first | (simp; done) | exact List.cons_ne_nil _ _) (steps_idx ht)) rfl rfl ?_
            refine goQ ?_
            generalize h6 : decide (t.who = s.who) = cc; cases cc
            · rw [if_neg (fun hh => of_decide_eq_false h6 hh.1)] at he
              refine goQ ?_
              refine go ?_
              exact ⟨(k + 1, n), ⟨by simp only; omega, by simp only; omega, he⟩, by simp only; omega, drop_ghost (by (repeat (first | exact trivial | refine ⟨⟨rfl, rfl⟩, ?_⟩))) (by (repeat (first | exact trivial | refine ⟨⟨rfl, rfl⟩, ?_⟩ | refine ⟨⟨rfl, hplx _ _⟩, ?_⟩ | refine ⟨⟨rfl, hply _ _⟩, ?_⟩))) (by (repeat (first | exact trivial | refine ⟨rfl, ?_⟩))) (by (repeat (first | exact trivial | refine ⟨rfl, ?_⟩)))⟩
            · refine goQ ?_
              refine r_q (indexAddr_step tabOk (pStep t) rfl rfl rfl rfl rfl rfl (by first | omega | (simp; done) | (simp; omega)) (by first | omega | (simp; done) | (simp; omega)) (by first | (simp; done) | exact List.cons_ne_nil _ _) (steps_idx ht)) rfl rfl ?_
              refine goQ ?_
              generalize h7 : decide (t.at_ = s.at_) = cc; cases cc
              · rw [if_neg (fun hh => of_decide_eq_false h7 hh.2)] at he
                refine goQ ?_
                refine go ?_
                exact ⟨(k + 1, n), ⟨by simp only; omega, by simp only; omega, he⟩, by simp only; omega, drop_ghost (by (repeat (first | exact trivial | refine ⟨⟨rfl, rfl⟩, ?_⟩))) (by (repeat (first | exact trivial | refine ⟨⟨rfl, rfl⟩, ?_⟩ | refine ⟨⟨rfl, hplx _ _⟩, ?_⟩ | refine ⟨⟨rfl, hply _ _⟩, ?_⟩))) (by (repeat (first | exact trivial | refine ⟨rfl, ?_⟩))) (by (repeat (first | exact trivial | refine ⟨rfl, ?_⟩)))⟩
              · rw [if_pos ⟨of_decide_eq_true h6, of_decide_eq_true h7⟩] at he
                refine goQ ?_
                refine go ?_
                refine a_q (indexAddr_step tabOk (pStep t) rfl rfl rfl rfl rfl rfl (by first | omega | (simp; done) | (simp; omega)) (by first | omega | (simp; done) | (simp; omega)) (by first | (simp; done) | exact List.cons_ne_nil _ _) (steps_idx ht)) rfl rfl rfl ?_
                refine go ?_
                generalize h8 : t.done = cc; cases cc
                · rw [if_neg (by simp [h8])] at he
                  refine go ?_
                  exact ⟨(k + 1, n + 1), ⟨by simp only; omega, by simp only; omega, he⟩, by simp only; omega, drop_ghost (by (repeat (first | exact trivial | refine ⟨⟨rfl, rfl⟩, ?_⟩))) (by (repeat (first | exact trivial | refine ⟨⟨rfl, rfl⟩, ?_⟩ | refine ⟨⟨rfl, hplx _ _⟩, ?_⟩ | refine ⟨⟨rfl, hply _ _⟩, ?_⟩))) (by (repeat (first | exact trivial | refine ⟨rfl, ?_⟩))) (by (repeat (first | exact trivial | refine ⟨rfl, ?_⟩)))⟩
                · rw [if_pos h8] at he
                  refine go ?_
                  refine a_q (indexAddr_step tabOk (pStep t) rfl rfl rfl rfl rfl rfl (by first | omega | (simp; done) | (simp; omega)) (by first | omega | (simp; done) | (simp; omega)) (by first | (simp; done) | exact List.cons_ne_nil _ _) (steps_idx ht)) rfl rfl rfl ?_
                  refine go ?_
                  refine a_q (indexAddr_step tabOk (pStep t) rfl rfl rfl rfl rfl rfl (by first | omega | (simp; done) | (simp; omega)) (by first | omega | (simp; done) | (simp; omega)) (by first | (simp; done) | exact List.cons_ne_nil _ _) (steps_idx ht)) rfl rfl rfl ?_
                  refine go ?_
                  rw [← he]
                  exact ⟨rfl, drop_ghost (by (repeat (first | exact trivial | refine ⟨⟨rfl, rfl⟩, ?_⟩))) (by (repeat (first | exact trivial | refine ⟨⟨rfl, rfl⟩, ?_⟩ | refine ⟨⟨rfl, hplx _ _⟩, ?_⟩ | refine ⟨⟨rfl, hply _ _⟩, ?_⟩))) (by (repeat (first | exact trivial | refine ⟨rfl, ?_⟩))) (by (repeat (first | exact trivial | refine ⟨rfl, ?_⟩)))⟩
          · have h5' : k = steps.length := by have := of_decide_eq_false h5; omega
            rw [h5', List.drop_length, ptF] at he
            refine go ?_
            rw [← he]
            exact ⟨rfl, drop_ghost (by (repeat (first | exact trivial | refine ⟨⟨rfl, rfl⟩, ?_⟩))) (by (repeat (first | exact trivial | refine ⟨⟨rfl, rfl⟩, ?_⟩ | refine ⟨⟨rfl, hplx _ _⟩, ?_⟩ | refine ⟨⟨rfl, hply _ _⟩, ?_⟩))) (by (repeat (first | exact trivial | refine ⟨rfl, ?_⟩))) (by (repeat (first | exact trivial | refine ⟨rfl, ?_⟩)))⟩
        refine q_block_exit ?_
        refine q_then_normal ?_
        refine awp_ghost hgh ?_
        generalize (ptF s.who s.at_ 0 (steps.drop i)).1 = N1 at *
        refine go ?_
        refine a_q (indexAddrA_step (p := s.who.toNat) tabOk rfl rfl rfl rfl rfl (by omega) (by omega) (by show s.who.toNat = s.who.toNat * 1; omega)) rfl rfl rfl ?_
        refine a_q (loadAt_step tabOk rfl rfl rfl rfl rfl hgo) rfl rfl rfl ?_
        refine go ?_
        generalize h3 : decide ((tellF steps s.who s.at_).1 = cellAt z.own s.who) = cc; cases cc
        · have h3' := of_decide_eq_false h3
          have hZ := ptS_quiet (steps := steps) (z := z) h2 (.inl h3')
          have hRow := row_c l hL (memS mi s) l.map
          rw [j2, hZ, hmS] at hRow
          refine go ?_
          refine awp_region_w 10 [] rfl rfl (by kernel_rfl) (by kernel_rfl) (by kernel_rfl) ?_
          refine goQ ?_
          refine r_q (indexAddrA_step (p := s.who.toNat) tabOk rfl rfl rfl rfl rfl (by omega) (by omega) (by show s.who.toNat = s.who.toNat * 1; omega)) rfl rfl ?_
          refine goQ ?_
          refine r_q (loadAt_step tabOk rfl rfl rfl rfl rfl hgo) rfl rfl ?_
          refine goQ ?_
          refine r_q (indexAddrA_step (p := s.who.toNat) tabOk rfl rfl rfl rfl rfl (by omega) (by omega) (by show s.who.toNat = s.who.toNat * 1; omega)) rfl rfl ?_
          refine goQ ?_
          refine a_storeAt (of := s.who.toNat) (cs := intsC z.own) tabOk rfl rfl rfl rfl rfl rfl rfl rfl rfl (by rw [List.length_map]; omega) ?_
          rw [intsC_set]
          refine go ?_
          refine awp_region_q [] rfl (by kernel_rfl) (by kernel_rfl) ?_
          refine goQ ?_
          refine r_q (call_step (hRow) rfl (fun a w => Try.call19 a w) rfl) rfl rfl ?_
          refine goQ ?_
          refine r_q (call_step (map_c z.c (by omega) (by omega)) rfl (fun a w => Try.call24 a w) rfl) rfl rfl ?_
          refine goQ ?_
          refine r_q (call_step (pairs_c (mapC z.c) (mapC z.c) (by have := mapC_len z.c; omega) (by have := mapC_len z.c; omega)) rfl (fun a w => Try.call23 a w) rfl) rfl rfl ?_
          refine goQ ?_
          refine go ?_
          rw [show decide (mapC z.c = mapC z.c) = true from decide_eq_true rfl]
          refine go ?_
          refine ⟨i + 1, by omega, by omega, ?_⟩
          rw [hnx, hnm, hZ, hmS]
          exact drop_ghost (by (repeat (first | exact trivial | refine ⟨⟨rfl, rfl⟩, ?_⟩))) (by (repeat (first | exact trivial | refine ⟨⟨rfl, rfl⟩, ?_⟩ | refine ⟨⟨rfl, hplx _ _⟩, ?_⟩ | refine ⟨⟨rfl, hply _ _⟩, ?_⟩))) (by (repeat (first | exact trivial | refine ⟨rfl, ?_⟩))) (by (repeat (first | exact trivial | refine ⟨rfl, ?_⟩)))
        · have h3' := of_decide_eq_true h3
          refine go ?_
          generalize h4 : decide ((tellF steps s.who s.at_).2 = 0) = cc; cases cc
          · have h4' := of_decide_eq_false h4
            have hZ := ptS_quiet (steps := steps) (z := z) h2 (.inr h4')
            have hRow := row_c l hL (memS mi s) l.map
            rw [j2, hZ, hmS] at hRow
            refine go ?_
            refine awp_region_w 10 [] rfl rfl (by kernel_rfl) (by kernel_rfl) (by kernel_rfl) ?_
            refine goQ ?_
            refine r_q (indexAddrA_step (p := s.who.toNat) tabOk rfl rfl rfl rfl rfl (by omega) (by omega) (by show s.who.toNat = s.who.toNat * 1; omega)) rfl rfl ?_
            refine goQ ?_
            refine r_q (loadAt_step tabOk rfl rfl rfl rfl rfl hgo) rfl rfl ?_
            refine goQ ?_
            refine r_q (indexAddrA_step (p := s.who.toNat) tabOk rfl rfl rfl rfl rfl (by omega) (by omega) (by show s.who.toNat = s.who.toNat * 1; omega)) rfl rfl ?_
            refine goQ ?_
            refine a_storeAt (of := s.who.toNat) (cs := intsC z.own) tabOk rfl rfl rfl rfl rfl rfl rfl rfl rfl (by rw [List.length_map]; omega) ?_
            rw [intsC_set]
            refine go ?_
            refine awp_region_q [] rfl (by kernel_rfl) (by kernel_rfl) ?_
            refine goQ ?_
            refine r_q (call_step (hRow) rfl (fun a w => Try.call19 a w) rfl) rfl rfl ?_
            refine goQ ?_
            refine r_q (call_step (map_c z.c (by omega) (by omega)) rfl (fun a w => Try.call24 a w) rfl) rfl rfl ?_
            refine goQ ?_
            refine r_q (call_step (pairs_c (mapC z.c) (mapC z.c) (by have := mapC_len z.c; omega) (by have := mapC_len z.c; omega)) rfl (fun a w => Try.call23 a w) rfl) rfl rfl ?_
            refine goQ ?_
            refine go ?_
            rw [show decide (mapC z.c = mapC z.c) = true from decide_eq_true rfl]
            refine go ?_
            refine ⟨i + 1, by omega, by omega, ?_⟩
            rw [hnx, hnm, hZ, hmS]
            exact drop_ghost (by (repeat (first | exact trivial | refine ⟨⟨rfl, rfl⟩, ?_⟩))) (by (repeat (first | exact trivial | refine ⟨⟨rfl, rfl⟩, ?_⟩ | refine ⟨⟨rfl, hplx _ _⟩, ?_⟩ | refine ⟨⟨rfl, hply _ _⟩, ?_⟩))) (by (repeat (first | exact trivial | refine ⟨rfl, ?_⟩))) (by (repeat (first | exact trivial | refine ⟨rfl, ?_⟩)))
          · have h4' := of_decide_eq_true h4
            have hZ := ptS_eff (steps := steps) (z := z) h2 h3' h4'
            have hRow := row_c l hL (memS mi s) l.map
            rw [j2, hZ, hmS] at hRow
            have hDo := doM_c z.c s.op ⟨by omega, by omega⟩ k12 k13 k9
            have hcl := specS_len z.c s.op
            generalize specS z.c s.op = r at *
            obtain ⟨c', v', b'⟩ := r
            dsimp only at hZ hRow hDo hcl
            refine go ?_
            rw [show decide ((N1 : Int) > 0) = true by rw [decide_eq_true_eq]; omega]
            refine go ?_
            refine a_q (call_step (hDo) rfl (fun a w => Try.call22 a w) rfl) rfl rfl rfl ?_
            refine go ?_
            refine a_q (indexAddrA_step (p := s.who.toNat) tabOk rfl rfl rfl rfl rfl (by omega) (by omega) (by show s.who.toNat = s.who.toNat * 1; omega)) rfl rfl rfl ?_
            refine a_storeAt (of := s.who.toNat) (cs := intsC z.val) tabOk rfl rfl rfl rfl rfl rfl rfl rfl rfl (by rw [List.length_map]; omega) ?_
            rw [intsC_set]
            refine go ?_
            refine a_q (indexAddrA_step (p := s.who.toNat) tabOk rfl rfl rfl rfl rfl (by omega) (by omega) (by show s.who.toNat = s.who.toNat * 1; omega)) rfl rfl rfl ?_
            refine a_storeAt (of := s.who.toNat) (cs := blsC z.is) tabOk rfl rfl rfl rfl rfl rfl rfl rfl rfl (by rw [List.length_map]; omega) ?_
            rw [blsC_set]
            refine go ?_
            refine awp_region_w 10 [] rfl rfl (by kernel_rfl) (by kernel_rfl) (by kernel_rfl) ?_
            refine goQ ?_
            refine r_q (indexAddrA_step (p := s.who.toNat) tabOk rfl rfl rfl rfl rfl (by omega) (by omega) (by show s.who.toNat = s.who.toNat * 1; omega)) rfl rfl ?_
            refine goQ ?_
            refine r_q (loadAt_step tabOk rfl rfl rfl rfl rfl hgo) rfl rfl ?_
            refine goQ ?_
            refine r_q (indexAddrA_step (p := s.who.toNat) tabOk rfl rfl rfl rfl rfl (by omega) (by omega) (by show s.who.toNat = s.who.toNat * 1; omega)) rfl rfl ?_
            refine goQ ?_
            refine a_storeAt (of := s.who.toNat) (cs := intsC z.own) tabOk rfl rfl rfl rfl rfl rfl rfl rfl rfl (by rw [List.length_map]; omega) ?_
            rw [intsC_set]
            refine go ?_
            refine awp_region_q [] rfl (by kernel_rfl) (by kernel_rfl) ?_
            refine goQ ?_
            refine r_q (call_step (hRow) rfl (fun a w => Try.call19 a w) rfl) rfl rfl ?_
            refine goQ ?_
            refine r_q (call_step (map_c c' (by omega) (by omega)) rfl (fun a w => Try.call24 a w) rfl) rfl rfl ?_
            refine goQ ?_
            refine r_q (call_step (pairs_c (mapC c') (mapC c') (by have := mapC_len c'; omega) (by have := mapC_len c'; omega)) rfl (fun a w => Try.call23 a w) rfl) rfl rfl ?_
            refine goQ ?_
            refine go ?_
            rw [show decide (mapC c' = mapC c') = true from decide_eq_true rfl]
            refine go ?_
            refine ⟨i + 1, by omega, by omega, ?_⟩
            rw [hnx, hnm, hZ, hmS]
            exact drop_ghost (by (repeat (first | exact trivial | refine ⟨⟨rfl, rfl⟩, ?_⟩))) (by (repeat (first | exact trivial | refine ⟨⟨rfl, rfl⟩, ?_⟩ | refine ⟨⟨rfl, hplx _ _⟩, ?_⟩ | refine ⟨⟨rfl, hply _ _⟩, ?_⟩))) (by (repeat (first | exact trivial | refine ⟨rfl, ?_⟩))) (by (repeat (first | exact trivial | refine ⟨rfl, ?_⟩)))
      · obtain ⟨j1, j2, j3, j4⟩ := k6 h2
        have hZ := ptS_done (steps := steps) (z := z) h2
        have hmS : memS mi s = mi := by unfold memS; rw [if_pos h2]
        by_cases h3 : s.out.err = 0
        · obtain ⟨j5, j6⟩ := j1 h3
          refine go ?_
          refine awp_region_q [] rfl (by kernel_rfl) (by kernel_rfl) ?_
          refine goQ ?_
          rw [show decide (s.out.err = 0) = true from decide_eq_true h3]
          refine goQ ?_
          refine r_q (indexAddrA_step (p := s.who.toNat) tabOk rfl rfl rfl rfl rfl (by omega) (by omega) (by show s.who.toNat = s.who.toNat * 1; omega)) rfl rfl ?_
          refine goQ ?_
          refine r_q (loadAt_step tabOk rfl rfl rfl rfl rfl hgi) rfl rfl ?_
          refine goQ ?_
          rw [show (!(s.out.is == isAt z.is s.who)) = false by rw [j5]; simp]
          refine goQ ?_
          refine r_q (indexAddrA_step (p := s.who.toNat) tabOk rfl rfl rfl rfl rfl (by omega) (by omega) (by show s.who.toNat = s.who.toNat * 1; omega)) rfl rfl ?_
          refine goQ ?_
          refine r_q (loadAt_step tabOk rfl rfl rfl rfl rfl hgv) rfl rfl ?_
          refine goQ ?_
          rw [show decide (s.out.val = cellAt z.val s.who) = true from decide_eq_true j6]
          refine goQ ?_
          rw [show decide (s.out.err = 0) = true from decide_eq_true h3]
          refine goQ ?_
          rw [show decide (s.out.point < 0) = false by rw [decide_eq_false_iff_not]; omega]
          refine goQ ?_
          refine r_q (indexAddrA_step (p := s.who.toNat) tabOk rfl rfl rfl rfl rfl (by omega) (by omega) (by show s.who.toNat = s.who.toNat * 1; omega)) rfl rfl ?_
          refine goQ ?_
          refine r_q (loadAt_step tabOk rfl rfl rfl rfl rfl hgo) rfl rfl ?_
          refine goQ ?_
          refine go ?_
          rw [show decide (s.out.point ≥ cellAt z.own s.who) = false by rw [decide_eq_false_iff_not]; omega]
          refine go ?_
          refine a_q (indexAddrA_step (p := s.who.toNat) tabOk rfl rfl rfl rfl rfl (by omega) (by omega) (by show s.who.toNat = s.who.toNat * 1; omega)) rfl rfl rfl ?_
          refine a_storeAt (of := s.who.toNat) (cs := intsC z.own) tabOk rfl rfl rfl rfl rfl rfl rfl rfl rfl (by rw [List.length_map]; omega) ?_
          rw [intsC_set]
          refine go ?_
          refine ⟨i + 1, by omega, by omega, ?_⟩
          rw [hnx, hnm, hZ, hmS]
          exact drop_ghost (by (repeat (first | exact trivial | refine ⟨⟨rfl, rfl⟩, ?_⟩))) (by (repeat (first | exact trivial | refine ⟨⟨rfl, rfl⟩, ?_⟩ | refine ⟨⟨rfl, hplx _ _⟩, ?_⟩ | refine ⟨⟨rfl, hply _ _⟩, ?_⟩))) (by (repeat (first | exact trivial | refine ⟨rfl, ?_⟩))) (by (repeat (first | exact trivial | refine ⟨rfl, ?_⟩)))
        · obtain ⟨j5, j6⟩ := j2 h3
          refine go ?_
          refine awp_region_q [] rfl (by kernel_rfl) (by kernel_rfl) ?_
          refine goQ ?_
          rw [show decide (s.out.err = 0) = false from decide_eq_false h3]
          refine goQ ?_
          rw [show decide (s.out.err = 0) = false from decide_eq_false h3]
          refine goQ ?_
          rw [show decide (s.out.err = 8) = true from decide_eq_true j5]
          refine goQ ?_
          rw [j6]
          refine goQ ?_
          rw [show decide (s.out.point < 0) = false by rw [decide_eq_false_iff_not]; omega]
          refine goQ ?_
          refine r_q (indexAddrA_step (p := s.who.toNat) tabOk rfl rfl rfl rfl rfl (by omega) (by omega) (by show s.who.toNat = s.who.toNat * 1; omega)) rfl rfl ?_
          refine goQ ?_
          refine r_q (loadAt_step tabOk rfl rfl rfl rfl rfl hgo) rfl rfl ?_
          refine goQ ?_
          refine go ?_
          rw [show decide (s.out.point ≥ cellAt z.own s.who) = false by rw [decide_eq_false_iff_not]; omega]
          refine go ?_
          refine a_q (indexAddrA_step (p := s.who.toNat) tabOk rfl rfl rfl rfl rfl (by omega) (by omega) (by show s.who.toNat = s.who.toNat * 1; omega)) rfl rfl rfl ?_
          refine a_storeAt (of := s.who.toNat) (cs := intsC z.own) tabOk rfl rfl rfl rfl rfl rfl rfl rfl rfl (by rw [List.length_map]; omega) ?_
          rw [intsC_set]
          refine go ?_
          refine ⟨i + 1, by omega, by omega, ?_⟩
          rw [hnx, hnm, hZ, hmS]
          exact drop_ghost (by (repeat (first | exact trivial | refine ⟨⟨rfl, rfl⟩, ?_⟩))) (by (repeat (first | exact trivial | refine ⟨⟨rfl, rfl⟩, ?_⟩ | refine ⟨⟨rfl, hplx _ _⟩, ?_⟩ | refine ⟨⟨rfl, hply _ _⟩, ?_⟩))) (by (repeat (first | exact trivial | refine ⟨rfl, ?_⟩))) (by (repeat (first | exact trivial | refine ⟨rfl, ?_⟩)))
end Go.Proofs.Ytefagncaepallaa

