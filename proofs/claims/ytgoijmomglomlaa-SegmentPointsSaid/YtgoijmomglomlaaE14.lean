/- Contents of a stack as they should be; points as they are told. -/
import Derived.Test.YtgoijmomglomlaaE11
import Derived.Test.YtgoijmomglomlaaPD
namespace Go.Proofs.Ytgoijmomglomlaa
open Go.RowKit
set_option maxRecDepth 100000
set_option linter.unusedSimpArgs false

theorem sl0_ints {l : List Int} {c : Nat} : ∀ (i : Nat) q, (pInts (l.take c))[i]? = some q → (pInts l)[(0 : Int).toNat * 1 + i]? = some q := by
  intro i q h
  simp only [pInts, List.map_take, List.getElem?_take] at h
  split at h
  · simpa [pInts] using h
  · cases h
theorem slD_ints {l : List Int} {a : Int} : ∀ (i : Nat) q, (pInts (l.drop a.toNat))[i]? = some q → (pInts l)[a.toNat * 1 + i]? = some q := by
  intro i q h
  simp only [pInts, List.map_drop, List.getElem?_drop] at h
  simpa [pInts] using h
theorem eq_ints {l m : List Int} {n : Nat} {ps : List Pl} (hn : n = m.length) (hp : ps = pInts m) (hl : l = m) : Dt.p (.sl false n ps) = dInts l := by rw [hn, hp, hl]
theorem withE_c (l : List Int) (x : Int) (hl : l.length ≤ 1000000) : PureC Try.prog 96 [dInts l, dI l.length, dI x] (dInts (l ++ [x])) := by
  refine pure_fin tabOk Try.func96 rfl Try.ntmps96 rfl rfl rfl fun w cl => ?_
  refine go ?_
  refine a_make0 tabOk 0 rfl rfl rfl rfl rfl (by omega) (by show (8 : Int) * _ ≤ _; omega) (by omega) rfl rfl rfl rfl ?_
  refine go ?_
  refine a_q (slice_step tabOk (l.length) (pInts (l.take l.length)) rfl rfl rfl rfl rfl rfl rfl (by omega) (by omega) (by omega) (by first | omega | (simp; omega) | simp) (by first | (simp [pInts]; done) | (simp [pInts]; omega) | (simp [pBools]; done)) (sl0_ints)) rfl rfl rfl ?_
  refine go ?_
  refine a_append tabOk rfl rfl rfl rfl rfl rfl rfl rfl rfl rfl rfl rfl (by first | (simp [pInts]; done) | (simp [pInts]; omega) | (simp [pBools]; done)) (by unfold maxLen; first | omega | (simp; omega)) (by show (_ + _) * 8 ≤ _; first | omega | (simp; omega)) ?_
  refine go ?_
  refine a_append tabOk rfl rfl rfl rfl rfl rfl rfl rfl rfl rfl rfl rfl (by first | (simp [pInts]; done) | (simp [pInts]; omega) | (simp [pBools]; done)) (by unfold maxLen; first | omega | (simp; omega)) (by show (_ + _) * 8 ≤ _; first | omega | (simp; omega)) ?_
  refine go ?_
  refine a_q (slice_step tabOk (0) (pInts (l.drop ((l.length : Nat) : Int).toNat)) rfl rfl rfl rfl rfl rfl rfl (by omega) (by omega) (by omega) (by first | omega | (simp; omega) | simp) (by first | (simp [pInts]; done) | (simp [pInts]; omega) | (simp [pBools]; done)) (slD_ints (a := ((l.length : Nat) : Int)))) rfl rfl rfl ?_
  refine go ?_
  refine a_append tabOk rfl rfl rfl rfl rfl rfl rfl rfl rfl rfl rfl rfl (by first | (simp [pInts]; done) | (simp [pInts]; omega) | (simp [pBools]; done)) (by unfold maxLen; first | omega | (simp; omega)) (by show (_ + _) * 8 ≤ _; first | omega | (simp; omega)) ?_
  refine go ?_
  refine fin_ret rfl ?_
  refine eq_ints (m := l ++ [x]) ?_ ?_ rfl
  · simp
  · simp [pInts]
theorem cloneP_c (l : List Int) (hl : l.length ≤ 1000000) : PureC Try.prog 51 [dInts l] (dInts l) := by
  refine pure_fin tabOk Try.func51 rfl Try.ntmps51 rfl rfl rfl fun w cl => ?_
  refine go ?_
  refine a_nil tabOk rfl rfl rfl rfl rfl rfl rfl fun c hc => ?_
  refine go ?_
  refine ck_b (fun h1 => ?_) (fun h1 => ?_) <;> try rw [h1]
  · refine go ?_
    refine fin_ret rfl ?_
    have : l = [] := List.eq_nil_of_length_eq_zero (hc h1)
    subst this
    rfl
  · refine go ?_
    refine aops_ghost (tip_ghost 5 0 3 1 rfl rfl rfl) ?_
    refine go ?_
    refine a_append tabOk rfl rfl rfl rfl rfl rfl rfl rfl rfl rfl rfl rfl (by first | (simp [pInts]; done) | (simp [pInts]; omega) | (simp [pBools]; done)) (by unfold maxLen; first | omega | (simp; omega)) (by show (_ + _) * 8 ≤ _; first | omega | (simp; omega)) ?_
    refine go ?_
    refine fin_ret rfl ?_
    exact eq_ints (m := l) (by simp) (by simp [pInts]) rfl
abbrev dStk (c : List Int) : Dt := .agg [dI 3, dInts [], dInts c]
abbrev dDidS (r : List Int × Int × Bool) : Dt := .tup [dStk r.1, dI r.2.1, dB r.2.2]
theorem newS_c : PureC Try.prog 29 [dI 3] (dStk []) := by
  refine pure_fin tabOk Try.func29 rfl Try.ntmps29 rfl rfl rfl fun w cl => ?_
  refine go ?_
  first | refine fin_ret rfl ?_ | refine fin_normal rfl ?_
  rfl
theorem rightS_c (c : List Int) : PureC Try.prog 53 [dStk c] (dB true) := by
  refine pure_fin tabOk Try.func53 rfl Try.ntmps53 rfl rfl rfl fun w cl => ?_
  refine go ?_
  rw [show decide ((3 : Int) = 1) = false from rfl]
  refine go ?_
  rw [show decide ((3 : Int) = 2) = false from rfl]
  refine go ?_
  rw [show decide ((3 : Int) = 3) = true from rfl]
  refine go ?_
  first | refine fin_ret rfl ?_ | refine fin_normal rfl ?_
  rfl
theorem of6_c : PureC Try.prog 54 [dI 6] (dI 3) := by
  refine pure_fin tabOk Try.func54 rfl Try.ntmps54 rfl rfl rfl fun w cl => ?_
  refine go ?_
  rw [show decide ((6 : Int) = 1) = false from rfl]
  refine go ?_
  rw [show decide ((6 : Int) = 2) = false from rfl]
  refine go ?_
  rw [show decide ((6 : Int) = 3) = false from rfl]
  refine go ?_
  rw [show decide ((6 : Int) = 4) = false from rfl]
  refine go ?_
  rw [show decide ((6 : Int) = 5) = false from rfl]
  refine go ?_
  rw [show decide ((6 : Int) = 6) = true from rfl]
  refine go ?_
  first | refine fin_ret rfl ?_ | refine fin_normal rfl ?_
  rfl
theorem of7_c : PureC Try.prog 54 [dI 7] (dI 3) := by
  refine pure_fin tabOk Try.func54 rfl Try.ntmps54 rfl rfl rfl fun w cl => ?_
  refine go ?_
  rw [show decide ((7 : Int) = 1) = false from rfl]
  refine go ?_
  rw [show decide ((7 : Int) = 2) = false from rfl]
  refine go ?_
  rw [show decide ((7 : Int) = 3) = false from rfl]
  refine go ?_
  rw [show decide ((7 : Int) = 4) = false from rfl]
  refine go ?_
  rw [show decide ((7 : Int) = 5) = false from rfl]
  refine go ?_
  rw [show decide ((7 : Int) = 6) = false from rfl]
  refine go ?_
  rw [show decide ((7 : Int) = 7) = true from rfl]
  refine go ?_
  first | refine fin_ret rfl ?_ | refine fin_normal rfl ?_
  rfl
theorem effectsS_c : PureC Try.prog 55 [] (.agg [.p (.raw .nilFunc), .fn (.func 73) [] [], .fn (.func 74) [] [], .fn (.func 75) [] [], .fn (.func 76) [] [], .fn (.func 77) [] [], .fn (.func 78) [] [], .fn (.func 77) [] []]) := by
  refine pure_fin tabOk Try.func55 rfl Try.ntmps55 rfl rfl rfl fun w cl => ?_
  refine go ?_
  first | refine fin_ret rfl ?_ | refine fin_normal rfl ?_
  rfl
theorem sendS_c (c : List Int) (o : OpT) (hl : c.length ≤ 1000000) (ho : o.kind = 6) : PureC Try.prog 78 [dStk c, dOp o] (dDidS (specS c o)) := by
  have he : specS c o = (c ++ [o.a], 0, true) := by unfold specS; rw [if_pos ho]
  rw [he]
  refine pure_fin tabOk Try.func78 rfl Try.ntmps78 rfl rfl rfl fun w cl => ?_
  refine go ?_
  refine awp_region_w 10 [] rfl rfl (by kernel_rfl) (by kernel_rfl) (by kernel_rfl) ?_
  refine goQ ?_
  refine r_q (call_step (withE_c c o.a hl) rfl (fun a w => Try.call96 a w) rfl) rfl rfl ?_
  refine goQ ?_
  refine go ?_
  first | refine fin_ret rfl ?_ | refine fin_normal rfl ?_
  rfl
theorem firstS_c (c : List Int) (o : OpT) (hl : c.length ≤ 1000000) (ho : o.kind = 7) : PureC Try.prog 77 [dStk c, dOp o] (dDidS (specS c o)) := by
  cases c with
  | nil =>
    have he : specS [] o = ([], 0, false) := by unfold specS; rw [if_neg (by omega)]
    rw [he]
    refine pure_fin tabOk Try.func77 rfl Try.ntmps77 rfl rfl rfl fun w cl => ?_
    refine go ?_
    rw [show decide ((([] : List Int).length : Int) = 0) = true from rfl]
    refine go ?_
    first | refine fin_ret rfl ?_ | refine fin_normal rfl ?_
    rfl
  | cons v vs =>
    have he : specS (v :: vs) o = (vs, v, true) := by unfold specS; rw [if_neg (by omega)]
    rw [he]
    have hvl : (v :: vs).length = vs.length + 1 := rfl
    simp only [List.length_cons] at hl
    refine pure_fin tabOk Try.func77 rfl Try.ntmps77 rfl rfl rfl fun w cl => ?_
    refine go ?_
    rw [show decide (((v :: vs).length : Int) = 0) = false by rw [decide_eq_false_iff_not, List.length_cons]; omega]
    refine go ?_
    refine awp_region_q [2] rfl (by kernel_rfl) (by kernel_rfl) ?_
    refine goQ ?_
    refine r_q (slice_step tabOk (vs.length) (pInts vs) rfl rfl rfl rfl rfl rfl rfl (by omega) (by omega) (by omega) (by first | omega | (simp; omega) | simp) (by first | (simp [pInts]; done) | (simp [pInts]; omega) | (simp [pBools]; done)) ((fun i q h => by have := slD_ints (l := v :: vs) (a := 1) i q; simpa using this h))) rfl rfl ?_
    refine goQ ?_
    refine r_q (call_step (cloneP_c vs (by omega)) rfl (fun a w => Try.call51 a w) rfl) rfl rfl ?_
    refine goQ ?_
    refine r_q (indexAddr_step tabOk [pI v] rfl rfl rfl rfl rfl rfl (by first | omega | (simp; done) | (simp; omega)) (by first | omega | (simp; done) | (simp; omega)) (by first | (simp; done) | exact List.cons_ne_nil _ _) (ints_idx rfl)) rfl rfl ?_
    refine goQ ?_
    refine go ?_
    first | refine fin_ret rfl ?_ | refine fin_normal rfl ?_
    rfl
theorem doS_c (c : List Int) (o : OpT) (hl : c.length ≤ 1000000) (ho : o.kind = 6 ∨ o.kind = 7) : PureC Try.prog 31 [dStk c, dOp o] (dDidS (specS c o)) := by
  have hof : PureC Try.prog 54 [dI o.kind] (dI 3) := by
    rcases ho with h | h
    · rw [h]; exact of6_c
    · rw [h]; exact of7_c
  obtain ⟨f, he, hf, hc⟩ : ∃ f, EntersP Try.prog f ∧ ([Dt.p (.raw .nilFunc), .fn (.func 73) [] [], .fn (.func 74) [] [], .fn (.func 75) [] [], .fn (.func 76) [] [], .fn (.func 77) [] [], .fn (.func 78) [] [], .fn (.func 77) [] []][o.kind.toNat * 1]? = some (.fn (.func f) [] [])) ∧ PureC Try.prog f [dStk c, dOp o] (dDidS (specS c o)) := by
    rcases ho with h | h
    · exact ⟨78, fun a w => Try.call78 a w, by rw [h]; rfl, sendS_c c o hl h⟩
    · exact ⟨77, fun a w => Try.call77 a w, by rw [h]; rfl, firstS_c c o hl h⟩
  generalize specS c o = r at *
  refine pure_fin tabOk Try.func31 rfl Try.ntmps31 rfl rfl rfl fun w cl => ?_
  refine go ?_
  refine awp_region_q [] rfl (by kernel_rfl) (by kernel_rfl) ?_
  refine goQ ?_
  refine r_q (call_step (rightS_c c) rfl (fun a w => Try.call53 a w) rfl) rfl rfl ?_
  refine goQ ?_
  refine r_q (call_step (hof) rfl (fun a w => Try.call54 a w) rfl) rfl rfl ?_
  refine goQ ?_
  refine go ?_
  rw [show decide ((3 : Int) = 3) = true from rfl]
  refine go ?_
  refine awp_region_q [2] rfl (by kernel_rfl) (by kernel_rfl) ?_
  refine r_q (call_step (effectsS_c) rfl (fun a w => Try.call55 a w) rfl) rfl rfl ?_
  refine goQ ?_
  refine r_q (index_step tabOk (.fn (.func f) [] []) rfl rfl rfl rfl rfl rfl (by omega) (by show o.kind < 8; omega) hf) rfl rfl ?_
  refine goQ ?_
  refine r_q (callv_step hc rfl he rfl rfl) rfl rfl ?_
  refine goQ ?_
  refine go ?_
  first | refine fin_ret rfl ?_ | refine fin_normal rfl ?_
  rfl
/-- Points as the law looks for them. -/
def ptF (w a : Int) : Nat → List StepT → Nat × Int × Int
  | n, [] => (n, -1, 0)
  | n, s :: l => if s.who = w ∧ s.at_ = a then (if s.done then (n, s.out.point, s.out.err) else ptF w a (n + 1) l) else ptF w a n l
theorem ptF_tell (w a : Int) : ∀ (l : List StepT) (n : Nat), (ptF w a n l).2 = tellF l w a
  | [], n => rfl
  | s :: l, n => by
    unfold ptF
    by_cases h : s.who = w ∧ s.at_ = a
    · rw [if_pos h]
      cases hd : s.done
      · rw [tellF_skip (fun hh => by rw [hd] at hh; cases hh.2.2)]
        simp only [Bool.false_eq_true, if_false]
        exact ptF_tell w a l (n + 1)
      · rw [tellF_here h.1 h.2 hd]; rfl
    · rw [if_neg h, tellF_skip (fun hh => h ⟨hh.1, hh.2.1⟩)]
      exact ptF_tell w a l n
theorem drop_some {l : List StepT} {i : Nat} {s : StepT} (h : l[i]? = some s) : l.drop i = s :: l.drop (i + 1) := by
  obtain ⟨h1, h2⟩ := List.getElem?_eq_some_iff.1 h
  rw [List.drop_eq_getElem_cons h1, h2]
theorem point_c (steps : List StepT) (hl : steps.length ≤ 1000000) (wo a : Int) : PureC Try.prog 30 [dSteps steps, dI wo, dI a] (.tup [dI (ptF wo a 0 steps).1, dI (tellF steps wo a).1, dI (tellF steps wo a).2]) := by
  rw [← ptF_tell wo a steps 0]
  generalize hE : ptF wo a 0 steps = E
  refine pure_fin tabOk Try.func30 rfl Try.ntmps30 rfl rfl rfl fun w cl => ?_
  refine go ?_
  refine awp_loop_ok (fun z : Nat × Nat => z.1 ≤ steps.length ∧ z.2 ≤ z.1 ∧ ptF wo a z.2 (steps.drop z.1) = E) (fun z => ⟨[(10, dI z.1), (9, dI z.2), (2, dI a), (1, dI wo), (0, dSteps steps)], [], []⟩) (fun z => steps.length - z.1) (0, 0) ⟨by simp, by simp, hE⟩ (zX) ?_
  rintro ⟨i, n⟩ ⟨hi, hn, he⟩
  simp only at hi hn he
  refine go ?_
  refine ck_b (fun h1 => ?_) (fun h1 => ?_) <;> try rw [h1]
  · have h1' : i < steps.length := by have := of_decide_eq_true h1; omega
    obtain ⟨s, hs⟩ := getI (l := steps) (i := i) (by omega) (by omega)
    have hs' := hs
    simp only [Int.toNat_natCast] at hs'
    rw [drop_some hs', ptF] at he
    refine go ?_
    refine a_q (indexAddr_step tabOk (pStep s) rfl rfl rfl rfl rfl rfl (by first | omega | (simp; done) | (simp; omega)) (by first | omega | (simp; done) | (simp; omega)) (by first | (simp; done) | exact List.cons_ne_nil _ _) (steps_idx hs)) rfl rfl rfl ?_
    refine go ?_
    generalize h2 : decide (s.who = wo) = cc; cases cc
    · have h2' := of_decide_eq_false h2
      rw [if_neg (fun hh => h2' hh.1)] at he
      refine go ?_
      exact ⟨(i + 1, n), ⟨by simp only; omega, by simp only; omega, he⟩, by simp only; omega, zX⟩
    · have h2' := of_decide_eq_true h2
      refine go ?_
      refine a_q (indexAddr_step tabOk (pStep s) rfl rfl rfl rfl rfl rfl (by first | omega | (simp; done) | (simp; omega)) (by first | omega | (simp; done) | (simp; omega)) (by first | (simp; done) | exact List.cons_ne_nil _ _) (steps_idx hs)) rfl rfl rfl ?_
      refine go ?_
      generalize h3 : decide (s.at_ = a) = cc; cases cc
      · have h3' := of_decide_eq_false h3
        rw [if_neg (fun hh => h3' hh.2)] at he
        refine go ?_
        exact ⟨(i + 1, n), ⟨by simp only; omega, by simp only; omega, he⟩, by simp only; omega, zX⟩
      · have h3' := of_decide_eq_true h3
        rw [if_pos ⟨h2', h3'⟩] at he
        refine go ?_
        refine a_q (indexAddr_step tabOk (pStep s) rfl rfl rfl rfl rfl rfl (by first | omega | (simp; done) | (simp; omega)) (by first | omega | (simp; done) | (simp; omega)) (by first | (simp; done) | exact List.cons_ne_nil _ _) (steps_idx hs)) rfl rfl rfl ?_
        refine go ?_
        generalize h4 : s.done = cc; cases cc
        · rw [if_neg (by simp [h4])] at he
          refine go ?_
          exact ⟨(i + 1, n + 1), ⟨by simp only; omega, by simp only; omega, he⟩, by simp only; omega, zX⟩
        · rw [if_pos h4] at he
          refine go ?_
          refine awp_region_q [] rfl (by kernel_rfl) (by kernel_rfl) ?_
          refine goQ ?_
          refine r_q (indexAddr_step tabOk (pStep s) rfl rfl rfl rfl rfl rfl (by first | omega | (simp; done) | (simp; omega)) (by first | omega | (simp; done) | (simp; omega)) (by first | (simp; done) | exact List.cons_ne_nil _ _) (steps_idx hs)) rfl rfl ?_
          refine goQ ?_
          refine r_q (indexAddr_step tabOk (pStep s) rfl rfl rfl rfl rfl rfl (by first | omega | (simp; done) | (simp; omega)) (by first | omega | (simp; done) | (simp; omega)) (by first | (simp; done) | exact List.cons_ne_nil _ _) (steps_idx hs)) rfl rfl ?_
          refine goQ ?_
          refine go ?_
          first | refine fin_ret rfl ?_ | refine fin_normal rfl ?_
          rw [← he]
  · have h1' : i = steps.length := by have := of_decide_eq_false h1; omega
    rw [h1', List.drop_length, ptF] at he
    refine go ?_
    first | refine fin_ret rfl ?_ | refine fin_normal rfl ?_
    rw [← he]
end Go.Proofs.Ytgoijmomglomlaa
