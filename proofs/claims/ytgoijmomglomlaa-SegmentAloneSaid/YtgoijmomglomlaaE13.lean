/- Alone: the law's walk. -/
import Derived.Test.YtgoijmomglomlaaE8
import Derived.Test.YtgoijmomglomlaaPE
import Derived.Test.YtgoijmomglomlaaOpen21
namespace Go.Proofs.Ytgoijmomglomlaa
open Go.RowKit
set_option maxRecDepth 100000

abbrev p32 (n : Int) : Pl := .raw (.int .u32 n)
abbrev d32s (l : List Int) : Dt := .p (.sl false l.length (l.map p32))
theorem pOps_snoc (l : List OpT) (o : OpT) : pOps l ++ pOp o = pOps (l ++ [o]) := by simp [pOps]
theorem recvA_drop {steps : List StepT} {i : Nat} {s : StepT} (h : steps[i]? = some s) : recvA (steps.drop i) = if s.done && decide (s.op.kind = 7) then (s.out.val, s.out.is) :: recvA (steps.drop (i + 1)) else recvA (steps.drop (i + 1)) := by
  have hlt := (List.getElem?_eq_some_iff.1 h).1
  have he := (List.getElem?_eq_some_iff.1 h).2
  rw [List.drop_eq_getElem_cons hlt, he]
  unfold recvA
  cases hb : (s.done && decide (s.op.kind = 7))
  · simp only [List.filterMap_cons, hb, Bool.false_eq_true, if_false]
  · simp only [List.filterMap_cons, hb, if_true]
/-- What receives should tell. -/
def allA (vs : List Int) : List (Int × Bool) := vs.map (fun v => (v, true)) ++ [(0, false)]
theorem allA_next {vs : List Int} {at_ : Nat} {x : Int × Bool} {l : List (Int × Bool)} (h : x :: l = (allA vs).drop at_) : at_ ≤ vs.length ∧ l = (allA vs).drop (at_ + 1) ∧ (at_ = vs.length → x.2 = false) ∧ (at_ < vs.length → x.2 = true ∧ vs[at_]? = some x.1) := by
  have h1 : (allA vs)[at_]? = some x := by
    have := congrArg (·[0]?) h
    simp only [List.getElem?_cons_zero, List.getElem?_drop, Nat.add_zero] at this
    exact this.symm
  have h2 : at_ < (allA vs).length := (List.getElem?_eq_some_iff.1 h1).1
  have h3 : (allA vs).length = vs.length + 1 := by simp [allA]
  have h4 : l = (allA vs).drop (at_ + 1) := by
    rw [List.drop_eq_getElem_cons h2] at h
    injection h
  refine ⟨by omega, h4, fun e => ?_, fun hl => ?_⟩
  · unfold allA at h1
    rw [List.getElem?_append_right (by simp; omega)] at h1
    simp [e] at h1
    rw [← h1]
  · unfold allA at h1
    rw [List.getElem?_append_left (by simpa using hl), List.getElem?_map] at h1
    simp only [Option.map_eq_some_iff] at h1
    obtain ⟨v, h5, h6⟩ := h1
    rw [← h6]
    exact ⟨rfl, h5⟩
set_option maxHeartbeats 8000000 in
theorem segmentAlone_c (vs : List Int) (hv : ∀ x ∈ vs, 0 ≤ x ∧ x ≤ 4294967295) : PureC Try.prog 7 [d32s vs] (dB true) := by
  refine pure_fin tabOk Try.func7 rfl Try.ntmps7 rfl rfl rfl fun w cl => ?_
  refine go ?_
  refine a_q (call_step (awake_c) rfl (fun a w => Try.call9 a w) rfl) rfl rfl rfl ?_
  refine go ?_
  generalize h0 : decide ((vs.length : Int) > 7) = cc; cases cc
  · have h0' : vs.length ≤ 7 := by have := of_decide_eq_false h0; omega
    have hvo : ∀ v ∈ vs, VOk v := fun v h => by have := hv v h; exact ⟨by omega, by omega⟩
    have hg := alone_g vs h0' hvo
    have hP := played_c (aloneP vs) hg
    have hW := where_c (aloneP vs) hg.ok.w1 (by have := hg.ok.w3; omega) hg.ok.n0
    have hL : LayOk (layP (aloneP vs)) := layP_ok hg.ok.w1 (by have := hg.ok.w3; omega)
    obtain ⟨b1, b2, b3, b4⟩ := alone_true h0' hvo
    have hlen := played_len hg
    generalize playedF (aloneP vs) = R at *
    generalize layP (aloneP vs) = l at *
    obtain ⟨steps, m, gone, ends⟩ := R
    simp only at b1 b2 b3 b4 hlen
    subst b1
    dsimp only [dPlayed] at hP
    have hNo := nodes_c l hL m 0 b4
    rw [show vs.map (fun v => (v, true)) ++ [(0, false)] = allA vs from rfl] at b2
    have hal : (allA vs).length = vs.length + 1 := by simp [allA]
    generalize nodesF l m 0 = ns at *
    refine go ?_
    refine awp_ghost (tip_ghost 4 0 48 4 rfl rfl rfl) ?_
    refine awp_ghost (tip_ghost 5 1 48 4 rfl rfl rfl) ?_
    refine awp_loop_ok (fun i : Nat => i ≤ vs.length) (fun i => ⟨[(6, dI i), (5, .tip 1 (recvW (vs.take i)).length (pOps (recvW (vs.take i)))), (4, .tip 0 (sendW (vs.take i)).length (pOps (sendW (vs.take i)))), (3, dB true), (0, d32s vs)], [], [(1, ⟨48, 4, (recvW (vs.take i)).length⟩), (0, ⟨48, 4, (sendW (vs.take i)).length⟩)]⟩) (fun i => vs.length - i) 0 (by omega) (zX) ?_
    intro i hi
    refine go ?_
    refine ck_b (fun h1 => ?_) (fun h1 => ?_) <;> try rw [h1]
    · have h1' : i < vs.length := by have := of_decide_eq_true h1; omega
      obtain ⟨x, hx⟩ := getI (l := vs) (i := i) (by omega) (by omega)
      have hx' := hx
      simp only [Int.toNat_natCast] at hx'
      have hxb := hv x (List.mem_of_getElem? hx')
      have e1 : sendW (vs.take (i + 1)) = sendW (vs.take i) ++ [⟨6, 0, x, 0⟩] := by rw [List.take_add_one, hx']; simp [sendW]
      have e2 : recvW (vs.take (i + 1)) = recvW (vs.take i) ++ [⟨7, 0, 0, 0⟩] := by rw [List.take_add_one, hx']; simp [recvW]
      have l1 : (sendW (vs.take i)).length ≤ 7 := by simp [sendW]; omega
      have l2 : (recvW (vs.take i)).length ≤ 7 := by simp [recvW]; omega
      generalize sendW (vs.take i) = A at *
      generalize recvW (vs.take i) = B at *
      refine go ?_
      refine a_q (indexAddr_step tabOk [p32 x] rfl rfl rfl rfl rfl rfl (by first | omega | (simp; done) | (simp; omega)) (by first | omega | (simp; done) | (simp; omega)) (by first | (simp; done) | exact List.cons_ne_nil _ _) (map_idx hx)) rfl rfl rfl ?_
      refine goK ?_
      refine a_append (m := 1) (qs := pOp ⟨6, 0, x, 0⟩) tabOk rfl rfl rfl rfl rfl rfl rfl rfl rfl rfl rfl rfl rfl (by unfold maxLen; omega) (by show (_ + _) * 32 ≤ _; omega) ?_
      rw [pOps_snoc, ← e1, show A.length + 1 = (sendW (vs.take (i + 1))).length by rw [e1]; simp]
      refine go ?_
      refine a_append (m := 1) (qs := pOp ⟨7, 0, 0, 0⟩) tabOk rfl rfl rfl rfl rfl rfl rfl rfl rfl rfl rfl rfl rfl (by unfold maxLen; omega) (by show (_ + _) * 32 ≤ _; omega) ?_
      rw [pOps_snoc, ← e2, show B.length + 1 = (recvW (vs.take (i + 1))).length by rw [e2]; simp]
      refine go ?_
      exact ⟨i + 1, by omega, by omega, zX⟩
    · have h1' : i = vs.length := by have := of_decide_eq_false h1; omega
      rw [h1', List.take_length]
      refine awp_ghost (lowS_ghost 4 rfl rfl) ?_
      refine awp_ghost (lowS_ghost 5 rfl rfl) ?_
      refine go ?_
      refine a_q (call_step (hP) rfl (fun a w => Try.call20 a w) rfl) rfl rfl rfl ?_
      refine go ?_
      refine awp_loop_ok (fun z : Nat × Nat => z.1 ≤ steps.length ∧ z.2 ≤ vs.length + 1 ∧ recvA (steps.drop z.1) = (allA vs).drop z.2) (fun z => ⟨[(13, dI z.1), (12, dI z.2), (11, dB true), (9, .ptr 2 0), (8, dSteps steps), (7, .ptr 0 0), (3, dB true), (0, d32s vs)], [(2, [dInts m]), (0, [dK .u8 4, .p (.sl true 3 [plOps (sendW vs), plOps (recvW vs), plOps [⟨7, 0, 0, 0⟩]]), .p (.sl true 0 [])]), (2, [dInts m])], []⟩) (fun z => steps.length - z.1) (0, 0) ⟨by simp, by simp, by simpa using b2⟩ (zX) ?_
      rintro ⟨k, at_⟩ ⟨hk, ha, hr⟩
      simp only at hk ha hr
      refine (show AWP _ _ _ _ ⟨[(13, dI k), (12, dI at_), (11, dB true), (9, .ptr 2 0), (8, dSteps steps), (7, .ptr 0 0), (3, dB true), (0, d32s vs)], [(2, [dInts m]), (0, [dK .u8 4, .p (.sl true 3 [plOps (sendW vs), plOps (recvW vs), plOps [⟨7, 0, 0, 0⟩]]), .p (.sl true 0 [])]), (2, [dInts m])], []⟩ from ?_)
      refine go ?_
      refine ck_b (fun h2 => ?_) (fun h2 => ?_) <;> try rw [h2]
      · have h2' : k < steps.length := by have := of_decide_eq_true h2; omega
        obtain ⟨s, hs⟩ := getI (l := steps) (i := k) (by omega) (by omega)
        have hs' := hs
        simp only [Int.toNat_natCast] at hs'
        rw [recvA_drop hs'] at hr
        refine go ?_
        refine a_q (indexAddr_step tabOk (pStep s) rfl rfl rfl rfl rfl rfl (by first | omega | (simp; done) | (simp; omega)) (by first | omega | (simp; done) | (simp; omega)) (by first | (simp; done) | exact List.cons_ne_nil _ _) (steps_idx hs)) rfl rfl rfl ?_
        refine go ?_
        generalize h3 : s.done = cc; cases cc
        · rw [h3, Bool.false_and, if_neg (by simp)] at hr
          refine go ?_
          exact ⟨(k + 1, at_), ⟨by simp only; omega, ha, hr⟩, by simp only; omega, zX⟩
        · rw [h3, Bool.true_and] at hr
          refine go ?_
          generalize h4 : decide (s.op.kind = 7) = cc; cases cc
          · rw [h4, if_neg (by simp)] at hr
            refine go ?_
            exact ⟨(k + 1, at_), ⟨by simp only; omega, ha, hr⟩, by simp only; omega, zX⟩
          · rw [h4, if_pos rfl] at hr
            obtain ⟨j1, j2, j3, j4⟩ := allA_next hr
            simp only at j3 j4
            refine go ?_
            generalize h5 : decide ((at_ : Int) = (vs.length : Int)) = cc; cases cc
            · have h5' : at_ < vs.length := by have := of_decide_eq_false h5; omega
              obtain ⟨j5, j6⟩ := j4 h5'
              have j6' : vs[((at_ : Nat) : Int).toNat]? = some s.out.val := by simpa using j6
              have hvb := hv _ (List.mem_of_getElem? j6)
              refine go ?_
              rw [show decide ((at_ : Int) > (vs.length : Int)) = false by rw [decide_eq_false_iff_not]; omega]
              refine go ?_
              refine awp_region_q [] rfl (by kernel_rfl) (by kernel_rfl) ?_
              refine goQ ?_
              rw [j5]
              refine goQ ?_
              refine r_q (indexAddr_step tabOk [p32 s.out.val] rfl rfl rfl rfl rfl rfl (by first | omega | (simp; done) | (simp; omega)) (by first | omega | (simp; done) | (simp; omega)) (by first | (simp; done) | exact List.cons_ne_nil _ _) (map_idx j6')) rfl rfl ?_
              refine goQ ?_
              rw [show IntKind.i64.wrap s.out.val = s.out.val from wrap_id (by omega) (by omega)]
              rw [show decide (s.out.val = s.out.val) = true by simp]
              refine goQ ?_
              refine go ?_
              exact ⟨(k + 1, at_ + 1), ⟨by simp only; omega, by simp only; omega, j2⟩, by simp only; omega, zX⟩
            · have h5' : at_ = vs.length := by have := of_decide_eq_true h5; omega
              have j5 := j3 h5'
              refine go ?_
              rw [j5]
              refine go ?_
              exact ⟨(k + 1, at_ + 1), ⟨by simp only; omega, by simp only; omega, j2⟩, by simp only; omega, zX⟩
      · have h2' : k = steps.length := by have := of_decide_eq_false h2; omega
        rw [h2', List.drop_length, show recvA [] = [] from rfl] at hr
        have hat : at_ = vs.length + 1 := by
          have := congrArg List.length hr
          rw [List.length_drop, hal] at this
          simp at this
          omega
        subst hat
        refine go ?_
        refine awp_region_q [] rfl (by kernel_rfl) (by kernel_rfl) ?_
        refine goQ ?_
        rw [show decide (((vs.length + 1 : Nat) : Int) = (vs.length : Int) + 1) = true by rw [decide_eq_true_eq]; omega]
        refine goQ ?_
        refine r_q (call_step (hW) rfl (fun a w => Try.call10 a w) rfl) rfl rfl ?_
        refine goQ ?_
        refine r_q (call_step (hNo) rfl (fun a w => Try.call12 a w) rfl) rfl rfl ?_
        refine goQ ?_
        rw [b3]
        refine goQ ?_
        refine go ?_
        first | refine fin_ret rfl ?_ | refine fin_normal rfl ?_
        rfl
  · refine go ?_
    first | refine fin_ret rfl ?_ | refine fin_normal rfl ?_
    rfl
end Go.Proofs.Ytgoijmomglomlaa
