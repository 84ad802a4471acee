/- No cell of a free node is touched: the law's walk. -/
import Derived.Test.YtefagncaepallaaE8
import Derived.Test.YtefagncaepallaaPB
import Derived.Test.YtefagncaepallaaOpen21
namespace Go.Proofs.Ytefagncaepallaa
open Go.RowKit
set_option maxRecDepth 100000

theorem few_play {p : PlayT} (hf : PlayFits p) (h : fewF p = true) : PlayG p := by
  unfold fewF at h
  simp only [Bool.and_eq_true, decide_eq_true_eq, List.all_eq_true, okOps] at h
  obtain ⟨⟨⟨h1, h2⟩, h3⟩, h4⟩ := h
  refine ⟨⟨h1, h2, h3, hf.n.1, hf.ts, fun w hw => (h4 w hw).1⟩, fun ws hw o ho => ?_, fun ws hw o ho => ?_⟩
  · have := (h4 ws hw).2 o ho
    simp only [okOp, Bool.and_eq_true, decide_eq_true_eq] at this
    omega
  · have := (hf.ws ws hw).2 o ho
    obtain ⟨_, _, k1, k2⟩ := this
    unfold i64B at k1 k2
    omega
abbrev intsC (l : List Int) : List Dt := l.map dI
theorem intsC_plain (l : List Int) : PlainC (intsC l) := by
  intro B G
  induction l with
  | nil => rfl
  | cons a l ih => exact ih
theorem intsC_get {l : List Int} {i : Int} (h0 : 0 ≤ i) (h1 : i < l.length) : (intsC l)[i.toNat]? = some (dI (cellAt l i)) := by
  have : i.toNat < l.length := by omega
  simp [intsC, cellAt, this]
theorem intsC_set (l : List Int) (i : Nat) (v : Int) : (intsC l).set i (dI v) = intsC (l.set i v) := by simp [intsC]
theorem intsC_zero (n : Nat) : List.replicate n (constLeaf (.int .i64 0)) = intsC (List.replicate n 0) := by simp [intsC]; exact .inr rfl
def memZ (m0 : List Int) (steps : List StepT) (i : Nat) : List Int := (steps.take i).foldl memS m0
theorem memZ_next (m0 : List Int) {steps : List StepT} {i : Nat} {s : StepT} (h : steps[i]? = some s) : memZ m0 steps (i + 1) = memS (memZ m0 steps i) s := by
  unfold memZ
  rw [List.take_add_one, h]
  simp [List.foldl_append]
set_option maxHeartbeats 8000000 in
theorem listSafe_c (p : PlayT) (hf : PlayFits p) : PureC Try.prog 4 [dPlay p] (dB true) := by
  have hfew := few_c p
  have hpg := fun h => few_play hf h
  refine pure_fin tabOk Try.func4 rfl Try.ntmps4 rfl rfl rfl fun w cl => ?_
  refine go ?_
  refine a_q (call_step (awake_c) rfl (fun a w => Try.call8 a w) rfl) rfl rfl rfl ?_
  refine go ?_
  refine a_q (call_step (hfew) rfl (fun a w => Try.call9 a w) rfl) rfl rfl rfl ?_
  generalize fewF p = fb at *
  refine go ?_
  cases fb
  · refine go ?_
    first | refine fin_ret rfl ?_ | refine fin_normal rfl ?_
    rfl
  · have hp := hpg rfl
    obtain ⟨b1, b2⟩ := safe_true hp
    have hw1 := hp.ok.w1
    have hw3 := hp.ok.w3
    have hW := where_c p hw1 (by omega) hp.ok.n0
    have hL : LayOk (layP p) := layP_ok hw1 (by omega)
    have hP := played_c p hp
    have hsz := layP_size p
    have hnd : (layP p).nodes = 2 + p.nodes % 8 := rfl
    have hBg := begin_c (layP p) hL (by omega) (by omega) (by omega) (by omega)
    have hlen := played_len hp
    generalize layP p = l at *
    generalize playedF p = R at *
    obtain ⟨steps, m, gone, ends⟩ := R
    simp only at b1 b2 hlen
    subst b1
    dsimp only [dPlayed] at hP
    generalize beginF l = m0 at *
    refine go ?_
    refine a_q (call_step (hW) rfl (fun a w => Try.call10 a w) rfl) rfl rfl rfl ?_
    refine go ?_
    refine a_q (call_step (hP) rfl (fun a w => Try.call11 a w) rfl) rfl rfl rfl ?_
    refine go ?_
    refine a_q (call_step (hBg) rfl (fun a w => Try.call12 a w) rfl) rfl rfl rfl ?_
    refine go ?_
    refine awp_loop_ok (fun i : Nat => i ≤ steps.length) (fun i => ⟨[(10, dI i), (5, dSteps steps), (4, .ptr 1 0), (9, .ptr 5 0), (8, dB true), (3, dB true)], [(5, [dInts (memZ m0 steps i)]), (1, layD l), (0, playD p)], []⟩) (fun i => steps.length - i) 0 (by omega) (zX) ?_
    intro i hi
    refine go ?_
    refine ck_b (fun h1 => ?_) (fun h1 => ?_) <;> try rw [h1]
    · have h1' : i < steps.length := by have := of_decide_eq_true h1; omega
      obtain ⟨s, hs⟩ := getI (l := steps) (i := i) (by omega) (by omega)
      have hs' := hs
      simp only [Int.toNat_natCast] at hs'
      have hnx := memZ_next m0 hs'
      have hok := b2 i s hs'
      rw [show (steps.take i).foldl memS m0 = memZ m0 steps i from rfl] at hok
      generalize memZ m0 steps i = mi at *
      obtain ⟨k0, k1, k2, k3⟩ := hok
      refine go ?_
      refine a_q (indexAddr_step tabOk (pStep s) rfl rfl rfl rfl rfl rfl (by first | omega | (simp; done) | (simp; omega)) (by first | omega | (simp; done) | (simp; omega)) (by first | (simp; done) | exact List.cons_ne_nil _ _) (steps_idx hs)) rfl rfl rfl ?_
      refine go ?_
      generalize h2 : s.done = cc; cases cc
      · have hfr := k1 h2
        have hLi := list_c l hL mi k2
        have hM := memDo_c mi s.acc (by omega)
        unfold memDoF at hM
        rw [if_pos (k0 h2)] at hM
        dsimp only at hM
        have hmS : memS mi s = (turnF mi s.acc).1 := by unfold memS; rw [h2]; rfl
        have hbd : ∀ x ∈ listF l mi, 1 ≤ x ∧ x ≤ l.nodes := by
          unfold listF
          exact chainF_bound _ _ _ (by simp)
        have hll : (listF l mi).length ≤ l.nodes.toNat + 1 := by
          unfold listF
          have := chainF_len (nx := fun n => atF mi (nodeF l n 7)) (N := l.nodes) (l.nodes.toNat + 1) [] (ofW (atF mi l.free)).idx
          simpa using this
        generalize listF l mi = fl at *
        refine go ?_
        refine a_q (call_step (hLi) rfl (fun a w => Try.call17 a w) rfl) rfl rfl rfl ?_
        refine go ?_
        refine awp_loop_ok (fun k : Nat => k ≤ fl.length) (fun k => ⟨[(12, dI k), (11, dInts fl), (10, dI i), (5, dSteps steps), (4, .ptr 1 0), (9, .ptr 5 0), (8, dB true), (3, dB true)], [(5, [dInts mi]), (1, layD l), (0, playD p)], []⟩) (fun k => fl.length - k) 0 (by omega) (zX) ?_
        intro k hk
        refine go ?_
        refine ck_b (fun h3 => ?_) (fun h3 => ?_) <;> try rw [h3]
        · have h3' : k < fl.length := by have := of_decide_eq_true h3; omega
          obtain ⟨n, hn⟩ := getI (l := fl) (i := k) (by omega) (by omega)
          have hn' := hn
          simp only [Int.toNat_natCast] at hn'
          have hno := hfr n (List.mem_of_getElem? hn')
          have hnb := hbd n (List.mem_of_getElem? hn')
          have hnf : -1 ≤ nodeF l n 0 ∧ nodeF l n 0 ≤ 100000000 := by
            have := hL.node
            have := hL.nodes
            unfold smallB at *
            unfold nodeF withinF
            split
            · omega
            · split <;> omega
          refine go ?_
          refine awp_region_q [] rfl (by kernel_rfl) (by kernel_rfl) ?_
          refine goQ ?_
          refine r_q (indexAddr_step tabOk [pI n] rfl rfl rfl rfl rfl rfl (by first | omega | (simp; done) | (simp; omega)) (by first | omega | (simp; done) | (simp; omega)) (by first | (simp; done) | exact List.cons_ne_nil _ _) (ints_idx hn)) rfl rfl ?_
          refine goQ ?_
          refine r_q (call_step (node_c l hL n 0 (by omega) (by omega)) rfl (fun a w => Try.call16 a w) rfl) rfl rfl ?_
          refine goQ ?_
          generalize nodeF l n 0 = fn at *
          refine go ?_
          refine a_q (indexAddr_step tabOk (pStep s) rfl rfl rfl rfl rfl rfl (by first | omega | (simp; done) | (simp; omega)) (by first | omega | (simp; done) | (simp; omega)) (by first | (simp; done) | exact List.cons_ne_nil _ _) (steps_idx hs)) rfl rfl rfl ?_
          refine go ?_
          generalize h4 : decide (s.acc.cell ≥ fn) = cc; cases cc
          · refine go ?_
            exact ⟨k + 1, by omega, by omega, zX⟩
          · have h4' := of_decide_eq_true h4
            refine go ?_
            refine a_q (indexAddr_step tabOk (pStep s) rfl rfl rfl rfl rfl rfl (by first | omega | (simp; done) | (simp; omega)) (by first | omega | (simp; done) | (simp; omega)) (by first | (simp; done) | exact List.cons_ne_nil _ _) (steps_idx hs)) rfl rfl rfl ?_
            refine go ?_
            rw [show decide (s.acc.cell < fn + 7) = false by rw [decide_eq_false_iff_not]; omega]
            refine go ?_
            exact ⟨k + 1, by omega, by omega, zX⟩
        · refine go ?_
          refine awp_region_q [] rfl (by kernel_rfl) (by kernel_rfl) ?_
          refine goQ ?_
          refine r_q (indexAddr_step tabOk (pStep s) rfl rfl rfl rfl rfl rfl (by first | omega | (simp; done) | (simp; omega)) (by first | omega | (simp; done) | (simp; omega)) (by first | (simp; done) | exact List.cons_ne_nil _ _) (steps_idx hs)) rfl rfl ?_
          refine goQ ?_
          refine r_q (call_step (hM) rfl (fun a w => Try.call13 a w) rfl) rfl rfl ?_
          refine goQ ?_
          refine go ?_
          rw [show decide ((0 : Int) = 0) = true from rfl]
          refine go ?_
          refine ⟨i + 1, by omega, by omega, ?_⟩
          rw [hnx, hmS]
          exact zX
      · refine go ?_
        refine ⟨i + 1, by omega, by omega, ?_⟩
        rw [hnx, memS, h2]
        exact zX
    · refine go ?_
      first | refine fin_ret rfl ?_ | refine fin_normal rfl ?_
      rfl
end Go.Proofs.Ytefagncaepallaa
