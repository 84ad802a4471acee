/- A list rises: the law's walk. -/
import Derived.Test.YtefagncaepallaaE11
namespace Go.Proofs.Ytefagncaepallaa
open Go.RowKit
set_option maxRecDepth 100000

theorem tmod_zero {a : Int} (h : a % 65536 = 0) : a.tmod 65536 = 0 := Int.tmod_eq_zero_of_dvd (Int.dvd_of_emod_eq_zero h)
set_option maxHeartbeats 8000000 in
theorem listRises_c (p : PlayT) (hf : PlayFits p) : PureC Try.prog 3 [dPlay p] (dB true) := by
  have hfew := few_c p
  have hpg := fun h => few_play hf h
  refine pure_fin tabOk Try.func3 rfl Try.ntmps3 rfl rfl rfl fun w cl => ?_
  refine go ?_
  refine a_q (call_step (awake_c) rfl (fun a w => Try.call8 a w) rfl) rfl rfl rfl ?_
  refine go ?_
  refine a_q (call_step (hfew) rfl (fun a w => Try.call9 a w) rfl) rfl rfl rfl ?_
  generalize fewF p = fb at *
  refine go ?_
  cases fb
  · refine go ?_
    first | refine fin_ret rfl ?_ | refine fin_normal rfl ?_
    rfl
  · have hp := hpg rfl
    obtain ⟨b1, b2⟩ := rises_true hp
    have hw1 := hp.ok.w1
    have hw3 := hp.ok.w3
    have hW := where_c p hw1 (by omega) hp.ok.n0
    have hL : LayOk (layP p) := layP_ok hw1 (by omega)
    have hP := played_c p hp
    have hsz := layP_size p
    have hnd : (layP p).nodes = 2 + p.nodes % 8 := rfl
    have hBg := begin_c (layP p) hL (by omega) (by omega) (by omega) (by omega)
    have hlen := played_len hp
    generalize layP p = l at *
    generalize playedF p = R at *
    obtain ⟨steps, m, gone, ends⟩ := R
    simp only at b1 b2 hlen
    subst b1
    dsimp only [dPlayed] at hP
    generalize beginF l = m0 at *
    refine go ?_
    refine a_q (call_step (hW) rfl (fun a w => Try.call10 a w) rfl) rfl rfl rfl ?_
    refine go ?_
    refine a_q (call_step (hP) rfl (fun a w => Try.call11 a w) rfl) rfl rfl rfl ?_
    refine go ?_
    refine a_q (call_step (hBg) rfl (fun a w => Try.call12 a w) rfl) rfl rfl rfl ?_
    refine go ?_
    refine awp_loop_ok (fun i : Nat => i ≤ steps.length) (fun i => ⟨[(10, dI i), (5, dSteps steps), (4, .ptr 1 0), (9, .ptr 5 0), (8, dB true), (3, dB true)], [(5, [dInts (memZ m0 steps i)]), (1, layD l), (0, playD p)], []⟩) (fun i => steps.length - i) 0 (by omega) (zX) ?_
    intro i hi
    refine go ?_
    refine ck_b (fun h1 => ?_) (fun h1 => ?_) <;> try rw [h1]
    · have h1' : i < steps.length := by have := of_decide_eq_true h1; omega
      obtain ⟨s, hs⟩ := getI (l := steps) (i := i) (by omega) (by omega)
      have hs' := hs
      simp only [Int.toNat_natCast] at hs'
      have hnx := memZ_next m0 hs'
      have hok := b2 i s hs'
      rw [show (steps.take i).foldl memS m0 = memZ m0 steps i from rfl] at hok
      generalize memZ m0 steps i = mi at *
      obtain ⟨k0, k1, k2, k3, k4, k5⟩ := hok
      refine go ?_
      refine a_q (indexAddr_step tabOk (pStep s) rfl rfl rfl rfl rfl rfl (by first | omega | (simp; done) | (simp; omega)) (by first | omega | (simp; done) | (simp; omega)) (by first | (simp; done) | exact List.cons_ne_nil _ _) (steps_idx hs)) rfl rfl rfl ?_
      refine go ?_
      generalize h2 : s.done = cc; cases cc
      · have hM := memDo_c mi s.acc (by omega)
        unfold memDoF at hM
        rw [if_pos (k0 h2)] at hM
        dsimp only at hM
        have hmS : memS mi s = (turnF mi s.acc).1 := by unfold memS; rw [h2]; rfl
        have hr1 := k1 h2
        have hr2 := k2 h2
        have hr3 := k3 h2
        rw [hmS] at hr1 hr2 hr3 k4 hnx
        generalize (turnF mi s.acc).1 = m1 at *
        have hNo := nodes_c l hL m1 l.map
        have hnl := nodesF_len l m1 l.map
        generalize nodesF l m1 l.map = ns at *
        refine go ?_
        refine awp_region_q [] rfl (by kernel_rfl) (by kernel_rfl) ?_
        refine goQ ?_
        refine r_q (indexAddr_step tabOk (pStep s) rfl rfl rfl rfl rfl rfl (by first | omega | (simp; done) | (simp; omega)) (by first | omega | (simp; done) | (simp; omega)) (by first | (simp; done) | exact List.cons_ne_nil _ _) (steps_idx hs)) rfl rfl ?_
        refine goQ ?_
        refine r_q (call_step (hM) rfl (fun a w => Try.call13 a w) rfl) rfl rfl ?_
        refine goQ ?_
        refine go ?_
        rw [show decide ((0 : Int) = 0) = true from rfl]
        refine go ?_
        refine a_q (call_step (hNo) rfl (fun a w => Try.call14 a w) rfl) rfl rfl rfl ?_
        refine go ?_
        refine awp_loop_ok (fun k : Nat => k ≤ ns.length) (fun k => ⟨[(15, dI k), (14, dInts ns), (10, dI i), (5, dSteps steps), (4, .ptr 1 0), (9, .ptr 5 0), (8, dB true), (3, dB true)], [(5, [dInts m1]), (1, layD l), (0, playD p)], []⟩) (fun k => ns.length - k) 0 (by omega) (zX) ?_
        intro k hk
        refine go ?_
        refine ck_b (fun h3 => ?_) (fun h3 => ?_) <;> try rw [h3]
        · have h3' : k < ns.length := by have := of_decide_eq_true h3; omega
          obtain ⟨n, hn⟩ := getI (l := ns) (i := k) (by omega) (by omega)
          have hn' := hn
          simp only [Int.toNat_natCast] at hn'
          have hnb := hr3 n (List.mem_of_getElem? hn')
          refine go ?_
          refine awp_region_q [] rfl (by kernel_rfl) (by kernel_rfl) ?_
          refine goQ ?_
          refine r_q (indexAddr_step tabOk [pI n] rfl rfl rfl rfl rfl rfl (by first | omega | (simp; done) | (simp; omega)) (by first | omega | (simp; done) | (simp; omega)) (by first | (simp; done) | exact List.cons_ne_nil _ _) (ints_idx hn)) rfl rfl ?_
          refine goQ ?_
          refine r_q (call_step (node_c l hL n 1 (by omega) (by omega)) rfl (fun a w => Try.call16 a w) rfl) rfl rfl ?_
          refine goQ ?_
          refine r_q (call_step (cell_c m1 (nodeF l n 1)) rfl (fun a w => Try.call15 a w) rfl) rfl rfl ?_
          refine goQ ?_
          refine go ?_
          refine awp_region_q [] rfl (by kernel_rfl) (by kernel_rfl) ?_
          refine goQ ?_
          rcases Nat.eq_zero_or_pos k with h4 | h4
          · rw [show decide ((k : Int) > 0) = false by rw [decide_eq_false_iff_not]; omega]
            refine goQ ?_
            refine go ?_
            refine awp_region_q [] rfl (by kernel_rfl) (by kernel_rfl) ?_
            refine goQ ?_
            generalize h6 : decide ((k : Int) = (ns.length : Int) - 1) = cc; cases cc
            · refine goQ ?_
              refine go ?_
              exact ⟨k + 1, by omega, by omega, zX⟩
            · have h6' := of_decide_eq_true h6
              have hz := tmod_zero (hr2 (ns.take k) n (by
                conv => lhs; rw [← List.take_append_drop k ns]
                rw [List.drop_eq_getElem_cons h3', List.drop_eq_nil_of_le (by omega), (List.getElem?_eq_some_iff.1 hn').2]))
              refine goQ ?_
              refine r_q (indexAddr_step tabOk [pI n] rfl rfl rfl rfl rfl rfl (by first | omega | (simp; done) | (simp; omega)) (by first | omega | (simp; done) | (simp; omega)) (by first | (simp; done) | exact List.cons_ne_nil _ _) (ints_idx hn)) rfl rfl ?_
              refine goQ ?_
              refine r_q (call_step (node_c l hL n 0 (by omega) (by omega)) rfl (fun a w => Try.call16 a w) rfl) rfl rfl ?_
              refine goQ ?_
              refine r_q (call_step (cell_c m1 (nodeF l n 0)) rfl (fun a w => Try.call15 a w) rfl) rfl rfl ?_
              refine goQ ?_
              refine r_q (remT_step rfl rfl rfl (by omega)) rfl rfl ?_
              rw [hz]
              refine goQ ?_
              rw [show decide ((0 : Int) = 0) = true from rfl]
              refine go ?_
              exact ⟨k + 1, by omega, by omega, zX⟩
          · have h5 : k - 1 < ns.length := by omega
            have hp1 : ns[((k : Int) - 1).toNat]? = some ns[k - 1] := by rw [show ((k : Int) - 1).toNat = k - 1 by omega]; exact List.getElem?_eq_getElem h5
            have hp2 : atF m1 (nodeF l ns[k - 1] 1) < atF m1 (nodeF l n 1) := by
              have := List.pairwise_iff_getElem.1 hr1 (k - 1) k h5 h3' (by omega)
              rw [(List.getElem?_eq_some_iff.1 hn').2] at this
              exact this
            have hpb := hr3 ns[k - 1] (List.getElem_mem h5)
            generalize ns[k - 1] = n0 at *
            rw [show decide ((k : Int) > 0) = true by rw [decide_eq_true_eq]; omega]
            refine goQ ?_
            refine r_q (max_step rfl rfl rfl) rfl rfl ?_
            rw [if_neg (by omega)]
            refine goQ ?_
            refine r_q (indexAddr_step tabOk [pI n0] rfl rfl rfl rfl rfl rfl (by first | omega | (simp; done) | (simp; omega)) (by first | omega | (simp; done) | (simp; omega)) (by first | (simp; done) | exact List.cons_ne_nil _ _) (ints_idx hp1)) rfl rfl ?_
            refine goQ ?_
            refine r_q (call_step (node_c l hL n0 1 (by omega) (by omega)) rfl (fun a w => Try.call16 a w) rfl) rfl rfl ?_
            refine goQ ?_
            refine r_q (call_step (cell_c m1 (nodeF l n0 1)) rfl (fun a w => Try.call15 a w) rfl) rfl rfl ?_
            refine goQ ?_
            rw [show decide (atF m1 (nodeF l n 1) ≤ atF m1 (nodeF l n0 1)) = false by rw [decide_eq_false_iff_not]; omega]
            refine goQ ?_
            refine go ?_
            refine awp_region_q [] rfl (by kernel_rfl) (by kernel_rfl) ?_
            refine goQ ?_
            generalize h6 : decide ((k : Int) = (ns.length : Int) - 1) = cc; cases cc
            · refine goQ ?_
              refine go ?_
              exact ⟨k + 1, by omega, by omega, zX⟩
            · have h6' := of_decide_eq_true h6
              have hz := tmod_zero (hr2 (ns.take k) n (by
                conv => lhs; rw [← List.take_append_drop k ns]
                rw [List.drop_eq_getElem_cons h3', List.drop_eq_nil_of_le (by omega), (List.getElem?_eq_some_iff.1 hn').2]))
              refine goQ ?_
              refine r_q (indexAddr_step tabOk [pI n] rfl rfl rfl rfl rfl rfl (by first | omega | (simp; done) | (simp; omega)) (by first | omega | (simp; done) | (simp; omega)) (by first | (simp; done) | exact List.cons_ne_nil _ _) (ints_idx hn)) rfl rfl ?_
              refine goQ ?_
              refine r_q (call_step (node_c l hL n 0 (by omega) (by omega)) rfl (fun a w => Try.call16 a w) rfl) rfl rfl ?_
              refine goQ ?_
              refine r_q (call_step (cell_c m1 (nodeF l n 0)) rfl (fun a w => Try.call15 a w) rfl) rfl rfl ?_
              refine goQ ?_
              refine r_q (remT_step rfl rfl rfl (by omega)) rfl rfl ?_
              rw [hz]
              refine goQ ?_
              rw [show decide ((0 : Int) = 0) = true from rfl]
              refine go ?_
              exact ⟨k + 1, by omega, by omega, zX⟩
        · refine go ?_
          refine ⟨i + 1, by omega, by omega, ?_⟩
          rw [hnx]
          exact zX
      · refine go ?_
        refine ⟨i + 1, by omega, by omega, ?_⟩
        rw [hnx, memS, h2]
        exact zX
    · refine go ?_
      first | refine fin_ret rfl ?_ | refine fin_normal rfl ?_
      rfl
end Go.Proofs.Ytefagncaepallaa
