/- A second table in the beginning, and memories held against each other: their walk. -/
import Derived.Test.YtdmnjoidfjidbaaGreatE22
namespace Go.Proofs.YtdmnjoidfjidbaaGreat
open Go.RowKit
set_option maxRecDepth 100000

theorem refsame_s (xs : List Int) (hn : xs.length ≤ 1000000) : PureC Tryz.prog 13 [dMem xs, dMem xs] (dB true) := by
  refine pure_fin tabOk Tryz.func13 rfl Tryz.ntmps13 rfl rfl rfl fun w cl => ?_
  refine go ?_
  rw [show decide ((xs.length : Int) = xs.length) = true from decide_eq_true rfl]
  refine go ?_
  refine awp_loop_ok (fun i : Nat => i ≤ xs.length) (fun i => ⟨[(5, dI i), (4, dB false), (3, .ptr 1 0), (2, .ptr 0 0)], [(1, [dInts xs]), (0, [dInts xs])], []⟩) (fun i => xs.length - i) 0 (Nat.zero_le _) (zX) ?_
  intro i hi
  refine go ?_
  refine ck_b (fun h1 => ?_) (fun h1 => ?_) <;> try rw [h1]
  · have h1' := of_decide_eq_true h1
    obtain ⟨x, hx⟩ : ∃ x, xs[i]? = some x := ⟨xs[i]'(by omega), List.getElem?_eq_getElem _⟩
    have hxi : xs[(i : Int).toNat]? = some x := by simpa using hx
    refine go ?_
    refine awp_region_q [] rfl (by kernel_rfl) (by kernel_rfl) ?_
    refine goQ ?_
    refine r_q (indexAddr_step tabOk [pI x] rfl rfl rfl rfl rfl rfl (by first | omega | (simp; done) | (simp; omega)) (by first | omega | (simp; done) | (simp; omega)) (by first | (simp; done) | exact List.cons_ne_nil _ _) (ints_idx hxi)) rfl rfl ?_
    refine goQ ?_
    refine r_q (indexAddr_step tabOk [pI x] rfl rfl rfl rfl rfl rfl (by first | omega | (simp; done) | (simp; omega)) (by first | omega | (simp; done) | (simp; omega)) (by first | (simp; done) | exact List.cons_ne_nil _ _) (ints_idx hxi)) rfl rfl ?_
    refine goQ ?_
    refine go ?_
    rw [show decide (x = x) = true from decide_eq_true rfl]
    refine go ?_
    exact ⟨i + 1, by omega, by omega, zX⟩
  · refine go ?_
    first | refine fin_ret rfl ?_ | refine fin_normal rfl ?_
    rfl
set_option maxHeartbeats 8000000 in
theorem tbegin2_i {s nn sl : Int} (hs : 1 ≤ s ∧ s ≤ 8) (hl : 1 ≤ sl ∧ sl ≤ 8) (hnn : 2 ≤ nn ∧ nn ≤ 1000) (n : Nat) (hn8 : n ≤ 8) :
    ImpC Tryz.prog 9 [] [dLay (layE s nn sl), dI n] [] (fun d bs => d = .ptr 40 0 ∧ bs = [(40, [dInts (beginF (layE s nn sl)), dI 0, .arr 41 0 n n, .arr 42 0 n n, .arr 43 0 n n, .arr 44 0 n n, .arr 45 0 n n, .p (.sl true 0 []), dI 0, dB false, dB false]), (41, opsC (List.replicate n seat0)), (42, logsC (List.replicate n seat0)), (43, stepsC (List.replicate n seat0)), (44, nextsC (List.replicate n seat0)), (45, gonesC (List.replicate n seat0))]) := by
  have hL := layE_ok hs hl (n := nn) (by omega)
  have hin := beginA_in hs hl hnn
  have hsz : (((layE s nn sl).size.toNat : Nat) : Int) = (layE s nn sl).size := by simp only [layE]; omega
  have hszb : (layE s nn sl).size.toNat ≤ 9000 := by simp only [layE]; omega
  have hnew := memNew_c (layE s nn sl).size.toNat (by omega)
  rw [hsz] at hnew
  have hnl : (layE s nn sl).nodes = nn := rfl
  have hal := beginA_len (layE s nn sl)
  have hil := initF_len (layE s nn sl)
  have hall := refAll_c (List.replicate (layE s nn sl).size.toNat 0) (beginA (layE s nn sl)) (by rw [List.length_replicate]; exact hin) (by rw [List.length_replicate]; omega) (by omega)
  have hinit := refinit_f (layE s nn sl) hL (by omega)
  have hba : pAccs (initF (layE s nn sl) 1) ++ [pI 2, pI (layE s nn sl).era, pI 0, pI 1] = pAccs (beginA (layE s nn sl)) := pAccs_snoc (initF (layE s nn sl) 1) ⟨2, (layE s nn sl).era, 0, 1⟩
  have hbl2 : (initF (layE s nn sl) 1).length + 1 = (beginA (layE s nn sl)).length := by omega
  have hm : (allG (List.replicate (layE s nn sl).size.toNat 0) (List.replicate (layE s nn sl).size.toNat 0) [] (beginA (layE s nn sl))).1 = beginF (layE s nn sl) := rfl
  rw [hm] at hall
  generalize (allG (List.replicate (layE s nn sl).size.toNat 0) (List.replicate (layE s nn sl).size.toNat 0) [] (beginA (layE s nn sl))).2 = tl at hall
  obtain ⟨told, er⟩ := tl
  simp only at hall
  generalize beginF (layE s nn sl) = m0 at hall ⊢
  generalize beginA (layE s nn sl) = BA at hall hba hbl2 hal
  generalize initF (layE s nn sl) 1 = IA at hinit hba hbl2 hil
  generalize layE s nn sl = l at *
  refine imp_fin tabOk Tryz.func9 rfl Tryz.ntmps9 rfl rfl rfl (by (repeat (first | exact trivial | refine ⟨rfl, ?_⟩))) fun w cl own kf => ?_
  refine go ?_
  refine awp_region_w 18 [] rfl rfl (by kernel_rfl) (by kernel_rfl) (by kernel_rfl) ?_
  refine goQ ?_
  refine r_q (call_step (hnew) rfl (fun a w => Tryz.call23 a w) rfl) rfl rfl ?_
  refine goQ ?_
  refine r_callF 0 hinit rfl (fun a w => Tryz.call24 a w) rfl rfl rfl rfl rfl (pAccs_len _) ?_
  refine goQ ?_
  refine r_append (m := 1) tabOk rfl rfl rfl rfl rfl rfl rfl rfl rfl rfl rfl rfl rfl (by unfold maxLen; omega) (by show (_ + _) * 32 ≤ _; omega) ?_
  rw [hba, hbl2]
  refine goQ ?_
  refine r_q (call_step (hall) rfl (fun a w => Tryz.call22 a w) rfl) rfl rfl ?_
  refine r_ax tabOk rfl rfl rfl ?_
  refine r_ax tabOk rfl rfl rfl ?_
  refine r_ax tabOk rfl rfl rfl ?_
  refine r_ax tabOk rfl rfl rfl ?_
  refine r_b (alloc_step tabOk 46 rfl rfl rfl rfl) rfl rfl rfl rfl ?_
  refine goQ ?_
  refine go ?_
  refine awp_region_w 11 [] rfl rfl (by kernel_rfl) (by kernel_rfl) (by kernel_rfl) ?_
  refine goQ ?_
  refine r_b (makeG_step tabOk 41 (opsC (List.replicate n seat0)) rfl rfl rfl rfl rfl rfl rfl rfl rfl (by show _ * 32 ≤ _; omega) (by unfold maxLen; omega) (rep_flat n _ (fun x => opD x.op) rfl)) rfl rfl rfl rfl ?_
  refine goQ ?_
  refine r_b (makeG_step tabOk 42 (List.replicate n (.p (.sl true 0 []))) rfl rfl rfl rfl rfl rfl rfl rfl rfl (by show _ * 24 ≤ _; omega) (by unfold maxLen; omega) (rep_map n _)) rfl rfl rfl rfl ?_
  refine goQ ?_
  refine r_b (makeG_step tabOk 43 (List.replicate n (.p (.sl true 0 []))) rfl rfl rfl rfl rfl rfl rfl rfl rfl (by show _ * 24 ≤ _; omega) (by unfold maxLen; omega) (rep_map n _)) rfl rfl rfl rfl ?_
  refine goQ ?_
  refine r_b (makeG_step tabOk 44 (nextsC (List.replicate n seat0)) rfl rfl rfl rfl rfl rfl rfl rfl rfl (by show _ * 8 ≤ _; omega) (by unfold maxLen; omega) ((rep_map n _).trans (rep_same n _ (fun x => dI x.next) rfl))) rfl rfl rfl rfl ?_
  refine goQ ?_
  refine r_b (makeG_step tabOk 45 (List.replicate n (.p (.sl true 0 []))) rfl rfl rfl rfl rfl rfl rfl rfl rfl (by show _ * 24 ≤ _; omega) (by unfold maxLen; omega) (rep_map n _)) rfl rfl rfl rfl ?_
  refine goQ ?_
  refine aops_ghost (lowB_ghost 42 rfl (rep_low n _ (fun x => dLog x.log) rfl)) ?_
  refine aops_ghost (lowB_ghost 43 rfl (rep_low n _ (fun x => dInts x.steps) rfl)) ?_
  refine aops_ghost (lowB_ghost 45 rfl (rep_low n _ (fun x => dGone x.gone) rfl)) ?_
  refine a_q (build_step tabOk rfl rfl rfl) rfl rfl rfl ?_
  refine a_b (box_step 40 rfl rfl rfl rfl) rfl rfl rfl rfl ?_
  refine go ?_
  refine finI_ret ([(40, [dInts m0, dI 0, .arr 41 0 n n, .arr 42 0 n n, .arr 43 0 n n, .arr 44 0 n n, .arr 45 0 n n, .p (.sl true 0 []), dI 0, dB false, dB false]), (41, opsC (List.replicate n seat0)), (42, logsC (List.replicate n seat0)), (43, stepsC (List.replicate n seat0)), (44, nextsC (List.replicate n seat0)), (45, gonesC (List.replicate n seat0))]) rfl rfl (by exact ⟨⟨rfl, rfl⟩, ⟨rfl, ops_plain _ _ _⟩, ⟨rfl, logs_plain _ _ _⟩, ⟨rfl, stepsC_plain _ _ _⟩, ⟨rfl, nexts_plain _ _ _⟩, ⟨rfl, gones_plain _ _ _⟩, trivial⟩) (by (repeat (first | exact trivial | refine ⟨rfl, ?_⟩))) ⟨rfl, rfl⟩
end Go.Proofs.YtdmnjoidfjidbaaGreat
