/- The table in the beginning: its walk. -/
import Derived.Test.YtkkldicehapklaaGreatE15
import Derived.Test.YtkkldicehapklaaGreatEA
namespace Go.Proofs.YtkkldicehapklaaGreat
open Go.RowKit
set_option maxRecDepth 100000

theorem rep_flat (n : Nat) (ds : List Dt) (f : HSeatT → List Dt) (h : f hseat0 = ds) : (List.replicate n ds).flatten = (List.replicate n hseat0).flatMap f := by
  rw [List.flatMap_def, List.map_replicate, h]
theorem rep_map (n : Nat) (d : Dt) : (List.replicate n [d]).flatten = List.replicate n d := by
  induction n with
  | zero => rfl
  | succ n ih => rw [List.replicate_succ, List.flatten_cons, ih]; rfl
theorem rep_low (n : Nat) (d : Dt) (f : HSeatT → Dt) (h : lowD d = f hseat0) : (List.replicate n d).map lowD = (List.replicate n hseat0).map f := by
  rw [List.map_replicate, List.map_replicate, h]
theorem rep_same (n : Nat) (d : Dt) (f : HSeatT → Dt) (h : d = f hseat0) : List.replicate n d = (List.replicate n hseat0).map f := by
  rw [List.map_replicate, h]
set_option maxHeartbeats 8000000 in
theorem tbegin_i {s nn sl : Int} (hs : 1 ≤ s ∧ s ≤ 8) (hl : 1 ≤ sl ∧ sl ≤ 8) (hnn : 3 ≤ nn ∧ nn ≤ 1000) (n : Nat) (hn8 : n ≤ 8) :
    ImpC Tryz.prog 21 [] [dLay (layH s nn sl), dI n] [] (fun d bs => d = .ptr 30 0 ∧ ∃ cs, CallsOk [] (.p (.sl true 0 [])) cs ∧ bs = tabB (hbeginT (layH s nn sl) n) n (.p (.sl true 0 [])) cs) := by
  have hL := layH_ok hs hl (n := nn) (by omega)
  have hin := hbeginA_in hs hl hnn
  have hsz : (((layH s nn sl).size.toNat : Nat) : Int) = (layH s nn sl).size := by simp only [layH]; omega
  have hszb : (layH s nn sl).size.toNat ≤ 9000 := by simp only [layH]; omega
  have hnew := memNew_c (layH s nn sl).size.toNat (by omega)
  rw [hsz] at hnew
  have hnl : (layH s nn sl).nodes = nn := rfl
  have hLM := layH_m (s := s) (n := nn) hl
  have hal := hbeginA_len (layH s nn sl)
  have hil := initF_len (layH s nn sl)
  have hall := refAll_c (List.replicate (layH s nn sl).size.toNat 0) (hbeginA (layH s nn sl)) (by rw [List.length_replicate]; exact hin) (by rw [List.length_replicate]; omega) (by omega)
  have hinit := refinit_f (layH s nn sl) hL (by omega)
  have hsplit := refsplit_f (layH s nn sl) hL hLM (by simp only [layH]; omega) (by simp only [layH]; omega)
  have hba : (pAccs (splitInit (layH s nn sl) 0 1) ++ pAccs (initF (layH s nn sl) 2)) ++ [pI 2, pI (layH s nn sl).era, pI 0, pI 1] = pAccs (hbeginA (layH s nn sl)) := by
    rw [show pAccs (splitInit (layH s nn sl) 0 1) ++ pAccs (initF (layH s nn sl) 2) = pAccs (splitInit (layH s nn sl) 0 1 ++ initF (layH s nn sl) 2) by simp [pAccs]]
    exact pAccs_snoc (splitInit (layH s nn sl) 0 1 ++ initF (layH s nn sl) 2) ⟨2, (layH s nn sl).era, 0, 1⟩
  have hsl7 : (splitInit (layH s nn sl) 0 1).length = 7 := rfl
  have hbl2 : (splitInit (layH s nn sl) 0 1).length + (initF (layH s nn sl) 2).length + 1 = (hbeginA (layH s nn sl)).length := by omega
  have hm : (allG (List.replicate (layH s nn sl).size.toNat 0) (List.replicate (layH s nn sl).size.toNat 0) [] (hbeginA (layH s nn sl))).1 = hbeginF (layH s nn sl) := rfl
  rw [hm] at hall
  have hbt : hbeginT (layH s nn sl) n = ⟨hbeginF (layH s nn sl), 0, List.replicate n hseat0, [], 0, false, false⟩ := rfl
  rw [hbt]
  have hC0 : ∀ m : List Int, CallsOk [] (.p (.sl true 0 [])) [dInts m] := fun m => ⟨fun _ _ => rfl, .inl ⟨rfl, rfl⟩⟩
  generalize (allG (List.replicate (layH s nn sl).size.toNat 0) (List.replicate (layH s nn sl).size.toNat 0) [] (hbeginA (layH s nn sl))).2 = tl at hall
  obtain ⟨told, er⟩ := tl
  simp only at hall
  generalize hbeginF (layH s nn sl) = m0 at hall
  generalize hbeginA (layH s nn sl) = BA at hall hba hbl2 hal
  generalize initF (layH s nn sl) 2 = IA at hinit hba hbl2 hil
  generalize splitInit (layH s nn sl) 0 1 = SA at hsplit hba hbl2 hsl7
  generalize layH s nn sl = l at *
  refine imp_fin tabOk Tryz.func21 rfl Tryz.ntmps21 rfl rfl rfl (by (repeat (first | exact trivial | refine ⟨rfl, ?_⟩))) fun w cl own kf => ?_
  refine go ?_
  refine awp_region_w 21 [] rfl rfl (by kernel_rfl) (by kernel_rfl) (by kernel_rfl) ?_
  refine goQ ?_
  refine r_q (call_step (hnew) rfl (fun a w => Tryz.call51 a w) rfl) rfl rfl ?_
  refine goQ ?_
  refine r_callF 0 hsplit rfl (fun a w => Tryz.call52 a w) rfl rfl rfl rfl rfl (pAccs_len _) ?_
  refine goQ ?_
  refine r_q (call_step (hinit.pure) rfl (fun a w => Tryz.call53 a w) rfl) rfl rfl ?_
  refine r_append tabOk rfl rfl rfl rfl rfl rfl rfl rfl rfl rfl rfl rfl (pAccs_len _) (by unfold maxLen; omega) (by show (_ + _) * 32 ≤ _; omega) ?_
  refine goQ ?_
  refine r_append (m := 1) tabOk rfl rfl rfl rfl rfl rfl rfl rfl rfl rfl rfl rfl rfl (by unfold maxLen; omega) (by show (_ + _) * 32 ≤ _; omega) ?_
  rw [hba, hbl2]
  refine goQ ?_
  refine r_q (call_step (hall) rfl (fun a w => Tryz.call50 a w) rfl) rfl rfl ?_
  refine r_ax tabOk rfl rfl rfl ?_
  refine r_ax tabOk rfl rfl rfl ?_
  refine r_ax tabOk rfl rfl rfl ?_
  refine r_ax tabOk rfl rfl rfl ?_
  refine r_b (alloc_step tabOk 36 rfl rfl rfl rfl) rfl rfl rfl rfl ?_
  refine goQ ?_
  refine go ?_
  refine awp_region_w 11 [] rfl rfl (by kernel_rfl) (by kernel_rfl) (by kernel_rfl) ?_
  refine goQ ?_
  refine r_b (makeG_step tabOk 31 (opsC (List.replicate n hseat0)) rfl rfl rfl rfl rfl rfl rfl rfl rfl (by show _ * 32 ≤ _; omega) (by unfold maxLen; omega) (rep_flat n _ (fun x => opD x.op) rfl)) rfl rfl rfl rfl ?_
  refine goQ ?_
  refine r_b (makeG_step tabOk 32 (List.replicate n (.p (.sl true 0 []))) rfl rfl rfl rfl rfl rfl rfl rfl rfl (by show _ * 24 ≤ _; omega) (by unfold maxLen; omega) (rep_map n _)) rfl rfl rfl rfl ?_
  refine goQ ?_
  refine r_b (makeG_step tabOk 33 (List.replicate n (.p (.sl true 0 []))) rfl rfl rfl rfl rfl rfl rfl rfl rfl (by show _ * 24 ≤ _; omega) (by unfold maxLen; omega) (rep_map n _)) rfl rfl rfl rfl ?_
  refine goQ ?_
  refine r_b (makeG_step tabOk 34 (nextsC (List.replicate n hseat0)) rfl rfl rfl rfl rfl rfl rfl rfl rfl (by show _ * 8 ≤ _; omega) (by unfold maxLen; omega) ((rep_map n _).trans (rep_same n _ (fun x => dI x.next) rfl))) rfl rfl rfl rfl ?_
  refine goQ ?_
  refine r_b (makeG_step tabOk 35 (List.replicate n (.p (.sl true 0 []))) rfl rfl rfl rfl rfl rfl rfl rfl rfl (by show _ * 24 ≤ _; omega) (by unfold maxLen; omega) (rep_map n _)) rfl rfl rfl rfl ?_
  refine goQ ?_
  refine aops_ghost (lowB_ghost 32 rfl (rep_low n _ (fun x => dLog x.log) rfl)) ?_
  refine aops_ghost (lowB_ghost 33 rfl (rep_low n _ (fun x => dInts x.steps) rfl)) ?_
  refine aops_ghost (lowB_ghost 35 rfl (rep_low n _ (fun x => dGone x.gone) rfl)) ?_
  refine a_q (build_step tabOk rfl rfl rfl) rfl rfl rfl ?_
  refine a_b (box_step 30 rfl rfl rfl rfl) rfl rfl rfl rfl ?_
  refine go ?_
  refine finI_ret (tabB ⟨m0, 0, List.replicate n hseat0, [], 0, false, false⟩ n (.p (.sl true 0 [])) [dInts m0]) rfl rfl (by exact tab_sub (hC0 m0) rfl rfl rfl rfl rfl rfl rfl) (by (repeat (first | exact trivial | refine ⟨rfl, ?_⟩))) ⟨rfl, _, hC0 m0, rfl⟩
end Go.Proofs.YtkkldicehapklaaGreat
