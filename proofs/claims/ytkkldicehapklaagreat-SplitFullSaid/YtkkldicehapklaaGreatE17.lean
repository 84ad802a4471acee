/- The table in the beginning: its walk. -/
import Derived.Test.YtkkldicehapklaaGreatE15
import Derived.Test.YtkkldicehapklaaGreatEA
namespace Go.Proofs.YtkkldicehapklaaGreat
open Go.RowKit
set_option maxRecDepth 100000
theorem rep_flat (n : Nat) (ds : List Dt) (f : kR → List Dt) (h : f jD3 = ds) : (List.replicate n ds).flatten = (List.replicate n jD3).flatMap f := by
 rw [List.flatMap_def, List.map_replicate, h]
theorem kF2 (n : Nat) (d : Dt) : (List.replicate n [d]).flatten = List.replicate n d := by
 induction n with
 | zero => rfl
 | succ n ih => rw [List.replicate_succ, List.flatten_cons, ih]; rfl
theorem rep_low (n : Nat) (d : Dt) (f : kR → Dt) (h : lowD d = f jD3) : (List.replicate n d).map lowD = (List.replicate n jD3).map f := by
 rw [List.map_replicate, List.map_replicate, h]
theorem rep_same (n : Nat) (d : Dt) (f : kR → Dt) (h : d = f jD3) : List.replicate n d = (List.replicate n jD3).map f := by
 rw [List.map_replicate, h]
set_option maxHeartbeats 8000000 in
theorem tbegin_i {s nn sl : Int} (hs : 1 ≤ s ∧ s ≤ 8) (hl : 1 ≤ sl ∧ sl ≤ 8) (hnn : 3 ≤ nn ∧ nn ≤ 1000) (n : Nat) (hn8 : n ≤ 8) :
  ImpC Tryz.prog 21 [] [wO (kT s nn sl), dI n] [] (fun d bs => d = .ptr 30 0 ∧ ∃ cs, CallsOk [] (.p (.sl true 0 [])) cs ∧ bs = vS (vZ (kT s nn sl) n) n (.p (.sl true 0 [])) cs) := by
 have hL := kF3 hs hl (n := nn) (by omega)
 have hin := hbeginA_in hs hl hnn
 have hsz : (((kT s nn sl).size.toNat : Nat) : Int) = (kT s nn sl).size := by simp only [kT]; omega
 have hszb : (kT s nn sl).size.toNat ≤ 9000 := by simp only [kT]; omega
 have hnew := memNew_c (kT s nn sl).size.toNat (by omega)
 rw [hsz] at hnew
 have hnl : (kT s nn sl).nodes = nn := rfl
 have hLM := layH_m (s := s) (n := nn) hl
 have hal := hbeginA_len (kT s nn sl)
 have hil := initF_len (kT s nn sl)
 have hall := refAll_c (List.replicate (kT s nn sl).size.toNat 0) (jB0 (kT s nn sl)) (by rw [List.length_replicate]; exact hin) (by rw [List.length_replicate]; omega) (by omega)
 have hinit := refinit_f (kT s nn sl) hL (by omega)
 have hsplit := refsplit_f (kT s nn sl) hL hLM (by simp only [kT]; omega) (by simp only [kT]; omega)
 have hba : (vN (kL (kT s nn sl) 0 1) ++ vN (jF3 (kT s nn sl) 2)) ++ [pI 2, pI (kT s nn sl).era, pI 0, pI 1] = vN (jB0 (kT s nn sl)) := by
  rw [show vN (kL (kT s nn sl) 0 1) ++ vN (jF3 (kT s nn sl) 2) = vN (kL (kT s nn sl) 0 1 ++ jF3 (kT s nn sl) 2) by simp [vN]]
  exact jH7 (kL (kT s nn sl) 0 1 ++ jF3 (kT s nn sl) 2) ⟨2, (kT s nn sl).era, 0, 1⟩
 have hsl7 : (kL (kT s nn sl) 0 1).length = 7 := rfl
 have hbl2 : (kL (kT s nn sl) 0 1).length + (jF3 (kT s nn sl) 2).length + 1 = (jB0 (kT s nn sl)).length := by omega
 have hm : (allG (List.replicate (kT s nn sl).size.toNat 0) (List.replicate (kT s nn sl).size.toNat 0) [] (jB0 (kT s nn sl))).1 = wV (kT s nn sl) := rfl
 rw [hm] at hall
 have hbt : vZ (kT s nn sl) n = ⟨wV (kT s nn sl), 0, List.replicate n jD3, [], 0, false, false⟩ := rfl
 rw [hbt]
 have hC0 : ∀ m : List Int, CallsOk [] (.p (.sl true 0 [])) [kK m] := fun m => ⟨fun _ _ => rfl, .inl ⟨rfl, rfl⟩⟩
 generalize (allG (List.replicate (kT s nn sl).size.toNat 0) (List.replicate (kT s nn sl).size.toNat 0) [] (jB0 (kT s nn sl))).2 = tl at hall
 obtain ⟨told, er⟩ := tl
 simp only at hall
 generalize wV (kT s nn sl) = m0 at hall
 generalize jB0 (kT s nn sl) = BA at hall hba hbl2 hal
 generalize jF3 (kT s nn sl) 2 = IA at hinit hba hbl2 hil
 generalize kL (kT s nn sl) 0 1 = SA at hsplit hba hbl2 hsl7
 generalize kT s nn sl = l at *
 refine vV jB Tryz.func21 rfl Tryz.ntmps21 rfl rfl rfl (by (repeat (first | exact trivial | refine ⟨rfl, ?_⟩))) fun w cl own kf => ?_
 refine go ?_
 refine jE 21 [] rfl rfl (by kernel_rfl) (by kernel_rfl) (by kernel_rfl) ?_
 refine goQ ?_
 refine r_q (jA (hnew) rfl (fun a w => Tryz.call51 a w) rfl) rfl rfl ?_
 refine goQ ?_
 refine r_callF 0 hsplit rfl (fun a w => Tryz.call52 a w) rfl rfl rfl rfl rfl (jS3 _) ?_
 refine goQ ?_
 refine r_q (jA (hinit.pure) rfl (fun a w => Tryz.call53 a w) rfl) rfl rfl ?_
 refine jL4 jB rfl rfl rfl rfl rfl rfl rfl rfl rfl rfl rfl rfl (jS3 _) (by unfold maxLen; omega) (by show (_ + _) * 32 ≤ _; omega) ?_
 refine goQ ?_
 refine jL4 (m := 1) jB rfl rfl rfl rfl rfl rfl rfl rfl rfl rfl rfl rfl rfl (by unfold maxLen; omega) (by show (_ + _) * 32 ≤ _; omega) ?_
 rw [hba, hbl2]
 refine goQ ?_
 refine r_q (jA (hall) rfl (fun a w => Tryz.call50 a w) rfl) rfl rfl ?_
 refine r_ax jB rfl rfl rfl ?_
 refine r_ax jB rfl rfl rfl ?_
 refine r_ax jB rfl rfl rfl ?_
 refine r_ax jB rfl rfl rfl ?_
 refine r_b (jL jB 36 rfl rfl rfl rfl) rfl rfl rfl rfl ?_
 refine goQ ?_
 refine go ?_
 refine jE 11 [] rfl rfl (by kernel_rfl) (by kernel_rfl) (by kernel_rfl) ?_
 refine goQ ?_
 refine r_b (jH1 jB 31 (uB (List.replicate n jD3)) rfl rfl rfl rfl rfl rfl rfl rfl rfl (by show _ * 32 ≤ _; omega) (by unfold maxLen; omega) (rep_flat n _ (fun x => opD x.op) rfl)) rfl rfl rfl rfl ?_
 refine goQ ?_
 refine r_b (jH1 jB 32 (List.replicate n (.p (.sl true 0 []))) rfl rfl rfl rfl rfl rfl rfl rfl rfl (by show _ * 24 ≤ _; omega) (by unfold maxLen; omega) (kF2 n _)) rfl rfl rfl rfl ?_
 refine goQ ?_
 refine r_b (jH1 jB 33 (List.replicate n (.p (.sl true 0 []))) rfl rfl rfl rfl rfl rfl rfl rfl rfl (by show _ * 24 ≤ _; omega) (by unfold maxLen; omega) (kF2 n _)) rfl rfl rfl rfl ?_
 refine goQ ?_
 refine r_b (jH1 jB 34 (yC (List.replicate n jD3)) rfl rfl rfl rfl rfl rfl rfl rfl rfl (by show _ * 8 ≤ _; omega) (by unfold maxLen; omega) ((kF2 n _).trans (rep_same n _ (fun x => dI x.next) rfl))) rfl rfl rfl rfl ?_
 refine goQ ?_
 refine r_b (jH1 jB 35 (List.replicate n (.p (.sl true 0 []))) rfl rfl rfl rfl rfl rfl rfl rfl rfl (by show _ * 24 ≤ _; omega) (by unfold maxLen; omega) (kF2 n _)) rfl rfl rfl rfl ?_
 refine goQ ?_
 refine qW (uA 32 rfl (rep_low n _ (fun x => dLog x.log) rfl)) ?_
 refine qW (uA 33 rfl (rep_low n _ (fun x => kK x.steps) rfl)) ?_
 refine qW (uA 35 rfl (rep_low n _ (fun x => vG x.gone) rfl)) ?_
 refine a_q (jN6 jB rfl rfl rfl) rfl rfl rfl ?_
 refine a_b (qP 30 rfl rfl rfl rfl) rfl rfl rfl rfl ?_
 refine go ?_
 refine qI (vS ⟨m0, 0, List.replicate n jD3, [], 0, false, false⟩ n (.p (.sl true 0 [])) [kK m0]) rfl rfl (by exact yL (hC0 m0) rfl rfl rfl rfl rfl rfl rfl) (by (repeat (first | exact trivial | refine ⟨rfl, ?_⟩))) ⟨rfl, _, hC0 m0, rfl⟩
end Go.Proofs.YtkkldicehapklaaGreat
