/- The clash: its walk. -/
import Derived.Test.YtdmnjoidfjidbaaGreatE18
import Derived.Test.YtdmnjoidfjidbaaGreatPD
namespace Go.Proofs.YtdmnjoidfjidbaaGreat
open Go.RowKit
set_option maxRecDepth 100000

def pTurn (x : Nat × Nat) : List Pl := [pI x.1, pI x.2]
def clashQ : List Pl := clashL.flatMap pTurn
theorem turn_idx {i : Int} {x : Nat × Nat} (h : clashL[i.toNat]? = some x) : ∀ (m : Nat) q, [pI x.1, pI x.2][m]? = some q → clashQ[i.toNat * 2 + m]? = some q := flat_idx (f := pTurn) (k := 2) (fun _ => rfl) h
theorem clashL_ok : ∀ x ∈ clashL, x.1 < 3 ∧ x.2 ≤ 20 := by decide
def clashR (i k : Nat) : List Nat := match clashL[i]? with
  | some x => List.replicate (x.2 - k) x.1 ++ (clashL.drop (i + 1)).flatMap fun x => List.replicate x.2 x.1
  | none => []
theorem clashR_in {i : Nat} {x : Nat × Nat} (h : clashL[i]? = some x) : (clashL.drop i).flatMap (fun x => List.replicate x.2 x.1) = clashR i 0 := by
  unfold clashR
  rw [h, drop_cons h, List.flatMap_cons]
  rfl
theorem clashR_step {i k : Nat} {x : Nat × Nat} (h : clashL[i]? = some x) (hk : k < x.2) : clashR i k = x.1 :: clashR i (k + 1) := by
  unfold clashR
  rw [h]
  simp only
  rw [show x.2 - k = (x.2 - (k + 1)) + 1 by omega, List.replicate_succ, List.cons_append]
theorem clashR_end {i k : Nat} {x : Nat × Nat} (h : clashL[i]? = some x) (hk : x.2 ≤ k) : clashR i k = (clashL.drop (i + 1)).flatMap fun x => List.replicate x.2 x.1 := by
  unfold clashR
  rw [h]
  simp only
  rw [show x.2 - k = 0 by omega]
  rfl
set_option maxHeartbeats 16000000 in
theorem clash_i (v a b c : Int) :
    ImpC Tryz.prog 16 [] [dLay (layE 3 16 1), dI v, dI a, dI b, dI c] [] (fun d bs => d = .ptr 30 0 ∧ bs = tabF (clashT v a b c) 3) := by
  have hL := layE_ok (s := 3) (sl := 1) (n := 16) (by omega) (by omega) (by omega)
  have hB := tbegin_i (s := 3) (nn := 16) (sl := 1) (by omega) (by omega) (by omega) 3 (by omega)
  have hU0 := begin_und (layE 3 16 1) 3
  have hsz : (beginF (layE 3 16 1)).length ≤ 1000000 := by rw [beginF_len]; simp only [layE]; omega
  have hbn : (beginT (layE 3 16 1) 3).seats.length = 3 := by simp [beginT]
  have hbc : (beginT (layE 3 16 1) 3).calls = [] := rfl
  have hE : turnsT (layE 3 16 1) (clashW v a b c) (beginT (layE 3 16 1) 3) clashN = clashT v a b c := rfl
  generalize clashT v a b c = E at *
  generalize beginT (layE 3 16 1) 3 = T0 at *
  generalize (beginF (layE 3 16 1)).length = N at *
  generalize layE 3 16 1 = l at *
  have hw : (clashW v a b c).length = 3 := rfl
  have hN := hsz
  obtain ⟨want, hwant⟩ : ∃ want, want = clashW v a b c := ⟨_, rfl⟩
  refine imp_fin tabOk Tryz.func16 rfl Tryz.ntmps16 rfl rfl rfl (by (repeat (first | exact trivial | refine ⟨rfl, ?_⟩))) fun w cl own kf => ?_
  refine go ?_
  refine aops_ghost (lowB_ghost (cs' := playD want []) 1 rfl (by rw [hwant]; rfl)) ?_
  rw [← hwant] at hE hw
  clear hwant
  refine go ?_
  refine a_callI hB rfl (fun a w => Tryz.call9 a w) rfl rfl trivial trivial rfl rfl rfl rfl ?_ ?_
  · rintro d bs ⟨rfl, cs, hC, rfl⟩; exact ⟨.inr rfl, .inr rfl, .inr rfl, .inr rfl, .inr rfl, .inr rfl, .inr rfl, trivial⟩
  rintro d bs ⟨rfl, cs0, hC0, rfl⟩
  refine go ?_
  refine awp_viaE (ι := TabT × Dt × List Dt) (.exit 0) (fun p => ⟨[(12, .ptr 30 0)], (0, layD l) :: (1, playD want []) :: tabB p.1 3 p.2.1 p.2.2, []⟩) (fun p => p.1 = E ∧ CallsOk p.1.calls p.2.1 p.2.2) ?_ ?_
  · refine awp_loop_ok (fun p : Nat × TabT × Dt × List Dt => p.1 ≤ 9 ∧ turnsT l want p.2.1 ((clashL.drop p.1).flatMap fun x => List.replicate x.2 x.1) = E ∧ Und (20 * p.1) N p.2.1 ∧ p.2.1.seats.length = 3 ∧ CallsOk p.2.1.calls p.2.2.1 p.2.2.2) (fun p => ⟨[(14, dI p.1), (13, .p (.sl true 9 clashQ)), (12, .ptr 30 0), (11, .ptr 1 0), (5, .ptr 0 0)], (0, layD l) :: (1, playD want []) :: tabB p.2.1 3 p.2.2.1 p.2.2.2, []⟩) (fun p => 9 - p.1) (0, T0, .p (.sl true 0 []), cs0) ⟨Nat.zero_le _, hE, hU0, hbn, by simp only; rw [hbc]; exact hC0⟩ (zX (hb := by exact ⟨⟨rfl, rfl⟩, ⟨rfl, rfl⟩, ⟨rfl, tabD_oks (t := T0) hC0 _ _ rfl rfl rfl rfl rfl rfl⟩, ⟨rfl, ops_plain _ _ _⟩, ⟨rfl, logs_plain _ _ _⟩, ⟨rfl, stepsC_plain _ _ _⟩, ⟨rfl, nexts_plain _ _ _⟩, ⟨rfl, gones_plain _ _ _⟩, ⟨rfl, hC0.pl _ _⟩, trivial⟩)) ?_
    clear hE hU0 hbn hbc hC0
    rintro ⟨i, t, cd, cs⟩ ⟨hi, hT, hU, hn, hC⟩
    simp only at hi hT hU hn hC
    refine (show AWP _ _ _ _ ⟨[(14, dI i), (13, .p (.sl true 9 clashQ)), (12, .ptr 30 0), (11, .ptr 1 0), (5, .ptr 0 0)], (0, layD l) :: (1, playD want []) :: tabB t 3 cd cs, []⟩ from ?_)
    refine go ?_
    refine ck_b (fun h1 => ?_) (fun h1 => ?_) <;> try rw [h1]
    · have h1' := of_decide_eq_true h1
      have hi9 : i < 9 := by omega
      obtain ⟨x, hx⟩ : ∃ x, clashL[i]? = some x := ⟨clashL[i]'(by show i < 9; omega), List.getElem?_eq_getElem _⟩
      have hx' : clashL[(i : Int).toNat]? = some x := by simpa using hx
      obtain ⟨hx3, hx20⟩ := clashL_ok x (List.mem_of_getElem? hx)
      rw [clashR_in hx] at hT
      refine go ?_
      refine awp_viaE (ι := TabT × Dt × List Dt) (.exit 2) (fun p => ⟨[(14, dI i), (13, .p (.sl true 9 clashQ)), (12, .ptr 30 0), (11, .ptr 1 0), (5, .ptr 0 0)], (0, layD l) :: (1, playD want []) :: tabB p.1 3 p.2.1 p.2.2, []⟩) (fun p => turnsT l want p.1 ((clashL.drop (i + 1)).flatMap fun x => List.replicate x.2 x.1) = E ∧ Und (20 * (i + 1)) N p.1 ∧ p.1.seats.length = 3 ∧ CallsOk p.1.calls p.2.1 p.2.2) ?_ ?_
      · refine awp_loop_ok (fun p : Nat × TabT × Dt × List Dt => p.1 ≤ x.2 ∧ turnsT l want p.2.1 (clashR i p.1) = E ∧ Und (20 * i + p.1) N p.2.1 ∧ p.2.1.seats.length = 3 ∧ CallsOk p.2.1.calls p.2.2.1 p.2.2.2) (fun p => ⟨[(15, dI p.1), (14, dI i), (13, .p (.sl true 9 clashQ)), (12, .ptr 30 0), (11, .ptr 1 0), (5, .ptr 0 0)], (0, layD l) :: (1, playD want []) :: tabB p.2.1 3 p.2.2.1 p.2.2.2, []⟩) (fun p => x.2 - p.1) (0, t, cd, cs) ⟨Nat.zero_le _, hT, hU, hn, hC⟩ (zX (hb := by exact ⟨⟨rfl, rfl⟩, ⟨rfl, rfl⟩, ⟨rfl, tabD_oks (t := t) hC _ _ rfl rfl rfl rfl rfl rfl⟩, ⟨rfl, ops_plain _ _ _⟩, ⟨rfl, logs_plain _ _ _⟩, ⟨rfl, stepsC_plain _ _ _⟩, ⟨rfl, nexts_plain _ _ _⟩, ⟨rfl, gones_plain _ _ _⟩, ⟨rfl, hC.pl _ _⟩, trivial⟩)) ?_
        clear hT hU hn hC
        rintro ⟨k, t, cd, cs⟩ ⟨hk, hT, hU, hn, hC⟩
        simp only at hk hT hU hn hC
        refine (show AWP _ _ _ _ ⟨[(15, dI k), (14, dI i), (13, .p (.sl true 9 clashQ)), (12, .ptr 30 0), (11, .ptr 1 0), (5, .ptr 0 0)], (0, layD l) :: (1, playD want []) :: tabB t 3 cd cs, []⟩ from ?_)
        refine go ?_
        refine a_q (indexAddr_step tabOk [pI x.1, pI x.2] rfl rfl rfl rfl rfl rfl (by first | omega | (simp; done) | (simp; omega)) (by first | omega | (simp; done) | (simp; omega)) (by first | (simp; done) | exact List.cons_ne_nil _ _) (turn_idx hx')) rfl rfl rfl ?_
        refine go ?_
        refine a_q (indexAddrE_step tabOk rfl rfl rfl rfl rfl (by omega) (by omega) rfl) rfl rfl rfl ?_
        refine go ?_
        refine ck_b (fun h2 => ?_) (fun h2 => ?_) <;> try rw [h2]
        · have h2' := of_decide_eq_true h2
          rw [clashR_step hx (by omega), turnsT] at hT
          refine go ?_
          refine awp_region_w 8 [] rfl rfl (by kernel_rfl) (by kernel_rfl) (by kernel_rfl) ?_
          refine goQ ?_
          refine r_q (indexAddr_step tabOk [pI x.1, pI x.2] rfl rfl rfl rfl rfl rfl (by first | omega | (simp; done) | (simp; omega)) (by first | omega | (simp; done) | (simp; omega)) (by first | (simp; done) | exact List.cons_ne_nil _ _) (turn_idx hx')) rfl rfl ?_
          refine goQ ?_
          refine r_q (indexAddrE_step tabOk rfl rfl rfl rfl rfl (by omega) (by omega) rfl) rfl rfl ?_
          refine goQ ?_
          refine go ?_
          refine a_callI (turnT_i l hL want [] t 3 (20 * i + k) N hn hw (by omega) hU (by omega) hN x.1 (by omega) cd cs hC) rfl (fun a w => Tryz.call21 a w) rfl rfl (by exact tab_sub hC rfl rfl rfl rfl rfl rfl rfl) (by (repeat (first | exact trivial | refine ⟨.inr rfl, ?_⟩ | refine ⟨.inl rfl, ?_⟩))) rfl rfl rfl rfl ?_ ?_
          · rintro d bs ⟨rfl, cd', cs', hC', rfl⟩; exact ⟨.inl rfl, .inl rfl, .inl rfl, .inl rfl, .inl rfl, .inl rfl, .inl rfl, trivial⟩
          rintro d bs ⟨rfl, cd', cs', hC', rfl⟩
          refine go ?_
          exact ⟨(k + 1, turnT l want t x.1, cd', cs'), ⟨by simp only; omega, hT, turn_und hU, by simp only; rw [turn_n]; exact hn, hC'⟩, by simp only; omega, zX (hb := by exact ⟨⟨rfl, rfl⟩, ⟨rfl, rfl⟩, ⟨rfl, tabD_oks (t := turnT l want t x.1) hC' _ _ rfl rfl rfl rfl rfl rfl⟩, ⟨rfl, ops_plain _ _ _⟩, ⟨rfl, logs_plain _ _ _⟩, ⟨rfl, stepsC_plain _ _ _⟩, ⟨rfl, nexts_plain _ _ _⟩, ⟨rfl, gones_plain _ _ _⟩, ⟨rfl, hC'.pl _ _⟩, trivial⟩)⟩
        · have h2' := of_decide_eq_false h2
          rw [clashR_end hx (by omega)] at hT
          refine go ?_
          exact ⟨rfl, (t, cd, cs), ⟨hT, hU.mono (by omega), hn, hC⟩, zX (hb := by exact ⟨⟨rfl, rfl⟩, ⟨rfl, rfl⟩, ⟨rfl, tabD_oks (t := t) hC _ _ rfl rfl rfl rfl rfl rfl⟩, ⟨rfl, ops_plain _ _ _⟩, ⟨rfl, logs_plain _ _ _⟩, ⟨rfl, stepsC_plain _ _ _⟩, ⟨rfl, nexts_plain _ _ _⟩, ⟨rfl, gones_plain _ _ _⟩, ⟨rfl, hC.pl _ _⟩, trivial⟩)⟩
      clear hT hU hn hC
      rintro σ' ⟨t, cd, cs⟩ ⟨hT, hU, hn, hC⟩ hgh
      refine zR (zP (zM (awp_ghost hgh ?_)))
      clear hgh
      simp only at hT hU hn hC
      refine (show AWP _ _ _ _ ⟨[(14, dI i), (13, .p (.sl true 9 clashQ)), (12, .ptr 30 0), (11, .ptr 1 0), (5, .ptr 0 0)], (0, layD l) :: (1, playD want []) :: tabB t 3 cd cs, []⟩ from ?_)
      refine go ?_
      exact ⟨(i + 1, t, cd, cs), ⟨by simp only; omega, hT, hU, hn, hC⟩, by simp only; omega, zX (hb := by exact ⟨⟨rfl, rfl⟩, ⟨rfl, rfl⟩, ⟨rfl, tabD_oks (t := t) hC _ _ rfl rfl rfl rfl rfl rfl⟩, ⟨rfl, ops_plain _ _ _⟩, ⟨rfl, logs_plain _ _ _⟩, ⟨rfl, stepsC_plain _ _ _⟩, ⟨rfl, nexts_plain _ _ _⟩, ⟨rfl, gones_plain _ _ _⟩, ⟨rfl, hC.pl _ _⟩, trivial⟩)⟩
    · have h1' := of_decide_eq_false h1
      have hi9 : i = 9 := by omega
      subst hi9
      refine go ?_
      exact ⟨rfl, (t, cd, cs), ⟨hT, hC⟩, zX (hb := by exact ⟨⟨rfl, rfl⟩, ⟨rfl, rfl⟩, ⟨rfl, tabD_oks (t := t) hC _ _ rfl rfl rfl rfl rfl rfl⟩, ⟨rfl, ops_plain _ _ _⟩, ⟨rfl, logs_plain _ _ _⟩, ⟨rfl, stepsC_plain _ _ _⟩, ⟨rfl, nexts_plain _ _ _⟩, ⟨rfl, gones_plain _ _ _⟩, ⟨rfl, hC.pl _ _⟩, trivial⟩)⟩
  clear hE hU0 hbn hbc hC0
  rintro σ' ⟨t, cd, cs⟩ ⟨hT, hC⟩ hgh
  refine zR (zM (awp_ghost hgh ?_))
  clear hgh
  simp only at hT hC
  subst hT
  obtain ⟨m, step, seats, calls, full, wild, bad⟩ := t
  refine (show AWP _ _ _ _ ⟨[(12, .ptr 30 0)], (0, layD l) :: (1, playD want []) :: tabB ⟨m, step, seats, calls, full, wild, bad⟩ 3 cd cs, []⟩ from ?_)
  rcases hC.at_ with ⟨hc0, rfl⟩ | ⟨c, rfl, hc1, hc2, hc3, hc4⟩
  · simp only at hc0
    subst hc0
    refine awp_ghost (lowB_ghost 30 rfl rfl) ?_
    refine go ?_
    exact finI_ret (tabF ⟨m, step, seats, [], full, wild, bad⟩ 3) rfl rfl (by exact tabF_sub rfl rfl rfl rfl rfl rfl) (by (repeat (first | exact trivial | refine ⟨rfl, ?_⟩))) ⟨rfl, rfl⟩
  · refine awp_ghost (freezeD_ghost (τs := [(12, .ptr 30 0)]) (τb := [(31, opsC seats), (32, logsC seats), (33, stepsC seats), (34, nextsC seats), (35, gonesC seats)]) (τg := []) 30 7 36 (pCalls calls) rfl rfl rfl rfl rfl ⟨⟨rfl, rfl⟩, trivial⟩ (by exact ⟨⟨rfl, rfl⟩, ⟨rfl, ops_plain _ _ _⟩, ⟨rfl, logs_plain _ _ _⟩, ⟨rfl, stepsC_plain _ _ _⟩, ⟨rfl, nexts_plain _ _ _⟩, ⟨rfl, gones_plain _ _ _⟩, trivial⟩) trivial (by (repeat (first | exact trivial | refine ⟨rfl, ?_⟩))) rfl hc1 hc2 (pCalls_len calls) hc4 hc3 (pCalls_lf calls)) ?_
    refine go ?_
    exact finI_ret (tabF ⟨m, step, seats, calls, full, wild, bad⟩ 3) rfl rfl (by exact tabF_sub rfl rfl rfl rfl rfl rfl) (by (repeat (first | exact trivial | refine ⟨rfl, ?_⟩))) ⟨rfl, rfl⟩
end Go.Proofs.YtdmnjoidfjidbaaGreat
