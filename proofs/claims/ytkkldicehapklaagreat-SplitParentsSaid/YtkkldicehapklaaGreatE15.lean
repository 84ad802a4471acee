/- The end of an operation: its walk. -/
import Derived.Test.YtkkldicehapklaaGreatE14
import Derived.Test.YtkkldicehapklaaGreatAny
namespace Go.Proofs.YtkkldicehapklaaGreat
open Go.RowKit
set_option maxRecDepth 100000

set_option maxHeartbeats 8000000 in
theorem end_i (t : HTabT) (n : Nat) (who : Nat) (x : HSeatT) (out : OutT) (hn : t.seats.length = n) (hn8 : n ≤ 8) (hx : t.seats[who]? = some x) (hsl : x.steps.length ≤ 100000) (hf : 0 ≤ t.full ∧ t.full ≤ 100000) (hcl : t.calls.length ≤ 100000) (cd : Dt) (cs : List Dt) (hC : CallsOk t.calls cd cs) :
    ImpC Tryz.prog 54 [30, 31, 32, 33, 34, 35] [.ptr 30 0, dI who, dOut out] (tabB t n cd cs) (fun d bs => d = .tup [] ∧ ∃ cd' cs', CallsOk (hendT t who x out).calls cd' cs' ∧ bs = tabB (hendT t who x out) n cd' cs') := by
  have hwho : who < n := by rw [← hn]; exact (List.getElem?_eq_some_iff.1 hx).1
  obtain ⟨rest, hrest⟩ := opsC_at hx
  have hol := opsC_len t.seats
  obtain ⟨m, step, seats, calls, full, wild, bad⟩ := t
  simp only at hn hx hf hcl hC hrest hol
  have hy := opsC_set (l := seats) (i := who) { x with op := hop0, gone := out.gone } (by omega)
  have hz : ((gonesC seats).set who (dGone out.gone)).map lowD = gonesC (seats.set who { x with op := hop0, gone := out.gone }) := cells_low (f := fun x => dGone x.gone) (fun _ => rfl) rfl
  have e1 : logsC (seats.set who { x with op := hop0, gone := out.gone }) = logsC seats := map_set_same hx rfl
  have e2 : stepsC (seats.set who { x with op := hop0, gone := out.gone }) = stepsC seats := map_set_same hx rfl
  have e3 : nextsC (seats.set who { x with op := hop0, gone := out.gone }) = nextsC seats := map_set_same hx rfl
  generalize hS : seats.set who { x with op := hop0, gone := out.gone } = S at hy hz e1 e2 e3
  have hsg : (stepsC seats)[who]? = some (dInts x.steps) := cells_get (f := fun x => dInts x.steps) hx
  show ImpC Tryz.prog 54 [30, 31, 32, 33, 34, 35] [.ptr 30 0, dI who, dOut out] [(30, [dInts m, dI step, .arr 31 0 n n, .arr 32 0 n n, .arr 33 0 n n, .arr 34 0 n n, .arr 35 0 n n, cd, dI full, dB wild, dB bad]), (31, opsC seats), (32, logsC seats), (33, stepsC seats), (34, nextsC seats), (35, gonesC seats), (36, cs)] _
  refine imp_fin tabOk Tryz.func54 rfl Tryz.ntmps54 rfl rfl rfl (by (repeat (first | exact trivial | refine ⟨rfl, ?_⟩))) fun w cl own kf => ?_
  refine go ?_
  refine awp_region_w 14 [] rfl rfl (by kernel_rfl) (by kernel_rfl) (by kernel_rfl) ?_
  refine goQ ?_
  refine r_q (indexAddrA_step (p := who * 4) tabOk rfl rfl rfl rfl rfl (by omega) (by omega) (by show who * 4 = (who : Int).toNat * 4; omega)) rfl rfl ?_
  refine r_q (loadG_step tabOk (opD x.op) rest rfl rfl rfl rfl rfl (by show _ ≤ (opsC seats).length; omega) hrest rfl) rfl rfl ?_
  refine goQ ?_
  refine go ?_
  refine a_q (indexAddrA_step (p := who * 4) tabOk rfl rfl rfl rfl rfl (by omega) (by omega) (by show who * 4 = (who : Int).toNat * 4; omega)) rfl rfl rfl ?_
  refine a_storeG tabOk (opsC S) rfl rfl rfl rfl rfl rfl rfl rfl rfl (by rw [hol]; show who * 4 + 4 ≤ _; omega) hy ?_
  refine go ?_
  refine awp_region_w 7 [] rfl rfl (by kernel_rfl) (by kernel_rfl) (by kernel_rfl) ?_
  refine goQ ?_
  refine go ?_
  refine a_q (indexAddrA_step (p := who) tabOk rfl rfl rfl rfl rfl (by omega) (by omega) (by show who = (who : Int).toNat * 1; omega)) rfl rfl rfl ?_
  refine a_storeAt tabOk rfl rfl rfl rfl rfl rfl rfl rfl rfl (by show who < (gonesC seats).length; rw [List.length_map]; omega) ?_
  refine aops_ghost (lowB_ghost 35 rfl hz) ?_
  refine go ?_
  refine a_q (indexAddrA_step (p := who) tabOk rfl rfl rfl rfl rfl (by omega) (by omega) (by show who = (who : Int).toNat * 1; omega)) rfl rfl rfl ?_
  refine a_q (loadAt_step tabOk rfl rfl rfl rfl rfl hsg) rfl rfl rfl ?_
  refine go ?_
  have hEt : hendT ⟨m, step, seats, calls, full, wild, bad⟩ who x out = if out.err = 8 then ⟨m, step, S, calls, full + 1, wild, bad⟩ else if out.err ≠ 0 ∨ x.steps.length = 0 then ⟨m, step, S, calls, full, wild, true⟩ else ⟨m, step, S, calls ++ [⟨who, x.op, out.val, out.is, x.steps.getD 0 0, x.steps.getD (x.steps.length - 1) 0, if 0 ≤ out.point ∧ out.point < x.steps.length then x.steps.getD out.point.toNat 0 else -1⟩], full, wild, bad⟩ := by
    unfold hendT
    simp only
    rw [hS]
  have hB : ∀ (full' : Int) (bad' : Bool) (calls' : List HCallT) (cd' : Dt) (cs' : List Dt), tabB ⟨m, step, S, calls', full', wild, bad'⟩ n cd' cs' = [(30, tabD ⟨m, step, S, calls', full', wild, bad'⟩ n cd'), (31, opsC S), (32, logsC seats), (33, stepsC seats), (34, nextsC seats), (35, gonesC S), (36, cs')] := fun full' bad' calls' cd' cs' => by
    show [(30, _), (31, opsC S), (32, logsC S), (33, stepsC S), (34, nextsC S), (35, gonesC S), (36, cs')] = _
    rw [e1, e2, e3]
  generalize hendT ⟨m, step, seats, calls, full, wild, bad⟩ who x out = T at hEt
  generalize h1 : decide (out.err = 8) = cc; cases cc
  · have h1' := of_decide_eq_false h1
    rw [if_neg h1'] at hEt
    refine go ?_
    generalize h2 : decide (out.err = 0) = cc; cases cc
    · have h2' := of_decide_eq_false h2
      rw [if_pos (.inl h2')] at hEt
      subst hEt
      refine go ?_
      refine finI_ret (tabB ⟨m, step, S, calls, full, wild, true⟩ n cd cs) rfl rfl (by refine tab_sub hC rfl rfl ?_ ?_ ?_ rfl rfl <;> simp only [e1, e2, e3] <;> rfl) (by (repeat (first | exact trivial | refine ⟨rfl, ?_⟩))) ⟨rfl, cd, cs, hC, rfl⟩
    · have h2' := of_decide_eq_true h2
      refine go ?_
      generalize h3 : decide ((x.steps.length : Int) = 0) = cc; cases cc
      · have h3' := of_decide_eq_false h3
        rw [if_neg (by omega)] at hEt
        have hs0 : x.steps[((0 : Int)).toNat]? = some (x.steps.getD 0 0) := by
          rw [show ((0 : Int)).toNat = 0 from rfl, List.getD_eq_getElem?_getD, List.getElem?_eq_getElem (by omega)]; rfl
        have hs1 : x.steps[((x.steps.length : Int) - 1).toNat]? = some (x.steps.getD (x.steps.length - 1) 0) := by
          rw [show ((x.steps.length : Int) - 1).toNat = x.steps.length - 1 by omega, List.getD_eq_getElem?_getD, List.getElem?_eq_getElem (by omega)]; rfl
        generalize hpt : (if 0 ≤ out.point ∧ out.point < x.steps.length then x.steps.getD out.point.toNat 0 else -1) = pt at hEt
        refine go ?_
        refine a_q (indexAddrA_step (p := who) tabOk rfl rfl rfl rfl rfl (by omega) (by omega) (by show who = (who : Int).toNat * 1; omega)) rfl rfl rfl ?_
        refine a_q (loadAt_step tabOk rfl rfl rfl rfl rfl hsg) rfl rfl rfl ?_
        refine a_q (indexAddr_step tabOk [pI (x.steps.getD 0 0)] rfl rfl rfl rfl rfl rfl (by first | omega | (simp; done) | (simp; omega)) (by first | omega | (simp; done) | (simp; omega)) (by first | (simp; done) | exact List.cons_ne_nil _ _) (ints_idx hs0)) rfl rfl rfl ?_
        refine go ?_
        refine a_q (indexAddrA_step (p := who) tabOk rfl rfl rfl rfl rfl (by omega) (by omega) (by show who = (who : Int).toNat * 1; omega)) rfl rfl rfl ?_
        refine a_q (loadAt_step tabOk rfl rfl rfl rfl rfl hsg) rfl rfl rfl ?_
        refine goO ?_
        refine a_q (indexAddr_step tabOk [pI (x.steps.getD (x.steps.length - 1) 0)] rfl rfl rfl rfl rfl rfl (by first | omega | (simp; done) | (simp; omega)) (by first | omega | (simp; done) | (simp; omega)) (by first | (simp; done) | exact List.cons_ne_nil _ _) (ints_idx hs1)) rfl rfl rfl ?_
        refine goO ?_
        refine q_then_normal ?_
        refine awp_cut ⟨[(0, .ptr 30 0), (6, .ptr 8 0)], [(8, [dI who, dI x.op.kind, dI x.op.obj, dI x.op.a, dI x.op.b, dI out.val, dB out.is, dI (x.steps.getD 0 0), dI (x.steps.getD (x.steps.length - 1) 0), dI pt]), (30, [dInts m, dI step, .arr 31 0 n n, .arr 32 0 n n, .arr 33 0 n n, .arr 34 0 n n, .arr 35 0 n n, cd, dI full, dB wild, dB bad]), (31, opsC S), (32, logsC seats), (33, stepsC seats), (34, nextsC seats), (35, gonesC S), (36, cs)], []⟩ ?_ ?_
        · refine go ?_
          generalize h4 : decide (out.point ≥ 0) = cc; cases cc
          · have h4' := of_decide_eq_false h4
            rw [if_neg (by omega)] at hpt
            subst hpt
            refine go ?_
            exact ⟨rfl, zX (hb := by exact ⟨⟨rfl, rfl⟩, ⟨rfl, tabD_oks (t := ⟨m, step, S, calls, full, wild, bad⟩) hC _ _ rfl rfl rfl rfl rfl rfl⟩, ⟨rfl, ops_plain _ _ _⟩, ⟨rfl, logs_plain _ _ _⟩, ⟨rfl, stepsC_plain _ _ _⟩, ⟨rfl, nexts_plain _ _ _⟩, ⟨rfl, gones_plain _ _ _⟩, ⟨rfl, hC.pl _ _⟩, trivial⟩)⟩
          · have h4' := of_decide_eq_true h4
            refine go ?_
            generalize h5 : decide (out.point < x.steps.length) = cc; cases cc
            · have h5' := of_decide_eq_false h5
              rw [if_neg (by omega)] at hpt
              subst hpt
              refine go ?_
              exact ⟨rfl, zX (hb := by exact ⟨⟨rfl, rfl⟩, ⟨rfl, tabD_oks (t := ⟨m, step, S, calls, full, wild, bad⟩) hC _ _ rfl rfl rfl rfl rfl rfl⟩, ⟨rfl, ops_plain _ _ _⟩, ⟨rfl, logs_plain _ _ _⟩, ⟨rfl, stepsC_plain _ _ _⟩, ⟨rfl, nexts_plain _ _ _⟩, ⟨rfl, gones_plain _ _ _⟩, ⟨rfl, hC.pl _ _⟩, trivial⟩)⟩
            · have h5' := of_decide_eq_true h5
              rw [if_pos ⟨by omega, h5'⟩] at hpt
              have hs2 : x.steps[out.point.toNat]? = some pt := by
                rw [← hpt, List.getD_eq_getElem?_getD, List.getElem?_eq_getElem (by omega)]; rfl
              refine go ?_
              refine awp_region_w 9 [] rfl rfl (by kernel_rfl) (by kernel_rfl) (by kernel_rfl) ?_
              refine goQ ?_
              refine r_q (indexAddrA_step (p := who) tabOk rfl rfl rfl rfl rfl (by omega) (by omega) (by show who = (who : Int).toNat * 1; omega)) rfl rfl ?_
              refine goQ ?_
              refine r_q (loadAt_step tabOk rfl rfl rfl rfl rfl hsg) rfl rfl ?_
              refine goQ ?_
              refine a_q (indexAddr_step tabOk [pI pt] rfl rfl rfl rfl rfl rfl (by first | omega | (simp; done) | (simp; omega)) (by first | omega | (simp; done) | (simp; omega)) (by first | (simp; done) | exact List.cons_ne_nil _ _) (ints_idx hs2)) rfl rfl rfl ?_
              refine go ?_
              exact ⟨rfl, zX (hb := by exact ⟨⟨rfl, rfl⟩, ⟨rfl, tabD_oks (t := ⟨m, step, S, calls, full, wild, bad⟩) hC _ _ rfl rfl rfl rfl rfl rfl⟩, ⟨rfl, ops_plain _ _ _⟩, ⟨rfl, logs_plain _ _ _⟩, ⟨rfl, stepsC_plain _ _ _⟩, ⟨rfl, nexts_plain _ _ _⟩, ⟨rfl, gones_plain _ _ _⟩, ⟨rfl, hC.pl _ _⟩, trivial⟩)⟩
        generalize hcc : (⟨who, x.op, out.val, out.is, x.steps.getD 0 0, x.steps.getD (x.steps.length - 1) 0, pt⟩ : HCallT) = cc at hEt
        have hB : ∀ (full' : Int) (bad' : Bool) (calls' : List HCallT) (cd' : Dt) (cs' : List Dt), tabB ⟨m, step, S, calls', full', wild, bad'⟩ n cd' cs' = [(30, tabD ⟨m, step, S, calls', full', wild, bad'⟩ n cd'), (31, opsC S), (32, logsC seats), (33, stepsC seats), (34, nextsC seats), (35, gonesC S), (36, cs')] := hB
        subst hEt
        rcases hC.at_ with ⟨rfl, rfl⟩ | ⟨c, rfl, hc1, hc2, hc3, hc4⟩
        · subst hcc
          refine awp_region_t rfl ?_
          refine aany_take (i := 0) (listed' := #[true, false, false, false, false, false, false, false, false, false, false]) (by kernel_rfl) (by kernel_rfl) (by kernel_rfl) (by kernel_rfl) (fun _ _ h => by rcases h.1 with h | h <;> cases h) rfl rfl rfl (y_move rfl rfl rfl) ?_
          refine aany_take (i := 1) (listed' := #[true, true, false, false, false, false, false, false, false, false, false]) (by kernel_rfl) (by kernel_rfl) (by kernel_rfl) (by kernel_rfl) (fun _ _ h => by rcases h.1 with h | h <;> cases h) rfl rfl rfl (y_move rfl rfl rfl) ?_
          refine aany_take (i := 2) (listed' := #[true, true, true, false, false, false, false, false, false, false, false]) (by kernel_rfl) (by kernel_rfl) (by kernel_rfl) (by kernel_rfl) (fun _ _ h => by rcases h.1 with h | h <;> cases h) rfl rfl rfl (y_nil rfl rfl rfl) ?_
          refine aany_take (i := 3) (listed' := #[true, true, true, true, false, false, false, false, false, false, false]) (by kernel_rfl) (by kernel_rfl) (by kernel_rfl) (by kernel_rfl) (fun _ _ h => by rcases h.1 with h | h <;> cases h) rfl rfl rfl (y_field tabOk rfl rfl rfl rfl rfl) ?_
          refine aany_two (i := 4) (j := 5) (listed' := #[true, true, true, true, true, false, false, false, false, false, false]) (listed2 := #[true, true, true, true, false, true, false, false, false, false, false]) (by kernel_rfl) rfl rfl (by kernel_rfl) (by kernel_rfl) ?_ ?_
          · refine z2 ?_
            refine aops_nil (nq ?_)
            refine aany_one (i := 5) (listed' := #[true, true, true, true, true, true, false, false, false, false, false]) (by kernel_rfl) rfl (by kernel_rfl) ?_
            refine z2 ?_
            refine aops_nil (nq ?_)
            refine aany_one (i := 6) (listed' := #[true, true, true, true, true, true, true, false, false, false, false]) (by kernel_rfl) rfl (by kernel_rfl) ?_
            refine z7 ?_
            refine aops_nil (nq ?_)
            refine aany_one (i := 7) (listed' := #[true, true, true, true, true, true, true, true, false, false, false]) (by kernel_rfl) rfl (by kernel_rfl) ?_
            refine a_appendNS (sz := 10) tabOk 36 rfl rfl rfl rfl rfl rfl rfl rfl rfl rfl rfl rfl rfl (cut_some rfl (cutB_k rfl rfl (cutB_k rfl rfl (cutB_p rfl (ops_plain _) (cutB_p rfl (logs_plain _) (cutB_p rfl (stepsC_plain _) (cutB_p rfl (nexts_plain _) (cutB_p rfl (gones_plain _) (cutB_d rfl rfl))))))))) (by omega) rfl (by unfold maxLen; omega) (by show 1 * 80 ≤ _; omega) (fun cs' c' k1 k2 k3 k4 k5 => ?_)
            refine aops_nil (nq ?_)
            refine aany_one (i := 8) (listed' := #[true, true, true, true, true, true, true, true, true, false, false]) (by kernel_rfl) rfl (by kernel_rfl) ?_
            refine z2 ?_
            refine aops_nil (nq ?_)
            refine aany_one (i := 9) (listed' := #[true, true, true, true, true, true, true, true, true, true, false]) (by kernel_rfl) rfl (by kernel_rfl) ?_
            refine z2 ?_
            refine aops_nil (nq ?_)
            refine aany_one (i := 10) (listed' := #[true, true, true, true, true, true, true, true, true, true, true]) (by kernel_rfl) rfl (by kernel_rfl) ?_
            refine z5 ?_
            refine aops_nil (nq ?_)
            refine aany_done (by kernel_rfl) ?_
            have hC' : CallsOk ([] ++ [(⟨who, x.op, out.val, out.is, x.steps.getD 0 0, x.steps.getD (x.steps.length - 1) 0, pt⟩ : HCallT)]) (.arr 36 0 1 c') cs' := ⟨k5, .inr ⟨c', rfl, k1, k3, k2, by show cs'.take (1 * 10) = _; rw [k4]; rfl⟩⟩
            refine finI_normal (tabB ⟨m, step, S, [] ++ [(⟨who, x.op, out.val, out.is, x.steps.getD 0 0, x.steps.getD (x.steps.length - 1) 0, pt⟩ : HCallT)], full, wild, bad⟩ n _ cs') rfl rfl (by refine tab_sub hC' rfl rfl ?_ ?_ ?_ rfl rfl <;> simp only [e1, e2, e3] <;> rfl) (by (repeat (first | exact trivial | refine ⟨rfl, ?_⟩))) ⟨rfl, _, cs', hC', rfl⟩
          · refine z2 ?_
            refine aops_nil (nq ?_)
            refine aany_two (i := 4) (j := 6) (listed' := #[true, true, true, true, true, true, false, false, false, false, false]) (listed2 := #[true, true, true, true, false, true, true, false, false, false, false]) (by kernel_rfl) rfl rfl (by kernel_rfl) (by kernel_rfl) ?_ ?_
            · refine z2 ?_
              refine aops_nil (nq ?_)
              refine aany_one (i := 6) (listed' := #[true, true, true, true, true, true, true, false, false, false, false]) (by kernel_rfl) rfl (by kernel_rfl) ?_
              refine z7 ?_
              refine aops_nil (nq ?_)
              refine aany_one (i := 7) (listed' := #[true, true, true, true, true, true, true, true, false, false, false]) (by kernel_rfl) rfl (by kernel_rfl) ?_
              refine a_appendNS (sz := 10) tabOk 36 rfl rfl rfl rfl rfl rfl rfl rfl rfl rfl rfl rfl rfl (cut_some rfl (cutB_k rfl rfl (cutB_k rfl rfl (cutB_p rfl (ops_plain _) (cutB_p rfl (logs_plain _) (cutB_p rfl (stepsC_plain _) (cutB_p rfl (nexts_plain _) (cutB_p rfl (gones_plain _) (cutB_d rfl rfl))))))))) (by omega) rfl (by unfold maxLen; omega) (by show 1 * 80 ≤ _; omega) (fun cs' c' k1 k2 k3 k4 k5 => ?_)
              refine aops_nil (nq ?_)
              refine aany_one (i := 8) (listed' := #[true, true, true, true, true, true, true, true, true, false, false]) (by kernel_rfl) rfl (by kernel_rfl) ?_
              refine z2 ?_
              refine aops_nil (nq ?_)
              refine aany_one (i := 9) (listed' := #[true, true, true, true, true, true, true, true, true, true, false]) (by kernel_rfl) rfl (by kernel_rfl) ?_
              refine z2 ?_
              refine aops_nil (nq ?_)
              refine aany_one (i := 10) (listed' := #[true, true, true, true, true, true, true, true, true, true, true]) (by kernel_rfl) rfl (by kernel_rfl) ?_
              refine z5 ?_
              refine aops_nil (nq ?_)
              refine aany_done (by kernel_rfl) ?_
              have hC' : CallsOk ([] ++ [(⟨who, x.op, out.val, out.is, x.steps.getD 0 0, x.steps.getD (x.steps.length - 1) 0, pt⟩ : HCallT)]) (.arr 36 0 1 c') cs' := ⟨k5, .inr ⟨c', rfl, k1, k3, k2, by show cs'.take (1 * 10) = _; rw [k4]; rfl⟩⟩
              refine finI_normal (tabB ⟨m, step, S, [] ++ [(⟨who, x.op, out.val, out.is, x.steps.getD 0 0, x.steps.getD (x.steps.length - 1) 0, pt⟩ : HCallT)], full, wild, bad⟩ n _ cs') rfl rfl (by refine tab_sub hC' rfl rfl ?_ ?_ ?_ rfl rfl <;> simp only [e1, e2, e3] <;> rfl) (by (repeat (first | exact trivial | refine ⟨rfl, ?_⟩))) ⟨rfl, _, cs', hC', rfl⟩
            · refine z7 ?_
              refine aops_nil (nq ?_)
              refine aany_one (i := 4) (listed' := #[true, true, true, true, true, true, true, false, false, false, false]) (by kernel_rfl) rfl (by kernel_rfl) ?_
              refine z2 ?_
              refine aops_nil (nq ?_)
              refine aany_one (i := 7) (listed' := #[true, true, true, true, true, true, true, true, false, false, false]) (by kernel_rfl) rfl (by kernel_rfl) ?_
              refine a_appendNS (sz := 10) tabOk 36 rfl rfl rfl rfl rfl rfl rfl rfl rfl rfl rfl rfl rfl (cut_some rfl (cutB_k rfl rfl (cutB_k rfl rfl (cutB_p rfl (ops_plain _) (cutB_p rfl (logs_plain _) (cutB_p rfl (stepsC_plain _) (cutB_p rfl (nexts_plain _) (cutB_p rfl (gones_plain _) (cutB_d rfl rfl))))))))) (by omega) rfl (by unfold maxLen; omega) (by show 1 * 80 ≤ _; omega) (fun cs' c' k1 k2 k3 k4 k5 => ?_)
              refine aops_nil (nq ?_)
              refine aany_one (i := 8) (listed' := #[true, true, true, true, true, true, true, true, true, false, false]) (by kernel_rfl) rfl (by kernel_rfl) ?_
              refine z2 ?_
              refine aops_nil (nq ?_)
              refine aany_one (i := 9) (listed' := #[true, true, true, true, true, true, true, true, true, true, false]) (by kernel_rfl) rfl (by kernel_rfl) ?_
              refine z2 ?_
              refine aops_nil (nq ?_)
              refine aany_one (i := 10) (listed' := #[true, true, true, true, true, true, true, true, true, true, true]) (by kernel_rfl) rfl (by kernel_rfl) ?_
              refine z5 ?_
              refine aops_nil (nq ?_)
              refine aany_done (by kernel_rfl) ?_
              have hC' : CallsOk ([] ++ [(⟨who, x.op, out.val, out.is, x.steps.getD 0 0, x.steps.getD (x.steps.length - 1) 0, pt⟩ : HCallT)]) (.arr 36 0 1 c') cs' := ⟨k5, .inr ⟨c', rfl, k1, k3, k2, by show cs'.take (1 * 10) = _; rw [k4]; rfl⟩⟩
              refine finI_normal (tabB ⟨m, step, S, [] ++ [(⟨who, x.op, out.val, out.is, x.steps.getD 0 0, x.steps.getD (x.steps.length - 1) 0, pt⟩ : HCallT)], full, wild, bad⟩ n _ cs') rfl rfl (by refine tab_sub hC' rfl rfl ?_ ?_ ?_ rfl rfl <;> simp only [e1, e2, e3] <;> rfl) (by (repeat (first | exact trivial | refine ⟨rfl, ?_⟩))) ⟨rfl, _, cs', hC', rfl⟩
        · subst hcc
          refine awp_region_t rfl ?_
          refine aany_take (i := 0) (listed' := #[true, false, false, false, false, false, false, false, false, false, false]) (by kernel_rfl) (by kernel_rfl) (by kernel_rfl) (by kernel_rfl) (fun _ _ h => by rcases h.1 with h | h <;> cases h) rfl rfl rfl (y_move rfl rfl rfl) ?_
          refine aany_take (i := 1) (listed' := #[true, true, false, false, false, false, false, false, false, false, false]) (by kernel_rfl) (by kernel_rfl) (by kernel_rfl) (by kernel_rfl) (fun _ _ h => by rcases h.1 with h | h <;> cases h) rfl rfl rfl (y_move rfl rfl rfl) ?_
          refine aany_take (i := 2) (listed' := #[true, true, true, false, false, false, false, false, false, false, false]) (by kernel_rfl) (by kernel_rfl) (by kernel_rfl) (by kernel_rfl) (fun _ _ h => by rcases h.1 with h | h <;> cases h) rfl rfl rfl (y_nil rfl rfl rfl) ?_
          refine aany_take (i := 3) (listed' := #[true, true, true, true, false, false, false, false, false, false, false]) (by kernel_rfl) (by kernel_rfl) (by kernel_rfl) (by kernel_rfl) (fun _ _ h => by rcases h.1 with h | h <;> cases h) rfl rfl rfl (y_field tabOk rfl rfl rfl rfl rfl) ?_
          refine aany_two (i := 4) (j := 5) (listed' := #[true, true, true, true, true, false, false, false, false, false, false]) (listed2 := #[true, true, true, true, false, true, false, false, false, false, false]) (by kernel_rfl) rfl rfl (by kernel_rfl) (by kernel_rfl) ?_ ?_
          · refine z2 ?_
            refine aops_nil (nq ?_)
            refine aany_one (i := 5) (listed' := #[true, true, true, true, true, true, false, false, false, false, false]) (by kernel_rfl) rfl (by kernel_rfl) ?_
            refine z2 ?_
            refine aops_nil (nq ?_)
            refine aany_one (i := 6) (listed' := #[true, true, true, true, true, true, true, false, false, false, false]) (by kernel_rfl) rfl (by kernel_rfl) ?_
            refine z7 ?_
            refine aops_nil (nq ?_)
            refine aany_one (i := 7) (listed' := #[true, true, true, true, true, true, true, true, false, false, false]) (by kernel_rfl) rfl (by kernel_rfl) ?_
            refine a_appendS (sz := 10) tabOk (pCalls calls) rfl rfl rfl rfl rfl rfl rfl rfl rfl rfl rfl rfl rfl rfl (cut_some rfl (cutB_k rfl rfl (cutB_k rfl rfl (cutB_p rfl (ops_plain _) (cutB_p rfl (logs_plain _) (cutB_p rfl (stepsC_plain _) (cutB_p rfl (nexts_plain _) (cutB_p rfl (gones_plain _) (cutB_d rfl rfl))))))))) hc1 hc2 (pCalls_len calls) hc4 hc3 (by omega) rfl (by unfold maxLen; omega) (by show (_ + 1) * 80 ≤ _; omega) (fun cs' c' k1 k2 k3 k4 k5 => ?_)
            refine aops_nil (nq ?_)
            refine aany_one (i := 8) (listed' := #[true, true, true, true, true, true, true, true, true, false, false]) (by kernel_rfl) rfl (by kernel_rfl) ?_
            refine z2 ?_
            refine aops_nil (nq ?_)
            refine aany_one (i := 9) (listed' := #[true, true, true, true, true, true, true, true, true, true, false]) (by kernel_rfl) rfl (by kernel_rfl) ?_
            refine z2 ?_
            refine aops_nil (nq ?_)
            refine aany_one (i := 10) (listed' := #[true, true, true, true, true, true, true, true, true, true, true]) (by kernel_rfl) rfl (by kernel_rfl) ?_
            refine z5 ?_
            refine aops_nil (nq ?_)
            refine aany_done (by kernel_rfl) ?_
            have hC' : CallsOk (calls ++ [(⟨who, x.op, out.val, out.is, x.steps.getD 0 0, x.steps.getD (x.steps.length - 1) 0, pt⟩ : HCallT)]) (.arr 36 0 (calls.length + 1) c') cs' := ⟨k5, .inr ⟨c', by rw [List.length_append]; rfl, k1, by rw [List.length_append]; exact k3, k2, by rw [List.length_append, ← pCalls_app]; exact k4⟩⟩
            refine finI_normal (tabB ⟨m, step, S, calls ++ [(⟨who, x.op, out.val, out.is, x.steps.getD 0 0, x.steps.getD (x.steps.length - 1) 0, pt⟩ : HCallT)], full, wild, bad⟩ n _ cs') rfl rfl (by refine tab_sub hC' rfl rfl ?_ ?_ ?_ rfl rfl <;> simp only [e1, e2, e3] <;> rfl) (by (repeat (first | exact trivial | refine ⟨rfl, ?_⟩))) ⟨rfl, _, cs', hC', rfl⟩
          · refine z2 ?_
            refine aops_nil (nq ?_)
            refine aany_two (i := 4) (j := 6) (listed' := #[true, true, true, true, true, true, false, false, false, false, false]) (listed2 := #[true, true, true, true, false, true, true, false, false, false, false]) (by kernel_rfl) rfl rfl (by kernel_rfl) (by kernel_rfl) ?_ ?_
            · refine z2 ?_
              refine aops_nil (nq ?_)
              refine aany_one (i := 6) (listed' := #[true, true, true, true, true, true, true, false, false, false, false]) (by kernel_rfl) rfl (by kernel_rfl) ?_
              refine z7 ?_
              refine aops_nil (nq ?_)
              refine aany_one (i := 7) (listed' := #[true, true, true, true, true, true, true, true, false, false, false]) (by kernel_rfl) rfl (by kernel_rfl) ?_
              refine a_appendS (sz := 10) tabOk (pCalls calls) rfl rfl rfl rfl rfl rfl rfl rfl rfl rfl rfl rfl rfl rfl (cut_some rfl (cutB_k rfl rfl (cutB_k rfl rfl (cutB_p rfl (ops_plain _) (cutB_p rfl (logs_plain _) (cutB_p rfl (stepsC_plain _) (cutB_p rfl (nexts_plain _) (cutB_p rfl (gones_plain _) (cutB_d rfl rfl))))))))) hc1 hc2 (pCalls_len calls) hc4 hc3 (by omega) rfl (by unfold maxLen; omega) (by show (_ + 1) * 80 ≤ _; omega) (fun cs' c' k1 k2 k3 k4 k5 => ?_)
              refine aops_nil (nq ?_)
              refine aany_one (i := 8) (listed' := #[true, true, true, true, true, true, true, true, true, false, false]) (by kernel_rfl) rfl (by kernel_rfl) ?_
              refine z2 ?_
              refine aops_nil (nq ?_)
              refine aany_one (i := 9) (listed' := #[true, true, true, true, true, true, true, true, true, true, false]) (by kernel_rfl) rfl (by kernel_rfl) ?_
              refine z2 ?_
              refine aops_nil (nq ?_)
              refine aany_one (i := 10) (listed' := #[true, true, true, true, true, true, true, true, true, true, true]) (by kernel_rfl) rfl (by kernel_rfl) ?_
              refine z5 ?_
              refine aops_nil (nq ?_)
              refine aany_done (by kernel_rfl) ?_
              have hC' : CallsOk (calls ++ [(⟨who, x.op, out.val, out.is, x.steps.getD 0 0, x.steps.getD (x.steps.length - 1) 0, pt⟩ : HCallT)]) (.arr 36 0 (calls.length + 1) c') cs' := ⟨k5, .inr ⟨c', by rw [List.length_append]; rfl, k1, by rw [List.length_append]; exact k3, k2, by rw [List.length_append, ← pCalls_app]; exact k4⟩⟩
              refine finI_normal (tabB ⟨m, step, S, calls ++ [(⟨who, x.op, out.val, out.is, x.steps.getD 0 0, x.steps.getD (x.steps.length - 1) 0, pt⟩ : HCallT)], full, wild, bad⟩ n _ cs') rfl rfl (by refine tab_sub hC' rfl rfl ?_ ?_ ?_ rfl rfl <;> simp only [e1, e2, e3] <;> rfl) (by (repeat (first | exact trivial | refine ⟨rfl, ?_⟩))) ⟨rfl, _, cs', hC', rfl⟩
            · refine z7 ?_
              refine aops_nil (nq ?_)
              refine aany_one (i := 4) (listed' := #[true, true, true, true, true, true, true, false, false, false, false]) (by kernel_rfl) rfl (by kernel_rfl) ?_
              refine z2 ?_
              refine aops_nil (nq ?_)
              refine aany_one (i := 7) (listed' := #[true, true, true, true, true, true, true, true, false, false, false]) (by kernel_rfl) rfl (by kernel_rfl) ?_
              refine a_appendS (sz := 10) tabOk (pCalls calls) rfl rfl rfl rfl rfl rfl rfl rfl rfl rfl rfl rfl rfl rfl (cut_some rfl (cutB_k rfl rfl (cutB_k rfl rfl (cutB_p rfl (ops_plain _) (cutB_p rfl (logs_plain _) (cutB_p rfl (stepsC_plain _) (cutB_p rfl (nexts_plain _) (cutB_p rfl (gones_plain _) (cutB_d rfl rfl))))))))) hc1 hc2 (pCalls_len calls) hc4 hc3 (by omega) rfl (by unfold maxLen; omega) (by show (_ + 1) * 80 ≤ _; omega) (fun cs' c' k1 k2 k3 k4 k5 => ?_)
              refine aops_nil (nq ?_)
              refine aany_one (i := 8) (listed' := #[true, true, true, true, true, true, true, true, true, false, false]) (by kernel_rfl) rfl (by kernel_rfl) ?_
              refine z2 ?_
              refine aops_nil (nq ?_)
              refine aany_one (i := 9) (listed' := #[true, true, true, true, true, true, true, true, true, true, false]) (by kernel_rfl) rfl (by kernel_rfl) ?_
              refine z2 ?_
              refine aops_nil (nq ?_)
              refine aany_one (i := 10) (listed' := #[true, true, true, true, true, true, true, true, true, true, true]) (by kernel_rfl) rfl (by kernel_rfl) ?_
              refine z5 ?_
              refine aops_nil (nq ?_)
              refine aany_done (by kernel_rfl) ?_
              have hC' : CallsOk (calls ++ [(⟨who, x.op, out.val, out.is, x.steps.getD 0 0, x.steps.getD (x.steps.length - 1) 0, pt⟩ : HCallT)]) (.arr 36 0 (calls.length + 1) c') cs' := ⟨k5, .inr ⟨c', by rw [List.length_append]; rfl, k1, by rw [List.length_append]; exact k3, k2, by rw [List.length_append, ← pCalls_app]; exact k4⟩⟩
              refine finI_normal (tabB ⟨m, step, S, calls ++ [(⟨who, x.op, out.val, out.is, x.steps.getD 0 0, x.steps.getD (x.steps.length - 1) 0, pt⟩ : HCallT)], full, wild, bad⟩ n _ cs') rfl rfl (by refine tab_sub hC' rfl rfl ?_ ?_ ?_ rfl rfl <;> simp only [e1, e2, e3] <;> rfl) (by (repeat (first | exact trivial | refine ⟨rfl, ?_⟩))) ⟨rfl, _, cs', hC', rfl⟩
      · have h3' := of_decide_eq_true h3
        rw [if_pos (.inr (by omega))] at hEt
        subst hEt
        refine go ?_
        refine finI_ret (tabB ⟨m, step, S, calls, full, wild, true⟩ n cd cs) rfl rfl (by refine tab_sub hC rfl rfl ?_ ?_ ?_ rfl rfl <;> simp only [e1, e2, e3] <;> rfl) (by (repeat (first | exact trivial | refine ⟨rfl, ?_⟩))) ⟨rfl, cd, cs, hC, rfl⟩
  · have h1' := of_decide_eq_true h1
    rw [if_pos h1'] at hEt
    subst hEt
    refine go ?_
    refine finI_ret (tabB ⟨m, step, S, calls, full + 1, wild, bad⟩ n cd cs) rfl rfl (by refine tab_sub hC rfl rfl ?_ ?_ ?_ rfl rfl <;> simp only [e1, e2, e3] <;> rfl) (by (repeat (first | exact trivial | refine ⟨rfl, ?_⟩))) ⟨rfl, cd, cs, hC, rfl⟩
end Go.Proofs.YtkkldicehapklaaGreat
