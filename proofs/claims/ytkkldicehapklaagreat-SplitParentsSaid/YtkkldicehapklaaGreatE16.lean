/- A seat's turn: its walk. -/
import Derived.Test.YtkkldicehapklaaGreatE15
import Derived.Test.YtkkldicehapklaaGreatH9
namespace Go.Proofs.YtkkldicehapklaaGreat
open Go.RowKit
set_option maxRecDepth 100000

theorem opsC_get {l : List HSeatT} {i : Nat} {x : HSeatT} (h : l[i]? = some x) (j : Nat) (hj : j < 4) : (opsC l)[i * 4 + j]? = (opD x.op)[j]? := by
  obtain ⟨rest, hr⟩ := opsC_at h
  have : ((opsC l).drop (i * 4))[j]? = (opD x.op)[j]? := by rw [hr, List.getElem?_append_left (by simpa using hj)]
  rwa [List.getElem?_drop] at this
theorem set_self {α : Type} : ∀ {l : List α} {i : Nat} {x : α}, l[i]? = some x → l.set i x = l
  | [], _, _, _ => rfl
  | a :: l, 0, x, h => by cases h; rfl
  | a :: l, i + 1, x, h => by rw [List.set_cons_succ, set_self (by simpa using h)]
theorem pLog_len (l : List ResT) : (pLog l).length = l.length * 2 := by
  induction l with
  | nil => rfl
  | cons a l ih => unfold pLog at ih ⊢; rw [List.flatMap_cons, List.length_append, ih]; simp [pRes]; omega
theorem end_set {t : HTabT} {who : Nat} {x : HSeatT} (y : HSeatT) {out : OutT} : hendT { t with seats := t.seats.set who y } who x out = hendT t who x out := by
  unfold hendT
  simp only [List.set_set]
theorem move_set {l : LayT} {t : HTabT} {who : Nat} {x : HSeatT} (y : HSeatT) : hmoveT l { t with seats := t.seats.set who y } who x = hmoveT l t who x := by
  unfold hmoveT
  simp only [List.set_set, end_set]
set_option maxHeartbeats 16000000 in
theorem turnT_i (l : LayT) (hL : LayOk l) (hLM : LayM l) (want : List (List OpT)) (turns : List Int) (t : HTabT) (n k N : Nat) (hn : t.seats.length = n) (hw : want.length = n) (hn8 : n ≤ 8) (hU : Und k N t) (hk : k ≤ 5000) (hN : N ≤ 1000000) (who : Nat) (hwho : who < n) (cd : Dt) (cs : List Dt) (hC : CallsOk t.calls cd cs) :
    ImpC Tryz.prog 22 [30, 31, 32, 33, 34, 35] [.ptr 30 0, dLay l, dPlay want turns, dI who] (tabB t n cd cs) (fun d bs => d = .tup [] ∧ ∃ cd' cs', CallsOk (hturnT l want t who).calls cd' cs' ∧ bs = tabB (hturnT l want t who) n cd' cs') := by
  obtain ⟨x, hx⟩ : ∃ x, t.seats[who]? = some x := ⟨t.seats[who]'(by omega), List.getElem?_eq_getElem _⟩
  obtain ⟨ws, hws⟩ : ∃ ws, want[who]? = some ws := ⟨want[who], List.getElem?_eq_getElem (by omega)⟩
  have hws' : want[(who : Int).toNat]? = some ws := by simpa using hws
  have hsb := hU.seat hx
  have hm := hU.m
  have hst := hU.step
  have hfu := hU.full
  have hca := hU.calls
  have hxn := hsb.next
  obtain ⟨m, step, seats, calls, full, wild, bad⟩ := t
  simp only at hn hx hm hst hfu hca hC
  have hTurn : hturnT l want ⟨m, step, seats, calls, full, wild, bad⟩ who = if x.op.kind = 0 then (match ws[x.next]? with | none => ⟨m, step, seats, calls, full, wild, bad⟩ | some op => hmoveT l ⟨m, step, seats, calls, full, wild, bad⟩ who ⟨op, [], [], x.next + 1, x.gone⟩) else hmoveT l ⟨m, step, seats, calls, full, wild, bad⟩ who x := by
    unfold hturnT
    simp only [hx, hws]
    rfl
  have hol := opsC_len seats
  have hkd := opsC_get hx 0 (by omega)
  have hnx0 : (nextsC seats)[who]? = some (dI x.next) := cells_get (f := fun x => dI x.next) hx
  have hpick : (x.op.kind = 0 ∧ ws.length ≤ x.next) ∨ ∃ x1, ((x.op.kind ≠ 0 ∧ x1 = x) ∨ (x.op.kind = 0 ∧ ∃ op, ws[x.next]? = some op ∧ x1 = ⟨op, [], [], x.next + 1, x.gone⟩)) := by
    by_cases h : x.op.kind = 0
    · by_cases h2 : ws.length ≤ x.next
      · exact .inl ⟨h, h2⟩
      · exact .inr ⟨_, .inr ⟨h, ws[x.next], List.getElem?_eq_getElem (by omega), rfl⟩⟩
    · exact .inr ⟨x, .inl ⟨h, rfl⟩⟩
  show ImpC Tryz.prog 22 [30, 31, 32, 33, 34, 35] [.ptr 30 0, dLay l, dPlay want turns, dI who] [(30, [dInts m, dI step, .arr 31 0 n n, .arr 32 0 n n, .arr 33 0 n n, .arr 34 0 n n, .arr 35 0 n n, cd, dI full, dB wild, dB bad]), (31, opsC seats), (32, logsC seats), (33, stepsC seats), (34, nextsC seats), (35, gonesC seats), (36, cs)] _
  refine imp_fin tabOk Tryz.func22 rfl Tryz.ntmps22 rfl rfl rfl (by (repeat (first | exact trivial | refine ⟨rfl, ?_⟩))) fun w cl own kf => ?_
  rcases hpick with ⟨h1, h2⟩ | ⟨x1, hx1⟩
  · rw [if_pos h1, List.getElem?_eq_none h2] at hTurn
    simp only at hTurn
    refine go ?_
    refine a_q (indexAddrA_step (p := who * 4) tabOk rfl rfl rfl rfl rfl (by omega) (by omega) (by show who * 4 = (who : Int).toNat * 4; omega)) rfl rfl rfl ?_
    refine goO ?_
    refine a_q (loadAt_step tabOk rfl rfl rfl rfl rfl hkd) rfl rfl rfl ?_
    refine go ?_
    rw [show decide (x.op.kind = 0) = true by rw [decide_eq_true_eq]; exact h1]
    refine go ?_
    refine awp_region_w 13 [] rfl rfl (by kernel_rfl) (by kernel_rfl) (by kernel_rfl) ?_
    refine goQ ?_
    refine r_q (indexAddrA_step (p := who) tabOk rfl rfl rfl rfl rfl (by omega) (by omega) (by show who = (who : Int).toNat * 1; omega)) rfl rfl ?_
    refine r_q (loadAt_step tabOk rfl rfl rfl rfl rfl hnx0) rfl rfl ?_
    refine goQ ?_
    refine r_q (indexAddr_step tabOk [plOps ws] rfl rfl rfl rfl rfl rfl (by first | omega | (simp; done) | (simp; omega)) (by first | omega | (simp; done) | (simp; omega)) (by first | (simp; done) | exact List.cons_ne_nil _ _) (map_idx hws')) rfl rfl ?_
    refine goQ ?_
    refine go ?_
    rw [show decide ((x.next : Int) ≥ ws.length) = true by rw [decide_eq_true_eq]; omega]
    refine go ?_
    refine finI_ret (tabB ⟨m, step, seats, calls, full, wild, bad⟩ n cd cs) rfl rfl (by exact tab_sub hC rfl rfl rfl rfl rfl rfl rfl) (by (repeat (first | exact trivial | refine ⟨rfl, ?_⟩))) ⟨rfl, cd, cs, ?_, ?_⟩
    · rw [hTurn]; exact hC
    · rw [hTurn]
  · have hTm : hturnT l want ⟨m, step, seats, calls, full, wild, bad⟩ who = hmoveT l ⟨m, step, seats.set who x1, calls, full, wild, bad⟩ who x1 := by
      rw [show hmoveT l ⟨m, step, seats.set who x1, calls, full, wild, bad⟩ who x1 = hmoveT l ⟨m, step, seats, calls, full, wild, bad⟩ who x1 from move_set (t := ⟨m, step, seats, calls, full, wild, bad⟩) x1, hTurn]
      rcases hx1 with ⟨h1, rfl⟩ | ⟨h1, op, h2, rfl⟩
      · rw [if_neg h1]
      · rw [if_pos h1, h2]
    have hb1 : x1.log.length ≤ k ∧ x1.steps.length ≤ k ∧ x1.next ≤ k + 1 ∧ x1.gone.length + x1.log.length ≤ k ∧ GoneOk x1.gone := by
      rcases hx1 with ⟨h1, rfl⟩ | ⟨_, op, _, rfl⟩
      · exact ⟨hsb.log, hsb.steps, by have := hsb.next; omega, by have := hsb.gone.1; rw [glN, if_neg h1] at this; exact this, hsb.gone.2⟩
      · exact ⟨by simp, by simp, by have := hsb.next; simp only; omega, by have := hsb.gone.1; have := glN_le (x := x); simp only [List.length_nil]; omega, hsb.gone.2⟩
    have hS1x : (seats.set who x1)[who]? = some x1 := by rw [List.getElem?_set_self (by omega)]
    have hS1n : (seats.set who x1).length = n := by rw [List.length_set]; exact hn
    generalize hS1 : seats.set who x1 = S1 at hTm hS1x hS1n
    obtain ⟨hbl, hbs, hbn, hbg, hbo⟩ := hb1
    refine awp_seq ?_
    refine awp_region ?_
    refine goO ?_
    refine q_then_normal ?_
    refine awp_cut ⟨[(0, .ptr 30 0), (3, dI who), (5, .ptr 7 0), (6, .ptr 8 0)], [(7, layD l), (8, playD want turns), (30, [dInts m, dI step, .arr 31 0 n n, .arr 32 0 n n, .arr 33 0 n n, .arr 34 0 n n, .arr 35 0 n n, cd, dI full, dB wild, dB bad]), (31, opsC S1), (32, logsC S1), (33, stepsC S1), (34, nextsC S1), (35, gonesC S1), (36, cs)], []⟩ ?_ ?_
    · rcases hx1 with ⟨h1, rfl⟩ | ⟨h1, op, hop, rfl⟩
      · rw [set_self hx] at hS1
        subst hS1
        refine go ?_
        refine a_q (indexAddrA_step (p := who * 4) tabOk rfl rfl rfl rfl rfl (by omega) (by omega) (by show who * 4 = (who : Int).toNat * 4; omega)) rfl rfl rfl ?_
        refine goO ?_
        refine a_q (loadAt_step tabOk rfl rfl rfl rfl rfl hkd) rfl rfl rfl ?_
        refine go ?_
        rw [show decide (x1.op.kind = 0) = false by rw [decide_eq_false_iff_not]; exact h1]
        refine go ?_
        exact ⟨rfl, zX (hb := by exact ⟨⟨rfl, rfl⟩, ⟨rfl, rfl⟩, ⟨rfl, tabD_oks (t := ⟨m, step, [], calls, full, wild, bad⟩) hC _ _ rfl rfl rfl rfl rfl rfl⟩, ⟨rfl, ops_plain _ _ _⟩, ⟨rfl, logs_plain _ _ _⟩, ⟨rfl, stepsC_plain _ _ _⟩, ⟨rfl, nexts_plain _ _ _⟩, ⟨rfl, gones_plain _ _ _⟩, ⟨rfl, hC.pl _ _⟩, trivial⟩)⟩
      · have hop' : ws[(x.next : Int).toNat]? = some op := by simpa using hop
        have hnl : x.next < ws.length := (List.getElem?_eq_some_iff.1 hop).1
        have hso := opsC_set (l := seats) (i := who) ⟨op, [], [], x.next + 1, x.gone⟩ (by omega)
        have hsl : ((logsC seats).set who (.p (.sl true 0 []))).map lowD = logsC (seats.set who ⟨op, [], [], x.next + 1, x.gone⟩) := cells_low (f := fun x => dLog x.log) (fun _ => rfl) rfl
        have hss : ((stepsC seats).set who (.p (.sl true 0 []))).map lowD = stepsC (seats.set who ⟨op, [], [], x.next + 1, x.gone⟩) := cells_low (f := fun x => dInts x.steps) (fun _ => rfl) rfl
        have hsn : (nextsC seats).set who (dI ((x.next : Int) + 1)) = nextsC (seats.set who ⟨op, [], [], x.next + 1, x.gone⟩) := by rw [nextsC, nextsC, List.map_set]; congr 1
        have hsg : gonesC (seats.set who ⟨op, [], [], x.next + 1, x.gone⟩) = gonesC seats := map_set_same hx rfl
        rw [hS1] at hso hsl hss hsn hsg
        refine go ?_
        refine a_q (indexAddrA_step (p := who * 4) tabOk rfl rfl rfl rfl rfl (by omega) (by omega) (by show who * 4 = (who : Int).toNat * 4; omega)) rfl rfl rfl ?_
        refine goO ?_
        refine a_q (loadAt_step tabOk rfl rfl rfl rfl rfl hkd) rfl rfl rfl ?_
        refine go ?_
        rw [show decide (x.op.kind = 0) = true by rw [decide_eq_true_eq]; exact h1]
        refine go ?_
        refine awp_region_w 13 [] rfl rfl (by kernel_rfl) (by kernel_rfl) (by kernel_rfl) ?_
        refine goQ ?_
        refine r_q (indexAddrA_step (p := who) tabOk rfl rfl rfl rfl rfl (by omega) (by omega) (by show who = (who : Int).toNat * 1; omega)) rfl rfl ?_
        refine r_q (loadAt_step tabOk rfl rfl rfl rfl rfl hnx0) rfl rfl ?_
        refine goQ ?_
        refine r_q (indexAddr_step tabOk [plOps ws] rfl rfl rfl rfl rfl rfl (by first | omega | (simp; done) | (simp; omega)) (by first | omega | (simp; done) | (simp; omega)) (by first | (simp; done) | exact List.cons_ne_nil _ _) (map_idx hws')) rfl rfl ?_
        refine goQ ?_
        refine go ?_
        rw [show decide ((x.next : Int) ≥ ws.length) = false by rw [decide_eq_false_iff_not]; omega]
        refine go ?_
        refine awp_region_w 19 [] rfl rfl (by kernel_rfl) (by kernel_rfl) (by kernel_rfl) ?_
        refine goQ ?_
        refine r_q (indexAddr_step tabOk [plOps ws] rfl rfl rfl rfl rfl rfl (by first | omega | (simp; done) | (simp; omega)) (by first | omega | (simp; done) | (simp; omega)) (by first | (simp; done) | exact List.cons_ne_nil _ _) (map_idx hws')) rfl rfl ?_
        refine goQ ?_
        refine r_q (indexAddrA_step (p := who) tabOk rfl rfl rfl rfl rfl (by omega) (by omega) (by show who = (who : Int).toNat * 1; omega)) rfl rfl ?_
        refine r_q (loadAt_step tabOk rfl rfl rfl rfl rfl hnx0) rfl rfl ?_
        refine goQ ?_
        refine r_q (indexAddr_step tabOk [pI op.kind, pI op.obj, pI op.a, pI op.b] rfl rfl rfl rfl rfl rfl (by first | omega | (simp; done) | (simp; omega)) (by first | omega | (simp; done) | (simp; omega)) (by first | (simp; done) | exact List.cons_ne_nil _ _) (ops_idx hop')) rfl rfl ?_
        refine goQ ?_
        refine go ?_
        refine a_q (indexAddrA_step (p := who * 4) tabOk rfl rfl rfl rfl rfl (by omega) (by omega) (by show who * 4 = (who : Int).toNat * 4; omega)) rfl rfl rfl ?_
        refine a_storeG tabOk (opsC S1) rfl rfl rfl rfl rfl rfl rfl rfl rfl (by rw [hol]; show who * 4 + 4 ≤ _; omega) hso ?_
        refine go ?_
        refine a_q (indexAddrA_step (p := who) tabOk rfl rfl rfl rfl rfl (by omega) (by omega) (by show who = (who : Int).toNat * 1; omega)) rfl rfl rfl ?_
        refine a_q (loadAt_step tabOk rfl rfl rfl rfl rfl hnx0) rfl rfl rfl ?_
        refine go ?_
        refine a_q (indexAddrA_step (p := who) tabOk rfl rfl rfl rfl rfl (by omega) (by omega) (by show who = (who : Int).toNat * 1; omega)) rfl rfl rfl ?_
        refine a_storeAt tabOk rfl rfl rfl rfl rfl rfl rfl rfl rfl (by show who < (nextsC seats).length; rw [List.length_map]; omega) ?_
        rw [hsn]
        refine go ?_
        refine a_q (indexAddrA_step (p := who) tabOk rfl rfl rfl rfl rfl (by omega) (by omega) (by show who = (who : Int).toNat * 1; omega)) rfl rfl rfl ?_
        refine a_storeAt tabOk rfl rfl rfl rfl rfl rfl rfl rfl rfl (by show who < (logsC seats).length; rw [List.length_map]; omega) ?_
        refine aops_ghost (lowB_ghost 32 rfl hsl) ?_
        refine go ?_
        refine a_q (indexAddrA_step (p := who) tabOk rfl rfl rfl rfl rfl (by omega) (by omega) (by show who = (who : Int).toNat * 1; omega)) rfl rfl rfl ?_
        refine a_storeAt tabOk rfl rfl rfl rfl rfl rfl rfl rfl rfl (by show who < (stepsC seats).length; rw [List.length_map]; omega) ?_
        refine aops_ghost (lowB_ghost 33 rfl hss) ?_
        rw [← hsg]
        refine go ?_
        exact ⟨rfl, zX (hb := by exact ⟨⟨rfl, rfl⟩, ⟨rfl, rfl⟩, ⟨rfl, tabD_oks (t := ⟨m, step, [], calls, full, wild, bad⟩) hC _ _ rfl rfl rfl rfl rfl rfl⟩, ⟨rfl, ops_plain _ _ _⟩, ⟨rfl, logs_plain _ _ _⟩, ⟨rfl, stepsC_plain _ _ _⟩, ⟨rfl, nexts_plain _ _ _⟩, ⟨rfl, gones_plain _ _ _⟩, ⟨rfl, hC.pl _ _⟩, trivial⟩)⟩
    have hol1 := opsC_len S1
    obtain ⟨rest1, hr1⟩ := opsC_at hS1x
    have hg1 : (gonesC S1)[who]? = some (dGone x1.gone) := cells_get (f := fun x => dGone x.gone) hS1x
    have hl1 : (logsC S1)[who]? = some (dLog x1.log) := cells_get (f := fun x => dLog x.log) hS1x
    have hs1 : (stepsC S1)[who]? = some (dInts x1.steps) := cells_get (f := fun x => dInts x.steps) hS1x
    have hNx := hnext_c l hL hL.seats.1 hLM who x1.gone x1.op x1.log hbo (by omega) (by omega)
    unfold hmoveT at hTm
    simp only at hTm
    generalize hnextF l who x1.gone x1.op x1.log = r at hNx hTm
    obtain ⟨a, out, dn⟩ := r
    dsimp only [dNx] at hNx
    simp only at hTm
    refine go ?_
    refine awp_region_w 32 [] rfl rfl (by kernel_rfl) (by kernel_rfl) (by kernel_rfl) ?_
    refine goQ ?_
    refine r_q (indexAddrA_step (p := who) tabOk rfl rfl rfl rfl rfl (by omega) (by omega) (by show who = (who : Int).toNat * 1; omega)) rfl rfl ?_
    refine r_q (loadAt_step tabOk rfl rfl rfl rfl rfl hg1) rfl rfl ?_
    refine goQ ?_
    refine r_q (indexAddrA_step (p := who * 4) tabOk rfl rfl rfl rfl rfl (by omega) (by omega) (by show who * 4 = (who : Int).toNat * 4; omega)) rfl rfl ?_
    refine r_q (loadG_step tabOk (opD x1.op) rest1 rfl rfl rfl rfl rfl (by show _ ≤ (opsC S1).length; omega) hr1 rfl) rfl rfl ?_
    refine goQ ?_
    refine r_q (indexAddrA_step (p := who) tabOk rfl rfl rfl rfl rfl (by omega) (by omega) (by show who = (who : Int).toNat * 1; omega)) rfl rfl ?_
    refine r_q (loadAt_step tabOk rfl rfl rfl rfl rfl hl1) rfl rfl ?_
    refine goQ ?_
    refine r_q (call_step (hNx) rfl (fun a w => Tryz.call18 a w) rfl) rfl rfl ?_
    refine goQ ?_
    refine go ?_
    cases dn
    · simp only [Bool.false_eq_true, ↓reduceIte] at hTm
      have hM := memDo_c m a (by omega)
      have hml := turnF_len m a
      generalize hwi : (wild || hfreeF l m a) = wi at hTm
      refine ck_f ?_
      refine awp_skip ?_
      refine q_then_normal ?_
      refine awp_cut ⟨[(0, .ptr 30 0), (3, dI who), (8, .ptr 9 0)], [(7, layD l), (8, playD want turns), (9, [dI a.kind, dI a.cell, dI a.old, dI a.new]), (30, [dInts m, dI step, .arr 31 0 n n, .arr 32 0 n n, .arr 33 0 n n, .arr 34 0 n n, .arr 35 0 n n, cd, dI full, dB wi, dB bad]), (31, opsC S1), (32, logsC S1), (33, stepsC S1), (34, nextsC S1), (35, gonesC S1), (36, cs)], []⟩ ?_ ?_
      · cases wild
        · refine go ?_
          refine a_callI (free_i l hL ⟨m, step, S1, calls, full, false, bad⟩ n cd cs hC a) rfl (fun a w => Tryz.call55 a w) rfl rfl (by exact tab_sub hC rfl rfl rfl rfl rfl rfl rfl) (by (repeat (first | exact trivial | refine ⟨.inr rfl, ?_⟩ | refine ⟨.inl rfl, ?_⟩))) rfl rfl rfl rfl ?_ ?_
          · rintro d bs ⟨rfl, rfl⟩; exact ⟨.inl rfl, .inl rfl, .inl rfl, .inl rfl, .inl rfl, .inl rfl, .inl rfl, trivial⟩
          rintro d bs ⟨rfl, rfl⟩
          rw [Bool.false_or] at hwi
          rw [show hfreeF l (HTabT.m ⟨m, step, S1, calls, full, false, bad⟩) a = wi from hwi]
          refine go ?_
          exact ⟨rfl, zX (hb := by exact ⟨⟨rfl, rfl⟩, ⟨rfl, rfl⟩, ⟨rfl, rfl⟩, ⟨rfl, tabD_oks (t := ⟨m, step, [], calls, full, wi, bad⟩) hC _ _ rfl rfl rfl rfl rfl rfl⟩, ⟨rfl, ops_plain _ _ _⟩, ⟨rfl, logs_plain _ _ _⟩, ⟨rfl, stepsC_plain _ _ _⟩, ⟨rfl, nexts_plain _ _ _⟩, ⟨rfl, gones_plain _ _ _⟩, ⟨rfl, hC.pl _ _⟩, trivial⟩)⟩
        · rw [Bool.true_or] at hwi
          subst hwi
          refine go ?_
          exact ⟨rfl, zX (hb := by exact ⟨⟨rfl, rfl⟩, ⟨rfl, rfl⟩, ⟨rfl, rfl⟩, ⟨rfl, tabD_oks (t := ⟨m, step, [], calls, full, true, bad⟩) hC _ _ rfl rfl rfl rfl rfl rfl⟩, ⟨rfl, ops_plain _ _ _⟩, ⟨rfl, logs_plain _ _ _⟩, ⟨rfl, stepsC_plain _ _ _⟩, ⟨rfl, nexts_plain _ _ _⟩, ⟨rfl, gones_plain _ _ _⟩, ⟨rfl, hC.pl _ _⟩, trivial⟩)⟩
      · refine go ?_
        unfold memDoF at hM
        by_cases hf : faultF m.length a = 0
        · rw [if_pos hf] at hM hTm
          generalize turnF m a = tr at hM hTm hml
          obtain ⟨m1, rs⟩ := tr
          dsimp only at hM hTm hml
          refine awp_region_w 14 [] rfl rfl (by kernel_rfl) (by kernel_rfl) (by kernel_rfl) ?_
          refine goQ ?_
          refine r_q (call_step (hM) rfl (fun a w => Tryz.call56 a w) rfl) rfl rfl ?_
          refine goQ ?_
          refine go ?_
          rw [show decide ((0 : Int) = 0) = true from rfl]
          refine go ?_
          refine awp_region_w 17 [] rfl rfl (by kernel_rfl) (by kernel_rfl) (by kernel_rfl) ?_
          refine goQ ?_
          refine r_q (indexAddrA_step (p := who) tabOk rfl rfl rfl rfl rfl (by omega) (by omega) (by show who = (who : Int).toNat * 1; omega)) rfl rfl ?_
          refine r_q (loadAt_step tabOk rfl rfl rfl rfl rfl hl1) rfl rfl ?_
          refine goQ ?_
          refine r_appendx (n' := 0) (m := x1.log.length) (ps := []) (qs := pLog x1.log) tabOk 0 rfl rfl rfl rfl rfl rfl rfl rfl rfl rfl rfl rfl rfl (pLog_len x1.log) (by unfold maxLen; omega) (by show (_ + _) * 16 ≤ _; omega) ?_
          rw [show 0 + x1.log.length = x1.log.length from Nat.zero_add _, List.nil_append]
          refine goQ ?_
          refine r_append (m := 1) (qs := pRes rs) tabOk rfl rfl rfl rfl rfl rfl rfl rfl rfl rfl rfl rfl rfl (by unfold maxLen; omega) (by show (_ + _) * 16 ≤ _; omega) ?_
          rw [show pLog x1.log ++ pRes rs = pLog (x1.log ++ [rs]) by simp [pLog], show x1.log.length + 1 = (x1.log ++ [rs]).length by simp]
          refine goQ ?_
          refine go ?_
          refine a_q (indexAddrA_step (p := who) tabOk rfl rfl rfl rfl rfl (by omega) (by omega) (by show who = (who : Int).toNat * 1; omega)) rfl rfl rfl ?_
          refine a_storeAt tabOk rfl rfl rfl rfl rfl rfl rfl rfl rfl (by show who < (logsC S1).length; rw [List.length_map]; omega) ?_
          have hlz : ((logsC S1).set who (.tip 0 (x1.log ++ [rs]).length (pLog (x1.log ++ [rs])))).map lowD = logsC (S1.set who { x1 with log := x1.log ++ [rs], steps := x1.steps ++ [step] }) := cells_low (f := fun x => dLog x.log) (fun _ => rfl) rfl
          have hsz : ((stepsC S1).set who (.tip 1 (x1.steps ++ [step]).length (pInts (x1.steps ++ [step])))).map lowD = stepsC (S1.set who { x1 with log := x1.log ++ [rs], steps := x1.steps ++ [step] }) := cells_low (f := fun x => dInts x.steps) (fun _ => rfl) rfl
          have e1 : opsC (S1.set who { x1 with log := x1.log ++ [rs], steps := x1.steps ++ [step] }) = opsC S1 := ops_same hS1x rfl
          have e2 : nextsC (S1.set who { x1 with log := x1.log ++ [rs], steps := x1.steps ++ [step] }) = nextsC S1 := map_set_same hS1x rfl
          have e3 : gonesC (S1.set who { x1 with log := x1.log ++ [rs], steps := x1.steps ++ [step] }) = gonesC S1 := map_set_same hS1x rfl
          generalize S1.set who { x1 with log := x1.log ++ [rs], steps := x1.steps ++ [step] } = S2 at hTm hlz hsz e1 e2 e3
          refine aops_ghost (lowB_ghost 32 rfl hlz) ?_
          refine go ?_
          refine awp_region_w 20 [] rfl rfl (by kernel_rfl) (by kernel_rfl) (by kernel_rfl) ?_
          refine goQ ?_
          refine r_q (indexAddrA_step (p := who) tabOk rfl rfl rfl rfl rfl (by omega) (by omega) (by show who = (who : Int).toNat * 1; omega)) rfl rfl ?_
          refine r_q (loadAt_step tabOk rfl rfl rfl rfl rfl hs1) rfl rfl ?_
          refine goQ ?_
          refine r_appendx (n' := 0) (m := x1.steps.length) (ps := []) (qs := pInts x1.steps) tabOk 1 rfl rfl rfl rfl rfl rfl rfl rfl rfl rfl rfl rfl rfl (by rw [pInts_len]; exact (Nat.mul_one _).symm) (by unfold maxLen; omega) (by show (_ + _) * 8 ≤ _; omega) ?_
          rw [show 0 + x1.steps.length = x1.steps.length from Nat.zero_add _, List.nil_append]
          refine goQ ?_
          refine r_append (m := 1) (qs := [pI step]) tabOk rfl rfl rfl rfl rfl rfl rfl rfl rfl rfl rfl rfl rfl (by unfold maxLen; omega) (by show (_ + _) * 8 ≤ _; omega) ?_
          rw [pInts_snoc, show x1.steps.length + 1 = (x1.steps ++ [step]).length by simp]
          refine goQ ?_
          refine go ?_
          refine a_q (indexAddrA_step (p := who) tabOk rfl rfl rfl rfl rfl (by omega) (by omega) (by show who = (who : Int).toNat * 1; omega)) rfl rfl rfl ?_
          refine a_storeAt tabOk rfl rfl rfl rfl rfl rfl rfl rfl rfl (by show who < (stepsC S1).length; rw [List.length_map]; omega) ?_
          refine aops_ghost (lowB_ghost 33 rfl hsz) ?_
          refine go ?_
          refine finI_normal (tabB ⟨m1, step + 1, S2, calls, full, wi, bad⟩ n cd cs) rfl rfl (by refine tab_sub hC rfl ?_ rfl rfl ?_ ?_ rfl <;> (try simp only [e1, e2, e3]) <;> rfl) (by (repeat (first | exact trivial | refine ⟨rfl, ?_⟩))) ⟨rfl, cd, cs, ?_, ?_⟩
          · rw [hTm]; exact hC
          · rw [hTm]
        · rw [if_neg hf] at hM hTm
          refine awp_region_w 14 [] rfl rfl (by kernel_rfl) (by kernel_rfl) (by kernel_rfl) ?_
          refine goQ ?_
          refine r_q (call_step (hM) rfl (fun a w => Tryz.call56 a w) rfl) rfl rfl ?_
          refine goQ ?_
          refine go ?_
          rw [show decide (faultF m.length a = 0) = false by rw [decide_eq_false_iff_not]; exact hf]
          refine go ?_
          refine a_q (indexAddrA_step (p := who * 4) tabOk rfl rfl rfl rfl rfl (by omega) (by omega) (by show who * 4 = (who : Int).toNat * 4; omega)) rfl rfl rfl ?_
          have hsb2 := opsC_set (l := S1) (i := who) { x1 with op := hop0 } (by omega)
          have e1 : logsC (S1.set who { x1 with op := hop0 }) = logsC S1 := map_set_same hS1x rfl
          have e2 : stepsC (S1.set who { x1 with op := hop0 }) = stepsC S1 := map_set_same hS1x rfl
          have e3 : nextsC (S1.set who { x1 with op := hop0 }) = nextsC S1 := map_set_same hS1x rfl
          have e4 : gonesC (S1.set who { x1 with op := hop0 }) = gonesC S1 := map_set_same hS1x rfl
          generalize S1.set who { x1 with op := hop0 } = S2 at hTm hsb2 e1 e2 e3 e4
          refine a_storeG tabOk (opsC S2) rfl rfl rfl rfl rfl rfl rfl rfl rfl (by rw [hol1]; show who * 4 + 4 ≤ _; omega) hsb2 ?_
          refine go ?_
          refine finI_ret (tabB ⟨m, step, S2, calls, full, wi, true⟩ n cd cs) rfl rfl (by refine tab_sub hC rfl rfl ?_ ?_ ?_ ?_ rfl <;> (try simp only [e1, e2, e3, e4]) <;> rfl) (by (repeat (first | exact trivial | refine ⟨rfl, ?_⟩))) ⟨rfl, cd, cs, ?_, ?_⟩
          · rw [hTm]; exact hC
          · rw [hTm]
    · simp only [↓reduceIte] at hTm
      refine ck_t ?_
      refine go ?_
      refine a_callI (end_i ⟨m, step, S1, calls, full, wild, bad⟩ n who x1 out hS1n hn8 hS1x (by omega) ⟨hfu.1, by show full ≤ 100000; omega⟩ (by show calls.length ≤ 100000; omega) cd cs hC) rfl (fun a w => Tryz.call54 a w) rfl rfl (by exact tab_sub hC rfl rfl rfl rfl rfl rfl rfl) (by (repeat (first | exact trivial | refine ⟨.inr rfl, ?_⟩ | refine ⟨.inl rfl, ?_⟩))) rfl rfl rfl rfl ?_ ?_
      · rintro d bs ⟨rfl, cd', cs', hC', rfl⟩; exact ⟨.inl rfl, .inl rfl, .inl rfl, .inl rfl, .inl rfl, .inl rfl, .inl rfl, trivial⟩
      rintro d bs ⟨rfl, cd', cs', hC', rfl⟩
      refine go ?_
      rw [← hTm] at hC' ⊢
      refine finI_ret (tabB (hturnT l want ⟨m, step, seats, calls, full, wild, bad⟩ who) n cd' cs') rfl rfl (by exact tab_sub hC' rfl rfl rfl rfl rfl rfl rfl) (by (repeat (first | exact trivial | refine ⟨rfl, ?_⟩))) ⟨rfl, cd', cs', hC', rfl⟩
end Go.Proofs.YtkkldicehapklaaGreat
