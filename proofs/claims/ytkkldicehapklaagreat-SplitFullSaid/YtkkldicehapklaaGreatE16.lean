/- A seat's turn: its walk. -/
import Derived.Test.YtkkldicehapklaaGreatE15
import Derived.Test.YtkkldicehapklaaGreatH9
namespace Go.Proofs.YtkkldicehapklaaGreat
open Go.RowKit
set_option maxRecDepth 100000
theorem opsC_get {l : List kR} {i : Nat} {x : kR} (h : l[i]? = some x) (j : Nat) (hj : j < 4) : (uB l)[i * 4 + j]? = (opD x.op)[j]? := by
 obtain ⟨rest, hr⟩ := kG3 h
 have : ((uB l).drop (i * 4))[j]? = (opD x.op)[j]? := by rw [hr, List.getElem?_append_left (by simpa using hj)]
 rwa [List.getElem?_drop] at this
theorem set_self {α : Type} : ∀ {l : List α} {i : Nat} {x : α}, l[i]? = some x → l.set i x = l
 | [], _, _, _ => rfl
 | a :: l, 0, x, h => by cases h; rfl
 | a :: l, i + 1, x, h => by rw [List.set_cons_succ, set_self (by simpa using h)]
theorem pLog_len (l : List jS) : (xF l).length = l.length * 2 := by
 induction l with
 | nil => rfl
 | cons a l ih => unfold xF at ih ⊢; rw [List.flatMap_cons, List.length_append, ih]; simp [pRes]; omega
theorem end_set {t : HTabT} {who : Nat} {x : kR} (y : kR) {out : kY} : jE7 { t with seats := t.seats.set who y } who x out = jE7 t who x out := by
 unfold jE7
 simp only [List.set_set]
theorem move_set {l : jN} {t : HTabT} {who : Nat} {x : kR} (y : kR) : uL l { t with seats := t.seats.set who y } who x = uL l t who x := by
 unfold uL
 simp only [List.set_set, end_set]
set_option maxHeartbeats 16000000 in
theorem turnT_i (l : jN) (hL : qJ l) (hLM : jG3 l) (want : List (List OpT)) (turns : List Int) (t : HTabT) (n k N : Nat) (hn : t.seats.length = n) (hw : want.length = n) (hn8 : n ≤ 8) (hU : Und k N t) (hk : k ≤ 5000) (hN : N ≤ 1000000) (who : Nat) (hwho : who < n) (cd : Dt) (cs : List Dt) (hC : CallsOk t.calls cd cs) :
  ImpC Tryz.prog 22 [30, 31, 32, 33, 34, 35] [.ptr 30 0, wO l, dPlay want turns, dI who] (vS t n cd cs) (fun d bs => d = .tup [] ∧ ∃ cd' cs', CallsOk (vI l want t who).calls cd' cs' ∧ bs = vS (vI l want t who) n cd' cs') := by
 obtain ⟨x, hx⟩ : ∃ x, t.seats[who]? = some x := ⟨t.seats[who]'(by omega), List.getElem?_eq_getElem _⟩
 obtain ⟨ws, hws⟩ : ∃ ws, want[who]? = some ws := ⟨want[who], List.getElem?_eq_getElem (by omega)⟩
 have hws' : want[(who : Int).toNat]? = some ws := by simpa using hws
 have hsb := hU.seat hx
 have hm := hU.m
 have hst := hU.step
 have hfu := hU.full
 have hca := hU.calls
 have hxn := hsb.next
 obtain ⟨m, step, seats, calls, full, wild, bad⟩ := t
 simp only at hn hx hm hst hfu hca hC
 have hTurn : vI l want ⟨m, step, seats, calls, full, wild, bad⟩ who = if x.op.kind = 0 then (match ws[x.next]? with | none => ⟨m, step, seats, calls, full, wild, bad⟩ | some op => uL l ⟨m, step, seats, calls, full, wild, bad⟩ who ⟨op, [], [], x.next + 1, x.gone⟩) else uL l ⟨m, step, seats, calls, full, wild, bad⟩ who x := by
  unfold vI
  simp only [hx, hws]
  rfl
 have hol := jV9 seats
 have hkd := opsC_get hx 0 (by omega)
 have hnx0 : (yC seats)[who]? = some (dI x.next) := jG2 (f := fun x => dI x.next) hx
 have hpick : (x.op.kind = 0 ∧ ws.length ≤ x.next) ∨ ∃ x1, ((x.op.kind ≠ 0 ∧ x1 = x) ∨ (x.op.kind = 0 ∧ ∃ op, ws[x.next]? = some op ∧ x1 = ⟨op, [], [], x.next + 1, x.gone⟩)) := by
  by_cases h : x.op.kind = 0
  ·by_cases h2 : ws.length ≤ x.next
   ·exact .inl ⟨h, h2⟩
   ·exact .inr ⟨_, .inr ⟨h, ws[x.next], List.getElem?_eq_getElem (by omega), rfl⟩⟩
  ·exact .inr ⟨x, .inl ⟨h, rfl⟩⟩
 show ImpC Tryz.prog 22 [30, 31, 32, 33, 34, 35] [.ptr 30 0, wO l, dPlay want turns, dI who] [(30, [kK m, dI step, .arr 31 0 n n, .arr 32 0 n n, .arr 33 0 n n, .arr 34 0 n n, .arr 35 0 n n, cd, dI full, dB wild, dB bad]), (31, uB seats), (32, uG seats), (33, yN seats), (34, yC seats), (35, yZ seats), (36, cs)] _
 refine vV jB Tryz.func22 rfl Tryz.ntmps22 rfl rfl rfl (by (repeat (first | exact trivial | refine ⟨rfl, ?_⟩))) fun w cl own kf => ?_
 rcases hpick with ⟨h1, h2⟩ | ⟨x1, hx1⟩
 ·rw [if_pos h1, List.getElem?_eq_none h2] at hTurn
  simp only at hTurn
  refine go ?_
  refine a_q (jJ (p := who * 4) jB rfl rfl rfl rfl rfl (by omega) (by omega) (by show who * 4 = (who : Int).toNat * 4; omega)) rfl rfl rfl ?_
  refine goO ?_
  refine a_q (kS jB rfl rfl rfl rfl rfl hkd) rfl rfl rfl ?_
  refine go ?_
  rw [show decide (x.op.kind = 0) = true by rw [decide_eq_true_eq]; exact h1]
  refine go ?_
  refine jE 13 [] rfl rfl (by kernel_rfl) (by kernel_rfl) (by kernel_rfl) ?_
  refine goQ ?_
  refine r_q (jJ (p := who) jB rfl rfl rfl rfl rfl (by omega) (by omega) (by show who = (who : Int).toNat * 1; omega)) rfl rfl ?_
  refine r_q (kS jB rfl rfl rfl rfl rfl hnx0) rfl rfl ?_
  refine goQ ?_
  refine r_q (jG jB [jS8 ws] rfl rfl rfl rfl rfl rfl (by first | omega | (simp; done) | (simp; omega)) (by first | omega | (simp; done) | (simp; omega)) (by first | (simp; done) | exact List.cons_ne_nil _ _) (jJ1 hws')) rfl rfl ?_
  refine goQ ?_
  refine go ?_
  rw [show decide ((x.next : Int) ≥ ws.length) = true by rw [decide_eq_true_eq]; omega]
  refine go ?_
  refine qI (vS ⟨m, step, seats, calls, full, wild, bad⟩ n cd cs) rfl rfl (by exact yL hC rfl rfl rfl rfl rfl rfl rfl) (by (repeat (first | exact trivial | refine ⟨rfl, ?_⟩))) ⟨rfl, cd, cs, ?_, ?_⟩
  ·rw [hTurn]; exact hC
  ·rw [hTurn]
 ·have hTm : vI l want ⟨m, step, seats, calls, full, wild, bad⟩ who = uL l ⟨m, step, seats.set who x1, calls, full, wild, bad⟩ who x1 := by
   rw [show uL l ⟨m, step, seats.set who x1, calls, full, wild, bad⟩ who x1 = uL l ⟨m, step, seats, calls, full, wild, bad⟩ who x1 from move_set (t := ⟨m, step, seats, calls, full, wild, bad⟩) x1, hTurn]
   rcases hx1 with ⟨h1, rfl⟩ | ⟨h1, op, h2, rfl⟩
   ·rw [if_neg h1]
   ·rw [if_pos h1, h2]
  have hb1 : x1.log.length ≤ k ∧ x1.steps.length ≤ k ∧ x1.next ≤ k + 1 ∧ x1.gone.length + x1.log.length ≤ k ∧ yK x1.gone := by
   rcases hx1 with ⟨h1, rfl⟩ | ⟨_, op, _, rfl⟩
   ·exact ⟨hsb.log, hsb.steps, by have := hsb.next; omega, by have := hsb.gone.1; rw [glN, if_neg h1] at this; exact this, hsb.gone.2⟩
   ·exact ⟨by simp, by simp, by have := hsb.next; simp only; omega, by have := hsb.gone.1; have := glN_le (x := x); simp only [List.length_nil]; omega, hsb.gone.2⟩
  have hS1x : (seats.set who x1)[who]? = some x1 := by rw [List.getElem?_set_self (by omega)]
  have hS1n : (seats.set who x1).length = n := by rw [List.length_set]; exact hn
  generalize hS1 : seats.set who x1 = S1 at hTm hS1x hS1n
  obtain ⟨hbl, hbs, hbn, hbg, hbo⟩ := hb1
  refine jR7 ?_
  refine jO2 ?_
  refine goO ?_
  refine vJ ?_
  refine kF7 ⟨[(0, .ptr 30 0), (3, dI who), (5, .ptr 7 0), (6, .ptr 8 0)], [(7, xL l), (8, jB1 want turns), (30, [kK m, dI step, .arr 31 0 n n, .arr 32 0 n n, .arr 33 0 n n, .arr 34 0 n n, .arr 35 0 n n, cd, dI full, dB wild, dB bad]), (31, uB S1), (32, uG S1), (33, yN S1), (34, yC S1), (35, yZ S1), (36, cs)], []⟩ ?_ ?_
  ·rcases hx1 with ⟨h1, rfl⟩ | ⟨h1, op, hop, rfl⟩
   ·rw [set_self hx] at hS1
    subst hS1
    refine go ?_
    refine a_q (jJ (p := who * 4) jB rfl rfl rfl rfl rfl (by omega) (by omega) (by show who * 4 = (who : Int).toNat * 4; omega)) rfl rfl rfl ?_
    refine goO ?_
    refine a_q (kS jB rfl rfl rfl rfl rfl hkd) rfl rfl rfl ?_
    refine go ?_
    rw [show decide (x1.op.kind = 0) = false by rw [decide_eq_false_iff_not]; exact h1]
    refine go ?_
    exact ⟨rfl, zX (hb := by exact ⟨⟨rfl, rfl⟩, ⟨rfl, rfl⟩, ⟨rfl, yF (t := ⟨m, step, [], calls, full, wild, bad⟩) hC _ _ rfl rfl rfl rfl rfl rfl⟩, ⟨rfl, kV _ _ _⟩, ⟨rfl, kM _ _ _⟩, ⟨rfl, kB _ _ _⟩, ⟨rfl, kH _ _ _⟩, ⟨rfl, kG _ _ _⟩, ⟨rfl, hC.pl _ _⟩, trivial⟩)⟩
   ·have hop' : ws[(x.next : Int).toNat]? = some op := by simpa using hop
    have hnl : x.next < ws.length := (List.getElem?_eq_some_iff.1 hop).1
    have hso := jY0 (l := seats) (i := who) ⟨op, [], [], x.next + 1, x.gone⟩ (by omega)
    have hsl : ((uG seats).set who (.p (.sl true 0 []))).map lowD = uG (seats.set who ⟨op, [], [], x.next + 1, x.gone⟩) := jK7 (f := fun x => dLog x.log) (fun _ => rfl) rfl
    have hss : ((yN seats).set who (.p (.sl true 0 []))).map lowD = yN (seats.set who ⟨op, [], [], x.next + 1, x.gone⟩) := jK7 (f := fun x => kK x.steps) (fun _ => rfl) rfl
    have hsn : (yC seats).set who (dI ((x.next : Int) + 1)) = yC (seats.set who ⟨op, [], [], x.next + 1, x.gone⟩) := by rw [yC, yC, List.map_set]; congr 1
    have hsg : yZ (seats.set who ⟨op, [], [], x.next + 1, x.gone⟩) = yZ seats := yG hx rfl
    rw [hS1] at hso hsl hss hsn hsg
    refine go ?_
    refine a_q (jJ (p := who * 4) jB rfl rfl rfl rfl rfl (by omega) (by omega) (by show who * 4 = (who : Int).toNat * 4; omega)) rfl rfl rfl ?_
    refine goO ?_
    refine a_q (kS jB rfl rfl rfl rfl rfl hkd) rfl rfl rfl ?_
    refine go ?_
    rw [show decide (x.op.kind = 0) = true by rw [decide_eq_true_eq]; exact h1]
    refine go ?_
    refine jE 13 [] rfl rfl (by kernel_rfl) (by kernel_rfl) (by kernel_rfl) ?_
    refine goQ ?_
    refine r_q (jJ (p := who) jB rfl rfl rfl rfl rfl (by omega) (by omega) (by show who = (who : Int).toNat * 1; omega)) rfl rfl ?_
    refine r_q (kS jB rfl rfl rfl rfl rfl hnx0) rfl rfl ?_
    refine goQ ?_
    refine r_q (jG jB [jS8 ws] rfl rfl rfl rfl rfl rfl (by first | omega | (simp; done) | (simp; omega)) (by first | omega | (simp; done) | (simp; omega)) (by first | (simp; done) | exact List.cons_ne_nil _ _) (jJ1 hws')) rfl rfl ?_
    refine goQ ?_
    refine go ?_
    rw [show decide ((x.next : Int) ≥ ws.length) = false by rw [decide_eq_false_iff_not]; omega]
    refine go ?_
    refine jE 19 [] rfl rfl (by kernel_rfl) (by kernel_rfl) (by kernel_rfl) ?_
    refine goQ ?_
    refine r_q (jG jB [jS8 ws] rfl rfl rfl rfl rfl rfl (by first | omega | (simp; done) | (simp; omega)) (by first | omega | (simp; done) | (simp; omega)) (by first | (simp; done) | exact List.cons_ne_nil _ _) (jJ1 hws')) rfl rfl ?_
    refine goQ ?_
    refine r_q (jJ (p := who) jB rfl rfl rfl rfl rfl (by omega) (by omega) (by show who = (who : Int).toNat * 1; omega)) rfl rfl ?_
    refine r_q (kS jB rfl rfl rfl rfl rfl hnx0) rfl rfl ?_
    refine goQ ?_
    refine r_q (jG jB [pI op.kind, pI op.obj, pI op.a, pI op.b] rfl rfl rfl rfl rfl rfl (by first | omega | (simp; done) | (simp; omega)) (by first | omega | (simp; done) | (simp; omega)) (by first | (simp; done) | exact List.cons_ne_nil _ _) (ops_idx hop')) rfl rfl ?_
    refine goQ ?_
    refine go ?_
    refine a_q (jJ (p := who * 4) jB rfl rfl rfl rfl rfl (by omega) (by omega) (by show who * 4 = (who : Int).toNat * 4; omega)) rfl rfl rfl ?_
    refine kJ2 jB (uB S1) rfl rfl rfl rfl rfl rfl rfl rfl rfl (by rw [hol]; show who * 4 + 4 ≤ _; omega) hso ?_
    refine go ?_
    refine a_q (jJ (p := who) jB rfl rfl rfl rfl rfl (by omega) (by omega) (by show who = (who : Int).toNat * 1; omega)) rfl rfl rfl ?_
    refine a_q (kS jB rfl rfl rfl rfl rfl hnx0) rfl rfl rfl ?_
    refine go ?_
    refine a_q (jJ (p := who) jB rfl rfl rfl rfl rfl (by omega) (by omega) (by show who = (who : Int).toNat * 1; omega)) rfl rfl rfl ?_
    refine vU jB rfl rfl rfl rfl rfl rfl rfl rfl rfl (by show who < (yC seats).length; rw [List.length_map]; omega) ?_
    rw [hsn]
    refine go ?_
    refine a_q (jJ (p := who) jB rfl rfl rfl rfl rfl (by omega) (by omega) (by show who = (who : Int).toNat * 1; omega)) rfl rfl rfl ?_
    refine vU jB rfl rfl rfl rfl rfl rfl rfl rfl rfl (by show who < (uG seats).length; rw [List.length_map]; omega) ?_
    refine qW (uA 32 rfl hsl) ?_
    refine go ?_
    refine a_q (jJ (p := who) jB rfl rfl rfl rfl rfl (by omega) (by omega) (by show who = (who : Int).toNat * 1; omega)) rfl rfl rfl ?_
    refine vU jB rfl rfl rfl rfl rfl rfl rfl rfl rfl (by show who < (yN seats).length; rw [List.length_map]; omega) ?_
    refine qW (uA 33 rfl hss) ?_
    rw [← hsg]
    refine go ?_
    exact ⟨rfl, zX (hb := by exact ⟨⟨rfl, rfl⟩, ⟨rfl, rfl⟩, ⟨rfl, yF (t := ⟨m, step, [], calls, full, wild, bad⟩) hC _ _ rfl rfl rfl rfl rfl rfl⟩, ⟨rfl, kV _ _ _⟩, ⟨rfl, kM _ _ _⟩, ⟨rfl, kB _ _ _⟩, ⟨rfl, kH _ _ _⟩, ⟨rfl, kG _ _ _⟩, ⟨rfl, hC.pl _ _⟩, trivial⟩)⟩
  have hol1 := jV9 S1
  obtain ⟨rest1, hr1⟩ := kG3 hS1x
  have hg1 : (yZ S1)[who]? = some (vG x1.gone) := jG2 (f := fun x => vG x.gone) hS1x
  have hl1 : (uG S1)[who]? = some (dLog x1.log) := jG2 (f := fun x => dLog x.log) hS1x
  have hs1 : (yN S1)[who]? = some (kK x1.steps) := jG2 (f := fun x => kK x.steps) hS1x
  have hNx := hnext_c l hL hL.seats.1 hLM who x1.gone x1.op x1.log hbo (by omega) (by omega)
  unfold uL at hTm
  simp only at hTm
  generalize wA l who x1.gone x1.op x1.log = r at hNx hTm
  obtain ⟨a, out, dn⟩ := r
  dsimp only [dNx] at hNx
  simp only at hTm
  refine go ?_
  refine jE 32 [] rfl rfl (by kernel_rfl) (by kernel_rfl) (by kernel_rfl) ?_
  refine goQ ?_
  refine r_q (jJ (p := who) jB rfl rfl rfl rfl rfl (by omega) (by omega) (by show who = (who : Int).toNat * 1; omega)) rfl rfl ?_
  refine r_q (kS jB rfl rfl rfl rfl rfl hg1) rfl rfl ?_
  refine goQ ?_
  refine r_q (jJ (p := who * 4) jB rfl rfl rfl rfl rfl (by omega) (by omega) (by show who * 4 = (who : Int).toNat * 4; omega)) rfl rfl ?_
  refine r_q (wZ jB (opD x1.op) rest1 rfl rfl rfl rfl rfl (by show _ ≤ (uB S1).length; omega) hr1 rfl) rfl rfl ?_
  refine goQ ?_
  refine r_q (jJ (p := who) jB rfl rfl rfl rfl rfl (by omega) (by omega) (by show who = (who : Int).toNat * 1; omega)) rfl rfl ?_
  refine r_q (kS jB rfl rfl rfl rfl rfl hl1) rfl rfl ?_
  refine goQ ?_
  refine r_q (jA (hNx) rfl (fun a w => Tryz.call18 a w) rfl) rfl rfl ?_
  refine goQ ?_
  refine go ?_
  cases dn
  ·simp only [Bool.false_eq_true, ↓reduceIte] at hTm
   have hM := memDo_c m a (by omega)
   have hml := jM0 m a
   generalize hwi : (wild || jK3 l m a) = wi at hTm
   refine ck_f ?_
   refine awp_skip ?_
   refine vJ ?_
   refine kF7 ⟨[(0, .ptr 30 0), (3, dI who), (8, .ptr 9 0)], [(7, xL l), (8, jB1 want turns), (9, [dI a.kind, dI a.cell, dI a.old, dI a.new]), (30, [kK m, dI step, .arr 31 0 n n, .arr 32 0 n n, .arr 33 0 n n, .arr 34 0 n n, .arr 35 0 n n, cd, dI full, dB wi, dB bad]), (31, uB S1), (32, uG S1), (33, yN S1), (34, yC S1), (35, yZ S1), (36, cs)], []⟩ ?_ ?_
   ·cases wild
    ·refine go ?_
     refine yX (free_i l hL ⟨m, step, S1, calls, full, false, bad⟩ n cd cs hC a) rfl (fun a w => Tryz.call55 a w) rfl rfl (by exact yL hC rfl rfl rfl rfl rfl rfl rfl) (by (repeat (first | exact trivial | refine ⟨.inr rfl, ?_⟩ | refine ⟨.inl rfl, ?_⟩))) rfl rfl rfl rfl ?_ ?_
     ·rintro d bs ⟨rfl, rfl⟩; exact ⟨.inl rfl, .inl rfl, .inl rfl, .inl rfl, .inl rfl, .inl rfl, .inl rfl, trivial⟩
     rintro d bs ⟨rfl, rfl⟩
     rw [Bool.false_or] at hwi
     rw [show jK3 l (HTabT.m ⟨m, step, S1, calls, full, false, bad⟩) a = wi from hwi]
     refine go ?_
     exact ⟨rfl, zX (hb := by exact ⟨⟨rfl, rfl⟩, ⟨rfl, rfl⟩, ⟨rfl, rfl⟩, ⟨rfl, yF (t := ⟨m, step, [], calls, full, wi, bad⟩) hC _ _ rfl rfl rfl rfl rfl rfl⟩, ⟨rfl, kV _ _ _⟩, ⟨rfl, kM _ _ _⟩, ⟨rfl, kB _ _ _⟩, ⟨rfl, kH _ _ _⟩, ⟨rfl, kG _ _ _⟩, ⟨rfl, hC.pl _ _⟩, trivial⟩)⟩
    ·rw [Bool.true_or] at hwi
     subst hwi
     refine go ?_
     exact ⟨rfl, zX (hb := by exact ⟨⟨rfl, rfl⟩, ⟨rfl, rfl⟩, ⟨rfl, rfl⟩, ⟨rfl, yF (t := ⟨m, step, [], calls, full, true, bad⟩) hC _ _ rfl rfl rfl rfl rfl rfl⟩, ⟨rfl, kV _ _ _⟩, ⟨rfl, kM _ _ _⟩, ⟨rfl, kB _ _ _⟩, ⟨rfl, kH _ _ _⟩, ⟨rfl, kG _ _ _⟩, ⟨rfl, hC.pl _ _⟩, trivial⟩)⟩
   ·refine go ?_
    unfold kB4 at hM
    by_cases hf : uO m.length a = 0
    ·rw [if_pos hf] at hM hTm
     generalize vL m a = tr at hM hTm hml
     obtain ⟨m1, rs⟩ := tr
     dsimp only at hM hTm hml
     refine jE 14 [] rfl rfl (by kernel_rfl) (by kernel_rfl) (by kernel_rfl) ?_
     refine goQ ?_
     refine r_q (jA (hM) rfl (fun a w => Tryz.call56 a w) rfl) rfl rfl ?_
     refine goQ ?_
     refine go ?_
     rw [show decide ((0 : Int) = 0) = true from rfl]
     refine go ?_
     refine jE 17 [] rfl rfl (by kernel_rfl) (by kernel_rfl) (by kernel_rfl) ?_
     refine goQ ?_
     refine r_q (jJ (p := who) jB rfl rfl rfl rfl rfl (by omega) (by omega) (by show who = (who : Int).toNat * 1; omega)) rfl rfl ?_
     refine r_q (kS jB rfl rfl rfl rfl rfl hl1) rfl rfl ?_
     refine goQ ?_
     refine r_appendx (n' := 0) (m := x1.log.length) (ps := []) (qs := xF x1.log) jB 0 rfl rfl rfl rfl rfl rfl rfl rfl rfl rfl rfl rfl rfl (pLog_len x1.log) (by unfold maxLen; omega) (by show (_ + _) * 16 ≤ _; omega) ?_
     rw [show 0 + x1.log.length = x1.log.length from Nat.zero_add _, List.nil_append]
     refine goQ ?_
     refine jL4 (m := 1) (qs := pRes rs) jB rfl rfl rfl rfl rfl rfl rfl rfl rfl rfl rfl rfl rfl (by unfold maxLen; omega) (by show (_ + _) * 16 ≤ _; omega) ?_
     rw [show xF x1.log ++ pRes rs = xF (x1.log ++ [rs]) by simp [xF], show x1.log.length + 1 = (x1.log ++ [rs]).length by simp]
     refine goQ ?_
     refine go ?_
     refine a_q (jJ (p := who) jB rfl rfl rfl rfl rfl (by omega) (by omega) (by show who = (who : Int).toNat * 1; omega)) rfl rfl rfl ?_
     refine vU jB rfl rfl rfl rfl rfl rfl rfl rfl rfl (by show who < (uG S1).length; rw [List.length_map]; omega) ?_
     have hlz : ((uG S1).set who (.tip 0 (x1.log ++ [rs]).length (xF (x1.log ++ [rs])))).map lowD = uG (S1.set who { x1 with log := x1.log ++ [rs], steps := x1.steps ++ [step] }) := jK7 (f := fun x => dLog x.log) (fun _ => rfl) rfl
     have hsz : ((yN S1).set who (.tip 1 (x1.steps ++ [step]).length (kD (x1.steps ++ [step])))).map lowD = yN (S1.set who { x1 with log := x1.log ++ [rs], steps := x1.steps ++ [step] }) := jK7 (f := fun x => kK x.steps) (fun _ => rfl) rfl
     have e1 : uB (S1.set who { x1 with log := x1.log ++ [rs], steps := x1.steps ++ [step] }) = uB S1 := ops_same hS1x rfl
     have e2 : yC (S1.set who { x1 with log := x1.log ++ [rs], steps := x1.steps ++ [step] }) = yC S1 := yG hS1x rfl
     have e3 : yZ (S1.set who { x1 with log := x1.log ++ [rs], steps := x1.steps ++ [step] }) = yZ S1 := yG hS1x rfl
     generalize S1.set who { x1 with log := x1.log ++ [rs], steps := x1.steps ++ [step] } = S2 at hTm hlz hsz e1 e2 e3
     refine qW (uA 32 rfl hlz) ?_
     refine go ?_
     refine jE 20 [] rfl rfl (by kernel_rfl) (by kernel_rfl) (by kernel_rfl) ?_
     refine goQ ?_
     refine r_q (jJ (p := who) jB rfl rfl rfl rfl rfl (by omega) (by omega) (by show who = (who : Int).toNat * 1; omega)) rfl rfl ?_
     refine r_q (kS jB rfl rfl rfl rfl rfl hs1) rfl rfl ?_
     refine goQ ?_
     refine r_appendx (n' := 0) (m := x1.steps.length) (ps := []) (qs := kD x1.steps) jB 1 rfl rfl rfl rfl rfl rfl rfl rfl rfl rfl rfl rfl rfl (by rw [jG1]; exact (Nat.mul_one _).symm) (by unfold maxLen; omega) (by show (_ + _) * 8 ≤ _; omega) ?_
     rw [show 0 + x1.steps.length = x1.steps.length from Nat.zero_add _, List.nil_append]
     refine goQ ?_
     refine jL4 (m := 1) (qs := [pI step]) jB rfl rfl rfl rfl rfl rfl rfl rfl rfl rfl rfl rfl rfl (by unfold maxLen; omega) (by show (_ + _) * 8 ≤ _; omega) ?_
     rw [jC4, show x1.steps.length + 1 = (x1.steps ++ [step]).length by simp]
     refine goQ ?_
     refine go ?_
     refine a_q (jJ (p := who) jB rfl rfl rfl rfl rfl (by omega) (by omega) (by show who = (who : Int).toNat * 1; omega)) rfl rfl rfl ?_
     refine vU jB rfl rfl rfl rfl rfl rfl rfl rfl rfl (by show who < (yN S1).length; rw [List.length_map]; omega) ?_
     refine qW (uA 33 rfl hsz) ?_
     refine go ?_
     refine qD (vS ⟨m1, step + 1, S2, calls, full, wi, bad⟩ n cd cs) rfl rfl (by refine yL hC rfl ?_ rfl rfl ?_ ?_ rfl <;> (try simp only [e1, e2, e3]) <;> rfl) (by (repeat (first | exact trivial | refine ⟨rfl, ?_⟩))) ⟨rfl, cd, cs, ?_, ?_⟩
     ·rw [hTm]; exact hC
     ·rw [hTm]
    ·rw [if_neg hf] at hM hTm
     refine jE 14 [] rfl rfl (by kernel_rfl) (by kernel_rfl) (by kernel_rfl) ?_
     refine goQ ?_
     refine r_q (jA (hM) rfl (fun a w => Tryz.call56 a w) rfl) rfl rfl ?_
     refine goQ ?_
     refine go ?_
     rw [show decide (uO m.length a = 0) = false by rw [decide_eq_false_iff_not]; exact hf]
     refine go ?_
     refine a_q (jJ (p := who * 4) jB rfl rfl rfl rfl rfl (by omega) (by omega) (by show who * 4 = (who : Int).toNat * 4; omega)) rfl rfl rfl ?_
     have hsb2 := jY0 (l := S1) (i := who) { x1 with op := jI8 } (by omega)
     have e1 : uG (S1.set who { x1 with op := jI8 }) = uG S1 := yG hS1x rfl
     have e2 : yN (S1.set who { x1 with op := jI8 }) = yN S1 := yG hS1x rfl
     have e3 : yC (S1.set who { x1 with op := jI8 }) = yC S1 := yG hS1x rfl
     have e4 : yZ (S1.set who { x1 with op := jI8 }) = yZ S1 := yG hS1x rfl
     generalize S1.set who { x1 with op := jI8 } = S2 at hTm hsb2 e1 e2 e3 e4
     refine kJ2 jB (uB S2) rfl rfl rfl rfl rfl rfl rfl rfl rfl (by rw [hol1]; show who * 4 + 4 ≤ _; omega) hsb2 ?_
     refine go ?_
     refine qI (vS ⟨m, step, S2, calls, full, wi, true⟩ n cd cs) rfl rfl (by refine yL hC rfl rfl ?_ ?_ ?_ ?_ rfl <;> (try simp only [e1, e2, e3, e4]) <;> rfl) (by (repeat (first | exact trivial | refine ⟨rfl, ?_⟩))) ⟨rfl, cd, cs, ?_, ?_⟩
     ·rw [hTm]; exact hC
     ·rw [hTm]
  ·simp only [↓reduceIte] at hTm
   refine ck_t ?_
   refine go ?_
   refine yX (end_i ⟨m, step, S1, calls, full, wild, bad⟩ n who x1 out hS1n hn8 hS1x (by omega) ⟨hfu.1, by show full ≤ 100000; omega⟩ (by show calls.length ≤ 100000; omega) cd cs hC) rfl (fun a w => Tryz.call54 a w) rfl rfl (by exact yL hC rfl rfl rfl rfl rfl rfl rfl) (by (repeat (first | exact trivial | refine ⟨.inr rfl, ?_⟩ | refine ⟨.inl rfl, ?_⟩))) rfl rfl rfl rfl ?_ ?_
   ·rintro d bs ⟨rfl, cd', cs', hC', rfl⟩; exact ⟨.inl rfl, .inl rfl, .inl rfl, .inl rfl, .inl rfl, .inl rfl, .inl rfl, trivial⟩
   rintro d bs ⟨rfl, cd', cs', hC', rfl⟩
   refine go ?_
   rw [← hTm] at hC' ⊢
   refine qI (vS (vI l want ⟨m, step, seats, calls, full, wild, bad⟩ who) n cd' cs') rfl rfl (by exact yL hC' rfl rfl rfl rfl rfl rfl rfl) (by (repeat (first | exact trivial | refine ⟨rfl, ?_⟩))) ⟨rfl, cd', cs', hC', rfl⟩
end Go.Proofs.YtkkldicehapklaaGreat
