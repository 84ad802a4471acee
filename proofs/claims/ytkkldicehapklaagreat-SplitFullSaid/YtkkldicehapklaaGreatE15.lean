/- The end of an operation: its walk. -/
import Derived.Test.YtkkldicehapklaaGreatE14
import Derived.Test.YtkkldicehapklaaGreatAny
namespace Go.Proofs.YtkkldicehapklaaGreat
open Go.RowKit
set_option maxRecDepth 100000
set_option maxHeartbeats 8000000 in
theorem end_i (t : HTabT) (n : Nat) (who : Nat) (x : kR) (out : kY) (hn : t.seats.length = n) (hn8 : n ≤ 8) (hx : t.seats[who]? = some x) (hsl : x.steps.length ≤ 100000) (hf : 0 ≤ t.full ∧ t.full ≤ 100000) (hcl : t.calls.length ≤ 100000) (cd : Dt) (cs : List Dt) (hC : CallsOk t.calls cd cs) :
  ImpC Tryz.prog 54 [30, 31, 32, 33, 34, 35] [.ptr 30 0, dI who, jO0 out] (vS t n cd cs) (fun d bs => d = .tup [] ∧ ∃ cd' cs', CallsOk (jE7 t who x out).calls cd' cs' ∧ bs = vS (jE7 t who x out) n cd' cs') := by
 have hwho : who < n := by rw [← hn]; exact (List.getElem?_eq_some_iff.1 hx).1
 obtain ⟨rest, hrest⟩ := kG3 hx
 have hol := jV9 t.seats
 obtain ⟨m, step, seats, calls, full, wild, bad⟩ := t
 simp only at hn hx hf hcl hC hrest hol
 have hy := jY0 (l := seats) (i := who) { x with op := jI8, gone := out.gone } (by omega)
 have hz : ((yZ seats).set who (vG out.gone)).map lowD = yZ (seats.set who { x with op := jI8, gone := out.gone }) := jK7 (f := fun x => vG x.gone) (fun _ => rfl) rfl
 have e1 : uG (seats.set who { x with op := jI8, gone := out.gone }) = uG seats := yG hx rfl
 have e2 : yN (seats.set who { x with op := jI8, gone := out.gone }) = yN seats := yG hx rfl
 have e3 : yC (seats.set who { x with op := jI8, gone := out.gone }) = yC seats := yG hx rfl
 generalize hS : seats.set who { x with op := jI8, gone := out.gone } = S at hy hz e1 e2 e3
 have hsg : (yN seats)[who]? = some (kK x.steps) := jG2 (f := fun x => kK x.steps) hx
 show ImpC Tryz.prog 54 [30, 31, 32, 33, 34, 35] [.ptr 30 0, dI who, jO0 out] [(30, [kK m, dI step, .arr 31 0 n n, .arr 32 0 n n, .arr 33 0 n n, .arr 34 0 n n, .arr 35 0 n n, cd, dI full, dB wild, dB bad]), (31, uB seats), (32, uG seats), (33, yN seats), (34, yC seats), (35, yZ seats), (36, cs)] _
 refine vV jB Tryz.func54 rfl Tryz.ntmps54 rfl rfl rfl (by (repeat (first | exact trivial | refine ⟨rfl, ?_⟩))) fun w cl own kf => ?_
 refine go ?_
 refine jE 14 [] rfl rfl (by kernel_rfl) (by kernel_rfl) (by kernel_rfl) ?_
 refine goQ ?_
 refine r_q (jJ (p := who * 4) jB rfl rfl rfl rfl rfl (by omega) (by omega) (by show who * 4 = (who : Int).toNat * 4; omega)) rfl rfl ?_
 refine r_q (wZ jB (opD x.op) rest rfl rfl rfl rfl rfl (by show _ ≤ (uB seats).length; omega) hrest rfl) rfl rfl ?_
 refine goQ ?_
 refine go ?_
 refine a_q (jJ (p := who * 4) jB rfl rfl rfl rfl rfl (by omega) (by omega) (by show who * 4 = (who : Int).toNat * 4; omega)) rfl rfl rfl ?_
 refine kJ2 jB (uB S) rfl rfl rfl rfl rfl rfl rfl rfl rfl (by rw [hol]; show who * 4 + 4 ≤ _; omega) hy ?_
 refine go ?_
 refine jE 7 [] rfl rfl (by kernel_rfl) (by kernel_rfl) (by kernel_rfl) ?_
 refine goQ ?_
 refine go ?_
 refine a_q (jJ (p := who) jB rfl rfl rfl rfl rfl (by omega) (by omega) (by show who = (who : Int).toNat * 1; omega)) rfl rfl rfl ?_
 refine vU jB rfl rfl rfl rfl rfl rfl rfl rfl rfl (by show who < (yZ seats).length; rw [List.length_map]; omega) ?_
 refine qW (uA 35 rfl hz) ?_
 refine go ?_
 refine a_q (jJ (p := who) jB rfl rfl rfl rfl rfl (by omega) (by omega) (by show who = (who : Int).toNat * 1; omega)) rfl rfl rfl ?_
 refine a_q (kS jB rfl rfl rfl rfl rfl hsg) rfl rfl rfl ?_
 refine go ?_
 have hEt : jE7 ⟨m, step, seats, calls, full, wild, bad⟩ who x out = if out.err = 8 then ⟨m, step, S, calls, full + 1, wild, bad⟩ else if out.err ≠ 0 ∨ x.steps.length = 0 then ⟨m, step, S, calls, full, wild, true⟩ else ⟨m, step, S, calls ++ [⟨who, x.op, out.val, out.is, x.steps.getD 0 0, x.steps.getD (x.steps.length - 1) 0, if 0 ≤ out.point ∧ out.point < x.steps.length then x.steps.getD out.point.toNat 0 else -1⟩], full, wild, bad⟩ := by
  unfold jE7
  simp only
  rw [hS]
 have hB : ∀ (full' : Int) (bad' : Bool) (calls' : List HCallT) (cd' : Dt) (cs' : List Dt), vS ⟨m, step, S, calls', full', wild, bad'⟩ n cd' cs' = [(30, tabD ⟨m, step, S, calls', full', wild, bad'⟩ n cd'), (31, uB S), (32, uG seats), (33, yN seats), (34, yC seats), (35, yZ S), (36, cs')] := fun full' bad' calls' cd' cs' => by
  show [(30, _), (31, uB S), (32, uG S), (33, yN S), (34, yC S), (35, yZ S), (36, cs')] = _
  rw [e1, e2, e3]
 generalize jE7 ⟨m, step, seats, calls, full, wild, bad⟩ who x out = T at hEt
 generalize h1 : decide (out.err = 8) = cc; cases cc
 ·have h1' := of_decide_eq_false h1
  rw [if_neg h1'] at hEt
  refine go ?_
  generalize h2 : decide (out.err = 0) = cc; cases cc
  ·have h2' := of_decide_eq_false h2
   rw [if_pos (.inl h2')] at hEt
   subst hEt
   refine go ?_
   refine qI (vS ⟨m, step, S, calls, full, wild, true⟩ n cd cs) rfl rfl (by refine yL hC rfl rfl ?_ ?_ ?_ rfl rfl <;> simp only [e1, e2, e3] <;> rfl) (by (repeat (first | exact trivial | refine ⟨rfl, ?_⟩))) ⟨rfl, cd, cs, hC, rfl⟩
  ·have h2' := of_decide_eq_true h2
   refine go ?_
   generalize h3 : decide ((x.steps.length : Int) = 0) = cc; cases cc
   ·have h3' := of_decide_eq_false h3
    rw [if_neg (by omega)] at hEt
    have hs0 : x.steps[((0 : Int)).toNat]? = some (x.steps.getD 0 0) := by
     rw [show ((0 : Int)).toNat = 0 from rfl, List.getD_eq_getElem?_getD, List.getElem?_eq_getElem (by omega)]; rfl
    have hs1 : x.steps[((x.steps.length : Int) - 1).toNat]? = some (x.steps.getD (x.steps.length - 1) 0) := by
     rw [show ((x.steps.length : Int) - 1).toNat = x.steps.length - 1 by omega, List.getD_eq_getElem?_getD, List.getElem?_eq_getElem (by omega)]; rfl
    generalize hpt : (if 0 ≤ out.point ∧ out.point < x.steps.length then x.steps.getD out.point.toNat 0 else -1) = pt at hEt
    refine go ?_
    refine a_q (jJ (p := who) jB rfl rfl rfl rfl rfl (by omega) (by omega) (by show who = (who : Int).toNat * 1; omega)) rfl rfl rfl ?_
    refine a_q (kS jB rfl rfl rfl rfl rfl hsg) rfl rfl rfl ?_
    refine a_q (jG jB [pI (x.steps.getD 0 0)] rfl rfl rfl rfl rfl rfl (by first | omega | (simp; done) | (simp; omega)) (by first | omega | (simp; done) | (simp; omega)) (by first | (simp; done) | exact List.cons_ne_nil _ _) (qE hs0)) rfl rfl rfl ?_
    refine go ?_
    refine a_q (jJ (p := who) jB rfl rfl rfl rfl rfl (by omega) (by omega) (by show who = (who : Int).toNat * 1; omega)) rfl rfl rfl ?_
    refine a_q (kS jB rfl rfl rfl rfl rfl hsg) rfl rfl rfl ?_
    refine goO ?_
    refine a_q (jG jB [pI (x.steps.getD (x.steps.length - 1) 0)] rfl rfl rfl rfl rfl rfl (by first | omega | (simp; done) | (simp; omega)) (by first | omega | (simp; done) | (simp; omega)) (by first | (simp; done) | exact List.cons_ne_nil _ _) (qE hs1)) rfl rfl rfl ?_
    refine goO ?_
    refine vJ ?_
    refine kF7 ⟨[(0, .ptr 30 0), (6, .ptr 8 0)], [(8, [dI who, dI x.op.kind, dI x.op.obj, dI x.op.a, dI x.op.b, dI out.val, dB out.is, dI (x.steps.getD 0 0), dI (x.steps.getD (x.steps.length - 1) 0), dI pt]), (30, [kK m, dI step, .arr 31 0 n n, .arr 32 0 n n, .arr 33 0 n n, .arr 34 0 n n, .arr 35 0 n n, cd, dI full, dB wild, dB bad]), (31, uB S), (32, uG seats), (33, yN seats), (34, yC seats), (35, yZ S), (36, cs)], []⟩ ?_ ?_
    ·refine go ?_
     generalize h4 : decide (out.point ≥ 0) = cc; cases cc
     ·have h4' := of_decide_eq_false h4
      rw [if_neg (by omega)] at hpt
      subst hpt
      refine go ?_
      exact ⟨rfl, zX (hb := by exact ⟨⟨rfl, rfl⟩, ⟨rfl, yF (t := ⟨m, step, S, calls, full, wild, bad⟩) hC _ _ rfl rfl rfl rfl rfl rfl⟩, ⟨rfl, kV _ _ _⟩, ⟨rfl, kM _ _ _⟩, ⟨rfl, kB _ _ _⟩, ⟨rfl, kH _ _ _⟩, ⟨rfl, kG _ _ _⟩, ⟨rfl, hC.pl _ _⟩, trivial⟩)⟩
     ·have h4' := of_decide_eq_true h4
      refine go ?_
      generalize h5 : decide (out.point < x.steps.length) = cc; cases cc
      ·have h5' := of_decide_eq_false h5
       rw [if_neg (by omega)] at hpt
       subst hpt
       refine go ?_
       exact ⟨rfl, zX (hb := by exact ⟨⟨rfl, rfl⟩, ⟨rfl, yF (t := ⟨m, step, S, calls, full, wild, bad⟩) hC _ _ rfl rfl rfl rfl rfl rfl⟩, ⟨rfl, kV _ _ _⟩, ⟨rfl, kM _ _ _⟩, ⟨rfl, kB _ _ _⟩, ⟨rfl, kH _ _ _⟩, ⟨rfl, kG _ _ _⟩, ⟨rfl, hC.pl _ _⟩, trivial⟩)⟩
      ·have h5' := of_decide_eq_true h5
       rw [if_pos ⟨by omega, h5'⟩] at hpt
       have hs2 : x.steps[out.point.toNat]? = some pt := by
        rw [← hpt, List.getD_eq_getElem?_getD, List.getElem?_eq_getElem (by omega)]; rfl
       refine go ?_
       refine jE 9 [] rfl rfl (by kernel_rfl) (by kernel_rfl) (by kernel_rfl) ?_
       refine goQ ?_
       refine r_q (jJ (p := who) jB rfl rfl rfl rfl rfl (by omega) (by omega) (by show who = (who : Int).toNat * 1; omega)) rfl rfl ?_
       refine goQ ?_
       refine r_q (kS jB rfl rfl rfl rfl rfl hsg) rfl rfl ?_
       refine goQ ?_
       refine a_q (jG jB [pI pt] rfl rfl rfl rfl rfl rfl (by first | omega | (simp; done) | (simp; omega)) (by first | omega | (simp; done) | (simp; omega)) (by first | (simp; done) | exact List.cons_ne_nil _ _) (qE hs2)) rfl rfl rfl ?_
       refine go ?_
       exact ⟨rfl, zX (hb := by exact ⟨⟨rfl, rfl⟩, ⟨rfl, yF (t := ⟨m, step, S, calls, full, wild, bad⟩) hC _ _ rfl rfl rfl rfl rfl rfl⟩, ⟨rfl, kV _ _ _⟩, ⟨rfl, kM _ _ _⟩, ⟨rfl, kB _ _ _⟩, ⟨rfl, kH _ _ _⟩, ⟨rfl, kG _ _ _⟩, ⟨rfl, hC.pl _ _⟩, trivial⟩)⟩
    generalize hcc : (⟨who, x.op, out.val, out.is, x.steps.getD 0 0, x.steps.getD (x.steps.length - 1) 0, pt⟩ : HCallT) = cc at hEt
    have hB : ∀ (full' : Int) (bad' : Bool) (calls' : List HCallT) (cd' : Dt) (cs' : List Dt), vS ⟨m, step, S, calls', full', wild, bad'⟩ n cd' cs' = [(30, tabD ⟨m, step, S, calls', full', wild, bad'⟩ n cd'), (31, uB S), (32, uG seats), (33, yN seats), (34, yC seats), (35, yZ S), (36, cs')] := hB
    subst hEt
    rcases hC.at_ with ⟨rfl, rfl⟩ | ⟨c, rfl, hc1, hc2, hc3, hc4⟩
    ·subst hcc
     refine jN4 rfl ?_
     refine jK (i := 0) (listed' := #[true, false, false, false, false, false, false, false, false, false, false]) (by kernel_rfl) (by kernel_rfl) (by kernel_rfl) (by kernel_rfl) (fun _ _ h => by rcases h.1 with h | h <;> cases h) rfl rfl rfl (yB rfl rfl rfl) ?_
     refine jK (i := 1) (listed' := #[true, true, false, false, false, false, false, false, false, false, false]) (by kernel_rfl) (by kernel_rfl) (by kernel_rfl) (by kernel_rfl) (fun _ _ h => by rcases h.1 with h | h <;> cases h) rfl rfl rfl (yB rfl rfl rfl) ?_
     refine jK (i := 2) (listed' := #[true, true, true, false, false, false, false, false, false, false, false]) (by kernel_rfl) (by kernel_rfl) (by kernel_rfl) (by kernel_rfl) (fun _ _ h => by rcases h.1 with h | h <;> cases h) rfl rfl rfl (y_nil rfl rfl rfl) ?_
     refine jK (i := 3) (listed' := #[true, true, true, true, false, false, false, false, false, false, false]) (by kernel_rfl) (by kernel_rfl) (by kernel_rfl) (by kernel_rfl) (fun _ _ h => by rcases h.1 with h | h <;> cases h) rfl rfl rfl (y_field jB rfl rfl rfl rfl rfl) ?_
     refine jB6 (i := 4) (j := 5) (listed' := #[true, true, true, true, true, false, false, false, false, false, false]) (listed2 := #[true, true, true, true, false, true, false, false, false, false, false]) (by kernel_rfl) rfl rfl (by kernel_rfl) (by kernel_rfl) ?_ ?_
     ·refine z2 ?_
      refine jD (nq ?_)
      refine jT (i := 5) (listed' := #[true, true, true, true, true, true, false, false, false, false, false]) (by kernel_rfl) rfl (by kernel_rfl) ?_
      refine z2 ?_
      refine jD (nq ?_)
      refine jT (i := 6) (listed' := #[true, true, true, true, true, true, true, false, false, false, false]) (by kernel_rfl) rfl (by kernel_rfl) ?_
      refine z7 ?_
      refine jD (nq ?_)
      refine jT (i := 7) (listed' := #[true, true, true, true, true, true, true, true, false, false, false]) (by kernel_rfl) rfl (by kernel_rfl) ?_
      refine jI1 (sz := 10) jB 36 rfl rfl rfl rfl rfl rfl rfl rfl rfl rfl rfl rfl rfl (jE9 rfl (wW rfl rfl (wW rfl rfl (qY rfl (kV _) (qY rfl (kM _) (qY rfl (kB _) (qY rfl (kH _) (qY rfl (kG _) (jQ0 rfl rfl))))))))) (by omega) rfl (by unfold maxLen; omega) (by show 1 * 80 ≤ _; omega) (fun cs' c' k1 k2 k3 k4 k5 => ?_)
      refine jD (nq ?_)
      refine jT (i := 8) (listed' := #[true, true, true, true, true, true, true, true, true, false, false]) (by kernel_rfl) rfl (by kernel_rfl) ?_
      refine z2 ?_
      refine jD (nq ?_)
      refine jT (i := 9) (listed' := #[true, true, true, true, true, true, true, true, true, true, false]) (by kernel_rfl) rfl (by kernel_rfl) ?_
      refine z2 ?_
      refine jD (nq ?_)
      refine jT (i := 10) (listed' := #[true, true, true, true, true, true, true, true, true, true, true]) (by kernel_rfl) rfl (by kernel_rfl) ?_
      refine z5 ?_
      refine jD (nq ?_)
      refine kN (by kernel_rfl) ?_
      have hC' : CallsOk ([] ++ [(⟨who, x.op, out.val, out.is, x.steps.getD 0 0, x.steps.getD (x.steps.length - 1) 0, pt⟩ : HCallT)]) (.arr 36 0 1 c') cs' := ⟨k5, .inr ⟨c', rfl, k1, k3, k2, by show cs'.take (1 * 10) = _; rw [k4]; rfl⟩⟩
      refine qD (vS ⟨m, step, S, [] ++ [(⟨who, x.op, out.val, out.is, x.steps.getD 0 0, x.steps.getD (x.steps.length - 1) 0, pt⟩ : HCallT)], full, wild, bad⟩ n _ cs') rfl rfl (by refine yL hC' rfl rfl ?_ ?_ ?_ rfl rfl <;> simp only [e1, e2, e3] <;> rfl) (by (repeat (first | exact trivial | refine ⟨rfl, ?_⟩))) ⟨rfl, _, cs', hC', rfl⟩
     ·refine z2 ?_
      refine jD (nq ?_)
      refine jB6 (i := 4) (j := 6) (listed' := #[true, true, true, true, true, true, false, false, false, false, false]) (listed2 := #[true, true, true, true, false, true, true, false, false, false, false]) (by kernel_rfl) rfl rfl (by kernel_rfl) (by kernel_rfl) ?_ ?_
      ·refine z2 ?_
       refine jD (nq ?_)
       refine jT (i := 6) (listed' := #[true, true, true, true, true, true, true, false, false, false, false]) (by kernel_rfl) rfl (by kernel_rfl) ?_
       refine z7 ?_
       refine jD (nq ?_)
       refine jT (i := 7) (listed' := #[true, true, true, true, true, true, true, true, false, false, false]) (by kernel_rfl) rfl (by kernel_rfl) ?_
       refine jI1 (sz := 10) jB 36 rfl rfl rfl rfl rfl rfl rfl rfl rfl rfl rfl rfl rfl (jE9 rfl (wW rfl rfl (wW rfl rfl (qY rfl (kV _) (qY rfl (kM _) (qY rfl (kB _) (qY rfl (kH _) (qY rfl (kG _) (jQ0 rfl rfl))))))))) (by omega) rfl (by unfold maxLen; omega) (by show 1 * 80 ≤ _; omega) (fun cs' c' k1 k2 k3 k4 k5 => ?_)
       refine jD (nq ?_)
       refine jT (i := 8) (listed' := #[true, true, true, true, true, true, true, true, true, false, false]) (by kernel_rfl) rfl (by kernel_rfl) ?_
       refine z2 ?_
       refine jD (nq ?_)
       refine jT (i := 9) (listed' := #[true, true, true, true, true, true, true, true, true, true, false]) (by kernel_rfl) rfl (by kernel_rfl) ?_
       refine z2 ?_
       refine jD (nq ?_)
       refine jT (i := 10) (listed' := #[true, true, true, true, true, true, true, true, true, true, true]) (by kernel_rfl) rfl (by kernel_rfl) ?_
       refine z5 ?_
       refine jD (nq ?_)
       refine kN (by kernel_rfl) ?_
       have hC' : CallsOk ([] ++ [(⟨who, x.op, out.val, out.is, x.steps.getD 0 0, x.steps.getD (x.steps.length - 1) 0, pt⟩ : HCallT)]) (.arr 36 0 1 c') cs' := ⟨k5, .inr ⟨c', rfl, k1, k3, k2, by show cs'.take (1 * 10) = _; rw [k4]; rfl⟩⟩
       refine qD (vS ⟨m, step, S, [] ++ [(⟨who, x.op, out.val, out.is, x.steps.getD 0 0, x.steps.getD (x.steps.length - 1) 0, pt⟩ : HCallT)], full, wild, bad⟩ n _ cs') rfl rfl (by refine yL hC' rfl rfl ?_ ?_ ?_ rfl rfl <;> simp only [e1, e2, e3] <;> rfl) (by (repeat (first | exact trivial | refine ⟨rfl, ?_⟩))) ⟨rfl, _, cs', hC', rfl⟩
      ·refine z7 ?_
       refine jD (nq ?_)
       refine jT (i := 4) (listed' := #[true, true, true, true, true, true, true, false, false, false, false]) (by kernel_rfl) rfl (by kernel_rfl) ?_
       refine z2 ?_
       refine jD (nq ?_)
       refine jT (i := 7) (listed' := #[true, true, true, true, true, true, true, true, false, false, false]) (by kernel_rfl) rfl (by kernel_rfl) ?_
       refine jI1 (sz := 10) jB 36 rfl rfl rfl rfl rfl rfl rfl rfl rfl rfl rfl rfl rfl (jE9 rfl (wW rfl rfl (wW rfl rfl (qY rfl (kV _) (qY rfl (kM _) (qY rfl (kB _) (qY rfl (kH _) (qY rfl (kG _) (jQ0 rfl rfl))))))))) (by omega) rfl (by unfold maxLen; omega) (by show 1 * 80 ≤ _; omega) (fun cs' c' k1 k2 k3 k4 k5 => ?_)
       refine jD (nq ?_)
       refine jT (i := 8) (listed' := #[true, true, true, true, true, true, true, true, true, false, false]) (by kernel_rfl) rfl (by kernel_rfl) ?_
       refine z2 ?_
       refine jD (nq ?_)
       refine jT (i := 9) (listed' := #[true, true, true, true, true, true, true, true, true, true, false]) (by kernel_rfl) rfl (by kernel_rfl) ?_
       refine z2 ?_
       refine jD (nq ?_)
       refine jT (i := 10) (listed' := #[true, true, true, true, true, true, true, true, true, true, true]) (by kernel_rfl) rfl (by kernel_rfl) ?_
       refine z5 ?_
       refine jD (nq ?_)
       refine kN (by kernel_rfl) ?_
       have hC' : CallsOk ([] ++ [(⟨who, x.op, out.val, out.is, x.steps.getD 0 0, x.steps.getD (x.steps.length - 1) 0, pt⟩ : HCallT)]) (.arr 36 0 1 c') cs' := ⟨k5, .inr ⟨c', rfl, k1, k3, k2, by show cs'.take (1 * 10) = _; rw [k4]; rfl⟩⟩
       refine qD (vS ⟨m, step, S, [] ++ [(⟨who, x.op, out.val, out.is, x.steps.getD 0 0, x.steps.getD (x.steps.length - 1) 0, pt⟩ : HCallT)], full, wild, bad⟩ n _ cs') rfl rfl (by refine yL hC' rfl rfl ?_ ?_ ?_ rfl rfl <;> simp only [e1, e2, e3] <;> rfl) (by (repeat (first | exact trivial | refine ⟨rfl, ?_⟩))) ⟨rfl, _, cs', hC', rfl⟩
    ·subst hcc
     refine jN4 rfl ?_
     refine jK (i := 0) (listed' := #[true, false, false, false, false, false, false, false, false, false, false]) (by kernel_rfl) (by kernel_rfl) (by kernel_rfl) (by kernel_rfl) (fun _ _ h => by rcases h.1 with h | h <;> cases h) rfl rfl rfl (yB rfl rfl rfl) ?_
     refine jK (i := 1) (listed' := #[true, true, false, false, false, false, false, false, false, false, false]) (by kernel_rfl) (by kernel_rfl) (by kernel_rfl) (by kernel_rfl) (fun _ _ h => by rcases h.1 with h | h <;> cases h) rfl rfl rfl (yB rfl rfl rfl) ?_
     refine jK (i := 2) (listed' := #[true, true, true, false, false, false, false, false, false, false, false]) (by kernel_rfl) (by kernel_rfl) (by kernel_rfl) (by kernel_rfl) (fun _ _ h => by rcases h.1 with h | h <;> cases h) rfl rfl rfl (y_nil rfl rfl rfl) ?_
     refine jK (i := 3) (listed' := #[true, true, true, true, false, false, false, false, false, false, false]) (by kernel_rfl) (by kernel_rfl) (by kernel_rfl) (by kernel_rfl) (fun _ _ h => by rcases h.1 with h | h <;> cases h) rfl rfl rfl (y_field jB rfl rfl rfl rfl rfl) ?_
     refine jB6 (i := 4) (j := 5) (listed' := #[true, true, true, true, true, false, false, false, false, false, false]) (listed2 := #[true, true, true, true, false, true, false, false, false, false, false]) (by kernel_rfl) rfl rfl (by kernel_rfl) (by kernel_rfl) ?_ ?_
     ·refine z2 ?_
      refine jD (nq ?_)
      refine jT (i := 5) (listed' := #[true, true, true, true, true, true, false, false, false, false, false]) (by kernel_rfl) rfl (by kernel_rfl) ?_
      refine z2 ?_
      refine jD (nq ?_)
      refine jT (i := 6) (listed' := #[true, true, true, true, true, true, true, false, false, false, false]) (by kernel_rfl) rfl (by kernel_rfl) ?_
      refine z7 ?_
      refine jD (nq ?_)
      refine jT (i := 7) (listed' := #[true, true, true, true, true, true, true, true, false, false, false]) (by kernel_rfl) rfl (by kernel_rfl) ?_
      refine jK8 (sz := 10) jB (wD calls) rfl rfl rfl rfl rfl rfl rfl rfl rfl rfl rfl rfl rfl rfl (jE9 rfl (wW rfl rfl (wW rfl rfl (qY rfl (kV _) (qY rfl (kM _) (qY rfl (kB _) (qY rfl (kH _) (qY rfl (kG _) (jQ0 rfl rfl))))))))) hc1 hc2 (jN2 calls) hc4 hc3 (by omega) rfl (by unfold maxLen; omega) (by show (_ + 1) * 80 ≤ _; omega) (fun cs' c' k1 k2 k3 k4 k5 => ?_)
      refine jD (nq ?_)
      refine jT (i := 8) (listed' := #[true, true, true, true, true, true, true, true, true, false, false]) (by kernel_rfl) rfl (by kernel_rfl) ?_
      refine z2 ?_
      refine jD (nq ?_)
      refine jT (i := 9) (listed' := #[true, true, true, true, true, true, true, true, true, true, false]) (by kernel_rfl) rfl (by kernel_rfl) ?_
      refine z2 ?_
      refine jD (nq ?_)
      refine jT (i := 10) (listed' := #[true, true, true, true, true, true, true, true, true, true, true]) (by kernel_rfl) rfl (by kernel_rfl) ?_
      refine z5 ?_
      refine jD (nq ?_)
      refine kN (by kernel_rfl) ?_
      have hC' : CallsOk (calls ++ [(⟨who, x.op, out.val, out.is, x.steps.getD 0 0, x.steps.getD (x.steps.length - 1) 0, pt⟩ : HCallT)]) (.arr 36 0 (calls.length + 1) c') cs' := ⟨k5, .inr ⟨c', by rw [List.length_append]; rfl, k1, by rw [List.length_append]; exact k3, k2, by rw [List.length_append, ← jV6]; exact k4⟩⟩
      refine qD (vS ⟨m, step, S, calls ++ [(⟨who, x.op, out.val, out.is, x.steps.getD 0 0, x.steps.getD (x.steps.length - 1) 0, pt⟩ : HCallT)], full, wild, bad⟩ n _ cs') rfl rfl (by refine yL hC' rfl rfl ?_ ?_ ?_ rfl rfl <;> simp only [e1, e2, e3] <;> rfl) (by (repeat (first | exact trivial | refine ⟨rfl, ?_⟩))) ⟨rfl, _, cs', hC', rfl⟩
     ·refine z2 ?_
      refine jD (nq ?_)
      refine jB6 (i := 4) (j := 6) (listed' := #[true, true, true, true, true, true, false, false, false, false, false]) (listed2 := #[true, true, true, true, false, true, true, false, false, false, false]) (by kernel_rfl) rfl rfl (by kernel_rfl) (by kernel_rfl) ?_ ?_
      ·refine z2 ?_
       refine jD (nq ?_)
       refine jT (i := 6) (listed' := #[true, true, true, true, true, true, true, false, false, false, false]) (by kernel_rfl) rfl (by kernel_rfl) ?_
       refine z7 ?_
       refine jD (nq ?_)
       refine jT (i := 7) (listed' := #[true, true, true, true, true, true, true, true, false, false, false]) (by kernel_rfl) rfl (by kernel_rfl) ?_
       refine jK8 (sz := 10) jB (wD calls) rfl rfl rfl rfl rfl rfl rfl rfl rfl rfl rfl rfl rfl rfl (jE9 rfl (wW rfl rfl (wW rfl rfl (qY rfl (kV _) (qY rfl (kM _) (qY rfl (kB _) (qY rfl (kH _) (qY rfl (kG _) (jQ0 rfl rfl))))))))) hc1 hc2 (jN2 calls) hc4 hc3 (by omega) rfl (by unfold maxLen; omega) (by show (_ + 1) * 80 ≤ _; omega) (fun cs' c' k1 k2 k3 k4 k5 => ?_)
       refine jD (nq ?_)
       refine jT (i := 8) (listed' := #[true, true, true, true, true, true, true, true, true, false, false]) (by kernel_rfl) rfl (by kernel_rfl) ?_
       refine z2 ?_
       refine jD (nq ?_)
       refine jT (i := 9) (listed' := #[true, true, true, true, true, true, true, true, true, true, false]) (by kernel_rfl) rfl (by kernel_rfl) ?_
       refine z2 ?_
       refine jD (nq ?_)
       refine jT (i := 10) (listed' := #[true, true, true, true, true, true, true, true, true, true, true]) (by kernel_rfl) rfl (by kernel_rfl) ?_
       refine z5 ?_
       refine jD (nq ?_)
       refine kN (by kernel_rfl) ?_
       have hC' : CallsOk (calls ++ [(⟨who, x.op, out.val, out.is, x.steps.getD 0 0, x.steps.getD (x.steps.length - 1) 0, pt⟩ : HCallT)]) (.arr 36 0 (calls.length + 1) c') cs' := ⟨k5, .inr ⟨c', by rw [List.length_append]; rfl, k1, by rw [List.length_append]; exact k3, k2, by rw [List.length_append, ← jV6]; exact k4⟩⟩
       refine qD (vS ⟨m, step, S, calls ++ [(⟨who, x.op, out.val, out.is, x.steps.getD 0 0, x.steps.getD (x.steps.length - 1) 0, pt⟩ : HCallT)], full, wild, bad⟩ n _ cs') rfl rfl (by refine yL hC' rfl rfl ?_ ?_ ?_ rfl rfl <;> simp only [e1, e2, e3] <;> rfl) (by (repeat (first | exact trivial | refine ⟨rfl, ?_⟩))) ⟨rfl, _, cs', hC', rfl⟩
      ·refine z7 ?_
       refine jD (nq ?_)
       refine jT (i := 4) (listed' := #[true, true, true, true, true, true, true, false, false, false, false]) (by kernel_rfl) rfl (by kernel_rfl) ?_
       refine z2 ?_
       refine jD (nq ?_)
       refine jT (i := 7) (listed' := #[true, true, true, true, true, true, true, true, false, false, false]) (by kernel_rfl) rfl (by kernel_rfl) ?_
       refine jK8 (sz := 10) jB (wD calls) rfl rfl rfl rfl rfl rfl rfl rfl rfl rfl rfl rfl rfl rfl (jE9 rfl (wW rfl rfl (wW rfl rfl (qY rfl (kV _) (qY rfl (kM _) (qY rfl (kB _) (qY rfl (kH _) (qY rfl (kG _) (jQ0 rfl rfl))))))))) hc1 hc2 (jN2 calls) hc4 hc3 (by omega) rfl (by unfold maxLen; omega) (by show (_ + 1) * 80 ≤ _; omega) (fun cs' c' k1 k2 k3 k4 k5 => ?_)
       refine jD (nq ?_)
       refine jT (i := 8) (listed' := #[true, true, true, true, true, true, true, true, true, false, false]) (by kernel_rfl) rfl (by kernel_rfl) ?_
       refine z2 ?_
       refine jD (nq ?_)
       refine jT (i := 9) (listed' := #[true, true, true, true, true, true, true, true, true, true, false]) (by kernel_rfl) rfl (by kernel_rfl) ?_
       refine z2 ?_
       refine jD (nq ?_)
       refine jT (i := 10) (listed' := #[true, true, true, true, true, true, true, true, true, true, true]) (by kernel_rfl) rfl (by kernel_rfl) ?_
       refine z5 ?_
       refine jD (nq ?_)
       refine kN (by kernel_rfl) ?_
       have hC' : CallsOk (calls ++ [(⟨who, x.op, out.val, out.is, x.steps.getD 0 0, x.steps.getD (x.steps.length - 1) 0, pt⟩ : HCallT)]) (.arr 36 0 (calls.length + 1) c') cs' := ⟨k5, .inr ⟨c', by rw [List.length_append]; rfl, k1, by rw [List.length_append]; exact k3, k2, by rw [List.length_append, ← jV6]; exact k4⟩⟩
       refine qD (vS ⟨m, step, S, calls ++ [(⟨who, x.op, out.val, out.is, x.steps.getD 0 0, x.steps.getD (x.steps.length - 1) 0, pt⟩ : HCallT)], full, wild, bad⟩ n _ cs') rfl rfl (by refine yL hC' rfl rfl ?_ ?_ ?_ rfl rfl <;> simp only [e1, e2, e3] <;> rfl) (by (repeat (first | exact trivial | refine ⟨rfl, ?_⟩))) ⟨rfl, _, cs', hC', rfl⟩
   ·have h3' := of_decide_eq_true h3
    rw [if_pos (.inr (by omega))] at hEt
    subst hEt
    refine go ?_
    refine qI (vS ⟨m, step, S, calls, full, wild, true⟩ n cd cs) rfl rfl (by refine yL hC rfl rfl ?_ ?_ ?_ rfl rfl <;> simp only [e1, e2, e3] <;> rfl) (by (repeat (first | exact trivial | refine ⟨rfl, ?_⟩))) ⟨rfl, cd, cs, hC, rfl⟩
 ·have h1' := of_decide_eq_true h1
  rw [if_pos h1'] at hEt
  subst hEt
  refine go ?_
  refine qI (vS ⟨m, step, S, calls, full + 1, wild, bad⟩ n cd cs) rfl rfl (by refine yL hC rfl rfl ?_ ?_ ?_ rfl rfl <;> simp only [e1, e2, e3] <;> rfl) (by (repeat (first | exact trivial | refine ⟨rfl, ?_⟩))) ⟨rfl, cd, cs, hC, rfl⟩
end Go.Proofs.YtkkldicehapklaaGreat
