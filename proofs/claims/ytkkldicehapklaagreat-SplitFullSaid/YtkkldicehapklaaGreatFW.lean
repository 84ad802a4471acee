/- Plays that are looked at: their walk. -/
import Derived.Test.YtkkldicehapklaaGreatEA
import Derived.Test.YtkkldicehapklaaGreatPF
namespace Go.Proofs.YtkkldicehapklaaGreat
open Go.RowKit
set_option maxRecDepth 100000
set_option maxHeartbeats 8000000 in
theorem few_c (want : List (List OpT)) (turns : List Int) (ops many : Nat) (hs3 : want.length ≤ 3 → (want.map List.length).sum ≤ 9223372036854775807) (hops : ops ≤ 1000) (hmany : many ≤ 1000) : kA Tryz.prog 9 [dPlay want turns, dI ops, dI many] (dB (fewH want turns ops many)) := by
 generalize hE : fewH want turns ops many = E
 unfold fewH at hE
 refine jO jB Tryz.func9 rfl Tryz.ntmps9 rfl rfl rfl fun w cl => ?_
 refine go ?_
 generalize h1 : decide ((want.length : Int) < 1) = cc; cases cc
 ·have h1' := of_decide_eq_false h1
  refine go ?_
  generalize h2 : decide ((want.length : Int) > 3) = cc; cases cc
  ·have h2' := of_decide_eq_false h2
   have hs := hs3 (by omega)
   refine go ?_
   generalize h3 : decide ((turns.length : Int) > many) = cc; cases cc
   ·have h3' := of_decide_eq_false h3
    rw [show decide (1 ≤ want.length) = true by rw [decide_eq_true_eq]; omega, show decide (want.length ≤ 3) = true by rw [decide_eq_true_eq]; omega, show decide (turns.length ≤ many) = true by rw [decide_eq_true_eq]; omega, Bool.true_and, Bool.true_and, Bool.true_and] at hE
    refine go ?_
    refine jP (fun i : Nat => i ≤ want.length ∧ (want.take i).all (fun w => w.all okH) = true) (fun i => ⟨[(8, dI i), (7, dI (((want.map List.length).take i).sum : Nat)), (3, .ptr 0 0), (1, dI ops)], [(0, jB1 want turns)], []⟩) (fun i => want.length - i) 0 ⟨by omega, rfl⟩ (zX) ?_
    rintro i ⟨hi, hall⟩
    refine go ?_
    refine xQ (fun h4 => ?_) (fun h4 => ?_) <;> try rw [h4]
    ·have h4' : (i : Int) < want.length := of_decide_eq_true h4
     obtain ⟨w, hwi⟩ := getI (l := want) (i := i) (by omega) h4'
     have hwi' := hwi
     simp only [Int.toNat_natCast] at hwi'
     have hst := sum_take (l := want.map List.length) (i := i) (x := w.length) (by rw [List.getElem?_map, hwi']; rfl)
     have hsl := sum_take_le (want.map List.length) (i + 1)
     refine go ?_
     refine a_q (jG jB [jS8 w] rfl rfl rfl rfl rfl rfl (by first | omega | (simp; done) | (simp; omega)) (by first | omega | (simp; done) | (simp; omega)) (by first | (simp; done) | exact List.cons_ne_nil _ _) (jJ1 hwi)) rfl rfl rfl ?_
     refine go ?_
     rw [show ((((want.map List.length).take i).sum : Nat) : Int) + w.length = ((((want.map List.length).take (i + 1)).sum : Nat) : Int) by omega]
     refine jP (fun k : Nat => k ≤ w.length ∧ (w.take k).all okH = true) (fun k => ⟨[(9, dI k), (8, dI i), (7, dI (((want.map List.length).take (i + 1)).sum : Nat)), (3, .ptr 0 0), (1, dI ops)], [(0, jB1 want turns)], []⟩) (fun k => w.length - k) 0 ⟨by omega, rfl⟩ (zX) ?_
     rintro k ⟨hk, hallk⟩
     refine go ?_
     refine a_q (jG jB [jS8 w] rfl rfl rfl rfl rfl rfl (by first | omega | (simp; done) | (simp; omega)) (by first | omega | (simp; done) | (simp; omega)) (by first | (simp; done) | exact List.cons_ne_nil _ _) (jJ1 hwi)) rfl rfl rfl ?_
     refine go ?_
     refine xQ (fun h6 => ?_) (fun h6 => ?_) <;> try rw [h6]
     ·have h6' := of_decide_eq_true h6
      obtain ⟨o, ho⟩ := getI (l := w) (i := k) (by omega) h6'
      have ho' := ho
      simp only [Int.toNat_natCast] at ho'
      refine go ?_
      refine a_q (jG jB [jS8 w] rfl rfl rfl rfl rfl rfl (by first | omega | (simp; done) | (simp; omega)) (by first | omega | (simp; done) | (simp; omega)) (by first | (simp; done) | exact List.cons_ne_nil _ _) (jJ1 hwi)) rfl rfl rfl ?_
      refine go ?_
      refine a_q (jG jB [pI o.kind, pI o.obj, pI o.a, pI o.b] rfl rfl rfl rfl rfl rfl (by first | omega | (simp; done) | (simp; omega)) (by first | omega | (simp; done) | (simp; omega)) (by first | (simp; done) | exact List.cons_ne_nil _ _) (ops_idx ho)) rfl rfl rfl ?_
      refine go ?_
      generalize k1 : decide (o.kind < 1) = cc; cases cc
      ·have k1' := of_decide_eq_false k1
       refine go ?_
       generalize k2 : decide (o.kind > 3) = cc; cases cc
       ·have k2' := of_decide_eq_false k2
        refine go ?_
        generalize k3 : decide (o.obj = 0) = cc; cases cc
        ·have k3' := of_decide_eq_false k3
         refine go ?_
         first | refine jF rfl ?_ | refine jC rfl ?_
         rw [← hE, uS hwi' (uS ho' (by simp [okH]; omega))]
         rfl
        ·have k3' := of_decide_eq_true k3
         refine go ?_
         generalize k4 : decide (o.a < 0) = cc; cases cc
         ·have k4' := of_decide_eq_false k4
          refine go ?_
          generalize k5 : decide (o.a ≥ 65536) = cc; cases cc
          ·have k5' := of_decide_eq_false k5
           refine go ?_
           exact ⟨k + 1, ⟨by omega, all_take ho' (by simp [okH]; omega) hallk⟩, by omega, zX⟩
          ·have k5' := of_decide_eq_true k5
           refine go ?_
           first | refine jF rfl ?_ | refine jC rfl ?_
           rw [← hE, uS hwi' (uS ho' (by simp [okH]; omega))]
           rfl
         ·have k4' := of_decide_eq_true k4
          refine go ?_
          first | refine jF rfl ?_ | refine jC rfl ?_
          rw [← hE, uS hwi' (uS ho' (by simp [okH]; omega))]
          rfl
       ·have k2' := of_decide_eq_true k2
        refine go ?_
        first | refine jF rfl ?_ | refine jC rfl ?_
        rw [← hE, uS hwi' (uS ho' (by simp [okH]; omega))]
        rfl
      ·have k1' := of_decide_eq_true k1
       refine go ?_
       first | refine jF rfl ?_ | refine jC rfl ?_
       rw [← hE, uS hwi' (uS ho' (by simp [okH]; omega))]
       rfl
     ·have h6' := of_decide_eq_false h6
      rw [List.take_of_length_le (by omega)] at hallk
      refine go ?_
      exact ⟨i + 1, ⟨by omega, all_take hwi' hallk hall⟩, by omega, zX⟩
    ·have h4' : ¬ (i : Int) < want.length := of_decide_eq_false h4
     rw [List.take_of_length_le (by omega)] at hall
     refine go ?_
     first | refine jF rfl ?_ | refine jC rfl ?_
     rw [← hE, hall, Bool.true_and, List.take_of_length_le (by rw [List.length_map]; omega)]
     congr 1
     simp
   ·have h3' := of_decide_eq_true h3
    rw [show decide (turns.length ≤ many) = false by rw [decide_eq_false_iff_not]; omega, Bool.and_false, Bool.false_and, Bool.false_and] at hE
    refine go ?_
    first | refine jF rfl ?_ | refine jC rfl ?_
    rw [← hE]
  ·have h2' := of_decide_eq_true h2
   rw [show decide (want.length ≤ 3) = false by rw [decide_eq_false_iff_not]; omega, Bool.and_false, Bool.false_and, Bool.false_and, Bool.false_and] at hE
   refine go ?_
   first | refine jF rfl ?_ | refine jC rfl ?_
   rw [← hE]
 ·have h1' := of_decide_eq_true h1
  rw [show decide (1 ≤ want.length) = false by rw [decide_eq_false_iff_not]; omega, Bool.false_and, Bool.false_and, Bool.false_and, Bool.false_and] at hE
  refine go ?_
  first | refine jF rfl ?_ | refine jC rfl ?_
  rw [← hE]
end Go.Proofs.YtkkldicehapklaaGreat
