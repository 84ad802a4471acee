/- What an operation's program does next: its walk. -/
import Derived.Test.YtkkldicehapklaaGreatG3
namespace Go.Proofs.YtkkldicehapklaaGreat
open Go.RowKit
set_option maxRecDepth 100000
abbrev dNx (r : AccT × kY × Bool) : Dt := .tup [wM r.1, jO0 r.2.1, dB r.2.2]
set_option maxHeartbeats 8000000 in
theorem next_c (l : jN) (hL : qJ l) (me : Int) (gone : List (Int × Int)) (op : OpT) (log : List jS) (hgo : yK gone) (hgl : gone.length + log.length ≤ 10000) : kA Tryz.prog 77 [wO l, dI me, vG gone, dOp op, dLog log] (dNx (qZ l me gone op log)) := by
 generalize hE : qZ l me gone op log = E
 unfold qZ at hE
 have hl : log.length ≤ 1000000 := by omega
 refine jO jB Tryz.func77 rfl Tryz.ntmps77 rfl rfl rfl fun w cl => ?_
 refine goC ?_
 refine a_b (qP 0 rfl rfl rfl rfl) rfl rfl rfl rfl ?_
 refine a_b (qP 16 rfl rfl rfl rfl) rfl rfl rfl rfl ?_
 refine a_b (jL jB 2 rfl rfl rfl rfl) rfl rfl rfl rfl ?_
 refine a_b (jL jB 3 rfl rfl rfl rfl) rfl rfl rfl rfl ?_
 refine go ?_
 generalize h1 : decide (op.obj < 0) = cc; cases cc
 ·have h1' := of_decide_eq_false h1
  refine go ?_
  generalize h2 : decide (op.obj ≥ l.size) = cc; cases cc
  ·have h2' := of_decide_eq_false h2
   rw [if_neg (by omega)] at hE
   refine go ?_
   refine awp_region_c 4 10 rfl rfl (by kernel_rfl) (by kernel_rfl) (by kernel_rfl) (by kernel_rfl) rfl ?_
   refine goQ ?_
   refine callB_in (begin_i l me gone log) (fun d bs h => h) rfl (fun a w => Tryz.call92 a w) rfl rfl rfl rfl rfl (by (repeat (first | exact trivial | refine ⟨rfl, rfl, ?_⟩))) ?_
   refine w3 ?_
   refine w3 ?_
   refine w6 ?_
   refine r_b (qP 14 rfl rfl rfl rfl) rfl rfl rfl rfl ?_
   refine r_b (jL jB 15 rfl rfl rfl rfl) rfl rfl rfl rfl ?_
   refine w5 ?_
   refine go ?_
   generalize h3 : decide (op.kind = 1) = cc; cases cc
   ·rw [if_neg (of_decide_eq_false h3)] at hE
    refine go ?_
    generalize h4 : decide (op.kind = 2) = cc; cases cc
    ·rw [if_neg (of_decide_eq_false h4)] at hE
     refine go ?_
     generalize h5 : decide (op.kind = 3) = cc; cases cc
     ·rw [if_neg (of_decide_eq_false h5)] at hE
      refine go ?_
      refine a_q (jA (kK4 gone (by omega)) rfl (fun a w => Tryz.call91 a w) rfl) rfl rfl rfl ?_
      refine go ?_
      first | refine jF rfl ?_ | refine jC rfl ?_
      rw [← hE]
     ·rw [if_pos (of_decide_eq_true h5)] at hE
      refine go ?_
      refine yX (play_del l me log op jU7 ⟨0, gone, 0, 0, 0⟩ _ (by simp only; omega) (ndel_x l hL me log op jU7 ⟨0, gone, 0, 0, 0⟩ hgo (by simp only; omega) (Nat.zero_le _) hl)) rfl (fun a w => Tryz.call93 a w) rfl rfl (by (repeat (first | exact trivial | refine ⟨⟨rfl, rfl⟩, ?_⟩))) trivial rfl rfl rfl rfl ?_ ?_
      ·rintro d bs ⟨rfl, _⟩; exact trivial
      rintro d bs ⟨rfl, ⟨x, s', hm, rfl⟩ | ⟨a, hm, rfl⟩⟩
      ·rw [hm] at hE
       refine go ?_
       first | refine jF rfl ?_ | refine jC rfl ?_
       rw [← hE]; rfl
      ·rw [hm] at hE
       refine go ?_
       first | refine jF rfl ?_ | refine jC rfl ?_
       rw [← hE]; rfl
    ·rw [if_pos (of_decide_eq_true h4)] at hE
     refine go ?_
     refine yX (play_put l me log op jU7 ⟨0, gone, 0, 0, 0⟩ _ (by simp only; omega) (nput_x l hL me log op jU7 ⟨0, gone, 0, 0, 0⟩ hgo (by simp only; omega) (Nat.zero_le _) hl)) rfl (fun a w => Tryz.call93 a w) rfl rfl (by (repeat (first | exact trivial | refine ⟨⟨rfl, rfl⟩, ?_⟩))) trivial rfl rfl rfl rfl ?_ ?_
     ·rintro d bs ⟨rfl, _⟩; exact trivial
     rintro d bs ⟨rfl, ⟨x, s', hm, rfl⟩ | ⟨a, hm, rfl⟩⟩
     ·rw [hm] at hE
      refine go ?_
      first | refine jF rfl ?_ | refine jC rfl ?_
      rw [← hE]; rfl
     ·rw [hm] at hE
      refine go ?_
      first | refine jF rfl ?_ | refine jC rfl ?_
      rw [← hE]; rfl
   ·rw [if_pos (of_decide_eq_true h3)] at hE
    refine go ?_
    refine yX (play_get l me log op jU7 ⟨0, gone, 0, 0, 0⟩ _ (by simp only; omega) (nget_x l hL me log op jU7 ⟨0, gone, 0, 0, 0⟩ hgo (by simp only; omega) (Nat.zero_le _) hl)) rfl (fun a w => Tryz.call93 a w) rfl rfl (by (repeat (first | exact trivial | refine ⟨⟨rfl, rfl⟩, ?_⟩))) trivial rfl rfl rfl rfl ?_ ?_
    ·rintro d bs ⟨rfl, _⟩; exact trivial
    rintro d bs ⟨rfl, ⟨x, s', hm, rfl⟩ | ⟨a, hm, rfl⟩⟩
    ·rw [hm] at hE
     refine go ?_
     first | refine jF rfl ?_ | refine jC rfl ?_
     rw [← hE]; rfl
    ·rw [hm] at hE
     refine go ?_
     first | refine jF rfl ?_ | refine jC rfl ?_
     rw [← hE]; rfl
  ·have h2' := of_decide_eq_true h2
   rw [if_pos (by omega)] at hE
   refine go ?_
   refine a_q (jA (kK4 gone (by omega)) rfl (fun a w => Tryz.call91 a w) rfl) rfl rfl rfl ?_
   refine go ?_
   first | refine jF rfl ?_ | refine jC rfl ?_
   rw [← hE]
 ·have h1' := of_decide_eq_true h1
  rw [if_pos (by omega)] at hE
  refine go ?_
  refine a_q (jA (kK4 gone (by omega)) rfl (fun a w => Tryz.call91 a w) rfl) rfl rfl rfl ?_
  refine go ?_
  first | refine jF rfl ?_ | refine jC rfl ?_
  rw [← hE]
end Go.Proofs.YtkkldicehapklaaGreat
