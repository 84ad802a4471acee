/- Whether an access touches a free node; the end of an operation: their walks. -/
import Derived.Test.YtkkldicehapklaaGreatE13
namespace Go.Proofs.YtkkldicehapklaaGreat
open Go.RowKit
set_option maxRecDepth 100000
theorem any_mem (a : List Int) (v : Int) : (a.any fun x => decide (x = v)) = decide (v ∈ a) := by
 rw [Bool.eq_iff_iff, List.any_eq_true, decide_eq_true_iff]
 constructor
 ·rintro ⟨x, hx, h⟩
  have := of_decide_eq_true h
  subst this
  exact hx
 ·intro h
  exact ⟨v, h, decide_eq_true rfl⟩
theorem listF_len (l : jN) (m : List Int) : (jX4 l m).length ≤ l.nodes.toNat + 1 := by
 have := jU8 (nx := fun n => atF m (jQ l n 7)) (N := l.nodes) (l.nodes.toNat + 1) [] (ofW (atF m l.free)).idx
 simpa [jX4] using this
set_option maxHeartbeats 8000000 in
theorem free_i (l : jN) (hL : qJ l) (t : HTabT) (n : Nat) (cd : Dt) (cs : List Dt) (hC : CallsOk t.calls cd cs) (a : AccT) :
  ImpC Tryz.prog 55 [30, 31, 32, 33, 34, 35] [.ptr 30 0, wO l, wM a] (vS t n cd cs) (fun d bs => d = dB (jK3 l t.m a) ∧ bs = vS t n cd cs) := by
 generalize hE : jK3 l t.m a = E
 unfold jK3 at hE
 rw [any_mem] at hE
 obtain ⟨hno0, hno1⟩ := hL.node
 obtain ⟨hsz0, hsz1⟩ := hL.size
 obtain ⟨hnn0, hnn1⟩ := hL.nodes
 have hll := listF_len l t.m
 refine vV jB Tryz.func55 rfl Tryz.ntmps55 rfl rfl rfl (by (repeat (first | exact trivial | refine ⟨rfl, ?_⟩))) fun w cl own kf => ?_
 refine go ?_
 generalize h1 : decide (a.cell < l.node) = cc; cases cc
 ·have h1' := of_decide_eq_false h1
  refine go ?_
  generalize h2 : decide (a.cell ≥ l.size) = cc; cases cc
  ·have h2' := of_decide_eq_false h2
   refine goK ?_
   generalize h3 : decide ((a.cell - l.node) % 8 = 7) = cc; cases cc
   ·have h3' := of_decide_eq_false h3
    rw [if_neg (by omega)] at hE
    refine go ?_
    refine jE 13 [] rfl rfl (by kernel_rfl) (by kernel_rfl) (by kernel_rfl) ?_
    refine goQ ?_
    refine r_q (jA (reflist_c l hL t.m) rfl (fun a w => Tryz.call85 a w) rfl) rfl rfl ?_
    refine goQ ?_
    refine r_q (kH1 rfl rfl rfl (by omega) (by omega) (by omega)) rfl rfl ?_
    refine goQ ?_
    refine a_q (jA (in_c (jX4 l t.m) ((a.cell - l.node) / 8 + 1) (by omega)) rfl (fun a w => Tryz.call84 a w) rfl) rfl rfl rfl ?_
    refine go ?_
    refine qI (vS t n cd cs) rfl rfl (by exact yL hC rfl rfl rfl rfl rfl rfl rfl) (by (repeat (first | exact trivial | refine ⟨rfl, ?_⟩))) ⟨?_, rfl⟩
    rw [← hE]
   ·have h3' := of_decide_eq_true h3
    rw [if_pos (by omega)] at hE
    refine go ?_
    refine qI (vS t n cd cs) rfl rfl (by exact yL hC rfl rfl rfl rfl rfl rfl rfl) (by (repeat (first | exact trivial | refine ⟨rfl, ?_⟩))) ⟨?_, rfl⟩
    rw [← hE]
  ·have h2' := of_decide_eq_true h2
   rw [if_pos (by omega)] at hE
   refine go ?_
   refine qI (vS t n cd cs) rfl rfl (by exact yL hC rfl rfl rfl rfl rfl rfl rfl) (by (repeat (first | exact trivial | refine ⟨rfl, ?_⟩))) ⟨?_, rfl⟩
   rw [← hE]
 ·have h1' := of_decide_eq_true h1
  rw [if_pos (by omega)] at hE
  refine go ?_
  refine qI (vS t n cd cs) rfl rfl (by exact yL hC rfl rfl rfl rfl rfl rfl rfl) (by (repeat (first | exact trivial | refine ⟨rfl, ?_⟩))) ⟨?_, rfl⟩
  rw [← hE]
end Go.Proofs.YtkkldicehapklaaGreat
