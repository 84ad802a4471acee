/- Cells of a memory, rows that are the same, numbers in a row: their walks. -/
import Derived.Test.YtkkldicehapklaaGreatDB
namespace Go.Proofs.YtkkldicehapklaaGreat
open Go.RowKit
set_option maxRecDepth 100000
theorem jG8 {xs : List Int} {i : Int} (h0 : 0 ≤ i) (h : i < xs.length) : xs[i.toNat]? = some (zZ xs i) := by
 have : i.toNat < xs.length := by omega
 simp [zZ, this]
theorem at_c (xs : List Int) (i : Int) : kA Tryz.prog 63 [jM4 xs, dI i] (dI (atF xs i)) := by
 generalize hE : atF xs i = E
 unfold atF at hE
 refine jO jB Tryz.func63 rfl Tryz.ntmps63 rfl rfl rfl fun w cl => ?_
 refine go ?_
 generalize h1 : decide (i < 0) = cc; cases cc
 ·have h1' := of_decide_eq_false h1
  refine go ?_
  generalize h2 : decide ((xs.length : Int) ≤ i) = cc; cases cc
  ·have h2' := of_decide_eq_false h2
   rw [if_neg (by omega)] at hE
   have hg := jG8 (xs := xs) (i := i) (by omega) (by omega)
   refine go ?_
   refine a_q (jG jB [pI (zZ xs i)] rfl rfl rfl rfl rfl rfl (by first | omega | (simp; done) | (simp; omega)) (by first | omega | (simp; done) | (simp; omega)) (by first | (simp; done) | exact List.cons_ne_nil _ _) (qE hg)) rfl rfl rfl ?_
   refine go ?_
   first | refine jF rfl ?_ | refine jC rfl ?_
   rw [← hE]
  ·rw [if_pos (.inr (of_decide_eq_true h2))] at hE
   refine go ?_
   first | refine jF rfl ?_ | refine jC rfl ?_
   rw [← hE]
 ·rw [if_pos (.inl (of_decide_eq_true h1))] at hE
  refine go ?_
  first | refine jF rfl ?_ | refine jC rfl ?_
  rw [← hE]
theorem cell_c (xs : List Int) (i : Int) : kA Tryz.prog 105 [jM4 xs, dI i] (dI (atF xs i)) := by
 generalize hE : atF xs i = E
 unfold atF at hE
 refine jO jB Tryz.func105 rfl Tryz.ntmps105 rfl rfl rfl fun w cl => ?_
 refine go ?_
 generalize h1 : decide (i < 0) = cc; cases cc
 ·have h1' := of_decide_eq_false h1
  refine go ?_
  generalize h2 : decide ((xs.length : Int) ≤ i) = cc; cases cc
  ·have h2' := of_decide_eq_false h2
   rw [if_neg (by omega)] at hE
   have hg := jG8 (xs := xs) (i := i) (by omega) (by omega)
   refine go ?_
   refine a_q (jG jB [pI (zZ xs i)] rfl rfl rfl rfl rfl rfl (by first | omega | (simp; done) | (simp; omega)) (by first | omega | (simp; done) | (simp; omega)) (by first | (simp; done) | exact List.cons_ne_nil _ _) (qE hg)) rfl rfl rfl ?_
   refine go ?_
   first | refine jF rfl ?_ | refine jC rfl ?_
   rw [← hE]
  ·rw [if_pos (.inr (of_decide_eq_true h2))] at hE
   refine go ?_
   first | refine jF rfl ?_ | refine jC rfl ?_
   rw [← hE]
 ·rw [if_pos (.inl (of_decide_eq_true h1))] at hE
  refine go ?_
  first | refine jF rfl ?_ | refine jC rfl ?_
  rw [← hE]
theorem ints_c (a b : List Int) (ha : a.length ≤ 1000000000) : kA Tryz.prog 24 [kK a, kK b] (dB (decide (a = b))) := by
 refine jO jB Tryz.func24 rfl Tryz.ntmps24 rfl rfl rfl fun w cl => ?_
 refine go ?_
 generalize h1 : decide ((a.length : Int) = b.length) = cc; cases cc
 ·refine go ?_
  first | refine jF rfl ?_ | refine jC rfl ?_
  have h1' := of_decide_eq_false h1
  have : ¬ a = b := fun e => h1' (by rw [e])
  simp [this]
 ·refine go ?_
  have hab := of_decide_eq_true h1
  refine jP (fun n : Nat => n ≤ a.length ∧ a.take n = b.take n) (fun n => ⟨[(5, dI n), (0, kK a), (1, kK b)], [], []⟩) (fun n => a.length - n) 0 ⟨by omega, by simp⟩ (zX) ?_
  rintro n ⟨hn, heq⟩
  refine go ?_
  refine xQ (fun h2 => ?_) (fun h2 => ?_) <;> try rw [h2]
  ·have hlt := of_decide_eq_true h2
   obtain ⟨x, hx⟩ := getI (l := a) (i := n) (by omega) hlt
   obtain ⟨y, hy⟩ := getI (l := b) (i := n) (by omega) (by omega)
   refine go ?_
   refine jY [] rfl (by kernel_rfl) (by kernel_rfl) ?_
   refine goQ ?_
   refine r_q (jG jB [pI x] rfl rfl rfl rfl rfl rfl (by first | omega | (simp; done) | (simp; omega)) (by first | omega | (simp; done) | (simp; omega)) (by first | (simp; done) | exact List.cons_ne_nil _ _) (qE hx)) rfl rfl ?_
   refine goQ ?_
   refine r_q (jG jB [pI y] rfl rfl rfl rfl rfl rfl (by first | omega | (simp; done) | (simp; omega)) (by first | omega | (simp; done) | (simp; omega)) (by first | (simp; done) | exact List.cons_ne_nil _ _) (qE hy)) rfl rfl ?_
   refine goQ ?_
   refine go ?_
   simp only [Int.toNat_natCast] at hx hy
   generalize h3 : decide (x = y) = cc; cases cc
   ·refine go ?_
    first | refine jF rfl ?_ | refine jC rfl ?_
    have h3' := of_decide_eq_false h3
    have : ¬ a = b := fun e => h3' (by rw [e, hy] at hx; cases hx; rfl)
    simp [this]
   ·refine go ?_
    have h3' := of_decide_eq_true h3
    refine ⟨n + 1, ⟨by omega, ?_⟩, by omega, zX⟩
    rw [List.take_add_one, List.take_add_one, heq, hx, hy, h3']
  ·refine go ?_
   first | refine jF rfl ?_ | refine jC rfl ?_
   have hge := of_decide_eq_false h2
   rw [List.take_of_length_le (by omega), List.take_of_length_le (by omega)] at heq
   simp [heq]
theorem in_c (a : List Int) (v : Int) (ha : a.length ≤ 1000000000) : kA Tryz.prog 84 [kK a, dI v] (dB (decide (v ∈ a))) := by
 refine jO jB Tryz.func84 rfl Tryz.ntmps84 rfl rfl rfl fun w cl => ?_
 refine go ?_
 refine jP (fun n : Nat => n ≤ a.length ∧ v ∉ a.take n) (fun n => ⟨[(5, dI n), (0, kK a), (1, dI v)], [], []⟩) (fun n => a.length - n) 0 ⟨by omega, by simp⟩ (zX) ?_
 rintro n ⟨hn, hno⟩
 refine go ?_
 refine xQ (fun h2 => ?_) (fun h2 => ?_) <;> try rw [h2]
 ·have hlt := of_decide_eq_true h2
  obtain ⟨x, hx⟩ := getI (l := a) (i := n) (by omega) hlt
  refine go ?_
  refine a_q (jG jB [pI x] rfl rfl rfl rfl rfl rfl (by first | omega | (simp; done) | (simp; omega)) (by first | omega | (simp; done) | (simp; omega)) (by first | (simp; done) | exact List.cons_ne_nil _ _) (qE hx)) rfl rfl rfl ?_
  refine go ?_
  simp only [Int.toNat_natCast] at hx
  generalize h3 : decide (x = v) = cc; cases cc
  ·refine go ?_
   have h3' := of_decide_eq_false h3
   refine ⟨n + 1, ⟨by omega, ?_⟩, by omega, zX⟩
   rw [List.take_add_one, hx]
   simp only [Option.toList_some, List.mem_append, List.mem_singleton, not_or]
   exact ⟨hno, fun e => h3' e.symm⟩
  ·refine go ?_
   first | refine jF rfl ?_ | refine jC rfl ?_
   have h3' := of_decide_eq_true h3
   have : v ∈ a := by rw [← h3']; exact List.mem_of_getElem? hx
   simp [this]
 ·refine go ?_
  first | refine jF rfl ?_ | refine jC rfl ?_
  have hge := of_decide_eq_false h2
  rw [List.take_of_length_le (by omega)] at hno
  simp [hno]
end Go.Proofs.YtkkldicehapklaaGreat
