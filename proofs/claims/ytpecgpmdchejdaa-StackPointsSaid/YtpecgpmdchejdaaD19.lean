/- Cells of a memory, rows that are the same, numbers in a row: their walks. -/
import Derived.Test.YtpecgpmdchejdaaD18
namespace Go.Proofs.Ytpecgpmdchejdaa
open Go.RowKit
set_option maxRecDepth 100000

/-- What a cell has; 0, if there is no such cell. -/
def atF (xs : List Int) (i : Int) : Int := if i < 0 ∨ (xs.length : Int) ≤ i then 0 else cellAt xs i
theorem cellAt_get {xs : List Int} {i : Int} (h0 : 0 ≤ i) (h : i < xs.length) : xs[i.toNat]? = some (cellAt xs i) := by
  have : i.toNat < xs.length := by omega
  simp [cellAt, this]
theorem at_c (xs : List Int) (i : Int) : PureC Try.prog 31 [dMem xs, dI i] (dI (atF xs i)) := by
  generalize hE : atF xs i = E
  unfold atF at hE
  refine pure_fin tabOk Try.func31 rfl Try.ntmps31 rfl rfl rfl fun w cl => ?_
  repeat (first | refine zA ?_ | refine zB ?_ | refine zC ?_ | refine zD ?_ | refine zE ?_ | refine zF ?_ | refine zG ?_ | refine zH ?_ | refine zI ?_ | refine zJ ?_ | refine zK ?_ | refine zL ?_ | refine zT ?_ | refine zU ?_ | refine zV ?_ | refine zW ?_ | refine zM ?_ | refine zN ?_ | refine zO ?_ | refine zP ?_ | refine zQ ?_ | refine zR ?_ | refine zS ?_ | refine z0 ?_ | refine z1 ?_ | refine z2 ?_ | refine z3 ?_ | refine z4 ?_ | refine z5 ?_ | refine z6 ?_ | refine z7 ?_ | refine z8 ?_ | refine z9 ?_)
  generalize h1 : decide (i < 0) = cc; cases cc
  · have h1' := of_decide_eq_false h1
    repeat (first | refine zA ?_ | refine zB ?_ | refine zC ?_ | refine zD ?_ | refine zE ?_ | refine zF ?_ | refine zG ?_ | refine zH ?_ | refine zI ?_ | refine zJ ?_ | refine zK ?_ | refine zL ?_ | refine zT ?_ | refine zU ?_ | refine zV ?_ | refine zW ?_ | refine zM ?_ | refine zN ?_ | refine zO ?_ | refine zP ?_ | refine zQ ?_ | refine zR ?_ | refine zS ?_ | refine z0 ?_ | refine z1 ?_ | refine z2 ?_ | refine z3 ?_ | refine z4 ?_ | refine z5 ?_ | refine z6 ?_ | refine z7 ?_ | refine z8 ?_ | refine z9 ?_)
    generalize h2 : decide ((xs.length : Int) ≤ i) = cc; cases cc
    · have h2' := of_decide_eq_false h2
      rw [if_neg (by omega)] at hE
      have hg := cellAt_get (xs := xs) (i := i) (by omega) (by omega)
      repeat (first | refine zA ?_ | refine zB ?_ | refine zC ?_ | refine zD ?_ | refine zE ?_ | refine zF ?_ | refine zG ?_ | refine zH ?_ | refine zI ?_ | refine zJ ?_ | refine zK ?_ | refine zL ?_ | refine zT ?_ | refine zU ?_ | refine zV ?_ | refine zW ?_ | refine zM ?_ | refine zN ?_ | refine zO ?_ | refine zP ?_ | refine zQ ?_ | refine zR ?_ | refine zS ?_ | refine z0 ?_ | refine z1 ?_ | refine z2 ?_ | refine z3 ?_ | refine z4 ?_ | refine z5 ?_ | refine z6 ?_ | refine z7 ?_ | refine z8 ?_ | refine z9 ?_)
      refine a_q (indexAddr_step tabOk [pI (cellAt xs i)] rfl rfl rfl rfl rfl rfl (by first | omega | (simp; done) | (simp; omega)) (by first | omega | (simp; done) | (simp; omega)) (by first | (simp; done) | exact List.cons_ne_nil _ _) (ints_idx hg)) rfl rfl rfl ?_
      repeat (first | refine zA ?_ | refine zB ?_ | refine zC ?_ | refine zD ?_ | refine zE ?_ | refine zF ?_ | refine zG ?_ | refine zH ?_ | refine zI ?_ | refine zJ ?_ | refine zK ?_ | refine zL ?_ | refine zT ?_ | refine zU ?_ | refine zV ?_ | refine zW ?_ | refine zM ?_ | refine zN ?_ | refine zO ?_ | refine zP ?_ | refine zQ ?_ | refine zR ?_ | refine zS ?_ | refine z0 ?_ | refine z1 ?_ | refine z2 ?_ | refine z3 ?_ | refine z4 ?_ | refine z5 ?_ | refine z6 ?_ | refine z7 ?_ | refine z8 ?_ | refine z9 ?_)
      first | refine fin_ret rfl ?_ | refine fin_normal rfl ?_
      rw [← hE]
    · rw [if_pos (.inr (of_decide_eq_true h2))] at hE
      repeat (first | refine zA ?_ | refine zB ?_ | refine zC ?_ | refine zD ?_ | refine zE ?_ | refine zF ?_ | refine zG ?_ | refine zH ?_ | refine zI ?_ | refine zJ ?_ | refine zK ?_ | refine zL ?_ | refine zT ?_ | refine zU ?_ | refine zV ?_ | refine zW ?_ | refine zM ?_ | refine zN ?_ | refine zO ?_ | refine zP ?_ | refine zQ ?_ | refine zR ?_ | refine zS ?_ | refine z0 ?_ | refine z1 ?_ | refine z2 ?_ | refine z3 ?_ | refine z4 ?_ | refine z5 ?_ | refine z6 ?_ | refine z7 ?_ | refine z8 ?_ | refine z9 ?_)
      first | refine fin_ret rfl ?_ | refine fin_normal rfl ?_
      rw [← hE]
  · rw [if_pos (.inl (of_decide_eq_true h1))] at hE
    repeat (first | refine zA ?_ | refine zB ?_ | refine zC ?_ | refine zD ?_ | refine zE ?_ | refine zF ?_ | refine zG ?_ | refine zH ?_ | refine zI ?_ | refine zJ ?_ | refine zK ?_ | refine zL ?_ | refine zT ?_ | refine zU ?_ | refine zV ?_ | refine zW ?_ | refine zM ?_ | refine zN ?_ | refine zO ?_ | refine zP ?_ | refine zQ ?_ | refine zR ?_ | refine zS ?_ | refine z0 ?_ | refine z1 ?_ | refine z2 ?_ | refine z3 ?_ | refine z4 ?_ | refine z5 ?_ | refine z6 ?_ | refine z7 ?_ | refine z8 ?_ | refine z9 ?_)
    first | refine fin_ret rfl ?_ | refine fin_normal rfl ?_
    rw [← hE]
theorem ints_c (a b : List Int) (ha : a.length ≤ 1000000000) : PureC Try.prog 11 [dInts a, dInts b] (dB (decide (a = b))) := by
  refine pure_fin tabOk Try.func11 rfl Try.ntmps11 rfl rfl rfl fun w cl => ?_
  repeat (first | refine zA ?_ | refine zB ?_ | refine zC ?_ | refine zD ?_ | refine zE ?_ | refine zF ?_ | refine zG ?_ | refine zH ?_ | refine zI ?_ | refine zJ ?_ | refine zK ?_ | refine zL ?_ | refine zT ?_ | refine zU ?_ | refine zV ?_ | refine zW ?_ | refine zM ?_ | refine zN ?_ | refine zO ?_ | refine zP ?_ | refine zQ ?_ | refine zR ?_ | refine zS ?_ | refine z0 ?_ | refine z1 ?_ | refine z2 ?_ | refine z3 ?_ | refine z4 ?_ | refine z5 ?_ | refine z6 ?_ | refine z7 ?_ | refine z8 ?_ | refine z9 ?_)
  generalize h1 : decide ((a.length : Int) = b.length) = cc; cases cc
  · repeat (first | refine zA ?_ | refine zB ?_ | refine zC ?_ | refine zD ?_ | refine zE ?_ | refine zF ?_ | refine zG ?_ | refine zH ?_ | refine zI ?_ | refine zJ ?_ | refine zK ?_ | refine zL ?_ | refine zT ?_ | refine zU ?_ | refine zV ?_ | refine zW ?_ | refine zM ?_ | refine zN ?_ | refine zO ?_ | refine zP ?_ | refine zQ ?_ | refine zR ?_ | refine zS ?_ | refine z0 ?_ | refine z1 ?_ | refine z2 ?_ | refine z3 ?_ | refine z4 ?_ | refine z5 ?_ | refine z6 ?_ | refine z7 ?_ | refine z8 ?_ | refine z9 ?_)
    first | refine fin_ret rfl ?_ | refine fin_normal rfl ?_
    have h1' := of_decide_eq_false h1
    have : ¬ a = b := fun e => h1' (by rw [e])
    simp [this]
  · repeat (first | refine zA ?_ | refine zB ?_ | refine zC ?_ | refine zD ?_ | refine zE ?_ | refine zF ?_ | refine zG ?_ | refine zH ?_ | refine zI ?_ | refine zJ ?_ | refine zK ?_ | refine zL ?_ | refine zT ?_ | refine zU ?_ | refine zV ?_ | refine zW ?_ | refine zM ?_ | refine zN ?_ | refine zO ?_ | refine zP ?_ | refine zQ ?_ | refine zR ?_ | refine zS ?_ | refine z0 ?_ | refine z1 ?_ | refine z2 ?_ | refine z3 ?_ | refine z4 ?_ | refine z5 ?_ | refine z6 ?_ | refine z7 ?_ | refine z8 ?_ | refine z9 ?_)
    have hab := of_decide_eq_true h1
    refine awp_loop_ok (fun n : Nat => n ≤ a.length ∧ a.take n = b.take n) (fun n => ⟨[(5, dI n), (0, dInts a), (1, dInts b)], [], []⟩) (fun n => a.length - n) 0 ⟨by omega, by simp⟩ (zX) ?_
    rintro n ⟨hn, heq⟩
    repeat (first | refine zA ?_ | refine zB ?_ | refine zC ?_ | refine zD ?_ | refine zE ?_ | refine zF ?_ | refine zG ?_ | refine zH ?_ | refine zI ?_ | refine zJ ?_ | refine zK ?_ | refine zL ?_ | refine zT ?_ | refine zU ?_ | refine zV ?_ | refine zW ?_ | refine zM ?_ | refine zN ?_ | refine zO ?_ | refine zP ?_ | refine zQ ?_ | refine zR ?_ | refine zS ?_ | refine z0 ?_ | refine z1 ?_ | refine z2 ?_ | refine z3 ?_ | refine z4 ?_ | refine z5 ?_ | refine z6 ?_ | refine z7 ?_ | refine z8 ?_ | refine z9 ?_)
    refine ck_b (fun h2 => ?_) (fun h2 => ?_) <;> try rw [h2]
    · have hlt := of_decide_eq_true h2
      obtain ⟨x, hx⟩ := getI (l := a) (i := n) (by omega) hlt
      obtain ⟨y, hy⟩ := getI (l := b) (i := n) (by omega) (by omega)
      repeat (first | refine zA ?_ | refine zB ?_ | refine zC ?_ | refine zD ?_ | refine zE ?_ | refine zF ?_ | refine zG ?_ | refine zH ?_ | refine zI ?_ | refine zJ ?_ | refine zK ?_ | refine zL ?_ | refine zT ?_ | refine zU ?_ | refine zV ?_ | refine zW ?_ | refine zM ?_ | refine zN ?_ | refine zO ?_ | refine zP ?_ | refine zQ ?_ | refine zR ?_ | refine zS ?_ | refine z0 ?_ | refine z1 ?_ | refine z2 ?_ | refine z3 ?_ | refine z4 ?_ | refine z5 ?_ | refine z6 ?_ | refine z7 ?_ | refine z8 ?_ | refine z9 ?_)
      refine awp_region_q [] rfl (by kernel_rfl) (by kernel_rfl) ?_
      repeat (first | refine w0 ?_ | refine w1 ?_ | refine w2 ?_ | refine w3 ?_ | refine w4 ?_ | refine w5 ?_ | refine w6 ?_ | refine w7 ?_ | refine w8 ?_ | refine w9 ?_)
      refine r_q (indexAddr_step tabOk [pI x] rfl rfl rfl rfl rfl rfl (by first | omega | (simp; done) | (simp; omega)) (by first | omega | (simp; done) | (simp; omega)) (by first | (simp; done) | exact List.cons_ne_nil _ _) (ints_idx hx)) rfl rfl ?_
      repeat (first | refine w0 ?_ | refine w1 ?_ | refine w2 ?_ | refine w3 ?_ | refine w4 ?_ | refine w5 ?_ | refine w6 ?_ | refine w7 ?_ | refine w8 ?_ | refine w9 ?_)
      refine r_q (indexAddr_step tabOk [pI y] rfl rfl rfl rfl rfl rfl (by first | omega | (simp; done) | (simp; omega)) (by first | omega | (simp; done) | (simp; omega)) (by first | (simp; done) | exact List.cons_ne_nil _ _) (ints_idx hy)) rfl rfl ?_
      repeat (first | refine w0 ?_ | refine w1 ?_ | refine w2 ?_ | refine w3 ?_ | refine w4 ?_ | refine w5 ?_ | refine w6 ?_ | refine w7 ?_ | refine w8 ?_ | refine w9 ?_)
      repeat (first | refine zA ?_ | refine zB ?_ | refine zC ?_ | refine zD ?_ | refine zE ?_ | refine zF ?_ | refine zG ?_ | refine zH ?_ | refine zI ?_ | refine zJ ?_ | refine zK ?_ | refine zL ?_ | refine zT ?_ | refine zU ?_ | refine zV ?_ | refine zW ?_ | refine zM ?_ | refine zN ?_ | refine zO ?_ | refine zP ?_ | refine zQ ?_ | refine zR ?_ | refine zS ?_ | refine z0 ?_ | refine z1 ?_ | refine z2 ?_ | refine z3 ?_ | refine z4 ?_ | refine z5 ?_ | refine z6 ?_ | refine z7 ?_ | refine z8 ?_ | refine z9 ?_)
      simp only [Int.toNat_natCast] at hx hy
      generalize h3 : decide (x = y) = cc; cases cc
      · repeat (first | refine zA ?_ | refine zB ?_ | refine zC ?_ | refine zD ?_ | refine zE ?_ | refine zF ?_ | refine zG ?_ | refine zH ?_ | refine zI ?_ | refine zJ ?_ | refine zK ?_ | refine zL ?_ | refine zT ?_ | refine zU ?_ | refine zV ?_ | refine zW ?_ | refine zM ?_ | refine zN ?_ | refine zO ?_ | refine zP ?_ | refine zQ ?_ | refine zR ?_ | refine zS ?_ | refine z0 ?_ | refine z1 ?_ | refine z2 ?_ | refine z3 ?_ | refine z4 ?_ | refine z5 ?_ | refine z6 ?_ | refine z7 ?_ | refine z8 ?_ | refine z9 ?_)
        first | refine fin_ret rfl ?_ | refine fin_normal rfl ?_
        have h3' := of_decide_eq_false h3
        have : ¬ a = b := fun e => h3' (by rw [e, hy] at hx; cases hx; rfl)
        simp [this]
      · repeat (first | refine zA ?_ | refine zB ?_ | refine zC ?_ | refine zD ?_ | refine zE ?_ | refine zF ?_ | refine zG ?_ | refine zH ?_ | refine zI ?_ | refine zJ ?_ | refine zK ?_ | refine zL ?_ | refine zT ?_ | refine zU ?_ | refine zV ?_ | refine zW ?_ | refine zM ?_ | refine zN ?_ | refine zO ?_ | refine zP ?_ | refine zQ ?_ | refine zR ?_ | refine zS ?_ | refine z0 ?_ | refine z1 ?_ | refine z2 ?_ | refine z3 ?_ | refine z4 ?_ | refine z5 ?_ | refine z6 ?_ | refine z7 ?_ | refine z8 ?_ | refine z9 ?_)
        have h3' := of_decide_eq_true h3
        refine ⟨n + 1, ⟨by omega, ?_⟩, by omega, zX⟩
        rw [List.take_add_one, List.take_add_one, heq, hx, hy, h3']
    · repeat (first | refine zA ?_ | refine zB ?_ | refine zC ?_ | refine zD ?_ | refine zE ?_ | refine zF ?_ | refine zG ?_ | refine zH ?_ | refine zI ?_ | refine zJ ?_ | refine zK ?_ | refine zL ?_ | refine zT ?_ | refine zU ?_ | refine zV ?_ | refine zW ?_ | refine zM ?_ | refine zN ?_ | refine zO ?_ | refine zP ?_ | refine zQ ?_ | refine zR ?_ | refine zS ?_ | refine z0 ?_ | refine z1 ?_ | refine z2 ?_ | refine z3 ?_ | refine z4 ?_ | refine z5 ?_ | refine z6 ?_ | refine z7 ?_ | refine z8 ?_ | refine z9 ?_)
      first | refine fin_ret rfl ?_ | refine fin_normal rfl ?_
      have hge := of_decide_eq_false h2
      rw [List.take_of_length_le (by omega), List.take_of_length_le (by omega)] at heq
      simp [heq]
end Go.Proofs.Ytpecgpmdchejdaa
