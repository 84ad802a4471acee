/- Parents of buckets: the statement's walk. -/
import Derived.Test.YtkkldicehapklaaGreatSH
namespace Go.Proofs.YtkkldicehapklaaGreat
open Go.RowKit
set_option maxRecDepth 100000

theorem awp_via {P : Program} {Γ : Ctx} {Q : Exit → St → Prop} {c : Code} {σ : St} (x : Exit) (τ : St) (h : AWP P Γ c (fun ex σ' => ex = x ∧ Ghost Γ σ' τ) σ) (k : ∀ σ', Ghost Γ σ' τ → Q x σ') : AWP P Γ c Q σ :=
  awp_mono h fun ex σ' hh => by
    obtain ⟨rfl, hg⟩ := hh
    exact k σ' hg
theorem two_pow_int (j : Nat) : (2 : Int) ^ j = ((2 ^ j : Nat) : Int) := by simp
set_option maxHeartbeats 8000000 in
theorem parents_w (b key size : Nat) (hb : b < 65536) (hk : key < 65536) (hs : size < 256) : PureC Tryz.prog 3 [dK .u16 b, dK .u16 key, dK .u8 size] (dB true) := by
  have wr : ∀ n : Nat, n < 9223372036854775808 → IntKind.i64.wrap (n : Int) = n := fun n hn => wrap_id (by omega) (by omega)
  have hm5 : PureC Tryz.prog 8 [dI (-5)] (dI 0) := parent_c (-5) (by omega)
  refine pure_fin tabOk Tryz.func3 rfl Tryz.ntmps3 rfl rfl rfl fun w cl => ?_
  refine go ?_
  refine a_q (call_step (shown_c) rfl (fun a w => Tryz.call7 a w) rfl) rfl rfl rfl ?_
  refine goK ?_
  refine awp_via (.exit 0) ⟨[(8, dI 0), (7, dB true), (1, dK .u16 key), (2, dK .u8 size)], [], []⟩ ?_ fun σ' hgh => ?_
  · refine awp_loop_ok (fun p : Nat × Nat => p.1 ≤ 16 ∧ p.2 < 2 ^ (16 - p.1)) (fun p => ⟨[(9, dI p.1), (8, dI p.2), (7, dB true), (1, dK .u16 key), (2, dK .u8 size)], [], []⟩) (fun p => p.2) (0, b) ⟨by omega, hb⟩ (zX) ?_
    rintro ⟨i, n⟩ ⟨hi, hn⟩
    simp only at hi hn
    refine (show AWP _ _ _ _ ⟨[(9, dI i), (8, dI n), (7, dB true), (1, dK .u16 key), (2, dK .u8 size)], [], []⟩ from ?_)
    by_cases h0 : n = 0
    · subst h0
      refine go ?_
      refine (show CK false _ _ from ?_)
      refine go ?_
      exact ⟨rfl, zX⟩
    · have hi16 : i ≠ 16 := fun h => by subst h; simp at hn; omega
      have hlt : n < 65536 := Nat.lt_of_lt_of_le hn (by
        have := Nat.pow_le_pow_right (n := 2) (by omega) (show 16 - i ≤ 16 by omega)
        omega)
      obtain ⟨q0, q1, q2⟩ := parent_less h0
      obtain ⟨k, hk16⟩ : ∃ k, 16 - i = k + 1 := ⟨16 - i - 1, by omega⟩
      rw [hk16] at hn
      have hbt := parent_bits h0 hn
      obtain ⟨p, hp⟩ := Int.eq_ofNat_of_zero_le q0
      have hpc := parent_c (n : Int) (by omega)
      rw [hp] at hpc q1 q2 hbt
      have hp1 : p < n := by omega
      have hp2 : p < n - p := by omega
      have hp3 : p < 2 ^ k := by rw [two_pow_int] at hbt; omega
      clear hp hbt q0
      refine go ?_
      rw [show decide ((n : Int) > 0) = true by rw [decide_eq_true_eq]; omega]
      refine go ?_
      refine a_q (call_step (hpc) rfl (fun a w => Tryz.call8 a w) rfl) rfl rfl rfl ?_
      refine go ?_
      rw [show decide ((p : Int) < 0) = false by rw [decide_eq_false_iff_not]; omega]
      refine go ?_
      rw [show decide ((p : Int) ≥ n) = false by rw [decide_eq_false_iff_not]; omega]
      refine go ?_
      rw [show decide ((i : Int) > 16) = false by rw [decide_eq_false_iff_not]; omega]
      refine go ?_
      rw [show decide ((p : Int) ≥ (n : Int) - p) = false by rw [decide_eq_false_iff_not]; omega]
      refine go ?_
      exact ⟨(i + 1, p), ⟨by simp only; omega, by simp only; rw [show 16 - (i + 1) = k by omega]; exact hp3⟩, by simp only; omega, zX⟩
  refine zR (zM (awp_ghost hgh ?_))
  clear hgh
  have hz := Nat.mod_lt size (y := 8) (by omega)
  refine goK ?_
  refine awp_via (.exit 2) ⟨[(11, dI ((2 ^ (size % 8) : Nat) : Int)), (8, dI 0), (7, dB true), (1, dK .u16 key), (2, dK .u8 size)], [], []⟩ ?_ fun σ' hgh => ?_
  · refine awp_loop_ok (fun j : Nat => j ≤ size % 8) (fun j => ⟨[(12, dI j), (11, dI ((2 ^ j : Nat) : Int)), (8, dI 0), (7, dB true), (1, dK .u16 key), (2, dK .u8 size)], [], []⟩) (fun j => size % 8 - j) 0 (by omega) (zX) ?_
    intro j hj
    refine (show AWP _ _ _ _ ⟨[(12, dI j), (11, dI ((2 ^ j : Nat) : Int)), (8, dI 0), (7, dB true), (1, dK .u16 key), (2, dK .u8 size)], [], []⟩ from ?_)
    have hj7 : (2 : Nat) ^ j ≤ 2 ^ 7 := Nat.pow_le_pow_right (by omega) (by omega)
    have hj1 : (2 : Nat) ^ (j + 1) = 2 * 2 ^ j := by rw [Nat.pow_succ, Nat.mul_comm]
    by_cases h1 : j = size % 8
    · subst h1
      refine goK ?_
      rw [show decide (((size % 8 : Nat) : Int) < (size : Int) % 8) = false by rw [decide_eq_false_iff_not]; omega]
      refine go ?_
      exact ⟨rfl, zX⟩
    · refine goK ?_
      rw [show decide ((j : Int) < (size : Int) % 8) = true by rw [decide_eq_true_eq]; omega]
      refine goK ?_
      rw [show IntKind.i64.wrap (2 * ((2 ^ j : Nat) : Int)) = ((2 ^ (j + 1) : Nat) : Int) by rw [hj1]; exact (wrap_id (by omega) (by omega)).trans (by omega)]
      refine go ?_
      exact ⟨j + 1, by omega, by omega, zX⟩
  refine zR (zM (awp_ghost hgh ?_))
  clear hgh
  have hp7 : (2 : Nat) ^ (size % 8) ≤ 2 ^ 7 := Nat.pow_le_pow_right (by omega) (by omega)
  have hp0 : 0 < (2 : Nat) ^ (size % 8) := Nat.two_pow_pos _
  have hhalf := parent_half key (size % 8)
  have hpx := parent_c ((key % (2 * 2 ^ (size % 8)) : Nat) : Int) (by have := Nat.mod_le key (2 * 2 ^ (size % 8)); omega)
  generalize (2 : Nat) ^ (size % 8) = s2 at *
  have hx : (key : Int) % (2 * (s2 : Int)) = ((key % (2 * s2) : Nat) : Int) := by simp
  have hy : (key : Int) % (s2 : Int) = ((key % s2 : Nat) : Int) := by simp
  have hwm : IntKind.i64.wrap (2 * (s2 : Int)) = 2 * (s2 : Int) := wrap_id (by omega) (by omega)
  generalize key % (2 * s2) = x at *
  generalize key % s2 = y at *
  refine go ?_
  rw [hwm]
  try rw [wr key (by omega)]
  refine a_q (rem_step rfl rfl rfl (by omega) (by omega)) rfl rfl rfl ?_
  rw [hx]
  refine go ?_
  try rw [wr key (by omega)]
  refine a_q (rem_step rfl rfl rfl (by omega) (by omega)) rfl rfl rfl ?_
  rw [hy]
  refine go ?_
  generalize h1 : decide ((x : Int) = y) = cc; cases cc
  · have h1' := of_decide_eq_false h1
    have hpy : parentF (x : Int) = y := by
      rcases hhalf with h | h
      · exact absurd (by rw [h]) h1'
      · exact h
    rw [hpy] at hpx
    refine go ?_
    refine a_q (call_step (hpx) rfl (fun a w => Tryz.call8 a w) rfl) rfl rfl rfl ?_
    refine go ?_
    rw [show decide ((y : Int) = y) = true from decide_eq_true rfl]
    refine go ?_
    refine a_q (call_step (hm5) rfl (fun a w => Tryz.call8 a w) rfl) rfl rfl rfl ?_
    refine go ?_
    first | refine fin_ret rfl ?_ | refine fin_normal rfl ?_
    rfl
  · refine go ?_
    refine a_q (call_step (hm5) rfl (fun a w => Tryz.call8 a w) rfl) rfl rfl rfl ?_
    refine go ?_
    first | refine fin_ret rfl ?_ | refine fin_normal rfl ?_
    rfl
theorem parents_i (b key size : Int) (hb : 0 ≤ b ∧ b ≤ 65535) (hk : 0 ≤ key ∧ key ≤ 65535) (hs : 0 ≤ size ∧ size ≤ 255) : PureC Tryz.prog 3 [dK .u16 b, dK .u16 key, dK .u8 size] (dB true) := by
  obtain ⟨b, rfl⟩ := Int.eq_ofNat_of_zero_le hb.1
  obtain ⟨key, rfl⟩ := Int.eq_ofNat_of_zero_le hk.1
  obtain ⟨size, rfl⟩ := Int.eq_ofNat_of_zero_le hs.1
  exact parents_w b key size (by omega) (by omega) (by omega)
end Go.Proofs.YtkkldicehapklaaGreat
