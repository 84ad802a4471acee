/- Words and layouts: what they are, and their walks. -/

import Derived.Test.YtdmnjoidfjidbaaGreatShort
import Derived.Test.YtdmnjoidfjidbaaGreatPA
namespace Go.Proofs.YtdmnjoidfjidbaaGreat
open Go.RowKit
set_option maxRecDepth 100000

abbrev dRef (r : RefT) : Dt := .agg [dI r.idx, dB r.mark, dI r.cnt]

theorem low_c (n : Int) (b : Nat) (hb : b ≤ 62) : PureC Tryz.prog 97 [dI n, dI b] (dI (n % 2 ^ b)) := by
  have h1 : (2 : Int) ^ b ≤ 4611686018427387904 := by
    have hlt : (2 : Nat) ^ b ≤ 2 ^ 62 := Nat.pow_le_pow_right (by omega) hb
    have h5 : ((2 ^ b : Nat) : Int) ≤ ((2 ^ 62 : Nat) : Int) := Int.ofNat_le.2 hlt
    have h6 : ((2 ^ 62 : Nat) : Int) = 4611686018427387904 := by decide
    rw [h6, Int.natCast_pow] at h5
    exact h5
  have h0 : (0 : Int) < 2 ^ b := Int.pow_pos (by omega)
  refine pure_fin tabOk Tryz.func97 rfl Tryz.ntmps97 rfl rfl rfl fun w cl => ?_
  refine go ?_
  refine a_q (shlI_step b rfl rfl rfl rfl hb (by omega) (by omega)) rfl rfl rfl ?_
  rw [Int.one_mul]
  refine go ?_
  first | refine fin_ret rfl ?_ | refine fin_normal rfl ?_
  rw [and_low n b hb]
theorem low16_c (n : Int) : PureC Tryz.prog 97 [dI n, dI 16] (dI (n % 65536)) := low_c n 16 (by omega)
theorem low1_c (n : Int) : PureC Tryz.prog 97 [dI n, dI 1] (dI (n % 2)) := low_c n 1 (by omega)
theorem low28_c (n : Int) : PureC Tryz.prog 97 [dI n, dI 28] (dI (n % 268435456)) := low_c n 28 (by omega)
theorem of_c (n : Int) : PureC Tryz.prog 68 [dI n] (dRef (ofW n)) := by
  refine pure_fin tabOk Tryz.func68 rfl Tryz.ntmps68 rfl rfl rfl fun w cl => ?_
  refine go ?_
  refine a_q (call_step (low16_c n) rfl (fun a w => Tryz.call97 a w) rfl) rfl rfl rfl ?_
  refine go ?_
  refine a_q (shrI_step 16 rfl rfl rfl (by omega)) rfl rfl rfl ?_
  refine go ?_
  refine a_q (call_step (low1_c (n / 2 ^ 16)) rfl (fun a w => Tryz.call97 a w) rfl) rfl rfl rfl ?_
  refine go ?_
  refine a_q (shrI_step 17 rfl rfl rfl (by omega)) rfl rfl rfl ?_
  refine go ?_
  refine a_q (call_step (low28_c (n / 2 ^ 17)) rfl (fun a w => Tryz.call97 a w) rfl) rfl rfl rfl ?_
  refine go ?_
  first | refine fin_ret rfl ?_ | refine fin_normal rfl ?_
  rfl
theorem turn_c (r : RefT) (i : Int) (h0 : 0 ≤ r.cnt) (h1 : r.cnt < 268435456) : PureC Tryz.prog 71 [dRef r, dI i] (dRef (turnW r i)) := by
  refine pure_fin tabOk Tryz.func71 rfl Tryz.ntmps71 rfl rfl rfl fun w cl => ?_
  refine go ?_
  refine awp_region_w 7 [] rfl rfl (by kernel_rfl) (by kernel_rfl) (by kernel_rfl) ?_
  refine goQ ?_
  refine r_q (call_step (low16_c i) rfl (fun a w => Tryz.call97 a w) rfl) rfl rfl ?_
  refine goQ ?_
  refine r_q (call_step (low28_c (r.cnt + 1)) rfl (fun a w => Tryz.call97 a w) rfl) rfl rfl ?_
  refine goQ ?_
  refine go ?_
  first | refine fin_ret rfl ?_ | refine fin_normal rfl ?_
  rfl
theorem lit2 {x y : Pl} {ps : List Pl} {n : Nat} (h0 : ps[n]? = some x) (h1 : ps[n + 1]? = some y) : ∀ (m : Nat) q, [x, y][m]? = some q → ps[n + m]? = some q := by
  intro m q hq
  match m, hq with
  | 0, hq => cases hq; exact h0
  | 1, hq => cases hq; exact h1
theorem lay_c (a b c : Int) : PureC Tryz.prog 98 [.p (.sl false 3 [pI a, pI 16, pI b, pI 1, pI c, pI 28])] (dI (a % 65536 + 65536 * (b % 2) + 131072 * (c % 268435456))) := by
  have a0 : 0 ≤ a % 65536 := Int.emod_nonneg _ (by omega)
  have a1 : a % 65536 < 65536 := Int.emod_lt_of_pos _ (by omega)
  have b0 : 0 ≤ b % 2 := Int.emod_nonneg _ (by omega)
  have b1 : b % 2 < 2 := Int.emod_lt_of_pos _ (by omega)
  have c0 : 0 ≤ c % 268435456 := Int.emod_nonneg _ (by omega)
  have c1 : c % 268435456 < 268435456 := Int.emod_lt_of_pos _ (by omega)
  refine pure_fin tabOk Tryz.func98 rfl Tryz.ntmps98 rfl rfl rfl fun w cl => ?_
  refine go ?_
  refine awp_loop_ok (fun i : Nat => i ≤ 3) (fun i => ⟨[(9, dI i), (8, dI 3), (7, .p (.sl false 3 [pI a, pI 16, pI b, pI 1, pI c, pI 28])), (3, dI (if i = 0 then 0 else if i = 1 then a % 65536 else if i = 2 then a % 65536 + 65536 * (b % 2) else a % 65536 + 65536 * (b % 2) + 131072 * (c % 268435456))), (4, dI (if i = 0 then 0 else if i = 1 then 16 else if i = 2 then 17 else 45))], [], []⟩) (fun i => 3 - i) 0 (by omega) (zX) ?_
  intro i hi
  rcases (show i = 0 ∨ i = 1 ∨ i = 2 ∨ i = 3 by omega) with rfl | rfl | rfl | rfl
  · refine (show AWP _ _ _ _ ⟨[(9, dI 0), (8, dI 3), (7, .p (.sl false 3 [pI a, pI 16, pI b, pI 1, pI c, pI 28])), (3, dI (0)), (4, dI 0)], [], []⟩ from ?_)
    refine go ?_
    refine ck_b (fun h1 => ?_) (fun h1 => ?_) <;> try rw [h1]
    · refine go ?_
      refine a_q (indexAddr_step tabOk [pI a, pI 16] rfl rfl rfl rfl rfl rfl (by first | omega | (simp; done) | (simp; omega)) (by first | omega | (simp; done) | (simp; omega)) (by first | (simp; done) | exact List.cons_ne_nil _ _) (lit2 rfl rfl)) rfl rfl rfl ?_
      refine go ?_
      refine a_q (call_step (low16_c a) rfl (fun a w => Tryz.call97 a w) rfl) rfl rfl rfl ?_
      refine go ?_
      refine a_q (shlI_step 0 rfl rfl rfl rfl (by omega) (by omega) (by omega)) rfl rfl rfl ?_
      rw [show a % 65536 * 2 ^ 0 = a % 65536 by omega]
      refine go ?_
      refine a_q (orI_step 0 (a % 65536) rfl rfl rfl (by omega) (by omega) (by omega) (by omega) (by omega)) rfl rfl rfl ?_
      rw [show 0 + a % 65536 = a % 65536 by omega]
      refine go ?_
      exact ⟨1, by omega, by omega, zX⟩
    · exact absurd h1 (by decide)
  · refine (show AWP _ _ _ _ ⟨[(9, dI 1), (8, dI 3), (7, .p (.sl false 3 [pI a, pI 16, pI b, pI 1, pI c, pI 28])), (3, dI (a % 65536)), (4, dI 16)], [], []⟩ from ?_)
    refine go ?_
    refine ck_b (fun h1 => ?_) (fun h1 => ?_) <;> try rw [h1]
    · refine go ?_
      refine a_q (indexAddr_step tabOk [pI b, pI 1] rfl rfl rfl rfl rfl rfl (by first | omega | (simp; done) | (simp; omega)) (by first | omega | (simp; done) | (simp; omega)) (by first | (simp; done) | exact List.cons_ne_nil _ _) (lit2 rfl rfl)) rfl rfl rfl ?_
      refine go ?_
      refine a_q (call_step (low1_c b) rfl (fun a w => Tryz.call97 a w) rfl) rfl rfl rfl ?_
      refine go ?_
      refine a_q (shlI_step 16 rfl rfl rfl rfl (by omega) (by omega) (by omega)) rfl rfl rfl ?_
      rw [show b % 2 * 2 ^ 16 = 65536 * (b % 2) by omega]
      refine go ?_
      refine a_q (orI_step 16 (b % 2) rfl rfl rfl (by omega) (by omega) (by omega) (by omega) (by omega)) rfl rfl rfl ?_
      refine go ?_
      exact ⟨2, by omega, by omega, zX⟩
    · exact absurd h1 (by decide)
  · refine (show AWP _ _ _ _ ⟨[(9, dI 2), (8, dI 3), (7, .p (.sl false 3 [pI a, pI 16, pI b, pI 1, pI c, pI 28])), (3, dI (a % 65536 + 65536 * (b % 2))), (4, dI 17)], [], []⟩ from ?_)
    refine go ?_
    refine ck_b (fun h1 => ?_) (fun h1 => ?_) <;> try rw [h1]
    · refine go ?_
      refine a_q (indexAddr_step tabOk [pI c, pI 28] rfl rfl rfl rfl rfl rfl (by first | omega | (simp; done) | (simp; omega)) (by first | omega | (simp; done) | (simp; omega)) (by first | (simp; done) | exact List.cons_ne_nil _ _) (lit2 rfl rfl)) rfl rfl rfl ?_
      refine go ?_
      refine a_q (call_step (low28_c c) rfl (fun a w => Tryz.call97 a w) rfl) rfl rfl rfl ?_
      refine go ?_
      refine a_q (shlI_step 17 rfl rfl rfl rfl (by omega) (by omega) (by omega)) rfl rfl rfl ?_
      rw [show c % 268435456 * 2 ^ 17 = 131072 * (c % 268435456) by omega]
      refine go ?_
      refine a_q (orI_step 17 (c % 268435456) rfl rfl rfl (by omega) (by omega) (by omega) (by omega) (by omega)) rfl rfl rfl ?_
      refine go ?_
      exact ⟨3, by omega, by omega, zX⟩
    · exact absurd h1 (by decide)
  · refine (show AWP _ _ _ _ ⟨[(9, dI 3), (8, dI 3), (7, .p (.sl false 3 [pI a, pI 16, pI b, pI 1, pI c, pI 28])), (3, dI (a % 65536 + 65536 * (b % 2) + 131072 * (c % 268435456))), (4, dI 45)], [], []⟩ from ?_)
    refine go ?_
    refine ck_b (fun h1 => ?_) (fun h1 => ?_) <;> try rw [h1]
    · exact absurd h1 (by decide)
    · refine go ?_
      first | refine fin_ret rfl ?_ | refine fin_normal rfl ?_
      rfl
theorem pack_c (r : RefT) : PureC Tryz.prog 70 [dRef r] (dI (packW r)) := by
  have hm : ∀ b : Bool, (if b then (1 : Int) else 0) % 2 = if b then 1 else 0 := fun b => by cases b <;> rfl
  obtain ⟨i, m, c⟩ := r
  refine pure_fin tabOk Tryz.func70 rfl Tryz.ntmps70 rfl rfl rfl fun w cl => ?_
  refine go ?_
  cases m
  · refine go ?_
    refine a_q (call_step (lay_c i 0 c) rfl (fun a w => Tryz.call98 a w) rfl) rfl rfl rfl ?_
    refine go ?_
    first | refine fin_ret rfl ?_ | refine fin_normal rfl ?_
    rfl
  · refine go ?_
    refine a_q (call_step (lay_c i 1 c) rfl (fun a w => Tryz.call98 a w) rfl) rfl rfl rfl ?_
    refine go ?_
    first | refine fin_ret rfl ?_ | refine fin_normal rfl ?_
    rfl
end Go.Proofs.YtdmnjoidfjidbaaGreat
