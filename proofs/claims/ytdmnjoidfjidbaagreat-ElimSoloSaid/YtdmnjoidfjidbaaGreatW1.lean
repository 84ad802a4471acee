/- Words of offers: their walks. -/
import Derived.Test.YtdmnjoidfjidbaaGreatD1
import Derived.Test.YtdmnjoidfjidbaaGreatPB
namespace Go.Proofs.YtdmnjoidfjidbaaGreat
open Go.RowKit
set_option maxRecDepth 100000

theorem low32_c (n : Int) : PureC Tryz.prog 97 [dI n, dI 32] (dI (n % 4294967296)) := low_c n 32 (by omega)
theorem low2_c (n : Int) : PureC Tryz.prog 97 [dI n, dI 2] (dI (n % 4)) := low_c n 2 (by omega)
theorem offered_c (n : Int) : PureC Tryz.prog 85 [dI n] (.tup [dI (offV n), dI (offK n), dI (offC n)]) := by
  refine pure_fin tabOk Tryz.func85 rfl Tryz.ntmps85 rfl rfl rfl fun w cl => ?_
  refine go ?_
  refine a_q (call_step (low32_c n) rfl (fun a w => Tryz.call97 a w) rfl) rfl rfl rfl ?_
  refine go ?_
  refine a_q (shrI_step 32 rfl rfl rfl (by omega)) rfl rfl rfl ?_
  refine go ?_
  refine a_q (call_step (low2_c (n / 2 ^ 32)) rfl (fun a w => Tryz.call97 a w) rfl) rfl rfl rfl ?_
  refine go ?_
  refine a_q (shrI_step 34 rfl rfl rfl (by omega)) rfl rfl rfl ?_
  refine go ?_
  refine a_q (call_step (low28_c (n / 2 ^ 34)) rfl (fun a w => Tryz.call97 a w) rfl) rfl rfl rfl ?_
  refine go ?_
  first | refine fin_ret rfl ?_ | refine fin_normal rfl ?_
  rfl
theorem layO_c (a b c : Int) : PureC Tryz.prog 98 [.p (.sl false 3 [pI a, pI 32, pI b, pI 2, pI c, pI 28])] (dI (offW a b c)) := by
  have a0 : 0 ≤ a % 4294967296 := Int.emod_nonneg _ (by omega)
  have a1 : a % 4294967296 < 4294967296 := Int.emod_lt_of_pos _ (by omega)
  have b0 : 0 ≤ b % 4 := Int.emod_nonneg _ (by omega)
  have b1 : b % 4 < 4 := Int.emod_lt_of_pos _ (by omega)
  have c0 : 0 ≤ c % 268435456 := Int.emod_nonneg _ (by omega)
  have c1 : c % 268435456 < 268435456 := Int.emod_lt_of_pos _ (by omega)
  refine pure_fin tabOk Tryz.func98 rfl Tryz.ntmps98 rfl rfl rfl fun w cl => ?_
  refine go ?_
  refine awp_loop_ok (fun i : Nat => i ≤ 3) (fun i => ⟨[(9, dI i), (8, dI 3), (7, .p (.sl false 3 [pI a, pI 32, pI b, pI 2, pI c, pI 28])), (3, dI (if i = 0 then 0 else if i = 1 then a % 4294967296 else if i = 2 then a % 4294967296 + 4294967296 * (b % 4) else offW a b c)), (4, dI (if i = 0 then 0 else if i = 1 then 32 else if i = 2 then 34 else 62))], [], []⟩) (fun i => 3 - i) 0 (by omega) (zX) ?_
  intro i hi
  rcases (show i = 0 ∨ i = 1 ∨ i = 2 ∨ i = 3 by omega) with rfl | rfl | rfl | rfl
  · refine (show AWP _ _ _ _ ⟨[(9, dI 0), (8, dI 3), (7, .p (.sl false 3 [pI a, pI 32, pI b, pI 2, pI c, pI 28])), (3, dI (0)), (4, dI 0)], [], []⟩ from ?_)
    refine go ?_
    refine ck_b (fun h1 => ?_) (fun h1 => ?_) <;> try rw [h1]
    · refine go ?_
      refine a_q (indexAddr_step tabOk [pI a, pI 32] rfl rfl rfl rfl rfl rfl (by first | omega | (simp; done) | (simp; omega)) (by first | omega | (simp; done) | (simp; omega)) (by first | (simp; done) | exact List.cons_ne_nil _ _) (lit2 rfl rfl)) rfl rfl rfl ?_
      refine go ?_
      refine a_q (call_step (low32_c a) rfl (fun a w => Tryz.call97 a w) rfl) rfl rfl rfl ?_
      refine go ?_
      refine a_q (shlI_step 0 rfl rfl rfl rfl (by omega) (by omega) (by omega)) rfl rfl rfl ?_
      rw [show a % 4294967296 * 2 ^ 0 = a % 4294967296 by omega]
      refine go ?_
      refine a_q (orI_step 0 (a % 4294967296) rfl rfl rfl (by omega) (by omega) (by omega) (by omega) (by omega)) rfl rfl rfl ?_
      rw [show 0 + a % 4294967296 = a % 4294967296 by omega]
      refine go ?_
      exact ⟨1, by omega, by omega, zX⟩
    · exact absurd h1 (by decide)
  · refine (show AWP _ _ _ _ ⟨[(9, dI 1), (8, dI 3), (7, .p (.sl false 3 [pI a, pI 32, pI b, pI 2, pI c, pI 28])), (3, dI (a % 4294967296)), (4, dI 32)], [], []⟩ from ?_)
    refine go ?_
    refine ck_b (fun h1 => ?_) (fun h1 => ?_) <;> try rw [h1]
    · refine go ?_
      refine a_q (indexAddr_step tabOk [pI b, pI 2] rfl rfl rfl rfl rfl rfl (by first | omega | (simp; done) | (simp; omega)) (by first | omega | (simp; done) | (simp; omega)) (by first | (simp; done) | exact List.cons_ne_nil _ _) (lit2 rfl rfl)) rfl rfl rfl ?_
      refine go ?_
      refine a_q (call_step (low2_c b) rfl (fun a w => Tryz.call97 a w) rfl) rfl rfl rfl ?_
      refine go ?_
      refine a_q (shlI_step 32 rfl rfl rfl rfl (by omega) (by omega) (by omega)) rfl rfl rfl ?_
      rw [show b % 4 * 2 ^ 32 = 4294967296 * (b % 4) by omega]
      refine go ?_
      refine a_q (orI_step 32 (b % 4) rfl rfl rfl (by omega) (by omega) (by omega) (by omega) (by omega)) rfl rfl rfl ?_
      refine go ?_
      exact ⟨2, by omega, by omega, zX⟩
    · exact absurd h1 (by decide)
  · refine (show AWP _ _ _ _ ⟨[(9, dI 2), (8, dI 3), (7, .p (.sl false 3 [pI a, pI 32, pI b, pI 2, pI c, pI 28])), (3, dI (a % 4294967296 + 4294967296 * (b % 4))), (4, dI 34)], [], []⟩ from ?_)
    refine go ?_
    refine ck_b (fun h1 => ?_) (fun h1 => ?_) <;> try rw [h1]
    · refine go ?_
      refine a_q (indexAddr_step tabOk [pI c, pI 28] rfl rfl rfl rfl rfl rfl (by first | omega | (simp; done) | (simp; omega)) (by first | omega | (simp; done) | (simp; omega)) (by first | (simp; done) | exact List.cons_ne_nil _ _) (lit2 rfl rfl)) rfl rfl rfl ?_
      refine go ?_
      refine a_q (call_step (low28_c c) rfl (fun a w => Tryz.call97 a w) rfl) rfl rfl rfl ?_
      refine go ?_
      refine a_q (shlI_step 34 rfl rfl rfl rfl (by omega) (by omega) (by omega)) rfl rfl rfl ?_
      rw [show c % 268435456 * 2 ^ 34 = 17179869184 * (c % 268435456) by omega]
      refine go ?_
      refine a_q (orI_step 34 (c % 268435456) rfl rfl rfl (by omega) (by omega) (by omega) (by omega) (by omega)) rfl rfl rfl ?_
      refine go ?_
      exact ⟨3, by omega, by omega, zX⟩
    · exact absurd h1 (by decide)
  · refine (show AWP _ _ _ _ ⟨[(9, dI 3), (8, dI 3), (7, .p (.sl false 3 [pI a, pI 32, pI b, pI 2, pI c, pI 28])), (3, dI (offW a b c)), (4, dI 62)], [], []⟩ from ?_)
    refine go ?_
    refine ck_b (fun h1 => ?_) (fun h1 => ?_) <;> try rw [h1]
    · exact absurd h1 (by decide)
    · refine go ?_
      first | refine fin_ret rfl ?_ | refine fin_normal rfl ?_
      rfl
theorem offer_c (a b c : Int) : PureC Tryz.prog 86 [dI a, dI b, dI c] (dI (offW a b c)) := by
  refine pure_fin tabOk Tryz.func86 rfl Tryz.ntmps86 rfl rfl rfl fun w cl => ?_
  refine go ?_
  refine a_q (call_step (layO_c a b c) rfl (fun a w => Tryz.call98 a w) rfl) rfl rfl rfl ?_
  refine go ?_
  first | refine fin_ret rfl ?_ | refine fin_normal rfl ?_
  rfl
end Go.Proofs.YtdmnjoidfjidbaaGreat
