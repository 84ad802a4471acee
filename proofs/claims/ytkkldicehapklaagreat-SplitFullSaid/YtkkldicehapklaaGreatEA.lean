/- The document's words, nodes and maps: their walks. -/
import Derived.Test.YtkkldicehapklaaGreatE3
import Derived.Test.YtkkldicehapklaaGreatWA
import Derived.Test.YtkkldicehapklaaGreatDB
import Derived.Test.YtkkldicehapklaaGreatD21
import Derived.Test.YtkkldicehapklaaGreatPB
namespace Go.Proofs.YtkkldicehapklaaGreat
open Go.RowKit
set_option maxRecDepth 100000
theorem kM3 (m n : Int) (hn : 0 < n) (hb : n < 4611686018427387904) : kA Tryz.prog 122 [dI m, dI n] (dI (m % n)) := by
 have h := tmod_fix m n hn
 have h0 := Int.emod_nonneg m (show n ≠ 0 by omega)
 have h1 := Int.emod_lt_of_pos m hn
 refine jO jB Tryz.func122 rfl Tryz.ntmps122 rfl rfl rfl fun w cl => ?_
 refine go ?_
 refine a_q (remT_step rfl rfl rfl hn) rfl rfl rfl ?_
 generalize m.tmod n = k at h
 refine go ?_
 generalize h2 : decide (k < 0) = cc; cases cc
 ·have h2' := of_decide_eq_false h2
  refine go ?_
  first | refine jF rfl ?_ | refine jC rfl ?_
  rw [h.2 h2']
 ·have h2' := of_decide_eq_true h2
  have h3 := h.1 h2'
  refine go ?_
  first | refine jF rfl ?_ | refine jC rfl ?_
  rw [← h3]
theorem refof_c (n : Int) : kA Tryz.prog 104 [dI n] (dRef (ofW n)) := by
 have h0 := Int.emod_nonneg n (show (35184372088832 : Int) ≠ 0 by omega)
 have h1 := Int.emod_lt_of_pos n (show (0 : Int) < 35184372088832 by omega)
 have hE : ofW n = ⟨n % 35184372088832 % 65536, decide (n % 35184372088832 / 65536 % 2 = 1), n % 35184372088832 / 131072⟩ := by
  unfold ofW
  congr 1
  ·omega
  ·rw [decide_eq_decide]; omega
  ·omega
 rw [hE]
 refine jO jB Tryz.func104 rfl Tryz.ntmps104 rfl rfl rfl fun w cl => ?_
 refine go ?_
 refine a_q (jA (kM3 n 35184372088832 (by omega) (by omega)) rfl (fun a w => Tryz.call122 a w) rfl) rfl rfl rfl ?_
 generalize n % 35184372088832 = k at *
 refine goK ?_
 refine a_q (kH1 rfl rfl rfl (by omega) (by omega) (by omega)) rfl rfl rfl ?_
 refine goK ?_
 refine a_q (kH1 rfl rfl rfl (by omega) (by omega) (by omega)) rfl rfl rfl ?_
 refine goK ?_
 first | refine jF rfl ?_ | refine jC rfl ?_
 rfl
theorem jC9 (l : jN) (hL : qJ l) (n i : Int) (hi : 0 ≤ i ∧ i ≤ 7) : kA Tryz.prog 80 [wO l, dI n, dI i] (dI (jQ l n i)) := by
 obtain ⟨a1, a2⟩ := hL.node
 obtain ⟨b1, b2⟩ := hL.nodes
 have hE : jQ l n i = if (decide (1 ≤ n) && decide (n ≤ l.nodes)) then IntKind.i64.wrap (IntKind.i64.wrap (l.node + IntKind.i64.wrap (8 * IntKind.i64.wrap (n - 1))) + i) else -1 := by
  unfold jQ yD
  split
  ·rw [if_neg]
   simp only [Bool.and_eq_true, decide_eq_true_eq]
   omega
  ·split
   ·rw [if_neg]
    simp only [Bool.and_eq_true, decide_eq_true_eq]
    omega
   ·rw [if_pos (by simp only [Bool.and_eq_true, decide_eq_true_eq]; omega)]
    rw [yJ (n := n - 1) (by omega) (by omega), yJ (n := 8 * (n - 1)) (by omega) (by omega), yJ (n := l.node + 8 * (n - 1)) (by omega) (by omega), yJ (by omega) (by omega)]
    omega
 have hin : (decide (0 ≤ i) && decide (i ≤ 7)) = true := by simp only [Bool.and_eq_true, decide_eq_true_eq]; omega
 rw [hE]
 refine jO jB Tryz.func80 rfl Tryz.ntmps80 rfl rfl rfl fun w cl => ?_
 refine go ?_
 by_cases h0 : 1 ≤ n ∧ n ≤ l.nodes
 ·have hc : (decide (1 ≤ n) && decide (n ≤ l.nodes)) = true := by simp only [Bool.and_eq_true, decide_eq_true_eq]; omega
  have e1 := yJ (n := n - 1) (by omega) (by omega)
  have e2 := yJ (n := 8 * (n - 1)) (by omega) (by omega)
  have e3 := yJ (n := l.node + 8 * (n - 1)) (by omega) (by omega)
  have e4 := yJ (n := l.node + 8 * (n - 1) + i) (by omega) (by omega)
  rw [hc, e1, e2, e3, e4]
  refine jY [] rfl (by kernel_rfl) (by kernel_rfl) ?_
  refine goQ ?_
  rw [e2]
  refine goQ ?_
  refine r_q (jA (jF8 n 1 l.nodes) rfl (fun a w => Tryz.call34 a w) rfl) rfl rfl ?_
  rw [hc]
  refine goQ ?_
  refine r_q (jA (jF8 i 0 7) rfl (fun a w => Tryz.call34 a w) rfl) rfl rfl ?_
  rw [hin]
  refine goQ ?_
  refine r_q (jA (jW3 _ true) rfl (fun a w => Tryz.call102 a w) rfl) rfl rfl ?_
  refine goQ ?_
  refine go ?_
  first | refine jF rfl ?_ | refine jC rfl ?_
  rfl
 ·have hc : (decide (1 ≤ n) && decide (n ≤ l.nodes)) = false := by rw [Bool.eq_false_iff]; simp only [ne_eq, Bool.and_eq_true, decide_eq_true_eq]; omega
  rw [hc]
  refine jY [] rfl (by kernel_rfl) (by kernel_rfl) ?_
  refine goQ ?_
  refine r_q (jA (jF8 n 1 l.nodes) rfl (fun a w => Tryz.call34 a w) rfl) rfl rfl ?_
  rw [hc]
  refine goQ ?_
  refine r_q (jA (jW3 _ false) rfl (fun a w => Tryz.call102 a w) rfl) rfl rfl ?_
  refine goQ ?_
  refine go ?_
  first | refine jF rfl ?_ | refine jC rfl ?_
  rfl
theorem refmap_c (l : jN) (hL : qJ l) (hM : jG3 l) (m i : Int) (hi : 0 ≤ i ∧ i ≤ 1) : kA Tryz.prog 81 [wO l, dI m, dI i] (dI (xB l m i)) := by
 obtain ⟨a1, a2⟩ := hL.map
 obtain ⟨b1, b2⟩ := hM.m
 obtain ⟨c1, c2⟩ := hM.b
 have hin : (decide (0 ≤ i) && decide (i ≤ 1)) = true := by simp only [Bool.and_eq_true, decide_eq_true_eq]; omega
 by_cases h0 : 0 ≤ m ∧ m ≤ l.maps - 1
 ·have hm0 : 0 ≤ (l.buckets + 2) * m := Int.mul_nonneg (by omega) (by omega)
  have hm1 : (l.buckets + 2) * m ≤ 66 * 1000000 := Int.mul_le_mul (by omega) (by omega) (by omega) (by omega)
  have hE : xB l m i = l.map + (l.buckets + 2) * m + i := by
   unfold xB yD
   rw [if_neg (by omega), if_neg (by omega), show m * (2 + l.buckets) = (l.buckets + 2) * m by rw [Int.mul_comm, Int.add_comm]]
  have hc : (decide (0 ≤ m) && decide (m ≤ l.maps - 1)) = true := by simp only [Bool.and_eq_true, decide_eq_true_eq]; omega
  have e2 := yJ (n := (l.buckets + 2) * m) (by omega) (by omega)
  rw [hE]
  refine jO jB Tryz.func81 rfl Tryz.ntmps81 rfl rfl rfl fun w cl => ?_
  refine go ?_
  refine jY [] rfl (by kernel_rfl) (by kernel_rfl) ?_
  refine goQ ?_
  rw [e2]
  refine goQ ?_
  refine r_q (jA (jF8 m 0 (l.maps - 1)) rfl (fun a w => Tryz.call34 a w) rfl) rfl rfl ?_
  rw [hc]
  refine goQ ?_
  refine r_q (jA (jF8 i 0 1) rfl (fun a w => Tryz.call34 a w) rfl) rfl rfl ?_
  rw [hin]
  refine goQ ?_
  refine r_q (jA (jW3 _ true) rfl (fun a w => Tryz.call102 a w) rfl) rfl rfl ?_
  refine goQ ?_
  refine go ?_
  first | refine jF rfl ?_ | refine jC rfl ?_
  rfl
 ·have hE : xB l m i = -1 := by
   unfold xB yD
   rw [if_neg (by omega), if_pos (by omega)]
  have hc : (decide (0 ≤ m) && decide (m ≤ l.maps - 1)) = false := by rw [Bool.eq_false_iff]; simp only [ne_eq, Bool.and_eq_true, decide_eq_true_eq]; omega
  rw [hE]
  refine jO jB Tryz.func81 rfl Tryz.ntmps81 rfl rfl rfl fun w cl => ?_
  refine go ?_
  refine jY [] rfl (by kernel_rfl) (by kernel_rfl) ?_
  refine goQ ?_
  refine r_q (jA (jF8 m 0 (l.maps - 1)) rfl (fun a w => Tryz.call34 a w) rfl) rfl rfl ?_
  rw [hc]
  refine goQ ?_
  refine r_q (jA (jW3 _ false) rfl (fun a w => Tryz.call102 a w) rfl) rfl rfl ?_
  refine goQ ?_
  refine go ?_
  first | refine jF rfl ?_ | refine jC rfl ?_
  rfl
theorem refbucket_c (l : jN) (hL : qJ l) (hM : jG3 l) (m b : Int) (hm : 0 ≤ m ∧ m ≤ l.maps - 1) (hb : 0 ≤ b ∧ b ≤ l.buckets - 1) : kA Tryz.prog 82 [wO l, dI m, dI b] (dI (qR l m b)) := by
 obtain ⟨a1, a2⟩ := hL.map
 obtain ⟨b1, b2⟩ := hM.m
 obtain ⟨c1, c2⟩ := hM.b
 have hin : (decide (0 ≤ b) && decide (b ≤ l.buckets - 1)) = true := by simp only [Bool.and_eq_true, decide_eq_true_eq]; omega
 have hm0 : 0 ≤ (l.buckets + 2) * m := Int.mul_nonneg (by omega) (by omega)
 have hm1 : (l.buckets + 2) * m ≤ 66 * 1000000 := Int.mul_le_mul (by omega) (by omega) (by omega) (by omega)
 have hE : qR l m b = l.map + (l.buckets + 2) * m + 2 + b := by
  unfold qR yD
  rw [if_neg (by omega), if_neg (by omega), show m * (2 + l.buckets) = (l.buckets + 2) * m by rw [Int.mul_comm, Int.add_comm]]
  omega
 have hc : (decide (0 ≤ m) && decide (m ≤ l.maps - 1)) = true := by simp only [Bool.and_eq_true, decide_eq_true_eq]; omega
 have e2 := yJ (n := (l.buckets + 2) * m) (by omega) (by omega)
 rw [hE]
 refine jO jB Tryz.func82 rfl Tryz.ntmps82 rfl rfl rfl fun w cl => ?_
 refine go ?_
 refine jY [] rfl (by kernel_rfl) (by kernel_rfl) ?_
 refine goQ ?_
 rw [e2]
 refine goQ ?_
 refine r_q (jA (jF8 m 0 (l.maps - 1)) rfl (fun a w => Tryz.call34 a w) rfl) rfl rfl ?_
 rw [hc]
 refine goQ ?_
 refine r_q (jA (jF8 b 0 (l.buckets - 1)) rfl (fun a w => Tryz.call34 a w) rfl) rfl rfl ?_
 rw [hin]
 refine goQ ?_
 refine r_q (jA (jW3 _ true) rfl (fun a w => Tryz.call102 a w) rfl) rfl rfl ?_
 refine goQ ?_
 refine go ?_
 first | refine jF rfl ?_ | refine jC rfl ?_
 rfl
theorem refpack_c (n : Int) (hn : 0 ≤ n ∧ n < 65536) : kA Tryz.prog 83 [dI n] (dI (vK ⟨n, false, 0⟩)) := by
 have hP : kA Tryz.prog 103 [dRef ⟨n, false, 0⟩] (dI n) := by
  have h1 := kM3 n 65536 (by omega) (by omega)
  rw [show n % 65536 = n by omega] at h1
  have h2 := kM3 0 268435456 (by omega) (by omega)
  rw [show (0 : Int) % 268435456 = 0 from rfl] at h2
  refine jO jB Tryz.func103 rfl Tryz.ntmps103 rfl rfl rfl fun w cl => ?_
  refine go ?_
  refine jY [] rfl (by kernel_rfl) (by kernel_rfl) ?_
  refine goQ ?_
  refine r_q (jA (h1) rfl (fun a w => Tryz.call122 a w) rfl) rfl rfl ?_
  refine goQ ?_
  refine r_q (jA (h2) rfl (fun a w => Tryz.call122 a w) rfl) rfl rfl ?_
  refine goQ ?_
  refine go ?_
  first | refine jF rfl ?_ | refine jC rfl ?_
  rw [show IntKind.i64.wrap (n + IntKind.i64.wrap (131072 * 0)) = n by rw [show IntKind.i64.wrap (131072 * 0) = 0 from rfl, Int.add_zero]; exact yJ (by omega) (by omega)]
 have hE : vK ⟨n, false, 0⟩ = n := by
  unfold vK
  simp
  omega
 rw [hE]
 refine jO jB Tryz.func83 rfl Tryz.ntmps83 rfl rfl rfl fun w cl => ?_
 refine go ?_
 refine a_q (jA (hP) rfl (fun a w => Tryz.call103 a w) rfl) rfl rfl rfl ?_
 refine go ?_
 first | refine jF rfl ?_ | refine jC rfl ?_
 rfl
abbrev qU (s n b : Int) : List Dt := [dI s, dI n, dI b, dI 1, dI 1, dI 0, dI 1, dI 0, dI 0]
theorem qL (n a b : Int) (h : a ≤ n ∧ n ≤ b) : kA Tryz.prog 34 [dI n, dI a, dI b] (dB true) := by
 have := jF8 n a b
 rwa [show (decide (a ≤ n) && decide (n ≤ b)) = true by rw [Bool.and_eq_true]; exact ⟨decide_eq_true h.1, decide_eq_true h.2⟩] at this
theorem may1_c (s n : Int) (hs : 1 ≤ s ∧ s ≤ 8) : kA Tryz.prog 33 [.agg (qU s n 1)] (dB true) := by
 refine jO jB Tryz.func33 rfl Tryz.ntmps33 rfl rfl rfl fun w cl => ?_
 refine go ?_
 refine jP (fun i : Nat => i ≤ 7) (fun i => ⟨[(4, dI ((2 : Int) ^ i)), (3, dB (decide (0 < i))), (1, .ptr 0 0)], [(0, qU s n 1)], []⟩) (fun i => 7 - i) 0 (by omega) (zX) ?_
 intro i hi
 rcases (show i = 0 ∨ i = 1 ∨ i = 2 ∨ i = 3 ∨ i = 4 ∨ i = 5 ∨ i = 6 ∨ i = 7 by omega) with rfl | rfl | rfl | rfl | rfl | rfl | rfl | rfl
 ·refine (show AWP _ _ _ _ ⟨[(4, dI 1), (3, dB false), (1, .ptr 0 0)], [(0, qU s n 1)], []⟩ from ?_)
  refine go ?_
  rw [show decide ((1 : Int) ≤ 64) = true from rfl]
  refine go ?_
  rw [show decide ((1 : Int) = 1) = true from rfl]
  refine go ?_
  exact ⟨1, by omega, by omega, zX⟩
 ·refine (show AWP _ _ _ _ ⟨[(4, dI 2), (3, dB true), (1, .ptr 0 0)], [(0, qU s n 1)], []⟩ from ?_)
  refine go ?_
  rw [show decide ((2 : Int) ≤ 64) = true from rfl]
  refine go ?_
  exact ⟨2, by omega, by omega, zX⟩
 ·refine (show AWP _ _ _ _ ⟨[(4, dI 4), (3, dB true), (1, .ptr 0 0)], [(0, qU s n 1)], []⟩ from ?_)
  refine go ?_
  rw [show decide ((4 : Int) ≤ 64) = true from rfl]
  refine go ?_
  exact ⟨3, by omega, by omega, zX⟩
 ·refine (show AWP _ _ _ _ ⟨[(4, dI 8), (3, dB true), (1, .ptr 0 0)], [(0, qU s n 1)], []⟩ from ?_)
  refine go ?_
  rw [show decide ((8 : Int) ≤ 64) = true from rfl]
  refine go ?_
  exact ⟨4, by omega, by omega, zX⟩
 ·refine (show AWP _ _ _ _ ⟨[(4, dI 16), (3, dB true), (1, .ptr 0 0)], [(0, qU s n 1)], []⟩ from ?_)
  refine go ?_
  rw [show decide ((16 : Int) ≤ 64) = true from rfl]
  refine go ?_
  exact ⟨5, by omega, by omega, zX⟩
 ·refine (show AWP _ _ _ _ ⟨[(4, dI 32), (3, dB true), (1, .ptr 0 0)], [(0, qU s n 1)], []⟩ from ?_)
  refine go ?_
  rw [show decide ((32 : Int) ≤ 64) = true from rfl]
  refine go ?_
  exact ⟨6, by omega, by omega, zX⟩
 ·refine (show AWP _ _ _ _ ⟨[(4, dI 64), (3, dB true), (1, .ptr 0 0)], [(0, qU s n 1)], []⟩ from ?_)
  refine go ?_
  rw [show decide ((64 : Int) ≤ 64) = true from rfl]
  refine go ?_
  exact ⟨7, by omega, by omega, zX⟩
 ·refine (show AWP _ _ _ _ ⟨[(4, dI 128), (3, dB true), (1, .ptr 0 0)], [(0, qU s n 1)], []⟩ from ?_)
  refine go ?_
  rw [show decide ((128 : Int) ≤ 64) = false from rfl]
  refine go ?_
  refine a_q (jA (qL s 1 8 hs) rfl (fun a w => Tryz.call34 a w) rfl) rfl rfl rfl ?_
  refine go ?_
  refine a_q (jA (qL 1 1 8 (by omega)) rfl (fun a w => Tryz.call34 a w) rfl) rfl rfl rfl ?_
  refine go ?_
  refine a_q (jA (qL 1 1 64 (by omega)) rfl (fun a w => Tryz.call34 a w) rfl) rfl rfl rfl ?_
  refine go ?_
  refine a_q (jA (qL 0 0 16 (by omega)) rfl (fun a w => Tryz.call34 a w) rfl) rfl rfl rfl ?_
  refine go ?_
  refine a_q (jA (qL 1 0 8 (by omega)) rfl (fun a w => Tryz.call34 a w) rfl) rfl rfl rfl ?_
  refine go ?_
  refine a_q (jA (qL 0 0 8 (by omega)) rfl (fun a w => Tryz.call34 a w) rfl) rfl rfl rfl ?_
  refine go ?_
  refine a_q (jA (qL 0 0 8 (by omega)) rfl (fun a w => Tryz.call34 a w) rfl) rfl rfl rfl ?_
  refine go ?_
  first | refine jF rfl ?_ | refine jC rfl ?_
  rfl
theorem may2_c (s n : Int) (hs : 1 ≤ s ∧ s ≤ 8) : kA Tryz.prog 33 [.agg (qU s n 2)] (dB true) := by
 refine jO jB Tryz.func33 rfl Tryz.ntmps33 rfl rfl rfl fun w cl => ?_
 refine go ?_
 refine jP (fun i : Nat => i ≤ 7) (fun i => ⟨[(4, dI ((2 : Int) ^ i)), (3, dB (decide (1 < i))), (1, .ptr 0 0)], [(0, qU s n 2)], []⟩) (fun i => 7 - i) 0 (by omega) (zX) ?_
 intro i hi
 rcases (show i = 0 ∨ i = 1 ∨ i = 2 ∨ i = 3 ∨ i = 4 ∨ i = 5 ∨ i = 6 ∨ i = 7 by omega) with rfl | rfl | rfl | rfl | rfl | rfl | rfl | rfl
 ·refine (show AWP _ _ _ _ ⟨[(4, dI 1), (3, dB false), (1, .ptr 0 0)], [(0, qU s n 2)], []⟩ from ?_)
  refine go ?_
  rw [show decide ((1 : Int) ≤ 64) = true from rfl]
  refine go ?_
  rw [show decide ((2 : Int) = 1) = false from rfl]
  refine go ?_
  exact ⟨1, by omega, by omega, zX⟩
 ·refine (show AWP _ _ _ _ ⟨[(4, dI 2), (3, dB false), (1, .ptr 0 0)], [(0, qU s n 2)], []⟩ from ?_)
  refine go ?_
  rw [show decide ((2 : Int) ≤ 64) = true from rfl]
  refine go ?_
  rw [show decide ((2 : Int) = 2) = true from rfl]
  refine go ?_
  exact ⟨2, by omega, by omega, zX⟩
 ·refine (show AWP _ _ _ _ ⟨[(4, dI 4), (3, dB true), (1, .ptr 0 0)], [(0, qU s n 2)], []⟩ from ?_)
  refine go ?_
  rw [show decide ((4 : Int) ≤ 64) = true from rfl]
  refine go ?_
  exact ⟨3, by omega, by omega, zX⟩
 ·refine (show AWP _ _ _ _ ⟨[(4, dI 8), (3, dB true), (1, .ptr 0 0)], [(0, qU s n 2)], []⟩ from ?_)
  refine go ?_
  rw [show decide ((8 : Int) ≤ 64) = true from rfl]
  refine go ?_
  exact ⟨4, by omega, by omega, zX⟩
 ·refine (show AWP _ _ _ _ ⟨[(4, dI 16), (3, dB true), (1, .ptr 0 0)], [(0, qU s n 2)], []⟩ from ?_)
  refine go ?_
  rw [show decide ((16 : Int) ≤ 64) = true from rfl]
  refine go ?_
  exact ⟨5, by omega, by omega, zX⟩
 ·refine (show AWP _ _ _ _ ⟨[(4, dI 32), (3, dB true), (1, .ptr 0 0)], [(0, qU s n 2)], []⟩ from ?_)
  refine go ?_
  rw [show decide ((32 : Int) ≤ 64) = true from rfl]
  refine go ?_
  exact ⟨6, by omega, by omega, zX⟩
 ·refine (show AWP _ _ _ _ ⟨[(4, dI 64), (3, dB true), (1, .ptr 0 0)], [(0, qU s n 2)], []⟩ from ?_)
  refine go ?_
  rw [show decide ((64 : Int) ≤ 64) = true from rfl]
  refine go ?_
  exact ⟨7, by omega, by omega, zX⟩
 ·refine (show AWP _ _ _ _ ⟨[(4, dI 128), (3, dB true), (1, .ptr 0 0)], [(0, qU s n 2)], []⟩ from ?_)
  refine go ?_
  rw [show decide ((128 : Int) ≤ 64) = false from rfl]
  refine go ?_
  refine a_q (jA (qL s 1 8 hs) rfl (fun a w => Tryz.call34 a w) rfl) rfl rfl rfl ?_
  refine go ?_
  refine a_q (jA (qL 1 1 8 (by omega)) rfl (fun a w => Tryz.call34 a w) rfl) rfl rfl rfl ?_
  refine go ?_
  refine a_q (jA (qL 1 1 64 (by omega)) rfl (fun a w => Tryz.call34 a w) rfl) rfl rfl rfl ?_
  refine go ?_
  refine a_q (jA (qL 0 0 16 (by omega)) rfl (fun a w => Tryz.call34 a w) rfl) rfl rfl rfl ?_
  refine go ?_
  refine a_q (jA (qL 1 0 8 (by omega)) rfl (fun a w => Tryz.call34 a w) rfl) rfl rfl rfl ?_
  refine go ?_
  refine a_q (jA (qL 0 0 8 (by omega)) rfl (fun a w => Tryz.call34 a w) rfl) rfl rfl rfl ?_
  refine go ?_
  refine a_q (jA (qL 0 0 8 (by omega)) rfl (fun a w => Tryz.call34 a w) rfl) rfl rfl rfl ?_
  refine go ?_
  first | refine jF rfl ?_ | refine jC rfl ?_
  rfl
theorem may4_c (s n : Int) (hs : 1 ≤ s ∧ s ≤ 8) : kA Tryz.prog 33 [.agg (qU s n 4)] (dB true) := by
 refine jO jB Tryz.func33 rfl Tryz.ntmps33 rfl rfl rfl fun w cl => ?_
 refine go ?_
 refine jP (fun i : Nat => i ≤ 7) (fun i => ⟨[(4, dI ((2 : Int) ^ i)), (3, dB (decide (2 < i))), (1, .ptr 0 0)], [(0, qU s n 4)], []⟩) (fun i => 7 - i) 0 (by omega) (zX) ?_
 intro i hi
 rcases (show i = 0 ∨ i = 1 ∨ i = 2 ∨ i = 3 ∨ i = 4 ∨ i = 5 ∨ i = 6 ∨ i = 7 by omega) with rfl | rfl | rfl | rfl | rfl | rfl | rfl | rfl
 ·refine (show AWP _ _ _ _ ⟨[(4, dI 1), (3, dB false), (1, .ptr 0 0)], [(0, qU s n 4)], []⟩ from ?_)
  refine go ?_
  rw [show decide ((1 : Int) ≤ 64) = true from rfl]
  refine go ?_
  rw [show decide ((4 : Int) = 1) = false from rfl]
  refine go ?_
  exact ⟨1, by omega, by omega, zX⟩
 ·refine (show AWP _ _ _ _ ⟨[(4, dI 2), (3, dB false), (1, .ptr 0 0)], [(0, qU s n 4)], []⟩ from ?_)
  refine go ?_
  rw [show decide ((2 : Int) ≤ 64) = true from rfl]
  refine go ?_
  rw [show decide ((4 : Int) = 2) = false from rfl]
  refine go ?_
  exact ⟨2, by omega, by omega, zX⟩
 ·refine (show AWP _ _ _ _ ⟨[(4, dI 4), (3, dB false), (1, .ptr 0 0)], [(0, qU s n 4)], []⟩ from ?_)
  refine go ?_
  rw [show decide ((4 : Int) ≤ 64) = true from rfl]
  refine go ?_
  rw [show decide ((4 : Int) = 4) = true from rfl]
  refine go ?_
  exact ⟨3, by omega, by omega, zX⟩
 ·refine (show AWP _ _ _ _ ⟨[(4, dI 8), (3, dB true), (1, .ptr 0 0)], [(0, qU s n 4)], []⟩ from ?_)
  refine go ?_
  rw [show decide ((8 : Int) ≤ 64) = true from rfl]
  refine go ?_
  exact ⟨4, by omega, by omega, zX⟩
 ·refine (show AWP _ _ _ _ ⟨[(4, dI 16), (3, dB true), (1, .ptr 0 0)], [(0, qU s n 4)], []⟩ from ?_)
  refine go ?_
  rw [show decide ((16 : Int) ≤ 64) = true from rfl]
  refine go ?_
  exact ⟨5, by omega, by omega, zX⟩
 ·refine (show AWP _ _ _ _ ⟨[(4, dI 32), (3, dB true), (1, .ptr 0 0)], [(0, qU s n 4)], []⟩ from ?_)
  refine go ?_
  rw [show decide ((32 : Int) ≤ 64) = true from rfl]
  refine go ?_
  exact ⟨6, by omega, by omega, zX⟩
 ·refine (show AWP _ _ _ _ ⟨[(4, dI 64), (3, dB true), (1, .ptr 0 0)], [(0, qU s n 4)], []⟩ from ?_)
  refine go ?_
  rw [show decide ((64 : Int) ≤ 64) = true from rfl]
  refine go ?_
  exact ⟨7, by omega, by omega, zX⟩
 ·refine (show AWP _ _ _ _ ⟨[(4, dI 128), (3, dB true), (1, .ptr 0 0)], [(0, qU s n 4)], []⟩ from ?_)
  refine go ?_
  rw [show decide ((128 : Int) ≤ 64) = false from rfl]
  refine go ?_
  refine a_q (jA (qL s 1 8 hs) rfl (fun a w => Tryz.call34 a w) rfl) rfl rfl rfl ?_
  refine go ?_
  refine a_q (jA (qL 1 1 8 (by omega)) rfl (fun a w => Tryz.call34 a w) rfl) rfl rfl rfl ?_
  refine go ?_
  refine a_q (jA (qL 1 1 64 (by omega)) rfl (fun a w => Tryz.call34 a w) rfl) rfl rfl rfl ?_
  refine go ?_
  refine a_q (jA (qL 0 0 16 (by omega)) rfl (fun a w => Tryz.call34 a w) rfl) rfl rfl rfl ?_
  refine go ?_
  refine a_q (jA (qL 1 0 8 (by omega)) rfl (fun a w => Tryz.call34 a w) rfl) rfl rfl rfl ?_
  refine go ?_
  refine a_q (jA (qL 0 0 8 (by omega)) rfl (fun a w => Tryz.call34 a w) rfl) rfl rfl rfl ?_
  refine go ?_
  refine a_q (jA (qL 0 0 8 (by omega)) rfl (fun a w => Tryz.call34 a w) rfl) rfl rfl rfl ?_
  refine go ?_
  first | refine jF rfl ?_ | refine jC rfl ?_
  rfl
theorem may8_c (s n : Int) (hs : 1 ≤ s ∧ s ≤ 8) : kA Tryz.prog 33 [.agg (qU s n 8)] (dB true) := by
 refine jO jB Tryz.func33 rfl Tryz.ntmps33 rfl rfl rfl fun w cl => ?_
 refine go ?_
 refine jP (fun i : Nat => i ≤ 7) (fun i => ⟨[(4, dI ((2 : Int) ^ i)), (3, dB (decide (3 < i))), (1, .ptr 0 0)], [(0, qU s n 8)], []⟩) (fun i => 7 - i) 0 (by omega) (zX) ?_
 intro i hi
 rcases (show i = 0 ∨ i = 1 ∨ i = 2 ∨ i = 3 ∨ i = 4 ∨ i = 5 ∨ i = 6 ∨ i = 7 by omega) with rfl | rfl | rfl | rfl | rfl | rfl | rfl | rfl
 ·refine (show AWP _ _ _ _ ⟨[(4, dI 1), (3, dB false), (1, .ptr 0 0)], [(0, qU s n 8)], []⟩ from ?_)
  refine go ?_
  rw [show decide ((1 : Int) ≤ 64) = true from rfl]
  refine go ?_
  rw [show decide ((8 : Int) = 1) = false from rfl]
  refine go ?_
  exact ⟨1, by omega, by omega, zX⟩
 ·refine (show AWP _ _ _ _ ⟨[(4, dI 2), (3, dB false), (1, .ptr 0 0)], [(0, qU s n 8)], []⟩ from ?_)
  refine go ?_
  rw [show decide ((2 : Int) ≤ 64) = true from rfl]
  refine go ?_
  rw [show decide ((8 : Int) = 2) = false from rfl]
  refine go ?_
  exact ⟨2, by omega, by omega, zX⟩
 ·refine (show AWP _ _ _ _ ⟨[(4, dI 4), (3, dB false), (1, .ptr 0 0)], [(0, qU s n 8)], []⟩ from ?_)
  refine go ?_
  rw [show decide ((4 : Int) ≤ 64) = true from rfl]
  refine go ?_
  rw [show decide ((8 : Int) = 4) = false from rfl]
  refine go ?_
  exact ⟨3, by omega, by omega, zX⟩
 ·refine (show AWP _ _ _ _ ⟨[(4, dI 8), (3, dB false), (1, .ptr 0 0)], [(0, qU s n 8)], []⟩ from ?_)
  refine go ?_
  rw [show decide ((8 : Int) ≤ 64) = true from rfl]
  refine go ?_
  rw [show decide ((8 : Int) = 8) = true from rfl]
  refine go ?_
  exact ⟨4, by omega, by omega, zX⟩
 ·refine (show AWP _ _ _ _ ⟨[(4, dI 16), (3, dB true), (1, .ptr 0 0)], [(0, qU s n 8)], []⟩ from ?_)
  refine go ?_
  rw [show decide ((16 : Int) ≤ 64) = true from rfl]
  refine go ?_
  exact ⟨5, by omega, by omega, zX⟩
 ·refine (show AWP _ _ _ _ ⟨[(4, dI 32), (3, dB true), (1, .ptr 0 0)], [(0, qU s n 8)], []⟩ from ?_)
  refine go ?_
  rw [show decide ((32 : Int) ≤ 64) = true from rfl]
  refine go ?_
  exact ⟨6, by omega, by omega, zX⟩
 ·refine (show AWP _ _ _ _ ⟨[(4, dI 64), (3, dB true), (1, .ptr 0 0)], [(0, qU s n 8)], []⟩ from ?_)
  refine go ?_
  rw [show decide ((64 : Int) ≤ 64) = true from rfl]
  refine go ?_
  exact ⟨7, by omega, by omega, zX⟩
 ·refine (show AWP _ _ _ _ ⟨[(4, dI 128), (3, dB true), (1, .ptr 0 0)], [(0, qU s n 8)], []⟩ from ?_)
  refine go ?_
  rw [show decide ((128 : Int) ≤ 64) = false from rfl]
  refine go ?_
  refine a_q (jA (qL s 1 8 hs) rfl (fun a w => Tryz.call34 a w) rfl) rfl rfl rfl ?_
  refine go ?_
  refine a_q (jA (qL 1 1 8 (by omega)) rfl (fun a w => Tryz.call34 a w) rfl) rfl rfl rfl ?_
  refine go ?_
  refine a_q (jA (qL 1 1 64 (by omega)) rfl (fun a w => Tryz.call34 a w) rfl) rfl rfl rfl ?_
  refine go ?_
  refine a_q (jA (qL 0 0 16 (by omega)) rfl (fun a w => Tryz.call34 a w) rfl) rfl rfl rfl ?_
  refine go ?_
  refine a_q (jA (qL 1 0 8 (by omega)) rfl (fun a w => Tryz.call34 a w) rfl) rfl rfl rfl ?_
  refine go ?_
  refine a_q (jA (qL 0 0 8 (by omega)) rfl (fun a w => Tryz.call34 a w) rfl) rfl rfl rfl ?_
  refine go ?_
  refine a_q (jA (qL 0 0 8 (by omega)) rfl (fun a w => Tryz.call34 a w) rfl) rfl rfl rfl ?_
  refine go ?_
  first | refine jF rfl ?_ | refine jC rfl ?_
  rfl
def IsBk (b : Int) : Prop := b = 1 ∨ b = 2 ∨ b = 4 ∨ b = 8
theorem may_c (s n b : Int) (hs : 1 ≤ s ∧ s ≤ 8) (hb : IsBk b) : kA Tryz.prog 33 [.agg (qU s n b)] (dB true) := by
 rcases hb with rfl | rfl | rfl | rfl
 ·exact may1_c s n hs
 ·exact may2_c s n hs
 ·exact may4_c s n hs
 ·exact may8_c s n hs
theorem IsBk.le {b : Int} (h : IsBk b) : 1 ≤ b ∧ b ≤ 8 := by rcases h with rfl | rfl | rfl | rfl <;> omega
theorem refrings_c (l : jN) (h : l.tasks = 1) : kA Tryz.prog 35 [wO l] (dI 1) := by
 obtain ⟨seats, nodes, buckets, slots, tasks, cells, maps, stacks, chans, done, count, era, free, alive, owner, resv, deque, ring, task, cell, map, stack, chan, node, size⟩ := l
 simp only at h
 subst h
 refine jO jB Tryz.func35 rfl Tryz.ntmps35 rfl rfl rfl fun w cl => ?_
 refine go ?_
 refine jP (fun _ : Unit => True) (fun _ => ⟨[(4, dI 4), (3, dI 1), (1, .ptr 0 0)], [(0, xL ⟨seats, nodes, buckets, slots, 1, cells, maps, stacks, chans, done, count, era, free, alive, owner, resv, deque, ring, task, cell, map, stack, chan, node, size⟩)], []⟩) (fun _ => 0) () trivial (zX) ?_
 intro _ _
 refine go ?_
 rw [show decide ((4 : Int) < 1) = false from rfl]
 refine go ?_
 first | refine jF rfl ?_ | refine jC rfl ?_
 rfl
theorem room_c : kA Tryz.prog 36 [dI 1] (dI 4) := by
 refine jO jB Tryz.func36 rfl Tryz.ntmps36 rfl rfl rfl fun w cl => ?_
 refine go ?_
 refine jP (fun i : Nat => i ≤ 1) (fun i => ⟨[(0, dI 1), (5, dI i), (4, dI (if i = 0 then 4 else 8)), (3, dI (if i = 0 then 0 else 4))], [], []⟩) (fun i => 1 - i) 0 (by omega) (zX) ?_
 intro i hi
 rcases (show i = 0 ∨ i = 1 by omega) with rfl | rfl
 ·refine (show AWP _ _ _ _ ⟨[(0, dI 1), (5, dI 0), (4, dI 4), (3, dI 0)], [], []⟩ from ?_)
  refine go ?_
  rw [show decide ((0 : Int) < 1) = true from rfl]
  refine go ?_
  exact ⟨1, by omega, by omega, zX⟩
 ·refine (show AWP _ _ _ _ ⟨[(0, dI 1), (5, dI 1), (4, dI 8), (3, dI 4)], [], []⟩ from ?_)
  refine go ?_
  rw [show decide ((1 : Int) < 1) = false from rfl]
  refine go ?_
  first | refine jF rfl ?_ | refine jC rfl ?_
  rfl
set_option maxHeartbeats 4000000 in
theorem refof_lay (s n b : Int) (hs : 1 ≤ s ∧ s ≤ 8) (hbk : IsBk b) (hn : 1 ≤ n ∧ n ≤ 1000) : kA Tryz.prog 17 [.agg (qU s n b)] (.tup [wO (kT s n b), dI 0]) := by
 obtain ⟨hb0, hb1⟩ := hbk.le
 refine jO jB Tryz.func17 rfl Tryz.ntmps17 rfl rfl rfl fun w cl => ?_
 refine go ?_
 refine a_q (jA (may_c s n b hs hbk) rfl (fun a w => Tryz.call33 a w) rfl) rfl rfl rfl ?_
 refine go ?_
 refine a_q (jA (qL n 1 1000 hn) rfl (fun a w => Tryz.call34 a w) rfl) rfl rfl rfl ?_
 refine go ?_
 refine a_q (jA (refrings_c ⟨s, n, b, 1, 1, 0, 1, 0, 0, 0, 1, 2, 3, 4, 0, 0, 0, 0, 0, 0, 0, 0, 0, 0, 0⟩ rfl) rfl (fun a w => Tryz.call35 a w) rfl) rfl rfl rfl ?_
 refine go ?_
 rw [show IntKind.i64.wrap (3 * s) = 3 * s from yJ (by omega) (by omega)]
 refine go ?_
 refine jE 7 [] rfl rfl (by kernel_rfl) (by kernel_rfl) (by kernel_rfl) ?_
 refine goQ ?_
 refine r_q (jA (room_c) rfl (fun a w => Tryz.call36 a w) rfl) rfl rfl ?_
 refine goQ ?_
 rw [show IntKind.i64.wrap (s * 4) = s * 4 from yJ (by omega) (by omega)]
 refine go ?_
 have ww : ∀ a b : Int, a = b → 0 ≤ b ∧ b ≤ 100000 → IntKind.i64.wrap a = b := fun a b h h2 => by rw [h]; exact yJ (by omega) (by omega)
 rw [show 4 + s + s = 4 + 2 * s by omega, ww (4 + 2 * s + 3 * s) (4 + 5 * s) (by omega) (by omega), ww (4 + 5 * s + 3 * s) (4 + 8 * s) (by omega) (by omega), ww (4 + 8 * s + s * 4) (4 + 12 * s) (by omega) (by omega), ww (4 * 1) 4 (by omega) (by omega), ww (4 + 12 * s + 4) (8 + 12 * s) (by omega) (by omega), ww (8 + 12 * s + 0) (8 + 12 * s) (by omega) (by omega), ww (1 * (b + 2)) (b + 2) (by omega) (by omega), ww (8 + 12 * s + (b + 2)) (10 + 12 * s + b) (by omega) (by omega), ww (0 * (1 + 1)) 0 (by omega) (by omega), ww (10 + 12 * s + b + 0) (10 + 12 * s + b) (by omega) (by omega), ww (2 * 0) 0 (by omega) (by omega), ww (10 + 12 * s + b + 0) (10 + 12 * s + b) (by omega) (by omega), ww (8 * n) (8 * n) rfl (by omega), ww (10 + 12 * s + b + 8 * n) (10 + 12 * s + b + 8 * n) rfl (by omega)]
 first | refine jF rfl ?_ | refine jC rfl ?_
 rfl
theorem jP5 {α : Type} {f : α → List Pl} {k : Nat} (hf : ∀ x, (f x).length = k) : ∀ {l : List α} {i : Nat} {x : α}, l[i]? = some x → ∀ (m : Nat) q, (f x)[m]? = some q → (l.flatMap f)[i * k + m]? = some q
 | [], i, x, h => by simp at h
 | y :: l, 0, x, h => by
  intro m q hq
  simp at h
  subst h
  rw [List.flatMap_cons, Nat.zero_mul, Nat.zero_add, List.getElem?_append_left (List.getElem?_eq_some_iff.1 hq).1]
  exact hq
 | y :: l, i + 1, x, h => by
  intro m q hq
  have ih := jP5 hf (l := l) (i := i) (x := x) (by simpa using h) m q hq
  rw [List.flatMap_cons, List.getElem?_append_right (by rw [hf, Nat.add_mul]; omega), hf, show (i + 1) * k + m - k = i * k + m by rw [Nat.add_mul]; omega]
  exact ih
def pAcc (a : AccT) : List Pl := [pI a.kind, pI a.cell, pI a.old, pI a.new]
def vN (l : List AccT) : List Pl := l.flatMap pAcc
abbrev dAccs (l : List AccT) : Dt := .p (.sl false l.length (vN l))
theorem accs_idx {l : List AccT} {i : Int} {a : AccT} (h : l[i.toNat]? = some a) : ∀ (m : Nat) q, [pI a.kind, pI a.cell, pI a.old, pI a.new][m]? = some q → (vN l)[i.toNat * 4 + m]? = some q := jP5 (f := pAcc) (k := 4) (fun _ => rfl) h
theorem pLog_app (g : List jS) (x : jS) : xF (g ++ [x]) = xF g ++ [pI x.val, pB x.ok] := by simp [xF, pRes]
theorem refRight_s (c v : Int) (h : 0 ≤ c) : kA Tryz.prog 100 [.agg [dI 2, dI c, dI 0, dI v]] (dB true) := by
 refine jO jB Tryz.func100 rfl Tryz.ntmps100 rfl rfl rfl fun w cl => ?_
 refine go ?_
 rw [show decide (c < 0) = false by rw [decide_eq_false_iff_not]; omega]
 refine go ?_
 first | refine jF rfl ?_ | refine jC rfl ?_
 rfl
theorem refWith_c (xs : List Int) (c v : Int) (h0 : 0 ≤ c) (h1 : c < xs.length) (hn : xs.length ≤ 1000000) : kA Tryz.prog 101 [jM4 xs, dI c, dI v] (jM4 (xs.set c.toNat v)) := by
 refine jO jB Tryz.func101 rfl Tryz.ntmps101 rfl rfl rfl fun w cl => ?_
 refine go ?_
 refine a_appendN jB 9 rfl rfl rfl rfl rfl rfl rfl rfl rfl rfl rfl rfl rfl (by omega) (jG1 xs) (by unfold maxLen; omega) (by show _ * 8 ≤ _; omega) (fun cs' c' h2 h3 h4 h5 h6 => ?_)
 have hs := own_set h5 c.toNat v
 have hp : PlainC (cs'.set c.toNat (dI v)) := kD0 h6
 refine go ?_
 refine a_q (jJ (p := c.toNat) jB rfl rfl rfl rfl rfl (by omega) (by omega) (by show c.toNat = c.toNat * 1; omega)) rfl rfl rfl ?_
 refine vU jB rfl rfl rfl rfl rfl rfl rfl rfl rfl (by omega) ?_
 refine goO ?_
 refine vJ ?_
 refine kP (jO7 7 9 (kD (xs.set c.toNat v)) rfl rfl rfl rfl (by rw [List.length_set]; exact h2) h4 (by rw [jG1, List.length_set]) hs h3 (ints_lf _)) ?_
 refine go ?_
 first | refine jF rfl ?_ | refine jC rfl ?_
 simp only [jM4, kK, List.length_set]
theorem refDo_s (xs : List Int) (c v : Int) (h0 : 0 ≤ c) (h1 : c < xs.length) (hn : xs.length ≤ 1000000) : kA Tryz.prog 79 [jM4 xs, .agg [dI 2, dI c, dI 0, dI v]] (.tup [jM4 (xs.set c.toNat v), dRes ⟨zZ xs c, true⟩, dI 0]) := by
 have hx := jG8 h0 h1
 refine jO jB Tryz.func79 rfl Tryz.ntmps79 rfl rfl rfl fun w cl => ?_
 refine go ?_
 refine a_q (jA (refRight_s c v h0) rfl (fun a w => Tryz.call100 a w) rfl) rfl rfl rfl ?_
 refine go ?_
 rw [show decide (c ≥ xs.length) = false by rw [decide_eq_false_iff_not]; omega]
 refine go ?_
 refine a_q (jG jB [pI (zZ xs c)] rfl rfl rfl rfl rfl rfl (by first | omega | (simp; done) | (simp; omega)) (by first | omega | (simp; done) | (simp; omega)) (by first | (simp; done) | exact List.cons_ne_nil _ _) (qE hx)) rfl rfl rfl ?_
 refine go ?_
 rw [show decide ((2 : Int) = 1) = false from rfl]
 refine go ?_
 rw [show decide ((2 : Int) = 3) = false from rfl]
 refine go ?_
 rw [show decide ((2 : Int) = 4) = false from rfl]
 refine go ?_
 refine a_q (jA (refWith_c xs c v h0 h1 hn) rfl (fun a w => Tryz.call101 a w) rfl) rfl rfl rfl ?_
 refine go ?_
 first | refine jF rfl ?_ | refine jC rfl ?_
 rfl
theorem turn_s {xs : List Int} {a : AccT} (hk : a.kind = 2) : vL xs a = (xs.set a.cell.toNat a.new, ⟨zZ xs a.cell, true⟩) := by
 unfold vL
 rw [if_neg (by omega), if_pos (.inl hk)]
def StoresIn (n : Nat) (l : List AccT) : Prop := ∀ a ∈ l, a.kind = 2 ∧ a.old = 0 ∧ 0 ≤ a.cell ∧ a.cell < n
theorem fault_s {n : Nat} {a : AccT} (h : a.kind = 2 ∧ a.old = 0 ∧ 0 ≤ a.cell ∧ a.cell < n) : uO n a = 0 := by
 obtain ⟨h1, h2, h3, h4⟩ := h
 unfold uO jN7
 rw [if_pos (by rw [h1, h2]; simp [h3]), if_neg (by omega)]
theorem refAll_c (xs : List Int) (l : List AccT) (hs : StoresIn xs.length l) (hn : xs.length ≤ 1000000) (hl : l.length ≤ 100000) : kA Tryz.prog 50 [jM4 xs, dAccs l] (.tup [jM4 (allG xs xs [] l).1, dLog (allG xs xs [] l).2.1, dI (allG xs xs [] l).2.2]) := by
 generalize hE : allG xs xs [] l = E
 refine jO jB Tryz.func50 rfl Tryz.ntmps50 rfl rfl rfl fun w cl => ?_
 refine go ?_
 refine kP (xX 8 0 105 2 rfl rfl rfl) ?_
 refine jP (fun p : Nat × List Int × List jS => p.1 ≤ l.length ∧ p.2.1.length = xs.length ∧ p.2.2.length = p.1 ∧ allG xs p.2.1 p.2.2 (l.drop p.1) = E) (fun p => ⟨[(9, dI p.1), (8, .tip 0 p.2.2.length (xF p.2.2)), (7, .ptr 2 0), (4, .ptr 1 0), (2, .ptr 0 0), (1, dAccs l)], [(2, [kK p.2.1]), (1, [.p (.sl true 0 [])]), (0, [kK xs])], [(0, ⟨105, 2, p.2.2.length⟩)]⟩) (fun p => l.length - p.1) (0, xs, []) ⟨Nat.zero_le _, rfl, rfl, hE⟩ (zX) ?_
 rintro ⟨i, cur, told⟩ ⟨hi, hcl, htl, hE⟩
 simp only at hi hcl htl hE
 refine (show AWP _ _ _ _ ⟨[(9, dI i), (8, .tip 0 told.length (xF told)), (7, .ptr 2 0), (4, .ptr 1 0), (2, .ptr 0 0), (1, dAccs l)], [(2, [kK cur]), (1, [.p (.sl true 0 [])]), (0, [kK xs])], [(0, ⟨105, 2, told.length⟩)]⟩ from ?_)
 refine go ?_
 refine xQ (fun h1 => ?_) (fun h1 => ?_) <;> try rw [h1]
 ·have h1' := of_decide_eq_true h1
  have hil : i < l.length := by omega
  obtain ⟨a, ha⟩ := getI (l := l) (i := i) (by omega) h1'
  have hd : l.drop i = a :: l.drop (i + 1) := by
   rw [List.drop_eq_getElem_cons hil]
   simp only [Int.toNat_natCast] at ha
   rw [(List.getElem?_eq_some_iff.1 ha).2]
  have hsa := hs a (List.mem_of_getElem? ha)
  rw [hd, allG, hcl, if_pos (fault_s hsa), turn_s hsa.1] at hE
  obtain ⟨kd, ce, od, nw⟩ := a
  obtain ⟨h2, h3, h4, h5⟩ := hsa
  simp only at h2 h3 h4 h5 hE
  subst h2
  subst h3
  refine go ?_
  refine jE 14 [] rfl rfl (by kernel_rfl) (by kernel_rfl) (by kernel_rfl) ?_
  refine goQ ?_
  refine r_q (jG jB [pI 2, pI ce, pI 0, pI nw] rfl rfl rfl rfl rfl rfl (by first | omega | (simp; done) | (simp; omega)) (by first | omega | (simp; done) | (simp; omega)) (by first | (simp; done) | exact List.cons_ne_nil _ _) (accs_idx ha)) rfl rfl ?_
  refine goQ ?_
  refine r_q (jA (refDo_s cur ce nw h4 (by omega) (by omega)) rfl (fun a w => Tryz.call79 a w) rfl) rfl rfl ?_
  refine goQ ?_
  refine go ?_
  rw [show decide ((0 : Int) = 0) = true from rfl]
  refine go ?_
  refine qF (m := 1) (ps := xF told) (qs := [pI (zZ cur ce), pB true]) jB rfl rfl rfl rfl rfl rfl rfl rfl rfl rfl rfl rfl rfl (by unfold maxLen; omega) (by show (_ + _) * 16 ≤ _; omega) ?_
  rw [← pLog_app told ⟨zZ cur ce, true⟩, show told.length + 1 = (told ++ [(⟨zZ cur ce, true⟩ : jS)]).length by simp]
  refine go ?_
  exact ⟨(i + 1, cur.set ce.toNat nw, told ++ [⟨zZ cur ce, true⟩]), ⟨by simp only; omega, by simp only [List.length_set]; exact hcl, by simp only [List.length_append, List.length_cons, List.length_nil]; omega, hE⟩, by simp only; omega, zX⟩
 ·have h1' := of_decide_eq_false h1
  rw [List.drop_of_length_le (by omega), allG] at hE
  refine go ?_
  first | refine jF rfl ?_ | refine jC rfl ?_
  rw [← hE]
theorem jH7 (l : List AccT) (a : AccT) : vN l ++ [pI a.kind, pI a.cell, pI a.old, pI a.new] = vN (l ++ [a]) := by simp [vN, pAcc]
theorem jS3 (l : List AccT) : (vN l).length = l.length * 4 := by
 induction l with
 | nil => rfl
 | cons a l ih => unfold vN at ih ⊢; rw [List.flatMap_cons, List.length_append, ih]; simp [pAcc]; omega
theorem kB5 (l : jN) (a k : Nat) : (jH3 l a k).length = k := by simp [jH3]
theorem initN_take (l : jN) (a k i : Nat) (h : i < k) : (jH3 l a k).take (i + 1) = (jH3 l a k).take i ++ [⟨2, jQ l ((a : Int) + i) 7, 0, if (a : Int) + i = l.nodes then 0 else (a : Int) + i + 1⟩] := by
 rw [List.take_add_one]
 congr 1
 simp [jH3, h]
set_option maxHeartbeats 4000000 in
theorem refinit_f (l : jN) (hL : qJ l) (h1 : 3 ≤ l.nodes) : FreshC Tryz.prog 53 [wO l, dI 2] 64 4 (jF3 l 2).length (vN (jF3 l 2)) := by
 have e2 := hL.nodes
 obtain ⟨hn0, hn1⟩ := e2
 have hN : ((l.nodes.toNat + 1 - 2 : Nat) : Int) = l.nodes - 1 := by omega
 generalize hNN : l.nodes.toNat + 1 - 2 = N at hN
 refine kA4 (t := 4) Tryz.func53 rfl Tryz.ntmps53 rfl rfl rfl fun w cl => ?_
 refine go ?_
 rw [show decide ((2 : Int) < 1) = false from rfl]
 refine go ?_
 refine kP (xX 6 0 64 4 rfl rfl rfl) ?_
 refine jP (fun i : Nat => i + 1 ≤ N) (fun i => ⟨[(7, dI ((2 : Int) + i)), (6, .tip 0 i (vN ((jH3 l 2 N).take i))), (5, dI l.nodes), (1, dI 2), (2, .ptr 0 0)], [(0, xL l)], [(0, ⟨64, 4, i⟩)]⟩) (fun i => N - i) 0 (by omega) (zX) ?_
 intro i hi
 have key : ∀ nx : Int, nx = (if (2 : Int) + i = l.nodes then 0 else (2 : Int) + i + 1) → vN ((jH3 l 2 N).take i) ++ [pI 2, pI (jQ l ((2 : Int) + i) 7), pI 0, pI nx] = vN ((jH3 l 2 N).take (i + 1)) := by
  intro nx hnx
  rw [initN_take l 2 N i (by omega), ← jH7, hnx]
  rfl
 refine go ?_
 refine xQ (fun h2 => ?_) (fun h2 => ?_) <;> try rw [h2]
 ·have h2' := of_decide_eq_true h2
  refine go ?_
  refine a_q (jA (jC9 l hL ((2 : Int) + i) 7 (by omega)) rfl (fun a w => Tryz.call80 a w) rfl) rfl rfl rfl ?_
  refine go ?_
  refine qF jB rfl rfl rfl rfl rfl rfl rfl rfl rfl rfl rfl rfl rfl (by unfold maxLen; omega) (by show (_ + _) * 32 ≤ _; omega) ?_
  rw [key _ (by rw [if_neg (by omega)])]
  refine go ?_
  rw [show (2 : Int) + i + 1 = (2 : Int) + ((i + 1 : Nat) : Int) by omega]
  exact ⟨i + 1, by omega, by omega, zX⟩
 ·have h2' := of_decide_eq_false h2
  have hiN : i + 1 = N := by omega
  refine go ?_
  rw [show decide ((2 : Int) > l.nodes) = false by rw [decide_eq_false_iff_not]; omega]
  refine go ?_
  refine a_q (jA (jC9 l hL l.nodes 7 (by omega)) rfl (fun a w => Tryz.call80 a w) rfl) rfl rfl rfl ?_
  refine go ?_
  have key2 : vN ((jH3 l 2 N).take i) ++ [pI 2, pI (jQ l l.nodes 7), pI 0, pI 0] = vN (jH3 l 2 N) := by
   have := key 0 (by rw [if_pos (by omega)])
   rw [show (2 : Int) + i = l.nodes by omega, show (jH3 l 2 N).take (i + 1) = jH3 l 2 N from List.take_of_length_le (by rw [kB5]; omega)] at this
   exact this
  refine qF jB rfl rfl rfl rfl rfl rfl rfl rfl rfl rfl rfl rfl rfl (by unfold maxLen; omega) (by show (_ + _) * 32 ≤ _; omega) ?_
  rw [key2]
  refine go ?_
  refine qF jB rfl rfl rfl rfl rfl rfl rfl rfl rfl rfl rfl rfl rfl (by unfold maxLen; omega) (by show (_ + _) * 32 ≤ _; omega) ?_
  have hE : jF3 l 2 = jH3 l 2 N ++ [⟨2, l.free, 0, 2⟩] := by unfold jF3; rw [hNN]; rfl
  have hlen : (jF3 l 2).length = i + 1 + 1 := by rw [hE]; simp [kB5]; omega
  refine go ?_
  rw [hlen, hE, ← jH7]
  exact kH5 rfl rfl
theorem initF_len (l : jN) : (jF3 l 2).length = l.nodes.toNat + 1 - 2 + 1 := by
 unfold jF3; simp [kB5]
theorem splitInit_k {l : jN} {m n : Int} {a : AccT} (h : a ∈ kL l m n) : a.kind = 2 ∧ a.old = 0 := by
 simp only [kL, List.mem_cons, List.not_mem_nil, or_false] at h
 rcases h with rfl | rfl | rfl | rfl | rfl | rfl | rfl <;> exact ⟨rfl, rfl⟩
set_option maxHeartbeats 8000000 in
theorem refsplit_f (l : jN) (hL : qJ l) (hM : jG3 l) (hm : 1 ≤ l.maps) (hb : 1 ≤ l.buckets) : FreshC Tryz.prog 52 [wO l, dI 0, dI 1] 64 4 (kL l 0 1).length (vN (kL l 0 1)) := by
 have hlen : (kL l 0 1).length = 7 := rfl
 refine kA4 (t := 6) Tryz.func52 rfl Tryz.ntmps52 rfl rfl rfl fun w cl => ?_
 refine go ?_
 refine jY [] rfl (by kernel_rfl) (by kernel_rfl) ?_
 refine goQ ?_
 refine r_q (jA (jC9 l hL 1 0 (by omega)) rfl (fun a w => Tryz.call80 a w) rfl) rfl rfl ?_
 refine goQ ?_
 refine r_q (jA (jC9 l hL 1 1 (by omega)) rfl (fun a w => Tryz.call80 a w) rfl) rfl rfl ?_
 refine goQ ?_
 refine r_q (jA (jC9 l hL 1 2 (by omega)) rfl (fun a w => Tryz.call80 a w) rfl) rfl rfl ?_
 refine goQ ?_
 refine r_q (jA (jC9 l hL 1 6 (by omega)) rfl (fun a w => Tryz.call80 a w) rfl) rfl rfl ?_
 refine goQ ?_
 refine r_q (jA (refmap_c l hL hM 0 0 (by omega)) rfl (fun a w => Tryz.call81 a w) rfl) rfl rfl ?_
 refine goQ ?_
 refine r_q (jA (refmap_c l hL hM 0 1 (by omega)) rfl (fun a w => Tryz.call81 a w) rfl) rfl rfl ?_
 refine goQ ?_
 refine r_q (jA (refbucket_c l hL hM 0 0 (by omega) (by omega)) rfl (fun a w => Tryz.call82 a w) rfl) rfl rfl ?_
 refine goQ ?_
 refine go ?_
 refine a_q (jA (refpack_c 1 (by omega)) rfl (fun a w => Tryz.call83 a w) rfl) rfl rfl rfl ?_
 refine go ?_
 refine kP (xX 9 0 64 4 rfl rfl rfl) ?_
 refine jP (fun i : Nat => i ≤ 7) (fun i => ⟨[(10, dI i), (9, .tip 0 i (vN ((kL l 0 1).take i))), (8, .p (.sl true 7 (kD ((kL l 0 1).map AccT.new)))), (7, .p (.sl true 7 (kD ((kL l 0 1).map AccT.cell))))], [], [(0, ⟨64, 4, i⟩)]⟩) (fun i => 7 - i) 0 (by omega) (zX) ?_
 intro i hi
 refine (show AWP _ _ _ _ ⟨[(10, dI i), (9, .tip 0 i (vN ((kL l 0 1).take i))), (8, .p (.sl true 7 (kD ((kL l 0 1).map AccT.new)))), (7, .p (.sl true 7 (kD ((kL l 0 1).map AccT.cell))))], [], [(0, ⟨64, 4, i⟩)]⟩ from ?_)
 by_cases h1 : i = 7
 ·subst h1
  rw [show (kL l 0 1).take 7 = kL l 0 1 from rfl]
  refine go ?_
  rw [show decide (((7 : Nat) : Int) < 7) = false from rfl]
  refine go ?_
  exact kH5 rfl rfl
 ·obtain ⟨a, ha⟩ : ∃ a, (kL l 0 1)[i]? = some a := ⟨(kL l 0 1)[i]'(by omega), List.getElem?_eq_getElem _⟩
  have hk := splitInit_k (List.mem_of_getElem? ha)
  have hc : ((kL l 0 1).map AccT.cell)[(i : Int).toNat]? = some a.cell := by simp [ha]
  have hv : ((kL l 0 1).map AccT.new)[(i : Int).toNat]? = some a.new := by simp [ha]
  have key : vN ((kL l 0 1).take i) ++ [pI 2, pI a.cell, pI 0, pI a.new] = vN ((kL l 0 1).take (i + 1)) := by
   rw [List.take_add_one, ha, Option.toList_some, ← jH7, hk.1, hk.2]
  generalize (kL l 0 1).map AccT.cell = cs at *
  generalize (kL l 0 1).map AccT.new = vs at *
  refine go ?_
  rw [show decide ((i : Int) < 7) = true by rw [decide_eq_true_eq]; omega]
  refine go ?_
  refine jY [] rfl (by kernel_rfl) (by kernel_rfl) ?_
  refine goQ ?_
  refine r_q (jG jB [pI a.cell] rfl rfl rfl rfl rfl rfl (by first | omega | (simp; done) | (simp; omega)) (by first | omega | (simp; done) | (simp; omega)) (by first | (simp; done) | exact List.cons_ne_nil _ _) (qE hc)) rfl rfl ?_
  refine goQ ?_
  refine r_q (jG jB [pI a.new] rfl rfl rfl rfl rfl rfl (by first | omega | (simp; done) | (simp; omega)) (by first | omega | (simp; done) | (simp; omega)) (by first | (simp; done) | exact List.cons_ne_nil _ _) (qE hv)) rfl rfl ?_
  refine goQ ?_
  refine jL4 (m := 1) jB rfl rfl rfl rfl rfl rfl rfl rfl rfl rfl rfl rfl rfl (by unfold maxLen; omega) (by show (_ + _) * 32 ≤ _; omega) ?_
  rw [key]
  refine goQ ?_
  refine go ?_
  exact ⟨i + 1, by omega, by omega, zX⟩
theorem hbeginA_len (l : jN) : (jB0 l).length = 7 + (l.nodes.toNat + 1 - 2 + 1) + 1 := by
 unfold jB0; rw [List.length_append, List.length_append, initF_len l]; rfl
theorem kF3 {s n b : Int} (hs : 1 ≤ s ∧ s ≤ 8) (hb : 1 ≤ b ∧ b ≤ 8) (hn : 0 ≤ n ∧ n ≤ 1000) : qJ (kT s n b) := by
 refine ⟨?_, ?_, ?_, ?_, ?_, ?_, ?_, ?_, ?_, ?_, ?_, ?_, ?_⟩ <;> simp only [kT, uP] <;> omega
theorem layH_m {s n b : Int} (hb : 1 ≤ b ∧ b ≤ 8) : jG3 (kT s n b) := by
 refine ⟨?_, ?_, ?_⟩ <;> simp only [kT, uP] <;> omega
theorem hbeginA_in {s n b : Int} (hs : 1 ≤ s ∧ s ≤ 8) (hb : 1 ≤ b ∧ b ≤ 8) (hn : 3 ≤ n ∧ n ≤ 1000) : StoresIn (kT s n b).size.toNat (jB0 (kT s n b)) := by
 have hsz : (((kT s n b).size.toNat : Nat) : Int) = 10 + 12 * s + b + 8 * n := by simp only [kT]; omega
 intro a ha
 rw [hsz]
 unfold jB0 jF3 jH3 at ha
 have hnd : ∀ i : Int, 0 ≤ i ∧ i ≤ 7 → jQ (kT s n b) 1 i = 10 + 12 * s + b + i := fun i hi => by
  unfold jQ yD
  rw [if_neg (by omega), if_neg (by show ¬ (_ ∨ n ≤ _ ∨ _ ∨ _); omega)]
  show 10 + 12 * s + b + _ * 8 + i = _
  omega
 have hmp : ∀ i : Int, 0 ≤ i ∧ i ≤ 1 → xB (kT s n b) 0 i = 8 + 12 * s + i := fun i hi => by
  unfold xB yD
  rw [if_neg (by omega), if_neg (by show ¬ (_ ∨ (1 : Int) ≤ _ ∨ _ ∨ 2 + b ≤ _); omega)]
  show 8 + 12 * s + 0 * (2 + b) + i = _
  omega
 have hbk : qR (kT s n b) 0 0 = 8 + 12 * s + 2 := by
  unfold qR yD
  rw [if_neg (by show ¬ (_ ∨ b ≤ _); omega), if_neg (by show ¬ (_ ∨ (1 : Int) ≤ _ ∨ _ ∨ 2 + b ≤ _); omega)]
  show 8 + 12 * s + 0 * (2 + b) + (2 + 0) = _
  omega
 simp only [kL, hnd 0 (by omega), hnd 1 (by omega), hnd 2 (by omega), hnd 6 (by omega), hmp 0 (by omega), hmp 1 (by omega), hbk, List.mem_append, List.mem_map, List.mem_range, List.mem_cons, List.not_mem_nil, or_false] at ha
 rcases ha with ((rfl | rfl | rfl | rfl | rfl | rfl | rfl) | ⟨i, hi, rfl⟩ | rfl) | rfl
 iterate 7 (refine ⟨rfl, rfl, ?_⟩; simp only; omega)
 ·refine ⟨rfl, rfl, ?_⟩
  have hi' : (i : Int) < n - 1 := by simp only [kT] at hi; omega
  have hnf : jQ (kT s n b) (((2 : Nat) : Int) + i) 7 = 10 + 12 * s + b + 8 * (i + 1) + 7 := by
   unfold jQ yD
   rw [if_neg (by omega), if_neg (by show ¬ (_ ∨ n ≤ _ ∨ _ ∨ _); omega)]
   show 10 + 12 * s + b + _ * 8 + 7 = _
   omega
  simp only [hnf]
  omega
 ·refine ⟨rfl, rfl, ?_⟩
  simp only [kT]; omega
 ·refine ⟨rfl, rfl, ?_⟩
  simp only [kT]; omega
theorem allG_len (xs0 : List Int) : ∀ (l : List AccT) (cur : List Int) (told : List jS), xs0.length = cur.length → (allG xs0 cur told l).1.length = cur.length
 | [], cur, told, h => rfl
 | a :: l, cur, told, h => by
  rw [allG]
  split
  ·rw [allG_len xs0 l _ _ (by rw [jM0]; exact h), jM0]
  ·exact h
theorem hbeginF_len (l : jN) : (wV l).length = l.size.toNat := by
 unfold wV
 rw [allG_len _ _ _ _ rfl]; simp
def pOp (o : OpT) : List Pl := [pI o.kind, pI o.obj, pI o.a, pI o.b]
def pOps (l : List OpT) : List Pl := l.flatMap pOp
abbrev jS8 (l : List OpT) : Pl := .sl false l.length (pOps l)
abbrev dOps (l : List OpT) : Dt := .p (jS8 l)
abbrev dWant (w : List (List OpT)) : Dt := .p (.sl false w.length (w.map jS8))
abbrev p8 (n : Int) : Pl := .raw (.int .u8 n)
abbrev dTurns (t : List Int) : Dt := .p (.sl false t.length (t.map p8))
set_option maxHeartbeats 4000000 in
theorem reflist_c (l : jN) (hL : qJ l) (m : List Int) : kA Tryz.prog 85 [wO l, jM4 m] (kK (jX4 l m)) := by
 generalize hE : jX4 l m = E
 unfold jX4 at hE
 obtain ⟨hn0, hn1⟩ := hL.nodes
 refine jO jB Tryz.func85 rfl Tryz.ntmps85 rfl rfl rfl fun w cl => ?_
 refine go ?_
 refine a_q (jA (cell_c m l.free) rfl (fun a w => Tryz.call105 a w) rfl) rfl rfl rfl ?_
 refine go ?_
 refine a_q (jA (refof_c (atF m l.free)) rfl (fun a w => Tryz.call104 a w) rfl) rfl rfl rfl ?_
 refine go ?_
 generalize (ofW (atF m l.free)).idx = n0 at hE
 refine kP (xX 5 0 3 1 rfl rfl rfl) ?_
 refine jP (fun p : Nat × List Int × Int => p.1 + p.2.1.length = l.nodes.toNat + 1 ∧ xJ (fun n => atF m (jQ l n 7)) l.nodes p.1 p.2.1 p.2.2 = E) (fun p => ⟨[(7, dI p.2.2), (5, .tip 0 p.2.1.length (kD p.2.1)), (2, .ptr 0 0), (3, .ptr 1 0)], [(1, [kK m]), (0, xL l)], [(0, ⟨3, 1, p.2.1.length⟩)]⟩) (fun p => p.1) (l.nodes.toNat + 1, [], n0) ⟨by simp, hE⟩ (zX) ?_
 rintro ⟨k, acc, n⟩ ⟨hk, hE⟩
 simp only at hk hE
 refine (show AWP _ _ _ _ ⟨[(7, dI n), (5, .tip 0 acc.length (kD acc)), (2, .ptr 0 0), (3, .ptr 1 0)], [(1, [kK m]), (0, xL l)], [(0, ⟨3, 1, acc.length⟩)]⟩ from ?_)
 refine go ?_
 refine xQ (fun h2 => ?_) (fun h2 => ?_) <;> try rw [h2]
 ·have h2' := of_decide_eq_true h2
  obtain ⟨k, rfl⟩ : ∃ j, k = j + 1 := ⟨k - 1, by omega⟩
  rw [xJ] at hE
  refine go ?_
  refine a_q (jA (in_c acc n (by omega)) rfl (fun a w => Tryz.call84 a w) rfl) rfl rfl rfl ?_
  refine go ?_
  generalize h3 : decide (n < 1) = cc; cases cc
  ·have h3' := of_decide_eq_false h3
   refine go ?_
   generalize h4 : decide (n > l.nodes) = cc; cases cc
   ·have h4' := of_decide_eq_false h4
    refine go ?_
    generalize h5 : decide (n ∈ acc) = cc; cases cc
    ·rw [if_pos ⟨by omega, by omega, of_decide_eq_false h5⟩] at hE
     refine go ?_
     refine qF jB rfl rfl rfl rfl rfl rfl rfl rfl rfl rfl rfl rfl rfl (by unfold maxLen; omega) (by show (_ + _) * 8 ≤ _; omega) ?_
     rw [jC4, show acc.length + 1 = (acc ++ [n]).length by simp]
     refine go ?_
     refine jY [] rfl (by kernel_rfl) (by kernel_rfl) ?_
     refine goQ ?_
     refine r_q (jA (jC9 l hL n 7 (by omega)) rfl (fun a w => Tryz.call80 a w) rfl) rfl rfl ?_
     refine goQ ?_
     refine r_q (jA (cell_c m (jQ l n 7)) rfl (fun a w => Tryz.call105 a w) rfl) rfl rfl ?_
     refine goQ ?_
     refine go ?_
     exact ⟨(k, acc ++ [n], atF m (jQ l n 7)), ⟨by simp; omega, hE⟩, by simp only; omega, zX⟩
    ·rw [if_neg (fun hh => hh.2.2 (of_decide_eq_true h5))] at hE
     refine go ?_
     first | refine jF rfl ?_ | refine jC rfl ?_
     rw [← hE]
   ·have h4' := of_decide_eq_true h4
    rw [if_neg (fun hh => by omega)] at hE
    refine go ?_
    first | refine jF rfl ?_ | refine jC rfl ?_
    rw [← hE]
  ·have h3' := of_decide_eq_true h3
   rw [if_neg (fun hh => by omega)] at hE
   refine go ?_
   first | refine jF rfl ?_ | refine jC rfl ?_
   rw [← hE]
 ·have h2' := of_decide_eq_false h2
  obtain rfl : k = 0 := by omega
  rw [xJ] at hE
  refine go ?_
  first | refine jF rfl ?_ | refine jC rfl ?_
  rw [← hE]
abbrev jB1 (want : List (List OpT)) (turns : List Int) : List Dt := [dWant want, dTurns turns]
abbrev dPlay (want : List (List OpT)) (turns : List Int) : Dt := .agg (jB1 want turns)
theorem jJ1 {α : Type} {f : α → Pl} {l : List α} {i : Int} {x : α} (h : l[i.toNat]? = some x) : ∀ (m : Nat) q, [f x][m]? = some q → (l.map f)[i.toNat * 1 + m]? = some q := by
 intro m q hq
 cases m with
 | zero =>
  simp at hq; subst hq
  rw [Nat.mul_one, Nat.add_zero, List.getElem?_map, h]; rfl
 | succ m => simp at hq
theorem ops_idx {l : List OpT} {i : Int} {o : OpT} (h : l[i.toNat]? = some o) : ∀ (m : Nat) q, [pI o.kind, pI o.obj, pI o.a, pI o.b][m]? = some q → (pOps l)[i.toNat * 4 + m]? = some q := jP5 (f := pOp) (k := 4) (fun _ => rfl) h
theorem uS {α : Type} {f : α → Bool} {l : List α} {i : Nat} {x : α} (h : l[i]? = some x) (hf : f x = false) : l.all f = false := by
 rw [List.all_eq_false]
 exact ⟨x, List.mem_of_getElem? h, by simp [hf]⟩
theorem all_take {α : Type} {f : α → Bool} {l : List α} {i : Nat} {x : α} (h : l[i]? = some x) (hf : f x = true) (ht : (l.take i).all f = true) : (l.take (i + 1)).all f = true := by
 rw [List.take_add_one, h, List.all_append, ht]
 simp [hf]
theorem sum_take {l : List Nat} {i : Nat} {x : Nat} (h : l[i]? = some x) : (l.take (i + 1)).sum = (l.take i).sum + x := by
 rw [List.take_add_one, h]; simp
theorem sum_take_le (l : List Nat) (i : Nat) : (l.take i).sum ≤ l.sum := by
 rw [← List.take_append_drop i l, List.sum_append, List.take_append_drop]; omega
def bkF (k : Int) : Int := if k % 4 = 0 then 1 else if k % 4 = 1 then 2 else if k % 4 = 2 then 4 else 8
theorem bkF_is (k : Int) : IsBk (bkF k) := by
 unfold bkF IsBk
 split
 ·exact .inl rfl
 ·split
  ·exact .inr (.inl rfl)
  ·split
   ·exact .inr (.inr (.inl rfl))
   ·exact .inr (.inr (.inr rfl))
theorem bk_idx (k : Int) : ∀ (m : Nat) q, [pI (bkF k)][m]? = some q → [pI 1, pI 2, pI 4, pI 8][(k % 4).toNat * 1 + m]? = some q := by
 intro m q hq
 have h0 := Int.emod_nonneg k (show (4 : Int) ≠ 0 by omega)
 have h1 := Int.emod_lt_of_pos k (show (0 : Int) < 4 by omega)
 unfold bkF at hq
 cases m with
 | zero =>
  rcases (show k % 4 = 0 ∨ k % 4 = 1 ∨ k % 4 = 2 ∨ k % 4 = 3 by omega) with h | h | h | h <;> rw [h] at hq ⊢ <;> exact hq
 | succ m => simp at hq
theorem where_c (s k : Int) (hs : 1 ≤ s ∧ s ≤ 3) (hk : 0 ≤ k ∧ k ≤ 255) : kA Tryz.prog 11 [dI s, dK .u8 k] (wO (kT s (16 + bkF k) (bkF k))) := by
 have hb := (bkF_is k).le
 refine jO jB Tryz.func11 rfl Tryz.ntmps11 rfl rfl rfl fun w cl => ?_
 refine goK ?_
 refine a_q (jG jB [pI (bkF k)] rfl rfl rfl rfl rfl rfl (by first | omega | (simp; done) | (simp; omega)) (by first | omega | (simp; done) | (simp; omega)) (by first | (simp; done) | exact List.cons_ne_nil _ _) (bk_idx k)) rfl rfl rfl ?_
 refine go ?_
 refine a_q (jA (refof_lay s (16 + bkF k) (bkF k) (by omega) (bkF_is k) (by omega)) rfl (fun a w => Tryz.call17 a w) rfl) rfl rfl rfl ?_
 refine go ?_
 first | refine jF rfl ?_ | refine jC rfl ?_
 rfl
end Go.Proofs.YtkkldicehapklaaGreat
