/- Words by bits, buckets' parents: their walks. -/
import Derived.Test.YtkkldicehapklaaGreatDA
import Derived.Test.YtkkldicehapklaaGreatPB
namespace Go.Proofs.YtkkldicehapklaaGreat
open Go.RowKit
set_option maxRecDepth 100000
section
variable {P : Program} {T : Nat → Option TI} {S : Nat → Option Dt} {B : Nat → Option (List Dt)} {o : Oper}
theorem shrV_step {ty u : TypeId} {x y : Operand} {a i : Int} (n : Nat) (ho : o.op = .binOp .shr ty x y u) (hx : ev S x = some (dI a)) (hy : ev S y = some (dI i)) (hi : i = n) (hn : n ≤ 63) : QStep P o S B (dI (a / 2 ^ n)) none := by
 subst hi
 refine kZ fun ac e hs => ?_
 have hx1 := kF (hs.1 x (by rw [ho]; simp [Op.operands]) _ hx)
 have hy1 := kF (hs.1 y (by rw [ho]; simp [Op.operands]) _ hy)
 refine ⟨_, ?_, .p (.raw _)⟩
 obtain ⟨dst, op, type, pos, after, guard⟩ := o
 simp only at ho
 subst ho
 have h2 : min n 64 = n := by omega
 have hb : (binOp .shr ty (.int .i64 a) (.int .i64 (n : Int))).run P e.w = .ok (.int .i64 (a / 2 ^ n)) e.w := by
  show (Op.shift .shr .i64 a .i64 (n : Int)).run P e.w = _
  rw [shift_shr_any _ _ _ _ (Int.natCast_nonneg n)]
  show Result.ok (Value.int .i64 (a / 2 ^ min ((n : Int).toNat) 64)) e.w = _
  rw [Int.toNat_natCast, h2]
 simp [execOp, hx1, hy1, eqGuard, hb]
theorem shrU_step {ty u : TypeId} {x y : Operand} {m : Nat} (n : Nat) (ho : o.op = .binOp .shr ty x y u) (hx : ev S x = some (dU m)) (hy : ev S y = some (.p (.raw (.int .u64 (n : Int))))) (hn : n ≤ 63) : QStep P o S B (dU (m >>> n)) none := by
 refine kZ fun ac e hs => ?_
 have hx1 := kF (hs.1 x (by rw [ho]; simp [Op.operands]) _ hx)
 have hy1 := kF (hs.1 y (by rw [ho]; simp [Op.operands]) _ hy)
 refine ⟨_, ?_, .p (.raw _)⟩
 obtain ⟨dst, op, type, pos, after, guard⟩ := o
 simp only at ho
 subst ho
 have h2 : min n 64 = n := by omega
 have hb : (binOp .shr ty (.int .u64 (m : Int)) (.int .u64 (n : Int))).run P e.w = .ok (.int .u64 ((m >>> n : Nat) : Int)) e.w := by
  show (Op.shift .shr .u64 (m : Int) .u64 (n : Int)).run P e.w = _
  rw [shift_shr_any _ _ _ _ (Int.natCast_nonneg n)]
  show Result.ok (Value.int .u64 ((m : Int) / 2 ^ min ((n : Int).toNat) 64)) e.w = _
  have hp : (2 : Int) ^ n = ((2 ^ n : Nat) : Int) := by norm_cast
  rw [Int.toNat_natCast, h2, hp, Nat.shiftRight_eq_div_pow]
  congr 2
 simp [execOp, hx1, hy1, eqGuard, hb]
theorem andNot_low {m n : Nat} (hn : n ≤ 61) (h1 : 2 ^ n ≤ m) (h2 : m < 2 ^ (n + 1)) : IntKind.i64.wrap (((BitVec.ofInt 64 (m : Int) &&& ~~~BitVec.ofInt 64 (2 ^ n : Int)).toNat : Nat) : Int) = (m : Int) - 2 ^ n := by
 have hp : (2 : Int) ^ n = ((2 ^ n : Nat) : Int) := by norm_cast
 have h62 : (2 : Nat) ^ (n + 1) ≤ 2 ^ 62 := Nat.pow_le_pow_right (by omega) (by omega)
 obtain ⟨r, rfl⟩ : ∃ r, m = 2 ^ n + r := ⟨m - 2 ^ n, by omega⟩
 have hr : r < 2 ^ n := by rw [Nat.pow_succ] at h2; omega
 have h3 : (BitVec.ofInt 64 ((2 ^ n + r : Nat) : Int) &&& ~~~BitVec.ofInt 64 (2 ^ n : Int)).toNat = r := by
  rw [hp]
  have : (BitVec.ofInt 64 ((2 ^ n + r : Nat) : Int) &&& ~~~BitVec.ofInt 64 ((2 ^ n : Nat) : Int)).toNat = clr (2 ^ n + r) n := by
   simp only [BitVec.ofInt_natCast, clr]
  rw [this]
  refine Nat.eq_of_testBit_eq fun j => ?_
  rw [clr_bit _ _ _ (by omega)]
  have h4 : 2 ^ n + r = 2 ^ n * 1 + r := by omega
  rw [h4, Nat.testBit_two_pow_mul_add _ hr]
  by_cases hj : j < n
  ·rw [if_pos hj]
   have : ¬ n = j := by omega
   simp [this]
  ·rw [if_neg hj]
   have hrj : r.testBit j = false := Nat.testBit_lt_two_pow (Nat.lt_of_lt_of_le hr (Nat.pow_le_pow_right (by omega) (by omega)))
   rw [hrj]
   by_cases hjn : n = j
   ·simp [hjn]
   ·have : (1 : Nat).testBit (j - n) = false := Nat.testBit_lt_two_pow (Nat.one_lt_two_pow (by omega))
    simp [this]
 rw [h3, hp, wrapI (Int.natCast_nonneg r) (by omega)]
 omega
theorem andNotI_step {ty u : TypeId} {x y : Operand} {a c : Int} (n : Nat) (ho : o.op = .binOp .andNot ty x y u) (hx : ev S x = some (dI a)) (hy : ev S y = some (dI c)) (hc : c = 2 ^ n) (hn : n ≤ 61) (h1 : (2 ^ n : Nat) ≤ a) (h2 : a < (2 ^ (n + 1) : Nat)) : QStep P o S B (dI (a - 2 ^ n)) none := by
 subst hc
 obtain ⟨m, rfl⟩ := Int.eq_ofNat_of_zero_le (show 0 ≤ a by omega)
 refine kZ fun ac e hs => ?_
 have hx1 := kF (hs.1 x (by rw [ho]; simp [Op.operands]) _ hx)
 have hy1 := kF (hs.1 y (by rw [ho]; simp [Op.operands]) _ hy)
 refine ⟨_, ?_, .p (.raw _)⟩
 obtain ⟨dst, op, type, pos, after, guard⟩ := o
 simp only at ho
 subst ho
 have hb : (binOp .andNot ty (.int .i64 (m : Int)) (.int .i64 (2 ^ n : Int))).run P e.w = .ok (.int .i64 ((m : Int) - 2 ^ n)) e.w := by
  rw [← andNot_low hn (by omega) (by omega)]; rfl
 simp [execOp, hx1, hy1, eqGuard, hb]
theorem kE4 {ty : TypeId} {x y : Operand} {k : IntKind} {i : Nat} {s : ByteArray} {c : UInt8} (ho : o.op = .index ty x y) (ht : P.underlying ty = some .string) (hx : ev S x = some (.p (.raw (.string s)))) (hy : ev S y = some (.p (.raw (.int k (i : Int))))) (hi : s[i]? = some c) : QStep P o S B (.p (.raw (.int .u8 (c.toNat : Int)))) none := by
 refine kZ fun ac e hs => ?_
 have hx1 := kF (hs.1 x (by rw [ho]; simp [Op.operands]) _ hx)
 have hy1 := kF (hs.1 y (by rw [ho]; simp [Op.operands]) _ hy)
 refine ⟨_, ?_, .p (.raw _)⟩
 obtain ⟨dst, op, type, pos, after, guard⟩ := o
 simp only at ho
 subst ho
 simp [execOp, Instr.index, asIntOf, hx1, hy1, run_underlying ht, hi]
theorem kD3 {ty u : TypeId} {x y : Operand} {m n : Nat} (ho : o.op = .binOp .geq ty x y u) (hx : ev S x = some (dU m)) (hy : ev S y = some (dU n)) : QStep P o S B (dB (decide (n ≤ m))) none := by
 refine kZ fun ac e hs => ?_
 have hx1 := kF (hs.1 x (by rw [ho]; simp [Op.operands]) _ hx)
 have hy1 := kF (hs.1 y (by rw [ho]; simp [Op.operands]) _ hy)
 refine ⟨_, ?_, .p (.raw _)⟩
 obtain ⟨dst, op, type, pos, after, guard⟩ := o
 simp only at ho
 subst ho
 have hb : (binOp .geq ty (.int .u64 (m : Int)) (.int .u64 (n : Int))).run P e.w = .ok (.bool (decide ((n : Int) ≤ m))) e.w := rfl
 have hd : decide ((n : Int) ≤ m) = decide (n ≤ m) := by rw [decide_eq_decide]; omega
 rw [hd] at hb
 simp [execOp, hx1, hy1, eqGuard, hb]
theorem tab_ok (s : ByteArray) (f : Nat → Nat) (h : (List.range 256).all (fun i => decide (s[i]? = some (UInt8.ofNat (f i)))) = true) {m : Nat} (hm : m < 256) : s[m]? = some (UInt8.ofNat (f m)) := by
 have := List.all_eq_true.1 h m (List.mem_range.2 hm)
 simpa using this
end
def lenF (n : Nat) : Nat := if n = 0 then 0 else Nat.log2 n + 1
theorem log2_div {n k : Nat} (h : 2 ^ k ≤ n) : Nat.log2 (n / 2 ^ k) = Nat.log2 n - k := by
 have hk : 0 < 2 ^ k := Nat.two_pow_pos k
 have hq : n / 2 ^ k ≠ 0 := by
  have := Nat.div_pos h hk
  omega
 have hn : n ≠ 0 := by omega
 have h1 : k ≤ Nat.log2 n := (Nat.le_log2 hn).2 h
 have h2 := Nat.log2_self_le hn
 have h3 : n < 2 ^ (Nat.log2 n + 1) := (Nat.log2_lt hn).1 (Nat.lt_succ_self _)
 have h4 : 2 ^ (Nat.log2 n - k) ≤ n / 2 ^ k := (Nat.le_div_iff_mul_le hk).2 (by rw [← Nat.pow_add]; rwa [Nat.sub_add_cancel h1])
 have h5 : n / 2 ^ k < 2 ^ (Nat.log2 n - k + 1) := (Nat.div_lt_iff_lt_mul hk).2 (by rw [← Nat.pow_add]; rwa [show Nat.log2 n - k + 1 + k = Nat.log2 n + 1 by omega])
 have h6 := (Nat.le_log2 hq).2 h4
 have h7 := (Nat.log2_lt hq).2 h5
 omega
theorem len_div {n k : Nat} (h : 2 ^ k ≤ n) : lenF n = k + lenF (n / 2 ^ k) := by
 have hk : 0 < 2 ^ k := Nat.two_pow_pos k
 have hq := Nat.div_pos h hk
 have h1 : k ≤ Nat.log2 n := (Nat.le_log2 (by omega)).2 h
 unfold lenF
 rw [if_neg (by omega), if_neg (by omega), log2_div h]
 omega
theorem wrap8 {m : Nat} (hm : m < 256) : IntKind.u8.wrap (m : Int) = (m : Int) := by
 simp only [IntKind.wrap, IntKind.signed, IntKind.bits]
 simp
 omega
theorem len_small {m : Nat} (hm : m < 256) : lenF m ≤ 8 := by
 unfold lenF
 split
 ·omega
 ·have := (Nat.log2_lt (n := m) (k := 8) (by omega)).2 (by omega)
  omega
theorem tail_len (m a : Nat) (hm : m < 256) (ha : a ≤ 16) : ((UInt8.ofNat (lenF m)).toNat : Int) = lenF m ∧ (a : Int) + lenF m ≤ 100 := by
 have := len_small hm
 refine ⟨?_, by omega⟩
 rw [UInt8.toNat_ofNat']
 omega
set_option maxHeartbeats 4000000 in
theorem len64_c (n : Nat) (hn : n < 65536) : kA Tryz.prog 49 [dU n] (dI (lenF n)) := by
 refine jO jB Tryz.func49 rfl Tryz.ntmps49 rfl rfl rfl fun w cl => ?_
 refine go ?_
 refine a_q (kD3 rfl rfl rfl) rfl rfl rfl ?_
 rw [show decide (4294967296 ≤ n) = false by rw [decide_eq_false_iff_not]; omega]
 refine go ?_
 refine a_q (kD3 rfl rfl rfl) rfl rfl rfl ?_
 rw [show decide (65536 ≤ n) = false by rw [decide_eq_false_iff_not]; omega]
 refine go ?_
 refine a_q (kD3 rfl rfl rfl) rfl rfl rfl ?_
 generalize h1 : decide (256 ≤ n) = cc; cases cc
 ·have h1' := of_decide_eq_false h1
  obtain ⟨h2, h3⟩ := tail_len n 0 (by omega) (by omega)
  refine go ?_
  repeat refine a_ax jB rfl rfl rfl rfl ?_
  rw [show IntKind.u8.wrap ((n : Nat) : Int) = ((n : Nat) : Int) from wrap8 (by omega)]
  refine a_q (kE4 rfl Tryz.underlying9 rfl rfl (tab_ok _ lenF (by kernel_rfl) (by omega))) rfl rfl rfl ?_
  refine a_q (kC7 jB rfl rfl rfl rfl (by omega) (by omega)) rfl rfl rfl ?_
  rw [h2]
  refine go ?_
  refine go ?_
  first | refine jF rfl ?_ | refine jC rfl ?_
  rw [Int.zero_add]
 ·have h1' := of_decide_eq_true h1
  have h4 : n / 256 < 256 := by omega
  obtain ⟨h2, h3⟩ := tail_len (n / 256) 8 h4 (by omega)
  have h5 := len_div (n := n) (k := 8) (by omega)
  refine go ?_
  refine a_q (shrU_step 8 rfl rfl rfl (by omega)) rfl rfl rfl ?_
  rw [show n >>> 8 = n / 256 from Nat.shiftRight_eq_div_pow n 8]
  refine go ?_
  repeat refine a_ax jB rfl rfl rfl rfl ?_
  rw [show IntKind.u8.wrap ((n / 256 : Nat) : Int) = ((n / 256 : Nat) : Int) from wrap8 (by omega)]
  refine a_q (kE4 rfl Tryz.underlying9 rfl rfl (tab_ok _ lenF (by kernel_rfl) h4)) rfl rfl rfl ?_
  refine a_q (kC7 jB rfl rfl rfl rfl (by omega) (by omega)) rfl rfl rfl ?_
  rw [h2]
  refine go ?_
  refine go ?_
  first | refine jF rfl ?_ | refine jC rfl ?_
  rw [h5]; rfl
theorem len_c (n : Nat) (hn : n < 65536) : kA Tryz.prog 20 [dU n] (dI (lenF n)) := by
 refine jO jB Tryz.func20 rfl Tryz.ntmps20 rfl rfl rfl fun w cl => ?_
 refine go ?_
 refine a_q (jA (len64_c n hn) rfl (fun a w => Tryz.call49 a w) rfl) rfl rfl rfl ?_
 refine go ?_
 first | refine jF rfl ?_ | refine jC rfl ?_
 rfl
theorem wrapUp {b : Int} (h0 : 0 ≤ b) (h1 : b < 65536) : IntKind.u64.wrap b = ((b.toNat : Nat) : Int) := by
 obtain ⟨n, rfl⟩ := Int.eq_ofNat_of_zero_le h0
 rw [wrapU (by omega), Int.toNat_natCast]
theorem parent_c (b : Int) (hb : b < 65536) : kA Tryz.prog 8 [dI b] (dI (yI b)) := by
 generalize hE : yI b = E
 unfold yI at hE
 refine jO jB Tryz.func8 rfl Tryz.ntmps8 rfl rfl rfl fun w cl => ?_
 refine go ?_
 generalize h1 : decide (b < 1) = cc; cases cc
 ·have h1' := of_decide_eq_false h1
  rw [if_neg (by omega)] at hE
  have hn : b.toNat ≠ 0 := by omega
  have hl : lenF b.toNat = Nat.log2 b.toNat + 1 := if_neg hn
  have h2 := Nat.log2_self_le hn
  have h3 : b.toNat < 2 ^ (Nat.log2 b.toNat + 1) := (Nat.log2_lt hn).1 (Nat.lt_succ_self _)
  have h4 : Nat.log2 b.toNat < 16 := (Nat.log2_lt hn).2 (by omega)
  have h5 : (2 : Nat) ^ Nat.log2 b.toNat ≤ 2 ^ 16 := Nat.pow_le_pow_right (by omega) (by omega)
  have h6 : (2 : Int) ^ Nat.log2 b.toNat = ((2 ^ Nat.log2 b.toNat : Nat) : Int) := by norm_cast
  refine go ?_
  rw [wrapUp (by omega) hb]
  refine a_q (jA (len_c b.toNat (by omega)) rfl (fun a w => Tryz.call20 a w) rfl) rfl rfl rfl ?_
  rw [hl]
  refine go ?_
  refine a_q (jF9 (Nat.log2 b.toNat) rfl rfl rfl (by omega) (by omega) (by omega) (by omega)) rfl rfl rfl ?_
  refine a_q (andNotI_step (Nat.log2 b.toNat) rfl rfl rfl (by omega) (by omega) (by omega) (by omega)) rfl rfl rfl ?_
  refine go ?_
  first | refine jF rfl ?_ | refine jC rfl ?_
  rw [hE]
 ·rw [if_pos (of_decide_eq_true h1)] at hE
  refine go ?_
  first | refine jF rfl ?_ | refine jC rfl ?_
  rw [← hE]
structure jG3 (l : jN) : Prop where
 b : 0 ≤ l.buckets ∧ l.buckets ≤ 64
 m : uP l.maps
 d : uP l.done
def revG (k : Int) : Nat → Int
 | 0 => 0
 | i + 1 => revG k i + k / 2 ^ i % 2 * 2 ^ (15 - i)
theorem rev16_eq (k : Int) : wJ k = revG k 16 := by
 unfold wJ
 simp only [List.range, List.range.loop, List.map_cons, List.map_nil, List.sum_cons, List.sum_nil, revG]
 omega
theorem bit_01 (k : Int) (i : Nat) : 0 ≤ k / 2 ^ i % 2 ∧ k / 2 ^ i % 2 ≤ 1 := by
 have h1 := Int.emod_nonneg (k / 2 ^ i) (show (2 : Int) ≠ 0 by omega)
 have h2 := Int.emod_lt_of_pos (k / 2 ^ i) (show (0 : Int) < 2 by omega)
 omega
theorem kI4 (k : Int) : ∀ i : Nat, i ≤ 16 → ∃ q : Int, revG k i = 2 ^ (16 - i) * q ∧ 0 ≤ q ∧ q < 2 ^ i
 | 0, _ => ⟨0, by simp [revG], by omega, by simp⟩
 | i + 1, hi => by
  obtain ⟨q, h1, h2, h3⟩ := kI4 k i (by omega)
  obtain ⟨b0, b1⟩ := bit_01 k i
  refine ⟨2 * q + k / 2 ^ i % 2, ?_, by omega, ?_⟩
  ·rw [revG, h1, show 16 - i = (15 - i) + 1 by omega, show 16 - (i + 1) = 15 - i by omega, Int.pow_succ, Int.mul_add, Int.mul_assoc, Int.mul_comm (2 ^ (15 - i)) (k / 2 ^ i % 2)]
  ·rw [Int.pow_succ]; omega
theorem kI3 (k : Int) (i : Nat) (hi : i ≤ 16) : 0 ≤ revG k i ∧ revG k i < 65536 := by
 obtain ⟨q, h1, h2, h3⟩ := kI4 k i hi
 rw [h1]
 have hp : (0 : Int) < 2 ^ (16 - i) := Int.pow_pos (by omega)
 have h4 : (2 : Int) ^ (16 - i) * 2 ^ i = 65536 := by
  rw [← Int.pow_add, Nat.sub_add_cancel hi]; rfl
 exact ⟨Int.mul_nonneg (by omega) h2, by rw [← h4]; exact Int.mul_lt_mul_of_pos_left h3 hp⟩
theorem kE8 (k : Int) : 0 ≤ wJ k ∧ wJ k < 65536 := by rw [rev16_eq]; exact kI3 k 16 (Nat.le_refl _)
theorem orC_step {P : Program} {S : Nat → Option Dt} {B : Nat → Option (List Dt)} {o : Oper} {ty u : TypeId} {x y : Operand} {a c : Int} (k : Nat) (q : Int) (ho : o.op = .binOp .or ty x y u) (hx : ev S x = some (dI a)) (hy : ev S y = some (dI c)) (haq : a = 2 ^ k * q) (h0 : 0 ≤ c) (h1 : c < 2 ^ k) (hq : 0 ≤ q) (hc : a + c < 9223372036854775808) : QStep P o S B (dI (a + c)) none := by
 subst haq
 refine kZ fun ac e hs => ?_
 have hx1 := kF (hs.1 x (by rw [ho]; simp [Op.operands]) _ hx)
 have hy1 := kF (hs.1 y (by rw [ho]; simp [Op.operands]) _ hy)
 refine ⟨_, ?_, .p (.raw _)⟩
 obtain ⟨dst, op, type, pos, after, guard⟩ := o
 simp only at ho
 subst ho
 have hb : (binOp .or ty (.int .i64 (2 ^ k * q : Int)) (.int .i64 c)).run P e.w = .ok (.int .i64 (2 ^ k * q + c)) e.w := by
  rw [Int.add_comm, ← or_low h0 h1 hq (by omega), BitVec.or_comm]; rfl
 simp [execOp, hx1, hy1, eqGuard, hb]
theorem rev_c (k : Int) : kA Tryz.prog 65 [dI k] (dI (wJ k)) := by
 rw [rev16_eq]
 refine jO jB Tryz.func65 rfl Tryz.ntmps65 rfl rfl rfl fun w cl => ?_
 refine go ?_
 refine jP (fun i : Nat => i ≤ 16) (fun i => ⟨[(5, dI i), (3, dI (revG k i)), (0, dI k)], [], []⟩) (fun i => 16 - i) 0 (Nat.zero_le _) (zX) ?_
 intro i hi
 refine (show AWP _ _ _ _ ⟨[(5, dI i), (3, dI (revG k i)), (0, dI k)], [], []⟩ from ?_)
 refine go ?_
 generalize h1 : decide ((i : Int) < 16) = cc; cases cc
 ·have h1' := of_decide_eq_false h1
  obtain rfl : i = 16 := by omega
  refine go ?_
  first | refine jF rfl ?_ | refine jC rfl ?_
  rfl
 ·have h1' := of_decide_eq_true h1
  obtain ⟨q, h2, h3, h4⟩ := kI4 k i hi
  obtain ⟨b0, b1⟩ := bit_01 k i
  have hp15 : (0 : Int) < 2 ^ (15 - i) := Int.pow_pos (by omega)
  have hp16 : (2 : Int) ^ (16 - i) = 2 ^ (15 - i) * 2 := by rw [show 16 - i = (15 - i) + 1 by omega, Int.pow_succ]
  have hpl : (2 : Int) ^ (15 - i) ≤ 32768 := by
   have := Nat.pow_le_pow_right (n := 2) (by omega) (show 15 - i ≤ 15 by omega)
   have h6 : (2 : Int) ^ (15 - i) = ((2 ^ (15 - i) : Nat) : Int) := by norm_cast
   omega
  have hbm : 0 ≤ k / 2 ^ i % 2 * 2 ^ (15 - i) ∧ k / 2 ^ i % 2 * 2 ^ (15 - i) ≤ 2 ^ (15 - i) := by
   rcases (show k / 2 ^ i % 2 = 0 ∨ k / 2 ^ i % 2 = 1 by omega) with h | h <;> rw [h] <;> omega
  have hrb := kI3 k i hi
  refine go ?_
  refine a_q (shrV_step i rfl rfl rfl (by omega) (by omega)) rfl rfl rfl ?_
  refine a_q (jA (low_c (k / 2 ^ i) 1 (by omega)) rfl (fun a w => Tryz.call64 a w) rfl) rfl rfl rfl ?_
  rw [show k / 2 ^ i % 2 ^ 1 = k / 2 ^ i % 2 from rfl]
  refine go ?_
  refine a_q (jF9 (15 - i) rfl rfl rfl (by omega) (by omega) (by omega) (by omega)) rfl rfl rfl ?_
  refine a_q (orC_step (16 - i) q rfl rfl rfl (by omega) (by omega) (by omega) (by omega) (by omega)) rfl rfl rfl ?_
  refine go ?_
  exact ⟨i + 1, by omega, by omega, zX⟩
theorem real_c (k : Int) : kA Tryz.prog 45 [dI k] (dI (uF k)) := by
 have h := kE8 k
 refine jO jB Tryz.func45 rfl Tryz.ntmps45 rfl rfl rfl fun w cl => ?_
 refine go ?_
 refine a_q (jA (rev_c k) rfl (fun a w => Tryz.call65 a w) rfl) rfl rfl rfl ?_
 refine go ?_
 rw [show IntKind.i64.wrap (IntKind.i64.wrap (2 * wJ k) + 1) = uF k by rw [show IntKind.i64.wrap (2 * wJ k) = 2 * wJ k from wrapI (by omega) (by omega), wrapI (by omega) (by omega)]; rfl]
 refine go ?_
 first | refine jF rfl ?_ | refine jC rfl ?_
 rfl
theorem dummy_c (k : Int) : kA Tryz.prog 74 [dI k] (dI (kC2 k)) := by
 have h := kE8 k
 refine jO jB Tryz.func74 rfl Tryz.ntmps74 rfl rfl rfl fun w cl => ?_
 refine go ?_
 refine a_q (jA (rev_c k) rfl (fun a w => Tryz.call65 a w) rfl) rfl rfl rfl ?_
 refine go ?_
 rw [show IntKind.i64.wrap (2 * wJ k) = kC2 k from wrapI (by omega) (by omega)]
 refine go ?_
 first | refine jF rfl ?_ | refine jC rfl ?_
 rfl
theorem key_c (n : Int) : kA Tryz.prog 29 [dI n] (dI (keyW n)) := by
 refine jO jB Tryz.func29 rfl Tryz.ntmps29 rfl rfl rfl fun w cl => ?_
 refine go ?_
 refine a_q (jA (low_c n 17 (by omega)) rfl (fun a w => Tryz.call64 a w) rfl) rfl rfl rfl ?_
 refine go ?_
 refine a_q (kA7 1 rfl rfl rfl (by omega)) rfl rfl rfl ?_
 refine a_q (jA (rev_c (n % 2 ^ 17 / 2 ^ 1)) rfl (fun a w => Tryz.call65 a w) rfl) rfl rfl rfl ?_
 refine go ?_
 first | refine jF rfl ?_ | refine jC rfl ?_
 rfl
theorem map_c (l : jN) (hL : qJ l) (hM : jG3 l) (m i : Int) (hi : i < 9223372036854775808) : kA Tryz.prog 38 [wO l, dI m, dI i] (dI (xB l m i)) := by
 have e1 := hL.map
 have e2 := hM.m
 have e3 := hM.b
 refine jO jB Tryz.func38 rfl Tryz.ntmps38 rfl rfl rfl fun w cl => ?_
 refine go ?_
 generalize k1 : decide (i > 1) = cc; cases cc
 ·have k1' := of_decide_eq_false k1
  refine go ?_
  refine a_q (jA (jY2 l.map l.maps (2 + l.buckets) m i e1 e2 (by omega) hi) rfl (fun a w => Tryz.call61 a w) rfl) rfl rfl rfl ?_
  refine go ?_
  first | refine jF rfl ?_ | refine jC rfl ?_
  rw [xB, if_neg k1']
 ·refine go ?_
  first | refine jF rfl ?_ | refine jC rfl ?_
  rw [xB, if_pos (of_decide_eq_true k1)]
theorem jY6 (l : jN) (hL : qJ l) (hM : jG3 l) (m b : Int) : kA Tryz.prog 25 [wO l, dI m, dI b] (dI (qR l m b)) := by
 have e1 := hL.map
 have e2 := hM.m
 have e3 := hM.b
 refine jO jB Tryz.func25 rfl Tryz.ntmps25 rfl rfl rfl fun w cl => ?_
 refine go ?_
 generalize k1 : decide (b < 0) = cc; cases cc
 ·have k1' := of_decide_eq_false k1
  refine go ?_
  generalize k2 : decide (b ≥ l.buckets) = cc; cases cc
  ·have k2' := of_decide_eq_false k2
   refine go ?_
   refine a_q (jA (jY2 l.map l.maps (2 + l.buckets) m (2 + b) e1 e2 (by omega) (by omega)) rfl (fun a w => Tryz.call61 a w) rfl) rfl rfl rfl ?_
   refine go ?_
   first | refine jF rfl ?_ | refine jC rfl ?_
   rw [qR, if_neg (by omega)]
  ·refine go ?_
   first | refine jF rfl ?_ | refine jC rfl ?_
   rw [qR, if_pos (.inr (of_decide_eq_true k2))]
 ·refine go ?_
  first | refine jF rfl ?_ | refine jC rfl ?_
  rw [qR, if_pos (.inl (of_decide_eq_true k1))]
end Go.Proofs.YtkkldicehapklaaGreat
