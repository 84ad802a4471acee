/- The contracts of find, with, without, Clone. -/
import Derived.Test.YtknancnmdpdefaaBase
namespace Go.Proofs.Ytknancnmdpdefaa
open Go.RowKit

theorem rises_lt {l : List Int} (h : Rises l) {i j : Nat} {x y : Int} (hi : l[i]? = some x) (hj : l[j]? = some y) (hij : i < j) : x < y := by
  unfold Rises at h
  rw [List.pairwise_iff_getElem] at h
  have h1 := lt_of_some hi
  have h2 := lt_of_some hj
  have := h i j h1 h2 hij
  rw [List.getElem?_eq_getElem h1] at hi
  rw [List.getElem?_eq_getElem h2] at hj
  injection hi with hi
  injection hj with hj
  omega

def Lows (l : List Int) (x : Int) (n : Nat) : Prop := ∀ i, i < n → ∀ y, l[i]? = some y → y < x
def Highs (l : List Int) (x : Int) (n : Nat) : Prop := ∀ i, n ≤ i → ∀ y, l[i]? = some y → x ≤ y
theorem lows_half {l : List Int} (h : Rises l) {x y : Int} {k : Nat} (hk : l[k]? = some y) (hy : y < x) : Lows l x (k + 1) := fun i hi z hz => by
  by_cases e : i = k
  · subst e; rw [hk] at hz; cases hz; exact hy
  · have := rises_lt h hz hk (by omega); omega
theorem highs_half {l : List Int} (h : Rises l) {x y : Int} {k : Nat} (hk : l[k]? = some y) (hy : ¬ y < x) : Highs l x k := fun i hi z hz => by
  by_cases e : i = k
  · subst e; rw [hk] at hz; cases hz; omega
  · have := rises_lt h hk hz (by omega); omega
theorem pos_of {l : List Int} {x : Int} {n : Nat} (hn : n ≤ l.length) (h1 : Lows l x n) (h2 : Highs l x n) : n = pos l x :=
  pos_unique hn h1 fun y hy => h2 n (Nat.le_refl _) y hy

theorem ret_pair {a c : Int} {b d : Bool} (h1 : a = c) (h2 : b = d) : Ending.returned (.tuple #[.int .i64 a, .bool b]) = .returned (.tuple #[.int .i64 c, .bool d]) := by rw [h1, h2]

set_option maxRecDepth 100000 in
set_option maxHeartbeats 1000000 in
theorem find_any (A : Option Addr) (cap : Nat) (l : List Int) (x : Int) (w : World) (hr : RowIn ints w A l) (hl : l.length ≤ 4611686018427387903) (hri : Rises l) :
    Calls Try.prog 46 #[.slice A l.length cap, .int .i64 x] w fun e w' => e = .returned (.tuple #[.int .i64 (pos l x : Nat), .bool (decide (l[pos l x]? = some x))]) ∧ Below w.heap.size w w' := by
  have HR := Lib.hid hri
  clear hri
  go_enter Try.func46, Try.ntmps46
  go_wp2
  go_loopw [6, 7] (fun f t wr => ∃ m n : Nat, m ≤ n ∧ n ≤ l.length ∧ f = .int .i64 m ∧ t = .int .i64 n ∧ Lows l x m ∧ Highs l x n ∧ Below w.heap.size w wr) (fun f t _ => (intOf t).toNat - (intOf f).toNat)
  case atStart => exact ⟨0, l.length, by omega, by omega, rfl, rfl, fun i hi => by omega, fun i hi y hy => by have := lt_of_some hy; omega, Below.refl _ _⟩
  case round =>
    obtain ⟨m, n, hmn, hnl, rfl, rfl, hlo, hhi, hb⟩ := hrel
    by_cases hlt : m < n
    · obtain ⟨y, hy⟩ := some_at (show m + (n - m) / 2 < l.length by omega)
      obtain ⟨b, o, rfl, hbb, c1⟩ := ints_at (hr.next hb) hy
      have HY := Lib.hid hy
      clear hy
      have hmd : decide ((m : Int) < (n : Int)) = true := decide_eq_true (by omega)
      have hq0 : (0 : Int) ≤ (n : Int) - (m : Int) := by omega
      by_cases hyx : y < x
      · have HL := Lib.hid (lows_half HR.out HY.out hyx)
        go_wp2
        go_roundw
        case rel => exact ⟨m + (n - m) / 2 + 1, n, by omega, by omega, by go_num, by go_num, HL.out, hhi, hb⟩
        case measure => simp [intOf]; omega
      · have HL := Lib.hid (highs_half HR.out HY.out hyx)
        go_wp2
        go_roundw
        case rel => exact ⟨m, m + (n - m) / 2, by omega, by omega, by go_num, by go_num, hlo, HL.out, hb⟩
        case measure => simp [intOf]; omega
    · obtain rfl : m = n := by omega
      have hp := pos_of hnl hlo hhi
      have hmd : decide ((m : Int) < (m : Int)) = false := decide_eq_false (by omega)
      have HP := Lib.hid hp
      clear hp
      by_cases hml : m < l.length
      · obtain ⟨y, hy⟩ := some_at hml
        obtain ⟨b, o, rfl, hbb, c1⟩ := ints_at (hr.next hb) hy
        have HY := Lib.hid hy
        clear hy
        have hd1 : decide (m < l.length) = true := decide_eq_true hml
        go_wp2
        refine wp_region_ext (by kernel_rfl) (by kernel_rfl) ?_
        repeat (go_big_quiet_step (fail))
        refine wpQuiet_nil ?_
        rintro _ ⟨z, rfl⟩
        go_wp2
        go_ret2
        refine ⟨ret_pair (by rw [HP.out]) ?_, hb.trans (z.below.mono hb.size)⟩
        rw [← HP.out, HY.out, Bool.eq_iff_iff]
        simp
      · have hd1 : decide (m < l.length) = false := decide_eq_false hml
        go_wp2
        refine wp_region_ext (by kernel_rfl) (by kernel_rfl) ?_
        repeat (go_big_quiet_step (fail))
        refine wpQuiet_nil ?_
        rintro _ ⟨z, rfl⟩
        go_wp2
        go_ret2
        refine ⟨ret_pair (by rw [HP.out]) ?_, hb.trans (z.below.mono hb.size)⟩
        rw [← HP.out, List.getElem?_eq_none (by omega)]
        simp

end Go.Proofs.Ytknancnmdpdefaa
