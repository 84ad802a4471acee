/- Contents and operations in memory. -/
import Derived.Test.YtknancnmdpdefaaRows
import Derived.Test.YtknancnmdpdefaaMem
import Derived.Test.YtknancnmdpdefaaData
namespace Go.Proofs.Ytknancnmdpdefaa
open Go.RowKit

def OpT.cells (o : OpT) : List Value := [.int .i64 o.kind, .int .i64 o.obj, .int .i64 o.a, .int .i64 o.b]
def opsT : RowTy OpT := ⟨OpT.cells, 4, fun _ => rfl, by decide, fun x u hu => by
  simp only [OpT.cells, List.mem_cons, List.not_mem_nil, or_false] at hu
  rcases hu with rfl | rfl | rfl | rfl <;> rfl⟩

/-- A content as a value. -/
def IsCont (w : World) (v : Value) (c : Cont) : Prop := ∃ ks vs, v = .agg #[.int .i64 c.kind, ks, vs] ∧ IsRow ints w ks c.keys ∧ IsRow ints w vs c.vals
theorem IsCont.next {w w' : World} {v : Value} {c : Cont} (h : IsCont w v c) (hb : Below w.heap.size w w') : IsCont w' v c := by
  obtain ⟨ks, vs, e, h1, h2⟩ := h
  exact ⟨ks, vs, e, h1.next hb, h2.next hb⟩

theorem int_info : (Try.prog.info? 3).map (fun i => (i.zero, i.size, i.bytes)) = some (some (.int .i64 0), 1, 8) := by kernel_rfl
theorem bool_info : (Try.prog.info? 4).map (fun i => (i.zero, i.size, i.bytes)) = some (some (.bool false), 1, 1) := by kernel_rfl

set_option maxHeartbeats 400000 in
theorem of_any (k : Int) (w : World) :
    Calls Try.prog 23 #[.int .i64 k] w fun e w' => e = .returned (.int .i64 (ofK k)) ∧ w = w' := by
  unfold ofK
  go_enter Try.func23, Try.ntmps23
  go_wp2
  all_goals go_ret
  all_goals simp_all

theorem rises_step {l : List Int} {n : Nat} {x y : Int} (h : Rises (l.take n)) (hx : l[n]? = some x) (hy : l[n - 1]? = some y) (hn : 1 ≤ n) (hlt : y < x) : Rises (l.take (n + 1)) := by
  unfold Rises at *
  rw [List.take_add_one, hx, Option.toList_some, List.pairwise_append]
  refine ⟨h, List.pairwise_singleton _ _, fun a ha b hb => ?_⟩
  simp at hb
  subst hb
  obtain ⟨i, hi, rfl⟩ := List.mem_iff_getElem.1 ha
  have hil : i < n := by simp at hi; omega
  have hnl : n < l.length := (List.getElem?_eq_some_iff.1 hx).1
  rw [List.pairwise_iff_getElem] at h
  by_cases e : i = n - 1
  · subst e
    have : (l.take n)[n - 1] = y := by
      rw [List.getElem_take]
      have h3 : l[n - 1]? = some l[n - 1] := List.getElem?_eq_getElem (by omega)
      rw [h3] at hy; injection hy
    rw [this]; exact hlt
  · have hh := h i (n - 1) hi (by simp; omega) (by omega)
    have : (l.take n)[n - 1]'(by simp; omega) = y := by
      rw [List.getElem_take]
      have h3 : l[n - 1]? = some l[n - 1] := List.getElem?_eq_getElem (by omega)
      rw [h3] at hy; injection hy
    rw [this] at hh
    omega
theorem not_rises {l : List Int} {n : Nat} {x y : Int} (hx : l[n]? = some x) (hy : l[n - 1]? = some y) (hn : 1 ≤ n) (hle : x ≤ y) : ¬ Rises l := by
  intro h
  unfold Rises at h
  rw [List.pairwise_iff_getElem] at h
  have hnl : n < l.length := (List.getElem?_eq_some_iff.1 hx).1
  have := h (n - 1) n (by omega) hnl (by omega)
  rw [List.getElem?_eq_getElem hnl] at hx
  rw [List.getElem?_eq_getElem (by omega)] at hy
  injection hx with hx
  injection hy with hy
  omega
theorem rises_one (l : List Int) : Rises (l.take 1) := by
  unfold Rises
  rcases l with _ | ⟨x, l⟩
  · simp
  · simp

set_option maxRecDepth 100000 in
set_option maxHeartbeats 1000000 in
theorem rises_any (A : Option Addr) (cap : Nat) (l : List Int) (w : World) (hr : RowIn ints w A l) (hl : l.length ≤ maxLen) :
    Calls Try.prog 31 #[.slice A l.length cap] w fun e w' => e = .returned (.bool (decide (Rises l))) ∧ Below w.heap.size w w' := by
  unfold maxLen at hl
  go_enter Try.func31, Try.ntmps31
  go_wp2
  go_loopw [3] (fun i wr => ∃ n : Nat, 1 ≤ n ∧ (n ≤ l.length ∨ n = 1) ∧ i = .int .i64 n ∧ Rises (l.take n) ∧ Below w.heap.size w wr) (fun i _ => l.length - (intOf i).toNat)
  case atStart => exact ⟨1, by omega, by omega, rfl, rises_one l, Below.refl _ _⟩
  case round =>
    obtain ⟨n, hn1, hnl, rfl, hri, hb⟩ := hrel
    have HR := Lib.hid hri
    clear hri
    by_cases hlt : n < l.length
    · obtain ⟨x, hx⟩ := some_at hlt
      obtain ⟨y, hy⟩ := some_at (show n - 1 < l.length by omega)
      obtain ⟨b, o, rfl, hbb, c1⟩ := ints_at (hr.next hb) hx
      obtain ⟨_, _, hA, _, c2⟩ := ints_at (hr.next hb) hy
      cases hA
      have HX := Lib.hid hx
      have HY := Lib.hid hy
      clear hx hy
      have h1 : (0 : Int) ≤ (n : Int) - 1 := by omega
      have h2 : ((n : Int) - 1).toNat = n - 1 := by omega
      have h3 : (n : Int) - 1 < (l.length : Int) := by omega
      by_cases hle : x ≤ y
      · have hd : decide (x ≤ y) = true := decide_eq_true hle
        go_wp2
        refine wp_region_ext (by kernel_rfl) (by kernel_rfl) ?_
        repeat (go_big_quiet_step (fail))
        refine wpQuiet_nil ?_
        rintro _ ⟨z, rfl⟩
        go_wp2
        go_ret
        exact ⟨ret_bool (decide_eq_false (not_rises HX.out HY.out hn1 hle)).symm, hb.trans (z.below.mono hb.size)⟩
      · have hd : decide (x ≤ y) = false := decide_eq_false hle
        go_wp2
        refine wp_region_ext (by kernel_rfl) (by kernel_rfl) ?_
        repeat (go_big_quiet_step (fail))
        refine wpQuiet_nil ?_
        rintro _ ⟨z, rfl⟩
        clear h2
        go_wp2
        go_roundw
        case rel => exact ⟨n + 1, by omega, by omega, by go_num, rises_step HR.out HX.out HY.out hn1 (by omega), hb.trans (z.below.mono hb.size)⟩
        case measure => simp [intOf]; omega
    · go_wp2
      go_ret
      refine ⟨ret_bool (decide_eq_true ?_).symm, hb⟩
      have := HR.out
      rwa [List.take_of_length_le (by omega)] at this

end Go.Proofs.Ytknancnmdpdefaa
