/- The contract of Right. -/
import Derived.Test.YtknancnmdpdefaaWith
namespace Go.Proofs.Ytknancnmdpdefaa
open Go.RowKit

set_option maxRecDepth 100000 in
set_option maxHeartbeats 1000000 in
theorem right_any (c : Cont) (Ak Av : Option Addr) (capk capv : Nat) (w : World) (hk : RowIn ints w Ak c.keys) (hl : c.keys.length ≤ maxLen) (hl2 : c.vals.length ≤ maxLen) :
    Calls Try.prog 15 #[.agg #[.int .i64 c.kind, .slice Ak c.keys.length capk, .slice Av c.vals.length capv]] w fun e w' => e = .returned (.bool (rightB c)) ∧ Below w.heap.size w w' := by
  have hlk := hl
  unfold maxLen at hl hl2
  have hb1 : Below w.heap.size w (w.alloc (.cells #[.int .i64 c.kind, .slice Ak c.keys.length capk, .slice Av c.vals.length capv] 24)) := (Below.refl _ _).alloc (Nat.le_refl _) _
  by_cases h1 : c.kind = 1
  · have h1' : (c.kind == 1) = true := by simpa using h1
    have hrb : rightB c = (decide (c.keys.length = c.vals.length) && decide (Rises c.keys)) := by unfold rightB; rw [if_pos h1]
    have HB := Lib.hid hrb
    clear hrb h1
    by_cases hle : c.keys.length = c.vals.length
    · have hle1 : ((c.keys.length : Int) == (c.vals.length : Int)) = true := by simp [hle]
      have hle2 : (c.keys.length == c.vals.length) = true := by simp [hle]
      have HL := Lib.hid hle
      clear hle
      go_enter Try.func15, Try.ntmps15
      go_wp2_with (go_at_call 31; refine (rises_any Ak capk c.keys _ (hk.next hb1) hlk).mono ?_; rintro e w2 ⟨rfl, hb2⟩)
      go_ret
      refine ⟨ret_bool ?_, hb1.trans (hb2.mono hb1.size)⟩
      rw [HB.out, decide_eq_true HL.out, Bool.true_and]
    · have hle1 : ((c.keys.length : Int) == (c.vals.length : Int)) = false := by rw [beq_eq_false_iff_ne]; omega
      have hle2 : (c.keys.length == c.vals.length) = false := by rw [beq_eq_false_iff_ne]; omega
      go_enter Try.func15, Try.ntmps15
      go_wp2_with fail
      go_ret
      refine ⟨ret_bool ?_, hb1⟩
      rw [HB.out, decide_eq_false hle, Bool.false_and]
  · have h1' : (c.kind == 1) = false := by simpa using h1
    by_cases h23 : c.kind = 2 ∨ c.kind = 3
    · have hrb : rightB c = decide (c.keys.length = 0) := by unfold rightB; rw [if_neg h1, if_pos h23]
      have HB := Lib.hid hrb
      clear hrb
      by_cases h2 : c.kind = 2
      · have h2' : (c.kind == 2) = true := by simpa using h2
        clear h2 h23
        go_enter Try.func15, Try.ntmps15
        go_wp2_with fail
        go_ret
        refine ⟨ret_bool ?_, hb1⟩
        rw [HB.out, Bool.eq_iff_iff]; simp
      · have h2' : (c.kind == 2) = false := by simpa using h2
        have h3' : (c.kind == 3) = true := by simpa using h23.resolve_left h2
        clear h23
        go_enter Try.func15, Try.ntmps15
        go_wp2_with fail
        go_ret
        refine ⟨ret_bool ?_, hb1⟩
        rw [HB.out, Bool.eq_iff_iff]; simp
    · have hrb : rightB c = false := by unfold rightB; rw [if_neg h1, if_neg h23]
      have HB := Lib.hid hrb
      have h2' : (c.kind == 2) = false := by simp; omega
      have h3' : (c.kind == 3) = false := by simp; omega
      clear hrb h23
      go_enter Try.func15, Try.ntmps15
      go_wp2_with fail
      go_ret
      exact ⟨ret_bool HB.out.symm, hb1⟩

theorem en15 : EntersP Try.prog 15 := fun args w => by simp [go_sem]
theorem en23 : EntersP Try.prog 23 := fun args w => by simp [go_sem]
theorem en31 : EntersP Try.prog 31 := fun args w => by simp [go_sem]
theorem en32 : EntersP Try.prog 32 := fun args w => by simp [go_sem]
theorem en39 : EntersP Try.prog 39 := fun args w => by simp [go_sem]
theorem en40 : EntersP Try.prog 40 := fun args w => by simp [go_sem]
theorem en41 : EntersP Try.prog 41 := fun args w => by simp [go_sem]
theorem en42 : EntersP Try.prog 42 := fun args w => by simp [go_sem]
theorem en43 : EntersP Try.prog 43 := fun args w => by simp [go_sem]
theorem en44 : EntersP Try.prog 44 := fun args w => by simp [go_sem]
theorem en46 : EntersP Try.prog 46 := fun args w => by simp [go_sem]
theorem en47 : EntersP Try.prog 47 := fun args w => by simp [go_sem]
theorem en48 : EntersP Try.prog 48 := fun args w => by simp [go_sem]
theorem en49 : EntersP Try.prog 49 := fun args w => by simp [go_sem]
end Go.Proofs.Ytknancnmdpdefaa
