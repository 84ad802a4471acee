/- The comparison that orders labels. -/
import Derived.Test.YtcjooalmhppkiaaRRRRLay
import Derived.Test.YtcjooalmhppkiaaRRRRRel
import Derived.WalkKit
import Derived.WalkSpells
import Derived.WalkLawsBesides
import Derived.BigQuiet
namespace Go.Proofs.YtcjooalmhppkiaaRRRR
open Go.Shelf Go.RowKit Go.Lib Go.Sort
set_option maxRecDepth 100000

set_option maxHeartbeats 1000000 in
theorem isNaN_any (x : Int) (W : World) : Calls Try.prog 26 #[.int .i64 x] W fun e w' => e = .returned (.bool false) ∧ w' = W := by
  go_enter Try.func26, Try.ntmps26
  go_wp2
  go_ret
  simp
set_option maxHeartbeats 1000000 in
theorem compare_any (x y : Int) (W : World) : Calls Try.prog 23 #[.int .i64 x, .int .i64 y] W fun e w' => e = .returned (.int .i64 (Lib.compareInt x y)) ∧ w' = W := by
  unfold Lib.compareInt
  go_enter Try.func23, Try.ntmps23
  go_wp2_with (go_at_call 26; refine (isNaN_any _ _).mono ?_; rintro e w' ⟨rfl, rfl⟩)
  all_goals (go_ret; simp_all)
set_option maxHeartbeats 1000000 in
theorem closure_any (x y n cap kb lb lo : Nat) (a b : Int) (W : World) (hx : x < n) (hy : y < n) (hbox : W.cell? ⟨kb, 0, none⟩ = some (.slice (some ⟨lb, lo, none⟩) n cap)) (hxv : W.cell? ⟨lb, lo + x, none⟩ = some (.int .i64 a)) (hyv : W.cell? ⟨lb, lo + y, none⟩ = some (.int .i64 b)) :
    Calls Try.prog 22 #[.int .i64 x, .int .i64 y, .pointer (some ⟨kb, 0, none⟩)] W fun e w' => e = .returned (.int .i64 (Lib.compareInt a b)) ∧ ∃ q, w' = W.drewN q := by
  go_enter Try.func22, Try.ntmps22
  go_wp2_with (go_at_call 23; refine (compare_any _ _ _).mono ?_; rintro e w' ⟨rfl, rfl⟩)
  go_big_quiet ((refine (compare_any _ _ _).mono ?_; rintro e w' ⟨rfl, rfl⟩; exact ⟨rfl, _, rfl⟩))
  go_wp2
  go_ret
  exact ⟨rfl, _, rfl⟩
end Go.Proofs.YtcjooalmhppkiaaRRRR
