/- The contract of shown: the document's example answers true. -/
import Derived.Test.YtndelolfhdliaaaHRight
import Derived.Test.YtndelolfhdliaaaSame
import Derived.Test.YtndelolfhdliaaaRows2
namespace Go.Proofs.Ytndelolfhdliaaa
open Go.RowKit

def sa : Call := ⟨0, 2, 0, 1, 2, 0, true, 0, 3, 2⟩
def sb : Call := ⟨1, 4, 0, 5, 0, 0, true, 1, 2, -1⟩
def sc : Call := ⟨1, 1, 0, 1, 0, 2, true, 4, 4, 4⟩

theorem right_yes : rightB [sa, sb, sc] = true := by
  refine rightB_true (good_succ (good_succ (good_succ (good_zero _) (c := sa) rfl (by decide) (goodTo_zero _ _)) (c := sb) rfl (by decide) ?_) (c := sc) rfl (by decide) ?_)
  · exact goodTo_succ (goodTo_zero _ _) (d := sa) rfl ⟨by decide, by decide⟩
  · exact goodTo_succ (goodTo_succ (goodTo_zero _ _) (d := sa) rfl ⟨by decide, by decide⟩) (d := sb) rfl ⟨by decide, by decide⟩
theorem right_no : rightB [sc, sa] = false := by
  refine rightB_false (not_good_pair (n := 1) (k := 0) (c := sa) (d := sc) rfl rfl (by decide) ?_)
  intro h
  exact absurd h.1 (by decide)

/-- The world in which the example lies. -/
def exW (w : World) : World := (((w.alloc (.cells sa.cells.toArray 30)).alloc (.cells sb.cells.toArray 30)).alloc (.cells sc.cells.toArray 30)).alloc (.cells (cellsOf [sa, sb, sc]).toArray 30)
theorem exW_size (w : World) : (exW w).heap.size = w.heap.size + 1 + 1 + 1 + 1 := by simp [exW]
theorem exW_below (w : World) : Below w.heap.size w (exW w) := ((((Below.refl _ _).alloc (Nat.le_refl _) _).alloc (by simp) _).alloc (by simp; omega) _).alloc (by simp; omega) _
theorem exW_a (w : World) : ∀ j u, sa.cells[j]? = some u → (exW w).cell? ⟨w.heap.size, j, none⟩ = some u := fun j u hu => by
  unfold exW
  rw [World.cell?_alloc_lt _ _ _ (by simp; omega), World.cell?_alloc_lt _ _ _ (by simp; omega), World.cell?_alloc_lt _ _ _ (by simp)]
  exact new_cells w sa j u hu
theorem exW_b (w : World) : ∀ j u, sb.cells[j]? = some u → (exW w).cell? ⟨w.heap.size + 1, j, none⟩ = some u := fun j u hu => by
  unfold exW
  rw [World.cell?_alloc_lt _ _ _ (by simp), World.cell?_alloc_lt _ _ _ (by simp)]
  have := new_cells (w.alloc (.cells sa.cells.toArray 30)) sb j u hu
  simpa using this
theorem exW_c (w : World) : ∀ j u, sc.cells[j]? = some u → (exW w).cell? ⟨w.heap.size + 1 + 1, j, none⟩ = some u := fun j u hu => by
  unfold exW
  rw [World.cell?_alloc_lt _ _ _ (by simp)]
  have := new_cells ((w.alloc (.cells sa.cells.toArray 30)).alloc (.cells sb.cells.toArray 30)) sc j u hu
  simpa using this
theorem exW_row (w : World) : CRow (exW w) (exW w).heap.size (some ⟨w.heap.size + 1 + 1 + 1, 0, none⟩) [sa, sb, sc] := by
  obtain ⟨A, cap, e, hr⟩ := kRow_new (((w.alloc (.cells sa.cells.toArray 30)).alloc (.cells sb.cells.toArray 30)).alloc (.cells sc.cells.toArray 30)) [sa, sb, sc] 3
  injection e with e
  subst e
  have e2 : (((w.alloc (.cells sa.cells.toArray 30)).alloc (.cells sb.cells.toArray 30)).alloc (.cells sc.cells.toArray 30)).heap.size = w.heap.size + 1 + 1 + 1 := by simp
  rw [e2] at hr
  exact hr

set_option maxRecDepth 100000 in
set_option maxHeartbeats 4000000 in
theorem shown_any (w : World) : Calls Try.prog 8 #[] w fun e w' => e = .returned (.bool true) ∧ Below w.heap.size w w' := by
  go_enter Try.func8, Try.ntmps8
  go_wp2
  change Code.wp _ _ _ _ (exW w)
  obtain ⟨a0, a1, a2, a3, a4, a5, a6, a7, a8, a9⟩ := cellsAt_zero (exW_a w)
  obtain ⟨b0, b1, b2, b3, b4, b5, b6, b7, b8, b9⟩ := cellsAt_zero (exW_b w)
  obtain ⟨c0, c1, c2, c3, c4, c5, c6, c7, c8, c9⟩ := cellsAt_zero (exW_c w)
  simp only [sa, sb, sc] at a0 a1 a2 a3 a4 a5 a6 a7 a8 a9 b0 b1 b2 b3 b4 b5 b6 b7 b8 b9 c0 c1 c2 c3 c4 c5 c6 c7 c8 c9
  have s0 : w.heap.size < (exW w).heap.size := by rw [exW_size]; omega
  have s1 : w.heap.size + 1 < (exW w).heap.size := by rw [exW_size]; omega
  have s2 : w.heap.size + 1 + 1 < (exW w).heap.size := by rw [exW_size]; omega
  have hrow : ∀ x : Ext (exW w), CRow x.on x.on.heap.size (some ⟨w.heap.size + 1 + 1 + 1, 0, none⟩) [sa, sb, sc] := fun x => ((exW_row w).below x.below).more x.below.size
  have hR : ∀ x : Ext (exW w), Calls Try.prog 14 #[.slice (some ⟨w.heap.size + 1 + 1 + 1, 0, none⟩) 3 3] x.on fun e w' => e = .returned (.bool true) ∧ Below x.on.heap.size x.on w' := fun x => by
    have := hRight_any _ 3 _ x.on (hrow x) (by decide)
    rw [right_yes] at this
    exact this
  refine wp_region_rel (by kernel_rfl) (by kernel_rfl) ?_
  refine rel_seg 70 [_] _ _ (by kernel_rfl) rfl ?_
  repeat (go_big_quiet_step (fail))
  refine wpQuiet_nil ?_
  refine rel_call (f := 14) rfl en14 (by kernel_rfl) (by kernel_rfl) (by kernel_rfl) (fun x => hR x) rfl ?_
  simp only [Act.put, List.setIfInBounds_toArray, List.set_cons_zero, List.set_cons_succ]
  refine rel_seg 70 [_, _, _] _ _ (by kernel_rfl) rfl ?_
  repeat (go_big_quiet_step (fail))
  refine wpQuiet_nil ?_
  refine rel_call (f := 10) (c := .bool true) rfl en10 (by kernel_rfl) (by kernel_rfl) (by kernel_rfl) (fun x => ahead_any sa sc _) rfl ?_
  simp only [Act.put, List.setIfInBounds_toArray, List.set_cons_zero, List.set_cons_succ]
  refine rel_seg 70 [_, _, _, _] _ _ (by kernel_rfl) rfl ?_
  repeat (go_big_quiet_step (fail))
  refine wpQuiet_nil ?_
  refine rel_call (f := 10) (c := .bool true) rfl en10 (by kernel_rfl) (by kernel_rfl) (by kernel_rfl) (fun x => ahead_any sb sc _) rfl ?_
  simp only [Act.put, List.setIfInBounds_toArray, List.set_cons_zero, List.set_cons_succ]
  refine rel_seg 70 [_, _, _, _] _ _ (by kernel_rfl) rfl ?_
  repeat (go_big_quiet_step (fail))
  refine wpQuiet_nil ?_
  refine rel_call (f := 10) (c := .bool false) rfl en10 (by kernel_rfl) (by kernel_rfl) (by kernel_rfl) (fun x => ahead_any sa sb _) rfl ?_
  simp only [Act.put, List.setIfInBounds_toArray, List.set_cons_zero, List.set_cons_succ]
  refine rel_seg 70 [_, _, _, _, _] _ _ (by kernel_rfl) rfl ?_
  repeat (go_big_quiet_step (fail))
  refine wpQuiet_nil ?_
  refine rel_call (f := 10) (c := .bool false) rfl en10 (by kernel_rfl) (by kernel_rfl) (by kernel_rfl) (fun x => ahead_any sb sa _) rfl ?_
  simp only [Act.put, List.setIfInBounds_toArray, List.set_cons_zero, List.set_cons_succ]
  refine rel_seg 70 [_, _, _, _] _ _ (by kernel_rfl) rfl ?_
  repeat (go_big_quiet_step (fail))
  refine wpQuiet_nil ?_
  refine rel_call_new (f := 11) 41 (kRow [sa, sc]) rfl (kRow_keeps _) rfl en11 (by kernel_rfl) (by kernel_rfl) (fun x => (of_calls _ 3 [sa, sb, sc] 1 0 _ (hrow x) (by decide)).mono fun _ _ hg => gives_new hg) rfl ?_
  refine rel_seg 70 [_, _] _ _ (by kernel_rfl) rfl ?_
  repeat (go_big_quiet_step (fail))
  refine wpQuiet_nil ?_
  refine rel_run_new 44 (kRow [sa, sc]) rfl (kRow_keeps _) (by kernel_rfl) (by kernel_rfl) (fun x A hA => ?_) ?_
  · have e1 : slot A 42 = _ := hA 42 (by decide)
    have e2 : slot A 43 = _ := hA 43 (by decide)
    refine ⟨_, _, ?_, kRow_new x.on [sa, sc] 2, (Below.refl _ _).alloc (Nat.le_refl _) _⟩
    simp [slot] at e1 e2
    simp [go_sem, e1, e2]
    rfl
  refine rel_call_of (f := 15) (c := .bool true) rfl en15 (by kernel_rfl) (by kernel_rfl) (by kernel_rfl) (fun x A hA => ?_) ?_
  · obtain ⟨A1, c1, e1, r1⟩ : kRow _ (slot A 41) x.on := hA 41 (by decide)
    obtain ⟨A2, c2, e2, r2⟩ : kRow _ (slot A 44) x.on := hA 44 (by decide)
    have h1 := same_any A1 A2 c1 c2 _ _ x.on r1 r2 (by decide)
    rw [← e1, ← e2] at h1
    exact h1
  simp only [Act.put, List.setIfInBounds_toArray, List.set_cons_zero, List.set_cons_succ]
  refine rel_seg 70 [_, _, _] _ _ (by kernel_rfl) rfl ?_
  repeat (go_big_quiet_step (fail))
  refine wpQuiet_nil ?_
  refine rel_call_new (f := 12) 49 (kRow [sb, sc]) rfl (kRow_keeps _) rfl en12 (by kernel_rfl) (by kernel_rfl) (fun x => (seat_calls _ 3 [sa, sb, sc] 1 _ (hrow x) (by decide)).mono fun _ _ hg => gives_new hg) rfl ?_
  refine rel_seg 70 [_, _] _ _ (by kernel_rfl) rfl ?_
  repeat (go_big_quiet_step (fail))
  refine wpQuiet_nil ?_
  refine rel_run_new 52 (kRow [sb, sc]) rfl (kRow_keeps _) (by kernel_rfl) (by kernel_rfl) (fun x A hA => ?_) ?_
  · have e1 : slot A 50 = _ := hA 50 (by decide)
    have e2 : slot A 51 = _ := hA 51 (by decide)
    refine ⟨_, _, ?_, kRow_new x.on [sb, sc] 2, (Below.refl _ _).alloc (Nat.le_refl _) _⟩
    simp [slot] at e1 e2
    simp [go_sem, e1, e2]
    rfl
  refine rel_call_of (f := 15) (c := .bool true) rfl en15 (by kernel_rfl) (by kernel_rfl) (by kernel_rfl) (fun x A hA => ?_) ?_
  · obtain ⟨A1, c1, e1, r1⟩ : kRow _ (slot A 49) x.on := hA 49 (by decide)
    obtain ⟨A2, c2, e2, r2⟩ : kRow _ (slot A 52) x.on := hA 52 (by decide)
    have h1 := same_any A1 A2 c1 c2 _ _ x.on r1 r2 (by decide)
    rw [← e1, ← e2] at h1
    exact h1
  simp only [Act.put, List.setIfInBounds_toArray, List.set_cons_zero, List.set_cons_succ]
  refine rel_seg 70 [_, _, _] _ _ (by kernel_rfl) rfl ?_
  repeat (go_big_quiet_step (fail))
  refine wpQuiet_nil ?_
  refine rel_call_new (f := 13) 57 (kRow [sa, sb]) rfl (kRow_keeps _) rfl en13 (by kernel_rfl) (by kernel_rfl) (fun x => (upto_calls _ 3 [sa, sb, sc] 3 _ (hrow x) (by decide)).mono fun _ _ hg => gives_new hg) rfl ?_
  refine rel_seg 70 [_, _] _ _ (by kernel_rfl) rfl ?_
  repeat (go_big_quiet_step (fail))
  refine wpQuiet_nil ?_
  refine rel_run_new 60 (kRow [sa, sb]) rfl (kRow_keeps _) (by kernel_rfl) (by kernel_rfl) (fun x A hA => ?_) ?_
  · have e1 : slot A 58 = _ := hA 58 (by decide)
    have e2 : slot A 59 = _ := hA 59 (by decide)
    refine ⟨_, _, ?_, kRow_new x.on [sa, sb] 2, (Below.refl _ _).alloc (Nat.le_refl _) _⟩
    simp [slot] at e1 e2
    simp [go_sem, e1, e2]
    rfl
  refine rel_call_of (f := 15) (c := .bool true) rfl en15 (by kernel_rfl) (by kernel_rfl) (by kernel_rfl) (fun x A hA => ?_) ?_
  · obtain ⟨A1, c1, e1, r1⟩ : kRow _ (slot A 57) x.on := hA 57 (by decide)
    obtain ⟨A2, c2, e2, r2⟩ : kRow _ (slot A 60) x.on := hA 60 (by decide)
    have h1 := same_any A1 A2 c1 c2 _ _ x.on r1 r2 (by decide)
    rw [← e1, ← e2] at h1
    exact h1
  simp only [Act.put, List.setIfInBounds_toArray, List.set_cons_zero, List.set_cons_succ]
  refine rel_seg 70 [_, _, _, _] _ _ (by kernel_rfl) rfl ?_
  repeat (go_big_quiet_step (fail))
  refine wpQuiet_nil ?_
  refine rel_run_new 66 (kRow [sc, sa]) rfl (kRow_keeps _) (by kernel_rfl) (by kernel_rfl) (fun x A hA => ?_) ?_
  · have e1 : slot A 64 = _ := hA 64 (by decide)
    have e2 : slot A 65 = _ := hA 65 (by decide)
    refine ⟨_, _, ?_, kRow_new x.on [sc, sa] 2, (Below.refl _ _).alloc (Nat.le_refl _) _⟩
    simp [slot] at e1 e2
    simp [go_sem, e1, e2]
    rfl
  refine rel_call_of (f := 14) (c := .bool false) rfl en14 (by kernel_rfl) (by kernel_rfl) (by kernel_rfl) (fun x A hA => ?_) ?_
  · obtain ⟨A1, c1, e1, r1⟩ : kRow _ (slot A 66) x.on := hA 66 (by decide)
    have h1 := hRight_any A1 c1 _ x.on r1 (by decide)
    rw [← e1, right_no] at h1
    exact h1
  simp only [Act.put, List.setIfInBounds_toArray, List.set_cons_zero, List.set_cons_succ]
  refine rel_seg 70 [_, _, _] _ _ (by kernel_rfl) rfl ?_
  repeat (go_big_quiet_step (fail))
  refine wpQuiet_nil ?_
  refine rel_nil (by decide) fun x => ?_
  simp only [withNd]
  intros
  simp only [Act.put, List.setIfInBounds_toArray, List.set_cons_zero, List.set_cons_succ]
  go_wp2
  go_ret
  exact ⟨rfl, (exW_below w).trans (x.below.mono (exW_below w).size)⟩
end Go.Proofs.Ytndelolfhdliaaa
