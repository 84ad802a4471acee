/- How the arguments of HistTwice, HistParts, HistMoved are opened. -/
import Derived.Test.YtndelolfhdliaaaOpen
namespace Go.Proofs.Ytndelolfhdliaaa
open Go.ChangeShapes Go.WideShapes Go.ChangeAt Go.RowKit
section
variable {H : Type} {enc : TypeId × Value → H} {w : World} {base : Nat} {spare : Nat → Bool} {held : Bool}

theorem open_twiceIn {v : Value} {r : Reach} {b0 : Nat} (hv : Value.okWide Try.prog w r b0 41 v) (r0 : Read enc Try.prog w base spare held 41 v.cells.toList) :
    ∃ (A : Option Addr) (h : List Call) (cap : Nat) (x1 x2 x3 x4 : Int), v = .agg #[.slice A h.length cap, .int .i64 x1, .int .i64 x2, .int .i64 x3, .int .i64 x4] ∧ h.length ≤ maxLen ∧ (∀ c ∈ h, c.Fits) ∧ CRow w w.heap.size A h := by
  obtain ⟨cs, rfl, hcs⟩ := okWide_struct Try.underlying41 hv
  obtain ⟨l⟩ := cs
  match l, hcs.trans (show Try.prog.cellsOf 41 = 5 by kernel_rfl) with
  | [c0, c1, c2, c3, c4], _ =>
    obtain ⟨A, h, cap, e0, hl, hok, hrow⟩ := open_hist (v := c0) (read_field (i := 0) (ft := 22) (off := 0) (sz := 1) (by kernel_rfl) r0)
    obtain ⟨x1, e1, w1⟩ := read_i64 Try.underlying3 (read_field (i := 1) (ft := 3) (off := 1) (sz := 1) (by kernel_rfl) r0)
    obtain ⟨x2, e2, w2⟩ := read_i64 Try.underlying3 (read_field (i := 2) (ft := 3) (off := 2) (sz := 1) (by kernel_rfl) r0)
    obtain ⟨x3, e3, w3⟩ := read_i64 Try.underlying3 (read_field (i := 3) (ft := 3) (off := 3) (sz := 1) (by kernel_rfl) r0)
    obtain ⟨x4, e4, w4⟩ := read_i64 Try.underlying3 (read_field (i := 4) (ft := 3) (off := 4) (sz := 1) (by kernel_rfl) r0)
    simp [Value.cells] at e1 e2 e3 e4
    subst e0 e1 e2 e3 e4
    exact ⟨A, h, cap, x1, x2, x3, x4, rfl, hl, hok, hrow⟩

theorem open_partsIn {v : Value} {r : Reach} {b0 : Nat} (hv : Value.okWide Try.prog w r b0 34 v) (r0 : Read enc Try.prog w base spare held 34 v.cells.toList) :
    ∃ (A : Option Addr) (h : List Call) (cap : Nat) (x1 x2 x3 : Int), v = .agg #[.slice A h.length cap, .int .u8 x1, .int .u8 x2, .int .i64 x3] ∧ h.length ≤ maxLen ∧ (∀ c ∈ h, c.Fits) ∧ CRow w w.heap.size A h ∧ (0 ≤ x1 ∧ x1 ≤ 255) ∧ (0 ≤ x2 ∧ x2 ≤ 255) := by
  obtain ⟨cs, rfl, hcs⟩ := okWide_struct Try.underlying34 hv
  obtain ⟨l⟩ := cs
  match l, hcs.trans (show Try.prog.cellsOf 34 = 4 by kernel_rfl) with
  | [c0, c1, c2, c3], _ =>
    obtain ⟨A, h, cap, e0, hl, hok, hrow⟩ := open_hist (v := c0) (read_field (i := 0) (ft := 22) (off := 0) (sz := 1) (by kernel_rfl) r0)
    obtain ⟨x1, e1, w1⟩ := read_u8 Try.underlying5 (read_field (i := 1) (ft := 5) (off := 1) (sz := 1) (by kernel_rfl) r0)
    obtain ⟨x2, e2, w2⟩ := read_u8 Try.underlying5 (read_field (i := 2) (ft := 5) (off := 2) (sz := 1) (by kernel_rfl) r0)
    obtain ⟨x3, e3, w3⟩ := read_i64 Try.underlying3 (read_field (i := 3) (ft := 3) (off := 3) (sz := 1) (by kernel_rfl) r0)
    simp [Value.cells] at e1 e2 e3
    subst e0 e1 e2 e3
    exact ⟨A, h, cap, x1, x2, x3, rfl, hl, hok, hrow, w1, w2⟩

theorem open_movedIn {v : Value} {r : Reach} {b0 : Nat} (hv : Value.okWide Try.prog w r b0 45 v) (r0 : Read enc Try.prog w base spare held 45 v.cells.toList) :
    ∃ (A : Option Addr) (h : List Call) (cap : Nat) (x1 x2 x3 : Int), v = .agg #[.slice A h.length cap, .int .u32 x1, .int .u8 x2, .int .u8 x3] ∧ h.length ≤ maxLen ∧ (∀ c ∈ h, c.Fits) ∧ CRow w w.heap.size A h ∧ (0 ≤ x1 ∧ x1 ≤ 4294967295) ∧ (0 ≤ x2 ∧ x2 ≤ 255) ∧ (0 ≤ x3 ∧ x3 ≤ 255) := by
  obtain ⟨cs, rfl, hcs⟩ := okWide_struct Try.underlying45 hv
  obtain ⟨l⟩ := cs
  match l, hcs.trans (show Try.prog.cellsOf 45 = 4 by kernel_rfl) with
  | [c0, c1, c2, c3], _ =>
    obtain ⟨A, h, cap, e0, hl, hok, hrow⟩ := open_hist (v := c0) (read_field (i := 0) (ft := 22) (off := 0) (sz := 1) (by kernel_rfl) r0)
    obtain ⟨x1, e1, w1⟩ := read_u32 Try.underlying43 (read_field (i := 1) (ft := 43) (off := 1) (sz := 1) (by kernel_rfl) r0)
    obtain ⟨x2, e2, w2⟩ := read_u8 Try.underlying5 (read_field (i := 2) (ft := 5) (off := 2) (sz := 1) (by kernel_rfl) r0)
    obtain ⟨x3, e3, w3⟩ := read_u8 Try.underlying5 (read_field (i := 3) (ft := 5) (off := 3) (sz := 1) (by kernel_rfl) r0)
    simp [Value.cells] at e1 e2 e3
    subst e0 e1 e2 e3
    exact ⟨A, h, cap, x1, x2, x3, rfl, hl, hok, hrow, w1, w2, w3⟩

theorem open_whole {v : Value} {r : Reach} {b0 : Nat} (hv : Value.okWide Try.prog w r b0 22 v) (r0 : Read enc Try.prog w base spare held 22 v.cells.toList) :
    ∃ (A : Option Addr) (h : List Call) (cap : Nat), v = .slice A h.length cap ∧ h.length ≤ maxLen ∧ (∀ c ∈ h, c.Fits) ∧ CRow w w.heap.size A h := by
  obtain ⟨a, len, cap, rfl⟩ := okWide_slice Try.underlying22 hv
  exact open_hist r0
end
end Go.Proofs.Ytndelolfhdliaaa
