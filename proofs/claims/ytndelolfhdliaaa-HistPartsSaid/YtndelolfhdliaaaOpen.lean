/- How a call, a history and the laws' arguments are opened. -/
import Derived.Test.YtndelolfhdliaaaBase
import Derived.Test.YtndelolfhdliaaaLift
namespace Go.Proofs.Ytndelolfhdliaaa
open Go.ChangeShapes Go.WideShapes Go.ChangeAt Go.RowKit

def i64B (n : Int) : Prop := -9223372036854775808 ≤ n ∧ n ≤ 9223372036854775807
/-- The numbers of a call fit. -/
def Call.Fits (c : Call) : Prop := i64B c.who ∧ i64B c.kind ∧ i64B c.obj ∧ i64B c.a ∧ i64B c.b ∧ i64B c.val ∧ i64B c.first ∧ i64B c.last ∧ i64B c.point

section
variable {H : Type} {enc : TypeId × Value → H} {w : World} {base : Nat} {spare : Nat → Bool} {held : Bool}

theorem open_call {cs : List Value} (hl : cs.length = 10) (h : Read enc Try.prog w base spare held 30 cs) : ∃ c : Call, cs = c.cells ∧ c.Fits := by
  match cs, hl with
  | [c0, c1, c2, c3, c4, c5, c6, c7, c8, c9], _ =>
    obtain ⟨x0, e0, w0⟩ := read_i64 Try.underlying3 (read_field (i := 0) (ft := 3) (off := 0) (sz := 1) (by kernel_rfl) h)
    have ho := read_field (i := 1) (ft := 28) (off := 1) (sz := 4) (by kernel_rfl) h
    obtain ⟨x1, e1, w1⟩ := read_i64 Try.underlying3 (read_field (i := 0) (ft := 3) (off := 0) (sz := 1) (by kernel_rfl) ho)
    obtain ⟨x2, e2, w2⟩ := read_i64 Try.underlying3 (read_field (i := 1) (ft := 3) (off := 1) (sz := 1) (by kernel_rfl) ho)
    obtain ⟨x3, e3, w3⟩ := read_i64 Try.underlying3 (read_field (i := 2) (ft := 3) (off := 2) (sz := 1) (by kernel_rfl) ho)
    obtain ⟨x4, e4, w4⟩ := read_i64 Try.underlying3 (read_field (i := 3) (ft := 3) (off := 3) (sz := 1) (by kernel_rfl) ho)
    obtain ⟨x5, e5, w5⟩ := read_i64 Try.underlying3 (read_field (i := 2) (ft := 3) (off := 5) (sz := 1) (by kernel_rfl) h)
    obtain ⟨x6, e6⟩ := read_bool Try.underlying4 (read_field (i := 3) (ft := 4) (off := 6) (sz := 1) (by kernel_rfl) h)
    obtain ⟨x7, e7, w7⟩ := read_i64 Try.underlying3 (read_field (i := 4) (ft := 3) (off := 7) (sz := 1) (by kernel_rfl) h)
    obtain ⟨x8, e8, w8⟩ := read_i64 Try.underlying3 (read_field (i := 5) (ft := 3) (off := 8) (sz := 1) (by kernel_rfl) h)
    obtain ⟨x9, e9, w9⟩ := read_i64 Try.underlying3 (read_field (i := 6) (ft := 3) (off := 9) (sz := 1) (by kernel_rfl) h)
    simp at e0 e1 e2 e3 e4 e5 e6 e7 e8 e9
    subst e0 e1 e2 e3 e4 e5 e6 e7 e8 e9
    exact ⟨⟨x0, x1, x2, x3, x4, x5, x6, x7, x8, x9⟩, rfl, w0, w1, w2, w3, w4, w5, w7, w8, w9⟩

/-- A history that came in. -/
def IsHist (w : World) (v : Value) : Prop := ∃ (A : Option Addr) (h : List Call) (cap : Nat), v = .slice A h.length cap ∧ h.length ≤ maxLen ∧ (∀ c ∈ h, c.Fits) ∧ CRow w w.heap.size A h

theorem open_hist {v : Value} (h : Read enc Try.prog w base spare held 22 [v]) : IsHist w v := by
  obtain ⟨A, l, cap, e, hl, hm, hok, hc⟩ := read_rows (e := 30) (sz := 10) Call.cells Call.Fits (by decide) (fun _ => rfl) Try.underlying22 (by kernel_rfl) (fun cs hlen hr => open_call hlen hr) h
  injection e with e _
  refine ⟨A, l, cap, e, by omega, hok, fun i c hi => ?_⟩
  obtain ⟨b, o, hA, hb, hcell⟩ := hc i c hi
  refine ⟨b, o, hA, hb, ?_⟩
  have k : ∀ j u, c.cells[j]? = some u → w.cell? ⟨b, o + i * 10 + j, none⟩ = some u := fun j u hu => by rw [Nat.add_assoc]; exact hcell j u hu
  exact ⟨k 0 _ rfl, k 1 _ rfl, k 2 _ rfl, k 3 _ rfl, k 4 _ rfl, k 5 _ rfl, k 6 _ rfl, k 7 _ rfl, k 8 _ rfl, k 9 _ rfl⟩

theorem open_orderIn {v : Value} {r : Reach} {b0 : Nat} (hv : Value.okWide Try.prog w r b0 24 v) (r0 : Read enc Try.prog w base spare held 24 v.cells.toList) :
    ∃ (A : Option Addr) (h : List Call) (cap : Nat) (x1 x2 x3 x4 : Int), v = .agg #[.slice A h.length cap, .int .u8 x1, .int .u8 x2, .int .u8 x3, .int .u8 x4] ∧ h.length ≤ maxLen ∧ (∀ c ∈ h, c.Fits) ∧ CRow w w.heap.size A h ∧
      (0 ≤ x1 ∧ x1 ≤ 255) ∧ (0 ≤ x2 ∧ x2 ≤ 255) ∧ (0 ≤ x3 ∧ x3 ≤ 255) ∧ (0 ≤ x4 ∧ x4 ≤ 255) := by
  obtain ⟨cs, rfl, hcs⟩ := okWide_struct Try.underlying24 hv
  obtain ⟨l⟩ := cs
  match l, hcs.trans (show Try.prog.cellsOf 24 = 5 by kernel_rfl) with
  | [c0, c1, c2, c3, c4], _ =>
    obtain ⟨A, h, cap, e0, hl, hok, hrow⟩ := open_hist (v := c0) (read_field (i := 0) (ft := 22) (off := 0) (sz := 1) (by kernel_rfl) r0)
    obtain ⟨x1, e1, w1⟩ := read_u8 Try.underlying5 (read_field (i := 1) (ft := 5) (off := 1) (sz := 1) (by kernel_rfl) r0)
    obtain ⟨x2, e2, w2⟩ := read_u8 Try.underlying5 (read_field (i := 2) (ft := 5) (off := 2) (sz := 1) (by kernel_rfl) r0)
    obtain ⟨x3, e3, w3⟩ := read_u8 Try.underlying5 (read_field (i := 3) (ft := 5) (off := 3) (sz := 1) (by kernel_rfl) r0)
    obtain ⟨x4, e4, w4⟩ := read_u8 Try.underlying5 (read_field (i := 4) (ft := 5) (off := 4) (sz := 1) (by kernel_rfl) r0)
    simp [Value.cells] at e1 e2 e3 e4
    subst e0 e1 e2 e3 e4
    exact ⟨A, h, cap, x1, x2, x3, x4, rfl, hl, hok, hrow, w1, w2, w3, w4⟩
end

end Go.Proofs.Ytndelolfhdliaaa
