/- Arrays of six small numbers as arguments. -/
import Derived.Test.YtknancnmdpdefaaOpenL
import Derived.Test.YtknancnmdpdefaaL11
namespace Go.Proofs.Ytknancnmdpdefaa
open Go.ChangeShapes Go.WideShapes Go.ChangeAt Go.RowKit Go.Deep
section
variable {H : Type} {enc : TypeId × Value → H} {P : Program} {w : World} {base : Nat} {spare : Nat → Bool} {held : Bool} {v : Value} {r : Reach} {b0 : Nat}
theorem okWide_array {t e : TypeId} {n : Nat} (hu : P.underlying t = some (.array n e)) (hv : Value.okWide P w r b0 t v) : ∃ cs, v = .agg cs ∧ cs.size = P.cellsOf t := by
  simp only [Value.okWide, hu] at hv
  obtain ⟨cs, h1, h2, _⟩ := hv
  exact ⟨cs, h1, h2⟩
theorem read_elem {t e : TypeId} {n : Nat} {cs : List Value} (hu : P.underlying t = some (.array n e)) (hc : P.cellsOf e = 1) (h : Read enc P w base spare held t cs) : ∀ i, i < n → Read enc P w base spare held e ((cs.drop i).take 1) := by
  obtain ⟨m, y, h⟩ := h
  obtain ⟨xs, m', _, _, _, hl, hx⟩ := DataW.trod_array hu h
  intro i hi
  have h1 := hx i hi
  rw [hc, Nat.mul_one] at h1
  have h2 : xs[i]? = some (xs[i]'(by omega)) := List.getElem?_eq_getElem (by omega)
  exact ⟨m', _, h1.trans h2⟩
theorem arg_six (hv : Value.okWide Try.prog w r b0 55 v) (h : Read enc Try.prog w base spare held 55 v.cells.toList) : ∃ a b c d e f : Int, Six a b c d e f ∧ DRep (envA w) v (.agg [dK .u16 a, dK .u16 b, dK .u16 c, dK .u16 d, dK .u16 e, dK .u16 f]) := by
  obtain ⟨cs, rfl, hcs⟩ := okWide_array Try.underlying55 hv
  rw [show Try.prog.cellsOf 55 = 6 by kernel_rfl] at hcs
  obtain ⟨l⟩ := cs
  have hl : l.length = 6 := by simpa using hcs
  have h' : Read enc Try.prog w base spare held 55 l := h
  have hr := read_elem Try.underlying55 (by kernel_rfl) h'
  match l, hl with
  | [c0, c1, c2, c3, c4, c5], _ =>
    obtain ⟨x0, e0, w0⟩ := read_u16 Try.underlying44 (hr 0 (by omega))
    obtain ⟨x1, e1, w1⟩ := read_u16 Try.underlying44 (hr 1 (by omega))
    obtain ⟨x2, e2, w2⟩ := read_u16 Try.underlying44 (hr 2 (by omega))
    obtain ⟨x3, e3, w3⟩ := read_u16 Try.underlying44 (hr 3 (by omega))
    obtain ⟨x4, e4, w4⟩ := read_u16 Try.underlying44 (hr 4 (by omega))
    obtain ⟨x5, e5, w5⟩ := read_u16 Try.underlying44 (hr 5 (by omega))
    simp at e0 e1 e2 e3 e4 e5
    subst e0 e1 e2 e3 e4 e5
    refine ⟨x0, x1, x2, x3, x4, x5, ⟨w0, w1, w2, w3, w4, w5⟩, ?_⟩
    have hh : DReps (envA w) [.int .u16 x0, .int .u16 x1, .int .u16 x2, .int .u16 x3, .int .u16 x4, .int .u16 x5] [dK .u16 x0, dK .u16 x1, dK .u16 x2, dK .u16 x3, dK .u16 x4, dK .u16 x5] :=
      DReps.cons (.p (.raw _)) (DReps.cons (.p (.raw _)) (DReps.cons (.p (.raw _)) (DReps.cons (.p (.raw _)) (DReps.cons (.p (.raw _)) (DReps.cons (.p (.raw _)) (DReps.nil _))))))
    exact .agg hh.1 hh.2
end
end Go.Proofs.Ytknancnmdpdefaa
