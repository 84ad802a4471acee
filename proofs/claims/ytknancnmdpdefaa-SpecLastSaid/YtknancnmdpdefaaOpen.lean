/- How contents and operations that came in are opened. -/
import Derived.Test.YtknancnmdpdefaaEff
import Derived.Test.YtknancnmdpdefaaLift
namespace Go.Proofs.Ytknancnmdpdefaa
open Go.ChangeShapes Go.WideShapes Go.ChangeAt Go.RowKit Go.Deep

def i64B (n : Int) : Prop := -9223372036854775808 ≤ n ∧ n ≤ 9223372036854775807
def OpT.Fits (o : OpT) : Prop := i64B o.kind ∧ i64B o.obj ∧ i64B o.a ∧ i64B o.b
section
variable {H : Type} {enc : TypeId × Value → H} {w : World} {base : Nat} {spare : Nat → Bool} {held : Bool}

theorem read_none {P : Program} {t e : TypeId} {len cap : Nat} (ht : P.underlying t = some (.slice e)) (h : Read enc P w base spare held t [.slice none len cap]) : cap = 0 := by
  obtain ⟨m, y, h⟩ := h
  rcases open_slice ht h with ⟨e, _⟩ | ⟨a, len, cap, m', n, D, Pl, e, hb, hl, hm, hmm, hx, hi⟩
  · simp at e; omega
  · simp at e

theorem open_ints {v : Value} (h : Read enc Try.prog w base spare held 22 [v]) : ∃ (A : Option Addr) (l : List Int) (cap : Nat), v = .slice A l.length cap ∧ l.length ≤ cap ∧ cap ≤ maxLen ∧ (A = none → cap = 0) ∧ (∀ x ∈ l, i64B x) ∧ RowIn ints w A l := by
  obtain ⟨A, l, cap, e, hl, hm, hok, hc⟩ := read_rows (e := 3) (sz := 1) (fun x : Int => [.int .i64 x]) i64B (by decide) (fun _ => rfl) Try.underlying22 (by kernel_rfl) (fun cs hlen hr => by
    obtain ⟨n, e, hn⟩ := read_i64 Try.underlying3 hr
    exact ⟨n, e, hn⟩) h
  injection e with e _
  subst e
  refine ⟨A, l, cap, rfl, hl, hm, fun e => ?_, hok, fun i x hi => ?_⟩
  · subst e; exact read_none Try.underlying22 h
  · obtain ⟨b, o, hA, hb, hcell⟩ := hc i x hi
    exact ⟨b, o, hA, hb, fun j u hu => by have := hcell j u hu; rw [Nat.add_assoc]; exact this⟩

theorem open_op {cs : List Value} (hl : cs.length = 4) (h : Read enc Try.prog w base spare held 26 cs) : ∃ o : OpT, cs = o.cells ∧ o.Fits := by
  match cs, hl with
  | [c0, c1, c2, c3], _ =>
    obtain ⟨x0, e0, w0⟩ := read_i64 Try.underlying3 (read_field (i := 0) (ft := 3) (off := 0) (sz := 1) (by kernel_rfl) h)
    obtain ⟨x1, e1, w1⟩ := read_i64 Try.underlying3 (read_field (i := 1) (ft := 3) (off := 1) (sz := 1) (by kernel_rfl) h)
    obtain ⟨x2, e2, w2⟩ := read_i64 Try.underlying3 (read_field (i := 2) (ft := 3) (off := 2) (sz := 1) (by kernel_rfl) h)
    obtain ⟨x3, e3, w3⟩ := read_i64 Try.underlying3 (read_field (i := 3) (ft := 3) (off := 3) (sz := 1) (by kernel_rfl) h)
    simp at e0 e1 e2 e3
    subst e0 e1 e2 e3
    exact ⟨⟨x0, x1, x2, x3⟩, rfl, w0, w1, w2, w3⟩

theorem open_ops {v : Value} (h : Read enc Try.prog w base spare held 33 [v]) : ∃ (A : Option Addr) (l : List OpT) (cap : Nat), v = .slice A l.length cap ∧ l.length ≤ cap ∧ cap ≤ maxLen ∧ (A = none → cap = 0) ∧ (∀ x ∈ l, x.Fits) ∧ RowIn opsT w A l := by
  obtain ⟨A, l, cap, e, hl, hm, hok, hc⟩ := read_rows (e := 26) (sz := 4) OpT.cells OpT.Fits (by decide) (fun _ => rfl) Try.underlying33 (by kernel_rfl) (fun cs hlen hr => open_op hlen hr) h
  injection e with e _
  subst e
  refine ⟨A, l, cap, rfl, hl, hm, fun e => ?_, hok, fun i x hi => ?_⟩
  · subst e; exact read_none Try.underlying33 h
  · obtain ⟨b, o, hA, hb, hcell⟩ := hc i x hi
    exact ⟨b, o, hA, hb, fun j u hu => by have := hcell j u hu; rw [Nat.add_assoc]; exact this⟩

theorem open_opIn {v : Value} {r : Reach} {b0 : Nat} (hv : Value.okWide Try.prog w r b0 26 v) (r0 : Read enc Try.prog w base spare held 26 v.cells.toList) : ∃ o : OpT, v = .agg #[.int .i64 o.kind, .int .i64 o.obj, .int .i64 o.a, .int .i64 o.b] ∧ o.Fits := by
  obtain ⟨cs, rfl, hcs⟩ := okWide_struct Try.underlying26 hv
  obtain ⟨l⟩ := cs
  obtain ⟨o, e, ho⟩ := open_op (hcs.trans (show Try.prog.cellsOf 26 = 4 by kernel_rfl)) r0
  have e' : l = o.cells := e
  subst e'
  exact ⟨o, rfl, ho⟩

theorem open_contIn {v : Value} {r : Reach} {b0 : Nat} (hv : Value.okWide Try.prog w r b0 24 v) (r0 : Read enc Try.prog w base spare held 24 v.cells.toList) :
    ∃ (c : Cont) (Ak : Option Addr) (q1 : Nat) (Av : Option Addr) (q2 : Nat), v = .agg #[.int .i64 c.kind, .slice Ak c.keys.length q1, .slice Av c.vals.length q2] ∧ CIn w c Ak q1 Av q2 ∧ i64B c.kind ∧ (∀ x ∈ c.keys, i64B x) ∧ (∀ x ∈ c.vals, i64B x) := by
  obtain ⟨cs, rfl, hcs⟩ := okWide_struct Try.underlying24 hv
  obtain ⟨l⟩ := cs
  match l, hcs.trans (show Try.prog.cellsOf 24 = 3 by kernel_rfl) with
  | [c0, c1, c2], _ =>
    obtain ⟨x0, e0, w0⟩ := read_i64 Try.underlying3 (read_field (i := 0) (ft := 3) (off := 0) (sz := 1) (by kernel_rfl) r0)
    obtain ⟨A1, l1, p1, e1, h1, h2, h3, h4, h5⟩ := open_ints (v := c1) (read_field (i := 1) (ft := 22) (off := 1) (sz := 1) (by kernel_rfl) r0)
    obtain ⟨A2, l2, p2, e2, g1, g2, g3, g4, g5⟩ := open_ints (v := c2) (read_field (i := 2) (ft := 22) (off := 2) (sz := 1) (by kernel_rfl) r0)
    simp [Value.cells] at e0
    subst e0 e1 e2
    exact ⟨⟨x0, l1, l2⟩, A1, p1, A2, p2, rfl, ⟨h5, h1, h2, h3, g5, g1, g2, g3⟩, w0, h4, g4⟩
end
end Go.Proofs.Ytknancnmdpdefaa
