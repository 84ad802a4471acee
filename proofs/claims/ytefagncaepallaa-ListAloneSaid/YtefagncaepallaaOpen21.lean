/- How the arguments of this seat's laws are opened. -/
import Derived.Test.YtefagncaepallaaE6
import Derived.Test.YtefagncaepallaaShort
namespace Go.Proofs.Ytefagncaepallaa
open Go.ChangeShapes Go.WideShapes Go.ChangeAt Go.RowKit Go.Deep
set_option maxRecDepth 100000
def i64B (n : Int) : Prop := -9223372036854775808 ≤ n ∧ n ≤ 9223372036854775807
theorem map_flat {α : Type} (f : α → Pl) : ∀ l : List α, l.map f = l.flatMap fun x => [f x]
  | [] => rfl
  | x :: l => by rw [List.map_cons, List.flatMap_cons, map_flat f l]; rfl
section
variable {H : Type} {enc : TypeId × Value → H} {w : World} {base : Nat} {spare : Nat → Bool} {held : Bool} {v : Value} {r : Reach} {b0 : Nat}
def OpT.Fits (o : OpT) : Prop := i64B o.kind ∧ i64B o.obj ∧ i64B o.a ∧ i64B o.b
theorem rd_op (cs : List Value) (hl : cs.length = 4) (h : Read enc Try.prog w base spare held 42 cs) : ∃ o : OpT, o.Fits ∧ PReps (envA w) cs (pOp o) := by
  match cs, hl with
  | [c0, c1, c2, c3], _ =>
    obtain ⟨x0, e0, w0⟩ := read_i64 Try.underlying3 (read_field (i := 0) (ft := 3) (off := 0) (sz := 1) (by kernel_rfl) h)
    obtain ⟨x1, e1, w1⟩ := read_i64 Try.underlying3 (read_field (i := 1) (ft := 3) (off := 1) (sz := 1) (by kernel_rfl) h)
    obtain ⟨x2, e2, w2⟩ := read_i64 Try.underlying3 (read_field (i := 2) (ft := 3) (off := 2) (sz := 1) (by kernel_rfl) h)
    obtain ⟨x3, e3, w3⟩ := read_i64 Try.underlying3 (read_field (i := 3) (ft := 3) (off := 3) (sz := 1) (by kernel_rfl) h)
    simp at e0 e1 e2 e3
    subst e0 e1 e2 e3
    exact ⟨⟨x0, x1, x2, x3⟩, ⟨w0, w1, w2, w3⟩, PReps.int (PReps.int (PReps.int (PReps.int (PReps.nil _))))⟩
theorem rd_ops {v : Value} (h : Read enc Try.prog w base spare held 61 [v]) : ∃ l : List OpT, (∀ x ∈ l, x.Fits) ∧ l.length ≤ maxLen ∧ PRep (envA w) v (plOps l) ∧ leafV v = true :=
  read_sl (e := 42) (sz := 4) pOp OpT.Fits (by decide) (fun _ => rfl) Try.underlying61 (by kernel_rfl) (fun cs hlen hr => rd_op cs hlen hr) h
def WantOk (l : List OpT) : Prop := l.length ≤ maxLen ∧ ∀ x ∈ l, x.Fits
theorem rd_want {v : Value} (h : Read enc Try.prog w base spare held 22 [v]) : ∃ l : List (List OpT), (∀ x ∈ l, WantOk x) ∧ l.length ≤ maxLen ∧ PRep (envA w) v (.sl false l.length (l.map plOps)) ∧ leafV v = true := by
  obtain ⟨l, h1, h2, h3, h4⟩ := read_sl (e := 61) (sz := 1) (fun x : List OpT => [plOps x]) WantOk (by decide) (fun _ => rfl) Try.underlying22 (by kernel_rfl) (fun cs hlen hr => by
    match cs, hlen with
    | [c], _ =>
      obtain ⟨x, k1, k2, k3, k4⟩ := rd_ops hr
      exact ⟨x, ⟨k2, k1⟩, PReps.cons k3 k4 (PReps.nil _)⟩) h
  refine ⟨l, h1, h2, ?_, h4⟩
  rw [map_flat]; exact h3
theorem rd_u8s {v : Value} (h : Read enc Try.prog w base spare held 23 [v]) : ∃ l : List Int, (∀ x ∈ l, 0 ≤ x ∧ x ≤ 255) ∧ l.length ≤ maxLen ∧ PRep (envA w) v (.sl false l.length (l.map p8)) ∧ leafV v = true := by
  obtain ⟨l, h1, h2, h3, h4⟩ := read_sl (e := 5) (sz := 1) (fun x : Int => [p8 x]) (fun x => 0 ≤ x ∧ x ≤ 255) (by decide) (fun _ => rfl) Try.underlying23 (by kernel_rfl) (fun cs hlen hr => by
    obtain ⟨n, e, hn⟩ := read_u8 Try.underlying5 hr
    subst e
    exact ⟨n, hn, PReps.int (PReps.nil _)⟩) h
  refine ⟨l, h1, h2, ?_, h4⟩
  rw [map_flat]; exact h3
structure PlayFits (p : PlayT) : Prop where
  n : 0 ≤ p.nodes ∧ p.nodes ≤ 255
  w : p.want.length ≤ maxLen
  ws : ∀ x ∈ p.want, WantOk x
  t : p.turns.length ≤ maxLen
  ts : ∀ x ∈ p.turns, 0 ≤ x ∧ x ≤ 255
def pPlay (p : PlayT) : List Pl := [.raw (.int .u8 p.nodes), .sl false p.want.length (p.want.map plOps), .sl false p.turns.length (p.turns.map p8)]
theorem rd_play (cs : List Value) (hl : cs.length = 3) (h : Read enc Try.prog w base spare held 25 cs) : ∃ p : PlayT, PlayFits p ∧ PReps (envA w) cs (pPlay p) := by
  match cs, hl with
  | [c0, c1, c2], _ =>
    obtain ⟨x0, e0, w0⟩ := read_u8 Try.underlying5 (read_field (i := 0) (ft := 5) (off := 0) (sz := 1) (by kernel_rfl) h)
    obtain ⟨l1, h1, h2, h3, h4⟩ := rd_want (v := c1) (read_field (i := 1) (ft := 22) (off := 1) (sz := 1) (by kernel_rfl) h)
    obtain ⟨l2, g1, g2, g3, g4⟩ := rd_u8s (v := c2) (read_field (i := 2) (ft := 23) (off := 2) (sz := 1) (by kernel_rfl) h)
    simp at e0
    subst e0
    exact ⟨⟨x0, l1, l2⟩, ⟨w0, h2, h1, g2, g1⟩, PReps.int (PReps.cons h3 h4 (PReps.cons g3 g4 (PReps.nil _)))⟩
theorem arg_play (hv : Value.okWide Try.prog w r b0 25 v) (h : Read enc Try.prog w base spare held 25 v.cells.toList) : ∃ p : PlayT, PlayFits p ∧ DRep (envA w) v (dPlay p) :=
  arg_agg pPlay PlayFits Try.underlying25 hv h fun cs hl => rd_play cs (hl.trans (show Try.prog.cellsOf 25 = 3 by kernel_rfl))
theorem arg_u8 {t : TypeId} (ht : Try.prog.underlying t = some (.int .u8)) (hv : Value.okWide Try.prog w r b0 t v) (h : Read enc Try.prog w base spare held t v.cells.toList) : ∃ n : Int, (0 ≤ n ∧ n ≤ 255) ∧ DRep (envA w) v (dK .u8 n) := by
  obtain ⟨n, rfl⟩ := okWide_int ht hv
  obtain ⟨m, e, hm⟩ := read_u8 ht h
  cases e
  exact ⟨_, hm, .p (.raw _)⟩
end
end Go.Proofs.Ytefagncaepallaa
