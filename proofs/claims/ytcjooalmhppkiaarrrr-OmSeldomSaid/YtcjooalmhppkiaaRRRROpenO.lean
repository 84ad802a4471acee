/- How the arguments of the laws of orders are opened. -/
import Derived.Test.YtcjooalmhppkiaaRRRRC5
import Derived.Test.YtcjooalmhppkiaaRRRROpenD
namespace Go.Proofs.YtcjooalmhppkiaaRRRR
open Go.ChangeShapes Go.WideShapes Go.ChangeAt Go.RowKit Go.Deep
theorem pInts_flat : ∀ l : List Int, pInts l = l.flatMap fun x => [pI x]
  | [] => rfl
  | x :: l => by
    have := pInts_flat l
    unfold pInts at this ⊢
    rw [List.map_cons, List.flatMap_cons, this]; rfl
theorem pU8s_flat : ∀ l : List Int, pU8s l = l.flatMap fun x => [pK .u8 x]
  | [] => rfl
  | x :: l => by
    have := pU8s_flat l
    unfold pU8s at this ⊢
    rw [List.map_cons, List.flatMap_cons, this]; rfl
def i64B (n : Int) : Prop := -9223372036854775808 ≤ n ∧ n ≤ 9223372036854775807
def byteB (n : Int) : Prop := 0 ≤ n ∧ n ≤ 255
section
variable {H : Type} {enc : TypeId × Value → H} {w : World} {base : Nat} {spare : Nat → Bool} {held : Bool} {v : Value} {r : Reach} {b0 : Nat}
theorem rd_ints {v : Value} (h : Read enc Try.prog w base spare held 24 [v]) : ∃ l : List Int, (∀ x ∈ l, i64B x) ∧ l.length ≤ maxLen ∧ PRep (envA w) v (.sl false l.length (pInts l)) ∧ leafV v = true := by
  obtain ⟨l, h1, h2, h3, h4⟩ := read_sl (e := 3) (sz := 1) (fun x : Int => [pI x]) i64B (by decide) (fun _ => rfl) Try.underlying24 (by kernel_rfl) (fun cs hlen hr => by
    obtain ⟨n, e, hn⟩ := read_i64 Try.underlying3 hr
    subst e
    exact ⟨n, hn, PReps.int (PReps.nil _)⟩) h
  refine ⟨l, h1, h2, ?_, h4⟩
  rw [pInts_flat]; exact h3
theorem rd_u8s {v : Value} (h : Read enc Try.prog w base spare held 22 [v]) : ∃ l : List Int, (∀ x ∈ l, byteB x) ∧ l.length ≤ maxLen ∧ PRep (envA w) v (.sl false l.length (pU8s l)) ∧ leafV v = true := by
  obtain ⟨l, h1, h2, h3, h4⟩ := read_sl (e := 5) (sz := 1) (fun x : Int => [pK .u8 x]) byteB (by decide) (fun _ => rfl) Try.underlying22 (by kernel_rfl) (fun cs hlen hr => by
    obtain ⟨n, e, hn⟩ := read_u8 Try.underlying5 hr
    subst e
    exact ⟨n, hn, PReps.cons (.raw _) rfl (PReps.nil _)⟩) h
  refine ⟨l, h1, h2, ?_, h4⟩
  rw [pU8s_flat]; exact h3
theorem arg_u8s (hv : Value.okWide Try.prog w r b0 22 v) (h : Read enc Try.prog w base spare held 22 v.cells.toList) : ∃ l : List Int, (∀ x ∈ l, byteB x) ∧ l.length ≤ maxLen ∧ DRep (envA w) v (dU8s l) := by
  obtain ⟨a, len, cap, rfl⟩ := okWide_slice Try.underlying22 hv
  obtain ⟨l, h1, h2, h3, _⟩ := rd_u8s (v := .slice a len cap) h
  exact ⟨l, h1, h2, .p h3⟩
def pOrd (l : List Int) : List Pl := [.sl false l.length (pInts l)]
def OrdFits (l : List Int) : Prop := ∀ x ∈ l, i64B x
theorem rd_ord (cs : List Value) (hl : cs.length = 1) (h : Read enc Try.prog w base spare held 26 cs) : ∃ l : List Int, OrdFits l ∧ PReps (envA w) cs (pOrd l) := by
  match cs, hl with
  | [c0], _ =>
    obtain ⟨l, h1, _, h3, h4⟩ := rd_ints (v := c0) (read_field (i := 0) (ft := 24) (off := 0) (sz := 1) (by kernel_rfl) h)
    exact ⟨l, h1, PReps.cons h3 h4 (PReps.nil _)⟩
theorem arg_ord (hv : Value.okWide Try.prog w r b0 26 v) (h : Read enc Try.prog w base spare held 26 v.cells.toList) : ∃ l : List Int, OrdFits l ∧ DRep (envA w) v (dOrd l) :=
  arg_agg pOrd OrdFits Try.underlying26 hv h fun cs hl => rd_ord cs (hl.trans (show Try.prog.cellsOf 26 = 1 by kernel_rfl))
structure TotT where
  ls : List Int
  x : Int
  y : Int
  z : Int
def TotT.Fits (t : TotT) : Prop := byteB t.x ∧ byteB t.y ∧ byteB t.z
def pTot (t : TotT) : List Pl := [.sl false t.ls.length (pInts t.ls), pK .u8 t.x, pK .u8 t.y, pK .u8 t.z]
theorem rd_tot (cs : List Value) (hl : cs.length = 4) (h : Read enc Try.prog w base spare held 37 cs) : ∃ t : TotT, t.Fits ∧ PReps (envA w) cs (pTot t) := by
  match cs, hl with
  | [c0, c1, c2, c3], _ =>
    obtain ⟨l, h1, h3⟩ := rd_ord [c0] rfl (read_field (i := 0) (ft := 26) (off := 0) (sz := 1) (by kernel_rfl) h)
    obtain ⟨x1, e1, w1⟩ := read_u8 Try.underlying5 (read_field (i := 1) (ft := 5) (off := 1) (sz := 1) (by kernel_rfl) h)
    obtain ⟨x2, e2, w2⟩ := read_u8 Try.underlying5 (read_field (i := 2) (ft := 5) (off := 2) (sz := 1) (by kernel_rfl) h)
    obtain ⟨x3, e3, w3⟩ := read_u8 Try.underlying5 (read_field (i := 3) (ft := 5) (off := 3) (sz := 1) (by kernel_rfl) h)
    simp at e1 e2 e3
    subst e1 e2 e3
    obtain ⟨_, k3⟩ := h3
    exact ⟨⟨l, x1, x2, x3⟩, ⟨w1, w2, w3⟩, PReps.cons (k3 0 _ _ rfl rfl).1 (k3 0 _ _ rfl rfl).2 (PReps.cons (.raw _) rfl (PReps.cons (.raw _) rfl (PReps.cons (.raw _) rfl (PReps.nil _))))⟩
theorem arg_tot (hv : Value.okWide Try.prog w r b0 37 v) (h : Read enc Try.prog w base spare held 37 v.cells.toList) : ∃ t : TotT, t.Fits ∧ DRep (envA w) v (dTot t.ls t.x t.y t.z) :=
  arg_agg pTot TotT.Fits Try.underlying37 hv h fun cs hl => rd_tot cs (hl.trans (show Try.prog.cellsOf 37 = 4 by kernel_rfl))
end
section
variable {H : Type} {enc : TypeId × Value → H} {P : Program} {w : World} {base : Nat} {spare : Nat → Bool} {held : Bool} {v : Value} {r : Reach} {b0 : Nat}
theorem arg_u8 {t : TypeId} (ht : P.underlying t = some (.int .u8)) (hv : Value.okWide P w r b0 t v) (h : Read enc P w base spare held t v.cells.toList) : ∃ n : Int, (0 ≤ n ∧ n ≤ 255) ∧ DRep (envA w) v (dK .u8 n) := by
  obtain ⟨n, rfl⟩ := okWide_int ht hv
  obtain ⟨m, e, hm⟩ := read_u8 ht h
  cases e
  exact ⟨_, hm, .p (.raw _)⟩
theorem arg_u16 {t : TypeId} (ht : P.underlying t = some (.int .u16)) (hv : Value.okWide P w r b0 t v) (h : Read enc P w base spare held t v.cells.toList) : ∃ n : Int, (0 ≤ n ∧ n ≤ 65535) ∧ DRep (envA w) v (dK .u16 n) := by
  obtain ⟨n, rfl⟩ := okWide_int ht hv
  obtain ⟨m, e, hm⟩ := read_u16 ht h
  cases e
  exact ⟨_, hm, .p (.raw _)⟩
end
end Go.Proofs.YtcjooalmhppkiaaRRRR
