/- How arguments are opened into plain data, field by field, and how a law's row follows out of its walk. -/
import Derived.WalkKit
import Derived.ProofKit
import Derived.OpenShut
import Derived.ShutString
import Derived.ChangeOld
import Derived.Below
import Derived.Deep.Slices
import Derived.Deep.Fields
import Derived.ChangeSame
namespace Go.Proofs.YtcjooalmhppkiaaRRRR
open Go.ChangeShapes Go.WideShapes Go.ChangeAt Go.RowKit Go.Deep

section
variable {H : Type} {enc : TypeId × Value → H} {P : Program} {w : World} {base : Nat} {spare : Nat → Bool} {held : Bool}

/-- A field of a struct type: its type, where it begins, how many cells it has. -/
def fieldInfo (P : Program) (t i : Nat) : Option (TypeId × Nat × Nat) :=
  match P.underlying t with
  | some (.struct fs) => (fs[i]?).map fun f => (f.type, f.offset, P.cellsOf f.type)
  | _ => none

/-- Something is read there. -/
def Read (enc : TypeId × Value → H) (P : Program) (w : World) (base : Nat) (spare : Nat → Bool) (held : Bool) (t : TypeId) (cs : List Value) : Prop := ∃ n y, DataW.trod enc P w base spare held n t cs = some y

theorem read_field {t i ft off sz : Nat} {cs : List Value} (hf : fieldInfo P t i = some (ft, off, sz)) (h : Read enc P w base spare held t cs) : Read enc P w base spare held ft ((cs.drop off).take sz) := by
  obtain ⟨n, y, h⟩ := h
  unfold fieldInfo at hf
  split at hf
  · rename_i fs hu
    obtain ⟨xs, m, _, _, _, hlen, hg⟩ := DataW.trod_struct hu h
    rcases hfi : fs[i]? with _ | f
    · rw [hfi] at hf; cases hf
    · rw [hfi] at hf
      simp only [Option.map_some, Option.some.injEq, Prod.mk.injEq] at hf
      obtain ⟨rfl, rfl, rfl⟩ := hf
      have h1 := hg i f hfi
      have hi : i < fs.size := (Array.getElem?_eq_some_iff.1 hfi).1
      have h2 : xs[i]? = some (xs[i]'(by omega)) := List.getElem?_eq_getElem (by omega)
      exact ⟨m, _, h1.trans h2⟩
  · cases hf

theorem read_len {t n : Nat} {cs : List Value} (hs : (match P.underlying t with | some (.struct _) => some (P.cellsOf t) | _ => none) = some n) (h : Read enc P w base spare held t cs) : cs.length = n := by
  obtain ⟨m, y, h⟩ := h
  split at hs
  · rename_i fs hu
    obtain ⟨_, _, _, _, hl, _⟩ := DataW.trod_struct hu h
    injection hs with hs
    omega
  · cases hs

theorem read_i64 {t : TypeId} {cs : List Value} (ht : P.underlying t = some (.int .i64)) (h : Read enc P w base spare held t cs) : ∃ n : Int, cs = [.int .i64 n] ∧ -9223372036854775808 ≤ n ∧ n ≤ 9223372036854775807 := by
  obtain ⟨m, y, h⟩ := h
  obtain ⟨n, hn, _, hw⟩ := DataW.trod_int ht h
  exact ⟨n, hn, bounds_i64 hw⟩
theorem read_u8 {t : TypeId} {cs : List Value} (ht : P.underlying t = some (.int .u8)) (h : Read enc P w base spare held t cs) : ∃ n : Int, cs = [.int .u8 n] ∧ 0 ≤ n ∧ n ≤ 255 := by
  obtain ⟨m, y, h⟩ := h
  obtain ⟨n, hn, _, hw⟩ := DataW.trod_int ht h
  exact ⟨n, hn, bounds_u8 hw⟩
theorem read_u32 {t : TypeId} {cs : List Value} (ht : P.underlying t = some (.int .u32)) (h : Read enc P w base spare held t cs) : ∃ n : Int, cs = [.int .u32 n] ∧ 0 ≤ n ∧ n ≤ 4294967295 := by
  obtain ⟨m, y, h⟩ := h
  obtain ⟨n, hn, _, hw⟩ := DataW.trod_int ht h
  refine ⟨n, hn, ?_⟩
  simp [Lit.wf, IntKind.min, IntKind.max, IntKind.signed, IntKind.bits] at hw
  omega
theorem read_u16 {t : TypeId} {cs : List Value} (ht : P.underlying t = some (.int .u16)) (h : Read enc P w base spare held t cs) : ∃ n : Int, cs = [.int .u16 n] ∧ 0 ≤ n ∧ n ≤ 65535 := by
  obtain ⟨m, y, h⟩ := h
  obtain ⟨n, hn, _, hw⟩ := DataW.trod_int ht h
  refine ⟨n, hn, ?_⟩
  simp [Lit.wf, IntKind.min, IntKind.max, IntKind.signed, IntKind.bits] at hw
  omega
theorem read_u64 {t : TypeId} {cs : List Value} (ht : P.underlying t = some (.int .u64)) (h : Read enc P w base spare held t cs) : ∃ n : Int, cs = [.int .u64 n] ∧ 0 ≤ n ∧ n ≤ 18446744073709551615 := by
  obtain ⟨m, y, h⟩ := h
  obtain ⟨n, hn, _, hw⟩ := DataW.trod_int ht h
  refine ⟨n, hn, ?_⟩
  simp [Lit.wf, IntKind.min, IntKind.max, IntKind.signed, IntKind.bits] at hw
  omega
theorem read_bool {t : TypeId} {cs : List Value} (ht : P.underlying t = some .bool) (h : Read enc P w base spare held t cs) : ∃ b : Bool, cs = [.bool b] := by
  obtain ⟨m, y, h⟩ := h
  obtain ⟨b, hb, _⟩ := DataW.trod_bool ht h
  exact ⟨b, hb⟩

/-- A slice: its elements, each read. -/
theorem read_slice {t e : TypeId} {sz : Nat} {cs : List Value} (ht : P.underlying t = some (.slice e)) (hc : P.cellsOf e = sz) (h : Read enc P w base spare held t cs) :
    ∃ (A : Option Addr) (len cap : Nat), cs = [.slice A len cap] ∧ len ≤ cap ∧ cap ≤ maxLen ∧ (len = 0 ∨ ∃ a, A = some a) ∧
      ∀ i, i < len → ∃ a cs', A = some a ∧ cs'.length = sz ∧ (∀ j, j < sz → w.cell? (a.add (i * sz + j)) = cs'[j]?) ∧ Read enc P w base spare held e cs' := by
  obtain ⟨m, y, h⟩ := h
  rcases open_slice ht h with ⟨rfl, _⟩ | ⟨a, len, cap, m', n, D, Pl, rfl, hb, hl, hm, hmm, hx, hi⟩
  · exact ⟨none, 0, 0, rfl, by omega, by unfold maxLen; omega, .inl rfl, fun i hi => by omega⟩
  · refine ⟨some a, len, cap, rfl, hl, hm, .inr ⟨a, rfl⟩, fun i hilt => ?_⟩
    obtain ⟨cs', hc', ht'⟩ := hi i (by rw [hmm]; split <;> omega)
    rw [hc] at hc'
    obtain ⟨_, hlen, hat⟩ := World.cells?_some hc'
    refine ⟨a, cs', rfl, hlen, fun j hj => ?_, n, _, ht'⟩
    rw [← hat j hj, Go.Deep.add_add]

/-- The cells of a slice's element, written out. -/
theorem addr_plain {a : Addr} {n : Nat} {v : Value} (h : w.cell? (a.add n) = some v) : a.spot = none ∨ n ≠ 0 := by
  by_cases hn : n = 0
  · subst hn
    simp only [Addr.add, if_true] at h
    exact .inl (by have := World.cell?_spot h; simpa using this)
  · exact .inr hn

theorem cell_lt {p : Addr} {v : Value} (h : w.cell? p = some v) : p.block < w.heap.size := by
  rcases Nat.lt_or_ge p.block w.heap.size with hlt | hge
  · exact hlt
  · simp [World.cell?, Array.getElem?_eq_none hge] at h

/-- A slice whose elements are read as data of a type of ours, sz cells each. -/
theorem read_rows {α : Type} {t e : TypeId} {sz : Nat} (cells : α → List Value) (ok : α → Prop) (hsz : 0 < sz) (hlen : ∀ x, (cells x).length = sz) (ht : P.underlying t = some (.slice e)) (hc : P.cellsOf e = sz)
    (hopen : ∀ cs, cs.length = sz → Read enc P w base spare held e cs → ∃ x, cs = cells x ∧ ok x) {cs : List Value} (h : Read enc P w base spare held t cs) :
    ∃ (A : Option Addr) (l : List α) (cap : Nat), cs = [.slice A l.length cap] ∧ l.length ≤ cap ∧ cap ≤ maxLen ∧ (∀ x ∈ l, ok x) ∧
      ∀ i x, l[i]? = some x → ∃ b o, A = some ⟨b, o, none⟩ ∧ b < w.heap.size ∧ ∀ j u, (cells x)[j]? = some u → w.cell? ⟨b, o + (i * sz + j), none⟩ = some u := by
  obtain ⟨A, len, cap, rfl, hl, hm, hA, hel⟩ := read_slice ht hc h
  have hch : ∀ i : Fin len, ∃ x, ok x ∧ ∃ a, A = some a ∧ ∀ j u, (cells x)[j]? = some u → w.cell? (a.add (i.1 * sz + j)) = some u := fun i => by
    obtain ⟨a, cs', e, hlen', hat, hr⟩ := hel i.1 i.2
    obtain ⟨x, rfl, hok⟩ := hopen cs' hlen' hr
    refine ⟨x, hok, a, e, fun j u hu => ?_⟩
    have hj : j < (cells x).length := (List.getElem?_eq_some_iff.1 hu).1
    rw [hat j (by rw [hlen] at hj; exact hj)]; exact hu
  let f : Fin len → α := fun i => Classical.choose (hch i)
  have hf : ∀ i, ok (f i) ∧ ∃ a, A = some a ∧ ∀ j u, (cells (f i))[j]? = some u → w.cell? (a.add (i.1 * sz + j)) = some u := fun i => Classical.choose_spec (hch i)
  refine ⟨A, List.ofFn f, cap, by simp, by simpa using hl, hm, fun x hx => ?_, fun i x hi => ?_⟩
  · obtain ⟨i, rfl⟩ := List.mem_ofFn.1 hx
    exact (hf i).1
  · have hil : i < len := by have := (List.getElem?_eq_some_iff.1 hi).1; simpa using this
    have hx : f ⟨i, hil⟩ = x := by simpa [hil] using hi
    obtain ⟨a, e, hc⟩ := (hf ⟨i, hil⟩).2
    rw [hx] at hc
    obtain ⟨b, o, s⟩ := a
    have hfirst := hf ⟨0, by omega⟩
    have h0 : ∃ u, (cells (f ⟨0, by omega⟩))[0]? = some u := ⟨_, List.getElem?_eq_getElem (by rw [hlen]; exact hsz)⟩
    obtain ⟨u0, hu0⟩ := h0
    obtain ⟨a', e', hc0⟩ := hfirst.2
    have hc00 := hc0 0 u0 hu0
    rw [e] at e'
    injection e' with e'
    subst e'
    have hs : s = none := by
      rcases addr_plain hc00 with h' | h'
      · exact h'
      · simp at h'
    subst hs
    have hadd : ∀ n, (⟨b, o, none⟩ : Addr).add n = ⟨b, o + n, none⟩ := fun n => by
      unfold Addr.add
      split
      · rename_i hn; subst hn; simp
      · rfl
    refine ⟨b, o, e, by have := cell_lt hc00; rw [hadd] at this; exact this, fun j u hu => ?_⟩
    have := hc j u hu
    rw [hadd] at this
    exact this
end

end Go.Proofs.YtcjooalmhppkiaaRRRR
