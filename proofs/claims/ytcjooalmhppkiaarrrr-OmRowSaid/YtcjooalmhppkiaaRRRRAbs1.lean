/- Plain data behind Go's values: what a value reads as in a world, and worlds that have grown. -/
import Derived.WalkKit
import Derived.WalkSpells
import Derived.WalkLawsBesides
import Derived.BigQuiet
import Derived.Lib.Hide
import Derived.Maps.AppendAt
namespace Go.Proofs.YtcjooalmhppkiaaRRRR
open Go.RowKit

/-- What one cell holds, read to its bottom: a value that tells nothing of memory, or a slice of n elements with all its cells. -/
inductive Pl where
  | raw (v : Value)
  | sl (ex : Bool) (n : Nat) (ps : List Pl)

/-- What is known of a slot, or of a cell of a variable: plain data; a struct or an array; several results; a pointer into a variable of ours; a pointer to cells that read so; a slice to which may be appended; a slice over a variable of ours; a function value; nothing. -/
inductive Dt where
  | p (x : Pl)
  | agg (ds : List Dt)
  | tup (ds : List Dt)
  | ptr (b o : Nat)
  | el (ps : List Pl)
  | tip (g n : Nat) (ps : List Pl)
  | arr (b o n c : Nat)
  | fn (f : Fn) (first caps : List Dt)
  | any

/-- A group of rows: its element's type, how many cells an element has, how many elements are claimed. -/
structure Gr where
  el : TypeId
  sz : Nat
  len : Nat

/-- A world, how many cells of each block are claimed (none: all), where variables lie, which rows are of which group, and the groups. -/
structure Env where
  w : World
  cl : Nat → Option Nat
  bx : Nat → Option Nat
  gr : Nat → Option Nat
  gi : Nat → Option Gr

def Env.claimed (e : Env) (b o : Nat) : Prop := ∀ k, e.cl b = some k → o < k

/-- The value of one cell. -/
def leafV (v : Value) : Bool := v.oneCell'

inductive PRep (e : Env) : Value → Pl → Prop where
  | raw (v : Value) : PRep e v (.raw v)
  | sl {A : Option Addr} {n cap : Nat} {ex : Bool} {ps : List Pl} (f : Nat → Value) (h1 : n ≤ cap) (h2 : cap ≤ maxLen) (h3 : A = none → cap = 0) (h4 : ex = true → cap = n)
      (h5 : ∀ i x, ps[i]? = some x → ∃ b o, A = some ⟨b, o, none⟩ ∧ e.claimed b (o + i) ∧ e.w.cell? ⟨b, o + i, none⟩ = some (f i) ∧ leafV (f i) = true)
      (h6 : ∀ i x, ps[i]? = some x → PRep e (f i) x) : PRep e (.slice A n cap) (.sl ex n ps)

/-- Cells that read so, from an address on. -/
def ElAt (e : Env) (b o : Nat) (ps : List Pl) : Prop :=
  ∃ f : Nat → Value, ∀ i x, ps[i]? = some x → e.claimed b (o + i) ∧ e.w.cell? ⟨b, o + i, none⟩ = some (f i) ∧ leafV (f i) = true ∧ PRep e (f i) x

/-- A row of a group. -/
structure RowOf (e : Env) (G : Gr) (g k cap : Nat) : Prop where
  gr : e.gr k = some g
  row : ∃ cur, e.w.heap[k]? = some (.cells cur G.el (0, 0)) ∧ cur.size = cap * G.sz

/-- May be appended to: the row is full, or it is a row of the group. -/
def TipAt (e : Env) (v : Value) (g n m : Nat) : Prop :=
  ∃ G A cap, e.gi g = some G ∧ v = .slice A n cap ∧ n ≤ G.len ∧ m = n * G.sz ∧ (cap = n ∨ ∃ k, A = some ⟨k, 0, none⟩ ∧ RowOf e G g k cap)

inductive DRep (e : Env) : Value → Dt → Prop where
  | p {v : Value} {x : Pl} (h : PRep e v x) : DRep e v (.p x)
  | agg {vs : List Value} {ds : List Dt} (hl : vs.length = ds.length) (h : ∀ (i : Nat) v d, vs[i]? = some v → ds[i]? = some d → DRep e v d) : DRep e (.agg vs.toArray) (.agg ds)
  | tup {vs : List Value} {ds : List Dt} (hl : vs.length = ds.length) (h : ∀ (i : Nat) v d, vs[i]? = some v → ds[i]? = some d → DRep e v d) : DRep e (.tuple vs.toArray) (.tup ds)
  | ptr {b o k : Nat} (h : e.bx b = some k) : DRep e (.pointer (some ⟨k, o, none⟩)) (.ptr b o)
  | el {b o : Nat} {ps : List Pl} (h : ElAt e b o ps) : DRep e (.pointer (some ⟨b, o, none⟩)) (.el ps)
  | tip {v : Value} {g n : Nat} {ps : List Pl} (h : PRep e v (.sl false n ps)) (ht : TipAt e v g n ps.length) : DRep e v (.tip g n ps)
  | arr {b o n c k : Nat} (h : e.bx b = some k) : DRep e (.slice (some ⟨k, o, none⟩) n c) (.arr b o n c)
  | fn {f : Fn} {us vs : List Value} {first caps : List Dt} (hl : us.length = first.length) (hl2 : vs.length = caps.length) (h : ∀ (i : Nat) v d, us[i]? = some v → first[i]? = some d → DRep e v d) (h2 : ∀ (i : Nat) v d, vs[i]? = some v → caps[i]? = some d → DRep e v d) : DRep e (.func f us.toArray vs.toArray) (.fn f first caps)
  | any {v : Value} : DRep e v .any

/-- All of a list. -/
def DReps (e : Env) (vs : List Value) (ds : List Dt) : Prop := vs.length = ds.length ∧ ∀ (i : Nat) v d, vs[i]? = some v → ds[i]? = some d → DRep e v d

/-- Nothing that is claimed has turned. -/
structure Ends (e e' : Env) : Prop where
  claim : ∀ b o v, e.claimed b o → e.w.cell? ⟨b, o, none⟩ = some v → e'.claimed b o ∧ e'.w.cell? ⟨b, o, none⟩ = some v
  bx : ∀ b k, e.bx b = some k → e'.bx b = some k
  gi : ∀ g G, e.gi g = some G → ∃ G', e'.gi g = some G' ∧ G'.el = G.el ∧ G'.sz = G.sz ∧ G.len ≤ G'.len
  row : ∀ k g G cur, e.gr k = some g → e.gi g = some G → e.w.heap[k]? = some (.cells cur G.el (0, 0)) → e'.gr k = some g ∧ ∃ cur', e'.w.heap[k]? = some (.cells cur' G.el (0, 0)) ∧ cur'.size = cur.size

theorem Ends.refl (e : Env) : Ends e e := ⟨fun _ _ _ h1 h2 => ⟨h1, h2⟩, fun _ _ h => h, fun _ G h => ⟨G, h, rfl, rfl, Nat.le_refl _⟩, fun _ _ _ cur h1 _ h3 => ⟨h1, cur, h3, rfl⟩⟩
theorem Ends.trans {a b c : Env} (h : Ends a b) (k : Ends b c) : Ends a c := by
  refine ⟨fun x o v h1 h2 => ?_, fun x y hh => k.bx _ _ (h.bx _ _ hh), fun g G hg => ?_, fun x g G cur h1 h2 h3 => ?_⟩
  · obtain ⟨h3, h4⟩ := h.claim x o v h1 h2; exact k.claim x o v h3 h4
  · obtain ⟨G', e1, e2, e3, e4⟩ := h.gi g G hg
    obtain ⟨G2, f1, f2, f3, f4⟩ := k.gi g G' e1
    exact ⟨G2, f1, f2.trans e2, f3.trans e3, Nat.le_trans e4 f4⟩
  · obtain ⟨h4, cur', h5, h6⟩ := h.row x g G cur h1 h2 h3
    obtain ⟨G', e1, e2, e3, e4⟩ := h.gi g G h2
    obtain ⟨h7, cur2, h8, h9⟩ := k.row x g G' cur' h4 e1 (by rw [e2]; exact h5)
    exact ⟨h7, cur2, by rw [← e2]; exact h8, h9.trans h6⟩

theorem PRep.next {e e' : Env} (hE : Ends e e') {v : Value} {x : Pl} (h : PRep e v x) : PRep e' v x := by
  induction h with
  | raw v => exact .raw v
  | sl f h1 h2 h3 h4 h5 h6 ih =>
    refine .sl f h1 h2 h3 h4 (fun i x hx => ?_) ih
    obtain ⟨b, o, hA, hc, hv, hl⟩ := h5 i x hx
    obtain ⟨h7, h8⟩ := hE.claim _ _ _ hc hv
    exact ⟨b, o, hA, h7, h8, hl⟩
theorem ElAt.next {e e' : Env} (hE : Ends e e') {b o : Nat} {ps : List Pl} (h : ElAt e b o ps) : ElAt e' b o ps := by
  obtain ⟨f, hf⟩ := h
  refine ⟨f, fun i x hx => ?_⟩
  obtain ⟨h1, h2, h3, h4⟩ := hf i x hx
  obtain ⟨h5, h6⟩ := hE.claim _ _ _ h1 h2
  exact ⟨h5, h6, h3, h4.next hE⟩
theorem TipAt.next {e e' : Env} (hE : Ends e e') {v : Value} {g n m : Nat} (h : TipAt e v g n m) : TipAt e' v g n m := by
  obtain ⟨G, A, cap, hg, hv, hn, hm, hc⟩ := h
  obtain ⟨G', e1, e2, e3, e4⟩ := hE.gi g G hg
  refine ⟨G', A, cap, e1, hv, Nat.le_trans hn e4, by rw [e3]; exact hm, hc.imp id ?_⟩
  rintro ⟨k, hA, h1, cur, h2, h3⟩
  obtain ⟨h4, cur', h5, h6⟩ := hE.row k g G cur h1 hg h2
  exact ⟨k, hA, h4, cur', by rw [e2]; exact h5, by rw [h6, h3, e3]⟩
theorem DRep.next {e e' : Env} (hE : Ends e e') {v : Value} {d : Dt} (h : DRep e v d) : DRep e' v d := by
  induction h with
  | p h => exact .p (h.next hE)
  | agg hl _ ih => exact .agg hl ih
  | tup hl _ ih => exact .tup hl ih
  | ptr h => exact .ptr (hE.bx _ _ h)
  | el h => exact .el (h.next hE)
  | tip h ht => exact .tip (h.next hE) (ht.next hE)
  | arr h => exact .arr (hE.bx _ _ h)
  | fn hl hl2 _ _ ih ih2 => exact .fn hl hl2 ih ih2
  | any => exact .any
theorem DReps.next {e e' : Env} (hE : Ends e e') {vs : List Value} {ds : List Dt} (h : DReps e vs ds) : DReps e' vs ds := ⟨h.1, fun i v d h1 h2 => (h.2 i v d h1 h2).next hE⟩

theorem DReps.nil (e : Env) : DReps e [] [] := ⟨rfl, fun i v d h => by simp at h⟩
theorem DReps.cons {e : Env} {v : Value} {d : Dt} {vs : List Value} {ds : List Dt} (h : DRep e v d) (hs : DReps e vs ds) : DReps e (v :: vs) (d :: ds) := by
  refine ⟨by simp [hs.1], fun i u c h1 h2 => ?_⟩
  cases i with
  | zero => simp at h1 h2; subst h1; subst h2; exact h
  | succ i => exact hs.2 i u c (by simpa using h1) (by simpa using h2)
theorem DReps.uncons {e : Env} {vs : List Value} {d : Dt} {ds : List Dt} (h : DReps e vs (d :: ds)) : ∃ v vs', vs = v :: vs' ∧ DRep e v d ∧ DReps e vs' ds := by
  obtain ⟨hl, hh⟩ := h
  rcases vs with _ | ⟨v, vs'⟩
  · simp at hl
  · exact ⟨v, vs', rfl, hh 0 v d rfl rfl, by simpa using hl, fun i u c h1 h2 => hh (i + 1) u c (by simpa using h1) (by simpa using h2)⟩
theorem DReps.get {e : Env} {vs : List Value} {ds : List Dt} (h : DReps e vs ds) {i : Nat} {d : Dt} (hd : ds[i]? = some d) : ∃ v, vs[i]? = some v ∧ DRep e v d := by
  have hi : i < ds.length := (List.getElem?_eq_some_iff.1 hd).1
  have hi' : i < vs.length := by rw [h.1]; exact hi
  exact ⟨vs[i], List.getElem?_eq_getElem hi', h.2 i _ d (List.getElem?_eq_getElem hi') hd⟩
theorem DReps.take {e : Env} {vs : List Value} {ds : List Dt} (h : DReps e vs ds) (k : Nat) : DReps e (vs.take k) (ds.take k) := by
  refine ⟨by simp [h.1], fun i v d h1 h2 => ?_⟩
  rw [List.getElem?_take] at h1 h2
  split at h1
  · rename_i hi; rw [if_pos hi] at h2; exact h.2 i v d h1 h2
  · cases h1
theorem DReps.drop {e : Env} {vs : List Value} {ds : List Dt} (h : DReps e vs ds) (k : Nat) : DReps e (vs.drop k) (ds.drop k) := by
  refine ⟨by simp [h.1], fun i v d h1 h2 => ?_⟩
  rw [List.getElem?_drop] at h1 h2
  exact h.2 _ v d h1 h2
theorem DReps.append {e : Env} {vs us : List Value} {ds cs : List Dt} (h : DReps e vs ds) (h' : DReps e us cs) : DReps e (vs ++ us) (ds ++ cs) := by
  refine ⟨by simp [h.1, h'.1], fun i v d h1 h2 => ?_⟩
  rcases Nat.lt_or_ge i vs.length with hi | hi
  · rw [List.getElem?_append_left hi] at h1
    rw [List.getElem?_append_left (by rw [← h.1]; exact hi)] at h2
    exact h.2 i v d h1 h2
  · rw [List.getElem?_append_right hi] at h1
    rw [List.getElem?_append_right (by rw [← h.1]; exact hi), ← h.1] at h2
    exact h'.2 _ v d h1 h2

/-- Is it what one cell holds? -/
def Dt.leaf : Dt → Bool
  | .p (.raw v) => leafV v
  | .p (.sl ..) | .ptr .. | .el _ | .tip .. | .arr .. | .fn .. => true
  | _ => false
theorem leaf_val {e : Env} {v : Value} {d : Dt} (h : DRep e v d) (hl : d.leaf = true) : leafV v = true := by
  cases h with
  | p h => cases h with
    | raw v => exact hl
    | sl => rfl
  | agg => cases hl
  | tup => cases hl
  | ptr => rfl
  | el => rfl
  | tip h ht => obtain ⟨_, A, cap, _, rfl, _⟩ := ht; rfl
  | arr => rfl
  | fn => rfl
  | any => cases hl

/-- The cells of what is known. -/
def Dt.cells : Dt → List Dt
  | .agg ds => ds
  | d => [d]
theorem cells_rep {e : Env} {v : Value} {d : Dt} (h : DRep e v d) (hl : d.leaf = true ∨ ∃ ds, d = .agg ds) : DReps e v.cells.toList d.cells := by
  rcases hl with hl | ⟨ds, rfl⟩
  · have hv := leaf_val h hl
    have h1 : v.cells = #[v] := by cases v <;> first | rfl | cases hv
    have h2 : d.cells = [d] := by cases d <;> first | rfl | cases hl
    rw [h1, h2]
    exact DReps.cons h (DReps.nil e)
  · cases h with
    | agg hl h => exact ⟨by simpa [Value.cells, Dt.cells] using hl, fun i v d h1 h2 => h i v d (by simpa [Value.cells] using h1) (by simpa [Dt.cells] using h2)⟩
end Go.Proofs.YtcjooalmhppkiaaRRRR
