/- Worlds that have grown, plain data behind values, what is known where a function stands. -/
import Derived.WalkKit
import Derived.WalkSpells
import Derived.WalkLawsBesides
import Derived.BigQuiet
import Derived.Lib.Hide
import Derived.ProofKit
import Derived.OpenShut
import Derived.ShutString
import Derived.ChangeOld
import Derived.Below
import Derived.Deep.Slices
import Derived.Deep.Fields
import Derived.ChangeSame
import Derived.Maps.AppendAt
import Derived.LoopN
section
/- A region that draws its order, whose callees hand back new memory: one walk of the text's order serves every order. What a slot holds is told by a predicate of its value and the world, kept by every world that has grown. -/
namespace Go.Proofs.YtkkldicehapklaaGreat
open Go.RowKit
def Ext (w : World) : Type := { w' : World // Below w.heap.size w w' }
instance (w : World) : Nonempty (Ext w) := ⟨⟨w, Below.refl _ _⟩⟩
def Ext.on {w : World} (x : Ext w) : World := x.1
theorem Ext.below {w : World} (x : Ext w) : Below w.heap.size w x.on := x.2
@[go_sem] theorem Ext.cell {w : World} (x : Ext w) (p : Addr) (h : p.block < w.heap.size) : x.on.cell? p = w.cell? p := x.below.cell h
def Ext.next {w : World} (x : Ext w) {w' : World} (h : Below x.on.heap.size x.on w') : Ext w := ⟨w', x.below.trans (h.mono x.below.size)⟩
abbrev Know := Value → World → Prop
def Know.Keeps (k : Know) : Prop := ∀ v w w', k v w → Below w.heap.size w w' → k v w'
def uI (a : Act) (t : Tmp) : Value := a.tmps.getD t undef
def relB (ops : Array Oper) (n : Nat) : Bool :=
 Region.noSelect ops && (List.range ops.size).all fun i => match ops[i]? with
  | none => true
  | some oi => (match oi.dst with | some t => decide (t < n) | none => true) && (oi.after.all fun e => !Region.binds .any e || decide (e.on < i)) &&
   (List.range ops.size).all fun j => match ops[j]? with
    | none => true
    | some oj => i == j || ((match oi.dst, oj.dst with | some t, some u => t != u | _, _ => true) &&
      (match oj.dst with
       | some t => !(oi.looksAt ops).contains t || (decide (j < i) && oi.after.any (fun e => Region.binds .any e && e.on == j)) || (decide (i < j) && oj.after.any (fun e => Region.binds .any e && e.on == i))
       | none => true))
structure jH9 (ops : Array Oper) (n : Nat) : Prop where
 sel : Region.noSelect ops = true
 lt : ∀ (i : Nat) (o : Oper) (t : Tmp), ops[i]? = some o → o.dst = some t → t < n
 back : ∀ (i : Nat) (o : Oper), ops[i]? = some o → ∀ e ∈ o.after, Region.binds .any e = true → e.on < i
 ne : ∀ (i j : Nat) (oi oj : Oper) (t : Tmp), ops[i]? = some oi → ops[j]? = some oj → i ≠ j → oi.dst = some t → oj.dst ≠ some t
 dep : ∀ (i j : Nat) (oi oj : Oper) (t : Tmp), ops[i]? = some oi → ops[j]? = some oj → i ≠ j → oj.dst = some t → t ∈ oi.looksAt ops →
  (j < i ∧ ∃ e ∈ oi.after, Region.binds .any e = true ∧ e.on = j) ∨ (i < j ∧ ∃ e ∈ oj.after, Region.binds .any e = true ∧ e.on = i)
theorem jZ5 {ops : Array Oper} {n : Nat} (h : relB ops n = true) : jH9 ops n := by
 unfold relB at h
 simp only [Bool.and_eq_true, List.all_eq_true, List.mem_range] at h
 obtain ⟨hs, h⟩ := h
 have hlt : ∀ i o, ops[i]? = some o → i < ops.size := fun i o ho => (Array.getElem?_eq_some_iff.1 ho).1
 refine ⟨hs, fun i o t ho ht => ?_, fun i o ho e he hb => ?_, fun i j oi oj t hi hj hij ht hu => ?_, fun i j oi oj t hi hj hij ht hm => ?_⟩
 ·have := h i (hlt i o ho)
  simp only [ho, ht, Bool.and_eq_true] at this
  simpa using this.1.1
 ·have := h i (hlt i o ho)
  simp only [ho, Bool.and_eq_true] at this
  have := Array.all_eq_true_iff_forall_mem.1 this.1.2 e he
  simpa [hb] using this
 ·have := h i (hlt i oi hi)
  simp only [hi, Bool.and_eq_true, List.all_eq_true, List.mem_range] at this
  have := this.2 j (hlt j oj hj)
  simp only [hj, ht, hu] at this
  simp [hij] at this
 ·have := h i (hlt i oi hi)
  simp only [hi, Bool.and_eq_true, List.all_eq_true, List.mem_range] at this
  have := this.2 j (hlt j oj hj)
  simp only [hj, ht] at this
  have hc : (oi.looksAt ops).contains t = true := by simpa using hm
  simp only [hc, Bool.or_eq_true, Bool.and_eq_true, beq_iff_eq, hij, false_or, Bool.not_true, Bool.false_eq_true, decide_eq_true_eq] at this
  rcases this.2 with ⟨h1, h2⟩ | ⟨h1, h2⟩
  ·obtain ⟨e, he, hb⟩ := Array.any_eq_true'.1 h2
   simp only [Bool.and_eq_true, beq_iff_eq] at hb
   exact .inl ⟨h1, e, he, hb⟩
  ·obtain ⟨e, he, hb⟩ := Array.any_eq_true'.1 h2
   simp only [Bool.and_eq_true, beq_iff_eq] at hb
   exact .inr ⟨h1, e, he, hb⟩
theorem uV {a : Act} {t : Tmp} {v : Value} (h : t < a.tmps.size) : uI (a.put (some t) v) t = v := by simp [uI, Act.put, h]
theorem yE {a : Act} {d : Option Tmp} {t : Tmp} {v : Value} (h : d ≠ some t) : uI (a.put d v) t = uI a t := by
 cases d with
 | none => rfl
 | some u =>
  have hne : u ≠ t := fun e => h (by rw [e])
  simp [uI, Act.put, Array.getElem?_setIfInBounds_ne hne]
theorem jP1 (a : Act) (d : Option Tmp) (v : Value) : (a.put d v).tmps.size = a.tmps.size := by cases d <;> simp [Act.put]
theorem jH8 (a : Act) (d : Option Tmp) (v : Value) : (a.put d v).defers = a.defers := by cases d <;> rfl
theorem wp_false {P : Program} {o : Oper} {a : Act} {w : World} {K : Act → World → Prop} {Q : Exit → Act → World → Prop} (h : o.wp P a w K (fun _ _ _ => False)) : o.wp P a w K Q := by
 unfold Oper.wp at *
 generalize (execOp a.eval o).run P w = r at *
 cases r with
 | ok n w' =>
  cases n <;> simp only [Oper.upon] at h ⊢ <;> first
   | exact h
   | exact Calls.mono h (fun e w'' he => by
     cases e with
     | returned v => exact he
     | panicked c => exact he.elim
     | outgrown => obtain ⟨_, _, hf⟩ := he; exact hf.elim)
 | halt x w' => cases x <;> simp only [Oper.upon] at h ⊢
structure RelInv (ops : Array Oper) (F : Nat → Know) (a0 : Act) (listed : Array Bool) (a : Act) (w : World) : Prop where
 lsize : listed.size = ops.size
 size : a.tmps.size = a0.tmps.size
 defers : a.defers = a0.defers
 closed : ∀ (i : Nat) (o : Oper), ops[i]? = some o → listed.getD i false = true → ∀ e ∈ o.after, Region.binds .any e = true → listed.getD e.on false = true
 knows : ∀ (i : Nat) (o : Oper) (t : Tmp), ops[i]? = some o → listed.getD i false = true → o.dst = some t → F i (uI a t) w
 kept : ∀ t, (∀ (i : Nat) (o : Oper), ops[i]? = some o → listed.getD i false = true → o.dst ≠ some t) → uI a t = uI a0 t
theorem kI {l : Array Bool} {i : Nat} (h : l.getD i true = false) : l.getD i false = false ∧ i < l.size := by
 rcases Nat.lt_or_ge i l.size with h' | h'
 ·simp [h'] at h ⊢; exact h
 ·simp [Array.getElem?_eq_none h'] at h
theorem kN1 {l : Array Bool} {i : Nat} (h : l.getD i false = false) (hi : i < l.size) : l.getD i true = false := by simp [hi] at h ⊢; exact h
theorem RelInv.next {ops : Array Oper} {n : Nat} (hok : jH9 ops n) {F : Nat → Know} (hF : ∀ i, (F i).Keeps) {a0 : Act} {listed : Array Bool} {a : Act} {w w' : World} (h : RelInv ops F a0 listed a w) (hn : n = a0.tmps.size)
  {i : Nat} {o : Oper} (hi : ops[i]? = some o) (hr : i ∈ Region.ready .any ops listed) {v : Value} (hv : F i v w') (hb : Below w.heap.size w w') :
  RelInv ops F a0 (listed.setIfInBounds i true) (a.put o.dst v) w' := by
 obtain ⟨hun, o', ho', hall⟩ := mem_ready.1 hr
 rw [hi] at ho'
 cases ho'
 obtain ⟨hun', hil⟩ := kI hun
 have split : ∀ j, (listed.setIfInBounds i true).getD j false = true → j = i ∨ listed.getD j false = true := fun j hj => by
  by_cases e : i = j
  ·exact .inl e.symm
  ·rw [getD_set_ne false e] at hj; exact .inr hj
 have hself : (listed.setIfInBounds i true).getD i false = true := by simp [hil]
 refine ⟨by simpa using h.lsize, by rw [jP1]; exact h.size, by rw [jH8]; exact h.defers, fun j oj hj hl e he hb' => ?_, fun j oj t hj hl ht => ?_, fun t ht => ?_⟩
 ·rcases split j hl with rfl | hl'
  ·rw [hi] at hj; cases hj; exact getD_set_true (hall e he hb')
  ·exact getD_set_true (h.closed j oj hj hl' e he hb')
 ·rcases split j hl with rfl | hl'
  ·rw [hi] at hj; cases hj
   rw [ht, uV (by rw [h.size, ← hn]; exact hok.lt _ _ _ hi ht)]
   exact hv
  ·have hne : j ≠ i := fun e => by subst e; rw [hun'] at hl'; cases hl'
   rw [yE (fun e => hok.ne j i oj o t hj hi hne ht e)]
   exact hF j _ _ _ (h.knows j oj t hj hl' ht) hb
 ·rw [yE (ht i o hi hself)]
  exact h.kept t fun j oj hj hl => ht j oj hj (getD_set_true hl)
theorem exists_ready {ops : Array Oper} {n : Nat} (hok : jH9 ops n) {listed : Array Bool} (hs : listed.size = ops.size) (h : Region.ready .any ops listed = []) : ∀ i, i < ops.size → listed.getD i false = true := by
 intro i
 induction i using Nat.strongRecOn with
 | ind i ih =>
  intro hi
  rcases hl : listed.getD i false with _ | _
  ·have hm : i ∈ Region.ready .any ops listed := mem_ready.2 ⟨kN1 hl (by omega), ops[i], by simp [hi], fun e he hb => by
    have := hok.back i ops[i] (by simp [hi]) e he hb
    exact ih _ this (by omega)⟩
   rw [h] at hm; cases hm
  ·rfl
def yU (listed : Array Bool) : Nat := (listed.toList.filter (!·)).length
theorem jJ6 : ∀ (l : List Bool) (i : Nat), i < l.length → l.getD i true = false → ((l.set i true).filter (!·)).length + 1 = (l.filter (!·)).length
 | [], i, h, _ => by simp at h
 | b :: l, 0, _, hb => by simp at hb; subst hb; simp
 | b :: l, i + 1, h, hb => by
  have := jJ6 l i (by simpa using h) (by simpa using hb)
  cases b <;> simp <;> omega
theorem jO3 {listed : Array Bool} {i : Nat} (h : listed.getD i true = false) : yU (listed.setIfInBounds i true) + 1 = yU listed := by
 obtain ⟨_, hi⟩ := kI h
 have := jJ6 listed.toList i (by simpa using hi) (by simpa using h)
 simpa [yU, Array.toList_setIfInBounds] using this
theorem kF0 {listed : Array Bool} (h : yU listed = 0) {i : Nat} : listed.getD i true = true := by
 rcases hl : listed.getD i true with _ | _
 ·have := jO3 hl; omega
 ·rfl
theorem uK (n : Nat) : yU (Array.replicate n false) = n := by simp [yU]
def jZ9 : Value → Option Bool
 | .bool b => some b
 | _ => none
def guardAt (ops : Array Oper) (o : Oper) : List Tmp := match o.guard with | some (g, _) => ((ops[g]?).bind (·.dst)).toList | none => []
theorem jS9 {ops : Array Oper} {o : Oper} {t : Tmp} (h : t ∈ guardAt ops o) : t ∈ o.looksAt ops := List.mem_append_right _ h
theorem jM9 (ops : Array Oper) (l : Array Value) (g : Nat) : yielded ops l g = ((ops[g]?).bind (·.dst)).bind fun t => jZ9 (l.getD t undef) := by
 unfold yielded
 cases ht : (ops[g]?).bind (·.dst) with
 | none => rfl
 | some t =>
  simp only [Option.bind_some]
  rcases h : l[t]? with _ | v
  ·simp [h, undef, jZ9]
  ·simp only [Array.getD_eq_getD_getElem?, h, Option.getD_some]
   cases v <;> rfl
section
variable {P : Program} {ops : Array Oper} {w0 : World} {a0 : Act} {Q : Exit → Act → World → Prop} {a : Act} {nd : List (Tmp × Know)} {o : Oper} {rest : List Oper}
def uH (P : Program) (f : FuncId) : Prop := ∀ args w, (callFunc f args).run P w = .ok (.enter f args) w
end
/-! ### A region whose last operations stand in a forced order behind all others: they are walked as a plain row. -/
theorem jZ7 {P : Program} {ops : Array Oper} {Q : Exit → Act → World → Prop} {i : Nat} {o : Oper} {rest : List Oper} {a : Act} {w : World} (hi : ops[i]? = some o) (h : wpList P ops Q (o :: rest) a w) : wpOp P ops Q i (wpList P ops Q rest) a w := by
 unfold wpOp
 simp only [hi]
 exact h
theorem uD : ∀ (l : List Bool) (n : Nat), n ≤ l.length → (∀ i, i < n → l.getD i true = true) → (∀ i, n ≤ i → i < l.length → l.getD i true = false) → (l.filter (!·)).length = l.length - n
 | [], n, hn, _, _ => by simp at hn; simp [hn]
 | b :: l, 0, _, _, h2 => by
  have hb : b = false := by simpa using h2 0 (Nat.le_refl _) (by simp)
  have ih := uD l 0 (by omega) (fun i hi => by omega) (fun i _ hi => by simpa using h2 (i + 1) (by omega) (by simpa using hi))
  subst hb
  simp at ih ⊢
  exact ih
 | b :: l, n + 1, hn, h1, h2 => by
  have hb : b = true := by simpa using h1 0 (by omega)
  have ih := uD l n (by simpa using hn) (fun i hi => by simpa using h1 (i + 1) (by omega)) (fun i hi hl => by simpa using h2 (i + 1) (by omega) (by simpa using hl))
  subst hb
  simp at ih ⊢
  exact ih
end Go.Proofs.YtkkldicehapklaaGreat
end
section
/- How arguments are opened into plain data, field by field, and how a law's row follows out of its walk. -/
namespace Go.Proofs.YtkkldicehapklaaGreat
open Go.ChangeShapes Go.WideShapes Go.ChangeAt Go.RowKit Go.Deep
section
variable {H : Type} {enc : TypeId × Value → H} {P : Program} {w : World} {base : Nat} {spare : Nat → Bool} {held : Bool}
def fieldInfo (P : Program) (t i : Nat) : Option (TypeId × Nat × Nat) :=
 match P.underlying t with
 | some (.struct fs) => (fs[i]?).map fun f => (f.type, f.offset, P.cellsOf f.type)
 | _ => none
def Read (enc : TypeId × Value → H) (P : Program) (w : World) (base : Nat) (spare : Nat → Bool) (held : Bool) (t : TypeId) (cs : List Value) : Prop := ∃ n y, DataW.trod enc P w base spare held n t cs = some y
theorem jO1 {t i ft off sz : Nat} {cs : List Value} (hf : fieldInfo P t i = some (ft, off, sz)) (h : Read enc P w base spare held t cs) : Read enc P w base spare held ft ((cs.drop off).take sz) := by
 obtain ⟨n, y, h⟩ := h
 unfold fieldInfo at hf
 split at hf
 ·rename_i fs hu
  obtain ⟨xs, m, _, _, _, hlen, hg⟩ := DataW.trod_struct hu h
  rcases hfi : fs[i]? with _ | f
  ·rw [hfi] at hf; cases hf
  ·rw [hfi] at hf
   simp only [Option.map_some, Option.some.injEq, Prod.mk.injEq] at hf
   obtain ⟨rfl, rfl, rfl⟩ := hf
   have h1 := hg i f hfi
   have hi : i < fs.size := (Array.getElem?_eq_some_iff.1 hfi).1
   have h2 : xs[i]? = some (xs[i]'(by omega)) := List.getElem?_eq_getElem (by omega)
   exact ⟨m, _, h1.trans h2⟩
 ·cases hf
theorem jW6 {t : TypeId} {cs : List Value} (ht : P.underlying t = some (.int .i64)) (h : Read enc P w base spare held t cs) : ∃ n : Int, cs = [.int .i64 n] ∧ -9223372036854775808 ≤ n ∧ n ≤ 9223372036854775807 := by
 obtain ⟨m, y, h⟩ := h
 obtain ⟨n, hn, _, hw⟩ := DataW.trod_int ht h
 exact ⟨n, hn, bounds_i64 hw⟩
theorem read_slice {t e : TypeId} {sz : Nat} {cs : List Value} (ht : P.underlying t = some (.slice e)) (hc : P.cellsOf e = sz) (h : Read enc P w base spare held t cs) :
  ∃ (A : Option Addr) (len cap : Nat), cs = [.slice A len cap] ∧ len ≤ cap ∧ cap ≤ maxLen ∧ (len = 0 ∨ ∃ a, A = some a) ∧
   ∀ i, i < len → ∃ a cs', A = some a ∧ cs'.length = sz ∧ (∀ j, j < sz → w.cell? (a.add (i * sz + j)) = cs'[j]?) ∧ Read enc P w base spare held e cs' := by
 obtain ⟨m, y, h⟩ := h
 rcases open_slice ht h with ⟨rfl, _⟩ | ⟨a, len, cap, m', n, D, Pl, rfl, hb, hl, hm, hmm, hx, hi⟩
 ·exact ⟨none, 0, 0, rfl, by omega, by unfold maxLen; omega, .inl rfl, fun i hi => by omega⟩
 ·refine ⟨some a, len, cap, rfl, hl, hm, .inr ⟨a, rfl⟩, fun i hilt => ?_⟩
  obtain ⟨cs', hc', ht'⟩ := hi i (by rw [hmm]; split <;> omega)
  rw [hc] at hc'
  obtain ⟨_, hlen, hat⟩ := World.cells?_some hc'
  refine ⟨a, cs', rfl, hlen, fun j hj => ?_, n, _, ht'⟩
  rw [← hat j hj, Go.Deep.add_add]
theorem addr_plain {a : Addr} {n : Nat} {v : Value} (h : w.cell? (a.add n) = some v) : a.spot = none ∨ n ≠ 0 := by
 by_cases hn : n = 0
 ·subst hn
  simp only [Addr.add, if_true] at h
  exact .inl (by have := World.cell?_spot h; simpa using this)
 ·exact .inr hn
theorem cell_lt {p : Addr} {v : Value} (h : w.cell? p = some v) : p.block < w.heap.size := by
 rcases Nat.lt_or_ge p.block w.heap.size with hlt | hge
 ·exact hlt
 ·simp [World.cell?, Array.getElem?_eq_none hge] at h
theorem read_rows {α : Type} {t e : TypeId} {sz : Nat} (cells : α → List Value) (ok : α → Prop) (hsz : 0 < sz) (hlen : ∀ x, (cells x).length = sz) (ht : P.underlying t = some (.slice e)) (hc : P.cellsOf e = sz)
  (hopen : ∀ cs, cs.length = sz → Read enc P w base spare held e cs → ∃ x, cs = cells x ∧ ok x) {cs : List Value} (h : Read enc P w base spare held t cs) :
  ∃ (A : Option Addr) (l : List α) (cap : Nat), cs = [.slice A l.length cap] ∧ l.length ≤ cap ∧ cap ≤ maxLen ∧ (∀ x ∈ l, ok x) ∧
   ∀ i x, l[i]? = some x → ∃ b o, A = some ⟨b, o, none⟩ ∧ b < w.heap.size ∧ ∀ j u, (cells x)[j]? = some u → w.cell? ⟨b, o + (i * sz + j), none⟩ = some u := by
 obtain ⟨A, len, cap, rfl, hl, hm, hA, hel⟩ := read_slice ht hc h
 have hch : ∀ i : Fin len, ∃ x, ok x ∧ ∃ a, A = some a ∧ ∀ j u, (cells x)[j]? = some u → w.cell? (a.add (i.1 * sz + j)) = some u := fun i => by
  obtain ⟨a, cs', e, hlen', hat, hr⟩ := hel i.1 i.2
  obtain ⟨x, rfl, hok⟩ := hopen cs' hlen' hr
  refine ⟨x, hok, a, e, fun j u hu => ?_⟩
  have hj : j < (cells x).length := (List.getElem?_eq_some_iff.1 hu).1
  rw [hat j (by rw [hlen] at hj; exact hj)]; exact hu
 let f : Fin len → α := fun i => Classical.choose (hch i)
 have hf : ∀ i, ok (f i) ∧ ∃ a, A = some a ∧ ∀ j u, (cells (f i))[j]? = some u → w.cell? (a.add (i.1 * sz + j)) = some u := fun i => Classical.choose_spec (hch i)
 refine ⟨A, List.ofFn f, cap, by simp, by simpa using hl, hm, fun x hx => ?_, fun i x hi => ?_⟩
 ·obtain ⟨i, rfl⟩ := List.mem_ofFn.1 hx
  exact (hf i).1
 ·have hil : i < len := by have := (List.getElem?_eq_some_iff.1 hi).1; simpa using this
  have hx : f ⟨i, hil⟩ = x := by simpa [hil] using hi
  obtain ⟨a, e, hc⟩ := (hf ⟨i, hil⟩).2
  rw [hx] at hc
  obtain ⟨b, o, s⟩ := a
  have hfirst := hf ⟨0, by omega⟩
  have h0 : ∃ u, (cells (f ⟨0, by omega⟩))[0]? = some u := ⟨_, List.getElem?_eq_getElem (by rw [hlen]; exact hsz)⟩
  obtain ⟨u0, hu0⟩ := h0
  obtain ⟨a', e', hc0⟩ := hfirst.2
  have hc00 := hc0 0 u0 hu0
  rw [e] at e'
  injection e' with e'
  subst e'
  have hs : s = none := by
   rcases addr_plain hc00 with h' | h'
   ·exact h'
   ·simp at h'
  subst hs
  have hadd : ∀ n, (⟨b, o, none⟩ : Addr).add n = ⟨b, o + n, none⟩ := fun n => by
   unfold Addr.add
   split
   ·rename_i hn; subst hn; simp
   ·rfl
  refine ⟨b, o, e, by have := cell_lt hc00; rw [hadd] at this; exact this, fun j u hu => ?_⟩
  have := hc j u hu
  rw [hadd] at this
  exact this
end
end Go.Proofs.YtkkldicehapklaaGreat
end
section
/- Plain data behind Go's values: what a value reads as in a world, and worlds that have grown. -/
namespace Go.Proofs.YtkkldicehapklaaGreat
open Go.RowKit
inductive Pl where
 | raw (v : Value)
 | sl (ex : Bool) (n : Nat) (ps : List Pl)
inductive Dt where
 | p (x : Pl)
 | agg (ds : List Dt)
 | tup (ds : List Dt)
 | ptr (b o : Nat)
 | el (ps : List Pl)
 | tip (g n : Nat) (ps : List Pl)
 | arr (b o n c : Nat)
 | fn (f : Fn) (first caps : List Dt)
 | any
structure Gr where
 el : TypeId
 sz : Nat
 len : Nat
structure Env where
 w : World
 cl : Nat → Option Nat
 bx : Nat → Option Nat
 gr : Nat → Option Nat
 gi : Nat → Option Gr
def Env.claimed (e : Env) (b o : Nat) : Prop := ∀ k, e.cl b = some k → o < k
def jA2 (v : Value) : Bool := v.oneCell'
inductive PRep (e : Env) : Value → Pl → Prop where
 | raw (v : Value) : PRep e v (.raw v)
 | sl {A : Option Addr} {n cap : Nat} {ex : Bool} {ps : List Pl} (f : Nat → Value) (h1 : n ≤ cap) (h2 : cap ≤ maxLen) (h3 : A = none → cap = 0) (h4 : ex = true → cap = n)
   (h5 : ∀ i x, ps[i]? = some x → ∃ b o, A = some ⟨b, o, none⟩ ∧ e.claimed b (o + i) ∧ e.w.cell? ⟨b, o + i, none⟩ = some (f i) ∧ jA2 (f i) = true)
   (h6 : ∀ i x, ps[i]? = some x → PRep e (f i) x) : PRep e (.slice A n cap) (.sl ex n ps)
def ElAt (e : Env) (b o : Nat) (ps : List Pl) : Prop :=
 ∃ f : Nat → Value, ∀ i x, ps[i]? = some x → e.claimed b (o + i) ∧ e.w.cell? ⟨b, o + i, none⟩ = some (f i) ∧ jA2 (f i) = true ∧ PRep e (f i) x
structure RowOf (e : Env) (G : Gr) (g k cap : Nat) : Prop where
 gr : e.gr k = some g
 row : ∃ cur, e.w.heap[k]? = some (.cells cur G.el (0, 0)) ∧ cur.size = cap * G.sz
def TipAt (e : Env) (v : Value) (g n m : Nat) : Prop :=
 ∃ G A cap, e.gi g = some G ∧ v = .slice A n cap ∧ n ≤ G.len ∧ m = n * G.sz ∧ (cap = n ∨ ∃ k, A = some ⟨k, 0, none⟩ ∧ RowOf e G g k cap)
inductive DRep (e : Env) : Value → Dt → Prop where
 | p {v : Value} {x : Pl} (h : PRep e v x) : DRep e v (.p x)
 | agg {vs : List Value} {ds : List Dt} (hl : vs.length = ds.length) (h : ∀ (i : Nat) v d, vs[i]? = some v → ds[i]? = some d → DRep e v d) : DRep e (.agg vs.toArray) (.agg ds)
 | tup {vs : List Value} {ds : List Dt} (hl : vs.length = ds.length) (h : ∀ (i : Nat) v d, vs[i]? = some v → ds[i]? = some d → DRep e v d) : DRep e (.tuple vs.toArray) (.tup ds)
 | ptr {b o k : Nat} (h : e.bx b = some k) : DRep e (.pointer (some ⟨k, o, none⟩)) (.ptr b o)
 | el {b o : Nat} {ps : List Pl} (h : ElAt e b o ps) : DRep e (.pointer (some ⟨b, o, none⟩)) (.el ps)
 | tip {v : Value} {g n : Nat} {ps : List Pl} (h : PRep e v (.sl false n ps)) (ht : TipAt e v g n ps.length) : DRep e v (.tip g n ps)
 | arr {b o n c k : Nat} (h : e.bx b = some k) : DRep e (.slice (some ⟨k, o, none⟩) n c) (.arr b o n c)
 | fn {f : Fn} {us vs : List Value} {first caps : List Dt} (hl : us.length = first.length) (hl2 : vs.length = caps.length) (h : ∀ (i : Nat) v d, us[i]? = some v → first[i]? = some d → DRep e v d) (h2 : ∀ (i : Nat) v d, vs[i]? = some v → caps[i]? = some d → DRep e v d) : DRep e (.func f us.toArray vs.toArray) (.fn f first caps)
 | any {v : Value} : DRep e v .any
def DReps (e : Env) (vs : List Value) (ds : List Dt) : Prop := vs.length = ds.length ∧ ∀ (i : Nat) v d, vs[i]? = some v → ds[i]? = some d → DRep e v d
structure Ends (e e' : Env) : Prop where
 claim : ∀ b o v, e.claimed b o → e.w.cell? ⟨b, o, none⟩ = some v → e'.claimed b o ∧ e'.w.cell? ⟨b, o, none⟩ = some v
 bx : ∀ b k, e.bx b = some k → e'.bx b = some k
 gi : ∀ g G, e.gi g = some G → ∃ G', e'.gi g = some G' ∧ G'.el = G.el ∧ G'.sz = G.sz ∧ G.len ≤ G'.len
 row : ∀ k g G cur, e.gr k = some g → e.gi g = some G → e.w.heap[k]? = some (.cells cur G.el (0, 0)) → e'.gr k = some g ∧ ∃ cur', e'.w.heap[k]? = some (.cells cur' G.el (0, 0)) ∧ cur'.size = cur.size
theorem Ends.refl (e : Env) : Ends e e := ⟨fun _ _ _ h1 h2 => ⟨h1, h2⟩, fun _ _ h => h, fun _ G h => ⟨G, h, rfl, rfl, Nat.le_refl _⟩, fun _ _ _ cur h1 _ h3 => ⟨h1, cur, h3, rfl⟩⟩
theorem Ends.trans {a b c : Env} (h : Ends a b) (k : Ends b c) : Ends a c := by
 refine ⟨fun x o v h1 h2 => ?_, fun x y hh => k.bx _ _ (h.bx _ _ hh), fun g G hg => ?_, fun x g G cur h1 h2 h3 => ?_⟩
 ·obtain ⟨h3, h4⟩ := h.claim x o v h1 h2; exact k.claim x o v h3 h4
 ·obtain ⟨G', e1, e2, e3, e4⟩ := h.gi g G hg
  obtain ⟨G2, f1, f2, f3, f4⟩ := k.gi g G' e1
  exact ⟨G2, f1, f2.trans e2, f3.trans e3, Nat.le_trans e4 f4⟩
 ·obtain ⟨h4, cur', h5, h6⟩ := h.row x g G cur h1 h2 h3
  obtain ⟨G', e1, e2, e3, e4⟩ := h.gi g G h2
  obtain ⟨h7, cur2, h8, h9⟩ := k.row x g G' cur' h4 e1 (by rw [e2]; exact h5)
  exact ⟨h7, cur2, by rw [← e2]; exact h8, h9.trans h6⟩
theorem PRep.next {e e' : Env} (hE : Ends e e') {v : Value} {x : Pl} (h : PRep e v x) : PRep e' v x := by
 induction h with
 | raw v => exact .raw v
 | sl f h1 h2 h3 h4 h5 h6 ih =>
  refine .sl f h1 h2 h3 h4 (fun i x hx => ?_) ih
  obtain ⟨b, o, hA, hc, hv, hl⟩ := h5 i x hx
  obtain ⟨h7, h8⟩ := hE.claim _ _ _ hc hv
  exact ⟨b, o, hA, h7, h8, hl⟩
theorem ElAt.next {e e' : Env} (hE : Ends e e') {b o : Nat} {ps : List Pl} (h : ElAt e b o ps) : ElAt e' b o ps := by
 obtain ⟨f, hf⟩ := h
 refine ⟨f, fun i x hx => ?_⟩
 obtain ⟨h1, h2, h3, h4⟩ := hf i x hx
 obtain ⟨h5, h6⟩ := hE.claim _ _ _ h1 h2
 exact ⟨h5, h6, h3, h4.next hE⟩
theorem TipAt.next {e e' : Env} (hE : Ends e e') {v : Value} {g n m : Nat} (h : TipAt e v g n m) : TipAt e' v g n m := by
 obtain ⟨G, A, cap, hg, hv, hn, hm, hc⟩ := h
 obtain ⟨G', e1, e2, e3, e4⟩ := hE.gi g G hg
 refine ⟨G', A, cap, e1, hv, Nat.le_trans hn e4, by rw [e3]; exact hm, hc.imp id ?_⟩
 rintro ⟨k, hA, h1, cur, h2, h3⟩
 obtain ⟨h4, cur', h5, h6⟩ := hE.row k g G cur h1 hg h2
 exact ⟨k, hA, h4, cur', by rw [e2]; exact h5, by rw [h6, h3, e3]⟩
theorem DRep.next {e e' : Env} (hE : Ends e e') {v : Value} {d : Dt} (h : DRep e v d) : DRep e' v d := by
 induction h with
 | p h => exact .p (h.next hE)
 | agg hl _ ih => exact .agg hl ih
 | tup hl _ ih => exact .tup hl ih
 | ptr h => exact .ptr (hE.bx _ _ h)
 | el h => exact .el (h.next hE)
 | tip h ht => exact .tip (h.next hE) (ht.next hE)
 | arr h => exact .arr (hE.bx _ _ h)
 | fn hl hl2 _ _ ih ih2 => exact .fn hl hl2 ih ih2
 | any => exact .any
theorem DReps.next {e e' : Env} (hE : Ends e e') {vs : List Value} {ds : List Dt} (h : DReps e vs ds) : DReps e' vs ds := ⟨h.1, fun i v d h1 h2 => (h.2 i v d h1 h2).next hE⟩
theorem DReps.nil (e : Env) : DReps e [] [] := ⟨rfl, fun i v d h => by simp at h⟩
theorem DReps.cons {e : Env} {v : Value} {d : Dt} {vs : List Value} {ds : List Dt} (h : DRep e v d) (hs : DReps e vs ds) : DReps e (v :: vs) (d :: ds) := by
 refine ⟨by simp [hs.1], fun i u c h1 h2 => ?_⟩
 cases i with
 | zero => simp at h1 h2; subst h1; subst h2; exact h
 | succ i => exact hs.2 i u c (by simpa using h1) (by simpa using h2)
theorem DReps.uncons {e : Env} {vs : List Value} {d : Dt} {ds : List Dt} (h : DReps e vs (d :: ds)) : ∃ v vs', vs = v :: vs' ∧ DRep e v d ∧ DReps e vs' ds := by
 obtain ⟨hl, hh⟩ := h
 rcases vs with _ | ⟨v, vs'⟩
 ·simp at hl
 ·exact ⟨v, vs', rfl, hh 0 v d rfl rfl, by simpa using hl, fun i u c h1 h2 => hh (i + 1) u c (by simpa using h1) (by simpa using h2)⟩
theorem DReps.get {e : Env} {vs : List Value} {ds : List Dt} (h : DReps e vs ds) {i : Nat} {d : Dt} (hd : ds[i]? = some d) : ∃ v, vs[i]? = some v ∧ DRep e v d := by
 have hi : i < ds.length := (List.getElem?_eq_some_iff.1 hd).1
 have hi' : i < vs.length := by rw [h.1]; exact hi
 exact ⟨vs[i], List.getElem?_eq_getElem hi', h.2 i _ d (List.getElem?_eq_getElem hi') hd⟩
theorem DReps.take {e : Env} {vs : List Value} {ds : List Dt} (h : DReps e vs ds) (k : Nat) : DReps e (vs.take k) (ds.take k) := by
 refine ⟨by simp [h.1], fun i v d h1 h2 => ?_⟩
 rw [List.getElem?_take] at h1 h2
 split at h1
 ·rename_i hi; rw [if_pos hi] at h2; exact h.2 i v d h1 h2
 ·cases h1
theorem DReps.drop {e : Env} {vs : List Value} {ds : List Dt} (h : DReps e vs ds) (k : Nat) : DReps e (vs.drop k) (ds.drop k) := by
 refine ⟨by simp [h.1], fun i v d h1 h2 => ?_⟩
 rw [List.getElem?_drop] at h1 h2
 exact h.2 _ v d h1 h2
theorem DReps.append {e : Env} {vs us : List Value} {ds cs : List Dt} (h : DReps e vs ds) (h' : DReps e us cs) : DReps e (vs ++ us) (ds ++ cs) := by
 refine ⟨by simp [h.1, h'.1], fun i v d h1 h2 => ?_⟩
 rcases Nat.lt_or_ge i vs.length with hi | hi
 ·rw [List.getElem?_append_left hi] at h1
  rw [List.getElem?_append_left (by rw [← h.1]; exact hi)] at h2
  exact h.2 i v d h1 h2
 ·rw [List.getElem?_append_right hi] at h1
  rw [List.getElem?_append_right (by rw [← h.1]; exact hi), ← h.1] at h2
  exact h'.2 _ v d h1 h2
def Dt.leaf : Dt → Bool
 | .p (.raw v) => jA2 v
 | .p (.sl ..) | .ptr .. | .el _ | .tip .. | .arr .. | .fn .. => true
 | _ => false
theorem kH7 {e : Env} {v : Value} {d : Dt} (h : DRep e v d) (hl : d.leaf = true) : jA2 v = true := by
 cases h with
 | p h => cases h with
  | raw v => exact hl
  | sl => rfl
 | agg => cases hl
 | tup => cases hl
 | ptr => rfl
 | el => rfl
 | tip h ht => obtain ⟨_, A, cap, _, rfl, _⟩ := ht; rfl
 | arr => rfl
 | fn => rfl
 | any => cases hl
def Dt.cells : Dt → List Dt
 | .agg ds => ds
 | d => [d]
theorem cells_rep {e : Env} {v : Value} {d : Dt} (h : DRep e v d) (hl : d.leaf = true ∨ ∃ ds, d = .agg ds) : DReps e v.cells.toList d.cells := by
 rcases hl with hl | ⟨ds, rfl⟩
 ·have hv := kH7 h hl
  have h1 : v.cells = #[v] := by cases v <;> first | rfl | cases hv
  have h2 : d.cells = [d] := by cases d <;> first | rfl | cases hl
  rw [h1, h2]
  exact DReps.cons h (DReps.nil e)
 ·cases h with
  | agg hl h => exact ⟨by simpa [Value.cells, Dt.cells] using hl, fun i v d h1 h2 => h i v d (by simpa [Value.cells] using h1) (by simpa [Dt.cells] using h2)⟩
end Go.Proofs.YtkkldicehapklaaGreat
end
section
/- What is known where a function stands, and how it is carried from operation to operation. -/
namespace Go.Proofs.YtkkldicehapklaaGreat
open Go.RowKit
def kv {α : Type} : List (Nat × α) → Nat → Option α
 | [], _ => none
 | (k, v) :: l, n => bif Nat.beq k n then some v else kv l n
theorem jU {α : Type} (k : Nat) (v : α) (l : List (Nat × α)) (n : Nat) : kv ((k, v) :: l) n = if k = n then some v else kv l n := by
 by_cases h : k = n
 ·subst h; simp [kv]
 ·have : Nat.beq k n = false := by rw [Bool.eq_false_iff]; intro hb; exact h (Nat.eq_of_beq_eq_true hb)
  simp [kv, this, h]
structure St where
 s : List (Nat × Dt)
 b : List (Nat × List Dt)
 g : List (Nat × Gr)
structure Ctx where
 n : Nat
 w0 : World
 cl0 : Nat → Option Nat
 own : Nat → Prop
 kb : List (Nat × Nat)
 dfs : List Deferred
def BoxAt (e : Env) (b : Nat) (cs : List Dt) : Prop := ∃ k vs el, e.bx b = some k ∧ e.w.heap[k]? = some (.cells (List.toArray vs) el (0, 0)) ∧ DReps e vs cs
structure Kept (own : Nat → Prop) (w w' : World) : Prop where
 os : w'.os = w.os
 tape : w'.tape = w.tape
 output : w'.output = w.output
 size : w.heap.size ≤ w'.heap.size
 block : ∀ k, k < w.heap.size → ¬ own k → w'.heap[k]? = w.heap[k]?
theorem Kept.refl (own : Nat → Prop) (w : World) : Kept own w w := ⟨rfl, rfl, rfl, Nat.le_refl _, fun _ _ _ => rfl⟩
theorem Kept.below {own : Nat → Prop} {w w' w'' : World} (h : Kept own w w') (hb : Below w'.heap.size w' w'') : Kept own w w'' :=
 ⟨hb.os.trans h.os, hb.tape.trans h.tape, hb.output.trans h.output, Nat.le_trans h.size hb.size, fun k hk ho => (hb.block k (Nat.lt_of_lt_of_le hk h.size)).trans (h.block k hk ho)⟩
structure EnvOk (Γ : Ctx) (e : Env) : Prop where
 kept : Kept Γ.own Γ.w0 e.w
 cl : ∀ k, k < Γ.w0.heap.size → ¬ Γ.own k → e.cl k = Γ.cl0 k
 bx : ∀ b k, e.bx b = some k → k < e.w.heap.size ∧ (Γ.w0.heap.size ≤ k ∨ Γ.own k) ∧ e.cl k = some 0 ∧ e.gr k = none
 inj : ∀ b c k, e.bx b = some k → e.bx c = some k → b = c
 gr : ∀ k g, e.gr k = some g → ∃ G cur, e.gi g = some G ∧ k < e.w.heap.size ∧ (Γ.w0.heap.size ≤ k ∨ Γ.own k) ∧ e.cl k = some (G.len * G.sz) ∧ e.w.heap[k]? = some (.cells cur G.el (0, 0))
 kb : ∀ b k, kv Γ.kb b = some k → e.bx b = some k
structure Conc (Γ : Ctx) (σ : St) (e : Env) (a : Act) : Prop where
 size : a.tmps.size = Γ.n
 df : a.defers = Γ.dfs
 slots : ∀ t d, kv σ.s t = some d → DRep e (uI a t) d
 boxes : ∀ b cs, kv σ.b b = some cs → BoxAt e b cs
 nobox : ∀ b, kv σ.b b = none → e.bx b = none
 gs : ∀ g, e.gi g = kv σ.g g
 env : EnvOk Γ e
structure Grow (e e' : Env) : Prop where
 below : Below e.w.heap.size e.w e'.w
 cl : ∀ k, k < e.w.heap.size → e'.cl k = e.cl k
 bx : e'.bx = e.bx
 gr : e'.gr = e.gr
 gi : e'.gi = e.gi
theorem Grow.refl (e : Env) : Grow e e := ⟨Below.refl _ _, fun _ _ => rfl, rfl, rfl, rfl⟩
theorem Grow.trans {a b c : Env} (h : Grow a b) (k : Grow b c) : Grow a c :=
 ⟨h.below.trans (k.below.mono h.below.size), fun x hx => (k.cl x (Nat.lt_of_lt_of_le hx h.below.size)).trans (h.cl x hx), k.bx.trans h.bx, k.gr.trans h.gr, k.gi.trans h.gi⟩
theorem jZ6 {w : World} {b o : Nat} {v : Value} (h : w.cell? ⟨b, o, none⟩ = some v) : b < w.heap.size := by
 rcases Nat.lt_or_ge b w.heap.size with hlt | hge
 ·exact hlt
 ·simp [World.cell?, Array.getElem?_eq_none hge] at h
theorem jB4 {w : World} {b : Nat} {o : Obj} (h : w.heap[b]? = some o) : b < w.heap.size := by
 rcases Nat.lt_or_ge b w.heap.size with hlt | hge
 ·exact hlt
 ·rw [Array.getElem?_eq_none hge] at h; cases h
theorem Grow.claimed {e e' : Env} (h : Grow e e') {b o : Nat} (hb : b < e.w.heap.size) (hc : e.claimed b o) : e'.claimed b o := fun k hk => hc k (by rw [← h.cl b hb]; exact hk)
theorem Grow.ends {e e' : Env} (h : Grow e e') : Ends e e' := by
 refine ⟨fun b o v hc hv => ?_, fun b k hk => by rw [h.bx]; exact hk, fun g G hg => ⟨G, by rw [h.gi]; exact hg, rfl, rfl, Nat.le_refl _⟩, fun k g G cur h1 h2 h3 => ⟨by rw [h.gr]; exact h1, cur, ?_, rfl⟩⟩
 ·have hb := jZ6 hv
  exact ⟨h.claimed hb hc, by rw [h.below.cell (p := ⟨b, o, none⟩) hb]; exact hv⟩
 ·rw [h.below.block k (jB4 h3)]; exact h3
theorem Grow.box {e e' : Env} (h : Grow e e') {b : Nat} {cs : List Dt} (hb : BoxAt e b cs) : BoxAt e' b cs := by
 obtain ⟨k, vs, el, h1, h2, h3⟩ := hb
 exact ⟨k, vs, el, by rw [h.bx]; exact h1, by rw [h.below.block k (jB4 h2)]; exact h2, h3.next h.ends⟩
theorem Grow.ok {Γ : Ctx} {e e' : Env} (h : Grow e e') (ho : EnvOk Γ e) : EnvOk Γ e' := by
 refine ⟨ho.kept.below h.below, fun k hk hw => (h.cl k (Nat.lt_of_lt_of_le hk ho.kept.size)).trans (ho.cl k hk hw), fun b k hb => ?_, fun b c k h1 h2 => ho.inj b c k (by rw [← h.bx]; exact h1) (by rw [← h.bx]; exact h2), fun k g hg => ?_, fun b k hk => by rw [h.bx]; exact ho.kb b k hk⟩
 ·rw [h.bx] at hb
  obtain ⟨h1, h2, h3, h4⟩ := ho.bx b k hb
  exact ⟨Nat.lt_of_lt_of_le h1 h.below.size, h2, (h.cl k h1).trans h3, by rw [h.gr]; exact h4⟩
 ·rw [h.gr] at hg
  obtain ⟨G, cur, h1, h2, h3, h4, h5⟩ := ho.gr k g hg
  exact ⟨G, cur, by rw [h.gi]; exact h1, Nat.lt_of_lt_of_le h2 h.below.size, h3, (h.cl k h2).trans h4, by rw [h.below.block k h2]; exact h5⟩
theorem Conc.grow {Γ : Ctx} {σ : St} {e e' : Env} {a : Act} (hc : Conc Γ σ e a) (h : Grow e e') : Conc Γ σ e' a :=
 ⟨hc.size, hc.df, fun t d ht => (hc.slots t d ht).next h.ends, fun b cs hb => h.box (hc.boxes b cs hb), fun b hb => by rw [h.bx]; exact hc.nobox b hb, fun g => by rw [h.gi]; exact hc.gs g, h.ok hc.env⟩
def St.put (σ : St) : Option Nat → Dt → St
 | some t, d => ⟨(t, d) :: σ.s, σ.b, σ.g⟩
 | none, _ => σ
def St.box (σ : St) : Option (Nat × List Dt) → St
 | some p => ⟨σ.s, p :: σ.b, σ.g⟩
 | none => σ
def dstLt (n : Nat) : Option Nat → Bool
 | some t => Nat.blt t n
 | none => true
theorem Conc.put {Γ : Ctx} {σ : St} {e : Env} {a : Act} (hc : Conc Γ σ e a) {dst : Option Nat} (hd : dstLt Γ.n dst = true) {v : Value} {d : Dt} (hv : DRep e v d) : Conc Γ (σ.put dst d) e (a.put dst v) := by
 cases dst with
 | none => exact hc
 | some t =>
  have ht : t < Γ.n := by simpa [dstLt, Nat.blt_eq] using hd
  refine ⟨by rw [jP1]; exact hc.size, by rw [jH8]; exact hc.df, fun u c hu => ?_, hc.boxes, hc.nobox, hc.gs, hc.env⟩
  simp only [St.put, jU] at hu
  split at hu
  ·rename_i htu
   subst htu
   cases hu
   rw [uV (by rw [hc.size]; exact ht)]
   exact hv
  ·rename_i htu
   rw [yE (fun e => htu (by cases e; rfl))]
   exact hc.slots u c hu
def Env.withBox (e : Env) (b k : Nat) : Env := { e with bx := fun x => if x = b then some k else e.bx x }
theorem yS {e : Env} {b k : Nat} (h : e.bx b = none) : Ends e (e.withBox b k) :=
 ⟨fun _ _ _ h1 h2 => ⟨h1, h2⟩, fun c j hj => by
  show (if c = b then some k else e.bx c) = some j
  rw [if_neg (fun e' => by rw [e', h] at hj; cases hj)]; exact hj, fun _ G hg => ⟨G, hg, rfl, rfl, Nat.le_refl _⟩, fun _ _ _ cur h1 _ h3 => ⟨h1, cur, h3, rfl⟩⟩
theorem BoxAt.ends {e e' : Env} {b : Nat} {cs : List Dt} (h : BoxAt e b cs) (hE : Ends e e') (hw : e'.w = e.w) : BoxAt e' b cs := by
 obtain ⟨k, vs, el, h1, h2, h3⟩ := h
 exact ⟨k, vs, el, hE.bx _ _ h1, by rw [hw]; exact h2, h3.next hE⟩
theorem Conc.newBox {Γ : Ctx} {σ : St} {e : Env} {a : Act} (hc : Conc Γ σ e a) {b k : Nat} {cs : List Dt} (hb : kv σ.b b = none) (hk : k < e.w.heap.size) (hbase : Γ.w0.heap.size ≤ k) (hcl : e.cl k = some 0) (hgr : e.gr k = none) (hfree : ∀ c, e.bx c ≠ some k)
  (hat : BoxAt (e.withBox b k) b cs) : Conc Γ (σ.box (some (b, cs))) (e.withBox b k) a := by
 have hn := hc.nobox b hb
 have hE := yS (k := k) hn
 refine ⟨hc.size, hc.df, fun t d ht => (hc.slots t d ht).next hE, fun c ds hcd => ?_, fun c hcn => ?_, hc.gs, ?_⟩
 ·simp only [St.box, jU] at hcd
  split at hcd
  ·rename_i hbc; subst hbc; cases hcd; exact hat
  ·exact (hc.boxes c ds hcd).ends hE rfl
 ·simp only [St.box, jU] at hcn
  split at hcn
  ·cases hcn
  ·rename_i hbc
   show (if c = b then some k else e.bx c) = none
   rw [if_neg (fun e' => hbc e'.symm)]
   exact hc.nobox c hcn
 ·refine ⟨hc.env.kept, hc.env.cl, fun c j hj => ?_, fun c c' j h1 h2 => ?_, hc.env.gr, fun c j hj => hE.bx c j (hc.env.kb c j hj)⟩
  ·have hj' : (if c = b then some k else e.bx c) = some j := hj
   split at hj'
   ·cases hj'; exact ⟨hk, .inl hbase, hcl, hgr⟩
   ·exact hc.env.bx c j hj'
  ·have h1' : (if c = b then some k else e.bx c) = some j := h1
   have h2' : (if c' = b then some k else e.bx c') = some j := h2
   by_cases e1 : c = b <;> by_cases e2 : c' = b
   ·rw [e1, e2]
   ·rw [if_pos e1] at h1'; rw [if_neg e2] at h2'; cases h1'; exact absurd h2' (hfree c')
   ·rw [if_neg e1] at h1'; rw [if_pos e2] at h2'; cases h2'; exact absurd h1' (hfree c)
   ·rw [if_neg e1] at h1'; rw [if_neg e2] at h2'; exact hc.env.inj c c' j h1' h2'
def QPost (e e' : Env) (v : Value) (d : Dt) : Option (Nat × List Dt) → Prop
 | none => Grow e e' ∧ DRep e' v d
 | some (b, cs) => ∃ e1 k, Grow e e1 ∧ e.w.heap.size ≤ k ∧ k < e1.w.heap.size ∧ e1.cl k = some 0 ∧ e' = e1.withBox b k ∧ BoxAt e' b cs ∧ DRep e' v d
theorem Conc.quiet {Γ : Ctx} {σ : St} {e e' : Env} {a : Act} (hc : Conc Γ σ e a) {dst : Option Nat} (hd : dstLt Γ.n dst = true) {v : Value} {d : Dt} {nb : Option (Nat × List Dt)} (hnb : ∀ p, nb = some p → kv σ.b p.1 = none) (h : QPost e e' v d nb) : Conc Γ ((σ.box nb).put dst d) e' (a.put dst v) := by
 cases nb with
 | none => exact (hc.grow h.1).put hd h.2
 | some p =>
  obtain ⟨b, cs⟩ := p
  obtain ⟨e1, k, hg, h1, h2, h3, rfl, h5, h6⟩ := h
  have hc1 := hc.grow hg
  refine (hc1.newBox (hnb _ rfl) h2 (Nat.le_trans hc.env.kept.size h1) h3 ?_ ?_ h5).put hd h6
  ·rw [hg.gr]
   rcases hgk : e.gr k with _ | g
   ·rfl
   ·obtain ⟨_, _, _, hlt, _⟩ := hc.env.gr k g hgk; omega
  ·intro c hck
   rw [hg.bx] at hck
   have := (hc.env.bx c k hck).1
   omega
def yW : Value → Dt
 | .slice none 0 0 => .p (.sl true 0 [])
 | v => .p (.raw v)
def uM : Value → Dt
 | .agg cs => .agg (cs.toList.map yW)
 | v => yW v
theorem nil_rep (e : Env) : PRep e (.slice none 0 0) (.sl true 0 []) := .sl (fun _ => undef) (Nat.le_refl _) (by unfold maxLen; omega) (fun _ => rfl) (fun _ => rfl) (fun i x h => by simp at h) (fun i x h => by simp at h)
theorem jD7 (e : Env) (v : Value) : DRep e v (yW v) := by
 unfold yW
 split
 ·exact .p (nil_rep e)
 ·exact .p (.raw v)
theorem wX (e : Env) (v : Value) : DRep e v (uM v) := by
 unfold uM
 split
 ·rename_i cs
  have : DRep e (.agg cs.toList.toArray) (.agg (cs.toList.map yW)) := .agg (by simp) (fun i v d h1 h2 => by
   rw [List.getElem?_map, h1] at h2
   cases h2
   exact jD7 e v)
  simpa using this
 ·exact jD7 e v
/-! Lists, written out as they are taken apart. -/
def jE3 {α β : Type} : Nat → List β → (List β → Option α) → Option α
 | 0, _, k => k []
 | n + 1, x :: l, k => jE3 n l (fun r => k (x :: r))
 | _ + 1, [], _ => none
def wK {α β : Type} : Nat → List β → (List β → Option α) → Option α
 | 0, l, k => k l
 | n + 1, _ :: l, k => wK n l k
 | _ + 1, [], _ => none
def mapK {α β γ : Type} (f : γ → β) : List γ → (List β → Option α) → Option α
 | [], k => k []
 | x :: l, k => mapK f l (fun r => k (f x :: r))
def appK {α β : Type} : List β → List β → (List β → Option α) → Option α
 | [], m, k => k m
 | x :: l, m, k => appK l m (fun r => k (x :: r))
theorem vD {α β : Type} : ∀ {n : Nat} {l : List β} {k : List β → Option α} {a : α}, jE3 n l k = some a → n ≤ l.length ∧ k (l.take n) = some a
 | 0, l, k, a, h => ⟨Nat.zero_le _, by simpa [jE3] using h⟩
 | n + 1, x :: l, k, a, h => by
  obtain ⟨h1, h2⟩ := vD (n := n) (l := l) (k := fun r => k (x :: r)) h
  exact ⟨by simpa using h1, by simpa using h2⟩
 | n + 1, [], k, a, h => by cases h
theorem qO {α β : Type} : ∀ {n : Nat} {l : List β} {k : List β → Option α} {a : α}, wK n l k = some a → n ≤ l.length ∧ k (l.drop n) = some a
 | 0, l, k, a, h => ⟨Nat.zero_le _, by simpa [wK] using h⟩
 | n + 1, x :: l, k, a, h => by
  obtain ⟨h1, h2⟩ := qO (n := n) (l := l) (k := k) h
  exact ⟨by simpa using h1, by simpa using h2⟩
 | n + 1, [], k, a, h => by cases h
theorem mapK_eq {α β γ : Type} (f : γ → β) : ∀ (l : List γ) (k : List β → Option α), mapK f l k = k (l.map f)
 | [], k => rfl
 | x :: l, k => by rw [mapK, mapK_eq f l]; rfl
theorem wQ {α β : Type} : ∀ (l m : List β) (k : List β → Option α), appK l m k = k (l ++ m)
 | [], m, k => rfl
 | x :: l, m, k => by rw [appK, wQ l m]; rfl
def leafK {α : Type} (v : Value) (k : Dt → Option α) : Option α := match v with
 | .slice none 0 0 => k (.p (.sl true 0 []))
 | v => k (.p (.raw v))
def kF4 {α : Type} : List Value → (List Dt → Option α) → Option α
 | [], k => k []
 | v :: l, k => leafK v fun d => kF4 l fun r => k (d :: r)
def jH4 {α : Type} (v : Value) (k : Dt → Option α) : Option α := match v with
 | .agg cs => kF4 cs.toList fun ds => k (.agg ds)
 | v => leafK v k
theorem leafK_eq {α : Type} (v : Value) (k : Dt → Option α) : leafK v k = k (yW v) := by
 unfold leafK yW
 split <;> rfl
theorem kM4 {α : Type} : ∀ (l : List Value) (k : List Dt → Option α), kF4 l k = k (l.map yW)
 | [], k => rfl
 | v :: l, k => by rw [kF4, leafK_eq, kM4 l]; rfl
theorem jC3 {α : Type} (v : Value) (k : Dt → Option α) : jH4 v k = k (uM v) := by
 unfold jH4 uM
 split
 ·rw [kM4]
 ·rw [leafK_eq]
def ev (S : Nat → Option Dt) : Operand → Option Dt
 | .tmp t => S t
 | .const v => jH4 v some
 | .func f => some (.fn (.func f) [] [])
 | .global _ => none
def jK4 {α : Type} (S : Nat → Option Dt) : List Operand → (List Dt → Option α) → Option α
 | [], k => k []
 | x :: l, k => match ev S x with
  | some d => jK4 S l fun r => k (d :: r)
  | none => none
def Sees (S : Nat → Option Dt) (B : Nat → Option (List Dt)) (a : Act) (e : Env) (xs : Array Operand) : Prop :=
 (∀ x ∈ xs, ∀ d, ev S x = some d → DRep e (a.eval x) d) ∧ ∀ b cs, B b = some cs → BoxAt e b cs
theorem Conc.sees {Γ : Ctx} {σ : St} {e : Env} {a : Act} (hc : Conc Γ σ e a) (xs : Array Operand) : Sees (kv σ.s) (kv σ.b) a e xs := by
 refine ⟨fun x _ d hx => ?_, hc.boxes⟩
 cases x with
 | tmp t => exact hc.slots t d hx
 | const v => simp only [ev, jC3, Option.some.injEq] at hx; subst hx; exact wX e v
 | global g => cases hx
 | func f =>
  simp only [ev, Option.some.injEq] at hx
  subst hx
  exact .fn (us := []) (vs := []) rfl rfl (fun i v d h => by simp at h) (fun i v d h => by simp at h)
def QStep (P : Program) (o : Oper) (S : Nat → Option Dt) (B : Nat → Option (List Dt)) (d : Dt) (nb : Option (Nat × List Dt)) : Prop :=
 ∀ (a : Act) (e : Env), Sees S B a e o.op.operands → (∀ p, nb = some p → e.bx p.1 = none) →
  o.wp P a e.w (fun a' w' => ∃ v e', a' = a.put o.dst v ∧ e'.w = w' ∧ QPost e e' v d nb) (fun _ _ _ => False)
theorem kZ {P : Program} {o : Oper} {S : Nat → Option Dt} {B : Nat → Option (List Dt)} {d : Dt} (h : ∀ (a : Act) (e : Env), Sees S B a e o.op.operands → ∃ v, (execOp a.eval o).run P e.w = .ok (.value v) e.w ∧ DRep e v d) : QStep P o S B d none := by
 intro a e hs _
 obtain ⟨v, hr, hv⟩ := h a e hs
 unfold Oper.wp
 rw [hr]
 exact ⟨v, e, rfl, rfl, Grow.refl e, hv⟩
end Go.Proofs.YtkkldicehapklaaGreat
end
section
/- The operations, on what is known. -/
namespace Go.Proofs.YtkkldicehapklaaGreat
open Go.RowKit
inductive TK where
 | int (k : IntKind)
 | bool
 | str
 | slice (e : TypeId)
 | struct (fs : List (TypeId × Nat × Nat))
 | array (n : Nat) (e : TypeId)
 | other
structure TI where
 k : TK
 sz : Nat
 bytes : Nat
 zero : Value
def jF2 (P : Program) : TypeDesc → TK
 | .int k => .int k
 | .bool => .bool
 | .string => .str
 | .slice e => .slice e
 | .struct fs => .struct (fs.toList.map fun f => (f.type, f.offset, P.cellsOf f.type))
 | .array n e => .array n e
 | _ => .other
structure kU (P : Program) (T : Nat → Option TI) : Prop where
 desc : ∀ t i, T t = some i → ∃ d, P.underlying t = some d ∧ jF2 P d = i.k
 info : ∀ t i, T t = some i → ∃ f, P.info? t = some f ∧ f.size = i.sz ∧ f.bytes = i.bytes ∧ f.zero = some i.zero
def TK.agg : TK → Bool
 | .struct _ | .array _ _ => true
 | _ => false
def loadD (i : TI) (ds : List Dt) : Option Dt :=
 bif i.k.agg then jE3 i.sz ds fun r => some (.agg r)
 else match ds with
  | d :: _ => some d
  | [] => none
def kA9 : BinOp → Value → Value → Option Value
 | .add, .int .i64 a, .int .i64 b => some (.int .i64 (IntKind.i64.wrap (a + b)))
 | .sub, .int .i64 a, .int .i64 b => some (.int .i64 (IntKind.i64.wrap (a - b)))
 | .mul, .int .i64 a, .int .i64 b => some (.int .i64 (IntKind.i64.wrap (a * b)))
 | .eql, .int .i64 a, .int .i64 b => some (.bool (decide (a = b)))
 | .neq, .int .i64 a, .int .i64 b => some (.bool (!decide (a = b)))
 | .lss, .int .i64 a, .int .i64 b => some (.bool (decide (a < b)))
 | .leq, .int .i64 a, .int .i64 b => some (.bool (decide (a ≤ b)))
 | .gtr, .int .i64 a, .int .i64 b => some (.bool (decide (b < a)))
 | .geq, .int .i64 a, .int .i64 b => some (.bool (decide (b ≤ a)))
 | .add, .int .u64 a, .int .u64 b => some (.int .u64 (IntKind.u64.wrap (a + b)))
 | .sub, .int .u64 a, .int .u64 b => some (.int .u64 (IntKind.u64.wrap (a - b)))
 | .mul, .int .u64 a, .int .u64 b => some (.int .u64 (IntKind.u64.wrap (a * b)))
 | .eql, .int .u64 a, .int .u64 b => some (.bool (decide (a = b)))
 | .neq, .int .u64 a, .int .u64 b => some (.bool (!decide (a = b)))
 | .lss, .int .u64 a, .int .u64 b => some (.bool (decide (a < b)))
 | .and, .int .u64 a, .int .u64 b => some (.int .u64 (IntKind.u64.wrap ((BitVec.ofInt 64 a &&& BitVec.ofInt 64 b).toNat)))
 | .andNot, .int .u64 a, .int .u64 b => some (.int .u64 (IntKind.u64.wrap ((BitVec.ofInt 64 a &&& ~~~BitVec.ofInt 64 b).toNat)))
 | .and, .int .i64 a, .int .i64 b => some (.int .i64 (IntKind.i64.wrap ((BitVec.ofInt 64 a &&& BitVec.ofInt 64 b).toNat)))
 | .eql, .int .u8 a, .int .u8 b => some (.bool (decide (a = b)))
 | .eql, .bool a, .bool b => some (.bool (a == b))
 | .neq, .bool a, .bool b => some (.bool (!(a == b)))
 | _, _, _ => none
theorem kI7 {P : Program} {t : TypeId} (hu : P.underlying t = some .bool) (a b : Bool) (w : World) : (Op.equal t (.bool a) (.bool b)).run P w = .ok (a == b) w := by
 show (Op.equalIn (9999 + 1) t _ _).run P w = _
 rw [Op.equalIn]
 simp only [Sem.run_bind, run_underlying hu, Result.andThen_ok]
 rfl
theorem binRaw_run {P : Program} {T : Nat → Option TI} (_hT : kU P T) {op : BinOp} {t : TypeId} {u v r : Value} (h : kA9 op u v = some r) (hb : ∀ b : Bool, u = .bool b → P.underlying t = some .bool) (x y : Operand) (w : World) :
  (do eqGuard op t x y u v; binOp op t u v : Sem Value).run P w = .ok r w := by
 unfold kA9 at h
 split at h
 all_goals cases h
 all_goals first
  | (simp only [eqGuard, binOp, Op.intArith, Op.intCmp, Op.intBits, IntKind.bits]; rfl)
  | (rename_i a b; have hu : P.underlying t = some .bool := hb a rfl; simp only [eqGuard, binOp]; simp [kI7 hu]; done)
  | skip
def partD (ft : TypeId × Nat × Nat) (isAgg : Bool) (ds : List Dt) : Option Dt :=
 bif isAgg then wK ft.2.1 ds fun r => jE3 ft.2.2 r fun q => some (.agg q)
 else ds[ft.2.1]?
def lenArgs (c : Call) : Option (Operand × TypeId) := match c.callee with
 | .builtin .len => match c.args.toList, c.argTypes.toList with
  | [x], [t] => some (x, t)
  | _, _ => none
 | _ => none
theorem lenArgs_eq {c : Call} {x : Operand} {t : TypeId} (h : lenArgs c = some (x, t)) : c = { callee := .builtin .len, args := #[x], argTypes := #[t] } := by
 obtain ⟨callee, args, ats⟩ := c
 unfold lenArgs at h
 simp only at h
 split at h
 ·split at h
  ·rename_i h1 h2
   cases h
   obtain ⟨l1⟩ := args
   obtain ⟨l2⟩ := ats
   simp only at h1 h2
   subst h1; subst h2
   rfl
  ·cases h
 ·cases h
def ax (T : Nat → Option TI) (S : Nat → Option Dt) (B : Nat → Option (List Dt)) : Op → Option Dt
 | .move x | .assign x => ev S x
 | .pick c x y => match ev S c with
  | some (.p (.raw (.bool true))) => ev S x
  | some (.p (.raw (.bool false))) => ev S y
  | _ => none
 | .load t x => match T t, ev S x with
  | some i, some (.ptr b o) => match B b with
   | some cs => wK o cs (loadD i)
   | none => none
  | some i, some (.el ps) => mapK Dt.p ps (loadD i)
  | _, _ => none
 | .binOp op t x y _ => match T t, ev S x, ev S y with
  | some i, some (.p (.raw u)), some (.p (.raw v)) => match kA9 op u v, u, i.k with
   | some r, .bool _, .bool => some (.p (.raw r))
   | some r, .int .., _ => some (.p (.raw r))
   | _, _, _ => none
  | _, _, _ => none
 | .unOp u _ x => match u, ev S x with
  | .not, some (.p (.raw (.bool b))) => some (.p (.raw (.bool (!b))))
  | .neg, some (.p (.raw (.int .i64 n))) => some (.p (.raw (.int .i64 (IntKind.i64.wrap (0 - n)))))
  | _, _ => none
 | .convert s t x => match T s, T t, ev S x with
  | some ⟨.int _, _, _, _⟩, some ⟨.int k, _, _, _⟩, some (.p (.raw (.int _ n))) => some (.p (.raw (.int k (k.wrap n))))
  | _, _, _ => none
 | .extract x i => match ev S x with
  | some (.tup ds) => ds[i]?
  | _ => none
 | .fieldAddr t x f => match T t, ev S x with
  | some ⟨.struct fs, _, _, _⟩, some (.ptr b o) => match fs[f]? with
   | some (_, off, _ + 1) => some (.ptr b (o + off))
   | _ => none
  | some ⟨.struct fs, _, _, _⟩, some (.el ps) => match fs[f]? with
   | some (_, off, _ + 1) => wK off ps fun r => some (.el r)
   | _ => none
  | _, _ => none
 | .field t x f => match T t, ev S x with
  | some ⟨.struct fs, _, _, _⟩, some (.agg ds) => match fs[f]? with
   | some ft => match T ft.1 with
    | some j => partD ft j.k.agg ds
    | none => none
   | none => none
  | _, _ => none
 | .call c => match lenArgs c with
  | some (x, t) => match T t, ev S x with
   | some ⟨.slice _, _, _, _⟩, some (.p (.sl _ n _)) => some (.p (.raw (.int .i64 n)))
   | some ⟨.slice _, _, _, _⟩, some (.tip _ n _) => some (.p (.raw (.int .i64 n)))
   | some ⟨.slice _, _, _, _⟩, some (.arr _ _ n _) => some (.p (.raw (.int .i64 n)))
   | _, _ => none
  | none => none
 | .makeFunc f first caps => jK4 S first.toList fun fs => jK4 S caps.toList fun cs => some (.fn f fs cs)
 | .nilCheck x => match ev S x with
  | some (.ptr b o) => some (.ptr b o)
  | some (.el ps) => some (.el ps)
  | _ => none
 | _ => none
end Go.Proofs.YtkkldicehapklaaGreat
end
section
/- The operations that make no variable are quiet. -/
namespace Go.Proofs.YtkkldicehapklaaGreat
open Go.RowKit
section
variable {P : Program} {T : Nat → Option TI} {S : Nat → Option Dt} {B : Nat → Option (List Dt)}
theorem jR3 {t : TypeId} {i : TI} (hT : kU P T) (ht : T t = some i) (w : World) : (isAgg t).run P w = .ok i.k.agg w := by
 obtain ⟨d, hd, hk⟩ := hT.desc t i ht
 unfold isAgg
 simp only [Sem.run_bind, run_underlying hd, Result.andThen_ok]
 rw [← hk]
 cases d <;> rfl
theorem yO {t : TypeId} {i : TI} (hT : kU P T) (ht : T t = some i) (w : World) : (sizeOf t).run P w = .ok i.sz w := by
 obtain ⟨f, hf, hs, _⟩ := hT.info t i ht
 simp [sizeOf, typeInfo, hf, hs]
theorem uT {t : TypeId} {i : TI} (hT : kU P T) (ht : T t = some i) (w : World) : (zeroValue t).run P w = .ok i.zero w := by
 obtain ⟨f, hf, _, _, hz⟩ := hT.info t i ht
 simp [zeroValue, typeInfo, hf, hz]
theorem xG (b o n : Nat) : (⟨b, o, none⟩ : Addr).add n = ⟨b, o + n, none⟩ := Addr.add_lit b o n
theorem jU6 (hT : kU P T) {t : TypeId} {i : TI} (ht : T t = some i) {e : Env} {k o : Nat} {us : List Value} {ds : List Dt} (hu : ∀ j v, us[j]? = some v → e.w.cell? ⟨k, o + j, none⟩ = some v) (hr : DReps e us ds) {d : Dt} (hd : loadD i ds = some d) :
  ∃ v, (Instr.loadAt t (.pointer (some ⟨k, o, none⟩))).run P e.w = .ok v e.w ∧ DRep e v d := by
 unfold loadD at hd
 simp only [Instr.loadAt, Instr.sureAddr, loadVar, Sem.run_bind, Sem.run_pure, Result.andThen_ok, jR3 hT ht]
 cases hag : i.k.agg
 ·rw [hag] at hd
  simp only [cond_false] at hd
  split at hd
  ·rename_i d' ds'
   cases hd
   obtain ⟨v, us', rfl, hv, _⟩ := hr.uncons
   have := hu 0 v rfl
   simp only [Nat.add_zero] at this
   exact ⟨v, by simp [run_load, this], hv⟩
  ·cases hd
 ·rw [hag] at hd
  simp only [cond_true] at hd
  obtain ⟨hle', hd⟩ := vD hd
  cases hd
  ·skip
   have hl : (us.take i.sz).length = i.sz := by rw [List.length_take, hr.1]; omega
   have := run_loadCells_list (P := P) e.w ⟨k, o, none⟩ (us.take i.sz) (fun j v hj => by
    rw [List.getElem?_take] at hj
    split at hj
    ·rw [xG]; exact hu j v hj
    ·cases hj)
   rw [hl] at this
   refine ⟨.agg (us.take i.sz).toArray, by simp [this, yO hT ht], ?_⟩
   have ht := hr.take i.sz
   exact .agg ht.1 ht.2
theorem el_cells {e : Env} {b o : Nat} {ps : List Pl} (h : ElAt e b o ps) : ∃ us, (∀ j v, us[j]? = some v → e.w.cell? ⟨b, o + j, none⟩ = some v) ∧ DReps e us (ps.map .p) ∧ ∀ v ∈ us, jA2 v = true := by
 obtain ⟨f, hf⟩ := h
 refine ⟨(List.range ps.length).map f, fun j v hj => ?_, ⟨by simp, fun j v d h1 h2 => ?_⟩, fun v hv => ?_⟩
 ·rw [List.getElem?_map] at hj
  rcases hjr : (List.range ps.length)[j]? with _ | q
  ·rw [hjr] at hj; cases hj
  ·rw [hjr] at hj
   have hlt : j < ps.length := by have := (List.getElem?_eq_some_iff.1 hjr).1; simpa using this
   have hq : q = j := by rw [List.getElem?_range hlt] at hjr; cases hjr; rfl
   subst hq
   simp only [Option.map_some, Option.some.injEq] at hj
   subst hj
   exact (hf q _ (List.getElem?_eq_getElem hlt)).2.1
 ·rw [List.getElem?_map] at h1 h2
  rcases hp : ps[j]? with _ | x
  ·rw [hp] at h2; cases h2
  ·rw [hp] at h2
   have hlt : j < ps.length := (List.getElem?_eq_some_iff.1 hp).1
   rw [List.getElem?_range hlt] at h1
   simp only [Option.map_some, Option.some.injEq] at h1 h2
   subst h1; subst h2
   exact .p (hf j x hp).2.2.2
 ·obtain ⟨j, hj, rfl⟩ := List.mem_map.1 hv
  have hlt : j < ps.length := by simpa using hj
  exact (hf j _ (List.getElem?_eq_getElem hlt)).2.2.1
theorem kF {e : Env} {v u : Value} (h : DRep e v (.p (.raw u))) : v = u := by
 cases h with
 | p h => cases h; rfl
theorem xI {α : Type} {a : Act} {e : Env} : ∀ (xs : List Operand) (k : List Dt → Option α) (r : α), (∀ x ∈ xs, ∀ d, ev S x = some d → DRep e (a.eval x) d) → jK4 S xs k = some r → ∃ ds, DReps e (xs.map a.eval) ds ∧ k ds = some r
 | [], k, r, _, h => ⟨[], DReps.nil e, h⟩
 | x :: xs, k, r, hs, h => by
  simp only [jK4] at h
  split at h
  ·rename_i d hd
   obtain ⟨ds, h1, h2⟩ := xI xs _ r (fun y hy => hs y (by simp [hy])) h
   exact ⟨d :: ds, DReps.cons (hs x (by simp) d hd) h1, h2⟩
  ·cases h
theorem jQ7 {t : TypeId} {fs : List (TypeId × Nat × Nat)} {a b c : _} (hT : kU P T) (ht : T t = some ⟨.struct fs, a, b, c⟩) {f : Nat} {ft : TypeId} {off sz : Nat} (hf : fs[f]? = some (ft, off, sz + 1)) (k o : Nat) (w : World) :
  (Instr.fieldAt t (.pointer (some ⟨k, o, none⟩)) f).run P w = .ok (.pointer (some ⟨k, o + off, none⟩)) w := by
 obtain ⟨d, hd, hk⟩ := hT.desc t _ ht
 cases d <;> simp only [jF2, TK.struct.injEq, reduceCtorEq] at hk
 rename_i fields
 subst hk
 rw [List.getElem?_map] at hf
 rcases hq : fields.toList[f]? with _ | q
 ·rw [hq] at hf; cases hf
 ·rw [hq] at hf
  simp only [Option.map_some, Option.some.injEq, Prod.mk.injEq] at hf
  obtain ⟨rfl, rfl, h3⟩ := hf
  have hq' : fields[f]? = some q := by simpa using hq
  have hsz : (sizeOf q.type).run P w = .ok (sz + 1) w := by
   unfold Program.cellsOf at h3
   rcases hi : P.info? q.type with _ | i
   ·rw [hi] at h3; simp at h3
   ·rw [hi] at h3
    simp only [Option.map_some, Option.getD_some] at h3
    simp [sizeOf, typeInfo, hi, h3]
  simp [Instr.fieldAt, run_underlying hd, hq', Instr.sureAddr, fieldPlace, hsz, xG]
theorem jE2 (hT : kU P T) {o : Oper} {d : Dt} (h : ax T S B o.op = some d) : QStep P o S B d none := by
 obtain ⟨dst, op, type, pos, after, guard⟩ := o
 refine kZ fun a e hs => ?_
 simp only at h hs
 have see : ∀ x ∈ op.operands, ∀ d, ev S x = some d → DRep e (a.eval x) d := hs.1
 cases op <;> simp only [ax, reduceCtorEq] at h
 case move x => exact ⟨_, rfl, see x (by simp [Op.operands]) d h⟩
 case assign x => exact ⟨_, rfl, see x (by simp [Op.operands]) d h⟩
 case pick c x y =>
  split at h
  ·rename_i hc
   have hev := kF (see c (by simp [Op.operands]) _ hc)
   exact ⟨a.eval x, by simp [execOp, asBool, hev], see x (by simp [Op.operands]) d h⟩
  ·rename_i hc
   have hev := kF (see c (by simp [Op.operands]) _ hc)
   exact ⟨a.eval y, by simp [execOp, asBool, hev], see y (by simp [Op.operands]) d h⟩
  ·cases h
 case load t x =>
  split at h
  ·rename_i i b o ht hx
   have h1 := see x (by simp [Op.operands]) _ hx
   split at h
   ·rename_i cs hB
    obtain ⟨k, vs, el, h2, h3, h4⟩ := hs.2 b cs hB
    generalize hev : a.eval x = vx at h1
    cases h1 with
    | ptr h1 =>
     rename_i k'
     rw [h2] at h1
     cases h1
     have := jU6 hT ht (k := k) (o := o) (us := vs.drop o) (fun j v hj => by
      rw [List.getElem?_drop] at hj
      rw [cell_of_row e.w k (o + j) vs.toArray el (0, 0) h3]
      simpa using hj) (h4.drop o) (qO h).2
     obtain ⟨v, hr, hv⟩ := this
     exact ⟨v, by simp [execOp, hev, hr], hv⟩
   ·cases h
  ·rename_i i ps ht hx
   have h1 := see x (by simp [Op.operands]) _ hx
   generalize hev : a.eval x = vx at h1
   cases h1 with
   | el h1 =>
    obtain ⟨us, h2, h3, _⟩ := el_cells h1
    rw [mapK_eq] at h
    obtain ⟨v, hr, hv⟩ := jU6 hT ht h2 h3 h
    exact ⟨v, by simp [execOp, hev, hr], hv⟩
  ·cases h
 case binOp op t x y yt =>
  split at h
  ·rename_i i u v ht hx hy
   have hev := kF (see x (by simp [Op.operands]) _ hx)
   have hev' := kF (see y (by simp [Op.operands]) _ hy)
   have key : ∀ r, kA9 op u v = some r → (∀ b : Bool, u = .bool b → P.underlying t = some .bool) → (execOp a.eval { dst := dst, op := .binOp op t x y yt, type := type, pos := pos, after := after, guard := guard }).run P e.w = .ok (.value r) e.w := by
    intro r hr hb
    have := binRaw_run hT hr hb x y e.w
    simp only [execOp, hev, hev']
    rw [Sem.run_bind, this]
    rfl
   split at h
   ·rename_i r b hi hr
    cases h
    refine ⟨r, key r hr fun b' _ => ?_, .p (.raw r)⟩
    obtain ⟨d, hd, hk⟩ := hT.desc t _ ht
    rw [hi] at hk
    cases d <;> simp only [jF2, reduceCtorEq] at hk
    exact hd
   ·rename_i r k n hr
    cases h
    exact ⟨r, key r hr (fun b' hb => by cases hb), .p (.raw r)⟩
   ·cases h
  ·cases h
 case unOp op t x =>
  split at h
  ·rename_i b hx
   have h1 := see x (by simp [Op.operands]) _ hx
   have hev := kF h1
   cases h
   exact ⟨_, by simp [execOp, hev, Op.unary], .p (.raw _)⟩
  ·rename_i n hx
   have h1 := see x (by simp [Op.operands]) _ hx
   have hev := kF h1
   cases h
   exact ⟨_, by simp only [execOp, hev, Op.unary, Op.intArith]; rfl, .p (.raw _)⟩
  ·cases h
 case convert s t x =>
  split at h
  ·rename_i ks z1 z2 z3 kt z4 z5 z6 k0 n hs0 ht hx
   have h1 := see x (by simp [Op.operands]) _ hx
   have hev := kF h1
   cases h
   obtain ⟨d1, hd1, hk1⟩ := hT.desc s _ hs0
   obtain ⟨d2, hd2, hk2⟩ := hT.desc t _ ht
   cases d1 <;> simp only [jF2, reduceCtorEq] at hk1
   cases d2 <;> simp only [jF2, reduceCtorEq, TK.int.injEq] at hk2
   subst hk2
   exact ⟨_, by simp [execOp, hev, convert, run_underlying hd1, run_underlying hd2, Conv.intToInt], .p (.raw _)⟩
  ·cases h
 case extract x i =>
  split at h
  ·rename_i ds hx
   have h1 := see x (by simp [Op.operands]) _ hx
   generalize hev : a.eval x = vx at h1
   cases h1 with
   | tup hl hh =>
    rename_i vs
    obtain ⟨v, h3, h4⟩ := DReps.get ⟨hl, hh⟩ h
    have h5 : vs.toArray[i]? = some v := by simpa using h3
    exact ⟨v, by simp [execOp, hev, Instr.extract, h3], h4⟩
  ·cases h
 case fieldAddr t x f =>
  split at h
  ·rename_i fs z1 z2 z3 b o ht hx
   have h1 := see x (by simp [Op.operands]) _ hx
   generalize hev : a.eval x = vx at h1
   split at h
   ·rename_i ft off sz hf
    cases h
    cases h1 with
    | ptr h1 => exact ⟨_, by simp [execOp, hev, jQ7 hT ht hf], .ptr h1⟩
   ·cases h
  ·rename_i fs z1 z2 z3 ps ht hx
   have h1 := see x (by simp [Op.operands]) _ hx
   generalize hev : a.eval x = vx at h1
   split at h
   ·rename_i ft off sz hf
    obtain ⟨_, h⟩ := qO h
    cases h
    cases h1 with
    | el h1 =>
     rename_i b0 o0
     refine ⟨.pointer (some ⟨b0, o0 + off, none⟩), by simp [execOp, hev, jQ7 hT ht hf], .el ?_⟩
     obtain ⟨g, hg⟩ := h1
     refine ⟨fun j => g (off + j), fun j y hy => ?_⟩
     rw [List.getElem?_drop] at hy
     obtain ⟨h5, h6, h7, h8⟩ := hg _ y hy
     rw [Nat.add_assoc]
     exact ⟨h5, h6, h7, h8⟩
   ·cases h
  ·cases h
 case field t x f =>
  split at h
  ·rename_i fs z1 z2 z3 ds ht hx
   have h1 := see x (by simp [Op.operands]) _ hx
   generalize hev : a.eval x = vx at h1
   split at h
   ·rename_i ft hf
    split at h
    ·rename_i j hj
     cases h1 with
     | agg hl hh =>
      rename_i vs
      obtain ⟨d0, hd, hk⟩ := hT.desc t _ ht
      cases d0 <;> simp only [jF2, TK.struct.injEq, reduceCtorEq] at hk
      rename_i fields
      subst hk
      rw [List.getElem?_map] at hf
      rcases hq : fields.toList[f]? with _ | q
      ·rw [hq] at hf; cases hf
      ·rw [hq] at hf
       simp only [Option.map_some, Option.some.injEq] at hf
       subst hf
       have hq' : fields[f]? = some q := by simpa using hq
       have hsz := yO hT hj e.w
       have hcz : P.cellsOf q.type = j.sz := by
        obtain ⟨i0, hi0, hs0, _⟩ := hT.info _ _ hj
        simp only at hi0
        simp [Program.cellsOf, hi0, hs0]
       unfold partD at h
       simp only [hcz] at h
       cases hag : j.k.agg
       ·rw [hag] at h
        simp only [cond_false] at h
        obtain ⟨v, h3, h4⟩ := DReps.get ⟨hl, hh⟩ h
        refine ⟨v, ?_, h4⟩
        simp only at hj
        simp [execOp, hev, Instr.field, run_underlying hd, hq', asAgg, part, jR3 hT hj, hag, h3]
       ·rw [hag] at h
        simp only [cond_true] at h
        obtain ⟨_, h⟩ := qO h
        obtain ⟨_, h⟩ := vD h
        cases h
        ·have hr := (DReps.drop ⟨hl, hh⟩ q.offset).take j.sz
         refine ⟨.agg ((vs.drop q.offset).take j.sz).toArray, ?_, .agg hr.1 hr.2⟩
         simp only at hj
         simp [execOp, hev, Instr.field, run_underlying hd, hq', asAgg, part, jR3 hT hj, hag, yO hT hj, List.extract_eq_take_drop]
    ·cases h
   ·cases h
  ·cases h
 case call c =>
  split at h
  ·rename_i x t hop
   have hop := lenArgs_eq hop
   subst hop
   have hmem : x ∈ (Op.call { callee := .builtin .len, args := #[x], argTypes := #[t] }).operands := by simp [Op.operands, Call.operands]
   have key : ∀ (A : Option Addr) (n c : Nat) (el : TypeId), P.underlying t = some (.slice el) → a.eval x = .slice A n c → (execOp a.eval { dst := dst, op := .call { callee := .builtin .len, args := #[x], argTypes := #[t] }, type := type, pos := pos, after := after, guard := guard }).run P e.w = .ok (.value (.int .i64 n)) e.w := by
    intro A n c el hd hv
    simp [execOp, resolve, invoke, builtin, Builtin.len_, hv, run_underlying hd, goInt]
   split at h
   ·rename_i el z1 z2 z3 ex n ps ht hx
    have h1 := see x hmem _ hx
    obtain ⟨d0, hd, hk⟩ := hT.desc t _ ht
    cases d0 <;> simp only [jF2, reduceCtorEq, TK.slice.injEq] at hk
    generalize hev : a.eval x = vx at h1
    cases h1 with
    | p h1 => cases h1 with
     | sl => cases h; exact ⟨_, key _ _ _ _ hd hev, .p (.raw _)⟩
   ·rename_i el z1 z2 z3 g n ps ht hx
    have h1 := see x hmem _ hx
    obtain ⟨d0, hd, hk⟩ := hT.desc t _ ht
    cases d0 <;> simp only [jF2, reduceCtorEq, TK.slice.injEq] at hk
    generalize hev : a.eval x = vx at h1
    cases h1 with
    | tip h1 _ => cases h1 with
     | sl => cases h; exact ⟨_, key _ _ _ _ hd hev, .p (.raw _)⟩
   ·rename_i el z1 z2 z3 b o n c ht hx
    have h1 := see x hmem _ hx
    obtain ⟨d0, hd, hk⟩ := hT.desc t _ ht
    cases d0 <;> simp only [jF2, reduceCtorEq, TK.slice.injEq] at hk
    generalize hev : a.eval x = vx at h1
    cases h1 with
    | arr h1 => cases h; exact ⟨_, key _ _ _ _ hd hev, .p (.raw _)⟩
   ·cases h
  ·cases h
 case makeFunc f first caps =>
  obtain ⟨fs, r1, h⟩ := xI first.toList _ d (fun x hx => see x (by simp [Op.operands] at *; exact .inl hx)) h
  obtain ⟨cs, r2, h⟩ := xI caps.toList _ d (fun x hx => see x (by simp [Op.operands] at *; exact .inr hx)) h
  cases h
  refine ⟨.func f (first.toList.map a.eval).toArray (caps.toList.map a.eval).toArray, ?_, .fn r1.1 r2.1 r1.2 r2.2⟩
  simp [execOp, Instr.makeFunc]
  exact ⟨by apply Array.ext'; simp, by apply Array.ext'; simp⟩
 case nilCheck x =>
  split at h
  ·rename_i b o hx
   have h1 := see x (by simp [Op.operands]) _ hx
   generalize hev : a.eval x = vx at h1
   cases h
   cases h1 with
   | ptr h1 => exact ⟨_, by simp only [execOp, hev]; rfl, .ptr h1⟩
  ·rename_i ps hx
   have h1 := see x (by simp [Op.operands]) _ hx
   generalize hev : a.eval x = vx at h1
   cases h
   cases h1 with
   | el h1 => exact ⟨_, by simp only [execOp, hev]; rfl, .el h1⟩
  ·cases h
end
end Go.Proofs.YtkkldicehapklaaGreat
end
section
/- Calls of functions of which a contract is known; new variables; composite literals; addresses of elements; parts of slices. -/
namespace Go.Proofs.YtkkldicehapklaaGreat
open Go.RowKit
def xD (w : World) (cl : Nat → Option Nat) : Env := ⟨w, cl, fun _ => none, fun _ => none, fun _ => none⟩
def kA (P : Program) (f : FuncId) (ds : List Dt) (d : Dt) : Prop :=
 ∀ (w : World) (cl : Nat → Option Nat) (vs : List Value), DReps (xD w cl) vs ds →
  Calls P f vs.toArray w (fun r w' => ∃ v cl', r = .returned v ∧ Below w.heap.size w w' ∧ (∀ k, k < w.heap.size → cl' k = cl k) ∧ DRep (xD w' cl') v d)
def lowP : Pl → Pl
 | .sl _ n ps => .sl false n ps
 | x => x
def Dt.low : Dt → Option Dt
 | .p x => some (.p (lowP x))
 | .agg ds => (lows ds).map .agg
 | .tup ds => (lows ds).map .tup
 | .el ps => some (.el ps)
 | .tip _ n ps => some (.p (.sl false n ps))
 | .any => some .any
 | .fn f first caps => match lows first, lows caps with
  | some a, some b => some (.fn f a b)
  | _, _ => none
 | _ => none
where lows : List Dt → Option (List Dt)
 | [] => some []
 | d :: ds => match d.low, lows ds with
  | some a, some b => some (a :: b)
  | _, _ => none
def Dt.lowK {α : Type} : Dt → (Dt → Option α) → Option α
 | .p (.raw v), k => k (.p (.raw v))
 | .p (.sl _ n ps), k => k (.p (.sl false n ps))
 | .agg ds, k => lowsK ds fun r => k (.agg r)
 | .tup ds, k => lowsK ds fun r => k (.tup r)
 | .el ps, k => k (.el ps)
 | .tip _ n ps, k => k (.p (.sl false n ps))
 | .any, k => k .any
 | .fn f first caps, k => lowsK first fun a => lowsK caps fun b => k (.fn f a b)
 | _, _ => none
where lowsK {α : Type} : List Dt → (List Dt → Option α) → Option α
 | [], k => k []
 | d :: ds, k => d.lowK fun a => lowsK ds fun b => k (a :: b)
mutual
theorem kG7 {α : Type} : ∀ (d : Dt) (k : Dt → Option α), d.lowK k = d.low.bind k
 | .p (.raw v), k => rfl
 | .p (.sl _ n ps), k => rfl
 | .agg ds, k => by
  rw [Dt.lowK, jP8 ds]
  simp only [Dt.low]
  cases Dt.low.lows ds <;> rfl
 | .tup ds, k => by
  rw [Dt.lowK, jP8 ds]
  simp only [Dt.low]
  cases Dt.low.lows ds <;> rfl
 | .el ps, k => rfl
 | .tip _ n ps, k => rfl
 | .any, k => rfl
 | .fn f first caps, k => by
  rw [Dt.lowK, jP8 first]
  simp only [Dt.low]
  cases Dt.low.lows first with
  | none => rfl
  | some a =>
   simp only [Option.bind_some]
   rw [jP8 caps]
   cases Dt.low.lows caps <;> rfl
 | .ptr _ _, k => rfl
 | .arr _ _ _ _, k => rfl
theorem jP8 {α : Type} : ∀ (ds : List Dt) (k : List Dt → Option α), Dt.lowK.lowsK ds k = (Dt.low.lows ds).bind k
 | [], k => rfl
 | d :: ds, k => by
  rw [Dt.lowK.lowsK, kG7 d]
  simp only [Dt.low.lows]
  cases d.low with
  | none => rfl
  | some a =>
   simp only [Option.bind_some]
   rw [jP8 ds]
   cases Dt.low.lows ds <;> rfl
end
theorem PRep.env {e e' : Env} (hw : e'.w = e.w) (hc : e'.cl = e.cl) {v : Value} {x : Pl} (h : PRep e v x) : PRep e' v x := by
 induction h with
 | raw v => exact .raw v
 | sl f h1 h2 h3 h4 h5 h6 ih =>
  refine .sl f h1 h2 h3 h4 (fun i x hx => ?_) ih
  obtain ⟨b, o, h7, h8, h9, h10⟩ := h5 i x hx
  exact ⟨b, o, h7, fun k hk => h8 k (by rw [← hc]; exact hk), by rw [hw]; exact h9, h10⟩
theorem PRep.low {e : Env} {v : Value} {x : Pl} (h : PRep e v x) : PRep e v (lowP x) := by
 cases h with
 | raw => exact .raw v
 | sl f h1 h2 h3 h4 h5 h6 => exact .sl f h1 h2 h3 (fun h => by cases h) h5 h6
theorem jL5 : ∀ {ds ds' : List Dt} (_ : Dt.low.lows ds = some ds') {i : Nat} {d' : Dt}, ds'[i]? = some d' → ∃ d, ds[i]? = some d ∧ d.low = some d'
 | [], ds', h, i, d', hi => by simp only [Dt.low.lows, Option.some.injEq] at h; subst h; simp at hi
 | d :: ds, ds', h, i, d', hi => by
  simp only [Dt.low.lows] at h
  split at h
  ·rename_i a b ha hb
   cases h
   cases i with
   | zero => simp only [List.getElem?_cons_zero, Option.some.injEq] at hi; subst hi; exact ⟨d, rfl, ha⟩
   | succ i => exact jL5 hb (by simpa using hi)
  ·cases h
theorem jL6 : ∀ {ds ds' : List Dt} (_ : Dt.low.lows ds = some ds'), ds'.length = ds.length
 | [], ds', h => by simp only [Dt.low.lows, Option.some.injEq] at h; subst h; rfl
 | d :: ds, ds', h => by
  simp only [Dt.low.lows] at h
  split at h
  ·rename_i a b ha hb
   cases h
   simp [jL6 hb]
  ·cases h
theorem kG1 {e : Env} {v : Value} {d : Dt} (h : DRep e v d) : ∀ d', d.low = some d' → DRep (xD e.w e.cl) v d' := by
 induction h with
 | p h => intro d' hd; simp only [Dt.low, Option.some.injEq] at hd; subst hd; exact .p (PRep.env (e := e) (e' := xD e.w e.cl) rfl rfl h.low)
 | agg hl h ih =>
  intro d' hd
  simp only [Dt.low, Option.map_eq_some_iff] at hd
  obtain ⟨ds', h1, rfl⟩ := hd
  exact .agg (by rw [hl, jL6 h1]) (fun i v d hv hd => by obtain ⟨d0, h2, h3⟩ := jL5 h1 hd; exact ih i v d0 hv h2 d h3)
 | tup hl h ih =>
  intro d' hd
  simp only [Dt.low, Option.map_eq_some_iff] at hd
  obtain ⟨ds', h1, rfl⟩ := hd
  exact .tup (by rw [hl, jL6 h1]) (fun i v d hv hd => by obtain ⟨d0, h2, h3⟩ := jL5 h1 hd; exact ih i v d0 hv h2 d h3)
 | ptr h => intro d' hd; simp [Dt.low] at hd
 | el h =>
  intro d' hd
  simp only [Dt.low, Option.some.injEq] at hd
  subst hd
  obtain ⟨f, hf⟩ := h
  exact .el ⟨f, fun i x hx => by obtain ⟨h1, h2, h3, h4⟩ := hf i x hx; exact ⟨h1, h2, h3, PRep.env (e := e) (e' := xD e.w e.cl) rfl rfl h4⟩⟩
 | tip h ht => intro d' hd; simp only [Dt.low, Option.some.injEq] at hd; subst hd; exact .p (PRep.env (e := e) (e' := xD e.w e.cl) rfl rfl h)
 | arr h => intro d' hd; simp [Dt.low] at hd
 | fn hl hl2 h h2 ih ih2 =>
  intro d' hd
  simp only [Dt.low] at hd
  split at hd
  ·rename_i a b ha hb
   cases hd
   exact .fn (by rw [hl, jL6 ha]) (by rw [hl2, jL6 hb]) (fun i v d hv hd => by obtain ⟨d0, h3, h4⟩ := jL5 ha hd; exact ih i v d0 hv h3 d h4) (fun i v d hv hd => by obtain ⟨d0, h3, h4⟩ := jL5 hb hd; exact ih2 i v d0 hv h3 d h4)
  ·cases hd
 | any => intro d' hd; simp only [Dt.low, Option.some.injEq] at hd; subst hd; exact .any
theorem jW4 {e : Env} {vs : List Value} {ds ds' : List Dt} (h : DReps e vs ds) (hl : Dt.low.lows ds = some ds') : DReps (xD e.w e.cl) vs ds' :=
 ⟨by rw [h.1, jL6 hl], fun i v d hv hd => by obtain ⟨d0, h1, h2⟩ := jL5 hl hd; exact kG1 (h.2 i v d0 hv h1) d h2⟩
theorem env0_ends (e : Env) (w : World) (cl : Nat → Option Nat) : Ends (xD w cl) { e with w := w, cl := cl } :=
 ⟨fun _ _ _ h1 h2 => ⟨h1, h2⟩, fun _ _ h => (by cases h), fun _ _ h => (by cases h), fun _ _ _ _ h => (by cases h)⟩
section
variable {P : Program} {T : Nat → Option TI} {S : Nat → Option Dt} {B : Nat → Option (List Dt)}
theorem pure_post {P : Program} {f : FuncId} {ds d : _} (hc : kA P f ds d) {e : Env} {vs : List Value} (hv : DReps (xD e.w e.cl) vs ds) {o : Oper} {a : Act} :
  Calls P f vs.toArray e.w fun
   | .returned v, w'' => ∃ v' e', a.put o.dst v = a.put o.dst v' ∧ e'.w = w'' ∧ QPost e e' v' d none
   | .panicked _, _ => False
   | .outgrown, _ => LetsOut (fun _ _ _ => False) := by
 refine (hc e.w e.cl vs hv).mono fun r w' hh => ?_
 obtain ⟨v, cl', rfl, hb, hcl, hr⟩ := hh
 exact ⟨v, { e with w := w', cl := cl' }, rfl, rfl, ⟨hb, hcl, rfl, rfl, rfl⟩, hr.next (env0_ends e w' cl')⟩
theorem jA {o : Oper} {f : FuncId} {xs : List Operand} {ats : Array TypeId} {ds : List Dt} {d : Dt} (hc : kA P f ds d) (ho : o.op = .call { callee := .value (.func f), args := xs.toArray, argTypes := ats }) (hf : uH P f) (he : jK4 S xs Dt.low.lows = some ds) : QStep P o S B d none := by
 intro a e hs _
 obtain ⟨ds0, hr, hl⟩ := xI xs _ ds (fun x hx => hs.1 x (by rw [ho]; simp [Op.operands, Call.operands, hx])) he
 unfold Oper.wp
 have e1 : (execOp a.eval o).run P e.w = .ok (.enter f (xs.map a.eval).toArray) e.w := by
  obtain ⟨dst, op, type, pos, after, guard⟩ := o
  simp only at ho
  subst ho
  rw [execOp_call_go, hf]
  simp
 rw [e1]
 exact pure_post hc (jW4 hr hl)
theorem kJ0 {o : Oper} {f : FuncId} {g : Operand} {xs : List Operand} {ats : Array TypeId} {ds first caps : List Dt} {d : Dt} (hc : kA P f ds d) (ho : o.op = .call { callee := .value g, args := xs.toArray, argTypes := ats }) (hf : uH P f) (hg : ev S g = some (.fn (.func f) first caps)) (he : jK4 S xs (fun ds0 => Dt.low.lows (first ++ ds0 ++ caps)) = some ds) : QStep P o S B d none := by
 intro a e hs _
 obtain ⟨ds0, hr, hl⟩ := xI xs _ ds (fun x hx => hs.1 x (by rw [ho]; simp [Op.operands, Call.operands, hx])) he
 have hgv := hs.1 g (by rw [ho]; simp [Op.operands, Call.operands]) _ hg
 generalize hev : a.eval g = gv at hgv
 cases hgv with
 | fn hl1 hl2 h1 h2 =>
  rename_i us vs
  have hall : DReps e (us ++ xs.map a.eval ++ vs) (first ++ ds0 ++ caps) := (DReps.append ⟨hl1, h1⟩ hr).append ⟨hl2, h2⟩
  unfold Oper.wp
  have e1 : (execOp a.eval o).run P e.w = .ok (.enter f (us ++ xs.map a.eval ++ vs).toArray) e.w := by
   obtain ⟨dst, op, type, pos, after, guard⟩ := o
   simp only at ho
   subst ho
   simp only [execOp, resolve, hev, Deferred.ofValue, Sem.run_bind, Sem.run_pure, Result.andThen_ok, invoke]
   rw [hf]
   simp
  rw [e1]
  exact pure_post hc (jW4 hall hl)
def Env.alloc (e : Env) (o : Obj) (c : Option Nat) : Env := { e with w := e.w.alloc o, cl := fun k => if k = e.w.heap.size then c else e.cl k }
theorem Env.alloc_grow (e : Env) (o : Obj) (c : Option Nat) : Grow e (e.alloc o c) :=
 ⟨(Below.refl _ _).alloc (Nat.le_refl _) _, fun k hk => by show (if k = e.w.heap.size then c else e.cl k) = _; rw [if_neg (by omega)], rfl, rfl, rfl⟩
theorem jW2 {e : Env} {us : List Value} {ds : List Dt} {t : TypeId} {b : Nat} (hr : DReps e us ds) (hb : e.bx b = none) :
  QPost e ((e.alloc (.cells us.toArray t) (some 0)).withBox b e.w.heap.size) (.pointer (some ⟨e.w.heap.size, 0, none⟩)) (.ptr b 0) (some (b, ds)) := by
 have hg := Env.alloc_grow e (.cells us.toArray t) (some 0)
 have hb' : (e.alloc (.cells us.toArray t) (some 0)).bx b = none := by rw [hg.bx]; exact hb
 refine ⟨_, e.w.heap.size, hg, Nat.le_refl _, by simp [Env.alloc], by simp [Env.alloc], rfl, ⟨e.w.heap.size, us, t, ?_, ?_, ?_⟩, .ptr ?_⟩
 ·simp [Env.withBox]
 ·exact heap_alloc_new e.w _
 ·exact (hr.next hg.ends).next (yS hb')
 ·simp [Env.withBox]
def yR : Dt → Bool
 | .agg _ => true
 | d => d.leaf
theorem vW {e : Env} {v : Value} {d : Dt} (h : DRep e v d) (hk : yR d = true) : DReps e v.cells.toList d.cells := by
 refine cells_rep h ?_
 cases d <;> first | exact .inl hk | exact .inr ⟨_, rfl⟩
def wB {α : Type} (d : Dt) (k : List Dt → Option α) : Option α := match d with
 | .agg ds => k ds
 | d => k [d]
theorem jA4 {α : Type} (d : Dt) (k : List Dt → Option α) : wB d k = k d.cells := by cases d <;> rfl
theorem qP {o : Oper} {t : TypeId} {x : Operand} (b : Nat) {dx : Dt} {cs : List Dt} (ho : o.op = .box t x) (hx : ev S x = some dx) (hk : yR dx = true) (hcs : wB dx some = some cs) : QStep P o S B (.ptr b 0) (some (b, cs)) := by
 rw [jA4] at hcs
 cases hcs
 intro a e hs hnb
 have h1 := hs.1 x (by rw [ho]; simp [Op.operands]) _ hx
 have hr := vW h1 hk
 unfold Oper.wp
 have e1 : (execOp a.eval o).run P e.w = .ok (.value (.pointer (some ⟨e.w.heap.size, 0, none⟩))) (e.w.alloc (.cells (a.eval x).cells t)) := by
  obtain ⟨dst, op, type, pos, after, guard⟩ := o
  simp only at ho
  subst ho
  simp [execOp, Instr.box, newVar, newRow]
 rw [e1]
 refine ⟨_, (e.alloc (.cells (a.eval x).cells.toList.toArray t) (some 0)).withBox b e.w.heap.size, rfl, by simp [Env.withBox, Env.alloc], jW2 hr (hnb _ rfl)⟩
theorem jL (hT : kU P T) {o : Oper} {t : TypeId} (b : Nat) {i : TI} {cs : List Dt} (ho : o.op = .alloc t) (ht : T t = some i) (hk : yR (uM i.zero) = true) (hcs : jH4 i.zero (fun d => wB d some) = some cs) : QStep P o S B (.ptr b 0) (some (b, cs)) := by
 rw [jC3, jA4] at hcs
 cases hcs
 intro a e hs hnb
 have hr := vW (wX e i.zero) hk
 unfold Oper.wp
 have e1 : (execOp a.eval o).run P e.w = .ok (.value (.pointer (some ⟨e.w.heap.size, 0, none⟩))) (e.w.alloc (.cells i.zero.cells t)) := by
  obtain ⟨dst, op, type, pos, after, guard⟩ := o
  simp only at ho
  subst ho
  simp [execOp, Instr.alloc, uT hT ht, newVar, newRow]
 rw [e1]
 refine ⟨_, (e.alloc (.cells i.zero.cells.toList.toArray t) (some 0)).withBox b e.w.heap.size, rfl, by simp [Env.withBox, Env.alloc], jW2 hr (hnb _ rfl)⟩
theorem xN {e : Env} {v : Value} {ex : Bool} {n : Nat} {ps : List Pl} (h : PRep e v (.sl ex n ps)) : ∃ A cap, v = .slice A n cap ∧ n ≤ cap ∧ cap ≤ maxLen ∧ (A = none → cap = 0) ∧ (ex = true → cap = n) ∧ (ps = [] ∨ ∃ b o, A = some ⟨b, o, none⟩ ∧ ElAt e b o ps) := by
 cases h with
 | sl f h1 h2 h3 h4 h5 h6 =>
  refine ⟨_, _, rfl, h1, h2, h3, h4, ?_⟩
  rcases ps with _ | ⟨x, ps⟩
  ·exact .inl rfl
  ·obtain ⟨b, o, hA, _⟩ := h5 0 x rfl
   refine .inr ⟨b, o, hA, f, fun i y hy => ?_⟩
   obtain ⟨b', o', hA', h7, h8, h9⟩ := h5 i y hy
   rw [hA] at hA'
   cases hA'
   exact ⟨h7, h8, h9, h6 i y hy⟩
theorem jN9 {e : Env} {A : Option Addr} {ex : Bool} {n cap : Nat} {ps : List Pl} (h1 : n ≤ cap) (h2 : cap ≤ maxLen) (h3 : A = none → cap = 0) (h4 : ex = true → cap = n) (h5 : ps = [] ∨ ∃ b o, A = some ⟨b, o, none⟩ ∧ ElAt e b o ps) : PRep e (.slice A n cap) (.sl ex n ps) := by
 rcases h5 with rfl | ⟨b, o, hA, f, hf⟩
 ·exact .sl (fun _ => undef) h1 h2 h3 h4 (fun i x h => by simp at h) (fun i x h => by simp at h)
 ·exact .sl f h1 h2 h3 h4 (fun i x hx => by obtain ⟨h6, h7, h8, _⟩ := hf i x hx; exact ⟨b, o, hA, h6, h7, h8⟩) (fun i x hx => (hf i x hx).2.2.2)
theorem ElAt.part {e : Env} {b o : Nat} {ps qs : List Pl} (h : ElAt e b o ps) (m : Nat) (hq : ∀ (j : Nat) q, qs[j]? = some q → ps[m + j]? = some q) : ElAt e b (o + m) qs := by
 obtain ⟨f, hf⟩ := h
 refine ⟨fun j => f (m + j), fun j q hj => ?_⟩
 obtain ⟨h1, h2, h3, h4⟩ := hf _ q (hq j q hj)
 rw [Nat.add_assoc]
 exact ⟨h1, h2, h3, h4⟩
def slOf : Dt → Option (Nat × List Pl)
 | .p (.sl _ n ps) => some (n, ps)
 | .tip _ n ps => some (n, ps)
 | _ => none
theorem jE6 {e : Env} {v : Value} {d : Dt} {n : Nat} {ps : List Pl} (h : DRep e v d) (hd : slOf d = some (n, ps)) : PRep e v (.sl false n ps) := by
 cases h with
 | p h => cases h with
  | raw => cases hd
  | sl f h1 h2 h3 h4 h5 h6 => cases hd; exact .sl f h1 h2 h3 (fun h => by cases h) h5 h6
 | tip h _ => cases hd; exact h
 | _ => cases hd
theorem jG (hT : kU P T) {o : Oper} {t el : TypeId} {x y : Operand} {dx : Dt} {n : Nat} {ps : List Pl} {k : IntKind} {i : Int} {z1 z2 : Nat} {z3 : Value} {j : TI} (qs : List Pl) (ho : o.op = .indexAddr t x y) (ht : T t = some ⟨.slice el, z1, z2, z3⟩) (he : T el = some j)
  (hx : ev S x = some dx) (hd : slOf dx = some (n, ps)) (hy : ev S y = some (.p (.raw (.int k i)))) (h0 : 0 ≤ i) (hlt : i < n) (hq0 : qs ≠ []) (hq : ∀ (m : Nat) q, qs[m]? = some q → ps[i.toNat * j.sz + m]? = some q) : QStep P o S B (.el qs) none := by
 refine kZ fun a e hs => ?_
 have h1 := jE6 (hs.1 x (by rw [ho]; simp [Op.operands]) _ hx) hd
 have h2 := kF (hs.1 y (by rw [ho]; simp [Op.operands]) _ hy)
 obtain ⟨A, cap, hv, _, _, _, _, hA⟩ := xN h1
 rcases hA with rfl | ⟨b, of, rfl, hel⟩
 ·rcases qs with _ | ⟨q, qs⟩
  ·exact absurd rfl hq0
  ·have := hq 0 q rfl; simp at this
 obtain ⟨d0, hd0, hk⟩ := hT.desc t _ ht
 cases d0 <;> simp only [jF2, reduceCtorEq, TK.slice.injEq] at hk
 subst hk
 refine ⟨.pointer (some ⟨b, of + i.toNat * j.sz, none⟩), ?_, .el (hel.part _ hq)⟩
 obtain ⟨dst, op, type, pos, after, guard⟩ := o
 simp only at ho
 subst ho
 simp [execOp, Instr.indexAt, h2, hv, asIntOf, run_underlying hd0, h0, hlt, yO hT he, xG]
end
end Go.Proofs.YtkkldicehapklaaGreat
end
section
/- Operations that write: stores into variables of ours, append; and rows of operations. -/
namespace Go.Proofs.YtkkldicehapklaaGreat
open Go.RowKit
section
variable {P : Program} {T : Nat → Option TI} {Γ : Ctx} {σ σ' : St}
def OStep (P : Program) (Γ : Ctx) (o : Oper) (σ σ' : St) : Prop :=
 ∀ (a : Act) (e : Env), Conc Γ σ e a → o.wp P a e.w (fun a' w' => ∃ e', e'.w = w' ∧ Conc Γ σ' e' a') (fun _ _ _ => False)
theorem jJ2 {P : Program} {o : Oper} {a : Act} {w : World} {K K' : Act → World → Prop} {Q : Exit → Act → World → Prop} (h : o.wp P a w K (fun _ _ _ => False)) (hk : ∀ a' w', K a' w' → K' a' w') : o.wp P a w K' Q :=
 wp_false (Oper.wp_mono hk h)
theorem QStep.step {o : Oper} {d : Dt} {nb : Option (Nat × List Dt)} (h : QStep P o (kv σ.s) (kv σ.b) d nb) (hd : dstLt Γ.n o.dst = true) (hnb : ∀ p, nb = some p → kv σ.b p.1 = none) : OStep P Γ o σ ((σ.box nb).put o.dst d) := by
 intro a e hc
 refine jJ2 (h a e (hc.sees _) fun p hp => hc.nobox _ (hnb p hp)) fun a' w' hh => ?_
 obtain ⟨v, e', rfl, hw, hq⟩ := hh
 exact ⟨e', hw, hc.quiet hd hnb hq⟩
def jE4 (Γ : Ctx) (Q : Exit → St → Prop) : Exit → Act → World → Prop := fun x a w => ∃ σ e, e.w = w ∧ Conc Γ σ e a ∧ Q x σ
structure zY (P : Program) (Γ : Ctx) (l0 : List Oper) (Q : Exit → St → Prop) (l : List Oper) (σ : St) : Prop where
 run : ∀ (a : Act) (e : Env), Conc Γ σ e a → wpList P l0.toArray (jE4 Γ Q) l a e.w
variable {l0 l : List Oper} {Q : Exit → St → Prop} {o : Oper}
theorem jD (h : Q .normal σ) : zY P Γ l0 Q [] σ := ⟨fun _ e hc => ⟨σ, e, rfl, hc, h⟩⟩
def gd (l0 : List Oper) (o : Oper) (S : Nat → Option Dt) : Option Bool := match o.guard with
 | none => some true
 | some (j, want) => match (l0[j]?).bind (·.dst) with
  | some t => match S t with
   | some (.p (.raw (.bool b))) => some (b == want)
   | some (.p (.raw (.tuple _))) => some false
   | _ => none
  | none => none
theorem qN {e : Env} {a : Act} (hc : Conc Γ σ e a) {c : Bool} (h : gd l0 o (kv σ.s) = some c) : Region.wanted o (yielded l0.toArray a.tmps) = c := by
 unfold gd at h
 unfold Region.wanted
 split at h
 ·rename_i hg; rw [hg]; cases h; rfl
 ·rename_i j want hg
  rw [hg]
  split at h
  ·rename_i t ht
   split at h
   ·rename_i b hb
    cases h
    have hv := kF (hc.slots t _ hb)
    have : yielded l0.toArray a.tmps j = some b := by
     rw [jM9]
     have h1 : (l0.toArray[j]?).bind (·.dst) = some t := by simpa using ht
     rw [h1]
     unfold uI at hv
     simp only [Option.bind_some, hv, jZ9]
    simp only [this]
    cases b <;> cases want <;> rfl
   ·rename_i b hb
    cases h
    have hv := kF (hc.slots t _ hb)
    have : yielded l0.toArray a.tmps j = none := by
     rw [jM9]
     have h1 : (l0.toArray[j]?).bind (·.dst) = some t := by simpa using ht
     rw [h1]
     unfold uI at hv
     simp only [Option.bind_some, hv, jZ9]
    simp only [this]
    cases want <;> rfl
   ·cases h
  ·cases h
theorem jA6 (hg : gd l0 o (kv σ.s) = some true) (hs : OStep P Γ o σ σ') (h : zY P Γ l0 Q l σ') : zY P Γ l0 Q (o :: l) σ := by
 refine ⟨fun a e hc => ?_⟩
 unfold wpList
 rw [if_pos (qN hc hg)]
 refine .inl (jJ2 (hs a e hc) fun a' w' hh => ?_)
 obtain ⟨e', rfl, hc'⟩ := hh
 exact h.run a' e' hc'
theorem aops_skip (hg : gd l0 o (kv σ.s) = some false) (hd : dstLt Γ.n o.dst = true) (h : zY P Γ l0 Q l (σ.put o.dst (.p (.raw undef)))) : zY P Γ l0 Q (o :: l) σ := by
 refine ⟨fun a e hc => ?_⟩
 unfold wpList
 rw [if_neg (by rw [qN hc hg]; simp)]
 exact h.run _ e (hc.put hd (.p (.raw undef)))
theorem aops_q {d : Dt} {nb : Option (Nat × List Dt)} (hq : QStep P o (kv σ.s) (kv σ.b) d nb) (hg : gd l0 o (kv σ.s) = some true) (hd : dstLt Γ.n o.dst = true) (hnb : ∀ p, nb = some p → kv σ.b p.1 = none) (h : zY P Γ l0 Q l ((σ.box nb).put o.dst d)) : zY P Γ l0 Q (o :: l) σ :=
 jA6 hg (hq.step hd hnb) h
structure Weak (σ τ : St) : Prop where
 s : ∀ t d, kv τ.s t = some d → kv σ.s t = some d
 b : τ.b = σ.b
 g : τ.g = σ.g
/-! ### Stores -/
def St.setBox (σ : St) (b : Nat) (cs : List Dt) : St := ⟨σ.s, (b, cs) :: σ.b, σ.g⟩
theorem jF4 {w : World} {k : Nat} {vs us : List Value} {el : TypeId} (h : w.heap[k]? = some (.cells vs.toArray el (0, 0))) : (w.setRow k us.toArray).heap[k]? = some (.cells us.toArray el (0, 0)) := setRow_heap w k _ _ el _ h
theorem Conc.setRow {e : Env} {a : Act} (hc : Conc Γ σ e a) {b k : Nat} {vs us : List Value} {el : TypeId} {cs : List Dt} (hb : e.bx b = some k) (hk : e.w.heap[k]? = some (.cells vs.toArray el (0, 0))) (hr : DReps e us cs) :
  Conc Γ (σ.setBox b cs) { e with w := e.w.setRow k us.toArray } a := by
 obtain ⟨h1, h2, h3, h4⟩ := hc.env.bx b k hb
 have hoth : ∀ j, j ≠ k → (e.w.setRow k us.toArray).heap[j]? = e.w.heap[j]? := fun j hj => setRow_other e.w k j _ hj
 have hE : Ends e { e with w := e.w.setRow k us.toArray } := by
  refine ⟨fun b' o v hcl hv => ?_, fun _ _ h => h, fun _ G h => ⟨G, h, rfl, rfl, Nat.le_refl _⟩, fun j g G cur h5 h6 h7 => ⟨h5, cur, ?_, rfl⟩⟩
  ·have hne : b' ≠ k := fun e' => by subst e'; exact absurd (hcl 0 h3) (by omega)
   exact ⟨hcl, by show (e.w.setRow k us.toArray).cell? _ = _; rw [World.cell?_of_block (w := e.w) (hoth b' hne)]; exact hv⟩
  ·show (e.w.setRow k us.toArray).heap[j]? = _
   rw [hoth j (fun e' => by subst e'; rw [h4] at h5; cases h5)]; exact h7
 refine ⟨hc.size, hc.df, fun t d ht => (hc.slots t d ht).next hE, fun b' ds hd => ?_, fun b' hb' => ?_, hc.gs, ?_⟩
 ·simp only [St.setBox, jU] at hd
  split at hd
  ·rename_i hbb
   subst hbb
   cases hd
   exact ⟨k, us, el, hb, jF4 hk, hr.next hE⟩
  ·rename_i hbb
   obtain ⟨k', vs', el', h5, h6, h7⟩ := hc.boxes b' ds hd
   refine ⟨k', vs', el', h5, ?_, h7.next hE⟩
   show (e.w.setRow k us.toArray).heap[k']? = _
   rw [hoth k' (fun e' => hbb (by subst e'; exact hc.env.inj _ _ _ hb h5))]; exact h6
 ·simp only [St.setBox, jU] at hb'
  split at hb'
  ·cases hb'
  ·exact hc.nobox b' hb'
 ·refine ⟨⟨hc.env.kept.os, hc.env.kept.tape, hc.env.kept.output, by show _ ≤ (e.w.setRow k us.toArray).heap.size; rw [setRow_size]; exact hc.env.kept.size, fun j hj ho => ?_⟩, hc.env.cl, fun b' j hj => ?_, hc.env.inj, fun j g hg => ?_, hc.env.kb⟩
  ·show (e.w.setRow k us.toArray).heap[j]? = _
   rw [hoth j (fun e' => by subst e'; rcases h2 with h2 | h2 <;> first | omega | exact ho h2)]; exact hc.env.kept.block j hj ho
  ·obtain ⟨h5, h6, h7, h8⟩ := hc.env.bx b' j hj
   exact ⟨by show j < (e.w.setRow k us.toArray).heap.size; rw [setRow_size]; exact h5, h6, h7, h8⟩
  ·obtain ⟨G, cur, h5, h6, h7, h8, h9⟩ := hc.env.gr j g hg
   refine ⟨G, cur, h5, by show j < (e.w.setRow k us.toArray).heap.size; rw [setRow_size]; exact h6, h7, h8, ?_⟩
   show (e.w.setRow k us.toArray).heap[j]? = _
   rw [hoth j (fun e' => by subst e'; rw [h4] at hg; cases hg)]; exact h9
def wC (cs : List Dt) (o : Nat) (ds : List Dt) : List Dt := cs.take o ++ ds ++ cs.drop (o + ds.length)
def jK5 : Dt → Bool
 | .agg ds => ds.all Dt.leaf
 | d => d.leaf
theorem jW9 {e : Env} {v : Value} {d : Dt} (h : DRep e v d) (hl : jK5 d = true) : ∀ u ∈ v.cells.toList, jA2 u = true := by
 have hk : yR d = true := by cases d <;> first | exact hl | rfl
 have hr := vW h hk
 have hall : ∀ c ∈ d.cells, c.leaf = true := by
  cases d with
  | agg ds => exact fun c hc => List.all_eq_true.1 hl c hc
  | _ => intro c hc; simp only [Dt.cells, List.mem_singleton] at hc; subst hc; exact hl
 intro u hu
 obtain ⟨i, hi, rfl⟩ := List.mem_iff_getElem.1 hu
 have hi' : i < d.cells.length := by rw [← hr.1]; exact hi
 exact kH7 (hr.2 i _ _ (List.getElem?_eq_getElem hi) (List.getElem?_eq_getElem hi')) (hall _ (List.getElem_mem hi'))
def jI7 {α : Type} (cs : List Dt) (o : Nat) (d : Dt) (k : List Dt → Option α) : Option α :=
 wB d fun ds => jE3 o cs fun a => wK o cs fun b => wK ds.length b fun c => appK ds c fun r => appK a r k
theorem kE1 {α : Type} {cs : List Dt} {o : Nat} {d : Dt} {k : List Dt → Option α} {r : α} (h : jI7 cs o d k = some r) : o + d.cells.length ≤ cs.length ∧ k (wC cs o d.cells) = some r := by
 unfold jI7 at h
 rw [jA4] at h
 obtain ⟨h1, h⟩ := vD h
 obtain ⟨h2, h⟩ := qO h
 obtain ⟨h3, h⟩ := qO h
 rw [wQ, wQ] at h
 refine ⟨by simp at h3; omega, ?_⟩
 unfold wC
 rw [List.append_assoc]
 rw [List.drop_drop] at h
 exact h
theorem jV1 (hT : kU P T) {t : TypeId} {x y : Operand} {b of : Nat} {cs : List Dt} {dy : Dt} {i : TI} (ho : o.op = .store t x y) (hd : o.dst = none) (ht : T t = some i) (hx : ev (kv σ.s) x = some (.ptr b of)) (hb : kv σ.b b = some cs) (hy : ev (kv σ.s) y = some dy)
  (hl : jK5 dy = true) (hsz : dy.cells.length = i.sz) (hfit : of + dy.cells.length ≤ cs.length) : OStep P Γ o σ (σ.setBox b (wC cs of dy.cells)) := by
 intro a e hc
 have hs := hc.sees (σ := σ) o.op.operands
 have h1 := hs.1 x (by rw [ho]; simp [Op.operands]) _ hx
 have h2 := hs.1 y (by rw [ho]; simp [Op.operands]) _ hy
 have hk : yR dy = true := by cases dy <;> first | exact hl | rfl
 have hr := vW h2 hk
 obtain ⟨k, vs, el, h3, h4, h5⟩ := hc.boxes b cs hb
 generalize hev : a.eval x = vx at h1
 cases h1 with
 | ptr h1 =>
  rw [h3] at h1
  cases h1
  have hlen : (a.eval y).cells.size = i.sz := by have := hr.1; simp at this; omega
  have hst := run_storeCells_at P k of el (a.eval y).cells.toList 0 vs.toArray e.w h4 (by have := hr.1; have := h5.1; simp at *; omega) (jW9 h2 hl)
  unfold Oper.wp
  have e1 : (execOp a.eval o).run P e.w = .ok .skip (e.w.setRow k (vs.take of ++ (a.eval y).cells.toList ++ vs.drop (of + (a.eval y).cells.toList.length)).toArray) := by
   obtain ⟨dst, op, type, pos, after, guard⟩ := o
   simp only at ho
   subst ho
   simp only [Nat.add_zero] at hst
   simp [execOp, Instr.storeAt, Instr.sureAddr, hev, storeVar, yO hT ht, hlen, hst]
  rw [e1]
  refine ⟨{ e with w := e.w.setRow k (vs.take of ++ (a.eval y).cells.toList ++ vs.drop (of + (a.eval y).cells.toList.length)).toArray }, rfl, ?_⟩
  have := hc.setRow h3 h4 (us := vs.take of ++ (a.eval y).cells.toList ++ vs.drop (of + (a.eval y).cells.toList.length)) (cs := wC cs of dy.cells) (by
   unfold wC
   rw [hr.1]
   exact ((h5.take of).append hr).append (h5.drop _))
  rw [hd]
  exact this
end
end Go.Proofs.YtkkldicehapklaaGreat
end
section
/- append; composite literals; parts of slices. -/
namespace Go.Proofs.YtkkldicehapklaaGreat
open Go.RowKit
section
variable {P : Program} {T : Nat → Option TI} {Γ : Ctx} {σ σ' : St} {o : Oper}
def St.setGr (σ : St) (g : Nat) (G : Gr) : St := ⟨σ.s, σ.b, (g, G) :: σ.g⟩
def Env.more (e : Env) (w : World) (g : Nat) (G : Gr) (k : Option Nat) : Env :=
 { w := w, cl := fun j => if some j = k ∨ e.gr j = some g then some (G.len * G.sz) else e.cl j, bx := e.bx, gr := fun j => if some j = k then some g else e.gr j, gi := fun h => if h = g then some G else e.gi h }
structure More (e : Env) (w : World) (g : Nat) (G : Gr) (k : Option Nat) : Prop where
 os : w.os = e.w.os
 tape : w.tape = e.w.tape
 output : w.output = e.w.output
 size : e.w.heap.size ≤ w.heap.size
 old : ∀ j, j < e.w.heap.size → e.gr j ≠ some g → w.heap[j]? = e.w.heap[j]?
 row : ∀ j cur, e.gr j = some g → e.w.heap[j]? = some (.cells cur G.el (0, 0)) → ∃ cur', w.heap[j]? = some (.cells cur' G.el (0, 0)) ∧ cur'.size = cur.size ∧ ∀ i, e.claimed j i → cur'[i]? = cur[i]?
 new : ∀ j, k = some j → e.w.heap.size ≤ j ∧ j < w.heap.size ∧ ∃ cur, w.heap[j]? = some (.cells cur G.el (0, 0))
theorem More.ends {e : Env} {w : World} {g : Nat} {G G0 : Gr} {k : Option Nat} (h : More e w g G k) (hok : EnvOk Γ e) (hg : e.gi g = some G0) (hel : G.el = G0.el) (hsz : G.sz = G0.sz) (hlen : G0.len ≤ G.len) : Ends e (e.more w g G k) := by
 refine ⟨fun b i v hc hv => ?_, fun _ _ h => h, fun g' G' hg' => ?_, fun j g' G' cur h1 h2 h3 => ?_⟩
 ·have hb := jZ6 hv
  have hne : ¬ some b = k := fun e' => by have := (h.new b e'.symm).1; omega
  by_cases hgr : e.gr b = some g
  ·obtain ⟨G1, cur, h1, h2, h3, h4, h5⟩ := hok.gr b g hgr
   rw [hg] at h1
   cases h1
   obtain ⟨cur', h6, h7, h8⟩ := h.row b cur hgr (by rw [hel]; exact h5)
   have hi := hc _ h4
   refine ⟨fun n hn => ?_, ?_⟩
   ·have hn' : (if some b = k ∨ e.gr b = some g then some (G.len * G.sz) else e.cl b) = some n := hn
    rw [if_pos (.inr hgr)] at hn'
    cases hn'
    have := Nat.mul_le_mul_right G0.sz hlen
    rw [hsz]; omega
   ·show w.cell? _ = _
    rw [cell_of_row w b i cur' G.el (0, 0) h6, h8 i hc]
    rw [cell_of_row e.w b i cur G0.el (0, 0) h5] at hv
    exact hv
  ·refine ⟨fun n hn => ?_, ?_⟩
   ·have hn' : (if some b = k ∨ e.gr b = some g then some (G.len * G.sz) else e.cl b) = some n := hn
    rw [if_neg (fun h' => h'.elim hne hgr)] at hn'
    exact hc n hn'
   ·show w.cell? _ = _
    rw [World.cell?_of_block (w := e.w) (h.old b hb hgr)]; exact hv
 ·by_cases e1 : g' = g
  ·subst e1
   rw [hg] at hg'
   cases hg'
   exact ⟨G, by simp [Env.more], hel, hsz, hlen⟩
  ·exact ⟨G', by simp [Env.more, e1]; exact hg', rfl, rfl, Nat.le_refl _⟩
 ·have hj := jB4 h3
  have hne : ¬ some j = k := fun e' => by have := (h.new j e'.symm).1; omega
  refine ⟨by show (if some j = k then some g else e.gr j) = _; rw [if_neg hne]; exact h1, ?_⟩
  by_cases hgr : g' = g
  ·subst hgr
   rw [hg] at h2
   cases h2
   obtain ⟨cur', h6, h7, _⟩ := h.row j cur h1 (by rw [hel]; exact h3)
   exact ⟨cur', by rw [← hel]; exact h6, h7⟩
  ·exact ⟨cur, by show w.heap[j]? = _; rw [h.old j hj (by rw [h1]; simpa using hgr)]; exact h3, rfl⟩
theorem More.box {e : Env} {w : World} {g : Nat} {G G0 : Gr} {k : Option Nat} (h : More e w g G k) (hok : EnvOk Γ e) (hg : e.gi g = some G0) (hel : G.el = G0.el) (hsz : G.sz = G0.sz) (hlen : G0.len ≤ G.len) {b : Nat} {cs : List Dt} (hb : BoxAt e b cs) : BoxAt (e.more w g G k) b cs := by
 obtain ⟨j, vs, el, h1, h2, h3⟩ := hb
 obtain ⟨h4, _, _, h5⟩ := hok.bx b j h1
 exact ⟨j, vs, el, h1, by show w.heap[j]? = _; rw [h.old j h4 (by rw [h5]; simp)]; exact h2, h3.next (h.ends hok hg hel hsz hlen)⟩
theorem More.ok {e : Env} {w : World} {g : Nat} {G G0 : Gr} {k : Option Nat} (h : More e w g G k) (hok : EnvOk Γ e) (hgi : e.gi g = some G0) (hel : G.el = G0.el) : EnvOk Γ (e.more w g G k) := by
 have hnk : ∀ j, j < e.w.heap.size → ¬ some j = k := fun j hj e' => by have := (h.new j e'.symm).1; omega
 refine ⟨⟨h.os.trans hok.kept.os, h.tape.trans hok.kept.tape, h.output.trans hok.kept.output, Nat.le_trans hok.kept.size h.size, fun j hj ho => ?_⟩, fun j hj ho => ?_, fun b j hb => ?_, hok.inj, fun j g' hg' => ?_, hok.kb⟩
 ·have hjs := Nat.lt_of_lt_of_le hj hok.kept.size
  have hng : e.gr j ≠ some g := fun hg' => by
   obtain ⟨_, _, _, _, h3, _⟩ := hok.gr j g hg'
   rcases h3 with h3 | h3 <;> first | omega | exact ho h3
  show w.heap[j]? = _
  rw [h.old j hjs hng]; exact hok.kept.block j hj ho
 ·have hjs := Nat.lt_of_lt_of_le hj hok.kept.size
  have hng : e.gr j ≠ some g := fun hg' => by
   obtain ⟨_, _, _, _, h3, _⟩ := hok.gr j g hg'
   rcases h3 with h3 | h3 <;> first | omega | exact ho h3
  show (if some j = k ∨ e.gr j = some g then _ else e.cl j) = _
  rw [if_neg (fun h' => h'.elim (hnk j hjs) hng)]
  exact hok.cl j hj ho
 ·obtain ⟨h1, h2, h3, h4⟩ := hok.bx b j hb
  refine ⟨Nat.lt_of_lt_of_le h1 h.size, h2, ?_, ?_⟩
  ·show (if some j = k ∨ e.gr j = some g then _ else e.cl j) = _
   rw [if_neg (fun h' => h'.elim (hnk j h1) (by rw [h4]; simp))]; exact h3
  ·show (if some j = k then some g else e.gr j) = _
   rw [if_neg (hnk j h1)]; exact h4
 ·have hg2 : (if some j = k then some g else e.gr j) = some g' := hg'
  by_cases hjk : some j = k
  ·rw [if_pos hjk] at hg2
   cases hg2
   obtain ⟨h1, h2, cur, h3⟩ := h.new j hjk.symm
   refine ⟨G, cur, by simp [Env.more], h2, .inl (Nat.le_trans hok.kept.size h1), by simp [Env.more, hjk], h3⟩
  ·rw [if_neg hjk] at hg2
   obtain ⟨G1, cur, h1, h2, h3, h4, h5⟩ := hok.gr j g' hg2
   by_cases e1 : g' = g
   ·subst e1
    rw [hgi] at h1
    cases h1
    obtain ⟨cur', h6, _, _⟩ := h.row j cur hg2 (by rw [hel]; exact h5)
    exact ⟨G, cur', by simp [Env.more], Nat.lt_of_lt_of_le h2 h.size, h3, by simp [Env.more, hg2], h6⟩
   ·refine ⟨G1, cur, by simp [Env.more, e1]; exact h1, Nat.lt_of_lt_of_le h2 h.size, h3, ?_, ?_⟩
    ·show (if some j = k ∨ e.gr j = some g then _ else e.cl j) = _
     rw [if_neg (fun h' => h'.elim hjk (by rw [hg2]; simpa using e1))]; exact h4
    ·show w.heap[j]? = _
     rw [h.old j h2 (by rw [hg2]; simpa using e1)]; exact h5
theorem Conc.more {e : Env} {a : Act} (hc : Conc Γ σ e a) {w : World} {g : Nat} {G G0 : Gr} {k : Option Nat} (h : More e w g G k) (hg : kv σ.g g = some G0) (hel : G.el = G0.el) (hsz : G.sz = G0.sz) (hlen : G0.len ≤ G.len) : Conc Γ (σ.setGr g G) (e.more w g G k) a := by
 have hgi : e.gi g = some G0 := by rw [hc.gs]; exact hg
 have hE := h.ends hc.env hgi hel hsz hlen
 refine ⟨hc.size, hc.df, fun t d ht => (hc.slots t d ht).next hE, fun b cs hb => h.box hc.env hgi hel hsz hlen (hc.boxes b cs hb), hc.nobox, fun g' => ?_, h.ok hc.env hgi hel⟩
 show (if g' = g then some G else e.gi g') = kv ((g, G) :: σ.g) g'
 rw [jU]
 by_cases e1 : g' = g
 ·subst e1; simp
 ·rw [if_neg e1, if_neg (fun e' => e1 e'.symm)]; exact hc.gs g'
theorem jE8 {e : Env} {b of : Nat} {ps : List Pl} (h : ElAt e b of ps) : ∃ us : List Value, us.length = ps.length ∧ (∀ (j : Nat) v, us[j]? = some v → e.w.cell? ((⟨b, of, none⟩ : Addr).add j) = some v) ∧ (∀ v ∈ us, v.oneCell' = true) ∧ ∀ (j : Nat) v x, us[j]? = some v → ps[j]? = some x → PRep e v x := by
 obtain ⟨us, h1, h2, h3⟩ := el_cells h
 refine ⟨us, by have := h2.1; simpa using this, fun j v hj => by rw [xG]; exact h1 j v hj, h3, fun j v x hv hx => ?_⟩
 have := h2.2 j v (.p x) hv (by rw [List.getElem?_map, hx]; rfl)
 cases this with
 | p h => exact h
theorem row_rep {e : Env} {k cap n : Nat} {g : Nat} {G : Gr} {ps : List Pl} {us : List Value} {cur : Array Value} (hk : e.w.heap[k]? = some (.cells cur G.el (0, 0))) (hcl : e.cl k = some (G.len * G.sz)) (hgr : e.gr k = some g) (hgi : e.gi g = some G) (hn : n = G.len) (hps : ps.length = n * G.sz) (hcap : n ≤ cap) (hm : cap ≤ maxLen) (hcs : cur.size = cap * G.sz)
  (hl : us.length = ps.length) (hcur : ∀ (j : Nat) v, us[j]? = some v → cur[j]? = some v) (hone : ∀ v ∈ us, v.oneCell' = true) (hr : ∀ (j : Nat) v x, us[j]? = some v → ps[j]? = some x → PRep e v x) : DRep e (.slice (some ⟨k, 0, none⟩) n cap) (.tip g n ps) := by
 refine .tip (jN9 hcap hm (fun h => by cases h) (fun h => by cases h) (.inr ⟨k, 0, rfl, fun j => us.getD j undef, fun j x hx => ?_⟩)) ⟨G, _, cap, hgi, rfl, by omega, hps, .inr ⟨k, rfl, hgr, cur, hk, hcs⟩⟩
 have hj : j < us.length := by rw [hl]; exact (List.getElem?_eq_some_iff.1 hx).1
 have hu : us[j]? = some us[j] := List.getElem?_eq_getElem hj
 have hgd : us.getD j undef = us[j] := by simp [hj]
 show e.claimed k (0 + j) ∧ e.w.cell? ⟨k, 0 + j, none⟩ = some (us.getD j undef) ∧ jA2 (us.getD j undef) = true ∧ PRep e (us.getD j undef) x
 rw [hgd]
 refine ⟨fun m hm' => ?_, ?_, hone _ (List.getElem_mem hj), hr j _ x hu hx⟩
 ·rw [hcl] at hm'
  cases hm'
  rw [← hn, ← hps]; omega
 ·rw [Nat.zero_add, cell_of_row e.w k j cur G.el (0, 0) hk]; exact hcur j _ hu
def St.app (σ : St) (g : Nat) (G : Gr) (dst : Option Nat) (ps : List Pl) : St := (σ.setGr g G).put dst (.tip g G.len ps)
theorem jQ2 (hT : kU P T) {e : Env} (hok : EnvOk Γ e) {t ty : TypeId} {g n m el z1 z2 : Nat} {z3 : Value} {ps qs : List Pl} {i : TI} {vx vy : Value} (ht : T t = some ⟨.slice el, z1, z2, z3⟩) (hel : T el = some i) (hzs : i.zero.cells.size = i.sz) (hszp : 0 < i.sz)
  (hx1 : DRep e vx (.tip g n ps)) (hgi : e.gi g = some ⟨el, i.sz, n⟩) (hy1 : PRep e vy (.sl false m qs)) (hqs : qs.length = m * i.sz)
  (h63 : n + m ≤ maxLen) (hby : (n + m) * i.bytes ≤ 140737488355328) : ∃ v w' k, (Builtin.append_ #[t, t] ty #[vx, vy]).run P e.w = .ok v w' ∧ More e w' g ⟨el, i.sz, n + m⟩ k ∧ DRep (e.more w' g ⟨el, i.sz, n + m⟩ k) v (.tip g (n + m) (ps ++ qs)) := by
 obtain ⟨d0, hd0, hk⟩ := hT.desc t _ ht
 cases d0 <;> simp only [jF2, reduceCtorEq, TK.slice.injEq] at hk
 rw [hk] at hd0
 obtain ⟨inf, hinf, hsz, hbytes, hz⟩ := hT.info _ i hel
 cases hx1 with
 | tip hx2 hx3 =>
 obtain ⟨A, cap, rfl, hnc, hcm, hA0, _, hA⟩ := xN hx2
 obtain ⟨G0, A0, cap0, hG0, hv0, hle0, hps0, htip⟩ := hx3
 cases hv0
 rw [hgi] at hG0
 cases hG0
 simp only at hps0
 obtain ⟨Y, ycap, rfl, hyc, hym, hY0, _, hY⟩ := xN hy1
 -- nothing is appended
 by_cases hm0 : m = 0
 ·subst hm0
  have hq0 : qs = [] := List.eq_nil_of_length_eq_zero (by simpa using hqs)
  subst hq0
  have hfc : (Builtin.firstCells inf.size 0 (.slice Y 0 ycap)).run P e.w = .ok #[] e.w := by
   cases Y <;> simp [Builtin.firstCells, loadCells, loadCellsFrom]
  have hrun : (Builtin.append_ #[t, t] ty #[.slice A n cap, .slice Y 0 ycap]).run P e.w = .ok (.slice A n cap) e.w := by
   cases A <;> simp [Builtin.append_, run_underlying hd0, sizeOf, typeInfo, hinf, Builtin.lenOf, hnc, hfc, storeCells]
  have hmore : More e e.w g ⟨el, i.sz, n + 0⟩ none := ⟨rfl, rfl, rfl, Nat.le_refl _, fun _ _ _ => rfl, fun j cur _ h => ⟨cur, h, rfl, fun _ _ => rfl⟩, fun j h => by cases h⟩
  refine ⟨_, _, none, hrun, hmore, ?_⟩
  have := (DRep.tip hx2 ⟨_, _, _, hgi, rfl, Nat.le_refl _, hps0, htip⟩).next (hmore.ends hok hgi rfl rfl (by simp))
  simpa using this
 -- something is
 have hqne : qs ≠ [] := fun e' => by
  rw [e'] at hqs
  rcases Nat.mul_eq_zero.1 hqs.symm with h' | h'
  ·exact hm0 h'
  ·omega
 rcases hY with hY | ⟨yb, yo, rfl, hYel⟩
 ·exact absurd hY hqne
 obtain ⟨us, hul, huc, hu1, hur⟩ := jE8 hYel
 have hul' : us.length = m * inf.size := by rw [hul, hqs, hsz]
 by_cases hroom : n + m ≤ cap
 ·-- in place
  rcases htip with htip | ⟨k, hAk, hgk, cur, hcur, hcs⟩
  ·omega
  ·cases hAk
   simp only at hcur hcs
   obtain ⟨G1, cur1, h1, h2, h3, h4, h5⟩ := hok.gr k g hgk
   rw [hgi] at h1
   cases h1
   have hfit : n * inf.size + us.length ≤ cur.size := by rw [hul', hcs, hsz, ← Nat.add_mul]; exact Nat.mul_le_mul_right _ hroom
   have hrun := run_append_room (P := P) e.w t ty el inf hd0 hinf k n cap cur hcur ⟨yb, yo, none⟩ m ycap us hul' huc hu1 hroom hfit
   have hnew : (cur.toList.take (n * inf.size) ++ us ++ cur.toList.drop (n * inf.size + us.length)).toArray.size = cur.size := by
    simp only [List.size_toArray, List.length_append, List.length_take, List.length_drop, Array.length_toList]; omega
   have hmore : More e (e.w.setRow k (cur.toList.take (n * inf.size) ++ us ++ cur.toList.drop (n * inf.size + us.length)).toArray) g ⟨el, i.sz, n + m⟩ none := by
    refine ⟨rfl, rfl, rfl, by simp, fun j hj hjg => setRow_other _ _ _ _ (fun e' => hjg (by rw [e']; exact hgk)), fun j c0 hjg hj => ?_, fun j h => by cases h⟩
    by_cases hjk : j = k
    ·subst hjk
     simp only at hj
     rw [hcur] at hj
     cases hj
     refine ⟨_, setRow_heap _ _ cur _ _ _ hcur, hnew, fun q hq => ?_⟩
     have hql := hq _ h4
     simp only at hql
     rw [hsz]
     rw [List.getElem?_toArray, List.append_assoc, List.getElem?_append_left (by simp; rw [hcs]; have := Nat.mul_le_mul_right i.sz hnc; omega), List.getElem?_take, if_pos hql]
     simp
    ·exact ⟨c0, by rw [setRow_other _ _ _ _ hjk]; exact hj, rfl, fun _ _ => rfl⟩
   refine ⟨_, _, none, hrun, hmore, ?_⟩
   have hE := hmore.ends hok hgi rfl rfl (by simp)
   rcases hA with hA | ⟨b', o', hb', hAel⟩
   ·have hn0 : n = 0 := by
     rw [hA] at hps0
     simp only [List.length_nil] at hps0
     rcases Nat.mul_eq_zero.1 hps0.symm with h' | h'
     ·exact h'
     ·exact absurd h' (Nat.pos_iff_ne_zero.1 hszp)
    subst hA
    refine row_rep (G := ⟨el, i.sz, n + m⟩) (us := us) (cur := (cur.toList.take (n * inf.size) ++ us ++ cur.toList.drop (n * inf.size + us.length)).toArray) (setRow_heap _ _ cur _ _ _ hcur) (by simp [Env.more, hgk]) (by simp [Env.more, hgk]) (by simp [Env.more]) rfl (by simp [hqs, hn0]) hroom hcm (by rw [hnew]; exact hcs) (by simpa using hul) (fun j v hj => ?_) hu1 (fun j v y h1 h2 => (hur j v y h1 (by simpa using h2)).next hE)
    have hjl := (List.getElem?_eq_some_iff.1 hj).1
    rw [List.getElem?_toArray, hn0, List.append_assoc, List.getElem?_append_right (by simp)]
    simp only [Nat.zero_mul, List.take_zero, List.length_nil, Nat.sub_zero]
    rw [List.getElem?_append_left hjl]; exact hj
   ·cases hb'
    obtain ⟨os, hol, hoc, ho1, hor⟩ := jE8 hAel
    have hol' : os.length = n * i.sz := by rw [hol, hps0]
    have htk : ∀ (j : Nat) v, os[j]? = some v → cur[j]? = some v := fun j v hj => by
     have := hoc j v hj
     rw [xG, Nat.zero_add, cell_of_row e.w k j cur el (0, 0) hcur] at this
     exact this
    refine row_rep (G := ⟨el, i.sz, n + m⟩) (us := os ++ us) (cur := (cur.toList.take (n * inf.size) ++ us ++ cur.toList.drop (n * inf.size + us.length)).toArray) (setRow_heap _ _ cur _ _ _ hcur) (by simp [Env.more, hgk]) (by simp [Env.more, hgk]) (by simp [Env.more]) rfl (by simp [hqs, hps0, Nat.add_mul]) hroom hcm (by rw [hnew]; exact hcs) (by simp [hul, hol]) (fun j v hj => ?_) (fun v hv => by rcases List.mem_append.1 hv with h' | h'; exact ho1 v h'; exact hu1 v h') (fun j v y h1 h2 => ?_)
    ·rw [List.getElem?_toArray, List.append_assoc]
     have hcl : (cur.toList.take (n * inf.size)).length = n * i.sz := by
      rw [List.length_take, hsz, Array.length_toList, hcs]; have := Nat.mul_le_mul_right i.sz hnc; omega
     rcases Nat.lt_or_ge j os.length with hj' | hj'
     ·rw [List.getElem?_append_left hj'] at hj
      rw [List.getElem?_append_left (by rw [hcl, ← hol']; exact hj'), List.getElem?_take, if_pos (by rw [hsz, ← hol']; exact hj')]
      simpa using htk j v hj
     ·rw [List.getElem?_append_right hj'] at hj
      rw [List.getElem?_append_right (by rw [hcl, ← hol']; exact hj'), hcl, ← hol', List.getElem?_append_left (List.getElem?_eq_some_iff.1 hj).1]
      exact hj
    ·rcases Nat.lt_or_ge j os.length with hj' | hj'
     ·rw [List.getElem?_append_left hj'] at h1
      rw [List.getElem?_append_left (by rw [← hol]; exact hj')] at h2
      exact (hor j v y h1 h2).next hE
     ·rw [List.getElem?_append_right hj'] at h1
      rw [List.getElem?_append_right (by rw [← hol]; exact hj'), ← hol] at h2
      exact (hur _ v y h1 h2).next hE
 ·-- a new row
  have hgrow : ∀ (os : List Value) (old : Nat), os.length = ps.length → (∀ v ∈ os, v.oneCell' = true) → (∀ (j : Nat) v x, os[j]? = some v → ps[j]? = some x → PRep e v x) → old < n + m →
    (Builtin.append_ #[t, t] ty #[.slice A n cap, .slice (some ⟨yb, yo, none⟩) m ycap]).run P e.w = .ok (.slice (some ⟨e.w.heap.size, 0, none⟩) (n + m) (grownCap e.w (n + m) old el)) (e.w.drew.alloc (.cells (os.toArray ++ us.toArray ++ Builtin.zeroCells i.zero.cells (grownCap e.w (n + m) old el - (n + m))) el)) →
    ∃ v w' k, (Builtin.append_ #[t, t] ty #[.slice A n cap, .slice (some ⟨yb, yo, none⟩) m ycap]).run P e.w = .ok v w' ∧ More e w' g ⟨el, i.sz, n + m⟩ k ∧ DRep (e.more w' g ⟨el, i.sz, n + m⟩ k) v (.tip g (n + m) (ps ++ qs)) := by
   intro os old hol ho1 hor hold hrun
   have hge := grownCap_ge e.w (n + m) old el
   have hgm := grownCap_le_maxLen e.w (n + m) old el h63
   have hmore : More e (e.w.drew.alloc (.cells (os.toArray ++ us.toArray ++ Builtin.zeroCells i.zero.cells (grownCap e.w (n + m) old el - (n + m))) el)) g ⟨el, i.sz, n + m⟩ (some e.w.heap.size) :=
    ⟨rfl, rfl, rfl, by simp, fun j hj _ => Below.heap_alloc e.w.drew _ j hj, fun j c0 hjg hj => ⟨c0, by rw [Below.heap_alloc e.w.drew _ j (jB4 hj)]; exact hj, rfl, fun _ _ => rfl⟩, fun j hj => by cases hj; exact ⟨Nat.le_refl _, by simp, _, heap_alloc_new e.w.drew _⟩⟩
   have hE := hmore.ends hok hgi rfl rfl (by simp)
   refine ⟨_, _, _, hrun, hmore, row_rep (G := ⟨el, i.sz, n + m⟩) (us := os ++ us) (heap_alloc_new e.w.drew _) (by simp [Env.more]) (by simp [Env.more]) (by simp [Env.more]) rfl (by simp [hqs, hps0, Nat.add_mul]) hge hgm ?_ (by simp [hul, hol]) (fun j v hj => ?_) (fun v hv => by rcases List.mem_append.1 hv with h' | h'; exact ho1 v h'; exact hu1 v h') (fun j v y h1 h2 => ?_)⟩
   ·simp only [Array.size_append, List.size_toArray, size_zeroCells, hzs, hol, hul, hps0, hqs, ← Nat.add_mul]
    congr 1
    omega
   ·have hjl := (List.getElem?_eq_some_iff.1 hj).1
    rw [show os.toArray ++ us.toArray = (os ++ us).toArray by simp, Array.getElem?_append_left (by simpa using hjl), List.getElem?_toArray]
    exact hj
   ·rcases Nat.lt_or_ge j os.length with hj' | hj'
    ·rw [List.getElem?_append_left hj'] at h1
     rw [List.getElem?_append_left (by rw [← hol]; exact hj')] at h2
     exact (hor j v y h1 h2).next hE
    ·rw [List.getElem?_append_right hj'] at h1
     rw [List.getElem?_append_right (by rw [← hol]; exact hj'), ← hol] at h2
     exact (hur _ v y h1 h2).next hE
  rcases A with _ | ad
  ·have hc0 := hA0 rfl
   have hn0 : n = 0 := by omega
   subst hn0
   subst hc0
   have hps : ps = [] := List.eq_nil_of_length_eq_zero (by simpa using hps0)
   have hrun := run_append_nil (P := P) e.w t ty el inf i.zero hd0 hinf hz ⟨yb, yo, none⟩ m ycap us hul' huc (by omega) (by simp only [maxLen] at h63; omega) (by rw [hbytes]; simp only [Nat.zero_add] at hby; omega)
   refine hgrow [] 0 (by simp [hps]) (fun v hv => (by cases hv)) (fun j v x hj => (by simp at hj)) (by omega) ?_
   simpa using hrun
  ·have hold : ∃ os : List Value, os.length = ps.length ∧ (∀ (j : Nat) v, os[j]? = some v → e.w.cell? (ad.add j) = some v) ∧ (∀ v ∈ os, v.oneCell' = true) ∧ ∀ (j : Nat) v x, os[j]? = some v → ps[j]? = some x → PRep e v x := by
    rcases hA with rfl | ⟨b', o', hb', hAel⟩
    ·exact ⟨[], rfl, (fun j v h => by simp at h), (fun v h => by cases h), (fun j v x h => by simp at h)⟩
    ·cases hb'; exact jE8 hAel
   obtain ⟨os, hol, hoc, ho1, hor⟩ := hold
   have hrun := run_append_grow (P := P) e.w t ty el inf i.zero hd0 hinf hz ad n cap os (by rw [hol, hps0, hsz]) hoc ⟨yb, yo, none⟩ m ycap us hul' huc (by omega) (by simp only [maxLen] at h63; omega) (growslice_fits (by omega) (by rw [hbytes]; exact hby))
   exact hgrow os cap hol ho1 hor (by omega) hrun
theorem append_step (hT : kU P T) {t : TypeId} {x y : Operand} {g n m el z1 z2 : Nat} {z3 : Value} {ps qs : List Pl} {dy : Dt} {i : TI} (ho : o.op = .call { callee := .builtin .append, args := #[x, y], argTypes := #[t, t] }) (ht : T t = some ⟨.slice el, z1, z2, z3⟩) (hel : T el = some i) (hzs : i.zero.cells.size = i.sz) (hszp : 0 < i.sz)
  (hd : dstLt Γ.n o.dst = true) (hx : ev (kv σ.s) x = some (.tip g n ps)) (hg : kv σ.g g = some ⟨el, i.sz, n⟩) (hy : ev (kv σ.s) y = some dy) (hdy : slOf dy = some (m, qs)) (hqs : qs.length = m * i.sz)
  (h63 : n + m ≤ maxLen) (hby : (n + m) * i.bytes ≤ 140737488355328) : OStep P Γ o σ (σ.app g ⟨el, i.sz, n + m⟩ o.dst (ps ++ qs)) := by
 intro a e hc
 have hs := hc.sees (σ := σ) o.op.operands
 have hx1 := hs.1 x (by rw [ho]; simp [Op.operands, Call.operands]) _ hx
 have hy1 := jE6 (hs.1 y (by rw [ho]; simp [Op.operands, Call.operands]) _ hy) hdy
 have hgi : e.gi g = some ⟨el, i.sz, n⟩ := by rw [hc.gs]; exact hg
 obtain ⟨v, w', k, hrun, hmore, hrep⟩ := jQ2 hT hc.env (ty := o.type) ht hel hzs hszp hx1 hgi hy1 hqs h63 hby
 unfold Oper.wp
 have e1 : (execOp a.eval o).run P e.w = .ok (.value v) w' := by
  obtain ⟨dst, op, type, pos, after, guard⟩ := o
  simp only at ho
  subst ho
  simp only [execOp, resolve, invoke, builtin, Sem.run_bind, Sem.run_pure, Result.andThen_ok, List.map_toArray, List.map_cons, List.map_nil, hrun]
 rw [e1]
 exact ⟨e.more w' g ⟨el, i.sz, n + m⟩ k, rfl, (hc.more hmore hg rfl rfl (by simp)).put hd hrep⟩
end
end Go.Proofs.YtkkldicehapklaaGreat
end
section
/- Code, on what is known; what a call of a function answers. -/
namespace Go.Proofs.YtkkldicehapklaaGreat
open Go.RowKit
section
variable {P : Program} {T : Nat → Option TI} {Γ : Ctx} {σ σ' τ : St} {o : Oper}
def Ghost (Γ : Ctx) (σ σ' : St) : Prop := ∀ (a : Act) (e : Env), Conc Γ σ e a → ∃ e', e'.w = e.w ∧ Conc Γ σ' e' a
theorem Ghost.refl (Γ : Ctx) (σ : St) : Ghost Γ σ σ := fun _ e h => ⟨e, rfl, h⟩
theorem Ghost.trans {ρ : St} (h : Ghost Γ σ τ) (k : Ghost Γ τ ρ) : Ghost Γ σ ρ := fun a e hc => by
 obtain ⟨e1, h1, h2⟩ := h a e hc
 obtain ⟨e2, h3, h4⟩ := k a e1 h2
 exact ⟨e2, h3.trans h1, h4⟩
theorem xX (t g el sz : Nat) {n : Nat} {ps : List Pl} (ht : kv σ.s t = some (.p (.sl true n ps))) (hg : kv σ.g g = none) (hl : ps.length = n * sz) : Ghost Γ σ ⟨(t, .tip g n ps) :: σ.s, σ.b, (g, ⟨el, sz, n⟩) :: σ.g⟩ := by
 intro a e hc
 have hgi : e.gi g = none := by rw [hc.gs]; exact hg
 have hng : ∀ k, e.gr k ≠ some g := fun k hk => by obtain ⟨G, _, h, _⟩ := hc.env.gr k g hk; rw [hgi] at h; cases h
 have hE : Ends e { e with gi := fun h => if h = g then some ⟨el, sz, n⟩ else e.gi h } :=
  ⟨fun _ _ _ h1 h2 => ⟨h1, h2⟩, fun _ _ h => h, fun g' G h => ⟨G, by show (if g' = g then _ else e.gi g') = _; rw [if_neg (fun e' => by rw [e', hgi] at h; cases h)]; exact h, rfl, rfl, Nat.le_refl _⟩, fun _ _ _ cur h1 _ h3 => ⟨h1, cur, h3, rfl⟩⟩
 refine ⟨{ e with gi := fun h => if h = g then some ⟨el, sz, n⟩ else e.gi h }, rfl, hc.size, hc.df, fun u d hu => ?_, fun b cs hb => (hc.boxes b cs hb).ends hE rfl, hc.nobox, fun h => ?_, hc.env.kept, hc.env.cl, hc.env.bx, hc.env.inj, fun k g' hk => ?_, hc.env.kb⟩
 ·simp only [jU] at hu
  split at hu
  ·rename_i htu
   subst htu
   cases hu
   have h1 := hc.slots _ _ ht
   generalize uI a t = v at h1
   cases h1 with
   | p h1 =>
    have h2 := (h1.next hE).low
    obtain ⟨A, cap, rfl, h3, h4, h5, h6, h7⟩ := xN h1
    exact .tip h2 ⟨⟨el, sz, n⟩, A, cap, by simp, rfl, Nat.le_refl _, hl, .inl (h6 rfl)⟩
  ·exact (hc.slots u d hu).next hE
 ·show (if h = g then _ else e.gi h) = _
  simp only [jU]
  by_cases e1 : h = g
  ·subst e1; simp
  ·rw [if_neg e1, if_neg (fun e' => e1 e'.symm)]; exact hc.gs h
 ·obtain ⟨G, cur, h1, h2⟩ := hc.env.gr k g' hk
  exact ⟨G, cur, by show (if g' = g then _ else e.gi g') = _; rw [if_neg (fun e' => hng k (by rw [← e']; exact hk))]; exact h1, h2⟩
def Dt.ok (B G : Nat → Bool) : Dt → Bool
 | .agg ds => oks ds
 | .tup ds => oks ds
 | .ptr b _ => B b
 | .arr b _ _ _ => B b
 | .tip g _ _ => G g
 | .fn _ x y => oks x && oks y
 | _ => true
where oks : List Dt → Bool
 | [] => true
 | d :: ds => d.ok B G && oks ds
theorem xR {B G : Nat → Bool} : ∀ {ds : List Dt} (_ : Dt.ok.oks B G ds = true) {i : Nat} {d : Dt}, ds[i]? = some d → d.ok B G = true
 | [], _, i, d, hi => by simp at hi
 | d0 :: ds, h, i, d, hi => by
  simp only [Dt.ok.oks, Bool.and_eq_true] at h
  cases i with
  | zero => simp only [List.getElem?_cons_zero, Option.some.injEq] at hi; subst hi; exact h.1
  | succ i => exact xR h.2 (by simpa using hi)
def Env.cut (e : Env) (B G : Nat → Bool) : Env :=
 { e with bx := fun b => if B b = true then e.bx b else none, gr := fun k => match e.gr k with | some g => if G g = true then some g else none | none => none, gi := fun g => if G g = true then e.gi g else none }
theorem PRep.cut {e : Env} {B G : Nat → Bool} {v : Value} {x : Pl} (h : PRep e v x) : PRep (e.cut B G) v x := PRep.env (e := e) (e' := e.cut B G) rfl rfl h
theorem DRep.cut {e : Env} {B G : Nat → Bool} {v : Value} {d : Dt} (h : DRep e v d) : d.ok B G = true → DRep (e.cut B G) v d := by
 induction h with
 | p h => intro _; exact .p h.cut
 | agg hl _ ih => intro hk; exact .agg hl (fun i v d h1 h2 => ih i v d h1 h2 (xR hk h2))
 | tup hl _ ih => intro hk; exact .tup hl (fun i v d h1 h2 => ih i v d h1 h2 (xR hk h2))
 | ptr h => intro hk; simp only [Dt.ok] at hk; exact .ptr (by simp only [Env.cut, if_pos hk]; exact h)
 | el h =>
  intro _
  obtain ⟨f, hf⟩ := h
  exact .el ⟨f, fun i x hx => by obtain ⟨h1, h2, h3, h4⟩ := hf i x hx; exact ⟨h1, h2, h3, h4.cut⟩⟩
 | tip h ht =>
  intro hk
  simp only [Dt.ok] at hk
  refine .tip h.cut ?_
  obtain ⟨G0, A, cap, h1, h2, h3, h4, h5⟩ := ht
  refine ⟨G0, A, cap, by simp only [Env.cut, if_pos hk]; exact h1, h2, h3, h4, h5.imp id ?_⟩
  rintro ⟨k, h6, h7, h8⟩
  refine ⟨k, h6, ?_, h8⟩
  show (match e.gr k with | some g => if G g = true then some g else none | none => none) = _
  rw [h7]
  simp [hk]
 | arr h => intro hk; simp only [Dt.ok] at hk; exact .arr (by simp only [Env.cut, if_pos hk]; exact h)
 | fn hl hl2 _ _ ih ih2 =>
  intro hk
  simp only [Dt.ok, Bool.and_eq_true] at hk
  exact .fn hl hl2 (fun i v d h1 h2 => ih i v d h1 h2 (xR hk.1 h2)) (fun i v d h1 h2 => ih2 i v d h1 h2 (xR hk.2 h2))
 | any => intro _; exact .any
def jM {α : Type} (l : List (Nat × α)) (n : Nat) : Bool := (kv l n).isSome
def SubS (σ τ : St) : List (Nat × Dt) → Prop
 | [] => True
 | p :: l => (kv σ.s p.1 = some p.2 ∧ p.2.ok (jM τ.b) (jM τ.g) = true) ∧ SubS σ τ l
def SubB (σ τ : St) : List (Nat × List Dt) → Prop
 | [] => True
 | p :: l => (kv σ.b p.1 = some p.2 ∧ Dt.ok.oks (jM τ.b) (jM τ.g) p.2 = true) ∧ SubB σ τ l
def SubG (σ : St) : List (Nat × Gr) → Prop
 | [] => True
 | p :: l => kv σ.g p.1 = some p.2 ∧ SubG σ l
theorem SubS.get {σ τ : St} : ∀ {l : List (Nat × Dt)} (_ : SubS σ τ l) {t : Nat} {d : Dt}, kv l t = some d → kv σ.s t = some d ∧ d.ok (jM τ.b) (jM τ.g) = true
 | [], _, t, d, h => by cases h
 | (k, v) :: l, hs, t, d, h => by
  rw [jU] at h
  split at h
  ·rename_i hk; subst hk; cases h; exact hs.1
  ·exact hs.2.get h
theorem SubB.get {σ τ : St} : ∀ {l : List (Nat × List Dt)} (_ : SubB σ τ l) {t : Nat} {d : List Dt}, kv l t = some d → kv σ.b t = some d ∧ Dt.ok.oks (jM τ.b) (jM τ.g) d = true
 | [], _, t, d, h => by cases h
 | (k, v) :: l, hs, t, d, h => by
  rw [jU] at h
  split at h
  ·rename_i hk; subst hk; cases h; exact hs.1
  ·exact hs.2.get h
theorem SubG.get {σ : St} : ∀ {l : List (Nat × Gr)} (_ : SubG σ l) {t : Nat} {d : Gr}, kv l t = some d → kv σ.g t = some d
 | [], _, t, d, h => by cases h
 | (k, v) :: l, hs, t, d, h => by
  rw [jU] at h
  split at h
  ·rename_i hk; subst hk; cases h; exact hs.1
  ·exact hs.2.get h
def SubK (τ : St) : List (Nat × Nat) → Prop
 | [] => True
 | p :: l => jM τ.b p.1 = true ∧ SubK τ l
theorem SubK.get {τ : St} : ∀ {l : List (Nat × Nat)} (_ : SubK τ l) {b k : Nat}, kv l b = some k → jM τ.b b = true
 | [], _, b, k, h => by cases h
 | (x, y) :: l, hs, b, k, h => by
  rw [jU] at h
  split at h
  ·rename_i hk; subst hk; exact hs.1
  ·exact hs.2.get h
theorem kX (hs : SubS σ τ τ.s) (hb : SubB σ τ τ.b) (hg : SubG σ τ.g) (hkb : SubK τ Γ.kb) : Ghost Γ σ τ := by
 intro a e hc
 have hgi : ∀ g, jM τ.g g = true → ∃ G, e.gi g = some G ∧ kv τ.g g = some G := fun g h => by
  unfold jM at h
  obtain ⟨G, hG⟩ := Option.isSome_iff_exists.1 h
  exact ⟨G, by rw [hc.gs]; exact hg.get hG, hG⟩
 refine ⟨e.cut (jM τ.b) (jM τ.g), rfl, hc.size, hc.df, fun t d ht => (hc.slots t d (hs.get ht).1).cut (hs.get ht).2, fun b cs hcs => ?_, fun b hbn => ?_, fun g => ?_, hc.env.kept, hc.env.cl, fun b k hk => ?_, fun b c k h1 h2 => ?_, fun k g hk => ?_, fun b k hk => ?_⟩
 ·obtain ⟨k, vs, el, h1, h2, h3⟩ := hc.boxes b cs (hb.get hcs).1
  refine ⟨k, vs, el, ?_, h2, h3.1, fun i v d hv hd => (h3.2 i v d hv hd).cut (xR (hb.get hcs).2 hd)⟩
  show (if jM τ.b b = true then e.bx b else none) = _
  rw [if_pos (by simp [jM, hcs])]; exact h1
 ·show (if jM τ.b b = true then e.bx b else none) = _
  rw [if_neg (by simp [jM, hbn])]
 ·show (if jM τ.g g = true then e.gi g else none) = _
  cases hl : kv τ.g g with
  | none => rw [if_neg (by simp [jM, hl])]
  | some G => rw [if_pos (by simp [jM, hl]), hc.gs]; exact hg.get hl
 ·have hk' : (if jM τ.b b = true then e.bx b else none) = some k := hk
  split at hk'
  ·obtain ⟨h1, h2, h3, h4⟩ := hc.env.bx b k hk'
   refine ⟨h1, h2, h3, ?_⟩
   show (match e.gr k with | some g => if jM τ.g g = true then some g else none | none => none) = none
   rw [h4]
  ·cases hk'
 ·have h1' : (if jM τ.b b = true then e.bx b else none) = some k := h1
  have h2' : (if jM τ.b c = true then e.bx c else none) = some k := h2
  split at h1'
  ·split at h2'
   ·exact hc.env.inj b c k h1' h2'
   ·cases h2'
  ·cases h1'
 ·have hk' : (match e.gr k with | some g => if jM τ.g g = true then some g else none | none => none) = some g := hk
  rcases hgk : e.gr k with _ | g0
  ·rw [hgk] at hk'; cases hk'
  ·rw [hgk] at hk'
   simp only at hk'
   split at hk'
   ·rename_i hin
    cases hk'
    obtain ⟨G, cur, h1, h2⟩ := hc.env.gr k g hgk
    exact ⟨G, cur, by show (if jM τ.g g = true then e.gi g else none) = _; rw [if_pos hin]; exact h1, h2⟩
   ·cases hk'
 ·show (if jM τ.b b = true then e.bx b else none) = _
  rw [if_pos (hkb.get hk)]
  exact hc.env.kb b k hk
theorem qW {l0 l : List Oper} {Q : Exit → St → Prop} (h : Ghost Γ σ σ') (k : zY P Γ l0 Q l σ') : zY P Γ l0 Q l σ := ⟨fun a e hc => by
 obtain ⟨e', h1, h2⟩ := h a e hc
 rw [← h1]
 exact k.run a e' h2⟩
/-! ### Code -/
structure AWP (P : Program) (Γ : Ctx) (c : Code) (Q : Exit → St → Prop) (σ : St) : Prop where
 run : ∀ (a : Act) (e : Env), Conc Γ σ e a → c.wp P (jE4 Γ Q) a e.w
variable {Q : Exit → St → Prop} {c x y : Code}
theorem kP (h : Ghost Γ σ σ') (k : AWP P Γ c Q σ') : AWP P Γ c Q σ := ⟨fun a e hc => by
 obtain ⟨e', h1, h2⟩ := h a e hc
 rw [← h1]
 exact k.run a e' h2⟩
theorem jL1 {Q' : Exit → St → Prop} (h : AWP P Γ c Q σ) (hq : ∀ ex σ', Q ex σ' → Q' ex σ') : AWP P Γ c Q' σ := ⟨fun a e hc =>
 Code.wp_mono (fun ex a' w' hh => by obtain ⟨σ', e', h1, h2, h3⟩ := hh; exact ⟨σ', e', h1, h2, hq _ _ h3⟩) (h.run a e hc)⟩
def jR0 (K : St → Prop) (Q : Exit → St → Prop) : Exit → St → Prop
 | .normal, σ => K σ
 | ex, σ => Q ex σ
theorem jR7 (h : AWP P Γ x (jR0 (AWP P Γ y Q) Q) σ) : AWP P Γ (.seq x y) Q σ := ⟨fun a e hc => by
 refine wp_seq (Code.wp_mono (fun ex a' w' hh => ?_) (h.run a e hc))
 obtain ⟨σ', e', rfl, h2, h3⟩ := hh
 cases ex with
 | normal => exact h3.run a' e' h2
 | _ => exact ⟨σ', e', rfl, h2, h3⟩⟩
theorem awp_skip (h : Q .normal σ) : AWP P Γ .skip Q σ := ⟨fun _ e hc => wp_skip ⟨σ, e, rfl, hc, h⟩⟩
theorem awp_ret (h : Q .ret σ) : AWP P Γ .ret Q σ := ⟨fun _ e hc => wp_ret ⟨σ, e, rfl, hc, h⟩⟩
theorem awp_exit {id : Nat} (h : Q (.exit id) σ) : AWP P Γ (.exit id) Q σ := ⟨fun _ e hc => wp_exit ⟨σ, e, rfl, hc, h⟩⟩
def jD4 (id : Nat) (Q : Exit → St → Prop) : Exit → St → Prop
 | .exit id', σ => if id' = id then Q .normal σ else Q (.exit id') σ
 | ex, σ => Q ex σ
theorem awp_block {id : Nat} (h : AWP P Γ c (jD4 id Q) σ) : AWP P Γ (.block id c) Q σ := ⟨fun a e hc => by
 refine wp_block (Code.wp_mono (fun ex a' w' hh => ?_) (h.run a e hc))
 obtain ⟨σ', e', rfl, h2, h3⟩ := hh
 cases ex with
 | exit id' =>
  simp only [jD4] at h3
  simp only [Exit.inBlock]
  split
  ·rename_i hid; rw [if_pos hid] at h3; exact ⟨σ', e', rfl, h2, h3⟩
  ·rename_i hid; rw [if_neg hid] at h3; exact ⟨σ', e', rfl, h2, h3⟩
 | _ => exact ⟨σ', e', rfl, h2, h3⟩⟩
theorem eval_raw {e : Env} {a : Act} (hc : Conc Γ σ e a) {z : Operand} {v : Value} (h : ev (kv σ.s) z = some (.p (.raw v))) : a.eval z = v := kF ((hc.sees #[z]).1 z (by simp) _ h)
theorem awp_cond {z : Operand} {t : Bool} (hz : ev (kv σ.s) z = some (.p (.raw (.bool t)))) (ht : t = true → AWP P Γ x Q σ) (hf : t = false → AWP P Γ y Q σ) : AWP P Γ (.cond z x y) Q σ := ⟨fun a e hc =>
 wp_cond_split (eval_raw hc hz) (fun h => (ht h).run a e hc) (fun h => (hf h).run a e hc)⟩
theorem jO2 {id : Nat} {l : List Oper} (h : zY P Γ l Q l σ) : AWP P Γ (.region id l.toArray false) Q σ := ⟨fun a e hc => wp_region_lit (h.run a e hc)⟩
theorem awp_loop {ι : Type} (I : ι → St) (μ : ι → Nat) (i0 : ι) (h0 : Ghost Γ σ (I i0)) (round : ∀ i, AWP P Γ c (jR0 (fun σ' => ∃ j, μ j < μ i ∧ Ghost Γ σ' (I j)) Q) (I i)) : AWP P Γ (.loop c) Q σ := by
 refine ⟨fun a e hc => ?_⟩
 obtain ⟨e0, h1, h2⟩ := h0 a e hc
 rw [← h1]
 have key : ∀ n i, μ i < n → ∀ a e, Conc Γ (I i) e a → Code.rounds P c (jE4 Γ Q) n a e.w := by
  intro n
  induction n with
  | zero => intro i hi; omega
  | succ n ih =>
   intro i hi a e hc
   rw [rounds_succ]
   refine Code.wp_mono (fun ex a' w' hh => ?_) ((round i).run a e hc)
   obtain ⟨σ', e', rfl, h2, h3⟩ := hh
   cases ex with
   | normal =>
    obtain ⟨j, hj, hg⟩ := h3
    obtain ⟨e2, h4, h5⟩ := hg a' e' h2
    show Code.rounds P c (jE4 Γ Q) n a' e'.w
    rw [← h4]
    exact ih j (by omega) a' e2 h5
   | _ => exact ⟨σ', e', rfl, h2, h3⟩
 exact wp_loop_rounds (μ i0 + 1) (key _ i0 (by omega) a e0 h2)
/-! ### Functions -/
def resOne (T : Nat → Option TI) (σ : St) : ResultVar → Option Dt
 | .tmp t => kv σ.s t
 | .cell t ty => match T ty, kv σ.s t with
  | some i, some (.ptr b o) => match kv σ.b b with
   | some cs => wK o cs (loadD i)
   | none => none
  | _, _ => none
def resK {α : Type} (T : Nat → Option TI) (σ : St) : List ResultVar → (List Dt → Option α) → Option α
 | [], k => k []
 | r :: l, k => match resOne T σ r with
  | some d => resK T σ l fun ds => k (d :: ds)
  | none => none
def resD (T : Nat → Option TI) (σ : St) (l : List ResultVar) : Option Dt := resK T σ l fun
 | [d] => d.lowK some
 | ds => (Dt.tup ds).lowK some
def enum (ds : List Dt) : List (Nat × Dt) := go 0 ds
where go : Nat → List Dt → List (Nat × Dt)
 | _, [] => []
 | n, d :: ds => (n, d) :: go (n + 1) ds
theorem jP4 : ∀ (ds : List Dt) (n t : Nat) (d : Dt), kv (enum.go n ds) t = some d → n ≤ t ∧ ds[t - n]? = some d
 | [], n, t, d, h => by cases h
 | c :: ds, n, t, d, h => by
  simp only [enum.go, jU] at h
  split at h
  ·rename_i hn; subst hn; cases h; simp
  ·rename_i hn
   obtain ⟨h1, h2⟩ := jP4 ds (n + 1) t d h
   refine ⟨by omega, ?_⟩
   rw [show t - n = (t - (n + 1)) + 1 by omega]
   simpa using h2
theorem mapM_run {P : Program} {w : World} {α β : Type} (f : α → Sem β) (g : α → β) : ∀ (l : List α), (∀ x ∈ l, (f x).run P w = .ok (g x) w) → (l.mapM f).run P w = .ok (l.map g) w
 | [], _ => by simp
 | x :: l, h => by
  rw [List.mapM_cons]
  simp only [Sem.run_bind, h x (by simp), Result.andThen_ok, mapM_run f g l (fun y hy => h y (by simp [hy])), Sem.run_pure, List.map_cons]
def resV (tmps : Array Value) : ResultVar → Sem Value
 | .tmp t => pure (tmps.getD t undef)
 | .cell a t => do loadVar t (← asAddr (tmps.getD a undef))
theorem jD5 (fn : Func) (tmps : Array Value) : results fn tmps = (do let vs ← fn.results.mapM (resV tmps); pure (if h : vs.size = 1 then vs[0] else .tuple vs)) := rfl
theorem res_one (hT : kU P T) {e : Env} {a : Act} (hc : Conc Γ σ e a) {r : ResultVar} {d : Dt} (h : resOne T σ r = some d) :
  ∃ v, (resV a.tmps r).run P e.w = .ok v e.w ∧ DRep e v d := by
 cases r with
 | tmp t => exact ⟨uI a t, rfl, hc.slots t d h⟩
 | cell t ty =>
  simp only [resOne] at h
  split at h
  ·rename_i i b o hi hp
   split at h
   ·rename_i cs hcs
    obtain ⟨k, vs, el, h2, h3, h4⟩ := hc.boxes b cs hcs
    have h1 := hc.slots t _ hp
    generalize hev : uI a t = vx at h1
    cases h1 with
    | ptr h1 =>
     rw [h2] at h1
     cases h1
     obtain ⟨v, hr, hv⟩ := jU6 hT hi (k := k) (o := o) (us := vs.drop o) (fun j v hj => by
      rw [List.getElem?_drop] at hj
      rw [cell_of_row e.w k (o + j) vs.toArray el (0, 0) h3]
      simpa using hj) (h4.drop o) (qO h).2
     refine ⟨v, ?_, hv⟩
     unfold uI at hev
     simp only [resV, hev]
     simpa [asAddr, Instr.loadAt, Instr.sureAddr] using hr
   ·cases h
  ·cases h
theorem res_all {α : Type} (hT : kU P T) {e : Env} {a : Act} (hc : Conc Γ σ e a) : ∀ (l : List ResultVar) (k : List Dt → Option α) (r : α), resK T σ l k = some r → ∃ ds vs, (l.mapM (resV a.tmps)).run P e.w = .ok vs e.w ∧ DReps e vs ds ∧ k ds = some r
 | [], k, r, h => ⟨[], [], by simp, DReps.nil e, h⟩
 | q :: l, k, r, h => by
  simp only [resK] at h
  split at h
  ·rename_i d h1
   obtain ⟨v, hv, hd⟩ := res_one hT hc h1
   obtain ⟨ds, vs, hvs, hds, hk⟩ := res_all hT hc l _ r h
   refine ⟨d :: ds, v :: vs, ?_, DReps.cons hd hds, hk⟩
   rw [List.mapM_cons]
   simp only [Sem.run_bind, hv, hvs, Result.andThen_ok, Sem.run_pure]
  ·cases h
theorem res_rep (hT : kU P T) {fn : Func} {e : Env} {a : Act} (hc : Conc Γ σ e a) {d : Dt} (h : resD T σ fn.results.toList = some d) : ∃ v, (results fn a.tmps).run P e.w = .ok v e.w ∧ DRep (xD e.w e.cl) v d := by
 unfold resD at h
 obtain ⟨ds, vs, hvs, hds, h⟩ := res_all hT hc _ _ d h
 split at h
 ·rename_i d0
  obtain ⟨v, vs', rfl, hv, hn⟩ := hds.uncons
  have : vs' = [] := List.eq_nil_of_length_eq_zero hn.1
  subst this
  simp only [kG7, Option.bind_fun_some] at h
  refine ⟨v, ?_, kG1 hv d h⟩
  rw [jD5, Array.mapM_eq_mapM_toList]
  simp only [bind_map_left, Sem.run_bind, hvs, Result.andThen_ok, Sem.run_pure]
  simp
 ·rename_i hne
  simp only [kG7, Option.bind_fun_some] at h
  refine ⟨.tuple vs.toArray, ?_, kG1 (.tup hds.1 hds.2) d h⟩
  rw [jD5, Array.mapM_eq_mapM_toList]
  simp only [bind_map_left, Sem.run_bind, hvs, Result.andThen_ok, Sem.run_pure]
  rw [dif_neg]
  intro hs
  have hl : ds.length = 1 := by rw [← hds.1]; simpa using hs
  obtain ⟨d1, rfl⟩ := List.length_eq_one_iff.1 hl
  exact hne d1 rfl
theorem pure_of_awp (hT : kU P T) {f : FuncId} {fn : Func} {c : Code} {ds : List Dt} {d : Dt} (hf : P.funcs[f]? = some fn) (hb : fn.body = some c) (hn : ds.length ≤ fn.ntmps)
  (h : ∀ w cl, AWP P ⟨fn.ntmps, w, cl, fun _ => False, [], []⟩ c (fun ex σ => (ex = .normal ∨ ex = .ret) ∧ resD T σ fn.results.toList = some d) ⟨enum ds, [], []⟩) : kA P f ds d := by
 intro w cl vs hv
 refine calls_of_wp hf hb ?_
 have hl : vs.length = ds.length := hv.1
 have hc : Conc ⟨fn.ntmps, w, cl, fun _ => False, [], []⟩ ⟨enum ds, [], []⟩ (xD w cl) { tmps := vs.toArray ++ Array.replicate (fn.ntmps - vs.toArray.size) undef, defers := [] } := by
  refine ⟨by simp; omega, rfl, fun t d0 ht => ?_, fun b cs hb => (by cases hb), fun b _ => rfl, fun g => rfl, ⟨Kept.refl _ _, fun _ _ _ => rfl, fun b k hk => (by cases hk), fun b c k hk => (by cases hk), fun k g hk => (by cases hk), fun b k hk => (by cases hk)⟩⟩
  obtain ⟨_, h2⟩ := jP4 ds 0 t d0 ht
  simp only [Nat.sub_zero] at h2
  obtain ⟨v, h3, h4⟩ := hv.get h2
  have htl : t < vs.length := (List.getElem?_eq_some_iff.1 h3).1
  have : uI { tmps := vs.toArray ++ Array.replicate (fn.ntmps - vs.toArray.size) undef, defers := [] } t = v := by
   unfold uI
   simp only [Array.getD_eq_getD_getElem?]
   rw [Array.getElem?_append_left (by simpa using htl), List.getElem?_toArray, h3]
   rfl
  rw [this]
  exact h4
 refine Code.wp_mono (fun ex a' w' hh => ?_) ((h w cl).run _ (xD w cl) hc)
 obtain ⟨σ', e', rfl, h2, h3, h4⟩ := hh
 obtain ⟨v, hr, hv⟩ := res_rep hT h2 h4
 have hbel : Below w.heap.size w e'.w := ⟨h2.env.kept.os, h2.env.kept.tape, h2.env.kept.output, h2.env.kept.size, fun k hk => h2.env.kept.block k hk (fun h => h)⟩
 have hfin : a'.defers = [] ∧ ∃ v, (results fn a'.tmps).run P e'.w = .ok v e'.w ∧ ∃ v' cl', Ending.returned v = .returned v' ∧ Below w.heap.size w e'.w ∧ (∀ k, k < w.heap.size → cl' k = cl k) ∧ DRep (xD e'.w cl') v' d :=
  ⟨h2.df, v, hr, v, e'.cl, rfl, hbel, fun k hk => h2.env.cl k hk (fun h => h), hv⟩
 rcases h3 with rfl | rfl
 ·exact hfin
 ·exact hfin
end
end Go.Proofs.YtkkldicehapklaaGreat
end
