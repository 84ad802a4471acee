/- A region that draws its order, whose callees hand back new memory: one walk of the text's order serves every order. What a slot holds is told by a predicate of its value and the world, kept by every world that has grown. -/
import Derived.WalkKit
import Derived.WalkSpells
import Derived.WalkLawsBesides
import Derived.BigQuiet
import Derived.Lib.Hide
namespace Go.Proofs.YtcjooalmhppkiaaRRRR
open Go.RowKit

/-- A world that has grown out of w: nothing that was there has changed. -/
def Ext (w : World) : Type := { w' : World // Below w.heap.size w w' }
instance (w : World) : Nonempty (Ext w) := ⟨⟨w, Below.refl _ _⟩⟩
def Ext.on {w : World} (x : Ext w) : World := x.1
theorem Ext.below {w : World} (x : Ext w) : Below w.heap.size w x.on := x.2
@[go_sem] theorem Ext.cell {w : World} (x : Ext w) (p : Addr) (h : p.block < w.heap.size) : x.on.cell? p = w.cell? p := x.below.cell h
@[go_sem] theorem Ext.frozen {w : World} (x : Ext w) (p : Addr) (h : p.block < w.heap.size) : x.on.frozen? p = w.frozen? p := x.below.frozen h
def Ext.next {w : World} (x : Ext w) {w' : World} (h : Below x.on.heap.size x.on w') : Ext w := ⟨w', x.below.trans (h.mono x.below.size)⟩

/-- A region that draws its order, whose callees may make memory and answer values that are known. -/
theorem wp_region_ext {P : Program} {id : Nat} {Q : Exit → Act → World → Prop} {a : Act} {w : World} {l : List Oper} (hm : P.follows .mixedOrders = true) (hB : Region.lexB .any l.toArray = true)
    (h : wpQuiet P l.toArray (fun w' => ∃ x : Ext w, w' = x.on) (fun a' => ∀ w', (∃ x : Ext w, w' = x.on) → Q .normal a' w') l a) : (Code.region id l.toArray true).wp P Q a w :=
  wp_region_quiet (C := fun w' => ∃ x : Ext w, w' = x.on) hm hB ⟨⟨w.drew, (Below.refl _ _).drew⟩, rfl⟩ (by simpa using h)

theorem Calls.ext_of {P : Program} {f : FuncId} {args : Array Value} {w : World} {x : Ext w} {v : Value}
    (h : Calls P f args x.on fun e w' => e = .returned v ∧ Below x.on.heap.size x.on w') : Calls P f args x.on fun e w'' => e = .returned v ∧ ∃ y : Ext w, w'' = y.on :=
  h.mono fun _ w' ⟨he, hm⟩ => ⟨he, ⟨w', x.below.trans (hm.mono x.below.size)⟩, rfl⟩

/-- What is known of a slot: of its value and the world. -/
abbrev Know := Value → World → Prop
def Know.Keeps (k : Know) : Prop := ∀ v w w', k v w → Below w.heap.size w w' → k v w'

def slot (a : Act) (t : Tmp) : Value := a.tmps.getD t undef

def relStep (P : Program) (ops : Array Oper) (o : Oper) (k : Know) (a : Act) (w : World) : Prop :=
  if Region.wanted o (yielded ops a.tmps) then o.wp P a w (fun a' w' => ∃ v, a' = a.put o.dst v ∧ k v w' ∧ Below w.heap.size w w') (fun _ _ _ => False) else k undef w

def updS (S : Tmp → Know) (d : Option Tmp) (k : Know) : Tmp → Know := fun t => if d = some t then k else S t

def wpRelS (P : Program) (ops : Array Oper) (w0 : World) (a0 : Act) (Q : Exit → Act → World → Prop) : List Oper → (Tmp → Know) → Prop
  | [], S => ∀ (a : Act) (x : Ext w0), a.tmps.size = a0.tmps.size → a.defers = a0.defers → (∀ t, S t (slot a t) x.on) → Q .normal a x.on
  | o :: rest, S => ∃ k : Know, k.Keeps ∧ (∀ (a : Act) (x : Ext w0), a.defers = a0.defers → (∀ t ∈ o.looksAt ops, S t (slot a t) x.on) → relStep P ops o k a x.on) ∧ wpRelS P ops w0 a0 Q rest (updS S o.dst k)

/-- The Bool over a region. -/
def relB (ops : Array Oper) (n : Nat) : Bool :=
  Region.noSelect ops && (List.range ops.size).all fun i => match ops[i]? with
    | none => true
    | some oi => (match oi.dst with | some t => decide (t < n) | none => true) && (oi.after.all fun e => !Region.binds .any e || decide (e.on < i)) &&
      (List.range ops.size).all fun j => match ops[j]? with
        | none => true
        | some oj => i == j || ((match oi.dst, oj.dst with | some t, some u => t != u | _, _ => true) &&
            (match oj.dst with
              | some t => !(oi.looksAt ops).contains t || (decide (j < i) && oi.after.any (fun e => Region.binds .any e && e.on == j)) || (decide (i < j) && oj.after.any (fun e => Region.binds .any e && e.on == i))
              | none => true))

structure RelOk (ops : Array Oper) (n : Nat) : Prop where
  sel : Region.noSelect ops = true
  lt : ∀ (i : Nat) (o : Oper) (t : Tmp), ops[i]? = some o → o.dst = some t → t < n
  back : ∀ (i : Nat) (o : Oper), ops[i]? = some o → ∀ e ∈ o.after, Region.binds .any e = true → e.on < i
  ne : ∀ (i j : Nat) (oi oj : Oper) (t : Tmp), ops[i]? = some oi → ops[j]? = some oj → i ≠ j → oi.dst = some t → oj.dst ≠ some t
  dep : ∀ (i j : Nat) (oi oj : Oper) (t : Tmp), ops[i]? = some oi → ops[j]? = some oj → i ≠ j → oj.dst = some t → t ∈ oi.looksAt ops →
    (j < i ∧ ∃ e ∈ oi.after, Region.binds .any e = true ∧ e.on = j) ∨ (i < j ∧ ∃ e ∈ oj.after, Region.binds .any e = true ∧ e.on = i)

theorem relOk_of {ops : Array Oper} {n : Nat} (h : relB ops n = true) : RelOk ops n := by
  unfold relB at h
  simp only [Bool.and_eq_true, List.all_eq_true, List.mem_range] at h
  obtain ⟨hs, h⟩ := h
  have hlt : ∀ i o, ops[i]? = some o → i < ops.size := fun i o ho => (Array.getElem?_eq_some_iff.1 ho).1
  refine ⟨hs, fun i o t ho ht => ?_, fun i o ho e he hb => ?_, fun i j oi oj t hi hj hij ht hu => ?_, fun i j oi oj t hi hj hij ht hm => ?_⟩
  · have := h i (hlt i o ho)
    simp only [ho, ht, Bool.and_eq_true] at this
    simpa using this.1.1
  · have := h i (hlt i o ho)
    simp only [ho, Bool.and_eq_true] at this
    have := Array.all_eq_true_iff_forall_mem.1 this.1.2 e he
    simpa [hb] using this
  · have := h i (hlt i oi hi)
    simp only [hi, Bool.and_eq_true, List.all_eq_true, List.mem_range] at this
    have := this.2 j (hlt j oj hj)
    simp only [hj, ht, hu] at this
    simp [hij] at this
  · have := h i (hlt i oi hi)
    simp only [hi, Bool.and_eq_true, List.all_eq_true, List.mem_range] at this
    have := this.2 j (hlt j oj hj)
    simp only [hj, ht] at this
    have hc : (oi.looksAt ops).contains t = true := by simpa using hm
    simp only [hc, Bool.or_eq_true, Bool.and_eq_true, beq_iff_eq, hij, false_or, Bool.not_true, Bool.false_eq_true, decide_eq_true_eq] at this
    rcases this.2 with ⟨h1, h2⟩ | ⟨h1, h2⟩
    · obtain ⟨e, he, hb⟩ := Array.any_eq_true'.1 h2
      simp only [Bool.and_eq_true, beq_iff_eq] at hb
      exact .inl ⟨h1, e, he, hb⟩
    · obtain ⟨e, he, hb⟩ := Array.any_eq_true'.1 h2
      simp only [Bool.and_eq_true, beq_iff_eq] at hb
      exact .inr ⟨h1, e, he, hb⟩

/-- The knowledge of slots behind the first i operations. -/
def stt (l : List Oper) (F : Nat → Know) (S : Tmp → Know) : Nat → Tmp → Know
  | 0 => S
  | i + 1 => updS (stt l F S i) ((l[i]?).bind (·.dst)) (F i)

theorem stt_succ_left (o : Oper) (l : List Oper) (k : Know) (F : Nat → Know) (S : Tmp → Know) : ∀ i, stt (o :: l) (fun j => if j = 0 then k else F (j - 1)) S (i + 1) = stt l F (updS S o.dst k) i
  | 0 => by simp [stt]
  | i + 1 => by
    rw [stt, stt_succ_left o l k F S i, stt]
    simp

theorem wpRelS_extract {P : Program} {ops : Array Oper} {w0 : World} {a0 : Act} {Q : Exit → Act → World → Prop} : ∀ (l : List Oper) (S : Tmp → Know), wpRelS P ops w0 a0 Q l S →
    ∃ F : Nat → Know, (∀ i, (F i).Keeps) ∧
      (∀ i o, l[i]? = some o → ∀ (a : Act) (x : Ext w0), a.defers = a0.defers → (∀ t ∈ o.looksAt ops, stt l F S i t (slot a t) x.on) → relStep P ops o (F i) a x.on) ∧
      ∀ (a : Act) (x : Ext w0), a.tmps.size = a0.tmps.size → a.defers = a0.defers → (∀ t, stt l F S l.length t (slot a t) x.on) → Q .normal a x.on
  | [], S, h => ⟨fun _ _ _ => True, fun _ _ _ _ _ _ => trivial, fun i o ho => by simp at ho, h⟩
  | o :: l, S, h => by
    obtain ⟨k, hk, hstep, hrest⟩ := h
    obtain ⟨F, hF, hs, hq⟩ := wpRelS_extract l _ hrest
    refine ⟨fun j => if j = 0 then k else F (j - 1), fun i => ?_, fun i o' ho' => ?_, ?_⟩
    · by_cases hi : i = 0
      · simp only [hi, if_true]; exact hk
      · simp only [hi, if_false]; exact hF _
    · cases i with
      | zero =>
        simp only [List.getElem?_cons_zero, Option.some.injEq] at ho'
        subst ho'
        simpa [stt] using hstep
      | succ i =>
        intro a x hd ht
        have := hs i o' (by simpa using ho') a x hd (fun t h' => by have := ht t h'; rwa [stt_succ_left] at this)
        simpa using this
    · intro a x hsz hd ht
      exact hq a x hsz hd (fun t => by have := ht t; rwa [List.length_cons, stt_succ_left] at this)

theorem stt_of_dst {ops : Array Oper} {n : Nat} (hok : RelOk ops n) {F : Nat → Know} {S : Tmp → Know} {j : Nat} {oj : Oper} {t : Tmp} (hj : ops[j]? = some oj) (ht : oj.dst = some t) :
    ∀ i, j < i → stt ops.toList F S i t = F j
  | 0, h => by omega
  | i + 1, h => by
    have hjl : ops.toList[j]? = some oj := by simpa using hj
    by_cases hji : j = i
    · subst hji
      simp [stt, updS, hj, ht]
    · rw [stt, updS, if_neg, stt_of_dst hok hj ht i (by omega)]
      intro he
      rcases ho : ops[i]? with _ | oi
      · simp [ho] at he
      · have he' : oi.dst = some t := by simpa [ho] using he
        exact hok.ne j i oj oi t hj ho hji ht he'

theorem stt_of_none {ops : Array Oper} {F : Nat → Know} {S : Tmp → Know} {t : Tmp} : ∀ i, (∀ j oj, j < i → ops[j]? = some oj → oj.dst ≠ some t) → stt ops.toList F S i t = S t
  | 0, _ => rfl
  | i + 1, h => by
    rw [stt, updS, if_neg, stt_of_none i fun j oj hj => h j oj (by omega)]
    intro he
    rcases ho : ops[i]? with _ | oi
    · simp [ho] at he
    · exact h i oi (by omega) ho (by simpa [ho] using he)

theorem slot_put_same {a : Act} {t : Tmp} {v : Value} (h : t < a.tmps.size) : slot (a.put (some t) v) t = v := by simp [slot, Act.put, h]
theorem slot_put_other {a : Act} {d : Option Tmp} {t : Tmp} {v : Value} (h : d ≠ some t) : slot (a.put d v) t = slot a t := by
  cases d with
  | none => rfl
  | some u =>
    have hne : u ≠ t := fun e => h (by rw [e])
    simp [slot, Act.put, Array.getElem?_setIfInBounds_ne hne]
theorem size_put (a : Act) (d : Option Tmp) (v : Value) : (a.put d v).tmps.size = a.tmps.size := by cases d <;> simp [Act.put]
theorem defers_put (a : Act) (d : Option Tmp) (v : Value) : (a.put d v).defers = a.defers := by cases d <;> rfl

theorem wp_false {P : Program} {o : Oper} {a : Act} {w : World} {K : Act → World → Prop} {Q : Exit → Act → World → Prop} (h : o.wp P a w K (fun _ _ _ => False)) : o.wp P a w K Q := by
  unfold Oper.wp at *
  generalize (execOp a.eval o).run P w = r at *
  cases r with
  | ok n w' =>
    cases n <;> simp only [Oper.upon] at h ⊢ <;> first
      | exact h
      | exact Calls.mono h (fun e w'' he => by
          cases e with
          | returned v => exact he
          | panicked c => exact he.elim
          | outgrown => obtain ⟨_, _, hf⟩ := he; exact hf.elim)
  | halt x w' => cases x <;> simp only [Oper.upon] at h ⊢

structure RelInv (ops : Array Oper) (F : Nat → Know) (a0 : Act) (listed : Array Bool) (a : Act) (w : World) : Prop where
  lsize : listed.size = ops.size
  size : a.tmps.size = a0.tmps.size
  defers : a.defers = a0.defers
  closed : ∀ (i : Nat) (o : Oper), ops[i]? = some o → listed.getD i false = true → ∀ e ∈ o.after, Region.binds .any e = true → listed.getD e.on false = true
  knows : ∀ (i : Nat) (o : Oper) (t : Tmp), ops[i]? = some o → listed.getD i false = true → o.dst = some t → F i (slot a t) w
  kept : ∀ t, (∀ (i : Nat) (o : Oper), ops[i]? = some o → listed.getD i false = true → o.dst ≠ some t) → slot a t = slot a0 t

theorem getD_true_false {l : Array Bool} {i : Nat} (h : l.getD i true = false) : l.getD i false = false ∧ i < l.size := by
  rcases Nat.lt_or_ge i l.size with h' | h'
  · simp [h'] at h ⊢; exact h
  · simp [Array.getElem?_eq_none h'] at h

theorem getD_false_of {l : Array Bool} {i : Nat} (h : l.getD i false = false) (hi : i < l.size) : l.getD i true = false := by simp [hi] at h ⊢; exact h

theorem RelInv.next {ops : Array Oper} {n : Nat} (hok : RelOk ops n) {F : Nat → Know} (hF : ∀ i, (F i).Keeps) {a0 : Act} {listed : Array Bool} {a : Act} {w w' : World} (h : RelInv ops F a0 listed a w) (hn : n = a0.tmps.size)
    {i : Nat} {o : Oper} (hi : ops[i]? = some o) (hr : i ∈ Region.ready .any ops listed) {v : Value} (hv : F i v w') (hb : Below w.heap.size w w') :
    RelInv ops F a0 (listed.setIfInBounds i true) (a.put o.dst v) w' := by
  obtain ⟨hun, o', ho', hall⟩ := mem_ready.1 hr
  rw [hi] at ho'
  cases ho'
  obtain ⟨hun', hil⟩ := getD_true_false hun
  have split : ∀ j, (listed.setIfInBounds i true).getD j false = true → j = i ∨ listed.getD j false = true := fun j hj => by
    by_cases e : i = j
    · exact .inl e.symm
    · rw [getD_set_ne false e] at hj; exact .inr hj
  have hself : (listed.setIfInBounds i true).getD i false = true := by simp [hil]
  refine ⟨by simpa using h.lsize, by rw [size_put]; exact h.size, by rw [defers_put]; exact h.defers, fun j oj hj hl e he hb' => ?_, fun j oj t hj hl ht => ?_, fun t ht => ?_⟩
  · rcases split j hl with rfl | hl'
    · rw [hi] at hj; cases hj; exact getD_set_true (hall e he hb')
    · exact getD_set_true (h.closed j oj hj hl' e he hb')
  · rcases split j hl with rfl | hl'
    · rw [hi] at hj; cases hj
      rw [ht, slot_put_same (by rw [h.size, ← hn]; exact hok.lt _ _ _ hi ht)]
      exact hv
    · have hne : j ≠ i := fun e => by subst e; rw [hun'] at hl'; cases hl'
      rw [slot_put_other (fun e => hok.ne j i oj o t hj hi hne ht e)]
      exact hF j _ _ _ (h.knows j oj t hj hl' ht) hb
  · rw [slot_put_other (ht i o hi hself)]
    exact h.kept t fun j oj hj hl => ht j oj hj (getD_set_true hl)

theorem exists_ready {ops : Array Oper} {n : Nat} (hok : RelOk ops n) {listed : Array Bool} (hs : listed.size = ops.size) (h : Region.ready .any ops listed = []) : ∀ i, i < ops.size → listed.getD i false = true := by
  intro i
  induction i using Nat.strongRecOn with
  | ind i ih =>
    intro hi
    rcases hl : listed.getD i false with _ | _
    · have hm : i ∈ Region.ready .any ops listed := mem_ready.2 ⟨getD_false_of hl (by omega), ops[i], by simp [hi], fun e he hb => by
        have := hok.back i ops[i] (by simp [hi]) e he hb
        exact ih _ this (by omega)⟩
      rw [h] at hm; cases hm
    · rfl

/-- How many are not listed yet. -/
def unlisted (listed : Array Bool) : Nat := (listed.toList.filter (!·)).length

theorem unlisted_set_list : ∀ (l : List Bool) (i : Nat), i < l.length → l.getD i true = false → ((l.set i true).filter (!·)).length + 1 = (l.filter (!·)).length
  | [], i, h, _ => by simp at h
  | b :: l, 0, _, hb => by simp at hb; subst hb; simp
  | b :: l, i + 1, h, hb => by
    have := unlisted_set_list l i (by simpa using h) (by simpa using hb)
    cases b <;> simp <;> omega

theorem unlisted_set {listed : Array Bool} {i : Nat} (h : listed.getD i true = false) : unlisted (listed.setIfInBounds i true) + 1 = unlisted listed := by
  obtain ⟨_, hi⟩ := getD_true_false h
  have := unlisted_set_list listed.toList i (by simpa using hi) (by simpa using h)
  simpa [unlisted, Array.toList_setIfInBounds] using this

theorem all_of_unlisted {listed : Array Bool} (h : unlisted listed = 0) {i : Nat} : listed.getD i true = true := by
  rcases hl : listed.getD i true with _ | _
  · have := unlisted_set hl; omega
  · rfl

theorem wpAny_of_rel {P : Program} {ops : Array Oper} {n : Nat} (hok : RelOk ops n) {F : Nat → Know} (hF : ∀ i, (F i).Keeps) {w0 : World} {a0 : Act} {Q : Exit → Act → World → Prop} (hn : n = a0.tmps.size)
    (hs : ∀ i o, ops.toList[i]? = some o → ∀ (a : Act) (x : Ext w0), a.defers = a0.defers → (∀ t ∈ o.looksAt ops, stt ops.toList F (fun t v _ => v = slot a0 t) i t (slot a t) x.on) → relStep P ops o (F i) a x.on)
    (hq : ∀ (a : Act) (x : Ext w0), a.tmps.size = a0.tmps.size → a.defers = a0.defers → (∀ t, stt ops.toList F (fun t v _ => v = slot a0 t) ops.toList.length t (slot a t) x.on) → Q .normal a x.on) :
    ∀ (fuel : Nat) (listed : Array Bool) (a : Act) (x : Ext w0), fuel = unlisted listed → RelInv ops F a0 listed a x.on → wpAny P .any ops Q fuel listed a x.on := by
  have fin : ∀ (listed : Array Bool) (a : Act) (x : Ext w0), RelInv ops F a0 listed a x.on → Region.ready .any ops listed = [] → Q .normal a x.on := by
    intro listed a x hinv hr
    have hall := exists_ready hok hinv.lsize hr
    refine hq a x hinv.size hinv.defers fun t => ?_
    by_cases hex : ∃ (j : Nat) (oj : Oper), ops[j]? = some oj ∧ oj.dst = some t
    · obtain ⟨j, oj, hj, ht⟩ := hex
      have hjl : j < ops.size := (Array.getElem?_eq_some_iff.1 hj).1
      rw [stt_of_dst hok hj ht _ (by simpa using hjl)]
      exact hinv.knows j oj t hj (hall j hjl) ht
    · rw [stt_of_none _ fun j oj _ hj ht => hex ⟨j, oj, hj, ht⟩]
      exact hinv.kept t fun j oj hj _ ht => hex ⟨j, oj, hj, ht⟩
  intro fuel
  induction fuel with
  | zero =>
    intro listed a x hfu hinv
    have hr : Region.ready .any ops listed = [] := by
      rcases hr : Region.ready .any ops listed with _ | ⟨i, _⟩
      · rfl
      · have hm : i ∈ Region.ready .any ops listed := by rw [hr]; simp
        have := (mem_ready.1 hm).1
        rw [all_of_unlisted hfu.symm] at this
        cases this
    exact ⟨hr, fin listed a x hinv hr⟩
  | succ fuel ih =>
    intro listed a x hfu hinv
    refine ⟨fin listed a x hinv, fun i hi => ?_⟩
    obtain ⟨hun, o, ho, hall⟩ := mem_ready.1 hi
    obtain ⟨hun', hil⟩ := getD_true_false hun
    have hlook : ∀ t ∈ o.looksAt ops, stt ops.toList F (fun t v _ => v = slot a0 t) i t (slot a t) x.on := by
      intro t ht
      by_cases hex : ∃ (j : Nat) (oj : Oper), j < i ∧ ops[j]? = some oj ∧ oj.dst = some t
      · obtain ⟨j, oj, hji, hj, hd⟩ := hex
        rw [stt_of_dst hok hj hd i hji]
        rcases hok.dep i j o oj t ho hj (by omega) hd ht with ⟨_, e, he, hb, hon⟩ | ⟨h', _⟩
        · exact hinv.knows j oj t hj (hon ▸ hall e he hb) hd
        · omega
      · rw [stt_of_none _ fun j oj hji hj hd => hex ⟨j, oj, hji, hj, hd⟩]
        refine hinv.kept t fun j oj hj hl hd => ?_
        have hji : j ≠ i := fun e => by subst e; rw [hun'] at hl; cases hl
        rcases hok.dep i j o oj t ho hj (Ne.symm hji) hd ht with ⟨h', _⟩ | ⟨_, e, he, hb, hon⟩
        · exact hex ⟨j, oj, h', hj, hd⟩
        · have := hinv.closed j oj hj hl e he hb
          rw [hon, hun'] at this
          cases this
    have hstep := hs i o (by simpa using ho) a x hinv.defers hlook
    have hfu' : fuel = unlisted (listed.setIfInBounds i true) := by have := unlisted_set hun; omega
    unfold wpOp
    simp only [ho]
    unfold relStep at hstep
    split
    · rename_i hw
      rw [if_pos hw] at hstep
      refine .inl (wp_false (Oper.wp_mono (fun a' w' hh => ?_) hstep))
      obtain ⟨v, rfl, hv, hb⟩ := hh
      exact ih _ _ (x.next hb) hfu' (hinv.next hok hF hn ho hi hv hb)
    · rename_i hw
      rw [if_neg hw] at hstep
      exact ih _ _ x hfu' (hinv.next hok hF hn ho hi hstep (Below.refl _ _))

/-- What is known of each slot: a frame that is written out, and predicates of some slots. -/
def SymS (a : Act) : List (Tmp × Know) → Tmp → Know
  | [] => fun t v _ => v = slot a t
  | (u, k) :: nd => fun t => if u = t then k else SymS a nd t

def RelL (P : Program) (ops : Array Oper) (w0 : World) (a0 : Act) (Q : Exit → Act → World → Prop) (l : List Oper) (a : Act) (nd : List (Tmp × Know)) : Prop := a.tmps.size = a0.tmps.size → a.defers = a0.defers → wpRelS P ops w0 a0 Q l (SymS a nd)

theorem unlisted_replicate (n : Nat) : unlisted (Array.replicate n false) = n := by simp [unlisted]

theorem wp_region_rel {P : Program} {id : Nat} {Q : Exit → Act → World → Prop} {a : Act} {w : World} {l : List Oper} (hm : P.follows .mixedOrders = true) (hB : relB l.toArray a.tmps.size = true)
    (h : RelL P l.toArray w a Q l a []) : (Code.region id l.toArray true).wp P Q a w := by
  have hok := relOk_of hB
  obtain ⟨F, hF, hs, hq⟩ := wpRelS_extract l _ (h rfl rfl)
  have := wpAny_of_rel (P := P) hok hF (w0 := w) (a0 := a) (Q := Q) rfl hs hq l.toArray.size (Array.replicate l.toArray.size false) a ⟨w.drew, (Below.refl _ _).drew⟩ (unlisted_replicate _).symm
    ⟨by simp, rfl, rfl, fun i o _ hl => by simp [Array.getElem?_replicate] at hl; split at hl <;> simp at hl, fun i o t _ hl => by simp [Array.getElem?_replicate] at hl; split at hl <;> simp at hl, fun t _ => rfl⟩
  exact wp_region_any hm this

/-- Operations that yield a value and leave the world alone, or halt. -/
def plainOp : Op → Bool
  | .move _ | .assign _ | .pick _ _ _ | .load _ _ | .binOp _ _ _ _ _ | .unOp _ _ _ | .convert _ _ _ | .fieldAddr _ _ _ | .field _ _ _ | .indexAddr _ _ _ | .index _ _ _ | .extract _ _ | .slice _ _ _ _ _ | .build _ _ | .makeFunc _ _ _ => true
  | .call { callee := .builtin .len, args := _, argTypes := _ } => true
  | _ => false

theorem run_of_value {P : Program} {w : World} (s : Sem Value) : (∃ v w', (do pure (Next.value (← s)) : Sem Next).run P w = .ok (.value v) w') ∨ ∃ h w', (do pure (Next.value (← s)) : Sem Next).run P w = .halt h w' := by
  simp only [Sem.run_bind, Sem.run_pure]
  cases s.run P w with
  | ok v w' => exact .inl ⟨v, w', rfl⟩
  | halt h w' => exact .inr ⟨h, w', rfl⟩

theorem plain_run {P : Program} {o : Oper} (hp : plainOp o.op = true) (r : Operand → Value) (w : World) : (∃ v w', (execOp r o).run P w = .ok (.value v) w') ∨ ∃ h w', (execOp r o).run P w = .halt h w' := by
  obtain ⟨dst, op, type, pos, after, guard⟩ := o
  cases op <;> simp only [plainOp, Bool.false_eq_true] at hp <;> try exact run_of_value _
  case move x => exact .inl ⟨_, _, rfl⟩
  case assign x => exact .inl ⟨_, _, rfl⟩
  case pick c a b =>
    simp only [execOp, Sem.run_bind]
    cases (asBool (r c)).run P w with
    | ok v w' => exact .inl ⟨_, w', rfl⟩
    | halt h w' => exact .inr ⟨h, w', rfl⟩
  case call c =>
    obtain ⟨callee, args, ats⟩ := c
    cases callee with
    | builtin b => cases b <;> simp only [Bool.false_eq_true] at hp; exact run_of_value _
    | value f => simp at hp
    | invoke r m => simp at hp

theorem plain_noSelect {op : Op} (hp : plainOp op = true) (cs : Array SelectCase) (b : Bool) : op ≠ .select cs b := by
  rintro rfl; simp [plainOp] at hp

/-- Is what an operation looks at apart from the slots that are known by a predicate? -/
def freeOf (ops : Array Oper) (ks : List Tmp) (o : Oper) : Bool := (o.looksAt ops).all fun t => !ks.contains t
def dstOk (ks : List Tmp) (n : Nat) (o : Oper) : Bool := match o.dst with | some t => !ks.contains t && decide (t < n) | none => true
def keysOf (nd : List (Tmp × Know)) : List Tmp := nd.map (·.1)

theorem symS_free {a : Act} : ∀ {nd : List (Tmp × Know)} {t : Tmp}, t ∉ keysOf nd → SymS a nd t = fun v _ => v = slot a t
  | [], _, _ => rfl
  | (u, k) :: nd, t, h => by
    have h1 : u ≠ t := fun e => h (by simp [keysOf, e])
    show (if u = t then k else SymS a nd t) = _
    rw [if_neg h1, symS_free (nd := nd) (fun hm => h (by simp [keysOf] at hm ⊢; exact .inr hm))]

theorem updS_eq {a : Act} {nd : List (Tmp × Know)} {o : Oper} {n : Nat} {c : Value} (hd : dstOk (keysOf nd) n o = true) (hn : a.tmps.size = n) : updS (SymS a nd) o.dst (fun v _ => v = c) = SymS (a.put o.dst c) nd := by
  have gen : ∀ nd : List (Tmp × Know), (∀ t, o.dst = some t → t ∉ keysOf nd ∧ t < n) → updS (SymS a nd) o.dst (fun v _ => v = c) = SymS (a.put o.dst c) nd := by
    intro nd
    induction nd with
    | nil =>
      intro h
      funext t v w
      unfold updS
      split
      · rename_i he
        have := (h t he).2
        simp only [SymS]
        rw [he, slot_put_same (by rw [hn]; exact this)]
      · rename_i he
        simp only [SymS]
        rw [slot_put_other he]
    | cons p nd ih =>
      obtain ⟨u, k⟩ := p
      intro h
      have ih' := ih fun t ht => ⟨fun hm => (h t ht).1 (by simp [keysOf] at hm ⊢; exact .inr hm), (h t ht).2⟩
      funext t v w
      have := congrFun (congrFun (congrFun ih' t) v) w
      simp only [updS, SymS] at this ⊢
      by_cases he : o.dst = some t
      · have hut : u ≠ t := fun e => (h t he).1 (by simp [keysOf, e])
        simp only [he, if_true, if_neg hut] at this ⊢
        exact this
      · simp only [he, if_false] at this ⊢
        split
        · rfl
        · exact this
  refine gen nd fun t ht => ?_
  simp only [dstOk, ht, Bool.and_eq_true, decide_eq_true_eq, Bool.not_eq_true', List.contains_eq_mem, decide_eq_false_iff_not] at hd
  exact hd

theorem eval_of_slots {ops : Array Oper} {o : Oper} {a A : Act} (h : ∀ t ∈ o.looksAt ops, slot A t = slot a t) : ∀ x ∈ o.op.operands, A.eval x = a.eval x := by
  intro x hx
  cases x with
  | tmp t => exact h t (List.mem_append_left _ (List.mem_filterMap.2 ⟨.tmp t, by simpa using hx, rfl⟩))
  | _ => rfl

def boolOf : Value → Option Bool
  | .bool b => some b
  | _ => none
def guardAt (ops : Array Oper) (o : Oper) : List Tmp := match o.guard with | some (g, _) => ((ops[g]?).bind (·.dst)).toList | none => []
theorem guardAt_looks {ops : Array Oper} {o : Oper} {t : Tmp} (h : t ∈ guardAt ops o) : t ∈ o.looksAt ops := List.mem_append_right _ h
theorem yielded_eq (ops : Array Oper) (l : Array Value) (g : Nat) : yielded ops l g = ((ops[g]?).bind (·.dst)).bind fun t => boolOf (l.getD t undef) := by
  unfold yielded
  cases ht : (ops[g]?).bind (·.dst) with
  | none => rfl
  | some t =>
    simp only [Option.bind_some]
    rcases h : l[t]? with _ | v
    · simp [h, undef, boolOf]
    · simp only [Array.getD_eq_getD_getElem?, h, Option.getD_some]
      cases v <;> rfl

theorem wanted_of_guard {ops : Array Oper} {o : Oper} {a A : Act} (h : ∀ t ∈ guardAt ops o, slot A t = slot a t) : Region.wanted o (yielded ops A.tmps) = Region.wanted o (yielded ops a.tmps) := by
  unfold Region.wanted
  cases hg : o.guard with
  | none => rfl
  | some gw =>
    obtain ⟨g, want⟩ := gw
    have hy : yielded ops A.tmps g = yielded ops a.tmps g := by
      rw [yielded_eq, yielded_eq]
      cases ht : (ops[g]?).bind (·.dst) with
      | none => rfl
      | some t =>
        have := h t (by simp [guardAt, hg, ht])
        unfold slot at this
        simp only [Option.bind_some, this]
    simp only [hy]

theorem wanted_of_slots {ops : Array Oper} {o : Oper} {a A : Act} (h : ∀ t ∈ o.looksAt ops, slot A t = slot a t) : Region.wanted o (yielded ops A.tmps) = Region.wanted o (yielded ops a.tmps) :=
  wanted_of_guard fun t ht => h t (guardAt_looks ht)

section
variable {P : Program} {ops : Array Oper} {w0 : World} {a0 : Act} {Q : Exit → Act → World → Prop} {a : Act} {nd : List (Tmp × Know)} {o : Oper} {rest : List Oper}

theorem keeps_eq (c : Value) : Know.Keeps (fun v _ => v = c) := fun _ _ _ h _ => h

/-- One operation whose value is known. -/
theorem rel_det (c : Value) (hd : dstOk (keysOf nd) a.tmps.size o = true)
    (h : ∀ (A : Act) (x : Ext w0), (∀ t ∈ o.looksAt ops, SymS a nd t (slot A t) x.on) → relStep P ops o (fun v _ => v = c) A x.on)
    (hk : RelL P ops w0 a0 Q rest (a.put o.dst c) nd) : RelL P ops w0 a0 Q (o :: rest) a nd := fun hs hf =>
  ⟨_, keeps_eq c, fun A x _ ht => h A x ht, by rw [updS_eq hd rfl]; exact hk (by rw [size_put]; exact hs) (by rw [defers_put]; exact hf)⟩

/-- One operation of whose value something is known. -/
theorem rel_new (t : Tmp) (k : Know) (ht : o.dst = some t) (hkeep : k.Keeps)
    (h : ∀ (A : Act) (x : Ext w0), (∀ t ∈ o.looksAt ops, SymS a nd t (slot A t) x.on) → relStep P ops o k A x.on)
    (hk : RelL P ops w0 a0 Q rest a ((t, k) :: nd)) : RelL P ops w0 a0 Q (o :: rest) a nd := fun hs hf =>
  ⟨k, hkeep, fun A x _ hh => h A x hh, by
    have e : updS (SymS a nd) o.dst k = SymS a ((t, k) :: nd) := by
      funext u
      simp only [updS, SymS, ht, Option.some.injEq]
    rw [e]; exact hk hs hf⟩

def segB (ops : Array Oper) (ks : List Tmp) (n : Nat) (l : List Oper) : Bool := l.all fun o => plainOp o.op && freeOf ops ks o && dstOk ks n o

theorem slots_of_free {A : Act} {w : World} (hf : freeOf ops (keysOf nd) o = true) (h : ∀ t ∈ o.looksAt ops, SymS a nd t (slot A t) w) : ∀ t ∈ o.looksAt ops, slot A t = slot a t := by
  intro t ht
  have h1 := h t ht
  have h2 : t ∉ keysOf nd := by
    have := List.all_eq_true.1 hf t ht
    simpa using this
  rw [symS_free h2] at h1
  exact h1

/-- A row of plain operations, walked as a quiet region is. -/
theorem rel_seg (n : Nat) : ∀ (l1 : List Oper) (l2 : List Oper) (a : Act), segB ops (keysOf nd) n l1 = true → a.tmps.size = n →
    wpQuiet P ops (fun w' => ∃ x : Ext w0, w' = x.on) (fun a' => RelL P ops w0 a0 Q l2 a' nd) l1 a → RelL P ops w0 a0 Q (l1 ++ l2) a nd
  | [], _, _, _, _, h => h
  | o :: l1, l2, a, hB, hn, h => by
    simp only [segB, List.all_cons, Bool.and_eq_true] at hB
    obtain ⟨⟨⟨hp, hf⟩, hd⟩, hB'⟩ := hB
    simp only [wpQuiet] at h
    split at h
    · rename_i hw
      obtain ⟨c, hc, hr⟩ := h
      refine rel_det c (hn ▸ hd) (fun A x ht => ?_) (rel_seg n l1 l2 _ hB' (by rw [size_put]; exact hn) hr)
      have hsl := slots_of_free hf ht
      unfold relStep
      rw [wanted_of_slots hsl, if_pos hw]
      have h1 := hc x.on ⟨x, rfl⟩
      unfold Oper.quietAt at h1
      unfold Oper.wp
      rw [execOp_congr o (plain_noSelect hp) (eval_of_slots hsl)]
      rcases plain_run hp a.eval x.on (P := P) with ⟨v, w', e⟩ | ⟨hh, w', e⟩
      · rw [e] at h1 ⊢
        simp only [Oper.quietUpon] at h1
        obtain ⟨rfl, rfl⟩ := h1
        exact ⟨v, rfl, rfl, Below.refl _ _⟩
      · rw [e] at h1
        simp only [Oper.quietUpon] at h1
    · rename_i hw
      refine rel_det undef (hn ▸ hd) (fun A x ht => ?_) (rel_seg n l1 l2 _ hB' (by rw [size_put]; exact hn) h)
      have hsl := slots_of_free hf ht
      unfold relStep
      rw [wanted_of_slots hsl, if_neg hw]

/-- An operation that its guard passes over. -/
theorem rel_skip (hw : Region.wanted o (yielded ops a.tmps) = false) (hd : dstOk (keysOf nd) a.tmps.size o = true) (hg : (guardAt ops o).all (fun t => !(keysOf nd).contains t) = true)
    (hk : RelL P ops w0 a0 Q rest (a.put o.dst undef) nd) : RelL P ops w0 a0 Q (o :: rest) a nd := by
  refine rel_det undef hd (fun A x ht => ?_) hk
  have e : Region.wanted o (yielded ops A.tmps) = Region.wanted o (yielded ops a.tmps) := wanted_of_guard fun t h' => by
    have h2 := ht t (guardAt_looks h')
    have h3 := List.all_eq_true.1 hg t h'
    rw [symS_free (by simpa using h3)] at h2
    exact h2
  unfold relStep
  rw [e, hw, if_neg (by simp)]

/-- The guard of an operation that is carried out. -/
theorem wanted_sym {A : Act} {w : World} (hw : Region.wanted o (yielded ops a.tmps) = true) (hg : (guardAt ops o).all (fun t => !(keysOf nd).contains t) = true)
    (ht : ∀ t ∈ o.looksAt ops, SymS a nd t (slot A t) w) : Region.wanted o (yielded ops A.tmps) = true := by
  rw [← hw]
  exact wanted_of_guard fun t h' => by
    have h2 := ht t (guardAt_looks h')
    have h3 := List.all_eq_true.1 hg t h'
    rw [symS_free (by simpa using h3)] at h2
    exact h2

/-- A function that is entered when it is called. -/
def EntersP (P : Program) (f : FuncId) : Prop := ∀ args w, (callFunc f args).run P w = .ok (.enter f args) w

theorem relStep_call {f : FuncId} {xs : List Operand} {ats : Array TypeId} {A : Act} {w : World} {k : Know} (ho : o.op = .call { callee := .value (.func f), args := xs.toArray, argTypes := ats }) (hf : EntersP P f)
    (hw : Region.wanted o (yielded ops A.tmps) = true) (h : Calls P f (xs.map A.eval).toArray w fun e w' => ∃ v, e = .returned v ∧ k v w' ∧ Below w.heap.size w w') : relStep P ops o k A w := by
  unfold relStep
  rw [if_pos hw]
  unfold Oper.wp
  have e : (execOp A.eval o).run P w = .ok (.enter f (xs.map A.eval).toArray) w := by
    obtain ⟨dst, op, type, pos, after, guard⟩ := o
    simp only at ho
    subst ho
    rw [execOp_call_go, hf]
    simp
  rw [e]
  simp only [Oper.upon]
  refine h.mono fun e w' hh => ?_
  obtain ⟨v, rfl, hv, hb⟩ := hh
  exact ⟨v, rfl, hv, hb⟩

/-- A call whose arguments and answer are known. -/
theorem rel_call {f : FuncId} {xs : List Operand} {ats : Array TypeId} {vs : Array Value} {c : Value} (ho : o.op = .call { callee := .value (.func f), args := xs.toArray, argTypes := ats }) (hf : EntersP P f) (hfr : freeOf ops (keysOf nd) o = true)
    (hw : Region.wanted o (yielded ops a.tmps) = true) (hd : dstOk (keysOf nd) a.tmps.size o = true)
    (h : ∀ x : Ext w0, Calls P f vs x.on fun e w' => e = .returned c ∧ Below x.on.heap.size x.on w') (hvs : (xs.map a.eval).toArray = vs)
    (hk : RelL P ops w0 a0 Q rest (a.put o.dst c) nd) : RelL P ops w0 a0 Q (o :: rest) a nd := by
  refine rel_det c hd (fun A x ht => ?_) hk
  have hsl := slots_of_free hfr ht
  refine relStep_call ho hf (by rw [wanted_of_slots hsl]; exact hw) ?_
  have e : xs.map A.eval = xs.map a.eval := List.map_congr_left fun y hy => eval_of_slots hsl y (by rw [ho]; simp [Op.operands, Call.operands, hy])
  rw [e, hvs]
  exact (h x).mono fun _ _ hh => ⟨c, hh.1, rfl, hh.2⟩

/-- A call whose arguments are known, and of whose answer something is. -/
theorem rel_call_new {f : FuncId} {xs : List Operand} {ats : Array TypeId} {vs : Array Value} (t : Tmp) (k : Know) (ht : o.dst = some t) (hkeep : k.Keeps) (ho : o.op = .call { callee := .value (.func f), args := xs.toArray, argTypes := ats }) (hf : EntersP P f)
    (hfr : freeOf ops (keysOf nd) o = true) (hw : Region.wanted o (yielded ops a.tmps) = true)
    (h : ∀ x : Ext w0, Calls P f vs x.on fun e w' => ∃ v, e = .returned v ∧ k v w' ∧ Below x.on.heap.size x.on w') (hvs : (xs.map a.eval).toArray = vs)
    (hk : RelL P ops w0 a0 Q rest a ((t, k) :: nd)) : RelL P ops w0 a0 Q (o :: rest) a nd := by
  refine rel_new t k ht hkeep (fun A x hs => ?_) hk
  have hsl := slots_of_free hfr hs
  refine relStep_call ho hf (by rw [wanted_of_slots hsl]; exact hw) ?_
  have e : xs.map A.eval = xs.map a.eval := List.map_congr_left fun y hy => eval_of_slots hsl y (by rw [ho]; simp [Op.operands, Call.operands, hy])
  rw [e, hvs]
  exact h x

/-- A call of some of whose arguments something is known: its answer is known. -/
theorem rel_call_of {f : FuncId} {xs : List Operand} {ats : Array TypeId} {c : Value} (ho : o.op = .call { callee := .value (.func f), args := xs.toArray, argTypes := ats }) (hf : EntersP P f)
    (hw : Region.wanted o (yielded ops a.tmps) = true) (hd : dstOk (keysOf nd) a.tmps.size o = true) (hg : (guardAt ops o).all (fun t => !(keysOf nd).contains t) = true)
    (h : ∀ (x : Ext w0) (A : Act), (∀ t ∈ o.looksAt ops, SymS a nd t (slot A t) x.on) → Calls P f (xs.map A.eval).toArray x.on fun e w' => e = .returned c ∧ Below x.on.heap.size x.on w')
    (hk : RelL P ops w0 a0 Q rest (a.put o.dst c) nd) : RelL P ops w0 a0 Q (o :: rest) a nd :=
  rel_det c hd (fun A x ht => relStep_call ho hf (wanted_sym hw hg ht) ((h x A ht).mono fun _ _ hh => ⟨c, hh.1, rfl, hh.2⟩)) hk

/-- A call of some of whose arguments something is known: something is of its answer. -/
theorem rel_call_of_new {f : FuncId} {xs : List Operand} {ats : Array TypeId} (t : Tmp) (k : Know) (ht : o.dst = some t) (hkeep : k.Keeps) (ho : o.op = .call { callee := .value (.func f), args := xs.toArray, argTypes := ats }) (hf : EntersP P f)
    (hw : Region.wanted o (yielded ops a.tmps) = true) (hg : (guardAt ops o).all (fun t => !(keysOf nd).contains t) = true)
    (h : ∀ (x : Ext w0) (A : Act), (∀ t ∈ o.looksAt ops, SymS a nd t (slot A t) x.on) → Calls P f (xs.map A.eval).toArray x.on fun e w' => ∃ v, e = .returned v ∧ k v w' ∧ Below x.on.heap.size x.on w')
    (hk : RelL P ops w0 a0 Q rest a ((t, k) :: nd)) : RelL P ops w0 a0 Q (o :: rest) a nd :=
  rel_new t k ht hkeep (fun A x hs => relStep_call ho hf (wanted_sym hw hg hs) (h x A hs)) hk

/-- An operation that is carried out in one step, of whose value something is known then. -/
theorem rel_run_new (t : Tmp) (k : Know) (ht : o.dst = some t) (hkeep : k.Keeps) (hw : Region.wanted o (yielded ops a.tmps) = true) (hg : (guardAt ops o).all (fun t => !(keysOf nd).contains t) = true)
    (h : ∀ (x : Ext w0) (A : Act), (∀ t ∈ o.looksAt ops, SymS a nd t (slot A t) x.on) → ∃ v w', (execOp A.eval o).run P x.on = .ok (.value v) w' ∧ k v w' ∧ Below x.on.heap.size x.on w')
    (hk : RelL P ops w0 a0 Q rest a ((t, k) :: nd)) : RelL P ops w0 a0 Q (o :: rest) a nd :=
  rel_new t k ht hkeep (fun A x hs => by
    unfold relStep
    rw [if_pos (wanted_sym hw hg hs)]
    unfold Oper.wp
    obtain ⟨v, w', e, hv, hb⟩ := h x A hs
    rw [e]
    exact ⟨v, rfl, hv, hb⟩) hk

/-- A call of a function value. -/
theorem relStep_callv {f : FuncId} {g : Operand} {xs : List Operand} {ats : Array TypeId} {A : Act} {w : World} {k : Know} {cap : Array Value} (ho : o.op = .call { callee := .value g, args := xs.toArray, argTypes := ats }) (hf : EntersP P f) (hgv : A.eval g = .func (.func f) #[] cap)
    (hw : Region.wanted o (yielded ops A.tmps) = true) (h : Calls P f ((xs.map A.eval).toArray ++ cap) w fun e w' => ∃ v, e = .returned v ∧ k v w' ∧ Below w.heap.size w w') : relStep P ops o k A w := by
  unfold relStep
  rw [if_pos hw]
  unfold Oper.wp
  have e : (execOp A.eval o).run P w = .ok (.enter f ((xs.map A.eval).toArray ++ cap)) w := by
    obtain ⟨dst, op, type, pos, after, guard⟩ := o
    simp only at ho
    subst ho
    simp only [execOp, resolve, hgv, Deferred.ofValue, Sem.run_bind, Sem.run_pure, Result.andThen_ok, invoke]
    simp
    exact hf _ _
  rw [e]
  simp only [Oper.upon]
  refine h.mono fun e w' hh => ?_
  obtain ⟨v, rfl, hv, hb⟩ := hh
  exact ⟨v, rfl, hv, hb⟩

theorem rel_callv_new {f : FuncId} {g : Operand} {xs : List Operand} {ats : Array TypeId} {vs : Array Value} {cap : Array Value} (t : Tmp) (k : Know) (ht : o.dst = some t) (hkeep : k.Keeps) (ho : o.op = .call { callee := .value g, args := xs.toArray, argTypes := ats }) (hf : EntersP P f)
    (hgv : a.eval g = .func (.func f) #[] cap) (hfr : freeOf ops (keysOf nd) o = true) (hw : Region.wanted o (yielded ops a.tmps) = true)
    (h : ∀ x : Ext w0, Calls P f vs x.on fun e w' => ∃ v, e = .returned v ∧ k v w' ∧ Below x.on.heap.size x.on w') (hvs : (xs.map a.eval).toArray ++ cap = vs)
    (hk : RelL P ops w0 a0 Q rest a ((t, k) :: nd)) : RelL P ops w0 a0 Q (o :: rest) a nd := by
  refine rel_new t k ht hkeep (fun A x hs => ?_) hk
  have hsl := slots_of_free hfr hs
  have hev := eval_of_slots hsl
  refine relStep_callv ho hf ((hev g (by rw [ho]; simp [Op.operands, Call.operands])).trans hgv) (by rw [wanted_of_slots hsl]; exact hw) ?_
  have e : xs.map A.eval = xs.map a.eval := List.map_congr_left fun y hy => hev y (by rw [ho]; simp [Op.operands, Call.operands, hy])
  rw [e, hvs]
  exact h x

/-- An operation that is carried out in one step, whose value is known then. -/
theorem rel_run_det (c : Value) (hw : Region.wanted o (yielded ops a.tmps) = true) (hd : dstOk (keysOf nd) a.tmps.size o = true) (hg : (guardAt ops o).all (fun t => !(keysOf nd).contains t) = true)
    (h : ∀ (x : Ext w0) (A : Act), (∀ t ∈ o.looksAt ops, SymS a nd t (slot A t) x.on) → ∃ w', (execOp A.eval o).run P x.on = .ok (.value c) w' ∧ Below x.on.heap.size x.on w')
    (hk : RelL P ops w0 a0 Q rest (a.put o.dst c) nd) : RelL P ops w0 a0 Q (o :: rest) a nd :=
  rel_det c hd (fun A x hs => by
    unfold relStep
    rw [if_pos (wanted_sym hw hg hs)]
    unfold Oper.wp
    obtain ⟨w', e, hb⟩ := h x A hs
    rw [e]
    exact ⟨c, rfl, rfl, hb⟩) hk

def withNd (K : Act → World → Prop) (w : World) : List (Tmp × Know) → Act → Prop
  | [], a => K a w
  | (t, k) :: nd, a => ∀ v, k v w → withNd K w nd (a.put (some t) v)

theorem act_ext {a b : Act} (hs : a.tmps.size = b.tmps.size) (hd : a.defers = b.defers) (h : ∀ t, slot a t = slot b t) : a = b := by
  obtain ⟨x, d⟩ := a
  obtain ⟨y, e⟩ := b
  simp only at hs hd
  subst hd
  congr 1
  refine Array.ext hs fun i h1 h2 => ?_
  have := h i
  simpa [slot, h1, h2] using this

theorem withNd_of {K : Act → World → Prop} {w : World} {A : Act} : ∀ (nd : List (Tmp × Know)) (a : Act), A.tmps.size = a.tmps.size → A.defers = a.defers → (∀ t, t ∉ keysOf nd → slot A t = slot a t) → (∀ p ∈ nd, p.2 (slot A p.1) w) → withNd K w nd a → K A w
  | [], a, hs, hd, h1, _, h => by
    have : A = a := act_ext hs hd fun t => h1 t (by simp [keysOf])
    rw [this]; exact h
  | (t, k) :: nd, a, hs, hd, h1, h2, h => by
    refine withNd_of nd (a.put (some t) (slot A t)) (by rw [size_put]; exact hs) (by rw [defers_put]; exact hd) (fun u hu => ?_) (fun p hp => h2 p (by simp [hp])) (h _ (h2 (t, k) (by simp)))
    by_cases e : u = t
    · subst e
      rcases Nat.lt_or_ge u a.tmps.size with hlt | hge
      · rw [slot_put_same hlt]
      · have h3 : slot A u = undef := by simp [slot, Array.getElem?_eq_none (show A.tmps.size ≤ u by omega)]
        have h4 : ∀ v, slot (a.put (some u) v) u = undef := fun v => by simp [slot, Act.put]; intro h'; omega
        rw [h4]; exact h3
    · rw [slot_put_other (fun e' => e (by injection e' with e'; exact e'.symm))]
      refine h1 u fun hm => ?_
      simp only [keysOf, List.map_cons, List.mem_cons] at hm
      rcases hm with hm | hm
      · exact e hm
      · exact hu hm

theorem symS_mem {A : Act} {w : World} : ∀ (nd : List (Tmp × Know)), (keysOf nd).Nodup → (∀ t, SymS a nd t (slot A t) w) → ∀ p ∈ nd, p.2 (slot A p.1) w
  | [], _, _, _, hp => by simp at hp
  | (u, k) :: nd, hnd, h, p, hp => by
    simp only [keysOf, List.map_cons, List.nodup_cons] at hnd
    rcases List.mem_cons.1 hp with rfl | hp
    · have := h u
      simpa [SymS] using this
    · refine go nd hnd.2 (fun q hq => ?_) p hp
      have h1 := h q
      rw [SymS, if_neg (fun e => hnd.1 (by rw [e]; exact hq))] at h1
      exact h1
where
  go : ∀ (nd : List (Tmp × Know)), (nd.map (·.1)).Nodup → (∀ t ∈ nd.map (·.1), SymS a nd t (slot A t) w) → ∀ p ∈ nd, p.2 (slot A p.1) w
    | [], _, _, _, hp => by simp at hp
    | (u, k) :: nd, hnd, h, p, hp => by
      simp only [List.map_cons, List.nodup_cons] at hnd
      rcases List.mem_cons.1 hp with rfl | hp
      · have := h u (by simp)
        simpa [SymS] using this
      · refine go nd hnd.2 (fun q hq => ?_) p hp
        have h1 := h q (by simp only [List.map_cons, List.mem_cons]; exact .inr hq)
        rw [SymS, if_neg (fun e => hnd.1 (by rw [e]; exact hq))] at h1
        exact h1

/-- The region's end. -/
theorem rel_nil (hnd : (keysOf nd).Nodup) (h : ∀ x : Ext w0, withNd (Q .normal) x.on nd a) : RelL P ops w0 a0 Q [] a nd := fun hs hd A x h1 h2 h3 =>
  withNd_of nd a (by rw [h1, hs]) (by rw [h2, hd]) (fun t ht => by have := h3 t; rwa [symS_free ht] at this) (symS_mem nd hnd h3) (h x)
end

/-! ### A region whose last operations stand in a forced order behind all others: they are walked as a plain row. -/

/-- Each operation from number n on waits for all ahead of it. -/
def tailB (ops : Array Oper) (n : Nat) : Bool :=
  (List.range ops.size).all fun t => decide (t < n) || (List.range t).all fun i => match ops[t]? with
    | some o => o.after.any fun e => Region.binds .any e && e.on == i
    | none => true

theorem tail_spec {ops : Array Oper} {n : Nat} (h : tailB ops n = true) {t i : Nat} {o : Oper} (ht : ops[t]? = some o) (hn : n ≤ t) (hi : i < t) : ∃ e ∈ o.after, Region.binds .any e = true ∧ e.on = i := by
  have htl : t < ops.size := (Array.getElem?_eq_some_iff.1 ht).1
  have h1 := List.all_eq_true.1 h t (List.mem_range.2 htl)
  simp only [Bool.or_eq_true, decide_eq_true_eq] at h1
  have h2 := h1.resolve_left (by omega)
  have h3 := List.all_eq_true.1 h2 i (List.mem_range.2 hi)
  simp only [ht] at h3
  obtain ⟨e, he, hb⟩ := Array.any_eq_true'.1 h3
  simp only [Bool.and_eq_true, beq_iff_eq] at hb
  exact ⟨e, he, hb⟩

theorem wpOp_of_list {P : Program} {ops : Array Oper} {Q : Exit → Act → World → Prop} {i : Nat} {o : Oper} {rest : List Oper} {a : Act} {w : World} (hi : ops[i]? = some o) (h : wpList P ops Q (o :: rest) a w) : wpOp P ops Q i (wpList P ops Q rest) a w := by
  unfold wpOp
  simp only [hi]
  exact h

/-- The tail: what is listed is all below k. -/
theorem wpAny_tail {P : Program} {ops : Array Oper} {m n : Nat} (hok : RelOk ops m) (hB : tailB ops n = true) {Q : Exit → Act → World → Prop} : ∀ (fuel k : Nat) (listed : Array Bool) (a : Act) (w : World), fuel + k = ops.size → n ≤ k → listed.size = ops.size →
    (∀ i, i < k → listed.getD i false = true) → (∀ i, k ≤ i → i < ops.size → listed.getD i true = false) → wpList P ops Q (ops.toList.drop k) a w → wpAny P .any ops Q fuel listed a w
  | 0, k, listed, a, w, hf, hn, hs, hlt, hge, h => by
    have hr : Region.ready .any ops listed = [] := by
      rcases hr : Region.ready .any ops listed with _ | ⟨i, _⟩
      · rfl
      · have hm : i ∈ Region.ready .any ops listed := by rw [hr]; simp
        obtain ⟨hun, o, ho, _⟩ := mem_ready.1 hm
        have hi : i < ops.size := (Array.getElem?_eq_some_iff.1 ho).1
        have := hlt i (by omega)
        rw [(getD_true_false hun).1] at this
        cases this
    refine ⟨hr, ?_⟩
    rw [List.drop_eq_nil_of_le (by simp; omega)] at h
    exact h
  | fuel + 1, k, listed, a, w, hf, hn, hs, hlt, hge, h => by
    have hkl : k < ops.size := by omega
    have hko : ops[k]? = some ops[k] := by simp [hkl]
    have hkr : k ∈ Region.ready .any ops listed := mem_ready.2 ⟨hge k (Nat.le_refl _) hkl, ops[k], hko, fun e he hb => hlt _ (hok.back k ops[k] hko e he hb)⟩
    refine ⟨(fun h0 => by rw [h0] at hkr; cases hkr), fun i hi => ?_⟩
    obtain ⟨hun, o, ho, hall⟩ := mem_ready.1 hi
    have hil : i < ops.size := (Array.getElem?_eq_some_iff.1 ho).1
    have hik : i = k := by
      rcases Nat.lt_trichotomy i k with h1 | h1 | h1
      · have := hlt i h1
        rw [(getD_true_false hun).1] at this
        cases this
      · exact h1
      · obtain ⟨e, he, hb, hon⟩ := tail_spec hB ho (by omega) h1
        have h2 := hall e he hb
        rw [hon] at h2
        have h3 := hge k (Nat.le_refl _) hkl
        rw [(getD_true_false h3).1] at h2
        cases h2
    subst hik
    rw [hko] at ho
    cases ho
    rw [List.drop_eq_getElem_cons (by simpa using hkl)] at h
    have h' : wpList P ops Q (ops[i] :: ops.toList.drop (i + 1)) a w := by simpa using h
    refine wpOp_mono (fun a' w' hh => ?_) (wpOp_of_list hko h')
    refine wpAny_tail hok hB fuel (i + 1) _ a' w' (by omega) (by omega) (by simpa using hs) (fun j hj => ?_) (fun j hj hjs => ?_) hh
    · by_cases e : i = j
      · subst e; simp [hs, hkl]
      · rw [getD_set_ne false e]; exact hlt j (by omega)
    · rw [getD_set_ne true (by omega)]; exact hge j (by omega) hjs

theorem stt_congr {l l' : List Oper} {F : Nat → Know} {S : Tmp → Know} : ∀ i, (∀ j, j < i → l[j]? = l'[j]?) → stt l F S i = stt l' F S i
  | 0, _ => rfl
  | i + 1, h => by rw [stt, stt, stt_congr i fun j hj => h j (by omega), h i (by omega)]

theorem unlisted_count_list : ∀ (l : List Bool) (n : Nat), n ≤ l.length → (∀ i, i < n → l.getD i true = true) → (∀ i, n ≤ i → i < l.length → l.getD i true = false) → (l.filter (!·)).length = l.length - n
  | [], n, hn, _, _ => by simp at hn; simp [hn]
  | b :: l, 0, _, _, h2 => by
    have hb : b = false := by simpa using h2 0 (Nat.le_refl _) (by simp)
    have ih := unlisted_count_list l 0 (by omega) (fun i hi => by omega) (fun i _ hi => by simpa using h2 (i + 1) (by omega) (by simpa using hi))
    subst hb
    simp at ih ⊢
    exact ih
  | b :: l, n + 1, hn, h1, h2 => by
    have hb : b = true := by simpa using h1 0 (by omega)
    have ih := unlisted_count_list l n (by simpa using hn) (fun i hi => by simpa using h1 (i + 1) (by omega)) (fun i hi hl => by simpa using h2 (i + 1) (by omega) (by simpa using hl))
    subst hb
    simp at ih ⊢
    exact ih

theorem wpAny_of_relT {P : Program} {ops : Array Oper} {n H : Nat} (hok : RelOk ops n) (hT : tailB ops H = true) (hH : H ≤ ops.size) {F : Nat → Know} (hF : ∀ i, (F i).Keeps) {w0 : World} {a0 : Act} {Q : Exit → Act → World → Prop} (hn : n = a0.tmps.size)
    (hs : ∀ i o, i < H → ops[i]? = some o → ∀ (a : Act) (x : Ext w0), a.defers = a0.defers → (∀ t ∈ o.looksAt ops, stt ops.toList F (fun t v _ => v = slot a0 t) i t (slot a t) x.on) → relStep P ops o (F i) a x.on)
    (hq : ∀ (a : Act) (x : Ext w0), a.tmps.size = a0.tmps.size → a.defers = a0.defers → (∀ t, stt ops.toList F (fun t v _ => v = slot a0 t) H t (slot a t) x.on) → wpList P ops Q (ops.toList.drop H) a x.on) :
    ∀ (fuel : Nat) (listed : Array Bool) (a : Act) (x : Ext w0), fuel = unlisted listed → RelInv ops F a0 listed a x.on → (∀ t, H ≤ t → t < ops.size → listed.getD t true = false) → wpAny P .any ops Q fuel listed a x.on := by
  have fin : ∀ (fuel : Nat) (listed : Array Bool) (a : Act) (x : Ext w0), fuel = unlisted listed → RelInv ops F a0 listed a x.on → (∀ t, H ≤ t → t < ops.size → listed.getD t true = false) → (∀ i, i < H → listed.getD i false = true) → wpAny P .any ops Q fuel listed a x.on := by
    intro fuel listed a x hfu hinv htl hall
    have hcnt : unlisted listed = ops.size - H := by
      have := unlisted_count_list listed.toList H (by simpa [hinv.lsize] using hH) (fun i hi => by
        have h1 := hall i hi
        have hil : i < listed.size := by rw [hinv.lsize]; omega
        simp [hil] at h1 ⊢; exact h1) (fun i hi hl => by
        have hil : i < listed.size := by simpa using hl
        have h1 := htl i hi (by rw [← hinv.lsize]; exact hil)
        simp [hil] at h1 ⊢; exact h1)
      simpa [unlisted, hinv.lsize] using this
    refine wpAny_tail hok hT fuel H listed a x.on (by omega) (Nat.le_refl _) hinv.lsize hall htl (hq a x hinv.size hinv.defers fun t => ?_)
    by_cases hex : ∃ (j : Nat) (oj : Oper), j < H ∧ ops[j]? = some oj ∧ oj.dst = some t
    · obtain ⟨j, oj, hjH, hj, ht⟩ := hex
      rw [stt_of_dst hok hj ht _ hjH]
      exact hinv.knows j oj t hj (hall j hjH) ht
    · rw [stt_of_none _ fun j oj hjH hj ht => hex ⟨j, oj, hjH, hj, ht⟩]
      refine hinv.kept t fun j oj hj hl ht => ?_
      rcases Nat.lt_or_ge j H with h' | h'
      · exact hex ⟨j, oj, h', hj, ht⟩
      · have := htl j h' (Array.getElem?_eq_some_iff.1 hj).1
        rw [(getD_true_false this).1] at hl
        cases hl
  intro fuel
  induction fuel with
  | zero =>
    intro listed a x hfu hinv htl
    refine fin 0 listed a x hfu hinv htl fun i hi => ?_
    have h1 := all_of_unlisted hfu.symm (i := i)
    have hil : i < listed.size := by rw [hinv.lsize]; omega
    simp [hil] at h1 ⊢; exact h1
  | succ fuel ih =>
    intro listed a x hfu hinv htl
    by_cases hall : ∀ i, i < H → listed.getD i false = true
    · exact fin _ listed a x hfu hinv htl hall
    · -- some operation of the head has not come up: only such ones may
      have hex : ∃ i, i < H ∧ listed.getD i false = false := by
        refine Classical.byContradiction fun hne => hall fun i hi => ?_
        rcases hl : listed.getD i false with _ | _
        · exact absurd ⟨i, hi, hl⟩ hne
        · rfl
      obtain ⟨m, hmH, hmf⟩ := hex
      refine ⟨fun hr => ?_, fun i hi => ?_⟩
      · have := exists_ready hok hinv.lsize hr m (by omega)
        rw [hmf] at this; cases this
      · obtain ⟨hun, o, ho, hal⟩ := mem_ready.1 hi
        obtain ⟨hun', hil⟩ := getD_true_false hun
        have hio : i < ops.size := (Array.getElem?_eq_some_iff.1 ho).1
        have hiH : i < H := by
          rcases Nat.lt_or_ge i H with h' | h'
          · exact h'
          · obtain ⟨e, he, hb, hon⟩ := tail_spec hT ho h' (Nat.lt_of_lt_of_le hmH h')
            have := hal e he hb
            rw [hon, hmf] at this; cases this
        have hlook : ∀ t ∈ o.looksAt ops, stt ops.toList F (fun t v _ => v = slot a0 t) i t (slot a t) x.on := by
          intro t ht
          by_cases hex : ∃ (j : Nat) (oj : Oper), j < i ∧ ops[j]? = some oj ∧ oj.dst = some t
          · obtain ⟨j, oj, hji, hj, hd⟩ := hex
            rw [stt_of_dst hok hj hd i hji]
            rcases hok.dep i j o oj t ho hj (by omega) hd ht with ⟨_, e, he, hb, hon⟩ | ⟨h', _⟩
            · exact hinv.knows j oj t hj (hon ▸ hal e he hb) hd
            · omega
          · rw [stt_of_none _ fun j oj hji hj hd => hex ⟨j, oj, hji, hj, hd⟩]
            refine hinv.kept t fun j oj hj hl hd => ?_
            have hji : j ≠ i := fun e => by subst e; rw [hun'] at hl; cases hl
            rcases hok.dep i j o oj t ho hj (Ne.symm hji) hd ht with ⟨h', _⟩ | ⟨_, e, he, hb, hon⟩
            · exact hex ⟨j, oj, h', hj, hd⟩
            · have := hinv.closed j oj hj hl e he hb
              rw [hon, hun'] at this
              cases this
        have hstep := hs i o hiH ho a x hinv.defers hlook
        have hfu' : fuel = unlisted (listed.setIfInBounds i true) := by have := unlisted_set hun; omega
        have htl' : ∀ t, H ≤ t → t < ops.size → (listed.setIfInBounds i true).getD t true = false := fun t h1 h2 => by rw [getD_set_ne true (by omega)]; exact htl t h1 h2
        unfold wpOp
        simp only [ho]
        unfold relStep at hstep
        split
        · rename_i hw
          rw [if_pos hw] at hstep
          refine .inl (wp_false (Oper.wp_mono (fun a' w' hh => ?_) hstep))
          obtain ⟨v, rfl, hv, hb⟩ := hh
          exact ih _ _ (x.next hb) hfu' (hinv.next hok hF hn ho hi hv hb) htl'
        · rename_i hw
          rw [if_neg hw] at hstep
          exact ih _ _ x hfu' (hinv.next hok hF hn ho hi hstep (Below.refl _ _)) htl'

/-- A region that draws its order: the head l1 in whatever order, by what is known of slots; the tail l2, in its forced order, as a plain row. -/
theorem wp_region_relT {P : Program} {id : Nat} {Q : Exit → Act → World → Prop} {a : Act} {w : World} {l : List Oper} (l1 l2 : List Oper) (hl : l = l1 ++ l2) (hm : P.follows .mixedOrders = true) (hB : relB l.toArray a.tmps.size = true) (hT : tailB l.toArray l1.length = true)
    (h : RelL P l.toArray w a (fun _ a' w' => wpList P l.toArray Q l2 a' w') l1 a []) : (Code.region id l.toArray true).wp P Q a w := by
  have hok := relOk_of hB
  obtain ⟨F, hF, hs, hq⟩ := wpRelS_extract l1 _ (h rfl rfl)
  have hget : ∀ j, j < l1.length → l1[j]? = l[j]? := fun j hj => by rw [hl, List.getElem?_append_left hj]
  have hlen : l1.length ≤ l.toArray.size := by rw [hl]; simp
  have hdrop : l.toArray.toList.drop l1.length = l2 := by rw [hl]; simp
  have := wpAny_of_relT (P := P) (H := l1.length) hok hT hlen hF (w0 := w) (a0 := a) (Q := Q) rfl
    (fun i o hi ho b x hd ht => hs i o (by rw [hget i hi]; simpa using ho) b x hd fun t ht' => by
      have h5 := ht t ht'
      have e5 : stt l1 F (SymS a []) i = stt l F (SymS a []) i := stt_congr i fun j hj => hget j (by omega)
      rw [e5]
      exact h5)
    (fun b x h1 h2 h3 => by
      rw [hdrop]
      exact hq b x h1 h2 fun t => by
        have h5 := h3 t
        have e5 : stt l1 F (SymS a []) l1.length = stt l F (SymS a []) l1.length := stt_congr l1.length fun j hj => hget j hj
        rw [e5]
        exact h5)
    l.toArray.size (Array.replicate l.toArray.size false) a ⟨w.drew, (Below.refl _ _).drew⟩ (unlisted_replicate _).symm
    ⟨by simp, rfl, rfl, fun i o _ hl => by simp [Array.getElem?_replicate] at hl; split at hl <;> simp at hl, fun i o t _ hl => by simp [Array.getElem?_replicate] at hl; split at hl <;> simp at hl, fun t _ => rfl⟩
    (fun t _ ht => by have ht' : t < l.length := by simpa using ht
                      simp [ht'])
  exact wp_region_any hm this

end Go.Proofs.YtcjooalmhppkiaaRRRR
