/- What is known where a function stands, and how it is carried from operation to operation. -/
import Derived.Test.YtcjooalmhppkiaaRRRRAbs1
import Derived.Test.YtcjooalmhppkiaaRRRRRel
namespace Go.Proofs.YtcjooalmhppkiaaRRRR
open Go.RowKit

def kv {α : Type} : List (Nat × α) → Nat → Option α
  | [], _ => none
  | (k, v) :: l, n => bif Nat.beq k n then some v else kv l n

theorem lk_cons {α : Type} (k : Nat) (v : α) (l : List (Nat × α)) (n : Nat) : kv ((k, v) :: l) n = if k = n then some v else kv l n := by
  by_cases h : k = n
  · subst h; simp [kv]
  · have : Nat.beq k n = false := by rw [Bool.eq_false_iff]; intro hb; exact h (Nat.eq_of_beq_eq_true hb)
    simp [kv, this, h]

/-- What is known: of slots, of variables, of groups of rows. -/
structure St where
  s : List (Nat × Dt)
  b : List (Nat × List Dt)
  g : List (Nat × Gr)

/-- Where a call began: how many slots it has, the world, what was claimed, which old blocks it may write. -/
structure Ctx where
  n : Nat
  w0 : World
  cl0 : Nat → Option Nat
  own : Nat → Prop
  kb : List (Nat × Nat)

def BoxAt (e : Env) (b : Nat) (cs : List Dt) : Prop := ∃ k vs el, e.bx b = some k ∧ e.w.heap[k]? = some (.cells (List.toArray vs) el (0, 0)) ∧ DReps e vs cs

structure Kept (own : Nat → Prop) (w w' : World) : Prop where
  os : w'.os = w.os
  tape : w'.tape = w.tape
  output : w'.output = w.output
  size : w.heap.size ≤ w'.heap.size
  block : ∀ k, k < w.heap.size → ¬ own k → w'.heap[k]? = w.heap[k]?
theorem Kept.refl (own : Nat → Prop) (w : World) : Kept own w w := ⟨rfl, rfl, rfl, Nat.le_refl _, fun _ _ _ => rfl⟩
theorem Kept.below {own : Nat → Prop} {w w' w'' : World} (h : Kept own w w') (hb : Below w'.heap.size w' w'') : Kept own w w'' :=
  ⟨hb.os.trans h.os, hb.tape.trans h.tape, hb.output.trans h.output, Nat.le_trans h.size hb.size, fun k hk ho => (hb.block k (Nat.lt_of_lt_of_le hk h.size)).trans (h.block k hk ho)⟩

structure EnvOk (Γ : Ctx) (e : Env) : Prop where
  kept : Kept Γ.own Γ.w0 e.w
  cl : ∀ k, k < Γ.w0.heap.size → ¬ Γ.own k → e.cl k = Γ.cl0 k
  bx : ∀ b k, e.bx b = some k → k < e.w.heap.size ∧ (Γ.w0.heap.size ≤ k ∨ Γ.own k) ∧ e.cl k = some 0 ∧ e.gr k = none
  inj : ∀ b c k, e.bx b = some k → e.bx c = some k → b = c
  gr : ∀ k g, e.gr k = some g → ∃ G cur, e.gi g = some G ∧ k < e.w.heap.size ∧ (Γ.w0.heap.size ≤ k ∨ Γ.own k) ∧ e.cl k = some (G.len * G.sz) ∧ e.w.heap[k]? = some (.cells cur G.el (0, 0))
  kb : ∀ b k, kv Γ.kb b = some k → e.bx b = some k

structure Conc (Γ : Ctx) (σ : St) (e : Env) (a : Act) : Prop where
  size : a.tmps.size = Γ.n
  df : a.defers = []
  slots : ∀ t d, kv σ.s t = some d → DRep e (slot a t) d
  boxes : ∀ b cs, kv σ.b b = some cs → BoxAt e b cs
  nobox : ∀ b, kv σ.b b = none → e.bx b = none
  gs : ∀ g, e.gi g = kv σ.g g
  env : EnvOk Γ e

/-- A world that has grown, and in which nothing that was there has turned. -/
structure Grow (e e' : Env) : Prop where
  below : Below e.w.heap.size e.w e'.w
  cl : ∀ k, k < e.w.heap.size → e'.cl k = e.cl k
  bx : e'.bx = e.bx
  gr : e'.gr = e.gr
  gi : e'.gi = e.gi
theorem Grow.refl (e : Env) : Grow e e := ⟨Below.refl _ _, fun _ _ => rfl, rfl, rfl, rfl⟩
theorem Grow.trans {a b c : Env} (h : Grow a b) (k : Grow b c) : Grow a c :=
  ⟨h.below.trans (k.below.mono h.below.size), fun x hx => (k.cl x (Nat.lt_of_lt_of_le hx h.below.size)).trans (h.cl x hx), k.bx.trans h.bx, k.gr.trans h.gr, k.gi.trans h.gi⟩

theorem cell_lt' {w : World} {b o : Nat} {v : Value} (h : w.cell? ⟨b, o, none⟩ = some v) : b < w.heap.size := by
  rcases Nat.lt_or_ge b w.heap.size with hlt | hge
  · exact hlt
  · simp [World.cell?, Array.getElem?_eq_none hge] at h
theorem heap_lt {w : World} {b : Nat} {o : Obj} (h : w.heap[b]? = some o) : b < w.heap.size := by
  rcases Nat.lt_or_ge b w.heap.size with hlt | hge
  · exact hlt
  · rw [Array.getElem?_eq_none hge] at h; cases h
theorem Grow.claimed {e e' : Env} (h : Grow e e') {b o : Nat} (hb : b < e.w.heap.size) (hc : e.claimed b o) : e'.claimed b o := fun k hk => hc k (by rw [← h.cl b hb]; exact hk)
theorem Grow.ends {e e' : Env} (h : Grow e e') : Ends e e' := by
  refine ⟨fun b o v hc hv => ?_, fun b k hk => by rw [h.bx]; exact hk, fun g G hg => ⟨G, by rw [h.gi]; exact hg, rfl, rfl, Nat.le_refl _⟩, fun k g G cur h1 h2 h3 => ⟨by rw [h.gr]; exact h1, cur, ?_, rfl⟩⟩
  · have hb := cell_lt' hv
    exact ⟨h.claimed hb hc, by rw [h.below.cell (p := ⟨b, o, none⟩) hb]; exact hv⟩
  · rw [h.below.block k (heap_lt h3)]; exact h3
theorem Grow.box {e e' : Env} (h : Grow e e') {b : Nat} {cs : List Dt} (hb : BoxAt e b cs) : BoxAt e' b cs := by
  obtain ⟨k, vs, el, h1, h2, h3⟩ := hb
  exact ⟨k, vs, el, by rw [h.bx]; exact h1, by rw [h.below.block k (heap_lt h2)]; exact h2, h3.next h.ends⟩
theorem Grow.ok {Γ : Ctx} {e e' : Env} (h : Grow e e') (ho : EnvOk Γ e) : EnvOk Γ e' := by
  refine ⟨ho.kept.below h.below, fun k hk hw => (h.cl k (Nat.lt_of_lt_of_le hk ho.kept.size)).trans (ho.cl k hk hw), fun b k hb => ?_, fun b c k h1 h2 => ho.inj b c k (by rw [← h.bx]; exact h1) (by rw [← h.bx]; exact h2), fun k g hg => ?_, fun b k hk => by rw [h.bx]; exact ho.kb b k hk⟩
  · rw [h.bx] at hb
    obtain ⟨h1, h2, h3, h4⟩ := ho.bx b k hb
    exact ⟨Nat.lt_of_lt_of_le h1 h.below.size, h2, (h.cl k h1).trans h3, by rw [h.gr]; exact h4⟩
  · rw [h.gr] at hg
    obtain ⟨G, cur, h1, h2, h3, h4, h5⟩ := ho.gr k g hg
    exact ⟨G, cur, by rw [h.gi]; exact h1, Nat.lt_of_lt_of_le h2 h.below.size, h3, (h.cl k h2).trans h4, by rw [h.below.block k h2]; exact h5⟩
theorem Conc.grow {Γ : Ctx} {σ : St} {e e' : Env} {a : Act} (hc : Conc Γ σ e a) (h : Grow e e') : Conc Γ σ e' a :=
  ⟨hc.size, hc.df, fun t d ht => (hc.slots t d ht).next h.ends, fun b cs hb => h.box (hc.boxes b cs hb), fun b hb => by rw [h.bx]; exact hc.nobox b hb, fun g => by rw [h.gi]; exact hc.gs g, h.ok hc.env⟩

def St.put (σ : St) : Option Nat → Dt → St
  | some t, d => ⟨(t, d) :: σ.s, σ.b, σ.g⟩
  | none, _ => σ
def St.box (σ : St) : Option (Nat × List Dt) → St
  | some p => ⟨σ.s, p :: σ.b, σ.g⟩
  | none => σ
def dstLt (n : Nat) : Option Nat → Bool
  | some t => Nat.blt t n
  | none => true

theorem Conc.put {Γ : Ctx} {σ : St} {e : Env} {a : Act} (hc : Conc Γ σ e a) {dst : Option Nat} (hd : dstLt Γ.n dst = true) {v : Value} {d : Dt} (hv : DRep e v d) : Conc Γ (σ.put dst d) e (a.put dst v) := by
  cases dst with
  | none => exact hc
  | some t =>
    have ht : t < Γ.n := by simpa [dstLt, Nat.blt_eq] using hd
    refine ⟨by rw [size_put]; exact hc.size, by rw [defers_put]; exact hc.df, fun u c hu => ?_, hc.boxes, hc.nobox, hc.gs, hc.env⟩
    simp only [St.put, lk_cons] at hu
    split at hu
    · rename_i htu
      subst htu
      cases hu
      rw [slot_put_same (by rw [hc.size]; exact ht)]
      exact hv
    · rename_i htu
      rw [slot_put_other (fun e => htu (by cases e; rfl))]
      exact hc.slots u c hu
/-- A variable more: a new block. -/
def Env.withBox (e : Env) (b k : Nat) : Env := { e with bx := fun x => if x = b then some k else e.bx x }
theorem withBox_ends {e : Env} {b k : Nat} (h : e.bx b = none) : Ends e (e.withBox b k) :=
  ⟨fun _ _ _ h1 h2 => ⟨h1, h2⟩, fun c j hj => by
    show (if c = b then some k else e.bx c) = some j
    rw [if_neg (fun e' => by rw [e', h] at hj; cases hj)]; exact hj, fun _ G hg => ⟨G, hg, rfl, rfl, Nat.le_refl _⟩, fun _ _ _ cur h1 _ h3 => ⟨h1, cur, h3, rfl⟩⟩
theorem BoxAt.ends {e e' : Env} {b : Nat} {cs : List Dt} (h : BoxAt e b cs) (hE : Ends e e') (hw : e'.w = e.w) : BoxAt e' b cs := by
  obtain ⟨k, vs, el, h1, h2, h3⟩ := h
  exact ⟨k, vs, el, hE.bx _ _ h1, by rw [hw]; exact h2, h3.next hE⟩
theorem Conc.newBox {Γ : Ctx} {σ : St} {e : Env} {a : Act} (hc : Conc Γ σ e a) {b k : Nat} {cs : List Dt} (hb : kv σ.b b = none) (hk : k < e.w.heap.size) (hbase : Γ.w0.heap.size ≤ k) (hcl : e.cl k = some 0) (hgr : e.gr k = none) (hfree : ∀ c, e.bx c ≠ some k)
    (hat : BoxAt (e.withBox b k) b cs) : Conc Γ (σ.box (some (b, cs))) (e.withBox b k) a := by
  have hn := hc.nobox b hb
  have hE := withBox_ends (k := k) hn
  refine ⟨hc.size, hc.df, fun t d ht => (hc.slots t d ht).next hE, fun c ds hcd => ?_, fun c hcn => ?_, hc.gs, ?_⟩
  · simp only [St.box, lk_cons] at hcd
    split at hcd
    · rename_i hbc; subst hbc; cases hcd; exact hat
    · exact (hc.boxes c ds hcd).ends hE rfl
  · simp only [St.box, lk_cons] at hcn
    split at hcn
    · cases hcn
    · rename_i hbc
      show (if c = b then some k else e.bx c) = none
      rw [if_neg (fun e' => hbc e'.symm)]
      exact hc.nobox c hcn
  · refine ⟨hc.env.kept, hc.env.cl, fun c j hj => ?_, fun c c' j h1 h2 => ?_, hc.env.gr, fun c j hj => hE.bx c j (hc.env.kb c j hj)⟩
    · have hj' : (if c = b then some k else e.bx c) = some j := hj
      split at hj'
      · cases hj'; exact ⟨hk, .inl hbase, hcl, hgr⟩
      · exact hc.env.bx c j hj'
    · have h1' : (if c = b then some k else e.bx c) = some j := h1
      have h2' : (if c' = b then some k else e.bx c') = some j := h2
      by_cases e1 : c = b <;> by_cases e2 : c' = b
      · rw [e1, e2]
      · rw [if_pos e1] at h1'; rw [if_neg e2] at h2'; cases h1'; exact absurd h2' (hfree c')
      · rw [if_neg e1] at h1'; rw [if_pos e2] at h2'; cases h2'; exact absurd h1' (hfree c)
      · rw [if_neg e1] at h1'; rw [if_neg e2] at h2'; exact hc.env.inj c c' j h1' h2'

/-- What a quiet operation leaves: its value, and at most a new variable. -/
def QPost (e e' : Env) (v : Value) (d : Dt) : Option (Nat × List Dt) → Prop
  | none => Grow e e' ∧ DRep e' v d
  | some (b, cs) => ∃ e1 k, Grow e e1 ∧ e.w.heap.size ≤ k ∧ k < e1.w.heap.size ∧ e1.cl k = some 0 ∧ e' = e1.withBox b k ∧ BoxAt e' b cs ∧ DRep e' v d

theorem Conc.quiet {Γ : Ctx} {σ : St} {e e' : Env} {a : Act} (hc : Conc Γ σ e a) {dst : Option Nat} (hd : dstLt Γ.n dst = true) {v : Value} {d : Dt} {nb : Option (Nat × List Dt)} (hnb : ∀ p, nb = some p → kv σ.b p.1 = none) (h : QPost e e' v d nb) : Conc Γ ((σ.box nb).put dst d) e' (a.put dst v) := by
  cases nb with
  | none => exact (hc.grow h.1).put hd h.2
  | some p =>
    obtain ⟨b, cs⟩ := p
    obtain ⟨e1, k, hg, h1, h2, h3, rfl, h5, h6⟩ := h
    have hc1 := hc.grow hg
    refine (hc1.newBox (hnb _ rfl) h2 (Nat.le_trans hc.env.kept.size h1) h3 ?_ ?_ h5).put hd h6
    · rw [hg.gr]
      rcases hgk : e.gr k with _ | g
      · rfl
      · obtain ⟨_, _, _, hlt, _⟩ := hc.env.gr k g hgk; omega
    · intro c hck
      rw [hg.bx] at hck
      have := (hc.env.bx c k hck).1
      omega

/-- A constant. -/
def constLeaf : Value → Dt
  | .slice none 0 0 => .p (.sl true 0 [])
  | v => .p (.raw v)
def constD : Value → Dt
  | .agg cs => .agg (cs.toList.map constLeaf)
  | v => constLeaf v
theorem nil_rep (e : Env) : PRep e (.slice none 0 0) (.sl true 0 []) := .sl (fun _ => undef) (Nat.le_refl _) (by unfold maxLen; omega) (fun _ => rfl) (fun _ => rfl) (fun i x h => by simp at h) (fun i x h => by simp at h)
theorem constLeaf_rep (e : Env) (v : Value) : DRep e v (constLeaf v) := by
  unfold constLeaf
  split
  · exact .p (nil_rep e)
  · exact .p (.raw v)
theorem constD_rep (e : Env) (v : Value) : DRep e v (constD v) := by
  unfold constD
  split
  · rename_i cs
    have : DRep e (.agg cs.toList.toArray) (.agg (cs.toList.map constLeaf)) := .agg (by simp) (fun i v d h1 h2 => by
      rw [List.getElem?_map, h1] at h2
      cases h2
      exact constLeaf_rep e v)
    simpa using this
  · exact constLeaf_rep e v

/-! Lists, written out as they are taken apart. -/
def takeK {α β : Type} : Nat → List β → (List β → Option α) → Option α
  | 0, _, k => k []
  | n + 1, x :: l, k => takeK n l (fun r => k (x :: r))
  | _ + 1, [], _ => none
def dropK {α β : Type} : Nat → List β → (List β → Option α) → Option α
  | 0, l, k => k l
  | n + 1, _ :: l, k => dropK n l k
  | _ + 1, [], _ => none
def mapK {α β γ : Type} (f : γ → β) : List γ → (List β → Option α) → Option α
  | [], k => k []
  | x :: l, k => mapK f l (fun r => k (f x :: r))
def appK {α β : Type} : List β → List β → (List β → Option α) → Option α
  | [], m, k => k m
  | x :: l, m, k => appK l m (fun r => k (x :: r))
theorem takeK_some {α β : Type} : ∀ {n : Nat} {l : List β} {k : List β → Option α} {a : α}, takeK n l k = some a → n ≤ l.length ∧ k (l.take n) = some a
  | 0, l, k, a, h => ⟨Nat.zero_le _, by simpa [takeK] using h⟩
  | n + 1, x :: l, k, a, h => by
    obtain ⟨h1, h2⟩ := takeK_some (n := n) (l := l) (k := fun r => k (x :: r)) h
    exact ⟨by simpa using h1, by simpa using h2⟩
  | n + 1, [], k, a, h => by cases h
theorem dropK_some {α β : Type} : ∀ {n : Nat} {l : List β} {k : List β → Option α} {a : α}, dropK n l k = some a → n ≤ l.length ∧ k (l.drop n) = some a
  | 0, l, k, a, h => ⟨Nat.zero_le _, by simpa [dropK] using h⟩
  | n + 1, x :: l, k, a, h => by
    obtain ⟨h1, h2⟩ := dropK_some (n := n) (l := l) (k := k) h
    exact ⟨by simpa using h1, by simpa using h2⟩
  | n + 1, [], k, a, h => by cases h
theorem mapK_eq {α β γ : Type} (f : γ → β) : ∀ (l : List γ) (k : List β → Option α), mapK f l k = k (l.map f)
  | [], k => rfl
  | x :: l, k => by rw [mapK, mapK_eq f l]; rfl
theorem appK_eq {α β : Type} : ∀ (l m : List β) (k : List β → Option α), appK l m k = k (l ++ m)
  | [], m, k => rfl
  | x :: l, m, k => by rw [appK, appK_eq l m]; rfl
def leafK {α : Type} (v : Value) (k : Dt → Option α) : Option α := match v with
  | .slice none 0 0 => k (.p (.sl true 0 []))
  | v => k (.p (.raw v))
def leavesK {α : Type} : List Value → (List Dt → Option α) → Option α
  | [], k => k []
  | v :: l, k => leafK v fun d => leavesK l fun r => k (d :: r)
def constK {α : Type} (v : Value) (k : Dt → Option α) : Option α := match v with
  | .agg cs => leavesK cs.toList fun ds => k (.agg ds)
  | v => leafK v k
theorem leafK_eq {α : Type} (v : Value) (k : Dt → Option α) : leafK v k = k (constLeaf v) := by
  unfold leafK constLeaf
  split <;> rfl
theorem leavesK_eq {α : Type} : ∀ (l : List Value) (k : List Dt → Option α), leavesK l k = k (l.map constLeaf)
  | [], k => rfl
  | v :: l, k => by rw [leavesK, leafK_eq, leavesK_eq l]; rfl
theorem constK_eq {α : Type} (v : Value) (k : Dt → Option α) : constK v k = k (constD v) := by
  unfold constK constD
  split
  · rw [leavesK_eq]
  · rw [leafK_eq]

def ev (S : Nat → Option Dt) : Operand → Option Dt
  | .tmp t => S t
  | .const v => constK v some
  | .func f => some (.fn (.func f) [] [])
  | .global _ => none

def evsK {α : Type} (S : Nat → Option Dt) : List Operand → (List Dt → Option α) → Option α
  | [], k => k []
  | x :: l, k => match ev S x with
    | some d => evsK S l fun r => k (d :: r)
    | none => none
/-- What an operation looks at reads as is known. -/
def Sees (S : Nat → Option Dt) (B : Nat → Option (List Dt)) (a : Act) (e : Env) (xs : Array Operand) : Prop :=
  (∀ x ∈ xs, ∀ d, ev S x = some d → DRep e (a.eval x) d) ∧ ∀ b cs, B b = some cs → BoxAt e b cs

theorem Conc.sees {Γ : Ctx} {σ : St} {e : Env} {a : Act} (hc : Conc Γ σ e a) (xs : Array Operand) : Sees (kv σ.s) (kv σ.b) a e xs := by
  refine ⟨fun x _ d hx => ?_, hc.boxes⟩
  cases x with
  | tmp t => exact hc.slots t d hx
  | const v => simp only [ev, constK_eq, Option.some.injEq] at hx; subst hx; exact constD_rep e v
  | global g => cases hx
  | func f =>
    simp only [ev, Option.some.injEq] at hx
    subst hx
    exact .fn (us := []) (vs := []) rfl rfl (fun i v d h => by simp at h) (fun i v d h => by simp at h)

/-- A quiet operation: whatever the world, its value reads so, and nothing that was there has turned. -/
def QStep (P : Program) (o : Oper) (S : Nat → Option Dt) (B : Nat → Option (List Dt)) (d : Dt) (nb : Option (Nat × List Dt)) : Prop :=
  ∀ (a : Act) (e : Env), Sees S B a e o.op.operands → (∀ p, nb = some p → e.bx p.1 = none) →
    o.wp P a e.w (fun a' w' => ∃ v e', a' = a.put o.dst v ∧ e'.w = w' ∧ QPost e e' v d nb) (fun _ _ _ => False)

/-- An operation that leaves the world alone. -/
theorem qstep_run {P : Program} {o : Oper} {S : Nat → Option Dt} {B : Nat → Option (List Dt)} {d : Dt} (h : ∀ (a : Act) (e : Env), Sees S B a e o.op.operands → ∃ v, (execOp a.eval o).run P e.w = .ok (.value v) e.w ∧ DRep e v d) : QStep P o S B d none := by
  intro a e hs _
  obtain ⟨v, hr, hv⟩ := h a e hs
  unfold Oper.wp
  rw [hr]
  exact ⟨v, e, rfl, rfl, Grow.refl e, hv⟩
end Go.Proofs.YtcjooalmhppkiaaRRRR
