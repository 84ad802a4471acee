/- Regions that draw their order, rows of our own, and further operations, on what is known. -/
import Derived.Test.YtkkldicehapklaaGreatLib1
import Derived.Laws.MakeOwn
import Derived.Scope
section
/- A region that draws its order: its head of quiet operations in whatever order, its tail in the order that is forced. -/
namespace Go.Proofs.YtkkldicehapklaaGreat
open Go.RowKit
section
variable {P : Program} {Γ : Ctx}
structure UPost (Γ : Ctx) (e e' : Env) (b : Nat) (cs : List Dt) : Prop where
 ends : Ends e e'
 ok : EnvOk Γ e'
 bx : e'.bx = e.bx
 gi : e'.gi = e.gi
 at_ : BoxAt e' b cs
 other : ∀ c ds, c ≠ b → BoxAt e c ds → BoxAt e' c ds
def SStep (P : Program) (o : Oper) (S : Nat → Option Dt) (nm : Nat) (cs cs' : List Dt) : Prop :=
 ∀ (Γ : Ctx) (a : Act) (e : Env), EnvOk Γ e → (∀ x ∈ o.op.operands, ∀ d, ev S x = some d → DRep e (a.eval x) d) → (e.bx nm ≠ none → BoxAt e nm cs) →
  e.bx nm ≠ none ∧ o.wp P a e.w (fun a' w' => a' = a.put o.dst undef ∧ ∃ e', e'.w = w' ∧ UPost Γ e e' nm cs') (fun _ _ _ => False)
structure GPost (Γ : Ctx) (e e' : Env) (g : Nat) (G : Gr) (v : Value) (d : Dt) : Prop where
 ends : Ends e e'
 ok : EnvOk Γ e'
 bx : e'.bx = e.bx
 gi : ∀ h, e'.gi h = if h = g then some G else e.gi h
 other : ∀ c ds, BoxAt e c ds → BoxAt e' c ds
 rep : DRep e' v d
def GStep (P : Program) (o : Oper) (S : Nat → Option Dt) (g : Nat) (G0 : Option Gr) (G : Gr) (d : Dt) : Prop :=
 ∀ (Γ : Ctx) (a : Act) (e : Env), EnvOk Γ e → (∀ x ∈ o.op.operands, ∀ d, ev S x = some d → DRep e (a.eval x) d) → e.gi g = G0 →
  o.wp P a e.w (fun a' w' => ∃ v e', a' = a.put o.dst v ∧ e'.w = w' ∧ GPost Γ e e' g G v d) (fun _ _ _ => False)
def kB1 (o : Oper) (L : List (Nat × Nat)) (g : Nat) : Bool := match kv L g with
 | none => true
 | some t => o.op.operands.toList.any fun | .tmp u => Nat.beq u t | _ => false
def kC0 (l0 : List Oper) (o : Oper) : Bool := match o.dst with
 | none => false
 | some t => l0.all fun p => match p.dst with
  | some _ => true
  | none => p.after.any fun e => Region.binds .any e && (match (l0[e.on]?).bind (·.dst) with | some u => Nat.beq u t | none => false)
def jT2 (o : Oper) : Bool := match o.op with
 | .call _ => true
 | _ => false
def lateB (l0 : List Oper) (o : Oper) (ix : Nat) : Bool := (List.range ix).all fun k => match l0[k]? with
 | some p => p.dst.isSome || o.after.any fun e => Region.binds .any e && e.on == k
 | none => true
theorem late_spec {l0 : List Oper} {o p : Oper} {ix k : Nat} (h : lateB l0 o ix = true) (hk : k < ix) (hp : l0[k]? = some p) (hd : p.dst = none) : ∃ e ∈ o.after, Region.binds .any e = true ∧ e.on = k := by
 have h1 := List.all_eq_true.1 h k (List.mem_range.2 hk)
 simp only [hp, hd, Option.isSome_none, Bool.false_or] at h1
 obtain ⟨e, he, hb⟩ := Array.any_eq_true'.1 h1
 simp only [Bool.and_eq_true, beq_iff_eq] at hb
 exact ⟨e, he, hb⟩
def QRun (P : Program) (n : Nat) (l0 : List Oper) (B B0 : List (Nat × List Dt)) (K : St → Prop) : Nat → List Nat → List (Nat × Nat) → List Oper → St → Prop
 | _, _, _, [], σ => K σ
 | ix, D, L, o :: rest, σ => (∃ d nb, gd l0 o (kv σ.s) = some true ∧ (QStep P o (kv σ.s) (kv B) d nb ∨ (kC0 l0 o = true ∧ QStep P o (kv σ.s) (kv B0) d nb)) ∧ (∀ p, nb = some p → kv σ.b p.1 = none ∧ kv B p.1 = none) ∧ QRun P n l0 B B0 K (ix + 1) D L rest ((σ.box nb).put o.dst d)) ∨ (gd l0 o (kv σ.s) = some false ∧ QRun P n l0 B B0 K (ix + 1) D L rest (σ.put o.dst (.p (.raw undef)))) ∨
  (∃ nm cs cs', gd l0 o (kv σ.s) = some true ∧ o.dst = none ∧ kv B nm = none ∧ (D.contains nm = false ∨ lateB l0 o ix = true) ∧ kv σ.b nm = some cs ∧ SStep P o (kv σ.s) nm cs cs' ∧ QRun P n l0 B B0 K (ix + 1) (nm :: D) L rest (σ.box (some (nm, cs')))) ∨
  (∃ g G d t, gd l0 o (kv σ.s) = some true ∧ o.dst = some t ∧ jT2 o = true ∧ kB1 o L g = true ∧ GStep P o (kv σ.s) g (kv σ.g g) G d ∧ QRun P n l0 B B0 K (ix + 1) D ((g, t) :: L) rest ((σ.setGr g G).put o.dst d))
def stS (l : List Oper) (F : Nat → Dt) (S : Nat → Option Dt) : Nat → Nat → Option Dt
 | 0 => S
 | i + 1 => fun t => if (l[i]?).bind (·.dst) = some t then some (F i) else stS l F S i t
def updB (nb : Option (Nat × List Dt)) (B : Nat → Option (List Dt)) : Nat → Option (List Dt) := fun b => match nb with
 | some p => if p.1 = b then some p.2 else B b
 | none => B b
def stB (N : Nat → Option (Nat × List Dt)) (B : Nat → Option (List Dt)) : Nat → Nat → Option (List Dt)
 | 0 => B
 | i + 1 => updB (N i) (stB N B i)
def updG (m : Option (Nat × Gr)) (G : Nat → Option Gr) : Nat → Option Gr := fun h => match m with
 | some p => if p.1 = h then some p.2 else G h
 | none => G h
def stG (M : Nat → Option (Nat × Gr)) (G : Nat → Option Gr) : Nat → Nat → Option Gr
 | 0 => G
 | i + 1 => updG (M i) (stG M G i)
def jV7 (m : Option (Nat × Gr)) (t : Option Nat) (L : List (Nat × Nat)) : List (Nat × Nat) := match m with
 | some p => match t with
  | some u => (p.1, u) :: L
  | none => L
 | none => L
def stL (l : List Oper) (M : Nat → Option (Nat × Gr)) (L : List (Nat × Nat)) : Nat → List (Nat × Nat)
 | 0 => L
 | i + 1 => jV7 (M i) ((l[i]?).bind (·.dst)) (stL l M L i)
theorem kK3 (m : Option (Nat × Gr)) (M : Nat → Option (Nat × Gr)) (G : Nat → Option Gr) : ∀ i, stG (fun j => if j = 0 then m else M (j - 1)) G (i + 1) = stG M (updG m G) i
 | 0 => by simp [stG]
 | i + 1 => by
  rw [stG, kK3 m M G i, stG]
  simp
theorem stL_left (o : Oper) (l : List Oper) (m : Option (Nat × Gr)) (M : Nat → Option (Nat × Gr)) (L : List (Nat × Nat)) : ∀ i, stL (o :: l) (fun j => if j = 0 then m else M (j - 1)) L (i + 1) = stL l M (jV7 m o.dst L) i
 | 0 => by simp [stL]
 | i + 1 => by
  rw [stL, stL_left o l m M L i, stL]
  simp
def nameIn (p : Option (Nat × List Dt)) (D : List Nat) : List Nat := match p with
 | some q => q.1 :: D
 | none => D
def stD (U : Nat → Bool) (N : Nat → Option (Nat × List Dt)) (D : List Nat) : Nat → List Nat
 | 0 => D
 | i + 1 => bif U i then nameIn (N i) (stD U N D i) else stD U N D i
def jS7 (P : Program) (l0 : List Oper) (ix : Nat) (B B0 : Nat → Option (List Dt)) (S : Nat → Option Dt) (Bi : Nat → Option (List Dt)) (Gi : Nat → Option Gr) (D : List Nat) (L : List (Nat × Nat)) (o : Oper) (d : Dt) (nb : Option (Nat × List Dt)) (u : Bool) (m : Option (Nat × Gr)) : Prop :=
 (gd l0 o S = some true ∧ (QStep P o S B d nb ∨ (kC0 l0 o = true ∧ QStep P o S B0 d nb)) ∧ (∀ p, nb = some p → Bi p.1 = none ∧ B p.1 = none) ∧ u = false ∧ m = none) ∨ (gd l0 o S = some false ∧ d = .p (.raw undef) ∧ nb = none ∧ u = false ∧ m = none) ∨
 (∃ nm cs cs', gd l0 o S = some true ∧ o.dst = none ∧ B nm = none ∧ (D.contains nm = false ∨ lateB l0 o ix = true) ∧ Bi nm = some cs ∧ SStep P o S nm cs cs' ∧ d = .any ∧ nb = some (nm, cs') ∧ u = true ∧ m = none) ∨
 (∃ g G t, gd l0 o S = some true ∧ o.dst = some t ∧ jT2 o = true ∧ kB1 o L g = true ∧ GStep P o S g (Gi g) G d ∧ nb = none ∧ u = false ∧ m = some (g, G))
theorem stD_left (u : Bool) (nb : Option (Nat × List Dt)) (U : Nat → Bool) (N : Nat → Option (Nat × List Dt)) (D : List Nat) : ∀ i, stD (fun j => if j = 0 then u else U (j - 1)) (fun j => if j = 0 then nb else N (j - 1)) D (i + 1) = stD U N (bif u then nameIn nb D else D) i
 | 0 => by simp [stD]
 | i + 1 => by
  rw [stD, stD_left u nb U N D i, stD]
  simp
theorem kM0 (o : Oper) (l : List Oper) (d : Dt) (F : Nat → Dt) (S : Nat → Option Dt) : ∀ i, stS (o :: l) (fun j => if j = 0 then d else F (j - 1)) S (i + 1) = stS l F (fun t => if o.dst = some t then some d else S t) i
 | 0 => by funext t; simp [stS]
 | i + 1 => by
  rw [stS, kM0 o l d F S i, stS]
  simp
theorem kL1 (nb : Option (Nat × List Dt)) (N : Nat → Option (Nat × List Dt)) (B : Nat → Option (List Dt)) : ∀ i, stB (fun j => if j = 0 then nb else N (j - 1)) B (i + 1) = stB N (updB nb B) i
 | 0 => by funext t; simp [stB]
 | i + 1 => by
  rw [stB, kL1 nb N B i, stB]
  simp
theorem lk_put (σ : St) (dst : Option Nat) (d : Dt) : kv (σ.put dst d).s = fun t => if dst = some t then some d else kv σ.s t := by
 funext t
 cases dst with
 | none => simp [St.put]
 | some u => simp [St.put, jU]
theorem lk_box (σ : St) (nb : Option (Nat × List Dt)) : kv (σ.box nb).b = updB nb (kv σ.b) := by
 funext b
 cases nb with
 | none => rfl
 | some p => obtain ⟨x, y⟩ := p; simp [St.box, jU, updB]
theorem box_s (σ : St) (nb : Option (Nat × List Dt)) : (σ.box nb).s = σ.s := by cases nb <;> rfl
theorem put_b (σ : St) (dst : Option Nat) (d : Dt) : (σ.put dst d).b = σ.b := by cases dst <;> rfl
theorem put_g (σ : St) (dst : Option Nat) (d : Dt) : (σ.put dst d).g = σ.g := by cases dst <;> rfl
theorem box_g (σ : St) (nb : Option (Nat × List Dt)) : (σ.box nb).g = σ.g := by cases nb <;> rfl
def St.grow (σ : St) : Option (Nat × Gr) → St
 | some p => σ.setGr p.1 p.2
 | none => σ
theorem lk_grow (σ : St) (m : Option (Nat × Gr)) : kv (σ.grow m).g = updG m (kv σ.g) := by
 funext h
 cases m with
 | none => rfl
 | some p => obtain ⟨x, y⟩ := p; simp [St.grow, St.setGr, jU, updG]
theorem grow_s (σ : St) (m : Option (Nat × Gr)) : (σ.grow m).s = σ.s := by cases m <;> rfl
theorem grow_b (σ : St) (m : Option (Nat × Gr)) : (σ.grow m).b = σ.b := by cases m <;> rfl
theorem QRun.extract {n : Nat} {l0 : List Oper} {B B0 : List (Nat × List Dt)} {K : St → Prop} : ∀ (l : List Oper) (ix : Nat) (D : List Nat) (L : List (Nat × Nat)) (σ : St), QRun P n l0 B B0 K ix D L l σ →
  ∃ (F : Nat → Dt) (N : Nat → Option (Nat × List Dt)) (U : Nat → Bool) (M : Nat → Option (Nat × Gr)) (σe : St), K σe ∧ kv σe.g = stG M (kv σ.g) l.length ∧ kv σe.s = stS l F (kv σ.s) l.length ∧ kv σe.b = stB N (kv σ.b) l.length ∧
   ∀ i o, l[i]? = some o → jS7 P l0 (ix + i) (kv B) (kv B0) (stS l F (kv σ.s) i) (stB N (kv σ.b) i) (stG M (kv σ.g) i) (stD U N D i) (stL l M L i) o (F i) (N i) (U i) (M i)
 | [], ix, D, L, σ, h => ⟨fun _ => .any, fun _ => none, fun _ => false, fun _ => none, σ, h, rfl, rfl, rfl, fun i o hi => by simp at hi⟩
 | o :: l, ix, D, L, σ, h => by
  have key : ∀ (d : Dt) (nb : Option (Nat × List Dt)) (u : Bool) (m : Option (Nat × Gr)), jS7 P l0 ix (kv B) (kv B0) (kv σ.s) (kv σ.b) (kv σ.g) D L o d nb u m → QRun P n l0 B B0 K (ix + 1) (bif u then nameIn nb D else D) (jV7 m o.dst L) l (((σ.box nb).grow m).put o.dst d) → ∃ (F : Nat → Dt) (N : Nat → Option (Nat × List Dt)) (U : Nat → Bool) (M : Nat → Option (Nat × Gr)) (σe : St), K σe ∧ kv σe.g = stG M (kv σ.g) (o :: l).length ∧ kv σe.s = stS (o :: l) F (kv σ.s) (o :: l).length ∧ kv σe.b = stB N (kv σ.b) (o :: l).length ∧
    ∀ i o', (o :: l)[i]? = some o' → jS7 P l0 (ix + i) (kv B) (kv B0) (stS (o :: l) F (kv σ.s) i) (stB N (kv σ.b) i) (stG M (kv σ.g) i) (stD U N D i) (stL (o :: l) M L i) o' (F i) (N i) (U i) (M i) := by
   intro d nb u m hl hr
   obtain ⟨F, N, U, M, σe, h1, h2, h3, h4, h5⟩ := QRun.extract l _ _ _ _ hr
   have es : kv (((σ.box nb).grow m).put o.dst d).s = fun t => if o.dst = some t then some d else kv σ.s t := by rw [lk_put, grow_s, box_s]
   have eb : kv (((σ.box nb).grow m).put o.dst d).b = updB nb (kv σ.b) := by rw [put_b, grow_b, lk_box]
   have eg : kv (((σ.box nb).grow m).put o.dst d).g = updG m (kv σ.g) := by rw [put_g, lk_grow, box_g]
   refine ⟨fun j => if j = 0 then d else F (j - 1), fun j => if j = 0 then nb else N (j - 1), fun j => if j = 0 then u else U (j - 1), fun j => if j = 0 then m else M (j - 1), σe, h1, ?_, ?_, ?_, fun i o' hi => ?_⟩
   ·rw [List.length_cons, kK3, ← eg]; exact h2
   ·rw [List.length_cons, kM0, ← es]; exact h3
   ·rw [List.length_cons, kL1, ← eb]; exact h4
   ·cases i with
    | zero =>
     simp only [List.getElem?_cons_zero, Option.some.injEq] at hi
     subst hi
     exact hl
    | succ i =>
     have := h5 i o' (by simpa using hi)
     rw [show ix + 1 + i = ix + (i + 1) by omega] at this
     rw [kM0, kL1, kK3, stD_left, stL_left, ← es, ← eb, ← eg]
     simpa using this
  rcases h with ⟨d, nb, hg, hq, hf, hr⟩ | ⟨hg, hr⟩ | ⟨nm, cs, cs', hg, hd, hb, hD, hc, hs, hr⟩ | ⟨g, G, d, t, hg, hd, hcl, hL, hs, hr⟩
  ·exact key d nb false none (.inl ⟨hg, hq, hf, rfl, rfl⟩) hr
  ·exact key (.p (.raw undef)) none false none (.inr (.inl ⟨hg, rfl, rfl, rfl, rfl⟩)) (by simpa [St.box, St.grow, jV7] using hr)
  ·exact key .any (some (nm, cs')) true none (.inr (.inr (.inl ⟨nm, cs, cs', hg, hd, hb, hD, hc, hs, rfl, rfl, rfl, rfl⟩))) (by rw [hd]; exact hr)
  ·exact key d none false (some (g, G)) (.inr (.inr (.inr ⟨g, G, t, hg, hd, hcl, hL, hs, rfl, rfl, rfl⟩))) (by rw [hd] at hr ⊢; exact hr)
theorem jM6 {ops : Array Oper} {n : Nat} (hok : jH9 ops n) {F : Nat → Dt} {S : Nat → Option Dt} {j : Nat} {oj : Oper} {t : Tmp} (hj : ops[j]? = some oj) (ht : oj.dst = some t) : ∀ i, j < i → stS ops.toList F S i t = some (F j)
 | 0, h => by omega
 | i + 1, h => by
  by_cases hji : j = i
  ·subst hji
   simp [stS, hj, ht]
  ·simp only [stS]
   rw [if_neg, jM6 hok hj ht i (by omega)]
   intro he
   rcases ho : ops[i]? with _ | oi
   ·simp [ho] at he
   ·exact hok.ne j i oj oi t hj ho hji ht (by simpa [ho] using he)
theorem jJ9 {ops : Array Oper} {F : Nat → Dt} {S : Nat → Option Dt} {t : Tmp} : ∀ i, (∀ j oj, j < i → ops[j]? = some oj → oj.dst ≠ some t) → stS ops.toList F S i t = S t
 | 0, _ => rfl
 | i + 1, h => by
  simp only [stS]
  rw [if_neg, jJ9 i fun j oj hj => h j oj (by omega)]
  intro he
  rcases ho : ops[i]? with _ | oi
  ·simp [ho] at he
  ·exact h i oi (by omega) ho (by simpa [ho] using he)
theorem jC8 {N : Nat → Option (Nat × List Dt)} {B : Nat → Option (List Dt)} {b : Nat} : ∀ i, stB N B i b = none → B b = none ∧ ∀ j p, j < i → N j = some p → p.1 ≠ b
 | 0, h => ⟨h, fun j p hj => by omega⟩
 | i + 1, h => by
  simp only [stB, updB] at h
  have step : stB N B i b = none ∧ ∀ p, N i = some p → p.1 ≠ b := by
   split at h
   ·rename_i p hp
    split at h
    ·cases h
    ·rename_i hne; exact ⟨h, fun q hq => by rw [hp] at hq; cases hq; exact hne⟩
   ·rename_i hp; exact ⟨h, fun q hq => by rw [hp] at hq; cases hq⟩
  obtain ⟨h1, h2⟩ := jC8 i step.1
  refine ⟨h1, fun j p hj hp => ?_⟩
  by_cases e : j = i
  ·subst e; exact step.2 p hp
  ·exact h2 j p (by omega) hp
theorem jZ0 {N : Nat → Option (Nat × List Dt)} {B : Nat → Option (List Dt)} {b : Nat} {cs : List Dt} : ∀ i, stB N B i b = some cs → (B b = some cs ∧ ∀ j p, j < i → N j = some p → p.1 ≠ b) ∨ ∃ j, j < i ∧ N j = some (b, cs) ∧ ∀ k p, j < k → k < i → N k = some p → p.1 ≠ b
 | 0, h => .inl ⟨h, fun j p hj => by omega⟩
 | i + 1, h => by
  simp only [stB, updB] at h
  have ext : (∀ p, N i = some p → p.1 ≠ b) → stB N B i b = some cs → (B b = some cs ∧ ∀ j p, j < i + 1 → N j = some p → p.1 ≠ b) ∨ ∃ j, j < i + 1 ∧ N j = some (b, cs) ∧ ∀ k p, j < k → k < i + 1 → N k = some p → p.1 ≠ b := by
   intro hn h
   rcases jZ0 i h with ⟨h1, h2⟩ | ⟨j, hj, hq, h2⟩
   ·refine .inl ⟨h1, fun j p hj hp => ?_⟩
    by_cases e : j = i
    ·subst e; exact hn p hp
    ·exact h2 j p (by omega) hp
   ·refine .inr ⟨j, by omega, hq, fun k p hk hki hp => ?_⟩
    by_cases e : k = i
    ·subst e; exact hn p hp
    ·exact h2 k p hk (by omega) hp
  split at h
  ·rename_i p hp
   split at h
   ·rename_i he
    cases h
    refine .inr ⟨i, by omega, by rw [hp, ← he], fun k p hk hki => by omega⟩
   ·rename_i hne
    exact ext (fun q hq => by rw [hp] at hq; cases hq; exact hne) h
  ·rename_i hp
   exact ext (fun q hq => by rw [hp] at hq; cases hq) h
theorem stD_mem {U : Nat → Bool} {N : Nat → Option (Nat × List Dt)} {D : List Nat} : ∀ {i j : Nat} {p : Nat × List Dt}, j < i → U j = true → N j = some p → p.1 ∈ stD U N D i
 | 0, j, p, h, _, _ => by omega
 | i + 1, j, p, h, hu, hp => by
  by_cases e : j = i
  ·subst e
   simp [stD, hu, hp, nameIn]
  ·have := stD_mem (D := D) (i := i) (j := j) (p := p) (by omega) hu hp
   rw [stD]
   cases U i
   ·exact this
   ·cases N i with
    | none => exact this
    | some q => exact List.mem_cons_of_mem _ this
theorem jR2 {M : Nat → Option (Nat × Gr)} {G : Nat → Option Gr} {h : Nat} : ∀ i, (stG M G i h = G h ∧ ∀ j p, j < i → M j = some p → p.1 ≠ h) ∨ ∃ j Gj, j < i ∧ M j = some (h, Gj) ∧ stG M G i h = some Gj ∧ ∀ k p, j < k → k < i → M k = some p → p.1 ≠ h
 | 0 => .inl ⟨rfl, fun j p hj => by omega⟩
 | i + 1 => by
  have ext : (∀ p, M i = some p → p.1 ≠ h) → stG M G (i + 1) h = stG M G i h := by
   intro hn
   simp only [stG, updG]
   cases hm : M i with
   | none => rfl
   | some p => simp only; rw [if_neg (hn p hm)]
  by_cases hn : ∀ p, M i = some p → p.1 ≠ h
  ·rw [ext hn]
   rcases jR2 (M := M) (G := G) (h := h) i with ⟨h1, h2⟩ | ⟨j, Gj, hj, hm, hs, h2⟩
   ·refine .inl ⟨h1, fun j p hj hp => ?_⟩
    by_cases e : j = i
    ·subst e; exact hn p hp
    ·exact h2 j p (by omega) hp
   ·refine .inr ⟨j, Gj, by omega, hm, hs, fun k p hk hki hp => ?_⟩
    by_cases e : k = i
    ·subst e; exact hn p hp
    ·exact h2 k p hk (by omega) hp
  ·obtain ⟨p, hp, he⟩ : ∃ p, M i = some p ∧ p.1 = h := by
    refine Classical.byContradiction fun hc => hn fun p hp he => hc ⟨p, hp, he⟩
   refine .inr ⟨i, p.2, by omega, by rw [hp, ← he], by simp [stG, updG, hp, he], fun k p hk hki => by omega⟩
theorem stL_last {l : List Oper} {M : Nat → Option (Nat × Gr)} {h : Nat} : ∀ {i j : Nat} {p : Nat × Gr} {t : Nat}, j < i → M j = some p → p.1 = h → (l[j]?).bind (·.dst) = some t → (∀ k q, j < k → k < i → M k = some q → q.1 ≠ h) → kv (stL l M [] i) h = some t
 | 0, j, p, t, hj, _, _, _, _ => by omega
 | i + 1, j, p, t, hj, hp, hh, ht, hn => by
  by_cases e : j = i
  ·subst e
   simp [stL, jV7, hp, ht, jU, hh]
  ·have ih := stL_last (l := l) (M := M) (h := h) (i := i) (j := j) (p := p) (t := t) (by omega) hp hh ht (fun k q hk hki hq => hn k q hk (by omega) hq)
   simp only [stL]
   cases hm : M i with
   | none => simpa [jV7] using ih
   | some q =>
    have hne := hn i q (by omega) (by omega) hm
    cases hd : (l[i]?).bind (·.dst) with
    | none => simpa [jV7] using ih
    | some u => simp only [jV7, jU]; rw [if_neg hne]; exact ih
structure AInv (Γ : Ctx) (σ : St) (ops : Array Oper) (F : Nat → Dt) (N : Nat → Option (Nat × List Dt)) (U : Nat → Bool) (M : Nat → Option (Nat × Gr)) (a0 : Act) (listed : Array Bool) (e : Env) (a : Act) : Prop where
 lsize : listed.size = ops.size
 size : a.tmps.size = Γ.n
 df : a.defers = Γ.dfs
 closed : ∀ (i : Nat) (o : Oper), ops[i]? = some o → listed.getD i false = true → ∀ x ∈ o.after, Region.binds .any x = true → listed.getD x.on false = true
 knows : ∀ (i : Nat) (o : Oper) (t : Tmp), ops[i]? = some o → listed.getD i false = true → o.dst = some t → DRep e (uI a t) (F i)
 kept : ∀ t, (∀ (i : Nat) (o : Oper), ops[i]? = some o → listed.getD i false = true → o.dst ≠ some t) → uI a t = uI a0 t
 slots : ∀ t d, kv σ.s t = some d → DRep e (uI a0 t) d
 boxes : ∀ b cs, kv σ.b b = some cs → (∀ i p, listed.getD i false = true → N i = some p → p.1 ≠ b) → BoxAt e b cs
 news : ∀ i p, listed.getD i false = true → N i = some p → (∀ k q, i < k → listed.getD k false = true → N k = some q → q.1 ≠ p.1) → BoxAt e p.1 p.2
 nobox : ∀ b, kv σ.b b = none → (∀ i p, listed.getD i false = true → U i = false → N i = some p → p.1 ≠ b) → e.bx b = none
 gs : ∀ g, (∀ i p, listed.getD i false = true → M i = some p → p.1 ≠ g) → e.gi g = kv σ.g g
 gw : ∀ i p, listed.getD i false = true → M i = some p → (∀ k q, i < k → listed.getD k false = true → M k = some q → q.1 ≠ p.1) → e.gi p.1 = some p.2
 env : EnvOk Γ e
theorem QPost.ends {e e' : Env} {v : Value} {d : Dt} {nb : Option (Nat × List Dt)} (h : QPost e e' v d nb) (hf : ∀ p, nb = some p → e.bx p.1 = none) : Ends e e' := by
 cases nb with
 | none => exact h.1.ends
 | some p =>
  obtain ⟨e1, k, hg, h1, h2, h3, rfl, h5, h6⟩ := h
  exact hg.ends.trans (yS (by rw [hg.bx]; exact hf _ rfl))
theorem QPost.rep {e e' : Env} {v : Value} {d : Dt} {nb : Option (Nat × List Dt)} (h : QPost e e' v d nb) : DRep e' v d := by
 cases nb with
 | none => exact h.2
 | some p => obtain ⟨e1, k, hg, h1, h2, h3, rfl, h5, h6⟩ := h; exact h6
theorem QPost.box {e e' : Env} {v : Value} {d : Dt} {nb : Option (Nat × List Dt)} (h : QPost e e' v d nb) (hf : ∀ p, nb = some p → e.bx p.1 = none) {b : Nat} {cs : List Dt} (hb : BoxAt e b cs) : BoxAt e' b cs := by
 cases nb with
 | none => exact h.1.box hb
 | some p =>
  obtain ⟨e1, k, hg, h1, h2, h3, rfl, h5, h6⟩ := h
  exact (hg.box hb).ends (yS (by rw [hg.bx]; exact hf _ rfl)) rfl
theorem QPost.conc {e e' : Env} {v : Value} {d : Dt} {nb : Option (Nat × List Dt)} (h : QPost e e' v d nb) (hok : EnvOk Γ e) (hf : ∀ p, nb = some p → e.bx p.1 = none) : EnvOk Γ e' ∧ (∀ g, e'.gi g = e.gi g) ∧ (∀ b, (∀ p, nb = some p → p.1 ≠ b) → e'.bx b = e.bx b) := by
 cases nb with
 | none => exact ⟨h.1.ok hok, fun g => by rw [h.1.gi], fun b _ => by rw [h.1.bx]⟩
 | some p =>
  obtain ⟨e1, k, hg, h1, h2, h3, rfl, h5, h6⟩ := h
  have hok1 := hg.ok hok
  have hgr : e1.gr k = none := by
   rw [hg.gr]
   rcases hgk : e.gr k with _ | g
   ·rfl
   ·obtain ⟨_, _, _, hlt, _⟩ := hok.gr k g hgk; omega
  have hfree : ∀ c, e1.bx c ≠ some k := fun c hck => by
   rw [hg.bx] at hck
   have := (hok.bx c k hck).1
   omega
  refine ⟨⟨hok1.kept, hok1.cl, fun c j hj => ?_, fun c c' j h4 h5' => ?_, hok1.gr, fun c j hj => (yS (by rw [hg.bx]; exact hf p rfl)).bx c j (hok1.kb c j hj)⟩, fun g => by show e1.gi g = _; rw [hg.gi], fun b hb => ?_⟩
  ·have hj' : (if c = p.1 then some k else e1.bx c) = some j := hj
   split at hj'
   ·cases hj'; exact ⟨h2, .inl (Nat.le_trans hok.kept.size h1), h3, hgr⟩
   ·exact hok1.bx c j hj'
  ·have h1' : (if c = p.1 then some k else e1.bx c) = some j := h4
   have h2' : (if c' = p.1 then some k else e1.bx c') = some j := h5'
   by_cases e1' : c = p.1 <;> by_cases e2 : c' = p.1
   ·rw [e1', e2]
   ·rw [if_pos e1'] at h1'; rw [if_neg e2] at h2'; cases h1'; exact absurd h2' (hfree c')
   ·rw [if_neg e1'] at h1'; rw [if_pos e2] at h2'; cases h2'; exact absurd h1' (hfree c)
   ·rw [if_neg e1'] at h1'; rw [if_neg e2] at h2'; exact hok1.inj c c' j h1' h2'
  ·show (if b = p.1 then some k else e1.bx b) = _
   rw [if_neg (fun e' => hb p rfl e'.symm), hg.bx]
theorem AInv.next {σ : St} {ops : Array Oper} (hok : jH9 ops Γ.n) {F : Nat → Dt} {N : Nat → Option (Nat × List Dt)} {U : Nat → Bool} {M : Nat → Option (Nat × Gr)} {a0 : Act} {listed : Array Bool} {e e' : Env} {a : Act} (h : AInv Γ σ ops F N U M a0 listed e a)
  {i : Nat} {o : Oper} (hi : ops[i]? = some o) (hr : i ∈ Region.ready .any ops listed) {v : Value} (hq : QPost e e' v (F i) (N i)) (hf : ∀ p, N i = some p → e.bx p.1 = none) (hu : U i = false) (hM : M i = none) :
  AInv Γ σ ops F N U M a0 (listed.setIfInBounds i true) e' (a.put o.dst v) := by
 obtain ⟨hun, o', ho', hall⟩ := mem_ready.1 hr
 rw [hi] at ho'
 cases ho'
 obtain ⟨hun', hil⟩ := kI hun
 have hE := hq.ends hf
 obtain ⟨c1, c2, c3⟩ := hq.conc h.env hf
 have split : ∀ j, (listed.setIfInBounds i true).getD j false = true → j = i ∨ listed.getD j false = true := fun j hj => by
  by_cases e : i = j
  ·exact .inl e.symm
  ·rw [getD_set_ne false e] at hj; exact .inr hj
 have hself : (listed.setIfInBounds i true).getD i false = true := by simp [hil]
 refine ⟨by simpa using h.lsize, by rw [jP1]; exact h.size, by rw [jH8]; exact h.df, fun j oj hj hl x hx hb' => ?_, fun j oj t hj hl ht => ?_, fun t ht => ?_, fun t d ht => (h.slots t d ht).next hE, fun b cs hb hn => hq.box hf (h.boxes b cs hb fun j p hl hp => hn j p (getD_set_true hl) hp), fun j p hl hp hn => ?_, fun b hb hn => ?_, fun g hn => by rw [c2]; exact h.gs g fun j p hl hp => hn j p (getD_set_true hl) hp, fun j p hl hp hn => ?_, c1⟩
 ·rcases split j hl with rfl | hl'
  ·rw [hi] at hj; cases hj; exact getD_set_true (hall x hx hb')
  ·exact getD_set_true (h.closed j oj hj hl' x hx hb')
 ·rcases split j hl with rfl | hl'
  ·rw [hi] at hj; cases hj
   rw [ht, uV (by rw [h.size]; exact hok.lt _ _ _ hi ht)]
   exact hq.rep
  ·have hne : j ≠ i := fun e => by subst e; rw [hun'] at hl'; cases hl'
   rw [yE (fun e => hok.ne j i oj o t hj hi hne ht e)]
   exact (h.knows j oj t hj hl' ht).next hE
 ·rw [yE (ht i o hi hself)]
  exact h.kept t fun j oj hj hl => ht j oj hj (getD_set_true hl)
 ·rcases split j hl with rfl | hl'
  ·rw [hp] at hq
   obtain ⟨e1, k, hg, h1, h2, h3, rfl, h5, h6⟩ := hq
   exact h5
  ·exact hq.box hf (h.news j p hl' hp fun k q hk hl2 hq2 => hn k q hk (getD_set_true hl2) hq2)
 ·rw [c3 b (fun p hp => hn i p hself hu hp)]
  exact h.nobox b hb fun j p hl hu' hp => hn j p (getD_set_true hl) hu' hp
 ·rw [c2]
  rcases split j hl with rfl | hl'
  ·rw [hM] at hp; cases hp
  ·exact h.gw j p hl' hp fun k q hk hl2 hq2 => hn k q hk (getD_set_true hl2) hq2
theorem AInv.nextU {σ : St} {ops : Array Oper} {F : Nat → Dt} {N : Nat → Option (Nat × List Dt)} {U : Nat → Bool} {M : Nat → Option (Nat × Gr)} {a0 : Act} {listed : Array Bool} {e e' : Env} {a : Act} (h : AInv Γ σ ops F N U M a0 listed e a)
  {i : Nat} {o : Oper} (hi : ops[i]? = some o) (hd : o.dst = none) (hr : i ∈ Region.ready .any ops listed) {nm : Nat} {cs' : List Dt} (hN : N i = some (nm, cs')) (hM : M i = none) (hone : ∀ j p, listed.getD j false = true → i < j → N j = some p → p.1 ≠ nm) (hu : UPost Γ e e' nm cs') :
  AInv Γ σ ops F N U M a0 (listed.setIfInBounds i true) e' a := by
 obtain ⟨hun, o', ho', hall⟩ := mem_ready.1 hr
 rw [hi] at ho'
 cases ho'
 obtain ⟨hun', hil⟩ := kI hun
 have split : ∀ j, (listed.setIfInBounds i true).getD j false = true → j = i ∨ listed.getD j false = true := fun j hj => by
  by_cases e : i = j
  ·exact .inl e.symm
  ·rw [getD_set_ne false e] at hj; exact .inr hj
 have hself : (listed.setIfInBounds i true).getD i false = true := by simp [hil]
 refine ⟨by simpa using h.lsize, h.size, h.df, fun j oj hj hl x hx hb' => ?_, fun j oj t hj hl ht => ?_, fun t ht => ?_, fun t d ht => (h.slots t d ht).next hu.ends, fun b cs hb hn => ?_, fun j p hl hp hn => ?_, fun b hb hn => ?_, fun g hn => by rw [hu.gi]; exact h.gs g fun j p hl hp => hn j p (getD_set_true hl) hp, fun j p hl hp hn => ?_, hu.ok⟩
 ·rcases split j hl with rfl | hl'
  ·rw [hi] at hj; cases hj; exact getD_set_true (hall x hx hb')
  ·exact getD_set_true (h.closed j oj hj hl' x hx hb')
 ·rcases split j hl with rfl | hl'
  ·rw [hi] at hj; cases hj; rw [hd] at ht; cases ht
  ·exact (h.knows j oj t hj hl' ht).next hu.ends
 ·exact h.kept t fun j oj hj hl => ht j oj hj (getD_set_true hl)
 ·exact hu.other b cs (fun e' => hn i _ hself hN e'.symm) (h.boxes b cs hb fun j p hl hp => hn j p (getD_set_true hl) hp)
 ·rcases split j hl with rfl | hl'
  ·rw [hN] at hp; cases hp; exact hu.at_
  ·have hji : j ≠ i := fun e => by subst e; rw [hun'] at hl'; cases hl'
   have hne : p.1 ≠ nm := by
    rcases Nat.lt_or_ge j i with h1 | h1
    ·exact fun e' => hn i _ h1 hself hN e'.symm
    ·exact hone j p hl' (by omega) hp
   exact hu.other p.1 p.2 hne (h.news j p hl' hp fun k q hk hl2 hq2 => hn k q hk (getD_set_true hl2) hq2)
 ·rw [hu.bx]
  exact h.nobox b hb fun j p hl hu' hp => hn j p (getD_set_true hl) hu' hp
 ·rw [hu.gi]
  rcases split j hl with rfl | hl'
  ·rw [hM] at hp; cases hp
  ·exact h.gw j p hl' hp fun k q hk hl2 hq2 => hn k q hk (getD_set_true hl2) hq2
theorem AInv.nextG {σ : St} {ops : Array Oper} (hok : jH9 ops Γ.n) {F : Nat → Dt} {N : Nat → Option (Nat × List Dt)} {U : Nat → Bool} {M : Nat → Option (Nat × Gr)} {a0 : Act} {listed : Array Bool} {e e' : Env} {a : Act} (h : AInv Γ σ ops F N U M a0 listed e a)
  {i : Nat} {o : Oper} (hi : ops[i]? = some o) (hr : i ∈ Region.ready .any ops listed) {g : Nat} {G : Gr} (hN : N i = none) (hM : M i = some (g, G)) (hone : ∀ j p, listed.getD j false = true → i < j → M j = some p → p.1 ≠ g) {v : Value} (hu : GPost Γ e e' g G v (F i)) :
  AInv Γ σ ops F N U M a0 (listed.setIfInBounds i true) e' (a.put o.dst v) := by
 obtain ⟨hun, o', ho', hall⟩ := mem_ready.1 hr
 rw [hi] at ho'
 cases ho'
 obtain ⟨hun', hil⟩ := kI hun
 have split : ∀ j, (listed.setIfInBounds i true).getD j false = true → j = i ∨ listed.getD j false = true := fun j hj => by
  by_cases e : i = j
  ·exact .inl e.symm
  ·rw [getD_set_ne false e] at hj; exact .inr hj
 have hself : (listed.setIfInBounds i true).getD i false = true := by simp [hil]
 refine ⟨by simpa using h.lsize, by rw [jP1]; exact h.size, by rw [jH8]; exact h.df, fun j oj hj hl x hx hb' => ?_, fun j oj t hj hl ht => ?_, fun t ht => ?_, fun t d ht => (h.slots t d ht).next hu.ends, fun b cs hb hn => hu.other b cs (h.boxes b cs hb fun j p hl hp => hn j p (getD_set_true hl) hp), fun j p hl hp hn => ?_, fun b hb hn => ?_, fun h' hn => ?_, fun j p hl hp hn => ?_, hu.ok⟩
 ·rcases split j hl with rfl | hl'
  ·rw [hi] at hj; cases hj; exact getD_set_true (hall x hx hb')
  ·exact getD_set_true (h.closed j oj hj hl' x hx hb')
 ·rcases split j hl with rfl | hl'
  ·rw [hi] at hj; cases hj
   rw [ht, uV (by rw [h.size]; exact hok.lt _ _ _ hi ht)]
   exact hu.rep
  ·have hne : j ≠ i := fun e => by subst e; rw [hun'] at hl'; cases hl'
   rw [yE (fun e => hok.ne j i oj o t hj hi hne ht e)]
   exact (h.knows j oj t hj hl' ht).next hu.ends
 ·rw [yE (ht i o hi hself)]
  exact h.kept t fun j oj hj hl => ht j oj hj (getD_set_true hl)
 ·rcases split j hl with rfl | hl'
  ·rw [hN] at hp; cases hp
  ·exact hu.other p.1 p.2 (h.news j p hl' hp fun k q hk hl2 hq2 => hn k q hk (getD_set_true hl2) hq2)
 ·rw [hu.bx]
  exact h.nobox b hb fun j p hl hu' hp => hn j p (getD_set_true hl) hu' hp
 ·rw [hu.gi, if_neg (fun e' => hn i _ hself hM e'.symm)]
  exact h.gs h' fun j p hl hp => hn j p (getD_set_true hl) hp
 ·rcases split j hl with rfl | hl'
  ·rw [hM] at hp; cases hp; rw [hu.gi]; simp
  ·have hji : j ≠ i := fun e => by subst e; rw [hun'] at hl'; cases hl'
   have hne : p.1 ≠ g := by
    rcases Nat.lt_or_ge j i with h1 | h1
    ·exact fun e' => hn i _ h1 hself hM e'.symm
    ·exact hone j p hl' (by omega) hp
   rw [hu.gi, if_neg hne]
   exact h.gw j p hl' hp fun k q hk hl2 hq2 => hn k q hk (getD_set_true hl2) hq2
theorem AInv.sees {σ : St} {ops : Array Oper} (hok : jH9 ops Γ.n) {F : Nat → Dt} {N : Nat → Option (Nat × List Dt)} {U : Nat → Bool} {M : Nat → Option (Nat × Gr)} {a0 : Act} {listed : Array Bool} {e : Env} {a : Act} (h : AInv Γ σ ops F N U M a0 listed e a)
  {i : Nat} {o : Oper} (hi : ops[i]? = some o) (hr : i ∈ Region.ready .any ops listed) : ∀ t ∈ o.looksAt ops, ∀ d, stS ops.toList F (kv σ.s) i t = some d → DRep e (uI a t) d := by
 obtain ⟨hun, o', ho', hall⟩ := mem_ready.1 hr
 rw [hi] at ho'
 cases ho'
 obtain ⟨hun', hil⟩ := kI hun
 intro t ht d hd
 by_cases hex : ∃ (j : Nat) (oj : Oper), j < i ∧ ops[j]? = some oj ∧ oj.dst = some t
 ·obtain ⟨j, oj, hji, hj, hdst⟩ := hex
  rw [jM6 hok hj hdst i hji] at hd
  cases hd
  rcases hok.dep i j o oj t hi hj (by omega) hdst ht with ⟨_, x, hx, hb, hon⟩ | ⟨h', _⟩
  ·exact h.knows j oj t hj (hon ▸ hall x hx hb) hdst
  ·omega
 ·rw [jJ9 _ fun j oj hji hj hdst => hex ⟨j, oj, hji, hj, hdst⟩] at hd
  rw [h.kept t fun j oj hj hl hdst => ?_]
  ·exact h.slots t d hd
  ·have hji : j ≠ i := fun e => by subst e; rw [hun'] at hl; cases hl
   rcases hok.dep i j o oj t hi hj (Ne.symm hji) hdst ht with ⟨h', _⟩ | ⟨_, x, hx, hb, hon⟩
   ·exact hex ⟨j, oj, h', hj, hdst⟩
   ·have := h.closed j oj hj hl x hx hb
    rw [hon, hun'] at this
    cases this
def yV (ops : Array Oper) : Nat → Nat → Nat → Bool
 | 0, _, _ => false
 | f + 1, t, i => match ops[t]? with
  | some o => o.after.any fun e => Region.binds .any e && (e.on == i || yV ops f e.on i)
  | none => false
def jP9 (ops : Array Oper) (n : Nat) : Bool :=
 (List.range ops.size).all fun t => decide (t < n) || (List.range t).all fun i => match ops[t]? with
  | some o => (o.after.any fun e => Region.binds .any e && e.on == i) || (decide (i < n) && yV ops ops.size t i)
  | none => true
theorem jU9 {ops : Array Oper} {n : Nat} (h : jP9 ops n = true) {t i : Nat} {o : Oper} (ht : ops[t]? = some o) (hn : n ≤ t) (hi : i < t) : (∃ e ∈ o.after, Region.binds .any e = true ∧ e.on = i) ∨ (i < n ∧ yV ops ops.size t i = true) := by
 have htl : t < ops.size := (Array.getElem?_eq_some_iff.1 ht).1
 have h1 := List.all_eq_true.1 h t (List.mem_range.2 htl)
 simp only [Bool.or_eq_true, decide_eq_true_eq] at h1
 have h2 := h1.resolve_left (by omega)
 have h3 := List.all_eq_true.1 h2 i (List.mem_range.2 hi)
 rw [ht] at h3
 simp only [Bool.or_eq_true, Bool.and_eq_true, decide_eq_true_eq] at h3
 rcases h3 with h3 | h3
 ·obtain ⟨e, he, hb⟩ := Array.any_eq_true'.1 h3
  simp only [Bool.and_eq_true, beq_iff_eq] at hb
  exact .inl ⟨e, he, hb⟩
 ·exact .inr h3
theorem uQ {ops : Array Oper} {listed : Array Bool} (hc : ∀ (i : Nat) (o : Oper), ops[i]? = some o → listed.getD i false = true → ∀ x ∈ o.after, Region.binds .any x = true → listed.getD x.on false = true) : ∀ (f t i : Nat) (o : Oper), ops[t]? = some o → (∀ x ∈ o.after, Region.binds .any x = true → listed.getD x.on false = true) → yV ops f t i = true → listed.getD i false = true
 | 0, _, _, _, _, _, h => by cases h
 | f + 1, t, i, o, ho, hal, h => by
  simp only [yV, ho] at h
  obtain ⟨e, he, hb⟩ := Array.any_eq_true'.1 h
  simp only [Bool.and_eq_true, Bool.or_eq_true, beq_iff_eq] at hb
  have h1 := hal e he hb.1
  rcases hb.2 with h2 | h2
  ·rw [← h2]; exact h1
  ·cases ho2 : ops[e.on]? with
   | none => cases f <;> simp [yV, ho2] at h2
   | some o2 => exact uQ hc f e.on i o2 ho2 (hc e.on o2 ho2 h1) h2
theorem jK0 {P : Program} {ops : Array Oper} {m n : Nat} (hok : jH9 ops m) (hB : jP9 ops n = true) {Q : Exit → Act → World → Prop} : ∀ (fuel k : Nat) (listed : Array Bool) (a : Act) (w : World), fuel + k = ops.size → n ≤ k → listed.size = ops.size →
  (∀ i, i < k → listed.getD i false = true) → (∀ i, k ≤ i → i < ops.size → listed.getD i true = false) → wpList P ops Q (ops.toList.drop k) a w → wpAny P .any ops Q fuel listed a w
 | 0, k, listed, a, w, hf, hn, hs, hlt, hge, h => by
  have hr : Region.ready .any ops listed = [] := by
   rcases hr : Region.ready .any ops listed with _ | ⟨i, _⟩
   ·rfl
   ·have hm : i ∈ Region.ready .any ops listed := by rw [hr]; simp
    obtain ⟨hun, o, ho, _⟩ := mem_ready.1 hm
    have hi : i < ops.size := (Array.getElem?_eq_some_iff.1 ho).1
    have := hlt i (by omega)
    rw [(kI hun).1] at this
    cases this
  refine ⟨hr, ?_⟩
  rw [List.drop_eq_nil_of_le (by simp; omega)] at h
  exact h
 | fuel + 1, k, listed, a, w, hf, hn, hs, hlt, hge, h => by
  have hkl : k < ops.size := by omega
  have hko : ops[k]? = some ops[k] := by simp [hkl]
  have hkr : k ∈ Region.ready .any ops listed := mem_ready.2 ⟨hge k (Nat.le_refl _) hkl, ops[k], hko, fun e he hb => hlt _ (hok.back k ops[k] hko e he hb)⟩
  refine ⟨(fun h0 => by rw [h0] at hkr; cases hkr), fun i hi => ?_⟩
  obtain ⟨hun, o, ho, hall⟩ := mem_ready.1 hi
  have hil : i < ops.size := (Array.getElem?_eq_some_iff.1 ho).1
  have hik : i = k := by
   rcases Nat.lt_trichotomy i k with h1 | h1 | h1
   ·have := hlt i h1
    rw [(kI hun).1] at this
    cases this
   ·exact h1
   ·rcases jU9 hB ho (by omega) h1 with ⟨e, he, hb, hon⟩ | ⟨h2, _⟩
    ·have h2 := hall e he hb
     rw [hon] at h2
     have h3 := hge k (Nat.le_refl _) hkl
     rw [(kI h3).1] at h2
     cases h2
    ·omega
  subst hik
  rw [hko] at ho
  cases ho
  rw [List.drop_eq_getElem_cons (by simpa using hkl)] at h
  have h' : wpList P ops Q (ops[i] :: ops.toList.drop (i + 1)) a w := by simpa using h
  refine wpOp_mono (fun a' w' hh => ?_) (jZ7 hko h')
  refine jK0 hok hB fuel (i + 1) _ a' w' (by omega) (by omega) (by simpa using hs) (fun j hj => ?_) (fun j hj hjs => ?_) hh
  ·by_cases e : i = j
   ·subst e; simp [hs, hkl]
   ·rw [getD_set_ne false e]; exact hlt j (by omega)
  ·rw [getD_set_ne true (by omega)]; exact hge j (by omega) hjs
def jW5 (ops : Array Oper) (n : Nat) : Bool :=
 (List.range ops.size).all fun t => decide (t < n) || (List.range n).all fun i => match ops[t]? with
  | some o => (o.after.any fun e => Region.binds .any e && e.on == i) || yV ops ops.size t i
  | none => true
theorem behind_spec {ops : Array Oper} {n : Nat} (h : jW5 ops n = true) {t i : Nat} {o : Oper} (ht : ops[t]? = some o) (hn : n ≤ t) (hi : i < n) : (∃ e ∈ o.after, Region.binds .any e = true ∧ e.on = i) ∨ yV ops ops.size t i = true := by
 have htl : t < ops.size := (Array.getElem?_eq_some_iff.1 ht).1
 have h1 := List.all_eq_true.1 h t (List.mem_range.2 htl)
 simp only [Bool.or_eq_true, decide_eq_true_eq] at h1
 have h2 := h1.resolve_left (by omega)
 have h3 := List.all_eq_true.1 h2 i (List.mem_range.2 hi)
 rw [ht] at h3
 simp only [Bool.or_eq_true] at h3
 rcases h3 with h3 | h3
 ·obtain ⟨e, he, hb⟩ := Array.any_eq_true'.1 h3
  simp only [Bool.and_eq_true, beq_iff_eq] at hb
  exact .inl ⟨e, he, hb⟩
 ·exact .inr h3
theorem jF1 {ops : Array Oper} {n : Nat} (h : jP9 ops n = true) : jW5 ops n = true := by
 refine List.all_eq_true.2 fun t ht => ?_
 by_cases hn : t < n
 ·simp [hn]
 ·simp only [Bool.or_eq_true, decide_eq_true_eq]
  refine .inr (List.all_eq_true.2 fun i hi => ?_)
  cases ho : ops[t]? with
  | none => rfl
  | some o =>
   have hin : i < n := List.mem_range.1 hi
   simp only [Bool.or_eq_true]
   rcases jU9 h ho (by omega) (show i < t by omega) with ⟨e, he, h1, h2⟩ | ⟨_, h1⟩
   ·refine .inl (Array.any_eq_true'.2 ⟨e, he, ?_⟩)
    simp [h1, h2]
   ·exact .inr h1
theorem AInv.conc {σ : St} {ops : Array Oper} {H : Nat} (hok : jH9 ops Γ.n) {F : Nat → Dt} {N : Nat → Option (Nat × List Dt)} {U : Nat → Bool} {M : Nat → Option (Nat × Gr)} {a0 : Act} {σe : St} (hse : kv σe.s = stS ops.toList F (kv σ.s) H) (hbe : kv σe.b = stB N (kv σ.b) H) (hge : kv σe.g = stG M (kv σ.g) H)
  {listed : Array Bool} {a : Act} {e : Env} (hinv : AInv Γ σ ops F N U M a0 listed e a) (hall : ∀ i, i < H → listed.getD i false = true) (htl : ∀ t, H ≤ t → t < ops.size → listed.getD t true = false) : Conc Γ σe e a := by
 have hnl : ∀ j, listed.getD j false = true → j < H := fun j hj => by
  rcases Nat.lt_or_ge j H with h' | h'
  ·exact h'
  ·rcases Nat.lt_or_ge j ops.size with h2 | h2
   ·have := htl j h' h2
    rw [(kI this).1] at hj
    cases hj
   ·have h3 : listed[j]? = none := Array.getElem?_eq_none (by rw [hinv.lsize]; exact h2)
    simp [h3] at hj
 refine ⟨hinv.size, hinv.df, fun t d ht => ?_, fun b cs hb => ?_, fun b hb => ?_, fun g => ?_, hinv.env⟩
 ·rw [hse] at ht
  by_cases hex : ∃ (j : Nat) (oj : Oper), j < H ∧ ops[j]? = some oj ∧ oj.dst = some t
  ·obtain ⟨j, oj, hjH, hj, hd⟩ := hex
   rw [jM6 hok hj hd _ hjH] at ht
   cases ht
   exact hinv.knows j oj t hj (hall j hjH) hd
  ·rw [jJ9 _ fun j oj hjH hj hd => hex ⟨j, oj, hjH, hj, hd⟩] at ht
   rw [hinv.kept t fun j oj hj hl hd => hex ⟨j, oj, hnl j hl, hj, hd⟩]
   exact hinv.slots t d ht
 ·rw [hbe] at hb
  rcases jZ0 H hb with ⟨h1, h2⟩ | ⟨j, hj, hp, h2⟩
  ·exact hinv.boxes b cs h1 fun j p hl hp => h2 j p (hnl j hl) hp
  ·exact hinv.news j _ (hall j hj) hp fun k q hk hl hq => h2 k q hk (hnl k hl) hq
 ·rw [hbe] at hb
  obtain ⟨h1, h2⟩ := jC8 H hb
  exact hinv.nobox b h1 fun j p hl _ hp => h2 j p (hnl j hl) hp
 ·rw [hge]
  rcases jR2 (M := M) (G := kv σ.g) (h := g) H with ⟨h1, h2⟩ | ⟨j, Gj, hj, hm, hs, h2⟩
  ·rw [h1]; exact hinv.gs g fun j p hl hp => h2 j p (hnl j hl) hp
  ·rw [hs]; exact hinv.gw j _ (hall j hj) hm fun k q hk hl hq => h2 k q hk (hnl k hl) hq
theorem AInv.wanted {σ : St} {ops : Array Oper} (hok : jH9 ops Γ.n) {F : Nat → Dt} {N : Nat → Option (Nat × List Dt)} {U : Nat → Bool} {M : Nat → Option (Nat × Gr)} {a0 : Act} {listed : Array Bool} {e : Env} {a : Act} (hinv : AInv Γ σ ops F N U M a0 listed e a)
  {i : Nat} {o : Oper} (hi : ops[i]? = some o) (hr : i ∈ Region.ready .any ops listed) {c : Bool} (hc : gd ops.toList o (stS ops.toList F (kv σ.s) i) = some c) : Region.wanted o (yielded ops a.tmps) = c := by
 have hsee := hinv.sees hok hi hr
 unfold gd at hc
 unfold Region.wanted
 split at hc
 ·rename_i hg; rw [hg]; cases hc; rfl
 ·rename_i j want hg
  rw [hg]
  split at hc
  ·rename_i t ht
   split at hc
   ·rename_i b hb
    cases hc
    have h1 : (ops[j]?).bind (·.dst) = some t := by simpa using ht
    have hv := kF (hsee t (jS9 (by simp [guardAt, hg, h1])) _ hb)
    have : yielded ops a.tmps j = some b := by
     rw [jM9, h1]
     unfold uI at hv
     simp only [Option.bind_some, hv, jZ9]
    simp only [this]
    cases b <;> cases want <;> rfl
   ·rename_i b hb
    cases hc
    have h1 : (ops[j]?).bind (·.dst) = some t := by simpa using ht
    have hv := kF (hsee t (jS9 (by simp [guardAt, hg, h1])) _ hb)
    have : yielded ops a.tmps j = none := by
     rw [jM9, h1]
     unfold uI at hv
     simp only [Option.bind_some, hv, jZ9]
    simp only [this]
    cases want <;> rfl
   ·cases hc
  ·cases hc
theorem xU {σ : St} {ops : Array Oper} {H : Nat} (dn sp ok : Nat → Bool) (hok : jH9 ops Γ.n) (hT : jW5 ops H = true) (hH : H ≤ ops.size) {F : Nat → Dt} {N : Nat → Option (Nat × List Dt)} {U : Nat → Bool} {M : Nat → Option (Nat × Gr)} {B : List (Nat × List Dt)} {a0 : Act} {Q : Exit → Act → World → Prop} (hn0 : ∀ i, H ≤ i → N i = none) (hm0 : ∀ i, H ≤ i → M i = none) (hN0 : ∀ i, dn i = true ∨ sp i = true → N i = none) (hM0 : ∀ i, dn i = true ∨ sp i = true → M i = none) (hrd : ∀ i o, ops[i]? = some o → ok i = true ∨ sp i = true ∨ ∃ s, sp s = true ∧ yV ops ops.size i s = true) (hpu : (∀ i, ok i = true → U i = false ∧ M i = none) ∨ ∀ i, ok i = true) (hBs : ∀ b cs, kv B b = some cs → kv σ.b b = some cs)
  (hls : ∀ i o, i < H → ops[i]? = some o → dn i = false → sp i = false → ok i = true → jS7 P ops.toList i (kv B) (kv σ.b) (stS ops.toList F (kv σ.s) i) (stB N (kv σ.b) i) (stG M (kv σ.g) i) (stD U N [] i) (stL ops.toList M [] i) o (F i) (N i) (U i) (M i))
  (hfin : ∀ (listed : Array Bool) (a : Act) (e : Env), AInv Γ σ ops F N U M a0 listed e a → (∀ i, i < H → listed.getD i false = true) → (∀ t, H ≤ t → t < ops.size → listed.getD t true = false) → (∀ s, sp s = true → listed.getD s false = false) → wpAny P .any ops Q (ops.size - H) listed a e.w)
  (hsp : ∀ (fuel : Nat) (listed : Array Bool) (a : Act) (e : Env) (i : Nat), sp i = true → fuel + 1 = yU listed → i ∈ Region.ready .any ops listed → AInv Γ σ ops F N U M a0 listed e a → (∀ t, H ≤ t → t < ops.size → listed.getD t true = false) → (∀ i, dn i = true → listed.getD i false = true) → wpOp P ops Q i (wpAny P .any ops Q fuel (listed.setIfInBounds i true)) a e.w) :
  ∀ (fuel : Nat) (listed : Array Bool) (a : Act) (e : Env), fuel = yU listed → AInv Γ σ ops F N U M a0 listed e a → (∀ t, H ≤ t → t < ops.size → listed.getD t true = false) → (∀ i, dn i = true → listed.getD i false = true) → (∀ i, sp i = true → listed.getD i false = false) → wpAny P .any ops Q fuel listed a e.w := by
 have fin : ∀ (fuel : Nat) (listed : Array Bool) (a : Act) (e : Env), fuel = yU listed → AInv Γ σ ops F N U M a0 listed e a → (∀ t, H ≤ t → t < ops.size → listed.getD t true = false) → (∀ s, sp s = true → listed.getD s false = false) → (∀ i, i < H → listed.getD i false = true) → wpAny P .any ops Q fuel listed a e.w := by
  intro fuel listed a e hfu hinv htl hs0 hall
  have hcnt : yU listed = ops.size - H := by
   have := uD listed.toList H (by simpa [hinv.lsize] using hH) (fun i hi => by
    have h1 := hall i hi
    have hil : i < listed.size := by rw [hinv.lsize]; omega
    simp [hil] at h1 ⊢; exact h1) (fun i hi hl => by
    have hil : i < listed.size := by simpa using hl
    have h1 := htl i hi (by rw [← hinv.lsize]; exact hil)
    simp [hil] at h1 ⊢; exact h1)
   simpa [yU, hinv.lsize] using this
  obtain rfl : fuel = ops.size - H := by omega
  exact hfin listed a e hinv hall htl hs0
 intro fuel
 induction fuel with
 | zero =>
  intro listed a e hfu hinv htl hl0 hs0
  refine fin 0 listed a e hfu hinv htl hs0 fun i hi => ?_
  have h1 := kF0 hfu.symm (i := i)
  have hil : i < listed.size := by rw [hinv.lsize]; omega
  simp [hil] at h1 ⊢; exact h1
 | succ fuel ih =>
  intro listed a e hfu hinv htl hl0 hs0
  by_cases hall : ∀ i, i < H → listed.getD i false = true
  ·exact fin _ listed a e hfu hinv htl hs0 hall
  ·have hex : ∃ i, i < H ∧ listed.getD i false = false := by
    refine Classical.byContradiction fun hne => hall fun i hi => ?_
    rcases hl : listed.getD i false with _ | _
    ·exact absurd ⟨i, hi, hl⟩ hne
    ·rfl
   obtain ⟨m, hmH, hmf⟩ := hex
   refine ⟨fun hr => ?_, fun i hi => ?_⟩
   ·have := exists_ready hok hinv.lsize hr m (by omega)
    rw [hmf] at this; cases this
   ·by_cases hspi : sp i = true
    ·exact hsp fuel listed a e i hspi hfu.symm.symm hi hinv htl hl0
    have hspi : sp i = false := by simpa using hspi
    obtain ⟨hun, o, ho, hal⟩ := mem_ready.1 hi
    obtain ⟨hun', hil⟩ := kI hun
    have hio : i < ops.size := (Array.getElem?_eq_some_iff.1 ho).1
    have hiH : i < H := by
     rcases Nat.lt_or_ge i H with h' | h'
     ·exact h'
     ·rcases behind_spec hT ho h' hmH with ⟨x, hx, hb, hon⟩ | hre
      ·have := hal x hx hb
       rw [hon, hmf] at this; cases this
      ·have := uQ hinv.closed _ _ _ o ho hal hre
       rw [hmf] at this; cases this
    have hoki : ok i = true := by
     rcases hrd i o ho with h | h | ⟨s, h1, h2⟩
     ·exact h
     ·rw [hspi] at h; cases h
     ·have := uQ hinv.closed _ _ _ o ho hal h2
      rw [hs0 s h1] at this; cases this
    have hokl : ∀ j, listed.getD j false = true → j < ops.size → sp j = false ∧ ok j = true := fun j hl hjs => by
     have hsj : sp j = false := by
      rcases h : sp j with _ | _
      ·rfl
      ·rw [hs0 j h] at hl; cases hl
     refine ⟨hsj, ?_⟩
     rcases hrd j ops[j] (by simp [hjs]) with h | h | ⟨s, h1, h2⟩
     ·exact h
     ·rw [hsj] at h; cases h
     ·have := uQ hinv.closed _ _ _ ops[j] (by simp [hjs]) (fun x hx hb => hinv.closed j ops[j] (by simp [hjs]) hl x hx hb) h2
      rw [hs0 s h1] at this; cases this
    have hsee := hinv.sees hok ho hi
    have hfu' : fuel = yU (listed.setIfInBounds i true) := by have := jO3 hun; omega
    have hl0' : ∀ k, dn k = true → (listed.setIfInBounds i true).getD k false = true := fun k hk => getD_set_true (hl0 k hk)
    have hs0' : ∀ k, sp k = true → (listed.setIfInBounds i true).getD k false = false := fun k hk => by
     rw [getD_set_ne false (fun e => by subst e; rw [hspi] at hk; cases hk)]; exact hs0 k hk
    have htl' : ∀ t, H ≤ t → t < ops.size → (listed.setIfInBounds i true).getD t true = false := fun t h1 h2 => by rw [getD_set_ne true (by omega)]; exact htl t h1 h2
    have hgd : ∀ c, gd ops.toList o (stS ops.toList F (kv σ.s) i) = some c → Region.wanted o (yielded ops a.tmps) = c := fun c hc => hinv.wanted hok ho hi hc
    unfold wpOp
    simp only [ho]
    have hvis : ∀ b cs, kv B b = some cs → BoxAt e b cs := fun b cs hb => hinv.boxes b cs (hBs b cs hb) fun j p hl hp e' => by
     have hjo : j < ops.size := by
      rcases Nat.lt_or_ge j ops.size with h' | h'
      ·exact h'
      ·have h3 : listed[j]? = none := Array.getElem?_eq_none (by rw [hinv.lsize]; exact h')
       simp [h3] at hl
     have hjH : j < H := by
      rcases Nat.lt_or_ge j H with h' | h'
      ·exact h'
      ·rw [hn0 j h'] at hp; cases hp
     rcases hls j _ hjH (show ops[j]? = some ops[j] by simp [hjo]) (Bool.eq_false_iff.2 fun h => by rw [hN0 j (.inl h)] at hp; cases hp) (Bool.eq_false_iff.2 fun h => by rw [hN0 j (.inr h)] at hp; cases hp) (hokl j hl hjo).2 with ⟨_, _, hf, _⟩ | ⟨_, _, hnn, _⟩ | ⟨nm, _, _, _, _, hbn, _, _, _, _, hnb, _⟩ | ⟨_, _, _, _, _, _, _, _, hnn, _⟩
     ·have h5 := (hf p hp).2; rw [e', hb] at h5; cases h5
     ·rw [hnn] at hp; cases hp
     ·rw [hnb] at hp; cases hp; simp only at e'; rw [e', hb] at hbn; cases hbn
     ·rw [hnn] at hp; cases hp
    have hvis0 : kC0 ops.toList o = true → ∀ b cs, kv σ.b b = some cs → BoxAt e b cs := fun hea b cs hb => hinv.boxes b cs hb fun j p hl hp e' => by
     have hjo : j < ops.size := by
      rcases Nat.lt_or_ge j ops.size with h' | h'
      ·exact h'
      ·have h3 : listed[j]? = none := Array.getElem?_eq_none (by rw [hinv.lsize]; exact h')
       simp [h3] at hl
     have hjH : j < H := by
      rcases Nat.lt_or_ge j H with h' | h'
      ·exact h'
      ·rw [hn0 j h'] at hp; cases hp
     have hoj : ops[j]? = some ops[j] := by simp [hjo]
     rcases hls j _ hjH hoj (Bool.eq_false_iff.2 fun h => by rw [hN0 j (.inl h)] at hp; cases hp) (Bool.eq_false_iff.2 fun h => by rw [hN0 j (.inr h)] at hp; cases hp) (hokl j hl hjo).2 with ⟨_, _, hf, _⟩ | ⟨_, _, hnn, _⟩ | ⟨nm, _, _, _, hdj, _⟩ | ⟨_, _, _, _, _, _, _, _, hnn, _⟩
     ·have h5 := (jC8 j (hf p hp).1).1; rw [e', hb] at h5; cases h5
     ·rw [hnn] at hp; cases hp
     ·unfold kC0 at hea
      split at hea
      ·cases hea
      ·rename_i t ht
       have h1 := List.all_eq_true.1 hea ops[j] (by simp)
       rw [hdj] at h1
       simp only at h1
       obtain ⟨x, hx, hb'⟩ := Array.any_eq_true'.1 h1
       simp only [Bool.and_eq_true] at hb'
       have hxl := hinv.closed j _ hoj hl x hx hb'.1
       have h2 := hb'.2
       split at h2
       ·rename_i u hu
        have hut := Nat.eq_of_beq_eq_true h2
        subst hut
        cases hox : ops.toList[x.on]? with
        | none => rw [hox] at hu; cases hu
        | some ox =>
         rw [hox] at hu
         have hxi : x.on = i := by
          by_cases he : x.on = i
          ·exact he
          ·exact absurd ht (hok.ne x.on i ox o u (by simpa using hox) ho he hu)
         rw [hxi, hun'] at hxl
         cases hxl
       ·cases h2
     ·rw [hnn] at hp; cases hp
    have hopn : ∀ x ∈ o.op.operands, ∀ d, ev (stS ops.toList F (kv σ.s) i) x = some d → DRep e (a.eval x) d := fun x hx d hd => by
     cases x with
     | tmp t => exact hsee t (List.mem_append_left _ (List.mem_filterMap.2 ⟨.tmp t, by simpa using hx, rfl⟩)) d hd
     | const v => simp only [ev, jC3, Option.some.injEq] at hd; subst hd; exact wX e v
     | global g => cases hd
     | func f =>
      simp only [ev, Option.some.injEq] at hd
      subst hd
      exact .fn (us := []) (vs := []) rfl rfl (fun i v d h => by simp at h) (fun i v d h => by simp at h)
    rcases hls i o hiH ho (Bool.eq_false_iff.2 fun h => by rw [hl0 i h] at hun'; cases hun') hspi hoki with ⟨hg, hqs, hfr, huf, hMi⟩ | ⟨hg, hd, hn, huf, hMi⟩ | ⟨nm, cs, cs', hg, hdst, hbn, hD, hBi, hss, _, hnb, hU, hMi⟩ | ⟨g, G, t, hg, hdst, _, hlook, hgs, hNi, huf, hMi⟩
    ·rw [if_pos (hgd _ hg)]
     have hfree : ∀ p, N i = some p → e.bx p.1 = none := fun p hp => by
      obtain ⟨h1, h2⟩ := jC8 i (hfr p hp).1
      refine hinv.nobox p.1 h1 fun j q hl hu hq' => ?_
      rcases Nat.lt_trichotomy j i with h3 | h3 | h3
      ·exact h2 j q h3 hq'
      ·subst h3; rw [hun'] at hl; cases hl
      ·have hjH : j < H := by
        rcases Nat.lt_or_ge j H with h' | h'
        ·exact h'
        ·rw [hn0 j h'] at hq'; cases hq'
       have hoj : ops[j]? = some ops[j] := by simp [show j < ops.size by omega]
       rcases hls j _ hjH hoj (Bool.eq_false_iff.2 fun h => by rw [hN0 j (.inl h)] at hq'; cases hq') (Bool.eq_false_iff.2 fun h => by rw [hN0 j (.inr h)] at hq'; cases hq') (hokl j hl (by omega)).2 with ⟨_, _, hfj, _⟩ | ⟨_, _, hnj, _⟩ | ⟨_, _, _, _, _, _, _, _, _, _, _, hU, _⟩ | ⟨_, _, _, _, _, _, _, _, hnj, _⟩
       ·exact fun e' => (jC8 j (hfj q hq').1).2 i p h3 hp e'.symm
       ·rw [hnj] at hq'; cases hq'
       ·rw [hu] at hU; cases hU
       ·rw [hnj] at hq'; cases hq'
     have hrun : o.wp P a e.w (fun a' w' => ∃ v e', a' = a.put o.dst v ∧ e'.w = w' ∧ QPost e e' v (F i) (N i)) (fun _ _ _ => False) := by
      rcases hqs with hqs | ⟨hea, hqs⟩
      ·exact hqs a e ⟨hopn, hvis⟩ hfree
      ·exact hqs a e ⟨hopn, hvis0 hea⟩ hfree
     refine .inl (jJ2 hrun fun a' w' hh => ?_)
     obtain ⟨v, e', rfl, rfl, hq'⟩ := hh
     exact ih _ _ e' hfu' (hinv.next hok ho hi hq' hfree huf hMi) htl' hl0' hs0'
    ·rw [if_neg (by rw [hgd _ hg]; simp)]
     exact ih _ _ e hfu' (hinv.next hok ho hi (v := undef) (by rw [hn, hd]; exact ⟨Grow.refl e, .p (.raw undef)⟩) (fun p hp => by rw [hn] at hp; cases hp) huf hMi) htl' hl0' hs0'
    ·rw [if_pos (hgd _ hg)]
     have huniq : ∀ j p, listed.getD j false = true → i < j → N j = some p → p.1 ≠ nm := fun j p hjl hij hp e' => by
      have hjH : j < H := by
       rcases Nat.lt_or_ge j H with h' | h'
       ·exact h'
       ·rw [hn0 j h'] at hp; cases hp
      have hoj : ops[j]? = some ops[j] := by simp [show j < ops.size by omega]
      rcases hls j _ hjH hoj (Bool.eq_false_iff.2 fun h => by rw [hN0 j (.inl h)] at hp; cases hp) (Bool.eq_false_iff.2 fun h => by rw [hN0 j (.inr h)] at hp; cases hp) (hokl j hjl (by omega)).2 with ⟨_, _, hfj, _⟩ | ⟨_, _, hnj, _⟩ | ⟨nm3, _, _, _, _, _, hD3, _, _, _, hnb3, _⟩ | ⟨_, _, _, _, _, _, _, _, hnj, _⟩
      ·exact (jC8 j (hfj p hp).1).2 i _ hij hnb e'.symm
      ·rw [hnj] at hp; cases hp
      ·rw [hnb3] at hp
       cases hp
       simp only at e'
       have := stD_mem (D := []) hij hU hnb
       simp only at this
       rw [← e'] at this
       rcases hD3 with hD3 | hD3
       ·simp at hD3
        exact absurd this hD3
       ·obtain ⟨x, hx, hb, hon⟩ := late_spec hD3 hij (by simpa using ho) hdst
        have := hinv.closed j _ hoj hjl x hx hb
        rw [hon, hun'] at this; cases this
      ·rw [hnj] at hp; cases hp
     have hbox : e.bx nm ≠ none → BoxAt e nm cs := fun hne => by
      have hno : ∀ j p, listed.getD j false = true → ¬ j < i → N j = some p → p.1 ≠ nm := fun j p hl hji hp => by
       rcases Nat.lt_trichotomy j i with h3 | h3 | h3
       ·exact absurd h3 hji
       ·subst h3; rw [hun'] at hl; cases hl
       ·exact huniq j p hl h3 hp
      rcases jZ0 i hBi with ⟨h1, h2⟩ | ⟨j, hji, hj, h2⟩
      ·exact hinv.boxes nm cs h1 fun j p hl hp => by
        by_cases hji : j < i
        ·exact h2 j p hji hp
        ·exact hno j p hl hji hp
      ·have hjH : j < H := by omega
       have hoj : ops[j]? = some ops[j] := by simp [show j < ops.size by omega]
       rcases hls j _ hjH hoj (Bool.eq_false_iff.2 fun h => by rw [hN0 j (.inl h)] at hj; cases hj) (Bool.eq_false_iff.2 fun h => by rw [hN0 j (.inr h)] at hj; cases hj) (hpu.elim (fun h => by rw [(h i hoki).1] at hU; cases hU) fun h => h j) with ⟨_, _, hfj, _⟩ | ⟨_, _, hnj, _⟩ | ⟨nm3, _, _, _, hdj3, _, _, _, _, _, hnb3, hU3, _⟩ | ⟨_, _, _, _, _, _, _, _, hnj, _⟩
       ·obtain ⟨h5, h6⟩ := jC8 j (hfj _ hj).1
        simp only at h5 h6
        have hjl : listed.getD j false = true := by
         rcases hjl : listed.getD j false with _ | _
         ·exfalso
          refine hne (hinv.nobox nm h5 fun k q hk hu hq e' => ?_)
          have hki : k < i := by
           rcases Nat.lt_or_ge k i with h7 | h7
           ·exact h7
           ·exact absurd e' (hno k q hk (by omega) hq)
          rcases Nat.lt_trichotomy k j with h7 | h7 | h7
          ·exact h6 k q h7 hq e'
          ·subst h7; rw [hjl] at hk; cases hk
          ·exact h2 k q h7 hki hq e'
         ·rfl
        exact hinv.news j _ hjl hj fun k q hk hl hq => by
         by_cases hki : k < i
         ·exact h2 k q hk hki hq
         ·exact hno k q hl hki hq
       ·rw [hnj] at hj; cases hj
       ·rw [hnb3] at hj
        cases hj
        have := stD_mem (D := []) hji hU3 hnb3
        rcases hD with hD | hD
        ·simp at hD
         exact absurd this hD
        ·obtain ⟨x, hx, hb, hon⟩ := late_spec hD hji (by simp) hdj3
         have hjl := hal x hx hb
         rw [hon] at hjl
         exact hinv.news j _ hjl hnb3 fun k q hk hl hq => by
          by_cases hki : k < i
          ·exact h2 k q hk hki hq
          ·exact hno k q hl hki hq
       ·rw [hnj] at hj; cases hj
     obtain ⟨_, hwp⟩ := hss Γ a e hinv.env hopn hbox
     refine .inl (jJ2 hwp fun a' w' hh => ?_)
     obtain ⟨rfl, e', rfl, hu⟩ := hh
     have := ih _ _ e' hfu' (hinv.nextU ho hdst hi hnb hMi (fun j p hl hij hp => huniq j p hl hij hp) hu) htl' hl0' hs0'
     rw [hdst]
     exact this
    ·rw [if_pos (hgd _ hg)]
     -- who writes the group: one looks at the other
     have hlt : ∀ j p, M j = some p → j < H := fun j p hp => by
      rcases Nat.lt_or_ge j H with h' | h'
      ·exact h'
      ·rw [hm0 j h'] at hp; cases hp
     have hpre : ∀ k p, M k = some p → p.1 = g → ∀ j q, j < k → M j = some q → q.1 = g → (∀ j' q', j < j' → j' < k → M j' = some q' → q'.1 ≠ g) → ∃ oj tj, ops[j]? = some oj ∧ oj.dst = some tj ∧ ∃ ok, ops[k]? = some ok ∧ tj ∈ ok.looksAt ops := by
      intro k p hk hkg j q hjk hj hjg hbet
      have hkH := hlt k p hk
      have hjH := hlt j q hj
      have hoj : ops[j]? = some ops[j] := by simp [show j < ops.size by omega]
      have hokk : ops[k]? = some ops[k] := by simp [show k < ops.size by omega]
      rcases hls j _ hjH hoj (Bool.eq_false_iff.2 fun h => by rw [hM0 j (.inl h)] at hj; cases hj) (Bool.eq_false_iff.2 fun h => by rw [hM0 j (.inr h)] at hj; cases hj) (hpu.elim (fun h => by rw [(h i hoki).2] at hMi; cases hMi) fun h => h j) with ⟨_, _, _, _, hmj⟩ | ⟨_, _, _, _, hmj⟩ | ⟨_, _, _, _, _, _, _, _, _, _, _, _, hmj⟩ | ⟨g1, G1, t1, _, hd1, _, _, _, _, _, hm1⟩
      ·rw [hmj] at hj; cases hj
      ·rw [hmj] at hj; cases hj
      ·rw [hmj] at hj; cases hj
      rcases hls k _ hkH hokk (Bool.eq_false_iff.2 fun h => by rw [hM0 k (.inl h)] at hk; cases hk) (Bool.eq_false_iff.2 fun h => by rw [hM0 k (.inr h)] at hk; cases hk) (hpu.elim (fun h => by rw [(h i hoki).2] at hMi; cases hMi) fun h => h k) with ⟨_, _, _, _, hmk⟩ | ⟨_, _, _, _, hmk⟩ | ⟨_, _, _, _, _, _, _, _, _, _, _, _, hmk⟩ | ⟨g2, G2, t2, _, _, _, hl2, _, _, _, hm2⟩
      ·rw [hmk] at hk; cases hk
      ·rw [hmk] at hk; cases hk
      ·rw [hmk] at hk; cases hk
      rw [hm2] at hk
      cases hk
      simp only at hkg
      subst hkg
      have hlk : kv (stL ops.toList M [] k) g2 = some t1 := stL_last (l := ops.toList) hjk hj hjg (by simpa [hoj] using hd1) hbet
      unfold kB1 at hl2
      rw [hlk] at hl2
      simp only [List.any_eq_true] at hl2
      obtain ⟨x, hx, hxt⟩ := hl2
      refine ⟨_, t1, hoj, hd1, _, hokk, ?_⟩
      cases x with
      | tmp u =>
       have : u = t1 := Nat.eq_of_beq_eq_true hxt
       subst this
       exact List.mem_append_left _ (List.mem_filterMap.2 ⟨.tmp u, hx, rfl⟩)
      | const v => cases hxt
      | global v => cases hxt
      | func v => cases hxt
     -- whoever wrote it ahead of one that came up has come up
     have hback : ∀ (d k : Nat) p, M k = some p → p.1 = g → listed.getD k false = true → ∀ j q, j + d = k → M j = some q → q.1 = g → listed.getD j false = true := by
      intro d
      induction d using Nat.strongRecOn with
      | ind d ihd =>
       intro k p hk hkg hkl j q hjd hj hjg
       rcases Nat.eq_zero_or_pos d with h0 | h0
       ·have : j = k := by omega
        rw [this]; exact hkl
       ·rcases jR2 (M := M) (G := kv σ.g) (h := g) k with ⟨_, h2⟩ | ⟨j1, G1, hj1, hm1, _, h2⟩
        ·exact absurd hjg (h2 j q (by omega) hj)
        ·have hjle : j ≤ j1 := by
          rcases Nat.lt_or_ge j1 j with h3 | h3
          ·exact absurd hjg (h2 j q h3 (by omega) hj)
          ·exact h3
         obtain ⟨oj, tj, hoj, hdj, ok, hok', hlook'⟩ := hpre k p hk hkg j1 _ hj1 hm1 rfl h2
         have hj1l : listed.getD j1 false = true := by
          rcases hok.dep k j1 ok oj tj hok' hoj (by omega) hdj hlook' with ⟨_, x, hx, hb, hon⟩ | ⟨h4, _⟩
          ·have := hinv.closed k ok hok' hkl x hx hb
           rw [hon] at this; exact this
          ·omega
         exact ihd (j1 - j) (by omega) j1 _ hm1 rfl hj1l j q (by omega) hj hjg
     have huniq : ∀ j p, listed.getD j false = true → i < j → M j = some p → p.1 ≠ g := fun j p hl hij hp e' => by
      have := hback (j - i) j p hp e' hl i _ (by omega) hMi rfl
      rw [hun'] at this; cases this
     have hcur : e.gi g = stG M (kv σ.g) i g := by
      rcases jR2 (M := M) (G := kv σ.g) (h := g) i with ⟨h1, h2⟩ | ⟨j, Gj, hj, hm, hs, h2⟩
      ·rw [h1]
       refine hinv.gs g fun j p hl hp => ?_
       rcases Nat.lt_trichotomy j i with h3 | h3 | h3
       ·exact h2 j p h3 hp
       ·subst h3; rw [hun'] at hl; cases hl
       ·exact huniq j p hl h3 hp
      ·rw [hs]
       obtain ⟨oj, tj, hoj, hdj, ok, hok', hlook'⟩ := hpre i _ hMi rfl j _ hj hm rfl h2
       rw [ho] at hok'
       cases hok'
       have hjl : listed.getD j false = true := by
        rcases hok.dep i j o oj tj ho hoj (by omega) hdj hlook' with ⟨_, x, hx, hb, hon⟩ | ⟨h4, _⟩
        ·have := hal x hx hb
         rw [hon] at this; exact this
        ·omega
       refine hinv.gw j _ hjl hm fun k q hk hl hq => ?_
       rcases Nat.lt_trichotomy k i with h3 | h3 | h3
       ·exact h2 k q hk h3 hq
       ·subst h3; rw [hun'] at hl; cases hl
       ·exact huniq k q hl h3 hq
     refine .inl (jJ2 (hgs Γ a e hinv.env hopn hcur) fun a' w' hh => ?_)
     obtain ⟨v, e', rfl, rfl, hu⟩ := hh
     exact ih _ _ e' hfu' (hinv.nextG hok ho hi hNi hMi huniq hu) htl' hl0' hs0'
theorem jK9 {l l' : List Oper} {F : Nat → Dt} {S : Nat → Option Dt} : ∀ i, (∀ j, j < i → l[j]? = l'[j]?) → stS l F S i = stS l' F S i
 | 0, _ => rfl
 | i + 1, h => by rw [stS, stS, jK9 i fun j hj => h j (by omega), h i (by omega)]
theorem jG0 {N N' : Nat → Option (Nat × List Dt)} {B : Nat → Option (List Dt)} : ∀ i, (∀ j, j < i → N j = N' j) → stB N B i = stB N' B i
 | 0, _ => rfl
 | i + 1, h => by rw [stB, stB, jG0 i fun j hj => h j (by omega), h i (by omega)]
theorem kC4 {U U' : Nat → Bool} {N N' : Nat → Option (Nat × List Dt)} {D : List Nat} : ∀ i, (∀ j, j < i → N j = N' j ∧ U j = U' j) → stD U N D i = stD U' N' D i
 | 0, _ => rfl
 | i + 1, h => by rw [stD, stD, kC4 i fun j hj => h j (by omega), (h i (by omega)).1, (h i (by omega)).2]
theorem jS2 {M M' : Nat → Option (Nat × Gr)} {G : Nat → Option Gr} : ∀ i, (∀ j, j < i → M j = M' j) → stG M G i = stG M' G i
 | 0, _ => rfl
 | i + 1, h => by rw [stG, stG, jS2 i fun j hj => h j (by omega), h i (by omega)]
theorem kA6 {l l' : List Oper} {M M' : Nat → Option (Nat × Gr)} {L : List (Nat × Nat)} : ∀ i, (∀ j, j < i → M j = M' j ∧ l[j]? = l'[j]?) → stL l M L i = stL l' M' L i
 | 0, _ => rfl
 | i + 1, h => by rw [stL, stL, kA6 i fun j hj => h j (by omega), (h i (by omega)).1, (h i (by omega)).2]
def SubBx (B : List (Nat × List Dt)) : List (Nat × List Dt) → Prop
 | [] => True
 | p :: l => kv B p.1 = some p.2 ∧ SubBx B l
theorem SubBx.get {B : List (Nat × List Dt)} : ∀ {l : List (Nat × List Dt)} (_ : SubBx B l) {b : Nat} {cs : List Dt}, kv l b = some cs → kv B b = some cs
 | [], _, _, _, h => by cases h
 | (k, v) :: l, hs, b, cs, h => by
  rw [jU] at h
  split at h
  ·rename_i hk; subst hk; cases h; exact hs.1
  ·exact hs.2.get h
theorem jQ8 {id : Nat} {Q : Exit → St → Prop} {σ : St} (B : List (Nat × List Dt)) (hBs : SubBx σ.b B) (l1 l2 : List Oper) {l : List Oper} (hl : l = l1 ++ l2) (hm : P.follows .mixedOrders = true) (hB : relB l.toArray Γ.n = true) (hT : jP9 l.toArray l1.length = true)
  (h : QRun P Γ.n l B σ.b (zY P Γ l Q l2) 0 [] [] l1 σ) : AWP P Γ (.region id l.toArray true) Q σ := by
 refine ⟨fun a e hc => ?_⟩
 have hok := jZ5 hB
 obtain ⟨F, N, U, M, σe, h1, h2, h3, h4, h5⟩ := QRun.extract l1 0 [] [] σ h
 have hget : ∀ j, j < l1.length → l1[j]? = l[j]? := fun j hj => by rw [hl, List.getElem?_append_left hj]
 have hlen : l1.length ≤ l.toArray.size := by rw [hl]; simp
 have hdrop : l.toArray.toList.drop l1.length = l2 := by rw [hl]; simp
 have hN : ∀ i, i ≤ l1.length → stB N (kv σ.b) i = stB (fun i => if i < l1.length then N i else none) (kv σ.b) i := fun i hi => jG0 i fun j hj => by rw [if_pos (by omega)]
 have hD : ∀ i, i ≤ l1.length → stD U N [] i = stD U (fun i => if i < l1.length then N i else none) [] i := fun i hi => kC4 i fun j hj => ⟨by rw [if_pos (by omega)], rfl⟩
 have hG : ∀ i, i ≤ l1.length → stG M (kv σ.g) i = stG (fun i => if i < l1.length then M i else none) (kv σ.g) i := fun i hi => jS2 i fun j hj => by rw [if_pos (by omega)]
 have hL : ∀ i, i ≤ l1.length → stL l1 M [] i = stL l.toArray.toList (fun i => if i < l1.length then M i else none) [] i := fun i hi => kA6 i fun j hj => ⟨by rw [if_pos (by omega)], by simpa using hget j (by omega)⟩
 have := xU (P := P) (Γ := Γ) (σ := σ) (ops := l.toArray) (H := l1.length) (fun _ => false) (fun _ => false) (fun _ => true) hok (jF1 hT) hlen (F := F) (N := fun i => if i < l1.length then N i else none) (U := U) (M := fun i => if i < l1.length then M i else none) (B := B) (a0 := a) (Q := jE4 Γ Q) (fun i hi => if_neg (by omega)) (fun i hi => if_neg (by omega)) (fun i hi => by simp at hi) (fun i hi => by simp at hi) (fun _ _ _ => .inl rfl) (.inr fun _ => rfl) (fun b cs => hBs.get)
  (fun i o hi ho _ _ _ => by
   have h6 := h5 i o (by rw [hget i hi]; simpa using ho)
   rw [Nat.zero_add] at h6
   rw [hN i (by omega), hD i (by omega), hG i (by omega), hL i (by omega)] at h6
   have e5 : stS l1 F (kv σ.s) i = stS l.toArray.toList F (kv σ.s) i := jK9 i fun j hj => by simpa using hget j (by omega)
   rw [e5] at h6
   simpa [hi] using h6)
  (fun listed b e' hv q2 q3 _ => jK0 hok hT _ _ listed b e'.w (by omega) (Nat.le_refl _) hv.lsize q2 q3 (by rw [hdrop]; exact h1.run b e' (hv.conc hok (σe := σe) (by rw [h3]; exact jK9 _ fun j hj => by simpa using hget j hj) (by rw [h4]; exact hN _ (Nat.le_refl _)) (by rw [h2]; exact hG _ (Nat.le_refl _)) q2 q3))) (fun _ _ _ _ _ h => by cases h)
  l.toArray.size (Array.replicate l.toArray.size false) a { e with w := e.w.drew } (uK _).symm
  ?_ (fun t _ ht => by have ht' : t < l.length := by simpa using ht
                       simp [ht']) (fun i hi => by cases hi) (fun i hi => by cases hi)
 ·exact wp_region_any hm this
 ·have hg : Grow e { e with w := e.w.drew } := ⟨(Below.refl _ _).drew, fun _ _ => rfl, rfl, rfl, rfl⟩
  have hc' := hc.grow hg
  refine ⟨by simp, hc.size, hc.df, fun i o _ hl => ?_, fun i o t _ hl => ?_, fun t _ => rfl, hc'.slots, fun b cs hb _ => hc'.boxes b cs hb, fun i p hl => ?_, fun b hb _ => hc'.nobox b hb, fun g _ => hc'.gs g, fun i p hl => ?_, hc'.env⟩
  all_goals (simp [Array.getElem?_replicate] at hl; split at hl <;> simp at hl)
end
end Go.Proofs.YtkkldicehapklaaGreat
end
section
/- Small steps for walking, and further operations: composite literals, parts of slices. -/
namespace Go.Proofs.YtkkldicehapklaaGreat
open Go.RowKit
section
variable {P : Program} {T : Nat → Option TI} {Γ : Ctx} {σ σ' : St} {Q : Exit → St → Prop} {K : St → Prop}
theorem vJ (h : K σ) : jR0 K Q .normal σ := h
theorem q_block_exit {id : Nat} (h : Q .normal σ) : jD4 id Q (.exit id) σ := by simp only [jD4, if_true]; exact h
theorem kM9 {id id' : Nat} (hne : (id' == id) = false) (h : Q (.exit id') σ) : jD4 id Q (.exit id') σ := by
 have : id' ≠ id := by simpa using hne
 simp only [jD4, if_neg this]; exact h
def CK (t : Bool) (X Y : Prop) : Prop := (t = true → X) ∧ (t = false → Y)
theorem awp_ck {x y : Code} {z : Operand} {t : Bool} (hz : ev (kv σ.s) z = some (.p (.raw (.bool t)))) (h : CK t (AWP P Γ x Q σ) (AWP P Γ y Q σ)) : AWP P Γ (.cond z x y) Q σ := awp_cond hz h.1 h.2
section
variable {X Y : Prop}
theorem ck_t (h : X) : CK true X Y := ⟨fun _ => h, fun h' => by cases h'⟩
theorem ck_f (h : Y) : CK false X Y := ⟨fun h' => (by cases h'), fun _ => h⟩
theorem xQ {t : Bool} (ht : t = true → X) (hf : t = false → Y) : CK t X Y := ⟨ht, hf⟩
end
def Fin (T : Nat → Option TI) (rs : List ResultVar) (d : Dt) : Exit → St → Prop := fun ex σ => (ex = .normal ∨ ex = .ret) ∧ resD T σ rs = some d
theorem jF {rs : List ResultVar} {d d' : Dt} (h : resD T σ rs = some d') (hd : d' = d) : Fin T rs d .ret σ := ⟨.inr rfl, by rw [h, hd]⟩
theorem jC {rs : List ResultVar} {d d' : Dt} (h : resD T σ rs = some d') (hd : d' = d) : Fin T rs d .normal σ := ⟨.inl rfl, by rw [h, hd]⟩
def jW8 {α : Type} : Nat → List Dt → (List (Nat × Dt) → Option α) → Option α
 | _, [], k => k []
 | n, d :: ds, k => jW8 (n + 1) ds fun r => k ((n, d) :: r)
theorem jL8 {α : Type} : ∀ (n : Nat) (ds : List Dt) (k : List (Nat × Dt) → Option α), jW8 n ds k = k (enum.go n ds)
 | _, [], _ => rfl
 | n, d :: ds, k => by rw [jW8, jL8 (n + 1) ds]; rfl
theorem jO (hT : kU P T) {f : FuncId} {fn : Func} {c : Code} {ds : List Dt} {d : Dt} {rs : List ResultVar} {n : Nat} {s : List (Nat × Dt)} (hf : P.funcs[f]? = some fn) (hb : fn.body = some c) (hnn : fn.ntmps = n) (hrs : fn.results.toList = rs) (hn : Nat.ble ds.length n = true) (hs : jW8 0 ds some = some s)
  (h : ∀ w cl, AWP P ⟨n, w, cl, fun _ => False, [], []⟩ c (Fin T rs d) ⟨s, [], []⟩) : kA P f ds d := by
 subst hnn
 subst hrs
 rw [jL8] at hs
 cases hs
 exact pure_of_awp hT hf hb (Nat.le_of_ble_eq_true hn) h
section
variable {o : Oper} {l0 l : List Oper} {s : List (Nat × Dt)} {b : List (Nat × List Dt)} {g : List (Nat × Gr)} {t : Nat} {d : Dt}
theorem jC5 {n : Nat} (hd : o.dst = some t) (hl : Nat.blt t n = true) : dstLt n o.dst = true := by rw [hd]; exact hl
theorem a_q (hq : QStep P o (kv s) (kv b) d none) (hg : gd l0 o (kv s) = some true) (hd : o.dst = some t) (hl : Nat.blt t Γ.n = true) (h : zY P Γ l0 Q l ⟨(t, d) :: s, b, g⟩) : zY P Γ l0 Q (o :: l) ⟨s, b, g⟩ :=
 aops_q (σ := ⟨s, b, g⟩) hq hg (jC5 hd hl) (fun p hp => by cases hp) (by rw [hd]; exact h)
theorem a_b {nm : Nat} {cs : List Dt} (hq : QStep P o (kv s) (kv b) d (some (nm, cs))) (hg : gd l0 o (kv s) = some true) (hd : o.dst = some t) (hl : Nat.blt t Γ.n = true) (hf : kv b nm = none) (h : zY P Γ l0 Q l ⟨(t, d) :: s, (nm, cs) :: b, g⟩) : zY P Γ l0 Q (o :: l) ⟨s, b, g⟩ :=
 aops_q (σ := ⟨s, b, g⟩) hq hg (jC5 hd hl) (fun p hp => by cases hp; exact hf) (by rw [hd]; exact h)
def jY1 {α : Type} : Nat → List (Nat × List Dt) → (Nat → Option α) → Option α
 | n, [], k => k n
 | n, _ :: l, k => jY1 (n + 1) l k
theorem a_box {nm : Nat} {ty : TypeId} {x : Operand} {dx : Dt} {cs : List Dt} (ho : o.op = .box ty x) (_hnm : jY1 0 b some = some nm) (hx : ev (kv s) x = some dx) (hk : yR dx = true) (hcs : wB dx some = some cs) (hg : gd l0 o (kv s) = some true) (hd : o.dst = some t) (hl : Nat.blt t Γ.n = true) (hf : kv b nm = none) (h : zY P Γ l0 Q l ⟨(t, .ptr nm 0) :: s, (nm, cs) :: b, g⟩) : zY P Γ l0 Q (o :: l) ⟨s, b, g⟩ :=
 a_b (qP nm ho hx hk hcs) hg hd hl hf h
theorem a_new (hT : kU P T) {nm : Nat} {ty : TypeId} {i : TI} {cs : List Dt} (ho : o.op = .alloc ty) (_hnm : jY1 0 b some = some nm) (ht : T ty = some i) (hk : yR (uM i.zero) = true) (hcs : jH4 i.zero (fun d => wB d some) = some cs) (hg : gd l0 o (kv s) = some true) (hd : o.dst = some t) (hl : Nat.blt t Γ.n = true) (hf : kv b nm = none) (h : zY P Γ l0 Q l ⟨(t, .ptr nm 0) :: s, (nm, cs) :: b, g⟩) : zY P Γ l0 Q (o :: l) ⟨s, b, g⟩ :=
 a_b (jL hT nm ho ht hk hcs) hg hd hl hf h
theorem a_ax (hT : kU P T) (hq : ax T (kv s) (kv b) o.op = some d) (hg : gd l0 o (kv s) = some true) (hd : o.dst = some t) (hl : Nat.blt t Γ.n = true) (h : zY P Γ l0 Q l ⟨(t, d) :: s, b, g⟩) : zY P Γ l0 Q (o :: l) ⟨s, b, g⟩ := a_q (jE2 hT hq) hg hd hl h
theorem a_skip (hg : gd l0 o (kv s) = some false) (hd : o.dst = some t) (hl : Nat.blt t Γ.n = true) (h : zY P Γ l0 Q l ⟨(t, .p (.raw undef)) :: s, b, g⟩) : zY P Γ l0 Q (o :: l) ⟨s, b, g⟩ :=
 aops_skip (σ := ⟨s, b, g⟩) hg (jC5 hd hl) (by rw [hd]; exact h)
theorem a_store (hT : kU P T) {ty : TypeId} {x y : Operand} {nm of : Nat} {cs cs' : List Dt} {dy : Dt} {i : TI} (ho : o.op = .store ty x y) (hd : o.dst = none) (ht : T ty = some i) (hx : ev (kv s) x = some (.ptr nm of)) (hb : kv b nm = some cs) (hy : ev (kv s) y = some dy)
  (hl : jK5 dy = true) (hsz : Nat.beq dy.cells.length i.sz = true) (hst : jI7 cs of dy some = some cs') (hg : gd l0 o (kv s) = some true) (h : zY P Γ l0 Q l ⟨s, (nm, cs') :: b, g⟩) : zY P Γ l0 Q (o :: l) ⟨s, b, g⟩ := by
 obtain ⟨h1, h2⟩ := kE1 hst
 cases h2
 exact jA6 (σ := ⟨s, b, g⟩) hg (jV1 hT ho hd ht hx hb hy hl (Nat.eq_of_beq_eq_true hsz) h1) h
theorem qF (hT : kU P T) {ty : TypeId} {x y : Operand} {gn n m el z1 z2 : Nat} {z3 : Value} {ps qs : List Pl} {dy : Dt} {i : TI} (ho : o.op = .call { callee := .builtin .append, args := #[x, y], argTypes := #[ty, ty] }) (ht : T ty = some ⟨.slice el, z1, z2, z3⟩) (hel : T el = some i) (hzs : Nat.beq i.zero.cells.size i.sz = true) (hszp : Nat.blt 0 i.sz = true)
  (hg : gd l0 o (kv s) = some true) (hd : o.dst = some t) (hl : Nat.blt t Γ.n = true) (hx : ev (kv s) x = some (.tip gn n ps)) (hgr : kv g gn = some ⟨el, i.sz, n⟩) (hy : ev (kv s) y = some dy) (hdy : slOf dy = some (m, qs)) (hqs : qs.length = m * i.sz)
  (h63 : n + m ≤ maxLen) (hby : (n + m) * i.bytes ≤ 140737488355328) (h : zY P Γ l0 Q l ⟨(t, .tip gn (n + m) (ps ++ qs)) :: s, b, (gn, ⟨el, i.sz, n + m⟩) :: g⟩) : zY P Γ l0 Q (o :: l) ⟨s, b, g⟩ :=
 jA6 (σ := ⟨s, b, g⟩) hg (append_step hT ho ht hel (Nat.eq_of_beq_eq_true hzs) (by simpa [Nat.blt_eq] using hszp) (jC5 hd hl) hx hgr hy hdy hqs h63 hby) (by rw [hd]; exact h)
variable {n : Nat} {B B0 : List (Nat × List Dt)}
variable {D : List Nat} {L : List (Nat × Nat)} {ix : Nat}
theorem r_q (hq : QStep P o (kv s) (kv B) d none) (hg : gd l0 o (kv s) = some true) (hd : o.dst = some t) (h : QRun P n l0 B B0 K (ix + 1) D L l ⟨(t, d) :: s, b, g⟩) : QRun P n l0 B B0 K ix D L (o :: l) ⟨s, b, g⟩ :=
 .inl ⟨d, none, hg, .inl hq, fun p hp => (by cases hp), by rw [hd]; exact h⟩
theorem r_b {nm : Nat} {cs : List Dt} (hq : QStep P o (kv s) (kv B) d (some (nm, cs))) (hg : gd l0 o (kv s) = some true) (hd : o.dst = some t) (hf : kv b nm = none) (hf2 : kv B nm = none) (h : QRun P n l0 B B0 K (ix + 1) D L l ⟨(t, d) :: s, (nm, cs) :: b, g⟩) : QRun P n l0 B B0 K ix D L (o :: l) ⟨s, b, g⟩ :=
 .inl ⟨d, some (nm, cs), hg, .inl hq, fun p hp => (by cases hp; exact ⟨hf, hf2⟩), by rw [hd]; exact h⟩
theorem r_box {nm : Nat} {ty : TypeId} {x : Operand} {dx : Dt} {cs : List Dt} (ho : o.op = .box ty x) (_hnm : jY1 0 b some = some nm) (hx : ev (kv s) x = some dx) (hk : yR dx = true) (hcs : wB dx some = some cs) (hg : gd l0 o (kv s) = some true) (hd : o.dst = some t) (hf : kv b nm = none) (hf2 : kv B nm = none) (h : QRun P n l0 B B0 K (ix + 1) D L l ⟨(t, .ptr nm 0) :: s, (nm, cs) :: b, g⟩) : QRun P n l0 B B0 K ix D L (o :: l) ⟨s, b, g⟩ :=
 r_b (qP nm ho hx hk hcs) hg hd hf hf2 h
theorem r_new (hT : kU P T) {nm : Nat} {ty : TypeId} {i : TI} {cs : List Dt} (ho : o.op = .alloc ty) (_hnm : jY1 0 b some = some nm) (ht : T ty = some i) (hk : yR (uM i.zero) = true) (hcs : jH4 i.zero (fun d => wB d some) = some cs) (hg : gd l0 o (kv s) = some true) (hd : o.dst = some t) (hf : kv b nm = none) (hf2 : kv B nm = none) (h : QRun P n l0 B B0 K (ix + 1) D L l ⟨(t, .ptr nm 0) :: s, (nm, cs) :: b, g⟩) : QRun P n l0 B B0 K ix D L (o :: l) ⟨s, b, g⟩ :=
 r_b (jL hT nm ho ht hk hcs) hg hd hf hf2 h
theorem r_ax (hT : kU P T) (hq : ax T (kv s) (kv B) o.op = some d) (hg : gd l0 o (kv s) = some true) (hd : o.dst = some t) (h : QRun P n l0 B B0 K (ix + 1) D L l ⟨(t, d) :: s, b, g⟩) : QRun P n l0 B B0 K ix D L (o :: l) ⟨s, b, g⟩ := r_q (jE2 hT hq) hg hd h
theorem r_ea (hT : kU P T) (hq : ax T (kv s) (kv B0) o.op = some d) (hg : gd l0 o (kv s) = some true) (hd : o.dst = some t) (he : kC0 l0 o = true) (h : QRun P n l0 B B0 K (ix + 1) D L l ⟨(t, d) :: s, b, g⟩) : QRun P n l0 B B0 K ix D L (o :: l) ⟨s, b, g⟩ :=
 .inl ⟨d, none, hg, .inr ⟨he, jE2 hT hq⟩, fun p hp => (by cases hp), by rw [hd]; exact h⟩
theorem r_skip (hg : gd l0 o (kv s) = some false) (hd : o.dst = some t) (h : QRun P n l0 B B0 K (ix + 1) D L l ⟨(t, .p (.raw undef)) :: s, b, g⟩) : QRun P n l0 B B0 K ix D L (o :: l) ⟨s, b, g⟩ :=
 .inr (.inl ⟨hg, by rw [hd]; exact h⟩)
theorem setRow_upost {e : Env} (hok : EnvOk Γ e) {nm k : Nat} {vs us : List Value} {el : TypeId} {cs : List Dt} (hb : e.bx nm = some k) (hk : e.w.heap[k]? = some (.cells vs.toArray el (0, 0))) (hr : DReps e us cs) : UPost Γ e { e with w := e.w.setRow k us.toArray } nm cs := by
 obtain ⟨h1, h2, h3, h4⟩ := hok.bx nm k hb
 have hoth : ∀ j, j ≠ k → (e.w.setRow k us.toArray).heap[j]? = e.w.heap[j]? := fun j hj => setRow_other e.w k j _ hj
 have hE : Ends e { e with w := e.w.setRow k us.toArray } := by
  refine ⟨fun b' o v hcl hv => ?_, fun _ _ h => h, fun _ G h => ⟨G, h, rfl, rfl, Nat.le_refl _⟩, fun j g G cur h5 h6 h7 => ⟨h5, cur, ?_, rfl⟩⟩
  ·have hne : b' ≠ k := fun e' => by subst e'; exact absurd (hcl 0 h3) (by omega)
   exact ⟨hcl, by show (e.w.setRow k us.toArray).cell? _ = _; rw [World.cell?_of_block (w := e.w) (hoth b' hne)]; exact hv⟩
  ·show (e.w.setRow k us.toArray).heap[j]? = _
   rw [hoth j (fun e' => by subst e'; rw [h4] at h5; cases h5)]; exact h7
 refine ⟨hE, ?_, rfl, rfl, ⟨k, us, el, hb, jF4 hk, hr.next hE⟩, fun c ds hne hbx => ?_⟩
 ·refine ⟨⟨hok.kept.os, hok.kept.tape, hok.kept.output, by show _ ≤ (e.w.setRow k us.toArray).heap.size; rw [setRow_size]; exact hok.kept.size, fun j hj ho => ?_⟩, hok.cl, fun b' j hj => ?_, hok.inj, fun j g hg => ?_, hok.kb⟩
  ·show (e.w.setRow k us.toArray).heap[j]? = _
   rw [hoth j (fun e' => by subst e'; rcases h2 with h2 | h2 <;> first | omega | exact ho h2)]; exact hok.kept.block j hj ho
  ·obtain ⟨h5, h6, h7, h8⟩ := hok.bx b' j hj
   exact ⟨by show j < (e.w.setRow k us.toArray).heap.size; rw [setRow_size]; exact h5, h6, h7, h8⟩
  ·obtain ⟨G, cur, h5, h6, h7, h8, h9⟩ := hok.gr j g hg
   refine ⟨G, cur, h5, by show j < (e.w.setRow k us.toArray).heap.size; rw [setRow_size]; exact h6, h7, h8, ?_⟩
   show (e.w.setRow k us.toArray).heap[j]? = _
   rw [hoth j (fun e' => by subst e'; rw [h4] at hg; cases hg)]; exact h9
 ·obtain ⟨k', vs', el', h5, h6, h7⟩ := hbx
  refine ⟨k', vs', el', h5, ?_, h7.next hE⟩
  show (e.w.setRow k us.toArray).heap[k']? = _
  rw [hoth k' (fun e' => hne (by subst e'; exact hok.inj _ _ _ h5 hb))]; exact h6
theorem store_sstep (hT : kU P T) {S : Nat → Option Dt} {ty : TypeId} {x y : Operand} {nm of : Nat} {cs cs' : List Dt} {dy : Dt} {i : TI} (ho : o.op = .store ty x y) (hd : o.dst = none) (ht : T ty = some i) (hx : ev S x = some (.ptr nm of)) (hy : ev S y = some dy)
  (hl : jK5 dy = true) (hsz : Nat.beq dy.cells.length i.sz = true) (hst : jI7 cs of dy some = some cs') : SStep P o S nm cs cs' := by
 intro Γ a e hok hs hbx
 obtain ⟨hfit, hst⟩ := kE1 hst
 cases hst
 have h1 := hs x (by rw [ho]; simp [Op.operands]) _ hx
 have h2 := hs y (by rw [ho]; simp [Op.operands]) _ hy
 have hk : yR dy = true := by cases dy <;> first | exact hl | rfl
 have hr := vW h2 hk
 generalize hev : a.eval x = vx at h1
 cases h1 with
 | ptr h1 =>
  refine ⟨by rw [h1]; simp, ?_⟩
  obtain ⟨k, vs, el, h3, h4, h5⟩ := hbx (by rw [h1]; simp)
  rename_i k0
  obtain rfl : k = k0 := by rw [h3] at h1; cases h1; rfl
  have hsz' := Nat.eq_of_beq_eq_true hsz
  have hlen : (a.eval y).cells.size = i.sz := by have := hr.1; simp at this; omega
  have hstc := run_storeCells_at P k of el (a.eval y).cells.toList 0 vs.toArray e.w h4 (by have := hr.1; have := h5.1; simp at *; omega) (jW9 h2 hl)
  unfold Oper.wp
  have e1 : (execOp a.eval o).run P e.w = .ok .skip (e.w.setRow k (vs.take of ++ (a.eval y).cells.toList ++ vs.drop (of + (a.eval y).cells.toList.length)).toArray) := by
   obtain ⟨dst, op, type, pos, after, guard⟩ := o
   simp only at ho
   subst ho
   simp only [Nat.add_zero] at hstc
   simp [execOp, Instr.storeAt, Instr.sureAddr, hev, storeVar, yO hT ht, hlen, hstc]
  rw [e1]
  refine ⟨rfl, _, rfl, setRow_upost hok h3 h4 ?_⟩
  unfold wC
  rw [hr.1]
  exact ((h5.take of).append hr).append (h5.drop _)
theorem kF8 (hT : kU P T) {ty : TypeId} {x y : Operand} {nm of : Nat} {cs cs' : List Dt} {dy : Dt} {i : TI} (ho : o.op = .store ty x y) (hd : o.dst = none) (ht : T ty = some i) (hx : ev (kv s) x = some (.ptr nm of)) (hb : kv b nm = some cs) (hy : ev (kv s) y = some dy)
  (hl : jK5 dy = true) (hsz : Nat.beq dy.cells.length i.sz = true) (hst : jI7 cs of dy some = some cs') (hg : gd l0 o (kv s) = some true) (hB : kv B nm = none) (hD : D.contains nm = false ∨ lateB l0 o ix = true) (h : QRun P n l0 B B0 K (ix + 1) (nm :: D) L l ⟨s, (nm, cs') :: b, g⟩) : QRun P n l0 B B0 K ix D L (o :: l) ⟨s, b, g⟩ :=
 .inr (.inr (.inl ⟨nm, cs, cs', hg, hd, hB, hD, hb, store_sstep hT ho hd ht hx hy hl hsz hst, h⟩))
theorem More.post {e : Env} {w : World} {gn : Nat} {G G0 : Gr} {k : Option Nat} {v : Value} {d : Dt} (h : More e w gn G k) (hok : EnvOk Γ e) (hg : e.gi gn = some G0) (hel : G.el = G0.el) (hsz : G.sz = G0.sz) (hlen : G0.len ≤ G.len) (hr : DRep (e.more w gn G k) v d) : GPost Γ e (e.more w gn G k) gn G v d :=
 ⟨h.ends hok hg hel hsz hlen, h.ok hok hg hel, rfl, fun _ => rfl, fun _ _ hb => h.box hok hg hel hsz hlen hb, hr⟩
theorem gstep_append (hT : kU P T) {S : Nat → Option Dt} {ty : TypeId} {x y : Operand} {gn n m el z1 z2 : Nat} {z3 : Value} {ps qs : List Pl} {dy : Dt} {i : TI} (ho : o.op = .call { callee := .builtin .append, args := #[x, y], argTypes := #[ty, ty] }) (ht : T ty = some ⟨.slice el, z1, z2, z3⟩) (hel : T el = some i) (hzs : Nat.beq i.zero.cells.size i.sz = true) (hszp : Nat.blt 0 i.sz = true)
  (hx : ev S x = some (.tip gn n ps)) (hy : ev S y = some dy) (hdy : slOf dy = some (m, qs)) (hqs : qs.length = m * i.sz) (h63 : n + m ≤ maxLen) (hby : (n + m) * i.bytes ≤ 140737488355328) : GStep P o S gn (some ⟨el, i.sz, n⟩) ⟨el, i.sz, n + m⟩ (.tip gn (n + m) (ps ++ qs)) := by
 intro Γ a e hok hs hgi
 have hx1 := hs x (by rw [ho]; simp [Op.operands, Call.operands]) _ hx
 have hy1 := jE6 (hs y (by rw [ho]; simp [Op.operands, Call.operands]) _ hy) hdy
 obtain ⟨v, w', k, hrun, hmore, hrep⟩ := jQ2 hT hok (ty := o.type) ht hel (Nat.eq_of_beq_eq_true hzs) (by simpa [Nat.blt_eq] using hszp) hx1 hgi hy1 hqs h63 hby
 unfold Oper.wp
 have e1 : (execOp a.eval o).run P e.w = .ok (.value v) w' := by
  obtain ⟨dst, op, type, pos, after, guard⟩ := o
  simp only at ho
  subst ho
  simp only [execOp, resolve, invoke, builtin, Sem.run_bind, Sem.run_pure, Result.andThen_ok, List.map_toArray, List.map_cons, List.map_nil, hrun]
 rw [e1]
 exact ⟨v, _, rfl, rfl, hmore.post hok hgi rfl rfl (by simp) hrep⟩
theorem EnvOk.group {e : Env} (hok : EnvOk Γ e) {gn : Nat} (hgi : e.gi gn = none) (G : Gr) : EnvOk Γ { e with gi := fun h => if h = gn then some G else e.gi h } ∧ Ends e { e with gi := fun h => if h = gn then some G else e.gi h } := by
 have hng : ∀ k, e.gr k ≠ some gn := fun k hk => by obtain ⟨G, _, h, _⟩ := hok.gr k gn hk; rw [hgi] at h; cases h
 refine ⟨⟨hok.kept, hok.cl, hok.bx, hok.inj, fun k g' hk => ?_, hok.kb⟩, ⟨fun _ _ _ h1 h2 => ⟨h1, h2⟩, fun _ _ h => h, fun g' G' h => ⟨G', ?_, rfl, rfl, Nat.le_refl _⟩, fun _ _ _ cur h1 _ h3 => ⟨h1, cur, h3, rfl⟩⟩⟩
 ·obtain ⟨G', cur, h1, h2⟩ := hok.gr k g' hk
  exact ⟨G', cur, by show (if g' = gn then _ else e.gi g') = _; rw [if_neg (fun e' => hng k (by rw [← e']; exact hk))]; exact h1, h2⟩
 ·show (if g' = gn then _ else e.gi g') = _
  rw [if_neg (fun e' => by rw [e', hgi] at h; cases h)]; exact h
theorem gstep_new (hT : kU P T) {S : Nat → Option Dt} {ty : TypeId} {x y : Operand} (gn : Nat) {n m el z1 z2 : Nat} {z3 : Value} {ps qs : List Pl} {dy : Dt} {i : TI} (ho : o.op = .call { callee := .builtin .append, args := #[x, y], argTypes := #[ty, ty] }) (ht : T ty = some ⟨.slice el, z1, z2, z3⟩) (hel : T el = some i) (hzs : Nat.beq i.zero.cells.size i.sz = true) (hszp : Nat.blt 0 i.sz = true)
  (hx : ev S x = some (.p (.sl true n ps))) (hps : ps.length = n * i.sz) (hy : ev S y = some dy) (hdy : slOf dy = some (m, qs)) (hqs : qs.length = m * i.sz) (h63 : n + m ≤ maxLen) (hby : (n + m) * i.bytes ≤ 140737488355328) : GStep P o S gn none ⟨el, i.sz, n + m⟩ (.tip gn (n + m) (ps ++ qs)) := by
 intro Γ a e hok hs hgi
 have hx1 := hs x (by rw [ho]; simp [Op.operands, Call.operands]) _ hx
 have hy1 := jE6 (hs y (by rw [ho]; simp [Op.operands, Call.operands]) _ hy) hdy
 obtain ⟨hok1, hE1⟩ := hok.group hgi ⟨el, i.sz, n⟩
 have hx2 : DRep { e with gi := fun h => if h = gn then some ⟨el, i.sz, n⟩ else e.gi h } (a.eval x) (.tip gn n ps) := by
  generalize a.eval x = vx at hx1
  cases hx1 with
  | p h =>
   have h2 := (h.next hE1).low
   obtain ⟨A, cap, hv, _, _, _, h6, _⟩ := xN h
   exact .tip h2 ⟨⟨el, i.sz, n⟩, A, cap, by simp, hv, Nat.le_refl _, hps, .inl (h6 rfl)⟩
 obtain ⟨v, w', k, hrun, hmore, hrep⟩ := jQ2 hT hok1 (ty := o.type) ht hel (Nat.eq_of_beq_eq_true hzs) (by simpa [Nat.blt_eq] using hszp) hx2 (by simp) (hy1.next hE1) hqs h63 hby
 have hpost := hmore.post hok1 (G0 := ⟨el, i.sz, n⟩) (by simp) rfl rfl (by simp) hrep
 unfold Oper.wp
 have e1 : (execOp a.eval o).run P e.w = .ok (.value v) w' := by
  obtain ⟨dst, op, type, pos, after, guard⟩ := o
  simp only at ho
  subst ho
  simp only [execOp, resolve, invoke, builtin, Sem.run_bind, Sem.run_pure, Result.andThen_ok, List.map_toArray, List.map_cons, List.map_nil, hrun]
 rw [e1]
 refine ⟨v, _, rfl, rfl, ⟨hE1.trans hpost.ends, hpost.ok, hpost.bx, fun h => ?_, fun c ds hb => hpost.other c ds (hb.ends hE1 rfl), hpost.rep⟩⟩
 rw [hpost.gi]
 by_cases e' : h = gn
 ·simp [e']
 ·simp [e']
theorem jL4 (hT : kU P T) {ty : TypeId} {x y : Operand} {gn n' m el z1 z2 : Nat} {z3 : Value} {ps qs : List Pl} {dy : Dt} {i : TI} (ho : o.op = .call { callee := .builtin .append, args := #[x, y], argTypes := #[ty, ty] }) (ht : T ty = some ⟨.slice el, z1, z2, z3⟩) (hel : T el = some i) (hzs : Nat.beq i.zero.cells.size i.sz = true) (hszp : Nat.blt 0 i.sz = true)
  (hg : gd l0 o (kv s) = some true) (hd : o.dst = some t) (hx : ev (kv s) x = some (.tip gn n' ps)) (hgr : kv g gn = some ⟨el, i.sz, n'⟩) (hL : kB1 o L gn = true) (hy : ev (kv s) y = some dy) (hdy : slOf dy = some (m, qs)) (hqs : qs.length = m * i.sz)
  (h63 : n' + m ≤ maxLen) (hby : (n' + m) * i.bytes ≤ 140737488355328) (h : QRun P n l0 B B0 K (ix + 1) D ((gn, t) :: L) l ⟨(t, .tip gn (n' + m) (ps ++ qs)) :: s, b, (gn, ⟨el, i.sz, n' + m⟩) :: g⟩) : QRun P n l0 B B0 K ix D L (o :: l) ⟨s, b, g⟩ :=
 .inr (.inr (.inr ⟨gn, _, _, t, hg, hd, by simp [jT2, ho], hL, by rw [hgr]; exact gstep_append hT ho ht hel hzs hszp hx hy hdy hqs h63 hby, by rw [hd]; exact h⟩))
theorem r_appendx (hT : kU P T) {ty : TypeId} {x y : Operand} (gn : Nat) {n' m el z1 z2 : Nat} {z3 : Value} {ps qs : List Pl} {dy : Dt} {i : TI} (ho : o.op = .call { callee := .builtin .append, args := #[x, y], argTypes := #[ty, ty] }) (ht : T ty = some ⟨.slice el, z1, z2, z3⟩) (hel : T el = some i) (hzs : Nat.beq i.zero.cells.size i.sz = true) (hszp : Nat.blt 0 i.sz = true)
  (hg : gd l0 o (kv s) = some true) (hd : o.dst = some t) (hx : ev (kv s) x = some (.p (.sl true n' ps))) (hps : ps.length = n' * i.sz) (hgr : kv g gn = none) (hL : kB1 o L gn = true) (hy : ev (kv s) y = some dy) (hdy : slOf dy = some (m, qs)) (hqs : qs.length = m * i.sz)
  (h63 : n' + m ≤ maxLen) (hby : (n' + m) * i.bytes ≤ 140737488355328) (h : QRun P n l0 B B0 K (ix + 1) D ((gn, t) :: L) l ⟨(t, .tip gn (n' + m) (ps ++ qs)) :: s, b, (gn, ⟨el, i.sz, n' + m⟩) :: g⟩) : QRun P n l0 B B0 K ix D L (o :: l) ⟨s, b, g⟩ :=
 .inr (.inr (.inr ⟨gn, _, _, t, hg, hd, by simp [jT2, ho], hL, by rw [hgr]; exact gstep_new hT gn ho ht hel hzs hszp hx hps hy hdy hqs h63 hby, by rw [hd]; exact h⟩))
def visK {α : Type} : List Nat → List (Nat × List Dt) → (List (Nat × List Dt) → Option α) → Option α
 | _, [], k => k []
 | ws, (m, cs) :: l, k => bif ws.contains m then visK ws l k else visK (m :: ws) l fun r => k ((m, cs) :: r)
theorem jA0 {α : Type} : ∀ (m : List (Nat × List Dt)) (ws : List Nat) (k : List (Nat × List Dt) → Option α) (r : α), visK ws m k = some r → ∃ B, k B = some r ∧ (B.map (·.1)).Nodup ∧ (∀ b ∈ B.map (·.1), b ∉ ws) ∧ SubBx m B := by
 intro m
 induction m with
 | nil => intro ws k r h; exact ⟨[], h, by simp, fun b hb => by simp at hb, trivial⟩
 | cons p m ih =>
  intro ws k r h
  obtain ⟨q, ds⟩ := p
  have wid : ∀ (B : List (Nat × List Dt)), q ∉ B.map (·.1) → SubBx m B → SubBx ((q, ds) :: m) B := by
   intro B
   induction B with
   | nil => intro _ _; trivial
   | cons x B ihB =>
    intro hq hs
    simp only [List.map_cons, List.mem_cons, not_or] at hq
    exact ⟨by rw [jU, if_neg hq.1]; exact hs.1, ihB hq.2 hs.2⟩
  simp only [visK] at h
  cases hc : ws.contains q
  ·rw [hc] at h
   simp only [cond_false] at h
   obtain ⟨B, h5, h6, h7, h8⟩ := ih _ _ _ h
   have hq : q ∉ B.map (·.1) := fun hq => h7 q hq (by simp)
   refine ⟨(q, ds) :: B, h5, ?_, fun b hb => ?_, ⟨by rw [jU]; simp, wid B hq h8⟩⟩
   ·simp only [List.map_cons, List.nodup_cons]
    exact ⟨hq, h6⟩
   ·simp only [List.map_cons, List.mem_cons] at hb
    rcases hb with rfl | hb
    ·simpa using hc
    ·exact fun h8 => h7 b hb (List.mem_cons_of_mem _ h8)
  ·rw [hc] at h
   simp only [cond_true] at h
   obtain ⟨B, h5, h6, h7, h8⟩ := ih _ _ _ h
   have hm : q ∈ ws := by simpa using hc
   exact ⟨B, h5, h6, h7, wid B (fun hq => h7 q hq hm) h8⟩
theorem jE {σ : St} (k : Nat) (ws : List Nat) {id : Nat} {l l1 l2 : List Oper} {B : List (Nat × List Dt)} (hs : jE3 k l (fun a => wK k l fun b => some (a, b)) = some (l1, l2)) (hv : visK ws σ.b some = some B) (hm : P.follows .mixedOrders = true) (hB : relB l.toArray Γ.n = true) (hT : jP9 l.toArray k = true) (h : QRun P Γ.n l B σ.b (zY P Γ l Q l2) 0 [] [] l1 σ) : AWP P Γ (.region id l.toArray true) Q σ := by
 obtain ⟨h1, hs⟩ := vD hs
 obtain ⟨h2, hs⟩ := qO hs
 cases hs
 obtain ⟨B', h3, _, _, h4⟩ := jA0 _ _ _ _ hv
 cases h3
 refine jQ8 B h4 (l.take k) (l.drop k) (List.take_append_drop k l).symm hm hB ?_ h
 rw [List.length_take, Nat.min_eq_left h1]
 exact hT
theorem jY {σ : St} (ws : List Nat) {id : Nat} {l : List Oper} {B : List (Nat × List Dt)} (hv : visK ws σ.b some = some B) (hm : P.follows .mixedOrders = true) (hB : relB l.toArray Γ.n = true) (h : QRun P Γ.n l B σ.b (Q .normal) 0 [] [] l σ) : AWP P Γ (.region id l.toArray true) Q σ := by
 obtain ⟨B', h3, _, _, h4⟩ := jA0 _ _ _ _ hv
 cases h3
 refine jQ8 B h4 l [] (by simp) hm hB ?_ ?_
 ·unfold jP9
  simp only [List.all_eq_true, List.mem_range, Bool.or_eq_true, decide_eq_true_eq]
  intro t ht
  left
  simpa using ht
 ·have mono : ∀ (B0 : List (Nat × List Dt)) (l' : List Oper) (ix : Nat) (D : List Nat) (L : List (Nat × Nat)) (σ : St) (K K' : St → Prop), (∀ σ, K σ → K' σ) → QRun P Γ.n l B B0 K ix D L l' σ → QRun P Γ.n l B B0 K' ix D L l' σ := by
   intro B0 l'
   induction l' with
   | nil => intro ix D L σ K K' hk h; exact hk σ h
   | cons o l' ih =>
    intro ix D L σ K K' hk h
    rcases h with ⟨d, nb, h1, h2, h3, h4⟩ | ⟨h1, h2⟩ | ⟨nm, cs, cs', h1, h2, h3, h4, h5, h6, h7⟩ | ⟨g, G, d, t, h1, h2, h0, h3, h4, h5⟩
    ·exact .inl ⟨d, nb, h1, h2, h3, ih _ _ _ _ _ _ hk h4⟩
    ·exact .inr (.inl ⟨h1, ih _ _ _ _ _ _ hk h2⟩)
    ·exact .inr (.inr (.inl ⟨nm, cs, cs', h1, h2, h3, h4, h5, h6, ih _ _ _ _ _ _ hk h7⟩))
    ·exact .inr (.inr (.inr ⟨g, G, d, t, h1, h2, h0, h3, h4, ih _ _ _ _ _ _ hk h5⟩))
  exact mono σ.b l 0 [] [] σ _ _ (fun σ' h' => jD h') h
end
variable {S : Nat → Option Dt} {B : Nat → Option (List Dt)} {o : Oper}
def overD (cs : List Dt) (off : Nat) (ds : List Dt) : List Dt := cs.take off ++ ds ++ cs.drop (off + ds.length)
def overK {α : Type} (cs : List Dt) (off : Nat) (ds : List Dt) (k : List Dt → Option α) : Option α :=
 jE3 off cs fun a => wK off cs fun b => wK ds.length b fun c => appK ds c fun r => appK a r k
theorem overK_some {α : Type} {cs : List Dt} {off : Nat} {ds : List Dt} {k : List Dt → Option α} {r : α} (h : overK cs off ds k = some r) : off + ds.length ≤ cs.length ∧ k (overD cs off ds) = some r := by
 unfold overK at h
 obtain ⟨h1, h⟩ := vD h
 obtain ⟨h2, h⟩ := qO h
 obtain ⟨h3, h⟩ := qO h
 rw [wQ, wQ] at h
 refine ⟨by simp at h3; omega, ?_⟩
 unfold overD
 rw [List.append_assoc]
 rw [List.drop_drop] at h
 exact h
def fillD (place : Nat → Option (Nat × Nat)) : List Dt → List (Nat × Dt) → Option (List Dt)
 | cs, [] => some cs
 | cs, (i, d) :: rest => match place i with
  | some (off, sz) => bif yR d && Nat.beq d.cells.length sz then wB d fun ds => overK cs off ds fun r => fillD place r rest else none
  | none => none
theorem foldl_set (us : List Value) : ∀ (k off : Nat) (cs : Array Value), off + k + us.length ≤ cs.size → ((us.zipIdx k).foldl (fun cs (c, j) => cs.setIfInBounds (off + j) c) cs).toList = cs.toList.take (off + k) ++ us ++ cs.toList.drop (off + k + us.length) := by
 induction us with
 | nil => intro k off cs h; simp
 | cons u us ih =>
  intro k off cs h
  rw [List.zipIdx_cons, List.foldl_cons]
  simp only [List.length_cons] at h
  rw [ih (k + 1) off _ (by simp; omega)]
  have hk : off + k < cs.toList.length := by simp; omega
  apply List.ext_getElem?
  intro j
  simp only [Array.toList_setIfInBounds, List.length_cons]
  rcases Nat.lt_trichotomy j (off + k) with h1 | h1 | h1
  ·rw [List.append_assoc, List.append_assoc, List.getElem?_append_left (by simp; omega), List.getElem?_append_left (by simp; omega), List.getElem?_take, List.getElem?_take, if_pos (by omega), if_pos h1, List.getElem?_set_ne (by omega)]
  ·subst h1
   rw [List.append_assoc, List.append_assoc, List.getElem?_append_left (by simp; omega), List.getElem?_append_right (by simp; omega), List.getElem?_take, if_pos (by omega)]
   simp only [List.length_take, Array.length_toList]
   rw [show off + k - min (off + k) cs.size = 0 by simp at hk; omega]
   rw [List.getElem?_set_self hk]
   rfl
  ·rw [List.append_assoc, List.append_assoc]
   rcases Nat.lt_or_ge j (off + k + 1 + us.length) with h2 | h2
   ·rw [List.getElem?_append_right (by simp; omega), List.getElem?_append_left (by simp; omega), List.getElem?_append_right (by simp; omega)]
    simp only [List.length_take, List.length_set, Array.length_toList]
    simp only [Array.length_toList] at hk
    rw [show min (off + (k + 1)) cs.size = off + k + 1 by omega, show min (off + k) cs.size = off + k by omega, show j - (off + k) = (j - (off + k + 1)) + 1 by omega]
    simp only [List.cons_append, List.getElem?_cons_succ]
    rw [List.getElem?_append_left (by omega)]
   ·rw [List.getElem?_append_right (by simp; omega), List.getElem?_append_right (by simp; omega), List.getElem?_append_right (by simp; omega), List.getElem?_append_right (by simp; omega)]
    simp only [List.length_take, List.length_set, Array.length_toList, List.length_cons, List.getElem?_drop]
    simp only [Array.length_toList] at hk
    rw [List.getElem?_set_ne (by omega)]
    congr 1
    omega
def kI1 (e : Env) : List (Nat × Value) → List (Nat × Dt) → Prop
 | [], _ => True
 | (_, v) :: l, (_, d) :: m => DRep e v d ∧ kI1 e l m
 | _ :: _, [] => False
theorem jX3 {e : Env} (place : Nat → Option (Nat × Nat)) : ∀ (parts : List (Nat × Value)) (pds : List (Nat × Dt)) (cells : Array Value) (cs res : List Dt), DReps e cells.toList cs → parts.map (·.1) = pds.map (·.1) → kI1 e parts pds → fillD place cs pds = some res → ∃ cells', Instr.fill place cells parts = some cells' ∧ DReps e cells'.toList res
 | [], pds, cells, cs, res, hr, hm, _, h => by
  have : pds = [] := by simpa using hm.symm
  subst this
  simp only [fillD, Option.some.injEq] at h
  subst h
  exact ⟨cells, rfl, hr⟩
 | (i, v) :: parts, [], cells, cs, res, hr, hm, _, h => by simp at hm
 | (i, v) :: parts, (j, d) :: pds, cells, cs, res, hr, hm, hd, h => by
  simp only [List.map_cons, List.cons.injEq] at hm
  obtain ⟨rfl, hm⟩ := hm
  simp only [fillD] at h
  split at h
  ·rename_i off sz hp
   cases hb : (yR d && Nat.beq d.cells.length sz)
   ·rw [hb] at h; cases h
   ·rw [hb] at h
    simp only [cond_true, jA4] at h
    obtain ⟨h3', h⟩ := overK_some h
    simp only [Bool.and_eq_true] at hb
    obtain ⟨h1, h2⟩ := hb
    have h2' := Nat.eq_of_beq_eq_true h2
    have hv := vW hd.1 h1
    have hvl : v.cells.size = sz := by have := hv.1; simp at this; omega
    have hcl : cells.size = cs.length := by have := hr.1; simpa using this
    have hfold := foldl_set v.cells.toList 0 off cells (by simp; omega)
    have hz : (v.cells.zipIdx.foldl (fun cs (c, j) => cs.setIfInBounds (off + j) c) cells).toList = cells.toList.take off ++ v.cells.toList ++ cells.toList.drop (off + v.cells.toList.length) := by
     simp only [Nat.add_zero] at hfold
     rw [← hfold, ← Array.foldl_toList, Array.toList_zipIdx]
    have hnew : DReps e (v.cells.zipIdx.foldl (fun cs (c, j) => cs.setIfInBounds (off + j) c) cells).toList (overD cs off d.cells) := by
     rw [hz, overD, hv.1]
     exact ((hr.take off).append hv).append (hr.drop _)
    obtain ⟨cells', h5, h6⟩ := jX3 place parts pds _ _ res hnew hm hd.2 h
    refine ⟨cells', ?_, h6⟩
    unfold Instr.fill
    rw [hp]
    simp only [hvl]
    rw [if_neg (by simp; omega)]
    exact h5
  ·cases h
def jF7 {α : Type} (S : Nat → Option Dt) : List (Nat × Operand) → (List (Nat × Dt) → Option α) → Option α
 | [], k => k []
 | (i, x) :: l, k => match ev S x with
  | some d => jF7 S l fun ds => k ((i, d) :: ds)
  | none => none
theorem jP3 {α : Type} {e : Env} {a : Act} : ∀ (l : List (Nat × Operand)) (k : List (Nat × Dt) → Option α) (r : α), (∀ x ∈ l.map (·.2), ∀ d, ev S x = some d → DRep e (a.eval x) d) → jF7 S l k = some r → ∃ ds, (l.map fun p => (p.1, a.eval p.2)).map (·.1) = ds.map (·.1) ∧ kI1 e (l.map fun p => (p.1, a.eval p.2)) ds ∧ k ds = some r
 | [], k, r, _, h => ⟨[], rfl, trivial, h⟩
 | (i, x) :: l, k, r, hs, h => by
  simp only [jF7] at h
  split at h
  ·rename_i d h1
   obtain ⟨ds, h3, h4, h5⟩ := jP3 l _ r (fun y hy => hs y (by simp at hy ⊢; exact .inr hy)) h
   exact ⟨(i, d) :: ds, by simp only [List.map_cons] at h3 ⊢; rw [h3], ⟨hs x (by simp) d h1, h4⟩, h5⟩
  ·cases h
def buildD (T : Nat → Option TI) (t : TypeId) (ds : List (Nat × Dt)) : Option Dt := match T t with
 | some ⟨.struct fs, _, _, z⟩ => bif fs.all (fun f => Nat.blt 0 f.2.2) then (match jH4 z (fun c => wB c fun cs => fillD (fun i => (fs[i]?).map fun f => (f.2.1, f.2.2)) cs ds) with
  | some cs => some (.agg cs)
  | none => none) else none
 | some ⟨.array _ el, _, _, z⟩ => match T el with
  | some j => match jH4 z (fun c => wB c fun cs => fillD (fun i => some (i * j.sz, j.sz)) cs ds) with
   | some cs => some (.agg cs)
   | none => none
  | none => none
 | _ => none
theorem kL0 {P : Program} {w : World} {α β : Type} (f : α → Sem β) (g : α → β) (l : Array α) (h : ∀ x ∈ l.toList, (f x).run P w = .ok (g x) w) : (l.mapM f).run P w = .ok (l.map g) w := by
 rw [Array.mapM_eq_mapM_toList]
 have := mapM_run f g l.toList h
 simp only [map_eq_pure_bind, Sem.run_bind, this, Result.andThen_ok, Sem.run_pure]
 congr 1
 apply Array.ext'
 simp
theorem jN6 (hT : kU P T) {t : TypeId} {parts : Array (Nat × Operand)} {d : Dt} (ho : o.op = .build t parts) (hp : jF7 S parts.toList (buildD T t) = some d) (hz : (match T t with | some i => yR (uM i.zero) | none => false) = true) : QStep P o S B d none := by
 refine kZ fun a e hs => ?_
 obtain ⟨ds, h1, h2, hd⟩ := jP3 (e := e) (a := a) parts.toList _ d (fun x hx => hs.1 x (by rw [ho]; simp only [Op.operands]; simpa using hx)) hp
 have hparts : (parts.map fun (i, x) => (i, a.eval x)).toList = parts.toList.map fun p => (p.1, a.eval p.2) := by simp
 unfold buildD at hd
 split at hd
 ·rename_i fs z1 z2 z ht
  rw [ht] at hz
  cases hall : fs.all (fun f => Nat.blt 0 f.2.2)
  ·rw [hall] at hd; cases hd
  rw [hall] at hd
  simp only [cond_true] at hd
  split at hd
  ·rename_i cs hfill
   rw [jC3, jA4] at hfill
   cases hd
   obtain ⟨d0, hd0, hk⟩ := hT.desc t _ ht
   cases d0 <;> simp only [jF2, TK.struct.injEq, reduceCtorEq] at hk
   rename_i fields
   have hzr := vW (wX e z) hz
   obtain ⟨cells', h3, h4⟩ := jX3 (e := e) _ _ ds z.cells (uM z).cells cs hzr h1 h2 hfill
   refine ⟨.agg cells', ?_, by have := DRep.agg (e := e) h4.1 h4.2; simpa using this⟩
   have hplaces : (fields.mapM fun f => do pure (f.offset, ← sizeOf f.type) : Sem (Array (Nat × Nat))).run P e.w = .ok (fields.map fun f => (f.offset, P.cellsOf f.type)) e.w := by
    refine kL0 _ _ fields fun f hf => ?_
    have hf' : (f.type, f.offset, P.cellsOf f.type) ∈ fs := by rw [← hk]; exact List.mem_map.2 ⟨f, hf, rfl⟩
    have hpos := List.all_eq_true.1 hall _ hf'
    have hpos' : 0 < P.cellsOf f.type := by simpa [Nat.blt_eq] using hpos
    rcases hi : P.info? f.type with _ | i
    ·simp [Program.cellsOf, hi] at hpos'
    ·simp [sizeOf, typeInfo, hi, Program.cellsOf]
   have hpl : (fun i => (fields.map fun f => (f.offset, P.cellsOf f.type))[i]?) = fun (i : Nat) => (fs[i]?).map fun (f : TypeId × Nat × Nat) => (f.2.1, f.2.2) := by
    funext i
    rw [← hk]
    simp
    cases fields[i]? <;> rfl
   obtain ⟨dst, op, type, pos, after, guard⟩ := o
   simp only at ho
   subst ho
   have hzv : (zeroValue t).run P e.w = .ok z e.w := uT hT ht e.w
   rw [← hpl] at h3
   simp only [execOp, Instr.build, Sem.run_bind, hzv, Result.andThen_ok, run_underlying hd0]
   rw [hplaces]
   simp only [Result.andThen_ok, hparts, h3, Sem.run_pure]
  ·cases hd
 ·rename_i n el z1 z2 z ht
  rw [ht] at hz
  split at hd
  ·rename_i j hj
   split at hd
   ·rename_i cs hfill
    rw [jC3, jA4] at hfill
    cases hd
    obtain ⟨d0, hd0, hk⟩ := hT.desc t _ ht
    cases d0 <;> simp only [jF2, TK.array.injEq, reduceCtorEq] at hk
    have hzr := vW (wX e z) hz
    obtain ⟨cells', h3, h4⟩ := jX3 (e := e) _ _ ds z.cells (uM z).cells cs hzr h1 h2 hfill
    refine ⟨.agg cells', ?_, by have := DRep.agg (e := e) h4.1 h4.2; simpa using this⟩
    obtain ⟨dst, op, type, pos, after, guard⟩ := o
    simp only at ho
    subst ho
    have hzv : (zeroValue t).run P e.w = .ok z e.w := uT hT ht e.w
    rw [hk.2] at hd0
    simp only [execOp, Instr.build, Sem.run_bind, hzv, Result.andThen_ok, run_underlying hd0, yO hT hj, hparts, h3, Sem.run_pure]
   ·cases hd
  ·cases hd
 ·cases hd
end
end Go.Proofs.YtkkldicehapklaaGreat
end
section
/- Slice literals; parts of slices; max, min. -/
namespace Go.Proofs.YtkkldicehapklaaGreat
open Go.RowKit
section
variable {P : Program} {T : Nat → Option TI} {Γ : Ctx} {S : Nat → Option Dt} {B : Nat → Option (List Dt)} {o : Oper}
def jJ5 (zc : List Dt) : Nat → List Dt
 | 0 => []
 | n + 1 => zc ++ jJ5 zc n
theorem kD9 (zc : List Dt) : ∀ n, (jJ5 zc n).length = n * zc.length
 | 0 => by simp [jJ5]
 | n + 1 => by simp [jJ5, kD9 zc n, Nat.add_mul]; omega
theorem kE0 (zc : List Dt) : ∀ (n j : Nat), j < n * zc.length → (jJ5 zc n)[j]? = zc[j % zc.length]?
 | 0, j, h => by omega
 | n + 1, j, h => by
  rw [jJ5]
  rcases Nat.lt_or_ge j zc.length with hj | hj
  ·rw [List.getElem?_append_left hj, Nat.mod_eq_of_lt hj]
  ·rw [List.getElem?_append_right hj, kE0 zc n _ (by rw [Nat.add_mul] at h; omega), Nat.mod_eq_sub_mod hj]
def jY5 {α : Type} (zc : List Dt) : Nat → (List Dt → Option α) → Option α
 | 0, k => k []
 | n + 1, k => jY5 zc n fun r => appK zc r k
theorem kD8 {α : Type} (zc : List Dt) : ∀ (n : Nat) (k : List Dt → Option α), jY5 zc n k = k (jJ5 zc n)
 | 0, k => rfl
 | n + 1, k => by rw [jY5, kD8 zc n, wQ]; rfl
def toPsK {α : Type} : List Dt → (List Pl → Option α) → Option α
 | [], k => k []
 | .p (.raw v) :: l, k => toPsK l fun r => k (.raw v :: r)
 | .p (.sl _ n ps) :: l, k => toPsK l fun r => k (.sl false n ps :: r)
 | .tip _ n ps :: l, k => toPsK l fun r => k (.sl false n ps :: r)
 | _, _ => none
def toPs : List Dt → Option (List Pl)
 | [] => some []
 | .p x :: l => (toPs l).map (lowP x :: ·)
 | .tip _ n ps :: l => (toPs l).map (Pl.sl false n ps :: ·)
 | _ => none
theorem jZ2 {α : Type} : ∀ (ds : List Dt) (k : List Pl → Option α), toPsK ds k = (toPs ds).bind k
 | [], k => rfl
 | .p (.raw v) :: l, k => by simp only [toPsK, toPs, jZ2 l]; cases toPs l <;> rfl
 | .p (.sl _ n ps) :: l, k => by simp only [toPsK, toPs, jZ2 l]; cases toPs l <;> rfl
 | .tip _ n ps :: l, k => by simp only [toPsK, toPs, jZ2 l]; cases toPs l <;> rfl
 | .agg _ :: l, k => rfl
 | .tup _ :: l, k => rfl
 | .ptr _ _ :: l, k => rfl
 | .el _ :: l, k => rfl
 | .arr _ _ _ _ :: l, k => rfl
 | .fn _ _ _ :: l, k => rfl
 | .any :: l, k => rfl
theorem kM2 : ∀ {ds : List Dt} {ps : List Pl} (_ : toPs ds = some ps), ds.length = ps.length ∧ ∀ (i : Nat) x, ps[i]? = some x → ∃ d, ds[i]? = some d ∧ ∀ e v, DRep e v d → PRep e v x
 | [], ps, h => by simp only [toPs, Option.some.injEq] at h; subst h; exact ⟨rfl, fun i x h => by simp at h⟩
 | .p y :: l, ps, h => by
  simp only [toPs, Option.map_eq_some_iff] at h
  obtain ⟨qs, h1, rfl⟩ := h
  obtain ⟨h2, h3⟩ := kM2 h1
  refine ⟨by simp [h2], fun i x hx => ?_⟩
  cases i with
  | zero => simp only [List.getElem?_cons_zero, Option.some.injEq] at hx; subst hx; exact ⟨_, rfl, fun e v hv => by cases hv with | p h => exact h.low⟩
  | succ i => simpa using h3 i x (by simpa using hx)
 | .tip g n qs0 :: l, ps, h => by
  simp only [toPs, Option.map_eq_some_iff] at h
  obtain ⟨qs, h1, rfl⟩ := h
  obtain ⟨h2, h3⟩ := kM2 h1
  refine ⟨by simp [h2], fun i x hx => ?_⟩
  cases i with
  | zero => simp only [List.getElem?_cons_zero, Option.some.injEq] at hx; subst hx; exact ⟨_, rfl, fun e v hv => by cases hv with | tip h _ => exact h⟩
  | succ i => simpa using h3 i x (by simpa using hx)
 | .agg _ :: l, ps, h => by cases h
 | .tup _ :: l, ps, h => by cases h
 | .ptr _ _ :: l, ps, h => by cases h
 | .el _ :: l, ps, h => by cases h
 | .arr _ _ _ _ :: l, ps, h => by cases h
 | .fn _ _ _ :: l, ps, h => by cases h
 | .any :: l, ps, h => by cases h
def jJ0 (T : Nat → Option TI) (t : TypeId) (len : Nat) (ds : List (Nat × Dt)) : Option (List Pl) := match T t with
 | some ⟨.slice el, _, _, _⟩ => match T el with
  | some j => bif yR (uM j.zero) && Nat.beq (uM j.zero).cells.length j.sz && Nat.ble (len * j.sz) 1000000 && Nat.blt 0 j.sz then (match jH4 j.zero (fun c => wB c fun zc => jY5 zc len fun z => fillD (fun i => some (i * j.sz, j.sz)) z ds) with
   | some cs => bif cs.all Dt.leaf then toPsK cs some else none
   | none => none) else none
  | none => none
 | _ => none
theorem newRow_rep {e : Env} {us : List Value} {ps : List Pl} {n : Nat} {t : TypeId} (hn : n ≤ maxLen) (hlen : us.length = ps.length) (hleaf : ∀ v ∈ us, jA2 v = true) (hr : ∀ (i : Nat) v x, us[i]? = some v → ps[i]? = some x → PRep e v x) :
  DRep (e.alloc (.cells us.toArray t) none) (.slice (some ⟨e.w.heap.size, 0, none⟩) n n) (.p (.sl true n ps)) := by
 have hg := Env.alloc_grow e (.cells us.toArray t) none
 refine .p (jN9 (Nat.le_refl _) hn (fun h => by cases h) (fun _ => rfl) (.inr ⟨_, 0, rfl, fun i => us.getD i undef, fun i x hx => ?_⟩))
 have hi : i < us.length := by rw [hlen]; exact (List.getElem?_eq_some_iff.1 hx).1
 have hu : us[i]? = some us[i] := List.getElem?_eq_getElem hi
 have hgd : us.getD i undef = us[i] := by simp [hi]
 show _ ∧ _ = some (us.getD i undef) ∧ jA2 (us.getD i undef) = true ∧ PRep _ (us.getD i undef) x
 rw [hgd]
 refine ⟨fun k hk => ?_, ?_, hleaf _ (List.getElem_mem hi), (hr i _ x hu hx).next hg.ends⟩
 ·simp [Env.alloc] at hk
 ·show (e.w.alloc _).cell? _ = _
  rw [cell_of_row _ _ (0 + i) us.toArray t (0, 0) (heap_alloc_new e.w _)]
  simp
theorem jP0 (hT : kU P T) {t : TypeId} {len : Nat} {parts : Array (Nat × Operand)} {ps : List Pl} (ho : o.op = .buildSlice t len parts) (hp : jF7 S parts.toList (jJ0 T t len) = some ps) : QStep P o S B (.p (.sl true len ps)) none := by
 intro a e hs _
 obtain ⟨ds, h1, h2, hd⟩ := jP3 (e := e) (a := a) parts.toList _ ps (fun x hx => hs.1 x (by rw [ho]; simp only [Op.operands]; simpa using hx)) hp
 have hparts : (parts.map fun (i, x) => (i, a.eval x)).toList = parts.toList.map fun p => (p.1, a.eval p.2) := by simp
 unfold jJ0 at hd
 split at hd
 ·rename_i el z1 z2 z3 ht
  split at hd
  ·rename_i j hj
   cases hb : (yR (uM j.zero) && Nat.beq (uM j.zero).cells.length j.sz && Nat.ble (len * j.sz) 1000000 && Nat.blt 0 j.sz)
   ·rw [hb] at hd; cases hd
   rw [hb] at hd
   simp only [cond_true] at hd
   simp only [Bool.and_eq_true] at hb
   obtain ⟨⟨⟨hb1, hb2⟩, hb3⟩, hb4⟩ := hb
   have hb2' := Nat.eq_of_beq_eq_true hb2
   have hb3' := Nat.le_of_ble_eq_true hb3
   have hb4' : 0 < j.sz := by simpa [Nat.blt_eq] using hb4
   split at hd
   ·rename_i cs hfill
    rw [jC3, jA4, kD8] at hfill
    cases hlf : cs.all Dt.leaf
    ·rw [hlf] at hd; cases hd
    rw [hlf] at hd
    simp only [cond_true, jZ2, Option.bind_fun_some] at hd
    obtain ⟨d0, hd0, hk⟩ := hT.desc t _ ht
    cases d0 <;> simp only [jF2, TK.slice.injEq, reduceCtorEq] at hk
    rw [hk] at hd0
    have hzr := vW (wX e j.zero) hb1
    have hzs : j.zero.cells.size = j.sz := by have := hzr.1; simp at this; omega
    have hzr0 : DReps e ((Array.range (len * j.sz)).map (fun i => j.zero.cells[i % j.zero.cells.size]!)).toList (jJ5 (uM j.zero).cells len) := by
     refine ⟨by simp [kD9, hb2'], fun i v d hv hd' => ?_⟩
     have hil : i < len * j.sz := by have := (List.getElem?_eq_some_iff.1 hv).1; simpa using this
     rw [kE0 _ _ _ (by rw [hb2']; exact hil), hb2'] at hd'
     simp [hil] at hv
     rw [hzs] at hv
     have hm : i % j.sz < j.sz := Nat.mod_lt _ hb4'
     have : j.zero.cells.toList[i % j.sz]? = some v := by
      rw [← hv]
      simp [hzs, hm]
     exact hzr.2 _ v d this hd'
    obtain ⟨cells', h3, h4⟩ := jX3 (e := e) _ _ ds _ _ cs hzr0 h1 h2 hfill
    obtain ⟨h5, h6⟩ := kM2 hd
    unfold Oper.wp
    have e1 : (execOp a.eval o).run P e.w = .ok (.value (.slice (some ⟨e.w.heap.size, 0, none⟩) len len)) (e.w.alloc (.cells cells'.toList.toArray el)) := by
     obtain ⟨dst, op, type, pos, after, guard⟩ := o
     simp only at ho
     subst ho
     have hzv : (zeroValue el).run P e.w = .ok j.zero e.w := uT hT hj e.w
     have hnb : ¬ (len * j.sz > 2 ^ 24) := by omega
     simp only [execOp, Instr.buildSlice, Sem.run_bind, run_underlying hd0, Result.andThen_ok, yO hT hj]
     rw [if_neg hnb]
     by_cases h0 : len * j.sz = 0
     ·have hr0 : (Array.range (len * j.sz)).map (fun i => j.zero.cells[i % j.zero.cells.size]!) = (Array.range (len * j.sz)).map (fun i => (#[] : Array Value)[i % (#[] : Array Value).size]!) := by simp [h0]
      rw [hr0] at h3
      simp only [h0, if_true, Sem.run_bind, Sem.run_pure, Result.andThen_ok, hparts] at h3 ⊢
      rw [h3]
      simp [newRow]
     ·simp only [h0, if_false, Sem.run_bind, hzv, Sem.run_pure, Result.andThen_ok, hparts, h3]
      simp [newRow]
    rw [e1]
    refine ⟨_, e.alloc (.cells cells'.toList.toArray el) none, rfl, rfl, Env.alloc_grow _ _ _, newRow_rep (by have : len * 1 ≤ len * j.sz := Nat.mul_le_mul_left _ hb4'; unfold maxLen; omega) (by rw [h4.1, h5]) (fun v hv => ?_) (fun i v x hv hx => ?_)⟩
    ·obtain ⟨i, hi, rfl⟩ := List.mem_iff_getElem.1 hv
     have hi' : i < cs.length := by rw [← h4.1]; exact hi
     exact kH7 (h4.2 i _ _ (List.getElem?_eq_getElem hi) (List.getElem?_eq_getElem hi')) (List.all_eq_true.1 hlf _ (List.getElem_mem hi'))
    ·obtain ⟨d, h7, h8⟩ := h6 i x hx
     exact h8 e v (h4.2 i v d hv h7)
   ·cases hd
  ·cases hd
 ·cases hd
def bndD (S : Nat → Option Dt) (x : Option Operand) (dflt : Int) : Option Int := match x with
 | none => some dflt
 | some y => match ev S y with
  | some (.p (.raw (.int _ i))) => some i
  | _ => none
theorem kK8 (hT : kU P T) {t el : TypeId} {x : Operand} {lo hi : Option Operand} {dx : Dt} {n : Nat} {ps : List Pl} {l h : Int} {z1 z2 : Nat} {z3 : Value} {j : TI} (m : Nat) (qs : List Pl) (ho : o.op = .slice t x lo hi none) (ht : T t = some ⟨.slice el, z1, z2, z3⟩) (he : T el = some j)
  (hx : ev S x = some dx) (hdx : slOf dx = some (n, ps)) (hlo : bndD S lo 0 = some l) (hhi : bndD S hi n = some h) (h0 : 0 ≤ l) (h1 : l ≤ h) (h2 : h ≤ n) (hm : h - l = m) (hql : qs.length = m * j.sz) (hq : ∀ (i : Nat) q, qs[i]? = some q → ps[l.toNat * j.sz + i]? = some q) : QStep P o S B (.p (.sl false m qs)) none := by
 refine kZ fun a e hs => ?_
 have hx1 := jE6 (hs.1 x (by rw [ho]; simp [Op.operands]) _ hx) hdx
 obtain ⟨A, cap, hv, hc1, hc2, hc3, _, hA⟩ := xN hx1
 obtain ⟨d0, hd0, hk⟩ := hT.desc t _ ht
 cases d0 <;> simp only [jF2, reduceCtorEq, TK.slice.injEq] at hk
 rw [hk] at hd0
 have hlv : ∀ y, lo = some y → ∃ k, a.eval y = .int k l := fun y hy => by
  subst hy
  simp only [bndD] at hlo
  split at hlo
  ·rename_i k i hev
   cases hlo
   exact ⟨k, kF (hs.1 y (by rw [ho]; simp [Op.operands]) _ hev)⟩
  ·cases hlo
 have hhv : ∀ y, hi = some y → ∃ k, a.eval y = .int k h := fun y hy => by
  subst hy
  simp only [bndD] at hhi
  split at hhi
  ·rename_i k i hev
   cases hhi
   exact ⟨k, kF (hs.1 y (by rw [ho]; simp [Op.operands]) _ hev)⟩
  ·cases hhi
 have hbounds : (Instr.sliceBounds true n cap (lo.map a.eval) (hi.map a.eval) none).run P e.w = .ok (l.toNat, h.toNat, cap) e.w := by
  have hhi' : hi = none → h = n := fun e' => by subst e'; simp only [bndD, Option.some.injEq] at hhi; omega
  have hlo' : lo = none → l = 0 := fun e' => by subst e'; simp only [bndD, Option.some.injEq] at hlo; omega
  have hhc : h ≤ (cap : Int) := by omega
  have hh0 : 0 ≤ h := by omega
  have hlh : l ≤ (h.toNat : Int) := by omega
  cases hi with
  | none =>
   have hn := hhi' rfl
   subst hn
   cases lo with
   | none => have := hlo' rfl; subst this; simp [Instr.sliceBounds]
   | some y =>
    obtain ⟨k, hy⟩ := hlv y rfl
    simp only [Int.toNat_natCast] at hlh
    simp [Instr.sliceBounds, Instr.sliceBound, hy, asIntOf, h0, hlh]
  | some y' =>
   obtain ⟨k', hy'⟩ := hhv y' rfl
   cases lo with
   | none => have := hlo' rfl; subst this; simp [Instr.sliceBounds, Instr.sliceBound, hy', asIntOf, hh0, hhc]
   | some y =>
    obtain ⟨k, hy⟩ := hlv y rfl
    have hmax : max h 0 = h := by omega
    simp [Instr.sliceBounds, Instr.sliceBound, hy, hy', asIntOf, hh0, hhc, h0, hmax, h1]
 have hmn : h.toNat - l.toNat = m := by omega
 refine ⟨.slice (if cap = l.toNat then A else A.map (·.add (l.toNat * j.sz))) m (cap - l.toNat), ?_, .p (jN9 (by omega) (by omega) (fun h' => ?_) (fun h' => by cases h') ?_)⟩
 ·obtain ⟨dst, op, type, pos, after, guard⟩ := o
  simp only at ho
  subst ho
  simp only [execOp, Instr.sliceAt, hv, Sem.run_bind, run_underlying hd0, Result.andThen_ok, Instr.slice, Option.map_none, hbounds, yO hT he, hmn, Sem.run_pure]
 ·split at h'
  ·omega
  ·cases A with
   | none => have := hc3 rfl; omega
   | some a => simp at h'
 ·rcases qs with _ | ⟨q, qs⟩
  ·exact .inl rfl
  ·refine .inr ?_
   have hps : ps ≠ [] := fun e' => by have := hq 0 q rfl; rw [e'] at this; simp at this
   rcases hA with hA | ⟨b, of, rfl, hel⟩
   ·exact absurd hA hps
   ·have hm0 : m ≠ 0 := fun e' => by rw [e'] at hql; simp at hql
    have hne : ¬ cap = l.toNat := by omega
    refine ⟨b, of + l.toNat * j.sz, by rw [if_neg hne]; simp [xG], hel.part _ hq⟩
end
end Go.Proofs.YtkkldicehapklaaGreat
end
section
/- Loops with a condition; arithmetic within bounds; lists of numbers. -/
namespace Go.Proofs.YtkkldicehapklaaGreat
open Go.RowKit
abbrev dI (n : Int) : Dt := .p (.raw (.int .i64 n))
abbrev dB (b : Bool) : Dt := .p (.raw (.bool b))
abbrev pI (n : Int) : Pl := .raw (.int .i64 n)
abbrev pB (b : Bool) : Pl := .raw (.bool b)
def kD (l : List Int) : List Pl := l.map pI
abbrev kK (l : List Int) : Dt := .p (.sl false l.length (kD l))
section
variable {P : Program} {T : Nat → Option TI} {Γ : Ctx} {σ : St} {Q : Exit → St → Prop} {c : Code} {S : Nat → Option Dt} {B : Nat → Option (List Dt)} {o : Oper}
theorem jP {ι : Type} (ok : ι → Prop) (I : ι → St) (μ : ι → Nat) (i0 : ι) (hk : ok i0) (h0 : Ghost Γ σ (I i0)) (round : ∀ i, ok i → AWP P Γ c (jR0 (fun σ' => ∃ j, ok j ∧ μ j < μ i ∧ Ghost Γ σ' (I j)) Q) (I i)) : AWP P Γ (.loop c) Q σ :=
 awp_loop (ι := { i : ι // ok i }) (fun i => I i.1) (fun i => μ i.1) ⟨i0, hk⟩ h0 fun i => jL1 (round i.1 i.2) fun ex σ' h => by
  cases ex with
  | normal => obtain ⟨j, h1, h2, h3⟩ := h; exact ⟨⟨j, h1⟩, h2, h3⟩
  | _ => exact h
theorem yJ {n : Int} (h1 : -9223372036854775808 ≤ n) (h2 : n ≤ 9223372036854775807) : IntKind.i64.wrap n = n := IntWalk.i64_in n (by omega)
theorem add_step (hT : kU P T) {t u : TypeId} {i : TI} {x y : Operand} {a b : Int} (ho : o.op = .binOp .add t x y u) (ht : T t = some i) (hx : ev S x = some (dI a)) (hy : ev S y = some (dI b)) (h1 : -9223372036854775808 ≤ a + b) (h2 : a + b ≤ 9223372036854775807) : QStep P o S B (dI (a + b)) none :=
 jE2 hT (by rw [ho]; simp only [ax, ht, hx, hy, kA9, yJ h1 h2])
theorem sub_step (hT : kU P T) {t u : TypeId} {i : TI} {x y : Operand} {a b : Int} (ho : o.op = .binOp .sub t x y u) (ht : T t = some i) (hx : ev S x = some (dI a)) (hy : ev S y = some (dI b)) (h1 : -9223372036854775808 ≤ a - b) (h2 : a - b ≤ 9223372036854775807) : QStep P o S B (dI (a - b)) none :=
 jE2 hT (by rw [ho]; simp only [ax, ht, hx, hy, kA9, yJ h1 h2])
theorem kH1 {t u : TypeId} {x y : Operand} {a b : Int} (ho : o.op = .binOp .quo t x y u) (hx : ev S x = some (dI a)) (hy : ev S y = some (dI b)) (h0 : 0 ≤ a) (h1 : 0 < b) (h2 : a ≤ 9223372036854775807) : QStep P o S B (dI (a / b)) none := by
 refine kZ fun ac e hs => ?_
 have hx1 := kF (hs.1 x (by rw [ho]; simp [Op.operands]) _ hx)
 have hy1 := kF (hs.1 y (by rw [ho]; simp [Op.operands]) _ hy)
 refine ⟨_, ?_, .p (.raw _)⟩
 obtain ⟨dst, op, type, pos, after, guard⟩ := o
 simp only at ho
 subst ho
 have hb : ¬ b = 0 := by omega
 have hd : a.tdiv b = a / b := Int.tdiv_eq_ediv_of_nonneg h0
 have h3 : 0 ≤ a / b := Int.ediv_nonneg h0 (by omega)
 have h4 : a / b ≤ a := Int.ediv_le_self b h0
 simp [execOp, hx1, hy1, eqGuard, binOp, Op.intDiv, hb, hd, yJ (n := a / b) (by omega) (by omega)]
theorem jY3 {t u : TypeId} {x y : Operand} {a b : Int} (ho : o.op = .binOp .rem t x y u) (hx : ev S x = some (dI a)) (hy : ev S y = some (dI b)) (h0 : 0 ≤ a) (h1 : 0 < b) : QStep P o S B (dI (a % b)) none := by
 refine kZ fun ac e hs => ?_
 have hx1 := kF (hs.1 x (by rw [ho]; simp [Op.operands]) _ hx)
 have hy1 := kF (hs.1 y (by rw [ho]; simp [Op.operands]) _ hy)
 refine ⟨_, ?_, .p (.raw _)⟩
 obtain ⟨dst, op, type, pos, after, guard⟩ := o
 simp only at ho
 subst ho
 have hb : ¬ b = 0 := by omega
 have hd : a.tmod b = a % b := Int.tmod_eq_emod_of_nonneg h0
 simp [execOp, hx1, hy1, eqGuard, binOp, Op.intDiv, hb, hd]
theorem jG1 (l : List Int) : (kD l).length = l.length := by simp [kD]
theorem pInts_get {l : List Int} {i : Nat} {x : Int} (h : l[i]? = some x) : (kD l)[i]? = some (pI x) := by simp [kD, h]
theorem qE {l : List Int} {i : Int} {x : Int} (h : l[i.toNat]? = some x) : ∀ (m : Nat) q, [pI x][m]? = some q → (kD l)[i.toNat * 1 + m]? = some q := by
 intro m q hq
 cases m with
 | zero => simp at hq; subst hq; simpa using pInts_get h
 | succ m => simp at hq
theorem getI {α : Type} {l : List α} {i : Int} (h0 : 0 ≤ i) (h : i < l.length) : ∃ x, l[i.toNat]? = some x := ⟨l[i.toNat]'(by omega), List.getElem?_eq_getElem (by omega)⟩
end
end Go.Proofs.YtkkldicehapklaaGreat
end
section
/- Slices against nil; empty rows with room; elements of arrays; regions with a tail. -/
namespace Go.Proofs.YtkkldicehapklaaGreat
open Go.RowKit
section
variable {P : Program} {T : Nat → Option TI} {Γ : Ctx} {Q : Exit → St → Prop} {o : Oper} {l0 l : List Oper} {s : List (Nat × Dt)} {b : List (Nat × List Dt)} {g : List (Nat × Gr)} {t : Nat}
theorem kN3 {P : Program} {t e : TypeId} (hu : P.underlying t = some (.slice e)) (A : Option Addr) (n c : Nat) (w : World) : (Op.equal t (.slice A n c) (.slice none 0 0)).run P w = .ok A.isNone w := by
 show (Op.equalIn (9999 + 1) t _ _).run P w = _
 rw [Op.equalIn]
 simp only [Sem.run_bind, run_underlying hu, Result.andThen_ok]
 cases A <;> rfl
theorem a_nil (hT : kU P T) {ty u el : TypeId} {z1 z2 : Nat} {z3 : Value} {x : Operand} {dx : Dt} {n : Nat} {ps : List Pl} (ho : o.op = .binOp .eql ty x (.const (.slice none 0 0)) u) (ht : T ty = some ⟨.slice el, z1, z2, z3⟩) (hx : ev (kv s) x = some dx) (hd : slOf dx = some (n, ps)) (hg : gd l0 o (kv s) = some true) (hdst : o.dst = some t) (hl : Nat.blt t Γ.n = true)
  (h : ∀ c : Bool, (c = true → n = 0) → zY P Γ l0 Q l ⟨(t, dB c) :: s, b, g⟩) : zY P Γ l0 Q (o :: l) ⟨s, b, g⟩ := by
 refine ⟨fun a e hc => ?_⟩
 have hs := hc.sees (σ := ⟨s, b, g⟩) o.op.operands
 have h1 := jE6 (hs.1 x (by rw [ho]; simp [Op.operands]) _ hx) hd
 obtain ⟨A, cap, hv, h2, _, h3, _, _⟩ := xN h1
 obtain ⟨d0, hd0, hk⟩ := hT.desc ty _ ht
 cases d0 <;> simp only [jF2, reduceCtorEq, TK.slice.injEq] at hk
 have hn : A.isNone = true → n = 0 := fun h' => by
  have := h3 (by simpa using h')
  omega
 have hrun : (execOp a.eval o).run P e.w = .ok (.value (.bool A.isNone)) e.w := by
  obtain ⟨dst, op, type, pos, after, guard⟩ := o
  simp only at ho
  subst ho
  have hcn : a.eval (.const (.slice none 0 0)) = .slice none 0 0 := rfl
  simp only [execOp, hv, hcn, eqGuard, binOp]
  simp [kN3 hd0]
 have hc' := (hc.put (dst := o.dst) (by rw [hdst]; exact hl) (v := .bool A.isNone) (d := dB A.isNone) (.p (.raw _)))
 unfold wpList
 rw [if_pos (qN hc hg)]
 refine .inl ?_
 unfold Oper.wp
 rw [hrun]
 have := (h A.isNone hn).run (a.put o.dst (.bool A.isNone)) e (by rw [hdst] at hc' ⊢; exact hc')
 exact this
theorem Conc.newRow {σ : St} {e : Env} {a : Act} (hc : Conc Γ σ e a) {gn : Nat} (hg : kv σ.g gn = none) {el : TypeId} {sz c : Nat} {cur : Array Value} (hcur : cur.size = c * sz) (hcm : c ≤ maxLen) :
  ∃ e', e'.w = e.w.alloc (.cells cur el) ∧ Conc Γ ⟨σ.s, σ.b, (gn, ⟨el, sz, 0⟩) :: σ.g⟩ e' a ∧ DRep e' (.slice (some ⟨e.w.heap.size, 0, none⟩) 0 c) (.tip gn 0 []) := by
 have hgi : e.gi gn = none := by rw [hc.gs]; exact hg
 have hng : ∀ k, e.gr k ≠ some gn := fun k hk => by obtain ⟨G, _, h, _⟩ := hc.env.gr k gn hk; rw [hgi] at h; cases h
 have hgr := Env.alloc_grow e (.cells cur el) (some 0)
 have hc1 := hc.grow hgr
 have hsz : (e.alloc (.cells cur el) (some 0)).w.heap.size = e.w.heap.size + 1 := by simp [Env.alloc]
 let e1 := e.alloc (.cells cur el) (some 0)
 let e2 : Env := { e1 with gr := fun k => if k = e.w.heap.size then some gn else e1.gr k, gi := fun h => if h = gn then some ⟨el, sz, 0⟩ else e1.gi h }
 have hnew : e1.gr e.w.heap.size = none := by
  show e.gr _ = none
  rcases hh : e.gr e.w.heap.size with _ | g'
  ·rfl
  ·obtain ⟨_, _, _, hlt, _⟩ := hc.env.gr _ _ hh; omega
 have hE : Ends e1 e2 := by
  refine ⟨fun _ _ _ h1 h2 => ⟨h1, h2⟩, fun _ _ h => h, fun g' G h => ⟨G, ?_, rfl, rfl, Nat.le_refl _⟩, fun k g' G cur' h1 h2 h3 => ⟨?_, cur', h3, rfl⟩⟩
  ·show (if g' = gn then _ else e1.gi g') = _
   rw [if_neg (fun e' => by rw [e'] at h; have : e1.gi gn = none := hgi; rw [this] at h; cases h)]; exact h
  ·show (if k = e.w.heap.size then some gn else e1.gr k) = _
   rw [if_neg (fun e' => by rw [e', hnew] at h1; cases h1)]; exact h1
 refine ⟨e2, rfl, ⟨hc1.size, hc1.df, fun t d ht => (hc1.slots t d ht).next hE, fun b cs hb => (hc1.boxes b cs hb).ends hE rfl, hc1.nobox, fun h => ?_, hc1.env.kept, hc1.env.cl, fun b k hk => ?_, hc1.env.inj, fun k g' hk => ?_, hc1.env.kb⟩, ?_⟩
 ·show (if h = gn then _ else e1.gi h) = _
  simp only [jU]
  by_cases e1' : h = gn
  ·subst e1'; simp
  ·rw [if_neg e1', if_neg (fun e' => e1' e'.symm)]; exact hc1.gs h
 ·obtain ⟨h1, h2, h3, h4⟩ := hc1.env.bx b k hk
  refine ⟨h1, h2, h3, ?_⟩
  show (if k = e.w.heap.size then some gn else e1.gr k) = none
  have hk' : e.bx b = some k := hk
  have := (hc.env.bx b k hk').1
  rw [if_neg (by omega)]; exact h4
 ·have hk' : (if k = e.w.heap.size then some gn else e1.gr k) = some g' := hk
  split at hk'
  ·rename_i hke
   cases hk'
   refine ⟨⟨el, sz, 0⟩, cur, by show (if gn = gn then _ else _) = _; simp, ?_, .inl ?_, ?_, ?_⟩
   ·show k < (e.w.alloc _).heap.size; rw [hke]; simp
   ·rw [hke]; exact hc.env.kept.size
   ·show (if k = e.w.heap.size then some 0 else e.cl k) = _; rw [if_pos hke]; simp
   ·rw [hke]; exact heap_alloc_new e.w _
  ·rename_i hke
   obtain ⟨G, cur', h1, h2⟩ := hc1.env.gr k g' hk'
   exact ⟨G, cur', by show (if g' = gn then _ else e1.gi g') = _; rw [if_neg (fun e' => hng k (by rw [← e']; exact hk'))]; exact h1, h2⟩
 ·refine .tip (jN9 (Nat.zero_le _) hcm (fun h => by cases h) (fun h => by cases h) (.inl rfl)) ⟨⟨el, sz, 0⟩, _, c, by show (if gn = gn then _ else _) = _; simp, rfl, Nat.le_refl _, by simp, .inr ⟨e.w.heap.size, rfl, ?_, cur, heap_alloc_new e.w _, hcur⟩⟩
  show (if e.w.heap.size = e.w.heap.size then some gn else e1.gr _) = _
  simp
theorem jU0 {S : Nat → Option Dt} {B : Nat → Option (List Dt)} (hT : kU P T) {ty el : TypeId} {n z1 z2 : Nat} {z3 : Value} {j : TI} {x y : Operand} {ds : List Dt} {k : IntKind} {i : Int} (d : Dt) (ho : o.op = .index ty x y) (ht : T ty = some ⟨.array n el, z1, z2, z3⟩) (he : T el = some j) (hag : j.k.agg = false) (hx : ev S x = some (.agg ds)) (hy : ev S y = some (.p (.raw (.int k i)))) (h0 : 0 ≤ i) (hlt : i < n) (hd : ds[i.toNat * j.sz]? = some d) : QStep P o S B d none := by
 refine kZ fun a e hs => ?_
 have h1 := hs.1 x (by rw [ho]; simp [Op.operands]) _ hx
 have h2 := kF (hs.1 y (by rw [ho]; simp [Op.operands]) _ hy)
 generalize hev : a.eval x = vx at h1
 cases h1 with
 | agg hl hh =>
  rename_i vs
  obtain ⟨d0, hd0, hk⟩ := hT.desc ty _ ht
  cases d0 <;> simp only [jF2, reduceCtorEq, TK.array.injEq] at hk
  rw [hk.1, hk.2] at hd0
  obtain ⟨v, h3, h4⟩ := DReps.get ⟨hl, hh⟩ hd
  refine ⟨v, ?_, h4⟩
  obtain ⟨dst, op, type, pos, after, guard⟩ := o
  simp only at ho
  subst ho
  simp [execOp, hev, h2, Instr.index, asIntOf, run_underlying hd0, h0, hlt, yO hT he, part, jR3 hT he, hag, h3]
end
end Go.Proofs.YtkkldicehapklaaGreat
end
section
/- Rests and conversions of other kinds of numbers. -/
namespace Go.Proofs.YtkkldicehapklaaGreat
open Go.RowKit
abbrev dK (k : IntKind) (n : Int) : Dt := .p (.raw (.int k n))
section
variable {P : Program} {T : Nat → Option TI} {S : Nat → Option Dt} {B : Nat → Option (List Dt)} {o : Oper}
theorem remk_step {k : IntKind} {t u : TypeId} {x y : Operand} {a b : Int} (ho : o.op = .binOp .rem t x y u) (hx : ev S x = some (dK k a)) (hy : ev S y = some (dK k b)) (h0 : 0 ≤ a) (h1 : 0 < b) : QStep P o S B (dK k (a % b)) none := by
 refine kZ fun ac e hs => ?_
 have hx1 := kF (hs.1 x (by rw [ho]; simp [Op.operands]) _ hx)
 have hy1 := kF (hs.1 y (by rw [ho]; simp [Op.operands]) _ hy)
 refine ⟨_, ?_, .p (.raw _)⟩
 obtain ⟨dst, op, type, pos, after, guard⟩ := o
 simp only at ho
 subst ho
 have hb : ¬ b = 0 := by omega
 have hd : a.tmod b = a % b := Int.tmod_eq_emod_of_nonneg h0
 simp [execOp, hx1, hy1, eqGuard, binOp, Op.intDiv, hb, hd]
theorem kC7 (hT : kU P T) {k : IntKind} {s t : TypeId} {x : Operand} {n : Int} {ks : IntKind} {z1 z2 z4 z5 : Nat} {z3 z6 : Value} (ho : o.op = .convert s t x) (hs : T s = some ⟨.int ks, z1, z2, z3⟩) (ht : T t = some ⟨.int .i64, z4, z5, z6⟩) (hx : ev S x = some (dK k n)) (h1 : -9223372036854775808 ≤ n) (h2 : n ≤ 9223372036854775807) : QStep P o S B (dI n) none :=
 jE2 hT (by rw [ho]; simp only [ax, hs, ht, hx, yJ h1 h2])
end
end Go.Proofs.YtkkldicehapklaaGreat
end
section
/- Functions that write variables that are handed to them: what they are given, what they leave; their calls; scopes and labels. -/
namespace Go.Proofs.YtkkldicehapklaaGreat
open Go.RowKit
/-! ### What names other variables is forgotten -/
def jY4 (B : Nat → Bool) (d : Dt) : Dt := bif d.ok B (fun _ => true) then d else .any
def cutS (B : Nat → Bool) : List (Nat × Dt) → List (Nat × Dt)
 | [] => []
 | (t, d) :: l => (t, jY4 B d) :: cutS B l
def wH {α : Type} (B : Nat → Bool) : List (Nat × Dt) → (List (Nat × Dt) → Option α) → Option α
 | [], k => k []
 | (t, d) :: l, k => match d.ok B (fun _ => true) with
  | true => wH B l fun r => k ((t, d) :: r)
  | false => wH B l fun r => k ((t, .any) :: r)
theorem jB3 {α : Type} (B : Nat → Bool) : ∀ (l : List (Nat × Dt)) (k : List (Nat × Dt) → Option α), wH B l k = k (cutS B l)
 | [], k => rfl
 | (t, d) :: l, k => by
  rw [wH, cutS]
  unfold jY4
  cases d.ok B (fun _ => true) <;> simp only [jB3 B l] <;> rfl
def cutC (B : Nat → Bool) : List Dt → List Dt
 | [] => []
 | d :: l => jY4 B d :: cutC B l
def cutCK {α : Type} (B : Nat → Bool) : List Dt → (List Dt → Option α) → Option α
 | [], k => k []
 | d :: l, k => match d.ok B (fun _ => true) with
  | true => cutCK B l fun r => k (d :: r)
  | false => cutCK B l fun r => k (.any :: r)
theorem kK9 {α : Type} (B : Nat → Bool) : ∀ (l : List Dt) (k : List Dt → Option α), cutCK B l k = k (cutC B l)
 | [], k => rfl
 | d :: l, k => by
  rw [cutCK, cutC]
  unfold jY4
  cases d.ok B (fun _ => true) <;> simp only [kK9 B l] <;> rfl
def jA8 (H B : Nat → Bool) : List (Nat × List Dt) → List (Nat × List Dt)
 | [] => []
 | (b, cs) :: l => bif H b then jA8 H B l else (b, cutC B cs) :: jA8 H B l
def jA3 {α : Type} (H B : Nat → Bool) : List (Nat × List Dt) → (List (Nat × List Dt) → Option α) → Option α
 | [], k => k []
 | (b, cs) :: l, k => match H b with
  | true => jA3 H B l k
  | false => cutCK B cs fun q => jA3 H B l fun r => k ((b, q) :: r)
theorem jB8 {α : Type} (H B : Nat → Bool) : ∀ (l : List (Nat × List Dt)) (k : List (Nat × List Dt) → Option α), jA3 H B l k = k (jA8 H B l)
 | [], k => rfl
 | (b, cs) :: l, k => by
  rw [jA3, jA8]
  cases H b <;> simp only [kK9, jB8 H B l] <;> rfl
theorem kJ5 {B : Nat → Bool} : ∀ {l : List (Nat × Dt)} {t : Nat} {d : Dt}, kv (cutS B l) t = some d → ∃ d0, kv l t = some d0 ∧ d = jY4 B d0
 | [], t, d, h => by cases h
 | (u, c) :: l, t, d, h => by
  simp only [cutS, jU] at h ⊢
  split at h
  ·rename_i hu; cases h; exact ⟨c, by rw [if_pos hu], rfl⟩
  ·rename_i hu
   obtain ⟨d0, h1, h2⟩ := kJ5 h
   exact ⟨d0, by rw [if_neg hu]; exact h1, h2⟩
theorem jL3 {H B : Nat → Bool} : ∀ {l : List (Nat × List Dt)} {b : Nat} {cs : List Dt}, kv (jA8 H B l) b = some cs → H b = false ∧ ∃ cs0, kv l b = some cs0 ∧ cs = cutC B cs0
 | [], b, cs, h => by cases h
 | (u, c) :: l, b, cs, h => by
  simp only [jA8] at h
  cases hH : H u with
  | true =>
   rw [hH] at h
   obtain ⟨h1, cs0, h2, h3⟩ := jL3 (l := l) h
   exact ⟨h1, cs0, by rw [jU, if_neg (fun e => by rw [e, h1] at hH; cases hH)]; exact h2, h3⟩
  | false =>
   rw [hH] at h
   simp only [cond_false, jU] at h
   split at h
   ·rename_i hu; subst hu; cases h; exact ⟨hH, c, by rw [jU, if_pos rfl], rfl⟩
   ·rename_i hu
    obtain ⟨h1, cs0, h2, h3⟩ := jL3 h
    exact ⟨h1, cs0, by rw [jU, if_neg hu]; exact h2, h3⟩
theorem jS4 {H B : Nat → Bool} : ∀ {l : List (Nat × List Dt)} {b : Nat}, kv (jA8 H B l) b = none → H b = true ∨ kv l b = none
 | [], b, h => .inr rfl
 | (u, c) :: l, b, h => by
  simp only [jA8] at h
  cases hH : H u with
  | true =>
   rw [hH] at h
   by_cases e : u = b
   ·exact .inl (by rw [← e]; exact hH)
   ·rw [jU, if_neg e]; exact jS4 (l := l) h
  | false =>
   rw [hH] at h
   simp only [cond_false, jU] at h
   split at h
   ·cases h
   ·rename_i hu; rw [jU, if_neg hu]; exact jS4 h
theorem kJ3 {e : Env} {B : Nat → Bool} {v : Value} {d : Dt} (h : DRep e v d) : DRep (e.cut B fun _ => true) v (jY4 B d) := by
 unfold jY4
 cases hk : d.ok B (fun _ => true) with
 | true => exact h.cut hk
 | false => exact .any
theorem kM8 {e : Env} {B : Nat → Bool} : ∀ {cs : List Dt} {vs : List Value}, DReps e vs cs → DReps (e.cut B fun _ => true) vs (cutC B cs)
 | [], vs, h => by
  have : vs = [] := List.eq_nil_of_length_eq_zero h.1
  subst this
  exact DReps.nil _
 | d :: cs, vs, h => by
  obtain ⟨v, vs', rfl, h1, h2⟩ := h.uncons
  exact DReps.cons (kJ3 h1) (kM8 h2)
section
variable {P : Program} {T : Nat → Option TI} {Γ : Ctx} {σ σ' τ : St} {o : Oper}
structure jA7 (bs : List (Nat × List Dt)) (e : Env) : Prop where
 boxes : ∀ b cs, kv bs b = some cs → BoxAt e b cs
 nobox : ∀ b, kv bs b = none → e.bx b = none
 gi : ∀ g, e.gi g = none
 gr : ∀ k, e.gr k = none
 bx : ∀ b k, e.bx b = some k → k < e.w.heap.size ∧ e.cl k = some 0
 inj : ∀ b c k, e.bx b = some k → e.bx c = some k → b = c
structure jN3 (keep : List Nat) (e e' : Env) : Prop where
 kept : Kept (fun k => ∃ b, e.bx b = some k) e.w e'.w
 cl : ∀ k, k < e.w.heap.size → ¬ (∃ b, e.bx b = some k) → e'.cl k = e.cl k
 bx : ∀ b k, e'.bx b = some k → e.w.heap.size ≤ k ∨ ∃ c, e.bx c = some k
 keep : ∀ b, b ∈ keep → e'.bx b = e.bx b
def ImpC (P : Program) (f : FuncId) (keep : List Nat) (ds : List Dt) (bs : List (Nat × List Dt)) (R : Dt → List (Nat × List Dt) → Prop) : Prop :=
 ∀ (e : Env) (vs : List Value), jA7 bs e → DReps e vs ds →
  Calls P f vs.toArray e.w (fun r w' => ∃ v d bs' e', r = .returned v ∧ e'.w = w' ∧ R d bs' ∧ jA7 bs' e' ∧ DRep e' v d ∧ jN3 keep e e')
def inL (l : List Nat) (n : Nat) : Bool := match l with
 | [] => false
 | x :: l => bif Nat.beq x n then true else inL l n
theorem inL_mem : ∀ {l : List Nat} {n : Nat}, inL l n = true → n ∈ l
 | [], n, h => by cases h
 | x :: l, n, h => by
  simp only [inL] at h
  cases hx : Nat.beq x n with
  | true => rw [Nat.eq_of_beq_eq_true hx]; exact List.mem_cons_self
  | false => rw [hx] at h; exact List.mem_cons_of_mem _ (inL_mem h)
theorem mem_inL : ∀ {l : List Nat} {n : Nat}, n ∈ l → inL l n = true
 | [], n, h => by cases h
 | x :: l, n, h => by
  simp only [inL]
  cases hx : Nat.beq x n with
  | true => rfl
  | false =>
   rcases List.mem_cons.1 h with h | h
   ·subst h; rw [Nat.beq_refl] at hx; cases hx
   ·exact mem_inL h
def SubH (σ : St) (H : Nat → Bool) : List (Nat × List Dt) → Prop
 | [] => True
 | p :: l => (kv σ.b p.1 = some p.2 ∧ Dt.ok.oks H (fun _ => false) p.2 = true) ∧ SubH σ H l
theorem SubH.get {H : Nat → Bool} : ∀ {l : List (Nat × List Dt)} (_ : SubH σ H l) {t : Nat} {d : List Dt}, kv l t = some d → kv σ.b t = some d ∧ Dt.ok.oks H (fun _ => false) d = true
 | [], _, t, d, h => by cases h
 | (k, v) :: l, hs, t, d, h => by
  rw [jU] at h
  split at h
  ·rename_i hk; subst hk; cases h; exact hs.1
  ·exact hs.2.get h
theorem uC {e : Env} {a : Act} (hc : Conc Γ σ e a) {bs : List (Nat × List Dt)} (hs : SubH σ (jM bs) bs) : jA7 bs (e.cut (jM bs) fun _ => false) := by
 refine ⟨fun b cs hb => ?_, fun b hb => ?_, fun g => ?_, fun k => ?_, fun b k hk => ?_, fun b c k h1 h2 => ?_⟩
 ·obtain ⟨h1, h2⟩ := hs.get hb
  obtain ⟨k, vs, el, h3, h4, h5⟩ := hc.boxes b cs h1
  refine ⟨k, vs, el, ?_, h4, h5.1, fun i v d hv hd => (h5.2 i v d hv hd).cut (xR h2 hd)⟩
  show (if jM bs b = true then e.bx b else none) = _
  rw [if_pos (by simp [jM, hb])]; exact h3
 ·show (if jM bs b = true then e.bx b else none) = _
  rw [if_neg (by simp [jM, hb])]
 ·show (if false = true then e.gi g else none) = _
  simp
 ·show (match e.gr k with | some g => if false = true then some g else none | none => none) = none
  cases e.gr k <;> simp
 ·have hk' : (if jM bs b = true then e.bx b else none) = some k := hk
  split at hk'
  ·obtain ⟨h1, _, h3, _⟩ := hc.env.bx b k hk'; exact ⟨h1, h3⟩
  ·cases hk'
 ·have h1' : (if jM bs b = true then e.bx b else none) = some k := h1
  have h2' : (if jM bs c = true then e.bx c else none) = some k := h2
  split at h1'
  ·split at h2'
   ·exact hc.env.inj b c k h1' h2'
   ·cases h2'
  ·cases h1'
def Env.after (e e' : Env) (bs bs' : List (Nat × List Dt)) : Env :=
 { w := e'.w, cl := e'.cl, bx := fun b => if jM bs' b = true then e'.bx b else if jM bs b = true then none else e.bx b, gr := e.gr, gi := e.gi }
theorem Conc.after {e e' : Env} {a : Act} (hc : Conc Γ σ e a) {keep : List Nat} {bs bs' : List (Nat × List Dt)} (hI : jA7 bs' e') (hL : jN3 keep (e.cut (jM bs) fun _ => false) e') (hfree : ∀ b, jM bs' b = true → jM bs b = true ∨ kv σ.b b = none) (hkb : ∀ b k, kv Γ.kb b = some k → jM bs b = true → b ∈ keep) :
  Conc Γ ⟨cutS (fun b => !jM bs b || inL keep b) σ.s, bs' ++ jA8 (jM bs) (fun b => !jM bs b || inL keep b) σ.b, σ.g⟩ (e.after e' bs bs') a ∧ Ends e' (e.after e' bs bs') := by
 have hown : ∀ k, (∃ b, (e.cut (jM bs) fun _ => false).bx b = some k) → ∃ b, jM bs b = true ∧ e.bx b = some k := by
  rintro k ⟨b, hb⟩
  have hb' : (if jM bs b = true then e.bx b else none) = some k := hb
  split at hb'
  ·rename_i hin; exact ⟨b, hin, hb'⟩
  ·cases hb'
 have hnot : ∀ b o, e.claimed b o → ¬ ∃ c, (e.cut (jM bs) fun _ => false).bx c = some b := by
  intro b o hcl hh
  obtain ⟨c, _, h1⟩ := hown b hh
  have := hcl 0 (hc.env.bx c b h1).2.2.1
  omega
 have hngr : ∀ k g, e.gr k = some g → ¬ ∃ c, (e.cut (jM bs) fun _ => false).bx c = some k := by
  intro k g hg hh
  obtain ⟨c, _, h1⟩ := hown k hh
  rw [(hc.env.bx c k h1).2.2.2] at hg
  cases hg
 have hoth : ∀ b k, jM bs b = false → e.bx b = some k → ¬ ∃ c, (e.cut (jM bs) fun _ => false).bx c = some k := by
  intro b k hb hk hh
  obtain ⟨c, h1, h2⟩ := hown k hh
  rw [hc.env.inj c b k h2 hk, hb] at h1
  cases h1
 have hnb : ∀ b, jM bs b = false → ∀ k, e.bx b = some k → jM bs' b = false := by
  intro b hb k hk
  cases hin : jM bs' b with
  | false => rfl
  | true =>
   rcases hfree b hin with h | h
   ·rw [hb] at h; cases h
   ·rw [hc.nobox b h] at hk; cases hk
 have hE' : Ends e' (e.after e' bs bs') := by
  refine ⟨fun _ _ _ h1 h2 => ⟨h1, h2⟩, fun b k hk => ?_, fun g G hg => ?_, fun k g G cur hg => ?_⟩
  ·show (if jM bs' b = true then e'.bx b else _) = _
   rw [if_pos]
   ·exact hk
   ·cases hb : kv bs' b with
    | none => rw [hI.nobox b hb] at hk; cases hk
    | some cs => simp [jM, hb]
  ·rw [hI.gi g] at hg; cases hg
  ·rw [hI.gr k] at hg; cases hg
 have hE : Ends (e.cut (fun b => !jM bs b || inL keep b) fun _ => true) (e.after e' bs bs') := by
  refine ⟨fun b o v hcl hv => ?_, fun b k hk => ?_, fun g G hg => ⟨G, (show (if true = true then e.gi g else none) = some G from hg) ▸ (if_pos rfl).symm, rfl, rfl, Nat.le_refl _⟩, fun k g G cur h1 h2 h3 => ?_⟩
  ·have hn := hnot b o hcl
   have hb := jZ6 hv
   refine ⟨fun n hn' => hcl n ?_, ?_⟩
   ·have : e'.cl b = e.cl b := hL.cl b hb hn
    show e.cl b = _
    rw [← this]; exact hn'
   ·show e'.w.cell? _ = _
    rw [World.cell?_of_block (w := e.w) (hL.kept.block b hb hn)]; exact hv
  ·have hk' : (if (!jM bs b || inL keep b) = true then e.bx b else none) = some k := hk
   split at hk'
   ·rename_i hB
    cases hin : jM bs b with
    | false =>
     show (if jM bs' b = true then e'.bx b else if jM bs b = true then none else e.bx b) = _
     rw [hnb b hin k hk', hin]; simpa using hk'
    | true =>
     rw [hin] at hB
     have hm := inL_mem (show inL keep b = true by simpa using hB)
     have h1 : e'.bx b = some k := by
      rw [hL.keep b hm]
      show (if jM bs b = true then e.bx b else none) = _
      rw [if_pos hin]; exact hk'
     exact hE'.bx b k h1
   ·cases hk'
  ·have h1' : (match e.gr k with | some g => if true = true then some g else none | none => none) = some g := h1
   have hg : e.gr k = some g := by
    cases hgk : e.gr k with
    | none => rw [hgk] at h1'; cases h1'
    | some g0 => rw [hgk] at h1'; simpa using h1'
   refine ⟨hg, cur, ?_, rfl⟩
   show e'.w.heap[k]? = _
   rw [hL.kept.block k (jB4 h3) (hngr k g hg)]; exact h3
 refine ⟨⟨hc.size, hc.df, fun t d ht => ?_, fun b cs hb => ?_, fun b hb => ?_, hc.gs, ⟨?_, fun k hk ho => ?_, fun b k hk => ?_, fun b c k h1 h2 => ?_, fun k g hg => ?_, fun b k hk => ?_⟩⟩, hE'⟩
 ·obtain ⟨d0, h1, rfl⟩ := kJ5 ht
  exact (kJ3 (hc.slots t d0 h1)).next hE
 ·have hsplit : (∃ cs', kv bs' b = some cs' ∧ cs' = cs) ∨ (kv bs' b = none ∧ kv (jA8 (jM bs) (fun b => !jM bs b || inL keep b) σ.b) b = some cs) := by
   clear hE hE' hnb hfree hI hL
   induction bs' with
   | nil => exact .inr ⟨rfl, hb⟩
   | cons p l ih =>
    obtain ⟨u, q⟩ := p
    simp only [List.cons_append, jU] at hb ⊢
    split at hb
    ·rename_i hu; cases hb; exact .inl ⟨cs, by rw [if_pos hu], rfl⟩
    ·rename_i hu; rw [if_neg hu]; exact ih hb
  rcases hsplit with ⟨_, h1, rfl⟩ | ⟨h1, h2⟩
  ·exact (hI.boxes b _ h1).ends hE' rfl
  ·obtain ⟨h3, cs0, h4, rfl⟩ := jL3 h2
   obtain ⟨k, vs, el, h5, h6, h7⟩ := hc.boxes b cs0 h4
   refine ⟨k, vs, el, ?_, ?_, (kM8 h7).next hE⟩
   ·show (if jM bs' b = true then e'.bx b else if jM bs b = true then none else e.bx b) = _
    rw [hnb b h3 k h5, h3]; simpa using h5
   ·show e'.w.heap[k]? = _
    rw [hL.kept.block k (jB4 h6) (hoth b k h3 h5)]; exact h6
 ·have hsplit : kv bs' b = none ∧ kv (jA8 (jM bs) (fun b => !jM bs b || inL keep b) σ.b) b = none := by
   clear hE hE' hnb hfree hI hL
   induction bs' with
   | nil => exact ⟨rfl, hb⟩
   | cons p l ih =>
    obtain ⟨u, q⟩ := p
    simp only [List.cons_append, jU] at hb ⊢
    split at hb
    ·cases hb
    ·rename_i hu; rw [if_neg hu]; exact ih hb
  show (if jM bs' b = true then e'.bx b else if jM bs b = true then none else e.bx b) = _
  rw [if_neg (by simp [jM, hsplit.1])]
  split
  ·rfl
  ·rename_i hn
   rcases jS4 hsplit.2 with h | h
   ·exact absurd h hn
   ·exact hc.nobox b h
 ·refine ⟨hL.kept.os.trans hc.env.kept.os, hL.kept.tape.trans hc.env.kept.tape, hL.kept.output.trans hc.env.kept.output, Nat.le_trans hc.env.kept.size hL.kept.size, fun k hk ho => ?_⟩
  show e'.w.heap[k]? = _
  rw [hL.kept.block k (Nat.lt_of_lt_of_le hk hc.env.kept.size)]
  ·exact hc.env.kept.block k hk ho
  ·intro hh
   obtain ⟨c, _, h1⟩ := hown k hh
   rcases (hc.env.bx c k h1).2.1 with h | h
   ·omega
   ·exact ho h
 ·show e'.cl k = _
  rw [hL.cl k (Nat.lt_of_lt_of_le hk hc.env.kept.size)]
  ·exact hc.env.cl k hk ho
  ·intro hh
   obtain ⟨c, _, h1⟩ := hown k hh
   rcases (hc.env.bx c k h1).2.1 with h | h
   ·omega
   ·exact ho h
 ·have hk' : (if jM bs' b = true then e'.bx b else if jM bs b = true then none else e.bx b) = some k := hk
  split at hk'
  ·obtain ⟨h1, h2⟩ := hI.bx b k hk'
   refine ⟨h1, ?_, h2, ?_⟩
   ·rcases hL.bx b k hk' with h | h
    ·exact .inl (Nat.le_trans hc.env.kept.size h)
    ·obtain ⟨c, _, h3⟩ := hown k h
     exact (hc.env.bx c k h3).2.1
   ·show e.gr k = none
    cases hg : e.gr k with
    | none => rfl
    | some g =>
     obtain ⟨_, _, _, h3, _⟩ := hc.env.gr k g hg
     rcases hL.bx b k hk' with h | h
     ·have h' : e.w.heap.size ≤ k := h
      omega
     ·exact absurd h (hngr k g hg)
  ·split at hk'
   ·cases hk'
   ·rename_i hn
    obtain ⟨h1, h2, h3, h4⟩ := hc.env.bx b k hk'
    refine ⟨Nat.lt_of_lt_of_le h1 hL.kept.size, h2, ?_, h4⟩
    show e'.cl k = _
    rw [hL.cl k h1 (hoth b k (by simpa using hn) hk')]; exact h3
 ·have h1' : (if jM bs' b = true then e'.bx b else if jM bs b = true then none else e.bx b) = some k := h1
  have h2' : (if jM bs' c = true then e'.bx c else if jM bs c = true then none else e.bx c) = some k := h2
  have mixed : ∀ b c, e'.bx b = some k → jM bs c = false → e.bx c = some k → False := by
   intro b c hb hc1 hc2
   rcases hL.bx b k hb with h | h
   ·have h' : e.w.heap.size ≤ k := h
    have := (hc.env.bx c k hc2).1
    omega
   ·exact hoth c k hc1 hc2 h
  split at h1'
  ·split at h2'
   ·exact hI.inj b c k h1' h2'
   ·split at h2'
    ·cases h2'
    ·rename_i hn; exact (mixed b c h1' (by simpa using hn) h2').elim
  ·split at h1'
   ·cases h1'
   ·rename_i hn
    split at h2'
    ·exact (mixed c b h2' (by simpa using hn) h1').elim
    ·split at h2'
     ·cases h2'
     ·exact hc.env.inj b c k h1' h2'
 ·obtain ⟨G, cur, h1, h2, h3, h4, h5⟩ := hc.env.gr k g hg
  refine ⟨G, cur, h1, Nat.lt_of_lt_of_le h2 hL.kept.size, h3, ?_, ?_⟩
  ·show e'.cl k = _
   rw [hL.cl k h2 (hngr k g hg)]; exact h4
  ·show e'.w.heap[k]? = _
   rw [hL.kept.block k h2 (hngr k g hg)]; exact h5
 ·have h1 := hc.env.kb b k hk
  refine hE.bx b k ?_
  show (if (!jM bs b || inL keep b) = true then e.bx b else none) = _
  rw [if_pos]
  ·exact h1
  ·cases hin : jM bs b with
   | false => rfl
   | true =>
    have := mem_inL (hkb b k hk hin)
    simp [this]
end
end Go.Proofs.YtkkldicehapklaaGreat
end
section
/- Calls of functions that write variables of ours; how such a function is walked; scopes and labels. -/
namespace Go.Proofs.YtkkldicehapklaaGreat
open Go.RowKit
section
variable {P : Program} {T : Nat → Option TI} {Γ : Ctx} {σ σ' τ : St} {o : Oper} {l0 l : List Oper} {Q : Exit → St → Prop}
variable {s s' : List (Nat × Dt)} {b b' : List (Nat × List Dt)} {g : List (Nat × Gr)} {t : Nat} {d : Dt}
def FreeIn (bs b : List (Nat × List Dt)) : List (Nat × List Dt) → Prop
 | [] => True
 | p :: l => (jM bs p.1 = true ∨ kv b p.1 = none) ∧ FreeIn bs b l
theorem FreeIn.get {bs b : List (Nat × List Dt)} : ∀ {l : List (Nat × List Dt)} (_ : FreeIn bs b l) {n : Nat}, jM l n = true → jM bs n = true ∨ kv b n = none
 | [], _, n, h => by simp [jM, kv] at h
 | (k, v) :: l, hs, n, h => by
  by_cases e : k = n
  ·subst e; exact hs.1
  ·exact hs.2.get (by simpa [jM, jU, e] using h)
def KeepOk (keep : List Nat) (bs : List (Nat × List Dt)) : List (Nat × Nat) → Prop
 | [] => True
 | p :: l => (jM bs p.1 = false ∨ inL keep p.1 = true) ∧ KeepOk keep bs l
theorem KeepOk.get {keep : List Nat} {bs : List (Nat × List Dt)} : ∀ {l : List (Nat × Nat)} (_ : KeepOk keep bs l) {b k : Nat}, kv l b = some k → jM bs b = true → b ∈ keep
 | [], _, n, k, h, _ => by cases h
 | (x, v) :: l, hs, n, k, h, hb => by
  rw [jU] at h
  split at h
  ·rename_i e
   subst e
   rcases hs.1 with h1 | h1
   ·rw [hb] at h1; cases h1
   ·exact inL_mem h1
  ·exact hs.2.get h hb
theorem imp_core {f : FuncId} {keep : List Nat} {ds : List Dt} {bs : List (Nat × List Dt)} {R : Dt → List (Nat × List Dt) → Prop} (hC : ImpC P f keep ds bs R) {e : Env} {a : Act} (hc : Conc Γ ⟨s, b, g⟩ e a) {vs : List Value} (hv : DReps e vs ds) (hok : Dt.ok.oks (jM bs) (fun _ => false) ds = true) (hs : SubH ⟨s, b, g⟩ (jM bs) bs) (hkb : KeepOk keep bs Γ.kb)
  (hd : o.dst = some t) (hl : Nat.blt t Γ.n = true) (hcut : wH (fun b => !jM bs b || inL keep b) s (fun s' => jA3 (jM bs) (fun b => !jM bs b || inL keep b) b (fun b' => some (s', b'))) = some (s', b'))
  (hfree : ∀ d bs', R d bs' → FreeIn bs b bs') {Q' : Exit → Act → World → Prop} :
  Calls P f vs.toArray e.w fun
   | .returned v, w'' => ∃ d bs' e', R d bs' ∧ e'.w = w'' ∧ Conc Γ ⟨(t, d) :: s', bs' ++ b', g⟩ e' (a.put o.dst v)
   | .panicked _, _ => False
   | .outgrown, _ => LetsOut Q' := by
 rw [jB3, jB8] at hcut
 cases hcut
 refine (hC (e.cut (jM bs) fun _ => false) vs (uC hc hs) ⟨hv.1, fun i v d h1 h2 => (hv.2 i v d h1 h2).cut (xR hok h2)⟩).mono fun r w' hh => ?_
 obtain ⟨v, d, bs', e', rfl, rfl, hR, hI, hr, hL⟩ := hh
 obtain ⟨h1, h2⟩ := hc.after hI hL (fun n hn => (hfree d bs' hR).get hn) (fun n k h1 h2 => hkb.get h1 h2)
 refine ⟨d, bs', e.after e' bs bs', hR, rfl, ?_⟩
 have := h1.put (dst := o.dst) (jC5 hd hl) (hr.next h2)
 rw [hd] at this ⊢
 exact this
theorem aops_imp (hg : gd l0 o (kv s) = some true) {R : Dt → List (Nat × List Dt) → Prop} (hs : ∀ (a : Act) (e : Env), Conc Γ ⟨s, b, g⟩ e a → o.wp P a e.w (fun a' w' => ∃ d bs' e', R d bs' ∧ e'.w = w' ∧ Conc Γ ⟨(t, d) :: s', bs' ++ b', g⟩ e' a') (fun _ _ _ => False)) (h : ∀ d bs', R d bs' → zY P Γ l0 Q l ⟨(t, d) :: s', bs' ++ b', g⟩) : zY P Γ l0 Q (o :: l) ⟨s, b, g⟩ := by
 refine ⟨fun a e hc => ?_⟩
 unfold wpList
 rw [if_pos (qN hc hg)]
 refine .inl (jJ2 (hs a e hc) fun a' w' hh => ?_)
 obtain ⟨d, bs', e', hR, rfl, hc'⟩ := hh
 exact (h d bs' hR).run a' e' hc'
theorem jK6 {a : Act} {e : Env} {S : Nat → Option Dt} (xs : List Operand) {ds : List Dt} (h : ∀ x ∈ xs, ∀ d, ev S x = some d → DRep e (a.eval x) d) (he : jK4 S xs some = some ds) : DReps e (xs.map a.eval) ds := by
 obtain ⟨ds0, h1, h2⟩ := xI xs _ ds h he
 cases h2
 exact h1
theorem yX {f : FuncId} {keep : List Nat} {ds : List Dt} {bs : List (Nat × List Dt)} {R : Dt → List (Nat × List Dt) → Prop} {xs : List Operand} {ats : Array TypeId} (hC : ImpC P f keep ds bs R) (ho : o.op = .call { callee := .value (.func f), args := xs.toArray, argTypes := ats }) (hf : uH P f) (he : jK4 (kv s) xs some = some ds) (hok : Dt.ok.oks (jM bs) (fun _ => false) ds = true) (hs : SubH ⟨s, b, g⟩ (jM bs) bs) (hkb : KeepOk keep bs Γ.kb)
  (hg : gd l0 o (kv s) = some true) (hd : o.dst = some t) (hl : Nat.blt t Γ.n = true) (hcut : wH (fun b => !jM bs b || inL keep b) s (fun s' => jA3 (jM bs) (fun b => !jM bs b || inL keep b) b (fun b' => some (s', b'))) = some (s', b'))
  (hfree : ∀ d bs', R d bs' → FreeIn bs b bs') (h : ∀ d bs', R d bs' → zY P Γ l0 Q l ⟨(t, d) :: s', bs' ++ b', g⟩) : zY P Γ l0 Q (o :: l) ⟨s, b, g⟩ := by
 refine aops_imp hg (fun a e hc => ?_) h
 have hsee := hc.sees o.op.operands
 have hv := jK6 (a := a) (e := e) xs (fun x hx => hsee.1 x (by rw [ho]; simp [Op.operands, Call.operands, hx])) he
 unfold Oper.wp
 have e1 : (execOp a.eval o).run P e.w = .ok (.enter f (xs.map a.eval).toArray) e.w := by
  obtain ⟨dst, op, type, pos, after, guard⟩ := o
  simp only at ho
  subst ho
  rw [execOp_call_go, hf]
  simp
 rw [e1]
 exact imp_core hC hc hv hok hs hkb hd hl hcut hfree
theorem wG {f : FuncId} {keep : List Nat} {ds first caps : List Dt} {bs : List (Nat × List Dt)} {R : Dt → List (Nat × List Dt) → Prop} {fo : Operand} {xs : List Operand} {ats : Array TypeId} (hC : ImpC P f keep ds bs R) (ho : o.op = .call { callee := .value fo, args := xs.toArray, argTypes := ats }) (hf : uH P f) (hfo : ev (kv s) fo = some (.fn (.func f) first caps)) (he : jK4 (kv s) xs (fun ds0 => appK first ds0 fun r => appK r caps some) = some ds) (hok : Dt.ok.oks (jM bs) (fun _ => false) ds = true) (hs : SubH ⟨s, b, g⟩ (jM bs) bs) (hkb : KeepOk keep bs Γ.kb)
  (hg : gd l0 o (kv s) = some true) (hd : o.dst = some t) (hl : Nat.blt t Γ.n = true) (hcut : wH (fun b => !jM bs b || inL keep b) s (fun s' => jA3 (jM bs) (fun b => !jM bs b || inL keep b) b (fun b' => some (s', b'))) = some (s', b'))
  (hfree : ∀ d bs', R d bs' → FreeIn bs b bs') (h : ∀ d bs', R d bs' → zY P Γ l0 Q l ⟨(t, d) :: s', bs' ++ b', g⟩) : zY P Γ l0 Q (o :: l) ⟨s, b, g⟩ := by
 refine aops_imp hg (fun a e hc => ?_) h
 have hsee := hc.sees o.op.operands
 obtain ⟨ds0, hr, hds⟩ := xI (a := a) (e := e) xs _ ds (fun x hx => hsee.1 x (by rw [ho]; simp [Op.operands, Call.operands, hx])) he
 rw [wQ, wQ] at hds
 cases hds
 have hgv := hsee.1 fo (by rw [ho]; simp [Op.operands, Call.operands]) _ hfo
 generalize hev : a.eval fo = gv at hgv
 cases hgv with
 | fn hl1 hl2 h1 h2 =>
  rename_i us vs
  have hall : DReps e (us ++ xs.map a.eval ++ vs) (first ++ ds0 ++ caps) := (DReps.append ⟨hl1, h1⟩ hr).append ⟨hl2, h2⟩
  unfold Oper.wp
  have e1 : (execOp a.eval o).run P e.w = .ok (.enter f (us ++ xs.map a.eval ++ vs).toArray) e.w := by
   obtain ⟨dst, op, type, pos, after, guard⟩ := o
   simp only at ho
   subst ho
   simp only [execOp, resolve, hev, Deferred.ofValue, Sem.run_bind, Sem.run_pure, Result.andThen_ok, invoke]
   rw [hf]
   simp
  rw [e1]
  exact imp_core hC hc hall hok hs hkb hd hl hcut hfree
/-! ### Walking such a function -/
def resI (T : Nat → Option TI) (σ : St) (l : List ResultVar) : Option Dt := resK T σ l fun
 | [d] => some d
 | ds => some (.tup ds)
theorem vP (hT : kU P T) {fn : Func} {e : Env} {a : Act} (hc : Conc Γ σ e a) {d : Dt} (h : resI T σ fn.results.toList = some d) : ∃ v, (results fn a.tmps).run P e.w = .ok v e.w ∧ DRep e v d := by
 unfold resI at h
 obtain ⟨ds, vs, hvs, hds, h⟩ := res_all hT hc _ _ d h
 split at h
 ·rename_i d0
  obtain ⟨v, vs', rfl, hv, hn⟩ := hds.uncons
  have : vs' = [] := List.eq_nil_of_length_eq_zero hn.1
  subst this
  cases h
  refine ⟨v, ?_, hv⟩
  rw [jD5, Array.mapM_eq_mapM_toList]
  simp only [bind_map_left, Sem.run_bind, hvs, Result.andThen_ok, Sem.run_pure]
  simp
 ·rename_i hne
  cases h
  refine ⟨.tuple vs.toArray, ?_, .tup hds.1 hds.2⟩
  rw [jD5, Array.mapM_eq_mapM_toList]
  simp only [bind_map_left, Sem.run_bind, hvs, Result.andThen_ok, Sem.run_pure]
  rw [dif_neg]
  intro hs
  have hl : ds.length = 1 := by rw [← hds.1]; simpa using hs
  obtain ⟨d1, rfl⟩ := List.length_eq_one_iff.1 hl
  exact hne d1 rfl
def NamesIn (bs : List (Nat × List Dt)) : List Nat → Prop
 | [] => True
 | n :: l => jM bs n = true ∧ NamesIn bs l
theorem NamesIn.get {bs : List (Nat × List Dt)} : ∀ {l : List Nat} (_ : NamesIn bs l) {n : Nat}, n ∈ l → jM bs n = true
 | [], _, n, h => by cases h
 | x :: l, hs, n, h => by
  rcases List.mem_cons.1 h with h | h
  ·subst h; exact hs.1
  ·exact hs.2.get h
def FinI (T : Nat → Option TI) (rs : List ResultVar) (keep : List Nat) (R : Dt → List (Nat × List Dt) → Prop) : Exit → St → Prop := fun ex σ =>
 (ex = .normal ∨ ex = .ret) ∧ ∃ d bs', resI T σ rs = some d ∧ d.ok (jM bs') (fun _ => false) = true ∧ SubH σ (jM bs') bs' ∧ NamesIn bs' keep ∧ R d bs'
theorem qI {rs : List ResultVar} {keep : List Nat} {R : Dt → List (Nat × List Dt) → Prop} (bs' : List (Nat × List Dt)) (h : resI T σ rs = some d) (h1 : d.ok (jM bs') (fun _ => false) = true) (h2 : SubH σ (jM bs') bs') (h3 : NamesIn bs' keep) (hR : R d bs') : FinI T rs keep R .ret σ := ⟨.inr rfl, d, bs', h, h1, h2, h3, hR⟩
theorem qD {rs : List ResultVar} {keep : List Nat} {R : Dt → List (Nat × List Dt) → Prop} (bs' : List (Nat × List Dt)) (h : resI T σ rs = some d) (h1 : d.ok (jM bs') (fun _ => false) = true) (h2 : SubH σ (jM bs') bs') (h3 : NamesIn bs' keep) (hR : R d bs') : FinI T rs keep R .normal σ := ⟨.inl rfl, d, bs', h, h1, h2, h3, hR⟩
def jN0 (kf : Nat → Nat) : List Nat → List (Nat × Nat)
 | [] => []
 | n :: l => (n, kf n) :: jN0 kf l
theorem jM3 {kf : Nat → Nat} : ∀ {l : List Nat} {n k : Nat}, kv (jN0 kf l) n = some k → n ∈ l ∧ k = kf n
 | [], n, k, h => by cases h
 | x :: l, n, k, h => by
  simp only [jN0, jU] at h
  split at h
  ·rename_i e; subst e; cases h; exact ⟨List.mem_cons_self, rfl⟩
  ·obtain ⟨h1, h2⟩ := jM3 h; exact ⟨List.mem_cons_of_mem _ h1, h2⟩
theorem jG5 {kf : Nat → Nat} : ∀ {l : List Nat} {n : Nat}, n ∈ l → kv (jN0 kf l) n = some (kf n)
 | [], n, h => by cases h
 | x :: l, n, h => by
  simp only [jN0, jU]
  split
  ·rename_i e; subst e; rfl
  ·rename_i e
   rcases List.mem_cons.1 h with h | h
   ·exact absurd h.symm e
   ·exact jG5 h
theorem vV (hT : kU P T) {f : FuncId} {fn : Func} {c : Code} {ds : List Dt} {keep : List Nat} {bs : List (Nat × List Dt)} {R : Dt → List (Nat × List Dt) → Prop} {rs : List ResultVar} {n : Nat} {s : List (Nat × Dt)} (hf : P.funcs[f]? = some fn) (hb : fn.body = some c) (hnn : fn.ntmps = n) (hrs : fn.results.toList = rs) (hn : Nat.ble ds.length n = true) (hs : jW8 0 ds some = some s) (hkeep : NamesIn bs keep)
  (h : ∀ w cl own kf, AWP P ⟨n, w, cl, own, jN0 kf keep, []⟩ c (FinI T rs keep R) ⟨s, bs, []⟩) : ImpC P f keep ds bs R := by
 subst hnn
 subst hrs
 rw [jL8] at hs
 cases hs
 have hn := Nat.le_of_ble_eq_true hn
 intro e vs hI hv
 refine calls_of_wp hf hb ?_
 have hl : vs.length = ds.length := hv.1
 have hbx : ∀ b, b ∈ keep → e.bx b = some ((e.bx b).getD 0) := fun b hb => by
  have h1 := hkeep.get hb
  obtain ⟨cs, hcs⟩ := Option.isSome_iff_exists.1 h1
  obtain ⟨k, _, _, h2, _⟩ := hI.boxes b cs hcs
  rw [h2]; rfl
 have hc : Conc ⟨fn.ntmps, e.w, e.cl, fun k => ∃ b, e.bx b = some k, jN0 (fun b => (e.bx b).getD 0) keep, []⟩ ⟨enum.go 0 ds, bs, []⟩ e { tmps := vs.toArray ++ Array.replicate (fn.ntmps - vs.toArray.size) undef, defers := [] } := by
  refine ⟨by simp; omega, rfl, fun t d0 ht => ?_, hI.boxes, hI.nobox, fun g => by rw [hI.gi]; rfl, ⟨Kept.refl _ _, fun _ _ _ => rfl, fun b k hk => ⟨(hI.bx b k hk).1, .inr ⟨b, hk⟩, (hI.bx b k hk).2, hI.gr k⟩, hI.inj, fun k g hk => (by rw [hI.gr] at hk; cases hk), fun b k hk => ?_⟩⟩
  ·obtain ⟨_, h2⟩ := jP4 ds 0 t d0 ht
   simp only [Nat.sub_zero] at h2
   obtain ⟨v, h3, h4⟩ := hv.get h2
   have htl : t < vs.length := (List.getElem?_eq_some_iff.1 h3).1
   have : uI { tmps := vs.toArray ++ Array.replicate (fn.ntmps - vs.toArray.size) undef, defers := [] } t = v := by
    unfold uI
    simp only [Array.getD_eq_getD_getElem?]
    rw [Array.getElem?_append_left (by simpa using htl), List.getElem?_toArray, h3]
    rfl
   rw [this]
   exact h4
  ·obtain ⟨h1, h2⟩ := jM3 hk
   rw [h2]; exact hbx b h1
 refine Code.wp_mono (fun ex a' w' hh => ?_) ((h e.w e.cl _ _).run _ e hc)
 obtain ⟨σ', e', rfl, h2, h3, d, bs', h4, h5, h6, h7, h8⟩ := hh
 obtain ⟨v, hr, hv⟩ := vP hT h2 h4
 have hleft : jN3 keep e (e'.cut (jM bs') fun _ => false) := by
  refine ⟨h2.env.kept, h2.env.cl, fun b k hk => ?_, fun b hb => ?_⟩
  ·have hk' : (if jM bs' b = true then e'.bx b else none) = some k := hk
   split at hk'
   ·exact (h2.env.bx b k hk').2.1
   ·cases hk'
  ·show (if jM bs' b = true then e'.bx b else none) = _
   rw [if_pos (h7.get hb), hbx b hb]
   exact h2.env.kb b _ (jG5 hb)
 have hfin : a'.defers = [] ∧ ∃ v, (results fn a'.tmps).run P e'.w = .ok v e'.w ∧ ∃ v' d bs' e'', Ending.returned v = .returned v' ∧ e''.w = e'.w ∧ R d bs' ∧ jA7 bs' e'' ∧ DRep e'' v' d ∧ jN3 keep e e'' :=
  ⟨h2.df, v, hr, v, d, bs', e'.cut (jM bs') fun _ => false, rfl, rfl, h8, uC h2 h6, hv.cut h5, hleft⟩
 rcases h3 with rfl | rfl
 ·exact hfin
 ·exact hfin
/-! ### Scopes and labels -/
def kC3 (Q : Exit → St → Prop) : Exit → St → Prop
 | .goto _, _ => False
 | ex, σ => Q ex σ
theorem awp_scope {c : Code} (h : AWP P Γ c (kC3 Q) σ) : AWP P Γ (.scope c) Q σ := ⟨fun a e hc => by
 refine wp_scope_straight (Code.wp_mono (fun ex a' w' hh => ?_) (h.run a e hc))
 obtain ⟨σ', e', rfl, h2, h3⟩ := hh
 cases ex with
 | goto l => exact h3.elim
 | _ => exact ⟨σ', e', rfl, h2, h3⟩⟩
theorem awp_label {n : Nat} (h : Q .normal σ) : AWP P Γ (.label n) Q σ := ⟨fun _ e hc => wp_label ⟨σ, e, rfl, hc, h⟩⟩
end
end Go.Proofs.YtkkldicehapklaaGreat
end
section
/- Slices over variables of ours, to which is appended and which are cut short; bits. -/
namespace Go.Proofs.YtkkldicehapklaaGreat
open Go.RowKit
section
variable {P : Program} {T : Nat → Option TI} {Γ : Ctx} {σ σ' τ : St} {o : Oper} {l0 l : List Oper} {Q : Exit → St → Prop}
def qH (n : Nat) : Nat → Bool := fun m => !Nat.beq n m
theorem notN_ne {n m : Nat} (h : qH n m = true) : m ≠ n := fun e => by subst e; simp [qH] at h
theorem notN_of {n m : Nat} (h : m ≠ n) : qH n m = true := by
 have : Nat.beq n m = false := by rw [Bool.eq_false_iff]; intro hb; exact h (Nat.eq_of_beq_eq_true hb).symm
 simp [qH, this]
theorem Conc.forget {e : Env} {a : Act} (hc : Conc Γ σ e a) (nm : Nat) (hk : kv Γ.kb nm = none) : Conc Γ ⟨cutS (qH nm) σ.s, jA8 (Nat.beq nm) (qH nm) σ.b, σ.g⟩ (e.cut (qH nm) fun _ => true) a := by
 have hbx : ∀ b k, (e.cut (qH nm) fun _ => true).bx b = some k → e.bx b = some k := fun b k h => by
  have h' : (if qH nm b = true then e.bx b else none) = some k := h
  split at h'
  ·exact h'
  ·cases h'
 have hgr : ∀ k, (e.cut (qH nm) fun _ => true).gr k = e.gr k := fun k => by
  show (match e.gr k with | some g => if true = true then some g else none | none => none) = _
  cases e.gr k <;> simp
 have hgi : ∀ g, (e.cut (qH nm) fun _ => true).gi g = e.gi g := fun g => by
  show (if true = true then e.gi g else none) = _
  simp
 refine ⟨hc.size, hc.df, fun t d ht => ?_, fun b cs hb => ?_, fun b hb => ?_, fun g => by rw [hgi]; exact hc.gs g, hc.env.kept, hc.env.cl, fun b k h => ?_, fun b c k h1 h2 => hc.env.inj b c k (hbx _ _ h1) (hbx _ _ h2), fun k g h => ?_, fun b k h => ?_⟩
 ·obtain ⟨d0, h1, rfl⟩ := kJ5 ht
  exact kJ3 (hc.slots t d0 h1)
 ·obtain ⟨h1, cs0, h2, rfl⟩ := jL3 hb
  obtain ⟨k, vs, el, h3, h4, h5⟩ := hc.boxes b cs0 h2
  refine ⟨k, vs, el, ?_, h4, kM8 h5⟩
  show (if qH nm b = true then e.bx b else none) = _
  rw [if_pos (by simp [qH, h1])]; exact h3
 ·show (if qH nm b = true then e.bx b else none) = _
  rcases jS4 hb with h | h
  ·rw [if_neg (by simp only [qH, h]; decide)]
  ·rw [hc.nobox b h]; simp
 ·obtain ⟨h1, h2, h3, h4⟩ := hc.env.bx b k (hbx b k h)
  exact ⟨h1, h2, h3, by rw [hgr]; exact h4⟩
 ·rw [hgr] at h
  obtain ⟨G, cur, h1, h2⟩ := hc.env.gr k g h
  exact ⟨G, cur, by rw [hgi]; exact h1, h2⟩
 ·show (if qH nm b = true then e.bx b else none) = _
  rw [if_pos (notN_of (fun e' => by rw [e', hk] at h; cases h))]
  exact hc.env.kb b k h
theorem Conc.give {e : Env} {a : Act} (hc : Conc Γ σ e a) {b k : Nat} {cs : List Dt} (hb : kv σ.b b = none) (hk : k < e.w.heap.size) (hbase : Γ.w0.heap.size ≤ k ∨ Γ.own k) (hcl : e.cl k = some 0) (hgr : e.gr k = none) (hfree : ∀ c, e.bx c ≠ some k)
  (hat : BoxAt (e.withBox b k) b cs) : Conc Γ ⟨σ.s, (b, cs) :: σ.b, σ.g⟩ (e.withBox b k) a := by
 have hn := hc.nobox b hb
 have hE := yS (k := k) hn
 refine ⟨hc.size, hc.df, fun t d ht => (hc.slots t d ht).next hE, fun c ds hcd => ?_, fun c hcn => ?_, hc.gs, ?_⟩
 ·simp only [jU] at hcd
  split at hcd
  ·rename_i hbc; subst hbc; cases hcd; exact hat
  ·exact (hc.boxes c ds hcd).ends hE rfl
 ·simp only [jU] at hcn
  split at hcn
  ·cases hcn
  ·rename_i hbc
   show (if c = b then some k else e.bx c) = none
   rw [if_neg (fun e' => hbc e'.symm)]
   exact hc.nobox c hcn
 ·refine ⟨hc.env.kept, hc.env.cl, fun c j hj => ?_, fun c c' j h1 h2 => ?_, hc.env.gr, fun c j hj => hE.bx c j (hc.env.kb c j hj)⟩
  ·have hj' : (if c = b then some k else e.bx c) = some j := hj
   split at hj'
   ·cases hj'; exact ⟨hk, hbase, hcl, hgr⟩
   ·exact hc.env.bx c j hj'
  ·have h1' : (if c = b then some k else e.bx c) = some j := h1
   have h2' : (if c' = b then some k else e.bx c') = some j := h2
   by_cases e1 : c = b <;> by_cases e2 : c' = b
   ·rw [e1, e2]
   ·rw [if_pos e1] at h1'; rw [if_neg e2] at h2'; cases h1'; exact absurd h2' (hfree c')
   ·rw [if_neg e1] at h1'; rw [if_pos e2] at h2'; cases h2'; exact absurd h1' (hfree c)
   ·rw [if_neg e1] at h1'; rw [if_neg e2] at h2'; exact hc.env.inj c c' j h1' h2'
theorem Conc.setFree {e : Env} {a : Act} (hc : Conc Γ σ e a) {k : Nat} (us : List Value) (hbase : Γ.w0.heap.size ≤ k ∨ Γ.own k) (hcl : e.cl k = some 0) (hgr : e.gr k = none) (hfree : ∀ c, e.bx c ≠ some k) :
  Conc Γ σ { e with w := e.w.setRow k us.toArray } a ∧ Ends e { e with w := e.w.setRow k us.toArray } := by
 have hoth : ∀ j, j ≠ k → (e.w.setRow k us.toArray).heap[j]? = e.w.heap[j]? := fun j hj => setRow_other e.w k j _ hj
 have hE : Ends e { e with w := e.w.setRow k us.toArray } := by
  refine ⟨fun b' o v hcl' hv => ?_, fun _ _ h => h, fun _ G h => ⟨G, h, rfl, rfl, Nat.le_refl _⟩, fun j g G cur h5 h6 h7 => ⟨h5, cur, ?_, rfl⟩⟩
  ·have hne : b' ≠ k := fun e' => by subst e'; exact absurd (hcl' 0 hcl) (by omega)
   exact ⟨hcl', by show (e.w.setRow k us.toArray).cell? _ = _; rw [World.cell?_of_block (w := e.w) (hoth b' hne)]; exact hv⟩
  ·show (e.w.setRow k us.toArray).heap[j]? = _
   rw [hoth j (fun e' => by subst e'; rw [hgr] at h5; cases h5)]; exact h7
 refine ⟨⟨hc.size, hc.df, fun t d ht => (hc.slots t d ht).next hE, fun b' ds hd => ?_, hc.nobox, hc.gs, ?_⟩, hE⟩
 ·obtain ⟨k', vs', el', h5, h6, h7⟩ := hc.boxes b' ds hd
  refine ⟨k', vs', el', h5, ?_, h7.next hE⟩
  show (e.w.setRow k us.toArray).heap[k']? = _
  rw [hoth k' (fun e' => hfree b' (by rw [h5, e']))]; exact h6
 ·refine ⟨⟨hc.env.kept.os, hc.env.kept.tape, hc.env.kept.output, by show _ ≤ (e.w.setRow k us.toArray).heap.size; rw [setRow_size]; exact hc.env.kept.size, fun j hj ho => ?_⟩, hc.env.cl, fun b' j hj => ?_, hc.env.inj, fun j g hg => ?_, hc.env.kb⟩
  ·show (e.w.setRow k us.toArray).heap[j]? = _
   rw [hoth j (fun e' => by subst e'; rcases hbase with h2 | h2 <;> first | omega | exact ho h2)]; exact hc.env.kept.block j hj ho
  ·obtain ⟨h5, h6, h7, h8⟩ := hc.env.bx b' j hj
   exact ⟨by show j < (e.w.setRow k us.toArray).heap.size; rw [setRow_size]; exact h5, h6, h7, h8⟩
  ·obtain ⟨G, cur, h5, h6, h7, h8, h9⟩ := hc.env.gr j g hg
   refine ⟨G, cur, h5, by show j < (e.w.setRow k us.toArray).heap.size; rw [setRow_size]; exact h6, h7, h8, ?_⟩
   show (e.w.setRow k us.toArray).heap[j]? = _
   rw [hoth j (fun e' => by subst e'; rw [hgr] at hg; cases hg)]; exact h9
theorem jG9 (w : World) (t ty e e0 : TypeId) (i : TypeInfo) (ht : P.underlying t = some (.slice e)) (hi : P.info? e = some i)
  (g sLen sCap : Nat) (cur : Array Value) (hg : w.heap[g]? = some (.cells cur e0 (0, 0)))
  (a : Addr) (m c : Nat) (news : List Value) (hl : news.length = m * i.size) (hnews : ∀ (j : Nat) u, news[j]? = some u → w.cell? (a.add j) = some u) (h1 : ∀ u ∈ news, u.oneCell' = true)
  (hroom : sLen + m ≤ sCap) (hfit : sLen * i.size + news.length ≤ cur.size) :
  (Builtin.append_ #[t, t] ty #[.slice (some ⟨g, 0, none⟩) sLen sCap, .slice (some a) m c]).run P w =
   .ok (.slice (some ⟨g, 0, none⟩) (sLen + m) sCap) (w.setRow g (cur.toList.take (sLen * i.size) ++ news ++ cur.toList.drop (sLen * i.size + news.length)).toArray) := by
 have hf := run_firstCells_some (P := P) w i.size m a m c news hl hnews
 have hst := run_storeCells_at P g (sLen * i.size) e0 news 0 cur w hg (by simpa using hfit) h1
 simp only [Nat.add_zero] at hst
 simp [Builtin.append_, run_underlying ht, sizeOf, typeInfo, hi, Builtin.lenOf, hroom, hf, Addr.add_lit, hst]
inductive RowAt (e : Env) (nm n c : Nat) (ps : List Pl) : Value → Prop where
 | none (hn : n = 0) (hc : c = 0) (hps : ps = []) : RowAt e nm n c ps (.slice none 0 0)
 | empty {ad : Addr} (hn : n = 0) (hc : c = 0) (hps : ps = []) : RowAt e nm n c ps (.slice (some ad) 0 0)
 | some {k : Nat} {vs : List Value} {el : TypeId} (hk : e.bx nm = some k) (hh : e.w.heap[k]? = some (.cells vs.toArray el (0, 0))) (hl : vs.length = c) (hn : n ≤ c) (hps : ps.length = n) (hr : ∀ (j : Nat) v x, vs[j]? = some v → ps[j]? = some x → PRep e v x) : RowAt e nm n c ps (.slice (some ⟨k, 0, none⟩) n c)
theorem kC9 {e : Env} {vs : List Value} {cs : List Dt} {ps : List Pl} (h : DReps e vs cs) (hp : cs.take ps.length = ps.map Dt.p) : ∀ (j : Nat) v x, vs[j]? = some v → ps[j]? = some x → PRep e v x := by
 intro j v x hv hx
 have hj := (List.getElem?_eq_some_iff.1 hx).1
 have h1 : (cs.take ps.length)[j]? = some (.p x) := by rw [hp, List.getElem?_map, hx]; rfl
 rw [List.getElem?_take, if_pos hj] at h1
 have := h.2 j v _ hv h1
 cases this with
 | p h => exact h
theorem jM5 {e : Env} {vs : List Value} {ps : List Pl} (hn : ps.length ≤ vs.length) (h : ∀ (j : Nat) v x, vs[j]? = some v → ps[j]? = some x → PRep e v x) : DReps e vs (ps.map Dt.p ++ List.replicate (vs.length - ps.length) .any) := by
 refine ⟨by simp; omega, fun j v d hv hd => ?_⟩
 rcases Nat.lt_or_ge j ps.length with hj | hj
 ·rw [List.getElem?_append_left (by simpa using hj), List.getElem?_map, List.getElem?_eq_getElem hj] at hd
  cases hd
  exact .p (h j v _ hv (List.getElem?_eq_getElem hj))
 ·rw [List.getElem?_append_right (by simpa using hj), List.getElem?_replicate] at hd
  split at hd
  ·cases hd; exact .any
  ·cases hd
def PlainC (cs : List Dt) : Prop := ∀ B G, Dt.ok.oks B G cs = true
theorem jR6 (ps : List Pl) (r : Nat) : PlainC (ps.map Dt.p ++ List.replicate r Dt.any) := by
 intro B G
 induction ps with
 | nil =>
  induction r with
  | zero => rfl
  | succ r ih => simp only [List.map_nil, List.nil_append, List.replicate_succ, Dt.ok.oks, Dt.ok, Bool.true_and] at ih ⊢; exact ih
 | cons p ps ih => simp only [List.map_cons, List.cons_append, Dt.ok.oks, Dt.ok, Bool.true_and]; exact ih
theorem appendA_core (hT : kU P T) {e : Env} {a : Act} (hc : Conc Γ σ e a) {ty : TypeId} {nm n m c el z1 z2 : Nat} {z3 : Value} {ps qs : List Pl} {i : TI} {vx vy : Value} {t : TypeId} (ht : T t = some ⟨.slice el, z1, z2, z3⟩) (hel : T el = some i) (hzs : i.zero.cells.size = 1) (hsz1 : i.sz = 1) (hkb : kv Γ.kb nm = none)
  (hx : RowAt e nm n c ps vx) (hcm : c ≤ maxLen) (hy1 : PRep e vy (.sl false m qs)) (hm : 0 < m) (hqs : qs.length = m)
  (h63 : n + m ≤ maxLen) (hby : (n + m) * i.bytes ≤ 140737488355328) : ∃ v e' cs' c', (Builtin.append_ #[t, t] ty #[vx, vy]).run P e.w = .ok v e'.w ∧ cs'.length = c' ∧ c' ≤ maxLen ∧ n + m ≤ c' ∧ cs'.take (n + m) = (ps ++ qs).map Dt.p ∧ PlainC cs' ∧
   Conc Γ ⟨cutS (qH nm) σ.s, (nm, cs') :: jA8 (Nat.beq nm) (qH nm) σ.b, σ.g⟩ e' a ∧ DRep e' v (.arr nm 0 (n + m) c') := by
 obtain ⟨d0, hd0, hk⟩ := hT.desc t _ ht
 cases d0 <;> simp only [jF2, reduceCtorEq, TK.slice.injEq] at hk
 rw [hk] at hd0
 obtain ⟨inf, hinf, hsz, hbytes, hz⟩ := hT.info _ i hel
 rw [hsz1] at hsz
 obtain ⟨Y, ycap, rfl, hyc, hym, hY0, _, hY⟩ := xN hy1
 have hqne : qs ≠ [] := fun e' => by rw [e'] at hqs; simp at hqs; omega
 rcases hY with hY | ⟨yb, yo, rfl, hYel⟩
 ·exact absurd hY hqne
 obtain ⟨us, hul, huc, hu1, hur⟩ := jE8 hYel
 have hul' : us.length = m * inf.size := by rw [hul, hqs, hsz]; omega
 have hum : us.length = m := by rw [hul, hqs]
 have hfor := hc.forget nm hkb
 have hnone : kv (jA8 (Nat.beq nm) (qH nm) σ.b) nm = none := by
  cases h : kv (jA8 (Nat.beq nm) (qH nm) σ.b) nm with
  | none => rfl
  | some cs => have := (jL3 h).1; simp at this
 -- a new block
 have hgrow : ∀ (os : List Value), os.length = n → ps.length = n → (∀ (j : Nat) v x, os[j]? = some v → ps[j]? = some x → PRep e v x) → (c < n + m) → (Builtin.append_ #[t, t] ty #[vx, .slice (some ⟨yb, yo, none⟩) m ycap]).run P e.w = .ok (.slice (some ⟨e.w.heap.size, 0, none⟩) (n + m) (grownCap e.w (n + m) c el)) (e.w.drew.alloc (.cells (os.toArray ++ us.toArray ++ Builtin.zeroCells i.zero.cells (grownCap e.w (n + m) c el - (n + m))) el)) →
   ∃ v e' cs' c', (Builtin.append_ #[t, t] ty #[vx, .slice (some ⟨yb, yo, none⟩) m ycap]).run P e.w = .ok v e'.w ∧ cs'.length = c' ∧ c' ≤ maxLen ∧ n + m ≤ c' ∧ cs'.take (n + m) = (ps ++ qs).map Dt.p ∧ PlainC cs' ∧
   Conc Γ ⟨cutS (qH nm) σ.s, (nm, cs') :: jA8 (Nat.beq nm) (qH nm) σ.b, σ.g⟩ e' a ∧ DRep e' v (.arr nm 0 (n + m) c') := by
  intro os hol hps hor hlt hrun
  have hge : n + m ≤ grownCap e.w (n + m) c el := grownCap_ge _ _ _ _
  have hgm : grownCap e.w (n + m) c el ≤ maxLen := grownCap_le_maxLen _ _ _ _ h63
  generalize grownCap e.w (n + m) c el = cap at hge hgm hrun
  let e1 := e.cut (qH nm) fun _ => true
  let rowv : List Value := os ++ us ++ (Builtin.zeroCells i.zero.cells (cap - (n + m))).toList
  have hrow : os.toArray ++ us.toArray ++ Builtin.zeroCells i.zero.cells (cap - (n + m)) = rowv.toArray := by
   apply Array.ext'; simp [rowv]
  have hlen : rowv.length = cap := by
   have : (Builtin.zeroCells i.zero.cells (cap - (n + m))).toList.length = cap - (n + m) := by
    rw [Array.length_toList, size_zeroCells, hzs]; omega
   simp only [rowv, List.length_append, hol, hum, this]; omega
  rw [hrow] at hrun
  let e2 : Env := { e1 with w := e.w.drew }
  have hg1 : Grow e1 e2 := ⟨(Below.refl _ _).drew, fun _ _ => rfl, rfl, rfl, rfl⟩
  have hg2 := Env.alloc_grow e2 (.cells rowv.toArray el) (some 0)
  have hc2 := (hfor.grow hg1).grow hg2
  have hE0 : Ends e1 (e2.alloc (.cells rowv.toArray el) (some 0)) := hg1.ends.trans hg2.ends
  have hrep : ∀ (j : Nat) v x, rowv[j]? = some v → (ps ++ qs)[j]? = some x → PRep e1 v x := by
   intro j v x hv hx
   rcases Nat.lt_or_ge j n with hj | hj
   ·rw [List.getElem?_append_left (by omega)] at hx
    simp only [rowv, List.append_assoc] at hv
    rw [List.getElem?_append_left (by omega)] at hv
    exact (hor j v x hv hx).cut
   ·rw [List.getElem?_append_right (by omega), hps] at hx
    have hj2 := (List.getElem?_eq_some_iff.1 hx).1
    simp only [rowv, List.append_assoc] at hv
    rw [List.getElem?_append_right (by omega), hol, List.getElem?_append_left (by omega)] at hv
    exact (hur _ v x hv hx).cut
  have hpl : (ps ++ qs).length = n + m := by simp [hps, hqs]
  have hback := jM5 (e := e1) (vs := rowv) (ps := ps ++ qs) (by omega) hrep
  have hbn : (e2.alloc (.cells rowv.toArray el) (some 0)).bx nm = none := by
   show (if qH nm nm = true then e.bx nm else none) = none
   simp [qH]
  have hEb := yS (k := e.w.heap.size) hbn
  have hgive := hc2.give (b := nm) (k := e.w.heap.size) (cs := (ps ++ qs).map Dt.p ++ List.replicate (rowv.length - (ps ++ qs).length) Dt.any) hnone (by simp [Env.alloc, e2]) (.inl hc.env.kept.size) (by simp [Env.alloc, e2]) (by
    show (e.cut (qH nm) fun _ => true).gr _ = none
    show (match e.gr e.w.heap.size with | some g => if true = true then some g else none | none => none) = none
    cases hg : e.gr e.w.heap.size with
    | none => rfl
    | some g => obtain ⟨_, _, _, h3, _⟩ := hc.env.gr _ g hg; omega) (fun x hx => by
    have hx' : (if qH nm x = true then e.bx x else none) = some e.w.heap.size := hx
    split at hx'
    ·have := (hc.env.bx x _ hx').1; omega
    ·cases hx') ⟨e.w.heap.size, rowv, el, by simp [Env.withBox], heap_alloc_new e2.w _, (hback.next hE0).next hEb⟩
  refine ⟨_, (e2.alloc (.cells rowv.toArray el) (some 0)).withBox nm e.w.heap.size, _, cap, hrun, ?_, hgm, hge, ?_, jR6 _ _, hgive, .arr (by simp [Env.withBox])⟩
  ·simp only [List.length_append, List.length_map, List.length_replicate, hlen, hps, hqs]; omega
  ·rw [← hpl]
   rw [List.take_append_of_le_length (by simp), List.take_of_length_le (by simp)]
 cases hx with
 | empty hn hc0 hps =>
  rename_i ad
  subst hn; subst hc0; subst hps
  have hrun := run_append_grow (P := P) e.w t ty el inf i.zero hd0 hinf hz ad 0 0 [] (by simp) (fun j v hj => by simp at hj) ⟨yb, yo, none⟩ m ycap us hul' huc (by omega) (by simp only [maxLen] at h63; omega) (growslice_fits (by omega) (by rw [hbytes]; exact hby))
  exact hgrow [] rfl rfl (fun j v x hj => by simp at hj) (by omega) hrun
 | none hn hc0 hps =>
  subst hn; subst hc0; subst hps
  have hrun := run_append_nil (P := P) e.w t ty el inf i.zero hd0 hinf hz ⟨yb, yo, none⟩ m ycap us hul' huc hm (by simp only [maxLen] at h63; omega) (by rw [hbytes]; simp only [Nat.zero_add] at hby; omega)
  exact hgrow [] rfl rfl (fun j v x hj => by simp at hj) (by omega) (by simpa using hrun)
 | some hk hh hl hn hps hr =>
  rename_i k vs el0
  by_cases hroom : n + m ≤ c
  ·have hrun := jG9 (P := P) e.w t ty el el0 inf hd0 hinf k n c vs.toArray hh ⟨yb, yo, none⟩ m ycap us hul' huc hu1 hroom (by simp [hsz, hum, hl]; omega)
   obtain ⟨h1, h2, h3, h4⟩ := hc.env.bx nm k hk
   let vs' := vs.take n ++ us ++ vs.drop (n + m)
   have hvs : (vs.toArray.toList.take (n * inf.size) ++ us ++ vs.toArray.toList.drop (n * inf.size + us.length)) = vs' := by simp [hsz, hum, vs']
   rw [hvs] at hrun
   have hfree : ∀ x, (e.cut (qH nm) fun _ => true).bx x ≠ some k := fun x hx => by
    have hx' : (if qH nm x = true then e.bx x else none) = some k := hx
    split at hx'
    ·rename_i hne; exact notN_ne hne (hc.env.inj _ _ _ hx' hk)
    ·cases hx'
   have hgr0 : (e.cut (qH nm) fun _ => true).gr k = none := by
    show (match e.gr k with | some g => if true = true then some g else none | none => none) = none
    rw [h4]
   obtain ⟨hset, hE⟩ := hfor.setFree vs' h2 h3 hgr0 hfree
   have hlen : vs'.length = c := by simp [vs', hum, hl]; omega
   have hpl : (ps ++ qs).length = n + m := by simp [hps, hqs]
   have hrep : ∀ (j : Nat) v x, vs'[j]? = some v → (ps ++ qs)[j]? = some x → PRep (e.cut (qH nm) fun _ => true) v x := by
    intro j v x hv hx
    rcases Nat.lt_or_ge j n with hj | hj
    ·rw [List.getElem?_append_left (by omega)] at hx
     simp only [vs', List.append_assoc] at hv
     rw [List.getElem?_append_left (by simp; omega), List.getElem?_take, if_pos hj] at hv
     exact (hr j v x hv hx).cut
    ·rw [List.getElem?_append_right (by omega), hps] at hx
     have hj2 := (List.getElem?_eq_some_iff.1 hx).1
     simp only [vs', List.append_assoc] at hv
     rw [List.getElem?_append_right (by simp; omega), List.length_take, hl, Nat.min_eq_left hn, List.getElem?_append_left (by omega)] at hv
     exact (hur _ v x hv hx).cut
   have hback := jM5 (vs := vs') (ps := ps ++ qs) (by omega) hrep
   have hbn : (e.cut (qH nm) fun _ => true).bx nm = none := by
    show (if qH nm nm = true then e.bx nm else none) = none
    simp [qH]
   have hEb := yS (e := { w := (e.cut (qH nm) fun _ => true).w.setRow k vs'.toArray, cl := (e.cut (qH nm) fun _ => true).cl, bx := (e.cut (qH nm) fun _ => true).bx, gr := (e.cut (qH nm) fun _ => true).gr, gi := (e.cut (qH nm) fun _ => true).gi }) (b := nm) (k := k) hbn
   have hgive := hset.give (b := nm) (k := k) (cs := (ps ++ qs).map Dt.p ++ List.replicate (vs'.length - (ps ++ qs).length) Dt.any) hnone (by show k < (e.w.setRow k _).heap.size; rw [setRow_size]; exact h1) h2 h3 hgr0 hfree ⟨k, vs', el0, by simp [Env.withBox], jF4 hh, (hback.next hE).next hEb⟩
   refine ⟨_, _, _, c, hrun, ?_, hcm, hroom, ?_, jR6 _ _, hgive, .arr (by simp [Env.withBox])⟩
   ·simp only [List.length_append, List.length_map, List.length_replicate, hlen, hps, hqs]; omega
   ·rw [← hpl]
    rw [List.take_append_of_le_length (by simp), List.take_of_length_le (by simp)]
  ·have hrun := run_append_grow (P := P) e.w t ty el inf i.zero hd0 hinf hz ⟨k, 0, none⟩ n c (vs.take n) (by simp [hsz, hl]; omega) (fun j v hj => by
    rw [List.getElem?_take] at hj
    split at hj
    ·rw [xG, cell_of_row e.w k (0 + j) vs.toArray el0 (0, 0) hh]; simpa using hj
    ·cases hj) ⟨yb, yo, none⟩ m ycap us hul' huc (by omega) (by simp only [maxLen] at h63; omega) (growslice_fits (by omega) (by rw [hbytes]; exact hby))
   exact hgrow (vs.take n) (by simp [hl]; omega) hps (fun j v x hv hx => by
    rw [List.getElem?_take] at hv
    split at hv
    ·exact hr j v x hv hx
    ·cases hv) (by omega) hrun
end
end Go.Proofs.YtkkldicehapklaaGreat
end
section
/- Slices over variables of ours: rules; bits. -/
namespace Go.Proofs.YtkkldicehapklaaGreat
open Go.RowKit
section
variable {P : Program} {T : Nat → Option TI} {Γ : Ctx} {o : Oper} {l0 l : List Oper} {Q : Exit → St → Prop}
variable {s s' : List (Nat × Dt)} {b b' : List (Nat × List Dt)} {g : List (Nat × Gr)} {t : Nat}
theorem jX0 {a : Act} {ty : TypeId} {x y : Operand} {w w' : World} {v : Value} (ho : o.op = .call { callee := .builtin .append, args := #[x, y], argTypes := #[ty, ty] }) (h : (Builtin.append_ #[ty, ty] o.type #[a.eval x, a.eval y]).run P w = .ok v w') : (execOp a.eval o).run P w = .ok (.value v) w' := by
 obtain ⟨dst, op, type, pos, after, guard⟩ := o
 simp only at ho
 subst ho
 simp only [execOp, resolve, invoke, builtin, Sem.run_bind, Sem.run_pure, Result.andThen_ok, List.map_toArray, List.map_cons, List.map_nil, h]
theorem aops_rowA (hT : kU P T) (nm : Nat) {ty : TypeId} {x y : Operand} {n m c el z1 z2 : Nat} {z3 : Value} {ps qs : List Pl} {dy : Dt} {i : TI} (ho : o.op = .call { callee := .builtin .append, args := #[x, y], argTypes := #[ty, ty] }) (ht : T ty = some ⟨.slice el, z1, z2, z3⟩) (hel : T el = some i) (hzs : Nat.beq i.zero.cells.size 1 = true) (hsz : Nat.beq i.sz 1 = true)
  (hg : gd l0 o (kv s) = some true) (hd : o.dst = some t) (hl : Nat.blt t Γ.n = true) (hkb : kv Γ.kb nm = none) (hx : ∀ (a : Act) (e : Env), Conc Γ ⟨s, b, g⟩ e a → RowAt e nm n c ps (a.eval x)) (hcm : c ≤ maxLen) (hy : ev (kv s) y = some dy) (hdy : slOf dy = some (m, qs)) (hm : 0 < m) (hqs : qs.length = m)
  (h63 : n + m ≤ maxLen) (hby : (n + m) * i.bytes ≤ 140737488355328) (hcut : wH (qH nm) s (fun s' => jA3 (Nat.beq nm) (qH nm) b (fun b' => some (s', b'))) = some (s', b'))
  (h : ∀ cs' c', cs'.length = c' → c' ≤ maxLen → n + m ≤ c' → cs'.take (n + m) = (ps ++ qs).map Dt.p → PlainC cs' → zY P Γ l0 Q l ⟨(t, .arr nm 0 (n + m) c') :: s', (nm, cs') :: b', g⟩) : zY P Γ l0 Q (o :: l) ⟨s, b, g⟩ := by
 rw [jB3, jB8] at hcut
 cases hcut
 refine ⟨fun a e hc => ?_⟩
 unfold wpList
 rw [if_pos (qN hc hg)]
 have hsee := hc.sees o.op.operands
 have hy1 := jE6 (hsee.1 y (by rw [ho]; simp [Op.operands, Call.operands]) _ hy) hdy
 obtain ⟨v, e', cs', c', hrun, h1, h2, h3, h4, hpl, h5, h6⟩ := appendA_core hT hc (ty := o.type) ht hel (Nat.eq_of_beq_eq_true hzs) (Nat.eq_of_beq_eq_true hsz) hkb (hx a e hc) hcm hy1 hm hqs h63 hby
 refine .inl ?_
 unfold Oper.wp
 rw [jX0 ho hrun]
 have := (h5.put (dst := o.dst) (jC5 hd hl) h6)
 rw [hd] at this
 show wpList P l0.toArray (jE4 Γ Q) l (a.put o.dst v) e'.w
 rw [hd]
 exact (h cs' c' h1 h2 h3 h4 hpl).run _ e' this
theorem a_appendN (hT : kU P T) (nm : Nat) {ty : TypeId} {x y : Operand} {m el z1 z2 : Nat} {z3 : Value} {qs : List Pl} {dy : Dt} {i : TI} (ho : o.op = .call { callee := .builtin .append, args := #[x, y], argTypes := #[ty, ty] }) (ht : T ty = some ⟨.slice el, z1, z2, z3⟩) (hel : T el = some i) (hzs : Nat.beq i.zero.cells.size 1 = true) (hsz : Nat.beq i.sz 1 = true)
  (hg : gd l0 o (kv s) = some true) (hd : o.dst = some t) (hl : Nat.blt t Γ.n = true) (hx : ev (kv s) x = some (.p (.sl true 0 []))) (hkb : kv Γ.kb nm = none) (hy : ev (kv s) y = some dy) (hdy : slOf dy = some (m, qs)) (hcut : wH (qH nm) s (fun s' => jA3 (Nat.beq nm) (qH nm) b (fun b' => some (s', b'))) = some (s', b'))
  (hm : 0 < m) (hqs : qs.length = m) (h63 : m ≤ maxLen) (hby : m * i.bytes ≤ 140737488355328)
  (h : ∀ cs' c', cs'.length = c' → c' ≤ maxLen → m ≤ c' → cs'.take m = qs.map Dt.p → PlainC cs' → zY P Γ l0 Q l ⟨(t, .arr nm 0 m c') :: s', (nm, cs') :: b', g⟩) : zY P Γ l0 Q (o :: l) ⟨s, b, g⟩ := by
 refine aops_rowA hT nm (n := 0) (c := 0) (ps := []) ho ht hel hzs hsz hg hd hl hkb (fun a e hc => ?_) (Nat.zero_le _) hy hdy hm hqs (by omega) (by simpa using hby) hcut (fun cs' c' h1 h2 h3 h4 hpl => ?_)
 ·have hx1 := (hc.sees o.op.operands).1 x (by rw [ho]; simp [Op.operands, Call.operands]) _ hx
  generalize a.eval x = vx at hx1
  cases hx1 with
  | p h1 =>
   obtain ⟨A, cap, rfl, _, _, _, h5, _⟩ := xN h1
   have := h5 rfl
   subst this
   cases A with
   | none => exact .none rfl rfl rfl
   | some ad => exact .empty rfl rfl rfl
 ·simp only [Nat.zero_add, List.nil_append] at h3 h4 ⊢
  exact h cs' c' h1 h2 h3 h4 hpl
theorem Conc.claim {σ : St} {e : Env} {a : Act} (hc : Conc Γ σ e a) {k : Nat} (m : Nat) (hbase : Γ.w0.heap.size ≤ k ∨ Γ.own k) (hcl : e.cl k = some 0) (hgr : e.gr k = none) (hfree : ∀ c, e.bx c ≠ some k) :
  Conc Γ σ { e with cl := fun j => if j = k then some m else e.cl j } a ∧ Ends e { e with cl := fun j => if j = k then some m else e.cl j } := by
 have hE : Ends e { e with cl := fun j => if j = k then some m else e.cl j } := by
  refine ⟨fun b' o v hcl' hv => ⟨fun n hn => ?_, hv⟩, fun _ _ h => h, fun _ G h => ⟨G, h, rfl, rfl, Nat.le_refl _⟩, fun j g G cur h5 h6 h7 => ⟨h5, cur, h7, rfl⟩⟩
  have hne : b' ≠ k := fun e' => by subst e'; exact absurd (hcl' 0 hcl) (by omega)
  have hn' : (if b' = k then some m else e.cl b') = some n := hn
  rw [if_neg hne] at hn'
  exact hcl' n hn'
 refine ⟨⟨hc.size, hc.df, fun t d ht => (hc.slots t d ht).next hE, fun b' ds hd => (hc.boxes b' ds hd).ends hE rfl, hc.nobox, hc.gs, ⟨hc.env.kept, fun j hj ho => ?_, fun b' j hj => ?_, hc.env.inj, fun j g hg => ?_, hc.env.kb⟩⟩, hE⟩
 ·show (if j = k then some m else e.cl j) = _
  rw [if_neg (fun e' => by subst e'; rcases hbase with h2 | h2 <;> first | omega | exact ho h2)]; exact hc.env.cl j hj ho
 ·obtain ⟨h5, h6, h7, h8⟩ := hc.env.bx b' j hj
  refine ⟨h5, h6, ?_, h8⟩
  show (if j = k then some m else e.cl j) = _
  rw [if_neg (fun e' => hfree b' (by rw [← e']; exact hj))]; exact h7
 ·obtain ⟨G, cur, h5, h6, h7, h8, h9⟩ := hc.env.gr j g hg
  refine ⟨G, cur, h5, h6, h7, ?_, h9⟩
  show (if j = k then some m else e.cl j) = _
  rw [if_neg (fun e' => by subst e'; rw [hgr] at hg; cases hg)]; exact h8
def Pl.lf : Pl → Bool
 | .raw v => jA2 v
 | .sl .. => true
theorem lf_val {e : Env} {v : Value} {x : Pl} (h : PRep e v x) (hl : x.lf = true) : jA2 v = true := by
 cases h with
 | raw v => exact hl
 | sl => rfl
theorem jO7 (t nm : Nat) {n c : Nat} {cs : List Dt} (ps : List Pl) (ht : kv s t = some (.arr nm 0 n c)) (hb : kv b nm = some cs) (hkb : kv Γ.kb nm = none) (hcut : wH (qH nm) s (fun s' => jA3 (Nat.beq nm) (qH nm) b (fun b' => some (s', b'))) = some (s', b'))
  (hcs : cs.length = c) (hnc : n ≤ c) (hps : ps.length = n) (htk : cs.take n = ps.map Dt.p) (hcm : c ≤ maxLen) (hlf : ∀ x ∈ ps, x.lf = true) : Ghost Γ ⟨s, b, g⟩ ⟨(t, .p (.sl false n ps)) :: s', b', g⟩ := by
 rw [jB3, jB8] at hcut
 cases hcut
 intro a e hc
 have hfor := hc.forget nm hkb
 have h1 := hc.slots t _ ht
 obtain ⟨k, vs, el, h2, h3, h4⟩ := hc.boxes nm cs hb
 have hbx := hc.env.bx nm k h2
 have hfree : ∀ x, (e.cut (qH nm) fun _ => true).bx x ≠ some k := fun x hx => by
  have hx' : (if qH nm x = true then e.bx x else none) = some k := hx
  split at hx'
  ·rename_i hne; exact notN_ne hne (hc.env.inj _ _ _ hx' h2)
  ·cases hx'
 have hgr0 : (e.cut (qH nm) fun _ => true).gr k = none := by
  show (match e.gr k with | some g => if true = true then some g else none | none => none) = none
  rw [hbx.2.2.2]
 obtain ⟨h5, hE⟩ := hfor.claim n hbx.2.1 hbx.2.2.1 hgr0 hfree
 refine ⟨{ e.cut (qH nm) (fun _ => true) with cl := fun j => if j = k then some n else (e.cut (qH nm) fun _ => true).cl j }, rfl, h5.size, h5.df, fun u d hu => ?_, h5.boxes, h5.nobox, h5.gs, h5.env⟩
 simp only [jU] at hu
 split at hu
 ·rename_i htu
  subst htu
  cases hu
  have hlen : vs.length = c := by rw [h4.1, hcs]
  have hpl := kC9 h4 (by rw [hps]; exact htk)
  generalize uI a t = v at h1
  cases h1 with
  | arr hk =>
   rw [h2] at hk
   cases hk
   refine .p (jN9 hnc hcm (fun h => by cases h) (fun h => by cases h) (.inr ⟨k, 0, rfl, fun j => vs.getD j undef, fun j x hx => ?_⟩))
   have hj := (List.getElem?_eq_some_iff.1 hx).1
   have hj' : j < vs.length := by omega
   have hgd : vs.getD j undef = vs[j] := by simp [hj']
   have hu : vs[j]? = some vs[j] := List.getElem?_eq_getElem hj'
   have hr := hpl j _ x hu hx
   show Env.claimed _ k (0 + j) ∧ World.cell? _ ⟨k, 0 + j, none⟩ = some (vs.getD j undef) ∧ jA2 (vs.getD j undef) = true ∧ PRep _ (vs.getD j undef) x
   rw [hgd, Nat.zero_add]
   refine ⟨fun q hq => ?_, ?_, lf_val hr (hlf x (List.mem_of_getElem? hx)), (hr.cut).next hE⟩
   ·have hq' : (if k = k then some n else e.cl k) = some q := hq
    rw [if_pos rfl] at hq'
    cases hq'
    omega
   ·show e.w.cell? _ = _
    rw [cell_of_row e.w k j vs.toArray el (0, 0) h3, List.getElem?_toArray]; exact hu
 ·exact h5.slots u d hu
/-! ### Bits -/
abbrev dU (m : Nat) : Dt := .p (.raw (.int .u64 m))
variable {S : Nat → Option Dt} {B : Nat → Option (List Dt)}
theorem wrapU {n : Nat} (h : n < 18446744073709551616) : IntKind.u64.wrap (n : Int) = n := by
 simp only [IntKind.wrap, IntKind.signed, IntKind.bits]
 simp
 omega
def clr (m i : Nat) : Nat := (BitVec.ofNat 64 m &&& ~~~ BitVec.ofNat 64 (2 ^ i)).toNat
theorem clr_bit (m i j : Nat) (hm : m < 18446744073709551616) : (clr m i).testBit j = (m.testBit j && !decide (i = j)) := by
 have h1 : (clr m i).testBit j = (BitVec.ofNat 64 m &&& ~~~ BitVec.ofNat 64 (2 ^ i)).getLsbD j := rfl
 rw [h1, BitVec.getLsbD_and, BitVec.getLsbD_not, BitVec.getLsbD_ofNat, BitVec.getLsbD_ofNat, Nat.testBit_two_pow]
 by_cases hj : j < 64
 ·simp [hj]
 ·have : m.testBit j = false := Nat.testBit_lt_two_pow (Nat.lt_of_lt_of_le hm (by have := Nat.pow_le_pow_right (n := 2) (by omega) (show 64 ≤ j by omega); omega))
  simp [hj, this]
end
end Go.Proofs.YtkkldicehapklaaGreat
end
section
/- Elements of arrays that are variables of ours. -/
namespace Go.Proofs.YtkkldicehapklaaGreat
open Go.RowKit
section
variable {P : Program} {T : Nat → Option TI} {S : Nat → Option Dt} {B : Nat → Option (List Dt)} {o : Oper}
theorem jZ (hT : kU P T) {t el : TypeId} {x y : Operand} {nm of n : Nat} {k : IntKind} {i : Int} {z1 z2 : Nat} {z3 : Value} {j : TI} (ho : o.op = .indexAddr t x y) (ht : T t = some ⟨.array n el, z1, z2, z3⟩) (he : T el = some j)
  (hx : ev S x = some (.ptr nm of)) (hy : ev S y = some (.p (.raw (.int k i)))) (h0 : 0 ≤ i) (hlt : i < n) : QStep P o S B (.ptr nm (of + i.toNat * j.sz)) none := by
 refine kZ fun a e hs => ?_
 have h1 := hs.1 x (by rw [ho]; simp [Op.operands]) _ hx
 have h2 := kF (hs.1 y (by rw [ho]; simp [Op.operands]) _ hy)
 generalize hv : a.eval x = vx at h1
 cases h1 with
 | ptr hb =>
  rename_i kk
  obtain ⟨d0, hd0, hk⟩ := hT.desc t _ ht
  cases d0 <;> simp only [jF2, reduceCtorEq, TK.array.injEq] at hk
  rw [hk.1, hk.2] at hd0
  refine ⟨.pointer (some ⟨kk, of + i.toNat * j.sz, none⟩), ?_, .ptr hb⟩
  obtain ⟨dst, op, type, pos, after, guard⟩ := o
  simp only at ho
  subst ho
  simp [execOp, Instr.indexAt, Instr.sureAddr, h2, hv, asIntOf, run_underlying hd0, h0, hlt, yO hT he, xG]
theorem jQ6 {α β : Type} : ∀ (n : Nat) (l : List β) (k : List β → Option α), n ≤ l.length → wK n l k = k (l.drop n)
 | 0, l, k, _ => rfl
 | n + 1, [], k, h => by simp at h
 | n + 1, x :: l, k, h => by rw [wK, jQ6 n l k (by simpa using h)]; rfl
theorem kS (hT : kU P T) {ty : TypeId} {x : Operand} {i : TI} {b of : Nat} {cs : List Dt} {d : Dt} (ho : o.op = .load ty x) (ht : T ty = some i) (hag : i.k.agg = false) (hx : ev S x = some (.ptr b of)) (hb : B b = some cs) (hd : cs[of]? = some d) : QStep P o S B d none := by
 refine jE2 hT ?_
 obtain ⟨h1, h2⟩ := List.getElem?_eq_some_iff.1 hd
 rw [ho]
 simp only [ax, ht, hx, hb]
 rw [jQ6 of cs _ (by omega), List.drop_eq_getElem_cons h1, h2]
 simp [loadD, hag]
end
end Go.Proofs.YtkkldicehapklaaGreat
end
section
/- make, and elements that are written, of rows over variables of ours. -/
namespace Go.Proofs.YtkkldicehapklaaGreat
open Go.RowKit
section
variable {P : Program} {T : Nat → Option TI} {Γ : Ctx} {S : Nat → Option Dt} {B : Nat → Option (List Dt)} {o : Oper} {l0 l : List Oper} {Q : Exit → St → Prop}
variable {s : List (Nat × Dt)} {b : List (Nat × List Dt)} {g : List (Nat × Gr)} {t : Nat}
theorem made_one (z : Value) (n : Nat) : madeCells #[z] n = (List.replicate n z).toArray := by
 apply Array.ext
 ·simp [madeCells]
 ·intro j h1 h2
  simp [madeCells, Nat.mod_one]
theorem kH9 (hT : kU P T) (nm : Nat) {ty el : TypeId} {z1 z2 : Nat} {z3 : Value} {i : TI} {x y : Operand} {k k' : IntKind} {n m : Int} {c : Nat} (ho : o.op = .makeSlice ty x y) (ht : T ty = some ⟨.slice el, z1, z2, z3⟩) (hel : T el = some i) (hs1 : Nat.beq i.sz 1 = true) (hz1 : i.zero.cells = #[i.zero])
  (hx : ev S x = some (.p (.raw (.int k n)))) (hy : ev S y = some (.p (.raw (.int k' m)))) (hn : n = c) (hm : m = c) (hb : c * i.bytes ≤ 140737488355328) (h63 : c ≤ maxLen) : QStep P o S B (.arr nm 0 c c) (some (nm, List.replicate c (yW i.zero))) := by
 subst hn; subst hm
 intro a e hs hnb
 have h1 := kF (hs.1 x (by rw [ho]; simp [Op.operands]) _ hx)
 have h2 := kF (hs.1 y (by rw [ho]; simp [Op.operands]) _ hy)
 obtain ⟨d0, hd0, hk⟩ := hT.desc ty _ ht
 cases d0 <;> simp only [jF2, reduceCtorEq, TK.slice.injEq] at hk
 rw [hk] at hd0
 obtain ⟨inf, hinf, hsz, hby, hz⟩ := hT.info _ i hel
 have hs1' := Nat.eq_of_beq_eq_true hs1
 have hbig : (inf.bytes : Int) * (c : Int) ≤ 281474976710656 := by
  have : ((c * i.bytes : Nat) : Int) ≤ 140737488355328 := by omega
  rw [Int.natCast_mul, Int.mul_comm] at this
  rw [hby]; omega
 have hrun := run_make (P := P) e.w ty el inf i.zero hd0 hinf hz k k' c c (Int.natCast_nonneg c) (by omega) hbig (by unfold maxLen at h63; omega)
 rw [Int.toNat_natCast, hsz, hs1', Nat.mul_one, hz1, made_one] at hrun
 unfold Oper.wp
 have e1 : (execOp a.eval o).run P e.w = .ok (.value (.slice (some ⟨e.w.heap.size, 0, none⟩) c c)) (e.w.alloc (.cells (List.replicate c i.zero).toArray el)) := by
  obtain ⟨dst, op, type, pos, after, guard⟩ := o
  simp only at ho
  subst ho
  simp [execOp, h1, h2, hrun]
 rw [e1]
 have hg := Env.alloc_grow e (.cells (List.replicate c i.zero).toArray el) (some 0)
 have hbn : (e.alloc (.cells (List.replicate c i.zero).toArray el) (some 0)).bx nm = none := by rw [hg.bx]; exact hnb _ rfl
 refine ⟨_, (e.alloc (.cells (List.replicate c i.zero).toArray el) (some 0)).withBox nm e.w.heap.size, rfl, rfl, _, e.w.heap.size, hg, Nat.le_refl _, by simp [Env.alloc], by simp [Env.alloc], rfl, ⟨e.w.heap.size, List.replicate c i.zero, el, by simp [Env.withBox], heap_alloc_new e.w _, ?_⟩, .arr (by simp [Env.withBox])⟩
 refine ⟨by simp, fun j v d hv hd => ?_⟩
 rw [List.getElem?_replicate] at hv hd
 split at hv
 ·rename_i hj
  rw [if_pos hj] at hd
  cases hv; cases hd
  exact jD7 _ _
 ·cases hv
theorem jJ (hT : kU P T) {ty el : TypeId} {x y : Operand} {nm n c : Nat} {k : IntKind} {i : Int} {z1 z2 : Nat} {z3 : Value} {j : TI} {p : Nat} (ho : o.op = .indexAddr ty x y) (ht : T ty = some ⟨.slice el, z1, z2, z3⟩) (he : T el = some j)
  (hx : ev S x = some (.arr nm 0 n c)) (hy : ev S y = some (.p (.raw (.int k i)))) (h0 : 0 ≤ i) (hlt : i < n) (hp : p = i.toNat * j.sz) : QStep P o S B (.ptr nm p) none := by
 subst hp
 refine kZ fun a e hs => ?_
 have h1 := hs.1 x (by rw [ho]; simp [Op.operands]) _ hx
 have h2 := kF (hs.1 y (by rw [ho]; simp [Op.operands]) _ hy)
 generalize hv : a.eval x = vx at h1
 cases h1 with
 | arr hb =>
  rename_i kk
  obtain ⟨d0, hd0, hk⟩ := hT.desc ty _ ht
  cases d0 <;> simp only [jF2, reduceCtorEq, TK.slice.injEq] at hk
  rw [hk] at hd0
  refine ⟨.pointer (some ⟨kk, i.toNat * j.sz, none⟩), ?_, .ptr hb⟩
  obtain ⟨dst, op, type, pos, after, guard⟩ := o
  simp only at ho
  subst ho
  simp [execOp, Instr.indexAt, h2, hv, asIntOf, run_underlying hd0, h0, hlt, yO hT he, xG]
theorem stored_one {cs : List Dt} {of : Nat} {d : Dt} (h : of < cs.length) : wC cs of [d] = cs.set of d := by
 unfold wC
 rw [List.set_eq_take_append_cons_drop, if_pos h]
 simp
theorem vU (hT : kU P T) {ty : TypeId} {x y : Operand} {nm of : Nat} {cs : List Dt} {dy : Dt} {i : TI} (ho : o.op = .store ty x y) (hd : o.dst = none) (ht : T ty = some i) (hs1 : Nat.beq i.sz 1 = true) (hx : ev (kv s) x = some (.ptr nm of)) (hb : kv b nm = some cs) (hy : ev (kv s) y = some dy)
  (hl : dy.leaf = true) (hg : gd l0 o (kv s) = some true) (hof : of < cs.length) (h : zY P Γ l0 Q l ⟨s, (nm, cs.set of dy) :: b, g⟩) : zY P Γ l0 Q (o :: l) ⟨s, b, g⟩ := by
 have hc : dy.cells = [dy] := by cases dy <;> first | rfl | cases hl
 have hlv : jK5 dy = true := by cases dy <;> first | exact hl | cases hl
 have hss := jV1 (P := P) (Γ := Γ) (σ := ⟨s, b, g⟩) hT ho hd ht hx hb hy hlv (by rw [hc, Nat.eq_of_beq_eq_true hs1]; rfl) (by rw [hc]; exact hof)
 rw [hc, stored_one hof] at hss
 exact jA6 (σ := ⟨s, b, g⟩) hg hss h
end
end Go.Proofs.YtkkldicehapklaaGreat
end
