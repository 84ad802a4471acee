/- A region that draws its order: its head of quiet operations in whatever order, its tail in the order that is forced. -/
import Derived.Test.YtcjooalmhppkiaaRRRRAbs8
namespace Go.Proofs.YtcjooalmhppkiaaRRRR
open Go.RowKit

section
variable {P : Program} {Γ : Ctx}

/-- What a store leaves: one variable of ours has turned. -/
structure UPost (Γ : Ctx) (e e' : Env) (b : Nat) (cs : List Dt) : Prop where
  ends : Ends e e'
  ok : EnvOk Γ e'
  bx : e'.bx = e.bx
  gi : e'.gi = e.gi
  at_ : BoxAt e' b cs
  other : ∀ c ds, c ≠ b → BoxAt e c ds → BoxAt e' c ds
/-- A store into a variable of ours. -/
def SStep (P : Program) (o : Oper) (S : Nat → Option Dt) (nm : Nat) (cs cs' : List Dt) : Prop :=
  ∀ (Γ : Ctx) (a : Act) (e : Env), EnvOk Γ e → (∀ x ∈ o.op.operands, ∀ d, ev S x = some d → DRep e (a.eval x) d) → (e.bx nm ≠ none → BoxAt e nm cs) →
    e.bx nm ≠ none ∧ o.wp P a e.w (fun a' w' => a' = a.put o.dst undef ∧ ∃ e', e'.w = w' ∧ UPost Γ e e' nm cs') (fun _ _ _ => False)

/-- What an append leaves: one group of rows has grown. -/
structure GPost (Γ : Ctx) (e e' : Env) (g : Nat) (G : Gr) (v : Value) (d : Dt) : Prop where
  ends : Ends e e'
  ok : EnvOk Γ e'
  bx : e'.bx = e.bx
  gi : ∀ h, e'.gi h = if h = g then some G else e.gi h
  other : ∀ c ds, BoxAt e c ds → BoxAt e' c ds
  rep : DRep e' v d
/-- An append to a group, or one that makes it. -/
def GStep (P : Program) (o : Oper) (S : Nat → Option Dt) (g : Nat) (G0 : Option Gr) (G : Gr) (d : Dt) : Prop :=
  ∀ (Γ : Ctx) (a : Act) (e : Env), EnvOk Γ e → (∀ x ∈ o.op.operands, ∀ d, ev S x = some d → DRep e (a.eval x) d) → e.gi g = G0 →
    o.wp P a e.w (fun a' w' => ∃ v e', a' = a.put o.dst v ∧ e'.w = w' ∧ GPost Γ e e' g G v d) (fun _ _ _ => False)
/-- The slot that holds a group's row is looked at. -/
def looksB (o : Oper) (L : List (Nat × Nat)) (g : Nat) : Bool := match kv L g with
  | none => true
  | some t => o.op.operands.toList.any fun | .tmp u => Nat.beq u t | _ => false

/-- Is an operation ahead of all that write? -/
def earlyB (l0 : List Oper) (o : Oper) : Bool := match o.dst with
  | none => false
  | some t => l0.all fun p => match p.dst with
    | some _ => true
    | none => p.after.any fun e => Region.binds .any e && (match (l0[e.on]?).bind (·.dst) with | some u => Nat.beq u t | none => false)

/-- The head, in the text's order. -/
def QRun (P : Program) (n : Nat) (l0 : List Oper) (B B0 : List (Nat × List Dt)) (K : St → Prop) : List Nat → List (Nat × Nat) → List Oper → St → Prop
  | _, _, [], σ => K σ
  | D, L, o :: rest, σ => (∃ d nb, gd l0 o (kv σ.s) = some true ∧ (QStep P o (kv σ.s) (kv B) d nb ∨ (earlyB l0 o = true ∧ QStep P o (kv σ.s) (kv B0) d nb)) ∧ (∀ p, nb = some p → kv σ.b p.1 = none ∧ kv B p.1 = none) ∧ QRun P n l0 B B0 K D L rest ((σ.box nb).put o.dst d)) ∨ (gd l0 o (kv σ.s) = some false ∧ QRun P n l0 B B0 K D L rest (σ.put o.dst (.p (.raw undef)))) ∨
    (∃ nm cs cs', gd l0 o (kv σ.s) = some true ∧ o.dst = none ∧ kv B nm = none ∧ D.contains nm = false ∧ kv σ.b nm = some cs ∧ SStep P o (kv σ.s) nm cs cs' ∧ QRun P n l0 B B0 K (nm :: D) L rest (σ.box (some (nm, cs')))) ∨
    (∃ g G d t, gd l0 o (kv σ.s) = some true ∧ o.dst = some t ∧ looksB o L g = true ∧ GStep P o (kv σ.s) g (kv σ.g g) G d ∧ QRun P n l0 B B0 K D ((g, t) :: L) rest ((σ.setGr g G).put o.dst d))

def stS (l : List Oper) (F : Nat → Dt) (S : Nat → Option Dt) : Nat → Nat → Option Dt
  | 0 => S
  | i + 1 => fun t => if (l[i]?).bind (·.dst) = some t then some (F i) else stS l F S i t
def updB (nb : Option (Nat × List Dt)) (B : Nat → Option (List Dt)) : Nat → Option (List Dt) := fun b => match nb with
  | some p => if p.1 = b then some p.2 else B b
  | none => B b
def stB (N : Nat → Option (Nat × List Dt)) (B : Nat → Option (List Dt)) : Nat → Nat → Option (List Dt)
  | 0 => B
  | i + 1 => updB (N i) (stB N B i)

def updG (m : Option (Nat × Gr)) (G : Nat → Option Gr) : Nat → Option Gr := fun h => match m with
  | some p => if p.1 = h then some p.2 else G h
  | none => G h
def stG (M : Nat → Option (Nat × Gr)) (G : Nat → Option Gr) : Nat → Nat → Option Gr
  | 0 => G
  | i + 1 => updG (M i) (stG M G i)
def consL (m : Option (Nat × Gr)) (t : Option Nat) (L : List (Nat × Nat)) : List (Nat × Nat) := match m with
  | some p => match t with
    | some u => (p.1, u) :: L
    | none => L
  | none => L
def stL (l : List Oper) (M : Nat → Option (Nat × Gr)) (L : List (Nat × Nat)) : Nat → List (Nat × Nat)
  | 0 => L
  | i + 1 => consL (M i) ((l[i]?).bind (·.dst)) (stL l M L i)
theorem stG_left (m : Option (Nat × Gr)) (M : Nat → Option (Nat × Gr)) (G : Nat → Option Gr) : ∀ i, stG (fun j => if j = 0 then m else M (j - 1)) G (i + 1) = stG M (updG m G) i
  | 0 => by simp [stG]
  | i + 1 => by
    rw [stG, stG_left m M G i, stG]
    simp
theorem stL_left (o : Oper) (l : List Oper) (m : Option (Nat × Gr)) (M : Nat → Option (Nat × Gr)) (L : List (Nat × Nat)) : ∀ i, stL (o :: l) (fun j => if j = 0 then m else M (j - 1)) L (i + 1) = stL l M (consL m o.dst L) i
  | 0 => by simp [stL]
  | i + 1 => by
    rw [stL, stL_left o l m M L i, stL]
    simp
def nameIn (p : Option (Nat × List Dt)) (D : List Nat) : List Nat := match p with
  | some q => q.1 :: D
  | none => D
def stD (U : Nat → Bool) (N : Nat → Option (Nat × List Dt)) (D : List Nat) : Nat → List Nat
  | 0 => D
  | i + 1 => bif U i then nameIn (N i) (stD U N D i) else stD U N D i
def LStep (P : Program) (l0 : List Oper) (B B0 : Nat → Option (List Dt)) (S : Nat → Option Dt) (Bi : Nat → Option (List Dt)) (Gi : Nat → Option Gr) (D : List Nat) (L : List (Nat × Nat)) (o : Oper) (d : Dt) (nb : Option (Nat × List Dt)) (u : Bool) (m : Option (Nat × Gr)) : Prop :=
  (gd l0 o S = some true ∧ (QStep P o S B d nb ∨ (earlyB l0 o = true ∧ QStep P o S B0 d nb)) ∧ (∀ p, nb = some p → Bi p.1 = none ∧ B p.1 = none) ∧ u = false ∧ m = none) ∨ (gd l0 o S = some false ∧ d = .p (.raw undef) ∧ nb = none ∧ u = false ∧ m = none) ∨
  (∃ nm cs cs', gd l0 o S = some true ∧ o.dst = none ∧ B nm = none ∧ D.contains nm = false ∧ Bi nm = some cs ∧ SStep P o S nm cs cs' ∧ d = .any ∧ nb = some (nm, cs') ∧ u = true ∧ m = none) ∨
  (∃ g G t, gd l0 o S = some true ∧ o.dst = some t ∧ looksB o L g = true ∧ GStep P o S g (Gi g) G d ∧ nb = none ∧ u = false ∧ m = some (g, G))

theorem stD_left (u : Bool) (nb : Option (Nat × List Dt)) (U : Nat → Bool) (N : Nat → Option (Nat × List Dt)) (D : List Nat) : ∀ i, stD (fun j => if j = 0 then u else U (j - 1)) (fun j => if j = 0 then nb else N (j - 1)) D (i + 1) = stD U N (bif u then nameIn nb D else D) i
  | 0 => by simp [stD]
  | i + 1 => by
    rw [stD, stD_left u nb U N D i, stD]
    simp
theorem stS_left (o : Oper) (l : List Oper) (d : Dt) (F : Nat → Dt) (S : Nat → Option Dt) : ∀ i, stS (o :: l) (fun j => if j = 0 then d else F (j - 1)) S (i + 1) = stS l F (fun t => if o.dst = some t then some d else S t) i
  | 0 => by funext t; simp [stS]
  | i + 1 => by
    rw [stS, stS_left o l d F S i, stS]
    simp
theorem stB_left (nb : Option (Nat × List Dt)) (N : Nat → Option (Nat × List Dt)) (B : Nat → Option (List Dt)) : ∀ i, stB (fun j => if j = 0 then nb else N (j - 1)) B (i + 1) = stB N (updB nb B) i
  | 0 => by funext t; simp [stB]
  | i + 1 => by
    rw [stB, stB_left nb N B i, stB]
    simp

theorem lk_put (σ : St) (dst : Option Nat) (d : Dt) : kv (σ.put dst d).s = fun t => if dst = some t then some d else kv σ.s t := by
  funext t
  cases dst with
  | none => simp [St.put]
  | some u => simp [St.put, lk_cons]
theorem lk_box (σ : St) (nb : Option (Nat × List Dt)) : kv (σ.box nb).b = updB nb (kv σ.b) := by
  funext b
  cases nb with
  | none => rfl
  | some p => obtain ⟨x, y⟩ := p; simp [St.box, lk_cons, updB]
theorem box_s (σ : St) (nb : Option (Nat × List Dt)) : (σ.box nb).s = σ.s := by cases nb <;> rfl
theorem put_b (σ : St) (dst : Option Nat) (d : Dt) : (σ.put dst d).b = σ.b := by cases dst <;> rfl
theorem put_g (σ : St) (dst : Option Nat) (d : Dt) : (σ.put dst d).g = σ.g := by cases dst <;> rfl
theorem box_g (σ : St) (nb : Option (Nat × List Dt)) : (σ.box nb).g = σ.g := by cases nb <;> rfl

def St.grow (σ : St) : Option (Nat × Gr) → St
  | some p => σ.setGr p.1 p.2
  | none => σ
theorem lk_grow (σ : St) (m : Option (Nat × Gr)) : kv (σ.grow m).g = updG m (kv σ.g) := by
  funext h
  cases m with
  | none => rfl
  | some p => obtain ⟨x, y⟩ := p; simp [St.grow, St.setGr, lk_cons, updG]
theorem grow_s (σ : St) (m : Option (Nat × Gr)) : (σ.grow m).s = σ.s := by cases m <;> rfl
theorem grow_b (σ : St) (m : Option (Nat × Gr)) : (σ.grow m).b = σ.b := by cases m <;> rfl

theorem QRun.extract {n : Nat} {l0 : List Oper} {B B0 : List (Nat × List Dt)} {K : St → Prop} : ∀ (l : List Oper) (D : List Nat) (L : List (Nat × Nat)) (σ : St), QRun P n l0 B B0 K D L l σ →
    ∃ (F : Nat → Dt) (N : Nat → Option (Nat × List Dt)) (U : Nat → Bool) (M : Nat → Option (Nat × Gr)) (σe : St), K σe ∧ kv σe.g = stG M (kv σ.g) l.length ∧ kv σe.s = stS l F (kv σ.s) l.length ∧ kv σe.b = stB N (kv σ.b) l.length ∧
      ∀ i o, l[i]? = some o → LStep P l0 (kv B) (kv B0) (stS l F (kv σ.s) i) (stB N (kv σ.b) i) (stG M (kv σ.g) i) (stD U N D i) (stL l M L i) o (F i) (N i) (U i) (M i)
  | [], D, L, σ, h => ⟨fun _ => .any, fun _ => none, fun _ => false, fun _ => none, σ, h, rfl, rfl, rfl, fun i o hi => by simp at hi⟩
  | o :: l, D, L, σ, h => by
    have key : ∀ (d : Dt) (nb : Option (Nat × List Dt)) (u : Bool) (m : Option (Nat × Gr)), LStep P l0 (kv B) (kv B0) (kv σ.s) (kv σ.b) (kv σ.g) D L o d nb u m → QRun P n l0 B B0 K (bif u then nameIn nb D else D) (consL m o.dst L) l (((σ.box nb).grow m).put o.dst d) → ∃ (F : Nat → Dt) (N : Nat → Option (Nat × List Dt)) (U : Nat → Bool) (M : Nat → Option (Nat × Gr)) (σe : St), K σe ∧ kv σe.g = stG M (kv σ.g) (o :: l).length ∧ kv σe.s = stS (o :: l) F (kv σ.s) (o :: l).length ∧ kv σe.b = stB N (kv σ.b) (o :: l).length ∧
        ∀ i o', (o :: l)[i]? = some o' → LStep P l0 (kv B) (kv B0) (stS (o :: l) F (kv σ.s) i) (stB N (kv σ.b) i) (stG M (kv σ.g) i) (stD U N D i) (stL (o :: l) M L i) o' (F i) (N i) (U i) (M i) := by
      intro d nb u m hl hr
      obtain ⟨F, N, U, M, σe, h1, h2, h3, h4, h5⟩ := QRun.extract l _ _ _ hr
      have es : kv (((σ.box nb).grow m).put o.dst d).s = fun t => if o.dst = some t then some d else kv σ.s t := by rw [lk_put, grow_s, box_s]
      have eb : kv (((σ.box nb).grow m).put o.dst d).b = updB nb (kv σ.b) := by rw [put_b, grow_b, lk_box]
      have eg : kv (((σ.box nb).grow m).put o.dst d).g = updG m (kv σ.g) := by rw [put_g, lk_grow, box_g]
      refine ⟨fun j => if j = 0 then d else F (j - 1), fun j => if j = 0 then nb else N (j - 1), fun j => if j = 0 then u else U (j - 1), fun j => if j = 0 then m else M (j - 1), σe, h1, ?_, ?_, ?_, fun i o' hi => ?_⟩
      · rw [List.length_cons, stG_left, ← eg]; exact h2
      · rw [List.length_cons, stS_left, ← es]; exact h3
      · rw [List.length_cons, stB_left, ← eb]; exact h4
      · cases i with
        | zero =>
          simp only [List.getElem?_cons_zero, Option.some.injEq] at hi
          subst hi
          exact hl
        | succ i =>
          have := h5 i o' (by simpa using hi)
          rw [stS_left, stB_left, stG_left, stD_left, stL_left, ← es, ← eb, ← eg]
          simpa using this
    rcases h with ⟨d, nb, hg, hq, hf, hr⟩ | ⟨hg, hr⟩ | ⟨nm, cs, cs', hg, hd, hb, hD, hc, hs, hr⟩ | ⟨g, G, d, t, hg, hd, hL, hs, hr⟩
    · exact key d nb false none (.inl ⟨hg, hq, hf, rfl, rfl⟩) hr
    · exact key (.p (.raw undef)) none false none (.inr (.inl ⟨hg, rfl, rfl, rfl, rfl⟩)) (by simpa [St.box, St.grow, consL] using hr)
    · exact key .any (some (nm, cs')) true none (.inr (.inr (.inl ⟨nm, cs, cs', hg, hd, hb, hD, hc, hs, rfl, rfl, rfl, rfl⟩))) (by rw [hd]; exact hr)
    · exact key d none false (some (g, G)) (.inr (.inr (.inr ⟨g, G, t, hg, hd, hL, hs, rfl, rfl, rfl⟩))) (by rw [hd] at hr ⊢; exact hr)

theorem stS_of_dst {ops : Array Oper} {n : Nat} (hok : RelOk ops n) {F : Nat → Dt} {S : Nat → Option Dt} {j : Nat} {oj : Oper} {t : Tmp} (hj : ops[j]? = some oj) (ht : oj.dst = some t) : ∀ i, j < i → stS ops.toList F S i t = some (F j)
  | 0, h => by omega
  | i + 1, h => by
    by_cases hji : j = i
    · subst hji
      simp [stS, hj, ht]
    · simp only [stS]
      rw [if_neg, stS_of_dst hok hj ht i (by omega)]
      intro he
      rcases ho : ops[i]? with _ | oi
      · simp [ho] at he
      · exact hok.ne j i oj oi t hj ho hji ht (by simpa [ho] using he)
theorem stS_of_none {ops : Array Oper} {F : Nat → Dt} {S : Nat → Option Dt} {t : Tmp} : ∀ i, (∀ j oj, j < i → ops[j]? = some oj → oj.dst ≠ some t) → stS ops.toList F S i t = S t
  | 0, _ => rfl
  | i + 1, h => by
    simp only [stS]
    rw [if_neg, stS_of_none i fun j oj hj => h j oj (by omega)]
    intro he
    rcases ho : ops[i]? with _ | oi
    · simp [ho] at he
    · exact h i oi (by omega) ho (by simpa [ho] using he)
theorem stB_of {N : Nat → Option (Nat × List Dt)} {B : Nat → Option (List Dt)} {b : Nat} : ∀ i, stB N B i b = none → B b = none ∧ ∀ j p, j < i → N j = some p → p.1 ≠ b
  | 0, h => ⟨h, fun j p hj => by omega⟩
  | i + 1, h => by
    simp only [stB, updB] at h
    have step : stB N B i b = none ∧ ∀ p, N i = some p → p.1 ≠ b := by
      split at h
      · rename_i p hp
        split at h
        · cases h
        · rename_i hne; exact ⟨h, fun q hq => by rw [hp] at hq; cases hq; exact hne⟩
      · rename_i hp; exact ⟨h, fun q hq => by rw [hp] at hq; cases hq⟩
    obtain ⟨h1, h2⟩ := stB_of i step.1
    refine ⟨h1, fun j p hj hp => ?_⟩
    by_cases e : j = i
    · subst e; exact step.2 p hp
    · exact h2 j p (by omega) hp
theorem stB_some {N : Nat → Option (Nat × List Dt)} {B : Nat → Option (List Dt)} {b : Nat} {cs : List Dt} : ∀ i, stB N B i b = some cs → (B b = some cs ∧ ∀ j p, j < i → N j = some p → p.1 ≠ b) ∨ ∃ j, j < i ∧ N j = some (b, cs) ∧ ∀ k p, j < k → k < i → N k = some p → p.1 ≠ b
  | 0, h => .inl ⟨h, fun j p hj => by omega⟩
  | i + 1, h => by
    simp only [stB, updB] at h
    have ext : (∀ p, N i = some p → p.1 ≠ b) → stB N B i b = some cs → (B b = some cs ∧ ∀ j p, j < i + 1 → N j = some p → p.1 ≠ b) ∨ ∃ j, j < i + 1 ∧ N j = some (b, cs) ∧ ∀ k p, j < k → k < i + 1 → N k = some p → p.1 ≠ b := by
      intro hn h
      rcases stB_some i h with ⟨h1, h2⟩ | ⟨j, hj, hq, h2⟩
      · refine .inl ⟨h1, fun j p hj hp => ?_⟩
        by_cases e : j = i
        · subst e; exact hn p hp
        · exact h2 j p (by omega) hp
      · refine .inr ⟨j, by omega, hq, fun k p hk hki hp => ?_⟩
        by_cases e : k = i
        · subst e; exact hn p hp
        · exact h2 k p hk (by omega) hp
    split at h
    · rename_i p hp
      split at h
      · rename_i he
        cases h
        refine .inr ⟨i, by omega, by rw [hp, ← he], fun k p hk hki => by omega⟩
      · rename_i hne
        exact ext (fun q hq => by rw [hp] at hq; cases hq; exact hne) h
    · rename_i hp
      exact ext (fun q hq => by rw [hp] at hq; cases hq) h
theorem stB_mem {N : Nat → Option (Nat × List Dt)} {B : Nat → Option (List Dt)} {b : Nat} {i j : Nat} {p : Nat × List Dt} (hj : j < i) (hp : N j = some p) (hb : p.1 = b) : stB N B i b ≠ none := fun h => (stB_of i h).2 j p hj hp hb
theorem stD_mem {U : Nat → Bool} {N : Nat → Option (Nat × List Dt)} {D : List Nat} : ∀ {i j : Nat} {p : Nat × List Dt}, j < i → U j = true → N j = some p → p.1 ∈ stD U N D i
  | 0, j, p, h, _, _ => by omega
  | i + 1, j, p, h, hu, hp => by
    by_cases e : j = i
    · subst e
      simp [stD, hu, hp, nameIn]
    · have := stD_mem (D := D) (i := i) (j := j) (p := p) (by omega) hu hp
      rw [stD]
      cases U i
      · exact this
      · cases N i with
        | none => exact this
        | some q => exact List.mem_cons_of_mem _ this

theorem stG_last {M : Nat → Option (Nat × Gr)} {G : Nat → Option Gr} {h : Nat} : ∀ i, (stG M G i h = G h ∧ ∀ j p, j < i → M j = some p → p.1 ≠ h) ∨ ∃ j Gj, j < i ∧ M j = some (h, Gj) ∧ stG M G i h = some Gj ∧ ∀ k p, j < k → k < i → M k = some p → p.1 ≠ h
  | 0 => .inl ⟨rfl, fun j p hj => by omega⟩
  | i + 1 => by
    have ext : (∀ p, M i = some p → p.1 ≠ h) → stG M G (i + 1) h = stG M G i h := by
      intro hn
      simp only [stG, updG]
      cases hm : M i with
      | none => rfl
      | some p => simp only; rw [if_neg (hn p hm)]
    by_cases hn : ∀ p, M i = some p → p.1 ≠ h
    · rw [ext hn]
      rcases stG_last (M := M) (G := G) (h := h) i with ⟨h1, h2⟩ | ⟨j, Gj, hj, hm, hs, h2⟩
      · refine .inl ⟨h1, fun j p hj hp => ?_⟩
        by_cases e : j = i
        · subst e; exact hn p hp
        · exact h2 j p (by omega) hp
      · refine .inr ⟨j, Gj, by omega, hm, hs, fun k p hk hki hp => ?_⟩
        by_cases e : k = i
        · subst e; exact hn p hp
        · exact h2 k p hk (by omega) hp
    · obtain ⟨p, hp, he⟩ : ∃ p, M i = some p ∧ p.1 = h := by
        refine Classical.byContradiction fun hc => hn fun p hp he => hc ⟨p, hp, he⟩
      refine .inr ⟨i, p.2, by omega, by rw [hp, ← he], by simp [stG, updG, hp, he], fun k p hk hki => by omega⟩
theorem stL_last {l : List Oper} {M : Nat → Option (Nat × Gr)} {h : Nat} : ∀ {i j : Nat} {p : Nat × Gr} {t : Nat}, j < i → M j = some p → p.1 = h → (l[j]?).bind (·.dst) = some t → (∀ k q, j < k → k < i → M k = some q → q.1 ≠ h) → kv (stL l M [] i) h = some t
  | 0, j, p, t, hj, _, _, _, _ => by omega
  | i + 1, j, p, t, hj, hp, hh, ht, hn => by
    by_cases e : j = i
    · subst e
      simp [stL, consL, hp, ht, lk_cons, hh]
    · have ih := stL_last (l := l) (M := M) (h := h) (i := i) (j := j) (p := p) (t := t) (by omega) hp hh ht (fun k q hk hki hq => hn k q hk (by omega) hq)
      simp only [stL]
      cases hm : M i with
      | none => simpa [consL] using ih
      | some q =>
        have hne := hn i q (by omega) (by omega) hm
        cases hd : (l[i]?).bind (·.dst) with
        | none => simpa [consL] using ih
        | some u => simp only [consL, lk_cons]; rw [if_neg hne]; exact ih

structure AInv (Γ : Ctx) (σ : St) (ops : Array Oper) (F : Nat → Dt) (N : Nat → Option (Nat × List Dt)) (U : Nat → Bool) (M : Nat → Option (Nat × Gr)) (a0 : Act) (listed : Array Bool) (e : Env) (a : Act) : Prop where
  lsize : listed.size = ops.size
  size : a.tmps.size = Γ.n
  df : a.defers = []
  closed : ∀ (i : Nat) (o : Oper), ops[i]? = some o → listed.getD i false = true → ∀ x ∈ o.after, Region.binds .any x = true → listed.getD x.on false = true
  knows : ∀ (i : Nat) (o : Oper) (t : Tmp), ops[i]? = some o → listed.getD i false = true → o.dst = some t → DRep e (slot a t) (F i)
  kept : ∀ t, (∀ (i : Nat) (o : Oper), ops[i]? = some o → listed.getD i false = true → o.dst ≠ some t) → slot a t = slot a0 t
  slots : ∀ t d, kv σ.s t = some d → DRep e (slot a0 t) d
  boxes : ∀ b cs, kv σ.b b = some cs → (∀ i p, listed.getD i false = true → N i = some p → p.1 ≠ b) → BoxAt e b cs
  news : ∀ i p, listed.getD i false = true → N i = some p → (∀ k q, i < k → listed.getD k false = true → N k = some q → q.1 ≠ p.1) → BoxAt e p.1 p.2
  nobox : ∀ b, kv σ.b b = none → (∀ i p, listed.getD i false = true → U i = false → N i = some p → p.1 ≠ b) → e.bx b = none
  gs : ∀ g, (∀ i p, listed.getD i false = true → M i = some p → p.1 ≠ g) → e.gi g = kv σ.g g
  gw : ∀ i p, listed.getD i false = true → M i = some p → (∀ k q, i < k → listed.getD k false = true → M k = some q → q.1 ≠ p.1) → e.gi p.1 = some p.2
  env : EnvOk Γ e

theorem QPost.ends {e e' : Env} {v : Value} {d : Dt} {nb : Option (Nat × List Dt)} (h : QPost e e' v d nb) (hf : ∀ p, nb = some p → e.bx p.1 = none) : Ends e e' := by
  cases nb with
  | none => exact h.1.ends
  | some p =>
    obtain ⟨e1, k, hg, h1, h2, h3, rfl, h5, h6⟩ := h
    exact hg.ends.trans (withBox_ends (by rw [hg.bx]; exact hf _ rfl))
theorem QPost.rep {e e' : Env} {v : Value} {d : Dt} {nb : Option (Nat × List Dt)} (h : QPost e e' v d nb) : DRep e' v d := by
  cases nb with
  | none => exact h.2
  | some p => obtain ⟨e1, k, hg, h1, h2, h3, rfl, h5, h6⟩ := h; exact h6
theorem QPost.box {e e' : Env} {v : Value} {d : Dt} {nb : Option (Nat × List Dt)} (h : QPost e e' v d nb) (hf : ∀ p, nb = some p → e.bx p.1 = none) {b : Nat} {cs : List Dt} (hb : BoxAt e b cs) : BoxAt e' b cs := by
  cases nb with
  | none => exact h.1.box hb
  | some p =>
    obtain ⟨e1, k, hg, h1, h2, h3, rfl, h5, h6⟩ := h
    exact (hg.box hb).ends (withBox_ends (by rw [hg.bx]; exact hf _ rfl)) rfl
/-- A state that knows nothing but the variables: for carrying what lies beneath. -/
theorem QPost.conc {e e' : Env} {v : Value} {d : Dt} {nb : Option (Nat × List Dt)} (h : QPost e e' v d nb) (hok : EnvOk Γ e) (hf : ∀ p, nb = some p → e.bx p.1 = none) : EnvOk Γ e' ∧ (∀ g, e'.gi g = e.gi g) ∧ (∀ b, (∀ p, nb = some p → p.1 ≠ b) → e'.bx b = e.bx b) := by
  cases nb with
  | none => exact ⟨h.1.ok hok, fun g => by rw [h.1.gi], fun b _ => by rw [h.1.bx]⟩
  | some p =>
    obtain ⟨e1, k, hg, h1, h2, h3, rfl, h5, h6⟩ := h
    have hok1 := hg.ok hok
    have hgr : e1.gr k = none := by
      rw [hg.gr]
      rcases hgk : e.gr k with _ | g
      · rfl
      · obtain ⟨_, _, _, hlt, _⟩ := hok.gr k g hgk; omega
    have hfree : ∀ c, e1.bx c ≠ some k := fun c hck => by
      rw [hg.bx] at hck
      have := (hok.bx c k hck).1
      omega
    refine ⟨⟨hok1.kept, hok1.cl, fun c j hj => ?_, fun c c' j h4 h5' => ?_, hok1.gr, fun c j hj => (withBox_ends (by rw [hg.bx]; exact hf p rfl)).bx c j (hok1.kb c j hj)⟩, fun g => by show e1.gi g = _; rw [hg.gi], fun b hb => ?_⟩
    · have hj' : (if c = p.1 then some k else e1.bx c) = some j := hj
      split at hj'
      · cases hj'; exact ⟨h2, .inl (Nat.le_trans hok.kept.size h1), h3, hgr⟩
      · exact hok1.bx c j hj'
    · have h1' : (if c = p.1 then some k else e1.bx c) = some j := h4
      have h2' : (if c' = p.1 then some k else e1.bx c') = some j := h5'
      by_cases e1' : c = p.1 <;> by_cases e2 : c' = p.1
      · rw [e1', e2]
      · rw [if_pos e1'] at h1'; rw [if_neg e2] at h2'; cases h1'; exact absurd h2' (hfree c')
      · rw [if_neg e1'] at h1'; rw [if_pos e2] at h2'; cases h2'; exact absurd h1' (hfree c)
      · rw [if_neg e1'] at h1'; rw [if_neg e2] at h2'; exact hok1.inj c c' j h1' h2'
    · show (if b = p.1 then some k else e1.bx b) = _
      rw [if_neg (fun e' => hb p rfl e'.symm), hg.bx]

theorem AInv.next {σ : St} {ops : Array Oper} (hok : RelOk ops Γ.n) {F : Nat → Dt} {N : Nat → Option (Nat × List Dt)} {U : Nat → Bool} {M : Nat → Option (Nat × Gr)} {a0 : Act} {listed : Array Bool} {e e' : Env} {a : Act} (h : AInv Γ σ ops F N U M a0 listed e a)
    {i : Nat} {o : Oper} (hi : ops[i]? = some o) (hr : i ∈ Region.ready .any ops listed) {v : Value} (hq : QPost e e' v (F i) (N i)) (hf : ∀ p, N i = some p → e.bx p.1 = none) (hu : U i = false) (hM : M i = none) :
    AInv Γ σ ops F N U M a0 (listed.setIfInBounds i true) e' (a.put o.dst v) := by
  obtain ⟨hun, o', ho', hall⟩ := mem_ready.1 hr
  rw [hi] at ho'
  cases ho'
  obtain ⟨hun', hil⟩ := getD_true_false hun
  have hE := hq.ends hf
  obtain ⟨c1, c2, c3⟩ := hq.conc h.env hf
  have split : ∀ j, (listed.setIfInBounds i true).getD j false = true → j = i ∨ listed.getD j false = true := fun j hj => by
    by_cases e : i = j
    · exact .inl e.symm
    · rw [getD_set_ne false e] at hj; exact .inr hj
  have hself : (listed.setIfInBounds i true).getD i false = true := by simp [hil]
  refine ⟨by simpa using h.lsize, by rw [size_put]; exact h.size, by rw [defers_put]; exact h.df, fun j oj hj hl x hx hb' => ?_, fun j oj t hj hl ht => ?_, fun t ht => ?_, fun t d ht => (h.slots t d ht).next hE, fun b cs hb hn => hq.box hf (h.boxes b cs hb fun j p hl hp => hn j p (getD_set_true hl) hp), fun j p hl hp hn => ?_, fun b hb hn => ?_, fun g hn => by rw [c2]; exact h.gs g fun j p hl hp => hn j p (getD_set_true hl) hp, fun j p hl hp hn => ?_, c1⟩
  · rcases split j hl with rfl | hl'
    · rw [hi] at hj; cases hj; exact getD_set_true (hall x hx hb')
    · exact getD_set_true (h.closed j oj hj hl' x hx hb')
  · rcases split j hl with rfl | hl'
    · rw [hi] at hj; cases hj
      rw [ht, slot_put_same (by rw [h.size]; exact hok.lt _ _ _ hi ht)]
      exact hq.rep
    · have hne : j ≠ i := fun e => by subst e; rw [hun'] at hl'; cases hl'
      rw [slot_put_other (fun e => hok.ne j i oj o t hj hi hne ht e)]
      exact (h.knows j oj t hj hl' ht).next hE
  · rw [slot_put_other (ht i o hi hself)]
    exact h.kept t fun j oj hj hl => ht j oj hj (getD_set_true hl)
  · rcases split j hl with rfl | hl'
    · rw [hp] at hq
      obtain ⟨e1, k, hg, h1, h2, h3, rfl, h5, h6⟩ := hq
      exact h5
    · exact hq.box hf (h.news j p hl' hp fun k q hk hl2 hq2 => hn k q hk (getD_set_true hl2) hq2)
  · rw [c3 b (fun p hp => hn i p hself hu hp)]
    exact h.nobox b hb fun j p hl hu' hp => hn j p (getD_set_true hl) hu' hp
  · rw [c2]
    rcases split j hl with rfl | hl'
    · rw [hM] at hp; cases hp
    · exact h.gw j p hl' hp fun k q hk hl2 hq2 => hn k q hk (getD_set_true hl2) hq2

/-- The same behind a store. -/
theorem AInv.nextU {σ : St} {ops : Array Oper} {F : Nat → Dt} {N : Nat → Option (Nat × List Dt)} {U : Nat → Bool} {M : Nat → Option (Nat × Gr)} {a0 : Act} {listed : Array Bool} {e e' : Env} {a : Act} (h : AInv Γ σ ops F N U M a0 listed e a)
    {i : Nat} {o : Oper} (hi : ops[i]? = some o) (hd : o.dst = none) (hr : i ∈ Region.ready .any ops listed) {nm : Nat} {cs' : List Dt} (hN : N i = some (nm, cs')) (hM : M i = none) (hone : ∀ j p, listed.getD j false = true → i < j → N j = some p → p.1 ≠ nm) (hu : UPost Γ e e' nm cs') :
    AInv Γ σ ops F N U M a0 (listed.setIfInBounds i true) e' a := by
  obtain ⟨hun, o', ho', hall⟩ := mem_ready.1 hr
  rw [hi] at ho'
  cases ho'
  obtain ⟨hun', hil⟩ := getD_true_false hun
  have split : ∀ j, (listed.setIfInBounds i true).getD j false = true → j = i ∨ listed.getD j false = true := fun j hj => by
    by_cases e : i = j
    · exact .inl e.symm
    · rw [getD_set_ne false e] at hj; exact .inr hj
  have hself : (listed.setIfInBounds i true).getD i false = true := by simp [hil]
  refine ⟨by simpa using h.lsize, h.size, h.df, fun j oj hj hl x hx hb' => ?_, fun j oj t hj hl ht => ?_, fun t ht => ?_, fun t d ht => (h.slots t d ht).next hu.ends, fun b cs hb hn => ?_, fun j p hl hp hn => ?_, fun b hb hn => ?_, fun g hn => by rw [hu.gi]; exact h.gs g fun j p hl hp => hn j p (getD_set_true hl) hp, fun j p hl hp hn => ?_, hu.ok⟩
  · rcases split j hl with rfl | hl'
    · rw [hi] at hj; cases hj; exact getD_set_true (hall x hx hb')
    · exact getD_set_true (h.closed j oj hj hl' x hx hb')
  · rcases split j hl with rfl | hl'
    · rw [hi] at hj; cases hj; rw [hd] at ht; cases ht
    · exact (h.knows j oj t hj hl' ht).next hu.ends
  · exact h.kept t fun j oj hj hl => ht j oj hj (getD_set_true hl)
  · exact hu.other b cs (fun e' => hn i _ hself hN e'.symm) (h.boxes b cs hb fun j p hl hp => hn j p (getD_set_true hl) hp)
  · rcases split j hl with rfl | hl'
    · rw [hN] at hp; cases hp; exact hu.at_
    · have hji : j ≠ i := fun e => by subst e; rw [hun'] at hl'; cases hl'
      have hne : p.1 ≠ nm := by
        rcases Nat.lt_or_ge j i with h1 | h1
        · exact fun e' => hn i _ h1 hself hN e'.symm
        · exact hone j p hl' (by omega) hp
      exact hu.other p.1 p.2 hne (h.news j p hl' hp fun k q hk hl2 hq2 => hn k q hk (getD_set_true hl2) hq2)
  · rw [hu.bx]
    exact h.nobox b hb fun j p hl hu' hp => hn j p (getD_set_true hl) hu' hp
  · rw [hu.gi]
    rcases split j hl with rfl | hl'
    · rw [hM] at hp; cases hp
    · exact h.gw j p hl' hp fun k q hk hl2 hq2 => hn k q hk (getD_set_true hl2) hq2

/-- The same behind an append. -/
theorem AInv.nextG {σ : St} {ops : Array Oper} (hok : RelOk ops Γ.n) {F : Nat → Dt} {N : Nat → Option (Nat × List Dt)} {U : Nat → Bool} {M : Nat → Option (Nat × Gr)} {a0 : Act} {listed : Array Bool} {e e' : Env} {a : Act} (h : AInv Γ σ ops F N U M a0 listed e a)
    {i : Nat} {o : Oper} (hi : ops[i]? = some o) (hr : i ∈ Region.ready .any ops listed) {g : Nat} {G : Gr} (hN : N i = none) (hM : M i = some (g, G)) (hone : ∀ j p, listed.getD j false = true → i < j → M j = some p → p.1 ≠ g) {v : Value} (hu : GPost Γ e e' g G v (F i)) :
    AInv Γ σ ops F N U M a0 (listed.setIfInBounds i true) e' (a.put o.dst v) := by
  obtain ⟨hun, o', ho', hall⟩ := mem_ready.1 hr
  rw [hi] at ho'
  cases ho'
  obtain ⟨hun', hil⟩ := getD_true_false hun
  have split : ∀ j, (listed.setIfInBounds i true).getD j false = true → j = i ∨ listed.getD j false = true := fun j hj => by
    by_cases e : i = j
    · exact .inl e.symm
    · rw [getD_set_ne false e] at hj; exact .inr hj
  have hself : (listed.setIfInBounds i true).getD i false = true := by simp [hil]
  refine ⟨by simpa using h.lsize, by rw [size_put]; exact h.size, by rw [defers_put]; exact h.df, fun j oj hj hl x hx hb' => ?_, fun j oj t hj hl ht => ?_, fun t ht => ?_, fun t d ht => (h.slots t d ht).next hu.ends, fun b cs hb hn => hu.other b cs (h.boxes b cs hb fun j p hl hp => hn j p (getD_set_true hl) hp), fun j p hl hp hn => ?_, fun b hb hn => ?_, fun h' hn => ?_, fun j p hl hp hn => ?_, hu.ok⟩
  · rcases split j hl with rfl | hl'
    · rw [hi] at hj; cases hj; exact getD_set_true (hall x hx hb')
    · exact getD_set_true (h.closed j oj hj hl' x hx hb')
  · rcases split j hl with rfl | hl'
    · rw [hi] at hj; cases hj
      rw [ht, slot_put_same (by rw [h.size]; exact hok.lt _ _ _ hi ht)]
      exact hu.rep
    · have hne : j ≠ i := fun e => by subst e; rw [hun'] at hl'; cases hl'
      rw [slot_put_other (fun e => hok.ne j i oj o t hj hi hne ht e)]
      exact (h.knows j oj t hj hl' ht).next hu.ends
  · rw [slot_put_other (ht i o hi hself)]
    exact h.kept t fun j oj hj hl => ht j oj hj (getD_set_true hl)
  · rcases split j hl with rfl | hl'
    · rw [hN] at hp; cases hp
    · exact hu.other p.1 p.2 (h.news j p hl' hp fun k q hk hl2 hq2 => hn k q hk (getD_set_true hl2) hq2)
  · rw [hu.bx]
    exact h.nobox b hb fun j p hl hu' hp => hn j p (getD_set_true hl) hu' hp
  · rw [hu.gi, if_neg (fun e' => hn i _ hself hM e'.symm)]
    exact h.gs h' fun j p hl hp => hn j p (getD_set_true hl) hp
  · rcases split j hl with rfl | hl'
    · rw [hM] at hp; cases hp; rw [hu.gi]; simp
    · have hji : j ≠ i := fun e => by subst e; rw [hun'] at hl'; cases hl'
      have hne : p.1 ≠ g := by
        rcases Nat.lt_or_ge j i with h1 | h1
        · exact fun e' => hn i _ h1 hself hM e'.symm
        · exact hone j p hl' (by omega) hp
      rw [hu.gi, if_neg hne]
      exact h.gw j p hl' hp fun k q hk hl2 hq2 => hn k q hk (getD_set_true hl2) hq2

/-- What an operation that is ready looks at. -/
theorem AInv.sees {σ : St} {ops : Array Oper} (hok : RelOk ops Γ.n) {F : Nat → Dt} {N : Nat → Option (Nat × List Dt)} {U : Nat → Bool} {M : Nat → Option (Nat × Gr)} {a0 : Act} {listed : Array Bool} {e : Env} {a : Act} (h : AInv Γ σ ops F N U M a0 listed e a)
    {i : Nat} {o : Oper} (hi : ops[i]? = some o) (hr : i ∈ Region.ready .any ops listed) : ∀ t ∈ o.looksAt ops, ∀ d, stS ops.toList F (kv σ.s) i t = some d → DRep e (slot a t) d := by
  obtain ⟨hun, o', ho', hall⟩ := mem_ready.1 hr
  rw [hi] at ho'
  cases ho'
  obtain ⟨hun', hil⟩ := getD_true_false hun
  intro t ht d hd
  by_cases hex : ∃ (j : Nat) (oj : Oper), j < i ∧ ops[j]? = some oj ∧ oj.dst = some t
  · obtain ⟨j, oj, hji, hj, hdst⟩ := hex
    rw [stS_of_dst hok hj hdst i hji] at hd
    cases hd
    rcases hok.dep i j o oj t hi hj (by omega) hdst ht with ⟨_, x, hx, hb, hon⟩ | ⟨h', _⟩
    · exact h.knows j oj t hj (hon ▸ hall x hx hb) hdst
    · omega
  · rw [stS_of_none _ fun j oj hji hj hdst => hex ⟨j, oj, hji, hj, hdst⟩] at hd
    rw [h.kept t fun j oj hj hl hdst => ?_]
    · exact h.slots t d hd
    · have hji : j ≠ i := fun e => by subst e; rw [hun'] at hl; cases hl
      rcases hok.dep i j o oj t hi hj (Ne.symm hji) hdst ht with ⟨h', _⟩ | ⟨_, x, hx, hb, hon⟩
      · exact hex ⟨j, oj, h', hj, hdst⟩
      · have := h.closed j oj hj hl x hx hb
        rw [hon, hun'] at this
        cases this

/-- Is an operation behind another one, by any way? -/
def reachB (ops : Array Oper) : Nat → Nat → Nat → Bool
  | 0, _, _ => false
  | f + 1, t, i => match ops[t]? with
    | some o => o.after.any fun e => Region.binds .any e && (e.on == i || reachB ops f e.on i)
    | none => false
/-- The operations from n on are behind all others, and stand in a row. -/
def tail2B (ops : Array Oper) (n : Nat) : Bool :=
  (List.range ops.size).all fun t => decide (t < n) || (List.range t).all fun i => match ops[t]? with
    | some o => (o.after.any fun e => Region.binds .any e && e.on == i) || (decide (i < n) && reachB ops ops.size t i)
    | none => true
theorem tail2_spec {ops : Array Oper} {n : Nat} (h : tail2B ops n = true) {t i : Nat} {o : Oper} (ht : ops[t]? = some o) (hn : n ≤ t) (hi : i < t) : (∃ e ∈ o.after, Region.binds .any e = true ∧ e.on = i) ∨ (i < n ∧ reachB ops ops.size t i = true) := by
  have htl : t < ops.size := (Array.getElem?_eq_some_iff.1 ht).1
  have h1 := List.all_eq_true.1 h t (List.mem_range.2 htl)
  simp only [Bool.or_eq_true, decide_eq_true_eq] at h1
  have h2 := h1.resolve_left (by omega)
  have h3 := List.all_eq_true.1 h2 i (List.mem_range.2 hi)
  rw [ht] at h3
  simp only [Bool.or_eq_true, Bool.and_eq_true, decide_eq_true_eq] at h3
  rcases h3 with h3 | h3
  · obtain ⟨e, he, hb⟩ := Array.any_eq_true'.1 h3
    simp only [Bool.and_eq_true, beq_iff_eq] at hb
    exact .inl ⟨e, he, hb⟩
  · exact .inr h3
theorem reach_listed {ops : Array Oper} {listed : Array Bool} (hc : ∀ (i : Nat) (o : Oper), ops[i]? = some o → listed.getD i false = true → ∀ x ∈ o.after, Region.binds .any x = true → listed.getD x.on false = true) : ∀ (f t i : Nat) (o : Oper), ops[t]? = some o → (∀ x ∈ o.after, Region.binds .any x = true → listed.getD x.on false = true) → reachB ops f t i = true → listed.getD i false = true
  | 0, _, _, _, _, _, h => by cases h
  | f + 1, t, i, o, ho, hal, h => by
    simp only [reachB, ho] at h
    obtain ⟨e, he, hb⟩ := Array.any_eq_true'.1 h
    simp only [Bool.and_eq_true, Bool.or_eq_true, beq_iff_eq] at hb
    have h1 := hal e he hb.1
    rcases hb.2 with h2 | h2
    · rw [← h2]; exact h1
    · cases ho2 : ops[e.on]? with
      | none => cases f <;> simp [reachB, ho2] at h2
      | some o2 => exact reach_listed hc f e.on i o2 ho2 (hc e.on o2 ho2 h1) h2
theorem wpAny_tail2 {P : Program} {ops : Array Oper} {m n : Nat} (hok : RelOk ops m) (hB : tail2B ops n = true) {Q : Exit → Act → World → Prop} : ∀ (fuel k : Nat) (listed : Array Bool) (a : Act) (w : World), fuel + k = ops.size → n ≤ k → listed.size = ops.size →
    (∀ i, i < k → listed.getD i false = true) → (∀ i, k ≤ i → i < ops.size → listed.getD i true = false) → wpList P ops Q (ops.toList.drop k) a w → wpAny P .any ops Q fuel listed a w
  | 0, k, listed, a, w, hf, hn, hs, hlt, hge, h => by
    have hr : Region.ready .any ops listed = [] := by
      rcases hr : Region.ready .any ops listed with _ | ⟨i, _⟩
      · rfl
      · have hm : i ∈ Region.ready .any ops listed := by rw [hr]; simp
        obtain ⟨hun, o, ho, _⟩ := mem_ready.1 hm
        have hi : i < ops.size := (Array.getElem?_eq_some_iff.1 ho).1
        have := hlt i (by omega)
        rw [(getD_true_false hun).1] at this
        cases this
    refine ⟨hr, ?_⟩
    rw [List.drop_eq_nil_of_le (by simp; omega)] at h
    exact h
  | fuel + 1, k, listed, a, w, hf, hn, hs, hlt, hge, h => by
    have hkl : k < ops.size := by omega
    have hko : ops[k]? = some ops[k] := by simp [hkl]
    have hkr : k ∈ Region.ready .any ops listed := mem_ready.2 ⟨hge k (Nat.le_refl _) hkl, ops[k], hko, fun e he hb => hlt _ (hok.back k ops[k] hko e he hb)⟩
    refine ⟨(fun h0 => by rw [h0] at hkr; cases hkr), fun i hi => ?_⟩
    obtain ⟨hun, o, ho, hall⟩ := mem_ready.1 hi
    have hil : i < ops.size := (Array.getElem?_eq_some_iff.1 ho).1
    have hik : i = k := by
      rcases Nat.lt_trichotomy i k with h1 | h1 | h1
      · have := hlt i h1
        rw [(getD_true_false hun).1] at this
        cases this
      · exact h1
      · rcases tail2_spec hB ho (by omega) h1 with ⟨e, he, hb, hon⟩ | ⟨h2, _⟩
        · have h2 := hall e he hb
          rw [hon] at h2
          have h3 := hge k (Nat.le_refl _) hkl
          rw [(getD_true_false h3).1] at h2
          cases h2
        · omega
    subst hik
    rw [hko] at ho
    cases ho
    rw [List.drop_eq_getElem_cons (by simpa using hkl)] at h
    have h' : wpList P ops Q (ops[i] :: ops.toList.drop (i + 1)) a w := by simpa using h
    refine wpOp_mono (fun a' w' hh => ?_) (wpOp_of_list hko h')
    refine wpAny_tail2 hok hB fuel (i + 1) _ a' w' (by omega) (by omega) (by simpa using hs) (fun j hj => ?_) (fun j hj hjs => ?_) hh
    · by_cases e : i = j
      · subst e; simp [hs, hkl]
      · rw [getD_set_ne false e]; exact hlt j (by omega)
    · rw [getD_set_ne true (by omega)]; exact hge j (by omega) hjs

theorem wpAny_of_abs {σ : St} {ops : Array Oper} {H : Nat} (hok : RelOk ops Γ.n) (hT : tail2B ops H = true) (hH : H ≤ ops.size) {F : Nat → Dt} {N : Nat → Option (Nat × List Dt)} {U : Nat → Bool} {M : Nat → Option (Nat × Gr)} {B : List (Nat × List Dt)} {a0 : Act} {Q : Exit → Act → World → Prop} {σe : St} (hn0 : ∀ i, H ≤ i → N i = none) (hm0 : ∀ i, H ≤ i → M i = none) (hBs : ∀ b cs, kv B b = some cs → kv σ.b b = some cs)
    (hls : ∀ i o, i < H → ops[i]? = some o → LStep P ops.toList (kv B) (kv σ.b) (stS ops.toList F (kv σ.s) i) (stB N (kv σ.b) i) (stG M (kv σ.g) i) (stD U N [] i) (stL ops.toList M [] i) o (F i) (N i) (U i) (M i))
    (hse : kv σe.s = stS ops.toList F (kv σ.s) H) (hbe : kv σe.b = stB N (kv σ.b) H) (hge : kv σe.g = stG M (kv σ.g) H)
    (hq : ∀ (a : Act) (e : Env), Conc Γ σe e a → wpList P ops Q (ops.toList.drop H) a e.w) :
    ∀ (fuel : Nat) (listed : Array Bool) (a : Act) (e : Env), fuel = unlisted listed → AInv Γ σ ops F N U M a0 listed e a → (∀ t, H ≤ t → t < ops.size → listed.getD t true = false) → wpAny P .any ops Q fuel listed a e.w := by
  have fin : ∀ (fuel : Nat) (listed : Array Bool) (a : Act) (e : Env), fuel = unlisted listed → AInv Γ σ ops F N U M a0 listed e a → (∀ t, H ≤ t → t < ops.size → listed.getD t true = false) → (∀ i, i < H → listed.getD i false = true) → wpAny P .any ops Q fuel listed a e.w := by
    intro fuel listed a e hfu hinv htl hall
    have hcnt : unlisted listed = ops.size - H := by
      have := unlisted_count_list listed.toList H (by simpa [hinv.lsize] using hH) (fun i hi => by
        have h1 := hall i hi
        have hil : i < listed.size := by rw [hinv.lsize]; omega
        simp [hil] at h1 ⊢; exact h1) (fun i hi hl => by
        have hil : i < listed.size := by simpa using hl
        have h1 := htl i hi (by rw [← hinv.lsize]; exact hil)
        simp [hil] at h1 ⊢; exact h1)
      simpa [unlisted, hinv.lsize] using this
    have hnl : ∀ j, listed.getD j false = true → j < H := fun j hj => by
      rcases Nat.lt_or_ge j H with h' | h'
      · exact h'
      · rcases Nat.lt_or_ge j ops.size with h2 | h2
        · have := htl j h' h2
          rw [(getD_true_false this).1] at hj
          cases hj
        · have h3 : listed[j]? = none := Array.getElem?_eq_none (by rw [hinv.lsize]; exact h2)
          simp [h3] at hj
    refine wpAny_tail2 hok hT fuel H listed a e.w (by omega) (Nat.le_refl _) hinv.lsize hall htl (hq a e ⟨hinv.size, hinv.df, fun t d ht => ?_, fun b cs hb => ?_, fun b hb => ?_, fun g => ?_, hinv.env⟩)
    · rw [hse] at ht
      by_cases hex : ∃ (j : Nat) (oj : Oper), j < H ∧ ops[j]? = some oj ∧ oj.dst = some t
      · obtain ⟨j, oj, hjH, hj, hd⟩ := hex
        rw [stS_of_dst hok hj hd _ hjH] at ht
        cases ht
        exact hinv.knows j oj t hj (hall j hjH) hd
      · rw [stS_of_none _ fun j oj hjH hj hd => hex ⟨j, oj, hjH, hj, hd⟩] at ht
        rw [hinv.kept t fun j oj hj hl hd => hex ⟨j, oj, hnl j hl, hj, hd⟩]
        exact hinv.slots t d ht
    · rw [hbe] at hb
      rcases stB_some H hb with ⟨h1, h2⟩ | ⟨j, hj, hp, h2⟩
      · exact hinv.boxes b cs h1 fun j p hl hp => h2 j p (hnl j hl) hp
      · exact hinv.news j _ (hall j hj) hp fun k q hk hl hq => h2 k q hk (hnl k hl) hq
    · rw [hbe] at hb
      obtain ⟨h1, h2⟩ := stB_of H hb
      exact hinv.nobox b h1 fun j p hl _ hp => h2 j p (hnl j hl) hp
    · rw [hge]
      rcases stG_last (M := M) (G := kv σ.g) (h := g) H with ⟨h1, h2⟩ | ⟨j, Gj, hj, hm, hs, h2⟩
      · rw [h1]; exact hinv.gs g fun j p hl hp => h2 j p (hnl j hl) hp
      · rw [hs]; exact hinv.gw j _ (hall j hj) hm fun k q hk hl hq => h2 k q hk (hnl k hl) hq
  intro fuel
  induction fuel with
  | zero =>
    intro listed a e hfu hinv htl
    refine fin 0 listed a e hfu hinv htl fun i hi => ?_
    have h1 := all_of_unlisted hfu.symm (i := i)
    have hil : i < listed.size := by rw [hinv.lsize]; omega
    simp [hil] at h1 ⊢; exact h1
  | succ fuel ih =>
    intro listed a e hfu hinv htl
    by_cases hall : ∀ i, i < H → listed.getD i false = true
    · exact fin _ listed a e hfu hinv htl hall
    · have hex : ∃ i, i < H ∧ listed.getD i false = false := by
        refine Classical.byContradiction fun hne => hall fun i hi => ?_
        rcases hl : listed.getD i false with _ | _
        · exact absurd ⟨i, hi, hl⟩ hne
        · rfl
      obtain ⟨m, hmH, hmf⟩ := hex
      refine ⟨fun hr => ?_, fun i hi => ?_⟩
      · have := exists_ready hok hinv.lsize hr m (by omega)
        rw [hmf] at this; cases this
      · obtain ⟨hun, o, ho, hal⟩ := mem_ready.1 hi
        obtain ⟨hun', hil⟩ := getD_true_false hun
        have hio : i < ops.size := (Array.getElem?_eq_some_iff.1 ho).1
        have hiH : i < H := by
          rcases Nat.lt_or_ge i H with h' | h'
          · exact h'
          · rcases tail2_spec hT ho h' (Nat.lt_of_lt_of_le hmH h') with ⟨x, hx, hb, hon⟩ | ⟨_, hre⟩
            · have := hal x hx hb
              rw [hon, hmf] at this; cases this
            · have := reach_listed hinv.closed _ _ _ o ho hal hre
              rw [hmf] at this; cases this
        have hsee := hinv.sees hok ho hi
        have hfu' : fuel = unlisted (listed.setIfInBounds i true) := by have := unlisted_set hun; omega
        have htl' : ∀ t, H ≤ t → t < ops.size → (listed.setIfInBounds i true).getD t true = false := fun t h1 h2 => by rw [getD_set_ne true (by omega)]; exact htl t h1 h2
        have hgd : ∀ c, gd ops.toList o (stS ops.toList F (kv σ.s) i) = some c → Region.wanted o (yielded ops a.tmps) = c := by
          intro c hc
          unfold gd at hc
          unfold Region.wanted
          split at hc
          · rename_i hg; rw [hg]; cases hc; rfl
          · rename_i j want hg
            rw [hg]
            split at hc
            · rename_i t ht
              split at hc
              · rename_i b hb
                cases hc
                have h1 : (ops[j]?).bind (·.dst) = some t := by simpa using ht
                have hv := raw_eq (hsee t (guardAt_looks (by simp [guardAt, hg, h1])) _ hb)
                have : yielded ops a.tmps j = some b := by
                  rw [yielded_eq, h1]
                  unfold slot at hv
                  simp only [Option.bind_some, hv, boolOf]
                simp only [this]
                cases b <;> cases want <;> rfl
              · rename_i b hb
                cases hc
                have h1 : (ops[j]?).bind (·.dst) = some t := by simpa using ht
                have hv := raw_eq (hsee t (guardAt_looks (by simp [guardAt, hg, h1])) _ hb)
                have : yielded ops a.tmps j = none := by
                  rw [yielded_eq, h1]
                  unfold slot at hv
                  simp only [Option.bind_some, hv, boolOf]
                simp only [this]
                cases want <;> rfl
              · cases hc
            · cases hc
        unfold wpOp
        simp only [ho]
        have hvis : ∀ b cs, kv B b = some cs → BoxAt e b cs := fun b cs hb => hinv.boxes b cs (hBs b cs hb) fun j p hl hp e' => by
          have hjo : j < ops.size := by
            rcases Nat.lt_or_ge j ops.size with h' | h'
            · exact h'
            · have h3 : listed[j]? = none := Array.getElem?_eq_none (by rw [hinv.lsize]; exact h')
              simp [h3] at hl
          have hjH : j < H := by
            rcases Nat.lt_or_ge j H with h' | h'
            · exact h'
            · rw [hn0 j h'] at hp; cases hp
          rcases hls j _ hjH (show ops[j]? = some ops[j] by simp [hjo]) with ⟨_, _, hf, _⟩ | ⟨_, _, hnn, _⟩ | ⟨nm, _, _, _, _, hbn, _, _, _, _, hnb, _⟩ | ⟨_, _, _, _, _, _, _, hnn, _⟩
          · have h5 := (hf p hp).2; rw [e', hb] at h5; cases h5
          · rw [hnn] at hp; cases hp
          · rw [hnb] at hp; cases hp; simp only at e'; rw [e', hb] at hbn; cases hbn
          · rw [hnn] at hp; cases hp
        have hvis0 : earlyB ops.toList o = true → ∀ b cs, kv σ.b b = some cs → BoxAt e b cs := fun hea b cs hb => hinv.boxes b cs hb fun j p hl hp e' => by
          have hjo : j < ops.size := by
            rcases Nat.lt_or_ge j ops.size with h' | h'
            · exact h'
            · have h3 : listed[j]? = none := Array.getElem?_eq_none (by rw [hinv.lsize]; exact h')
              simp [h3] at hl
          have hjH : j < H := by
            rcases Nat.lt_or_ge j H with h' | h'
            · exact h'
            · rw [hn0 j h'] at hp; cases hp
          have hoj : ops[j]? = some ops[j] := by simp [hjo]
          rcases hls j _ hjH hoj with ⟨_, _, hf, _⟩ | ⟨_, _, hnn, _⟩ | ⟨nm, _, _, _, hdj, _⟩ | ⟨_, _, _, _, _, _, _, hnn, _⟩
          · have h5 := (stB_of j (hf p hp).1).1; rw [e', hb] at h5; cases h5
          · rw [hnn] at hp; cases hp
          · unfold earlyB at hea
            split at hea
            · cases hea
            · rename_i t ht
              have h1 := List.all_eq_true.1 hea ops[j] (by simp)
              rw [hdj] at h1
              simp only at h1
              obtain ⟨x, hx, hb'⟩ := Array.any_eq_true'.1 h1
              simp only [Bool.and_eq_true] at hb'
              have hxl := hinv.closed j _ hoj hl x hx hb'.1
              have h2 := hb'.2
              split at h2
              · rename_i u hu
                have hut := Nat.eq_of_beq_eq_true h2
                subst hut
                cases hox : ops.toList[x.on]? with
                | none => rw [hox] at hu; cases hu
                | some ox =>
                  rw [hox] at hu
                  have hxi : x.on = i := by
                    by_cases he : x.on = i
                    · exact he
                    · exact absurd ht (hok.ne x.on i ox o u (by simpa using hox) ho he hu)
                  rw [hxi, hun'] at hxl
                  cases hxl
              · cases h2
          · rw [hnn] at hp; cases hp
        have hopn : ∀ x ∈ o.op.operands, ∀ d, ev (stS ops.toList F (kv σ.s) i) x = some d → DRep e (a.eval x) d := fun x hx d hd => by
          cases x with
          | tmp t => exact hsee t (List.mem_append_left _ (List.mem_filterMap.2 ⟨.tmp t, by simpa using hx, rfl⟩)) d hd
          | const v => simp only [ev, constK_eq, Option.some.injEq] at hd; subst hd; exact constD_rep e v
          | global g => cases hd
          | func f =>
            simp only [ev, Option.some.injEq] at hd
            subst hd
            exact .fn (us := []) (vs := []) rfl rfl (fun i v d h => by simp at h) (fun i v d h => by simp at h)
        rcases hls i o hiH ho with ⟨hg, hqs, hfr, huf, hMi⟩ | ⟨hg, hd, hn, huf, hMi⟩ | ⟨nm, cs, cs', hg, hdst, hbn, hD, hBi, hss, _, hnb, hU, hMi⟩ | ⟨g, G, t, hg, hdst, hlook, hgs, hNi, huf, hMi⟩
        · rw [if_pos (hgd _ hg)]
          have hfree : ∀ p, N i = some p → e.bx p.1 = none := fun p hp => by
            obtain ⟨h1, h2⟩ := stB_of i (hfr p hp).1
            refine hinv.nobox p.1 h1 fun j q hl hu hq' => ?_
            rcases Nat.lt_trichotomy j i with h3 | h3 | h3
            · exact h2 j q h3 hq'
            · subst h3; rw [hun'] at hl; cases hl
            · have hjH : j < H := by
                rcases Nat.lt_or_ge j H with h' | h'
                · exact h'
                · rw [hn0 j h'] at hq'; cases hq'
              have hoj : ops[j]? = some ops[j] := by simp [show j < ops.size by omega]
              rcases hls j _ hjH hoj with ⟨_, _, hfj, _⟩ | ⟨_, _, hnj, _⟩ | ⟨_, _, _, _, _, _, _, _, _, _, _, hU, _⟩ | ⟨_, _, _, _, _, _, _, hnj, _⟩
              · exact fun e' => (stB_of j (hfj q hq').1).2 i p h3 hp e'.symm
              · rw [hnj] at hq'; cases hq'
              · rw [hu] at hU; cases hU
              · rw [hnj] at hq'; cases hq'
          have hrun : o.wp P a e.w (fun a' w' => ∃ v e', a' = a.put o.dst v ∧ e'.w = w' ∧ QPost e e' v (F i) (N i)) (fun _ _ _ => False) := by
            rcases hqs with hqs | ⟨hea, hqs⟩
            · exact hqs a e ⟨hopn, hvis⟩ hfree
            · exact hqs a e ⟨hopn, hvis0 hea⟩ hfree
          refine .inl (wp_weak hrun fun a' w' hh => ?_)
          obtain ⟨v, e', rfl, rfl, hq'⟩ := hh
          exact ih _ _ e' hfu' (hinv.next hok ho hi hq' hfree huf hMi) htl'
        · rw [if_neg (by rw [hgd _ hg]; simp)]
          exact ih _ _ e hfu' (hinv.next hok ho hi (v := undef) (by rw [hn, hd]; exact ⟨Grow.refl e, .p (.raw undef)⟩) (fun p hp => by rw [hn] at hp; cases hp) huf hMi) htl'
        · rw [if_pos (hgd _ hg)]
          have huniq : ∀ j p, i < j → N j = some p → p.1 ≠ nm := fun j p hij hp e' => by
            have hjH : j < H := by
              rcases Nat.lt_or_ge j H with h' | h'
              · exact h'
              · rw [hn0 j h'] at hp; cases hp
            have hoj : ops[j]? = some ops[j] := by simp [show j < ops.size by omega]
            rcases hls j _ hjH hoj with ⟨_, _, hfj, _⟩ | ⟨_, _, hnj, _⟩ | ⟨nm3, _, _, _, _, _, hD3, _, _, _, hnb3, _⟩ | ⟨_, _, _, _, _, _, _, hnj, _⟩
            · exact (stB_of j (hfj p hp).1).2 i _ hij hnb e'.symm
            · rw [hnj] at hp; cases hp
            · rw [hnb3] at hp
              cases hp
              simp only at e'
              have := stD_mem (D := []) hij hU hnb
              simp only at this
              rw [← e'] at this
              simp at hD3
              exact absurd this hD3
            · rw [hnj] at hp; cases hp
          have hbox : e.bx nm ≠ none → BoxAt e nm cs := fun hne => by
            have hno : ∀ j p, listed.getD j false = true → ¬ j < i → N j = some p → p.1 ≠ nm := fun j p hl hji hp => by
              rcases Nat.lt_trichotomy j i with h3 | h3 | h3
              · exact absurd h3 hji
              · subst h3; rw [hun'] at hl; cases hl
              · exact huniq j p h3 hp
            rcases stB_some i hBi with ⟨h1, h2⟩ | ⟨j, hji, hj, h2⟩
            · exact hinv.boxes nm cs h1 fun j p hl hp => by
                by_cases hji : j < i
                · exact h2 j p hji hp
                · exact hno j p hl hji hp
            · have hjH : j < H := by omega
              have hoj : ops[j]? = some ops[j] := by simp [show j < ops.size by omega]
              rcases hls j _ hjH hoj with ⟨_, _, hfj, _⟩ | ⟨_, _, hnj, _⟩ | ⟨nm3, _, _, _, _, _, _, _, _, _, hnb3, hU3, _⟩ | ⟨_, _, _, _, _, _, _, hnj, _⟩
              · obtain ⟨h5, h6⟩ := stB_of j (hfj _ hj).1
                simp only at h5 h6
                have hjl : listed.getD j false = true := by
                  rcases hjl : listed.getD j false with _ | _
                  · exfalso
                    refine hne (hinv.nobox nm h5 fun k q hk hu hq e' => ?_)
                    have hki : k < i := by
                      rcases Nat.lt_or_ge k i with h7 | h7
                      · exact h7
                      · exact absurd e' (hno k q hk (by omega) hq)
                    rcases Nat.lt_trichotomy k j with h7 | h7 | h7
                    · exact h6 k q h7 hq e'
                    · subst h7; rw [hjl] at hk; cases hk
                    · exact h2 k q h7 hki hq e'
                  · rfl
                exact hinv.news j _ hjl hj fun k q hk hl hq => by
                  by_cases hki : k < i
                  · exact h2 k q hk hki hq
                  · exact hno k q hl hki hq
              · rw [hnj] at hj; cases hj
              · rw [hnb3] at hj
                cases hj
                have := stD_mem (D := []) hji hU3 hnb3
                simp at hD
                exact absurd this hD
              · rw [hnj] at hj; cases hj
          obtain ⟨_, hwp⟩ := hss Γ a e hinv.env hopn hbox
          refine .inl (wp_weak hwp fun a' w' hh => ?_)
          obtain ⟨rfl, e', rfl, hu⟩ := hh
          have := ih _ _ e' hfu' (hinv.nextU ho hdst hi hnb hMi (fun j p _ hij hp => huniq j p hij hp) hu) htl'
          rw [hdst]
          exact this
        · rw [if_pos (hgd _ hg)]
          -- who writes the group: one looks at the other
          have hlt : ∀ j p, M j = some p → j < H := fun j p hp => by
            rcases Nat.lt_or_ge j H with h' | h'
            · exact h'
            · rw [hm0 j h'] at hp; cases hp
          have hpre : ∀ k p, M k = some p → p.1 = g → ∀ j q, j < k → M j = some q → q.1 = g → (∀ j' q', j < j' → j' < k → M j' = some q' → q'.1 ≠ g) → ∃ oj tj, ops[j]? = some oj ∧ oj.dst = some tj ∧ ∃ ok, ops[k]? = some ok ∧ tj ∈ ok.looksAt ops := by
            intro k p hk hkg j q hjk hj hjg hbet
            have hkH := hlt k p hk
            have hjH := hlt j q hj
            have hoj : ops[j]? = some ops[j] := by simp [show j < ops.size by omega]
            have hokk : ops[k]? = some ops[k] := by simp [show k < ops.size by omega]
            rcases hls j _ hjH hoj with ⟨_, _, _, _, hmj⟩ | ⟨_, _, _, _, hmj⟩ | ⟨_, _, _, _, _, _, _, _, _, _, _, _, hmj⟩ | ⟨g1, G1, t1, _, hd1, _, _, _, _, hm1⟩
            · rw [hmj] at hj; cases hj
            · rw [hmj] at hj; cases hj
            · rw [hmj] at hj; cases hj
            rcases hls k _ hkH hokk with ⟨_, _, _, _, hmk⟩ | ⟨_, _, _, _, hmk⟩ | ⟨_, _, _, _, _, _, _, _, _, _, _, _, hmk⟩ | ⟨g2, G2, t2, _, _, hl2, _, _, _, hm2⟩
            · rw [hmk] at hk; cases hk
            · rw [hmk] at hk; cases hk
            · rw [hmk] at hk; cases hk
            rw [hm2] at hk
            cases hk
            simp only at hkg
            subst hkg
            have hlk : kv (stL ops.toList M [] k) g2 = some t1 := stL_last (l := ops.toList) hjk hj hjg (by simpa [hoj] using hd1) hbet
            unfold looksB at hl2
            rw [hlk] at hl2
            simp only [List.any_eq_true] at hl2
            obtain ⟨x, hx, hxt⟩ := hl2
            refine ⟨_, t1, hoj, hd1, _, hokk, ?_⟩
            cases x with
            | tmp u =>
              have : u = t1 := Nat.eq_of_beq_eq_true hxt
              subst this
              exact List.mem_append_left _ (List.mem_filterMap.2 ⟨.tmp u, hx, rfl⟩)
            | const v => cases hxt
            | global v => cases hxt
            | func v => cases hxt
          -- whoever wrote it ahead of one that came up has come up
          have hback : ∀ (d k : Nat) p, M k = some p → p.1 = g → listed.getD k false = true → ∀ j q, j + d = k → M j = some q → q.1 = g → listed.getD j false = true := by
            intro d
            induction d using Nat.strongRecOn with
            | ind d ihd =>
              intro k p hk hkg hkl j q hjd hj hjg
              rcases Nat.eq_zero_or_pos d with h0 | h0
              · have : j = k := by omega
                rw [this]; exact hkl
              · rcases stG_last (M := M) (G := kv σ.g) (h := g) k with ⟨_, h2⟩ | ⟨j1, G1, hj1, hm1, _, h2⟩
                · exact absurd hjg (h2 j q (by omega) hj)
                · have hjle : j ≤ j1 := by
                    rcases Nat.lt_or_ge j1 j with h3 | h3
                    · exact absurd hjg (h2 j q h3 (by omega) hj)
                    · exact h3
                  obtain ⟨oj, tj, hoj, hdj, ok, hok', hlook'⟩ := hpre k p hk hkg j1 _ hj1 hm1 rfl h2
                  have hj1l : listed.getD j1 false = true := by
                    rcases hok.dep k j1 ok oj tj hok' hoj (by omega) hdj hlook' with ⟨_, x, hx, hb, hon⟩ | ⟨h4, _⟩
                    · have := hinv.closed k ok hok' hkl x hx hb
                      rw [hon] at this; exact this
                    · omega
                  exact ihd (j1 - j) (by omega) j1 _ hm1 rfl hj1l j q (by omega) hj hjg
          have huniq : ∀ j p, listed.getD j false = true → i < j → M j = some p → p.1 ≠ g := fun j p hl hij hp e' => by
            have := hback (j - i) j p hp e' hl i _ (by omega) hMi rfl
            rw [hun'] at this; cases this
          have hcur : e.gi g = stG M (kv σ.g) i g := by
            rcases stG_last (M := M) (G := kv σ.g) (h := g) i with ⟨h1, h2⟩ | ⟨j, Gj, hj, hm, hs, h2⟩
            · rw [h1]
              refine hinv.gs g fun j p hl hp => ?_
              rcases Nat.lt_trichotomy j i with h3 | h3 | h3
              · exact h2 j p h3 hp
              · subst h3; rw [hun'] at hl; cases hl
              · exact huniq j p hl h3 hp
            · rw [hs]
              obtain ⟨oj, tj, hoj, hdj, ok, hok', hlook'⟩ := hpre i _ hMi rfl j _ hj hm rfl h2
              rw [ho] at hok'
              cases hok'
              have hjl : listed.getD j false = true := by
                rcases hok.dep i j o oj tj ho hoj (by omega) hdj hlook' with ⟨_, x, hx, hb, hon⟩ | ⟨h4, _⟩
                · have := hal x hx hb
                  rw [hon] at this; exact this
                · omega
              refine hinv.gw j _ hjl hm fun k q hk hl hq => ?_
              rcases Nat.lt_trichotomy k i with h3 | h3 | h3
              · exact h2 k q hk h3 hq
              · subst h3; rw [hun'] at hl; cases hl
              · exact huniq k q hl h3 hq
          refine .inl (wp_weak (hgs Γ a e hinv.env hopn hcur) fun a' w' hh => ?_)
          obtain ⟨v, e', rfl, rfl, hu⟩ := hh
          exact ih _ _ e' hfu' (hinv.nextG hok ho hi hNi hMi huniq hu) htl'

theorem stS_congr {l l' : List Oper} {F : Nat → Dt} {S : Nat → Option Dt} : ∀ i, (∀ j, j < i → l[j]? = l'[j]?) → stS l F S i = stS l' F S i
  | 0, _ => rfl
  | i + 1, h => by rw [stS, stS, stS_congr i fun j hj => h j (by omega), h i (by omega)]
theorem stB_congr {N N' : Nat → Option (Nat × List Dt)} {B : Nat → Option (List Dt)} : ∀ i, (∀ j, j < i → N j = N' j) → stB N B i = stB N' B i
  | 0, _ => rfl
  | i + 1, h => by rw [stB, stB, stB_congr i fun j hj => h j (by omega), h i (by omega)]

theorem stD_congr {U U' : Nat → Bool} {N N' : Nat → Option (Nat × List Dt)} {D : List Nat} : ∀ i, (∀ j, j < i → N j = N' j ∧ U j = U' j) → stD U N D i = stD U' N' D i
  | 0, _ => rfl
  | i + 1, h => by rw [stD, stD, stD_congr i fun j hj => h j (by omega), (h i (by omega)).1, (h i (by omega)).2]

theorem stG_congr {M M' : Nat → Option (Nat × Gr)} {G : Nat → Option Gr} : ∀ i, (∀ j, j < i → M j = M' j) → stG M G i = stG M' G i
  | 0, _ => rfl
  | i + 1, h => by rw [stG, stG, stG_congr i fun j hj => h j (by omega), h i (by omega)]
theorem stL_congr {l l' : List Oper} {M M' : Nat → Option (Nat × Gr)} {L : List (Nat × Nat)} : ∀ i, (∀ j, j < i → M j = M' j ∧ l[j]? = l'[j]?) → stL l M L i = stL l' M' L i
  | 0, _ => rfl
  | i + 1, h => by rw [stL, stL, stL_congr i fun j hj => h j (by omega), (h i (by omega)).1, (h i (by omega)).2]

/-- What is read is there. -/
def SubBx (B : List (Nat × List Dt)) : List (Nat × List Dt) → Prop
  | [] => True
  | p :: l => kv B p.1 = some p.2 ∧ SubBx B l
theorem SubBx.get {B : List (Nat × List Dt)} : ∀ {l : List (Nat × List Dt)} (_ : SubBx B l) {b : Nat} {cs : List Dt}, kv l b = some cs → kv B b = some cs
  | [], _, _, _, h => by cases h
  | (k, v) :: l, hs, b, cs, h => by
    rw [lk_cons] at h
    split at h
    · rename_i hk; subst hk; cases h; exact hs.1
    · exact hs.2.get h

/-- A region that draws its order. -/
theorem awp_region_any {id : Nat} {Q : Exit → St → Prop} {σ : St} (B : List (Nat × List Dt)) (hBs : SubBx σ.b B) (l1 l2 : List Oper) {l : List Oper} (hl : l = l1 ++ l2) (hm : P.follows .mixedOrders = true) (hB : relB l.toArray Γ.n = true) (hT : tail2B l.toArray l1.length = true)
    (h : QRun P Γ.n l B σ.b (AOps P Γ l Q l2) [] [] l1 σ) : AWP P Γ (.region id l.toArray true) Q σ := by
  refine ⟨fun a e hc => ?_⟩
  have hok := relOk_of hB
  obtain ⟨F, N, U, M, σe, h1, h2, h3, h4, h5⟩ := QRun.extract l1 [] [] σ h
  have hget : ∀ j, j < l1.length → l1[j]? = l[j]? := fun j hj => by rw [hl, List.getElem?_append_left hj]
  have hlen : l1.length ≤ l.toArray.size := by rw [hl]; simp
  have hdrop : l.toArray.toList.drop l1.length = l2 := by rw [hl]; simp
  have hN : ∀ i, i ≤ l1.length → stB N (kv σ.b) i = stB (fun i => if i < l1.length then N i else none) (kv σ.b) i := fun i hi => stB_congr i fun j hj => by rw [if_pos (by omega)]
  have hD : ∀ i, i ≤ l1.length → stD U N [] i = stD U (fun i => if i < l1.length then N i else none) [] i := fun i hi => stD_congr i fun j hj => ⟨by rw [if_pos (by omega)], rfl⟩
  have hG : ∀ i, i ≤ l1.length → stG M (kv σ.g) i = stG (fun i => if i < l1.length then M i else none) (kv σ.g) i := fun i hi => stG_congr i fun j hj => by rw [if_pos (by omega)]
  have hL : ∀ i, i ≤ l1.length → stL l1 M [] i = stL l.toArray.toList (fun i => if i < l1.length then M i else none) [] i := fun i hi => stL_congr i fun j hj => ⟨by rw [if_pos (by omega)], by simpa using hget j (by omega)⟩
  have := wpAny_of_abs (P := P) (Γ := Γ) (σ := σ) (ops := l.toArray) (H := l1.length) hok hT hlen (F := F) (N := fun i => if i < l1.length then N i else none) (U := U) (M := fun i => if i < l1.length then M i else none) (B := B) (a0 := a) (Q := Post Γ Q) (σe := σe) (fun i hi => if_neg (by omega)) (fun i hi => if_neg (by omega)) (fun b cs => hBs.get)
    (fun i o hi ho => by
      have h6 := h5 i o (by rw [hget i hi]; simpa using ho)
      rw [hN i (by omega), hD i (by omega), hG i (by omega), hL i (by omega)] at h6
      have e5 : stS l1 F (kv σ.s) i = stS l.toArray.toList F (kv σ.s) i := stS_congr i fun j hj => by simpa using hget j (by omega)
      rw [e5] at h6
      simpa [hi] using h6)
    (by rw [h3]; exact stS_congr _ fun j hj => by simpa using hget j hj) (by rw [h4]; exact hN _ (Nat.le_refl _)) (by rw [h2]; exact hG _ (Nat.le_refl _))
    (fun b e' hb => by rw [hdrop]; exact h1.run b e' hb)
    l.toArray.size (Array.replicate l.toArray.size false) a { e with w := e.w.drew } (unlisted_replicate _).symm
    ?_ (fun t _ ht => by have ht' : t < l.length := by simpa using ht
                         simp [ht'])
  · exact wp_region_any hm this
  · have hg : Grow e { e with w := e.w.drew } := ⟨(Below.refl _ _).drew, fun _ _ => rfl, rfl, rfl, rfl⟩
    have hc' := hc.grow hg
    refine ⟨by simp, hc.size, hc.df, fun i o _ hl => ?_, fun i o t _ hl => ?_, fun t _ => rfl, hc'.slots, fun b cs hb _ => hc'.boxes b cs hb, fun i p hl => ?_, fun b hb _ => hc'.nobox b hb, fun g _ => hc'.gs g, fun i p hl => ?_, hc'.env⟩
    all_goals (simp [Array.getElem?_replicate] at hl; split at hl <;> simp at hl)
end
end Go.Proofs.YtcjooalmhppkiaaRRRR
