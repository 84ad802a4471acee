/- Contents, operations and what they do, as plain functions. -/
namespace Go.Proofs.Ytknancnmdpdefaa

structure Cont where
  kind : Int
  keys : List Int
  vals : List Int
  deriving DecidableEq

structure OpT where
  kind : Int
  obj : Int
  a : Int
  b : Int
  deriving DecidableEq

/-- The numbers rise. -/
def Rises (l : List Int) : Prop := l.Pairwise (· < ·)
instance (l : List Int) : Decidable (Rises l) := inferInstanceAs (Decidable (l.Pairwise (· < ·)))

/-- How many stand ahead of x. -/
def pos (l : List Int) (x : Int) : Nat := (l.takeWhile fun y => decide (y < x)).length

theorem pos_le (l : List Int) (x : Int) : pos l x ≤ l.length := by
  unfold pos
  exact (List.takeWhile_sublist _).length_le
theorem pos_lt (l : List Int) (x : Int) : ∀ i, i < pos l x → ∀ y, l[i]? = some y → y < x := by
  unfold pos
  induction l with
  | nil => intro i hi; simp at hi
  | cons z l ih =>
    intro i hi y hy
    by_cases hz : z < x
    · rw [List.takeWhile_cons_of_pos (by simpa using hz)] at hi
      cases i with
      | zero => simp at hy; omega
      | succ i => exact ih i (by simpa using hi) y (by simpa using hy)
    · rw [List.takeWhile_cons_of_neg (by simpa using hz)] at hi
      simp at hi
theorem pos_ge (l : List Int) (x : Int) : ∀ y, l[pos l x]? = some y → x ≤ y := by
  unfold pos
  induction l with
  | nil => intro y hy; simp at hy
  | cons z l ih =>
    intro y hy
    by_cases hz : z < x
    · rw [List.takeWhile_cons_of_pos (by simpa using hz)] at hy
      exact ih y (by simpa using hy)
    · rw [List.takeWhile_cons_of_neg (by simpa using hz)] at hy
      simp at hy; omega
/-- What is found by halving is the place. -/
theorem pos_unique {l : List Int} {x : Int} {p : Nat} (hp : p ≤ l.length) (h1 : ∀ i, i < p → ∀ y, l[i]? = some y → y < x) (h2 : ∀ y, l[p]? = some y → x ≤ y) : p = pos l x := by
  rcases Nat.lt_trichotomy p (pos l x) with h | h | h
  · have hl := pos_le l x
    have h3 : l[p]? = some l[p] := List.getElem?_eq_getElem (by omega)
    have := pos_lt l x p h _ h3
    have := h2 _ h3
    omega
  · exact h
  · have h3 : l[pos l x]? = some l[pos l x] := List.getElem?_eq_getElem (by omega)
    have := h1 _ h _ h3
    have := pos_ge l x _ h3
    omega

def ofK (k : Int) : Int := if k = 1 ∨ k = 2 ∨ k = 3 then 1 else if k = 4 ∨ k = 5 then 2 else if k = 6 ∨ k = 7 then 3 else 0

def insAt (l : List Int) (p : Nat) (x : Int) : List Int := l.take p ++ x :: l.drop p
def delAt (l : List Int) (p : Nat) : List Int := l.take p ++ l.drop (p + 1)

def rightB (c : Cont) : Bool :=
  if c.kind = 1 then decide (c.keys.length = c.vals.length) && decide (Rises c.keys)
  else if c.kind = 2 ∨ c.kind = 3 then decide (c.keys.length = 0) else false

def hasB (c : Cont) (x : Int) : Bool := decide (c.keys[pos c.keys x]? = some x)

/-- What an operation of the content's kind makes of a right content, and tells. -/
def effect (c : Cont) (o : OpT) : Cont × Int × Bool :=
  if o.kind = 1 then (if hasB c o.a then (c, c.vals.getD (pos c.keys o.a) 0, true) else (c, 0, false))
  else if o.kind = 2 then (if hasB c o.a then (c, 0, false) else (⟨c.kind, insAt c.keys (pos c.keys o.a) o.a, insAt c.vals (pos c.keys o.a) o.b⟩, 0, true))
  else if o.kind = 3 then (if hasB c o.a then (⟨c.kind, delAt c.keys (pos c.keys o.a), delAt c.vals (pos c.keys o.a)⟩, 0, true) else (c, 0, false))
  else if o.kind = 4 then (⟨c.kind, [], o.a :: c.vals⟩, 0, true)
  else if o.kind = 6 then (⟨c.kind, [], c.vals ++ [o.a]⟩, 0, true)
  else match c.vals with
    | [] => (c, 0, false)
    | v :: vs => (⟨c.kind, [], vs⟩, v, true)

def does (c : Cont) (o : OpT) : Cont × Int × Bool :=
  if rightB c = true ∧ ofK o.kind = c.kind then effect c o else (c, 0, false)

def doAll : Cont → List OpT → Cont × List Int × List Bool
  | c, [] => (c, [], [])
  | c, o :: l => let d := does c o; let r := doAll d.1 l; (r.1, d.2.1 :: r.2.1, d.2.2 :: r.2.2)

def commuteB (a b : OpT) : Bool :=
  if ofK a.kind ≠ ofK b.kind then true
  else if a.kind = 1 ∧ b.kind = 1 then true
  else decide (ofK a.kind = 1) && decide (a.a ≠ b.a)

end Go.Proofs.Ytknancnmdpdefaa
