/- Plain facts on numbers, rows and contents. -/
import Derived.Test.YtknancnmdpdefaaData
namespace Go.Proofs.Ytknancnmdpdefaa
variable {α : Type}
theorem lt_of_some {l : List α} {n : Nat} {c : α} (h : l[n]? = some c) : n < l.length := (List.getElem?_eq_some_iff.1 h).1
theorem some_at {l : List α} {n : Nat} (hn : n < l.length) : ∃ c, l[n]? = some c := ⟨l[n], by simp [hn]⟩
theorem rises_step {l : List Int} {n : Nat} {x y : Int} (h : Rises (l.take n)) (hx : l[n]? = some x) (hy : l[n - 1]? = some y) (hn : 1 ≤ n) (hlt : y < x) : Rises (l.take (n + 1)) := by
  unfold Rises at *
  rw [List.take_add_one, hx, Option.toList_some, List.pairwise_append]
  refine ⟨h, List.pairwise_singleton _ _, fun a ha b hb => ?_⟩
  simp at hb
  subst hb
  obtain ⟨i, hi, rfl⟩ := List.mem_iff_getElem.1 ha
  have hil : i < n := by simp at hi; omega
  have hnl : n < l.length := (List.getElem?_eq_some_iff.1 hx).1
  rw [List.pairwise_iff_getElem] at h
  by_cases e : i = n - 1
  · subst e
    have : (l.take n)[n - 1] = y := by
      rw [List.getElem_take]
      have h3 : l[n - 1]? = some l[n - 1] := List.getElem?_eq_getElem (by omega)
      rw [h3] at hy; injection hy
    rw [this]; exact hlt
  · have hh := h i (n - 1) hi (by simp; omega) (by omega)
    have : (l.take n)[n - 1]'(by simp; omega) = y := by
      rw [List.getElem_take]
      have h3 : l[n - 1]? = some l[n - 1] := List.getElem?_eq_getElem (by omega)
      rw [h3] at hy; injection hy
    rw [this] at hh
    omega
theorem not_rises {l : List Int} {n : Nat} {x y : Int} (hx : l[n]? = some x) (hy : l[n - 1]? = some y) (hn : 1 ≤ n) (hle : x ≤ y) : ¬ Rises l := by
  intro h
  unfold Rises at h
  rw [List.pairwise_iff_getElem] at h
  have hnl : n < l.length := (List.getElem?_eq_some_iff.1 hx).1
  have := h (n - 1) n (by omega) hnl (by omega)
  rw [List.getElem?_eq_getElem hnl] at hx
  rw [List.getElem?_eq_getElem (by omega)] at hy
  injection hx with hx
  injection hy with hy
  omega
theorem rises_one (l : List Int) : Rises (l.take 1) := by
  unfold Rises
  rcases l with _ | ⟨x, l⟩
  · simp
  · simp
theorem rises_lt {l : List Int} (h : Rises l) {i j : Nat} {x y : Int} (hi : l[i]? = some x) (hj : l[j]? = some y) (hij : i < j) : x < y := by
  unfold Rises at h
  rw [List.pairwise_iff_getElem] at h
  have h1 := lt_of_some hi
  have h2 := lt_of_some hj
  have := h i j h1 h2 hij
  rw [List.getElem?_eq_getElem h1] at hi
  rw [List.getElem?_eq_getElem h2] at hj
  injection hi with hi
  injection hj with hj
  omega
def Lows (l : List Int) (x : Int) (n : Nat) : Prop := ∀ i, i < n → ∀ y, l[i]? = some y → y < x
def Highs (l : List Int) (x : Int) (n : Nat) : Prop := ∀ i, n ≤ i → ∀ y, l[i]? = some y → x ≤ y
theorem lows_half {l : List Int} (h : Rises l) {x y : Int} {k : Nat} (hk : l[k]? = some y) (hy : y < x) : Lows l x (k + 1) := fun i hi z hz => by
  by_cases e : i = k
  · subst e; rw [hk] at hz; cases hz; exact hy
  · have := rises_lt h hz hk (by omega); omega
theorem highs_half {l : List Int} (h : Rises l) {x y : Int} {k : Nat} (hk : l[k]? = some y) (hy : ¬ y < x) : Highs l x k := fun i hi z hz => by
  by_cases e : i = k
  · subst e; rw [hk] at hz; cases hz; omega
  · have := rises_lt h hk hz (by omega); omega
theorem pos_of {l : List Int} {x : Int} {n : Nat} (hn : n ≤ l.length) (h1 : Lows l x n) (h2 : Highs l x n) : n = pos l x :=
  pos_unique hn h1 fun y hy => h2 n (Nat.le_refl _) y hy
theorem doAll_snoc (c : Cont) (l : List OpT) (o : OpT) : doAll c (l ++ [o]) = ((does (doAll c l).1 o).1, (doAll c l).2.1 ++ [(does (doAll c l).1 o).2.1], (doAll c l).2.2 ++ [(does (doAll c l).1 o).2.2]) := by
  induction l generalizing c with
  | nil => rfl
  | cons p l ih => simp only [List.cons_append, doAll, ih]
theorem doAll_take {c : Cont} {l : List OpT} {n : Nat} {o : OpT} (ho : l[n]? = some o) : doAll c (l.take (n + 1)) = ((does (doAll c (l.take n)).1 o).1, (doAll c (l.take n)).2.1 ++ [(does (doAll c (l.take n)).1 o).2.1], (doAll c (l.take n)).2.2 ++ [(does (doAll c (l.take n)).1 o).2.2]) := by
  rw [List.take_add_one, ho, Option.toList_some, doAll_snoc]
theorem doAll_len (c : Cont) (l : List OpT) : (doAll c l).2.1.length = l.length ∧ (doAll c l).2.2.length = l.length := by
  induction l generalizing c with
  | nil => exact ⟨rfl, rfl⟩
  | cons p l ih => simp only [doAll, List.length_cons]; have := ih (does c p).1; omega
theorem effect_len (c : Cont) (o : OpT) : (effect c o).1.keys.length ≤ c.keys.length + 1 ∧ (effect c o).1.vals.length ≤ c.vals.length + 1 := by
  have h1 : ∀ (l : List Int) (p : Nat) (x : Int), (insAt l p x).length ≤ l.length + 1 := fun l p x => by simp [insAt]; omega
  have h2 : ∀ (l : List Int) (p : Nat), (delAt l p).length ≤ l.length + 1 := fun l p => by simp [delAt]; omega
  unfold effect
  split
  · split <;> exact ⟨Nat.le_succ _, Nat.le_succ _⟩
  · split
    · split
      · exact ⟨Nat.le_succ _, Nat.le_succ _⟩
      · exact ⟨h1 _ _ _, h1 _ _ _⟩
    · split
      · split
        · exact ⟨h2 _ _, h2 _ _⟩
        · exact ⟨Nat.le_succ _, Nat.le_succ _⟩
      · split
        · exact ⟨by simp, by simp⟩
        · split
          · exact ⟨by simp, by simp⟩
          · split
            · exact ⟨Nat.le_succ _, Nat.le_succ _⟩
            · rename_i hv; exact ⟨by simp, by rw [hv]; simp; omega⟩
theorem does_len (c : Cont) (o : OpT) : (does c o).1.keys.length ≤ c.keys.length + 1 ∧ (does c o).1.vals.length ≤ c.vals.length + 1 := by
  unfold does
  split
  · exact effect_len c o
  · exact ⟨Nat.le_succ _, Nat.le_succ _⟩
theorem doAll_grow (c : Cont) (l : List OpT) : (doAll c l).1.keys.length ≤ c.keys.length + l.length ∧ (doAll c l).1.vals.length ≤ c.vals.length + l.length := by
  induction l generalizing c with
  | nil => exact ⟨by simp [doAll], by simp [doAll]⟩
  | cons p l ih =>
    have h1 := ih (does c p).1
    have h2 := does_len c p
    simp only [doAll, List.length_cons]
    omega
def fewB (c : Cont) : Bool := decide (c.keys.length ≤ 100 ∧ c.vals.length ≤ 100)

def i64B (n : Int) : Prop := -9223372036854775808 ≤ n ∧ n ≤ 9223372036854775807
def OpT.Fits (o : OpT) : Prop := i64B o.kind ∧ i64B o.obj ∧ i64B o.a ∧ i64B o.b
end Go.Proofs.Ytknancnmdpdefaa
