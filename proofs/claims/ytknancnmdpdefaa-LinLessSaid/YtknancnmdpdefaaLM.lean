/- The plain mathematics of orders that explain calls. -/
import Derived.Test.YtknancnmdpdefaaL2
namespace Go.Proofs.Ytknancnmdpdefaa
open Go.RowKit

/-- An order that explains what is left, from a content on. -/
def Fit (l : List CallT) : Cont → Nat → List Nat → Prop
  | _, left, [] => left = 0
  | c, left, i :: o => ∃ x, l[i]? = some x ∧ left.testBit i = true ∧ blockN l left i x l.length = false ∧ tellsB c x = true ∧ Fit l (does c x.op).1 (clr left i) o

/-- The first of two orders, place by place. -/
def lexLe : List Nat → List Nat → Prop
  | [], _ => True
  | _ :: _, [] => False
  | x :: a, y :: b => x < y ∨ (x = y ∧ lexLe a b)

theorem tryF_some {l : List CallT} {rec : Cont → Nat → Option (List Nat)} {c : Cont} {left i : Nat} {o : List Nat} (h : tryF l rec c left i = some o) : ∃ x o', l[i]? = some x ∧ left.testBit i = true ∧ blockN l left i x l.length = false ∧ tellsB c x = true ∧ rec (does c x.op).1 (clr left i) = some o' ∧ o = i :: o' := by
  unfold tryF at h
  split at h
  · cases h
  · rename_i x hx
    split at h
    · rename_i hc
      simp only [Bool.and_eq_true, Bool.not_eq_true'] at hc
      cases hr : rec (does c x.op).1 (clr left i) with
      | none => rw [hr] at h; cases h
      | some o' => rw [hr] at h; cases h; exact ⟨x, o', hx, hc.1.1, hc.1.2, hc.2, hr, rfl⟩
    · cases h
theorem tryF_none {l : List CallT} {rec : Cont → Nat → Option (List Nat)} {c : Cont} {left i : Nat} {x : CallT} (h : tryF l rec c left i = none) (hx : l[i]? = some x) (h1 : left.testBit i = true) (h2 : blockN l left i x l.length = false) (h3 : tellsB c x = true) : rec (does c x.op).1 (clr left i) = none := by
  rw [tryF_rec hx h1 h2 h3] at h
  simpa using h
theorem goF_find {l : List CallT} {rec : Cont → Nat → Option (List Nat)} {c : Cont} {left : Nat} : ∀ (k i : Nat) (o : List Nat), goF l rec c left k i = some o → ∃ j, i ≤ j ∧ j < i + k ∧ tryF l rec c left j = some o ∧ ∀ m, i ≤ m → m < j → tryF l rec c left m = none
  | 0, i, o, h => by cases h
  | k + 1, i, o, h => by
    rw [goF] at h
    cases ht : tryF l rec c left i with
    | some o' => rw [ht] at h; cases h; exact ⟨i, Nat.le_refl _, by omega, ht, fun m h1 h2 => by omega⟩
    | none =>
      rw [ht] at h
      obtain ⟨j, h1, h2, h3, h4⟩ := goF_find k (i + 1) o h
      refine ⟨j, by omega, by omega, h3, fun m hm1 hm2 => ?_⟩
      by_cases e : m = i
      · subst e; exact ht
      · exact h4 m (by omega) hm2
theorem goF_none {l : List CallT} {rec : Cont → Nat → Option (List Nat)} {c : Cont} {left : Nat} : ∀ (k i : Nat), goF l rec c left k i = none → ∀ m, i ≤ m → m < i + k → tryF l rec c left m = none
  | 0, i, h => fun m h1 h2 => by omega
  | k + 1, i, h => by
    rw [goF] at h
    cases ht : tryF l rec c left i with
    | some o' => rw [ht] at h; cases h
    | none =>
      rw [ht] at h
      intro m h1 h2
      by_cases e : m = i
      · subst e; exact ht
      · exact goF_none k (i + 1) h m (by omega) (by omega)

theorem idx_lt {l : List CallT} {i : Nat} {x : CallT} (h : l[i]? = some x) : i < l.length := (List.getElem?_eq_some_iff.1 h).1

/-- What the search finds is an order that explains, and the first one; where it finds none, there is none. -/
theorem seek_spec (l : List CallT) (hl : l.length ≤ 10) : ∀ (n : Nat) (c : Cont) (left : Nat), left < 2 ^ l.length → cnt l.length left ≤ n →
    (∀ o, seekF l n c left = some o → Fit l c left o ∧ ∀ o', Fit l c left o' → lexLe o o') ∧ (seekF l n c left = none → ∀ o', ¬ Fit l c left o')
  | 0, c, left, hle, hc => by
    have h0 := cnt_zero hle (by omega)
    subst h0
    refine ⟨fun o h => ?_, fun h => by cases h⟩
    rw [seekF_zero] at h
    cases h
    exact ⟨rfl, fun _ _ => trivial⟩
  | n + 1, c, left, hle, hc => by
    have h64 : left < 18446744073709551616 := Nat.lt_of_lt_of_le hle (by have := Nat.pow_le_pow_right (n := 2) (by omega) hl; omega)
    by_cases hz : left = 0
    · subst hz
      refine ⟨fun o h => ?_, fun h => by rw [seekF_zero] at h; cases h⟩
      rw [seekF_zero] at h
      cases h
      exact ⟨rfl, fun _ _ => trivial⟩
    · have ih : ∀ i x, l[i]? = some x → left.testBit i = true → _ := fun i x hx hb => seek_spec l hl n (does c x.op).1 (clr left i) (clr_small hle (by omega)) (by have := cnt_clr left i h64 hb l.length (idx_lt hx); omega)
      refine ⟨fun o h => ?_, fun h o' ho' => ?_⟩
      · rw [seekF_go hz] at h
        obtain ⟨j, _, hj, ht, hno⟩ := goF_find _ _ _ h
        obtain ⟨x, o1, hx, h1, h2, h3, hr, rfl⟩ := tryF_some ht
        obtain ⟨hf, hmin⟩ := (ih j x hx h1).1 o1 hr
        refine ⟨⟨x, hx, h1, h2, h3, hf⟩, fun o' ho' => ?_⟩
        cases o' with
        | nil => exact absurd ho' hz
        | cons i o2 =>
          obtain ⟨y, hy, g1, g2, g3, g4⟩ := ho'
          rcases Nat.lt_trichotomy j i with hij | hij | hij
          · exact .inl hij
          · subst hij
            rw [hx] at hy
            cases hy
            exact .inr ⟨rfl, hmin o2 g4⟩
          · have hn := tryF_none (hno i (Nat.zero_le _) hij) hy g1 g2 g3
            exact absurd g4 ((ih i y hy g1).2 hn o2)
      · rw [seekF_go hz] at h
        cases o' with
        | nil => exact hz ho'
        | cons i o2 =>
          obtain ⟨y, hy, g1, g2, g3, g4⟩ := ho'
          have hn := tryF_none (goF_none _ _ h i (Nat.zero_le _) (by have := idx_lt hy; omega)) hy g1 g2 g3
          exact (ih i y hy g1).2 hn o2 g4

/-- All bits below n. -/
def full (n : Nat) : Nat := 2 ^ n - 1
theorem full_lt (n : Nat) : full n < 2 ^ n := by unfold full; have := Nat.two_pow_pos n; omega
theorem full_bit (n i : Nat) : (full n).testBit i = decide (i < n) := by unfold full; exact Nat.testBit_two_pow_sub_one n i
theorem cnt_full (n : Nat) : cnt n (full n) = n := by
  unfold cnt
  have : (List.range n).countP (full n).testBit = (List.range n).length := by
    rw [List.countP_eq_length]
    intro i hi
    rw [full_bit]
    simpa using List.mem_range.1 hi
  rw [this, List.length_range]

def orderF (c : Cont) (l : List CallT) : Option (List Nat) := seekF l (l.length + 1) c (full l.length)
theorem order_spec (c : Cont) (l : List CallT) (hl : l.length ≤ 10) : (∀ o, orderF c l = some o → Fit l c (full l.length) o ∧ ∀ o', Fit l c (full l.length) o' → lexLe o o') ∧ (orderF c l = none → ∀ o', ¬ Fit l c (full l.length) o') :=
  seek_spec l hl (l.length + 1) c (full l.length) (full_lt _) (by rw [cnt_full]; omega)

/-! ### Orders, told by pairs -/
def runF (l : List CallT) : Cont → List Nat → Bool
  | _, [] => true
  | c, i :: o => match l[i]? with
    | none => false
    | some x => tellsB c x && runF l (does c x.op).1 o
/-- No later one is ahead of an earlier one. -/
def OrdOk (l : List CallT) (o : List Nat) : Prop := o.Pairwise fun a b => ∀ x y, l[a]? = some x → l[b]? = some y → aheadB y x = false

theorem blockN_false {l : List CallT} {left i : Nat} {x : CallT} {n : Nat} : blockN l left i x n = false ↔ ∀ j y, j < n → j ≠ i → left.testBit j = true → l[j]? = some y → aheadB y x = false := by
  unfold blockN
  rw [List.any_eq_false]
  constructor
  · intro h j y hj hne hb hy
    have := h j (List.mem_range.2 hj)
    rw [hb, hy] at this
    simpa [hne] using this
  · intro h j hj
    by_cases hne : j = i
    · simp [hne]
    · cases hb : left.testBit j with
      | false => simp
      | true =>
        cases hy : l[j]? with
        | none => simp
        | some y => simp [hne, h j y (List.mem_range.1 hj) hne hb hy]

theorem fit_iff (l : List CallT) (hl : l.length ≤ 10) : ∀ (o : List Nat) (c : Cont) (left : Nat), left < 2 ^ l.length →
    (Fit l c left o ↔ o.Nodup ∧ (∀ i, i ∈ o ↔ left.testBit i = true) ∧ OrdOk l o ∧ runF l c o = true)
  | [], c, left, hle => by
    constructor
    · intro h
      have h0 : left = 0 := h
      subst h0
      exact ⟨List.nodup_nil, fun i => by simp, List.Pairwise.nil, rfl⟩
    · rintro ⟨_, h, _⟩
      show left = 0
      apply Nat.eq_of_testBit_eq
      intro j
      rw [Nat.zero_testBit]
      have := h j
      simp at this
      exact this
  | i :: o, c, left, hle => by
    have h64 : left < 18446744073709551616 := Nat.lt_of_lt_of_le hle (by have := Nat.pow_le_pow_right (n := 2) (by omega) hl; omega)
    have hlen : ∀ j, left.testBit j = true → j < l.length := fun j hj => by
      rcases Nat.lt_or_ge j l.length with h | h
      · exact h
      · rw [Nat.testBit_lt_two_pow (Nat.lt_of_lt_of_le hle (Nat.pow_le_pow_right (by omega) h))] at hj; cases hj
    constructor
    · rintro ⟨x, hx, h1, h2, h3, h4⟩
      obtain ⟨g1, g2, g3, g4⟩ := (fit_iff l hl o _ _ (clr_small hle (by omega))).1 h4
      have hmem : ∀ j, j ∈ o ↔ (left.testBit j = true ∧ i ≠ j) := fun j => by rw [g2 j, clr_bit _ _ _ h64]; simp
      refine ⟨List.nodup_cons.2 ⟨fun h => ((hmem i).1 h).2 rfl, g1⟩, fun j => ?_, List.pairwise_cons.2 ⟨fun j hj x' y hx' hy => ?_, g3⟩, ?_⟩
      · rw [List.mem_cons, hmem]
        by_cases e : j = i
        · subst e; simp [h1]
        · simp [e, Ne.symm e]
      · rw [hx] at hx'
        cases hx'
        obtain ⟨hb, hne⟩ := (hmem j).1 hj
        exact blockN_false.1 h2 j y (hlen j hb) (Ne.symm hne) hb hy
      · simp only [runF, hx, h3, g4, Bool.and_self]
    · rintro ⟨hnd, hmem, hord, hrun⟩
      obtain ⟨hni, hnd'⟩ := List.nodup_cons.1 hnd
      obtain ⟨ho1, ho2⟩ := List.pairwise_cons.1 hord
      have h1 : left.testBit i = true := (hmem i).1 List.mem_cons_self
      simp only [runF] at hrun
      cases hx : l[i]? with
      | none => rw [hx] at hrun; cases hrun
      | some x =>
        rw [hx] at hrun
        simp only [Bool.and_eq_true] at hrun
        refine ⟨x, hx, h1, ?_, hrun.1, (fit_iff l hl o _ _ (clr_small hle (by omega))).2 ⟨hnd', fun j => ?_, ho2, hrun.2⟩⟩
        · rw [blockN_false]
          intro j y hj hne hb hy
          have hjo : j ∈ o := by
            have := (hmem j).2 hb
            rcases List.mem_cons.1 this with h | h
            · exact absurd h hne
            · exact h
          exact ho1 j hjo x y hx hy
        · rw [clr_bit _ _ _ h64]
          have := hmem j
          rw [List.mem_cons] at this
          constructor
          · intro hj
            have hb := this.1 (.inr hj)
            have : i ≠ j := fun e => hni (by rw [e]; exact hj)
            simp [hb, this]
          · intro hj
            simp only [Bool.and_eq_true, Bool.not_eq_true', decide_eq_false_iff_not] at hj
            rcases this.2 hj.1 with h | h
            · exact absurd h.symm hj.2
            · exact h
/-- An order of all explains, told by pairs. -/
def FitAll (c : Cont) (l : List CallT) (o : List Nat) : Prop := o.Nodup ∧ (∀ i, i ∈ o ↔ i < l.length) ∧ OrdOk l o ∧ runF l c o = true
theorem fit_all {c : Cont} {l : List CallT} (hl : l.length ≤ 10) {o : List Nat} : Fit l c (full l.length) o ↔ FitAll c l o := by
  rw [fit_iff l hl o c _ (full_lt _)]
  unfold FitAll
  simp only [full_bit, decide_eq_true_eq]
theorem order_some {c : Cont} {l : List CallT} (hl : l.length ≤ 10) {o : List Nat} (h : orderF c l = some o) : FitAll c l o ∧ ∀ o', FitAll c l o' → lexLe o o' := by
  obtain ⟨h1, h2⟩ := (order_spec c l hl).1 o h
  exact ⟨(fit_all hl).1 h1, fun o' ho' => h2 o' ((fit_all hl).2 ho')⟩
theorem order_none {c : Cont} {l : List CallT} (hl : l.length ≤ 10) (h : orderF c l = none) (o : List Nat) : ¬ FitAll c l o := fun ho => (order_spec c l hl).2 h o ((fit_all hl).2 ho)
end Go.Proofs.Ytknancnmdpdefaa
