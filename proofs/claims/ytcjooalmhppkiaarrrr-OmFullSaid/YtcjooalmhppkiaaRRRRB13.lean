/- Orders: what a new element does to them. -/
import Derived.Test.YtcjooalmhppkiaaRRRRB12
namespace Go.Proofs.YtcjooalmhppkiaaRRRR
open Go.RowKit

theorem rightB_iff {ls : List Int} : rightB ls = true ↔ (1 ≤ ls.length ∧ ls.length ≤ 1000) ∧ (∀ i, i < ls.length → 0 ≤ labAt ls i ∧ labAt ls i ≤ topL) ∧ ∀ i j, i < ls.length → j < ls.length → labAt ls i = labAt ls j → i = j := by
  constructor
  · intro h
    refine ⟨right_small h, fun i hi => ?_, fun i j hi hj e => ?_⟩
    · by_cases h1 : labAt ls i < 0
      · rw [right_range hi (.inl h1)] at h; cases h
      · by_cases h2 : topL < labAt ls i
        · rw [right_range hi (.inr h2)] at h; cases h
        · omega
    · by_cases hne : i = j
      · exact hne
      · rw [right_twice hi hj hne e] at h; cases h
  · rintro ⟨⟨h1, h2⟩, h3, h4⟩
    refine right_all h1 h2 fun i hi => ⟨h3 i hi, fun k hk e => ?_⟩
    have := h4 k i (by omega) hi e
    omega

theorem bndF_true {a : Int} : ∀ (l : List Int) (b : Int), a < b → (∀ n ∈ l, a < n → (bndF a l (b, true)).1 ≤ n) ∧ (bndF a l (b, true)).1 ≤ b ∧ ((bndF a l (b, true)).1 = b ∨ (bndF a l (b, true)).1 ∈ l)
  | [], b, _ => ⟨fun _ h => (by cases h), Int.le_refl _, .inl rfl⟩
  | n :: l, b, hb => by
    rw [bndF]
    by_cases hc : (decide (a < n) && (!true || decide (n < b))) = true
    · rw [if_pos hc]
      simp only [Bool.not_true, Bool.false_or, Bool.and_eq_true, decide_eq_true_eq] at hc
      obtain ⟨h1, h2, h3⟩ := bndF_true l n hc.1
      refine ⟨fun m hm ham => ?_, by omega, .inr ?_⟩
      · rcases List.mem_cons.1 hm with rfl | hm
        · exact h2
        · exact h1 m hm ham
      · rcases h3 with h3 | h3
        · rw [h3]; exact List.mem_cons_self
        · exact List.mem_cons_of_mem _ h3
    · rw [if_neg hc]
      simp only [Bool.not_true, Bool.false_or, Bool.and_eq_true, decide_eq_true_eq] at hc
      obtain ⟨h1, h2, h3⟩ := bndF_true l b hb
      refine ⟨fun m hm ham => ?_, h2, ?_⟩
      · rcases List.mem_cons.1 hm with rfl | hm
        · have : ¬ m < b := fun h => hc ⟨ham, h⟩
          omega
        · exact h1 m hm ham
      · rcases h3 with h3 | h3
        · exact .inl h3
        · exact .inr (List.mem_cons_of_mem _ h3)
theorem bndF_false {a : Int} : ∀ (l : List Int) (b : Int), (∀ n ∈ l, a < n → (bndF a l (b, false)).1 ≤ n) ∧ (((bndF a l (b, false)).1 = b ∧ ∀ n ∈ l, n ≤ a) ∨ (a < (bndF a l (b, false)).1 ∧ (bndF a l (b, false)).1 ∈ l))
  | [], b => ⟨fun _ h => (by cases h), .inl ⟨rfl, fun _ h => (by cases h)⟩⟩
  | n :: l, b => by
    rw [bndF]
    by_cases hc : a < n
    · rw [if_pos (by simp [hc])]
      obtain ⟨h1, h2, h3⟩ := bndF_true l n hc
      refine ⟨fun m hm ham => ?_, .inr ⟨?_, ?_⟩⟩
      · rcases List.mem_cons.1 hm with rfl | hm
        · exact h2
        · exact h1 m hm ham
      · exact bndF_gt l n true hc
      · rcases h3 with h3 | h3
        · rw [h3]; exact List.mem_cons_self
        · exact List.mem_cons_of_mem _ h3
    · rw [if_neg (by simp [hc])]
      obtain ⟨h1, h2⟩ := bndF_false l b
      refine ⟨fun m hm ham => ?_, ?_⟩
      · rcases List.mem_cons.1 hm with rfl | hm
        · omega
        · exact h1 m hm ham
      · rcases h2 with ⟨h2, h3⟩ | ⟨h2, h3⟩
        · refine .inl ⟨h2, fun m hm => ?_⟩
          rcases List.mem_cons.1 hm with rfl | hm
          · omega
          · exact h3 m hm
        · exact .inr ⟨h2, List.mem_cons_of_mem _ h3⟩
where
  bndF_gt {a : Int} : ∀ (l : List Int) (b : Int) (is : Bool), a < b → a < (bndF a l (b, is)).1
  | [], _, _, h => h
  | n :: l, b, is, h => by
    rw [bndF]
    split
    · rename_i hc
      simp only [Bool.and_eq_true, decide_eq_true_eq] at hc
      exact bndF_gt l n true hc.1
    · exact bndF_gt l b is h

theorem lab_mem {ls : List Int} {n : Int} (h : n ∈ ls) : ∃ i, i < ls.length ∧ labAt ls i = n := by
  obtain ⟨i, hi⟩ := List.getElem?_of_mem h
  have hil := (List.getElem?_eq_some_iff.1 hi).1
  rw [labAt_get hil] at hi
  exact ⟨i, hil, Option.some.inj hi⟩
theorem mem_lab {ls : List Int} {i : Nat} (h : i < ls.length) : labAt ls i ∈ ls := List.mem_of_getElem? (labAt_get h)

theorem bounds_fst (ls : List Int) (x : Nat) : (boundsF ls x).1 = labAt ls x := rfl
theorem bounds_least (ls : List Int) (x : Nat) : (∀ i, i < ls.length → labAt ls x < labAt ls i → (boundsF ls x).2 ≤ labAt ls i) ∧ (((boundsF ls x).2 = labAt ls x + 2097152 ∧ ∀ i, i < ls.length → labAt ls i ≤ labAt ls x) ∨ (labAt ls x < (boundsF ls x).2 ∧ ∃ i, i < ls.length ∧ labAt ls i = (boundsF ls x).2)) := by
  obtain ⟨h1, h2⟩ := bndF_false (a := labAt ls x) ls (labAt ls x + 2097152)
  refine ⟨fun i hi h => h1 _ (mem_lab hi) h, ?_⟩
  rcases h2 with ⟨h2, h3⟩ | ⟨h2, h3⟩
  · exact .inl ⟨h2, fun i hi => h3 _ (mem_lab hi)⟩
  · exact .inr ⟨h2, lab_mem h3⟩

theorem anew_lab {ls : List Int} {x : Nat} (hx : x < ls.length) : labAt (anewF ls) x = ((rowF ls).idxOf x : Nat) * 1048576 := by simp [labAt, anewF, hx]
theorem row_idx {ls : List Int} {x : Nat} (hx : x < ls.length) : (rowF ls)[(rowF ls).idxOf x]? = some x ∧ (rowF ls).idxOf x < ls.length := by
  have hi := List.idxOf_lt_length_of_mem ((rowF_mem ls x).2 hx)
  refine ⟨by rw [List.getElem?_eq_getElem hi, List.getElem_idxOf], ?_⟩
  rw [rowF_len] at hi; exact hi
theorem idx_lt {ls : List Int} (hr : rightB ls = true) {x y : Nat} (hx : x < ls.length) (hy : y < ls.length) : (rowF ls).idxOf x < (rowF ls).idxOf y ↔ labAt ls x < labAt ls y := by
  obtain ⟨_, _, hd⟩ := rightB_iff.1 hr
  obtain ⟨gx, lx⟩ := row_idx hx
  obtain ⟨gy, ly⟩ := row_idx hy
  constructor
  · intro h
    have h1 := rowF_sorted ls h gx gy
    by_cases e : labAt ls x = labAt ls y
    · have := hd x y hx hy e
      subst this
      omega
    · omega
  · intro h
    rcases Nat.lt_trichotomy ((rowF ls).idxOf x) ((rowF ls).idxOf y) with h' | h' | h'
    · exact h'
    · rw [h', gy] at gx
      cases gx
      omega
    · have h1 := rowF_sorted ls h' gy gx
      omega
theorem room_lt {ls : List Int} (hr : rightB ls = true) (x : Nat) {i j : Nat} (hi : i < ls.length) (hj : j < ls.length) : labAt (roomF ls x) i < labAt (roomF ls x) j ↔ labAt ls i < labAt ls j := by
  unfold roomF
  split
  · rw [anew_lab hi, anew_lab hj, ← idx_lt hr hi hj]
    omega
  · exact Iff.rfl
theorem right_len {ls : List Int} (hr : rightB ls = true) : ls.length ≤ 1000 := (right_small hr).2
theorem room_free {ls : List Int} (hr : rightB ls = true) {x : Nat} (hx : x < ls.length) : labAt (roomF ls x) x + 2 ≤ (boundsF (roomF ls x) x).2 ∧ (boundsF (roomF ls x) x).2 ≤ topL ∧ ∀ i, i < ls.length → 0 ≤ labAt (roomF ls x) i ∧ labAt (roomF ls x) i ≤ topL := by
  obtain ⟨⟨_, h2⟩, h3, hd⟩ := rightB_iff.1 hr
  by_cases ht : tightB (boundsF ls x) = true
  · have e : roomF ls x = anewF ls := by unfold roomF; rw [if_pos ht]
    rw [e]
    obtain ⟨_, b2⟩ := bounds_least (anewF ls) x
    obtain ⟨_, lx⟩ := row_idx hx
    have ax := anew_lab hx
    refine ⟨?_, ?_, fun i hi => ?_⟩
    · rcases b2 with ⟨b2, _⟩ | ⟨b2, i, hi, b3⟩
      · omega
      · rw [anewF_len] at hi
        rw [← b3] at b2 ⊢
        rw [anew_lab hi] at b2 ⊢
        rw [ax] at b2 ⊢
        omega
    · unfold topL
      rcases b2 with ⟨b2, _⟩ | ⟨b2, i, hi, b3⟩
      · rw [b2, ax]; omega
      · rw [anewF_len] at hi
        obtain ⟨_, li⟩ := row_idx hi
        rw [← b3, anew_lab hi]; omega
    · obtain ⟨_, li⟩ := row_idx hi
      rw [anew_lab hi]; unfold topL; omega
  · have e : roomF ls x = ls := by unfold roomF; rw [if_neg ht]
    rw [e]
    unfold tightB at ht
    simp only [Bool.or_eq_true, decide_eq_true_eq, not_or] at ht
    obtain ⟨_, b2⟩ := bounds_least ls x
    rw [bounds_fst] at ht
    refine ⟨?_, by unfold topL; omega, h3⟩
    rcases b2 with ⟨b2, _⟩ | ⟨b2, _⟩ <;> omega

theorem lab_app_l {ls : List Int} {m : Int} {i : Nat} (hi : i < ls.length) : labAt (ls ++ [m]) i = labAt ls i := by
  unfold labAt; simp [List.getD_eq_getElem?_getD, List.getElem?_append_left hi]
theorem lab_app_r {ls : List Int} {m : Int} {i : Nat} (hi : i = ls.length) : labAt (ls ++ [m]) i = m := by
  subst hi; unfold labAt; simp [List.getD_eq_getElem?_getD]

/-- What a new element does. -/
structure Behind (ls : List Int) (x : Nat) (ls' : List Int) : Prop where
  len : ls'.length = ls.length + 1
  right : rightB ls' = true
  old : ∀ i j, i < ls.length → j < ls.length → (labAt ls' i < labAt ls' j ↔ labAt ls i < labAt ls j)
  ahead : ∀ i, i < ls.length → (labAt ls' i < labAt ls' ls.length ↔ i = x ∨ labAt ls i < labAt ls x)
  after : ∀ i, i < ls.length → (labAt ls' ls.length < labAt ls' i ↔ labAt ls x < labAt ls i)
theorem behF_ok {ls : List Int} (hr : rightB ls = true) {x : Nat} (hx : x < ls.length) (hl : ls.length < 1000) : (behF ls x).2 = ((ls.length : Int), (0 : Int)) ∧ Behind ls x (behF ls x).1 := by
  have hc : (rightB ls && decide (0 ≤ (x : Int)) && decide ((x : Int) < ls.length)) = true := by
    rw [hr, decide_eq_true (show (0 : Int) ≤ (x : Int) by omega), decide_eq_true (show (x : Int) < ls.length by omega)]; rfl
  obtain ⟨f1, f2, f3⟩ := room_free hr hx
  have hrl := roomF_len ls x
  obtain ⟨_, _, hd⟩ := rightB_iff.1 hr
  obtain ⟨b1, _⟩ := bounds_least (roomF ls x) x
  rw [hrl] at b1
  have hlt := fun i j hi hj => room_lt hr x (i := i) (j := j) hi hj
  rw [behF, hc, if_pos rfl, if_neg (by omega), Int.toNat_natCast, bounds_fst]
  refine ⟨rfl, ?_⟩
  show Behind ls x (roomF ls x ++ [labAt (roomF ls x) x + ((boundsF (roomF ls x) x).2 - labAt (roomF ls x) x) / 2])
  generalize hm : labAt (roomF ls x) x + ((boundsF (roomF ls x) x).2 - labAt (roomF ls x) x) / 2 = m
  have hm1 : labAt (roomF ls x) x < m := by omega
  have hm2 : m < (boundsF (roomF ls x) x).2 := by omega
  have hf3 := f3 x hx
  generalize (boundsF (roomF ls x) x).2 = b at *
  generalize roomF ls x = rs at *
  clear hm
  have hne : ∀ i j, i < ls.length → j < ls.length → labAt rs i = labAt rs j → i = j := fun i j hi hj e => by
    refine hd i j hi hj ?_
    have a1 := hlt i j hi hj
    have a2 := hlt j i hj hi
    omega
  have hA : ∀ i, i < ls.length → (labAt rs i < m ↔ i = x ∨ labAt ls i < labAt ls x) := fun i hi => by
    have a1 := hlt i x hi hx
    have a2 := b1 i hi
    have a3 := hne i x hi hx
    constructor
    · intro h
      by_cases e : labAt rs i = labAt rs x
      · exact .inl (a3 e)
      · exact .inr (a1.1 (by omega))
    · rintro (rfl | h)
      · exact hm1
      · have := a1.2 h; omega
  have hB : ∀ i, i < ls.length → (m < labAt rs i ↔ labAt ls x < labAt ls i) := fun i hi => by
    have a1 := hlt x i hx hi
    have a2 := b1 i hi
    constructor
    · intro h; exact a1.1 (by omega)
    · intro h; have := a2 (a1.2 h); omega
  have hlen : (rs ++ [m]).length = ls.length + 1 := by simp [hrl]
  have hL : ∀ i, i < ls.length → labAt (rs ++ [m]) i = labAt rs i := fun i hi => lab_app_l (by omega)
  have hR : labAt (rs ++ [m]) ls.length = m := lab_app_r hrl.symm
  refine ⟨hlen, ?_, fun i j hi hj => ?_, fun i hi => ?_, fun i hi => ?_⟩
  · refine rightB_iff.2 ⟨⟨by omega, by omega⟩, fun i hi => ?_, fun i j hi hj e => ?_⟩
    · by_cases e : i = ls.length
      · subst e; rw [hR]; omega
      · rw [hL i (by omega)]; exact f3 i (by omega)
    · by_cases e1 : i = ls.length
      · by_cases e2 : j = ls.length
        · omega
        · rw [e1, hR, hL j (by omega)] at e
          have a1 := hA j (by omega)
          have a2 := hB j (by omega)
          have a3 : ¬ labAt ls x < labAt ls j := fun h => by have := a2.2 h; omega
          have a4 : ¬ (j = x ∨ labAt ls j < labAt ls x) := fun h => by have := a1.2 h; omega
          have := hd j x (by omega) hx (by omega)
          exact absurd (.inl this) a4
      · by_cases e2 : j = ls.length
        · rw [e2, hR, hL i (by omega)] at e
          have a1 := hA i (by omega)
          have a2 := hB i (by omega)
          have a3 : ¬ labAt ls x < labAt ls i := fun h => by have := a2.2 h; omega
          have a4 : ¬ (i = x ∨ labAt ls i < labAt ls x) := fun h => by have := a1.2 h; omega
          have := hd i x (by omega) hx (by omega)
          exact absurd (.inl this) a4
        · rw [hL i (by omega), hL j (by omega)] at e
          exact hne i j (by omega) (by omega) e
  · rw [hL i hi, hL j hj]; exact hlt i j hi hj
  · rw [hL i hi, hR]; exact hA i hi
  · rw [hL i hi, hR]; exact hB i hi

/-- Labels that are so far from one another. -/
structure Wide (g M : Int) (ls : List Int) : Prop where
  in_ : ∀ i, i < ls.length → 0 ≤ labAt ls i ∧ labAt ls i ≤ M
  far : ∀ i j, i < ls.length → j < ls.length → labAt ls i < labAt ls j → labAt ls i + g ≤ labAt ls j
  one : ∀ i j, i < ls.length → j < ls.length → labAt ls i = labAt ls j → i = j
theorem Wide.next {g M : Int} {ls : List Int} (h : Wide (2 * g) M ls) (hg : 1 ≤ g) (hg2 : g ≤ 1048576) (hM : M + 2097152 ≤ topL) (h0 : 1 ≤ ls.length) (hl : ls.length < 1000) {x : Nat} (hx : x < ls.length) :
    ∃ m, behF ls x = (ls ++ [m], (ls.length : Int), 0) ∧ Wide g (M + 1048576) (ls ++ [m]) := by
  have hr : rightB ls = true := rightB_iff.2 ⟨⟨h0, by omega⟩, fun i hi => by have := h.in_ i hi; omega, h.one⟩
  have hc : (rightB ls && decide (0 ≤ (x : Int)) && decide ((x : Int) < ls.length)) = true := by
    rw [hr, decide_eq_true (show (0 : Int) ≤ (x : Int) by omega), decide_eq_true (show (x : Int) < ls.length by omega)]; rfl
  obtain ⟨b1, b2⟩ := bounds_least ls x
  have hxi := h.in_ x hx
  have hb : labAt ls x + 2 * g ≤ (boundsF ls x).2 ∧ (boundsF ls x).2 ≤ M + 2097152 ∧ ((boundsF ls x).2 ≤ M ∨ (boundsF ls x).2 = labAt ls x + 2097152) := by
    rcases b2 with ⟨b2, _⟩ | ⟨b2, i, hi, b3⟩
    · omega
    · have a1 := h.far x i hx hi (by omega)
      have a2 := h.in_ i hi
      omega
  have ht : tightB (boundsF ls x) = false := by
    unfold tightB
    unfold topL at hM
    rw [bounds_fst, decide_eq_false (by omega), decide_eq_false (by omega)]; rfl
  have e : roomF ls x = ls := by unfold roomF; rw [ht]; rfl
  rw [behF, hc, if_pos rfl, if_neg (by omega), Int.toNat_natCast, e, bounds_fst]
  refine ⟨_, rfl, ?_⟩
  generalize hm : labAt ls x + ((boundsF ls x).2 - labAt ls x) / 2 = m
  have hm1 : labAt ls x + g ≤ m := by omega
  have hm2 : m + g ≤ (boundsF ls x).2 := by omega
  have hm3 : m ≤ M + 1048576 := by omega
  have hL : ∀ i, i < ls.length → labAt (ls ++ [m]) i = labAt ls i := fun i hi => lab_app_l hi
  have hR : labAt (ls ++ [m]) ls.length = m := lab_app_r rfl
  have hlen : (ls ++ [m]).length = ls.length + 1 := by simp
  have hsep : ∀ i, i < ls.length → labAt ls i + g ≤ m ∨ m + g ≤ labAt ls i := fun i hi => by
    by_cases h1 : labAt ls x < labAt ls i
    · have := b1 i hi h1; omega
    · omega
  refine ⟨fun i hi => ?_, fun i j hi hj => ?_, fun i j hi hj => ?_⟩
  · by_cases e1 : i = ls.length
    · rw [e1, hR]; omega
    · rw [hL i (by omega)]; have := h.in_ i (by omega); omega
  · by_cases e1 : i = ls.length
    · by_cases e2 : j = ls.length
      · rw [e1, e2]; omega
      · rw [e1, hR, hL j (by omega)]; have := hsep j (by omega); omega
    · by_cases e2 : j = ls.length
      · rw [e2, hR, hL i (by omega)]; have := hsep i (by omega); omega
      · rw [hL i (by omega), hL j (by omega)]; have := h.far i j (by omega) (by omega); omega
  · by_cases e1 : i = ls.length
    · by_cases e2 : j = ls.length
      · omega
      · rw [e1, hR, hL j (by omega)]; have := hsep j (by omega); omega
    · by_cases e2 : j = ls.length
      · rw [e2, hR, hL i (by omega)]; have := hsep i (by omega); omega
      · rw [hL i (by omega), hL j (by omega)]; exact h.one i j (by omega) (by omega)
end Go.Proofs.YtcjooalmhppkiaaRRRR
