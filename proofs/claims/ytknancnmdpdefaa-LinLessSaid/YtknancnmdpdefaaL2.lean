/- The search for an order, as a plain function. -/
import Derived.Test.YtknancnmdpdefaaL1
namespace Go.Proofs.Ytknancnmdpdefaa
open Go.RowKit
set_option maxRecDepth 100000

/-- Is a call held up by another one that is left? -/
def blockN (l : List CallT) (left i : Nat) (x : CallT) (n : Nat) : Bool := (List.range n).any fun j => decide (j ≠ i) && left.testBit j && (match l[j]? with | some y => aheadB y x | none => false)
def tryF (l : List CallT) (rec : Cont → Nat → Option (List Nat)) (c : Cont) (left i : Nat) : Option (List Nat) := match l[i]? with
  | none => none
  | some x => if left.testBit i && !blockN l left i x l.length && tellsB c x then (rec (does c x.op).1 (clr left i)).map (i :: ·) else none
def goF (l : List CallT) (rec : Cont → Nat → Option (List Nat)) (c : Cont) (left : Nat) : Nat → Nat → Option (List Nat)
  | 0, _ => none
  | k + 1, i => match tryF l rec c left i with
    | some o => some o
    | none => goF l rec c left k (i + 1)
def seekF (l : List CallT) : Nat → Cont → Nat → Option (List Nat)
  | 0, _, left => if left = 0 then some [] else none
  | n + 1, c, left => if left = 0 then some [] else goF l (seekF l n) c left l.length 0

def cnt (n left : Nat) : Nat := (List.range n).countP left.testBit
theorem cnt_succ (n left : Nat) : cnt (n + 1) left = cnt n left + (left.testBit n).toNat := by
  unfold cnt
  rw [List.range_succ, List.countP_append]
  cases h : left.testBit n <;> simp [h]
theorem cnt_clr (left i : Nat) (hm : left < 18446744073709551616) (hb : left.testBit i = true) : ∀ n, i < n → cnt n (clr left i) + 1 = cnt n left := by
  have low : ∀ n, n ≤ i → cnt n (clr left i) = cnt n left := by
    intro n
    induction n with
    | zero => intro _; rfl
    | succ n ih =>
      intro hn
      rw [cnt_succ, cnt_succ, ih (by omega), clr_bit _ _ _ hm]
      have : decide (i = n) = false := decide_eq_false (by omega)
      rw [this]; simp
  intro n
  induction n with
  | zero => intro h; omega
  | succ n ih =>
    intro hn
    rw [cnt_succ, cnt_succ, clr_bit _ _ _ hm]
    by_cases h : i = n
    · subst h
      rw [low i (Nat.le_refl _), hb]; simp
    · have := ih (by omega)
      simp [h]; omega
theorem cnt_zero {n left : Nat} (hl : left < 2 ^ n) (h : cnt n left = 0) : left = 0 := by
  apply Nat.eq_of_testBit_eq
  intro j
  rw [Nat.zero_testBit]
  rcases Nat.lt_or_ge j n with hj | hj
  · unfold cnt at h
    rw [List.countP_eq_zero] at h
    simpa using h j (List.mem_range.2 hj)
  · exact Nat.testBit_lt_two_pow (Nat.lt_of_lt_of_le hl (Nat.pow_le_pow_right (by omega) hj))
theorem clr_small {n left i : Nat} (hl : left < 2 ^ n) (hn : n ≤ 64) : clr left i < 2 ^ n := by
  have h64 : left < 18446744073709551616 := Nat.lt_of_lt_of_le hl (by have := Nat.pow_le_pow_right (n := 2) (by omega) hn; omega)
  apply Nat.lt_pow_two_of_testBit
  intro j hj
  rw [clr_bit _ _ _ h64, Nat.testBit_lt_two_pow (Nat.lt_of_lt_of_le hl (Nat.pow_le_pow_right (by omega) hj))]
  rfl
theorem blockN_succ (l : List CallT) (left i : Nat) (x : CallT) (n : Nat) : blockN l left i x (n + 1) = (blockN l left i x n || (decide (n ≠ i) && left.testBit n && (match l[n]? with | some y => aheadB y x | none => false))) := by
  unfold blockN
  rw [List.range_succ, List.any_append]; simp
theorem blockN_mono {l : List CallT} {left i : Nat} {x : CallT} {n m : Nat} (hnm : n ≤ m) (h : blockN l left i x n = true) : blockN l left i x m = true := by
  unfold blockN at h ⊢
  rw [List.any_eq_true] at h ⊢
  obtain ⟨j, hj, hh⟩ := h
  exact ⟨j, List.mem_range.2 (Nat.lt_of_lt_of_le (List.mem_range.1 hj) hnm), hh⟩

theorem goF_next {l : List CallT} {rec : Cont → Nat → Option (List Nat)} {c : Cont} {left i : Nat} (hi : i < l.length) (ht : tryF l rec c left i = none) : goF l rec c left (l.length - i) i = goF l rec c left (l.length - (i + 1)) (i + 1) := by
  rw [show l.length - i = (l.length - (i + 1)) + 1 by omega, goF, ht]
theorem goF_some {l : List CallT} {rec : Cont → Nat → Option (List Nat)} {c : Cont} {left i : Nat} {o : List Nat} (hi : i < l.length) (ht : tryF l rec c left i = some o) : goF l rec c left (l.length - i) i = some o := by
  rw [show l.length - i = (l.length - (i + 1)) + 1 by omega, goF, ht]
theorem tryF_bit {l : List CallT} {rec : Cont → Nat → Option (List Nat)} {c : Cont} {left i : Nat} (hb : left.testBit i = false) : tryF l rec c left i = none := by
  unfold tryF; split
  · rfl
  · simp [hb]
theorem tryF_block {l : List CallT} {rec : Cont → Nat → Option (List Nat)} {c : Cont} {left i : Nat} {x : CallT} (hx : l[i]? = some x) (hb : blockN l left i x l.length = true) : tryF l rec c left i = none := by
  unfold tryF; rw [hx]; simp [hb]
theorem tryF_tells {l : List CallT} {rec : Cont → Nat → Option (List Nat)} {c : Cont} {left i : Nat} {x : CallT} (hx : l[i]? = some x) (hb : tellsB c x = false) : tryF l rec c left i = none := by
  unfold tryF; rw [hx]; simp [hb]
theorem tryF_rec {l : List CallT} {rec : Cont → Nat → Option (List Nat)} {c : Cont} {left i : Nat} {x : CallT} (hx : l[i]? = some x) (h1 : left.testBit i = true) (h2 : blockN l left i x l.length = false) (h3 : tellsB c x = true) : tryF l rec c left i = (rec (does c x.op).1 (clr left i)).map (i :: ·) := by
  unfold tryF; rw [hx]; simp [h1, h2, h3]

/-! ### The row of places -/
abbrev seekFn : Dt := .fn (.func 35) [] [.ptr 1 0, .ptr 2 0, .ptr 3 0]
def nats (xs : List Nat) : List Int := xs.map Int.ofNat
theorem nats_len (xs : List Nat) : (nats xs).length = xs.length := by simp [nats]
theorem nats_snoc (xs : List Nat) (i : Nat) : pInts (nats (xs ++ [i])) = pInts (nats xs) ++ [pI i] := by simp [nats, pInts]
/-- What the variable order has, and the row over which it lies. -/
inductive RowF : List Nat → Dt → List (Nat × List Dt) → Prop where
  | nil : RowF [] (.p (.sl true 0 [])) [(3, [seekFn])]
  | arr (xs : List Nat) (n c : Nat) (cs : List Dt) (hn : n = xs.length) (hl : cs.length = c) (hnc : n ≤ c) (hcm : c ≤ maxLen) (htk : cs.take n = (pInts (nats xs)).map Dt.p) (hpl : PlainC cs) : RowF xs (.arr 9 0 n c) [(9, cs)]

theorem RowF.open {xs : List Nat} {d : Dt} {rb : List (Nat × List Dt)} (h : RowF xs d rb) : (xs = [] ∧ d = .p (.sl true 0 []) ∧ rb = [(3, [seekFn])]) ∨ ∃ c cs, d = .arr 9 0 xs.length c ∧ rb = [(9, cs)] ∧ cs.length = c ∧ xs.length ≤ c ∧ c ≤ maxLen ∧ cs.take xs.length = (pInts (nats xs)).map Dt.p ∧ PlainC cs := by
  cases h with
  | nil => exact .inl ⟨rfl, rfl, rfl⟩
  | arr =>
    rename_i n c cs hl hnc hcm hpl hn htk
    subst hn
    exact .inr ⟨c, cs, rfl, rfl, hl, hnc, hcm, htk, hpl⟩

/-- The same, but that there is a row. -/
def RowA (xs : List Nat) (d : Dt) (rb : List (Nat × List Dt)) : Prop := RowF xs d rb ∧ ∃ c cs, d = .arr 9 0 xs.length c ∧ rb = [(9, cs)] ∧ cs.length = c ∧ xs.length ≤ c ∧ c ≤ maxLen ∧ cs.take xs.length = (pInts (nats xs)).map Dt.p ∧ PlainC cs
theorem RowF.rowA {xs : List Nat} {c : Nat} {rb : List (Nat × List Dt)} (h : RowF xs (.arr 9 0 xs.length c) rb) : RowA xs (.arr 9 0 xs.length c) rb := by
  refine ⟨h, ?_⟩
  rcases h.open with ⟨_, h, _⟩ | h
  · cases h
  · exact h

theorem rowA_of {xs : List Nat} {i n c : Nat} {cs : List Dt} (hn : n = xs.length + 1) (hl : cs.length = c) (hnc : n ≤ c) (hcm : c ≤ maxLen) (htk : cs.take n = (pInts (nats xs) ++ [pI i]).map Dt.p) (hpl : PlainC cs) : RowA (xs ++ [i]) (.arr 9 0 n c) [(9, cs)] := by
  have h : (xs ++ [i]).length = n := by simp [hn]
  rw [← nats_snoc] at htk
  exact ⟨.arr _ _ _ _ h.symm hl hnc hcm htk hpl, c, cs, by rw [h], rfl, hl, by omega, hcm, by rw [h]; exact htk, hpl⟩

theorem take_less {cs : List Dt} {xs : List Nat} {i : Nat} (h : cs.take (xs.length + 1) = (pInts (nats (xs ++ [i]))).map Dt.p) : cs.take xs.length = (pInts (nats xs)).map Dt.p := by
  have h1 : cs.take xs.length = (cs.take (xs.length + 1)).take xs.length := by rw [List.take_take]; congr 1; omega
  rw [h1, h, nats_snoc, List.map_append, List.take_append_of_le_length (by simp [pInts, nats]), List.take_of_length_le (by simp [pInts, nats])]
theorem seekF_zero (l : List CallT) (n : Nat) (c : Cont) : seekF l n c 0 = some [] := by cases n <;> rfl
theorem seekF_go {l : List CallT} {n : Nat} {c : Cont} {left : Nat} (h : left ≠ 0) : seekF l (n + 1) c left = goF l (seekF l n) c left l.length 0 := by rw [seekF, if_neg h]

abbrev seekBs (l : List CallT) (d : Dt) (rb : List (Nat × List Dt)) : List (Nat × List Dt) := (1, [dCalls l]) :: (2, [d]) :: (3, [seekFn]) :: rb
def SeekR (l : List CallT) (xs : List Nat) (r : Option (List Nat)) (d : Dt) (bs : List (Nat × List Dt)) : Prop := d = dB r.isSome ∧ ∃ d' rb', RowF (xs ++ r.getD []) d' rb' ∧ bs = seekBs l d' rb'
end Go.Proofs.Ytknancnmdpdefaa
