/- A short row of pairs is sorted by their first numbers: its walk. -/
import Derived.Test.YtkkldicehapklaaGreatEA
import Derived.Test.YtkkldicehapklaaGreatPF
namespace Go.Proofs.YtkkldicehapklaaGreat
open Go.RowKit
set_option maxRecDepth 100000
theorem awp_viaO {ι : Type} {P : Program} {Γ : Ctx} {Q : Exit → St → Prop} {c : Code} {σ : St} (x : Exit) (τ : ι → St) (ok : ι → Prop) (h : AWP P Γ c (fun ex σ' => ex = x ∧ ∃ i, ok i ∧ Ghost Γ σ' (τ i)) σ) (k : ∀ σ' i, ok i → Ghost Γ σ' (τ i) → Q x σ') : AWP P Γ c Q σ :=
 jL1 h fun ex σ' hh => by
  obtain ⟨rfl, i, hi, hg⟩ := hh
  exact k σ' i hi hg
section
variable {P : Program} {T : Nat → Option TI} {n : Nat} {B B0 : List (Nat × List Dt)} {K : St → Prop} {D : List Nat} {L : List (Nat × Nat)} {ix : Nat} {o : Oper} {l0 l : List Oper} {s : List (Nat × Dt)} {b : List (Nat × List Dt)} {g : List (Nat × Gr)} {t nm : Nat} {d : Dt}
theorem r_eb (hq : QStep P o (kv s) (kv B0) d none) (hg : gd l0 o (kv s) = some true) (hd : o.dst = some t) (he : kC0 l0 o = true) (h : QRun P n l0 B B0 K (ix + 1) D L l ⟨(t, d) :: s, b, g⟩) : QRun P n l0 B B0 K ix D L (o :: l) ⟨s, b, g⟩ :=
 .inl ⟨d, none, hg, .inr ⟨he, hq⟩, fun p hp => (by cases hp), by rw [hd]; exact h⟩
theorem storeK_eq {cs cs' ds : List Dt} {of : Nat} (h : of + ds.length ≤ cs.length) (hcs : wC cs of ds = cs') : jI7 cs of (.agg ds) some = some cs' := by
 subst hcs
 have h1 : ∀ (k : List Dt → Option (List Dt)), jE3 of cs k = k (cs.take of) := fun k => by
  have := kA3 (cs.take of) (cs.drop of) k
  rw [List.take_append_drop, List.length_take, Nat.min_eq_left (by omega)] at this
  exact this
 unfold jI7
 rw [jA4, h1, jQ6 of cs _ (by omega), jQ6 _ _ _ (by rw [List.length_drop]; show ds.length ≤ _; omega), wQ, wQ, List.drop_drop]
 unfold wC
 rw [List.append_assoc]
 rfl
end
def UpE (S : jX) : Prop := S.Pairwise fun x y => x.1 ≤ y.1
abbrev uW (S : jX) (rest : List Dt) : List Dt := S.flatMap (fun x => [dI x.1, dI x.2]) ++ rest
theorem kH4 (S : jX) (rest : List Dt) : (uW S rest).length = S.length * 2 + rest.length := by
 induction S with
 | nil => simp [uW]
 | cons y S ih =>
  show (uW S rest).length + 2 = _
  rw [ih, List.length_cons]
  omega
theorem rowD_at {S : jX} {i : Nat} {x : Int × Int} (h : S[i]? = some x) (rest : List Dt) : ∃ r, (uW S rest).drop (i * 2) = [dI x.1, dI x.2] ++ r := by
 induction S generalizing i with
 | nil => simp at h
 | cons y S ih =>
  cases i with
  | zero => simp at h; subst h; exact ⟨_, rfl⟩
  | succ i =>
   obtain ⟨r, hr⟩ := ih (i := i) (by simpa using h)
   refine ⟨r, ?_⟩
   rw [← hr, show (i + 1) * 2 = i * 2 + 2 by omega]
   rfl
theorem rowD_set {S : jX} {i : Nat} (x : Int × Int) (h : i < S.length) (rest : List Dt) : wC (uW S rest) (i * 2) [dI x.1, dI x.2] = uW (S.set i x) rest := by
 induction S generalizing i with
 | nil => simp at h
 | cons y S ih =>
  cases i with
  | zero => rfl
  | succ i =>
   have := ih (i := i) (by simpa using h)
   rw [List.set_cons_succ]
   show _ = dI y.1 :: dI y.2 :: uW (S.set i x) rest
   rw [← this, show (i + 1) * 2 = i * 2 + 2 by omega]
   rfl
theorem jO5 {S : jX} {rest : List Dt} (h : PlainC rest) : PlainC (uW S rest) := by
 intro B G
 induction S with
 | nil => exact h B G
 | cons y S ih => exact ih
theorem swap_set (A B : jX) (x y : Int × Int) : ((A ++ y :: x :: B).set (A.length + 1) y).set A.length x = A ++ x :: y :: B := by
 rw [List.set_append_right _ _ (by omega), show A.length + 1 - A.length = 1 by omega, List.set_append_right _ _ (by omega), Nat.sub_self]
 rfl
theorem upE_ins {A B : jX} {x : Int × Int} (h : UpE (A ++ B)) (ha : ∀ y ∈ A, y.1 ≤ x.1) (hb : ∀ y ∈ B, x.1 ≤ y.1) : UpE (A ++ x :: B) := by
 have h1 := List.pairwise_append.1 h
 refine List.pairwise_append.2 ⟨h1.1, List.pairwise_cons.2 ⟨hb, h1.2.1⟩, fun y hy z hz => ?_⟩
 rcases List.mem_cons.1 hz with rfl | hz
 ·exact ha y hy
 ·exact h1.2.2 y hy z hz
theorem upE_all {A : jX} {y : Int × Int} {v : Int} (h : UpE (A ++ [y])) (hy : y.1 ≤ v) : ∀ z ∈ A ++ [y], z.1 ≤ v := by
 intro z hz
 rcases List.mem_append.1 hz with hz | hz
 ·have := (List.pairwise_append.1 h).2.2 z hz y (by simp)
  omega
 ·have : z = y := by simpa using hz
  subst this; exact hy
theorem kK7 : ∀ {S T : jX}, UpE S → UpP T → S.Perm T → S = T
 | [], T, _, _, hp => (List.nil_perm.1 hp).symm
 | x :: S, [], _, _, hp => absurd (List.perm_nil.1 hp) (by simp)
 | x :: S, y :: T, hS, hT, hp => by
  have h1 := List.pairwise_cons.1 hS
  have h2 := List.pairwise_cons.1 hT
  have e : x = y := by
   rcases List.mem_cons.1 (hp.mem_iff.1 (show x ∈ x :: S by simp)) with e | hx
   ·exact e
   ·rcases List.mem_cons.1 (hp.mem_iff.2 (show y ∈ y :: T by simp)) with e | hy
    ·exact e.symm
    ·have := h1.1 y hy; have := h2.1 x hx; omega
  subst e
  rw [kK7 h1.2 h2.2 hp.cons_inv]
theorem isNaN_c (x : Int) : kA Tryz.prog 67 [dI x] (dB false) := by
 refine jO jB Tryz.func67 rfl Tryz.ntmps67 rfl rfl rfl fun w cl => ?_
 refine go ?_
 first | refine jF rfl ?_ | refine jC rfl ?_
 simp
abbrev fnC : Dt := .fn (.func 31) [] []
abbrev cmpF (x y : Int) : Int := if x < y then -1 else if y < x then 1 else 0
theorem compare_c (x y : Int) : kA Tryz.prog 32 [dI x, dI y] (dI (cmpF x y)) := by
 unfold cmpF
 refine jO jB Tryz.func32 rfl Tryz.ntmps32 rfl rfl rfl fun w cl => ?_
 refine go ?_
 refine a_q (jA (isNaN_c x) rfl (fun a w => Tryz.call67 a w) rfl) rfl rfl rfl ?_
 refine go ?_
 refine a_q (jA (isNaN_c y) rfl (fun a w => Tryz.call67 a w) rfl) rfl rfl rfl ?_
 refine go ?_
 by_cases h1 : x < y
 ·rw [show decide (x < y) = true from decide_eq_true h1, if_pos h1]
  refine go ?_
  first | refine jF rfl ?_ | refine jC rfl ?_
  rfl
 ·rw [show decide (x < y) = false from decide_eq_false h1, if_neg h1]
  refine go ?_
  by_cases h2 : y < x
  ·rw [show decide (x > y) = true from decide_eq_true h2, if_pos h2]
   refine go ?_
   first | refine jF rfl ?_ | refine jC rfl ?_
   rfl
  ·rw [show decide (x > y) = false from decide_eq_false h2, if_neg h2]
   refine go ?_
   first | refine jF rfl ?_ | refine jC rfl ?_
   rfl
theorem cmp1_c (x y : Int × Int) : kA Tryz.prog 31 [.agg [dI x.1, dI x.2], .agg [dI y.1, dI y.2]] (dI (cmpF x.1 y.1)) := by
 refine jO jB Tryz.func31 rfl Tryz.ntmps31 rfl rfl rfl fun w cl => ?_
 refine go ?_
 refine a_q (jZ jB rfl rfl rfl rfl rfl (by omega) (by omega)) rfl rfl rfl ?_
 refine go ?_
 refine a_q (jZ jB rfl rfl rfl rfl rfl (by omega) (by omega)) rfl rfl rfl ?_
 refine go ?_
 refine a_q (jA (compare_c x.1 y.1) rfl (fun a w => Tryz.call32 a w) rfl) rfl rfl rfl ?_
 refine go ?_
 first | refine jF rfl ?_ | refine jC rfl ?_
 rfl
theorem cmp_lt (x y : Int) : decide (cmpF x y < 0) = decide (x < y) := by
 unfold cmpF
 split
 ·rename_i h; rw [show decide (x < y) = true from decide_eq_true h]; rfl
 ·rename_i h
  rw [show decide (x < y) = false from decide_eq_false h]
  split <;> rfl
abbrev rowA (n c : Nat) : Dt := .arr 20 0 n c
set_option maxHeartbeats 8000000 in
theorem ins_i (S0 : jX) (rest : List Dt) (hp : PlainC rest) (n c : Nat) (hn : S0.length = n) (hc : n ≤ 1000) : ImpC Tryz.prog 89 [20] [rowA n c, dI 0, dI n, fnC] [(20, uW S0 rest)] (fun d bs => d = .tup [] ∧ ∃ S, S.Perm S0 ∧ UpE S ∧ bs = [(20, uW S rest)]) := by
 have hpl : ∀ {S : jX} (B G : Nat → Bool), Dt.ok.oks B G (uW S rest) = true := fun B G => jO5 hp B G
 refine vV jB Tryz.func89 rfl Tryz.ntmps89 rfl rfl rfl (by (repeat (first | exact trivial | refine ⟨rfl, ?_⟩))) fun w cl own kf => ?_
 refine go ?_
 refine jP (fun p : Nat × jX => 1 ≤ p.1 ∧ (p.1 ≤ n ∨ (n = 0 ∧ p.1 = 1)) ∧ p.2.Perm S0 ∧ UpE (p.2.take p.1)) (fun p => ⟨[(8, dI p.1), (3, fnC), (2, dI n), (1, dI 0), (0, rowA n c)], [(20, uW p.2 rest)], []⟩) (fun p => n - p.1) (1, S0) ⟨Nat.le_refl _, ?_, .refl _, ?_⟩ (kX (by (repeat (first | exact trivial | refine ⟨⟨rfl, rfl⟩, ?_⟩))) (by (repeat (first | exact trivial | refine ⟨⟨rfl, rfl⟩, ?_⟩ | refine ⟨⟨rfl, hpl _ _⟩, ?_⟩))) (by (repeat (first | exact trivial | refine ⟨rfl, ?_⟩))) (by (repeat (first | exact trivial | refine ⟨rfl, ?_⟩)))) ?_
 ·show 1 ≤ n ∨ _
  rcases Nat.eq_zero_or_pos n with h | h
  ·exact .inr ⟨h, rfl⟩
  ·exact .inl h
 ·show UpE (S0.take 1)
  cases S0 with
  | nil => exact List.Pairwise.nil
  | cons x S => exact List.pairwise_singleton _ _
 rintro ⟨i, S⟩ ⟨hi1, hi, hS, hU⟩
 simp only at hi1 hi hS hU
 refine (show AWP _ _ _ _ ⟨[(8, dI i), (3, fnC), (2, dI n), (1, dI 0), (0, rowA n c)], [(20, uW S rest)], []⟩ from ?_)
 refine go ?_
 refine xQ (fun h1 => ?_) (fun h1 => ?_) <;> try rw [h1]
 ·have h1' := of_decide_eq_true h1
  obtain ⟨x, hx⟩ : ∃ x, S[i]? = some x := ⟨S[i]'(by have := hS.length_eq; omega), List.getElem?_eq_getElem _⟩
  have hS' : S = S.take i ++ x :: S.drop (i + 1) := by
   obtain ⟨q1, q2⟩ := List.getElem?_eq_some_iff.1 hx
   rw [← q2, ← List.drop_eq_getElem_cons q1, List.take_append_drop]
  have htl : (S.take i).length = i := by rw [List.length_take]; have := hS.length_eq; omega
  generalize S.take i = A0 at *
  generalize S.drop (i + 1) = C0 at *
  subst hS'
  subst htl
  have hSl := hS.length_eq
  simp only [List.length_append, List.length_cons] at hSl
  refine go ?_
  refine awp_viaO (ι := jX) (.exit 2) (fun S => ⟨[(8, dI A0.length), (3, fnC), (2, dI n), (1, dI 0), (0, rowA n c)], [(20, uW S rest)], []⟩) (fun S => S.Perm S0 ∧ UpE (S.take (A0.length + 1))) ?_ ?_
  ·refine jP (fun p : jX × jX => A0 = p.1 ++ p.2 ∧ ∀ y ∈ p.2, x.1 < y.1) (fun p => ⟨[(9, dI p.1.length), (8, dI A0.length), (3, fnC), (2, dI n), (1, dI 0), (0, rowA n c)], [(20, uW (p.1 ++ x :: (p.2 ++ C0)) rest)], []⟩) (fun p => p.1.length) (A0, []) ⟨(List.append_nil _).symm, fun y hy => by cases hy⟩ (kX (by (repeat (first | exact trivial | refine ⟨⟨rfl, rfl⟩, ?_⟩))) (by (repeat (first | exact trivial | refine ⟨⟨rfl, rfl⟩, ?_⟩ | refine ⟨⟨rfl, hpl _ _⟩, ?_⟩))) (by (repeat (first | exact trivial | refine ⟨rfl, ?_⟩))) (by (repeat (first | exact trivial | refine ⟨rfl, ?_⟩)))) ?_
   rintro ⟨A, B⟩ ⟨hA, hB⟩
   simp only at hA hB
   refine (show AWP _ _ _ _ ⟨[(9, dI A.length), (8, dI A0.length), (3, fnC), (2, dI n), (1, dI 0), (0, rowA n c)], [(20, uW (A ++ x :: (B ++ C0)) rest)], []⟩ from ?_)
   have hdone : (∀ y ∈ A, y.1 ≤ x.1) → (A ++ x :: (B ++ C0)).Perm S0 ∧ UpE ((A ++ x :: (B ++ C0)).take (A0.length + 1)) := fun hle => by
    subst hA
    refine ⟨List.Perm.trans ?_ hS, ?_⟩
    ·rw [List.append_assoc]
     exact List.Perm.append_left A (List.perm_middle.symm)
    ·rw [show A ++ x :: (B ++ C0) = (A ++ x :: B) ++ C0 by simp, List.take_append_of_le_length (by simp; omega), List.take_of_length_le (by simp; omega)]
     exact upE_ins hU hle fun y hy => by have := hB y hy; omega
   rcases List.eq_nil_or_concat A with rfl | ⟨A', y, rfl⟩
   ·refine go ?_
    refine jY [] rfl (by kernel_rfl) (by kernel_rfl) ?_
    refine goQ ?_
    refine go ?_
    exact ⟨rfl, _, hdone (fun y hy => by cases hy), kX (by (repeat (first | exact trivial | refine ⟨⟨rfl, rfl⟩, ?_⟩))) (by (repeat (first | exact trivial | refine ⟨⟨rfl, rfl⟩, ?_⟩ | refine ⟨⟨rfl, hpl _ _⟩, ?_⟩))) (by (repeat (first | exact trivial | refine ⟨rfl, ?_⟩))) (by (repeat (first | exact trivial | refine ⟨rfl, ?_⟩)))⟩
   ·simp only [List.concat_eq_append] at *
    have hl2 : (A' ++ [y]).length = A'.length + 1 := by simp
    have hl3 : A'.length + 1 ≤ A0.length := by rw [hA]; simp
    have hx1 : ((A' ++ [y]) ++ x :: (B ++ C0))[A'.length + 1]? = some x := by rw [List.getElem?_append_right (by simp)]; simp
    have hx2 : ((A' ++ [y]) ++ x :: (B ++ C0))[A'.length]? = some y := by simp
    obtain ⟨r1, hr1⟩ := rowD_at hx1 rest
    obtain ⟨r2, hr2⟩ := rowD_at hx2 rest
    have hrl := kH4 ((A' ++ [y]) ++ x :: (B ++ C0)) rest
    have hcl : ((A' ++ [y]) ++ x :: (B ++ C0)).length = n := by rw [hA] at hSl; simp at hSl ⊢; omega
    have hsw : (((A' ++ [y]) ++ x :: (B ++ C0)).set (A'.length + 1) y).set A'.length x = A' ++ x :: y :: (B ++ C0) := by
     rw [show (A' ++ [y]) ++ x :: (B ++ C0) = A' ++ y :: x :: (B ++ C0) by simp]
     exact swap_set A' (B ++ C0) x y
    have hsw1 := rowD_set (S := (A' ++ [y]) ++ x :: (B ++ C0)) (i := A'.length + 1) y (by omega) rest
    have hsw2 := rowD_set (S := ((A' ++ [y]) ++ x :: (B ++ C0)).set (A'.length + 1) y) (i := A'.length) x (by rw [List.length_set]; omega) rest
    rw [hsw] at hsw2
    clear hsw
    have hrl2 := kH4 (((A' ++ [y]) ++ x :: (B ++ C0)).set (A'.length + 1) y) rest
    rw [List.length_set] at hrl2
    have hcmp := cmp1_c x y
    have hlt := cmp_lt x.1 y.1
    generalize cmpF x.1 y.1 = cv at hcmp hlt
    generalize hS1 : (A' ++ [y]) ++ x :: (B ++ C0) = S1 at *
    generalize hR1 : uW S1 rest = R1 at *
    generalize hR2 : uW (S1.set (A'.length + 1) y) rest = R2 at *
    rw [hl2]
    refine go ?_
    refine jY [] rfl (by kernel_rfl) (by kernel_rfl) ?_
    refine goQ ?_
    rw [show decide ((0 : Int) < ((A'.length + 1 : Nat) : Int)) = true by rw [decide_eq_true_eq]; omega]
    refine goQ ?_
    refine r_q (jJ (p := (A'.length + 1) * 2) jB rfl rfl rfl rfl rfl (by omega) (by omega) (by show (A'.length + 1) * 2 = ((A'.length + 1 : Nat) : Int).toNat * 2; omega)) rfl rfl ?_
    refine r_q (wZ jB [dI x.1, dI x.2] r1 rfl rfl rfl rfl rfl (by show (A'.length + 1) * 2 ≤ R1.length; omega) hr1 rfl) rfl rfl ?_
    refine goQ ?_
    refine r_q (jJ (p := A'.length * 2) jB rfl rfl rfl rfl rfl (by omega) (by omega) (by show A'.length * 2 = (((A'.length + 1 : Nat) : Int) - 1).toNat * 2; omega)) rfl rfl ?_
    refine r_q (wZ jB [dI y.1, dI y.2] r2 rfl rfl rfl rfl rfl (by show A'.length * 2 ≤ R1.length; omega) hr2 rfl) rfl rfl ?_
    refine goQ ?_
    refine r_q (kJ0 hcmp rfl (fun a w => Tryz.call31 a w) rfl rfl) rfl rfl ?_
    refine goQ ?_
    refine go ?_
    rw [hlt]
    by_cases h2 : x.1 < y.1
    ·rw [show decide (x.1 < y.1) = true from decide_eq_true h2]
     refine go ?_
     refine jY [20] rfl (by kernel_rfl) (by kernel_rfl) ?_
     refine goQ ?_
     refine r_q (jJ (p := A'.length * 2) jB rfl rfl rfl rfl rfl (by omega) (by omega) (by show A'.length * 2 = (((A'.length + 1 : Nat) : Int) - 1).toNat * 2; omega)) rfl rfl ?_
     refine r_eb (wZ jB [dI y.1, dI y.2] r2 rfl rfl rfl rfl rfl (by show A'.length * 2 ≤ R1.length; omega) hr2 rfl) rfl rfl (by kernel_rfl) ?_
     refine goQ ?_
     refine r_q (jJ (p := (A'.length + 1) * 2) jB rfl rfl rfl rfl rfl (by omega) (by omega) (by show (A'.length + 1) * 2 = ((A'.length + 1 : Nat) : Int).toNat * 2; omega)) rfl rfl ?_
     refine r_eb (wZ jB [dI x.1, dI x.2] r1 rfl rfl rfl rfl rfl (by show (A'.length + 1) * 2 ≤ R1.length; omega) hr1 rfl) rfl rfl (by kernel_rfl) ?_
     refine r_q (jJ (p := (A'.length + 1) * 2) jB rfl rfl rfl rfl rfl (by omega) (by omega) (by show (A'.length + 1) * 2 = ((A'.length + 1 : Nat) : Int).toNat * 2; omega)) rfl rfl ?_
     refine kF8 (cs' := R2) jB rfl rfl rfl rfl rfl rfl rfl rfl (storeK_eq (by show (A'.length + 1) * 2 + 2 ≤ R1.length; omega) hsw1) rfl rfl (.inl rfl) ?_
     refine r_q (jJ (p := A'.length * 2) jB rfl rfl rfl rfl rfl (by omega) (by omega) (by show A'.length * 2 = (((A'.length + 1 : Nat) : Int) - 1).toNat * 2; omega)) rfl rfl ?_
     refine kF8 (cs' := uW (A' ++ x :: y :: (B ++ C0)) rest) jB rfl rfl rfl rfl rfl rfl rfl rfl (storeK_eq (by show A'.length * 2 + 2 ≤ R2.length; omega) hsw2) rfl rfl (.inr (by kernel_rfl)) ?_
     refine goQ ?_
     refine go ?_
     refine ⟨(A', y :: B), ⟨by simp only; rw [hA]; simp, fun z hz => ?_⟩, by simp only; omega, ?_⟩
     ·rcases List.mem_cons.1 hz with rfl | hz
      ·exact h2
      ·exact hB z hz
     ·show Ghost _ _ ⟨[(9, dI A'.length), (8, dI A0.length), (3, fnC), (2, dI n), (1, dI 0), (0, rowA n c)], [(20, uW (A' ++ x :: (y :: B ++ C0)) rest)], []⟩
      rw [show (A'.length : Int) = ((A'.length + 1 : Nat) : Int) - 1 by omega]
      exact kX (by (repeat (first | exact trivial | refine ⟨⟨rfl, rfl⟩, ?_⟩))) (by (repeat (first | exact trivial | refine ⟨⟨rfl, rfl⟩, ?_⟩ | refine ⟨⟨rfl, hpl _ _⟩, ?_⟩))) (by (repeat (first | exact trivial | refine ⟨rfl, ?_⟩))) (by (repeat (first | exact trivial | refine ⟨rfl, ?_⟩)))
    ·rw [show decide (x.1 < y.1) = false from decide_eq_false h2]
     refine go ?_
     rw [← hR1]
     exact ⟨rfl, _, hdone (by rw [hA] at hU; exact upE_all (List.pairwise_append.1 hU).1 (by omega)), kX (by (repeat (first | exact trivial | refine ⟨⟨rfl, rfl⟩, ?_⟩))) (by (repeat (first | exact trivial | refine ⟨⟨rfl, rfl⟩, ?_⟩ | refine ⟨⟨rfl, hpl _ _⟩, ?_⟩))) (by (repeat (first | exact trivial | refine ⟨rfl, ?_⟩))) (by (repeat (first | exact trivial | refine ⟨rfl, ?_⟩)))⟩
  rintro σ' S ⟨hSp, hSu⟩ hgh
  refine zR (zP (zM (kP hgh ?_)))
  clear hgh
  refine go ?_
  exact ⟨(A0.length + 1, S), ⟨by simp only; omega, by simp only; omega, hSp, hSu⟩, by simp only; omega, kX (by (repeat (first | exact trivial | refine ⟨⟨rfl, rfl⟩, ?_⟩))) (by (repeat (first | exact trivial | refine ⟨⟨rfl, rfl⟩, ?_⟩ | refine ⟨⟨rfl, hpl _ _⟩, ?_⟩))) (by (repeat (first | exact trivial | refine ⟨rfl, ?_⟩))) (by (repeat (first | exact trivial | refine ⟨rfl, ?_⟩)))⟩
 ·have h1' := of_decide_eq_false h1
  refine go ?_
  refine qD (d := .tup []) [(20, uW S rest)] ?_ rfl ⟨⟨rfl, hpl _ _⟩, trivial⟩ ⟨rfl, trivial⟩ ⟨rfl, S, hS, ?_, rfl⟩
  ·rfl
  ·rw [List.take_of_length_le (by have := hS.length_eq; omega)] at hU
   exact hU
set_option maxHeartbeats 4000000 in
theorem stable_i (S0 : jX) (rest : List Dt) (hp : PlainC rest) (n c : Nat) (hn : S0.length = n) (hc : n ≤ 19) : ImpC Tryz.prog 66 [20] [rowA n c, dI n, fnC] [(20, uW S0 rest)] (fun d bs => d = .tup [] ∧ ∃ S, S.Perm S0 ∧ UpE S ∧ bs = [(20, uW S rest)]) := by
 have hpl : ∀ {S : jX} (B G : Nat → Bool), Dt.ok.oks B G (uW S rest) = true := fun B G => jO5 hp B G
 have hI := ins_i S0 rest hp n c hn (by omega)
 refine vV jB Tryz.func66 rfl Tryz.ntmps66 rfl rfl rfl (by (repeat (first | exact trivial | refine ⟨rfl, ?_⟩))) fun w cl own kf => ?_
 refine go ?_
 refine jP (fun _ : Unit => True) (fun _ => ⟨[(8, dI 20), (7, dI 0), (6, dI 20), (0, rowA n c), (1, dI n), (2, fnC)], [(20, uW S0 rest)], []⟩) (fun _ => 0) () trivial (kX (by (repeat (first | exact trivial | refine ⟨⟨rfl, rfl⟩, ?_⟩))) (by (repeat (first | exact trivial | refine ⟨⟨rfl, rfl⟩, ?_⟩ | refine ⟨⟨rfl, hpl _ _⟩, ?_⟩))) (by (repeat (first | exact trivial | refine ⟨rfl, ?_⟩))) (by (repeat (first | exact trivial | refine ⟨rfl, ?_⟩)))) ?_
 intro _ _
 refine go ?_
 rw [show decide ((20 : Int) ≤ n) = false by rw [decide_eq_false_iff_not]; omega]
 refine go ?_
 refine yX hI rfl (fun a w => Tryz.call89 a w) rfl rfl ⟨⟨rfl, hpl _ _⟩, trivial⟩ (by (repeat (first | exact trivial | refine ⟨.inr rfl, ?_⟩ | refine ⟨.inl rfl, ?_⟩))) rfl rfl rfl rfl ?_ ?_
 ·rintro d bs ⟨rfl, S, _, _, rfl⟩; exact ⟨.inl rfl, trivial⟩
 rintro d bs ⟨rfl, S, hS, hU, rfl⟩
 refine go ?_
 refine jP (fun _ : Unit => True) (fun _ => ⟨[(6, dI 20), (1, dI n)], [(20, uW S rest)], []⟩) (fun _ => 0) () trivial (kX (by (repeat (first | exact trivial | refine ⟨⟨rfl, rfl⟩, ?_⟩))) (by (repeat (first | exact trivial | refine ⟨⟨rfl, rfl⟩, ?_⟩ | refine ⟨⟨rfl, hpl _ _⟩, ?_⟩))) (by (repeat (first | exact trivial | refine ⟨rfl, ?_⟩))) (by (repeat (first | exact trivial | refine ⟨rfl, ?_⟩)))) ?_
 intro _ _
 refine go ?_
 rw [show decide ((20 : Int) < n) = false by rw [decide_eq_false_iff_not]; omega]
 refine go ?_
 refine qD (d := .tup []) [(20, uW S rest)] ?_ rfl ⟨⟨rfl, hpl _ _⟩, trivial⟩ ⟨rfl, trivial⟩ ⟨rfl, S, hS, hU, rfl⟩
 rfl
theorem sort_i (S0 : jX) (rest : List Dt) (hp : PlainC rest) (n c : Nat) (hn : S0.length = n) (hc : n ≤ 19) : ImpC Tryz.prog 30 [20] [rowA n c, fnC] [(20, uW S0 rest)] (fun d bs => d = .tup [] ∧ ∃ S, S.Perm S0 ∧ UpE S ∧ bs = [(20, uW S rest)]) := by
 have hpl : ∀ {S : jX} (B G : Nat → Bool), Dt.ok.oks B G (uW S rest) = true := fun B G => jO5 hp B G
 have hI := stable_i S0 rest hp n c hn hc
 refine vV jB Tryz.func30 rfl Tryz.ntmps30 rfl rfl rfl (by (repeat (first | exact trivial | refine ⟨rfl, ?_⟩))) fun w cl own kf => ?_
 refine go ?_
 refine yX hI rfl (fun a w => Tryz.call66 a w) rfl rfl ⟨⟨rfl, hpl _ _⟩, trivial⟩ (by (repeat (first | exact trivial | refine ⟨.inr rfl, ?_⟩ | refine ⟨.inl rfl, ?_⟩))) rfl rfl rfl rfl ?_ ?_
 ·rintro d bs ⟨rfl, S, _, _, rfl⟩; exact ⟨.inl rfl, trivial⟩
 rintro d bs ⟨rfl, S, hS, hU, rfl⟩
 refine go ?_
 refine qD (d := .tup []) [(20, uW S rest)] ?_ rfl ⟨⟨rfl, hpl _ _⟩, trivial⟩ ⟨rfl, trivial⟩ ⟨rfl, S, hS, hU, rfl⟩
 rfl
end Go.Proofs.YtkkldicehapklaaGreat
