/- What a map has: its walk. -/
import Derived.Test.YtkkldicehapklaaGreatC1
import Derived.Test.YtkkldicehapklaaGreatSO
import Derived.Test.YtkkldicehapklaaGreatAny
import Derived.Test.YtkkldicehapklaaGreatM9
namespace Go.Proofs.YtkkldicehapklaaGreat
open Go.RowKit
set_option maxRecDepth 100000
theorem oks_cons (B G : Nat → Bool) (x : Dt) (l : List Dt) : Dt.ok.oks B G (x :: l) = (x.ok B G && Dt.ok.oks B G l) := rfl
theorem PlainC.drop {cs : List Dt} (h : PlainC cs) : ∀ n, PlainC (cs.drop n) := by
 intro n B G
 have h1 := h B G
 clear h
 induction n generalizing cs with
 | zero => exact h1
 | succ n ih =>
  cases cs with
  | nil => exact h1
  | cons x cs =>
   rw [oks_cons, Bool.and_eq_true] at h1
   exact ih h1.2
theorem pGone_row (S : jX) : (vH S).map Dt.p = S.flatMap fun x => [dI x.1, dI x.2] := by
 induction S with
 | nil => rfl
 | cons x S ih =>
  show dI x.1 :: dI x.2 :: (vH S).map Dt.p = _
  rw [ih]
  rfl
theorem pGone_len2 (S : jX) : (vH S).length = S.length * 2 := by
 induction S with
 | nil => rfl
 | cons x S ih =>
  show (vH S).length + 2 = _
  rw [ih, List.length_cons]; omega
theorem pGone_cat (S : jX) (x : Int × Int) : vH S ++ [pI x.1, pI x.2] = vH (S ++ [x]) := by
 induction S with
 | nil => rfl
 | cons y S ih =>
  show pI y.1 :: pI y.2 :: (vH S ++ [pI x.1, pI x.2]) = _
  rw [ih]
  rfl
def RowB (T : jX) (d : Dt) (bx : Bxs) : Prop := (T = [] ∧ d = .p (.sl true 0 []) ∧ bx = []) ∨ ∃ c cs, d = .arr 20 0 T.length c ∧ bx = [(20, cs)] ∧ cs.length = c * 2 ∧ c ≤ maxLen ∧ T.length ≤ c ∧ 1 ≤ T.length ∧ cs.take (T.length * 2) = (vH T).map Dt.p ∧ PlainC cs
theorem pairsR_snoc (R : jX) (r : Int × Int) : wY (R ++ [r]) = wY R ++ (if r.1 % 2 = 1 then [(keyW r.1, r.2)] else []) := by
 unfold wY
 rw [List.filter_append, List.map_append]
 congr 1
 rw [List.filter_cons]
 by_cases h : r.1 % 2 = 1
 ·rw [if_pos (decide_eq_true h), if_pos h]; rfl
 ·rw [if_neg (by simpa using h), if_neg h]; rfl
abbrev cBx (l : jN) (m : List Int) : Bxs := [(3, [dI 1, .p (.sl true 0 []), .p (.sl true 0 [])]), (2, [dI 0, .p (.sl true 0 []), .p (.sl true 0 [])]), (1, [kK m]), (0, xL l)]
set_option maxHeartbeats 16000000 in
theorem content_c (l : jN) (hL : qJ l) (hM : jG3 l) (m : List Int) (bk hd : Int) (R : List (Int × Int)) (hb : qR l 0 0 = bk) (hb0 : 0 ≤ bk) (hb1 : bk < m.length) (hh : jQ l (ofW (atF m bk)).idx 0 = hd) (hR : rowF l m hd = R) (hRl : R.length ≤ 2000) (hPl : (wY R).length ≤ 19) (S : jX) (hS : UpP S) (hSp : S.Perm (wY R)) :
  kA Tryz.prog 16 [wO l, jM4 m, dI 0] (dMap S) := by
 have hBu := jY6 l hL hM 0 0
 rw [hb] at hBu
 have hRo := row_c l hL m hd
 rw [hR] at hRo
 have hx : m[bk.toNat]? = some (atF m bk) := by
  unfold atF
  rw [if_neg (by omega)]
  exact jG8 hb0 hb1
 have hNo := jD2 l hL (ofW (atF m bk)).idx 0 (by have := xT (atF m bk); omega) (by omega)
 rw [hh] at hNo
 refine jO jB Tryz.func16 rfl Tryz.ntmps16 rfl rfl rfl fun w cl => ?_
 refine go ?_
 refine a_q (jA (hBu) rfl (fun a w => Tryz.call25 a w) rfl) rfl rfl rfl ?_
 refine go ?_
 rw [show decide (bk < 0) = false by rw [decide_eq_false_iff_not]; omega]
 refine go ?_
 rw [show decide (bk ≥ m.length) = false by rw [decide_eq_false_iff_not]; omega]
 refine go ?_
 refine jY [] rfl (by kernel_rfl) (by kernel_rfl) ?_
 refine goQ ?_
 refine r_q (jG jB [pI (atF m bk)] rfl rfl rfl rfl rfl rfl (by first | omega | (simp; done) | (simp; omega)) (by first | omega | (simp; done) | (simp; omega)) (by first | (simp; done) | exact List.cons_ne_nil _ _) (qE hx)) rfl rfl ?_
 refine goQ ?_
 refine r_q (jA (of_c (atF m bk)) rfl (fun a w => Tryz.call28 a w) rfl) rfl rfl ?_
 refine goQ ?_
 refine r_q (jA (hNo) rfl (fun a w => Tryz.call27 a w) rfl) rfl rfl ?_
 refine goQ ?_
 refine r_q (jA (hRo) rfl (fun a w => Tryz.call26 a w) rfl) rfl rfl ?_
 refine goQ ?_
 refine go ?_
 refine kL5 (ι := Dt × Bxs) (.exit 0) (fun p => ⟨[(9, p.1), (7, .ptr 3 0), (6, .ptr 2 0)], p.2 ++ cBx l m, []⟩) (fun p => RowB (wY R) p.1 p.2) ?_ ?_
 ·refine jP (fun p : Nat × Dt × Bxs => p.1 ≤ R.length ∧ RowB (wY (R.take p.1)) p.2.1 p.2.2) (fun p => ⟨[(41, dI p.1), (40, dI R.length), (39, vG R), (9, p.2.1), (7, .ptr 3 0), (6, .ptr 2 0)], p.2.2 ++ cBx l m, []⟩) (fun p => R.length - p.1) (0, .p (.sl true 0 []), []) ⟨Nat.zero_le _, .inl ⟨rfl, rfl, rfl⟩⟩ (zX) ?_
  rintro ⟨i, d, bx⟩ ⟨hi, hRB⟩
  simp only at hi hRB
  refine (show AWP _ _ _ _ ⟨[(41, dI i), (40, dI R.length), (39, vG R), (9, d), (7, .ptr 3 0), (6, .ptr 2 0)], bx ++ cBx l m, []⟩ from ?_)
  refine go ?_
  refine xQ (fun h1 => ?_) (fun h1 => ?_) <;> try rw [h1]
  ·have h1' := of_decide_eq_true h1
   obtain ⟨r, hr⟩ := getI (l := R) (i := i) (by omega) h1'
   have hr' : R[i]? = some r := by simpa using hr
   have hsn := pairsR_snoc (R.take i) r
   rw [← jI3 hr'] at hsn
   have hle : (wY (R.take i)).length ≤ 2000 := by
    unfold wY
    rw [List.length_map]
    refine Nat.le_trans (List.length_filter_le _ _) ?_
    rw [List.length_take]; omega
   rcases hRB with ⟨hT, rfl, rfl⟩ | ⟨c, cs, rfl, rfl, k1, k2, k3, k0, k4, k5⟩
   ·rw [hT, List.nil_append] at hsn
    refine (show AWP _ _ _ _ ⟨_, cBx l m, []⟩ from ?_)
    refine go ?_
    refine a_q (jG jB [pI r.1, pI r.2] rfl rfl rfl rfl rfl rfl (by first | omega | (simp; done) | (simp; omega)) (by first | omega | (simp; done) | (simp; omega)) (by first | (simp; done) | exact List.cons_ne_nil _ _) (jZ4 hr)) rfl rfl rfl ?_
    refine go ?_
    refine a_q (jZ jB rfl rfl rfl rfl rfl (by omega) (by omega)) rfl rfl rfl ?_
    refine go ?_
    rw [and1]
    by_cases h2 : r.1 % 2 = 1
    ·rw [show decide (r.1 % 2 = 1) = true from decide_eq_true h2]
     rw [if_pos h2] at hsn
     refine go ?_
     refine jE 8 [] rfl rfl (by kernel_rfl) (by kernel_rfl) (by kernel_rfl) ?_
     refine goQ ?_
     refine r_q (jZ jB rfl rfl rfl rfl rfl (by omega) (by omega)) rfl rfl ?_
     refine goQ ?_
     refine r_q (jA (key_c r.1) rfl (fun a w => Tryz.call29 a w) rfl) rfl rfl ?_
     refine goQ ?_
     refine r_q (jZ jB rfl rfl rfl rfl rfl (by omega) (by omega)) rfl rfl ?_
     refine goQ ?_
     refine jI1 (sz := 2) jB 20 rfl rfl rfl rfl rfl rfl rfl rfl rfl rfl rfl rfl rfl rfl (by omega) rfl (by unfold maxLen; omega) (by show 1 * 16 ≤ _; omega) (fun cs' c' k1 k2 k3 k4 k5 => ?_)
     refine go ?_
     refine ⟨(i + 1, .arr 20 0 1 c', [(20, cs')]), ⟨by simp only; omega, .inr ⟨c', cs', by rw [hsn]; rfl, rfl, k1, k2, by rw [hsn]; exact k3, by rw [hsn]; exact Nat.le_refl _, by rw [hsn]; exact k4, k5⟩⟩, by simp only; omega, ?_⟩
     exact kX (by (repeat (first | exact trivial | refine ⟨⟨rfl, rfl⟩, ?_⟩))) (by (repeat (first | exact trivial | refine ⟨⟨rfl, rfl⟩, ?_⟩ | refine ⟨⟨rfl, k5 _ _⟩, ?_⟩))) (by (repeat (first | exact trivial | refine ⟨rfl, ?_⟩))) (by (repeat (first | exact trivial | refine ⟨rfl, ?_⟩)))
    ·rw [show decide (r.1 % 2 = 1) = false from decide_eq_false h2]
     rw [if_neg h2] at hsn
     refine go ?_
     exact ⟨(i + 1, .p (.sl true 0 []), []), ⟨by simp only; omega, .inl ⟨hsn, rfl, rfl⟩⟩, by simp only; omega, zX⟩
   ·generalize hTd : wY (R.take i) = T at *
    refine (show AWP _ _ _ _ ⟨_, (20, cs) :: cBx l m, []⟩ from ?_)
    refine go ?_
    refine a_q (jG jB [pI r.1, pI r.2] rfl rfl rfl rfl rfl rfl (by first | omega | (simp; done) | (simp; omega)) (by first | omega | (simp; done) | (simp; omega)) (by first | (simp; done) | exact List.cons_ne_nil _ _) (jZ4 hr)) rfl rfl rfl ?_
    refine go ?_
    refine a_q (jZ jB rfl rfl rfl rfl rfl (by omega) (by omega)) rfl rfl rfl ?_
    refine go ?_
    rw [and1]
    by_cases h2 : r.1 % 2 = 1
    ·rw [show decide (r.1 % 2 = 1) = true from decide_eq_true h2]
     rw [if_pos h2] at hsn
     refine go ?_
     refine jE 8 [] rfl rfl (by kernel_rfl) (by kernel_rfl) (by kernel_rfl) ?_
     refine goQ ?_
     refine r_q (jZ jB rfl rfl rfl rfl rfl (by omega) (by omega)) rfl rfl ?_
     refine goQ ?_
     refine r_q (jA (key_c r.1) rfl (fun a w => Tryz.call29 a w) rfl) rfl rfl ?_
     refine goQ ?_
     refine r_q (jZ jB rfl rfl rfl rfl rfl (by omega) (by omega)) rfl rfl ?_
     refine goQ ?_
     refine jK8 (sz := 2) jB (vH T) rfl rfl rfl rfl rfl rfl rfl rfl rfl rfl rfl rfl rfl rfl (jE9 rfl (wW rfl rfl (wW rfl rfl (jQ0 rfl rfl)))) k1 k3 (pGone_len2 T) k4 k2 (by omega) rfl (by unfold maxLen; omega) (by show (_ + 1) * 16 ≤ _; omega) (fun cs' c' q1 q2 q3 q4 q5 => ?_)
     refine go ?_
     refine ⟨(i + 1, .arr 20 0 (T.length + 1) c', [(20, cs')]), ⟨by simp only; omega, .inr ⟨c', cs', by rw [hsn, List.length_append]; rfl, rfl, q1, q2, by rw [hsn, List.length_append]; exact q3, by rw [hsn, List.length_append]; exact Nat.le_add_left _ _, by rw [hsn, List.length_append, ← pGone_cat]; exact q4, q5⟩⟩, by simp only; omega, ?_⟩
     exact kX (by (repeat (first | exact trivial | refine ⟨⟨rfl, rfl⟩, ?_⟩))) (by (repeat (first | exact trivial | refine ⟨⟨rfl, rfl⟩, ?_⟩ | refine ⟨⟨rfl, q5 _ _⟩, ?_⟩))) (by (repeat (first | exact trivial | refine ⟨rfl, ?_⟩))) (by (repeat (first | exact trivial | refine ⟨rfl, ?_⟩)))
    ·rw [show decide (r.1 % 2 = 1) = false from decide_eq_false h2]
     rw [if_neg h2, List.append_nil] at hsn
     refine go ?_
     exact ⟨(i + 1, .arr 20 0 T.length c, [(20, cs)]), ⟨by simp only; omega, .inr ⟨c, cs, by rw [hsn], rfl, k1, k2, by rw [hsn]; exact k3, by rw [hsn]; exact k0, by rw [hsn]; exact k4, k5⟩⟩, by simp only; omega, kX (by (repeat (first | exact trivial | refine ⟨⟨rfl, rfl⟩, ?_⟩))) (by (repeat (first | exact trivial | refine ⟨⟨rfl, rfl⟩, ?_⟩ | refine ⟨⟨rfl, k5 _ _⟩, ?_⟩))) (by (repeat (first | exact trivial | refine ⟨rfl, ?_⟩))) (by (repeat (first | exact trivial | refine ⟨rfl, ?_⟩)))⟩
  ·have h1' : i = R.length := by have := of_decide_eq_false h1; omega
   subst h1'
   rw [List.take_length] at hRB
   refine go ?_
   refine ⟨rfl, (d, bx), hRB, ?_⟩
   rcases hRB with ⟨hT, rfl, rfl⟩ | ⟨c, cs, rfl, rfl, k1, k2, k3, k0, k4, k5⟩
   ·exact zX
   ·exact kX (by (repeat (first | exact trivial | refine ⟨⟨rfl, rfl⟩, ?_⟩))) (by (repeat (first | exact trivial | refine ⟨⟨rfl, rfl⟩, ?_⟩ | refine ⟨⟨rfl, k5 _ _⟩, ?_⟩))) (by (repeat (first | exact trivial | refine ⟨rfl, ?_⟩))) (by (repeat (first | exact trivial | refine ⟨rfl, ?_⟩)))
 rintro σ' ⟨d, bx⟩ hRB hgh
 refine zR (zM (kP hgh ?_))
 clear hgh
 simp only at hRB
 generalize wY R = T at *
 have hSk : (qA S).length = S.length := List.length_map _
 have hSv : (qC S).length = S.length := List.length_map _
 rcases hRB with ⟨rfl, rfl, rfl⟩ | ⟨c, cs, rfl, rfl, k1, k2, k3, k0, k4, k5⟩
 ·obtain rfl : S = [] := List.perm_nil.1 hSp
  refine (show AWP _ _ _ _ ⟨_, cBx l m, []⟩ from ?_)
  refine go ?_
  refine yX (sort0_c) rfl (fun a w => Tryz.call30 a w) rfl rfl (by (repeat (first | exact trivial | refine ⟨⟨rfl, rfl⟩, ?_⟩))) (by (repeat (first | exact trivial | refine ⟨.inr rfl, ?_⟩ | refine ⟨.inl rfl, ?_⟩))) rfl rfl rfl rfl ?_ ?_
  ·rintro d bs ⟨rfl, rfl⟩; exact trivial
  rintro d bs ⟨rfl, rfl⟩
  refine go ?_
  refine jP (fun _ : Unit => True) (fun _ => ⟨[(63, dI 0), (62, dI 0), (61, .p (.sl true 0 [])), (7, .ptr 3 0), (6, .ptr 2 0)], cBx l m, []⟩) (fun _ => 0) () trivial (zX) ?_
  intro _ _
  refine go ?_
  rw [show decide ((0 : Int) < 0) = false from rfl]
  refine go ?_
  first | refine jF rfl ?_ | refine jC rfl ?_
  rfl
 ·have hcs : cs = uW T (cs.drop (T.length * 2)) := by
   rw [uW, ← pGone_row, ← k4, List.take_append_drop]
  have hpr : PlainC (cs.drop (T.length * 2)) := k5.drop _
  have hso := sort_i T (cs.drop (T.length * 2)) hpr T.length c rfl hPl
  rw [← hcs] at hso
  generalize cs.drop (T.length * 2) = rest at *
  refine (show AWP _ _ _ _ ⟨_, (20, cs) :: cBx l m, []⟩ from ?_)
  refine go ?_
  refine yX hso rfl (fun a w => Tryz.call30 a w) rfl rfl ⟨⟨rfl, k5 _ _⟩, trivial⟩ (by (repeat (first | exact trivial | refine ⟨.inr rfl, ?_⟩ | refine ⟨.inl rfl, ?_⟩))) rfl rfl rfl rfl ?_ ?_
  ·rintro d bs ⟨rfl, S, _, _, rfl⟩; exact ⟨.inl rfl, trivial⟩
  rintro d bs ⟨rfl, S', hS', hU', rfl⟩
  obtain rfl : S' = S := kK7 hU' hS (hS'.trans hSp.symm)
  have hpl : ∀ {S : jX} (B G : Nat → Bool), Dt.ok.oks B G (uW S rest) = true := fun B G => jO5 hpr B G
  have hSl := hSp.length_eq
  refine qW (jC6 3 1 0 3 1 rfl rfl rfl rfl rfl) ?_
  refine qW (jC6 3 2 1 3 1 rfl rfl rfl rfl rfl) ?_
  refine go ?_
  refine jP (fun j : Nat => j ≤ T.length) (fun j => ⟨[(63, dI j), (62, dI T.length), (61, .arr 20 0 T.length c), (7, .ptr 3 0), (6, .ptr 2 0)], [(20, uW S' rest), (3, [dI 1, .tip 0 j (kD (qA (S'.take j))), .tip 1 j (kD (qC (S'.take j)))]), (2, [dI 0, .p (.sl true 0 []), .p (.sl true 0 [])]), (1, [kK m]), (0, xL l)], [(0, ⟨3, 1, j⟩), (1, ⟨3, 1, j⟩)]⟩) (fun j => T.length - j) 0 (Nat.zero_le _) (kX (by (repeat (first | exact trivial | refine ⟨⟨rfl, rfl⟩, ?_⟩))) (by (repeat (first | exact trivial | refine ⟨⟨rfl, rfl⟩, ?_⟩ | refine ⟨⟨rfl, hpl _ _⟩, ?_⟩))) (by (repeat (first | exact trivial | refine ⟨rfl, ?_⟩))) (by (repeat (first | exact trivial | refine ⟨rfl, ?_⟩)))) ?_
  intro j hj
  refine (show AWP _ _ _ _ ⟨[(63, dI j), (62, dI T.length), (61, .arr 20 0 T.length c), (7, .ptr 3 0), (6, .ptr 2 0)], [(20, uW S' rest), (3, [dI 1, .tip 0 j (kD (qA (S'.take j))), .tip 1 j (kD (qC (S'.take j)))]), (2, [dI 0, .p (.sl true 0 []), .p (.sl true 0 [])]), (1, [kK m]), (0, xL l)], [(0, ⟨3, 1, j⟩), (1, ⟨3, 1, j⟩)]⟩ from ?_)
  refine go ?_
  refine xQ (fun h1 => ?_) (fun h1 => ?_) <;> try rw [h1]
  ·have h1' := of_decide_eq_true h1
   obtain ⟨y, hy⟩ : ∃ y, S'[j]? = some y := ⟨S'[j]'(by omega), List.getElem?_eq_getElem _⟩
   obtain ⟨r1, hr1⟩ := rowD_at hy rest
   have hrl := kH4 S' rest
   have htl : (S'.take j).length = j := by rw [List.length_take]; omega
   have hkt : kD (qA (S'.take (j + 1))) = kD (qA (S'.take j)) ++ [pI y.1] := by rw [jI3 hy]; simp [qA, kD]
   have hvt : kD (qC (S'.take (j + 1))) = kD (qC (S'.take j)) ++ [pI y.2] := by rw [jI3 hy]; simp [qC, kD]
   refine go ?_
   refine a_q (jJ (p := j * 2) jB rfl rfl rfl rfl rfl (by omega) (by omega) (by show j * 2 = (j : Int).toNat * 2; omega)) rfl rfl rfl ?_
   refine a_q (wZ jB [dI y.1, dI y.2] r1 rfl rfl rfl rfl rfl (by show j * 2 ≤ (uW S' rest).length; omega) hr1 rfl) rfl rfl rfl ?_
   refine go ?_
   refine a_q (jZ jB rfl rfl rfl rfl rfl (by omega) (by omega)) rfl rfl rfl ?_
   refine go ?_
   refine qF (n := j) (m := 1) (qs := [pI y.1]) jB rfl rfl rfl rfl rfl rfl rfl rfl rfl rfl rfl rfl rfl (by unfold maxLen; omega) (by show (_ + _) * 8 ≤ _; omega) ?_
   refine go ?_
   refine a_q (jZ jB rfl rfl rfl rfl rfl (by omega) (by omega)) rfl rfl rfl ?_
   refine go ?_
   refine qF (n := j) (m := 1) (qs := [pI y.2]) jB rfl rfl rfl rfl rfl rfl rfl rfl rfl rfl rfl rfl rfl (by unfold maxLen; omega) (by show (_ + _) * 8 ≤ _; omega) ?_
   refine go ?_
   refine ⟨j + 1, by omega, by omega, ?_⟩
   rw [hkt, hvt]
   exact kX (by (repeat (first | exact trivial | refine ⟨⟨rfl, rfl⟩, ?_⟩))) (by (repeat (first | exact trivial | refine ⟨⟨rfl, rfl⟩, ?_⟩ | refine ⟨⟨rfl, hpl _ _⟩, ?_⟩))) (by (repeat (first | exact trivial | refine ⟨rfl, ?_⟩))) (by (repeat (first | exact trivial | refine ⟨rfl, ?_⟩)))
  ·have h1' : j = T.length := by have := of_decide_eq_false h1; omega
   subst h1'
   rw [List.take_of_length_le (by omega)]
   refine go ?_
   refine jF rfl ?_
   show Dt.agg [_, .p (.sl _ T.length _), .p (.sl _ T.length _)] = Dt.agg [_, .p (.sl _ _ _), .p (.sl _ _ _)]
   rw [hSk, hSv, hSl]
end Go.Proofs.YtkkldicehapklaaGreat
