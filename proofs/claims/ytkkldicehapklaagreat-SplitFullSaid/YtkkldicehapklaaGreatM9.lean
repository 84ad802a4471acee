/- The document's maps: their walk. -/
import Derived.Test.YtkkldicehapklaaGreatEA
import Derived.Test.YtkkldicehapklaaGreatPF
namespace Go.Proofs.YtkkldicehapklaaGreat
open Go.RowKit
set_option maxRecDepth 100000
section
variable {P : Program} {T : Nat → Option TI} {Γ : Ctx} {σ : St}
theorem jC6 (nm j g el sz : Nat) {n : Nat} {ps : List Pl} {cs cs' : List Dt} (hb : kv σ.b nm = some cs) (hj : cs[j]? = some (.p (.sl true n ps))) (hs : cs.set j (.tip g n ps) = cs') (hg : kv σ.g g = none) (hl : ps.length = n * sz) : Ghost Γ σ ⟨σ.s, (nm, cs') :: σ.b, (g, ⟨el, sz, n⟩) :: σ.g⟩ := by
 subst hs
 intro a e hc
 have hgi : e.gi g = none := by rw [hc.gs]; exact hg
 have hng : ∀ k, e.gr k ≠ some g := fun k hk => by obtain ⟨G, _, h, _⟩ := hc.env.gr k g hk; rw [hgi] at h; cases h
 have hE : Ends e { e with gi := fun h => if h = g then some ⟨el, sz, n⟩ else e.gi h } :=
  ⟨fun _ _ _ h1 h2 => ⟨h1, h2⟩, fun _ _ h => h, fun g' G h => ⟨G, by show (if g' = g then _ else e.gi g') = _; rw [if_neg (fun e' => by rw [e', hgi] at h; cases h)]; exact h, rfl, rfl, Nat.le_refl _⟩, fun _ _ _ cur h1 _ h3 => ⟨h1, cur, h3, rfl⟩⟩
 refine ⟨{ e with gi := fun h => if h = g then some ⟨el, sz, n⟩ else e.gi h }, rfl, hc.size, hc.df, fun u d hu => (hc.slots u d hu).next hE, fun b cs hbb => ?_, fun u hu => ?_, fun h => ?_, hc.env.kept, hc.env.cl, hc.env.bx, hc.env.inj, fun k g' hk => ?_, hc.env.kb⟩
 ·simp only [jU] at hbb
  split at hbb
  ·rename_i htu
   subst htu
   cases hbb
   obtain ⟨k, vs, el0, h1, h2, h3⟩ := hc.boxes _ _ hb
   refine ⟨k, vs, el0, h1, h2, by rw [List.length_set]; exact h3.1, fun i v d hv hd => ?_⟩
   rw [List.getElem?_set] at hd
   split at hd
   ·rename_i hij
    subst hij
    split at hd
    ·cases hd
     have h4 := h3.2 _ v _ hv hj
     cases h4 with
     | p h1 =>
      have h2 := (h1.next hE).low
      obtain ⟨A, cap, rfl, h3, h4, h5, h6, h7⟩ := xN h1
      exact .tip h2 ⟨⟨el, sz, n⟩, A, cap, by simp, rfl, Nat.le_refl _, hl, .inl (h6 rfl)⟩
    ·cases hd
   ·exact (h3.2 i v d hv hd).next hE
  ·exact (hc.boxes b cs hbb).ends hE rfl
 ·simp only [jU] at hu
  split at hu
  ·cases hu
  ·exact hc.nobox u hu
 ·show (if h = g then _ else e.gi h) = _
  simp only [jU]
  by_cases e1 : h = g
  ·subst e1; simp
  ·rw [if_neg e1, if_neg (fun e' => e1 e'.symm)]; exact hc.gs h
 ·obtain ⟨G, cur, h1, h2⟩ := hc.env.gr k g' hk
  exact ⟨G, cur, by show (if g' = g then _ else e.gi g') = _; rw [if_neg (fun e' => hng k (by rw [← e']; exact hk))]; exact h1, h2⟩
end
theorem kL5 {ι : Type} {P : Program} {Γ : Ctx} {Q : Exit → St → Prop} {c : Code} {σ : St} (x : Exit) (τ : ι → St) (ok : ι → Prop) (h : AWP P Γ c (fun ex σ' => ex = x ∧ ∃ i, ok i ∧ Ghost Γ σ' (τ i)) σ) (k : ∀ σ' i, ok i → Ghost Γ σ' (τ i) → Q x σ') : AWP P Γ c Q σ :=
 jL1 h fun ex σ' hh => by
  obtain ⟨rfl, i, hi, hg⟩ := hh
  exact k σ' i hi hg
abbrev qA (S : jX) : List Int := S.map (·.1)
abbrev qC (S : jX) : List Int := S.map (·.2)
abbrev dMap (S : jX) : Dt := .agg [dI 1, kK (qA S), kK (qC S)]
abbrev dDid9 (r : jX × Int × Bool) : Dt := .tup [dMap r.1, dI r.2.1, dB r.2.2]
theorem new9_c : kA Tryz.prog 13 [dI 1] (dMap []) := by
 refine jO jB Tryz.func13 rfl Tryz.ntmps13 rfl rfl rfl fun w cl => ?_
 refine go ?_
 first | refine jF rfl ?_ | refine jC rfl ?_
 rfl
theorem of9_1 : kA Tryz.prog 57 [dI 1] (dI 1) := by
 refine jO jB Tryz.func57 rfl Tryz.ntmps57 rfl rfl rfl fun w cl => ?_
 refine go ?_
 rw [show decide ((1 : Int) = 1) = true from rfl]
 refine go ?_
 first | refine jF rfl ?_ | refine jC rfl ?_
 rfl
theorem of9_2 : kA Tryz.prog 57 [dI 2] (dI 1) := by
 refine jO jB Tryz.func57 rfl Tryz.ntmps57 rfl rfl rfl fun w cl => ?_
 refine go ?_
 rw [show decide ((2 : Int) = 1) = false from rfl]
 refine go ?_
 rw [show decide ((2 : Int) = 2) = true from rfl]
 refine go ?_
 first | refine jF rfl ?_ | refine jC rfl ?_
 rfl
theorem of9_3 : kA Tryz.prog 57 [dI 3] (dI 1) := by
 refine jO jB Tryz.func57 rfl Tryz.ntmps57 rfl rfl rfl fun w cl => ?_
 refine go ?_
 rw [show decide ((3 : Int) = 1) = false from rfl]
 refine go ?_
 rw [show decide ((3 : Int) = 2) = false from rfl]
 refine go ?_
 rw [show decide ((3 : Int) = 3) = true from rfl]
 refine go ?_
 first | refine jF rfl ?_ | refine jC rfl ?_
 rfl
theorem of9_k (k : Int) (h : k = 1 ∨ k = 2 ∨ k = 3) : kA Tryz.prog 57 [dI k] (dI 1) := by
 rcases h with rfl | rfl | rfl
 ·exact of9_1
 ·exact of9_2
 ·exact of9_3
theorem jH5 {S : jX} {i : Nat} {y : Int × Int} (h : S[i]? = some y) : (qA S)[(i : Int).toNat]? = some y.1 := by simp [h]
theorem jL2 {S : jX} {i : Nat} {y : Int × Int} (h : S[i]? = some y) : (qC S)[(i : Int).toNat]? = some y.2 := by simp [h]
theorem findP_all {S : jX} {a : Int} (h : ∀ (i : Nat) (y : Int × Int), S[i]? = some y → y.1 ≠ a) : vY S a = S.length := by
 unfold vY
 rw [List.findIdx_eq_length]
 intro y hy
 obtain ⟨i, hi⟩ := List.mem_iff_getElem?.1 hy
 exact decide_eq_false (h i y hi)
theorem findP_at {S : jX} {a : Int} {i : Nat} {y : Int × Int} (hi : S[i]? = some y) (hy : y.1 = a) (h : ∀ (j : Nat) (z : Int × Int), j < i → S[j]? = some z → z.1 ≠ a) : vY S a = i := by
 obtain ⟨hlt, e⟩ := List.getElem?_eq_some_iff.1 hi
 unfold vY
 rw [List.findIdx_eq hlt]
 refine ⟨by rw [e]; exact decide_eq_true hy, fun j hj => decide_eq_false (h j _ hj (List.getElem?_eq_getElem (by omega)))⟩
theorem at9_c (S : jX) (a : Int) (hl : S.length ≤ 1000000) : kA Tryz.prog 58 [dMap S, dI a] (dI (if vY S a < S.length then (vY S a : Int) else -1)) := by
 generalize hR : (if vY S a < S.length then (vY S a : Int) else -1) = R
 have hkl : (qA S).length = S.length := List.length_map _
 refine jO jB Tryz.func58 rfl Tryz.ntmps58 rfl rfl rfl fun w cl => ?_
 refine go ?_
 refine jP (fun i : Nat => i ≤ S.length ∧ ∀ (j : Nat) (z : Int × Int), j < i → S[j]? = some z → z.1 ≠ a) (fun i => ⟨[(5, dI i), (2, .ptr 0 0), (1, dI a)], [(0, [dI 1, kK (qA S), kK (qC S)])], []⟩) (fun i => S.length - i) 0 ⟨Nat.zero_le _, fun j z hj => by omega⟩ (zX) ?_
 rintro i ⟨hi, hno⟩
 refine (show AWP _ _ _ _ ⟨[(5, dI i), (2, .ptr 0 0), (1, dI a)], [(0, [dI 1, kK (qA S), kK (qC S)])], []⟩ from ?_)
 refine go ?_
 refine xQ (fun h1 => ?_) (fun h1 => ?_) <;> try rw [h1]
 ·have h1' := of_decide_eq_true h1
  obtain ⟨y, hy⟩ : ∃ y, S[i]? = some y := ⟨S[i]'(by omega), List.getElem?_eq_getElem _⟩
  refine go ?_
  refine a_q (jG jB [pI y.1] rfl rfl rfl rfl rfl rfl (by first | omega | (simp; done) | (simp; omega)) (by first | omega | (simp; done) | (simp; omega)) (by first | (simp; done) | exact List.cons_ne_nil _ _) (qE (jH5 hy))) rfl rfl rfl ?_
  refine go ?_
  by_cases h2 : y.1 = a
  ·rw [show decide (y.1 = a) = true from decide_eq_true h2]
   refine go ?_
   refine jF rfl ?_
   rw [← hR, findP_at hy h2 hno, if_pos (by omega)]
  ·rw [show decide (y.1 = a) = false from decide_eq_false h2]
   refine go ?_
   refine ⟨i + 1, ⟨by omega, fun j z hj hz => ?_⟩, by omega, zX⟩
   rcases Nat.lt_or_ge j i with h3 | h3
   ·exact hno j z h3 hz
   ·have : j = i := by omega
    subst this
    rw [hy] at hz; cases hz
    exact h2
 ·have h1' := of_decide_eq_false h1
  refine go ?_
  refine jF rfl ?_
  rw [← hR, findP_all (fun j z hz => hno j z (by have := (List.getElem?_eq_some_iff.1 hz).1; omega) hz), if_neg (Nat.lt_irrefl _)]
def leftP (dn : Bool) (D : jX) (x : Int × Int) : jX := if dn then D else insP D x
theorem jI3 {S : jX} {i : Nat} {y : Int × Int} (h : S[i]? = some y) : S.take (i + 1) = S.take i ++ [y] := by rw [List.take_add_one, h]; rfl
theorem drop_consP {S : jX} {i : Nat} {y : Int × Int} (h : S[i]? = some y) : S.drop i = y :: S.drop (i + 1) := by
 obtain ⟨h1, h2⟩ := List.getElem?_eq_some_iff.1 h
 rw [List.drop_eq_getElem_cons h1, h2]
theorem kN0 {y x : Int × Int} {D : jX} (h : x.1 < y.1) : leftP false (y :: D) x = x :: y :: D := by
 show insP (y :: D) x = _
 rw [insP, if_pos h]
theorem kN4 {y x : Int × Int} {D : jX} (h : ¬ x.1 < y.1) : leftP false (y :: D) x = y :: leftP false D x := by
 show insP (y :: D) x = _
 rw [insP, if_neg h]
 rfl
theorem jW7 {x : Int × Int} {D : jX} : leftP true D x = D := rfl
abbrev wSt (S : jX) (k v : Int) (i : Nat) (T : jX) (dn : Bool) : St := ⟨[(9, dI i), (8, dB dn), (7, .ptr 2 0), (6, .ptr 1 0), (3, .ptr 0 0), (2, dI v), (1, dI k)], [(2, [dI 1, .tip 0 T.length (kD (qA T)), .tip 1 T.length (kD (qC T))]), (1, [dI 0, .p (.sl true 0 []), .p (.sl true 0 [])]), (0, [dI 1, kK (qA S), kK (qC S)])], [(0, ⟨3, 1, T.length⟩), (1, ⟨3, 1, T.length⟩)]⟩
set_option maxHeartbeats 4000000 in
theorem with9_c (S : jX) (k v : Int) (hl : S.length ≤ 1000000) : kA Tryz.prog 59 [dMap S, dI k, dI v] (dMap (insP S (k, v))) := by
 have hkl : (qA S).length = S.length := List.length_map _
 have hvl : (qC S).length = S.length := List.length_map _
 refine jO jB Tryz.func59 rfl Tryz.ntmps59 rfl rfl rfl fun w cl => ?_
 refine go ?_
 refine kP (jC6 2 1 0 3 1 rfl rfl rfl rfl rfl) ?_
 refine kP (jC6 2 2 1 3 1 rfl rfl rfl rfl rfl) ?_
 refine kL5 (ι := jX × Bool) (.exit 0) (fun p => wSt S k v S.length p.1 p.2) (fun p => p.1.length ≤ S.length + p.2.toNat ∧ insP S (k, v) = p.1 ++ leftP p.2 [] (k, v)) ?_ ?_
 ·refine jP (fun p : Nat × jX × Bool => p.1 ≤ S.length ∧ p.2.1.length ≤ p.1 + p.2.2.toNat ∧ insP S (k, v) = p.2.1 ++ leftP p.2.2 (S.drop p.1) (k, v)) (fun p => wSt S k v p.1 p.2.1 p.2.2) (fun p => S.length - p.1) (0, [], false) ⟨Nat.zero_le _, Nat.zero_le _, rfl⟩ (zX) ?_
  rintro ⟨i, T, dn⟩ ⟨hi, hT, hI⟩
  simp only at hi hT hI
  have hdn := Bool.toNat_le dn
  refine (show AWP _ _ _ _ (wSt S k v i T dn) from ?_)
  unfold wSt
  refine go ?_
  refine xQ (fun h1 => ?_) (fun h1 => ?_) <;> try rw [h1]
  ·have h1' := of_decide_eq_true h1
   obtain ⟨y, hy⟩ : ∃ y, S[i]? = some y := ⟨S[i]'(by omega), List.getElem?_eq_getElem _⟩
   rw [drop_consP hy] at hI
   have hTk : (qA T).length = T.length := List.length_map _
   have hTv : (qC T).length = T.length := List.length_map _
   refine go ?_
   refine a_q (jG jB [pI y.1] rfl rfl rfl rfl rfl rfl (by first | omega | (simp; done) | (simp; omega)) (by first | omega | (simp; done) | (simp; omega)) (by first | (simp; done) | exact List.cons_ne_nil _ _) (qE (jH5 hy))) rfl rfl rfl ?_
   refine go ?_
   by_cases h2 : dn = false ∧ k < y.1
   ·obtain ⟨rfl, h2⟩ := h2
    rw [kN0 h2] at hI
    rw [show decide (y.1 > k) = true from decide_eq_true h2]
    refine go ?_
    refine qF (n := T.length) (m := 1) (qs := [pI k]) jB rfl rfl rfl rfl rfl rfl rfl rfl rfl rfl rfl rfl rfl (by unfold maxLen; omega) (by show (_ + _) * 8 ≤ _; omega) ?_
    refine go ?_
    refine qF (n := T.length) (m := 1) (qs := [pI v]) jB rfl rfl rfl rfl rfl rfl rfl rfl rfl rfl rfl rfl rfl (by unfold maxLen; omega) (by show (_ + _) * 8 ≤ _; omega) ?_
    refine go ?_
    refine jE 8 [] rfl rfl (by kernel_rfl) (by kernel_rfl) (by kernel_rfl) ?_
    refine goQ ?_
    refine r_q (jG jB [pI y.1] rfl rfl rfl rfl rfl rfl (by first | omega | (simp; done) | (simp; omega)) (by first | omega | (simp; done) | (simp; omega)) (by first | (simp; done) | exact List.cons_ne_nil _ _) (qE (jH5 hy))) rfl rfl ?_
    refine goQ ?_
    refine qF (n := T.length + 1) (m := 1) (qs := [pI y.1]) jB rfl rfl rfl rfl rfl rfl rfl rfl rfl rfl rfl rfl rfl (by unfold maxLen; omega) (by show (_ + _) * 8 ≤ _; omega) ?_
    refine go ?_
    refine jE 8 [] rfl rfl (by kernel_rfl) (by kernel_rfl) (by kernel_rfl) ?_
    refine goQ ?_
    refine r_q (jG jB [pI y.2] rfl rfl rfl rfl rfl rfl (by first | omega | (simp; done) | (simp; omega)) (by first | omega | (simp; done) | (simp; omega)) (by first | (simp; done) | exact List.cons_ne_nil _ _) (qE (jL2 hy))) rfl rfl ?_
    refine goQ ?_
    refine qF (n := T.length + 1) (m := 1) (qs := [pI y.2]) jB rfl rfl rfl rfl rfl rfl rfl rfl rfl rfl rfl rfl rfl (by unfold maxLen; omega) (by show (_ + _) * 8 ≤ _; omega) ?_
    refine go ?_
    refine ⟨(i + 1, T ++ [(k, v), y], true), ⟨by simp only; omega, by simp at hT ⊢; omega, by rw [hI, jW7]; simp⟩, by simp only; omega, ?_⟩
    show Ghost _ _ ⟨[(9, _), (8, _), (7, .ptr 2 0), (6, .ptr 1 0), (3, .ptr 0 0), (2, dI v), (1, dI k)], [(2, [dI 1, .tip 0 (T ++ [(k, v), y]).length (kD (qA (T ++ [(k, v), y]))), .tip 1 (T ++ [(k, v), y]).length (kD (qC (T ++ [(k, v), y])))]), (1, [dI 0, .p (.sl true 0 []), .p (.sl true 0 [])]), (0, [dI 1, kK (qA S), kK (qC S)])], [(0, ⟨3, 1, (T ++ [(k, v), y]).length⟩), (1, ⟨3, 1, (T ++ [(k, v), y]).length⟩)]⟩
    rw [show (T ++ [(k, v), y]).length = T.length + 1 + 1 by simp, show kD (qA (T ++ [(k, v), y])) = kD (qA T) ++ [pI k] ++ [pI y.1] by simp [qA, kD], show kD (qC (T ++ [(k, v), y])) = kD (qC T) ++ [pI v] ++ [pI y.2] by simp [qC, kD]]
    exact zX
   ·have hI' : insP S (k, v) = (T ++ [y]) ++ leftP dn (S.drop (i + 1)) (k, v) := by
     rw [hI]
     cases dn with
     | false => rw [kN4 (fun h => h2 ⟨rfl, h⟩)]; simp
     | true => rw [jW7, jW7]; simp
    have hne : (decide (y.1 > k) && !dn) = false := by
     cases dn with
     | false => rw [Bool.not_false, Bool.and_true, decide_eq_false_iff_not]; exact fun h => h2 ⟨rfl, h⟩
     | true => simp
    generalize decide (y.1 > k) = cc at hne ⊢
    cases cc <;> cases dn
    ·refine go ?_
     refine jE 8 [] rfl rfl (by kernel_rfl) (by kernel_rfl) (by kernel_rfl) ?_
     refine goQ ?_
     refine r_q (jG jB [pI y.1] rfl rfl rfl rfl rfl rfl (by first | omega | (simp; done) | (simp; omega)) (by first | omega | (simp; done) | (simp; omega)) (by first | (simp; done) | exact List.cons_ne_nil _ _) (qE (jH5 hy))) rfl rfl ?_
     refine goQ ?_
     refine qF (n := T.length) (m := 1) (qs := [pI y.1]) jB rfl rfl rfl rfl rfl rfl rfl rfl rfl rfl rfl rfl rfl (by unfold maxLen; omega) (by show (_ + _) * 8 ≤ _; omega) ?_
     refine go ?_
     refine jE 8 [] rfl rfl (by kernel_rfl) (by kernel_rfl) (by kernel_rfl) ?_
     refine goQ ?_
     refine r_q (jG jB [pI y.2] rfl rfl rfl rfl rfl rfl (by first | omega | (simp; done) | (simp; omega)) (by first | omega | (simp; done) | (simp; omega)) (by first | (simp; done) | exact List.cons_ne_nil _ _) (qE (jL2 hy))) rfl rfl ?_
     refine goQ ?_
     refine qF (n := T.length) (m := 1) (qs := [pI y.2]) jB rfl rfl rfl rfl rfl rfl rfl rfl rfl rfl rfl rfl rfl (by unfold maxLen; omega) (by show (_ + _) * 8 ≤ _; omega) ?_
     refine go ?_
     refine ⟨(i + 1, T ++ [y], false), ⟨by simp only; omega, by simp at hT ⊢; omega, hI'⟩, by simp only; omega, ?_⟩
     show Ghost _ _ ⟨[(9, _), (8, _), (7, .ptr 2 0), (6, .ptr 1 0), (3, .ptr 0 0), (2, dI v), (1, dI k)], [(2, [dI 1, .tip 0 (T ++ [y]).length (kD (qA (T ++ [y]))), .tip 1 (T ++ [y]).length (kD (qC (T ++ [y])))]), (1, [dI 0, .p (.sl true 0 []), .p (.sl true 0 [])]), (0, [dI 1, kK (qA S), kK (qC S)])], [(0, ⟨3, 1, (T ++ [y]).length⟩), (1, ⟨3, 1, (T ++ [y]).length⟩)]⟩
     rw [show (T ++ [y]).length = T.length + 1 by simp, show kD (qA (T ++ [y])) = kD (qA T) ++ [pI y.1] by simp [qA, kD], show kD (qC (T ++ [y])) = kD (qC T) ++ [pI y.2] by simp [qC, kD]]
     exact zX
    ·refine go ?_
     refine jE 8 [] rfl rfl (by kernel_rfl) (by kernel_rfl) (by kernel_rfl) ?_
     refine goQ ?_
     refine r_q (jG jB [pI y.1] rfl rfl rfl rfl rfl rfl (by first | omega | (simp; done) | (simp; omega)) (by first | omega | (simp; done) | (simp; omega)) (by first | (simp; done) | exact List.cons_ne_nil _ _) (qE (jH5 hy))) rfl rfl ?_
     refine goQ ?_
     refine qF (n := T.length) (m := 1) (qs := [pI y.1]) jB rfl rfl rfl rfl rfl rfl rfl rfl rfl rfl rfl rfl rfl (by unfold maxLen; omega) (by show (_ + _) * 8 ≤ _; omega) ?_
     refine go ?_
     refine jE 8 [] rfl rfl (by kernel_rfl) (by kernel_rfl) (by kernel_rfl) ?_
     refine goQ ?_
     refine r_q (jG jB [pI y.2] rfl rfl rfl rfl rfl rfl (by first | omega | (simp; done) | (simp; omega)) (by first | omega | (simp; done) | (simp; omega)) (by first | (simp; done) | exact List.cons_ne_nil _ _) (qE (jL2 hy))) rfl rfl ?_
     refine goQ ?_
     refine qF (n := T.length) (m := 1) (qs := [pI y.2]) jB rfl rfl rfl rfl rfl rfl rfl rfl rfl rfl rfl rfl rfl (by unfold maxLen; omega) (by show (_ + _) * 8 ≤ _; omega) ?_
     refine go ?_
     refine ⟨(i + 1, T ++ [y], true), ⟨by simp only; omega, by simp at hT ⊢; omega, hI'⟩, by simp only; omega, ?_⟩
     show Ghost _ _ ⟨[(9, _), (8, _), (7, .ptr 2 0), (6, .ptr 1 0), (3, .ptr 0 0), (2, dI v), (1, dI k)], [(2, [dI 1, .tip 0 (T ++ [y]).length (kD (qA (T ++ [y]))), .tip 1 (T ++ [y]).length (kD (qC (T ++ [y])))]), (1, [dI 0, .p (.sl true 0 []), .p (.sl true 0 [])]), (0, [dI 1, kK (qA S), kK (qC S)])], [(0, ⟨3, 1, (T ++ [y]).length⟩), (1, ⟨3, 1, (T ++ [y]).length⟩)]⟩
     rw [show (T ++ [y]).length = T.length + 1 by simp, show kD (qA (T ++ [y])) = kD (qA T) ++ [pI y.1] by simp [qA, kD], show kD (qC (T ++ [y])) = kD (qC T) ++ [pI y.2] by simp [qC, kD]]
     exact zX
    ·exact absurd hne (by decide)
    ·refine go ?_
     refine jE 8 [] rfl rfl (by kernel_rfl) (by kernel_rfl) (by kernel_rfl) ?_
     refine goQ ?_
     refine r_q (jG jB [pI y.1] rfl rfl rfl rfl rfl rfl (by first | omega | (simp; done) | (simp; omega)) (by first | omega | (simp; done) | (simp; omega)) (by first | (simp; done) | exact List.cons_ne_nil _ _) (qE (jH5 hy))) rfl rfl ?_
     refine goQ ?_
     refine qF (n := T.length) (m := 1) (qs := [pI y.1]) jB rfl rfl rfl rfl rfl rfl rfl rfl rfl rfl rfl rfl rfl (by unfold maxLen; omega) (by show (_ + _) * 8 ≤ _; omega) ?_
     refine go ?_
     refine jE 8 [] rfl rfl (by kernel_rfl) (by kernel_rfl) (by kernel_rfl) ?_
     refine goQ ?_
     refine r_q (jG jB [pI y.2] rfl rfl rfl rfl rfl rfl (by first | omega | (simp; done) | (simp; omega)) (by first | omega | (simp; done) | (simp; omega)) (by first | (simp; done) | exact List.cons_ne_nil _ _) (qE (jL2 hy))) rfl rfl ?_
     refine goQ ?_
     refine qF (n := T.length) (m := 1) (qs := [pI y.2]) jB rfl rfl rfl rfl rfl rfl rfl rfl rfl rfl rfl rfl rfl (by unfold maxLen; omega) (by show (_ + _) * 8 ≤ _; omega) ?_
     refine go ?_
     refine ⟨(i + 1, T ++ [y], true), ⟨by simp only; omega, by simp at hT ⊢; omega, hI'⟩, by simp only; omega, ?_⟩
     show Ghost _ _ ⟨[(9, _), (8, _), (7, .ptr 2 0), (6, .ptr 1 0), (3, .ptr 0 0), (2, dI v), (1, dI k)], [(2, [dI 1, .tip 0 (T ++ [y]).length (kD (qA (T ++ [y]))), .tip 1 (T ++ [y]).length (kD (qC (T ++ [y])))]), (1, [dI 0, .p (.sl true 0 []), .p (.sl true 0 [])]), (0, [dI 1, kK (qA S), kK (qC S)])], [(0, ⟨3, 1, (T ++ [y]).length⟩), (1, ⟨3, 1, (T ++ [y]).length⟩)]⟩
     rw [show (T ++ [y]).length = T.length + 1 by simp, show kD (qA (T ++ [y])) = kD (qA T) ++ [pI y.1] by simp [qA, kD], show kD (qC (T ++ [y])) = kD (qC T) ++ [pI y.2] by simp [qC, kD]]
     exact zX
  ·have h1' : i = S.length := by have := of_decide_eq_false h1; omega
   subst h1'
   rw [List.drop_length] at hI
   refine go ?_
   exact ⟨rfl, (T, dn), ⟨hT, hI⟩, zX⟩
 rintro σ' ⟨T, dn⟩ ⟨hT, hI⟩ hgh
 refine zR (zM (kP hgh ?_))
 clear hgh
 simp only at hT hI
 have hdn := Bool.toNat_le dn
 refine (show AWP _ _ _ _ (wSt S k v S.length T dn) from ?_)
 unfold wSt
 refine go ?_
 have hTk : (qA T).length = T.length := List.length_map _
 have hTv : (qC T).length = T.length := List.length_map _
 cases dn with
 | true =>
  rw [jW7, List.append_nil] at hI
  refine go ?_
  refine jF rfl ?_
  rw [hI]
  show Dt.agg [_, .p (.sl _ T.length _), .p (.sl _ T.length _)] = Dt.agg [_, .p (.sl _ _ _), .p (.sl _ _ _)]
  rw [hTk, hTv]
 | false =>
  have hI2 : insP S (k, v) = T ++ [(k, v)] := hI
  refine go ?_
  refine qF (n := T.length) (m := 1) (qs := [pI k]) jB rfl rfl rfl rfl rfl rfl rfl rfl rfl rfl rfl rfl rfl (by unfold maxLen; omega) (by show (_ + _) * 8 ≤ _; omega) ?_
  refine go ?_
  refine qF (n := T.length) (m := 1) (qs := [pI v]) jB rfl rfl rfl rfl rfl rfl rfl rfl rfl rfl rfl rfl rfl (by unfold maxLen; omega) (by show (_ + _) * 8 ≤ _; omega) ?_
  refine go ?_
  refine jF rfl ?_
  rw [hI2]
  show Dt.agg [_, .p (.sl _ (T.length + 1) _), .p (.sl _ (T.length + 1) _)] = Dt.agg [_, .p (.sl _ _ _), .p (.sl _ _ _)]
  simp [qA, qC, kD]
theorem erase_same {S : jX} {i k : Nat} {y : Int × Int} (hy : S[i]? = some y) (hk : i = k) : (S.take (i + 1)).eraseIdx k = (S.take i).eraseIdx k := by
 have hl : (S.take i).length = i := by rw [List.length_take]; have := (List.getElem?_eq_some_iff.1 hy).1; omega
 rw [show (S.take i).eraseIdx k = S.take i from List.eraseIdx_of_length_le (by omega), jI3 hy, List.eraseIdx_append_of_length_le (by omega), show k - (S.take i).length = 0 by omega]
 simp
theorem erase_more {S : jX} {i k : Nat} {y : Int × Int} (hy : S[i]? = some y) (hk : i ≠ k) : (S.take (i + 1)).eraseIdx k = (S.take i).eraseIdx k ++ [y] := by
 have hl : (S.take i).length = i := by rw [List.length_take]; have := (List.getElem?_eq_some_iff.1 hy).1; omega
 rw [jI3 hy]
 rcases Nat.lt_or_ge k i with h | h
 ·rw [List.eraseIdx_append_of_lt_length (by omega)]
 ·rw [List.eraseIdx_append_of_length_le (by omega), List.eraseIdx_of_length_le (show (S.take i).length ≤ k by omega), List.eraseIdx_of_length_le (by simp; omega)]
abbrev oSt (S : jX) (k : Nat) (i : Nat) (T : jX) : St := ⟨[(6, dI i), (5, .ptr 2 0), (4, .ptr 1 0), (2, .ptr 0 0), (1, dI k)], [(2, [dI 1, .tip 0 T.length (kD (qA T)), .tip 1 T.length (kD (qC T))]), (1, [dI 0, .p (.sl true 0 []), .p (.sl true 0 [])]), (0, [dI 1, kK (qA S), kK (qC S)])], [(0, ⟨3, 1, T.length⟩), (1, ⟨3, 1, T.length⟩)]⟩
set_option maxHeartbeats 4000000 in
theorem without9_c (S : jX) (k : Nat) (hl : S.length ≤ 1000000) : kA Tryz.prog 60 [dMap S, dI k] (dMap (S.eraseIdx k)) := by
 have hkl : (qA S).length = S.length := List.length_map _
 have hvl : (qC S).length = S.length := List.length_map _
 refine jO jB Tryz.func60 rfl Tryz.ntmps60 rfl rfl rfl fun w cl => ?_
 refine go ?_
 refine kP (jC6 2 1 0 3 1 rfl rfl rfl rfl rfl) ?_
 refine kP (jC6 2 2 1 3 1 rfl rfl rfl rfl rfl) ?_
 refine jP (fun p : Nat × jX => p.1 ≤ S.length ∧ p.2 = (S.take p.1).eraseIdx k) (fun p => oSt S k p.1 p.2) (fun p => S.length - p.1) (0, []) ⟨Nat.zero_le _, rfl⟩ (zX) ?_
 rintro ⟨i, T⟩ ⟨hi, hT⟩
 simp only at hi hT
 have hTl : T.length ≤ i := by
  rw [hT]
  refine Nat.le_trans (List.length_eraseIdx_le _ _) ?_
  rw [List.length_take]; omega
 refine (show AWP _ _ _ _ (oSt S k i T) from ?_)
 unfold oSt
 have hTk : (qA T).length = T.length := List.length_map _
 have hTv : (qC T).length = T.length := List.length_map _
 refine go ?_
 refine xQ (fun h1 => ?_) (fun h1 => ?_) <;> try rw [h1]
 ·have h1' := of_decide_eq_true h1
  obtain ⟨y, hy⟩ : ∃ y, S[i]? = some y := ⟨S[i]'(by omega), List.getElem?_eq_getElem _⟩
  refine go ?_
  by_cases h2 : i = k
  ·rw [show decide ((i : Int) = k) = true by rw [decide_eq_true_eq]; omega]
   refine go ?_
   exact ⟨(i + 1, T), ⟨by simp only; omega, by simp only; rw [hT, erase_same hy h2]⟩, by simp only; omega, zX⟩
  ·rw [show decide ((i : Int) = k) = false by rw [decide_eq_false_iff_not]; omega]
   refine go ?_
   rw [show decide ((1 : Int) = 1) = true from rfl]
   refine go ?_
   refine jE 8 [] rfl rfl (by kernel_rfl) (by kernel_rfl) (by kernel_rfl) ?_
   refine goQ ?_
   refine r_q (jG jB [pI y.1] rfl rfl rfl rfl rfl rfl (by first | omega | (simp; done) | (simp; omega)) (by first | omega | (simp; done) | (simp; omega)) (by first | (simp; done) | exact List.cons_ne_nil _ _) (qE (jH5 hy))) rfl rfl ?_
   refine goQ ?_
   refine qF (n := T.length) (m := 1) (qs := [pI y.1]) jB rfl rfl rfl rfl rfl rfl rfl rfl rfl rfl rfl rfl rfl (by unfold maxLen; omega) (by show (_ + _) * 8 ≤ _; omega) ?_
   refine go ?_
   refine jE 8 [] rfl rfl (by kernel_rfl) (by kernel_rfl) (by kernel_rfl) ?_
   refine goQ ?_
   refine r_q (jG jB [pI y.2] rfl rfl rfl rfl rfl rfl (by first | omega | (simp; done) | (simp; omega)) (by first | omega | (simp; done) | (simp; omega)) (by first | (simp; done) | exact List.cons_ne_nil _ _) (qE (jL2 hy))) rfl rfl ?_
   refine goQ ?_
   refine qF (n := T.length) (m := 1) (qs := [pI y.2]) jB rfl rfl rfl rfl rfl rfl rfl rfl rfl rfl rfl rfl rfl (by unfold maxLen; omega) (by show (_ + _) * 8 ≤ _; omega) ?_
   refine go ?_
   refine ⟨(i + 1, T ++ [y]), ⟨by simp only; omega, by simp only; rw [hT, erase_more hy h2]⟩, by simp only; omega, ?_⟩
   show Ghost _ _ ⟨[(6, _), (5, .ptr 2 0), (4, .ptr 1 0), (2, .ptr 0 0), (1, dI k)], [(2, [dI 1, .tip 0 (T ++ [y]).length (kD (qA (T ++ [y]))), .tip 1 (T ++ [y]).length (kD (qC (T ++ [y])))]), (1, [dI 0, .p (.sl true 0 []), .p (.sl true 0 [])]), (0, [dI 1, kK (qA S), kK (qC S)])], [(0, ⟨3, 1, (T ++ [y]).length⟩), (1, ⟨3, 1, (T ++ [y]).length⟩)]⟩
   rw [show (T ++ [y]).length = T.length + 1 by simp, show kD (qA (T ++ [y])) = kD (qA T) ++ [pI y.1] by simp [qA, kD], show kD (qC (T ++ [y])) = kD (qC T) ++ [pI y.2] by simp [qC, kD]]
   exact zX
 ·have h1' := of_decide_eq_false h1
  rw [List.take_of_length_le (by omega)] at hT
  refine go ?_
  refine jF rfl ?_
  rw [← hT]
  show Dt.agg [_, .p (.sl _ T.length _), .p (.sl _ T.length _)] = Dt.agg [_, .p (.sl _ _ _), .p (.sl _ _ _)]
  rw [hTk, hTv]
theorem doP_len (S : jX) (o : OpT) : (doP S o).1.length ≤ S.length + 1 := by
 have h := fun x => (jR9 x S).length_eq
 have h2 := List.length_eraseIdx_le S (vY S o.a)
 unfold doP
 repeat' split
 all_goals first | (rw [h]; exact Nat.le_refl _) | (simp only; omega)
set_option maxHeartbeats 4000000 in
theorem do9_c (S : jX) (o : OpT) (hl : S.length ≤ 1000000) (ho : o.kind = 1 ∨ o.kind = 2 ∨ o.kind = 3) : kA Tryz.prog 23 [dMap S, dOp o] (dDid9 (doP S o)) := by
 have hat := at9_c S o.a hl
 have hof := of9_k o.kind ho
 have hw := with9_c S o.a o.b hl
 have hwo := without9_c S (vY S o.a) hl
 have hvl : (qC S).length = S.length := List.length_map _
 have hget : vY S o.a < S.length → ∃ y, S[vY S o.a]? = some y ∧ S.getD (vY S o.a) (0, 0) = y := fun h => ⟨S[vY S o.a], List.getElem?_eq_getElem h, by simp [List.getD_eq_getElem?_getD, h]⟩
 obtain ⟨kd, ob, a, b⟩ := o
 simp only at ho hat hw hwo hget hof
 unfold doP
 simp only
 generalize vY S a = n at *
 generalize hr : (if n < S.length then (n : Int) else -1) = r at hat
 refine jO jB Tryz.func23 rfl Tryz.ntmps23 rfl rfl rfl fun w cl => ?_
 refine go ?_
 refine a_q (jA (hof) rfl (fun a w => Tryz.call57 a w) rfl) rfl rfl rfl ?_
 refine go ?_
 rw [show decide ((1 : Int) = 0) = false from rfl]
 refine go ?_
 rw [show decide ((1 : Int) = 1) = true from rfl]
 refine go ?_
 rw [show decide ((1 : Int) = 1) = true from rfl]
 refine go ?_
 refine a_q (jA (hat) rfl (fun a w => Tryz.call58 a w) rfl) rfl rfl rfl ?_
 refine go ?_
 by_cases hn : n < S.length
 ·rw [if_pos hn] at hr
  subst hr
  obtain ⟨y, hy, hyg⟩ := hget hn
  rw [show decide ((n : Int) ≥ 0) = true by rw [decide_eq_true_eq]; omega]
  rcases ho with rfl | rfl | rfl
  ·rw [if_pos rfl, if_pos hn, hyg]
   refine go ?_
   rw [show decide ((1 : Int) = 1) = true from rfl]
   refine go ?_
   refine jY [2] rfl (by kernel_rfl) (by kernel_rfl) ?_
   refine goQ ?_
   refine r_q (jG jB [pI y.2] rfl rfl rfl rfl rfl rfl (by first | omega | (simp; done) | (simp; omega)) (by first | omega | (simp; done) | (simp; omega)) (by first | (simp; done) | exact List.cons_ne_nil _ _) (qE (jL2 hy))) rfl rfl ?_
   refine goQ ?_
   refine go ?_
   first | refine jF rfl ?_ | refine jC rfl ?_
   rfl
  ·rw [if_neg (by omega), if_pos rfl, if_pos hn]
   refine go ?_
   rw [show decide ((2 : Int) = 1) = false from rfl]
   refine go ?_
   rw [show decide ((2 : Int) = 2) = true from rfl]
   refine go ?_
   first | refine jF rfl ?_ | refine jC rfl ?_
   rfl
  ·rw [if_neg (by omega), if_neg (by omega), if_pos rfl, if_pos hn]
   refine go ?_
   rw [show decide ((3 : Int) = 1) = false from rfl]
   refine go ?_
   rw [show decide ((3 : Int) = 2) = false from rfl]
   refine go ?_
   rw [show decide ((3 : Int) = 3) = true from rfl]
   refine go ?_
   refine a_q (jA (hwo) rfl (fun a w => Tryz.call60 a w) rfl) rfl rfl rfl ?_
   refine go ?_
   first | refine jF rfl ?_ | refine jC rfl ?_
   rfl
 ·rw [if_neg hn] at hr
  subst hr
  rw [show decide ((-1 : Int) ≥ 0) = false from rfl]
  rcases ho with rfl | rfl | rfl
  ·rw [if_pos rfl, if_neg hn]
   refine go ?_
   rw [show decide ((1 : Int) = 1) = true from rfl]
   refine go ?_
   first | refine jF rfl ?_ | refine jC rfl ?_
   rfl
  ·rw [if_neg (by omega), if_pos rfl, if_neg hn]
   refine go ?_
   rw [show decide ((2 : Int) = 1) = false from rfl]
   refine go ?_
   rw [show decide ((2 : Int) = 2) = true from rfl]
   refine go ?_
   refine a_q (jA (hw) rfl (fun a w => Tryz.call59 a w) rfl) rfl rfl rfl ?_
   refine go ?_
   first | refine jF rfl ?_ | refine jC rfl ?_
   rfl
  ·rw [if_neg (by omega), if_neg (by omega), if_pos rfl, if_neg hn]
   refine go ?_
   rw [show decide ((3 : Int) = 1) = false from rfl]
   refine go ?_
   rw [show decide ((3 : Int) = 2) = false from rfl]
   refine go ?_
   rw [show decide ((3 : Int) = 3) = true from rfl]
   refine go ?_
   first | refine jF rfl ?_ | refine jC rfl ?_
   rfl
end Go.Proofs.YtkkldicehapklaaGreat
