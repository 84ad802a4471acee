/- What a map has: its walk, where it has nothing. -/
import Derived.Test.YtkkldicehapklaaGreatEA
import Derived.Test.YtkkldicehapklaaGreatE3
import Derived.Test.YtkkldicehapklaaGreatWA
import Derived.Test.YtkkldicehapklaaGreatPB
namespace Go.Proofs.YtkkldicehapklaaGreat
open Go.RowKit
set_option maxRecDepth 100000
theorem and1 (a : Int) : IntKind.i64.wrap (((BitVec.ofInt 64 a &&& BitVec.ofInt 64 1).toNat : Nat) : Int) = a % 2 := and_low a 1 (by omega)
abbrev fnS : Dt := .fn (.func 31) [] []
theorem ins0_c : ImpC Tryz.prog 89 [] [.p (.sl true 0 []), dI 0, dI 0, fnS] [] (fun d bs => d = .tup [] ∧ bs = []) := by
 refine vV jB Tryz.func89 rfl Tryz.ntmps89 rfl rfl rfl (by (repeat (first | exact trivial | refine ⟨rfl, ?_⟩))) fun w cl own kf => ?_
 refine go ?_
 refine jP (fun _ : Unit => True) (fun _ => ⟨[(8, dI 1), (2, dI 0)], [], []⟩) (fun _ => 0) () trivial (zX) ?_
 intro _ _
 refine go ?_
 rw [show decide ((1 : Int) < 0) = false from rfl]
 refine go ?_
 refine qD (d := .tup []) [] ?_ rfl trivial trivial ⟨rfl, rfl⟩
 rfl
theorem stable0_c : ImpC Tryz.prog 66 [] [.p (.sl true 0 []), dI 0, fnS] [] (fun d bs => d = .tup [] ∧ bs = []) := by
 refine vV jB Tryz.func66 rfl Tryz.ntmps66 rfl rfl rfl (by (repeat (first | exact trivial | refine ⟨rfl, ?_⟩))) fun w cl own kf => ?_
 refine go ?_
 refine jP (fun _ : Unit => True) (fun _ => ⟨[(8, dI 20), (7, dI 0), (6, dI 20), (0, .p (.sl true 0 [])), (1, dI 0), (2, fnS)], [], []⟩) (fun _ => 0) () trivial (zX) ?_
 intro _ _
 refine go ?_
 rw [show decide ((20 : Int) ≤ 0) = false from rfl]
 refine go ?_
 refine yX (ins0_c) rfl (fun a w => Tryz.call89 a w) rfl rfl (by (repeat (first | exact trivial | refine ⟨⟨rfl, rfl⟩, ?_⟩))) (by (repeat (first | exact trivial | refine ⟨.inr rfl, ?_⟩ | refine ⟨.inl rfl, ?_⟩))) rfl rfl rfl rfl ?_ ?_
 ·rintro d bs ⟨rfl, rfl⟩; exact trivial
 rintro d bs ⟨rfl, rfl⟩
 refine go ?_
 refine jP (fun _ : Unit => True) (fun _ => ⟨[(6, dI 20), (1, dI 0)], [], []⟩) (fun _ => 0) () trivial (zX) ?_
 intro _ _
 refine go ?_
 rw [show decide ((20 : Int) < 0) = false from rfl]
 refine go ?_
 refine qD (d := .tup []) [] ?_ rfl trivial trivial ⟨rfl, rfl⟩
 rfl
theorem sort0_c : ImpC Tryz.prog 30 [] [.p (.sl true 0 []), fnS] [] (fun d bs => d = .tup [] ∧ bs = []) := by
 refine vV jB Tryz.func30 rfl Tryz.ntmps30 rfl rfl rfl (by (repeat (first | exact trivial | refine ⟨rfl, ?_⟩))) fun w cl own kf => ?_
 refine go ?_
 refine yX (stable0_c) rfl (fun a w => Tryz.call66 a w) rfl rfl (by (repeat (first | exact trivial | refine ⟨⟨rfl, rfl⟩, ?_⟩))) (by (repeat (first | exact trivial | refine ⟨.inr rfl, ?_⟩ | refine ⟨.inl rfl, ?_⟩))) rfl rfl rfl rfl ?_ ?_
 ·rintro d bs ⟨rfl, rfl⟩; exact trivial
 rintro d bs ⟨rfl, rfl⟩
 refine go ?_
 refine qD (d := .tup []) [] ?_ rfl trivial trivial ⟨rfl, rfl⟩
 rfl
set_option maxHeartbeats 8000000 in
theorem content0_c (l : jN) (hL : qJ l) (hM : jG3 l) (m : List Int) (bk hd : Int) (R : List (Int × Int)) (hb : qR l 0 0 = bk) (hb0 : 0 ≤ bk) (hb1 : bk < m.length) (hh : jQ l (ofW (atF m bk)).idx 0 = hd) (hR : rowF l m hd = R) (hK : ∀ r ∈ R, r.1 % 2 ≠ 1) (hRl : R.length ≤ 2000) :
  kA Tryz.prog 16 [wO l, jM4 m, dI 0] (.agg [dI 1, kK [], kK []]) := by
 have hBu := jY6 l hL hM 0 0
 rw [hb] at hBu
 have hRo := row_c l hL m hd
 rw [hR] at hRo
 have hx : m[bk.toNat]? = some (atF m bk) := by
  unfold atF
  rw [if_neg (by omega)]
  exact jG8 hb0 hb1
 have hNo := jD2 l hL (ofW (atF m bk)).idx 0 (by have := xT (atF m bk); omega) (by omega)
 rw [hh] at hNo
 refine jO jB Tryz.func16 rfl Tryz.ntmps16 rfl rfl rfl fun w cl => ?_
 refine go ?_
 refine a_q (jA (hBu) rfl (fun a w => Tryz.call25 a w) rfl) rfl rfl rfl ?_
 refine go ?_
 rw [show decide (bk < 0) = false by rw [decide_eq_false_iff_not]; omega]
 refine go ?_
 rw [show decide (bk ≥ m.length) = false by rw [decide_eq_false_iff_not]; omega]
 refine go ?_
 refine jY [] rfl (by kernel_rfl) (by kernel_rfl) ?_
 refine goQ ?_
 refine r_q (jG jB [pI (atF m bk)] rfl rfl rfl rfl rfl rfl (by first | omega | (simp; done) | (simp; omega)) (by first | omega | (simp; done) | (simp; omega)) (by first | (simp; done) | exact List.cons_ne_nil _ _) (qE hx)) rfl rfl ?_
 refine goQ ?_
 refine r_q (jA (of_c (atF m bk)) rfl (fun a w => Tryz.call28 a w) rfl) rfl rfl ?_
 refine goQ ?_
 refine r_q (jA (hNo) rfl (fun a w => Tryz.call27 a w) rfl) rfl rfl ?_
 refine goQ ?_
 refine r_q (jA (hRo) rfl (fun a w => Tryz.call26 a w) rfl) rfl rfl ?_
 refine goQ ?_
 refine go ?_
 refine jP (fun i : Nat => i ≤ R.length) (fun i => ⟨[(41, dI i), (40, dI R.length), (39, vG R), (9, .p (.sl true 0 [])), (7, .ptr 3 0), (6, .ptr 2 0)], [(3, [dI 1, .p (.sl true 0 []), .p (.sl true 0 [])]), (2, [dI 0, .p (.sl true 0 []), .p (.sl true 0 [])]), (1, [kK m]), (0, xL l)], []⟩) (fun i => R.length - i) 0 (by omega) (zX) ?_
 intro i hi
 refine (show AWP _ _ _ _ ⟨[(41, dI i), (40, dI R.length), (39, vG R), (9, .p (.sl true 0 [])), (7, .ptr 3 0), (6, .ptr 2 0)], [(3, [dI 1, .p (.sl true 0 []), .p (.sl true 0 [])]), (2, [dI 0, .p (.sl true 0 []), .p (.sl true 0 [])]), (1, [kK m]), (0, xL l)], []⟩ from ?_)
 refine go ?_
 refine xQ (fun h1 => ?_) (fun h1 => ?_) <;> try rw [h1]
 ·have h1' := of_decide_eq_true h1
  obtain ⟨r, hr⟩ := getI (l := R) (i := i) (by omega) h1'
  have hr2 := hK r (List.mem_of_getElem? hr)
  refine go ?_
  refine a_q (jG jB [pI r.1, pI r.2] rfl rfl rfl rfl rfl rfl (by first | omega | (simp; done) | (simp; omega)) (by first | omega | (simp; done) | (simp; omega)) (by first | (simp; done) | exact List.cons_ne_nil _ _) (jZ4 hr)) rfl rfl rfl ?_
  refine go ?_
  refine a_q (jZ jB rfl rfl rfl rfl rfl (by omega) (by omega)) rfl rfl rfl ?_
  refine go ?_
  refine go ?_
  rw [and1, show decide (r.1 % 2 = 1) = false by rw [decide_eq_false_iff_not]; exact hr2]
  refine go ?_
  exact ⟨i + 1, by omega, by omega, zX⟩
 ·have h1' : i = R.length := by have := of_decide_eq_false h1; omega
  refine go ?_
  refine yX (sort0_c) rfl (fun a w => Tryz.call30 a w) rfl rfl (by (repeat (first | exact trivial | refine ⟨⟨rfl, rfl⟩, ?_⟩))) (by (repeat (first | exact trivial | refine ⟨.inr rfl, ?_⟩ | refine ⟨.inl rfl, ?_⟩))) rfl rfl rfl rfl ?_ ?_
  ·rintro d bs ⟨rfl, rfl⟩; exact trivial
  rintro d bs ⟨rfl, rfl⟩
  refine go ?_
  refine jP (fun _ : Unit => True) (fun _ => ⟨[(63, dI 0), (62, dI 0), (61, .p (.sl true 0 [])), (7, .ptr 3 0), (6, .ptr 2 0)], [(3, [dI 1, .p (.sl true 0 []), .p (.sl true 0 [])]), (2, [dI 0, .p (.sl true 0 []), .p (.sl true 0 [])]), (1, [kK m]), (0, xL l)], []⟩) (fun _ => 0) () trivial (zX) ?_
  intro _ _
  refine go ?_
  rw [show decide ((0 : Int) < 0) = false from rfl]
  refine go ?_
  first | refine jF rfl ?_ | refine jC rfl ?_
  rfl
end Go.Proofs.YtkkldicehapklaaGreat
