/- Calls by their points, contents that are one: their walk. -/
import Derived.Test.YtkkldicehapklaaGreatE18
import Derived.Test.YtkkldicehapklaaGreatM9
import Derived.Test.YtkkldicehapklaaGreatPF
import Derived.Test.YtkkldicehapklaaGreatD19
namespace Go.Proofs.YtkkldicehapklaaGreat
open Go.RowKit
set_option maxRecDepth 100000
theorem same9_c (S T : jX) (hs : S.length ≤ 1000000) : kA Tryz.prog 15 [dMap S, dMap T] (dB (decide (qA S = qA T) && decide (qC S = qC T))) := by
 have h1 := ints_c (qA S) (qA T) (by rw [List.length_map]; omega)
 have h2 := ints_c (qC S) (qC T) (by rw [List.length_map]; omega)
 generalize decide (qA S = qA T) = p at *
 generalize decide (qC S = qC T) = q at *
 refine jO jB Tryz.func15 rfl Tryz.ntmps15 rfl rfl rfl fun w cl => ?_
 refine go ?_
 refine a_q (jA (h1) rfl (fun a w => Tryz.call24 a w) rfl) rfl rfl rfl ?_
 refine go ?_
 refine a_q (jA (h2) rfl (fun a w => Tryz.call24 a w) rfl) rfl rfl rfl ?_
 refine go ?_
 cases p <;> cases q
 ·refine go ?_
  first | refine jF rfl ?_ | refine jC rfl ?_
  rfl
 ·refine go ?_
  first | refine jF rfl ?_ | refine jC rfl ?_
  rfl
 ·refine go ?_
  first | refine jF rfl ?_ | refine jC rfl ?_
  rfl
 ·refine go ?_
  first | refine jF rfl ?_ | refine jC rfl ?_
  rfl
theorem jF6 {l : List HCallT} {i : Int} {x : HCallT} (h : l[i.toNat]? = some x) : ∀ (m : Nat) q, [pI x.who, pI x.op.kind, pI x.op.obj, pI x.op.a, pI x.op.b, pI x.val, pB x.is, pI x.first, pI x.last, pI x.point][m]? = some q → (wD l)[i.toNat * 10 + m]? = some q := jP5 (f := pCall) (k := 10) (fun _ => rfl) h
abbrev blsC (l : List Bool) : List Dt := l.map dB
theorem blsC_plain (l : List Bool) : PlainC (blsC l) := by
 intro B G
 induction l with
 | nil => rfl
 | cons x l ih => exact ih
theorem blsC_zero (n : Nat) : List.replicate n (yW (.bool false)) = blsC (List.replicate n false) := by simp [blsC]; exact .inr rfl
theorem blsC_get {l : List Bool} {i : Nat} (h : i < l.length) : (blsC l)[i]? = some (dB (l.getD i true)) := by simp [blsC, List.getD_eq_getElem?_getD, h]
theorem blsC_set (l : List Bool) (i : Nat) (v : Bool) : (blsC l).set i (dB v) = blsC (l.set i v) := by simp [blsC]
set_option maxHeartbeats 16000000 in
theorem by_c (l : List HCallT) (ord : Nat → Nat) (C : Nat → jX) (hB : ByOk l ord C) (hl : l.length ≤ 1000) (hC : ∀ n, n ≤ l.length → (C n).length ≤ 100000) : kA Tryz.prog 14 [dMap (C 0), jN5 l] (.tup [dMap (C l.length), dB true]) := by
 have hpl : ∀ {xs : List Bool} (B : Nat → Bool) (G : Nat → Bool), Dt.ok.oks B G (blsC xs) = true := fun B G => blsC_plain _ B G
 refine jO jB Tryz.func14 rfl Tryz.ntmps14 rfl rfl rfl fun w cl => ?_
 refine go ?_
 refine a_b (kH9 jB 40 (c := l.length) rfl rfl rfl rfl rfl rfl rfl rfl rfl (by show _ * 1 ≤ _; omega) (by unfold maxLen; omega)) rfl rfl rfl rfl ?_
 rw [show List.replicate l.length (yW (Value.bool false)) = blsC (List.replicate l.length false) from blsC_zero _]
 refine go ?_
 refine jP (fun n : Nat => n ≤ l.length) (fun n => ⟨[(7, dI n), (6, .arr 40 0 l.length l.length), (5, dB false), (4, .ptr 1 0), (2, .ptr 0 0), (1, jN5 l)], [(40, blsC (dnF l.length ord n)), (1, [dI 0, .p (.sl true 0 []), .p (.sl true 0 [])]), (0, [dI 1, kK (qA (C n)), kK (qC (C n))])], []⟩) (fun n => l.length - n) 0 (Nat.zero_le _) (kX (by (repeat (first | exact trivial | refine ⟨⟨rfl, rfl⟩, ?_⟩))) (by (repeat (first | exact trivial | refine ⟨⟨rfl, rfl⟩, ?_⟩ | refine ⟨⟨rfl, hpl _ _⟩, ?_⟩))) (by (repeat (first | exact trivial | refine ⟨rfl, ?_⟩))) (by (repeat (first | exact trivial | refine ⟨rfl, ?_⟩)))) ?_
 intro n hn
 have hdl := dnF_len l.length ord n
 have hCn := hC n hn
 have hbest := hB.best n
 have hlt := hB.lt n
 have hat := hB.at_ n
 have hdn1 : dnF l.length ord (n + 1) = (dnF l.length ord n).set (ord n) true := rfl
 generalize dnF l.length ord n = dn at *
 refine (show AWP _ _ _ _ ⟨[(7, dI n), (6, .arr 40 0 l.length l.length), (5, dB false), (4, .ptr 1 0), (2, .ptr 0 0), (1, jN5 l)], [(40, blsC dn), (1, [dI 0, .p (.sl true 0 []), .p (.sl true 0 [])]), (0, [dI 1, kK (qA (C n)), kK (qC (C n))])], []⟩ from ?_)
 refine go ?_
 refine xQ (fun h1 => ?_) (fun h1 => ?_) <;> try rw [h1]
 ·have h1' := of_decide_eq_true h1
  have hnl : n < l.length := by omega
  have hbest := hbest hnl
  have hlt := hlt hnl
  refine go ?_
  refine kL5 (ι := Unit) (.exit 2) (fun _ => ⟨[(8, dI (jA9 l dn l.length)), (7, dI n), (6, .arr 40 0 l.length l.length), (5, dB false), (4, .ptr 1 0), (2, .ptr 0 0), (1, jN5 l)], [(40, blsC dn), (1, [dI 0, .p (.sl true 0 []), .p (.sl true 0 [])]), (0, [dI 1, kK (qA (C n)), kK (qC (C n))])], []⟩) (fun _ => True) ?_ ?_
  ·refine jP (fun i : Nat => i ≤ l.length) (fun i => ⟨[(9, dI i), (8, dI (jA9 l dn i)), (7, dI n), (6, .arr 40 0 l.length l.length), (5, dB false), (4, .ptr 1 0), (2, .ptr 0 0), (1, jN5 l)], [(40, blsC dn), (1, [dI 0, .p (.sl true 0 []), .p (.sl true 0 [])]), (0, [dI 1, kK (qA (C n)), kK (qC (C n))])], []⟩) (fun i => l.length - i) 0 (Nat.zero_le _) (kX (by (repeat (first | exact trivial | refine ⟨⟨rfl, rfl⟩, ?_⟩))) (by (repeat (first | exact trivial | refine ⟨⟨rfl, rfl⟩, ?_⟩ | refine ⟨⟨rfl, hpl _ _⟩, ?_⟩))) (by (repeat (first | exact trivial | refine ⟨rfl, ?_⟩))) (by (repeat (first | exact trivial | refine ⟨rfl, ?_⟩)))) ?_
   intro i hi
   have hr := best_rng l dn i
   have hbs : jA9 l dn (i + 1) = if dn.getD i true = false ∧ (jA9 l dn i < 0 ∨ (l.getD i call0).point < (l.getD (jA9 l dn i).toNat call0).point) then (i : Int) else jA9 l dn i := rfl
   refine (show AWP _ _ _ _ ⟨[(9, dI i), (8, dI (jA9 l dn i)), (7, dI n), (6, .arr 40 0 l.length l.length), (5, dB false), (4, .ptr 1 0), (2, .ptr 0 0), (1, jN5 l)], [(40, blsC dn), (1, [dI 0, .p (.sl true 0 []), .p (.sl true 0 [])]), (0, [dI 1, kK (qA (C n)), kK (qC (C n))])], []⟩ from ?_)
   generalize hbd : jA9 l dn i = b at *
   refine go ?_
   refine xQ (fun h2 => ?_) (fun h2 => ?_) <;> try rw [h2]
   ·have h2' := of_decide_eq_true h2
    have hil : i < l.length := by omega
    have hbl : (blsC dn).length = l.length := by rw [List.length_map]; exact hdl
    have hg : (blsC dn)[i]? = some (dB (dn.getD i true)) := blsC_get (by omega)
    obtain ⟨x, hx⟩ : ∃ x, l[i]? = some x := ⟨l[i], List.getElem?_eq_getElem hil⟩
    have hxi : l[(i : Int).toNat]? = some x := by simpa using hx
    have hxd : l.getD i call0 = x := by rw [List.getD_eq_getElem?_getD, hx]; rfl
    rw [hxd] at hbs
    generalize dn.getD i true = dv at hg hbs
    refine go ?_
    cases dv
    ·by_cases hb : b < 0
     ·rw [if_pos ⟨rfl, .inl hb⟩] at hbs
      refine jY [] rfl (by kernel_rfl) (by kernel_rfl) ?_
      refine goQ ?_
      refine r_q (jJ (p := i) jB rfl rfl rfl rfl rfl (by omega) (by omega) (by show i = (i : Int).toNat * 1; omega)) rfl rfl ?_
      refine r_q (kS jB rfl rfl rfl rfl rfl hg) rfl rfl ?_
      refine goQ ?_
      rw [show decide (b < 0) = true from decide_eq_true hb]
      refine goQ ?_
      refine go ?_
      refine ⟨i + 1, by omega, by omega, ?_⟩
      rw [hbs]
      exact kX (by (repeat (first | exact trivial | refine ⟨⟨rfl, rfl⟩, ?_⟩))) (by (repeat (first | exact trivial | refine ⟨⟨rfl, rfl⟩, ?_⟩ | refine ⟨⟨rfl, hpl _ _⟩, ?_⟩))) (by (repeat (first | exact trivial | refine ⟨rfl, ?_⟩))) (by (repeat (first | exact trivial | refine ⟨rfl, ?_⟩)))
     ·obtain ⟨y, hy⟩ : ∃ y, l[b.toNat]? = some y := ⟨l[b.toNat]'(by omega), List.getElem?_eq_getElem _⟩
      have hyd : l.getD b.toNat call0 = y := by rw [List.getD_eq_getElem?_getD, hy]; rfl
      rw [hyd] at hbs
      refine jY [] rfl (by kernel_rfl) (by kernel_rfl) ?_
      refine goQ ?_
      refine r_q (jJ (p := i) jB rfl rfl rfl rfl rfl (by omega) (by omega) (by show i = (i : Int).toNat * 1; omega)) rfl rfl ?_
      refine r_q (kS jB rfl rfl rfl rfl rfl hg) rfl rfl ?_
      refine goQ ?_
      rw [show decide (b < 0) = false from decide_eq_false hb]
      refine goQ ?_
      refine r_q (jG jB [pI x.who, pI x.op.kind, pI x.op.obj, pI x.op.a, pI x.op.b, pI x.val, pB x.is, pI x.first, pI x.last, pI x.point] rfl rfl rfl rfl rfl rfl (by first | omega | (simp; done) | (simp; omega)) (by first | omega | (simp; done) | (simp; omega)) (by first | (simp; done) | exact List.cons_ne_nil _ _) (jF6 hxi)) rfl rfl ?_
      refine goQ ?_
      refine r_q (jG jB [pI y.who, pI y.op.kind, pI y.op.obj, pI y.op.a, pI y.op.b, pI y.val, pB y.is, pI y.first, pI y.last, pI y.point] rfl rfl rfl rfl rfl rfl (by first | omega | (simp; done) | (simp; omega)) (by first | omega | (simp; done) | (simp; omega)) (by first | (simp; done) | exact List.cons_ne_nil _ _) (jF6 hy)) rfl rfl ?_
      refine goQ ?_
      refine go ?_
      by_cases hc : x.point < y.point
      ·rw [show decide (x.point < y.point) = true from decide_eq_true hc]
       rw [if_pos ⟨rfl, .inr hc⟩] at hbs
       refine go ?_
       refine ⟨i + 1, by omega, by omega, ?_⟩
       rw [hbs]
       exact kX (by (repeat (first | exact trivial | refine ⟨⟨rfl, rfl⟩, ?_⟩))) (by (repeat (first | exact trivial | refine ⟨⟨rfl, rfl⟩, ?_⟩ | refine ⟨⟨rfl, hpl _ _⟩, ?_⟩))) (by (repeat (first | exact trivial | refine ⟨rfl, ?_⟩))) (by (repeat (first | exact trivial | refine ⟨rfl, ?_⟩)))
      ·rw [show decide (x.point < y.point) = false from decide_eq_false hc]
       rw [if_neg (fun h => h.2.elim hb hc)] at hbs
       refine go ?_
       refine ⟨i + 1, by omega, by omega, ?_⟩
       rw [hbs]
       exact kX (by (repeat (first | exact trivial | refine ⟨⟨rfl, rfl⟩, ?_⟩))) (by (repeat (first | exact trivial | refine ⟨⟨rfl, rfl⟩, ?_⟩ | refine ⟨⟨rfl, hpl _ _⟩, ?_⟩))) (by (repeat (first | exact trivial | refine ⟨rfl, ?_⟩))) (by (repeat (first | exact trivial | refine ⟨rfl, ?_⟩)))
    ·rw [if_neg (fun h => by cases h.1)] at hbs
     refine jY [] rfl (by kernel_rfl) (by kernel_rfl) ?_
     refine goQ ?_
     refine r_q (jJ (p := i) jB rfl rfl rfl rfl rfl (by omega) (by omega) (by show i = (i : Int).toNat * 1; omega)) rfl rfl ?_
     refine r_q (kS jB rfl rfl rfl rfl rfl hg) rfl rfl ?_
     refine goQ ?_
     refine go ?_
     refine ⟨i + 1, by omega, by omega, ?_⟩
     rw [hbs]
     exact kX (by (repeat (first | exact trivial | refine ⟨⟨rfl, rfl⟩, ?_⟩))) (by (repeat (first | exact trivial | refine ⟨⟨rfl, rfl⟩, ?_⟩ | refine ⟨⟨rfl, hpl _ _⟩, ?_⟩))) (by (repeat (first | exact trivial | refine ⟨rfl, ?_⟩))) (by (repeat (first | exact trivial | refine ⟨rfl, ?_⟩)))
   ·have h2' : i = l.length := by have := of_decide_eq_false h2; omega
    subst h2'
    rw [← hbd]
    refine go ?_
    exact ⟨rfl, (), trivial, kX (by (repeat (first | exact trivial | refine ⟨⟨rfl, rfl⟩, ?_⟩))) (by (repeat (first | exact trivial | refine ⟨⟨rfl, rfl⟩, ?_⟩ | refine ⟨⟨rfl, hpl _ _⟩, ?_⟩))) (by (repeat (first | exact trivial | refine ⟨rfl, ?_⟩))) (by (repeat (first | exact trivial | refine ⟨rfl, ?_⟩)))⟩
  rintro σ' _ _ hgh
  refine zR (zM (kP hgh ?_))
  clear hgh
  rw [hbest]
  obtain ⟨x, hx⟩ : ∃ x, l[ord n]? = some x := ⟨l[ord n], List.getElem?_eq_getElem hlt⟩
  have hxi : l[((ord n : Nat) : Int).toNat]? = some x := by simpa using hx
  obtain ⟨a1, a2, a3, a4⟩ := hat x hnl hx
  have hdo := do9_c (C n) x.op (by omega) a1
  rw [a4] at hdo
  refine go ?_
  refine a_q (jJ (p := ord n) jB rfl rfl rfl rfl rfl (by omega) (by omega) (by show ord n = ((ord n : Nat) : Int).toNat * 1; omega)) rfl rfl rfl ?_
  refine vU jB rfl rfl rfl rfl rfl rfl rfl rfl rfl (by show ord n < (blsC dn).length; rw [List.length_map]; omega) ?_
  rw [blsC_set, ← hdn1]
  refine go ?_
  refine jY [] rfl (by kernel_rfl) (by kernel_rfl) ?_
  refine goQ ?_
  refine r_q (jG jB [pI x.who, pI x.op.kind, pI x.op.obj, pI x.op.a, pI x.op.b, pI x.val, pB x.is, pI x.first, pI x.last, pI x.point] rfl rfl rfl rfl rfl rfl (by first | omega | (simp; done) | (simp; omega)) (by first | omega | (simp; done) | (simp; omega)) (by first | (simp; done) | exact List.cons_ne_nil _ _) (jF6 hxi)) rfl rfl ?_
  refine goQ ?_
  refine r_q (jA (hdo) rfl (fun a w => Tryz.call23 a w) rfl) rfl rfl ?_
  refine goQ ?_
  refine go ?_
  refine jY [] rfl (by kernel_rfl) (by kernel_rfl) ?_
  refine goQ ?_
  refine r_q (jG jB [pI x.who, pI x.op.kind, pI x.op.obj, pI x.op.a, pI x.op.b, pI x.val, pB x.is, pI x.first, pI x.last, pI x.point] rfl rfl rfl rfl rfl rfl (by first | omega | (simp; done) | (simp; omega)) (by first | omega | (simp; done) | (simp; omega)) (by first | (simp; done) | exact List.cons_ne_nil _ _) (jF6 hxi)) rfl rfl ?_
  refine goQ ?_
  refine r_q (jG jB [pI x.who, pI x.op.kind, pI x.op.obj, pI x.op.a, pI x.op.b, pI x.val, pB x.is, pI x.first, pI x.last, pI x.point] rfl rfl rfl rfl rfl rfl (by first | omega | (simp; done) | (simp; omega)) (by first | omega | (simp; done) | (simp; omega)) (by first | (simp; done) | exact List.cons_ne_nil _ _) (jF6 hxi)) rfl rfl ?_
  refine goQ ?_
  rw [show decide (x.point < x.first) = false by rw [decide_eq_false_iff_not]; omega]
  refine goQ ?_
  refine r_q (jG jB [pI x.who, pI x.op.kind, pI x.op.obj, pI x.op.a, pI x.op.b, pI x.val, pB x.is, pI x.first, pI x.last, pI x.point] rfl rfl rfl rfl rfl rfl (by first | omega | (simp; done) | (simp; omega)) (by first | omega | (simp; done) | (simp; omega)) (by first | (simp; done) | exact List.cons_ne_nil _ _) (jF6 hxi)) rfl rfl ?_
  refine goQ ?_
  refine r_q (jG jB [pI x.who, pI x.op.kind, pI x.op.obj, pI x.op.a, pI x.op.b, pI x.val, pB x.is, pI x.first, pI x.last, pI x.point] rfl rfl rfl rfl rfl rfl (by first | omega | (simp; done) | (simp; omega)) (by first | omega | (simp; done) | (simp; omega)) (by first | (simp; done) | exact List.cons_ne_nil _ _) (jF6 hxi)) rfl rfl ?_
  refine goQ ?_
  rw [show decide (x.point > x.last) = false by rw [decide_eq_false_iff_not]; omega]
  refine goQ ?_
  refine r_q (jG jB [pI x.who, pI x.op.kind, pI x.op.obj, pI x.op.a, pI x.op.b, pI x.val, pB x.is, pI x.first, pI x.last, pI x.point] rfl rfl rfl rfl rfl rfl (by first | omega | (simp; done) | (simp; omega)) (by first | omega | (simp; done) | (simp; omega)) (by first | (simp; done) | exact List.cons_ne_nil _ _) (jF6 hxi)) rfl rfl ?_
  refine goQ ?_
  rw [show decide (x.val = x.val) = true from decide_eq_true rfl]
  refine goQ ?_
  refine r_q (jG jB [pI x.who, pI x.op.kind, pI x.op.obj, pI x.op.a, pI x.op.b, pI x.val, pB x.is, pI x.first, pI x.last, pI x.point] rfl rfl rfl rfl rfl rfl (by first | omega | (simp; done) | (simp; omega)) (by first | omega | (simp; done) | (simp; omega)) (by first | (simp; done) | exact List.cons_ne_nil _ _) (jF6 hxi)) rfl rfl ?_
  refine goQ ?_
  refine go ?_
  refine (show CK (!(x.is == x.is)) _ _ from ?_)
  rw [show (x.is == x.is) = true from beq_self_eq_true _]
  refine go ?_
  exact ⟨n + 1, by omega, by omega, kX (by (repeat (first | exact trivial | refine ⟨⟨rfl, rfl⟩, ?_⟩))) (by (repeat (first | exact trivial | refine ⟨⟨rfl, rfl⟩, ?_⟩ | refine ⟨⟨rfl, hpl _ _⟩, ?_⟩))) (by (repeat (first | exact trivial | refine ⟨rfl, ?_⟩))) (by (repeat (first | exact trivial | refine ⟨rfl, ?_⟩)))⟩
 ·have h1' : n = l.length := by have := of_decide_eq_false h1; omega
  subst h1'
  refine go ?_
  first | refine jF rfl ?_ | refine jC rfl ?_
  rfl
end Go.Proofs.YtkkldicehapklaaGreat
