/- A map's programs: to come to a bucket: its walk. -/
import Derived.Test.YtkkldicehapklaaGreatH3
import Derived.Test.YtkkldicehapklaaGreatRx
namespace Go.Proofs.YtkkldicehapklaaGreat
open Go.RowKit
set_option maxRecDepth 100000
section
variable {P : Program} {Γ : Ctx} {Q : Exit → St → Prop} {x y : Code} {σ : St}
theorem ax_in {p q r A B : Prop} (h1 : p) (h2 : q) (h3 : r) (hB : B) (hA : B → A) : p ∧ q ∧ r ∧ A ∧ B := ⟨h1, h2, h3, hA hB, hB⟩
def cutQ {ι : Type} (Γ : Ctx) (ok : ι → Prop) (I : ι → St) (Q : Exit → St → Prop) : Exit → St → Prop
 | .normal, σ => ∃ p, ok p ∧ Ghost Γ σ (I p)
 | ex, σ => Q ex σ
theorem jM1 {ι : Type} (ok : ι → Prop) (I : ι → St) (h1 : AWP P Γ x (cutQ Γ ok I Q) σ) (h2 : ∀ p, ok p → AWP P Γ y Q (I p)) : AWP P Γ x (jR0 (AWP P Γ y Q) Q) σ :=
 jL1 h1 fun ex σ' h => by
  cases ex with
  | normal => obtain ⟨p, hp, hg⟩ := h; exact kP hg (h2 p hp)
  | _ => exact h
theorem vM {ι : Type} {ok : ι → Prop} {I : ι → St} {c : List PanicEntry} (h : Q (.panic c) σ) : cutQ Γ ok I Q (.panic c) σ := h
theorem yQ {l : List Oper} {fuel : Nat} {listed : Array Bool} {c : List PanicEntry} (h : Q (.panic c) σ) : jT5 P Γ l Q fuel listed (.panic c) σ := h
end
abbrev jF0 (l : jN) (me m : Int) (log : List jS) (s : PsT) : Bxs := [(40, prgD l me m log s), (41, [.ptr 40 0]), (46, [.fn (.func 73) [] [.ptr 41 0, .ptr 46 0]])]
structure ComI where
 n : Int
 o : kY
 s : PsT
 ex : Bool
 k : Nat
 ps : List Pl
abbrev comT (p : ComI) : Dt := .tup [dI p.n, .agg [dI p.o.val, dB p.o.is, dI p.o.err, dI p.o.point, .p (.sl p.ex p.k p.ps)]]
structure ComOk (log : List jS) (m : Except AccT ((Int × kY) × PsT)) (s : PsT) (p : ComI) : Prop where
 eq : m = .ok ((p.n, p.o), p.s)
 fi : FiG log s p.s
 n0 : 0 ≤ p.n
 n1 : p.n < 65536
def ComR (bx : PsT → Bxs) (log : List jS) (m : Except AccT ((Int × kY) × PsT)) (s : PsT) : Dt → Bxs → Prop := fun d bs => ∃ p : ComI, ComOk log m s p ∧ d = comT p ∧ bs = bx p.s
theorem FiG.trans3 {log : List jS} {s t u : PsT} (h : FiG log s t) (h2 : FiG log t u) : FiG log s u := ⟨Nat.le_trans h.made h2.made, h2.le, h2.ok, by have := h.len; have := h2.len; have := h.made; have := h2.made; omega⟩
set_option maxHeartbeats 32000000 in
theorem come_step (l : jN) (hL : qJ l) (hS : 0 ≤ l.seats) (hM : jG3 l) (me m : Int) (log : List jS) (k : Nat) (b : Int) (s : PsT) (hb1 : b < 65536) (h0 : At0 log s)
  (ih : b ≠ 0 → ∀ s1, At0 log s1 → ImpX Tryz.prog 73 [40, 41, 46] [dI (yI b), .ptr 41 0, .ptr 46 0] (jF0 l me m log s1) (ComR (jF0 l me m log) log (vQ l me m k (yI b) log s1) s1) (PhX (jF0 l me m log) (vQ l me m k (yI b) log s1))) :
  ImpX Tryz.prog 73 [40, 41, 46] [dI b, .ptr 41 0, .ptr 46 0] (jF0 l me m log s) (ComR (jF0 l me m log) log (vQ l me m (k + 1) b log s) s) (PhX (jF0 l me m log) (vQ l me m (k + 1) b log s)) := by
 generalize hE : vQ l me m (k + 1) b log s = E
 rw [vQ] at hE
 refine sX Tryz.func73 Tryz.ntmps73 fun w cl own kf => ?_
 refine goC ?_
 refine z2 ?_
 refine a_b (jL jB 47 rfl rfl rfl rfl) rfl rfl rfl rfl ?_
 refine go ?_
 refine jE 9 [] rfl rfl (by kernel_rfl) (by kernel_rfl) (by kernel_rfl) ?_
 refine goQ ?_
 refine a_q (jA (jY6 l hL hM m b) rfl (fun a w => Tryz.call25 a w) rfl) rfl rfl rfl ?_
 refine go ?_
 refine cX (sdo_x l me m log s ⟨1, qR l m b, 0, 0⟩ h0) (fun a w => Tryz.call42 a w) ?_ ?_ ?_ ?_
 ·rintro d bs ⟨x, s', _, _, rfl, rfl⟩; exact ⟨.inl rfl, trivial⟩
 ·rintro v bs ⟨a, s', _, rfl, rfl⟩; exact ⟨.inl rfl, trivial⟩
 ·rintro v bs ⟨a, s', h, rfl, rfl⟩
  refine gP ?_
  refine fP (jF0 l me m log s') ?_
  exact ⟨a, s', by rw [← hE]; exact jI h, rfl, rfl⟩
 rintro d bs ⟨r, s1, hq1, hG1, rfl, rfl⟩
 rw [jH hq1] at hE
 have h1 := h0.next hG1
 have hw := xT r.val
 refine go ?_
 refine a_q (jA (of_c r.val) rfl (fun a w => Tryz.call28 a w) rfl) rfl rfl rfl ?_
 refine go ?_
 generalize k1 : decide ((ofW r.val).idx = 0) = cc; cases cc
 ·rw [if_pos (of_decide_eq_false k1)] at hE
  refine go ?_
  first | refine fR (jF0 l me m log s1) ?_ | refine fN (jF0 l me m log s1) ?_
  exact ⟨⟨(ofW r.val).idx, jG7, s1, true, 0, []⟩, ⟨hE.symm, hG1, hw.1, hw.2⟩, rfl, rfl⟩
 rw [if_neg (fun h => h (of_decide_eq_true k1))] at hE
 refine go ?_
 generalize k2 : decide (b = 0) = cc; cases cc
 rotate_left
 ·rw [if_pos (of_decide_eq_true k2)] at hE
  refine go ?_
  first | refine fR (jF0 l me m log s1) ?_ | refine fN (jF0 l me m log s1) ?_
  exact ⟨⟨0, ⟨0, false, 1, -1, []⟩, s1, true, 0, []⟩, ⟨hE.symm, hG1, by simp, by simp⟩, rfl, rfl⟩
 have k2' := of_decide_eq_false k2
 rw [if_neg k2'] at hE
 refine go ?_
 have hih := ih k2' s1 h1
 refine jM1 (fun p : ComI => ComOk log (vQ l me m k (yI b) log s1) s1 p) (fun p => ⟨[(8, dI p.n), (9, .ptr 48 0), (5, .ptr 47 0), (6, dI (qR l m b)), (0, dI b), (1, .ptr 41 0), (2, .ptr 46 0)], [(40, prgD l me m log p.s), (41, [.ptr 40 0]), (46, [.fn (.func 73) [] [.ptr 41 0, .ptr 46 0]]), (47, [dI 0, dB false, dI 0, dI 0, .p (.sl true 0 [])]), (48, [dI p.o.val, dB p.o.is, dI p.o.err, dI p.o.point, .p (.sl p.ex p.k p.ps)])], []⟩) ?_ ?_
 ·have herr : ∀ a, vQ l me m k (yI b) log s1 = .error a → E = .error a := fun a h => by rw [← hE]; exact jI h
  refine jC1 3 7 48 (LA := #[true, true, true, false, false, false, false, false, false, false]) (LB := #[true, true, true, false, false, false, false, true, false, false]) (na := 7) (nb := 6) rfl rfl rfl (by kernel_rfl) (by kernel_rfl) rfl rfl rfl rfl rfl (fun _ _ => jL jB 48 rfl rfl rfl rfl) (by kernel_rfl) (by kernel_rfl) (by kernel_rfl) (by kernel_rfl) rfl ?_
  refine goQ ?_
  refine r_q (jA (parent_c b hb1) rfl (fun a w => Tryz.call8 a w) rfl) rfl rfl ?_
  refine goQ ?_
  refine ax_in rfl rfl rfl ?_ (fun hB => ?_)
  ·refine jT (i := 3) (listed' := #[true, true, true, true, false, false, false, true, false, false]) (by kernel_rfl) rfl (by kernel_rfl) ?_
   refine vF (hih) rfl (fun a w => Tryz.call73 a w) rfl rfl rfl (by (repeat (first | exact trivial | refine ⟨⟨rfl, rfl⟩, ?_⟩))) (by (repeat (first | exact trivial | refine ⟨.inr rfl, ?_⟩ | refine ⟨.inl rfl, ?_⟩))) rfl rfl rfl rfl ?_ ?_ ?_ ?_
   ·rintro d bs ⟨p, _, rfl, rfl⟩; exact ⟨.inl rfl, .inl rfl, .inl rfl, trivial⟩
   ·rintro v bs ⟨a, s', _, rfl, rfl⟩; exact ⟨.inl rfl, .inl rfl, .inl rfl, trivial⟩
   ·rintro v bs ⟨a, s', h, rfl, rfl⟩
    refine yQ (vM ?_)
    refine gP ?_
    refine fP (jF0 l me m log s') ?_
    exact ⟨a, s', herr a h, rfl, rfl⟩
   rintro d bs ⟨p, hp, rfl, rfl⟩
   refine jD (nq (yT ?_))
   refine jK (i := 4) (listed' := #[true, true, true, true, true, false, false, true, false, false]) (by kernel_rfl) (by kernel_rfl) (by kernel_rfl) (by kernel_rfl) (fun _ _ h => by cases h.1) rfl rfl rfl (yB rfl rfl rfl) ?_
   refine jK (i := 5) (listed' := #[true, true, true, true, true, true, false, true, false, false]) (by kernel_rfl) (by kernel_rfl) (by kernel_rfl) (by kernel_rfl) (fun _ _ h => by cases h.1) rfl rfl rfl (jV rfl rfl rfl rfl) ?_
   refine jK (i := 6) (listed' := #[true, true, true, true, true, true, true, true, false, false]) (by kernel_rfl) (by kernel_rfl) (by kernel_rfl) (by kernel_rfl) (fun _ _ h => by cases h.1) rfl rfl rfl (jV rfl rfl rfl rfl) ?_
   refine jT (i := 8) (listed' := #[true, true, true, true, true, true, true, true, true, false]) (by kernel_rfl) rfl (by kernel_rfl) ?_
   refine z2 ?_
   refine jD (nq ?_)
   refine jT (i := 9) (listed' := #[true, true, true, true, true, true, true, true, true, true]) (by kernel_rfl) rfl (by kernel_rfl) ?_
   refine z5 ?_
   refine jD (nq ?_)
   refine kN (by kernel_rfl) ⟨rfl, ?_⟩
   exact ⟨p, hp, zX⟩
  ·refine jB6 (i := 3) (j := 7) (listed' := #[true, true, true, true, false, false, false, false, false, false]) (listed2 := #[true, true, true, false, false, false, false, true, false, false]) (by kernel_rfl) rfl rfl (by kernel_rfl) (by kernel_rfl) ?_ ?_
   ·refine vF (hih) rfl (fun a w => Tryz.call73 a w) rfl rfl rfl (by (repeat (first | exact trivial | refine ⟨⟨rfl, rfl⟩, ?_⟩))) (by (repeat (first | exact trivial | refine ⟨.inr rfl, ?_⟩ | refine ⟨.inl rfl, ?_⟩))) rfl rfl rfl rfl ?_ ?_ ?_ ?_
    ·rintro d bs ⟨p, _, rfl, rfl⟩; exact ⟨.inl rfl, .inl rfl, .inl rfl, trivial⟩
    ·rintro v bs ⟨a, s', _, rfl, rfl⟩; exact ⟨.inl rfl, .inl rfl, .inl rfl, trivial⟩
    ·rintro v bs ⟨a, s', h, rfl, rfl⟩
     refine yQ (vM ?_)
     refine gP ?_
     refine fP (jF0 l me m log s') ?_
     exact ⟨a, s', herr a h, rfl, rfl⟩
    rintro d bs ⟨p, hp, rfl, rfl⟩
    refine jD (nq (yT ?_))
    refine jK (i := 4) (listed' := #[true, true, true, true, true, false, false, false, false, false]) (by kernel_rfl) (by kernel_rfl) (by kernel_rfl) (by kernel_rfl) (fun _ _ h => by cases h.1) rfl rfl rfl (yB rfl rfl rfl) ?_
    refine jK (i := 5) (listed' := #[true, true, true, true, true, true, false, false, false, false]) (by kernel_rfl) (by kernel_rfl) (by kernel_rfl) (by kernel_rfl) (fun _ _ h => by cases h.1) rfl rfl rfl (jV rfl rfl rfl rfl) ?_
    refine jK (i := 6) (listed' := #[true, true, true, true, true, true, true, false, false, false]) (by kernel_rfl) (by kernel_rfl) (by kernel_rfl) (by kernel_rfl) (fun _ _ h => by cases h.1) rfl rfl rfl (jV rfl rfl rfl rfl) ?_
    refine jT (i := 7) (listed' := #[true, true, true, true, true, true, true, true, false, false]) (by kernel_rfl) rfl (by kernel_rfl) ?_
    refine a_b (jL jB 48 rfl rfl rfl rfl) rfl rfl rfl rfl ?_
    refine jD (nq ?_)
    refine jT (i := 8) (listed' := #[true, true, true, true, true, true, true, true, true, false]) (by kernel_rfl) rfl (by kernel_rfl) ?_
    refine z2 ?_
    refine jD (nq ?_)
    refine jT (i := 9) (listed' := #[true, true, true, true, true, true, true, true, true, true]) (by kernel_rfl) rfl (by kernel_rfl) ?_
    refine z5 ?_
    refine jD (nq ?_)
    refine kN (by kernel_rfl) ⟨rfl, ?_⟩
    exact ⟨p, hp, zX⟩
   ·refine a_b (jL jB 48 rfl rfl rfl rfl) rfl rfl rfl rfl ?_
    exact jD (nq hB)
 rintro ⟨an, ao, s2, ex2, ek2, ps2⟩ ⟨hq2, hG2, han0, han1⟩
 simp only at hq2 hG2 han0 han1
 rw [jH hq2] at hE
 have h2 := h1.next hG2
 have hG2' := hG1.trans3 hG2
 simp only at hE
 refine go ?_
 generalize k3 : decide (ao.err = 0) = cc; cases cc
 ·rw [if_pos (of_decide_eq_false k3)] at hE
  refine go ?_
  refine jE 2 [] rfl rfl (by kernel_rfl) (by kernel_rfl) (by kernel_rfl) ?_
  refine goQ ?_
  refine go ?_
  first | refine fR (jF0 l me m log s2) ?_ | refine fN (jF0 l me m log s2) ?_
  exact ⟨⟨0, ao, s2, ex2, ek2, ps2⟩, ⟨hE.symm, hG2', by simp, by simp⟩, rfl, rfl⟩
 rw [if_neg (fun h => h (of_decide_eq_true k3))] at hE
 have hlst := kG2 l hL hS hM me m log s2 2 an (kC2 b) 0 h2 (by omega)
 refine go ?_
 refine jM1 (fun p : (kY × AccT) × PsT => jC2 l me 2 an (kC2 b) 0 log s2 = .ok p ∧ FiG log s2 p.2) (fun p => ⟨[(9, .ptr 48 0), (10, .ptr 49 0), (5, .ptr 47 0), (6, dI (qR l m b)), (0, dI b), (1, .ptr 41 0), (2, .ptr 46 0)], [(40, prgD l me m log p.2), (41, [.ptr 40 0]), (46, [.fn (.func 73) [] [.ptr 41 0, .ptr 46 0]]), (47, [dI 0, dB false, dI 0, dI 0, .p (.sl true 0 [])]), (48, [dI p.1.1.val, dB p.1.1.is, dI p.1.1.err, dI p.1.1.point, vG p.1.1.gone]), (49, [dI p.1.2.kind, dI p.1.2.cell, dI p.1.2.old, dI p.1.2.new])], []⟩) ?_ ?_
 ·have herr : ∀ a, jC2 l me 2 an (kC2 b) 0 log s2 = .error a → E = .error a := fun a h => by rw [← hE]; exact jI h
  refine jC1 4 8 49 (LA := #[true, true, true, true, false, false, false, false, false, false, false]) (LB := #[true, true, true, true, false, false, false, false, true, false, false]) (na := 7) (nb := 6) rfl rfl rfl (by kernel_rfl) (by kernel_rfl) rfl rfl rfl rfl rfl (fun _ _ => jL jB 49 rfl rfl rfl rfl) (by kernel_rfl) (by kernel_rfl) (by kernel_rfl) (by kernel_rfl) rfl ?_
  refine goQ ?_
  refine r_q (jA (dummy_c b) rfl (fun a w => Tryz.call74 a w) rfl) rfl rfl ?_
  refine goQ ?_
  refine ax_in rfl rfl rfl ?_ (fun hB => ?_)
  ·refine jT (i := 4) (listed' := #[true, true, true, true, true, false, false, false, true, false, false]) (by kernel_rfl) rfl (by kernel_rfl) ?_
   refine cX (hlst) (fun a w => Tryz.call44 a w) ?_ ?_ ?_ ?_
   ·rintro d bs ⟨x, s', _, _, rfl, rfl⟩; exact ⟨.inl rfl, trivial⟩
   ·rintro v bs ⟨a, s', _, rfl, rfl⟩; exact ⟨.inl rfl, trivial⟩
   ·rintro v bs ⟨a, s', h, rfl, rfl⟩
    refine yQ (vM ?_)
    refine gP ?_
    refine fP (jF0 l me m log s') ?_
    exact ⟨a, s', herr a h, rfl, rfl⟩
   rintro d bs ⟨x, s', hx, hGx, rfl, rfl⟩
   refine jD (nq (yT ?_))
   refine jK (i := 5) (listed' := #[true, true, true, true, true, true, false, false, true, false, false]) (by kernel_rfl) (by kernel_rfl) (by kernel_rfl) (by kernel_rfl) (fun _ _ h => by cases h.1) rfl rfl rfl (yB rfl rfl rfl) ?_
   refine jK (i := 6) (listed' := #[true, true, true, true, true, true, true, false, true, false, false]) (by kernel_rfl) (by kernel_rfl) (by kernel_rfl) (by kernel_rfl) (fun _ _ h => by cases h.1) rfl rfl rfl (jV rfl rfl rfl rfl) ?_
   refine jK (i := 7) (listed' := #[true, true, true, true, true, true, true, true, true, false, false]) (by kernel_rfl) (by kernel_rfl) (by kernel_rfl) (by kernel_rfl) (fun _ _ h => by cases h.1) rfl rfl rfl (jV rfl rfl rfl rfl) ?_
   refine jT (i := 9) (listed' := #[true, true, true, true, true, true, true, true, true, true, false]) (by kernel_rfl) rfl (by kernel_rfl) ?_
   refine z5 ?_
   refine jD (nq ?_)
   refine jT (i := 10) (listed' := #[true, true, true, true, true, true, true, true, true, true, true]) (by kernel_rfl) rfl (by kernel_rfl) ?_
   refine z5 ?_
   refine jD (nq ?_)
   refine kN (by kernel_rfl) ⟨rfl, ?_⟩
   exact ⟨(x, s'), ⟨hx, hGx⟩, zX⟩
  ·refine jB6 (i := 4) (j := 8) (listed' := #[true, true, true, true, true, false, false, false, false, false, false]) (listed2 := #[true, true, true, true, false, false, false, false, true, false, false]) (by kernel_rfl) rfl rfl (by kernel_rfl) (by kernel_rfl) ?_ ?_
   ·refine cX (hlst) (fun a w => Tryz.call44 a w) ?_ ?_ ?_ ?_
    ·rintro d bs ⟨x, s', _, _, rfl, rfl⟩; exact ⟨.inl rfl, trivial⟩
    ·rintro v bs ⟨a, s', _, rfl, rfl⟩; exact ⟨.inl rfl, trivial⟩
    ·rintro v bs ⟨a, s', h, rfl, rfl⟩
     refine yQ (vM ?_)
     refine gP ?_
     refine fP (jF0 l me m log s') ?_
     exact ⟨a, s', herr a h, rfl, rfl⟩
    rintro d bs ⟨x, s', hx, hGx, rfl, rfl⟩
    refine jD (nq (yT ?_))
    refine jK (i := 5) (listed' := #[true, true, true, true, true, true, false, false, false, false, false]) (by kernel_rfl) (by kernel_rfl) (by kernel_rfl) (by kernel_rfl) (fun _ _ h => by cases h.1) rfl rfl rfl (yB rfl rfl rfl) ?_
    refine jK (i := 6) (listed' := #[true, true, true, true, true, true, true, false, false, false, false]) (by kernel_rfl) (by kernel_rfl) (by kernel_rfl) (by kernel_rfl) (fun _ _ h => by cases h.1) rfl rfl rfl (jV rfl rfl rfl rfl) ?_
    refine jK (i := 7) (listed' := #[true, true, true, true, true, true, true, true, false, false, false]) (by kernel_rfl) (by kernel_rfl) (by kernel_rfl) (by kernel_rfl) (fun _ _ h => by cases h.1) rfl rfl rfl (jV rfl rfl rfl rfl) ?_
    refine jT (i := 8) (listed' := #[true, true, true, true, true, true, true, true, true, false, false]) (by kernel_rfl) rfl (by kernel_rfl) ?_
    refine a_b (jL jB 49 rfl rfl rfl rfl) rfl rfl rfl rfl ?_
    refine jD (nq ?_)
    refine jT (i := 9) (listed' := #[true, true, true, true, true, true, true, true, true, true, false]) (by kernel_rfl) rfl (by kernel_rfl) ?_
    refine z5 ?_
    refine jD (nq ?_)
    refine jT (i := 10) (listed' := #[true, true, true, true, true, true, true, true, true, true, true]) (by kernel_rfl) rfl (by kernel_rfl) ?_
    refine z5 ?_
    refine jD (nq ?_)
    refine kN (by kernel_rfl) ⟨rfl, ?_⟩
    exact ⟨(x, s'), ⟨hx, hGx⟩, zX⟩
   ·refine a_b (jL jB 49 rfl rfl rfl rfl) rfl rfl rfl rfl ?_
    exact jD (nq hB)
 rintro ⟨⟨o3, a3⟩, s3⟩ ⟨hq3, hG3⟩
 simp only at hG3
 rw [jH hq3] at hE
 have h3 := h2.next hG3
 have hG3' := hG2'.trans3 hG3
 simp only at hE
 refine go ?_
 generalize k4 : decide (o3.err = 0) = cc; cases cc
 ·rw [if_pos (of_decide_eq_false k4)] at hE
  refine go ?_
  refine jE 2 [] rfl rfl (by kernel_rfl) (by kernel_rfl) (by kernel_rfl) ?_
  refine goQ ?_
  refine go ?_
  first | refine fR (jF0 l me m log s3) ?_ | refine fN (jF0 l me m log s3) ?_
  exact ⟨⟨0, o3, s3, false, o3.gone.length, vH o3.gone⟩, ⟨hE.symm, hG3', by simp, by simp⟩, rfl, rfl⟩
 have k4' := of_decide_eq_true k4
 rw [if_neg (fun h => h k4')] at hE
 have hpt := (kJ7 hS h2.le hq3).2 rfl
 simp only at hpt
 have hth : kD1 (o3, a3) log s3 = .ok (if o3.is then (ofW a3.new).idx else (ofW ((log.getD (o3.point.toNat + 2) ⟨0, false⟩).val)).idx, s3) := rfl
 rw [jH hth] at hE
 have hnb : 0 ≤ (if o3.is then (ofW a3.new).idx else (ofW ((log.getD (o3.point.toNat + 2) ⟨0, false⟩).val)).idx) ∧ (if o3.is then (ofW a3.new).idx else (ofW ((log.getD (o3.point.toNat + 2) ⟨0, false⟩).val)).idx) < 65536 := by
  split <;> exact xT _
 have hthc := there_c l me m log s3 o3 a3 _ (fun h => hpt h k4') h0.log rfl
 generalize (if o3.is then (ofW a3.new).idx else (ofW ((log.getD (o3.point.toNat + 2) ⟨0, false⟩).val)).idx) = n at hE hnb hthc
 refine go ?_
 refine a_q (qB (hthc) rfl (fun a w => Tryz.call75 a w) rfl rfl) rfl rfl rfl ?_
 refine go ?_
 refine jE 6 [] rfl rfl (by kernel_rfl) (by kernel_rfl) (by kernel_rfl) ?_
 refine goQ ?_
 refine r_q (jA (kC6 ⟨n, false, 0⟩) rfl (fun a w => Tryz.call47 a w) rfl) rfl rfl ?_
 refine goQ ?_
 refine cX (sdo_x l me m log s3 ⟨3, qR l m b, 0, vK ⟨n, false, 0⟩⟩ h3) (fun a w => Tryz.call42 a w) ?_ ?_ ?_ ?_
 ·rintro d bs ⟨x, s', _, _, rfl, rfl⟩; exact ⟨.inl rfl, trivial⟩
 ·rintro v bs ⟨a, s', _, rfl, rfl⟩; exact ⟨.inl rfl, trivial⟩
 ·rintro v bs ⟨a, s', h, rfl, rfl⟩
  refine gP ?_
  refine fP (jF0 l me m log s') ?_
  exact ⟨a, s', by rw [← hE]; exact jI h, rfl, rfl⟩
 rintro d bs ⟨r4, s4, hq4, hG4, rfl, rfl⟩
 rw [jH hq4] at hE
 refine go ?_
 first | refine fR (jF0 l me m log s4) ?_ | refine fN (jF0 l me m log s4) ?_
 exact ⟨⟨n, jG7, s4, true, 0, []⟩, ⟨hE.symm, hG3'.trans3 hG4, hnb.1, hnb.2⟩, rfl, rfl⟩
theorem come1_x (l : jN) (hL : qJ l) (hS : 0 ≤ l.seats) (hM : jG3 l) (me m : Int) (log : List jS) : ∀ (k : Nat) (b : Int) (s : PsT), 0 ≤ b → b < 65536 → b < 2 ^ k → At0 log s →
  ImpX Tryz.prog 73 [40, 41, 46] [dI b, .ptr 41 0, .ptr 46 0] (jF0 l me m log s) (ComR (jF0 l me m log) log (vQ l me m (k + 1) b log s) s) (PhX (jF0 l me m log) (vQ l me m (k + 1) b log s))
 | 0, b, s, hb0, hb1, hbk, h0 => come_step l hL hS hM me m log 0 b s hb1 h0 fun hne => by
   have : (2 : Int) ^ 0 = 1 := rfl
   omega
 | k + 1, b, s, hb0, hb1, hbk, h0 => come_step l hL hS hM me m log (k + 1) b s hb1 h0 fun hne s1 h1 => by
   have hpar : 0 ≤ yI b ∧ yI b < b ∧ yI b < 2 ^ k := by
    obtain ⟨n, rfl⟩ := Int.eq_ofNat_of_zero_le hb0
    have hn : n ≠ 0 := by omega
    have h3 := parent_less hn
    refine ⟨h3.1, h3.2.1, parent_bits hn ?_⟩
    have h4 : ((2 ^ (k + 1) : Nat) : Int) = 2 ^ (k + 1) := by simp
    omega
   exact come1_x l hL hS hM me m log k (yI b) s1 hpar.1 (by omega) hpar.2.2 h1
theorem scome_x (l : jN) (hL : qJ l) (hS : 0 ≤ l.seats) (hM : jG3 l) (me m : Int) (log : List jS) (b : Int) (s : PsT) (hb0 : 0 ≤ b) (hb1 : b < 65536) (h0 : At0 log s) :
  ImpX Tryz.prog 43 [40] [.ptr 40 0, dI b] (jM8 l me m log s) (ComR (jM8 l me m log) log (vQ l me m 64 b log s) s) (PhX (jM8 l me m log) (vQ l me m 64 b log s)) := by
 have hC := come1_x l hL hS hM me m log 63 b s hb0 hb1 (by have : (65536 : Int) ≤ 2 ^ 63 := (by decide); omega) h0
 refine sX Tryz.func43 Tryz.ntmps43 fun w cl own kf => ?_
 refine goC ?_
 refine a_b (qP 41 rfl rfl rfl rfl) rfl rfl rfl rfl ?_
 refine z2 ?_
 refine a_b (jL jB 47 rfl rfl rfl rfl) rfl rfl rfl rfl ?_
 refine jD ?_
 refine goC ?_
 refine a_b (jL jB 46 rfl rfl rfl rfl) rfl rfl rfl rfl ?_
 refine jD ?_
 refine go ?_
 refine vF (hC) rfl (fun a w => Tryz.call73 a w) rfl rfl rfl (by (repeat (first | exact trivial | refine ⟨⟨rfl, rfl⟩, ?_⟩))) (by (repeat (first | exact trivial | refine ⟨.inr rfl, ?_⟩ | refine ⟨.inl rfl, ?_⟩))) rfl rfl rfl rfl ?_ ?_ ?_ ?_
 ·rintro d bs ⟨p, _, rfl, rfl⟩; exact ⟨.inl rfl, .inl rfl, .inl rfl, trivial⟩
 ·rintro v bs ⟨a, s', _, rfl, rfl⟩; exact ⟨.inl rfl, .inl rfl, .inl rfl, trivial⟩
 ·rintro v bs ⟨a, s', h, rfl, rfl⟩
  refine gP ?_
  refine fP (jM8 l me m log s') ?_
  exact ⟨a, s', h, rfl, rfl⟩
 rintro d bs ⟨p, hp, rfl, rfl⟩
 refine go ?_
 first | refine fR (jM8 l me m log p.s) ?_ | refine fN (jM8 l me m log p.s) ?_
 exact ⟨p, hp, rfl, rfl⟩
end Go.Proofs.YtkkldicehapklaaGreat
