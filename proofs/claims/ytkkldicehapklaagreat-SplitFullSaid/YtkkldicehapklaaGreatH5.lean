/- A map's programs: what comes behind an operation; operations: their walks. -/
import Derived.Test.YtkkldicehapklaaGreatH4
namespace Go.Proofs.YtkkldicehapklaaGreat
open Go.RowKit
set_option maxRecDepth 100000
theorem pow2_and : ∀ n : Nat, n < 65 → 1 ≤ n → (decide (IntKind.i64.wrap (((BitVec.ofInt 64 (n : Int) &&& BitVec.ofInt 64 ((n : Int) - 1)).toNat : Nat) : Int) = 0)) = jT6 (n : Int) := by decide +kernel
theorem pow2_is {n : Int} (h0 : 1 ≤ n) (h1 : n ≤ 64) : (decide (IntKind.i64.wrap (((BitVec.ofInt 64 n &&& BitVec.ofInt 64 (n - 1)).toNat : Nat) : Int) = 0)) = jT6 n := by
 obtain ⟨m, rfl⟩ := Int.eq_ofNat_of_zero_le (show 0 ≤ n by omega)
 exact pow2_and m (by omega) (by omega)
theorem jS1 (g : List (Int × Int)) (hg : g.length ≤ 100000) : kA Tryz.prog 39 [vG g] (.tup [wM xZ, jO0 ⟨0, false, 1, -1, g⟩, dB true]) := by
 refine jO jB Tryz.func39 rfl Tryz.ntmps39 rfl rfl rfl fun w cl => ?_
 refine go ?_
 refine a_q (jA ((jB7 g hg).pure) rfl (fun a w => Tryz.call71 a w) rfl) rfl rfl rfl ?_
 refine go ?_
 first | refine jF rfl ?_ | refine jC rfl ?_
 rfl
abbrev aftB (l : jN) (me m : Int) (log : List jS) (s : PsT) : Bxs := [(40, prgD l me m log s), (53, [.ptr 40 0]), (54, [dI (xB l m 1)])]
theorem after2_x (l : jN) (hL : qJ l) (hM : jG3 l) (me m : Int) (log : List jS) (size : Int) (s : PsT) (hz0 : 1 ≤ size) (hz1 : size ≤ 64) (h0 : At0 log s) :
  PhC 69 [40, 53, 54] (aftB l me m log) log s [dI size, .ptr 53 0, .ptr 54 0] (jB5 l m 2 size log s) (fun _ => .tup []) := by
 generalize hE : jB5 l m 2 size log s = E
 rw [jB5, if_pos rfl] at hE
 have ew : IntKind.i64.wrap (2 * size) = 2 * size := yJ (by omega) (by omega)
 refine sX Tryz.func69 Tryz.ntmps69 fun w cl own kf => ?_
 refine go ?_
 refine cX (sdo_x l me m log s ⟨4, xB l m 1, 0, 1⟩ h0) (fun a w => Tryz.call42 a w) ?_ ?_ ?_ ?_
 ·rintro d bs ⟨x, s', _, _, rfl, rfl⟩; exact ⟨.inl rfl, trivial⟩
 ·rintro v bs ⟨a, s', _, rfl, rfl⟩; exact ⟨.inl rfl, trivial⟩
 ·rintro v bs ⟨a, s', h, rfl, rfl⟩
  refine gP ?_
  refine fP (aftB l me m log s') ?_
  exact ⟨a, s', by rw [← hE]; exact jI h, rfl, rfl⟩
 rintro d bs ⟨r, s1, hq1, hG1, rfl, rfl⟩
 rw [jH hq1] at hE
 have h1 := h0.next hG1
 refine go ?_
 rw [ew]
 refine go ?_
 generalize k1 : decide (r.val ≥ 2 * size) = cc; cases cc
 ·rw [if_neg (fun h => of_decide_eq_false k1 h.1)] at hE
  refine go ?_
  first | refine fR (aftB l me m log s1) ?_ | refine fN (aftB l me m log s1) ?_
  exact ⟨(), s1, hE.symm, hG1, rfl, rfl⟩
 refine go ?_
 generalize k2 : decide (size < l.buckets) = cc; cases cc
 ·rw [if_neg (fun h => of_decide_eq_false k2 h.2)] at hE
  refine go ?_
  first | refine fR (aftB l me m log s1) ?_ | refine fN (aftB l me m log s1) ?_
  exact ⟨(), s1, hE.symm, hG1, rfl, rfl⟩
 rw [if_pos ⟨of_decide_eq_true k1, of_decide_eq_true k2⟩] at hE
 refine go ?_
 refine jE 14 [] rfl rfl (by kernel_rfl) (by kernel_rfl) (by kernel_rfl) ?_
 refine goQ ?_
 refine r_q (jA (map_c l hL hM m 0 (by omega)) rfl (fun a w => Tryz.call38 a w) rfl) rfl rfl ?_
 refine goQ ?_
 rw [ew]
 refine cX (sdo_x l me m log s1 ⟨3, xB l m 0, size, 2 * size⟩ h1) (fun a w => Tryz.call42 a w) ?_ ?_ ?_ ?_
 ·rintro d bs ⟨x, s', _, _, rfl, rfl⟩; exact ⟨.inl rfl, trivial⟩
 ·rintro v bs ⟨a, s', _, rfl, rfl⟩; exact ⟨.inl rfl, trivial⟩
 ·rintro v bs ⟨a, s', h, rfl, rfl⟩
  refine gP ?_
  refine fP (aftB l me m log s') ?_
  exact ⟨a, s', by rw [← hE]; exact jI h, rfl, rfl⟩
 rintro d bs ⟨r2, s2, hq2, hG2, rfl, rfl⟩
 rw [jH hq2] at hE
 refine go ?_
 first | refine fR (aftB l me m log s2) ?_ | refine fN (aftB l me m log s2) ?_
 exact ⟨(), s2, hE.symm, hG1.trans3 hG2, rfl, rfl⟩
theorem after3_x (l : jN) (me m : Int) (log : List jS) (size : Int) (s : PsT) (h0 : At0 log s) :
  PhC 70 [40, 53, 54] (aftB l me m log) log s [dI size, .ptr 53 0, .ptr 54 0] (jB5 l m 3 size log s) (fun _ => .tup []) := by
 generalize hE : jB5 l m 3 size log s = E
 rw [jB5, if_neg (by decide), if_pos rfl] at hE
 refine sX Tryz.func70 Tryz.ntmps70 fun w cl own kf => ?_
 refine go ?_
 refine cX (sdo_x l me m log s ⟨4, xB l m 1, 0, -1⟩ h0) (fun a w => Tryz.call42 a w) ?_ ?_ ?_ ?_
 ·rintro d bs ⟨x, s', _, _, rfl, rfl⟩; exact ⟨.inl rfl, trivial⟩
 ·rintro v bs ⟨a, s', _, rfl, rfl⟩; exact ⟨.inl rfl, trivial⟩
 ·rintro v bs ⟨a, s', h, rfl, rfl⟩
  refine gP ?_
  refine fP (aftB l me m log s') ?_
  exact ⟨a, s', by rw [← hE]; exact jI h, rfl, rfl⟩
 rintro d bs ⟨r, s1, hq1, hG1, rfl, rfl⟩
 rw [jH hq1] at hE
 refine go ?_
 first | refine fR (aftB l me m log s1) ?_ | refine fN (aftB l me m log s1) ?_
 exact ⟨(), s1, hE.symm, hG1, rfl, rfl⟩
abbrev nxB (fnd : Dt) (l : jN) (me : Int) (op : OpT) (log : List jS) (s : PsT) : Bxs := [(40, prgD l me op.obj log s), (55, [.ptr 40 0]), (56, xL l), (57, [dI op.kind, dI op.obj, dI op.a, dI op.b]), (58, [fnd]), (53, [.ptr 40 0]), (54, [dI (xB l op.obj 1)])]
structure OutI where
 o : kY
 s : PsT
 ex : Bool
 k : Nat
 ps : List Pl
abbrev outT (p : OutI) : Dt := .agg [dI p.o.val, dB p.o.is, dI p.o.err, dI p.o.point, .p (.sl p.ex p.k p.ps)]
def OutR (bx : PsT → Bxs) (log : List jS) (m : Except AccT (kY × PsT)) (s : PsT) : Dt → Bxs → Prop := fun d bs => ∃ p : OutI, m = .ok (p.o, p.s) ∧ FiG log s p.s ∧ d = outT p ∧ bs = bx p.s
abbrev fn1 : Dt := .fn (.func 68) [] []
set_option maxHeartbeats 16000000 in
theorem snext1_x (l : jN) (hL : qJ l) (hS : 0 ≤ l.seats) (hM : jG3 l) (me : Int) (op : OpT) (log : List jS) (s : PsT) (hk : op.kind = 1) (ha0 : 0 ≤ op.a) (ha1 : op.a < 65536) (h0 : At0 log s) :
  ImpX Tryz.prog 41 [40, 53, 54, 55, 56, 57, 58] [.ptr 55 0, .ptr 56 0, .ptr 57 0, .ptr 58 0] (nxB fn1 l me op log s) (OutR (nxB fn1 l me op log) log (vO l me op log s) s) (PhX (nxB fn1 l me op log) (vO l me op log s)) := by
 generalize hE : vO l me op log s = E
 rw [vO] at hE
 obtain ⟨hbu0, hbu1⟩ := hM.b
 obtain ⟨kd, ob, ka, kb⟩ := op
 simp only at hk ha0 ha1 hE
 subst hk
 refine sX Tryz.func41 Tryz.ntmps41 fun w cl own kf => ?_
 refine goC ?_
 refine a_b (jL jB 47 rfl rfl rfl rfl) rfl rfl rfl rfl ?_
 refine go ?_
 refine jE 8 [] rfl rfl (by kernel_rfl) (by kernel_rfl) (by kernel_rfl) ?_
 refine goQ ?_
 refine r_q (jA (map_c l hL hM ob 0 (by omega)) rfl (fun a w => Tryz.call38 a w) rfl) rfl rfl ?_
 refine goQ ?_
 refine cX (sdo_x l me ob log s ⟨1, xB l ob 0, 0, 0⟩ h0) (fun a w => Tryz.call42 a w) ?_ ?_ ?_ ?_
 ·rintro d bs ⟨x, s', _, _, rfl, rfl⟩; exact ⟨.inl rfl, trivial⟩
 ·rintro v bs ⟨a, s', _, rfl, rfl⟩; exact ⟨.inl rfl, trivial⟩
 ·rintro v bs ⟨a, s', h, rfl, rfl⟩
  refine gP ?_
  refine fP (nxB fn1 l me ⟨1, ob, ka, kb⟩ log s') ?_
  exact ⟨a, s', by rw [← hE]; exact jI h, rfl, rfl⟩
 rintro d bs ⟨r, s1, hq1, hG1, rfl, rfl⟩
 rw [jH hq1] at hE
 have h1 := h0.next hG1
 have hbad : (r.val < 1 ∨ l.buckets < r.val ∨ jT6 r.val = false) → E = .ok (⟨0, false, 1, -1, []⟩, s1) := fun h => by rw [if_pos h] at hE; exact hE.symm
 have hrt : ∀ p : OutI, E = .ok (p.o, p.s) → FiG log s p.s → OutR (nxB fn1 l me ⟨1, ob, ka, kb⟩ log) log E s (outT p) (nxB fn1 l me ⟨1, ob, ka, kb⟩ log p.s) := fun p h1 h2 => ⟨p, h1, h2, rfl, rfl⟩
 refine go ?_
 generalize k1 : decide (r.val < 1) = cc; cases cc
 rotate_left
 ·refine go ?_
  first | refine fR (nxB fn1 l me ⟨1, ob, ka, kb⟩ log s1) ?_ | refine fN (nxB fn1 l me ⟨1, ob, ka, kb⟩ log s1) ?_
  exact hrt ⟨⟨0, false, 1, -1, []⟩, s1, true, 0, []⟩ (hbad (.inl (of_decide_eq_true k1))) hG1
 have k1' := of_decide_eq_false k1
 refine go ?_
 generalize k2 : decide (r.val > l.buckets) = cc; cases cc
 rotate_left
 ·refine go ?_
  first | refine fR (nxB fn1 l me ⟨1, ob, ka, kb⟩ log s1) ?_ | refine fN (nxB fn1 l me ⟨1, ob, ka, kb⟩ log s1) ?_
  exact hrt ⟨⟨0, false, 1, -1, []⟩, s1, true, 0, []⟩ (hbad (.inr (.inl (of_decide_eq_true k2)))) hG1
 have k2' := of_decide_eq_false k2
 have hpw := pow2_is (n := r.val) (by omega) (by omega)
 refine go ?_
 rw [hpw]
 cases hp2 : jT6 r.val
 ·refine go ?_
  first | refine fR (nxB fn1 l me ⟨1, ob, ka, kb⟩ log s1) ?_ | refine fN (nxB fn1 l me ⟨1, ob, ka, kb⟩ log s1) ?_
  exact hrt ⟨⟨0, false, 1, -1, []⟩, s1, true, 0, []⟩ (hbad (.inr (.inr hp2))) hG1
 rw [if_neg (by rw [hp2]; simp; omega)] at hE
 refine go ?_
 have hm0 := Int.emod_nonneg ka (show r.val ≠ 0 by omega)
 have hm1 := Int.emod_lt_of_pos ka (show 0 < r.val by omega)
 have hcm := scome_x l hL hS hM me ob log (ka % r.val) s1 hm0 (by omega) h1
 refine jM1 (fun p : ComI => ComOk log (vQ l me ob 64 (ka % r.val) log s1) s1 p) (fun p => ⟨[(6, dI p.n), (7, .ptr 48 0), (4, .ptr 47 0), (5, dI r.val), (0, .ptr 55 0), (1, .ptr 56 0), (2, .ptr 57 0), (3, .ptr 58 0)], [(40, prgD l me ob log p.s), (55, [.ptr 40 0]), (56, xL l), (57, [dI 1, dI ob, dI ka, dI kb]), (58, [fn1]), (53, [.ptr 40 0]), (54, [dI (xB l ob 1)]), (47, [dI 0, dB false, dI 0, dI 0, .p (.sl true 0 [])]), (48, [dI p.o.val, dB p.o.is, dI p.o.err, dI p.o.point, .p (.sl p.ex p.k p.ps)])], []⟩) ?_ ?_
 ·have herr : ∀ x, vQ l me ob 64 (ka % r.val) log s1 = .error x → E = .error x := fun x h => by rw [← hE]; exact jI h
  refine jC1 5 9 48 (LA := #[true, true, true, true, true, false, false, false, false, false, false, false]) (LB := #[true, true, true, true, true, false, false, false, false, true, false, false]) (na := 7) (nb := 6) rfl rfl rfl (by kernel_rfl) (by kernel_rfl) rfl rfl rfl rfl rfl (fun _ _ => jL jB 48 rfl rfl rfl rfl) (by kernel_rfl) (by kernel_rfl) (by kernel_rfl) (by kernel_rfl) rfl ?_
  refine goQ ?_
  refine r_q (jY3 rfl rfl rfl (by omega) (by omega)) rfl rfl ?_
  refine goQ ?_
  refine ax_in rfl rfl rfl ?_ (fun hB => ?_)
  ·refine jT (i := 5) (listed' := #[true, true, true, true, true, true, false, false, false, true, false, false]) (by kernel_rfl) rfl (by kernel_rfl) ?_
   refine cX (hcm) (fun a w => Tryz.call43 a w) ?_ ?_ ?_ ?_
   ·rintro d bs ⟨p, _, rfl, rfl⟩; exact ⟨.inl rfl, trivial⟩
   ·rintro v bs ⟨x, s', _, rfl, rfl⟩; exact ⟨.inl rfl, trivial⟩
   ·rintro v bs ⟨x, s', h, rfl, rfl⟩
    refine yQ (vM ?_)
    refine gP ?_
    refine fP (nxB fn1 l me ⟨1, ob, ka, kb⟩ log s') ?_
    exact ⟨x, s', herr x h, rfl, rfl⟩
   rintro d bs ⟨p, hp, rfl, rfl⟩
   refine jD (nq (yT ?_))
   refine jK (i := 6) (listed' := #[true, true, true, true, true, true, true, false, false, true, false, false]) (by kernel_rfl) (by kernel_rfl) (by kernel_rfl) (by kernel_rfl) (fun _ _ h => by cases h.1) rfl rfl rfl (yB rfl rfl rfl) ?_
   refine jK (i := 7) (listed' := #[true, true, true, true, true, true, true, true, false, true, false, false]) (by kernel_rfl) (by kernel_rfl) (by kernel_rfl) (by kernel_rfl) (fun _ _ h => by cases h.1) rfl rfl rfl (jV rfl rfl rfl rfl) ?_
   refine jK (i := 8) (listed' := #[true, true, true, true, true, true, true, true, true, true, false, false]) (by kernel_rfl) (by kernel_rfl) (by kernel_rfl) (by kernel_rfl) (fun _ _ h => by cases h.1) rfl rfl rfl (jV rfl rfl rfl rfl) ?_
   refine jT (i := 10) (listed' := #[true, true, true, true, true, true, true, true, true, true, true, false]) (by kernel_rfl) rfl (by kernel_rfl) ?_
   refine z2 ?_
   refine jD (nq ?_)
   refine jT (i := 11) (listed' := #[true, true, true, true, true, true, true, true, true, true, true, true]) (by kernel_rfl) rfl (by kernel_rfl) ?_
   refine z5 ?_
   refine jD (nq ?_)
   refine kN (by kernel_rfl) ⟨rfl, ?_⟩
   exact ⟨p, hp, zX⟩
  ·refine jB6 (i := 5) (j := 9) (listed' := #[true, true, true, true, true, true, false, false, false, false, false, false]) (listed2 := #[true, true, true, true, true, false, false, false, false, true, false, false]) (by kernel_rfl) rfl rfl (by kernel_rfl) (by kernel_rfl) ?_ ?_
   ·refine cX (hcm) (fun a w => Tryz.call43 a w) ?_ ?_ ?_ ?_
    ·rintro d bs ⟨p, _, rfl, rfl⟩; exact ⟨.inl rfl, trivial⟩
    ·rintro v bs ⟨x, s', _, rfl, rfl⟩; exact ⟨.inl rfl, trivial⟩
    ·rintro v bs ⟨x, s', h, rfl, rfl⟩
     refine yQ (vM ?_)
     refine gP ?_
     refine fP (nxB fn1 l me ⟨1, ob, ka, kb⟩ log s') ?_
     exact ⟨x, s', herr x h, rfl, rfl⟩
    rintro d bs ⟨p, hp, rfl, rfl⟩
    refine jD (nq (yT ?_))
    refine jK (i := 6) (listed' := #[true, true, true, true, true, true, true, false, false, false, false, false]) (by kernel_rfl) (by kernel_rfl) (by kernel_rfl) (by kernel_rfl) (fun _ _ h => by cases h.1) rfl rfl rfl (yB rfl rfl rfl) ?_
    refine jK (i := 7) (listed' := #[true, true, true, true, true, true, true, true, false, false, false, false]) (by kernel_rfl) (by kernel_rfl) (by kernel_rfl) (by kernel_rfl) (fun _ _ h => by cases h.1) rfl rfl rfl (jV rfl rfl rfl rfl) ?_
    refine jK (i := 8) (listed' := #[true, true, true, true, true, true, true, true, true, false, false, false]) (by kernel_rfl) (by kernel_rfl) (by kernel_rfl) (by kernel_rfl) (fun _ _ h => by cases h.1) rfl rfl rfl (jV rfl rfl rfl rfl) ?_
    refine jT (i := 9) (listed' := #[true, true, true, true, true, true, true, true, true, true, false, false]) (by kernel_rfl) rfl (by kernel_rfl) ?_
    refine a_b (jL jB 48 rfl rfl rfl rfl) rfl rfl rfl rfl ?_
    refine jD (nq ?_)
    refine jT (i := 10) (listed' := #[true, true, true, true, true, true, true, true, true, true, true, false]) (by kernel_rfl) rfl (by kernel_rfl) ?_
    refine z2 ?_
    refine jD (nq ?_)
    refine jT (i := 11) (listed' := #[true, true, true, true, true, true, true, true, true, true, true, true]) (by kernel_rfl) rfl (by kernel_rfl) ?_
    refine z5 ?_
    refine jD (nq ?_)
    refine kN (by kernel_rfl) ⟨rfl, ?_⟩
    exact ⟨p, hp, zX⟩
   ·refine a_b (jL jB 48 rfl rfl rfl rfl) rfl rfl rfl rfl ?_
    exact jD (nq hB)
 rintro ⟨dn, dq, s2, ex2, ek2, ps2⟩ ⟨hq2, hG2, hdn0, hdn1⟩
 simp only at hq2 hG2 hdn0 hdn1
 rw [jH hq2] at hE
 have h2 := h1.next hG2
 have hG2' := hG1.trans3 hG2
 simp only at hE
 refine go ?_
 generalize k3 : decide (dq.err = 0) = cc; cases cc
 ·rw [if_pos (of_decide_eq_false k3)] at hE
  refine go ?_
  first | refine fR (nxB fn1 l me ⟨1, ob, ka, kb⟩ log s2) ?_ | refine fN (nxB fn1 l me ⟨1, ob, ka, kb⟩ log s2) ?_
  exact hrt ⟨dq, s2, ex2, ek2, ps2⟩ hE.symm hG2'
 rw [if_neg (fun h => h (of_decide_eq_true k3))] at hE
 have hlst := kG2 l hL hS hM me ob log s2 1 dn (uF ka) kb h2 (by omega)
 refine go ?_
 refine jB9 9 10 [] rfl rfl (by kernel_rfl) (by kernel_rfl) (by kernel_rfl) rfl rfl ?_
 refine goQ ?_
 refine r_q (jA (real_c ka) rfl (fun a w => Tryz.call45 a w) rfl) rfl rfl ?_
 refine goQ ?_
 refine cX (hlst) (fun a w => Tryz.call44 a w) ?_ ?_ ?_ ?_
 ·rintro d bs ⟨x, s', _, _, rfl, rfl⟩; exact ⟨.inl rfl, trivial⟩
 ·rintro v bs ⟨a, s', _, rfl, rfl⟩; exact ⟨.inl rfl, trivial⟩
 ·rintro v bs ⟨a, s', h, rfl, rfl⟩
  refine gP ?_
  refine fP (nxB fn1 l me ⟨1, ob, ka, kb⟩ log s') ?_
  exact ⟨a, s', by rw [← hE]; exact jI h, rfl, rfl⟩
 rintro d bs ⟨q, s3, hq3, hG3, rfl, rfl⟩
 rw [jH hq3] at hE
 obtain ⟨⟨ov, ois, oe, opt, og⟩, a3⟩ := q
 have h3 := h2.next hG3
 have hG3' := hG2'.trans3 hG3
 simp only at hE
 refine goO ?_
 refine kK0 [48] rfl rfl ?_
 refine goQ ?_
 refine go ?_
 cases ois
 ·rw [if_neg (by decide)] at hE
  refine go ?_
  first | refine fR (nxB fn1 l me ⟨1, ob, ka, kb⟩ log s3) ?_ | refine fN (nxB fn1 l me ⟨1, ob, ka, kb⟩ log s3) ?_
  exact ⟨⟨⟨ov, false, oe, opt, og⟩, s3, false, og.length, vH og⟩, hE.symm, hG3', rfl, rfl⟩
 rw [if_pos rfl] at hE
 have haf : jB5 l ob 1 r.val log s3 = .ok ((), s3) := by rw [jB5, if_neg (by decide), if_neg (by decide)]; rfl
 rw [jH haf] at hE
 have hC : ImpX Tryz.prog 68 [] [dI r.val] [] (fun d bs => d = .tup [] ∧ bs = []) (fun _ _ => False) := by
  refine sX Tryz.func68 Tryz.ntmps68 fun w cl own kf => ?_
  refine go ?_
  refine kE3 (d := .tup []) [] ?_ rfl trivial trivial ⟨rfl, rfl⟩
  rfl
 refine go ?_
 refine vF (hC) rfl (fun a w => Tryz.call68 a w) rfl rfl rfl (by (repeat (first | exact trivial | refine ⟨⟨rfl, rfl⟩, ?_⟩))) (by (repeat (first | exact trivial | refine ⟨.inr rfl, ?_⟩ | refine ⟨.inl rfl, ?_⟩))) rfl rfl rfl rfl ?_ ?_ ?_ ?_
 ·rintro d bs ⟨_, rfl⟩; exact trivial
 ·rintro v bs h; exact absurd h id
 ·rintro v bs h; exact absurd h id
 rintro d bs ⟨rfl, rfl⟩
 refine go ?_
 first | refine fR (nxB fn1 l me ⟨1, ob, ka, kb⟩ log s3) ?_ | refine fN (nxB fn1 l me ⟨1, ob, ka, kb⟩ log s3) ?_
 exact ⟨⟨⟨ov, true, oe, opt, og⟩, s3, false, og.length, vH og⟩, hE.symm, hG3', rfl, rfl⟩
abbrev fn2 : Dt := .fn (.func 69) [] [.ptr 53 0, .ptr 54 0]
set_option maxHeartbeats 16000000 in
theorem snext2_x (l : jN) (hL : qJ l) (hS : 0 ≤ l.seats) (hM : jG3 l) (me : Int) (op : OpT) (log : List jS) (s : PsT) (hk : op.kind = 2) (ha0 : 0 ≤ op.a) (ha1 : op.a < 65536) (h0 : At0 log s) :
  ImpX Tryz.prog 41 [40, 53, 54, 55, 56, 57, 58] [.ptr 55 0, .ptr 56 0, .ptr 57 0, .ptr 58 0] (nxB fn2 l me op log s) (OutR (nxB fn2 l me op log) log (vO l me op log s) s) (PhX (nxB fn2 l me op log) (vO l me op log s)) := by
 generalize hE : vO l me op log s = E
 rw [vO] at hE
 obtain ⟨hbu0, hbu1⟩ := hM.b
 obtain ⟨kd, ob, ka, kb⟩ := op
 simp only at hk ha0 ha1 hE
 subst hk
 refine sX Tryz.func41 Tryz.ntmps41 fun w cl own kf => ?_
 refine goC ?_
 refine a_b (jL jB 47 rfl rfl rfl rfl) rfl rfl rfl rfl ?_
 refine go ?_
 refine jE 8 [] rfl rfl (by kernel_rfl) (by kernel_rfl) (by kernel_rfl) ?_
 refine goQ ?_
 refine r_q (jA (map_c l hL hM ob 0 (by omega)) rfl (fun a w => Tryz.call38 a w) rfl) rfl rfl ?_
 refine goQ ?_
 refine cX (sdo_x l me ob log s ⟨1, xB l ob 0, 0, 0⟩ h0) (fun a w => Tryz.call42 a w) ?_ ?_ ?_ ?_
 ·rintro d bs ⟨x, s', _, _, rfl, rfl⟩; exact ⟨.inl rfl, trivial⟩
 ·rintro v bs ⟨a, s', _, rfl, rfl⟩; exact ⟨.inl rfl, trivial⟩
 ·rintro v bs ⟨a, s', h, rfl, rfl⟩
  refine gP ?_
  refine fP (nxB fn2 l me ⟨2, ob, ka, kb⟩ log s') ?_
  exact ⟨a, s', by rw [← hE]; exact jI h, rfl, rfl⟩
 rintro d bs ⟨r, s1, hq1, hG1, rfl, rfl⟩
 rw [jH hq1] at hE
 have h1 := h0.next hG1
 have hbad : (r.val < 1 ∨ l.buckets < r.val ∨ jT6 r.val = false) → E = .ok (⟨0, false, 1, -1, []⟩, s1) := fun h => by rw [if_pos h] at hE; exact hE.symm
 have hrt : ∀ p : OutI, E = .ok (p.o, p.s) → FiG log s p.s → OutR (nxB fn2 l me ⟨2, ob, ka, kb⟩ log) log E s (outT p) (nxB fn2 l me ⟨2, ob, ka, kb⟩ log p.s) := fun p h1 h2 => ⟨p, h1, h2, rfl, rfl⟩
 refine go ?_
 generalize k1 : decide (r.val < 1) = cc; cases cc
 rotate_left
 ·refine go ?_
  first | refine fR (nxB fn2 l me ⟨2, ob, ka, kb⟩ log s1) ?_ | refine fN (nxB fn2 l me ⟨2, ob, ka, kb⟩ log s1) ?_
  exact hrt ⟨⟨0, false, 1, -1, []⟩, s1, true, 0, []⟩ (hbad (.inl (of_decide_eq_true k1))) hG1
 have k1' := of_decide_eq_false k1
 refine go ?_
 generalize k2 : decide (r.val > l.buckets) = cc; cases cc
 rotate_left
 ·refine go ?_
  first | refine fR (nxB fn2 l me ⟨2, ob, ka, kb⟩ log s1) ?_ | refine fN (nxB fn2 l me ⟨2, ob, ka, kb⟩ log s1) ?_
  exact hrt ⟨⟨0, false, 1, -1, []⟩, s1, true, 0, []⟩ (hbad (.inr (.inl (of_decide_eq_true k2)))) hG1
 have k2' := of_decide_eq_false k2
 have hpw := pow2_is (n := r.val) (by omega) (by omega)
 refine go ?_
 rw [hpw]
 cases hp2 : jT6 r.val
 ·refine go ?_
  first | refine fR (nxB fn2 l me ⟨2, ob, ka, kb⟩ log s1) ?_ | refine fN (nxB fn2 l me ⟨2, ob, ka, kb⟩ log s1) ?_
  exact hrt ⟨⟨0, false, 1, -1, []⟩, s1, true, 0, []⟩ (hbad (.inr (.inr hp2))) hG1
 rw [if_neg (by rw [hp2]; simp; omega)] at hE
 refine go ?_
 have hm0 := Int.emod_nonneg ka (show r.val ≠ 0 by omega)
 have hm1 := Int.emod_lt_of_pos ka (show 0 < r.val by omega)
 have hcm := scome_x l hL hS hM me ob log (ka % r.val) s1 hm0 (by omega) h1
 refine jM1 (fun p : ComI => ComOk log (vQ l me ob 64 (ka % r.val) log s1) s1 p) (fun p => ⟨[(6, dI p.n), (7, .ptr 48 0), (4, .ptr 47 0), (5, dI r.val), (0, .ptr 55 0), (1, .ptr 56 0), (2, .ptr 57 0), (3, .ptr 58 0)], [(40, prgD l me ob log p.s), (55, [.ptr 40 0]), (56, xL l), (57, [dI 2, dI ob, dI ka, dI kb]), (58, [fn2]), (53, [.ptr 40 0]), (54, [dI (xB l ob 1)]), (47, [dI 0, dB false, dI 0, dI 0, .p (.sl true 0 [])]), (48, [dI p.o.val, dB p.o.is, dI p.o.err, dI p.o.point, .p (.sl p.ex p.k p.ps)])], []⟩) ?_ ?_
 ·have herr : ∀ x, vQ l me ob 64 (ka % r.val) log s1 = .error x → E = .error x := fun x h => by rw [← hE]; exact jI h
  refine jC1 5 9 48 (LA := #[true, true, true, true, true, false, false, false, false, false, false, false]) (LB := #[true, true, true, true, true, false, false, false, false, true, false, false]) (na := 7) (nb := 6) rfl rfl rfl (by kernel_rfl) (by kernel_rfl) rfl rfl rfl rfl rfl (fun _ _ => jL jB 48 rfl rfl rfl rfl) (by kernel_rfl) (by kernel_rfl) (by kernel_rfl) (by kernel_rfl) rfl ?_
  refine goQ ?_
  refine r_q (jY3 rfl rfl rfl (by omega) (by omega)) rfl rfl ?_
  refine goQ ?_
  refine ax_in rfl rfl rfl ?_ (fun hB => ?_)
  ·refine jT (i := 5) (listed' := #[true, true, true, true, true, true, false, false, false, true, false, false]) (by kernel_rfl) rfl (by kernel_rfl) ?_
   refine cX (hcm) (fun a w => Tryz.call43 a w) ?_ ?_ ?_ ?_
   ·rintro d bs ⟨p, _, rfl, rfl⟩; exact ⟨.inl rfl, trivial⟩
   ·rintro v bs ⟨x, s', _, rfl, rfl⟩; exact ⟨.inl rfl, trivial⟩
   ·rintro v bs ⟨x, s', h, rfl, rfl⟩
    refine yQ (vM ?_)
    refine gP ?_
    refine fP (nxB fn2 l me ⟨2, ob, ka, kb⟩ log s') ?_
    exact ⟨x, s', herr x h, rfl, rfl⟩
   rintro d bs ⟨p, hp, rfl, rfl⟩
   refine jD (nq (yT ?_))
   refine jK (i := 6) (listed' := #[true, true, true, true, true, true, true, false, false, true, false, false]) (by kernel_rfl) (by kernel_rfl) (by kernel_rfl) (by kernel_rfl) (fun _ _ h => by cases h.1) rfl rfl rfl (yB rfl rfl rfl) ?_
   refine jK (i := 7) (listed' := #[true, true, true, true, true, true, true, true, false, true, false, false]) (by kernel_rfl) (by kernel_rfl) (by kernel_rfl) (by kernel_rfl) (fun _ _ h => by cases h.1) rfl rfl rfl (jV rfl rfl rfl rfl) ?_
   refine jK (i := 8) (listed' := #[true, true, true, true, true, true, true, true, true, true, false, false]) (by kernel_rfl) (by kernel_rfl) (by kernel_rfl) (by kernel_rfl) (fun _ _ h => by cases h.1) rfl rfl rfl (jV rfl rfl rfl rfl) ?_
   refine jT (i := 10) (listed' := #[true, true, true, true, true, true, true, true, true, true, true, false]) (by kernel_rfl) rfl (by kernel_rfl) ?_
   refine z2 ?_
   refine jD (nq ?_)
   refine jT (i := 11) (listed' := #[true, true, true, true, true, true, true, true, true, true, true, true]) (by kernel_rfl) rfl (by kernel_rfl) ?_
   refine z5 ?_
   refine jD (nq ?_)
   refine kN (by kernel_rfl) ⟨rfl, ?_⟩
   exact ⟨p, hp, zX⟩
  ·refine jB6 (i := 5) (j := 9) (listed' := #[true, true, true, true, true, true, false, false, false, false, false, false]) (listed2 := #[true, true, true, true, true, false, false, false, false, true, false, false]) (by kernel_rfl) rfl rfl (by kernel_rfl) (by kernel_rfl) ?_ ?_
   ·refine cX (hcm) (fun a w => Tryz.call43 a w) ?_ ?_ ?_ ?_
    ·rintro d bs ⟨p, _, rfl, rfl⟩; exact ⟨.inl rfl, trivial⟩
    ·rintro v bs ⟨x, s', _, rfl, rfl⟩; exact ⟨.inl rfl, trivial⟩
    ·rintro v bs ⟨x, s', h, rfl, rfl⟩
     refine yQ (vM ?_)
     refine gP ?_
     refine fP (nxB fn2 l me ⟨2, ob, ka, kb⟩ log s') ?_
     exact ⟨x, s', herr x h, rfl, rfl⟩
    rintro d bs ⟨p, hp, rfl, rfl⟩
    refine jD (nq (yT ?_))
    refine jK (i := 6) (listed' := #[true, true, true, true, true, true, true, false, false, false, false, false]) (by kernel_rfl) (by kernel_rfl) (by kernel_rfl) (by kernel_rfl) (fun _ _ h => by cases h.1) rfl rfl rfl (yB rfl rfl rfl) ?_
    refine jK (i := 7) (listed' := #[true, true, true, true, true, true, true, true, false, false, false, false]) (by kernel_rfl) (by kernel_rfl) (by kernel_rfl) (by kernel_rfl) (fun _ _ h => by cases h.1) rfl rfl rfl (jV rfl rfl rfl rfl) ?_
    refine jK (i := 8) (listed' := #[true, true, true, true, true, true, true, true, true, false, false, false]) (by kernel_rfl) (by kernel_rfl) (by kernel_rfl) (by kernel_rfl) (fun _ _ h => by cases h.1) rfl rfl rfl (jV rfl rfl rfl rfl) ?_
    refine jT (i := 9) (listed' := #[true, true, true, true, true, true, true, true, true, true, false, false]) (by kernel_rfl) rfl (by kernel_rfl) ?_
    refine a_b (jL jB 48 rfl rfl rfl rfl) rfl rfl rfl rfl ?_
    refine jD (nq ?_)
    refine jT (i := 10) (listed' := #[true, true, true, true, true, true, true, true, true, true, true, false]) (by kernel_rfl) rfl (by kernel_rfl) ?_
    refine z2 ?_
    refine jD (nq ?_)
    refine jT (i := 11) (listed' := #[true, true, true, true, true, true, true, true, true, true, true, true]) (by kernel_rfl) rfl (by kernel_rfl) ?_
    refine z5 ?_
    refine jD (nq ?_)
    refine kN (by kernel_rfl) ⟨rfl, ?_⟩
    exact ⟨p, hp, zX⟩
   ·refine a_b (jL jB 48 rfl rfl rfl rfl) rfl rfl rfl rfl ?_
    exact jD (nq hB)
 rintro ⟨dn, dq, s2, ex2, ek2, ps2⟩ ⟨hq2, hG2, hdn0, hdn1⟩
 simp only at hq2 hG2 hdn0 hdn1
 rw [jH hq2] at hE
 have h2 := h1.next hG2
 have hG2' := hG1.trans3 hG2
 simp only at hE
 refine go ?_
 generalize k3 : decide (dq.err = 0) = cc; cases cc
 ·rw [if_pos (of_decide_eq_false k3)] at hE
  refine go ?_
  first | refine fR (nxB fn2 l me ⟨2, ob, ka, kb⟩ log s2) ?_ | refine fN (nxB fn2 l me ⟨2, ob, ka, kb⟩ log s2) ?_
  exact hrt ⟨dq, s2, ex2, ek2, ps2⟩ hE.symm hG2'
 rw [if_neg (fun h => h (of_decide_eq_true k3))] at hE
 have hlst := kG2 l hL hS hM me ob log s2 2 dn (uF ka) kb h2 (by omega)
 refine go ?_
 refine jB9 9 10 [] rfl rfl (by kernel_rfl) (by kernel_rfl) (by kernel_rfl) rfl rfl ?_
 refine goQ ?_
 refine r_q (jA (real_c ka) rfl (fun a w => Tryz.call45 a w) rfl) rfl rfl ?_
 refine goQ ?_
 refine cX (hlst) (fun a w => Tryz.call44 a w) ?_ ?_ ?_ ?_
 ·rintro d bs ⟨x, s', _, _, rfl, rfl⟩; exact ⟨.inl rfl, trivial⟩
 ·rintro v bs ⟨a, s', _, rfl, rfl⟩; exact ⟨.inl rfl, trivial⟩
 ·rintro v bs ⟨a, s', h, rfl, rfl⟩
  refine gP ?_
  refine fP (nxB fn2 l me ⟨2, ob, ka, kb⟩ log s') ?_
  exact ⟨a, s', by rw [← hE]; exact jI h, rfl, rfl⟩
 rintro d bs ⟨q, s3, hq3, hG3, rfl, rfl⟩
 rw [jH hq3] at hE
 obtain ⟨⟨ov, ois, oe, opt, og⟩, a3⟩ := q
 have h3 := h2.next hG3
 have hG3' := hG2'.trans3 hG3
 simp only at hE
 refine goO ?_
 refine kK0 [48] rfl rfl ?_
 refine goQ ?_
 refine go ?_
 cases ois
 ·rw [if_neg (by decide)] at hE
  refine go ?_
  first | refine fR (nxB fn2 l me ⟨2, ob, ka, kb⟩ log s3) ?_ | refine fN (nxB fn2 l me ⟨2, ob, ka, kb⟩ log s3) ?_
  exact ⟨⟨⟨ov, false, oe, opt, og⟩, s3, false, og.length, vH og⟩, hE.symm, hG3', rfl, rfl⟩
 rw [if_pos rfl] at hE
 refine go ?_
 refine vF (after2_x l hL hM me ob log r.val s3 (by omega) (by omega) h3) rfl (fun a w => Tryz.call69 a w) rfl rfl rfl (by (repeat (first | exact trivial | refine ⟨⟨rfl, rfl⟩, ?_⟩))) (by (repeat (first | exact trivial | refine ⟨.inr rfl, ?_⟩ | refine ⟨.inl rfl, ?_⟩))) rfl rfl rfl rfl ?_ ?_ ?_ ?_
 ·rintro d bs ⟨x, s', _, _, rfl, rfl⟩; exact ⟨.inl rfl, .inl rfl, .inl rfl, trivial⟩
 ·rintro v bs ⟨a, s', _, rfl, rfl⟩; exact ⟨.inl rfl, .inl rfl, .inl rfl, trivial⟩
 ·rintro v bs ⟨a, s', h, rfl, rfl⟩
  refine gP ?_
  refine fP (nxB fn2 l me ⟨2, ob, ka, kb⟩ log s') ?_
  exact ⟨a, s', by rw [← hE]; exact jI h, rfl, rfl⟩
 rintro d bs ⟨u, s4, hq4, hG4, rfl, rfl⟩
 rw [jH hq4] at hE
 refine go ?_
 first | refine fR (nxB fn2 l me ⟨2, ob, ka, kb⟩ log s4) ?_ | refine fN (nxB fn2 l me ⟨2, ob, ka, kb⟩ log s4) ?_
 exact ⟨⟨⟨ov, true, oe, opt, og⟩, s4, false, og.length, vH og⟩, hE.symm, hG3'.trans3 hG4, rfl, rfl⟩
abbrev fn3 : Dt := .fn (.func 70) [] [.ptr 53 0, .ptr 54 0]
set_option maxHeartbeats 16000000 in
theorem snext3_x (l : jN) (hL : qJ l) (hS : 0 ≤ l.seats) (hM : jG3 l) (me : Int) (op : OpT) (log : List jS) (s : PsT) (hk : op.kind = 3) (ha0 : 0 ≤ op.a) (ha1 : op.a < 65536) (h0 : At0 log s) :
  ImpX Tryz.prog 41 [40, 53, 54, 55, 56, 57, 58] [.ptr 55 0, .ptr 56 0, .ptr 57 0, .ptr 58 0] (nxB fn3 l me op log s) (OutR (nxB fn3 l me op log) log (vO l me op log s) s) (PhX (nxB fn3 l me op log) (vO l me op log s)) := by
 generalize hE : vO l me op log s = E
 rw [vO] at hE
 obtain ⟨hbu0, hbu1⟩ := hM.b
 obtain ⟨kd, ob, ka, kb⟩ := op
 simp only at hk ha0 ha1 hE
 subst hk
 refine sX Tryz.func41 Tryz.ntmps41 fun w cl own kf => ?_
 refine goC ?_
 refine a_b (jL jB 47 rfl rfl rfl rfl) rfl rfl rfl rfl ?_
 refine go ?_
 refine jE 8 [] rfl rfl (by kernel_rfl) (by kernel_rfl) (by kernel_rfl) ?_
 refine goQ ?_
 refine r_q (jA (map_c l hL hM ob 0 (by omega)) rfl (fun a w => Tryz.call38 a w) rfl) rfl rfl ?_
 refine goQ ?_
 refine cX (sdo_x l me ob log s ⟨1, xB l ob 0, 0, 0⟩ h0) (fun a w => Tryz.call42 a w) ?_ ?_ ?_ ?_
 ·rintro d bs ⟨x, s', _, _, rfl, rfl⟩; exact ⟨.inl rfl, trivial⟩
 ·rintro v bs ⟨a, s', _, rfl, rfl⟩; exact ⟨.inl rfl, trivial⟩
 ·rintro v bs ⟨a, s', h, rfl, rfl⟩
  refine gP ?_
  refine fP (nxB fn3 l me ⟨3, ob, ka, kb⟩ log s') ?_
  exact ⟨a, s', by rw [← hE]; exact jI h, rfl, rfl⟩
 rintro d bs ⟨r, s1, hq1, hG1, rfl, rfl⟩
 rw [jH hq1] at hE
 have h1 := h0.next hG1
 have hbad : (r.val < 1 ∨ l.buckets < r.val ∨ jT6 r.val = false) → E = .ok (⟨0, false, 1, -1, []⟩, s1) := fun h => by rw [if_pos h] at hE; exact hE.symm
 have hrt : ∀ p : OutI, E = .ok (p.o, p.s) → FiG log s p.s → OutR (nxB fn3 l me ⟨3, ob, ka, kb⟩ log) log E s (outT p) (nxB fn3 l me ⟨3, ob, ka, kb⟩ log p.s) := fun p h1 h2 => ⟨p, h1, h2, rfl, rfl⟩
 refine go ?_
 generalize k1 : decide (r.val < 1) = cc; cases cc
 rotate_left
 ·refine go ?_
  first | refine fR (nxB fn3 l me ⟨3, ob, ka, kb⟩ log s1) ?_ | refine fN (nxB fn3 l me ⟨3, ob, ka, kb⟩ log s1) ?_
  exact hrt ⟨⟨0, false, 1, -1, []⟩, s1, true, 0, []⟩ (hbad (.inl (of_decide_eq_true k1))) hG1
 have k1' := of_decide_eq_false k1
 refine go ?_
 generalize k2 : decide (r.val > l.buckets) = cc; cases cc
 rotate_left
 ·refine go ?_
  first | refine fR (nxB fn3 l me ⟨3, ob, ka, kb⟩ log s1) ?_ | refine fN (nxB fn3 l me ⟨3, ob, ka, kb⟩ log s1) ?_
  exact hrt ⟨⟨0, false, 1, -1, []⟩, s1, true, 0, []⟩ (hbad (.inr (.inl (of_decide_eq_true k2)))) hG1
 have k2' := of_decide_eq_false k2
 have hpw := pow2_is (n := r.val) (by omega) (by omega)
 refine go ?_
 rw [hpw]
 cases hp2 : jT6 r.val
 ·refine go ?_
  first | refine fR (nxB fn3 l me ⟨3, ob, ka, kb⟩ log s1) ?_ | refine fN (nxB fn3 l me ⟨3, ob, ka, kb⟩ log s1) ?_
  exact hrt ⟨⟨0, false, 1, -1, []⟩, s1, true, 0, []⟩ (hbad (.inr (.inr hp2))) hG1
 rw [if_neg (by rw [hp2]; simp; omega)] at hE
 refine go ?_
 have hm0 := Int.emod_nonneg ka (show r.val ≠ 0 by omega)
 have hm1 := Int.emod_lt_of_pos ka (show 0 < r.val by omega)
 have hcm := scome_x l hL hS hM me ob log (ka % r.val) s1 hm0 (by omega) h1
 refine jM1 (fun p : ComI => ComOk log (vQ l me ob 64 (ka % r.val) log s1) s1 p) (fun p => ⟨[(6, dI p.n), (7, .ptr 48 0), (4, .ptr 47 0), (5, dI r.val), (0, .ptr 55 0), (1, .ptr 56 0), (2, .ptr 57 0), (3, .ptr 58 0)], [(40, prgD l me ob log p.s), (55, [.ptr 40 0]), (56, xL l), (57, [dI 3, dI ob, dI ka, dI kb]), (58, [fn3]), (53, [.ptr 40 0]), (54, [dI (xB l ob 1)]), (47, [dI 0, dB false, dI 0, dI 0, .p (.sl true 0 [])]), (48, [dI p.o.val, dB p.o.is, dI p.o.err, dI p.o.point, .p (.sl p.ex p.k p.ps)])], []⟩) ?_ ?_
 ·have herr : ∀ x, vQ l me ob 64 (ka % r.val) log s1 = .error x → E = .error x := fun x h => by rw [← hE]; exact jI h
  refine jC1 5 9 48 (LA := #[true, true, true, true, true, false, false, false, false, false, false, false]) (LB := #[true, true, true, true, true, false, false, false, false, true, false, false]) (na := 7) (nb := 6) rfl rfl rfl (by kernel_rfl) (by kernel_rfl) rfl rfl rfl rfl rfl (fun _ _ => jL jB 48 rfl rfl rfl rfl) (by kernel_rfl) (by kernel_rfl) (by kernel_rfl) (by kernel_rfl) rfl ?_
  refine goQ ?_
  refine r_q (jY3 rfl rfl rfl (by omega) (by omega)) rfl rfl ?_
  refine goQ ?_
  refine ax_in rfl rfl rfl ?_ (fun hB => ?_)
  ·refine jT (i := 5) (listed' := #[true, true, true, true, true, true, false, false, false, true, false, false]) (by kernel_rfl) rfl (by kernel_rfl) ?_
   refine cX (hcm) (fun a w => Tryz.call43 a w) ?_ ?_ ?_ ?_
   ·rintro d bs ⟨p, _, rfl, rfl⟩; exact ⟨.inl rfl, trivial⟩
   ·rintro v bs ⟨x, s', _, rfl, rfl⟩; exact ⟨.inl rfl, trivial⟩
   ·rintro v bs ⟨x, s', h, rfl, rfl⟩
    refine yQ (vM ?_)
    refine gP ?_
    refine fP (nxB fn3 l me ⟨3, ob, ka, kb⟩ log s') ?_
    exact ⟨x, s', herr x h, rfl, rfl⟩
   rintro d bs ⟨p, hp, rfl, rfl⟩
   refine jD (nq (yT ?_))
   refine jK (i := 6) (listed' := #[true, true, true, true, true, true, true, false, false, true, false, false]) (by kernel_rfl) (by kernel_rfl) (by kernel_rfl) (by kernel_rfl) (fun _ _ h => by cases h.1) rfl rfl rfl (yB rfl rfl rfl) ?_
   refine jK (i := 7) (listed' := #[true, true, true, true, true, true, true, true, false, true, false, false]) (by kernel_rfl) (by kernel_rfl) (by kernel_rfl) (by kernel_rfl) (fun _ _ h => by cases h.1) rfl rfl rfl (jV rfl rfl rfl rfl) ?_
   refine jK (i := 8) (listed' := #[true, true, true, true, true, true, true, true, true, true, false, false]) (by kernel_rfl) (by kernel_rfl) (by kernel_rfl) (by kernel_rfl) (fun _ _ h => by cases h.1) rfl rfl rfl (jV rfl rfl rfl rfl) ?_
   refine jT (i := 10) (listed' := #[true, true, true, true, true, true, true, true, true, true, true, false]) (by kernel_rfl) rfl (by kernel_rfl) ?_
   refine z2 ?_
   refine jD (nq ?_)
   refine jT (i := 11) (listed' := #[true, true, true, true, true, true, true, true, true, true, true, true]) (by kernel_rfl) rfl (by kernel_rfl) ?_
   refine z5 ?_
   refine jD (nq ?_)
   refine kN (by kernel_rfl) ⟨rfl, ?_⟩
   exact ⟨p, hp, zX⟩
  ·refine jB6 (i := 5) (j := 9) (listed' := #[true, true, true, true, true, true, false, false, false, false, false, false]) (listed2 := #[true, true, true, true, true, false, false, false, false, true, false, false]) (by kernel_rfl) rfl rfl (by kernel_rfl) (by kernel_rfl) ?_ ?_
   ·refine cX (hcm) (fun a w => Tryz.call43 a w) ?_ ?_ ?_ ?_
    ·rintro d bs ⟨p, _, rfl, rfl⟩; exact ⟨.inl rfl, trivial⟩
    ·rintro v bs ⟨x, s', _, rfl, rfl⟩; exact ⟨.inl rfl, trivial⟩
    ·rintro v bs ⟨x, s', h, rfl, rfl⟩
     refine yQ (vM ?_)
     refine gP ?_
     refine fP (nxB fn3 l me ⟨3, ob, ka, kb⟩ log s') ?_
     exact ⟨x, s', herr x h, rfl, rfl⟩
    rintro d bs ⟨p, hp, rfl, rfl⟩
    refine jD (nq (yT ?_))
    refine jK (i := 6) (listed' := #[true, true, true, true, true, true, true, false, false, false, false, false]) (by kernel_rfl) (by kernel_rfl) (by kernel_rfl) (by kernel_rfl) (fun _ _ h => by cases h.1) rfl rfl rfl (yB rfl rfl rfl) ?_
    refine jK (i := 7) (listed' := #[true, true, true, true, true, true, true, true, false, false, false, false]) (by kernel_rfl) (by kernel_rfl) (by kernel_rfl) (by kernel_rfl) (fun _ _ h => by cases h.1) rfl rfl rfl (jV rfl rfl rfl rfl) ?_
    refine jK (i := 8) (listed' := #[true, true, true, true, true, true, true, true, true, false, false, false]) (by kernel_rfl) (by kernel_rfl) (by kernel_rfl) (by kernel_rfl) (fun _ _ h => by cases h.1) rfl rfl rfl (jV rfl rfl rfl rfl) ?_
    refine jT (i := 9) (listed' := #[true, true, true, true, true, true, true, true, true, true, false, false]) (by kernel_rfl) rfl (by kernel_rfl) ?_
    refine a_b (jL jB 48 rfl rfl rfl rfl) rfl rfl rfl rfl ?_
    refine jD (nq ?_)
    refine jT (i := 10) (listed' := #[true, true, true, true, true, true, true, true, true, true, true, false]) (by kernel_rfl) rfl (by kernel_rfl) ?_
    refine z2 ?_
    refine jD (nq ?_)
    refine jT (i := 11) (listed' := #[true, true, true, true, true, true, true, true, true, true, true, true]) (by kernel_rfl) rfl (by kernel_rfl) ?_
    refine z5 ?_
    refine jD (nq ?_)
    refine kN (by kernel_rfl) ⟨rfl, ?_⟩
    exact ⟨p, hp, zX⟩
   ·refine a_b (jL jB 48 rfl rfl rfl rfl) rfl rfl rfl rfl ?_
    exact jD (nq hB)
 rintro ⟨dn, dq, s2, ex2, ek2, ps2⟩ ⟨hq2, hG2, hdn0, hdn1⟩
 simp only at hq2 hG2 hdn0 hdn1
 rw [jH hq2] at hE
 have h2 := h1.next hG2
 have hG2' := hG1.trans3 hG2
 simp only at hE
 refine go ?_
 generalize k3 : decide (dq.err = 0) = cc; cases cc
 ·rw [if_pos (of_decide_eq_false k3)] at hE
  refine go ?_
  first | refine fR (nxB fn3 l me ⟨3, ob, ka, kb⟩ log s2) ?_ | refine fN (nxB fn3 l me ⟨3, ob, ka, kb⟩ log s2) ?_
  exact hrt ⟨dq, s2, ex2, ek2, ps2⟩ hE.symm hG2'
 rw [if_neg (fun h => h (of_decide_eq_true k3))] at hE
 have hlst := kG2 l hL hS hM me ob log s2 3 dn (uF ka) kb h2 (by omega)
 refine go ?_
 refine jB9 9 10 [] rfl rfl (by kernel_rfl) (by kernel_rfl) (by kernel_rfl) rfl rfl ?_
 refine goQ ?_
 refine r_q (jA (real_c ka) rfl (fun a w => Tryz.call45 a w) rfl) rfl rfl ?_
 refine goQ ?_
 refine cX (hlst) (fun a w => Tryz.call44 a w) ?_ ?_ ?_ ?_
 ·rintro d bs ⟨x, s', _, _, rfl, rfl⟩; exact ⟨.inl rfl, trivial⟩
 ·rintro v bs ⟨a, s', _, rfl, rfl⟩; exact ⟨.inl rfl, trivial⟩
 ·rintro v bs ⟨a, s', h, rfl, rfl⟩
  refine gP ?_
  refine fP (nxB fn3 l me ⟨3, ob, ka, kb⟩ log s') ?_
  exact ⟨a, s', by rw [← hE]; exact jI h, rfl, rfl⟩
 rintro d bs ⟨q, s3, hq3, hG3, rfl, rfl⟩
 rw [jH hq3] at hE
 obtain ⟨⟨ov, ois, oe, opt, og⟩, a3⟩ := q
 have h3 := h2.next hG3
 have hG3' := hG2'.trans3 hG3
 simp only at hE
 refine goO ?_
 refine kK0 [48] rfl rfl ?_
 refine goQ ?_
 refine go ?_
 cases ois
 ·rw [if_neg (by decide)] at hE
  refine go ?_
  first | refine fR (nxB fn3 l me ⟨3, ob, ka, kb⟩ log s3) ?_ | refine fN (nxB fn3 l me ⟨3, ob, ka, kb⟩ log s3) ?_
  exact ⟨⟨⟨ov, false, oe, opt, og⟩, s3, false, og.length, vH og⟩, hE.symm, hG3', rfl, rfl⟩
 rw [if_pos rfl] at hE
 refine go ?_
 refine vF (after3_x l me ob log r.val s3 h3) rfl (fun a w => Tryz.call70 a w) rfl rfl rfl (by (repeat (first | exact trivial | refine ⟨⟨rfl, rfl⟩, ?_⟩))) (by (repeat (first | exact trivial | refine ⟨.inr rfl, ?_⟩ | refine ⟨.inl rfl, ?_⟩))) rfl rfl rfl rfl ?_ ?_ ?_ ?_
 ·rintro d bs ⟨x, s', _, _, rfl, rfl⟩; exact ⟨.inl rfl, .inl rfl, .inl rfl, trivial⟩
 ·rintro v bs ⟨a, s', _, rfl, rfl⟩; exact ⟨.inl rfl, .inl rfl, .inl rfl, trivial⟩
 ·rintro v bs ⟨a, s', h, rfl, rfl⟩
  refine gP ?_
  refine fP (nxB fn3 l me ⟨3, ob, ka, kb⟩ log s') ?_
  exact ⟨a, s', by rw [← hE]; exact jI h, rfl, rfl⟩
 rintro d bs ⟨u, s4, hq4, hG4, rfl, rfl⟩
 rw [jH hq4] at hE
 refine go ?_
 first | refine fR (nxB fn3 l me ⟨3, ob, ka, kb⟩ log s4) ?_ | refine fN (nxB fn3 l me ⟨3, ob, ka, kb⟩ log s4) ?_
 exact ⟨⟨⟨ov, true, oe, opt, og⟩, s4, false, og.length, vH og⟩, hE.symm, hG3'.trans3 hG4, rfl, rfl⟩
end Go.Proofs.YtkkldicehapklaaGreat
