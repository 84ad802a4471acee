/- A map's programs: what comes behind an operation; operations: their walks. -/
import Derived.Test.YtkkldicehapklaaGreatH4
namespace Go.Proofs.YtkkldicehapklaaGreat
open Go.RowKit
set_option maxRecDepth 100000

theorem pow2_and : ∀ n : Nat, n < 65 → 1 ≤ n → (decide (IntKind.i64.wrap (((BitVec.ofInt 64 (n : Int) &&& BitVec.ofInt 64 ((n : Int) - 1)).toNat : Nat) : Int) = 0)) = pow2B (n : Int) := by decide +kernel
theorem pow2_is {n : Int} (h0 : 1 ≤ n) (h1 : n ≤ 64) : (decide (IntKind.i64.wrap (((BitVec.ofInt 64 n &&& BitVec.ofInt 64 (n - 1)).toNat : Nat) : Int) = 0)) = pow2B n := by
  obtain ⟨m, rfl⟩ := Int.eq_ofNat_of_zero_le (show 0 ≤ n by omega)
  exact pow2_and m (by omega) (by omega)
theorem refuseH_c (g : List (Int × Int)) (hg : g.length ≤ 100000) : PureC Tryz.prog 39 [dGone g] (.tup [dAcc acc0, dOut ⟨0, false, 1, -1, g⟩, dB true]) := by
  refine pure_fin tabOk Tryz.func39 rfl Tryz.ntmps39 rfl rfl rfl fun w cl => ?_
  refine go ?_
  refine a_q (call_step ((clone2_f g hg).pure) rfl (fun a w => Tryz.call71 a w) rfl) rfl rfl rfl ?_
  refine go ?_
  first | refine fin_ret rfl ?_ | refine fin_normal rfl ?_
  rfl
abbrev aftB (l : LayT) (me m : Int) (log : List ResT) (s : PsT) : Bxs := [(40, prgD l me m log s), (53, [.ptr 40 0]), (54, [dI (mapF l m 1)])]
theorem after2_x (l : LayT) (hL : LayOk l) (hM : LayM l) (me m : Int) (log : List ResT) (size : Int) (s : PsT) (hz0 : 1 ≤ size) (hz1 : size ≤ 64) (h0 : At0 log s) :
    PhC 69 [40, 53, 54] (aftB l me m log) log s [dI size, .ptr 53 0, .ptr 54 0] (afterM l m 2 size log s) (fun _ => .tup []) := by
  generalize hE : afterM l m 2 size log s = E
  rw [afterM, if_pos rfl] at hE
  have ew : IntKind.i64.wrap (2 * size) = 2 * size := wrap_id (by omega) (by omega)
  refine sX Tryz.func69 Tryz.ntmps69 fun w cl own kf => ?_
  refine go ?_
  refine cX (sdo_x l me m log s ⟨4, mapF l m 1, 0, 1⟩ h0) (fun a w => Tryz.call42 a w) ?_ ?_ ?_ ?_
  · rintro d bs ⟨x, s', _, _, rfl, rfl⟩; exact ⟨.inl rfl, trivial⟩
  · rintro v bs ⟨a, s', _, rfl, rfl⟩; exact ⟨.inl rfl, trivial⟩
  · rintro v bs ⟨a, s', h, rfl, rfl⟩
    refine gP ?_
    refine fP (aftB l me m log s') ?_
    exact ⟨a, s', by rw [← hE]; exact bind_err h, rfl, rfl⟩
  rintro d bs ⟨r, s1, hq1, hG1, rfl, rfl⟩
  rw [bind_ok hq1] at hE
  have h1 := h0.next hG1
  refine go ?_
  rw [ew]
  refine go ?_
  generalize k1 : decide (r.val ≥ 2 * size) = cc; cases cc
  · rw [if_neg (fun h => of_decide_eq_false k1 h.1)] at hE
    refine go ?_
    first | refine fR (aftB l me m log s1) ?_ | refine fN (aftB l me m log s1) ?_
    exact ⟨(), s1, hE.symm, hG1, rfl, rfl⟩
  refine go ?_
  generalize k2 : decide (size < l.buckets) = cc; cases cc
  · rw [if_neg (fun h => of_decide_eq_false k2 h.2)] at hE
    refine go ?_
    first | refine fR (aftB l me m log s1) ?_ | refine fN (aftB l me m log s1) ?_
    exact ⟨(), s1, hE.symm, hG1, rfl, rfl⟩
  rw [if_pos ⟨of_decide_eq_true k1, of_decide_eq_true k2⟩] at hE
  refine go ?_
  refine awp_region_w 14 [] rfl rfl (by kernel_rfl) (by kernel_rfl) (by kernel_rfl) ?_
  refine goQ ?_
  refine r_q (call_step (map_c l hL hM m 0 (by omega)) rfl (fun a w => Tryz.call38 a w) rfl) rfl rfl ?_
  refine goQ ?_
  rw [ew]
  refine cX (sdo_x l me m log s1 ⟨3, mapF l m 0, size, 2 * size⟩ h1) (fun a w => Tryz.call42 a w) ?_ ?_ ?_ ?_
  · rintro d bs ⟨x, s', _, _, rfl, rfl⟩; exact ⟨.inl rfl, trivial⟩
  · rintro v bs ⟨a, s', _, rfl, rfl⟩; exact ⟨.inl rfl, trivial⟩
  · rintro v bs ⟨a, s', h, rfl, rfl⟩
    refine gP ?_
    refine fP (aftB l me m log s') ?_
    exact ⟨a, s', by rw [← hE]; exact bind_err h, rfl, rfl⟩
  rintro d bs ⟨r2, s2, hq2, hG2, rfl, rfl⟩
  rw [bind_ok hq2] at hE
  refine go ?_
  first | refine fR (aftB l me m log s2) ?_ | refine fN (aftB l me m log s2) ?_
  exact ⟨(), s2, hE.symm, hG1.trans3 hG2, rfl, rfl⟩
theorem after3_x (l : LayT) (me m : Int) (log : List ResT) (size : Int) (s : PsT) (h0 : At0 log s) :
    PhC 70 [40, 53, 54] (aftB l me m log) log s [dI size, .ptr 53 0, .ptr 54 0] (afterM l m 3 size log s) (fun _ => .tup []) := by
  generalize hE : afterM l m 3 size log s = E
  rw [afterM, if_neg (by decide), if_pos rfl] at hE
  refine sX Tryz.func70 Tryz.ntmps70 fun w cl own kf => ?_
  refine go ?_
  refine cX (sdo_x l me m log s ⟨4, mapF l m 1, 0, -1⟩ h0) (fun a w => Tryz.call42 a w) ?_ ?_ ?_ ?_
  · rintro d bs ⟨x, s', _, _, rfl, rfl⟩; exact ⟨.inl rfl, trivial⟩
  · rintro v bs ⟨a, s', _, rfl, rfl⟩; exact ⟨.inl rfl, trivial⟩
  · rintro v bs ⟨a, s', h, rfl, rfl⟩
    refine gP ?_
    refine fP (aftB l me m log s') ?_
    exact ⟨a, s', by rw [← hE]; exact bind_err h, rfl, rfl⟩
  rintro d bs ⟨r, s1, hq1, hG1, rfl, rfl⟩
  rw [bind_ok hq1] at hE
  refine go ?_
  first | refine fR (aftB l me m log s1) ?_ | refine fN (aftB l me m log s1) ?_
  exact ⟨(), s1, hE.symm, hG1, rfl, rfl⟩
abbrev nxB (fnd : Dt) (l : LayT) (me : Int) (op : OpT) (log : List ResT) (s : PsT) : Bxs := [(40, prgD l me op.obj log s), (55, [.ptr 40 0]), (56, layD l), (57, [dI op.kind, dI op.obj, dI op.a, dI op.b]), (58, [fnd]), (53, [.ptr 40 0]), (54, [dI (mapF l op.obj 1)])]
structure OutI where
  o : OutT
  s : PsT
  ex : Bool
  k : Nat
  ps : List Pl
abbrev outT (p : OutI) : Dt := .agg [dI p.o.val, dB p.o.is, dI p.o.err, dI p.o.point, .p (.sl p.ex p.k p.ps)]
def OutR (bx : PsT → Bxs) (log : List ResT) (m : Except AccT (OutT × PsT)) (s : PsT) : Dt → Bxs → Prop := fun d bs => ∃ p : OutI, m = .ok (p.o, p.s) ∧ FiG log s p.s ∧ d = outT p ∧ bs = bx p.s
abbrev fn1 : Dt := .fn (.func 68) [] []
set_option maxHeartbeats 16000000 in
theorem snext1_x (l : LayT) (hL : LayOk l) (hS : 0 ≤ l.seats) (hM : LayM l) (me : Int) (op : OpT) (log : List ResT) (s : PsT) (hk : op.kind = 1) (ha0 : 0 ≤ op.a) (ha1 : op.a < 65536) (h0 : At0 log s) :
    ImpX Tryz.prog 41 [40, 53, 54, 55, 56, 57, 58] [.ptr 55 0, .ptr 56 0, .ptr 57 0, .ptr 58 0] (nxB fn1 l me op log s) (OutR (nxB fn1 l me op log) log (splitM l me op log s) s) (PhX (nxB fn1 l me op log) (splitM l me op log s)) := by
  generalize hE : splitM l me op log s = E
  rw [splitM] at hE
  obtain ⟨hbu0, hbu1⟩ := hM.b
  obtain ⟨kd, ob, ka, kb⟩ := op
  simp only at hk ha0 ha1 hE
  subst hk
  refine sX Tryz.func41 Tryz.ntmps41 fun w cl own kf => ?_
  refine goC ?_
  refine a_b (alloc_step tabOk 47 rfl rfl rfl rfl) rfl rfl rfl rfl ?_
  refine go ?_
  refine awp_region_w 8 [] rfl rfl (by kernel_rfl) (by kernel_rfl) (by kernel_rfl) ?_
  refine goQ ?_
  refine r_q (call_step (map_c l hL hM ob 0 (by omega)) rfl (fun a w => Tryz.call38 a w) rfl) rfl rfl ?_
  refine goQ ?_
  refine cX (sdo_x l me ob log s ⟨1, mapF l ob 0, 0, 0⟩ h0) (fun a w => Tryz.call42 a w) ?_ ?_ ?_ ?_
  · rintro d bs ⟨x, s', _, _, rfl, rfl⟩; exact ⟨.inl rfl, trivial⟩
  · rintro v bs ⟨a, s', _, rfl, rfl⟩; exact ⟨.inl rfl, trivial⟩
  · rintro v bs ⟨a, s', h, rfl, rfl⟩
    refine gP ?_
    refine fP (nxB fn1 l me ⟨1, ob, ka, kb⟩ log s') ?_
    exact ⟨a, s', by rw [← hE]; exact bind_err h, rfl, rfl⟩
  rintro d bs ⟨r, s1, hq1, hG1, rfl, rfl⟩
  rw [bind_ok hq1] at hE
  have h1 := h0.next hG1
  have hbad : (r.val < 1 ∨ l.buckets < r.val ∨ pow2B r.val = false) → E = .ok (⟨0, false, 1, -1, []⟩, s1) := fun h => by rw [if_pos h] at hE; exact hE.symm
  have hrt : ∀ p : OutI, E = .ok (p.o, p.s) → FiG log s p.s → OutR (nxB fn1 l me ⟨1, ob, ka, kb⟩ log) log E s (outT p) (nxB fn1 l me ⟨1, ob, ka, kb⟩ log p.s) := fun p h1 h2 => ⟨p, h1, h2, rfl, rfl⟩
  refine go ?_
  generalize k1 : decide (r.val < 1) = cc; cases cc
  rotate_left
  · refine go ?_
    first | refine fR (nxB fn1 l me ⟨1, ob, ka, kb⟩ log s1) ?_ | refine fN (nxB fn1 l me ⟨1, ob, ka, kb⟩ log s1) ?_
    exact hrt ⟨⟨0, false, 1, -1, []⟩, s1, true, 0, []⟩ (hbad (.inl (of_decide_eq_true k1))) hG1
  have k1' := of_decide_eq_false k1
  refine go ?_
  generalize k2 : decide (r.val > l.buckets) = cc; cases cc
  rotate_left
  · refine go ?_
    first | refine fR (nxB fn1 l me ⟨1, ob, ka, kb⟩ log s1) ?_ | refine fN (nxB fn1 l me ⟨1, ob, ka, kb⟩ log s1) ?_
    exact hrt ⟨⟨0, false, 1, -1, []⟩, s1, true, 0, []⟩ (hbad (.inr (.inl (of_decide_eq_true k2)))) hG1
  have k2' := of_decide_eq_false k2
  have hpw := pow2_is (n := r.val) (by omega) (by omega)
  refine go ?_
  rw [hpw]
  cases hp2 : pow2B r.val
  · refine go ?_
    first | refine fR (nxB fn1 l me ⟨1, ob, ka, kb⟩ log s1) ?_ | refine fN (nxB fn1 l me ⟨1, ob, ka, kb⟩ log s1) ?_
    exact hrt ⟨⟨0, false, 1, -1, []⟩, s1, true, 0, []⟩ (hbad (.inr (.inr hp2))) hG1
  rw [if_neg (by rw [hp2]; simp; omega)] at hE
  refine go ?_
  have hm0 := Int.emod_nonneg ka (show r.val ≠ 0 by omega)
  have hm1 := Int.emod_lt_of_pos ka (show 0 < r.val by omega)
  have hcm := scome_x l hL hS hM me ob log (ka % r.val) s1 hm0 (by omega) h1
  refine awp_cutx (fun p : ComI => ComOk log (comeM l me ob 64 (ka % r.val) log s1) s1 p) (fun p => ⟨[(6, dI p.n), (7, .ptr 48 0), (4, .ptr 47 0), (5, dI r.val), (0, .ptr 55 0), (1, .ptr 56 0), (2, .ptr 57 0), (3, .ptr 58 0)], [(40, prgD l me ob log p.s), (55, [.ptr 40 0]), (56, layD l), (57, [dI 1, dI ob, dI ka, dI kb]), (58, [fn1]), (53, [.ptr 40 0]), (54, [dI (mapF l ob 1)]), (47, [dI 0, dB false, dI 0, dI 0, .p (.sl true 0 [])]), (48, [dI p.o.val, dB p.o.is, dI p.o.err, dI p.o.point, .p (.sl p.ex p.k p.ps)])], []⟩) ?_ ?_
  · have herr : ∀ x, comeM l me ob 64 (ka % r.val) log s1 = .error x → E = .error x := fun x h => by rw [← hE]; exact bind_err h
    refine awp_region_x 5 9 48 (LA := #[true, true, true, true, true, false, false, false, false, false, false, false]) (LB := #[true, true, true, true, true, false, false, false, false, true, false, false]) (na := 7) (nb := 6) rfl rfl rfl (by kernel_rfl) (by kernel_rfl) rfl rfl rfl rfl rfl (fun _ _ => alloc_step tabOk 48 rfl rfl rfl rfl) (by kernel_rfl) (by kernel_rfl) (by kernel_rfl) (by kernel_rfl) rfl ?_
    refine goQ ?_
    refine r_q (rem_step rfl rfl rfl (by omega) (by omega)) rfl rfl ?_
    refine goQ ?_
    refine ax_in rfl rfl rfl ?_ (fun hB => ?_)
    · refine aany_one (i := 5) (listed' := #[true, true, true, true, true, true, false, false, false, true, false, false]) (by kernel_rfl) rfl (by kernel_rfl) ?_
      refine cX (hcm) (fun a w => Tryz.call43 a w) ?_ ?_ ?_ ?_
      · rintro d bs ⟨p, _, rfl, rfl⟩; exact ⟨.inl rfl, trivial⟩
      · rintro v bs ⟨x, s', _, rfl, rfl⟩; exact ⟨.inl rfl, trivial⟩
      · rintro v bs ⟨x, s', h, rfl, rfl⟩
        refine q_next_panic (q_cut_panic ?_)
        refine gP ?_
        refine fP (nxB fn1 l me ⟨1, ob, ka, kb⟩ log s') ?_
        exact ⟨x, s', herr x h, rfl, rfl⟩
      rintro d bs ⟨p, hp, rfl, rfl⟩
      refine aops_nil (nq (aany_normal ?_))
      refine aany_take (i := 6) (listed' := #[true, true, true, true, true, true, true, false, false, true, false, false]) (by kernel_rfl) (by kernel_rfl) (by kernel_rfl) (by kernel_rfl) (fun _ _ h => by cases h.1) rfl rfl rfl (y_move rfl rfl rfl) ?_
      refine aany_take (i := 7) (listed' := #[true, true, true, true, true, true, true, true, false, true, false, false]) (by kernel_rfl) (by kernel_rfl) (by kernel_rfl) (by kernel_rfl) (fun _ _ h => by cases h.1) rfl rfl rfl (y_extract rfl rfl rfl rfl) ?_
      refine aany_take (i := 8) (listed' := #[true, true, true, true, true, true, true, true, true, true, false, false]) (by kernel_rfl) (by kernel_rfl) (by kernel_rfl) (by kernel_rfl) (fun _ _ h => by cases h.1) rfl rfl rfl (y_extract rfl rfl rfl rfl) ?_
      refine aany_one (i := 10) (listed' := #[true, true, true, true, true, true, true, true, true, true, true, false]) (by kernel_rfl) rfl (by kernel_rfl) ?_
      refine z2 ?_
      refine aops_nil (nq ?_)
      refine aany_one (i := 11) (listed' := #[true, true, true, true, true, true, true, true, true, true, true, true]) (by kernel_rfl) rfl (by kernel_rfl) ?_
      refine z5 ?_
      refine aops_nil (nq ?_)
      refine aany_done (by kernel_rfl) ⟨rfl, ?_⟩
      exact ⟨p, hp, zX⟩
    · refine aany_two (i := 5) (j := 9) (listed' := #[true, true, true, true, true, true, false, false, false, false, false, false]) (listed2 := #[true, true, true, true, true, false, false, false, false, true, false, false]) (by kernel_rfl) rfl rfl (by kernel_rfl) (by kernel_rfl) ?_ ?_
      · refine cX (hcm) (fun a w => Tryz.call43 a w) ?_ ?_ ?_ ?_
        · rintro d bs ⟨p, _, rfl, rfl⟩; exact ⟨.inl rfl, trivial⟩
        · rintro v bs ⟨x, s', _, rfl, rfl⟩; exact ⟨.inl rfl, trivial⟩
        · rintro v bs ⟨x, s', h, rfl, rfl⟩
          refine q_next_panic (q_cut_panic ?_)
          refine gP ?_
          refine fP (nxB fn1 l me ⟨1, ob, ka, kb⟩ log s') ?_
          exact ⟨x, s', herr x h, rfl, rfl⟩
        rintro d bs ⟨p, hp, rfl, rfl⟩
        refine aops_nil (nq (aany_normal ?_))
        refine aany_take (i := 6) (listed' := #[true, true, true, true, true, true, true, false, false, false, false, false]) (by kernel_rfl) (by kernel_rfl) (by kernel_rfl) (by kernel_rfl) (fun _ _ h => by cases h.1) rfl rfl rfl (y_move rfl rfl rfl) ?_
        refine aany_take (i := 7) (listed' := #[true, true, true, true, true, true, true, true, false, false, false, false]) (by kernel_rfl) (by kernel_rfl) (by kernel_rfl) (by kernel_rfl) (fun _ _ h => by cases h.1) rfl rfl rfl (y_extract rfl rfl rfl rfl) ?_
        refine aany_take (i := 8) (listed' := #[true, true, true, true, true, true, true, true, true, false, false, false]) (by kernel_rfl) (by kernel_rfl) (by kernel_rfl) (by kernel_rfl) (fun _ _ h => by cases h.1) rfl rfl rfl (y_extract rfl rfl rfl rfl) ?_
        refine aany_one (i := 9) (listed' := #[true, true, true, true, true, true, true, true, true, true, false, false]) (by kernel_rfl) rfl (by kernel_rfl) ?_
        refine a_b (alloc_step tabOk 48 rfl rfl rfl rfl) rfl rfl rfl rfl ?_
        refine aops_nil (nq ?_)
        refine aany_one (i := 10) (listed' := #[true, true, true, true, true, true, true, true, true, true, true, false]) (by kernel_rfl) rfl (by kernel_rfl) ?_
        refine z2 ?_
        refine aops_nil (nq ?_)
        refine aany_one (i := 11) (listed' := #[true, true, true, true, true, true, true, true, true, true, true, true]) (by kernel_rfl) rfl (by kernel_rfl) ?_
        refine z5 ?_
        refine aops_nil (nq ?_)
        refine aany_done (by kernel_rfl) ⟨rfl, ?_⟩
        exact ⟨p, hp, zX⟩
      · refine a_b (alloc_step tabOk 48 rfl rfl rfl rfl) rfl rfl rfl rfl ?_
        exact aops_nil (nq hB)
  rintro ⟨dn, dq, s2, ex2, ek2, ps2⟩ ⟨hq2, hG2, hdn0, hdn1⟩
  simp only at hq2 hG2 hdn0 hdn1
  rw [bind_ok hq2] at hE
  have h2 := h1.next hG2
  have hG2' := hG1.trans3 hG2
  simp only at hE
  refine go ?_
  generalize k3 : decide (dq.err = 0) = cc; cases cc
  · rw [if_pos (of_decide_eq_false k3)] at hE
    refine go ?_
    first | refine fR (nxB fn1 l me ⟨1, ob, ka, kb⟩ log s2) ?_ | refine fN (nxB fn1 l me ⟨1, ob, ka, kb⟩ log s2) ?_
    exact hrt ⟨dq, s2, ex2, ek2, ps2⟩ hE.symm hG2'
  rw [if_neg (fun h => h (of_decide_eq_true k3))] at hE
  have hlst := slist_x l hL hS hM me ob log s2 1 dn (realW ka) kb h2 (by omega)
  refine go ?_
  refine awp_region_3 9 10 [] rfl rfl (by kernel_rfl) (by kernel_rfl) (by kernel_rfl) rfl rfl ?_
  refine goQ ?_
  refine r_q (call_step (real_c ka) rfl (fun a w => Tryz.call45 a w) rfl) rfl rfl ?_
  refine goQ ?_
  refine cX (hlst) (fun a w => Tryz.call44 a w) ?_ ?_ ?_ ?_
  · rintro d bs ⟨x, s', _, _, rfl, rfl⟩; exact ⟨.inl rfl, trivial⟩
  · rintro v bs ⟨a, s', _, rfl, rfl⟩; exact ⟨.inl rfl, trivial⟩
  · rintro v bs ⟨a, s', h, rfl, rfl⟩
    refine gP ?_
    refine fP (nxB fn1 l me ⟨1, ob, ka, kb⟩ log s') ?_
    exact ⟨a, s', by rw [← hE]; exact bind_err h, rfl, rfl⟩
  rintro d bs ⟨q, s3, hq3, hG3, rfl, rfl⟩
  rw [bind_ok hq3] at hE
  obtain ⟨⟨ov, ois, oe, opt, og⟩, a3⟩ := q
  have h3 := h2.next hG3
  have hG3' := hG2'.trans3 hG3
  simp only at hE
  refine goO ?_
  refine last_out [48] rfl rfl ?_
  refine goQ ?_
  refine go ?_
  cases ois
  · rw [if_neg (by decide)] at hE
    refine go ?_
    first | refine fR (nxB fn1 l me ⟨1, ob, ka, kb⟩ log s3) ?_ | refine fN (nxB fn1 l me ⟨1, ob, ka, kb⟩ log s3) ?_
    exact ⟨⟨⟨ov, false, oe, opt, og⟩, s3, false, og.length, pGone og⟩, hE.symm, hG3', rfl, rfl⟩
  rw [if_pos rfl] at hE
  have haf : afterM l ob 1 r.val log s3 = .ok ((), s3) := by rw [afterM, if_neg (by decide), if_neg (by decide)]; rfl
  rw [bind_ok haf] at hE
  have hC : ImpX Tryz.prog 68 [] [dI r.val] [] (fun d bs => d = .tup [] ∧ bs = []) (fun _ _ => False) := by
    refine sX Tryz.func68 Tryz.ntmps68 fun w cl own kf => ?_
    refine go ?_
    refine finX_normal (d := .tup []) [] ?_ rfl trivial trivial ⟨rfl, rfl⟩
    rfl
  refine go ?_
  refine a_callvX (hC) rfl (fun a w => Tryz.call68 a w) rfl rfl rfl (by (repeat (first | exact trivial | refine ⟨⟨rfl, rfl⟩, ?_⟩))) (by (repeat (first | exact trivial | refine ⟨.inr rfl, ?_⟩ | refine ⟨.inl rfl, ?_⟩))) rfl rfl rfl rfl ?_ ?_ ?_ ?_
  · rintro d bs ⟨_, rfl⟩; exact trivial
  · rintro v bs h; exact absurd h id
  · rintro v bs h; exact absurd h id
  rintro d bs ⟨rfl, rfl⟩
  refine go ?_
  first | refine fR (nxB fn1 l me ⟨1, ob, ka, kb⟩ log s3) ?_ | refine fN (nxB fn1 l me ⟨1, ob, ka, kb⟩ log s3) ?_
  exact ⟨⟨⟨ov, true, oe, opt, og⟩, s3, false, og.length, pGone og⟩, hE.symm, hG3', rfl, rfl⟩
abbrev fn2 : Dt := .fn (.func 69) [] [.ptr 53 0, .ptr 54 0]
set_option maxHeartbeats 16000000 in
theorem snext2_x (l : LayT) (hL : LayOk l) (hS : 0 ≤ l.seats) (hM : LayM l) (me : Int) (op : OpT) (log : List ResT) (s : PsT) (hk : op.kind = 2) (ha0 : 0 ≤ op.a) (ha1 : op.a < 65536) (h0 : At0 log s) :
    ImpX Tryz.prog 41 [40, 53, 54, 55, 56, 57, 58] [.ptr 55 0, .ptr 56 0, .ptr 57 0, .ptr 58 0] (nxB fn2 l me op log s) (OutR (nxB fn2 l me op log) log (splitM l me op log s) s) (PhX (nxB fn2 l me op log) (splitM l me op log s)) := by
  generalize hE : splitM l me op log s = E
  rw [splitM] at hE
  obtain ⟨hbu0, hbu1⟩ := hM.b
  obtain ⟨kd, ob, ka, kb⟩ := op
  simp only at hk ha0 ha1 hE
  subst hk
  refine sX Tryz.func41 Tryz.ntmps41 fun w cl own kf => ?_
  refine goC ?_
  refine a_b (alloc_step tabOk 47 rfl rfl rfl rfl) rfl rfl rfl rfl ?_
  refine go ?_
  refine awp_region_w 8 [] rfl rfl (by kernel_rfl) (by kernel_rfl) (by kernel_rfl) ?_
  refine goQ ?_
  refine r_q (call_step (map_c l hL hM ob 0 (by omega)) rfl (fun a w => Tryz.call38 a w) rfl) rfl rfl ?_
  refine goQ ?_
  refine cX (sdo_x l me ob log s ⟨1, mapF l ob 0, 0, 0⟩ h0) (fun a w => Tryz.call42 a w) ?_ ?_ ?_ ?_
  · rintro d bs ⟨x, s', _, _, rfl, rfl⟩; exact ⟨.inl rfl, trivial⟩
  · rintro v bs ⟨a, s', _, rfl, rfl⟩; exact ⟨.inl rfl, trivial⟩
  · rintro v bs ⟨a, s', h, rfl, rfl⟩
    refine gP ?_
    refine fP (nxB fn2 l me ⟨2, ob, ka, kb⟩ log s') ?_
    exact ⟨a, s', by rw [← hE]; exact bind_err h, rfl, rfl⟩
  rintro d bs ⟨r, s1, hq1, hG1, rfl, rfl⟩
  rw [bind_ok hq1] at hE
  have h1 := h0.next hG1
  have hbad : (r.val < 1 ∨ l.buckets < r.val ∨ pow2B r.val = false) → E = .ok (⟨0, false, 1, -1, []⟩, s1) := fun h => by rw [if_pos h] at hE; exact hE.symm
  have hrt : ∀ p : OutI, E = .ok (p.o, p.s) → FiG log s p.s → OutR (nxB fn2 l me ⟨2, ob, ka, kb⟩ log) log E s (outT p) (nxB fn2 l me ⟨2, ob, ka, kb⟩ log p.s) := fun p h1 h2 => ⟨p, h1, h2, rfl, rfl⟩
  refine go ?_
  generalize k1 : decide (r.val < 1) = cc; cases cc
  rotate_left
  · refine go ?_
    first | refine fR (nxB fn2 l me ⟨2, ob, ka, kb⟩ log s1) ?_ | refine fN (nxB fn2 l me ⟨2, ob, ka, kb⟩ log s1) ?_
    exact hrt ⟨⟨0, false, 1, -1, []⟩, s1, true, 0, []⟩ (hbad (.inl (of_decide_eq_true k1))) hG1
  have k1' := of_decide_eq_false k1
  refine go ?_
  generalize k2 : decide (r.val > l.buckets) = cc; cases cc
  rotate_left
  · refine go ?_
    first | refine fR (nxB fn2 l me ⟨2, ob, ka, kb⟩ log s1) ?_ | refine fN (nxB fn2 l me ⟨2, ob, ka, kb⟩ log s1) ?_
    exact hrt ⟨⟨0, false, 1, -1, []⟩, s1, true, 0, []⟩ (hbad (.inr (.inl (of_decide_eq_true k2)))) hG1
  have k2' := of_decide_eq_false k2
  have hpw := pow2_is (n := r.val) (by omega) (by omega)
  refine go ?_
  rw [hpw]
  cases hp2 : pow2B r.val
  · refine go ?_
    first | refine fR (nxB fn2 l me ⟨2, ob, ka, kb⟩ log s1) ?_ | refine fN (nxB fn2 l me ⟨2, ob, ka, kb⟩ log s1) ?_
    exact hrt ⟨⟨0, false, 1, -1, []⟩, s1, true, 0, []⟩ (hbad (.inr (.inr hp2))) hG1
  rw [if_neg (by rw [hp2]; simp; omega)] at hE
  refine go ?_
  have hm0 := Int.emod_nonneg ka (show r.val ≠ 0 by omega)
  have hm1 := Int.emod_lt_of_pos ka (show 0 < r.val by omega)
  have hcm := scome_x l hL hS hM me ob log (ka % r.val) s1 hm0 (by omega) h1
  refine awp_cutx (fun p : ComI => ComOk log (comeM l me ob 64 (ka % r.val) log s1) s1 p) (fun p => ⟨[(6, dI p.n), (7, .ptr 48 0), (4, .ptr 47 0), (5, dI r.val), (0, .ptr 55 0), (1, .ptr 56 0), (2, .ptr 57 0), (3, .ptr 58 0)], [(40, prgD l me ob log p.s), (55, [.ptr 40 0]), (56, layD l), (57, [dI 2, dI ob, dI ka, dI kb]), (58, [fn2]), (53, [.ptr 40 0]), (54, [dI (mapF l ob 1)]), (47, [dI 0, dB false, dI 0, dI 0, .p (.sl true 0 [])]), (48, [dI p.o.val, dB p.o.is, dI p.o.err, dI p.o.point, .p (.sl p.ex p.k p.ps)])], []⟩) ?_ ?_
  · have herr : ∀ x, comeM l me ob 64 (ka % r.val) log s1 = .error x → E = .error x := fun x h => by rw [← hE]; exact bind_err h
    refine awp_region_x 5 9 48 (LA := #[true, true, true, true, true, false, false, false, false, false, false, false]) (LB := #[true, true, true, true, true, false, false, false, false, true, false, false]) (na := 7) (nb := 6) rfl rfl rfl (by kernel_rfl) (by kernel_rfl) rfl rfl rfl rfl rfl (fun _ _ => alloc_step tabOk 48 rfl rfl rfl rfl) (by kernel_rfl) (by kernel_rfl) (by kernel_rfl) (by kernel_rfl) rfl ?_
    refine goQ ?_
    refine r_q (rem_step rfl rfl rfl (by omega) (by omega)) rfl rfl ?_
    refine goQ ?_
    refine ax_in rfl rfl rfl ?_ (fun hB => ?_)
    · refine aany_one (i := 5) (listed' := #[true, true, true, true, true, true, false, false, false, true, false, false]) (by kernel_rfl) rfl (by kernel_rfl) ?_
      refine cX (hcm) (fun a w => Tryz.call43 a w) ?_ ?_ ?_ ?_
      · rintro d bs ⟨p, _, rfl, rfl⟩; exact ⟨.inl rfl, trivial⟩
      · rintro v bs ⟨x, s', _, rfl, rfl⟩; exact ⟨.inl rfl, trivial⟩
      · rintro v bs ⟨x, s', h, rfl, rfl⟩
        refine q_next_panic (q_cut_panic ?_)
        refine gP ?_
        refine fP (nxB fn2 l me ⟨2, ob, ka, kb⟩ log s') ?_
        exact ⟨x, s', herr x h, rfl, rfl⟩
      rintro d bs ⟨p, hp, rfl, rfl⟩
      refine aops_nil (nq (aany_normal ?_))
      refine aany_take (i := 6) (listed' := #[true, true, true, true, true, true, true, false, false, true, false, false]) (by kernel_rfl) (by kernel_rfl) (by kernel_rfl) (by kernel_rfl) (fun _ _ h => by cases h.1) rfl rfl rfl (y_move rfl rfl rfl) ?_
      refine aany_take (i := 7) (listed' := #[true, true, true, true, true, true, true, true, false, true, false, false]) (by kernel_rfl) (by kernel_rfl) (by kernel_rfl) (by kernel_rfl) (fun _ _ h => by cases h.1) rfl rfl rfl (y_extract rfl rfl rfl rfl) ?_
      refine aany_take (i := 8) (listed' := #[true, true, true, true, true, true, true, true, true, true, false, false]) (by kernel_rfl) (by kernel_rfl) (by kernel_rfl) (by kernel_rfl) (fun _ _ h => by cases h.1) rfl rfl rfl (y_extract rfl rfl rfl rfl) ?_
      refine aany_one (i := 10) (listed' := #[true, true, true, true, true, true, true, true, true, true, true, false]) (by kernel_rfl) rfl (by kernel_rfl) ?_
      refine z2 ?_
      refine aops_nil (nq ?_)
      refine aany_one (i := 11) (listed' := #[true, true, true, true, true, true, true, true, true, true, true, true]) (by kernel_rfl) rfl (by kernel_rfl) ?_
      refine z5 ?_
      refine aops_nil (nq ?_)
      refine aany_done (by kernel_rfl) ⟨rfl, ?_⟩
      exact ⟨p, hp, zX⟩
    · refine aany_two (i := 5) (j := 9) (listed' := #[true, true, true, true, true, true, false, false, false, false, false, false]) (listed2 := #[true, true, true, true, true, false, false, false, false, true, false, false]) (by kernel_rfl) rfl rfl (by kernel_rfl) (by kernel_rfl) ?_ ?_
      · refine cX (hcm) (fun a w => Tryz.call43 a w) ?_ ?_ ?_ ?_
        · rintro d bs ⟨p, _, rfl, rfl⟩; exact ⟨.inl rfl, trivial⟩
        · rintro v bs ⟨x, s', _, rfl, rfl⟩; exact ⟨.inl rfl, trivial⟩
        · rintro v bs ⟨x, s', h, rfl, rfl⟩
          refine q_next_panic (q_cut_panic ?_)
          refine gP ?_
          refine fP (nxB fn2 l me ⟨2, ob, ka, kb⟩ log s') ?_
          exact ⟨x, s', herr x h, rfl, rfl⟩
        rintro d bs ⟨p, hp, rfl, rfl⟩
        refine aops_nil (nq (aany_normal ?_))
        refine aany_take (i := 6) (listed' := #[true, true, true, true, true, true, true, false, false, false, false, false]) (by kernel_rfl) (by kernel_rfl) (by kernel_rfl) (by kernel_rfl) (fun _ _ h => by cases h.1) rfl rfl rfl (y_move rfl rfl rfl) ?_
        refine aany_take (i := 7) (listed' := #[true, true, true, true, true, true, true, true, false, false, false, false]) (by kernel_rfl) (by kernel_rfl) (by kernel_rfl) (by kernel_rfl) (fun _ _ h => by cases h.1) rfl rfl rfl (y_extract rfl rfl rfl rfl) ?_
        refine aany_take (i := 8) (listed' := #[true, true, true, true, true, true, true, true, true, false, false, false]) (by kernel_rfl) (by kernel_rfl) (by kernel_rfl) (by kernel_rfl) (fun _ _ h => by cases h.1) rfl rfl rfl (y_extract rfl rfl rfl rfl) ?_
        refine aany_one (i := 9) (listed' := #[true, true, true, true, true, true, true, true, true, true, false, false]) (by kernel_rfl) rfl (by kernel_rfl) ?_
        refine a_b (alloc_step tabOk 48 rfl rfl rfl rfl) rfl rfl rfl rfl ?_
        refine aops_nil (nq ?_)
        refine aany_one (i := 10) (listed' := #[true, true, true, true, true, true, true, true, true, true, true, false]) (by kernel_rfl) rfl (by kernel_rfl) ?_
        refine z2 ?_
        refine aops_nil (nq ?_)
        refine aany_one (i := 11) (listed' := #[true, true, true, true, true, true, true, true, true, true, true, true]) (by kernel_rfl) rfl (by kernel_rfl) ?_
        refine z5 ?_
        refine aops_nil (nq ?_)
        refine aany_done (by kernel_rfl) ⟨rfl, ?_⟩
        exact ⟨p, hp, zX⟩
      · refine a_b (alloc_step tabOk 48 rfl rfl rfl rfl) rfl rfl rfl rfl ?_
        exact aops_nil (nq hB)
  rintro ⟨dn, dq, s2, ex2, ek2, ps2⟩ ⟨hq2, hG2, hdn0, hdn1⟩
  simp only at hq2 hG2 hdn0 hdn1
  rw [bind_ok hq2] at hE
  have h2 := h1.next hG2
  have hG2' := hG1.trans3 hG2
  simp only at hE
  refine go ?_
  generalize k3 : decide (dq.err = 0) = cc; cases cc
  · rw [if_pos (of_decide_eq_false k3)] at hE
    refine go ?_
    first | refine fR (nxB fn2 l me ⟨2, ob, ka, kb⟩ log s2) ?_ | refine fN (nxB fn2 l me ⟨2, ob, ka, kb⟩ log s2) ?_
    exact hrt ⟨dq, s2, ex2, ek2, ps2⟩ hE.symm hG2'
  rw [if_neg (fun h => h (of_decide_eq_true k3))] at hE
  have hlst := slist_x l hL hS hM me ob log s2 2 dn (realW ka) kb h2 (by omega)
  refine go ?_
  refine awp_region_3 9 10 [] rfl rfl (by kernel_rfl) (by kernel_rfl) (by kernel_rfl) rfl rfl ?_
  refine goQ ?_
  refine r_q (call_step (real_c ka) rfl (fun a w => Tryz.call45 a w) rfl) rfl rfl ?_
  refine goQ ?_
  refine cX (hlst) (fun a w => Tryz.call44 a w) ?_ ?_ ?_ ?_
  · rintro d bs ⟨x, s', _, _, rfl, rfl⟩; exact ⟨.inl rfl, trivial⟩
  · rintro v bs ⟨a, s', _, rfl, rfl⟩; exact ⟨.inl rfl, trivial⟩
  · rintro v bs ⟨a, s', h, rfl, rfl⟩
    refine gP ?_
    refine fP (nxB fn2 l me ⟨2, ob, ka, kb⟩ log s') ?_
    exact ⟨a, s', by rw [← hE]; exact bind_err h, rfl, rfl⟩
  rintro d bs ⟨q, s3, hq3, hG3, rfl, rfl⟩
  rw [bind_ok hq3] at hE
  obtain ⟨⟨ov, ois, oe, opt, og⟩, a3⟩ := q
  have h3 := h2.next hG3
  have hG3' := hG2'.trans3 hG3
  simp only at hE
  refine goO ?_
  refine last_out [48] rfl rfl ?_
  refine goQ ?_
  refine go ?_
  cases ois
  · rw [if_neg (by decide)] at hE
    refine go ?_
    first | refine fR (nxB fn2 l me ⟨2, ob, ka, kb⟩ log s3) ?_ | refine fN (nxB fn2 l me ⟨2, ob, ka, kb⟩ log s3) ?_
    exact ⟨⟨⟨ov, false, oe, opt, og⟩, s3, false, og.length, pGone og⟩, hE.symm, hG3', rfl, rfl⟩
  rw [if_pos rfl] at hE
  refine go ?_
  refine a_callvX (after2_x l hL hM me ob log r.val s3 (by omega) (by omega) h3) rfl (fun a w => Tryz.call69 a w) rfl rfl rfl (by (repeat (first | exact trivial | refine ⟨⟨rfl, rfl⟩, ?_⟩))) (by (repeat (first | exact trivial | refine ⟨.inr rfl, ?_⟩ | refine ⟨.inl rfl, ?_⟩))) rfl rfl rfl rfl ?_ ?_ ?_ ?_
  · rintro d bs ⟨x, s', _, _, rfl, rfl⟩; exact ⟨.inl rfl, .inl rfl, .inl rfl, trivial⟩
  · rintro v bs ⟨a, s', _, rfl, rfl⟩; exact ⟨.inl rfl, .inl rfl, .inl rfl, trivial⟩
  · rintro v bs ⟨a, s', h, rfl, rfl⟩
    refine gP ?_
    refine fP (nxB fn2 l me ⟨2, ob, ka, kb⟩ log s') ?_
    exact ⟨a, s', by rw [← hE]; exact bind_err h, rfl, rfl⟩
  rintro d bs ⟨u, s4, hq4, hG4, rfl, rfl⟩
  rw [bind_ok hq4] at hE
  refine go ?_
  first | refine fR (nxB fn2 l me ⟨2, ob, ka, kb⟩ log s4) ?_ | refine fN (nxB fn2 l me ⟨2, ob, ka, kb⟩ log s4) ?_
  exact ⟨⟨⟨ov, true, oe, opt, og⟩, s4, false, og.length, pGone og⟩, hE.symm, hG3'.trans3 hG4, rfl, rfl⟩
abbrev fn3 : Dt := .fn (.func 70) [] [.ptr 53 0, .ptr 54 0]
set_option maxHeartbeats 16000000 in
theorem snext3_x (l : LayT) (hL : LayOk l) (hS : 0 ≤ l.seats) (hM : LayM l) (me : Int) (op : OpT) (log : List ResT) (s : PsT) (hk : op.kind = 3) (ha0 : 0 ≤ op.a) (ha1 : op.a < 65536) (h0 : At0 log s) :
    ImpX Tryz.prog 41 [40, 53, 54, 55, 56, 57, 58] [.ptr 55 0, .ptr 56 0, .ptr 57 0, .ptr 58 0] (nxB fn3 l me op log s) (OutR (nxB fn3 l me op log) log (splitM l me op log s) s) (PhX (nxB fn3 l me op log) (splitM l me op log s)) := by
  generalize hE : splitM l me op log s = E
  rw [splitM] at hE
  obtain ⟨hbu0, hbu1⟩ := hM.b
  obtain ⟨kd, ob, ka, kb⟩ := op
  simp only at hk ha0 ha1 hE
  subst hk
  refine sX Tryz.func41 Tryz.ntmps41 fun w cl own kf => ?_
  refine goC ?_
  refine a_b (alloc_step tabOk 47 rfl rfl rfl rfl) rfl rfl rfl rfl ?_
  refine go ?_
  refine awp_region_w 8 [] rfl rfl (by kernel_rfl) (by kernel_rfl) (by kernel_rfl) ?_
  refine goQ ?_
  refine r_q (call_step (map_c l hL hM ob 0 (by omega)) rfl (fun a w => Tryz.call38 a w) rfl) rfl rfl ?_
  refine goQ ?_
  refine cX (sdo_x l me ob log s ⟨1, mapF l ob 0, 0, 0⟩ h0) (fun a w => Tryz.call42 a w) ?_ ?_ ?_ ?_
  · rintro d bs ⟨x, s', _, _, rfl, rfl⟩; exact ⟨.inl rfl, trivial⟩
  · rintro v bs ⟨a, s', _, rfl, rfl⟩; exact ⟨.inl rfl, trivial⟩
  · rintro v bs ⟨a, s', h, rfl, rfl⟩
    refine gP ?_
    refine fP (nxB fn3 l me ⟨3, ob, ka, kb⟩ log s') ?_
    exact ⟨a, s', by rw [← hE]; exact bind_err h, rfl, rfl⟩
  rintro d bs ⟨r, s1, hq1, hG1, rfl, rfl⟩
  rw [bind_ok hq1] at hE
  have h1 := h0.next hG1
  have hbad : (r.val < 1 ∨ l.buckets < r.val ∨ pow2B r.val = false) → E = .ok (⟨0, false, 1, -1, []⟩, s1) := fun h => by rw [if_pos h] at hE; exact hE.symm
  have hrt : ∀ p : OutI, E = .ok (p.o, p.s) → FiG log s p.s → OutR (nxB fn3 l me ⟨3, ob, ka, kb⟩ log) log E s (outT p) (nxB fn3 l me ⟨3, ob, ka, kb⟩ log p.s) := fun p h1 h2 => ⟨p, h1, h2, rfl, rfl⟩
  refine go ?_
  generalize k1 : decide (r.val < 1) = cc; cases cc
  rotate_left
  · refine go ?_
    first | refine fR (nxB fn3 l me ⟨3, ob, ka, kb⟩ log s1) ?_ | refine fN (nxB fn3 l me ⟨3, ob, ka, kb⟩ log s1) ?_
    exact hrt ⟨⟨0, false, 1, -1, []⟩, s1, true, 0, []⟩ (hbad (.inl (of_decide_eq_true k1))) hG1
  have k1' := of_decide_eq_false k1
  refine go ?_
  generalize k2 : decide (r.val > l.buckets) = cc; cases cc
  rotate_left
  · refine go ?_
    first | refine fR (nxB fn3 l me ⟨3, ob, ka, kb⟩ log s1) ?_ | refine fN (nxB fn3 l me ⟨3, ob, ka, kb⟩ log s1) ?_
    exact hrt ⟨⟨0, false, 1, -1, []⟩, s1, true, 0, []⟩ (hbad (.inr (.inl (of_decide_eq_true k2)))) hG1
  have k2' := of_decide_eq_false k2
  have hpw := pow2_is (n := r.val) (by omega) (by omega)
  refine go ?_
  rw [hpw]
  cases hp2 : pow2B r.val
  · refine go ?_
    first | refine fR (nxB fn3 l me ⟨3, ob, ka, kb⟩ log s1) ?_ | refine fN (nxB fn3 l me ⟨3, ob, ka, kb⟩ log s1) ?_
    exact hrt ⟨⟨0, false, 1, -1, []⟩, s1, true, 0, []⟩ (hbad (.inr (.inr hp2))) hG1
  rw [if_neg (by rw [hp2]; simp; omega)] at hE
  refine go ?_
  have hm0 := Int.emod_nonneg ka (show r.val ≠ 0 by omega)
  have hm1 := Int.emod_lt_of_pos ka (show 0 < r.val by omega)
  have hcm := scome_x l hL hS hM me ob log (ka % r.val) s1 hm0 (by omega) h1
  refine awp_cutx (fun p : ComI => ComOk log (comeM l me ob 64 (ka % r.val) log s1) s1 p) (fun p => ⟨[(6, dI p.n), (7, .ptr 48 0), (4, .ptr 47 0), (5, dI r.val), (0, .ptr 55 0), (1, .ptr 56 0), (2, .ptr 57 0), (3, .ptr 58 0)], [(40, prgD l me ob log p.s), (55, [.ptr 40 0]), (56, layD l), (57, [dI 3, dI ob, dI ka, dI kb]), (58, [fn3]), (53, [.ptr 40 0]), (54, [dI (mapF l ob 1)]), (47, [dI 0, dB false, dI 0, dI 0, .p (.sl true 0 [])]), (48, [dI p.o.val, dB p.o.is, dI p.o.err, dI p.o.point, .p (.sl p.ex p.k p.ps)])], []⟩) ?_ ?_
  · have herr : ∀ x, comeM l me ob 64 (ka % r.val) log s1 = .error x → E = .error x := fun x h => by rw [← hE]; exact bind_err h
    refine awp_region_x 5 9 48 (LA := #[true, true, true, true, true, false, false, false, false, false, false, false]) (LB := #[true, true, true, true, true, false, false, false, false, true, false, false]) (na := 7) (nb := 6) rfl rfl rfl (by kernel_rfl) (by kernel_rfl) rfl rfl rfl rfl rfl (fun _ _ => alloc_step tabOk 48 rfl rfl rfl rfl) (by kernel_rfl) (by kernel_rfl) (by kernel_rfl) (by kernel_rfl) rfl ?_
    refine goQ ?_
    refine r_q (rem_step rfl rfl rfl (by omega) (by omega)) rfl rfl ?_
    refine goQ ?_
    refine ax_in rfl rfl rfl ?_ (fun hB => ?_)
    · refine aany_one (i := 5) (listed' := #[true, true, true, true, true, true, false, false, false, true, false, false]) (by kernel_rfl) rfl (by kernel_rfl) ?_
      refine cX (hcm) (fun a w => Tryz.call43 a w) ?_ ?_ ?_ ?_
      · rintro d bs ⟨p, _, rfl, rfl⟩; exact ⟨.inl rfl, trivial⟩
      · rintro v bs ⟨x, s', _, rfl, rfl⟩; exact ⟨.inl rfl, trivial⟩
      · rintro v bs ⟨x, s', h, rfl, rfl⟩
        refine q_next_panic (q_cut_panic ?_)
        refine gP ?_
        refine fP (nxB fn3 l me ⟨3, ob, ka, kb⟩ log s') ?_
        exact ⟨x, s', herr x h, rfl, rfl⟩
      rintro d bs ⟨p, hp, rfl, rfl⟩
      refine aops_nil (nq (aany_normal ?_))
      refine aany_take (i := 6) (listed' := #[true, true, true, true, true, true, true, false, false, true, false, false]) (by kernel_rfl) (by kernel_rfl) (by kernel_rfl) (by kernel_rfl) (fun _ _ h => by cases h.1) rfl rfl rfl (y_move rfl rfl rfl) ?_
      refine aany_take (i := 7) (listed' := #[true, true, true, true, true, true, true, true, false, true, false, false]) (by kernel_rfl) (by kernel_rfl) (by kernel_rfl) (by kernel_rfl) (fun _ _ h => by cases h.1) rfl rfl rfl (y_extract rfl rfl rfl rfl) ?_
      refine aany_take (i := 8) (listed' := #[true, true, true, true, true, true, true, true, true, true, false, false]) (by kernel_rfl) (by kernel_rfl) (by kernel_rfl) (by kernel_rfl) (fun _ _ h => by cases h.1) rfl rfl rfl (y_extract rfl rfl rfl rfl) ?_
      refine aany_one (i := 10) (listed' := #[true, true, true, true, true, true, true, true, true, true, true, false]) (by kernel_rfl) rfl (by kernel_rfl) ?_
      refine z2 ?_
      refine aops_nil (nq ?_)
      refine aany_one (i := 11) (listed' := #[true, true, true, true, true, true, true, true, true, true, true, true]) (by kernel_rfl) rfl (by kernel_rfl) ?_
      refine z5 ?_
      refine aops_nil (nq ?_)
      refine aany_done (by kernel_rfl) ⟨rfl, ?_⟩
      exact ⟨p, hp, zX⟩
    · refine aany_two (i := 5) (j := 9) (listed' := #[true, true, true, true, true, true, false, false, false, false, false, false]) (listed2 := #[true, true, true, true, true, false, false, false, false, true, false, false]) (by kernel_rfl) rfl rfl (by kernel_rfl) (by kernel_rfl) ?_ ?_
      · refine cX (hcm) (fun a w => Tryz.call43 a w) ?_ ?_ ?_ ?_
        · rintro d bs ⟨p, _, rfl, rfl⟩; exact ⟨.inl rfl, trivial⟩
        · rintro v bs ⟨x, s', _, rfl, rfl⟩; exact ⟨.inl rfl, trivial⟩
        · rintro v bs ⟨x, s', h, rfl, rfl⟩
          refine q_next_panic (q_cut_panic ?_)
          refine gP ?_
          refine fP (nxB fn3 l me ⟨3, ob, ka, kb⟩ log s') ?_
          exact ⟨x, s', herr x h, rfl, rfl⟩
        rintro d bs ⟨p, hp, rfl, rfl⟩
        refine aops_nil (nq (aany_normal ?_))
        refine aany_take (i := 6) (listed' := #[true, true, true, true, true, true, true, false, false, false, false, false]) (by kernel_rfl) (by kernel_rfl) (by kernel_rfl) (by kernel_rfl) (fun _ _ h => by cases h.1) rfl rfl rfl (y_move rfl rfl rfl) ?_
        refine aany_take (i := 7) (listed' := #[true, true, true, true, true, true, true, true, false, false, false, false]) (by kernel_rfl) (by kernel_rfl) (by kernel_rfl) (by kernel_rfl) (fun _ _ h => by cases h.1) rfl rfl rfl (y_extract rfl rfl rfl rfl) ?_
        refine aany_take (i := 8) (listed' := #[true, true, true, true, true, true, true, true, true, false, false, false]) (by kernel_rfl) (by kernel_rfl) (by kernel_rfl) (by kernel_rfl) (fun _ _ h => by cases h.1) rfl rfl rfl (y_extract rfl rfl rfl rfl) ?_
        refine aany_one (i := 9) (listed' := #[true, true, true, true, true, true, true, true, true, true, false, false]) (by kernel_rfl) rfl (by kernel_rfl) ?_
        refine a_b (alloc_step tabOk 48 rfl rfl rfl rfl) rfl rfl rfl rfl ?_
        refine aops_nil (nq ?_)
        refine aany_one (i := 10) (listed' := #[true, true, true, true, true, true, true, true, true, true, true, false]) (by kernel_rfl) rfl (by kernel_rfl) ?_
        refine z2 ?_
        refine aops_nil (nq ?_)
        refine aany_one (i := 11) (listed' := #[true, true, true, true, true, true, true, true, true, true, true, true]) (by kernel_rfl) rfl (by kernel_rfl) ?_
        refine z5 ?_
        refine aops_nil (nq ?_)
        refine aany_done (by kernel_rfl) ⟨rfl, ?_⟩
        exact ⟨p, hp, zX⟩
      · refine a_b (alloc_step tabOk 48 rfl rfl rfl rfl) rfl rfl rfl rfl ?_
        exact aops_nil (nq hB)
  rintro ⟨dn, dq, s2, ex2, ek2, ps2⟩ ⟨hq2, hG2, hdn0, hdn1⟩
  simp only at hq2 hG2 hdn0 hdn1
  rw [bind_ok hq2] at hE
  have h2 := h1.next hG2
  have hG2' := hG1.trans3 hG2
  simp only at hE
  refine go ?_
  generalize k3 : decide (dq.err = 0) = cc; cases cc
  · rw [if_pos (of_decide_eq_false k3)] at hE
    refine go ?_
    first | refine fR (nxB fn3 l me ⟨3, ob, ka, kb⟩ log s2) ?_ | refine fN (nxB fn3 l me ⟨3, ob, ka, kb⟩ log s2) ?_
    exact hrt ⟨dq, s2, ex2, ek2, ps2⟩ hE.symm hG2'
  rw [if_neg (fun h => h (of_decide_eq_true k3))] at hE
  have hlst := slist_x l hL hS hM me ob log s2 3 dn (realW ka) kb h2 (by omega)
  refine go ?_
  refine awp_region_3 9 10 [] rfl rfl (by kernel_rfl) (by kernel_rfl) (by kernel_rfl) rfl rfl ?_
  refine goQ ?_
  refine r_q (call_step (real_c ka) rfl (fun a w => Tryz.call45 a w) rfl) rfl rfl ?_
  refine goQ ?_
  refine cX (hlst) (fun a w => Tryz.call44 a w) ?_ ?_ ?_ ?_
  · rintro d bs ⟨x, s', _, _, rfl, rfl⟩; exact ⟨.inl rfl, trivial⟩
  · rintro v bs ⟨a, s', _, rfl, rfl⟩; exact ⟨.inl rfl, trivial⟩
  · rintro v bs ⟨a, s', h, rfl, rfl⟩
    refine gP ?_
    refine fP (nxB fn3 l me ⟨3, ob, ka, kb⟩ log s') ?_
    exact ⟨a, s', by rw [← hE]; exact bind_err h, rfl, rfl⟩
  rintro d bs ⟨q, s3, hq3, hG3, rfl, rfl⟩
  rw [bind_ok hq3] at hE
  obtain ⟨⟨ov, ois, oe, opt, og⟩, a3⟩ := q
  have h3 := h2.next hG3
  have hG3' := hG2'.trans3 hG3
  simp only at hE
  refine goO ?_
  refine last_out [48] rfl rfl ?_
  refine goQ ?_
  refine go ?_
  cases ois
  · rw [if_neg (by decide)] at hE
    refine go ?_
    first | refine fR (nxB fn3 l me ⟨3, ob, ka, kb⟩ log s3) ?_ | refine fN (nxB fn3 l me ⟨3, ob, ka, kb⟩ log s3) ?_
    exact ⟨⟨⟨ov, false, oe, opt, og⟩, s3, false, og.length, pGone og⟩, hE.symm, hG3', rfl, rfl⟩
  rw [if_pos rfl] at hE
  refine go ?_
  refine a_callvX (after3_x l me ob log r.val s3 h3) rfl (fun a w => Tryz.call70 a w) rfl rfl rfl (by (repeat (first | exact trivial | refine ⟨⟨rfl, rfl⟩, ?_⟩))) (by (repeat (first | exact trivial | refine ⟨.inr rfl, ?_⟩ | refine ⟨.inl rfl, ?_⟩))) rfl rfl rfl rfl ?_ ?_ ?_ ?_
  · rintro d bs ⟨x, s', _, _, rfl, rfl⟩; exact ⟨.inl rfl, .inl rfl, .inl rfl, trivial⟩
  · rintro v bs ⟨a, s', _, rfl, rfl⟩; exact ⟨.inl rfl, .inl rfl, .inl rfl, trivial⟩
  · rintro v bs ⟨a, s', h, rfl, rfl⟩
    refine gP ?_
    refine fP (nxB fn3 l me ⟨3, ob, ka, kb⟩ log s') ?_
    exact ⟨a, s', by rw [← hE]; exact bind_err h, rfl, rfl⟩
  rintro d bs ⟨u, s4, hq4, hG4, rfl, rfl⟩
  rw [bind_ok hq4] at hE
  refine go ?_
  first | refine fR (nxB fn3 l me ⟨3, ob, ka, kb⟩ log s4) ?_ | refine fN (nxB fn3 l me ⟨3, ob, ka, kb⟩ log s4) ?_
  exact ⟨⟨⟨ov, true, oe, opt, og⟩, s4, false, og.length, pGone og⟩, hE.symm, hG3'.trans3 hG4, rfl, rfl⟩
end Go.Proofs.YtkkldicehapklaaGreat
