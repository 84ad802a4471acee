/- A map's programs: an operation of the list behind a node: its walk. -/
import Derived.Test.YtkkldicehapklaaGreatH2
namespace Go.Proofs.YtkkldicehapklaaGreat
open Go.RowKit
set_option maxRecDepth 100000
abbrev slD (k1 : Nat) (dn : Bool) : List (Nat × Dt) := [(18, dB dn), (22, dI k1), (5, .ptr 41 0), (10, .ptr 47 0), (11, .ptr 48 0), (15, .fn (.func 76) [] [.ptr 41 0, .ptr 42 0, .ptr 43 0, .ptr 44 0]), (17, .ptr 50 0), (19, .ptr 51 0)]
abbrev slB (l : jN) (me m : Int) (log : List jS) (op : OpT) (lg : List jS) (hd : Int) (s : PsT) (a2 : AccT) (ov : Int) (ois : Bool) (oe opt : Int) (og : List (Int × Int)) : Bxs := [(40, prgD l me m log s), (41, [.ptr 40 0]), (42, [dI op.kind, dI op.obj, dI op.a, dI op.b]), (43, [dLog lg]), (44, [dI hd]), (47, [dI 0, dB false, dI 0, dI 0, .p (.sl true 0 [])]), (48, [dI 0, dI 0, dI 0, dI 0]), (50, [dI ov, dB ois, dI oe, dI opt, vG og]), (51, [dI a2.kind, dI a2.cell, dI a2.old, dI a2.new])]
def listC (l : jN) (me : Int) (op : OpT) (hd : Int) (lg : List jS) (s : PsT) : Except AccT ((kY × AccT) × PsT) :=
 if (jI5 l me s.gone op hd lg).2.2 = false then .error (jI5 l me s.gone op hd lg).1
 else if (jI5 l me s.gone op hd lg).2.1.point < 0 then .ok (((jI5 l me s.gone op hd lg).2.1, xZ), s)
 else .ok (({ (jI5 l me s.gone op hd lg).2.1 with point := (jI5 l me s.gone op hd lg).2.1.point + s.made }, (jI5 l me s.gone op hd (lg.take (jI5 l me s.gone op hd lg).2.1.point.toNat)).1), { s with made := s.made + xH (fun k => (jI5 l me s.gone op hd (lg.take k)).2.2) (lg.length - ((jI5 l me s.gone op hd lg).2.1.point.toNat + 1)) ((jI5 l me s.gone op hd lg).2.1.point.toNat + 1), gone := (jI5 l me s.gone op hd lg).2.1.gone })
theorem list_c (l : jN) (me kind dummy order v : Int) (log : List jS) (s : PsT) : jC2 l me kind dummy order v log s = listC l me ⟨kind, if jQ l dummy 0 < 0 then l.done else jQ l dummy 0, order, v⟩ (jQ l dummy 0) (log.drop s.made) s := by unfold jC2 listC; simp only [beh_c]; rfl
theorem behC_snd {l : jN} {me : Int} {gone : List (Int × Int)} {op : OpT} {hd : Int} {lg : List jS} : (jI5 l me gone op hd lg).2 = (qZ l me gone op lg).2 := by
 unfold jI5
 split <;> rfl
set_option maxHeartbeats 16000000 in
theorem kG2 (l : jN) (hL : qJ l) (hS : 0 ≤ l.seats) (hM : jG3 l) (me m : Int) (log : List jS) (s : PsT) (kind dummy order v : Int) (h0 : At0 log s) (hdu : dummy < 9223372036854775808) :
  PhC 44 [40] (jM8 l me m log) log s [.ptr 40 0, dI kind, dI dummy, dI order, dI v] (jC2 l me kind dummy order v log s) (fun o => .tup [jO0 o.1, wM o.2]) := by
 have hG : ∀ o s', jC2 l me kind dummy order v log s = .ok (o, s') → FiG log s s' := fun o s' e => by
  have h1 := (kJ7 hS h0.le e).1
  exact ⟨h1.made, h1.le h0.le, h1.ok h0.gone, h1.len⟩
 generalize hE : jC2 l me kind dummy order v log s = E at hG
 rw [list_c] at hE
 have hlg : (log.drop s.made).length + s.made = log.length := by rw [List.length_drop]; have := h0.le; omega
 have hsl := fun (h : (s.made : Int).toNat = s.made) => log_slD (l := log) (a := (s.made : Int)) (b := s.made) h h0.le
 have hsl := hsl (by simp)
 have hpl := kB9 (log.drop s.made)
 generalize log.drop s.made = lg at hE hlg hsl hpl
 have hlog := h0.log
 have hlen := h0.len
 have hnd := jD2 l hL dummy 0 hdu (by omega)
 generalize jQ l dummy 0 = hd at hE hnd
 obtain ⟨hd1, hd2⟩ := hM.d
 refine sX Tryz.func44 Tryz.ntmps44 fun w cl own kf => ?_
 refine goC ?_
 refine a_b (qP 41 rfl rfl rfl rfl) rfl rfl rfl rfl ?_
 refine a_b (jL jB 47 rfl rfl rfl rfl) rfl rfl rfl rfl ?_
 refine a_b (jL jB 48 rfl rfl rfl rfl) rfl rfl rfl rfl ?_
 refine jD ?_
 refine goC ?_
 repeat refine z2 ?_
 refine a_q (jA (hnd) rfl (fun a w => Tryz.call27 a w) rfl) rfl rfl rfl ?_
 refine a_b (jL jB 44 rfl rfl rfl rfl) rfl rfl rfl rfl ?_
 refine z5 ?_
 refine jD ?_
 refine goC ?_
 repeat refine z2 ?_
 refine z6 ?_
 refine a_b (jL jB 42 rfl rfl rfl rfl) rfl rfl rfl rfl ?_
 refine z5 ?_
 refine jD ?_
 refine zM ?_
 refine kF7 ⟨[(5, .ptr 41 0), (10, .ptr 47 0), (11, .ptr 48 0), (12, .ptr 44 0), (13, .ptr 42 0)], [(40, prgD l me m log s), (41, [.ptr 40 0]), (42, [dI kind, dI (if hd < 0 then l.done else hd), dI order, dI v]), (44, [dI hd]), (47, [dI 0, dB false, dI 0, dI 0, .p (.sl true 0 [])]), (48, [dI 0, dI 0, dI 0, dI 0])], []⟩ ?_ ?_
 ·refine go ?_
  generalize h1 : decide (hd < 0) = cc; cases cc
  ·rw [if_neg (of_decide_eq_false h1)]
   refine go ?_
   exact ⟨rfl, zX⟩
  ·rw [if_pos (of_decide_eq_true h1)]
   refine go ?_
   exact ⟨rfl, zX⟩
 generalize (if hd < 0 then l.done else hd) = ob at hE ⊢
 have hC := fun (k : Nat) (hk : k ≤ lg.length) => list1_i l hL me m log ⟨kind, ob, order, v⟩ lg hd s k h0.gone (by omega) hk
 refine go ?_
 refine jE 10 [] rfl rfl (by kernel_rfl) (by kernel_rfl) (by kernel_rfl) ?_
 refine goQ ?_
 refine r_q (kK8 jB lg.length (xF lg) rfl rfl rfl rfl rfl rfl rfl (by omega) (by omega) (by omega) (by omega) hpl hsl) rfl rfl ?_
 refine r_b (jL jB 43 rfl rfl rfl rfl) rfl rfl rfl rfl ?_
 refine goQ ?_
 refine z5 ?_
 refine jD ?_
 refine goC ?_
 refine z2 ?_
 refine z2 ?_
 refine jD ?_
 refine goC ?_
 repeat refine z2 ?_
 have hC1 := hC lg.length (Nat.le_refl _)
 rw [List.take_length] at hC1
 unfold listC at hE
 generalize hr1 : jI5 l me s.gone ⟨kind, ob, order, v⟩ hd lg = r1 at hE hC1
 obtain ⟨a1, ⟨ov, ois, oe, op, og⟩, dn1⟩ := r1
 simp only at hE
 change ImpC _ _ _ _ _ (fun d bs => d = .tup [wM a1, .agg [dI ov, dB ois, dI oe, dI op, vG og], dB dn1] ∧ _) at hC1
 refine wG (hC1) rfl (fun a w => Tryz.call76 a w) rfl rfl rfl (by (repeat (first | exact trivial | refine ⟨⟨rfl, rfl⟩, ?_⟩))) (by (repeat (first | exact trivial | refine ⟨.inr rfl, ?_⟩ | refine ⟨.inl rfl, ?_⟩))) rfl rfl rfl rfl ?_ ?_
 ·rintro d bs ⟨rfl, rfl⟩; exact ⟨.inl rfl, .inl rfl, .inl rfl, .inl rfl, .inl rfl, trivial⟩
 rintro d bs ⟨rfl, rfl⟩
 repeat refine z2 ?_
 refine a_b (jL jB 49 rfl rfl rfl rfl) rfl rfl rfl rfl ?_
 refine a_b (jL jB 50 rfl rfl rfl rfl) rfl rfl rfl rfl ?_
 refine go ?_
 cases dn1
 ·rw [if_pos rfl] at hE
  refine go ?_
  refine a_q (jV4 jB rfl rfl rfl rfl rfl) rfl rfl rfl ?_
  refine a_panic rfl rfl rfl ?_
  refine gP ?_
  refine fP (jM8 l me m log s) ?_
  exact ⟨a1, s, hE.symm, rfl, rfl⟩
 rw [if_neg (by simp)] at hE
 refine go ?_
 generalize h2 : decide (op < 0) = cc; cases cc
 rotate_left
 ·rw [if_pos (of_decide_eq_true h2)] at hE
  refine go ?_
  first | refine fR (jM8 l me m log s) ?_ | refine fN (jM8 l me m log s) ?_
  exact ⟨_, s, hE.symm, hG _ _ hE.symm, rfl, rfl⟩
 ·have h2' := of_decide_eq_false h2
  rw [if_neg h2'] at hE
  have e2 := congrArg Prod.snd hr1
  rw [behC_snd] at e2
  simp only at e2
  obtain ⟨pt, rfl⟩ := Int.eq_ofNat_of_zero_le (show 0 ≤ op by omega)
  have hpt : (pt : Int) < lg.length := by
   have := (kJ9 hS (me := me) (gone := s.gone) (op := ⟨kind, ob, order, v⟩) (log := lg) (by rw [e2]) (by rw [e2]; exact Int.natCast_nonneg _)).1
   rw [e2] at this
   exact this
  simp only [Int.toNat_natCast] at hE
  have hC2 := hC pt (by omega)
  generalize hf : (fun k => (jI5 l me s.gone ⟨kind, ob, order, v⟩ hd (lg.take k)).2.2) = f at hE
  have hfk : ∀ k, (jI5 l me s.gone ⟨kind, ob, order, v⟩ hd (lg.take k)).2.2 = f k := fun k => by rw [← hf]
  have hfL : f lg.length = true := by rw [← hfk, List.take_length, hr1]
  generalize jI5 l me s.gone ⟨kind, ob, order, v⟩ hd (lg.take pt) = r2 at hE hC2
  obtain ⟨a2, o2, dn2⟩ := r2
  simp only at hE
  change ImpC _ _ _ _ _ (fun d bs => d = .tup [wM a2, .agg [dI o2.val, dB o2.is, dI o2.err, dI o2.point, vG o2.gone], dB dn2] ∧ _) at hC2
  generalize hK : xH f (lg.length - (pt + 1)) (pt + 1) = K at hE
  refine go ?_
  refine wG (hC2) rfl (fun a w => Tryz.call76 a w) rfl rfl rfl (by (repeat (first | exact trivial | refine ⟨⟨rfl, rfl⟩, ?_⟩))) (by (repeat (first | exact trivial | refine ⟨.inr rfl, ?_⟩ | refine ⟨.inl rfl, ?_⟩))) rfl rfl rfl rfl ?_ ?_
  ·rintro d bs ⟨rfl, rfl⟩; exact ⟨.inl rfl, .inl rfl, .inl rfl, .inl rfl, .inl rfl, trivial⟩
  rintro d bs ⟨rfl, rfl⟩
  repeat refine z2 ?_
  refine a_b (jL jB 51 rfl rfl rfl rfl) rfl rfl rfl rfl ?_
  refine a_b (jL jB 52 rfl rfl rfl rfl) rfl rfl rfl rfl ?_
  refine go ?_
  refine jP (fun p : Nat × Bool => p.1 ≤ lg.length - pt ∧ (p.2 = false → p.1 + pt + 1 ≤ lg.length ∧ xH f (lg.length - (pt + 1) - p.1) (pt + 1 + p.1) = K) ∧ (p.2 = true → K = pt + p.1)) (fun p => ⟨slD (pt + 1 + p.1) p.2, slB l me m log ⟨kind, ob, order, v⟩ lg hd s a2 ov ois oe pt og, []⟩) (fun p => lg.length + 1 - p.1) (0, false) ⟨by simp, fun _ => ⟨by simp only; omega, hK⟩, fun h => by cases h⟩ (zX) ?_
  rintro ⟨j, dn⟩ ⟨hj, hF, hT⟩
  simp only at hj hF hT
  refine (show AWP _ _ _ _ ⟨slD (pt + 1 + j) dn, slB l me m log ⟨kind, ob, order, v⟩ lg hd s a2 ov ois oe pt og, []⟩ from ?_)
  refine go ?_
  cases dn
  ·obtain ⟨hF1, hF2⟩ := hF rfl
   have hC3 := hC (pt + 1 + j) (by omega)
   have hf3 := hfk (pt + 1 + j)
   generalize jI5 l me s.gone ⟨kind, ob, order, v⟩ hd (lg.take (pt + 1 + j)) = r3 at hC3 hf3
   obtain ⟨a3, o3, dn3⟩ := r3
   simp only at hf3
   change ImpC _ _ _ _ _ (fun d bs => d = .tup [wM a3, .agg [dI o3.val, dB o3.is, dI o3.err, dI o3.point, vG o3.gone], dB dn3] ∧ _) at hC3
   refine go ?_
   refine wG (hC3) rfl (fun a w => Tryz.call76 a w) rfl rfl rfl (by (repeat (first | exact trivial | refine ⟨⟨rfl, rfl⟩, ?_⟩))) (by (repeat (first | exact trivial | refine ⟨.inr rfl, ?_⟩ | refine ⟨.inl rfl, ?_⟩))) rfl rfl rfl rfl ?_ ?_
   ·rintro d bs ⟨rfl, rfl⟩; exact ⟨.inl rfl, .inl rfl, .inl rfl, .inl rfl, .inl rfl, trivial⟩
   rintro d bs ⟨rfl, rfl⟩
   refine go ?_
   refine ⟨(j + 1, dn3), ⟨by simp only; omega, fun h => ?_, fun h => ?_⟩, by simp only; omega, zX⟩
   ·simp only at h ⊢
    subst h
    have hne : pt + 1 + j ≠ lg.length := fun e => by rw [e, hfL] at hf3; cases hf3
    refine ⟨by omega, ?_⟩
    rw [show lg.length - (pt + 1) - j = (lg.length - (pt + 1) - (j + 1)) + 1 by omega, xH, ← hf3, if_neg (by simp)] at hF2
    exact hF2
   ·simp only at h ⊢
    subst h
    rw [← hF2]
    cases hn : lg.length - (pt + 1) - j with
    | zero => rw [xH]; omega
    | succ n => rw [xH, ← hf3, if_pos rfl]; omega
  ·have hT1 := hT rfl
   subst hT1
   refine go ?_
   refine jE 6 [] rfl rfl (by kernel_rfl) (by kernel_rfl) (by kernel_rfl) ?_
   refine goQ ?_
   refine go ?_
   rw [show ((s.made : Int) + (((pt + 1 + j : Nat) : Int) - 1)) = ((s.made + (pt + j) : Nat) : Int) by omega]
   refine jE 3 [47] rfl rfl (by kernel_rfl) (by kernel_rfl) (by kernel_rfl) ?_
   refine goQ ?_
   refine go ?_
   first | refine fR (jM8 l me m log { s with made := s.made + (pt + j), gone := og }) ?_ | refine fN (jM8 l me m log { s with made := s.made + (pt + j), gone := og }) ?_
   exact ⟨_, _, hE.symm, hG _ _ hE.symm, rfl, rfl⟩
end Go.Proofs.YtkkldicehapklaaGreat
