/- What operations tell, and what programs leave: plain lemmas; the refusal's walk. -/
import Derived.Test.YtkkldicehapklaaGreatD8
import Derived.Test.YtkkldicehapklaaGreatShort
namespace Go.Proofs.YtkkldicehapklaaGreat
open Go.RowKit
set_option maxRecDepth 100000
abbrev jO0 (o : kY) : Dt := .agg [dI o.val, dB o.is, dI o.err, dI o.point, vG o.gone]
abbrev jY9 (o : kY) : Dt := .agg [dI o.val, dB o.is, dI o.err, dI o.point, .p (.sl true 0 [])]
abbrev opD (o : OpT) : List Dt := [dI o.kind, dI o.obj, dI o.a, dI o.b]
abbrev dOp (o : OpT) : Dt := .agg (opD o)
theorem takeL_idx {l : jN} : ∀ {k : Nat} {log : List jS} {s s' : PsT} {p : Int × Int × Bool}, jP6 l k log s = .ok (p, s') → p.1 < 65536 ∧ s'.gone = s.gone
 | 0, log, s, s', p, h => by cases h; exact ⟨by simp, rfl⟩
 | k + 1, log, s, s', p, h => by
  rw [jP6] at h
  cases h1 : yM l.free log s with
  | error a => rw [jI h1] at h; cases h
  | ok q =>
   obtain ⟨fr, s1⟩ := q
   rw [jH h1] at h
   have g1 : s1.gone = s.gone := by rw [(qQ h1).1]
   split at h
   ·rw [jH yA] at h; cases h; exact ⟨by simp, g1⟩
   ·cases h2 : yM (jQ l (ofW fr).idx 7) log s1 with
    | error a => rw [jI h2] at h; cases h
    | ok q =>
     obtain ⟨lk, s2⟩ := q
     rw [jH h2] at h
     have g2 : s2.gone = s.gone := by rw [(qQ h2).1]; exact g1
     cases h3 : casM l.free fr (vK (jA5 (ofW fr) lk)) log s2 with
     | error a => rw [jI h3] at h; cases h
     | ok q =>
      obtain ⟨ok, s3⟩ := q
      rw [jH h3] at h
      have g3 : s3.gone = s.gone := by rw [(uU h3).1]; exact g2
      split at h
      ·rw [jH yA] at h
       cases h4 : yM l.era log s3 with
       | error a => rw [jI h4] at h; cases h
       | ok q =>
        obtain ⟨bi, s4⟩ := q
        rw [jH h4] at h
        have g4 : s4.gone = s.gone := by rw [(qQ h4).1]; exact g3
        cases h5 : yY (jQ l (ofW fr).idx 6) bi log s4 with
        | error a => rw [jI h5] at h; cases h
        | ok q =>
         obtain ⟨u, s5⟩ := q
         rw [jH h5] at h
         cases h
         exact ⟨(xT fr).2, by rw [(vX h5).1]; exact g4⟩
      ·obtain ⟨a, b⟩ := takeL_idx h
       exact ⟨a, b.trans g3⟩
theorem putE_gone2 (x : PsT) (i v : Int) : (x.putE i v).gone = x.gone := by
 unfold PsT.putE
 split
 ·rfl
 ·split <;> rfl
theorem jQ1 {l : jN} {me i cell : Int} : ∀ {k : Nat} {log : List jS} {s s' : PsT} {p : Int × Int}, wF l me i cell k log s = .ok (p, s') → s'.gone = s.gone
 | 0, log, s, s', p, h => by cases h; rfl
 | k + 1, log, s, s', p, h => by
  rw [wF] at h
  cases h1 : yM cell log s with
  | error a => rw [jI h1] at h; cases h
  | ok q =>
   obtain ⟨v, s1⟩ := q
   rw [jH h1, jH yA] at h
   have g1 : s1.gone = s.gone := by rw [(qQ h1).1]
   cases h2 : yM l.era log s1 with
   | error a => rw [jI h2] at h; cases h
   | ok q =>
    obtain ⟨er, s2⟩ := q
    rw [jH h2] at h
    have g2 : s2.gone = s.gone := by rw [(qQ h2).1]; exact g1
    split at h
    ·cases h; exact g2
    ·cases h3 : yY (qV l me i) er log s2 with
     | error a => rw [jI h3] at h; cases h
     | ok q =>
      obtain ⟨u, s3⟩ := q
      rw [jH h3] at h
      have g3 : s3.gone = s.gone := by rw [(vX h3).1]; exact g2
      exact ((jQ1 h).trans (putE_gone2 _ _ _)).trans g3
theorem clr1_gone {l : jN} {me : Int} {i : Nat} {e : Int} {log : List jS} {s s' : PsT} {u : Unit} (h : vR l me i e log s = .ok (u, s')) : s'.gone = s.gone := by
 unfold vR at h
 split at h
 ·cases h; rfl
 ·cases h3 : yY (qV l me i) 0 log s with
  | error a => rw [jI h3] at h; cases h
  | ok q =>
   obtain ⟨u, s3⟩ := q
   rw [jH h3] at h
   have g3 : s3.gone = s.gone := by rw [(vX h3).1]
   unfold setE at h
   cases h
   split <;> exact g3
theorem vT {l : jN} {me : Int} : ∀ {es : List Int} {i : Nat} {log : List jS} {s s' : PsT} {u : Unit}, clrL l me i es log s = .ok (u, s') → s'.gone = s.gone
 | [], i, log, s, s', u, h => by cases h; rfl
 | e :: es, i, log, s, s', u, h => by
  rw [clrL] at h
  cases h1 : vR l me i e log s with
  | error a => rw [jI h1] at h; cases h
  | ok q =>
   obtain ⟨u, s1⟩ := q
   rw [jH h1] at h
   exact (vT h).trans (clr1_gone h1)
theorem kC8 {l : jN} {held : List Int} : ∀ {gs stay : List (Int × Int)} {log : List jS} {s s' : PsT} {r : List (Int × Int)}, uY l held gs stay log s = .ok (r, s') → r.length ≤ gs.length + stay.length
 | [], stay, log, s, s', r, h => by cases h; simp
 | g :: gs, stay, log, s, s', r, h => by
  rw [uY] at h
  cases h1 : yM (jQ l g.1 6) log s with
  | error a => rw [jI h1] at h; cases h
  | ok q =>
   obtain ⟨b, s1⟩ := q
   rw [jH h1] at h
   split at h
   ·have := kC8 h
    simp at this ⊢; omega
   ·cases h2 : giveM l g.1 log s1 with
    | error a => rw [jI h2] at h; cases h
    | ok q =>
     obtain ⟨u, s2⟩ := q
     rw [jH h2] at h
     have := kC8 h
     simp at this ⊢; omega
theorem kE5 {l : jN} {n : Int} {log : List jS} {s s' : PsT} {u : Unit} (h : wT l n log s = .ok (u, s')) : s'.gone.length ≤ s.gone.length + 1 := by
 unfold wT at h
 cases h1 : yM l.era log s with
 | error a => rw [jI h1] at h; cases h
 | ok q =>
  obtain ⟨er, s1⟩ := q
  rw [jH h1] at h
  have g1 : s1.gone = s.gone := by rw [(qQ h1).1]
  cases h2 : doM ⟨4, l.era, 0, 1⟩ log s1 with
  | error a => rw [jI h2] at h; cases h
  | ok q =>
   obtain ⟨r, s2⟩ := q
   rw [jH h2] at h
   have g2 : s2.gone = s.gone := by rw [(jL7 h2).1]; exact g1
   split at h
   ·cases h; simp [g2]
   ·unfold scanM at h
    cases h3 : xA [] (jD0 l 0 l.seats.toNat) log { s2 with gone := s2.gone ++ [(n, er)] } with
    | error a => rw [jI h3] at h; cases h
    | ok q =>
     obtain ⟨held, s3⟩ := q
     rw [jH h3] at h
     cases h4 : uY l held (s2.gone ++ [(n, er)]) [] log s3 with
     | error a => rw [jI h4] at h; cases h
     | ok q =>
      obtain ⟨stay, s4⟩ := q
      rw [jH h4] at h
      unfold xY at h
      cases h
      have := kC8 h4
      simp [g2] at this ⊢; omega
theorem kK4 (g : List (Int × Int)) (hg : g.length ≤ 100000) : kA Tryz.prog 91 [vG g] (.tup [wM xZ, jO0 ⟨0, false, 1, -1, g⟩, dB true]) := by
 refine jO jB Tryz.func91 rfl Tryz.ntmps91 rfl rfl rfl fun w cl => ?_
 refine go ?_
 refine a_q (jA ((jB7 g hg).pure) rfl (fun a w => Tryz.call71 a w) rfl) rfl rfl rfl ?_
 refine go ?_
 first | refine jF rfl ?_ | refine jC rfl ?_
 rfl
theorem begin_i (l : jN) (me : Int) (g : List (Int × Int)) (log : List jS) : ImpC Tryz.prog 92 [] [wO l, dI me, vG g, dLog log] [] (fun d bs => d = .ptr 11 0 ∧ bs = jW l me log ⟨0, g, 0, 0, 0⟩) := by
 refine vV jB Tryz.func92 rfl Tryz.ntmps92 rfl rfl rfl (by (repeat (first | exact trivial | refine ⟨rfl, ?_⟩))) fun w cl own kf => ?_
 refine goC ?_
 refine a_b (qP 0 rfl rfl rfl rfl) rfl rfl rfl rfl ?_
 refine a_b (qP 13 rfl rfl rfl rfl) rfl rfl rfl rfl ?_
 refine a_ax jB rfl rfl rfl rfl ?_
 refine jD ?_
 refine goC ?_
 refine a_ax jB rfl rfl rfl rfl ?_
 refine a_ax jB rfl rfl rfl rfl ?_
 refine a_ax jB rfl rfl rfl rfl ?_
 refine a_q (jN6 jB rfl rfl rfl) rfl rfl rfl ?_
 refine a_b (qP 11 rfl rfl rfl rfl) rfl rfl rfl rfl ?_
 refine a_b (jL jB 12 rfl rfl rfl rfl) rfl rfl rfl rfl ?_
 refine go ?_
 refine qI (jW l me log ⟨0, g, 0, 0, 0⟩) rfl rfl (by (repeat (first | exact trivial | refine ⟨⟨rfl, rfl⟩, ?_⟩))) trivial ?_
 exact ⟨rfl, rfl⟩
abbrev jJ3 (a : AccT) (od : List Dt) (dn : Bool) : Bxs := [(22, [dI a.kind, dI a.cell, dI a.old, dI a.new]), (21, [.any]), (23, od), (24, [dB dn])]
abbrev outC (o : kY) : List Dt := [dI o.val, dB o.is, dI o.err, dI o.point, vG o.gone]
theorem kH8 {e : Env} {vs : List Value} (a : AccT) (o : kY) (dn : Bool) (hI : jA7 (jJ3 a (outC o) dn) e) (hv : DReps e vs [.ptr 22 0, .ptr 21 0, .ptr 23 0, .ptr 24 0]) :
  CallsD Tryz.prog 109 vs.toArray .returning e.w fun r u2 w' => ∃ e' bs', r = .returned (.tuple #[]) ∧ u2 = .returning ∧ e'.w = w' ∧ jA7 bs' e' ∧ jN3 [21, 22, 23, 24] e e' ∧ bs' = jJ3 a (outC o) dn := by
 refine jE1 (T := tb) Tryz.func109 rfl Tryz.ntmps109 rfl rfl rfl (by (repeat (first | exact trivial | refine ⟨rfl, ?_⟩))) (fun _ _ => rfl) (fun _ => rfl) rfl rfl .no (fun w cl own kf => ?_) hI hv
 refine go ?_
 refine a_q (jT1 Tryz.underlying20 rfl rfl) rfl rfl rfl ?_
 refine go ?_
 refine qD (jJ3 a (outC o) dn) rfl rfl (by (repeat (first | exact trivial | refine ⟨⟨rfl, rfl⟩, ?_⟩))) (by (repeat (first | exact trivial | refine ⟨rfl, ?_⟩))) rfl
theorem kA0 {e : Env} {vs : List Value} (a a' : AccT) (od : List Dt) (ho : od = [dI 0, dB false, dI 0, dI 0, .p (.sl true 0 [])]) (dn : Bool) (hI : jA7 (jJ3 a od dn) e) (hv : DReps e vs [.ptr 22 0, .ptr 21 0, .ptr 23 0, .ptr 24 0]) :
  CallsD Tryz.prog 109 vs.toArray (.panicking [pe (jG4 a')]) e.w fun r u2 w' => ∃ e' bs', r = .returned (.tuple #[]) ∧ u2 = .panicking [{ v := jG4 a', recovered := true }] ∧ e'.w = w' ∧ jA7 bs' e' ∧ jN3 [21, 22, 23, 24] e e' ∧ bs' = jJ3 a' od dn := by
 subst ho
 refine jE1 (T := tb) Tryz.func109 rfl Tryz.ntmps109 rfl rfl rfl (by (repeat (first | exact trivial | refine ⟨rfl, ?_⟩))) (fun _ _ => rfl) (fun _ => rfl) rfl rfl (.yes (jG4 a')) (fun w cl own kf => ?_) hI hv
 refine go ?_
 refine a_q (jQ3 Tryz.underlying20 rfl rfl) rfl rfl rfl ?_
 refine go ?_
 refine a_q (kD5 jB rfl rfl rfl rfl) rfl rfl rfl ?_
 refine go ?_
 refine qD (jJ3 a' _ dn) rfl rfl (by (repeat (first | exact trivial | refine ⟨⟨rfl, rfl⟩, ?_⟩))) (by (repeat (first | exact trivial | refine ⟨rfl, ?_⟩))) rfl
set_option maxHeartbeats 4000000 in
theorem memRight_c (a : AccT) : kA Tryz.prog 106 [wM a] (dB (jN7 a)) := by
 generalize hE : jN7 a = E
 unfold jN7 at hE
 refine jO jB Tryz.func106 rfl Tryz.ntmps106 rfl rfl rfl fun w cl => ?_
 refine go ?_
 generalize h0 : decide (a.cell < 0) = cc; cases cc
 ·rw [decide_eq_true (show 0 ≤ a.cell by have := of_decide_eq_false h0; omega), Bool.true_and] at hE
  refine go ?_
  generalize h1 : decide (a.kind = 1) = cc; cases cc
  ·have h1' := of_decide_eq_false h1
   rw [if_neg h1'] at hE
   refine go ?_
   generalize h2 : decide (a.kind = 2) = cc; cases cc
   ·have h2' := of_decide_eq_false h2
    refine go ?_
    generalize h4 : decide (a.kind = 4) = cc; cases cc
    ·have h4' := of_decide_eq_false h4
     refine go ?_
     generalize h5 : decide (a.kind = 5) = cc; cases cc
     ·have h5' := of_decide_eq_false h5
      rw [if_neg (by omega)] at hE
      refine go ?_
      generalize h3 : decide (a.kind = 3) = cc; cases cc
      ·rw [h3] at hE
       refine go ?_
       first | refine jF rfl ?_ | refine jC rfl ?_
       rw [← hE]
      ·rw [h3] at hE
       refine go ?_
       first | refine jF rfl ?_ | refine jC rfl ?_
       rw [← hE]
     ·rw [if_pos (by have := of_decide_eq_true h5; omega)] at hE
      refine go ?_
      first | refine jF rfl ?_ | refine jC rfl ?_
      rw [← hE]
    ·rw [if_pos (by have := of_decide_eq_true h4; omega)] at hE
     refine go ?_
     first | refine jF rfl ?_ | refine jC rfl ?_
     rw [← hE]
   ·rw [if_pos (by have := of_decide_eq_true h2; omega)] at hE
    refine go ?_
    first | refine jF rfl ?_ | refine jC rfl ?_
    rw [← hE]
  ·rw [if_pos (of_decide_eq_true h1)] at hE
   refine go ?_
   generalize h2 : decide (a.new = 0) = cc; cases cc
   ·rw [h2] at hE
    refine go ?_
    first | refine jF rfl ?_ | refine jC rfl ?_
    rw [← hE]; rfl
   ·rw [h2] at hE
    refine go ?_
    first | refine jF rfl ?_ | refine jC rfl ?_
    rw [← hE]; rfl
 ·rw [decide_eq_false (show ¬ 0 ≤ a.cell by have := of_decide_eq_true h0; omega)] at hE
  refine go ?_
  first | refine jF rfl ?_ | refine jC rfl ?_
  rw [← hE]; rfl
theorem fault_c (n : Int) (a : AccT) : kA Tryz.prog 86 [dI n, wM a] (dI (uO n a)) := by
 generalize hE : uO n a = E
 unfold uO at hE
 refine jO jB Tryz.func86 rfl Tryz.ntmps86 rfl rfl rfl fun w cl => ?_
 refine go ?_
 refine a_q (jA (memRight_c a) rfl (fun a w => Tryz.call106 a w) rfl) rfl rfl rfl ?_
 refine go ?_
 generalize h1 : jN7 a = cc; cases cc
 ·rw [h1, if_neg (by decide)] at hE
  refine go ?_
  first | refine jF rfl ?_ | refine jC rfl ?_
  rw [← hE]
 ·rw [h1, if_pos rfl] at hE
  refine go ?_
  generalize h2 : decide (n ≤ a.cell) = cc; cases cc
  ·rw [if_neg (of_decide_eq_false h2)] at hE
   refine go ?_
   first | refine jF rfl ?_ | refine jC rfl ?_
   rw [← hE]
  ·rw [if_pos (of_decide_eq_true h2)] at hE
   refine go ?_
   first | refine jF rfl ?_ | refine jC rfl ?_
   rw [← hE]
theorem wrap64 (x : Int) : IntKind.i64.wrap x = w64 x := by
 show (if (true && decide (x % 18446744073709551616 ≥ 9223372036854775808)) = true then x % 18446744073709551616 - 18446744073709551616 else x % 18446744073709551616) = w64 x
 unfold w64
 simp only [Bool.true_and, decide_eq_true_eq]
 split <;> split <;> omega
theorem own_get {xs : List Int} {cs : List Dt} (h : cs.take xs.length = (kD xs).map Dt.p) {x : Nat} (hx : x < xs.length) : cs[x]? = some (dI (zZ xs x)) := by
 have h2 : xs[x]? = some (zZ xs x) := by simp [zZ, hx]
 have h1 : (cs.take xs.length)[x]? = some (dI (zZ xs x)) := by
  rw [h, List.getElem?_map, pInts_get h2]; rfl
 rw [List.getElem?_take, if_pos hx] at h1
 exact h1
theorem own_set {xs : List Int} {cs : List Dt} (h : cs.take xs.length = (kD xs).map Dt.p) (x : Nat) (v : Int) : (cs.set x (dI v)).take xs.length = (kD (xs.set x v)).map Dt.p := by
 rw [List.take_set, h]
 unfold kD
 simp [List.map_set]
theorem kD0 {cs : List Dt} (h : PlainC cs) {i : Nat} {n : Int} : PlainC (cs.set i (dI n)) := by
 intro B G
 have h1 := h B G
 clear h
 induction cs generalizing i with
 | nil => rfl
 | cons d cs ih =>
  simp only [Dt.ok.oks, Bool.and_eq_true] at h1
  cases i with
  | zero => simp only [List.set_cons_zero, Dt.ok.oks, Bool.and_eq_true]; exact ⟨rfl, h1.2⟩
  | succ i => simp only [List.set_cons_succ, Dt.ok.oks, Bool.and_eq_true]; exact ⟨h1.1, ih h1.2⟩
set_option maxHeartbeats 4000000 in
theorem turn_i (xs : List Int) (k : Int) (x : Nat) (o nw : Int) (hx : x < xs.length) (_hn : xs.length ≤ 1000000) (c : Nat) (cs : List Dt) (hlc : cs.length = c) (hc : xs.length ≤ c) (htk : cs.take xs.length = (kD xs).map Dt.p) (hpl : PlainC cs) :
  ImpC Tryz.prog 88 [9] [.arr 9 0 xs.length c, .agg [dI k, dI x, dI o, dI nw]] [(9, cs)] (fun d bs => d = dRes (vL xs ⟨k, x, o, nw⟩).2 ∧ ∃ cs', bs = [(9, cs')] ∧ cs'.length = c ∧ cs'.take xs.length = (kD (vL xs ⟨k, x, o, nw⟩).1).map Dt.p ∧ PlainC cs') := by
 have hg := own_get htk hx
 generalize hv : zZ xs x = v at hg
 generalize hE : vL xs ⟨k, x, o, nw⟩ = E
 unfold vL at hE
 simp only [Int.toNat_natCast, hv, ← wrap64] at hE
 have hs1 := own_set htk x nw
 have hs2 := own_set htk x (IntKind.i64.wrap (v + nw))
 have hp1 : PlainC (cs.set x (dI nw)) := kD0 hpl
 have hp2 : PlainC (cs.set x (dI (IntKind.i64.wrap (v + nw)))) := kD0 hpl
 refine vV jB Tryz.func88 rfl Tryz.ntmps88 rfl rfl rfl (by (repeat (first | exact trivial | refine ⟨rfl, ?_⟩))) fun w cl own kf => ?_
 refine go ?_
 refine a_q (jJ (p := x) jB rfl rfl rfl rfl rfl (by omega) (by omega) (by show x = (x : Int).toNat * 1; omega)) rfl rfl rfl ?_
 refine a_q (kS jB rfl rfl rfl rfl rfl hg) rfl rfl rfl ?_
 refine go ?_
 generalize h3 : decide (k = 3) = cc; cases cc
 ·have h3' := of_decide_eq_false h3
  rw [if_neg h3'] at hE
  refine go ?_
  generalize h2 : decide (k = 2) = cc; cases cc
  ·have h2' := of_decide_eq_false h2
   refine go ?_
   generalize h5 : decide (k = 5) = cc; cases cc
   ·have h5' := of_decide_eq_false h5
    rw [if_neg (by omega)] at hE
    refine go ?_
    generalize h4 : decide (k = 4) = cc; cases cc
    ·rw [if_neg (of_decide_eq_false h4)] at hE
     refine go ?_
     refine qI [(9, cs)] rfl rfl ⟨⟨rfl, hpl _ _⟩, trivial⟩ ⟨rfl, trivial⟩ ?_
     rw [← hE]
     exact ⟨rfl, cs, rfl, hlc, htk, hpl⟩
    ·rw [if_pos (of_decide_eq_true h4)] at hE
     refine go ?_
     refine a_q (jJ (p := x) jB rfl rfl rfl rfl rfl (by omega) (by omega) (by show x = (x : Int).toNat * 1; omega)) rfl rfl rfl ?_
     refine vU jB rfl rfl rfl rfl rfl rfl rfl rfl rfl (by rw [hlc]; omega) ?_
     refine go ?_
     refine qI [(9, cs.set x (dI (IntKind.i64.wrap (v + nw))))] rfl rfl ⟨⟨rfl, hp2 _ _⟩, trivial⟩ ⟨rfl, trivial⟩ ?_
     rw [← hE]
     exact ⟨rfl, _, rfl, by rw [List.length_set]; exact hlc, hs2, hp2⟩
   ·rw [if_pos (by have := of_decide_eq_true h5; omega)] at hE
    refine go ?_
    refine a_q (jJ (p := x) jB rfl rfl rfl rfl rfl (by omega) (by omega) (by show x = (x : Int).toNat * 1; omega)) rfl rfl rfl ?_
    refine vU jB rfl rfl rfl rfl rfl rfl rfl rfl rfl (by rw [hlc]; omega) ?_
    refine go ?_
    refine qI [(9, cs.set x (dI nw))] rfl rfl ⟨⟨rfl, hp1 _ _⟩, trivial⟩ ⟨rfl, trivial⟩ ?_
    rw [← hE]
    exact ⟨rfl, _, rfl, by rw [List.length_set]; exact hlc, hs1, hp1⟩
  ·rw [if_pos (by have := of_decide_eq_true h2; omega)] at hE
   refine go ?_
   refine a_q (jJ (p := x) jB rfl rfl rfl rfl rfl (by omega) (by omega) (by show x = (x : Int).toNat * 1; omega)) rfl rfl rfl ?_
   refine vU jB rfl rfl rfl rfl rfl rfl rfl rfl rfl (by rw [hlc]; omega) ?_
   refine go ?_
   refine qI [(9, cs.set x (dI nw))] rfl rfl ⟨⟨rfl, hp1 _ _⟩, trivial⟩ ⟨rfl, trivial⟩ ?_
   rw [← hE]
   exact ⟨rfl, _, rfl, by rw [List.length_set]; exact hlc, hs1, hp1⟩
 ·rw [if_pos (of_decide_eq_true h3)] at hE
  refine go ?_
  generalize h4 : decide (v = o) = cc; cases cc
  ·rw [if_neg (of_decide_eq_false h4)] at hE
   refine go ?_
   refine qI [(9, cs)] rfl rfl ⟨⟨rfl, hpl _ _⟩, trivial⟩ ⟨rfl, trivial⟩ ?_
   rw [← hE]
   exact ⟨rfl, cs, rfl, hlc, htk, hpl⟩
  ·rw [if_pos (of_decide_eq_true h4)] at hE
   refine go ?_
   refine a_q (jJ (p := x) jB rfl rfl rfl rfl rfl (by omega) (by omega) (by show x = (x : Int).toNat * 1; omega)) rfl rfl rfl ?_
   refine vU jB rfl rfl rfl rfl rfl rfl rfl rfl rfl (by rw [hlc]; omega) ?_
   refine go ?_
   refine qI [(9, cs.set x (dI nw))] rfl rfl ⟨⟨rfl, hp1 _ _⟩, trivial⟩ ⟨rfl, trivial⟩ ?_
   rw [← hE]
   exact ⟨rfl, _, rfl, by rw [List.length_set]; exact hlc, hs1, hp1⟩
def OwnRow (ls : List Int) (d : Dt) (bs : List (Nat × List Dt)) : Prop := ∃ c cs, d = .arr 9 0 ls.length c ∧ bs = [(9, cs)] ∧ cs.length = c ∧ ls.length ≤ c ∧ c ≤ maxLen ∧ cs.take ls.length = (kD ls).map Dt.p ∧ PlainC cs
theorem clone_i (ls : List Int) (h0 : 0 < ls.length) (hl : ls.length ≤ 1000000) : ImpC Tryz.prog 87 [] [kK ls] [] (OwnRow ls) := by
 refine vV jB Tryz.func87 rfl Tryz.ntmps87 rfl rfl rfl (by (repeat (first | exact trivial | refine ⟨rfl, ?_⟩))) fun w cl own kf => ?_
 refine go ?_
 refine a_nil jB rfl rfl rfl rfl rfl rfl rfl fun c hc => ?_
 cases c with
 | true => exact absurd (hc rfl) (by omega)
 | false =>
  refine go ?_
  refine a_appendN jB 9 rfl rfl rfl rfl rfl rfl rfl rfl rfl rfl rfl rfl rfl h0 (jG1 ls) (by unfold maxLen; omega) (by show _ * 8 ≤ _; omega) (fun cs' c' h1 h2 h3 h4 h5 => ?_)
  refine go ?_
  refine qI [(9, cs')] rfl rfl (by (repeat (first | exact trivial | refine ⟨⟨rfl, h5 _ _⟩, ?_⟩))) trivial ?_
  exact ⟨c', cs', rfl, rfl, h1, h3, h2, h4, h5⟩
theorem ints_lf (l : List Int) : ∀ x ∈ kD l, x.lf = true := by
 intro x hx
 simp only [kD, List.mem_map] at hx
 obtain ⟨i, _, rfl⟩ := hx
 rfl
abbrev jM4 (xs : List Int) : Dt := .agg [kK xs]
theorem jM0 (xs : List Int) (a : AccT) : (vL xs a).1.length = xs.length := by
 unfold vL
 repeat' split
 all_goals simp
theorem fault_zero {n : Int} {a : AccT} (h : uO n a = 0) : 0 ≤ a.cell ∧ a.cell < n := by
 unfold uO at h
 split at h
 ·rename_i hr
  unfold jN7 at hr
  simp only [Bool.and_eq_true, decide_eq_true_eq] at hr
  split at h
  ·omega
  ·exact ⟨hr.1, by omega⟩
 ·omega
set_option maxHeartbeats 4000000 in
theorem memDo_c (xs : List Int) (a : AccT) (hn : xs.length ≤ 1000000) : kA Tryz.prog 56 [jM4 xs, wM a] (.tup [jM4 (kB4 xs a).1, dRes (kB4 xs a).2.1, dI (kB4 xs a).2.2]) := by
 generalize hE : kB4 xs a = E
 unfold kB4 at hE
 refine jO jB Tryz.func56 rfl Tryz.ntmps56 rfl rfl rfl fun w cl => ?_
 refine go ?_
 refine a_q (jA (fault_c xs.length a) rfl (fun a w => Tryz.call86 a w) rfl) rfl rfl rfl ?_
 refine go ?_
 generalize h1 : decide (uO xs.length a = 0) = cc; cases cc
 ·rw [if_neg (of_decide_eq_false h1)] at hE
  refine go ?_
  first | refine jF rfl ?_ | refine jC rfl ?_
  rw [← hE]
 ·have h1' := of_decide_eq_true h1
  rw [if_pos h1'] at hE
  obtain ⟨hc0, hc1⟩ := fault_zero h1'
  have hml := jM0 xs a
  refine go ?_
  refine yX (clone_i xs (by omega) hn) rfl (fun a w => Tryz.call87 a w) rfl rfl trivial trivial rfl rfl rfl rfl ?_ ?_
  ·rintro d bs ⟨c, cs, rfl, rfl, _⟩
   exact ⟨.inr rfl, trivial⟩
  rintro d bs ⟨c, cs, rfl, rfl, hlc, hc, hcm, htk, hpl⟩
  have hT := turn_i xs a.kind a.cell.toNat a.old a.new (by omega) hn c cs hlc hc htk hpl
  rw [show ((a.cell.toNat : Nat) : Int) = a.cell by omega] at hT
  refine go ?_
  refine yX hT rfl (fun a w => Tryz.call88 a w) rfl rfl (by (repeat (first | exact trivial | refine ⟨⟨rfl, hpl _ _⟩, ?_⟩))) (by (repeat (first | exact trivial | refine ⟨.inr rfl, ?_⟩))) rfl rfl rfl rfl ?_ ?_
  ·rintro d bs ⟨_, cs', rfl, _⟩
   exact ⟨.inl rfl, trivial⟩
  rintro d bs ⟨rfl, cs', rfl, k1, k2, k3⟩
  refine goO ?_
  refine vJ ?_
  refine kP (jO7 8 9 (kD (vL xs a).1) rfl rfl rfl rfl k1 hc (by rw [jG1, hml]) k2 hcm (ints_lf _)) ?_
  refine jR7 ?_
  refine jE 4 [2] rfl rfl (by kernel_rfl) (by kernel_rfl) (by kernel_rfl) ?_
  refine goQ ?_
  refine go ?_
  first | refine jF rfl ?_ | refine jC rfl ?_
  rw [← hE]
  simp only [jM4, kK, hml]
end Go.Proofs.YtkkldicehapklaaGreat
