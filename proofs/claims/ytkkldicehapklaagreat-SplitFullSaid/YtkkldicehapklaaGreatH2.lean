/- A map's programs: a list's program, run by the first accesses of a log: its walk. -/
import Derived.Test.YtkkldicehapklaaGreatH1
namespace Go.Proofs.YtkkldicehapklaaGreat
open Go.RowKit
set_option maxRecDepth 100000
theorem pLog_cat (a b : List jS) : xF (a ++ b) = xF a ++ xF b := by simp [xF]
theorem kB9 (l : List jS) : (xF l).length = l.length * 2 := by
 induction l with
 | nil => rfl
 | cons a l ih => unfold xF at ih ⊢; rw [List.flatMap_cons, List.length_append, ih]; simp [pRes]; omega
theorem log_sl0 {l : List jS} {c : Nat} : ∀ (i : Nat) q, (xF (l.take c))[i]? = some q → (xF l)[(0 : Int).toNat * 2 + i]? = some q := by
 intro i q h
 have hl : xF l = xF (l.take c) ++ xF (l.drop c) := by rw [← pLog_cat, List.take_append_drop]
 rw [show (0 : Int).toNat * 2 + i = i by simp, hl, List.getElem?_append_left (List.getElem?_eq_some_iff.1 h).1]
 exact h
theorem log_slD {l : List jS} {a : Int} {b : Nat} (hab : a.toNat = b) (ha : b ≤ l.length) : ∀ (i : Nat) q, (xF (l.drop b))[i]? = some q → (xF l)[a.toNat * 2 + i]? = some q := by
 intro i q h
 rw [hab]
 have hl : xF l = xF (l.take b) ++ xF (l.drop b) := by rw [← pLog_cat, List.take_append_drop]
 have h1 : (xF (l.take b)).length = b * 2 := by rw [kB9, List.length_take]; congr 1; omega
 rw [hl, List.getElem?_append_right (by omega), h1, show b * 2 + i - b * 2 = i by omega]
 exact h
def jI5 (l : jN) (me : Int) (gone : List (Int × Int)) (op : OpT) (hd : Int) (lg : List jS) : AccT × kY × Bool :=
 if (qZ l me gone op lg).2.2 = false ∧ hd < 0 ∧ (qZ l me gone op lg).1.cell = op.obj then ({ (qZ l me gone op lg).1 with cell := hd }, (qZ l me gone op lg).2) else qZ l me gone op lg
theorem beh_c (l : jN) (me : Int) (gone : List (Int × Int)) (kind dummy order v : Int) (lg : List jS) : qX l me gone kind dummy order v lg = jI5 l me gone ⟨kind, if jQ l dummy 0 < 0 then l.done else jQ l dummy 0, order, v⟩ (jQ l dummy 0) lg := rfl
abbrev lstB (l : jN) (me m : Int) (log : List jS) (op : OpT) (lg : List jS) (hd : Int) (s : PsT) : Bxs := [(40, prgD l me m log s), (41, [.ptr 40 0]), (42, [dI op.kind, dI op.obj, dI op.a, dI op.b]), (43, [dLog lg]), (44, [dI hd])]
set_option maxHeartbeats 4000000 in
theorem list1_i (l : jN) (hL : qJ l) (me m : Int) (log : List jS) (op : OpT) (lg : List jS) (hd : Int) (s : PsT) (k : Nat) (hg : yK s.gone) (hgl : s.gone.length + lg.length ≤ 10000) (hk : k ≤ lg.length) :
  ImpC Tryz.prog 76 [40, 41, 42, 43, 44] [dI k, .ptr 41 0, .ptr 42 0, .ptr 43 0, .ptr 44 0] (lstB l me m log op lg hd s) (fun d bs => d = dNx (jI5 l me s.gone op hd (lg.take k)) ∧ bs = lstB l me m log op lg hd s) := by
 generalize hE : jI5 l me s.gone op hd (lg.take k) = E
 unfold jI5 at hE
 have hlk : (lg.take k).length = k := by rw [List.length_take]; omega
 have hsl := log_sl0 (l := lg) (c := k)
 have hnx := next_c l hL me s.gone op (lg.take k) hg (by omega)
 generalize lg.take k = lk at hE hlk hsl hnx
 generalize qZ l me s.gone op lk = R at hE hnx
 obtain ⟨a, o, dn⟩ := R
 simp only at hE
 refine vV jB Tryz.func76 rfl Tryz.ntmps76 rfl rfl rfl (by (repeat (first | exact trivial | refine ⟨rfl, ?_⟩))) fun w cl own kf => ?_
 refine go ?_
 refine jE 25 [] rfl rfl (by kernel_rfl) (by kernel_rfl) (by kernel_rfl) ?_
 refine goQ ?_
 refine r_q (kK8 jB lk.length (xF lk) rfl rfl rfl rfl rfl rfl rfl (by omega) (by omega) (by omega) (by omega) (kB9 lk) hsl) rfl rfl ?_
 refine goQ ?_
 refine r_q (jA (hnx) rfl (fun a w => Tryz.call77 a w) rfl) rfl rfl ?_
 refine goQ ?_
 refine go ?_
 cases dn
 ·refine go ?_
  generalize h1 : decide (hd < 0) = cc; cases cc
  ·rw [if_neg (fun h => of_decide_eq_false h1 h.2.1)] at hE
   refine go ?_
   refine jE 5 [5, 6] rfl rfl (by kernel_rfl) (by kernel_rfl) (by kernel_rfl) ?_
   refine goQ ?_
   refine go ?_
   refine qI (d := .tup [wM a, jO0 o, dB false]) (lstB l me m log op lg hd s) ?_ rfl ?_ ?_ ?_
   ·rfl
   ·(repeat (first | exact trivial | refine ⟨⟨rfl, rfl⟩, ?_⟩))
   ·(repeat (first | exact trivial | refine ⟨rfl, ?_⟩))
   exact ⟨by subst hE; rfl, rfl⟩
  ·refine go ?_
   generalize h2 : decide (a.cell = op.obj) = cc; cases cc
   ·rw [if_neg (fun h => of_decide_eq_false h2 h.2.2)] at hE
    refine go ?_
    refine jE 5 [5, 6] rfl rfl (by kernel_rfl) (by kernel_rfl) (by kernel_rfl) ?_
    refine goQ ?_
    refine go ?_
    refine qI (d := .tup [wM a, jO0 o, dB false]) (lstB l me m log op lg hd s) ?_ rfl ?_ ?_ ?_
    ·rfl
    ·(repeat (first | exact trivial | refine ⟨⟨rfl, rfl⟩, ?_⟩))
    ·(repeat (first | exact trivial | refine ⟨rfl, ?_⟩))
    exact ⟨by subst hE; rfl, rfl⟩
   ·rw [if_pos ⟨rfl, of_decide_eq_true h1, of_decide_eq_true h2⟩] at hE
    refine go ?_
    refine jE 5 [5, 6] rfl rfl (by kernel_rfl) (by kernel_rfl) (by kernel_rfl) ?_
    refine goQ ?_
    refine go ?_
    refine qI (d := .tup [.agg [dI a.kind, dI hd, dI a.old, dI a.new], jO0 o, dB false]) (lstB l me m log op lg hd s) ?_ rfl ?_ ?_ ?_
    ·rfl
    ·(repeat (first | exact trivial | refine ⟨⟨rfl, rfl⟩, ?_⟩))
    ·(repeat (first | exact trivial | refine ⟨rfl, ?_⟩))
    exact ⟨by subst hE; rfl, rfl⟩
 ·rw [if_neg (by simp)] at hE
  refine go ?_
  refine jE 5 [5, 6] rfl rfl (by kernel_rfl) (by kernel_rfl) (by kernel_rfl) ?_
  refine goQ ?_
  refine go ?_
  refine qI (d := .tup [wM a, jO0 o, dB true]) (lstB l me m log op lg hd s) ?_ rfl ?_ ?_ ?_
  ·rfl
  ·(repeat (first | exact trivial | refine ⟨⟨rfl, rfl⟩, ?_⟩))
  ·(repeat (first | exact trivial | refine ⟨rfl, ?_⟩))
  exact ⟨by subst hE; rfl, rfl⟩
end Go.Proofs.YtkkldicehapklaaGreat
