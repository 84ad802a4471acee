/- Accesses of a memory, one behind the other: their walk. -/
import Derived.Test.YtefagncaepallaaD19
namespace Go.Proofs.Ytefagncaepallaa
open Go.RowKit
set_option maxRecDepth 100000

theorem flat_idx {α : Type} {f : α → List Pl} {k : Nat} (hf : ∀ x, (f x).length = k) : ∀ {l : List α} {i : Nat} {x : α}, l[i]? = some x → ∀ (m : Nat) q, (f x)[m]? = some q → (l.flatMap f)[i * k + m]? = some q
  | [], i, x, h => by simp at h
  | y :: l, 0, x, h => by
    intro m q hq
    simp at h
    subst h
    rw [List.flatMap_cons, Nat.zero_mul, Nat.zero_add, List.getElem?_append_left (List.getElem?_eq_some_iff.1 hq).1]
    exact hq
  | y :: l, i + 1, x, h => by
    intro m q hq
    have ih := flat_idx hf (l := l) (i := i) (x := x) (by simpa using h) m q hq
    rw [List.flatMap_cons, List.getElem?_append_right (by rw [hf, Nat.add_mul]; omega), hf, show (i + 1) * k + m - k = i * k + m by rw [Nat.add_mul]; omega]
    exact ih
def pAcc (a : AccT) : List Pl := [pI a.kind, pI a.cell, pI a.old, pI a.new]
def pAccs (l : List AccT) : List Pl := l.flatMap pAcc
abbrev dAccs (l : List AccT) : Dt := .p (.sl false l.length (pAccs l))
theorem accs_idx {l : List AccT} {i : Int} {a : AccT} (h : l[i.toNat]? = some a) : ∀ (m : Nat) q, [pI a.kind, pI a.cell, pI a.old, pI a.new][m]? = some q → (pAccs l)[i.toNat * 4 + m]? = some q := flat_idx (f := pAcc) (k := 4) (fun _ => rfl) h
theorem pLog_app (g : List ResT) (x : ResT) : pLog (g ++ [x]) = pLog g ++ [pI x.val, pB x.ok] := by simp [pLog, pRes]
set_option maxHeartbeats 4000000 in
theorem memAll_c (xs : List Int) (l : List AccT) (h0 : 0 < xs.length) (hn : xs.length ≤ 1000000) (hl : l.length ≤ 100000) : PureC Try.prog 28 [dMem xs, dAccs l] (.tup [dMem (allG xs xs [] l).1, dLog (allG xs xs [] l).2.1, dI (allG xs xs [] l).2.2]) := by
  generalize hE : allG xs xs [] l = E
  refine pure_fin tabOk Try.func28 rfl Try.ntmps28 rfl rfl rfl fun w cl => ?_
  refine go ?_
  refine a_callI (clone_i xs h0 hn) rfl (fun a w => Try.call31 a w) rfl rfl trivial trivial rfl rfl rfl rfl ?_ ?_
  · rintro d bs ⟨c, cs, rfl, rfl, _⟩
    exact ⟨.inr rfl, trivial⟩
  rintro d bs ⟨c, cs, rfl, rfl, hlc, hc, hcm, htk, hpl⟩
  refine go ?_
  refine awp_ghost (tip_ghost 8 0 47 2 rfl rfl rfl) ?_
  refine awp_loop_ok (fun p : Nat × List Int × List ResT × List Dt => p.1 ≤ l.length ∧ p.2.1.length = xs.length ∧ p.2.2.1.length = p.1 ∧ p.2.2.2.length = c ∧ p.2.2.2.take p.2.1.length = (pInts p.2.1).map Dt.p ∧ PlainC p.2.2.2 ∧ allG xs p.2.1 p.2.2.1 (l.drop p.1) = E) (fun p => ⟨[(17, dI p.1), (16, dI l.length), (15, dAccs l), (8, .tip 0 p.2.2.1.length (pLog p.2.2.1)), (7, .arr 9 0 xs.length c), (2, .ptr 0 0), (4, .ptr 1 0)], [(9, p.2.2.2), (1, [.p (.sl true 0 [])]), (0, [dInts xs])], [(0, ⟨47, 2, p.2.2.1.length⟩)]⟩) (fun p => l.length - p.1) (0, xs, [], cs) ⟨Nat.zero_le _, rfl, rfl, hlc, htk, hpl, hE⟩ (drop_ghost (by (repeat (first | exact trivial | refine ⟨⟨rfl, rfl⟩, ?_⟩))) (by (repeat (first | exact trivial | refine ⟨⟨rfl, rfl⟩, ?_⟩ | refine ⟨⟨rfl, hpl _ _⟩, ?_⟩))) (by (repeat (first | exact trivial | refine ⟨rfl, ?_⟩))) (by (repeat (first | exact trivial | refine ⟨rfl, ?_⟩)))) ?_
  rintro ⟨i, cur, told, ck⟩ ⟨hi, hcl, htl, hck, hct, hcp, hE⟩
  simp only at hi hcl htl hck hct hcp hE
  refine (show AWP _ _ _ _ ⟨[(17, dI i), (16, dI l.length), (15, dAccs l), (8, .tip 0 told.length (pLog told)), (7, .arr 9 0 xs.length c), (2, .ptr 0 0), (4, .ptr 1 0)], [(9, ck), (1, [.p (.sl true 0 [])]), (0, [dInts xs])], [(0, ⟨47, 2, told.length⟩)]⟩ from ?_)
  refine go ?_
  refine ck_b (fun h1 => ?_) (fun h1 => ?_) <;> try rw [h1]
  · have h1' := of_decide_eq_true h1
    have hil : i < l.length := by omega
    obtain ⟨a, ha⟩ := getI (l := l) (i := i) (by omega) h1'
    have hd : l.drop i = a :: l.drop (i + 1) := by
      rw [List.drop_eq_getElem_cons hil]
      simp only [Int.toNat_natCast] at ha
      rw [(List.getElem?_eq_some_iff.1 ha).2]
    rw [hd, allG, hcl] at hE
    refine go ?_
    refine a_q (indexAddr_step tabOk [pI a.kind, pI a.cell, pI a.old, pI a.new] rfl rfl rfl rfl rfl rfl (by first | omega | (simp; done) | (simp; omega)) (by first | omega | (simp; done) | (simp; omega)) (by first | (simp; done) | exact List.cons_ne_nil _ _) (accs_idx ha)) rfl rfl rfl ?_
    refine go ?_
    refine a_q (call_step (fault_c xs.length a) rfl (fun a w => Try.call30 a w) rfl) rfl rfl rfl ?_
    refine go ?_
    generalize h2 : decide (faultF xs.length a = 0) = cc; cases cc
    · rw [if_neg (of_decide_eq_false h2)] at hE
      refine go ?_
      first | refine fin_ret rfl ?_ | refine fin_normal rfl ?_
      rw [← hE]
      rfl
    · have h2' := of_decide_eq_true h2
      rw [if_pos h2'] at hE
      obtain ⟨q0, q1⟩ := fault_zero h2'
      have hml := turnF_len cur a
      have hT := turn_i cur a.kind a.cell.toNat a.old a.new (by omega) (by omega) c ck hck (by omega) hct hcp
      rw [show ((a.cell.toNat : Nat) : Int) = a.cell by omega, hcl] at hT
      refine go ?_
      refine a_callI hT rfl (fun a w => Try.call32 a w) rfl rfl (by (repeat (first | exact trivial | refine ⟨⟨rfl, hcp _ _⟩, ?_⟩))) (by (repeat (first | exact trivial | refine ⟨.inr rfl, ?_⟩))) rfl rfl rfl rfl ?_ ?_
      · rintro d bs ⟨_, cs', rfl, _⟩
        exact ⟨.inl rfl, trivial⟩
      rintro d bs ⟨rfl, cs', rfl, k1, k2, k3⟩
      refine go ?_
      refine a_append tabOk rfl rfl rfl rfl rfl rfl rfl rfl rfl rfl rfl rfl rfl (by unfold maxLen; omega) (by show (_ + _) * 16 ≤ _; omega) ?_
      rw [← pLog_app told (turnF cur a).2, show told.length + 1 = (told ++ [(turnF cur a).2]).length by simp]
      refine go ?_
      exact ⟨(i + 1, (turnF cur a).1, told ++ [(turnF cur a).2], cs'), ⟨by simp only; omega, by simp only; omega, by simp only [List.length_append, List.length_cons, List.length_nil]; omega, k1, by simp only [hml, hcl]; exact k2, k3, hE⟩, by simp only; omega, drop_ghost (by (repeat (first | exact trivial | refine ⟨⟨rfl, rfl⟩, ?_⟩))) (by (repeat (first | exact trivial | refine ⟨⟨rfl, rfl⟩, ?_⟩ | refine ⟨⟨rfl, k3 _ _⟩, ?_⟩))) (by (repeat (first | exact trivial | refine ⟨rfl, ?_⟩))) (by (repeat (first | exact trivial | refine ⟨rfl, ?_⟩)))⟩
  · have h1' := of_decide_eq_false h1
    rw [List.drop_of_length_le (by omega), allG] at hE
    refine awp_ghost (freeze_ghost 7 9 (pInts cur) rfl rfl rfl rfl hck hc (by rw [pInts_len, hcl]) (by rw [← hcl]; exact hct) hcm (ints_lf _)) ?_
    refine go ?_
    first | refine fin_ret rfl ?_ | refine fin_normal rfl ?_
    rw [← hE]
    simp only [dMem, dInts, hcl]
end Go.Proofs.Ytefagncaepallaa
