/- The document's memories: their walk. -/
import Derived.Test.YtdmnjoidfjidbaaGreatD18
import Derived.Test.YtdmnjoidfjidbaaGreatD21
import Derived.Test.YtdmnjoidfjidbaaGreatE10
namespace Go.Proofs.YtdmnjoidfjidbaaGreat
open Go.RowKit
set_option maxRecDepth 100000

theorem flat_idx {α : Type} {f : α → List Pl} {k : Nat} (hf : ∀ x, (f x).length = k) : ∀ {l : List α} {i : Nat} {x : α}, l[i]? = some x → ∀ (m : Nat) q, (f x)[m]? = some q → (l.flatMap f)[i * k + m]? = some q
  | [], i, x, h => by simp at h
  | y :: l, 0, x, h => by
    intro m q hq
    simp at h
    subst h
    rw [List.flatMap_cons, Nat.zero_mul, Nat.zero_add, List.getElem?_append_left (List.getElem?_eq_some_iff.1 hq).1]
    exact hq
  | y :: l, i + 1, x, h => by
    intro m q hq
    have ih := flat_idx hf (l := l) (i := i) (x := x) (by simpa using h) m q hq
    rw [List.flatMap_cons, List.getElem?_append_right (by rw [hf, Nat.add_mul]; omega), hf, show (i + 1) * k + m - k = i * k + m by rw [Nat.add_mul]; omega]
    exact ih
def pAcc (a : AccT) : List Pl := [pI a.kind, pI a.cell, pI a.old, pI a.new]
def pAccs (l : List AccT) : List Pl := l.flatMap pAcc
abbrev dAccs (l : List AccT) : Dt := .p (.sl false l.length (pAccs l))
theorem accs_idx {l : List AccT} {i : Int} {a : AccT} (h : l[i.toNat]? = some a) : ∀ (m : Nat) q, [pI a.kind, pI a.cell, pI a.old, pI a.new][m]? = some q → (pAccs l)[i.toNat * 4 + m]? = some q := flat_idx (f := pAcc) (k := 4) (fun _ => rfl) h
theorem pLog_app (g : List ResT) (x : ResT) : pLog (g ++ [x]) = pLog g ++ [pI x.val, pB x.ok] := by simp [pLog, pRes]
theorem refRight_s (c v : Int) (h : 0 ≤ c) : PureC Tryz.prog 95 [.agg [dI 2, dI c, dI 0, dI v]] (dB true) := by
  refine pure_fin tabOk Tryz.func95 rfl Tryz.ntmps95 rfl rfl rfl fun w cl => ?_
  refine go ?_
  rw [show decide (c < 0) = false by rw [decide_eq_false_iff_not]; omega]
  refine go ?_
  first | refine fin_ret rfl ?_ | refine fin_normal rfl ?_
  rfl
theorem refWith_c (xs : List Int) (c v : Int) (h0 : 0 ≤ c) (h1 : c < xs.length) (hn : xs.length ≤ 1000000) : PureC Tryz.prog 96 [dMem xs, dI c, dI v] (dMem (xs.set c.toNat v)) := by
  refine pure_fin tabOk Tryz.func96 rfl Tryz.ntmps96 rfl rfl rfl fun w cl => ?_
  refine go ?_
  refine a_appendN tabOk 9 rfl rfl rfl rfl rfl rfl rfl rfl rfl rfl rfl rfl rfl (by omega) (pInts_len xs) (by unfold maxLen; omega) (by show _ * 8 ≤ _; omega) (fun cs' c' h2 h3 h4 h5 h6 => ?_)
  have hs := own_set h5 c.toNat v
  have hp : PlainC (cs'.set c.toNat (dI v)) := plain_set h6
  refine go ?_
  refine a_q (indexAddrA_step (p := c.toNat) tabOk rfl rfl rfl rfl rfl (by omega) (by omega) (by show c.toNat = c.toNat * 1; omega)) rfl rfl rfl ?_
  refine a_storeAt tabOk rfl rfl rfl rfl rfl rfl rfl rfl rfl (by omega) ?_
  refine goO ?_
  refine q_then_normal ?_
  refine awp_ghost (freeze_ghost 7 9 (pInts (xs.set c.toNat v)) rfl rfl rfl rfl (by rw [List.length_set]; exact h2) h4 (by rw [pInts_len, List.length_set]) hs h3 (ints_lf _)) ?_
  refine go ?_
  first | refine fin_ret rfl ?_ | refine fin_normal rfl ?_
  simp only [dMem, dInts, List.length_set]
theorem refDo_s (xs : List Int) (c v : Int) (h0 : 0 ≤ c) (h1 : c < xs.length) (hn : xs.length ≤ 1000000) : PureC Tryz.prog 58 [dMem xs, .agg [dI 2, dI c, dI 0, dI v]] (.tup [dMem (xs.set c.toNat v), dRes ⟨cellAt xs c, true⟩, dI 0]) := by
  have hx := cellAt_get h0 h1
  refine pure_fin tabOk Tryz.func58 rfl Tryz.ntmps58 rfl rfl rfl fun w cl => ?_
  refine go ?_
  refine a_q (call_step (refRight_s c v h0) rfl (fun a w => Tryz.call95 a w) rfl) rfl rfl rfl ?_
  refine go ?_
  rw [show decide (c ≥ xs.length) = false by rw [decide_eq_false_iff_not]; omega]
  refine go ?_
  refine a_q (indexAddr_step tabOk [pI (cellAt xs c)] rfl rfl rfl rfl rfl rfl (by first | omega | (simp; done) | (simp; omega)) (by first | omega | (simp; done) | (simp; omega)) (by first | (simp; done) | exact List.cons_ne_nil _ _) (ints_idx hx)) rfl rfl rfl ?_
  refine go ?_
  rw [show decide ((2 : Int) = 1) = false from rfl]
  refine go ?_
  rw [show decide ((2 : Int) = 3) = false from rfl]
  refine go ?_
  rw [show decide ((2 : Int) = 4) = false from rfl]
  refine go ?_
  refine a_q (call_step (refWith_c xs c v h0 h1 hn) rfl (fun a w => Tryz.call96 a w) rfl) rfl rfl rfl ?_
  refine go ?_
  first | refine fin_ret rfl ?_ | refine fin_normal rfl ?_
  rfl
theorem turn_s {xs : List Int} {a : AccT} (hk : a.kind = 2) : turnF xs a = (xs.set a.cell.toNat a.new, ⟨cellAt xs a.cell, true⟩) := by
  unfold turnF
  rw [if_neg (by omega), if_pos (.inl hk)]
def StoresIn (n : Nat) (l : List AccT) : Prop := ∀ a ∈ l, a.kind = 2 ∧ a.old = 0 ∧ 0 ≤ a.cell ∧ a.cell < n
theorem fault_s {n : Nat} {a : AccT} (h : a.kind = 2 ∧ a.old = 0 ∧ 0 ≤ a.cell ∧ a.cell < n) : faultF n a = 0 := by
  obtain ⟨h1, h2, h3, h4⟩ := h
  unfold faultF rightA
  rw [if_pos (by rw [h1, h2]; simp [h3]), if_neg (by omega)]
theorem refAll_c (xs : List Int) (l : List AccT) (hs : StoresIn xs.length l) (hn : xs.length ≤ 1000000) (hl : l.length ≤ 100000) : PureC Tryz.prog 22 [dMem xs, dAccs l] (.tup [dMem (allG xs xs [] l).1, dLog (allG xs xs [] l).2.1, dI (allG xs xs [] l).2.2]) := by
  generalize hE : allG xs xs [] l = E
  refine pure_fin tabOk Tryz.func22 rfl Tryz.ntmps22 rfl rfl rfl fun w cl => ?_
  refine go ?_
  refine awp_ghost (tip_ghost 8 0 65 2 rfl rfl rfl) ?_
  refine awp_loop_ok (fun p : Nat × List Int × List ResT => p.1 ≤ l.length ∧ p.2.1.length = xs.length ∧ p.2.2.length = p.1 ∧ allG xs p.2.1 p.2.2 (l.drop p.1) = E) (fun p => ⟨[(9, dI p.1), (8, .tip 0 p.2.2.length (pLog p.2.2)), (7, .ptr 2 0), (4, .ptr 1 0), (2, .ptr 0 0), (1, dAccs l)], [(2, [dInts p.2.1]), (1, [.p (.sl true 0 [])]), (0, [dInts xs])], [(0, ⟨65, 2, p.2.2.length⟩)]⟩) (fun p => l.length - p.1) (0, xs, []) ⟨Nat.zero_le _, rfl, rfl, hE⟩ (zX) ?_
  rintro ⟨i, cur, told⟩ ⟨hi, hcl, htl, hE⟩
  simp only at hi hcl htl hE
  refine (show AWP _ _ _ _ ⟨[(9, dI i), (8, .tip 0 told.length (pLog told)), (7, .ptr 2 0), (4, .ptr 1 0), (2, .ptr 0 0), (1, dAccs l)], [(2, [dInts cur]), (1, [.p (.sl true 0 [])]), (0, [dInts xs])], [(0, ⟨65, 2, told.length⟩)]⟩ from ?_)
  refine go ?_
  refine ck_b (fun h1 => ?_) (fun h1 => ?_) <;> try rw [h1]
  · have h1' := of_decide_eq_true h1
    have hil : i < l.length := by omega
    obtain ⟨a, ha⟩ := getI (l := l) (i := i) (by omega) h1'
    have hd : l.drop i = a :: l.drop (i + 1) := by
      rw [List.drop_eq_getElem_cons hil]
      simp only [Int.toNat_natCast] at ha
      rw [(List.getElem?_eq_some_iff.1 ha).2]
    have hsa := hs a (List.mem_of_getElem? ha)
    rw [hd, allG, hcl, if_pos (fault_s hsa), turn_s hsa.1] at hE
    obtain ⟨kd, ce, od, nw⟩ := a
    obtain ⟨h2, h3, h4, h5⟩ := hsa
    simp only at h2 h3 h4 h5 hE
    subst h2
    subst h3
    refine go ?_
    refine awp_region_w 14 [] rfl rfl (by kernel_rfl) (by kernel_rfl) (by kernel_rfl) ?_
    refine goQ ?_
    refine r_q (indexAddr_step tabOk [pI 2, pI ce, pI 0, pI nw] rfl rfl rfl rfl rfl rfl (by first | omega | (simp; done) | (simp; omega)) (by first | omega | (simp; done) | (simp; omega)) (by first | (simp; done) | exact List.cons_ne_nil _ _) (accs_idx ha)) rfl rfl ?_
    refine goQ ?_
    refine r_q (call_step (refDo_s cur ce nw h4 (by omega) (by omega)) rfl (fun a w => Tryz.call58 a w) rfl) rfl rfl ?_
    refine goQ ?_
    refine go ?_
    rw [show decide ((0 : Int) = 0) = true from rfl]
    refine go ?_
    refine a_append (m := 1) (ps := pLog told) (qs := [pI (cellAt cur ce), pB true]) tabOk rfl rfl rfl rfl rfl rfl rfl rfl rfl rfl rfl rfl rfl (by unfold maxLen; omega) (by show (_ + _) * 16 ≤ _; omega) ?_
    rw [← pLog_app told ⟨cellAt cur ce, true⟩, show told.length + 1 = (told ++ [(⟨cellAt cur ce, true⟩ : ResT)]).length by simp]
    refine go ?_
    exact ⟨(i + 1, cur.set ce.toNat nw, told ++ [⟨cellAt cur ce, true⟩]), ⟨by simp only; omega, by simp only [List.length_set]; exact hcl, by simp only [List.length_append, List.length_cons, List.length_nil]; omega, hE⟩, by simp only; omega, zX⟩
  · have h1' := of_decide_eq_false h1
    rw [List.drop_of_length_le (by omega), allG] at hE
    refine go ?_
    first | refine fin_ret rfl ?_ | refine fin_normal rfl ?_
    rw [← hE]
theorem pAccs_snoc (l : List AccT) (a : AccT) : pAccs l ++ [pI a.kind, pI a.cell, pI a.old, pI a.new] = pAccs (l ++ [a]) := by simp [pAccs, pAcc]
theorem pAccs_len (l : List AccT) : (pAccs l).length = l.length * 4 := by
  induction l with
  | nil => rfl
  | cons a l ih => unfold pAccs at ih ⊢; rw [List.flatMap_cons, List.length_append, ih]; simp [pAcc]; omega
theorem initN_len (l : LayT) (a k : Nat) : (initN l a k).length = k := by simp [initN]
theorem initN_take (l : LayT) (a k i : Nat) (h : i < k) : (initN l a k).take (i + 1) = (initN l a k).take i ++ [⟨2, nodeF l ((a : Int) + i) 7, 0, if (a : Int) + i = l.nodes then 0 else (a : Int) + i + 1⟩] := by
  rw [List.take_add_one]
  congr 1
  simp [initN, h]

set_option maxHeartbeats 4000000 in
theorem refinit_f (l : LayT) (hL : LayOk l) (h1 : 2 ≤ l.nodes) : FreshC Tryz.prog 24 [dLay l, dI 1] 58 4 (initF l 1).length (pAccs (initF l 1)) := by
  have e2 := hL.nodes
  obtain ⟨hn0, hn1⟩ := e2
  have hN : ((l.nodes.toNat + 1 - 1 : Nat) : Int) = l.nodes := by omega
  generalize hNN : l.nodes.toNat + 1 - 1 = N at hN
  refine fresh_fin (t := 4) Tryz.func24 rfl Tryz.ntmps24 rfl rfl rfl fun w cl => ?_
  refine go ?_
  rw [show decide ((1 : Int) < 1) = false from rfl]
  refine go ?_
  refine awp_ghost (tip_ghost 6 0 58 4 rfl rfl rfl) ?_
  refine awp_loop_ok (fun i : Nat => i + 1 ≤ N) (fun i => ⟨[(7, dI ((1 : Int) + i)), (6, .tip 0 i (pAccs ((initN l 1 N).take i))), (5, dI l.nodes), (1, dI 1), (2, .ptr 0 0)], [(0, layD l)], [(0, ⟨58, 4, i⟩)]⟩) (fun i => N - i) 0 (by omega) (zX) ?_
  intro i hi
  have key : ∀ nx : Int, nx = (if (1 : Int) + i = l.nodes then 0 else (1 : Int) + i + 1) → pAccs ((initN l 1 N).take i) ++ [pI 2, pI (nodeF l ((1 : Int) + i) 7), pI 0, pI nx] = pAccs ((initN l 1 N).take (i + 1)) := by
    intro nx hnx
    rw [initN_take l 1 N i (by omega), ← pAccs_snoc, hnx]
    rfl
  refine go ?_
  refine ck_b (fun h2 => ?_) (fun h2 => ?_) <;> try rw [h2]
  · have h2' := of_decide_eq_true h2
    refine go ?_
    refine a_q (call_step (refnode_c l hL ((1 : Int) + i) 7 (by omega)) rfl (fun a w => Tryz.call59 a w) rfl) rfl rfl rfl ?_
    refine go ?_
    refine a_append tabOk rfl rfl rfl rfl rfl rfl rfl rfl rfl rfl rfl rfl rfl (by unfold maxLen; omega) (by show (_ + _) * 32 ≤ _; omega) ?_
    rw [key _ (by rw [if_neg (by omega)])]
    refine go ?_
    rw [show (1 : Int) + i + 1 = (1 : Int) + ((i + 1 : Nat) : Int) by omega]
    exact ⟨i + 1, by omega, by omega, zX⟩
  · have h2' := of_decide_eq_false h2
    have hiN : i + 1 = N := by omega
    refine go ?_
    rw [show decide ((1 : Int) > l.nodes) = false by rw [decide_eq_false_iff_not]; omega]
    refine go ?_
    refine a_q (call_step (refnode_c l hL l.nodes 7 (by omega)) rfl (fun a w => Tryz.call59 a w) rfl) rfl rfl rfl ?_
    refine go ?_
    have key2 : pAccs ((initN l 1 N).take i) ++ [pI 2, pI (nodeF l l.nodes 7), pI 0, pI 0] = pAccs (initN l 1 N) := by
      have := key 0 (by rw [if_pos (by omega)])
      rw [show (1 : Int) + i = l.nodes by omega, show (initN l 1 N).take (i + 1) = initN l 1 N from List.take_of_length_le (by rw [initN_len]; omega)] at this
      exact this
    refine a_append tabOk rfl rfl rfl rfl rfl rfl rfl rfl rfl rfl rfl rfl rfl (by unfold maxLen; omega) (by show (_ + _) * 32 ≤ _; omega) ?_
    rw [key2]
    refine go ?_
    refine a_append tabOk rfl rfl rfl rfl rfl rfl rfl rfl rfl rfl rfl rfl rfl (by unfold maxLen; omega) (by show (_ + _) * 32 ≤ _; omega) ?_
    have hE : initF l 1 = initN l 1 N ++ [⟨2, l.free, 0, 1⟩] := by unfold initF; rw [hNN]; rfl
    have hlen : (initF l 1).length = i + 1 + 1 := by rw [hE]; simp [initN_len]; omega
    refine go ?_
    rw [hlen, hE, ← pAccs_snoc]
    exact finF_ret rfl rfl
theorem initF_len (l : LayT) : (initF l 1).length = l.nodes.toNat + 1 := by
  unfold initF; simp [initN_len]
theorem beginA_len (l : LayT) : (beginA l).length = l.nodes.toNat + 2 := by
  unfold beginA; rw [List.length_append, initF_len l]; rfl
theorem layE_ok {s n sl : Int} (hs : 1 ≤ s ∧ s ≤ 8) (hl : 1 ≤ sl ∧ sl ≤ 8) (hn : 0 ≤ n ∧ n ≤ 1000) : LayOk (layE s n sl) := by
  refine ⟨?_, ?_, ?_, ?_, ?_, ?_, ?_, ?_, ?_, ?_, ?_, ?_, ?_⟩ <;> simp only [layE, smallB] <;> omega
theorem beginA_in {s n sl : Int} (hs : 1 ≤ s ∧ s ≤ 8) (hl : 1 ≤ sl ∧ sl ≤ 8) (hn : 2 ≤ n ∧ n ≤ 1000) : StoresIn (layE s n sl).size.toNat (beginA (layE s n sl)) := by
  have hsz : (((layE s n sl).size.toNat : Nat) : Int) = 9 + 12 * s + sl + 8 * n := by simp only [layE]; omega
  intro a ha
  rw [hsz]
  unfold beginA initF initN at ha
  simp only [List.mem_append, List.mem_map, List.mem_range, List.mem_cons, List.not_mem_nil, or_false] at ha
  rcases ha with (⟨i, hi, rfl⟩ | rfl) | rfl
  · refine ⟨rfl, rfl, ?_⟩
    have hi' : (i : Int) < n := by simp only [layE] at hi; omega
    have hnf : nodeF (layE s n sl) (((1 : Nat) : Int) + i) 7 = 9 + 12 * s + sl + 8 * i + 7 := by
      unfold nodeF withinF
      rw [if_neg (by omega), if_neg (by show ¬ (_ ∨ n ≤ _ ∨ _ ∨ _); omega)]
      show 9 + 12 * s + sl + _ * 8 + 7 = _
      omega
    simp only [hnf]
    omega
  · refine ⟨rfl, rfl, ?_⟩
    simp only [layE]; omega
  · refine ⟨rfl, rfl, ?_⟩
    simp only [layE]; omega
theorem allG_len (xs0 : List Int) : ∀ (l : List AccT) (cur : List Int) (told : List ResT), xs0.length = cur.length → (allG xs0 cur told l).1.length = cur.length
  | [], cur, told, h => rfl
  | a :: l, cur, told, h => by
    rw [allG]
    split
    · rw [allG_len xs0 l _ _ (by rw [turnF_len]; exact h), turnF_len]
    · exact h
theorem beginF_len (l : LayT) : (beginF l).length = l.size.toNat := by
  unfold beginF
  rw [allG_len _ _ _ _ rfl]; simp
end Go.Proofs.YtdmnjoidfjidbaaGreat
