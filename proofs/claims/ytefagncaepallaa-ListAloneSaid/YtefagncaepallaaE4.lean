/- The list of free nodes: its walk. -/
import Derived.Test.YtefagncaepallaaE3
namespace Go.Proofs.Ytefagncaepallaa
open Go.RowKit
set_option maxRecDepth 100000

theorem at40_c (xs : List Int) (i : Int) : PureC Try.prog 36 [dI i, .el [.sl false xs.length (pInts xs)]] (dI (atF xs i)) := by
  generalize hE : atF xs i = E
  unfold atF at hE
  refine pure_fin tabOk Try.func36 rfl Try.ntmps36 rfl rfl rfl fun w cl => ?_
  refine go ?_
  generalize h1 : decide (i < 0) = cc; cases cc
  · have h1' := of_decide_eq_false h1
    refine go ?_
    generalize h2 : decide (i ≥ (xs.length : Int)) = cc; cases cc
    · have h2' := of_decide_eq_false h2
      rw [if_neg (by omega)] at hE
      have hg := cellAt_get (xs := xs) (i := i) (by omega) (by omega)
      refine go ?_
      refine a_q (indexAddr_step tabOk [pI (cellAt xs i)] rfl rfl rfl rfl rfl rfl (by first | omega | (simp; done) | (simp; omega)) (by first | omega | (simp; done) | (simp; omega)) (by first | (simp; done) | exact List.cons_ne_nil _ _) (ints_idx hg)) rfl rfl rfl ?_
      refine go ?_
      first | refine fin_ret rfl ?_ | refine fin_normal rfl ?_
      rw [← hE]
    · rw [if_pos (.inr (of_decide_eq_true h2))] at hE
      refine go ?_
      first | refine fin_ret rfl ?_ | refine fin_normal rfl ?_
      rw [← hE]
  · rw [if_pos (.inl (of_decide_eq_true h1))] at hE
    refine go ?_
    first | refine fin_ret rfl ?_ | refine fin_normal rfl ?_
    rw [← hE]
/-- Which numbers were met. -/
def boolsC (N : Nat) (acc : List Int) : List Dt := (List.range (N + 1)).map fun (i : Nat) => dB (decide ((i : Int) ∈ acc))
theorem boolsC_len (N : Nat) (acc : List Int) : (boolsC N acc).length = N + 1 := by simp [boolsC]
theorem boolsC_get (N : Nat) (acc : List Int) (n : Int) (h0 : 0 ≤ n) (h1 : n ≤ N) : (boolsC N acc)[n.toNat]? = some (dB (decide (n ∈ acc))) := by
  have : n.toNat < N + 1 := by omega
  simp [boolsC, this, show ((n.toNat : Nat) : Int) = n by omega]
theorem boolsC_set (N : Nat) (acc : List Int) (n : Int) (h0 : 0 ≤ n) : (boolsC N acc).set n.toNat (dB true) = boolsC N (acc ++ [n]) := by
  apply List.ext_getElem
  · simp [boolsC]
  · intro j h1 h2
    rw [List.getElem_set]
    split
    · rename_i hj
      subst hj
      simp [boolsC, show ((n.toNat : Nat) : Int) = n by omega]
    · rename_i hj
      have : ¬ (j : Int) = n := by omega
      simp [boolsC, this]
theorem boolsC_nil (N : Nat) : List.replicate (N + 1) (dB false) = boolsC N [] := by
  apply List.ext_getElem
  · simp [boolsC]
  · intro j h1 h2
    simp [boolsC]
theorem boolsC_plain (N : Nat) (acc : List Int) : PlainC (boolsC N acc) := by
  intro B G
  unfold boolsC
  induction List.range (N + 1) with
  | nil => rfl
  | cons x l ih => simp only [List.map_cons, Dt.ok.oks, Bool.and_eq_true]; exact ⟨rfl, ih⟩
set_option maxHeartbeats 4000000 in
theorem list_c (l : LayT) (hL : LayOk l) (m : List Int) (hm : ∀ x ∈ m, x < 9223372036854775808) : PureC Try.prog 17 [dLay l, dMem m] (dInts (listF l m)) := by
  generalize hE : listF l m = E
  unfold listF at hE
  obtain ⟨hn0, hn1⟩ := hL.nodes
  have hat : ∀ i, atF m i < 9223372036854775808 := by
    intro i
    unfold atF cellAt
    split
    · omega
    · rename_i h
      have hlt : i.toNat < m.length := by omega
      have : m.getD i.toNat 0 = m[i.toNat] := by simp [hlt]
      rw [this]
      exact hm _ (List.getElem_mem hlt)
  have hNN : ((l.nodes.toNat : Nat) : Int) = l.nodes := by omega
  generalize hN : l.nodes.toNat = N at *
  refine pure_fin tabOk Try.func17 rfl Try.ntmps17 rfl rfl rfl fun w cl => ?_
  refine go ?_
  refine a_q (max_step rfl rfl rfl) rfl rfl rfl ?_
  rw [show (if (0 : Int) > l.nodes then 0 else l.nodes) = l.nodes by rw [if_neg (by omega)]]
  refine go ?_
  refine a_b (makeA_step tabOk 5 (c := N + 1) rfl rfl rfl rfl rfl rfl rfl (by omega) (by omega) (by show _ * 1 ≤ _; omega) (by unfold maxLen; omega)) rfl rfl rfl rfl ?_
  rw [show List.replicate (N + 1) (constLeaf (Value.bool false)) = boolsC N [] from boolsC_nil N]
  refine go ?_
  refine a_q (lendv_step (at40_c m l.free) rfl (fun a w => Try.call36 a w) rfl rfl rfl) rfl rfl rfl ?_
  refine go ?_
  refine a_q (call_step (of_c (atF m l.free)) rfl (fun a w => Try.call33 a w) rfl) rfl rfl rfl ?_
  refine go ?_
  refine awp_ghost (tip_ghost 7 0 3 1 rfl rfl rfl) ?_
  generalize hn : (ofW (atF m l.free)).idx = n0 at hE
  have hn0' : n0 < 9223372036854775808 := by rw [← hn]; have := (ofW_idx (atF m l.free)).2; omega
  have hplx : ∀ {acc : List Int} (B : Nat → Bool) (G : Nat → Bool), Dt.ok.oks B G (boolsC N acc) = true := fun B G => boolsC_plain N _ B G
  refine awp_loop_ok (fun p : Nat × List Int × Int => p.1 + p.2.1.length = N + 1 ∧ p.2.1.Nodup ∧ (∀ x ∈ p.2.1, 1 ≤ x ∧ x ≤ l.nodes) ∧ p.2.2 < 9223372036854775808 ∧ chainF (fun n => atF m (nodeF l n 7)) l.nodes p.1 p.2.1 p.2.2 = E) (fun p => ⟨[(6, .arr 5 0 (N + 1) (N + 1)), (8, dI p.2.2), (7, .tip 0 p.2.1.length (pInts p.2.1)), (2, .ptr 0 0), (5, .fn (.func 36) [] [.ptr 1 0])], [(5, boolsC N p.2.1), (1, [dInts m]), (0, layD l)], [(0, ⟨3, 1, p.2.1.length⟩)]⟩) (fun p => p.1) (N + 1, [], n0) ⟨by simp, List.nodup_nil, by simp, hn0', hE⟩ (drop_ghost (by (repeat (first | exact trivial | refine ⟨⟨rfl, rfl⟩, ?_⟩))) (by (repeat (first | exact trivial | refine ⟨⟨rfl, rfl⟩, ?_⟩ | refine ⟨⟨rfl, hplx _ _⟩, ?_⟩))) (by (repeat (first | exact trivial | refine ⟨rfl, ?_⟩))) (by (repeat (first | exact trivial | refine ⟨rfl, ?_⟩)))) ?_
  rintro ⟨k, acc, n⟩ ⟨hk, hnd, hall, hnn, hE⟩
  simp only at hk hnd hall hnn hE
  have hlen := nodup_le N acc hnd (fun x hx => by have := hall x hx; omega)
  obtain ⟨k, rfl⟩ : ∃ j, k = j + 1 := ⟨k - 1, by omega⟩
  rw [chainF] at hE
  refine (show AWP _ _ _ _ ⟨[(6, .arr 5 0 (N + 1) (N + 1)), (8, dI n), (7, .tip 0 acc.length (pInts acc)), (2, .ptr 0 0), (5, .fn (.func 36) [] [.ptr 1 0])], [(5, boolsC N acc), (1, [dInts m]), (0, layD l)], [(0, ⟨3, 1, acc.length⟩)]⟩ from ?_)
  refine go ?_
  generalize h1 : decide (n ≥ 1) = cc; cases cc
  · have h1' := of_decide_eq_false h1
    rw [if_neg (fun hh => h1' hh.1)] at hE
    refine go ?_
    first | refine fin_ret rfl ?_ | refine fin_normal rfl ?_
    rw [← hE]
  · have h1' := of_decide_eq_true h1
    refine go ?_
    generalize h2 : decide (n ≤ l.nodes) = cc; cases cc
    · have h2' := of_decide_eq_false h2
      rw [if_neg (fun hh => h2' hh.2.1)] at hE
      refine go ?_
      first | refine fin_ret rfl ?_ | refine fin_normal rfl ?_
      rw [← hE]
    · have h2' := of_decide_eq_true h2
      refine go ?_
      refine a_q (indexAddrA_step (p := n.toNat) tabOk rfl rfl rfl rfl rfl (by omega) (by omega) (by show n.toNat = n.toNat * 1; omega)) rfl rfl rfl ?_
      refine a_q (loadAt_step tabOk rfl rfl rfl rfl rfl (boolsC_get N acc n (by omega) (by omega))) rfl rfl rfl ?_
      refine go ?_
      generalize h3 : decide (n ∈ acc) = cc; cases cc
      · have h3' := of_decide_eq_false h3
        rw [if_pos ⟨h1', h2', h3'⟩] at hE
        refine go ?_
        refine a_q (indexAddrA_step (p := n.toNat) tabOk rfl rfl rfl rfl rfl (by omega) (by omega) (by show n.toNat = n.toNat * 1; omega)) rfl rfl rfl ?_
        refine a_storeAt tabOk rfl rfl rfl rfl rfl rfl rfl rfl rfl (by rw [boolsC_len]; omega) ?_
        rw [show (boolsC N acc).set n.toNat (Dt.p (Pl.raw (Value.bool true))) = boolsC N (acc ++ [n]) from boolsC_set N acc n (by omega)]
        refine go ?_
        refine a_append tabOk rfl rfl rfl rfl rfl rfl rfl rfl rfl rfl rfl rfl rfl (by unfold maxLen; omega) (by show (_ + _) * 8 ≤ _; omega) ?_
        rw [pInts_snoc, show acc.length + 1 = (acc ++ [n]).length by simp]
        refine go ?_
        refine a_q (call_step (node_c l hL n 7 (by omega) (by omega)) rfl (fun a w => Try.call16 a w) rfl) rfl rfl rfl ?_
        refine go ?_
        refine a_q (lendv_step (at40_c m (nodeF l n 7)) rfl (fun a w => Try.call36 a w) rfl rfl rfl) rfl rfl rfl ?_
        refine go ?_
        exact ⟨(k, acc ++ [n], atF m (nodeF l n 7)), ⟨by simp; omega, by
          rw [List.nodup_append]
          exact ⟨hnd, by simp, fun a ha b hb => by simp at hb; subst hb; exact fun e => h3' (e ▸ ha)⟩, fun x hx => by
          simp only [List.mem_append, List.mem_singleton] at hx
          rcases hx with hx | rfl
          · exact hall x hx
          · exact ⟨h1', h2'⟩, hat _, hE⟩, by simp only; omega, drop_ghost (by (repeat (first | exact trivial | refine ⟨⟨rfl, rfl⟩, ?_⟩))) (by (repeat (first | exact trivial | refine ⟨⟨rfl, rfl⟩, ?_⟩ | refine ⟨⟨rfl, hplx _ _⟩, ?_⟩))) (by (repeat (first | exact trivial | refine ⟨rfl, ?_⟩))) (by (repeat (first | exact trivial | refine ⟨rfl, ?_⟩)))⟩
      · rw [if_neg (fun hh => hh.2.2 (of_decide_eq_true h3))] at hE
        refine go ?_
        first | refine fin_ret rfl ?_ | refine fin_normal rfl ?_
        rw [← hE]
end Go.Proofs.Ytefagncaepallaa
