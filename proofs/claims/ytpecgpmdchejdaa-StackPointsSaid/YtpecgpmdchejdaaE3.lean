/- Nodes of a stack, and what it has: their walks. -/
import Derived.Test.YtpecgpmdchejdaaD21
import Derived.Test.YtpecgpmdchejdaaShort
namespace Go.Proofs.Ytpecgpmdchejdaa
open Go.RowKit
set_option maxRecDepth 100000

theorem nodup_le : ∀ (N : Nat) (l : List Int), l.Nodup → (∀ x ∈ l, 1 ≤ x ∧ x ≤ (N : Int)) → l.length ≤ N
  | 0, l, _, h => by
    cases l with
    | nil => simp
    | cons x l => have := h x (by simp); omega
  | N + 1, l, hd, h => by
    by_cases hm : ((N + 1 : Nat) : Int) ∈ l
    · have h1 := nodup_le N (l.erase ((N + 1 : Nat) : Int)) (hd.erase _) (fun x hx => by
        rw [hd.mem_erase_iff] at hx
        have := h x hx.2
        have := hx.1
        omega)
      rw [List.length_erase_of_mem hm] at h1
      omega
    · have h1 := nodup_le N l hd (fun x hx => by
        have := h x hx
        have : x ≠ ((N + 1 : Nat) : Int) := fun e => hm (e ▸ hx)
        omega)
      omega
/-- From node to node, as long as there is one, and it was not met yet. -/
def chainF (nx : Int → Int) (N : Int) : Nat → List Int → Int → List Int
  | 0, acc, _ => acc
  | k + 1, acc, n => if 1 ≤ n ∧ n ≤ N ∧ n ∉ acc then chainF nx N k (acc ++ [n]) (nx n) else acc
def nodesF (l : LayT) (m : List Int) (s : Int) : List Int := if topF l s < 0 then [] else chainF (fun n => atF m (nodeF l n 0)) l.nodes (l.nodes.toNat + 1) [] (ofW (atF m (topF l s))).idx
def rowF (l : LayT) (m : List Int) (s : Int) : List Int := (nodesF l m s).map fun n => atF m (nodeF l n 1)
theorem nodeF_pos {l : LayT} (hL : LayOk l) {n i : Int} (hi : 0 ≤ i ∧ i < 8) : 0 ≤ nodeF l n i ↔ 1 ≤ n ∧ n ≤ l.nodes := by
  have h1 := hL.node.1
  unfold nodeF withinF
  split
  · omega
  · split <;> omega
structure IsIdx (n : Int) : Prop where
  lo : -9223372036854775808 ≤ n
  hi : n < 9223372036854775808
set_option maxHeartbeats 4000000 in
theorem nodes_c (l : LayT) (hL : LayOk l) (m : List Int) (s : Int) (hm : ∀ x ∈ m, x < 9223372036854775808) : PureC Try.prog 12 [dLay l, dMem m, dI s] (dInts (nodesF l m s)) := by
  generalize hE : nodesF l m s = E
  unfold nodesF at hE
  have hN := hL.nodes
  obtain ⟨hn0, hn1⟩ := hN
  have hat : ∀ i, atF m i < 9223372036854775808 := by
    intro i
    unfold atF cellAt
    split
    · omega
    · rename_i h
      have hlt : i.toNat < m.length := by omega
      have : m.getD i.toNat 0 = m[i.toNat] := by simp [hlt]
      rw [this]
      exact hm _ (List.getElem_mem hlt)
  refine pure_fin tabOk Try.func12 rfl Try.ntmps12 rfl rfl rfl fun w cl => ?_
  repeat (first | refine zA ?_ | refine zB ?_ | refine zC ?_ | refine zD ?_ | refine zE ?_ | refine zF ?_ | refine zG ?_ | refine zH ?_ | refine zI ?_ | refine zJ ?_ | refine zK ?_ | refine zL ?_ | refine zT ?_ | refine zU ?_ | refine zV ?_ | refine zW ?_ | refine zM ?_ | refine zN ?_ | refine zO ?_ | refine zP ?_ | refine zQ ?_ | refine zR ?_ | refine zS ?_ | refine z0 ?_ | refine z1 ?_ | refine z2 ?_ | refine z3 ?_ | refine z4 ?_ | refine z5 ?_ | refine z6 ?_ | refine z7 ?_ | refine z8 ?_ | refine z9 ?_)
  refine a_q (call_step (top_c l hL s) rfl (fun a w => Try.call24 a w) rfl) rfl rfl rfl ?_
  repeat (first | refine z0 ?_ | refine z1 ?_ | refine z2 ?_ | refine z3 ?_ | refine z4 ?_ | refine z5 ?_ | refine z6 ?_ | refine z7 ?_ | refine z8 ?_ | refine z9 ?_)
  refine q_then_normal ?_
  refine awp_seq ?_
  refine awp_seq ?_
  refine awp_region ?_
  repeat (first | refine z0 ?_ | refine z1 ?_ | refine z2 ?_ | refine z3 ?_ | refine z4 ?_ | refine z5 ?_ | refine z6 ?_ | refine z7 ?_ | refine z8 ?_ | refine z9 ?_)
  refine q_then_normal ?_
  refine awp_ck rfl ?_
  generalize h1 : decide (topF l s < 0) = cc; cases cc
  · rw [if_neg (of_decide_eq_false h1)] at hE
    refine ck_f ?_
    refine awp_skip ?_
    refine q_then_normal ?_
    refine awp_seq ?_
    refine awp_region ?_
    repeat (first | refine z0 ?_ | refine z1 ?_ | refine z2 ?_ | refine z3 ?_ | refine z4 ?_ | refine z5 ?_ | refine z6 ?_ | refine z7 ?_ | refine z8 ?_ | refine z9 ?_)
    refine q_then_normal ?_
    refine awp_ghost (tip_ghost 8 0 3 1 rfl rfl rfl) ?_
    refine awp_map rfl rfl rfl rfl rfl rfl rfl rfl fun r => ?_
    refine mwp_seq (mwp_awp fun w' cl' own' hi => ?_)
    repeat (first | refine zA ?_ | refine zB ?_ | refine zC ?_ | refine zD ?_ | refine zE ?_ | refine zF ?_ | refine zG ?_ | refine zH ?_ | refine zI ?_ | refine zJ ?_ | refine zK ?_ | refine zL ?_ | refine zT ?_ | refine zU ?_ | refine zV ?_ | refine zW ?_ | refine zM ?_ | refine zN ?_ | refine zO ?_ | refine zP ?_ | refine zQ ?_ | refine zR ?_ | refine zS ?_ | refine z0 ?_ | refine z1 ?_ | refine z2 ?_ | refine z3 ?_ | refine z4 ?_ | refine z5 ?_ | refine z6 ?_ | refine z7 ?_ | refine z8 ?_ | refine z9 ?_)
    refine a_q (call_step (at_c m (topF l s)) rfl (fun a w => Try.call31 a w) rfl) rfl rfl rfl ?_
    repeat (first | refine zA ?_ | refine zB ?_ | refine zC ?_ | refine zD ?_ | refine zE ?_ | refine zF ?_ | refine zG ?_ | refine zH ?_ | refine zI ?_ | refine zJ ?_ | refine zK ?_ | refine zL ?_ | refine zT ?_ | refine zU ?_ | refine zV ?_ | refine zW ?_ | refine zM ?_ | refine zN ?_ | refine zO ?_ | refine zP ?_ | refine zQ ?_ | refine zR ?_ | refine zS ?_ | refine z0 ?_ | refine z1 ?_ | refine z2 ?_ | refine z3 ?_ | refine z4 ?_ | refine z5 ?_ | refine z6 ?_ | refine z7 ?_ | refine z8 ?_ | refine z9 ?_)
    refine a_q (call_step (of_c (atF m (topF l s))) rfl (fun a w => Try.call30 a w) rfl) rfl rfl rfl ?_
    repeat (first | refine zA ?_ | refine zB ?_ | refine zC ?_ | refine zD ?_ | refine zE ?_ | refine zF ?_ | refine zG ?_ | refine zH ?_ | refine zI ?_ | refine zJ ?_ | refine zK ?_ | refine zL ?_ | refine zT ?_ | refine zU ?_ | refine zV ?_ | refine zW ?_ | refine zM ?_ | refine zN ?_ | refine zO ?_ | refine zP ?_ | refine zQ ?_ | refine zR ?_ | refine zS ?_ | refine z0 ?_ | refine z1 ?_ | refine z2 ?_ | refine z3 ?_ | refine z4 ?_ | refine z5 ?_ | refine z6 ?_ | refine z7 ?_ | refine z8 ?_ | refine z9 ?_)
    refine mthen_normal ?_
    refine mwp_seq (mwp_block ?_)
    generalize hn : (ofW (atF m (topF l s))).idx = n0 at hE
    have hn0' : n0 < 9223372036854775808 := by rw [← hn]; have := (ofW_idx (atF m (topF l s))).2; omega
    refine mwp_loop (fun p : Nat × List Int × Int => p.1 + p.2.1.length = l.nodes.toNat + 1 ∧ p.2.1.Nodup ∧ (∀ x ∈ p.2.1, 1 ≤ x ∧ x ≤ l.nodes) ∧ p.2.2 < 9223372036854775808 ∧ chainF (fun n => atF m (nodeF l n 0)) l.nodes p.1 p.2.1 p.2.2 = E) (fun p => ⟨[(9, .p (.raw (.map (some r)))), (10, dI p.2.2), (8, .tip 0 p.2.1.length (pInts p.2.1)), (3, .ptr 0 0), (4, .ptr 1 0)], [(1, [dInts m]), (0, layD l)], [(0, ⟨3, 1, p.2.1.length⟩)]⟩) (fun p => p.2.1) (fun p => p.1) (l.nodes.toNat + 1, [], n0) ⟨by simp, List.nodup_nil, by simp, hn0', hE⟩ rfl (fun w' cl' own' => zX) ?_
    rintro ⟨k, acc, n⟩ ⟨hk, hnd, hall, hnn, hE⟩
    simp only at hk hnd hall hnn hE
    have hlen := nodup_le l.nodes.toNat acc hnd (fun x hx => by have := hall x hx; omega)
    obtain ⟨k, rfl⟩ : ∃ j, k = j + 1 := ⟨k - 1, by omega⟩
    rw [chainF] at hE
    refine (show MWP _ _ _ _ _ acc ⟨[(9, .p (.raw (.map (some r)))), (10, dI n), (8, .tip 0 acc.length (pInts acc)), (3, .ptr 0 0), (4, .ptr 1 0)], [(1, [dInts m]), (0, layD l)], [(0, ⟨3, 1, acc.length⟩)]⟩ from ?_)
    refine mwp_seq (mwp_awp fun w' cl' own' hi => ?_)
    repeat (first | refine zA ?_ | refine zB ?_ | refine zC ?_ | refine zD ?_ | refine zE ?_ | refine zF ?_ | refine zG ?_ | refine zH ?_ | refine zI ?_ | refine zJ ?_ | refine zK ?_ | refine zL ?_ | refine zT ?_ | refine zU ?_ | refine zV ?_ | refine zW ?_ | refine zM ?_ | refine zN ?_ | refine zO ?_ | refine zP ?_ | refine zQ ?_ | refine zR ?_ | refine zS ?_ | refine z0 ?_ | refine z1 ?_ | refine z2 ?_ | refine z3 ?_ | refine z4 ?_ | refine z5 ?_ | refine z6 ?_ | refine z7 ?_ | refine z8 ?_ | refine z9 ?_)
    refine a_q (call_step (node_c l hL n 0 (by omega) (by omega)) rfl (fun a w => Try.call20 a w) rfl) rfl rfl rfl ?_
    repeat (first | refine zA ?_ | refine zB ?_ | refine zC ?_ | refine zD ?_ | refine zE ?_ | refine zF ?_ | refine zG ?_ | refine zH ?_ | refine zI ?_ | refine zJ ?_ | refine zK ?_ | refine zL ?_ | refine zT ?_ | refine zU ?_ | refine zV ?_ | refine zW ?_ | refine zM ?_ | refine zN ?_ | refine zO ?_ | refine zP ?_ | refine zQ ?_ | refine zR ?_ | refine zS ?_ | refine z0 ?_ | refine z1 ?_ | refine z2 ?_ | refine z3 ?_ | refine z4 ?_ | refine z5 ?_ | refine z6 ?_ | refine z7 ?_ | refine z8 ?_ | refine z9 ?_)
    have hpos := nodeF_pos hL (n := n) (i := 0) (by omega)
    generalize h2 : decide (nodeF l n 0 ≥ 0) = cc; cases cc
    · have h2' := of_decide_eq_false h2
      rw [if_neg (fun hh => h2' (hpos.2 ⟨hh.1, hh.2.1⟩))] at hE
      repeat (first | refine zA ?_ | refine zB ?_ | refine zC ?_ | refine zD ?_ | refine zE ?_ | refine zF ?_ | refine zG ?_ | refine zH ?_ | refine zI ?_ | refine zJ ?_ | refine zK ?_ | refine zL ?_ | refine zT ?_ | refine zU ?_ | refine zV ?_ | refine zW ?_ | refine zM ?_ | refine zN ?_ | refine zO ?_ | refine zP ?_ | refine zQ ?_ | refine zR ?_ | refine zS ?_ | refine z0 ?_ | refine z1 ?_ | refine z2 ?_ | refine z3 ?_ | refine z4 ?_ | refine z5 ?_ | refine z6 ?_ | refine z7 ?_ | refine z8 ?_ | refine z9 ?_)
      refine mthen_exit (mthen_exit (mblock_exit (mthen_normal (mwp_awp fun w' cl' own' hi => ?_))))
      repeat (first | refine zA ?_ | refine zB ?_ | refine zC ?_ | refine zD ?_ | refine zE ?_ | refine zF ?_ | refine zG ?_ | refine zH ?_ | refine zI ?_ | refine zJ ?_ | refine zK ?_ | refine zL ?_ | refine zT ?_ | refine zU ?_ | refine zV ?_ | refine zW ?_ | refine zM ?_ | refine zN ?_ | refine zO ?_ | refine zP ?_ | refine zQ ?_ | refine zR ?_ | refine zS ?_ | refine z0 ?_ | refine z1 ?_ | refine z2 ?_ | refine z3 ?_ | refine z4 ?_ | refine z5 ?_ | refine z6 ?_ | refine z7 ?_ | refine z8 ?_ | refine z9 ?_)
      first | refine fin_ret rfl ?_ | refine fin_normal rfl ?_
      rw [← hE]
    · have h2' := hpos.1 (of_decide_eq_true h2)
      repeat (first | refine zA ?_ | refine zB ?_ | refine zC ?_ | refine zD ?_ | refine zE ?_ | refine zF ?_ | refine zG ?_ | refine zH ?_ | refine zI ?_ | refine zJ ?_ | refine zK ?_ | refine zL ?_ | refine zT ?_ | refine zU ?_ | refine zV ?_ | refine zW ?_ | refine zM ?_ | refine zN ?_ | refine zO ?_ | refine zP ?_ | refine zQ ?_ | refine zR ?_ | refine zS ?_ | refine z0 ?_ | refine z1 ?_ | refine z2 ?_ | refine z3 ?_ | refine z4 ?_ | refine z5 ?_ | refine z6 ?_ | refine z7 ?_ | refine z8 ?_ | refine z9 ?_)
      refine a_lookup tabOk hi rfl Try.underlying78 Try.underlying3 rfl rfl rfl rfl rfl rfl rfl ?_
      repeat (first | refine zA ?_ | refine zB ?_ | refine zC ?_ | refine zD ?_ | refine zE ?_ | refine zF ?_ | refine zG ?_ | refine zH ?_ | refine zI ?_ | refine zJ ?_ | refine zK ?_ | refine zL ?_ | refine zT ?_ | refine zU ?_ | refine zV ?_ | refine zW ?_ | refine zM ?_ | refine zN ?_ | refine zO ?_ | refine zP ?_ | refine zQ ?_ | refine zR ?_ | refine zS ?_ | refine z0 ?_ | refine z1 ?_ | refine z2 ?_ | refine z3 ?_ | refine z4 ?_ | refine z5 ?_ | refine z6 ?_ | refine z7 ?_ | refine z8 ?_ | refine z9 ?_)
      generalize h3 : decide (n ∈ acc) = cc; cases cc
      · have h3' := of_decide_eq_false h3
        rw [if_pos ⟨h2'.1, h2'.2, h3'⟩] at hE
        repeat (first | refine zA ?_ | refine zB ?_ | refine zC ?_ | refine zD ?_ | refine zE ?_ | refine zF ?_ | refine zG ?_ | refine zH ?_ | refine zI ?_ | refine zJ ?_ | refine zK ?_ | refine zL ?_ | refine zT ?_ | refine zU ?_ | refine zV ?_ | refine zW ?_ | refine zM ?_ | refine zN ?_ | refine zO ?_ | refine zP ?_ | refine zQ ?_ | refine zR ?_ | refine zS ?_ | refine z0 ?_ | refine z1 ?_ | refine z2 ?_ | refine z3 ?_ | refine z4 ?_ | refine z5 ?_ | refine z6 ?_ | refine z7 ?_ | refine z8 ?_ | refine z9 ?_)
        refine mthen_normal ?_
        refine mwp_block (mwp_seq (mwp_region ?_))
        refine m_ax tabOk rfl rfl rfl rfl ?_
        refine m_ax tabOk rfl rfl rfl rfl ?_
        refine m_update rfl rfl Try.underlying78 Try.underlying3 rfl rfl rfl rfl h3' ?_
        refine m_nil (mthen_normal (mwp_awp fun w' cl' own' hi => ?_))
        repeat (first | refine zA ?_ | refine zB ?_ | refine zC ?_ | refine zD ?_ | refine zE ?_ | refine zF ?_ | refine zG ?_ | refine zH ?_ | refine zI ?_ | refine zJ ?_ | refine zK ?_ | refine zL ?_ | refine zT ?_ | refine zU ?_ | refine zV ?_ | refine zW ?_ | refine zM ?_ | refine zN ?_ | refine zO ?_ | refine zP ?_ | refine zQ ?_ | refine zR ?_ | refine zS ?_ | refine z0 ?_ | refine z1 ?_ | refine z2 ?_ | refine z3 ?_ | refine z4 ?_ | refine z5 ?_ | refine z6 ?_ | refine z7 ?_ | refine z8 ?_ | refine z9 ?_)
        refine a_append tabOk rfl rfl rfl rfl rfl rfl rfl rfl rfl rfl rfl rfl rfl (by unfold maxLen; omega) (by show (_ + _) * 8 ≤ _; omega) ?_
        rw [pInts_snoc, show acc.length + 1 = (acc ++ [n]).length by simp]
        repeat (first | refine zA ?_ | refine zB ?_ | refine zC ?_ | refine zD ?_ | refine zE ?_ | refine zF ?_ | refine zG ?_ | refine zH ?_ | refine zI ?_ | refine zJ ?_ | refine zK ?_ | refine zL ?_ | refine zT ?_ | refine zU ?_ | refine zV ?_ | refine zW ?_ | refine zM ?_ | refine zN ?_ | refine zO ?_ | refine zP ?_ | refine zQ ?_ | refine zR ?_ | refine zS ?_ | refine z0 ?_ | refine z1 ?_ | refine z2 ?_ | refine z3 ?_ | refine z4 ?_ | refine z5 ?_ | refine z6 ?_ | refine z7 ?_ | refine z8 ?_ | refine z9 ?_)
        refine awp_region_q [] rfl (by kernel_rfl) (by kernel_rfl) ?_
        repeat (first | refine w0 ?_ | refine w1 ?_ | refine w2 ?_ | refine w3 ?_ | refine w4 ?_ | refine w5 ?_ | refine w6 ?_ | refine w7 ?_ | refine w8 ?_ | refine w9 ?_)
        refine r_q (call_step (node_c l hL n 0 (by omega) (by omega)) rfl (fun a w => Try.call20 a w) rfl) rfl rfl ?_
        repeat (first | refine w0 ?_ | refine w1 ?_ | refine w2 ?_ | refine w3 ?_ | refine w4 ?_ | refine w5 ?_ | refine w6 ?_ | refine w7 ?_ | refine w8 ?_ | refine w9 ?_)
        refine r_q (call_step (at_c m (nodeF l n 0)) rfl (fun a w => Try.call31 a w) rfl) rfl rfl ?_
        repeat (first | refine w0 ?_ | refine w1 ?_ | refine w2 ?_ | refine w3 ?_ | refine w4 ?_ | refine w5 ?_ | refine w6 ?_ | refine w7 ?_ | refine w8 ?_ | refine w9 ?_)
        repeat (first | refine zA ?_ | refine zB ?_ | refine zC ?_ | refine zD ?_ | refine zE ?_ | refine zF ?_ | refine zG ?_ | refine zH ?_ | refine zI ?_ | refine zJ ?_ | refine zK ?_ | refine zL ?_ | refine zT ?_ | refine zU ?_ | refine zV ?_ | refine zW ?_ | refine zM ?_ | refine zN ?_ | refine zO ?_ | refine zP ?_ | refine zQ ?_ | refine zR ?_ | refine zS ?_ | refine z0 ?_ | refine z1 ?_ | refine z2 ?_ | refine z3 ?_ | refine z4 ?_ | refine z5 ?_ | refine z6 ?_ | refine z7 ?_ | refine z8 ?_ | refine z9 ?_)
        refine mblock_normal (mthen_normal ?_)
        exact ⟨(k, acc ++ [n], atF m (nodeF l n 0)), ⟨by simp; omega, by
          rw [List.nodup_append]
          exact ⟨hnd, by simp, fun a ha b hb => by simp at hb; subst hb; exact fun e => h3' (e ▸ ha)⟩, fun x hx => by
          simp only [List.mem_append, List.mem_singleton] at hx
          rcases hx with hx | rfl
          · exact hall x hx
          · exact h2', hat _, hE⟩, by simp only; omega, rfl, fun w' cl' own' => zX⟩
      · rw [if_neg (fun hh => hh.2.2 (of_decide_eq_true h3))] at hE
        repeat (first | refine zA ?_ | refine zB ?_ | refine zC ?_ | refine zD ?_ | refine zE ?_ | refine zF ?_ | refine zG ?_ | refine zH ?_ | refine zI ?_ | refine zJ ?_ | refine zK ?_ | refine zL ?_ | refine zT ?_ | refine zU ?_ | refine zV ?_ | refine zW ?_ | refine zM ?_ | refine zN ?_ | refine zO ?_ | refine zP ?_ | refine zQ ?_ | refine zR ?_ | refine zS ?_ | refine z0 ?_ | refine z1 ?_ | refine z2 ?_ | refine z3 ?_ | refine z4 ?_ | refine z5 ?_ | refine z6 ?_ | refine z7 ?_ | refine z8 ?_ | refine z9 ?_)
        refine mthen_exit (mthen_exit (mblock_exit (mthen_normal (mwp_awp fun w' cl' own' hi => ?_))))
        repeat (first | refine zA ?_ | refine zB ?_ | refine zC ?_ | refine zD ?_ | refine zE ?_ | refine zF ?_ | refine zG ?_ | refine zH ?_ | refine zI ?_ | refine zJ ?_ | refine zK ?_ | refine zL ?_ | refine zT ?_ | refine zU ?_ | refine zV ?_ | refine zW ?_ | refine zM ?_ | refine zN ?_ | refine zO ?_ | refine zP ?_ | refine zQ ?_ | refine zR ?_ | refine zS ?_ | refine z0 ?_ | refine z1 ?_ | refine z2 ?_ | refine z3 ?_ | refine z4 ?_ | refine z5 ?_ | refine z6 ?_ | refine z7 ?_ | refine z8 ?_ | refine z9 ?_)
        first | refine fin_ret rfl ?_ | refine fin_normal rfl ?_
        rw [← hE]
  · rw [if_pos (of_decide_eq_true h1)] at hE
    repeat (first | refine zA ?_ | refine zB ?_ | refine zC ?_ | refine zD ?_ | refine zE ?_ | refine zF ?_ | refine zG ?_ | refine zH ?_ | refine zI ?_ | refine zJ ?_ | refine zK ?_ | refine zL ?_ | refine zT ?_ | refine zU ?_ | refine zV ?_ | refine zW ?_ | refine zM ?_ | refine zN ?_ | refine zO ?_ | refine zP ?_ | refine zQ ?_ | refine zR ?_ | refine zS ?_ | refine z0 ?_ | refine z1 ?_ | refine z2 ?_ | refine z3 ?_ | refine z4 ?_ | refine z5 ?_ | refine z6 ?_ | refine z7 ?_ | refine z8 ?_ | refine z9 ?_)
    first | refine fin_ret rfl ?_ | refine fin_normal rfl ?_
    rw [← hE]
    rfl
theorem chainF_len {nx : Int → Int} {N : Int} : ∀ (k : Nat) (acc : List Int) (n : Int), (chainF nx N k acc n).length ≤ acc.length + k
  | 0, acc, n => by simp [chainF]
  | k + 1, acc, n => by
    rw [chainF]
    split
    · have := chainF_len (nx := nx) (N := N) k (acc ++ [n]) (nx n)
      simp at this; omega
    · omega
theorem nodesF_len (l : LayT) (m : List Int) (s : Int) : (nodesF l m s).length ≤ l.nodes.toNat + 1 := by
  unfold nodesF
  split
  · simp
  · have := chainF_len (nx := fun n => atF m (nodeF l n 0)) (N := l.nodes) (l.nodes.toNat + 1) [] (ofW (atF m (topF l s))).idx
    simpa using this
theorem chainF_bound {nx : Int → Int} {N : Int} : ∀ (k : Nat) (acc : List Int) (n : Int), (∀ x ∈ acc, 1 ≤ x ∧ x ≤ N) → ∀ x ∈ chainF nx N k acc n, 1 ≤ x ∧ x ≤ N
  | 0, acc, n, h => by simpa [chainF] using h
  | k + 1, acc, n, h => by
    rw [chainF]
    split
    · rename_i hc
      exact chainF_bound k (acc ++ [n]) (nx n) (fun x hx => by
        simp only [List.mem_append, List.mem_singleton] at hx
        rcases hx with hx | rfl
        · exact h x hx
        · exact ⟨hc.1, hc.2.1⟩)
    · exact h
theorem nodesF_bound (l : LayT) (m : List Int) (s : Int) : ∀ x ∈ nodesF l m s, 1 ≤ x ∧ x ≤ l.nodes := by
  unfold nodesF
  split
  · simp
  · exact chainF_bound _ _ _ (by simp)
set_option maxHeartbeats 4000000 in
theorem row_c (l : LayT) (hL : LayOk l) (m : List Int) (s : Int) (hm : ∀ x ∈ m, x < 9223372036854775808) : PureC Try.prog 14 [dLay l, dMem m, dI s] (dInts (rowF l m s)) := by
  have hbd := nodesF_bound l m s
  have hln := nodesF_len l m s
  have hC := nodes_c l hL m s hm
  unfold rowF
  obtain ⟨hn0, hn1⟩ := hL.nodes
  generalize nodesF l m s = ns at *
  refine pure_fin tabOk Try.func14 rfl Try.ntmps14 rfl rfl rfl fun w cl => ?_
  repeat (first | refine zA ?_ | refine zB ?_ | refine zC ?_ | refine zD ?_ | refine zE ?_ | refine zF ?_ | refine zG ?_ | refine zH ?_ | refine zI ?_ | refine zJ ?_ | refine zK ?_ | refine zL ?_ | refine zT ?_ | refine zU ?_ | refine zV ?_ | refine zW ?_ | refine zM ?_ | refine zN ?_ | refine zO ?_ | refine zP ?_ | refine zQ ?_ | refine zR ?_ | refine zS ?_ | refine z0 ?_ | refine z1 ?_ | refine z2 ?_ | refine z3 ?_ | refine z4 ?_ | refine z5 ?_ | refine z6 ?_ | refine z7 ?_ | refine z8 ?_ | refine z9 ?_)
  refine a_q (call_step (hC) rfl (fun a w => Try.call12 a w) rfl) rfl rfl rfl ?_
  repeat (first | refine zA ?_ | refine zB ?_ | refine zC ?_ | refine zD ?_ | refine zE ?_ | refine zF ?_ | refine zG ?_ | refine zH ?_ | refine zI ?_ | refine zJ ?_ | refine zK ?_ | refine zL ?_ | refine zT ?_ | refine zU ?_ | refine zV ?_ | refine zW ?_ | refine zM ?_ | refine zN ?_ | refine zO ?_ | refine zP ?_ | refine zQ ?_ | refine zR ?_ | refine zS ?_ | refine z0 ?_ | refine z1 ?_ | refine z2 ?_ | refine z3 ?_ | refine z4 ?_ | refine z5 ?_ | refine z6 ?_ | refine z7 ?_ | refine z8 ?_ | refine z9 ?_)
  refine awp_ghost (tip_ghost 7 0 3 1 rfl rfl rfl) ?_
  refine awp_loop_ok (fun i : Nat => i ≤ ns.length) (fun i => ⟨[(15, dI i), (14, dI ns.length), (13, dInts ns), (7, .tip 0 i (pInts ((ns.take i).map fun n => atF m (nodeF l n 1)))), (3, .ptr 0 0), (4, .ptr 1 0)], [(1, [dInts m]), (0, layD l)], [(0, ⟨3, 1, i⟩)]⟩) (fun i => ns.length - i) 0 (by omega) (zX) ?_
  intro i hi
  repeat (first | refine zA ?_ | refine zB ?_ | refine zC ?_ | refine zD ?_ | refine zE ?_ | refine zF ?_ | refine zG ?_ | refine zH ?_ | refine zI ?_ | refine zJ ?_ | refine zK ?_ | refine zL ?_ | refine zT ?_ | refine zU ?_ | refine zV ?_ | refine zW ?_ | refine zM ?_ | refine zN ?_ | refine zO ?_ | refine zP ?_ | refine zQ ?_ | refine zR ?_ | refine zS ?_ | refine z0 ?_ | refine z1 ?_ | refine z2 ?_ | refine z3 ?_ | refine z4 ?_ | refine z5 ?_ | refine z6 ?_ | refine z7 ?_ | refine z8 ?_ | refine z9 ?_)
  refine ck_b (fun h1 => ?_) (fun h1 => ?_) <;> try rw [h1]
  · have h1' := of_decide_eq_true h1
    obtain ⟨n, hn⟩ := getI (l := ns) (i := i) (by omega) h1'
    have hnb := hbd n (by simp only [Int.toNat_natCast] at hn; exact List.mem_of_getElem? hn)
    repeat (first | refine zA ?_ | refine zB ?_ | refine zC ?_ | refine zD ?_ | refine zE ?_ | refine zF ?_ | refine zG ?_ | refine zH ?_ | refine zI ?_ | refine zJ ?_ | refine zK ?_ | refine zL ?_ | refine zT ?_ | refine zU ?_ | refine zV ?_ | refine zW ?_ | refine zM ?_ | refine zN ?_ | refine zO ?_ | refine zP ?_ | refine zQ ?_ | refine zR ?_ | refine zS ?_ | refine z0 ?_ | refine z1 ?_ | refine z2 ?_ | refine z3 ?_ | refine z4 ?_ | refine z5 ?_ | refine z6 ?_ | refine z7 ?_ | refine z8 ?_ | refine z9 ?_)
    refine a_q (indexAddr_step tabOk [pI n] rfl rfl rfl rfl rfl rfl (by first | omega | (simp; done) | (simp; omega)) (by first | omega | (simp; done) | (simp; omega)) (by first | (simp; done) | exact List.cons_ne_nil _ _) (ints_idx hn)) rfl rfl rfl ?_
    repeat (first | refine zA ?_ | refine zB ?_ | refine zC ?_ | refine zD ?_ | refine zE ?_ | refine zF ?_ | refine zG ?_ | refine zH ?_ | refine zI ?_ | refine zJ ?_ | refine zK ?_ | refine zL ?_ | refine zT ?_ | refine zU ?_ | refine zV ?_ | refine zW ?_ | refine zM ?_ | refine zN ?_ | refine zO ?_ | refine zP ?_ | refine zQ ?_ | refine zR ?_ | refine zS ?_ | refine z0 ?_ | refine z1 ?_ | refine z2 ?_ | refine z3 ?_ | refine z4 ?_ | refine z5 ?_ | refine z6 ?_ | refine z7 ?_ | refine z8 ?_ | refine z9 ?_)
    refine awp_region_q [] rfl (by kernel_rfl) (by kernel_rfl) ?_
    repeat (first | refine w0 ?_ | refine w1 ?_ | refine w2 ?_ | refine w3 ?_ | refine w4 ?_ | refine w5 ?_ | refine w6 ?_ | refine w7 ?_ | refine w8 ?_ | refine w9 ?_)
    refine r_q (call_step (node_c l hL n 1 (by omega) (by omega)) rfl (fun a w => Try.call20 a w) rfl) rfl rfl ?_
    repeat (first | refine w0 ?_ | refine w1 ?_ | refine w2 ?_ | refine w3 ?_ | refine w4 ?_ | refine w5 ?_ | refine w6 ?_ | refine w7 ?_ | refine w8 ?_ | refine w9 ?_)
    refine r_q (call_step (at_c m (nodeF l n 1)) rfl (fun a w => Try.call31 a w) rfl) rfl rfl ?_
    repeat (first | refine w0 ?_ | refine w1 ?_ | refine w2 ?_ | refine w3 ?_ | refine w4 ?_ | refine w5 ?_ | refine w6 ?_ | refine w7 ?_ | refine w8 ?_ | refine w9 ?_)
    refine r_append tabOk rfl rfl rfl rfl rfl rfl rfl rfl rfl rfl rfl rfl rfl (by unfold maxLen; omega) (by show (_ + _) * 8 ≤ _; omega) ?_
    have ht : ns.take (i + 1) = ns.take i ++ [n] := by
      rw [List.take_add_one]
      simp only [Int.toNat_natCast] at hn
      rw [hn]; rfl
    rw [pInts_snoc, show (ns.take i).map (fun n => atF m (nodeF l n 1)) ++ [atF m (nodeF l n 1)] = (ns.take (i + 1)).map (fun n => atF m (nodeF l n 1)) by rw [ht]; simp]
    repeat (first | refine w0 ?_ | refine w1 ?_ | refine w2 ?_ | refine w3 ?_ | refine w4 ?_ | refine w5 ?_ | refine w6 ?_ | refine w7 ?_ | refine w8 ?_ | refine w9 ?_)
    repeat (first | refine zA ?_ | refine zB ?_ | refine zC ?_ | refine zD ?_ | refine zE ?_ | refine zF ?_ | refine zG ?_ | refine zH ?_ | refine zI ?_ | refine zJ ?_ | refine zK ?_ | refine zL ?_ | refine zT ?_ | refine zU ?_ | refine zV ?_ | refine zW ?_ | refine zM ?_ | refine zN ?_ | refine zO ?_ | refine zP ?_ | refine zQ ?_ | refine zR ?_ | refine zS ?_ | refine z0 ?_ | refine z1 ?_ | refine z2 ?_ | refine z3 ?_ | refine z4 ?_ | refine z5 ?_ | refine z6 ?_ | refine z7 ?_ | refine z8 ?_ | refine z9 ?_)
    exact ⟨i + 1, by omega, by omega, zX⟩
  · have h1' := of_decide_eq_false h1
    repeat (first | refine zA ?_ | refine zB ?_ | refine zC ?_ | refine zD ?_ | refine zE ?_ | refine zF ?_ | refine zG ?_ | refine zH ?_ | refine zI ?_ | refine zJ ?_ | refine zK ?_ | refine zL ?_ | refine zT ?_ | refine zU ?_ | refine zV ?_ | refine zW ?_ | refine zM ?_ | refine zN ?_ | refine zO ?_ | refine zP ?_ | refine zQ ?_ | refine zR ?_ | refine zS ?_ | refine z0 ?_ | refine z1 ?_ | refine z2 ?_ | refine z3 ?_ | refine z4 ?_ | refine z5 ?_ | refine z6 ?_ | refine z7 ?_ | refine z8 ?_ | refine z9 ?_)
    first | refine fin_ret rfl ?_ | refine fin_normal rfl ?_
    rw [List.take_of_length_le (by omega)]
    simp only [dInts, List.length_map]
    rw [show ns.length = i by omega]
end Go.Proofs.Ytpecgpmdchejdaa
