/- A list's nodes, and what it has: their walks. -/
import Derived.Test.YtkkldicehapklaaGreatD21
import Derived.Test.YtkkldicehapklaaGreatShort
import Derived.Test.YtkkldicehapklaaGreatPB
namespace Go.Proofs.YtkkldicehapklaaGreat
open Go.RowKit
set_option maxRecDepth 100000

theorem nodeF_pos {l : LayT} (hL : LayOk l) {n i : Int} (hi : 0 ≤ i ∧ i < 8) : 0 ≤ nodeF l n i ↔ 1 ≤ n ∧ n ≤ l.nodes := by
  have h1 := hL.node.1
  unfold nodeF withinF
  split
  · omega
  · split <;> omega
structure IsIdx (n : Int) : Prop where
  lo : -9223372036854775808 ≤ n
  hi : n < 9223372036854775808
set_option maxHeartbeats 4000000 in
theorem nodes_c (l : LayT) (hL : LayOk l) (m : List Int) (h : Int) : PureC Tryz.prog 62 [dLay l, dMem m, dI h] (dInts (nodesF l m h)) := by
  generalize hE : nodesF l m h = E
  unfold nodesF at hE
  obtain ⟨hn0, hn1⟩ := hL.nodes
  refine pure_fin tabOk Tryz.func62 rfl Tryz.ntmps62 rfl rfl rfl fun w cl => ?_
  refine awp_seq ?_
  refine awp_region ?_
  refine goO ?_
  refine q_then_normal ?_
  refine awp_seq ?_
  refine awp_region ?_
  refine goO ?_
  refine q_then_normal ?_
  refine awp_ghost (tip_ghost 7 0 3 1 rfl rfl rfl) ?_
  refine awp_map rfl rfl rfl rfl rfl rfl rfl rfl fun r => ?_
  refine mwp_seq (mwp_awp fun w' cl' own' hi => ?_)
  refine go ?_
  refine a_q (call_step (at_c m h) rfl (fun a w => Tryz.call63 a w) rfl) rfl rfl rfl ?_
  refine go ?_
  refine a_q (call_step (of_c (atF m h)) rfl (fun a w => Tryz.call28 a w) rfl) rfl rfl rfl ?_
  refine go ?_
  refine mthen_normal ?_
  refine mwp_seq (mwp_block ?_)
  generalize hn : (ofW (atF m h)).idx = n0 at hE
  have hn0' : n0 < 65536 := by rw [← hn]; exact (ofW_idx (atF m h)).2
  refine mwp_loop (fun p : Nat × List Int × Int => p.1 + p.2.1.length = l.nodes.toNat + 1 ∧ p.2.1.Nodup ∧ (∀ x ∈ p.2.1, 1 ≤ x ∧ x ≤ l.nodes) ∧ p.2.2 < 65536 ∧ chainF (fun n => (ofW (atF m (nodeF l n 0))).idx) l.nodes p.1 p.2.1 p.2.2 = E) (fun p => ⟨[(8, .p (.raw (.map (some r)))), (9, dI p.2.2), (7, .tip 0 p.2.1.length (pInts p.2.1)), (3, .ptr 0 0), (4, .ptr 1 0)], [(1, [dInts m]), (0, layD l)], [(0, ⟨3, 1, p.2.1.length⟩)]⟩) (fun p => p.2.1) (fun p => p.1) (l.nodes.toNat + 1, [], n0) ⟨by simp, List.nodup_nil, by simp, hn0', hE⟩ rfl (fun w' cl' own' => zX) ?_
  rintro ⟨k, acc, n⟩ ⟨hk, hnd, hall, hnn, hE⟩
  simp only at hk hnd hall hnn hE
  have hlen := nodup_le l.nodes.toNat acc hnd (fun x hx => by have := hall x hx; omega)
  obtain ⟨k, rfl⟩ : ∃ j, k = j + 1 := ⟨k - 1, by omega⟩
  rw [chainF] at hE
  refine (show MWP _ _ _ _ _ acc ⟨[(8, .p (.raw (.map (some r)))), (9, dI n), (7, .tip 0 acc.length (pInts acc)), (3, .ptr 0 0), (4, .ptr 1 0)], [(1, [dInts m]), (0, layD l)], [(0, ⟨3, 1, acc.length⟩)]⟩ from ?_)
  refine mwp_seq (mwp_awp fun w' cl' own' hi => ?_)
  refine go ?_
  refine a_q (call_step (node_c l hL n 0 (by omega) (by omega)) rfl (fun a w => Tryz.call27 a w) rfl) rfl rfl rfl ?_
  refine go ?_
  have hpos := nodeF_pos hL (n := n) (i := 0) (by omega)
  generalize h2 : decide (nodeF l n 0 ≥ 0) = cc; cases cc
  · have h2' := of_decide_eq_false h2
    rw [if_neg (fun hh => h2' (hpos.2 ⟨hh.1, hh.2.1⟩))] at hE
    refine go ?_
    refine mthen_exit (mthen_exit (mblock_exit (mthen_normal (mwp_awp fun w' cl' own' hi => ?_))))
    refine go ?_
    first | refine fin_ret rfl ?_ | refine fin_normal rfl ?_
    rw [← hE]
  · have h2' := hpos.1 (of_decide_eq_true h2)
    refine go ?_
    refine a_lookup tabOk hi rfl Tryz.underlying147 Tryz.underlying3 rfl rfl rfl rfl rfl rfl rfl ?_
    refine go ?_
    generalize h3 : decide (n ∈ acc) = cc; cases cc
    · have h3' := of_decide_eq_false h3
      rw [if_pos ⟨h2'.1, h2'.2, h3'⟩] at hE
      refine go ?_
      refine mthen_normal ?_
      refine mwp_block (mwp_seq (mwp_region ?_))
      refine m_ax tabOk rfl rfl rfl rfl ?_
      refine m_ax tabOk rfl rfl rfl rfl ?_
      refine m_update rfl rfl Tryz.underlying147 Tryz.underlying3 rfl rfl rfl rfl h3' ?_
      refine m_nil (mthen_normal (mwp_awp fun w' cl' own' hi => ?_))
      refine go ?_
      refine a_append tabOk rfl rfl rfl rfl rfl rfl rfl rfl rfl rfl rfl rfl rfl (by unfold maxLen; omega) (by show (_ + _) * 8 ≤ _; omega) ?_
      rw [pInts_snoc, show acc.length + 1 = (acc ++ [n]).length by simp]
      refine go ?_
      refine awp_region_q [] rfl (by kernel_rfl) (by kernel_rfl) ?_
      refine goQ ?_
      refine r_q (call_step (node_c l hL n 0 (by omega) (by omega)) rfl (fun a w => Tryz.call27 a w) rfl) rfl rfl ?_
      refine goQ ?_
      refine r_q (call_step (at_c m (nodeF l n 0)) rfl (fun a w => Tryz.call63 a w) rfl) rfl rfl ?_
      refine goQ ?_
      refine r_q (call_step (of_c (atF m (nodeF l n 0))) rfl (fun a w => Tryz.call28 a w) rfl) rfl rfl ?_
      refine goQ ?_
      refine go ?_
      refine mblock_normal (mthen_normal ?_)
      exact ⟨(k, acc ++ [n], (ofW (atF m (nodeF l n 0))).idx), ⟨by simp; omega, by
        rw [List.nodup_append]
        exact ⟨hnd, by simp, fun a ha b hb => by simp at hb; subst hb; exact fun e => h3' (e ▸ ha)⟩, fun x hx => by
        simp only [List.mem_append, List.mem_singleton] at hx
        rcases hx with hx | rfl
        · exact hall x hx
        · exact h2', (ofW_idx _).2, hE⟩, by simp only; omega, rfl, fun w' cl' own' => zX⟩
    · rw [if_neg (fun hh => hh.2.2 (of_decide_eq_true h3))] at hE
      refine go ?_
      refine mthen_exit (mthen_exit (mblock_exit (mthen_normal (mwp_awp fun w' cl' own' hi => ?_))))
      refine go ?_
      first | refine fin_ret rfl ?_ | refine fin_normal rfl ?_
      rw [← hE]
theorem chainF_len {nx : Int → Int} {N : Int} : ∀ (k : Nat) (acc : List Int) (n : Int), (chainF nx N k acc n).length ≤ acc.length + k
  | 0, acc, n => by simp [chainF]
  | k + 1, acc, n => by
    rw [chainF]
    split
    · have := chainF_len (nx := nx) (N := N) k (acc ++ [n]) (nx n)
      simp at this; omega
    · omega
theorem nodesF_len (l : LayT) (m : List Int) (h : Int) : (nodesF l m h).length ≤ l.nodes.toNat + 1 := by
  have := chainF_len (nx := fun n => (ofW (atF m (nodeF l n 0))).idx) (N := l.nodes) (l.nodes.toNat + 1) [] (ofW (atF m h)).idx
  simpa [nodesF] using this
theorem chainF_bound {nx : Int → Int} {N : Int} : ∀ (k : Nat) (acc : List Int) (n : Int), (∀ x ∈ acc, 1 ≤ x ∧ x ≤ N) → ∀ x ∈ chainF nx N k acc n, 1 ≤ x ∧ x ≤ N
  | 0, acc, n, h => by simpa [chainF] using h
  | k + 1, acc, n, h => by
    rw [chainF]
    split
    · rename_i hc
      exact chainF_bound k (acc ++ [n]) (nx n) (fun x hx => by
        simp only [List.mem_append, List.mem_singleton] at hx
        rcases hx with hx | rfl
        · exact h x hx
        · exact ⟨hc.1, hc.2.1⟩)
    · exact h
theorem nodesF_bound (l : LayT) (m : List Int) (h : Int) : ∀ x ∈ nodesF l m h, 1 ≤ x ∧ x ≤ l.nodes := chainF_bound _ _ _ (by simp)
def rowG (l : LayT) (m : List Int) (L : List Int) : List (Int × Int) := (L.filter fun n => !(ofW (atF m (nodeF l n 0))).mark).map fun n => (atF m (nodeF l n 1), atF m (nodeF l n 2))
theorem rowG_len (l : LayT) (m : List Int) (L : List Int) : (rowG l m L).length ≤ L.length := by unfold rowG; rw [List.length_map]; exact List.length_filter_le _ _
theorem rowG_snoc (l : LayT) (m : List Int) (L : List Int) (n : Int) : rowG l m (L ++ [n]) = if (ofW (atF m (nodeF l n 0))).mark = true then rowG l m L else rowG l m L ++ [(atF m (nodeF l n 1), atF m (nodeF l n 2))] := by
  unfold rowG
  rw [List.filter_append, List.map_append]
  split
  · rename_i h; simp [h]
  · rename_i h; simp [h]
set_option maxHeartbeats 4000000 in
theorem row_c (l : LayT) (hL : LayOk l) (m : List Int) (h : Int) : PureC Tryz.prog 26 [dLay l, dMem m, dI h] (dGone (rowF l m h)) := by
  have hbd := nodesF_bound l m h
  have hln := nodesF_len l m h
  have hC := nodes_c l hL m h
  have hE : rowF l m h = rowG l m (nodesF l m h) := rfl
  rw [hE]
  obtain ⟨hn0, hn1⟩ := hL.nodes
  generalize nodesF l m h = ns at *
  refine pure_fin tabOk Tryz.func26 rfl Tryz.ntmps26 rfl rfl rfl fun w cl => ?_
  refine go ?_
  refine a_q (call_step (hC) rfl (fun a w => Tryz.call62 a w) rfl) rfl rfl rfl ?_
  refine go ?_
  refine awp_ghost (tip_ghost 7 0 87 2 rfl rfl rfl) ?_
  refine awp_loop_ok (fun i : Nat => i ≤ ns.length) (fun i => ⟨[(15, dI i), (14, dI ns.length), (13, dInts ns), (7, .tip 0 (rowG l m (ns.take i)).length (pGone (rowG l m (ns.take i)))), (3, .ptr 0 0), (4, .ptr 1 0)], [(1, [dInts m]), (0, layD l)], [(0, ⟨87, 2, (rowG l m (ns.take i)).length⟩)]⟩) (fun i => ns.length - i) 0 (by omega) (zX) ?_
  intro i hi
  refine go ?_
  refine ck_b (fun h1 => ?_) (fun h1 => ?_) <;> try rw [h1]
  · have h1' := of_decide_eq_true h1
    obtain ⟨n, hn⟩ := getI (l := ns) (i := i) (by omega) h1'
    have hn' := hn
    simp only [Int.toNat_natCast] at hn'
    have hnb := hbd n (List.mem_of_getElem? hn')
    have hsn := rowG_snoc l m (ns.take i) n
    have hrl := rowG_len l m (ns.take i)
    rw [List.length_take] at hrl
    rw [show ns.take i ++ [n] = ns.take (i + 1) by rw [List.take_add_one, hn']; rfl] at hsn
    generalize rowG l m (ns.take i) = R at *
    refine go ?_
    refine a_q (indexAddr_step tabOk [pI n] rfl rfl rfl rfl rfl rfl (by first | omega | (simp; done) | (simp; omega)) (by first | omega | (simp; done) | (simp; omega)) (by first | (simp; done) | exact List.cons_ne_nil _ _) (ints_idx hn)) rfl rfl rfl ?_
    refine go ?_
    refine awp_region_q [] rfl (by kernel_rfl) (by kernel_rfl) ?_
    refine goQ ?_
    refine r_q (call_step (node_c l hL n 0 (by omega) (by omega)) rfl (fun a w => Tryz.call27 a w) rfl) rfl rfl ?_
    refine goQ ?_
    refine r_q (call_step (at_c m (nodeF l n 0)) rfl (fun a w => Tryz.call63 a w) rfl) rfl rfl ?_
    refine goQ ?_
    refine r_q (call_step (of_c (atF m (nodeF l n 0))) rfl (fun a w => Tryz.call28 a w) rfl) rfl rfl ?_
    refine goQ ?_
    refine go ?_
    generalize hmk : (ofW (atF m (nodeF l n 0))).mark = mk at *
    cases mk
    · rw [if_neg (by decide)] at hsn
      refine go ?_
      refine awp_region_q [] rfl (by kernel_rfl) (by kernel_rfl) ?_
      refine goQ ?_
      refine r_q (call_step (node_c l hL n 1 (by omega) (by omega)) rfl (fun a w => Tryz.call27 a w) rfl) rfl rfl ?_
      refine goQ ?_
      refine r_q (call_step (at_c m (nodeF l n 1)) rfl (fun a w => Tryz.call63 a w) rfl) rfl rfl ?_
      refine goQ ?_
      refine r_q (call_step (node_c l hL n 2 (by omega) (by omega)) rfl (fun a w => Tryz.call27 a w) rfl) rfl rfl ?_
      refine goQ ?_
      refine r_q (call_step (at_c m (nodeF l n 2)) rfl (fun a w => Tryz.call63 a w) rfl) rfl rfl ?_
      refine goQ ?_
      refine r_append tabOk rfl rfl rfl rfl rfl rfl rfl rfl rfl rfl rfl rfl rfl (by unfold maxLen; omega) (by show (_ + _) * 16 ≤ _; omega) ?_
      rw [show pGone R ++ [pI (atF m (nodeF l n 1)), pI (atF m (nodeF l n 2))] = pGone (R ++ [(atF m (nodeF l n 1), atF m (nodeF l n 2))]) by simp [pGone, pPair], show R.length + 1 = (R ++ [(atF m (nodeF l n 1), atF m (nodeF l n 2))]).length by simp, ← hsn]
      refine goQ ?_
      refine go ?_
      exact ⟨i + 1, by omega, by omega, zX⟩
    · rw [if_pos rfl] at hsn
      refine go ?_
      exact ⟨i + 1, by omega, by omega, by rw [hsn]; exact zX⟩
  · have h1' : i = ns.length := by have := of_decide_eq_false h1; omega
    rw [h1', List.take_length]
    refine go ?_
    first | refine fin_ret rfl ?_ | refine fin_normal rfl ?_
    rfl
end Go.Proofs.YtkkldicehapklaaGreat
