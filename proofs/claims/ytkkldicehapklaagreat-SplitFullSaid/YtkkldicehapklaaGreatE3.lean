/- A list's nodes, and what it has: their walks. -/
import Derived.Test.YtkkldicehapklaaGreatD21
import Derived.Test.YtkkldicehapklaaGreatShort
import Derived.Test.YtkkldicehapklaaGreatPB
namespace Go.Proofs.YtkkldicehapklaaGreat
open Go.RowKit
set_option maxRecDepth 100000
theorem nodeF_pos {l : jN} (hL : qJ l) {n i : Int} (hi : 0 ≤ i ∧ i < 8) : 0 ≤ jQ l n i ↔ 1 ≤ n ∧ n ≤ l.nodes := by
 have h1 := hL.node.1
 unfold jQ yD
 split
 ·omega
 ·split <;> omega
structure IsIdx (n : Int) : Prop where
 lo : -9223372036854775808 ≤ n
 hi : n < 9223372036854775808
set_option maxHeartbeats 4000000 in
theorem nodes_c (l : jN) (hL : qJ l) (m : List Int) (h : Int) : kA Tryz.prog 62 [wO l, jM4 m, dI h] (kK (jG6 l m h)) := by
 generalize hE : jG6 l m h = E
 unfold jG6 at hE
 obtain ⟨hn0, hn1⟩ := hL.nodes
 refine jO jB Tryz.func62 rfl Tryz.ntmps62 rfl rfl rfl fun w cl => ?_
 refine jR7 ?_
 refine jO2 ?_
 refine goO ?_
 refine vJ ?_
 refine jR7 ?_
 refine jO2 ?_
 refine goO ?_
 refine vJ ?_
 refine kP (xX 7 0 3 1 rfl rfl rfl) ?_
 refine awp_map rfl rfl rfl rfl rfl rfl rfl rfl fun r => ?_
 refine kG8 (jX2 fun w' cl' own' hi => ?_)
 refine go ?_
 refine a_q (jA (at_c m h) rfl (fun a w => Tryz.call63 a w) rfl) rfl rfl rfl ?_
 refine go ?_
 refine a_q (jA (of_c (atF m h)) rfl (fun a w => Tryz.call28 a w) rfl) rfl rfl rfl ?_
 refine go ?_
 refine xM ?_
 refine kG8 (mwp_block ?_)
 generalize hn : (ofW (atF m h)).idx = n0 at hE
 have hn0' : n0 < 65536 := by rw [← hn]; exact (xT (atF m h)).2
 refine mwp_loop (fun p : Nat × List Int × Int => p.1 + p.2.1.length = l.nodes.toNat + 1 ∧ p.2.1.Nodup ∧ (∀ x ∈ p.2.1, 1 ≤ x ∧ x ≤ l.nodes) ∧ p.2.2 < 65536 ∧ xJ (fun n => (ofW (atF m (jQ l n 0))).idx) l.nodes p.1 p.2.1 p.2.2 = E) (fun p => ⟨[(8, .p (.raw (.map (some r)))), (9, dI p.2.2), (7, .tip 0 p.2.1.length (kD p.2.1)), (3, .ptr 0 0), (4, .ptr 1 0)], [(1, [kK m]), (0, xL l)], [(0, ⟨3, 1, p.2.1.length⟩)]⟩) (fun p => p.2.1) (fun p => p.1) (l.nodes.toNat + 1, [], n0) ⟨by simp, List.nodup_nil, by simp, hn0', hE⟩ rfl (fun w' cl' own' => zX) ?_
 rintro ⟨k, acc, n⟩ ⟨hk, hnd, hall, hnn, hE⟩
 simp only at hk hnd hall hnn hE
 have hlen := jP2 l.nodes.toNat acc hnd (fun x hx => by have := hall x hx; omega)
 obtain ⟨k, rfl⟩ : ∃ j, k = j + 1 := ⟨k - 1, by omega⟩
 rw [xJ] at hE
 refine (show MWP _ _ _ _ _ acc ⟨[(8, .p (.raw (.map (some r)))), (9, dI n), (7, .tip 0 acc.length (kD acc)), (3, .ptr 0 0), (4, .ptr 1 0)], [(1, [kK m]), (0, xL l)], [(0, ⟨3, 1, acc.length⟩)]⟩ from ?_)
 refine kG8 (jX2 fun w' cl' own' hi => ?_)
 refine go ?_
 refine a_q (jA (jD2 l hL n 0 (by omega) (by omega)) rfl (fun a w => Tryz.call27 a w) rfl) rfl rfl rfl ?_
 refine go ?_
 have hpos := nodeF_pos hL (n := n) (i := 0) (by omega)
 generalize h2 : decide (jQ l n 0 ≥ 0) = cc; cases cc
 ·have h2' := of_decide_eq_false h2
  rw [if_neg (fun hh => h2' (hpos.2 ⟨hh.1, hh.2.1⟩))] at hE
  refine go ?_
  refine jO8 (jO8 (kE7 (xM (jX2 fun w' cl' own' hi => ?_))))
  refine go ?_
  first | refine jF rfl ?_ | refine jC rfl ?_
  rw [← hE]
 ·have h2' := hpos.1 (of_decide_eq_true h2)
  refine go ?_
  refine a_lookup jB hi rfl Tryz.underlying147 Tryz.underlying3 rfl rfl rfl rfl rfl rfl rfl ?_
  refine go ?_
  generalize h3 : decide (n ∈ acc) = cc; cases cc
  ·have h3' := of_decide_eq_false h3
   rw [if_pos ⟨h2'.1, h2'.2, h3'⟩] at hE
   refine go ?_
   refine xM ?_
   refine mwp_block (kG8 (mwp_region ?_))
   refine m_ax jB rfl rfl rfl rfl ?_
   refine m_ax jB rfl rfl rfl rfl ?_
   refine m_update rfl rfl Tryz.underlying147 Tryz.underlying3 rfl rfl rfl rfl h3' ?_
   refine m_nil (xM (jX2 fun w' cl' own' hi => ?_))
   refine go ?_
   refine qF jB rfl rfl rfl rfl rfl rfl rfl rfl rfl rfl rfl rfl rfl (by unfold maxLen; omega) (by show (_ + _) * 8 ≤ _; omega) ?_
   rw [jC4, show acc.length + 1 = (acc ++ [n]).length by simp]
   refine go ?_
   refine jY [] rfl (by kernel_rfl) (by kernel_rfl) ?_
   refine goQ ?_
   refine r_q (jA (jD2 l hL n 0 (by omega) (by omega)) rfl (fun a w => Tryz.call27 a w) rfl) rfl rfl ?_
   refine goQ ?_
   refine r_q (jA (at_c m (jQ l n 0)) rfl (fun a w => Tryz.call63 a w) rfl) rfl rfl ?_
   refine goQ ?_
   refine r_q (jA (of_c (atF m (jQ l n 0))) rfl (fun a w => Tryz.call28 a w) rfl) rfl rfl ?_
   refine goQ ?_
   refine go ?_
   refine kN2 (xM ?_)
   exact ⟨(k, acc ++ [n], (ofW (atF m (jQ l n 0))).idx), ⟨by simp; omega, by
    rw [List.nodup_append]
    exact ⟨hnd, by simp, fun a ha b hb => by simp at hb; subst hb; exact fun e => h3' (e ▸ ha)⟩, fun x hx => by
    simp only [List.mem_append, List.mem_singleton] at hx
    rcases hx with hx | rfl
    ·exact hall x hx
    ·exact h2', (xT _).2, hE⟩, by simp only; omega, rfl, fun w' cl' own' => zX⟩
  ·rw [if_neg (fun hh => hh.2.2 (of_decide_eq_true h3))] at hE
   refine go ?_
   refine jO8 (jO8 (kE7 (xM (jX2 fun w' cl' own' hi => ?_))))
   refine go ?_
   first | refine jF rfl ?_ | refine jC rfl ?_
   rw [← hE]
theorem jU8 {nx : Int → Int} {N : Int} : ∀ (k : Nat) (acc : List Int) (n : Int), (xJ nx N k acc n).length ≤ acc.length + k
 | 0, acc, n => by simp [xJ]
 | k + 1, acc, n => by
  rw [xJ]
  split
  ·have := jU8 (nx := nx) (N := N) k (acc ++ [n]) (nx n)
   simp at this; omega
  ·omega
theorem nodesF_len (l : jN) (m : List Int) (h : Int) : (jG6 l m h).length ≤ l.nodes.toNat + 1 := by
 have := jU8 (nx := fun n => (ofW (atF m (jQ l n 0))).idx) (N := l.nodes) (l.nodes.toNat + 1) [] (ofW (atF m h)).idx
 simpa [jG6] using this
theorem jX6 {nx : Int → Int} {N : Int} : ∀ (k : Nat) (acc : List Int) (n : Int), (∀ x ∈ acc, 1 ≤ x ∧ x ≤ N) → ∀ x ∈ xJ nx N k acc n, 1 ≤ x ∧ x ≤ N
 | 0, acc, n, h => by simpa [xJ] using h
 | k + 1, acc, n, h => by
  rw [xJ]
  split
  ·rename_i hc
   exact jX6 k (acc ++ [n]) (nx n) (fun x hx => by
    simp only [List.mem_append, List.mem_singleton] at hx
    rcases hx with hx | rfl
    ·exact h x hx
    ·exact ⟨hc.1, hc.2.1⟩)
  ·exact h
theorem nodesF_bound (l : jN) (m : List Int) (h : Int) : ∀ x ∈ jG6 l m h, 1 ≤ x ∧ x ≤ l.nodes := jX6 _ _ _ (by simp)
def rowG (l : jN) (m : List Int) (L : List Int) : List (Int × Int) := (L.filter fun n => !(ofW (atF m (jQ l n 0))).mark).map fun n => (atF m (jQ l n 1), atF m (jQ l n 2))
theorem rowG_len (l : jN) (m : List Int) (L : List Int) : (rowG l m L).length ≤ L.length := by unfold rowG; rw [List.length_map]; exact List.length_filter_le _ _
theorem rowG_snoc (l : jN) (m : List Int) (L : List Int) (n : Int) : rowG l m (L ++ [n]) = if (ofW (atF m (jQ l n 0))).mark = true then rowG l m L else rowG l m L ++ [(atF m (jQ l n 1), atF m (jQ l n 2))] := by
 unfold rowG
 rw [List.filter_append, List.map_append]
 split
 ·rename_i h; simp [h]
 ·rename_i h; simp [h]
set_option maxHeartbeats 4000000 in
theorem row_c (l : jN) (hL : qJ l) (m : List Int) (h : Int) : kA Tryz.prog 26 [wO l, jM4 m, dI h] (vG (rowF l m h)) := by
 have hbd := nodesF_bound l m h
 have hln := nodesF_len l m h
 have hC := nodes_c l hL m h
 have hE : rowF l m h = rowG l m (jG6 l m h) := rfl
 rw [hE]
 obtain ⟨hn0, hn1⟩ := hL.nodes
 generalize jG6 l m h = ns at *
 refine jO jB Tryz.func26 rfl Tryz.ntmps26 rfl rfl rfl fun w cl => ?_
 refine go ?_
 refine a_q (jA (hC) rfl (fun a w => Tryz.call62 a w) rfl) rfl rfl rfl ?_
 refine go ?_
 refine kP (xX 7 0 87 2 rfl rfl rfl) ?_
 refine jP (fun i : Nat => i ≤ ns.length) (fun i => ⟨[(15, dI i), (14, dI ns.length), (13, kK ns), (7, .tip 0 (rowG l m (ns.take i)).length (vH (rowG l m (ns.take i)))), (3, .ptr 0 0), (4, .ptr 1 0)], [(1, [kK m]), (0, xL l)], [(0, ⟨87, 2, (rowG l m (ns.take i)).length⟩)]⟩) (fun i => ns.length - i) 0 (by omega) (zX) ?_
 intro i hi
 refine go ?_
 refine xQ (fun h1 => ?_) (fun h1 => ?_) <;> try rw [h1]
 ·have h1' := of_decide_eq_true h1
  obtain ⟨n, hn⟩ := getI (l := ns) (i := i) (by omega) h1'
  have hn' := hn
  simp only [Int.toNat_natCast] at hn'
  have hnb := hbd n (List.mem_of_getElem? hn')
  have hsn := rowG_snoc l m (ns.take i) n
  have hrl := rowG_len l m (ns.take i)
  rw [List.length_take] at hrl
  rw [show ns.take i ++ [n] = ns.take (i + 1) by rw [List.take_add_one, hn']; rfl] at hsn
  generalize rowG l m (ns.take i) = R at *
  refine go ?_
  refine a_q (jG jB [pI n] rfl rfl rfl rfl rfl rfl (by first | omega | (simp; done) | (simp; omega)) (by first | omega | (simp; done) | (simp; omega)) (by first | (simp; done) | exact List.cons_ne_nil _ _) (qE hn)) rfl rfl rfl ?_
  refine go ?_
  refine jY [] rfl (by kernel_rfl) (by kernel_rfl) ?_
  refine goQ ?_
  refine r_q (jA (jD2 l hL n 0 (by omega) (by omega)) rfl (fun a w => Tryz.call27 a w) rfl) rfl rfl ?_
  refine goQ ?_
  refine r_q (jA (at_c m (jQ l n 0)) rfl (fun a w => Tryz.call63 a w) rfl) rfl rfl ?_
  refine goQ ?_
  refine r_q (jA (of_c (atF m (jQ l n 0))) rfl (fun a w => Tryz.call28 a w) rfl) rfl rfl ?_
  refine goQ ?_
  refine go ?_
  generalize hmk : (ofW (atF m (jQ l n 0))).mark = mk at *
  cases mk
  ·rw [if_neg (by decide)] at hsn
   refine go ?_
   refine jY [] rfl (by kernel_rfl) (by kernel_rfl) ?_
   refine goQ ?_
   refine r_q (jA (jD2 l hL n 1 (by omega) (by omega)) rfl (fun a w => Tryz.call27 a w) rfl) rfl rfl ?_
   refine goQ ?_
   refine r_q (jA (at_c m (jQ l n 1)) rfl (fun a w => Tryz.call63 a w) rfl) rfl rfl ?_
   refine goQ ?_
   refine r_q (jA (jD2 l hL n 2 (by omega) (by omega)) rfl (fun a w => Tryz.call27 a w) rfl) rfl rfl ?_
   refine goQ ?_
   refine r_q (jA (at_c m (jQ l n 2)) rfl (fun a w => Tryz.call63 a w) rfl) rfl rfl ?_
   refine goQ ?_
   refine jL4 jB rfl rfl rfl rfl rfl rfl rfl rfl rfl rfl rfl rfl rfl (by unfold maxLen; omega) (by show (_ + _) * 16 ≤ _; omega) ?_
   rw [show vH R ++ [pI (atF m (jQ l n 1)), pI (atF m (jQ l n 2))] = vH (R ++ [(atF m (jQ l n 1), atF m (jQ l n 2))]) by simp [vH, pPair], show R.length + 1 = (R ++ [(atF m (jQ l n 1), atF m (jQ l n 2))]).length by simp, ← hsn]
   refine goQ ?_
   refine go ?_
   exact ⟨i + 1, by omega, by omega, zX⟩
  ·rw [if_pos rfl] at hsn
   refine go ?_
   exact ⟨i + 1, by omega, by omega, by rw [hsn]; exact zX⟩
 ·have h1' : i = ns.length := by have := of_decide_eq_false h1; omega
  rw [h1', List.take_length]
  refine go ?_
  first | refine jF rfl ?_ | refine jC rfl ?_
  rfl
end Go.Proofs.YtkkldicehapklaaGreat
