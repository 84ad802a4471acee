/- Plays, their layouts, and the memory in the beginning: their walks. -/
import Derived.Test.YtefagncaepallaaD21
import Derived.Test.YtefagncaepallaaE1
import Derived.Test.YtefagncaepallaaShort
import Derived.Test.YtefagncaepallaaPB
namespace Go.Proofs.Ytefagncaepallaa
open Go.RowKit
set_option maxRecDepth 100000

def pOp (o : OpT) : List Pl := [pI o.kind, pI o.obj, pI o.a, pI o.b]
def pOps (l : List OpT) : List Pl := l.flatMap pOp
abbrev plOps (l : List OpT) : Pl := .sl false l.length (pOps l)
abbrev dWant (w : List (List OpT)) : Dt := .p (.sl false w.length (w.map plOps))
abbrev p8 (n : Int) : Pl := .raw (.int .u8 n)
abbrev dTurns (t : List Int) : Dt := .p (.sl false t.length (t.map p8))
abbrev playD (p : PlayT) : List Dt := [dK .u8 p.nodes, dWant p.want, dTurns p.turns]
abbrev dPlay (p : PlayT) : Dt := .agg (playD p)
theorem layP_conf {p : PlayT} (h1 : 1 ≤ p.want.length) (h2 : p.want.length ≤ 8) : ConfOk p.want.length (2 + p.nodes % 8) 1 0 0 := by
  refine ⟨by omega, by omega, by omega, by omega, by omega⟩
theorem layP_ok {p : PlayT} (h1 : 1 ≤ p.want.length) (h2 : p.want.length ≤ 8) : LayOk (layP p) := layF_ok (layP_conf h1 h2)
theorem where_c (p : PlayT) (h1 : 1 ≤ p.want.length) (h2 : p.want.length ≤ 8) (h3 : 0 ≤ p.nodes) : PureC Try.prog 10 [dPlay p] (dLay (layP p)) := by
  refine pure_fin tabOk Try.func10 rfl Try.ntmps10 rfl rfl rfl fun w cl => ?_
  refine goK ?_
  refine a_q (call_step (layout_c (layP_conf h1 h2)) rfl (fun a w => Try.call26 a w) rfl) rfl rfl rfl ?_
  refine go ?_
  first | refine fin_ret rfl ?_ | refine fin_normal rfl ?_
  rfl
theorem pAccs_snoc (l : List AccT) (a : AccT) : pAccs l ++ [pI a.kind, pI a.cell, pI a.old, pI a.new] = pAccs (l ++ [a]) := by simp [pAccs, pAcc]
theorem pAccs_len (l : List AccT) : (pAccs l).length = l.length * 4 := by
  induction l with
  | nil => rfl
  | cons a l ih => unfold pAccs at ih ⊢; rw [List.flatMap_cons, List.length_append, ih]; simp [pAcc]; omega
theorem initN_len (l : LayT) (a k : Nat) : (initN l a k).length = k := by simp [initN]
theorem initN_take (l : LayT) (a k i : Nat) (h : i < k) : (initN l a k).take (i + 1) = (initN l a k).take i ++ [⟨2, nodeF l ((a : Int) + i) 7, 0, if (a : Int) + i = l.nodes then 0 else (a : Int) + i + 1⟩] := by
  rw [List.take_add_one]
  congr 1
  simp [initN, h]
set_option maxHeartbeats 4000000 in
theorem init_f (l : LayT) (hL : LayOk l) (h1 : 2 ≤ l.nodes) : FreshC Try.prog 27 [dLay l, dI 1] 45 4 (initF l 1).length (pAccs (initF l 1)) := by
  have e2 := hL.nodes
  obtain ⟨hn0, hn1⟩ := e2
  have hN : ((l.nodes.toNat + 1 - 1 : Nat) : Int) = l.nodes := by omega
  generalize hNN : l.nodes.toNat + 1 - 1 = N at hN
  refine fresh_fin (t := 4) Try.func27 rfl Try.ntmps27 rfl rfl rfl fun w cl => ?_
  refine go ?_
  refine a_q (max_step rfl rfl rfl) rfl rfl rfl ?_
  refine go ?_
  refine awp_ghost (tip_ghost 6 0 45 4 rfl rfl rfl) ?_
  refine awp_loop_ok (fun i : Nat => i ≤ N) (fun i => ⟨[(7, dI ((1 : Int) + i)), (6, .tip 0 i (pAccs ((initN l 1 N).take i))), (5, dI (if i = 0 then 0 else 1)), (1, dI 1), (2, .ptr 0 0)], [(0, layD l)], [(0, ⟨45, 4, i⟩)]⟩) (fun i => N - i) 0 (by omega) (zX) ?_
  intro i hi
  refine go ?_
  refine ck_b (fun h2 => ?_) (fun h2 => ?_) <;> try rw [h2]
  · have h2' := of_decide_eq_true h2
    refine go ?_
    have key : ∀ nx : Int, nx = (if (1 : Int) + i = l.nodes then 0 else (1 : Int) + i + 1) → pAccs ((initN l 1 N).take i) ++ [pI 2, pI (nodeF l ((1 : Int) + i) 7), pI 0, pI nx] = pAccs ((initN l 1 N).take (i + 1)) := by
      intro nx hnx
      rw [initN_take l 1 N i (by omega), ← pAccs_snoc, hnx]
      rfl
    generalize h3 : decide ((1 : Int) + i = l.nodes) = cc; cases cc
    · have h3' := of_decide_eq_false h3
      refine go ?_
      refine a_q (call_step (node_c l hL ((1 : Int) + i) 7 (by omega) (by omega)) rfl (fun a w => Try.call16 a w) rfl) rfl rfl rfl ?_
      refine go ?_
      refine a_append tabOk rfl rfl rfl rfl rfl rfl rfl rfl rfl rfl rfl rfl rfl (by unfold maxLen; omega) (by show (_ + _) * 32 ≤ _; omega) ?_
      rw [key _ (by rw [if_neg (by omega)])]
      refine go ?_
      rw [show (1 : Int) + i + 1 = (1 : Int) + ((i + 1 : Nat) : Int) by omega]
      exact ⟨i + 1, by omega, by omega, zX⟩
    · have h3' := of_decide_eq_true h3
      refine go ?_
      refine a_q (call_step (node_c l hL ((1 : Int) + i) 7 (by omega) (by omega)) rfl (fun a w => Try.call16 a w) rfl) rfl rfl rfl ?_
      refine go ?_
      refine a_append tabOk rfl rfl rfl rfl rfl rfl rfl rfl rfl rfl rfl rfl rfl (by unfold maxLen; omega) (by show (_ + _) * 32 ≤ _; omega) ?_
      rw [key _ (by rw [if_pos (by omega)])]
      refine go ?_
      rw [show (1 : Int) + i + 1 = (1 : Int) + ((i + 1 : Nat) : Int) by omega]
      exact ⟨i + 1, by omega, by omega, zX⟩
  · have h2' := of_decide_eq_false h2
    have hiN : i = N := by omega
    subst hiN
    refine go ?_
    rw [List.take_of_length_le (by rw [initN_len]; omega), if_neg (by omega : ¬ i = 0)]
    refine awp_region_q [] rfl (by kernel_rfl) (by kernel_rfl) ?_
    refine goQ ?_
    refine r_q (call_step (pack_c ⟨1, false, 0⟩) rfl (fun a w => Try.call53 a w) rfl) rfl rfl ?_
    refine goQ ?_
    refine r_append tabOk rfl rfl rfl rfl rfl rfl rfl rfl rfl rfl rfl rfl rfl (by unfold maxLen; omega) (by show (_ + _) * 32 ≤ _; omega) ?_
    refine goQ ?_
    refine go ?_
    have hE : initF l 1 = initN l 1 i ++ [⟨2, l.free, 0, 1⟩] := by unfold initF; rw [hNN]; rfl
    have hlen : (initF l 1).length = i + 1 := by rw [hE]; simp [initN_len]
    rw [hlen, hE, ← pAccs_snoc]
    exact finF_ret rfl rfl
/-- The memory in the beginning. -/
theorem initF_len (l : LayT) (h : 2 ≤ l.nodes) : (initF l 1).length = l.nodes.toNat + 1 := by
  unfold initF
  rw [List.length_append, initN_len]
  simp only [List.length_cons, List.length_nil]
  omega
theorem beginA_len (l : LayT) (h : 2 ≤ l.nodes) : (beginA l).length ≤ l.nodes.toNat + 9 := by
  have h1 := initF_len l h
  unfold beginA
  rw [List.length_append]
  simp only [List.length_cons, List.length_nil]
  omega
set_option maxHeartbeats 4000000 in
theorem begin_c (l : LayT) (hL : LayOk l) (h1 : 2 ≤ l.nodes) (h2 : l.nodes ≤ 1000) (h3 : 1 ≤ l.size) (h4 : l.size ≤ 1000) : PureC Try.prog 12 [dLay l] (dMem (beginF l)) := by
  have hsz : ((l.size.toNat : Nat) : Int) = l.size := by omega
  have hlen := initF_len l h1
  have hbl := beginA_len l h1
  have hnew := memNew_c l.size.toNat (by omega)
  rw [hsz] at hnew
  have hall := memAll_c (List.replicate l.size.toNat 0) (beginA l) (by simp; omega) (by simp; omega) (by omega)
  have hba : pAccs (initF l 1) ++ [pI 2, pI l.era, pI 0, pI 1] = pAccs (beginA l) := pAccs_snoc (initF l 1) ⟨2, l.era, 0, 1⟩
  have hbl2 : (initF l 1).length + 1 = (beginA l).length := by unfold beginA; simp only [List.length_append, List.length_cons, List.length_nil]
  refine pure_fin tabOk Try.func12 rfl Try.ntmps12 rfl rfl rfl fun w cl => ?_
  refine go ?_
  refine awp_region_q [] rfl (by kernel_rfl) (by kernel_rfl) ?_
  refine goQ ?_
  refine r_callF 0 (init_f l hL h1) rfl (fun a w => Try.call27 a w) rfl rfl rfl rfl rfl (pAccs_len _) ?_
  refine goQ ?_
  refine r_append tabOk rfl rfl rfl rfl rfl rfl rfl rfl rfl rfl rfl rfl rfl (by unfold maxLen; omega) (by show (_ + _) * 32 ≤ _; omega) ?_
  rw [hba, hbl2]
  refine goQ ?_
  refine go ?_
  refine a_q (min_step rfl rfl rfl) rfl rfl rfl ?_
  rw [show (if (1000 : Int) < l.size then 1000 else l.size) = l.size by rw [if_neg (by omega)]]
  refine go ?_
  refine a_q (max_step rfl rfl rfl) rfl rfl rfl ?_
  rw [show (if l.size > 0 then l.size else 0) = l.size by rw [if_pos (by omega)]]
  refine go ?_
  refine a_q (call_step (hnew) rfl (fun a w => Try.call29 a w) rfl) rfl rfl rfl ?_
  refine go ?_
  refine a_q (call_step (hall) rfl (fun a w => Try.call28 a w) rfl) rfl rfl rfl ?_
  refine go ?_
  first | refine fin_ret rfl ?_ | refine fin_normal rfl ?_
  rfl
end Go.Proofs.Ytefagncaepallaa
