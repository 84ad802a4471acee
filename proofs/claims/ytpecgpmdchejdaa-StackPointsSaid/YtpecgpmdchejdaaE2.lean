/- Plays, their layouts, and the memory in the beginning: their walks. -/
import Derived.Test.YtpecgpmdchejdaaD21
import Derived.Test.YtpecgpmdchejdaaE1
import Derived.Test.YtpecgpmdchejdaaShort
namespace Go.Proofs.Ytpecgpmdchejdaa
open Go.RowKit
set_option maxRecDepth 100000

structure PlayT where
  nodes : Int
  want : List (List OpT)
  turns : List Int
def pOp (o : OpT) : List Pl := [pI o.kind, pI o.obj, pI o.a, pI o.b]
def pOps (l : List OpT) : List Pl := l.flatMap pOp
abbrev plOps (l : List OpT) : Pl := .sl false l.length (pOps l)
abbrev dWant (w : List (List OpT)) : Dt := .p (.sl false w.length (w.map plOps))
abbrev p8 (n : Int) : Pl := .raw (.int .u8 n)
abbrev dTurns (t : List Int) : Dt := .p (.sl false t.length (t.map p8))
abbrev playD (p : PlayT) : List Dt := [dK .u8 p.nodes, dWant p.want, dTurns p.turns]
abbrev dPlay (p : PlayT) : Dt := .agg (playD p)
def layP (p : PlayT) : LayT := layF p.want.length (1 + p.nodes % 8) 0 1 0
theorem layP_conf {p : PlayT} (h1 : 1 ≤ p.want.length) (h2 : p.want.length ≤ 8) : ConfOk p.want.length (1 + p.nodes % 8) 0 1 0 := by
  refine ⟨by omega, by omega, by omega, by omega, by omega⟩
theorem layP_ok {p : PlayT} (h1 : 1 ≤ p.want.length) (h2 : p.want.length ≤ 8) : LayOk (layP p) := layF_ok (layP_conf h1 h2)
theorem where_c (p : PlayT) (h1 : 1 ≤ p.want.length) (h2 : p.want.length ≤ 8) (h3 : 0 ≤ p.nodes) : PureC Try.prog 10 [dPlay p] (dLay (layP p)) := by
  refine pure_fin tabOk Try.func10 rfl Try.ntmps10 rfl rfl rfl fun w cl => ?_
  repeat (first | refine zA ?_ | refine zB ?_ | refine zC ?_ | refine zD ?_ | refine zE ?_ | refine zF ?_ | refine zG ?_ | refine zH ?_ | refine zI ?_ | refine zJ ?_ | refine zK ?_ | refine zL ?_ | refine zT ?_ | refine zU ?_ | refine zV ?_ | refine zW ?_ | refine zM ?_ | refine zN ?_ | refine zO ?_ | refine zP ?_ | refine zQ ?_ | refine zR ?_ | refine zS ?_ | refine a_q (conv_step tabOk rfl rfl rfl rfl (by omega) (by omega)) rfl rfl rfl ?_ | refine a_q (remk_step rfl rfl rfl (by omega) (by omega)) rfl rfl rfl ?_ | refine z0 ?_ | refine z1 ?_ | refine z2 ?_ | refine z3 ?_ | refine z4 ?_ | refine z5 ?_ | refine z6 ?_ | refine z7 ?_ | refine z8 ?_ | refine z9 ?_)
  refine a_q (call_step (layout_c (layP_conf h1 h2)) rfl (fun a w => Try.call29 a w) rfl) rfl rfl rfl ?_
  repeat (first | refine zA ?_ | refine zB ?_ | refine zC ?_ | refine zD ?_ | refine zE ?_ | refine zF ?_ | refine zG ?_ | refine zH ?_ | refine zI ?_ | refine zJ ?_ | refine zK ?_ | refine zL ?_ | refine zT ?_ | refine zU ?_ | refine zV ?_ | refine zW ?_ | refine zM ?_ | refine zN ?_ | refine zO ?_ | refine zP ?_ | refine zQ ?_ | refine zR ?_ | refine zS ?_ | refine z0 ?_ | refine z1 ?_ | refine z2 ?_ | refine z3 ?_ | refine z4 ?_ | refine z5 ?_ | refine z6 ?_ | refine z7 ?_ | refine z8 ?_ | refine z9 ?_)
  first | refine fin_ret rfl ?_ | refine fin_normal rfl ?_
  rfl
def initN (l : LayT) (N : Nat) : List AccT := (List.range N).map fun (i : Nat) => ⟨2, nodeF l ((i : Int) + 1) 7, 0, if (i : Int) + 1 = N then 0 else (i : Int) + 2⟩
def initF (l : LayT) : List AccT := initN l l.nodes.toNat ++ [⟨2, l.free, 0, 1⟩]
theorem pAccs_snoc (l : List AccT) (a : AccT) : pAccs l ++ [pI a.kind, pI a.cell, pI a.old, pI a.new] = pAccs (l ++ [a]) := by simp [pAccs, pAcc]
theorem pAccs_len (l : List AccT) : (pAccs l).length = l.length * 4 := by
  induction l with
  | nil => rfl
  | cons a l ih => unfold pAccs at ih ⊢; rw [List.flatMap_cons, List.length_append, ih]; simp [pAcc]; omega
theorem initN_len (l : LayT) (N : Nat) : (initN l N).length = N := by simp [initN]
theorem initN_take (l : LayT) (N i : Nat) (h : i < N) : (initN l N).take (i + 1) = (initN l N).take i ++ [⟨2, nodeF l ((i : Int) + 1) 7, 0, if (i : Int) + 1 = N then 0 else (i : Int) + 2⟩] := by
  rw [List.take_add_one]
  congr 1
  simp [initN, h]
set_option maxHeartbeats 4000000 in
theorem init_f (l : LayT) (hL : LayOk l) (h1 : 1 ≤ l.nodes) : FreshC Try.prog 37 [dLay l, dI 1] 48 4 (initF l).length (pAccs (initF l)) := by
  have e2 := hL.nodes
  obtain ⟨hn0, hn1⟩ := e2
  have hN : (l.nodes.toNat : Int) = l.nodes := by omega
  generalize hNN : l.nodes.toNat = N at hN
  refine fresh_fin (t := 4) Try.func37 rfl Try.ntmps37 rfl rfl rfl fun w cl => ?_
  repeat (first | refine zA ?_ | refine zB ?_ | refine zC ?_ | refine zD ?_ | refine zE ?_ | refine zF ?_ | refine zG ?_ | refine zH ?_ | refine zI ?_ | refine zJ ?_ | refine zK ?_ | refine zL ?_ | refine zT ?_ | refine zU ?_ | refine zV ?_ | refine zW ?_ | refine zM ?_ | refine zN ?_ | refine zO ?_ | refine zP ?_ | refine zQ ?_ | refine zR ?_ | refine zS ?_ | refine z0 ?_ | refine z1 ?_ | refine z2 ?_ | refine z3 ?_ | refine z4 ?_ | refine z5 ?_ | refine z6 ?_ | refine z7 ?_ | refine z8 ?_ | refine z9 ?_)
  refine a_q (max_step rfl rfl rfl) rfl rfl rfl ?_
  repeat (first | refine zA ?_ | refine zB ?_ | refine zC ?_ | refine zD ?_ | refine zE ?_ | refine zF ?_ | refine zG ?_ | refine zH ?_ | refine zI ?_ | refine zJ ?_ | refine zK ?_ | refine zL ?_ | refine zT ?_ | refine zU ?_ | refine zV ?_ | refine zW ?_ | refine zM ?_ | refine zN ?_ | refine zO ?_ | refine zP ?_ | refine zQ ?_ | refine zR ?_ | refine zS ?_ | refine z0 ?_ | refine z1 ?_ | refine z2 ?_ | refine z3 ?_ | refine z4 ?_ | refine z5 ?_ | refine z6 ?_ | refine z7 ?_ | refine z8 ?_ | refine z9 ?_)
  refine awp_ghost (tip_ghost 6 0 48 4 rfl rfl rfl) ?_
  refine awp_loop_ok (fun i : Nat => i ≤ N) (fun i => ⟨[(7, dI ((i : Int) + 1)), (6, .tip 0 i (pAccs ((initN l N).take i))), (5, dI (if i = 0 then 0 else 1)), (1, dI 1), (2, .ptr 0 0)], [(0, layD l)], [(0, ⟨48, 4, i⟩)]⟩) (fun i => N - i) 0 (by omega) (zX) ?_
  intro i hi
  repeat (first | refine zA ?_ | refine zB ?_ | refine zC ?_ | refine zD ?_ | refine zE ?_ | refine zF ?_ | refine zG ?_ | refine zH ?_ | refine zI ?_ | refine zJ ?_ | refine zK ?_ | refine zL ?_ | refine zT ?_ | refine zU ?_ | refine zV ?_ | refine zW ?_ | refine zM ?_ | refine zN ?_ | refine zO ?_ | refine zP ?_ | refine zQ ?_ | refine zR ?_ | refine zS ?_ | refine z0 ?_ | refine z1 ?_ | refine z2 ?_ | refine z3 ?_ | refine z4 ?_ | refine z5 ?_ | refine z6 ?_ | refine z7 ?_ | refine z8 ?_ | refine z9 ?_)
  refine ck_b (fun h2 => ?_) (fun h2 => ?_) <;> try rw [h2]
  · have h2' := of_decide_eq_true h2
    repeat (first | refine zA ?_ | refine zB ?_ | refine zC ?_ | refine zD ?_ | refine zE ?_ | refine zF ?_ | refine zG ?_ | refine zH ?_ | refine zI ?_ | refine zJ ?_ | refine zK ?_ | refine zL ?_ | refine zT ?_ | refine zU ?_ | refine zV ?_ | refine zW ?_ | refine zM ?_ | refine zN ?_ | refine zO ?_ | refine zP ?_ | refine zQ ?_ | refine zR ?_ | refine zS ?_ | refine z0 ?_ | refine z1 ?_ | refine z2 ?_ | refine z3 ?_ | refine z4 ?_ | refine z5 ?_ | refine z6 ?_ | refine z7 ?_ | refine z8 ?_ | refine z9 ?_)
    have key : ∀ nx : Int, nx = (if (i : Int) + 1 = N then 0 else (i : Int) + 2) → pAccs ((initN l N).take i) ++ [pI 2, pI (nodeF l ((i : Int) + 1) 7), pI 0, pI nx] = pAccs ((initN l N).take (i + 1)) := by
      intro nx hnx
      rw [initN_take l N i (by omega), ← pAccs_snoc, hnx]
    generalize h3 : decide ((i : Int) + 1 = l.nodes) = cc; cases cc
    · have h3' := of_decide_eq_false h3
      repeat (first | refine zA ?_ | refine zB ?_ | refine zC ?_ | refine zD ?_ | refine zE ?_ | refine zF ?_ | refine zG ?_ | refine zH ?_ | refine zI ?_ | refine zJ ?_ | refine zK ?_ | refine zL ?_ | refine zT ?_ | refine zU ?_ | refine zV ?_ | refine zW ?_ | refine zM ?_ | refine zN ?_ | refine zO ?_ | refine zP ?_ | refine zQ ?_ | refine zR ?_ | refine zS ?_ | refine z0 ?_ | refine z1 ?_ | refine z2 ?_ | refine z3 ?_ | refine z4 ?_ | refine z5 ?_ | refine z6 ?_ | refine z7 ?_ | refine z8 ?_ | refine z9 ?_)
      refine a_q (call_step (node_c l hL ((i : Int) + 1) 7 (by omega) (by omega)) rfl (fun a w => Try.call20 a w) rfl) rfl rfl rfl ?_
      repeat (first | refine zA ?_ | refine zB ?_ | refine zC ?_ | refine zD ?_ | refine zE ?_ | refine zF ?_ | refine zG ?_ | refine zH ?_ | refine zI ?_ | refine zJ ?_ | refine zK ?_ | refine zL ?_ | refine zT ?_ | refine zU ?_ | refine zV ?_ | refine zW ?_ | refine zM ?_ | refine zN ?_ | refine zO ?_ | refine zP ?_ | refine zQ ?_ | refine zR ?_ | refine zS ?_ | refine z0 ?_ | refine z1 ?_ | refine z2 ?_ | refine z3 ?_ | refine z4 ?_ | refine z5 ?_ | refine z6 ?_ | refine z7 ?_ | refine z8 ?_ | refine z9 ?_)
      refine a_append tabOk rfl rfl rfl rfl rfl rfl rfl rfl rfl rfl rfl rfl rfl (by unfold maxLen; omega) (by show (_ + _) * 32 ≤ _; omega) ?_
      rw [key _ (by rw [if_neg (by omega)]; omega)]
      repeat (first | refine zA ?_ | refine zB ?_ | refine zC ?_ | refine zD ?_ | refine zE ?_ | refine zF ?_ | refine zG ?_ | refine zH ?_ | refine zI ?_ | refine zJ ?_ | refine zK ?_ | refine zL ?_ | refine zT ?_ | refine zU ?_ | refine zV ?_ | refine zW ?_ | refine zM ?_ | refine zN ?_ | refine zO ?_ | refine zP ?_ | refine zQ ?_ | refine zR ?_ | refine zS ?_ | refine z0 ?_ | refine z1 ?_ | refine z2 ?_ | refine z3 ?_ | refine z4 ?_ | refine z5 ?_ | refine z6 ?_ | refine z7 ?_ | refine z8 ?_ | refine z9 ?_)
      exact ⟨i + 1, by omega, by omega, zX⟩
    · have h3' := of_decide_eq_true h3
      repeat (first | refine zA ?_ | refine zB ?_ | refine zC ?_ | refine zD ?_ | refine zE ?_ | refine zF ?_ | refine zG ?_ | refine zH ?_ | refine zI ?_ | refine zJ ?_ | refine zK ?_ | refine zL ?_ | refine zT ?_ | refine zU ?_ | refine zV ?_ | refine zW ?_ | refine zM ?_ | refine zN ?_ | refine zO ?_ | refine zP ?_ | refine zQ ?_ | refine zR ?_ | refine zS ?_ | refine z0 ?_ | refine z1 ?_ | refine z2 ?_ | refine z3 ?_ | refine z4 ?_ | refine z5 ?_ | refine z6 ?_ | refine z7 ?_ | refine z8 ?_ | refine z9 ?_)
      refine a_q (call_step (node_c l hL ((i : Int) + 1) 7 (by omega) (by omega)) rfl (fun a w => Try.call20 a w) rfl) rfl rfl rfl ?_
      repeat (first | refine zA ?_ | refine zB ?_ | refine zC ?_ | refine zD ?_ | refine zE ?_ | refine zF ?_ | refine zG ?_ | refine zH ?_ | refine zI ?_ | refine zJ ?_ | refine zK ?_ | refine zL ?_ | refine zT ?_ | refine zU ?_ | refine zV ?_ | refine zW ?_ | refine zM ?_ | refine zN ?_ | refine zO ?_ | refine zP ?_ | refine zQ ?_ | refine zR ?_ | refine zS ?_ | refine z0 ?_ | refine z1 ?_ | refine z2 ?_ | refine z3 ?_ | refine z4 ?_ | refine z5 ?_ | refine z6 ?_ | refine z7 ?_ | refine z8 ?_ | refine z9 ?_)
      refine a_append tabOk rfl rfl rfl rfl rfl rfl rfl rfl rfl rfl rfl rfl rfl (by unfold maxLen; omega) (by show (_ + _) * 32 ≤ _; omega) ?_
      rw [key _ (by rw [if_pos (by omega)])]
      repeat (first | refine zA ?_ | refine zB ?_ | refine zC ?_ | refine zD ?_ | refine zE ?_ | refine zF ?_ | refine zG ?_ | refine zH ?_ | refine zI ?_ | refine zJ ?_ | refine zK ?_ | refine zL ?_ | refine zT ?_ | refine zU ?_ | refine zV ?_ | refine zW ?_ | refine zM ?_ | refine zN ?_ | refine zO ?_ | refine zP ?_ | refine zQ ?_ | refine zR ?_ | refine zS ?_ | refine z0 ?_ | refine z1 ?_ | refine z2 ?_ | refine z3 ?_ | refine z4 ?_ | refine z5 ?_ | refine z6 ?_ | refine z7 ?_ | refine z8 ?_ | refine z9 ?_)
      exact ⟨i + 1, by omega, by omega, zX⟩
  · have h2' := of_decide_eq_false h2
    have hiN : i = N := by omega
    subst hiN
    repeat (first | refine zA ?_ | refine zB ?_ | refine zC ?_ | refine zD ?_ | refine zE ?_ | refine zF ?_ | refine zG ?_ | refine zH ?_ | refine zI ?_ | refine zJ ?_ | refine zK ?_ | refine zL ?_ | refine zT ?_ | refine zU ?_ | refine zV ?_ | refine zW ?_ | refine zM ?_ | refine zN ?_ | refine zO ?_ | refine zP ?_ | refine zQ ?_ | refine zR ?_ | refine zS ?_ | refine z0 ?_ | refine z1 ?_ | refine z2 ?_ | refine z3 ?_ | refine z4 ?_ | refine z5 ?_ | refine z6 ?_ | refine z7 ?_ | refine z8 ?_ | refine z9 ?_)
    rw [List.take_of_length_le (by rw [initN_len]; omega), if_neg (by omega : ¬ i = 0)]
    refine awp_region_q [] rfl (by kernel_rfl) (by kernel_rfl) ?_
    repeat (first | refine w0 ?_ | refine w1 ?_ | refine w2 ?_ | refine w3 ?_ | refine w4 ?_ | refine w5 ?_ | refine w6 ?_ | refine w7 ?_ | refine w8 ?_ | refine w9 ?_)
    refine r_q (call_step (pack_c ⟨1, false, 0⟩) rfl (fun a w => Try.call63 a w) rfl) rfl rfl ?_
    repeat (first | refine w0 ?_ | refine w1 ?_ | refine w2 ?_ | refine w3 ?_ | refine w4 ?_ | refine w5 ?_ | refine w6 ?_ | refine w7 ?_ | refine w8 ?_ | refine w9 ?_)
    refine r_append tabOk rfl rfl rfl rfl rfl rfl rfl rfl rfl rfl rfl rfl rfl (by unfold maxLen; omega) (by show (_ + _) * 32 ≤ _; omega) ?_
    repeat (first | refine w0 ?_ | refine w1 ?_ | refine w2 ?_ | refine w3 ?_ | refine w4 ?_ | refine w5 ?_ | refine w6 ?_ | refine w7 ?_ | refine w8 ?_ | refine w9 ?_)
    repeat (first | refine zA ?_ | refine zB ?_ | refine zC ?_ | refine zD ?_ | refine zE ?_ | refine zF ?_ | refine zG ?_ | refine zH ?_ | refine zI ?_ | refine zJ ?_ | refine zK ?_ | refine zL ?_ | refine zT ?_ | refine zU ?_ | refine zV ?_ | refine zW ?_ | refine zM ?_ | refine zN ?_ | refine zO ?_ | refine zP ?_ | refine zQ ?_ | refine zR ?_ | refine zS ?_ | refine z0 ?_ | refine z1 ?_ | refine z2 ?_ | refine z3 ?_ | refine z4 ?_ | refine z5 ?_ | refine z6 ?_ | refine z7 ?_ | refine z8 ?_ | refine z9 ?_)
    have hE : initF l = initN l i ++ [⟨2, l.free, 0, 1⟩] := by rw [initF, hNN]
    have hlen : (initF l).length = i + 1 := by rw [hE]; simp [initN_len]
    rw [hlen, hE, ← pAccs_snoc]
    exact finF_ret rfl rfl
/-- The memory in the beginning. -/
def beginA (l : LayT) : List AccT := initF l ++ [⟨2, l.era, 0, 1⟩]
def beginF (l : LayT) : List Int := (allG (List.replicate l.size.toNat 0) (List.replicate l.size.toNat 0) [] (beginA l)).1
set_option maxHeartbeats 4000000 in
theorem begin_c (l : LayT) (hL : LayOk l) (h1 : 1 ≤ l.nodes) (h2 : l.nodes ≤ 1000) (h3 : 1 ≤ l.size) (h4 : l.size ≤ 1000) : PureC Try.prog 18 [dLay l] (dMem (beginF l)) := by
  have hsz : ((l.size.toNat : Nat) : Int) = l.size := by omega
  have hlen : (initF l).length = l.nodes.toNat + 1 := by simp [initF, initN_len]
  have hbl : (beginA l).length = l.nodes.toNat + 2 := by simp [beginA, hlen]
  have hnew := memNew_c l.size.toNat (by omega)
  rw [hsz] at hnew
  have hall := memAll_c (List.replicate l.size.toNat 0) (beginA l) (by simp; omega) (by simp; omega) (by omega)
  have hba : pAccs (initF l) ++ [pI 2, pI l.era, pI 0, pI 1] = pAccs (beginA l) := pAccs_snoc (initF l) ⟨2, l.era, 0, 1⟩
  have hbl2 : (initF l).length + 1 = (beginA l).length := by omega
  refine pure_fin tabOk Try.func18 rfl Try.ntmps18 rfl rfl rfl fun w cl => ?_
  repeat (first | refine zA ?_ | refine zB ?_ | refine zC ?_ | refine zD ?_ | refine zE ?_ | refine zF ?_ | refine zG ?_ | refine zH ?_ | refine zI ?_ | refine zJ ?_ | refine zK ?_ | refine zL ?_ | refine zT ?_ | refine zU ?_ | refine zV ?_ | refine zW ?_ | refine zM ?_ | refine zN ?_ | refine zO ?_ | refine zP ?_ | refine zQ ?_ | refine zR ?_ | refine zS ?_ | refine z0 ?_ | refine z1 ?_ | refine z2 ?_ | refine z3 ?_ | refine z4 ?_ | refine z5 ?_ | refine z6 ?_ | refine z7 ?_ | refine z8 ?_ | refine z9 ?_)
  refine awp_region_q [] rfl (by kernel_rfl) (by kernel_rfl) ?_
  repeat (first | refine w0 ?_ | refine w1 ?_ | refine w2 ?_ | refine w3 ?_ | refine w4 ?_ | refine w5 ?_ | refine w6 ?_ | refine w7 ?_ | refine w8 ?_ | refine w9 ?_)
  refine r_callF 0 (init_f l hL h1) rfl (fun a w => Try.call37 a w) rfl rfl rfl rfl rfl (pAccs_len _) ?_
  repeat (first | refine w0 ?_ | refine w1 ?_ | refine w2 ?_ | refine w3 ?_ | refine w4 ?_ | refine w5 ?_ | refine w6 ?_ | refine w7 ?_ | refine w8 ?_ | refine w9 ?_)
  refine r_append tabOk rfl rfl rfl rfl rfl rfl rfl rfl rfl rfl rfl rfl rfl (by unfold maxLen; omega) (by show (_ + _) * 32 ≤ _; omega) ?_
  rw [hba, hbl2]
  repeat (first | refine w0 ?_ | refine w1 ?_ | refine w2 ?_ | refine w3 ?_ | refine w4 ?_ | refine w5 ?_ | refine w6 ?_ | refine w7 ?_ | refine w8 ?_ | refine w9 ?_)
  repeat (first | refine zA ?_ | refine zB ?_ | refine zC ?_ | refine zD ?_ | refine zE ?_ | refine zF ?_ | refine zG ?_ | refine zH ?_ | refine zI ?_ | refine zJ ?_ | refine zK ?_ | refine zL ?_ | refine zT ?_ | refine zU ?_ | refine zV ?_ | refine zW ?_ | refine zM ?_ | refine zN ?_ | refine zO ?_ | refine zP ?_ | refine zQ ?_ | refine zR ?_ | refine zS ?_ | refine z0 ?_ | refine z1 ?_ | refine z2 ?_ | refine z3 ?_ | refine z4 ?_ | refine z5 ?_ | refine z6 ?_ | refine z7 ?_ | refine z8 ?_ | refine z9 ?_)
  refine a_q (min_step rfl rfl rfl) rfl rfl rfl ?_
  rw [show (if (1000 : Int) < l.size then 1000 else l.size) = l.size by rw [if_neg (by omega)]]
  repeat (first | refine zA ?_ | refine zB ?_ | refine zC ?_ | refine zD ?_ | refine zE ?_ | refine zF ?_ | refine zG ?_ | refine zH ?_ | refine zI ?_ | refine zJ ?_ | refine zK ?_ | refine zL ?_ | refine zT ?_ | refine zU ?_ | refine zV ?_ | refine zW ?_ | refine zM ?_ | refine zN ?_ | refine zO ?_ | refine zP ?_ | refine zQ ?_ | refine zR ?_ | refine zS ?_ | refine z0 ?_ | refine z1 ?_ | refine z2 ?_ | refine z3 ?_ | refine z4 ?_ | refine z5 ?_ | refine z6 ?_ | refine z7 ?_ | refine z8 ?_ | refine z9 ?_)
  refine a_q (max_step rfl rfl rfl) rfl rfl rfl ?_
  rw [show (if l.size > 0 then l.size else 0) = l.size by rw [if_pos (by omega)]]
  repeat (first | refine zA ?_ | refine zB ?_ | refine zC ?_ | refine zD ?_ | refine zE ?_ | refine zF ?_ | refine zG ?_ | refine zH ?_ | refine zI ?_ | refine zJ ?_ | refine zK ?_ | refine zL ?_ | refine zT ?_ | refine zU ?_ | refine zV ?_ | refine zW ?_ | refine zM ?_ | refine zN ?_ | refine zO ?_ | refine zP ?_ | refine zQ ?_ | refine zR ?_ | refine zS ?_ | refine z0 ?_ | refine z1 ?_ | refine z2 ?_ | refine z3 ?_ | refine z4 ?_ | refine z5 ?_ | refine z6 ?_ | refine z7 ?_ | refine z8 ?_ | refine z9 ?_)
  refine a_q (call_step (hnew) rfl (fun a w => Try.call39 a w) rfl) rfl rfl rfl ?_
  repeat (first | refine zA ?_ | refine zB ?_ | refine zC ?_ | refine zD ?_ | refine zE ?_ | refine zF ?_ | refine zG ?_ | refine zH ?_ | refine zI ?_ | refine zJ ?_ | refine zK ?_ | refine zL ?_ | refine zT ?_ | refine zU ?_ | refine zV ?_ | refine zW ?_ | refine zM ?_ | refine zN ?_ | refine zO ?_ | refine zP ?_ | refine zQ ?_ | refine zR ?_ | refine zS ?_ | refine z0 ?_ | refine z1 ?_ | refine z2 ?_ | refine z3 ?_ | refine z4 ?_ | refine z5 ?_ | refine z6 ?_ | refine z7 ?_ | refine z8 ?_ | refine z9 ?_)
  refine a_q (call_step (hall) rfl (fun a w => Try.call38 a w) rfl) rfl rfl rfl ?_
  repeat (first | refine zA ?_ | refine zB ?_ | refine zC ?_ | refine zD ?_ | refine zE ?_ | refine zF ?_ | refine zG ?_ | refine zH ?_ | refine zI ?_ | refine zJ ?_ | refine zK ?_ | refine zL ?_ | refine zT ?_ | refine zU ?_ | refine zV ?_ | refine zW ?_ | refine zM ?_ | refine zN ?_ | refine zO ?_ | refine zP ?_ | refine zQ ?_ | refine zR ?_ | refine zS ?_ | refine z0 ?_ | refine z1 ?_ | refine z2 ?_ | refine z3 ?_ | refine z4 ?_ | refine z5 ?_ | refine z6 ?_ | refine z7 ?_ | refine z8 ?_ | refine z9 ?_)
  first | refine fin_ret rfl ?_ | refine fin_normal rfl ?_
  rfl
end Go.Proofs.Ytpecgpmdchejdaa
