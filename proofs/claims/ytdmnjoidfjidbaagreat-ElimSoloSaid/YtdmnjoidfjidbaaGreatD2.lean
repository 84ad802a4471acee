/- Layouts: what they are, and their walks. -/
import Derived.Test.YtdmnjoidfjidbaaGreatD1
namespace Go.Proofs.YtdmnjoidfjidbaaGreat
open Go.RowKit
set_option maxRecDepth 100000

abbrev layD (l : LayT) : List Dt := [dI l.seats, dI l.nodes, dI l.buckets, dI l.slots, dI l.tasks, dI l.cells, dI l.maps, dI l.stacks, dI l.chans, dI l.done, dI l.count, dI l.era, dI l.free, dI l.alive, dI l.owner, dI l.resv, dI l.deque, dI l.ring, dI l.task, dI l.cell, dI l.map, dI l.stack, dI l.chan, dI l.node, dI l.size]
abbrev dLay (l : LayT) : Dt := .agg (layD l)
theorem within_c (first many each row i : Int) (h1 : smallB first) (h2 : smallB many) (h3 : 0 ≤ each ∧ each ≤ 1000) (h4 : i < 9223372036854775808) : PureC Tryz.prog 60 [dI first, dI many, dI each, dI row, dI i] (dI (withinF first many each row i)) := by
  obtain ⟨h1a, h1b⟩ := h1
  obtain ⟨h2a, h2b⟩ := h2
  refine pure_fin tabOk Tryz.func60 rfl Tryz.ntmps60 rfl rfl rfl fun w cl => ?_
  refine go ?_
  generalize k1 : decide (row < 0) = cc; cases cc
  · have k1' := of_decide_eq_false k1
    refine go ?_
    generalize k2 : decide (many ≤ row) = cc; cases cc
    · have k2' := of_decide_eq_false k2
      refine go ?_
      generalize k3 : decide (i < 0) = cc; cases cc
      · have k3' := of_decide_eq_false k3
        refine go ?_
        generalize k4 : decide (each ≤ i) = cc; cases cc
        · have k4' := of_decide_eq_false k4
          have hm1 : 0 ≤ row * each := Int.mul_nonneg (by omega) (by omega)
          have hm2 : row * each ≤ 1000000 * 1000 := Int.mul_le_mul (by omega) (by omega) (by omega) (by omega)
          have ew : IntKind.i64.wrap (row * each) = row * each := wrap_id (by omega) (by omega)
          refine go ?_
          rw [ew]
          refine go ?_
          first | refine fin_ret rfl ?_ | refine fin_normal rfl ?_
          rw [withinF, if_neg (by omega)]
        · refine go ?_
          first | refine fin_ret rfl ?_ | refine fin_normal rfl ?_
          rw [withinF, if_pos (by have := of_decide_eq_true k4; omega)]
      · refine go ?_
        first | refine fin_ret rfl ?_ | refine fin_normal rfl ?_
        rw [withinF, if_pos (by have := of_decide_eq_true k3; omega)]
    · refine go ?_
      first | refine fin_ret rfl ?_ | refine fin_normal rfl ?_
      rw [withinF, if_pos (by have := of_decide_eq_true k2; omega)]
  · refine go ?_
    first | refine fin_ret rfl ?_ | refine fin_normal rfl ?_
    rw [withinF, if_pos (by have := of_decide_eq_true k1; omega)]
theorem node_c (l : LayT) (hl : LayOk l) (n i : Int) (hn : n < 9223372036854775808) (hi : i < 9223372036854775808) : PureC Tryz.prog 42 [dLay l, dI n, dI i] (dI (nodeF l n i)) := by
  have e1 := hl.node
  have e2 := hl.nodes
  refine pure_fin tabOk Tryz.func42 rfl Tryz.ntmps42 rfl rfl rfl fun w cl => ?_
  refine go ?_
  generalize k1 : decide (n < 1) = cc; cases cc
  · have k1' := of_decide_eq_false k1
    refine go ?_
    refine a_q (call_step (within_c l.node l.nodes 8 (n - 1) i e1 e2 (by omega) hi) rfl (fun a w => Tryz.call60 a w) rfl) rfl rfl rfl ?_
    refine go ?_
    first | refine fin_ret rfl ?_ | refine fin_normal rfl ?_
    rw [nodeF, if_neg k1']
  · refine go ?_
    first | refine fin_ret rfl ?_ | refine fin_normal rfl ?_
    rw [nodeF, if_pos (of_decide_eq_true k1)]
theorem resv_c (l : LayT) (hl : LayOk l) (s i : Int) (hi : i < 9223372036854775808) : PureC Tryz.prog 99 [dLay l, dI s, dI i] (dI (resvF l s i)) := by
  refine pure_fin tabOk Tryz.func99 rfl Tryz.ntmps99 rfl rfl rfl fun w cl => ?_
  refine go ?_
  refine a_q (call_step (within_c l.resv l.seats 3 s i hl.resv hl.seats (by omega) hi) rfl (fun a w => Tryz.call60 a w) rfl) rfl rfl rfl ?_
  refine go ?_
  first | refine fin_ret rfl ?_ | refine fin_normal rfl ?_
  rfl
/-! ### Programs of accesses under way -/
def pPair (p : Int × Int) : List Pl := [pI p.1, pI p.2]
def pGone (l : List (Int × Int)) : List Pl := l.flatMap pPair
abbrev plGone (l : List (Int × Int)) : Pl := .sl false l.length (pGone l)
abbrev dGone (l : List (Int × Int)) : Dt := .p (plGone l)
def pRes (r : ResT) : List Pl := [pI r.val, pB r.ok]
def pLog (l : List ResT) : List Pl := l.flatMap pRes
abbrev dLog (l : List ResT) : Dt := .p (.sl false l.length (pLog l))
abbrev dRes (r : ResT) : Dt := .agg [dI r.val, dB r.ok]
abbrev dAcc (a : AccT) : Dt := .agg [dI a.kind, dI a.cell, dI a.old, dI a.new]
abbrev pieceP (l : LayT) (me : Int) (s : PsT) : List Pl := [pI l.seats, pI l.nodes, pI l.buckets, pI l.slots, pI l.tasks, pI l.cells, pI l.maps, pI l.stacks, pI l.chans, pI l.done, pI l.count, pI l.era, pI l.free, pI l.alive, pI l.owner, pI l.resv, pI l.deque, pI l.ring, pI l.task, pI l.cell, pI l.map, pI l.stack, pI l.chan, pI l.node, pI l.size, pI me, plGone s.gone, pI s.made, pI s.e0, pI s.e1, pI s.e2]
abbrev pieceD (l : LayT) (me : Int) (s : PsT) : List Dt := [dI l.seats, dI l.nodes, dI l.buckets, dI l.slots, dI l.tasks, dI l.cells, dI l.maps, dI l.stacks, dI l.chans, dI l.done, dI l.count, dI l.era, dI l.free, dI l.alive, dI l.owner, dI l.resv, dI l.deque, dI l.ring, dI l.task, dI l.cell, dI l.map, dI l.stack, dI l.chan, dI l.node, dI l.size, dI me, dGone s.gone, dI s.made, dI s.e0, dI s.e1, dI s.e2, .fn (.func 77) [] [.ptr 12 0, .ptr 13 0]]
abbrev pieceB (l : LayT) (me : Int) (log : List ResT) (s : PsT) : Bxs := [(11, pieceD l me s), (12, [.ptr 11 0]), (13, [dLog log])]
theorem pnode_c (l : LayT) (hl : LayOk l) (me : Int) (s : PsT) (n i : Int) (hn : n < 9223372036854775808) (hi : i < 9223372036854775808) : PureC Tryz.prog 81 [.el (pieceP l me s), dI n, dI i] (dI (nodeF l n i)) := by
  refine pure_fin tabOk Tryz.func81 rfl Tryz.ntmps81 rfl rfl rfl fun w cl => ?_
  refine go ?_
  refine a_q (call_step (node_c l hl n i hn hi) rfl (fun a w => Tryz.call42 a w) rfl) rfl rfl rfl ?_
  refine go ?_
  first | refine fin_ret rfl ?_ | refine fin_normal rfl ?_
  rfl
theorem plast_c (l : LayT) (me : Int) (s : PsT) (h : (s.made : Int) < 9223372036854775807) : PureC Tryz.prog 83 [.el (pieceP l me s)] (dI ((s.made : Int) - 1)) := by
  refine pure_fin tabOk Tryz.func83 rfl Tryz.ntmps83 rfl rfl rfl fun w cl => ?_
  refine go ?_
  first | refine fin_ret rfl ?_ | refine fin_normal rfl ?_
  rfl
end Go.Proofs.YtdmnjoidfjidbaaGreat
