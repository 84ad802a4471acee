/- Layouts: what they are, and their walks. -/
import Derived.Test.YtpecgpmdchejdaaD1
namespace Go.Proofs.Ytpecgpmdchejdaa
open Go.RowKit
set_option maxRecDepth 100000

structure LayT where
  seats : Int
  nodes : Int
  buckets : Int
  slots : Int
  tasks : Int
  cells : Int
  maps : Int
  stacks : Int
  chans : Int
  done : Int
  count : Int
  era : Int
  free : Int
  alive : Int
  owner : Int
  resv : Int
  deque : Int
  ring : Int
  task : Int
  cell : Int
  map : Int
  stack : Int
  chan : Int
  node : Int
  size : Int
deriving DecidableEq
def smallB (n : Int) : Prop := 0 ≤ n ∧ n ≤ 1000000
structure LayOk (l : LayT) : Prop where
  seats : smallB l.seats
  nodes : smallB l.nodes
  slots : 0 ≤ l.slots ∧ l.slots ≤ 8
  stacks : smallB l.stacks
  era : smallB l.era
  free : smallB l.free
  resv : smallB l.resv
  stack : smallB l.stack
  node : smallB l.node
  size : smallB l.size
abbrev layD (l : LayT) : List Dt := [dI l.seats, dI l.nodes, dI l.buckets, dI l.slots, dI l.tasks, dI l.cells, dI l.maps, dI l.stacks, dI l.chans, dI l.done, dI l.count, dI l.era, dI l.free, dI l.alive, dI l.owner, dI l.resv, dI l.deque, dI l.ring, dI l.task, dI l.cell, dI l.map, dI l.stack, dI l.chan, dI l.node, dI l.size]
abbrev dLay (l : LayT) : Dt := .agg (layD l)
def withinF (first many each row i : Int) : Int := if row < 0 ∨ many ≤ row ∨ i < 0 ∨ each ≤ i then -1 else first + row * each + i
def nodeF (l : LayT) (n i : Int) : Int := if n < 1 then -1 else withinF l.node l.nodes 8 (n - 1) i
def resvF (l : LayT) (s i : Int) : Int := withinF l.resv l.seats 3 s i
def topF (l : LayT) (s : Int) : Int := withinF l.stack l.stacks (1 + l.slots) s 0

theorem within_c (first many each row i : Int) (h1 : smallB first) (h2 : smallB many) (h3 : 0 ≤ each ∧ each ≤ 1000) (h4 : i < 9223372036854775808) : PureC Try.prog 41 [dI first, dI many, dI each, dI row, dI i] (dI (withinF first many each row i)) := by
  obtain ⟨h1a, h1b⟩ := h1
  obtain ⟨h2a, h2b⟩ := h2
  refine pure_fin tabOk Try.func41 rfl Try.ntmps41 rfl rfl rfl fun w cl => ?_
  repeat (first | refine zA ?_ | refine zB ?_ | refine zC ?_ | refine zD ?_ | refine zE ?_ | refine zF ?_ | refine zG ?_ | refine zH ?_ | refine zI ?_ | refine zJ ?_ | refine zK ?_ | refine zL ?_ | refine zT ?_ | refine zU ?_ | refine zV ?_ | refine zW ?_ | refine zM ?_ | refine zN ?_ | refine zO ?_ | refine zP ?_ | refine zQ ?_ | refine zR ?_ | refine zS ?_ | refine z0 ?_ | refine z1 ?_ | refine z2 ?_ | refine z3 ?_ | refine z4 ?_ | refine z5 ?_ | refine z6 ?_ | refine z7 ?_ | refine z8 ?_ | refine z9 ?_)
  generalize k1 : decide (row < 0) = cc; cases cc
  · have k1' := of_decide_eq_false k1
    repeat (first | refine zA ?_ | refine zB ?_ | refine zC ?_ | refine zD ?_ | refine zE ?_ | refine zF ?_ | refine zG ?_ | refine zH ?_ | refine zI ?_ | refine zJ ?_ | refine zK ?_ | refine zL ?_ | refine zT ?_ | refine zU ?_ | refine zV ?_ | refine zW ?_ | refine zM ?_ | refine zN ?_ | refine zO ?_ | refine zP ?_ | refine zQ ?_ | refine zR ?_ | refine zS ?_ | refine z0 ?_ | refine z1 ?_ | refine z2 ?_ | refine z3 ?_ | refine z4 ?_ | refine z5 ?_ | refine z6 ?_ | refine z7 ?_ | refine z8 ?_ | refine z9 ?_)
    generalize k2 : decide (many ≤ row) = cc; cases cc
    · have k2' := of_decide_eq_false k2
      repeat (first | refine zA ?_ | refine zB ?_ | refine zC ?_ | refine zD ?_ | refine zE ?_ | refine zF ?_ | refine zG ?_ | refine zH ?_ | refine zI ?_ | refine zJ ?_ | refine zK ?_ | refine zL ?_ | refine zT ?_ | refine zU ?_ | refine zV ?_ | refine zW ?_ | refine zM ?_ | refine zN ?_ | refine zO ?_ | refine zP ?_ | refine zQ ?_ | refine zR ?_ | refine zS ?_ | refine z0 ?_ | refine z1 ?_ | refine z2 ?_ | refine z3 ?_ | refine z4 ?_ | refine z5 ?_ | refine z6 ?_ | refine z7 ?_ | refine z8 ?_ | refine z9 ?_)
      generalize k3 : decide (i < 0) = cc; cases cc
      · have k3' := of_decide_eq_false k3
        repeat (first | refine zA ?_ | refine zB ?_ | refine zC ?_ | refine zD ?_ | refine zE ?_ | refine zF ?_ | refine zG ?_ | refine zH ?_ | refine zI ?_ | refine zJ ?_ | refine zK ?_ | refine zL ?_ | refine zT ?_ | refine zU ?_ | refine zV ?_ | refine zW ?_ | refine zM ?_ | refine zN ?_ | refine zO ?_ | refine zP ?_ | refine zQ ?_ | refine zR ?_ | refine zS ?_ | refine z0 ?_ | refine z1 ?_ | refine z2 ?_ | refine z3 ?_ | refine z4 ?_ | refine z5 ?_ | refine z6 ?_ | refine z7 ?_ | refine z8 ?_ | refine z9 ?_)
        generalize k4 : decide (each ≤ i) = cc; cases cc
        · have k4' := of_decide_eq_false k4
          have hm1 : 0 ≤ row * each := Int.mul_nonneg (by omega) (by omega)
          have hm2 : row * each ≤ 1000000 * 1000 := Int.mul_le_mul (by omega) (by omega) (by omega) (by omega)
          have ew : IntKind.i64.wrap (row * each) = row * each := wrap_id (by omega) (by omega)
          repeat (first | refine zA ?_ | refine zB ?_ | refine zC ?_ | refine zD ?_ | refine zE ?_ | refine zF ?_ | refine zG ?_ | refine zH ?_ | refine zI ?_ | refine zJ ?_ | refine zK ?_ | refine zL ?_ | refine zT ?_ | refine zU ?_ | refine zV ?_ | refine zW ?_ | refine zM ?_ | refine zN ?_ | refine zO ?_ | refine zP ?_ | refine zQ ?_ | refine zR ?_ | refine zS ?_ | refine z0 ?_ | refine z1 ?_ | refine z2 ?_ | refine z3 ?_ | refine z4 ?_ | refine z5 ?_ | refine z6 ?_ | refine z7 ?_ | refine z8 ?_ | refine z9 ?_)
          rw [ew]
          repeat (first | refine zA ?_ | refine zB ?_ | refine zC ?_ | refine zD ?_ | refine zE ?_ | refine zF ?_ | refine zG ?_ | refine zH ?_ | refine zI ?_ | refine zJ ?_ | refine zK ?_ | refine zL ?_ | refine zT ?_ | refine zU ?_ | refine zV ?_ | refine zW ?_ | refine zM ?_ | refine zN ?_ | refine zO ?_ | refine zP ?_ | refine zQ ?_ | refine zR ?_ | refine zS ?_ | refine z0 ?_ | refine z1 ?_ | refine z2 ?_ | refine z3 ?_ | refine z4 ?_ | refine z5 ?_ | refine z6 ?_ | refine z7 ?_ | refine z8 ?_ | refine z9 ?_)
          first | refine fin_ret rfl ?_ | refine fin_normal rfl ?_
          rw [withinF, if_neg (by omega)]
        · repeat (first | refine zA ?_ | refine zB ?_ | refine zC ?_ | refine zD ?_ | refine zE ?_ | refine zF ?_ | refine zG ?_ | refine zH ?_ | refine zI ?_ | refine zJ ?_ | refine zK ?_ | refine zL ?_ | refine zT ?_ | refine zU ?_ | refine zV ?_ | refine zW ?_ | refine zM ?_ | refine zN ?_ | refine zO ?_ | refine zP ?_ | refine zQ ?_ | refine zR ?_ | refine zS ?_ | refine z0 ?_ | refine z1 ?_ | refine z2 ?_ | refine z3 ?_ | refine z4 ?_ | refine z5 ?_ | refine z6 ?_ | refine z7 ?_ | refine z8 ?_ | refine z9 ?_)
          first | refine fin_ret rfl ?_ | refine fin_normal rfl ?_
          rw [withinF, if_pos (by have := of_decide_eq_true k4; omega)]
      · repeat (first | refine zA ?_ | refine zB ?_ | refine zC ?_ | refine zD ?_ | refine zE ?_ | refine zF ?_ | refine zG ?_ | refine zH ?_ | refine zI ?_ | refine zJ ?_ | refine zK ?_ | refine zL ?_ | refine zT ?_ | refine zU ?_ | refine zV ?_ | refine zW ?_ | refine zM ?_ | refine zN ?_ | refine zO ?_ | refine zP ?_ | refine zQ ?_ | refine zR ?_ | refine zS ?_ | refine z0 ?_ | refine z1 ?_ | refine z2 ?_ | refine z3 ?_ | refine z4 ?_ | refine z5 ?_ | refine z6 ?_ | refine z7 ?_ | refine z8 ?_ | refine z9 ?_)
        first | refine fin_ret rfl ?_ | refine fin_normal rfl ?_
        rw [withinF, if_pos (by have := of_decide_eq_true k3; omega)]
    · repeat (first | refine zA ?_ | refine zB ?_ | refine zC ?_ | refine zD ?_ | refine zE ?_ | refine zF ?_ | refine zG ?_ | refine zH ?_ | refine zI ?_ | refine zJ ?_ | refine zK ?_ | refine zL ?_ | refine zT ?_ | refine zU ?_ | refine zV ?_ | refine zW ?_ | refine zM ?_ | refine zN ?_ | refine zO ?_ | refine zP ?_ | refine zQ ?_ | refine zR ?_ | refine zS ?_ | refine z0 ?_ | refine z1 ?_ | refine z2 ?_ | refine z3 ?_ | refine z4 ?_ | refine z5 ?_ | refine z6 ?_ | refine z7 ?_ | refine z8 ?_ | refine z9 ?_)
      first | refine fin_ret rfl ?_ | refine fin_normal rfl ?_
      rw [withinF, if_pos (by have := of_decide_eq_true k2; omega)]
  · repeat (first | refine zA ?_ | refine zB ?_ | refine zC ?_ | refine zD ?_ | refine zE ?_ | refine zF ?_ | refine zG ?_ | refine zH ?_ | refine zI ?_ | refine zJ ?_ | refine zK ?_ | refine zL ?_ | refine zT ?_ | refine zU ?_ | refine zV ?_ | refine zW ?_ | refine zM ?_ | refine zN ?_ | refine zO ?_ | refine zP ?_ | refine zQ ?_ | refine zR ?_ | refine zS ?_ | refine z0 ?_ | refine z1 ?_ | refine z2 ?_ | refine z3 ?_ | refine z4 ?_ | refine z5 ?_ | refine z6 ?_ | refine z7 ?_ | refine z8 ?_ | refine z9 ?_)
    first | refine fin_ret rfl ?_ | refine fin_normal rfl ?_
    rw [withinF, if_pos (by have := of_decide_eq_true k1; omega)]
theorem node_c (l : LayT) (hl : LayOk l) (n i : Int) (hn : n < 9223372036854775808) (hi : i < 9223372036854775808) : PureC Try.prog 20 [dLay l, dI n, dI i] (dI (nodeF l n i)) := by
  have e1 := hl.node
  have e2 := hl.nodes
  refine pure_fin tabOk Try.func20 rfl Try.ntmps20 rfl rfl rfl fun w cl => ?_
  repeat (first | refine zA ?_ | refine zB ?_ | refine zC ?_ | refine zD ?_ | refine zE ?_ | refine zF ?_ | refine zG ?_ | refine zH ?_ | refine zI ?_ | refine zJ ?_ | refine zK ?_ | refine zL ?_ | refine zT ?_ | refine zU ?_ | refine zV ?_ | refine zW ?_ | refine zM ?_ | refine zN ?_ | refine zO ?_ | refine zP ?_ | refine zQ ?_ | refine zR ?_ | refine zS ?_ | refine z0 ?_ | refine z1 ?_ | refine z2 ?_ | refine z3 ?_ | refine z4 ?_ | refine z5 ?_ | refine z6 ?_ | refine z7 ?_ | refine z8 ?_ | refine z9 ?_)
  generalize k1 : decide (n < 1) = cc; cases cc
  · have k1' := of_decide_eq_false k1
    repeat (first | refine zA ?_ | refine zB ?_ | refine zC ?_ | refine zD ?_ | refine zE ?_ | refine zF ?_ | refine zG ?_ | refine zH ?_ | refine zI ?_ | refine zJ ?_ | refine zK ?_ | refine zL ?_ | refine zT ?_ | refine zU ?_ | refine zV ?_ | refine zW ?_ | refine zM ?_ | refine zN ?_ | refine zO ?_ | refine zP ?_ | refine zQ ?_ | refine zR ?_ | refine zS ?_ | refine z0 ?_ | refine z1 ?_ | refine z2 ?_ | refine z3 ?_ | refine z4 ?_ | refine z5 ?_ | refine z6 ?_ | refine z7 ?_ | refine z8 ?_ | refine z9 ?_)
    refine a_q (call_step (within_c l.node l.nodes 8 (n - 1) i e1 e2 (by omega) hi) rfl (fun a w => Try.call41 a w) rfl) rfl rfl rfl ?_
    repeat (first | refine zA ?_ | refine zB ?_ | refine zC ?_ | refine zD ?_ | refine zE ?_ | refine zF ?_ | refine zG ?_ | refine zH ?_ | refine zI ?_ | refine zJ ?_ | refine zK ?_ | refine zL ?_ | refine zT ?_ | refine zU ?_ | refine zV ?_ | refine zW ?_ | refine zM ?_ | refine zN ?_ | refine zO ?_ | refine zP ?_ | refine zQ ?_ | refine zR ?_ | refine zS ?_ | refine z0 ?_ | refine z1 ?_ | refine z2 ?_ | refine z3 ?_ | refine z4 ?_ | refine z5 ?_ | refine z6 ?_ | refine z7 ?_ | refine z8 ?_ | refine z9 ?_)
    first | refine fin_ret rfl ?_ | refine fin_normal rfl ?_
    rw [nodeF, if_neg k1']
  · repeat (first | refine zA ?_ | refine zB ?_ | refine zC ?_ | refine zD ?_ | refine zE ?_ | refine zF ?_ | refine zG ?_ | refine zH ?_ | refine zI ?_ | refine zJ ?_ | refine zK ?_ | refine zL ?_ | refine zT ?_ | refine zU ?_ | refine zV ?_ | refine zW ?_ | refine zM ?_ | refine zN ?_ | refine zO ?_ | refine zP ?_ | refine zQ ?_ | refine zR ?_ | refine zS ?_ | refine z0 ?_ | refine z1 ?_ | refine z2 ?_ | refine z3 ?_ | refine z4 ?_ | refine z5 ?_ | refine z6 ?_ | refine z7 ?_ | refine z8 ?_ | refine z9 ?_)
    first | refine fin_ret rfl ?_ | refine fin_normal rfl ?_
    rw [nodeF, if_pos (of_decide_eq_true k1)]
theorem resv_c (l : LayT) (hl : LayOk l) (s i : Int) (hi : i < 9223372036854775808) : PureC Try.prog 23 [dLay l, dI s, dI i] (dI (resvF l s i)) := by
  refine pure_fin tabOk Try.func23 rfl Try.ntmps23 rfl rfl rfl fun w cl => ?_
  repeat (first | refine zA ?_ | refine zB ?_ | refine zC ?_ | refine zD ?_ | refine zE ?_ | refine zF ?_ | refine zG ?_ | refine zH ?_ | refine zI ?_ | refine zJ ?_ | refine zK ?_ | refine zL ?_ | refine zT ?_ | refine zU ?_ | refine zV ?_ | refine zW ?_ | refine zM ?_ | refine zN ?_ | refine zO ?_ | refine zP ?_ | refine zQ ?_ | refine zR ?_ | refine zS ?_ | refine z0 ?_ | refine z1 ?_ | refine z2 ?_ | refine z3 ?_ | refine z4 ?_ | refine z5 ?_ | refine z6 ?_ | refine z7 ?_ | refine z8 ?_ | refine z9 ?_)
  refine a_q (call_step (within_c l.resv l.seats 3 s i hl.resv hl.seats (by omega) hi) rfl (fun a w => Try.call41 a w) rfl) rfl rfl rfl ?_
  repeat (first | refine zA ?_ | refine zB ?_ | refine zC ?_ | refine zD ?_ | refine zE ?_ | refine zF ?_ | refine zG ?_ | refine zH ?_ | refine zI ?_ | refine zJ ?_ | refine zK ?_ | refine zL ?_ | refine zT ?_ | refine zU ?_ | refine zV ?_ | refine zW ?_ | refine zM ?_ | refine zN ?_ | refine zO ?_ | refine zP ?_ | refine zQ ?_ | refine zR ?_ | refine zS ?_ | refine z0 ?_ | refine z1 ?_ | refine z2 ?_ | refine z3 ?_ | refine z4 ?_ | refine z5 ?_ | refine z6 ?_ | refine z7 ?_ | refine z8 ?_ | refine z9 ?_)
  first | refine fin_ret rfl ?_ | refine fin_normal rfl ?_
  rfl
theorem top_c (l : LayT) (hl : LayOk l) (s : Int) : PureC Try.prog 24 [dLay l, dI s] (dI (topF l s)) := by
  have hs := hl.slots
  refine pure_fin tabOk Try.func24 rfl Try.ntmps24 rfl rfl rfl fun w cl => ?_
  repeat (first | refine zA ?_ | refine zB ?_ | refine zC ?_ | refine zD ?_ | refine zE ?_ | refine zF ?_ | refine zG ?_ | refine zH ?_ | refine zI ?_ | refine zJ ?_ | refine zK ?_ | refine zL ?_ | refine zT ?_ | refine zU ?_ | refine zV ?_ | refine zW ?_ | refine zM ?_ | refine zN ?_ | refine zO ?_ | refine zP ?_ | refine zQ ?_ | refine zR ?_ | refine zS ?_ | refine z0 ?_ | refine z1 ?_ | refine z2 ?_ | refine z3 ?_ | refine z4 ?_ | refine z5 ?_ | refine z6 ?_ | refine z7 ?_ | refine z8 ?_ | refine z9 ?_)
  refine a_q (call_step (within_c l.stack l.stacks (1 + l.slots) s 0 hl.stack hl.stacks (by omega) (by omega)) rfl (fun a w => Try.call41 a w) rfl) rfl rfl rfl ?_
  repeat (first | refine zA ?_ | refine zB ?_ | refine zC ?_ | refine zD ?_ | refine zE ?_ | refine zF ?_ | refine zG ?_ | refine zH ?_ | refine zI ?_ | refine zJ ?_ | refine zK ?_ | refine zL ?_ | refine zT ?_ | refine zU ?_ | refine zV ?_ | refine zW ?_ | refine zM ?_ | refine zN ?_ | refine zO ?_ | refine zP ?_ | refine zQ ?_ | refine zR ?_ | refine zS ?_ | refine z0 ?_ | refine z1 ?_ | refine z2 ?_ | refine z3 ?_ | refine z4 ?_ | refine z5 ?_ | refine z6 ?_ | refine z7 ?_ | refine z8 ?_ | refine z9 ?_)
  first | refine fin_ret rfl ?_ | refine fin_normal rfl ?_
  rfl

/-! ### Programs of accesses under way -/
structure AccT where
  kind : Int
  cell : Int
  old : Int
  new : Int
deriving DecidableEq
structure ResT where
  val : Int
  ok : Bool
deriving DecidableEq
/-- Where a program is: how many accesses were made, what the seat has retired, its reservations' eras. -/
structure PsT where
  made : Nat
  gone : List (Int × Int)
  e0 : Int
  e1 : Int
  e2 : Int
deriving DecidableEq
def pPair (p : Int × Int) : List Pl := [pI p.1, pI p.2]
def pGone (l : List (Int × Int)) : List Pl := l.flatMap pPair
abbrev plGone (l : List (Int × Int)) : Pl := .sl false l.length (pGone l)
abbrev dGone (l : List (Int × Int)) : Dt := .p (plGone l)
def pRes (r : ResT) : List Pl := [pI r.val, pB r.ok]
def pLog (l : List ResT) : List Pl := l.flatMap pRes
abbrev dLog (l : List ResT) : Dt := .p (.sl false l.length (pLog l))
abbrev dRes (r : ResT) : Dt := .agg [dI r.val, dB r.ok]
abbrev dAcc (a : AccT) : Dt := .agg [dI a.kind, dI a.cell, dI a.old, dI a.new]
abbrev pieceP (l : LayT) (me : Int) (s : PsT) : List Pl := [pI l.seats, pI l.nodes, pI l.buckets, pI l.slots, pI l.tasks, pI l.cells, pI l.maps, pI l.stacks, pI l.chans, pI l.done, pI l.count, pI l.era, pI l.free, pI l.alive, pI l.owner, pI l.resv, pI l.deque, pI l.ring, pI l.task, pI l.cell, pI l.map, pI l.stack, pI l.chan, pI l.node, pI l.size, pI me, plGone s.gone, pI s.made, pI s.e0, pI s.e1, pI s.e2]
abbrev pieceD (l : LayT) (me : Int) (s : PsT) : List Dt := [dI l.seats, dI l.nodes, dI l.buckets, dI l.slots, dI l.tasks, dI l.cells, dI l.maps, dI l.stacks, dI l.chans, dI l.done, dI l.count, dI l.era, dI l.free, dI l.alive, dI l.owner, dI l.resv, dI l.deque, dI l.ring, dI l.task, dI l.cell, dI l.map, dI l.stack, dI l.chan, dI l.node, dI l.size, dI me, dGone s.gone, dI s.made, dI s.e0, dI s.e1, dI s.e2, .fn (.func 73) [] [.ptr 12 0, .ptr 13 0]]
/-- The variables of a program under way: the piece (11), what names it (12), and the log (13). -/
abbrev pieceB (l : LayT) (me : Int) (log : List ResT) (s : PsT) : Bxs := [(11, pieceD l me s), (12, [.ptr 11 0]), (13, [dLog log])]
theorem pnode_c (l : LayT) (hl : LayOk l) (me : Int) (s : PsT) (n i : Int) (hn : n < 9223372036854775808) (hi : i < 9223372036854775808) : PureC Try.prog 77 [.el (pieceP l me s), dI n, dI i] (dI (nodeF l n i)) := by
  refine pure_fin tabOk Try.func77 rfl Try.ntmps77 rfl rfl rfl fun w cl => ?_
  repeat (first | refine zA ?_ | refine zB ?_ | refine zC ?_ | refine zD ?_ | refine zE ?_ | refine zF ?_ | refine zG ?_ | refine zH ?_ | refine zI ?_ | refine zJ ?_ | refine zK ?_ | refine zL ?_ | refine zT ?_ | refine zU ?_ | refine zV ?_ | refine zW ?_ | refine zM ?_ | refine zN ?_ | refine zO ?_ | refine zP ?_ | refine zQ ?_ | refine zR ?_ | refine zS ?_ | refine z0 ?_ | refine z1 ?_ | refine z2 ?_ | refine z3 ?_ | refine z4 ?_ | refine z5 ?_ | refine z6 ?_ | refine z7 ?_ | refine z8 ?_ | refine z9 ?_)
  refine a_q (call_step (node_c l hl n i hn hi) rfl (fun a w => Try.call20 a w) rfl) rfl rfl rfl ?_
  repeat (first | refine zA ?_ | refine zB ?_ | refine zC ?_ | refine zD ?_ | refine zE ?_ | refine zF ?_ | refine zG ?_ | refine zH ?_ | refine zI ?_ | refine zJ ?_ | refine zK ?_ | refine zL ?_ | refine zT ?_ | refine zU ?_ | refine zV ?_ | refine zW ?_ | refine zM ?_ | refine zN ?_ | refine zO ?_ | refine zP ?_ | refine zQ ?_ | refine zR ?_ | refine zS ?_ | refine z0 ?_ | refine z1 ?_ | refine z2 ?_ | refine z3 ?_ | refine z4 ?_ | refine z5 ?_ | refine z6 ?_ | refine z7 ?_ | refine z8 ?_ | refine z9 ?_)
  first | refine fin_ret rfl ?_ | refine fin_normal rfl ?_
  rfl
theorem plast_c (l : LayT) (me : Int) (s : PsT) (h : (s.made : Int) < 9223372036854775807) : PureC Try.prog 81 [.el (pieceP l me s)] (dI ((s.made : Int) - 1)) := by
  refine pure_fin tabOk Try.func81 rfl Try.ntmps81 rfl rfl rfl fun w cl => ?_
  repeat (first | refine zA ?_ | refine zB ?_ | refine zC ?_ | refine zD ?_ | refine zE ?_ | refine zF ?_ | refine zG ?_ | refine zH ?_ | refine zI ?_ | refine zJ ?_ | refine zK ?_ | refine zL ?_ | refine zT ?_ | refine zU ?_ | refine zV ?_ | refine zW ?_ | refine zM ?_ | refine zN ?_ | refine zO ?_ | refine zP ?_ | refine zQ ?_ | refine zR ?_ | refine zS ?_ | refine z0 ?_ | refine z1 ?_ | refine z2 ?_ | refine z3 ?_ | refine z4 ?_ | refine z5 ?_ | refine z6 ?_ | refine z7 ?_ | refine z8 ?_ | refine z9 ?_)
  first | refine fin_ret rfl ?_ | refine fin_normal rfl ?_
  rfl
end Go.Proofs.Ytpecgpmdchejdaa
