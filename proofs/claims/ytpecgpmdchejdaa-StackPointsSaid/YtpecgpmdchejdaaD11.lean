/- What a program under way is begun with, and the programs of pushes and pops: their walks. -/
import Derived.Test.YtpecgpmdchejdaaD10
namespace Go.Proofs.Ytpecgpmdchejdaa
open Go.RowKit
set_option maxRecDepth 100000

structure OpT where
  kind : Int
  obj : Int
  a : Int
  b : Int
deriving DecidableEq
abbrev opD (o : OpT) : List Dt := [dI o.kind, dI o.obj, dI o.a, dI o.b]
abbrev dOp (o : OpT) : Dt := .agg (opD o)
/-- The variables of an operation's program: the piece's, what names it (14), its cell (15), and the operation (16). -/
abbrev nextB (l : LayT) (me : Int) (log : List ResT) (top : Int) (op : OpT) (s : PsT) : Bxs := [(11, pieceD l me s), (12, [.ptr 11 0]), (13, [dLog log]), (14, [.ptr 11 0]), (15, [dI top]), (16, opD op)]
def NxR {α : Type} (l : LayT) (me : Int) (log : List ResT) (top : Int) (op : OpT) (m : Except AccT (α × PsT)) (enc : α → Dt) : Dt → Bxs → Prop := fun d bs => ∃ x s', m = .ok (x, s') ∧ d = enc x ∧ bs = nextB l me log top op s'
def NxX {α : Type} (l : LayT) (me : Int) (log : List ResT) (top : Int) (op : OpT) (m : Except AccT (α × PsT)) : Value → Bxs → Prop := fun v bs => ∃ a s', m = .error a ∧ v = askedV a ∧ bs = nextB l me log top op s'
theorem next1_x (l : LayT) (hL : LayOk l) (me : Int) (log : List ResT) (s : PsT) (top : Int) (op : OpT) (hm : s.made ≤ log.length) (hl : log.length ≤ 1000000) : ImpX Try.prog 59 [11, 12, 13, 14, 15, 16] [.ptr 14 0, .ptr 15 0, .ptr 16 0] (nextB l me log top op s) (NxR l me log top op (pushM l top op.a log s) dOut0) (NxX l me log top op (pushM l top op.a log s)) := by
  refine impX_fin tabOk Try.func59 rfl Try.ntmps59 rfl rfl rfl (by (repeat (first | exact trivial | refine ⟨rfl, ?_⟩))) fun w cl own kf => ?_
  repeat (first | refine zA ?_ | refine zB ?_ | refine zC ?_ | refine zD ?_ | refine zE ?_ | refine zF ?_ | refine zG ?_ | refine zH ?_ | refine zI ?_ | refine zJ ?_ | refine zK ?_ | refine zL ?_ | refine zT ?_ | refine zU ?_ | refine zV ?_ | refine zW ?_ | refine zM ?_ | refine zN ?_ | refine zO ?_ | refine zP ?_ | refine zQ ?_ | refine zR ?_ | refine zS ?_ | refine z0 ?_ | refine z1 ?_ | refine z2 ?_ | refine z3 ?_ | refine z4 ?_ | refine z5 ?_ | refine z6 ?_ | refine z7 ?_ | refine z8 ?_ | refine z9 ?_)
  refine a_callX (push_x l hL me log s top op.a hm hl) rfl (fun a w => Try.call60 a w) rfl rfl (by (repeat (first | exact trivial | refine ⟨⟨rfl, rfl⟩, ?_⟩))) (by (repeat (first | exact trivial | refine ⟨.inr rfl, ?_⟩ | refine ⟨.inl rfl, ?_⟩))) rfl rfl rfl rfl ?_ ?_ ?_ ?_
  · rintro d bs ⟨x, s', _, _, _, rfl, rfl⟩; exact ⟨.inl rfl, .inl rfl, .inl rfl, trivial⟩
  · rintro v bs ⟨a, s', _, rfl, rfl⟩; exact ⟨.inl rfl, .inl rfl, .inl rfl, trivial⟩
  · rintro v bs ⟨a, s', h, rfl, rfl⟩
    repeat (first | refine q_then_panic ?_ | refine q_block_panic ?_ | refine q_scope_panic ?_)
    refine finX_panic (nextB l me log top op s') (by (repeat (first | exact trivial | refine ⟨⟨rfl, rfl⟩, ?_⟩))) (by (repeat (first | exact trivial | refine ⟨rfl, ?_⟩))) ?_
    exact ⟨a, s', h, rfl, rfl⟩
  rintro d bs ⟨x, s', h, hle, hlen, rfl, rfl⟩
  repeat (first | refine zA ?_ | refine zB ?_ | refine zC ?_ | refine zD ?_ | refine zE ?_ | refine zF ?_ | refine zG ?_ | refine zH ?_ | refine zI ?_ | refine zJ ?_ | refine zK ?_ | refine zL ?_ | refine zT ?_ | refine zU ?_ | refine zV ?_ | refine zW ?_ | refine zM ?_ | refine zN ?_ | refine zO ?_ | refine zP ?_ | refine zQ ?_ | refine zR ?_ | refine zS ?_ | refine z0 ?_ | refine z1 ?_ | refine z2 ?_ | refine z3 ?_ | refine z4 ?_ | refine z5 ?_ | refine z6 ?_ | refine z7 ?_ | refine z8 ?_ | refine z9 ?_)
  first | refine finX_ret (nextB l me log top op s') rfl rfl (by (repeat (first | exact trivial | refine ⟨⟨rfl, rfl⟩, ?_⟩))) (by (repeat (first | exact trivial | refine ⟨rfl, ?_⟩))) ?_ | refine finX_normal (nextB l me log top op s') rfl rfl (by (repeat (first | exact trivial | refine ⟨⟨rfl, rfl⟩, ?_⟩))) (by (repeat (first | exact trivial | refine ⟨rfl, ?_⟩))) ?_
  exact ⟨x, s', h, rfl, rfl⟩
theorem next2_x (l : LayT) (hL : LayOk l) (me : Int) (log : List ResT) (s : PsT) (top : Int) (op : OpT) (hgo : GoneOk s.gone) (hgl : s.gone.length ≤ 10000) (hm : s.made ≤ log.length) (hl : log.length ≤ 1000000) : ImpX Try.prog 61 [11, 12, 13, 14, 15, 16] [.ptr 14 0, .ptr 15 0] (nextB l me log top op s) (NxR l me log top op (popM l me top log s) dOut0) (NxX l me log top op (popM l me top log s)) := by
  refine impX_fin tabOk Try.func61 rfl Try.ntmps61 rfl rfl rfl (by (repeat (first | exact trivial | refine ⟨rfl, ?_⟩))) fun w cl own kf => ?_
  repeat (first | refine zA ?_ | refine zB ?_ | refine zC ?_ | refine zD ?_ | refine zE ?_ | refine zF ?_ | refine zG ?_ | refine zH ?_ | refine zI ?_ | refine zJ ?_ | refine zK ?_ | refine zL ?_ | refine zT ?_ | refine zU ?_ | refine zV ?_ | refine zW ?_ | refine zM ?_ | refine zN ?_ | refine zO ?_ | refine zP ?_ | refine zQ ?_ | refine zR ?_ | refine zS ?_ | refine z0 ?_ | refine z1 ?_ | refine z2 ?_ | refine z3 ?_ | refine z4 ?_ | refine z5 ?_ | refine z6 ?_ | refine z7 ?_ | refine z8 ?_ | refine z9 ?_)
  refine a_callX (pop_x l hL me log s top hgo hgl hm hl) rfl (fun a w => Try.call62 a w) rfl rfl (by (repeat (first | exact trivial | refine ⟨⟨rfl, rfl⟩, ?_⟩))) (by (repeat (first | exact trivial | refine ⟨.inr rfl, ?_⟩ | refine ⟨.inl rfl, ?_⟩))) rfl rfl rfl rfl ?_ ?_ ?_ ?_
  · rintro d bs ⟨x, s', _, _, _, rfl, rfl⟩; exact ⟨.inl rfl, .inl rfl, .inl rfl, trivial⟩
  · rintro v bs ⟨a, s', _, rfl, rfl⟩; exact ⟨.inl rfl, .inl rfl, .inl rfl, trivial⟩
  · rintro v bs ⟨a, s', h, rfl, rfl⟩
    repeat (first | refine q_then_panic ?_ | refine q_block_panic ?_ | refine q_scope_panic ?_)
    refine finX_panic (nextB l me log top op s') (by (repeat (first | exact trivial | refine ⟨⟨rfl, rfl⟩, ?_⟩))) (by (repeat (first | exact trivial | refine ⟨rfl, ?_⟩))) ?_
    exact ⟨a, s', h, rfl, rfl⟩
  rintro d bs ⟨x, s', h, hle, hlen, rfl, rfl⟩
  repeat (first | refine zA ?_ | refine zB ?_ | refine zC ?_ | refine zD ?_ | refine zE ?_ | refine zF ?_ | refine zG ?_ | refine zH ?_ | refine zI ?_ | refine zJ ?_ | refine zK ?_ | refine zL ?_ | refine zT ?_ | refine zU ?_ | refine zV ?_ | refine zW ?_ | refine zM ?_ | refine zN ?_ | refine zO ?_ | refine zP ?_ | refine zQ ?_ | refine zR ?_ | refine zS ?_ | refine z0 ?_ | refine z1 ?_ | refine z2 ?_ | refine z3 ?_ | refine z4 ?_ | refine z5 ?_ | refine z6 ?_ | refine z7 ?_ | refine z8 ?_ | refine z9 ?_)
  first | refine finX_ret (nextB l me log top op s') rfl rfl (by (repeat (first | exact trivial | refine ⟨⟨rfl, rfl⟩, ?_⟩))) (by (repeat (first | exact trivial | refine ⟨rfl, ?_⟩))) ?_ | refine finX_normal (nextB l me log top op s') rfl rfl (by (repeat (first | exact trivial | refine ⟨⟨rfl, rfl⟩, ?_⟩))) (by (repeat (first | exact trivial | refine ⟨rfl, ?_⟩))) ?_
  exact ⟨x, s', h, rfl, rfl⟩
def acc0 : AccT := ⟨0, 0, 0, 0⟩
theorem refuse_c (g : List (Int × Int)) (hg : g.length ≤ 100000) : PureC Try.prog 56 [dGone g] (.tup [dAcc acc0, dOut ⟨0, false, 1, -1, g⟩, dB true]) := by
  refine pure_fin tabOk Try.func56 rfl Try.ntmps56 rfl rfl rfl fun w cl => ?_
  repeat (first | refine zA ?_ | refine zB ?_ | refine zC ?_ | refine zD ?_ | refine zE ?_ | refine zF ?_ | refine zG ?_ | refine zH ?_ | refine zI ?_ | refine zJ ?_ | refine zK ?_ | refine zL ?_ | refine zT ?_ | refine zU ?_ | refine zV ?_ | refine zW ?_ | refine zM ?_ | refine zN ?_ | refine zO ?_ | refine zP ?_ | refine zQ ?_ | refine zR ?_ | refine zS ?_ | refine z0 ?_ | refine z1 ?_ | refine z2 ?_ | refine z3 ?_ | refine z4 ?_ | refine z5 ?_ | refine z6 ?_ | refine z7 ?_ | refine z8 ?_ | refine z9 ?_)
  refine a_q (call_step ((clone2_f g hg).pure) rfl (fun a w => Try.call72 a w) rfl) rfl rfl rfl ?_
  repeat (first | refine zA ?_ | refine zB ?_ | refine zC ?_ | refine zD ?_ | refine zE ?_ | refine zF ?_ | refine zG ?_ | refine zH ?_ | refine zI ?_ | refine zJ ?_ | refine zK ?_ | refine zL ?_ | refine zT ?_ | refine zU ?_ | refine zV ?_ | refine zW ?_ | refine zM ?_ | refine zN ?_ | refine zO ?_ | refine zP ?_ | refine zQ ?_ | refine zR ?_ | refine zS ?_ | refine z0 ?_ | refine z1 ?_ | refine z2 ?_ | refine z3 ?_ | refine z4 ?_ | refine z5 ?_ | refine z6 ?_ | refine z7 ?_ | refine z8 ?_ | refine z9 ?_)
  first | refine fin_ret rfl ?_ | refine fin_normal rfl ?_
  rfl
end Go.Proofs.Ytpecgpmdchejdaa
