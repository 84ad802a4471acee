/- A map's programs: an access; the node that is there; the list's programs behind a node: their walks. -/
import Derived.Test.YtkkldicehapklaaGreatG6
import Derived.Test.YtkkldicehapklaaGreatWA
import Derived.Test.YtkkldicehapklaaGreatPB
namespace Go.Proofs.YtkkldicehapklaaGreat
open Go.RowKit
set_option maxRecDepth 100000
abbrev jQ4 (a : AccT) : Value := .iface 136 (.agg #[.int .i64 a.kind, .int .i64 a.cell, .int .i64 a.old, .int .i64 a.new])
abbrev prgP (l : jN) (me m : Int) (log : List jS) (s : PsT) : List Pl := [pI l.seats, pI l.nodes, pI l.buckets, pI l.slots, pI l.tasks, pI l.cells, pI l.maps, pI l.stacks, pI l.chans, pI l.done, pI l.count, pI l.era, pI l.free, pI l.alive, pI l.owner, pI l.resv, pI l.deque, pI l.ring, pI l.task, pI l.cell, pI l.map, pI l.stack, pI l.chan, pI l.node, pI l.size, pI me, plGone s.gone, pI m, .sl false log.length (xF log), pI s.made]
abbrev prgD (l : jN) (me m : Int) (log : List jS) (s : PsT) : List Dt := [dI l.seats, dI l.nodes, dI l.buckets, dI l.slots, dI l.tasks, dI l.cells, dI l.maps, dI l.stacks, dI l.chans, dI l.done, dI l.count, dI l.era, dI l.free, dI l.alive, dI l.owner, dI l.resv, dI l.deque, dI l.ring, dI l.task, dI l.cell, dI l.map, dI l.stack, dI l.chan, dI l.node, dI l.size, dI me, vG s.gone, dI m, dLog log, dI s.made]
abbrev jM8 (l : jN) (me m : Int) (log : List jS) (s : PsT) : Bxs := [(40, prgD l me m log s)]
def PhR {α : Type} (bx : PsT → Bxs) (log : List jS) (m : Except AccT (α × PsT)) (s : PsT) (enc : α → Dt) : Dt → Bxs → Prop := fun d bs => ∃ x s', m = .ok (x, s') ∧ FiG log s s' ∧ d = enc x ∧ bs = bx s'
def PhX {α : Type} (bx : PsT → Bxs) (m : Except AccT (α × PsT)) : Value → Bxs → Prop := fun v bs => ∃ a s', m = .error a ∧ v = jQ4 a ∧ bs = bx s'
abbrev PhC {α : Type} (f : FuncId) (keep : List Nat) (bx : PsT → Bxs) (log : List jS) (s : PsT) (ds : List Dt) (m : Except AccT (α × PsT)) (enc : α → Dt) : Prop := ImpX Tryz.prog f keep ds (bx s) (PhR bx log m s enc) (PhX bx m)
structure At0 (log : List jS) (s : PsT) : Prop where
 gone : yK s.gone
 len : s.gone.length + log.length ≤ 10000 + s.made
 le : s.made ≤ log.length
 log : log.length ≤ 5000
theorem At0.next {log : List jS} {s s' : PsT} (h : At0 log s) (hG : FiG log s s') : At0 log s' := ⟨hG.ok, by have := h.len; have := hG.len; have := hG.made; omega, hG.le, h.log⟩
theorem At0.refl {log : List jS} {s : PsT} (h : At0 log s) : FiG log s s := ⟨Nat.le_refl _, h.le, h.gone, Nat.le_refl _⟩
theorem At0.up {log : List jS} {s : PsT} (h : At0 log s) {r : jS} (hr : log[s.made]? = some r) : FiG log s { s with made := s.made + 1 } := ⟨Nat.le_succ _, (List.getElem?_eq_some_iff.1 hr).1, h.gone, Nat.add_le_add_left (Nat.le_succ _) _⟩
theorem sdo_x (l : jN) (me m : Int) (log : List jS) (s : PsT) (a : AccT) (h0 : At0 log s) : PhC 42 [40] (jM8 l me m log) log s [.ptr 40 0, wM a] (doM a log s) dRes := by
 have hm := h0.le
 have hl := h0.log
 refine sX Tryz.func42 Tryz.ntmps42 fun w cl own kf => ?_
 refine go ?_
 refine jY [] rfl (by kernel_rfl) (by kernel_rfl) ?_
 refine goQ ?_
 refine go ?_
 generalize h1 : decide ((s.made : Int) = (log.length : Int)) = cc; cases cc
 ·have h1' := of_decide_eq_false h1
  have hlt : s.made < log.length := by omega
  have hr : log[s.made]? = some log[s.made] := List.getElem?_eq_getElem hlt
  generalize log[s.made] = r at hr
  have hr' : log[((s.made : Int) + 1 - 1).toNat]? = some r := by rw [show ((s.made : Int) + 1 - 1).toNat = s.made by omega]; exact hr
  refine go ?_
  refine jE 9 [] rfl rfl (by kernel_rfl) (by kernel_rfl) (by kernel_rfl) ?_
  refine goQ ?_
  refine a_q (jG jB [pI r.val, pB r.ok] rfl rfl rfl rfl rfl rfl (by first | omega | (simp; done) | (simp; omega)) (by first | omega | (simp; done) | (simp; omega)) (by first | (simp; done) | exact List.cons_ne_nil _ _) (log_idx hr')) rfl rfl rfl ?_
  refine go ?_
  first | refine fR (jM8 l me m log { s with made := s.made + 1 }) ?_ | refine fN (jM8 l me m log { s with made := s.made + 1 }) ?_
  exact ⟨r, { s with made := s.made + 1 }, by rw [doM, hr], h0.up hr, rfl, rfl⟩
 ·have h1' : log.length = s.made := by have := of_decide_eq_true h1; omega
  have hr : log[s.made]? = none := List.getElem?_eq_none (by omega)
  refine go ?_
  refine a_q (jV4 jB rfl rfl rfl rfl rfl) rfl rfl rfl ?_
  refine a_panic rfl rfl rfl ?_
  refine gP ?_
  refine fP (jM8 l me m log s) ?_
  exact ⟨a, s, by rw [doM, hr], rfl, rfl⟩
theorem there_c (l : jN) (me m : Int) (log : List jS) (s : PsT) (o : kY) (a : AccT) (n : Int) (hp : o.is = false → 0 ≤ o.point ∧ o.point + 2 < log.length) (hl : log.length ≤ 5000) (hn : n = if o.is then (ofW a.new).idx else (ofW ((log.getD (o.point.toNat + 2) ⟨0, false⟩).val)).idx) : kA Tryz.prog 75 [.el (prgP l me m log s), jO0 o, wM a] (dI n) := by
 generalize hoi : o.is = ois at hp hn
 generalize hop : o.point = op at hp hn
 refine jO jB Tryz.func75 rfl Tryz.ntmps75 rfl rfl rfl fun w cl => ?_
 refine go ?_
 rw [hoi]
 cases ois
 ·obtain ⟨h1, h2⟩ := hp rfl
  have hr : log[(op + 2).toNat]? = some (log.getD (op.toNat + 2) ⟨0, false⟩) := by
   rw [show (op + 2).toNat = op.toNat + 2 by omega, List.getD_eq_getElem?_getD, List.getElem?_eq_getElem (by omega)]; rfl
  simp only [Bool.false_eq_true, if_false] at hn
  generalize log.getD (op.toNat + 2) ⟨0, false⟩ = r at hr hn
  refine go ?_
  rw [hop]
  refine jE 10 [] rfl rfl (by kernel_rfl) (by kernel_rfl) (by kernel_rfl) ?_
  refine goQ ?_
  refine r_q (jG jB [pI r.val, pB r.ok] rfl rfl rfl rfl rfl rfl (by first | omega | (simp; done) | (simp; omega)) (by first | omega | (simp; done) | (simp; omega)) (by first | (simp; done) | exact List.cons_ne_nil _ _) (log_idx hr)) rfl rfl ?_
  refine goQ ?_
  refine a_q (jA (of_c r.val) rfl (fun a w => Tryz.call28 a w) rfl) rfl rfl rfl ?_
  refine go ?_
  first | refine jF rfl ?_ | refine jC rfl ?_
  rw [hn]
 ·simp only [if_true] at hn
  refine go ?_
  refine a_q (jA (of_c a.new) rfl (fun a w => Tryz.call28 a w) rfl) rfl rfl rfl ?_
  refine go ?_
  first | refine jF rfl ?_ | refine jC rfl ?_
  rw [hn]
end Go.Proofs.YtkkldicehapklaaGreat
