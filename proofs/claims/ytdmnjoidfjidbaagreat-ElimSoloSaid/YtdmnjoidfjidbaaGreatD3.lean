/- Accesses of programs under way: their walks. -/
import Derived.Test.YtdmnjoidfjidbaaGreatD2
namespace Go.Proofs.YtdmnjoidfjidbaaGreat
open Go.RowKit
set_option maxRecDepth 100000

theorem flat2_idx {α : Type} {f : α → List Pl} {a b : α → Pl} (hf : ∀ x, f x = [a x, b x]) : ∀ {l : List α} {i : Nat} {x : α}, l[i]? = some x → ∀ (m : Nat) q, [a x, b x][m]? = some q → (l.flatMap f)[i * 2 + m]? = some q
  | [], i, x, h => by simp at h
  | y :: l, 0, x, h => by
    intro m q hq
    simp at h
    subst h
    rw [List.flatMap_cons, hf, Nat.zero_mul, Nat.zero_add]
    rw [List.getElem?_append_left]
    · exact hq
    · exact (List.getElem?_eq_some_iff.1 hq).1
  | y :: l, i + 1, x, h => by
    intro m q hq
    have ih := flat2_idx hf (l := l) (i := i) (x := x) (by simpa using h) m q hq
    rw [List.flatMap_cons, hf, List.getElem?_append_right (by simp; omega)]
    rw [show (i + 1) * 2 + m - [a y, b y].length = i * 2 + m by simp; omega]
    exact ih
theorem log_idx {l : List ResT} {i : Int} {r : ResT} (h : l[i.toNat]? = some r) : ∀ (m : Nat) q, [pI r.val, pB r.ok][m]? = some q → (pLog l)[i.toNat * 2 + m]? = some q := flat2_idx (f := pRes) (fun _ => rfl) h
abbrev askedV (a : AccT) : Value := .iface 134 (.agg #[.int .i64 a.kind, .int .i64 a.cell, .int .i64 a.old, .int .i64 a.new])
def PmR {α : Type} (l : LayT) (me : Int) (log : List ResT) (m : Except AccT (α × PsT)) (s : PsT) (enc : α → Dt) : Dt → Bxs → Prop := fun d bs => ∃ x s', m = .ok (x, s') ∧ s.made ≤ s'.made ∧ s'.made ≤ log.length ∧ d = enc x ∧ bs = pieceB l me log s'
def PmX {α : Type} (l : LayT) (me : Int) (log : List ResT) (m : Except AccT (α × PsT)) : Value → Bxs → Prop := fun v bs => ∃ a s', m = .error a ∧ v = askedV a ∧ bs = pieceB l me log s'
abbrev PmC {α : Type} (f : FuncId) (l : LayT) (me : Int) (log : List ResT) (s : PsT) (ds : List Dt) (m : Except AccT (α × PsT)) (enc : α → Dt) : Prop :=
  ImpX Tryz.prog f [11, 12, 13] ds (pieceB l me log s) (PmR l me log m s enc) (PmX l me log m)

theorem do_x (l : LayT) (me : Int) (log : List ResT) (s : PsT) (a : AccT) (hm : s.made ≤ log.length) (hl : log.length ≤ 1000000) : PmC 77 l me log s [dAcc a, .ptr 12 0, .ptr 13 0] (doM a log s) dRes := by
  refine sX Tryz.func77 Tryz.ntmps77 fun w cl own kf => ?_
  refine go ?_
  refine awp_region_q [] rfl (by kernel_rfl) (by kernel_rfl) ?_
  refine goQ ?_
  refine go ?_
  generalize h1 : decide ((s.made : Int) = (log.length : Int)) = cc; cases cc
  · have h1' := of_decide_eq_false h1
    have hlt : s.made < log.length := by omega
    have hr : log[s.made]? = some log[s.made] := List.getElem?_eq_getElem hlt
    generalize log[s.made] = r at hr
    have hr' : log[((s.made : Int) + 1 - 1).toNat]? = some r := by rw [show ((s.made : Int) + 1 - 1).toNat = s.made by omega]; exact hr
    refine go ?_
    refine awp_region_w 8 [] rfl rfl (by kernel_rfl) (by kernel_rfl) (by kernel_rfl) ?_
    refine goQ ?_
    refine r_q (indexAddr_step tabOk [pI r.val, pB r.ok] rfl rfl rfl rfl rfl rfl (by first | omega | (simp; done) | (simp; omega)) (by first | omega | (simp; done) | (simp; omega)) (by first | (simp; done) | exact List.cons_ne_nil _ _) (log_idx hr')) rfl rfl ?_
    refine goQ ?_
    refine go ?_
    first | refine fR (pieceB l me log { s with made := s.made + 1 }) ?_ | refine fN (pieceB l me log { s with made := s.made + 1 }) ?_
    exact ⟨r, { s with made := s.made + 1 }, by rw [doM, hr], by simp, by simp; omega, rfl, rfl⟩
  · have h1' : log.length = s.made := by have := of_decide_eq_true h1; omega
    have hr : log[s.made]? = none := List.getElem?_eq_none (by omega)
    refine go ?_
    refine a_q (iface_step tabOk rfl rfl rfl rfl rfl) rfl rfl rfl ?_
    refine a_panic rfl rfl rfl ?_
    refine gP ?_
    refine fP (pieceB l me log s) ?_
    exact ⟨a, s, by rw [doM, hr], rfl, rfl⟩
end Go.Proofs.YtdmnjoidfjidbaaGreat
