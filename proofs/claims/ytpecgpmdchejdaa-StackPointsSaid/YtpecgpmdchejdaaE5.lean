/- Plays of a size that is looked at; the chapter's example: their walks. -/
import Derived.Test.YtpecgpmdchejdaaE2
namespace Go.Proofs.Ytpecgpmdchejdaa
open Go.RowKit
set_option maxRecDepth 100000

theorem map_idx {α : Type} {f : α → Pl} {l : List α} {i : Int} {x : α} (h : l[i.toNat]? = some x) : ∀ (m : Nat) q, [f x][m]? = some q → (l.map f)[i.toNat * 1 + m]? = some q := by
  intro m q hq
  cases m with
  | zero =>
    simp at hq; subst hq
    rw [Nat.mul_one, Nat.add_zero, List.getElem?_map, h]; rfl
  | succ m => simp at hq
theorem ops_idx {l : List OpT} {i : Int} {o : OpT} (h : l[i.toNat]? = some o) : ∀ (m : Nat) q, [pI o.kind, pI o.obj, pI o.a, pI o.b][m]? = some q → (pOps l)[i.toNat * 4 + m]? = some q := flat_idx (f := pOp) (k := 4) (fun _ => rfl) h
def okOp (o : OpT) : Bool := decide (4 ≤ o.kind) && decide (o.kind ≤ 5)
def okOps (w : List OpT) : Bool := decide (w.length ≤ 5) && w.all okOp
def fewF (p : PlayT) : Bool := decide (1 ≤ p.want.length) && decide (p.want.length ≤ 3) && decide (p.turns.length ≤ 200) && p.want.all okOps
theorem all_false {α : Type} {f : α → Bool} {l : List α} {i : Nat} {x : α} (h : l[i]? = some x) (hf : f x = false) : l.all f = false := by
  rw [List.all_eq_false]
  exact ⟨x, List.mem_of_getElem? h, by simp [hf]⟩
theorem all_take {α : Type} {f : α → Bool} {l : List α} {i : Nat} {x : α} (h : l[i]? = some x) (hf : f x = true) (ht : (l.take i).all f = true) : (l.take (i + 1)).all f = true := by
  rw [List.take_add_one, h, List.all_append, ht]
  simp [hf]
def plainP : PlayT := ⟨2, [[⟨4, 0, 5, 0⟩, ⟨4, 0, 7, 0⟩, ⟨5, 0, 0, 0⟩]], []⟩
theorem plain_c : PureC Try.prog 28 [] (dPlay plainP) := by
  refine pure_fin tabOk Try.func28 rfl Try.ntmps28 rfl rfl rfl fun w cl => ?_
  repeat (first | refine zA ?_ | refine zB ?_ | refine zC ?_ | refine zD ?_ | refine zE ?_ | refine zF ?_ | refine zG ?_ | refine zH ?_ | refine zI ?_ | refine zJ ?_ | refine zK ?_ | refine zL ?_ | refine zT ?_ | refine zU ?_ | refine zV ?_ | refine zW ?_ | refine zM ?_ | refine zN ?_ | refine zO ?_ | refine zP ?_ | refine zQ ?_ | refine zR ?_ | refine zS ?_ | refine z0 ?_ | refine z1 ?_ | refine z2 ?_ | refine z3 ?_ | refine z4 ?_ | refine z5 ?_ | refine z6 ?_ | refine z7 ?_ | refine z8 ?_ | refine z9 ?_)
  first | refine fin_ret rfl ?_ | refine fin_normal rfl ?_
  rfl
end Go.Proofs.Ytpecgpmdchejdaa
