/- A call that writes one row over a variable of ours, and hands nothing back. -/
import Derived.Test.YtcjooalmhppkiaaRRRRAbs21
namespace Go.Proofs.YtcjooalmhppkiaaRRRR
open Go.RowKit
section
variable {P : Program} {T : Nat → Option TI} {Γ : Ctx} {o : Oper} {l0 l : List Oper} {Q : Exit → St → Prop}
variable {s : List (Nat × Dt)} {b : List (Nat × List Dt)} {g : List (Nat × Gr)} {t : Nat}
/-- The world behind it. -/
structure RowW (w w' : World) (k : Nat) (el : TypeId) (vs : List Value) : Prop where
  os : w'.os = w.os
  tape : w'.tape = w.tape
  output : w'.output = w.output
  size : w.heap.size ≤ w'.heap.size
  other : ∀ j, j < w.heap.size → j ≠ k → w'.heap[j]? = w.heap[j]?
  row : w'.heap[k]? = some (.cells vs.toArray el (0, 0))
theorem a_callRow {f : FuncId} {xs : List Operand} {ats : Array TypeId} {nm : Nat} {cs : List Dt} (cs' : List Dt) (ho : o.op = .call { callee := .value (.func f), args := xs.toArray, argTypes := ats }) (hf : EntersP P f) (hb : kv b nm = some cs) (hg : gd l0 o (kv s) = some true) (hd : o.dst = some t) (hl : Nat.blt t Γ.n = true)
    (hrun : ∀ (a : Act) (e : Env) (k : Nat) (vs : List Value) (el : TypeId), Conc Γ ⟨s, b, g⟩ e a → e.bx nm = some k → e.w.heap[k]? = some (.cells vs.toArray el (0, 0)) → DReps e vs cs →
      Calls P f (xs.map a.eval).toArray e.w fun r w' => r = .returned (.tuple #[]) ∧ ∃ vs', RowW e.w w' k el vs' ∧ DReps e vs' cs')
    (h : AOps P Γ l0 Q l ⟨(t, .tup []) :: s, (nm, cs') :: b, g⟩) : AOps P Γ l0 Q (o :: l) ⟨s, b, g⟩ := by
  refine aops_step (σ := ⟨s, b, g⟩) (σ' := ⟨(t, .tup []) :: s, (nm, cs') :: b, g⟩) hg (fun a e hc => ?_) h
  obtain ⟨k, vs, el, h1, h2, h3⟩ := hc.boxes nm cs hb
  have hr := hrun a e k vs el hc h1 h2 h3
  unfold Oper.wp
  have e1 : (execOp a.eval o).run P e.w = .ok (.enter f (xs.map a.eval).toArray) e.w := by
    obtain ⟨dst, op, type, pos, after, guard⟩ := o
    simp only at ho
    subst ho
    rw [execOp_call_go, hf]
    simp
  rw [e1]
  refine hr.mono fun r w' hh => ?_
  obtain ⟨rfl, vs', hw, hd'⟩ := hh
  have hc1 := hc.setRow h1 h2 hd'
  have hkl := heap_lt h2
  have hgr : Grow { e with w := e.w.setRow k vs'.toArray } { e with w := w' } := by
    refine ⟨⟨hw.os, hw.tape, hw.output, ?_, fun j hj => ?_⟩, fun _ _ => rfl, rfl, rfl, rfl⟩
    · show (e.w.setRow k vs'.toArray).heap.size ≤ _
      rw [setRow_size]; exact hw.size
    · have hj' : j < e.w.heap.size := by
        have : j < (e.w.setRow k vs'.toArray).heap.size := hj
        rw [setRow_size] at this; exact this
      show w'.heap[j]? = (e.w.setRow k vs'.toArray).heap[j]?
      by_cases hjk : j = k
      · subst hjk; rw [hw.row, block_setRow h2]
      · rw [hw.other j hj' hjk, setRow_other e.w k j _ hjk]
  have hc2 := (hc1.grow hgr).put (dst := o.dst) (dst_lt hd hl) (v := .tuple #[]) (d := .tup []) (.tup (vs := []) rfl (fun i v d h => by simp at h))
  rw [hd] at hc2
  exact ⟨{ e with w := w' }, rfl, by rw [hd]; exact hc2⟩
end
end Go.Proofs.YtcjooalmhppkiaaRRRR
