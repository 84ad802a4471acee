/- make, and elements that are written, of rows over variables of ours. -/
import Derived.Test.YtcjooalmhppkiaaRRRRAbs19
namespace Go.Proofs.YtcjooalmhppkiaaRRRR
open Go.RowKit
section
variable {P : Program} {T : Nat → Option TI} {Γ : Ctx} {S : Nat → Option Dt} {B : Nat → Option (List Dt)} {o : Oper} {l0 l : List Oper} {Q : Exit → St → Prop}
variable {s : List (Nat × Dt)} {b : List (Nat × List Dt)} {g : List (Nat × Gr)} {t : Nat}

theorem made_one (z : Value) (n : Nat) : madeCells #[z] n = (List.replicate n z).toArray := by
  apply Array.ext
  · simp [madeCells]
  · intro j h1 h2
    simp [madeCells, Nat.mod_one]
/-- make of a row of n, each of one cell: a variable of ours. -/
theorem makeA_step (hT : TabOk P T) (nm : Nat) {ty el : TypeId} {z1 z2 : Nat} {z3 : Value} {i : TI} {x y : Operand} {k k' : IntKind} {n m : Int} {c : Nat} (ho : o.op = .makeSlice ty x y) (ht : T ty = some ⟨.slice el, z1, z2, z3⟩) (hel : T el = some i) (hs1 : Nat.beq i.sz 1 = true) (hz1 : i.zero.cells = #[i.zero])
    (hx : ev S x = some (.p (.raw (.int k n)))) (hy : ev S y = some (.p (.raw (.int k' m)))) (hn : n = c) (hm : m = c) (hb : c * i.bytes ≤ 140737488355328) (h63 : c ≤ maxLen) : QStep P o S B (.arr nm 0 c c) (some (nm, List.replicate c (constLeaf i.zero))) := by
  subst hn; subst hm
  intro a e hs hnb
  have h1 := raw_eq (hs.1 x (by rw [ho]; simp [Op.operands]) _ hx)
  have h2 := raw_eq (hs.1 y (by rw [ho]; simp [Op.operands]) _ hy)
  obtain ⟨d0, hd0, hk⟩ := hT.desc ty _ ht
  cases d0 <;> simp only [tkOf, reduceCtorEq, TK.slice.injEq] at hk
  rw [hk] at hd0
  obtain ⟨inf, hinf, hsz, hby, hz⟩ := hT.info _ i hel
  have hs1' := Nat.eq_of_beq_eq_true hs1
  have hbig : (inf.bytes : Int) * (c : Int) ≤ 281474976710656 := by
    have : ((c * i.bytes : Nat) : Int) ≤ 140737488355328 := by omega
    rw [Int.natCast_mul, Int.mul_comm] at this
    rw [hby]; omega
  have hrun := run_make (P := P) e.w ty el inf i.zero hd0 hinf hz k k' c c (Int.natCast_nonneg c) (by omega) hbig (by unfold maxLen at h63; omega)
  rw [Int.toNat_natCast, hsz, hs1', Nat.mul_one, hz1, made_one] at hrun
  unfold Oper.wp
  have e1 : (execOp a.eval o).run P e.w = .ok (.value (.slice (some ⟨e.w.heap.size, 0, none⟩) c c)) (e.w.alloc (.cells (List.replicate c i.zero).toArray el)) := by
    obtain ⟨dst, op, type, pos, after, guard⟩ := o
    simp only at ho
    subst ho
    simp [execOp, h1, h2, hrun]
  rw [e1]
  have hg := Env.alloc_grow e (.cells (List.replicate c i.zero).toArray el) (some 0)
  have hbn : (e.alloc (.cells (List.replicate c i.zero).toArray el) (some 0)).bx nm = none := by rw [hg.bx]; exact hnb _ rfl
  refine ⟨_, (e.alloc (.cells (List.replicate c i.zero).toArray el) (some 0)).withBox nm e.w.heap.size, rfl, rfl, _, e.w.heap.size, hg, Nat.le_refl _, by simp [Env.alloc], by simp [Env.alloc], rfl, ⟨e.w.heap.size, List.replicate c i.zero, el, by simp [Env.withBox], heap_alloc_new e.w _, ?_⟩, .arr (by simp [Env.withBox])⟩
  refine ⟨by simp, fun j v d hv hd => ?_⟩
  rw [List.getElem?_replicate] at hv hd
  split at hv
  · rename_i hj
    rw [if_pos hj] at hd
    cases hv; cases hd
    exact constLeaf_rep _ _
  · cases hv
/-- An element's address, of a row over a variable of ours. -/
theorem indexAddrA_step (hT : TabOk P T) {ty el : TypeId} {x y : Operand} {nm n c : Nat} {k : IntKind} {i : Int} {z1 z2 : Nat} {z3 : Value} {j : TI} {p : Nat} (ho : o.op = .indexAddr ty x y) (ht : T ty = some ⟨.slice el, z1, z2, z3⟩) (he : T el = some j)
    (hx : ev S x = some (.arr nm 0 n c)) (hy : ev S y = some (.p (.raw (.int k i)))) (h0 : 0 ≤ i) (hlt : i < n) (hp : p = i.toNat * j.sz) : QStep P o S B (.ptr nm p) none := by
  subst hp
  refine qstep_run fun a e hs => ?_
  have h1 := hs.1 x (by rw [ho]; simp [Op.operands]) _ hx
  have h2 := raw_eq (hs.1 y (by rw [ho]; simp [Op.operands]) _ hy)
  generalize hv : a.eval x = vx at h1
  cases h1 with
  | arr hb =>
    rename_i kk
    obtain ⟨d0, hd0, hk⟩ := hT.desc ty _ ht
    cases d0 <;> simp only [tkOf, reduceCtorEq, TK.slice.injEq] at hk
    rw [hk] at hd0
    refine ⟨.pointer (some ⟨kk, i.toNat * j.sz, none⟩), ?_, .ptr hb⟩
    obtain ⟨dst, op, type, pos, after, guard⟩ := o
    simp only at ho
    subst ho
    simp [execOp, Instr.indexAt, h2, hv, asIntOf, run_underlying hd0, h0, hlt, run_sizeOf hT he, add_none]
theorem stored_one {cs : List Dt} {of : Nat} {d : Dt} (h : of < cs.length) : stored cs of [d] = cs.set of d := by
  unfold stored
  rw [List.set_eq_take_append_cons_drop, if_pos h]
  simp
/-- A store of one cell into a variable of ours, wherever. -/
theorem a_storeAt (hT : TabOk P T) {ty : TypeId} {x y : Operand} {nm of : Nat} {cs : List Dt} {dy : Dt} {i : TI} (ho : o.op = .store ty x y) (hd : o.dst = none) (ht : T ty = some i) (hs1 : Nat.beq i.sz 1 = true) (hx : ev (kv s) x = some (.ptr nm of)) (hb : kv b nm = some cs) (hy : ev (kv s) y = some dy)
    (hl : dy.leaf = true) (hg : gd l0 o (kv s) = some true) (hof : of < cs.length) (h : AOps P Γ l0 Q l ⟨s, (nm, cs.set of dy) :: b, g⟩) : AOps P Γ l0 Q (o :: l) ⟨s, b, g⟩ := by
  have hc : dy.cells = [dy] := by cases dy <;> first | rfl | cases hl
  have hlv : leaves dy = true := by cases dy <;> first | exact hl | cases hl
  have hss := store_step (P := P) (Γ := Γ) (σ := ⟨s, b, g⟩) hT ho hd ht hx hb hy hlv (by rw [hc, Nat.eq_of_beq_eq_true hs1]; rfl) (by rw [hc]; exact hof)
  rw [hc, stored_one hof] at hss
  exact aops_step (σ := ⟨s, b, g⟩) hg hss h
end
end Go.Proofs.YtcjooalmhppkiaaRRRR
