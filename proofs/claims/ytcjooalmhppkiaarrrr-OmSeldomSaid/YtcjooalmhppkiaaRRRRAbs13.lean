/- Slices against nil; empty rows with room; elements of arrays; regions with a tail. -/
import Derived.Test.YtcjooalmhppkiaaRRRRAbs12
import Derived.Laws.MakeOwn
namespace Go.Proofs.YtcjooalmhppkiaaRRRR
open Go.RowKit

section
variable {P : Program} {T : Nat → Option TI} {Γ : Ctx} {Q : Exit → St → Prop} {o : Oper} {l0 l : List Oper} {s : List (Nat × Dt)} {b : List (Nat × List Dt)} {g : List (Nat × Gr)} {t : Nat}

theorem run_equal_nil {P : Program} {t e : TypeId} (hu : P.underlying t = some (.slice e)) (A : Option Addr) (n c : Nat) (w : World) : (Op.equal t (.slice A n c) (.slice none 0 0)).run P w = .ok A.isNone w := by
  show (Op.equalIn (9999 + 1) t _ _).run P w = _
  rw [Op.equalIn]
  simp only [Sem.run_bind, run_underlying hu, Result.andThen_ok]
  cases A <;> rfl

/-- A slice against nil: it may be nil if it has nothing. -/
theorem a_nil (hT : TabOk P T) {ty u el : TypeId} {z1 z2 : Nat} {z3 : Value} {x : Operand} {dx : Dt} {n : Nat} {ps : List Pl} (ho : o.op = .binOp .eql ty x (.const (.slice none 0 0)) u) (ht : T ty = some ⟨.slice el, z1, z2, z3⟩) (hx : ev (kv s) x = some dx) (hd : slOf dx = some (n, ps)) (hg : gd l0 o (kv s) = some true) (hdst : o.dst = some t) (hl : Nat.blt t Γ.n = true)
    (h : ∀ c : Bool, (c = true → n = 0) → AOps P Γ l0 Q l ⟨(t, dB c) :: s, b, g⟩) : AOps P Γ l0 Q (o :: l) ⟨s, b, g⟩ := by
  refine ⟨fun a e hc => ?_⟩
  have hs := hc.sees (σ := ⟨s, b, g⟩) o.op.operands
  have h1 := slOf_rep (hs.1 x (by rw [ho]; simp [Op.operands]) _ hx) hd
  obtain ⟨A, cap, hv, h2, _, h3, _, _⟩ := sl_open h1
  obtain ⟨d0, hd0, hk⟩ := hT.desc ty _ ht
  cases d0 <;> simp only [tkOf, reduceCtorEq, TK.slice.injEq] at hk
  have hn : A.isNone = true → n = 0 := fun h' => by
    have := h3 (by simpa using h')
    omega
  have hrun : (execOp a.eval o).run P e.w = .ok (.value (.bool A.isNone)) e.w := by
    obtain ⟨dst, op, type, pos, after, guard⟩ := o
    simp only at ho
    subst ho
    have hcn : a.eval (.const (.slice none 0 0)) = .slice none 0 0 := rfl
    simp only [execOp, hv, hcn, eqGuard, binOp]
    simp [run_equal_nil hd0]
  have hc' := (hc.put (dst := o.dst) (by rw [hdst]; exact hl) (v := .bool A.isNone) (d := dB A.isNone) (.p (.raw _)))
  unfold wpList
  rw [if_pos (gd_wanted hc hg)]
  refine .inl ?_
  unfold Oper.wp
  rw [hrun]
  have := (h A.isNone hn).run (a.put o.dst (.bool A.isNone)) e (by rw [hdst] at hc' ⊢; exact hc')
  exact this

theorem run_make0 {P : Program} (hT : TabOk P T) {ty el : TypeId} {z1 z2 : Nat} {z3 : Value} {i : TI} (ht : T ty = some ⟨.slice el, z1, z2, z3⟩) (hel : T el = some i) (k k' : IntKind) (c : Int) (h0 : 0 ≤ c) (hb : i.bytes * c ≤ 140737488355328) (h63 : c ≤ 9223372036854775807) (w : World) :
    ∃ cur : Array Value, cur.size = c.toNat * i.sz ∧ (Instr.makeSlice ty (.int k 0) (.int k' c)).run P w = .ok (.slice (some ⟨w.heap.size, 0, none⟩) 0 c.toNat) (w.alloc (.cells cur el)) := by
  obtain ⟨d0, hd0, hk⟩ := hT.desc ty _ ht
  cases d0 <;> simp only [tkOf, reduceCtorEq, TK.slice.injEq] at hk
  rw [hk] at hd0
  obtain ⟨inf, hinf, hsz, hby, hz⟩ := hT.info _ i hel
  have hw : IntKind.i64.wrap c = c := wrap_id (by omega) h63
  have hw0 : IntKind.i64.wrap 0 = 0 := by rfl
  have hlt : ¬ c < 0 := by omega
  have hbig : ¬ (281474976710656 < (i.bytes : Int) * c) := by omega
  have hroom : ¬ (140737488355328 < c.toNat * i.bytes) := by
    have : ((c.toNat * i.bytes : Nat) : Int) ≤ 140737488355328 := by
      rw [Int.natCast_mul, Int.toNat_of_nonneg h0, Int.mul_comm]; exact hb
    omega
  by_cases hn0 : c.toNat * i.sz = 0
  · refine ⟨(Array.range (c.toNat * i.sz)).map (fun j => (#[] : Array Value)[j % (#[] : Array Value).size]!), by simp, ?_⟩
    simp [Instr.makeSlice, run_underlying hd0, asInt, asIntOf, typeInfo, hinf, hby, hw, hw0, hlt, hbig, askRoom, roomBytes, sizeOf, hsz, hn0, newRow]
  · refine ⟨(Array.range (c.toNat * i.sz)).map (fun j => i.zero.cells[j % i.zero.cells.size]!), by simp, ?_⟩
    have hn0' : ¬ (c.toNat = 0 ∨ i.sz = 0) := by
      rintro (h' | h') <;> exact hn0 (by rw [h']; simp)
    simp [Instr.makeSlice, run_underlying hd0, asInt, asIntOf, typeInfo, hinf, hby, hw, hw0, hlt, hbig, askRoom, roomBytes, sizeOf, hsz, zeroValue, hz, newRow]
    intro h'
    omega

/-- A new row with room, of a group of its own. -/
theorem Conc.newRow {σ : St} {e : Env} {a : Act} (hc : Conc Γ σ e a) {gn : Nat} (hg : kv σ.g gn = none) {el : TypeId} {sz c : Nat} {cur : Array Value} (hcur : cur.size = c * sz) (hcm : c ≤ maxLen) :
    ∃ e', e'.w = e.w.alloc (.cells cur el) ∧ Conc Γ ⟨σ.s, σ.b, (gn, ⟨el, sz, 0⟩) :: σ.g⟩ e' a ∧ DRep e' (.slice (some ⟨e.w.heap.size, 0, none⟩) 0 c) (.tip gn 0 []) := by
  have hgi : e.gi gn = none := by rw [hc.gs]; exact hg
  have hng : ∀ k, e.gr k ≠ some gn := fun k hk => by obtain ⟨G, _, h, _⟩ := hc.env.gr k gn hk; rw [hgi] at h; cases h
  have hgr := Env.alloc_grow e (.cells cur el) (some 0)
  have hc1 := hc.grow hgr
  have hsz : (e.alloc (.cells cur el) (some 0)).w.heap.size = e.w.heap.size + 1 := by simp [Env.alloc]
  let e1 := e.alloc (.cells cur el) (some 0)
  let e2 : Env := { e1 with gr := fun k => if k = e.w.heap.size then some gn else e1.gr k, gi := fun h => if h = gn then some ⟨el, sz, 0⟩ else e1.gi h }
  have hnew : e1.gr e.w.heap.size = none := by
    show e.gr _ = none
    rcases hh : e.gr e.w.heap.size with _ | g'
    · rfl
    · obtain ⟨_, _, _, hlt, _⟩ := hc.env.gr _ _ hh; omega
  have hE : Ends e1 e2 := by
    refine ⟨fun _ _ _ h1 h2 => ⟨h1, h2⟩, fun _ _ h => h, fun g' G h => ⟨G, ?_, rfl, rfl, Nat.le_refl _⟩, fun k g' G cur' h1 h2 h3 => ⟨?_, cur', h3, rfl⟩⟩
    · show (if g' = gn then _ else e1.gi g') = _
      rw [if_neg (fun e' => by rw [e'] at h; have : e1.gi gn = none := hgi; rw [this] at h; cases h)]; exact h
    · show (if k = e.w.heap.size then some gn else e1.gr k) = _
      rw [if_neg (fun e' => by rw [e', hnew] at h1; cases h1)]; exact h1
  refine ⟨e2, rfl, ⟨hc1.size, hc1.df, fun t d ht => (hc1.slots t d ht).next hE, fun b cs hb => (hc1.boxes b cs hb).ends hE rfl, hc1.nobox, fun h => ?_, hc1.env.kept, hc1.env.cl, fun b k hk => ?_, hc1.env.inj, fun k g' hk => ?_, hc1.env.kb⟩, ?_⟩
  · show (if h = gn then _ else e1.gi h) = _
    simp only [lk_cons]
    by_cases e1' : h = gn
    · subst e1'; simp
    · rw [if_neg e1', if_neg (fun e' => e1' e'.symm)]; exact hc1.gs h
  · obtain ⟨h1, h2, h3, h4⟩ := hc1.env.bx b k hk
    refine ⟨h1, h2, h3, ?_⟩
    show (if k = e.w.heap.size then some gn else e1.gr k) = none
    have hk' : e.bx b = some k := hk
    have := (hc.env.bx b k hk').1
    rw [if_neg (by omega)]; exact h4
  · have hk' : (if k = e.w.heap.size then some gn else e1.gr k) = some g' := hk
    split at hk'
    · rename_i hke
      cases hk'
      refine ⟨⟨el, sz, 0⟩, cur, by show (if gn = gn then _ else _) = _; simp, ?_, .inl ?_, ?_, ?_⟩
      · show k < (e.w.alloc _).heap.size; rw [hke]; simp
      · rw [hke]; exact hc.env.kept.size
      · show (if k = e.w.heap.size then some 0 else e.cl k) = _; rw [if_pos hke]; simp
      · rw [hke]; exact heap_alloc_new e.w _
    · rename_i hke
      obtain ⟨G, cur', h1, h2⟩ := hc1.env.gr k g' hk'
      exact ⟨G, cur', by show (if g' = gn then _ else e1.gi g') = _; rw [if_neg (fun e' => hng k (by rw [← e']; exact hk'))]; exact h1, h2⟩
  · refine .tip (sl_shut (Nat.zero_le _) hcm (fun h => by cases h) (fun h => by cases h) (.inl rfl)) ⟨⟨el, sz, 0⟩, _, c, by show (if gn = gn then _ else _) = _; simp, rfl, Nat.le_refl _, by simp, .inr ⟨e.w.heap.size, rfl, ?_, cur, heap_alloc_new e.w _, hcur⟩⟩
    show (if e.w.heap.size = e.w.heap.size then some gn else e1.gr _) = _
    simp

/-- make of a slice that has nothing, with room. -/
theorem a_make0 (hT : TabOk P T) (gn : Nat) {ty el : TypeId} {z1 z2 : Nat} {z3 : Value} {i : TI} {x y : Operand} {k k' : IntKind} {c : Int} (ho : o.op = .makeSlice ty x y) (ht : T ty = some ⟨.slice el, z1, z2, z3⟩) (hel : T el = some i) (hx : ev (kv s) x = some (.p (.raw (.int k 0)))) (hy : ev (kv s) y = some (.p (.raw (.int k' c)))) (h0 : 0 ≤ c) (hb : i.bytes * c ≤ 140737488355328) (h63 : c ≤ 9223372036854775807)
    (hgn : kv g gn = none) (hg : gd l0 o (kv s) = some true) (hdst : o.dst = some t) (hl : Nat.blt t Γ.n = true) (h : AOps P Γ l0 Q l ⟨(t, .tip gn 0 []) :: s, b, (gn, ⟨el, i.sz, 0⟩) :: g⟩) : AOps P Γ l0 Q (o :: l) ⟨s, b, g⟩ := by
  refine aops_step (σ := ⟨s, b, g⟩) (σ' := ⟨(t, .tip gn 0 []) :: s, b, (gn, ⟨el, i.sz, 0⟩) :: g⟩) hg (fun a e hc => ?_) h
  have hs := hc.sees (σ := ⟨s, b, g⟩) o.op.operands
  have h1 := raw_eq (hs.1 x (by rw [ho]; simp [Op.operands]) _ hx)
  have h2 := raw_eq (hs.1 y (by rw [ho]; simp [Op.operands]) _ hy)
  obtain ⟨cur, hcur, hrun⟩ := run_make0 (P := P) hT ht hel k k' c h0 hb h63 e.w
  obtain ⟨e', he', hc', hd'⟩ := hc.newRow hgn (el := el) (sz := i.sz) (c := c.toNat) hcur (by unfold maxLen; omega)
  have e1 : (execOp a.eval o).run P e.w = .ok (.value (.slice (some ⟨e.w.heap.size, 0, none⟩) 0 c.toNat)) (e.w.alloc (.cells cur el)) := by
    obtain ⟨dst, op, type, pos, after, guard⟩ := o
    simp only at ho
    subst ho
    simp [execOp, h1, h2, hrun]
  unfold Oper.wp
  rw [e1]
  have := hc'.put (dst := o.dst) (by rw [hdst]; exact hl) hd'
  rw [hdst] at this
  exact ⟨e', he', by rw [hdst]; exact this⟩

/-- An element of an array that is a value. -/
theorem index_step {S : Nat → Option Dt} {B : Nat → Option (List Dt)} (hT : TabOk P T) {ty el : TypeId} {n z1 z2 : Nat} {z3 : Value} {j : TI} {x y : Operand} {ds : List Dt} {k : IntKind} {i : Int} (d : Dt) (ho : o.op = .index ty x y) (ht : T ty = some ⟨.array n el, z1, z2, z3⟩) (he : T el = some j) (hag : j.k.agg = false) (hx : ev S x = some (.agg ds)) (hy : ev S y = some (.p (.raw (.int k i)))) (h0 : 0 ≤ i) (hlt : i < n) (hd : ds[i.toNat * j.sz]? = some d) : QStep P o S B d none := by
  refine qstep_run fun a e hs => ?_
  have h1 := hs.1 x (by rw [ho]; simp [Op.operands]) _ hx
  have h2 := raw_eq (hs.1 y (by rw [ho]; simp [Op.operands]) _ hy)
  generalize hev : a.eval x = vx at h1
  cases h1 with
  | agg hl hh =>
    rename_i vs
    obtain ⟨d0, hd0, hk⟩ := hT.desc ty _ ht
    cases d0 <;> simp only [tkOf, reduceCtorEq, TK.array.injEq] at hk
    rw [hk.1, hk.2] at hd0
    obtain ⟨v, h3, h4⟩ := DReps.get ⟨hl, hh⟩ hd
    refine ⟨v, ?_, h4⟩
    obtain ⟨dst, op, type, pos, after, guard⟩ := o
    simp only at ho
    subst ho
    simp [execOp, hev, h2, Instr.index, asIntOf, run_underlying hd0, h0, hlt, run_sizeOf hT he, part, run_isAgg hT he, hag, h3]

end
end Go.Proofs.YtcjooalmhppkiaaRRRR
