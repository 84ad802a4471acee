/- Slice literals; parts of slices; max, min. -/
import Derived.Test.YtcjooalmhppkiaaRRRRAbs10
namespace Go.Proofs.YtcjooalmhppkiaaRRRR
open Go.RowKit

section
variable {P : Program} {T : Nat → Option TI} {Γ : Ctx} {S : Nat → Option Dt} {B : Nat → Option (List Dt)} {o : Oper}

def zeroRow (zc : List Dt) : Nat → List Dt
  | 0 => []
  | n + 1 => zc ++ zeroRow zc n
theorem zeroRow_len (zc : List Dt) : ∀ n, (zeroRow zc n).length = n * zc.length
  | 0 => by simp [zeroRow]
  | n + 1 => by simp [zeroRow, zeroRow_len zc n, Nat.add_mul]; omega
theorem zeroRow_get (zc : List Dt) : ∀ (n j : Nat), j < n * zc.length → (zeroRow zc n)[j]? = zc[j % zc.length]?
  | 0, j, h => by omega
  | n + 1, j, h => by
    rw [zeroRow]
    rcases Nat.lt_or_ge j zc.length with hj | hj
    · rw [List.getElem?_append_left hj, Nat.mod_eq_of_lt hj]
    · rw [List.getElem?_append_right hj, zeroRow_get zc n _ (by rw [Nat.add_mul] at h; omega), Nat.mod_eq_sub_mod hj]

def zeroRowK {α : Type} (zc : List Dt) : Nat → (List Dt → Option α) → Option α
  | 0, k => k []
  | n + 1, k => zeroRowK zc n fun r => appK zc r k
theorem zeroRowK_eq {α : Type} (zc : List Dt) : ∀ (n : Nat) (k : List Dt → Option α), zeroRowK zc n k = k (zeroRow zc n)
  | 0, k => rfl
  | n + 1, k => by rw [zeroRowK, zeroRowK_eq zc n, appK_eq]; rfl
def toPsK {α : Type} : List Dt → (List Pl → Option α) → Option α
  | [], k => k []
  | .p (.raw v) :: l, k => toPsK l fun r => k (.raw v :: r)
  | .p (.sl _ n ps) :: l, k => toPsK l fun r => k (.sl false n ps :: r)
  | .tip _ n ps :: l, k => toPsK l fun r => k (.sl false n ps :: r)
  | _, _ => none
def toPs : List Dt → Option (List Pl)
  | [] => some []
  | .p x :: l => (toPs l).map (lowP x :: ·)
  | .tip _ n ps :: l => (toPs l).map (Pl.sl false n ps :: ·)
  | _ => none
theorem toPsK_eq {α : Type} : ∀ (ds : List Dt) (k : List Pl → Option α), toPsK ds k = (toPs ds).bind k
  | [], k => rfl
  | .p (.raw v) :: l, k => by simp only [toPsK, toPs, toPsK_eq l]; cases toPs l <;> rfl
  | .p (.sl _ n ps) :: l, k => by simp only [toPsK, toPs, toPsK_eq l]; cases toPs l <;> rfl
  | .tip _ n ps :: l, k => by simp only [toPsK, toPs, toPsK_eq l]; cases toPs l <;> rfl
  | .agg _ :: l, k => rfl
  | .tup _ :: l, k => rfl
  | .ptr _ _ :: l, k => rfl
  | .el _ :: l, k => rfl
  | .arr _ _ _ _ :: l, k => rfl
  | .fn _ _ _ :: l, k => rfl
  | .any :: l, k => rfl
theorem toPs_get : ∀ {ds : List Dt} {ps : List Pl} (_ : toPs ds = some ps), ds.length = ps.length ∧ ∀ (i : Nat) x, ps[i]? = some x → ∃ d, ds[i]? = some d ∧ ∀ e v, DRep e v d → PRep e v x
  | [], ps, h => by simp only [toPs, Option.some.injEq] at h; subst h; exact ⟨rfl, fun i x h => by simp at h⟩
  | .p y :: l, ps, h => by
    simp only [toPs, Option.map_eq_some_iff] at h
    obtain ⟨qs, h1, rfl⟩ := h
    obtain ⟨h2, h3⟩ := toPs_get h1
    refine ⟨by simp [h2], fun i x hx => ?_⟩
    cases i with
    | zero => simp only [List.getElem?_cons_zero, Option.some.injEq] at hx; subst hx; exact ⟨_, rfl, fun e v hv => by cases hv with | p h => exact h.low⟩
    | succ i => simpa using h3 i x (by simpa using hx)
  | .tip g n qs0 :: l, ps, h => by
    simp only [toPs, Option.map_eq_some_iff] at h
    obtain ⟨qs, h1, rfl⟩ := h
    obtain ⟨h2, h3⟩ := toPs_get h1
    refine ⟨by simp [h2], fun i x hx => ?_⟩
    cases i with
    | zero => simp only [List.getElem?_cons_zero, Option.some.injEq] at hx; subst hx; exact ⟨_, rfl, fun e v hv => by cases hv with | tip h _ => exact h⟩
    | succ i => simpa using h3 i x (by simpa using hx)
  | .agg _ :: l, ps, h => by cases h
  | .tup _ :: l, ps, h => by cases h
  | .ptr _ _ :: l, ps, h => by cases h
  | .el _ :: l, ps, h => by cases h
  | .arr _ _ _ _ :: l, ps, h => by cases h
  | .fn _ _ _ :: l, ps, h => by cases h
  | .any :: l, ps, h => by cases h

def buildSliceD (T : Nat → Option TI) (t : TypeId) (len : Nat) (ds : List (Nat × Dt)) : Option (List Pl) := match T t with
  | some ⟨.slice el, _, _, _⟩ => match T el with
    | some j => bif okCells (constD j.zero) && Nat.beq (constD j.zero).cells.length j.sz && Nat.ble (len * j.sz) 1000000 && Nat.blt 0 j.sz then (match constK j.zero (fun c => cellsK c fun zc => zeroRowK zc len fun z => fillD (fun i => some (i * j.sz, j.sz)) z ds) with
      | some cs => bif cs.all Dt.leaf then toPsK cs some else none
      | none => none) else none
    | none => none
  | _ => none

/-- A new row that is full. -/
theorem newRow_rep {e : Env} {us : List Value} {ps : List Pl} {n : Nat} {t : TypeId} (hn : n ≤ maxLen) (hlen : us.length = ps.length) (hleaf : ∀ v ∈ us, leafV v = true) (hr : ∀ (i : Nat) v x, us[i]? = some v → ps[i]? = some x → PRep e v x) :
    DRep (e.alloc (.cells us.toArray t) none) (.slice (some ⟨e.w.heap.size, 0, none⟩) n n) (.p (.sl true n ps)) := by
  have hg := Env.alloc_grow e (.cells us.toArray t) none
  refine .p (sl_shut (Nat.le_refl _) hn (fun h => by cases h) (fun _ => rfl) (.inr ⟨_, 0, rfl, fun i => us.getD i undef, fun i x hx => ?_⟩))
  have hi : i < us.length := by rw [hlen]; exact (List.getElem?_eq_some_iff.1 hx).1
  have hu : us[i]? = some us[i] := List.getElem?_eq_getElem hi
  have hgd : us.getD i undef = us[i] := by simp [hi]
  show _ ∧ _ = some (us.getD i undef) ∧ leafV (us.getD i undef) = true ∧ PRep _ (us.getD i undef) x
  rw [hgd]
  refine ⟨fun k hk => ?_, ?_, hleaf _ (List.getElem_mem hi), (hr i _ x hu hx).next hg.ends⟩
  · simp [Env.alloc] at hk
  · show (e.w.alloc _).cell? _ = _
    rw [cell_of_row _ _ (0 + i) us.toArray t (0, 0) (heap_alloc_new e.w _)]
    simp

theorem buildSlice_step (hT : TabOk P T) {t : TypeId} {len : Nat} {parts : Array (Nat × Operand)} {ps : List Pl} (ho : o.op = .buildSlice t len parts) (hp : evParts S parts.toList (buildSliceD T t len) = some ps) : QStep P o S B (.p (.sl true len ps)) none := by
  intro a e hs _
  obtain ⟨ds, h1, h2, hd⟩ := evParts_rep (e := e) (a := a) parts.toList _ ps (fun x hx => hs.1 x (by rw [ho]; simp only [Op.operands]; simpa using hx)) hp
  have hparts : (parts.map fun (i, x) => (i, a.eval x)).toList = parts.toList.map fun p => (p.1, a.eval p.2) := by simp
  unfold buildSliceD at hd
  split at hd
  · rename_i el z1 z2 z3 ht
    split at hd
    · rename_i j hj
      cases hb : (okCells (constD j.zero) && Nat.beq (constD j.zero).cells.length j.sz && Nat.ble (len * j.sz) 1000000 && Nat.blt 0 j.sz)
      · rw [hb] at hd; cases hd
      rw [hb] at hd
      simp only [cond_true] at hd
      simp only [Bool.and_eq_true] at hb
      obtain ⟨⟨⟨hb1, hb2⟩, hb3⟩, hb4⟩ := hb
      have hb2' := Nat.eq_of_beq_eq_true hb2
      have hb3' := Nat.le_of_ble_eq_true hb3
      have hb4' : 0 < j.sz := by simpa [Nat.blt_eq] using hb4
      split at hd
      · rename_i cs hfill
        rw [constK_eq, cellsK_eq, zeroRowK_eq] at hfill
        cases hlf : cs.all Dt.leaf
        · rw [hlf] at hd; cases hd
        rw [hlf] at hd
        simp only [cond_true, toPsK_eq, Option.bind_fun_some] at hd
        obtain ⟨d0, hd0, hk⟩ := hT.desc t _ ht
        cases d0 <;> simp only [tkOf, TK.slice.injEq, reduceCtorEq] at hk
        rw [hk] at hd0
        have hzr := okCells_rep (constD_rep e j.zero) hb1
        have hzs : j.zero.cells.size = j.sz := by have := hzr.1; simp at this; omega
        have hzr0 : DReps e ((Array.range (len * j.sz)).map (fun i => j.zero.cells[i % j.zero.cells.size]!)).toList (zeroRow (constD j.zero).cells len) := by
          refine ⟨by simp [zeroRow_len, hb2'], fun i v d hv hd' => ?_⟩
          have hil : i < len * j.sz := by have := (List.getElem?_eq_some_iff.1 hv).1; simpa using this
          rw [zeroRow_get _ _ _ (by rw [hb2']; exact hil), hb2'] at hd'
          simp [hil] at hv
          rw [hzs] at hv
          have hm : i % j.sz < j.sz := Nat.mod_lt _ hb4'
          have : j.zero.cells.toList[i % j.sz]? = some v := by
            rw [← hv]
            simp [hzs, hm]
          exact hzr.2 _ v d this hd'
        obtain ⟨cells', h3, h4⟩ := fill_rep (e := e) _ _ ds _ _ cs hzr0 h1 h2 hfill
        obtain ⟨h5, h6⟩ := toPs_get hd
        unfold Oper.wp
        have e1 : (execOp a.eval o).run P e.w = .ok (.value (.slice (some ⟨e.w.heap.size, 0, none⟩) len len)) (e.w.alloc (.cells cells'.toList.toArray el)) := by
          obtain ⟨dst, op, type, pos, after, guard⟩ := o
          simp only at ho
          subst ho
          have hzv : (zeroValue el).run P e.w = .ok j.zero e.w := run_zeroValue hT hj e.w
          have hnb : ¬ (len * j.sz > 2 ^ 24) := by omega
          simp only [execOp, Instr.buildSlice, Sem.run_bind, run_underlying hd0, Result.andThen_ok, run_sizeOf hT hj]
          rw [if_neg hnb]
          by_cases h0 : len * j.sz = 0
          · have hr0 : (Array.range (len * j.sz)).map (fun i => j.zero.cells[i % j.zero.cells.size]!) = (Array.range (len * j.sz)).map (fun i => (#[] : Array Value)[i % (#[] : Array Value).size]!) := by simp [h0]
            rw [hr0] at h3
            simp only [h0, if_true, Sem.run_bind, Sem.run_pure, Result.andThen_ok, hparts] at h3 ⊢
            rw [h3]
            simp [newRow]
          · simp only [h0, if_false, Sem.run_bind, hzv, Sem.run_pure, Result.andThen_ok, hparts, h3]
            simp [newRow]
        rw [e1]
        refine ⟨_, e.alloc (.cells cells'.toList.toArray el) none, rfl, rfl, Env.alloc_grow _ _ _, newRow_rep (by have : len * 1 ≤ len * j.sz := Nat.mul_le_mul_left _ hb4'; unfold maxLen; omega) (by rw [h4.1, h5]) (fun v hv => ?_) (fun i v x hv hx => ?_)⟩
        · obtain ⟨i, hi, rfl⟩ := List.mem_iff_getElem.1 hv
          have hi' : i < cs.length := by rw [← h4.1]; exact hi
          exact leaf_val (h4.2 i _ _ (List.getElem?_eq_getElem hi) (List.getElem?_eq_getElem hi')) (List.all_eq_true.1 hlf _ (List.getElem_mem hi'))
        · obtain ⟨d, h7, h8⟩ := h6 i x hx
          exact h8 e v (h4.2 i v d hv h7)
      · cases hd
    · cases hd
  · cases hd

/-- A bound of a part of a slice. -/
def bndD (S : Nat → Option Dt) (x : Option Operand) (dflt : Int) : Option Int := match x with
  | none => some dflt
  | some y => match ev S y with
    | some (.p (.raw (.int _ i))) => some i
    | _ => none

theorem slice_step (hT : TabOk P T) {t el : TypeId} {x : Operand} {lo hi : Option Operand} {dx : Dt} {n : Nat} {ps : List Pl} {l h : Int} {z1 z2 : Nat} {z3 : Value} {j : TI} (m : Nat) (qs : List Pl) (ho : o.op = .slice t x lo hi none) (ht : T t = some ⟨.slice el, z1, z2, z3⟩) (he : T el = some j)
    (hx : ev S x = some dx) (hdx : slOf dx = some (n, ps)) (hlo : bndD S lo 0 = some l) (hhi : bndD S hi n = some h) (h0 : 0 ≤ l) (h1 : l ≤ h) (h2 : h ≤ n) (hm : h - l = m) (hql : qs.length = m * j.sz) (hq : ∀ (i : Nat) q, qs[i]? = some q → ps[l.toNat * j.sz + i]? = some q) : QStep P o S B (.p (.sl false m qs)) none := by
  refine qstep_run fun a e hs => ?_
  have hx1 := slOf_rep (hs.1 x (by rw [ho]; simp [Op.operands]) _ hx) hdx
  obtain ⟨A, cap, hv, hc1, hc2, hc3, _, hA⟩ := sl_open hx1
  obtain ⟨d0, hd0, hk⟩ := hT.desc t _ ht
  cases d0 <;> simp only [tkOf, reduceCtorEq, TK.slice.injEq] at hk
  rw [hk] at hd0
  have hlv : ∀ y, lo = some y → ∃ k, a.eval y = .int k l := fun y hy => by
    subst hy
    simp only [bndD] at hlo
    split at hlo
    · rename_i k i hev
      cases hlo
      exact ⟨k, raw_eq (hs.1 y (by rw [ho]; simp [Op.operands]) _ hev)⟩
    · cases hlo
  have hhv : ∀ y, hi = some y → ∃ k, a.eval y = .int k h := fun y hy => by
    subst hy
    simp only [bndD] at hhi
    split at hhi
    · rename_i k i hev
      cases hhi
      exact ⟨k, raw_eq (hs.1 y (by rw [ho]; simp [Op.operands]) _ hev)⟩
    · cases hhi
  have hbounds : (Instr.sliceBounds true n cap (lo.map a.eval) (hi.map a.eval) none).run P e.w = .ok (l.toNat, h.toNat, cap) e.w := by
    have hhi' : hi = none → h = n := fun e' => by subst e'; simp only [bndD, Option.some.injEq] at hhi; omega
    have hlo' : lo = none → l = 0 := fun e' => by subst e'; simp only [bndD, Option.some.injEq] at hlo; omega
    have hhc : h ≤ (cap : Int) := by omega
    have hh0 : 0 ≤ h := by omega
    have hlh : l ≤ (h.toNat : Int) := by omega
    cases hi with
    | none =>
      have hn := hhi' rfl
      subst hn
      cases lo with
      | none => have := hlo' rfl; subst this; simp [Instr.sliceBounds]
      | some y =>
        obtain ⟨k, hy⟩ := hlv y rfl
        simp only [Int.toNat_natCast] at hlh
        simp [Instr.sliceBounds, Instr.sliceBound, hy, asIntOf, h0, hlh]
    | some y' =>
      obtain ⟨k', hy'⟩ := hhv y' rfl
      cases lo with
      | none => have := hlo' rfl; subst this; simp [Instr.sliceBounds, Instr.sliceBound, hy', asIntOf, hh0, hhc]
      | some y =>
        obtain ⟨k, hy⟩ := hlv y rfl
        have hmax : max h 0 = h := by omega
        simp [Instr.sliceBounds, Instr.sliceBound, hy, hy', asIntOf, hh0, hhc, h0, hmax, h1]
  have hmn : h.toNat - l.toNat = m := by omega
  refine ⟨.slice (if cap = l.toNat then A else A.map (·.add (l.toNat * j.sz))) m (cap - l.toNat), ?_, .p (sl_shut (by omega) (by omega) (fun h' => ?_) (fun h' => by cases h') ?_)⟩
  · obtain ⟨dst, op, type, pos, after, guard⟩ := o
    simp only at ho
    subst ho
    simp only [execOp, Instr.sliceAt, hv, Sem.run_bind, run_underlying hd0, Result.andThen_ok, Instr.slice, Option.map_none, hbounds, run_sizeOf hT he, hmn, Sem.run_pure]
  · split at h'
    · omega
    · cases A with
      | none => have := hc3 rfl; omega
      | some a => simp at h'
  · rcases qs with _ | ⟨q, qs⟩
    · exact .inl rfl
    · refine .inr ?_
      have hps : ps ≠ [] := fun e' => by have := hq 0 q rfl; rw [e'] at this; simp at this
      rcases hA with hA | ⟨b, of, rfl, hel⟩
      · exact absurd hA hps
      · have hm0 : m ≠ 0 := fun e' => by rw [e'] at hql; simp at hql
        have hne : ¬ cap = l.toNat := by omega
        refine ⟨b, of + l.toNat * j.sz, by rw [if_neg hne]; simp [add_none], hel.part _ hq⟩
end
end Go.Proofs.YtcjooalmhppkiaaRRRR
