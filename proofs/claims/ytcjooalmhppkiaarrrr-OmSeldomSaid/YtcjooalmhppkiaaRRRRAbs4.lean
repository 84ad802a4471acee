/- The operations that make no variable are quiet. -/
import Derived.Test.YtcjooalmhppkiaaRRRRAbs3
namespace Go.Proofs.YtcjooalmhppkiaaRRRR
open Go.RowKit

section
variable {P : Program} {T : Nat → Option TI} {S : Nat → Option Dt} {B : Nat → Option (List Dt)}

theorem run_isAgg {t : TypeId} {i : TI} (hT : TabOk P T) (ht : T t = some i) (w : World) : (isAgg t).run P w = .ok i.k.agg w := by
  obtain ⟨d, hd, hk⟩ := hT.desc t i ht
  unfold isAgg
  simp only [Sem.run_bind, run_underlying hd, Result.andThen_ok]
  rw [← hk]
  cases d <;> rfl
theorem run_sizeOf {t : TypeId} {i : TI} (hT : TabOk P T) (ht : T t = some i) (w : World) : (sizeOf t).run P w = .ok i.sz w := by
  obtain ⟨f, hf, hs, _⟩ := hT.info t i ht
  simp [sizeOf, typeInfo, hf, hs]
theorem run_zeroValue {t : TypeId} {i : TI} (hT : TabOk P T) (ht : T t = some i) (w : World) : (zeroValue t).run P w = .ok i.zero w := by
  obtain ⟨f, hf, _, _, hz⟩ := hT.info t i ht
  simp [zeroValue, typeInfo, hf, hz]

theorem add_none (b o n : Nat) : (⟨b, o, none⟩ : Addr).add n = ⟨b, o + n, none⟩ := Addr.add_lit b o n

/-- Loading what reads so. -/
theorem load_cells (hT : TabOk P T) {t : TypeId} {i : TI} (ht : T t = some i) {e : Env} {k o : Nat} {us : List Value} {ds : List Dt} (hu : ∀ j v, us[j]? = some v → e.w.cell? ⟨k, o + j, none⟩ = some v) (hr : DReps e us ds) {d : Dt} (hd : loadD i ds = some d) :
    ∃ v, (Instr.loadAt t (.pointer (some ⟨k, o, none⟩))).run P e.w = .ok v e.w ∧ DRep e v d := by
  unfold loadD at hd
  simp only [Instr.loadAt, Instr.sureAddr, loadVar, Sem.run_bind, Sem.run_pure, Result.andThen_ok, run_isAgg hT ht]
  cases hag : i.k.agg
  · rw [hag] at hd
    simp only [cond_false] at hd
    split at hd
    · rename_i d' ds'
      cases hd
      obtain ⟨v, us', rfl, hv, _⟩ := hr.uncons
      have := hu 0 v rfl
      simp only [Nat.add_zero] at this
      exact ⟨v, by simp [run_load, this], hv⟩
    · cases hd
  · rw [hag] at hd
    simp only [cond_true] at hd
    obtain ⟨hle', hd⟩ := takeK_some hd
    cases hd
    · skip
      have hl : (us.take i.sz).length = i.sz := by rw [List.length_take, hr.1]; omega
      have := run_loadCells_list (P := P) e.w ⟨k, o, none⟩ (us.take i.sz) (fun j v hj => by
        rw [List.getElem?_take] at hj
        split at hj
        · rw [add_none]; exact hu j v hj
        · cases hj)
      rw [hl] at this
      refine ⟨.agg (us.take i.sz).toArray, by simp [this, run_sizeOf hT ht], ?_⟩
      have ht := hr.take i.sz
      exact .agg ht.1 ht.2

theorem el_cells {e : Env} {b o : Nat} {ps : List Pl} (h : ElAt e b o ps) : ∃ us, (∀ j v, us[j]? = some v → e.w.cell? ⟨b, o + j, none⟩ = some v) ∧ DReps e us (ps.map .p) ∧ ∀ v ∈ us, leafV v = true := by
  obtain ⟨f, hf⟩ := h
  refine ⟨(List.range ps.length).map f, fun j v hj => ?_, ⟨by simp, fun j v d h1 h2 => ?_⟩, fun v hv => ?_⟩
  · rw [List.getElem?_map] at hj
    rcases hjr : (List.range ps.length)[j]? with _ | q
    · rw [hjr] at hj; cases hj
    · rw [hjr] at hj
      have hlt : j < ps.length := by have := (List.getElem?_eq_some_iff.1 hjr).1; simpa using this
      have hq : q = j := by rw [List.getElem?_range hlt] at hjr; cases hjr; rfl
      subst hq
      simp only [Option.map_some, Option.some.injEq] at hj
      subst hj
      exact (hf q _ (List.getElem?_eq_getElem hlt)).2.1
  · rw [List.getElem?_map] at h1 h2
    rcases hp : ps[j]? with _ | x
    · rw [hp] at h2; cases h2
    · rw [hp] at h2
      have hlt : j < ps.length := (List.getElem?_eq_some_iff.1 hp).1
      rw [List.getElem?_range hlt] at h1
      simp only [Option.map_some, Option.some.injEq] at h1 h2
      subst h1; subst h2
      exact .p (hf j x hp).2.2.2
  · obtain ⟨j, hj, rfl⟩ := List.mem_map.1 hv
    have hlt : j < ps.length := by simpa using hj
    exact (hf j _ (List.getElem?_eq_getElem hlt)).2.2.1

theorem raw_eq {e : Env} {v u : Value} (h : DRep e v (.p (.raw u))) : v = u := by
  cases h with
  | p h => cases h; rfl
theorem evs_list {α : Type} {a : Act} {e : Env} : ∀ (xs : List Operand) (k : List Dt → Option α) (r : α), (∀ x ∈ xs, ∀ d, ev S x = some d → DRep e (a.eval x) d) → evsK S xs k = some r → ∃ ds, DReps e (xs.map a.eval) ds ∧ k ds = some r
  | [], k, r, _, h => ⟨[], DReps.nil e, h⟩
  | x :: xs, k, r, hs, h => by
    simp only [evsK] at h
    split at h
    · rename_i d hd
      obtain ⟨ds, h1, h2⟩ := evs_list xs _ r (fun y hy => hs y (by simp [hy])) h
      exact ⟨d :: ds, DReps.cons (hs x (by simp) d hd) h1, h2⟩
    · cases h

theorem fieldAt_run {t : TypeId} {fs : List (TypeId × Nat × Nat)} {a b c : _} (hT : TabOk P T) (ht : T t = some ⟨.struct fs, a, b, c⟩) {f : Nat} {ft : TypeId} {off sz : Nat} (hf : fs[f]? = some (ft, off, sz + 1)) (k o : Nat) (w : World) :
    (Instr.fieldAt t (.pointer (some ⟨k, o, none⟩)) f).run P w = .ok (.pointer (some ⟨k, o + off, none⟩)) w := by
  obtain ⟨d, hd, hk⟩ := hT.desc t _ ht
  cases d <;> simp only [tkOf, TK.struct.injEq, reduceCtorEq] at hk
  rename_i fields
  subst hk
  rw [List.getElem?_map] at hf
  rcases hq : fields.toList[f]? with _ | q
  · rw [hq] at hf; cases hf
  · rw [hq] at hf
    simp only [Option.map_some, Option.some.injEq, Prod.mk.injEq] at hf
    obtain ⟨rfl, rfl, h3⟩ := hf
    have hq' : fields[f]? = some q := by simpa using hq
    have hsz : (sizeOf q.type).run P w = .ok (sz + 1) w := by
      unfold Program.cellsOf at h3
      rcases hi : P.info? q.type with _ | i
      · rw [hi] at h3; simp at h3
      · rw [hi] at h3
        simp only [Option.map_some, Option.getD_some] at h3
        simp [sizeOf, typeInfo, hi, h3]
    simp [Instr.fieldAt, run_underlying hd, hq', Instr.sureAddr, fieldPlace, hsz, add_none]

theorem ax_step (hT : TabOk P T) {o : Oper} {d : Dt} (h : ax T S B o.op = some d) : QStep P o S B d none := by
  obtain ⟨dst, op, type, pos, after, guard⟩ := o
  refine qstep_run fun a e hs => ?_
  simp only at h hs
  have see : ∀ x ∈ op.operands, ∀ d, ev S x = some d → DRep e (a.eval x) d := hs.1
  cases op <;> simp only [ax, reduceCtorEq] at h
  case move x => exact ⟨_, rfl, see x (by simp [Op.operands]) d h⟩
  case assign x => exact ⟨_, rfl, see x (by simp [Op.operands]) d h⟩
  case pick c x y =>
    split at h
    · rename_i hc
      have hev := raw_eq (see c (by simp [Op.operands]) _ hc)
      exact ⟨a.eval x, by simp [execOp, asBool, hev], see x (by simp [Op.operands]) d h⟩
    · rename_i hc
      have hev := raw_eq (see c (by simp [Op.operands]) _ hc)
      exact ⟨a.eval y, by simp [execOp, asBool, hev], see y (by simp [Op.operands]) d h⟩
    · cases h
  case load t x =>
    split at h
    · rename_i i b o ht hx
      have h1 := see x (by simp [Op.operands]) _ hx
      split at h
      · rename_i cs hB
        obtain ⟨k, vs, el, h2, h3, h4⟩ := hs.2 b cs hB
        generalize hev : a.eval x = vx at h1
        cases h1 with
        | ptr h1 =>
          rename_i k'
          rw [h2] at h1
          cases h1
          have := load_cells hT ht (k := k) (o := o) (us := vs.drop o) (fun j v hj => by
            rw [List.getElem?_drop] at hj
            rw [cell_of_row e.w k (o + j) vs.toArray el (0, 0) h3]
            simpa using hj) (h4.drop o) (dropK_some h).2
          obtain ⟨v, hr, hv⟩ := this
          exact ⟨v, by simp [execOp, hev, hr], hv⟩
      · cases h
    · rename_i i ps ht hx
      have h1 := see x (by simp [Op.operands]) _ hx
      generalize hev : a.eval x = vx at h1
      cases h1 with
      | el h1 =>
        obtain ⟨us, h2, h3, _⟩ := el_cells h1
        rw [mapK_eq] at h
        obtain ⟨v, hr, hv⟩ := load_cells hT ht h2 h3 h
        exact ⟨v, by simp [execOp, hev, hr], hv⟩
    · cases h
  case binOp op t x y yt =>
    split at h
    · rename_i i u v ht hx hy
      have hev := raw_eq (see x (by simp [Op.operands]) _ hx)
      have hev' := raw_eq (see y (by simp [Op.operands]) _ hy)
      have key : ∀ r, binRaw op u v = some r → (∀ b : Bool, u = .bool b → P.underlying t = some .bool) → (execOp a.eval { dst := dst, op := .binOp op t x y yt, type := type, pos := pos, after := after, guard := guard }).run P e.w = .ok (.value r) e.w := by
        intro r hr hb
        have := binRaw_run hT hr hb x y e.w
        simp only [execOp, hev, hev']
        rw [Sem.run_bind, this]
        rfl
      split at h
      · rename_i r b hi hr
        cases h
        refine ⟨r, key r hr fun b' _ => ?_, .p (.raw r)⟩
        obtain ⟨d, hd, hk⟩ := hT.desc t _ ht
        rw [hi] at hk
        cases d <;> simp only [tkOf, reduceCtorEq] at hk
        exact hd
      · rename_i r k n hr
        cases h
        exact ⟨r, key r hr (fun b' hb => by cases hb), .p (.raw r)⟩
      · cases h
    · cases h
  case unOp op t x =>
    split at h
    · rename_i b hx
      have h1 := see x (by simp [Op.operands]) _ hx
      have hev := raw_eq h1
      cases h
      exact ⟨_, by simp [execOp, hev, Op.unary], .p (.raw _)⟩
    · rename_i n hx
      have h1 := see x (by simp [Op.operands]) _ hx
      have hev := raw_eq h1
      cases h
      exact ⟨_, by simp only [execOp, hev, Op.unary, Op.intArith]; rfl, .p (.raw _)⟩
    · cases h
  case convert s t x =>
    split at h
    · rename_i ks z1 z2 z3 kt z4 z5 z6 k0 n hs0 ht hx
      have h1 := see x (by simp [Op.operands]) _ hx
      have hev := raw_eq h1
      cases h
      obtain ⟨d1, hd1, hk1⟩ := hT.desc s _ hs0
      obtain ⟨d2, hd2, hk2⟩ := hT.desc t _ ht
      cases d1 <;> simp only [tkOf, reduceCtorEq] at hk1
      cases d2 <;> simp only [tkOf, reduceCtorEq, TK.int.injEq] at hk2
      subst hk2
      exact ⟨_, by simp [execOp, hev, convert, run_underlying hd1, run_underlying hd2, Conv.intToInt], .p (.raw _)⟩
    · cases h
  case extract x i =>
    split at h
    · rename_i ds hx
      have h1 := see x (by simp [Op.operands]) _ hx
      generalize hev : a.eval x = vx at h1
      cases h1 with
      | tup hl hh =>
        rename_i vs
        obtain ⟨v, h3, h4⟩ := DReps.get ⟨hl, hh⟩ h
        have h5 : vs.toArray[i]? = some v := by simpa using h3
        exact ⟨v, by simp [execOp, hev, Instr.extract, h3], h4⟩
    · cases h
  case fieldAddr t x f =>
    split at h
    · rename_i fs z1 z2 z3 b o ht hx
      have h1 := see x (by simp [Op.operands]) _ hx
      generalize hev : a.eval x = vx at h1
      split at h
      · rename_i ft off sz hf
        cases h
        cases h1 with
        | ptr h1 => exact ⟨_, by simp [execOp, hev, fieldAt_run hT ht hf], .ptr h1⟩
      · cases h
    · rename_i fs z1 z2 z3 ps ht hx
      have h1 := see x (by simp [Op.operands]) _ hx
      generalize hev : a.eval x = vx at h1
      split at h
      · rename_i ft off sz hf
        obtain ⟨_, h⟩ := dropK_some h
        cases h
        cases h1 with
        | el h1 =>
          rename_i b0 o0
          refine ⟨.pointer (some ⟨b0, o0 + off, none⟩), by simp [execOp, hev, fieldAt_run hT ht hf], .el ?_⟩
          obtain ⟨g, hg⟩ := h1
          refine ⟨fun j => g (off + j), fun j y hy => ?_⟩
          rw [List.getElem?_drop] at hy
          obtain ⟨h5, h6, h7, h8⟩ := hg _ y hy
          rw [Nat.add_assoc]
          exact ⟨h5, h6, h7, h8⟩
      · cases h
    · cases h
  case field t x f =>
    split at h
    · rename_i fs z1 z2 z3 ds ht hx
      have h1 := see x (by simp [Op.operands]) _ hx
      generalize hev : a.eval x = vx at h1
      split at h
      · rename_i ft hf
        split at h
        · rename_i j hj
          cases h1 with
          | agg hl hh =>
            rename_i vs
            obtain ⟨d0, hd, hk⟩ := hT.desc t _ ht
            cases d0 <;> simp only [tkOf, TK.struct.injEq, reduceCtorEq] at hk
            rename_i fields
            subst hk
            rw [List.getElem?_map] at hf
            rcases hq : fields.toList[f]? with _ | q
            · rw [hq] at hf; cases hf
            · rw [hq] at hf
              simp only [Option.map_some, Option.some.injEq] at hf
              subst hf
              have hq' : fields[f]? = some q := by simpa using hq
              have hsz := run_sizeOf hT hj e.w
              have hcz : P.cellsOf q.type = j.sz := by
                obtain ⟨i0, hi0, hs0, _⟩ := hT.info _ _ hj
                simp only at hi0
                simp [Program.cellsOf, hi0, hs0]
              unfold partD at h
              simp only [hcz] at h
              cases hag : j.k.agg
              · rw [hag] at h
                simp only [cond_false] at h
                obtain ⟨v, h3, h4⟩ := DReps.get ⟨hl, hh⟩ h
                refine ⟨v, ?_, h4⟩
                simp only at hj
                simp [execOp, hev, Instr.field, run_underlying hd, hq', asAgg, part, run_isAgg hT hj, hag, h3]
              · rw [hag] at h
                simp only [cond_true] at h
                obtain ⟨_, h⟩ := dropK_some h
                obtain ⟨_, h⟩ := takeK_some h
                cases h
                · have hr := (DReps.drop ⟨hl, hh⟩ q.offset).take j.sz
                  refine ⟨.agg ((vs.drop q.offset).take j.sz).toArray, ?_, .agg hr.1 hr.2⟩
                  simp only at hj
                  simp [execOp, hev, Instr.field, run_underlying hd, hq', asAgg, part, run_isAgg hT hj, hag, run_sizeOf hT hj, List.extract_eq_take_drop]
        · cases h
      · cases h
    · cases h
  case call c =>
    split at h
    · rename_i x t hop
      have hop := lenArgs_eq hop
      subst hop
      have hmem : x ∈ (Op.call { callee := .builtin .len, args := #[x], argTypes := #[t] }).operands := by simp [Op.operands, Call.operands]
      have key : ∀ (A : Option Addr) (n c : Nat) (el : TypeId), P.underlying t = some (.slice el) → a.eval x = .slice A n c → (execOp a.eval { dst := dst, op := .call { callee := .builtin .len, args := #[x], argTypes := #[t] }, type := type, pos := pos, after := after, guard := guard }).run P e.w = .ok (.value (.int .i64 n)) e.w := by
        intro A n c el hd hv
        simp [execOp, resolve, invoke, builtin, Builtin.len_, hv, run_underlying hd, goInt]
      split at h
      · rename_i el z1 z2 z3 ex n ps ht hx
        have h1 := see x hmem _ hx
        obtain ⟨d0, hd, hk⟩ := hT.desc t _ ht
        cases d0 <;> simp only [tkOf, reduceCtorEq, TK.slice.injEq] at hk
        generalize hev : a.eval x = vx at h1
        cases h1 with
        | p h1 => cases h1 with
          | sl => cases h; exact ⟨_, key _ _ _ _ hd hev, .p (.raw _)⟩
      · rename_i el z1 z2 z3 g n ps ht hx
        have h1 := see x hmem _ hx
        obtain ⟨d0, hd, hk⟩ := hT.desc t _ ht
        cases d0 <;> simp only [tkOf, reduceCtorEq, TK.slice.injEq] at hk
        generalize hev : a.eval x = vx at h1
        cases h1 with
        | tip h1 _ => cases h1 with
          | sl => cases h; exact ⟨_, key _ _ _ _ hd hev, .p (.raw _)⟩
      · rename_i el z1 z2 z3 b o n c ht hx
        have h1 := see x hmem _ hx
        obtain ⟨d0, hd, hk⟩ := hT.desc t _ ht
        cases d0 <;> simp only [tkOf, reduceCtorEq, TK.slice.injEq] at hk
        generalize hev : a.eval x = vx at h1
        cases h1 with
        | arr h1 => cases h; exact ⟨_, key _ _ _ _ hd hev, .p (.raw _)⟩
      · cases h
    · cases h
  case makeFunc f first caps =>
    obtain ⟨fs, r1, h⟩ := evs_list first.toList _ d (fun x hx => see x (by simp [Op.operands] at *; exact .inl hx)) h
    obtain ⟨cs, r2, h⟩ := evs_list caps.toList _ d (fun x hx => see x (by simp [Op.operands] at *; exact .inr hx)) h
    cases h
    refine ⟨.func f (first.toList.map a.eval).toArray (caps.toList.map a.eval).toArray, ?_, .fn r1.1 r2.1 r1.2 r2.2⟩
    simp [execOp, Instr.makeFunc]
    exact ⟨by apply Array.ext'; simp, by apply Array.ext'; simp⟩
  case nilCheck x =>
    split at h
    · rename_i b o hx
      have h1 := see x (by simp [Op.operands]) _ hx
      generalize hev : a.eval x = vx at h1
      cases h
      cases h1 with
      | ptr h1 => exact ⟨_, by simp only [execOp, hev]; rfl, .ptr h1⟩
    · rename_i ps hx
      have h1 := see x (by simp [Op.operands]) _ hx
      generalize hev : a.eval x = vx at h1
      cases h
      cases h1 with
      | el h1 => exact ⟨_, by simp only [execOp, hev]; rfl, .el h1⟩
    · cases h
end
end Go.Proofs.YtcjooalmhppkiaaRRRR
