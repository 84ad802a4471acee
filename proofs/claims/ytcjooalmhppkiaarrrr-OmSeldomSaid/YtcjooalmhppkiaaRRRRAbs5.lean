/- Calls of functions of which a contract is known; new variables; composite literals; addresses of elements; parts of slices. -/
import Derived.Test.YtcjooalmhppkiaaRRRRAbs4
namespace Go.Proofs.YtcjooalmhppkiaaRRRR
open Go.RowKit

def env0 (w : World) (cl : Nat → Option Nat) : Env := ⟨w, cl, fun _ => none, fun _ => none, fun _ => none⟩

/-- A function that writes nothing that was there: what it is given, what it answers. -/
def PureC (P : Program) (f : FuncId) (ds : List Dt) (d : Dt) : Prop :=
  ∀ (w : World) (cl : Nat → Option Nat) (vs : List Value), DReps (env0 w cl) vs ds →
    Calls P f vs.toArray w (fun r w' => ∃ v cl', r = .returned v ∧ Below w.heap.size w w' ∧ (∀ k, k < w.heap.size → cl' k = cl k) ∧ DRep (env0 w' cl') v d)

def lowP : Pl → Pl
  | .sl _ n ps => .sl false n ps
  | x => x
/-- What may be handed to a function that knows nothing of our variables. -/
def Dt.low : Dt → Option Dt
  | .p x => some (.p (lowP x))
  | .agg ds => (lows ds).map .agg
  | .tup ds => (lows ds).map .tup
  | .el ps => some (.el ps)
  | .tip _ n ps => some (.p (.sl false n ps))
  | .any => some .any
  | .fn f first caps => match lows first, lows caps with
    | some a, some b => some (.fn f a b)
    | _, _ => none
  | _ => none
where lows : List Dt → Option (List Dt)
  | [] => some []
  | d :: ds => match d.low, lows ds with
    | some a, some b => some (a :: b)
    | _, _ => none

/-- The same, written out. -/
def Dt.lowK {α : Type} : Dt → (Dt → Option α) → Option α
  | .p (.raw v), k => k (.p (.raw v))
  | .p (.sl _ n ps), k => k (.p (.sl false n ps))
  | .agg ds, k => lowsK ds fun r => k (.agg r)
  | .tup ds, k => lowsK ds fun r => k (.tup r)
  | .el ps, k => k (.el ps)
  | .tip _ n ps, k => k (.p (.sl false n ps))
  | .any, k => k .any
  | .fn f first caps, k => lowsK first fun a => lowsK caps fun b => k (.fn f a b)
  | _, _ => none
where lowsK {α : Type} : List Dt → (List Dt → Option α) → Option α
  | [], k => k []
  | d :: ds, k => d.lowK fun a => lowsK ds fun b => k (a :: b)

mutual
theorem lowK_eq {α : Type} : ∀ (d : Dt) (k : Dt → Option α), d.lowK k = d.low.bind k
  | .p (.raw v), k => rfl
  | .p (.sl _ n ps), k => rfl
  | .agg ds, k => by
    rw [Dt.lowK, lowsK_eq ds]
    simp only [Dt.low]
    cases Dt.low.lows ds <;> rfl
  | .tup ds, k => by
    rw [Dt.lowK, lowsK_eq ds]
    simp only [Dt.low]
    cases Dt.low.lows ds <;> rfl
  | .el ps, k => rfl
  | .tip _ n ps, k => rfl
  | .any, k => rfl
  | .fn f first caps, k => by
    rw [Dt.lowK, lowsK_eq first]
    simp only [Dt.low]
    cases Dt.low.lows first with
    | none => rfl
    | some a =>
      simp only [Option.bind_some]
      rw [lowsK_eq caps]
      cases Dt.low.lows caps <;> rfl
  | .ptr _ _, k => rfl
  | .arr _ _ _ _, k => rfl
theorem lowsK_eq {α : Type} : ∀ (ds : List Dt) (k : List Dt → Option α), Dt.lowK.lowsK ds k = (Dt.low.lows ds).bind k
  | [], k => rfl
  | d :: ds, k => by
    rw [Dt.lowK.lowsK, lowK_eq d]
    simp only [Dt.low.lows]
    cases d.low with
    | none => rfl
    | some a =>
      simp only [Option.bind_some]
      rw [lowsK_eq ds]
      cases Dt.low.lows ds <;> rfl
end

theorem PRep.env {e e' : Env} (hw : e'.w = e.w) (hc : e'.cl = e.cl) {v : Value} {x : Pl} (h : PRep e v x) : PRep e' v x := by
  induction h with
  | raw v => exact .raw v
  | sl f h1 h2 h3 h4 h5 h6 ih =>
    refine .sl f h1 h2 h3 h4 (fun i x hx => ?_) ih
    obtain ⟨b, o, h7, h8, h9, h10⟩ := h5 i x hx
    exact ⟨b, o, h7, fun k hk => h8 k (by rw [← hc]; exact hk), by rw [hw]; exact h9, h10⟩
theorem PRep.low {e : Env} {v : Value} {x : Pl} (h : PRep e v x) : PRep e v (lowP x) := by
  cases h with
  | raw => exact .raw v
  | sl f h1 h2 h3 h4 h5 h6 => exact .sl f h1 h2 h3 (fun h => by cases h) h5 h6

theorem lows_get : ∀ {ds ds' : List Dt} (_ : Dt.low.lows ds = some ds') {i : Nat} {d' : Dt}, ds'[i]? = some d' → ∃ d, ds[i]? = some d ∧ d.low = some d'
  | [], ds', h, i, d', hi => by simp only [Dt.low.lows, Option.some.injEq] at h; subst h; simp at hi
  | d :: ds, ds', h, i, d', hi => by
    simp only [Dt.low.lows] at h
    split at h
    · rename_i a b ha hb
      cases h
      cases i with
      | zero => simp only [List.getElem?_cons_zero, Option.some.injEq] at hi; subst hi; exact ⟨d, rfl, ha⟩
      | succ i => exact lows_get hb (by simpa using hi)
    · cases h
theorem lows_len : ∀ {ds ds' : List Dt} (_ : Dt.low.lows ds = some ds'), ds'.length = ds.length
  | [], ds', h => by simp only [Dt.low.lows, Option.some.injEq] at h; subst h; rfl
  | d :: ds, ds', h => by
    simp only [Dt.low.lows] at h
    split at h
    · rename_i a b ha hb
      cases h
      simp [lows_len hb]
    · cases h

theorem low_rep {e : Env} {v : Value} {d : Dt} (h : DRep e v d) : ∀ d', d.low = some d' → DRep (env0 e.w e.cl) v d' := by
  induction h with
  | p h => intro d' hd; simp only [Dt.low, Option.some.injEq] at hd; subst hd; exact .p (PRep.env (e := e) (e' := env0 e.w e.cl) rfl rfl h.low)
  | agg hl h ih =>
    intro d' hd
    simp only [Dt.low, Option.map_eq_some_iff] at hd
    obtain ⟨ds', h1, rfl⟩ := hd
    exact .agg (by rw [hl, lows_len h1]) (fun i v d hv hd => by obtain ⟨d0, h2, h3⟩ := lows_get h1 hd; exact ih i v d0 hv h2 d h3)
  | tup hl h ih =>
    intro d' hd
    simp only [Dt.low, Option.map_eq_some_iff] at hd
    obtain ⟨ds', h1, rfl⟩ := hd
    exact .tup (by rw [hl, lows_len h1]) (fun i v d hv hd => by obtain ⟨d0, h2, h3⟩ := lows_get h1 hd; exact ih i v d0 hv h2 d h3)
  | ptr h => intro d' hd; simp [Dt.low] at hd
  | el h =>
    intro d' hd
    simp only [Dt.low, Option.some.injEq] at hd
    subst hd
    obtain ⟨f, hf⟩ := h
    exact .el ⟨f, fun i x hx => by obtain ⟨h1, h2, h3, h4⟩ := hf i x hx; exact ⟨h1, h2, h3, PRep.env (e := e) (e' := env0 e.w e.cl) rfl rfl h4⟩⟩
  | tip h ht => intro d' hd; simp only [Dt.low, Option.some.injEq] at hd; subst hd; exact .p (PRep.env (e := e) (e' := env0 e.w e.cl) rfl rfl h)
  | arr h => intro d' hd; simp [Dt.low] at hd
  | fn hl hl2 h h2 ih ih2 =>
    intro d' hd
    simp only [Dt.low] at hd
    split at hd
    · rename_i a b ha hb
      cases hd
      exact .fn (by rw [hl, lows_len ha]) (by rw [hl2, lows_len hb]) (fun i v d hv hd => by obtain ⟨d0, h3, h4⟩ := lows_get ha hd; exact ih i v d0 hv h3 d h4) (fun i v d hv hd => by obtain ⟨d0, h3, h4⟩ := lows_get hb hd; exact ih2 i v d0 hv h3 d h4)
    · cases hd
  | any => intro d' hd; simp only [Dt.low, Option.some.injEq] at hd; subst hd; exact .any
theorem lows_rep {e : Env} {vs : List Value} {ds ds' : List Dt} (h : DReps e vs ds) (hl : Dt.low.lows ds = some ds') : DReps (env0 e.w e.cl) vs ds' :=
  ⟨by rw [h.1, lows_len hl], fun i v d hv hd => by obtain ⟨d0, h1, h2⟩ := lows_get hl hd; exact low_rep (h.2 i v d0 hv h1) d h2⟩

theorem env0_ends (e : Env) (w : World) (cl : Nat → Option Nat) : Ends (env0 w cl) { e with w := w, cl := cl } :=
  ⟨fun _ _ _ h1 h2 => ⟨h1, h2⟩, fun _ _ h => (by cases h), fun _ _ h => (by cases h), fun _ _ _ _ h => (by cases h)⟩

section
variable {P : Program} {T : Nat → Option TI} {S : Nat → Option Dt} {B : Nat → Option (List Dt)}

theorem pure_post {P : Program} {f : FuncId} {ds d : _} (hc : PureC P f ds d) {e : Env} {vs : List Value} (hv : DReps (env0 e.w e.cl) vs ds) {o : Oper} {a : Act} :
    Calls P f vs.toArray e.w fun
      | .returned v, w'' => ∃ v' e', a.put o.dst v = a.put o.dst v' ∧ e'.w = w'' ∧ QPost e e' v' d none
      | .panicked _, _ => False
      | .outgrown, _ => LetsOut (fun _ _ _ => False) := by
  refine (hc e.w e.cl vs hv).mono fun r w' hh => ?_
  obtain ⟨v, cl', rfl, hb, hcl, hr⟩ := hh
  exact ⟨v, { e with w := w', cl := cl' }, rfl, rfl, ⟨hb, hcl, rfl, rfl, rfl⟩, hr.next (env0_ends e w' cl')⟩

/-- A call of a function by its contract. -/
theorem call_step {o : Oper} {f : FuncId} {xs : List Operand} {ats : Array TypeId} {ds : List Dt} {d : Dt} (hc : PureC P f ds d) (ho : o.op = .call { callee := .value (.func f), args := xs.toArray, argTypes := ats }) (hf : EntersP P f) (he : evsK S xs Dt.low.lows = some ds) : QStep P o S B d none := by
  intro a e hs _
  obtain ⟨ds0, hr, hl⟩ := evs_list xs _ ds (fun x hx => hs.1 x (by rw [ho]; simp [Op.operands, Call.operands, hx])) he
  unfold Oper.wp
  have e1 : (execOp a.eval o).run P e.w = .ok (.enter f (xs.map a.eval).toArray) e.w := by
    obtain ⟨dst, op, type, pos, after, guard⟩ := o
    simp only at ho
    subst ho
    rw [execOp_call_go, hf]
    simp
  rw [e1]
  exact pure_post hc (lows_rep hr hl)

/-- A call of a function value by its contract. -/
theorem callv_step {o : Oper} {f : FuncId} {g : Operand} {xs : List Operand} {ats : Array TypeId} {ds first caps : List Dt} {d : Dt} (hc : PureC P f ds d) (ho : o.op = .call { callee := .value g, args := xs.toArray, argTypes := ats }) (hf : EntersP P f) (hg : ev S g = some (.fn (.func f) first caps)) (he : evsK S xs (fun ds0 => Dt.low.lows (first ++ ds0 ++ caps)) = some ds) : QStep P o S B d none := by
  intro a e hs _
  obtain ⟨ds0, hr, hl⟩ := evs_list xs _ ds (fun x hx => hs.1 x (by rw [ho]; simp [Op.operands, Call.operands, hx])) he
  have hgv := hs.1 g (by rw [ho]; simp [Op.operands, Call.operands]) _ hg
  generalize hev : a.eval g = gv at hgv
  cases hgv with
  | fn hl1 hl2 h1 h2 =>
    rename_i us vs
    have hall : DReps e (us ++ xs.map a.eval ++ vs) (first ++ ds0 ++ caps) := (DReps.append ⟨hl1, h1⟩ hr).append ⟨hl2, h2⟩
    unfold Oper.wp
    have e1 : (execOp a.eval o).run P e.w = .ok (.enter f (us ++ xs.map a.eval ++ vs).toArray) e.w := by
      obtain ⟨dst, op, type, pos, after, guard⟩ := o
      simp only at ho
      subst ho
      simp only [execOp, resolve, hev, Deferred.ofValue, Sem.run_bind, Sem.run_pure, Result.andThen_ok, invoke]
      rw [hf]
      simp
    rw [e1]
    exact pure_post hc (lows_rep hall hl)

/-- A new block. -/
def Env.alloc (e : Env) (o : Obj) (c : Option Nat) : Env := { e with w := e.w.alloc o, cl := fun k => if k = e.w.heap.size then c else e.cl k }
theorem Env.alloc_grow (e : Env) (o : Obj) (c : Option Nat) : Grow e (e.alloc o c) :=
  ⟨(Below.refl _ _).alloc (Nat.le_refl _) _, fun k hk => by show (if k = e.w.heap.size then c else e.cl k) = _; rw [if_neg (by omega)], rfl, rfl, rfl⟩

/-- A new variable. -/
theorem qpost_newBox {e : Env} {us : List Value} {ds : List Dt} {t : TypeId} {b : Nat} (hr : DReps e us ds) (hb : e.bx b = none) :
    QPost e ((e.alloc (.cells us.toArray t) (some 0)).withBox b e.w.heap.size) (.pointer (some ⟨e.w.heap.size, 0, none⟩)) (.ptr b 0) (some (b, ds)) := by
  have hg := Env.alloc_grow e (.cells us.toArray t) (some 0)
  have hb' : (e.alloc (.cells us.toArray t) (some 0)).bx b = none := by rw [hg.bx]; exact hb
  refine ⟨_, e.w.heap.size, hg, Nat.le_refl _, by simp [Env.alloc], by simp [Env.alloc], rfl, ⟨e.w.heap.size, us, t, ?_, ?_, ?_⟩, .ptr ?_⟩
  · simp [Env.withBox]
  · exact heap_alloc_new e.w _
  · exact (hr.next hg.ends).next (withBox_ends hb')
  · simp [Env.withBox]

def okCells : Dt → Bool
  | .agg _ => true
  | d => d.leaf
theorem okCells_rep {e : Env} {v : Value} {d : Dt} (h : DRep e v d) (hk : okCells d = true) : DReps e v.cells.toList d.cells := by
  refine cells_rep h ?_
  cases d <;> first | exact .inl hk | exact .inr ⟨_, rfl⟩
def cellsK {α : Type} (d : Dt) (k : List Dt → Option α) : Option α := match d with
  | .agg ds => k ds
  | d => k [d]
theorem cellsK_eq {α : Type} (d : Dt) (k : List Dt → Option α) : cellsK d k = k d.cells := by cases d <;> rfl
theorem box_step {o : Oper} {t : TypeId} {x : Operand} (b : Nat) {dx : Dt} {cs : List Dt} (ho : o.op = .box t x) (hx : ev S x = some dx) (hk : okCells dx = true) (hcs : cellsK dx some = some cs) : QStep P o S B (.ptr b 0) (some (b, cs)) := by
  rw [cellsK_eq] at hcs
  cases hcs
  intro a e hs hnb
  have h1 := hs.1 x (by rw [ho]; simp [Op.operands]) _ hx
  have hr := okCells_rep h1 hk
  unfold Oper.wp
  have e1 : (execOp a.eval o).run P e.w = .ok (.value (.pointer (some ⟨e.w.heap.size, 0, none⟩))) (e.w.alloc (.cells (a.eval x).cells t)) := by
    obtain ⟨dst, op, type, pos, after, guard⟩ := o
    simp only at ho
    subst ho
    simp [execOp, Instr.box, newVar, newRow]
  rw [e1]
  refine ⟨_, (e.alloc (.cells (a.eval x).cells.toList.toArray t) (some 0)).withBox b e.w.heap.size, rfl, by simp [Env.withBox, Env.alloc], qpost_newBox hr (hnb _ rfl)⟩
theorem alloc_step (hT : TabOk P T) {o : Oper} {t : TypeId} (b : Nat) {i : TI} {cs : List Dt} (ho : o.op = .alloc t) (ht : T t = some i) (hk : okCells (constD i.zero) = true) (hcs : constK i.zero (fun d => cellsK d some) = some cs) : QStep P o S B (.ptr b 0) (some (b, cs)) := by
  rw [constK_eq, cellsK_eq] at hcs
  cases hcs
  intro a e hs hnb
  have hr := okCells_rep (constD_rep e i.zero) hk
  unfold Oper.wp
  have e1 : (execOp a.eval o).run P e.w = .ok (.value (.pointer (some ⟨e.w.heap.size, 0, none⟩))) (e.w.alloc (.cells i.zero.cells t)) := by
    obtain ⟨dst, op, type, pos, after, guard⟩ := o
    simp only at ho
    subst ho
    simp [execOp, Instr.alloc, run_zeroValue hT ht, newVar, newRow]
  rw [e1]
  refine ⟨_, (e.alloc (.cells i.zero.cells.toList.toArray t) (some 0)).withBox b e.w.heap.size, rfl, by simp [Env.withBox, Env.alloc], qpost_newBox hr (hnb _ rfl)⟩

/-- Elements of a slice. -/
theorem sl_open {e : Env} {v : Value} {ex : Bool} {n : Nat} {ps : List Pl} (h : PRep e v (.sl ex n ps)) : ∃ A cap, v = .slice A n cap ∧ n ≤ cap ∧ cap ≤ maxLen ∧ (A = none → cap = 0) ∧ (ex = true → cap = n) ∧ (ps = [] ∨ ∃ b o, A = some ⟨b, o, none⟩ ∧ ElAt e b o ps) := by
  cases h with
  | sl f h1 h2 h3 h4 h5 h6 =>
    refine ⟨_, _, rfl, h1, h2, h3, h4, ?_⟩
    rcases ps with _ | ⟨x, ps⟩
    · exact .inl rfl
    · obtain ⟨b, o, hA, _⟩ := h5 0 x rfl
      refine .inr ⟨b, o, hA, f, fun i y hy => ?_⟩
      obtain ⟨b', o', hA', h7, h8, h9⟩ := h5 i y hy
      rw [hA] at hA'
      cases hA'
      exact ⟨h7, h8, h9, h6 i y hy⟩
theorem sl_shut {e : Env} {A : Option Addr} {ex : Bool} {n cap : Nat} {ps : List Pl} (h1 : n ≤ cap) (h2 : cap ≤ maxLen) (h3 : A = none → cap = 0) (h4 : ex = true → cap = n) (h5 : ps = [] ∨ ∃ b o, A = some ⟨b, o, none⟩ ∧ ElAt e b o ps) : PRep e (.slice A n cap) (.sl ex n ps) := by
  rcases h5 with rfl | ⟨b, o, hA, f, hf⟩
  · exact .sl (fun _ => undef) h1 h2 h3 h4 (fun i x h => by simp at h) (fun i x h => by simp at h)
  · exact .sl f h1 h2 h3 h4 (fun i x hx => by obtain ⟨h6, h7, h8, _⟩ := hf i x hx; exact ⟨b, o, hA, h6, h7, h8⟩) (fun i x hx => (hf i x hx).2.2.2)
theorem ElAt.part {e : Env} {b o : Nat} {ps qs : List Pl} (h : ElAt e b o ps) (m : Nat) (hq : ∀ (j : Nat) q, qs[j]? = some q → ps[m + j]? = some q) : ElAt e b (o + m) qs := by
  obtain ⟨f, hf⟩ := h
  refine ⟨fun j => f (m + j), fun j q hj => ?_⟩
  obtain ⟨h1, h2, h3, h4⟩ := hf _ q (hq j q hj)
  rw [Nat.add_assoc]
  exact ⟨h1, h2, h3, h4⟩

/-- A slice that reads so. -/
def slOf : Dt → Option (Nat × List Pl)
  | .p (.sl _ n ps) => some (n, ps)
  | .tip _ n ps => some (n, ps)
  | _ => none
theorem slOf_rep {e : Env} {v : Value} {d : Dt} {n : Nat} {ps : List Pl} (h : DRep e v d) (hd : slOf d = some (n, ps)) : PRep e v (.sl false n ps) := by
  cases h with
  | p h => cases h with
    | raw => cases hd
    | sl f h1 h2 h3 h4 h5 h6 => cases hd; exact .sl f h1 h2 h3 (fun h => by cases h) h5 h6
  | tip h _ => cases hd; exact h
  | _ => cases hd

theorem indexAddr_step (hT : TabOk P T) {o : Oper} {t el : TypeId} {x y : Operand} {dx : Dt} {n : Nat} {ps : List Pl} {k : IntKind} {i : Int} {z1 z2 : Nat} {z3 : Value} {j : TI} (qs : List Pl) (ho : o.op = .indexAddr t x y) (ht : T t = some ⟨.slice el, z1, z2, z3⟩) (he : T el = some j)
    (hx : ev S x = some dx) (hd : slOf dx = some (n, ps)) (hy : ev S y = some (.p (.raw (.int k i)))) (h0 : 0 ≤ i) (hlt : i < n) (hq0 : qs ≠ []) (hq : ∀ (m : Nat) q, qs[m]? = some q → ps[i.toNat * j.sz + m]? = some q) : QStep P o S B (.el qs) none := by
  refine qstep_run fun a e hs => ?_
  have h1 := slOf_rep (hs.1 x (by rw [ho]; simp [Op.operands]) _ hx) hd
  have h2 := raw_eq (hs.1 y (by rw [ho]; simp [Op.operands]) _ hy)
  obtain ⟨A, cap, hv, _, _, _, _, hA⟩ := sl_open h1
  rcases hA with rfl | ⟨b, of, rfl, hel⟩
  · rcases qs with _ | ⟨q, qs⟩
    · exact absurd rfl hq0
    · have := hq 0 q rfl; simp at this
  obtain ⟨d0, hd0, hk⟩ := hT.desc t _ ht
  cases d0 <;> simp only [tkOf, reduceCtorEq, TK.slice.injEq] at hk
  subst hk
  refine ⟨.pointer (some ⟨b, of + i.toNat * j.sz, none⟩), ?_, .el (hel.part _ hq)⟩
  obtain ⟨dst, op, type, pos, after, guard⟩ := o
  simp only at ho
  subst ho
  simp [execOp, Instr.indexAt, h2, hv, asIntOf, run_underlying hd0, h0, hlt, run_sizeOf hT he, add_none]
end
end Go.Proofs.YtcjooalmhppkiaaRRRR
