/- Contracts of functions that write, panic, recover; sets told by maps; how arguments are opened. -/
import Derived.Test.YtkkldicehapklaaGreatLib2
import Derived.Recover
import Derived.MapKept
import Derived.ChangeKeysEq
section
/- Less is known of slots and variables; a variable's slice to which may be appended. -/
namespace Go.Proofs.YtkkldicehapklaaGreat
open Go.RowKit
section
variable {P : Program} {T : Nat → Option TI} {Γ : Ctx} {σ : St}
def lowD : Dt → Dt
 | .tip _ n ps => .p (.sl false n ps)
 | .p x => .p (lowP x)
 | d => d
theorem kL6 {e : Env} {v : Value} {d : Dt} (h : DRep e v d) : DRep e v (lowD d) := by
 cases h with
 | p h => exact .p h.low
 | tip h _ => exact .p h
 | agg hl h => exact .agg hl h
 | tup hl h => exact .tup hl h
 | ptr h => exact .ptr h
 | el h => exact .el h
 | arr h => exact .arr h
 | fn a b c d => exact .fn a b c d
 | any => exact .any
theorem kK6 (t : Nat) {d d' : Dt} (ht : kv σ.s t = some d) (hd : lowD d = d') : Ghost Γ σ ⟨(t, d') :: σ.s, σ.b, σ.g⟩ := by
 intro a e hc
 refine ⟨e, rfl, hc.size, hc.df, fun u c hu => ?_, hc.boxes, hc.nobox, hc.gs, hc.env⟩
 simp only [jU] at hu
 split at hu
 ·rename_i htu
  subst htu
  cases hu
  rw [← hd]
  exact kL6 (hc.slots _ _ ht)
 ·exact hc.slots u c hu
theorem uA (nm : Nat) {cs cs' : List Dt} (hb : kv σ.b nm = some cs) (hd : cs.map lowD = cs') : Ghost Γ σ ⟨σ.s, (nm, cs') :: σ.b, σ.g⟩ := by
 intro a e hc
 refine ⟨e, rfl, hc.size, hc.df, hc.slots, fun u c hu => ?_, fun u hu => ?_, hc.gs, hc.env⟩
 ·simp only [jU] at hu
  split at hu
  ·rename_i htu
   subst htu
   cases hu
   obtain ⟨k, vs, el, h1, h2, h3, h4⟩ := hc.boxes _ _ hb
   refine ⟨k, vs, el, h1, h2, by rw [← hd, List.length_map]; exact h3, fun i v d hv hdd => ?_⟩
   rw [← hd, List.getElem?_map] at hdd
   cases hcs : cs[i]? with
   | none => rw [hcs] at hdd; cases hdd
   | some x => rw [hcs] at hdd; cases hdd; exact kL6 (h4 i v x hv hcs)
  ·exact hc.boxes u c hu
 ·simp only [jU] at hu
  split at hu
  ·cases hu
  ·exact hc.nobox u hu
end
end Go.Proofs.YtkkldicehapklaaGreat
end
section
/- Calls that may end by a panic: their contracts, how they are called and walked; values behind interfaces. -/
namespace Go.Proofs.YtkkldicehapklaaGreat
open Go.RowKit
section
variable {P : Program} {T : Nat → Option TI} {Γ : Ctx} {σ σ' τ : St} {o : Oper} {l0 l : List Oper} {Q : Exit → St → Prop}
variable {s s' : List (Nat × Dt)} {b b' : List (Nat × List Dt)} {g : List (Nat × Gr)} {t : Nat} {d : Dt}
abbrev pe (v : Value) : PanicEntry := { v := v, recovered := false }
abbrev Bxs := List (Nat × List Dt)
def ImpX (P : Program) (f : FuncId) (keep : List Nat) (ds : List Dt) (bs : Bxs) (R : Dt → Bxs → Prop) (X : Value → Bxs → Prop) : Prop :=
 ∀ (e : Env) (vs : List Value), jA7 bs e → DReps e vs ds →
  Calls P f vs.toArray e.w (fun r w' => (∃ v d bs' e', r = .returned v ∧ e'.w = w' ∧ R d bs' ∧ jA7 bs' e' ∧ DRep e' v d ∧ jN3 keep e e') ∨ ∃ v bs' e', r = .panicked [pe v] ∧ e'.w = w' ∧ X v bs' ∧ jA7 bs' e' ∧ jN3 keep e e')
theorem ImpC.x {f : FuncId} {keep : List Nat} {ds : List Dt} {bs : Bxs} {R : Dt → Bxs → Prop} {X : Value → Bxs → Prop} (h : ImpC P f keep ds bs R) : ImpX P f keep ds bs R X := fun e vs h1 h2 => (h e vs h1 h2).mono fun _ _ hh => .inl hh
theorem ImpX.c {f : FuncId} {keep : List Nat} {ds : List Dt} {bs : Bxs} {R : Dt → Bxs → Prop} (h : ImpX P f keep ds bs R fun _ _ => False) : ImpC P f keep ds bs R := fun e vs h1 h2 => (h e vs h1 h2).mono fun _ _ hh => hh.elim id fun ⟨_, _, _, _, _, hx, _⟩ => hx.elim
theorem ImpX.mono {f : FuncId} {keep : List Nat} {ds : List Dt} {bs : Bxs} {R R' : Dt → Bxs → Prop} {X X' : Value → Bxs → Prop} (h : ImpX P f keep ds bs R X) (hR : ∀ d bs', R d bs' → R' d bs') (hX : ∀ v bs', X v bs' → X' v bs') : ImpX P f keep ds bs R' X' := fun e vs h1 h2 => (h e vs h1 h2).mono fun _ _ hh => by
 rcases hh with ⟨v, d, bs', e', q1, q2, q3, q4⟩ | ⟨v, bs', e', q1, q2, q3, q4⟩
 ·exact .inl ⟨v, d, bs', e', q1, q2, hR _ _ q3, q4⟩
 ·exact .inr ⟨v, bs', e', q1, q2, hX _ _ q3, q4⟩
theorem impX_core {f : FuncId} {keep : List Nat} {ds : List Dt} {bs : Bxs} {R : Dt → Bxs → Prop} {X : Value → Bxs → Prop} (hC : ImpX P f keep ds bs R X) {e : Env} {a : Act} (hc : Conc Γ ⟨s, b, g⟩ e a) {vs : List Value} (hv : DReps e vs ds) (hok : Dt.ok.oks (jM bs) (fun _ => false) ds = true) (hs : SubH ⟨s, b, g⟩ (jM bs) bs) (hkb : KeepOk keep bs Γ.kb)
  (hd : o.dst = some t) (hl : Nat.blt t Γ.n = true) (hcut : wH (fun b => !jM bs b || inL keep b) s (fun s' => jA3 (jM bs) (fun b => !jM bs b || inL keep b) b (fun b' => some (s', b'))) = some (s', b'))
  (hfree : ∀ d bs', R d bs' → FreeIn bs b bs') (hfreeX : ∀ v bs', X v bs' → FreeIn bs b bs') {Q' : Exit → Act → World → Prop} :
  Calls P f vs.toArray e.w fun
   | .returned v, w'' => ∃ d bs' e', R d bs' ∧ e'.w = w'' ∧ Conc Γ ⟨(t, d) :: s', bs' ++ b', g⟩ e' (a.put o.dst v)
   | .panicked ch, w'' => ∃ v bs' e', ch = [pe v] ∧ X v bs' ∧ e'.w = w'' ∧ Conc Γ ⟨s', bs' ++ b', g⟩ e' a
   | .outgrown, _ => LetsOut Q' := by
 rw [jB3, jB8] at hcut
 cases hcut
 refine (hC (e.cut (jM bs) fun _ => false) vs (uC hc hs) ⟨hv.1, fun i v d h1 h2 => (hv.2 i v d h1 h2).cut (xR hok h2)⟩).mono fun r w' hh => ?_
 rcases hh with ⟨v, d, bs', e', rfl, rfl, hR, hI, hr, hL⟩ | ⟨v, bs', e', rfl, rfl, hX, hI, hL⟩
 ·obtain ⟨h1, h2⟩ := hc.after hI hL (fun n hn => (hfree d bs' hR).get hn) (fun n k h1 h2 => hkb.get h1 h2)
  refine ⟨d, bs', e.after e' bs bs', hR, rfl, ?_⟩
  have := h1.put (dst := o.dst) (jC5 hd hl) (hr.next h2)
  rw [hd] at this ⊢
  exact this
 ·obtain ⟨h1, _⟩ := hc.after hI hL (fun n hn => (hfreeX v bs' hX).get hn) (fun n k h1 h2 => hkb.get h1 h2)
  exact ⟨v, bs', e.after e' bs bs', rfl, hX, rfl, h1⟩
theorem callX_run {f : FuncId} {R : Dt → Bxs → Prop} {X : Value → Bxs → Prop} (hg : gd l0 o (kv s) = some true) (hrun : ∀ (a : Act) (e : Env), Conc Γ ⟨s, b, g⟩ e a → ∃ vs : List Value, (execOp a.eval o).run P e.w = .ok (.enter f vs.toArray) e.w ∧ ∀ Q' : Exit → Act → World → Prop, Calls P f vs.toArray e.w fun
   | .returned v, w'' => ∃ d bs' e', R d bs' ∧ e'.w = w'' ∧ Conc Γ ⟨(t, d) :: s', bs' ++ b', g⟩ e' (a.put o.dst v)
   | .panicked ch, w'' => ∃ v bs' e', ch = [pe v] ∧ X v bs' ∧ e'.w = w'' ∧ Conc Γ ⟨s', bs' ++ b', g⟩ e' a
   | .outgrown, _ => LetsOut Q')
  (h : ∀ d bs', R d bs' → zY P Γ l0 Q l ⟨(t, d) :: s', bs' ++ b', g⟩) (hx : ∀ v bs', X v bs' → Q (.panic [pe v]) ⟨s', bs' ++ b', g⟩) : zY P Γ l0 Q (o :: l) ⟨s, b, g⟩ := by
 refine ⟨fun a e hc => ?_⟩
 unfold wpList
 rw [if_pos (qN hc hg)]
 refine .inl ?_
 obtain ⟨vs, e1, hC⟩ := hrun a e hc
 unfold Oper.wp
 rw [e1]
 refine (hC (jE4 Γ Q)).mono fun r w' hh => ?_
 cases r with
 | returned v =>
  obtain ⟨d, bs', e', hR, rfl, hc'⟩ := hh
  exact (h d bs' hR).run _ e' hc'
 | panicked ch =>
  obtain ⟨v, bs', e', rfl, hX, rfl, hc'⟩ := hh
  exact ⟨_, e', rfl, hc', hx v bs' hX⟩
 | outgrown => exact hh
theorem a_callX {f : FuncId} {keep : List Nat} {ds : List Dt} {bs : Bxs} {R : Dt → Bxs → Prop} {X : Value → Bxs → Prop} {xs : List Operand} {ats : Array TypeId} (hC : ImpX P f keep ds bs R X) (ho : o.op = .call { callee := .value (.func f), args := xs.toArray, argTypes := ats }) (hf : uH P f) (he : jK4 (kv s) xs some = some ds) (hok : Dt.ok.oks (jM bs) (fun _ => false) ds = true) (hs : SubH ⟨s, b, g⟩ (jM bs) bs) (hkb : KeepOk keep bs Γ.kb)
  (hg : gd l0 o (kv s) = some true) (hd : o.dst = some t) (hl : Nat.blt t Γ.n = true) (hcut : wH (fun b => !jM bs b || inL keep b) s (fun s' => jA3 (jM bs) (fun b => !jM bs b || inL keep b) b (fun b' => some (s', b'))) = some (s', b'))
  (hfree : ∀ d bs', R d bs' → FreeIn bs b bs') (hfreeX : ∀ v bs', X v bs' → FreeIn bs b bs') (hx : ∀ v bs', X v bs' → Q (.panic [pe v]) ⟨s', bs' ++ b', g⟩) (h : ∀ d bs', R d bs' → zY P Γ l0 Q l ⟨(t, d) :: s', bs' ++ b', g⟩) : zY P Γ l0 Q (o :: l) ⟨s, b, g⟩ := by
 refine callX_run (f := f) hg (fun a e hc => ?_) h hx
 have hsee := hc.sees o.op.operands
 have hv := jK6 (a := a) (e := e) xs (fun x hx => hsee.1 x (by rw [ho]; simp [Op.operands, Call.operands, hx])) he
 refine ⟨xs.map a.eval, ?_, fun Q' => impX_core hC hc hv hok hs hkb hd hl hcut hfree hfreeX⟩
 obtain ⟨dst, op, type, pos, after, guard⟩ := o
 simp only at ho
 subst ho
 rw [execOp_call_go, hf]
 simp
theorem vF {f : FuncId} {keep : List Nat} {ds first caps : List Dt} {bs : Bxs} {R : Dt → Bxs → Prop} {X : Value → Bxs → Prop} {fo : Operand} {xs : List Operand} {ats : Array TypeId} (hC : ImpX P f keep ds bs R X) (ho : o.op = .call { callee := .value fo, args := xs.toArray, argTypes := ats }) (hf : uH P f) (hfo : ev (kv s) fo = some (.fn (.func f) first caps)) (he : jK4 (kv s) xs (fun ds0 => appK first ds0 fun r => appK r caps some) = some ds) (hok : Dt.ok.oks (jM bs) (fun _ => false) ds = true) (hs : SubH ⟨s, b, g⟩ (jM bs) bs) (hkb : KeepOk keep bs Γ.kb)
  (hg : gd l0 o (kv s) = some true) (hd : o.dst = some t) (hl : Nat.blt t Γ.n = true) (hcut : wH (fun b => !jM bs b || inL keep b) s (fun s' => jA3 (jM bs) (fun b => !jM bs b || inL keep b) b (fun b' => some (s', b'))) = some (s', b'))
  (hfree : ∀ d bs', R d bs' → FreeIn bs b bs') (hfreeX : ∀ v bs', X v bs' → FreeIn bs b bs') (hx : ∀ v bs', X v bs' → Q (.panic [pe v]) ⟨s', bs' ++ b', g⟩) (h : ∀ d bs', R d bs' → zY P Γ l0 Q l ⟨(t, d) :: s', bs' ++ b', g⟩) : zY P Γ l0 Q (o :: l) ⟨s, b, g⟩ := by
 refine callX_run (f := f) hg (fun a e hc => ?_) h hx
 have hsee := hc.sees o.op.operands
 obtain ⟨ds0, hr, hds⟩ := xI (a := a) (e := e) xs _ ds (fun x hx => hsee.1 x (by rw [ho]; simp [Op.operands, Call.operands, hx])) he
 rw [wQ, wQ] at hds
 cases hds
 have hgv := hsee.1 fo (by rw [ho]; simp [Op.operands, Call.operands]) _ hfo
 generalize hev : a.eval fo = gv at hgv
 cases hgv with
 | fn hl1 hl2 h1 h2 =>
  rename_i us vs
  have hall : DReps e (us ++ xs.map a.eval ++ vs) (first ++ ds0 ++ caps) := (DReps.append ⟨hl1, h1⟩ hr).append ⟨hl2, h2⟩
  refine ⟨us ++ xs.map a.eval ++ vs, ?_, fun Q' => impX_core hC hc hall hok hs hkb hd hl hcut hfree hfreeX⟩
  obtain ⟨dst, op, type, pos, after, guard⟩ := o
  simp only at ho
  subst ho
  simp only [execOp, resolve, hev, Deferred.ofValue, Sem.run_bind, Sem.run_pure, Result.andThen_ok, invoke]
  rw [hf]
  simp
/-! ### Walking such a function -/
def FinX (T : Nat → Option TI) (rs : List ResultVar) (keep : List Nat) (R : Dt → Bxs → Prop) (X : Value → Bxs → Prop) : Exit → St → Prop
 | .normal, σ | .ret, σ => ∃ d bs', resI T σ rs = some d ∧ d.ok (jM bs') (fun _ => false) = true ∧ SubH σ (jM bs') bs' ∧ NamesIn bs' keep ∧ R d bs'
 | .panic ch, σ => ∃ v bs', ch = [pe v] ∧ SubH σ (jM bs') bs' ∧ NamesIn bs' keep ∧ X v bs'
 | _, _ => False
theorem finX_ret {rs : List ResultVar} {keep : List Nat} {R : Dt → Bxs → Prop} {X : Value → Bxs → Prop} (bs' : Bxs) (h : resI T σ rs = some d) (h1 : d.ok (jM bs') (fun _ => false) = true) (h2 : SubH σ (jM bs') bs') (h3 : NamesIn bs' keep) (hR : R d bs') : FinX T rs keep R X .ret σ := ⟨d, bs', h, h1, h2, h3, hR⟩
theorem kE3 {rs : List ResultVar} {keep : List Nat} {R : Dt → Bxs → Prop} {X : Value → Bxs → Prop} (bs' : Bxs) (h : resI T σ rs = some d) (h1 : d.ok (jM bs') (fun _ => false) = true) (h2 : SubH σ (jM bs') bs') (h3 : NamesIn bs' keep) (hR : R d bs') : FinX T rs keep R X .normal σ := ⟨d, bs', h, h1, h2, h3, hR⟩
theorem finX_panic {rs : List ResultVar} {keep : List Nat} {R : Dt → Bxs → Prop} {X : Value → Bxs → Prop} {v : Value} (bs' : Bxs) (h2 : SubH σ (jM bs') bs') (h3 : NamesIn bs' keep) (hX : X v bs') : FinX T rs keep R X (.panic [pe v]) σ := ⟨v, bs', rfl, h2, h3, hX⟩
theorem q_then_panic {K : St → Prop} {ch : List PanicEntry} (h : Q (.panic ch) σ) : jR0 K Q (.panic ch) σ := h
theorem kN6 {id : Nat} {ch : List PanicEntry} (h : Q (.panic ch) σ) : jD4 id Q (.panic ch) σ := h
theorem kN5 {ch : List PanicEntry} (h : Q (.panic ch) σ) : kC3 Q (.panic ch) σ := h
theorem xV {f : FuncId} {fn : Func} {ds : List Dt} {keep : List Nat} {bs : Bxs} (dn : List Deferred) (hn : ds.length ≤ fn.ntmps) (hkeep : NamesIn bs keep) {e : Env} {vs : List Value} (hI : jA7 bs e) (hv : DReps e vs ds) (_ : f = f) :
  Conc ⟨fn.ntmps, e.w, e.cl, fun k => ∃ b, e.bx b = some k, jN0 (fun b => (e.bx b).getD 0) keep, dn⟩ ⟨enum.go 0 ds, bs, []⟩ e { tmps := vs.toArray ++ Array.replicate (fn.ntmps - vs.toArray.size) undef, defers := dn } := by
 have hl : vs.length = ds.length := hv.1
 refine ⟨by simp; omega, rfl, fun t d0 ht => ?_, hI.boxes, hI.nobox, fun g => by rw [hI.gi]; rfl, ⟨Kept.refl _ _, fun _ _ _ => rfl, fun b k hk => ⟨(hI.bx b k hk).1, .inr ⟨b, hk⟩, (hI.bx b k hk).2, hI.gr k⟩, hI.inj, fun k g hk => (by rw [hI.gr] at hk; cases hk), fun b k hk => ?_⟩⟩
 ·obtain ⟨_, h2⟩ := jP4 ds 0 t d0 ht
  simp only [Nat.sub_zero] at h2
  obtain ⟨v, h3, h4⟩ := hv.get h2
  have htl : t < vs.length := (List.getElem?_eq_some_iff.1 h3).1
  have : uI { tmps := vs.toArray ++ Array.replicate (fn.ntmps - vs.toArray.size) undef, defers := dn } t = v := by
   unfold uI
   simp only [Array.getD_eq_getD_getElem?]
   rw [Array.getElem?_append_left (by simpa using htl), List.getElem?_toArray, h3]
   rfl
  rw [this]
  exact h4
 ·obtain ⟨h1, h2⟩ := jM3 hk
  rw [h2]
  have h1' := hkeep.get h1
  obtain ⟨cs, hcs⟩ := Option.isSome_iff_exists.1 h1'
  obtain ⟨k', _, _, h3, _⟩ := hI.boxes b cs hcs
  rw [h3]; rfl
theorem jV8 {keep : List Nat} {bs bs' : Bxs} {n : Nat} {dn : List Deferred} {e e' : Env} {a : Act} (hI : jA7 bs e) (hkeep : NamesIn bs keep) (hc : Conc ⟨n, e.w, e.cl, fun k => ∃ b, e.bx b = some k, jN0 (fun b => (e.bx b).getD 0) keep, dn⟩ σ e' a) (h7 : NamesIn bs' keep) : jN3 keep e (e'.cut (jM bs') fun _ => false) := by
 refine ⟨hc.env.kept, hc.env.cl, fun b k hk => ?_, fun b hb => ?_⟩
 ·have hk' : (if jM bs' b = true then e'.bx b else none) = some k := hk
  split at hk'
  ·exact (hc.env.bx b k hk').2.1
  ·cases hk'
 ·show (if jM bs' b = true then e'.bx b else none) = _
  have h1' := hkeep.get hb
  obtain ⟨cs, hcs⟩ := Option.isSome_iff_exists.1 h1'
  obtain ⟨k', _, _, h3, _⟩ := hI.boxes b cs hcs
  rw [if_pos (h7.get hb), hc.env.kb b _ (jG5 hb), h3]; rfl
theorem impX_fin (hT : kU P T) {f : FuncId} {fn : Func} {c : Code} {ds : List Dt} {keep : List Nat} {bs : Bxs} {R : Dt → Bxs → Prop} {X : Value → Bxs → Prop} {rs : List ResultVar} {n : Nat} {s : List (Nat × Dt)} (hf : P.funcs[f]? = some fn) (hb : fn.body = some c) (hnn : fn.ntmps = n) (hrs : fn.results.toList = rs) (hn : Nat.ble ds.length n = true) (hs : jW8 0 ds some = some s) (hkeep : NamesIn bs keep)
  (h : ∀ w cl own kf, AWP P ⟨n, w, cl, own, jN0 kf keep, []⟩ c (FinX T rs keep R X) ⟨s, bs, []⟩) : ImpX P f keep ds bs R X := by
 subst hnn
 subst hrs
 rw [jL8] at hs
 cases hs
 have hn := Nat.le_of_ble_eq_true hn
 intro e vs hI hv
 refine calls_of_wp hf hb ?_
 have hc := xV (fn := fn) (f := f) (keep := keep) [] hn hkeep hI hv rfl
 refine Code.wp_mono (fun ex a' w' hh => ?_) ((h e.w e.cl _ _).run _ e hc)
 obtain ⟨σ', e', rfl, h2, h3⟩ := hh
 have hret : (∃ d bs', resI T σ' fn.results.toList = some d ∧ d.ok (jM bs') (fun _ => false) = true ∧ SubH σ' (jM bs') bs' ∧ NamesIn bs' keep ∧ R d bs') → a'.defers = [] ∧ ∃ v, (results fn a'.tmps).run P e'.w = .ok v e'.w ∧ ((∃ v' d bs' e'', Ending.returned v = .returned v' ∧ e''.w = e'.w ∧ R d bs' ∧ jA7 bs' e'' ∧ DRep e'' v' d ∧ jN3 keep e e'') ∨ ∃ v' bs' e'', Ending.returned v = .panicked [pe v'] ∧ e''.w = e'.w ∧ X v' bs' ∧ jA7 bs' e'' ∧ jN3 keep e e'') := by
  rintro ⟨d, bs', h4, h5, h6, h7, h8⟩
  obtain ⟨v, hr, hv⟩ := vP hT h2 h4
  exact ⟨h2.df, v, hr, .inl ⟨v, d, bs', e'.cut (jM bs') fun _ => false, rfl, rfl, h8, uC h2 h6, hv.cut h5, jV8 hI hkeep h2 h7⟩⟩
 cases ex with
 | normal => exact hret h3
 | ret => exact hret h3
 | panic ch =>
  obtain ⟨v, bs', rfl, h6, h7, h8⟩ := h3
  exact ⟨h2.df, .inr ⟨v, bs', e'.cut (jM bs') fun _ => false, rfl, rfl, h8, uC h2 h6, jV8 hI hkeep h2 h7⟩⟩
 | exit id => exact h3.elim
 | goto l => exact h3.elim
 | outgrown => exact h3.elim
/-! ### Values behind interfaces -/
def jR4 : Dt → Option Value
 | .p (.raw v) => some v
 | _ => none
def rawsK {α : Type} : List Dt → (List Value → Option α) → Option α
 | [], k => k []
 | d :: l, k => match jR4 d with
  | some v => rawsK l fun r => k (v :: r)
  | none => none
def rawOf : Dt → Option Value
 | .agg ds => rawsK ds fun vs => some (.agg vs.toArray)
 | d => jR4 d
theorem jT9 {e : Env} {v u : Value} {d : Dt} (h : DRep e v d) (hd : jR4 d = some u) : v = u := by
 unfold jR4 at hd
 split at hd
 ·cases hd; exact kF h
 ·cases hd
theorem rawsK_eq {α : Type} {e : Env} : ∀ {ds : List Dt} {vs : List Value} {k : List Value → Option α} {r : α}, DReps e vs ds → rawsK ds k = some r → k vs = some r
 | [], vs, k, r, hv, h => by
  have : vs = [] := List.eq_nil_of_length_eq_zero hv.1
  subst this; exact h
 | d :: ds, vs, k, r, hv, h => by
  obtain ⟨v, vs', rfl, h1, h2⟩ := hv.uncons
  simp only [rawsK] at h
  split at h
  ·rename_i u hu
   have := jT9 h1 hu
   subst this
   exact rawsK_eq (k := fun r => k (v :: r)) h2 h
  ·cases h
theorem rawOf_eq {e : Env} {v u : Value} {d : Dt} (h : DRep e v d) (hd : rawOf d = some u) : v = u := by
 unfold rawOf at hd
 split at hd
 ·cases h with
  | agg hl hh =>
   rename_i vs
   have := rawsK_eq (e := e) (vs := vs) ⟨hl, hh⟩ hd
   cases this; rfl
 ·exact jT9 h hd
def TK.known : TK → Bool
 | .other => false
 | _ => true
theorem kI0 (hT : kU P T) {ty : TypeId} {i : TI} (ht : T ty = some i) (hk : i.k.known = true) : ∃ dd, P.underlying ty = some dd ∧ ∀ ms, dd ≠ .interface ms := by
 obtain ⟨dd, h1, h2⟩ := hT.desc ty i ht
 refine ⟨dd, h1, fun ms e => ?_⟩
 subst e
 rw [← h2] at hk
 cases hk
theorem jV4 (hT : kU P T) {S : Nat → Option Dt} {B : Nat → Option (List Dt)} {ty : TypeId} {x : Operand} {i : TI} {dx : Dt} {v : Value} (ho : o.op = .makeInterface ty x) (ht : T ty = some i) (hk : i.k.known = true) (hx : ev S x = some dx) (hv : rawOf dx = some v) : QStep P o S B (.p (.raw (.iface ty v))) none := by
 refine kZ fun a e hs => ⟨_, ?_, .p (.raw _)⟩
 have hx1 := rawOf_eq (hs.1 x (by rw [ho]; simp [Op.operands]) _ hx) hv
 obtain ⟨dd, h1, h2⟩ := kI0 hT ht hk
 obtain ⟨dst, op, type, pos, after, guard⟩ := o
 simp only at ho
 subst ho
 simp only [execOp, Instr.makeInterface, Sem.run_bind, run_underlying h1, Result.andThen_ok, hx1]
 cases dd with
 | interface ms => exact absurd rfl (h2 ms)
 | _ => rfl
theorem a_panic {x : Operand} {ty : TypeId} {v : Value} (ho : o.op = .panic x) (hx : ev (kv s) x = some (.p (.raw (.iface ty v)))) (hg : gd l0 o (kv s) = some true) (h : Q (.panic [pe (.iface ty v)]) ⟨s, b, g⟩) : zY P Γ l0 Q (o :: l) ⟨s, b, g⟩ := by
 refine ⟨fun a e hc => ?_⟩
 unfold wpList
 rw [if_pos (qN hc hg)]
 refine .inl ?_
 have hx1 := eval_raw hc hx
 have e1 : (execOp a.eval o).run P e.w = .halt (.panic (.iface ty v)) e.w := by
  obtain ⟨dst, op, type, pos, after, guard⟩ := o
  simp only at ho
  subst ho
  simp only [execOp, Instr.panic, hx1]
  rfl
 unfold Oper.wp
 rw [e1]
 exact ⟨_, e, rfl, hc, h⟩
end
end Go.Proofs.YtkkldicehapklaaGreat
end
section
/- Calls that only read variables of ours; numbers by bits. -/
namespace Go.Proofs.YtkkldicehapklaaGreat
open Go.RowKit
section
variable {P : Program} {T : Nat → Option TI} {Γ : Ctx} {S : Nat → Option Dt} {B : Nat → Option (List Dt)} {o : Oper}
def kF9 {α : Type} : List Dt → (List Pl → Option α) → Option α
 | .p x :: l, k => bif x.lf then kF9 l fun r => k (x :: r) else k []
 | _, k => k []
theorem jZ1 {α : Type} : ∀ {l : List Dt} {k : List Pl → Option α} {r : α}, kF9 l k = some r → ∃ ps, k ps = some r ∧ ∀ (i : Nat) x, ps[i]? = some x → l[i]? = some (.p x) ∧ x.lf = true
 | [], k, r, h => ⟨[], h, fun i x hx => by simp at hx⟩
 | d :: l, k, r, h => by
  cases d with
  | p x =>
   simp only [kF9] at h
   cases hx : x.lf with
   | false => rw [hx] at h; exact ⟨[], h, fun i x hx => by simp at hx⟩
   | true =>
    rw [hx] at h
    obtain ⟨ps, h1, h2⟩ := jZ1 (l := l) (k := fun r => k (x :: r)) h
    refine ⟨x :: ps, h1, fun i y hy => ?_⟩
    cases i with
    | zero => simp at hy; subst hy; exact ⟨rfl, hx⟩
    | succ i => simpa using h2 i y (by simpa using hy)
  | _ => exact ⟨[], h, fun i x hx => by simp at hx⟩
def lend1K {α : Type} (B : Nat → Option (List Dt)) (d : Dt) (k : Dt → Option α) : Option α := match d with
 | .ptr b o => match B b with
  | some cs => wK o cs fun r => kF9 r fun ps => k (.el ps)
  | none => none
 | d => d.lowK k
def kG6 {α : Type} (B : Nat → Option (List Dt)) : List Dt → (List Dt → Option α) → Option α
 | [], k => k []
 | d :: l, k => lend1K B d fun x => kG6 B l fun r => k (x :: r)
def lendK {α : Type} (B : Nat → Option (List Dt)) (d : Dt) (k : Dt → Option α) : Option α := match d with
 | .fn f first caps => kG6 B first fun a => kG6 B caps fun c => k (.fn f a c)
 | d => lend1K B d k
def lendsK {α : Type} (B : Nat → Option (List Dt)) : List Dt → (List Dt → Option α) → Option α
 | [], k => k []
 | d :: l, k => lendK B d fun x => lendsK B l fun r => k (x :: r)
open Classical in
noncomputable def Env.lent (e : Env) : Nat → Option Nat := fun k => if ∃ b, e.bx b = some k then none else e.cl k
theorem jY7 {e : Env} {b o : Nat} (h : e.claimed b o) : (xD e.w e.lent).claimed b o := by
 intro k hk
 have hk' : e.lent b = some k := hk
 unfold Env.lent at hk'
 split at hk'
 ·cases hk'
 ·exact h k hk'
theorem lent_box {e : Env} {b k o : Nat} (h : e.bx b = some k) : (xD e.w e.lent).claimed k o := by
 intro m hm
 have hm' : e.lent k = some m := hm
 unfold Env.lent at hm'
 rw [if_pos ⟨b, h⟩] at hm'
 cases hm'
theorem PRep.lent {e : Env} {v : Value} {x : Pl} (h : PRep e v x) : PRep (xD e.w e.lent) v x := by
 induction h with
 | raw v => exact .raw v
 | sl f h1 h2 h3 h4 h5 h6 ih =>
  refine .sl f h1 h2 h3 h4 (fun i x hx => ?_) ih
  obtain ⟨b, o, hA, hc, hv, hl⟩ := h5 i x hx
  exact ⟨b, o, hA, jY7 hc, hv, hl⟩
theorem lent_ends (e : Env) : Ends (xD e.w e.cl) (xD e.w e.lent) :=
 ⟨fun b o v h1 h2 => ⟨jY7 (e := e) h1, h2⟩, fun _ _ h => (by cases h), fun _ _ h => (by cases h), fun _ _ _ _ h => (by cases h)⟩
theorem lend1_rep {α : Type} {e : Env} (hB : ∀ b cs, B b = some cs → BoxAt e b cs) {v : Value} {d : Dt} {k : Dt → Option α} {r : α} (h : DRep e v d) (hk : lend1K B d k = some r) : ∃ d', DRep (xD e.w e.lent) v d' ∧ k d' = some r := by
 have hlow : d.lowK k = some r → ∃ d', DRep (xD e.w e.lent) v d' ∧ k d' = some r := fun hk => by
  rw [kG7] at hk
  obtain ⟨d', h1, h2⟩ := Option.bind_eq_some_iff.1 hk
  exact ⟨d', (kG1 h d' h1).next (lent_ends e), h2⟩
 unfold lend1K at hk
 split at hk
 ·rename_i nm of
  split at hk
  ·rename_i cs hcs
   obtain ⟨h1, h2⟩ := qO hk
   obtain ⟨ps, h3, h4⟩ := jZ1 h2
   refine ⟨.el ps, ?_, h3⟩
   cases h with
   | ptr hbx =>
    obtain ⟨kk, vs, el, b1, b2, b3⟩ := hB nm cs hcs
    rw [hbx] at b1
    cases b1
    refine .el ⟨fun i => (vs[of + i]?).getD undef, fun i x hx => ?_⟩
    obtain ⟨h5, h6⟩ := h4 i x hx
    rw [List.getElem?_drop] at h5
    obtain ⟨u, h7, h8⟩ := b3.get h5
    have hp : PRep e u x := by cases h8 with | p h => exact h
    have hg : (vs[of + i]?).getD undef = u := by rw [h7]; rfl
    refine ⟨lent_box hbx, ?_, ?_, ?_⟩
    ·show e.w.cell? _ = some ((vs[of + i]?).getD undef)
     rw [cell_of_row e.w _ (of + i) _ el (0, 0) b2, List.getElem?_toArray, hg, h7]
    ·show jA2 ((vs[of + i]?).getD undef) = true
     rw [hg]; exact lf_val hp h6
    ·show PRep _ ((vs[of + i]?).getD undef) x
     rw [hg]; exact hp.lent
  ·cases hk
 ·exact hlow hk
theorem jV0 {α : Type} {e : Env} (hB : ∀ b cs, B b = some cs → BoxAt e b cs) : ∀ {ds : List Dt} {vs : List Value} {k : List Dt → Option α} {r : α}, DReps e vs ds → kG6 B ds k = some r → ∃ ds', DReps (xD e.w e.lent) vs ds' ∧ k ds' = some r
 | [], vs, k, r, h, hk => by
  have : vs = [] := List.eq_nil_of_length_eq_zero h.1
  subst this
  exact ⟨[], DReps.nil _, hk⟩
 | d :: ds, vs, k, r, h, hk => by
  obtain ⟨v, vs', rfl, h1, h2⟩ := h.uncons
  obtain ⟨d', q1, q2⟩ := lend1_rep hB h1 hk
  obtain ⟨ds', q3, q4⟩ := jV0 hB h2 q2
  exact ⟨d' :: ds', q3.cons q1, q4⟩
theorem lend_rep {α : Type} {e : Env} (hB : ∀ b cs, B b = some cs → BoxAt e b cs) {v : Value} {d : Dt} {k : Dt → Option α} {r : α} (h : DRep e v d) (hk : lendK B d k = some r) : ∃ d', DRep (xD e.w e.lent) v d' ∧ k d' = some r := by
 unfold lendK at hk
 split at hk
 ·cases h with
  | fn a1 a2 a3 a4 =>
   rename_i us vs
   obtain ⟨ds', q1, q2⟩ := jV0 hB (vs := us) ⟨a1, a3⟩ hk
   obtain ⟨cs', q3, q4⟩ := jV0 hB (vs := vs) ⟨a2, a4⟩ q2
   exact ⟨_, .fn q1.1 q3.1 q1.2 q3.2, q4⟩
 ·exact lend1_rep hB h hk
theorem lends_rep {α : Type} {e : Env} (hB : ∀ b cs, B b = some cs → BoxAt e b cs) : ∀ {ds : List Dt} {vs : List Value} {k : List Dt → Option α} {r : α}, DReps e vs ds → lendsK B ds k = some r → ∃ ds', DReps (xD e.w e.lent) vs ds' ∧ k ds' = some r
 | [], vs, k, r, h, hk => by
  have : vs = [] := List.eq_nil_of_length_eq_zero h.1
  subst this
  exact ⟨[], DReps.nil _, hk⟩
 | d :: ds, vs, k, r, h, hk => by
  obtain ⟨v, vs', rfl, h1, h2⟩ := h.uncons
  obtain ⟨d', q1, q2⟩ := lend_rep hB h1 hk
  obtain ⟨ds', q3, q4⟩ := lends_rep hB h2 q2
  exact ⟨d' :: ds', q3.cons q1, q4⟩
def rawAny : Dt → Bool
 | .tup ds => (rawsK ds fun _ => some ()).isSome
 | d => (rawOf d).isSome
theorem kL7 {α : Type} {e e' : Env} : ∀ {ds : List Dt} {vs : List Value} {k : List Value → Option α} {r : α}, DReps e vs ds → rawsK ds k = some r → DReps e' vs ds
 | [], vs, k, r, h, _ => by
  have : vs = [] := List.eq_nil_of_length_eq_zero h.1
  subst this; exact DReps.nil _
 | d :: ds, vs, k, r, h, hk => by
  obtain ⟨v, vs', rfl, h1, h2⟩ := h.uncons
  simp only [rawsK] at hk
  split at hk
  ·rename_i u hu
   refine (kL7 h2 hk).cons ?_
   unfold jR4 at hu
   split at hu
   ·cases hu
    rw [kF h1]
    exact .p (.raw _)
   ·cases hu
  ·cases hk
theorem rawAny_rep {e e' : Env} {v : Value} {d : Dt} (h : DRep e v d) (hd : rawAny d = true) : DRep e' v d := by
 unfold rawAny at hd
 split at hd
 ·obtain ⟨r, hr⟩ := Option.isSome_iff_exists.1 hd
  cases h with
  | tup hl hh => exact .tup hl (kL7 (e := e) ⟨hl, hh⟩ hr).2
 ·obtain ⟨u, hu⟩ := Option.isSome_iff_exists.1 hd
  unfold rawOf at hu
  split at hu
  ·cases h with
   | agg hl hh => exact .agg hl (kL7 (e := e) ⟨hl, hh⟩ hu).2
  ·have := jT9 h hu
   subst this
   unfold jR4 at hu
   split at hu
   ·cases hu; exact .p (.raw _)
   ·cases hu
theorem lend_post {f : FuncId} {ds : List Dt} {d : Dt} (hC : kA P f ds d) (hd : rawAny d = true) {e : Env} {vs : List Value} (hv : DReps (xD e.w e.lent) vs ds) {a : Act} {o : Oper} :
  Calls P f vs.toArray e.w fun
   | .returned v, w'' => ∃ v' e', a.put o.dst v = a.put o.dst v' ∧ e'.w = w'' ∧ QPost e e' v' d none
   | .panicked _, _ => False
   | .outgrown, _ => LetsOut (fun _ _ _ => False) := by
 refine (hC e.w e.lent vs hv).mono fun r w' hh => ?_
 obtain ⟨v, cl', rfl, hb, _, hr⟩ := hh
 exact ⟨v, { e with w := w', cl := fun k => if k < e.w.heap.size then e.cl k else cl' k }, rfl, rfl, ⟨hb, fun k hk => if_pos hk, rfl, rfl, rfl⟩, rawAny_rep hr hd⟩
theorem qB {f : FuncId} {xs : List Operand} {ats : Array TypeId} {ds : List Dt} {d : Dt} (hC : kA P f ds d) (ho : o.op = .call { callee := .value (.func f), args := xs.toArray, argTypes := ats }) (hf : uH P f) (he : jK4 S xs (fun ds0 => lendsK B ds0 some) = some ds) (hd : rawAny d = true) : QStep P o S B d none := by
 intro a e hs _
 obtain ⟨ds0, h1, h2⟩ := xI (a := a) (e := e) xs _ ds (fun x hx => hs.1 x (by rw [ho]; simp [Op.operands, Call.operands, hx])) he
 obtain ⟨ds', h3, h4⟩ := lends_rep hs.2 h1 h2
 cases h4
 unfold Oper.wp
 have e1 : (execOp a.eval o).run P e.w = .ok (.enter f (xs.map a.eval).toArray) e.w := by
  obtain ⟨dst, op, type, pos, after, guard⟩ := o
  simp only at ho
  subst ho
  rw [execOp_call_go, hf]
  simp
 rw [e1]
 exact lend_post hC hd h3
end
end Go.Proofs.YtkkldicehapklaaGreat
end
section
/- Numbers by bits. -/
namespace Go.Proofs.YtkkldicehapklaaGreat
open Go.RowKit
section
variable {P : Program} {T : Nat → Option TI} {S : Nat → Option Dt} {B : Nat → Option (List Dt)} {o : Oper}
theorem wrapI {n : Int} (h0 : 0 ≤ n) (h : n < 9223372036854775808) : IntKind.i64.wrap n = n := yJ (by omega) (by omega)
theorem and_low (a : Int) (b : Nat) (hb : b ≤ 62) : IntKind.i64.wrap (((BitVec.ofInt 64 a &&& BitVec.ofInt 64 (2 ^ b - 1 : Int)).toNat : Nat) : Int) = a % 2 ^ b := by
 have hp : (2 : Int) ^ b - 1 = ((2 ^ b - 1 : Nat) : Int) := by
  have := Nat.one_le_two_pow (n := b)
  rw [Int.ofNat_sub this]
  norm_cast
 have hlt : (2 : Nat) ^ b ≤ 2 ^ 62 := Nat.pow_le_pow_right (by omega) hb
 have h1 : (BitVec.ofInt 64 a &&& BitVec.ofInt 64 (2 ^ b - 1 : Int)).toNat = (a % 18446744073709551616).toNat % 2 ^ b := by
  rw [hp, BitVec.toNat_and, BitVec.toNat_ofInt, BitVec.ofInt_natCast, BitVec.toNat_ofNat, Nat.mod_eq_of_lt (a := 2 ^ b - 1) (by omega), Nat.and_two_pow_sub_one_eq_mod]
  rfl
 rw [h1]
 have h2 : (((a % 18446744073709551616).toNat % 2 ^ b : Nat) : Int) = a % 2 ^ b := by
  rw [Int.natCast_emod, Int.toNat_of_nonneg (Int.emod_nonneg _ (by decide))]
  have hd : ((2 ^ b : Nat) : Int) ∣ 18446744073709551616 := by
   have : (2 : Nat) ^ b ∣ 2 ^ 64 := Nat.pow_dvd_pow 2 (by omega)
   have h64 : (18446744073709551616 : Int) = ((2 ^ 64 : Nat) : Int) := by decide
   rw [h64]
   exact Int.natCast_dvd_natCast.2 this
  rw [Int.emod_emod_of_dvd _ hd]
  norm_cast
 rw [h2]
 have hpos : (0 : Int) < 2 ^ b := Int.pow_pos (by omega)
 have h3 : a % 2 ^ b < 2 ^ b := Int.emod_lt_of_pos _ hpos
 have h4 : (2 : Int) ^ b ≤ 4611686018427387904 := by
  have h5 : ((2 ^ b : Nat) : Int) ≤ ((2 ^ 62 : Nat) : Int) := Int.ofNat_le.2 hlt
  have h6 : ((2 ^ 62 : Nat) : Int) = 4611686018427387904 := by decide
  rw [h6, Int.natCast_pow] at h5
  exact h5
 exact wrapI (Int.emod_nonneg _ (by omega)) (by omega)
theorem or_low {a q : Int} {k : Nat} (h0 : 0 ≤ a) (h1 : a < 2 ^ k) (hq : 0 ≤ q) (hc : a + 2 ^ k * q < 9223372036854775808) : IntKind.i64.wrap (((BitVec.ofInt 64 a ||| BitVec.ofInt 64 (2 ^ k * q : Int)).toNat : Nat) : Int) = a + 2 ^ k * q := by
 obtain ⟨a, rfl⟩ := Int.eq_ofNat_of_zero_le h0
 obtain ⟨q, rfl⟩ := Int.eq_ofNat_of_zero_le hq
 have e1 : (2 : Int) ^ k * (q : Int) = ((2 ^ k * q : Nat) : Int) := by rw [Int.natCast_mul, Int.natCast_pow]; rfl
 have h1' : a < 2 ^ k := Int.ofNat_lt.1 (by rw [Int.natCast_pow]; exact h1)
 rw [e1] at hc ⊢
 have h3 : a + 2 ^ k * q = (a ||| 2 ^ k * q) := by rw [Nat.or_comm, ← Nat.two_pow_add_eq_or_of_lt h1', Nat.add_comm]
 generalize 2 ^ k * q = m at hc h3 ⊢
 have h2 : (BitVec.ofInt 64 (a : Int) ||| BitVec.ofInt 64 (m : Int)).toNat = a + m := by
  rw [BitVec.toNat_or, BitVec.ofInt_natCast, BitVec.ofInt_natCast, BitVec.toNat_ofNat, BitVec.toNat_ofNat, Nat.mod_eq_of_lt (by omega), Nat.mod_eq_of_lt (by omega), h3]
 rw [h2, Int.natCast_add]
 exact wrapI (by omega) hc
theorem kG9 {ty u : TypeId} {x y : Operand} {a c : Int} (k : Nat) (q : Int) (ho : o.op = .binOp .or ty x y u) (hx : ev S x = some (dI a)) (hy : ev S y = some (dI c)) (hcq : c = 2 ^ k * q) (h0 : 0 ≤ a) (h1 : a < 2 ^ k) (hq : 0 ≤ q) (hc : a + c < 9223372036854775808) : QStep P o S B (dI (a + c)) none := by
 subst hcq
 refine kZ fun ac e hs => ?_
 have hx1 := kF (hs.1 x (by rw [ho]; simp [Op.operands]) _ hx)
 have hy1 := kF (hs.1 y (by rw [ho]; simp [Op.operands]) _ hy)
 refine ⟨_, ?_, .p (.raw _)⟩
 obtain ⟨dst, op, type, pos, after, guard⟩ := o
 simp only at ho
 subst ho
 have hb : (binOp .or ty (.int .i64 a) (.int .i64 (2 ^ k * q : Int))).run P e.w = .ok (.int .i64 (a + 2 ^ k * q)) e.w := by
  rw [← or_low h0 h1 hq hc]; rfl
 simp [execOp, hx1, hy1, eqGuard, hb]
theorem jF9 {ty u : TypeId} {x y : Operand} {a i : Int} (n : Nat) (ho : o.op = .binOp .shl ty x y u) (hx : ev S x = some (dI a)) (hy : ev S y = some (dI i)) (hi : i = n) (hn : n ≤ 62) (h0 : 0 ≤ a) (hm : a * 2 ^ n < 9223372036854775808) : QStep P o S B (dI (a * 2 ^ n)) none := by
 subst hi
 refine kZ fun ac e hs => ?_
 have hx1 := kF (hs.1 x (by rw [ho]; simp [Op.operands]) _ hx)
 have hy1 := kF (hs.1 y (by rw [ho]; simp [Op.operands]) _ hy)
 refine ⟨_, ?_, .p (.raw _)⟩
 obtain ⟨dst, op, type, pos, after, guard⟩ := o
 simp only at ho
 subst ho
 have h2 : min n 64 = n := by omega
 have hb : (binOp .shl ty (.int .i64 a) (.int .i64 (n : Int))).run P e.w = .ok (.int .i64 (a * 2 ^ n)) e.w := by
  show (Op.shift .shl .i64 a .i64 (n : Int)).run P e.w = _
  rw [shift_shl_any _ _ _ _ (Int.natCast_nonneg n)]
  show Result.ok (Value.int .i64 (IntKind.i64.wrap (a * 2 ^ min ((n : Int).toNat) 64))) e.w = _
  rw [Int.toNat_natCast, h2, wrapI (Int.mul_nonneg h0 (Int.le_of_lt (Int.pow_pos (by omega)))) hm]
 simp [execOp, hx1, hy1, eqGuard, hb]
theorem kA7 {ty u : TypeId} {x y : Operand} {a : Int} (n : Nat) (ho : o.op = .binOp .shr ty x y u) (hx : ev S x = some (dI a)) (hy : ev S y = some (.p (.raw (.int .u64 (n : Int))))) (hn : n ≤ 63) : QStep P o S B (dI (a / 2 ^ n)) none := by
 refine kZ fun ac e hs => ?_
 have hx1 := kF (hs.1 x (by rw [ho]; simp [Op.operands]) _ hx)
 have hy1 := kF (hs.1 y (by rw [ho]; simp [Op.operands]) _ hy)
 refine ⟨_, ?_, .p (.raw _)⟩
 obtain ⟨dst, op, type, pos, after, guard⟩ := o
 simp only at ho
 subst ho
 have h2 : min n 64 = n := by omega
 have hb : (binOp .shr ty (.int .i64 a) (.int .u64 (n : Int))).run P e.w = .ok (.int .i64 (a / 2 ^ n)) e.w := by
  show (Op.shift .shr .i64 a .u64 (n : Int)).run P e.w = _
  rw [shift_shr_any _ _ _ _ (Int.natCast_nonneg n)]
  show Result.ok (Value.int .i64 (a / 2 ^ min ((n : Int).toNat) 64)) e.w = _
  rw [Int.toNat_natCast, h2]
 simp [execOp, hx1, hy1, eqGuard, hb]
end
end Go.Proofs.YtkkldicehapklaaGreat
end
section
/- Functions that hand back a row of their own, to which may be appended. -/
namespace Go.Proofs.YtkkldicehapklaaGreat
open Go.RowKit
section
variable {P : Program} {T : Nat → Option TI} {Γ : Ctx} {o : Oper} {l0 l : List Oper} {Q : Exit → St → Prop}
variable {s : List (Nat × Dt)} {b : List (Nat × List Dt)} {g : List (Nat × Gr)} {t : Nat} {σ : St}
def FreshV (w w' : World) (cl' : Nat → Option Nat) (v : Value) (el sz n : Nat) : Prop :=
 ∃ A cap, v = .slice A n cap ∧ (cap = n ∨ ∃ k cur, A = some ⟨k, 0, none⟩ ∧ w.heap.size ≤ k ∧ k < w'.heap.size ∧ cl' k = some (n * sz) ∧ w'.heap[k]? = some (.cells cur el (0, 0)) ∧ cur.size = cap * sz)
def FreshC (P : Program) (f : FuncId) (ds : List Dt) (el sz n : Nat) (ps : List Pl) : Prop :=
 ∀ (w : World) (cl : Nat → Option Nat) (vs : List Value), DReps (xD w cl) vs ds →
  Calls P f vs.toArray w (fun r w' => ∃ v cl', r = .returned v ∧ Below w.heap.size w w' ∧ (∀ k, k < w.heap.size → cl' k = cl k) ∧ DRep (xD w' cl') v (.p (.sl false n ps)) ∧ FreshV w w' cl' v el sz n)
theorem FreshC.pure {f : FuncId} {ds : List Dt} {el sz n : Nat} {ps : List Pl} (h : FreshC P f ds el sz n ps) : kA P f ds (.p (.sl false n ps)) := fun w cl vs hv => (h w cl vs hv).mono fun _ _ ⟨v, cl', h1, h2, h3, h4, _⟩ => ⟨v, cl', h1, h2, h3, h4⟩
theorem Conc.addRow {e : Env} {a : Act} (hc : Conc Γ σ e a) {gn : Nat} (hg : kv σ.g gn = none) {el sz n k : Nat} {cur : Array Value} (hk1 : Γ.w0.heap.size ≤ k) (hk2 : k < e.w.heap.size) (hk3 : e.cl k = some (n * sz)) (hk4 : e.gr k = none) (hk5 : ∀ b, e.bx b ≠ some k) (hk6 : e.w.heap[k]? = some (.cells cur el (0, 0))) :
  Conc Γ ⟨σ.s, σ.b, (gn, ⟨el, sz, n⟩) :: σ.g⟩ { e with gr := fun j => if j = k then some gn else e.gr j, gi := fun h => if h = gn then some ⟨el, sz, n⟩ else e.gi h } a ∧ Ends e { e with gr := fun j => if j = k then some gn else e.gr j, gi := fun h => if h = gn then some ⟨el, sz, n⟩ else e.gi h } := by
 have hgi : e.gi gn = none := by rw [hc.gs]; exact hg
 have hng : ∀ k, e.gr k ≠ some gn := fun k hk => by obtain ⟨G, _, h, _⟩ := hc.env.gr k gn hk; rw [hgi] at h; cases h
 have hE : Ends e { e with gr := fun j => if j = k then some gn else e.gr j, gi := fun h => if h = gn then some ⟨el, sz, n⟩ else e.gi h } := by
  refine ⟨fun _ _ _ h1 h2 => ⟨h1, h2⟩, fun _ _ h => h, fun g' G h => ⟨G, ?_, rfl, rfl, Nat.le_refl _⟩, fun j g' G cur' h1 h2 h3 => ⟨?_, cur', h3, rfl⟩⟩
  ·show (if g' = gn then _ else e.gi g') = _
   rw [if_neg (fun e' => by rw [e', hgi] at h; cases h)]; exact h
  ·show (if j = k then some gn else e.gr j) = _
   rw [if_neg (fun e' => by rw [e', hk4] at h1; cases h1)]; exact h1
 refine ⟨⟨hc.size, hc.df, fun t d ht => (hc.slots t d ht).next hE, fun b cs hb => (hc.boxes b cs hb).ends hE rfl, hc.nobox, fun h => ?_, hc.env.kept, hc.env.cl, fun b j hj => ?_, hc.env.inj, fun j g' hj => ?_, hc.env.kb⟩, hE⟩
 ·show (if h = gn then _ else e.gi h) = _
  simp only [jU]
  by_cases e1 : h = gn
  ·subst e1; simp
  ·rw [if_neg e1, if_neg (fun e' => e1 e'.symm)]; exact hc.gs h
 ·obtain ⟨h1, h2, h3, h4⟩ := hc.env.bx b j hj
  refine ⟨h1, h2, h3, ?_⟩
  show (if j = k then some gn else e.gr j) = none
  rw [if_neg (fun e' => hk5 b (by rw [← e']; exact hj))]; exact h4
 ·have hj' : (if j = k then some gn else e.gr j) = some g' := hj
  split at hj'
  ·rename_i hjk
   cases hj'
   exact ⟨⟨el, sz, n⟩, cur, by show (if gn = gn then _ else _) = _; simp, by rw [hjk]; exact hk2, .inl (by rw [hjk]; exact hk1), by rw [hjk]; exact hk3, by rw [hjk]; exact hk6⟩
  ·obtain ⟨G, cur', h1, h2⟩ := hc.env.gr j g' hj'
   exact ⟨G, cur', by show (if g' = gn then _ else e.gi g') = _; rw [if_neg (fun e' => hng j (by rw [← e']; exact hj'))]; exact h1, h2⟩
theorem Conc.addFull {e : Env} {a : Act} (hc : Conc Γ σ e a) {gn : Nat} (hg : kv σ.g gn = none) (el sz n : Nat) :
  Conc Γ ⟨σ.s, σ.b, (gn, ⟨el, sz, n⟩) :: σ.g⟩ { e with gi := fun h => if h = gn then some ⟨el, sz, n⟩ else e.gi h } a ∧ Ends e { e with gi := fun h => if h = gn then some ⟨el, sz, n⟩ else e.gi h } := by
 have hgi : e.gi gn = none := by rw [hc.gs]; exact hg
 have hng : ∀ k, e.gr k ≠ some gn := fun k hk => by obtain ⟨G, _, h, _⟩ := hc.env.gr k gn hk; rw [hgi] at h; cases h
 have hE : Ends e { e with gi := fun h => if h = gn then some ⟨el, sz, n⟩ else e.gi h } :=
  ⟨fun _ _ _ h1 h2 => ⟨h1, h2⟩, fun _ _ h => h, fun g' G h => ⟨G, by show (if g' = gn then _ else e.gi g') = _; rw [if_neg (fun e' => by rw [e', hgi] at h; cases h)]; exact h, rfl, rfl, Nat.le_refl _⟩, fun _ _ _ cur h1 _ h3 => ⟨h1, cur, h3, rfl⟩⟩
 refine ⟨⟨hc.size, hc.df, fun t d ht => (hc.slots t d ht).next hE, fun b cs hb => (hc.boxes b cs hb).ends hE rfl, hc.nobox, fun h => ?_, hc.env.kept, hc.env.cl, hc.env.bx, hc.env.inj, fun k g' hk => ?_, hc.env.kb⟩, hE⟩
 ·show (if h = gn then _ else e.gi h) = _
  simp only [jU]
  by_cases e1 : h = gn
  ·subst e1; simp
  ·rw [if_neg e1, if_neg (fun e' => e1 e'.symm)]; exact hc.gs h
 ·obtain ⟨G, cur, h1, h2⟩ := hc.env.gr k g' hk
  exact ⟨G, cur, by show (if g' = gn then _ else e.gi g') = _; rw [if_neg (fun e' => hng k (by rw [← e']; exact hk))]; exact h1, h2⟩
theorem a_callF {f : FuncId} (gn : Nat) {el sz n : Nat} {ps : List Pl} {ds : List Dt} {xs : List Operand} {ats : Array TypeId} (hC : FreshC P f ds el sz n ps) (ho : o.op = .call { callee := .value (.func f), args := xs.toArray, argTypes := ats }) (hf : uH P f) (he : jK4 (kv s) xs Dt.low.lows = some ds) (hg : gd l0 o (kv s) = some true) (hd : o.dst = some t) (hl : Nat.blt t Γ.n = true) (hgn : kv g gn = none) (hps : ps.length = n * sz)
  (h : zY P Γ l0 Q l ⟨(t, .tip gn n ps) :: s, b, (gn, ⟨el, sz, n⟩) :: g⟩) : zY P Γ l0 Q (o :: l) ⟨s, b, g⟩ := by
 refine jA6 (σ := ⟨s, b, g⟩) (σ' := ⟨(t, .tip gn n ps) :: s, b, (gn, ⟨el, sz, n⟩) :: g⟩) hg (fun a e hc => ?_) h
 have hsee := hc.sees o.op.operands
 obtain ⟨ds0, h1, h2⟩ := xI (a := a) (e := e) xs _ ds (fun x hx => hsee.1 x (by rw [ho]; simp [Op.operands, Call.operands, hx])) he
 have hv := jW4 h1 h2
 have e1 : (execOp a.eval o).run P e.w = .ok (.enter f (xs.map a.eval).toArray) e.w := by
  obtain ⟨dst, op, type, pos, after, guard⟩ := o
  simp only at ho
  subst ho
  rw [execOp_call_go, hf]
  simp
 unfold Oper.wp
 rw [e1]
 refine (hC e.w e.cl _ hv).mono fun r w' hh => ?_
 obtain ⟨v, cl', rfl, hb, hcl, hr, A, cap, rfl, hfr⟩ := hh
 have hgw : Grow e { e with w := w', cl := cl' } := ⟨hb, fun k hk => hcl k hk, rfl, rfl, rfl⟩
 have hc1 := hc.grow hgw
 have hp1 : PRep { e with w := w', cl := cl' } (.slice A n cap) (.sl false n ps) := by
  cases hr with | p h => exact PRep.env (e := xD w' cl') (e' := { e with w := w', cl := cl' }) rfl rfl h
 have hdl := jC5 (o := o) hd hl
 rcases hfr with hcap | ⟨k, cur, hA, k1, k2, k3, k4, k5⟩
 ·obtain ⟨h3, h4⟩ := hc1.addFull (gn := gn) hgn el sz n
  have := h3.put hdl (v := .slice A n cap) (d := .tip gn n ps) (.tip (hp1.next h4) ⟨⟨el, sz, n⟩, A, cap, by simp, rfl, Nat.le_refl _, hps, .inl hcap⟩)
  rw [hd] at this ⊢
  exact ⟨_, (by rfl), this⟩
 ·have q1 : e.gr k = none := by
   rcases hgk : e.gr k with _ | g'
   ·rfl
   ·obtain ⟨_, _, _, hlt, _⟩ := hc.env.gr k g' hgk; omega
  have q2 : ∀ b, e.bx b ≠ some k := fun b hbk => by have := (hc.env.bx b k hbk).1; omega
  obtain ⟨h3, h4⟩ := hc1.addRow (gn := gn) hgn (n := n) (sz := sz) (k := k) (Nat.le_trans hc.env.kept.size k1) k2 k3 q1 q2 k4
  have := h3.put hdl (v := .slice A n cap) (d := .tip gn n ps) (.tip (hp1.next h4) ⟨⟨el, sz, n⟩, A, cap, by simp, rfl, Nat.le_refl _, hps, .inr ⟨k, hA, ⟨by simp, cur, k4, k5⟩⟩⟩)
  rw [hd] at this ⊢
  exact ⟨_, (by rfl), this⟩
def FinF (t : Nat) (el sz n : Nat) (ps : List Pl) : Exit → St → Prop := fun ex σ => (ex = .normal ∨ ex = .ret) ∧ ((∃ g, kv σ.s t = some (.tip g n ps) ∧ kv σ.g g = some ⟨el, sz, n⟩) ∨ kv σ.s t = some (.p (.sl true n ps)))
theorem kH5 {t el sz n g : Nat} {ps : List Pl} (h : kv σ.s t = some (.tip g n ps)) (hg : kv σ.g g = some ⟨el, sz, n⟩) : FinF t el sz n ps .ret σ := ⟨.inr rfl, .inl ⟨g, h, hg⟩⟩
theorem finF_full {t el sz n : Nat} {ps : List Pl} (h : kv σ.s t = some (.p (.sl true n ps))) : FinF t el sz n ps .ret σ := ⟨.inr rfl, .inr h⟩
theorem kA4 {f : FuncId} {fn : Func} {c : Code} {ds : List Dt} {el sz m : Nat} {ps : List Pl} {t n : Nat} {s : List (Nat × Dt)} (hf : P.funcs[f]? = some fn) (hb : fn.body = some c) (hnn : fn.ntmps = n) (hrs : fn.results = #[.tmp t]) (hn : Nat.ble ds.length n = true) (hs : jW8 0 ds some = some s)
  (h : ∀ w cl, AWP P ⟨n, w, cl, fun _ => False, [], []⟩ c (FinF t el sz m ps) ⟨s, [], []⟩) : FreshC P f ds el sz m ps := by
 subst hnn
 rw [jL8] at hs
 cases hs
 have hn := Nat.le_of_ble_eq_true hn
 intro w cl vs hv
 refine calls_of_wp hf hb ?_
 have hl : vs.length = ds.length := hv.1
 have hc : Conc ⟨fn.ntmps, w, cl, fun _ => False, [], []⟩ ⟨enum.go 0 ds, [], []⟩ (xD w cl) { tmps := vs.toArray ++ Array.replicate (fn.ntmps - vs.toArray.size) undef, defers := [] } := by
  refine ⟨by simp; omega, rfl, fun t d0 ht => ?_, fun b cs hb => (by cases hb), fun b _ => rfl, fun g => rfl, ⟨Kept.refl _ _, fun _ _ _ => rfl, fun b k hk => (by cases hk), fun b c k hk => (by cases hk), fun k g hk => (by cases hk), fun b k hk => (by cases hk)⟩⟩
  obtain ⟨_, h2⟩ := jP4 ds 0 t d0 ht
  simp only [Nat.sub_zero] at h2
  obtain ⟨v, h3, h4⟩ := hv.get h2
  have htl : t < vs.length := (List.getElem?_eq_some_iff.1 h3).1
  have : uI { tmps := vs.toArray ++ Array.replicate (fn.ntmps - vs.toArray.size) undef, defers := [] } t = v := by
   unfold uI
   simp only [Array.getD_eq_getD_getElem?]
   rw [Array.getElem?_append_left (by simpa using htl), List.getElem?_toArray, h3]
   rfl
  rw [this]
  exact h4
 refine Code.wp_mono (fun ex a' w' hh => ?_) ((h w cl).run _ (xD w cl) hc)
 obtain ⟨σ', e', rfl, h2, h3, h4⟩ := hh
 have hbel : Below w.heap.size w e'.w := ⟨h2.env.kept.os, h2.env.kept.tape, h2.env.kept.output, h2.env.kept.size, fun k hk => h2.env.kept.block k hk (fun h => h)⟩
 have hres : (results fn a'.tmps).run P e'.w = .ok (uI a' t) e'.w := by
  rw [jD5, hrs]
  simp [resV, uI]
 have hv : DRep (xD e'.w e'.cl) (uI a' t) (.p (.sl false m ps)) ∧ FreshV w e'.w e'.cl (uI a' t) el sz m := by
  rcases h4 with ⟨g, h5, h6⟩ | h5
  ·have h7 := h2.slots t _ h5
   generalize uI a' t = v at h7
   cases h7 with
   | tip hp ht =>
    obtain ⟨G, A, cap, g1, g2, g3, g4, g5⟩ := ht
    rw [h2.gs, h6] at g1
    cases g1
    refine ⟨.p (PRep.env (e := e') (e' := xD e'.w e'.cl) rfl rfl hp), A, cap, g2, g5.imp id ?_⟩
    rintro ⟨k, rfl, q1, cur, q2, q3⟩
    obtain ⟨G', cur', r1, r2, r3, r4, r5⟩ := h2.env.gr k g q1
    rw [h2.gs, h6] at r1
    cases r1
    exact ⟨k, cur, rfl, r3.elim id (fun hh => hh.elim), r2, r4, q2, q3⟩
  ·have h7 := h2.slots t _ h5
   generalize uI a' t = v at h7
   cases h7 with
   | p hp =>
    refine ⟨.p (PRep.env (e := e') (e' := xD e'.w e'.cl) rfl rfl hp.low), ?_⟩
    obtain ⟨A, cap, g1, _, _, _, g5, _⟩ := xN hp
    exact ⟨A, cap, g1, .inl (g5 rfl)⟩
 have hfin : a'.defers = [] ∧ ∃ v, (results fn a'.tmps).run P e'.w = .ok v e'.w ∧ ∃ v' cl', Ending.returned v = .returned v' ∧ Below w.heap.size w e'.w ∧ (∀ k, k < w.heap.size → cl' k = cl k) ∧ DRep (xD e'.w cl') v' (.p (.sl false m ps)) ∧ FreshV w e'.w cl' v' el sz m :=
  ⟨h2.df, _, hres, _, e'.cl, rfl, hbel, fun k hk => h2.env.cl k hk (fun h => h), hv.1, hv.2⟩
 rcases h3 with rfl | rfl
 ·exact hfin
 ·exact hfin
end
end Go.Proofs.YtkkldicehapklaaGreat
end
section
/- Elements of arrays through pointers that only read; max and min. -/
namespace Go.Proofs.YtkkldicehapklaaGreat
open Go.RowKit
section
variable {P : Program} {T : Nat → Option TI} {S : Nat → Option Dt} {B : Nat → Option (List Dt)} {o : Oper}
theorem kF1 (hT : kU P T) {t el : TypeId} {x y : Operand} {n : Nat} {ps qs : List Pl} {k : IntKind} {i : Int} {z1 z2 : Nat} {z3 : Value} {j : TI} (ho : o.op = .indexAddr t x y) (ht : T t = some ⟨.array n el, z1, z2, z3⟩) (he : T el = some j)
  (hx : ev S x = some (.el ps)) (hy : ev S y = some (.p (.raw (.int k i)))) (h0 : 0 ≤ i) (hlt : i < n) (hq : wK (i.toNat * j.sz) ps some = some qs) : QStep P o S B (.el qs) none := by
 refine kZ fun a e hs => ?_
 have h1 := hs.1 x (by rw [ho]; simp [Op.operands]) _ hx
 have h2 := kF (hs.1 y (by rw [ho]; simp [Op.operands]) _ hy)
 obtain ⟨hq1, hq2⟩ := qO hq
 cases hq2
 generalize hv : a.eval x = vx at h1
 cases h1 with
 | el hb =>
  rename_i kk of
  obtain ⟨d0, hd0, hk⟩ := hT.desc t _ ht
  cases d0 <;> simp only [jF2, reduceCtorEq, TK.array.injEq] at hk
  rw [hk.1, hk.2] at hd0
  refine ⟨.pointer (some ⟨kk, of + i.toNat * j.sz, none⟩), ?_, .el (hb.part _ fun m q hm => by rw [List.getElem?_drop] at hm; exact hm)⟩
  obtain ⟨dst, op, type, pos, after, guard⟩ := o
  simp only at ho
  subst ho
  simp [execOp, Instr.indexAt, Instr.sureAddr, h2, hv, asIntOf, run_underlying hd0, h0, hlt, yO hT he, xG]
theorem max_step {x y : Operand} {ats : Array TypeId} {a b : Int} (ho : o.op = .call { callee := .builtin .max, args := #[x, y], argTypes := ats }) (hx : ev S x = some (dI a)) (hy : ev S y = some (dI b)) : QStep P o S B (dI (if b > a then b else a)) none := by
 refine kZ fun ac e hs => ?_
 have hx1 := kF (hs.1 x (by rw [ho]; simp [Op.operands, Call.operands]) _ hx)
 have hy1 := kF (hs.1 y (by rw [ho]; simp [Op.operands, Call.operands]) _ hy)
 refine ⟨_, ?_, .p (.raw _)⟩
 obtain ⟨dst, op, type, pos, after, guard⟩ := o
 simp only at ho
 subst ho
 simp only [execOp, resolve, invoke, builtin, Sem.run_bind, Sem.run_pure, Result.andThen_ok, List.map_toArray, List.map_cons, List.map_nil, hx1, hy1, run_max_int2]
end
end Go.Proofs.YtkkldicehapklaaGreat
end
section
/- Deferred calls that recover. -/
namespace Go.Proofs.YtkkldicehapklaaGreat
open Go.RowKit
section
variable {P : Program} {T : Nat → Option TI}
inductive Recs : FrameMode → Value → FrameMode → Prop where
 | no : Recs .returning .nilIface .returning
 | yes (v : Value) : Recs (.panicking [pe v]) v (.panicking [{ v := v, recovered := true }])
theorem Recs.got {u u' : FrameMode} {v : Value} (h : Recs u v u') (c : Frame) (cs : List Frame) (hu : c.mode = u) : (recoverD (c :: cs) = none ∧ v = .nilIface ∧ u' = u) ∨ recoverD (c :: cs) = some (v, { c with mode := u' } :: cs) := by
 cases h with
 | no => left; simp [recoverD, hu]
 | yes v => right; simp [recoverD, hu]
theorem jE1 {f : FuncId} {fn : Func} {id : Nat} {o : Oper} {c : Code} {ds : List Dt} {keep : List Nat} {bs : Bxs} {R : Bxs → Prop} {n t : Nat} {s : List (Nat × Dt)} (hf : P.funcs[f]? = some fn) (hb : fn.body = some (.seq (.region id #[o] false) c)) (hnn : fn.ntmps = n) (hrs : fn.results.toList = []) (hn : Nat.ble ds.length n = true) (hs : jW8 0 ds some = some s) (hkeep : NamesIn bs keep)
  (ho : ∀ (a : Act) (w : World), (execOp a.eval o).run P w = .ok .recover w) (hw : ∀ ts, Region.wanted o (yielded #[o] ts) = true) (hdd : o.dst = some t) (hl : Nat.blt t n = true) {u u' : FrameMode} {v : Value} (hr : Recs u v u')
  (h : ∀ w cl own kf, AWP P ⟨n, w, cl, own, jN0 kf keep, []⟩ c (FinI T [] keep fun _ bs' => R bs') ⟨(t, .p (.raw v)) :: s, bs, []⟩) {e : Env} {vs : List Value} (hI : jA7 bs e) (hv : DReps e vs ds) :
  CallsD P f vs.toArray u e.w fun r u2 w' => ∃ e' bs', r = .returned (.tuple #[]) ∧ u2 = u' ∧ e'.w = w' ∧ jA7 bs' e' ∧ jN3 keep e e' ∧ R bs' := by
 subst hnn
 rw [jL8] at hs
 cases hs
 have hn := Nat.le_of_ble_eq_true hn
 refine callsD_of_wpS hf hb fun c₀ cs hu => ?_
 have hc := xV (fn := fn) (f := f) (keep := keep) [] hn hkeep hI hv rfl
 have hc1 : Conc _ ⟨(t, .p (.raw v)) :: enum.go 0 ds, bs, []⟩ e _ := hc.put (dst := some t) (show Nat.blt t _ = true from hl) (DRep.p (PRep.raw v))
 have hrest : ∀ cs', cs' = { c₀ with mode := u' } :: cs → c.wpS P (bodyPostS P fn c₀ cs fun r u2 w' => ∃ e' bs', r = .returned (.tuple #[]) ∧ u2 = u' ∧ e'.w = w' ∧ jA7 bs' e' ∧ jN3 keep e e' ∧ R bs') (({ tmps := vs.toArray ++ Array.replicate (fn.ntmps - vs.toArray.size) undef, defers := [] } : Act).put (some t) v) cs' e.w := by
  rintro cs' rfl
  refine wpS_of_wp (Code.wp_mono (fun ex a' w' hh => ?_) ((h e.w e.cl _ _).run _ e hc1))
  obtain ⟨σ', e', rfl, h2, h3, d, bs', h4, h5, h6, h7, h8⟩ := hh
  have hres : (results fn a'.tmps).run P e'.w = .ok (.tuple #[]) e'.w := by
   have : fn.results = #[] := by cases hfr : fn.results; rw [hfr] at hrs; simp at hrs; rw [hrs]
   rw [jD5, this]
   simp
  have hfin : a'.defers = [] ∧ ∃ u2, ({ c₀ with mode := u' } :: cs : List Frame) = { c₀ with mode := u2 } :: cs ∧ ∃ vv, (results fn a'.tmps).run P e'.w = .ok vv e'.w ∧ ∃ e'' bs'', Ending.returned vv = .returned (.tuple #[]) ∧ u2 = u' ∧ e''.w = e'.w ∧ jA7 bs'' e'' ∧ jN3 keep e e'' ∧ R bs'' :=
   ⟨h2.df, u', rfl, _, hres, e'.cut (jM bs') fun _ => false, bs', rfl, rfl, rfl, uC h2 h6, jV8 hI hkeep h2 h7, h8⟩
  rcases h3 with rfl | rfl
  ·exact hfin
  ·exact hfin
 refine wpS_seq (wpS_region ?_)
 show wpOpsS P #[o] _ [0] _ _ _
 have hcs : ({ c₀ with mode := u } : Frame) = c₀ := by rw [← hu]
 simp only [wpOpsS, List.getElem?_toArray, List.getElem?_cons_zero, hw, if_true, ho]
 rcases hr.got c₀ cs hu with ⟨q1, q2, q3⟩ | q1
 ·rw [q1]
  subst q2
  subst q3
  show Code.wpS P c _ _ _ _
  rw [hdd]
  exact hrest _ (by rw [hcs])
 ·rw [q1]
  show Code.wpS P c _ _ _ _
  rw [hdd]
  exact hrest _ rfl
end
end Go.Proofs.YtkkldicehapklaaGreat
end
section
/- A function that defers a call which recovers. -/
namespace Go.Proofs.YtkkldicehapklaaGreat
open Go.RowKit
section
variable {P : Program} {T : Nat → Option TI} {Γ : Ctx} {s s' : List (Nat × Dt)} {b b' : Bxs} {g : List (Nat × Gr)}
theorem jL0 {id : Nat} {o1 o2 : Oper} {σ : St} {e : Env} {a : Act} {fc : FuncId} {xs : List Operand} {dsC : List Dt} {t : Nat} {ats : Array TypeId} (hc : Conc Γ σ e a) (h1 : o1.op = .makeFunc (.func fc) #[] xs.toArray) (g1 : gd [o1, o2] o1 (kv σ.s) = some true) (d1 : o1.dst = some t) (l1 : Nat.blt t Γ.n = true) (he : jK4 (kv σ.s) xs some = some dsC)
  (h2 : o2.op = .defer { callee := .value (.tmp t), args := #[], argTypes := ats }) (g2 : gd [o1, o2] o2 (kv (σ.put (some t) (.fn (.func fc) [] dsC)).s) = some true) (d2 : o2.dst = none) {Q : Exit → Act → World → Prop}
  (kb' : List (Nat × Nat)) (hkb' : ∀ b k, kv kb' b = some k → e.bx b = some k)
  (h : ∀ (a' : Act) (caps : List Value), DReps e caps dsC → Conc { Γ with kb := kb', dfs := { target := .fn (.func fc) caps.toArray, args := #[] } :: Γ.dfs } (σ.put (some t) (.fn (.func fc) [] dsC)) e a' → Q .normal a' e.w) : (Code.region id #[o1, o2] false).wp P Q a e.w := by
 have hsee := hc.sees o1.op.operands
 have hv := jK6 (a := a) (e := e) xs (fun x hx => hsee.1 x (by rw [h1]; simp [Op.operands, hx])) he
 have hd : DRep e (.func (.func fc) #[] (xs.map a.eval).toArray) (.fn (.func fc) [] dsC) := .fn (us := []) rfl hv.1 (fun i v d h => by simp at h) hv.2
 have hc1 : Conc Γ (σ.put (some t) (.fn (.func fc) [] dsC)) e (a.put (some t) (.func (.func fc) #[] (xs.map a.eval).toArray)) := hc.put (dst := some t) (show Nat.blt t _ = true from l1) hd
 refine wp_region_lit (l := [o1, o2]) ?_
 unfold wpList
 rw [if_pos (qN hc g1)]
 refine .inl ?_
 have e1 : (execOp a.eval o1).run P e.w = .ok (.value (.func (.func fc) #[] (xs.map a.eval).toArray)) e.w := by
  obtain ⟨dst, op, type, pos, after, guard⟩ := o1
  simp only at h1
  subst h1
  simp [execOp, Instr.makeFunc]
 unfold Oper.wp
 rw [e1, Oper.upon_value, d1]
 unfold wpList
 rw [if_pos (qN hc1 g2)]
 refine .inl ?_
 have ht : (a.put (some t) (.func (.func fc) #[] (xs.map a.eval).toArray)).eval (.tmp t) = .func (.func fc) #[] (xs.map a.eval).toArray := by
  have hs : uI (a.put (some t) (.func (.func fc) #[] (xs.map a.eval).toArray)) t = _ := uV (by rw [hc.size]; simpa [Nat.blt_eq] using l1)
  exact hs
 have e2 : (execOp (a.put (some t) (.func (.func fc) #[] (xs.map a.eval).toArray)).eval o2).run P e.w = .ok (.defer { target := .fn (.func fc) (xs.map a.eval).toArray, args := #[] }) e.w := by
  obtain ⟨dst, op, type, pos, after, guard⟩ := o2
  simp only at h2
  subst h2
  simp [execOp, resolve, ht, Deferred.ofValue]
 unfold Oper.wp
 rw [e2, Oper.upon_defer, d2]
 refine h _ (xs.map a.eval) hv ?_
 refine ⟨hc1.size, ?_, hc1.slots, hc1.boxes, hc1.nobox, hc1.gs, ⟨hc1.env.kept, hc1.env.cl, hc1.env.bx, hc1.env.inj, hc1.env.gr, hkb'⟩⟩
 show _ :: (a.put (some t) _).defers = _ :: Γ.dfs
 rw [hc1.df]
theorem vB {σ : St} (nm : Nat) {cs cs' : List Dt} (hb : kv σ.b nm = some cs) (hd : cs.map (fun _ => Dt.any) = cs') : Ghost Γ σ ⟨σ.s, (nm, cs') :: σ.b, σ.g⟩ := by
 intro a e hc
 refine ⟨e, rfl, hc.size, hc.df, hc.slots, fun u c hu => ?_, fun u hu => ?_, hc.gs, hc.env⟩
 ·simp only [jU] at hu
  split at hu
  ·rename_i htu
   subst htu
   cases hu
   obtain ⟨k, vs, el, h1, h2, h3, h4⟩ := hc.boxes _ _ hb
   refine ⟨k, vs, el, h1, h2, by rw [← hd, List.length_map]; exact h3, fun i v d hv hdd => ?_⟩
   rw [← hd, List.getElem?_map] at hdd
   cases hcs : cs[i]? with
   | none => rw [hcs] at hdd; cases hdd
   | some x => rw [hcs] at hdd; cases hdd; exact .any
  ·exact hc.boxes u c hu
 ·simp only [jU] at hu
  split at hu
  ·cases hu
  ·exact hc.nobox u hu
theorem kW {e e' : Env} {v : Value} {nm o k : Nat} (h : DRep e v (.ptr nm o)) (h1 : e.bx nm = some k) (h2 : e'.bx nm = some k) : DRep e' v (.ptr nm o) := by
 cases h with
 | ptr hk => rw [h1] at hk; cases hk; exact .ptr h2
theorem vE {fn : Func} {e : Env} {a : Act} (hc : Conc Γ ⟨s, b, g⟩ e a) {fc : FuncId} {caps : List Value} {dsC : List Dt} {bsC : Bxs} {keepC : List Nat} {R : Bxs → Prop} {u u' : FrameMode} {Rf : Ending → World → Prop} (hf : uH P fc) (hcaps : DReps e caps dsC) (hok : Dt.ok.oks (jM bsC) (fun _ => false) dsC = true) (hs : SubH ⟨s, b, g⟩ (jM bsC) bsC) (hkb : KeepOk keepC bsC Γ.kb)
  (hcut : wH (fun b => !jM bsC b || inL keepC b) s (fun s' => jA3 (jM bsC) (fun b => !jM bsC b || inL keepC b) b (fun b' => some (s', b'))) = some (s', b')) (hu : u ≠ .run) (hset : settle u' = .returning)
  (hcl : ∀ (e0 : Env) (vs : List Value), jA7 bsC e0 → DReps e0 vs dsC → CallsD P fc vs.toArray u e0.w fun r u2 w' => ∃ e' bs', r = .returned (.tuple #[]) ∧ u2 = u' ∧ e'.w = w' ∧ jA7 bs' e' ∧ jN3 keepC e0 e' ∧ R bs') (hfree : ∀ bs', R bs' → FreeIn bsC b bs')
  (hfin : ∀ bs' e', R bs' → Conc Γ ⟨s', bs' ++ b', g⟩ e' a → ∃ v, (results fn a.tmps).run P e'.w = .ok v e'.w ∧ Rf (.returned v) e'.w) :
  Leaves P fn a.tmps Rf [{ target := .fn (.func fc) caps.toArray, args := #[] }] u e.w := by
 rw [jB3, jB8] at hcut
 cases hcut
 refine leaves_cons (f := fc) (args := caps.toArray) hu ?_ ?_
 ·simp only [invoke]
  rw [hf]
  simp
 ·refine (hcl (e.cut (jM bsC) fun _ => false) caps (uC hc hs) ⟨hcaps.1, fun i v d h1 h2 => (hcaps.2 i v d h1 h2).cut (xR hok h2)⟩).mono fun r u2 w' hh => ?_
  obtain ⟨e', bs', rfl, rfl, rfl, hI, hL, hR⟩ := hh
  obtain ⟨h1, _⟩ := hc.after hI hL (fun n hn => (hfree bs' hR).get hn) (fun n k h1 h2 => hkb.get h1 h2)
  show Leaves P fn a.tmps Rf [] (settle u2) e'.w
  rw [hset]
  exact hfin bs' (e.after e' bsC bs') hR h1
end
end Go.Proofs.YtkkldicehapklaaGreat
end
section
/- Interfaces held against nothing; type assertions. -/
namespace Go.Proofs.YtkkldicehapklaaGreat
open Go.RowKit
section
variable {P : Program} {T : Nat → Option TI} {S : Nat → Option Dt} {B : Nat → Option (List Dt)} {o : Oper}
theorem jT1 {ty u : TypeId} {ms : Array (String × TypeId)} {x : Operand} (hu : P.underlying ty = some (.interface ms)) (ho : o.op = .binOp .eql ty x (.const .nilIface) u) (hx : ev S x = some (.p (.raw .nilIface))) : QStep P o S B (dB true) none := by
 refine kZ fun ac e hs => ?_
 have hx1 := kF (hs.1 x (by rw [ho]; simp [Op.operands]) _ hx)
 refine ⟨.bool true, ?_, .p (.raw _)⟩
 obtain ⟨dst, op, type, pos, after, guard⟩ := o
 simp only at ho
 subst ho
 have he : (Op.equal ty .nilIface .nilIface).run P e.w = .ok true e.w := by
  show (Op.equalIn (9999 + 1) ty _ _).run P e.w = _
  rw [Op.equalIn]
  simp only [Sem.run_bind, run_underlying hu, Result.andThen_ok]
  rfl
 have hc : ac.eval (.const .nilIface) = .nilIface := rfl
 simp [execOp, hx1, hc, eqGuard, binOp, he]
theorem jQ3 {ty u t0 : TypeId} {v : Value} {ms : Array (String × TypeId)} {x : Operand} (hu : P.underlying ty = some (.interface ms)) (ho : o.op = .binOp .eql ty x (.const .nilIface) u) (hx : ev S x = some (.p (.raw (.iface t0 v)))) : QStep P o S B (dB false) none := by
 refine kZ fun ac e hs => ?_
 have hx1 := kF (hs.1 x (by rw [ho]; simp [Op.operands]) _ hx)
 refine ⟨.bool false, ?_, .p (.raw _)⟩
 obtain ⟨dst, op, type, pos, after, guard⟩ := o
 simp only at ho
 subst ho
 have he : (Op.equal ty (.iface t0 v) .nilIface).run P e.w = .ok false e.w := by
  show (Op.equalIn (9999 + 1) ty _ _).run P e.w = _
  rw [Op.equalIn]
  simp only [Sem.run_bind, run_underlying hu, Result.andThen_ok]
  rfl
 have hc : ac.eval (.const .nilIface) = .nilIface := rfl
 simp [execOp, hx1, hc, eqGuard, binOp, he]
def dataOf : Value → Dt
 | .agg cs => .agg (cs.toList.map fun v => .p (.raw v))
 | v => .p (.raw v)
theorem dataOf_rep (e : Env) (v : Value) : DRep e v (dataOf v) := by
 unfold dataOf
 split
 ·rename_i cs
  have : DRep e (.agg cs.toList.toArray) (.agg (cs.toList.map fun v => .p (.raw v))) := .agg (by simp) (fun i v d h1 h2 => by
   rw [List.getElem?_map, h1] at h2
   cases h2
   exact .p (.raw v))
  simpa using this
 ·exact .p (.raw _)
theorem kD5 (hT : kU P T) {ty xt : TypeId} {v : Value} {x : Operand} {i : TI} (ho : o.op = .typeAssert x xt ty true) (ht : T ty = some i) (hk : i.k.known = true) (hx : ev S x = some (.p (.raw (.iface ty v)))) : QStep P o S B (.tup [dataOf v, dB true]) none := by
 refine kZ fun ac e hs => ?_
 have hx1 := kF (hs.1 x (by rw [ho]; simp [Op.operands]) _ hx)
 obtain ⟨dd, h1, h2⟩ := kI0 hT ht hk
 refine ⟨.tuple #[v, .bool true], ?_, .tup (vs := [v, .bool true]) rfl ?_⟩
 ·obtain ⟨dst, op, type, pos, after, guard⟩ := o
  simp only at ho
  subst ho
  simp only [execOp, Instr.typeAssert, Sem.run_bind, run_underlying h1, Result.andThen_ok, hx1]
  cases dd with
  | interface ms => exact absurd rfl (h2 ms)
  | _ => simp
 ·intro i w d hw hd
  match i, hw, hd with
  | 0, hw, hd => cases hw; cases hd; exact dataOf_rep e v
  | 1, hw, hd => cases hw; cases hd; exact .p (.raw _)
end
end Go.Proofs.YtkkldicehapklaaGreat
end
section
/- Elements of several cells: made, loaded, stored, wherever they lie. -/
namespace Go.Proofs.YtkkldicehapklaaGreat
open Go.RowKit
section
variable {P : Program} {T : Nat → Option TI} {Γ : Ctx} {S : Nat → Option Dt} {B : Nat → Option (List Dt)} {o : Oper} {l0 l : List Oper} {Q : Exit → St → Prop}
variable {s : List (Nat × Dt)} {b : List (Nat × List Dt)} {g : List (Nat × Gr)} {t : Nat}
theorem kA3 {α β : Type} : ∀ (ds rest : List β) (k : List β → Option α), jE3 ds.length (ds ++ rest) k = k ds
 | [], rest, k => rfl
 | x :: ds, rest, k => by
  show jE3 ds.length (ds ++ rest) (fun r => k (x :: r)) = _
  rw [kA3 ds rest]
theorem wZ (hT : kU P T) {ty : TypeId} {x : Operand} {i : TI} {b of : Nat} {cs : List Dt} (ds rest : List Dt) (ho : o.op = .load ty x) (ht : T ty = some i) (hag : i.k.agg = true) (hx : ev S x = some (.ptr b of)) (hb : B b = some cs) (hof : of ≤ cs.length) (hd : cs.drop of = ds ++ rest) (hl : ds.length = i.sz) : QStep P o S B (.agg ds) none := by
 refine jE2 hT ?_
 rw [ho]
 simp only [ax, ht, hx, hb]
 rw [jQ6 of cs _ hof, hd]
 simp only [loadD, hag, cond_true, ← hl]
 rw [kA3]
theorem kJ2 (hT : kU P T) {ty : TypeId} {x y : Operand} {nm of : Nat} {cs : List Dt} {ds : List Dt} {i : TI} (cs' : List Dt) (ho : o.op = .store ty x y) (hd : o.dst = none) (ht : T ty = some i) (hx : ev (kv s) x = some (.ptr nm of)) (hb : kv b nm = some cs) (hy : ev (kv s) y = some (.agg ds))
  (hl : ds.all Dt.leaf = true) (hs : ds.length = i.sz) (hg : gd l0 o (kv s) = some true) (hof : of + ds.length ≤ cs.length) (hcs : wC cs of ds = cs') (h : zY P Γ l0 Q l ⟨s, (nm, cs') :: b, g⟩) : zY P Γ l0 Q (o :: l) ⟨s, b, g⟩ := by
 subst hcs
 have hss := jV1 (P := P) (Γ := Γ) (σ := ⟨s, b, g⟩) hT ho hd ht hx hb hy hl hs (by first | exact hof | (show _ ≤ _; simp only [Dt.cells]; omega) | omega)
 exact jA6 (σ := ⟨s, b, g⟩) hg hss h
theorem kH2 (a : Nat) : ∀ m : Nat, List.range (a + m) = List.range a ++ (List.range m).map (a + ·)
 | 0 => by simp
 | m + 1 => by
  rw [show a + (m + 1) = (a + m) + 1 by omega, List.range_succ, kH2 a m, List.range_succ, List.map_append, List.append_assoc]
  rfl
theorem made_flat (z : Array Value) (hz : 0 < z.size) : ∀ n : Nat, (List.range (n * z.size)).map (fun j => z[j % z.size]!) = (List.replicate n z.toList).flatten
 | 0 => by simp
 | n + 1 => by
  rw [show (n + 1) * z.size = z.size + n * z.size by rw [Nat.add_mul]; omega, kH2, List.map_append, List.map_map, List.replicate_succ, List.flatten_cons, ← made_flat z hz n]
  congr 1
  ·apply List.ext_getElem
   ·simp
   ·intro j h1 h2
    simp only [List.length_map, List.length_range] at h1
    simp [Nat.mod_eq_of_lt h1, h1]
  ·apply List.map_congr_left
   intro j _
   simp [Function.comp]
theorem jH1 (hT : kU P T) (nm : Nat) {ty el : TypeId} {z1 z2 : Nat} {z3 : Value} {i : TI} {x y : Operand} {k k' : IntKind} {n m : Int} {c : Nat} (cs : List Dt) (ho : o.op = .makeSlice ty x y) (ht : T ty = some ⟨.slice el, z1, z2, z3⟩) (hel : T el = some i) (hzs : Nat.beq i.zero.cells.size i.sz = true) (hszp : Nat.blt 0 i.sz = true)
  (hx : ev S x = some (.p (.raw (.int k n)))) (hy : ev S y = some (.p (.raw (.int k' m)))) (hn : n = c) (hm : m = c) (hb : c * i.bytes ≤ 140737488355328) (h63 : c ≤ maxLen) (hcs : (List.replicate c (i.zero.cells.toList.map yW)).flatten = cs) : QStep P o S B (.arr nm 0 c c) (some (nm, cs)) := by
 subst hn; subst hm; subst hcs
 intro a e hs hnb
 have h1 := kF (hs.1 x (by rw [ho]; simp [Op.operands]) _ hx)
 have h2 := kF (hs.1 y (by rw [ho]; simp [Op.operands]) _ hy)
 obtain ⟨d0, hd0, hk⟩ := hT.desc ty _ ht
 cases d0 <;> simp only [jF2, reduceCtorEq, TK.slice.injEq] at hk
 rw [hk] at hd0
 obtain ⟨inf, hinf, hsz, hby, hz⟩ := hT.info _ i hel
 have hzs' := Nat.eq_of_beq_eq_true hzs
 have hszp' : 0 < i.sz := by simpa [Nat.blt_eq] using hszp
 have hbig : (inf.bytes : Int) * (c : Int) ≤ 281474976710656 := by
  have : ((c * i.bytes : Nat) : Int) ≤ 140737488355328 := by omega
  rw [Int.natCast_mul, Int.mul_comm] at this
  rw [hby]; omega
 have hrun := run_make (P := P) e.w ty el inf i.zero hd0 hinf hz k k' c c (Int.natCast_nonneg c) (by omega) hbig (by unfold maxLen at h63; omega)
 have hmc : madeCells i.zero.cells (c * i.sz) = (List.replicate c i.zero.cells.toList).flatten.toArray := by
  rw [← made_flat i.zero.cells (by omega) c, ← hzs']
  apply Array.ext'
  simp [madeCells]
 rw [Int.toNat_natCast, hsz, hmc] at hrun
 unfold Oper.wp
 have e1 : (execOp a.eval o).run P e.w = .ok (.value (.slice (some ⟨e.w.heap.size, 0, none⟩) c c)) (e.w.alloc (.cells (List.replicate c i.zero.cells.toList).flatten.toArray el)) := by
  obtain ⟨dst, op, type, pos, after, guard⟩ := o
  simp only at ho
  subst ho
  simp [execOp, h1, h2, hrun]
 rw [e1]
 have hg := Env.alloc_grow e (.cells (List.replicate c i.zero.cells.toList).flatten.toArray el) (some 0)
 have hbn : (e.alloc (.cells (List.replicate c i.zero.cells.toList).flatten.toArray el) (some 0)).bx nm = none := by rw [hg.bx]; exact hnb _ rfl
 refine ⟨_, (e.alloc (.cells (List.replicate c i.zero.cells.toList).flatten.toArray el) (some 0)).withBox nm e.w.heap.size, rfl, rfl, _, e.w.heap.size, hg, Nat.le_refl _, by simp [Env.alloc], by simp [Env.alloc], rfl, ⟨e.w.heap.size, (List.replicate c i.zero.cells.toList).flatten, el, by simp [Env.withBox], heap_alloc_new e.w _, ?_⟩, .arr (by simp [Env.withBox])⟩
 have hmap : (List.replicate c (i.zero.cells.toList.map yW)).flatten = ((List.replicate c i.zero.cells.toList).flatten).map yW := by
  rw [List.map_flatten, List.map_replicate]
 rw [hmap]
 refine ⟨by simp, fun j v d hv hd => ?_⟩
 rw [List.getElem?_map, hv] at hd
 cases hd
 exact jD7 _ _
end
end Go.Proofs.YtkkldicehapklaaGreat
end
section
/- Sets that are told by a map of whole numbers to true: made, asked, added to. -/
namespace Go.Proofs.YtkkldicehapklaaGreat
open Go.RowKit
def jW1 (me : Array MapEntry) (es : List Int) : Prop := me.toList.map (fun x => (x.key, x.val)) = es.map (fun n => (Value.int .i64 n, Value.bool true))
theorem kK2 : ∀ (me : List MapEntry) (es : List Int) (n : Int) (i : Nat), me.map (fun x => (x.key, x.val)) = es.map (fun n => (Value.int .i64 n, Value.bool true)) →
  (n ∉ es ∧ Instr.findNow (.int .i64) (.int .i64 n) me i = some none) ∨ (n ∈ es ∧ ∃ j, Instr.findNow (.int .i64) (.int .i64 n) me i = some (some (j, .bool true)))
 | [], [], n, i, _ => .inl ⟨by simp, rfl⟩
 | [], _ :: _, n, i, h => by simp at h
 | _ :: _, [], n, i, h => by simp at h
 | x :: me, m :: es, n, i, h => by
  simp only [List.map_cons, List.cons.injEq, Prod.mk.injEq] at h
  obtain ⟨⟨h1, h2⟩, h3⟩ := h
  by_cases hn : n = m
  ·subst hn
   exact .inr ⟨by simp, i, by simp [Instr.findNow, Instr.sameNow, h1, h2]⟩
  ·have hs : Instr.sameNow (.int .i64) (.int .i64 n) x.key = some false := by
    rw [h1]; simp [Instr.sameNow, hn]
   rcases kK2 me es n (i + 1) h3 with ⟨h4, h5⟩ | ⟨h4, j, h5⟩
   ·exact .inl ⟨by simp [hn, h4], by simp [Instr.findNow, hs, h5]⟩
   ·exact .inr ⟨by simp [h4], j, by simp [Instr.findNow, hs, h5]⟩
structure InMap (Γ Γ' : Ctx) (r : Nat) (es : List Int) : Prop where
 kept : Kept Γ.own Γ.w0 Γ'.w0
 cl : ∀ k, k < Γ.w0.heap.size → ¬ Γ.own k → Γ'.cl0 k = Γ.cl0 k
 own : ∀ k, Γ'.own k → Γ.own k ∨ Γ.w0.heap.size ≤ k
 obj : ∃ me ck, Γ'.w0.heap[r]? = some (.map me ck) ∧ jW1 me es
 nr : ¬ Γ'.own r
 base : Γ.w0.heap.size ≤ r
section
variable {P : Program} {T : Nat → Option TI} {n : Nat} {w0 : World} {cl0 : Nat → Option Nat} {own : Nat → Prop} {kb : List (Nat × Nat)} {dfs : List Deferred} {r : Nat}
theorem InMap.back {w' : World} {cl' : Nat → Option Nat} {own' : Nat → Prop} {es : List Int} (h : InMap ⟨n, w0, cl0, own, kb, dfs⟩ ⟨n, w', cl', own', kb, dfs⟩ r es) {e : Env} (he : EnvOk ⟨n, w', cl', own', kb, dfs⟩ e) : EnvOk ⟨n, w0, cl0, own, kb, dfs⟩ e := by
 have hno : ∀ k, k < w0.heap.size → ¬ own k → ¬ own' k := fun k hk ho ho' => by
  rcases h.own k ho' with h1 | h1
  ·exact ho h1
  ·exact absurd h1 (by simp only; omega)
 have hsz := h.kept.size
 simp only at hsz
 have hold : ∀ k, w'.heap.size ≤ k ∨ own' k → w0.heap.size ≤ k ∨ own k := fun k hk => by
  rcases hk with hk | hk
  ·exact .inl (Nat.le_trans hsz hk)
  ·exact (h.own k hk).symm
 refine ⟨⟨he.kept.os.trans h.kept.os, he.kept.tape.trans h.kept.tape, he.kept.output.trans h.kept.output, Nat.le_trans hsz he.kept.size, fun k hk ho => ?_⟩, fun k hk ho => ?_, fun b k hb => ?_, he.inj, fun k g hg => ?_, he.kb⟩
 ·exact (he.kept.block k (Nat.lt_of_lt_of_le hk hsz) (hno k hk ho)).trans (h.kept.block k hk ho)
 ·exact (he.cl k (Nat.lt_of_lt_of_le hk hsz) (hno k hk ho)).trans (h.cl k hk ho)
 ·obtain ⟨h1, h2, h3⟩ := he.bx b k hb
  exact ⟨h1, hold k h2, h3⟩
 ·obtain ⟨G, cur, h1, h2, h3, h4⟩ := he.gr k g hg
  exact ⟨G, cur, h1, h2, hold k h3, h4⟩
theorem InMap.conc {w' : World} {cl' : Nat → Option Nat} {own' : Nat → Prop} {es : List Int} (h : InMap ⟨n, w0, cl0, own, kb, dfs⟩ ⟨n, w', cl', own', kb, dfs⟩ r es) {σ : St} {e : Env} {a : Act} (hc : Conc ⟨n, w', cl', own', kb, dfs⟩ σ e a) : Conc ⟨n, w0, cl0, own, kb, dfs⟩ σ e a :=
 ⟨hc.size, hc.df, hc.slots, hc.boxes, hc.nobox, hc.gs, h.back hc.env⟩
theorem InMap.now {w' : World} {cl' : Nat → Option Nat} {own' : Nat → Prop} {es : List Int} (h : InMap ⟨n, w0, cl0, own, kb, dfs⟩ ⟨n, w', cl', own', kb, dfs⟩ r es) {e : Env} (he : EnvOk ⟨n, w', cl', own', kb, dfs⟩ e) : ∃ me ck, e.w.heap[r]? = some (.map me ck) ∧ jW1 me es := by
 obtain ⟨me, ck, h1, h2⟩ := h.obj
 have hr : r < w'.heap.size := jB4 h1
 exact ⟨me, ck, (he.kept.block r hr h.nr).trans h1, h2⟩
theorem InMap.next {w' : World} {cl' : Nat → Option Nat} {own' : Nat → Prop} {es es' : List Int} (h : InMap ⟨n, w0, cl0, own, kb, dfs⟩ ⟨n, w', cl', own', kb, dfs⟩ r es) {σ : St} {e : Env} {a : Act} (hc : Conc ⟨n, w', cl', own', kb, dfs⟩ σ e a) {me : Array MapEntry} {ck : Nat} (hm : jW1 me es') :
  ∃ w2 cl2 own2, InMap ⟨n, w0, cl0, own, kb, dfs⟩ ⟨n, w2, cl2, own2, kb, dfs⟩ r es' ∧ ∃ e2 : Env, e2.w = { e.w with heap := e.w.heap.setIfInBounds r (.map me ck) } ∧ Conc ⟨n, w2, cl2, own2, kb, dfs⟩ σ e2 a := by
 obtain ⟨me0, ck0, hold, _⟩ := h.now hc.env
 have hb := h.back hc.env
 obtain ⟨me1, ck1, ho1, _⟩ := h.obj
 have hrs : r < w'.heap.size := jB4 ho1
 obtain ⟨hset, hoth⟩ := MapKept.heap_set (o' := .map me ck) hold
 have hbxr : ∀ b k, e.bx b = some k → k ≠ r := fun b k hk he => by
  subst he
  rcases (hc.env.bx b k hk).2.1 with h1 | h1
  ·exact absurd hrs (Nat.not_lt.2 h1)
  ·exact h.nr h1
 have hgrr : ∀ k g, e.gr k = some g → k ≠ r := fun k g hk he => by
  subst he
  obtain ⟨_, _, _, _, h1, _⟩ := hc.env.gr k g hk
  rcases h1 with h1 | h1
  ·exact absurd hrs (Nat.not_lt.2 h1)
  ·exact h.nr h1
 let w2 : World := { e.w with heap := e.w.heap.setIfInBounds r (.map me ck) }
 have hsz2 : w2.heap.size = e.w.heap.size := by simp [w2]
 let e2 : Env := { e with w := w2 }
 have hcell : ∀ b o v, e.w.cell? ⟨b, o, none⟩ = some v → b ≠ r := fun b o v hv he => by
  subst he
  simp [World.cell?, hold] at hv
 have hE : Ends e e2 := by
  refine ⟨fun b o v h1 h2 => ⟨h1, ?_⟩, fun _ _ h => h, fun _ G h => ⟨G, h, rfl, rfl, Nat.le_refl _⟩, fun k g G cur h1 h2 h3 => ⟨h1, cur, ?_, rfl⟩⟩
  ·rw [World.cell?_of_block (w := e.w) (hoth b (hcell b o v h2))]; exact h2
  ·show (e.w.heap.setIfInBounds r (.map me ck))[k]? = _
   rw [hoth k (hgrr k g h1)]; exact h3
 refine ⟨w2, e.cl, fun k => k ≠ r ∧ (own k ∨ w0.heap.size ≤ k), ⟨⟨hb.kept.os, hb.kept.tape, hb.kept.output, by rw [hsz2]; exact hb.kept.size, fun k hk ho => ?_⟩, hb.cl, fun k hk => hk.2, ⟨me, ck, hset, hm⟩, fun hk => hk.1 rfl, h.base⟩, e2, rfl, ⟨hc.size, hc.df, fun t d ht => (hc.slots t d ht).next hE, fun b cs hb => ?_, hc.nobox, hc.gs, ?_⟩⟩
 ·have hkr : k ≠ r := fun he => by
   subst he
   exact absurd hk (Nat.not_lt.2 h.base)
  exact (hoth k hkr).trans (hb.kept.block k hk ho)
 ·obtain ⟨k, vs, el, h1, h2, h3⟩ := hc.boxes b cs hb
  exact ⟨k, vs, el, h1, (hoth k (hbxr b k h1)).trans h2, h3.next hE⟩
 ·refine ⟨Kept.refl _ _, fun _ _ _ => rfl, fun b k hk => ?_, hc.env.inj, fun k g hg => ?_, hc.env.kb⟩
  ·obtain ⟨h1, h2, h3⟩ := hb.bx b k hk
   exact ⟨by show k < w2.heap.size; rw [hsz2]; exact h1, .inr ⟨hbxr b k hk, h2.symm⟩, h3⟩
  ·obtain ⟨G, cur, h1, h2, h3, h4, h5⟩ := hb.gr k g hg
   exact ⟨G, cur, h1, by show k < w2.heap.size; rw [hsz2]; exact h2, .inr ⟨hgrr k g hg, h3.symm⟩, h4, (hoth k (hgrr k g hg)).trans h5⟩
/-! ### Code that has a set of its own -/
def MPost (n : Nat) (w0 : World) (cl0 : Nat → Option Nat) (own : Nat → Prop) (kb : List (Nat × Nat)) (dfs : List Deferred) (r : Nat) (Q : Exit → List Int → St → Prop) : Exit → Act → World → Prop := fun x a w => ∃ w' cl' own' es σ e, InMap ⟨n, w0, cl0, own, kb, dfs⟩ ⟨n, w', cl', own', kb, dfs⟩ r es ∧ e.w = w ∧ Conc ⟨n, w', cl', own', kb, dfs⟩ σ e a ∧ Q x es σ
structure MWP (P : Program) (Γ : Ctx) (r : Nat) (c : Code) (Q : Exit → List Int → St → Prop) (es : List Int) (σ : St) : Prop where
 run : ∀ w' cl' own', InMap Γ ⟨Γ.n, w', cl', own', Γ.kb, Γ.dfs⟩ r es → ∀ a e, Conc ⟨Γ.n, w', cl', own', Γ.kb, Γ.dfs⟩ σ e a → c.wp P (MPost Γ.n Γ.w0 Γ.cl0 Γ.own Γ.kb Γ.dfs r Q) a e.w
variable {Q : Exit → List Int → St → Prop} {c x y : Code} {es : List Int} {σ : St} {Γ : Ctx}
theorem jX2 (h : ∀ w' cl' own', InMap Γ ⟨Γ.n, w', cl', own', Γ.kb, Γ.dfs⟩ r es → AWP P ⟨Γ.n, w', cl', own', Γ.kb, Γ.dfs⟩ c (fun x σ' => Q x es σ') σ) : MWP P Γ r c Q es σ := ⟨fun w' cl' own' hi a e hc =>
 Code.wp_mono (fun ex a' w1 hh => by obtain ⟨σ', e', h1, h2, h3⟩ := hh; exact ⟨w', cl', own', es, σ', e', hi, h1, h2, h3⟩) ((h w' cl' own' hi).run a e hc)⟩
def mThen (K : List Int → St → Prop) (Q : Exit → List Int → St → Prop) : Exit → List Int → St → Prop
 | .normal, es, σ => K es σ
 | ex, es, σ => Q ex es σ
theorem kG8 (h : MWP P Γ r x (mThen (fun es σ => MWP P Γ r y Q es σ) Q) es σ) : MWP P Γ r (.seq x y) Q es σ := ⟨fun w' cl' own' hi a e hc => by
 refine wp_seq (Code.wp_mono (fun ex a' w1 hh => ?_) (h.run w' cl' own' hi a e hc))
 obtain ⟨w2, cl2, own2, es2, σ2, e2, h1, rfl, h3, h4⟩ := hh
 cases ex with
 | normal => exact h4.run w2 cl2 own2 h1 a' e2 h3
 | _ => exact ⟨w2, cl2, own2, es2, σ2, e2, h1, rfl, h3, h4⟩⟩
def mBlock (id : Nat) (Q : Exit → List Int → St → Prop) : Exit → List Int → St → Prop
 | .exit id', es, σ => if id' = id then Q .normal es σ else Q (.exit id') es σ
 | ex, es, σ => Q ex es σ
theorem mwp_block {id : Nat} (h : MWP P Γ r c (mBlock id Q) es σ) : MWP P Γ r (.block id c) Q es σ := ⟨fun w' cl' own' hi a e hc => by
 refine wp_block (Code.wp_mono (fun ex a' w1 hh => ?_) (h.run w' cl' own' hi a e hc))
 obtain ⟨w2, cl2, own2, es2, σ2, e2, h1, rfl, h3, h4⟩ := hh
 cases ex with
 | exit id' =>
  simp only [mBlock] at h4
  simp only [Exit.inBlock]
  split
  ·rename_i hid; rw [if_pos hid] at h4; exact ⟨w2, cl2, own2, es2, σ2, e2, h1, rfl, h3, h4⟩
  ·rename_i hid; rw [if_neg hid] at h4; exact ⟨w2, cl2, own2, es2, σ2, e2, h1, rfl, h3, h4⟩
 | _ => exact ⟨w2, cl2, own2, es2, σ2, e2, h1, rfl, h3, h4⟩⟩
theorem mwp_loop {ι : Type} (ok : ι → Prop) (I : ι → St) (E : ι → List Int) (μ : ι → Nat) (i0 : ι) (hk : ok i0) (he : E i0 = es) (h0 : ∀ w' cl' own', Ghost ⟨Γ.n, w', cl', own', Γ.kb, Γ.dfs⟩ σ (I i0))
  (round : ∀ i, ok i → MWP P Γ r c (mThen (fun es' σ' => ∃ j, ok j ∧ μ j < μ i ∧ es' = E j ∧ ∀ w' cl' own', Ghost ⟨Γ.n, w', cl', own', Γ.kb, Γ.dfs⟩ σ' (I j)) Q) (E i) (I i)) : MWP P Γ r (.loop c) Q es σ := by
 refine ⟨fun w' cl' own' hi a e hc => ?_⟩
 obtain ⟨e0, h1, h2⟩ := h0 w' cl' own' a e hc
 rw [← h1]
 have key : ∀ n i, ok i → μ i < n → ∀ w' cl' own', InMap Γ ⟨Γ.n, w', cl', own', Γ.kb, Γ.dfs⟩ r (E i) → ∀ a e, Conc ⟨Γ.n, w', cl', own', Γ.kb, Γ.dfs⟩ (I i) e a → Code.rounds P c (MPost Γ.n Γ.w0 Γ.cl0 Γ.own Γ.kb Γ.dfs r Q) n a e.w := by
  intro n
  induction n with
  | zero => intro i _ hi; omega
  | succ n ih =>
   intro i hok hi w' cl' own' hm a e hc
   rw [rounds_succ]
   refine Code.wp_mono (fun ex a' w1 hh => ?_) ((round i hok).run w' cl' own' hm a e hc)
   obtain ⟨w2, cl2, own2, es2, σ2, e2, h1, rfl, h3, h4⟩ := hh
   cases ex with
   | normal =>
    obtain ⟨j, hj0, hj, rfl, hg⟩ := h4
    obtain ⟨e3, h5, h6⟩ := hg w2 cl2 own2 a' e2 h3
    show Code.rounds P c _ n a' e2.w
    rw [← h5]
    exact ih j hj0 (by omega) w2 cl2 own2 h1 a' e3 h6
   | _ => exact ⟨w2, cl2, own2, es2, σ2, e2, h1, rfl, h3, h4⟩
 exact wp_loop_rounds (μ i0 + 1) (key _ i0 hk (by omega) w' cl' own' (by rw [he]; exact hi) a e0 h2)
theorem a_lookup {l0 l : List Oper} {Q : Exit → St → Prop} {o : Oper} {s : List (Nat × Dt)} {b : List (Nat × List Dt)} {g : List (Nat × Gr)} {t mt kt et : Nat} {w' : World} {cl' : Nat → Option Nat} {own' : Nat → Prop} {x y : Operand} {m : Int} {i : TI} (hT : kU P T) (hi : InMap ⟨n, w0, cl0, own, kb, dfs⟩ ⟨n, w', cl', own', kb, dfs⟩ r es)
  (ho : o.op = .lookup mt x y false) (hm : P.underlying mt = some (.map kt et)) (hkt : P.underlying kt = some (.int .i64)) (het : T et = some i) (hz : i.zero = .bool false) (hx : ev (kv s) x = some (.p (.raw (.map (some r))))) (hy : ev (kv s) y = some (dI m)) (hg : gd l0 o (kv s) = some true) (hd : o.dst = some t) (hl : Nat.blt t n = true)
  (h : zY P ⟨n, w', cl', own', kb, dfs⟩ l0 Q l ⟨(t, dB (decide (m ∈ es))) :: s, b, g⟩) : zY P ⟨n, w', cl', own', kb, dfs⟩ l0 Q (o :: l) ⟨s, b, g⟩ := by
 refine jA6 (σ := ⟨s, b, g⟩) hg (fun a e hc => ?_) h
 have hs := hc.sees o.op.operands
 have h1 := kF (hs.1 x (by rw [ho]; simp [Op.operands]) _ hx)
 have h2 := kF (hs.1 y (by rw [ho]; simp [Op.operands]) _ hy)
 obtain ⟨me, ck, h3, h4⟩ := hi.now hc.env
 have hk : MapKept.IsKey (.int .i64) (.int .i64 m) := rfl
 have hrun : (execOp a.eval o).run P e.w = .ok (.value (.bool (decide (m ∈ es)))) e.w := by
  obtain ⟨dst, op, type, pos, after, guard⟩ := o
  simp only at ho
  subst ho
  rcases kK2 me.toList es m 0 h4 with ⟨h5, h6⟩ | ⟨h5, j, h6⟩
  ·simp [execOp, Instr.lookup, h1, h2, run_underlying hm, MapKept.run_getObj_map h3, MapKept.run_checkKey hkt hk, MapKept.run_findKey hkt h6, uT hT het, hz, h5]
  ·simp [execOp, Instr.lookup, h1, h2, run_underlying hm, MapKept.run_getObj_map h3, MapKept.run_checkKey hkt hk, MapKept.run_findKey hkt h6, h5]
 unfold Oper.wp
 rw [hrun]
 have := hc.put (dst := o.dst) (v := .bool (decide (m ∈ es))) (d := dB (decide (m ∈ es))) (by rw [hd]; exact hl) (.p (.raw _))
 rw [hd] at this
 exact ⟨e, rfl, by rw [hd]; exact this⟩
structure MOps (P : Program) (Γ : Ctx) (r : Nat) (l0 : List Oper) (Q : Exit → List Int → St → Prop) (l : List Oper) (es : List Int) (σ : St) : Prop where
 run : ∀ w' cl' own', InMap Γ ⟨Γ.n, w', cl', own', Γ.kb, Γ.dfs⟩ r es → ∀ a e, Conc ⟨Γ.n, w', cl', own', Γ.kb, Γ.dfs⟩ σ e a → wpList P l0.toArray (MPost Γ.n Γ.w0 Γ.cl0 Γ.own Γ.kb Γ.dfs r Q) l a e.w
theorem mwp_region {id : Nat} {l : List Oper} (h : MOps P Γ r l Q l es σ) : MWP P Γ r (.region id l.toArray false) Q es σ := ⟨fun w' cl' own' hi a e hc => wp_region_lit (h.run w' cl' own' hi a e hc)⟩
variable {l0 l : List Oper} {o : Oper}
theorem m_nil (h : Q .normal es σ) : MOps P Γ r l0 Q [] es σ := ⟨fun w' cl' own' hi _ e hc => ⟨w', cl', own', es, σ, e, hi, rfl, hc, h⟩⟩
theorem m_ax {s : List (Nat × Dt)} {b : List (Nat × List Dt)} {g : List (Nat × Gr)} {t : Nat} {d : Dt} (hT : kU P T) (hq : ax T (kv s) (kv b) o.op = some d) (hg : gd l0 o (kv s) = some true) (hd : o.dst = some t) (hl : Nat.blt t Γ.n = true) (h : MOps P Γ r l0 Q l es ⟨(t, d) :: s, b, g⟩) : MOps P Γ r l0 Q (o :: l) es ⟨s, b, g⟩ := by
 refine ⟨fun w' cl' own' hi a e hc => ?_⟩
 unfold wpList
 rw [if_pos (qN hc hg)]
 have hst : OStep P ⟨Γ.n, w', cl', own', Γ.kb, Γ.dfs⟩ o ⟨s, b, g⟩ _ := QStep.step (σ := ⟨s, b, g⟩) (jE2 hT hq) (jC5 hd hl) (fun p hp => by cases hp)
 refine .inl (jJ2 (hst a e hc) fun a' w1 hh => ?_)
 obtain ⟨e', rfl, hc'⟩ := hh
 rw [hd] at hc'
 exact h.run w' cl' own' hi a' e' hc'
theorem m_update {s : List (Nat × Dt)} {b : List (Nat × List Dt)} {g : List (Nat × Gr)} {mt kt et : Nat} {x y z : Operand} {m : Int} (ho : o.op = .mapUpdate mt x y z) (hd : o.dst = none) (hm : P.underlying mt = some (.map kt et)) (hkt : P.underlying kt = some (.int .i64)) (hx : ev (kv s) x = some (.p (.raw (.map (some r))))) (hy : ev (kv s) y = some (dI m)) (hz : ev (kv s) z = some (dB true)) (hg : gd l0 o (kv s) = some true) (hn : m ∉ es)
  (h : MOps P Γ r l0 Q l (es ++ [m]) ⟨s, b, g⟩) : MOps P Γ r l0 Q (o :: l) es ⟨s, b, g⟩ := by
 refine ⟨fun w' cl' own' hi a e hc => ?_⟩
 obtain ⟨n, w0, cl0, own, kb, dfs⟩ := Γ
 unfold wpList
 rw [if_pos (qN hc hg)]
 have hs := hc.sees o.op.operands
 have h1 := kF (hs.1 x (by rw [ho]; simp [Op.operands]) _ hx)
 have h2 := kF (hs.1 y (by rw [ho]; simp [Op.operands]) _ hy)
 have h2' := kF (hs.1 z (by rw [ho]; simp [Op.operands]) _ hz)
 obtain ⟨me, ck, h3, h4⟩ := hi.now hc.env
 have hk : MapKept.IsKey (.int .i64) (.int .i64 m) := rfl
 obtain ⟨w2, cl2, own2, hi2, e2, he2, hc2⟩ := hi.next hc (es' := es ++ [m]) (me := me.push { key := .int .i64 m, val := .bool true, born := ck }) (ck := ck + 1) (by
  unfold jW1 at h4 ⊢
  simp [h4])
 have hrun : (execOp a.eval o).run P e.w = .ok .skip { e.w with heap := e.w.heap.setIfInBounds r (.map (me.push { key := .int .i64 m, val := .bool true, born := ck }) (ck + 1)) } := by
  obtain ⟨dst, op, type, pos, after, guard⟩ := o
  simp only at ho
  subst ho
  rcases kK2 me.toList es m 0 h4 with ⟨h5, h6⟩ | ⟨h5, j, h6⟩
  ·simp [execOp, Instr.mapUpdate, h1, h2, h2', run_underlying hm, MapKept.run_getObj_map h3, MapKept.run_checkKey hkt hk, MapKept.run_findKey hkt h6, MapKept.run_setObj_map _ h3]
  ·exact absurd h5 hn
 refine .inl ?_
 unfold Oper.wp
 rw [hrun, ← he2]
 have := h.run w2 cl2 own2 hi2 a e2 hc2
 show wpList P _ _ l (a.put o.dst undef) e2.w
 rw [hd]
 exact this
theorem awp_map {id mt t1 t2 : Nat} {o1 o2 : Oper} {rest : Code} {Q : Exit → St → Prop} {s : List (Nat × Dt)} {b : List (Nat × List Dt)} {g : List (Nat × Gr)} (ho : o1.op = .makeMap mt none) (hg1 : o1.guard = none) (hd1 : o1.dst = some t1) (hl1 : Nat.blt t1 Γ.n = true) (ho2 : o2.op = .assign (.tmp t1)) (hg2 : o2.guard = none) (hd2 : o2.dst = some t2) (hl2 : Nat.blt t2 Γ.n = true)
  (h : ∀ r, MWP P Γ r rest (fun x _ σ => Q x σ) [] ⟨(t2, .p (.raw (.map (some r)))) :: (t1, .p (.raw (.map (some r)))) :: s, b, g⟩) : AWP P Γ (.seq (.region id [o1, o2].toArray false) rest) Q ⟨s, b, g⟩ := by
 refine ⟨fun a e hc => ?_⟩
 obtain ⟨n, w0, cl0, own, kb, dfs⟩ := Γ
 refine wp_seq (wp_region_lit ?_)
 unfold wpList
 rw [if_pos (by unfold Region.wanted; rw [hg1])]
 refine .inl ?_
 unfold Oper.wp
 have hrun : (execOp a.eval o1).run P e.w = .ok (.value (.map (some e.w.heap.size))) (e.w.alloc (.map #[] 0)) := by
  obtain ⟨dst, op, type, pos, after, guard⟩ := o1
  simp only at ho
  subst ho
  simp [execOp, Instr.makeMap]
 rw [hrun]
 show wpList P _ _ [o2] (a.put o1.dst _) _
 have hgr := Env.alloc_grow e (.map #[] 0) none
 have hc1 := (hc.grow hgr).put (dst := o1.dst) (v := .map (some e.w.heap.size)) (d := .p (.raw (.map (some e.w.heap.size)))) (by rw [hd1]; exact hl1) (.p (.raw _))
 rw [hd1] at hc1 ⊢
 unfold wpList
 rw [if_pos (by unfold Region.wanted; rw [hg2])]
 refine .inl ?_
 unfold Oper.wp
 have hsl : (a.put (some t1) (.map (some e.w.heap.size))).eval (.tmp t1) = .map (some e.w.heap.size) := kF ((hc1.sees #[.tmp t1]).1 (.tmp t1) (by simp) _ (by simp [ev, St.put, jU]))
 have hrun2 : (execOp (a.put (some t1) (.map (some e.w.heap.size))).eval o2).run P (e.w.alloc (.map #[] 0)) = .ok (.value (.map (some e.w.heap.size))) (e.w.alloc (.map #[] 0)) := by
  obtain ⟨dst, op, type, pos, after, guard⟩ := o2
  simp only at ho2
  subst ho2
  simp [execOp, hsl]
 rw [hrun2]
 have hc2 := hc1.put (dst := o2.dst) (v := .map (some e.w.heap.size)) (d := .p (.raw (.map (some e.w.heap.size)))) (by rw [hd2]; exact hl2) (.p (.raw _))
 rw [hd2] at hc2
 simp only [Oper.upon]
 rw [hd2]
 have hnew : (e.w.alloc (.map #[] 0)).heap[e.w.heap.size]? = some (.map #[] 0) := (MapKept.heap_alloc e.w _).1
 have hbxr : ∀ b k, (e.alloc (.map #[] 0) none).bx b = some k → k ≠ e.w.heap.size := fun b k hk he => by
  have := (hc.env.bx b k hk).1
  omega
 have hgrr : ∀ k g, (e.alloc (.map #[] 0) none).gr k = some g → k ≠ e.w.heap.size := fun k g hk he => by
  obtain ⟨_, _, _, h1, _⟩ := hc.env.gr k g hk
  omega
 have hok : EnvOk ⟨n, w0, cl0, own, kb, dfs⟩ (e.alloc (.map #[] 0) none) := hc2.env
 have hi : InMap ⟨n, w0, cl0, own, kb, dfs⟩ ⟨n, e.w.alloc (.map #[] 0), (e.alloc (.map #[] 0) none).cl, fun k => k ≠ e.w.heap.size ∧ (own k ∨ w0.heap.size ≤ k), kb, dfs⟩ e.w.heap.size [] :=
  ⟨hok.kept, hok.cl, fun k hk => hk.2, ⟨#[], 0, hnew, rfl⟩, fun hk => hk.1 rfl, hc.env.kept.size⟩
 have hc3 : Conc ⟨n, e.w.alloc (.map #[] 0), (e.alloc (.map #[] 0) none).cl, fun k => k ≠ e.w.heap.size ∧ (own k ∨ w0.heap.size ≤ k), kb, dfs⟩ ⟨(t2, .p (.raw (.map (some e.w.heap.size)))) :: (t1, .p (.raw (.map (some e.w.heap.size)))) :: s, b, g⟩ (e.alloc (.map #[] 0) none) ((a.put (some t1) (.map (some e.w.heap.size))).put (some t2) (.map (some e.w.heap.size))) := by
  refine ⟨hc2.size, hc2.df, hc2.slots, hc2.boxes, hc2.nobox, hc2.gs, ⟨Kept.refl _ _, fun _ _ _ => rfl, fun b k hk => ?_, hok.inj, fun k g hg => ?_, hok.kb⟩⟩
  ·obtain ⟨h1, h2, h3⟩ := hok.bx b k hk
   exact ⟨h1, .inr ⟨hbxr b k hk, h2.symm⟩, h3⟩
  ·obtain ⟨G, cur, h1, h2, h3, h4, h5⟩ := hok.gr k g hg
   exact ⟨G, cur, h1, h2, .inr ⟨hgrr k g hg, h3.symm⟩, h4, h5⟩
 refine Code.wp_mono (fun ex a' w1 hh => ?_) ((h e.w.heap.size).run _ _ _ hi _ _ hc3)
 obtain ⟨w2, cl2, own2, es2, σ2, e2, k1, k2, k3, k4⟩ := hh
 exact ⟨σ2, e2, k2, k1.conc k3, k4⟩
theorem xM {K : List Int → St → Prop} (h : K es σ) : mThen K Q .normal es σ := h
theorem jO8 {K : List Int → St → Prop} {id : Nat} (h : Q (.exit id) es σ) : mThen K Q (.exit id) es σ := h
theorem kN2 {id : Nat} (h : Q .normal es σ) : mBlock id Q .normal es σ := h
theorem kE7 {id : Nat} (h : Q .normal es σ) : mBlock id Q (.exit id) es σ := by
 show (if id = id then _ else _)
 rw [if_pos rfl]; exact h
end
end Go.Proofs.YtkkldicehapklaaGreat
end
section
/- A call, in a region that draws, of a function that hands back a row of its own. -/
namespace Go.Proofs.YtkkldicehapklaaGreat
open Go.RowKit
section
variable {P : Program} {T : Nat → Option TI} {Γ : Ctx} {o : Oper} {l0 l : List Oper}
variable {s : List (Nat × Dt)} {b : List (Nat × List Dt)} {g : List (Nat × Gr)} {t : Nat}
theorem EnvOk.addRow {e : Env} (hok : EnvOk Γ e) {gn : Nat} (hgi : e.gi gn = none) {el sz n k : Nat} {cur : Array Value} (hk1 : Γ.w0.heap.size ≤ k) (hk2 : k < e.w.heap.size) (hk3 : e.cl k = some (n * sz)) (hk4 : e.gr k = none) (hk5 : ∀ b, e.bx b ≠ some k) (hk6 : e.w.heap[k]? = some (.cells cur el (0, 0))) :
  EnvOk Γ { e with gr := fun j => if j = k then some gn else e.gr j, gi := fun h => if h = gn then some ⟨el, sz, n⟩ else e.gi h } ∧ Ends e { e with gr := fun j => if j = k then some gn else e.gr j, gi := fun h => if h = gn then some ⟨el, sz, n⟩ else e.gi h } := by
 have hng : ∀ k, e.gr k ≠ some gn := fun k hk => by obtain ⟨G, _, h, _⟩ := hok.gr k gn hk; rw [hgi] at h; cases h
 have hE : Ends e { e with gr := fun j => if j = k then some gn else e.gr j, gi := fun h => if h = gn then some ⟨el, sz, n⟩ else e.gi h } := by
  refine ⟨fun _ _ _ h1 h2 => ⟨h1, h2⟩, fun _ _ h => h, fun g' G h => ⟨G, ?_, rfl, rfl, Nat.le_refl _⟩, fun j g' G cur' h1 h2 h3 => ⟨?_, cur', h3, rfl⟩⟩
  ·show (if g' = gn then _ else e.gi g') = _
   rw [if_neg (fun e' => by rw [e', hgi] at h; cases h)]; exact h
  ·show (if j = k then some gn else e.gr j) = _
   rw [if_neg (fun e' => by rw [e', hk4] at h1; cases h1)]; exact h1
 refine ⟨⟨hok.kept, hok.cl, fun b j hj => ?_, hok.inj, fun j g' hj => ?_, hok.kb⟩, hE⟩
 ·obtain ⟨h1, h2, h3, h4⟩ := hok.bx b j hj
  refine ⟨h1, h2, h3, ?_⟩
  show (if j = k then some gn else e.gr j) = none
  rw [if_neg (fun e' => hk5 b (by rw [← e']; exact hj))]; exact h4
 ·have hj' : (if j = k then some gn else e.gr j) = some g' := hj
  split at hj'
  ·rename_i hjk
   cases hj'
   exact ⟨⟨el, sz, n⟩, cur, by show (if gn = gn then _ else _) = _; simp, by rw [hjk]; exact hk2, .inl (by rw [hjk]; exact hk1), by rw [hjk]; exact hk3, by rw [hjk]; exact hk6⟩
  ·obtain ⟨G, cur', h1, h2⟩ := hok.gr j g' hj'
   exact ⟨G, cur', by show (if g' = gn then _ else e.gi g') = _; rw [if_neg (fun e' => hng j (by rw [← e']; exact hj'))]; exact h1, h2⟩
theorem gstep_callF {f : FuncId} {S : Nat → Option Dt} (gn : Nat) {el sz n : Nat} {ps : List Pl} {ds : List Dt} {xs : List Operand} {ats : Array TypeId} (hC : FreshC P f ds el sz n ps) (ho : o.op = .call { callee := .value (.func f), args := xs.toArray, argTypes := ats }) (hf : uH P f) (he : jK4 S xs Dt.low.lows = some ds) (hps : ps.length = n * sz) : GStep P o S gn none ⟨el, sz, n⟩ (.tip gn n ps) := by
 intro Γ a e hok hs hgi
 obtain ⟨ds0, h1, h2⟩ := xI (a := a) (e := e) xs _ ds (fun x hx => hs x (by rw [ho]; simp [Op.operands, Call.operands, hx])) he
 have hv := jW4 h1 h2
 have e1 : (execOp a.eval o).run P e.w = .ok (.enter f (xs.map a.eval).toArray) e.w := by
  obtain ⟨dst, op, type, pos, after, guard⟩ := o
  simp only at ho
  subst ho
  rw [execOp_call_go, hf]
  simp
 unfold Oper.wp
 rw [e1]
 refine (hC e.w e.cl _ hv).mono fun r w' hh => ?_
 obtain ⟨v, cl', rfl, hb, hcl, hr, A, cap, rfl, hfr⟩ := hh
 have hgw : Grow e { e with w := w', cl := cl' } := ⟨hb, fun k hk => hcl k hk, rfl, rfl, rfl⟩
 have hok1 := hgw.ok hok
 have hp1 : PRep { e with w := w', cl := cl' } (.slice A n cap) (.sl false n ps) := by
  cases hr with | p h => exact PRep.env (e := xD w' cl') (e' := { e with w := w', cl := cl' }) rfl rfl h
 rcases hfr with hcap | ⟨k, cur, hA, k1, k2, k3, k4, k5⟩
 ·obtain ⟨h3, h4⟩ := hok1.group (gn := gn) hgi ⟨el, sz, n⟩
  exact ⟨_, _, rfl, (by rfl), hgw.ends.trans h4, h3, rfl, fun h => rfl, fun c ds hbx => (hgw.box hbx).ends h4 rfl, .tip (hp1.next h4) ⟨⟨el, sz, n⟩, A, cap, by simp, rfl, Nat.le_refl _, hps, .inl hcap⟩⟩
 ·have q1 : e.gr k = none := by
   rcases hgk : e.gr k with _ | g'
   ·rfl
   ·obtain ⟨_, _, _, hlt, _⟩ := hok.gr k g' hgk; omega
  have q2 : ∀ b, e.bx b ≠ some k := fun b hbk => by have := (hok.bx b k hbk).1; omega
  obtain ⟨h3, h4⟩ := hok1.addRow (gn := gn) hgi (n := n) (sz := sz) (k := k) (Nat.le_trans hok.kept.size k1) k2 k3 q1 q2 k4
  exact ⟨_, _, rfl, (by rfl), hgw.ends.trans h4, h3, rfl, fun h => rfl, fun c ds hbx => (hgw.box hbx).ends h4 rfl, .tip (hp1.next h4) ⟨⟨el, sz, n⟩, A, cap, by simp, rfl, Nat.le_refl _, hps, .inr ⟨k, hA, ⟨by simp, cur, k4, k5⟩⟩⟩⟩
variable {n : Nat} {B B0 : List (Nat × List Dt)} {K : St → Prop} {D : List Nat} {L : List (Nat × Nat)} {ix : Nat}
theorem r_callF {f : FuncId} (gn : Nat) {el sz n' : Nat} {ps : List Pl} {ds : List Dt} {xs : List Operand} {ats : Array TypeId} (hC : FreshC P f ds el sz n' ps) (ho : o.op = .call { callee := .value (.func f), args := xs.toArray, argTypes := ats }) (hf : uH P f) (he : jK4 (kv s) xs Dt.low.lows = some ds) (hg : gd l0 o (kv s) = some true) (hd : o.dst = some t) (hgn : kv g gn = none) (hL : kB1 o L gn = true) (hps : ps.length = n' * sz)
  (h : QRun P n l0 B B0 K (ix + 1) D ((gn, t) :: L) l ⟨(t, .tip gn n' ps) :: s, b, (gn, ⟨el, sz, n'⟩) :: g⟩) : QRun P n l0 B B0 K ix D L (o :: l) ⟨s, b, g⟩ :=
 .inr (.inr (.inr ⟨gn, _, _, t, hg, hd, by simp [jT2, ho], hL, by rw [hgn]; exact gstep_callF gn hC ho hf he hps, by rw [hd]; exact h⟩))
theorem kF7 {Q : Exit → St → Prop} {x y : Code} {σ : St} (I0 : St) (h1 : AWP P Γ x (fun ex σ' => ex = .normal ∧ Ghost Γ σ' I0) σ) (h2 : AWP P Γ y Q I0) : AWP P Γ (.seq x y) Q σ :=
 jR7 (jL1 h1 fun ex σ' h => by
  obtain ⟨rfl, hg⟩ := h
  exact kP hg h2)
end
end Go.Proofs.YtkkldicehapklaaGreat
end
section
/- Pairs of numbers that are compared. -/
namespace Go.Proofs.YtkkldicehapklaaGreat
open Go.RowKit
section
variable {P : Program} {T : Nat → Option TI} {S : Nat → Option Dt} {B : Nat → Option (List Dt)} {o : Oper}
theorem remT_step {t u : TypeId} {x y : Operand} {a b : Int} (ho : o.op = .binOp .rem t x y u) (hx : ev S x = some (dI a)) (hy : ev S y = some (dI b)) (h1 : 0 < b) : QStep P o S B (dI (a.tmod b)) none := by
 refine kZ fun ac e hs => ?_
 have hx1 := kF (hs.1 x (by rw [ho]; simp [Op.operands]) _ hx)
 have hy1 := kF (hs.1 y (by rw [ho]; simp [Op.operands]) _ hy)
 refine ⟨_, ?_, .p (.raw _)⟩
 obtain ⟨dst, op, type, pos, after, guard⟩ := o
 simp only at ho
 subst ho
 have hb : ¬ b = 0 := by omega
 simp [execOp, hx1, hy1, eqGuard, binOp, Op.intDiv, hb]
theorem tmod_fix (a b : Int) (hb : 0 < b) : (a.tmod b < 0 → a.tmod b + b = a % b) ∧ (¬ a.tmod b < 0 → a.tmod b = a % b) := by
 have h := Int.tmod_eq_emod (a := a) (b := b)
 have h0 := Int.emod_nonneg a (show b ≠ 0 by omega)
 have h1 := Int.emod_lt_of_pos a hb
 split at h
 ·omega
 ·rename_i hn
  have hne : a % b ≠ 0 := fun e => hn (.inr (Int.dvd_of_emod_eq_zero e))
  omega
end
end Go.Proofs.YtkkldicehapklaaGreat
end
section
/- A region that draws its order: a head of quiet operations, a row that is forced, and quiet operations behind it, in whatever order. -/
namespace Go.Proofs.YtkkldicehapklaaGreat
open Go.RowKit
section
variable {P : Program} {Γ : Ctx} {Q : Exit → St → Prop}
theorem wp_exQ {o : Oper} {a : Act} {w : World} {K : Act → World → Prop} {Q Q' : Exit → Act → World → Prop} (hq : ∀ ex a w, ex ≠ .normal → Q ex a w → Q' ex a w) (h : o.wp P a w K Q) : o.wp P a w K Q' := by
 unfold Oper.wp at *
 generalize (execOp a.eval o).run P w = r at *
 cases r with
 | ok n w' =>
  cases n <;> simp only [Oper.upon] at h ⊢ <;> first
   | exact h
   | exact Calls.mono h (fun e w'' he => by
     cases e with
     | returned v => exact he
     | panicked ch => exact hq _ _ _ (by simp) he
     | outgrown => obtain ⟨a2, w2, hh⟩ := he; exact ⟨a2, w2, hq _ _ _ (by simp) hh⟩)
 | halt x w' => cases x <;> simp only [Oper.upon] at h ⊢ <;> first | exact hq _ _ _ (by simp) h | exact h
theorem kL8 {ops : Array Oper} {i : Nat} {a : Act} {w : World} {K : Act → World → Prop} {Q Q' : Exit → Act → World → Prop} (hq : ∀ ex a w, ex ≠ .normal → Q ex a w → Q' ex a w) (h : wpOp P ops Q i K a w) : wpOp P ops Q' i K a w := by
 unfold wpOp at *
 split
 ·rename_i ho; simp only [ho] at h; exact h
 ·rename_i o ho
  simp only [ho] at h
  split
  ·rename_i hw
   simp only [hw, if_true] at h
   rcases h with h | ⟨h1, a2, w2, h2⟩
   ·exact .inl (wp_exQ hq h)
   ·exact .inr ⟨h1, a2, w2, hq _ _ _ (by simp) h2⟩
  ·rename_i hw; simp only [hw] at h; exact h
theorem jQ5 {ops : Array Oper} {Q Q' : Exit → Act → World → Prop} (hn : ∀ a w, Q .normal a w → Q' .normal a w) (hq : ∀ ex a w, ex ≠ .normal → Q ex a w → Q' ex a w) : ∀ {l : List Oper} {a : Act} {w : World}, wpList P ops Q l a w → wpList P ops Q' l a w
 | [], a, w, h => hn a w h
 | o :: l, a, w, h => by
  unfold wpList at h ⊢
  split
  ·rename_i hw
   rw [if_pos hw] at h
   rcases h with h | ⟨h1, a2, w2, h2⟩
   ·exact .inl (wp_exQ hq (Oper.wp_mono (fun a w hh => jQ5 hn hq hh) h))
   ·exact .inr ⟨h1, a2, w2, hq _ _ _ (by simp) h2⟩
  ·rename_i hw
   rw [if_neg hw] at h
   exact jQ5 hn hq h
def tail3B (ops : Array Oper) (n m : Nat) : Bool :=
 (List.range ops.size).all fun t => decide (t < n) || (List.range (Nat.min t m)).all fun i => match ops[t]? with
  | some o => (o.after.any fun e => Region.binds .any e && e.on == i) || yV ops ops.size t i
  | none => true
theorem kJ4 {ops : Array Oper} {n m : Nat} (h : tail3B ops n m = true) {t i : Nat} {o : Oper} (ht : ops[t]? = some o) (hn : n ≤ t) (hi : i < t) (him : i < m) : (∃ e ∈ o.after, Region.binds .any e = true ∧ e.on = i) ∨ yV ops ops.size t i = true := by
 have htl : t < ops.size := (Array.getElem?_eq_some_iff.1 ht).1
 have h1 := List.all_eq_true.1 h t (List.mem_range.2 htl)
 simp only [Bool.or_eq_true, decide_eq_true_eq] at h1
 have h2 := h1.resolve_left (by omega)
 have h3 := List.all_eq_true.1 h2 i (List.mem_range.2 (by simp only [Nat.min_def]; split <;> omega))
 rw [ht] at h3
 simp only [Bool.or_eq_true] at h3
 rcases h3 with h3 | h3
 ·obtain ⟨e, he, hb⟩ := Array.any_eq_true'.1 h3
  simp only [Bool.and_eq_true, beq_iff_eq] at hb
  exact .inl ⟨e, he, hb⟩
 ·exact .inr h3
theorem kE9 {ops : Array Oper} {n m : Nat} (h : tail3B ops n m = true) (hnm : n ≤ m) : jW5 ops n = true := by
 refine List.all_eq_true.2 fun t ht => ?_
 by_cases hn : t < n
 ·simp [hn]
 ·simp only [Bool.or_eq_true, decide_eq_true_eq]
  refine .inr (List.all_eq_true.2 fun i hi => ?_)
  cases ho : ops[t]? with
  | none => rfl
  | some o =>
   have hin : i < n := List.mem_range.1 hi
   simp only [Bool.or_eq_true]
   rcases kJ4 h ho (by omega) (show i < t by omega) (by omega) with ⟨e, he, h1, h2⟩ | h1
   ·refine .inl (Array.any_eq_true'.2 ⟨e, he, ?_⟩)
    simp [h1, h2]
   ·exact .inr h1
theorem jU4 (ops : Array Oper) : jW5 ops ops.size = true ∧ jP9 ops ops.size = true := by
 refine ⟨List.all_eq_true.2 fun t ht => ?_, List.all_eq_true.2 fun t ht => ?_⟩
 ·simp [List.mem_range.1 ht]
 ·simp [List.mem_range.1 ht]
def rowQ (P : Program) (ops : Array Oper) (m : Nat) (Q : Exit → Act → World → Prop) : Exit → Act → World → Prop
 | .normal, a, w => ∀ listed : Array Bool, listed.size = ops.size → (∀ i, i < m → listed.getD i false = true) → (∀ i, m ≤ i → i < ops.size → listed.getD i true = false) → wpAny P .any ops Q (ops.size - m) listed a w
 | ex, a, w => Q ex a w
theorem kD7 {ops : Array Oper} {mm n m : Nat} (hok : jH9 ops mm) (hB : tail3B ops n m = true) (hm : m ≤ ops.size) {Q : Exit → Act → World → Prop} : ∀ (j k : Nat) (listed : Array Bool) (a : Act) (w : World), j + k = m → n ≤ k → listed.size = ops.size →
  (∀ i, i < k → listed.getD i false = true) → (∀ i, k ≤ i → i < ops.size → listed.getD i true = false) → wpList P ops (rowQ P ops m Q) ((ops.toList.take m).drop k) a w → wpAny P .any ops Q (ops.size - k) listed a w
 | 0, k, listed, a, w, hf, hn, hs, hlt, hge, h => by
  obtain rfl : k = m := by omega
  rw [List.drop_eq_nil_of_le (by simp; omega)] at h
  exact h listed hs hlt hge
 | j + 1, k, listed, a, w, hf, hn, hs, hlt, hge, h => by
  have hkl : k < ops.size := by omega
  have hko : ops[k]? = some ops[k] := by simp [hkl]
  have hkr : k ∈ Region.ready .any ops listed := mem_ready.2 ⟨hge k (Nat.le_refl _) hkl, ops[k], hko, fun e he hb => hlt _ (hok.back k ops[k] hko e he hb)⟩
  rw [show ops.size - k = (ops.size - (k + 1)) + 1 by omega]
  refine ⟨(fun h0 => by rw [h0] at hkr; cases hkr), fun i hi => ?_⟩
  obtain ⟨hun, o, ho, hall⟩ := mem_ready.1 hi
  have hil : i < ops.size := (Array.getElem?_eq_some_iff.1 ho).1
  have hkn := hge k (Nat.le_refl _) hkl
  have hik : i = k := by
   rcases Nat.lt_trichotomy i k with h1 | h1 | h1
   ·have := hlt i h1
    rw [(kI hun).1] at this
    cases this
   ·exact h1
   ·have hcl : ∀ (a : Nat) (o : Oper), ops[a]? = some o → listed.getD a false = true → ∀ x ∈ o.after, Region.binds .any x = true → listed.getD x.on false = true := fun b ob hb hl x hx hbd => by
     have hbs : b < ops.size := (Array.getElem?_eq_some_iff.1 hb).1
     have hbk : b < k := by
      rcases Nat.lt_or_ge b k with h2 | h2
      ·exact h2
      ·have := hge b h2 hbs
       rw [(kI this).1] at hl
       cases hl
     exact hlt _ (Nat.lt_trans (hok.back b ob hb x hx hbd) hbk)
    rcases kJ4 hB ho (by omega) h1 (by omega) with ⟨e, he, hb, hon⟩ | h2
    ·have h2 := hall e he hb
     rw [hon, (kI hkn).1] at h2
     cases h2
    ·have h3 := uQ hcl _ _ _ o ho hall h2
     rw [(kI hkn).1] at h3
     cases h3
  subst hik
  rw [hko] at ho
  cases ho
  rw [List.drop_eq_getElem_cons (by simp; omega)] at h
  have h' : wpList P ops (rowQ P ops m Q) (ops[i] :: (ops.toList.take m).drop (i + 1)) a w := by simpa using h
  refine kL8 (Q := rowQ P ops m Q) (fun ex a w hne hh => by cases ex <;> first | exact hh | exact absurd rfl hne) (wpOp_mono (fun a' w' hh => ?_) (jZ7 hko h'))
  refine kD7 hok hB hm j (i + 1) _ a' w' (by omega) (by omega) (by simpa using hs) (fun j hj => ?_) (fun j hj hjs => ?_) hh
  ·by_cases e : i = j
   ·subst e; simp [hs, hkl]
   ·rw [getD_set_ne false e]; exact hlt j (by omega)
  ·rw [getD_set_ne true (by omega)]; exact hge j (by omega) hjs
def jU3 (s : List (Nat × Dt)) : List Oper → Bool
 | [] => true
 | o :: l => (match o.dst with | some t => (kv s t).isSome | none => true) && jU3 s l
theorem kM5 {s : List (Nat × Dt)} : ∀ {l : List Oper} {j : Nat} {t : Nat}, jU3 s l = true → (l[j]?).bind (·.dst) = some t → ∃ d, kv s t = some d
 | [], j, t, _, h => by simp at h
 | o :: l, 0, t, hk, h => by
  simp only [List.getElem?_cons_zero, Option.bind_some] at h
  simp only [jU3, h, Bool.and_eq_true, Option.isSome_iff_exists] at hk
  exact hk.1
 | o :: l, j + 1, t, hk, h => by
  simp only [jU3, Bool.and_eq_true] at hk
  exact kM5 hk.2 (by simpa using h)
section
variable {l : List Oper} {m : Nat}
theorem stS_known {F : Nat → Dt} {S : Nat → Option Dt} (h : ∀ j t, j < m → (l[j]?).bind (·.dst) = some t → S t = some (F j)) : ∀ i, i ≤ m → stS l F S i = S
 | 0, _ => rfl
 | i + 1, hi => by
  funext t
  simp only [stS]
  split
  ·rename_i e; exact (h i t (by omega) e).symm
  ·rw [stS_known h i (by omega)]
theorem stS_shift {F F' : Nat → Dt} {S : Nat → Option Dt} (h0 : stS l F' S m = S) (hF : ∀ i, F' (m + i) = F i) : ∀ i, stS l F' S (m + i) = stS (l.drop m) F S i
 | 0 => h0
 | i + 1 => by
  funext t
  rw [show m + (i + 1) = (m + i) + 1 by omega]
  simp only [stS, stS_shift h0 hF i, hF, List.getElem?_drop]
theorem stB_none {N : Nat → Option (Nat × List Dt)} {B : Nat → Option (List Dt)} (h : ∀ j, j < m → N j = none) : ∀ i, i ≤ m → stB N B i = B
 | 0, _ => rfl
 | i + 1, hi => by simp only [stB, h i (by omega), stB_none h i (by omega)]; rfl
theorem stB_shift {N N' : Nat → Option (Nat × List Dt)} {B : Nat → Option (List Dt)} (h0 : stB N' B m = B) : ∀ i, (∀ j, j < i → N' (m + j) = N j) → stB N' B (m + i) = stB N B i
 | 0, _ => h0
 | i + 1, hN => by
  rw [show m + (i + 1) = (m + i) + 1 by omega]
  simp only [stB, stB_shift h0 i (fun j hj => hN j (by omega)), hN i (by omega)]
theorem stG_none {M : Nat → Option (Nat × Gr)} {G : Nat → Option Gr} (h : ∀ j, j < m → M j = none) : ∀ i, i ≤ m → stG M G i = G
 | 0, _ => rfl
 | i + 1, hi => by simp only [stG, h i (by omega), stG_none h i (by omega)]; rfl
theorem stG_shift {M M' : Nat → Option (Nat × Gr)} {G : Nat → Option Gr} (h0 : stG M' G m = G) : ∀ i, (∀ j, j < i → M' (m + j) = M j) → stG M' G (m + i) = stG M G i
 | 0, _ => h0
 | i + 1, hN => by
  rw [show m + (i + 1) = (m + i) + 1 by omega]
  simp only [stG, stG_shift h0 i (fun j hj => hN j (by omega)), hN i (by omega)]
theorem stD_none {U : Nat → Bool} {N : Nat → Option (Nat × List Dt)} {D : List Nat} (h : ∀ j, j < m → N j = none) : ∀ i, i ≤ m → stD U N D i = D
 | 0, _ => rfl
 | i + 1, hi => by
  simp only [stD, h i (by omega), stD_none h i (by omega), nameIn]
  cases U i <;> rfl
theorem stD_shift {U U' : Nat → Bool} {N N' : Nat → Option (Nat × List Dt)} {D : List Nat} (h0 : stD U' N' D m = D) : ∀ i, (∀ j, j < i → N' (m + j) = N j ∧ U' (m + j) = U j) → stD U' N' D (m + i) = stD U N D i
 | 0, _ => h0
 | i + 1, hN => by
  rw [show m + (i + 1) = (m + i) + 1 by omega]
  simp only [stD, stD_shift h0 i (fun j hj => hN j (by omega)), (hN i (by omega)).1, (hN i (by omega)).2]
theorem kI5 {M : Nat → Option (Nat × Gr)} {L : List (Nat × Nat)} (h : ∀ j, j < m → M j = none) : ∀ i, i ≤ m → stL l M L i = L
 | 0, _ => rfl
 | i + 1, hi => by simp only [stL, h i (by omega), jV7, kI5 h i (by omega)]
theorem stL_shift {M M' : Nat → Option (Nat × Gr)} {L : List (Nat × Nat)} (h0 : stL l M' L m = L) : ∀ i, (∀ j, j < i → M' (m + j) = M j) → stL l M' L (m + i) = stL (l.drop m) M L i
 | 0, _ => h0
 | i + 1, hN => by
  rw [show m + (i + 1) = (m + i) + 1 by omega]
  simp only [stL, stL_shift h0 i (fun j hj => hN j (by omega)), hN i (by omega), List.getElem?_drop]
end
def lastQ (P : Program) (Γ : Ctx) (l l3 : List Oper) (m : Nat) (Q : Exit → St → Prop) : Exit → St → Prop
 | .normal, σ => ∃ B, SubBx σ.b B ∧ jU3 σ.s (l.take m) = true ∧ QRun P Γ.n l B σ.b (Q .normal) m [] [] l3 σ
 | ex, σ => Q ex σ
theorem last_any {l : List Oper} {m : Nat} (hml : m ≤ l.length) (hok : jH9 l.toArray Γ.n) {Q : Exit → St → Prop} {σ : St} {e : Env} {a : Act} (hc : Conc Γ σ e a) (h : lastQ P Γ l (l.drop m) m Q .normal σ) : rowQ P l.toArray m (jE4 Γ Q) .normal a e.w := by
 obtain ⟨B, hBs, hK, hQ⟩ := h
 intro listed hs hl1 hl2
 obtain ⟨F, N, U, M, σe, h1, h2, h3, h4, h5⟩ := QRun.extract (l.drop m) m [] [] σ hQ
 have hlm : ∀ j, listed.getD j false = true → j < m := fun j hj => by
  rcases Nat.lt_or_ge j m with h6 | h6
  ·exact h6
  ·rcases Nat.lt_or_ge j l.toArray.size with h7 | h7
   ·have := hl2 j h6 h7
    rw [(kI this).1] at hj; cases hj
   ·have h8 : listed[j]? = none := Array.getElem?_eq_none (by omega)
    simp [h8] at hj
 let F' : Nat → Dt := fun i => if i < m then (match (l[i]?).bind (·.dst) with | some t => (kv σ.s t).getD .any | none => .any) else F (i - m)
 let N' : Nat → Option (Nat × List Dt) := fun i => if m ≤ i ∧ i < l.length then N (i - m) else none
 let U' : Nat → Bool := fun i => U (i - m)
 let M' : Nat → Option (Nat × Gr) := fun i => if m ≤ i ∧ i < l.length then M (i - m) else none
 have hN0 : ∀ j, j < m → N' j = none := fun j hj => if_neg (by omega)
 have hM0 : ∀ j, j < m → M' j = none := fun j hj => if_neg (by omega)
 have hNs : ∀ j, m + j < l.length → N' (m + j) = N j := fun j hj => by simp only [N']; rw [if_pos ⟨by omega, hj⟩, Nat.add_sub_cancel_left]
 have hMs : ∀ j, m + j < l.length → M' (m + j) = M j := fun j hj => by simp only [M']; rw [if_pos ⟨by omega, hj⟩, Nat.add_sub_cancel_left]
 have hUs : ∀ j, U' (m + j) = U j := fun j => by simp only [U']; rw [Nat.add_sub_cancel_left]
 have hFs : ∀ j, F' (m + j) = F j := fun j => by simp only [F']; rw [if_neg (by omega), Nat.add_sub_cancel_left]
 have hF0 : ∀ j t, j < m → (l[j]?).bind (·.dst) = some t → kv σ.s t = some (F' j) := fun j t hj ht => by
  obtain ⟨d, hd⟩ := kM5 (l := l.take m) (j := j) hK (by rw [List.getElem?_take_of_lt hj]; exact ht)
  simp only [F']
  rw [if_pos hj, ht]
  simp only [hd]
  rfl
 have eS : ∀ i, stS l F' (kv σ.s) (m + i) = stS (l.drop m) F (kv σ.s) i := stS_shift (stS_known hF0 m (Nat.le_refl _)) hFs
 have eB : ∀ i, m + i ≤ l.length → stB N' (kv σ.b) (m + i) = stB N (kv σ.b) i := fun i hi => stB_shift (stB_none hN0 m (Nat.le_refl _)) i fun j hj => hNs j (by omega)
 have eG : ∀ i, m + i ≤ l.length → stG M' (kv σ.g) (m + i) = stG M (kv σ.g) i := fun i hi => stG_shift (stG_none hM0 m (Nat.le_refl _)) i fun j hj => hMs j (by omega)
 have eD : ∀ i, m + i ≤ l.length → stD U' N' [] (m + i) = stD U N [] i := fun i hi => stD_shift (stD_none hN0 m (Nat.le_refl _)) i fun j hj => ⟨hNs j (by omega), hUs j⟩
 have eL : ∀ i, m + i ≤ l.length → stL l M' [] (m + i) = stL (l.drop m) M [] i := fun i hi => stL_shift (kI5 hM0 m (Nat.le_refl _)) i fun j hj => hMs j (by omega)
 have hsz : l.toArray.size = l.length := by simp
 have hdl : m + (l.drop m).length = l.length := by rw [List.length_drop]; omega
 have hun : yU listed = l.toArray.size - m := by
  have := uD listed.toList m (by simpa [hs] using hml) (fun i hi => by
   have h1 := hl1 i hi
   have hil : i < listed.size := by rw [hs]; omega
   simp [hil] at h1 ⊢; exact h1) (fun i hi hl => by
   have hil : i < listed.size := by simpa using hl
   have h1 := hl2 i hi (by rw [← hs]; exact hil)
   simp [hil] at h1 ⊢; exact h1)
  simpa [yU, hs] using this
 refine xU (P := P) (Γ := Γ) (σ := σ) (ops := l.toArray) (H := l.toArray.size) (fun i => decide (i < m)) (fun _ => false) (fun _ => true) hok (jU4 _).1 (Nat.le_refl _) (F := F') (N := N') (U := U') (M := M') (B := B) (a0 := a) (Q := jE4 Γ Q) (fun i hi => if_neg (by omega)) (fun i hi => if_neg (by omega)) (fun i hi => hN0 i (by simpa using hi)) (fun i hi => hM0 i (by simpa using hi)) (fun _ _ _ => .inl rfl) (.inr fun _ => rfl) (fun b cs => hBs.get)
  (fun i o hi ho hmi _ _ => ?_) (fun listed b e' hv q2 q3 _ => ?_) (fun _ _ _ _ _ h => by cases h) _ listed a e hun.symm ?_ (fun t h6 h7 => absurd h7 (by omega)) (fun i hi => hl1 i (by simpa using hi)) (fun i hi => by cases hi)
 ·have hmi : m ≤ i := by have := of_decide_eq_false hmi; omega
  obtain ⟨j, rfl⟩ : ∃ j, i = m + j := ⟨i - m, by omega⟩
  have h6 := h5 j o (by rw [List.getElem?_drop]; simpa using ho)
  rw [← eS, ← eB j (by omega), ← eG j (by omega), ← eD j (by omega), ← eL j (by omega), ← hFs, ← hUs, ← hNs j (by omega), ← hMs j (by omega)] at h6
  exact h6
 ·have hb : Conc Γ σe e' b := hv.conc hok (by rw [h3, hsz, ← hdl]; exact (eS _).symm) (by rw [h4, hsz, ← hdl]; exact (eB _ (by omega)).symm) (by rw [h2, hsz, ← hdl]; exact (eG _ (by omega)).symm) q2 q3
  exact jK0 hok (jU4 _).2 _ _ listed b e'.w (by omega) (Nat.le_refl _) hv.lsize q2 q3 (by rw [List.drop_eq_nil_of_le (by simp)]; exact ⟨σe, e', rfl, hb, h1⟩)
 ·refine ⟨hs, hc.size, hc.df, fun i o hi hl x hx hb => hl1 _ (Nat.lt_trans (hok.back i o hi x hx hb) (hlm i hl)), fun i o t hi hl ht => ?_, fun t _ => rfl, hc.slots, fun b cs hb _ => hc.boxes b cs hb, fun i p hl hp => ?_, fun b hb _ => hc.nobox b hb, fun g _ => hc.gs g, fun i p hl hp => ?_, hc.env⟩
  ·exact hc.slots t _ (hF0 i t (hlm i hl) (by have : l[i]? = some o := by simpa using hi
                                              rw [this]; exact ht))
  ·rw [hN0 i (hlm i hl)] at hp; cases hp
  ·rw [hM0 i (hlm i hl)] at hp; cases hp
theorem jB9 {σ : St} (k m : Nat) (ws : List Nat) {id : Nat} {l l1 l2 l3 : List Oper} {B : List (Nat × List Dt)} (hs : jE3 k l (fun a => wK k l fun b => jE3 (m - k) b fun c => wK m l fun d => some (a, c, d)) = some (l1, l2, l3)) (hv : visK ws σ.b some = some B) (hm : P.follows .mixedOrders = true) (hB : relB l.toArray Γ.n = true) (hT : tail3B l.toArray k m = true) (hkm : Nat.ble k m = true) (hml : Nat.ble m l.length = true)
  (h : QRun P Γ.n l B σ.b (zY P Γ l (lastQ P Γ l l3 m Q) l2) 0 [] [] l1 σ) : AWP P Γ (.region id l.toArray true) Q σ := by
 obtain ⟨hk1, hs⟩ := vD hs
 obtain ⟨hk2, hs⟩ := qO hs
 obtain ⟨hk3, hs⟩ := vD hs
 obtain ⟨hk4, hs⟩ := qO hs
 cases hs
 have hkm := Nat.le_of_ble_eq_true hkm
 have hml := Nat.le_of_ble_eq_true hml
 obtain ⟨B', h3, _, _, hBs⟩ := jA0 _ _ _ _ hv
 cases h3
 refine ⟨fun a e hc => ?_⟩
 have hok := jZ5 hB
 obtain ⟨F, N, U, M, σe, h1, h2, h3, h4, h5⟩ := QRun.extract (l.take k) 0 [] [] σ h
 have hkl : (l.take k).length = k := by rw [List.length_take]; omega
 rw [hkl] at h2 h3 h4
 have hget : ∀ j, j < k → (l.take k)[j]? = l[j]? := fun j hj => by rw [List.getElem?_take_of_lt hj]
 have hrow : (l.toArray.toList.take m).drop k = (l.drop k).take (m - k) := by simp [List.drop_take]
 have hN : ∀ i, i ≤ k → stB N (kv σ.b) i = stB (fun i => if i < k then N i else none) (kv σ.b) i := fun i hi => jG0 i fun j hj => by rw [if_pos (by omega)]
 have hD : ∀ i, i ≤ k → stD U N [] i = stD U (fun i => if i < k then N i else none) [] i := fun i hi => kC4 i fun j hj => ⟨by rw [if_pos (by omega)], rfl⟩
 have hG : ∀ i, i ≤ k → stG M (kv σ.g) i = stG (fun i => if i < k then M i else none) (kv σ.g) i := fun i hi => jS2 i fun j hj => by rw [if_pos (by omega)]
 have hL : ∀ i, i ≤ k → stL (l.take k) M [] i = stL l.toArray.toList (fun i => if i < k then M i else none) [] i := fun i hi => kA6 i fun j hj => ⟨by rw [if_pos (by omega)], by simpa using hget j (by omega)⟩
 have := xU (P := P) (Γ := Γ) (σ := σ) (ops := l.toArray) (H := k) (fun _ => false) (fun _ => false) (fun _ => true) hok (kE9 hT hkm) (by simp; omega) (F := F) (N := fun i => if i < k then N i else none) (U := U) (M := fun i => if i < k then M i else none) (B := B) (a0 := a) (Q := jE4 Γ Q) (fun i hi => if_neg (by omega)) (fun i hi => if_neg (by omega)) (fun i hi => by simp at hi) (fun i hi => by simp at hi) (fun _ _ _ => .inl rfl) (.inr fun _ => rfl) (fun b cs => hBs.get)
  (fun i o hi ho _ _ _ => by
   have h6 := h5 i o (by rw [hget i hi]; simpa using ho)
   rw [Nat.zero_add] at h6
   rw [hN i (by omega), hD i (by omega), hG i (by omega), hL i (by omega)] at h6
   have e5 : stS (l.take k) F (kv σ.s) i = stS l.toArray.toList F (kv σ.s) i := jK9 i fun j hj => by simpa using hget j (by omega)
   rw [e5] at h6
   simpa [hi] using h6)
  (fun listed b e' hv q2 q3 _ => by
   have hb : Conc Γ σe e' b := hv.conc hok (by rw [h3]; exact jK9 _ fun j hj => by simpa using hget j hj) (by rw [h4]; exact hN _ (Nat.le_refl _)) (by rw [h2]; exact hG _ (Nat.le_refl _)) q2 q3
   refine kD7 hok hT (by simp; omega) (m - k) k listed b e'.w (by omega) (Nat.le_refl _) hv.lsize q2 q3 ?_
   rw [hrow]
   have hr := h1.run b e' hb
   refine jQ5 (fun a2 w2 hh => ?_) (fun ex a2 w2 hne hh => ?_) hr
   ·obtain ⟨σ2, e2, rfl, hc2, hq2⟩ := hh
    exact last_any hml hok hc2 hq2
   ·obtain ⟨σ2, e2, rfl, hc2, hq2⟩ := hh
    cases ex <;> first | exact absurd rfl hne | exact ⟨σ2, e2, rfl, hc2, hq2⟩) (fun _ _ _ _ _ h => by cases h)
  l.toArray.size (Array.replicate l.toArray.size false) a { e with w := e.w.drew } (uK _).symm
  ?_ (fun t _ ht => by have ht' : t < l.length := by simpa using ht
                       simp [ht']) (fun i hi => by cases hi) (fun i hi => by cases hi)
 ·exact wp_region_any hm this
 ·have hg : Grow e { e with w := e.w.drew } := ⟨(Below.refl _ _).drew, fun _ _ => rfl, rfl, rfl, rfl⟩
  have hc' := hc.grow hg
  refine ⟨by simp, hc.size, hc.df, fun i o _ hl => ?_, fun i o t _ hl => ?_, fun t _ => rfl, hc'.slots, fun b cs hb _ => hc'.boxes b cs hb, fun i p hl => ?_, fun b hb _ => hc'.nobox b hb, fun g _ => hc'.gs g, fun i p hl => ?_, hc'.env⟩
  all_goals (simp [Array.getElem?_replicate] at hl; split at hl <;> simp at hl)
theorem last_in {σ : St} {l l3 : List Oper} {m : Nat} {B : List (Nat × List Dt)} (hv : visK [] σ.b some = some B) (hk : jU3 σ.s (l.take m) = true) (h : QRun P Γ.n l B σ.b (Q .normal) m [] [] l3 σ) : lastQ P Γ l l3 m Q .normal σ := by
 obtain ⟨B', h3, _, _, hBs⟩ := jA0 _ _ _ _ hv
 cases h3
 exact ⟨B, hBs, hk, h⟩
end
end Go.Proofs.YtkkldicehapklaaGreat
end
section
/- A region that draws its order, in which a function is called that hands back variables of its own. -/
namespace Go.Proofs.YtkkldicehapklaaGreat
open Go.RowKit
theorem kA2 {α : Type} : ∀ (l m : List (Nat × α)) (n : Nat), kv (l ++ m) n = (kv l n).or (kv m n)
 | [], m, n => rfl
 | (k, v) :: l, m, n => by
  rw [List.cons_append, jU, jU]
  split
  ·rfl
  ·exact kA2 l m n
theorem kv_out {α : Type} {l m : List (Nat × α)} {n : Nat} (h : jM l n = false) : kv (l ++ m) n = kv m n := by
 rw [kA2]
 unfold jM at h
 cases hh : kv l n with
 | none => exact Option.none_or
 | some x => rw [hh] at h; cases h
theorem kv_none {α : Type} {l m : List (Nat × α)} {n : Nat} (h : kv (l ++ m) n = none) : jM l n = false ∧ kv m n = none := by
 rw [kA2] at h
 unfold jM
 cases hh : kv l n with
 | none => rw [hh] at h; exact ⟨rfl, h⟩
 | some x => rw [hh] at h; cases h
section
variable {P : Program} {Γ : Ctx} {Q : Exit → St → Prop}
structure CPost (Γ : Ctx) (e e2 : Env) (v : Value) (d : Dt) (bs : List (Nat × List Dt)) : Prop where
 ends : Ends e e2
 ok : EnvOk Γ e2
 bx : ∀ b, jM bs b = false → e2.bx b = e.bx b
 gi : ∀ g, e2.gi g = e.gi g
 old : ∀ b cs, BoxAt e b cs → BoxAt e2 b cs
 new : ∀ b cs, kv bs b = some cs → BoxAt e2 b cs
 rep : DRep e2 v d
theorem cpost_of {e e' : Env} {bs : List (Nat × List Dt)} {v : Value} {d : Dt} (hok : EnvOk Γ e) (hfree : ∀ b, jM bs b = true → e.bx b = none) (hI : jA7 bs e') (hL : jN3 [] (e.cut (jM ([] : List (Nat × List Dt))) fun _ => false) e') (hr : DRep e' v d) : CPost Γ e (e.after e' [] bs) v d bs := by
 have hno : ∀ k, ¬ ∃ b, (e.cut (jM ([] : List (Nat × List Dt))) fun _ => false).bx b = some k := by
  rintro k ⟨b, hb⟩
  have hb' : (if jM ([] : List (Nat × List Dt)) b = true then e.bx b else none) = some k := hb
  rw [show jM ([] : List (Nat × List Dt)) b = false from rfl, if_neg (by simp)] at hb'
  cases hb'
 have hbl : ∀ k, k < e.w.heap.size → e'.w.heap[k]? = e.w.heap[k]? := fun k hk => hL.kept.block k hk (hno k)
 have hcl : ∀ k, k < e.w.heap.size → e'.cl k = e.cl k := fun k hk => hL.cl k hk (hno k)
 have hbx : ∀ b, (e.after e' [] bs).bx b = if jM bs b = true then e'.bx b else e.bx b := fun b => by
  show (if jM bs b = true then e'.bx b else if jM ([] : List (Nat × List Dt)) b = true then none else e.bx b) = _
  rw [show jM ([] : List (Nat × List Dt)) b = false from rfl]
  simp
 have hout : ∀ b k, e.bx b = some k → jM bs b = false := fun b k hk => by
  cases h : jM bs b with
  | false => rfl
  | true => rw [hfree b h] at hk; cases hk
 have hnew : ∀ b k, e'.bx b = some k → e.w.heap.size ≤ k ∧ k < e'.w.heap.size ∧ e'.cl k = some 0 := fun b k hk => by
  obtain ⟨h1, h2⟩ := hI.bx b k hk
  rcases hL.bx b k hk with h3 | h3
  ·exact ⟨h3, h1, h2⟩
  ·exact absurd h3 (hno k)
 have hE : Ends e (e.after e' [] bs) := by
  refine ⟨fun b o v hc hv => ?_, fun b k hk => ?_, fun g G hg => ⟨G, hg, rfl, rfl, Nat.le_refl _⟩, fun k g G cur h1 h2 h3 => ⟨h1, cur, (hbl k (jB4 h3)).trans h3, rfl⟩⟩
  ·have hb := jZ6 hv
   refine ⟨fun n hn' => hc n ?_, ?_⟩
   ·rw [← hcl b hb]; exact hn'
   ·show e'.w.cell? _ = _
    rw [World.cell?_of_block (w := e.w) (hbl b hb)]; exact hv
  ·rw [hbx, hout b k hk]; simpa using hk
 have hE' : Ends e' (e.after e' [] bs) := by
  refine ⟨fun _ _ _ h1 h2 => ⟨h1, h2⟩, fun b k hk => ?_, fun g G hg => ?_, fun k g G cur hg => ?_⟩
  ·rw [hbx, if_pos]
   ·exact hk
   ·cases hb : kv bs b with
    | none => rw [hI.nobox b hb] at hk; cases hk
    | some cs => simp [jM, hb]
  ·rw [hI.gi g] at hg; cases hg
  ·rw [hI.gr k] at hg; cases hg
 have hsz : e.w.heap.size ≤ e'.w.heap.size := hL.kept.size
 refine ⟨hE, ⟨⟨hL.kept.os.trans hok.kept.os, hL.kept.tape.trans hok.kept.tape, hL.kept.output.trans hok.kept.output, Nat.le_trans hok.kept.size hsz, fun k hk ho => (hbl k (Nat.lt_of_lt_of_le hk hok.kept.size)).trans (hok.kept.block k hk ho)⟩, fun k hk ho => (hcl k (Nat.lt_of_lt_of_le hk hok.kept.size)).trans (hok.cl k hk ho), fun b k hk => ?_, fun b c k h1 h2 => ?_, fun k g hg => ?_, fun b k hk => ?_⟩, fun b hb => ?_, fun g => rfl, fun b cs hb => ?_, fun b cs hb => ?_, hr.next hE'⟩
 ·rw [hbx] at hk
  split at hk
  ·obtain ⟨h1, h2, h3⟩ := hnew b k hk
   refine ⟨h2, .inl (Nat.le_trans hok.kept.size h1), h3, ?_⟩
   show e.gr k = none
   cases hg : e.gr k with
   | none => rfl
   | some g => obtain ⟨_, _, _, h4, _⟩ := hok.gr k g hg; omega
  ·obtain ⟨h1, h2, h3, h4⟩ := hok.bx b k hk
   exact ⟨Nat.lt_of_lt_of_le h1 hsz, h2, (hcl k h1).trans h3, h4⟩
 ·rw [hbx] at h1 h2
  split at h1 <;> split at h2
  ·exact hI.inj b c k h1 h2
  ·have := (hnew b k h1).1; have := (hok.bx c k h2).1; omega
  ·have := (hnew c k h2).1; have := (hok.bx b k h1).1; omega
  ·exact hok.inj b c k h1 h2
 ·obtain ⟨G, cur, h1, h2, h3, h4, h5⟩ := hok.gr k g hg
  exact ⟨G, cur, h1, Nat.lt_of_lt_of_le h2 hsz, h3, (hcl k h2).trans h4, (hbl k h2).trans h5⟩
 ·have := hok.kb b k hk
  rw [hbx, hout b k this]; simpa using this
 ·rw [hbx, hb]; simp
 ·obtain ⟨k, vs, el, h1, h2, h3⟩ := hb
  exact ⟨k, vs, el, hE.bx b k h1, (hbl k (jB4 h2)).trans h2, h3.next hE⟩
 ·exact (hI.boxes b cs hb).ends hE' rfl
theorem AInv.nextC {σ : St} {ops : Array Oper} (hok : jH9 ops Γ.n) {F : Nat → Dt} {N : Nat → Option (Nat × List Dt)} {U : Nat → Bool} {M : Nat → Option (Nat × Gr)} {a0 : Act} {listed : Array Bool} {e e' : Env} {a : Act} (h : AInv Γ σ ops F N U M a0 listed e a)
  {i : Nat} {o : Oper} (hi : ops[i]? = some o) (hr : i ∈ Region.ready .any ops listed) {v : Value} {bs : List (Nat × List Dt)} (hN : N i = none) (hM : M i = none) (hq : CPost Γ e e' v (F i) bs) :
  AInv Γ ⟨σ.s, bs ++ σ.b, σ.g⟩ ops F N U M a0 (listed.setIfInBounds i true) e' (a.put o.dst v) := by
 obtain ⟨hun, o', ho', hall⟩ := mem_ready.1 hr
 rw [hi] at ho'
 cases ho'
 obtain ⟨hun', hil⟩ := kI hun
 have hE := hq.ends
 have split : ∀ j, (listed.setIfInBounds i true).getD j false = true → j = i ∨ listed.getD j false = true := fun j hj => by
  by_cases e : i = j
  ·exact .inl e.symm
  ·rw [getD_set_ne false e] at hj; exact .inr hj
 have hself : (listed.setIfInBounds i true).getD i false = true := by simp [hil]
 refine ⟨by simpa using h.lsize, by rw [jP1]; exact h.size, by rw [jH8]; exact h.df, fun j oj hj hl x hx hb' => ?_, fun j oj t hj hl ht => ?_, fun t ht => ?_, fun t d ht => (h.slots t d ht).next hE, fun b cs hb hn => ?_, fun j p hl hp hn => ?_, fun b hb hn => ?_, fun g hn => by rw [hq.gi]; exact h.gs g fun j p hl hp => hn j p (getD_set_true hl) hp, fun j p hl hp hn => ?_, hq.ok⟩
 ·rcases split j hl with rfl | hl'
  ·rw [hi] at hj; cases hj; exact getD_set_true (hall x hx hb')
  ·exact getD_set_true (h.closed j oj hj hl' x hx hb')
 ·rcases split j hl with rfl | hl'
  ·rw [hi] at hj; cases hj
   rw [ht, uV (by rw [h.size]; exact hok.lt _ _ _ hi ht)]
   exact hq.rep
  ·have hne : j ≠ i := fun e => by subst e; rw [hun'] at hl'; cases hl'
   rw [yE (fun e => hok.ne j i oj o t hj hi hne ht e)]
   exact (h.knows j oj t hj hl' ht).next hE
 ·rw [yE (ht i o hi hself)]
  exact h.kept t fun j oj hj hl => ht j oj hj (getD_set_true hl)
 ·have hb : kv (bs ++ σ.b) b = some cs := hb
  cases hin : jM bs b with
  | false =>
   rw [kv_out hin] at hb
   exact hq.old b cs (h.boxes b cs hb fun j p hl hp => hn j p (getD_set_true hl) hp)
  | true =>
   have : kv bs b = some cs := by
    rw [kA2] at hb
    unfold jM at hin
    cases hh : kv bs b with
    | none => rw [hh] at hin; cases hin
    | some x => rw [hh] at hb; exact hb
   exact hq.new b cs this
 ·rcases split j hl with rfl | hl'
  ·rw [hN] at hp; cases hp
  ·exact hq.old p.1 p.2 (h.news j p hl' hp fun k q hk hl2 hq2 => hn k q hk (getD_set_true hl2) hq2)
 ·obtain ⟨h1, h2⟩ := kv_none (show kv (bs ++ σ.b) b = none from hb)
  rw [hq.bx b h1]
  exact h.nobox b h2 fun j p hl hu' hp => hn j p (getD_set_true hl) hu' hp
 ·rw [hq.gi]
  rcases split j hl with rfl | hl'
  ·rw [hM] at hp; cases hp
  ·exact h.gw j p hl' hp fun k q hk hl2 hq2 => hn k q hk (getD_set_true hl2) hq2
structure CallB (P : Program) (Γ : Ctx) (l : List Oper) (B : List (Nat × List Dt)) (oc : Oper) (ix : Nat) (K : St → Prop) (l2 : List Oper) (σ : St) : Prop where
 out : ∃ (f : FuncId) (ds : List Dt) (R : Dt → List (Nat × List Dt) → Prop) (d : Dt) (bs : List (Nat × List Dt)) (t : Nat) (xs : List Operand) (ats : Array TypeId),
  ImpC P f [] ds [] R ∧ (∀ d' bs', R d' bs' → d' = d ∧ bs' = bs) ∧ oc.op = .call { callee := .value (.func f), args := xs.toArray, argTypes := ats } ∧ uH P f ∧ jK4 (kv σ.s) xs some = some ds ∧ Dt.ok.oks (jM ([] : List (Nat × List Dt))) (fun _ => false) ds = true ∧ gd l oc (kv σ.s) = some true ∧ oc.dst = some t ∧ Nat.blt t Γ.n = true ∧
  (∀ b, jM bs b = true → kv σ.b b = none ∧ kv B b = none) ∧ QRun P Γ.n l B B K ix [] [] l2 ⟨(t, d) :: σ.s, bs ++ σ.b, σ.g⟩
def pureB (ops : Array Oper) (c k : Nat) : Bool := (List.range k).all fun i => i == c || yV ops ops.size i c || match ops[i]? with
 | some o => o.dst.isSome && !jT2 o
 | none => true
theorem pure_spec {ops : Array Oper} {c k i : Nat} {o : Oper} (h : pureB ops c k = true) (hi : i < k) (hic : i ≠ c) (ho : ops[i]? = some o) : yV ops ops.size i c = true ∨ (o.dst.isSome = true ∧ jT2 o = false) := by
 have h1 := List.all_eq_true.1 h i (List.mem_range.2 hi)
 simp only [ho, Bool.or_eq_true, beq_iff_eq, Bool.and_eq_true, Bool.not_eq_true'] at h1
 rcases h1 with (h1 | h1) | h1
 ·exact absurd h1 hic
 ·exact .inl h1
 ·exact .inr h1
theorem reach_lt {ops : Array Oper} {m : Nat} (hok : jH9 ops m) : ∀ (f t i : Nat), yV ops f t i = true → i < t
 | 0, _, _, h => by cases h
 | f + 1, t, i, h => by
  cases ho : ops[t]? with
  | none => simp [yV, ho] at h
  | some o =>
   simp only [yV, ho] at h
   obtain ⟨e, he, hb⟩ := Array.any_eq_true'.1 h
   simp only [Bool.and_eq_true, Bool.or_eq_true, beq_iff_eq] at hb
   have h1 := hok.back t o ho e he hb.1
   rcases hb.2 with h2 | h2
   ·omega
   ·have := reach_lt hok f e.on i h2; omega
theorem jO9 {l0 : List Oper} {ix : Nat} {B : Nat → Option (List Dt)} {S : Nat → Option Dt} {Bi Bj : Nat → Option (List Dt)} {Gi Gj : Nat → Option Gr} {D D' : List Nat} {L L' : List (Nat × Nat)} {o : Oper} {d : Dt} {nb : Option (Nat × List Dt)} {u : Bool} {m : Option (Nat × Gr)} (h : jS7 P l0 ix B B S Bi Gi D L o d nb u m) (h1 : o.dst.isSome = true) (h2 : jT2 o = false) (hB : ∀ p, nb = some p → Bi p.1 = none → Bj p.1 = none) : u = false ∧ m = none ∧ jS7 P l0 ix B B S Bj Gj D' L' o d nb u m := by
 rcases h with ⟨a1, a2, a3, a4, a5⟩ | ⟨a1, a2, a3, a4, a5⟩ | ⟨nm, cs, cs', _, hd, _⟩ | ⟨g, G, t, _, _, hc, _⟩
 ·exact ⟨a4, a5, .inl ⟨a1, a2, fun p hp => ⟨hB p hp (a3 p hp).1, (a3 p hp).2⟩, a4, a5⟩⟩
 ·exact ⟨a4, a5, .inr (.inl ⟨a1, a2, a3, a4, a5⟩)⟩
 ·rw [hd] at h1; cases h1
 ·rw [hc] at h2; cases h2
end
theorem jX5 {N : Nat → Option (Nat × List Dt)} {B : Nat → Option (List Dt)} {x : Nat} : ∀ i, B x = none → (∀ j p, j < i → N j = some p → p.1 ≠ x) → stB N B i x = none
 | 0, h, _ => h
 | i + 1, h, hn => by
  simp only [stB, updB]
  split
  ·rename_i p hp
   rw [if_neg (hn i p (Nat.lt_succ_self i) hp)]
   exact jX5 i h fun j q hj hq => hn j q (by omega) hq
  ·exact jX5 i h fun j q hj hq => hn j q (by omega) hq
theorem stB_app {N : Nat → Option (Nat × List Dt)} {bs b0 : List (Nat × List Dt)} : ∀ i, (∀ j p, j < i → N j = some p → jM bs p.1 = false) → ∀ x, stB N (kv (bs ++ b0)) i x = (kv bs x).or (stB N (kv b0) i x)
 | 0, _, x => kA2 bs b0 x
 | i + 1, h, x => by
  have ih := stB_app (N := N) (bs := bs) (b0 := b0) i (fun j p hj hp => h j p (by omega) hp) x
  simp only [stB, updB]
  cases hp : N i with
  | none => exact ih
  | some p =>
   simp only
   by_cases hx : p.1 = x
   ·have hb := h i p (Nat.lt_succ_self i) hp
    unfold jM at hb
    rw [hx] at hb
    rw [if_pos hx, if_pos hx]
    cases hk : kv bs x with
    | none => exact Option.none_or.symm
    | some y => rw [hk] at hb; cases hb
   ·rw [if_neg hx, if_neg hx]; exact ih
theorem jU5 {l l' : List Oper} {F F' : Nat → Dt} {S : Nat → Option Dt} : ∀ i, (∀ j, j < i → l[j]? = l'[j]? ∧ F j = F' j) → stS l F S i = stS l' F' S i
 | 0, _ => rfl
 | i + 1, h => by rw [stS, stS, jU5 i fun j hj => h j (by omega), (h i (by omega)).1, (h i (by omega)).2]
theorem kB7 {U : Nat → Bool} {N : Nat → Option (Nat × List Dt)} {D : List Nat} : ∀ i, (∀ j, j < i → U j = false) → stD U N D i = D
 | 0, _ => rfl
 | i + 1, h => by simp only [stD, h i (Nat.lt_succ_self i), cond_false, kB7 i fun j hj => h j (by omega)]
theorem in_nil (e : Env) : jA7 [] (e.cut (jM ([] : List (Nat × List Dt))) fun _ => false) := by
 have hb : ∀ b, (e.cut (jM ([] : List (Nat × List Dt))) fun _ => false).bx b = none := fun b => by
  show (if jM ([] : List (Nat × List Dt)) b = true then e.bx b else none) = none
  rw [show jM ([] : List (Nat × List Dt)) b = false from rfl]; simp
 refine ⟨fun b cs h => (by cases h), fun b _ => hb b, fun g => ?_, fun k => ?_, fun b k hk => (by rw [hb] at hk; cases hk), fun b c k hk => (by rw [hb] at hk; cases hk)⟩
 ·show (if false = true then e.gi g else none) = none
  simp
 ·show (match e.gr k with | some g => if false = true then some g else none | none => none) = none
  cases e.gr k <;> simp
section
variable {P : Program} {Γ : Ctx} {Q : Exit → St → Prop}
theorem awp_region_c {σ : St} (c k : Nat) {id : Nat} {l l1 l2 l3 : List Oper} {oc : Oper} {B : List (Nat × List Dt)} (hs : jE3 c l (fun a => wK c l fun r => match r with | o :: r' => jE3 (k - (c + 1)) r' fun b => wK (k - (c + 1)) r' fun d => some (a, o, b, d) | [] => none) = some (l1, oc, l2, l3)) (hv : visK [] σ.b some = some B) (hm : P.follows .mixedOrders = true) (hB : relB l.toArray Γ.n = true) (hT : jP9 l.toArray k = true) (hP : pureB l.toArray c k = true) (hck : Nat.blt c k = true)
  (h : QRun P Γ.n l B B (CallB P Γ l B oc (c + 1) (zY P Γ l Q l3) l2) 0 [] [] l1 σ) : AWP P Γ (.region id l.toArray true) Q σ := by
 obtain ⟨hk1, hs⟩ := vD hs
 obtain ⟨hk2, hs⟩ := qO hs
 obtain ⟨r', hr', hs⟩ : ∃ r', l.drop c = oc :: r' ∧ jE3 (k - (c + 1)) r' (fun b => wK (k - (c + 1)) r' fun d => some (l.take c, oc, b, d)) = some (l1, oc, l2, l3) := by
  cases hd : l.drop c with
  | nil => rw [hd] at hs; cases hs
  | cons o r' =>
   rw [hd] at hs
   simp only at hs
   obtain ⟨h1, h2⟩ := vD hs
   obtain ⟨h3, h4⟩ := qO h2
   cases h4
   exact ⟨r', rfl, hs⟩
 obtain ⟨hk3, hs⟩ := vD hs
 obtain ⟨hk4, hs⟩ := qO hs
 cases hs
 have hck : c < k := by simpa using hck
 obtain ⟨B', h3, _, _, hBs⟩ := jA0 _ _ _ _ hv
 cases h3
 have hl : l = l.take c ++ oc :: r' := by rw [← hr', List.take_append_drop]
 have hlen : l.length = c + 1 + r'.length := by
  have := congrArg List.length hl
  rw [List.length_append, List.length_cons, List.length_take] at this
  omega
 have hkl : k ≤ l.length := by omega
 have hsz : l.toArray.size = l.length := by simp
 have g1 : ∀ j, j < c → l[j]? = (l.take c)[j]? := fun j hj => by rw [List.getElem?_take_of_lt hj]
 have gc : l[c]? = some oc := by
  have : (l.drop c)[0]? = some oc := by rw [hr']; rfl
  rw [List.getElem?_drop] at this; simpa using this
 have g2 : ∀ j, j < k - (c + 1) → l[c + 1 + j]? = (r'.take (k - (c + 1)))[j]? := fun j hj => by
  rw [List.getElem?_take_of_lt hj]
  have : (l.drop c)[j + 1]? = r'[j]? := by rw [hr']; rfl
  rw [List.getElem?_drop] at this
  rw [← this]; congr 1; omega
 have hdrop : l.toArray.toList.drop k = r'.drop (k - (c + 1)) := by
  show l.drop k = _
  rw [show k = c + (1 + (k - (c + 1))) by omega, ← List.drop_drop, hr', Nat.add_comm 1, List.drop_succ_cons]
  congr 1
  omega
 have hl1 : (l.take c).length = c := by rw [List.length_take]; omega
 have hl2 : (r'.take (k - (c + 1))).length = k - (c + 1) := by rw [List.length_take]; omega
 have hok := jZ5 hB
 obtain ⟨F1, N1, U1, M1, σ1, hC, e1g, e1s, e1b, ls1⟩ := QRun.extract (l.take c) 0 [] [] σ h
 rw [hl1] at e1g e1s e1b
 obtain ⟨f, ds, R, d, bs, t, xs, ats, hImp, hR, hop, hent, hargs, hok0, hgd, hdst, hlt, hfr, hrun⟩ := hC.out
 obtain ⟨F2, N2, U2, M2, σe, hK, e2g, e2s, e2b, ls2⟩ := QRun.extract (r'.take (k - (c + 1))) (c + 1) [] [] _ hrun
 rw [hl2] at e2g e2s e2b
 let F : Nat → Dt := fun i => if i < c then F1 i else if i = c then d else F2 (i - (c + 1))
 let N : Nat → Option (Nat × List Dt) := fun i => if i < c then N1 i else if i = c then none else if i < k then N2 (i - (c + 1)) else none
 let U : Nat → Bool := fun i => if i < c then U1 i else if i = c then false else if i < k then U2 (i - (c + 1)) else false
 let M : Nat → Option (Nat × Gr) := fun i => if i < c then M1 i else if i = c then none else if i < k then M2 (i - (c + 1)) else none
 have F1e : ∀ j, j < c → F j = F1 j := fun j hj => if_pos hj
 have Fc : F c = d := by simp only [F]; rw [if_neg (Nat.lt_irrefl c)]; simp
 have F2e : ∀ j, F (c + 1 + j) = F2 j := fun j => by simp only [F]; rw [if_neg (by omega), if_neg (by omega)]; congr 1; omega
 have N1e : ∀ j, j < c → N j = N1 j := fun j hj => if_pos hj
 have Nc : N c = none := by simp only [N]; rw [if_neg (Nat.lt_irrefl c)]; simp
 have N2e : ∀ j, j < k - (c + 1) → N (c + 1 + j) = N2 j := fun j hj => by simp only [N]; rw [if_neg (by omega), if_neg (by omega), if_pos (by omega)]; congr 1; omega
 have Nk : ∀ j, k ≤ j → N j = none := fun j hj => by simp only [N]; rw [if_neg (by omega), if_neg (by omega), if_neg (by omega)]
 have U1e : ∀ j, j < c → U j = U1 j := fun j hj => if_pos hj
 have Uc : U c = false := by simp only [U]; rw [if_neg (Nat.lt_irrefl c)]; simp
 have U2e : ∀ j, j < k - (c + 1) → U (c + 1 + j) = U2 j := fun j hj => by simp only [U]; rw [if_neg (by omega), if_neg (by omega), if_pos (by omega)]; congr 1; omega
 have M1e : ∀ j, j < c → M j = M1 j := fun j hj => if_pos hj
 have Mc : M c = none := by simp only [M]; rw [if_neg (Nat.lt_irrefl c)]; simp
 have M2e : ∀ j, j < k - (c + 1) → M (c + 1 + j) = M2 j := fun j hj => by simp only [M]; rw [if_neg (by omega), if_neg (by omega), if_pos (by omega)]; congr 1; omega
 have Mk : ∀ j, k ≤ j → M j = none := fun j hj => by simp only [M]; rw [if_neg (by omega), if_neg (by omega), if_neg (by omega)]
 -- those ahead of the call are quiet
 have pre1 : ∀ i o, i < c → l[i]? = some o → o.dst.isSome = true ∧ jT2 o = false := fun i o hi ho => by
  rcases pure_spec hP (show i < k by omega) (show i ≠ c by omega) (show l.toArray[i]? = some o by simpa using ho) with h1 | h1
  ·have := reach_lt hok _ _ _ h1; omega
  ·exact h1
 have hex : ∀ i, i < l.length → ∃ o, l[i]? = some o := fun i hi => ⟨l[i], List.getElem?_eq_getElem hi⟩
 have ls1' : ∀ i o, i < c → l[i]? = some o → jS7 P l i (kv B) (kv B) (stS (l.take c) F1 (kv σ.s) i) (stB N1 (kv σ.b) i) (stG M1 (kv σ.g) i) (stD U1 N1 [] i) (stL (l.take c) M1 [] i) o (F1 i) (N1 i) (U1 i) (M1 i) := fun i o hi ho => by
  have := ls1 i o (by rw [← g1 i hi]; exact ho)
  rw [Nat.zero_add] at this
  exact this
 have UM1 : ∀ j, j < c → U1 j = false ∧ M1 j = none := fun j hj => by
  obtain ⟨o, ho⟩ := hex j (by omega)
  obtain ⟨p1, p2⟩ := pre1 j o hj ho
  have := jO9 (Bj := stB N1 (kv σ.b) j) (Gj := stG M1 (kv σ.g) j) (D' := []) (L' := []) (ls1' j o hj ho) p1 p2 (fun p hp hh => hh)
  exact ⟨this.1, this.2.1⟩
 have hn1 : ∀ j p, j < c → N1 j = some p → jM bs p.1 = false := fun j p hj hp => by
  cases hin : jM bs p.1 with
  | false => rfl
  | true =>
   have h5 := (hfr p.1 hin).1
   rw [e1b] at h5
   exact absurd rfl ((jC8 c h5).2 j p hj hp)
 have hσb : ∀ b, jM bs b = true → kv σ.b b = none := fun b hb => by
  have h5 := (hfr b hb).1
  rw [e1b] at h5
  exact (jC8 c h5).1
 -- what is known at each operation
 have eS1 : ∀ i, i ≤ c → stS l F (kv σ.s) i = stS (l.take c) F1 (kv σ.s) i := fun i hi => jU5 i fun j hj => ⟨g1 j (by omega), F1e j (by omega)⟩
 have eS2 : ∀ j, j ≤ k - (c + 1) → stS l F (kv σ.s) (c + 1 + j) = stS (r'.take (k - (c + 1))) F2 (kv ((t, d) :: σ1.s)) j := by
  intro j
  induction j with
  | zero =>
   intro _
   funext x
   show stS l F (kv σ.s) (c + 1) x = kv ((t, d) :: σ1.s) x
   simp only [stS, gc, Fc, Option.bind_some, hdst, jU, eS1 c (Nat.le_refl _), ← e1s, Option.some.injEq]
  | succ j ih =>
   intro hj
   rw [show c + 1 + (j + 1) = (c + 1 + j) + 1 by omega]
   funext x
   simp only [stS, ih (by omega), g2 j (by omega), F2e]
 have eSb : ∀ i, i ≤ c → stB N (kv σ.b) i = stB N1 (kv σ.b) i := fun i hi => jG0 i fun j hj => N1e j (by omega)
 have eSb' : ∀ i, i ≤ c → stB N (kv (bs ++ σ.b)) i = stB N1 (kv (bs ++ σ.b)) i := fun i hi => jG0 i fun j hj => N1e j (by omega)
 have eB2 : ∀ j, j ≤ k - (c + 1) → stB N (kv (bs ++ σ.b)) (c + 1 + j) = stB N2 (kv (bs ++ σ1.b)) j := by
  intro j
  induction j with
  | zero =>
   intro _
   funext x
   show stB N (kv (bs ++ σ.b)) (c + 1) x = kv (bs ++ σ1.b) x
   simp only [stB, Nc, updB]
   rw [eSb' c (Nat.le_refl _), stB_app c hn1 x, kA2, e1b]
  | succ j ih =>
   intro hj
   rw [show c + 1 + (j + 1) = (c + 1 + j) + 1 by omega]
   simp only [stB, ih (by omega), N2e j (by omega)]
 have eG1 : ∀ i, i ≤ c → stG M (kv σ.g) i = stG M1 (kv σ.g) i := fun i hi => jS2 i fun j hj => M1e j (by omega)
 have eG2 : ∀ j, j ≤ k - (c + 1) → stG M (kv σ.g) (c + 1 + j) = stG M2 (kv σ1.g) j := by
  intro j
  induction j with
  | zero =>
   intro _
   show stG M (kv σ.g) (c + 1) = kv σ1.g
   simp only [stG, Mc, eG1 c (Nat.le_refl _), e1g]
   rfl
  | succ j ih =>
   intro hj
   rw [show c + 1 + (j + 1) = (c + 1 + j) + 1 by omega]
   simp only [stG, ih (by omega), M2e j (by omega)]
 have eD2 : ∀ j, j ≤ k - (c + 1) → stD U N [] (c + 1 + j) = stD U2 N2 [] j := by
  intro j
  induction j with
  | zero =>
   intro _
   exact kB7 (c + 1) fun j hj => by
    by_cases hjc : j = c
    ·rw [hjc]; exact Uc
    ·rw [U1e j (by omega)]; exact (UM1 j (by omega)).1
  | succ j ih =>
   intro hj
   rw [show c + 1 + (j + 1) = (c + 1 + j) + 1 by omega]
   simp only [stD, ih (by omega), N2e j (by omega), U2e j (by omega)]
 have Mle : ∀ j, j < c + 1 → M j = none := fun j hj => by
  by_cases hjc : j = c
  ·rw [hjc]; exact Mc
  ·rw [M1e j (by omega)]; exact (UM1 j (by omega)).2
 have eL2 : ∀ j, j ≤ k - (c + 1) → stL l M [] (c + 1 + j) = stL (r'.take (k - (c + 1))) M2 [] j := by
  intro j
  induction j with
  | zero => intro _; exact kI5 Mle (c + 1) (Nat.le_refl _)
  | succ j ih =>
   intro hj
   rw [show c + 1 + (j + 1) = (c + 1 + j) + 1 by omega]
   simp only [stL, ih (by omega), g2 j (by omega), M2e j (by omega)]
 -- the steps, behind the call
 have post : ∀ i o, i < k → l.toArray[i]? = some o → i ≠ c → jS7 P l.toArray.toList i (kv B) (kv B) (stS l.toArray.toList F (kv σ.s) i) (stB N (kv (bs ++ σ.b)) i) (stG M (kv σ.g) i) (stD U N [] i) (stL l.toArray.toList M [] i) o (F i) (N i) (U i) (M i) := by
  intro i o hi ho hic
  have ho : l[i]? = some o := by simpa using ho
  rcases Nat.lt_or_ge i c with h5 | h5
  ·obtain ⟨p1, p2⟩ := pre1 i o h5 ho
   have := (jO9 (Bj := stB N (kv (bs ++ σ.b)) i) (Gj := stG M (kv σ.g) i) (D' := stD U N [] i) (L' := stL l M [] i) (ls1' i o h5 ho) p1 p2 (fun p hp hh => by
    rw [eSb' i (by omega), stB_app i (fun j q hj hq => hn1 j q (by omega) hq), hh]
    have := hn1 i p h5 hp
    unfold jM at this
    cases hk : kv bs p.1 with
    | none => rfl
    | some y => rw [hk] at this; cases this)).2.2
   rw [← eS1 i (by omega), ← F1e i h5, ← N1e i h5, ← U1e i h5, ← M1e i h5] at this
   exact this
  ·obtain ⟨j, rfl⟩ : ∃ j, i = c + 1 + j := ⟨i - (c + 1), by omega⟩
   have := ls2 j o (by rw [← g2 j (by omega)]; exact ho)
   rw [← eS2 j (by omega), ← eB2 j (by omega), ← eG2 j (by omega), ← eD2 j (by omega), ← eL2 j (by omega), ← F2e, ← N2e j (by omega), ← U2e j (by omega), ← M2e j (by omega)] at this
   exact this
 let okB : Nat → Bool := fun i => decide (i < k) && !(i == c) && !(yV l.toArray l.toArray.size i c)
 have okp : ∀ i, okB i = true → i < k ∧ i ≠ c ∧ ∀ o, l.toArray[i]? = some o → o.dst.isSome = true ∧ jT2 o = false := fun i hi => by
  simp only [okB, Bool.and_eq_true, decide_eq_true_eq, Bool.not_eq_true', beq_eq_false_iff_ne] at hi
  refine ⟨hi.1.1, hi.1.2, fun o ho => ?_⟩
  rcases pure_spec hP hi.1.1 hi.1.2 ho with h1 | h1
  ·rw [hi.2] at h1; cases h1
  ·exact h1
 have pure2 : ∀ i, okB i = true → U i = false ∧ M i = none := fun i hi => by
  obtain ⟨h1, h2, h3⟩ := okp i hi
  obtain ⟨o, ho⟩ := hex i (by omega)
  have ho' : l.toArray[i]? = some o := by simpa using ho
  obtain ⟨p1, p2⟩ := h3 o ho'
  have := jO9 (Bj := stB N (kv (bs ++ σ.b)) i) (Gj := stG M (kv σ.g) i) (D' := []) (L' := []) (post i o h1 ho' h2) p1 p2 (fun p hp hh => hh)
  exact ⟨this.1, this.2.1⟩
 refine ⟨fun a e hc => ?_⟩
 have := xU (P := P) (Γ := Γ) (σ := σ) (ops := l.toArray) (H := k) (fun _ => false) (fun i => i == c) okB hok (jF1 hT) (by omega) (F := F) (N := N) (U := U) (M := M) (B := B) (a0 := a) (Q := jE4 Γ Q) Nk Mk
  (fun i hi => by rcases hi with hi | hi; · cases hi
                  · rw [show i = c by simpa using hi]; exact Nc)
  (fun i hi => by rcases hi with hi | hi; · cases hi
                  · rw [show i = c by simpa using hi]; exact Mc)
  (fun i o ho => by
   by_cases hic : i = c
   ·exact .inr (.inl (by simp [hic]))
   ·by_cases hre : yV l.toArray l.toArray.size i c = true
    ·exact .inr (.inr ⟨c, by simp, hre⟩)
    ·have hre : yV l.toArray l.toArray.size i c = false := by simpa using hre
     rcases Nat.lt_or_ge i k with h5 | h5
     ·exact .inl (by
       show (decide (i < k) && !(i == c) && !(yV l.toArray l.toArray.size i c)) = true
       rw [hre]; simp [h5, hic])
     ·exfalso
      rcases jU9 hT ho h5 (show c < i by omega) with ⟨x, hx, hb, hon⟩ | ⟨_, h6⟩
      ·rw [show l.toArray.size = (l.length - 1) + 1 by omega] at hre
       simp only [yV, ho] at hre
       have : (o.after.any fun e => Region.binds .any e && (e.on == c || yV l.toArray (l.length - 1) e.on c)) = true := Array.any_eq_true'.2 ⟨x, hx, by simp [hb, hon]⟩
       rw [this] at hre; cases hre
      ·rw [hre] at h6; cases h6)
  (.inl pure2) (fun b cs => hBs.get)
  (fun i o hi ho _ hsi hoi => by
   obtain ⟨h1, h2, h3⟩ := okp i hoi
   obtain ⟨p1, p2⟩ := h3 o ho
   have hps := post i o h1 ho h2
   have hps := (jO9 (Bj := stB N (kv σ.b) i) (Gj := stG M (kv σ.g) i) (D' := stD U N [] i) (L' := stL l.toArray.toList M [] i) hps p1 p2 (fun p hp hh => by
    obtain ⟨q1, q2⟩ := jC8 i hh
    exact jX5 i (kv_none q1).2 q2)).2.2
   rcases hps with ⟨a1, a2, a3, a4, a5⟩ | hps | ⟨nm, cs, cs', _, hd, _⟩ | ⟨g, G, t', _, _, hcl, _⟩
   ·refine .inl ⟨a1, .inl (by rcases a2 with a2 | ⟨_, a2⟩ <;> exact a2), a3, a4, a5⟩
   ·exact .inr (.inl hps)
   ·rw [hd] at p1; cases p1
   ·rw [hcl] at p2; cases p2)
  (fun listed b e' hv q2 q3 q4 => by
   have h1 := q2 c hck
   rw [q4 c (by simp)] at h1; cases h1)
  (fun fuel listed a' e' i hi hfu hr hinv htl _ => by
   obtain rfl : i = c := by simpa using hi
   have ho : l.toArray[i]? = some oc := by simpa using gc
   have hun := (mem_ready.1 hr).1
   have hst : stS l.toArray.toList F (kv σ.s) i = kv σ1.s := by
    show stS l F (kv σ.s) i = _
    rw [eS1 i (Nat.le_refl _), ← e1s]
   have hw := hinv.wanted hok ho hr (c := true) (by rw [hst]; exact hgd)
   have hsee := hinv.sees hok ho hr
   rw [hst] at hsee
   have hopn : ∀ x ∈ oc.op.operands, ∀ d, ev (kv σ1.s) x = some d → DRep e' (a'.eval x) d := fun x hx d hd => by
    cases x with
    | tmp t' => exact hsee t' (List.mem_append_left _ (List.mem_filterMap.2 ⟨.tmp t', by simpa using hx, rfl⟩)) d hd
    | const v => simp only [ev, jC3, Option.some.injEq] at hd; subst hd; exact wX _ v
    | global g => cases hd
    | func f' =>
     simp only [ev, Option.some.injEq] at hd
     subst hd
     exact .fn (us := []) (vs := []) rfl rfl (fun i v d h => by simp at h) (fun i v d h => by simp at h)
   have hv := jK6 (a := a') (e := e') xs (fun x hx => hopn x (by rw [hop]; simp [Op.operands, Call.operands, hx])) hargs
   have hfree : ∀ b, jM bs b = true → e'.bx b = none := fun b hb => by
    refine hinv.nobox b (hσb b hb) fun j p hl hu hp he => ?_
    have hjs : j < l.length := by
     rcases Nat.lt_or_ge j l.length with h5 | h5
     ·exact h5
     ·rw [Nk j (by omega)] at hp; cases hp
    have hjc : j ≠ i := fun e5 => by rw [e5, Nc] at hp; cases hp
    have hjk : j < k := by
     rcases Nat.lt_or_ge j k with h5 | h5
     ·exact h5
     ·rw [Nk j h5] at hp; cases hp
    obtain ⟨oj, hoj⟩ := hex j hjs
    rcases post j oj hjk (by simpa using hoj) hjc with ⟨_, _, a3, _, _⟩ | ⟨_, _, a3, _, _⟩ | ⟨_, _, _, _, _, _, _, _, _, _, _, a3, _⟩ | ⟨_, _, _, _, _, _, _, _, a3, _⟩
    ·have := (kv_none (jC8 j (a3 p hp).1).1).1
     rw [he, hb] at this; cases this
    ·rw [a3] at hp; cases hp
    ·rw [hu] at a3; cases a3
    ·rw [a3] at hp; cases hp
   unfold wpOp
   simp only [ho]
   rw [if_pos hw]
   refine .inl ?_
   unfold Oper.wp
   have e1 : (execOp a'.eval oc).run P e'.w = .ok (.enter f (xs.map a'.eval).toArray) e'.w := by
    obtain ⟨dst, op, type, pos, after, guard⟩ := oc
    simp only at hop
    subst hop
    rw [execOp_call_go, hent]
    simp
   rw [e1]
   refine Calls.mono (hImp (e'.cut (jM ([] : List (Nat × List Dt))) fun _ => false) (xs.map a'.eval) (in_nil e') ⟨hv.1, fun i v d h1 h2 => (hv.2 i v d h1 h2).cut (xR hok0 h2)⟩) fun r w' hh => ?_
   obtain ⟨v, d', bs', e2, rfl, rfl, hRR, hI, hrr, hL⟩ := hh
   obtain ⟨rfl, rfl⟩ := hR d' bs' hRR
   have hpo := cpost_of hinv.env hfree hI hL hrr
   rw [← Fc] at hpo
   have hnx := hinv.nextC hok ho hr Nc Mc hpo
   have hfu' : fuel = yU (listed.setIfInBounds i true) := by have := jO3 hun; omega
   have hil := (kI hun).2
   refine xU (P := P) (Γ := Γ) (σ := ⟨σ.s, bs' ++ σ.b, σ.g⟩) (ops := l.toArray) (H := k) (fun j => j == i) (fun _ => false) (fun _ => true) hok (jF1 hT) (by omega) (F := F) (N := N) (U := U) (M := M) (B := B) (a0 := a) (Q := jE4 Γ Q) Nk Mk
    (fun j hj => by rcases hj with hj | hj; · rw [show j = i by simpa using hj]; exact Nc
                    · cases hj)
    (fun j hj => by rcases hj with hj | hj; · rw [show j = i by simpa using hj]; exact Mc
                    · cases hj)
    (fun _ _ _ => .inl rfl) (.inr fun _ => rfl)
    (fun b cs hb => by
     have h1 := hBs.get hb
     have : jM bs' b = false := by
      cases h5 : jM bs' b with
      | false => rfl
      | true => rw [(hfr b h5).2] at hb; cases hb
     rw [kv_out this]; exact h1)
    (fun j o hj hoj hdj _ _ => by
     have hps := post j o hj hoj (by simpa using hdj)
     rcases hps with ⟨a1, a2, a3, a4, a5⟩ | hps | hps | hps
     ·exact .inl ⟨a1, .inl (by rcases a2 with a2 | ⟨_, a2⟩ <;> exact a2), a3, a4, a5⟩
     ·exact .inr (.inl hps)
     ·exact .inr (.inr (.inl hps))
     ·exact .inr (.inr (.inr hps)))
    (fun listed b e3 hv q2 q3 _ => by
     have hb : Conc Γ σe e3 b := hv.conc hok (by rw [e2s]; have := eS2 (k - (i + 1)) (Nat.le_refl _); rw [show i + 1 + (k - (i + 1)) = k by omega] at this; exact this.symm) (by rw [e2b]; have := eB2 (k - (i + 1)) (Nat.le_refl _); rw [show i + 1 + (k - (i + 1)) = k by omega] at this; exact this.symm) (by rw [e2g]; have := eG2 (k - (i + 1)) (Nat.le_refl _); rw [show i + 1 + (k - (i + 1)) = k by omega] at this; exact this.symm) q2 q3
     exact jK0 hok hT _ _ listed b e3.w (by omega) (Nat.le_refl _) hv.lsize q2 q3 (by rw [hdrop]; exact hK.run b e3 hb))
    (fun _ _ _ _ _ h => by cases h)
    fuel _ _ (e'.after e2 [] bs') hfu' hnx (fun t' h1 h2 => by rw [getD_set_ne true (by omega)]; exact htl t' h1 h2) (fun j hj => by rw [show j = i by simpa using hj]; simp [hil]) (fun j hj => by cases hj))
  l.toArray.size (Array.replicate l.toArray.size false) a { e with w := e.w.drew } (uK _).symm
  ?_ (fun t _ ht => by have ht' : t < l.length := by simpa using ht
                       simp [ht']) (fun i hi => by cases hi) (fun i hi => by
   have : i = c := by simpa using hi
   have hcl : c < l.length := by omega
   simp [this, hcl])
 ·exact wp_region_any hm this
 ·have hg : Grow e { e with w := e.w.drew } := ⟨(Below.refl _ _).drew, fun _ _ => rfl, rfl, rfl, rfl⟩
  have hc' := hc.grow hg
  refine ⟨by simp, hc.size, hc.df, fun i o _ hl => ?_, fun i o t _ hl => ?_, fun t _ => rfl, hc'.slots, fun b cs hb _ => hc'.boxes b cs hb, fun i p hl => ?_, fun b hb _ => hc'.nobox b hb, fun g _ => hc'.gs g, fun i p hl => ?_, hc'.env⟩
  all_goals (simp [Array.getElem?_replicate] at hl; split at hl <;> simp at hl)
def FreeL (bs b B : List (Nat × List Dt)) : Prop := match bs with
 | [] => True
 | p :: l => kv b p.1 = none ∧ kv B p.1 = none ∧ FreeL l b B
theorem FreeL.get {b B : List (Nat × List Dt)} : ∀ {bs : List (Nat × List Dt)} (_ : FreeL bs b B) {x : Nat}, jM bs x = true → kv b x = none ∧ kv B x = none
 | [], _, x, h => by cases h
 | (k, v) :: l, hf, x, h => by
  unfold jM at h
  rw [jU] at h
  split at h
  ·rename_i e
   subst e
   exact ⟨hf.1, hf.2.1⟩
  ·exact FreeL.get hf.2.2 h
theorem callB_in {l l2 : List Oper} {B : List (Nat × List Dt)} {oc : Oper} {ix : Nat} {K : St → Prop} {s : List (Nat × Dt)} {b : List (Nat × List Dt)} {g : List (Nat × Gr)} {f : FuncId} {ds : List Dt} {R : Dt → List (Nat × List Dt) → Prop} {d : Dt} {bs : List (Nat × List Dt)} {t : Nat} {xs : List Operand} {ats : Array TypeId} (hC : ImpC P f [] ds [] R) (hR : ∀ d' bs', R d' bs' → d' = d ∧ bs' = bs) (ho : oc.op = .call { callee := .value (.func f), args := xs.toArray, argTypes := ats }) (hf : uH P f) (he : jK4 (kv s) xs some = some ds) (hok : Dt.ok.oks (jM ([] : List (Nat × List Dt))) (fun _ => false) ds = true) (hg : gd l oc (kv s) = some true) (hd : oc.dst = some t) (hl : Nat.blt t Γ.n = true) (hfr : FreeL bs b B)
  (h : QRun P Γ.n l B B K ix [] [] l2 ⟨(t, d) :: s, bs ++ b, g⟩) : CallB P Γ l B oc ix K l2 ⟨s, b, g⟩ := ⟨f, ds, R, d, bs, t, xs, ats, hC, hR, ho, hf, he, hok, hg, hd, hl, fun _ hx => hfr.get hx, h⟩
end
end Go.Proofs.YtkkldicehapklaaGreat
end
section
/- Slices over variables of ours, of elements of several cells: append, and what becomes of them. -/
namespace Go.Proofs.YtkkldicehapklaaGreat
open Go.RowKit
section
variable {P : Program} {T : Nat → Option TI} {Γ : Ctx} {σ : St}
inductive RowAtS (e : Env) (nm n c sz : Nat) (ps : List Pl) : Value → Prop where
 | none (hn : n = 0) (hc : c = 0) (hps : ps = []) : RowAtS e nm n c sz ps (.slice none 0 0)
 | empty {ad : Addr} (hn : n = 0) (hc : c = 0) (hps : ps = []) : RowAtS e nm n c sz ps (.slice (some ad) 0 0)
 | some {k : Nat} {vs : List Value} {el : TypeId} (hk : e.bx nm = some k) (hh : e.w.heap[k]? = some (.cells vs.toArray el (0, 0))) (hl : vs.length = c * sz) (hn : n ≤ c) (hps : ps.length = n * sz) (hr : ∀ (j : Nat) v x, vs[j]? = some v → ps[j]? = some x → PRep e v x) : RowAtS e nm n c sz ps (.slice (some ⟨k, 0, none⟩) n c)
theorem appendS_core (hT : kU P T) {e : Env} {a : Act} (hc : Conc Γ σ e a) {ty : TypeId} {nm n m c el z1 z2 sz : Nat} {z3 : Value} {ps qs : List Pl} {i : TI} {vx vy : Value} {t : TypeId} (ht : T t = some ⟨.slice el, z1, z2, z3⟩) (hel : T el = some i) (hzs : i.zero.cells.size = sz) (hsz1 : i.sz = sz) (h0 : 0 < sz) (hkb : kv Γ.kb nm = none)
  (hx : RowAtS e nm n c sz ps vx) (hcm : c ≤ maxLen) (hy1 : PRep e vy (.sl false m qs)) (hm : 0 < m) (hqs : qs.length = m * sz)
  (h63 : n + m ≤ maxLen) (hby : (n + m) * i.bytes ≤ 140737488355328) : ∃ v e' cs' c', (Builtin.append_ #[t, t] ty #[vx, vy]).run P e.w = .ok v e'.w ∧ cs'.length = c' * sz ∧ c' ≤ maxLen ∧ n + m ≤ c' ∧ cs'.take ((n + m) * sz) = (ps ++ qs).map Dt.p ∧ PlainC cs' ∧
   Conc Γ ⟨cutS (qH nm) σ.s, (nm, cs') :: jA8 (Nat.beq nm) (qH nm) σ.b, σ.g⟩ e' a ∧ DRep e' v (.arr nm 0 (n + m) c') := by
 obtain ⟨d0, hd0, hk⟩ := hT.desc t _ ht
 cases d0 <;> simp only [jF2, reduceCtorEq, TK.slice.injEq] at hk
 rw [hk] at hd0
 obtain ⟨inf, hinf, hsz, hbytes, hz⟩ := hT.info _ i hel
 rw [hsz1] at hsz
 obtain ⟨Y, ycap, rfl, hyc, hym, hY0, _, hY⟩ := xN hy1
 have hqne : qs ≠ [] := fun e' => by rw [e'] at hqs; simp only [List.length_nil] at hqs; have := Nat.mul_pos hm h0; omega
 rcases hY with hY | ⟨yb, yo, rfl, hYel⟩
 ·exact absurd hY hqne
 obtain ⟨us, hul, huc, hu1, hur⟩ := jE8 hYel
 have hul' : us.length = m * inf.size := by rw [hul, hqs, hsz]
 have hnm : (n + m) * sz = n * sz + m * sz := Nat.add_mul _ _ _
 have hum : us.length = m * sz := by rw [hul, hqs]
 have hfor := hc.forget nm hkb
 have hnone : kv (jA8 (Nat.beq nm) (qH nm) σ.b) nm = none := by
  cases h : kv (jA8 (Nat.beq nm) (qH nm) σ.b) nm with
  | none => rfl
  | some cs => have := (jL3 h).1; simp at this
 -- a new block
 have hgrow : ∀ (os : List Value), os.length = n * sz → ps.length = n * sz → (∀ (j : Nat) v x, os[j]? = some v → ps[j]? = some x → PRep e v x) → (c < n + m) → (Builtin.append_ #[t, t] ty #[vx, .slice (some ⟨yb, yo, none⟩) m ycap]).run P e.w = .ok (.slice (some ⟨e.w.heap.size, 0, none⟩) (n + m) (grownCap e.w (n + m) c el)) (e.w.drew.alloc (.cells (os.toArray ++ us.toArray ++ Builtin.zeroCells i.zero.cells (grownCap e.w (n + m) c el - (n + m))) el)) →
   ∃ v e' cs' c', (Builtin.append_ #[t, t] ty #[vx, .slice (some ⟨yb, yo, none⟩) m ycap]).run P e.w = .ok v e'.w ∧ cs'.length = c' * sz ∧ c' ≤ maxLen ∧ n + m ≤ c' ∧ cs'.take ((n + m) * sz) = (ps ++ qs).map Dt.p ∧ PlainC cs' ∧
   Conc Γ ⟨cutS (qH nm) σ.s, (nm, cs') :: jA8 (Nat.beq nm) (qH nm) σ.b, σ.g⟩ e' a ∧ DRep e' v (.arr nm 0 (n + m) c') := by
  intro os hol hps hor hlt hrun
  have hge : n + m ≤ grownCap e.w (n + m) c el := grownCap_ge _ _ _ _
  have hgm : grownCap e.w (n + m) c el ≤ maxLen := grownCap_le_maxLen _ _ _ _ h63
  generalize grownCap e.w (n + m) c el = cap at hge hgm hrun
  let e1 := e.cut (qH nm) fun _ => true
  let rowv : List Value := os ++ us ++ (Builtin.zeroCells i.zero.cells (cap - (n + m))).toList
  have hrow : os.toArray ++ us.toArray ++ Builtin.zeroCells i.zero.cells (cap - (n + m)) = rowv.toArray := by
   apply Array.ext'; simp [rowv]
  have hlen : rowv.length = cap * sz := by
   have : (Builtin.zeroCells i.zero.cells (cap - (n + m))).toList.length = (cap - (n + m)) * sz := by
    rw [Array.length_toList, size_zeroCells, hzs]
   simp only [rowv, List.length_append, hol, hum, this]
   have := Nat.mul_le_mul_right sz hge
   rw [Nat.sub_mul]
   omega
  rw [hrow] at hrun
  let e2 : Env := { e1 with w := e.w.drew }
  have hg1 : Grow e1 e2 := ⟨(Below.refl _ _).drew, fun _ _ => rfl, rfl, rfl, rfl⟩
  have hg2 := Env.alloc_grow e2 (.cells rowv.toArray el) (some 0)
  have hc2 := (hfor.grow hg1).grow hg2
  have hE0 : Ends e1 (e2.alloc (.cells rowv.toArray el) (some 0)) := hg1.ends.trans hg2.ends
  have hrep : ∀ (j : Nat) v x, rowv[j]? = some v → (ps ++ qs)[j]? = some x → PRep e1 v x := by
   intro j v x hv hx
   rcases Nat.lt_or_ge j (n * sz) with hj | hj
   ·rw [List.getElem?_append_left (by omega)] at hx
    simp only [rowv, List.append_assoc] at hv
    rw [List.getElem?_append_left (by omega)] at hv
    exact (hor j v x hv hx).cut
   ·rw [List.getElem?_append_right (by omega), hps] at hx
    have hj2 := (List.getElem?_eq_some_iff.1 hx).1
    simp only [rowv, List.append_assoc] at hv
    rw [List.getElem?_append_right (by omega), hol, List.getElem?_append_left (by omega)] at hv
    exact (hur _ v x hv hx).cut
  have hpl : (ps ++ qs).length = (n + m) * sz := by rw [List.length_append, hps, hqs, hnm]
  have hback := jM5 (e := e1) (vs := rowv) (ps := ps ++ qs) (by rw [hpl, hlen]; exact Nat.mul_le_mul_right sz hge) hrep
  have hbn : (e2.alloc (.cells rowv.toArray el) (some 0)).bx nm = none := by
   show (if qH nm nm = true then e.bx nm else none) = none
   simp [qH]
  have hEb := yS (k := e.w.heap.size) hbn
  have hgive := hc2.give (b := nm) (k := e.w.heap.size) (cs := (ps ++ qs).map Dt.p ++ List.replicate (rowv.length - (ps ++ qs).length) Dt.any) hnone (by simp [Env.alloc, e2]) (.inl hc.env.kept.size) (by simp [Env.alloc, e2]) (by
    show (e.cut (qH nm) fun _ => true).gr _ = none
    show (match e.gr e.w.heap.size with | some g => if true = true then some g else none | none => none) = none
    cases hg : e.gr e.w.heap.size with
    | none => rfl
    | some g => obtain ⟨_, _, _, h3, _⟩ := hc.env.gr _ g hg; omega) (fun x hx => by
    have hx' : (if qH nm x = true then e.bx x else none) = some e.w.heap.size := hx
    split at hx'
    ·have := (hc.env.bx x _ hx').1; omega
    ·cases hx') ⟨e.w.heap.size, rowv, el, by simp [Env.withBox], heap_alloc_new e2.w _, (hback.next hE0).next hEb⟩
  refine ⟨_, (e2.alloc (.cells rowv.toArray el) (some 0)).withBox nm e.w.heap.size, _, cap, hrun, ?_, hgm, hge, ?_, jR6 _ _, hgive, .arr (by simp [Env.withBox])⟩
  ·simp only [List.length_append, List.length_map, List.length_replicate, hlen, hps, hqs]; have := Nat.mul_le_mul_right sz hge; omega
  ·rw [← hpl]
   rw [List.take_append_of_le_length (by simp), List.take_of_length_le (by simp)]
 cases hx with
 | empty hn hc0 hps =>
  rename_i ad
  subst hn; subst hc0; subst hps
  have hrun := run_append_grow (P := P) e.w t ty el inf i.zero hd0 hinf hz ad 0 0 [] (by simp) (fun j v hj => by simp at hj) ⟨yb, yo, none⟩ m ycap us hul' huc (by omega) (by simp only [maxLen] at h63; omega) (growslice_fits (by omega) (by rw [hbytes]; exact hby))
  exact hgrow [] (by simp) (by simp) (fun j v x hj => by simp at hj) (by omega) hrun
 | none hn hc0 hps =>
  subst hn; subst hc0; subst hps
  have hrun := run_append_nil (P := P) e.w t ty el inf i.zero hd0 hinf hz ⟨yb, yo, none⟩ m ycap us hul' huc hm (by simp only [maxLen] at h63; omega) (by rw [hbytes]; simp only [Nat.zero_add] at hby; omega)
  exact hgrow [] (by simp) (by simp) (fun j v x hj => by simp at hj) (by omega) (by simpa using hrun)
 | some hk hh hl hn hps hr =>
  rename_i k vs el0
  by_cases hroom : n + m ≤ c
  ·have hrun := jG9 (P := P) e.w t ty el el0 inf hd0 hinf k n c vs.toArray hh ⟨yb, yo, none⟩ m ycap us hul' huc hu1 hroom (by rw [hsz, hum]; simp only [List.size_toArray, hl]; have := Nat.mul_le_mul_right sz hroom; omega)
   obtain ⟨h1, h2, h3, h4⟩ := hc.env.bx nm k hk
   let vs' := vs.take (n * sz) ++ us ++ vs.drop ((n + m) * sz)
   have hle2 := Nat.mul_le_mul_right sz hroom
   have hvs : (vs.toArray.toList.take (n * inf.size) ++ us ++ vs.toArray.toList.drop (n * inf.size + us.length)) = vs' := by simp only [hsz, hum, vs', hnm]
   rw [hvs] at hrun
   have hfree : ∀ x, (e.cut (qH nm) fun _ => true).bx x ≠ some k := fun x hx => by
    have hx' : (if qH nm x = true then e.bx x else none) = some k := hx
    split at hx'
    ·rename_i hne; exact notN_ne hne (hc.env.inj _ _ _ hx' hk)
    ·cases hx'
   have hgr0 : (e.cut (qH nm) fun _ => true).gr k = none := by
    show (match e.gr k with | some g => if true = true then some g else none | none => none) = none
    rw [h4]
   obtain ⟨hset, hE⟩ := hfor.setFree vs' h2 h3 hgr0 hfree
   have hlen : vs'.length = c * sz := by simp only [vs', List.length_append, List.length_take, List.length_drop, hum, hl]; omega
   have hpl : (ps ++ qs).length = (n + m) * sz := by rw [List.length_append, hps, hqs, hnm]
   have hrep : ∀ (j : Nat) v x, vs'[j]? = some v → (ps ++ qs)[j]? = some x → PRep (e.cut (qH nm) fun _ => true) v x := by
    intro j v x hv hx
    rcases Nat.lt_or_ge j (n * sz) with hj | hj
    ·rw [List.getElem?_append_left (by omega)] at hx
     simp only [vs', List.append_assoc] at hv
     rw [List.getElem?_append_left (by simp only [List.length_take, hl]; omega), List.getElem?_take, if_pos hj] at hv
     exact (hr j v x hv hx).cut
    ·rw [List.getElem?_append_right (by omega), hps] at hx
     have hj2 := (List.getElem?_eq_some_iff.1 hx).1
     simp only [vs', List.append_assoc] at hv
     rw [List.getElem?_append_right (by simp only [List.length_take, hl]; omega), List.length_take, hl, Nat.min_eq_left (by omega), List.getElem?_append_left (by omega)] at hv
     exact (hur _ v x hv hx).cut
   have hback := jM5 (vs := vs') (ps := ps ++ qs) (by rw [hpl, hlen]; exact hle2) hrep
   have hbn : (e.cut (qH nm) fun _ => true).bx nm = none := by
    show (if qH nm nm = true then e.bx nm else none) = none
    simp [qH]
   have hEb := yS (e := { w := (e.cut (qH nm) fun _ => true).w.setRow k vs'.toArray, cl := (e.cut (qH nm) fun _ => true).cl, bx := (e.cut (qH nm) fun _ => true).bx, gr := (e.cut (qH nm) fun _ => true).gr, gi := (e.cut (qH nm) fun _ => true).gi }) (b := nm) (k := k) hbn
   have hgive := hset.give (b := nm) (k := k) (cs := (ps ++ qs).map Dt.p ++ List.replicate (vs'.length - (ps ++ qs).length) Dt.any) hnone (by show k < (e.w.setRow k _).heap.size; rw [setRow_size]; exact h1) h2 h3 hgr0 hfree ⟨k, vs', el0, by simp [Env.withBox], jF4 hh, (hback.next hE).next hEb⟩
   refine ⟨_, _, _, c, hrun, ?_, hcm, hroom, ?_, jR6 _ _, hgive, .arr (by simp [Env.withBox])⟩
   ·simp only [List.length_append, List.length_map, List.length_replicate, hlen, hps, hqs]; omega
   ·rw [← hpl]
    rw [List.take_append_of_le_length (by simp), List.take_of_length_le (by simp)]
  ·have hrun := run_append_grow (P := P) e.w t ty el inf i.zero hd0 hinf hz ⟨k, 0, none⟩ n c (vs.take (n * sz)) (by rw [hsz, List.length_take, hl]; have := Nat.mul_le_mul_right sz hn; omega) (fun j v hj => by
    rw [List.getElem?_take] at hj
    split at hj
    ·rw [xG, cell_of_row e.w k (0 + j) vs.toArray el0 (0, 0) hh]; simpa using hj
    ·cases hj) ⟨yb, yo, none⟩ m ycap us hul' huc (by omega) (by simp only [maxLen] at h63; omega) (growslice_fits (by omega) (by rw [hbytes]; exact hby))
   exact hgrow (vs.take (n * sz)) (by rw [List.length_take, hl]; have := Nat.mul_le_mul_right sz hn; omega) hps (fun j v x hv hx => by
    rw [List.getElem?_take] at hv
    split at hv
    ·exact hr j v x hv hx
    ·cases hv) (by omega) hrun
end
section
variable {P : Program} {T : Nat → Option TI} {Γ : Ctx} {o : Oper} {l0 l : List Oper} {Q : Exit → St → Prop}
variable {s s' : List (Nat × Dt)} {b b' : List (Nat × List Dt)} {g : List (Nat × Gr)} {t : Nat}
theorem aops_rowS (hT : kU P T) (nm : Nat) {ty : TypeId} {x y : Operand} {n m c el z1 z2 sz : Nat} {z3 : Value} {ps qs : List Pl} {dy : Dt} {i : TI} (ho : o.op = .call { callee := .builtin .append, args := #[x, y], argTypes := #[ty, ty] }) (ht : T ty = some ⟨.slice el, z1, z2, z3⟩) (hel : T el = some i) (hzs : Nat.beq i.zero.cells.size sz = true) (hsz : Nat.beq i.sz sz = true) (h0 : Nat.blt 0 sz = true)
  (hg : gd l0 o (kv s) = some true) (hd : o.dst = some t) (hl : Nat.blt t Γ.n = true) (hkb : kv Γ.kb nm = none) (hx : ∀ (a : Act) (e : Env), Conc Γ ⟨s, b, g⟩ e a → RowAtS e nm n c sz ps (a.eval x)) (hcm : c ≤ maxLen) (hy : ev (kv s) y = some dy) (hdy : slOf dy = some (m, qs)) (hm : 0 < m) (hqs : qs.length = m * sz)
  (h63 : n + m ≤ maxLen) (hby : (n + m) * i.bytes ≤ 140737488355328) (hcut : wH (qH nm) s (fun s' => jA3 (Nat.beq nm) (qH nm) b (fun b' => some (s', b'))) = some (s', b'))
  (h : ∀ cs' c', cs'.length = c' * sz → c' ≤ maxLen → n + m ≤ c' → cs'.take ((n + m) * sz) = (ps ++ qs).map Dt.p → PlainC cs' → zY P Γ l0 Q l ⟨(t, .arr nm 0 (n + m) c') :: s', (nm, cs') :: b', g⟩) : zY P Γ l0 Q (o :: l) ⟨s, b, g⟩ := by
 rw [jB3, jB8] at hcut
 cases hcut
 refine ⟨fun a e hc => ?_⟩
 unfold wpList
 rw [if_pos (qN hc hg)]
 have hsee := hc.sees o.op.operands
 have hy1 := jE6 (hsee.1 y (by rw [ho]; simp [Op.operands, Call.operands]) _ hy) hdy
 obtain ⟨v, e', cs', c', hrun, h1, h2, h3, h4, hpl, h5, h6⟩ := appendS_core hT hc (ty := o.type) ht hel (Nat.eq_of_beq_eq_true hzs) (Nat.eq_of_beq_eq_true hsz) (by rw [Nat.blt_eq] at h0; exact h0) hkb (hx a e hc) hcm hy1 hm hqs h63 hby
 refine .inl ?_
 unfold Oper.wp
 rw [jX0 ho hrun]
 have := (h5.put (dst := o.dst) (jC5 hd hl) h6)
 rw [hd] at this
 show wpList P l0.toArray (jE4 Γ Q) l (a.put o.dst v) e'.w
 rw [hd]
 exact (h cs' c' h1 h2 h3 h4 hpl).run _ e' this
theorem jK8 (hT : kU P T) {nm : Nat} {ty : TypeId} {x y : Operand} {n m c el z1 z2 sz : Nat} {z3 : Value} {cs : List Dt} (ps : List Pl) {qs : List Pl} {dy : Dt} {i : TI} (ho : o.op = .call { callee := .builtin .append, args := #[x, y], argTypes := #[ty, ty] }) (ht : T ty = some ⟨.slice el, z1, z2, z3⟩) (hel : T el = some i) (hzs : Nat.beq i.zero.cells.size sz = true) (hsz : Nat.beq i.sz sz = true) (h0 : Nat.blt 0 sz = true)
  (hg : gd l0 o (kv s) = some true) (hd : o.dst = some t) (hl : Nat.blt t Γ.n = true) (hx : ev (kv s) x = some (.arr nm 0 n c)) (hkb : kv Γ.kb nm = none) (hb : kv b nm = some cs) (hy : ev (kv s) y = some dy) (hdy : slOf dy = some (m, qs)) (hcut : wH (qH nm) s (fun s' => jA3 (Nat.beq nm) (qH nm) b (fun b' => some (s', b'))) = some (s', b'))
  (hcs : cs.length = c * sz) (hnc : n ≤ c) (hps : ps.length = n * sz) (htk : cs.take (n * sz) = ps.map Dt.p) (hcm : c ≤ maxLen) (hm : 0 < m) (hqs : qs.length = m * sz) (h63 : n + m ≤ maxLen) (hby : (n + m) * i.bytes ≤ 140737488355328)
  (h : ∀ cs' c', cs'.length = c' * sz → c' ≤ maxLen → n + m ≤ c' → cs'.take ((n + m) * sz) = (ps ++ qs).map Dt.p → PlainC cs' → zY P Γ l0 Q l ⟨(t, .arr nm 0 (n + m) c') :: s', (nm, cs') :: b', g⟩) : zY P Γ l0 Q (o :: l) ⟨s, b, g⟩ := by
 refine aops_rowS hT nm ho ht hel hzs hsz h0 hg hd hl hkb (fun a e hc => ?_) hcm hy hdy hm hqs h63 hby hcut h
 have hx1 := (hc.sees o.op.operands).1 x (by rw [ho]; simp [Op.operands, Call.operands]) _ hx
 obtain ⟨k, vs, el0, h1, h2, h3⟩ := hc.boxes nm cs hb
 generalize a.eval x = vx at hx1
 cases hx1 with
 | arr hk =>
  rw [h1] at hk
  cases hk
  exact .some h1 h2 (by rw [h3.1, hcs]) hnc hps (kC9 h3 (by rw [hps]; exact htk))
theorem jI1 (hT : kU P T) (nm : Nat) {ty : TypeId} {x y : Operand} {m el z1 z2 sz : Nat} {z3 : Value} {qs : List Pl} {dy : Dt} {i : TI} (ho : o.op = .call { callee := .builtin .append, args := #[x, y], argTypes := #[ty, ty] }) (ht : T ty = some ⟨.slice el, z1, z2, z3⟩) (hel : T el = some i) (hzs : Nat.beq i.zero.cells.size sz = true) (hsz : Nat.beq i.sz sz = true) (h0 : Nat.blt 0 sz = true)
  (hg : gd l0 o (kv s) = some true) (hd : o.dst = some t) (hl : Nat.blt t Γ.n = true) (hx : ev (kv s) x = some (.p (.sl true 0 []))) (hkb : kv Γ.kb nm = none) (hy : ev (kv s) y = some dy) (hdy : slOf dy = some (m, qs)) (hcut : wH (qH nm) s (fun s' => jA3 (Nat.beq nm) (qH nm) b (fun b' => some (s', b'))) = some (s', b'))
  (hm : 0 < m) (hqs : qs.length = m * sz) (h63 : m ≤ maxLen) (hby : m * i.bytes ≤ 140737488355328)
  (h : ∀ cs' c', cs'.length = c' * sz → c' ≤ maxLen → m ≤ c' → cs'.take (m * sz) = qs.map Dt.p → PlainC cs' → zY P Γ l0 Q l ⟨(t, .arr nm 0 m c') :: s', (nm, cs') :: b', g⟩) : zY P Γ l0 Q (o :: l) ⟨s, b, g⟩ := by
 refine aops_rowS hT nm (n := 0) (c := 0) (ps := []) ho ht hel hzs hsz h0 hg hd hl hkb (fun a e hc => ?_) (Nat.zero_le _) hy hdy hm hqs (by omega) (by simpa using hby) hcut (fun cs' c' h1 h2 h3 h4 hpl => ?_)
 ·have hx1 := (hc.sees o.op.operands).1 x (by rw [ho]; simp [Op.operands, Call.operands]) _ hx
  generalize a.eval x = vx at hx1
  cases hx1 with
  | p h1 =>
   obtain ⟨A, cap, rfl, _, _, _, h5, _⟩ := xN h1
   have := h5 rfl
   subst this
   cases A with
   | none => exact .none rfl rfl rfl
   | some ad => exact .empty rfl rfl rfl
 ·simp only [Nat.zero_add, List.nil_append] at h3 h4 ⊢
  exact h cs' c' h1 h2 h3 h4 hpl
end
end Go.Proofs.YtkkldicehapklaaGreat
end
section
/- A variable's cell that is a slice over a variable of ours becomes plain data. -/
namespace Go.Proofs.YtkkldicehapklaaGreat
open Go.RowKit
section
variable {P : Program} {T : Nat → Option TI} {Γ : Ctx}
variable {s s' : List (Nat × Dt)} {b b' : List (Nat × List Dt)} {g : List (Nat × Gr)}
end
end Go.Proofs.YtkkldicehapklaaGreat
end
section
/- How arguments are opened into plain data, for calls by contract. -/
namespace Go.Proofs.YtkkldicehapklaaGreat
open Go.ChangeShapes Go.WideShapes Go.ChangeAt Go.RowKit Go.Deep
abbrev envA (w : World) : Env := xD w (fun _ => none)
theorem claimedA (w : World) (b o : Nat) : (envA w).claimed b o := fun k hk => by cases hk
def PReps (e : Env) (vs : List Value) (ps : List Pl) : Prop := vs.length = ps.length ∧ ∀ (i : Nat) v x, vs[i]? = some v → ps[i]? = some x → PRep e v x ∧ jA2 v = true
theorem PReps.nil (e : Env) : PReps e [] [] := ⟨rfl, fun i v x h => by simp at h⟩
theorem PReps.cons {e : Env} {v : Value} {x : Pl} {vs : List Value} {ps : List Pl} (h : PRep e v x) (hl : jA2 v = true) (hs : PReps e vs ps) : PReps e (v :: vs) (x :: ps) := by
 refine ⟨by simp [hs.1], fun i u y h1 h2 => ?_⟩
 cases i with
 | zero => simp at h1 h2; subst h1; subst h2; exact ⟨h, hl⟩
 | succ i => exact hs.2 i u y (by simpa using h1) (by simpa using h2)
theorem PReps.int {e : Env} {k : IntKind} {n : Int} {vs : List Value} {ps : List Pl} (hs : PReps e vs ps) : PReps e (.int k n :: vs) (.raw (.int k n) :: ps) := .cons (.raw _) rfl hs
theorem PReps.bool {e : Env} {b : Bool} {vs : List Value} {ps : List Pl} (hs : PReps e vs ps) : PReps e (.bool b :: vs) (.raw (.bool b) :: ps) := .cons (.raw _) rfl hs
theorem PReps.append {e : Env} {vs us : List Value} {ps qs : List Pl} (h : PReps e vs ps) (h' : PReps e us qs) : PReps e (vs ++ us) (ps ++ qs) := by
 refine ⟨by simp [h.1, h'.1], fun i v d h1 h2 => ?_⟩
 rcases Nat.lt_or_ge i vs.length with hi | hi
 ·rw [List.getElem?_append_left hi] at h1
  rw [List.getElem?_append_left (by rw [← h.1]; exact hi)] at h2
  exact h.2 i v d h1 h2
 ·rw [List.getElem?_append_right hi] at h1
  rw [List.getElem?_append_right (by rw [← h.1]; exact hi), ← h.1] at h2
  exact h'.2 _ v d h1 h2
section
variable {H : Type} {enc : TypeId × Value → H} {P : Program} {w : World} {base : Nat} {spare : Nat → Bool} {held : Bool}
theorem read_none' {t e : TypeId} {len cap : Nat} (ht : P.underlying t = some (.slice e)) (h : Read enc P w base spare held t [.slice none len cap]) : cap = 0 := by
 obtain ⟨m, y, h⟩ := h
 rcases open_slice ht h with ⟨e, _⟩ | ⟨a, len, cap, m', n, D, Pl, e, hb, hl, hm, hmm, hx, hi⟩
 ·simp at e; omega
 ·simp at e
theorem read_sl {α : Type} {t e : TypeId} {sz : Nat} (f : α → List Pl) (ok : α → Prop) (hsz : 0 < sz) (hf : ∀ x, (f x).length = sz) (ht : P.underlying t = some (.slice e)) (hc : P.cellsOf e = sz)
  (hopen : ∀ cs, cs.length = sz → Read enc P w base spare held e cs → ∃ x, ok x ∧ PReps (envA w) cs (f x)) {v : Value} (h : Read enc P w base spare held t [v]) :
  ∃ l : List α, (∀ x ∈ l, ok x) ∧ l.length ≤ maxLen ∧ PRep (envA w) v (.sl false l.length (l.flatMap f)) ∧ jA2 v = true := by
 have h0 := h
 obtain ⟨A, l0, cap, e1, hl, hm, hok, hcell⟩ := read_rows (e := e) (sz := sz) (α := { p : List Value × α // p.1.length = sz ∧ ok p.2 ∧ PReps (envA w) p.1 (f p.2) }) (fun p => p.1.1) (fun _ => True) hsz (fun p => p.2.1) ht hc (fun cs hlen hr => by
  obtain ⟨x, h1, h2⟩ := hopen cs hlen hr
  exact ⟨⟨(cs, x), hlen, h1, h2⟩, rfl, trivial⟩) h
 injection e1 with e1 _
 subst e1
 have hget : ∀ (l : List { p : List Value × α // p.1.length = sz ∧ ok p.2 ∧ PReps (envA w) p.1 (f p.2) }) (j : Nat) (q : Pl), ((l.map fun p => p.1.2).flatMap f)[j]? = some q → ∃ p, l[j / sz]? = some p ∧ (f p.1.2)[j % sz]? = some q := by
  intro l
  induction l with
  | nil => intro j q h; simp at h
  | cons p l ih =>
   intro j q h
   rw [List.map_cons, List.flatMap_cons] at h
   rcases Nat.lt_or_ge j sz with hj | hj
   ·rw [List.getElem?_append_left (by rw [hf]; exact hj)] at h
    exact ⟨p, by rw [Nat.div_eq_of_lt hj]; rfl, by rw [Nat.mod_eq_of_lt hj]; exact h⟩
   ·rw [List.getElem?_append_right (by rw [hf]; exact hj), hf] at h
    obtain ⟨p', h1, h2⟩ := ih _ q h
    refine ⟨p', ?_, by rw [Nat.mod_eq_sub_mod hj]; exact h2⟩
    rw [Nat.div_eq_sub_div hsz hj]
    simpa using h1
 refine ⟨l0.map fun p => p.1.2, fun x hx => ?_, by simp; omega, ?_, rfl⟩
 ·obtain ⟨p, _, rfl⟩ := List.mem_map.1 hx
  exact p.2.2.1
 ·rw [List.length_map]
  refine jN9 hl hm (fun e' => ?_) (fun e' => by cases e') ?_
  ·subst e'; exact read_none' ht h0
  ·rcases hl0 : l0 with _ | ⟨p, l1⟩
   ·exact .inl (by simp)
   ·right
    rw [← hl0]
    obtain ⟨b, o, hA, _, _⟩ := hcell 0 p (by rw [hl0]; rfl)
    have hall : ∀ (j : Nat) q, ((l0.map fun p => p.1.2).flatMap f)[j]? = some q → ∃ u, w.cell? ⟨b, o + j, none⟩ = some u ∧ jA2 u = true ∧ PRep (envA w) u q := by
     intro j q hq
     obtain ⟨p', h1, h2⟩ := hget l0 j q hq
     obtain ⟨b', o', hA', _, hc'⟩ := hcell _ p' h1
     rw [hA] at hA'
     cases hA'
     have hm' : j % sz < p'.1.1.length := by rw [p'.2.1]; exact Nat.mod_lt _ hsz
     have hu := hc' (j % sz) _ (List.getElem?_eq_getElem hm')
     obtain ⟨h5, h6⟩ := p'.2.2.2.2 (j % sz) _ q (List.getElem?_eq_getElem hm') h2
     have hj : j / sz * sz + j % sz = j := by rw [Nat.mul_comm]; exact Nat.div_add_mod j sz
     rw [hj] at hu
     exact ⟨_, hu, h6, h5⟩
    refine ⟨b, o, hA, fun j => (w.cell? ⟨b, o + j, none⟩).getD undef, fun j q hq => ?_⟩
    obtain ⟨u, h1, h2, h3⟩ := hall j q hq
    have hg : (w.cell? ⟨b, o + j, none⟩).getD undef = u := by rw [h1]; rfl
    show _ ∧ _ = some ((w.cell? ⟨b, o + j, none⟩).getD undef) ∧ jA2 ((w.cell? ⟨b, o + j, none⟩).getD undef) = true ∧ PRep _ ((w.cell? ⟨b, o + j, none⟩).getD undef) q
    rw [hg]
    exact ⟨claimedA _ _ _, h1, h2, h3⟩
theorem run_law {P : Program} {f : FuncId} {ds : List Dt} (hc : kA P f ds (dB true)) {w : World} {vs : List Value} (h : DReps (envA w) vs ds) : Calls P f vs.toArray w fun e w' => e = .returned (.bool true) ∧ Below w.heap.size w w' := by
 refine (hc w _ vs h).mono fun e w' hh => ?_
 obtain ⟨v, cl', rfl, hb, _, hr⟩ := hh
 exact ⟨by rw [kF hr], hb⟩
end
end Go.Proofs.YtkkldicehapklaaGreat
end
