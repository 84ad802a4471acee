/- Calls of functions that write variables of ours; how such a function is walked; scopes and labels. -/
import Derived.Test.YtcjooalmhppkiaaRRRRAbs15
namespace Go.Proofs.YtcjooalmhppkiaaRRRR
open Go.RowKit

section
variable {P : Program} {T : Nat → Option TI} {Γ : Ctx} {σ σ' τ : St} {o : Oper} {l0 l : List Oper} {Q : Exit → St → Prop}
variable {s s' : List (Nat × Dt)} {b b' : List (Nat × List Dt)} {g : List (Nat × Gr)} {t : Nat} {d : Dt}

def FreeIn (bs b : List (Nat × List Dt)) : List (Nat × List Dt) → Prop
  | [] => True
  | p :: l => (isIn bs p.1 = true ∨ kv b p.1 = none) ∧ FreeIn bs b l
theorem FreeIn.get {bs b : List (Nat × List Dt)} : ∀ {l : List (Nat × List Dt)} (_ : FreeIn bs b l) {n : Nat}, isIn l n = true → isIn bs n = true ∨ kv b n = none
  | [], _, n, h => by simp [isIn, kv] at h
  | (k, v) :: l, hs, n, h => by
    by_cases e : k = n
    · subst e; exact hs.1
    · exact hs.2.get (by simpa [isIn, lk_cons, e] using h)
def KeepOk (keep : List Nat) (bs : List (Nat × List Dt)) : List (Nat × Nat) → Prop
  | [] => True
  | p :: l => (isIn bs p.1 = false ∨ inL keep p.1 = true) ∧ KeepOk keep bs l
theorem KeepOk.get {keep : List Nat} {bs : List (Nat × List Dt)} : ∀ {l : List (Nat × Nat)} (_ : KeepOk keep bs l) {b k : Nat}, kv l b = some k → isIn bs b = true → b ∈ keep
  | [], _, n, k, h, _ => by cases h
  | (x, v) :: l, hs, n, k, h, hb => by
    rw [lk_cons] at h
    split at h
    · rename_i e
      subst e
      rcases hs.1 with h1 | h1
      · rw [hb] at h1; cases h1
      · exact inL_mem h1
    · exact hs.2.get h hb

theorem imp_core {f : FuncId} {keep : List Nat} {ds : List Dt} {bs : List (Nat × List Dt)} {R : Dt → List (Nat × List Dt) → Prop} (hC : ImpC P f keep ds bs R) {e : Env} {a : Act} (hc : Conc Γ ⟨s, b, g⟩ e a) {vs : List Value} (hv : DReps e vs ds) (hok : Dt.ok.oks (isIn bs) (fun _ => false) ds = true) (hs : SubH ⟨s, b, g⟩ (isIn bs) bs) (hkb : KeepOk keep bs Γ.kb)
    (hd : o.dst = some t) (hl : Nat.blt t Γ.n = true) (hcut : cutSK (fun b => !isIn bs b || inL keep b) s (fun s' => cutBK (isIn bs) (fun b => !isIn bs b || inL keep b) b (fun b' => some (s', b'))) = some (s', b'))
    (hfree : ∀ d bs', R d bs' → FreeIn bs b bs') {Q' : Exit → Act → World → Prop} :
    Calls P f vs.toArray e.w fun
      | .returned v, w'' => ∃ d bs' e', R d bs' ∧ e'.w = w'' ∧ Conc Γ ⟨(t, d) :: s', bs' ++ b', g⟩ e' (a.put o.dst v)
      | .panicked _, _ => False
      | .outgrown, _ => LetsOut Q' := by
  rw [cutSK_eq, cutBK_eq] at hcut
  cases hcut
  refine (hC (e.cut (isIn bs) fun _ => false) vs (cut_in hc hs) ⟨hv.1, fun i v d h1 h2 => (hv.2 i v d h1 h2).cut (oks_get hok h2)⟩).mono fun r w' hh => ?_
  obtain ⟨v, d, bs', e', rfl, rfl, hR, hI, hr, hL⟩ := hh
  obtain ⟨h1, h2⟩ := hc.after hI hL (fun n hn => (hfree d bs' hR).get hn) (fun n k h1 h2 => hkb.get h1 h2)
  refine ⟨d, bs', e.after e' bs bs', hR, rfl, ?_⟩
  have := h1.put (dst := o.dst) (dst_lt hd hl) (hr.next h2)
  rw [hd] at this ⊢
  exact this

theorem aops_imp (hg : gd l0 o (kv s) = some true) {R : Dt → List (Nat × List Dt) → Prop} (hs : ∀ (a : Act) (e : Env), Conc Γ ⟨s, b, g⟩ e a → o.wp P a e.w (fun a' w' => ∃ d bs' e', R d bs' ∧ e'.w = w' ∧ Conc Γ ⟨(t, d) :: s', bs' ++ b', g⟩ e' a') (fun _ _ _ => False)) (h : ∀ d bs', R d bs' → AOps P Γ l0 Q l ⟨(t, d) :: s', bs' ++ b', g⟩) : AOps P Γ l0 Q (o :: l) ⟨s, b, g⟩ := by
  refine ⟨fun a e hc => ?_⟩
  unfold wpList
  rw [if_pos (gd_wanted hc hg)]
  refine .inl (wp_weak (hs a e hc) fun a' w' hh => ?_)
  obtain ⟨d, bs', e', hR, rfl, hc'⟩ := hh
  exact (h d bs' hR).run a' e' hc'

theorem evs_plain {a : Act} {e : Env} {S : Nat → Option Dt} (xs : List Operand) {ds : List Dt} (h : ∀ x ∈ xs, ∀ d, ev S x = some d → DRep e (a.eval x) d) (he : evsK S xs some = some ds) : DReps e (xs.map a.eval) ds := by
  obtain ⟨ds0, h1, h2⟩ := evs_list xs _ ds h he
  cases h2
  exact h1

/-- A call of a function that writes variables of ours, by its contract. -/
theorem a_callI {f : FuncId} {keep : List Nat} {ds : List Dt} {bs : List (Nat × List Dt)} {R : Dt → List (Nat × List Dt) → Prop} {xs : List Operand} {ats : Array TypeId} (hC : ImpC P f keep ds bs R) (ho : o.op = .call { callee := .value (.func f), args := xs.toArray, argTypes := ats }) (hf : EntersP P f) (he : evsK (kv s) xs some = some ds) (hok : Dt.ok.oks (isIn bs) (fun _ => false) ds = true) (hs : SubH ⟨s, b, g⟩ (isIn bs) bs) (hkb : KeepOk keep bs Γ.kb)
    (hg : gd l0 o (kv s) = some true) (hd : o.dst = some t) (hl : Nat.blt t Γ.n = true) (hcut : cutSK (fun b => !isIn bs b || inL keep b) s (fun s' => cutBK (isIn bs) (fun b => !isIn bs b || inL keep b) b (fun b' => some (s', b'))) = some (s', b'))
    (hfree : ∀ d bs', R d bs' → FreeIn bs b bs') (h : ∀ d bs', R d bs' → AOps P Γ l0 Q l ⟨(t, d) :: s', bs' ++ b', g⟩) : AOps P Γ l0 Q (o :: l) ⟨s, b, g⟩ := by
  refine aops_imp hg (fun a e hc => ?_) h
  have hsee := hc.sees o.op.operands
  have hv := evs_plain (a := a) (e := e) xs (fun x hx => hsee.1 x (by rw [ho]; simp [Op.operands, Call.operands, hx])) he
  unfold Oper.wp
  have e1 : (execOp a.eval o).run P e.w = .ok (.enter f (xs.map a.eval).toArray) e.w := by
    obtain ⟨dst, op, type, pos, after, guard⟩ := o
    simp only at ho
    subst ho
    rw [execOp_call_go, hf]
    simp
  rw [e1]
  exact imp_core hC hc hv hok hs hkb hd hl hcut hfree
/-- The same, of a function value. -/
theorem a_callvI {f : FuncId} {keep : List Nat} {ds first caps : List Dt} {bs : List (Nat × List Dt)} {R : Dt → List (Nat × List Dt) → Prop} {fo : Operand} {xs : List Operand} {ats : Array TypeId} (hC : ImpC P f keep ds bs R) (ho : o.op = .call { callee := .value fo, args := xs.toArray, argTypes := ats }) (hf : EntersP P f) (hfo : ev (kv s) fo = some (.fn (.func f) first caps)) (he : evsK (kv s) xs (fun ds0 => appK first ds0 fun r => appK r caps some) = some ds) (hok : Dt.ok.oks (isIn bs) (fun _ => false) ds = true) (hs : SubH ⟨s, b, g⟩ (isIn bs) bs) (hkb : KeepOk keep bs Γ.kb)
    (hg : gd l0 o (kv s) = some true) (hd : o.dst = some t) (hl : Nat.blt t Γ.n = true) (hcut : cutSK (fun b => !isIn bs b || inL keep b) s (fun s' => cutBK (isIn bs) (fun b => !isIn bs b || inL keep b) b (fun b' => some (s', b'))) = some (s', b'))
    (hfree : ∀ d bs', R d bs' → FreeIn bs b bs') (h : ∀ d bs', R d bs' → AOps P Γ l0 Q l ⟨(t, d) :: s', bs' ++ b', g⟩) : AOps P Γ l0 Q (o :: l) ⟨s, b, g⟩ := by
  refine aops_imp hg (fun a e hc => ?_) h
  have hsee := hc.sees o.op.operands
  obtain ⟨ds0, hr, hds⟩ := evs_list (a := a) (e := e) xs _ ds (fun x hx => hsee.1 x (by rw [ho]; simp [Op.operands, Call.operands, hx])) he
  rw [appK_eq, appK_eq] at hds
  cases hds
  have hgv := hsee.1 fo (by rw [ho]; simp [Op.operands, Call.operands]) _ hfo
  generalize hev : a.eval fo = gv at hgv
  cases hgv with
  | fn hl1 hl2 h1 h2 =>
    rename_i us vs
    have hall : DReps e (us ++ xs.map a.eval ++ vs) (first ++ ds0 ++ caps) := (DReps.append ⟨hl1, h1⟩ hr).append ⟨hl2, h2⟩
    unfold Oper.wp
    have e1 : (execOp a.eval o).run P e.w = .ok (.enter f (us ++ xs.map a.eval ++ vs).toArray) e.w := by
      obtain ⟨dst, op, type, pos, after, guard⟩ := o
      simp only at ho
      subst ho
      simp only [execOp, resolve, hev, Deferred.ofValue, Sem.run_bind, Sem.run_pure, Result.andThen_ok, invoke]
      rw [hf]
      simp
    rw [e1]
    exact imp_core hC hc hall hok hs hkb hd hl hcut hfree

/-! ### Walking such a function -/
def resI (T : Nat → Option TI) (σ : St) (l : List ResultVar) : Option Dt := resK T σ l fun
  | [d] => some d
  | ds => some (.tup ds)
theorem resI_rep (hT : TabOk P T) {fn : Func} {e : Env} {a : Act} (hc : Conc Γ σ e a) {d : Dt} (h : resI T σ fn.results.toList = some d) : ∃ v, (results fn a.tmps).run P e.w = .ok v e.w ∧ DRep e v d := by
  unfold resI at h
  obtain ⟨ds, vs, hvs, hds, h⟩ := res_all hT hc _ _ d h
  split at h
  · rename_i d0
    obtain ⟨v, vs', rfl, hv, hn⟩ := hds.uncons
    have : vs' = [] := List.eq_nil_of_length_eq_zero hn.1
    subst this
    cases h
    refine ⟨v, ?_, hv⟩
    rw [results_eq, Array.mapM_eq_mapM_toList]
    simp only [bind_map_left, Sem.run_bind, hvs, Result.andThen_ok, Sem.run_pure]
    simp
  · rename_i hne
    cases h
    refine ⟨.tuple vs.toArray, ?_, .tup hds.1 hds.2⟩
    rw [results_eq, Array.mapM_eq_mapM_toList]
    simp only [bind_map_left, Sem.run_bind, hvs, Result.andThen_ok, Sem.run_pure]
    rw [dif_neg]
    intro hs
    have hl : ds.length = 1 := by rw [← hds.1]; simpa using hs
    obtain ⟨d1, rfl⟩ := List.length_eq_one_iff.1 hl
    exact hne d1 rfl

def NamesIn (bs : List (Nat × List Dt)) : List Nat → Prop
  | [] => True
  | n :: l => isIn bs n = true ∧ NamesIn bs l
theorem NamesIn.get {bs : List (Nat × List Dt)} : ∀ {l : List Nat} (_ : NamesIn bs l) {n : Nat}, n ∈ l → isIn bs n = true
  | [], _, n, h => by cases h
  | x :: l, hs, n, h => by
    rcases List.mem_cons.1 h with h | h
    · subst h; exact hs.1
    · exact hs.2.get h
/-- What such a function leaves at its end. -/
def FinI (T : Nat → Option TI) (rs : List ResultVar) (keep : List Nat) (R : Dt → List (Nat × List Dt) → Prop) : Exit → St → Prop := fun ex σ =>
  (ex = .normal ∨ ex = .ret) ∧ ∃ d bs', resI T σ rs = some d ∧ d.ok (isIn bs') (fun _ => false) = true ∧ SubH σ (isIn bs') bs' ∧ NamesIn bs' keep ∧ R d bs'
theorem finI_ret {rs : List ResultVar} {keep : List Nat} {R : Dt → List (Nat × List Dt) → Prop} (bs' : List (Nat × List Dt)) (h : resI T σ rs = some d) (h1 : d.ok (isIn bs') (fun _ => false) = true) (h2 : SubH σ (isIn bs') bs') (h3 : NamesIn bs' keep) (hR : R d bs') : FinI T rs keep R .ret σ := ⟨.inr rfl, d, bs', h, h1, h2, h3, hR⟩
theorem finI_normal {rs : List ResultVar} {keep : List Nat} {R : Dt → List (Nat × List Dt) → Prop} (bs' : List (Nat × List Dt)) (h : resI T σ rs = some d) (h1 : d.ok (isIn bs') (fun _ => false) = true) (h2 : SubH σ (isIn bs') bs') (h3 : NamesIn bs' keep) (hR : R d bs') : FinI T rs keep R .normal σ := ⟨.inl rfl, d, bs', h, h1, h2, h3, hR⟩

def kbOf (kf : Nat → Nat) : List Nat → List (Nat × Nat)
  | [] => []
  | n :: l => (n, kf n) :: kbOf kf l
theorem kbOf_get {kf : Nat → Nat} : ∀ {l : List Nat} {n k : Nat}, kv (kbOf kf l) n = some k → n ∈ l ∧ k = kf n
  | [], n, k, h => by cases h
  | x :: l, n, k, h => by
    simp only [kbOf, lk_cons] at h
    split at h
    · rename_i e; subst e; cases h; exact ⟨List.mem_cons_self, rfl⟩
    · obtain ⟨h1, h2⟩ := kbOf_get h; exact ⟨List.mem_cons_of_mem _ h1, h2⟩
theorem kbOf_mem {kf : Nat → Nat} : ∀ {l : List Nat} {n : Nat}, n ∈ l → kv (kbOf kf l) n = some (kf n)
  | [], n, h => by cases h
  | x :: l, n, h => by
    simp only [kbOf, lk_cons]
    split
    · rename_i e; subst e; rfl
    · rename_i e
      rcases List.mem_cons.1 h with h | h
      · exact absurd h.symm e
      · exact kbOf_mem h

theorem imp_fin (hT : TabOk P T) {f : FuncId} {fn : Func} {c : Code} {ds : List Dt} {keep : List Nat} {bs : List (Nat × List Dt)} {R : Dt → List (Nat × List Dt) → Prop} {rs : List ResultVar} {n : Nat} {s : List (Nat × Dt)} (hf : P.funcs[f]? = some fn) (hb : fn.body = some c) (hnn : fn.ntmps = n) (hrs : fn.results.toList = rs) (hn : Nat.ble ds.length n = true) (hs : enumK 0 ds some = some s) (hkeep : NamesIn bs keep)
    (h : ∀ w cl own kf, AWP P ⟨n, w, cl, own, kbOf kf keep⟩ c (FinI T rs keep R) ⟨s, bs, []⟩) : ImpC P f keep ds bs R := by
  subst hnn
  subst hrs
  rw [enumK_eq] at hs
  cases hs
  have hn := Nat.le_of_ble_eq_true hn
  intro e vs hI hv
  refine calls_of_wp hf hb ?_
  have hl : vs.length = ds.length := hv.1
  have hbx : ∀ b, b ∈ keep → e.bx b = some ((e.bx b).getD 0) := fun b hb => by
    have h1 := hkeep.get hb
    obtain ⟨cs, hcs⟩ := Option.isSome_iff_exists.1 h1
    obtain ⟨k, _, _, h2, _⟩ := hI.boxes b cs hcs
    rw [h2]; rfl
  have hc : Conc ⟨fn.ntmps, e.w, e.cl, fun k => ∃ b, e.bx b = some k, kbOf (fun b => (e.bx b).getD 0) keep⟩ ⟨enum.go 0 ds, bs, []⟩ e { tmps := vs.toArray ++ Array.replicate (fn.ntmps - vs.toArray.size) undef, defers := [] } := by
    refine ⟨by simp; omega, rfl, fun t d0 ht => ?_, hI.boxes, hI.nobox, fun g => by rw [hI.gi]; rfl, ⟨Kept.refl _ _, fun _ _ _ => rfl, fun b k hk => ⟨(hI.bx b k hk).1, .inr ⟨b, hk⟩, (hI.bx b k hk).2, hI.gr k⟩, hI.inj, fun k g hk => (by rw [hI.gr] at hk; cases hk), fun b k hk => ?_⟩⟩
    · obtain ⟨_, h2⟩ := enum_get ds 0 t d0 ht
      simp only [Nat.sub_zero] at h2
      obtain ⟨v, h3, h4⟩ := hv.get h2
      have htl : t < vs.length := (List.getElem?_eq_some_iff.1 h3).1
      have : slot { tmps := vs.toArray ++ Array.replicate (fn.ntmps - vs.toArray.size) undef, defers := [] } t = v := by
        unfold slot
        simp only [Array.getD_eq_getD_getElem?]
        rw [Array.getElem?_append_left (by simpa using htl), List.getElem?_toArray, h3]
        rfl
      rw [this]
      exact h4
    · obtain ⟨h1, h2⟩ := kbOf_get hk
      rw [h2]; exact hbx b h1
  refine Code.wp_mono (fun ex a' w' hh => ?_) ((h e.w e.cl _ _).run _ e hc)
  obtain ⟨σ', e', rfl, h2, h3, d, bs', h4, h5, h6, h7, h8⟩ := hh
  obtain ⟨v, hr, hv⟩ := resI_rep hT h2 h4
  have hleft : Left keep e (e'.cut (isIn bs') fun _ => false) := by
    refine ⟨h2.env.kept, h2.env.cl, fun b k hk => ?_, fun b hb => ?_⟩
    · have hk' : (if isIn bs' b = true then e'.bx b else none) = some k := hk
      split at hk'
      · exact (h2.env.bx b k hk').2.1
      · cases hk'
    · show (if isIn bs' b = true then e'.bx b else none) = _
      rw [if_pos (h7.get hb), hbx b hb]
      exact h2.env.kb b _ (kbOf_mem hb)
  have hfin : a'.defers = [] ∧ ∃ v, (results fn a'.tmps).run P e'.w = .ok v e'.w ∧ ∃ v' d bs' e'', Ending.returned v = .returned v' ∧ e''.w = e'.w ∧ R d bs' ∧ InOk bs' e'' ∧ DRep e'' v' d ∧ Left keep e e'' :=
    ⟨h2.df, v, hr, v, d, bs', e'.cut (isIn bs') fun _ => false, rfl, rfl, h8, cut_in h2 h6, hv.cut h5, hleft⟩
  rcases h3 with rfl | rfl
  · exact hfin
  · exact hfin

/-! ### Scopes and labels -/
def scopeQ (Q : Exit → St → Prop) : Exit → St → Prop
  | .goto _, _ => False
  | ex, σ => Q ex σ
theorem awp_scope {c : Code} (h : AWP P Γ c (scopeQ Q) σ) : AWP P Γ (.scope c) Q σ := ⟨fun a e hc => by
  refine wp_scope_straight (Code.wp_mono (fun ex a' w' hh => ?_) (h.run a e hc))
  obtain ⟨σ', e', rfl, h2, h3⟩ := hh
  cases ex with
  | goto l => exact h3.elim
  | _ => exact ⟨σ', e', rfl, h2, h3⟩⟩
theorem awp_label {n : Nat} (h : Q .normal σ) : AWP P Γ (.label n) Q σ := ⟨fun _ e hc => wp_label ⟨σ, e, rfl, hc, h⟩⟩
theorem q_scope_normal (h : Q .normal σ) : scopeQ Q .normal σ := h
theorem q_scope_ret (h : Q .ret σ) : scopeQ Q .ret σ := h
theorem q_scope_exit {id : Nat} (h : Q (.exit id) σ) : scopeQ Q (.exit id) σ := h
end
end Go.Proofs.YtcjooalmhppkiaaRRRR
