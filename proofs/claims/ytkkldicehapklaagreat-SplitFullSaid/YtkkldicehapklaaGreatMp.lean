/- Maps out of closures: how they are made, handed back and asked; regions that draw their order, with a call that makes one. -/
import Derived.Test.YtkkldicehapklaaGreatRx
import Derived.Test.YtkkldicehapklaaGreatH4
namespace Go.Proofs.YtkkldicehapklaaGreat
open Go.RowKit
section
variable {P : Program} {T : Nat → Option TI} {Γ : Ctx} {l l0 : List Oper} {Q Q' : Exit → St → Prop} {fuel : Nat} {listed listed' : Array Bool} {σ : St} {o : Oper} {i : Nat}
structure InM (Γ Γ' : Ctx) (r : Nat) (me : Array MapEntry) (ck : Nat) : Prop where
 kept : Kept Γ.own Γ.w0 Γ'.w0
 cl : ∀ k, k < Γ.w0.heap.size → ¬ Γ.own k → Γ'.cl0 k = Γ.cl0 k
 own : ∀ k, Γ'.own k → Γ.own k ∨ Γ.w0.heap.size ≤ k
 obj : Γ'.w0.heap[r]? = some (.map me ck)
 nr : ¬ Γ'.own r
 kb : ∀ b k, kv Γ.kb b = some k → kv Γ'.kb b = some k
 n : Γ'.n = Γ.n
 dfs : Γ'.dfs = Γ.dfs
theorem InM.back {Γ' : Ctx} {r ck : Nat} {me : Array MapEntry} (h : InM Γ Γ' r me ck) {e : Env} (he : EnvOk Γ' e) : EnvOk Γ e := by
 have hno : ∀ k, k < Γ.w0.heap.size → ¬ Γ.own k → ¬ Γ'.own k := fun k hk ho ho' => by
  rcases h.own k ho' with h1 | h1
  ·exact ho h1
  ·omega
 have hsz := h.kept.size
 have hold : ∀ k, Γ'.w0.heap.size ≤ k ∨ Γ'.own k → Γ.w0.heap.size ≤ k ∨ Γ.own k := fun k hk => by
  rcases hk with hk | hk
  ·exact .inl (Nat.le_trans hsz hk)
  ·exact (h.own k hk).symm
 refine ⟨⟨he.kept.os.trans h.kept.os, he.kept.tape.trans h.kept.tape, he.kept.output.trans h.kept.output, Nat.le_trans hsz he.kept.size, fun k hk ho => ?_⟩, fun k hk ho => ?_, fun b k hb => ?_, he.inj, fun k g hg => ?_, fun b k hk => he.kb b k (h.kb b k hk)⟩
 ·exact (he.kept.block k (Nat.lt_of_lt_of_le hk hsz) (hno k hk ho)).trans (h.kept.block k hk ho)
 ·exact (he.cl k (Nat.lt_of_lt_of_le hk hsz) (hno k hk ho)).trans (h.cl k hk ho)
 ·obtain ⟨h1, h2, h3⟩ := he.bx b k hb
  exact ⟨h1, hold k h2, h3⟩
 ·obtain ⟨G, cur, h1, h2, h3, h4⟩ := he.gr k g hg
  exact ⟨G, cur, h1, h2, hold k h3, h4⟩
theorem InM.conc {Γ' : Ctx} {r ck : Nat} {me : Array MapEntry} (h : InM Γ Γ' r me ck) {e : Env} {a : Act} (hc : Conc Γ' σ e a) : Conc Γ σ e a :=
 ⟨hc.size.trans h.n, hc.df.trans h.dfs, hc.slots, hc.boxes, hc.nobox, hc.gs, h.back hc.env⟩
theorem InM.now {Γ' : Ctx} {r ck : Nat} {me : Array MapEntry} (h : InM Γ Γ' r me ck) {e : Env} (he : EnvOk Γ' e) : e.w.heap[r]? = some (.map me ck) :=
 (he.kept.block r (jB4 h.obj) h.nr).trans h.obj
theorem map_nr {e : Env} {a : Act} (hc : Conc Γ σ e a) {r ck : Nat} {me : Array MapEntry} (hr : e.w.heap[r]? = some (.map me ck)) : (∀ b k, e.bx b = some k → k ≠ r) ∧ ∀ k g, e.gr k = some g → k ≠ r := by
 refine ⟨fun b k hk he => ?_, fun k g hg he => ?_⟩
 ·subst he
  cases hb : kv σ.b b with
  | none => rw [hc.nobox b hb] at hk; cases hk
  | some cs =>
   obtain ⟨k', vs, el, h1, h2, _⟩ := hc.boxes b cs hb
   rw [hk] at h1; cases h1
   rw [hr] at h2; cases h2
 ·subst he
  obtain ⟨_, _, _, _, _, _, h5⟩ := hc.env.gr k g hg
  rw [hr] at h5; cases h5
abbrev mapCtx (Γ : Ctx) (e : Env) (r : Nat) (kb : List (Nat × Nat)) : Ctx := ⟨Γ.n, e.w, e.cl, fun k => k ≠ r ∧ (Γ.own k ∨ Γ.w0.heap.size ≤ k), kb, Γ.dfs⟩
theorem kL9 {e : Env} {a : Act} (hc : Conc Γ σ e a) {r ck : Nat} {me : Array MapEntry} (hr : e.w.heap[r]? = some (.map me ck)) {kb : List (Nat × Nat)} (hn : ∀ b k, kv kb b = some k → e.bx b = some k) (hkb : ∀ b k, kv Γ.kb b = some k → kv kb b = some k) :
  InM Γ (mapCtx Γ e r kb) r me ck ∧ Conc (mapCtx Γ e r kb) σ e a := by
 obtain ⟨h1, h2⟩ := map_nr hc hr
 refine ⟨⟨hc.env.kept, hc.env.cl, fun k hk => hk.2, hr, fun hk => hk.1 rfl, hkb, rfl, rfl⟩, hc.size, hc.df, hc.slots, hc.boxes, hc.nobox, hc.gs, Kept.refl _ _, fun _ _ _ => rfl, fun b k hk => ?_, hc.env.inj, fun k g hg => ?_, hn⟩
 ·obtain ⟨h3, h4, h5⟩ := hc.env.bx b k hk
  exact ⟨h3, .inr ⟨h1 b k hk, h4.symm⟩, h5⟩
 ·obtain ⟨G, cur, h3, h4, h5, h6⟩ := hc.env.gr k g hg
  exact ⟨G, cur, h3, h4, .inr ⟨h2 k g hg, h5.symm⟩, h6⟩
theorem InM.next {Γ' : Ctx} {r ck : Nat} {me : Array MapEntry} (h : InM Γ Γ' r me ck) (hbase : Γ.w0.heap.size ≤ r) {e : Env} {a : Act} (hc : Conc Γ' σ e a) (me' : Array MapEntry) (ck' : Nat) : ∃ e2 : Env, e2.w = { e.w with heap := e.w.heap.setIfInBounds r (.map me' ck') } ∧ InM Γ (mapCtx Γ e2 r Γ'.kb) r me' ck' ∧ Conc (mapCtx Γ e2 r Γ'.kb) σ e2 a := by
 have hold := h.now hc.env
 have hcb := h.conc hc
 obtain ⟨hbxr, hgrr⟩ := map_nr hc hold
 obtain ⟨hset, hoth⟩ := MapKept.heap_set (o' := .map me' ck') hold
 let w2 : World := { e.w with heap := e.w.heap.setIfInBounds r (.map me' ck') }
 have hsz2 : w2.heap.size = e.w.heap.size := by simp [w2]
 let e2 : Env := { e with w := w2 }
 have hcell : ∀ b o v, e.w.cell? ⟨b, o, none⟩ = some v → b ≠ r := fun b o v hv he => by
  subst he
  simp [World.cell?, hold] at hv
 have hE : Ends e e2 := by
  refine ⟨fun b o v h1 h2 => ⟨h1, ?_⟩, fun _ _ h => h, fun _ G h => ⟨G, h, rfl, rfl, Nat.le_refl _⟩, fun k g G cur h1 h2 h3 => ⟨h1, cur, ?_, rfl⟩⟩
  ·rw [World.cell?_of_block (w := e.w) (hoth b (hcell b o v h2))]; exact h2
  ·show (e.w.heap.setIfInBounds r (.map me' ck'))[k]? = _
   rw [hoth k (hgrr k g h1)]; exact h3
 have hc2 : Conc Γ σ e2 a := by
  refine ⟨hcb.size, hcb.df, fun t d ht => (hcb.slots t d ht).next hE, fun b cs hb => ?_, hcb.nobox, hcb.gs, ⟨⟨hcb.env.kept.os, hcb.env.kept.tape, hcb.env.kept.output, by show _ ≤ w2.heap.size; rw [hsz2]; exact hcb.env.kept.size, fun k hk ho => ?_⟩, hcb.env.cl, fun b k hk => ?_, hcb.env.inj, fun k g hg => ?_, hcb.env.kb⟩⟩
  ·obtain ⟨k, vs, el, h1, h2, h3⟩ := hcb.boxes b cs hb
   exact ⟨k, vs, el, h1, (hoth k (hbxr b k h1)).trans h2, h3.next hE⟩
  ·exact (hoth k (by omega)).trans (hcb.env.kept.block k hk ho)
  ·obtain ⟨h1, h2, h3⟩ := hcb.env.bx b k hk
   exact ⟨by show k < w2.heap.size; rw [hsz2]; exact h1, h2, h3⟩
  ·obtain ⟨G, cur, h1, h2, h3, h4, h5⟩ := hcb.env.gr k g hg
   exact ⟨G, cur, h1, by show k < w2.heap.size; rw [hsz2]; exact h2, h3, h4, (hoth k (hgrr k g hg)).trans h5⟩
 have h3 := kL9 (kb := Γ'.kb) hc2 (r := r) (me := me') (ck := ck') hset (fun b k hk => hc.env.kb b k hk) h.kb
 exact ⟨e2, rfl, h3.1, h3.2⟩
def MapC (P : Program) (f : FuncId) (keep : List Nat) (ds : List Dt) (bs bs' : Bxs) (names : List Nat) (M : (Nat → Nat) → Array MapEntry) : Prop :=
 ∀ (e : Env) (vs : List Value), jA7 bs e → DReps e vs ds → Calls P f vs.toArray e.w fun ex w' => ∃ r ck kf e', ex = .returned (.map (some r)) ∧ e'.w = w' ∧ jA7 bs' e' ∧ jN3 keep e e' ∧ (∀ n, n ∈ names → e'.bx n = some (kf n)) ∧ w'.heap[r]? = some (.map (M kf) ck)
structure OpW (P : Program) (Γ : Ctx) (l : List Oper) (Q : Exit → St → Prop) (fuel : Nat) (listed : Array Bool) (σ : St) (i : Nat) : Prop where
 run : ∀ (a : Act) (e : Env), Conc Γ σ e a → wpOp P l.toArray (jE4 Γ Q) i (wpAny P .any l.toArray (jE4 Γ Q) fuel (listed.setIfInBounds i true)) a e.w
theorem kQ (ho : l[i]? = some o) (hl : listed.setIfInBounds i true = listed') (h : zY P Γ l (jT5 P Γ l Q fuel listed') [o] σ) : OpW P Γ l Q fuel listed σ i := ⟨fun _ _ hc => kG5 ho hl h hc⟩
theorem kC (hr : Region.ready .any l.toArray listed = [i]) (h : OpW P Γ l Q fuel listed σ i) : AAny P Γ l Q (fuel + 1) listed σ := ⟨fun a e hc => wpAny_all hr (by simp) fun j hj => by
 obtain rfl : j = i := by simpa using hj
 exact h.run a e hc⟩
theorem jD9 {j : Nat} (hr : Region.ready .any l.toArray listed = [i, j]) (h : OpW P Γ l Q fuel listed σ i) (h2 : OpW P Γ l Q fuel listed σ j) : AAny P Γ l Q (fuel + 1) listed σ := ⟨fun a e hc => wpAny_all hr (by simp) fun k hk => by
 rcases List.mem_cons.1 hk with rfl | hk
 ·exact h.run a e hc
 ·obtain rfl : k = j := by simpa using hk
  exact h2.run a e hc⟩
theorem aany_w3 {j m : Nat} (hr : Region.ready .any l.toArray listed = [i, j, m]) (h : OpW P Γ l Q fuel listed σ i) (h2 : OpW P Γ l Q fuel listed σ j) (h3 : OpW P Γ l Q fuel listed σ m) : AAny P Γ l Q (fuel + 1) listed σ := ⟨fun a e hc => wpAny_all hr (by simp) fun k hk => by
 rcases List.mem_cons.1 hk with rfl | hk
 ·exact h.run a e hc
 ·rcases List.mem_cons.1 hk with rfl | hk
  ·exact h2.run a e hc
  ·obtain rfl : k = m := by simpa using hk
   exact h3.run a e hc⟩
theorem jH2 {t : Nat} {s s' : List (Nat × Dt)} {b b' : Bxs} {g : List (Nat × Gr)} {f : FuncId} {keep : List Nat} {ds : List Dt} {bs bs' : Bxs} {names : List Nat} {M : (Nat → Nat) → Array MapEntry} {xs : List Operand} {ats : Array TypeId} {LL : Array Bool} (hC : MapC P f keep ds bs bs' names M) (hoi : l[i]? = some o) (hls : listed.setIfInBounds i true = LL) (ho : o.op = .call { callee := .value (.func f), args := xs.toArray, argTypes := ats }) (hf : uH P f) (he : jK4 (kv s) xs some = some ds) (hok : Dt.ok.oks (jM bs) (fun _ => false) ds = true) (hs : SubH ⟨s, b, g⟩ (jM bs) bs) (hkb : Γ.kb = [])
  (hg : gd l o (kv s) = some true) (hd : o.dst = some t) (hl : Nat.blt t Γ.n = true) (hcut : wH (fun b => !jM bs b || inL keep b) s (fun s' => jA3 (jM bs) (fun b => !jM bs b || inL keep b) b (fun b' => some (s', b'))) = some (s', b'))
  (hfree : FreeIn bs b bs') (hnm : NamesIn bs' names)
  (h : ∀ r ck kf w' cl' own', InM Γ ⟨Γ.n, w', cl', own', jN0 kf names, Γ.dfs⟩ r (M kf) ck → AAny P ⟨Γ.n, w', cl', own', jN0 kf names, Γ.dfs⟩ l Q fuel LL ⟨(t, .p (.raw (.map (some r)))) :: s', bs' ++ b', g⟩) : OpW P Γ l Q fuel listed ⟨s, b, g⟩ i := by
 rw [jB3, jB8] at hcut
 cases hcut
 refine ⟨fun a e hc => ?_⟩
 have hoi' : l.toArray[i]? = some o := by simpa using hoi
 unfold wpOp
 simp only [hoi']
 rw [if_pos (qN hc hg)]
 refine .inl ?_
 have hsee := hc.sees o.op.operands
 have hv := jK6 (a := a) (e := e) xs (fun x hx => hsee.1 x (by rw [ho]; simp [Op.operands, Call.operands, hx])) he
 have hrun : (execOp a.eval o).run P e.w = .ok (.enter f (xs.map a.eval).toArray) e.w := by
  obtain ⟨dst, op, type, pos, after, guard⟩ := o
  simp only at ho
  subst ho
  rw [execOp_call_go, hf]
  simp
 unfold Oper.wp
 rw [hrun]
 refine (hC (e.cut (jM bs) fun _ => false) _ (uC hc hs) ⟨hv.1, fun i v d h1 h2 => (hv.2 i v d h1 h2).cut (xR hok h2)⟩).mono fun ex w' hh => ?_
 obtain ⟨r, ck, kf, e', rfl, rfl, hI, hL, hk, hobj⟩ := hh
 obtain ⟨h1, h2⟩ := hc.after hI hL (fun n hn => hfree.get hn) (fun n k h1 _ => by rw [hkb] at h1; cases h1)
 have h3 := h1.put (dst := o.dst) (d := .p (.raw (.map (some r)))) (jC5 hd hl) (.p (.raw (.map (some r))))
 rw [hd] at h3
 obtain ⟨h4, h5⟩ := kL9 (kb := jN0 kf names) h3 (r := r) (me := M kf) (ck := ck) hobj (fun n k hnk => by
  obtain ⟨h6, rfl⟩ := jM3 hnk
  show (if jM bs' n = true then e'.bx n else _) = _
  rw [if_pos (hnm.get h6)]
  exact hk n h6) (fun n k h6 => by rw [hkb] at h6; cases h6)
 have h6 := (h r ck kf _ _ _ h4).run _ _ h5
 show wpAny P .any l.toArray (jE4 Γ Q) fuel (listed.setIfInBounds i true) (a.put o.dst (.map (some r))) e'.w
 rw [hls, hd]
 exact kB3 (fun _ _ hh => by obtain ⟨τ, e2, q1, q2, q3⟩ := hh; exact ⟨τ, e2, q1, h4.conc q2, q3⟩) (fun _ _ _ _ hh => by obtain ⟨τ, e2, q1, q2, q3⟩ := hh; exact ⟨τ, e2, q1, h4.conc q2, q3⟩) _ _ _ _ h6
def LookC (P : Program) (Γ : Ctx) (mt r : Nat) (m : Int) (fnd : Dt) (kn : Bool) : Prop := ∀ e : Env, EnvOk Γ e → ∃ v, (Instr.lookup mt (.map (some r)) (.int .i64 m) true).run P e.w = .ok v e.w ∧ DRep e v (.tup [fnd, dB kn])
theorem jA1 {t mt r : Nat} {s : List (Nat × Dt)} {b : Bxs} {g : List (Nat × Gr)} {x y : Operand} {m : Int} {fnd : Dt} {kn : Bool} (hL : LookC P Γ mt r m fnd kn) (ho : o.op = .lookup mt x y true) (hx : ev (kv s) x = some (.p (.raw (.map (some r))))) (hy : ev (kv s) y = some (dI m)) (hg : gd l0 o (kv s) = some true) (hd : o.dst = some t) (hl : Nat.blt t Γ.n = true)
  (h : zY P Γ l0 Q l ⟨(t, .tup [fnd, dB kn]) :: s, b, g⟩) : zY P Γ l0 Q (o :: l) ⟨s, b, g⟩ := by
 refine jA6 (σ := ⟨s, b, g⟩) hg (fun a e hc => ?_) h
 have hs := hc.sees o.op.operands
 have h1 := kF (hs.1 x (by rw [ho]; simp [Op.operands]) _ hx)
 have h2 := kF (hs.1 y (by rw [ho]; simp [Op.operands]) _ hy)
 obtain ⟨v, h3, h4⟩ := hL e hc.env
 have hrun : (execOp a.eval o).run P e.w = .ok (.value v) e.w := by
  obtain ⟨dst, op, type, pos, after, guard⟩ := o
  simp only at ho
  subst ho
  simp [execOp, h1, h2, h3]
 unfold Oper.wp
 rw [hrun]
 have := hc.put (dst := o.dst) (v := v) (by rw [hd]; exact hl) h4
 rw [hd] at this
 exact ⟨e, rfl, by rw [hd]; exact this⟩
theorem kB0 {Γ' : Ctx} {r ck mt kt et : Nat} {me : Array MapEntry} (hi : InM Γ Γ' r me ck) (hm : P.underlying mt = some (.map kt et)) (hkt : P.underlying kt = some (.int .i64)) {m : Int} {j : Nat} {v : Value} {fnd : Dt} (hfn : Instr.findNow (.int .i64) (.int .i64 m) me.toList 0 = some (some (j, v))) (hv : ∀ e, EnvOk Γ' e → DRep e v fnd) : LookC P Γ' mt r m fnd true := fun e he => by
 have h3 := hi.now he
 have hk : MapKept.IsKey (.int .i64) (.int .i64 m) := rfl
 refine ⟨.tuple #[v, .bool true], ?_, ?_⟩
 ·simp [Instr.lookup, run_underlying hm, MapKept.run_getObj_map h3, MapKept.run_checkKey hkt hk, MapKept.run_findKey hkt hfn]
 ·exact .tup (vs := [v, .bool true]) (ds := [fnd, dB true]) rfl fun i v' d h1 h2 => by
   match i, h1, h2 with
   | 0, h1, h2 => cases h1; cases h2; exact hv e he
   | 1, h1, h2 => cases h1; cases h2; exact .p (.raw _)
theorem look_none (hT : kU P T) {Γ' : Ctx} {r ck mt kt et : Nat} {me : Array MapEntry} {ti : TI} (hi : InM Γ Γ' r me ck) (hm : P.underlying mt = some (.map kt et)) (hkt : P.underlying kt = some (.int .i64)) (het : T et = some ti) {m : Int} (hfn : Instr.findNow (.int .i64) (.int .i64 m) me.toList 0 = some none) : LookC P Γ' mt r m (.p (.raw ti.zero)) false := fun e he => by
 have h3 := hi.now he
 have hk : MapKept.IsKey (.int .i64) (.int .i64 m) := rfl
 refine ⟨.tuple #[ti.zero, .bool false], ?_, ?_⟩
 ·simp [Instr.lookup, run_underlying hm, MapKept.run_getObj_map h3, MapKept.run_checkKey hkt hk, MapKept.run_findKey hkt hfn, uT hT het]
 ·exact .tup (vs := [ti.zero, .bool false]) (ds := [.p (.raw ti.zero), dB false]) rfl fun i v' d h1 h2 => by
   match i, h1, h2 with
   | 0, h1, h2 => cases h1; cases h2; exact .p (.raw _)
   | 1, h1, h2 => cases h1; cases h2; exact .p (.raw _)
/-! ### Rows of operations that fill a map of their own -/
structure NOps (P : Program) (Γ : Ctx) (kb : List (Nat × Nat)) (r : Nat) (l0 : List Oper) (Q : Exit → Act → World → Prop) (l : List Oper) (me : Array MapEntry) (ck : Nat) (σ : St) : Prop where
 run : ∀ w' cl' own', InM Γ ⟨Γ.n, w', cl', own', kb, Γ.dfs⟩ r me ck → ∀ a e, Conc ⟨Γ.n, w', cl', own', kb, Γ.dfs⟩ σ e a → wpList P l0.toArray Q l a e.w
theorem n_ax {W : Exit → Act → World → Prop} {kb : List (Nat × Nat)} {r ck : Nat} {me : Array MapEntry} {s : List (Nat × Dt)} {b : List (Nat × List Dt)} {g : List (Nat × Gr)} {t : Nat} {d : Dt} (hT : kU P T) (hq : ax T (kv s) (kv b) o.op = some d) (hg : gd l0 o (kv s) = some true) (hd : o.dst = some t) (hl : Nat.blt t Γ.n = true) (h : NOps P Γ kb r l0 W l me ck ⟨(t, d) :: s, b, g⟩) : NOps P Γ kb r l0 W (o :: l) me ck ⟨s, b, g⟩ := by
 refine ⟨fun w' cl' own' hi a e hc => ?_⟩
 unfold wpList
 rw [if_pos (qN hc hg)]
 have hst : OStep P ⟨Γ.n, w', cl', own', kb, Γ.dfs⟩ o ⟨s, b, g⟩ _ := QStep.step (σ := ⟨s, b, g⟩) (jE2 hT hq) (jC5 hd hl) (fun p hp => by cases hp)
 refine .inl (jJ2 (hst a e hc) fun a' w1 hh => ?_)
 obtain ⟨e', rfl, hc'⟩ := hh
 rw [hd] at hc'
 exact h.run w' cl' own' hi a' e' hc'
theorem n_ins {W : Exit → Act → World → Prop} {kb : List (Nat × Nat)} {r ck : Nat} {me me' : Array MapEntry} {s : List (Nat × Dt)} {b : List (Nat × List Dt)} {g : List (Nat × Gr)} {mt kt et : Nat} {x y z : Operand} {m : Int} {v : Value} {d : Dt} (hbase : Γ.w0.heap.size ≤ r) (ho : o.op = .insert mt x y z) (hd : o.dst = none) (hm : P.underlying mt = some (.map kt et)) (hkt : P.underlying kt = some (.int .i64)) (hx : ev (kv s) x = some (.p (.raw (.map (some r))))) (hy : ev (kv s) y = some (dI m)) (hz : ev (kv s) z = some d) (hg : gd l0 o (kv s) = some true) (hv : ∀ w' cl' own' e, EnvOk ⟨Γ.n, w', cl', own', kb, Γ.dfs⟩ e → ∀ u, DRep e u d → u = v) (hn : Instr.findNow (.int .i64) (.int .i64 m) me.toList 0 = some none) (he : me.push { key := .int .i64 m, val := v, born := ck } = me')
  (h : NOps P Γ kb r l0 W l me' (ck + 1) ⟨s, b, g⟩) : NOps P Γ kb r l0 W (o :: l) me ck ⟨s, b, g⟩ := by
 refine ⟨fun w' cl' own' hi a e hc => ?_⟩
 subst he
 unfold wpList
 rw [if_pos (qN hc hg)]
 have hs := hc.sees o.op.operands
 have h1 := kF (hs.1 x (by rw [ho]; simp [Op.operands]) _ hx)
 have h2 := kF (hs.1 y (by rw [ho]; simp [Op.operands]) _ hy)
 have h2' := hv _ _ _ e hc.env _ (hs.1 z (by rw [ho]; simp [Op.operands]) _ hz)
 have h3 := hi.now hc.env
 have hk : MapKept.IsKey (.int .i64) (.int .i64 m) := rfl
 obtain ⟨e2, he2, hi2, hc2⟩ := hi.next hbase hc (me.push { key := .int .i64 m, val := v, born := ck }) (ck + 1)
 have hrun : (execOp a.eval o).run P e.w = .ok .skip { e.w with heap := e.w.heap.setIfInBounds r (.map (me.push { key := .int .i64 m, val := v, born := ck }) (ck + 1)) } := by
  obtain ⟨dst, op, type, pos, after, guard⟩ := o
  simp only at ho
  subst ho
  simp [execOp, Instr.mapUpdate, h1, h2, h2', run_underlying hm, MapKept.run_getObj_map h3, MapKept.run_checkKey hkt hk, MapKept.run_findKey hkt hn, MapKept.run_setObj_map _ h3]
 refine .inl ?_
 unfold Oper.wp
 rw [hrun, ← he2]
 have := h.run _ _ _ hi2 a e2 hc2
 show wpList P _ _ l (a.put o.dst undef) e2.w
 rw [hd]
 exact this
theorem n_make {W : Exit → Act → World → Prop} {kb : List (Nat × Nat)} {s : List (Nat × Dt)} {b : List (Nat × List Dt)} {g : List (Nat × Gr)} {t1 mt : Nat} {o1 : Oper} (ho : o1.op = .makeMap mt none) (hg : gd l0 o1 (kv s) = some true) (hd1 : o1.dst = some t1) (hl1 : Nat.blt t1 Γ.n = true) {e : Env} {a : Act} (hc : Conc Γ ⟨s, b, g⟩ e a) (hn : ∀ b k, kv kb b = some k → e.bx b = some k) (hkb : ∀ b k, kv Γ.kb b = some k → kv kb b = some k)
  (h : ∀ r, Γ.w0.heap.size ≤ r → NOps P Γ kb r l0 W l #[] 0 ⟨(t1, .p (.raw (.map (some r)))) :: s, b, g⟩) : wpList P l0.toArray W (o1 :: l) a e.w := by
 unfold wpList
 rw [if_pos (qN hc hg)]
 refine .inl ?_
 unfold Oper.wp
 have hrun : (execOp a.eval o1).run P e.w = .ok (.value (.map (some e.w.heap.size))) (e.w.alloc (.map #[] 0)) := by
  obtain ⟨dst, op, type, pos, after, guard⟩ := o1
  simp only at ho
  subst ho
  simp [execOp, Instr.makeMap]
 rw [hrun]
 show wpList P _ _ l (a.put o1.dst _) _
 have hgr := Env.alloc_grow e (.map #[] 0) none
 have hc1 := (hc.grow hgr).put (dst := o1.dst) (v := .map (some e.w.heap.size)) (d := .p (.raw (.map (some e.w.heap.size)))) (by rw [hd1]; exact hl1) (.p (.raw _))
 rw [hd1] at hc1 ⊢
 have hnew : (e.w.alloc (.map #[] 0)).heap[e.w.heap.size]? = some (.map #[] 0) := (MapKept.heap_alloc e.w _).1
 obtain ⟨h4, h5⟩ := kL9 (kb := kb) hc1 (r := e.w.heap.size) (me := #[]) (ck := 0) hnew hn hkb
 exact (h e.w.heap.size hc.env.kept.size).run _ _ _ h4 _ _ h5
theorem fn_two {e : Env} {u : Value} {f : Fn} {b1 b2 k1 k2 : Nat} (h1 : e.bx b1 = some k1) (h2 : e.bx b2 = some k2) (h : DRep e u (.fn f [] [.ptr b1 0, .ptr b2 0])) : u = .func f #[] #[.pointer (some ⟨k1, 0, none⟩), .pointer (some ⟨k2, 0, none⟩)] := by
 cases h with
 | fn hl hl2 h3 h4 =>
  rename_i us vs
  match us, vs, hl, hl2, h4 with
  | [], [v1, v2], _, _, h4 =>
   have q1 := h4 0 v1 _ rfl rfl
   have q2 := h4 1 v2 _ rfl rfl
   cases q1 with
   | ptr q1 => cases q2 with
    | ptr q2 =>
     rw [h1] at q1; rw [h2] at q2
     cases q1; cases q2
     rfl
theorem fn_none {e : Env} {u : Value} {f : Fn} (h : DRep e u (.fn f [] [])) : u = .func f #[] #[] := by
 cases h with
 | fn hl hl2 h3 h4 =>
  rename_i us vs
  match us, vs, hl, hl2 with
  | [], [], _, _ => rfl
end
end Go.Proofs.YtkkldicehapklaaGreat
