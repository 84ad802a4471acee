/- Small steps for walking, and further operations: composite literals, parts of slices. -/
import Derived.Test.YtcjooalmhppkiaaRRRRAbs9
namespace Go.Proofs.YtcjooalmhppkiaaRRRR
open Go.RowKit

section
variable {P : Program} {T : Nat → Option TI} {Γ : Ctx} {σ σ' : St} {Q : Exit → St → Prop} {K : St → Prop}

theorem q_then_normal (h : K σ) : thenQ K Q .normal σ := h
theorem q_then_ret (h : Q .ret σ) : thenQ K Q .ret σ := h
theorem q_then_exit {id : Nat} (h : Q (.exit id) σ) : thenQ K Q (.exit id) σ := h
theorem q_block_normal {id : Nat} (h : Q .normal σ) : blockQ id Q .normal σ := h
theorem q_block_ret {id : Nat} (h : Q .ret σ) : blockQ id Q .ret σ := h
theorem q_block_exit {id : Nat} (h : Q .normal σ) : blockQ id Q (.exit id) σ := by simp only [blockQ, if_true]; exact h
theorem q_block_other {id id' : Nat} (hne : (id' == id) = false) (h : Q (.exit id') σ) : blockQ id Q (.exit id') σ := by
  have : id' ≠ id := by simpa using hne
  simp only [blockQ, if_neg this]; exact h
theorem awp_cond_t {x y : Code} {z : Operand} (hz : ev (kv σ.s) z = some (.p (.raw (.bool true)))) (h : AWP P Γ x Q σ) : AWP P Γ (.cond z x y) Q σ := awp_cond hz (fun _ => h) (fun h' => by cases h')
theorem awp_cond_f {x y : Code} {z : Operand} (hz : ev (kv σ.s) z = some (.p (.raw (.bool false)))) (h : AWP P Γ y Q σ) : AWP P Γ (.cond z x y) Q σ := awp_cond hz (fun h' => by cases h') (fun _ => h)
/-- Two ways. -/
def CK (t : Bool) (X Y : Prop) : Prop := (t = true → X) ∧ (t = false → Y)
theorem awp_ck {x y : Code} {z : Operand} {t : Bool} (hz : ev (kv σ.s) z = some (.p (.raw (.bool t)))) (h : CK t (AWP P Γ x Q σ) (AWP P Γ y Q σ)) : AWP P Γ (.cond z x y) Q σ := awp_cond hz h.1 h.2
section
variable {X Y : Prop}
theorem ck_t (h : X) : CK true X Y := ⟨fun _ => h, fun h' => by cases h'⟩
theorem ck_f (h : Y) : CK false X Y := ⟨fun h' => (by cases h'), fun _ => h⟩
theorem ck_nt (h : Y) : CK (!true) X Y := ck_f h
theorem ck_nf (h : X) : CK (!false) X Y := ck_t h
theorem ck_d {p : Prop} [Decidable p] (ht : p → X) (hf : ¬ p → Y) : CK (decide p) X Y := ⟨fun h => ht (of_decide_eq_true h), fun h => hf (of_decide_eq_false h)⟩
theorem ck_n {p : Prop} [Decidable p] (ht : ¬ p → X) (hf : p → Y) : CK (!decide p) X Y := ⟨fun h => ht (by simpa using h), fun h => hf (by simpa using h)⟩
theorem ck_b {t : Bool} (ht : t = true → X) (hf : t = false → Y) : CK t X Y := ⟨ht, hf⟩
theorem ck_nb {t : Bool} (ht : t = false → X) (hf : t = true → Y) : CK (!t) X Y := ⟨fun h => ht (by simpa using h), fun h => hf (by simpa using h)⟩
end
/-- What a function answers at its end. -/
def Fin (T : Nat → Option TI) (rs : List ResultVar) (d : Dt) : Exit → St → Prop := fun ex σ => (ex = .normal ∨ ex = .ret) ∧ resD T σ rs = some d
theorem fin_ret {rs : List ResultVar} {d d' : Dt} (h : resD T σ rs = some d') (hd : d' = d) : Fin T rs d .ret σ := ⟨.inr rfl, by rw [h, hd]⟩
theorem fin_normal {rs : List ResultVar} {d d' : Dt} (h : resD T σ rs = some d') (hd : d' = d) : Fin T rs d .normal σ := ⟨.inl rfl, by rw [h, hd]⟩
def enumK {α : Type} : Nat → List Dt → (List (Nat × Dt) → Option α) → Option α
  | _, [], k => k []
  | n, d :: ds, k => enumK (n + 1) ds fun r => k ((n, d) :: r)
theorem enumK_eq {α : Type} : ∀ (n : Nat) (ds : List Dt) (k : List (Nat × Dt) → Option α), enumK n ds k = k (enum.go n ds)
  | _, [], _ => rfl
  | n, d :: ds, k => by rw [enumK, enumK_eq (n + 1) ds]; rfl
theorem pure_fin (hT : TabOk P T) {f : FuncId} {fn : Func} {c : Code} {ds : List Dt} {d : Dt} {rs : List ResultVar} {n : Nat} {s : List (Nat × Dt)} (hf : P.funcs[f]? = some fn) (hb : fn.body = some c) (hnn : fn.ntmps = n) (hrs : fn.results.toList = rs) (hn : Nat.ble ds.length n = true) (hs : enumK 0 ds some = some s)
    (h : ∀ w cl, AWP P ⟨n, w, cl, fun _ => False, []⟩ c (Fin T rs d) ⟨s, [], []⟩) : PureC P f ds d := by
  subst hnn
  subst hrs
  rw [enumK_eq] at hs
  cases hs
  exact pure_of_awp hT hf hb (Nat.le_of_ble_eq_true hn) h

section
variable {o : Oper} {l0 l : List Oper} {s : List (Nat × Dt)} {b : List (Nat × List Dt)} {g : List (Nat × Gr)} {t : Nat} {d : Dt}
theorem dst_lt {n : Nat} (hd : o.dst = some t) (hl : Nat.blt t n = true) : dstLt n o.dst = true := by rw [hd]; exact hl
theorem a_q (hq : QStep P o (kv s) (kv b) d none) (hg : gd l0 o (kv s) = some true) (hd : o.dst = some t) (hl : Nat.blt t Γ.n = true) (h : AOps P Γ l0 Q l ⟨(t, d) :: s, b, g⟩) : AOps P Γ l0 Q (o :: l) ⟨s, b, g⟩ :=
  aops_q (σ := ⟨s, b, g⟩) hq hg (dst_lt hd hl) (fun p hp => by cases hp) (by rw [hd]; exact h)
theorem a_b {nm : Nat} {cs : List Dt} (hq : QStep P o (kv s) (kv b) d (some (nm, cs))) (hg : gd l0 o (kv s) = some true) (hd : o.dst = some t) (hl : Nat.blt t Γ.n = true) (hf : kv b nm = none) (h : AOps P Γ l0 Q l ⟨(t, d) :: s, (nm, cs) :: b, g⟩) : AOps P Γ l0 Q (o :: l) ⟨s, b, g⟩ :=
  aops_q (σ := ⟨s, b, g⟩) hq hg (dst_lt hd hl) (fun p hp => by cases hp; exact hf) (by rw [hd]; exact h)
/-- A name that no variable has. -/
def nextK {α : Type} : Nat → List (Nat × List Dt) → (Nat → Option α) → Option α
  | n, [], k => k n
  | n, _ :: l, k => nextK (n + 1) l k
theorem a_box {nm : Nat} {ty : TypeId} {x : Operand} {dx : Dt} {cs : List Dt} (ho : o.op = .box ty x) (_hnm : nextK 0 b some = some nm) (hx : ev (kv s) x = some dx) (hk : okCells dx = true) (hcs : cellsK dx some = some cs) (hg : gd l0 o (kv s) = some true) (hd : o.dst = some t) (hl : Nat.blt t Γ.n = true) (hf : kv b nm = none) (h : AOps P Γ l0 Q l ⟨(t, .ptr nm 0) :: s, (nm, cs) :: b, g⟩) : AOps P Γ l0 Q (o :: l) ⟨s, b, g⟩ :=
  a_b (box_step nm ho hx hk hcs) hg hd hl hf h
theorem a_new (hT : TabOk P T) {nm : Nat} {ty : TypeId} {i : TI} {cs : List Dt} (ho : o.op = .alloc ty) (_hnm : nextK 0 b some = some nm) (ht : T ty = some i) (hk : okCells (constD i.zero) = true) (hcs : constK i.zero (fun d => cellsK d some) = some cs) (hg : gd l0 o (kv s) = some true) (hd : o.dst = some t) (hl : Nat.blt t Γ.n = true) (hf : kv b nm = none) (h : AOps P Γ l0 Q l ⟨(t, .ptr nm 0) :: s, (nm, cs) :: b, g⟩) : AOps P Γ l0 Q (o :: l) ⟨s, b, g⟩ :=
  a_b (alloc_step hT nm ho ht hk hcs) hg hd hl hf h
theorem a_ax (hT : TabOk P T) (hq : ax T (kv s) (kv b) o.op = some d) (hg : gd l0 o (kv s) = some true) (hd : o.dst = some t) (hl : Nat.blt t Γ.n = true) (h : AOps P Γ l0 Q l ⟨(t, d) :: s, b, g⟩) : AOps P Γ l0 Q (o :: l) ⟨s, b, g⟩ := a_q (ax_step hT hq) hg hd hl h
theorem a_skip (hg : gd l0 o (kv s) = some false) (hd : o.dst = some t) (hl : Nat.blt t Γ.n = true) (h : AOps P Γ l0 Q l ⟨(t, .p (.raw undef)) :: s, b, g⟩) : AOps P Γ l0 Q (o :: l) ⟨s, b, g⟩ :=
  aops_skip (σ := ⟨s, b, g⟩) hg (dst_lt hd hl) (by rw [hd]; exact h)
theorem a_store (hT : TabOk P T) {ty : TypeId} {x y : Operand} {nm of : Nat} {cs cs' : List Dt} {dy : Dt} {i : TI} (ho : o.op = .store ty x y) (hd : o.dst = none) (ht : T ty = some i) (hx : ev (kv s) x = some (.ptr nm of)) (hb : kv b nm = some cs) (hy : ev (kv s) y = some dy)
    (hl : leaves dy = true) (hsz : Nat.beq dy.cells.length i.sz = true) (hst : storeK cs of dy some = some cs') (hg : gd l0 o (kv s) = some true) (h : AOps P Γ l0 Q l ⟨s, (nm, cs') :: b, g⟩) : AOps P Γ l0 Q (o :: l) ⟨s, b, g⟩ := by
  obtain ⟨h1, h2⟩ := storeK_some hst
  cases h2
  exact aops_step (σ := ⟨s, b, g⟩) hg (store_step hT ho hd ht hx hb hy hl (Nat.eq_of_beq_eq_true hsz) h1) h
theorem a_append (hT : TabOk P T) {ty : TypeId} {x y : Operand} {gn n m el z1 z2 : Nat} {z3 : Value} {ps qs : List Pl} {dy : Dt} {i : TI} (ho : o.op = .call { callee := .builtin .append, args := #[x, y], argTypes := #[ty, ty] }) (ht : T ty = some ⟨.slice el, z1, z2, z3⟩) (hel : T el = some i) (hzs : Nat.beq i.zero.cells.size i.sz = true) (hszp : Nat.blt 0 i.sz = true)
    (hg : gd l0 o (kv s) = some true) (hd : o.dst = some t) (hl : Nat.blt t Γ.n = true) (hx : ev (kv s) x = some (.tip gn n ps)) (hgr : kv g gn = some ⟨el, i.sz, n⟩) (hy : ev (kv s) y = some dy) (hdy : slOf dy = some (m, qs)) (hqs : qs.length = m * i.sz)
    (h63 : n + m ≤ maxLen) (hby : (n + m) * i.bytes ≤ 140737488355328) (h : AOps P Γ l0 Q l ⟨(t, .tip gn (n + m) (ps ++ qs)) :: s, b, (gn, ⟨el, i.sz, n + m⟩) :: g⟩) : AOps P Γ l0 Q (o :: l) ⟨s, b, g⟩ :=
  aops_step (σ := ⟨s, b, g⟩) hg (append_step hT ho ht hel (Nat.eq_of_beq_eq_true hzs) (by simpa [Nat.blt_eq] using hszp) (dst_lt hd hl) hx hgr hy hdy hqs h63 hby) (by rw [hd]; exact h)
variable {n : Nat} {B B0 : List (Nat × List Dt)}
variable {D : List Nat} {L : List (Nat × Nat)}
theorem r_q (hq : QStep P o (kv s) (kv B) d none) (hg : gd l0 o (kv s) = some true) (hd : o.dst = some t) (h : QRun P n l0 B B0 K D L l ⟨(t, d) :: s, b, g⟩) : QRun P n l0 B B0 K D L (o :: l) ⟨s, b, g⟩ :=
  .inl ⟨d, none, hg, .inl hq, fun p hp => (by cases hp), by rw [hd]; exact h⟩
theorem r_b {nm : Nat} {cs : List Dt} (hq : QStep P o (kv s) (kv B) d (some (nm, cs))) (hg : gd l0 o (kv s) = some true) (hd : o.dst = some t) (hf : kv b nm = none) (hf2 : kv B nm = none) (h : QRun P n l0 B B0 K D L l ⟨(t, d) :: s, (nm, cs) :: b, g⟩) : QRun P n l0 B B0 K D L (o :: l) ⟨s, b, g⟩ :=
  .inl ⟨d, some (nm, cs), hg, .inl hq, fun p hp => (by cases hp; exact ⟨hf, hf2⟩), by rw [hd]; exact h⟩
theorem r_box {nm : Nat} {ty : TypeId} {x : Operand} {dx : Dt} {cs : List Dt} (ho : o.op = .box ty x) (_hnm : nextK 0 b some = some nm) (hx : ev (kv s) x = some dx) (hk : okCells dx = true) (hcs : cellsK dx some = some cs) (hg : gd l0 o (kv s) = some true) (hd : o.dst = some t) (hf : kv b nm = none) (hf2 : kv B nm = none) (h : QRun P n l0 B B0 K D L l ⟨(t, .ptr nm 0) :: s, (nm, cs) :: b, g⟩) : QRun P n l0 B B0 K D L (o :: l) ⟨s, b, g⟩ :=
  r_b (box_step nm ho hx hk hcs) hg hd hf hf2 h
theorem r_new (hT : TabOk P T) {nm : Nat} {ty : TypeId} {i : TI} {cs : List Dt} (ho : o.op = .alloc ty) (_hnm : nextK 0 b some = some nm) (ht : T ty = some i) (hk : okCells (constD i.zero) = true) (hcs : constK i.zero (fun d => cellsK d some) = some cs) (hg : gd l0 o (kv s) = some true) (hd : o.dst = some t) (hf : kv b nm = none) (hf2 : kv B nm = none) (h : QRun P n l0 B B0 K D L l ⟨(t, .ptr nm 0) :: s, (nm, cs) :: b, g⟩) : QRun P n l0 B B0 K D L (o :: l) ⟨s, b, g⟩ :=
  r_b (alloc_step hT nm ho ht hk hcs) hg hd hf hf2 h
theorem r_ax (hT : TabOk P T) (hq : ax T (kv s) (kv B) o.op = some d) (hg : gd l0 o (kv s) = some true) (hd : o.dst = some t) (h : QRun P n l0 B B0 K D L l ⟨(t, d) :: s, b, g⟩) : QRun P n l0 B B0 K D L (o :: l) ⟨s, b, g⟩ := r_q (ax_step hT hq) hg hd h
/-- One that is ahead of all that write sees all. -/
theorem r_ea (hT : TabOk P T) (hq : ax T (kv s) (kv B0) o.op = some d) (hg : gd l0 o (kv s) = some true) (hd : o.dst = some t) (he : earlyB l0 o = true) (h : QRun P n l0 B B0 K D L l ⟨(t, d) :: s, b, g⟩) : QRun P n l0 B B0 K D L (o :: l) ⟨s, b, g⟩ :=
  .inl ⟨d, none, hg, .inr ⟨he, ax_step hT hq⟩, fun p hp => (by cases hp), by rw [hd]; exact h⟩
theorem r_skip (hg : gd l0 o (kv s) = some false) (hd : o.dst = some t) (h : QRun P n l0 B B0 K D L l ⟨(t, .p (.raw undef)) :: s, b, g⟩) : QRun P n l0 B B0 K D L (o :: l) ⟨s, b, g⟩ :=
  .inr (.inl ⟨hg, by rw [hd]; exact h⟩)
theorem r_nil (h : K ⟨s, b, g⟩) : QRun P n l0 B B0 K D L [] ⟨s, b, g⟩ := h

theorem setRow_upost {e : Env} (hok : EnvOk Γ e) {nm k : Nat} {vs us : List Value} {el : TypeId} {cs : List Dt} (hb : e.bx nm = some k) (hk : e.w.heap[k]? = some (.cells vs.toArray el (0, 0))) (hr : DReps e us cs) : UPost Γ e { e with w := e.w.setRow k us.toArray } nm cs := by
  obtain ⟨h1, h2, h3, h4⟩ := hok.bx nm k hb
  have hoth : ∀ j, j ≠ k → (e.w.setRow k us.toArray).heap[j]? = e.w.heap[j]? := fun j hj => setRow_other e.w k j _ hj
  have hE : Ends e { e with w := e.w.setRow k us.toArray } := by
    refine ⟨fun b' o v hcl hv => ?_, fun _ _ h => h, fun _ G h => ⟨G, h, rfl, rfl, Nat.le_refl _⟩, fun j g G cur h5 h6 h7 => ⟨h5, cur, ?_, rfl⟩⟩
    · have hne : b' ≠ k := fun e' => by subst e'; exact absurd (hcl 0 h3) (by omega)
      exact ⟨hcl, by show (e.w.setRow k us.toArray).cell? _ = _; rw [World.cell?_of_block (w := e.w) (hoth b' hne)]; exact hv⟩
    · show (e.w.setRow k us.toArray).heap[j]? = _
      rw [hoth j (fun e' => by subst e'; rw [h4] at h5; cases h5)]; exact h7
  refine ⟨hE, ?_, rfl, rfl, ⟨k, us, el, hb, block_setRow hk, hr.next hE⟩, fun c ds hne hbx => ?_⟩
  · refine ⟨⟨hok.kept.os, hok.kept.tape, hok.kept.output, by show _ ≤ (e.w.setRow k us.toArray).heap.size; rw [setRow_size]; exact hok.kept.size, fun j hj ho => ?_⟩, hok.cl, fun b' j hj => ?_, hok.inj, fun j g hg => ?_, hok.kb⟩
    · show (e.w.setRow k us.toArray).heap[j]? = _
      rw [hoth j (fun e' => by subst e'; rcases h2 with h2 | h2 <;> first | omega | exact ho h2)]; exact hok.kept.block j hj ho
    · obtain ⟨h5, h6, h7, h8⟩ := hok.bx b' j hj
      exact ⟨by show j < (e.w.setRow k us.toArray).heap.size; rw [setRow_size]; exact h5, h6, h7, h8⟩
    · obtain ⟨G, cur, h5, h6, h7, h8, h9⟩ := hok.gr j g hg
      refine ⟨G, cur, h5, by show j < (e.w.setRow k us.toArray).heap.size; rw [setRow_size]; exact h6, h7, h8, ?_⟩
      show (e.w.setRow k us.toArray).heap[j]? = _
      rw [hoth j (fun e' => by subst e'; rw [h4] at hg; cases hg)]; exact h9
  · obtain ⟨k', vs', el', h5, h6, h7⟩ := hbx
    refine ⟨k', vs', el', h5, ?_, h7.next hE⟩
    show (e.w.setRow k us.toArray).heap[k']? = _
    rw [hoth k' (fun e' => hne (by subst e'; exact hok.inj _ _ _ h5 hb))]; exact h6

theorem store_sstep (hT : TabOk P T) {S : Nat → Option Dt} {ty : TypeId} {x y : Operand} {nm of : Nat} {cs cs' : List Dt} {dy : Dt} {i : TI} (ho : o.op = .store ty x y) (hd : o.dst = none) (ht : T ty = some i) (hx : ev S x = some (.ptr nm of)) (hy : ev S y = some dy)
    (hl : leaves dy = true) (hsz : Nat.beq dy.cells.length i.sz = true) (hst : storeK cs of dy some = some cs') : SStep P o S nm cs cs' := by
  intro Γ a e hok hs hbx
  obtain ⟨hfit, hst⟩ := storeK_some hst
  cases hst
  have h1 := hs x (by rw [ho]; simp [Op.operands]) _ hx
  have h2 := hs y (by rw [ho]; simp [Op.operands]) _ hy
  have hk : okCells dy = true := by cases dy <;> first | exact hl | rfl
  have hr := okCells_rep h2 hk
  generalize hev : a.eval x = vx at h1
  cases h1 with
  | ptr h1 =>
    refine ⟨by rw [h1]; simp, ?_⟩
    obtain ⟨k, vs, el, h3, h4, h5⟩ := hbx (by rw [h1]; simp)
    rename_i k0
    obtain rfl : k = k0 := by rw [h3] at h1; cases h1; rfl
    have hsz' := Nat.eq_of_beq_eq_true hsz
    have hlen : (a.eval y).cells.size = i.sz := by have := hr.1; simp at this; omega
    have hstc := run_storeCells_at P k of el (a.eval y).cells.toList 0 vs.toArray e.w h4 (by have := hr.1; have := h5.1; simp at *; omega) (leaves_cells h2 hl)
    unfold Oper.wp
    have e1 : (execOp a.eval o).run P e.w = .ok .skip (e.w.setRow k (vs.take of ++ (a.eval y).cells.toList ++ vs.drop (of + (a.eval y).cells.toList.length)).toArray) := by
      obtain ⟨dst, op, type, pos, after, guard⟩ := o
      simp only at ho
      subst ho
      simp only [Nat.add_zero] at hstc
      simp [execOp, Instr.storeAt, Instr.sureAddr, hev, storeVar, run_sizeOf hT ht, hlen, hstc]
    rw [e1]
    refine ⟨rfl, _, rfl, setRow_upost hok h3 h4 ?_⟩
    unfold stored
    rw [hr.1]
    exact ((h5.take of).append hr).append (h5.drop _)

theorem r_store (hT : TabOk P T) {ty : TypeId} {x y : Operand} {nm of : Nat} {cs cs' : List Dt} {dy : Dt} {i : TI} (ho : o.op = .store ty x y) (hd : o.dst = none) (ht : T ty = some i) (hx : ev (kv s) x = some (.ptr nm of)) (hb : kv b nm = some cs) (hy : ev (kv s) y = some dy)
    (hl : leaves dy = true) (hsz : Nat.beq dy.cells.length i.sz = true) (hst : storeK cs of dy some = some cs') (hg : gd l0 o (kv s) = some true) (hB : kv B nm = none) (hD : D.contains nm = false) (h : QRun P n l0 B B0 K (nm :: D) L l ⟨s, (nm, cs') :: b, g⟩) : QRun P n l0 B B0 K D L (o :: l) ⟨s, b, g⟩ :=
  .inr (.inr (.inl ⟨nm, cs, cs', hg, hd, hB, hD, hb, store_sstep hT ho hd ht hx hy hl hsz hst, h⟩))

theorem More.post {e : Env} {w : World} {gn : Nat} {G G0 : Gr} {k : Option Nat} {v : Value} {d : Dt} (h : More e w gn G k) (hok : EnvOk Γ e) (hg : e.gi gn = some G0) (hel : G.el = G0.el) (hsz : G.sz = G0.sz) (hlen : G0.len ≤ G.len) (hr : DRep (e.more w gn G k) v d) : GPost Γ e (e.more w gn G k) gn G v d :=
  ⟨h.ends hok hg hel hsz hlen, h.ok hok hg hel, rfl, fun _ => rfl, fun _ _ hb => h.box hok hg hel hsz hlen hb, hr⟩

theorem gstep_append (hT : TabOk P T) {S : Nat → Option Dt} {ty : TypeId} {x y : Operand} {gn n m el z1 z2 : Nat} {z3 : Value} {ps qs : List Pl} {dy : Dt} {i : TI} (ho : o.op = .call { callee := .builtin .append, args := #[x, y], argTypes := #[ty, ty] }) (ht : T ty = some ⟨.slice el, z1, z2, z3⟩) (hel : T el = some i) (hzs : Nat.beq i.zero.cells.size i.sz = true) (hszp : Nat.blt 0 i.sz = true)
    (hx : ev S x = some (.tip gn n ps)) (hy : ev S y = some dy) (hdy : slOf dy = some (m, qs)) (hqs : qs.length = m * i.sz) (h63 : n + m ≤ maxLen) (hby : (n + m) * i.bytes ≤ 140737488355328) : GStep P o S gn (some ⟨el, i.sz, n⟩) ⟨el, i.sz, n + m⟩ (.tip gn (n + m) (ps ++ qs)) := by
  intro Γ a e hok hs hgi
  have hx1 := hs x (by rw [ho]; simp [Op.operands, Call.operands]) _ hx
  have hy1 := slOf_rep (hs y (by rw [ho]; simp [Op.operands, Call.operands]) _ hy) hdy
  obtain ⟨v, w', k, hrun, hmore, hrep⟩ := append_core hT hok (ty := o.type) ht hel (Nat.eq_of_beq_eq_true hzs) (by simpa [Nat.blt_eq] using hszp) hx1 hgi hy1 hqs h63 hby
  unfold Oper.wp
  have e1 : (execOp a.eval o).run P e.w = .ok (.value v) w' := by
    obtain ⟨dst, op, type, pos, after, guard⟩ := o
    simp only at ho
    subst ho
    simp only [execOp, resolve, invoke, builtin, Sem.run_bind, Sem.run_pure, Result.andThen_ok, List.map_toArray, List.map_cons, List.map_nil, hrun]
  rw [e1]
  exact ⟨v, _, rfl, rfl, hmore.post hok hgi rfl rfl (by simp) hrep⟩

/-- A group without rows. -/
theorem EnvOk.group {e : Env} (hok : EnvOk Γ e) {gn : Nat} (hgi : e.gi gn = none) (G : Gr) : EnvOk Γ { e with gi := fun h => if h = gn then some G else e.gi h } ∧ Ends e { e with gi := fun h => if h = gn then some G else e.gi h } := by
  have hng : ∀ k, e.gr k ≠ some gn := fun k hk => by obtain ⟨G, _, h, _⟩ := hok.gr k gn hk; rw [hgi] at h; cases h
  refine ⟨⟨hok.kept, hok.cl, hok.bx, hok.inj, fun k g' hk => ?_, hok.kb⟩, ⟨fun _ _ _ h1 h2 => ⟨h1, h2⟩, fun _ _ h => h, fun g' G' h => ⟨G', ?_, rfl, rfl, Nat.le_refl _⟩, fun _ _ _ cur h1 _ h3 => ⟨h1, cur, h3, rfl⟩⟩⟩
  · obtain ⟨G', cur, h1, h2⟩ := hok.gr k g' hk
    exact ⟨G', cur, by show (if g' = gn then _ else e.gi g') = _; rw [if_neg (fun e' => hng k (by rw [← e']; exact hk))]; exact h1, h2⟩
  · show (if g' = gn then _ else e.gi g') = _
    rw [if_neg (fun e' => by rw [e', hgi] at h; cases h)]; exact h

theorem gstep_new (hT : TabOk P T) {S : Nat → Option Dt} {ty : TypeId} {x y : Operand} (gn : Nat) {n m el z1 z2 : Nat} {z3 : Value} {ps qs : List Pl} {dy : Dt} {i : TI} (ho : o.op = .call { callee := .builtin .append, args := #[x, y], argTypes := #[ty, ty] }) (ht : T ty = some ⟨.slice el, z1, z2, z3⟩) (hel : T el = some i) (hzs : Nat.beq i.zero.cells.size i.sz = true) (hszp : Nat.blt 0 i.sz = true)
    (hx : ev S x = some (.p (.sl true n ps))) (hps : ps.length = n * i.sz) (hy : ev S y = some dy) (hdy : slOf dy = some (m, qs)) (hqs : qs.length = m * i.sz) (h63 : n + m ≤ maxLen) (hby : (n + m) * i.bytes ≤ 140737488355328) : GStep P o S gn none ⟨el, i.sz, n + m⟩ (.tip gn (n + m) (ps ++ qs)) := by
  intro Γ a e hok hs hgi
  have hx1 := hs x (by rw [ho]; simp [Op.operands, Call.operands]) _ hx
  have hy1 := slOf_rep (hs y (by rw [ho]; simp [Op.operands, Call.operands]) _ hy) hdy
  obtain ⟨hok1, hE1⟩ := hok.group hgi ⟨el, i.sz, n⟩
  have hx2 : DRep { e with gi := fun h => if h = gn then some ⟨el, i.sz, n⟩ else e.gi h } (a.eval x) (.tip gn n ps) := by
    generalize a.eval x = vx at hx1
    cases hx1 with
    | p h =>
      have h2 := (h.next hE1).low
      obtain ⟨A, cap, hv, _, _, _, h6, _⟩ := sl_open h
      exact .tip h2 ⟨⟨el, i.sz, n⟩, A, cap, by simp, hv, Nat.le_refl _, hps, .inl (h6 rfl)⟩
  obtain ⟨v, w', k, hrun, hmore, hrep⟩ := append_core hT hok1 (ty := o.type) ht hel (Nat.eq_of_beq_eq_true hzs) (by simpa [Nat.blt_eq] using hszp) hx2 (by simp) (hy1.next hE1) hqs h63 hby
  have hpost := hmore.post hok1 (G0 := ⟨el, i.sz, n⟩) (by simp) rfl rfl (by simp) hrep
  unfold Oper.wp
  have e1 : (execOp a.eval o).run P e.w = .ok (.value v) w' := by
    obtain ⟨dst, op, type, pos, after, guard⟩ := o
    simp only at ho
    subst ho
    simp only [execOp, resolve, invoke, builtin, Sem.run_bind, Sem.run_pure, Result.andThen_ok, List.map_toArray, List.map_cons, List.map_nil, hrun]
  rw [e1]
  refine ⟨v, _, rfl, rfl, ⟨hE1.trans hpost.ends, hpost.ok, hpost.bx, fun h => ?_, fun c ds hb => hpost.other c ds (hb.ends hE1 rfl), hpost.rep⟩⟩
  rw [hpost.gi]
  by_cases e' : h = gn
  · simp [e']
  · simp [e']

theorem r_append (hT : TabOk P T) {ty : TypeId} {x y : Operand} {gn n' m el z1 z2 : Nat} {z3 : Value} {ps qs : List Pl} {dy : Dt} {i : TI} (ho : o.op = .call { callee := .builtin .append, args := #[x, y], argTypes := #[ty, ty] }) (ht : T ty = some ⟨.slice el, z1, z2, z3⟩) (hel : T el = some i) (hzs : Nat.beq i.zero.cells.size i.sz = true) (hszp : Nat.blt 0 i.sz = true)
    (hg : gd l0 o (kv s) = some true) (hd : o.dst = some t) (hx : ev (kv s) x = some (.tip gn n' ps)) (hgr : kv g gn = some ⟨el, i.sz, n'⟩) (hL : looksB o L gn = true) (hy : ev (kv s) y = some dy) (hdy : slOf dy = some (m, qs)) (hqs : qs.length = m * i.sz)
    (h63 : n' + m ≤ maxLen) (hby : (n' + m) * i.bytes ≤ 140737488355328) (h : QRun P n l0 B B0 K D ((gn, t) :: L) l ⟨(t, .tip gn (n' + m) (ps ++ qs)) :: s, b, (gn, ⟨el, i.sz, n' + m⟩) :: g⟩) : QRun P n l0 B B0 K D L (o :: l) ⟨s, b, g⟩ :=
  .inr (.inr (.inr ⟨gn, _, _, t, hg, hd, hL, by rw [hgr]; exact gstep_append hT ho ht hel hzs hszp hx hy hdy hqs h63 hby, by rw [hd]; exact h⟩))
theorem r_appendx (hT : TabOk P T) {ty : TypeId} {x y : Operand} (gn : Nat) {n' m el z1 z2 : Nat} {z3 : Value} {ps qs : List Pl} {dy : Dt} {i : TI} (ho : o.op = .call { callee := .builtin .append, args := #[x, y], argTypes := #[ty, ty] }) (ht : T ty = some ⟨.slice el, z1, z2, z3⟩) (hel : T el = some i) (hzs : Nat.beq i.zero.cells.size i.sz = true) (hszp : Nat.blt 0 i.sz = true)
    (hg : gd l0 o (kv s) = some true) (hd : o.dst = some t) (hx : ev (kv s) x = some (.p (.sl true n' ps))) (hps : ps.length = n' * i.sz) (hgr : kv g gn = none) (hL : looksB o L gn = true) (hy : ev (kv s) y = some dy) (hdy : slOf dy = some (m, qs)) (hqs : qs.length = m * i.sz)
    (h63 : n' + m ≤ maxLen) (hby : (n' + m) * i.bytes ≤ 140737488355328) (h : QRun P n l0 B B0 K D ((gn, t) :: L) l ⟨(t, .tip gn (n' + m) (ps ++ qs)) :: s, b, (gn, ⟨el, i.sz, n' + m⟩) :: g⟩) : QRun P n l0 B B0 K D L (o :: l) ⟨s, b, g⟩ :=
  .inr (.inr (.inr ⟨gn, _, _, t, hg, hd, hL, by rw [hgr]; exact gstep_new hT gn ho ht hel hzs hszp hx hps hy hdy hqs h63 hby, by rw [hd]; exact h⟩))

/-- The variables that may be read. -/
def visK {α : Type} : List Nat → List (Nat × List Dt) → (List (Nat × List Dt) → Option α) → Option α
  | _, [], k => k []
  | ws, (m, cs) :: l, k => bif ws.contains m then visK ws l k else visK (m :: ws) l fun r => k ((m, cs) :: r)
theorem visK_sub {α : Type} : ∀ {l : List (Nat × List Dt)} {ws : List Nat} {k : List (Nat × List Dt) → Option α} {a : α}, visK ws l k = some a → ∃ B, k B = some a ∧ ∀ b cs, kv B b = some cs → kv l b = some cs ∧ b ∉ ws
  | [], ws, k, a, h => ⟨[], h, fun b cs hb => by cases hb⟩
  | (m, ds) :: l, ws, k, a, h => by
    simp only [visK] at h
    cases hc : ws.contains m
    · rw [hc] at h
      simp only [cond_false] at h
      obtain ⟨B, h1, h2⟩ := visK_sub h
      have hm : m ∉ ws := by simpa using hc
      refine ⟨(m, ds) :: B, h1, fun b cs hb => ?_⟩
      rw [lk_cons] at hb ⊢
      by_cases e : m = b
      · rw [if_pos e] at hb ⊢
        exact ⟨hb, by rw [← e]; exact hm⟩
      · rw [if_neg e] at hb ⊢
        obtain ⟨h3, h4⟩ := h2 b cs hb
        exact ⟨h3, fun h5 => h4 (List.mem_cons_of_mem _ h5)⟩
    · rw [hc] at h
      simp only [cond_true] at h
      obtain ⟨B, h1, h2⟩ := visK_sub h
      have hm : m ∈ ws := by simpa using hc
      refine ⟨B, h1, fun b cs hb => ?_⟩
      obtain ⟨h3, h4⟩ := h2 b cs hb
      rw [lk_cons, if_neg (fun e => h4 (by rw [← e]; exact hm))]
      exact ⟨h3, h4⟩

theorem visK_nodup {α : Type} : ∀ (m : List (Nat × List Dt)) (ws : List Nat) (k : List (Nat × List Dt) → Option α) (r : α), visK ws m k = some r → ∃ B, k B = some r ∧ (B.map (·.1)).Nodup ∧ (∀ b ∈ B.map (·.1), b ∉ ws) ∧ SubBx m B := by
  intro m
  induction m with
  | nil => intro ws k r h; exact ⟨[], h, by simp, fun b hb => by simp at hb, trivial⟩
  | cons p m ih =>
    intro ws k r h
    obtain ⟨q, ds⟩ := p
    have wid : ∀ (B : List (Nat × List Dt)), q ∉ B.map (·.1) → SubBx m B → SubBx ((q, ds) :: m) B := by
      intro B
      induction B with
      | nil => intro _ _; trivial
      | cons x B ihB =>
        intro hq hs
        simp only [List.map_cons, List.mem_cons, not_or] at hq
        exact ⟨by rw [lk_cons, if_neg hq.1]; exact hs.1, ihB hq.2 hs.2⟩
    simp only [visK] at h
    cases hc : ws.contains q
    · rw [hc] at h
      simp only [cond_false] at h
      obtain ⟨B, h5, h6, h7, h8⟩ := ih _ _ _ h
      have hq : q ∉ B.map (·.1) := fun hq => h7 q hq (by simp)
      refine ⟨(q, ds) :: B, h5, ?_, fun b hb => ?_, ⟨by rw [lk_cons]; simp, wid B hq h8⟩⟩
      · simp only [List.map_cons, List.nodup_cons]
        exact ⟨hq, h6⟩
      · simp only [List.map_cons, List.mem_cons] at hb
        rcases hb with rfl | hb
        · simpa using hc
        · exact fun h8 => h7 b hb (List.mem_cons_of_mem _ h8)
    · rw [hc] at h
      simp only [cond_true] at h
      obtain ⟨B, h5, h6, h7, h8⟩ := ih _ _ _ h
      have hm : q ∈ ws := by simpa using hc
      exact ⟨B, h5, h6, h7, wid B (fun hq => h7 q hq hm) h8⟩

/-- A region that draws its order: stores into the variables ws; a tail from operation k on. -/
theorem awp_region_w {σ : St} (k : Nat) (ws : List Nat) {id : Nat} {l l1 l2 : List Oper} {B : List (Nat × List Dt)} (hs : takeK k l (fun a => dropK k l fun b => some (a, b)) = some (l1, l2)) (hv : visK ws σ.b some = some B) (hm : P.follows .mixedOrders = true) (hB : relB l.toArray Γ.n = true) (hT : tail2B l.toArray k = true) (h : QRun P Γ.n l B σ.b (AOps P Γ l Q l2) [] [] l1 σ) : AWP P Γ (.region id l.toArray true) Q σ := by
  obtain ⟨h1, hs⟩ := takeK_some hs
  obtain ⟨h2, hs⟩ := dropK_some hs
  cases hs
  obtain ⟨B', h3, _, _, h4⟩ := visK_nodup _ _ _ _ hv
  cases h3
  refine awp_region_any B h4 (l.take k) (l.drop k) (List.take_append_drop k l).symm hm hB ?_ h
  rw [List.length_take, Nat.min_eq_left h1]
  exact hT
/-- A region that draws its order, with no tail: stores into the variables ws. -/
theorem awp_region_q {σ : St} (ws : List Nat) {id : Nat} {l : List Oper} {B : List (Nat × List Dt)} (hv : visK ws σ.b some = some B) (hm : P.follows .mixedOrders = true) (hB : relB l.toArray Γ.n = true) (h : QRun P Γ.n l B σ.b (Q .normal) [] [] l σ) : AWP P Γ (.region id l.toArray true) Q σ := by
  obtain ⟨B', h3, _, _, h4⟩ := visK_nodup _ _ _ _ hv
  cases h3
  refine awp_region_any B h4 l [] (by simp) hm hB ?_ ?_
  · unfold tail2B
    simp only [List.all_eq_true, List.mem_range, Bool.or_eq_true, decide_eq_true_eq]
    intro t ht
    left
    simpa using ht
  · have mono : ∀ (B0 : List (Nat × List Dt)) (l' : List Oper) (D : List Nat) (L : List (Nat × Nat)) (σ : St) (K K' : St → Prop), (∀ σ, K σ → K' σ) → QRun P Γ.n l B B0 K D L l' σ → QRun P Γ.n l B B0 K' D L l' σ := by
      intro B0 l'
      induction l' with
      | nil => intro D L σ K K' hk h; exact hk σ h
      | cons o l' ih =>
        intro D L σ K K' hk h
        rcases h with ⟨d, nb, h1, h2, h3, h4⟩ | ⟨h1, h2⟩ | ⟨nm, cs, cs', h1, h2, h3, h4, h5, h6, h7⟩ | ⟨g, G, d, t, h1, h2, h3, h4, h5⟩
        · exact .inl ⟨d, nb, h1, h2, h3, ih _ _ _ _ _ hk h4⟩
        · exact .inr (.inl ⟨h1, ih _ _ _ _ _ hk h2⟩)
        · exact .inr (.inr (.inl ⟨nm, cs, cs', h1, h2, h3, h4, h5, h6, ih _ _ _ _ _ hk h7⟩))
        · exact .inr (.inr (.inr ⟨g, G, d, t, h1, h2, h3, h4, ih _ _ _ _ _ hk h5⟩))
    exact mono σ.b l [] [] σ _ _ (fun σ' h' => aops_nil h') h
end

variable {S : Nat → Option Dt} {B : Nat → Option (List Dt)} {o : Oper}

/-- Cells put over others. -/
def overD (cs : List Dt) (off : Nat) (ds : List Dt) : List Dt := cs.take off ++ ds ++ cs.drop (off + ds.length)
def overK {α : Type} (cs : List Dt) (off : Nat) (ds : List Dt) (k : List Dt → Option α) : Option α :=
  takeK off cs fun a => dropK off cs fun b => dropK ds.length b fun c => appK ds c fun r => appK a r k
theorem overK_some {α : Type} {cs : List Dt} {off : Nat} {ds : List Dt} {k : List Dt → Option α} {r : α} (h : overK cs off ds k = some r) : off + ds.length ≤ cs.length ∧ k (overD cs off ds) = some r := by
  unfold overK at h
  obtain ⟨h1, h⟩ := takeK_some h
  obtain ⟨h2, h⟩ := dropK_some h
  obtain ⟨h3, h⟩ := dropK_some h
  rw [appK_eq, appK_eq] at h
  refine ⟨by simp at h3; omega, ?_⟩
  unfold overD
  rw [List.append_assoc]
  rw [List.drop_drop] at h
  exact h
def fillD (place : Nat → Option (Nat × Nat)) : List Dt → List (Nat × Dt) → Option (List Dt)
  | cs, [] => some cs
  | cs, (i, d) :: rest => match place i with
    | some (off, sz) => bif okCells d && Nat.beq d.cells.length sz then cellsK d fun ds => overK cs off ds fun r => fillD place r rest else none
    | none => none

theorem foldl_set (us : List Value) : ∀ (k off : Nat) (cs : Array Value), off + k + us.length ≤ cs.size → ((us.zipIdx k).foldl (fun cs (c, j) => cs.setIfInBounds (off + j) c) cs).toList = cs.toList.take (off + k) ++ us ++ cs.toList.drop (off + k + us.length) := by
  induction us with
  | nil => intro k off cs h; simp
  | cons u us ih =>
    intro k off cs h
    rw [List.zipIdx_cons, List.foldl_cons]
    simp only [List.length_cons] at h
    rw [ih (k + 1) off _ (by simp; omega)]
    have hk : off + k < cs.toList.length := by simp; omega
    apply List.ext_getElem?
    intro j
    simp only [Array.toList_setIfInBounds, List.length_cons]
    rcases Nat.lt_trichotomy j (off + k) with h1 | h1 | h1
    · rw [List.append_assoc, List.append_assoc, List.getElem?_append_left (by simp; omega), List.getElem?_append_left (by simp; omega), List.getElem?_take, List.getElem?_take, if_pos (by omega), if_pos h1, List.getElem?_set_ne (by omega)]
    · subst h1
      rw [List.append_assoc, List.append_assoc, List.getElem?_append_left (by simp; omega), List.getElem?_append_right (by simp; omega), List.getElem?_take, if_pos (by omega)]
      simp only [List.length_take, Array.length_toList]
      rw [show off + k - min (off + k) cs.size = 0 by simp at hk; omega]
      rw [List.getElem?_set_self hk]
      rfl
    · rw [List.append_assoc, List.append_assoc]
      rcases Nat.lt_or_ge j (off + k + 1 + us.length) with h2 | h2
      · rw [List.getElem?_append_right (by simp; omega), List.getElem?_append_left (by simp; omega), List.getElem?_append_right (by simp; omega)]
        simp only [List.length_take, List.length_set, Array.length_toList]
        simp only [Array.length_toList] at hk
        rw [show min (off + (k + 1)) cs.size = off + k + 1 by omega, show min (off + k) cs.size = off + k by omega, show j - (off + k) = (j - (off + k + 1)) + 1 by omega]
        simp only [List.cons_append, List.getElem?_cons_succ]
        rw [List.getElem?_append_left (by omega)]
      · rw [List.getElem?_append_right (by simp; omega), List.getElem?_append_right (by simp; omega), List.getElem?_append_right (by simp; omega), List.getElem?_append_right (by simp; omega)]
        simp only [List.length_take, List.length_set, Array.length_toList, List.length_cons, List.getElem?_drop]
        simp only [Array.length_toList] at hk
        rw [List.getElem?_set_ne (by omega)]
        congr 1
        omega

def PairReps (e : Env) : List (Nat × Value) → List (Nat × Dt) → Prop
  | [], _ => True
  | (_, v) :: l, (_, d) :: m => DRep e v d ∧ PairReps e l m
  | _ :: _, [] => False
theorem fill_rep {e : Env} (place : Nat → Option (Nat × Nat)) : ∀ (parts : List (Nat × Value)) (pds : List (Nat × Dt)) (cells : Array Value) (cs res : List Dt), DReps e cells.toList cs → parts.map (·.1) = pds.map (·.1) → PairReps e parts pds → fillD place cs pds = some res → ∃ cells', Instr.fill place cells parts = some cells' ∧ DReps e cells'.toList res
  | [], pds, cells, cs, res, hr, hm, _, h => by
    have : pds = [] := by simpa using hm.symm
    subst this
    simp only [fillD, Option.some.injEq] at h
    subst h
    exact ⟨cells, rfl, hr⟩
  | (i, v) :: parts, [], cells, cs, res, hr, hm, _, h => by simp at hm
  | (i, v) :: parts, (j, d) :: pds, cells, cs, res, hr, hm, hd, h => by
    simp only [List.map_cons, List.cons.injEq] at hm
    obtain ⟨rfl, hm⟩ := hm
    simp only [fillD] at h
    split at h
    · rename_i off sz hp
      cases hb : (okCells d && Nat.beq d.cells.length sz)
      · rw [hb] at h; cases h
      · rw [hb] at h
        simp only [cond_true, cellsK_eq] at h
        obtain ⟨h3', h⟩ := overK_some h
        simp only [Bool.and_eq_true] at hb
        obtain ⟨h1, h2⟩ := hb
        have h2' := Nat.eq_of_beq_eq_true h2
        have hv := okCells_rep hd.1 h1
        have hvl : v.cells.size = sz := by have := hv.1; simp at this; omega
        have hcl : cells.size = cs.length := by have := hr.1; simpa using this
        have hfold := foldl_set v.cells.toList 0 off cells (by simp; omega)
        have hz : (v.cells.zipIdx.foldl (fun cs (c, j) => cs.setIfInBounds (off + j) c) cells).toList = cells.toList.take off ++ v.cells.toList ++ cells.toList.drop (off + v.cells.toList.length) := by
          simp only [Nat.add_zero] at hfold
          rw [← hfold, ← Array.foldl_toList, Array.toList_zipIdx]
        have hnew : DReps e (v.cells.zipIdx.foldl (fun cs (c, j) => cs.setIfInBounds (off + j) c) cells).toList (overD cs off d.cells) := by
          rw [hz, overD, hv.1]
          exact ((hr.take off).append hv).append (hr.drop _)
        obtain ⟨cells', h5, h6⟩ := fill_rep place parts pds _ _ res hnew hm hd.2 h
        refine ⟨cells', ?_, h6⟩
        unfold Instr.fill
        rw [hp]
        simp only [hvl]
        rw [if_neg (by simp; omega)]
        exact h5
    · cases h

def evParts {α : Type} (S : Nat → Option Dt) : List (Nat × Operand) → (List (Nat × Dt) → Option α) → Option α
  | [], k => k []
  | (i, x) :: l, k => match ev S x with
    | some d => evParts S l fun ds => k ((i, d) :: ds)
    | none => none
theorem evParts_rep {α : Type} {e : Env} {a : Act} : ∀ (l : List (Nat × Operand)) (k : List (Nat × Dt) → Option α) (r : α), (∀ x ∈ l.map (·.2), ∀ d, ev S x = some d → DRep e (a.eval x) d) → evParts S l k = some r → ∃ ds, (l.map fun p => (p.1, a.eval p.2)).map (·.1) = ds.map (·.1) ∧ PairReps e (l.map fun p => (p.1, a.eval p.2)) ds ∧ k ds = some r
  | [], k, r, _, h => ⟨[], rfl, trivial, h⟩
  | (i, x) :: l, k, r, hs, h => by
    simp only [evParts] at h
    split at h
    · rename_i d h1
      obtain ⟨ds, h3, h4, h5⟩ := evParts_rep l _ r (fun y hy => hs y (by simp at hy ⊢; exact .inr hy)) h
      exact ⟨(i, d) :: ds, by simp only [List.map_cons] at h3 ⊢; rw [h3], ⟨hs x (by simp) d h1, h4⟩, h5⟩
    · cases h

def buildD (T : Nat → Option TI) (t : TypeId) (ds : List (Nat × Dt)) : Option Dt := match T t with
  | some ⟨.struct fs, _, _, z⟩ => bif fs.all (fun f => Nat.blt 0 f.2.2) then (match constK z (fun c => cellsK c fun cs => fillD (fun i => (fs[i]?).map fun f => (f.2.1, f.2.2)) cs ds) with
    | some cs => some (.agg cs)
    | none => none) else none
  | some ⟨.array _ el, _, _, z⟩ => match T el with
    | some j => match constK z (fun c => cellsK c fun cs => fillD (fun i => some (i * j.sz, j.sz)) cs ds) with
      | some cs => some (.agg cs)
      | none => none
    | none => none
  | _ => none

theorem array_mapM_run {P : Program} {w : World} {α β : Type} (f : α → Sem β) (g : α → β) (l : Array α) (h : ∀ x ∈ l.toList, (f x).run P w = .ok (g x) w) : (l.mapM f).run P w = .ok (l.map g) w := by
  rw [Array.mapM_eq_mapM_toList]
  have := mapM_run f g l.toList h
  simp only [map_eq_pure_bind, Sem.run_bind, this, Result.andThen_ok, Sem.run_pure]
  congr 1
  apply Array.ext'
  simp

theorem build_step (hT : TabOk P T) {t : TypeId} {parts : Array (Nat × Operand)} {d : Dt} (ho : o.op = .build t parts) (hp : evParts S parts.toList (buildD T t) = some d) (hz : (match T t with | some i => okCells (constD i.zero) | none => false) = true) : QStep P o S B d none := by
  refine qstep_run fun a e hs => ?_
  obtain ⟨ds, h1, h2, hd⟩ := evParts_rep (e := e) (a := a) parts.toList _ d (fun x hx => hs.1 x (by rw [ho]; simp only [Op.operands]; simpa using hx)) hp
  have hparts : (parts.map fun (i, x) => (i, a.eval x)).toList = parts.toList.map fun p => (p.1, a.eval p.2) := by simp
  unfold buildD at hd
  split at hd
  · rename_i fs z1 z2 z ht
    rw [ht] at hz
    cases hall : fs.all (fun f => Nat.blt 0 f.2.2)
    · rw [hall] at hd; cases hd
    rw [hall] at hd
    simp only [cond_true] at hd
    split at hd
    · rename_i cs hfill
      rw [constK_eq, cellsK_eq] at hfill
      cases hd
      obtain ⟨d0, hd0, hk⟩ := hT.desc t _ ht
      cases d0 <;> simp only [tkOf, TK.struct.injEq, reduceCtorEq] at hk
      rename_i fields
      have hzr := okCells_rep (constD_rep e z) hz
      obtain ⟨cells', h3, h4⟩ := fill_rep (e := e) _ _ ds z.cells (constD z).cells cs hzr h1 h2 hfill
      refine ⟨.agg cells', ?_, by have := DRep.agg (e := e) h4.1 h4.2; simpa using this⟩
      have hplaces : (fields.mapM fun f => do pure (f.offset, ← sizeOf f.type) : Sem (Array (Nat × Nat))).run P e.w = .ok (fields.map fun f => (f.offset, P.cellsOf f.type)) e.w := by
        refine array_mapM_run _ _ fields fun f hf => ?_
        have hf' : (f.type, f.offset, P.cellsOf f.type) ∈ fs := by rw [← hk]; exact List.mem_map.2 ⟨f, hf, rfl⟩
        have hpos := List.all_eq_true.1 hall _ hf'
        have hpos' : 0 < P.cellsOf f.type := by simpa [Nat.blt_eq] using hpos
        rcases hi : P.info? f.type with _ | i
        · simp [Program.cellsOf, hi] at hpos'
        · simp [sizeOf, typeInfo, hi, Program.cellsOf]
      have hpl : (fun i => (fields.map fun f => (f.offset, P.cellsOf f.type))[i]?) = fun (i : Nat) => (fs[i]?).map fun (f : TypeId × Nat × Nat) => (f.2.1, f.2.2) := by
        funext i
        rw [← hk]
        simp
        cases fields[i]? <;> rfl
      obtain ⟨dst, op, type, pos, after, guard⟩ := o
      simp only at ho
      subst ho
      have hzv : (zeroValue t).run P e.w = .ok z e.w := run_zeroValue hT ht e.w
      rw [← hpl] at h3
      simp only [execOp, Instr.build, Sem.run_bind, hzv, Result.andThen_ok, run_underlying hd0]
      rw [hplaces]
      simp only [Result.andThen_ok, hparts, h3, Sem.run_pure]
    · cases hd
  · rename_i n el z1 z2 z ht
    rw [ht] at hz
    split at hd
    · rename_i j hj
      split at hd
      · rename_i cs hfill
        rw [constK_eq, cellsK_eq] at hfill
        cases hd
        obtain ⟨d0, hd0, hk⟩ := hT.desc t _ ht
        cases d0 <;> simp only [tkOf, TK.array.injEq, reduceCtorEq] at hk
        have hzr := okCells_rep (constD_rep e z) hz
        obtain ⟨cells', h3, h4⟩ := fill_rep (e := e) _ _ ds z.cells (constD z).cells cs hzr h1 h2 hfill
        refine ⟨.agg cells', ?_, by have := DRep.agg (e := e) h4.1 h4.2; simpa using this⟩
        obtain ⟨dst, op, type, pos, after, guard⟩ := o
        simp only at ho
        subst ho
        have hzv : (zeroValue t).run P e.w = .ok z e.w := run_zeroValue hT ht e.w
        rw [hk.2] at hd0
        simp only [execOp, Instr.build, Sem.run_bind, hzv, Result.andThen_ok, run_underlying hd0, run_sizeOf hT hj, hparts, h3, Sem.run_pure]
      · cases hd
    · cases hd
  · cases hd
end
end Go.Proofs.YtcjooalmhppkiaaRRRR
