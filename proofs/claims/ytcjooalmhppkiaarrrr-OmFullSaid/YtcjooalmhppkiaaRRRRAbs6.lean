/- Operations that write: stores into variables of ours, append; and rows of operations. -/
import Derived.Test.YtcjooalmhppkiaaRRRRAbs5
namespace Go.Proofs.YtcjooalmhppkiaaRRRR
open Go.RowKit

section
variable {P : Program} {T : Nat → Option TI} {Γ : Ctx} {σ σ' : St}

/-- An operation, from what is known to what is known. -/
def OStep (P : Program) (Γ : Ctx) (o : Oper) (σ σ' : St) : Prop :=
  ∀ (a : Act) (e : Env), Conc Γ σ e a → o.wp P a e.w (fun a' w' => ∃ e', e'.w = w' ∧ Conc Γ σ' e' a') (fun _ _ _ => False)

theorem wp_weak {P : Program} {o : Oper} {a : Act} {w : World} {K K' : Act → World → Prop} {Q : Exit → Act → World → Prop} (h : o.wp P a w K (fun _ _ _ => False)) (hk : ∀ a' w', K a' w' → K' a' w') : o.wp P a w K' Q :=
  wp_false (Oper.wp_mono hk h)

theorem QStep.step {o : Oper} {d : Dt} {nb : Option (Nat × List Dt)} (h : QStep P o (kv σ.s) (kv σ.b) d nb) (hd : dstLt Γ.n o.dst = true) (hnb : ∀ p, nb = some p → kv σ.b p.1 = none) : OStep P Γ o σ ((σ.box nb).put o.dst d) := by
  intro a e hc
  refine wp_weak (h a e (hc.sees _) fun p hp => hc.nobox _ (hnb p hp)) fun a' w' hh => ?_
  obtain ⟨v, e', rfl, hw, hq⟩ := hh
  exact ⟨e', hw, hc.quiet hd hnb hq⟩

def Post (Γ : Ctx) (Q : Exit → St → Prop) : Exit → Act → World → Prop := fun x a w => ∃ σ e, e.w = w ∧ Conc Γ σ e a ∧ Q x σ
/-- A row of operations. -/
structure AOps (P : Program) (Γ : Ctx) (l0 : List Oper) (Q : Exit → St → Prop) (l : List Oper) (σ : St) : Prop where
  run : ∀ (a : Act) (e : Env), Conc Γ σ e a → wpList P l0.toArray (Post Γ Q) l a e.w

variable {l0 l : List Oper} {Q : Exit → St → Prop} {o : Oper}

theorem aops_nil (h : Q .normal σ) : AOps P Γ l0 Q [] σ := ⟨fun _ e hc => ⟨σ, e, rfl, hc, h⟩⟩

/-- Is an operation carried out? -/
def gd (l0 : List Oper) (o : Oper) (S : Nat → Option Dt) : Option Bool := match o.guard with
  | none => some true
  | some (j, want) => match (l0[j]?).bind (·.dst) with
    | some t => match S t with
      | some (.p (.raw (.bool b))) => some (b == want)
      | some (.p (.raw (.tuple _))) => some false
      | _ => none
    | none => none

theorem gd_wanted {e : Env} {a : Act} (hc : Conc Γ σ e a) {c : Bool} (h : gd l0 o (kv σ.s) = some c) : Region.wanted o (yielded l0.toArray a.tmps) = c := by
  unfold gd at h
  unfold Region.wanted
  split at h
  · rename_i hg; rw [hg]; cases h; rfl
  · rename_i j want hg
    rw [hg]
    split at h
    · rename_i t ht
      split at h
      · rename_i b hb
        cases h
        have hv := raw_eq (hc.slots t _ hb)
        have : yielded l0.toArray a.tmps j = some b := by
          rw [yielded_eq]
          have h1 : (l0.toArray[j]?).bind (·.dst) = some t := by simpa using ht
          rw [h1]
          unfold slot at hv
          simp only [Option.bind_some, hv, boolOf]
        simp only [this]
        cases b <;> cases want <;> rfl
      · rename_i b hb
        cases h
        have hv := raw_eq (hc.slots t _ hb)
        have : yielded l0.toArray a.tmps j = none := by
          rw [yielded_eq]
          have h1 : (l0.toArray[j]?).bind (·.dst) = some t := by simpa using ht
          rw [h1]
          unfold slot at hv
          simp only [Option.bind_some, hv, boolOf]
        simp only [this]
        cases want <;> rfl
      · cases h
    · cases h

theorem aops_step (hg : gd l0 o (kv σ.s) = some true) (hs : OStep P Γ o σ σ') (h : AOps P Γ l0 Q l σ') : AOps P Γ l0 Q (o :: l) σ := by
  refine ⟨fun a e hc => ?_⟩
  unfold wpList
  rw [if_pos (gd_wanted hc hg)]
  refine .inl (wp_weak (hs a e hc) fun a' w' hh => ?_)
  obtain ⟨e', rfl, hc'⟩ := hh
  exact h.run a' e' hc'
theorem aops_skip (hg : gd l0 o (kv σ.s) = some false) (hd : dstLt Γ.n o.dst = true) (h : AOps P Γ l0 Q l (σ.put o.dst (.p (.raw undef)))) : AOps P Γ l0 Q (o :: l) σ := by
  refine ⟨fun a e hc => ?_⟩
  unfold wpList
  rw [if_neg (by rw [gd_wanted hc hg]; simp)]
  exact h.run _ e (hc.put hd (.p (.raw undef)))
theorem aops_q {d : Dt} {nb : Option (Nat × List Dt)} (hq : QStep P o (kv σ.s) (kv σ.b) d nb) (hg : gd l0 o (kv σ.s) = some true) (hd : dstLt Γ.n o.dst = true) (hnb : ∀ p, nb = some p → kv σ.b p.1 = none) (h : AOps P Γ l0 Q l ((σ.box nb).put o.dst d)) : AOps P Γ l0 Q (o :: l) σ :=
  aops_step hg (hq.step hd hnb) h
theorem aops_ax (hT : TabOk P T) {d : Dt} (hq : ax T (kv σ.s) (kv σ.b) o.op = some d) (hg : gd l0 o (kv σ.s) = some true) (hd : dstLt Γ.n o.dst = true) (h : AOps P Γ l0 Q l (σ.put o.dst d)) : AOps P Γ l0 Q (o :: l) σ :=
  aops_q (ax_step hT hq) hg hd (fun p hp => by cases hp) h

/-- Something weaker is known. -/
structure Weak (σ τ : St) : Prop where
  s : ∀ t d, kv τ.s t = some d → kv σ.s t = some d
  b : τ.b = σ.b
  g : τ.g = σ.g
theorem Conc.weak {e : Env} {a : Act} (hc : Conc Γ σ e a) (h : Weak σ σ') : Conc Γ σ' e a :=
  ⟨hc.size, hc.df, fun t d ht => hc.slots t d (h.s t d ht), fun b cs hb => hc.boxes b cs (by rw [← h.b]; exact hb), fun b hb => hc.nobox b (by rw [← h.b]; exact hb), fun g => by rw [h.g]; exact hc.gs g, hc.env⟩

/-! ### Stores -/
def St.setBox (σ : St) (b : Nat) (cs : List Dt) : St := ⟨σ.s, (b, cs) :: σ.b, σ.g⟩

theorem block_setRow {w : World} {k : Nat} {vs us : List Value} {el : TypeId} (h : w.heap[k]? = some (.cells vs.toArray el (0, 0))) : (w.setRow k us.toArray).heap[k]? = some (.cells us.toArray el (0, 0)) := setRow_heap w k _ _ el _ h

theorem Conc.setRow {e : Env} {a : Act} (hc : Conc Γ σ e a) {b k : Nat} {vs us : List Value} {el : TypeId} {cs : List Dt} (hb : e.bx b = some k) (hk : e.w.heap[k]? = some (.cells vs.toArray el (0, 0))) (hr : DReps e us cs) :
    Conc Γ (σ.setBox b cs) { e with w := e.w.setRow k us.toArray } a := by
  obtain ⟨h1, h2, h3, h4⟩ := hc.env.bx b k hb
  have hoth : ∀ j, j ≠ k → (e.w.setRow k us.toArray).heap[j]? = e.w.heap[j]? := fun j hj => setRow_other e.w k j _ hj
  have hE : Ends e { e with w := e.w.setRow k us.toArray } := by
    refine ⟨fun b' o v hcl hv => ?_, fun _ _ h => h, fun _ G h => ⟨G, h, rfl, rfl, Nat.le_refl _⟩, fun j g G cur h5 h6 h7 => ⟨h5, cur, ?_, rfl⟩⟩
    · have hne : b' ≠ k := fun e' => by subst e'; exact absurd (hcl 0 h3) (by omega)
      exact ⟨hcl, by show (e.w.setRow k us.toArray).cell? _ = _; rw [World.cell?_of_block (w := e.w) (hoth b' hne)]; exact hv⟩
    · show (e.w.setRow k us.toArray).heap[j]? = _
      rw [hoth j (fun e' => by subst e'; rw [h4] at h5; cases h5)]; exact h7
  refine ⟨hc.size, hc.df, fun t d ht => (hc.slots t d ht).next hE, fun b' ds hd => ?_, fun b' hb' => ?_, hc.gs, ?_⟩
  · simp only [St.setBox, lk_cons] at hd
    split at hd
    · rename_i hbb
      subst hbb
      cases hd
      exact ⟨k, us, el, hb, block_setRow hk, hr.next hE⟩
    · rename_i hbb
      obtain ⟨k', vs', el', h5, h6, h7⟩ := hc.boxes b' ds hd
      refine ⟨k', vs', el', h5, ?_, h7.next hE⟩
      show (e.w.setRow k us.toArray).heap[k']? = _
      rw [hoth k' (fun e' => hbb (by subst e'; exact hc.env.inj _ _ _ hb h5))]; exact h6
  · simp only [St.setBox, lk_cons] at hb'
    split at hb'
    · cases hb'
    · exact hc.nobox b' hb'
  · refine ⟨⟨hc.env.kept.os, hc.env.kept.tape, hc.env.kept.output, by show _ ≤ (e.w.setRow k us.toArray).heap.size; rw [setRow_size]; exact hc.env.kept.size, fun j hj ho => ?_⟩, hc.env.cl, fun b' j hj => ?_, hc.env.inj, fun j g hg => ?_, hc.env.kb⟩
    · show (e.w.setRow k us.toArray).heap[j]? = _
      rw [hoth j (fun e' => by subst e'; rcases h2 with h2 | h2 <;> first | omega | exact ho h2)]; exact hc.env.kept.block j hj ho
    · obtain ⟨h5, h6, h7, h8⟩ := hc.env.bx b' j hj
      exact ⟨by show j < (e.w.setRow k us.toArray).heap.size; rw [setRow_size]; exact h5, h6, h7, h8⟩
    · obtain ⟨G, cur, h5, h6, h7, h8, h9⟩ := hc.env.gr j g hg
      refine ⟨G, cur, h5, by show j < (e.w.setRow k us.toArray).heap.size; rw [setRow_size]; exact h6, h7, h8, ?_⟩
      show (e.w.setRow k us.toArray).heap[j]? = _
      rw [hoth j (fun e' => by subst e'; rw [h4] at hg; cases hg)]; exact h9

/-- The cells behind a store. -/
def stored (cs : List Dt) (o : Nat) (ds : List Dt) : List Dt := cs.take o ++ ds ++ cs.drop (o + ds.length)

def leaves : Dt → Bool
  | .agg ds => ds.all Dt.leaf
  | d => d.leaf
theorem leaves_cells {e : Env} {v : Value} {d : Dt} (h : DRep e v d) (hl : leaves d = true) : ∀ u ∈ v.cells.toList, leafV u = true := by
  have hk : okCells d = true := by cases d <;> first | exact hl | rfl
  have hr := okCells_rep h hk
  have hall : ∀ c ∈ d.cells, c.leaf = true := by
    cases d with
    | agg ds => exact fun c hc => List.all_eq_true.1 hl c hc
    | _ => intro c hc; simp only [Dt.cells, List.mem_singleton] at hc; subst hc; exact hl
  intro u hu
  obtain ⟨i, hi, rfl⟩ := List.mem_iff_getElem.1 hu
  have hi' : i < d.cells.length := by rw [← hr.1]; exact hi
  exact leaf_val (hr.2 i _ _ (List.getElem?_eq_getElem hi) (List.getElem?_eq_getElem hi')) (hall _ (List.getElem_mem hi'))

def storeK {α : Type} (cs : List Dt) (o : Nat) (d : Dt) (k : List Dt → Option α) : Option α :=
  cellsK d fun ds => takeK o cs fun a => dropK o cs fun b => dropK ds.length b fun c => appK ds c fun r => appK a r k
theorem storeK_some {α : Type} {cs : List Dt} {o : Nat} {d : Dt} {k : List Dt → Option α} {r : α} (h : storeK cs o d k = some r) : o + d.cells.length ≤ cs.length ∧ k (stored cs o d.cells) = some r := by
  unfold storeK at h
  rw [cellsK_eq] at h
  obtain ⟨h1, h⟩ := takeK_some h
  obtain ⟨h2, h⟩ := dropK_some h
  obtain ⟨h3, h⟩ := dropK_some h
  rw [appK_eq, appK_eq] at h
  refine ⟨by simp at h3; omega, ?_⟩
  unfold stored
  rw [List.append_assoc]
  rw [List.drop_drop] at h
  exact h
theorem store_step (hT : TabOk P T) {t : TypeId} {x y : Operand} {b of : Nat} {cs : List Dt} {dy : Dt} {i : TI} (ho : o.op = .store t x y) (hd : o.dst = none) (ht : T t = some i) (hx : ev (kv σ.s) x = some (.ptr b of)) (hb : kv σ.b b = some cs) (hy : ev (kv σ.s) y = some dy)
    (hl : leaves dy = true) (hsz : dy.cells.length = i.sz) (hfit : of + dy.cells.length ≤ cs.length) : OStep P Γ o σ (σ.setBox b (stored cs of dy.cells)) := by
  intro a e hc
  have hs := hc.sees (σ := σ) o.op.operands
  have h1 := hs.1 x (by rw [ho]; simp [Op.operands]) _ hx
  have h2 := hs.1 y (by rw [ho]; simp [Op.operands]) _ hy
  have hk : okCells dy = true := by cases dy <;> first | exact hl | rfl
  have hr := okCells_rep h2 hk
  obtain ⟨k, vs, el, h3, h4, h5⟩ := hc.boxes b cs hb
  generalize hev : a.eval x = vx at h1
  cases h1 with
  | ptr h1 =>
    rw [h3] at h1
    cases h1
    have hlen : (a.eval y).cells.size = i.sz := by have := hr.1; simp at this; omega
    have hst := run_storeCells_at P k of el (a.eval y).cells.toList 0 vs.toArray e.w h4 (by have := hr.1; have := h5.1; simp at *; omega) (leaves_cells h2 hl)
    unfold Oper.wp
    have e1 : (execOp a.eval o).run P e.w = .ok .skip (e.w.setRow k (vs.take of ++ (a.eval y).cells.toList ++ vs.drop (of + (a.eval y).cells.toList.length)).toArray) := by
      obtain ⟨dst, op, type, pos, after, guard⟩ := o
      simp only at ho
      subst ho
      simp only [Nat.add_zero] at hst
      simp [execOp, Instr.storeAt, Instr.sureAddr, hev, storeVar, run_sizeOf hT ht, hlen, hst]
    rw [e1]
    refine ⟨{ e with w := e.w.setRow k (vs.take of ++ (a.eval y).cells.toList ++ vs.drop (of + (a.eval y).cells.toList.length)).toArray }, rfl, ?_⟩
    have := hc.setRow h3 h4 (us := vs.take of ++ (a.eval y).cells.toList ++ vs.drop (of + (a.eval y).cells.toList.length)) (cs := stored cs of dy.cells) (by
      unfold stored
      rw [hr.1]
      exact ((h5.take of).append hr).append (h5.drop _))
    rw [hd]
    exact this
end
end Go.Proofs.YtcjooalmhppkiaaRRRR
