/- Code, on what is known; what a call of a function answers. -/
import Derived.Test.YtcjooalmhppkiaaRRRRAbs7
import Derived.LoopN
namespace Go.Proofs.YtcjooalmhppkiaaRRRR
open Go.RowKit

section
variable {P : Program} {T : Nat → Option TI} {Γ : Ctx} {σ σ' τ : St} {o : Oper}

/-- What is known is put in another way. -/
def Ghost (Γ : Ctx) (σ σ' : St) : Prop := ∀ (a : Act) (e : Env), Conc Γ σ e a → ∃ e', e'.w = e.w ∧ Conc Γ σ' e' a
theorem Ghost.refl (Γ : Ctx) (σ : St) : Ghost Γ σ σ := fun _ e h => ⟨e, rfl, h⟩
theorem Ghost.trans {ρ : St} (h : Ghost Γ σ τ) (k : Ghost Γ τ ρ) : Ghost Γ σ ρ := fun a e hc => by
  obtain ⟨e1, h1, h2⟩ := h a e hc
  obtain ⟨e2, h3, h4⟩ := k a e1 h2
  exact ⟨e2, h3.trans h1, h4⟩

/-- A slice that is full may be appended to. -/
theorem tip_ghost (t g el sz : Nat) {n : Nat} {ps : List Pl} (ht : kv σ.s t = some (.p (.sl true n ps))) (hg : kv σ.g g = none) (hl : ps.length = n * sz) : Ghost Γ σ ⟨(t, .tip g n ps) :: σ.s, σ.b, (g, ⟨el, sz, n⟩) :: σ.g⟩ := by
  intro a e hc
  have hgi : e.gi g = none := by rw [hc.gs]; exact hg
  have hng : ∀ k, e.gr k ≠ some g := fun k hk => by obtain ⟨G, _, h, _⟩ := hc.env.gr k g hk; rw [hgi] at h; cases h
  have hE : Ends e { e with gi := fun h => if h = g then some ⟨el, sz, n⟩ else e.gi h } :=
    ⟨fun _ _ _ h1 h2 => ⟨h1, h2⟩, fun _ _ h => h, fun g' G h => ⟨G, by show (if g' = g then _ else e.gi g') = _; rw [if_neg (fun e' => by rw [e', hgi] at h; cases h)]; exact h, rfl, rfl, Nat.le_refl _⟩, fun _ _ _ cur h1 _ h3 => ⟨h1, cur, h3, rfl⟩⟩
  refine ⟨{ e with gi := fun h => if h = g then some ⟨el, sz, n⟩ else e.gi h }, rfl, hc.size, hc.df, fun u d hu => ?_, fun b cs hb => (hc.boxes b cs hb).ends hE rfl, hc.nobox, fun h => ?_, hc.env.kept, hc.env.cl, hc.env.bx, hc.env.inj, fun k g' hk => ?_, hc.env.kb⟩
  · simp only [lk_cons] at hu
    split at hu
    · rename_i htu
      subst htu
      cases hu
      have h1 := hc.slots _ _ ht
      generalize slot a t = v at h1
      cases h1 with
      | p h1 =>
        have h2 := (h1.next hE).low
        obtain ⟨A, cap, rfl, h3, h4, h5, h6, h7⟩ := sl_open h1
        exact .tip h2 ⟨⟨el, sz, n⟩, A, cap, by simp, rfl, Nat.le_refl _, hl, .inl (h6 rfl)⟩
    · exact (hc.slots u d hu).next hE
  · show (if h = g then _ else e.gi h) = _
    simp only [lk_cons]
    by_cases e1 : h = g
    · subst e1; simp
    · rw [if_neg e1, if_neg (fun e' => e1 e'.symm)]; exact hc.gs h
  · obtain ⟨G, cur, h1, h2⟩ := hc.env.gr k g' hk
    exact ⟨G, cur, by show (if g' = g then _ else e.gi g') = _; rw [if_neg (fun e' => hng k (by rw [← e']; exact hk))]; exact h1, h2⟩

/-- Does it name only these? -/
def Dt.ok (B G : Nat → Bool) : Dt → Bool
  | .agg ds => oks ds
  | .tup ds => oks ds
  | .ptr b _ => B b
  | .arr b _ _ _ => B b
  | .tip g _ _ => G g
  | .fn _ x y => oks x && oks y
  | _ => true
where oks : List Dt → Bool
  | [] => true
  | d :: ds => d.ok B G && oks ds

theorem oks_get {B G : Nat → Bool} : ∀ {ds : List Dt} (_ : Dt.ok.oks B G ds = true) {i : Nat} {d : Dt}, ds[i]? = some d → d.ok B G = true
  | [], _, i, d, hi => by simp at hi
  | d0 :: ds, h, i, d, hi => by
    simp only [Dt.ok.oks, Bool.and_eq_true] at h
    cases i with
    | zero => simp only [List.getElem?_cons_zero, Option.some.injEq] at hi; subst hi; exact h.1
    | succ i => exact oks_get h.2 (by simpa using hi)

def Env.cut (e : Env) (B G : Nat → Bool) : Env :=
  { e with bx := fun b => if B b = true then e.bx b else none, gr := fun k => match e.gr k with | some g => if G g = true then some g else none | none => none, gi := fun g => if G g = true then e.gi g else none }
theorem PRep.cut {e : Env} {B G : Nat → Bool} {v : Value} {x : Pl} (h : PRep e v x) : PRep (e.cut B G) v x := PRep.env (e := e) (e' := e.cut B G) rfl rfl h
theorem DRep.cut {e : Env} {B G : Nat → Bool} {v : Value} {d : Dt} (h : DRep e v d) : d.ok B G = true → DRep (e.cut B G) v d := by
  induction h with
  | p h => intro _; exact .p h.cut
  | agg hl _ ih => intro hk; exact .agg hl (fun i v d h1 h2 => ih i v d h1 h2 (oks_get hk h2))
  | tup hl _ ih => intro hk; exact .tup hl (fun i v d h1 h2 => ih i v d h1 h2 (oks_get hk h2))
  | ptr h => intro hk; simp only [Dt.ok] at hk; exact .ptr (by simp only [Env.cut, if_pos hk]; exact h)
  | el h =>
    intro _
    obtain ⟨f, hf⟩ := h
    exact .el ⟨f, fun i x hx => by obtain ⟨h1, h2, h3, h4⟩ := hf i x hx; exact ⟨h1, h2, h3, h4.cut⟩⟩
  | tip h ht =>
    intro hk
    simp only [Dt.ok] at hk
    refine .tip h.cut ?_
    obtain ⟨G0, A, cap, h1, h2, h3, h4, h5⟩ := ht
    refine ⟨G0, A, cap, by simp only [Env.cut, if_pos hk]; exact h1, h2, h3, h4, h5.imp id ?_⟩
    rintro ⟨k, h6, h7, h8⟩
    refine ⟨k, h6, ?_, h8⟩
    show (match e.gr k with | some g => if G g = true then some g else none | none => none) = _
    rw [h7]
    simp [hk]
  | arr h => intro hk; simp only [Dt.ok] at hk; exact .arr (by simp only [Env.cut, if_pos hk]; exact h)
  | fn hl hl2 _ _ ih ih2 =>
    intro hk
    simp only [Dt.ok, Bool.and_eq_true] at hk
    exact .fn hl hl2 (fun i v d h1 h2 => ih i v d h1 h2 (oks_get hk.1 h2)) (fun i v d h1 h2 => ih2 i v d h1 h2 (oks_get hk.2 h2))
  | any => intro _; exact .any

def isIn {α : Type} (l : List (Nat × α)) (n : Nat) : Bool := (kv l n).isSome

/-- What is known of the slots of τ is known. -/
def SubS (σ τ : St) : List (Nat × Dt) → Prop
  | [] => True
  | p :: l => (kv σ.s p.1 = some p.2 ∧ p.2.ok (isIn τ.b) (isIn τ.g) = true) ∧ SubS σ τ l
def SubB (σ τ : St) : List (Nat × List Dt) → Prop
  | [] => True
  | p :: l => (kv σ.b p.1 = some p.2 ∧ Dt.ok.oks (isIn τ.b) (isIn τ.g) p.2 = true) ∧ SubB σ τ l
def SubG (σ : St) : List (Nat × Gr) → Prop
  | [] => True
  | p :: l => kv σ.g p.1 = some p.2 ∧ SubG σ l
theorem SubS.get {σ τ : St} : ∀ {l : List (Nat × Dt)} (_ : SubS σ τ l) {t : Nat} {d : Dt}, kv l t = some d → kv σ.s t = some d ∧ d.ok (isIn τ.b) (isIn τ.g) = true
  | [], _, t, d, h => by cases h
  | (k, v) :: l, hs, t, d, h => by
    rw [lk_cons] at h
    split at h
    · rename_i hk; subst hk; cases h; exact hs.1
    · exact hs.2.get h
theorem SubB.get {σ τ : St} : ∀ {l : List (Nat × List Dt)} (_ : SubB σ τ l) {t : Nat} {d : List Dt}, kv l t = some d → kv σ.b t = some d ∧ Dt.ok.oks (isIn τ.b) (isIn τ.g) d = true
  | [], _, t, d, h => by cases h
  | (k, v) :: l, hs, t, d, h => by
    rw [lk_cons] at h
    split at h
    · rename_i hk; subst hk; cases h; exact hs.1
    · exact hs.2.get h
theorem SubG.get {σ : St} : ∀ {l : List (Nat × Gr)} (_ : SubG σ l) {t : Nat} {d : Gr}, kv l t = some d → kv σ.g t = some d
  | [], _, t, d, h => by cases h
  | (k, v) :: l, hs, t, d, h => by
    rw [lk_cons] at h
    split at h
    · rename_i hk; subst hk; cases h; exact hs.1
    · exact hs.2.get h

/-- What was handed in is named. -/
def SubK (τ : St) : List (Nat × Nat) → Prop
  | [] => True
  | p :: l => isIn τ.b p.1 = true ∧ SubK τ l
theorem SubK.get {τ : St} : ∀ {l : List (Nat × Nat)} (_ : SubK τ l) {b k : Nat}, kv l b = some k → isIn τ.b b = true
  | [], _, b, k, h => by cases h
  | (x, y) :: l, hs, b, k, h => by
    rw [lk_cons] at h
    split at h
    · rename_i hk; subst hk; exact hs.1
    · exact hs.2.get h

/-- Less is known. -/
theorem drop_ghost (hs : SubS σ τ τ.s) (hb : SubB σ τ τ.b) (hg : SubG σ τ.g) (hkb : SubK τ Γ.kb) : Ghost Γ σ τ := by
  intro a e hc
  have hgi : ∀ g, isIn τ.g g = true → ∃ G, e.gi g = some G ∧ kv τ.g g = some G := fun g h => by
    unfold isIn at h
    obtain ⟨G, hG⟩ := Option.isSome_iff_exists.1 h
    exact ⟨G, by rw [hc.gs]; exact hg.get hG, hG⟩
  refine ⟨e.cut (isIn τ.b) (isIn τ.g), rfl, hc.size, hc.df, fun t d ht => (hc.slots t d (hs.get ht).1).cut (hs.get ht).2, fun b cs hcs => ?_, fun b hbn => ?_, fun g => ?_, hc.env.kept, hc.env.cl, fun b k hk => ?_, fun b c k h1 h2 => ?_, fun k g hk => ?_, fun b k hk => ?_⟩
  · obtain ⟨k, vs, el, h1, h2, h3⟩ := hc.boxes b cs (hb.get hcs).1
    refine ⟨k, vs, el, ?_, h2, h3.1, fun i v d hv hd => (h3.2 i v d hv hd).cut (oks_get (hb.get hcs).2 hd)⟩
    show (if isIn τ.b b = true then e.bx b else none) = _
    rw [if_pos (by simp [isIn, hcs])]; exact h1
  · show (if isIn τ.b b = true then e.bx b else none) = _
    rw [if_neg (by simp [isIn, hbn])]
  · show (if isIn τ.g g = true then e.gi g else none) = _
    cases hl : kv τ.g g with
    | none => rw [if_neg (by simp [isIn, hl])]
    | some G => rw [if_pos (by simp [isIn, hl]), hc.gs]; exact hg.get hl
  · have hk' : (if isIn τ.b b = true then e.bx b else none) = some k := hk
    split at hk'
    · obtain ⟨h1, h2, h3, h4⟩ := hc.env.bx b k hk'
      refine ⟨h1, h2, h3, ?_⟩
      show (match e.gr k with | some g => if isIn τ.g g = true then some g else none | none => none) = none
      rw [h4]
    · cases hk'
  · have h1' : (if isIn τ.b b = true then e.bx b else none) = some k := h1
    have h2' : (if isIn τ.b c = true then e.bx c else none) = some k := h2
    split at h1'
    · split at h2'
      · exact hc.env.inj b c k h1' h2'
      · cases h2'
    · cases h1'
  · have hk' : (match e.gr k with | some g => if isIn τ.g g = true then some g else none | none => none) = some g := hk
    rcases hgk : e.gr k with _ | g0
    · rw [hgk] at hk'; cases hk'
    · rw [hgk] at hk'
      simp only at hk'
      split at hk'
      · rename_i hin
        cases hk'
        obtain ⟨G, cur, h1, h2⟩ := hc.env.gr k g hgk
        exact ⟨G, cur, by show (if isIn τ.g g = true then e.gi g else none) = _; rw [if_pos hin]; exact h1, h2⟩
      · cases hk'
  · show (if isIn τ.b b = true then e.bx b else none) = _
    rw [if_pos (hkb.get hk)]
    exact hc.env.kb b k hk

theorem aops_ghost {l0 l : List Oper} {Q : Exit → St → Prop} (h : Ghost Γ σ σ') (k : AOps P Γ l0 Q l σ') : AOps P Γ l0 Q l σ := ⟨fun a e hc => by
  obtain ⟨e', h1, h2⟩ := h a e hc
  rw [← h1]
  exact k.run a e' h2⟩

/-! ### Code -/
structure AWP (P : Program) (Γ : Ctx) (c : Code) (Q : Exit → St → Prop) (σ : St) : Prop where
  run : ∀ (a : Act) (e : Env), Conc Γ σ e a → c.wp P (Post Γ Q) a e.w

variable {Q : Exit → St → Prop} {c x y : Code}
theorem awp_ghost (h : Ghost Γ σ σ') (k : AWP P Γ c Q σ') : AWP P Γ c Q σ := ⟨fun a e hc => by
  obtain ⟨e', h1, h2⟩ := h a e hc
  rw [← h1]
  exact k.run a e' h2⟩
theorem awp_mono {Q' : Exit → St → Prop} (h : AWP P Γ c Q σ) (hq : ∀ ex σ', Q ex σ' → Q' ex σ') : AWP P Γ c Q' σ := ⟨fun a e hc =>
  Code.wp_mono (fun ex a' w' hh => by obtain ⟨σ', e', h1, h2, h3⟩ := hh; exact ⟨σ', e', h1, h2, hq _ _ h3⟩) (h.run a e hc)⟩

def thenQ (K : St → Prop) (Q : Exit → St → Prop) : Exit → St → Prop
  | .normal, σ => K σ
  | ex, σ => Q ex σ
theorem awp_seq (h : AWP P Γ x (thenQ (AWP P Γ y Q) Q) σ) : AWP P Γ (.seq x y) Q σ := ⟨fun a e hc => by
  refine wp_seq (Code.wp_mono (fun ex a' w' hh => ?_) (h.run a e hc))
  obtain ⟨σ', e', rfl, h2, h3⟩ := hh
  cases ex with
  | normal => exact h3.run a' e' h2
  | _ => exact ⟨σ', e', rfl, h2, h3⟩⟩
theorem awp_skip (h : Q .normal σ) : AWP P Γ .skip Q σ := ⟨fun _ e hc => wp_skip ⟨σ, e, rfl, hc, h⟩⟩
theorem awp_ret (h : Q .ret σ) : AWP P Γ .ret Q σ := ⟨fun _ e hc => wp_ret ⟨σ, e, rfl, hc, h⟩⟩
theorem awp_exit {id : Nat} (h : Q (.exit id) σ) : AWP P Γ (.exit id) Q σ := ⟨fun _ e hc => wp_exit ⟨σ, e, rfl, hc, h⟩⟩
def blockQ (id : Nat) (Q : Exit → St → Prop) : Exit → St → Prop
  | .exit id', σ => if id' = id then Q .normal σ else Q (.exit id') σ
  | ex, σ => Q ex σ
theorem awp_block {id : Nat} (h : AWP P Γ c (blockQ id Q) σ) : AWP P Γ (.block id c) Q σ := ⟨fun a e hc => by
  refine wp_block (Code.wp_mono (fun ex a' w' hh => ?_) (h.run a e hc))
  obtain ⟨σ', e', rfl, h2, h3⟩ := hh
  cases ex with
  | exit id' =>
    simp only [blockQ] at h3
    simp only [Exit.inBlock]
    split
    · rename_i hid; rw [if_pos hid] at h3; exact ⟨σ', e', rfl, h2, h3⟩
    · rename_i hid; rw [if_neg hid] at h3; exact ⟨σ', e', rfl, h2, h3⟩
  | _ => exact ⟨σ', e', rfl, h2, h3⟩⟩
theorem eval_raw {e : Env} {a : Act} (hc : Conc Γ σ e a) {z : Operand} {v : Value} (h : ev (kv σ.s) z = some (.p (.raw v))) : a.eval z = v := raw_eq ((hc.sees #[z]).1 z (by simp) _ h)
theorem awp_cond {z : Operand} {t : Bool} (hz : ev (kv σ.s) z = some (.p (.raw (.bool t)))) (ht : t = true → AWP P Γ x Q σ) (hf : t = false → AWP P Γ y Q σ) : AWP P Γ (.cond z x y) Q σ := ⟨fun a e hc =>
  wp_cond_split (eval_raw hc hz) (fun h => (ht h).run a e hc) (fun h => (hf h).run a e hc)⟩
theorem awp_region {id : Nat} {l : List Oper} (h : AOps P Γ l Q l σ) : AWP P Γ (.region id l.toArray false) Q σ := ⟨fun a e hc => wp_region_lit (h.run a e hc)⟩

/-- A loop: what is known at a round's head, and what falls from round to round. -/
theorem awp_loop {ι : Type} (I : ι → St) (μ : ι → Nat) (i0 : ι) (h0 : Ghost Γ σ (I i0)) (round : ∀ i, AWP P Γ c (thenQ (fun σ' => ∃ j, μ j < μ i ∧ Ghost Γ σ' (I j)) Q) (I i)) : AWP P Γ (.loop c) Q σ := by
  refine ⟨fun a e hc => ?_⟩
  obtain ⟨e0, h1, h2⟩ := h0 a e hc
  rw [← h1]
  have key : ∀ n i, μ i < n → ∀ a e, Conc Γ (I i) e a → Code.rounds P c (Post Γ Q) n a e.w := by
    intro n
    induction n with
    | zero => intro i hi; omega
    | succ n ih =>
      intro i hi a e hc
      rw [rounds_succ]
      refine Code.wp_mono (fun ex a' w' hh => ?_) ((round i).run a e hc)
      obtain ⟨σ', e', rfl, h2, h3⟩ := hh
      cases ex with
      | normal =>
        obtain ⟨j, hj, hg⟩ := h3
        obtain ⟨e2, h4, h5⟩ := hg a' e' h2
        show Code.rounds P c (Post Γ Q) n a' e'.w
        rw [← h4]
        exact ih j (by omega) a' e2 h5
      | _ => exact ⟨σ', e', rfl, h2, h3⟩
  exact wp_loop_rounds (μ i0 + 1) (key _ i0 (by omega) a e0 h2)

/-! ### Functions -/
def resOne (T : Nat → Option TI) (σ : St) : ResultVar → Option Dt
  | .tmp t => kv σ.s t
  | .cell t ty => match T ty, kv σ.s t with
    | some i, some (.ptr b o) => match kv σ.b b with
      | some cs => dropK o cs (loadD i)
      | none => none
    | _, _ => none
def resK {α : Type} (T : Nat → Option TI) (σ : St) : List ResultVar → (List Dt → Option α) → Option α
  | [], k => k []
  | r :: l, k => match resOne T σ r with
    | some d => resK T σ l fun ds => k (d :: ds)
    | none => none
def resD (T : Nat → Option TI) (σ : St) (l : List ResultVar) : Option Dt := resK T σ l fun
  | [d] => d.lowK some
  | ds => (Dt.tup ds).lowK some

def enum (ds : List Dt) : List (Nat × Dt) := go 0 ds
where go : Nat → List Dt → List (Nat × Dt)
  | _, [] => []
  | n, d :: ds => (n, d) :: go (n + 1) ds
theorem enum_get : ∀ (ds : List Dt) (n t : Nat) (d : Dt), kv (enum.go n ds) t = some d → n ≤ t ∧ ds[t - n]? = some d
  | [], n, t, d, h => by cases h
  | c :: ds, n, t, d, h => by
    simp only [enum.go, lk_cons] at h
    split at h
    · rename_i hn; subst hn; cases h; simp
    · rename_i hn
      obtain ⟨h1, h2⟩ := enum_get ds (n + 1) t d h
      refine ⟨by omega, ?_⟩
      rw [show t - n = (t - (n + 1)) + 1 by omega]
      simpa using h2

theorem mapM_run {P : Program} {w : World} {α β : Type} (f : α → Sem β) (g : α → β) : ∀ (l : List α), (∀ x ∈ l, (f x).run P w = .ok (g x) w) → (l.mapM f).run P w = .ok (l.map g) w
  | [], _ => by simp
  | x :: l, h => by
    rw [List.mapM_cons]
    simp only [Sem.run_bind, h x (by simp), Result.andThen_ok, mapM_run f g l (fun y hy => h y (by simp [hy])), Sem.run_pure, List.map_cons]

def resV (tmps : Array Value) : ResultVar → Sem Value
  | .tmp t => pure (tmps.getD t undef)
  | .cell a t => do loadVar t (← asAddr (tmps.getD a undef))
theorem results_eq (fn : Func) (tmps : Array Value) : results fn tmps = (do let vs ← fn.results.mapM (resV tmps); pure (if h : vs.size = 1 then vs[0] else .tuple vs)) := rfl

theorem res_one (hT : TabOk P T) {e : Env} {a : Act} (hc : Conc Γ σ e a) {r : ResultVar} {d : Dt} (h : resOne T σ r = some d) :
    ∃ v, (resV a.tmps r).run P e.w = .ok v e.w ∧ DRep e v d := by
  cases r with
  | tmp t => exact ⟨slot a t, rfl, hc.slots t d h⟩
  | cell t ty =>
    simp only [resOne] at h
    split at h
    · rename_i i b o hi hp
      split at h
      · rename_i cs hcs
        obtain ⟨k, vs, el, h2, h3, h4⟩ := hc.boxes b cs hcs
        have h1 := hc.slots t _ hp
        generalize hev : slot a t = vx at h1
        cases h1 with
        | ptr h1 =>
          rw [h2] at h1
          cases h1
          obtain ⟨v, hr, hv⟩ := load_cells hT hi (k := k) (o := o) (us := vs.drop o) (fun j v hj => by
            rw [List.getElem?_drop] at hj
            rw [cell_of_row e.w k (o + j) vs.toArray el (0, 0) h3]
            simpa using hj) (h4.drop o) (dropK_some h).2
          refine ⟨v, ?_, hv⟩
          unfold slot at hev
          simp only [resV, hev]
          simpa [asAddr, Instr.loadAt, Instr.sureAddr] using hr
      · cases h
    · cases h

theorem res_all {α : Type} (hT : TabOk P T) {e : Env} {a : Act} (hc : Conc Γ σ e a) : ∀ (l : List ResultVar) (k : List Dt → Option α) (r : α), resK T σ l k = some r → ∃ ds vs, (l.mapM (resV a.tmps)).run P e.w = .ok vs e.w ∧ DReps e vs ds ∧ k ds = some r
  | [], k, r, h => ⟨[], [], by simp, DReps.nil e, h⟩
  | q :: l, k, r, h => by
    simp only [resK] at h
    split at h
    · rename_i d h1
      obtain ⟨v, hv, hd⟩ := res_one hT hc h1
      obtain ⟨ds, vs, hvs, hds, hk⟩ := res_all hT hc l _ r h
      refine ⟨d :: ds, v :: vs, ?_, DReps.cons hd hds, hk⟩
      rw [List.mapM_cons]
      simp only [Sem.run_bind, hv, hvs, Result.andThen_ok, Sem.run_pure]
    · cases h

theorem res_rep (hT : TabOk P T) {fn : Func} {e : Env} {a : Act} (hc : Conc Γ σ e a) {d : Dt} (h : resD T σ fn.results.toList = some d) : ∃ v, (results fn a.tmps).run P e.w = .ok v e.w ∧ DRep (env0 e.w e.cl) v d := by
  unfold resD at h
  obtain ⟨ds, vs, hvs, hds, h⟩ := res_all hT hc _ _ d h
  split at h
  · rename_i d0
    obtain ⟨v, vs', rfl, hv, hn⟩ := hds.uncons
    have : vs' = [] := List.eq_nil_of_length_eq_zero hn.1
    subst this
    simp only [lowK_eq, Option.bind_fun_some] at h
    refine ⟨v, ?_, low_rep hv d h⟩
    rw [results_eq, Array.mapM_eq_mapM_toList]
    simp only [bind_map_left, Sem.run_bind, hvs, Result.andThen_ok, Sem.run_pure]
    simp
  · rename_i hne
    simp only [lowK_eq, Option.bind_fun_some] at h
    refine ⟨.tuple vs.toArray, ?_, low_rep (.tup hds.1 hds.2) d h⟩
    rw [results_eq, Array.mapM_eq_mapM_toList]
    simp only [bind_map_left, Sem.run_bind, hvs, Result.andThen_ok, Sem.run_pure]
    rw [dif_neg]
    intro hs
    have hl : ds.length = 1 := by rw [← hds.1]; simpa using hs
    obtain ⟨d1, rfl⟩ := List.length_eq_one_iff.1 hl
    exact hne d1 rfl

/-- What a function answers, by its body. -/
theorem pure_of_awp (hT : TabOk P T) {f : FuncId} {fn : Func} {c : Code} {ds : List Dt} {d : Dt} (hf : P.funcs[f]? = some fn) (hb : fn.body = some c) (hn : ds.length ≤ fn.ntmps)
    (h : ∀ w cl, AWP P ⟨fn.ntmps, w, cl, fun _ => False, []⟩ c (fun ex σ => (ex = .normal ∨ ex = .ret) ∧ resD T σ fn.results.toList = some d) ⟨enum ds, [], []⟩) : PureC P f ds d := by
  intro w cl vs hv
  refine calls_of_wp hf hb ?_
  have hl : vs.length = ds.length := hv.1
  have hc : Conc ⟨fn.ntmps, w, cl, fun _ => False, []⟩ ⟨enum ds, [], []⟩ (env0 w cl) { tmps := vs.toArray ++ Array.replicate (fn.ntmps - vs.toArray.size) undef, defers := [] } := by
    refine ⟨by simp; omega, rfl, fun t d0 ht => ?_, fun b cs hb => (by cases hb), fun b _ => rfl, fun g => rfl, ⟨Kept.refl _ _, fun _ _ _ => rfl, fun b k hk => (by cases hk), fun b c k hk => (by cases hk), fun k g hk => (by cases hk), fun b k hk => (by cases hk)⟩⟩
    obtain ⟨_, h2⟩ := enum_get ds 0 t d0 ht
    simp only [Nat.sub_zero] at h2
    obtain ⟨v, h3, h4⟩ := hv.get h2
    have htl : t < vs.length := (List.getElem?_eq_some_iff.1 h3).1
    have : slot { tmps := vs.toArray ++ Array.replicate (fn.ntmps - vs.toArray.size) undef, defers := [] } t = v := by
      unfold slot
      simp only [Array.getD_eq_getD_getElem?]
      rw [Array.getElem?_append_left (by simpa using htl), List.getElem?_toArray, h3]
      rfl
    rw [this]
    exact h4
  refine Code.wp_mono (fun ex a' w' hh => ?_) ((h w cl).run _ (env0 w cl) hc)
  obtain ⟨σ', e', rfl, h2, h3, h4⟩ := hh
  obtain ⟨v, hr, hv⟩ := res_rep hT h2 h4
  have hbel : Below w.heap.size w e'.w := ⟨h2.env.kept.os, h2.env.kept.tape, h2.env.kept.output, h2.env.kept.size, fun k hk => h2.env.kept.block k hk (fun h => h)⟩
  have hfin : a'.defers = [] ∧ ∃ v, (results fn a'.tmps).run P e'.w = .ok v e'.w ∧ ∃ v' cl', Ending.returned v = .returned v' ∧ Below w.heap.size w e'.w ∧ (∀ k, k < w.heap.size → cl' k = cl k) ∧ DRep (env0 e'.w cl') v' d :=
    ⟨h2.df, v, hr, v, e'.cl, rfl, hbel, fun k hk => h2.env.cl k hk (fun h => h), hv⟩
  rcases h3 with rfl | rfl
  · exact hfin
  · exact hfin
end
end Go.Proofs.YtcjooalmhppkiaaRRRR
