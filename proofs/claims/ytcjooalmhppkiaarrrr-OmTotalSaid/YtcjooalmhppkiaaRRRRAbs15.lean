/- Functions that write variables that are handed to them: what they are given, what they leave; their calls; scopes and labels. -/
import Derived.Test.YtcjooalmhppkiaaRRRRAbs14
import Derived.Scope
namespace Go.Proofs.YtcjooalmhppkiaaRRRR
open Go.RowKit

/-! ### What names other variables is forgotten -/
def keepD (B : Nat → Bool) (d : Dt) : Dt := bif d.ok B (fun _ => true) then d else .any
def cutS (B : Nat → Bool) : List (Nat × Dt) → List (Nat × Dt)
  | [] => []
  | (t, d) :: l => (t, keepD B d) :: cutS B l
def cutSK {α : Type} (B : Nat → Bool) : List (Nat × Dt) → (List (Nat × Dt) → Option α) → Option α
  | [], k => k []
  | (t, d) :: l, k => match d.ok B (fun _ => true) with
    | true => cutSK B l fun r => k ((t, d) :: r)
    | false => cutSK B l fun r => k ((t, .any) :: r)
theorem cutSK_eq {α : Type} (B : Nat → Bool) : ∀ (l : List (Nat × Dt)) (k : List (Nat × Dt) → Option α), cutSK B l k = k (cutS B l)
  | [], k => rfl
  | (t, d) :: l, k => by
    rw [cutSK, cutS]
    unfold keepD
    cases d.ok B (fun _ => true) <;> simp only [cutSK_eq B l] <;> rfl
def cutC (B : Nat → Bool) : List Dt → List Dt
  | [] => []
  | d :: l => keepD B d :: cutC B l
def cutCK {α : Type} (B : Nat → Bool) : List Dt → (List Dt → Option α) → Option α
  | [], k => k []
  | d :: l, k => match d.ok B (fun _ => true) with
    | true => cutCK B l fun r => k (d :: r)
    | false => cutCK B l fun r => k (.any :: r)
theorem cutCK_eq {α : Type} (B : Nat → Bool) : ∀ (l : List Dt) (k : List Dt → Option α), cutCK B l k = k (cutC B l)
  | [], k => rfl
  | d :: l, k => by
    rw [cutCK, cutC]
    unfold keepD
    cases d.ok B (fun _ => true) <;> simp only [cutCK_eq B l] <;> rfl
/-- The variables that are not of H, with what names others forgotten. -/
def cutB (H B : Nat → Bool) : List (Nat × List Dt) → List (Nat × List Dt)
  | [] => []
  | (b, cs) :: l => bif H b then cutB H B l else (b, cutC B cs) :: cutB H B l
def cutBK {α : Type} (H B : Nat → Bool) : List (Nat × List Dt) → (List (Nat × List Dt) → Option α) → Option α
  | [], k => k []
  | (b, cs) :: l, k => match H b with
    | true => cutBK H B l k
    | false => cutCK B cs fun q => cutBK H B l fun r => k ((b, q) :: r)
theorem cutBK_eq {α : Type} (H B : Nat → Bool) : ∀ (l : List (Nat × List Dt)) (k : List (Nat × List Dt) → Option α), cutBK H B l k = k (cutB H B l)
  | [], k => rfl
  | (b, cs) :: l, k => by
    rw [cutBK, cutB]
    cases H b <;> simp only [cutCK_eq, cutBK_eq H B l] <;> rfl
theorem cutS_get {B : Nat → Bool} : ∀ {l : List (Nat × Dt)} {t : Nat} {d : Dt}, kv (cutS B l) t = some d → ∃ d0, kv l t = some d0 ∧ d = keepD B d0
  | [], t, d, h => by cases h
  | (u, c) :: l, t, d, h => by
    simp only [cutS, lk_cons] at h ⊢
    split at h
    · rename_i hu; cases h; exact ⟨c, by rw [if_pos hu], rfl⟩
    · rename_i hu
      obtain ⟨d0, h1, h2⟩ := cutS_get h
      exact ⟨d0, by rw [if_neg hu]; exact h1, h2⟩
theorem cutB_get {H B : Nat → Bool} : ∀ {l : List (Nat × List Dt)} {b : Nat} {cs : List Dt}, kv (cutB H B l) b = some cs → H b = false ∧ ∃ cs0, kv l b = some cs0 ∧ cs = cutC B cs0
  | [], b, cs, h => by cases h
  | (u, c) :: l, b, cs, h => by
    simp only [cutB] at h
    cases hH : H u with
    | true =>
      rw [hH] at h
      obtain ⟨h1, cs0, h2, h3⟩ := cutB_get (l := l) h
      exact ⟨h1, cs0, by rw [lk_cons, if_neg (fun e => by rw [e, h1] at hH; cases hH)]; exact h2, h3⟩
    | false =>
      rw [hH] at h
      simp only [cond_false, lk_cons] at h
      split at h
      · rename_i hu; subst hu; cases h; exact ⟨hH, c, by rw [lk_cons, if_pos rfl], rfl⟩
      · rename_i hu
        obtain ⟨h1, cs0, h2, h3⟩ := cutB_get h
        exact ⟨h1, cs0, by rw [lk_cons, if_neg hu]; exact h2, h3⟩
theorem cutB_none {H B : Nat → Bool} : ∀ {l : List (Nat × List Dt)} {b : Nat}, kv (cutB H B l) b = none → H b = true ∨ kv l b = none
  | [], b, h => .inr rfl
  | (u, c) :: l, b, h => by
    simp only [cutB] at h
    cases hH : H u with
    | true =>
      rw [hH] at h
      by_cases e : u = b
      · exact .inl (by rw [← e]; exact hH)
      · rw [lk_cons, if_neg e]; exact cutB_none (l := l) h
    | false =>
      rw [hH] at h
      simp only [cond_false, lk_cons] at h
      split at h
      · cases h
      · rename_i hu; rw [lk_cons, if_neg hu]; exact cutB_none h
theorem keep_rep {e : Env} {B : Nat → Bool} {v : Value} {d : Dt} (h : DRep e v d) : DRep (e.cut B fun _ => true) v (keepD B d) := by
  unfold keepD
  cases hk : d.ok B (fun _ => true) with
  | true => exact h.cut hk
  | false => exact .any
theorem cutC_rep {e : Env} {B : Nat → Bool} : ∀ {cs : List Dt} {vs : List Value}, DReps e vs cs → DReps (e.cut B fun _ => true) vs (cutC B cs)
  | [], vs, h => by
    have : vs = [] := List.eq_nil_of_length_eq_zero h.1
    subst this
    exact DReps.nil _
  | d :: cs, vs, h => by
    obtain ⟨v, vs', rfl, h1, h2⟩ := h.uncons
    exact DReps.cons (keep_rep h1) (cutC_rep h2)

section
variable {P : Program} {T : Nat → Option TI} {Γ : Ctx} {σ σ' τ : St} {o : Oper}

/-- What is handed: these variables, and no rows to which may be appended. -/
structure InOk (bs : List (Nat × List Dt)) (e : Env) : Prop where
  boxes : ∀ b cs, kv bs b = some cs → BoxAt e b cs
  nobox : ∀ b, kv bs b = none → e.bx b = none
  gi : ∀ g, e.gi g = none
  gr : ∀ k, e.gr k = none
  bx : ∀ b k, e.bx b = some k → k < e.w.heap.size ∧ e.cl k = some 0
  inj : ∀ b c k, e.bx b = some k → e.bx c = some k → b = c

structure Left (keep : List Nat) (e e' : Env) : Prop where
  kept : Kept (fun k => ∃ b, e.bx b = some k) e.w e'.w
  cl : ∀ k, k < e.w.heap.size → ¬ (∃ b, e.bx b = some k) → e'.cl k = e.cl k
  bx : ∀ b k, e'.bx b = some k → e.w.heap.size ≤ k ∨ ∃ c, e.bx c = some k
  keep : ∀ b, b ∈ keep → e'.bx b = e.bx b

/-- A function that writes variables of ours: what it is given, what they have ahead of it, and what it leaves. -/
def ImpC (P : Program) (f : FuncId) (keep : List Nat) (ds : List Dt) (bs : List (Nat × List Dt)) (R : Dt → List (Nat × List Dt) → Prop) : Prop :=
  ∀ (e : Env) (vs : List Value), InOk bs e → DReps e vs ds →
    Calls P f vs.toArray e.w (fun r w' => ∃ v d bs' e', r = .returned v ∧ e'.w = w' ∧ R d bs' ∧ InOk bs' e' ∧ DRep e' v d ∧ Left keep e e')

def inL (l : List Nat) (n : Nat) : Bool := match l with
  | [] => false
  | x :: l => bif Nat.beq x n then true else inL l n
theorem inL_mem : ∀ {l : List Nat} {n : Nat}, inL l n = true → n ∈ l
  | [], n, h => by cases h
  | x :: l, n, h => by
    simp only [inL] at h
    cases hx : Nat.beq x n with
    | true => rw [Nat.eq_of_beq_eq_true hx]; exact List.mem_cons_self
    | false => rw [hx] at h; exact List.mem_cons_of_mem _ (inL_mem h)

theorem mem_inL : ∀ {l : List Nat} {n : Nat}, n ∈ l → inL l n = true
  | [], n, h => by cases h
  | x :: l, n, h => by
    simp only [inL]
    cases hx : Nat.beq x n with
    | true => rfl
    | false =>
      rcases List.mem_cons.1 h with h | h
      · subst h; rw [Nat.beq_refl] at hx; cases hx
      · exact mem_inL h

/-- The variables that are handed are as is known. -/
def SubH (σ : St) (H : Nat → Bool) : List (Nat × List Dt) → Prop
  | [] => True
  | p :: l => (kv σ.b p.1 = some p.2 ∧ Dt.ok.oks H (fun _ => false) p.2 = true) ∧ SubH σ H l
theorem SubH.get {H : Nat → Bool} : ∀ {l : List (Nat × List Dt)} (_ : SubH σ H l) {t : Nat} {d : List Dt}, kv l t = some d → kv σ.b t = some d ∧ Dt.ok.oks H (fun _ => false) d = true
  | [], _, t, d, h => by cases h
  | (k, v) :: l, hs, t, d, h => by
    rw [lk_cons] at h
    split at h
    · rename_i hk; subst hk; cases h; exact hs.1
    · exact hs.2.get h

theorem cut_in {e : Env} {a : Act} (hc : Conc Γ σ e a) {bs : List (Nat × List Dt)} (hs : SubH σ (isIn bs) bs) : InOk bs (e.cut (isIn bs) fun _ => false) := by
  refine ⟨fun b cs hb => ?_, fun b hb => ?_, fun g => ?_, fun k => ?_, fun b k hk => ?_, fun b c k h1 h2 => ?_⟩
  · obtain ⟨h1, h2⟩ := hs.get hb
    obtain ⟨k, vs, el, h3, h4, h5⟩ := hc.boxes b cs h1
    refine ⟨k, vs, el, ?_, h4, h5.1, fun i v d hv hd => (h5.2 i v d hv hd).cut (oks_get h2 hd)⟩
    show (if isIn bs b = true then e.bx b else none) = _
    rw [if_pos (by simp [isIn, hb])]; exact h3
  · show (if isIn bs b = true then e.bx b else none) = _
    rw [if_neg (by simp [isIn, hb])]
  · show (if false = true then e.gi g else none) = _
    simp
  · show (match e.gr k with | some g => if false = true then some g else none | none => none) = none
    cases e.gr k <;> simp
  · have hk' : (if isIn bs b = true then e.bx b else none) = some k := hk
    split at hk'
    · obtain ⟨h1, _, h3, _⟩ := hc.env.bx b k hk'; exact ⟨h1, h3⟩
    · cases hk'
  · have h1' : (if isIn bs b = true then e.bx b else none) = some k := h1
    have h2' : (if isIn bs c = true then e.bx c else none) = some k := h2
    split at h1'
    · split at h2'
      · exact hc.env.inj b c k h1' h2'
      · cases h2'
    · cases h1'

/-- The environment behind a call. -/
def Env.after (e e' : Env) (bs bs' : List (Nat × List Dt)) : Env :=
  { w := e'.w, cl := e'.cl, bx := fun b => if isIn bs' b = true then e'.bx b else if isIn bs b = true then none else e.bx b, gr := e.gr, gi := e.gi }

theorem Conc.after {e e' : Env} {a : Act} (hc : Conc Γ σ e a) {keep : List Nat} {bs bs' : List (Nat × List Dt)} (hI : InOk bs' e') (hL : Left keep (e.cut (isIn bs) fun _ => false) e') (hfree : ∀ b, isIn bs' b = true → isIn bs b = true ∨ kv σ.b b = none) (hkb : ∀ b k, kv Γ.kb b = some k → isIn bs b = true → b ∈ keep) :
    Conc Γ ⟨cutS (fun b => !isIn bs b || inL keep b) σ.s, bs' ++ cutB (isIn bs) (fun b => !isIn bs b || inL keep b) σ.b, σ.g⟩ (e.after e' bs bs') a ∧ Ends e' (e.after e' bs bs') := by
  have hown : ∀ k, (∃ b, (e.cut (isIn bs) fun _ => false).bx b = some k) → ∃ b, isIn bs b = true ∧ e.bx b = some k := by
    rintro k ⟨b, hb⟩
    have hb' : (if isIn bs b = true then e.bx b else none) = some k := hb
    split at hb'
    · rename_i hin; exact ⟨b, hin, hb'⟩
    · cases hb'
  have hnot : ∀ b o, e.claimed b o → ¬ ∃ c, (e.cut (isIn bs) fun _ => false).bx c = some b := by
    intro b o hcl hh
    obtain ⟨c, _, h1⟩ := hown b hh
    have := hcl 0 (hc.env.bx c b h1).2.2.1
    omega
  have hngr : ∀ k g, e.gr k = some g → ¬ ∃ c, (e.cut (isIn bs) fun _ => false).bx c = some k := by
    intro k g hg hh
    obtain ⟨c, _, h1⟩ := hown k hh
    rw [(hc.env.bx c k h1).2.2.2] at hg
    cases hg
  have hoth : ∀ b k, isIn bs b = false → e.bx b = some k → ¬ ∃ c, (e.cut (isIn bs) fun _ => false).bx c = some k := by
    intro b k hb hk hh
    obtain ⟨c, h1, h2⟩ := hown k hh
    rw [hc.env.inj c b k h2 hk, hb] at h1
    cases h1
  have hnb : ∀ b, isIn bs b = false → ∀ k, e.bx b = some k → isIn bs' b = false := by
    intro b hb k hk
    cases hin : isIn bs' b with
    | false => rfl
    | true =>
      rcases hfree b hin with h | h
      · rw [hb] at h; cases h
      · rw [hc.nobox b h] at hk; cases hk
  have hE' : Ends e' (e.after e' bs bs') := by
    refine ⟨fun _ _ _ h1 h2 => ⟨h1, h2⟩, fun b k hk => ?_, fun g G hg => ?_, fun k g G cur hg => ?_⟩
    · show (if isIn bs' b = true then e'.bx b else _) = _
      rw [if_pos]
      · exact hk
      · cases hb : kv bs' b with
        | none => rw [hI.nobox b hb] at hk; cases hk
        | some cs => simp [isIn, hb]
    · rw [hI.gi g] at hg; cases hg
    · rw [hI.gr k] at hg; cases hg
  have hE : Ends (e.cut (fun b => !isIn bs b || inL keep b) fun _ => true) (e.after e' bs bs') := by
    refine ⟨fun b o v hcl hv => ?_, fun b k hk => ?_, fun g G hg => ⟨G, (show (if true = true then e.gi g else none) = some G from hg) ▸ (if_pos rfl).symm, rfl, rfl, Nat.le_refl _⟩, fun k g G cur h1 h2 h3 => ?_⟩
    · have hn := hnot b o hcl
      have hb := cell_lt' hv
      refine ⟨fun n hn' => hcl n ?_, ?_⟩
      · have : e'.cl b = e.cl b := hL.cl b hb hn
        show e.cl b = _
        rw [← this]; exact hn'
      · show e'.w.cell? _ = _
        rw [World.cell?_of_block (w := e.w) (hL.kept.block b hb hn)]; exact hv
    · have hk' : (if (!isIn bs b || inL keep b) = true then e.bx b else none) = some k := hk
      split at hk'
      · rename_i hB
        cases hin : isIn bs b with
        | false =>
          show (if isIn bs' b = true then e'.bx b else if isIn bs b = true then none else e.bx b) = _
          rw [hnb b hin k hk', hin]; simpa using hk'
        | true =>
          rw [hin] at hB
          have hm := inL_mem (show inL keep b = true by simpa using hB)
          have h1 : e'.bx b = some k := by
            rw [hL.keep b hm]
            show (if isIn bs b = true then e.bx b else none) = _
            rw [if_pos hin]; exact hk'
          exact hE'.bx b k h1
      · cases hk'
    · have h1' : (match e.gr k with | some g => if true = true then some g else none | none => none) = some g := h1
      have hg : e.gr k = some g := by
        cases hgk : e.gr k with
        | none => rw [hgk] at h1'; cases h1'
        | some g0 => rw [hgk] at h1'; simpa using h1'
      refine ⟨hg, cur, ?_, rfl⟩
      show e'.w.heap[k]? = _
      rw [hL.kept.block k (heap_lt h3) (hngr k g hg)]; exact h3
  refine ⟨⟨hc.size, hc.df, fun t d ht => ?_, fun b cs hb => ?_, fun b hb => ?_, hc.gs, ⟨?_, fun k hk ho => ?_, fun b k hk => ?_, fun b c k h1 h2 => ?_, fun k g hg => ?_, fun b k hk => ?_⟩⟩, hE'⟩
  · obtain ⟨d0, h1, rfl⟩ := cutS_get ht
    exact (keep_rep (hc.slots t d0 h1)).next hE
  · have hsplit : (∃ cs', kv bs' b = some cs' ∧ cs' = cs) ∨ (kv bs' b = none ∧ kv (cutB (isIn bs) (fun b => !isIn bs b || inL keep b) σ.b) b = some cs) := by
      clear hE hE' hnb hfree hI hL
      induction bs' with
      | nil => exact .inr ⟨rfl, hb⟩
      | cons p l ih =>
        obtain ⟨u, q⟩ := p
        simp only [List.cons_append, lk_cons] at hb ⊢
        split at hb
        · rename_i hu; cases hb; exact .inl ⟨cs, by rw [if_pos hu], rfl⟩
        · rename_i hu; rw [if_neg hu]; exact ih hb
    rcases hsplit with ⟨_, h1, rfl⟩ | ⟨h1, h2⟩
    · exact (hI.boxes b _ h1).ends hE' rfl
    · obtain ⟨h3, cs0, h4, rfl⟩ := cutB_get h2
      obtain ⟨k, vs, el, h5, h6, h7⟩ := hc.boxes b cs0 h4
      refine ⟨k, vs, el, ?_, ?_, (cutC_rep h7).next hE⟩
      · show (if isIn bs' b = true then e'.bx b else if isIn bs b = true then none else e.bx b) = _
        rw [hnb b h3 k h5, h3]; simpa using h5
      · show e'.w.heap[k]? = _
        rw [hL.kept.block k (heap_lt h6) (hoth b k h3 h5)]; exact h6
  · have hsplit : kv bs' b = none ∧ kv (cutB (isIn bs) (fun b => !isIn bs b || inL keep b) σ.b) b = none := by
      clear hE hE' hnb hfree hI hL
      induction bs' with
      | nil => exact ⟨rfl, hb⟩
      | cons p l ih =>
        obtain ⟨u, q⟩ := p
        simp only [List.cons_append, lk_cons] at hb ⊢
        split at hb
        · cases hb
        · rename_i hu; rw [if_neg hu]; exact ih hb
    show (if isIn bs' b = true then e'.bx b else if isIn bs b = true then none else e.bx b) = _
    rw [if_neg (by simp [isIn, hsplit.1])]
    split
    · rfl
    · rename_i hn
      rcases cutB_none hsplit.2 with h | h
      · exact absurd h hn
      · exact hc.nobox b h
  · refine ⟨hL.kept.os.trans hc.env.kept.os, hL.kept.tape.trans hc.env.kept.tape, hL.kept.output.trans hc.env.kept.output, Nat.le_trans hc.env.kept.size hL.kept.size, fun k hk ho => ?_⟩
    show e'.w.heap[k]? = _
    rw [hL.kept.block k (Nat.lt_of_lt_of_le hk hc.env.kept.size)]
    · exact hc.env.kept.block k hk ho
    · intro hh
      obtain ⟨c, _, h1⟩ := hown k hh
      rcases (hc.env.bx c k h1).2.1 with h | h
      · omega
      · exact ho h
  · show e'.cl k = _
    rw [hL.cl k (Nat.lt_of_lt_of_le hk hc.env.kept.size)]
    · exact hc.env.cl k hk ho
    · intro hh
      obtain ⟨c, _, h1⟩ := hown k hh
      rcases (hc.env.bx c k h1).2.1 with h | h
      · omega
      · exact ho h
  · have hk' : (if isIn bs' b = true then e'.bx b else if isIn bs b = true then none else e.bx b) = some k := hk
    split at hk'
    · obtain ⟨h1, h2⟩ := hI.bx b k hk'
      refine ⟨h1, ?_, h2, ?_⟩
      · rcases hL.bx b k hk' with h | h
        · exact .inl (Nat.le_trans hc.env.kept.size h)
        · obtain ⟨c, _, h3⟩ := hown k h
          exact (hc.env.bx c k h3).2.1
      · show e.gr k = none
        cases hg : e.gr k with
        | none => rfl
        | some g =>
          obtain ⟨_, _, _, h3, _⟩ := hc.env.gr k g hg
          rcases hL.bx b k hk' with h | h
          · have h' : e.w.heap.size ≤ k := h
            omega
          · exact absurd h (hngr k g hg)
    · split at hk'
      · cases hk'
      · rename_i hn
        obtain ⟨h1, h2, h3, h4⟩ := hc.env.bx b k hk'
        refine ⟨Nat.lt_of_lt_of_le h1 hL.kept.size, h2, ?_, h4⟩
        show e'.cl k = _
        rw [hL.cl k h1 (hoth b k (by simpa using hn) hk')]; exact h3
  · have h1' : (if isIn bs' b = true then e'.bx b else if isIn bs b = true then none else e.bx b) = some k := h1
    have h2' : (if isIn bs' c = true then e'.bx c else if isIn bs c = true then none else e.bx c) = some k := h2
    have mixed : ∀ b c, e'.bx b = some k → isIn bs c = false → e.bx c = some k → False := by
      intro b c hb hc1 hc2
      rcases hL.bx b k hb with h | h
      · have h' : e.w.heap.size ≤ k := h
        have := (hc.env.bx c k hc2).1
        omega
      · exact hoth c k hc1 hc2 h
    split at h1'
    · split at h2'
      · exact hI.inj b c k h1' h2'
      · split at h2'
        · cases h2'
        · rename_i hn; exact (mixed b c h1' (by simpa using hn) h2').elim
    · split at h1'
      · cases h1'
      · rename_i hn
        split at h2'
        · exact (mixed c b h2' (by simpa using hn) h1').elim
        · split at h2'
          · cases h2'
          · exact hc.env.inj b c k h1' h2'
  · obtain ⟨G, cur, h1, h2, h3, h4, h5⟩ := hc.env.gr k g hg
    refine ⟨G, cur, h1, Nat.lt_of_lt_of_le h2 hL.kept.size, h3, ?_, ?_⟩
    · show e'.cl k = _
      rw [hL.cl k h2 (hngr k g hg)]; exact h4
    · show e'.w.heap[k]? = _
      rw [hL.kept.block k h2 (hngr k g hg)]; exact h5
  · have h1 := hc.env.kb b k hk
    refine hE.bx b k ?_
    show (if (!isIn bs b || inL keep b) = true then e.bx b else none) = _
    rw [if_pos]
    · exact h1
    · cases hin : isIn bs b with
      | false => rfl
      | true =>
        have := mem_inL (hkb b k hk hin)
        simp [this]
end
end Go.Proofs.YtcjooalmhppkiaaRRRR
