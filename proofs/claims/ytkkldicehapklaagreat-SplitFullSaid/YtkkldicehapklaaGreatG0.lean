/- Scopes in which a run jumps back to their beginning. -/
import Derived.Test.YtkkldicehapklaaGreatShort
import Derived.ScopeJumps
namespace Go.Proofs.YtkkldicehapklaaGreat
open Go.RowKit
set_option maxRecDepth 100000
def jumpQ (l : Nat) (J : St → Prop) (Q : Exit → St → Prop) : Exit → St → Prop
 | .goto l', σ => l' = l ∧ J σ
 | ex, σ => Q ex σ
theorem kC5 {p : Nat → Prop} : ∀ n, p n → ∃ k, p k ∧ ∀ m, p m → k ≤ m := by
 intro n
 induction n using Nat.strongRecOn with
 | _ n ih =>
  intro h
  by_cases hh : ∃ m, m < n ∧ p m
  ·obtain ⟨m, h1, h2⟩ := hh
   exact ih m h1 h2
  ·refine ⟨n, h, fun m hm => ?_⟩
   rcases Nat.lt_or_ge m n with h1 | h1
   ·exact absurd ⟨m, h1, hm⟩ hh
   ·exact h1
section
variable {P : Program} {Γ : Ctx} {Q : Exit → St → Prop} {σ : St} {r : Code}
theorem awp_jumps {ι : Type} (ok : ι → Prop) (I : ι → St) (μ : ι → Nat) {l : Nat} (i0 : ι) (hk : ok i0) (h0 : Ghost Γ σ (I i0)) (pass : ∀ i, ok i → AWP P Γ r (jumpQ l (fun σ' => ∃ j, ok j ∧ μ j < μ i ∧ Ghost Γ σ' (I j)) Q) (I i)) : AWP P Γ (.scope (.seq (.label l) r)) Q σ := by
 classical
 refine ⟨fun a e hc => ?_⟩
 let at_ : Act → World → Nat → Prop := fun a w n => ∃ i e, ok i ∧ Conc Γ (I i) e a ∧ e.w = w ∧ μ i = n
 let low : Act → World → Nat := fun a w => if h : ∃ n, at_ a w n then Classical.choose (kC5 (p := at_ a w) h.choose h.choose_spec) else 0
 have low_is : ∀ a w n, at_ a w n → at_ a w (low a w) ∧ low a w ≤ n := fun a w n hn => by
  have h : ∃ n, at_ a w n := ⟨n, hn⟩
  have hs := Classical.choose_spec (kC5 (p := at_ a w) h.choose h.choose_spec)
  have e : low a w = Classical.choose (kC5 (p := at_ a w) h.choose h.choose_spec) := dif_pos h
  rw [e]
  exact ⟨hs.1, hs.2 n hn⟩
 have body : ∀ (a : Act) (w : World) (n : Nat), at_ a w n → r.wp P (Exit.jump l (fun a' w' => (∃ m, at_ a' w' m) ∧ low a' w' < n) (jE4 Γ Q)) a w := by
  rintro a w n ⟨i, e, h1, h2, rfl, rfl⟩
  refine Code.wp_mono (fun ex a' w' hh => ?_) ((pass i h1).run a e h2)
  obtain ⟨σ', e', rfl, h3, h4⟩ := hh
  cases ex with
  | goto l' =>
   obtain ⟨rfl, j, h5, h6, h7⟩ := h4
   obtain ⟨e2, h8, h9⟩ := h7 a' e' h3
   have hat : at_ a' e'.w (μ j) := ⟨j, e2, h5, h9, h8, rfl⟩
   exact ⟨rfl, ⟨_, hat⟩, Nat.lt_of_le_of_lt (low_is _ _ _ hat).2 h6⟩
  | _ => exact ⟨σ', e', rfl, h3, h4⟩
 obtain ⟨e1, g1, g2⟩ := h0 a e hc
 have hst : at_ a e.w (μ i0) := ⟨i0, e1, hk, g2, g1, rfl⟩
 refine wp_scope_jumps (rest := .seq .skip r) l (fun a w => ∃ n, at_ a w n) low (by simp [findLabel]) ?_ ?_
 ·refine wp_seq (wp_label ?_)
  exact Code.wp_mono (fun ex a' w' hh => by cases ex <;> first | exact ⟨hh.1, hh.2.1⟩ | exact hh) (body a e.w _ hst)
 ·rintro a w ⟨n, hn⟩
  exact wp_seq (wp_skip (body a w _ (low_is a w n hn).1))
end
section
variable {P : Program} {Γ : Ctx} {Q : Exit → St → Prop} {K : St → Prop} {J : St → Prop} {σ : St} {l id : Nat}
theorem awp_goto (h : Q (.goto l) σ) : AWP P Γ (.goto l) Q σ := ⟨fun _ e hc => wp_goto ⟨σ, e, rfl, hc, h⟩⟩
theorem kE2 (h : Q (.goto l) σ) : jR0 K Q (.goto l) σ := h
theorem jW0 (h : Q (.goto l) σ) : jD4 id Q (.goto l) σ := h
theorem q_jump (h : J σ) : jumpQ l J Q (.goto l) σ := ⟨rfl, h⟩
theorem q_last_panic {Γ' : Ctx} {l1 l3 : List Oper} {m : Nat} {ch : List PanicEntry} (h : Q (.panic ch) σ) : lastQ P Γ' l1 l3 m Q (.panic ch) σ := h
theorem q_jump_panic {ch : List PanicEntry} (h : Q (.panic ch) σ) : jumpQ l J Q (.panic ch) σ := h
end
end Go.Proofs.YtkkldicehapklaaGreat
