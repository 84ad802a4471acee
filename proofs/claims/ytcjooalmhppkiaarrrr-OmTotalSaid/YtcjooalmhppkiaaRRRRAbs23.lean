/- Less is known of slots and variables; a variable's slice to which may be appended. -/
import Derived.Test.YtcjooalmhppkiaaRRRRAbs22
namespace Go.Proofs.YtcjooalmhppkiaaRRRR
open Go.RowKit
section
variable {P : Program} {T : Nat → Option TI} {Γ : Ctx} {σ : St}
def lowD : Dt → Dt
  | .tip _ n ps => .p (.sl false n ps)
  | .p x => .p (lowP x)
  | d => d
theorem lowD_rep {e : Env} {v : Value} {d : Dt} (h : DRep e v d) : DRep e v (lowD d) := by
  cases h with
  | p h => exact .p h.low
  | tip h _ => exact .p h
  | agg hl h => exact .agg hl h
  | tup hl h => exact .tup hl h
  | ptr h => exact .ptr h
  | el h => exact .el h
  | arr h => exact .arr h
  | fn a b c d => exact .fn a b c d
  | any => exact .any
/-- A slot, of which less is known. -/
theorem lowS_ghost (t : Nat) {d d' : Dt} (ht : kv σ.s t = some d) (hd : lowD d = d') : Ghost Γ σ ⟨(t, d') :: σ.s, σ.b, σ.g⟩ := by
  intro a e hc
  refine ⟨e, rfl, hc.size, hc.df, fun u c hu => ?_, hc.boxes, hc.nobox, hc.gs, hc.env⟩
  simp only [lk_cons] at hu
  split at hu
  · rename_i htu
    subst htu
    cases hu
    rw [← hd]
    exact lowD_rep (hc.slots _ _ ht)
  · exact hc.slots u c hu
/-- A variable, of which less is known. -/
theorem lowB_ghost (nm : Nat) {cs cs' : List Dt} (hb : kv σ.b nm = some cs) (hd : cs.map lowD = cs') : Ghost Γ σ ⟨σ.s, (nm, cs') :: σ.b, σ.g⟩ := by
  intro a e hc
  refine ⟨e, rfl, hc.size, hc.df, hc.slots, fun u c hu => ?_, fun u hu => ?_, hc.gs, hc.env⟩
  · simp only [lk_cons] at hu
    split at hu
    · rename_i htu
      subst htu
      cases hu
      obtain ⟨k, vs, el, h1, h2, h3, h4⟩ := hc.boxes _ _ hb
      refine ⟨k, vs, el, h1, h2, by rw [← hd, List.length_map]; exact h3, fun i v d hv hdd => ?_⟩
      rw [← hd, List.getElem?_map] at hdd
      cases hcs : cs[i]? with
      | none => rw [hcs] at hdd; cases hdd
      | some x => rw [hcs] at hdd; cases hdd; exact lowD_rep (h4 i v x hv hcs)
    · exact hc.boxes u c hu
  · simp only [lk_cons] at hu
    split at hu
    · cases hu
    · exact hc.nobox u hu
/-- A variable's slice that is full may be appended to. -/
theorem tipB_ghost (nm g el sz : Nat) {n : Nat} {ps : List Pl} (hb : kv σ.b nm = some [.p (.sl true n ps)]) (hg : kv σ.g g = none) (hl : ps.length = n * sz) : Ghost Γ σ ⟨σ.s, (nm, [.tip g n ps]) :: σ.b, (g, ⟨el, sz, n⟩) :: σ.g⟩ := by
  intro a e hc
  have hgi : e.gi g = none := by rw [hc.gs]; exact hg
  have hng : ∀ k, e.gr k ≠ some g := fun k hk => by obtain ⟨G, _, h, _⟩ := hc.env.gr k g hk; rw [hgi] at h; cases h
  have hE : Ends e { e with gi := fun h => if h = g then some ⟨el, sz, n⟩ else e.gi h } :=
    ⟨fun _ _ _ h1 h2 => ⟨h1, h2⟩, fun _ _ h => h, fun g' G h => ⟨G, by show (if g' = g then _ else e.gi g') = _; rw [if_neg (fun e' => by rw [e', hgi] at h; cases h)]; exact h, rfl, rfl, Nat.le_refl _⟩, fun _ _ _ cur h1 _ h3 => ⟨h1, cur, h3, rfl⟩⟩
  refine ⟨{ e with gi := fun h => if h = g then some ⟨el, sz, n⟩ else e.gi h }, rfl, hc.size, hc.df, fun u d hu => (hc.slots u d hu).next hE, fun b cs hbb => ?_, fun u hu => ?_, fun h => ?_, hc.env.kept, hc.env.cl, hc.env.bx, hc.env.inj, fun k g' hk => ?_, hc.env.kb⟩
  · simp only [lk_cons] at hbb
    split at hbb
    · rename_i htu
      subst htu
      cases hbb
      obtain ⟨k, vs, el0, h1, h2, h3⟩ := hc.boxes _ _ hb
      obtain ⟨v, vs', rfl, h4, h5⟩ := h3.uncons
      have hv' : vs' = [] := List.eq_nil_of_length_eq_zero h5.1
      subst hv'
      refine ⟨k, [v], el0, h1, h2, DReps.cons ?_ (DReps.nil _)⟩
      cases h4 with
      | p h1 =>
        have h2 := (h1.next hE).low
        obtain ⟨A, cap, rfl, h3, h4, h5, h6, h7⟩ := sl_open h1
        exact .tip h2 ⟨⟨el, sz, n⟩, A, cap, by simp, rfl, Nat.le_refl _, hl, .inl (h6 rfl)⟩
    · exact (hc.boxes b cs hbb).ends hE rfl
  · simp only [lk_cons] at hu
    split at hu
    · cases hu
    · exact hc.nobox u hu
  · show (if h = g then _ else e.gi h) = _
    simp only [lk_cons]
    by_cases e1 : h = g
    · subst e1; simp
    · rw [if_neg e1, if_neg (fun e' => e1 e'.symm)]; exact hc.gs h
  · obtain ⟨G, cur, h1, h2⟩ := hc.env.gr k g' hk
    exact ⟨G, cur, by show (if g' = g then _ else e.gi g') = _; rw [if_neg (fun e' => hng k (by rw [← e']; exact hk))]; exact h1, h2⟩
end
end Go.Proofs.YtcjooalmhppkiaaRRRR
