/- How arguments are opened into plain data, for calls by contract. -/
import Derived.Test.YtcjooalmhppkiaaRRRRAbs13
import Derived.Test.YtcjooalmhppkiaaRRRRLift
namespace Go.Proofs.YtcjooalmhppkiaaRRRR
open Go.ChangeShapes Go.WideShapes Go.ChangeAt Go.RowKit Go.Deep

/-- Everything that was there is claimed. -/
abbrev envA (w : World) : Env := env0 w (fun _ => none)
theorem claimedA (w : World) (b o : Nat) : (envA w).claimed b o := fun k hk => by cases hk
def PReps (e : Env) (vs : List Value) (ps : List Pl) : Prop := vs.length = ps.length ∧ ∀ (i : Nat) v x, vs[i]? = some v → ps[i]? = some x → PRep e v x ∧ leafV v = true
theorem PReps.nil (e : Env) : PReps e [] [] := ⟨rfl, fun i v x h => by simp at h⟩
theorem PReps.cons {e : Env} {v : Value} {x : Pl} {vs : List Value} {ps : List Pl} (h : PRep e v x) (hl : leafV v = true) (hs : PReps e vs ps) : PReps e (v :: vs) (x :: ps) := by
  refine ⟨by simp [hs.1], fun i u y h1 h2 => ?_⟩
  cases i with
  | zero => simp at h1 h2; subst h1; subst h2; exact ⟨h, hl⟩
  | succ i => exact hs.2 i u y (by simpa using h1) (by simpa using h2)
theorem PReps.int {e : Env} {k : IntKind} {n : Int} {vs : List Value} {ps : List Pl} (hs : PReps e vs ps) : PReps e (.int k n :: vs) (.raw (.int k n) :: ps) := .cons (.raw _) rfl hs
theorem PReps.bool {e : Env} {b : Bool} {vs : List Value} {ps : List Pl} (hs : PReps e vs ps) : PReps e (.bool b :: vs) (.raw (.bool b) :: ps) := .cons (.raw _) rfl hs
theorem PReps.append {e : Env} {vs us : List Value} {ps qs : List Pl} (h : PReps e vs ps) (h' : PReps e us qs) : PReps e (vs ++ us) (ps ++ qs) := by
  refine ⟨by simp [h.1, h'.1], fun i v d h1 h2 => ?_⟩
  rcases Nat.lt_or_ge i vs.length with hi | hi
  · rw [List.getElem?_append_left hi] at h1
    rw [List.getElem?_append_left (by rw [← h.1]; exact hi)] at h2
    exact h.2 i v d h1 h2
  · rw [List.getElem?_append_right hi] at h1
    rw [List.getElem?_append_right (by rw [← h.1]; exact hi), ← h.1] at h2
    exact h'.2 _ v d h1 h2

section
variable {H : Type} {enc : TypeId × Value → H} {P : Program} {w : World} {base : Nat} {spare : Nat → Bool} {held : Bool}

theorem read_none' {t e : TypeId} {len cap : Nat} (ht : P.underlying t = some (.slice e)) (h : Read enc P w base spare held t [.slice none len cap]) : cap = 0 := by
  obtain ⟨m, y, h⟩ := h
  rcases open_slice ht h with ⟨e, _⟩ | ⟨a, len, cap, m', n, D, Pl, e, hb, hl, hm, hmm, hx, hi⟩
  · simp at e; omega
  · simp at e

/-- A slice whose elements read as data of ours. -/
theorem read_sl {α : Type} {t e : TypeId} {sz : Nat} (f : α → List Pl) (ok : α → Prop) (hsz : 0 < sz) (hf : ∀ x, (f x).length = sz) (ht : P.underlying t = some (.slice e)) (hc : P.cellsOf e = sz)
    (hopen : ∀ cs, cs.length = sz → Read enc P w base spare held e cs → ∃ x, ok x ∧ PReps (envA w) cs (f x)) {v : Value} (h : Read enc P w base spare held t [v]) :
    ∃ l : List α, (∀ x ∈ l, ok x) ∧ l.length ≤ maxLen ∧ PRep (envA w) v (.sl false l.length (l.flatMap f)) ∧ leafV v = true := by
  have h0 := h
  obtain ⟨A, l0, cap, e1, hl, hm, hok, hcell⟩ := read_rows (e := e) (sz := sz) (α := { p : List Value × α // p.1.length = sz ∧ ok p.2 ∧ PReps (envA w) p.1 (f p.2) }) (fun p => p.1.1) (fun _ => True) hsz (fun p => p.2.1) ht hc (fun cs hlen hr => by
    obtain ⟨x, h1, h2⟩ := hopen cs hlen hr
    exact ⟨⟨(cs, x), hlen, h1, h2⟩, rfl, trivial⟩) h
  injection e1 with e1 _
  subst e1
  have hget : ∀ (l : List { p : List Value × α // p.1.length = sz ∧ ok p.2 ∧ PReps (envA w) p.1 (f p.2) }) (j : Nat) (q : Pl), ((l.map fun p => p.1.2).flatMap f)[j]? = some q → ∃ p, l[j / sz]? = some p ∧ (f p.1.2)[j % sz]? = some q := by
    intro l
    induction l with
    | nil => intro j q h; simp at h
    | cons p l ih =>
      intro j q h
      rw [List.map_cons, List.flatMap_cons] at h
      rcases Nat.lt_or_ge j sz with hj | hj
      · rw [List.getElem?_append_left (by rw [hf]; exact hj)] at h
        exact ⟨p, by rw [Nat.div_eq_of_lt hj]; rfl, by rw [Nat.mod_eq_of_lt hj]; exact h⟩
      · rw [List.getElem?_append_right (by rw [hf]; exact hj), hf] at h
        obtain ⟨p', h1, h2⟩ := ih _ q h
        refine ⟨p', ?_, by rw [Nat.mod_eq_sub_mod hj]; exact h2⟩
        rw [Nat.div_eq_sub_div hsz hj]
        simpa using h1
  refine ⟨l0.map fun p => p.1.2, fun x hx => ?_, by simp; omega, ?_, rfl⟩
  · obtain ⟨p, _, rfl⟩ := List.mem_map.1 hx
    exact p.2.2.1
  · rw [List.length_map]
    refine sl_shut hl hm (fun e' => ?_) (fun e' => by cases e') ?_
    · subst e'; exact read_none' ht h0
    · rcases hl0 : l0 with _ | ⟨p, l1⟩
      · exact .inl (by simp)
      · right
        rw [← hl0]
        obtain ⟨b, o, hA, _, _⟩ := hcell 0 p (by rw [hl0]; rfl)
        have hall : ∀ (j : Nat) q, ((l0.map fun p => p.1.2).flatMap f)[j]? = some q → ∃ u, w.cell? ⟨b, o + j, none⟩ = some u ∧ leafV u = true ∧ PRep (envA w) u q := by
          intro j q hq
          obtain ⟨p', h1, h2⟩ := hget l0 j q hq
          obtain ⟨b', o', hA', _, hc'⟩ := hcell _ p' h1
          rw [hA] at hA'
          cases hA'
          have hm' : j % sz < p'.1.1.length := by rw [p'.2.1]; exact Nat.mod_lt _ hsz
          have hu := hc' (j % sz) _ (List.getElem?_eq_getElem hm')
          obtain ⟨h5, h6⟩ := p'.2.2.2.2 (j % sz) _ q (List.getElem?_eq_getElem hm') h2
          have hj : j / sz * sz + j % sz = j := by rw [Nat.mul_comm]; exact Nat.div_add_mod j sz
          rw [hj] at hu
          exact ⟨_, hu, h6, h5⟩
        refine ⟨b, o, hA, fun j => (w.cell? ⟨b, o + j, none⟩).getD undef, fun j q hq => ?_⟩
        obtain ⟨u, h1, h2, h3⟩ := hall j q hq
        have hg : (w.cell? ⟨b, o + j, none⟩).getD undef = u := by rw [h1]; rfl
        show _ ∧ _ = some ((w.cell? ⟨b, o + j, none⟩).getD undef) ∧ leafV ((w.cell? ⟨b, o + j, none⟩).getD undef) = true ∧ PRep _ ((w.cell? ⟨b, o + j, none⟩).getD undef) q
        rw [hg]
        exact ⟨claimedA _ _ _, h1, h2, h3⟩

/-- A struct that came in. -/
theorem arg_agg {α : Type} {t : TypeId} {fs : Array Field} {v : Value} {r : Reach} {b0 : Nat} (f : α → List Pl) (ok : α → Prop) (hu : P.underlying t = some (.struct fs)) (hv : Value.okWide P w r b0 t v) (h : Read enc P w base spare held t v.cells.toList)
    (hopen : ∀ cs, cs.length = P.cellsOf t → Read enc P w base spare held t cs → ∃ x, ok x ∧ PReps (envA w) cs (f x)) : ∃ x, ok x ∧ DRep (envA w) v (.agg ((f x).map .p)) := by
  obtain ⟨cs, rfl, hcs⟩ := okWide_struct hu hv
  obtain ⟨x, h1, h2⟩ := hopen cs.toList (by simpa using hcs) h
  refine ⟨x, h1, ?_⟩
  have : DRep (envA w) (.agg cs.toList.toArray) (.agg ((f x).map .p)) := .agg (by simp [h2.1]) (fun i u d hu hd => by
    rw [List.getElem?_map] at hd
    rcases hp : (f x)[i]? with _ | q
    · rw [hp] at hd; cases hd
    · rw [hp] at hd
      cases hd
      exact .p (h2.2 i u q hu hp).1)
  simpa using this
theorem run_law {P : Program} {f : FuncId} {ds : List Dt} (hc : PureC P f ds (dB true)) {w : World} {vs : List Value} (h : DReps (envA w) vs ds) : Calls P f vs.toArray w fun e w' => e = .returned (.bool true) ∧ Below w.heap.size w w' := by
  refine (hc w _ vs h).mono fun e w' hh => ?_
  obtain ⟨v, cl', rfl, hb, _, hr⟩ := hh
  exact ⟨by rw [raw_eq hr], hb⟩
end
end Go.Proofs.YtcjooalmhppkiaaRRRR
