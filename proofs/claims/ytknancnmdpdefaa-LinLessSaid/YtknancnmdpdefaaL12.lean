/- The law LinLess. -/
import Derived.Test.YtknancnmdpdefaaL8
import Derived.Test.YtknancnmdpdefaaAbs18
namespace Go.Proofs.Ytknancnmdpdefaa
open Go.RowKit
set_option maxRecDepth 100000

theorem max_step {P : Program} {S : Nat → Option Dt} {B : Nat → Option (List Dt)} {o : Oper} {x y : Operand} {ats : Array TypeId} {a b : Int} (ho : o.op = .call { callee := .builtin .max, args := #[x, y], argTypes := ats }) (hx : ev S x = some (dI a)) (hy : ev S y = some (dI b)) : QStep P o S B (dI (if b > a then b else a)) none := by
  refine qstep_run fun ac e hs => ?_
  have hx1 := raw_eq (hs.1 x (by rw [ho]; simp [Op.operands, Call.operands]) _ hx)
  have hy1 := raw_eq (hs.1 y (by rw [ho]; simp [Op.operands, Call.operands]) _ hy)
  refine ⟨_, ?_, .p (.raw _)⟩
  obtain ⟨dst, op, type, pos, after, guard⟩ := o
  simp only at ho
  subst ho
  simp only [execOp, resolve, invoke, builtin, Sem.run_bind, Sem.run_pure, Result.andThen_ok, List.map_toArray, List.map_cons, List.map_nil, hx1, hy1, run_max_int2]

def runC (l : List CallT) : Cont → List Nat → Cont
  | c, [] => c
  | c, i :: o => match l[i]? with
    | none => runC l c o
    | some x => runC l (does c x.op).1 o
theorem runC_snoc (l : List CallT) {i : Nat} {x : CallT} (hx : l[i]? = some x) : ∀ (o : List Nat) (c : Cont), runC l c (o ++ [i]) = (does (runC l c o) x.op).1
  | [], c => by simp [runC, hx]
  | j :: o, c => by
    simp only [List.cons_append, runC]
    cases l[j]? with
    | none => exact runC_snoc l hx o c
    | some y => exact runC_snoc l hx o _
theorem runF_snoc (l : List CallT) {i : Nat} {x : CallT} (hx : l[i]? = some x) : ∀ (o : List Nat) (c : Cont), runF l c (o ++ [i]) = (runF l c o && tellsB (runC l c o) x)
  | [], c => by simp [runF, runC, hx]
  | j :: o, c => by
    simp only [List.cons_append, runF, runC]
    cases l[j]? with
    | none => rfl
    | some y => simp only [runF_snoc l hx o, Bool.and_assoc]
theorem runC_len (l : List CallT) : ∀ (o : List Nat) (c : Cont), (runC l c o).keys.length ≤ c.keys.length + o.length ∧ (runC l c o).vals.length ≤ c.vals.length + o.length
  | [], c => ⟨Nat.le_refl _, Nat.le_refl _⟩
  | i :: o, c => by
    simp only [runC, List.length_cons]
    cases l[i]? with
    | none => have := runC_len l o c; simp only; omega
    | some x =>
      have h1 := runC_len l o (does c x.op).1
      have h2 := does_len c x.op
      simp only; omega
theorem runF_app (l : List CallT) (y : CallT) : ∀ (o : List Nat) (c : Cont), (∀ x, x ∈ o → x < l.length) → runF (l ++ [y]) c o = runF l c o ∧ runC (l ++ [y]) c o = runC l c o
  | [], c, _ => ⟨rfl, rfl⟩
  | i :: o, c, h => by
    have hi := h i List.mem_cons_self
    have ih := fun c => runF_app l y o c fun x hx => h x (List.mem_cons_of_mem _ hx)
    simp only [runF, runC, List.getElem?_append_left hi]
    cases l[i]? with
    | none => exact ⟨rfl, (ih c).2⟩
    | some x => simp only [(ih _).1, (ih _).2, and_self]

/-- One more, behind all. -/
theorem more_fit {c : Cont} {l : List CallT} {w : List Nat} (h : FitAll c l w) {E : Int} (hE : ∀ (i : Nat) x, l[i]? = some x → x.first ≤ E) {y : CallT} (hy : E < y.last) (ht : tellsB (runC l c w) y = true) : FitAll c (l ++ [y]) (w ++ [l.length]) := by
  obtain ⟨h1, h2, h3, h4⟩ := h
  have hlt : ∀ x, x ∈ w → x < l.length := fun x hx => (h2 x).1 hx
  have hyl : (l ++ [y])[l.length]? = some y := by simp
  refine ⟨?_, fun i => ?_, ?_, ?_⟩
  · rw [List.nodup_append]
    exact ⟨h1, by simp, fun a ha b hb e => by simp at hb; have := hlt a ha; omega⟩
  · rw [List.mem_append, h2]; simp; omega
  · unfold OrdOk at h3 ⊢
    rw [List.pairwise_append]
    refine ⟨?_, by simp, fun a ha b hb x z hx hz => ?_⟩
    · rw [List.pairwise_iff_getElem] at h3 ⊢
      intro a b ha hb hab x z hx hz
      rw [List.getElem?_append_left (hlt _ (List.getElem_mem ha))] at hx
      rw [List.getElem?_append_left (hlt _ (List.getElem_mem hb))] at hz
      exact h3 a b ha hb hab x z hx hz
    · simp only [List.mem_singleton] at hb
      subst hb
      rw [hyl] at hz
      cases hz
      rw [List.getElem?_append_left (hlt a ha)] at hx
      have := hE a x hx
      exact decide_eq_false (by omega)
  · rw [runF_snoc _ hyl, (runF_app l y w c hlt).1, (runF_app l y w c hlt).2, h4, ht]; rfl

/-- Without the last one. -/
theorem less_fit {c : Cont} {l : List CallT} {u : List Nat} {g : Nat} (h : FitAll c l (u ++ [g])) : FitAll c (l.take g ++ l.drop (g + 1)) (u.map fun i => if i < g then i else i - 1) := by
  have hlen := fit_len h
  obtain ⟨h1, h2, h3, h4⟩ := h
  rw [List.nodup_append] at h1
  obtain ⟨n1, _, n3⟩ := h1
  have hg : g < l.length := (h2 g).1 (by simp)
  have hne : ∀ i, i ∈ u → i ≠ g := fun i hi e => n3 i hi g (by simp) e
  have hlt : ∀ i, i ∈ u → i < l.length := fun i hi => (h2 i).1 (List.mem_append_left _ hi)
  have hl' : (l.take g ++ l.drop (g + 1)).length = l.length - 1 := by simp; omega
  have hul : u.length = l.length - 1 := by simp at hlen; omega
  have hget : ∀ i, i ∈ u → (l.take g ++ l.drop (g + 1))[if i < g then i else i - 1]? = l[i]? := fun i hi => by
    have := hne i hi
    have := hlt i hi
    split
    · rw [List.getElem?_append_left (by simp; omega), List.getElem?_take, if_pos (by assumption)]
    · rw [List.getElem?_append_right (by simp; omega), List.getElem?_drop]
      congr 1
      simp; omega
  have hnd : (u.map fun i => if i < g then i else i - 1).Nodup := by
    rw [List.nodup_iff_pairwise_ne, List.pairwise_iff_getElem]
    intro a b ha hb hab e
    simp only [List.length_map] at ha hb
    simp only [List.getElem_map] at e
    have e1 := hne _ (List.getElem_mem ha)
    have e2 := hne _ (List.getElem_mem hb)
    have := (List.pairwise_iff_getElem.1 (List.nodup_iff_pairwise_ne.1 n1)) a b ha hb hab
    split at e <;> split at e <;> omega
  have hlt' : ∀ x, x ∈ (u.map fun i => if i < g then i else i - 1) → x < (l.take g ++ l.drop (g + 1)).length := fun x hx => by
    obtain ⟨y, hy, rfl⟩ := List.mem_map.1 hx
    have := hne y hy
    have := hlt y hy
    rw [hl']
    split <;> omega
  refine ⟨hnd, fun i => ⟨hlt' i, all_mem hnd hlt' (by rw [List.length_map, hl', hul]) i⟩, ?_, ?_⟩
  · unfold OrdOk at h3 ⊢
    rw [List.pairwise_map]
    have h5 := (List.pairwise_append.1 h3).1
    rw [List.pairwise_iff_getElem] at h5 ⊢
    intro a b ha hb hab x y hx hy
    rw [hget _ (List.getElem_mem ha)] at hx
    rw [hget _ (List.getElem_mem hb)] at hy
    exact h5 a b ha hb hab x y hx hy
  · have hru : runF l c u = true := by
      rw [runF_snoc l (List.getElem?_eq_getElem hg)] at h4
      simp only [Bool.and_eq_true] at h4
      exact h4.1
    have key : ∀ (p : List Nat) (c : Cont), (∀ x, x ∈ p → x ∈ u) → runF (l.take g ++ l.drop (g + 1)) c (p.map fun i => if i < g then i else i - 1) = runF l c p := by
      intro p
      induction p with
      | nil => intro c _; rfl
      | cons i p ih =>
        intro c hp
        simp only [List.map_cons, runF]
        rw [hget i (hp i List.mem_cons_self)]
        cases l[i]? with
        | none => rfl
        | some x => simp only; rw [ih _ fun x hx => hp x (List.mem_cons_of_mem _ hx)]
    rw [key u c fun x hx => hx]; exact hru

theorem calls_split (l : List CallT) (g : Nat) : pCalls l = pCalls (l.take g) ++ pCalls (l.drop g) := by
  unfold pCalls
  rw [← List.flatMap_append, List.take_append_drop]
theorem calls_sl0 {l : List CallT} {g : Nat} : ∀ (i : Nat) q, (pCalls (l.take g))[i]? = some q → (pCalls l)[(0 : Int).toNat * 10 + i]? = some q := by
  intro i q h
  have hi := (List.getElem?_eq_some_iff.1 h).1
  rw [calls_split l g, show (0 : Int).toNat * 10 + i = i by simp, List.getElem?_append_left hi]; exact h
theorem calls_slD {l : List CallT} {a : Nat} (ha : a ≤ l.length) : ∀ (i : Nat) q, (pCalls (l.drop a))[i]? = some q → (pCalls l)[((a : Nat) : Int).toNat * 10 + i]? = some q := by
  intro i q h
  rw [calls_split l a, Int.toNat_natCast, List.getElem?_append_right (by rw [pCalls_len, List.length_take]; omega), pCalls_len, List.length_take, Nat.min_eq_left ha]
  rw [show a * 10 + i - a * 10 = i by omega]; exact h
end Go.Proofs.Ytknancnmdpdefaa
