/- What Fits and First tell, by orders. -/
import Derived.Test.YtknancnmdpdefaaLM
import Derived.Test.YtknancnmdpdefaaL7
namespace Go.Proofs.Ytknancnmdpdefaa
open Go.RowKit

theorem nodup_sub_len {α : Type} [DecidableEq α] : ∀ (a b : List α), a.Nodup → (∀ x, x ∈ a → x ∈ b) → a.length ≤ b.length
  | [], b, _, _ => Nat.zero_le _
  | x :: a, b, hn, hs => by
    obtain ⟨h1, h2⟩ := List.nodup_cons.1 hn
    have hx := hs x List.mem_cons_self
    have := nodup_sub_len a (b.erase x) h2 (fun y hy => (List.mem_erase_of_ne (fun e => h1 (by rw [← e]; exact hy))).2 (hs y (List.mem_cons_of_mem _ hy)))
    rw [List.length_erase_of_mem hx] at this
    have hp : 0 < b.length := List.length_pos_of_mem hx
    simp only [List.length_cons]; omega
theorem all_mem {o : List Nat} {n : Nat} (hn : o.Nodup) (hlt : ∀ x, x ∈ o → x < n) (hl : o.length = n) : ∀ i, i < n → i ∈ o := by
  intro i hi
  refine Classical.byContradiction fun hno => ?_
  have := nodup_sub_len (i :: o) (List.range n) (List.nodup_cons.2 ⟨hno, hn⟩) (fun x hx => by
    rcases List.mem_cons.1 hx with h | h
    · rw [h]; exact List.mem_range.2 hi
    · exact List.mem_range.2 (hlt x h))
  simp at this; omega
theorem fit_len {c : Cont} {l : List CallT} {o : List Nat} (h : FitAll c l o) : o.length = l.length := by
  obtain ⟨h1, h2, _⟩ := h
  have a := nodup_sub_len o (List.range l.length) h1 (fun x hx => List.mem_range.2 ((h2 x).1 hx))
  have b := nodup_sub_len (List.range l.length) o List.nodup_range (fun x hx => (h2 x).2 (List.mem_range.1 hx))
  simp at a b; omega

theorem runI_nats (l : List CallT) : ∀ (o : List Nat) (c : Cont), runI l c (nats o) = runF l c o
  | [], c => rfl
  | i :: o, c => by
    show (match l[(Int.ofNat i).toNat]? with | none => false | some x => tellsB c x && runI l (does c x.op).1 (nats o)) = runF l c (i :: o)
    rw [runF, show (Int.ofNat i).toNat = i from rfl]
    cases l[i]? with
    | none => rfl
    | some x => simp only [runI_nats l o]
theorem nats_get {o : List Nat} {k : Nat} {i : Int} (h : (nats o)[k]? = some i) : ∃ m, o[k]? = some m ∧ i = m := by
  simp only [nats, List.getElem?_map, Option.map_eq_some_iff] at h
  obtain ⟨m, h1, h2⟩ := h
  exact ⟨m, h1, h2.symm⟩
theorem nats_mem {o : List Nat} {m : Nat} : (m : Int) ∈ nats o ↔ m ∈ o := by
  simp only [nats, List.mem_map]
  constructor
  · rintro ⟨a, h1, h2⟩; have : a = m := Int.ofNat.inj h2; rw [← this]; exact h1
  · intro h; exact ⟨m, h, rfl⟩
theorem nats_take (o : List Nat) (k : Nat) : (nats o).take k = nats (o.take k) := by simp [nats, List.map_take]

theorem fits_nats {c : Cont} {l : List CallT} {o : List Nat} : fitsB c l (nats o) = true ↔ FitAll c l o := by
  unfold fitsB FitAll
  simp only [Bool.and_eq_true, decide_eq_true_eq, nats_len, runI_nats]
  rw [List.all_eq_true]
  constructor
  · rintro ⟨⟨hlen, hall⟩, hrun⟩
    have hat : ∀ k i, o[k]? = some i → i < l.length ∧ i ∉ o.take k ∧ ∀ j ∈ o.take k, aheadI l i j = false := by
      intro k i hi
      have hk := (List.getElem?_eq_some_iff.1 hi).1
      have h1 := hall k (List.mem_range.2 hk)
      have h2 : (nats o)[k]? = some (i : Int) := by simp [nats, hi]
      unfold okAt at h1
      rw [h2, nats_take] at h1
      simp only [Bool.and_eq_true, decide_eq_true_eq, Bool.not_eq_true', decide_eq_false_iff_not, List.all_eq_true] at h1
      obtain ⟨⟨⟨_, h3⟩, h4⟩, h5⟩ := h1
      refine ⟨by omega, fun hm => h4 (nats_mem.2 hm), fun j hj => ?_⟩
      have := h5 (j : Int) (nats_mem.2 hj)
      simpa using this
    have hnd : o.Nodup := by
      rw [List.nodup_iff_pairwise_ne, List.pairwise_iff_getElem]
      intro a b ha hb hab e
      refine (hat b o[b] (List.getElem?_eq_getElem hb)).2.1 ?_
      rw [← e]
      exact List.mem_of_getElem? (i := a) (by rw [List.getElem?_take, if_pos hab]; exact List.getElem?_eq_getElem ha)
    have hlt : ∀ x, x ∈ o → x < l.length := fun x hx => by
      obtain ⟨k, hk⟩ := List.getElem?_of_mem hx
      exact (hat k x hk).1
    refine ⟨hnd, fun i => ⟨hlt i, all_mem hnd hlt hlen i⟩, ?_, hrun⟩
    unfold OrdOk
    rw [List.pairwise_iff_getElem]
    intro a b ha hb hab x y hx hy
    have := (hat b o[b] (List.getElem?_eq_getElem hb)).2.2 o[a] (List.mem_of_getElem? (i := a) (by rw [List.getElem?_take, if_pos hab]; exact List.getElem?_eq_getElem ha))
    simpa [aheadI, hx, hy] using this
  · intro hfit
    have hlen := fit_len hfit
    obtain ⟨hnd, hmem, hord, hrun⟩ := hfit
    refine ⟨⟨hlen, fun k hk => ?_⟩, hrun⟩
    have hk' := List.mem_range.1 hk
    have hi : o[k]? = some o[k] := List.getElem?_eq_getElem hk'
    have h2 : (nats o)[k]? = some (o[k] : Int) := by simp [nats, hk']
    unfold okAt
    rw [h2, nats_take]
    simp only [Bool.and_eq_true, decide_eq_true_eq, Bool.not_eq_true', decide_eq_false_iff_not, List.all_eq_true]
    refine ⟨⟨⟨by omega, ?_⟩, ?_⟩, ?_⟩
    · have := (hmem o[k]).1 (List.getElem_mem hk'); omega
    · intro hm
      have hm' := nats_mem.1 hm
      obtain ⟨j, hj⟩ := List.getElem?_of_mem hm'
      rw [List.getElem?_take] at hj
      split at hj
      · rename_i hjk
        have hjl : j < o.length := by omega
        rw [List.getElem?_eq_getElem hjl] at hj
        rw [List.nodup_iff_pairwise_ne, List.pairwise_iff_getElem] at hnd
        exact hnd j k hjl hk' hjk (Option.some.inj hj)
      · cases hj
    · intro jj hj
      obtain ⟨q, hq, rfl⟩ := List.mem_map.1 hj
      obtain ⟨a, ha⟩ := List.getElem?_of_mem hq
      rw [List.getElem?_take] at ha
      split at ha
      · rename_i hak
        have hal : a < o.length := by omega
        rw [List.getElem?_eq_getElem hal] at ha
        have hqa := Option.some.inj ha
        have hp := (List.pairwise_iff_getElem.1 hord) a k hal hk' hak
        have hx : l[o[a]]? = some (l[o[a]]'((hmem _).1 (List.getElem_mem hal))) := List.getElem?_eq_getElem _
        have hy : l[o[k]]? = some (l[o[k]]'((hmem _).1 (List.getElem_mem hk'))) := List.getElem?_eq_getElem _
        have h3 := hp _ _ hx hy
        rw [← hqa]
        show aheadI l (o[k] : Int) (o[a] : Int) = false
        unfold aheadI
        rw [Int.toNat_natCast, Int.toNat_natCast, hx, hy]
        exact h3
      · cases ha
theorem fits_only {c : Cont} {l : List CallT} {o : List Int} (h : fitsB c l o = true) : ∃ o', o = nats o' := by
  refine ⟨o.map Int.toNat, ?_⟩
  unfold fitsB at h
  simp only [Bool.and_eq_true, decide_eq_true_eq] at h
  have hall := List.all_eq_true.1 h.1.2
  apply List.ext_getElem
  · simp [nats]
  · intro k h1 h2
    have hok := hall k (List.mem_range.2 h1)
    have := (okAt_in (List.getElem?_eq_getElem h1) hok).1
    simp only [nats, List.getElem_map]
    show o[k] = ((o[k].toNat : Nat) : Int)
    omega
theorem first_lex : ∀ (a b : List Nat), lexLe a b → firstB (nats a) (nats b) = true
  | [], b, _ => rfl
  | x :: a, [], h => h.elim
  | x :: a, y :: b, h => by
    show (if Int.ofNat x = Int.ofNat y then firstB (nats a) (nats b) else decide (Int.ofNat x < Int.ofNat y)) = true
    rcases h with h | ⟨h1, h2⟩
    · rw [if_neg (fun e => by have := Int.ofNat.inj e; omega)]
      exact decide_eq_true (Int.ofNat_lt.2 h)
    · subst h1
      rw [if_pos rfl]; exact first_lex a b h2
end Go.Proofs.Ytknancnmdpdefaa
