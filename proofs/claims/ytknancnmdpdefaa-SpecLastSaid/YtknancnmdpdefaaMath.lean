/- Plain facts of what operations do: a right content stays right. -/
import Derived.Test.YtknancnmdpdefaaData
namespace Go.Proofs.Ytknancnmdpdefaa

theorem rises_tail_gt {l : List Int} {x : Int} (h : Rises l) (h0 : ∀ y, l[0]? = some y → x < y) : ∀ y ∈ l, x < y := by
  rcases l with _ | ⟨z, l⟩
  · intro y hy; cases hy
  · intro y hy
    have hz := h0 z rfl
    rcases List.mem_cons.1 hy with rfl | hy
    · exact hz
    · exact Int.lt_trans hz ((List.pairwise_cons.1 h).1 y hy)
theorem rises_drop {l : List Int} (h : Rises l) (p : Nat) : Rises (l.drop p) := List.Pairwise.sublist (List.drop_sublist p l) h
theorem rises_take {l : List Int} (h : Rises l) (p : Nat) : Rises (l.take p) := List.Pairwise.sublist (List.take_sublist p l) h
theorem take_pos_lt (l : List Int) (x : Int) : ∀ y ∈ l.take (pos l x), y < x := by
  intro y hy
  obtain ⟨i, hi, rfl⟩ := List.mem_iff_getElem.1 hy
  simp only [List.length_take] at hi
  have : i < pos l x := by omega
  exact pos_lt l x i this _ (by rw [List.getElem?_eq_getElem (by omega)]; simp)
theorem drop_pos_gt {l : List Int} {x : Int} (h : Rises l) (hn : l[pos l x]? ≠ some x) : ∀ y ∈ l.drop (pos l x), x < y := by
  refine rises_tail_gt (rises_drop h _) fun y hy => ?_
  rw [List.getElem?_drop] at hy
  simp only [Nat.add_zero] at hy
  have h1 := pos_ge l x y hy
  have h2 : x ≠ y := fun e => hn (by rw [hy, e])
  omega
theorem rises_ins {l : List Int} {x : Int} (h : Rises l) (hn : l[pos l x]? ≠ some x) : Rises (insAt l (pos l x) x) := by
  unfold insAt Rises
  rw [List.pairwise_append]
  refine ⟨rises_take h _, List.pairwise_cons.2 ⟨drop_pos_gt h hn, rises_drop h _⟩, fun a ha b hb => ?_⟩
  have h1 := take_pos_lt l x a ha
  rcases List.mem_cons.1 hb with rfl | hb
  · exact h1
  · exact Int.lt_trans h1 (drop_pos_gt h hn b hb)
theorem rises_del {l : List Int} (h : Rises l) (p : Nat) : Rises (delAt l p) := by
  refine List.Pairwise.sublist ?_ h
  unfold delAt
  conv => rhs; rw [← List.take_append_drop p l]
  refine List.Sublist.append (List.Sublist.refl _) ?_
  rw [← List.drop_drop]
  exact List.drop_sublist 1 _
theorem ins_len {l : List Int} {p : Nat} (x : Int) (hp : p ≤ l.length) : (insAt l p x).length = l.length + 1 := by unfold insAt; simp; omega
theorem del_len {l : List Int} {p : Nat} (hp : p < l.length) : (delAt l p).length + 1 = l.length := by unfold delAt; simp; omega
theorem has_lt {c : Cont} {x : Int} (h : hasB c x = true) : pos c.keys x < c.keys.length := by
  unfold hasB at h
  exact (List.getElem?_eq_some_iff.1 (of_decide_eq_true h)).1

/-- What is known of a deed. -/
structure Deed (c : Cont) (r : Cont × Int × Bool) : Prop where
  right : rightB r.1 = true
  kind : r.1.kind = c.kind
  up : r.1.vals.length ≤ c.vals.length + 1
  down : c.vals.length ≤ r.1.vals.length + 1
  not_ : r.2.2 = false → r.2.1 = 0 ∧ r.1 = c

theorem rightM {c : Cont} (hk : c.kind = 1) : rightB c = true ↔ c.keys.length = c.vals.length ∧ Rises c.keys := by
  unfold rightB; rw [if_pos hk]; simp
theorem rightO {c : Cont} (hk : c.kind = 2 ∨ c.kind = 3) : rightB c = true ↔ c.keys.length = 0 := by
  unfold rightB; rw [if_neg (by omega), if_pos hk]; simp

theorem does_deed (c : Cont) (o : OpT) (hr : rightB c = true) : Deed c (does c o) := by
  have same : ∀ v b, (b = false → v = 0) → Deed c (c, v, b) := fun v b h => ⟨hr, rfl, Nat.le_succ _, Nat.le_succ _, fun hb => ⟨h hb, rfl⟩⟩
  unfold does
  split
  · rename_i hk
    have hk := hk.2
    unfold effect
    split
    · split
      · exact same _ _ (by simp)
      · exact same _ _ (by simp)
    · split
      · rename_i h1 h2
        have hc : c.kind = 1 := by rw [← hk, h2]; rfl
        obtain ⟨hl, hs⟩ := (rightM hc).1 hr
        have hp := pos_le c.keys o.a
        split
        · exact same _ _ (by simp)
        · rename_i hh
          have hn : c.keys[pos c.keys o.a]? ≠ some o.a := fun e => hh (by unfold hasB; exact decide_eq_true e)
          refine ⟨(rightM (c := ⟨c.kind, insAt c.keys (pos c.keys o.a) o.a, insAt c.vals (pos c.keys o.a) o.b⟩) hc).2 ⟨by show (insAt _ _ _).length = (insAt _ _ _).length; rw [ins_len _ hp, ins_len _ (by omega), hl], rises_ins hs hn⟩, rfl, ?_, ?_, by simp⟩
          · show (insAt _ _ _).length ≤ _; rw [ins_len _ (by omega)]; exact Nat.le_refl _
          · show _ ≤ (insAt _ _ _).length + 1; rw [ins_len _ (by omega)]; omega
      · split
        · rename_i h1 h2 h3
          have hc : c.kind = 1 := by rw [← hk, h3]; rfl
          obtain ⟨hl, hs⟩ := (rightM hc).1 hr
          split
          · rename_i hh
            have hp := has_lt hh
            have d1 := del_len hp
            have d2 := del_len (l := c.vals) (p := pos c.keys o.a) (by omega)
            refine ⟨(rightM (c := ⟨c.kind, delAt c.keys (pos c.keys o.a), delAt c.vals (pos c.keys o.a)⟩) hc).2 ⟨by show (delAt _ _).length = (delAt _ _).length; omega, rises_del hs _⟩, rfl, ?_, ?_, by simp⟩
            · show (delAt _ _).length ≤ _; omega
            · show _ ≤ (delAt _ _).length + 1; omega
          · exact same _ _ (by simp)
        · have ho : c.kind = 2 ∨ c.kind = 3 := by
            have : c.kind ≠ 1 := fun e => by
              rw [e] at hk; unfold ofK at hk
              split at hk
              · omega
              · split at hk <;> (try split at hk) <;> omega
            unfold rightB at hr
            rw [if_neg this] at hr
            by_cases h : c.kind = 2 ∨ c.kind = 3
            · exact h
            · rw [if_neg h] at hr; cases hr
          have hrr : ∀ vs, rightB ⟨c.kind, [], vs⟩ = true := fun vs => (rightO (c := ⟨c.kind, [], vs⟩) ho).2 rfl
          split
          · exact ⟨hrr _, rfl, by simp, by simp; omega, by simp⟩
          · split
            · exact ⟨hrr _, rfl, by simp, by simp; omega, by simp⟩
            · split
              · exact same _ _ (by simp)
              · rename_i v vs hv
                exact ⟨hrr _, rfl, by rw [hv]; simp; omega, by rw [hv]; simp, by simp⟩
  · exact same _ _ (by simp)
end Go.Proofs.Ytknancnmdpdefaa
