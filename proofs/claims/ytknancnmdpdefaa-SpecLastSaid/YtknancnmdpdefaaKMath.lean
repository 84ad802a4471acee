/- What a map has at a key, and how operations turn it. -/
import Derived.Test.YtknancnmdpdefaaMath
namespace Go.Proofs.Ytknancnmdpdefaa

def lk : List Int → List Int → Int → Option Int
  | k :: ks, v :: vs, x => if k = x then some v else lk ks vs x
  | _, _, _ => none
theorem lk_append {ks vs : List Int} (ks' vs' : List Int) (x : Int) (h : ks.length = vs.length) : lk (ks ++ ks') (vs ++ vs') x = (lk ks vs x).or (lk ks' vs' x) := by
  induction ks generalizing vs with
  | nil => rcases vs with _ | ⟨v, vs⟩
           · simp [lk]
           · simp at h
  | cons k ks ih =>
    rcases vs with _ | ⟨v, vs⟩
    · simp at h
    · simp only [List.cons_append, lk]
      split
      · rfl
      · exact ih (by simpa using h)
theorem lk_none {ks : List Int} (vs : List Int) {x : Int} (h : ∀ k ∈ ks, k ≠ x) : lk ks vs x = none := by
  induction ks generalizing vs with
  | nil => cases vs <;> rfl
  | cons k ks ih =>
    rcases vs with _ | ⟨v, vs⟩
    · rfl
    · simp only [lk]
      rw [if_neg (h k (List.mem_cons_self ..))]
      exact ih vs fun k hk => h k (List.mem_cons_of_mem _ hk)
def told : Option Int → Int × Bool
  | some v => (v, true)
  | none => (0, false)
def look (c : Cont) (x : Int) : Int × Bool := if hasB c x then (c.vals.getD (pos c.keys x) 0, true) else (0, false)

theorem parts {ks vs : List Int} {p : Nat} (hl : ks.length = vs.length) (x : Int) : lk ks vs x = (lk (ks.take p) (vs.take p) x).or (lk (ks.drop p) (vs.drop p) x) := by
  have := lk_append (ks := ks.take p) (vs := vs.take p) (ks.drop p) (vs.drop p) x (by simp [hl])
  rwa [List.take_append_drop, List.take_append_drop] at this
theorem lk_before (ks vs : List Int) (x : Int) (p : Nat) (hp : p = pos ks x) : lk (ks.take p) (vs.take p) x = none := by
  subst hp
  exact lk_none _ fun k hk => by have := take_pos_lt ks x k hk; omega
theorem at_pos {c : Cont} {x : Int} (h : hasB c x = true) (hl : c.keys.length = c.vals.length) : ∃ v, c.keys.drop (pos c.keys x) = x :: c.keys.drop (pos c.keys x + 1) ∧ c.vals.drop (pos c.keys x) = v :: c.vals.drop (pos c.keys x + 1) ∧ c.vals.getD (pos c.keys x) 0 = v := by
  have hp := has_lt h
  unfold hasB at h
  have h := of_decide_eq_true h
  have e : c.keys[pos c.keys x] = x := by
    rw [List.getElem?_eq_getElem hp] at h; injection h
  refine ⟨c.vals[pos c.keys x], ?_, List.drop_eq_getElem_cons (by omega), ?_⟩
  · conv => lhs; rw [List.drop_eq_getElem_cons hp, e]
  · rw [List.getD_eq_getElem?_getD, List.getElem?_eq_getElem (by omega)]; rfl
theorem look_lk {c : Cont} (x : Int) (hl : c.keys.length = c.vals.length) (hs : Rises c.keys) : look c x = told (lk c.keys c.vals x) := by
  unfold look
  rw [parts (p := pos c.keys x) hl x, lk_before _ _ _ _ rfl]
  split
  · rename_i hh
    obtain ⟨v, e1, e2, e3⟩ := at_pos hh hl
    rw [e1, e2, e3]
    simp [lk, told]
  · rename_i hh
    have hn : c.keys[pos c.keys x]? ≠ some x := fun e => hh (by unfold hasB; exact decide_eq_true e)
    rw [lk_none _ fun k hk => by have := drop_pos_gt hs hn k hk; omega]
    rfl
theorem lk_ins {ks vs : List Int} {p : Nat} (hl : ks.length = vs.length) (k v x : Int) : lk (insAt ks p k) (insAt vs p v) x = (lk (ks.take p) (vs.take p) x).or (if k = x then some v else lk (ks.drop p) (vs.drop p) x) := by
  unfold insAt
  rw [lk_append _ _ _ (by simp [hl])]
  rfl
theorem lk_del {ks vs : List Int} {p : Nat} (hl : ks.length = vs.length) (x : Int) : lk (delAt ks p) (delAt vs p) x = (lk (ks.take p) (vs.take p) x).or (lk (ks.drop (p + 1)) (vs.drop (p + 1)) x) := by
  unfold delAt
  rw [lk_append _ _ _ (by simp [hl])]

/-- What the law keeps of a key. -/
def kstep (key : Int) (s : Bool × Int) (o : OpT) : Bool × Int :=
  if o.a ≠ key then s else if o.kind = 3 then (false, 0) else if o.kind = 2 ∧ s.1 = false then (true, o.b) else s
def kscan (key : Int) (l : List OpT) : Bool × Int := l.foldl (kstep key) (false, 0)
theorem told_or (a b : Option Int) (h : a = none) : told (a.or b) = told b := by subst h; rfl

theorem look_does {c : Cont} (hr : rightB c = true) (hk : c.kind = 1) (key : Int) (o : OpT) : ((look (does c o).1 key).2, (look (does c o).1 key).1) = kstep key ((look c key).2, (look c key).1) o := by
  obtain ⟨hl, hs⟩ := (rightM hk).1 hr
  have hd := (does_deed c o hr)
  have hl' := (rightM (hd.kind.trans hk)).1 hd.right
  rw [look_lk key hl'.1 hl'.2, look_lk key hl hs]
  clear hl' hd
  unfold kstep does
  split
  · rename_i h2
    have hok : ofK o.kind = 1 := h2.2.trans hk
    unfold effect
    split
    · rename_i h1
      have : ∀ (b : Bool) (y z : Cont × Int × Bool), y.1 = c → z.1 = c → (if b = true then y else z).1 = c := fun b y z h1 h2 => by cases b <;> simp [h1, h2]
      rw [this _ _ _ rfl rfl]
      rw [if_neg (show ¬ o.kind = 3 by omega), if_neg (show ¬ (o.kind = 2 ∧ _) by omega)]
      split <;> rfl
    · split
      · rename_i h2
        rw [if_neg (show ¬ o.kind = 3 by omega)]
        by_cases hh : hasB c o.a = true
        · rw [if_pos hh]
          obtain ⟨v, e1, e2, e3⟩ := at_pos hh hl
          split
          · rfl
          · rename_i hka
            have hka : o.a = key := Decidable.not_not.1 hka
            have : lk c.keys c.vals key = some v := by
              rw [parts (p := pos c.keys o.a) hl key, ← hka, lk_before _ _ _ _ rfl, e1, e2]; simp [lk]
            rw [this]; simp [told]
        · rw [if_neg hh]
          have hn : c.keys[pos c.keys o.a]? ≠ some o.a := fun e => hh (by unfold hasB; exact decide_eq_true e)
          show ((told (lk (insAt _ _ _) (insAt _ _ _) key)).2, (told (lk (insAt _ _ _) (insAt _ _ _) key)).1) = _
          rw [lk_ins hl]
          by_cases hka : o.a = key
          · rw [if_pos hka, if_neg (by simpa using hka)]
            have h0 : lk c.keys c.vals key = none := by
              rw [parts (p := pos c.keys o.a) hl key, ← hka, lk_before _ _ _ _ rfl, lk_none _ fun k hk => by have := drop_pos_gt hs hn k hk; omega]; rfl
            rw [← hka, lk_before _ _ _ _ rfl, hka, h0]
            simp [told, h2]
          · rw [if_neg hka, if_pos (by simpa using hka), ← parts hl]
      · split
        · rename_i h3
          by_cases hh : hasB c o.a = true
          · rw [if_pos hh]
            show ((told (lk (delAt _ _) (delAt _ _) key)).2, (told (lk (delAt _ _) (delAt _ _) key)).1) = _
            rw [lk_del hl]
            obtain ⟨v, e1, e2, e3⟩ := at_pos hh hl
            by_cases hka : o.a = key
            · rw [if_neg (by simpa using hka), ← hka, lk_before _ _ _ _ rfl]
              have : ∀ k ∈ c.keys.drop (pos c.keys o.a + 1), k ≠ o.a := fun k hk => by
                have h4 := rises_drop hs (pos c.keys o.a)
                rw [e1] at h4
                have := (List.pairwise_cons.1 h4).1 k hk
                omega
              rw [lk_none _ this]
              rfl
            · rw [if_pos (by simpa using hka), parts (p := pos c.keys o.a) hl key, e1, e2]
              simp only [lk]
              rw [if_neg hka]
          · rw [if_neg hh]
            have hn : c.keys[pos c.keys o.a]? ≠ some o.a := fun e => hh (by unfold hasB; exact decide_eq_true e)
            split
            · rfl
            · rename_i hka
              have hka : o.a = key := Decidable.not_not.1 hka
              have h0 : lk c.keys c.vals key = none := by
                rw [parts (p := pos c.keys o.a) hl key, ← hka, lk_before _ _ _ _ rfl, lk_none _ fun k hk => by have := drop_pos_gt hs hn k hk; omega]; rfl
              show ((told (lk c.keys c.vals key)).2, (told (lk c.keys c.vals key)).1) = _
              rw [h0]; rfl
        · exfalso
          unfold ofK at hok
          split at hok
          · omega
          · split at hok
            · omega
            · split at hok <;> omega
  · rename_i hno
    have hok : ofK o.kind ≠ 1 := fun e => hno ⟨hr, e.trans hk.symm⟩
    have h3 : ¬ o.kind = 3 := fun e => hok (by rw [e]; rfl)
    have h2 : ¬ o.kind = 2 := fun e => hok (by rw [e]; rfl)
    rw [if_neg h3, if_neg (show ¬ (o.kind = 2 ∧ _) from fun h => h2 h.1)]
    split <;> rfl

theorem doAll_right {c : Cont} (hr : rightB c = true) (l : List OpT) : rightB (doAll c l).1 = true ∧ (doAll c l).1.kind = c.kind := by
  induction l generalizing c with
  | nil => exact ⟨hr, rfl⟩
  | cons o l ih =>
    have hd := does_deed c o hr
    obtain ⟨h1, h2⟩ := ih hd.right
    exact ⟨h1, h2.trans hd.kind⟩
theorem look_all {c : Cont} (hr : rightB c = true) (hk : c.kind = 1) (key : Int) (l : List OpT) : ((look (doAll c l).1 key).2, (look (doAll c l).1 key).1) = l.foldl (kstep key) ((look c key).2, (look c key).1) := by
  induction l generalizing c with
  | nil => rfl
  | cons o l ih =>
    have hd := does_deed c o hr
    rw [List.foldl_cons, ← look_does hr hk, ← ih hd.right (hd.kind.trans hk)]
    rfl
theorem keys_law (l : List OpT) (key : Int) : rightB (doAll ⟨1, [], []⟩ l).1 = true ∧ does (doAll ⟨1, [], []⟩ l).1 ⟨1, 0, key, 0⟩ = ((doAll ⟨1, [], []⟩ l).1, (kscan key l).2, (kscan key l).1) := by
  have h0 : rightB ⟨1, [], []⟩ = true := rfl
  obtain ⟨h1, h2⟩ := doAll_right h0 l
  have h3 := look_all h0 rfl key l
  refine ⟨h1, ?_⟩
  generalize (doAll ⟨1, [], []⟩ l).1 = c at *
  have h4 : kscan key l = ((look c key).2, (look c key).1) := h3.symm
  rw [h4]
  unfold does
  rw [if_pos ⟨h1, by rw [h2]; rfl⟩]
  unfold effect look
  simp only [if_true]
  split <;> rfl
end Go.Proofs.Ytknancnmdpdefaa
