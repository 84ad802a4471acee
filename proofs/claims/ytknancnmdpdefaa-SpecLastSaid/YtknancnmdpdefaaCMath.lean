/- Two that commute may change places. -/
import Derived.Test.YtknancnmdpdefaaKMath
namespace Go.Proofs.Ytknancnmdpdefaa

theorem comm_sym (a b : OpT) : commuteB a b = commuteB b a := by
  unfold commuteB
  by_cases h : ofK a.kind = ofK b.kind
  · rw [if_neg (show ¬ ofK a.kind ≠ ofK b.kind from fun e => e h), if_neg (show ¬ ofK b.kind ≠ ofK a.kind from fun e => e h.symm)]
    by_cases h2 : a.kind = 1 ∧ b.kind = 1
    · rw [if_pos h2, if_pos (show b.kind = 1 ∧ a.kind = 1 from ⟨h2.2, h2.1⟩)]
    · rw [if_neg h2, if_neg (show ¬ (b.kind = 1 ∧ a.kind = 1) from fun e => h2 ⟨e.2, e.1⟩), h]
      by_cases h3 : a.a = b.a
      · simp [h3]
      · simp [h3, show ¬ b.a = a.a from fun e => h3 (Eq.symm e)]
  · rw [if_pos (show ofK a.kind ≠ ofK b.kind from h), if_pos (show ofK b.kind ≠ ofK a.kind from fun e => h e.symm)]

theorem does_other {c : Cont} {o : OpT} (h : ofK o.kind ≠ c.kind) : does c o = (c, 0, false) := by
  unfold does; rw [if_neg (fun e => h e.2)]
theorem does_get {c : Cont} {o : OpT} (h : o.kind = 1) : (does c o).1 = c := by
  unfold does
  split
  · unfold effect; rw [if_pos h]; split <;> rfl
  · rfl

/-- Two right maps that have the same at every key are the same. -/
theorem lk_ext {ks vs ks' vs' : List Int} (hl : ks.length = vs.length) (hl' : ks'.length = vs'.length) (hs : Rises ks) (hs' : Rises ks') (h : ∀ x, lk ks vs x = lk ks' vs' x) : ks = ks' ∧ vs = vs' := by
  induction ks generalizing vs ks' vs' with
  | nil =>
    rcases vs with _ | ⟨v, vs⟩
    · rcases ks' with _ | ⟨k', ks'⟩
      · rcases vs' with _ | ⟨v', vs'⟩
        · exact ⟨rfl, rfl⟩
        · simp at hl'
      · rcases vs' with _ | ⟨v', vs'⟩
        · simp at hl'
        · have := h k'; simp [lk] at this
    · simp at hl
  | cons k ks ih =>
    rcases vs with _ | ⟨v, vs⟩
    · simp at hl
    · rcases ks' with _ | ⟨k', ks'⟩
      · have := h k; simp [lk] at this
      · rcases vs' with _ | ⟨v', vs'⟩
        · simp at hl'
        · have p := List.pairwise_cons.1 hs
          have p' := List.pairwise_cons.1 hs'
          have hkk : k = k' := by
            rcases Int.lt_trichotomy k k' with hlt | he | hgt
            · have h1 := h k
              have h2 : lk (k' :: ks') (v' :: vs') k = none := lk_none _ fun y hy => by
                rcases List.mem_cons.1 hy with rfl | hy
                · omega
                · have := p'.1 y hy; omega
              rw [h2] at h1; simp [lk] at h1
            · exact he
            · have h1 := h k'
              have h2 : lk (k :: ks) (v :: vs) k' = none := lk_none _ fun y hy => by
                rcases List.mem_cons.1 hy with rfl | hy
                · omega
                · have := p.1 y hy; omega
              rw [h2] at h1; simp [lk] at h1
          subst hkk
          have hv : v = v' := by have := h k; simpa [lk] using this
          subst hv
          have hrest : ∀ x, lk ks vs x = lk ks' vs' x := fun x => by
            by_cases e : k = x
            · subst e
              rw [lk_none _ fun y hy => by have := p.1 y hy; omega, lk_none _ fun y hy => by have := p'.1 y hy; omega]
            · have := h x; simpa [lk, e] using this
          obtain ⟨e1, e2⟩ := ih (by simpa using hl) (by simpa using hl') p.2 p'.2 hrest
          exact ⟨by rw [e1], by rw [e2]⟩
theorem told_inj {a b : Option Int} (h : told a = told b) : a = b := by
  rcases a with _ | a <;> rcases b with _ | b <;> simp [told] at h ⊢
  exact h
theorem look_ext {c d : Cont} (hc : rightB c = true) (hd : rightB d = true) (kc : c.kind = 1) (kd : d.kind = 1) (h : ∀ x, look c x = look d x) : c = d := by
  obtain ⟨hl, hs⟩ := (rightM kc).1 hc
  obtain ⟨hl', hs'⟩ := (rightM kd).1 hd
  obtain ⟨e1, e2⟩ := lk_ext hl hl' hs hs' fun x => told_inj (by rw [← look_lk x hl hs, ← look_lk x hl' hs']; exact h x)
  obtain ⟨k, a, b⟩ := c
  obtain ⟨k', a', b'⟩ := d
  simp only at e1 e2 kc kd
  rw [e1, e2, kc, kd]

/-- What an operation of a map tells, out of what the map has at its key. -/
def tells (o : OpT) (s : Int × Bool) : Int × Bool := if o.kind = 1 then s else if o.kind = 2 then (0, !s.2) else (0, s.2)
theorem does_tells {c : Cont} (hr : rightB c = true) (hk : c.kind = 1) {o : OpT} (ho : ofK o.kind = 1) : (does c o).2 = tells o (look c o.a) := by
  have h123 : o.kind = 1 ∨ o.kind = 2 ∨ o.kind = 3 := by
    unfold ofK at ho
    split at ho
    · omega
    · split at ho
      · omega
      · split at ho <;> omega
  unfold does
  rw [if_pos ⟨hr, ho.trans hk.symm⟩]
  unfold effect tells look
  rcases h123 with h | h | h
  · simp only [h, if_true]; split <;> rfl
  · cases hh : hasB c o.a <;> simp [h, hh]
  · cases hh : hasB c o.a <;> simp [h, hh]

theorem look_swap {c : Cont} (hr : rightB c = true) (hk : c.kind = 1) (o : OpT) (x : Int) : look (does c o).1 x = ((kstep x ((look c x).2, (look c x).1) o).2, (kstep x ((look c x).2, (look c x).1) o).1) := by
  have := look_does hr hk x o
  rw [← this]

/-- The law. -/
theorem comm_law {c : Cont} {a b : OpT} (hr : rightB c = true) (h : commuteB a b = true) :
    (does (does c a).1 b).1 = (does (does c b).1 a).1 ∧ (does c a).2 = (does (does c b).1 a).2 ∧ (does (does c a).1 b).2 = (does c b).2 := by
  have da := does_deed c a hr
  have db := does_deed c b hr
  by_cases ha : ofK a.kind = c.kind
  · by_cases hb : ofK b.kind = c.kind
    · unfold commuteB at h
      rw [if_neg (by rw [ha, hb]; simp)] at h
      by_cases h1 : a.kind = 1 ∧ b.kind = 1
      · rw [does_get h1.1, does_get h1.2, does_get h1.1]
        exact ⟨rfl, rfl, rfl⟩
      · rw [if_neg h1] at h
        simp only [Bool.and_eq_true, decide_eq_true_eq] at h
        obtain ⟨hm, hne⟩ := h
        have hk : c.kind = 1 := ha.symm.trans hm
        have hmb : ofK b.kind = 1 := hb.trans hk
        have ka := da.kind.trans hk
        have kb := db.kind.trans hk
        have dab := does_deed _ b da.right
        have dba := does_deed _ a db.right
        refine ⟨look_ext dab.right dba.right (dab.kind.trans ka) (dba.kind.trans kb) fun x => ?_, ?_, ?_⟩
        · rw [look_swap da.right ka, look_swap db.right kb, look_swap hr hk, look_swap hr hk]
          unfold kstep
          by_cases e1 : a.a = x
          · have e2 : ¬ b.a = x := fun e => hne (e1.trans e.symm)
            simp [e2]
          · simp [e1]
        · rw [does_tells hr hk hm, does_tells db.right kb hm, look_swap hr hk]
          unfold kstep
          rw [if_pos (fun e => hne e.symm)]
        · rw [does_tells hr hk hmb, does_tells da.right ka hmb, look_swap hr hk]
          unfold kstep
          rw [if_pos hne]
    · rw [does_other hb, does_other (c := (does c a).1) (by rw [da.kind]; exact hb)]
      exact ⟨rfl, rfl, rfl⟩
  · rw [does_other ha, does_other (c := (does c b).1) (by rw [db.kind]; exact ha)]
    exact ⟨rfl, rfl, rfl⟩
end Go.Proofs.Ytknancnmdpdefaa
