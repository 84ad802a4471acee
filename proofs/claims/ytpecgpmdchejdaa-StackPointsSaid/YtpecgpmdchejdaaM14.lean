/- Points of operations: which access an operation's program will call its point. -/
import Derived.Test.YtpecgpmdchejdaaM12
namespace Go.Proofs.Ytpecgpmdchejdaa
open Go
set_option maxRecDepth 100000

/-- The point, if it is behind us. -/
def ptPc : Pc → Option Int
  | .d3 _ a | .ce a | .c _ _ a | .r1 _ _ a | .r2 _ _ a _ | .rs _ a _ _ _ | .s1 _ a _ _ _ _ | .v1 _ a _ _ _ _ | .v2 _ a _ _ _ _ _ | .v3 _ a _ _ _ _ _ => some a
  | .fin o => some o.point
  | _ => none
/-- What an operation will tell, if its point is behind it: its value, whether it went, its code. -/
def outPc (nd : Int → Int → Int) : Pc → Option (Int × Bool × Int)
  | .d3 n _ => some (nd n 1, true, 0)
  | .ce _ => some (0, false, 0)
  | .c _ v _ | .r1 _ v _ | .r2 _ v _ _ | .rs v _ _ _ _ | .s1 v _ _ _ _ _ | .v1 v _ _ _ _ _ | .v2 v _ _ _ _ _ _ | .v3 v _ _ _ _ _ _ => some (v, true, 0)
  | .fin o => some (o.val, o.is, o.err)
  | _ => none
theorem pt_sift (v a : Int) (held : List Int) (made : Nat) (e0 : Int) (gone gs stay : List (Int × Int)) : ptPc (siftQ v a held made e0 gone gs stay).pc = some a ∧ (siftQ v a held made e0 gone gs stay).made = made ∧ ∀ nd, outPc nd (siftQ v a held made e0 gone gs stay).pc = some (v, true, 0) := by cases gs <;> exact ⟨rfl, rfl, fun _ => rfl⟩
theorem pt_scan (v a : Int) (held : List Int) (made : Nat) (e0 : Int) (gone : List (Int × Int)) (cs : List Int) : ptPc (scanQ v a made e0 gone held cs).pc = some a ∧ (scanQ v a made e0 gone held cs).made = made ∧ ∀ nd, outPc nd (scanQ v a made e0 gone held cs).pc = some (v, true, 0) := by
  cases cs with
  | nil => exact pt_sift _ _ _ _ _ _ _ _
  | cons c cs => exact ⟨rfl, rfl, fun _ => rfl⟩
/-- A point that is behind us stays. -/
theorem pt_tell {l : LayT} {q : Q} {r : ResT} {a : Int} (h : ptPc q.pc = some a) : ptPc (tell l q r).pc = some a := by
  obtain ⟨pc, made, gone, e0⟩ := q
  cases pc <;> simp only [ptPc, Option.some.injEq, reduceCtorEq] at h
  case ce b => subst h; rfl
  case d3 n b =>
    subst h
    show ptPc (if e0 = 0 then _ else _ : Q).pc = _
    split <;> rfl
  case c n v b => subst h; rfl
  case r1 n v b => subst h; rfl
  case r2 n v b er =>
    subst h
    show ptPc (if ((gone.length : Int) + 1) < 2 * l.seats then _ else _ : Q).pc = _
    split
    · rfl
    · exact (pt_scan _ _ _ _ _ _ _).1
  case rs v b held c cs => subst h; exact (pt_scan _ _ _ _ _ _ _).1
  case s1 v b held g gs stay =>
    subst h
    show ptPc (if held.any (inB (max1 r.val) g.2) = true then _ else _ : Q).pc = _
    split
    · exact (pt_sift _ _ _ _ _ _ _ _).1
    · rfl
  case v1 v b held g gs stay => subst h; rfl
  case v2 v b held g gs stay f => subst h; rfl
  case v3 v b held g gs stay f =>
    subst h
    show ptPc (if r.ok then _ else _ : Q).pc = _
    split
    · exact (pt_sift _ _ _ _ _ _ _ _).1
    · rfl
  case fin o => subst h; rfl
theorem pt_run {l : LayT} {a : Int} : ∀ (R : List ResT) {q : Q}, ptPc q.pc = some a → ptPc (runQ l q R).pc = some a
  | [], _, h => h
  | r :: R, q, h => pt_run R (q := tell l q r) (pt_tell h)
/-- A program that is over stays. -/
theorem fin_run {l : LayT} {o : OutT} : ∀ (R : List ResT) {q : Q}, q.pc = .fin o → (runQ l q R).pc = .fin o
  | [], _, h => h
  | r :: R, q, h => by
    have : tell l q r = q := by unfold tell; rw [h]
    show (runQ l (tell l q r) R).pc = _
    rw [this]
    exact fin_run R h
/-- What will be told, if the point is behind us, and if it is no code. -/
theorem err_tell {l : LayT} {q : Q} {r : ResT} {a : Int} (h : ptPc q.pc = some a) (he : ∀ o, q.pc = .fin o → o.err = 0) : ∀ o, (tell l q r).pc = .fin o → o.err = 0 := by
  obtain ⟨pc, made, gone, e0⟩ := q
  have hs : ∀ (v a : Int) (held : List Int) (made : Nat) (e0 : Int) (gone gs stay : List (Int × Int)) (o : OutT), (siftQ v a held made e0 gone gs stay).pc = .fin o → o.err = 0 := fun v a held made e0 gone gs stay o h => by cases gs <;> simp only [siftQ, Pc.fin.injEq, reduceCtorEq] at h; subst h; rfl
  have hc : ∀ (v a : Int) (held : List Int) (made : Nat) (e0 : Int) (gone : List (Int × Int)) (cs : List Int) (o : OutT), (scanQ v a made e0 gone held cs).pc = .fin o → o.err = 0 := fun v a held made e0 gone cs o h => by
    cases cs with
    | nil => exact hs _ _ _ _ _ _ _ _ o h
    | cons c cs => cases h
  intro o ho
  cases pc <;> simp only [ptPc, Option.some.injEq, reduceCtorEq] at h
  case ce b => cases ho; rfl
  case d3 n b =>
    have ho : (if e0 = 0 then _ else _ : Q).pc = .fin o := ho
    split at ho <;> cases ho
  case c n v b => cases ho
  case r1 n v b => cases ho
  case r2 n v b er =>
    have ho : (if ((gone.length : Int) + 1) < 2 * l.seats then _ else _ : Q).pc = .fin o := ho
    split at ho
    · cases ho; rfl
    · exact hc _ _ _ _ _ _ _ o ho
  case rs v b held c cs => exact hc _ _ _ _ _ _ _ o ho
  case s1 v b held g gs stay =>
    have ho : (if held.any (inB (max1 r.val) g.2) = true then _ else _ : Q).pc = .fin o := ho
    split at ho
    · exact hs _ _ _ _ _ _ _ _ o ho
    · cases ho
  case v1 v b held g gs stay => cases ho
  case v2 v b held g gs stay f => cases ho
  case v3 v b held g gs stay f =>
    have ho : (if r.ok then _ else _ : Q).pc = .fin o := ho
    split at ho
    · exact hs _ _ _ _ _ _ _ _ o ho
    · cases ho
  case fin o' => exact he o ho
theorem err_run {l : LayT} {a : Int} : ∀ (R : List ResT) {q : Q}, ptPc q.pc = some a → (∀ o, q.pc = .fin o → o.err = 0) → ∀ o, (runQ l q R).pc = .fin o → o.err = 0
  | [], _, _, he => he
  | r :: R, q, h, he => err_run R (q := tell l q r) (pt_tell h) (err_tell h he)
/-- What is known of points: those behind us are less than what was made; a look at the top was just made. -/
def PtW (q : Q) : Prop := match q.pc with
  | .g2 _ a => a = (q.made : Int) - 1 ∧ 1 ≤ q.made
  | pc => ∀ a, ptPc pc = some a → 0 ≤ a ∧ a < q.made
theorem ptW_start (op : OpT) (gone : List (Int × Int)) : PtW (startQ op gone) := by
  unfold startQ PtW
  simp only
  split
  · rename_i h; split at h <;> cases h
  · intro a h
    split at h <;> cases h
theorem ptW_tell {l : LayT} {q : Q} {r : ResT} (h : PtW q) (hf : ∀ o, q.pc ≠ .fin o) : PtW (tell l q r) := by
  obtain ⟨pc, made, gone, e0⟩ := q
  have hsf : ∀ (v a : Int) (held : List Int) (gs stay : List (Int × Int)), 0 ≤ a ∧ a < made → PtW (siftQ v a held (made + 1) e0 gone gs stay) := fun v a held gs stay ha => by
    cases gs with
    | nil => intro b hb; cases hb; simp only [siftQ]; omega
    | cons g gs => intro b hb; cases hb; simp only [siftQ]; omega
  have hsc : ∀ (v a : Int) (held : List Int) (gone : List (Int × Int)) (cs : List Int), 0 ≤ a ∧ a < made → PtW (scanQ v a (made + 1) e0 gone held cs) := fun v a held gone cs ha => by
    cases cs with
    | nil =>
      cases gone with
      | nil => intro b hb; cases hb; simp only [scanQ, siftQ]; omega
      | cons g gs => intro b hb; cases hb; simp only [scanQ, siftQ]; omega
    | cons c cs => intro b hb; cases hb; simp only [scanQ]; omega
  cases pc with
  | t1 =>
    show PtW (if (ofW r.val).idx = 0 then _ else _)
    split
    · intro a ha; cases ha; simp only; omega
    · intro a ha; cases ha
  | t3 f lk =>
    show PtW (if r.ok then _ else _)
    split <;> (intro a ha; cases ha)
  | p3 n u =>
    show PtW (if r.ok then _ else _)
    split
    · intro a ha; cases ha; simp only; omega
    · intro a ha; cases ha
  | g1 => exact ⟨by simp only [tell]; omega, by simp only [tell]; omega⟩
  | g2 u a =>
    obtain ⟨h1, h2⟩ := h
    simp only at h1 h2
    show PtW (if r.val = e0 then (if (ofW u).idx = 0 then (if e0 = 0 then _ else _) else _) else _)
    split
    · split
      · split
        · intro b hb; cases hb; simp only; omega
        · intro b hb; cases hb; simp only; omega
      · intro b hb; cases hb
    · intro b hb; cases hb
  | d2 u be =>
    show PtW (if r.ok then _ else _)
    split
    · intro a ha; cases ha; simp only; omega
    · intro a ha; cases ha
  | d3 n a =>
    have := h a rfl
    simp only at this
    show PtW (if e0 = 0 then _ else _)
    split <;> (intro b hb; cases hb; simp only; omega)
  | ce a => have := h a rfl; simp only at this; intro b hb; cases hb; simp only [tell]; omega
  | c n v a => have := h a rfl; simp only at this; intro b hb; cases hb; simp only [tell]; omega
  | r1 n v a => have := h a rfl; simp only at this; intro b hb; cases hb; simp only [tell]; omega
  | r2 n v a er =>
    have := h a rfl
    show PtW (if ((gone.length : Int) + 1) < 2 * l.seats then _ else _)
    split
    · intro b hb; cases hb; simp only at this ⊢; omega
    · exact hsc _ _ _ _ _ this
  | rs v a held c cs => exact hsc _ _ _ _ _ (h a rfl)
  | s1 v a held g gs stay =>
    have := h a rfl
    show PtW (if held.any (inB (max1 r.val) g.2) = true then _ else _)
    split
    · exact hsf _ _ _ _ _ this
    · intro b hb; cases hb; simp only at this ⊢; omega
  | v1 v a held g gs stay => have := h a rfl; simp only at this; intro b hb; cases hb; simp only [tell]; omega
  | v2 v a held g gs stay f => have := h a rfl; simp only at this; intro b hb; cases hb; simp only [tell]; omega
  | v3 v a held g gs stay f =>
    have := h a rfl
    show PtW (if r.ok then _ else _)
    split
    · exact hsf _ _ _ _ _ this
    · intro b hb; cases hb; simp only at this ⊢; omega
  | fin o => exact absurd rfl (hf o)
  | _ => intro a ha; cases ha
/-- How many accesses were made. -/
theorem made_tell {l : LayT} {q : Q} {r : ResT} (hf : ∀ o, q.pc ≠ .fin o) : (tell l q r).made = q.made + 1 := by
  obtain ⟨pc, made, gone, e0⟩ := q
  cases pc with
  | t1 => show (if (ofW r.val).idx = 0 then _ else _ : Q).made = _; split <;> rfl
  | t3 f lk => show (if r.ok then _ else _ : Q).made = _; split <;> rfl
  | p3 n u => show (if r.ok then _ else _ : Q).made = _; split <;> rfl
  | g2 u a =>
    show (if r.val = e0 then (if (ofW u).idx = 0 then (if e0 = 0 then _ else _) else _) else _ : Q).made = _
    split
    · split
      · split <;> rfl
      · rfl
    · rfl
  | d2 u be => show (if r.ok then _ else _ : Q).made = _; split <;> rfl
  | d3 n a => show (if e0 = 0 then _ else _ : Q).made = _; split <;> rfl
  | r2 n v a er =>
    show (if ((gone.length : Int) + 1) < 2 * l.seats then _ else _ : Q).made = _
    split
    · rfl
    · exact (pt_scan _ _ _ _ _ _ _).2.1
  | rs v a held c cs => exact (pt_scan _ _ _ _ _ _ _).2.1
  | s1 v a held g gs stay =>
    show (if held.any (inB (max1 r.val) g.2) = true then _ else _ : Q).made = _
    split
    · exact (pt_sift _ _ _ _ _ _ _ _).2.1
    · rfl
  | v3 v a held g gs stay f =>
    show (if r.ok then _ else _ : Q).made = _
    split
    · exact (pt_sift _ _ _ _ _ _ _ _).2.1
    · rfl
  | fin o => exact absurd rfl (hf o)
  | _ => rfl
/-- A point that is not behind us is not behind us: but for a look at an empty top. -/
theorem pt_later {l : LayT} : ∀ (R : List ResT) {q : Q} {o : OutT}, PtW q → ptPc q.pc = none → (runQ l q R).pc = .fin o → ((∃ u a, q.pc = .g2 u a ∧ (ofW u).idx = 0 ∧ o.point = a) ∨ (q.made : Int) ≤ o.point)
  | [], q, o, _, hp, hr => by
    have hr : q.pc = .fin o := hr
    rw [hr] at hp; cases hp
  | r :: R, q, o, hw, hp, hr => by
    have hf : ∀ o', q.pc ≠ .fin o' := fun o' e => by rw [e] at hp; cases hp
    have hr : (runQ l (tell l q r) R).pc = .fin o := hr
    have hm := made_tell (l := l) (r := r) hf
    have hw' := ptW_tell (l := l) (r := r) hw hf
    -- the point was just set
    have hset : ∀ a, ptPc (tell l q r).pc = some a → o.point = a := fun a ha => by
      have := pt_run (l := l) R ha
      rw [hr] at this
      cases this; rfl
    cases hpt : ptPc (tell l q r).pc with
    | none =>
      rcases pt_later R hw' hpt hr with ⟨u, a, h1, h2, h3⟩ | h1
      · unfold PtW at hw'
        rw [h1] at hw'
        right
        omega
      · right; omega
    | some a =>
      have hoa := hset a hpt
      obtain ⟨pc, made, gone, e0⟩ := q
      cases pc with
      | t1 =>
        have hpt : ptPc (if (ofW r.val).idx = 0 then _ else _ : Q).pc = some a := hpt
        split at hpt
        · cases hpt; right; rw [hoa]; exact Int.le_refl _
        · cases hpt
      | t3 f lk =>
        have hpt : ptPc (if r.ok then _ else _ : Q).pc = some a := hpt
        split at hpt <;> cases hpt
      | p3 n u =>
        have hpt : ptPc (if r.ok then _ else _ : Q).pc = some a := hpt
        split at hpt
        · cases hpt; right; rw [hoa]; exact Int.le_refl _
        · cases hpt
      | d2 u be =>
        have hpt : ptPc (if r.ok then _ else _ : Q).pc = some a := hpt
        split at hpt
        · cases hpt; right; rw [hoa]; exact Int.le_refl _
        · cases hpt
      | g2 u b =>
        have hpt : ptPc (if r.val = e0 then (if (ofW u).idx = 0 then (if e0 = 0 then _ else _) else _) else _ : Q).pc = some a := hpt
        split at hpt
        · split at hpt
          · rename_i hi
            left
            split at hpt
            · cases hpt; exact ⟨u, _, rfl, hi, hoa⟩
            · cases hpt; exact ⟨u, _, rfl, hi, hoa⟩
          · cases hpt
        · cases hpt
      | _ => first | (cases hp; done) | (cases hpt; done)
end Go.Proofs.Ytpecgpmdchejdaa
