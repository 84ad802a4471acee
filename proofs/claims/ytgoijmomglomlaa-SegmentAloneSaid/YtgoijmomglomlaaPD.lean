/- Plays of channels, as states; what will be told of operations. -/
import Derived.Test.YtgoijmomglomlaaPC
namespace Go.Proofs.Ytgoijmomglomlaa
set_option maxRecDepth 100000

/-- A play's state, step by step. -/
def stateAt (p : PlayT) : Nat → PSt
  | 0 => start p
  | i + 1 => match stepP (layP p) p.want (whoF p i) (stateAt p i) with
    | .ok s => s
    | .error s => s
theorem state_G {p : PlayT} (hp : PlayG p) : ∀ i, i ≤ allF p → ∃ V F X g, G p i (stateAt p i) V F X g
  | 0, _ => ⟨_, _, _, _, G_start hp⟩
  | i + 1, hi => by
    have hall : allF p ≤ 3200 := by have := hp.ok.w3; have := hp.ok.t; unfold allF; omega
    obtain ⟨V, F, X, g, hG⟩ := state_G hp i (by omega)
    obtain ⟨s', V', F', X', g', h1, h2, h3⟩ := hG.step hp (by omega) (whoF_lt hp.ok (show i < allF p by omega))
    refine ⟨V', F', X', g', ?_⟩
    have : stateAt p (i + 1) = s' := by rw [stateAt, h1]
    rw [this]; exact h3
theorem state_next {p : PlayT} (hp : PlayG p) {i : Nat} (hi : i < allF p) {V : Vw} {F X : List Int} {g : SegG} (hG : G p i (stateAt p i) V F X g) : ∃ V' F' X' g', stepP (layP p) p.want (whoF p i) (stateAt p i) = .ok (stateAt p (i + 1)) ∧ StepR p (whoF p i) (stateAt p i) V F X g (stateAt p (i + 1)) V' F' X' g' ∧ G p (i + 1) (stateAt p (i + 1)) V' F' X' g' := by
  have hall : allF p ≤ 3200 := by have := hp.ok.w3; have := hp.ok.t; unfold allF; omega
  obtain ⟨s', V', F', X', g', h1, h2, h3⟩ := hG.step hp (by omega) (whoF_lt hp.ok hi)
  have : stateAt p (i + 1) = s' := by rw [stateAt, h1]
  rw [this]
  exact ⟨V', F', X', g', h1, h2, h3⟩
theorem state_play {p : PlayT} (hp : PlayG p) : ∀ (k i : Nat), i + k ≤ allF p → playL (layP p) p k i (stateAt p i) = .ok (stateAt p (i + k))
  | 0, i, _ => rfl
  | k + 1, i, hk => by
    obtain ⟨V, F, X, g, hG⟩ := state_G hp i (by omega)
    obtain ⟨_, _, _, _, h1, _, _⟩ := state_next hp (show i < allF p by omega) hG
    have hw := whoF_lt hp.ok (show i < allF p by omega)
    rw [playL, if_neg (by omega), h1]
    simp only
    rw [state_play hp k (i + 1) (by omega), show i + 1 + k = i + (k + 1) by omega]
/-- A play's end: its steps, and all are over. -/
theorem state_end {p : PlayT} (hp : PlayG p) : playedF p = ⟨(stateAt p (allF p)).out, (stateAt p (allF p)).m, (stateAt p (allF p)).seats.map (·.gone), true⟩ ∧ ∀ (w : Nat) (x : SeatT) (ws : List OpT), (stateAt p (allF p)).seats[w]? = some x → p.want[w]? = some ws → ws.length ≤ x.at_ := by
  obtain ⟨s, V, F, X, g, h1, _, _, h4⟩ := played_end hp (fun _ _ _ _ _ _ => True) (fun _ _ _ _ _ _ _ _ _ _ _ _ _ _ _ _ => trivial) trivial
  have h2 := state_play hp (allF p) 0 (by omega)
  rw [Nat.zero_add] at h2
  rw [show stateAt p 0 = start p from rfl, h1] at h2
  cases h2
  exact ⟨playedF_end h1 h4, h4⟩
/-- What is told of an operation: its point and its code. -/
def tellF (steps : List StepT) (w a : Int) : Int × Int := match steps.find? (fun s => decide (s.who = w) && decide (s.at_ = a) && s.done) with
  | some s => (s.out.point, s.out.err)
  | none => (-1, 0)
theorem tellF_skip {s : StepT} {l : List StepT} {w a : Int} (h : ¬ (s.who = w ∧ s.at_ = a ∧ s.done = true)) : tellF (s :: l) w a = tellF l w a := by
  unfold tellF
  rw [List.find?_cons_of_neg]
  simp only [Bool.and_eq_true, decide_eq_true_eq]
  intro hh
  exact h ⟨hh.1.1, hh.1.2, hh.2⟩
theorem tellF_here {s : StepT} {l : List StepT} {w a : Int} (h1 : s.who = w) (h2 : s.at_ = a) (h3 : s.done = true) : tellF (s :: l) w a = (s.out.point, s.out.err) := by
  unfold tellF
  rw [List.find?_cons_of_pos]
  simp [h1, h2, h3]
theorem tellF_app {w a : Int} : ∀ {l m : List StepT}, (∀ s ∈ l, ¬ (s.who = w ∧ s.at_ = a ∧ s.done = true)) → tellF (l ++ m) w a = tellF m w a
  | [], m, _ => rfl
  | s :: l, m, h => by
    rw [List.cons_append, tellF_skip (h s (by simp)), tellF_app (fun t ht => h t (by simp [ht]))]
/-- What will be told of the operations that are under way. -/
def FutX (p : PlayT) (i : Nat) : Prop := ∃ suf, (stateAt p (allF p)).out = (stateAt p i).out ++ suf ∧ ∀ (w : Nat) (x : SeatT) (ws : List OpT), (stateAt p i).seats[w]? = some x → p.want[w]? = some ws → x.at_ < ws.length → ∃ R o, (runQ (mP p) p.want.length (qAt p ws x) R).pc = .fin o ∧ tellF suf w x.at_ = (o.point, o.err)
theorem fut_all {p : PlayT} (hp : PlayG p) : ∀ (k i : Nat), i + k = allF p → FutX p i
  | 0, i, hi => by
    rw [Nat.add_zero] at hi
    subst hi
    refine ⟨[], by simp, fun w x ws hx hw hlt => ?_⟩
    have := (state_end hp).2 w x ws hx hw
    omega
  | k + 1, i, hi => by
    obtain ⟨suf, h1, h2⟩ := fut_all hp k (i + 1) (by omega)
    obtain ⟨V, F, X, g, hG⟩ := state_G hp i (by omega)
    obtain ⟨V', F', X', g', _, hS, _⟩ := state_next hp (show i < allF p by omega) hG
    generalize stateAt p (i + 1) = s' at *
    unfold FutX
    generalize stateAt p i = s at *
    cases hS with
    | idle x ws hx hw ha => exact ⟨suf, h1, h2⟩
    | done x ws op q o hx hw ho hq hpc =>
      refine ⟨_ :: suf, by rw [h1]; simp only [List.append_assoc, List.singleton_append]; rfl, fun w y us hy hu hlt => ?_⟩
      by_cases hww : w = whoF p i
      · subst hww
        rw [hx] at hy
        cases hy
        rw [hw] at hu
        cases hu
        refine ⟨[], o, ?_, tellF_here rfl rfl rfl⟩
        show (qAt p ws x).pc = _
        rw [← hq, hpc]
      · obtain ⟨R, o', h3, h4⟩ := h2 w y us (by simp only; rw [List.getElem?_set_ne (by omega)]; exact hy) hu hlt
        refine ⟨R, o', h3, ?_⟩
        rw [tellF_skip (fun hh => hww (by have h9 : ((whoF p i : Nat) : Int) = w := hh.1; omega)), h4]
    | acc x ws op q hx hw ho hq hpc =>
      refine ⟨_ :: suf, by rw [h1]; simp only [List.append_assoc, List.singleton_append]; rfl, fun w y us hy hu hlt => ?_⟩
      by_cases hww : w = whoF p i
      · subst hww
        rw [hx] at hy
        cases hy
        rw [hw] at hu
        cases hu
        have hl := (List.getElem?_eq_some_iff.1 hx).1
        obtain ⟨R, o', h3, h4⟩ := h2 (whoF p i) { x with log := x.log ++ [(actP p (whoF p i) V q).2] } ws (List.getElem?_set_self hl) hw hlt
        have e1 : qAt p ws { x with log := x.log ++ [(actP p (whoF p i) V q).2] } = tell (mP p) p.want.length q (actP p (whoF p i) V q).2 := by
          rw [hq]
          unfold qAt
          simp only [ho]
          rw [runQ_snoc]
        rw [e1] at h3
        refine ⟨(actP p (whoF p i) V q).2 :: R, o', by rw [← hq]; exact h3, ?_⟩
        rw [tellF_skip (by simp), h4]
      · obtain ⟨R, o', h3, h4⟩ := h2 w y us (by simp only; rw [List.getElem?_set_ne (by omega)]; exact hy) hu hlt
        refine ⟨R, o', h3, ?_⟩
        rw [tellF_skip (by simp), h4]
/-- Operations that are over lie behind. -/
def DoneLt (s : PSt) : Prop := ∀ st ∈ s.out, st.done = true → ∀ (w : Nat) (x : SeatT), s.seats[w]? = some x → st.who = w → st.at_ < x.at_
theorem done_lt {p : PlayT} (hp : PlayG p) : ∀ i, i ≤ allF p → DoneLt (stateAt p i)
  | 0, _ => fun st hst => by simp [stateAt, start] at hst
  | i + 1, hi => by
    have ih := done_lt hp i (by omega)
    obtain ⟨V, F, X, g, hG⟩ := state_G hp i (by omega)
    obtain ⟨V', F', X', g', _, hS, _⟩ := state_next hp (show i < allF p by omega) hG
    generalize stateAt p (i + 1) = s' at *
    generalize stateAt p i = s at *
    cases hS with
    | idle => exact ih
    | done x ws op q o hx hw ho hq hpc =>
      intro st hst hd w y hy hww
      simp only at hst hy
      have hl := (List.getElem?_eq_some_iff.1 hx).1
      rw [List.mem_append, List.mem_singleton] at hst
      by_cases hw' : w = whoF p i
      · subst hw'
        rw [List.getElem?_set_self hl] at hy
        cases hy
        rcases hst with hst | rfl
        · have := ih st hst hd (whoF p i) x hx hww
          simp only; omega
        · simp only; omega
      · rw [List.getElem?_set_ne (by omega)] at hy
        rcases hst with hst | rfl
        · exact ih st hst hd w y hy hww
        · simp only at hww; omega
    | acc x ws op q hx hw ho hq hpc =>
      intro st hst hd w y hy hww
      simp only at hst hy
      have hl := (List.getElem?_eq_some_iff.1 hx).1
      rw [List.mem_append, List.mem_singleton] at hst
      rcases hst with hst | rfl
      · by_cases hw' : w = whoF p i
        · subst hw'
          rw [List.getElem?_set_self hl] at hy
          cases hy
          exact ih st hst hd (whoF p i) x hx hww
        · rw [List.getElem?_set_ne (by omega)] at hy
          exact ih st hst hd w y hy hww
      · cases hd
/-- What the whole play tells of the operations that are under way. -/
theorem fut_is {p : PlayT} (hp : PlayG p) {i : Nat} (hi : i ≤ allF p) {w : Nat} {x : SeatT} {ws : List OpT} (hx : (stateAt p i).seats[w]? = some x) (hw : p.want[w]? = some ws) (hlt : x.at_ < ws.length) : ∃ R o, (runQ (mP p) p.want.length (qAt p ws x) R).pc = .fin o ∧ tellF (playedF p).steps w x.at_ = (o.point, o.err) := by
  obtain ⟨suf, h1, h2⟩ := fut_all hp (allF p - i) i (by omega)
  obtain ⟨R, o, h3, h4⟩ := h2 w x ws hx hw hlt
  refine ⟨R, o, h3, ?_⟩
  rw [(state_end hp).1]
  simp only
  rw [h1, tellF_app (fun st hst hh => ?_), h4]
  have := done_lt hp i hi st hst hh.2.2 w x hx hh.1
  omega
end Go.Proofs.Ytgoijmomglomlaa
/- Each operation of a channel takes effect at its point. -/
namespace Go.Proofs.Ytgoijmomglomlaa
set_option maxRecDepth 100000

/-! ### Programs of sends, and of receives -/
def OpK (op : OpT) : Sk → Prop
  | .sg v _ | .sl v _ _ _ | .sc v _ _ _ | .sn v _ _ | .st v _ _ _ | .tk v _ | .f0 v _ _ | .f1 v _ _ | .f2 v _ _ _ | .sa v _ _ => op.kind = 6 ∧ v = op.a
  | .rg | .rl _ _ | .rc _ _ _ | .rn _ | .re _ _ | .rt _ _ _ | .rh _ _ | .rx _ | .rr => op.kind = 7
  | .sb _ _ _ | .sv _ | .fi _ => True
def OpP (op : OpT) (pc : Pc Sk) : Prop := ∀ k, pc.cont = some k → OpK op k
section
variable {hd tl : Int} {S : Nat} {op : OpT}
theorem opP_at {k : Sk} {pc : Pc Sk} (h : pc.cont = some k) (hk : OpK op k) : OpP op pc := fun k' h' => by rw [h] at h'; cases h'; exact hk
theorem opP_fin {o : OutT} : OpP op (.fin o) := fun k h => by cases h
theorem opP_clr {k : Sk} (s : PsT) (hk : OpK op k) (hr : ∀ n, k = .rx n → OpK op .rr) : OpP op (clrQ (segM hd tl) k s).pc := by
  rcases clr_cases (M := segM hd tl) k s with ⟨i, i0, i2, h, e⟩ | ⟨_, e⟩
  · rw [e]; exact opP_at rfl hk
  · rw [e]
    cases k with
    | fi o => exact opP_fin
    | rx n => exact opP_at rfl (hr n rfl)
    | _ => exact opP_at rfl hk
theorem opP_norm {pc : Pc Sk} (s : PsT) (h : OpP op pc) : OpP op (norm (segM hd tl) pc s).pc := by
  cases pc with
  | clr k => exact opP_clr s (h k rfl) (fun n e => by subst e; exact (h (.rx n) rfl : op.kind = 7))
  | _ => exact h
theorem opP_sift (held : List Int) (s : PsT) (gs stay : List (Int × Int)) (hk : op.kind = 7) : OpP op (siftQ (segM hd tl) .rr held s gs stay).pc := by
  cases gs with
  | nil => exact opP_at rfl hk
  | cons g gs => exact opP_at rfl hk
theorem opP_scan (held : List Int) (s : PsT) (cs : List Ad) (hk : op.kind = 7) : OpP op (scanQ (segM hd tl) .rr held s cs).pc := by
  cases cs with
  | nil => exact opP_sift _ _ _ _ hk
  | cons c cs => exact opP_at rfl hk
theorem opP_tell {q : Q Sk} {r : ResT} (hs : Shape q) (h : OpP op q.pc) : OpP op (tell (segM hd tl) S q r).pc := by
  obtain ⟨pc, s⟩ := q
  cases pc with
  | fin o => exact opP_fin
  | clr k => exact absurd hs id
  | at_ k =>
    have hk : OpK op k := h k rfl
    have fi : ∀ o, OpP op (.clr (.fi o)) := fun o => opP_at rfl trivial
    have nS : ∀ {v m w i}, op.kind = 6 ∧ v = op.a → OpP op (nextS v m w i) := fun h => by unfold nextS; split <;> exact opP_at rfl h
    have nR : ∀ {w i}, op.kind = 7 → OpP op (nextR w i) := fun h => by unfold nextR; split <;> exact opP_at rfl h
    refine opP_norm s.up ?_
    show OpP op (segTell hd tl k s.made r)
    cases k with
    | sl v m w i =>
      simp only [segTell]
      split
      · exact opP_at rfl hk
      · exact nS hk
    | sc v m w i =>
      simp only [segTell]
      split
      · split
        · exact fi _
        · exact opP_at rfl trivial
      · exact nS hk
    | sn v m w =>
      simp only [segTell]
      split
      · split <;> exact opP_at rfl hk
      · exact opP_at rfl hk
    | st v m w nx => exact opP_at rfl hk
    | f0 v w n => exact opP_at rfl hk
    | f1 v w n => exact opP_at rfl hk
    | f2 v w n i =>
      simp only [segTell]
      split <;> exact opP_at rfl hk
    | sa v m w =>
      simp only [segTell]
      split
      · exact opP_at rfl trivial
      · exact opP_at rfl hk
    | sb w m a => exact fi _
    | rl w i =>
      simp only [segTell]
      split
      · exact fi _
      · split
        · exact nR hk
        · exact opP_at rfl hk
    | rc w i x =>
      simp only [segTell]
      split
      · exact fi _
      · exact nR hk
    | rn w =>
      simp only [segTell]
      split
      · exact fi _
      · exact opP_at rfl hk
    | re w nx =>
      simp only [segTell]
      split <;> exact opP_at rfl hk
    | rt w nx en => exact opP_at rfl hk
    | rh w nx =>
      simp only [segTell]
      split <;> exact opP_at rfl hk
    | _ => exact absurd hs id
  | t1 k =>
    have hk : OpK op k := h k rfl
    obtain ⟨v, w, rfl⟩ := hs
    show OpP op (if (ofW r.val).idx = 0 then norm (segM hd tl) (.clr (.fi _)) s.up else _ : Q Sk).pc
    split
    · exact opP_norm _ (opP_at rfl trivial)
    · exact opP_at rfl hk
  | t2 k f => exact opP_at rfl (h k rfl)
  | t3 k f lk =>
    show OpP op (if r.ok then _ else _ : Q Sk).pc
    split <;> exact opP_at rfl (h k rfl)
  | t4 k n b => exact opP_at rfl (h k rfl)
  | t5 k n b c =>
    have hk : OpK op k := h k rfl
    obtain ⟨v, w, rfl⟩ := hs
    exact opP_at rfl hk
  | g1 k i c => exact opP_at rfl (h k rfl)
  | g2 k i c v b =>
    have hk : OpK op k := h k rfl
    show OpP op (if r.val = s.e i then norm (segM hd tl) _ s.up else _ : Q Sk).pc
    split
    · rcases hs with ⟨v', m, rfl⟩ | rfl <;> exact opP_at rfl hk
    · exact opP_at rfl hk
  | g3 k i c er => exact opP_at rfl (h k rfl)
  | c k i => exact opP_clr _ (h k rfl) (fun n e => by subst e; exact (h (.rx n) rfl : op.kind = 7))
  | v1 k n => exact opP_at rfl (h k rfl)
  | v2 k n f => exact opP_at rfl (h k rfl)
  | v3 k n f =>
    obtain ⟨a, rfl⟩ := hs
    show OpP op (if r.ok then norm (segM hd tl) (.clr (.fi _)) s.up else _ : Q Sk).pc
    split
    · exact opP_norm _ (opP_at rfl trivial)
    · exact opP_at rfl trivial
  | r1 k n => exact opP_at rfl (h k rfl)
  | r2 k n er =>
    have hk : OpK op k := h k rfl
    have hs : k = .rr := hs
    subst hs
    show OpP op (if (s.gone.length : Int) + 1 < 2 * (S : Int) then norm (segM hd tl) _ _ else _ : Q Sk).pc
    split
    · exact opP_at rfl hk
    · exact opP_scan _ _ _ hk
  | rs k held c cs =>
    have hk : OpK op k := h k rfl
    have hs : k = .rr := hs
    subst hs
    exact opP_scan _ _ _ hk
  | s1 k held y gs stay =>
    have hk : OpK op k := h k rfl
    have hs : k = .rr := hs
    subst hs
    show OpP op (if held.any (inB (max1 r.val) y.2) = true then siftQ (segM hd tl) _ _ _ _ _ else _ : Q Sk).pc
    split
    · exact opP_sift _ _ _ _ hk
    · exact opP_at rfl hk
  | w1 k held y gs stay => exact opP_at rfl (h k rfl)
  | w2 k held y gs stay f => exact opP_at rfl (h k rfl)
  | w3 k held y gs stay f =>
    have hk : OpK op k := h k rfl
    have hs : k = .rr := hs
    subst hs
    show OpP op (if r.ok then siftQ (segM hd tl) _ _ _ _ _ else _ : Q Sk).pc
    split
    · exact opP_sift _ _ _ _ hk
    · exact opP_at rfl hk
theorem opP_start (op : OpT) (gone : List (Int × Int)) (hk : op.kind = 6 ∨ op.kind = 7) : OpP op (startQ hd tl op gone).pc := by
  unfold startQ
  simp only
  split
  · rename_i h; exact opP_at rfl ⟨h, rfl⟩
  · exact opP_at rfl (show op.kind = 7 by omega)
end

/-! ### The law's bookkeeping -/
structure PtS where
  c : List Int
  own : List Int
  val : List Int
  is : List Bool
def isAt (l : List Bool) (i : Int) : Bool := l.getD i.toNat false
theorem isAt_set {m : List Bool} {c d : Int} {v : Bool} (h0 : 0 ≤ c) (h1 : c < m.length) (hd : 0 ≤ d) : isAt (m.set c.toNat v) d = if d = c then v else isAt m d := by
  unfold isAt
  have hc : c.toNat < m.length := by omega
  by_cases h : d = c
  · subst h
    rw [if_pos rfl, List.getD_eq_getElem?_getD, List.getElem?_set_self hc]; rfl
  · rw [if_neg h, List.getD_eq_getElem?_getD, List.getD_eq_getElem?_getD, List.getElem?_set_ne (by omega)]
def specS (c : List Int) (op : OpT) : List Int × Int × Bool := if op.kind = 6 then (c ++ [op.a], 0, true) else match c with
  | [] => ([], 0, false)
  | x :: xs => (xs, x, true)
def effB (steps : List StepT) (z : PtS) (s : StepT) : Bool := decide ((tellF steps s.who s.at_).1 = cellAt z.own s.who) && decide ((tellF steps s.who s.at_).2 = 0)
def ptS (steps : List StepT) (z : PtS) (s : StepT) : PtS :=
  if s.done then { z with own := z.own.set s.who.toNat 0 }
  else if effB steps z s then ⟨(specS z.c s.op).1, z.own.set s.who.toNat (cellAt z.own s.who + 1), z.val.set s.who.toNat (specS z.c s.op).2.1, z.is.set s.who.toNat (specS z.c s.op).2.2⟩
  else { z with own := z.own.set s.who.toNat (cellAt z.own s.who + 1) }
structure PtOk (l : LayT) (n : Nat) (steps : List StepT) (z : PtS) (m : List Int) (s : StepT) : Prop where
  w0 : 0 ≤ s.who
  w1 : s.who < n
  own : z.own.length = n
  val : z.val.length = n
  is : z.is.length = n
  ends : s.done = true → (s.out.err = 0 → s.out.is = isAt z.is s.who ∧ s.out.val = cellAt z.val s.who) ∧ (s.out.err ≠ 0 → s.out.err = 8 ∧ s.out.is = false) ∧ 0 ≤ s.out.point ∧ s.out.point < cellAt z.own s.who
  acc : s.done = false → faultF m.length s.acc = 0 ∧ rowF l (memS m s) 0 = (ptS steps z s).c ∧ CellsLt (memS m s)
  len : m.length = l.size.toNat
  kind : s.op.kind = 6 ∨ s.op.kind = 7
  owns : 0 ≤ cellAt z.own s.who ∧ cellAt z.own s.who ≤ 100000
  cl : z.c.length ≤ 100
def ptZ0 (n : Nat) : PtS := ⟨[], List.replicate n 0, List.replicate n 0, List.replicate n false⟩
def PtAll (l : LayT) (n : Nat) (steps : List StepT) (m0 : List Int) (st : List StepT) : Prop := ∀ (i : Nat) (s : StepT), st[i]? = some s → PtOk l n steps ((st.take i).foldl (ptS steps) (ptZ0 n)) ((st.take i).foldl memS m0) s
theorem ptS_done {steps : List StepT} {z : PtS} {st : StepT} (h : st.done = true) : ptS steps z st = { z with own := z.own.set st.who.toNat 0 } := by unfold ptS; rw [if_pos h]
theorem ptS_eff {steps : List StepT} {z : PtS} {st : StepT} (h : st.done = false) (he : (tellF steps st.who st.at_).1 = cellAt z.own st.who) (h0 : (tellF steps st.who st.at_).2 = 0) : ptS steps z st = ⟨(specS z.c st.op).1, z.own.set st.who.toNat (cellAt z.own st.who + 1), z.val.set st.who.toNat (specS z.c st.op).2.1, z.is.set st.who.toNat (specS z.c st.op).2.2⟩ := by
  unfold ptS effB
  rw [if_neg (by simp [h]), if_pos (by simp [he, h0])]
theorem ptS_quiet {steps : List StepT} {z : PtS} {st : StepT} (h : st.done = false) (he : (tellF steps st.who st.at_).1 ≠ cellAt z.own st.who ∨ (tellF steps st.who st.at_).2 ≠ 0) : ptS steps z st = { z with own := z.own.set st.who.toNat (cellAt z.own st.who + 1) } := by
  unfold ptS effB
  rw [if_neg (by simp [h]), if_neg]
  simp only [Bool.and_eq_true, decide_eq_true_eq]
  rintro ⟨h1, h2⟩
  rcases he with he | he
  · exact he h1
  · exact he h2
theorem ptS_own {steps : List StepT} {z : PtS} {st : StepT} (h : st.done = false) : (ptS steps z st).own = z.own.set st.who.toNat (cellAt z.own st.who + 1) := by
  unfold ptS
  rw [if_neg (by simp [h])]
  split <;> rfl
theorem ptS_len {steps : List StepT} {z : PtS} {st : StepT} : (ptS steps z st).own.length = z.own.length ∧ (ptS steps z st).val.length = z.val.length ∧ (ptS steps z st).is.length = z.is.length := by
  unfold ptS
  split
  · simp
  · split <;> simp
/-- What a turn does to what is kept of the seats: the one's own, and the others'. -/
theorem ptS_there {steps : List StepT} {z : PtS} {st : StepT} {j : Nat} {w : Nat} (hw : st.who = w) (hj : j ≠ w) (l1 : w < z.own.length) (l2 : w < z.val.length) (l3 : w < z.is.length) : cellAt (ptS steps z st).own j = cellAt z.own j ∧ cellAt (ptS steps z st).val j = cellAt z.val j ∧ isAt (ptS steps z st).is j = isAt z.is j := by
  have k1 : ∀ x, cellAt (z.own.set st.who.toNat x) j = cellAt z.own j := fun x => by rw [hw, cellAt_set (by omega) (by omega) (by omega), if_neg (by omega)]
  have k2 : ∀ x, cellAt (z.val.set st.who.toNat x) j = cellAt z.val j := fun x => by rw [hw, cellAt_set (by omega) (by omega) (by omega), if_neg (by omega)]
  have k3 : ∀ x, isAt (z.is.set st.who.toNat x) j = isAt z.is j := fun x => by rw [hw, isAt_set (by omega) (by omega) (by omega), if_neg (by omega)]
  unfold ptS
  split
  · exact ⟨k1 _, rfl, rfl⟩
  · split
    · exact ⟨k1 _, k2 _, k3 _⟩
    · exact ⟨k1 _, rfl, rfl⟩

def contF (g : SegG) : List Int := g.vs.map fun v => v - 2
/-! ### What an access does -/
section
variable {hd tl : Int} {l : LayT} {S N K : Nat} {V : Vw} {qs : List (Q Sk)} {F X : List Int} {g : SegG} {w : Nat} {q : Q Sk}
/-- The head's places, seen from the word. -/
theorem rw_head (hI : Inv (segZ hd tl N) l S N K V qs F X g) (hN : N ≤ 100) {P : Int → Int → Prop} {u : Int} (h : RW hd N V.W P u) (hno : ¬ Old V.W (ofW u).idx) : V.W.ob hd = u ∧ ∃ B, X = (ofW u).idx :: B := by
  have hSI : SegSI hd tl N K V.W X (Dq (segZ hd tl N) qs) g := hI.si
  have h1 : V.W.ob hd = u := by
    by_cases e : V.W.ob hd = u
    · exact e
    · exact absurd (h.2.2.2 e) hno
  obtain ⟨B, hB⟩ := hSI.headX hN
  rw [h1] at hB
  exact ⟨h1, B, hB⟩
/-- What an access does to the channel, and to what will be told. -/
structure Eff (V : Vw) (op : OpT) (g g' : SegG) (q q' : Q Sk) : Prop where
  quiet : ptP q'.pc = none ∨ ptP q.pc ≠ none → contF g' = contF g
  new : ptP q.pc = none → ptP q'.pc ≠ none → ∃ v b e, outP q'.pc = some (v, b, e) ∧ ((e = 0 ∧ specS (contF g) op = (contF g', v, b)) ∨ (e = 8 ∧ b = false ∧ contF g' = contF g ∧ (ofW V.fr).idx = 0 ∧ ∃ v u, q.pc = .t1 (.tk v u)))
theorem Eff.same {V : Vw} {op : OpT} {g g' : SegG} {q q' : Q Sk} (hg : contF g' = contF g) (h : ptP q.pc = none → ptP q'.pc = none) : Eff V op g g' q q' := ⟨fun _ => hg, fun h1 h2 => absurd (h h1) h2⟩
theorem Eff.some {V : Vw} {op : OpT} {g g' : SegG} {q q' : Q Sk} {a v : Int} {b : Bool} (h1 : ptP q.pc = none) (h2 : ptP q'.pc = some a) (h3 : outP q'.pc = some (v, b, 0)) (h4 : specS (contF g) op = (contF g', v, b)) : Eff V op g g' q q' := ⟨fun h => by rcases h with h | h; rw [h2] at h; cases h; exact absurd h1 h, fun _ _ => ⟨v, b, 0, h3, .inl ⟨rfl, h4⟩⟩⟩
theorem seg_eff (hN : N ≤ 100) (hI : Inv (segZ hd tl N) l S N K V qs F X g) (hq : qs[w]? = some q) (hf : q.pc.asking) (hsh : Shape q) {op : OpT} (ho : OpP op q.pc) : Eff V op g (nxX (segZ hd tl N) V.W X g q.pc).2 q (tell (segM hd tl) S q (act V (asks (segM hd tl) w q.pc)).2) := by
  have hSI : SegSI hd tl N K V.W X (Dq (segZ hd tl N) qs) g := hI.si
  have hpc := (hI.loc w q hq).pc
  have hXd := hI.nodupX
  have hDX : ∀ n, Dq (segZ hd tl N) qs n → n ∉ X := fun n h => (hI.dq h).2.1
  have hPX : ∀ i n, Pr (segZ hd tl N) V X qs w q.s i n → n ∈ X ∨ Dq (segZ hd tl N) qs n := fun i n h => pr_in h
  have hnS : ∀ (v m w i : Int) (s : PsT), ptP (norm (segM hd tl) (nextS v m w i) s).pc = none := fun v m w i s => by rw [(norm_pt _ _).1]; unfold nextS; split <;> rfl
  have hnR : ∀ (w i : Int) (s : PsT), ptP (norm (segM hd tl) (nextR w i) s).pc = none := fun w i s => by rw [(norm_pt _ _).1]; unfold nextR; split <;> rfl
  have hfi : ∀ (o : OutT) (s : PsT), ptP (norm (segM hd tl) (.clr (.fi o)) s).pc = .some o.point ∧ outP (norm (segM hd tl) (.clr (.fi o)) s).pc = .some (o.val, o.is, o.err) := fun o s => norm_pt _ _
  cases hp : ptP q.pc with
  | some a =>
    refine ⟨fun _ => ?_, fun h => by rw [hp] at h; cases h⟩
    obtain ⟨pc, s⟩ := q
    cases pc with
    | at_ k => cases k <;> first | rfl | cases hp
    | _ => rfl
  | none =>
    have hnew := pt_new (hd := hd) (tl := tl) (S := S) (r := (act V (asks (segM hd tl) w q.pc)).2) hsh hp
    obtain ⟨pc, s⟩ := q
    cases pc with
    | fin o => exact absurd hf id
    | clr k => exact absurd hf id
    | at_ k =>
      have hkl : segKL hd tl N V.W (Pr (segZ hd tl N) V X qs w s) k := hpc.1
      have hk : OpK op k := ho k rfl
      cases k with
      | sc v m u i =>
        obtain ⟨h1, h2, h3, h4, h5, h6⟩ := hkl
        by_cases hc : V.W.nd (ofW u).idx i = 0
        · have e1 : (act V (asks (segM hd tl) w (.at_ (.sc v m u i)))).2 = ⟨0, true⟩ := by
            show (act V (.cs (.nd (ofW u).idx i) 0 (v + 2))).2 = _
            simp only [act, Vw.get, hc, if_true]
          have e2 : (nxX (segZ hd tl N) V.W X g (.at_ (.sc v m u i))).2 = { g with put := g.put + 1, vs := g.vs ++ [v + 2] } := by
            show (segNx hd V.W X g (.sc v m u i)).2 = _
            simp only [segNx, hc, if_true]
          simp only [e1, e2]
          have e3 : ptP (tell (segM hd tl) S ⟨.at_ (.sc v m u i), s⟩ ⟨0, true⟩).pc = .some (s.made : Int) ∧ outP (tell (segM hd tl) S ⟨.at_ (.sc v m u i), s⟩ ⟨0, true⟩).pc = .some (0, true, 0) := by
            show ptP (norm (segM hd tl) (if m = 0 then .clr (.fi (okO s.made)) else .v1 (.sv s.made) m) s.up).pc = _ ∧ outP (norm (segM hd tl) (if m = 0 then .clr (.fi (okO s.made)) else .v1 (.sv s.made) m) s.up).pc = _
            rw [(norm_pt _ _).1, (norm_pt _ _).2]
            split <;> exact ⟨rfl, rfl⟩
          refine Eff.some hp e3.1 e3.2 ?_
          unfold specS contF
          rw [if_pos hk.1, hk.2]
          simp only [List.map_append, List.map_cons, List.map_nil]
          rw [show op.a + 2 - 2 = op.a by omega]
        · have e1 : (act V (asks (segM hd tl) w (.at_ (.sc v m u i)))).2 = ⟨V.W.nd (ofW u).idx i, false⟩ := by
            show (act V (.cs (.nd (ofW u).idx i) 0 (v + 2))).2 = _
            simp only [act, Vw.get, hc, if_false]
          have e2 : (nxX (segZ hd tl N) V.W X g (.at_ (.sc v m u i))).2 = g := by
            show (segNx hd V.W X g (.sc v m u i)).2 = g
            simp only [segNx, hc, if_false]
          simp only [e1, e2]
          exact Eff.same rfl fun _ => hnS v m u i s.up
      | sa v m u =>
        by_cases hc : V.W.nd (ofW u).idx 0 = 0
        · have e1 : (act V (asks (segM hd tl) w (.at_ (.sa v m u)))).2 = ⟨0, true⟩ := by
            show (act V (.cs (.nd (ofW u).idx 0) 0 m)).2 = _
            simp only [act, Vw.get, hc, if_true]
          have e2 : (nxX (segZ hd tl N) V.W X g (.at_ (.sa v m u))).2 = { g with put := g.put + 1, vs := g.vs ++ [v + 2] } := by
            show (segNx hd V.W X g (.sa v m u)).2 = _
            simp only [segNx, hc, if_true]
          simp only [e1, e2]
          refine Eff.some (a := (s.made : Int)) hp rfl rfl ?_
          unfold specS contF
          rw [if_pos hk.1, hk.2]
          simp only [List.map_append, List.map_cons, List.map_nil]
          rw [show op.a + 2 - 2 = op.a by omega]
        · have e1 : (act V (asks (segM hd tl) w (.at_ (.sa v m u)))).2 = ⟨V.W.nd (ofW u).idx 0, false⟩ := by
            show (act V (.cs (.nd (ofW u).idx 0) 0 m)).2 = _
            simp only [act, Vw.get, hc, if_false]
          have e2 : (nxX (segZ hd tl N) V.W X g (.at_ (.sa v m u))).2 = g := by
            show (segNx hd V.W X g (.sa v m u)).2 = g
            simp only [segNx, hc, if_false]
          simp only [e1, e2]
          exact Eff.same rfl fun _ => rfl
      | rc u i x =>
        obtain ⟨k1, k2, k3, k4, k5, k6⟩ := hkl
        have hk7 : ¬ op.kind = 6 := fun e => by have : op.kind = 7 := hk; omega
        by_cases hc : V.W.nd (ofW u).idx i = x
        · have e1 : (act V (asks (segM hd tl) w (.at_ (.rc u i x)))).2 = ⟨x, true⟩ := by
            show (act V (.cs (.nd (ofW u).idx i) x 1)).2 = _
            simp only [act, Vw.get, hc, if_true]
          have e2 : (nxX (segZ hd tl N) V.W X g (.at_ (.rc u i x))).2 = { g with vs := g.vs.tail } := by
            show (segNx hd V.W X g (.rc u i x)).2 = _
            simp only [segNx, hc, if_true]
          simp only [e1, e2]
          obtain ⟨hh, B, hB⟩ := rw_head hI hN k1 (fun h => by have := h.1 i k2 k3; omega)
          obtain ⟨_, _, t3⟩ := take_si hSI hN hXd hDX (by rw [hh]) k2 k3 hc k5 k4
          have hvs := (hSI.vs x (by rw [t3]; exact List.mem_cons_self)).2
          refine Eff.some (a := (s.made : Int)) (v := x - 2) (b := true) hp ?_ ?_ ?_
          · exact (hfi ⟨w64 (x - 2), true, 0, s.made, []⟩ s.up).1
          · have := (hfi ⟨w64 (x - 2), true, 0, s.made, []⟩ s.up).2
            rw [w64_id (by omega) (by omega)] at this
            show outP (norm (segM hd tl) (.clr (.fi ⟨w64 (x - 2), true, 0, s.made, []⟩)) s.up).pc = _
            rw [w64_id (by omega) (by omega)]
            exact this
          · unfold specS contF
            rw [if_neg hk7, t3]
            rfl
        · have e1 : (act V (asks (segM hd tl) w (.at_ (.rc u i x)))).2 = ⟨V.W.nd (ofW u).idx i, false⟩ := by
            show (act V (.cs (.nd (ofW u).idx i) x 1)).2 = _
            simp only [act, Vw.get, hc, if_false]
          have e2 : (nxX (segZ hd tl N) V.W X g (.at_ (.rc u i x))).2 = g := by
            show (segNx hd V.W X g (.rc u i x)).2 = g
            simp only [segNx, hc, if_false]
          simp only [e1, e2]
          exact Eff.same rfl fun _ => hnR u i s.up
      | rl u i =>
        obtain ⟨k1, k2, k3, k4⟩ := hkl
        have hk7 : ¬ op.kind = 6 := fun e => by have : op.kind = 7 := hk; omega
        have e2 : (nxX (segZ hd tl N) V.W X g (.at_ (.rl u i))).2 = g := rfl
        have e1 : tell (segM hd tl) S ⟨.at_ (.rl u i), s⟩ (act V (asks (segM hd tl) w (.at_ (.rl u i)))).2 = norm (segM hd tl) (if V.W.nd (ofW u).idx i = 0 then .clr (.fi (noO s.made)) else if V.W.nd (ofW u).idx i = 1 then nextR u i else .at_ (.rc u i (V.W.nd (ofW u).idx i))) s.up := rfl
        simp only [e2, e1]
        by_cases h0 : V.W.nd (ofW u).idx i = 0
        · rw [if_pos h0]
          obtain ⟨hh, B, hB⟩ := rw_head hI hN k1 (fun h => by have := h.1 i k2 k3; omega)
          obtain ⟨a, c, hs, _, _⟩ := hSI.seq
          have hget : ∀ j : Int, 1 ≤ j → j ≤ 5 → (seqW V.W X)[(j - 1).toNat]? = .some (V.W.nd (ofW u).idx j) := fun j j1 j5 => by
            have := seq_at (W := V.W) (A := []) (B := B) (n := (ofW u).idx) j1 j5
            rw [hB]; simpa using this
          have hv : g.vs = [] := row_none hs (fun v hv => (hSI.vs v hv).1) (p := (i - 1).toNat) (.inl (by rw [hget i k2 k3, h0])) (fun y hy => by
            have := hget ((y : Int) + 1) (by omega) (by omega)
            rw [show ((y : Int) + 1 - 1).toNat = y by omega] at this
            rw [this, k4 ((y : Int) + 1) (by omega) (by omega)])
          refine Eff.some (v := 0) (b := false) hp (hfi (noO s.made) s.up).1 (hfi (noO s.made) s.up).2 ?_
          unfold specS contF
          rw [if_neg hk7, hv]
          rfl
        · rw [if_neg h0]
          split
          · exact Eff.same rfl fun _ => hnR u i s.up
          · exact Eff.same rfl fun _ => rfl
      | rn u =>
        obtain ⟨k1, k2⟩ := hkl
        have hk7 : ¬ op.kind = 6 := fun e => by have : op.kind = 7 := hk; omega
        have e2 : (nxX (segZ hd tl N) V.W X g (.at_ (.rn u))).2 = g := rfl
        have e1 : tell (segM hd tl) S ⟨.at_ (.rn u), s⟩ (act V (asks (segM hd tl) w (.at_ (.rn u)))).2 = norm (segM hd tl) (if V.W.nd (ofW u).idx 0 = 0 then .clr (.fi (noO s.made)) else .at_ (.re u (V.W.nd (ofW u).idx 0))) s.up := rfl
        simp only [e2, e1]
        by_cases h0 : V.W.nd (ofW u).idx 0 = 0
        · rw [if_pos h0]
          obtain ⟨hh, B, hB⟩ := rw_head hI hN k1 (fun h => h.2 h0)
          obtain ⟨a, c, hs, _, _⟩ := hSI.seq
          have hlk := hSI.link
          rw [hB] at hlk
          have hBn : B = [] := by
            have h9 : V.W.nd (ofW u).idx 0 = B.headD 0 := hlk.1
            rw [h0] at h9
            cases B with
            | nil => rfl
            | cons y B =>
              have := hSI.rng y (by rw [hB]; simp)
              simp at h9
              omega
          subst hBn
          have hget : ∀ j : Int, 1 ≤ j → j ≤ 5 → (seqW V.W X)[(j - 1).toNat]? = .some (V.W.nd (ofW u).idx j) := fun j j1 j5 => by
            have := seq_at (W := V.W) (A := []) (B := []) (n := (ofW u).idx) j1 j5
            rw [hB]; simpa using this
          have hv : g.vs = [] := row_none hs (fun v hv => (hSI.vs v hv).1) (p := 5) (.inr (by rw [seq_len, hB]; rfl)) (fun y hy => by
            have := hget ((y : Int) + 1) (by omega) (by omega)
            rw [show ((y : Int) + 1 - 1).toNat = y by omega] at this
            rw [this, k2 ((y : Int) + 1) (by omega) (by omega)])
          refine Eff.some (v := 0) (b := false) hp (hfi (noO s.made) s.up).1 (hfi (noO s.made) s.up).2 ?_
          unfold specS contF
          rw [if_neg hk7, hv]
          rfl
        · rw [if_neg h0]
          exact Eff.same rfl fun _ => rfl
      | rh u nx =>
        have e2 : contF (nxX (segZ hd tl N) V.W X g (.at_ (.rh u nx))).2 = contF g := by
          show contF (segNx hd V.W X g (.rh u nx)).2 = contF g
          simp only [segNx]
          split <;> rfl
        refine Eff.same e2 fun _ => ?_
        show ptP (norm (segM hd tl) (if (act V (asks (segM hd tl) w (.at_ (.rh u nx)))).2.ok then .clr (.rx (ofW u).idx) else .g1 .rg 0 (.ob hd)) s.up).pc = _
        rw [(norm_pt _ _).1]
        split <;> rfl
      | sl v m u i =>
        refine Eff.same rfl fun _ => ?_
        show ptP (norm (segM hd tl) (if V.W.nd (ofW u).idx i = 0 then _ else _) s.up).pc = _
        split
        · rfl
        · exact hnS _ _ _ _ _
      | sn v m u =>
        refine Eff.same rfl fun _ => ?_
        show ptP (norm (segM hd tl) (if V.W.nd (ofW u).idx 0 = 0 then (if m = 0 then _ else _) else _) s.up).pc = _
        split
        · split <;> rfl
        · rfl
      | re u nx =>
        refine Eff.same rfl fun _ => ?_
        show ptP (norm (segM hd tl) (if (ofW (V.W.ob tl)).idx = (ofW u).idx then _ else _) s.up).pc = _
        split <;> rfl
      | f2 v u n i =>
        refine Eff.same rfl fun _ => ?_
        show ptP (norm (segM hd tl) (if i < 5 then _ else _) s.up).pc = _
        split <;> rfl
      | sb u m a => cases hp
      | st v m u nx => exact Eff.same rfl fun _ => rfl
      | f0 v u n => exact Eff.same rfl fun _ => rfl
      | f1 v u n => exact Eff.same rfl fun _ => rfl
      | rt u nx en => exact Eff.same rfl fun _ => rfl
      | _ => exact absurd hsh id
    | t1 k =>
      obtain ⟨v, u, rfl⟩ := hsh
      refine ⟨fun _ => rfl, fun _ hne => ?_⟩
      have e1 : tell (segM hd tl) S ⟨.t1 (.tk v u), s⟩ (act V (asks (segM hd tl) w (.t1 (.tk v u)))).2 = if (ofW V.fr).idx = 0 then norm (segM hd tl) (.clr (.fi ⟨0, false, 8, s.made, []⟩)) s.up else ⟨.t2 (.tk v u) V.fr, s.up⟩ := rfl
      rw [e1] at hne ⊢
      split at hne
      · rename_i h0
        rw [if_pos h0]
        exact ⟨0, false, 8, (hfi ⟨0, false, 8, s.made, []⟩ s.up).2, .inr ⟨rfl, rfl, rfl, h0, v, u, rfl⟩⟩
      · exact absurd rfl hne
    | t5 k n a b =>
      obtain ⟨v, u, rfl⟩ := hsh
      exact Eff.same rfl fun _ => rfl
    | v3 k n f => obtain ⟨a, rfl⟩ := hsh; cases hp
    | g2 k i c v b =>
      refine Eff.same rfl fun _ => ?_
      show ptP (if V.er = s.e i then norm (segM hd tl) _ s.up else _ : Q Sk).pc = _
      split
      · rcases hsh with ⟨v', m, rfl⟩ | rfl <;> rfl
      · exact hp
    | c k i =>
      refine Eff.same rfl fun _ => ?_
      exact (clr_pt _ _).1.trans hp
    | t3 k f lk =>
      refine Eff.same rfl fun _ => ?_
      show ptP (if (act V (asks (segM hd tl) w (.t3 k f lk))).2.ok then _ else _ : Q Sk).pc = _
      split <;> exact hp
    | r2 k n er =>
      have hsh : k = .rr := hsh
      subst hsh
      refine Eff.same rfl fun _ => ?_
      show ptP (if (s.gone.length : Int) + 1 < 2 * (S : Int) then norm (segM hd tl) _ _ else _ : Q Sk).pc = _
      split
      · rfl
      · exact (scan_pt _ _ _ _).1
    | rs k held c cs => exact Eff.same rfl fun _ => (scan_pt _ _ _ _).1.trans hp
    | s1 k held y gs stay =>
      refine Eff.same rfl fun _ => ?_
      show ptP (if held.any (inB (max1 (V.bi y.1)) y.2) = true then siftQ (segM hd tl) _ _ _ _ _ else _ : Q Sk).pc = _
      split
      · exact (sift_pt _ _ _ _ _).1.trans hp
      · exact hp
    | w3 k held y gs stay f =>
      refine Eff.same rfl fun _ => ?_
      show ptP (if (act V (asks (segM hd tl) w (.w3 k held y gs stay f))).2.ok then siftQ (segM hd tl) _ _ _ _ _ else _ : Q Sk).pc = _
      split
      · exact (sift_pt _ _ _ _ _).1.trans hp
      · exact hp
    | _ => exact Eff.same rfl fun _ => hp
end

theorem all_snoc₂ {l : LayT} {n : Nat} {steps : List StepT} {m0 : List Int} {st : List StepT} {s : StepT} (h : PtAll l n steps m0 st) (hs : PtOk l n steps (st.foldl (ptS steps) (ptZ0 n)) (st.foldl memS m0) s) : PtAll l n steps m0 (st ++ [s]) := by
  intro i x hx
  rcases Nat.lt_trichotomy i st.length with hi | hi | hi
  · rw [List.getElem?_append_left hi] at hx
    rw [List.take_append_of_le_length (by omega)]
    exact h i x hx
  · subst hi
    rw [List.getElem?_append_right (by omega)] at hx
    simp at hx
    subst hx
    rw [List.take_append_of_le_length (by omega), List.take_length]
    exact hs
  · rw [List.getElem?_eq_none (by simp; omega)] at hx
    cases hx

/-! ### Points -/
theorem outP_pt {q : Q Sk} (h : ptP q.pc = none) : outP q.pc = none := by
  obtain ⟨pc, s⟩ := q
  cases pc with
  | fin o => cases h
  | at_ k | t1 k | t2 k _ | t3 k _ _ | t4 k _ _ | t5 k _ _ _ | g1 k _ _ | g2 k _ _ _ _ | g3 k _ _ _ | clr k | c k _ | v1 k _ | v2 k _ _ | v3 k _ _ | r1 k _ | r2 k _ _ | rs k _ _ _ | s1 k _ _ _ _ | w1 k _ _ _ _ | w2 k _ _ _ _ _ | w3 k _ _ _ _ _ => cases k <;> first | rfl | cases h
theorem opP_run {hd tl : Int} {S : Nat} {op : OpT} : ∀ (log : List ResT) {q : Q Sk}, Shape q → OpP op q.pc → OpP op (runQ (segM hd tl) S q log).pc
  | [], _, _, h => h
  | _ :: log, _, hs, h => opP_run log (shape_tell hs) (opP_tell hs h)
theorem qAt_op {p : PlayT} {ws : List OpT} {x : SeatT} {op : OpT} (hk : op.kind = 6 ∨ op.kind = 7) (ho : ws[x.at_]? = some op) : OpP op (qAt p ws x).pc := by
  have e : qAt p ws x = runQ (mP p) p.want.length (startQ (hdP p) (tlP p) op x.gone) x.log := by unfold qAt; rw [ho]
  rw [e]
  exact opP_run _ (start_shape _ _ _ _).1 (opP_start op x.gone hk)
/-- What is known of a seat that has an operation under way. -/
structure PtSeat (z : PtS) (w : Nat) (q : Q Sk) : Prop where
  own : cellAt z.own w = q.s.made
  out : ∀ v b e, outP q.pc = some (v, b, e) → (e = 0 → v = cellAt z.val w ∧ b = isAt z.is w) ∧ (e ≠ 0 → e = 8 ∧ b = false)
structure PtJ (p : PlayT) (i : Nat) (s : PSt) (g : SegG) : Prop where
  ob : ∀ w : Nat, cellAt (s.out.foldl (ptS (playedF p).steps) (ptZ0 p.want.length)).own w ≤ i
  all : PtAll (layP p) p.want.length (playedF p).steps (beginF (layP p)) s.out
  mem : s.out.foldl memS (beginF (layP p)) = s.m
  lt : CellsLt s.m
  own : (s.out.foldl (ptS (playedF p).steps) (ptZ0 p.want.length)).own.length = p.want.length
  val : (s.out.foldl (ptS (playedF p).steps) (ptZ0 p.want.length)).val.length = p.want.length
  is : (s.out.foldl (ptS (playedF p).steps) (ptZ0 p.want.length)).is.length = p.want.length
  c : (s.out.foldl (ptS (playedF p).steps) (ptZ0 p.want.length)).c = contF g
  seat : ∀ (w : Nat) (x : SeatT) (ws : List OpT), s.seats[w]? = some x → p.want[w]? = some ws → x.at_ < ws.length → PtSeat (s.out.foldl (ptS (playedF p).steps) (ptZ0 p.want.length)) w (qAt p ws x)
def FutW (p : PlayT) (s : PSt) : Prop := ∀ (w : Nat) (x : SeatT) (ws : List OpT), s.seats[w]? = some x → p.want[w]? = some ws → x.at_ < ws.length → ∃ R o, (runQ (mP p) p.want.length (qAt p ws x) R).pc = .fin o ∧ tellF (playedF p).steps w x.at_ = (o.point, o.err)
theorem cont_len {p : PlayT} {i : Nat} {s : PSt} {V : Vw} {F X : List Int} {g : SegG} (hG : G p i s V F X g) : (contF g).length ≤ 100 := by
  have hSI : SegSI (hdP p) (tlP p) (nP p) i V.W X (Dq (spP p) (qsOf p s.seats)) g := hG.inv.si
  obtain ⟨a, c, h1, _, _⟩ := hSI.seq
  have h2 := nodup_le (nP p) X hG.inv.nodupX (fun x hx => hG.inv.inX hx)
  have h3 := seq_len V.W X
  rw [h1] at h3
  simp only [List.length_append, List.length_replicate] at h3
  have := nP_le p
  simp only [contF, List.length_map]
  omega
theorem pt_step {p : PlayT} (hp : PlayG p) {i : Nat} {s s' : PSt} {V V' : Vw} {F X F' X' : List Int} {g g' : SegG} (hi : i < allF p) (hG : G p i s V F X g) (hS : StepR p (whoF p i) s V F X g s' V' F' X' g') (hG' : G p (i + 1) s' V' F' X' g') (hF : FutW p s') (h : PtJ p i s g) : PtJ p (i + 1) s' g' := by
  have hL := layP_lay p hp.ok.w1
  have hall : allF p ≤ 3200 := by have := hp.ok.w3; have := hp.ok.t; unfold allF; omega
  have hwl := whoF_lt hp.ok hi
  have hN := nP_le p
  have hcl := cells_step hp hi hG hS h.lt
  have hml : s.m.length = (layP p).size.toNat := hG.view.len
  have hrow' := row_is hL (segLayP p) rfl (by omega) hG'.view hG'.inv
  have hTl := cont_len hG
  generalize hw : whoF p i = who at *
  cases hS with
  | idle => exact ⟨fun w => by have := h.ob w; omega, h.all, h.mem, h.lt, h.own, h.val, h.is, h.c, h.seat⟩
  | done x ws op q o hx hws ho hq hpc =>
    have hk := (hp.k ws (List.mem_of_getElem? hws) op (List.mem_of_getElem? ho)).1
    have hal := (List.getElem?_eq_some_iff.1 ho).1
    have hs0 := h.seat who x ws hx hws hal
    have hW := (qAt_shape p ws x hal).2
    rw [← hq] at hs0 hW
    obtain ⟨ob, all, mem, lt, own, val, is, cc, seat⟩ := h
    have hs1 := hs0.own
    have hob := ob who
    generalize hz : s.out.foldl (ptS (playedF p).steps) (ptZ0 p.want.length) = z at *
    generalize hst : (⟨who, x.at_, op0F op, x.gone, acc0, res0, true, { o with gone := q.s.gone }⟩ : StepT) = st at *
    have e1 : st.done = true := by rw [← hst]
    have ew : st.who = who := by rw [← hst]
    have ef := ptS_done (steps := (playedF p).steps) (z := z) e1
    have em : memS s.m st = s.m := by unfold memS; rw [if_pos e1]
    have hW' : 0 ≤ o.point ∧ o.point < q.s.made := hW _ (by rw [hpc]; rfl)
    have hout := hs0.out o.val o.is o.err (by rw [hpc]; rfl)
    have hok : PtOk (layP p) p.want.length (playedF p).steps (s.out.foldl (ptS (playedF p).steps) (ptZ0 p.want.length)) (s.out.foldl memS (beginF (layP p))) st := by
      rw [hz, mem]
      refine ⟨by rw [ew]; omega, by rw [ew]; omega, own, val, is, fun _ => ?_, (fun e => by rw [e1] at e; cases e), hml, by rw [← hst]; exact hk, by rw [ew, hs1]; omega, by rw [cc]; omega⟩
      rw [ew, hs1, ← hst]
      exact ⟨fun e => ⟨(hout.1 e).2, (hout.1 e).1⟩, hout.2, hW'⟩
    have hset : ∀ w : Nat, cellAt (z.own.set st.who.toNat 0) w = if (w : Int) = who then 0 else cellAt z.own w := fun w => by rw [ew, cellAt_set (by omega) (by omega) (by omega)]
    refine ⟨fun w => ?_, all_snoc₂ all hok, ?_, lt, ?_, ?_, ?_, ?_, fun w y us hy hu ho' => ?_⟩
    · simp only [foldl_snoc, hz, ef, hset]
      have := ob w
      split <;> omega
    · simp only [foldl_snoc, mem, em]
    · simp only [foldl_snoc, hz, ef, List.length_set]; exact own
    · simp only [foldl_snoc, hz, ef]; exact val
    · simp only [foldl_snoc, hz, ef]; exact is
    · simp only [foldl_snoc, hz, ef]; exact cc
    · simp only [foldl_snoc, hz]
      simp only at hy
      by_cases hww : w = who
      · subst hww
        have hlt := (List.getElem?_eq_some_iff.1 hx).1
        rw [List.getElem?_set_self hlt] at hy
        cases hy
        rw [hws] at hu
        cases hu
        have he : ws[x.at_ + 1]? = some ws[x.at_ + 1] := List.getElem?_eq_getElem ho'
        have e3 : qAt p ws ⟨x.at_ + 1, [], q.s.gone⟩ = startQ (hdP p) (tlP p) ws[x.at_ + 1] q.s.gone := by
          unfold qAt
          simp only [he]
          rfl
        rw [e3, ef]
        refine ⟨?_, fun v b e he => ?_⟩
        · rw [hset, if_pos rfl]; rfl
        · rw [outP_pt (start_shape _ _ _ _).2.2] at he; cases he
      · rw [List.getElem?_set_ne (by omega)] at hy
        have := seat w y us hy hu ho'
        obtain ⟨t1, t2, t3⟩ := ptS_there (steps := (playedF p).steps) (z := z) ew hww (by omega) (by omega) (by omega)
        exact ⟨by rw [t1]; exact this.own, by rw [t2, t3]; exact this.out⟩
  | acc x ws op q hx hws ho hq hpc =>
    have hk := (hp.k ws (List.mem_of_getElem? hws) op (List.mem_of_getElem? ho)).1
    have hal := (List.getElem?_eq_some_iff.1 ho).1
    have hs0 := h.seat who x ws hx hws hal
    have hqg := qs_at hx hws hq
    obtain ⟨hsh, hW⟩ := qAt_shape p ws x hal
    have hop := qAt_op (p := p) hk ho
    rw [← hq] at hs0 hW hsh hop
    have hI := hG.inv
    have her := hI.er
    have hact := acts hL hG.view (a := asks (mP p) who q.pc) ⟨by omega, by omega⟩ (ask_ok (soundP p) hI hqg hpc)
    have hxl := (List.getElem?_eq_some_iff.1 hx).1
    obtain ⟨R, o, hr, ht⟩ := hF who _ ws (List.getElem?_set_self hxl) hws hal
    have e1q : qAt p ws { x with log := x.log ++ [(actP p who V q).2] } = tell (mP p) p.want.length q (actP p who V q).2 := by
      rw [hq]
      unfold qAt
      simp only [ho]
      rw [runQ_snoc]
    rw [e1q] at hr
    simp only at ht
    have heff : Eff V op g (nxX (spP p) V.W X g q.pc).2 q (tell (mP p) p.want.length q (actP p who V q).2) := seg_eff (by omega) hI hqg hpc hsh hop
    have hnew : ptP q.pc = none → ptP (tell (mP p) p.want.length q (actP p who V q).2).pc = none ∨ ptP (tell (mP p) p.want.length q (actP p who V q).2).pc = some (q.s.made : Int) := fun h => pt_new hsh h
    have hmade : (tell (mP p) p.want.length q (actP p who V q).2).s.made = q.s.made + 1 := made_tell hpc
    have hsh' := shape_tell (hd := hdP p) (tl := tlP p) (S := p.want.length) (r := (actP p who V q).2) hsh
    have hW' := ptW_tell (hd := hdP p) (tl := tlP p) (S := p.want.length) (r := (actP p who V q).2) hsh hW hpc
    have hstay : ∀ a, ptP q.pc = some a → ptP (tell (mP p) p.want.length q (actP p who V q).2).pc = some a ∧ outP (tell (mP p) p.want.length q (actP p who V q).2).pc = outP q.pc := fun a h => pt_tell h
    change Shape (tell (mP p) p.want.length q (actP p who V q).2) at hsh'
    change PtW (tell (mP p) p.want.length q (actP p who V q).2) at hW'
    generalize tell (mP p) p.want.length q (actP p who V q).2 = q' at *
    obtain ⟨ob, all, mem, lt, own, val, is, cc, seat⟩ := h
    have hs1 := hs0.own
    have hob := ob who
    generalize hz : s.out.foldl (ptS (playedF p).steps) (ptZ0 p.want.length) = z at *
    generalize hst : (⟨who, x.at_, op0F op, x.gone, accP p who q, (actP p who V q).2, false, out0⟩ : StepT) = st at *
    have e1 : st.done = false := by rw [← hst]
    have ew : st.who = who := by rw [← hst]
    have ea : st.at_ = x.at_ := by rw [← hst]
    have eo : st.op = op0F op := by rw [← hst]
    have ec : st.acc = accP p who q := by rw [← hst]
    have em : memS s.m st = (turnF s.m (accP p who q)).1 := by unfold memS; rw [if_neg (by simp [e1]), ec]
    have hspec : ∀ c, specS c st.op = specS c op := fun c => by rw [eo]; rfl
    have hown' : ∀ w : Nat, cellAt (ptS (playedF p).steps z st).own w = if (w : Int) = who then cellAt z.own who + 1 else cellAt z.own w := fun w => by rw [ptS_own e1, ew, cellAt_set (by omega) (by omega) (by omega)]
    have hoo : cellAt (ptS (playedF p).steps z st).own who = q'.s.made := by rw [hown', if_pos rfl, hs1, hmade]; omega
    -- what is kept, and the seat's own knowledge
    have key : (ptS (playedF p).steps z st).c = contF (nxX (spP p) V.W X g q.pc).2 ∧ PtSeat (ptS (playedF p).steps z st) who q' := by
      have quiet : (o.point ≠ q.s.made ∨ o.err ≠ 0) → contF (nxX (spP p) V.W X g q.pc).2 = contF g → (∀ v b e, outP q'.pc = some (v, b, e) → (e = 0 → v = cellAt z.val who ∧ b = isAt z.is who) ∧ (e ≠ 0 → e = 8 ∧ b = false)) → (ptS (playedF p).steps z st).c = contF (nxX (spP p) V.W X g q.pc).2 ∧ PtSeat (ptS (playedF p).steps z st) who q' := fun h1 h2 h3 => by
        have e := ptS_quiet (steps := (playedF p).steps) (z := z) e1 (by rw [ew, ea, ht, hs1]; exact h1)
        exact ⟨by rw [e, h2]; exact cc, hoo, by rw [e]; exact h3⟩
      cases hp0 : ptP q.pc with
      | some a =>
        obtain ⟨k1, k2⟩ := hstay a hp0
        have ho := (pt_run (hd := hdP p) (tl := tlP p) (S := p.want.length) R k1).1
        change ptP (runQ (mP p) p.want.length q' R).pc = _ at ho
        rw [hr] at ho
        have ho : o.point = a := Option.some.inj ho
        subst ho
        have := hW o.point hp0
        exact quiet (.inl (by omega)) (heff.quiet (.inr (by rw [hp0]; simp))) (by rw [k2]; exact hs0.out)
      | none =>
        cases hp1 : ptP q'.pc with
        | none =>
          have := pt_later R hsh' hW' hp1 hr
          exact quiet (.inl (by omega)) (heff.quiet (.inl hp1)) (by rw [outP_pt hp1]; intro v b e h; cases h)
        | some a =>
          have ha : a = (q.s.made : Int) := by
            rcases hnew hp0 with h | h
            · rw [hp1] at h; cases h
            · rw [hp1] at h; cases h; rfl
          subst ha
          obtain ⟨v, b, e, h1, h2⟩ := heff.new hp0 (by rw [hp1]; simp)
          obtain ⟨k1, k2⟩ := pt_run (hd := hdP p) (tl := tlP p) (S := p.want.length) R hp1
          change ptP (runQ (mP p) p.want.length q' R).pc = _ at k1
          change outP (runQ (mP p) p.want.length q' R).pc = _ at k2
          rw [hr] at k1 k2
          rw [h1] at k2
          have e8 : o.err = e := congrArg (·.2.2) (Option.some.inj k2)
          have e9 : o.point = q.s.made := Option.some.inj k1
          rcases h2 with ⟨h2, h3⟩ | ⟨h2, h3, h4, _⟩
          · have e := ptS_eff (steps := (playedF p).steps) (z := z) e1 (by rw [ew, ea, ht, hs1]; exact e9) (by rw [ew, ea, ht]; show o.err = 0; omega)
            rw [hspec, cc, h3] at e
            refine ⟨by rw [e], hoo, fun v' b' e' he => ?_⟩
            rw [h1] at he
            cases he
            rw [e]
            refine ⟨fun _ => ⟨?_, ?_⟩, fun hh => absurd h2 hh⟩
            · simp only [ew]; rw [cellAt_set (by omega) (by omega) (by omega), if_pos rfl]
            · simp only [ew]; rw [isAt_set (by omega) (by omega) (by omega), if_pos rfl]
          · refine quiet (.inr (by omega)) h4 (fun v' b' e' he => ?_)
            rw [h1] at he
            cases he
            exact ⟨fun hh => by omega, fun _ => ⟨h2, h3⟩⟩
    obtain ⟨hc', hseat'⟩ := key
    have hok : PtOk (layP p) p.want.length (playedF p).steps (s.out.foldl (ptS (playedF p).steps) (ptZ0 p.want.length)) (s.out.foldl memS (beginF (layP p))) st := by
      rw [hz, mem]
      refine ⟨by rw [ew]; omega, by rw [ew]; omega, own, val, is, (fun e => by rw [e1] at e; cases e), fun _ => ⟨by rw [ec]; exact hact.fault, ?_, by rw [em]; exact hcl⟩, hml, by rw [eo]; exact hk, by rw [ew]; omega, by rw [cc]; omega⟩
      rw [em, hc']
      exact hrow'
    refine ⟨fun w => ?_, all_snoc₂ all hok, ?_, hcl, ?_, ?_, ?_, ?_, fun w y us hy hu ho' => ?_⟩
    · simp only [foldl_snoc, hz, hown']
      have := ob w
      split <;> omega
    · simp only [foldl_snoc, mem, em]
    · simp only [foldl_snoc, hz, ptS_len.1]; exact own
    · simp only [foldl_snoc, hz, ptS_len.2.1]; exact val
    · simp only [foldl_snoc, hz, ptS_len.2.2]; exact is
    · simp only [foldl_snoc, hz]; exact hc'
    · simp only [foldl_snoc, hz]
      simp only at hy
      by_cases hww : w = who
      · subst hww
        rw [List.getElem?_set_self hxl] at hy
        cases hy
        rw [hws] at hu
        cases hu
        rw [e1q]
        exact hseat'
      · rw [List.getElem?_set_ne (by omega)] at hy
        obtain ⟨t1, t2, t3⟩ := ptS_there (steps := (playedF p).steps) (z := z) ew hww (by omega) (by omega) (by omega)
        have := seat w y us hy hu ho'
        exact ⟨by rw [t1]; exact this.own, by rw [t2, t3]; exact this.out⟩
theorem ptJ_all {p : PlayT} (hp : PlayG p) : ∀ i, i ≤ allF p → ∃ V F X g, G p i (stateAt p i) V F X g ∧ PtJ p i (stateAt p i) g
  | 0, _ => by
    refine ⟨_, _, _, _, G_start hp, ⟨fun w => ?_, fun i s h => by simp [stateAt, start] at h, rfl, cells_start hp.ok, by simp [stateAt, start, ptZ0], by simp [stateAt, start, ptZ0], by simp [stateAt, start, ptZ0], rfl, fun w x ws hx hw ho => ?_⟩⟩
    · show cellAt (List.replicate p.want.length 0) w ≤ _
      simp only [cellAt, List.getD_eq_getElem?_getD, List.getElem?_replicate]
      split <;> simp
    · have hx' : (List.replicate p.want.length (⟨0, [], []⟩ : SeatT))[w]? = some x := hx
      rw [List.getElem?_replicate] at hx'
      split at hx'
      · cases hx'
        have he : ws[0]? = some ws[0] := List.getElem?_eq_getElem ho
        have e3 : qAt p ws ⟨0, [], []⟩ = startQ (hdP p) (tlP p) ws[0] [] := by unfold qAt; simp only [he]; rfl
        rw [e3]
        refine ⟨?_, fun v b e he => ?_⟩
        · show cellAt (List.replicate p.want.length 0) w = 0
          simp only [cellAt, List.getD_eq_getElem?_getD, List.getElem?_replicate]
          split <;> rfl
        · rw [outP_pt (start_shape _ _ _ _).2.2] at he; cases he
      · cases hx'
  | i + 1, hi => by
    obtain ⟨V, F, X, g, hG, hJ⟩ := ptJ_all hp i (by omega)
    obtain ⟨V', F', X', g', _, hS, hG'⟩ := state_next hp (show i < allF p by omega) hG
    exact ⟨V', F', X', g', hG', pt_step hp (by omega) hG hS hG' (fun w x ws hx hw hlt => fut_is hp hi hx hw hlt) hJ⟩
theorem points_true {p : PlayT} (hp : PlayG p) : (playedF p).ends = true ∧ PtAll (layP p) p.want.length (playedF p).steps (beginF (layP p)) (playedF p).steps := by
  obtain ⟨V, F, X, g, _, hJ⟩ := ptJ_all hp (allF p) (Nat.le_refl _)
  have h := (state_end hp).1
  refine ⟨by rw [h], ?_⟩
  have := hJ.all
  rw [show (playedF p).steps = (stateAt p (allF p)).out by rw [h]] at this ⊢
  exact this
end Go.Proofs.Ytgoijmomglomlaa
