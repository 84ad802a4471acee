/- Points of operations: what a whole play tells of them. -/
import Derived.Test.YtpecgpmdchejdaaM14
namespace Go.Proofs.Ytpecgpmdchejdaa
open Go
set_option maxRecDepth 100000

/-- A play's state, step by step. -/
def stateAt (p : PlayT) : Nat → PSt
  | 0 => start p
  | i + 1 => match stepP (layP p) p.want (whoF p i) (stateAt p i) with
    | .ok s => s
    | .error s => s
theorem state_G {p : PlayT} (hp : PlayG p) : ∀ i, i ≤ allF p → ∃ V F T, G p i (stateAt p i) V F T
  | 0, _ => ⟨_, _, _, G_start hp.ok⟩
  | i + 1, hi => by
    have hall : allF p ≤ 3200 := by have := hp.ok.w3; have := hp.ok.t; unfold allF; omega
    obtain ⟨V, F, T, hG⟩ := state_G hp i (by omega)
    obtain ⟨s', V', F', T', h1, h2, h3⟩ := hG.step hp (by omega) (whoF_lt hp.ok (show i < allF p by omega))
    refine ⟨V', F', T', ?_⟩
    have : stateAt p (i + 1) = s' := by rw [stateAt, h1]
    rw [this]; exact h3
theorem state_next {p : PlayT} (hp : PlayG p) {i : Nat} (hi : i < allF p) {V : Vw} {F T : List Int} (hG : G p i (stateAt p i) V F T) : ∃ V' F' T', stepP (layP p) p.want (whoF p i) (stateAt p i) = .ok (stateAt p (i + 1)) ∧ StepR p (whoF p i) (stateAt p i) V F T (stateAt p (i + 1)) V' F' T' ∧ G p (i + 1) (stateAt p (i + 1)) V' F' T' := by
  have hall : allF p ≤ 3200 := by have := hp.ok.w3; have := hp.ok.t; unfold allF; omega
  obtain ⟨s', V', F', T', h1, h2, h3⟩ := hG.step hp (by omega) (whoF_lt hp.ok hi)
  have : stateAt p (i + 1) = s' := by rw [stateAt, h1]
  rw [this]
  exact ⟨V', F', T', h1, h2, h3⟩
theorem state_play {p : PlayT} (hp : PlayG p) : ∀ (k i : Nat), i + k ≤ allF p → playL (layP p) p k i (stateAt p i) = .ok (stateAt p (i + k))
  | 0, i, _ => rfl
  | k + 1, i, hk => by
    obtain ⟨V, F, T, hG⟩ := state_G hp i (by omega)
    obtain ⟨_, _, _, h1, _, _⟩ := state_next hp (show i < allF p by omega) hG
    have hw := whoF_lt hp.ok (show i < allF p by omega)
    rw [playL, if_neg (by omega), h1]
    simp only
    rw [state_play hp k (i + 1) (by omega), show i + 1 + k = i + (k + 1) by omega]
/-- A play's end: its steps, and all are over. -/
theorem state_end {p : PlayT} (hp : PlayG p) : playedF p = ⟨(stateAt p (allF p)).out, (stateAt p (allF p)).m, (stateAt p (allF p)).seats.map (·.gone), true⟩ ∧ ∀ (w : Nat) (x : SeatT) (ws : List OpT), (stateAt p (allF p)).seats[w]? = some x → p.want[w]? = some ws → ws.length ≤ x.at_ := by
  obtain ⟨s, V, F, T, h1, _, _, h4⟩ := played_end hp (fun _ _ _ _ _ => True) (fun _ _ _ _ _ _ _ _ _ _ _ _ _ _ => trivial) trivial
  have h2 := state_play hp (allF p) 0 (by omega)
  rw [Nat.zero_add] at h2
  rw [show stateAt p 0 = start p from rfl, h1] at h2
  cases h2
  exact ⟨playedF_end h1 h4, h4⟩
/-- What is told of an operation: its point and its code. -/
def tellF (steps : List StepT) (w a : Int) : Int × Int := match steps.find? (fun s => decide (s.who = w) && decide (s.at_ = a) && s.done) with
  | some s => (s.out.point, s.out.err)
  | none => (-1, 0)
theorem tellF_skip {s : StepT} {l : List StepT} {w a : Int} (h : ¬ (s.who = w ∧ s.at_ = a ∧ s.done = true)) : tellF (s :: l) w a = tellF l w a := by
  unfold tellF
  rw [List.find?_cons_of_neg]
  simp only [Bool.and_eq_true, decide_eq_true_eq]
  intro hh
  exact h ⟨hh.1.1, hh.1.2, hh.2⟩
theorem tellF_here {s : StepT} {l : List StepT} {w a : Int} (h1 : s.who = w) (h2 : s.at_ = a) (h3 : s.done = true) : tellF (s :: l) w a = (s.out.point, s.out.err) := by
  unfold tellF
  rw [List.find?_cons_of_pos]
  simp [h1, h2, h3]
theorem tellF_app {w a : Int} : ∀ {l m : List StepT}, (∀ s ∈ l, ¬ (s.who = w ∧ s.at_ = a ∧ s.done = true)) → tellF (l ++ m) w a = tellF m w a
  | [], m, _ => rfl
  | s :: l, m, h => by
    rw [List.cons_append, tellF_skip (h s (by simp)), tellF_app (fun t ht => h t (by simp [ht]))]
/-- What will be told of the operations that are under way. -/
def FutX (p : PlayT) (i : Nat) : Prop := ∃ suf, (stateAt p (allF p)).out = (stateAt p i).out ++ suf ∧ ∀ (w : Nat) (x : SeatT) (ws : List OpT), (stateAt p i).seats[w]? = some x → p.want[w]? = some ws → x.at_ < ws.length → ∃ R o, (runQ (layP p) (qAt (layP p) ws x) R).pc = .fin o ∧ tellF suf w x.at_ = (o.point, o.err)
theorem fut_all {p : PlayT} (hp : PlayG p) : ∀ (k i : Nat), i + k = allF p → FutX p i
  | 0, i, hi => by
    rw [Nat.add_zero] at hi
    subst hi
    refine ⟨[], by simp, fun w x ws hx hw hlt => ?_⟩
    have := (state_end hp).2 w x ws hx hw
    omega
  | k + 1, i, hi => by
    obtain ⟨suf, h1, h2⟩ := fut_all hp k (i + 1) (by omega)
    obtain ⟨V, F, T, hG⟩ := state_G hp i (by omega)
    obtain ⟨V', F', T', _, hS, _⟩ := state_next hp (show i < allF p by omega) hG
    generalize stateAt p (i + 1) = s' at *
    unfold FutX
    generalize stateAt p i = s at *
    cases hS with
    | idle x ws hx hw ha => exact ⟨suf, h1, h2⟩
    | done x ws op q o hx hw ho hq hpc =>
      refine ⟨_ :: suf, by rw [h1]; simp only [List.append_assoc, List.singleton_append]; rfl, fun w y us hy hu hlt => ?_⟩
      by_cases hww : w = whoF p i
      · subst hww
        rw [hx] at hy
        cases hy
        rw [hw] at hu
        cases hu
        refine ⟨[], o, ?_, tellF_here rfl rfl rfl⟩
        show (qAt (layP p) ws x).pc = _
        unfold qAt
        rw [ho]
        simp only
        rw [← hq, hpc]
      · obtain ⟨R, o', h3, h4⟩ := h2 w y us (by simp only; rw [List.getElem?_set_ne (by omega)]; exact hy) hu hlt
        refine ⟨R, o', h3, ?_⟩
        rw [tellF_skip (fun hh => hww (by have h9 : ((whoF p i : Nat) : Int) = w := hh.1; omega)), h4]
    | acc x ws op q hx hw ho hq hpc =>
      refine ⟨_ :: suf, by rw [h1]; simp only [List.append_assoc, List.singleton_append]; rfl, fun w y us hy hu hlt => ?_⟩
      by_cases hww : w = whoF p i
      · subst hww
        rw [hx] at hy
        cases hy
        rw [hw] at hu
        cases hu
        have hl := (List.getElem?_eq_some_iff.1 hx).1
        obtain ⟨R, o', h3, h4⟩ := h2 (whoF p i) { x with log := x.log ++ [(actV p.want.length (whoF p i) op.a V q.pc).2] } ws (List.getElem?_set_self hl) hw hlt
        have e0 : qAt (layP p) ws x = q := by unfold qAt; rw [ho, hq]
        have e1 : qAt (layP p) ws { x with log := x.log ++ [(actV p.want.length (whoF p i) op.a V q.pc).2] } = tell (layP p) q (actV p.want.length (whoF p i) op.a V q.pc).2 := by
          unfold qAt
          simp only [ho]
          rw [runQ_snoc, hq]
        rw [e1] at h3
        refine ⟨(actV p.want.length (whoF p i) op.a V q.pc).2 :: R, o', by rw [e0]; exact h3, ?_⟩
        rw [tellF_skip (by simp), h4]
      · obtain ⟨R, o', h3, h4⟩ := h2 w y us (by simp only; rw [List.getElem?_set_ne (by omega)]; exact hy) hu hlt
        refine ⟨R, o', h3, ?_⟩
        rw [tellF_skip (by simp), h4]
/-- Operations that are over lie behind. -/
def DoneLt (s : PSt) : Prop := ∀ st ∈ s.out, st.done = true → ∀ (w : Nat) (x : SeatT), s.seats[w]? = some x → st.who = w → st.at_ < x.at_
theorem done_lt {p : PlayT} (hp : PlayG p) : ∀ i, i ≤ allF p → DoneLt (stateAt p i)
  | 0, _ => fun st hst => by simp [stateAt, start] at hst
  | i + 1, hi => by
    have ih := done_lt hp i (by omega)
    obtain ⟨V, F, T, hG⟩ := state_G hp i (by omega)
    obtain ⟨V', F', T', _, hS, _⟩ := state_next hp (show i < allF p by omega) hG
    generalize stateAt p (i + 1) = s' at *
    generalize stateAt p i = s at *
    cases hS with
    | idle => exact ih
    | done x ws op q o hx hw ho hq hpc =>
      intro st hst hd w y hy hww
      simp only at hst hy
      have hl := (List.getElem?_eq_some_iff.1 hx).1
      rw [List.mem_append, List.mem_singleton] at hst
      by_cases hw' : w = whoF p i
      · subst hw'
        rw [List.getElem?_set_self hl] at hy
        cases hy
        rcases hst with hst | rfl
        · have := ih st hst hd (whoF p i) x hx hww
          simp only; omega
        · simp only; omega
      · rw [List.getElem?_set_ne (by omega)] at hy
        rcases hst with hst | rfl
        · exact ih st hst hd w y hy hww
        · simp only at hww; omega
    | acc x ws op q hx hw ho hq hpc =>
      intro st hst hd w y hy hww
      simp only at hst hy
      have hl := (List.getElem?_eq_some_iff.1 hx).1
      rw [List.mem_append, List.mem_singleton] at hst
      rcases hst with hst | rfl
      · by_cases hw' : w = whoF p i
        · subst hw'
          rw [List.getElem?_set_self hl] at hy
          cases hy
          exact ih st hst hd (whoF p i) x hx hww
        · rw [List.getElem?_set_ne (by omega)] at hy
          exact ih st hst hd w y hy hww
      · cases hd
/-- What the whole play tells of the operations that are under way. -/
theorem fut_is {p : PlayT} (hp : PlayG p) {i : Nat} (hi : i ≤ allF p) {w : Nat} {x : SeatT} {ws : List OpT} (hx : (stateAt p i).seats[w]? = some x) (hw : p.want[w]? = some ws) (hlt : x.at_ < ws.length) : ∃ R o, (runQ (layP p) (qAt (layP p) ws x) R).pc = .fin o ∧ tellF (playedF p).steps w x.at_ = (o.point, o.err) := by
  obtain ⟨suf, h1, h2⟩ := fut_all hp (allF p - i) i (by omega)
  obtain ⟨R, o, h3, h4⟩ := h2 w x ws hx hw hlt
  refine ⟨R, o, h3, ?_⟩
  rw [(state_end hp).1]
  simp only
  rw [h1, tellF_app (fun st hst hh => ?_), h4]
  have := done_lt hp i hi st hst hh.2.2 w x hx hh.1
  omega
end Go.Proofs.Ytpecgpmdchejdaa
