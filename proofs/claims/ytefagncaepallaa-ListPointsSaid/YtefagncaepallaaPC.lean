/- Plays of channels, as states; what will be told of operations. -/
import Derived.Test.YtefagncaepallaaPB
namespace Go.Proofs.Ytefagncaepallaa
set_option maxRecDepth 100000

/-- A play's state, step by step. -/
def stateAt (p : PlayT) : Nat → PSt
  | 0 => start p
  | i + 1 => match stepP (layP p) p.want (whoF p i) (stateAt p i) with
    | .ok s => s
    | .error s => s
theorem state_G {p : PlayT} (hp : PlayG p) : ∀ i, i ≤ allF p → ∃ V F X g, G p i (stateAt p i) V F X g
  | 0, _ => ⟨_, _, _, _, G_start hp⟩
  | i + 1, hi => by
    have hall : allF p ≤ 4700 := by have := hp.ok.w3; have := hp.ok.t; unfold allF; omega
    obtain ⟨V, F, X, g, hG⟩ := state_G hp i (by omega)
    obtain ⟨s', V', F', X', g', h1, h2, h3⟩ := hG.step hp (by omega) (whoF_lt hp.ok (show i < allF p by omega))
    refine ⟨V', F', X', g', ?_⟩
    have : stateAt p (i + 1) = s' := by rw [stateAt, h1]
    rw [this]; exact h3
theorem state_next {p : PlayT} (hp : PlayG p) {i : Nat} (hi : i < allF p) {V : Vw} {F X : List Int} {g : LstG} (hG : G p i (stateAt p i) V F X g) : ∃ V' F' X' g', stepP (layP p) p.want (whoF p i) (stateAt p i) = .ok (stateAt p (i + 1)) ∧ StepR p (whoF p i) (stateAt p i) V F X g (stateAt p (i + 1)) V' F' X' g' ∧ G p (i + 1) (stateAt p (i + 1)) V' F' X' g' := by
  have hall : allF p ≤ 4700 := by have := hp.ok.w3; have := hp.ok.t; unfold allF; omega
  obtain ⟨s', V', F', X', g', h1, h2, h3⟩ := hG.step hp (by omega) (whoF_lt hp.ok hi)
  have : stateAt p (i + 1) = s' := by rw [stateAt, h1]
  rw [this]
  exact ⟨V', F', X', g', h1, h2, h3⟩
theorem state_play {p : PlayT} (hp : PlayG p) : ∀ (k i : Nat), i + k ≤ allF p → playL (layP p) p k i (stateAt p i) = .ok (stateAt p (i + k))
  | 0, i, _ => rfl
  | k + 1, i, hk => by
    obtain ⟨V, F, X, g, hG⟩ := state_G hp i (by omega)
    obtain ⟨_, _, _, _, h1, _, _⟩ := state_next hp (show i < allF p by omega) hG
    have hw := whoF_lt hp.ok (show i < allF p by omega)
    rw [playL, if_neg (by omega), h1]
    simp only
    rw [state_play hp k (i + 1) (by omega), show i + 1 + k = i + (k + 1) by omega]
/-- A play's end: its steps, and all are over. -/
theorem state_end {p : PlayT} (hp : PlayG p) : playedF p = ⟨(stateAt p (allF p)).out, (stateAt p (allF p)).m, (stateAt p (allF p)).seats.map (·.gone), true⟩ ∧ ∀ (w : Nat) (x : SeatT) (ws : List OpT), (stateAt p (allF p)).seats[w]? = some x → p.want[w]? = some ws → ws.length ≤ x.at_ := by
  obtain ⟨s, V, F, X, g, h1, _, _, h4⟩ := played_end hp (fun _ _ _ _ _ _ => True) (fun _ _ _ _ _ _ _ _ _ _ _ _ _ _ _ _ => trivial) trivial
  have h2 := state_play hp (allF p) 0 (by omega)
  rw [Nat.zero_add] at h2
  rw [show stateAt p 0 = start p from rfl, h1] at h2
  cases h2
  exact ⟨playedF_end h1 h4, h4⟩
/-- What is told of an operation: its point and its code. -/
def tellF (steps : List StepT) (w a : Int) : Int × Int := match steps.find? (fun s => decide (s.who = w) && decide (s.at_ = a) && s.done) with
  | some s => (s.out.point, s.out.err)
  | none => (-1, 0)
theorem tellF_skip {s : StepT} {l : List StepT} {w a : Int} (h : ¬ (s.who = w ∧ s.at_ = a ∧ s.done = true)) : tellF (s :: l) w a = tellF l w a := by
  unfold tellF
  rw [List.find?_cons_of_neg]
  simp only [Bool.and_eq_true, decide_eq_true_eq]
  intro hh
  exact h ⟨hh.1.1, hh.1.2, hh.2⟩
theorem tellF_here {s : StepT} {l : List StepT} {w a : Int} (h1 : s.who = w) (h2 : s.at_ = a) (h3 : s.done = true) : tellF (s :: l) w a = (s.out.point, s.out.err) := by
  unfold tellF
  rw [List.find?_cons_of_pos]
  simp [h1, h2, h3]
theorem tellF_app {w a : Int} : ∀ {l m : List StepT}, (∀ s ∈ l, ¬ (s.who = w ∧ s.at_ = a ∧ s.done = true)) → tellF (l ++ m) w a = tellF m w a
  | [], m, _ => rfl
  | s :: l, m, h => by
    rw [List.cons_append, tellF_skip (h s (by simp)), tellF_app (fun t ht => h t (by simp [ht]))]
/-- What will be told of the operations that are under way. -/
def FutX (p : PlayT) (i : Nat) : Prop := ∃ suf, (stateAt p (allF p)).out = (stateAt p i).out ++ suf ∧ ∀ (w : Nat) (x : SeatT) (ws : List OpT), (stateAt p i).seats[w]? = some x → p.want[w]? = some ws → x.at_ < ws.length → ∃ R o, (runQ (mP p) p.want.length (qAt p ws x) R).pc = .fin o ∧ tellF suf w x.at_ = (o.point, o.err)
theorem fut_all {p : PlayT} (hp : PlayG p) : ∀ (k i : Nat), i + k = allF p → FutX p i
  | 0, i, hi => by
    rw [Nat.add_zero] at hi
    subst hi
    refine ⟨[], by simp, fun w x ws hx hw hlt => ?_⟩
    have := (state_end hp).2 w x ws hx hw
    omega
  | k + 1, i, hi => by
    obtain ⟨suf, h1, h2⟩ := fut_all hp k (i + 1) (by omega)
    obtain ⟨V, F, X, g, hG⟩ := state_G hp i (by omega)
    obtain ⟨V', F', X', g', _, hS, _⟩ := state_next hp (show i < allF p by omega) hG
    generalize stateAt p (i + 1) = s' at *
    unfold FutX
    generalize stateAt p i = s at *
    cases hS with
    | idle x ws hx hw ha => exact ⟨suf, h1, h2⟩
    | done x ws op q o hx hw ho hq hpc =>
      refine ⟨_ :: suf, by rw [h1]; simp only [List.append_assoc, List.singleton_append]; rfl, fun w y us hy hu hlt => ?_⟩
      by_cases hww : w = whoF p i
      · subst hww
        rw [hx] at hy
        cases hy
        rw [hw] at hu
        cases hu
        refine ⟨[], o, ?_, tellF_here rfl rfl rfl⟩
        show (qAt p ws x).pc = _
        rw [← hq, hpc]
      · obtain ⟨R, o', h3, h4⟩ := h2 w y us (by simp only; rw [List.getElem?_set_ne (by omega)]; exact hy) hu hlt
        refine ⟨R, o', h3, ?_⟩
        rw [tellF_skip (fun hh => hww (by have h9 : ((whoF p i : Nat) : Int) = w := hh.1; omega)), h4]
    | acc x ws op q hx hw ho hq hpc =>
      refine ⟨_ :: suf, by rw [h1]; simp only [List.append_assoc, List.singleton_append]; rfl, fun w y us hy hu hlt => ?_⟩
      by_cases hww : w = whoF p i
      · subst hww
        rw [hx] at hy
        cases hy
        rw [hw] at hu
        cases hu
        have hl := (List.getElem?_eq_some_iff.1 hx).1
        obtain ⟨R, o', h3, h4⟩ := h2 (whoF p i) { x with log := x.log ++ [(actP p (whoF p i) V q).2] } ws (List.getElem?_set_self hl) hw hlt
        have e1 : qAt p ws { x with log := x.log ++ [(actP p (whoF p i) V q).2] } = tell (mP p) p.want.length q (actP p (whoF p i) V q).2 := by
          rw [hq]
          unfold qAt
          simp only [ho]
          rw [runQ_snoc]
        rw [e1] at h3
        refine ⟨(actP p (whoF p i) V q).2 :: R, o', by rw [← hq]; exact h3, ?_⟩
        rw [tellF_skip (by simp), h4]
      · obtain ⟨R, o', h3, h4⟩ := h2 w y us (by simp only; rw [List.getElem?_set_ne (by omega)]; exact hy) hu hlt
        refine ⟨R, o', h3, ?_⟩
        rw [tellF_skip (by simp), h4]
/-- Operations that are over lie behind. -/
def DoneLt (s : PSt) : Prop := ∀ st ∈ s.out, st.done = true → ∀ (w : Nat) (x : SeatT), s.seats[w]? = some x → st.who = w → st.at_ < x.at_
theorem done_lt {p : PlayT} (hp : PlayG p) : ∀ i, i ≤ allF p → DoneLt (stateAt p i)
  | 0, _ => fun st hst => by simp [stateAt, start] at hst
  | i + 1, hi => by
    have ih := done_lt hp i (by omega)
    obtain ⟨V, F, X, g, hG⟩ := state_G hp i (by omega)
    obtain ⟨V', F', X', g', _, hS, _⟩ := state_next hp (show i < allF p by omega) hG
    generalize stateAt p (i + 1) = s' at *
    generalize stateAt p i = s at *
    cases hS with
    | idle => exact ih
    | done x ws op q o hx hw ho hq hpc =>
      intro st hst hd w y hy hww
      simp only at hst hy
      have hl := (List.getElem?_eq_some_iff.1 hx).1
      rw [List.mem_append, List.mem_singleton] at hst
      by_cases hw' : w = whoF p i
      · subst hw'
        rw [List.getElem?_set_self hl] at hy
        cases hy
        rcases hst with hst | rfl
        · have := ih st hst hd (whoF p i) x hx hww
          simp only; omega
        · simp only; omega
      · rw [List.getElem?_set_ne (by omega)] at hy
        rcases hst with hst | rfl
        · exact ih st hst hd w y hy hww
        · simp only at hww; omega
    | acc x ws op q hx hw ho hq hpc =>
      intro st hst hd w y hy hww
      simp only at hst hy
      have hl := (List.getElem?_eq_some_iff.1 hx).1
      rw [List.mem_append, List.mem_singleton] at hst
      rcases hst with hst | rfl
      · by_cases hw' : w = whoF p i
        · subst hw'
          rw [List.getElem?_set_self hl] at hy
          cases hy
          exact ih st hst hd (whoF p i) x hx hww
        · rw [List.getElem?_set_ne (by omega)] at hy
          exact ih st hst hd w y hy hww
      · cases hd
/-- What the whole play tells of the operations that are under way. -/
theorem fut_is {p : PlayT} (hp : PlayG p) {i : Nat} (hi : i ≤ allF p) {w : Nat} {x : SeatT} {ws : List OpT} (hx : (stateAt p i).seats[w]? = some x) (hw : p.want[w]? = some ws) (hlt : x.at_ < ws.length) : ∃ R o, (runQ (mP p) p.want.length (qAt p ws x) R).pc = .fin o ∧ tellF (playedF p).steps w x.at_ = (o.point, o.err) := by
  obtain ⟨suf, h1, h2⟩ := fut_all hp (allF p - i) i (by omega)
  obtain ⟨R, o, h3, h4⟩ := h2 w x ws hx hw hlt
  refine ⟨R, o, h3, ?_⟩
  rw [(state_end hp).1]
  simp only
  rw [h1, tellF_app (fun st hst hh => ?_), h4]
  have := done_lt hp i hi st hst hh.2.2 w x hx hh.1
  omega
end Go.Proofs.Ytefagncaepallaa
/- Contents of maps, and what a list has. -/
namespace Go.Proofs.Ytefagncaepallaa
set_option maxRecDepth 100000

structure Cont where
  kind : Int
  keys : List Int
  vals : List Int
deriving DecidableEq
def RisesL (l : List Int) : Prop := l.Pairwise (· < ·)
instance (l : List Int) : Decidable (RisesL l) := inferInstanceAs (Decidable (l.Pairwise (· < ·)))
/-- How many stand ahead of x. -/
def pos (l : List Int) (x : Int) : Nat := (l.takeWhile fun y => decide (y < x)).length
def insAt (l : List Int) (p : Nat) (x : Int) : List Int := l.take p ++ x :: l.drop p
def delAt (l : List Int) (p : Nat) : List Int := l.take p ++ l.drop (p + 1)
def rightB (c : Cont) : Bool := if c.kind = 1 then decide (c.keys.length = c.vals.length) && decide (RisesL c.keys) else if c.kind = 2 ∨ c.kind = 3 then decide (c.keys.length = 0) else false
def hasB (c : Cont) (x : Int) : Bool := decide (c.keys[pos c.keys x]? = some x)
def specS (c : Cont) (o : OpT) : Cont × Int × Bool :=
  if o.kind = 1 then (if hasB c o.a then (c, c.vals.getD (pos c.keys o.a) 0, true) else (c, 0, false))
  else if o.kind = 2 then (if hasB c o.a then (c, 0, false) else (⟨c.kind, insAt c.keys (pos c.keys o.a) o.a, insAt c.vals (pos c.keys o.a) o.b⟩, 0, true))
  else (if hasB c o.a then (⟨c.kind, delAt c.keys (pos c.keys o.a), delAt c.vals (pos c.keys o.a)⟩, 0, true) else (c, 0, false))
theorem pos_is {A B : List Int} {x : Int} (hA : ∀ y ∈ A, y < x) (hB : ∀ y, B.head? = some y → x ≤ y) : pos (A ++ B) x = A.length := by
  unfold pos
  rw [List.takeWhile_append_of_pos (fun y hy => by simpa using hA y hy)]
  cases B with
  | nil => simp
  | cons b B =>
    have := hB b rfl
    rw [List.takeWhile_cons_of_neg (by simpa using this)]
    simp
section
variable {A B VA VB : List Int} {x v k : Int}
theorem has_in (hA : ∀ y ∈ A, y < x) : hasB ⟨k, A ++ x :: B, VA ++ v :: VB⟩ x = true ∧ pos (A ++ x :: B) x = A.length := by
  have h := pos_is (B := x :: B) hA (fun y hy => by simp at hy; omega)
  refine ⟨?_, h⟩
  unfold hasB
  simp only [h]
  simp
theorem has_out (hA : ∀ y ∈ A, y < x) (hB : ∀ y ∈ B, x < y) {vs : List Int} : hasB ⟨k, A ++ B, vs⟩ x = false ∧ pos (A ++ B) x = A.length := by
  have h := pos_is (B := B) hA (fun y hy => by
    cases B with
    | nil => cases hy
    | cons b B => simp at hy; have := hB b (by simp); omega)
  refine ⟨?_, h⟩
  unfold hasB
  simp only [h]
  rw [List.getElem?_append_right (Nat.le_refl _), Nat.sub_self, decide_eq_false_iff_not]
  intro e
  cases B with
  | nil => cases e
  | cons b B => simp at e; have := hB b (by simp); omega
theorem ins_is {n : Nat} (h : A.length = n) : insAt (A ++ B) n x = A ++ x :: B := by
  subst h
  unfold insAt
  simp
theorem del_is {n : Nat} (h : A.length = n) : delAt (A ++ x :: B) n = A ++ B := by
  subst h
  unfold delAt
  simp
theorem get_is {n : Nat} (h : A.length = n) : (A ++ x :: B).getD n 0 = x := by
  subst h
  simp
end

/-! ### What a list has -/
def conW (W : Ws) (X : List Int) : Cont := ⟨1, (inR W X).map fun n => W.nd n 1, (inR W X).map fun n => W.nd n 2⟩
theorem inR_app (W : Ws) (A B : List Int) : inR W (A ++ B) = inR W A ++ inR W B := List.filter_append A B
theorem inR_cons (W : Ws) (n : Int) (B : List Int) : inR W (n :: B) = if (ofW (W.nd n 0)).mark = true then inR W B else n :: inR W B := by
  unfold inR
  by_cases h : (ofW (W.nd n 0)).mark = true
  · rw [if_pos h, List.filter_cons_of_neg (by simp [h])]
  · rw [if_neg h, List.filter_cons_of_pos (by simp [h])]
theorem inR_mem {W : Ws} {X : List Int} {n : Int} (h : n ∈ inR W X) : n ∈ X := (List.mem_filter.1 h).1
theorem inR_same {W W' : Ws} {X : List Int} (h : ∀ n ∈ X, (ofW (W'.nd n 0)).mark = (ofW (W.nd n 0)).mark) : inR W' X = inR W X := List.filter_congr fun x hx => by rw [h x hx]
/-- Keys, values and marks are what they were. -/
structure Alike (W W' : Ws) (X : List Int) : Prop where
  key : ∀ n ∈ X, W'.nd n 1 = W.nd n 1 ∧ W'.nd n 2 = W.nd n 2
  mark : ∀ n ∈ X, (ofW (W'.nd n 0)).mark = (ofW (W.nd n 0)).mark
theorem Alike.inR {W W' : Ws} {X : List Int} (h : Alike W W' X) : inR W' X = inR W X := inR_same h.mark
theorem Alike.keys {W W' : Ws} {X : List Int} (h : Alike W W' X) : (Go.Proofs.Ytefagncaepallaa.inR W' X).map (fun n => W'.nd n 1) = (Go.Proofs.Ytefagncaepallaa.inR W X).map fun n => W.nd n 1 := by
  rw [h.inR]
  exact List.map_congr_left fun n hn => (h.key n (inR_mem hn)).1
theorem Alike.vals {W W' : Ws} {X : List Int} (h : Alike W W' X) : (Go.Proofs.Ytefagncaepallaa.inR W' X).map (fun n => W'.nd n 2) = (Go.Proofs.Ytefagncaepallaa.inR W X).map fun n => W.nd n 2 := by
  rw [h.inR]
  exact List.map_congr_left fun n hn => (h.key n (inR_mem hn)).2
theorem Alike.con {W W' : Ws} {X : List Int} (h : Alike W W' X) : conW W' X = conW W X := by
  unfold conW
  rw [h.keys, h.vals]
theorem Alike.sub {W W' : Ws} {X Y : List Int} (h : Alike W W' X) (hs : ∀ n ∈ Y, n ∈ X) : Alike W W' Y := ⟨fun n hn => h.key n (hs n hn), fun n hn => h.mark n (hs n hn)⟩
section
variable {hd : Int} {N K : Nat} {W W' : Ws} {X A B : List Int} {D : Int → Prop} {g : LstG} {n o : Int}
theorem con_right (h : LstSI hd N K W X D g) : rightB (conW W X) = true := by
  unfold rightB conW
  simp only [if_true, List.length_map, decide_true, Bool.true_and, decide_eq_true_eq]
  unfold RisesL
  rw [List.pairwise_map]
  exact h.rise.sublist List.filter_sublist
/-- Behind a node below the order number, ahead of one above it: it isn't there. -/
theorem con_out (hA : ∀ m ∈ A, W.nd m 1 < o) (hB : ∀ m ∈ B, o < W.nd m 1) : hasB (conW W (A ++ B)) o = false ∧ pos (conW W (A ++ B)).keys o = (inR W A).length := by
  unfold conW
  simp only [inR_app, List.map_append]
  have := has_out (k := 1) (x := o) (A := (inR W A).map fun n => W.nd n 1) (B := (inR W B).map fun n => W.nd n 1) (vs := (inR W A).map (fun n => W.nd n 2) ++ (inR W B).map fun n => W.nd n 2) (fun y hy => by
    obtain ⟨m, hm, rfl⟩ := List.mem_map.1 hy
    exact hA m (inR_mem hm)) (fun y hy => by
    obtain ⟨m, hm, rfl⟩ := List.mem_map.1 hy
    exact hB m (inR_mem hm))
  rw [List.length_map] at this
  exact this
theorem spec_out {op : OpT} (ho : op.a = o) (hk : op.kind = 1 ∨ op.kind = 3) (hA : ∀ m ∈ A, W.nd m 1 < o) (hB : ∀ m ∈ B, o < W.nd m 1) : specS (conW W (A ++ B)) op = (conW W (A ++ B), 0, false) := by
  have h := (con_out hA hB).1
  rw [← ho] at h
  unfold specS
  rcases hk with hk | hk
  · rw [if_pos hk, h]; rfl
  · rw [if_neg (by omega), if_neg (by omega), h]; rfl
theorem spec_in {op : OpT} (ho : op.a = o) (hk : op.kind = 1 ∨ op.kind = 2) (hA : ∀ m ∈ A, W.nd m 1 < o) (hn : W.nd n 1 = o) (hm : ¬ (ofW (W.nd n 0)).mark = true) : specS (conW W (A ++ n :: B)) op = (conW W (A ++ n :: B), if op.kind = 1 then W.nd n 2 else 0, decide (op.kind = 1)) := by
  have e : conW W (A ++ n :: B) = ⟨1, (inR W A).map (fun n => W.nd n 1) ++ o :: (inR W B).map (fun n => W.nd n 1), (inR W A).map (fun n => W.nd n 2) ++ W.nd n 2 :: (inR W B).map fun n => W.nd n 2⟩ := by
    unfold conW
    simp only [inR_app, inR_cons, if_neg hm, List.map_append, List.map_cons, hn]
  have h := has_in (k := 1) (x := o) (v := W.nd n 2) (A := (inR W A).map fun n => W.nd n 1) (B := (inR W B).map fun n => W.nd n 1) (VA := (inR W A).map fun n => W.nd n 2) (VB := (inR W B).map fun n => W.nd n 2) (fun y hy => by
    obtain ⟨m, hm, rfl⟩ := List.mem_map.1 hy
    exact hA m (inR_mem hm))
  rw [e]
  unfold specS
  rcases hk with hk | hk
  · rw [if_pos hk, ho, h.1, if_pos rfl, if_pos hk]
    simp only [h.2]
    rw [get_is (by simp)]
    simp [hk]
  · rw [if_neg (by omega), if_pos hk, ho, h.1, if_pos rfl, if_neg (by omega)]
    simp [hk]
/-- A put puts it in where it goes. -/
theorem spec_put {op : OpT} (ho : op.a = o) (hk : op.kind = 2) (hA : ∀ m ∈ A, W.nd m 1 < o) (hB : ∀ m ∈ B, o < W.nd m 1) (hal : Alike W W' (A ++ B)) (hn1 : W'.nd n 1 = o) (hn2 : W'.nd n 2 = op.b) (hm : ¬ (ofW (W'.nd n 0)).mark = true) : specS (conW W (A ++ B)) op = (conW W' (A ++ n :: B), 0, true) := by
  obtain ⟨h1, h2⟩ := con_out hA hB
  have hAa := hal.sub (Y := A) (by simp +contextual)
  have hBa := hal.sub (Y := B) (by simp +contextual)
  unfold specS
  rw [if_neg (by omega), if_pos hk, ho, h1, h2]
  simp only [Bool.false_eq_true, if_false]
  unfold conW
  simp only [inR_app, inR_cons, if_neg hm, List.map_append, List.map_cons, hn1, hn2]
  rw [hAa.keys, hAa.vals, hBa.keys, hBa.vals, ins_is (by simp), ins_is (by simp)]
/-- A del takes it out. -/
theorem spec_del {op : OpT} (ho : op.a = o) (hk : op.kind = 3) (hA : ∀ m ∈ A, W.nd m 1 < o) (hal : Alike W W' (A ++ B)) (hn : W.nd n 1 = o) (hm : ¬ (ofW (W.nd n 0)).mark = true) (hm' : (ofW (W'.nd n 0)).mark = true) : specS (conW W (A ++ n :: B)) op = (conW W' (A ++ n :: B), 0, true) := by
  have e : conW W (A ++ n :: B) = ⟨1, (inR W A).map (fun n => W.nd n 1) ++ o :: (inR W B).map (fun n => W.nd n 1), (inR W A).map (fun n => W.nd n 2) ++ W.nd n 2 :: (inR W B).map fun n => W.nd n 2⟩ := by
    unfold conW
    simp only [inR_app, inR_cons, if_neg hm, List.map_append, List.map_cons, hn]
  have h := has_in (k := 1) (x := o) (v := W.nd n 2) (A := (inR W A).map fun n => W.nd n 1) (B := (inR W B).map fun n => W.nd n 1) (VA := (inR W A).map fun n => W.nd n 2) (VB := (inR W B).map fun n => W.nd n 2) (fun y hy => by
    obtain ⟨m, hm, rfl⟩ := List.mem_map.1 hy
    exact hA m (inR_mem hm))
  have hAa := hal.sub (Y := A) (by simp +contextual)
  have hBa := hal.sub (Y := B) (by simp +contextual)
  rw [e]
  unfold specS
  rw [if_neg (by omega), if_neg (by omega), ho, h.1, if_pos rfl]
  simp only [h.2]
  rw [del_is (by simp), del_is (by simp)]
  unfold conW
  simp only [inR_app, inR_cons, if_pos hm', List.map_append]
  rw [hAa.keys, hAa.vals, hBa.keys, hBa.vals]
/-- What is out is no part of it. -/
theorem con_cut (hal : Alike W W' (A ++ B)) (hm : (ofW (W.nd n 0)).mark = true) : conW W' (A ++ B) = conW W (A ++ n :: B) := by
  have hAa := hal.sub (Y := A) (by simp +contextual)
  have hBa := hal.sub (Y := B) (by simp +contextual)
  unfold conW
  simp only [inR_app, inR_cons, if_pos hm, List.map_append]
  rw [hAa.keys, hAa.vals, hBa.keys, hBa.vals]
end
end Go.Proofs.Ytefagncaepallaa
/- Lists: looks that are points, by what comes later. -/
namespace Go.Proofs.Ytefagncaepallaa
set_option maxRecDepth 100000

/-- In order: the looks of a finding that has seen an order number. -/
def loOk : Pc Lk → Prop
  | .at_ (.lo _ _ _ _ _ _ _ t k) => t < k
  | _ => True
section
variable {hd : Int} {S : Nat}
theorem clr_lo (k : Lk) (s : PsT) (hk : (∃ o, k = .fi o) ∨ ∃ n a, k = .rx n a) : loOk (clrQ (lstM hd) k s).pc := by
  rcases clr_cases (M := lstM hd) k s with ⟨i, i0, i2, h, e⟩ | ⟨_, e⟩
  · rw [e]; trivial
  · rw [e]
    rcases hk with ⟨o, rfl⟩ | ⟨n, a, rfl⟩ <;> trivial
theorem fi_lo (o : OutT) (s : PsT) : loOk (norm (lstM hd) (.clr (.fi o)) s).pc := clr_lo _ s (.inl ⟨o, rfl⟩)
theorem exN_lo (o : Int) (f : Fk) (pn cur pt : Int) (s : PsT) : loOk (norm (lstM hd) (exN o f pn cur pt) s).pc := by
  unfold exN
  cases f with
  | put v n =>
    simp only
    split <;> trivial
  | _ => exact fi_lo _ _
theorem exY_lo (o : Int) (f : Fk) (pn cur w pt : Int) (s : PsT) : loOk (norm (lstM hd) (exY o f pn cur w pt) s).pc := by
  unfold exY
  cases f with
  | put v n =>
    simp only
    split
    · exact fi_lo _ _
    · trivial
  | fin a => exact fi_lo _ _
  | _ => trivial
theorem goW_lo (o : Int) (f : Fk) (a b pn cur pt : Int) (s : PsT) : loOk (norm (lstM hd) (goW o f a b pn cur pt) s).pc := by
  unfold goW
  split
  · exact exN_lo _ _ _ _ _ _
  · trivial
theorem ret_lo {k : Lk} (hk : IsR k) (s : PsT) : loOk (norm (lstM hd) ((lstM hd).retired k) s).pc := by
  rcases hk with ⟨o, f, a, b, pn, nx, pt, rfl⟩ | ⟨a, rfl⟩
  · exact goW_lo _ _ _ _ _ _ _ _
  · trivial
theorem sift_lo {k : Lk} (hk : IsR k) (held : List Int) (s : PsT) (gs stay : List (Int × Int)) : loOk (siftQ (lstM hd) k held s gs stay).pc := by
  cases gs with
  | nil => exact ret_lo hk _
  | cons g gs => trivial
theorem scan_lo {k : Lk} (hk : IsR k) (held : List Int) (s : PsT) (cs : List Ad) : loOk (scanQ (lstM hd) k held s cs).pc := by
  cases cs with
  | nil => exact sift_lo hk _ _ _ _
  | cons c cs => trivial
/-- Points and looks lie behind. -/
structure LkW (q : Q Lk) : Prop where
  pt : ∀ a, ptP q.pc = some a → 0 ≤ a ∧ a < q.s.made
  lk : ptP q.pc = none → ∀ t ∈ looks q.pc, 0 ≤ t ∧ t < q.s.made
  lo : ptP q.pc = none → loOk q.pc
theorem lo_tell {q : Q Lk} {r : ResT} (hs : Shape q) (hl : ptP q.pc = none → ∀ t ∈ looks q.pc, t < q.s.made) : ptP q.pc = none → loOk (tell (lstM hd) S q r).pc := by
  intro hp
  have hl := hl hp
  obtain ⟨pc, s⟩ := q
  cases pc with
  | fin o => trivial
  | clr k => exact absurd hs id
  | at_ k =>
    show loOk (norm (lstM hd) (lstTell hd k s.made r) s.up).pc
    cases k with
    | ls o f a b pn cur w t =>
      simp only [lstTell]
      split
      · exact hl t (by simp [looks])
      · trivial
    | lo o f a b pn cur w t k =>
      simp only [lstTell]
      split
      · trivial
      · split
        · exact goW_lo _ _ _ _ _ _ _ _
        · split
          · exact exY_lo _ _ _ _ _ _ _
          · exact exN_lo _ _ _ _ _ _
    | cu o f a b pn cur w =>
      simp only [lstTell]
      split <;> trivial
    | gv o cur pt => exact fi_lo _ _
    | p1 | p2 | p0 => trivial
    | cp o v n pn cur =>
      simp only [lstTell]
      split
      · exact fi_lo _ _
      · trivial
    | cm o pn cur w =>
      simp only [lstTell]
      split <;> trivial
    | cd o pn cur nx a =>
      simp only [lstTell]
      split
      · exact clr_lo _ _ (.inr ⟨_, _, rfl⟩)
      · trivial
    | _ => exact absurd hs id
  | t1 k =>
    obtain ⟨o, v, pn, cur, rfl⟩ := hs
    show loOk (if (ofW r.val).idx = 0 then norm (lstM hd) _ s.up else _ : Q Lk).pc
    split
    · exact fi_lo _ _
    · trivial
  | t2 k f => trivial
  | t3 k f lk =>
    show loOk (if r.ok then _ else _ : Q Lk).pc
    split <;> trivial
  | t4 k n b => trivial
  | t5 k n b c =>
    obtain ⟨o, v, pn, cur, rfl⟩ := hs
    trivial
  | g1 k i c => trivial
  | g2 k i c v b =>
    show loOk (if r.val = s.e i then norm (lstM hd) _ s.up else _ : Q Lk).pc
    split
    · rcases hs with ⟨o, f, rfl⟩ | ⟨o, f, a, pn, cur, rfl, rfl⟩
      · exact goW_lo _ _ _ _ _ _ _ _
      · trivial
    · trivial
  | g3 k i c er => trivial
  | c k i => exact clr_lo _ _ hs.2.2.2
  | v1 k n => trivial
  | v2 k n f => trivial
  | v3 k n f =>
    obtain ⟨a, rfl⟩ := hs
    show loOk (if r.ok then norm (lstM hd) _ s.up else _ : Q Lk).pc
    split
    · exact fi_lo _ _
    · trivial
  | r1 k n => trivial
  | r2 k n er =>
    show loOk (if (s.gone.length : Int) + 1 < 2 * (S : Int) then norm (lstM hd) _ _ else _ : Q Lk).pc
    split
    · exact ret_lo hs _
    · exact scan_lo hs _ _ _
  | rs k held c cs => exact scan_lo hs _ _ _
  | s1 k held y gs stay =>
    show loOk (if held.any (inB (max1 r.val) y.2) = true then siftQ (lstM hd) _ _ _ _ _ else _ : Q Lk).pc
    split
    · exact sift_lo hs _ _ _ _
    · trivial
  | w1 k held y gs stay => trivial
  | w2 k held y gs stay f => trivial
  | w3 k held y gs stay f =>
    show loOk (if r.ok then siftQ (lstM hd) _ _ _ _ _ else _ : Q Lk).pc
    split
    · exact sift_lo hs _ _ _ _
    · trivial
theorem tell_stay {q : Q Lk} {r : ResT} (hs : Shape q) (hf : ¬ q.pc.asking) : tell (lstM hd) S q r = q := by
  obtain ⟨pc, s⟩ := q
  cases pc with
  | fin o => rfl
  | clr k => exact absurd hs id
  | _ => exact absurd trivial hf
theorem lkW_tell {q : Q Lk} {r : ResT} (hs : Shape q) (h : LkW q) (hf : q.pc.asking) : LkW (tell (lstM hd) S q r) := by
  have hm := made_tell (M := lstM hd) (S := S) (r := r) hf
  cases hp : ptP q.pc with
  | some x =>
    have h1 := (pt_tell (hd := hd) (S := S) (r := r) hs hp).1
    have h2 := h.pt x hp
    refine ⟨fun a ha => ?_, fun hn => (by rw [h1] at hn; cases hn), fun hn => (by rw [h1] at hn; cases hn)⟩
    rw [h1] at ha
    cases ha
    omega
  | none =>
    obtain ⟨n1, n2⟩ := new_tell (hd := hd) (S := S) (r := r) hs hp
    have h2 := h.lk hp
    refine ⟨fun a ha => ?_, fun _ t ht => ?_, fun _ => lo_tell hs (fun hn t ht => (h.lk hn t ht).2) hp⟩
    · rcases n1 with n1 | n1 | ⟨t, ht, n1⟩
      · rw [n1] at ha; cases ha
      · rw [n1] at ha; cases ha; omega
      · rw [n1] at ha; cases ha
        have := h2 _ ht
        omega
    · rcases n2 t ht with n2 | n2
      · have := h2 t n2
        omega
      · omega
theorem lkW_run : ∀ (R : List ResT) {q : Q Lk}, Shape q → LkW q → LkW (runQ (lstM hd) S q R)
  | [], _, _, h => h
  | r :: R, q, hs, h => by
    refine lkW_run R (q := tell (lstM hd) S q r) (shape_tell hs) ?_
    by_cases hf : q.pc.asking
    · exact lkW_tell hs h hf
    · rw [tell_stay hs hf]; exact h
theorem pt_run {a : Int} : ∀ (R : List ResT) {q : Q Lk}, Shape q → ptP q.pc = some a → ptP (runQ (lstM hd) S q R).pc = some a
  | [], _, _, h => h
  | r :: R, q, hs, h => pt_run R (q := tell (lstM hd) S q r) (shape_tell hs) (pt_tell hs h).1
theorem kout_pt (k : Lk) {x : Int × Bool × Int} (h : kout k = some x) : ∃ a, kpt k = some a := by
  cases k with
  | ga o f | gb o f _ _ _ _ | ls o f _ _ _ _ _ _ | lo o f _ _ _ _ _ _ _ | cu o f _ _ _ _ _ | rr o f _ _ _ _ _ =>
    cases f with
    | fin a => exact ⟨a, rfl⟩
    | _ => cases h
  | sv a => exact ⟨a, rfl⟩
  | cd _ _ _ _ a => exact ⟨a, rfl⟩
  | rx _ a => exact ⟨a, rfl⟩
  | ry a => exact ⟨a, rfl⟩
  | fi o => exact ⟨o.point, rfl⟩
  | _ => cases h
theorem out_pt {pc : Pc Lk} {x : Int × Bool × Int} (h : outP pc = some x) : ∃ a, ptP pc = some a := by
  cases pc with
  | fin o => exact ⟨o.point, rfl⟩
  | at_ k | t1 k | t2 k _ | t3 k _ _ | t4 k _ _ | t5 k _ _ _ | g1 k _ _ | g2 k _ _ _ _ | g3 k _ _ _ | clr k | c k _ | v1 k _ | v2 k _ _ | v3 k _ _ | r1 k _ | r2 k _ _ | rs k _ _ _ | s1 k _ _ _ _ | w1 k _ _ _ _ | w2 k _ _ _ _ _ | w3 k _ _ _ _ _ => exact kout_pt k h
theorem out_run {x : Int × Bool × Int} : ∀ (R : List ResT) {q : Q Lk}, Shape q → outP q.pc = some x → outP (runQ (lstM hd) S q R).pc = some x
  | [], _, _, h => h
  | r :: R, q, hs, h => by
    obtain ⟨a, ha⟩ := out_pt h
    refine out_run R (q := tell (lstM hd) S q r) (shape_tell hs) ?_
    rw [(pt_tell hs ha).2 (fun o cur pt e => by rw [e] at h; cases h)]
    exact h
theorem gv_run {o cur pt : Int} {R : List ResT} {q : Q Lk} {out : OutT} (h : q.pc = .at_ (.gv o cur pt)) (hr : (runQ (lstM hd) S q R).pc = .fin out) : out.err = 0 := by
  obtain ⟨pc, s⟩ := q
  simp only at h
  subst h
  cases R with
  | nil => cases hr
  | cons r R =>
    have h1 : outP (tell (lstM hd) S ⟨.at_ (.gv o cur pt), s⟩ r).pc = some (r.val, true, 0) := (norm_p (hd := hd) (.clr (.fi ⟨r.val, true, 0, pt, []⟩)) s.up).2
    have h2 := out_run (hd := hd) (S := S) R (q := tell (lstM hd) S ⟨.at_ (.gv o cur pt), s⟩ r) (shape_tell trivial) h1
    have hr : (runQ (lstM hd) S (tell (lstM hd) S ⟨.at_ (.gv o cur pt), s⟩ r) R).pc = .fin out := hr
    rw [hr] at h2
    exact congrArg (·.2.2) (Option.some.inj h2)
/-- A point that is not behind us is a look under way, or comes later. -/
theorem pt_later : ∀ (R : List ResT) {q : Q Lk} {o : OutT}, Shape q → ptP q.pc = none → (runQ (lstM hd) S q R).pc = .fin o → o.point ∈ looks q.pc ∨ (q.s.made : Int) ≤ o.point
  | [], q, o, _, hp, hr => by
    have hr : q.pc = .fin o := hr
    rw [hr] at hp; cases hp
  | r :: R, q, o, hs, hp, hr => by
    have hr : (runQ (lstM hd) S (tell (lstM hd) S q r) R).pc = .fin o := hr
    by_cases hf : q.pc.asking
    · have hm := made_tell (M := lstM hd) (S := S) (r := r) hf
      obtain ⟨n1, n2⟩ := new_tell (hd := hd) (S := S) (r := r) hs hp
      have hpt : ∀ a, ptP (tell (lstM hd) S q r).pc = some a → o.point = a := fun a ha => by
        have := pt_run (hd := hd) (S := S) R (shape_tell hs) ha
        rw [hr] at this
        exact Option.some.inj this
      rcases n1 with n1 | n1 | ⟨t, ht, n1⟩
      · rcases pt_later R (shape_tell hs) n1 hr with h | h
        · rcases n2 _ h with h | h
          · exact .inl h
          · exact .inr (by omega)
        · exact .inr (by omega)
      · have := hpt _ n1
        exact .inr (by omega)
      · rw [hpt _ n1]; exact .inl ht
    · rw [tell_stay hs hf] at hr
      exact pt_later R hs hp hr

/-! ### What a look tells, if it is the point -/
def fGD : Fk → Prop
  | .get | .del => True
  | _ => False
def fGP : Fk → Prop
  | .get | .put _ _ => True
  | _ => False
def LkT (W : Ws) (o : Int) (f : Fk) (cur w : Int) : Prop := ¬ (ofW w).mark = true ∧ ((W.nd cur 1 = o ∧ fGP f) ∨ (W.nd cur 1 < o ∧ (ofW w).idx = 0 ∧ fGD f))
def LkR : Lk → Prop
  | .rr _ f _ _ _ nx _ => nx = 0 ∧ fGD f
  | _ => True
def LookF (W : Ws) (X : List Int) (tp : Int) : Pc Lk → Prop
  | .g2 (.ga _ f) _ _ v _ => (ofW v).idx = 0 ∧ fGD f
  | .g2 (.gb o f _ _ _ cur) _ _ v _ => cur ∈ X ∧ LkT W o f cur v
  | .at_ (.ls o f _ _ _ cur w _) => cur ∈ X ∧ LkT W o f cur w
  | .at_ (.lo o f _ _ _ cur w t k) => (tp = t → LkT W o f cur w) ∧ (tp = k → o < W.nd cur 1 ∧ fGD f)
  | .r1 k _ | .r2 k _ _ | .rs k _ _ _ | .s1 k _ _ _ _ | .w1 k _ _ _ _ | .w2 k _ _ _ _ _ | .w3 k _ _ _ _ _ => LkR k
  | _ => True
/-- Others' steps: what a look tells later it told before. -/
theorem look_back {l : LayT} {N : Nat} {W' : Ws} {X X' : List Int} {D : Int → Prop} {g : LstG} {P : Int → Int → Prop} {V : Vw} {mi : List Int} {s : PsT} {tp : Int} (hE : Evo V.W W' X X' D mi) (hP : ∀ i n, P i n → n ∈ X ∨ D n) {pc : Pc Lk} (hl : LocPc (lstZ hd N) l S N V X g P s pc) (h : LookF W' X' tp pc) : LookF V.W X tp pc := by
  have lt : ∀ {o f cur w}, cur ∈ X ∨ D cur → LkT W' o f cur w → LkT V.W o f cur w := fun hc h => by
    unfold LkT at h ⊢
    rw [(hE.key _ hc).1] at h
    exact h
  cases pc with
  | at_ k =>
    have hk : lstKL N V.W X P k := hl.1
    cases k with
    | ls o f a b pn cur w t =>
      have hc := hP _ _ hk.1.pc
      exact ⟨hE.sub _ hc h.1, lt hc h.2⟩
    | lo o f a b pn cur w t k =>
      have hc := hP _ _ hk.1.pc
      exact ⟨fun e => lt hc (h.1 e), fun e => by have := h.2 e; rw [(hE.key _ hc).1] at this; exact this⟩
    | _ => trivial
  | g2 k i c v b =>
    have hk : lstKL N V.W X (offP P i) k := hl.1
    cases k with
    | ga o f => exact h
    | gb o f a b' pn cur =>
      have hc := hP _ _ hk.pc.2
      exact ⟨hE.sub _ hc h.1, lt hc h.2⟩
    | _ => trivial
  | r1 k n => exact h
  | r2 k n er => exact h
  | rs k held c cs => exact h
  | s1 k held y gs stay => exact h
  | w1 k held y gs stay => exact h
  | w2 k held y gs stay f => exact h
  | w3 k held y gs stay f => exact h
  | _ => trivial
section
variable {R : List ResT} {out : OutT} {s : PsT} {o : Int} {f : Fk}
theorem no_end {q : Q Lk} (hs : Shape q) (hp : ptP q.pc = none) (hl : looks q.pc = []) (hr : (runQ (lstM hd) S q R).pc = .fin out) (hlt : out.point < q.s.made) : False := by
  rcases pt_later R hs hp hr with h | h
  · rw [hl] at h; simp at h
  · omega
theorem fi_end {o : OutT} (hr : (runQ (lstM hd) S (norm (lstM hd) (.clr (.fi o)) s) R).pc = .fin out) : out.point = o.point ∧ out.err = o.err := by
  have hs : Shape (norm (lstM hd) (.clr (.fi o)) s) := clr_shape s (.inl ⟨o, rfl⟩)
  have h1 := pt_run (hd := hd) (S := S) R hs (norm_p (hd := hd) (.clr (.fi o)) s).1
  have h2 := out_run (hd := hd) (S := S) R hs (norm_p (hd := hd) (.clr (.fi o)) s).2
  rw [hr] at h1 h2
  exact ⟨Option.some.inj h1, congrArg (·.2.2) (Option.some.inj h2)⟩
theorem exN_end {pn cur pt : Int} (hf : fpt f = none) (hr : (runQ (lstM hd) S (norm (lstM hd) (exN o f pn cur pt) s) R).pc = .fin out) (hlt : out.point < s.made) : fGD f ∧ out.point = pt ∧ out.err = 0 := by
  have hs := exN_shape (hd := hd) o f pn cur pt s
  have hm : (norm (lstM hd) (exN o f pn cur pt) s).s.made = s.made := by rw [norm_s]
  unfold exN at hr hs hm
  cases f with
  | get => exact ⟨trivial, fi_end hr⟩
  | del => exact ⟨trivial, fi_end hr⟩
  | fin a => cases hf
  | put v n =>
    exfalso
    simp only at hr hs hm
    refine no_end hs ?_ ?_ hr (by rw [hm]; exact hlt)
    · split <;> rfl
    · split <;> rfl
theorem exY_end {pn cur w pt : Int} (hf : fpt f = none) (hr : (runQ (lstM hd) S (norm (lstM hd) (exY o f pn cur w pt) s) R).pc = .fin out) (hlt : out.point < s.made) : fGP f ∧ out.point = pt ∧ out.err = 0 := by
  have hs := exY_shape (hd := hd) o f pn cur w pt s
  have hm : (norm (lstM hd) (exY o f pn cur w pt) s).s.made = s.made := by rw [norm_s]
  unfold exY at hr hs hm
  cases f with
  | get =>
    have h1 := pt_run (hd := hd) (S := S) (a := pt) R hs rfl
    rw [hr] at h1
    exact ⟨trivial, Option.some.inj h1, gv_run (q := ⟨.at_ (.gv o cur pt), s⟩) rfl hr⟩
  | del => exact absurd (no_end hs rfl rfl hr (by rw [hm]; exact hlt)) id
  | fin a => cases hf
  | put v n =>
    simp only at hr hs hm
    by_cases hn : n = 0
    · rw [if_pos hn] at hr
      exact ⟨trivial, fi_end hr⟩
    · rw [if_neg hn] at hr hs
      have h1 := pt_run (hd := hd) (S := S) (a := pt) R hs rfl
      have h2 := out_run (hd := hd) (S := S) (x := (0, false, 0)) R hs rfl
      rw [hr] at h1 h2
      exact ⟨trivial, Option.some.inj h1, congrArg (·.2.2) (Option.some.inj h2)⟩
theorem goW_end {a b pn cur pt : Int} (hf : fpt f = none) (hr : (runQ (lstM hd) S (norm (lstM hd) (goW o f a b pn cur pt) s) R).pc = .fin out) (hlt : out.point < s.made) : cur = 0 ∧ fGD f ∧ out.point = pt ∧ out.err = 0 := by
  by_cases h : cur = 0
  · unfold goW at hr
    rw [if_pos h] at hr
    exact ⟨h, exN_end hf hr hlt⟩
  · exfalso
    have hs := goW_shape (hd := hd) o f a b pn cur pt s
    unfold goW at hr hs
    rw [if_neg h] at hr hs
    exact no_end hs hf rfl hr hlt
theorem ret_end {k : Lk} (hk : IsR k) (hp : kpt k = none) (hr : (runQ (lstM hd) S (norm (lstM hd) ((lstM hd).retired k) s) R).pc = .fin out) (hlt : out.point < s.made) : LkR k ∧ out.err = 0 := by
  rcases hk with ⟨o, f, a, b, pn, nx, pt, rfl⟩ | ⟨a, rfl⟩
  · obtain ⟨h1, h2, _, h4⟩ := goW_end hp hr hlt
    exact ⟨⟨h1, h2⟩, h4⟩
  · cases hp
end
end
end Go.Proofs.Ytefagncaepallaa
/- Lists: what a look tells that is the point; what an access does to a list's content. -/
namespace Go.Proofs.Ytefagncaepallaa
set_option maxRecDepth 100000

section
variable {hd : Int} {l : LayT} {S N K : Nat} {V : Vw} {qs : List (Q Lk)} {F X : List Int} {g : LstG} {w : Nat} {q : Q Lk} {R : List ResT} {out : OutT}
theorem sift_end {W : Ws} {k : Lk} {held : List Int} {s : PsT} {gs stay : List (Int × Int)} (hk : IsR k) (hp : kpt k = none) (hr : (runQ (lstM hd) S (siftQ (lstM hd) k held s gs stay) R).pc = .fin out) (hlt : out.point < s.made) (hpt : ∀ o f a b pn nx pt, k = .rr o f a b pn nx pt → out.point = pt)
    (ih : ptP (siftQ (lstM hd) k held s gs stay).pc = none → out.point ∈ looks (siftQ (lstM hd) k held s gs stay).pc → out.err = 0 ∧ LookF W X out.point (siftQ (lstM hd) k held s gs stay).pc) : out.err = 0 ∧ LkR k := by
  cases gs with
  | nil => exact (ret_end hk hp hr hlt).symm
  | cons y gs =>
    refine ih hp ?_
    rcases hk with ⟨o, f, a, b, pn, nx, pt, rfl⟩ | ⟨a, rfl⟩
    · rw [hpt o f a b pn nx pt rfl]; simp [siftQ, looks]
    · cases hp
theorem scan_end {W : Ws} {k : Lk} {held : List Int} {s : PsT} {cs : List Ad} (hk : IsR k) (hp : kpt k = none) (hr : (runQ (lstM hd) S (scanQ (lstM hd) k held s cs) R).pc = .fin out) (hlt : out.point < s.made) (hpt : ∀ o f a b pn nx pt, k = .rr o f a b pn nx pt → out.point = pt)
    (ih : ptP (scanQ (lstM hd) k held s cs).pc = none → out.point ∈ looks (scanQ (lstM hd) k held s cs).pc → out.err = 0 ∧ LookF W X out.point (scanQ (lstM hd) k held s cs).pc) : out.err = 0 ∧ LkR k := by
  cases cs with
  | nil => exact sift_end hk hp hr hlt hpt ih
  | cons c cs =>
    refine ih hp ?_
    rcases hk with ⟨o, f, a, b, pn, nx, pt, rfl⟩ | ⟨a, rfl⟩
    · rw [hpt o f a b pn nx pt rfl]; simp [scanQ, looks]
    · cases hp
theorem looks_is {k : Lk} (hk : IsR k) (hp : kpt k = none) {n : Int} (h : out.point ∈ looks (.r1 k n)) : (∀ o f a b pn nx pt, k = .rr o f a b pn nx pt → out.point = pt) ∧ ∀ pc, looks pc = looks (.r1 k n) → out.point ∈ looks pc := by
  refine ⟨fun o f a b pn nx pt e => ?_, fun pc e => by rw [e]; exact h⟩
  subst e
  simpa [looks] using h
/-- One's own steps: what a look tells later it told before; or it tells it now. -/
theorem look_own (hLy : LstLay l S hd) (hN : N ≤ 100) (hI : Inv (lstZ hd N) l S N K V qs F X g) (hq : qs[w]? = some q) (hf : q.pc.asking) (hsh : Shape q) (hw : LkW q) (hp : ptP q.pc = none) (hr : (runQ (lstM hd) S (tell (lstM hd) S q (act V (asks (lstM hd) w q.pc)).2) R).pc = .fin out) (hl : out.point ∈ looks q.pc)
    (ih : ptP (tell (lstM hd) S q (act V (asks (lstM hd) w q.pc)).2).pc = none → out.point ∈ looks (tell (lstM hd) S q (act V (asks (lstM hd) w q.pc)).2).pc → out.err = 0 ∧ LookF (act V (asks (lstM hd) w q.pc)).1.W (nxX (lstZ hd N) V.W X g q.pc).1 out.point (tell (lstM hd) S q (act V (asks (lstM hd) w q.pc)).2).pc) : out.err = 0 ∧ LookF V.W X out.point q.pc := by
  have hloc := hI.loc w _ hq
  have hlt : out.point < (tell (lstM hd) S q (act V (asks (lstM hd) w q.pc)).2).s.made := by
    have := (hw.lk hp _ hl).2
    rw [made_tell hf]; omega
  have hsh' := shape_tell (hd := hd) (S := S) (r := (act V (asks (lstM hd) w q.pc)).2) hsh
  have hcs : ∀ (f v : Int), (act V (.cs .free f v)).1.W = V.W := fun f v => by simp only [act]; split <;> rfl
  have hlo := hw.lo hp
  have hlk := hw.lk hp
  obtain ⟨pc, s⟩ := q
  have hpc := hloc.pc
  cases pc with
  | fin o => exact absurd hf id
  | clr k => exact absurd hf id
  | at_ k =>
    have ho := own_at hLy hN hI hq
    have ha : act V (asks (lstM hd) w (.at_ k)) = ({ V with W := (actW V.W (lstAsk hd k)).1 }, (actW V.W (lstAsk hd k)).2) := ho.act
    have hk := ho.kl
    rw [ha] at hr hlt hsh' ih
    cases k with
    | ls o f a b pn cur w' t =>
      obtain ⟨h1, h2, h3, h4⟩ := hk
      have e : tell (lstM hd) S ⟨.at_ (.ls o f a b pn cur w' t), s⟩ (actW V.W (lstAsk hd (.ls o f a b pn cur w' t))).2 = norm (lstM hd) (if V.W.get (prevA hd pn) = plainW cur then .at_ (.lo o f a b pn cur w' t s.made) else anew hd o f) s.up := rfl
      rw [e] at hr hlt hsh' ih
      by_cases hc : V.W.get (prevA hd pn) = plainW cur
      · rw [if_pos hc] at hr hlt hsh' ih
        have ht : out.point = t := by simpa [looks] using hl
        obtain ⟨i1, i2⟩ := ih hp (by rw [ht]; simp [norm, looks])
        refine ⟨i1, ?_, i2.1 ht⟩
        rw [plainW_eq (show 0 ≤ cur by have := h1.c1; omega) (by have := h1.cN; omega)] at hc
        obtain ⟨A, B, hs⟩ := stand hI.si hN ho.nd (h1.pp.at_ ho.hP) (fun n hn => ho.hb n (hn.imp id .inr)) hc (by have := h1.c1; omega) h1.cN
        exact (hs.inX (by have := h1.c1; omega)).choose_spec.2
      · rw [if_neg hc] at hr hlt hsh'
        exact absurd (no_end hsh' hp rfl hr hlt) id
    | lo o f a b pn cur w' t k =>
      have e : tell (lstM hd) S ⟨.at_ (.lo o f a b pn cur w' t k), s⟩ (actW V.W (lstAsk hd (.lo o f a b pn cur w' t k))).2 = norm (lstM hd) (if (ofW w').mark then .at_ (.cu o f a b pn cur w') else if V.W.nd cur 1 < o then goW o f b (3 - a - b) cur (ofW w').idx t else if V.W.nd cur 1 = o then exY o f pn cur w' t else exN o f pn cur k) s.up := rfl
      rw [e] at hr hlt hsh'
      have htk : t < k := hlo
      have hm9 : out.point < (s.up.made : Int) := by rw [norm_s] at hlt; exact hlt
      by_cases hm : (ofW w').mark = true
      · rw [if_pos hm] at hr hlt hsh'
        exact absurd (no_end hsh' hp rfl hr hlt) id
      · rw [if_neg hm] at hr
        by_cases hk1 : V.W.nd cur 1 < o
        · rw [if_pos hk1] at hr
          obtain ⟨e1, e2, e3, e4⟩ := goW_end hp hr hm9
          exact ⟨e4, fun _ => ⟨hm, .inr ⟨hk1, e1, e2⟩⟩, fun e => by omega⟩
        · rw [if_neg hk1] at hr
          by_cases hk2 : V.W.nd cur 1 = o
          · rw [if_pos hk2] at hr
            obtain ⟨e1, e2, e3⟩ := exY_end hp hr hm9
            exact ⟨e3, fun _ => ⟨hm, .inl ⟨hk2, e1⟩⟩, fun e => by omega⟩
          · rw [if_neg hk2] at hr
            obtain ⟨e1, e2, e3⟩ := exN_end hp hr hm9
            exact ⟨e3, fun e => by omega, fun _ => ⟨by omega, e1⟩⟩
    | _ => simp [looks] at hl
  | g2 k i c v b =>
    have hb : out.point = b := by simpa [looks] using hl
    have e : tell (lstM hd) S ⟨.g2 k i c v b, s⟩ (act V (asks (lstM hd) w (.g2 k i c v b))).2 = if V.er = s.e i then norm (lstM hd) ((lstM hd).guarded k v b) s.up else ⟨.g3 k i c V.er, s.up⟩ := rfl
    rw [e] at hr hlt hsh' ih
    by_cases he : V.er = s.e i
    · rw [if_pos he] at hr hlt hsh' ih
      rcases hsh with ⟨o, f, rfl⟩ | ⟨o, f, a, pn, cur, rfl, rfl⟩
      · have hm9 : out.point < (s.up.made : Int) := by rw [norm_s] at hlt; exact hlt
        obtain ⟨e1, e2, e3, e4⟩ := goW_end (o := o) (f := f) (a := 0) (b := 1) (pn := 0) (cur := (ofW v).idx) (pt := b) hp hr hm9
        exact ⟨e4, e1, e2⟩
      · exact ih hp (by rw [hb]; exact List.mem_singleton.2 rfl)
    · rw [if_neg he] at hr hlt hsh'
      exact absurd (no_end hsh' hp rfl hr hlt) id
  | r1 k n =>
    have hh := (looks_is hsh hp hl).2
    refine ih hp (hh _ ?_)
    rcases hsh with ⟨o, f, a, b, pn, nx, pt, rfl⟩ | ⟨a, rfl⟩
    · rfl
    · cases hp
  | r2 k n er =>
    have hl1 : out.point ∈ looks (.r1 k 0) := by
      rcases hsh with ⟨o, f, a, b, pn, nx, pt, rfl⟩ | ⟨a, rfl⟩
      · exact hl
      · cases hp
    have hh := (looks_is hsh hp hl1).1
    have e : tell (lstM hd) S ⟨.r2 k n er, s⟩ (act V (asks (lstM hd) w (.r2 k n er))).2 = if (s.gone.length : Int) + 1 < 2 * (S : Int) then norm (lstM hd) ((lstM hd).retired k) { s.up with gone := s.gone ++ [(n, er)] } else scanQ (lstM hd) k [] { s.up with gone := s.gone ++ [(n, er)] } (resvsA 0 S) := rfl
    rw [e] at hr hlt ih
    by_cases hc : (s.gone.length : Int) + 1 < 2 * (S : Int)
    · rw [if_pos hc] at hr hlt
      rw [norm_s] at hlt
      exact (ret_end hsh hp hr hlt).symm
    · rw [if_neg hc] at hr hlt ih
      rw [scan_made] at hlt
      exact scan_end hsh hp hr hlt hh ih
  | rs k held c cs =>
    have hl1 : out.point ∈ looks (.r1 k 0) := by
      rcases hsh with ⟨o, f, a, b, pn, nx, pt, rfl⟩ | ⟨a, rfl⟩
      · exact hl
      · cases hp
    have hlt : out.point < (scanQ (lstM hd) k (held ++ [V.get c]) s.up cs).s.made := hlt
    rw [scan_made] at hlt
    exact scan_end (s := s.up) hsh hp hr hlt (looks_is hsh hp hl1).1 ih
  | s1 k held y gs stay =>
    have hl1 : out.point ∈ looks (.r1 k 0) := by
      rcases hsh with ⟨o, f, a, b, pn, nx, pt, rfl⟩ | ⟨a, rfl⟩
      · exact hl
      · cases hp
    have e : tell (lstM hd) S ⟨.s1 k held y gs stay, s⟩ (act V (asks (lstM hd) w (.s1 k held y gs stay))).2 = if held.any (inB (max1 (V.bi y.1)) y.2) = true then siftQ (lstM hd) k held s.up gs (stay ++ [y]) else ⟨.w1 k held y gs stay, s.up⟩ := rfl
    rw [e] at hr hlt ih
    by_cases hc : held.any (inB (max1 (V.bi y.1)) y.2) = true
    · rw [if_pos hc] at hr hlt ih
      rw [sift_made] at hlt
      exact sift_end hsh hp hr hlt (looks_is hsh hp hl1).1 ih
    · rw [if_neg hc] at ih
      refine ih hp ?_
      rcases hsh with ⟨o, f, a, b, pn, nx, pt, rfl⟩ | ⟨a, rfl⟩
      · exact hl
      · cases hp
  | w1 k held y gs stay =>
    refine ih hp ?_
    rcases hsh with ⟨o, f, a, b, pn, nx, pt, rfl⟩ | ⟨a, rfl⟩
    · exact hl
    · cases hp
  | w2 k held y gs stay f =>
    refine ih hp ?_
    rcases hsh with ⟨o, f, a, b, pn, nx, pt, rfl⟩ | ⟨a, rfl⟩
    · exact hl
    · cases hp
  | w3 k held y gs stay f =>
    have hl1 : out.point ∈ looks (.r1 k 0) := by
      rcases hsh with ⟨o, f, a, b, pn, nx, pt, rfl⟩ | ⟨a, rfl⟩
      · exact hl
      · cases hp
    have e : tell (lstM hd) S ⟨.w3 k held y gs stay f, s⟩ (act V (asks (lstM hd) w (.w3 k held y gs stay f))).2 = if (act V (asks (lstM hd) w (.w3 k held y gs stay f))).2.ok then siftQ (lstM hd) k held s.up gs stay else ⟨.w1 k held y gs stay, s.up⟩ := rfl
    rw [e] at hr hlt ih
    by_cases hc : (act V (asks (lstM hd) w (.w3 k held y gs stay f))).2.ok = true
    · rw [if_pos hc] at hr hlt ih
      rw [sift_made] at hlt
      exact sift_end hsh hp hr hlt (looks_is hsh hp hl1).1 ih
    · rw [if_neg hc] at ih
      refine ih hp ?_
      rcases hsh with ⟨o, f', a, b, pn, nx, pt, rfl⟩ | ⟨a, rfl⟩
      · exact hl
      · cases hp
  | _ => simp [looks] at hl
end

/-! ### All looks of a play -/
theorem qAt_lkW (p : PlayT) (ws : List OpT) (x : SeatT) (hx : x.at_ < ws.length) : LkW (qAt p ws x) := by
  unfold qAt
  rw [List.getElem?_eq_getElem hx]
  have hn : ptP (startQ (hdP p) ws[x.at_] x.gone).pc = none := by
    show fpt (fkOf ws[x.at_]) = none
    unfold fkOf
    split
    · rfl
    · split <;> rfl
  exact lkW_run _ (.inl ⟨_, _, rfl⟩) ⟨fun a ha => (by rw [hn] at ha; cases ha), fun _ t ht => (by simp [startQ, anew, looks] at ht), fun _ => trivial⟩
/-- Looks under way that are points tell what they tell. -/
def LookJ (p : PlayT) (s : PSt) (V : Vw) (X : List Int) : Prop := ∀ (w : Nat) (x : SeatT) (ws : List OpT), s.seats[w]? = some x → p.want[w]? = some ws → x.at_ < ws.length → ptP (qAt p ws x).pc = none → (tellF (playedF p).steps w x.at_).1 ∈ looks (qAt p ws x).pc → (tellF (playedF p).steps w x.at_).2 = 0 ∧ LookF V.W X (tellF (playedF p).steps w x.at_).1 (qAt p ws x).pc
theorem look_all {p : PlayT} (hp : PlayG p) : ∀ (k i : Nat), i + k = allF p → ∀ V F X g, G p i (stateAt p i) V F X g → LookJ p (stateAt p i) V X
  | 0, i, hi, V, F, X, g, _ => fun w x ws hx hw hlt => by
    rw [Nat.add_zero] at hi
    subst hi
    have := (state_end hp).2 w x ws hx hw
    omega
  | k + 1, i, hi, V, F, X, g, hG => by
    have hN := nP_le p
    have hall : allF p ≤ 4700 := by have := hp.ok.w3; have := hp.ok.t; unfold allF; omega
    obtain ⟨V', F', X', g', _, hS, hG'⟩ := state_next hp (show i < allF p by omega) hG
    have ih := look_all hp k (i + 1) (by omega) V' F' X' g' hG'
    have hfut : ∀ (w : Nat) (x : SeatT) (ws : List OpT), (stateAt p (i + 1)).seats[w]? = some x → p.want[w]? = some ws → x.at_ < ws.length → ∃ R o, (runQ (mP p) p.want.length (qAt p ws x) R).pc = .fin o ∧ tellF (playedF p).steps w x.at_ = (o.point, o.err) := fun w x ws h1 h2 h3 => fut_is hp (by omega) h1 h2 h3
    generalize stateAt p (i + 1) = s' at *
    generalize stateAt p i = s at *
    cases hS with
    | idle x ws hx hw ha => exact ih
    | done x ws op q o hx hw ho hq hpc =>
      intro w y us hy hu hlt hpt
      by_cases hww : w = whoF p i
      · subst hww
        rw [hx] at hy
        cases hy
        rw [hw] at hu
        cases hu
        rw [← hq, hpc] at hpt
        cases hpt
      · exact ih w y us (by simp only; rw [List.getElem?_set_ne (by omega)]; exact hy) hu hlt hpt
    | acc x ws op q hx hw ho hq hpc =>
      intro w y us hy hu hlt hpt hl
      have hqg := qs_at hx hw hq
      by_cases hww : w = whoF p i
      · subst hww
        rw [hx] at hy
        cases hy
        rw [hw] at hu
        cases hu
        have hxl := (List.getElem?_eq_some_iff.1 hx).1
        have e1 : qAt p ws { x with log := x.log ++ [(actP p (whoF p i) V q).2] } = tell (mP p) p.want.length q (actP p (whoF p i) V q).2 := by
          rw [hq]
          unfold qAt
          simp only [ho]
          rw [runQ_snoc]
        obtain ⟨R, o, hr, ht⟩ := hfut (whoF p i) { x with log := x.log ++ [(actP p (whoF p i) V q).2] } ws (List.getElem?_set_self hxl) hw hlt
        have ih9 := ih (whoF p i) { x with log := x.log ++ [(actP p (whoF p i) V q).2] } ws (List.getElem?_set_self hxl) hw hlt
        rw [e1] at hr ih9
        have ht : tellF (playedF p).steps (whoF p i) x.at_ = (o.point, o.err) := ht
        simp only [ht] at ih9
        simp only [ht] at hl ⊢
        rw [← hq] at hpt hl ⊢
        have hsh : Shape q := by rw [hq]; exact qAt_shape p ws x
        have hlw : LkW q := by rw [hq]; exact qAt_lkW p ws x hlt
        exact look_own (lstLayP p) (by omega) hG.inv hqg hpc hsh hlw hpt hr hl ih9
      · have hy' : (s.seats.set (whoF p i) { x with log := x.log ++ [(actP p (whoF p i) V q).2] })[w]? = some y := by rw [List.getElem?_set_ne (by omega)]; exact hy
        obtain ⟨i1, i2⟩ := ih w y us hy' hu hlt hpt hl
        exact ⟨i1, look_back (act_evo (lstLayP p) (by omega) hG.inv hqg) (fun i n h => pr_in h) (hG.inv.loc w _ (qsOf_get hy hu)).pc i2⟩
end Go.Proofs.Ytefagncaepallaa
/- Lists: what an access does to a list's content. -/
namespace Go.Proofs.Ytefagncaepallaa
set_option maxRecDepth 100000

theorem mark_plain {w : Int} (h0 : 0 ≤ w) (h1 : w < 65536) : (ofW w).mark = false := by
  show decide (w / 65536 % 2 = 1) = false
  rw [decide_eq_false_iff_not]
  omega
section
variable {hd : Int} {l : LayT} {S N K : Nat} {W W' : Ws} {X A B : List Int} {D : Int → Prop} {g : LstG} {P : Int → Int → Prop} {pn c o : Int}
theorem below (h : LstSI hd N K W X D g) (hs : Stand W X pn c A B) (hk : Kp W o pn) : ∀ m ∈ A, W.nd m 1 < o := by
  intro m hm
  rcases hs.hA with ⟨_, rfl⟩ | ⟨hp, A', rfl⟩
  · simp at hm
  · have hk : W.nd pn 1 < o := hk.resolve_left (by omega)
    have hr := h.rise
    rw [hs.eq, List.append_assoc, List.pairwise_append] at hr
    rcases List.mem_append.1 hm with hm | hm
    · have := hr.2.2 m hm pn (by simp)
      omega
    · have : m = pn := by simpa using hm
      rw [this]; exact hk
theorem above (h : LstSI hd N K W X D g) (hs : Stand W X pn c A B) (hk : c = 0 ∨ o < W.nd c 1) : ∀ m ∈ B, o < W.nd m 1 := by
  intro m hm
  have hh := hs.hB
  cases B with
  | nil => simp at hm
  | cons b B =>
    have hb : b = c := hh
    have hr := h.rng b (by rw [hs.eq]; simp)
    have hk : o < W.nd b 1 := by rw [hb]; exact hk.resolve_left (by omega)
    rcases List.mem_cons.1 hm with rfl | hm
    · exact hk
    · have hr := h.rise
      rw [hs.eq, List.pairwise_append] at hr
      have := (List.pairwise_cons.1 hr.2.1).1 m hm
      omega
theorem alike_put {v : Int} (Y : List Int) (h0 : 0 ≤ W.get (prevA hd pn)) (h1 : W.get (prevA hd pn) < 65536) (h2 : 0 ≤ v) (h3 : v < 65536) : Alike W (W.put (prevA hd pn) v) Y := by
  refine ⟨fun n _ => ⟨by rw [put_nd, if_neg (by omega)], by rw [put_nd, if_neg (by omega)]⟩, fun n _ => ?_⟩
  rw [put_nd]
  split
  · rename_i h
    rw [mark_plain h2 h3]
    rw [get_prev, if_neg h.1, ← h.2.1] at h0 h1
    rw [mark_plain h0 h1]
  · rfl
theorem alike_set {n i v : Int} {Y : List Int} (hn : n ∉ Y) : Alike W (W.setNd n i v) Y := by
  have hne : ∀ x ∈ Y, ∀ j, (W.setNd n i v).nd x j = W.nd x j := fun x hx j => by rw [nd_set, if_neg (fun hh : x = n ∧ _ => hn (hh.1 ▸ hx))]
  exact ⟨fun x hx => ⟨hne x hx 1, hne x hx 2⟩, fun x hx => by rw [hne x hx 0]⟩
theorem alike_refl (W : Ws) (X : List Int) : Alike W W X := ⟨fun _ _ => ⟨rfl, rfl⟩, fun _ _ => rfl⟩
def isC : Lk → Prop
  | .cp _ _ _ _ _ | .cm _ _ _ _ => True
  | _ => False
def isCP : Pc Lk → Prop
  | .at_ k => isC k
  | _ => False
/-- What a step of one's own does to the content: nothing, or what its operation does. -/
theorem lst_con (hN : N ≤ 100) {V : Vw} {k : Lk} (s s' : PsT) (hSI : LstSI hd N K V.W X D g) (ho : Own hd l S N V X g D P k) (hsh : Shape ⟨.at_ k, s⟩) {op : OpT} (hop : kOf op k) :
    (conW (actW V.W (lstAsk hd k)).1 (lstNx hd V.W X g k).1 = conW V.W X ∧ (isC k → outP (norm (lstM hd) (lstTell hd k s.made (actW V.W (lstAsk hd k)).2) s').pc = none)) ∨ (ptP (.at_ k) = none ∧ ptP (norm (lstM hd) (lstTell hd k s.made (actW V.W (lstAsk hd k)).2) s').pc = some (s.made : Int) ∧ outP (norm (lstM hd) (lstTell hd k s.made (actW V.W (lstAsk hd k)).2) s').pc = some (0, true, 0) ∧ specS (conW V.W X) op = (conW (actW V.W (lstAsk hd k)).1 (lstNx hd V.W X g k).1, 0, true)) := by
  have hbXD : ∀ n, n ∈ X ∨ D n → 1 ≤ n ∧ n ≤ (N : Int) := fun n hn => ho.hb n (hn.imp id .inr)
  have hPN : ∀ {i n}, PN N P i n → n = 0 ∨ n ∈ X ∨ D n := fun h => h.at_ ho.hP
  have pl : ∀ {n : Int}, 0 ≤ n → n ≤ N → plainW n = n := fun h0 h1 => plainW_eq h0 (by omega)
  have hk := ho.kl
  cases k with
  | ls => exact .inl ⟨rfl, fun h => absurd h id⟩
  | lo => exact .inl ⟨rfl, fun h => absurd h id⟩
  | gv => exact .inl ⟨rfl, fun h => absurd h id⟩
  | cu o f a b pn cur w =>
    obtain ⟨h1, h2, h3, h4, h5⟩ := hk
    have hw := h2.mark.1 h4
    have hi := ofW_idx w
    have hle := h2.2
    have hc1 := h1.c1
    have hcN := h1.cN
    have e0 : plainW cur = cur := pl (by omega) hcN
    have e0' : plainW (ofW w).idx = (ofW w).idx := pl hi.1 hle
    refine .inl ⟨?_, fun h => absurd h id⟩
    by_cases hc : V.W.get (prevA hd pn) = cur
    · have e1 : actW V.W (lstAsk hd (.cu o f a b pn cur w)) = (V.W.put (prevA hd pn) (ofW w).idx, ⟨cur, true⟩) := by simp only [lstAsk, actW, e0, e0', hc, if_true]
      have e2 : lstNx hd V.W X g (.cu o f a b pn cur w) = (X.erase cur, { g with ret := g.ret + 1 }) := by simp only [lstNx, e0, hc, if_true]
      rw [e1, e2]
      obtain ⟨_, _, _, _, A, B, hs, f5, _⟩ := unlink_si hSI hN ho.nd ho.dx hbXD (hPN h1.pp) hc1 hcN hc (by rw [h5]; exact hw) hi.1 hle (D' := D) (fun n hn => .inl hn)
      have hX := hs.eq
      show conW (V.W.put (prevA hd pn) (ofW w).idx) (X.erase cur) = conW V.W X
      rw [f5, hX]
      exact con_cut (alike_put _ (by omega) (by omega) (by omega) (by omega)) (by rw [h5]; exact h4)
    · have e1 : actW V.W (lstAsk hd (.cu o f a b pn cur w)) = (V.W, ⟨V.W.get (prevA hd pn), false⟩) := by simp only [lstAsk, actW, e0, hc, if_false]
      have e2 : lstNx hd V.W X g (.cu o f a b pn cur w) = (X, g) := by simp only [lstNx, e0, hc, if_false]
      rw [e1, e2]
  | p1 o v n pn cur => exact .inl ⟨(alike_set (ho.mi n (by simp [lstMine])).1).con, fun h => absurd h id⟩
  | p2 o v n pn cur => exact .inl ⟨(alike_set (ho.mi n (by simp [lstMine])).1).con, fun h => absurd h id⟩
  | p0 o v n pn cur => exact .inl ⟨(alike_set (ho.mi n (by simp [lstMine])).1).con, fun h => absurd h id⟩
  | cp o v n pn cur =>
    obtain ⟨h1, h2, h3, h4, h5⟩ := hk
    obtain ⟨rfl, hk2, rfl⟩ := hop
    have hmn := ho.mi n (by simp [lstMine])
    have hnb := ho.hb n (.inr (.inl (by simp [lstMine])))
    obtain ⟨i, hi⟩ := h1.pc
    obtain ⟨j, hj⟩ := h1.pp
    have hcb : 0 ≤ cur ∧ cur ≤ N := by
      rcases hi with rfl | hi
      · omega
      · omega
    have e0 : plainW cur = cur := pl hcb.1 hcb.2
    have e0' : plainW n = n := pl (by omega) hnb.2
    by_cases hc : V.W.get (prevA hd pn) = cur
    · right
      obtain ⟨A, B, hs, _, _⟩ := insert_si hSI (Nat.succ_le_succ hSI.k) hN ho.nd hbXD (hPN hj) hcb.1 hcb.2 hc hnb.1 hnb.2 hmn.1 hmn.2 h3 h5 h1.kp h1.kc
      have e1 : actW V.W (lstAsk hd (.cp op.a op.b n pn cur)) = (V.W.put (prevA hd pn) n, ⟨cur, true⟩) := by simp only [lstAsk, actW, e0, e0', hc, if_true]
      have e2 : lstNx hd V.W X g (.cp op.a op.b n pn cur) = (A ++ n :: B, { g with put := g.put + 1 }) := by
        simp only [lstNx, e0, hc, if_true]
        rw [nx_ins hs ho.nd]
      have hA := below hSI hs h1.kp
      have hB := above hSI hs h1.kc
      have hpn : pn ≠ n := fun e => by
        subst e
        rcases hPN hj with hp | hp | hp
        · omega
        · exact hmn.1 hp
        · exact hmn.2 hp
      have hnn : ∀ i, (V.W.put (prevA hd pn) n).nd n i = V.W.nd n i := fun i => by rw [put_nd, if_neg (fun hh => hpn hh.2.1.symm)]
      rw [e1, e2]
      refine ⟨rfl, (norm_p (hd := hd) (.clr (.fi (okO s.made))) s').1, (norm_p (hd := hd) (.clr (.fi (okO s.made))) s').2, ?_⟩
      show specS (conW V.W X) op = (conW (V.W.put (prevA hd pn) n) (A ++ n :: B), 0, true)
      rw [hs.eq]
      exact spec_put rfl hk2 hA hB (alike_put _ (by omega) (by omega) (by omega) (by omega)) (by rw [hnn]; exact h3) (by rw [hnn]; exact h4) (by rw [hnn, h5, mark_plain (by omega) (by omega)]; simp)
    · left
      have e1 : actW V.W (lstAsk hd (.cp op.a op.b n pn cur)) = (V.W, ⟨V.W.get (prevA hd pn), false⟩) := by simp only [lstAsk, actW, e0, hc, if_false]
      have e2 : lstNx hd V.W X g (.cp op.a op.b n pn cur) = (X, g) := by simp only [lstNx, e0, hc, if_false]
      rw [e1, e2]
      exact ⟨rfl, fun _ => rfl⟩
  | cm o pn cur w =>
    obtain ⟨h1, h2, h3⟩ := hk
    obtain ⟨rfl, hk3⟩ := hop
    obtain ⟨i, hi⟩ := h1.pc
    have hx := ofW_idx w
    have hle := h2.2
    have e0 : markW (ofW w).idx = (ofW w).idx + 65536 := markW_eq hx.1 (by omega)
    by_cases hc : V.W.nd cur 0 = w
    · right
      obtain ⟨hcX, _, _⟩ := mark_si hSI hN (ho.hP _ _ hi) h2 h3 hc
      have e1 : actW V.W (lstAsk hd (.cm op.a pn cur w)) = (V.W.setNd cur 0 ((ofW w).idx + 65536), ⟨w, true⟩) := by simp only [lstAsk, actW, Ws.get, e0, hc, if_true]; rfl
      obtain ⟨A, B, hX, hA, hB⟩ := split_mem hcX ho.nd
      rw [e1]
      refine ⟨rfl, rfl, rfl, ?_⟩
      show specS (conW V.W X) op = (conW (V.W.setNd cur 0 ((ofW w).idx + 65536)) X, 0, true)
      rw [hX]
      have hr := hSI.rise
      rw [hX, List.pairwise_append] at hr
      refine spec_del rfl hk3 (fun m hm => ?_) (alike_set ?_) h1.kc (by rw [hc]; exact h3) ?_
      · rw [← h1.kc]; exact hr.2.2 m hm cur (by simp)
      · rw [List.mem_append]; exact fun h => h.elim hA hB
      · rw [nd_set, if_pos ⟨rfl, rfl⟩]
        exact (wf_marked (N := N) hx.1 hle hN).mark.2 (by rw [idx_marked hx.1 (by omega)])
    · left
      have e1 : actW V.W (lstAsk hd (.cm op.a pn cur w)) = (V.W, ⟨V.W.nd cur 0, false⟩) := by simp only [lstAsk, actW, Ws.get, hc, if_false]
      rw [e1]
      exact ⟨rfl, fun _ => rfl⟩
  | cd o pn cur nx at_ =>
    obtain ⟨h1, h2, h3, h4⟩ := hk
    obtain ⟨j, hj⟩ := h1.pp
    have hc1 := h1.c1
    have hcN := h1.cN
    have e0 : plainW cur = cur := pl (by omega) hcN
    have e0' : plainW nx = nx := pl h3 h4
    refine .inl ⟨?_, fun h => absurd h id⟩
    by_cases hc : V.W.get (prevA hd pn) = cur
    · have e1 : actW V.W (lstAsk hd (.cd o pn cur nx at_)) = (V.W.put (prevA hd pn) nx, ⟨cur, true⟩) := by simp only [lstAsk, actW, e0, e0', hc, if_true]
      have e2 : lstNx hd V.W X g (.cd o pn cur nx at_) = (X.erase cur, { g with ret := g.ret + 1 }) := by simp only [lstNx, e0, hc, if_true]
      rw [e1, e2]
      obtain ⟨_, _, _, _, A, B, hs, f5, _⟩ := unlink_si hSI hN ho.nd ho.dx hbXD (hPN hj) hc1 hcN hc h2 h3 h4 (D' := D) (fun n hn => .inl hn)
      have hX := hs.eq
      show conW (V.W.put (prevA hd pn) nx) (X.erase cur) = conW V.W X
      rw [f5, hX]
      exact con_cut (alike_put _ (by omega) (by omega) (by omega) (by omega)) (by rw [h2]; exact (wf_marked (N := N) h3 h4 hN).mark.2 (by rw [idx_marked h3 (by omega)]))
    · have e1 : actW V.W (lstAsk hd (.cd o pn cur nx at_)) = (V.W, ⟨V.W.get (prevA hd pn), false⟩) := by simp only [lstAsk, actW, e0, hc, if_false]
      have e2 : lstNx hd V.W X g (.cd o pn cur nx at_) = (X, g) := by simp only [lstNx, e0, hc, if_false]
      rw [e1, e2]
  | _ => exact absurd hsh id
variable {V : Vw} {qs : List (Q Lk)} {F : List Int} {w : Nat} {q : Q Lk}
theorem act_con (hLy : LstLay l S hd) (hN : N ≤ 100) (hI : Inv (lstZ hd N) l S N K V qs F X g) (hq : qs[w]? = some q) (hsh : Shape q) {op : OpT} (hop : pOf op q.pc) :
    (conW (act V (asks (lstM hd) w q.pc)).1.W (nxX (lstZ hd N) V.W X g q.pc).1 = conW V.W X ∧ (isCP q.pc → outP (tell (lstM hd) S q (act V (asks (lstM hd) w q.pc)).2).pc = none)) ∨ (ptP q.pc = none ∧ ptP (tell (lstM hd) S q (act V (asks (lstM hd) w q.pc)).2).pc = some (q.s.made : Int) ∧ outP (tell (lstM hd) S q (act V (asks (lstM hd) w q.pc)).2).pc = some (0, true, 0) ∧ specS (conW V.W X) op = (conW (act V (asks (lstM hd) w q.pc)).1.W (nxX (lstZ hd N) V.W X g q.pc).1, 0, true)) := by
  have hSI : LstSI hd N K V.W X (Dq (lstZ hd N) qs) g := hI.si
  have hcs : ∀ (f v : Int), (act V (.cs .free f v)).1.W = V.W := fun f v => by simp only [act]; split <;> rfl
  obtain ⟨pc, s⟩ := q
  cases pc with
  | at_ k =>
    have ho := own_at hLy hN hI hq
    have ha : act V (asks (lstM hd) w (.at_ k)) = ({ V with W := (actW V.W (lstAsk hd k)).1 }, (actW V.W (lstAsk hd k)).2) := ho.act
    rw [ha]
    exact lst_con hN s s.up hSI ho hsh hop
  | t3 k f lk => exact .inl ⟨by show conW (act V (.cs .free f _)).1.W X = _; rw [hcs], fun h => absurd h id⟩
  | v3 k n f => exact .inl ⟨by show conW (act V (.cs .free f _)).1.W X = _; rw [hcs], fun h => absurd h id⟩
  | w3 k held y gs stay f => exact .inl ⟨by show conW (act V (.cs .free f _)).1.W X = _; rw [hcs], fun h => absurd h id⟩
  | _ => exact .inl ⟨rfl, fun h => absurd h id⟩
end
end Go.Proofs.Ytefagncaepallaa
/- Lists: what is recorded of an operation's point. -/
namespace Go.Proofs.Ytefagncaepallaa
set_option maxRecDepth 100000

def gvNo : Pc Lk → Prop
  | .at_ (.gv _ _ _) => False
  | _ => True
section
variable {hd : Int} {S : Nat}
theorem clr_gv (k : Lk) (s : PsT) (hk : (∃ o, k = .fi o) ∨ ∃ n a, k = .rx n a) : gvNo (clrQ (lstM hd) k s).pc := by
  rcases clr_cases (M := lstM hd) k s with ⟨i, i0, i2, h, e⟩ | ⟨_, e⟩
  · rw [e]; trivial
  · rw [e]
    rcases hk with ⟨o, rfl⟩ | ⟨n, a, rfl⟩ <;> trivial
theorem fi_gv (o : OutT) (s : PsT) : gvNo (norm (lstM hd) (.clr (.fi o)) s).pc := clr_gv _ s (.inl ⟨o, rfl⟩)
theorem exN_gv (o : Int) (f : Fk) (pn cur pt : Int) (s : PsT) : gvNo (norm (lstM hd) (exN o f pn cur pt) s).pc := by
  unfold exN
  cases f with
  | put v n =>
    simp only
    split <;> trivial
  | _ => exact fi_gv _ _
theorem goW_gv (o : Int) (f : Fk) (a b pn cur pt : Int) (s : PsT) : gvNo (norm (lstM hd) (goW o f a b pn cur pt) s).pc := by
  unfold goW
  split
  · exact exN_gv _ _ _ _ _ _
  · trivial
theorem ret_gv {k : Lk} (hk : IsR k) (s : PsT) : gvNo (norm (lstM hd) ((lstM hd).retired k) s).pc := by
  rcases hk with ⟨o, f, a, b, pn, nx, pt, rfl⟩ | ⟨a, rfl⟩
  · exact goW_gv _ _ _ _ _ _ _ _
  · trivial
theorem sift_gv {k : Lk} (hk : IsR k) (held : List Int) (s : PsT) (gs stay : List (Int × Int)) : gvNo (siftQ (lstM hd) k held s gs stay).pc := by
  cases gs with
  | nil => exact ret_gv hk _
  | cons g gs => trivial
theorem scan_gv {k : Lk} (hk : IsR k) (held : List Int) (s : PsT) (cs : List Ad) : gvNo (scanQ (lstM hd) k held s cs).pc := by
  cases cs with
  | nil => exact sift_gv hk _ _ _ _
  | cons c cs => trivial
theorem gv_tell {q : Q Lk} {r : ResT} (hs : Shape q) (hn : ∀ o f a b pn cur w t k, q.pc = .at_ (.lo o f a b pn cur w t k) → ∃ x, f = .fin x) : gvNo (tell (lstM hd) S q r).pc := by
  obtain ⟨pc, s⟩ := q
  cases pc with
  | fin o => trivial
  | clr k => exact absurd hs id
  | at_ k =>
    show gvNo (norm (lstM hd) (lstTell hd k s.made r) s.up).pc
    cases k with
    | ls o f a b pn cur w t =>
      simp only [lstTell]
      split <;> trivial
    | lo o f a b pn cur w t k =>
      obtain ⟨x, rfl⟩ := hn _ _ _ _ _ _ _ _ _ rfl
      simp only [lstTell]
      split
      · trivial
      · split
        · exact goW_gv _ _ _ _ _ _ _ _
        · split
          · exact fi_gv _ _
          · exact exN_gv _ _ _ _ _ _
    | cu o f a b pn cur w =>
      simp only [lstTell]
      split <;> trivial
    | gv o cur pt => exact fi_gv _ _
    | p1 | p2 | p0 => trivial
    | cp o v n pn cur =>
      simp only [lstTell]
      split
      · exact fi_gv _ _
      · trivial
    | cm o pn cur w =>
      simp only [lstTell]
      split <;> trivial
    | cd o pn cur nx a =>
      simp only [lstTell]
      split
      · exact clr_gv _ _ (.inr ⟨_, _, rfl⟩)
      · trivial
    | _ => exact absurd hs id
  | t1 k =>
    obtain ⟨o, v, pn, cur, rfl⟩ := hs
    show gvNo (if (ofW r.val).idx = 0 then norm (lstM hd) _ s.up else _ : Q Lk).pc
    split
    · exact fi_gv _ _
    · trivial
  | t2 k f => trivial
  | t3 k f lk =>
    show gvNo (if r.ok then _ else _ : Q Lk).pc
    split <;> trivial
  | t4 k n b => trivial
  | t5 k n b c =>
    obtain ⟨o, v, pn, cur, rfl⟩ := hs
    trivial
  | g1 k i c => trivial
  | g2 k i c v b =>
    show gvNo (if r.val = s.e i then norm (lstM hd) _ s.up else _ : Q Lk).pc
    split
    · rcases hs with ⟨o, f, rfl⟩ | ⟨o, f, a, pn, cur, rfl, rfl⟩
      · exact goW_gv _ _ _ _ _ _ _ _
      · trivial
    · trivial
  | g3 k i c er => trivial
  | c k i => exact clr_gv _ _ hs.2.2.2
  | v1 k n => trivial
  | v2 k n f => trivial
  | v3 k n f =>
    obtain ⟨a, rfl⟩ := hs
    show gvNo (if r.ok then norm (lstM hd) _ s.up else _ : Q Lk).pc
    split
    · exact fi_gv _ _
    · trivial
  | r1 k n => trivial
  | r2 k n er =>
    show gvNo (if (s.gone.length : Int) + 1 < 2 * (S : Int) then norm (lstM hd) _ _ else _ : Q Lk).pc
    split
    · exact ret_gv hs _
    · exact scan_gv hs _ _ _
  | rs k held c cs => exact scan_gv hs _ _ _
  | s1 k held y gs stay =>
    show gvNo (if held.any (inB (max1 r.val) y.2) = true then siftQ (lstM hd) _ _ _ _ _ else _ : Q Lk).pc
    split
    · exact sift_gv hs _ _ _ _
    · trivial
  | w1 k held y gs stay => trivial
  | w2 k held y gs stay f => trivial
  | w3 k held y gs stay f =>
    show gvNo (if r.ok then siftQ (lstM hd) _ _ _ _ _ else _ : Q Lk).pc
    split
    · exact sift_gv hs _ _ _ _
    · trivial
end
/-! ### What is recorded -/
def RecT (v : Int) (b : Bool) (W : Ws) (o : Int) (f : Fk) (cur : Int) : Prop := (W.nd cur 1 = o → f = .get → v = W.nd cur 2 ∧ b = true) ∧ ((W.nd cur 1 = o → f ≠ .get) → v = 0 ∧ b = false)
def RecF (v : Int) (b : Bool) (W : Ws) (tp : Int) : Pc Lk → Prop
  | .g2 (.gb o f _ _ _ cur) _ _ _ _ => RecT v b W o f cur
  | .at_ (.ls o f _ _ _ cur _ _) => RecT v b W o f cur
  | .at_ (.lo o f _ _ _ cur _ t k) => (tp = t → RecT v b W o f cur) ∧ (tp = k → v = 0 ∧ b = false)
  | _ => v = 0 ∧ b = false
/-- What is recorded fits where the program is. -/
structure RecQ (v : Int) (b : Bool) (W : Ws) (tp : Int) (pc : Pc Lk) : Prop where
  out : ∀ v' b' e, outP pc = some (v', b', e) → (e = 0 → v' = v ∧ b' = b) ∧ (e ≠ 0 → e = 8 ∧ b' = false)
  gv : ∀ o cur pt, pc = .at_ (.gv o cur pt) → v = W.nd cur 2 ∧ b = true
  look : ptP pc = none → tp ∈ looks pc → RecF v b W tp pc
section
variable {hd : Int} {S : Nat} {v : Int} {b : Bool} {W : Ws} {tp : Int}
theorem RecQ.vac {pc : Pc Lk} (hp : ptP pc = none) (hl : looks pc = []) (hg : gvNo pc) : RecQ v b W tp pc := ⟨fun v' b' e h => (by obtain ⟨a, ha⟩ := out_pt h; rw [hp] at ha; cases ha), fun o cur pt h => (by rw [h] at hg; exact absurd hg id), fun _ h => (by rw [hl] at h; simp at h)⟩
theorem RecQ.lk {pc : Pc Lk} (hp : ptP pc = none) (hg : gvNo pc) (h : tp ∈ looks pc → RecF v b W tp pc) : RecQ v b W tp pc := ⟨fun v' b' e h => (by obtain ⟨a, ha⟩ := out_pt h; rw [hp] at ha; cases ha), fun o cur pt h => (by rw [h] at hg; exact absurd hg id), fun _ => h⟩
theorem RecQ.dn {pc : Pc Lk} {a v' : Int} {b' : Bool} {e : Int} (hp : ptP pc = some a) (ho : outP pc = some (v', b', e)) (hg : gvNo pc) (h : (e = 0 → v' = v ∧ b' = b) ∧ (e ≠ 0 → e = 8 ∧ b' = false)) : RecQ v b W tp pc := ⟨fun v2 b2 e2 h2 => (by rw [ho] at h2; cases h2; exact h), fun o cur pt h => (by rw [h] at hg; exact absurd hg id), fun hn => (by rw [hp] at hn; cases hn)⟩
theorem RecQ.fi (o : OutT) (s : PsT) (h : (o.err = 0 → o.val = v ∧ o.is = b) ∧ (o.err ≠ 0 → o.err = 8 ∧ o.is = false)) : RecQ v b W tp (norm (lstM hd) (.clr (.fi o)) s).pc :=
  .dn (norm_p (hd := hd) (.clr (.fi o)) s).1 (norm_p (hd := hd) (.clr (.fi o)) s).2 (fi_gv o s) h
variable {R : List ResT} {out : OutT} {s : PsT} {o : Int} {f : Fk}
theorem exN_rec {pn cur pt : Int} (hf : fpt f = none) (hr : (runQ (lstM hd) S (norm (lstM hd) (exN o f pn cur pt) s) R).pc = .fin out) (h : out.point = pt → v = 0 ∧ b = false) : RecQ v b W out.point (norm (lstM hd) (exN o f pn cur pt) s).pc := by
  unfold exN at hr ⊢
  cases f with
  | get => exact .fi _ _ ⟨fun _ => by have := h (fi_end hr).1; exact ⟨this.1.symm, this.2.symm⟩, fun e => absurd rfl e⟩
  | del => exact .fi _ _ ⟨fun _ => by have := h (fi_end hr).1; exact ⟨this.1.symm, this.2.symm⟩, fun e => absurd rfl e⟩
  | fin a => cases hf
  | put v n =>
    simp only
    split <;> exact .vac rfl rfl trivial
theorem exY_rec {pn cur w pt : Int} (hf : fpt f = none) (hr : (runQ (lstM hd) S (norm (lstM hd) (exY o f pn cur w pt) s) R).pc = .fin out) (h : out.point = pt → RecT v b W o f cur) (hk : W.nd cur 1 = o) : RecQ v b W out.point (norm (lstM hd) (exY o f pn cur w pt) s).pc := by
  have hs := exY_shape (hd := hd) o f pn cur w pt s
  unfold exY at hr hs ⊢
  cases f with
  | get =>
    have h1 := pt_run (hd := hd) (S := S) (a := pt) R hs rfl
    rw [hr] at h1
    have := (h (Option.some.inj h1)).1 hk rfl
    refine ⟨fun v' b' e h => (by cases h), fun o' cur' pt' e => ?_, fun hn => (by cases hn)⟩
    cases e
    exact this
  | del => exact .vac rfl rfl trivial
  | fin a => cases hf
  | put x n =>
    simp only at hr hs ⊢
    by_cases hn : n = 0
    · rw [if_pos hn] at hr ⊢
      have := (h (fi_end hr).1).2 (fun _ e => by cases e)
      exact .fi _ _ ⟨fun _ => ⟨this.1.symm, this.2.symm⟩, fun e => absurd rfl e⟩
    · rw [if_neg hn] at hr hs ⊢
      have h1 := pt_run (hd := hd) (S := S) (a := pt) R hs rfl
      rw [hr] at h1
      have := (h (Option.some.inj h1)).2 (fun _ e => by cases e)
      exact .dn (a := pt) (v' := 0) (b' := false) (e := 0) rfl rfl trivial ⟨fun _ => ⟨this.1.symm, this.2.symm⟩, fun e => absurd rfl e⟩
theorem goW_rec {a b' pn cur pt : Int} (hf : fpt f = none) (hr : (runQ (lstM hd) S (norm (lstM hd) (goW o f a b' pn cur pt) s) R).pc = .fin out) (h : out.point = pt → v = 0 ∧ b = false) : RecQ v b W out.point (norm (lstM hd) (goW o f a b' pn cur pt) s).pc := by
  unfold goW at hr ⊢
  by_cases hc : cur = 0
  · rw [if_pos hc] at hr ⊢
    exact exN_rec hf hr h
  · rw [if_neg hc]
    exact .vac hf rfl trivial
theorem ret_rec {k : Lk} (hk : IsR k) (hp : kpt k = none) (hr : (runQ (lstM hd) S (norm (lstM hd) ((lstM hd).retired k) s) R).pc = .fin out) (h : ∀ o f a b' pn nx pt, k = .rr o f a b' pn nx pt → out.point = pt → v = 0 ∧ b = false) : RecQ v b W out.point (norm (lstM hd) ((lstM hd).retired k) s).pc := by
  rcases hk with ⟨o, f, a, b', pn, nx, pt, rfl⟩ | ⟨a, rfl⟩
  · exact goW_rec hp hr (h _ _ _ _ _ _ _ rfl)
  · cases hp
theorem rr_rec {k : Lk} (hk : IsR k) (hp : kpt k = none) (h : ∀ o f a b' pn nx pt, k = .rr o f a b' pn nx pt → tp = pt → v = 0 ∧ b = false) {n : Int} (hl : tp ∈ looks (.r1 k n)) : v = 0 ∧ b = false := by
  rcases hk with ⟨o, f, a, b', pn, nx, pt, rfl⟩ | ⟨a, rfl⟩
  · exact h _ _ _ _ _ _ _ rfl (by simpa [looks] using hl)
  · cases hp
theorem sift_rec {k : Lk} (hk : IsR k) (hp : kpt k = none) {held : List Int} {gs stay : List (Int × Int)} (hr : (runQ (lstM hd) S (siftQ (lstM hd) k held s gs stay) R).pc = .fin out) (h : ∀ o f a b' pn nx pt, k = .rr o f a b' pn nx pt → out.point = pt → v = 0 ∧ b = false) : RecQ v b W out.point (siftQ (lstM hd) k held s gs stay).pc := by
  cases gs with
  | nil => exact ret_rec hk hp hr h
  | cons g gs =>
    refine .lk hp trivial fun hl => rr_rec hk hp h (n := 0) ?_
    rcases hk with ⟨o, f, a, b', pn, nx, pt, rfl⟩ | ⟨a, rfl⟩
    · exact hl
    · cases hp
theorem scan_rec {k : Lk} (hk : IsR k) (hp : kpt k = none) {held : List Int} {cs : List Ad} (hr : (runQ (lstM hd) S (scanQ (lstM hd) k held s cs) R).pc = .fin out) (h : ∀ o f a b' pn nx pt, k = .rr o f a b' pn nx pt → out.point = pt → v = 0 ∧ b = false) : RecQ v b W out.point (scanQ (lstM hd) k held s cs).pc := by
  cases cs with
  | nil => exact sift_rec hk hp hr h
  | cons c cs =>
    refine .lk hp trivial fun hl => rr_rec hk hp h (n := 0) ?_
    rcases hk with ⟨o, f, a, b', pn, nx, pt, rfl⟩ | ⟨a, rfl⟩
    · exact hl
    · cases hp
end
section
variable {hd : Int} {l : LayT} {S N K : Nat} {V : Vw} {qs : List (Q Lk)} {F X : List Int} {g : LstG} {w : Nat} {q : Q Lk} {R : List ResT} {out : OutT} {v : Int} {b : Bool}
/-- Others' steps leave what is recorded right. -/
theorem rec_stab {W' : Ws} {X' : List Int} {D : Int → Prop} {P : Int → Int → Prop} {mi : List Int} {s : PsT} {tp : Int} (hE : Evo V.W W' X X' D mi) (hP : ∀ i n, P i n → n ∈ X ∨ D n) {pc : Pc Lk} (hl : LocPc (lstZ hd N) l S N V X g P s pc) (h : RecQ v b V.W tp pc) : RecQ v b W' tp pc := by
  have rt : ∀ {o f cur}, cur ∈ X ∨ D cur → RecT v b V.W o f cur → RecT v b W' o f cur := fun hc h => by
    unfold RecT at h ⊢
    rw [(hE.key _ hc).1, (hE.key _ hc).2]
    exact h
  refine ⟨h.out, fun o cur pt e => ?_, fun hp ht => ?_⟩
  · subst e
    obtain ⟨_, _, ⟨i, hi⟩, _⟩ : lstKL N V.W X P (.gv o cur pt) := hl.1
    have := h.gv o cur pt rfl
    rw [(hE.key cur (hP _ _ hi)).2]
    exact this
  · have h := h.look hp ht
    cases pc with
    | at_ k =>
      have hk : lstKL N V.W X P k := hl.1
      cases k with
      | ls o f a b pn cur w t => exact rt (hP _ _ hk.1.pc) h
      | lo o f a b pn cur w t k => exact ⟨fun e => rt (hP _ _ hk.1.pc) (h.1 e), h.2⟩
      | _ => exact h
    | g2 k i c v b =>
      have hk : lstKL N V.W X (offP P i) k := hl.1
      cases k with
      | gb o f a b' pn cur => exact rt (hP _ _ hk.pc.2) h
      | _ => exact h
    | _ => exact h
/-- One's own steps that are no point leave it right. -/
theorem rec_own (hf : q.pc.asking) (hsh : Shape q) (hr : (runQ (lstM hd) S (tell (lstM hd) S q (act V (asks (lstM hd) w q.pc)).2) R).pc = .fin out) (hne : out.point ≠ q.s.made ∨ out.err ≠ 0)
    (hlk : ptP (tell (lstM hd) S q (act V (asks (lstM hd) w q.pc)).2).pc = none → out.point ∈ looks (tell (lstM hd) S q (act V (asks (lstM hd) w q.pc)).2).pc → out.err = 0) (h : RecQ v b V.W out.point q.pc) : RecQ v b (act V (asks (lstM hd) w q.pc)).1.W out.point (tell (lstM hd) S q (act V (asks (lstM hd) w q.pc)).2).pc := by
  have hsh' := shape_tell (hd := hd) (S := S) (r := (act V (asks (lstM hd) w q.pc)).2) hsh
  have hcs : ∀ (f v : Int), (act V (.cs .free f v)).1.W = V.W := fun f v => by simp only [act]; split <;> rfl
  -- the point is no access of now
  have hM : ptP (tell (lstM hd) S q (act V (asks (lstM hd) w q.pc)).2).pc = none → out.point ∈ looks (tell (lstM hd) S q (act V (asks (lstM hd) w q.pc)).2).pc → out.point ≠ q.s.made := fun h1 h2 h3 => by
    have := hlk h1 h2
    rcases hne with hne | hne
    · exact hne h3
    · exact hne this
  cases hp : ptP q.pc with
  | some x =>
    have h1 := pt_tell (hd := hd) (S := S) (r := (act V (asks (lstM hd) w q.pc)).2) hsh hp
    by_cases hg : ∃ o cur pt, q.pc = .at_ (.gv o cur pt)
    · obtain ⟨o, cur, pt, e⟩ := hg
      have hv := h.gv o cur pt e
      obtain ⟨pc, s⟩ := q
      simp only at e
      subst e
      exact .fi ⟨V.W.nd cur 2, true, 0, pt, []⟩ s.up ⟨fun _ => ⟨hv.1.symm, hv.2.symm⟩, fun e => absurd rfl e⟩
    · have h2 := h1.2 (fun o cur pt e => hg ⟨o, cur, pt, e⟩)
      have hgn := gv_tell (hd := hd) (S := S) (r := (act V (asks (lstM hd) w q.pc)).2) hsh (fun o f a b pn cur w' t k e => by
        rw [e] at hp
        cases f with
        | fin a => exact ⟨a, rfl⟩
        | _ => cases hp)
      exact ⟨by rw [h2]; exact h.out, fun o cur pt e => (by rw [e] at hgn; exact absurd hgn id), fun hn => (by rw [h1.1] at hn; cases hn)⟩
  | none =>
    obtain ⟨pc, s⟩ := q
    cases pc with
    | fin o => exact absurd hf id
    | clr k => exact absurd hf id
    | at_ k =>
      cases k with
      | ls o f a b' pn cur w' t =>
        have e : tell (lstM hd) S ⟨.at_ (.ls o f a b' pn cur w' t), s⟩ (act V (asks (lstM hd) w (.at_ (.ls o f a b' pn cur w' t)))).2 = norm (lstM hd) (if (act V (.ld (prevA hd pn))).2.val = plainW cur then .at_ (.lo o f a b' pn cur w' t s.made) else anew hd o f) s.up := rfl
        rw [e] at hM ⊢
        by_cases hc : (act V (.ld (prevA hd pn))).2.val = plainW cur
        · rw [if_pos hc] at hM ⊢
          refine .lk hp trivial fun ht => ⟨fun e => ?_, fun e => absurd e (hM hp ht)⟩
          exact h.look hp (by rw [e]; simp [looks])
        · rw [if_neg hc]
          exact .vac hp rfl trivial
      | lo o f a b' pn cur w' t k =>
        have e : tell (lstM hd) S ⟨.at_ (.lo o f a b' pn cur w' t k), s⟩ (act V (asks (lstM hd) w (.at_ (.lo o f a b' pn cur w' t k)))).2 = norm (lstM hd) (if (ofW w').mark then .at_ (.cu o f a b' pn cur w') else if V.W.nd cur 1 < o then goW o f b' (3 - a - b') cur (ofW w').idx t else if V.W.nd cur 1 = o then exY o f pn cur w' t else exN o f pn cur k) s.up := rfl
        have hlo : out.point = t ∨ out.point = k → (out.point = t → RecT v b V.W o f cur) ∧ (out.point = k → v = 0 ∧ b = false) := fun e => h.look hp (by simpa [looks] using e)
        rw [e] at hr ⊢
        by_cases hm : (ofW w').mark = true
        · rw [if_pos hm]
          exact .vac hp rfl trivial
        · rw [if_neg hm] at hr ⊢
          by_cases hk1 : V.W.nd cur 1 < o
          · rw [if_pos hk1] at hr ⊢
            exact goW_rec hp hr fun e => ((hlo (.inl e)).1 e).2 (fun e2 => by omega)
          · rw [if_neg hk1] at hr ⊢
            by_cases hk2 : V.W.nd cur 1 = o
            · rw [if_pos hk2] at hr ⊢
              exact exY_rec hp hr (fun e => (hlo (.inl e)).1 e) hk2
            · rw [if_neg hk2] at hr ⊢
              exact exN_rec hp hr fun e => (hlo (.inr e)).2 e
      | cu o f a b' pn cur w' =>
        have e : tell (lstM hd) S ⟨.at_ (.cu o f a b' pn cur w'), s⟩ (act V (asks (lstM hd) w (.at_ (.cu o f a b' pn cur w')))).2 = norm (lstM hd) (if (act V (lstAsk hd (.cu o f a b' pn cur w'))).2.ok then .r1 (.rr o f a b' pn (ofW w').idx s.made) cur else anew hd o f) s.up := rfl
        rw [e] at hM ⊢
        by_cases hc : (act V (lstAsk hd (.cu o f a b' pn cur w'))).2.ok = true
        · rw [if_pos hc] at hM ⊢
          exact .lk hp trivial fun ht => absurd (by simpa [norm, looks] using ht) (hM hp ht)
        · rw [if_neg hc]
          exact .vac hp rfl trivial
      | gv o cur pt => cases hp
      | p1 o x n pn cur => exact .vac rfl rfl trivial
      | p2 o x n pn cur => exact .vac rfl rfl trivial
      | p0 o x n pn cur => exact .vac rfl rfl trivial
      | cp o x n pn cur =>
        have e : tell (lstM hd) S ⟨.at_ (.cp o x n pn cur), s⟩ (act V (asks (lstM hd) w (.at_ (.cp o x n pn cur)))).2 = norm (lstM hd) (if (act V (lstAsk hd (.cp o x n pn cur))).2.ok then .clr (.fi (okO s.made)) else anew hd o (.put x n)) s.up := rfl
        rw [e] at hr ⊢
        by_cases hc : (act V (lstAsk hd (.cp o x n pn cur))).2.ok = true
        · rw [if_pos hc] at hr
          obtain ⟨e1, e2⟩ := fi_end hr
          rcases hne with hne | hne
          · exact absurd e1 hne
          · exact absurd e2 hne
        · rw [if_neg hc]
          exact .vac rfl rfl trivial
      | cm o pn cur w' =>
        have e : tell (lstM hd) S ⟨.at_ (.cm o pn cur w'), s⟩ (act V (asks (lstM hd) w (.at_ (.cm o pn cur w')))).2 = norm (lstM hd) (if (act V (lstAsk hd (.cm o pn cur w'))).2.ok then .at_ (.cd o pn cur (ofW w').idx s.made) else anew hd o .del) s.up := rfl
        rw [e] at hr hsh' ⊢
        by_cases hc : (act V (lstAsk hd (.cm o pn cur w'))).2.ok = true
        · rw [if_pos hc] at hr hsh'
          have e1 := pt_run (hd := hd) (S := S) (a := (s.made : Int)) R hsh' rfl
          have e2 := out_run (hd := hd) (S := S) (x := (0, true, 0)) R hsh' rfl
          rw [hr] at e1 e2
          rcases hne with hne | hne
          · exact absurd (Option.some.inj e1) hne
          · exact absurd (congrArg (·.2.2) (Option.some.inj e2)) hne
        · rw [if_neg hc]
          exact .vac rfl rfl trivial
      | cd o pn cur nx a => cases hp
      | _ => exact absurd hsh id
    | t1 k =>
      obtain ⟨o, x, pn, cur, rfl⟩ := hsh
      show RecQ v b V.W out.point (if (ofW V.fr).idx = 0 then norm (lstM hd) (.clr (.fi ⟨0, false, 8, s.made, []⟩)) s.up else _ : Q Lk).pc
      split
      · exact .fi _ _ ⟨fun e => (by cases e), fun _ => ⟨rfl, rfl⟩⟩
      · exact .vac rfl rfl trivial
    | t2 k f => obtain ⟨o, x, pn, cur, rfl⟩ := hsh; exact .vac rfl rfl trivial
    | t3 k f lk =>
      obtain ⟨o, x, pn, cur, rfl⟩ := hsh
      show RecQ v b _ out.point (if (act V (asks (lstM hd) w (.t3 (.tk o x pn cur) f lk))).2.ok then _ else _ : Q Lk).pc
      split <;> exact .vac rfl rfl trivial
    | t4 k n b' => obtain ⟨o, x, pn, cur, rfl⟩ := hsh; exact .vac rfl rfl trivial
    | t5 k n b' c => obtain ⟨o, x, pn, cur, rfl⟩ := hsh; exact .vac rfl rfl trivial
    | g1 k i c => exact .lk hp trivial fun ht => absurd (by simpa [tell, looks] using ht) (hM hp ht)
    | g2 k i c x b' =>
      have e : tell (lstM hd) S ⟨.g2 k i c x b', s⟩ (act V (asks (lstM hd) w (.g2 k i c x b'))).2 = if V.er = s.e i then norm (lstM hd) ((lstM hd).guarded k x b') s.up else ⟨.g3 k i c V.er, s.up⟩ := rfl
      rw [e] at hr ⊢
      by_cases he : V.er = s.e i
      · rw [if_pos he] at hr ⊢
        rcases hsh with ⟨o, f, rfl⟩ | ⟨o, f, a, pn, cur, rfl, rfl⟩
        · exact goW_rec (o := o) (f := f) (a := 0) (b' := 1) (pn := 0) (cur := (ofW x).idx) (pt := b') hp hr fun e => h.look hp (by rw [e]; simp [looks])
        · exact .lk hp trivial fun ht => h.look hp ht
      · rw [if_neg he]
        exact .vac hp rfl trivial
    | g3 k i c er => exact .vac hp rfl trivial
    | c k i =>
      rcases hsh.2.2.2 with ⟨o, rfl⟩ | ⟨n, a, rfl⟩ <;> cases hp
    | v1 k n => obtain ⟨a, rfl⟩ := hsh; cases hp
    | v2 k n f => obtain ⟨a, rfl⟩ := hsh; cases hp
    | v3 k n f => obtain ⟨a, rfl⟩ := hsh; cases hp
    | r1 k n =>
      refine .lk hp trivial fun hl => h.look hp ?_
      rcases hsh with ⟨o, f, a, b', pn, nx, pt, rfl⟩ | ⟨a, rfl⟩
      · exact hl
      · cases hp
    | r2 k n er =>
      have hA : ∀ o f a b' pn nx pt, k = .rr o f a b' pn nx pt → out.point = pt → v = 0 ∧ b = false := fun o f a b' pn nx pt e e2 => h.look hp (by rw [e, e2]; simp [looks])
      have e : tell (lstM hd) S ⟨.r2 k n er, s⟩ (act V (asks (lstM hd) w (.r2 k n er))).2 = if (s.gone.length : Int) + 1 < 2 * (S : Int) then norm (lstM hd) ((lstM hd).retired k) { s.up with gone := s.gone ++ [(n, er)] } else scanQ (lstM hd) k [] { s.up with gone := s.gone ++ [(n, er)] } (resvsA 0 S) := rfl
      rw [e] at hr ⊢
      by_cases hc : (s.gone.length : Int) + 1 < 2 * (S : Int)
      · rw [if_pos hc] at hr ⊢
        exact ret_rec hsh hp hr hA
      · rw [if_neg hc] at hr ⊢
        exact scan_rec hsh hp hr hA
    | rs k held c cs => exact scan_rec hsh hp hr fun o f a b' pn nx pt e e2 => h.look hp (by rw [e, e2]; simp [looks])
    | s1 k held y gs stay =>
      have hA : ∀ o f a b' pn nx pt, k = .rr o f a b' pn nx pt → out.point = pt → v = 0 ∧ b = false := fun o f a b' pn nx pt e e2 => h.look hp (by rw [e, e2]; simp [looks])
      have e : tell (lstM hd) S ⟨.s1 k held y gs stay, s⟩ (act V (asks (lstM hd) w (.s1 k held y gs stay))).2 = if held.any (inB (max1 (V.bi y.1)) y.2) = true then siftQ (lstM hd) k held s.up gs (stay ++ [y]) else ⟨.w1 k held y gs stay, s.up⟩ := rfl
      rw [e] at hr ⊢
      by_cases hc : held.any (inB (max1 (V.bi y.1)) y.2) = true
      · rw [if_pos hc] at hr ⊢
        exact sift_rec hsh hp hr hA
      · rw [if_neg hc]
        refine .lk hp trivial fun hl => h.look hp ?_
        rcases hsh with ⟨o, f, a, b', pn, nx, pt, rfl⟩ | ⟨a, rfl⟩
        · exact hl
        · cases hp
    | w1 k held y gs stay =>
      refine .lk hp trivial fun hl => h.look hp ?_
      rcases hsh with ⟨o, f, a, b', pn, nx, pt, rfl⟩ | ⟨a, rfl⟩
      · exact hl
      · cases hp
    | w2 k held y gs stay f =>
      refine .lk hp trivial fun hl => h.look hp ?_
      rcases hsh with ⟨o, f, a, b', pn, nx, pt, rfl⟩ | ⟨a, rfl⟩
      · exact hl
      · cases hp
    | w3 k held y gs stay f =>
      have hA : ∀ o f a b' pn nx pt, k = .rr o f a b' pn nx pt → out.point = pt → v = 0 ∧ b = false := fun o f a b' pn nx pt e e2 => h.look hp (by rw [e, e2]; simp [looks])
      have e : tell (lstM hd) S ⟨.w3 k held y gs stay f, s⟩ (act V (asks (lstM hd) w (.w3 k held y gs stay f))).2 = if (act V (asks (lstM hd) w (.w3 k held y gs stay f))).2.ok then siftQ (lstM hd) k held s.up gs stay else ⟨.w1 k held y gs stay, s.up⟩ := rfl
      rw [e] at hr ⊢
      by_cases hc : (act V (asks (lstM hd) w (.w3 k held y gs stay f))).2.ok = true
      · rw [if_pos hc] at hr ⊢
        exact sift_rec hsh hp hr hA
      · rw [if_neg hc]
        refine .lk hp trivial fun hl => h.look hp ?_
        rcases hsh with ⟨o, f', a, b', pn, nx, pt, rfl⟩ | ⟨a, rfl⟩
        · exact hl
        · cases hp
end
end Go.Proofs.Ytefagncaepallaa
/- Lists: an access that is an operation's point does what the operation does. -/
namespace Go.Proofs.Ytefagncaepallaa
set_option maxRecDepth 100000

/-- A step that brings nothing new: no point but an old look, and no new look. -/
structure Old (L : List Int) (q' : Q Lk) : Prop where
  pt : ptP q'.pc = none ∨ ∃ t ∈ L, ptP q'.pc = some t
  lk : ∀ t ∈ looks q'.pc, t ∈ L
section
variable {hd : Int} {S : Nat} {L : List Int} {s : PsT} {o : Int} {f : Fk}
theorem Old.none {q' : Q Lk} (h : ptP q'.pc = Option.none) (hl : ∀ t ∈ looks q'.pc, t ∈ L) : Old L q' := ⟨.inl h, hl⟩
theorem Old.fi {o : OutT} (h : o.point ∈ L) : Old L (norm (lstM hd) (.clr (.fi o)) s) := ⟨.inr ⟨_, h, (norm_p (hd := hd) (.clr (.fi o)) s).1⟩, fun t ht => by rw [show norm (lstM hd) (.clr (.fi o)) s = clrQ (lstM hd) (.fi o) s from rfl, clr_l s (.inl ⟨o, rfl⟩)] at ht; simp at ht⟩
theorem exN_old {pn cur pt : Int} (hf : fpt f = none) (h : pt ∈ L) : Old L (norm (lstM hd) (exN o f pn cur pt) s) := by
  unfold exN
  cases f with
  | get => exact .fi h
  | del => exact .fi h
  | fin a => cases hf
  | put v n =>
    simp only
    split <;> exact .none rfl (by simp [norm, looks])
theorem exY_old {pn cur w pt : Int} (hf : fpt f = none) (h : pt ∈ L) : Old L (norm (lstM hd) (exY o f pn cur w pt) s) := by
  unfold exY
  cases f with
  | get => exact ⟨.inr ⟨pt, h, rfl⟩, by simp [norm, looks]⟩
  | del => exact .none rfl (by simp [norm, looks])
  | fin a => cases hf
  | put v n =>
    simp only
    split
    · exact .fi h
    · exact ⟨.inr ⟨pt, h, rfl⟩, by simp [norm, looks]⟩
theorem goW_old {a b pn cur pt : Int} (hf : fpt f = none) (h : pt ∈ L) : Old L (norm (lstM hd) (goW o f a b pn cur pt) s) := by
  unfold goW
  split
  · exact exN_old hf h
  · exact .none hf (by simp [norm, looks])
theorem ret_old {k : Lk} (hk : IsR k) (hp : kpt k = none) (h : ∀ n, ∀ t ∈ looks (.r1 k n), t ∈ L) : Old L (norm (lstM hd) ((lstM hd).retired k) s) := by
  rcases hk with ⟨o, f, a, b, pn, nx, pt, rfl⟩ | ⟨a, rfl⟩
  · exact goW_old hp (h 0 pt (by simp [looks]))
  · cases hp
theorem sift_old {k : Lk} (hk : IsR k) (hp : kpt k = none) (h : ∀ n, ∀ t ∈ looks (.r1 k n), t ∈ L) (held : List Int) (gs stay : List (Int × Int)) : Old L (siftQ (lstM hd) k held s gs stay) := by
  cases gs with
  | nil => exact ret_old hk hp h
  | cons y gs =>
    refine .none hp fun t ht => h 0 t ?_
    rcases hk with ⟨o, f, a, b, pn, nx, pt, rfl⟩ | ⟨a, rfl⟩
    · exact ht
    · cases hp
theorem scan_old {k : Lk} (hk : IsR k) (hp : kpt k = none) (h : ∀ n, ∀ t ∈ looks (.r1 k n), t ∈ L) (held : List Int) (cs : List Ad) : Old L (scanQ (lstM hd) k held s cs) := by
  cases cs with
  | nil => exact sift_old hk hp h _ _ _
  | cons c cs =>
    refine .none hp fun t ht => h 0 t ?_
    rcases hk with ⟨o, f, a, b, pn, nx, pt, rfl⟩ | ⟨a, rfl⟩
    · exact ht
    · cases hp
/-- Such a step is no point. -/
theorem Old.no {q' : Q Lk} {R : List ResT} {out : OutT} {m : Nat} (h : Old L q') (hs : Shape q') (hr : (runQ (lstM hd) S q' R).pc = .fin out) (hL : ∀ t ∈ L, t < m) (hm : q'.s.made = m + 1) : out.point ≠ m := by
  intro e
  rcases h.pt with hp | ⟨t, ht, hp⟩
  · rcases pt_later R hs hp hr with h1 | h1
    · have := hL _ (h.lk _ h1)
      omega
    · omega
  · have := pt_run (hd := hd) (S := S) R hs hp
    rw [hr] at this
    have := Option.some.inj this
    have := hL t ht
    omega
end
section
variable {hd : Int} {l : LayT} {S N K : Nat} {V : Vw} {qs : List (Q Lk)} {F X : List Int} {g : LstG} {w : Nat} {q : Q Lk} {R : List ResT} {out : OutT} {op : OpT}
theorem fGD_kind {f : Fk} (h : fGD f) (ho : fOf op f) : op.kind = 1 ∨ op.kind = 3 := by
  cases f with
  | get => exact .inl ho
  | del => exact .inr ho
  | _ => exact absurd h id
theorem eff_own (hLy : LstLay l S hd) (hN : N ≤ 100) (hI : Inv (lstZ hd N) l S N K V qs F X g) (hq : qs[w]? = some q) (hf : q.pc.asking) (hsh : Shape q) (hw : LkW q) (hop : pOf op q.pc) (hr : (runQ (lstM hd) S (tell (lstM hd) S q (act V (asks (lstM hd) w q.pc)).2) R).pc = .fin out) (h1 : out.point = q.s.made) (h2 : out.err = 0)
    (hlk : ptP (tell (lstM hd) S q (act V (asks (lstM hd) w q.pc)).2).pc = none → out.point ∈ looks (tell (lstM hd) S q (act V (asks (lstM hd) w q.pc)).2).pc → LookF (act V (asks (lstM hd) w q.pc)).1.W (nxX (lstZ hd N) V.W X g q.pc).1 out.point (tell (lstM hd) S q (act V (asks (lstM hd) w q.pc)).2).pc) :
    ∃ v b, specS (conW V.W X) op = (conW (act V (asks (lstM hd) w q.pc)).1.W (nxX (lstZ hd N) V.W X g q.pc).1, v, b) ∧ RecQ v b (act V (asks (lstM hd) w q.pc)).1.W out.point (tell (lstM hd) S q (act V (asks (lstM hd) w q.pc)).2).pc := by
  have hSI : LstSI hd N K V.W X (Dq (lstZ hd N) qs) g := hI.si
  have hsh' := shape_tell (hd := hd) (S := S) (r := (act V (asks (lstM hd) w q.pc)).2) hsh
  have hmade := made_tell (M := lstM hd) (S := S) (r := (act V (asks (lstM hd) w q.pc)).2) hf
  have hloc := hI.loc w _ hq
  have hcon := act_con hLy hN hI hq hsh hop
  rcases hcon with ⟨same, hC⟩ | ⟨_, p1, o1, sp⟩
  rotate_left
  · refine ⟨0, true, sp, ⟨fun v' b' e h => ?_, fun o cur pt e => (by rw [e] at o1; cases o1), fun hn => (by rw [p1] at hn; cases hn)⟩⟩
    rw [o1] at h
    cases h
    exact ⟨fun _ => ⟨rfl, rfl⟩, fun e => absurd rfl e⟩
  cases hp : ptP q.pc with
  | some x =>
    have e := pt_run (hd := hd) (S := S) R hsh' (pt_tell (hd := hd) (S := S) (r := (act V (asks (lstM hd) w q.pc)).2) hsh hp).1
    rw [hr] at e
    have := Option.some.inj e
    have := hw.pt x hp
    omega
  | none =>
    have hL : ∀ t ∈ looks q.pc, t < q.s.made := fun t ht => (hw.lk hp t ht).2
    have no : Old (looks q.pc) (tell (lstM hd) S q (act V (asks (lstM hd) w q.pc)).2) → ∃ v b, specS (conW V.W X) op = (conW V.W X, v, b) ∧ RecQ v b (act V (asks (lstM hd) w q.pc)).1.W out.point (tell (lstM hd) S q (act V (asks (lstM hd) w q.pc)).2).pc := fun h => absurd h1 (h.no hsh' hr hL hmade)
    have hlate : ptP (tell (lstM hd) S q (act V (asks (lstM hd) w q.pc)).2).pc = none → out.point ∈ looks (tell (lstM hd) S q (act V (asks (lstM hd) w q.pc)).2).pc := fun h => by
      rcases pt_later R hsh' h hr with h | h
      · exact h
      · omega
    have hPX : ∀ i n, Pr (lstZ hd N) V X qs w q.s i n → n ∈ X ∨ Dq (lstZ hd N) qs n := fun i n h => pr_in h
    have hbXD : ∀ n, n ∈ X ∨ Dq (lstZ hd N) qs n → 1 ≤ n ∧ n ≤ (N : Int) := fun n h => h.elim (fun h => hI.inX h) fun h => (hI.dq h).1
    rw [same]
    obtain ⟨pc, s⟩ := q
    have hpc := hloc.pc
    cases pc with
    | fin o => exact absurd hf id
    | clr k => exact absurd hf id
    | at_ k =>
      have ho := own_at hLy hN hI hq
      have ha : act V (asks (lstM hd) w (.at_ k)) = ({ V with W := (actW V.W (lstAsk hd k)).1 }, (actW V.W (lstAsk hd k)).2) := ho.act
      have hk := ho.kl
      cases k with
      | ls o f a b pn cur w' t =>
        obtain ⟨k1, k2, k3, k4⟩ := hk
        obtain ⟨rfl, hof⟩ := hop
        rw [ha] at hlate hlk hsh' hr ⊢
        have e : tell (lstM hd) S ⟨.at_ (.ls op.a f a b pn cur w' t), s⟩ (actW V.W (lstAsk hd (.ls op.a f a b pn cur w' t))).2 = norm (lstM hd) (if V.W.get (prevA hd pn) = plainW cur then .at_ (.lo op.a f a b pn cur w' t s.made) else anew hd op.a f) s.up := rfl
        rw [e] at hlate hlk hsh' hr ⊢
        by_cases hc : V.W.get (prevA hd pn) = plainW cur
        · rw [if_pos hc] at hlate hlk ⊢
          have hl := hlk hp (hlate hp)
          obtain ⟨l1, l2⟩ := hl.2 h1
          have hc1 := k1.c1
          have hcN := k1.cN
          rw [plainW_eq (show 0 ≤ cur by omega) (by omega)] at hc
          obtain ⟨A, B, hs⟩ := stand hSI hN ho.nd (k1.pp.at_ ho.hP) hbXD hc (by omega) hcN
          have sp := spec_out (op := op) (W := V.W) rfl (fGD_kind l2 hof) (below hSI hs k1.kp) (above hSI hs (.inr l1))
          rw [← hs.eq] at sp
          refine ⟨0, false, sp, .lk hp trivial fun _ => ⟨fun e => ?_, fun _ => ⟨rfl, rfl⟩⟩⟩
          have := (hw.lk hp t (by simp [looks])).2
          have h1 : out.point = (s.made : Int) := h1
          have this : t < (s.made : Int) := this
          omega
        · rw [if_neg hc] at hlate
          have := hlate hp
          simp [norm, anew, looks] at this
      | lo o f a b pn cur w' t k =>
        refine no ?_
        show Old _ (norm (lstM hd) (if (ofW w').mark then .at_ (.cu o f a b pn cur w') else if V.W.nd cur 1 < o then goW o f b (3 - a - b) cur (ofW w').idx t else if V.W.nd cur 1 = o then exY o f pn cur w' t else exN o f pn cur k) s.up)
        split
        · exact .none hp (by simp [norm, looks])
        · split
          · exact goW_old hp (by simp [looks])
          · split
            · exact exY_old hp (by simp [looks])
            · exact exN_old hp (by simp [looks])
      | cu o f a b pn cur w' =>
        obtain ⟨k1, k2, k3, k4, k5⟩ := hk
        obtain ⟨rfl, hof⟩ := hop
        rw [ha] at hlate hlk hsh' hr ⊢
        have hx := k2.mark.1 k4
        have hi := ofW_idx w'
        have hle := k2.2
        have hc1 := k1.c1
        have hcN := k1.cN
        have e0 : plainW cur = cur := plainW_eq (by omega) (by omega)
        by_cases hc : V.W.get (prevA hd pn) = cur
        · have e1 : (actW V.W (lstAsk hd (.cu op.a f a b pn cur w'))).2 = ⟨cur, true⟩ := by simp only [lstAsk, actW, e0, hc, if_true]
          have e : tell (lstM hd) S ⟨.at_ (.cu op.a f a b pn cur w'), s⟩ ⟨cur, true⟩ = ⟨.r1 (.rr op.a f a b pn (ofW w').idx s.made) cur, s.up⟩ := rfl
          rw [e1, e] at hlate hlk ⊢
          obtain ⟨l1, l2⟩ := hlk hp (hlate hp)
          obtain ⟨_, _, _, _, A, B, hs, f5, f6⟩ := unlink_si hSI hN ho.nd ho.dx hbXD (k1.pp.at_ ho.hP) hc1 hcN hc (by rw [k5]; exact hx) hi.1 hle (D' := Dq (lstZ hd N) qs) (fun n hn => .inl hn)
          have hB : B = [] := by
            cases B with
            | nil => rfl
            | cons y B =>
              have := hSI.rng y (by rw [hs.eq]; simp)
              simp only [List.headD_cons] at f6
              omega
          subst hB
          -- what is left is below the order number; the marked one is no part of it
          have hA := below hSI hs k1.kp
          have e9 : conW V.W X = conW V.W A := by
            have := con_cut (A := A) (B := []) (n := cur) (alike_refl V.W (A ++ [])) (by rw [k5]; exact k4)
            rw [List.append_nil] at this
            rw [hs.eq, this]
          have sp := spec_out (op := op) (W := V.W) (B := []) rfl (fGD_kind l2 hof) hA (by simp)
          rw [List.append_nil, ← e9] at sp
          exact ⟨0, false, sp, .lk hp trivial fun _ => ⟨rfl, rfl⟩⟩
        · have e1 : (actW V.W (lstAsk hd (.cu op.a f a b pn cur w'))).2 = ⟨V.W.get (prevA hd pn), false⟩ := by simp only [lstAsk, actW, e0, hc, if_false]
          have e : tell (lstM hd) S ⟨.at_ (.cu op.a f a b pn cur w'), s⟩ ⟨V.W.get (prevA hd pn), false⟩ = norm (lstM hd) (anew hd op.a f) s.up := rfl
          rw [e1, e] at hlate
          have := hlate hp
          simp [norm, anew, looks] at this
      | gv o cur pt => cases hp
      | p1 o v n pn cur => exact no (.none rfl (by simp [tell, norm, lstM, lstTell, looks]))
      | p2 o v n pn cur => exact no (.none rfl (by simp [tell, norm, lstM, lstTell, looks]))
      | p0 o v n pn cur => exact no (.none rfl (by simp [tell, norm, lstM, lstTell, looks]))
      | cp o v n pn cur =>
        have hC := hC trivial
        have e : tell (lstM hd) S ⟨.at_ (.cp o v n pn cur), s⟩ (act V (asks (lstM hd) w (.at_ (.cp o v n pn cur)))).2 = norm (lstM hd) (if (act V (lstAsk hd (.cp o v n pn cur))).2.ok then .clr (.fi (okO s.made)) else anew hd o (.put v n)) s.up := rfl
        refine no ?_
        rw [e] at hC ⊢
        by_cases hc : (act V (lstAsk hd (.cp o v n pn cur))).2.ok = true
        · rw [if_pos hc] at hC
          have := (norm_p (hd := hd) (.clr (.fi (okO s.made))) s.up).2
          rw [hC] at this
          cases this
        · rw [if_neg hc]
          exact .none rfl (by simp [norm, anew, looks])
      | cm o pn cur w' =>
        have hC := hC trivial
        have e : tell (lstM hd) S ⟨.at_ (.cm o pn cur w'), s⟩ (act V (asks (lstM hd) w (.at_ (.cm o pn cur w')))).2 = norm (lstM hd) (if (act V (lstAsk hd (.cm o pn cur w'))).2.ok then .at_ (.cd o pn cur (ofW w').idx s.made) else anew hd o .del) s.up := rfl
        refine no ?_
        rw [e] at hC ⊢
        by_cases hc : (act V (lstAsk hd (.cm o pn cur w'))).2.ok = true
        · rw [if_pos hc] at hC
          cases hC
        · rw [if_neg hc]
          exact .none rfl (by simp [norm, anew, looks])
      | cd o pn cur nx a => cases hp
      | _ => exact absurd hsh id
    | t1 k =>
      obtain ⟨o, v, pn, cur, rfl⟩ := hsh
      have e : tell (lstM hd) S ⟨.t1 (.tk o v pn cur), s⟩ (act V (asks (lstM hd) w (.t1 (.tk o v pn cur)))).2 = if (ofW V.fr).idx = 0 then norm (lstM hd) (.clr (.fi ⟨0, false, 8, s.made, []⟩)) s.up else ⟨.t2 (.tk o v pn cur) V.fr, s.up⟩ := rfl
      by_cases h0 : (ofW V.fr).idx = 0
      · rw [e, if_pos h0] at hr
        have := (fi_end hr).2
        rw [h2] at this
        cases this
      · refine no ?_
        rw [e, if_neg h0]
        exact .none rfl (by simp [looks])
    | t2 k f => obtain ⟨o, v, pn, cur, rfl⟩ := hsh; exact no (.none rfl (by simp [tell, looks]))
    | t3 k f lk =>
      obtain ⟨o, v, pn, cur, rfl⟩ := hsh
      refine no ?_
      show Old _ (if (act V (asks (lstM hd) w (.t3 (.tk o v pn cur) f lk))).2.ok then _ else _)
      split <;> exact .none rfl (by simp [looks])
    | t4 k n b => obtain ⟨o, v, pn, cur, rfl⟩ := hsh; exact no (.none rfl (by simp [tell, looks]))
    | t5 k n b c => obtain ⟨o, v, pn, cur, rfl⟩ := hsh; exact no (.none rfl (by simp [tell, norm, lstM, looks]))
    | g1 k i c =>
      have e1 : act V (asks (lstM hd) w (.g1 k i c)) = (V, ⟨V.W.get c, true⟩) := by simp only [asks, act, get_str hpc.2.2.2.2.1]
      have hgad := hpc.2.2.2.2.2
      have hkl : lstKL N V.W X (offP (Pr (lstZ hd N) V X qs w s) i) k := hpc.1
      rw [e1] at hlate hlk ⊢
      have hl := hlk hp (hlate hp)
      rcases hsh with ⟨o, f, rfl⟩ | ⟨o, f, a, pn, cur, rfl, rfl⟩
      · obtain ⟨rfl, rfl⟩ := hgad
        obtain ⟨rfl, hof⟩ := hop
        obtain ⟨l1, l2⟩ : (ofW (V.W.ob hd)).idx = 0 ∧ fGD f := hl
        have hr := head_rng hSI.rng
        rw [hSI.head, idx_small hr.1 (by omega)] at l1
        have hX : X = [] := by
          cases X with
          | nil => rfl
          | cons x X => have := hSI.rng x (by simp); simp only [List.headD_cons] at l1; omega
        have sp := spec_out (op := op) (W := V.W) (A := []) (B := []) rfl (fGD_kind l2 hof) (by simp) (by simp)
        rw [List.append_nil] at sp
        rw [hX]
        exact ⟨0, false, sp, .lk hp trivial fun _ => ⟨rfl, rfl⟩⟩
      · obtain ⟨rfl, hof⟩ := hop
        obtain ⟨hcX, l1, l2⟩ : cur ∈ X ∧ LkT V.W op.a f cur (V.W.nd cur 0) := hl
        obtain ⟨A, B, hX, hA, hB⟩ := split_mem hcX hI.nodupX
        have hrise := hSI.rise
        rw [hX, List.pairwise_append] at hrise
        have hlow : ∀ m ∈ A, V.W.nd m 1 < V.W.nd cur 1 := fun m hm => hrise.2.2 m hm cur (by simp)
        rcases l2 with ⟨l2, l3⟩ | ⟨l2, l3, l4⟩
        · have hk12 : op.kind = 1 ∨ op.kind = 2 := by
            cases f with
            | get => exact .inl hof
            | put v n => exact .inr hof.1
            | _ => exact absurd l3 id
          have sp := spec_in (op := op) (W := V.W) (B := B) rfl hk12 (by rw [← l2]; exact hlow) l2 l1
          rw [← hX] at sp
          refine ⟨_, _, sp, .lk hp trivial fun _ => ⟨fun _ e => ?_, fun e => ?_⟩⟩
          · subst e
            have hk1 : op.kind = 1 := hof
            rw [if_pos hk1]
            exact ⟨rfl, by simp [hk1]⟩
          · have hne := e l2
            have hk2 : op.kind = 2 := by
              rcases hk12 with h | h
              · cases f with
                | get => exact absurd rfl hne
                | put v n => exact hof.1
                | _ => exact absurd l3 id
              · exact h
            rw [if_neg (by omega)]
            exact ⟨rfl, by simp [hk2]⟩
        · have hlink := hSI.link
          rw [hX] at hlink
          have hb : V.W.nd cur 0 % 65536 = B.headD 0 := (linked_cut hlink).1
          rw [← ofW_idx_eq, l3] at hb
          have hBn : B = [] := by
            cases B with
            | nil => rfl
            | cons y B => have := hSI.rng y (by rw [hX]; simp); simp only [List.headD_cons] at hb; omega
          subst hBn
          have sp := spec_out (op := op) (W := V.W) (A := A ++ [cur]) (B := []) rfl (fGD_kind l4 hof) (fun m hm => by
            rcases List.mem_append.1 hm with hm | hm
            · have := hlow m hm; omega
            · have : m = cur := by simpa using hm
              rw [this]; exact l2) (by simp)
          rw [List.append_nil, ← hX] at sp
          exact ⟨0, false, sp, .lk hp trivial fun _ => ⟨fun e => (by have e : V.W.nd cur 1 = op.a := e; omega), fun _ => ⟨rfl, rfl⟩⟩⟩
    | g2 k i c x b =>
      refine no ?_
      show Old _ (if V.er = s.e i then norm (lstM hd) ((lstM hd).guarded k x b) s.up else ⟨.g3 k i c V.er, s.up⟩)
      split
      · rcases hsh with ⟨o, f, rfl⟩ | ⟨o, f, a, pn, cur, rfl, rfl⟩
        · exact goW_old (o := o) (f := f) (a := 0) (b := 1) (pn := 0) (cur := (ofW x).idx) (pt := b) hp (by simp [looks])
        · exact .none hp (by simp [norm, lstM, looks])
      · exact .none hp (by simp [looks])
    | g3 k i c er => exact no (.none hp (by simp [tell, looks]))
    | c k i => rcases hsh.2.2.2 with ⟨o, rfl⟩ | ⟨n, a, rfl⟩ <;> cases hp
    | v1 k n => obtain ⟨a, rfl⟩ := hsh; cases hp
    | v2 k n f => obtain ⟨a, rfl⟩ := hsh; cases hp
    | v3 k n f => obtain ⟨a, rfl⟩ := hsh; cases hp
    | r1 k n =>
      refine no (.none hp fun t ht => ?_)
      rcases hsh with ⟨o, f, a, b', pn, nx, pt, rfl⟩ | ⟨a, rfl⟩
      · exact ht
      · cases hp
    | r2 k n er =>
      have hA : ∀ n', ∀ t ∈ looks (.r1 k n'), t ∈ looks (.r2 k n er) := fun n' t ht => by
        rcases hsh with ⟨o, f, a, b', pn, nx, pt, rfl⟩ | ⟨a, rfl⟩
        · exact ht
        · cases hp
      refine no ?_
      show Old _ (if (s.gone.length : Int) + 1 < 2 * (S : Int) then norm (lstM hd) ((lstM hd).retired k) { s.up with gone := s.gone ++ [(n, er)] } else scanQ (lstM hd) k [] { s.up with gone := s.gone ++ [(n, er)] } (resvsA 0 S))
      split
      · exact ret_old hsh hp hA
      · exact scan_old hsh hp hA _ _
    | rs k held c cs =>
      refine no (scan_old (s := s.up) hsh hp (fun n' t ht => ?_) _ _)
      rcases hsh with ⟨o, f, a, b', pn, nx, pt, rfl⟩ | ⟨a, rfl⟩
      · exact ht
      · cases hp
    | s1 k held y gs stay =>
      have hA : ∀ n', ∀ t ∈ looks (.r1 k n'), t ∈ looks (.s1 k held y gs stay) := fun n' t ht => by
        rcases hsh with ⟨o, f, a, b', pn, nx, pt, rfl⟩ | ⟨a, rfl⟩
        · exact ht
        · cases hp
      refine no ?_
      show Old _ (if held.any (inB (max1 (V.bi y.1)) y.2) = true then siftQ (lstM hd) k held s.up gs (stay ++ [y]) else ⟨.w1 k held y gs stay, s.up⟩)
      split
      · exact sift_old hsh hp hA _ _ _
      · refine .none hp fun t ht => hA 0 t ?_
        rcases hsh with ⟨o, f, a, b', pn, nx, pt, rfl⟩ | ⟨a, rfl⟩
        · exact ht
        · cases hp
    | w1 k held y gs stay =>
      refine no (.none hp fun t ht => ?_)
      rcases hsh with ⟨o, f, a, b', pn, nx, pt, rfl⟩ | ⟨a, rfl⟩
      · exact ht
      · cases hp
    | w2 k held y gs stay f =>
      refine no (.none hp fun t ht => ?_)
      rcases hsh with ⟨o, f, a, b', pn, nx, pt, rfl⟩ | ⟨a, rfl⟩
      · exact ht
      · cases hp
    | w3 k held y gs stay f =>
      have hA : ∀ n', ∀ t ∈ looks (.r1 k n'), t ∈ looks (.w3 k held y gs stay f) := fun n' t ht => by
        rcases hsh with ⟨o, f', a, b', pn, nx, pt, rfl⟩ | ⟨a, rfl⟩
        · exact ht
        · cases hp
      refine no ?_
      show Old _ (if (act V (asks (lstM hd) w (.w3 k held y gs stay f))).2.ok then siftQ (lstM hd) k held s.up gs stay else ⟨.w1 k held y gs stay, s.up⟩)
      split
      · exact sift_old hsh hp hA _ _ _
      · refine .none hp fun t ht => hA 0 t ?_
        rcases hsh with ⟨o, f', a, b', pn, nx, pt, rfl⟩ | ⟨a, rfl⟩
        · exact ht
        · cases hp
end
end Go.Proofs.Ytefagncaepallaa
/- Each operation of a list takes effect at its point. -/
namespace Go.Proofs.Ytefagncaepallaa
set_option maxRecDepth 100000

/-! ### The law's bookkeeping -/
structure PtS where
  c : Cont
  own : List Int
  val : List Int
  is : List Bool
def isAt (l : List Bool) (i : Int) : Bool := l.getD i.toNat false
theorem isAt_set {m : List Bool} {c d : Int} {v : Bool} (h0 : 0 ≤ c) (h1 : c < m.length) (hd : 0 ≤ d) : isAt (m.set c.toNat v) d = if d = c then v else isAt m d := by
  unfold isAt
  have hc : c.toNat < m.length := by omega
  by_cases h : d = c
  · subst h
    rw [if_pos rfl, List.getD_eq_getElem?_getD, List.getElem?_set_self hc]; rfl
  · rw [if_neg h, List.getD_eq_getElem?_getD, List.getD_eq_getElem?_getD, List.getElem?_set_ne (by omega)]
def mapC (c : Cont) : List (Int × Int) := c.keys.zip c.vals
def effB (steps : List StepT) (z : PtS) (s : StepT) : Bool := decide ((tellF steps s.who s.at_).1 = cellAt z.own s.who) && decide ((tellF steps s.who s.at_).2 = 0)
def ptS (steps : List StepT) (z : PtS) (s : StepT) : PtS :=
  if s.done then { z with own := z.own.set s.who.toNat 0 }
  else if effB steps z s then ⟨(specS z.c s.op).1, z.own.set s.who.toNat (cellAt z.own s.who + 1), z.val.set s.who.toNat (specS z.c s.op).2.1, z.is.set s.who.toNat (specS z.c s.op).2.2⟩
  else { z with own := z.own.set s.who.toNat (cellAt z.own s.who + 1) }
structure PtOk (l : LayT) (n : Nat) (steps : List StepT) (z : PtS) (m : List Int) (s : StepT) : Prop where
  w0 : 0 ≤ s.who
  w1 : s.who < n
  own : z.own.length = n
  val : z.val.length = n
  is : z.is.length = n
  ends : s.done = true → (s.out.err = 0 → s.out.is = isAt z.is s.who ∧ s.out.val = cellAt z.val s.who) ∧ (s.out.err ≠ 0 → s.out.err = 8 ∧ s.out.is = false) ∧ 0 ≤ s.out.point ∧ s.out.point < cellAt z.own s.who
  acc : s.done = false → faultF m.length s.acc = 0 ∧ rowF l (memS m s) l.map = mapC (ptS steps z s).c ∧ CellsLt (memS m s)
  len : m.length = l.size.toNat
  kind : s.op.kind = 1 ∨ s.op.kind = 2 ∨ s.op.kind = 3
  owns : 0 ≤ cellAt z.own s.who ∧ cellAt z.own s.who ≤ 100000
  cl : z.c.keys.length ≤ 100 ∧ z.c.vals.length ≤ 100
  cr : rightB z.c = true
  ck : z.c.kind = 1
def ptZ0 (n : Nat) : PtS := ⟨⟨1, [], []⟩, List.replicate n 0, List.replicate n 0, List.replicate n false⟩
def PtAll (l : LayT) (n : Nat) (steps : List StepT) (m0 : List Int) (st : List StepT) : Prop := ∀ (i : Nat) (s : StepT), st[i]? = some s → PtOk l n steps ((st.take i).foldl (ptS steps) (ptZ0 n)) ((st.take i).foldl memS m0) s
theorem ptS_done {steps : List StepT} {z : PtS} {st : StepT} (h : st.done = true) : ptS steps z st = { z with own := z.own.set st.who.toNat 0 } := by unfold ptS; rw [if_pos h]
theorem ptS_eff {steps : List StepT} {z : PtS} {st : StepT} (h : st.done = false) (he : (tellF steps st.who st.at_).1 = cellAt z.own st.who) (h0 : (tellF steps st.who st.at_).2 = 0) : ptS steps z st = ⟨(specS z.c st.op).1, z.own.set st.who.toNat (cellAt z.own st.who + 1), z.val.set st.who.toNat (specS z.c st.op).2.1, z.is.set st.who.toNat (specS z.c st.op).2.2⟩ := by
  unfold ptS effB
  rw [if_neg (by simp [h]), if_pos (by simp [he, h0])]
theorem ptS_quiet {steps : List StepT} {z : PtS} {st : StepT} (h : st.done = false) (he : (tellF steps st.who st.at_).1 ≠ cellAt z.own st.who ∨ (tellF steps st.who st.at_).2 ≠ 0) : ptS steps z st = { z with own := z.own.set st.who.toNat (cellAt z.own st.who + 1) } := by
  unfold ptS effB
  rw [if_neg (by simp [h]), if_neg]
  simp only [Bool.and_eq_true, decide_eq_true_eq]
  rintro ⟨h1, h2⟩
  rcases he with he | he
  · exact he h1
  · exact he h2
theorem ptS_own {steps : List StepT} {z : PtS} {st : StepT} (h : st.done = false) : (ptS steps z st).own = z.own.set st.who.toNat (cellAt z.own st.who + 1) := by
  unfold ptS
  rw [if_neg (by simp [h])]
  split <;> rfl
theorem ptS_len {steps : List StepT} {z : PtS} {st : StepT} : (ptS steps z st).own.length = z.own.length ∧ (ptS steps z st).val.length = z.val.length ∧ (ptS steps z st).is.length = z.is.length := by
  unfold ptS
  split
  · simp
  · split <;> simp
/-- What a turn does to what is kept of the seats: the one's own, and the others'. -/
theorem ptS_there {steps : List StepT} {z : PtS} {st : StepT} {j : Nat} {w : Nat} (hw : st.who = w) (hj : j ≠ w) (l1 : w < z.own.length) (l2 : w < z.val.length) (l3 : w < z.is.length) : cellAt (ptS steps z st).own j = cellAt z.own j ∧ cellAt (ptS steps z st).val j = cellAt z.val j ∧ isAt (ptS steps z st).is j = isAt z.is j := by
  have k1 : ∀ x, cellAt (z.own.set st.who.toNat x) j = cellAt z.own j := fun x => by rw [hw, cellAt_set (by omega) (by omega) (by omega), if_neg (by omega)]
  have k2 : ∀ x, cellAt (z.val.set st.who.toNat x) j = cellAt z.val j := fun x => by rw [hw, cellAt_set (by omega) (by omega) (by omega), if_neg (by omega)]
  have k3 : ∀ x, isAt (z.is.set st.who.toNat x) j = isAt z.is j := fun x => by rw [hw, isAt_set (by omega) (by omega) (by omega), if_neg (by omega)]
  unfold ptS
  split
  · exact ⟨k1 _, rfl, rfl⟩
  · split
    · exact ⟨k1 _, k2 _, k3 _⟩
    · exact ⟨k1 _, rfl, rfl⟩

theorem all_snoc₂ {l : LayT} {n : Nat} {steps : List StepT} {m0 : List Int} {st : List StepT} {s : StepT} (h : PtAll l n steps m0 st) (hs : PtOk l n steps (st.foldl (ptS steps) (ptZ0 n)) (st.foldl memS m0) s) : PtAll l n steps m0 (st ++ [s]) := by
  intro i x hx
  rcases Nat.lt_trichotomy i st.length with hi | hi | hi
  · rw [List.getElem?_append_left hi] at hx
    rw [List.take_append_of_le_length (by omega)]
    exact h i x hx
  · subst hi
    rw [List.getElem?_append_right (by omega)] at hx
    simp at hx
    subst hx
    rw [List.take_append_of_le_length (by omega), List.take_length]
    exact hs
  · rw [List.getElem?_eq_none (by simp; omega)] at hx
    cases hx

/-! ### Points -/
theorem start_rec {hd : Int} {v : Int} {b : Bool} {W : Ws} {tp : Int} (op : OpT) (gone : List (Int × Int)) : RecQ v b W tp (startQ hd op gone).pc := by
  refine .vac ?_ rfl trivial
  show fpt (fkOf op) = none
  unfold fkOf
  split
  · rfl
  · split <;> rfl
/-- What is known of a seat that has an operation under way. -/
structure PtSeat (z : PtS) (w : Nat) (W : Ws) (tp : Int) (q : Q Lk) : Prop where
  own : cellAt z.own w = q.s.made
  rc : RecQ (cellAt z.val w) (isAt z.is w) W tp q.pc
structure PtJ (p : PlayT) (i : Nat) (s : PSt) (V : Vw) (X : List Int) : Prop where
  ob : ∀ w : Nat, cellAt (s.out.foldl (ptS (playedF p).steps) (ptZ0 p.want.length)).own w ≤ i
  all : PtAll (layP p) p.want.length (playedF p).steps (beginF (layP p)) s.out
  mem : s.out.foldl memS (beginF (layP p)) = s.m
  lt : CellsLt s.m
  own : (s.out.foldl (ptS (playedF p).steps) (ptZ0 p.want.length)).own.length = p.want.length
  val : (s.out.foldl (ptS (playedF p).steps) (ptZ0 p.want.length)).val.length = p.want.length
  is : (s.out.foldl (ptS (playedF p).steps) (ptZ0 p.want.length)).is.length = p.want.length
  c : (s.out.foldl (ptS (playedF p).steps) (ptZ0 p.want.length)).c = conW V.W X
  seat : ∀ (w : Nat) (x : SeatT) (ws : List OpT), s.seats[w]? = some x → p.want[w]? = some ws → x.at_ < ws.length → PtSeat (s.out.foldl (ptS (playedF p).steps) (ptZ0 p.want.length)) w V.W (tellF (playedF p).steps w x.at_).1 (qAt p ws x)
def FutW (p : PlayT) (s : PSt) : Prop := ∀ (w : Nat) (x : SeatT) (ws : List OpT), s.seats[w]? = some x → p.want[w]? = some ws → x.at_ < ws.length → ∃ R o, (runQ (mP p) p.want.length (qAt p ws x) R).pc = .fin o ∧ tellF (playedF p).steps w x.at_ = (o.point, o.err)
theorem con_ok {p : PlayT} {i : Nat} {s : PSt} {V : Vw} {F X : List Int} {g : LstG} (hG : G p i s V F X g) : ((conW V.W X).keys.length ≤ 100 ∧ (conW V.W X).vals.length ≤ 100) ∧ rightB (conW V.W X) = true := by
  have hSI : LstSI (hdP p) (nP p) i V.W X (Dq (spP p) (qsOf p s.seats)) g := hG.inv.si
  have h2 := hSI.len hG.inv.nodupX
  have h3 : (inR V.W X).length ≤ X.length := List.length_filter_le _ _
  have := nP_le p
  refine ⟨?_, con_right hSI⟩
  simp only [conW, List.length_map]
  omega
theorem row_con {p : PlayT} {i : Nat} {s : PSt} {V : Vw} {F X : List Int} {g : LstG} (h1 : 1 ≤ p.want.length) (hG : G p i s V F X g) : rowF (layP p) s.m (layP p).map = mapC (conW V.W X) := by
  have hN := nP_le p
  rw [show (layP p).map = hdP p from rfl, row_is (layP_lay p h1) (lstLayP p) (by omega) hG.view hG.inv]
  unfold mapC conW
  rw [List.zip_map']
theorem pt_step {p : PlayT} (hp : PlayG p) {i : Nat} {s s' : PSt} {V V' : Vw} {F X F' X' : List Int} {g g' : LstG} (hi : i < allF p) (hG : G p i s V F X g) (hS : StepR p (whoF p i) s V F X g s' V' F' X' g') (hG' : G p (i + 1) s' V' F' X' g') (hF : FutW p s') (hLk : LookJ p s' V' X') (h : PtJ p i s V X) : PtJ p (i + 1) s' V' X' := by
  have hL := layP_lay p hp.ok.w1
  have hall : allF p ≤ 4700 := by have := hp.ok.w3; have := hp.ok.t; unfold allF; omega
  have hwl := whoF_lt hp.ok hi
  have hN := nP_le p
  have hcl := cells_step hp hi hG hS h.lt
  have hml : s.m.length = (layP p).size.toNat := hG.view.len
  have hrow' := row_con hp.ok.w1 hG'
  obtain ⟨hTl, hTr⟩ := con_ok hG
  generalize hw : whoF p i = who at *
  cases hS with
  | idle => exact ⟨fun w => by have := h.ob w; omega, h.all, h.mem, h.lt, h.own, h.val, h.is, h.c, h.seat⟩
  | done x ws op q o hx hws ho hq hpc =>
    have hk := hp.k ws (List.mem_of_getElem? hws) op (List.mem_of_getElem? ho)
    have hal := (List.getElem?_eq_some_iff.1 ho).1
    have hs0 := h.seat who x ws hx hws hal
    have hW := (qAt_lkW p ws x hal).pt
    rw [← hq] at hs0 hW
    obtain ⟨ob, all, mem, lt, own, val, is, cc, seat⟩ := h
    have hs1 := hs0.own
    have hob := ob who
    generalize hz : s.out.foldl (ptS (playedF p).steps) (ptZ0 p.want.length) = z at *
    generalize hst : (⟨who, x.at_, op0F p op, x.gone, acc0, res0, true, { o with gone := q.s.gone }⟩ : StepT) = st at *
    have e1 : st.done = true := by rw [← hst]
    have ew : st.who = who := by rw [← hst]
    have ef := ptS_done (steps := (playedF p).steps) (z := z) e1
    have em : memS s.m st = s.m := by unfold memS; rw [if_pos e1]
    have hW' : 0 ≤ o.point ∧ o.point < q.s.made := hW _ (by rw [hpc]; rfl)
    have hout := hs0.rc.out o.val o.is o.err (by rw [hpc]; rfl)
    have hok : PtOk (layP p) p.want.length (playedF p).steps (s.out.foldl (ptS (playedF p).steps) (ptZ0 p.want.length)) (s.out.foldl memS (beginF (layP p))) st := by
      rw [hz, mem]
      refine ⟨by rw [ew]; omega, by rw [ew]; omega, own, val, is, fun _ => ?_, (fun e => by rw [e1] at e; cases e), hml, by rw [← hst]; exact hk, by rw [ew, hs1]; omega, by rw [cc]; exact hTl, by rw [cc]; exact hTr, by rw [cc]; rfl⟩
      rw [ew, hs1, ← hst]
      exact ⟨fun e => ⟨(hout.1 e).2, (hout.1 e).1⟩, hout.2, hW'⟩
    have hset : ∀ w : Nat, cellAt (z.own.set st.who.toNat 0) w = if (w : Int) = who then 0 else cellAt z.own w := fun w => by rw [ew, cellAt_set (by omega) (by omega) (by omega)]
    refine ⟨fun w => ?_, all_snoc₂ all hok, ?_, lt, ?_, ?_, ?_, ?_, fun w y us hy hu ho' => ?_⟩
    · simp only [foldl_snoc, hz, ef, hset]
      have := ob w
      split <;> omega
    · simp only [foldl_snoc, mem, em]
    · simp only [foldl_snoc, hz, ef, List.length_set]; exact own
    · simp only [foldl_snoc, hz, ef]; exact val
    · simp only [foldl_snoc, hz, ef]; exact is
    · simp only [foldl_snoc, hz, ef]; exact cc
    · simp only [foldl_snoc, hz]
      simp only at hy
      by_cases hww : w = who
      · subst hww
        have hlt := (List.getElem?_eq_some_iff.1 hx).1
        rw [List.getElem?_set_self hlt] at hy
        cases hy
        rw [hws] at hu
        cases hu
        have he : ws[x.at_ + 1]? = some ws[x.at_ + 1] := List.getElem?_eq_getElem ho'
        have e3 : qAt p ws ⟨x.at_ + 1, [], q.s.gone⟩ = startQ (hdP p) ws[x.at_ + 1] q.s.gone := by
          unfold qAt
          simp only [he]
          rfl
        rw [e3, ef]
        exact ⟨by rw [hset, if_pos rfl]; rfl, start_rec _ _⟩
      · rw [List.getElem?_set_ne (by omega)] at hy
        have := seat w y us hy hu ho'
        obtain ⟨t1, t2, t3⟩ := ptS_there (steps := (playedF p).steps) (z := z) ew hww (by omega) (by omega) (by omega)
        exact ⟨by rw [t1]; exact this.own, by rw [t2, t3]; exact this.rc⟩
  | acc x ws op q hx hws ho hq hpc =>
    have hk := hp.k ws (List.mem_of_getElem? hws) op (List.mem_of_getElem? ho)
    have hal := (List.getElem?_eq_some_iff.1 ho).1
    have hs0 := h.seat who x ws hx hws hal
    have hqg := qs_at hx hws hq
    have hsh := qAt_shape p ws x
    have hlw := qAt_lkW p ws x hal
    have hop := qAt_of hp (List.mem_of_getElem? hws) ho
    rw [← hq] at hs0 hlw hsh hop
    have hI := hG.inv
    have her := hI.er
    have hact := acts hL hG.view (a := asks (mP p) who q.pc) ⟨by omega, by omega⟩ (ask_ok (soundP p) hI hqg hpc)
    have hxl := (List.getElem?_eq_some_iff.1 hx).1
    obtain ⟨R, o, hr, ht⟩ := hF who _ ws (List.getElem?_set_self hxl) hws hal
    have e1q : qAt p ws { x with log := x.log ++ [(actP p who V q).2] } = tell (mP p) p.want.length q (actP p who V q).2 := by
      rw [hq]
      unfold qAt
      simp only [ho]
      rw [runQ_snoc]
    rw [e1q] at hr
    simp only at ht
    have hlk := hLk who _ ws (List.getElem?_set_self hxl) hws hal
    rw [e1q] at hlk
    simp only [ht] at hlk
    have hevo := act_evo (lstLayP p) (by omega) hI hqg
    have hcon := act_con (lstLayP p) (by omega) hI hqg hsh hop
    have heff := fun h1 h2 => eff_own (lstLayP p) (by omega) hI hqg hpc hsh hlw hop hr h1 h2 (fun k1 k2 => (hlk k1 k2).2)
    have hquiet := fun (v : Int) (b : Bool) h1 => rec_own (v := v) (b := b) (V := V) (w := who) hpc hsh hr h1 (fun k1 k2 => (hlk k1 k2).1)
    have hmade : (tell (mP p) p.want.length q (actP p who V q).2).s.made = q.s.made + 1 := made_tell hpc
    have hsh' : Shape (tell (mP p) p.want.length q (actP p who V q).2) := shape_tell hsh
    have hend : ptP (tell (mP p) p.want.length q (actP p who V q).2).pc = some (q.s.made : Int) → outP (tell (mP p) p.want.length q (actP p who V q).2).pc = some (0, true, 0) → o.point = q.s.made ∧ o.err = 0 := fun k1 k2 => by
      have k1 := pt_run (hd := hdP p) (S := p.want.length) R hsh' k1
      have k2 := out_run (hd := hdP p) (S := p.want.length) R hsh' k2
      change ptP (runQ (mP p) p.want.length (tell (mP p) p.want.length q (actP p who V q).2) R).pc = _ at k1
      change outP (runQ (mP p) p.want.length (tell (mP p) p.want.length q (actP p who V q).2) R).pc = _ at k2
      rw [hr] at k1 k2
      exact ⟨Option.some.inj k1, congrArg (·.2.2) (Option.some.inj k2)⟩
    change (conW (actP p who V q).1.W (nxX (spP p) V.W X g q.pc).1 = conW V.W X ∧ (isCP q.pc → outP (tell (mP p) p.want.length q (actP p who V q).2).pc = none)) ∨ (ptP q.pc = none ∧ ptP (tell (mP p) p.want.length q (actP p who V q).2).pc = some (q.s.made : Int) ∧ outP (tell (mP p) p.want.length q (actP p who V q).2).pc = some (0, true, 0) ∧ specS (conW V.W X) op = (conW (actP p who V q).1.W (nxX (spP p) V.W X g q.pc).1, 0, true)) at hcon
    generalize tell (mP p) p.want.length q (actP p who V q).2 = q' at *
    obtain ⟨ob, all, mem, lt, own, val, is, cc, seat⟩ := h
    have hs1 := hs0.own
    have hob := ob who
    generalize hz : s.out.foldl (ptS (playedF p).steps) (ptZ0 p.want.length) = z at *
    generalize hst : (⟨who, x.at_, op0F p op, x.gone, accP p who q, (actP p who V q).2, false, out0⟩ : StepT) = st at *
    have e1 : st.done = false := by rw [← hst]
    have ew : st.who = who := by rw [← hst]
    have ea : st.at_ = x.at_ := by rw [← hst]
    have eo : st.op = op0F p op := by rw [← hst]
    have ec : st.acc = accP p who q := by rw [← hst]
    have em : memS s.m st = (turnF s.m (accP p who q)).1 := by unfold memS; rw [if_neg (by simp [e1]), ec]
    have hspec : ∀ c, specS c st.op = specS c op := fun c => by rw [eo]; rfl
    have hown' : ∀ w : Nat, cellAt (ptS (playedF p).steps z st).own w = if (w : Int) = who then cellAt z.own who + 1 else cellAt z.own w := fun w => by rw [ptS_own e1, ew, cellAt_set (by omega) (by omega) (by omega)]
    have hoo : cellAt (ptS (playedF p).steps z st).own who = q'.s.made := by rw [hown', if_pos rfl, hs1, hmade]; omega
    -- what is kept, and the seat's own knowledge
    have key : (ptS (playedF p).steps z st).c = conW (actP p who V q).1.W (nxX (spP p) V.W X g q.pc).1 ∧ PtSeat (ptS (playedF p).steps z st) who (actP p who V q).1.W o.point q' := by
      by_cases hpe : o.point = q.s.made ∧ o.err = 0
      · obtain ⟨v, b, sp, rc⟩ := heff hpe.1 hpe.2
        have e := ptS_eff (steps := (playedF p).steps) (z := z) e1 (by rw [ew, ea, ht, hs1]; exact hpe.1) (by rw [ew, ea, ht]; exact hpe.2)
        rw [hspec, cc, sp] at e
        refine ⟨by rw [e], hoo, ?_⟩
        rw [e]
        simp only [ew]
        rw [cellAt_set (by omega) (by omega) (by omega), if_pos rfl, isAt_set (by omega) (by omega) (by omega), if_pos rfl]
        exact rc
      · have hne : o.point ≠ q.s.made ∨ o.err ≠ 0 := by
          by_cases h1 : o.point = q.s.made
          · exact .inr fun h2 => hpe ⟨h1, h2⟩
          · exact .inl h1
        have e := ptS_quiet (steps := (playedF p).steps) (z := z) e1 (by rw [ew, ea, ht, hs1]; exact hne)
        rcases hcon with ⟨same, _⟩ | ⟨_, p1, o1, _⟩
        · refine ⟨by rw [e, same]; exact cc, hoo, ?_⟩
          rw [e]
          refine hquiet _ _ hne ?_
          have := hs0.rc
          rw [ht] at this
          exact this
        · exact absurd (hend p1 o1) hpe
    obtain ⟨hc', hseat'⟩ := key
    have hok : PtOk (layP p) p.want.length (playedF p).steps (s.out.foldl (ptS (playedF p).steps) (ptZ0 p.want.length)) (s.out.foldl memS (beginF (layP p))) st := by
      rw [hz, mem]
      refine ⟨by rw [ew]; omega, by rw [ew]; omega, own, val, is, (fun e => by rw [e1] at e; cases e), fun _ => ⟨by rw [ec]; exact hact.fault, ?_, by rw [em]; exact hcl⟩, hml, by rw [eo]; exact hk, by rw [ew]; omega, by rw [cc]; exact hTl, by rw [cc]; exact hTr, by rw [cc]; rfl⟩
      rw [em, hc']
      exact hrow'
    refine ⟨fun w => ?_, all_snoc₂ all hok, ?_, hcl, ?_, ?_, ?_, ?_, fun w y us hy hu ho' => ?_⟩
    · simp only [foldl_snoc, hz, hown']
      have := ob w
      split <;> omega
    · simp only [foldl_snoc, mem, em]
    · simp only [foldl_snoc, hz, ptS_len.1]; exact own
    · simp only [foldl_snoc, hz, ptS_len.2.1]; exact val
    · simp only [foldl_snoc, hz, ptS_len.2.2]; exact is
    · simp only [foldl_snoc, hz]; exact hc'
    · simp only [foldl_snoc, hz]
      simp only at hy
      by_cases hww : w = who
      · subst hww
        rw [List.getElem?_set_self hxl] at hy
        cases hy
        rw [hws] at hu
        cases hu
        rw [e1q]
        simp only [ht]
        exact hseat'
      · rw [List.getElem?_set_ne (by omega)] at hy
        obtain ⟨t1, t2, t3⟩ := ptS_there (steps := (playedF p).steps) (z := z) ew hww (by omega) (by omega) (by omega)
        have := seat w y us hy hu ho'
        exact ⟨by rw [t1]; exact this.own, by rw [t2, t3]; exact rec_stab hevo (fun i n h => pr_in h) (hI.loc w _ (qsOf_get hy hu)).pc this.rc⟩
theorem ptJ_all {p : PlayT} (hp : PlayG p) : ∀ i, i ≤ allF p → ∃ V F X g, G p i (stateAt p i) V F X g ∧ PtJ p i (stateAt p i) V X
  | 0, _ => by
    refine ⟨_, _, _, _, G_start hp, ⟨fun w => ?_, fun i s h => by simp [stateAt, start] at h, rfl, cells_start hp.ok, by simp [stateAt, start, ptZ0], by simp [stateAt, start, ptZ0], by simp [stateAt, start, ptZ0], rfl, fun w x ws hx hw ho => ?_⟩⟩
    · show cellAt (List.replicate p.want.length 0) w ≤ _
      simp only [cellAt, List.getD_eq_getElem?_getD, List.getElem?_replicate]
      split <;> simp
    · have hx' : (List.replicate p.want.length (⟨0, [], []⟩ : SeatT))[w]? = some x := hx
      rw [List.getElem?_replicate] at hx'
      split at hx'
      · cases hx'
        have he : ws[0]? = some ws[0] := List.getElem?_eq_getElem ho
        have e3 : qAt p ws ⟨0, [], []⟩ = startQ (hdP p) ws[0] [] := by unfold qAt; simp only [he]; rfl
        rw [e3]
        refine ⟨?_, start_rec _ _⟩
        show cellAt (List.replicate p.want.length 0) w = 0
        simp only [cellAt, List.getD_eq_getElem?_getD, List.getElem?_replicate]
        split <;> rfl
      · cases hx'
  | i + 1, hi => by
    obtain ⟨V, F, X, g, hG, hJ⟩ := ptJ_all hp i (by omega)
    obtain ⟨V', F', X', g', _, hS, hG'⟩ := state_next hp (show i < allF p by omega) hG
    exact ⟨V', F', X', g', hG', pt_step hp (by omega) hG hS hG' (fun w x ws hx hw hlt => fut_is hp hi hx hw hlt) (look_all hp (allF p - (i + 1)) (i + 1) (by omega) _ _ _ _ hG') hJ⟩
theorem points_true {p : PlayT} (hp : PlayG p) : (playedF p).ends = true ∧ PtAll (layP p) p.want.length (playedF p).steps (beginF (layP p)) (playedF p).steps := by
  obtain ⟨V, F, X, g, _, hJ⟩ := ptJ_all hp (allF p) (Nat.le_refl _)
  have h := (state_end hp).1
  refine ⟨by rw [h], ?_⟩
  have := hJ.all
  rw [show (playedF p).steps = (stateAt p (allF p)).out by rw [h]] at this ⊢
  exact this
end Go.Proofs.Ytefagncaepallaa
/- What is told of an operation is told behind its steps. -/
namespace Go.Proofs.Ytefagncaepallaa
set_option maxRecDepth 100000

def UpR (s t : StepT) : Prop := s.done = true → s.who = t.who → s.at_ < t.at_
theorem ups {p : PlayT} (hp : PlayG p) : ∀ i, i ≤ allF p → (stateAt p i).out.Pairwise UpR
  | 0, _ => by simp [stateAt, start]
  | i + 1, hi => by
    have ih := ups hp i (by omega)
    have hd := done_lt hp i (by omega)
    obtain ⟨V, F, X, g, hG⟩ := state_G hp i (by omega)
    obtain ⟨V', F', X', g', _, hS, _⟩ := state_next hp (show i < allF p by omega) hG
    generalize stateAt p (i + 1) = s' at *
    generalize stateAt p i = s at *
    cases hS with
    | idle => exact ih
    | done x ws op q o hx hw ho hq hpc =>
      rw [List.pairwise_append]
      refine ⟨ih, by simp, fun a ha b hb => ?_⟩
      rw [List.mem_singleton] at hb
      subst hb
      exact fun h1 h2 => hd a ha h1 _ x hx h2
    | acc x ws op q hx hw ho hq hpc =>
      rw [List.pairwise_append]
      refine ⟨ih, by simp, fun a ha b hb => ?_⟩
      rw [List.mem_singleton] at hb
      subst hb
      exact fun h1 h2 => hd a ha h1 _ x hx h2
theorem tell_drop {p : PlayT} (hp : PlayG p) {i : Nat} {s : StepT} (h : (playedF p).steps[i]? = some s) : tellF (playedF p).steps s.who s.at_ = tellF ((playedF p).steps.drop i) s.who s.at_ := by
  have hu := ups hp (allF p) (Nat.le_refl _)
  have he : (playedF p).steps = (stateAt p (allF p)).out := by rw [(state_end hp).1]
  rw [he] at h ⊢
  generalize (stateAt p (allF p)).out = st at *
  conv => lhs; rw [← List.take_append_drop i st]
  refine tellF_app fun t ht hh => ?_
  obtain ⟨j, hj, rfl⟩ := List.mem_iff_getElem.1 ht
  have hi := (List.getElem?_eq_some_iff.1 h).1
  have hji : j < i := by simp at hj; omega
  have := List.pairwise_iff_getElem.1 hu j i (by omega) hi hji
  rw [(List.getElem?_eq_some_iff.1 h).2] at this
  rw [List.getElem_take] at hh
  have := this hh.2.2 hh.1
  omega
end Go.Proofs.Ytefagncaepallaa
