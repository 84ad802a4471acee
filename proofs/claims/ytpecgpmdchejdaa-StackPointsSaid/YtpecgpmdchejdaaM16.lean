/- Each operation takes effect at its point. -/
import Derived.Test.YtpecgpmdchejdaaM15
namespace Go.Proofs.Ytpecgpmdchejdaa
open Go
set_option maxRecDepth 100000

/-- Programs of pops, and what they end with. -/
def PopOk : Pc → Prop
  | .t1 | .t2 _ | .t3 _ _ | .t4 _ | .t5 _ _ | .p0 _ | .p1 _ | .p2 _ _ | .p3 _ _ => False
  | .fin o => o.err = 0
  | _ => True
/-- Programs of pushes. -/
def PushOk : Pc → Prop
  | .t1 | .t2 _ | .t3 _ _ | .t4 _ | .t5 _ _ | .p0 _ | .p1 _ | .p2 _ _ | .p3 _ _ | .fin _ => True
  | _ => False
theorem pop_sift (v a : Int) (held : List Int) (made : Nat) (e0 : Int) (gone gs stay : List (Int × Int)) : PopOk (siftQ v a held made e0 gone gs stay).pc := by cases gs <;> trivial
theorem pop_scan (v a : Int) (held : List Int) (made : Nat) (e0 : Int) (gone : List (Int × Int)) (cs : List Int) : PopOk (scanQ v a made e0 gone held cs).pc := by
  cases cs with
  | nil => exact pop_sift _ _ _ _ _ _ _ _
  | cons c cs => trivial
theorem pop_tell {l : LayT} {q : Q} {r : ResT} (h : PopOk q.pc) : PopOk (tell l q r).pc := by
  obtain ⟨pc, made, gone, e0⟩ := q
  cases pc with
  | g2 u a =>
    show PopOk (if r.val = e0 then (if (ofW u).idx = 0 then (if e0 = 0 then _ else _) else _) else _ : Q).pc
    split
    · split
      · split
        · rfl
        · trivial
      · trivial
    · trivial
  | d2 u be => show PopOk (if r.ok then _ else _ : Q).pc; split <;> trivial
  | d3 n a => show PopOk (if e0 = 0 then _ else _ : Q).pc; split <;> trivial
  | r2 n v a er =>
    show PopOk (if ((gone.length : Int) + 1) < 2 * l.seats then _ else _ : Q).pc
    split
    · rfl
    · exact pop_scan _ _ _ _ _ _ _
  | rs v a held c cs => exact pop_scan _ _ _ _ _ _ _
  | s1 v a held g gs stay =>
    show PopOk (if held.any (inB (max1 r.val) g.2) = true then _ else _ : Q).pc
    split
    · exact pop_sift _ _ _ _ _ _ _ _
    · trivial
  | v3 v a held g gs stay f =>
    show PopOk (if r.ok then _ else _ : Q).pc
    split
    · exact pop_sift _ _ _ _ _ _ _ _
    · trivial
  | ce a => rfl
  | fin o => exact h
  | t1 => exact absurd h id
  | t2 f => exact absurd h id
  | t3 f lk => exact absurd h id
  | t4 n => exact absurd h id
  | t5 n b => exact absurd h id
  | p0 n => exact absurd h id
  | p1 n => exact absurd h id
  | p2 n u => exact absurd h id
  | p3 n u => exact absurd h id
  | _ => trivial
theorem pop_run {l : LayT} : ∀ (R : List ResT) {q : Q}, PopOk q.pc → PopOk (runQ l q R).pc
  | [], _, h => h
  | r :: R, q, h => pop_run R (q := tell l q r) (pop_tell h)
theorem push_tell {l : LayT} {q : Q} {r : ResT} (h : PushOk q.pc) : PushOk (tell l q r).pc := by
  obtain ⟨pc, made, gone, e0⟩ := q
  cases pc with
  | t1 => show PushOk (if (ofW r.val).idx = 0 then _ else _ : Q).pc; split <;> trivial
  | t3 f lk => show PushOk (if r.ok then _ else _ : Q).pc; split <;> trivial
  | p3 n u => show PushOk (if r.ok then _ else _ : Q).pc; split <;> trivial
  | fin o => trivial
  | t2 f => trivial
  | t4 n => trivial
  | t5 n b => trivial
  | p0 n => trivial
  | p1 n => trivial
  | p2 n u => trivial
  | _ => exact absurd h id
theorem push_run {l : LayT} : ∀ (R : List ResT) {q : Q}, PushOk q.pc → PushOk (runQ l q R).pc
  | [], _, h => h
  | r :: R, q, h => push_run R (q := tell l q r) (push_tell h)
theorem ptW_run {l : LayT} : ∀ (R : List ResT) {q : Q}, PtW q → PtW (runQ l q R)
  | [], _, h => h
  | r :: R, q, h => by
    by_cases hf : ∃ o, q.pc = .fin o
    · obtain ⟨o, ho⟩ := hf
      have : tell l q r = q := by unfold tell; rw [ho]
      show PtW (runQ l (tell l q r) R)
      rw [this]
      exact ptW_run R h
    · exact ptW_run R (q := tell l q r) (ptW_tell h fun o ho => hf ⟨o, ho⟩)
/-- A seat's program, by its operation. -/
theorem qAt_kind {l : LayT} {ws : List OpT} {x : SeatT} {op : OpT} (ho : ws[x.at_]? = some op) : PtW (qAt l ws x) ∧ (op.kind = 4 → PushOk (qAt l ws x).pc) ∧ (op.kind ≠ 4 → PopOk (qAt l ws x).pc) := by
  have e : qAt l ws x = runQ l (startQ (op0F op) x.gone) x.log := by unfold qAt; rw [ho]
  rw [e]
  refine ⟨ptW_run _ (ptW_start _ _), fun hk => push_run _ ?_, fun hk => pop_run _ ?_⟩
  · unfold startQ
    rw [if_pos (show (op0F op).kind = 4 from hk)]
    trivial
  · unfold startQ
    rw [if_neg (show ¬ (op0F op).kind = 4 from hk)]
    trivial

/-! ### The law's bookkeeping -/
structure PtS where
  c : List Int
  own : List Int
  val : List Int
  is : List Bool
def isAt (l : List Bool) (i : Int) : Bool := l.getD i.toNat false
theorem isAt_set {m : List Bool} {c d : Int} {v : Bool} (h0 : 0 ≤ c) (h1 : c < m.length) (hd : 0 ≤ d) : isAt (m.set c.toNat v) d = if d = c then v else isAt m d := by
  unfold isAt
  have hc : c.toNat < m.length := by omega
  by_cases h : d = c
  · subst h
    rw [if_pos rfl, List.getD_eq_getElem?_getD, List.getElem?_set_self hc]; rfl
  · rw [if_neg h, List.getD_eq_getElem?_getD, List.getD_eq_getElem?_getD, List.getElem?_set_ne (by omega)]
def specS (c : List Int) (op : OpT) : List Int × Int × Bool := if op.kind = 4 then (op.a :: c, 0, true) else match c with
  | [] => ([], 0, false)
  | x :: xs => (xs, x, true)
def effB (steps : List StepT) (z : PtS) (s : StepT) : Bool := decide ((tellF steps s.who s.at_).1 = cellAt z.own s.who) && decide ((tellF steps s.who s.at_).2 = 0)
def ptS (steps : List StepT) (z : PtS) (s : StepT) : PtS :=
  if s.done then { z with own := z.own.set s.who.toNat 0 }
  else if effB steps z s then ⟨(specS z.c s.op).1, z.own.set s.who.toNat (cellAt z.own s.who + 1), z.val.set s.who.toNat (specS z.c s.op).2.1, z.is.set s.who.toNat (specS z.c s.op).2.2⟩
  else { z with own := z.own.set s.who.toNat (cellAt z.own s.who + 1) }
structure PtOk (l : LayT) (n : Nat) (steps : List StepT) (z : PtS) (m : List Int) (s : StepT) : Prop where
  w0 : 0 ≤ s.who
  w1 : s.who < n
  own : z.own.length = n
  val : z.val.length = n
  is : z.is.length = n
  ends : s.done = true → (s.out.err = 0 → s.out.is = isAt z.is s.who ∧ s.out.val = cellAt z.val s.who) ∧ (s.out.err ≠ 0 → s.out.err = 8 ∧ s.out.is = false) ∧ 0 ≤ s.out.point ∧ s.out.point < cellAt z.own s.who
  acc : s.done = false → faultF m.length s.acc = 0 ∧ rowF l (memS m s) 0 = (ptS steps z s).c ∧ CellsLt (memS m s)
  len : m.length = l.size.toNat
  kind : s.op.kind = 4 ∨ s.op.kind = 5
  owns : 0 ≤ cellAt z.own s.who ∧ cellAt z.own s.who ≤ 100000
  cl : z.c.length ≤ 100
def ptZ0 (n : Nat) : PtS := ⟨[], List.replicate n 0, List.replicate n 0, List.replicate n false⟩
def PtAll (l : LayT) (n : Nat) (steps : List StepT) (m0 : List Int) (st : List StepT) : Prop := ∀ (i : Nat) (s : StepT), st[i]? = some s → PtOk l n steps ((st.take i).foldl (ptS steps) (ptZ0 n)) ((st.take i).foldl memS m0) s
theorem ptAll_snoc {l : LayT} {n : Nat} {steps : List StepT} {m0 : List Int} {st : List StepT} {s : StepT} (h : PtAll l n steps m0 st) (hs : PtOk l n steps (st.foldl (ptS steps) (ptZ0 n)) (st.foldl memS m0) s) : PtAll l n steps m0 (st ++ [s]) := by
  intro i x hx
  rcases Nat.lt_trichotomy i st.length with hi | hi | hi
  · rw [List.getElem?_append_left hi] at hx
    rw [List.take_append_of_le_length (by omega)]
    exact h i x hx
  · subst hi
    rw [List.getElem?_append_right (by omega)] at hx
    simp at hx
    subst hx
    rw [List.take_append_of_le_length (by omega), List.take_length]
    exact hs
  · rw [List.getElem?_eq_none (by simp; omega)] at hx
    cases hx
/-- What is known of a seat that has an operation under way. -/
structure PtSeat (steps : List StepT) (z : PtS) (V : Vw) (w : Nat) (a : Nat) (op : OpT) (q : Q) : Prop where
  own : cellAt z.own w = q.made
  out : ∀ v b e, outPc V.nd q.pc = some (v, b, e) → (e = 0 → v = cellAt z.val w ∧ b = isAt z.is w) ∧ (e ≠ 0 → e = 8 ∧ b = false)
  look : ∀ u b, q.pc = .g2 u b → (tellF steps w a).1 = b → cellAt z.val w = 0 ∧ isAt z.is w = false
  push : ∀ n, ((q.pc = .p1 n) ∨ (∃ u, q.pc = .p2 n u) ∨ ∃ u, q.pc = .p3 n u) → V.nd n 1 = op.a
structure PtJ (p : PlayT) (i : Nat) (s : PSt) (V : Vw) (T : List Int) : Prop where
  ob : ∀ w : Nat, cellAt (s.out.foldl (ptS (playedF p).steps) (ptZ0 p.want.length)).own w ≤ i
  all : PtAll (layP p) p.want.length (playedF p).steps (beginF (layP p)) s.out
  mem : s.out.foldl memS (beginF (layP p)) = s.m
  lt : CellsLt s.m
  own : (s.out.foldl (ptS (playedF p).steps) (ptZ0 p.want.length)).own.length = p.want.length
  val : (s.out.foldl (ptS (playedF p).steps) (ptZ0 p.want.length)).val.length = p.want.length
  is : (s.out.foldl (ptS (playedF p).steps) (ptZ0 p.want.length)).is.length = p.want.length
  c : (s.out.foldl (ptS (playedF p).steps) (ptZ0 p.want.length)).c = T.map fun n => V.nd n 1
  seat : ∀ (w : Nat) (x : SeatT) (ws : List OpT) (op : OpT), s.seats[w]? = some x → p.want[w]? = some ws → ws[x.at_]? = some op → PtSeat (playedF p).steps (s.out.foldl (ptS (playedF p).steps) (ptZ0 p.want.length)) V w x.at_ op (qAt (layP p) ws x)
/-- Which accesses are points. -/
theorem eff_is {l : LayT} {S N K : Nat} {V : Vw} {qs : List Q} {F T : List Int} (hN : N ≤ 100) (hI : Inv S N K V qs F T) {w : Nat} {q : Q} (hq : qs[w]? = some q) (hw : PtW q) (hf : ∀ o, q.pc ≠ .fin o) {v0 : Int} {R : List ResT} {o : OutT} (hr : (runQ l (tell l q (actV S w v0 V q.pc).2) R).pc = .fin o) :
    (∃ n u, q.pc = .p3 n u ∧ V.tp = u ∧ o.point = q.made ∧ o.err = 0) ∨ (∃ u be, q.pc = .d2 u be ∧ V.tp = u ∧ o.point = q.made ∧ o.err = 0) ∨ (q.pc = .g1 ∧ T = [] ∧ o.point = q.made) ∨ ((∀ n u, q.pc = .p3 n u → V.tp ≠ u) ∧ (∀ u be, q.pc = .d2 u be → V.tp ≠ u) ∧ (o.point ≠ q.made ∨ o.err ≠ 0)) := by
  have hw' := ptW_tell (l := l) (r := (actV S w v0 V q.pc).2) hw hf
  have hm := made_tell (l := l) (r := (actV S w v0 V q.pc).2) hf
  have hset : ∀ a, ptPc (tell l q (actV S w v0 V q.pc).2).pc = some a → o.point = a := fun a ha => by
    have := pt_run (l := l) R ha
    rw [hr] at this
    cases this; rfl
  -- later points
  have hlate : ptPc (tell l q (actV S w v0 V q.pc).2).pc = none → (∀ u a, (tell l q (actV S w v0 V q.pc).2).pc ≠ .g2 u a) → o.point ≠ q.made := fun h1 h2 => by
    rcases pt_later R hw' h1 hr with ⟨u, a, h3, _, _⟩ | h3
    · exact absurd h3 (h2 u a)
    · omega
  -- points behind us
  have hback : ∀ a, ptPc q.pc = some a → o.point ≠ q.made := fun a ha => by
    have h1 := hset a (pt_tell ha)
    have h2 : 0 ≤ a ∧ a < q.made := by
      unfold PtW at hw
      split at hw
      · rename_i hg; rw [hg] at ha; cases ha
      · exact hw a ha
    omega
  obtain ⟨pc, made, gone, e0⟩ := q
  cases pc with
  | p3 n u =>
    by_cases hc : V.tp = u
    · left
      have e : tell l ⟨.p3 n u, made, gone, e0⟩ (actV S w v0 V (.p3 n u)).2 = ⟨.fin ⟨0, true, 0, made, []⟩, made + 1, gone, e0⟩ := by simp only [actV, hc, if_true, tell]
      simp only at hr
      rw [e] at hr
      have h2 := fin_run (l := l) R (q := ⟨.fin ⟨0, true, 0, made, []⟩, made + 1, gone, e0⟩) rfl
      rw [hr] at h2
      cases h2
      exact ⟨n, u, rfl, hc, rfl, rfl⟩
    · right; right; right
      have e : tell l ⟨.p3 n u, made, gone, e0⟩ (actV S w v0 V (.p3 n u)).2 = ⟨.p1 n, made + 1, gone, e0⟩ := by simp only [actV, hc, if_false, tell, Bool.false_eq_true]
      refine ⟨fun n' u' h => by cases h; exact hc, (fun u' be h => by cases h), .inl (hlate (by simp only; rw [e]; rfl) (fun u' a => by simp only; rw [e]; simp))⟩
  | d2 u be =>
    by_cases hc : V.tp = u
    · right; left
      have e : tell l ⟨.d2 u be, made, gone, e0⟩ (actV S w v0 V (.d2 u be)).2 = ⟨.d3 (ofW u).idx made, made + 1, gone, e0⟩ := by simp only [actV, hc, if_true, tell]
      have h1 := hset made (by simp only; rw [e]; rfl)
      have h2 := err_run (l := l) R (q := tell l ⟨.d2 u be, made, gone, e0⟩ (actV S w v0 V (.d2 u be)).2) (a := made) (by rw [e]; rfl) (by rw [e]; intro o h; cases h) o hr
      exact ⟨u, be, rfl, hc, h1, h2⟩
    · right; right; right
      have e : tell l ⟨.d2 u be, made, gone, e0⟩ (actV S w v0 V (.d2 u be)).2 = ⟨.g1, made + 1, gone, e0⟩ := by simp only [actV, hc, if_false, tell, Bool.false_eq_true]
      refine ⟨(fun n' u' h => by cases h), (fun u' be' h => by cases h; exact hc), .inl (hlate (by simp only; rw [e]; rfl) (fun u' a => by simp only; rw [e]; simp))⟩
  | g1 =>
    rcases pt_later R hw' rfl hr with ⟨u, a, h3, h4, h5⟩ | h3
    · right; right; left
      have h3 : Pc.g2 V.tp made = Pc.g2 u a := h3
      injection h3 with h6 h7
      subst h6
      rw [hI.tIdx hN] at h4
      refine ⟨rfl, ?_, by rw [h5, ← h7]⟩
      cases T with
      | nil => rfl
      | cons y T => have := hI.inT (n := y) (by simp); simp at h4; omega
    · right; right; right
      refine ⟨(fun n' u' h => by cases h), (fun u' be' h => by cases h), .inl ?_⟩
      simp only at hm h3 ⊢
      omega
  | t1 =>
    right; right; right
    refine ⟨(fun n' u' h => by cases h), (fun u' be' h => by cases h), ?_⟩
    have e : tell l ⟨.t1, made, gone, e0⟩ (actV S w v0 V .t1).2 = if (ofW V.fr).idx = 0 then ⟨.fin ⟨0, false, 8, made, []⟩, made + 1, gone, e0⟩ else ⟨.t2 V.fr, made + 1, gone, e0⟩ := rfl
    by_cases hi : (ofW V.fr).idx = 0
    · right
      rw [if_pos hi] at e
      simp only at hr
      rw [e] at hr
      have h2 := fin_run (l := l) R (q := ⟨.fin ⟨0, false, 8, made, []⟩, made + 1, gone, e0⟩) rfl
      rw [hr] at h2
      cases h2
      simp
    · rw [if_neg hi] at e
      exact .inl (hlate (by simp only; rw [e]; rfl) (fun u' a => by simp only; rw [e]; simp))
  | t3 f lk =>
    right; right; right
    refine ⟨(fun n' u' h => by cases h), (fun u' be' h => by cases h), .inl (hlate ?_ ?_)⟩
    · by_cases hc : V.fr = f <;> simp [actV, tell, hc, ptPc]
    · intro u a; by_cases hc : V.fr = f <;> simp [actV, tell, hc]
  | g2 u a =>
    right; right; right
    refine ⟨(fun n' u' h => by cases h), (fun u' be' h => by cases h), .inl ?_⟩
    obtain ⟨h1, h2⟩ := hw
    simp only at h1 h2
    have e : tell l ⟨.g2 u a, made, gone, e0⟩ (actV S w v0 V (.g2 u a)).2 = if V.er = e0 then (if (ofW u).idx = 0 then (if e0 = 0 then ⟨.fin ⟨0, false, 0, a, []⟩, made + 1, gone, e0⟩ else ⟨.ce a, made + 1, gone, e0⟩) else ⟨.d1 u, made + 1, gone, e0⟩) else ⟨.g3 V.er, made + 1, gone, e0⟩ := rfl
    simp only at hset hlate ⊢
    by_cases he : V.er = e0
    · by_cases hi : (ofW u).idx = 0
      · by_cases hz : e0 = 0
        · rw [if_pos he, if_pos hi, if_pos hz] at e
          have := hset a (by rw [e]; rfl)
          omega
        · rw [if_pos he, if_pos hi, if_neg hz] at e
          have := hset a (by rw [e]; rfl)
          omega
      · rw [if_pos he, if_neg hi] at e
        exact hlate (by rw [e]; rfl) (fun u' a' => by rw [e]; simp)
    · rw [if_neg he] at e
      exact hlate (by rw [e]; rfl) (fun u' a' => by rw [e]; simp)
  | t2 f => right; right; right; exact ⟨(fun n' u' h => by cases h), (fun u' be' h => by cases h), .inl (hlate rfl (fun u' a => by simp [tell]))⟩
  | t4 n => right; right; right; exact ⟨(fun n' u' h => by cases h), (fun u' be' h => by cases h), .inl (hlate rfl (fun u' a => by simp [tell]))⟩
  | t5 n b => right; right; right; exact ⟨(fun n' u' h => by cases h), (fun u' be' h => by cases h), .inl (hlate rfl (fun u' a => by simp [tell]))⟩
  | p0 n => right; right; right; exact ⟨(fun n' u' h => by cases h), (fun u' be' h => by cases h), .inl (hlate rfl (fun u' a => by simp [tell]))⟩
  | p1 n => right; right; right; exact ⟨(fun n' u' h => by cases h), (fun u' be' h => by cases h), .inl (hlate rfl (fun u' a => by simp [tell]))⟩
  | p2 n u => right; right; right; exact ⟨(fun n' u' h => by cases h), (fun u' be' h => by cases h), .inl (hlate rfl (fun u' a => by simp [tell]))⟩
  | g3 er => right; right; right; exact ⟨(fun n' u' h => by cases h), (fun u' be' h => by cases h), .inl (hlate rfl (fun u' a => by simp [tell]))⟩
  | d1 u => right; right; right; exact ⟨(fun n' u' h => by cases h), (fun u' be' h => by cases h), .inl (hlate rfl (fun u' a => by simp [tell]))⟩
  | fin o' => exact absurd rfl (hf o')
  | _ => right; right; right; exact ⟨(fun n' u' h => by cases h), (fun u' be' h => by cases h), .inl (hback _ rfl)⟩

/-- Values that no program may write. -/
theorem nd_keep {S N K : Nat} {V : Vw} {qs : List Q} {F T : List Int} (hI : Inv S N K V qs F T) {w : Nat} {q : Q} (hq : qs[w]? = some q) (v0 : Int) {n : Int} (h : n ∈ T ∨ (∃ (j : Nat) (q' : Q), j ≠ w ∧ qs[j]? = some q' ∧ n ∈ own q') ∨ ∀ m, q.pc ≠ .p0 m) : (actV S w v0 V q.pc).1.nd n 1 = V.nd n 1 := by
  obtain ⟨pc, made, gone, e0⟩ := q
  have hne : ∀ (a i v : Int), i ≠ 1 → (V.setNd a i v).nd n 1 = V.nd n 1 := fun a i v hi => by
    show (if n = a ∧ 1 = i then v else V.nd n 1) = _
    rw [if_neg (fun e => hi e.2.symm)]
  cases pc with
  | t3 f lk => show (if V.fr = f then _ else _ : Vw × ResT).1.nd n 1 = _; split <;> rfl
  | p3 m u => show (if V.tp = u then _ else _ : Vw × ResT).1.nd n 1 = _; split <;> rfl
  | d2 u be => show (if V.tp = u then _ else _ : Vw × ResT).1.nd n 1 = _; split <;> rfl
  | v3 v a held g gs stay f => show (if V.fr = f then _ else _ : Vw × ResT).1.nd n 1 = _; split <;> rfl
  | t5 m b => exact hne _ _ _ (by omega)
  | p2 m u => exact hne _ _ _ (by omega)
  | v2 v a held g gs stay f => exact hne _ _ _ (by omega)
  | p0 m =>
    obtain ⟨_, h2, _, h4⟩ := hI.ownNot hq (show m ∈ own ⟨.p0 m, made, gone, e0⟩ from List.mem_cons_self)
    show (if n = m ∧ (1 : Int) = 1 then v0 else V.nd n 1) = _
    rw [if_neg]
    rintro ⟨rfl, _⟩
    rcases h with h | ⟨j, q', hj, hq', hn⟩ | h
    · exact h2 h
    · exact h4 j q' hj hq' hn
    · exact h _ rfl
  | _ => rfl
theorem outPc_own {nd : Int → Int → Int} {q : Q} {r : Int × Bool × Int} (h : outPc nd q.pc = some r) : (∃ n a, q.pc = .d3 n a ∧ r = (nd n 1, true, 0)) ∨ ∀ nd', outPc nd' q.pc = some r := by
  obtain ⟨pc, made, gone, e0⟩ := q
  cases pc with
  | d3 n a => cases h; exact .inl ⟨n, a, rfl, rfl⟩
  | _ => exact .inr fun _ => h
/-- Another seat's turn changes nothing here. -/
theorem seat_other {S N K : Nat} {V : Vw} {qs : List Q} {F T : List Int} (hI : Inv S N K V qs F T) {w j : Nat} {q q' : Q} (hq : qs[w]? = some q) (hj : j ≠ w) (hq' : qs[j]? = some q') (v0 : Int) {steps : List StepT} {z z' : PtS} {a : Nat} {op : OpT} (hs : PtSeat steps z V j a op q') (ho : cellAt z'.own j = cellAt z.own j) (hv : cellAt z'.val j = cellAt z.val j) (hi : isAt z'.is j = isAt z.is j) : PtSeat steps z' (actV S w v0 V q.pc).1 j a op q' := by
  have key : ∀ n ∈ own q', (actV S w v0 V q.pc).1.nd n 1 = V.nd n 1 := fun n hn => nd_keep hI hq v0 (.inr (.inl ⟨j, q', hj, hq', hn⟩))
  refine ⟨by rw [ho]; exact hs.own, fun v b e he => ?_, fun u b h1 h2 => by rw [hv, hi]; exact hs.look u b h1 h2, fun n hn => ?_⟩
  · rw [hv, hi]
    rcases outPc_own he with ⟨n, c, h1, h2⟩ | h1
    · rw [key n (by unfold own; rw [h1]; exact List.mem_cons_self)] at h2
      refine hs.out v b e ?_
      rw [h1, h2]; rfl
    · exact hs.out v b e (h1 _)
  · rw [key n (by unfold own; rcases hn with h | ⟨u, h⟩ | ⟨u, h⟩ <;> (rw [h]; exact List.mem_cons_self))]
    exact hs.push n hn
/-- A seat's own turn that is no point. -/
theorem seat_quiet {l : LayT} {S N K : Nat} {V : Vw} {qs : List Q} {F T : List Int} (hI : Inv S N K V qs F T) {w : Nat} {q : Q} (hq : qs[w]? = some q) {steps : List StepT} {z z' : PtS} {a : Nat} {op : OpT} (hs : PtSeat steps z V w a op q) (hf : ∀ o, q.pc ≠ .fin o) (ho : cellAt z'.own w = cellAt z.own w + 1) (hv : cellAt z'.val w = cellAt z.val w) (hi : isAt z'.is w = isAt z.is w)
    (h3 : ∀ n u, q.pc = .p3 n u → V.tp ≠ u) (h2 : ∀ u be, q.pc = .d2 u be → V.tp ≠ u) {R : List ResT} {o : OutT} (hr : (runQ l (tell l q (actV S w op.a V q.pc).2) R).pc = .fin o) (ht : tellF steps w a = (o.point, o.err)) (hno : o.point ≠ q.made ∨ o.err ≠ 0) : PtSeat steps z' (actV S w op.a V q.pc).1 w a op (tell l q (actV S w op.a V q.pc).2) := by
  have hm := made_tell (l := l) (r := (actV S w op.a V q.pc).2) hf
  have hset : ∀ b, ptPc (tell l q (actV S w op.a V q.pc).2).pc = some b → (tellF steps w a).1 = b := fun b hb => by
    have := pt_run (l := l) R hb
    rw [hr] at this
    cases this
    rw [ht]
  have hoo : cellAt z'.own w = (tell l q (actV S w op.a V q.pc).2).made := by rw [ho, hs.own, hm]; omega
  have hkeep : (∀ m, q.pc ≠ .p0 m) → ∀ n, (actV S w op.a V q.pc).1.nd n 1 = V.nd n 1 := fun hp0 n => nd_keep hI hq op.a (.inr (.inr hp0))
  -- nothing told, nothing looked at, nothing pushed
  have none_ : ∀ pc' : Pc, (tell l q (actV S w op.a V q.pc).2).pc = pc' → (∀ nd, outPc nd pc' = none) → (∀ u b, pc' ≠ .g2 u b) → (∀ n, ¬ ((pc' = .p1 n) ∨ (∃ u, pc' = .p2 n u) ∨ ∃ u, pc' = .p3 n u)) → PtSeat steps z' (actV S w op.a V q.pc).1 w a op (tell l q (actV S w op.a V q.pc).2) := fun pc' e h1 h2 h3 => by
    refine ⟨hoo, fun v b e' h => ?_, fun u b h _ => ?_, fun n h => ?_⟩
    · rw [e, h1] at h; cases h
    · rw [e] at h; exact absurd h (h2 u b)
    · rw [e] at h; exact absurd h (h3 n)
  -- something told
  have told : ∀ (pc' : Pc) (v : Int) (b : Bool) (e0 : Int), (tell l q (actV S w op.a V q.pc).2).pc = pc' → (∀ nd, outPc nd pc' = some (v, b, e0)) → ((e0 = 0 → v = cellAt z.val w ∧ b = isAt z.is w) ∧ (e0 ≠ 0 → e0 = 8 ∧ b = false)) → PtSeat steps z' (actV S w op.a V q.pc).1 w a op (tell l q (actV S w op.a V q.pc).2) := fun pc' v b e0 e h1 h4 => by
    have hg : ∀ u b, pc' ≠ .g2 u b := fun u b h => by have := h1 V.nd; rw [h] at this; cases this
    have hp : ∀ n, ¬ ((pc' = .p1 n) ∨ (∃ u, pc' = .p2 n u) ∨ ∃ u, pc' = .p3 n u) := fun n h => by
      have := h1 V.nd
      rcases h with h | ⟨u, h⟩ | ⟨u, h⟩ <;> (rw [h] at this; cases this)
    refine ⟨hoo, fun v' b' e' h => ?_, fun u b h _ => ?_, fun n h => ?_⟩
    · rw [e, h1] at h; cases h; rw [hv, hi]; exact h4
    · rw [e] at h; exact absurd h (hg u b)
    · rw [e] at h; exact absurd h (hp n)
  have push : ∀ (pc' : Pc) (n : Int), (tell l q (actV S w op.a V q.pc).2).pc = pc' → (∀ nd, outPc nd pc' = none) → (∀ u b, pc' ≠ .g2 u b) → (∀ m, ((pc' = .p1 m) ∨ (∃ u, pc' = .p2 m u) ∨ ∃ u, pc' = .p3 m u) → m = n) → (actV S w op.a V q.pc).1.nd n 1 = op.a → PtSeat steps z' (actV S w op.a V q.pc).1 w a op (tell l q (actV S w op.a V q.pc).2) := fun pc' n e h1 h2 h3 h4 => by
    refine ⟨hoo, fun v b e' h => ?_, fun u b h _ => ?_, fun m h => ?_⟩
    · rw [e, h1] at h; cases h
    · rw [e] at h; exact absurd h (h2 u b)
    · rw [e] at h; rw [h3 m h]; exact h4
  obtain ⟨pc, made, gone, e0⟩ := q
  cases pc with
  | t1 =>
    by_cases hc : (ofW V.fr).idx = 0
    · exact told (.fin ⟨0, false, 8, made, []⟩) 0 false 8 (by simp [tell, actV, hc]) (fun _ => rfl) ⟨fun h => absurd h (by decide), fun _ => ⟨rfl, rfl⟩⟩
    · exact none_ (.t2 V.fr) (by simp [tell, actV, hc]) (fun _ => rfl) (by simp) (by simp)
  | t2 f => exact none_ (.t3 f (V.nd (ofW f).idx 7)) rfl (fun _ => rfl) (by simp) (by simp)
  | t3 f lk =>
    by_cases hc : V.fr = f
    · exact none_ (.t4 (ofW f).idx) (by simp [tell, actV, hc]) (fun _ => rfl) (by simp) (by simp)
    · exact none_ .t1 (by simp [tell, actV, hc]) (fun _ => rfl) (by simp) (by simp)
  | t4 n => exact none_ (.t5 n V.er) rfl (fun _ => rfl) (by simp) (by simp)
  | t5 n b => exact none_ (.p0 n) rfl (fun _ => rfl) (by simp) (by simp)
  | p0 n =>
    refine push (.p1 n) n rfl (fun _ => rfl) (by simp) (fun m h => by simpa [eq_comm] using h) ?_
    show (if n = n ∧ (1 : Int) = 1 then op.a else V.nd n 1) = _
    rw [if_pos ⟨rfl, rfl⟩]
  | p1 n =>
    refine push (.p2 n V.tp) n rfl (fun _ => rfl) (by simp) (fun m h => ?_) ?_
    · rcases h with h | ⟨u, h⟩ | ⟨u, h⟩ <;> cases h; rfl
    · rw [hkeep (by simp)]; exact hs.push n (.inl rfl)
  | p2 n u =>
    refine push (.p3 n u) n rfl (fun _ => rfl) (by simp) (fun m h => ?_) ?_
    · rcases h with h | ⟨u, h⟩ | ⟨u, h⟩ <;> cases h; rfl
    · rw [hkeep (by simp)]; exact hs.push n (.inr (.inl ⟨u, rfl⟩))
  | p3 n u =>
    have hc := h3 n u rfl
    refine push (.p1 n) n (by simp [tell, actV, hc]) (fun _ => rfl) (by simp) (fun m h => ?_) ?_
    · rcases h with h | ⟨u, h⟩ | ⟨u, h⟩ <;> cases h; rfl
    · rw [hkeep (by simp)]; exact hs.push n (.inr (.inr ⟨u, rfl⟩))
  | g1 =>
    refine ⟨hoo, (fun v b e h => by cases h), fun u b h h9 => ?_, (fun n h => by rcases h with h | ⟨u, h⟩ | ⟨u, h⟩ <;> cases h)⟩
    exfalso
    have h8 : PopOk (runQ l (tell l ⟨.g1, made, gone, e0⟩ (actV S w op.a V .g1).2) R).pc := pop_run R trivial
    simp only at hr
    rw [hr] at h8
    have h8 : o.err = 0 := h8
    have h : Pc.g2 V.tp made = .g2 u b := h
    cases h
    rw [ht] at h9
    simp only at h9 hno
    rcases hno with hno | hno
    · exact hno h9
    · exact hno h8
  | g2 u b =>
    by_cases he : V.er = e0
    · by_cases hx : (ofW u).idx = 0
      · by_cases hz : e0 = 0
        · have e : tell l ⟨.g2 u b, made, gone, e0⟩ (actV S w op.a V (.g2 u b)).2 = ⟨.fin ⟨0, false, 0, b, []⟩, made + 1, gone, e0⟩ := by
            show (if V.er = e0 then _ else _) = _
            rw [if_pos he, if_pos hx, if_pos hz]
          have h5 := hs.look u b rfl (hset b (by simp only; rw [e]; rfl))
          exact told (.fin ⟨0, false, 0, b, []⟩) 0 false 0 (by simp only; rw [e]) (fun _ => rfl) ⟨fun _ => ⟨h5.1.symm, h5.2.symm⟩, fun h => absurd rfl h⟩
        · have e : tell l ⟨.g2 u b, made, gone, e0⟩ (actV S w op.a V (.g2 u b)).2 = ⟨.ce b, made + 1, gone, e0⟩ := by
            show (if V.er = e0 then _ else _) = _
            rw [if_pos he, if_pos hx, if_neg hz]
          have h5 := hs.look u b rfl (hset b (by simp only; rw [e]; rfl))
          exact told (.ce b) 0 false 0 (by simp only; rw [e]) (fun _ => rfl) ⟨fun _ => ⟨h5.1.symm, h5.2.symm⟩, fun h => absurd rfl h⟩
      · have e : tell l ⟨.g2 u b, made, gone, e0⟩ (actV S w op.a V (.g2 u b)).2 = ⟨.d1 u, made + 1, gone, e0⟩ := by
          show (if V.er = e0 then _ else _) = _
          rw [if_pos he, if_neg hx]
        exact none_ (.d1 u) (by simp only; rw [e]) (fun _ => rfl) (by simp) (by simp)
    · have e : tell l ⟨.g2 u b, made, gone, e0⟩ (actV S w op.a V (.g2 u b)).2 = ⟨.g3 V.er, made + 1, gone, e0⟩ := by
        show (if V.er = e0 then _ else _) = _
        rw [if_neg he]
        rfl
      exact none_ (.g3 V.er) (by simp only; rw [e]) (fun _ => rfl) (by simp) (by simp)
  | g3 er => exact none_ .g1 rfl (fun _ => rfl) (by simp) (by simp)
  | ce b => exact told _ _ _ _ rfl (fun _ => rfl) (hs.out _ _ _ rfl)
  | d1 u => exact none_ (.d2 u (V.nd (ofW u).idx 0)) rfl (fun _ => rfl) (by simp) (by simp)
  | d2 u be =>
    have hc := h2 u be rfl
    exact none_ .g1 (by simp [tell, actV, hc]) (fun _ => rfl) (by simp) (by simp)
  | d3 n b =>
    by_cases hz : e0 = 0
    · exact told (.r1 n (V.nd n 1) b) _ _ _ (by show (if e0 = 0 then _ else _ : Q).pc = _; rw [if_pos hz]; rfl) (fun _ => rfl) (hs.out _ _ _ rfl)
    · exact told (.c n (V.nd n 1) b) _ _ _ (by show (if e0 = 0 then _ else _ : Q).pc = _; rw [if_neg hz]; rfl) (fun _ => rfl) (hs.out _ _ _ rfl)
  | c n v b => exact told _ _ _ _ rfl (fun _ => rfl) (hs.out _ _ _ rfl)
  | r1 n v b => exact told _ _ _ _ rfl (fun _ => rfl) (hs.out _ _ _ rfl)
  | r2 n v b er =>
    refine told _ v true 0 rfl (fun nd => ?_) (hs.out _ _ _ rfl)
    show outPc nd (if ((gone.length : Int) + 1) < 2 * l.seats then _ else _ : Q).pc = _
    split
    · rfl
    · exact (pt_scan _ _ _ _ _ _ _).2.2 nd
  | rs v b held c cs => exact told _ v true 0 rfl (fun nd => (pt_scan _ _ _ _ _ _ _).2.2 nd) (hs.out _ _ _ rfl)
  | s1 v b held g gs stay =>
    refine told _ v true 0 rfl (fun nd => ?_) (hs.out _ _ _ rfl)
    show outPc nd (if held.any (inB (max1 (V.nd g.1 6)) g.2) = true then _ else _ : Q).pc = _
    split
    · exact (pt_sift _ _ _ _ _ _ _ _).2.2 nd
    · rfl
  | v1 v b held g gs stay => exact told _ _ _ _ rfl (fun _ => rfl) (hs.out _ _ _ rfl)
  | v2 v b held g gs stay f => exact told _ _ _ _ rfl (fun _ => rfl) (hs.out _ _ _ rfl)
  | v3 v b held g gs stay f =>
    refine told _ v true 0 rfl (fun nd => ?_) (hs.out _ _ _ rfl)
    show outPc nd (if (actV S w op.a V (.v3 v b held g gs stay f)).2.ok = true then _ else _ : Q).pc = _
    split
    · exact (pt_sift _ _ _ _ _ _ _ _).2.2 nd
    · rfl
  | fin o' => exact absurd rfl (hf o')

/-- The stack's values after a step. -/
theorem vals_keep {S N K : Nat} {V : Vw} {qs : List Q} {F T : List Int} (hI : Inv S N K V qs F T) {w : Nat} {q : Q} (hq : qs[w]? = some q) (v0 : Int) : (T.map fun n => (actV S w v0 V q.pc).1.nd n 1) = T.map fun n => V.nd n 1 :=
  List.map_congr_left fun _ hn => nd_keep hI hq v0 (.inl hn)
theorem ptS_done {steps : List StepT} {z : PtS} {st : StepT} (h : st.done = true) : ptS steps z st = { z with own := z.own.set st.who.toNat 0 } := by unfold ptS; rw [if_pos h]
theorem ptS_eff {steps : List StepT} {z : PtS} {st : StepT} (h : st.done = false) (he : (tellF steps st.who st.at_).1 = cellAt z.own st.who) (h0 : (tellF steps st.who st.at_).2 = 0) : ptS steps z st = ⟨(specS z.c st.op).1, z.own.set st.who.toNat (cellAt z.own st.who + 1), z.val.set st.who.toNat (specS z.c st.op).2.1, z.is.set st.who.toNat (specS z.c st.op).2.2⟩ := by
  unfold ptS effB
  rw [if_neg (by simp [h]), if_pos (by simp [he, h0])]
theorem ptS_quiet {steps : List StepT} {z : PtS} {st : StepT} (h : st.done = false) (he : (tellF steps st.who st.at_).1 ≠ cellAt z.own st.who ∨ (tellF steps st.who st.at_).2 ≠ 0) : ptS steps z st = { z with own := z.own.set st.who.toNat (cellAt z.own st.who + 1) } := by
  unfold ptS effB
  rw [if_neg (by simp [h]), if_neg]
  simp only [Bool.and_eq_true, decide_eq_true_eq]
  rintro ⟨h1, h2⟩
  rcases he with he | he
  · exact he h1
  · exact he h2
theorem ptS_own {steps : List StepT} {z : PtS} {st : StepT} (h : st.done = false) : (ptS steps z st).own = z.own.set st.who.toNat (cellAt z.own st.who + 1) := by
  unfold ptS
  rw [if_neg (by simp [h])]
  split <;> rfl
theorem ptS_len {steps : List StepT} {z : PtS} {st : StepT} : (ptS steps z st).own.length = z.own.length ∧ (ptS steps z st).val.length = z.val.length ∧ (ptS steps z st).is.length = z.is.length := by
  unfold ptS
  split
  · simp
  · split <;> simp
/-- What a turn does to what is kept of the seats: the one's own, and the others'. -/
theorem ptS_there {steps : List StepT} {z : PtS} {st : StepT} {j : Nat} {w : Nat} (hw : st.who = w) (hj : j ≠ w) (l1 : w < z.own.length) (l2 : w < z.val.length) (l3 : w < z.is.length) : cellAt (ptS steps z st).own j = cellAt z.own j ∧ cellAt (ptS steps z st).val j = cellAt z.val j ∧ isAt (ptS steps z st).is j = isAt z.is j := by
  have k1 : ∀ x, cellAt (z.own.set st.who.toNat x) j = cellAt z.own j := fun x => by rw [hw, cellAt_set (by omega) (by omega) (by omega), if_neg (by omega)]
  have k2 : ∀ x, cellAt (z.val.set st.who.toNat x) j = cellAt z.val j := fun x => by rw [hw, cellAt_set (by omega) (by omega) (by omega), if_neg (by omega)]
  have k3 : ∀ x, isAt (z.is.set st.who.toNat x) j = isAt z.is j := fun x => by rw [hw, isAt_set (by omega) (by omega) (by omega), if_neg (by omega)]
  unfold ptS
  split
  · exact ⟨k1 _, rfl, rfl⟩
  · split
    · exact ⟨k1 _, k2 _, k3 _⟩
    · exact ⟨k1 _, rfl, rfl⟩
def FutW (p : PlayT) (s : PSt) : Prop := ∀ (w : Nat) (x : SeatT) (ws : List OpT), s.seats[w]? = some x → p.want[w]? = some ws → x.at_ < ws.length → ∃ R o, (runQ (layP p) (qAt (layP p) ws x) R).pc = .fin o ∧ tellF (playedF p).steps w x.at_ = (o.point, o.err)
theorem pt_step {p : PlayT} (hp : PlayB p) {i : Nat} {s s' : PSt} {V V' : Vw} {F T F' T' : List Int} (hi : i < allF p) (hG : G p i s V F T) (hS : StepR p (whoF p i) s V F T s' V' F' T') (hG' : G p (i + 1) s' V' F' T') (hF : FutW p s') (h : PtJ p i s V T) : PtJ p (i + 1) s' V' T' := by
  have hL := layP_lay p hp.g.ok.w1
  have hall : allF p ≤ 3200 := by have := hp.g.ok.w3; have := hp.g.ok.t; unfold allF; omega
  have hwl := whoF_lt hp.g.ok hi
  have hN8 : (1 + p.nodes % 8).toNat ≤ 8 := by omega
  have hcl := cells_step hp hi hG hS h.lt
  have hml : s.m.length = (layP p).size.toNat := hG.view.len
  have hrow' := row_is hL (by omega) hG'.view hG'.inv
  have hTl : T.length ≤ 8 := Nat.le_trans (nodup_le _ T (nodupT hG.inv) (fun x hx => hG.inv.inT hx)) hN8
  generalize hw : whoF p i = who at *
  cases hS with
  | idle => exact ⟨fun w => by have := h.ob w; omega, h.all, h.mem, h.lt, h.own, h.val, h.is, h.c, h.seat⟩
  | done x ws op q o hx hws ho hq hpc =>
    have hk := hp.g.k ws (List.mem_of_getElem? hws) op (List.mem_of_getElem? ho)
    have hs0 := h.seat who x ws op hx hws ho
    have e0 : qAt (layP p) ws x = q := by unfold qAt; rw [ho, hq]
    rw [e0] at hs0
    have hW := (qAt_kind (l := layP p) ho).1
    rw [e0] at hW
    obtain ⟨ob, all, mem, lt, own, val, is, cc, seat⟩ := h
    have hs1 := hs0.own
    have hob := ob who
    generalize hz : s.out.foldl (ptS (playedF p).steps) (ptZ0 p.want.length) = z at *
    generalize hst : (⟨who, x.at_, op0F op, x.gone, acc0, res0, true, { o with gone := q.gone }⟩ : StepT) = st at *
    have e1 : st.done = true := by rw [← hst]
    have ew : st.who = who := by rw [← hst]
    have ef := ptS_done (steps := (playedF p).steps) (z := z) e1
    have em : memS s.m st = s.m := by unfold memS; rw [if_pos e1]
    have hW' : 0 ≤ o.point ∧ o.point < q.made := by
      unfold PtW at hW
      rw [hpc] at hW
      exact hW _ rfl
    have hout := hs0.out o.val o.is o.err (by rw [hpc]; rfl)
    have hok : PtOk (layP p) p.want.length (playedF p).steps (s.out.foldl (ptS (playedF p).steps) (ptZ0 p.want.length)) (s.out.foldl memS (beginF (layP p))) st := by
      rw [hz, mem]
      refine ⟨by rw [ew]; omega, by rw [ew]; omega, own, val, is, fun _ => ?_, (fun e => by rw [e1] at e; cases e), hml, by rw [← hst]; exact hk, by rw [ew, hs1]; omega, by rw [cc, List.length_map]; omega⟩
      rw [ew, hs1, ← hst]
      exact ⟨fun e => ⟨(hout.1 e).2, (hout.1 e).1⟩, hout.2, hW'⟩
    have hset : ∀ w : Nat, cellAt (z.own.set st.who.toNat 0) w = if (w : Int) = who then 0 else cellAt z.own w := fun w => by rw [ew, cellAt_set (by omega) (by omega) (by omega)]
    refine ⟨fun w => ?_, ptAll_snoc all hok, ?_, lt, ?_, ?_, ?_, ?_, fun w y us op' hy hu ho' => ?_⟩
    · simp only [foldl_snoc, hz, ef, hset]
      have := ob w
      split <;> omega
    · simp only [foldl_snoc, mem, em]
    · simp only [foldl_snoc, hz, ef, List.length_set]; exact own
    · simp only [foldl_snoc, hz, ef]; exact val
    · simp only [foldl_snoc, hz, ef]; exact is
    · simp only [foldl_snoc, hz, ef]; exact cc
    · simp only [foldl_snoc, hz]
      simp only at hy
      by_cases hww : w = who
      · subst hww
        have hlt := (List.getElem?_eq_some_iff.1 hx).1
        rw [List.getElem?_set_self hlt] at hy
        cases hy
        rw [hws] at hu
        cases hu
        have e3 : qAt (layP p) ws ⟨x.at_ + 1, [], q.gone⟩ = startQ (op0F op') q.gone := by
          unfold qAt
          rw [ho']
          rfl
        rw [e3, ef]
        have hpc' : (startQ (op0F op') q.gone).pc = .t1 ∨ (startQ (op0F op') q.gone).pc = .g1 := by
          unfold startQ
          simp only
          split
          · exact .inl rfl
          · exact .inr rfl
        refine ⟨?_, fun v b e he => ?_, fun u b he _ => ?_, fun n he => ?_⟩
        · rw [hset, if_pos rfl]; rfl
        · rcases hpc' with e | e <;> (rw [e] at he; cases he)
        · rcases hpc' with e | e <;> (rw [e] at he; cases he)
        · rcases hpc' with e | e <;> (rw [e] at he; rcases he with he | ⟨u, he⟩ | ⟨u, he⟩ <;> cases he)
      · rw [List.getElem?_set_ne (by omega)] at hy
        have := seat w y us op' hy hu ho'
        obtain ⟨t1, t2, t3⟩ := ptS_there (steps := (playedF p).steps) (z := z) ew hww (by omega) (by omega) (by omega)
        exact ⟨by rw [t1]; exact this.own, by rw [t2, t3]; exact this.out, by rw [t2, t3]; exact this.look, this.push⟩
  | acc x ws op q hx hws ho hq hpc =>
    have hk := hp.g.k ws (List.mem_of_getElem? hws) op (List.mem_of_getElem? ho)
    have hs0 := h.seat who x ws op hx hws ho
    have hqg := qsOf_get (l := layP p) hx hws
    have e0 : qAt (layP p) ws x = q := by unfold qAt; rw [ho, hq]
    rw [e0] at hs0 hqg
    obtain ⟨hW, hPu, hPo⟩ := qAt_kind (l := layP p) ho
    rw [e0] at hW hPu hPo
    have hI := hG.inv
    have hact := acts hL hG.view (w := who) (v0 := op.a) (by omega) (by omega) ⟨by have := hI.er; omega, by have := hI.er; omega⟩ (inv_okPc hI hqg hpc)
    have hxl := (List.getElem?_eq_some_iff.1 hx).1
    have hal := (List.getElem?_eq_some_iff.1 ho).1
    obtain ⟨R, o, hr, ht⟩ := hF who _ ws (List.getElem?_set_self hxl) hws hal
    have e1q : qAt (layP p) ws { x with log := x.log ++ [(actV p.want.length who op.a V q.pc).2] } = tell (layP p) q (actV p.want.length who op.a V q.pc).2 := by
      unfold qAt
      simp only [ho]
      rw [runQ_snoc, hq]
    rw [e1q] at hr
    simp only at ht
    have heff := eff_is (by omega) hI hqg hW hpc hr
    obtain ⟨ob, all, mem, lt, own, val, is, cc, seat⟩ := h
    have hs1 := hs0.own
    have hob := ob who
    have hvk := vals_keep hI hqg op.a
    generalize hz : s.out.foldl (ptS (playedF p).steps) (ptZ0 p.want.length) = z at *
    generalize hst : (⟨who, x.at_, op0F op, x.gone, asks (layP p) who (topF (layP p) 0) op.a q.pc, (actV p.want.length who op.a V q.pc).2, false, out0⟩ : StepT) = st at *
    have e1 : st.done = false := by rw [← hst]
    have ew : st.who = who := by rw [← hst]
    have ea : st.at_ = x.at_ := by rw [← hst]
    have eo : st.op = op0F op := by rw [← hst]
    have ec : st.acc = asks (layP p) who (topF (layP p) 0) op.a q.pc := by rw [← hst]
    have em : memS s.m st = (turnF s.m (asks (layP p) who (topF (layP p) 0) op.a q.pc)).1 := by unfold memS; rw [if_neg (by simp [e1]), ec]
    have hown' : ∀ w : Nat, cellAt (ptS (playedF p).steps z st).own w = if (w : Int) = who then cellAt z.own who + 1 else cellAt z.own w := fun w => by rw [ptS_own e1, ew, cellAt_set (by omega) (by omega) (by omega)]
    -- what is kept, and the seat's own knowledge
    have key : (ptS (playedF p).steps z st).c = ((nxT V T q.pc).map fun n => (actV p.want.length who op.a V q.pc).1.nd n 1) ∧ PtSeat (playedF p).steps (ptS (playedF p).steps z st) (actV p.want.length who op.a V q.pc).1 who x.at_ op (tell (layP p) q (actV p.want.length who op.a V q.pc).2) := by
      have hmt := made_tell (l := layP p) (r := (actV p.want.length who op.a V q.pc).2) hpc
      have hoo : cellAt (ptS (playedF p).steps z st).own who = (tell (layP p) q (actV p.want.length who op.a V q.pc).2).made := by rw [hown', if_pos rfl, hs1, hmt]; omega
      have hE : o.point = q.made → o.err = 0 → ptS (playedF p).steps z st = ⟨(specS z.c st.op).1, z.own.set st.who.toNat (cellAt z.own st.who + 1), z.val.set st.who.toNat (specS z.c st.op).2.1, z.is.set st.who.toNat (specS z.c st.op).2.2⟩ := fun h1 h2 => ptS_eff e1 (by rw [ew, ea, ht, hs1]; exact h1) (by rw [ew, ea, ht]; exact h2)
      have hval : ∀ v, cellAt (z.val.set st.who.toNat v) who = v := fun v => by rw [ew, cellAt_set (by omega) (by omega) (by omega), if_pos rfl]
      have his : ∀ v, isAt (z.is.set st.who.toNat v) who = v := fun v => by rw [ew, isAt_set (by omega) (by omega) (by omega), if_pos rfl]
      rcases heff with ⟨n, u, h1, h2, h3, h4⟩ | ⟨u, be, h1, h2, h3, h4⟩ | ⟨h1, h2, h3⟩ | ⟨h1, h2, h3⟩
      · -- a push
        have hkd : op.kind = 4 := by
          rcases hk with hk | hk
          · exact hk
          · have := hPo (by omega); rw [h1] at this; exact absurd this id
        have hsp : specS z.c st.op = (op.a :: z.c, 0, true) := by rw [eo]; unfold specS; rw [if_pos (show (op0F op).kind = 4 from hkd)]; rfl
        have e := hE h3 h4
        rw [hsp] at e
        have hpu := hs0.push n (.inr (.inr ⟨u, h1⟩))
        obtain ⟨pc, made, gone, q0⟩ := q
        simp only at h1
        subst h1
        have e5 : actV p.want.length who op.a V (.p3 n u) = ({ V with tp := packW (turnW (ofW u) n) }, ⟨V.tp, true⟩) := by simp only [actV, if_pos h2]
        have e6 : tell (layP p) ⟨.p3 n u, made, gone, q0⟩ ⟨V.tp, true⟩ = ⟨.fin ⟨0, true, 0, made, []⟩, made + 1, gone, q0⟩ := rfl
        simp only [e5, e6, nxT, if_pos h2] at hoo hmt ⊢
        refine ⟨?_, hoo, fun v b e' he => ?_, fun u' b he _ => ?_, fun m he => ?_⟩
        · rw [e, cc, List.map_cons, hpu]
        · cases he
          rw [e]
          exact ⟨fun _ => ⟨(hval 0).symm, (his true).symm⟩, fun h => absurd rfl h⟩
        · cases he
        · rcases he with he | ⟨_, he⟩ | ⟨_, he⟩ <;> cases he
      · -- a pop
        have hkd : ¬ op.kind = 4 := fun hk4 => by have := hPu hk4; rw [h1] at this; exact this
        have hloc := (hI.loc who q hqg).pc
        obtain ⟨pc, made, gone, q0⟩ := q
        simp only at h1
        subst h1
        have hix := hI.tIdx (by omega)
        have hu1 : 1 ≤ (ofW u).idx := hloc.2.1
        rw [h2] at hix
        cases T with
        | nil => simp at hix; omega
        | cons y T0 =>
          simp only [List.headD_cons] at hix
          have hsp : specS z.c st.op = (T0.map (fun n => V.nd n 1), V.nd y 1, true) := by rw [eo, cc]; unfold specS; rw [if_neg (show ¬ (op0F op).kind = 4 from hkd)]; rfl
          have e := hE h3 h4
          rw [hsp] at e
          have e5 : actV p.want.length who op.a V (.d2 u be) = ({ V with tp := packW (turnW (ofW u) be) }, ⟨V.tp, true⟩) := by simp only [actV, if_pos h2]
          have e6 : tell (layP p) ⟨.d2 u be, made, gone, q0⟩ ⟨V.tp, true⟩ = ⟨.d3 (ofW u).idx made, made + 1, gone, q0⟩ := rfl
          simp only [e5, e6, nxT, if_pos h2] at hoo hmt ⊢
          refine ⟨?_, hoo, fun v b e' he => ?_, fun u' b he _ => ?_, fun m he => ?_⟩
          · rw [e]; rfl
          · cases he
            rw [e, hix]
            exact ⟨fun _ => ⟨(hval _).symm, (his true).symm⟩, fun h => absurd rfl h⟩
          · cases he
          · rcases he with he | ⟨_, he⟩ | ⟨_, he⟩ <;> cases he
      · -- a look at an empty top
        have hkd : ¬ op.kind = 4 := fun hk4 => by have := hPu hk4; rw [h1] at this; exact this
        have h4 : o.err = 0 := by
          have : PopOk (runQ (layP p) (tell (layP p) q (actV p.want.length who op.a V q.pc).2) R).pc := pop_run R (pop_tell (by rw [h1]; trivial))
          rw [hr] at this
          exact this
        have hsp : specS z.c st.op = ([], 0, false) := by rw [eo, cc, h2]; unfold specS; rw [if_neg (show ¬ (op0F op).kind = 4 from hkd)]; rfl
        have e := hE h3 h4
        rw [hsp] at e
        obtain ⟨pc, made, gone, q0⟩ := q
        simp only at h1
        subst h1
        subst h2
        refine ⟨by rw [e]; rfl, hoo, (fun v b e' he => by cases he), fun u' b he _ => ?_, fun m he => by rcases he with he | ⟨_, he⟩ | ⟨_, he⟩ <;> cases he⟩
        rw [e]
        exact ⟨hval 0, his false⟩
      · have e := ptS_quiet (steps := (playedF p).steps) (z := z) e1 (by rw [ew, ea, ht, hs1]; exact h3)
        refine ⟨?_, seat_quiet hI hqg hs0 hpc (by rw [hown', if_pos rfl]) (by rw [e]) (by rw [e]) h1 h2 hr ht h3⟩
        have hT : nxT V T q.pc = T := by
          unfold nxT
          split
          · rename_i n u hh; rw [if_neg (h1 n u hh)]
          · rename_i u be hh; rw [if_neg (h2 u be hh)]
          · rfl
        rw [hT, hvk, e]
        exact cc
    obtain ⟨hc', hseat'⟩ := key
    have hok : PtOk (layP p) p.want.length (playedF p).steps (s.out.foldl (ptS (playedF p).steps) (ptZ0 p.want.length)) (s.out.foldl memS (beginF (layP p))) st := by
      rw [hz, mem]
      refine ⟨by rw [ew]; omega, by rw [ew]; omega, own, val, is, (fun e => by rw [e1] at e; cases e), fun _ => ⟨by rw [ec]; exact hact.fault, ?_, by rw [em]; exact hcl⟩, hml, by rw [eo]; exact hk, by rw [ew]; omega, by rw [cc, List.length_map]; omega⟩
      rw [em, hc']
      exact hrow'
    refine ⟨fun w => ?_, ptAll_snoc all hok, ?_, hcl, ?_, ?_, ?_, ?_, fun w y us op' hy hu ho' => ?_⟩
    · simp only [foldl_snoc, hz, hown']
      have := ob w
      split <;> omega
    · simp only [foldl_snoc, mem, em]
    · simp only [foldl_snoc, hz, ptS_len.1]; exact own
    · simp only [foldl_snoc, hz, ptS_len.2.1]; exact val
    · simp only [foldl_snoc, hz, ptS_len.2.2]; exact is
    · simp only [foldl_snoc, hz]; exact hc'
    · simp only [foldl_snoc, hz]
      simp only at hy
      by_cases hww : w = who
      · subst hww
        rw [List.getElem?_set_self hxl] at hy
        cases hy
        rw [hws] at hu
        cases hu
        simp only at ho'
        rw [ho] at ho'
        cases ho'
        rw [e1q]
        exact hseat'
      · rw [List.getElem?_set_ne (by omega)] at hy
        obtain ⟨t1, t2, t3⟩ := ptS_there (steps := (playedF p).steps) (z := z) ew hww (by omega) (by omega) (by omega)
        exact seat_other hI hqg hww (qsOf_get (l := layP p) hy hu) op.a (seat w y us op' hy hu ho') t1 t2 t3
theorem ptJ_all {p : PlayT} (hp : PlayB p) : ∀ i, i ≤ allF p → ∃ V F T, G p i (stateAt p i) V F T ∧ PtJ p i (stateAt p i) V T
  | 0, _ => by
    refine ⟨_, _, _, G_start hp.g.ok, ⟨fun w => ?_, fun i s h => by simp [stateAt, start] at h, rfl, cells_start hp.g.ok, by simp [stateAt, start, ptZ0], by simp [stateAt, start, ptZ0], by simp [stateAt, start, ptZ0], rfl, fun w x ws op hx hw ho => ?_⟩⟩
    · show cellAt (List.replicate p.want.length 0) w ≤ _
      simp only [cellAt, List.getD_eq_getElem?_getD, List.getElem?_replicate]
      split <;> simp
    · have hx' : (List.replicate p.want.length (⟨0, [], []⟩ : SeatT))[w]? = some x := hx
      rw [List.getElem?_replicate] at hx'
      split at hx'
      · cases hx'
        have e3 : qAt (layP p) ws ⟨0, [], []⟩ = startQ (op0F op) [] := by unfold qAt; rw [ho]; rfl
        rw [e3]
        have hpc' : (startQ (op0F op) []).pc = .t1 ∨ (startQ (op0F op) []).pc = .g1 := by
          unfold startQ
          simp only
          split
          · exact .inl rfl
          · exact .inr rfl
        refine ⟨?_, fun v b e he => ?_, fun u b he _ => ?_, fun n he => ?_⟩
        · show cellAt (List.replicate p.want.length 0) w = 0
          simp only [cellAt, List.getD_eq_getElem?_getD, List.getElem?_replicate]
          split <;> rfl
        · rcases hpc' with e | e <;> (rw [e] at he; cases he)
        · rcases hpc' with e | e <;> (rw [e] at he; cases he)
        · rcases hpc' with e | e <;> (rw [e] at he; rcases he with he | ⟨u, he⟩ | ⟨u, he⟩ <;> cases he)
      · cases hx'
  | i + 1, hi => by
    obtain ⟨V, F, T, hG, hJ⟩ := ptJ_all hp i (by omega)
    obtain ⟨V', F', T', _, hS, hG'⟩ := state_next hp.g (show i < allF p by omega) hG
    exact ⟨V', F', T', hG', pt_step hp (by omega) hG hS hG' (fun w x ws hx hw hlt => fut_is hp.g hi hx hw hlt) hJ⟩
theorem points_true {p : PlayT} (hp : PlayB p) : (playedF p).ends = true ∧ PtAll (layP p) p.want.length (playedF p).steps (beginF (layP p)) (playedF p).steps := by
  obtain ⟨V, F, T, _, hJ⟩ := ptJ_all hp (allF p) (Nat.le_refl _)
  have h := (state_end hp.g).1
  refine ⟨by rw [h], ?_⟩
  have := hJ.all
  rw [show (playedF p).steps = (stateAt p (allF p)).out by rw [h]] at this ⊢
  exact this
end Go.Proofs.Ytpecgpmdchejdaa
