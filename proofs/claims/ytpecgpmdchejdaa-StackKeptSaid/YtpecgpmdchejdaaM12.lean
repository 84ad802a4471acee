/- No cell of a free node is touched, but its link. -/
import Derived.Test.YtpecgpmdchejdaaM11
namespace Go.Proofs.Ytpecgpmdchejdaa
open Go
set_option maxRecDepth 100000

/-- The memory behind steps. -/
def memS (m : List Int) (s : StepT) : List Int := if s.done then m else (turnF m s.acc).1
structure SafeOk (l : LayT) (m : List Int) (s : StepT) : Prop where
  fault : s.done = false → faultF m.length s.acc = 0
  free : s.done = false → ∀ n ∈ listF l m, ¬ (nodeF l n 0 ≤ s.acc.cell ∧ s.acc.cell < nodeF l n 0 + 7)
  lt : CellsLt m
  len : m.length = l.size.toNat
def SafeAll (l : LayT) (m0 : List Int) (st : List StepT) : Prop := ∀ (i : Nat) (s : StepT), st[i]? = some s → SafeOk l ((st.take i).foldl memS m0) s
theorem safeAll_snoc {l : LayT} {m0 : List Int} {st : List StepT} {s : StepT} (h : SafeAll l m0 st) (hs : SafeOk l (st.foldl memS m0) s) : SafeAll l m0 (st ++ [s]) := by
  intro i x hx
  rcases Nat.lt_trichotomy i st.length with hi | hi | hi
  · rw [List.getElem?_append_left hi] at hx
    rw [List.take_append_of_le_length (by omega)]
    exact h i x hx
  · subst hi
    rw [List.getElem?_append_right (by omega)] at hx
    simp at hx
    subst hx
    rw [List.take_append_of_le_length (by omega), List.take_length]
    exact hs
  · rw [List.getElem?_eq_none (by simp; omega)] at hx
    cases hx
/-- An access touches no free node, but its link. -/
theorem asks_safe {l : LayT} {S N K : Nat} {V : Vw} {qs : List Q} {F T : List Int} (hL : Lay l S N) (hI : Inv S N K V qs F T) {w : Nat} {q : Q} (hw : w < S) (hq : qs[w]? = some q) (hpc : ∀ o, q.pc ≠ .fin o) {v0 : Int} {n : Int} (hn : n ∈ F) : ¬ (nodeF l n 0 ≤ (asks l w (topF l 0) v0 q.pc).cell ∧ (asks l w (topF l 0) v0 q.pc).cell < nodeF l n 0 + 7) := by
  have ho := inv_okPc hI hq hpc
  have hfr := hL.free
  have her := hL.era
  have htp := hL.top
  have hs1 := hL.s1
  have hrw := hL.resv w 0 (by omega) (by omega) (by omega) (by omega)
  have hnb := hI.inF hn
  have hn0 := hL.node n 0 hnb.1 hnb.2 (by omega) (by omega)
  have hp := (hI.loc w q hq).pc
  have hpr := hI.pro w q hq
  have hown : ∀ x, x ∈ own q → x ≠ n := fun x hx e => by
    subst e
    exact (hI.ownNot hq hx).1 hn
  -- a cell i of a node x that is none of the free ones
  have key : ∀ x i : Int, 1 ≤ x → x ≤ N → 0 ≤ i → i ≤ 7 → x ≠ n → ¬ (nodeF l n 0 ≤ nodeF l x i ∧ nodeF l x i < nodeF l n 0 + 7) := fun x i h1 h2 h3 h4 h5 => by
    have := hL.node x i h1 h2 h3 h4
    omega
  have key7 : ∀ x : Int, 1 ≤ x → x ≤ N → ¬ (nodeF l n 0 ≤ nodeF l x 7 ∧ nodeF l x 7 < nodeF l n 0 + 7) := fun x h1 h2 => by
    have := hL.node x 7 h1 h2 (by omega) (by omega)
    omega
  obtain ⟨pc, made, gone, e0⟩ := q
  cases pc with
  | t2 f => obtain ⟨o1, o2⟩ := ho; exact key7 _ o1 o2
  | t5 x b => obtain ⟨o1, o2⟩ := ho; exact key x 6 o1 o2 (by omega) (by omega) (hown x (by simp [own]))
  | p0 x => obtain ⟨o1, o2⟩ := ho; exact key x 1 o1 o2 (by omega) (by omega) (hown x (by simp [own]))
  | p2 x u => obtain ⟨o1, o2⟩ := ho; exact key x 0 o1 o2 (by omega) (by omega) (hown x (by simp [own]))
  | d1 u =>
    obtain ⟨o1, o2⟩ := ho
    refine key _ 0 o1 o2 (by omega) (by omega) (fun e => ?_)
    have hP : Prot S V T qs w (ofW u).idx e0 := hpr
    rw [e] at hP
    rcases hP.at_ with h | ⟨j, y, hy, hk⟩
    · have h1 := List.count_pos_iff.2 h
      have h2 := List.count_pos_iff.2 hn
      have := hI.one n
      omega
    · exact (hI.ownNot hy (keeps_own hk)).1 hn
  | d3 x a => obtain ⟨o1, o2⟩ := ho; exact key x 1 o1 o2 (by omega) (by omega) (hown x (by simp [own]))
  | s1 v a held g gs stay => obtain ⟨o1, o2⟩ := ho; exact key g.1 6 o1 o2 (by omega) (by omega) (hown g.1 (by simp [own]))
  | v2 v a held g gs stay f => obtain ⟨o1, o2⟩ := ho; exact key7 _ o1 o2
  | rs v a held c cs => obtain ⟨x, i, x0, x1, i0, i1, rfl⟩ := ho; simp only [asks]; omega
  | fin o => exact absurd ho id
  | _ => simp only [asks]; omega
structure SafeJ (p : PlayT) (s : PSt) : Prop where
  all : SafeAll (layP p) (beginF (layP p)) s.out
  mem : s.out.foldl memS (beginF (layP p)) = s.m
  lt : CellsLt s.m
theorem safe_step {p : PlayT} (hp : PlayB p) {i : Nat} {s s' : PSt} {V V' : Vw} {F T F' T' : List Int} (hi : i < allF p) (hG : G p i s V F T) (hS : StepR p (whoF p i) s V F T s' V' F' T') (h : SafeJ p s) : SafeJ p s' := by
  have hL := layP_lay p hp.g.ok.w1
  have hwl := whoF_lt hp.g.ok hi
  have hlt := cells_step hp hi hG hS h.lt
  generalize whoF p i = who at *
  cases hS with
  | idle => exact h
  | done x ws op q o hx hws ho hq hpc =>
    refine ⟨safeAll_snoc h.all ⟨(fun e => by cases e), (fun e => by cases e), by rw [h.mem]; exact h.lt, by rw [h.mem]; exact hG.view.len⟩, ?_, hlt⟩
    simp only [foldl_snoc, h.mem]
    rfl
  | acc x ws op q hx hws ho hq hpc =>
    have hqg := qsOf_get (l := layP p) hx hws
    have e0 : qAt (layP p) ws x = q := by unfold qAt; rw [ho, hq]
    rw [e0] at hqg
    have hall : allF p ≤ 3200 := by have := hp.g.ok.w3; have := hp.g.ok.t; unfold allF; omega
    have her := hG.inv.er
    have hact := acts hL hG.view (w := who) (v0 := op.a) (by omega) (by omega) ⟨by omega, by omega⟩ (inv_okPc hG.inv hqg hpc)
    refine ⟨safeAll_snoc h.all ⟨fun _ => by rw [h.mem]; exact hact.fault, fun _ n hn => ?_, by rw [h.mem]; exact h.lt, by rw [h.mem]; exact hG.view.len⟩, ?_, hlt⟩
    · rw [h.mem, list_is hL (by omega) hG.view hG.inv] at hn
      exact asks_safe hL hG.inv hwl hqg hpc hn
    · simp only [foldl_snoc, h.mem]
      rfl
theorem safe_true {p : PlayT} (hp : PlayB p) : (playedF p).ends = true ∧ SafeAll (layP p) (beginF (layP p)) (playedF p).steps := by
  obtain ⟨s, V, F, T, h1, h2, h3, h4⟩ := played_end hp.g (fun _ s _ _ _ => SafeJ p s) (fun i s V F T s' V' F' T' hi hG hS _ h => safe_step hp hi hG hS h) ⟨fun i s h => by simp [start] at h, rfl, cells_start hp.g.ok⟩
  rw [playedF_end h1 h4]
  exact ⟨rfl, h3.all⟩

/-! ### No node is lost, and none is twice -/
def goneN (gone : List (List (Int × Int))) : List Int := gone.flatMap fun g => g.map (·.1)
structure KeptR (p : PlayT) (R : PlayedT) : Prop where
  ends : R.ends = true
  one : ∀ n, (nodesF (layP p) R.m 0 ++ listF (layP p) R.m ++ goneN R.gone).count n = if 1 ≤ n ∧ n ≤ (layP p).nodes then 1 else 0
  resv : ∀ w i : Int, 0 ≤ w → w < p.want.length → 0 ≤ i → i ≤ 2 → atF R.m (resvF (layP p) w i) = 0
  lt : CellsLt R.m
  n : R.gone.length = p.want.length
theorem idle_own {l : LayT} {ws : List OpT} {x : SeatT} (h : ws.length ≤ x.at_) : qAt l ws x = idleQ x.gone := by
  unfold qAt
  rw [List.getElem?_eq_none h]
theorem sum_gone {l : LayT} (n : Int) : ∀ (seats : List SeatT) (want : List (List OpT)), seats.length = want.length → (∀ (w : Nat) (x : SeatT) (ws : List OpT), seats[w]? = some x → want[w]? = some ws → ws.length ≤ x.at_) → ownSum (qsOf l want seats) n = (goneN (seats.map (·.gone))).count n
  | [], [], _, _ => rfl
  | [], _ :: _, h, _ => by simp at h
  | _ :: _, [], h, _ => by simp at h
  | x :: seats, ws :: want, h, he => by
    have ih := sum_gone (l := l) n seats want (by simpa using h) (fun w y us hy hu => he (w + 1) y us (by simpa using hy) (by simpa using hu))
    have h0 := idle_own (l := l) (he 0 x ws rfl rfl)
    unfold ownSum qsOf goneN at ih ⊢
    simp only [List.zip_cons_cons, List.map_cons, List.sum_cons, List.flatMap_cons, List.count_append, h0] at ih ⊢
    rw [ih]
    rfl
theorem kept_true {p : PlayT} (hp : PlayB p) : KeptR p (playedF p) := by
  have hL := layP_lay p hp.g.ok.w1
  obtain ⟨s, V, F, T, h1, h2, h3, h4⟩ := played_end hp.g (fun _ s _ _ _ => CellsLt s.m) (fun i s V F T s' V' F' T' hi hG hS _ h => cells_step hp hi hG hS h) (cells_start hp.g.ok)
  rw [playedF_end h1 h4]
  have hb := View.big hL h2.view
  refine ⟨rfl, fun n => ?_, fun w i w0 w1 i0 i1 => ?_, h3, by simp [h2.n]⟩
  · have e1 := sum_gone (l := layP p) n s.seats p.want h2.n h4
    have e2 := h2.inv.part n
    have e3 := hL.nodes
    simp only [nodes_is hL (by omega) h2.view h2.inv, list_is hL (by omega) h2.view h2.inv, List.count_append]
    rw [← e1, e3]
    omega
  · have hr := hL.resv w i w0 w1 i0 i1
    simp only
    rw [atF_cell (by omega) (by omega)]
    by_cases hi : i = 0
    · subst hi
      obtain ⟨x, hx⟩ : ∃ x, s.seats[w.toNat]? = some x := ⟨s.seats[w.toNat]'(by have := h2.n; omega), List.getElem?_eq_getElem _⟩
      obtain ⟨ws, hws⟩ : ∃ ws, p.want[w.toNat]? = some ws := ⟨p.want[w.toNat]'(by omega), List.getElem?_eq_getElem _⟩
      have hq := qsOf_get (l := layP p) hx hws
      rw [idle_own (h4 _ x ws hx hws)] at hq
      have hl := (h2.inv.loc _ _ hq).rv
      rw [h2.view.rv w w0 w1]
      rw [show ((w.toNat : Nat) : Int) = w by omega] at hl
      exact hl
    · exact h2.view.r1 w i w0 w1 (by omega) i1
end Go.Proofs.Ytpecgpmdchejdaa
