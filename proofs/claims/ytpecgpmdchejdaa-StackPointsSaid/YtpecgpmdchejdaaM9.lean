/- Plays of a stack: their beginning, and that they end. -/
import Derived.Test.YtpecgpmdchejdaaM8
namespace Go.Proofs.Ytpecgpmdchejdaa
open Go
set_option maxRecDepth 100000

def V0 (N : Nat) : Vw := ⟨1, 0, 1, fun _ => 0, fun n i => if i = 7 then (if n = (N : Int) then 0 else n + 1) else 0⟩
/-- The memory in the beginning is seen so. -/
def begB (S N : Nat) : Bool :=
  let l := layF S N 0 1 0
  let m := beginF l
  decide (m.length = l.size.toNat) && decide (cellAt m l.free = 1) && decide (cellAt m (topF l 0) = 0) && decide (cellAt m l.era = 1) &&
  ((List.range S).all fun w => (List.range 3).all fun i => decide (cellAt m (resvF l w i) = 0)) &&
  ((List.range N).all fun n => (List.range 8).all fun i => decide (cellAt m (nodeF l ((n : Int) + 1) i) = (V0 N).nd ((n : Int) + 1) i))
theorem beg_all : ((List.range 3).all fun a => (List.range 8).all fun b => begB (a + 1) (b + 1)) = true := by kernel_rfl
theorem layP_eq (p : PlayT) : layP p = layF p.want.length (1 + p.nodes % 8).toNat 0 1 0 := by
  unfold layP
  rw [show ((1 + p.nodes % 8).toNat : Int) = 1 + p.nodes % 8 by omega]
theorem view_start {p : PlayT} (hp : PlayOk p) : View (layP p) p.want.length (1 + p.nodes % 8).toNat (beginF (layP p)) (V0 (1 + p.nodes % 8).toNat) := by
  have h1 := hp.w1
  have h3 := hp.w3
  rw [layP_eq]
  generalize hN : (1 + p.nodes % 8).toNat = N
  generalize p.want.length = S at *
  have hN1 : 1 ≤ N ∧ N ≤ 8 := by omega
  have hb : begB S N = true := by
    have h := List.all_eq_true.1 (List.all_eq_true.1 beg_all (S - 1) (List.mem_range.2 (by omega))) (N - 1) (List.mem_range.2 (by omega))
    rw [show S - 1 + 1 = S by omega, show N - 1 + 1 = N by omega] at h
    exact h
  unfold begB at hb
  simp only [Bool.and_eq_true, decide_eq_true_eq, List.all_eq_true] at hb
  obtain ⟨⟨⟨⟨⟨b1, b2⟩, b3⟩, b4⟩, b5⟩, b6⟩ := hb
  refine ⟨b1, b2, b3, b4, ?_, ?_, ?_⟩
  · intro w w0 w1
    have := b5 w.toNat (List.mem_range.2 (by omega)) 0 (by simp)
    rw [show ((w.toNat : Nat) : Int) = w by omega] at this
    exact this
  · intro w i w0 w1 i0 i1
    have := b5 w.toNat (List.mem_range.2 (by omega)) i.toNat (List.mem_range.2 (by omega))
    rw [show ((w.toNat : Nat) : Int) = w by omega, show ((i.toNat : Nat) : Int) = i by omega] at this
    exact this
  · intro n i n0 n1 i0 i1
    have := b6 (n - 1).toNat (List.mem_range.2 (by omega)) i.toNat (List.mem_range.2 (by omega))
    rw [show (((n - 1).toNat : Nat) : Int) = n - 1 by omega, show ((i.toNat : Nat) : Int) = i by omega, show n - 1 + 1 = n by omega] at this
    exact this
def upF (a : Int) : Nat → List Int
  | 0 => []
  | k + 1 => a :: upF (a + 1) k
theorem upF_count (n : Int) : ∀ (k : Nat) (a : Int), (upF a k).count n = if a ≤ n ∧ n < a + k then 1 else 0
  | 0, a => by simp only [upF, List.count_nil]; rw [if_neg (by omega)]
  | k + 1, a => by
    rw [upF, List.count_cons, upF_count n k (a + 1)]
    by_cases h : a = n
    · subst h
      rw [if_neg (show ¬ (a + 1 ≤ a ∧ a < a + 1 + (k : Int)) by omega), if_pos (show a ≤ a ∧ a < a + ((k + 1 : Nat) : Int) by omega)]; simp
    · have hb : (a == n) = false := by simp [h]
      rw [hb]
      by_cases h2 : a + 1 ≤ n ∧ n < a + 1 + (k : Int)
      · rw [if_pos h2, if_pos (show a ≤ n ∧ n < a + ((k + 1 : Nat) : Int) by omega)]; rfl
      · rw [if_neg h2, if_neg (show ¬ (a ≤ n ∧ n < a + ((k + 1 : Nat) : Int)) by omega)]; rfl
theorem upF_linked (N : Nat) : ∀ (k : Nat) (a : Int), a + k = N + 1 → Linked (V0 N).nd 7 (upF a k)
  | 0, a, _ => trivial
  | k + 1, a, h => by
    refine ⟨?_, upF_linked N k (a + 1) (by omega)⟩
    simp only [V0, if_true]
    cases k with
    | zero => rw [if_pos (by omega)]; rfl
    | succ k => rw [if_neg (by omega)]; rfl
theorem G_start {p : PlayT} (hp : PlayOk p) : G p 0 (start p) (V0 (1 + p.nodes % 8).toNat) (upF 1 (1 + p.nodes % 8).toNat) [] := by
  have hv := view_start hp
  generalize hN : (1 + p.nodes % 8).toNat = N at *
  have hN1 : 1 ≤ N ∧ N ≤ 8 := by omega
  have hqs : ∀ (w : Nat) (q : Q), (qsOf (layP p) p.want (start p).seats)[w]? = some q → ∃ pc', q = ⟨pc', 0, [], 0⟩ ∧ (pc' = .t1 ∨ pc' = .g1 ∨ ∃ o', pc' = .fin o') := by
    intro w q hq
    unfold qsOf at hq
    rw [List.getElem?_map] at hq
    rcases hz : ((start p).seats.zip p.want)[w]? with _ | ⟨x, ws⟩
    · rw [hz] at hq; cases hq
    · rw [hz] at hq
      cases hq
      obtain ⟨h1, h2⟩ := List.getElem?_zip_eq_some.1 hz
      simp only [start, List.getElem?_replicate] at h1
      split at h1
      · cases h1
        exact qAt_next (layP p) ws 0 []
      · cases h1
  have hown : ∀ n, ownSum (qsOf (layP p) p.want (start p).seats) n = 0 := by
    intro n
    unfold ownSum
    have key : ∀ (l : List Q), (∀ q ∈ l, own q = []) → (l.map fun q => (own q).count n).sum = 0 := by
      intro l
      induction l with
      | nil => intro _; rfl
      | cons q l ih =>
        intro h
        rw [List.map_cons, List.sum_cons, h q (by simp), ih (fun q' hq' => h q' (by simp [hq']))]
        rfl
    refine key _ (fun q hq => ?_)
    obtain ⟨w, hw⟩ := List.getElem?_of_mem hq
    obtain ⟨pc', rfl, h2⟩ := hqs w q hw
    rcases h2 with rfl | rfl | ⟨o', rfl⟩ <;> rfl
  refine ⟨by simp [start], by rw [hN]; exact hv, ?_⟩
  rw [hN]
  refine ⟨by simp [qsOf, start], ?_, by simp [V0], by simp [V0], by simp [V0], by simp [V0], upF_linked N N 1 (by omega), trivial, fun n => ?_, fun n n0 n1 => ?_, fun w q hq => ?_, fun w q hq => ?_⟩
  · obtain ⟨k, rfl⟩ : ∃ k, N = k + 1 := ⟨N - 1, by omega⟩
    simp [V0, upF]
  · rw [hown, upF_count]
    simp only [List.count_nil, Nat.add_zero]
    by_cases h : 1 ≤ n ∧ n < 1 + (N : Int)
    · rw [if_pos h, if_pos (by omega)]
    · rw [if_neg h, if_neg (by omega)]
  · simp [V0]
  · obtain ⟨pc', rfl, h2⟩ := hqs w q hq
    refine ⟨rfl, by simp, by simp [V0], ?_⟩
    rcases h2 with rfl | rfl | ⟨o', rfl⟩ <;> simp [LocPc]
  · obtain ⟨pc', rfl, h2⟩ := hqs w q hq
    rcases h2 with rfl | rfl | ⟨o', rfl⟩ <;> trivial

/-! ### Plays end -/
/-- How long a seat takes still, alone. -/
def rem (l : LayT) (S : Nat) (V : Vw) (ws : List OpT) (x : SeatT) : Nat := if ws.length ≤ x.at_ then 0 else nu S V (qAt l ws x) + 1 + 61 * (ws.length - x.at_ - 1)
def EndsP (p : PlayT) (i : Nat) (s : PSt) (V : Vw) : Prop := ∀ (w : Nat) (x : SeatT) (ws : List OpT), s.seats[w]? = some x → p.want[w]? = some ws → rem (layP p) p.want.length V ws x ≤ 305 - (i - (p.turns.length + 1000 * w))
theorem rem_le {p : PlayT} (hp : PlayG p) {i : Nat} {s : PSt} {V : Vw} {F T : List Int} (hG : G p i s V F T) {w : Nat} {x : SeatT} {ws : List OpT} (hx : s.seats[w]? = some x) (hw : p.want[w]? = some ws) : rem (layP p) p.want.length V ws x ≤ 305 := by
  unfold rem
  split
  · omega
  · have h1 := nu_le hG.inv hp.ok.w3 (by omega) (qsOf_get hx hw)
    have h2 := hp.ok.l ws (List.mem_of_getElem? hw)
    omega
theorem ends_step {p : PlayT} (hp : PlayG p) {i : Nat} {s s' : PSt} {V V' : Vw} {F T F' T' : List Int} (hi : i < allF p) (hS : StepR p (whoF p i) s V F T s' V' F' T') (hG' : G p (i + 1) s' V' F' T') (h : EndsP p i s V) : EndsP p (i + 1) s' V' := by
  have hL := layP_lay p hp.ok.w1
  have hwl := whoF_lt hp.ok hi
  intro w y ws hy hws
  have hle := rem_le hp hG' hy hws
  by_cases hearly : i + 1 ≤ p.turns.length + 1000 * w
  · omega
  by_cases hme : w = whoF p i
  · -- the seat's own turn
    subst hme
    have hdec : ∀ x, s.seats[whoF p i]? = some x → (rem (layP p) p.want.length V' ws y < rem (layP p) p.want.length V ws x ∨ rem (layP p) p.want.length V' ws y = 0) → rem (layP p) p.want.length V' ws y ≤ 305 - (i + 1 - (p.turns.length + 1000 * whoF p i)) := by
      intro x hx hh
      have := h (whoF p i) x ws hx hws
      omega
    cases hS with
    | idle x ws' hx hw' ha =>
      rw [hws] at hw'
      cases hw'
      rw [hx] at hy
      cases hy
      exact hdec _ hx (.inr (by unfold rem; rw [if_pos ha]))
    | done x ws' op q o hx hw' ho hq hpc =>
      rw [hws] at hw'
      cases hw'
      have hlt := (List.getElem?_eq_some_iff.1 hx).1
      simp only at hy
      rw [List.getElem?_set_self hlt] at hy
      cases hy
      have hal := (List.getElem?_eq_some_iff.1 ho).1
      refine hdec x hx ?_
      unfold rem
      simp only
      rw [if_neg (show ¬ ws.length ≤ x.at_ by omega)]
      split
      · exact .inr rfl
      · left
        have h1 := nu_le hG'.inv hp.ok.w3 (by omega) (qsOf_get (l := layP p) (x := ⟨x.at_ + 1, [], q.gone⟩) (by simp only; exact List.getElem?_set_self hlt) hws)
        omega
    | acc x ws' op q hx hw' ho hq hpc =>
      rw [hws] at hw'
      cases hw'
      have hlt := (List.getElem?_eq_some_iff.1 hx).1
      simp only at hy
      rw [List.getElem?_set_self hlt] at hy
      cases hy
      have hal := (List.getElem?_eq_some_iff.1 ho).1
      refine hdec x hx (.inl ?_)
      unfold rem
      simp only
      rw [if_neg (show ¬ ws.length ≤ x.at_ by omega), if_neg (show ¬ ws.length ≤ x.at_ by omega)]
      have e0 : qAt (layP p) ws x = q := by unfold qAt; rw [ho, hq]
      have e1 : qAt (layP p) ws { x with log := x.log ++ [(actV p.want.length (whoF p i) op.a V q.pc).2] } = tell (layP p) q (actV p.want.length (whoF p i) op.a V q.pc).2 := by
        unfold qAt
        simp only [ho]
        rw [runQ_snoc, hq]
      rw [e0, e1]
      have := nu_dec hL (V := V) (w := whoF p i) hpc op.a
      omega
  · -- another seat's turn, behind this seat's own time, or in it: it is over
    have hy0 : s.seats[w]? = some y := by
      cases hS with
      | idle => exact hy
      | done x ws' op q o hx hw' ho hq hpc =>
        simp only at hy
        rw [List.getElem?_set_ne (by omega)] at hy
        exact hy
      | acc x ws' op q hx hw' ho hq hpc =>
        simp only at hy
        rw [List.getElem?_set_ne (by omega)] at hy
        exact hy
    have h0 := h w y ws hy0 hws
    have hover : 305 ≤ i - (p.turns.length + 1000 * w) := by
      have hturn : p.turns[i]? = none := List.getElem?_eq_none (by omega)
      have hwho : whoF p i = (i - p.turns.length) / 1000 := by unfold whoF; rw [hturn]
      omega
    have hz : rem (layP p) p.want.length V ws y = 0 := by omega
    have : rem (layP p) p.want.length V' ws y = 0 := by
      unfold rem at hz ⊢
      split
      · rfl
      · rename_i hn
        rw [if_neg hn] at hz
        omega
    omega
/-- A play's end. -/
theorem played_end {p : PlayT} (hp : PlayG p) (J : Nat → PSt → Vw → List Int → List Int → Prop)
    (hJ : ∀ i s V F T s' V' F' T', i < allF p → G p i s V F T → StepR p (whoF p i) s V F T s' V' F' T' → G p (i + 1) s' V' F' T' → J i s V F T → J (i + 1) s' V' F' T')
    (h0 : J 0 (start p) (V0 (1 + p.nodes % 8).toNat) (upF 1 (1 + p.nodes % 8).toNat) []) :
    ∃ s V F T, playL (layP p) p (allF p) 0 (start p) = .ok s ∧ G p (allF p) s V F T ∧ J (allF p) s V F T ∧ (∀ (w : Nat) (x : SeatT) (ws : List OpT), s.seats[w]? = some x → p.want[w]? = some ws → ws.length ≤ x.at_) := by
  have hG := G_start hp.ok
  obtain ⟨s, V, F, T, h1, h2, h3, h4⟩ := play_ind hp (fun i s V F T => J i s V F T ∧ EndsP p i s V) (fun i s V F T s' V' F' T' hi hG hS hG' h => ⟨hJ i s V F T s' V' F' T' hi hG hS hG' h.1, ends_step hp hi hS hG' h.2⟩) (allF p) 0 (start p) _ _ _ (by omega) hG ⟨h0, fun w x ws hx hw => by
    have := rem_le hp hG hx hw
    omega⟩
  rw [Nat.zero_add] at h2 h3 h4
  refine ⟨s, V, F, T, h1, h2, h3, fun w x ws hx hw => ?_⟩
  have := h4 w x ws hx hw
  have hwl := (List.getElem?_eq_some_iff.1 hw).1
  have : rem (layP p) p.want.length V ws x = 0 := by unfold allF at this; omega
  unfold rem at this
  split at this
  · assumption
  · omega
theorem playedF_end {p : PlayT} {s : PSt} (h : playL (layP p) p (allF p) 0 (start p) = .ok s) (he : ∀ (w : Nat) (x : SeatT) (ws : List OpT), s.seats[w]? = some x → p.want[w]? = some ws → ws.length ≤ x.at_) : playedF p = ⟨s.out, s.m, s.seats.map (·.gone), true⟩ := by
  unfold playedF
  rw [h]
  simp only
  congr 1
  unfold endsF
  rw [List.all_eq_true]
  intro z hz
  obtain ⟨w, hw⟩ := List.getElem?_of_mem hz
  obtain ⟨h1, h2⟩ := List.getElem?_zip_eq_some.1 hw
  simp only [decide_eq_true_eq]
  exact he w z.1 z.2 h1 h2
end Go.Proofs.Ytpecgpmdchejdaa
