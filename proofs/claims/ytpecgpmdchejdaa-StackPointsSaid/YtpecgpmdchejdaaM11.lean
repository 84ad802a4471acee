/- Plays of a stack: how long they are, and how great numbers get. -/
import Derived.Test.YtpecgpmdchejdaaM10
namespace Go.Proofs.Ytpecgpmdchejdaa
open Go
set_option maxRecDepth 100000

theorem played_len {p : PlayT} (hp : PlayG p) : (playedF p).steps.length ≤ 3200 := by
  have hall : allF p ≤ 3200 := by have := hp.ok.w3; have := hp.ok.t; unfold allF; omega
  obtain ⟨s, V, F, T, h1, h2, h3, h4⟩ := played_end hp (fun i s _ _ _ => s.out.length ≤ i) (fun i s V F T s' V' F' T' hi hG hS hG' h => by
    cases hS with
    | idle => omega
    | done => simp; omega
    | acc => simp; omega) (by simp [start])
  rw [playedF_end h1 h4]
  simp only at h3 ⊢
  omega
/-- Numbers that are less than 2 to the 63. -/
def CellsLt (m : List Int) : Prop := ∀ x ∈ m, x < 9223372036854775808
structure PlayB (p : PlayT) : Prop where
  g : PlayG p
  a : ∀ ws ∈ p.want, ∀ o ∈ ws, o.a < 9223372036854775808
theorem cells_set {m : List Int} {i : Nat} {v : Int} (h : CellsLt m) (hv : v < 9223372036854775808) : CellsLt (m.set i v) := fun x hx => by
  rcases List.mem_or_eq_of_mem_set hx with hx | rfl
  · exact h x hx
  · exact hv
theorem pack_lt (r : RefT) : packW r < 9223372036854775808 := by
  unfold packW
  have h1 := Int.emod_lt_of_pos r.idx (show (0 : Int) < 65536 by omega)
  have h2 := Int.emod_lt_of_pos r.cnt (show (0 : Int) < 268435456 by omega)
  split <;> omega
theorem cells_act {l : LayT} {S N K : Nat} {m : List Int} {V : Vw} {qs : List Q} {F T : List Int} (hI : Inv S N K V qs F T) (hK : K ≤ 100000) {w : Nat} {q : Q} (hq : qs[w]? = some q) {v0 : Int} (hv : v0 < 9223372036854775808) (h : CellsLt m) (hV : cellAt m l.era = V.er) : CellsLt (turnF m (asks l w (topF l 0) v0 q.pc)).1 := by
  have hl := (hI.loc w q hq)
  have her := hI.er
  have he0 := hl.e1
  have hp := hl.pc
  have ix : ∀ f, (ofW f).idx < 9223372036854775808 := fun f => by have := (ofW_idx f).2; omega
  have ld : ∀ c, CellsLt (turnF m ⟨1, c, 0, 0⟩).1 := fun c => by rw [turn_load]; exact h
  have st : ∀ c v, v < 9223372036854775808 → CellsLt (turnF m ⟨2, c, 0, v⟩).1 := fun c v hv => by rw [turn_store]; exact cells_set h hv
  have cs : ∀ c o v, v < 9223372036854775808 → CellsLt (turnF m ⟨3, c, o, v⟩).1 := fun c o v hv => by
    rw [turn_cas]
    split
    · exact cells_set h hv
    · exact h
  obtain ⟨pc, made, gone, e0⟩ := q
  cases pc with
  | t3 f lk => exact cs _ _ _ (pack_lt _)
  | t5 n b => exact st _ _ (by have := hp.2; omega)
  | p0 n => exact st _ _ hv
  | p2 n u => exact st _ _ (ix _)
  | p3 n u => exact cs _ _ _ (pack_lt _)
  | g3 er => exact st _ _ (by have := hp.2; omega)
  | ce a => exact st _ _ (by omega)
  | d2 u be => exact cs _ _ _ (pack_lt _)
  | c n v a => exact st _ _ (by omega)
  | r2 n v a er =>
    show CellsLt (turnF m ⟨4, l.era, 0, 1⟩).1
    rw [turn_add, hV, wrapI (by omega) (by omega)]
    exact cells_set h (by omega)
  | v2 v a held g gs stay f => exact st _ _ (ix _)
  | v3 v a held g gs stay f => exact cs _ _ _ (pack_lt _)
  | fin o =>
    show CellsLt (turnF m acc0).1
    simp only [acc0, turnF]
    exact h
  | _ => exact ld _
/-- The memory in the beginning has small numbers. -/
def begLt (S N : Nat) : Bool := (beginF (layF S N 0 1 0)).all fun x => decide (x < 9223372036854775808)
theorem begLt_all : ((List.range 3).all fun a => (List.range 8).all fun b => begLt (a + 1) (b + 1)) = true := by kernel_rfl
theorem cells_start {p : PlayT} (hp : PlayOk p) : CellsLt (beginF (layP p)) := by
  have h1 := hp.w1
  have h3 := hp.w3
  rw [layP_eq]
  generalize hN : (1 + p.nodes % 8).toNat = N
  generalize p.want.length = S at *
  have hN1 : 1 ≤ N ∧ N ≤ 8 := by omega
  have h := List.all_eq_true.1 (List.all_eq_true.1 begLt_all (S - 1) (List.mem_range.2 (by omega))) (N - 1) (List.mem_range.2 (by omega))
  rw [show S - 1 + 1 = S by omega, show N - 1 + 1 = N by omega] at h
  unfold begLt at h
  intro x hx
  simpa using List.all_eq_true.1 h x hx
theorem cells_step {p : PlayT} (hp : PlayB p) {i : Nat} {s s' : PSt} {V V' : Vw} {F T F' T' : List Int} (hi : i < allF p) (hG : G p i s V F T) (hS : StepR p (whoF p i) s V F T s' V' F' T') (h : CellsLt s.m) : CellsLt s'.m := by
  have hall : allF p ≤ 3200 := by have := hp.g.ok.w3; have := hp.g.ok.t; unfold allF; omega
  cases hS with
  | idle => exact h
  | done => exact h
  | acc x ws op q hx hws ho hq hpc =>
    have hqg := qsOf_get (l := layP p) hx hws
    have e0 : qAt (layP p) ws x = q := by unfold qAt; rw [ho, hq]
    rw [e0] at hqg
    exact cells_act hG.inv (by omega) hqg (hp.a ws (List.mem_of_getElem? hws) op (List.mem_of_getElem? ho)) h hG.view.er
end Go.Proofs.Ytpecgpmdchejdaa
