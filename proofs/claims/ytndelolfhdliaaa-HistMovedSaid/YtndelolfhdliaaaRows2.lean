/- Slices of calls in memory: what a new row reads as, and what is known of a slot that holds one. -/
import Derived.Test.YtndelolfhdliaaaSift
namespace Go.Proofs.Ytndelolfhdliaaa
open Go.RowKit

theorem cells_len (c : Call) : c.cells.length = 10 := rfl
theorem cellsOf_len : ∀ h : List Call, (cellsOf h).length = h.length * 10
  | [] => rfl
  | c :: h => by
    have := cellsOf_len h
    unfold cellsOf at this ⊢
    rw [List.flatMap_cons, List.length_append, this, cells_len, List.length_cons]; omega
theorem cellsOf_at : ∀ (h : List Call) (i : Nat) (c : Call), h[i]? = some c → ∀ j u, c.cells[j]? = some u → (cellsOf h)[i * 10 + j]? = some u
  | [], i, c, hi, _, _, _ => by simp at hi
  | d :: h, 0, c, hi, j, u, hu => by
    simp only [List.getElem?_cons_zero, Option.some.injEq] at hi
    subst hi
    have hj : j < d.cells.length := (List.getElem?_eq_some_iff.1 hu).1
    rw [cellsOf, List.flatMap_cons, Nat.zero_mul, Nat.zero_add, List.getElem?_append_left hj]
    exact hu
  | d :: h, i + 1, c, hi, j, u, hu => by
    have := cellsOf_at h i c (by simpa using hi) j u hu
    rw [cellsOf, List.flatMap_cons, List.getElem?_append_right (by rw [cells_len]; omega), cells_len]
    rw [show (i + 1) * 10 + j - 10 = i * 10 + j by omega]
    exact this

theorem cellsAt_of {w : World} {b o : Nat} {c : Call} (h : ∀ j u, c.cells[j]? = some u → w.cell? ⟨b, o + j, none⟩ = some u) : CellsAt w b o c :=
  ⟨h 0 _ rfl, h 1 _ rfl, h 2 _ rfl, h 3 _ rfl, h 4 _ rfl, h 5 _ rfl, h 6 _ rfl, h 7 _ rfl, h 8 _ rfl, h 9 _ rfl⟩

theorem crow_of_block {w : World} {g : Nat} {cur : Array Value} {h : List Call} (hh : w.heap[g]? = some (.cells cur 30 (0, 0))) (ht : cur.toList.take (h.length * 10) = cellsOf h) : CRow w w.heap.size (some ⟨g, 0, none⟩) h := by
  intro i c hi
  have hlt : g < w.heap.size := by
    rcases Nat.lt_or_ge g w.heap.size with hlt | hge
    · exact hlt
    · rw [Array.getElem?_eq_none hge] at hh; cases hh
  refine ⟨g, 0, rfl, hlt, cellsAt_of fun j u hu => ?_⟩
  rw [cell_of_row w g _ cur 30 (0, 0) hh, Nat.zero_add]
  have h1 := cellsOf_at h i c hi j u hu
  rw [← ht, List.getElem?_take] at h1
  split at h1
  · simpa using h1
  · cases h1

/-- A slot that holds a slice that reads as h. -/
def kRow (h : List Call) : Know := fun v w => ∃ A cap, v = .slice A h.length cap ∧ CRow w w.heap.size A h
theorem kRow_keeps (h : List Call) : (kRow h).Keeps := by
  rintro v w w' ⟨A, cap, rfl, hr⟩ hb
  exact ⟨A, cap, rfl, (hr.below hb).more hb.size⟩

theorem kRow_of_own {w : World} {base : Nat} {v : Value} {h : List Call} (ho : w.ownsRow base 30 10 v h.length (cellsOf h)) : kRow h v w := by
  rcases ho.2 with ⟨rfl, hn⟩ | ⟨g, cap, cur, rfl, hg, hh, _, _, _, ht⟩
  · have : h = [] := List.eq_nil_of_length_eq_zero hn
    subst this
    exact ⟨none, 0, rfl, CRow.nil⟩
  · exact ⟨_, cap, rfl, crow_of_block hh ht⟩

theorem kRow_new (w : World) (h : List Call) (cap : Nat) : kRow h (.slice (some ⟨w.heap.size, 0, none⟩) h.length cap) (w.alloc (.cells (cellsOf h).toArray 30)) :=
  ⟨_, _, rfl, crow_of_block (heap_alloc_new w _) (by rw [List.toList_toArray]; exact List.take_of_length_le (by rw [cellsOf_len]; exact Nat.le_refl _))⟩

theorem gives_new {w : World} {h : List Call} {e : Ending} {w' : World} (hg : Gives w h e w') : ∃ v, e = .returned v ∧ kRow h v w' ∧ Below w.heap.size w w' := by
  obtain ⟨v, he, ho, hb⟩ := hg
  exact ⟨v, he, kRow_of_own ho, hb⟩

theorem en10 : EntersP Try.prog 10 := fun args w => by simp [go_sem]
theorem en11 : EntersP Try.prog 11 := fun args w => by simp [go_sem]
theorem en12 : EntersP Try.prog 12 := fun args w => by simp [go_sem]
theorem en13 : EntersP Try.prog 13 := fun args w => by simp [go_sem]
theorem en14 : EntersP Try.prog 14 := fun args w => by simp [go_sem]
theorem en15 : EntersP Try.prog 15 := fun args w => by simp [go_sem]

end Go.Proofs.Ytndelolfhdliaaa
