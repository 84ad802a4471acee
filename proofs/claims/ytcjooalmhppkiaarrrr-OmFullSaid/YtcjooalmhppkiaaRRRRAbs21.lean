/- What the shelf says of a sorted row, on what is known. -/
import Derived.Test.YtcjooalmhppkiaaRRRRAbs20
import Derived.Shelf.GgSortFunc.Insertion
namespace Go.Proofs.YtcjooalmhppkiaaRRRR
open Go.RowKit Go.Sort
section
variable {α : Type} [Inhabited α]
theorem put_cells (enc : α → Value) (d : Array α) (vs : List Value) (h : d.size ≤ vs.length) : putCells enc 0 d vs.toArray = (d.toList.map enc ++ vs.drop d.size).toArray := by
  apply Array.ext
  · simp [putCells]; omega
  · intro j h1 h2
    simp only [putCells, Array.getElem_mapIdx, Nat.zero_le, true_and, Nat.zero_add, Nat.sub_zero, List.getElem_toArray]
    by_cases hj : j < d.size
    · rw [if_pos hj, List.getElem_append_left (by simpa using hj)]
      simp [hj]
    · rw [if_neg hj, List.getElem_append_right (by simpa using hj)]
      simp only [List.length_map, Array.length_toList, List.getElem_drop]
      congr 1
      omega
theorem sort_world (enc : α → Value) {w : World} {k m : Nat} {d : Array α} {os : Array Obj} {vs : List Value} {el : TypeId} (hk : w.heap[k]? = some (.cells vs.toArray el (0, 0))) (h : d.size ≤ vs.length) :
    (sortWorld enc w k 0 m d os).os = w.os ∧ (sortWorld enc w k 0 m d os).tape = w.tape ∧ (sortWorld enc w k 0 m d os).output = w.output ∧ w.heap.size ≤ (sortWorld enc w k 0 m d os).heap.size ∧
      (∀ j, j < w.heap.size → j ≠ k → (sortWorld enc w k 0 m d os).heap[j]? = w.heap[j]?) ∧ (sortWorld enc w k 0 m d os).heap[k]? = some (.cells (d.toList.map enc ++ vs.drop d.size).toArray el (0, 0)) := by
  have hkl := heap_lt hk
  refine ⟨rfl, rfl, rfl, by simp [sortWorld, grow, putRow, mapBlock, Sort.ahead], fun j hj hne => ?_, ?_⟩
  · simp only [sortWorld, grow, putRow, mapBlock, Sort.ahead]
    rw [Array.getElem?_append_left (by simpa using hj), Array.getElem?_modify, if_neg (Ne.symm hne)]
  · simp only [sortWorld, grow, putRow, mapBlock, Sort.ahead]
    rw [Array.getElem?_append_left (by simpa using hkl), Array.getElem?_modify, if_pos rfl, hk]
    simp only [Option.map_some, onCells, put_cells enc d vs h]
end
end Go.Proofs.YtcjooalmhppkiaaRRRR
