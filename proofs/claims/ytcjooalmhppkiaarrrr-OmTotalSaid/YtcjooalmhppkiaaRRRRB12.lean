/- The row of distinct labels is one. -/
import Derived.Test.YtcjooalmhppkiaaRRRRB11
namespace Go.Proofs.YtcjooalmhppkiaaRRRR
open Go.RowKit
theorem rowF_pairwise (ls : List Int) : (rowF ls).Pairwise fun x y => labAt ls x ≤ labAt ls y := by
  rw [List.pairwise_iff_getElem]
  intro i j hi hj hij
  exact rowF_sorted ls hij (List.getElem?_eq_getElem hi) (List.getElem?_eq_getElem hj)
theorem rowF_eq {ls : List Int} {r : List Nat} (hp : r.Perm (List.range ls.length)) (hs : r.Pairwise fun x y => labAt ls x < labAt ls y) (hd : ∀ x y, x < ls.length → y < ls.length → labAt ls x = labAt ls y → x = y) : rowF ls = r := by
  refine List.Perm.eq_of_pairwise (le := fun x y => labAt ls x ≤ labAt ls y) (fun a b ha hb h1 h2 => ?_) (rowF_pairwise ls) (hs.imp fun h => by omega) ((rowF_perm ls).trans hp.symm)
  have ha' := (rowF_mem ls a).1 ha
  have hb' := List.mem_range.1 ((hp.mem_iff).1 hb)
  exact hd a b ha' hb' (by omega)
end Go.Proofs.YtcjooalmhppkiaaRRRR
