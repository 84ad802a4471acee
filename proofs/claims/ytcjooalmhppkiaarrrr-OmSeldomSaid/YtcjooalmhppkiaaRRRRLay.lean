/- The library's sort, as this program bears it. -/
import Derived.Test.YtcjooalmhppkiaaRRRRProg
import Derived.Shelf.SlSortCmp.NoneTotal
namespace Go.Proofs.YtcjooalmhppkiaaRRRR
open Go.Shelf
def sortRen : Ren :=
{
  f := fun x =>
    match x with
    | 6 => 21
    | 15 => 25
    | 14 => 24
    | 28 => 35
    | 29 => 36
    | 20 => 27
    | 21 => 28
    | 22 => 29
    | 23 => 30
    | 24 => 31
    | 25 => 32
    | 26 => 33
    | 27 => 34
    | 46 => 37
    | 47 => 38
    | 48 => 39
    | 49 => 40
    | 50 => 41
    | 57 => 42
    | n => n,
  t := fun x =>
    match x with
    | 22 => 24
    | 24 => 3
    | 25 => 50
    | 3 => 3
    | 39 => 53
    | 0 => 0
    | 53 => 64
    | 55 => 66
    | 4 => 4
    | 46 => 57
    | 45 => 56
    | 50 => 61
    | 5 => 5
    | 9 => 9
    | 66 => 67
    | 70 => 71
    | 76 => 73
    | 77 => 45
    | n => n,
  g := fun x =>
    have n := x;
    n }
set_option maxRecDepth 100000 in
theorem sortL : SlLaysF.n6 Try.prog sortRen where
  mixed := by kernel_rfl
  f6 := ⟨"slices.SortFunc[[]int,int]", by decide, Try.func21.trans rfl⟩
  f14 := ⟨"slices.pdqsortCmpFunc[int]", by decide, Try.func24.trans rfl⟩
  f20 := ⟨"slices.insertionSortCmpFunc[int]", by decide, Try.func27.trans rfl⟩
  f21 := ⟨"slices.heapSortCmpFunc[int]", by decide, Try.func28.trans rfl⟩
  f22 := ⟨"slices.breakPatternsCmpFunc[int]", by decide, Try.func29.trans rfl⟩
  f23 := ⟨"slices.choosePivotCmpFunc[int]", by decide, Try.func30.trans rfl⟩
  f24 := ⟨"slices.reverseRangeCmpFunc[int]", by decide, Try.func31.trans rfl⟩
  f25 := ⟨"slices.partialInsertionSortCmpFunc[int]", by decide, Try.func32.trans rfl⟩
  f26 := ⟨"slices.partitionEqualCmpFunc[int]", by decide, Try.func33.trans rfl⟩
  f27 := ⟨"slices.partitionCmpFunc[int]", by decide, Try.func34.trans rfl⟩
  f46 := ⟨"slices.siftDownCmpFunc[int]", by decide, Try.func37.trans rfl⟩
  f49 := ⟨"slices.medianAdjacentCmpFunc[int]", by decide, Try.func40.trans rfl⟩
  f50 := ⟨"slices.medianCmpFunc[int]", by decide, Try.func41.trans rfl⟩
  f57 := ⟨"slices.order2CmpFunc[int]", by decide, Try.func42.trans rfl⟩
  f15 := Try.func25.trans rfl
  f28 := Try.func35.trans rfl
  f29 := Try.func36.trans rfl
  f47 := Try.func38.trans rfl
  f48 := Try.func39.trans rfl
  t0 := Try.underlying0
  a0 := Try.isAgg0
  z0 := Try.sizeOf0
  v0 := Try.zeroValue0
  t3 := Try.underlying3
  a3 := Try.isAgg3
  z3 := Try.sizeOf3
  v3 := Try.zeroValue3
  t4 := Try.underlying4
  a4 := Try.isAgg4
  z4 := Try.sizeOf4
  v4 := Try.zeroValue4
  t5 := Try.underlying5
  a5 := Try.isAgg5
  z5 := Try.sizeOf5
  v5 := Try.zeroValue5
  t9 := Try.underlying9
  a9 := Try.isAgg9
  z9 := Try.sizeOf9
  v9 := Try.zeroValue9
  t22 := Try.underlying24
  a22 := Try.isAgg24
  z22 := Try.sizeOf24
  v22 := Try.zeroValue24
  a24 := Try.isAgg3
  z24 := Try.sizeOf3
  t25 := Try.underlying50
  a25 := Try.isAgg50
  z25 := Try.sizeOf50
  v25 := Try.zeroValue50
  t39 := Try.underlying53
  a39 := Try.isAgg53
  z39 := Try.sizeOf53
  v39 := Try.zeroValue53
  t45 := Try.underlying56
  a45 := Try.isAgg56
  z45 := Try.sizeOf56
  v45 := Try.zeroValue56
  t46 := Try.underlying57
  a46 := Try.isAgg57
  z46 := Try.sizeOf57
  v46 := Try.zeroValue57
  t50 := Try.underlying61
  a50 := Try.isAgg61
  z50 := Try.sizeOf61
  v50 := Try.zeroValue61
  t53 := Try.underlying64
  a53 := Try.isAgg64
  z53 := Try.sizeOf64
  v53 := Try.zeroValue64
  t55 := Try.underlying66
  a55 := Try.isAgg66
  z55 := Try.sizeOf66
  v55 := Try.zeroValue66
  t66 := Try.underlying67
  a66 := Try.isAgg67
  z66 := Try.sizeOf67
  v66 := Try.zeroValue67
  t70 := Try.underlying71
  a70 := Try.isAgg71
  z70 := Try.sizeOf71
  v70 := Try.zeroValue71
  t76 := Try.underlying73
  a76 := Try.isAgg73
  z76 := Try.sizeOf73
  v76 := Try.zeroValue73
  t77 := Try.underlying45
  a77 := Try.isAgg45
  z77 := Try.sizeOf45
  v77 := Try.zeroValue45
end Go.Proofs.YtcjooalmhppkiaaRRRR

