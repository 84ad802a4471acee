/- No cell of a free node is touched, but its link. -/
import Derived.Test.YtpecgpmdchejdaaM11
namespace Go.Proofs.Ytpecgpmdchejdaa
open Go
set_option maxRecDepth 100000

/-- The memory behind steps. -/
def memS (m : List Int) (s : StepT) : List Int := if s.done then m else (turnF m s.acc).1
structure SafeOk (l : LayT) (m : List Int) (s : StepT) : Prop where
  fault : s.done = false → faultF m.length s.acc = 0
  free : s.done = false → ∀ n ∈ listF l m, ¬ (nodeF l n 0 ≤ s.acc.cell ∧ s.acc.cell < nodeF l n 0 + 7)
  lt : CellsLt m
  len : m.length = l.size.toNat
def SafeAll (l : LayT) (m0 : List Int) (st : List StepT) : Prop := ∀ (i : Nat) (s : StepT), st[i]? = some s → SafeOk l ((st.take i).foldl memS m0) s
structure SafeJ (p : PlayT) (s : PSt) : Prop where
  all : SafeAll (layP p) (beginF (layP p)) s.out
  mem : s.out.foldl memS (beginF (layP p)) = s.m
  lt : CellsLt s.m
/-! ### No node is lost, and none is twice -/
def goneN (gone : List (List (Int × Int))) : List Int := gone.flatMap fun g => g.map (·.1)
structure KeptR (p : PlayT) (R : PlayedT) : Prop where
  ends : R.ends = true
  one : ∀ n, (nodesF (layP p) R.m 0 ++ listF (layP p) R.m ++ goneN R.gone).count n = if 1 ≤ n ∧ n ≤ (layP p).nodes then 1 else 0
  resv : ∀ w i : Int, 0 ≤ w → w < p.want.length → 0 ≤ i → i ≤ 2 → atF R.m (resvF (layP p) w i) = 0
  lt : CellsLt R.m
  n : R.gone.length = p.want.length
end Go.Proofs.Ytpecgpmdchejdaa
