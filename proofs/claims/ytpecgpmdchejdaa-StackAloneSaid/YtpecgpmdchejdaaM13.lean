/- Alone: what is pushed and popped, and in how many accesses. -/
import Derived.Test.YtpecgpmdchejdaaE7
namespace Go.Proofs.Ytpecgpmdchejdaa
open Go
set_option maxRecDepth 100000

def aloneP (vs : List Int) : PlayT := ⟨6, [vs.map fun v => ⟨4, 0, v, 0⟩, [⟨5, 0, 0, 0⟩], [⟨5, 0, 0, 0⟩]], []⟩
/-- Of each operation that is done: its accesses, its kind, its value. -/
def sumA : Int → List StepT → List (Int × Int × Int)
  | _, [] => []
  | a, s :: l => if s.done then (a, s.op.kind, s.out.val) :: sumA 0 l else sumA (a + 1) l
theorem alone0 : sumA 0 (playedF (aloneP [])).steps = [(6, 5, 0), (6, 5, 0)] ∧ (playedF (aloneP [])).ends = true := ⟨by kernel_rfl, by kernel_rfl⟩
theorem alone1 (a : Int) : sumA 0 (playedF (aloneP [a])).steps = [(9, 4, 0), (11, 5, a), (6, 5, 0)] ∧ (playedF (aloneP [a])).ends = true := ⟨by kernel_rfl, by kernel_rfl⟩
theorem alone2 (a b : Int) : sumA 0 (playedF (aloneP [a, b])).steps = [(9, 4, 0), (9, 4, 0), (11, 5, b), (11, 5, a)] ∧ (playedF (aloneP [a, b])).ends = true := ⟨by kernel_rfl, by kernel_rfl⟩
theorem alone3 (a b c : Int) : sumA 0 (playedF (aloneP [a, b, c])).steps = [(9, 4, 0), (9, 4, 0), (9, 4, 0), (11, 5, c), (11, 5, b)] ∧ (playedF (aloneP [a, b, c])).ends = true := ⟨by kernel_rfl, by kernel_rfl⟩
theorem alone4 (a b c d : Int) : sumA 0 (playedF (aloneP [a, b, c, d])).steps = [(9, 4, 0), (9, 4, 0), (9, 4, 0), (9, 4, 0), (11, 5, d), (11, 5, c)] ∧ (playedF (aloneP [a, b, c, d])).ends = true := ⟨by kernel_rfl, by kernel_rfl⟩
/-- What the law of plays alone asks for, from a number of pops on. -/
def okA (vs : List Int) : Int → List (Int × Int × Int) → Prop
  | c, [] => c = 2
  | c, (a, k, v) :: l => if k = 5 then (if c < vs.length then a = 11 ∧ vs[((vs.length : Int) - 1 - c).toNat]? = some v else a = 6) ∧ okA vs (c + 1) l else a = 9 ∧ okA vs c l
theorem alone_true (vs : List Int) (h : vs.length ≤ 4) : (playedF (aloneP vs)).ends = true ∧ okA vs 0 (sumA 0 (playedF (aloneP vs)).steps) := by
  match vs, h with
  | [], _ => obtain ⟨h1, h2⟩ := alone0; rw [h1]; exact ⟨h2, by simp [okA]⟩
  | [a], _ => obtain ⟨h1, h2⟩ := alone1 a; rw [h1]; exact ⟨h2, by simp [okA]⟩
  | [a, b], _ => obtain ⟨h1, h2⟩ := alone2 a b; rw [h1]; exact ⟨h2, by simp [okA]⟩
  | [a, b, c], _ => obtain ⟨h1, h2⟩ := alone3 a b c; rw [h1]; exact ⟨h2, by simp [okA]⟩
  | [a, b, c, d], _ => obtain ⟨h1, h2⟩ := alone4 a b c d; rw [h1]; exact ⟨h2, by simp [okA]⟩
theorem alone_ok (vs : List Int) (h : vs.length ≤ 4) : PlayOk (aloneP vs) :=
  ⟨by simp [aloneP], by simp [aloneP], by simp [aloneP], by simp [aloneP], by simp [aloneP], fun w hw => by
    simp only [aloneP, List.mem_cons, List.not_mem_nil, or_false] at hw
    rcases hw with rfl | rfl | rfl
    · simp; omega
    · simp
    · simp⟩
end Go.Proofs.Ytpecgpmdchejdaa
