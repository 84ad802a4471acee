/- Numbers as arguments; five arguments. -/
import Derived.Test.YtknancnmdpdefaaOpenS
import Derived.Test.YtknancnmdpdefaaAbs14
namespace Go.Proofs.Ytknancnmdpdefaa
open Go.ChangeShapes Go.WideShapes Go.ChangeAt Go.RowKit Go.Deep
section
variable {H : Type} {enc : TypeId × Value → H} {P : Program} {w : World} {base : Nat} {spare : Nat → Bool} {held : Bool} {v : Value} {r : Reach} {b0 : Nat}
theorem trodAll_five {t0 t1 t2 t3 t4 : TypeId} {args : Array Value} {ds : List (DataW H)} {ps : List MemPlace} (h : DataW.TrodAll enc P w base spare held [t0, t1, t2, t3, t4] args.toList ds ps) :
    ∃ v0 v1 v2 v3 v4 d0 d1 d2 d3 d4 p0 p1 p2 p3 p4, args = #[v0, v1, v2, v3, v4] ∧ ds = [d0, d1, d2, d3, d4] ∧ ps = p0 ++ p1 ++ p2 ++ p3 ++ p4 ∧ DataW.Trod enc P w base spare held t0 v0 d0 p0 ∧ DataW.Trod enc P w base spare held t1 v1 d1 p1 ∧ DataW.Trod enc P w base spare held t2 v2 d2 p2 ∧ DataW.Trod enc P w base spare held t3 v3 d3 p3 ∧ DataW.Trod enc P w base spare held t4 v4 d4 p4 := by
  obtain ⟨v0, vs0, d0, ds0, p0, q0, hargs, rfl, rfl, h0, r0⟩ := trodAll_cons h
  obtain ⟨v1, vs1, d1, ds1, p1, q1, rfl, rfl, rfl, h1, r1⟩ := trodAll_cons r0
  obtain ⟨v2, vs2, d2, ds2, p2, q2, rfl, rfl, rfl, h2, r2⟩ := trodAll_cons r1
  obtain ⟨v3, vs3, d3, ds3, p3, q3, rfl, rfl, rfl, h3, r3⟩ := trodAll_cons r2
  obtain ⟨v4, vs4, d4, ds4, p4, q4, rfl, rfl, rfl, h4, r4⟩ := trodAll_cons r3
  obtain ⟨rfl, rfl, rfl⟩ := trodAll_nil r4
  exact ⟨v0, v1, v2, v3, v4, d0, d1, d2, d3, d4, p0, p1, p2, p3, p4, by cases args; simp_all, rfl, by simp, h0, h1, h2, h3, h4⟩
theorem arg_u8 {t : TypeId} (ht : P.underlying t = some (.int .u8)) (hv : Value.okWide P w r b0 t v) (h : Read enc P w base spare held t v.cells.toList) : ∃ n : Int, (0 ≤ n ∧ n ≤ 255) ∧ DRep (envA w) v (dK .u8 n) := by
  obtain ⟨n, rfl⟩ := okWide_int ht hv
  obtain ⟨m, e, hm⟩ := read_u8 ht h
  cases e
  exact ⟨_, hm, .p (.raw _)⟩
theorem arg_u16 {t : TypeId} (ht : P.underlying t = some (.int .u16)) (hv : Value.okWide P w r b0 t v) (h : Read enc P w base spare held t v.cells.toList) : ∃ n : Int, (0 ≤ n ∧ n ≤ 65535) ∧ DRep (envA w) v (dK .u16 n) := by
  obtain ⟨n, rfl⟩ := okWide_int ht hv
  obtain ⟨m, e, hm⟩ := read_u16 ht h
  cases e
  exact ⟨_, hm, .p (.raw _)⟩
theorem arg_u32 {t : TypeId} (ht : P.underlying t = some (.int .u32)) (hv : Value.okWide P w r b0 t v) (h : Read enc P w base spare held t v.cells.toList) : ∃ n : Int, (0 ≤ n ∧ n ≤ 4294967295) ∧ DRep (envA w) v (dK .u32 n) := by
  obtain ⟨n, rfl⟩ := okWide_int ht hv
  obtain ⟨m, e, hm⟩ := read_u32 ht h
  cases e
  exact ⟨_, hm, .p (.raw _)⟩
theorem arg_int {t : TypeId} (ht : P.underlying t = some (.int .i64)) (hv : Value.okWide P w r b0 t v) (h : Read enc P w base spare held t v.cells.toList) : ∃ n : Int, (-9223372036854775808 ≤ n ∧ n ≤ 9223372036854775807) ∧ DRep (envA w) v (dI n) := by
  obtain ⟨n, rfl⟩ := okWide_int ht hv
  obtain ⟨m, e, hm⟩ := read_i64 ht h
  cases e
  exact ⟨_, hm, .p (.raw _)⟩
end
end Go.Proofs.Ytknancnmdpdefaa
