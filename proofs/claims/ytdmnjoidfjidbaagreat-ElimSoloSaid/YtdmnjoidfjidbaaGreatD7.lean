/- Retiring nodes: its walk. -/
import Derived.Test.YtdmnjoidfjidbaaGreatD6
namespace Go.Proofs.YtdmnjoidfjidbaaGreat
open Go.RowKit
set_option maxRecDepth 100000

theorem clo90_c (r f g0 g1 : Int) : PureC Tryz.prog 104 [dI r, .el [pI f], .el [pI g0, pI g1]] (dB (inB f g1 r)) := by
  refine pure_fin tabOk Tryz.func104 rfl Tryz.ntmps104 rfl rfl rfl fun w cl => ?_
  refine go ?_
  generalize h1 : decide (f ≤ r) = cc; cases cc
  · refine go ?_
    first | refine fin_ret rfl ?_ | refine fin_normal rfl ?_
    rw [inB, h1]; rfl
  · refine go ?_
    refine a_q (indexAddrE_step tabOk rfl rfl rfl rfl rfl (by omega) (by omega) rfl) rfl rfl rfl ?_
    refine go ?_
    first | refine fin_ret rfl ?_ | refine fin_normal rfl ?_
    rw [inB, h1]; rfl
def findF (p : Int → Bool) : List Int → Nat → Int
  | [], _ => -1
  | r :: l, i => if p r then i else findF p l (i + 1)
theorem findF_any (p : Int → Bool) : ∀ (l : List Int) (i : Nat), decide (0 ≤ findF p l i) = l.any p
  | [], i => by simp [findF]
  | r :: l, i => by
    rw [findF, List.any_cons]
    cases h : p r
    · simpa using findF_any p l (i + 1)
    · simp
abbrev cloD (f g0 g1 : Int) : Dt := .fn (.func 104) [] [.el [pI f], .el [pI g0, pI g1]]
set_option maxHeartbeats 4000000 in
theorem idxfn_c (held : List Int) (hh : held.length ≤ 1000000) (f g0 g1 : Int) : PureC Tryz.prog 107 [dInts held, cloD f g0 g1] (dI (findF (inB f g1) held 0)) := by
  generalize hE : findF (inB f g1) held 0 = E
  refine pure_fin tabOk Tryz.func107 rfl Tryz.ntmps107 rfl rfl rfl fun w cl => ?_
  refine go ?_
  refine awp_loop_ok (fun i : Nat => i ≤ held.length ∧ findF (inB f g1) (held.drop i) i = E) (fun i => ⟨[(8, dI i), (7, dI held.length), (6, dInts held), (0, dInts held), (1, cloD f g0 g1)], [], []⟩) (fun i => held.length - i) 0 ⟨Nat.zero_le _, hE⟩ (zX) ?_
  rintro i ⟨hi, hE⟩
  refine go ?_
  refine ck_b (fun h1 => ?_) (fun h1 => ?_) <;> try rw [h1]
  · have h1' := of_decide_eq_true h1
    have hil : i < held.length := by omega
    obtain ⟨x, hx⟩ := getI (l := held) (i := i) (by omega) h1'
    have hd : held.drop i = x :: held.drop (i + 1) := by
      rw [List.drop_eq_getElem_cons hil]
      simp only [Int.toNat_natCast] at hx
      rw [(List.getElem?_eq_some_iff.1 hx).2]
    rw [hd, findF] at hE
    refine go ?_
    refine a_q (indexAddr_step tabOk [pI x] rfl rfl rfl rfl rfl rfl (by first | omega | (simp; done) | (simp; omega)) (by first | omega | (simp; done) | (simp; omega)) (by first | (simp; done) | exact List.cons_ne_nil _ _) (ints_idx hx)) rfl rfl rfl ?_
    refine go ?_
    refine a_q (callv_step (clo90_c x f g0 g1) rfl (fun a w => Tryz.call104 a w) rfl rfl) rfl rfl rfl ?_
    refine go ?_
    generalize h2 : inB f g1 x = cc; cases cc
    · rw [h2, if_neg (by decide)] at hE
      refine go ?_
      exact ⟨i + 1, ⟨by omega, hE⟩, by omega, zX⟩
    · rw [h2, if_pos rfl] at hE
      refine go ?_
      first | refine fin_ret rfl ?_ | refine fin_normal rfl ?_
      rw [hE]
  · have hil : held.length ≤ i := by have := of_decide_eq_false h1; omega
    rw [List.drop_of_length_le hil, findF] at hE
    refine go ?_
    first | refine fin_ret rfl ?_ | refine fin_normal rfl ?_
    rw [← hE]
theorem contains_c (held : List Int) (hh : held.length ≤ 1000000) (f g0 g1 : Int) : PureC Tryz.prog 100 [dInts held, cloD f g0 g1] (dB (held.any (inB f g1))) := by
  refine pure_fin tabOk Tryz.func100 rfl Tryz.ntmps100 rfl rfl rfl fun w cl => ?_
  refine go ?_
  refine a_q (call_step (idxfn_c held hh f g0 g1) rfl (fun a w => Tryz.call107 a w) rfl) rfl rfl rfl ?_
  refine go ?_
  first | refine fin_ret rfl ?_ | refine fin_normal rfl ?_
  rw [← findF_any _ held 0]
end Go.Proofs.YtdmnjoidfjidbaaGreat
