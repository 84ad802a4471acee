/- An access done in cells of our own: its walk. -/
import Derived.Test.YtdmnjoidfjidbaaGreatD16
namespace Go.Proofs.YtdmnjoidfjidbaaGreat
open Go.RowKit
set_option maxRecDepth 100000

theorem wrap64 (x : Int) : IntKind.i64.wrap x = w64 x := by
  show (if (true && decide (x % 18446744073709551616 ≥ 9223372036854775808)) = true then x % 18446744073709551616 - 18446744073709551616 else x % 18446744073709551616) = w64 x
  unfold w64
  simp only [Bool.true_and, decide_eq_true_eq]
  split <;> split <;> omega
theorem own_get {xs : List Int} {cs : List Dt} (h : cs.take xs.length = (pInts xs).map Dt.p) {x : Nat} (hx : x < xs.length) : cs[x]? = some (dI (cellAt xs x)) := by
  have h2 : xs[x]? = some (cellAt xs x) := by simp [cellAt, hx]
  have h1 : (cs.take xs.length)[x]? = some (dI (cellAt xs x)) := by
    rw [h, List.getElem?_map, pInts_get h2]; rfl
  rw [List.getElem?_take, if_pos hx] at h1
  exact h1
theorem own_set {xs : List Int} {cs : List Dt} (h : cs.take xs.length = (pInts xs).map Dt.p) (x : Nat) (v : Int) : (cs.set x (dI v)).take xs.length = (pInts (xs.set x v)).map Dt.p := by
  rw [List.take_set, h]
  unfold pInts
  simp [List.map_set]
theorem plain_set {cs : List Dt} (h : PlainC cs) {i : Nat} {n : Int} : PlainC (cs.set i (dI n)) := by
  intro B G
  have h1 := h B G
  clear h
  induction cs generalizing i with
  | nil => rfl
  | cons d cs ih =>
    simp only [Dt.ok.oks, Bool.and_eq_true] at h1
    cases i with
    | zero => simp only [List.set_cons_zero, Dt.ok.oks, Bool.and_eq_true]; exact ⟨rfl, h1.2⟩
    | succ i => simp only [List.set_cons_succ, Dt.ok.oks, Bool.and_eq_true]; exact ⟨h1.1, ih h1.2⟩
set_option maxHeartbeats 4000000 in
theorem turn_i (xs : List Int) (k : Int) (x : Nat) (o nw : Int) (hx : x < xs.length) (_hn : xs.length ≤ 1000000) (c : Nat) (cs : List Dt) (hlc : cs.length = c) (hc : xs.length ≤ c) (htk : cs.take xs.length = (pInts xs).map Dt.p) (hpl : PlainC cs) :
    ImpC Tryz.prog 39 [9] [.arr 9 0 xs.length c, .agg [dI k, dI x, dI o, dI nw]] [(9, cs)] (fun d bs => d = dRes (turnF xs ⟨k, x, o, nw⟩).2 ∧ ∃ cs', bs = [(9, cs')] ∧ cs'.length = c ∧ cs'.take xs.length = (pInts (turnF xs ⟨k, x, o, nw⟩).1).map Dt.p ∧ PlainC cs') := by
  have hg := own_get htk hx
  generalize hv : cellAt xs x = v at hg
  generalize hE : turnF xs ⟨k, x, o, nw⟩ = E
  unfold turnF at hE
  simp only [Int.toNat_natCast, hv, ← wrap64] at hE
  have hs1 := own_set htk x nw
  have hs2 := own_set htk x (IntKind.i64.wrap (v + nw))
  have hp1 : PlainC (cs.set x (dI nw)) := plain_set hpl
  have hp2 : PlainC (cs.set x (dI (IntKind.i64.wrap (v + nw)))) := plain_set hpl
  refine imp_fin tabOk Tryz.func39 rfl Tryz.ntmps39 rfl rfl rfl (by (repeat (first | exact trivial | refine ⟨rfl, ?_⟩))) fun w cl own kf => ?_
  refine go ?_
  refine a_q (indexAddrA_step (p := x) tabOk rfl rfl rfl rfl rfl (by omega) (by omega) (by show x = (x : Int).toNat * 1; omega)) rfl rfl rfl ?_
  refine a_q (loadAt_step tabOk rfl rfl rfl rfl rfl hg) rfl rfl rfl ?_
  refine go ?_
  generalize h3 : decide (k = 3) = cc; cases cc
  · have h3' := of_decide_eq_false h3
    rw [if_neg h3'] at hE
    refine go ?_
    generalize h2 : decide (k = 2) = cc; cases cc
    · have h2' := of_decide_eq_false h2
      refine go ?_
      generalize h5 : decide (k = 5) = cc; cases cc
      · have h5' := of_decide_eq_false h5
        rw [if_neg (by omega)] at hE
        refine go ?_
        generalize h4 : decide (k = 4) = cc; cases cc
        · rw [if_neg (of_decide_eq_false h4)] at hE
          refine go ?_
          refine finI_ret [(9, cs)] rfl rfl ⟨⟨rfl, hpl _ _⟩, trivial⟩ ⟨rfl, trivial⟩ ?_
          rw [← hE]
          exact ⟨rfl, cs, rfl, hlc, htk, hpl⟩
        · rw [if_pos (of_decide_eq_true h4)] at hE
          refine go ?_
          refine a_q (indexAddrA_step (p := x) tabOk rfl rfl rfl rfl rfl (by omega) (by omega) (by show x = (x : Int).toNat * 1; omega)) rfl rfl rfl ?_
          refine a_storeAt tabOk rfl rfl rfl rfl rfl rfl rfl rfl rfl (by rw [hlc]; omega) ?_
          refine go ?_
          refine finI_ret [(9, cs.set x (dI (IntKind.i64.wrap (v + nw))))] rfl rfl ⟨⟨rfl, hp2 _ _⟩, trivial⟩ ⟨rfl, trivial⟩ ?_
          rw [← hE]
          exact ⟨rfl, _, rfl, by rw [List.length_set]; exact hlc, hs2, hp2⟩
      · rw [if_pos (by have := of_decide_eq_true h5; omega)] at hE
        refine go ?_
        refine a_q (indexAddrA_step (p := x) tabOk rfl rfl rfl rfl rfl (by omega) (by omega) (by show x = (x : Int).toNat * 1; omega)) rfl rfl rfl ?_
        refine a_storeAt tabOk rfl rfl rfl rfl rfl rfl rfl rfl rfl (by rw [hlc]; omega) ?_
        refine go ?_
        refine finI_ret [(9, cs.set x (dI nw))] rfl rfl ⟨⟨rfl, hp1 _ _⟩, trivial⟩ ⟨rfl, trivial⟩ ?_
        rw [← hE]
        exact ⟨rfl, _, rfl, by rw [List.length_set]; exact hlc, hs1, hp1⟩
    · rw [if_pos (by have := of_decide_eq_true h2; omega)] at hE
      refine go ?_
      refine a_q (indexAddrA_step (p := x) tabOk rfl rfl rfl rfl rfl (by omega) (by omega) (by show x = (x : Int).toNat * 1; omega)) rfl rfl rfl ?_
      refine a_storeAt tabOk rfl rfl rfl rfl rfl rfl rfl rfl rfl (by rw [hlc]; omega) ?_
      refine go ?_
      refine finI_ret [(9, cs.set x (dI nw))] rfl rfl ⟨⟨rfl, hp1 _ _⟩, trivial⟩ ⟨rfl, trivial⟩ ?_
      rw [← hE]
      exact ⟨rfl, _, rfl, by rw [List.length_set]; exact hlc, hs1, hp1⟩
  · rw [if_pos (of_decide_eq_true h3)] at hE
    refine go ?_
    generalize h4 : decide (v = o) = cc; cases cc
    · rw [if_neg (of_decide_eq_false h4)] at hE
      refine go ?_
      refine finI_ret [(9, cs)] rfl rfl ⟨⟨rfl, hpl _ _⟩, trivial⟩ ⟨rfl, trivial⟩ ?_
      rw [← hE]
      exact ⟨rfl, cs, rfl, hlc, htk, hpl⟩
    · rw [if_pos (of_decide_eq_true h4)] at hE
      refine go ?_
      refine a_q (indexAddrA_step (p := x) tabOk rfl rfl rfl rfl rfl (by omega) (by omega) (by show x = (x : Int).toNat * 1; omega)) rfl rfl rfl ?_
      refine a_storeAt tabOk rfl rfl rfl rfl rfl rfl rfl rfl rfl (by rw [hlc]; omega) ?_
      refine go ?_
      refine finI_ret [(9, cs.set x (dI nw))] rfl rfl ⟨⟨rfl, hp1 _ _⟩, trivial⟩ ⟨rfl, trivial⟩ ?_
      rw [← hE]
      exact ⟨rfl, _, rfl, by rw [List.length_set]; exact hlc, hs1, hp1⟩
end Go.Proofs.YtdmnjoidfjidbaaGreat
