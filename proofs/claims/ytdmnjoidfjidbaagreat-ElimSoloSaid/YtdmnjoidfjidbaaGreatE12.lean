/- Free nodes, plays that are looked at, and their layouts: their walk. -/
import Derived.Test.YtdmnjoidfjidbaaGreatE9
import Derived.Test.YtdmnjoidfjidbaaGreatE11
import Derived.Test.YtdmnjoidfjidbaaGreatPB
namespace Go.Proofs.YtdmnjoidfjidbaaGreat
open Go.RowKit
set_option maxRecDepth 100000

def pOp (o : OpT) : List Pl := [pI o.kind, pI o.obj, pI o.a, pI o.b]
def pOps (l : List OpT) : List Pl := l.flatMap pOp
abbrev plOps (l : List OpT) : Pl := .sl false l.length (pOps l)
abbrev dOps (l : List OpT) : Dt := .p (plOps l)
abbrev dWant (w : List (List OpT)) : Dt := .p (.sl false w.length (w.map plOps))
abbrev p8 (n : Int) : Pl := .raw (.int .u8 n)
abbrev dTurns (t : List Int) : Dt := .p (.sl false t.length (t.map p8))
set_option maxHeartbeats 4000000 in
theorem reflist_c (l : LayT) (hL : LayOk l) (m : List Int) : PureC Tryz.prog 94 [dLay l, dMem m] (dInts (listF l m)) := by
  generalize hE : listF l m = E
  unfold listF at hE
  obtain ⟨hn0, hn1⟩ := hL.nodes
  refine pure_fin tabOk Tryz.func94 rfl Tryz.ntmps94 rfl rfl rfl fun w cl => ?_
  refine go ?_
  refine a_q (call_step (cell_c m l.free) rfl (fun a w => Tryz.call106 a w) rfl) rfl rfl rfl ?_
  refine go ?_
  refine a_q (call_step (refof_c (atF m l.free)) rfl (fun a w => Tryz.call105 a w) rfl) rfl rfl rfl ?_
  refine go ?_
  generalize (ofW (atF m l.free)).idx = n0 at hE
  refine awp_ghost (tip_ghost 5 0 3 1 rfl rfl rfl) ?_
  refine awp_loop_ok (fun p : Nat × List Int × Int => p.1 + p.2.1.length = l.nodes.toNat + 1 ∧ chainF (fun n => atF m (nodeF l n 7)) l.nodes p.1 p.2.1 p.2.2 = E) (fun p => ⟨[(7, dI p.2.2), (5, .tip 0 p.2.1.length (pInts p.2.1)), (2, .ptr 0 0), (3, .ptr 1 0)], [(1, [dInts m]), (0, layD l)], [(0, ⟨3, 1, p.2.1.length⟩)]⟩) (fun p => p.1) (l.nodes.toNat + 1, [], n0) ⟨by simp, hE⟩ (zX) ?_
  rintro ⟨k, acc, n⟩ ⟨hk, hE⟩
  simp only at hk hE
  refine (show AWP _ _ _ _ ⟨[(7, dI n), (5, .tip 0 acc.length (pInts acc)), (2, .ptr 0 0), (3, .ptr 1 0)], [(1, [dInts m]), (0, layD l)], [(0, ⟨3, 1, acc.length⟩)]⟩ from ?_)
  refine go ?_
  refine ck_b (fun h2 => ?_) (fun h2 => ?_) <;> try rw [h2]
  · have h2' := of_decide_eq_true h2
    obtain ⟨k, rfl⟩ : ∃ j, k = j + 1 := ⟨k - 1, by omega⟩
    rw [chainF] at hE
    refine go ?_
    refine a_q (call_step (in_c acc n (by omega)) rfl (fun a w => Tryz.call93 a w) rfl) rfl rfl rfl ?_
    refine go ?_
    generalize h3 : decide (n < 1) = cc; cases cc
    · have h3' := of_decide_eq_false h3
      refine go ?_
      generalize h4 : decide (n > l.nodes) = cc; cases cc
      · have h4' := of_decide_eq_false h4
        refine go ?_
        generalize h5 : decide (n ∈ acc) = cc; cases cc
        · rw [if_pos ⟨by omega, by omega, of_decide_eq_false h5⟩] at hE
          refine go ?_
          refine a_append tabOk rfl rfl rfl rfl rfl rfl rfl rfl rfl rfl rfl rfl rfl (by unfold maxLen; omega) (by show (_ + _) * 8 ≤ _; omega) ?_
          rw [pInts_snoc, show acc.length + 1 = (acc ++ [n]).length by simp]
          refine go ?_
          refine awp_region_q [] rfl (by kernel_rfl) (by kernel_rfl) ?_
          refine goQ ?_
          refine r_q (call_step (refnode_c l hL n 7 (by omega)) rfl (fun a w => Tryz.call59 a w) rfl) rfl rfl ?_
          refine goQ ?_
          refine r_q (call_step (cell_c m (nodeF l n 7)) rfl (fun a w => Tryz.call106 a w) rfl) rfl rfl ?_
          refine goQ ?_
          refine go ?_
          exact ⟨(k, acc ++ [n], atF m (nodeF l n 7)), ⟨by simp; omega, hE⟩, by simp only; omega, zX⟩
        · rw [if_neg (fun hh => hh.2.2 (of_decide_eq_true h5))] at hE
          refine go ?_
          first | refine fin_ret rfl ?_ | refine fin_normal rfl ?_
          rw [← hE]
      · have h4' := of_decide_eq_true h4
        rw [if_neg (fun hh => by omega)] at hE
        refine go ?_
        first | refine fin_ret rfl ?_ | refine fin_normal rfl ?_
        rw [← hE]
    · have h3' := of_decide_eq_true h3
      rw [if_neg (fun hh => by omega)] at hE
      refine go ?_
      first | refine fin_ret rfl ?_ | refine fin_normal rfl ?_
      rw [← hE]
  · have h2' := of_decide_eq_false h2
    obtain rfl : k = 0 := by omega
    rw [chainF] at hE
    refine go ?_
    first | refine fin_ret rfl ?_ | refine fin_normal rfl ?_
    rw [← hE]
abbrev playD (want : List (List OpT)) (turns : List Int) : List Dt := [dWant want, dTurns turns]
abbrev dPlay (want : List (List OpT)) (turns : List Int) : Dt := .agg (playD want turns)
theorem map_idx {α : Type} {f : α → Pl} {l : List α} {i : Int} {x : α} (h : l[i.toNat]? = some x) : ∀ (m : Nat) q, [f x][m]? = some q → (l.map f)[i.toNat * 1 + m]? = some q := by
  intro m q hq
  cases m with
  | zero =>
    simp at hq; subst hq
    rw [Nat.mul_one, Nat.add_zero, List.getElem?_map, h]; rfl
  | succ m => simp at hq
theorem ops_idx {l : List OpT} {i : Int} {o : OpT} (h : l[i.toNat]? = some o) : ∀ (m : Nat) q, [pI o.kind, pI o.obj, pI o.a, pI o.b][m]? = some q → (pOps l)[i.toNat * 4 + m]? = some q := flat_idx (f := pOp) (k := 4) (fun _ => rfl) h
theorem all_false {α : Type} {f : α → Bool} {l : List α} {i : Nat} {x : α} (h : l[i]? = some x) (hf : f x = false) : l.all f = false := by
  rw [List.all_eq_false]
  exact ⟨x, List.mem_of_getElem? h, by simp [hf]⟩
theorem all_take {α : Type} {f : α → Bool} {l : List α} {i : Nat} {x : α} (h : l[i]? = some x) (hf : f x = true) (ht : (l.take i).all f = true) : (l.take (i + 1)).all f = true := by
  rw [List.take_add_one, h, List.all_append, ht]
  simp [hf]

theorem sum_take {l : List Nat} {i : Nat} {x : Nat} (h : l[i]? = some x) : (l.take (i + 1)).sum = (l.take i).sum + x := by
  rw [List.take_add_one, h]; simp
theorem sum_take_le (l : List Nat) (i : Nat) : (l.take i).sum ≤ l.sum := by
  rw [← List.take_append_drop i l, List.sum_append, List.take_append_drop]; omega
set_option maxHeartbeats 8000000 in
theorem few_c (want : List (List OpT)) (turns : List Int) (ops many : Nat) (hs3 : want.length ≤ 3 → (want.map List.length).sum ≤ 9223372036854775807) (hops : ops ≤ 1000) (hmany : many ≤ 1000) : PureC Tryz.prog 5 [dPlay want turns, dI ops, dI many] (dB (fewF want turns ops many)) := by
  generalize hE : fewF want turns ops many = E
  unfold fewF at hE
  refine pure_fin tabOk Tryz.func5 rfl Tryz.ntmps5 rfl rfl rfl fun w cl => ?_
  refine go ?_
  generalize h1 : decide ((want.length : Int) < 1) = cc; cases cc
  · have h1' := of_decide_eq_false h1
    refine go ?_
    generalize h2 : decide ((want.length : Int) > 3) = cc; cases cc
    · have h2' := of_decide_eq_false h2
      have hs := hs3 (by omega)
      refine go ?_
      generalize h3 : decide ((turns.length : Int) > many) = cc; cases cc
      · have h3' := of_decide_eq_false h3
        rw [show decide (1 ≤ want.length) = true by rw [decide_eq_true_eq]; omega, show decide (want.length ≤ 3) = true by rw [decide_eq_true_eq]; omega, show decide (turns.length ≤ many) = true by rw [decide_eq_true_eq]; omega, Bool.true_and, Bool.true_and, Bool.true_and] at hE
        refine go ?_
        refine awp_loop_ok (fun i : Nat => i ≤ want.length ∧ (want.take i).all (fun w => w.all okOp) = true) (fun i => ⟨[(8, dI i), (7, dI (((want.map List.length).take i).sum : Nat)), (3, .ptr 0 0), (1, dI ops)], [(0, playD want turns)], []⟩) (fun i => want.length - i) 0 ⟨by omega, rfl⟩ (zX) ?_
        rintro i ⟨hi, hall⟩
        refine go ?_
        refine ck_b (fun h4 => ?_) (fun h4 => ?_) <;> try rw [h4]
        · have h4' : (i : Int) < want.length := of_decide_eq_true h4
          obtain ⟨w, hwi⟩ := getI (l := want) (i := i) (by omega) h4'
          have hwi' := hwi
          simp only [Int.toNat_natCast] at hwi'
          have hst := sum_take (l := want.map List.length) (i := i) (x := w.length) (by rw [List.getElem?_map, hwi']; rfl)
          have hsl := sum_take_le (want.map List.length) (i + 1)
          refine go ?_
          refine a_q (indexAddr_step tabOk [plOps w] rfl rfl rfl rfl rfl rfl (by first | omega | (simp; done) | (simp; omega)) (by first | omega | (simp; done) | (simp; omega)) (by first | (simp; done) | exact List.cons_ne_nil _ _) (map_idx hwi)) rfl rfl rfl ?_
          refine go ?_
          rw [show ((((want.map List.length).take i).sum : Nat) : Int) + w.length = ((((want.map List.length).take (i + 1)).sum : Nat) : Int) by omega]
          refine awp_loop_ok (fun k : Nat => k ≤ w.length ∧ (w.take k).all okOp = true) (fun k => ⟨[(9, dI k), (8, dI i), (7, dI (((want.map List.length).take (i + 1)).sum : Nat)), (3, .ptr 0 0), (1, dI ops)], [(0, playD want turns)], []⟩) (fun k => w.length - k) 0 ⟨by omega, rfl⟩ (zX) ?_
          rintro k ⟨hk, hallk⟩
          refine go ?_
          refine a_q (indexAddr_step tabOk [plOps w] rfl rfl rfl rfl rfl rfl (by first | omega | (simp; done) | (simp; omega)) (by first | omega | (simp; done) | (simp; omega)) (by first | (simp; done) | exact List.cons_ne_nil _ _) (map_idx hwi)) rfl rfl rfl ?_
          refine go ?_
          refine ck_b (fun h6 => ?_) (fun h6 => ?_) <;> try rw [h6]
          · have h6' := of_decide_eq_true h6
            obtain ⟨o, ho⟩ := getI (l := w) (i := k) (by omega) h6'
            have ho' := ho
            simp only [Int.toNat_natCast] at ho'
            refine go ?_
            refine a_q (indexAddr_step tabOk [plOps w] rfl rfl rfl rfl rfl rfl (by first | omega | (simp; done) | (simp; omega)) (by first | omega | (simp; done) | (simp; omega)) (by first | (simp; done) | exact List.cons_ne_nil _ _) (map_idx hwi)) rfl rfl rfl ?_
            refine go ?_
            refine a_q (indexAddr_step tabOk [pI o.kind, pI o.obj, pI o.a, pI o.b] rfl rfl rfl rfl rfl rfl (by first | omega | (simp; done) | (simp; omega)) (by first | omega | (simp; done) | (simp; omega)) (by first | (simp; done) | exact List.cons_ne_nil _ _) (ops_idx ho)) rfl rfl rfl ?_
            refine go ?_
            generalize k4 : decide (o.kind = 4) = cc; cases cc
            · have k4' := of_decide_eq_false k4
              refine go ?_
              generalize k5 : decide (o.kind = 5) = cc; cases cc
              · have k5' := of_decide_eq_false k5
                refine go ?_
                first | refine fin_ret rfl ?_ | refine fin_normal rfl ?_
                rw [← hE, all_false hwi' (all_false ho' (by simp [okOp]; omega))]
                rfl
              · have k5' := of_decide_eq_true k5
                refine go ?_
                generalize k0 : decide (o.obj = 0) = cc; cases cc
                · have k0' := of_decide_eq_false k0
                  refine go ?_
                  first | refine fin_ret rfl ?_ | refine fin_normal rfl ?_
                  rw [← hE, all_false hwi' (all_false ho' (by simp [okOp]; omega))]
                  rfl
                · have k0' := of_decide_eq_true k0
                  refine go ?_
                  generalize k1 : decide (o.a < 0) = cc; cases cc
                  · have k1' := of_decide_eq_false k1
                    refine go ?_
                    generalize k2 : decide (o.a ≥ 4294967296) = cc; cases cc
                    · have k2' := of_decide_eq_false k2
                      refine go ?_
                      exact ⟨k + 1, ⟨by omega, all_take ho' (by simp [okOp]; omega) hallk⟩, by omega, zX⟩
                    · have k2' := of_decide_eq_true k2
                      refine go ?_
                      first | refine fin_ret rfl ?_ | refine fin_normal rfl ?_
                      rw [← hE, all_false hwi' (all_false ho' (by simp [okOp]; omega))]
                      rfl
                  · have k1' := of_decide_eq_true k1
                    refine go ?_
                    first | refine fin_ret rfl ?_ | refine fin_normal rfl ?_
                    rw [← hE, all_false hwi' (all_false ho' (by simp [okOp]; omega))]
                    rfl
            · have k4' := of_decide_eq_true k4
              refine go ?_
              generalize k0 : decide (o.obj = 0) = cc; cases cc
              · have k0' := of_decide_eq_false k0
                refine go ?_
                first | refine fin_ret rfl ?_ | refine fin_normal rfl ?_
                rw [← hE, all_false hwi' (all_false ho' (by simp [okOp]; omega))]
                rfl
              · have k0' := of_decide_eq_true k0
                refine go ?_
                generalize k1 : decide (o.a < 0) = cc; cases cc
                · have k1' := of_decide_eq_false k1
                  refine go ?_
                  generalize k2 : decide (o.a ≥ 4294967296) = cc; cases cc
                  · have k2' := of_decide_eq_false k2
                    refine go ?_
                    exact ⟨k + 1, ⟨by omega, all_take ho' (by simp [okOp]; omega) hallk⟩, by omega, zX⟩
                  · have k2' := of_decide_eq_true k2
                    refine go ?_
                    first | refine fin_ret rfl ?_ | refine fin_normal rfl ?_
                    rw [← hE, all_false hwi' (all_false ho' (by simp [okOp]; omega))]
                    rfl
                · have k1' := of_decide_eq_true k1
                  refine go ?_
                  first | refine fin_ret rfl ?_ | refine fin_normal rfl ?_
                  rw [← hE, all_false hwi' (all_false ho' (by simp [okOp]; omega))]
                  rfl
          · have h6' := of_decide_eq_false h6
            rw [List.take_of_length_le (by omega)] at hallk
            refine go ?_
            exact ⟨i + 1, ⟨by omega, all_take hwi' hallk hall⟩, by omega, zX⟩
        · have h4' : ¬ (i : Int) < want.length := of_decide_eq_false h4
          rw [List.take_of_length_le (by omega)] at hall
          refine go ?_
          first | refine fin_ret rfl ?_ | refine fin_normal rfl ?_
          rw [← hE, hall, Bool.true_and, List.take_of_length_le (by rw [List.length_map]; omega)]
          congr 1
          simp
      · have h3' := of_decide_eq_true h3
        rw [show decide (turns.length ≤ many) = false by rw [decide_eq_false_iff_not]; omega, Bool.and_false, Bool.false_and, Bool.false_and] at hE
        refine go ?_
        first | refine fin_ret rfl ?_ | refine fin_normal rfl ?_
        rw [← hE]
    · have h2' := of_decide_eq_true h2
      rw [show decide (want.length ≤ 3) = false by rw [decide_eq_false_iff_not]; omega, Bool.and_false, Bool.false_and, Bool.false_and, Bool.false_and] at hE
      refine go ?_
      first | refine fin_ret rfl ?_ | refine fin_normal rfl ?_
      rw [← hE]
  · have h1' := of_decide_eq_true h1
    rw [show decide (1 ≤ want.length) = false by rw [decide_eq_false_iff_not]; omega, Bool.false_and, Bool.false_and, Bool.false_and, Bool.false_and] at hE
    refine go ?_
    first | refine fin_ret rfl ?_ | refine fin_normal rfl ?_
    rw [← hE]
theorem where_c (s k : Int) (hs : 1 ≤ s ∧ s ≤ 3) (hk : 0 ≤ k ∧ k ≤ 255) : PureC Tryz.prog 6 [dI s, dK .u8 k] (dLay (layE s 16 (1 + k % 3))) := by
  refine pure_fin tabOk Tryz.func6 rfl Tryz.ntmps6 rfl rfl rfl fun w cl => ?_
  refine goK ?_
  refine a_q (call_step (refof_lay s 16 (1 + k % 3) (by omega) (by omega) (by omega)) rfl (fun a w => Tryz.call20 a w) rfl) rfl rfl rfl ?_
  refine go ?_
  first | refine fin_ret rfl ?_ | refine fin_normal rfl ?_
  rfl
end Go.Proofs.YtdmnjoidfjidbaaGreat
