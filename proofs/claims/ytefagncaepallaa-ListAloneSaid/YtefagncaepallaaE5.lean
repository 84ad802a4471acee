/- Plays of a size that is looked at; the chapter's example: their walks. -/
import Derived.Test.YtefagncaepallaaE2
namespace Go.Proofs.Ytefagncaepallaa
open Go.RowKit
set_option maxRecDepth 100000

theorem map_idx {α : Type} {f : α → Pl} {l : List α} {i : Int} {x : α} (h : l[i.toNat]? = some x) : ∀ (m : Nat) q, [f x][m]? = some q → (l.map f)[i.toNat * 1 + m]? = some q := by
  intro m q hq
  cases m with
  | zero =>
    simp at hq; subst hq
    rw [Nat.mul_one, Nat.add_zero, List.getElem?_map, h]; rfl
  | succ m => simp at hq
theorem ops_idx {l : List OpT} {i : Int} {o : OpT} (h : l[i.toNat]? = some o) : ∀ (m : Nat) q, [pI o.kind, pI o.obj, pI o.a, pI o.b][m]? = some q → (pOps l)[i.toNat * 4 + m]? = some q := flat_idx (f := pOp) (k := 4) (fun _ => rfl) h
theorem all_false {α : Type} {f : α → Bool} {l : List α} {i : Nat} {x : α} (h : l[i]? = some x) (hf : f x = false) : l.all f = false := by
  rw [List.all_eq_false]
  exact ⟨x, List.mem_of_getElem? h, by simp [hf]⟩
theorem all_take {α : Type} {f : α → Bool} {l : List α} {i : Nat} {x : α} (h : l[i]? = some x) (hf : f x = true) (ht : (l.take i).all f = true) : (l.take (i + 1)).all f = true := by
  rw [List.take_add_one, h, List.all_append, ht]
  simp [hf]
set_option maxHeartbeats 4000000 in
theorem few_c (p : PlayT) : PureC Try.prog 9 [dPlay p] (dB (fewF p)) := by
  generalize hE : fewF p = E
  unfold fewF at hE
  obtain ⟨nodes, want, turns⟩ := p
  simp only at hE
  refine pure_fin tabOk Try.func9 rfl Try.ntmps9 rfl rfl rfl fun w cl => ?_
  refine go ?_
  generalize h1 : decide ((want.length : Int) < 1) = cc; cases cc
  · have h1' := of_decide_eq_false h1
    refine go ?_
    generalize h2 : decide ((want.length : Int) > 3) = cc; cases cc
    · have h2' := of_decide_eq_false h2
      refine go ?_
      generalize h3 : decide ((turns.length : Int) > 200) = cc; cases cc
      · have h3' := of_decide_eq_false h3
        rw [show decide (1 ≤ want.length) = true by rw [decide_eq_true_eq]; omega, show decide (want.length ≤ 3) = true by rw [decide_eq_true_eq]; omega, show decide (turns.length ≤ 200) = true by rw [decide_eq_true_eq]; omega, Bool.true_and, Bool.true_and, Bool.true_and] at hE
        refine go ?_
        refine awp_loop_ok (fun i : Nat => i ≤ want.length ∧ (want.take i).all okOps = true) (fun i => ⟨[(3, dI i), (1, .ptr 0 0)], [(0, playD ⟨nodes, want, turns⟩)], []⟩) (fun i => want.length - i) 0 ⟨by omega, rfl⟩ (zX) ?_
        rintro i ⟨hi, hall⟩
        refine go ?_
        refine ck_b (fun h4 => ?_) (fun h4 => ?_) <;> try rw [h4]
        · have h4' : (i : Int) < want.length := of_decide_eq_true h4
          obtain ⟨w, hwi⟩ := getI (l := want) (i := i) (by omega) h4'
          have hwi' := hwi
          simp only [Int.toNat_natCast] at hwi'
          refine go ?_
          refine a_q (indexAddr_step tabOk [plOps w] rfl rfl rfl rfl rfl rfl (by first | omega | (simp; done) | (simp; omega)) (by first | omega | (simp; done) | (simp; omega)) (by first | (simp; done) | exact List.cons_ne_nil _ _) (map_idx hwi)) rfl rfl rfl ?_
          refine go ?_
          generalize h5 : decide ((w.length : Int) > 4) = cc; cases cc
          · have h5' := of_decide_eq_false h5
            refine go ?_
            refine awp_loop_ok (fun k : Nat => k ≤ w.length ∧ (w.take k).all okOp = true) (fun k => ⟨[(4, dI k), (3, dI i), (1, .ptr 0 0)], [(0, playD ⟨nodes, want, turns⟩)], []⟩) (fun k => w.length - k) 0 ⟨by omega, rfl⟩ (zX) ?_
            rintro k ⟨hk, hallk⟩
            refine go ?_
            refine a_q (indexAddr_step tabOk [plOps w] rfl rfl rfl rfl rfl rfl (by first | omega | (simp; done) | (simp; omega)) (by first | omega | (simp; done) | (simp; omega)) (by first | (simp; done) | exact List.cons_ne_nil _ _) (map_idx hwi)) rfl rfl rfl ?_
            refine go ?_
            refine ck_b (fun h6 => ?_) (fun h6 => ?_) <;> try rw [h6]
            · have h6' := of_decide_eq_true h6
              obtain ⟨o, ho⟩ := getI (l := w) (i := k) (by omega) h6'
              have ho' := ho
              simp only [Int.toNat_natCast] at ho'
              refine go ?_
              refine a_q (indexAddr_step tabOk [plOps w] rfl rfl rfl rfl rfl rfl (by first | omega | (simp; done) | (simp; omega)) (by first | omega | (simp; done) | (simp; omega)) (by first | (simp; done) | exact List.cons_ne_nil _ _) (map_idx hwi)) rfl rfl rfl ?_
              refine go ?_
              refine a_q (indexAddr_step tabOk [pI o.kind, pI o.obj, pI o.a, pI o.b] rfl rfl rfl rfl rfl rfl (by first | omega | (simp; done) | (simp; omega)) (by first | omega | (simp; done) | (simp; omega)) (by first | (simp; done) | exact List.cons_ne_nil _ _) (ops_idx ho)) rfl rfl rfl ?_
              refine go ?_
              generalize h7 : decide (o.kind < 1) = cc; cases cc
              · have h7' := of_decide_eq_false h7
                refine go ?_
                refine a_q (indexAddr_step tabOk [plOps w] rfl rfl rfl rfl rfl rfl (by first | omega | (simp; done) | (simp; omega)) (by first | omega | (simp; done) | (simp; omega)) (by first | (simp; done) | exact List.cons_ne_nil _ _) (map_idx hwi)) rfl rfl rfl ?_
                refine go ?_
                refine a_q (indexAddr_step tabOk [pI o.kind, pI o.obj, pI o.a, pI o.b] rfl rfl rfl rfl rfl rfl (by first | omega | (simp; done) | (simp; omega)) (by first | omega | (simp; done) | (simp; omega)) (by first | (simp; done) | exact List.cons_ne_nil _ _) (ops_idx ho)) rfl rfl rfl ?_
                refine go ?_
                generalize h8 : decide (o.kind > 3) = cc; cases cc
                · have h8' := of_decide_eq_false h8
                  refine go ?_
                  exact ⟨k + 1, ⟨by omega, all_take ho' (by simp [okOp]; omega) hallk⟩, by omega, zX⟩
                · have h8' := of_decide_eq_true h8
                  refine go ?_
                  first | refine fin_ret rfl ?_ | refine fin_normal rfl ?_
                  rw [← hE, all_false hwi' (by unfold okOps; rw [all_false ho' (by simp [okOp]; omega)]; simp)]
              · have h7' := of_decide_eq_true h7
                refine go ?_
                first | refine fin_ret rfl ?_ | refine fin_normal rfl ?_
                rw [← hE, all_false hwi' (by unfold okOps; rw [all_false ho' (by simp [okOp]; omega)]; simp)]
            · have h6' := of_decide_eq_false h6
              rw [List.take_of_length_le (by omega)] at hallk
              refine go ?_
              exact ⟨i + 1, ⟨by omega, all_take hwi' (by simp only [okOps, hallk, Bool.and_true, decide_eq_true_eq]; omega) hall⟩, by omega, zX⟩
          · have h5' := of_decide_eq_true h5
            refine go ?_
            first | refine fin_ret rfl ?_ | refine fin_normal rfl ?_
            rw [← hE, all_false hwi' (by unfold okOps; rw [show decide (w.length ≤ 4) = false by rw [decide_eq_false_iff_not]; omega]; rfl)]
        · have h4' : ¬ (i : Int) < want.length := of_decide_eq_false h4
          rw [List.take_of_length_le (by omega)] at hall
          refine go ?_
          first | refine fin_ret rfl ?_ | refine fin_normal rfl ?_
          rw [← hE, hall]
      · have h3' := of_decide_eq_true h3
        rw [show decide (turns.length ≤ 200) = false by rw [decide_eq_false_iff_not]; omega, Bool.and_false, Bool.false_and] at hE
        refine go ?_
        first | refine fin_ret rfl ?_ | refine fin_normal rfl ?_
        rw [← hE]
    · have h2' := of_decide_eq_true h2
      rw [show decide (want.length ≤ 3) = false by rw [decide_eq_false_iff_not]; omega, Bool.and_false, Bool.false_and, Bool.false_and] at hE
      refine go ?_
      first | refine fin_ret rfl ?_ | refine fin_normal rfl ?_
      rw [← hE]
  · have h1' := of_decide_eq_true h1
    rw [show decide (1 ≤ want.length) = false by rw [decide_eq_false_iff_not]; omega, Bool.false_and, Bool.false_and, Bool.false_and] at hE
    refine go ?_
    first | refine fin_ret rfl ?_ | refine fin_normal rfl ?_
    rw [← hE]
def plainP : PlayT := ⟨2, [[⟨2, 0, 3, 30⟩, ⟨2, 0, 1, 10⟩, ⟨2, 0, 3, 9⟩, ⟨3, 0, 3, 0⟩]], []⟩
theorem plainP_c : PureC Try.prog 25 [] (dPlay plainP) := by
  refine pure_fin tabOk Try.func25 rfl Try.ntmps25 rfl rfl rfl fun w cl => ?_
  refine go ?_
  first | refine fin_ret rfl ?_ | refine fin_normal rfl ?_
  rfl
end Go.Proofs.Ytefagncaepallaa
