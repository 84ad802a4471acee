/- Orders that explain, by the document: their walk. -/
import Derived.Test.YtdmnjoidfjidbaaE18
import Derived.Test.YtdmnjoidfjidbaaE20
namespace Go.Proofs.Ytdmnjoidfjidbaa
open Go.RowKit
set_option maxRecDepth 100000

theorem awp_via {P : Program} {Γ : Ctx} {Q : Exit → St → Prop} {c : Code} {σ : St} (x : Exit) (τ : St) (h : AWP P Γ c (fun ex σ' => ex = x ∧ Ghost Γ σ' τ) σ) (k : ∀ σ', Ghost Γ σ' τ → Q x σ') : AWP P Γ c Q σ :=
  awp_mono h fun ex σ' hh => by
    obtain ⟨rfl, hg⟩ := hh
    exact k σ' hg
theorem calls_idx {l : List CallT} {i : Int} {x : CallT} (h : l[i.toNat]? = some x) : ∀ (m : Nat) q, [pI x.who, pI x.op.kind, pI x.op.obj, pI x.op.a, pI x.op.b, pI x.val, pB x.is, pI x.first, pI x.last, pI x.point][m]? = some q → (pCalls l)[i.toNat * 10 + m]? = some q := flat_idx (f := pCall) (k := 10) (fun _ => rfl) h
theorem pCalls_cat (a b : List CallT) : pCalls (a ++ b) = pCalls a ++ pCalls b := by simp [pCalls]
theorem calls_sl0 {l : List CallT} {c : Nat} : ∀ (i : Nat) q, (pCalls (l.take c))[i]? = some q → (pCalls l)[(0 : Int).toNat * 10 + i]? = some q := by
  intro i q h
  have hl : pCalls l = pCalls (l.take c) ++ pCalls (l.drop c) := by rw [← pCalls_cat, List.take_append_drop]
  rw [show (0 : Int).toNat * 10 + i = i by simp, hl, List.getElem?_append_left (List.getElem?_eq_some_iff.1 h).1]
  exact h
theorem calls_slD {l : List CallT} {a : Int} {b : Nat} (hab : a.toNat = b) (ha : b ≤ l.length) : ∀ (i : Nat) q, (pCalls (l.drop b))[i]? = some q → (pCalls l)[a.toNat * 10 + i]? = some q := by
  intro i q h
  rw [hab]
  have hl : pCalls l = pCalls (l.take b) ++ pCalls (l.drop b) := by rw [← pCalls_cat, List.take_append_drop]
  have h1 : (pCalls (l.take b)).length = b * 10 := by rw [pCalls_len, List.length_take]; congr 1; omega
  rw [hl, List.getElem?_append_right (by omega), h1, show b * 10 + i - b * 10 = i by omega]
  exact h
def ordB (k : Nat) (vs : List Int) (l : List CallT) (i : Nat) : Bool := match l[i]? with
  | none => false
  | some x => l.all (fun y => decide (x.first ≤ y.last)) && (decide ((stkDo vs x.op).2.1 = x.val) && decide ((stkDo vs x.op).2.2 = x.is)) && orderB k (stkDo vs x.op).1 (l.take i ++ l.drop (i + 1))
theorem orderB_eq (k : Nat) (vs : List Int) (l : List CallT) (h : l.length ≠ 0) : orderB (k + 1) vs l = (List.range l.length).any (ordB k vs l) := by
  rw [orderB, if_neg h]
  rfl
theorem any_yes {f : Nat → Bool} {n i : Nat} (hi : i < n) (h : f i = true) : (List.range n).any f = true := by
  rw [List.any_eq_true]
  exact ⟨i, List.mem_range.2 hi, h⟩
theorem any_snoc {f : Nat → Bool} {i : Nat} (h0 : (List.range i).any f = false) (h : f i = false) : (List.range (i + 1)).any f = false := by
  rw [List.range_succ, List.any_append, h0]
  simp [h]
theorem all_snoc {α : Type} {f : α → Bool} {l : List α} {j : Nat} {y : α} (h : l[j]? = some y) : (l.take (j + 1)).all f = ((l.take j).all f && f y) := by
  rw [List.take_add_one, h, List.all_append]
  simp
theorem stkDo_len (vs : List Int) (o : OpT) : (stkDo vs o).1.length ≤ vs.length + 1 := by
  unfold stkDo
  split
  · simp
  · cases vs <;> simp
    omega
theorem order_nil (vs : List Int) : PureC Try.prog 11 [dStk vs, dCalls []] (dB true) := by
  refine pure_fin tabOk Try.func11 rfl Try.ntmps11 rfl rfl rfl fun w cl => ?_
  refine go ?_
  rw [show decide ((([] : List CallT).length : Int) = 0) = true from rfl]
  refine go ?_
  first | refine fin_ret rfl ?_ | refine fin_normal rfl ?_
  rfl
set_option maxHeartbeats 16000000 in
theorem order_c : ∀ (k : Nat) (vs : List Int) (l : List CallT), l.length = k → (∀ c ∈ l, c.op.kind = 4 ∨ c.op.kind = 5) → vs.length + k ≤ 1000000 → PureC Try.prog 11 [dStk vs, dCalls l] (dB (orderB k vs l))
  | 0, vs, l, hl, _, _ => by
    obtain rfl : l = [] := List.eq_nil_of_length_eq_zero hl
    exact order_nil vs
  | k + 1, vs, l, hl, hk, hb => by
    have ih := order_c k
    have hE := orderB_eq k vs l (by omega)
    generalize orderB (k + 1) vs l = E at hE ⊢
    refine pure_fin tabOk Try.func11 rfl Try.ntmps11 rfl rfl rfl fun w cl => ?_
    refine go ?_
    rw [show decide ((l.length : Int) = 0) = false by rw [decide_eq_false_iff_not]; omega]
    refine go ?_
    refine awp_loop_ok (fun i : Nat => i ≤ l.length ∧ (List.range i).any (ordB k vs l) = false) (fun i => ⟨[(5, dI i), (4, dB false), (2, .ptr 0 0), (1, dCalls l)], [(0, [dI 2, dInts [], dInts vs])], []⟩) (fun i => l.length - i) 0 ⟨Nat.zero_le _, rfl⟩ (zX) ?_
    rintro i ⟨hi, hany⟩
    refine go ?_
    refine ck_b (fun h1 => ?_) (fun h1 => ?_) <;> try rw [h1]
    · have h1' := of_decide_eq_true h1
      have hil : i < l.length := by omega
      obtain ⟨x, hx⟩ : ∃ x, l[i]? = some x := ⟨l[i], List.getElem?_eq_getElem hil⟩
      have hxi : l[(i : Int).toNat]? = some x := by simpa using hx
      have hxk := hk x (List.mem_of_getElem? hx)
      have hO : ordB k vs l i = (l.all (fun y => decide (x.first ≤ y.last)) && (decide ((stkDo vs x.op).2.1 = x.val) && decide ((stkDo vs x.op).2.2 = x.is)) && orderB k (stkDo vs x.op).1 (l.take i ++ l.drop (i + 1))) := by
        unfold ordB
        rw [hx]
      refine go ?_
      refine awp_via (.exit 2) ⟨[(6, dB (l.all (fun y => decide (x.first ≤ y.last)))), (5, dI i), (4, dB false), (2, .ptr 0 0), (1, dCalls l)], [(0, [dI 2, dInts [], dInts vs])], []⟩ ?_ ?_
      · refine awp_loop_ok (fun j : Nat => j ≤ l.length) (fun j => ⟨[(7, dI j), (6, dB ((l.take j).all (fun y => decide (x.first ≤ y.last)))), (5, dI i), (4, dB false), (2, .ptr 0 0), (1, dCalls l)], [(0, [dI 2, dInts [], dInts vs])], []⟩) (fun j => l.length - j) 0 (Nat.zero_le _) (zX) ?_
        intro j hj
        refine go ?_
        refine ck_b (fun h2 => ?_) (fun h2 => ?_) <;> try rw [h2]
        · have h2' := of_decide_eq_true h2
          have hjl : j < l.length := by omega
          obtain ⟨y, hy⟩ : ∃ y, l[j]? = some y := ⟨l[j], List.getElem?_eq_getElem hjl⟩
          have hyi : l[(j : Int).toNat]? = some y := by simpa using hy
          have hs := all_snoc (f := fun y : CallT => decide (x.first ≤ y.last)) hy
          generalize (l.take j).all (fun y => decide (x.first ≤ y.last)) = q at hs ⊢
          refine go ?_
          cases q
          · refine awp_region_w 12 [] rfl rfl (by kernel_rfl) (by kernel_rfl) (by kernel_rfl) ?_
            refine goQ ?_
            refine go ?_
            rw [Bool.false_and] at hs
            refine ⟨j + 1, by omega, by omega, ?_⟩
            rw [hs]
            exact zX
          · refine awp_region_w 12 [] rfl rfl (by kernel_rfl) (by kernel_rfl) (by kernel_rfl) ?_
            refine goQ ?_
            refine r_q (indexAddr_step tabOk [pI y.who, pI y.op.kind, pI y.op.obj, pI y.op.a, pI y.op.b, pI y.val, pB y.is, pI y.first, pI y.last, pI y.point] rfl rfl rfl rfl rfl rfl (by first | omega | (simp; done) | (simp; omega)) (by first | omega | (simp; done) | (simp; omega)) (by first | (simp; done) | exact List.cons_ne_nil _ _) (calls_idx hyi)) rfl rfl ?_
            refine goQ ?_
            refine r_q (indexAddr_step tabOk [pI x.who, pI x.op.kind, pI x.op.obj, pI x.op.a, pI x.op.b, pI x.val, pB x.is, pI x.first, pI x.last, pI x.point] rfl rfl rfl rfl rfl rfl (by first | omega | (simp; done) | (simp; omega)) (by first | omega | (simp; done) | (simp; omega)) (by first | (simp; done) | exact List.cons_ne_nil _ _) (calls_idx hxi)) rfl rfl ?_
            refine goQ ?_
            refine go ?_
            rw [Bool.true_and] at hs
            refine ⟨j + 1, by omega, by omega, ?_⟩
            rw [hs]
            exact zX
        · have h2' := of_decide_eq_false h2
          refine go ?_
          refine ⟨rfl, ?_⟩
          rw [List.take_of_length_le (by omega)]
          exact zX
      intro σ' hgh
      refine zR (zM (awp_ghost hgh ?_))
      clear hgh
      generalize l.all (fun y => decide (x.first ≤ y.last)) = q1 at hO
      have hdo := do9_c vs x.op (by omega) hxk
      have hdl := stkDo_len vs x.op
      generalize stkDo vs x.op = r at hO hdo hdl
      obtain ⟨ws, va, isv⟩ := r
      simp only at hO hdl
      refine go ?_
      refine awp_region_w 14 [] rfl rfl (by kernel_rfl) (by kernel_rfl) (by kernel_rfl) ?_
      refine goQ ?_
      refine r_q (indexAddr_step tabOk [pI x.who, pI x.op.kind, pI x.op.obj, pI x.op.a, pI x.op.b, pI x.val, pB x.is, pI x.first, pI x.last, pI x.point] rfl rfl rfl rfl rfl rfl (by first | omega | (simp; done) | (simp; omega)) (by first | omega | (simp; done) | (simp; omega)) (by first | (simp; done) | exact List.cons_ne_nil _ _) (calls_idx hxi)) rfl rfl ?_
      refine goQ ?_
      refine r_q (call_step (hdo) rfl (fun a w => Try.call18 a w) rfl) rfl rfl ?_
      refine goQ ?_
      refine go ?_
      cases q1
      · rw [Bool.false_and, Bool.false_and] at hO
        refine go ?_
        exact ⟨i + 1, ⟨by omega, any_snoc hany hO⟩, by omega, zX⟩
      · refine go ?_
        refine a_q (indexAddr_step tabOk [pI x.who, pI x.op.kind, pI x.op.obj, pI x.op.a, pI x.op.b, pI x.val, pB x.is, pI x.first, pI x.last, pI x.point] rfl rfl rfl rfl rfl rfl (by first | omega | (simp; done) | (simp; omega)) (by first | omega | (simp; done) | (simp; omega)) (by first | (simp; done) | exact List.cons_ne_nil _ _) (calls_idx hxi)) rfl rfl rfl ?_
        refine go ?_
        by_cases hv : va = x.val
        · rw [show decide (va = x.val) = true by rw [decide_eq_true_eq]; exact hv]
          refine go ?_
          refine a_q (indexAddr_step tabOk [pI x.who, pI x.op.kind, pI x.op.obj, pI x.op.a, pI x.op.b, pI x.val, pB x.is, pI x.first, pI x.last, pI x.point] rfl rfl rfl rfl rfl rfl (by first | omega | (simp; done) | (simp; omega)) (by first | omega | (simp; done) | (simp; omega)) (by first | (simp; done) | exact List.cons_ne_nil _ _) (calls_idx hxi)) rfl rfl rfl ?_
          refine go ?_
          refine (show CK (!(isv == x.is)) _ _ from ?_)
          by_cases hv2 : isv = x.is
          · rw [show (isv == x.is) = true by rw [beq_iff_eq]; exact hv2]
            rw [show decide (va = x.val) = true by rw [decide_eq_true_eq]; exact hv, show decide (isv = x.is) = true by rw [decide_eq_true_eq]; exact hv2, Bool.true_and, Bool.true_and, Bool.true_and] at hO
            have hrl : (l.take i ++ l.drop (i + 1)).length = k := by rw [List.length_append, List.length_take, List.length_drop]; omega
            have hrk : ∀ c ∈ l.take i ++ l.drop (i + 1), c.op.kind = 4 ∨ c.op.kind = 5 := fun c hc => by
              rw [List.mem_append] at hc
              rcases hc with hc | hc
              · exact hk c (List.mem_of_mem_take hc)
              · exact hk c (List.mem_of_mem_drop hc)
            have hih := ih ws (l.take i ++ l.drop (i + 1)) hrl hrk (by omega)
            have hcat := pCalls_cat (l.take i) (l.drop (i + 1))
            generalize l.take i ++ l.drop (i + 1) = rest at hO hrl hrk hih hcat
            generalize orderB k ws rest = res at hO hih
            refine go ?_
            refine awp_region_w 9 [] rfl rfl (by kernel_rfl) (by kernel_rfl) (by kernel_rfl) ?_
            refine goQ ?_
            refine r_q (slice_step tabOk i (pCalls (l.take i)) rfl rfl rfl rfl rfl rfl rfl (by omega) (by omega) (by omega) (by omega) (by rw [pCalls_len, List.length_take]; show _ = i * 10; congr 1; omega) calls_sl0) rfl rfl ?_
            refine goQ ?_
            refine r_appendx (n' := 0) (m := i) (ps := []) (qs := pCalls (l.take i)) tabOk 0 rfl rfl rfl rfl rfl rfl rfl rfl rfl rfl rfl rfl rfl (by rw [pCalls_len, List.length_take]; show _ = i * 10; congr 1; omega) (by unfold maxLen; omega) (by show (_ + _) * 80 ≤ _; omega) ?_
            refine goQ ?_
            refine r_q (slice_step tabOk (l.length - (i + 1)) (pCalls (l.drop (i + 1))) rfl rfl rfl rfl rfl rfl rfl (by omega) (by omega) (by omega) (by omega) (by rw [pCalls_len, List.length_drop]) (calls_slD (by omega) (by omega))) rfl rfl ?_
            refine goQ ?_
            refine a_append (m := l.length - (i + 1)) (qs := pCalls (l.drop (i + 1))) tabOk rfl rfl rfl rfl rfl rfl rfl rfl rfl rfl rfl rfl (by rw [pCalls_len, List.length_drop]) (by unfold maxLen; omega) (by show (_ + _) * 80 ≤ _; omega) ?_
            rw [List.nil_append, ← hcat, show 0 + i + (l.length - (i + 1)) = rest.length by omega]
            refine go ?_
            refine a_q (call_step (hih) rfl (fun a w => Try.call11 a w) rfl) rfl rfl rfl ?_
            refine go ?_
            cases res
            · refine go ?_
              exact ⟨i + 1, ⟨by omega, any_snoc hany hO⟩, by omega, zX⟩
            · rw [any_yes hil hO] at hE
              subst hE
              refine go ?_
              first | refine fin_ret rfl ?_ | refine fin_normal rfl ?_
              rfl
          · rw [show (isv == x.is) = false by rw [beq_eq_false_iff_ne]; exact hv2]
            rw [show decide (isv = x.is) = false by rw [decide_eq_false_iff_not]; exact hv2, Bool.and_false, Bool.and_false, Bool.false_and] at hO
            refine go ?_
            exact ⟨i + 1, ⟨by omega, any_snoc hany hO⟩, by omega, zX⟩
        · rw [show decide (va = x.val) = false by rw [decide_eq_false_iff_not]; exact hv]
          rw [show decide (va = x.val) = false by rw [decide_eq_false_iff_not]; exact hv, Bool.false_and, Bool.and_false, Bool.false_and] at hO
          refine go ?_
          exact ⟨i + 1, ⟨by omega, any_snoc hany hO⟩, by omega, zX⟩
    · have h1' := of_decide_eq_false h1
      rw [show l.length = i by omega, hany] at hE
      subst hE
      refine go ?_
      first | refine fin_ret rfl ?_ | refine fin_normal rfl ?_
      rfl
end Go.Proofs.Ytdmnjoidfjidbaa
