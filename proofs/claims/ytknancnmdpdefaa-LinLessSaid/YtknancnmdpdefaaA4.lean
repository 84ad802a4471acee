import Derived.Test.YtknancnmdpdefaaA3
namespace Go.Proofs.Ytknancnmdpdefaa
open Go.RowKit
set_option maxRecDepth 100000

def pOp (o : OpT) : List Pl := [pI o.kind, pI o.obj, pI o.a, pI o.b]
def pOps (l : List OpT) : List Pl := l.flatMap pOp
abbrev dOps (l : List OpT) : Dt := .p (.sl false l.length (pOps l))
abbrev dAll (r : Cont × List Int × List Bool) : Dt := .tup [dCont r.1, dInts r.2.1, dBools r.2.2]

/-- Cells of rows of structs. -/
theorem flat_len {α : Type} (f : α → List Pl) (k : Nat) (hf : ∀ x, (f x).length = k) : ∀ l : List α, (l.flatMap f).length = l.length * k
  | [] => by simp
  | x :: l => by simp [hf, flat_len f k hf l, Nat.add_mul]; omega
theorem flat_idx {α : Type} (f : α → List Pl) (k : Nat) (hf : ∀ x, (f x).length = k) : ∀ (l : List α) (i : Nat) (x : α), l[i]? = some x → ∀ (m : Nat) q, (f x)[m]? = some q → (l.flatMap f)[i * k + m]? = some q
  | [], i, x, h, _, _, _ => by simp at h
  | y :: l, 0, x, h, m, q, hq => by
    simp only [List.getElem?_cons_zero, Option.some.injEq] at h
    subst h
    rw [List.flatMap_cons, Nat.zero_mul, Nat.zero_add, List.getElem?_append_left (List.getElem?_eq_some_iff.1 hq).1]
    exact hq
  | y :: l, i + 1, x, h, m, q, hq => by
    have := flat_idx f k hf l i x (by simpa using h) m q hq
    rw [List.flatMap_cons, List.getElem?_append_right (by rw [hf, Nat.add_mul]; omega), hf, show (i + 1) * k + m - k = i * k + m by rw [Nat.add_mul]; omega]
    exact this
theorem pOps_len (l : List OpT) : (pOps l).length = l.length * 4 := flat_len pOp 4 (fun _ => rfl) l
theorem ops_idx {l : List OpT} {i : Int} {x : OpT} (h : l[i.toNat]? = some x) : ∀ (m : Nat) q, (pOp x)[m]? = some q → (pOps l)[i.toNat * 4 + m]? = some q := flat_idx pOp 4 (fun _ => rfl) l _ x h

theorem pure_raw {f : FuncId} {v : Value} (h : ∀ w, Calls Try.prog f #[] w fun e w' => e = .returned v ∧ Below w.heap.size w w') : PureC Try.prog f [] (.p (.raw v)) := by
  intro w cl vs hv
  have : vs = [] := List.eq_nil_of_length_eq_zero hv.1
  subst this
  refine (h w).mono fun e w' hh => ?_
  exact ⟨v, cl, hh.1, hh.2, fun _ _ => rfl, .p (.raw v)⟩

theorem effects_c : PureC Try.prog 32 [] (.agg [.p (.raw .nilFunc), .fn (.func 39) [] [], .fn (.func 40) [] [], .fn (.func 41) [] [], .fn (.func 42) [] [], .fn (.func 43) [] [], .fn (.func 44) [] [], .fn (.func 43) [] []]) := by
  refine pure_fin tabOk Try.func32 rfl Try.ntmps32 rfl rfl rfl fun w cl => ?_
  repeat (first | refine awp_seq ?_ | refine awp_region ?_ | refine awp_block ?_ | refine awp_skip ?_ | refine awp_scope ?_ | refine awp_label ?_ | refine q_scope_normal ?_ | refine q_scope_ret ?_ | refine q_scope_exit ?_ | refine awp_ret ?_ | refine awp_exit ?_ | refine awp_ck rfl ?_ | with_reducible refine ck_t ?_ | with_reducible refine ck_f ?_ | with_reducible refine ck_nt ?_ | with_reducible refine ck_nf ?_ | refine q_then_normal ?_ | refine q_then_ret ?_ | refine q_then_exit ?_ | refine q_block_normal ?_ | refine q_block_ret ?_ | refine q_block_exit ?_ | refine q_block_other rfl ?_ | refine a_q (add_step tabOk rfl rfl rfl rfl (by omega) (by omega)) rfl rfl rfl ?_ | refine a_q (sub_step tabOk rfl rfl rfl rfl (by omega) (by omega)) rfl rfl rfl ?_ | refine a_ax tabOk rfl rfl rfl rfl ?_ | refine a_skip rfl rfl rfl ?_ | refine aops_nil ?_ | refine a_store tabOk rfl rfl rfl rfl rfl rfl rfl rfl rfl rfl ?_ | refine a_q (build_step tabOk rfl rfl rfl) rfl rfl rfl ?_ | refine a_q (buildSlice_step tabOk rfl rfl) rfl rfl rfl ?_ | refine a_box rfl rfl rfl rfl rfl rfl rfl rfl rfl ?_ | refine a_new tabOk rfl rfl rfl rfl rfl rfl rfl rfl rfl ?_)
  first | refine fin_ret rfl ?_ | refine fin_normal rfl ?_
  rfl

theorem new_c (k : Int) : PureC Try.prog 21 [dI k] (dCont ⟨k, [], []⟩) := by
  refine pure_fin tabOk Try.func21 rfl Try.ntmps21 rfl rfl rfl fun w cl => ?_
  repeat (first | refine awp_seq ?_ | refine awp_region ?_ | refine awp_block ?_ | refine awp_skip ?_ | refine awp_scope ?_ | refine awp_label ?_ | refine q_scope_normal ?_ | refine q_scope_ret ?_ | refine q_scope_exit ?_ | refine awp_ret ?_ | refine awp_exit ?_ | refine awp_ck rfl ?_ | with_reducible refine ck_t ?_ | with_reducible refine ck_f ?_ | with_reducible refine ck_nt ?_ | with_reducible refine ck_nf ?_ | refine q_then_normal ?_ | refine q_then_ret ?_ | refine q_then_exit ?_ | refine q_block_normal ?_ | refine q_block_ret ?_ | refine q_block_exit ?_ | refine q_block_other rfl ?_ | refine a_q (add_step tabOk rfl rfl rfl rfl (by omega) (by omega)) rfl rfl rfl ?_ | refine a_q (sub_step tabOk rfl rfl rfl rfl (by omega) (by omega)) rfl rfl rfl ?_ | refine a_ax tabOk rfl rfl rfl rfl ?_ | refine a_skip rfl rfl rfl ?_ | refine aops_nil ?_ | refine a_store tabOk rfl rfl rfl rfl rfl rfl rfl rfl rfl rfl ?_ | refine a_q (build_step tabOk rfl rfl rfl) rfl rfl rfl ?_ | refine a_q (buildSlice_step tabOk rfl rfl) rfl rfl rfl ?_ | refine a_box rfl rfl rfl rfl rfl rfl rfl rfl rfl ?_ | refine a_new tabOk rfl rfl rfl rfl rfl rfl rfl rfl rfl ?_)
  first | refine fin_ret rfl ?_ | refine fin_normal rfl ?_
  rfl

theorem ofK_seven {k : Int} (h : ofK k ≠ 0) : k = 1 ∨ k = 2 ∨ k = 3 ∨ k = 4 ∨ k = 5 ∨ k = 6 ∨ k = 7 := by
  unfold ofK at h
  split at h
  · omega
  · split at h
    · omega
    · split at h
      · omega
      · exact absurd rfl h

/-- The effect of an operation, called through the row of effects. -/
theorem effect_c (c : Cont) (o : OpT) (hs : Small c) (hr : rightB c = true) (hk : ofK o.kind = c.kind) : ∃ f, (EntersP Try.prog f) ∧ (1 ≤ o.kind ∧ o.kind ≤ 7) ∧ ([Dt.p (.raw .nilFunc), .fn (.func 39) [] [], .fn (.func 40) [] [], .fn (.func 41) [] [], .fn (.func 42) [] [], .fn (.func 43) [] [], .fn (.func 44) [] [], .fn (.func 43) [] []][o.kind.toNat * 1]? = some (.fn (.func f) [] [])) ∧ PureC Try.prog f [dCont c, dOp o] (dDid (effect c o)) := by
  have hk0 : c.kind ≠ 0 := by
    intro h0
    simp [rightB, h0] at hr
  rcases ofK_seven (hk ▸ hk0) with h | h | h | h | h | h | h
  · exact ⟨39, fun a w => Try.call39 a w, by omega, by rw [h]; rfl, get_c c o hs hr (by rw [← hk, h]; rfl) h⟩
  · exact ⟨40, fun a w => Try.call40 a w, by omega, by rw [h]; rfl, put_c c o hs hr (by rw [← hk, h]; rfl) h⟩
  · exact ⟨41, fun a w => Try.call41 a w, by omega, by rw [h]; rfl, del_c c o hs hr (by rw [← hk, h]; rfl) h⟩
  · exact ⟨42, fun a w => Try.call42 a w, by omega, by rw [h]; rfl, push_c c o hs h⟩
  · exact ⟨43, fun a w => Try.call43 a w, by omega, by rw [h]; rfl, first_c c o hs (.inl h)⟩
  · exact ⟨44, fun a w => Try.call44 a w, by omega, by rw [h]; rfl, send_c c o hs h⟩
  · exact ⟨43, fun a w => Try.call43 a w, by omega, by rw [h]; rfl, first_c c o hs (.inr h)⟩

theorem do_c (c : Cont) (o : OpT) (hs : Small c) : PureC Try.prog 16 [dCont c, dOp o] (dDid (does c o)) := by
  refine pure_fin tabOk Try.func16 rfl Try.ntmps16 rfl rfl rfl fun w cl => ?_
  repeat (first | refine awp_seq ?_ | refine awp_region ?_ | refine awp_block ?_ | refine awp_skip ?_ | refine awp_scope ?_ | refine awp_label ?_ | refine q_scope_normal ?_ | refine q_scope_ret ?_ | refine q_scope_exit ?_ | refine awp_ret ?_ | refine awp_exit ?_ | refine awp_ck rfl ?_ | with_reducible refine ck_t ?_ | with_reducible refine ck_f ?_ | with_reducible refine ck_nt ?_ | with_reducible refine ck_nf ?_ | refine q_then_normal ?_ | refine q_then_ret ?_ | refine q_then_exit ?_ | refine q_block_normal ?_ | refine q_block_ret ?_ | refine q_block_exit ?_ | refine q_block_other rfl ?_ | refine a_q (add_step tabOk rfl rfl rfl rfl (by omega) (by omega)) rfl rfl rfl ?_ | refine a_q (sub_step tabOk rfl rfl rfl rfl (by omega) (by omega)) rfl rfl rfl ?_ | refine a_ax tabOk rfl rfl rfl rfl ?_ | refine a_skip rfl rfl rfl ?_ | refine aops_nil ?_ | refine a_store tabOk rfl rfl rfl rfl rfl rfl rfl rfl rfl rfl ?_ | refine a_q (build_step tabOk rfl rfl rfl) rfl rfl rfl ?_ | refine a_q (buildSlice_step tabOk rfl rfl) rfl rfl rfl ?_ | refine a_box rfl rfl rfl rfl rfl rfl rfl rfl rfl ?_ | refine a_new tabOk rfl rfl rfl rfl rfl rfl rfl rfl rfl ?_)
  refine awp_region_q [] rfl (by kernel_rfl) (by kernel_rfl) ?_
  repeat (first | refine r_q (add_step tabOk rfl rfl rfl rfl (by omega) (by omega)) rfl rfl ?_ | refine r_q (sub_step tabOk rfl rfl rfl rfl (by omega) (by omega)) rfl rfl ?_ | refine r_store tabOk rfl rfl rfl rfl rfl rfl rfl rfl rfl rfl rfl rfl ?_ | refine r_ax tabOk rfl rfl rfl ?_ | refine r_skip rfl rfl ?_ | refine r_nil ?_ | refine r_q (build_step tabOk rfl rfl rfl) rfl rfl ?_ | refine r_q (buildSlice_step tabOk rfl rfl) rfl rfl ?_ | refine r_box rfl rfl rfl rfl rfl rfl rfl rfl rfl ?_ | refine r_new tabOk rfl rfl rfl rfl rfl rfl rfl rfl rfl ?_)
  refine r_q (call_step (right_c c hs) rfl (fun a w => Try.call15 a w) rfl) rfl rfl ?_
  repeat (first | refine r_q (add_step tabOk rfl rfl rfl rfl (by omega) (by omega)) rfl rfl ?_ | refine r_q (sub_step tabOk rfl rfl rfl rfl (by omega) (by omega)) rfl rfl ?_ | refine r_store tabOk rfl rfl rfl rfl rfl rfl rfl rfl rfl rfl rfl rfl ?_ | refine r_ax tabOk rfl rfl rfl ?_ | refine r_skip rfl rfl ?_ | refine r_nil ?_ | refine r_q (build_step tabOk rfl rfl rfl) rfl rfl ?_ | refine r_q (buildSlice_step tabOk rfl rfl) rfl rfl ?_ | refine r_box rfl rfl rfl rfl rfl rfl rfl rfl rfl ?_ | refine r_new tabOk rfl rfl rfl rfl rfl rfl rfl rfl rfl ?_)
  generalize hr : rightB c = cc; cases cc
  · repeat (first | refine r_q (add_step tabOk rfl rfl rfl rfl (by omega) (by omega)) rfl rfl ?_ | refine r_q (sub_step tabOk rfl rfl rfl rfl (by omega) (by omega)) rfl rfl ?_ | refine r_store tabOk rfl rfl rfl rfl rfl rfl rfl rfl rfl rfl rfl rfl ?_ | refine r_ax tabOk rfl rfl rfl ?_ | refine r_skip rfl rfl ?_ | refine r_nil ?_ | refine r_q (build_step tabOk rfl rfl rfl) rfl rfl ?_ | refine r_q (buildSlice_step tabOk rfl rfl) rfl rfl ?_ | refine r_box rfl rfl rfl rfl rfl rfl rfl rfl rfl ?_ | refine r_new tabOk rfl rfl rfl rfl rfl rfl rfl rfl rfl ?_)
    repeat (first | refine awp_seq ?_ | refine awp_region ?_ | refine awp_block ?_ | refine awp_skip ?_ | refine awp_scope ?_ | refine awp_label ?_ | refine q_scope_normal ?_ | refine q_scope_ret ?_ | refine q_scope_exit ?_ | refine awp_ret ?_ | refine awp_exit ?_ | refine awp_ck rfl ?_ | with_reducible refine ck_t ?_ | with_reducible refine ck_f ?_ | with_reducible refine ck_nt ?_ | with_reducible refine ck_nf ?_ | refine q_then_normal ?_ | refine q_then_ret ?_ | refine q_then_exit ?_ | refine q_block_normal ?_ | refine q_block_ret ?_ | refine q_block_exit ?_ | refine q_block_other rfl ?_ | refine a_q (add_step tabOk rfl rfl rfl rfl (by omega) (by omega)) rfl rfl rfl ?_ | refine a_q (sub_step tabOk rfl rfl rfl rfl (by omega) (by omega)) rfl rfl rfl ?_ | refine a_ax tabOk rfl rfl rfl rfl ?_ | refine a_skip rfl rfl rfl ?_ | refine aops_nil ?_ | refine a_store tabOk rfl rfl rfl rfl rfl rfl rfl rfl rfl rfl ?_ | refine a_q (build_step tabOk rfl rfl rfl) rfl rfl rfl ?_ | refine a_q (buildSlice_step tabOk rfl rfl) rfl rfl rfl ?_ | refine a_box rfl rfl rfl rfl rfl rfl rfl rfl rfl ?_ | refine a_new tabOk rfl rfl rfl rfl rfl rfl rfl rfl rfl ?_)
    first | refine fin_ret rfl ?_ | refine fin_normal rfl ?_
    simp [does, hr]
  · repeat (first | refine r_q (add_step tabOk rfl rfl rfl rfl (by omega) (by omega)) rfl rfl ?_ | refine r_q (sub_step tabOk rfl rfl rfl rfl (by omega) (by omega)) rfl rfl ?_ | refine r_store tabOk rfl rfl rfl rfl rfl rfl rfl rfl rfl rfl rfl rfl ?_ | refine r_ax tabOk rfl rfl rfl ?_ | refine r_skip rfl rfl ?_ | refine r_nil ?_ | refine r_q (build_step tabOk rfl rfl rfl) rfl rfl ?_ | refine r_q (buildSlice_step tabOk rfl rfl) rfl rfl ?_ | refine r_box rfl rfl rfl rfl rfl rfl rfl rfl rfl ?_ | refine r_new tabOk rfl rfl rfl rfl rfl rfl rfl rfl rfl ?_)
    refine r_q (call_step (of_c o.kind) rfl (fun a w => Try.call23 a w) rfl) rfl rfl ?_
    repeat (first | refine r_q (add_step tabOk rfl rfl rfl rfl (by omega) (by omega)) rfl rfl ?_ | refine r_q (sub_step tabOk rfl rfl rfl rfl (by omega) (by omega)) rfl rfl ?_ | refine r_store tabOk rfl rfl rfl rfl rfl rfl rfl rfl rfl rfl rfl rfl ?_ | refine r_ax tabOk rfl rfl rfl ?_ | refine r_skip rfl rfl ?_ | refine r_nil ?_ | refine r_q (build_step tabOk rfl rfl rfl) rfl rfl ?_ | refine r_q (buildSlice_step tabOk rfl rfl) rfl rfl ?_ | refine r_box rfl rfl rfl rfl rfl rfl rfl rfl rfl ?_ | refine r_new tabOk rfl rfl rfl rfl rfl rfl rfl rfl rfl ?_)
    repeat (first | refine awp_seq ?_ | refine awp_region ?_ | refine awp_block ?_ | refine awp_skip ?_ | refine awp_scope ?_ | refine awp_label ?_ | refine q_scope_normal ?_ | refine q_scope_ret ?_ | refine q_scope_exit ?_ | refine awp_ret ?_ | refine awp_exit ?_ | refine awp_ck rfl ?_ | with_reducible refine ck_t ?_ | with_reducible refine ck_f ?_ | with_reducible refine ck_nt ?_ | with_reducible refine ck_nf ?_ | refine q_then_normal ?_ | refine q_then_ret ?_ | refine q_then_exit ?_ | refine q_block_normal ?_ | refine q_block_ret ?_ | refine q_block_exit ?_ | refine q_block_other rfl ?_ | refine a_q (add_step tabOk rfl rfl rfl rfl (by omega) (by omega)) rfl rfl rfl ?_ | refine a_q (sub_step tabOk rfl rfl rfl rfl (by omega) (by omega)) rfl rfl rfl ?_ | refine a_ax tabOk rfl rfl rfl rfl ?_ | refine a_skip rfl rfl rfl ?_ | refine aops_nil ?_ | refine a_store tabOk rfl rfl rfl rfl rfl rfl rfl rfl rfl rfl ?_ | refine a_q (build_step tabOk rfl rfl rfl) rfl rfl rfl ?_ | refine a_q (buildSlice_step tabOk rfl rfl) rfl rfl rfl ?_ | refine a_box rfl rfl rfl rfl rfl rfl rfl rfl rfl ?_ | refine a_new tabOk rfl rfl rfl rfl rfl rfl rfl rfl rfl ?_)
    generalize hk : decide (ofK o.kind = c.kind) = cc; cases cc
    · repeat (first | refine awp_seq ?_ | refine awp_region ?_ | refine awp_block ?_ | refine awp_skip ?_ | refine awp_scope ?_ | refine awp_label ?_ | refine q_scope_normal ?_ | refine q_scope_ret ?_ | refine q_scope_exit ?_ | refine awp_ret ?_ | refine awp_exit ?_ | refine awp_ck rfl ?_ | with_reducible refine ck_t ?_ | with_reducible refine ck_f ?_ | with_reducible refine ck_nt ?_ | with_reducible refine ck_nf ?_ | refine q_then_normal ?_ | refine q_then_ret ?_ | refine q_then_exit ?_ | refine q_block_normal ?_ | refine q_block_ret ?_ | refine q_block_exit ?_ | refine q_block_other rfl ?_ | refine a_q (add_step tabOk rfl rfl rfl rfl (by omega) (by omega)) rfl rfl rfl ?_ | refine a_q (sub_step tabOk rfl rfl rfl rfl (by omega) (by omega)) rfl rfl rfl ?_ | refine a_ax tabOk rfl rfl rfl rfl ?_ | refine a_skip rfl rfl rfl ?_ | refine aops_nil ?_ | refine a_store tabOk rfl rfl rfl rfl rfl rfl rfl rfl rfl rfl ?_ | refine a_q (build_step tabOk rfl rfl rfl) rfl rfl rfl ?_ | refine a_q (buildSlice_step tabOk rfl rfl) rfl rfl rfl ?_ | refine a_box rfl rfl rfl rfl rfl rfl rfl rfl rfl ?_ | refine a_new tabOk rfl rfl rfl rfl rfl rfl rfl rfl rfl ?_)
      first | refine fin_ret rfl ?_ | refine fin_normal rfl ?_
      have hk' := of_decide_eq_false hk
      simp [does, hk']
    · repeat (first | refine awp_seq ?_ | refine awp_region ?_ | refine awp_block ?_ | refine awp_skip ?_ | refine awp_scope ?_ | refine awp_label ?_ | refine q_scope_normal ?_ | refine q_scope_ret ?_ | refine q_scope_exit ?_ | refine awp_ret ?_ | refine awp_exit ?_ | refine awp_ck rfl ?_ | with_reducible refine ck_t ?_ | with_reducible refine ck_f ?_ | with_reducible refine ck_nt ?_ | with_reducible refine ck_nf ?_ | refine q_then_normal ?_ | refine q_then_ret ?_ | refine q_then_exit ?_ | refine q_block_normal ?_ | refine q_block_ret ?_ | refine q_block_exit ?_ | refine q_block_other rfl ?_ | refine a_q (add_step tabOk rfl rfl rfl rfl (by omega) (by omega)) rfl rfl rfl ?_ | refine a_q (sub_step tabOk rfl rfl rfl rfl (by omega) (by omega)) rfl rfl rfl ?_ | refine a_ax tabOk rfl rfl rfl rfl ?_ | refine a_skip rfl rfl rfl ?_ | refine aops_nil ?_ | refine a_store tabOk rfl rfl rfl rfl rfl rfl rfl rfl rfl rfl ?_ | refine a_q (build_step tabOk rfl rfl rfl) rfl rfl rfl ?_ | refine a_q (buildSlice_step tabOk rfl rfl) rfl rfl rfl ?_ | refine a_box rfl rfl rfl rfl rfl rfl rfl rfl rfl ?_ | refine a_new tabOk rfl rfl rfl rfl rfl rfl rfl rfl rfl ?_)
      have hk' := of_decide_eq_true hk
      obtain ⟨f, he, h17, hf, hc⟩ := effect_c c o hs hr hk'
      refine awp_region_q [2] rfl (by kernel_rfl) (by kernel_rfl) ?_
      refine r_q (call_step (effects_c) rfl (fun a w => Try.call32 a w) rfl) rfl rfl ?_
      repeat (first | refine r_q (add_step tabOk rfl rfl rfl rfl (by omega) (by omega)) rfl rfl ?_ | refine r_q (sub_step tabOk rfl rfl rfl rfl (by omega) (by omega)) rfl rfl ?_ | refine r_store tabOk rfl rfl rfl rfl rfl rfl rfl rfl rfl rfl rfl rfl ?_ | refine r_ax tabOk rfl rfl rfl ?_ | refine r_skip rfl rfl ?_ | refine r_nil ?_ | refine r_q (build_step tabOk rfl rfl rfl) rfl rfl ?_ | refine r_q (buildSlice_step tabOk rfl rfl) rfl rfl ?_ | refine r_box rfl rfl rfl rfl rfl rfl rfl rfl rfl ?_ | refine r_new tabOk rfl rfl rfl rfl rfl rfl rfl rfl rfl ?_)
      refine r_q (index_step tabOk (.fn (.func f) [] []) rfl rfl rfl rfl rfl rfl (by omega) (by show o.kind < 8; omega) hf) rfl rfl ?_
      repeat (first | refine r_q (add_step tabOk rfl rfl rfl rfl (by omega) (by omega)) rfl rfl ?_ | refine r_q (sub_step tabOk rfl rfl rfl rfl (by omega) (by omega)) rfl rfl ?_ | refine r_store tabOk rfl rfl rfl rfl rfl rfl rfl rfl rfl rfl rfl rfl ?_ | refine r_ax tabOk rfl rfl rfl ?_ | refine r_skip rfl rfl ?_ | refine r_nil ?_ | refine r_q (build_step tabOk rfl rfl rfl) rfl rfl ?_ | refine r_q (buildSlice_step tabOk rfl rfl) rfl rfl ?_ | refine r_box rfl rfl rfl rfl rfl rfl rfl rfl rfl ?_ | refine r_new tabOk rfl rfl rfl rfl rfl rfl rfl rfl rfl ?_)
      refine r_q (callv_step hc rfl he rfl rfl) rfl rfl ?_
      repeat (first | refine r_q (add_step tabOk rfl rfl rfl rfl (by omega) (by omega)) rfl rfl ?_ | refine r_q (sub_step tabOk rfl rfl rfl rfl (by omega) (by omega)) rfl rfl ?_ | refine r_store tabOk rfl rfl rfl rfl rfl rfl rfl rfl rfl rfl rfl rfl ?_ | refine r_ax tabOk rfl rfl rfl ?_ | refine r_skip rfl rfl ?_ | refine r_nil ?_ | refine r_q (build_step tabOk rfl rfl rfl) rfl rfl ?_ | refine r_q (buildSlice_step tabOk rfl rfl) rfl rfl ?_ | refine r_box rfl rfl rfl rfl rfl rfl rfl rfl rfl ?_ | refine r_new tabOk rfl rfl rfl rfl rfl rfl rfl rfl rfl ?_)
      repeat (first | refine awp_seq ?_ | refine awp_region ?_ | refine awp_block ?_ | refine awp_skip ?_ | refine awp_scope ?_ | refine awp_label ?_ | refine q_scope_normal ?_ | refine q_scope_ret ?_ | refine q_scope_exit ?_ | refine awp_ret ?_ | refine awp_exit ?_ | refine awp_ck rfl ?_ | with_reducible refine ck_t ?_ | with_reducible refine ck_f ?_ | with_reducible refine ck_nt ?_ | with_reducible refine ck_nf ?_ | refine q_then_normal ?_ | refine q_then_ret ?_ | refine q_then_exit ?_ | refine q_block_normal ?_ | refine q_block_ret ?_ | refine q_block_exit ?_ | refine q_block_other rfl ?_ | refine a_q (add_step tabOk rfl rfl rfl rfl (by omega) (by omega)) rfl rfl rfl ?_ | refine a_q (sub_step tabOk rfl rfl rfl rfl (by omega) (by omega)) rfl rfl rfl ?_ | refine a_ax tabOk rfl rfl rfl rfl ?_ | refine a_skip rfl rfl rfl ?_ | refine aops_nil ?_ | refine a_store tabOk rfl rfl rfl rfl rfl rfl rfl rfl rfl rfl ?_ | refine a_q (build_step tabOk rfl rfl rfl) rfl rfl rfl ?_ | refine a_q (buildSlice_step tabOk rfl rfl) rfl rfl rfl ?_ | refine a_box rfl rfl rfl rfl rfl rfl rfl rfl rfl ?_ | refine a_new tabOk rfl rfl rfl rfl rfl rfl rfl rfl rfl ?_)
      first | refine fin_ret rfl ?_ | refine fin_normal rfl ?_
      simp [does, hr, hk']
end Go.Proofs.Ytknancnmdpdefaa
