/- anew: its walk. -/
import Derived.Test.YtcjooalmhppkiaaRRRRB7
namespace Go.Proofs.YtcjooalmhppkiaaRRRR
open Go.RowKit
set_option maxRecDepth 100000

/-- The labels laid anew. -/
noncomputable def anewF (ls : List Int) : List Int := (List.range ls.length).map fun x => ((rowF ls).idxOf x : Nat) * 1048576
theorem anewF_len (ls : List Int) : (anewF ls).length = ls.length := by simp [anewF]
/-- The cells when the first k of the row have their labels. -/
structure Anew (ls : List Int) (k c : Nat) (cs : List Dt) : Prop where
  len : cs.length = c
  plain : PlainC cs
  at_ : ∀ x, x < ls.length → cs[x]? = some (dI (if (rowF ls).idxOf x < k then ((rowF ls).idxOf x : Nat) * 1048576 else labAt ls x))
theorem plain_set {cs : List Dt} (h : PlainC cs) {i : Nat} {n : Int} : PlainC (cs.set i (dI n)) := by
  intro B G
  have h1 := h B G
  clear h
  induction cs generalizing i with
  | nil => rfl
  | cons d cs ih =>
    simp only [Dt.ok.oks, Bool.and_eq_true] at h1
    cases i with
    | zero => simp only [List.set_cons_zero, Dt.ok.oks, Bool.and_eq_true]; exact ⟨rfl, h1.2⟩
    | succ i => simp only [List.set_cons_succ, Dt.ok.oks, Bool.and_eq_true]; exact ⟨h1.1, ih h1.2⟩
theorem idxOf_row {ls : List Int} {k x : Nat} (h : (rowF ls)[k]? = some x) : (rowF ls).idxOf x = k := by
  obtain ⟨hk, hx⟩ := List.getElem?_eq_some_iff.1 h
  have hm : x ∈ rowF ls := List.mem_of_getElem? h
  have hi := List.idxOf_lt_length_of_mem hm
  have hg : (rowF ls)[(rowF ls).idxOf x] = x := List.getElem_idxOf hi
  have hp := List.pairwise_iff_getElem.1 (List.nodup_iff_pairwise_ne.1 (rowF_nodup ls))
  rcases Nat.lt_trichotomy ((rowF ls).idxOf x) k with h' | h' | h'
  · exact absurd (hg.trans hx.symm) (hp _ _ hi hk h')
  · exact h'
  · exact absurd (hx.trans hg.symm) (hp _ _ hk hi h')
theorem Anew.next {ls : List Int} {k c : Nat} {cs : List Dt} (h : Anew ls k c cs) {x : Nat} (hx : (rowF ls)[k]? = some x) (hxl : x < ls.length) (hc : ls.length ≤ c) : Anew ls (k + 1) c (cs.set x (dI ((k : Nat) * 1048576 : Int))) := by
  have hid := idxOf_row hx
  refine ⟨by rw [List.length_set]; exact h.len, plain_set h.plain, fun y hy => ?_⟩
  by_cases e : x = y
  · subst e
    rw [List.getElem?_set_self (by rw [h.len]; omega), hid, if_pos (by omega)]
  · rw [List.getElem?_set_ne e, h.at_ y hy]
    have hne : (rowF ls).idxOf y ≠ k := fun e' => by
      have hm : y ∈ rowF ls := (rowF_mem ls y).2 hy
      have hi := List.idxOf_lt_length_of_mem hm
      have hg : (rowF ls)[(rowF ls).idxOf y]? = some y := by rw [List.getElem?_eq_getElem hi, List.getElem_idxOf]
      rw [e', hx] at hg
      exact e (Option.some.inj hg)
    have : ((rowF ls).idxOf y < k + 1) ↔ ((rowF ls).idxOf y < k) := by omega
    simp only [this]
theorem Anew.start {ls : List Int} {c : Nat} {cs : List Dt} (hl : cs.length = c) (htk : cs.take ls.length = (pInts ls).map Dt.p) (hpl : PlainC cs) : Anew ls 0 c cs :=
  ⟨hl, hpl, fun x hx => by rw [if_neg (by omega)]; exact own_get htk hx⟩
theorem Anew.done {ls : List Int} {c : Nat} {cs : List Dt} (h : Anew ls ls.length c cs) : cs.take ls.length = (pInts (anewF ls)).map Dt.p := by
  apply List.ext_getElem?
  intro x
  by_cases hx : x < ls.length
  · have hi : (rowF ls).idxOf x < ls.length := by
      have := List.idxOf_lt_length_of_mem ((rowF_mem ls x).2 hx)
      rw [rowF_len] at this; exact this
    rw [List.getElem?_take, if_pos hx, h.at_ x hx, if_pos hi]
    simp [anewF, pInts, hx]
  · rw [List.getElem?_take, if_neg hx, List.getElem?_eq_none (by rw [List.length_map, pInts_len, anewF_len]; omega)]

set_option maxHeartbeats 4000000 in
theorem anew_i (ls : List Int) (hn : 0 < ls.length) (hl : ls.length ≤ 100000) (c : Nat) (cs : List Dt) (hlc : cs.length = c) (hc : ls.length ≤ c) (htk : cs.take ls.length = (pInts ls).map Dt.p) (hpl : PlainC cs) :
    ImpC Try.prog 18 [9] [.arr 9 0 ls.length c] [(9, cs)] (fun d bs => d = .tup [] ∧ ∃ cs', bs = [(9, cs')] ∧ cs'.length = c ∧ cs'.take ls.length = (pInts (anewF ls)).map Dt.p ∧ PlainC cs') := by
  refine imp_fin tabOk Try.func18 rfl Try.ntmps18 rfl rfl rfl (by (repeat (first | exact trivial | refine ⟨rfl, ?_⟩))) fun w cl own kf => ?_
  repeat (first | refine awp_seq ?_ | refine awp_region ?_ | refine awp_block ?_ | refine awp_skip ?_ | refine awp_scope ?_ | refine awp_label ?_ | refine q_scope_normal ?_ | refine q_scope_ret ?_ | refine q_scope_exit ?_ | refine awp_ret ?_ | refine awp_exit ?_ | refine awp_ck rfl ?_ | with_reducible refine ck_t ?_ | with_reducible refine ck_f ?_ | with_reducible refine ck_nt ?_ | with_reducible refine ck_nf ?_ | refine q_then_normal ?_ | refine q_then_ret ?_ | refine q_then_exit ?_ | refine q_block_normal ?_ | refine q_block_ret ?_ | refine q_block_exit ?_ | refine q_block_other rfl ?_ | refine a_q (add_step tabOk rfl rfl rfl rfl (by omega) (by omega)) rfl rfl rfl ?_ | refine a_q (sub_step tabOk rfl rfl rfl rfl (by omega) (by omega)) rfl rfl rfl ?_ | refine a_ax tabOk rfl rfl rfl rfl ?_ | refine a_skip rfl rfl rfl ?_ | refine aops_nil ?_ | refine a_store tabOk rfl rfl rfl rfl rfl rfl rfl rfl rfl rfl ?_ | refine a_q (build_step tabOk rfl rfl rfl) rfl rfl rfl ?_ | refine a_q (buildSlice_step tabOk rfl rfl) rfl rfl rfl ?_ | refine a_box rfl rfl rfl rfl rfl rfl rfl rfl rfl ?_ | refine a_new tabOk rfl rfl rfl rfl rfl rfl rfl rfl rfl ?_)
  refine a_callI (row_i ls hn hl c cs htk hpl) rfl (fun a w => Try.call19 a w) rfl rfl (by (repeat (first | exact trivial | refine ⟨⟨rfl, hpl _ _⟩, ?_⟩))) (by (repeat (first | exact trivial | refine ⟨.inr rfl, ?_⟩))) rfl rfl rfl rfl ?_ ?_
  · rintro d bs ⟨_, rfl⟩
    exact ⟨.inl rfl, trivial⟩
  · rintro d bs ⟨rfl, rfl⟩
    repeat (first | refine awp_seq ?_ | refine awp_region ?_ | refine awp_block ?_ | refine awp_skip ?_ | refine awp_scope ?_ | refine awp_label ?_ | refine q_scope_normal ?_ | refine q_scope_ret ?_ | refine q_scope_exit ?_ | refine awp_ret ?_ | refine awp_exit ?_ | refine awp_ck rfl ?_ | with_reducible refine ck_t ?_ | with_reducible refine ck_f ?_ | with_reducible refine ck_nt ?_ | with_reducible refine ck_nf ?_ | refine q_then_normal ?_ | refine q_then_ret ?_ | refine q_then_exit ?_ | refine q_block_normal ?_ | refine q_block_ret ?_ | refine q_block_exit ?_ | refine q_block_other rfl ?_ | refine a_q (add_step tabOk rfl rfl rfl rfl (by omega) (by omega)) rfl rfl rfl ?_ | refine a_q (sub_step tabOk rfl rfl rfl rfl (by omega) (by omega)) rfl rfl rfl ?_ | refine a_ax tabOk rfl rfl rfl rfl ?_ | refine a_skip rfl rfl rfl ?_ | refine aops_nil ?_ | refine a_store tabOk rfl rfl rfl rfl rfl rfl rfl rfl rfl rfl ?_ | refine a_q (build_step tabOk rfl rfl rfl) rfl rfl rfl ?_ | refine a_q (buildSlice_step tabOk rfl rfl) rfl rfl rfl ?_ | refine a_box rfl rfl rfl rfl rfl rfl rfl rfl rfl ?_ | refine a_new tabOk rfl rfl rfl rfl rfl rfl rfl rfl rfl ?_)
    refine awp_loop_ok (fun p : Nat × List Dt => p.1 ≤ ls.length ∧ Anew ls p.1 c p.2) (fun p => ⟨[(7, dI p.1), (6, dI ls.length), (5, .p (.sl false ls.length (pInts (nats (rowF ls))))), (0, .arr 9 0 ls.length c)], [(9, p.2)], []⟩) (fun p => ls.length - p.1) (0, cs) ⟨Nat.zero_le _, .start hlc htk hpl⟩ (drop_ghost (by (repeat (first | exact trivial | refine ⟨⟨rfl, rfl⟩, ?_⟩))) (by (repeat (first | exact trivial | refine ⟨⟨rfl, rfl⟩, ?_⟩ | refine ⟨⟨rfl, hpl _ _⟩, ?_⟩))) (by (repeat (first | exact trivial | refine ⟨rfl, ?_⟩))) (by (repeat (first | exact trivial | refine ⟨rfl, ?_⟩)))) ?_
    rintro ⟨k, ck⟩ ⟨hk, hA⟩
    simp only at hk hA
    repeat (first | refine awp_seq ?_ | refine awp_region ?_ | refine awp_block ?_ | refine awp_skip ?_ | refine awp_scope ?_ | refine awp_label ?_ | refine q_scope_normal ?_ | refine q_scope_ret ?_ | refine q_scope_exit ?_ | refine awp_ret ?_ | refine awp_exit ?_ | refine awp_ck rfl ?_ | with_reducible refine ck_t ?_ | with_reducible refine ck_f ?_ | with_reducible refine ck_nt ?_ | with_reducible refine ck_nf ?_ | refine q_then_normal ?_ | refine q_then_ret ?_ | refine q_then_exit ?_ | refine q_block_normal ?_ | refine q_block_ret ?_ | refine q_block_exit ?_ | refine q_block_other rfl ?_ | refine a_q (add_step tabOk rfl rfl rfl rfl (by omega) (by omega)) rfl rfl rfl ?_ | refine a_q (sub_step tabOk rfl rfl rfl rfl (by omega) (by omega)) rfl rfl rfl ?_ | refine a_ax tabOk rfl rfl rfl rfl ?_ | refine a_skip rfl rfl rfl ?_ | refine aops_nil ?_ | refine a_store tabOk rfl rfl rfl rfl rfl rfl rfl rfl rfl rfl ?_ | refine a_q (build_step tabOk rfl rfl rfl) rfl rfl rfl ?_ | refine a_q (buildSlice_step tabOk rfl rfl) rfl rfl rfl ?_ | refine a_box rfl rfl rfl rfl rfl rfl rfl rfl rfl ?_ | refine a_new tabOk rfl rfl rfl rfl rfl rfl rfl rfl rfl ?_)
    refine ck_b (fun h1 => ?_) (fun h1 => ?_) <;> try rw [h1]
    · have h1' := of_decide_eq_true h1
      simp only at h1'
      have hkl : k < ls.length := by omega
      obtain ⟨x, hx, hxl⟩ := rowF_at ls hkl
      have hx' : (nats (rowF ls))[(k : Int).toNat]? = some (x : Int) := by simp [nats, hx]
      have e1 : IntKind.i64.wrap ((k : Int) * 1048576) = k * 1048576 := wrap_id (by omega) (by omega)
      have hA' := hA.next hx hxl hc
      have hplN := hA'.plain
      repeat (first | refine awp_seq ?_ | refine awp_region ?_ | refine awp_block ?_ | refine awp_skip ?_ | refine awp_scope ?_ | refine awp_label ?_ | refine q_scope_normal ?_ | refine q_scope_ret ?_ | refine q_scope_exit ?_ | refine awp_ret ?_ | refine awp_exit ?_ | refine awp_ck rfl ?_ | with_reducible refine ck_t ?_ | with_reducible refine ck_f ?_ | with_reducible refine ck_nt ?_ | with_reducible refine ck_nf ?_ | refine q_then_normal ?_ | refine q_then_ret ?_ | refine q_then_exit ?_ | refine q_block_normal ?_ | refine q_block_ret ?_ | refine q_block_exit ?_ | refine q_block_other rfl ?_ | refine a_q (add_step tabOk rfl rfl rfl rfl (by omega) (by omega)) rfl rfl rfl ?_ | refine a_q (sub_step tabOk rfl rfl rfl rfl (by omega) (by omega)) rfl rfl rfl ?_ | refine a_ax tabOk rfl rfl rfl rfl ?_ | refine a_skip rfl rfl rfl ?_ | refine aops_nil ?_ | refine a_store tabOk rfl rfl rfl rfl rfl rfl rfl rfl rfl rfl ?_ | refine a_q (build_step tabOk rfl rfl rfl) rfl rfl rfl ?_ | refine a_q (buildSlice_step tabOk rfl rfl) rfl rfl rfl ?_ | refine a_box rfl rfl rfl rfl rfl rfl rfl rfl rfl ?_ | refine a_new tabOk rfl rfl rfl rfl rfl rfl rfl rfl rfl ?_)
      refine a_q (indexAddr_step tabOk [pI x] rfl rfl rfl rfl rfl rfl (by first | omega | (simp; done) | (simp; omega)) (by first | omega | (simp; done) | (simp; omega)) (by simp) (ints_idx hx')) rfl rfl rfl ?_
      repeat (first | refine awp_seq ?_ | refine awp_region ?_ | refine awp_block ?_ | refine awp_skip ?_ | refine awp_scope ?_ | refine awp_label ?_ | refine q_scope_normal ?_ | refine q_scope_ret ?_ | refine q_scope_exit ?_ | refine awp_ret ?_ | refine awp_exit ?_ | refine awp_ck rfl ?_ | with_reducible refine ck_t ?_ | with_reducible refine ck_f ?_ | with_reducible refine ck_nt ?_ | with_reducible refine ck_nf ?_ | refine q_then_normal ?_ | refine q_then_ret ?_ | refine q_then_exit ?_ | refine q_block_normal ?_ | refine q_block_ret ?_ | refine q_block_exit ?_ | refine q_block_other rfl ?_ | refine a_q (add_step tabOk rfl rfl rfl rfl (by omega) (by omega)) rfl rfl rfl ?_ | refine a_q (sub_step tabOk rfl rfl rfl rfl (by omega) (by omega)) rfl rfl rfl ?_ | refine a_ax tabOk rfl rfl rfl rfl ?_ | refine a_skip rfl rfl rfl ?_ | refine aops_nil ?_ | refine a_store tabOk rfl rfl rfl rfl rfl rfl rfl rfl rfl rfl ?_ | refine a_q (build_step tabOk rfl rfl rfl) rfl rfl rfl ?_ | refine a_q (buildSlice_step tabOk rfl rfl) rfl rfl rfl ?_ | refine a_box rfl rfl rfl rfl rfl rfl rfl rfl rfl ?_ | refine a_new tabOk rfl rfl rfl rfl rfl rfl rfl rfl rfl ?_)
      rw [e1]
      refine a_q (indexAddrA_step (p := x) tabOk rfl rfl rfl rfl rfl (by omega) (by omega) (by show x = (x : Int).toNat * 1; omega)) rfl rfl rfl ?_
      refine a_storeAt tabOk rfl rfl rfl rfl rfl rfl rfl rfl rfl (by show x < ck.length; rw [hA.len]; omega) ?_
      repeat (first | refine awp_seq ?_ | refine awp_region ?_ | refine awp_block ?_ | refine awp_skip ?_ | refine awp_scope ?_ | refine awp_label ?_ | refine q_scope_normal ?_ | refine q_scope_ret ?_ | refine q_scope_exit ?_ | refine awp_ret ?_ | refine awp_exit ?_ | refine awp_ck rfl ?_ | with_reducible refine ck_t ?_ | with_reducible refine ck_f ?_ | with_reducible refine ck_nt ?_ | with_reducible refine ck_nf ?_ | refine q_then_normal ?_ | refine q_then_ret ?_ | refine q_then_exit ?_ | refine q_block_normal ?_ | refine q_block_ret ?_ | refine q_block_exit ?_ | refine q_block_other rfl ?_ | refine a_q (add_step tabOk rfl rfl rfl rfl (by omega) (by omega)) rfl rfl rfl ?_ | refine a_q (sub_step tabOk rfl rfl rfl rfl (by omega) (by omega)) rfl rfl rfl ?_ | refine a_ax tabOk rfl rfl rfl rfl ?_ | refine a_skip rfl rfl rfl ?_ | refine aops_nil ?_ | refine a_store tabOk rfl rfl rfl rfl rfl rfl rfl rfl rfl rfl ?_ | refine a_q (build_step tabOk rfl rfl rfl) rfl rfl rfl ?_ | refine a_q (buildSlice_step tabOk rfl rfl) rfl rfl rfl ?_ | refine a_box rfl rfl rfl rfl rfl rfl rfl rfl rfl ?_ | refine a_new tabOk rfl rfl rfl rfl rfl rfl rfl rfl rfl ?_)
      exact ⟨(k + 1, ck.set x (dI (k * 1048576))), ⟨by simp only; omega, hA'⟩, by simp only; omega, drop_ghost (by (repeat (first | exact trivial | refine ⟨⟨rfl, rfl⟩, ?_⟩))) (by (repeat (first | exact trivial | refine ⟨⟨rfl, rfl⟩, ?_⟩ | refine ⟨⟨rfl, hplN _ _⟩, ?_⟩))) (by (repeat (first | exact trivial | refine ⟨rfl, ?_⟩))) (by (repeat (first | exact trivial | refine ⟨rfl, ?_⟩)))⟩
    · have hkl : k = ls.length := by have := of_decide_eq_false h1; simp only at this; omega
      subst hkl
      have hplA := hA.plain
      repeat (first | refine awp_seq ?_ | refine awp_region ?_ | refine awp_block ?_ | refine awp_skip ?_ | refine awp_scope ?_ | refine awp_label ?_ | refine q_scope_normal ?_ | refine q_scope_ret ?_ | refine q_scope_exit ?_ | refine awp_ret ?_ | refine awp_exit ?_ | refine awp_ck rfl ?_ | with_reducible refine ck_t ?_ | with_reducible refine ck_f ?_ | with_reducible refine ck_nt ?_ | with_reducible refine ck_nf ?_ | refine q_then_normal ?_ | refine q_then_ret ?_ | refine q_then_exit ?_ | refine q_block_normal ?_ | refine q_block_ret ?_ | refine q_block_exit ?_ | refine q_block_other rfl ?_ | refine a_q (add_step tabOk rfl rfl rfl rfl (by omega) (by omega)) rfl rfl rfl ?_ | refine a_q (sub_step tabOk rfl rfl rfl rfl (by omega) (by omega)) rfl rfl rfl ?_ | refine a_ax tabOk rfl rfl rfl rfl ?_ | refine a_skip rfl rfl rfl ?_ | refine aops_nil ?_ | refine a_store tabOk rfl rfl rfl rfl rfl rfl rfl rfl rfl rfl ?_ | refine a_q (build_step tabOk rfl rfl rfl) rfl rfl rfl ?_ | refine a_q (buildSlice_step tabOk rfl rfl) rfl rfl rfl ?_ | refine a_box rfl rfl rfl rfl rfl rfl rfl rfl rfl ?_ | refine a_new tabOk rfl rfl rfl rfl rfl rfl rfl rfl rfl ?_)
      refine finI_normal [(9, ck)] rfl rfl (by (repeat (first | exact trivial | refine ⟨⟨rfl, hplA _ _⟩, ?_⟩))) (by (repeat (first | exact trivial | refine ⟨rfl, ?_⟩))) ?_
      exact ⟨rfl, ck, rfl, hA.len, hA.done, hA.plain⟩
end Go.Proofs.YtcjooalmhppkiaaRRRR
