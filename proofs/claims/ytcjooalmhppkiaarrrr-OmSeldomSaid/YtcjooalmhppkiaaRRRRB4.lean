/- Right, Before and Row of orders: their walks. -/
import Derived.Test.YtcjooalmhppkiaaRRRRB3
namespace Go.Proofs.YtcjooalmhppkiaaRRRR
open Go.RowKit
set_option maxRecDepth 100000

theorem allI_get (n j : Nat) (h : j < (allI n).size) (hj : j < n) : (allI n)[j] = (⟨j, hj⟩ : Ix n) := Array.getElem_ofFn _
theorem rowF_perm (ls : List Int) : (rowF ls).Perm (List.range ls.length) := by
  unfold rowF
  split
  · rename_i h
    have hp := (pdqI_spec ls h).1.2.2
    rw [Array.extract_eq_self_of_le (by rw [pdqI_size]; exact Nat.le_refl _), Array.extract_eq_self_of_le (by rw [allI_size]; exact Nat.le_refl _)] at hp
    have h2 := hp.map (fun x : Ix ls.length => x.val)
    have h3 : (allI ls.length).toList.map (fun x : Ix ls.length => x.val) = List.range ls.length := by
      apply List.ext_getElem
      · simp [allI_size]
      · intro j h4 h5
        simp only [List.getElem_map, Array.getElem_toList, List.getElem_range]
        have hj : j < ls.length := by simpa using h5
        rw [allI_get ls.length j (by rw [allI_size]; exact hj) hj]
    rw [h3] at h2
    exact h2
  · rename_i h
    have : ls.length = 0 := by omega
    rw [this]; exact List.Perm.refl _
theorem rowF_mem (ls : List Int) (x : Nat) : x ∈ rowF ls ↔ x < ls.length := by rw [(rowF_perm ls).mem_iff, List.mem_range]
theorem rowF_nodup (ls : List Int) : (rowF ls).Nodup := (rowF_perm ls).nodup_iff.2 List.nodup_range
theorem rowF_sorted (ls : List Int) {i j x y : Nat} (hij : i < j) (hx : (rowF ls)[i]? = some x) (hy : (rowF ls)[j]? = some y) : labAt ls x ≤ labAt ls y := by
  have hj := (List.getElem?_eq_some_iff.1 hy).1
  rw [rowF_len] at hj
  have h : 0 < ls.length := by omega
  letI := inhI h
  have hs := (pdqI_spec ls h).2 i j (Nat.zero_le _) hij hj
  rw [ltL] at hs
  have hs' := of_decide_eq_false hs
  have hget : ∀ k z, k < ls.length → (rowF ls)[k]? = some z → ((pdqI ls h)[k]!).val = z := fun k z hk hz => by
    unfold rowF at hz
    rw [dif_pos h] at hz
    have hk' : k < (pdqI ls h).size := by rw [pdqI_size]; exact hk
    simp only [List.getElem?_map, Array.getElem?_toList, Array.getElem?_eq_getElem hk', Option.map_some, Option.some.injEq] at hz
    rw [getElem!_pos _ k hk']
    exact hz
  rw [hget i x (by omega) hx, hget j y hj hy] at hs'
  omega
theorem rowF_at (ls : List Int) {j : Nat} (hj : j < ls.length) : ∃ x, (rowF ls)[j]? = some x ∧ x < ls.length := by
  have hj' : j < (rowF ls).length := by rw [rowF_len]; exact hj
  exact ⟨(rowF ls)[j], List.getElem?_eq_getElem hj', (rowF_mem ls _).1 (List.getElem_mem hj')⟩
theorem labAt_get {ls : List Int} {x : Nat} (hx : x < ls.length) : ls[x]? = some (labAt ls x) := by simp [labAt, hx]

def topL : Int := 1099511627776
def rightB (ls : List Int) : Bool := decide (1 ≤ ls.length) && decide (ls.length ≤ 1000) && ls.all (fun x => decide (0 ≤ x) && decide (x ≤ topL)) && decide ls.Nodup
/-- What Right asks of the place j of the row. -/
def goodAt (ls : List Int) (j : Nat) : Prop := ∀ x, (rowF ls)[j]? = some x → 0 ≤ labAt ls x ∧ labAt ls x ≤ topL ∧ ∀ y, 0 < j → (rowF ls)[j - 1]? = some y → labAt ls x ≠ labAt ls y
theorem right_good {ls : List Int} (h1 : 1 ≤ ls.length) (h2 : ls.length ≤ 1000) (h : ∀ j, j < ls.length → goodAt ls j) : rightB ls = true := by
  have hin : ∀ i, i < ls.length → ∃ j, j < ls.length ∧ (rowF ls)[j]? = some i := fun i hi => by
    obtain ⟨j, hj⟩ := List.getElem?_of_mem ((rowF_mem ls i).2 hi)
    exact ⟨j, by have := (List.getElem?_eq_some_iff.1 hj).1; rw [rowF_len] at this; exact this, hj⟩
  have hlt : ∀ a b x y, a < b → b < ls.length → (rowF ls)[a]? = some x → (rowF ls)[b]? = some y → labAt ls x < labAt ls y := fun a b x y hab hb hx hy => by
    obtain ⟨z, hz, _⟩ := rowF_at ls (j := b - 1) (by omega)
    have e1 := rowF_sorted ls (show b - 1 < b by omega) hz hy
    have e2 := (h b hb y hy).2.2 z (by omega) hz
    by_cases hab' : a = b - 1
    · subst hab'
      rw [hz] at hx
      cases hx
      omega
    · have := rowF_sorted ls (show a < b - 1 by omega) hx hz
      omega
  unfold rightB
  simp only [Bool.and_eq_true, decide_eq_true_eq, List.all_eq_true]
  refine ⟨⟨⟨h1, h2⟩, fun v hv => ?_⟩, ?_⟩
  · obtain ⟨i, hi⟩ := List.getElem?_of_mem hv
    have hil := (List.getElem?_eq_some_iff.1 hi).1
    obtain ⟨j, hj, hr⟩ := hin i hil
    have := h j hj i hr
    rw [labAt_get hil] at hi
    cases hi
    exact ⟨this.1, this.2.1⟩
  · rw [List.nodup_iff_pairwise_ne, List.pairwise_iff_getElem]
    intro i i' hi hi' hii e
    obtain ⟨a, ha, hra⟩ := hin i hi
    obtain ⟨b, hb, hrb⟩ := hin i' hi'
    have e1 : labAt ls i = ls[i] := by simp [labAt, hi]
    have e2 : labAt ls i' = ls[i'] := by simp [labAt, hi']
    rcases Nat.lt_trichotomy a b with h' | h' | h'
    · have := hlt a b i i' h' hb hra hrb; omega
    · subst h'; rw [hra] at hrb; cases hrb; omega
    · have := hlt b a i' i h' ha hrb hra; omega
theorem right_range {ls : List Int} {x : Nat} (hx : x < ls.length) (h : labAt ls x < 0 ∨ topL < labAt ls x) : rightB ls = false := by
  cases hr : rightB ls with
  | false => rfl
  | true =>
    unfold rightB at hr
    simp only [Bool.and_eq_true, decide_eq_true_eq, List.all_eq_true] at hr
    have := hr.1.2 (labAt ls x) (List.mem_of_getElem? (labAt_get hx))
    omega
theorem right_twice {ls : List Int} {x y : Nat} (hx : x < ls.length) (hy : y < ls.length) (hne : x ≠ y) (h : labAt ls x = labAt ls y) : rightB ls = false := by
  cases hr : rightB ls with
  | false => rfl
  | true =>
    unfold rightB at hr
    simp only [Bool.and_eq_true, decide_eq_true_eq] at hr
    have hp := List.pairwise_iff_getElem.1 (List.nodup_iff_pairwise_ne.1 hr.2)
    have e1 : labAt ls x = ls[x] := by simp [labAt, hx]
    have e2 : labAt ls y = ls[y] := by simp [labAt, hy]
    rcases Nat.lt_trichotomy x y with h' | h' | h'
    · exact absurd (by rw [← e1, ← e2]; exact h) (hp x y hx hy h')
    · exact absurd h' hne
    · exact absurd (by rw [← e1, ← e2]; exact h.symm) (hp y x hy hx h')

abbrev dOrd (ls : List Int) : Dt := .agg [dInts ls]
set_option maxHeartbeats 4000000 in
theorem right_c (ls : List Int) : PureC Try.prog 13 [dOrd ls] (dB (rightB ls)) := by
  refine pure_fin tabOk Try.func13 rfl Try.ntmps13 rfl rfl rfl fun w cl => ?_
  repeat (first | refine awp_seq ?_ | refine awp_region ?_ | refine awp_block ?_ | refine awp_skip ?_ | refine awp_scope ?_ | refine awp_label ?_ | refine q_scope_normal ?_ | refine q_scope_ret ?_ | refine q_scope_exit ?_ | refine awp_ret ?_ | refine awp_exit ?_ | refine awp_ck rfl ?_ | with_reducible refine ck_t ?_ | with_reducible refine ck_f ?_ | with_reducible refine ck_nt ?_ | with_reducible refine ck_nf ?_ | refine q_then_normal ?_ | refine q_then_ret ?_ | refine q_then_exit ?_ | refine q_block_normal ?_ | refine q_block_ret ?_ | refine q_block_exit ?_ | refine q_block_other rfl ?_ | refine a_q (add_step tabOk rfl rfl rfl rfl (by omega) (by omega)) rfl rfl rfl ?_ | refine a_q (sub_step tabOk rfl rfl rfl rfl (by omega) (by omega)) rfl rfl rfl ?_ | refine a_ax tabOk rfl rfl rfl rfl ?_ | refine a_skip rfl rfl rfl ?_ | refine aops_nil ?_ | refine a_store tabOk rfl rfl rfl rfl rfl rfl rfl rfl rfl rfl ?_ | refine a_q (build_step tabOk rfl rfl rfl) rfl rfl rfl ?_ | refine a_q (buildSlice_step tabOk rfl rfl) rfl rfl rfl ?_ | refine a_box rfl rfl rfl rfl rfl rfl rfl rfl rfl ?_ | refine a_new tabOk rfl rfl rfl rfl rfl rfl rfl rfl rfl ?_)
  generalize h1 : decide ((ls.length : Int) < 1) = cc; cases cc
  · have h1' : 1 ≤ ls.length := by have := of_decide_eq_false h1; omega
    repeat (first | refine awp_seq ?_ | refine awp_region ?_ | refine awp_block ?_ | refine awp_skip ?_ | refine awp_scope ?_ | refine awp_label ?_ | refine q_scope_normal ?_ | refine q_scope_ret ?_ | refine q_scope_exit ?_ | refine awp_ret ?_ | refine awp_exit ?_ | refine awp_ck rfl ?_ | with_reducible refine ck_t ?_ | with_reducible refine ck_f ?_ | with_reducible refine ck_nt ?_ | with_reducible refine ck_nf ?_ | refine q_then_normal ?_ | refine q_then_ret ?_ | refine q_then_exit ?_ | refine q_block_normal ?_ | refine q_block_ret ?_ | refine q_block_exit ?_ | refine q_block_other rfl ?_ | refine a_q (add_step tabOk rfl rfl rfl rfl (by omega) (by omega)) rfl rfl rfl ?_ | refine a_q (sub_step tabOk rfl rfl rfl rfl (by omega) (by omega)) rfl rfl rfl ?_ | refine a_ax tabOk rfl rfl rfl rfl ?_ | refine a_skip rfl rfl rfl ?_ | refine aops_nil ?_ | refine a_store tabOk rfl rfl rfl rfl rfl rfl rfl rfl rfl rfl ?_ | refine a_q (build_step tabOk rfl rfl rfl) rfl rfl rfl ?_ | refine a_q (buildSlice_step tabOk rfl rfl) rfl rfl rfl ?_ | refine a_box rfl rfl rfl rfl rfl rfl rfl rfl rfl ?_ | refine a_new tabOk rfl rfl rfl rfl rfl rfl rfl rfl rfl ?_)
    generalize h2 : decide ((1000 : Int) < ls.length) = cc; cases cc
    · have h2' : ls.length ≤ 1000 := by have := of_decide_eq_false h2; omega
      have hC : PureC Try.prog 19 [dInts ls] (.p (.sl false ls.length (pInts (nats (rowF ls))))) := by
        have := row_c ls (by omega)
        rw [show dInts (nats (rowF ls)) = .p (.sl false ls.length (pInts (nats (rowF ls)))) by rw [dInts, nats_len, rowF_len]] at this
        exact this
      repeat (first | refine awp_seq ?_ | refine awp_region ?_ | refine awp_block ?_ | refine awp_skip ?_ | refine awp_scope ?_ | refine awp_label ?_ | refine q_scope_normal ?_ | refine q_scope_ret ?_ | refine q_scope_exit ?_ | refine awp_ret ?_ | refine awp_exit ?_ | refine awp_ck rfl ?_ | with_reducible refine ck_t ?_ | with_reducible refine ck_f ?_ | with_reducible refine ck_nt ?_ | with_reducible refine ck_nf ?_ | refine q_then_normal ?_ | refine q_then_ret ?_ | refine q_then_exit ?_ | refine q_block_normal ?_ | refine q_block_ret ?_ | refine q_block_exit ?_ | refine q_block_other rfl ?_ | refine a_q (add_step tabOk rfl rfl rfl rfl (by omega) (by omega)) rfl rfl rfl ?_ | refine a_q (sub_step tabOk rfl rfl rfl rfl (by omega) (by omega)) rfl rfl rfl ?_ | refine a_ax tabOk rfl rfl rfl rfl ?_ | refine a_skip rfl rfl rfl ?_ | refine aops_nil ?_ | refine a_store tabOk rfl rfl rfl rfl rfl rfl rfl rfl rfl rfl ?_ | refine a_q (build_step tabOk rfl rfl rfl) rfl rfl rfl ?_ | refine a_q (buildSlice_step tabOk rfl rfl) rfl rfl rfl ?_ | refine a_box rfl rfl rfl rfl rfl rfl rfl rfl rfl ?_ | refine a_new tabOk rfl rfl rfl rfl rfl rfl rfl rfl rfl ?_)
      refine a_q (call_step (hC) rfl (fun a w => Try.call19 a w) rfl) rfl rfl rfl ?_
      repeat (first | refine awp_seq ?_ | refine awp_region ?_ | refine awp_block ?_ | refine awp_skip ?_ | refine awp_scope ?_ | refine awp_label ?_ | refine q_scope_normal ?_ | refine q_scope_ret ?_ | refine q_scope_exit ?_ | refine awp_ret ?_ | refine awp_exit ?_ | refine awp_ck rfl ?_ | with_reducible refine ck_t ?_ | with_reducible refine ck_f ?_ | with_reducible refine ck_nt ?_ | with_reducible refine ck_nf ?_ | refine q_then_normal ?_ | refine q_then_ret ?_ | refine q_then_exit ?_ | refine q_block_normal ?_ | refine q_block_ret ?_ | refine q_block_exit ?_ | refine q_block_other rfl ?_ | refine a_q (add_step tabOk rfl rfl rfl rfl (by omega) (by omega)) rfl rfl rfl ?_ | refine a_q (sub_step tabOk rfl rfl rfl rfl (by omega) (by omega)) rfl rfl rfl ?_ | refine a_ax tabOk rfl rfl rfl rfl ?_ | refine a_skip rfl rfl rfl ?_ | refine aops_nil ?_ | refine a_store tabOk rfl rfl rfl rfl rfl rfl rfl rfl rfl rfl ?_ | refine a_q (build_step tabOk rfl rfl rfl) rfl rfl rfl ?_ | refine a_q (buildSlice_step tabOk rfl rfl) rfl rfl rfl ?_ | refine a_box rfl rfl rfl rfl rfl rfl rfl rfl rfl ?_ | refine a_new tabOk rfl rfl rfl rfl rfl rfl rfl rfl rfl ?_)
      refine awp_loop_ok (fun j : Nat => j ≤ ls.length ∧ ∀ i, i < j → goodAt ls i) (fun j => ⟨[(22, dI j), (21, dI ls.length), (20, .p (.sl false ls.length (pInts (nats (rowF ls))))), (3, .p (.sl false ls.length (pInts (nats (rowF ls))))), (1, .ptr 0 0)], [(0, [dInts ls])], []⟩) (fun j => ls.length - j) 0 ⟨Nat.zero_le _, fun i hi => by omega⟩ (drop_ghost (by (repeat (first | exact trivial | refine ⟨⟨rfl, rfl⟩, ?_⟩))) (by (repeat (first | exact trivial | refine ⟨⟨rfl, rfl⟩, ?_⟩))) (by (repeat (first | exact trivial | refine ⟨rfl, ?_⟩))) (by (repeat (first | exact trivial | refine ⟨rfl, ?_⟩)))) ?_
      rintro j ⟨hj, hgood⟩
      repeat (first | refine awp_seq ?_ | refine awp_region ?_ | refine awp_block ?_ | refine awp_skip ?_ | refine awp_scope ?_ | refine awp_label ?_ | refine q_scope_normal ?_ | refine q_scope_ret ?_ | refine q_scope_exit ?_ | refine awp_ret ?_ | refine awp_exit ?_ | refine awp_ck rfl ?_ | with_reducible refine ck_t ?_ | with_reducible refine ck_f ?_ | with_reducible refine ck_nt ?_ | with_reducible refine ck_nf ?_ | refine q_then_normal ?_ | refine q_then_ret ?_ | refine q_then_exit ?_ | refine q_block_normal ?_ | refine q_block_ret ?_ | refine q_block_exit ?_ | refine q_block_other rfl ?_ | refine a_q (add_step tabOk rfl rfl rfl rfl (by omega) (by omega)) rfl rfl rfl ?_ | refine a_q (sub_step tabOk rfl rfl rfl rfl (by omega) (by omega)) rfl rfl rfl ?_ | refine a_ax tabOk rfl rfl rfl rfl ?_ | refine a_skip rfl rfl rfl ?_ | refine aops_nil ?_ | refine a_store tabOk rfl rfl rfl rfl rfl rfl rfl rfl rfl rfl ?_ | refine a_q (build_step tabOk rfl rfl rfl) rfl rfl rfl ?_ | refine a_q (buildSlice_step tabOk rfl rfl) rfl rfl rfl ?_ | refine a_box rfl rfl rfl rfl rfl rfl rfl rfl rfl ?_ | refine a_new tabOk rfl rfl rfl rfl rfl rfl rfl rfl rfl ?_)
      refine ck_b (fun h3 => ?_) (fun h3 => ?_) <;> try rw [h3]
      · have h3' := of_decide_eq_true h3
        have hjl : j < ls.length := by omega
        obtain ⟨x, hx, hxl⟩ := rowF_at ls hjl
        have hx' : (nats (rowF ls))[(j : Int).toNat]? = some (x : Int) := by simp [nats, hx]
        have hlx : ls[(x : Int).toNat]? = some (labAt ls x) := by rw [Int.toNat_natCast]; exact labAt_get hxl
        repeat (first | refine awp_seq ?_ | refine awp_region ?_ | refine awp_block ?_ | refine awp_skip ?_ | refine awp_scope ?_ | refine awp_label ?_ | refine q_scope_normal ?_ | refine q_scope_ret ?_ | refine q_scope_exit ?_ | refine awp_ret ?_ | refine awp_exit ?_ | refine awp_ck rfl ?_ | with_reducible refine ck_t ?_ | with_reducible refine ck_f ?_ | with_reducible refine ck_nt ?_ | with_reducible refine ck_nf ?_ | refine q_then_normal ?_ | refine q_then_ret ?_ | refine q_then_exit ?_ | refine q_block_normal ?_ | refine q_block_ret ?_ | refine q_block_exit ?_ | refine q_block_other rfl ?_ | refine a_q (add_step tabOk rfl rfl rfl rfl (by omega) (by omega)) rfl rfl rfl ?_ | refine a_q (sub_step tabOk rfl rfl rfl rfl (by omega) (by omega)) rfl rfl rfl ?_ | refine a_ax tabOk rfl rfl rfl rfl ?_ | refine a_skip rfl rfl rfl ?_ | refine aops_nil ?_ | refine a_store tabOk rfl rfl rfl rfl rfl rfl rfl rfl rfl rfl ?_ | refine a_q (build_step tabOk rfl rfl rfl) rfl rfl rfl ?_ | refine a_q (buildSlice_step tabOk rfl rfl) rfl rfl rfl ?_ | refine a_box rfl rfl rfl rfl rfl rfl rfl rfl rfl ?_ | refine a_new tabOk rfl rfl rfl rfl rfl rfl rfl rfl rfl ?_)
        refine a_q (indexAddr_step tabOk [pI x] rfl rfl rfl rfl rfl rfl (by first | omega | (simp; done) | (simp; omega)) (by first | omega | (simp; done) | (simp; omega)) (by simp) (ints_idx hx')) rfl rfl rfl ?_
        repeat (first | refine awp_seq ?_ | refine awp_region ?_ | refine awp_block ?_ | refine awp_skip ?_ | refine awp_scope ?_ | refine awp_label ?_ | refine q_scope_normal ?_ | refine q_scope_ret ?_ | refine q_scope_exit ?_ | refine awp_ret ?_ | refine awp_exit ?_ | refine awp_ck rfl ?_ | with_reducible refine ck_t ?_ | with_reducible refine ck_f ?_ | with_reducible refine ck_nt ?_ | with_reducible refine ck_nf ?_ | refine q_then_normal ?_ | refine q_then_ret ?_ | refine q_then_exit ?_ | refine q_block_normal ?_ | refine q_block_ret ?_ | refine q_block_exit ?_ | refine q_block_other rfl ?_ | refine a_q (add_step tabOk rfl rfl rfl rfl (by omega) (by omega)) rfl rfl rfl ?_ | refine a_q (sub_step tabOk rfl rfl rfl rfl (by omega) (by omega)) rfl rfl rfl ?_ | refine a_ax tabOk rfl rfl rfl rfl ?_ | refine a_skip rfl rfl rfl ?_ | refine aops_nil ?_ | refine a_store tabOk rfl rfl rfl rfl rfl rfl rfl rfl rfl rfl ?_ | refine a_q (build_step tabOk rfl rfl rfl) rfl rfl rfl ?_ | refine a_q (buildSlice_step tabOk rfl rfl) rfl rfl rfl ?_ | refine a_box rfl rfl rfl rfl rfl rfl rfl rfl rfl ?_ | refine a_new tabOk rfl rfl rfl rfl rfl rfl rfl rfl rfl ?_)
        refine a_q (indexAddr_step tabOk [pI (labAt ls x)] rfl rfl rfl rfl rfl rfl (by first | omega | (simp; done) | (simp; omega)) (by first | omega | (simp; done) | (simp; omega)) (by simp) (ints_idx hlx)) rfl rfl rfl ?_
        repeat (first | refine awp_seq ?_ | refine awp_region ?_ | refine awp_block ?_ | refine awp_skip ?_ | refine awp_scope ?_ | refine awp_label ?_ | refine q_scope_normal ?_ | refine q_scope_ret ?_ | refine q_scope_exit ?_ | refine awp_ret ?_ | refine awp_exit ?_ | refine awp_ck rfl ?_ | with_reducible refine ck_t ?_ | with_reducible refine ck_f ?_ | with_reducible refine ck_nt ?_ | with_reducible refine ck_nf ?_ | refine q_then_normal ?_ | refine q_then_ret ?_ | refine q_then_exit ?_ | refine q_block_normal ?_ | refine q_block_ret ?_ | refine q_block_exit ?_ | refine q_block_other rfl ?_ | refine a_q (add_step tabOk rfl rfl rfl rfl (by omega) (by omega)) rfl rfl rfl ?_ | refine a_q (sub_step tabOk rfl rfl rfl rfl (by omega) (by omega)) rfl rfl rfl ?_ | refine a_ax tabOk rfl rfl rfl rfl ?_ | refine a_skip rfl rfl rfl ?_ | refine aops_nil ?_ | refine a_store tabOk rfl rfl rfl rfl rfl rfl rfl rfl rfl rfl ?_ | refine a_q (build_step tabOk rfl rfl rfl) rfl rfl rfl ?_ | refine a_q (buildSlice_step tabOk rfl rfl) rfl rfl rfl ?_ | refine a_box rfl rfl rfl rfl rfl rfl rfl rfl rfl ?_ | refine a_new tabOk rfl rfl rfl rfl rfl rfl rfl rfl rfl ?_)
        generalize h4 : decide (labAt ls x < 0) = cc; cases cc
        · repeat (first | refine awp_seq ?_ | refine awp_region ?_ | refine awp_block ?_ | refine awp_skip ?_ | refine awp_scope ?_ | refine awp_label ?_ | refine q_scope_normal ?_ | refine q_scope_ret ?_ | refine q_scope_exit ?_ | refine awp_ret ?_ | refine awp_exit ?_ | refine awp_ck rfl ?_ | with_reducible refine ck_t ?_ | with_reducible refine ck_f ?_ | with_reducible refine ck_nt ?_ | with_reducible refine ck_nf ?_ | refine q_then_normal ?_ | refine q_then_ret ?_ | refine q_then_exit ?_ | refine q_block_normal ?_ | refine q_block_ret ?_ | refine q_block_exit ?_ | refine q_block_other rfl ?_ | refine a_q (add_step tabOk rfl rfl rfl rfl (by omega) (by omega)) rfl rfl rfl ?_ | refine a_q (sub_step tabOk rfl rfl rfl rfl (by omega) (by omega)) rfl rfl rfl ?_ | refine a_ax tabOk rfl rfl rfl rfl ?_ | refine a_skip rfl rfl rfl ?_ | refine aops_nil ?_ | refine a_store tabOk rfl rfl rfl rfl rfl rfl rfl rfl rfl rfl ?_ | refine a_q (build_step tabOk rfl rfl rfl) rfl rfl rfl ?_ | refine a_q (buildSlice_step tabOk rfl rfl) rfl rfl rfl ?_ | refine a_box rfl rfl rfl rfl rfl rfl rfl rfl rfl ?_ | refine a_new tabOk rfl rfl rfl rfl rfl rfl rfl rfl rfl ?_)
          generalize h5 : decide ((1099511627776 : Int) < labAt ls x) = cc; cases cc
          · have h4' := of_decide_eq_false h4
            have h5' := of_decide_eq_false h5
            repeat (first | refine awp_seq ?_ | refine awp_region ?_ | refine awp_block ?_ | refine awp_skip ?_ | refine awp_scope ?_ | refine awp_label ?_ | refine q_scope_normal ?_ | refine q_scope_ret ?_ | refine q_scope_exit ?_ | refine awp_ret ?_ | refine awp_exit ?_ | refine awp_ck rfl ?_ | with_reducible refine ck_t ?_ | with_reducible refine ck_f ?_ | with_reducible refine ck_nt ?_ | with_reducible refine ck_nf ?_ | refine q_then_normal ?_ | refine q_then_ret ?_ | refine q_then_exit ?_ | refine q_block_normal ?_ | refine q_block_ret ?_ | refine q_block_exit ?_ | refine q_block_other rfl ?_ | refine a_q (add_step tabOk rfl rfl rfl rfl (by omega) (by omega)) rfl rfl rfl ?_ | refine a_q (sub_step tabOk rfl rfl rfl rfl (by omega) (by omega)) rfl rfl rfl ?_ | refine a_ax tabOk rfl rfl rfl rfl ?_ | refine a_skip rfl rfl rfl ?_ | refine aops_nil ?_ | refine a_store tabOk rfl rfl rfl rfl rfl rfl rfl rfl rfl rfl ?_ | refine a_q (build_step tabOk rfl rfl rfl) rfl rfl rfl ?_ | refine a_q (buildSlice_step tabOk rfl rfl) rfl rfl rfl ?_ | refine a_box rfl rfl rfl rfl rfl rfl rfl rfl rfl ?_ | refine a_new tabOk rfl rfl rfl rfl rfl rfl rfl rfl rfl ?_)
            refine awp_region_q [] rfl (by kernel_rfl) (by kernel_rfl) ?_
            repeat (first | refine r_q (add_step tabOk rfl rfl rfl rfl (by omega) (by omega)) rfl rfl ?_ | refine r_q (sub_step tabOk rfl rfl rfl rfl (by omega) (by omega)) rfl rfl ?_ | refine r_store tabOk rfl rfl rfl rfl rfl rfl rfl rfl rfl rfl rfl rfl ?_ | refine r_ax tabOk rfl rfl rfl ?_ | refine r_skip rfl rfl ?_ | refine r_nil ?_ | refine r_q (build_step tabOk rfl rfl rfl) rfl rfl ?_ | refine r_q (buildSlice_step tabOk rfl rfl) rfl rfl ?_ | refine r_box rfl rfl rfl rfl rfl rfl rfl rfl rfl ?_ | refine r_new tabOk rfl rfl rfl rfl rfl rfl rfl rfl rfl ?_)
            generalize h6 : decide ((0 : Int) < (j : Int)) = cc; cases cc
            · have h6' : j = 0 := by have := of_decide_eq_false h6; omega
              repeat (first | refine r_q (add_step tabOk rfl rfl rfl rfl (by omega) (by omega)) rfl rfl ?_ | refine r_q (sub_step tabOk rfl rfl rfl rfl (by omega) (by omega)) rfl rfl ?_ | refine r_store tabOk rfl rfl rfl rfl rfl rfl rfl rfl rfl rfl rfl rfl ?_ | refine r_ax tabOk rfl rfl rfl ?_ | refine r_skip rfl rfl ?_ | refine r_nil ?_ | refine r_q (build_step tabOk rfl rfl rfl) rfl rfl ?_ | refine r_q (buildSlice_step tabOk rfl rfl) rfl rfl ?_ | refine r_box rfl rfl rfl rfl rfl rfl rfl rfl rfl ?_ | refine r_new tabOk rfl rfl rfl rfl rfl rfl rfl rfl rfl ?_)
              repeat (first | refine awp_seq ?_ | refine awp_region ?_ | refine awp_block ?_ | refine awp_skip ?_ | refine awp_scope ?_ | refine awp_label ?_ | refine q_scope_normal ?_ | refine q_scope_ret ?_ | refine q_scope_exit ?_ | refine awp_ret ?_ | refine awp_exit ?_ | refine awp_ck rfl ?_ | with_reducible refine ck_t ?_ | with_reducible refine ck_f ?_ | with_reducible refine ck_nt ?_ | with_reducible refine ck_nf ?_ | refine q_then_normal ?_ | refine q_then_ret ?_ | refine q_then_exit ?_ | refine q_block_normal ?_ | refine q_block_ret ?_ | refine q_block_exit ?_ | refine q_block_other rfl ?_ | refine a_q (add_step tabOk rfl rfl rfl rfl (by omega) (by omega)) rfl rfl rfl ?_ | refine a_q (sub_step tabOk rfl rfl rfl rfl (by omega) (by omega)) rfl rfl rfl ?_ | refine a_ax tabOk rfl rfl rfl rfl ?_ | refine a_skip rfl rfl rfl ?_ | refine aops_nil ?_ | refine a_store tabOk rfl rfl rfl rfl rfl rfl rfl rfl rfl rfl ?_ | refine a_q (build_step tabOk rfl rfl rfl) rfl rfl rfl ?_ | refine a_q (buildSlice_step tabOk rfl rfl) rfl rfl rfl ?_ | refine a_box rfl rfl rfl rfl rfl rfl rfl rfl rfl ?_ | refine a_new tabOk rfl rfl rfl rfl rfl rfl rfl rfl rfl ?_)
              refine ⟨j + 1, ⟨by omega, fun i hi => ?_⟩, by omega, drop_ghost (by (repeat (first | exact trivial | refine ⟨⟨rfl, rfl⟩, ?_⟩))) (by (repeat (first | exact trivial | refine ⟨⟨rfl, rfl⟩, ?_⟩))) (by (repeat (first | exact trivial | refine ⟨rfl, ?_⟩))) (by (repeat (first | exact trivial | refine ⟨rfl, ?_⟩)))⟩
              by_cases e : i = j
              · subst e
                intro z hz
                rw [hx] at hz
                cases hz
                exact ⟨by omega, by unfold topL; omega, fun y h0 _ => by omega⟩
              · exact hgood i (by omega)
            · have h6' : 0 < j := by have := of_decide_eq_true h6; omega
              obtain ⟨y, hy, hyl⟩ := rowF_at ls (j := j - 1) (by omega)
              have hy' : (nats (rowF ls))[((j : Int) - 1).toNat]? = some (y : Int) := by
                rw [show ((j : Int) - 1).toNat = j - 1 by omega]; simp [nats, hy]
              have hly : ls[(y : Int).toNat]? = some (labAt ls y) := by rw [Int.toNat_natCast]; exact labAt_get hyl
              have hxy : x ≠ y := fun e => by
                subst e
                have a1 := (List.getElem?_eq_some_iff.1 hx)
                have a2 := (List.getElem?_eq_some_iff.1 hy)
                have := (List.pairwise_iff_getElem.1 (List.nodup_iff_pairwise_ne.1 (rowF_nodup ls))) (j - 1) j a2.1 a1.1 (by omega)
                exact this (a2.2.trans a1.2.symm)
              repeat (first | refine r_q (add_step tabOk rfl rfl rfl rfl (by omega) (by omega)) rfl rfl ?_ | refine r_q (sub_step tabOk rfl rfl rfl rfl (by omega) (by omega)) rfl rfl ?_ | refine r_store tabOk rfl rfl rfl rfl rfl rfl rfl rfl rfl rfl rfl rfl ?_ | refine r_ax tabOk rfl rfl rfl ?_ | refine r_skip rfl rfl ?_ | refine r_nil ?_ | refine r_q (build_step tabOk rfl rfl rfl) rfl rfl ?_ | refine r_q (buildSlice_step tabOk rfl rfl) rfl rfl ?_ | refine r_box rfl rfl rfl rfl rfl rfl rfl rfl rfl ?_ | refine r_new tabOk rfl rfl rfl rfl rfl rfl rfl rfl rfl ?_)
              refine r_q (indexAddr_step tabOk [pI y] rfl rfl rfl rfl rfl rfl (by first | omega | (simp; done) | (simp; omega)) (by first | omega | (simp; done) | (simp; omega)) (by simp) (ints_idx hy')) rfl rfl ?_
              repeat (first | refine r_q (add_step tabOk rfl rfl rfl rfl (by omega) (by omega)) rfl rfl ?_ | refine r_q (sub_step tabOk rfl rfl rfl rfl (by omega) (by omega)) rfl rfl ?_ | refine r_store tabOk rfl rfl rfl rfl rfl rfl rfl rfl rfl rfl rfl rfl ?_ | refine r_ax tabOk rfl rfl rfl ?_ | refine r_skip rfl rfl ?_ | refine r_nil ?_ | refine r_q (build_step tabOk rfl rfl rfl) rfl rfl ?_ | refine r_q (buildSlice_step tabOk rfl rfl) rfl rfl ?_ | refine r_box rfl rfl rfl rfl rfl rfl rfl rfl rfl ?_ | refine r_new tabOk rfl rfl rfl rfl rfl rfl rfl rfl rfl ?_)
              refine r_q (indexAddr_step tabOk [pI (labAt ls y)] rfl rfl rfl rfl rfl rfl (by first | omega | (simp; done) | (simp; omega)) (by first | omega | (simp; done) | (simp; omega)) (by simp) (ints_idx hly)) rfl rfl ?_
              repeat (first | refine r_q (add_step tabOk rfl rfl rfl rfl (by omega) (by omega)) rfl rfl ?_ | refine r_q (sub_step tabOk rfl rfl rfl rfl (by omega) (by omega)) rfl rfl ?_ | refine r_store tabOk rfl rfl rfl rfl rfl rfl rfl rfl rfl rfl rfl rfl ?_ | refine r_ax tabOk rfl rfl rfl ?_ | refine r_skip rfl rfl ?_ | refine r_nil ?_ | refine r_q (build_step tabOk rfl rfl rfl) rfl rfl ?_ | refine r_q (buildSlice_step tabOk rfl rfl) rfl rfl ?_ | refine r_box rfl rfl rfl rfl rfl rfl rfl rfl rfl ?_ | refine r_new tabOk rfl rfl rfl rfl rfl rfl rfl rfl rfl ?_)
              repeat (first | refine awp_seq ?_ | refine awp_region ?_ | refine awp_block ?_ | refine awp_skip ?_ | refine awp_scope ?_ | refine awp_label ?_ | refine q_scope_normal ?_ | refine q_scope_ret ?_ | refine q_scope_exit ?_ | refine awp_ret ?_ | refine awp_exit ?_ | refine awp_ck rfl ?_ | with_reducible refine ck_t ?_ | with_reducible refine ck_f ?_ | with_reducible refine ck_nt ?_ | with_reducible refine ck_nf ?_ | refine q_then_normal ?_ | refine q_then_ret ?_ | refine q_then_exit ?_ | refine q_block_normal ?_ | refine q_block_ret ?_ | refine q_block_exit ?_ | refine q_block_other rfl ?_ | refine a_q (add_step tabOk rfl rfl rfl rfl (by omega) (by omega)) rfl rfl rfl ?_ | refine a_q (sub_step tabOk rfl rfl rfl rfl (by omega) (by omega)) rfl rfl rfl ?_ | refine a_ax tabOk rfl rfl rfl rfl ?_ | refine a_skip rfl rfl rfl ?_ | refine aops_nil ?_ | refine a_store tabOk rfl rfl rfl rfl rfl rfl rfl rfl rfl rfl ?_ | refine a_q (build_step tabOk rfl rfl rfl) rfl rfl rfl ?_ | refine a_q (buildSlice_step tabOk rfl rfl) rfl rfl rfl ?_ | refine a_box rfl rfl rfl rfl rfl rfl rfl rfl rfl ?_ | refine a_new tabOk rfl rfl rfl rfl rfl rfl rfl rfl rfl ?_)
              generalize h7 : decide (labAt ls x = labAt ls y) = cc; cases cc
              · repeat (first | refine awp_seq ?_ | refine awp_region ?_ | refine awp_block ?_ | refine awp_skip ?_ | refine awp_scope ?_ | refine awp_label ?_ | refine q_scope_normal ?_ | refine q_scope_ret ?_ | refine q_scope_exit ?_ | refine awp_ret ?_ | refine awp_exit ?_ | refine awp_ck rfl ?_ | with_reducible refine ck_t ?_ | with_reducible refine ck_f ?_ | with_reducible refine ck_nt ?_ | with_reducible refine ck_nf ?_ | refine q_then_normal ?_ | refine q_then_ret ?_ | refine q_then_exit ?_ | refine q_block_normal ?_ | refine q_block_ret ?_ | refine q_block_exit ?_ | refine q_block_other rfl ?_ | refine a_q (add_step tabOk rfl rfl rfl rfl (by omega) (by omega)) rfl rfl rfl ?_ | refine a_q (sub_step tabOk rfl rfl rfl rfl (by omega) (by omega)) rfl rfl rfl ?_ | refine a_ax tabOk rfl rfl rfl rfl ?_ | refine a_skip rfl rfl rfl ?_ | refine aops_nil ?_ | refine a_store tabOk rfl rfl rfl rfl rfl rfl rfl rfl rfl rfl ?_ | refine a_q (build_step tabOk rfl rfl rfl) rfl rfl rfl ?_ | refine a_q (buildSlice_step tabOk rfl rfl) rfl rfl rfl ?_ | refine a_box rfl rfl rfl rfl rfl rfl rfl rfl rfl ?_ | refine a_new tabOk rfl rfl rfl rfl rfl rfl rfl rfl rfl ?_)
                have h7' := of_decide_eq_false h7
                refine ⟨j + 1, ⟨by omega, fun i hi => ?_⟩, by omega, drop_ghost (by (repeat (first | exact trivial | refine ⟨⟨rfl, rfl⟩, ?_⟩))) (by (repeat (first | exact trivial | refine ⟨⟨rfl, rfl⟩, ?_⟩))) (by (repeat (first | exact trivial | refine ⟨rfl, ?_⟩))) (by (repeat (first | exact trivial | refine ⟨rfl, ?_⟩)))⟩
                by_cases e : i = j
                · subst e
                  intro z hz
                  rw [hx] at hz
                  cases hz
                  refine ⟨by omega, by unfold topL; omega, fun u _ hu => ?_⟩
                  rw [hy] at hu
                  cases hu
                  exact h7'
                · exact hgood i (by omega)
              · repeat (first | refine awp_seq ?_ | refine awp_region ?_ | refine awp_block ?_ | refine awp_skip ?_ | refine awp_scope ?_ | refine awp_label ?_ | refine q_scope_normal ?_ | refine q_scope_ret ?_ | refine q_scope_exit ?_ | refine awp_ret ?_ | refine awp_exit ?_ | refine awp_ck rfl ?_ | with_reducible refine ck_t ?_ | with_reducible refine ck_f ?_ | with_reducible refine ck_nt ?_ | with_reducible refine ck_nf ?_ | refine q_then_normal ?_ | refine q_then_ret ?_ | refine q_then_exit ?_ | refine q_block_normal ?_ | refine q_block_ret ?_ | refine q_block_exit ?_ | refine q_block_other rfl ?_ | refine a_q (add_step tabOk rfl rfl rfl rfl (by omega) (by omega)) rfl rfl rfl ?_ | refine a_q (sub_step tabOk rfl rfl rfl rfl (by omega) (by omega)) rfl rfl rfl ?_ | refine a_ax tabOk rfl rfl rfl rfl ?_ | refine a_skip rfl rfl rfl ?_ | refine aops_nil ?_ | refine a_store tabOk rfl rfl rfl rfl rfl rfl rfl rfl rfl rfl ?_ | refine a_q (build_step tabOk rfl rfl rfl) rfl rfl rfl ?_ | refine a_q (buildSlice_step tabOk rfl rfl) rfl rfl rfl ?_ | refine a_box rfl rfl rfl rfl rfl rfl rfl rfl rfl ?_ | refine a_new tabOk rfl rfl rfl rfl rfl rfl rfl rfl rfl ?_)
                first | refine fin_ret rfl ?_ | refine fin_normal rfl ?_
                rw [right_twice hxl hyl hxy (of_decide_eq_true h7)]
          · repeat (first | refine awp_seq ?_ | refine awp_region ?_ | refine awp_block ?_ | refine awp_skip ?_ | refine awp_scope ?_ | refine awp_label ?_ | refine q_scope_normal ?_ | refine q_scope_ret ?_ | refine q_scope_exit ?_ | refine awp_ret ?_ | refine awp_exit ?_ | refine awp_ck rfl ?_ | with_reducible refine ck_t ?_ | with_reducible refine ck_f ?_ | with_reducible refine ck_nt ?_ | with_reducible refine ck_nf ?_ | refine q_then_normal ?_ | refine q_then_ret ?_ | refine q_then_exit ?_ | refine q_block_normal ?_ | refine q_block_ret ?_ | refine q_block_exit ?_ | refine q_block_other rfl ?_ | refine a_q (add_step tabOk rfl rfl rfl rfl (by omega) (by omega)) rfl rfl rfl ?_ | refine a_q (sub_step tabOk rfl rfl rfl rfl (by omega) (by omega)) rfl rfl rfl ?_ | refine a_ax tabOk rfl rfl rfl rfl ?_ | refine a_skip rfl rfl rfl ?_ | refine aops_nil ?_ | refine a_store tabOk rfl rfl rfl rfl rfl rfl rfl rfl rfl rfl ?_ | refine a_q (build_step tabOk rfl rfl rfl) rfl rfl rfl ?_ | refine a_q (buildSlice_step tabOk rfl rfl) rfl rfl rfl ?_ | refine a_box rfl rfl rfl rfl rfl rfl rfl rfl rfl ?_ | refine a_new tabOk rfl rfl rfl rfl rfl rfl rfl rfl rfl ?_)
            first | refine fin_ret rfl ?_ | refine fin_normal rfl ?_
            rw [right_range hxl (.inr (by unfold topL; exact of_decide_eq_true h5))]
        · repeat (first | refine awp_seq ?_ | refine awp_region ?_ | refine awp_block ?_ | refine awp_skip ?_ | refine awp_scope ?_ | refine awp_label ?_ | refine q_scope_normal ?_ | refine q_scope_ret ?_ | refine q_scope_exit ?_ | refine awp_ret ?_ | refine awp_exit ?_ | refine awp_ck rfl ?_ | with_reducible refine ck_t ?_ | with_reducible refine ck_f ?_ | with_reducible refine ck_nt ?_ | with_reducible refine ck_nf ?_ | refine q_then_normal ?_ | refine q_then_ret ?_ | refine q_then_exit ?_ | refine q_block_normal ?_ | refine q_block_ret ?_ | refine q_block_exit ?_ | refine q_block_other rfl ?_ | refine a_q (add_step tabOk rfl rfl rfl rfl (by omega) (by omega)) rfl rfl rfl ?_ | refine a_q (sub_step tabOk rfl rfl rfl rfl (by omega) (by omega)) rfl rfl rfl ?_ | refine a_ax tabOk rfl rfl rfl rfl ?_ | refine a_skip rfl rfl rfl ?_ | refine aops_nil ?_ | refine a_store tabOk rfl rfl rfl rfl rfl rfl rfl rfl rfl rfl ?_ | refine a_q (build_step tabOk rfl rfl rfl) rfl rfl rfl ?_ | refine a_q (buildSlice_step tabOk rfl rfl) rfl rfl rfl ?_ | refine a_box rfl rfl rfl rfl rfl rfl rfl rfl rfl ?_ | refine a_new tabOk rfl rfl rfl rfl rfl rfl rfl rfl rfl ?_)
          first | refine fin_ret rfl ?_ | refine fin_normal rfl ?_
          rw [right_range hxl (.inl (of_decide_eq_true h4))]
      · have hjl : j = ls.length := by have := of_decide_eq_false h3; omega
        subst hjl
        repeat (first | refine awp_seq ?_ | refine awp_region ?_ | refine awp_block ?_ | refine awp_skip ?_ | refine awp_scope ?_ | refine awp_label ?_ | refine q_scope_normal ?_ | refine q_scope_ret ?_ | refine q_scope_exit ?_ | refine awp_ret ?_ | refine awp_exit ?_ | refine awp_ck rfl ?_ | with_reducible refine ck_t ?_ | with_reducible refine ck_f ?_ | with_reducible refine ck_nt ?_ | with_reducible refine ck_nf ?_ | refine q_then_normal ?_ | refine q_then_ret ?_ | refine q_then_exit ?_ | refine q_block_normal ?_ | refine q_block_ret ?_ | refine q_block_exit ?_ | refine q_block_other rfl ?_ | refine a_q (add_step tabOk rfl rfl rfl rfl (by omega) (by omega)) rfl rfl rfl ?_ | refine a_q (sub_step tabOk rfl rfl rfl rfl (by omega) (by omega)) rfl rfl rfl ?_ | refine a_ax tabOk rfl rfl rfl rfl ?_ | refine a_skip rfl rfl rfl ?_ | refine aops_nil ?_ | refine a_store tabOk rfl rfl rfl rfl rfl rfl rfl rfl rfl rfl ?_ | refine a_q (build_step tabOk rfl rfl rfl) rfl rfl rfl ?_ | refine a_q (buildSlice_step tabOk rfl rfl) rfl rfl rfl ?_ | refine a_box rfl rfl rfl rfl rfl rfl rfl rfl rfl ?_ | refine a_new tabOk rfl rfl rfl rfl rfl rfl rfl rfl rfl ?_)
        first | refine fin_ret rfl ?_ | refine fin_normal rfl ?_
        rw [right_good h1' h2' hgood]
    · repeat (first | refine awp_seq ?_ | refine awp_region ?_ | refine awp_block ?_ | refine awp_skip ?_ | refine awp_scope ?_ | refine awp_label ?_ | refine q_scope_normal ?_ | refine q_scope_ret ?_ | refine q_scope_exit ?_ | refine awp_ret ?_ | refine awp_exit ?_ | refine awp_ck rfl ?_ | with_reducible refine ck_t ?_ | with_reducible refine ck_f ?_ | with_reducible refine ck_nt ?_ | with_reducible refine ck_nf ?_ | refine q_then_normal ?_ | refine q_then_ret ?_ | refine q_then_exit ?_ | refine q_block_normal ?_ | refine q_block_ret ?_ | refine q_block_exit ?_ | refine q_block_other rfl ?_ | refine a_q (add_step tabOk rfl rfl rfl rfl (by omega) (by omega)) rfl rfl rfl ?_ | refine a_q (sub_step tabOk rfl rfl rfl rfl (by omega) (by omega)) rfl rfl rfl ?_ | refine a_ax tabOk rfl rfl rfl rfl ?_ | refine a_skip rfl rfl rfl ?_ | refine aops_nil ?_ | refine a_store tabOk rfl rfl rfl rfl rfl rfl rfl rfl rfl rfl ?_ | refine a_q (build_step tabOk rfl rfl rfl) rfl rfl rfl ?_ | refine a_q (buildSlice_step tabOk rfl rfl) rfl rfl rfl ?_ | refine a_box rfl rfl rfl rfl rfl rfl rfl rfl rfl ?_ | refine a_new tabOk rfl rfl rfl rfl rfl rfl rfl rfl rfl ?_)
      first | refine fin_ret rfl ?_ | refine fin_normal rfl ?_
      have := of_decide_eq_true h2
      rw [rightB, show decide (ls.length ≤ 1000) = false from decide_eq_false (by omega)]; simp
  · repeat (first | refine awp_seq ?_ | refine awp_region ?_ | refine awp_block ?_ | refine awp_skip ?_ | refine awp_scope ?_ | refine awp_label ?_ | refine q_scope_normal ?_ | refine q_scope_ret ?_ | refine q_scope_exit ?_ | refine awp_ret ?_ | refine awp_exit ?_ | refine awp_ck rfl ?_ | with_reducible refine ck_t ?_ | with_reducible refine ck_f ?_ | with_reducible refine ck_nt ?_ | with_reducible refine ck_nf ?_ | refine q_then_normal ?_ | refine q_then_ret ?_ | refine q_then_exit ?_ | refine q_block_normal ?_ | refine q_block_ret ?_ | refine q_block_exit ?_ | refine q_block_other rfl ?_ | refine a_q (add_step tabOk rfl rfl rfl rfl (by omega) (by omega)) rfl rfl rfl ?_ | refine a_q (sub_step tabOk rfl rfl rfl rfl (by omega) (by omega)) rfl rfl rfl ?_ | refine a_ax tabOk rfl rfl rfl rfl ?_ | refine a_skip rfl rfl rfl ?_ | refine aops_nil ?_ | refine a_store tabOk rfl rfl rfl rfl rfl rfl rfl rfl rfl rfl ?_ | refine a_q (build_step tabOk rfl rfl rfl) rfl rfl rfl ?_ | refine a_q (buildSlice_step tabOk rfl rfl) rfl rfl rfl ?_ | refine a_box rfl rfl rfl rfl rfl rfl rfl rfl rfl ?_ | refine a_new tabOk rfl rfl rfl rfl rfl rfl rfl rfl rfl ?_)
    first | refine fin_ret rfl ?_ | refine fin_normal rfl ?_
    have := of_decide_eq_true h1
    rw [rightB, show decide (1 ≤ ls.length) = false from decide_eq_false (by omega)]; simp
end Go.Proofs.YtcjooalmhppkiaaRRRR
