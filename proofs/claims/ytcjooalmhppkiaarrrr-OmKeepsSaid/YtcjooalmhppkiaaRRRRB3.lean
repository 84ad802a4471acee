/- The row of labels: its walk. -/
import Derived.Test.YtcjooalmhppkiaaRRRRB2
import Derived.Test.YtcjooalmhppkiaaRRRRTab
namespace Go.Proofs.YtcjooalmhppkiaaRRRR
open Go.RowKit
set_option maxRecDepth 100000

def nats (xs : List Nat) : List Int := xs.map Int.ofNat
theorem nats_len (xs : List Nat) : (nats xs).length = xs.length := by simp [nats]
/-- Numbers from 0 on, and then zeros. -/
def fillF (n i : Nat) : List Dt := (List.range i).map (fun j => dI (j : Nat)) ++ List.replicate (n - i) (dI 0)
theorem fillF_len {n i : Nat} (h : i ≤ n) : (fillF n i).length = n := by simp [fillF]; omega
theorem fillF_set {n i : Nat} (h : i < n) : (fillF n i).set i (dI (i : Nat)) = fillF n (i + 1) := by
  unfold fillF
  rw [List.set_append, if_neg (by simp), List.range_succ, List.map_append, List.append_assoc]
  congr 1
  simp only [List.length_map, List.length_range, Nat.sub_self]
  rw [show n - i = (n - (i + 1)) + 1 by omega, List.replicate_succ]
  rfl
theorem fillF_plain (n i : Nat) : PlainC (fillF n i) := by
  intro B G
  have : ∀ l : List Dt, (∀ d ∈ l, d.ok B G = true) → Dt.ok.oks B G l = true := by
    intro l
    induction l with
    | nil => intro _; rfl
    | cons d l ih => intro h; simp only [Dt.ok.oks, Bool.and_eq_true]; exact ⟨h d List.mem_cons_self, ih fun e he => h e (List.mem_cons_of_mem _ he)⟩
  refine this _ fun d hd => ?_
  simp only [fillF, List.mem_append, List.mem_map, List.mem_replicate] at hd
  rcases hd with ⟨j, _, rfl⟩ | ⟨_, rfl⟩ <;> rfl
theorem fillF_get {n j : Nat} (h : j < n) : (fillF n n)[j]? = some (dI (j : Nat)) := by
  unfold fillF
  rw [List.getElem?_append_left (by simpa using h)]
  simp [h]
theorem rowF_len (ls : List Int) : (rowF ls).length = ls.length := by
  unfold rowF
  split
  · rename_i h; simp [pdqI_size]
  · simp; omega
theorem rowF_enc (ls : List Int) (h : 0 < ls.length) : (pdqI ls h).toList.map encI = (nats (rowF ls)).map fun x => Value.int .i64 x := by
  unfold rowF nats
  rw [dif_pos h, List.map_map, List.map_map]
  rfl
theorem ints_lf (l : List Int) : ∀ x ∈ pInts l, x.lf = true := by
  intro x hx
  simp only [pInts, List.mem_map] at hx
  obtain ⟨i, _, rfl⟩ := hx
  rfl
theorem ints_reps (e : Env) : ∀ l : List Int, DReps e (l.map fun x => Value.int .i64 x) ((pInts l).map Dt.p)
  | [] => DReps.nil e
  | _ :: l => DReps.cons (.p (.raw _)) (ints_reps e l)
theorem plain_ints (l : List Int) : PlainC ((pInts l).map Dt.p) := by
  have := plain_oks (pInts l) 0
  simpa using this

set_option maxHeartbeats 4000000 in
theorem row_c (ls : List Int) (hl : ls.length ≤ 1000000) : PureC Try.prog 19 [dInts ls] (dInts (nats (rowF ls))) := by
  refine pure_fin tabOk Try.func19 rfl Try.ntmps19 rfl rfl rfl fun w cl => ?_
  repeat (first | refine awp_seq ?_ | refine awp_region ?_ | refine awp_block ?_ | refine awp_skip ?_ | refine awp_scope ?_ | refine awp_label ?_ | refine q_scope_normal ?_ | refine q_scope_ret ?_ | refine q_scope_exit ?_ | refine awp_ret ?_ | refine awp_exit ?_ | refine awp_ck rfl ?_ | with_reducible refine ck_t ?_ | with_reducible refine ck_f ?_ | with_reducible refine ck_nt ?_ | with_reducible refine ck_nf ?_ | refine q_then_normal ?_ | refine q_then_ret ?_ | refine q_then_exit ?_ | refine q_block_normal ?_ | refine q_block_ret ?_ | refine q_block_exit ?_ | refine q_block_other rfl ?_ | refine a_q (add_step tabOk rfl rfl rfl rfl (by omega) (by omega)) rfl rfl rfl ?_ | refine a_q (sub_step tabOk rfl rfl rfl rfl (by omega) (by omega)) rfl rfl rfl ?_ | refine a_ax tabOk rfl rfl rfl rfl ?_ | refine a_skip rfl rfl rfl ?_ | refine aops_nil ?_ | refine a_store tabOk rfl rfl rfl rfl rfl rfl rfl rfl rfl rfl ?_ | refine a_q (build_step tabOk rfl rfl rfl) rfl rfl rfl ?_ | refine a_q (buildSlice_step tabOk rfl rfl) rfl rfl rfl ?_ | refine a_box rfl rfl rfl rfl rfl rfl rfl rfl rfl ?_ | refine a_new tabOk rfl rfl rfl rfl rfl rfl rfl rfl rfl ?_)
  refine a_b (makeA_step tabOk 1 (c := ls.length) rfl rfl rfl rfl rfl rfl rfl rfl rfl (by show _ * 8 ≤ _; omega) (by unfold maxLen; omega)) rfl rfl rfl rfl ?_
  have hz : List.replicate ls.length (constLeaf (Value.int IntKind.i64 0)) = fillF ls.length 0 := rfl
  rw [show List.replicate ls.length (constLeaf _) = fillF ls.length 0 from rfl]
  repeat (first | refine awp_seq ?_ | refine awp_region ?_ | refine awp_block ?_ | refine awp_skip ?_ | refine awp_scope ?_ | refine awp_label ?_ | refine q_scope_normal ?_ | refine q_scope_ret ?_ | refine q_scope_exit ?_ | refine awp_ret ?_ | refine awp_exit ?_ | refine awp_ck rfl ?_ | with_reducible refine ck_t ?_ | with_reducible refine ck_f ?_ | with_reducible refine ck_nt ?_ | with_reducible refine ck_nf ?_ | refine q_then_normal ?_ | refine q_then_ret ?_ | refine q_then_exit ?_ | refine q_block_normal ?_ | refine q_block_ret ?_ | refine q_block_exit ?_ | refine q_block_other rfl ?_ | refine a_q (add_step tabOk rfl rfl rfl rfl (by omega) (by omega)) rfl rfl rfl ?_ | refine a_q (sub_step tabOk rfl rfl rfl rfl (by omega) (by omega)) rfl rfl rfl ?_ | refine a_ax tabOk rfl rfl rfl rfl ?_ | refine a_skip rfl rfl rfl ?_ | refine aops_nil ?_ | refine a_store tabOk rfl rfl rfl rfl rfl rfl rfl rfl rfl rfl ?_ | refine a_q (build_step tabOk rfl rfl rfl) rfl rfl rfl ?_ | refine a_q (buildSlice_step tabOk rfl rfl) rfl rfl rfl ?_ | refine a_box rfl rfl rfl rfl rfl rfl rfl rfl rfl ?_ | refine a_new tabOk rfl rfl rfl rfl rfl rfl rfl rfl rfl ?_)
  refine awp_loop_ok (fun i : Nat => i ≤ ls.length) (fun i => ⟨[(10, dI i), (9, dI ls.length), (3, .arr 1 0 ls.length ls.length), (1, .ptr 0 0)], [(1, fillF ls.length i), (0, [dInts ls])], []⟩) (fun i => ls.length - i) 0 (Nat.zero_le _) (drop_ghost (by (repeat (first | exact trivial | refine ⟨⟨rfl, rfl⟩, ?_⟩))) (by (repeat (first | exact trivial | refine ⟨⟨rfl, fillF_plain _ _ _ _⟩, ?_⟩ | refine ⟨⟨rfl, rfl⟩, ?_⟩))) (by (repeat (first | exact trivial | refine ⟨rfl, ?_⟩))) (by (repeat (first | exact trivial | refine ⟨rfl, ?_⟩)))) ?_
  intro i hi
  repeat (first | refine awp_seq ?_ | refine awp_region ?_ | refine awp_block ?_ | refine awp_skip ?_ | refine awp_scope ?_ | refine awp_label ?_ | refine q_scope_normal ?_ | refine q_scope_ret ?_ | refine q_scope_exit ?_ | refine awp_ret ?_ | refine awp_exit ?_ | refine awp_ck rfl ?_ | with_reducible refine ck_t ?_ | with_reducible refine ck_f ?_ | with_reducible refine ck_nt ?_ | with_reducible refine ck_nf ?_ | refine q_then_normal ?_ | refine q_then_ret ?_ | refine q_then_exit ?_ | refine q_block_normal ?_ | refine q_block_ret ?_ | refine q_block_exit ?_ | refine q_block_other rfl ?_ | refine a_q (add_step tabOk rfl rfl rfl rfl (by omega) (by omega)) rfl rfl rfl ?_ | refine a_q (sub_step tabOk rfl rfl rfl rfl (by omega) (by omega)) rfl rfl rfl ?_ | refine a_ax tabOk rfl rfl rfl rfl ?_ | refine a_skip rfl rfl rfl ?_ | refine aops_nil ?_ | refine a_store tabOk rfl rfl rfl rfl rfl rfl rfl rfl rfl rfl ?_ | refine a_q (build_step tabOk rfl rfl rfl) rfl rfl rfl ?_ | refine a_q (buildSlice_step tabOk rfl rfl) rfl rfl rfl ?_ | refine a_box rfl rfl rfl rfl rfl rfl rfl rfl rfl ?_ | refine a_new tabOk rfl rfl rfl rfl rfl rfl rfl rfl rfl ?_)
  refine ck_b (fun h1 => ?_) (fun h1 => ?_) <;> try rw [h1]
  · have hlt := of_decide_eq_true h1
    repeat (first | refine awp_seq ?_ | refine awp_region ?_ | refine awp_block ?_ | refine awp_skip ?_ | refine awp_scope ?_ | refine awp_label ?_ | refine q_scope_normal ?_ | refine q_scope_ret ?_ | refine q_scope_exit ?_ | refine awp_ret ?_ | refine awp_exit ?_ | refine awp_ck rfl ?_ | with_reducible refine ck_t ?_ | with_reducible refine ck_f ?_ | with_reducible refine ck_nt ?_ | with_reducible refine ck_nf ?_ | refine q_then_normal ?_ | refine q_then_ret ?_ | refine q_then_exit ?_ | refine q_block_normal ?_ | refine q_block_ret ?_ | refine q_block_exit ?_ | refine q_block_other rfl ?_ | refine a_q (add_step tabOk rfl rfl rfl rfl (by omega) (by omega)) rfl rfl rfl ?_ | refine a_q (sub_step tabOk rfl rfl rfl rfl (by omega) (by omega)) rfl rfl rfl ?_ | refine a_ax tabOk rfl rfl rfl rfl ?_ | refine a_skip rfl rfl rfl ?_ | refine aops_nil ?_ | refine a_store tabOk rfl rfl rfl rfl rfl rfl rfl rfl rfl rfl ?_ | refine a_q (build_step tabOk rfl rfl rfl) rfl rfl rfl ?_ | refine a_q (buildSlice_step tabOk rfl rfl) rfl rfl rfl ?_ | refine a_box rfl rfl rfl rfl rfl rfl rfl rfl rfl ?_ | refine a_new tabOk rfl rfl rfl rfl rfl rfl rfl rfl rfl ?_)
    refine a_q (indexAddrA_step (p := i) tabOk rfl rfl rfl rfl rfl (by omega) (by omega) (by show i = (i : Int).toNat * 1; omega)) rfl rfl rfl ?_
    refine a_storeAt tabOk rfl rfl rfl rfl rfl rfl rfl rfl rfl (by rw [fillF_len hi]; omega) ?_
    rw [show (fillF ls.length i).set i _ = fillF ls.length (i + 1) from fillF_set (by omega)]
    repeat (first | refine awp_seq ?_ | refine awp_region ?_ | refine awp_block ?_ | refine awp_skip ?_ | refine awp_scope ?_ | refine awp_label ?_ | refine q_scope_normal ?_ | refine q_scope_ret ?_ | refine q_scope_exit ?_ | refine awp_ret ?_ | refine awp_exit ?_ | refine awp_ck rfl ?_ | with_reducible refine ck_t ?_ | with_reducible refine ck_f ?_ | with_reducible refine ck_nt ?_ | with_reducible refine ck_nf ?_ | refine q_then_normal ?_ | refine q_then_ret ?_ | refine q_then_exit ?_ | refine q_block_normal ?_ | refine q_block_ret ?_ | refine q_block_exit ?_ | refine q_block_other rfl ?_ | refine a_q (add_step tabOk rfl rfl rfl rfl (by omega) (by omega)) rfl rfl rfl ?_ | refine a_q (sub_step tabOk rfl rfl rfl rfl (by omega) (by omega)) rfl rfl rfl ?_ | refine a_ax tabOk rfl rfl rfl rfl ?_ | refine a_skip rfl rfl rfl ?_ | refine aops_nil ?_ | refine a_store tabOk rfl rfl rfl rfl rfl rfl rfl rfl rfl rfl ?_ | refine a_q (build_step tabOk rfl rfl rfl) rfl rfl rfl ?_ | refine a_q (buildSlice_step tabOk rfl rfl) rfl rfl rfl ?_ | refine a_box rfl rfl rfl rfl rfl rfl rfl rfl rfl ?_ | refine a_new tabOk rfl rfl rfl rfl rfl rfl rfl rfl rfl ?_)
    exact ⟨i + 1, by omega, by omega, drop_ghost (by (repeat (first | exact trivial | refine ⟨⟨rfl, rfl⟩, ?_⟩))) (by (repeat (first | exact trivial | refine ⟨⟨rfl, fillF_plain _ _ _ _⟩, ?_⟩ | refine ⟨⟨rfl, rfl⟩, ?_⟩))) (by (repeat (first | exact trivial | refine ⟨rfl, ?_⟩))) (by (repeat (first | exact trivial | refine ⟨rfl, ?_⟩)))⟩
  · have hil : i = ls.length := by have := of_decide_eq_false h1; omega
    subst hil
    repeat (first | refine awp_seq ?_ | refine awp_region ?_ | refine awp_block ?_ | refine awp_skip ?_ | refine awp_scope ?_ | refine awp_label ?_ | refine q_scope_normal ?_ | refine q_scope_ret ?_ | refine q_scope_exit ?_ | refine awp_ret ?_ | refine awp_exit ?_ | refine awp_ck rfl ?_ | with_reducible refine ck_t ?_ | with_reducible refine ck_f ?_ | with_reducible refine ck_nt ?_ | with_reducible refine ck_nf ?_ | refine q_then_normal ?_ | refine q_then_ret ?_ | refine q_then_exit ?_ | refine q_block_normal ?_ | refine q_block_ret ?_ | refine q_block_exit ?_ | refine q_block_other rfl ?_ | refine a_q (add_step tabOk rfl rfl rfl rfl (by omega) (by omega)) rfl rfl rfl ?_ | refine a_q (sub_step tabOk rfl rfl rfl rfl (by omega) (by omega)) rfl rfl rfl ?_ | refine a_ax tabOk rfl rfl rfl rfl ?_ | refine a_skip rfl rfl rfl ?_ | refine aops_nil ?_ | refine a_store tabOk rfl rfl rfl rfl rfl rfl rfl rfl rfl rfl ?_ | refine a_q (build_step tabOk rfl rfl rfl) rfl rfl rfl ?_ | refine a_q (buildSlice_step tabOk rfl rfl) rfl rfl rfl ?_ | refine a_box rfl rfl rfl rfl rfl rfl rfl rfl rfl ?_ | refine a_new tabOk rfl rfl rfl rfl rfl rfl rfl rfl rfl ?_)
    refine a_callRow (nm := 1) ((pInts (nats (rowF ls))).map Dt.p) rfl (fun a w => Try.call21 a w) rfl rfl rfl rfl ?_ ?_
    · intro a e k vs el hc hbx hk hr
      have h18 := hc.slots 18 _ rfl
      have h19 := hc.slots 19 _ rfl
      obtain ⟨kb, vb, elb, hb1, hb2, hb3⟩ := hc.boxes 0 _ rfl
      show Calls Try.prog 21 #[slot a 18, slot a 19] e.w _
      generalize slot a 18 = v18 at h18
      generalize slot a 19 = v19 at h19
      cases h18 with
      | arr hb18 =>
        rw [hbx] at hb18
        cases hb18
        cases h19 with
        | fn hl1 hl2 q1 q2 =>
          rename_i us ws
          have hus : us = [] := List.eq_nil_of_length_eq_zero hl1
          subst hus
          obtain ⟨wv, hwv, hwd⟩ := DReps.get ⟨hl2, q2⟩ (i := 0) (d := .ptr 0 0) rfl
          have hws : ws = [wv] := by
            match ws, hl2, hwv with
            | [x], _, h => simp at h; rw [h]
          subst hws
          cases hwd with
          | ptr hkb =>
            rw [hb1] at hkb
            cases hkb
            have hvl : vs.length = ls.length := by rw [hr.1, fillF_len (Nat.le_refl _)]
            by_cases hn : 0 < ls.length
            · obtain ⟨vl, vb', rfl, hvl1, hvl2⟩ := hb3.uncons
              have hvb : vb' = [] := List.eq_nil_of_length_eq_zero hvl2.1
              subst hvb
              cases hvl1 with
              | p hp =>
                obtain ⟨A, cap, rfl, _, _, _, _, hA⟩ := sl_open hp
                rcases hA with hA | ⟨lb, lo, rfl, f, hf⟩
                · have : (pInts ls).length = 0 := by rw [hA]; rfl
                  rw [pInts_len] at this; omega
                · have hlab : ∀ j, j < ls.length → e.claimed lb (lo + j) ∧ e.w.cell? ⟨lb, lo + j, none⟩ = some (.int .i64 (labAt ls j)) := fun j hj => by
                    have hg : ls[j]? = some (labAt ls j) := by simp [labAt, hj]
                    obtain ⟨g1, g2, _, g4⟩ := hf j _ (pInts_get hg)
                    have g5 := raw_eq (.p g4)
                    rw [g5] at g2
                    exact ⟨g1, g2⟩
                  have hne2 : lb ≠ k := fun e' => by
                    have h0 := (hlab 0 hn).1 0 (by rw [e']; exact (hc.env.bx 1 k hbx).2.2.1)
                    omega
                  have hne1 : kb ≠ k := fun e' => by
                    have := hc.env.inj 0 1 k (by rw [← e']; exact hb1) hbx
                    omega
                  have hvs : ∀ j, j < ls.length → vs[j]? = some (.int .i64 (j : Nat)) := fun j hj => by
                    obtain ⟨v, g1, g2⟩ := hr.get (fillF_get hj)
                    rw [g1, raw_eq g2]
                  have hbox : e.w.cell? ⟨kb, 0, none⟩ = some (.slice (some ⟨lb, lo, none⟩) ls.length cap) := by rw [cell_of_row e.w kb 0 _ elb (0, 0) hb2]; rfl
                  refine (sort_any ls hn (by omega) k ls.length kb lb lo cap e.w vs el hk hvs hne1 hne2 hbox (fun j hj => (hlab j hj).2)).mono fun r w' ⟨h1, h2⟩ => ⟨h1, _, h2, ?_⟩
                  rw [List.drop_of_length_le (by omega), List.append_nil, rowF_enc]
                  exact ints_reps e _
            · have hl0 : ls = [] := List.eq_nil_of_length_eq_zero (by omega)
              subst hl0
              have hv0 : vs = [] := List.eq_nil_of_length_eq_zero hvl
              subst hv0
              refine (show Calls Try.prog 21 _ _ _ from AnyF.slices_SortFunc_none { sortL with } (some ⟨k, 0, none⟩) 0 (.func (.func 22) #[] #[.pointer (some ⟨kb, 0, none⟩)]) e.w).mono fun r w' ⟨h1, h2⟩ => ⟨h1, [], ?_, ?_⟩
              · rw [h2]; exact ⟨rfl, rfl, rfl, Nat.le_refl _, fun _ _ _ => rfl, hk⟩
              · have : rowF [] = [] := by unfold rowF; rw [dif_neg (by simp)]
                rw [this]; exact DReps.nil e
    · refine aops_nil ?_
      repeat (first | refine awp_seq ?_ | refine awp_region ?_ | refine awp_block ?_ | refine awp_skip ?_ | refine awp_scope ?_ | refine awp_label ?_ | refine q_scope_normal ?_ | refine q_scope_ret ?_ | refine q_scope_exit ?_ | refine awp_ret ?_ | refine awp_exit ?_ | refine awp_ck rfl ?_ | with_reducible refine ck_t ?_ | with_reducible refine ck_f ?_ | with_reducible refine ck_nt ?_ | with_reducible refine ck_nf ?_ | refine q_then_normal ?_ | refine q_then_ret ?_ | refine q_then_exit ?_ | refine q_block_normal ?_ | refine q_block_ret ?_ | refine q_block_exit ?_ | refine q_block_other rfl ?_)
      refine a_ax tabOk rfl rfl rfl rfl ?_
      refine a_ax tabOk rfl rfl rfl rfl ?_
      have hrl : (pInts (nats (rowF ls))).length = ls.length := by rw [pInts_len, nats_len, rowF_len]
      refine aops_ghost (freeze_ghost 2 1 (pInts (nats (rowF ls))) rfl rfl rfl rfl (by rw [List.length_map]; exact hrl) (Nat.le_refl _) hrl (by rw [List.take_of_length_le (by rw [List.length_map]; omega)]) (by unfold maxLen; omega) (ints_lf _)) ?_
      repeat (first | refine awp_seq ?_ | refine awp_region ?_ | refine awp_block ?_ | refine awp_skip ?_ | refine awp_scope ?_ | refine awp_label ?_ | refine q_scope_normal ?_ | refine q_scope_ret ?_ | refine q_scope_exit ?_ | refine awp_ret ?_ | refine awp_exit ?_ | refine awp_ck rfl ?_ | with_reducible refine ck_t ?_ | with_reducible refine ck_f ?_ | with_reducible refine ck_nt ?_ | with_reducible refine ck_nf ?_ | refine q_then_normal ?_ | refine q_then_ret ?_ | refine q_then_exit ?_ | refine q_block_normal ?_ | refine q_block_ret ?_ | refine q_block_exit ?_ | refine q_block_other rfl ?_ | refine a_q (add_step tabOk rfl rfl rfl rfl (by omega) (by omega)) rfl rfl rfl ?_ | refine a_q (sub_step tabOk rfl rfl rfl rfl (by omega) (by omega)) rfl rfl rfl ?_ | refine a_ax tabOk rfl rfl rfl rfl ?_ | refine a_skip rfl rfl rfl ?_ | refine aops_nil ?_ | refine a_store tabOk rfl rfl rfl rfl rfl rfl rfl rfl rfl rfl ?_ | refine a_q (build_step tabOk rfl rfl rfl) rfl rfl rfl ?_ | refine a_q (buildSlice_step tabOk rfl rfl) rfl rfl rfl ?_ | refine a_box rfl rfl rfl rfl rfl rfl rfl rfl rfl ?_ | refine a_new tabOk rfl rfl rfl rfl rfl rfl rfl rfl rfl ?_)
      first | refine fin_ret rfl ?_ | refine fin_normal rfl ?_
      rw [dInts, nats_len, rowF_len]
end Go.Proofs.YtcjooalmhppkiaaRRRR
