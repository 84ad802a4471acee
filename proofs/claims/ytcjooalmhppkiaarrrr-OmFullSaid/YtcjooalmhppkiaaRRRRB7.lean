/- The row of labels that lie in a row of our own: its walk. -/
import Derived.Test.YtcjooalmhppkiaaRRRRB6
namespace Go.Proofs.YtcjooalmhppkiaaRRRR
open Go.RowKit
set_option maxRecDepth 100000

theorem cut_both (nm : Nat) (s : List (Nat × Dt)) (b : List (Nat × List Dt)) : cutSK (notN nm) s (fun s' => cutBK (Nat.beq nm) (notN nm) b (fun b' => some (s', b'))) = some (cutS (notN nm) s, cutB (Nat.beq nm) (notN nm) b) := by rw [cutSK_eq, cutBK_eq]
theorem cutC_plain {cs : List Dt} (h : PlainC cs) {B : Nat → Bool} : cutC B cs = cs := by
  have h1 := h B (fun _ => true)
  clear h
  induction cs with
  | nil => rfl
  | cons d cs ih =>
    simp only [Dt.ok.oks, Bool.and_eq_true] at h1
    simp only [cutC, keepD, h1.1, cond_true, ih h1.2]
set_option maxHeartbeats 4000000 in
theorem row_i (ls : List Int) (hn : 0 < ls.length) (hl : ls.length ≤ 100000) (c9 : Nat) (cs9 : List Dt) (htk9 : cs9.take ls.length = (pInts ls).map Dt.p) (hpl9 : PlainC cs9) :
    ImpC Try.prog 19 [9] [.arr 9 0 ls.length c9] [(9, cs9)] (fun d bs => d = .p (.sl false ls.length (pInts (nats (rowF ls)))) ∧ bs = [(9, cs9)]) := by
  refine imp_fin tabOk Try.func19 rfl Try.ntmps19 rfl rfl rfl (by (repeat (first | exact trivial | refine ⟨rfl, ?_⟩))) fun w cl own kf => ?_
  repeat (first | refine awp_seq ?_ | refine awp_region ?_ | refine awp_block ?_ | refine awp_skip ?_ | refine awp_scope ?_ | refine awp_label ?_ | refine q_scope_normal ?_ | refine q_scope_ret ?_ | refine q_scope_exit ?_ | refine awp_ret ?_ | refine awp_exit ?_ | refine awp_ck rfl ?_ | with_reducible refine ck_t ?_ | with_reducible refine ck_f ?_ | with_reducible refine ck_nt ?_ | with_reducible refine ck_nf ?_ | refine q_then_normal ?_ | refine q_then_ret ?_ | refine q_then_exit ?_ | refine q_block_normal ?_ | refine q_block_ret ?_ | refine q_block_exit ?_ | refine q_block_other rfl ?_ | refine a_q (add_step tabOk rfl rfl rfl rfl (by omega) (by omega)) rfl rfl rfl ?_ | refine a_q (sub_step tabOk rfl rfl rfl rfl (by omega) (by omega)) rfl rfl rfl ?_ | refine a_ax tabOk rfl rfl rfl rfl ?_ | refine a_skip rfl rfl rfl ?_ | refine aops_nil ?_ | refine a_store tabOk rfl rfl rfl rfl rfl rfl rfl rfl rfl rfl ?_ | refine a_q (build_step tabOk rfl rfl rfl) rfl rfl rfl ?_ | refine a_q (buildSlice_step tabOk rfl rfl) rfl rfl rfl ?_ | refine a_box rfl rfl rfl rfl rfl rfl rfl rfl rfl ?_ | refine a_new tabOk rfl rfl rfl rfl rfl rfl rfl rfl rfl ?_)
  refine a_b (makeA_step tabOk 2 (c := ls.length) rfl rfl rfl rfl rfl rfl rfl rfl rfl (by show _ * 8 ≤ _; omega) (by unfold maxLen; omega)) rfl rfl rfl rfl ?_
  have hz : List.replicate ls.length (constLeaf (Value.int IntKind.i64 0)) = fillF ls.length 0 := rfl
  rw [show List.replicate ls.length (constLeaf _) = fillF ls.length 0 from rfl]
  repeat (first | refine awp_seq ?_ | refine awp_region ?_ | refine awp_block ?_ | refine awp_skip ?_ | refine awp_scope ?_ | refine awp_label ?_ | refine q_scope_normal ?_ | refine q_scope_ret ?_ | refine q_scope_exit ?_ | refine awp_ret ?_ | refine awp_exit ?_ | refine awp_ck rfl ?_ | with_reducible refine ck_t ?_ | with_reducible refine ck_f ?_ | with_reducible refine ck_nt ?_ | with_reducible refine ck_nf ?_ | refine q_then_normal ?_ | refine q_then_ret ?_ | refine q_then_exit ?_ | refine q_block_normal ?_ | refine q_block_ret ?_ | refine q_block_exit ?_ | refine q_block_other rfl ?_ | refine a_q (add_step tabOk rfl rfl rfl rfl (by omega) (by omega)) rfl rfl rfl ?_ | refine a_q (sub_step tabOk rfl rfl rfl rfl (by omega) (by omega)) rfl rfl rfl ?_ | refine a_ax tabOk rfl rfl rfl rfl ?_ | refine a_skip rfl rfl rfl ?_ | refine aops_nil ?_ | refine a_store tabOk rfl rfl rfl rfl rfl rfl rfl rfl rfl rfl ?_ | refine a_q (build_step tabOk rfl rfl rfl) rfl rfl rfl ?_ | refine a_q (buildSlice_step tabOk rfl rfl) rfl rfl rfl ?_ | refine a_box rfl rfl rfl rfl rfl rfl rfl rfl rfl ?_ | refine a_new tabOk rfl rfl rfl rfl rfl rfl rfl rfl rfl ?_)
  refine awp_loop_ok (fun i : Nat => i ≤ ls.length) (fun i => ⟨[(10, dI i), (9, dI ls.length), (3, .arr 2 0 ls.length ls.length), (1, .ptr 1 0)], [(2, fillF ls.length i), (1, [.arr 9 0 ls.length c9]), (9, cs9)], []⟩) (fun i => ls.length - i) 0 (Nat.zero_le _) (drop_ghost (by (repeat (first | exact trivial | refine ⟨⟨rfl, rfl⟩, ?_⟩))) (by (repeat (first | exact trivial | refine ⟨⟨rfl, fillF_plain _ _ _ _⟩, ?_⟩ | refine ⟨⟨rfl, hpl9 _ _⟩, ?_⟩ | refine ⟨⟨rfl, rfl⟩, ?_⟩))) (by (repeat (first | exact trivial | refine ⟨rfl, ?_⟩))) (by (repeat (first | exact trivial | refine ⟨rfl, ?_⟩)))) ?_
  intro i hi
  repeat (first | refine awp_seq ?_ | refine awp_region ?_ | refine awp_block ?_ | refine awp_skip ?_ | refine awp_scope ?_ | refine awp_label ?_ | refine q_scope_normal ?_ | refine q_scope_ret ?_ | refine q_scope_exit ?_ | refine awp_ret ?_ | refine awp_exit ?_ | refine awp_ck rfl ?_ | with_reducible refine ck_t ?_ | with_reducible refine ck_f ?_ | with_reducible refine ck_nt ?_ | with_reducible refine ck_nf ?_ | refine q_then_normal ?_ | refine q_then_ret ?_ | refine q_then_exit ?_ | refine q_block_normal ?_ | refine q_block_ret ?_ | refine q_block_exit ?_ | refine q_block_other rfl ?_ | refine a_q (add_step tabOk rfl rfl rfl rfl (by omega) (by omega)) rfl rfl rfl ?_ | refine a_q (sub_step tabOk rfl rfl rfl rfl (by omega) (by omega)) rfl rfl rfl ?_ | refine a_ax tabOk rfl rfl rfl rfl ?_ | refine a_skip rfl rfl rfl ?_ | refine aops_nil ?_ | refine a_store tabOk rfl rfl rfl rfl rfl rfl rfl rfl rfl rfl ?_ | refine a_q (build_step tabOk rfl rfl rfl) rfl rfl rfl ?_ | refine a_q (buildSlice_step tabOk rfl rfl) rfl rfl rfl ?_ | refine a_box rfl rfl rfl rfl rfl rfl rfl rfl rfl ?_ | refine a_new tabOk rfl rfl rfl rfl rfl rfl rfl rfl rfl ?_)
  refine ck_b (fun h1 => ?_) (fun h1 => ?_) <;> try rw [h1]
  · have hlt := of_decide_eq_true h1
    repeat (first | refine awp_seq ?_ | refine awp_region ?_ | refine awp_block ?_ | refine awp_skip ?_ | refine awp_scope ?_ | refine awp_label ?_ | refine q_scope_normal ?_ | refine q_scope_ret ?_ | refine q_scope_exit ?_ | refine awp_ret ?_ | refine awp_exit ?_ | refine awp_ck rfl ?_ | with_reducible refine ck_t ?_ | with_reducible refine ck_f ?_ | with_reducible refine ck_nt ?_ | with_reducible refine ck_nf ?_ | refine q_then_normal ?_ | refine q_then_ret ?_ | refine q_then_exit ?_ | refine q_block_normal ?_ | refine q_block_ret ?_ | refine q_block_exit ?_ | refine q_block_other rfl ?_ | refine a_q (add_step tabOk rfl rfl rfl rfl (by omega) (by omega)) rfl rfl rfl ?_ | refine a_q (sub_step tabOk rfl rfl rfl rfl (by omega) (by omega)) rfl rfl rfl ?_ | refine a_ax tabOk rfl rfl rfl rfl ?_ | refine a_skip rfl rfl rfl ?_ | refine aops_nil ?_ | refine a_store tabOk rfl rfl rfl rfl rfl rfl rfl rfl rfl rfl ?_ | refine a_q (build_step tabOk rfl rfl rfl) rfl rfl rfl ?_ | refine a_q (buildSlice_step tabOk rfl rfl) rfl rfl rfl ?_ | refine a_box rfl rfl rfl rfl rfl rfl rfl rfl rfl ?_ | refine a_new tabOk rfl rfl rfl rfl rfl rfl rfl rfl rfl ?_)
    refine a_q (indexAddrA_step (p := i) tabOk rfl rfl rfl rfl rfl (by omega) (by omega) (by show i = (i : Int).toNat * 1; omega)) rfl rfl rfl ?_
    refine a_storeAt tabOk rfl rfl rfl rfl rfl rfl rfl rfl rfl (by rw [fillF_len hi]; omega) ?_
    rw [show (fillF ls.length i).set i _ = fillF ls.length (i + 1) from fillF_set (by omega)]
    repeat (first | refine awp_seq ?_ | refine awp_region ?_ | refine awp_block ?_ | refine awp_skip ?_ | refine awp_scope ?_ | refine awp_label ?_ | refine q_scope_normal ?_ | refine q_scope_ret ?_ | refine q_scope_exit ?_ | refine awp_ret ?_ | refine awp_exit ?_ | refine awp_ck rfl ?_ | with_reducible refine ck_t ?_ | with_reducible refine ck_f ?_ | with_reducible refine ck_nt ?_ | with_reducible refine ck_nf ?_ | refine q_then_normal ?_ | refine q_then_ret ?_ | refine q_then_exit ?_ | refine q_block_normal ?_ | refine q_block_ret ?_ | refine q_block_exit ?_ | refine q_block_other rfl ?_ | refine a_q (add_step tabOk rfl rfl rfl rfl (by omega) (by omega)) rfl rfl rfl ?_ | refine a_q (sub_step tabOk rfl rfl rfl rfl (by omega) (by omega)) rfl rfl rfl ?_ | refine a_ax tabOk rfl rfl rfl rfl ?_ | refine a_skip rfl rfl rfl ?_ | refine aops_nil ?_ | refine a_store tabOk rfl rfl rfl rfl rfl rfl rfl rfl rfl rfl ?_ | refine a_q (build_step tabOk rfl rfl rfl) rfl rfl rfl ?_ | refine a_q (buildSlice_step tabOk rfl rfl) rfl rfl rfl ?_ | refine a_box rfl rfl rfl rfl rfl rfl rfl rfl rfl ?_ | refine a_new tabOk rfl rfl rfl rfl rfl rfl rfl rfl rfl ?_)
    exact ⟨i + 1, by omega, by omega, drop_ghost (by (repeat (first | exact trivial | refine ⟨⟨rfl, rfl⟩, ?_⟩))) (by (repeat (first | exact trivial | refine ⟨⟨rfl, fillF_plain _ _ _ _⟩, ?_⟩ | refine ⟨⟨rfl, hpl9 _ _⟩, ?_⟩ | refine ⟨⟨rfl, rfl⟩, ?_⟩))) (by (repeat (first | exact trivial | refine ⟨rfl, ?_⟩))) (by (repeat (first | exact trivial | refine ⟨rfl, ?_⟩)))⟩
  · have hil : i = ls.length := by have := of_decide_eq_false h1; omega
    subst hil
    repeat (first | refine awp_seq ?_ | refine awp_region ?_ | refine awp_block ?_ | refine awp_skip ?_ | refine awp_scope ?_ | refine awp_label ?_ | refine q_scope_normal ?_ | refine q_scope_ret ?_ | refine q_scope_exit ?_ | refine awp_ret ?_ | refine awp_exit ?_ | refine awp_ck rfl ?_ | with_reducible refine ck_t ?_ | with_reducible refine ck_f ?_ | with_reducible refine ck_nt ?_ | with_reducible refine ck_nf ?_ | refine q_then_normal ?_ | refine q_then_ret ?_ | refine q_then_exit ?_ | refine q_block_normal ?_ | refine q_block_ret ?_ | refine q_block_exit ?_ | refine q_block_other rfl ?_ | refine a_q (add_step tabOk rfl rfl rfl rfl (by omega) (by omega)) rfl rfl rfl ?_ | refine a_q (sub_step tabOk rfl rfl rfl rfl (by omega) (by omega)) rfl rfl rfl ?_ | refine a_ax tabOk rfl rfl rfl rfl ?_ | refine a_skip rfl rfl rfl ?_ | refine aops_nil ?_ | refine a_store tabOk rfl rfl rfl rfl rfl rfl rfl rfl rfl rfl ?_ | refine a_q (build_step tabOk rfl rfl rfl) rfl rfl rfl ?_ | refine a_q (buildSlice_step tabOk rfl rfl) rfl rfl rfl ?_ | refine a_box rfl rfl rfl rfl rfl rfl rfl rfl rfl ?_ | refine a_new tabOk rfl rfl rfl rfl rfl rfl rfl rfl rfl ?_)
    refine a_callRow (nm := 2) ((pInts (nats (rowF ls))).map Dt.p) rfl (fun a w => Try.call21 a w) rfl rfl rfl rfl ?_ ?_
    · intro a e k vs el hc hbx hk hr
      have h18 := hc.slots 18 _ rfl
      have h19 := hc.slots 19 _ rfl
      obtain ⟨kb, vb, elb, hb1, hb2, hb3⟩ := hc.boxes 1 _ rfl
      show Calls Try.prog 21 #[slot a 18, slot a 19] e.w _
      generalize slot a 18 = v18 at h18
      generalize slot a 19 = v19 at h19
      cases h18 with
      | arr hb18 =>
        rw [hbx] at hb18
        cases hb18
        cases h19 with
        | fn hl1 hl2 q1 q2 =>
          rename_i us ws
          have hus : us = [] := List.eq_nil_of_length_eq_zero hl1
          subst hus
          obtain ⟨wv, hwv, hwd⟩ := DReps.get ⟨hl2, q2⟩ (i := 0) (d := .ptr 1 0) rfl
          have hws : ws = [wv] := by
            match ws, hl2, hwv with
            | [x], _, h => simp at h; rw [h]
          subst hws
          cases hwd with
          | ptr hkb =>
            rw [hb1] at hkb
            cases hkb
            have hvl : vs.length = ls.length := by rw [hr.1, fillF_len (Nat.le_refl _)]
            obtain ⟨vl, vb', rfl, hvl1, hvl2⟩ := hb3.uncons
            have hvb : vb' = [] := List.eq_nil_of_length_eq_zero hvl2.1
            subst hvb
            cases hvl1 with
            | arr h9 =>
              rename_i k9
              obtain ⟨k9', vs9, el9, g1, g2, g3⟩ := hc.boxes 9 _ rfl
              rw [h9] at g1
              cases g1
              have hlab : ∀ j, j < ls.length → e.w.cell? ⟨k9, 0 + j, none⟩ = some (.int .i64 (labAt ls j)) := fun j hj => by
                obtain ⟨v, g4, g5⟩ := g3.get (own_get htk9 hj)
                rw [Nat.zero_add, cell_of_row e.w k9 j _ el9 (0, 0) g2, List.getElem?_toArray, g4, raw_eq g5]
              have hne2 : k9 ≠ k := fun e' => by
                have := hc.env.inj 9 2 k (by rw [← e']; exact h9) hbx
                omega
              have hne1 : kb ≠ k := fun e' => by
                have := hc.env.inj 1 2 k (by rw [← e']; exact hb1) hbx
                omega
              have hvs : ∀ j, j < ls.length → vs[j]? = some (.int .i64 (j : Nat)) := fun j hj => by
                obtain ⟨v, g1, g2⟩ := hr.get (fillF_get hj)
                rw [g1, raw_eq g2]
              have hbox : e.w.cell? ⟨kb, 0, none⟩ = some (.slice (some ⟨k9, 0, none⟩) ls.length c9) := by rw [cell_of_row e.w kb 0 _ elb (0, 0) hb2]; rfl
              refine (sort_any ls hn (by omega) k ls.length kb k9 0 c9 e.w vs el hk hvs hne1 hne2 hbox hlab).mono fun r w' ⟨h1, h2⟩ => ⟨h1, _, h2, ?_⟩
              rw [List.drop_of_length_le (by omega), List.append_nil, rowF_enc]
              exact ints_reps e _
    · refine aops_nil ?_
      repeat (first | refine awp_seq ?_ | refine awp_region ?_ | refine awp_block ?_ | refine awp_skip ?_ | refine awp_scope ?_ | refine awp_label ?_ | refine q_scope_normal ?_ | refine q_scope_ret ?_ | refine q_scope_exit ?_ | refine awp_ret ?_ | refine awp_exit ?_ | refine awp_ck rfl ?_ | with_reducible refine ck_t ?_ | with_reducible refine ck_f ?_ | with_reducible refine ck_nt ?_ | with_reducible refine ck_nf ?_ | refine q_then_normal ?_ | refine q_then_ret ?_ | refine q_then_exit ?_ | refine q_block_normal ?_ | refine q_block_ret ?_ | refine q_block_exit ?_ | refine q_block_other rfl ?_)
      refine a_ax tabOk rfl rfl rfl rfl ?_
      refine a_ax tabOk rfl rfl rfl rfl ?_
      have hrl : (pInts (nats (rowF ls))).length = ls.length := by rw [pInts_len, nats_len, rowF_len]
      refine aops_ghost (freeze_ghost 2 2 (pInts (nats (rowF ls))) rfl rfl rfl (cut_both 2 _ _) (by rw [List.length_map]; exact hrl) (Nat.le_refl _) hrl (by rw [List.take_of_length_le (by rw [List.length_map]; omega)]) (by unfold maxLen; omega) (ints_lf _)) ?_
      show AOps _ _ _ _ _ ⟨(2, _) :: cutS (notN 2) _, [(1, [Dt.arr 9 0 ls.length c9]), (9, cutC (notN 2) cs9)], _⟩
      rw [cutC_plain hpl9]
      repeat (first | refine awp_seq ?_ | refine awp_region ?_ | refine awp_block ?_ | refine awp_skip ?_ | refine awp_scope ?_ | refine awp_label ?_ | refine q_scope_normal ?_ | refine q_scope_ret ?_ | refine q_scope_exit ?_ | refine awp_ret ?_ | refine awp_exit ?_ | refine awp_ck rfl ?_ | with_reducible refine ck_t ?_ | with_reducible refine ck_f ?_ | with_reducible refine ck_nt ?_ | with_reducible refine ck_nf ?_ | refine q_then_normal ?_ | refine q_then_ret ?_ | refine q_then_exit ?_ | refine q_block_normal ?_ | refine q_block_ret ?_ | refine q_block_exit ?_ | refine q_block_other rfl ?_ | refine a_q (add_step tabOk rfl rfl rfl rfl (by omega) (by omega)) rfl rfl rfl ?_ | refine a_q (sub_step tabOk rfl rfl rfl rfl (by omega) (by omega)) rfl rfl rfl ?_ | refine a_ax tabOk rfl rfl rfl rfl ?_ | refine a_skip rfl rfl rfl ?_ | refine aops_nil ?_ | refine a_store tabOk rfl rfl rfl rfl rfl rfl rfl rfl rfl rfl ?_ | refine a_q (build_step tabOk rfl rfl rfl) rfl rfl rfl ?_ | refine a_q (buildSlice_step tabOk rfl rfl) rfl rfl rfl ?_ | refine a_box rfl rfl rfl rfl rfl rfl rfl rfl rfl ?_ | refine a_new tabOk rfl rfl rfl rfl rfl rfl rfl rfl rfl ?_)
      refine finI_ret [(9, cs9)] rfl rfl (by (repeat (first | exact trivial | refine ⟨⟨rfl, hpl9 _ _⟩, ?_⟩))) (by (repeat (first | exact trivial | refine ⟨rfl, ?_⟩))) ?_
      exact ⟨rfl, rfl⟩
end Go.Proofs.YtcjooalmhppkiaaRRRR
