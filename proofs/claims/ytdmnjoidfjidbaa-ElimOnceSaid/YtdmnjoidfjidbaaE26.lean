/- What was pushed is popped once, or there in the end: the statement's walk. -/
import Derived.Test.YtdmnjoidfjidbaaE25
import Derived.Test.YtdmnjoidfjidbaaE9
namespace Go.Proofs.Ytdmnjoidfjidbaa
open Go.RowKit
set_option maxRecDepth 100000

theorem fm_some {f : CallT → Option Int} {l : List CallT} {i : Nat} {x : CallT} {v : Int} (h : l[i]? = some x) (hf : f x = some v) : (l.take (i + 1)).filterMap f = (l.take i).filterMap f ++ [v] := by
  rw [List.take_add_one, h, List.filterMap_append]
  simp [hf]
theorem fm_none {f : CallT → Option Int} {l : List CallT} {i : Nat} {x : CallT} (h : l[i]? = some x) (hf : f x = none) : (l.take (i + 1)).filterMap f = (l.take i).filterMap f := by
  rw [List.take_add_one, h, List.filterMap_append]
  simp [hf]
def cntI (x : Int) (l : List Int) : Nat := l.countP fun y => decide (y = x)
theorem cnt_snoc {x : Int} {l : List Int} {k : Nat} {y : Int} (h : l[k]? = some y) : cntI x (l.take (k + 1)) = cntI x (l.take k) + if y = x then 1 else 0 := by
  unfold cntI
  rw [List.take_add_one, h, List.countP_append]
  by_cases e : y = x <;> simp [e]
theorem cnt_le (x : Int) (l : List Int) : cntI x l ≤ l.length := List.countP_le_length
set_option maxHeartbeats 16000000 in
theorem once_w (want : List (List OpT)) (turns : List Int) (s : Int) (hs : 0 ≤ s ∧ s ≤ 255) (ht8 : ∀ x ∈ turns, 0 ≤ x ∧ x < 256) (hsum : want.length ≤ 3 → (want.map List.length).sum ≤ 9223372036854775807) : PureC Try.prog 4 [dPlay want turns, dK .u8 s] (dB true) := by
  have hF := few_c want turns 12 300 hsum (by omega) (by omega)
  refine pure_fin tabOk Try.func4 rfl Try.ntmps4 rfl rfl rfl fun w cl => ?_
  refine go ?_
  refine a_q (call_step (shown_c) rfl (fun a w => Try.call7 a w) rfl) rfl rfl rfl ?_
  refine go ?_
  refine a_q (call_step (hF) rfl (fun a w => Try.call8 a w) rfl) rfl rfl rfl ?_
  refine go ?_
  cases hfew : fewF want turns 12 300
  · refine go ?_
    first | refine fin_ret rfl ?_ | refine fin_normal rfl ?_
    rfl
  · obtain ⟨h1, h3, ht, hw7⟩ := few_len hfew
    obtain ⟨sl, hsl⟩ : ∃ sl : Nat, (sl : Int) = 1 + s % 3 := ⟨(1 + s % 3).toNat, by omega⟩
    have hwh := where_c want.length s (by omega) hs
    rw [← hsl] at hwh
    have hH := once_holds (slots := sl) (by omega) (by omega) hfew
    have hM := play_more (slots := sl) (by omega) (by omega) (by omega) hfew
    have hP := played_i (nn := 16) (sl := sl) (by omega) (by omega) want turns h1 h3 ht ht8 (fun w hw => by have := hw7 w hw; omega)
    have hL := layE_ok (s := want.length) (sl := sl) (n := 16) (by omega) (by omega) (by omega)
    generalize playedT (layE want.length 16 sl) want turns = t at *
    have hrow := refrow_c (layE want.length 16 sl) hL t.m 0
    obtain ⟨hb, hpm, hpu⟩ := hH
    obtain ⟨hcl, hck, _⟩ := hM
    generalize rowF (layE want.length 16 sl) t.m 0 = row at hrow hpm
    obtain ⟨m, step, seats, calls, full, wild, bad⟩ := t
    simp only at hb hpm hpu hcl hck hrow
    subst hb
    generalize layE want.length 16 sl = l at *
    have hrl : row.length ≤ 12 := by
      have h5 := hpm.length_eq
      have h6 := List.length_filterMap_le pushC calls
      rw [List.length_append] at h5
      omega
    refine go ?_
    refine a_q (call_step (hwh) rfl (fun a w => Try.call10 a w) rfl) rfl rfl rfl ?_
    refine go ?_
    refine a_callI hP rfl (fun a w => Try.call9 a w) rfl rfl trivial trivial rfl rfl rfl rfl ?_ ?_
    · rintro d bs ⟨rfl, rfl⟩; exact ⟨.inr rfl, .inr rfl, .inr rfl, .inr rfl, .inr rfl, .inr rfl, trivial⟩
    rintro d bs ⟨rfl, rfl⟩
    refine go ?_
    refine awp_region_w 7 [] rfl rfl (by kernel_rfl) (by kernel_rfl) (by kernel_rfl) ?_
    refine goQ ?_
    refine r_q (call_step (hrow) rfl (fun a w => Try.call13 a w) rfl) rfl rfl ?_
    refine goQ ?_
    refine aops_ghost (tip_ghost 31 0 3 1 rfl rfl rfl) ?_
    refine a_append (m := row.length) (qs := pInts row) tabOk rfl rfl rfl rfl rfl rfl rfl rfl rfl rfl rfl rfl (by rw [pInts_len]; exact (Nat.mul_one _).symm) (by unfold maxLen; omega) (by show (_ + _) * 8 ≤ _; omega) ?_
    rw [List.nil_append, show 0 + row.length = row.length from Nat.zero_add _]
    refine aops_ghost (tip_ghost 8 1 3 1 rfl rfl rfl) ?_
    refine go ?_
    refine awp_viaE (ι := Unit) (.exit 0) (fun _ => ⟨[(9, .tip 0 (row ++ calls.filterMap popC).length (pInts (row ++ calls.filterMap popC))), (8, .tip 1 (calls.filterMap pushC).length (pInts (calls.filterMap pushC))), (7, .ptr 30 0), (5, dB true)], [(30, [dInts m, dI step, .arr 31 0 want.length want.length, .arr 32 0 want.length want.length, .arr 33 0 want.length want.length, .arr 34 0 want.length want.length, .arr 35 0 want.length want.length, dCalls calls, dI full, dB wild, dB false]), (31, opsC seats), (32, logsC seats), (33, stepsC seats), (34, nextsC seats), (35, gonesC seats)], [(0, ⟨3, 1, (row ++ calls.filterMap popC).length⟩), (1, ⟨3, 1, (calls.filterMap pushC).length⟩)]⟩) (fun _ => True) ?_ ?_
    · refine awp_loop_ok (fun i : Nat => i ≤ calls.length) (fun i => ⟨[(10, dI i), (9, .tip 0 (row ++ (calls.take i).filterMap popC).length (pInts (row ++ (calls.take i).filterMap popC))), (8, .tip 1 ((calls.take i).filterMap pushC).length (pInts ((calls.take i).filterMap pushC))), (7, .ptr 30 0), (5, dB true)], [(30, [dInts m, dI step, .arr 31 0 want.length want.length, .arr 32 0 want.length want.length, .arr 33 0 want.length want.length, .arr 34 0 want.length want.length, .arr 35 0 want.length want.length, dCalls calls, dI full, dB wild, dB false]), (31, opsC seats), (32, logsC seats), (33, stepsC seats), (34, nextsC seats), (35, gonesC seats)], [(0, ⟨3, 1, (row ++ (calls.take i).filterMap popC).length⟩), (1, ⟨3, 1, ((calls.take i).filterMap pushC).length⟩)]⟩) (fun i => calls.length - i) 0 (Nat.zero_le _) (by
        rw [show (calls.take 0).filterMap pushC = [] from rfl, show row ++ (calls.take 0).filterMap popC = row from List.append_nil _]
        exact zX (hb := by exact ⟨⟨rfl, rfl⟩, ⟨rfl, ops_plain _ _ _⟩, ⟨rfl, logs_plain _ _ _⟩, ⟨rfl, stepsC_plain _ _ _⟩, ⟨rfl, nexts_plain _ _ _⟩, ⟨rfl, gones_plain _ _ _⟩, trivial⟩)) ?_
      intro i hi
      refine go ?_
      refine ck_b (fun h5 => ?_) (fun h5 => ?_) <;> try rw [h5]
      · have h5' := of_decide_eq_true h5
        obtain ⟨x, hx⟩ : ∃ x, calls[i]? = some x := ⟨calls[i]'(by omega), List.getElem?_eq_getElem _⟩
        have hxi : calls[(i : Int).toNat]? = some x := by simpa using hx
        have hxk := (hck x (List.mem_of_getElem? hx)).1
        have hxp := hpu x (List.mem_of_getElem? hx)
        have hil : ((calls.take i).filterMap pushC).length ≤ 12 := by have := List.length_filterMap_le pushC (calls.take i); rw [List.length_take] at this; omega
        have hol : (row ++ (calls.take i).filterMap popC).length ≤ 24 := by have := List.length_filterMap_le popC (calls.take i); rw [List.length_take] at this; rw [List.length_append]; omega
        obtain ⟨who, ⟨kd, ob, a, b⟩, val, is, fq, lq, tq⟩ := x
        simp only at hxk hxp
        rcases hxk with rfl | rfl
        · obtain ⟨rfl, rfl⟩ := hxp rfl
          have e1 := fm_some (f := pushC) (v := a) hx rfl
          have e2 := fm_none (f := popC) hx rfl
          refine go ?_
          refine a_q (indexAddr_step tabOk [pI who, pI 4, pI ob, pI a, pI b, pI 0, pB true, pI fq, pI lq, pI tq] rfl rfl rfl rfl rfl rfl (by first | omega | (simp; done) | (simp; omega)) (by first | omega | (simp; done) | (simp; omega)) (by first | (simp; done) | exact List.cons_ne_nil _ _) (calls_idx hxi)) rfl rfl rfl ?_
          refine go ?_
          rw [show decide ((4 : Int) = 4) = true from rfl]
          refine go ?_
          rw [show decide ((0 : Int) = 0) = true from rfl]
          refine go ?_
          refine a_append (m := 1) (qs := [pI a]) tabOk rfl rfl rfl rfl rfl rfl rfl rfl rfl rfl rfl rfl rfl (by unfold maxLen; omega) (by show (_ + _) * 8 ≤ _; omega) ?_
          rw [pInts_snoc, show ((calls.take i).filterMap pushC).length + 1 = ((calls.take i).filterMap pushC ++ [a]).length by simp, ← e1, ← e2]
          refine go ?_
          exact ⟨i + 1, by omega, by omega, zX (hb := by exact ⟨⟨rfl, rfl⟩, ⟨rfl, ops_plain _ _ _⟩, ⟨rfl, logs_plain _ _ _⟩, ⟨rfl, stepsC_plain _ _ _⟩, ⟨rfl, nexts_plain _ _ _⟩, ⟨rfl, gones_plain _ _ _⟩, trivial⟩)⟩
        · have e1 := fm_none (f := pushC) hx rfl
          cases is
          · have e2 := fm_none (f := popC) hx rfl
            refine go ?_
            refine a_q (indexAddr_step tabOk [pI who, pI 5, pI ob, pI a, pI b, pI val, pB false, pI fq, pI lq, pI tq] rfl rfl rfl rfl rfl rfl (by first | omega | (simp; done) | (simp; omega)) (by first | omega | (simp; done) | (simp; omega)) (by first | (simp; done) | exact List.cons_ne_nil _ _) (calls_idx hxi)) rfl rfl rfl ?_
            refine go ?_
            rw [show decide ((5 : Int) = 4) = false from rfl]
            rw [← e1, ← e2]
            refine go ?_
            exact ⟨i + 1, by omega, by omega, zX (hb := by exact ⟨⟨rfl, rfl⟩, ⟨rfl, ops_plain _ _ _⟩, ⟨rfl, logs_plain _ _ _⟩, ⟨rfl, stepsC_plain _ _ _⟩, ⟨rfl, nexts_plain _ _ _⟩, ⟨rfl, gones_plain _ _ _⟩, trivial⟩)⟩
          · have e2 := fm_some (f := popC) (v := val) hx rfl
            refine go ?_
            refine a_q (indexAddr_step tabOk [pI who, pI 5, pI ob, pI a, pI b, pI val, pB true, pI fq, pI lq, pI tq] rfl rfl rfl rfl rfl rfl (by first | omega | (simp; done) | (simp; omega)) (by first | omega | (simp; done) | (simp; omega)) (by first | (simp; done) | exact List.cons_ne_nil _ _) (calls_idx hxi)) rfl rfl rfl ?_
            refine go ?_
            rw [show decide ((5 : Int) = 4) = false from rfl]
            refine go ?_
            refine a_append (m := 1) (qs := [pI val]) tabOk rfl rfl rfl rfl rfl rfl rfl rfl rfl rfl rfl rfl rfl (by unfold maxLen; omega) (by show (_ + _) * 8 ≤ _; omega) ?_
            rw [pInts_snoc, show (row ++ (calls.take i).filterMap popC).length + 1 = (row ++ (calls.take i).filterMap popC ++ [val]).length by simp; omega, List.append_assoc, ← e2, ← e1]
            refine go ?_
            exact ⟨i + 1, by omega, by omega, zX (hb := by exact ⟨⟨rfl, rfl⟩, ⟨rfl, ops_plain _ _ _⟩, ⟨rfl, logs_plain _ _ _⟩, ⟨rfl, stepsC_plain _ _ _⟩, ⟨rfl, nexts_plain _ _ _⟩, ⟨rfl, gones_plain _ _ _⟩, trivial⟩)⟩
      · have h5' := of_decide_eq_false h5
        have hil : calls.length = i := by omega
        subst hil
        refine go ?_
        refine ⟨rfl, (), trivial, ?_⟩
        rw [List.take_length]
        exact zX (hb := by exact ⟨⟨rfl, rfl⟩, ⟨rfl, ops_plain _ _ _⟩, ⟨rfl, logs_plain _ _ _⟩, ⟨rfl, stepsC_plain _ _ _⟩, ⟨rfl, nexts_plain _ _ _⟩, ⟨rfl, gones_plain _ _ _⟩, trivial⟩)
    intro σ' _ _ hgh
    refine zR (zM (awp_ghost hgh ?_))
    clear hgh
    have hcin : (calls.filterMap pushC).length ≤ 12 := by have := List.length_filterMap_le pushC calls; omega
    have hlen := hpm.length_eq
    generalize calls.filterMap pushC = ins at *
    generalize row ++ calls.filterMap popC = outs at *
    refine awp_ghost (lowS_ghost 8 (d' := dInts ins) rfl rfl) ?_
    refine awp_ghost (lowS_ghost 9 (d' := dInts outs) rfl rfl) ?_
    refine go ?_
    rw [show decide ((ins.length : Int) = outs.length) = true by rw [decide_eq_true_eq]; omega]
    refine go ?_
    refine awp_loop_ok (fun i : Nat => i ≤ ins.length) (fun i => ⟨[(12, dI i), (9, dInts outs), (8, dInts ins), (7, .ptr 30 0), (5, dB true)], [(30, [dInts m, dI step, .arr 31 0 want.length want.length, .arr 32 0 want.length want.length, .arr 33 0 want.length want.length, .arr 34 0 want.length want.length, .arr 35 0 want.length want.length, dCalls calls, dI full, dB wild, dB false]), (31, opsC seats), (32, logsC seats), (33, stepsC seats), (34, nextsC seats), (35, gonesC seats)], []⟩) (fun i => ins.length - i) 0 (Nat.zero_le _) (zX (hb := by exact ⟨⟨rfl, rfl⟩, ⟨rfl, ops_plain _ _ _⟩, ⟨rfl, logs_plain _ _ _⟩, ⟨rfl, stepsC_plain _ _ _⟩, ⟨rfl, nexts_plain _ _ _⟩, ⟨rfl, gones_plain _ _ _⟩, trivial⟩)) ?_
    intro i hi
    refine go ?_
    refine ck_b (fun h6 => ?_) (fun h6 => ?_) <;> try rw [h6]
    · have h6' := of_decide_eq_true h6
      obtain ⟨x, hx⟩ : ∃ x, ins[i]? = some x := ⟨ins[i]'(by omega), List.getElem?_eq_getElem _⟩
      have hxi : ins[(i : Int).toNat]? = some x := by simpa using hx
      have hcnt : cntI x ins = cntI x outs := perm_count hpm x
      refine go ?_
      refine awp_viaE (ι := Unit) (.exit 4) (fun _ => ⟨[(14, dI (cntI x outs : Nat)), (13, dI (cntI x ins : Nat)), (12, dI i), (9, dInts outs), (8, dInts ins), (7, .ptr 30 0), (5, dB true)], [(30, [dInts m, dI step, .arr 31 0 want.length want.length, .arr 32 0 want.length want.length, .arr 33 0 want.length want.length, .arr 34 0 want.length want.length, .arr 35 0 want.length want.length, dCalls calls, dI full, dB wild, dB false]), (31, opsC seats), (32, logsC seats), (33, stepsC seats), (34, nextsC seats), (35, gonesC seats)], []⟩) (fun _ => True) ?_ ?_
      · refine awp_loop_ok (fun k : Nat => k ≤ ins.length) (fun k => ⟨[(15, dI k), (14, dI (cntI x (outs.take k) : Nat)), (13, dI (cntI x (ins.take k) : Nat)), (12, dI i), (9, dInts outs), (8, dInts ins), (7, .ptr 30 0), (5, dB true)], [(30, [dInts m, dI step, .arr 31 0 want.length want.length, .arr 32 0 want.length want.length, .arr 33 0 want.length want.length, .arr 34 0 want.length want.length, .arr 35 0 want.length want.length, dCalls calls, dI full, dB wild, dB false]), (31, opsC seats), (32, logsC seats), (33, stepsC seats), (34, nextsC seats), (35, gonesC seats)], []⟩) (fun k => ins.length - k) 0 (Nat.zero_le _) (zX (hb := by exact ⟨⟨rfl, rfl⟩, ⟨rfl, ops_plain _ _ _⟩, ⟨rfl, logs_plain _ _ _⟩, ⟨rfl, stepsC_plain _ _ _⟩, ⟨rfl, nexts_plain _ _ _⟩, ⟨rfl, gones_plain _ _ _⟩, trivial⟩)) ?_
        intro k hk
        refine go ?_
        refine ck_b (fun h7 => ?_) (fun h7 => ?_) <;> try rw [h7]
        · have h7' := of_decide_eq_true h7
          obtain ⟨y, hy⟩ : ∃ y, ins[k]? = some y := ⟨ins[k]'(by omega), List.getElem?_eq_getElem _⟩
          have hyi : ins[(k : Int).toNat]? = some y := by simpa using hy
          obtain ⟨z, hz⟩ : ∃ z, outs[k]? = some z := ⟨outs[k]'(by omega), List.getElem?_eq_getElem _⟩
          have hzi : outs[(k : Int).toNat]? = some z := by simpa using hz
          have ey := cnt_snoc (x := x) hy
          have ez := cnt_snoc (x := x) hz
          have by1 := cnt_le x (ins.take k)
          have bz1 := cnt_le x (outs.take k)
          rw [List.length_take] at by1 bz1
          generalize cntI x (ins.take k) = p at ey by1 ⊢
          generalize cntI x (outs.take k) = q at ez bz1 ⊢
          refine go ?_
          refine awp_region_q [] rfl (by kernel_rfl) (by kernel_rfl) ?_
          refine goQ ?_
          refine r_q (indexAddr_step tabOk [pI y] rfl rfl rfl rfl rfl rfl (by first | omega | (simp; done) | (simp; omega)) (by first | omega | (simp; done) | (simp; omega)) (by first | (simp; done) | exact List.cons_ne_nil _ _) (ints_idx hyi)) rfl rfl ?_
          refine goQ ?_
          refine r_q (indexAddr_step tabOk [pI x] rfl rfl rfl rfl rfl rfl (by first | omega | (simp; done) | (simp; omega)) (by first | omega | (simp; done) | (simp; omega)) (by first | (simp; done) | exact List.cons_ne_nil _ _) (ints_idx hxi)) rfl rfl ?_
          refine goQ ?_
          refine go ?_
          by_cases hyx : y = x
          · rw [show decide (y = x) = true by rw [decide_eq_true_eq]; exact hyx]
            rw [if_pos hyx] at ey
            refine go ?_
            refine awp_region_q [] rfl (by kernel_rfl) (by kernel_rfl) ?_
            refine goQ ?_
            refine r_q (indexAddr_step tabOk [pI z] rfl rfl rfl rfl rfl rfl (by first | omega | (simp; done) | (simp; omega)) (by first | omega | (simp; done) | (simp; omega)) (by first | (simp; done) | exact List.cons_ne_nil _ _) (ints_idx hzi)) rfl rfl ?_
            refine goQ ?_
            refine r_q (indexAddr_step tabOk [pI x] rfl rfl rfl rfl rfl rfl (by first | omega | (simp; done) | (simp; omega)) (by first | omega | (simp; done) | (simp; omega)) (by first | (simp; done) | exact List.cons_ne_nil _ _) (ints_idx hxi)) rfl rfl ?_
            refine goQ ?_
            refine go ?_
            by_cases hzx : z = x
            · rw [show decide (z = x) = true by rw [decide_eq_true_eq]; exact hzx]
              rw [if_pos hzx] at ez
              refine go ?_
              refine ⟨k + 1, by omega, by omega, ?_⟩
              rw [ey, ez]
              exact zX (hb := by exact ⟨⟨rfl, rfl⟩, ⟨rfl, ops_plain _ _ _⟩, ⟨rfl, logs_plain _ _ _⟩, ⟨rfl, stepsC_plain _ _ _⟩, ⟨rfl, nexts_plain _ _ _⟩, ⟨rfl, gones_plain _ _ _⟩, trivial⟩)
            · rw [show decide (z = x) = false by rw [decide_eq_false_iff_not]; exact hzx]
              rw [if_neg hzx] at ez
              refine go ?_
              refine ⟨k + 1, by omega, by omega, ?_⟩
              rw [ey, ez]
              exact zX (hb := by exact ⟨⟨rfl, rfl⟩, ⟨rfl, ops_plain _ _ _⟩, ⟨rfl, logs_plain _ _ _⟩, ⟨rfl, stepsC_plain _ _ _⟩, ⟨rfl, nexts_plain _ _ _⟩, ⟨rfl, gones_plain _ _ _⟩, trivial⟩)
          · rw [show decide (y = x) = false by rw [decide_eq_false_iff_not]; exact hyx]
            rw [if_neg hyx] at ey
            refine go ?_
            refine awp_region_q [] rfl (by kernel_rfl) (by kernel_rfl) ?_
            refine goQ ?_
            refine r_q (indexAddr_step tabOk [pI z] rfl rfl rfl rfl rfl rfl (by first | omega | (simp; done) | (simp; omega)) (by first | omega | (simp; done) | (simp; omega)) (by first | (simp; done) | exact List.cons_ne_nil _ _) (ints_idx hzi)) rfl rfl ?_
            refine goQ ?_
            refine r_q (indexAddr_step tabOk [pI x] rfl rfl rfl rfl rfl rfl (by first | omega | (simp; done) | (simp; omega)) (by first | omega | (simp; done) | (simp; omega)) (by first | (simp; done) | exact List.cons_ne_nil _ _) (ints_idx hxi)) rfl rfl ?_
            refine goQ ?_
            refine go ?_
            by_cases hzx : z = x
            · rw [show decide (z = x) = true by rw [decide_eq_true_eq]; exact hzx]
              rw [if_pos hzx] at ez
              refine go ?_
              refine ⟨k + 1, by omega, by omega, ?_⟩
              rw [ey, ez]
              exact zX (hb := by exact ⟨⟨rfl, rfl⟩, ⟨rfl, ops_plain _ _ _⟩, ⟨rfl, logs_plain _ _ _⟩, ⟨rfl, stepsC_plain _ _ _⟩, ⟨rfl, nexts_plain _ _ _⟩, ⟨rfl, gones_plain _ _ _⟩, trivial⟩)
            · rw [show decide (z = x) = false by rw [decide_eq_false_iff_not]; exact hzx]
              rw [if_neg hzx] at ez
              refine go ?_
              refine ⟨k + 1, by omega, by omega, ?_⟩
              rw [ey, ez]
              exact zX (hb := by exact ⟨⟨rfl, rfl⟩, ⟨rfl, ops_plain _ _ _⟩, ⟨rfl, logs_plain _ _ _⟩, ⟨rfl, stepsC_plain _ _ _⟩, ⟨rfl, nexts_plain _ _ _⟩, ⟨rfl, gones_plain _ _ _⟩, trivial⟩)
        · have h7' := of_decide_eq_false h7
          have hkl : k = ins.length := by omega
          subst hkl
          refine go ?_
          refine ⟨rfl, (), trivial, ?_⟩
          rw [show outs.take ins.length = outs by rw [List.take_of_length_le (by omega)], List.take_length]
          exact zX (hb := by exact ⟨⟨rfl, rfl⟩, ⟨rfl, ops_plain _ _ _⟩, ⟨rfl, logs_plain _ _ _⟩, ⟨rfl, stepsC_plain _ _ _⟩, ⟨rfl, nexts_plain _ _ _⟩, ⟨rfl, gones_plain _ _ _⟩, trivial⟩)
      intro σ' _ _ hgh
      refine zR (zM (awp_ghost hgh ?_))
      clear hgh
      rw [hcnt]
      generalize cntI x outs = q
      refine go ?_
      rw [show decide ((q : Int) = q) = true from decide_eq_true rfl]
      refine go ?_
      exact ⟨i + 1, by omega, by omega, zX (hb := by exact ⟨⟨rfl, rfl⟩, ⟨rfl, ops_plain _ _ _⟩, ⟨rfl, logs_plain _ _ _⟩, ⟨rfl, stepsC_plain _ _ _⟩, ⟨rfl, nexts_plain _ _ _⟩, ⟨rfl, gones_plain _ _ _⟩, trivial⟩)⟩
    · refine go ?_
      first | refine fin_ret rfl ?_ | refine fin_normal rfl ?_
      rfl
end Go.Proofs.Ytdmnjoidfjidbaa
