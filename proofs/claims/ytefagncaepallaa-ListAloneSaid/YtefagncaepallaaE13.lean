/- Alone: the law's walk. -/
import Derived.Test.YtefagncaepallaaE11
import Derived.Test.YtefagncaepallaaPD
namespace Go.Proofs.Ytefagncaepallaa
open Go.RowKit
set_option maxRecDepth 100000

theorem pOps_snoc (l : List OpT) (o : OpT) : pOps l ++ pOp o = pOps (l ++ [o]) := by simp [pOps]
theorem mem_take {ks : List Int} {i : Nat} {x key : Int} (h : ks[i]? = some x) : decide (key ∈ ks.take (i + 1)) = (decide (key ∈ ks.take i) || decide (x = key)) := by
  rw [List.take_add_one, h]
  by_cases h1 : key ∈ ks.take i
  · simp [h1]
  · by_cases h2 : x = key
    · simp [h2]
    · have : ¬ key = x := fun e => h2 e.symm
      simp [h1, h2, this]
set_option maxHeartbeats 8000000 in
theorem listAlone_c (ks : List Int) (hk : ∀ x ∈ ks, 0 ≤ x ∧ x ≤ 255) (key : Int) (hkey : 0 ≤ key ∧ key ≤ 255) : PureC Try.prog 6 [dTurns ks, dK .u8 key] (dB true) := by
  refine pure_fin tabOk Try.func6 rfl Try.ntmps6 rfl rfl rfl fun w cl => ?_
  refine go ?_
  refine a_q (call_step (awake_c) rfl (fun a w => Try.call8 a w) rfl) rfl rfl rfl ?_
  refine go ?_
  generalize h0 : decide ((ks.length : Int) > 4) = cc; cases cc
  · have h0' : ks.length ≤ 4 := by have := of_decide_eq_false h0; omega
    have hg := alone_g ks h0' hk
    have hP := played_c (aloneP ks) hg
    have hW := where_c (aloneP ks) hg.ok.w1 (by have := hg.ok.w3; omega) hg.ok.n0
    have hL : LayOk (layP (aloneP ks)) := layP_ok hg.ok.w1 (by have := hg.ok.w3; omega)
    obtain ⟨b1, b2, b3, b4, b5⟩ := alone_true h0' hk hkey
    have hlen := played_len hg
    have hsz := layP_size (aloneP ks)
    have hnod : (aloneP ks).nodes = 7 := rfl
    have hwl : (aloneP ks).want.length = 1 := rfl
    generalize playedF (aloneP ks) = R at *
    generalize layP (aloneP ks) = l at *
    obtain ⟨steps, m, gone, ends⟩ := R
    simp only at b1 b2 b3 b4 b5 hlen
    subst b1
    subst b2
    dsimp only [dPlayed] at hP
    have hRow := row_c l hL m l.map
    generalize rowF l m l.map = rws at *
    refine go ?_
    refine awp_ghost (tip_ghost 6 0 42 4 rfl rfl rfl) ?_
    refine awp_loop_ok (fun i : Nat => i ≤ ks.length) (fun i => ⟨[(7, dI i), (6, .tip 0 (putW (ks.take i)).length (pOps (putW (ks.take i)))), (5, dB true), (0, dTurns ks), (1, dK .u8 key)], [], [(0, ⟨42, 4, (putW (ks.take i)).length⟩)]⟩) (fun i => ks.length - i) 0 (by omega) (zX) ?_
    intro i hi
    refine go ?_
    refine ck_b (fun h1 => ?_) (fun h1 => ?_) <;> try rw [h1]
    · have h1' : i < ks.length := by have := of_decide_eq_true h1; omega
      obtain ⟨x, hx⟩ := getI (l := ks) (i := i) (by omega) (by omega)
      have hx' := hx
      simp only [Int.toNat_natCast] at hx'
      have hxb := hk x (List.mem_of_getElem? hx')
      have e1 : putW (ks.take (i + 1)) = putW (ks.take i) ++ [⟨2, 0, x, x + 1⟩] := by rw [List.take_add_one, hx']; simp [putW]
      have l1 : (putW (ks.take i)).length ≤ 4 := by simp [putW]; omega
      generalize putW (ks.take i) = A at *
      refine go ?_
      refine awp_region_w 14 [] rfl rfl (by kernel_rfl) (by kernel_rfl) (by kernel_rfl) ?_
      refine goQ ?_
      refine r_q (indexAddr_step tabOk [p8 x] rfl rfl rfl rfl rfl rfl (by first | omega | (simp; done) | (simp; omega)) (by first | omega | (simp; done) | (simp; omega)) (by first | (simp; done) | exact List.cons_ne_nil _ _) (map_idx hx)) rfl rfl ?_
      refine goQ ?_
      rw [show IntKind.i64.wrap x = x from wrap_id (by omega) (by omega)]
      refine goQ ?_
      refine r_q (indexAddr_step tabOk [p8 x] rfl rfl rfl rfl rfl rfl (by first | omega | (simp; done) | (simp; omega)) (by first | omega | (simp; done) | (simp; omega)) (by first | (simp; done) | exact List.cons_ne_nil _ _) (map_idx hx)) rfl rfl ?_
      refine goQ ?_
      rw [show IntKind.i64.wrap x = x from wrap_id (by omega) (by omega), show IntKind.i64.wrap (x + 1) = x + 1 from wrap_id (by omega) (by omega)]
      refine goQ ?_
      refine a_append (m := 1) (qs := pOp ⟨2, 0, x, x + 1⟩) tabOk rfl rfl rfl rfl rfl rfl rfl rfl rfl rfl rfl rfl rfl (by unfold maxLen; omega) (by show (_ + _) * 32 ≤ _; omega) ?_
      rw [pOps_snoc, ← e1, show A.length + 1 = (putW (ks.take (i + 1))).length by rw [e1]; simp]
      refine go ?_
      exact ⟨i + 1, by omega, by omega, zX⟩
    · have h1' : i = ks.length := by have := of_decide_eq_false h1; omega
      rw [h1', List.take_length]
      refine awp_ghost (lowS_ghost 6 rfl rfl) ?_
      refine go ?_
      refine a_q (call_step (hW) rfl (fun a w => Try.call10 a w) rfl) rfl rfl rfl ?_
      refine go ?_
      refine a_q (call_step (hP) rfl (fun a w => Try.call11 a w) rfl) rfl rfl rfl ?_
      refine go ?_
      refine a_q (call_step (hRow) rfl (fun a w => Try.call19 a w) rfl) rfl rfl rfl ?_
      refine go ?_
      rw [show decide ((([[]] : List (List (Int × Int))).length : Int) = 1) = true from rfl]
      refine go ?_
      refine awp_loop_ok (fun i : Nat => i ≤ ks.length) (fun i => ⟨[(17, dI i), (16, dB (decide (key ∈ ks.take i))), (15, .p (.sl true 0 [])), (14, dI rws.length), (12, dGones [[]]), (11, .ptr 4 0), (9, .ptr 2 0), (5, dB true), (0, dTurns ks), (1, dK .u8 key)], [(4, [dInts m]), (2, layD l)], []⟩) (fun i => ks.length - i) 0 (by omega) (zX) ?_
      intro i hi
      refine go ?_
      refine ck_b (fun h2 => ?_) (fun h2 => ?_) <;> try rw [h2]
      · have h2' : i < ks.length := by have := of_decide_eq_true h2; omega
        obtain ⟨x, hx⟩ := getI (l := ks) (i := i) (by omega) (by omega)
        have hx' := hx
        simp only [Int.toNat_natCast] at hx'
        have hmt := mem_take (key := key) hx'
        generalize decide (key ∈ ks.take i) = th at *
        refine go ?_
        cases th
        · refine go ?_
          refine a_q (indexAddr_step tabOk [p8 x] rfl rfl rfl rfl rfl rfl (by first | omega | (simp; done) | (simp; omega)) (by first | omega | (simp; done) | (simp; omega)) (by first | (simp; done) | exact List.cons_ne_nil _ _) (map_idx hx)) rfl rfl rfl ?_
          refine go ?_
          refine ⟨i + 1, by omega, by omega, ?_⟩
          rw [hmt]
          exact zX
        · refine go ?_
          refine ⟨i + 1, by omega, by omega, ?_⟩
          rw [hmt]
          exact zX
      · have h2' : i = ks.length := by have := of_decide_eq_false h2; omega
        rw [h2', List.take_length]
        refine go ?_
        refine awp_ghost (lowS_ghost 15 rfl rfl) ?_
        refine awp_loop_ok (fun q : Nat × List Int × List ResT => q.1 ≤ 7 * rws.length + 10 ∧ q.2.2.length = q.1 ∧ alOk l ⟨1, l.map, key, 0⟩ [] (fun out => out.is = decide (key ∈ ks) ∧ (key ∈ ks → out.val = key + 1)) (7 * rws.length + 10 - q.1) q.2.1 q.2.2) (fun q => ⟨[(18, dI q.1), (16, dB (decide (key ∈ ks))), (15, dLog q.2.2), (14, dI rws.length), (12, dGones [[]]), (11, .ptr 4 0), (9, .ptr 2 0), (5, dB true), (1, dK .u8 key)], [(4, [dInts q.2.1]), (2, layD l), (2, layD l), (2, layD l), (2, layD l)], []⟩) (fun q => 7 * rws.length + 10 - q.1) (0, m, []) ⟨by simp, rfl, b5⟩ (zX) ?_
        rintro ⟨i, m, log⟩ ⟨hi, hll, hal⟩
        simp only at hi hll hal
        refine (show AWP _ _ _ _ ⟨[(18, dI i), (16, dB (decide (key ∈ ks))), (15, dLog log), (14, dI rws.length), (12, dGones [[]]), (11, .ptr 4 0), (9, .ptr 2 0), (5, dB true), (1, dK .u8 key)], [(4, [dInts m]), (2, layD l), (2, layD l), (2, layD l), (2, layD l)], []⟩ from ?_)
        refine go ?_
        rw [show IntKind.i64.wrap (7 * (rws.length : Int)) = 7 * (rws.length : Int) from wrap_id (by omega) (by omega), show IntKind.i64.wrap (7 * (rws.length : Int) + 9) = 7 * (rws.length : Int) + 9 from wrap_id (by omega) (by omega)]
        refine go ?_
        refine ck_b (fun h3 => ?_) (fun h3 => ?_) <;> try rw [h3]
        · have h3' : i < 7 * rws.length + 10 := by have := of_decide_eq_true h3; omega
          obtain ⟨k, hk2⟩ : ∃ k, 7 * rws.length + 10 - i = k + 1 := ⟨7 * rws.length + 10 - i - 1, by omega⟩
          rw [hk2, alOk] at hal
          obtain ⟨c1, c2, c3⟩ := hal
          have hC := next_c l hL 0 [] ⟨1, l.map, key, 0⟩ log (fun p hp => by simp at hp) (by simp; omega)
          generalize nextF l 0 [] ⟨1, l.map, key, 0⟩ log = r at hC c3
          obtain ⟨a, told, dn⟩ := r
          dsimp only [dNx] at hC
          simp only at c3
          refine go ?_
          refine awp_region_q [] rfl (by kernel_rfl) (by kernel_rfl) ?_
          refine goQ ?_
          refine r_q (indexAddr_step tabOk [plGone []] rfl rfl rfl rfl rfl rfl (by first | omega | (simp; done) | (simp; omega)) (by first | omega | (simp; done) | (simp; omega)) (by first | (simp; done) | exact List.cons_ne_nil _ _) (map_idx (l := [[]]) (i := 0) rfl)) rfl rfl ?_
          refine goQ ?_
          rw [show IntKind.i64.wrap key = key from wrap_id (by omega) (by omega)]
          refine goQ ?_
          refine r_q (call_step (hC) rfl (fun a w => Try.call20 a w) rfl) rfl rfl ?_
          refine goQ ?_
          refine go ?_
          cases dn
          · rw [if_neg (by decide)] at c3
            obtain ⟨c4, c5⟩ := c3
            have hM := memDo_c m a (by omega)
            unfold memDoF at hM
            rw [if_pos c4] at hM
            generalize turnF m a = tr at hM c5
            obtain ⟨m1, rs⟩ := tr
            dsimp only at hM c5
            refine go ?_
            refine a_q (call_step (hM) rfl (fun a w => Try.call13 a w) rfl) rfl rfl rfl ?_
            refine go ?_
            rw [show decide ((0 : Int) = 0) = true from rfl]
            refine go ?_
            refine awp_region_q [] rfl (by kernel_rfl) (by kernel_rfl) ?_
            refine goQ ?_
            refine r_appendx (n' := 0) (m := log.length) (ps := []) (qs := pLog log) tabOk 1 rfl rfl rfl rfl rfl rfl rfl rfl rfl rfl rfl rfl rfl (pLog_len log) (by unfold maxLen; omega) (by show (_ + _) * 16 ≤ _; omega) ?_
            rw [show 0 + log.length = log.length from Nat.zero_add _, List.nil_append]
            refine goQ ?_
            refine r_append (m := 1) (qs := pRes rs) tabOk rfl rfl rfl rfl rfl rfl rfl rfl rfl rfl rfl rfl rfl (by unfold maxLen; omega) (by show (_ + _) * 16 ≤ _; omega) ?_
            rw [show pLog log ++ pRes rs = pLog (log ++ [rs]) by simp [pLog], show log.length + 1 = (log ++ [rs]).length by simp]
            refine goQ ?_
            refine go ?_
            exact ⟨(i + 1, m1, log ++ [rs]), ⟨by simp only; omega, by simp [hll], by simp only; rw [show 7 * rws.length + 10 - (i + 1) = k by omega]; exact c5⟩, by simp only; omega, Ghost.trans (lowS_ghost 15 rfl rfl) (zX)⟩
          · rw [if_pos rfl] at c3
            obtain ⟨c4, c5⟩ := c3
            refine go ?_
            rw [c4]
            by_cases hin : key ∈ ks
            · rw [decide_eq_true hin]
              rw [show (true == true) = true from rfl]
              refine go ?_
              refine goK ?_
              rw [c5 hin, show IntKind.i64.wrap key = key from wrap_id (by omega) (by omega), show IntKind.i64.wrap (key + 1) = key + 1 from wrap_id (by omega) (by omega), show decide (key + 1 = key + 1) = true by simp]
              first | refine fin_ret rfl ?_ | refine fin_normal rfl ?_
              rfl
            · rw [decide_eq_false hin]
              rw [show (false == false) = true from rfl]
              refine go ?_
              first | refine fin_ret rfl ?_ | refine fin_normal rfl ?_
              rfl
        · have h3' : i = 7 * rws.length + 10 := by have := of_decide_eq_false h3; omega
          rw [show 7 * rws.length + 10 - i = 0 by omega] at hal
          exact absurd hal id
  · refine go ?_
    first | refine fin_ret rfl ?_ | refine fin_normal rfl ?_
    rfl
end Go.Proofs.Ytefagncaepallaa
