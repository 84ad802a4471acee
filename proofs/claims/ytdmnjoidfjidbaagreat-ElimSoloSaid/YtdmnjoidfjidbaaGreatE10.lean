/- The document's layouts: their walk. -/
import Derived.Test.YtdmnjoidfjidbaaGreatD21
import Derived.Test.YtdmnjoidfjidbaaGreatE9
namespace Go.Proofs.YtdmnjoidfjidbaaGreat
open Go.RowKit
set_option maxRecDepth 100000

abbrev confE (s n sl : Int) : List Dt := [dI s, dI n, dI 1, dI sl, dI 1, dI 0, dI 0, dI 1, dI 0]
theorem refin_t (n a b : Int) (h : a ≤ n ∧ n ≤ b) : PureC Tryz.prog 52 [dI n, dI a, dI b] (dB true) := by
  have := refin_c n a b
  rwa [show (decide (a ≤ n) && decide (n ≤ b)) = true by rw [Bool.and_eq_true]; exact ⟨decide_eq_true h.1, decide_eq_true h.2⟩] at this
theorem may_c (s n sl : Int) (hs : 1 ≤ s ∧ s ≤ 8) (hl : 1 ≤ sl ∧ sl ≤ 8) : PureC Tryz.prog 53 [.agg (confE s n sl)] (dB true) := by
  refine pure_fin tabOk Tryz.func53 rfl Tryz.ntmps53 rfl rfl rfl fun w cl => ?_
  refine go ?_
  refine awp_loop_ok (fun i : Nat => i ≤ 7) (fun i => ⟨[(4, dI ((2 : Int) ^ i)), (3, dB (decide (0 < i))), (1, .ptr 0 0)], [(0, confE s n sl)], []⟩) (fun i => 7 - i) 0 (by omega) (zX) ?_
  intro i hi
  rcases (show i = 0 ∨ i = 1 ∨ i = 2 ∨ i = 3 ∨ i = 4 ∨ i = 5 ∨ i = 6 ∨ i = 7 by omega) with rfl | rfl | rfl | rfl | rfl | rfl | rfl | rfl
  · refine (show AWP _ _ _ _ ⟨[(4, dI 1), (3, dB false), (1, .ptr 0 0)], [(0, confE s n sl)], []⟩ from ?_)
    refine go ?_
    rw [show decide ((1 : Int) ≤ 64) = true from rfl]
    refine go ?_
    rw [show decide ((1 : Int) = 1) = true from rfl]
    refine go ?_
    exact ⟨1, by omega, by omega, zX⟩
  · refine (show AWP _ _ _ _ ⟨[(4, dI 2), (3, dB true), (1, .ptr 0 0)], [(0, confE s n sl)], []⟩ from ?_)
    refine go ?_
    rw [show decide ((2 : Int) ≤ 64) = true from rfl]
    refine go ?_
    exact ⟨2, by omega, by omega, zX⟩
  · refine (show AWP _ _ _ _ ⟨[(4, dI 4), (3, dB true), (1, .ptr 0 0)], [(0, confE s n sl)], []⟩ from ?_)
    refine go ?_
    rw [show decide ((4 : Int) ≤ 64) = true from rfl]
    refine go ?_
    exact ⟨3, by omega, by omega, zX⟩
  · refine (show AWP _ _ _ _ ⟨[(4, dI 8), (3, dB true), (1, .ptr 0 0)], [(0, confE s n sl)], []⟩ from ?_)
    refine go ?_
    rw [show decide ((8 : Int) ≤ 64) = true from rfl]
    refine go ?_
    exact ⟨4, by omega, by omega, zX⟩
  · refine (show AWP _ _ _ _ ⟨[(4, dI 16), (3, dB true), (1, .ptr 0 0)], [(0, confE s n sl)], []⟩ from ?_)
    refine go ?_
    rw [show decide ((16 : Int) ≤ 64) = true from rfl]
    refine go ?_
    exact ⟨5, by omega, by omega, zX⟩
  · refine (show AWP _ _ _ _ ⟨[(4, dI 32), (3, dB true), (1, .ptr 0 0)], [(0, confE s n sl)], []⟩ from ?_)
    refine go ?_
    rw [show decide ((32 : Int) ≤ 64) = true from rfl]
    refine go ?_
    exact ⟨6, by omega, by omega, zX⟩
  · refine (show AWP _ _ _ _ ⟨[(4, dI 64), (3, dB true), (1, .ptr 0 0)], [(0, confE s n sl)], []⟩ from ?_)
    refine go ?_
    rw [show decide ((64 : Int) ≤ 64) = true from rfl]
    refine go ?_
    exact ⟨7, by omega, by omega, zX⟩
  · refine (show AWP _ _ _ _ ⟨[(4, dI 128), (3, dB true), (1, .ptr 0 0)], [(0, confE s n sl)], []⟩ from ?_)
    refine go ?_
    rw [show decide ((128 : Int) ≤ 64) = false from rfl]
    refine go ?_
    refine a_q (call_step (refin_t s 1 8 hs) rfl (fun a w => Tryz.call52 a w) rfl) rfl rfl rfl ?_
    refine go ?_
    refine a_q (call_step (refin_t sl 1 8 hl) rfl (fun a w => Tryz.call52 a w) rfl) rfl rfl rfl ?_
    refine go ?_
    refine a_q (call_step (refin_t 1 1 64 (by omega)) rfl (fun a w => Tryz.call52 a w) rfl) rfl rfl rfl ?_
    refine go ?_
    refine a_q (call_step (refin_t 0 0 16 (by omega)) rfl (fun a w => Tryz.call52 a w) rfl) rfl rfl rfl ?_
    refine go ?_
    refine a_q (call_step (refin_t 0 0 8 (by omega)) rfl (fun a w => Tryz.call52 a w) rfl) rfl rfl rfl ?_
    refine go ?_
    refine a_q (call_step (refin_t 1 0 8 (by omega)) rfl (fun a w => Tryz.call52 a w) rfl) rfl rfl rfl ?_
    refine go ?_
    refine a_q (call_step (refin_t 0 0 8 (by omega)) rfl (fun a w => Tryz.call52 a w) rfl) rfl rfl rfl ?_
    refine go ?_
    first | refine fin_ret rfl ?_ | refine fin_normal rfl ?_
    rfl
theorem refrings_c (l : LayT) (h : l.tasks = 1) : PureC Tryz.prog 54 [dLay l] (dI 1) := by
  obtain ⟨seats, nodes, buckets, slots, tasks, cells, maps, stacks, chans, done, count, era, free, alive, owner, resv, deque, ring, task, cell, map, stack, chan, node, size⟩ := l
  simp only at h
  subst h
  refine pure_fin tabOk Tryz.func54 rfl Tryz.ntmps54 rfl rfl rfl fun w cl => ?_
  refine go ?_
  refine awp_loop_ok (fun _ : Unit => True) (fun _ => ⟨[(4, dI 4), (3, dI 1), (1, .ptr 0 0)], [(0, layD ⟨seats, nodes, buckets, slots, 1, cells, maps, stacks, chans, done, count, era, free, alive, owner, resv, deque, ring, task, cell, map, stack, chan, node, size⟩)], []⟩) (fun _ => 0) () trivial (zX) ?_
  intro _ _
  refine go ?_
  rw [show decide ((4 : Int) < 1) = false from rfl]
  refine go ?_
  first | refine fin_ret rfl ?_ | refine fin_normal rfl ?_
  rfl
theorem room_c : PureC Tryz.prog 55 [dI 1] (dI 4) := by
  refine pure_fin tabOk Tryz.func55 rfl Tryz.ntmps55 rfl rfl rfl fun w cl => ?_
  refine go ?_
  refine awp_loop_ok (fun i : Nat => i ≤ 1) (fun i => ⟨[(0, dI 1), (5, dI i), (4, dI (if i = 0 then 4 else 8)), (3, dI (if i = 0 then 0 else 4))], [], []⟩) (fun i => 1 - i) 0 (by omega) (zX) ?_
  intro i hi
  rcases (show i = 0 ∨ i = 1 by omega) with rfl | rfl
  · refine (show AWP _ _ _ _ ⟨[(0, dI 1), (5, dI 0), (4, dI 4), (3, dI 0)], [], []⟩ from ?_)
    refine go ?_
    rw [show decide ((0 : Int) < 1) = true from rfl]
    refine go ?_
    exact ⟨1, by omega, by omega, zX⟩
  · refine (show AWP _ _ _ _ ⟨[(0, dI 1), (5, dI 1), (4, dI 8), (3, dI 4)], [], []⟩ from ?_)
    refine go ?_
    rw [show decide ((1 : Int) < 1) = false from rfl]
    refine go ?_
    first | refine fin_ret rfl ?_ | refine fin_normal rfl ?_
    rfl
set_option maxHeartbeats 4000000 in
theorem refof_lay (s n sl : Int) (hs : 1 ≤ s ∧ s ≤ 8) (hl : 1 ≤ sl ∧ sl ≤ 8) (hn : 0 ≤ n ∧ n ≤ 1000) : PureC Tryz.prog 20 [.agg (confE s n sl)] (.tup [dLay (layE s n sl), dI 0]) := by
  refine pure_fin tabOk Tryz.func20 rfl Tryz.ntmps20 rfl rfl rfl fun w cl => ?_
  refine go ?_
  refine a_q (call_step (may_c s n sl hs hl) rfl (fun a w => Tryz.call53 a w) rfl) rfl rfl rfl ?_
  refine go ?_
  refine a_q (call_step (refin_t n 0 1000 hn) rfl (fun a w => Tryz.call52 a w) rfl) rfl rfl rfl ?_
  refine go ?_
  refine a_q (call_step (refrings_c ⟨s, n, 1, sl, 1, 0, 0, 1, 0, 0, 1, 2, 3, 4, 0, 0, 0, 0, 0, 0, 0, 0, 0, 0, 0⟩ rfl) rfl (fun a w => Tryz.call54 a w) rfl) rfl rfl rfl ?_
  refine go ?_
  rw [show IntKind.i64.wrap (3 * s) = 3 * s from wrap_id (by omega) (by omega)]
  refine go ?_
  refine awp_region_w 7 [] rfl rfl (by kernel_rfl) (by kernel_rfl) (by kernel_rfl) ?_
  refine goQ ?_
  refine r_q (call_step (room_c) rfl (fun a w => Tryz.call55 a w) rfl) rfl rfl ?_
  refine goQ ?_
  rw [show IntKind.i64.wrap (s * 4) = s * 4 from wrap_id (by omega) (by omega)]
  refine go ?_
  have ww : ∀ a b : Int, a = b → 0 ≤ b ∧ b ≤ 100000 → IntKind.i64.wrap a = b := fun a b h h2 => by rw [h]; exact wrap_id (by omega) (by omega)
  rw [show 4 + s + s = 4 + 2 * s by omega, ww (4 + 2 * s + 3 * s) (4 + 5 * s) (by omega) (by omega), ww (4 + 5 * s + 3 * s) (4 + 8 * s) (by omega) (by omega), ww (4 + 8 * s + s * 4) (4 + 12 * s) (by omega) (by omega), ww (4 * 1) 4 (by omega) (by omega), ww (4 + 12 * s + 4) (8 + 12 * s) (by omega) (by omega), ww (0 * (1 + 2)) 0 (by omega) (by omega), ww (8 + 12 * s + 0) (8 + 12 * s) (by omega) (by omega), ww (8 + 12 * s + 0) (8 + 12 * s) (by omega) (by omega), ww (1 * (sl + 1)) (sl + 1) (by omega) (by omega), ww (8 + 12 * s + (sl + 1)) (9 + 12 * s + sl) (by omega) (by omega), ww (2 * 0) 0 (by omega) (by omega), ww (9 + 12 * s + sl + 0) (9 + 12 * s + sl) (by omega) (by omega), ww (8 * n) (8 * n) rfl (by omega), ww (9 + 12 * s + sl + 8 * n) (9 + 12 * s + sl + 8 * n) rfl (by omega)]
  first | refine fin_ret rfl ?_ | refine fin_normal rfl ?_
  rfl
end Go.Proofs.YtdmnjoidfjidbaaGreat
