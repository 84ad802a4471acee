/- Layouts of confs: their walk. -/
import Derived.Test.YtefagncaepallaaD2
import Derived.Test.YtefagncaepallaaShort
namespace Go.Proofs.Ytefagncaepallaa
open Go.RowKit
set_option maxRecDepth 100000

abbrev confD (s n ma st ch : Int) : List Dt := [dI s, dI n, dI 1, dI 1, dI 1, dI 0, dI ma, dI st, dI ch]
theorem part_i (at_ many each : Int) (h0 : 0 ≤ at_ ∧ at_ ≤ 1000000) (h1 : 0 ≤ many ∧ many ≤ 1000) (h2 : 0 ≤ each ∧ each ≤ 1000) :
    ImpC Try.prog 50 [2] [dI many, dI each, .ptr 2 0] [(2, [dI at_])] (fun d bs => d = dI at_ ∧ bs = [(2, [dI (at_ + many * each)])]) := by
  have hm1 : 0 ≤ many * each := Int.mul_nonneg (by omega) (by omega)
  have hm2 : many * each ≤ 1000 * 1000 := Int.mul_le_mul (by omega) (by omega) (by omega) (by omega)
  have ew : IntKind.i64.wrap (many * each) = many * each := wrap_id (by omega) (by omega)
  refine imp_fin tabOk Try.func50 rfl Try.ntmps50 rfl rfl rfl (by (repeat (first | exact trivial | refine ⟨rfl, ?_⟩))) fun w cl own kf => ?_
  refine go ?_
  rw [ew]
  refine go ?_
  refine finI_ret [(2, [dI (at_ + many * each)])] rfl rfl ⟨⟨rfl, rfl⟩, trivial⟩ ⟨rfl, trivial⟩ ⟨rfl, rfl⟩
theorem ahead_c : PureC Try.prog 51 [dI 1] (dI 4) := by
  refine pure_fin tabOk Try.func51 rfl Try.ntmps51 rfl rfl rfl fun w cl => ?_
  refine go ?_
  refine a_q (shlI_step 1 rfl rfl rfl rfl (by omega) (by omega) (by omega)) rfl rfl rfl ?_
  refine go ?_
  first | refine fin_ret rfl ?_ | refine fin_normal rfl ?_
  rfl
abbrev boundRows (s ma st ch : Int) : List Dt := [dI s, dI 1, dI 8, dI 1, dI 1, dI 64, dI 1, dI 1, dI 8, dI 1, dI 1, dI 64, dI 0, dI 0, dI 16, dI ma, dI 0, dI 8, dI st, dI 0, dI 8, dI ch, dI 0, dI 8]
theorem bound_row {s n ma st ch : Int} (h : ConfOk s n ma st ch) : ∀ i : Nat, i < 8 → ∃ x lo hi, ((boundRows s ma st ch).drop (i * 3)).take 3 = [dI x, dI lo, dI hi] ∧ lo ≤ x ∧ x ≤ hi := by
  obtain ⟨⟨a1, a2⟩, ⟨a3, a4⟩, ⟨a5, a6⟩, ⟨a7, a8⟩, ⟨a9, a10⟩⟩ := h
  intro i hi
  match i, hi with
  | 0, _ => exact ⟨s, 1, 8, rfl, by omega, by omega⟩
  | 1, _ => exact ⟨1, 1, 64, rfl, by omega, by omega⟩
  | 2, _ => exact ⟨1, 1, 8, rfl, by omega, by omega⟩
  | 3, _ => exact ⟨1, 1, 64, rfl, by omega, by omega⟩
  | 4, _ => exact ⟨0, 0, 16, rfl, by omega, by omega⟩
  | 5, _ => exact ⟨ma, 0, 8, rfl, by omega, by omega⟩
  | 6, _ => exact ⟨st, 0, 8, rfl, by omega, by omega⟩
  | 7, _ => exact ⟨ch, 0, 8, rfl, by omega, by omega⟩
theorem bounded_c {s n ma st ch : Int} (h : ConfOk s n ma st ch) : PureC Try.prog 49 [.agg (confD s n ma st ch)] (dB true) := by
  refine pure_fin tabOk Try.func49 rfl Try.ntmps49 rfl rfl rfl fun w cl => ?_
  refine go ?_
  refine awp_loop_ok (fun i : Nat => i ≤ 8) (fun i => ⟨[(32, dI i), (31, .agg (boundRows s ma st ch)), (1, .ptr 0 0)], [(0, confD s n ma st ch)], []⟩) (fun i => 8 - i) 0 (by omega) (zX) ?_
  intro i hi
  refine go ?_
  refine ck_b (fun h1 => ?_) (fun h1 => ?_) <;> try rw [h1]
  · have h1' := of_decide_eq_true h1
    obtain ⟨x, lo, hi', hr, hx0, hx1⟩ := bound_row h i (by omega)
    refine go ?_
    refine a_q (indexG_step tabOk [dI x, dI lo, dI hi'] rfl rfl rfl rfl rfl rfl (by omega) (by omega) (by rw [Int.toNat_natCast]; exact hr)) rfl rfl rfl ?_
    refine go ?_
    refine goP ?_
    rw [show decide (x < lo) = false by rw [decide_eq_false_iff_not]; omega]
    refine goP ?_
    rw [show decide (x > hi') = false by rw [decide_eq_false_iff_not]; omega]
    refine go ?_
    exact ⟨i + 1, by omega, by omega, zX⟩
  · refine go ?_
    first | refine fin_ret rfl ?_ | refine fin_normal rfl ?_
    rfl
theorem rings_c (l : LayT) (h : l.tasks = 1) : PureC Try.prog 52 [dLay l] (dI 1) := by
  obtain ⟨seats, nodes, buckets, slots, tasks, cells, maps, stacks, chans, done, count, era, free, alive, owner, resv, deque, ring, task, cell, map, stack, chan, node, size⟩ := l
  simp only at h
  subst h
  refine pure_fin tabOk Try.func52 rfl Try.ntmps52 rfl rfl rfl fun w cl => ?_
  refine go ?_
  refine a_q (max_step rfl rfl rfl) rfl rfl rfl ?_
  refine go ?_
  refine awp_loop_ok (fun _ : Unit => True) (fun _ => ⟨[(5, .p (.raw (.int .u64 4))), (4, .p (.raw (.int .u64 1))), (3, dI 1)], [], []⟩) (fun _ => 0) () trivial (zX) ?_
  intro _ _
  refine go ?_
  rw [show decide ((4 : Int) < 1) = false from rfl]
  refine go ?_
  first | refine fin_ret rfl ?_ | refine fin_normal rfl ?_
  rfl

abbrev partS (N at_ many each : Int) : Prop := ImpC Try.prog 50 [2] [dI many, dI each, .ptr 2 0] [(2, [dI at_])] (fun d bs => d = dI at_ ∧ bs = [(2, [dI N])])
theorem part_n (N at_ many each : Int) (h0 : 0 ≤ at_ ∧ at_ ≤ 1000000) (h1 : 0 ≤ many ∧ many ≤ 1000) (h2 : 0 ≤ each ∧ each ≤ 1000) (hN : N = at_ + many * each) : partS N at_ many each := by
  subst hN; exact part_i at_ many each h0 h1 h2
set_option maxHeartbeats 4000000 in
theorem layout_c {s n ma st ch : Int} (h : ConfOk s n ma st ch) : PureC Try.prog 26 [.agg (confD s n ma st ch)] (.tup [dLay (layF s n ma st ch), dI 0]) := by
  have hB := bounded_c h
  obtain ⟨⟨a1, a2⟩, ⟨a3, a4⟩, ⟨a5, a6⟩, ⟨a7, a8⟩, ⟨a9, a10⟩⟩ := h
  refine pure_fin tabOk Try.func26 rfl Try.ntmps26 rfl rfl rfl fun w cl => ?_
  refine go ?_
  refine a_q (call_step (hB) rfl (fun a w => Try.call49 a w) rfl) rfl rfl rfl ?_
  refine go ?_
  rw [show decide (n < ma + ch) = false by rw [decide_eq_false_iff_not]; omega]
  refine go ?_
  rw [show decide (n > 1000) = false by rw [decide_eq_false_iff_not]; omega]
  refine go ?_
  refine a_callvI (part_n (1) (0) (1) (1) (by omega) (by omega) (by omega) (by omega)) rfl (fun a w => Try.call50 a w) rfl rfl rfl (by (repeat (first | exact trivial | refine ⟨⟨rfl, rfl⟩, ?_⟩))) (by (repeat (first | exact trivial | refine ⟨.inr rfl, ?_⟩ | refine ⟨.inl rfl, ?_⟩))) rfl rfl rfl rfl ?_ ?_
  · rintro d bs ⟨rfl, rfl⟩; exact ⟨.inl rfl, trivial⟩
  rintro d bs ⟨rfl, rfl⟩
  refine go ?_
  refine a_callvI (part_n (2) (1) (1) (1) (by omega) (by omega) (by omega) (by omega)) rfl (fun a w => Try.call50 a w) rfl rfl rfl (by (repeat (first | exact trivial | refine ⟨⟨rfl, rfl⟩, ?_⟩))) (by (repeat (first | exact trivial | refine ⟨.inr rfl, ?_⟩ | refine ⟨.inl rfl, ?_⟩))) rfl rfl rfl rfl ?_ ?_
  · rintro d bs ⟨rfl, rfl⟩; exact ⟨.inl rfl, trivial⟩
  rintro d bs ⟨rfl, rfl⟩
  refine go ?_
  refine a_callvI (part_n (3) (2) (1) (1) (by omega) (by omega) (by omega) (by omega)) rfl (fun a w => Try.call50 a w) rfl rfl rfl (by (repeat (first | exact trivial | refine ⟨⟨rfl, rfl⟩, ?_⟩))) (by (repeat (first | exact trivial | refine ⟨.inr rfl, ?_⟩ | refine ⟨.inl rfl, ?_⟩))) rfl rfl rfl rfl ?_ ?_
  · rintro d bs ⟨rfl, rfl⟩; exact ⟨.inl rfl, trivial⟩
  rintro d bs ⟨rfl, rfl⟩
  refine go ?_
  refine a_callvI (part_n (4) (3) (1) (1) (by omega) (by omega) (by omega) (by omega)) rfl (fun a w => Try.call50 a w) rfl rfl rfl (by (repeat (first | exact trivial | refine ⟨⟨rfl, rfl⟩, ?_⟩))) (by (repeat (first | exact trivial | refine ⟨.inr rfl, ?_⟩ | refine ⟨.inl rfl, ?_⟩))) rfl rfl rfl rfl ?_ ?_
  · rintro d bs ⟨rfl, rfl⟩; exact ⟨.inl rfl, trivial⟩
  rintro d bs ⟨rfl, rfl⟩
  refine go ?_
  refine a_callvI (part_n (4 + s) (4) (s) (1) (by omega) (by omega) (by omega) (by omega)) rfl (fun a w => Try.call50 a w) rfl rfl rfl (by (repeat (first | exact trivial | refine ⟨⟨rfl, rfl⟩, ?_⟩))) (by (repeat (first | exact trivial | refine ⟨.inr rfl, ?_⟩ | refine ⟨.inl rfl, ?_⟩))) rfl rfl rfl rfl ?_ ?_
  · rintro d bs ⟨rfl, rfl⟩; exact ⟨.inl rfl, trivial⟩
  rintro d bs ⟨rfl, rfl⟩
  refine go ?_
  refine a_callvI (part_n (4 + 2 * s) (4 + s) (s) (1) (by omega) (by omega) (by omega) (by omega)) rfl (fun a w => Try.call50 a w) rfl rfl rfl (by (repeat (first | exact trivial | refine ⟨⟨rfl, rfl⟩, ?_⟩))) (by (repeat (first | exact trivial | refine ⟨.inr rfl, ?_⟩ | refine ⟨.inl rfl, ?_⟩))) rfl rfl rfl rfl ?_ ?_
  · rintro d bs ⟨rfl, rfl⟩; exact ⟨.inl rfl, trivial⟩
  rintro d bs ⟨rfl, rfl⟩
  refine go ?_
  refine a_callvI (part_n (4 + 5 * s) (4 + 2 * s) (s) (3) (by omega) (by omega) (by omega) (by omega)) rfl (fun a w => Try.call50 a w) rfl rfl rfl (by (repeat (first | exact trivial | refine ⟨⟨rfl, rfl⟩, ?_⟩))) (by (repeat (first | exact trivial | refine ⟨.inr rfl, ?_⟩ | refine ⟨.inl rfl, ?_⟩))) rfl rfl rfl rfl ?_ ?_
  · rintro d bs ⟨rfl, rfl⟩; exact ⟨.inl rfl, trivial⟩
  rintro d bs ⟨rfl, rfl⟩
  refine go ?_
  refine a_callvI (part_n (4 + 8 * s) (4 + 5 * s) (s) (3) (by omega) (by omega) (by omega) (by omega)) rfl (fun a w => Try.call50 a w) rfl rfl rfl (by (repeat (first | exact trivial | refine ⟨⟨rfl, rfl⟩, ?_⟩))) (by (repeat (first | exact trivial | refine ⟨.inr rfl, ?_⟩ | refine ⟨.inl rfl, ?_⟩))) rfl rfl rfl rfl ?_ ?_
  · rintro d bs ⟨rfl, rfl⟩; exact ⟨.inl rfl, trivial⟩
  rintro d bs ⟨rfl, rfl⟩
  refine go ?_
  refine awp_region_w 6 [] rfl rfl (by kernel_rfl) (by kernel_rfl) (by kernel_rfl) ?_
  refine goQ ?_
  refine r_q (call_step (rings_c ⟨s, n, 1, 1, 1, 0, ma, st, ch, 0, 1, 2, 3, 4, 4 + s, 4 + 2 * s, 4 + 5 * s, 0, 0, 0, 0, 0, 0, 0, 0⟩ rfl) rfl (fun a w => Try.call52 a w) rfl) rfl rfl ?_
  refine goQ ?_
  refine r_q (call_step (ahead_c) rfl (fun a w => Try.call51 a w) rfl) rfl rfl ?_
  refine goQ ?_
  refine a_callvI (part_n (4 + 12 * s) (4 + 8 * s) (s) (4) (by omega) (by omega) (by omega) (by omega)) rfl (fun a w => Try.call50 a w) rfl rfl rfl (by (repeat (first | exact trivial | refine ⟨⟨rfl, rfl⟩, ?_⟩))) (by (repeat (first | exact trivial | refine ⟨.inr rfl, ?_⟩ | refine ⟨.inl rfl, ?_⟩))) rfl rfl rfl rfl ?_ ?_
  · rintro d bs ⟨rfl, rfl⟩; exact ⟨.inl rfl, trivial⟩
  rintro d bs ⟨rfl, rfl⟩
  refine go ?_
  refine a_callvI (part_n (8 + 12 * s) (4 + 12 * s) (1) (4) (by omega) (by omega) (by omega) (by omega)) rfl (fun a w => Try.call50 a w) rfl rfl rfl (by (repeat (first | exact trivial | refine ⟨⟨rfl, rfl⟩, ?_⟩))) (by (repeat (first | exact trivial | refine ⟨.inr rfl, ?_⟩ | refine ⟨.inl rfl, ?_⟩))) rfl rfl rfl rfl ?_ ?_
  · rintro d bs ⟨rfl, rfl⟩; exact ⟨.inl rfl, trivial⟩
  rintro d bs ⟨rfl, rfl⟩
  refine go ?_
  refine a_callvI (part_n (8 + 12 * s) (8 + 12 * s) (0) (1) (by omega) (by omega) (by omega) (by omega)) rfl (fun a w => Try.call50 a w) rfl rfl rfl (by (repeat (first | exact trivial | refine ⟨⟨rfl, rfl⟩, ?_⟩))) (by (repeat (first | exact trivial | refine ⟨.inr rfl, ?_⟩ | refine ⟨.inl rfl, ?_⟩))) rfl rfl rfl rfl ?_ ?_
  · rintro d bs ⟨rfl, rfl⟩; exact ⟨.inl rfl, trivial⟩
  rintro d bs ⟨rfl, rfl⟩
  refine go ?_
  refine a_callvI (part_n (8 + 12 * s + 3 * ma) (8 + 12 * s) (ma) (2 + 1) (by omega) (by omega) (by omega) (by omega)) rfl (fun a w => Try.call50 a w) rfl rfl rfl (by (repeat (first | exact trivial | refine ⟨⟨rfl, rfl⟩, ?_⟩))) (by (repeat (first | exact trivial | refine ⟨.inr rfl, ?_⟩ | refine ⟨.inl rfl, ?_⟩))) rfl rfl rfl rfl ?_ ?_
  · rintro d bs ⟨rfl, rfl⟩; exact ⟨.inl rfl, trivial⟩
  rintro d bs ⟨rfl, rfl⟩
  refine go ?_
  refine a_callvI (part_n (8 + 12 * s + 3 * ma + 2 * st) (8 + 12 * s + 3 * ma) (st) (1 + 1) (by omega) (by omega) (by omega) (by omega)) rfl (fun a w => Try.call50 a w) rfl rfl rfl (by (repeat (first | exact trivial | refine ⟨⟨rfl, rfl⟩, ?_⟩))) (by (repeat (first | exact trivial | refine ⟨.inr rfl, ?_⟩ | refine ⟨.inl rfl, ?_⟩))) rfl rfl rfl rfl ?_ ?_
  · rintro d bs ⟨rfl, rfl⟩; exact ⟨.inl rfl, trivial⟩
  rintro d bs ⟨rfl, rfl⟩
  refine go ?_
  refine a_callvI (part_n (8 + 12 * s + 3 * ma + 2 * st + 2 * ch) (8 + 12 * s + 3 * ma + 2 * st) (ch) (2) (by omega) (by omega) (by omega) (by omega)) rfl (fun a w => Try.call50 a w) rfl rfl rfl (by (repeat (first | exact trivial | refine ⟨⟨rfl, rfl⟩, ?_⟩))) (by (repeat (first | exact trivial | refine ⟨.inr rfl, ?_⟩ | refine ⟨.inl rfl, ?_⟩))) rfl rfl rfl rfl ?_ ?_
  · rintro d bs ⟨rfl, rfl⟩; exact ⟨.inl rfl, trivial⟩
  rintro d bs ⟨rfl, rfl⟩
  refine go ?_
  refine a_callvI (part_n (8 + 12 * s + 3 * ma + 2 * st + 2 * ch + 8 * n) (8 + 12 * s + 3 * ma + 2 * st + 2 * ch) (n) (8) (by omega) (by omega) (by omega) (by omega)) rfl (fun a w => Try.call50 a w) rfl rfl rfl (by (repeat (first | exact trivial | refine ⟨⟨rfl, rfl⟩, ?_⟩))) (by (repeat (first | exact trivial | refine ⟨.inr rfl, ?_⟩ | refine ⟨.inl rfl, ?_⟩))) rfl rfl rfl rfl ?_ ?_
  · rintro d bs ⟨rfl, rfl⟩; exact ⟨.inl rfl, trivial⟩
  rintro d bs ⟨rfl, rfl⟩
  refine go ?_
  first | refine fin_ret rfl ?_ | refine fin_normal rfl ?_
  rfl
end Go.Proofs.Ytefagncaepallaa
