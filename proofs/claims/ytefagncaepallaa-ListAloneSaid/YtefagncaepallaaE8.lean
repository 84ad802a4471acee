/- Rows of pairs that are compared, and the chapter's example: their walks. -/
import Derived.Test.YtefagncaepallaaE7
import Derived.Test.YtefagncaepallaaE3
import Derived.Test.YtefagncaepallaaE4
import Derived.Test.YtefagncaepallaaShort
namespace Go.Proofs.Ytefagncaepallaa
open Go.RowKit
set_option maxRecDepth 100000

section
variable {P : Program} {T : Nat → Option TI} {S : Nat → Option Dt} {B : Nat → Option (List Dt)} {o : Oper}
theorem ne2_step (hT : TabOk P T) {t el u : TypeId} {x y : Operand} {a b c d : Int} {i : TI} (ho : o.op = .binOp .neq t x y u) (hu : P.underlying t = some (.array 2 el)) (he : P.underlying el = some (.int .i64)) (hel : T el = some i) (hs : i.sz = 1) (hag : i.k.agg = false) (hgt : P.eqGuardType P.depth t = false) (hx : ev S x = some (.agg [dI a, dI b])) (hy : ev S y = some (.agg [dI c, dI d])) : QStep P o S B (dB (!(decide (a = c) && decide (b = d)))) none := by
  refine qstep_run fun ac e hse => ?_
  have h1 := pair_rep (hse.1 x (by rw [ho]; simp [Op.operands]) _ hx)
  have h2 := pair_rep (hse.1 y (by rw [ho]; simp [Op.operands]) _ hy)
  obtain ⟨f, hf, hs0, _⟩ := hT.info el i hel
  have hcz : P.cellsOf el = 1 := by simp [Program.cellsOf, hf, hs0, hs]
  have hi := run_isAgg hT hel
  have hint : ∀ (k : Nat) (p q : Int) (w : World), (Op.equalIn (k + 1) el (.int .i64 p) (.int .i64 q)).run P w = .ok (p == q) w := fun k p q w => by simp [Op.equalIn, run_underlying he]
  have harr := fun (w : World) => Go.run_equalIn_array (P := P) w 9999 #[Value.int .i64 a, .int .i64 b] #[Value.int .i64 c, .int .i64 d] hu hf
  refine ⟨.bool (!(decide (a = c) && decide (b = d))), ?_, .p (.raw _)⟩
  obtain ⟨dst, op, type, pos, after, guard⟩ := o
  simp only at ho
  subst ho
  have hb : (binOp .neq t (.agg #[.int .i64 a, .int .i64 b]) (.agg #[.int .i64 c, .int .i64 d])).run P e.w = .ok (.bool (!(decide (a = c) && decide (b = d)))) e.w := by
    have hz : ∀ (p q : Int) (w : World), (Op.equalIn 9999 el (.int .i64 p) (.int .i64 q)).run P w = .ok (p == q) w := fun p q w => hint 9998 p q w
    have harr' : ∀ w : World, (Op.equalIn 10000 t (.agg #[Value.int .i64 a, .int .i64 b]) (.agg #[Value.int .i64 c, .int .i64 d])).run P w = (Op.eqItems 9999 el (P.cellsOf el) #[Value.int .i64 a, .int .i64 b] #[Value.int .i64 c, .int .i64 d] [0, 1]).run P w := harr
    simp only [binOp, Op.equal, Op.maxDepth, Sem.run_bind, harr', hcz]
    generalize 9999 = K at hz
    by_cases k1 : a = c
    · by_cases k2 : b = d
      · simp [Op.eqItems, part, hi, hag, hz, k1, k2]
      · simp [Op.eqItems, part, hi, hag, hz, k1, k2]
    · simp [Op.eqItems, part, hi, hag, hz, k1]
  simp [execOp, h1, h2, eqGuard, hgt, hb]
end
theorem pair_take {α : Type} {xs ys : List α} {i : Nat} {x y : α} (hx : xs[i]? = some x) (hy : ys[i]? = some y) (h : xs.take i = ys.take i) (e : x = y) : xs.take (i + 1) = ys.take (i + 1) := by
  rw [List.take_add_one, List.take_add_one, hx, hy, h, e]
theorem pairs_c (xs ys : List (Int × Int)) (h1 : xs.length ≤ 100000) (h2 : ys.length ≤ 100000) : PureC Try.prog 23 [dGone xs, dGone ys] (dB (decide (xs = ys))) := by
  generalize hE : decide (xs = ys) = E
  refine pure_fin tabOk Try.func23 rfl Try.ntmps23 rfl rfl rfl fun w cl => ?_
  refine go ?_
  generalize h0 : decide ((xs.length : Int) = (ys.length : Int)) = cc; cases cc
  · have h0' := of_decide_eq_false h0
    refine go ?_
    first | refine fin_ret rfl ?_ | refine fin_normal rfl ?_
    rw [← hE, decide_eq_false fun e => h0' (by rw [e])]
  · have h0' : xs.length = ys.length := by have := of_decide_eq_true h0; omega
    refine go ?_
    refine awp_loop_ok (fun i : Nat => i ≤ xs.length ∧ xs.take i = ys.take i) (fun i => ⟨[(5, dI i), (0, dGone xs), (1, dGone ys)], [], []⟩) (fun i => xs.length - i) 0 ⟨by omega, rfl⟩ (zX) ?_
    rintro i ⟨hi, ht⟩
    refine go ?_
    refine ck_b (fun h3 => ?_) (fun h3 => ?_) <;> try rw [h3]
    · have h3' := of_decide_eq_true h3
      obtain ⟨x, hx⟩ := getI (l := xs) (i := i) (by omega) h3'
      obtain ⟨y, hy⟩ := getI (l := ys) (i := i) (by omega) (by omega)
      have hx' := hx
      have hy' := hy
      simp only [Int.toNat_natCast] at hx' hy'
      refine go ?_
      refine awp_region_q [] rfl (by kernel_rfl) (by kernel_rfl) ?_
      refine goQ ?_
      refine r_q (indexAddr_step tabOk [pI x.1, pI x.2] rfl rfl rfl rfl rfl rfl (by first | omega | (simp; done) | (simp; omega)) (by first | omega | (simp; done) | (simp; omega)) (by first | (simp; done) | exact List.cons_ne_nil _ _) (gone_idx hx)) rfl rfl ?_
      refine goQ ?_
      refine r_q (indexAddr_step tabOk [pI y.1, pI y.2] rfl rfl rfl rfl rfl rfl (by first | omega | (simp; done) | (simp; omega)) (by first | omega | (simp; done) | (simp; omega)) (by first | (simp; done) | exact List.cons_ne_nil _ _) (gone_idx hy)) rfl rfl ?_
      refine goQ ?_
      refine r_q (ne2_step tabOk rfl Try.underlying59 Try.underlying3 rfl rfl rfl (by kernel_rfl) rfl rfl) rfl rfl ?_
      refine goQ ?_
      refine go ?_
      have hb : (decide (x.1 = y.1) && decide (x.2 = y.2)) = decide (x = y) := by
        obtain ⟨x1, x2⟩ := x
        obtain ⟨y1, y2⟩ := y
        simp [Bool.decide_and]
      rw [hb]
      generalize h4 : decide (x = y) = cc; cases cc
      · have h4' := of_decide_eq_false h4
        refine go ?_
        first | refine fin_ret rfl ?_ | refine fin_normal rfl ?_
        rw [← hE, decide_eq_false fun e => h4' (by rw [e] at hx'; rw [hx'] at hy'; cases hy'; rfl)]
      · refine go ?_
        exact ⟨i + 1, ⟨by omega, pair_take hx' hy' ht (of_decide_eq_true h4)⟩, by omega, zX⟩
    · have h3' := of_decide_eq_false h3
      refine go ?_
      first | refine fin_ret rfl ?_ | refine fin_normal rfl ?_
      rw [List.take_of_length_le (by omega), List.take_of_length_le (by omega)] at ht
      rw [← hE, decide_eq_true ht]
theorem steps_idx {l : List StepT} {i : Int} {s : StepT} (h : l[i.toNat]? = some s) : ∀ (m : Nat) q, (pStep s)[m]? = some q → (pSteps l)[i.toNat * 19 + m]? = some q := flat_idx (f := pStep) (k := 19) (fun _ => rfl) h
def awL (q : Int) (s : StepT) : Int := if s.done then (if s.out.is then 2 * q + 1 else 2 * q) else q
def awakeB (R : PlayedT) (l : LayT) : Bool := R.ends && decide (R.steps.foldl awL 0 = 13) && decide (rowF l R.m l.map = [(1, 10)]) && decide (R.gone = [[(1, 1)]]) && decide ((listF l R.m).length = 2) && R.m.all (fun x => decide (x < 9223372036854775808)) && decide (R.steps.length ≤ 1000)
theorem awake_true : awakeB (playedF plainP) (layP plainP) = true := by kernel_rfl
theorem awL_le (l : List StepT) : ∀ q : Int, 0 ≤ q → q ≤ l.foldl awL q := by
  induction l with
  | nil => intro q _; simp
  | cons s l ih =>
    intro q hq
    rw [List.foldl_cons]
    have h1 : q ≤ awL q s := by unfold awL; split <;> (try split) <;> omega
    have h := ih (awL q s) (by omega)
    omega
theorem plain_ok : PlayG plainP := ⟨⟨by decide, by decide, by decide, by decide, by simp [plainP], by decide⟩, by simp [plainP], by simp [plainP]⟩
set_option maxHeartbeats 8000000 in
theorem awake_c : PureC Try.prog 8 [] (dB true) := by
  have hB := awake_true
  have hP := played_c plainP plain_ok
  have hW := where_c plainP (by decide) (by decide) (by decide)
  have hL : LayOk (layP plainP) := layP_ok (by decide) (by decide)
  generalize layP plainP = l at *
  generalize playedF plainP = R at *
  unfold awakeB at hB
  simp only [Bool.and_eq_true, decide_eq_true_eq, List.all_eq_true] at hB
  obtain ⟨⟨⟨⟨⟨⟨b1, b2⟩, b3⟩, b4⟩, b5⟩, b6⟩, b7⟩ := hB
  obtain ⟨steps, m, gone, ends⟩ := R
  simp only at b1 b2 b3 b4 b5 b6 b7
  subst b1
  subst b4
  have hRow := row_c l hL m l.map
  rw [b3] at hRow
  have hLi := list_c l hL m b6
  generalize listF l m = ls at *
  have hpc := plainP_c
  generalize plainP = pp at *
  refine pure_fin tabOk Try.func8 rfl Try.ntmps8 rfl rfl rfl fun w cl => ?_
  refine go ?_
  refine a_q (call_step (hpc) rfl (fun a w => Try.call25 a w) rfl) rfl rfl rfl ?_
  refine go ?_
  refine a_q (call_step (hW) rfl (fun a w => Try.call10 a w) rfl) rfl rfl rfl ?_
  refine go ?_
  refine a_q (call_step (hpc) rfl (fun a w => Try.call25 a w) rfl) rfl rfl rfl ?_
  refine go ?_
  refine a_q (call_step (hP) rfl (fun a w => Try.call11 a w) rfl) rfl rfl rfl ?_
  refine go ?_
  refine awp_loop_ok (fun i : Nat => i ≤ steps.length) (fun i => ⟨[(7, dI i), (6, dI ((steps.take i).foldl awL 0)), (2, dSteps steps), (1, .ptr 0 0), (3, .ptr 2 0), (4, dGones [[(1, 1)]]), (5, dB true)], [(0, layD l), (2, [dInts m])], []⟩) (fun i => steps.length - i) 0 (by omega) (zX) ?_
  intro i hi
  refine go ?_
  refine ck_b (fun h1 => ?_) (fun h1 => ?_) <;> try rw [h1]
  · have h1' := of_decide_eq_true h1
    obtain ⟨s, hs⟩ := getI (l := steps) (i := i) (by omega) h1'
    have hs' := hs
    simp only [Int.toNat_natCast] at hs'
    have ht : (steps.take (i + 1)).foldl awL 0 = awL ((steps.take i).foldl awL 0) s := by
      rw [List.take_add_one, hs', List.foldl_append]; rfl
    have hq0 := awL_le (steps.take i) 0 (by omega)
    have hq1 : (steps.take i).foldl awL 0 ≤ 13 := by
      rw [← b2]
      conv => rhs; rw [← List.take_append_drop i steps, List.foldl_append]
      exact awL_le _ _ hq0
    generalize (steps.take i).foldl awL 0 = q at *
    refine go ?_
    refine a_q (indexAddr_step tabOk (pStep s) rfl rfl rfl rfl rfl rfl (by first | omega | (simp; done) | (simp; omega)) (by first | omega | (simp; done) | (simp; omega)) (by first | (simp; done) | exact List.cons_ne_nil _ _) (steps_idx hs)) rfl rfl rfl ?_
    refine go ?_
    generalize h2 : s.done = cc; cases cc
    · refine go ?_
      refine ⟨i + 1, by omega, by omega, ?_⟩
      rw [ht, awL, h2]
      exact zX
    · refine go ?_
      rw [show IntKind.i64.wrap (2 * q) = 2 * q from wrap_id (by omega) (by omega)]
      refine go ?_
      refine a_q (indexAddr_step tabOk (pStep s) rfl rfl rfl rfl rfl rfl (by first | omega | (simp; done) | (simp; omega)) (by first | omega | (simp; done) | (simp; omega)) (by first | (simp; done) | exact List.cons_ne_nil _ _) (steps_idx hs)) rfl rfl rfl ?_
      refine go ?_
      generalize h3 : s.out.is = cc; cases cc
      · refine go ?_
        refine ⟨i + 1, by omega, by omega, ?_⟩
        rw [ht, awL, h2, h3]
        exact zX
      · refine go ?_
        refine ⟨i + 1, by omega, by omega, ?_⟩
        rw [ht, awL, h2, h3]
        exact zX
  · have h1' := of_decide_eq_false h1
    rw [List.take_of_length_le (by omega), b2]
    refine go ?_
    refine a_q (call_step (hRow) rfl (fun a w => Try.call19 a w) rfl) rfl rfl rfl ?_
    refine go ?_
    refine a_q (call_step (pairs_c [(1, 10)] [(1, 10)] (by simp) (by simp)) rfl (fun a w => Try.call23 a w) rfl) rfl rfl rfl ?_
    refine go ?_
    refine a_q (indexAddr_step tabOk [plGone [(1, 1)]] rfl rfl rfl rfl rfl rfl (by first | omega | (simp; done) | (simp; omega)) (by first | omega | (simp; done) | (simp; omega)) (by first | (simp; done) | exact List.cons_ne_nil _ _) (map_idx (l := [[(1, 1)]]) (i := 0) rfl)) rfl rfl rfl ?_
    refine go ?_
    refine a_q (indexAddr_step tabOk [plGone [(1, 1)]] rfl rfl rfl rfl rfl rfl (by first | omega | (simp; done) | (simp; omega)) (by first | omega | (simp; done) | (simp; omega)) (by first | (simp; done) | exact List.cons_ne_nil _ _) (map_idx (l := [[(1, 1)]]) (i := 0) rfl)) rfl rfl rfl ?_
    refine go ?_
    refine a_q (indexAddr_step tabOk [pI 1, pI 1] rfl rfl rfl rfl rfl rfl (by first | omega | (simp; done) | (simp; omega)) (by first | omega | (simp; done) | (simp; omega)) (by first | (simp; done) | exact List.cons_ne_nil _ _) (gone_idx (l := [((1 : Int), (1 : Int))]) (i := 0) rfl)) rfl rfl rfl ?_
    refine go ?_
    refine a_q (eq2_step tabOk rfl Try.underlying59 Try.underlying3 rfl rfl rfl (by kernel_rfl) rfl rfl) rfl rfl rfl ?_
    refine go ?_
    refine a_q (call_step (hLi) rfl (fun a w => Try.call17 a w) rfl) rfl rfl rfl ?_
    refine go ?_
    rw [b5]
    refine go ?_
    first | refine fin_ret rfl ?_ | refine fin_normal rfl ?_
    rfl
end Go.Proofs.Ytefagncaepallaa
