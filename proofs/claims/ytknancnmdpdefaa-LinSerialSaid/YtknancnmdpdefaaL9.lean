/- The law LinSerial. -/
import Derived.Test.YtknancnmdpdefaaL8
namespace Go.Proofs.Ytknancnmdpdefaa
open Go.RowKit
set_option maxRecDepth 100000

def serAt (i : Nat) (x : CallT) : CallT := ⟨x.seat, x.op, x.val, x.is, 2 * i, 2 * i + 1, x.point⟩
def serF : Nat → List CallT → List CallT
  | _, [] => []
  | k, x :: l => serAt k x :: serF (k + 1) l
theorem serF_len : ∀ (l : List CallT) (k : Nat), (serF k l).length = l.length
  | [], _ => rfl
  | x :: l, k => by simp [serF, serF_len l]
theorem serF_get : ∀ (l : List CallT) (k i : Nat), (serF k l)[i]? = (l[i]?).map (serAt (k + i))
  | [], k, i => by simp [serF]
  | x :: l, k, 0 => by simp [serF]
  | x :: l, k, i + 1 => by
    simp only [serF, List.getElem?_cons_succ, serF_get l (k + 1) i]
    rw [show k + 1 + i = k + (i + 1) by omega]
theorem serF_snoc : ∀ (l : List CallT) (k : Nat) (x : CallT), serF k (l ++ [x]) = serF k l ++ [serAt (k + l.length) x]
  | [], k, x => by simp [serF]
  | y :: l, k, x => by
    simp only [List.cons_append, serF, serF_snoc l (k + 1) x, List.length_cons]
    rw [show k + 1 + l.length = k + (l.length + 1) by omega]
def behF : Cont → List CallT → Cont
  | c, [] => c
  | c, x :: l => behF (does c x.op).1 l
def wantF : Cont → List CallT → Bool
  | _, [] => true
  | c, x :: l => tellsB c x && wantF (does c x.op).1 l
theorem behF_snoc : ∀ (l : List CallT) (c : Cont) (x : CallT), behF c (l ++ [x]) = (does (behF c l) x.op).1
  | [], c, x => rfl
  | y :: l, c, x => by simp only [List.cons_append, behF, behF_snoc l]
theorem wantF_snoc : ∀ (l : List CallT) (c : Cont) (x : CallT), wantF c (l ++ [x]) = (wantF c l && tellsB (behF c l) x)
  | [], c, x => by simp [wantF, behF]
  | y :: l, c, x => by simp only [List.cons_append, wantF, behF, wantF_snoc l, Bool.and_assoc]
theorem behF_len : ∀ (l : List CallT) (c : Cont), (behF c l).keys.length ≤ c.keys.length + l.length ∧ (behF c l).vals.length ≤ c.vals.length + l.length
  | [], c => ⟨Nat.le_refl _, Nat.le_refl _⟩
  | x :: l, c => by
    have h1 := behF_len l (does c x.op).1
    have h2 := does_len c x.op
    simp only [behF, List.length_cons]; omega

theorem strict_ext : ∀ (a b : List Nat), a.Pairwise (· < ·) → b.Pairwise (· < ·) → (∀ x, x ∈ a ↔ x ∈ b) → a = b
  | [], [], _, _, _ => rfl
  | [], y :: b, _, _, h => by have := (h y).2 List.mem_cons_self; cases this
  | x :: a, [], _, _, h => by have := (h x).1 List.mem_cons_self; cases this
  | x :: a, y :: b, ha, hb, h => by
    obtain ⟨a1, a2⟩ := List.pairwise_cons.1 ha
    obtain ⟨b1, b2⟩ := List.pairwise_cons.1 hb
    have hxy : x = y := by
      rcases List.mem_cons.1 ((h x).1 List.mem_cons_self) with h1 | h1
      · exact h1
      · rcases List.mem_cons.1 ((h y).2 List.mem_cons_self) with h2 | h2
        · exact h2.symm
        · have := b1 x h1; have := a1 y h2; omega
    subst hxy
    rw [strict_ext a b a2 b2 fun z => ?_]
    constructor
    · intro hz
      rcases List.mem_cons.1 ((h z).1 (List.mem_cons_of_mem _ hz)) with h1 | h1
      · have := a1 z hz; omega
      · exact h1
    · intro hz
      rcases List.mem_cons.1 ((h z).2 (List.mem_cons_of_mem _ hz)) with h1 | h1
      · have := b1 z hz; omega
      · exact h1

theorem run_serial (l : List CallT) : ∀ (m k : Nat) (c : Cont), k + m = l.length → runF (serF 0 l) c (List.range' k m) = wantF c (l.drop k)
  | 0, k, c, h => by rw [List.drop_of_length_le (by omega)]; rfl
  | m + 1, k, c, h => by
    have hk : k < l.length := by omega
    rw [List.range'_succ, runF, serF_get, List.getElem?_eq_getElem hk, List.drop_eq_getElem_cons hk, wantF]
    simp only [Option.map_some]
    rw [← run_serial l m (k + 1) _ (by omega)]
    rfl
theorem serial_fit {c : Cont} {l : List CallT} {o : List Nat} : FitAll c (serF 0 l) o ↔ o = List.range l.length ∧ wantF c l = true := by
  have hrun : runF (serF 0 l) c (List.range l.length) = wantF c l := by
    rw [List.range_eq_range', run_serial l l.length 0 c (by omega), List.drop_zero]
  have hget : ∀ i, i < l.length → ∃ x, (serF 0 l)[i]? = some x ∧ x.first = 2 * i ∧ x.last = 2 * i + 1 := fun i hi => by
    refine ⟨serAt (0 + i) l[i], ?_, ?_, ?_⟩
    · rw [serF_get, List.getElem?_eq_getElem hi]; rfl
    · show ((2 * (0 + i : Nat) : Int)) = _; omega
    · show ((2 * (0 + i : Nat) + 1 : Int)) = _; omega
  constructor
  · rintro ⟨h1, h2, h3, h4⟩
    rw [serF_len] at h2
    have ho : o = List.range l.length := by
      refine strict_ext o (List.range l.length) ?_ List.pairwise_lt_range fun x => by rw [h2, List.mem_range]
      rw [List.pairwise_iff_getElem]
      intro a b ha hb hab
      obtain ⟨x, hx, _, x2⟩ := hget o[a] ((h2 _).1 (List.getElem_mem ha))
      obtain ⟨y, hy, y1, y2⟩ := hget o[b] ((h2 _).1 (List.getElem_mem hb))
      obtain ⟨x', hx', x1', _⟩ := hget o[a] ((h2 _).1 (List.getElem_mem ha))
      rw [hx] at hx'
      cases hx'
      have h5 := (List.pairwise_iff_getElem.1 h3) a b ha hb hab x y hx hy
      have h6 := of_decide_eq_false h5
      have h7 := (List.pairwise_iff_getElem.1 (List.nodup_iff_pairwise_ne.1 h1)) a b ha hb hab
      omega
    subst ho
    exact ⟨rfl, by rw [← hrun]; exact h4⟩
  · rintro ⟨rfl, h⟩
    refine ⟨List.nodup_range, fun i => by rw [serF_len, List.mem_range], ?_, by rw [hrun]; exact h⟩
    unfold OrdOk
    rw [List.pairwise_iff_getElem]
    intro a b ha hb hab x y hx hy
    simp only [List.getElem_range] at hx hy
    simp only [List.length_range] at ha hb
    obtain ⟨x', hx', e1, e2⟩ := hget a ha
    obtain ⟨y', hy', e3, e4⟩ := hget b hb
    rw [hx] at hx'
    rw [hy] at hy'
    cases hx'
    cases hy'
    exact decide_eq_false (by omega)

theorem want_step (c : Cont) (l : List CallT) (n : Nat) (x : CallT) (hx : l[n]? = some x) : wantF c (l.take (n + 1)) = (wantF c (l.take n) && (decide ((does (behF c (l.take n)) x.op).2.1 = x.val) && ((does (behF c (l.take n)) x.op).2.2 == x.is))) := by
  rw [List.take_add_one, hx, Option.toList_some, wantF_snoc]; rfl

theorem dec_n (n : Int) : decide (n = n) = true := by simp

set_option maxHeartbeats 4000000 in
theorem linSerial_c (c : Cont) (l : List CallT) : PureC Try.prog 8 [dCont c, dCalls l] (dB true) := by
  refine pure_fin tabOk Try.func8 rfl Try.ntmps8 rfl rfl rfl fun w cl => ?_
  repeat (first | refine awp_seq ?_ | refine awp_region ?_ | refine awp_block ?_ | refine awp_skip ?_ | refine awp_scope ?_ | refine awp_label ?_ | refine q_scope_normal ?_ | refine q_scope_ret ?_ | refine q_scope_exit ?_ | refine awp_ret ?_ | refine awp_exit ?_ | refine awp_ck rfl ?_ | with_reducible refine ck_t ?_ | with_reducible refine ck_f ?_ | with_reducible refine ck_nt ?_ | with_reducible refine ck_nf ?_ | refine q_then_normal ?_ | refine q_then_ret ?_ | refine q_then_exit ?_ | refine q_block_normal ?_ | refine q_block_ret ?_ | refine q_block_exit ?_ | refine q_block_other rfl ?_ | refine a_q (add_step tabOk rfl rfl rfl rfl (by omega) (by omega)) rfl rfl rfl ?_ | refine a_q (sub_step tabOk rfl rfl rfl rfl (by omega) (by omega)) rfl rfl rfl ?_ | refine a_ax tabOk rfl rfl rfl rfl ?_ | refine a_skip rfl rfl rfl ?_ | refine aops_nil ?_ | refine a_store tabOk rfl rfl rfl rfl rfl rfl rfl rfl rfl rfl ?_ | refine a_q (build_step tabOk rfl rfl rfl) rfl rfl rfl ?_ | refine a_q (buildSlice_step tabOk rfl rfl) rfl rfl rfl ?_ | refine a_box rfl rfl rfl rfl rfl rfl rfl rfl rfl ?_ | refine a_new tabOk rfl rfl rfl rfl rfl rfl rfl rfl rfl ?_)
  refine a_q (call_step (awake27_c) rfl (fun a w => Try.call24 a w) rfl) rfl rfl rfl ?_
  repeat (first | refine awp_seq ?_ | refine awp_region ?_ | refine awp_block ?_ | refine awp_skip ?_ | refine awp_scope ?_ | refine awp_label ?_ | refine q_scope_normal ?_ | refine q_scope_ret ?_ | refine q_scope_exit ?_ | refine awp_ret ?_ | refine awp_exit ?_ | refine awp_ck rfl ?_ | with_reducible refine ck_t ?_ | with_reducible refine ck_f ?_ | with_reducible refine ck_nt ?_ | with_reducible refine ck_nf ?_ | refine q_then_normal ?_ | refine q_then_ret ?_ | refine q_then_exit ?_ | refine q_block_normal ?_ | refine q_block_ret ?_ | refine q_block_exit ?_ | refine q_block_other rfl ?_ | refine a_q (add_step tabOk rfl rfl rfl rfl (by omega) (by omega)) rfl rfl rfl ?_ | refine a_q (sub_step tabOk rfl rfl rfl rfl (by omega) (by omega)) rfl rfl rfl ?_ | refine a_ax tabOk rfl rfl rfl rfl ?_ | refine a_skip rfl rfl rfl ?_ | refine aops_nil ?_ | refine a_store tabOk rfl rfl rfl rfl rfl rfl rfl rfl rfl rfl ?_ | refine a_q (build_step tabOk rfl rfl rfl) rfl rfl rfl ?_ | refine a_q (buildSlice_step tabOk rfl rfl) rfl rfl rfl ?_ | refine a_box rfl rfl rfl rfl rfl rfl rfl rfl rfl ?_ | refine a_new tabOk rfl rfl rfl rfl rfl rfl rfl rfl rfl ?_)
  refine a_q (call_step (few27_c c l) rfl (fun a w => Try.call25 a w) rfl) rfl rfl rfl ?_
  repeat (first | refine awp_seq ?_ | refine awp_region ?_ | refine awp_block ?_ | refine awp_skip ?_ | refine awp_scope ?_ | refine awp_label ?_ | refine q_scope_normal ?_ | refine q_scope_ret ?_ | refine q_scope_exit ?_ | refine awp_ret ?_ | refine awp_exit ?_ | refine awp_ck rfl ?_ | with_reducible refine ck_t ?_ | with_reducible refine ck_f ?_ | with_reducible refine ck_nt ?_ | with_reducible refine ck_nf ?_ | refine q_then_normal ?_ | refine q_then_ret ?_ | refine q_then_exit ?_ | refine q_block_normal ?_ | refine q_block_ret ?_ | refine q_block_exit ?_ | refine q_block_other rfl ?_ | refine a_q (add_step tabOk rfl rfl rfl rfl (by omega) (by omega)) rfl rfl rfl ?_ | refine a_q (sub_step tabOk rfl rfl rfl rfl (by omega) (by omega)) rfl rfl rfl ?_ | refine a_ax tabOk rfl rfl rfl rfl ?_ | refine a_skip rfl rfl rfl ?_ | refine aops_nil ?_ | refine a_store tabOk rfl rfl rfl rfl rfl rfl rfl rfl rfl rfl ?_ | refine a_q (build_step tabOk rfl rfl rfl) rfl rfl rfl ?_ | refine a_q (buildSlice_step tabOk rfl rfl) rfl rfl rfl ?_ | refine a_box rfl rfl rfl rfl rfl rfl rfl rfl rfl ?_ | refine a_new tabOk rfl rfl rfl rfl rfl rfl rfl rfl rfl ?_)
  generalize hf : few27B c l = cc; cases cc
  · repeat (first | refine awp_seq ?_ | refine awp_region ?_ | refine awp_block ?_ | refine awp_skip ?_ | refine awp_scope ?_ | refine awp_label ?_ | refine q_scope_normal ?_ | refine q_scope_ret ?_ | refine q_scope_exit ?_ | refine awp_ret ?_ | refine awp_exit ?_ | refine awp_ck rfl ?_ | with_reducible refine ck_t ?_ | with_reducible refine ck_f ?_ | with_reducible refine ck_nt ?_ | with_reducible refine ck_nf ?_ | refine q_then_normal ?_ | refine q_then_ret ?_ | refine q_then_exit ?_ | refine q_block_normal ?_ | refine q_block_ret ?_ | refine q_block_exit ?_ | refine q_block_other rfl ?_ | refine a_q (add_step tabOk rfl rfl rfl rfl (by omega) (by omega)) rfl rfl rfl ?_ | refine a_q (sub_step tabOk rfl rfl rfl rfl (by omega) (by omega)) rfl rfl rfl ?_ | refine a_ax tabOk rfl rfl rfl rfl ?_ | refine a_skip rfl rfl rfl ?_ | refine aops_nil ?_ | refine a_store tabOk rfl rfl rfl rfl rfl rfl rfl rfl rfl rfl ?_ | refine a_q (build_step tabOk rfl rfl rfl) rfl rfl rfl ?_ | refine a_q (buildSlice_step tabOk rfl rfl) rfl rfl rfl ?_ | refine a_box rfl rfl rfl rfl rfl rfl rfl rfl rfl ?_ | refine a_new tabOk rfl rfl rfl rfl rfl rfl rfl rfl rfl ?_)
    first | refine fin_ret rfl ?_ | refine fin_normal rfl ?_
    rfl
  · obtain ⟨f1, f2, f3, f4⟩ := few27_of hf
    repeat (first | refine awp_seq ?_ | refine awp_region ?_ | refine awp_block ?_ | refine awp_skip ?_ | refine awp_scope ?_ | refine awp_label ?_ | refine q_scope_normal ?_ | refine q_scope_ret ?_ | refine q_scope_exit ?_ | refine awp_ret ?_ | refine awp_exit ?_ | refine awp_ck rfl ?_ | with_reducible refine ck_t ?_ | with_reducible refine ck_f ?_ | with_reducible refine ck_nt ?_ | with_reducible refine ck_nf ?_ | refine q_then_normal ?_ | refine q_then_ret ?_ | refine q_then_exit ?_ | refine q_block_normal ?_ | refine q_block_ret ?_ | refine q_block_exit ?_ | refine q_block_other rfl ?_ | refine a_q (add_step tabOk rfl rfl rfl rfl (by omega) (by omega)) rfl rfl rfl ?_ | refine a_q (sub_step tabOk rfl rfl rfl rfl (by omega) (by omega)) rfl rfl rfl ?_ | refine a_ax tabOk rfl rfl rfl rfl ?_ | refine a_skip rfl rfl rfl ?_ | refine aops_nil ?_ | refine a_store tabOk rfl rfl rfl rfl rfl rfl rfl rfl rfl rfl ?_ | refine a_q (build_step tabOk rfl rfl rfl) rfl rfl rfl ?_ | refine a_q (buildSlice_step tabOk rfl rfl) rfl rfl rfl ?_ | refine a_box rfl rfl rfl rfl rfl rfl rfl rfl rfl ?_ | refine a_new tabOk rfl rfl rfl rfl rfl rfl rfl rfl rfl ?_)
    refine awp_ghost (tip_ghost 6 0 50 10 rfl rfl rfl) ?_
    refine awp_loop_ok (fun n : Nat => n ≤ l.length) (fun n => ⟨[(9, dI n), (6, .tip 0 n (pCalls (serF 0 (l.take n)))), (7, dB (wantF c (l.take n))), (8, .ptr 1 0), (2, .ptr 0 0), (5, dB true), (1, dCalls l)], [(1, [dI (behF c (l.take n)).kind, dInts (behF c (l.take n)).keys, dInts (behF c (l.take n)).vals]), (0, [dI c.kind, dInts c.keys, dInts c.vals])], [(0, ⟨50, 10, n⟩)]⟩) (fun n => l.length - n) 0 (Nat.zero_le _) (drop_ghost (by (repeat (first | exact trivial | refine ⟨⟨rfl, rfl⟩, ?_⟩))) (by (repeat (first | exact trivial | refine ⟨⟨rfl, rfl⟩, ?_⟩))) (by (repeat (first | exact trivial | refine ⟨rfl, ?_⟩))) (by (repeat (first | exact trivial | refine ⟨rfl, ?_⟩)))) ?_
    intro n hn
    have hbl := behF_len (l.take n) c
    rw [List.length_take] at hbl
    have hsl : (pCalls (serF 0 (l.take n))).length = n * 10 := by rw [pCalls_len, serF_len, List.length_take, Nat.min_eq_left hn]
    repeat (first | refine awp_seq ?_ | refine awp_region ?_ | refine awp_block ?_ | refine awp_skip ?_ | refine awp_scope ?_ | refine awp_label ?_ | refine q_scope_normal ?_ | refine q_scope_ret ?_ | refine q_scope_exit ?_ | refine awp_ret ?_ | refine awp_exit ?_ | refine awp_ck rfl ?_ | with_reducible refine ck_t ?_ | with_reducible refine ck_f ?_ | with_reducible refine ck_nt ?_ | with_reducible refine ck_nf ?_ | refine q_then_normal ?_ | refine q_then_ret ?_ | refine q_then_exit ?_ | refine q_block_normal ?_ | refine q_block_ret ?_ | refine q_block_exit ?_ | refine q_block_other rfl ?_ | refine a_q (add_step tabOk rfl rfl rfl rfl (by omega) (by omega)) rfl rfl rfl ?_ | refine a_q (sub_step tabOk rfl rfl rfl rfl (by omega) (by omega)) rfl rfl rfl ?_ | refine a_ax tabOk rfl rfl rfl rfl ?_ | refine a_skip rfl rfl rfl ?_ | refine aops_nil ?_ | refine a_store tabOk rfl rfl rfl rfl rfl rfl rfl rfl rfl rfl ?_ | refine a_q (build_step tabOk rfl rfl rfl) rfl rfl rfl ?_ | refine a_q (buildSlice_step tabOk rfl rfl) rfl rfl rfl ?_ | refine a_box rfl rfl rfl rfl rfl rfl rfl rfl rfl ?_ | refine a_new tabOk rfl rfl rfl rfl rfl rfl rfl rfl rfl ?_)
    refine ck_b (fun h1 => ?_) (fun h1 => ?_) <;> try rw [h1]
    · have hlt := of_decide_eq_true h1
      obtain ⟨x, hx⟩ := getI (l := l) (i := n) (by omega) hlt
      have hx' : l[n]? = some x := by simpa using hx
      have hbe : behF c (l.take (n + 1)) = (does (behF c (l.take n)) x.op).1 := by rw [List.take_add_one, hx', Option.toList_some, behF_snoc]
      have hse : pCalls (serF 0 (l.take (n + 1))) = pCalls (serF 0 (l.take n)) ++ pCall (serAt n x) := by
        rw [List.take_add_one, hx', Option.toList_some, serF_snoc, pCalls_snoc, List.length_take, Nat.min_eq_left (by omega), Nat.zero_add]
      have hws := want_step c l n x hx'
      have e1 : IntKind.i64.wrap (2 * (n : Int)) = 2 * n := wrap_id (by omega) (by omega)
      generalize wantF c (l.take n) = wn at hws
      generalize behF c (l.take n) = bn at hws hbe hbl
      repeat (first | refine awp_seq ?_ | refine awp_region ?_ | refine awp_block ?_ | refine awp_skip ?_ | refine awp_scope ?_ | refine awp_label ?_ | refine q_scope_normal ?_ | refine q_scope_ret ?_ | refine q_scope_exit ?_ | refine awp_ret ?_ | refine awp_exit ?_ | refine awp_ck rfl ?_ | with_reducible refine ck_t ?_ | with_reducible refine ck_f ?_ | with_reducible refine ck_nt ?_ | with_reducible refine ck_nf ?_ | refine q_then_normal ?_ | refine q_then_ret ?_ | refine q_then_exit ?_ | refine q_block_normal ?_ | refine q_block_ret ?_ | refine q_block_exit ?_ | refine q_block_other rfl ?_ | refine a_q (add_step tabOk rfl rfl rfl rfl (by omega) (by omega)) rfl rfl rfl ?_ | refine a_q (sub_step tabOk rfl rfl rfl rfl (by omega) (by omega)) rfl rfl rfl ?_ | refine a_ax tabOk rfl rfl rfl rfl ?_ | refine a_skip rfl rfl rfl ?_ | refine aops_nil ?_ | refine a_store tabOk rfl rfl rfl rfl rfl rfl rfl rfl rfl rfl ?_ | refine a_q (build_step tabOk rfl rfl rfl) rfl rfl rfl ?_ | refine a_q (buildSlice_step tabOk rfl rfl) rfl rfl rfl ?_ | refine a_box rfl rfl rfl rfl rfl rfl rfl rfl rfl ?_ | refine a_new tabOk rfl rfl rfl rfl rfl rfl rfl rfl rfl ?_)
      refine a_q (indexAddr_step tabOk [pI x.seat, pI x.op.kind, pI x.op.obj, pI x.op.a, pI x.op.b, pI x.val, pB x.is, pI x.first, pI x.last, pI x.point] rfl rfl rfl rfl rfl rfl (by first | omega | (simp; done) | (simp; omega)) (by first | omega | (simp; done) | (simp; omega)) (by simp) (calls_idx hx)) rfl rfl rfl ?_
      repeat (first | refine awp_seq ?_ | refine awp_region ?_ | refine awp_block ?_ | refine awp_skip ?_ | refine awp_scope ?_ | refine awp_label ?_ | refine q_scope_normal ?_ | refine q_scope_ret ?_ | refine q_scope_exit ?_ | refine awp_ret ?_ | refine awp_exit ?_ | refine awp_ck rfl ?_ | with_reducible refine ck_t ?_ | with_reducible refine ck_f ?_ | with_reducible refine ck_nt ?_ | with_reducible refine ck_nf ?_ | refine q_then_normal ?_ | refine q_then_ret ?_ | refine q_then_exit ?_ | refine q_block_normal ?_ | refine q_block_ret ?_ | refine q_block_exit ?_ | refine q_block_other rfl ?_ | refine a_q (add_step tabOk rfl rfl rfl rfl (by omega) (by omega)) rfl rfl rfl ?_ | refine a_q (sub_step tabOk rfl rfl rfl rfl (by omega) (by omega)) rfl rfl rfl ?_ | refine a_ax tabOk rfl rfl rfl rfl ?_ | refine a_skip rfl rfl rfl ?_ | refine aops_nil ?_ | refine a_store tabOk rfl rfl rfl rfl rfl rfl rfl rfl rfl rfl ?_ | refine a_q (build_step tabOk rfl rfl rfl) rfl rfl rfl ?_ | refine a_q (buildSlice_step tabOk rfl rfl) rfl rfl rfl ?_ | refine a_box rfl rfl rfl rfl rfl rfl rfl rfl rfl ?_ | refine a_new tabOk rfl rfl rfl rfl rfl rfl rfl rfl rfl ?_)
      rw [e1]
      refine a_append tabOk rfl rfl rfl rfl rfl rfl rfl rfl rfl rfl rfl rfl (by simp) (by unfold maxLen; omega) (by show (_ + _) * 80 ≤ _; omega) ?_
      repeat (first | refine awp_seq ?_ | refine awp_region ?_ | refine awp_block ?_ | refine awp_skip ?_ | refine awp_scope ?_ | refine awp_label ?_ | refine q_scope_normal ?_ | refine q_scope_ret ?_ | refine q_scope_exit ?_ | refine awp_ret ?_ | refine awp_exit ?_ | refine awp_ck rfl ?_ | with_reducible refine ck_t ?_ | with_reducible refine ck_f ?_ | with_reducible refine ck_nt ?_ | with_reducible refine ck_nf ?_ | refine q_then_normal ?_ | refine q_then_ret ?_ | refine q_then_exit ?_ | refine q_block_normal ?_ | refine q_block_ret ?_ | refine q_block_exit ?_ | refine q_block_other rfl ?_ | refine a_q (add_step tabOk rfl rfl rfl rfl (by omega) (by omega)) rfl rfl rfl ?_ | refine a_q (sub_step tabOk rfl rfl rfl rfl (by omega) (by omega)) rfl rfl rfl ?_ | refine a_ax tabOk rfl rfl rfl rfl ?_ | refine a_skip rfl rfl rfl ?_ | refine aops_nil ?_ | refine a_store tabOk rfl rfl rfl rfl rfl rfl rfl rfl rfl rfl ?_ | refine a_q (build_step tabOk rfl rfl rfl) rfl rfl rfl ?_ | refine a_q (buildSlice_step tabOk rfl rfl) rfl rfl rfl ?_ | refine a_box rfl rfl rfl rfl rfl rfl rfl rfl rfl ?_ | refine a_new tabOk rfl rfl rfl rfl rfl rfl rfl rfl rfl ?_)
      refine a_q (call_step (do_c bn x.op ⟨by omega, by omega⟩) rfl (fun a w => Try.call16 a w) rfl) rfl rfl rfl ?_
      repeat (first | refine awp_seq ?_ | refine awp_region ?_ | refine awp_block ?_ | refine awp_skip ?_ | refine awp_scope ?_ | refine awp_label ?_ | refine q_scope_normal ?_ | refine q_scope_ret ?_ | refine q_scope_exit ?_ | refine awp_ret ?_ | refine awp_exit ?_ | refine awp_ck rfl ?_ | with_reducible refine ck_t ?_ | with_reducible refine ck_f ?_ | with_reducible refine ck_nt ?_ | with_reducible refine ck_nf ?_ | refine q_then_normal ?_ | refine q_then_ret ?_ | refine q_then_exit ?_ | refine q_block_normal ?_ | refine q_block_ret ?_ | refine q_block_exit ?_ | refine q_block_other rfl ?_ | refine a_q (add_step tabOk rfl rfl rfl rfl (by omega) (by omega)) rfl rfl rfl ?_ | refine a_q (sub_step tabOk rfl rfl rfl rfl (by omega) (by omega)) rfl rfl rfl ?_ | refine a_ax tabOk rfl rfl rfl rfl ?_ | refine a_skip rfl rfl rfl ?_ | refine aops_nil ?_ | refine a_store tabOk rfl rfl rfl rfl rfl rfl rfl rfl rfl rfl ?_ | refine a_q (build_step tabOk rfl rfl rfl) rfl rfl rfl ?_ | refine a_q (buildSlice_step tabOk rfl rfl) rfl rfl rfl ?_ | refine a_box rfl rfl rfl rfl rfl rfl rfl rfl rfl ?_ | refine a_new tabOk rfl rfl rfl rfl rfl rfl rfl rfl rfl ?_)
      cases wn with
      | false =>
        repeat (first | refine awp_seq ?_ | refine awp_region ?_ | refine awp_block ?_ | refine awp_skip ?_ | refine awp_scope ?_ | refine awp_label ?_ | refine q_scope_normal ?_ | refine q_scope_ret ?_ | refine q_scope_exit ?_ | refine awp_ret ?_ | refine awp_exit ?_ | refine awp_ck rfl ?_ | with_reducible refine ck_t ?_ | with_reducible refine ck_f ?_ | with_reducible refine ck_nt ?_ | with_reducible refine ck_nf ?_ | refine q_then_normal ?_ | refine q_then_ret ?_ | refine q_then_exit ?_ | refine q_block_normal ?_ | refine q_block_ret ?_ | refine q_block_exit ?_ | refine q_block_other rfl ?_ | refine a_q (add_step tabOk rfl rfl rfl rfl (by omega) (by omega)) rfl rfl rfl ?_ | refine a_q (sub_step tabOk rfl rfl rfl rfl (by omega) (by omega)) rfl rfl rfl ?_ | refine a_ax tabOk rfl rfl rfl rfl ?_ | refine a_skip rfl rfl rfl ?_ | refine aops_nil ?_ | refine a_store tabOk rfl rfl rfl rfl rfl rfl rfl rfl rfl rfl ?_ | refine a_q (build_step tabOk rfl rfl rfl) rfl rfl rfl ?_ | refine a_q (buildSlice_step tabOk rfl rfl) rfl rfl rfl ?_ | refine a_box rfl rfl rfl rfl rfl rfl rfl rfl rfl ?_ | refine a_new tabOk rfl rfl rfl rfl rfl rfl rfl rfl rfl ?_)
        refine ⟨n + 1, by omega, by omega, ?_⟩
        rw [hbe, hse, hws]
        exact drop_ghost (by (repeat (first | exact trivial | refine ⟨⟨rfl, rfl⟩, ?_⟩))) (by (repeat (first | exact trivial | refine ⟨⟨rfl, rfl⟩, ?_⟩))) (by (repeat (first | exact trivial | refine ⟨rfl, ?_⟩))) (by (repeat (first | exact trivial | refine ⟨rfl, ?_⟩)))
      | true =>
        repeat (first | refine awp_seq ?_ | refine awp_region ?_ | refine awp_block ?_ | refine awp_skip ?_ | refine awp_scope ?_ | refine awp_label ?_ | refine q_scope_normal ?_ | refine q_scope_ret ?_ | refine q_scope_exit ?_ | refine awp_ret ?_ | refine awp_exit ?_ | refine awp_ck rfl ?_ | with_reducible refine ck_t ?_ | with_reducible refine ck_f ?_ | with_reducible refine ck_nt ?_ | with_reducible refine ck_nf ?_ | refine q_then_normal ?_ | refine q_then_ret ?_ | refine q_then_exit ?_ | refine q_block_normal ?_ | refine q_block_ret ?_ | refine q_block_exit ?_ | refine q_block_other rfl ?_ | refine a_q (add_step tabOk rfl rfl rfl rfl (by omega) (by omega)) rfl rfl rfl ?_ | refine a_q (sub_step tabOk rfl rfl rfl rfl (by omega) (by omega)) rfl rfl rfl ?_ | refine a_ax tabOk rfl rfl rfl rfl ?_ | refine a_skip rfl rfl rfl ?_ | refine aops_nil ?_ | refine a_store tabOk rfl rfl rfl rfl rfl rfl rfl rfl rfl rfl ?_ | refine a_q (build_step tabOk rfl rfl rfl) rfl rfl rfl ?_ | refine a_q (buildSlice_step tabOk rfl rfl) rfl rfl rfl ?_ | refine a_box rfl rfl rfl rfl rfl rfl rfl rfl rfl ?_ | refine a_new tabOk rfl rfl rfl rfl rfl rfl rfl rfl rfl ?_)
        generalize h2 : decide ((does bn x.op).2.1 = x.val) = cc; cases cc
        · repeat (first | refine awp_seq ?_ | refine awp_region ?_ | refine awp_block ?_ | refine awp_skip ?_ | refine awp_scope ?_ | refine awp_label ?_ | refine q_scope_normal ?_ | refine q_scope_ret ?_ | refine q_scope_exit ?_ | refine awp_ret ?_ | refine awp_exit ?_ | refine awp_ck rfl ?_ | with_reducible refine ck_t ?_ | with_reducible refine ck_f ?_ | with_reducible refine ck_nt ?_ | with_reducible refine ck_nf ?_ | refine q_then_normal ?_ | refine q_then_ret ?_ | refine q_then_exit ?_ | refine q_block_normal ?_ | refine q_block_ret ?_ | refine q_block_exit ?_ | refine q_block_other rfl ?_ | refine a_q (add_step tabOk rfl rfl rfl rfl (by omega) (by omega)) rfl rfl rfl ?_ | refine a_q (sub_step tabOk rfl rfl rfl rfl (by omega) (by omega)) rfl rfl rfl ?_ | refine a_ax tabOk rfl rfl rfl rfl ?_ | refine a_skip rfl rfl rfl ?_ | refine aops_nil ?_ | refine a_store tabOk rfl rfl rfl rfl rfl rfl rfl rfl rfl rfl ?_ | refine a_q (build_step tabOk rfl rfl rfl) rfl rfl rfl ?_ | refine a_q (buildSlice_step tabOk rfl rfl) rfl rfl rfl ?_ | refine a_box rfl rfl rfl rfl rfl rfl rfl rfl rfl ?_ | refine a_new tabOk rfl rfl rfl rfl rfl rfl rfl rfl rfl ?_)
          refine ⟨n + 1, by omega, by omega, ?_⟩
          rw [hbe, hse, hws, h2]
          exact drop_ghost (by (repeat (first | exact trivial | refine ⟨⟨rfl, rfl⟩, ?_⟩))) (by (repeat (first | exact trivial | refine ⟨⟨rfl, rfl⟩, ?_⟩))) (by (repeat (first | exact trivial | refine ⟨rfl, ?_⟩))) (by (repeat (first | exact trivial | refine ⟨rfl, ?_⟩)))
        · repeat (first | refine awp_seq ?_ | refine awp_region ?_ | refine awp_block ?_ | refine awp_skip ?_ | refine awp_scope ?_ | refine awp_label ?_ | refine q_scope_normal ?_ | refine q_scope_ret ?_ | refine q_scope_exit ?_ | refine awp_ret ?_ | refine awp_exit ?_ | refine awp_ck rfl ?_ | with_reducible refine ck_t ?_ | with_reducible refine ck_f ?_ | with_reducible refine ck_nt ?_ | with_reducible refine ck_nf ?_ | refine q_then_normal ?_ | refine q_then_ret ?_ | refine q_then_exit ?_ | refine q_block_normal ?_ | refine q_block_ret ?_ | refine q_block_exit ?_ | refine q_block_other rfl ?_ | refine a_q (add_step tabOk rfl rfl rfl rfl (by omega) (by omega)) rfl rfl rfl ?_ | refine a_q (sub_step tabOk rfl rfl rfl rfl (by omega) (by omega)) rfl rfl rfl ?_ | refine a_ax tabOk rfl rfl rfl rfl ?_ | refine a_skip rfl rfl rfl ?_ | refine aops_nil ?_ | refine a_store tabOk rfl rfl rfl rfl rfl rfl rfl rfl rfl rfl ?_ | refine a_q (build_step tabOk rfl rfl rfl) rfl rfl rfl ?_ | refine a_q (buildSlice_step tabOk rfl rfl) rfl rfl rfl ?_ | refine a_box rfl rfl rfl rfl rfl rfl rfl rfl rfl ?_ | refine a_new tabOk rfl rfl rfl rfl rfl rfl rfl rfl rfl ?_)
          refine ⟨n + 1, by omega, by omega, ?_⟩
          rw [hbe, hse, hws, h2]
          exact drop_ghost (by (repeat (first | exact trivial | refine ⟨⟨rfl, rfl⟩, ?_⟩))) (by (repeat (first | exact trivial | refine ⟨⟨rfl, rfl⟩, ?_⟩))) (by (repeat (first | exact trivial | refine ⟨rfl, ?_⟩))) (by (repeat (first | exact trivial | refine ⟨rfl, ?_⟩)))
    · have hnl : n = l.length := by have := of_decide_eq_false h1; omega
      subst hnl
      rw [List.take_of_length_le (Nat.le_refl _)] at hsl ⊢
      have hO := order_c c (serF 0 l) (by rw [serF_len]; omega) ⟨by omega, by omega⟩
      rw [dCalls, serF_len] at hO
      repeat (first | refine awp_seq ?_ | refine awp_region ?_ | refine awp_block ?_ | refine awp_skip ?_ | refine awp_scope ?_ | refine awp_label ?_ | refine q_scope_normal ?_ | refine q_scope_ret ?_ | refine q_scope_exit ?_ | refine awp_ret ?_ | refine awp_exit ?_ | refine awp_ck rfl ?_ | with_reducible refine ck_t ?_ | with_reducible refine ck_f ?_ | with_reducible refine ck_nt ?_ | with_reducible refine ck_nf ?_ | refine q_then_normal ?_ | refine q_then_ret ?_ | refine q_then_exit ?_ | refine q_block_normal ?_ | refine q_block_ret ?_ | refine q_block_exit ?_ | refine q_block_other rfl ?_ | refine a_q (add_step tabOk rfl rfl rfl rfl (by omega) (by omega)) rfl rfl rfl ?_ | refine a_q (sub_step tabOk rfl rfl rfl rfl (by omega) (by omega)) rfl rfl rfl ?_ | refine a_ax tabOk rfl rfl rfl rfl ?_ | refine a_skip rfl rfl rfl ?_ | refine aops_nil ?_ | refine a_store tabOk rfl rfl rfl rfl rfl rfl rfl rfl rfl rfl ?_ | refine a_q (build_step tabOk rfl rfl rfl) rfl rfl rfl ?_ | refine a_q (buildSlice_step tabOk rfl rfl) rfl rfl rfl ?_ | refine a_box rfl rfl rfl rfl rfl rfl rfl rfl rfl ?_ | refine a_new tabOk rfl rfl rfl rfl rfl rfl rfl rfl rfl ?_)
      cases ho : orderF c (serF 0 l) with
      | none =>
        have hw : wantF c l = false := by
          cases h : wantF c l with
          | false => rfl
          | true => exact absurd (serial_fit.2 ⟨rfl, h⟩) (order_none (by rw [serF_len]; omega) ho _)
        rw [ordI, ho] at hO
        rw [hw]
        refine a_q (call_step (hO) rfl (fun a w => Try.call26 a w) rfl) rfl rfl rfl ?_
        repeat (first | refine awp_seq ?_ | refine awp_region ?_ | refine awp_block ?_ | refine awp_skip ?_ | refine awp_scope ?_ | refine awp_label ?_ | refine q_scope_normal ?_ | refine q_scope_ret ?_ | refine q_scope_exit ?_ | refine awp_ret ?_ | refine awp_exit ?_ | refine awp_ck rfl ?_ | with_reducible refine ck_t ?_ | with_reducible refine ck_f ?_ | with_reducible refine ck_nt ?_ | with_reducible refine ck_nf ?_ | refine q_then_normal ?_ | refine q_then_ret ?_ | refine q_then_exit ?_ | refine q_block_normal ?_ | refine q_block_ret ?_ | refine q_block_exit ?_ | refine q_block_other rfl ?_ | refine a_q (add_step tabOk rfl rfl rfl rfl (by omega) (by omega)) rfl rfl rfl ?_ | refine a_q (sub_step tabOk rfl rfl rfl rfl (by omega) (by omega)) rfl rfl rfl ?_ | refine a_ax tabOk rfl rfl rfl rfl ?_ | refine a_skip rfl rfl rfl ?_ | refine aops_nil ?_ | refine a_store tabOk rfl rfl rfl rfl rfl rfl rfl rfl rfl rfl ?_ | refine a_q (build_step tabOk rfl rfl rfl) rfl rfl rfl ?_ | refine a_q (buildSlice_step tabOk rfl rfl) rfl rfl rfl ?_ | refine a_box rfl rfl rfl rfl rfl rfl rfl rfl rfl ?_ | refine a_new tabOk rfl rfl rfl rfl rfl rfl rfl rfl rfl ?_)
        refine awp_loop_ok (fun m : Nat => m = 0) (fun m => ⟨[(16, dI m), (14, .p (.sl false 0 [])), (15, dB false), (7, dB false), (5, dB true), (1, dCalls l)], [], []⟩) (fun m => m) 0 rfl (drop_ghost (by (repeat (first | exact trivial | refine ⟨⟨rfl, rfl⟩, ?_⟩))) (by (repeat (first | exact trivial | refine ⟨⟨rfl, rfl⟩, ?_⟩))) (by (repeat (first | exact trivial | refine ⟨rfl, ?_⟩))) (by (repeat (first | exact trivial | refine ⟨rfl, ?_⟩)))) ?_
        rintro m rfl
        repeat (first | refine awp_seq ?_ | refine awp_region ?_ | refine awp_block ?_ | refine awp_skip ?_ | refine awp_scope ?_ | refine awp_label ?_ | refine q_scope_normal ?_ | refine q_scope_ret ?_ | refine q_scope_exit ?_ | refine awp_ret ?_ | refine awp_exit ?_ | refine awp_ck rfl ?_ | with_reducible refine ck_t ?_ | with_reducible refine ck_f ?_ | with_reducible refine ck_nt ?_ | with_reducible refine ck_nf ?_ | refine q_then_normal ?_ | refine q_then_ret ?_ | refine q_then_exit ?_ | refine q_block_normal ?_ | refine q_block_ret ?_ | refine q_block_exit ?_ | refine q_block_other rfl ?_ | refine a_q (add_step tabOk rfl rfl rfl rfl (by omega) (by omega)) rfl rfl rfl ?_ | refine a_q (sub_step tabOk rfl rfl rfl rfl (by omega) (by omega)) rfl rfl rfl ?_ | refine a_ax tabOk rfl rfl rfl rfl ?_ | refine a_skip rfl rfl rfl ?_ | refine aops_nil ?_ | refine a_store tabOk rfl rfl rfl rfl rfl rfl rfl rfl rfl rfl ?_ | refine a_q (build_step tabOk rfl rfl rfl) rfl rfl rfl ?_ | refine a_q (buildSlice_step tabOk rfl rfl) rfl rfl rfl ?_ | refine a_box rfl rfl rfl rfl rfl rfl rfl rfl rfl ?_ | refine a_new tabOk rfl rfl rfl rfl rfl rfl rfl rfl rfl ?_)
        refine ck_f ?_
        repeat (first | refine awp_seq ?_ | refine awp_region ?_ | refine awp_block ?_ | refine awp_skip ?_ | refine awp_scope ?_ | refine awp_label ?_ | refine q_scope_normal ?_ | refine q_scope_ret ?_ | refine q_scope_exit ?_ | refine awp_ret ?_ | refine awp_exit ?_ | refine awp_ck rfl ?_ | with_reducible refine ck_t ?_ | with_reducible refine ck_f ?_ | with_reducible refine ck_nt ?_ | with_reducible refine ck_nf ?_ | refine q_then_normal ?_ | refine q_then_ret ?_ | refine q_then_exit ?_ | refine q_block_normal ?_ | refine q_block_ret ?_ | refine q_block_exit ?_ | refine q_block_other rfl ?_ | refine a_q (add_step tabOk rfl rfl rfl rfl (by omega) (by omega)) rfl rfl rfl ?_ | refine a_q (sub_step tabOk rfl rfl rfl rfl (by omega) (by omega)) rfl rfl rfl ?_ | refine a_ax tabOk rfl rfl rfl rfl ?_ | refine a_skip rfl rfl rfl ?_ | refine aops_nil ?_ | refine a_store tabOk rfl rfl rfl rfl rfl rfl rfl rfl rfl rfl ?_ | refine a_q (build_step tabOk rfl rfl rfl) rfl rfl rfl ?_ | refine a_q (buildSlice_step tabOk rfl rfl) rfl rfl rfl ?_ | refine a_box rfl rfl rfl rfl rfl rfl rfl rfl rfl ?_ | refine a_new tabOk rfl rfl rfl rfl rfl rfl rfl rfl rfl ?_)
        first | refine fin_ret rfl ?_ | refine fin_normal rfl ?_
        rfl
      | some w =>
        obtain ⟨hw1, _⟩ := order_some (by rw [serF_len]; omega) ho
        obtain ⟨hw2, hw⟩ := serial_fit.1 hw1
        subst hw2
        rw [ordI, ho] at hO
        have hnl : (nats (List.range l.length)).length = l.length := by rw [nats_len, List.length_range]
        rw [hw]
        have hO' : PureC Try.prog 26 [dCont c, .p (.sl false l.length (pCalls (serF 0 l)))] (.tup [.p (.sl false l.length (pInts (nats (List.range l.length)))), dB true]) := by
          have := hO
          rw [show (some (List.range l.length)).getD [] = List.range l.length from rfl, dInts, hnl] at this
          exact this
        refine a_q (call_step (hO') rfl (fun a w => Try.call26 a w) rfl) rfl rfl rfl ?_
        repeat (first | refine awp_seq ?_ | refine awp_region ?_ | refine awp_block ?_ | refine awp_skip ?_ | refine awp_scope ?_ | refine awp_label ?_ | refine q_scope_normal ?_ | refine q_scope_ret ?_ | refine q_scope_exit ?_ | refine awp_ret ?_ | refine awp_exit ?_ | refine awp_ck rfl ?_ | with_reducible refine ck_t ?_ | with_reducible refine ck_f ?_ | with_reducible refine ck_nt ?_ | with_reducible refine ck_nf ?_ | refine q_then_normal ?_ | refine q_then_ret ?_ | refine q_then_exit ?_ | refine q_block_normal ?_ | refine q_block_ret ?_ | refine q_block_exit ?_ | refine q_block_other rfl ?_ | refine a_q (add_step tabOk rfl rfl rfl rfl (by omega) (by omega)) rfl rfl rfl ?_ | refine a_q (sub_step tabOk rfl rfl rfl rfl (by omega) (by omega)) rfl rfl rfl ?_ | refine a_ax tabOk rfl rfl rfl rfl ?_ | refine a_skip rfl rfl rfl ?_ | refine aops_nil ?_ | refine a_store tabOk rfl rfl rfl rfl rfl rfl rfl rfl rfl rfl ?_ | refine a_q (build_step tabOk rfl rfl rfl) rfl rfl rfl ?_ | refine a_q (buildSlice_step tabOk rfl rfl) rfl rfl rfl ?_ | refine a_box rfl rfl rfl rfl rfl rfl rfl rfl rfl ?_ | refine a_new tabOk rfl rfl rfl rfl rfl rfl rfl rfl rfl ?_)
        refine awp_loop_ok (fun m : Nat => m ≤ l.length) (fun m => ⟨[(16, dI m), (14, .p (.sl false l.length (pInts (nats (List.range l.length))))), (15, dB true), (7, dB true), (5, dB true), (1, dCalls l)], [], []⟩) (fun m => l.length - m) 0 (Nat.zero_le _) (drop_ghost (by (repeat (first | exact trivial | refine ⟨⟨rfl, rfl⟩, ?_⟩))) (by (repeat (first | exact trivial | refine ⟨⟨rfl, rfl⟩, ?_⟩))) (by (repeat (first | exact trivial | refine ⟨rfl, ?_⟩))) (by (repeat (first | exact trivial | refine ⟨rfl, ?_⟩)))) ?_
        intro m hm
        repeat (first | refine awp_seq ?_ | refine awp_region ?_ | refine awp_block ?_ | refine awp_skip ?_ | refine awp_scope ?_ | refine awp_label ?_ | refine q_scope_normal ?_ | refine q_scope_ret ?_ | refine q_scope_exit ?_ | refine awp_ret ?_ | refine awp_exit ?_ | refine awp_ck rfl ?_ | with_reducible refine ck_t ?_ | with_reducible refine ck_f ?_ | with_reducible refine ck_nt ?_ | with_reducible refine ck_nf ?_ | refine q_then_normal ?_ | refine q_then_ret ?_ | refine q_then_exit ?_ | refine q_block_normal ?_ | refine q_block_ret ?_ | refine q_block_exit ?_ | refine q_block_other rfl ?_ | refine a_q (add_step tabOk rfl rfl rfl rfl (by omega) (by omega)) rfl rfl rfl ?_ | refine a_q (sub_step tabOk rfl rfl rfl rfl (by omega) (by omega)) rfl rfl rfl ?_ | refine a_ax tabOk rfl rfl rfl rfl ?_ | refine a_skip rfl rfl rfl ?_ | refine aops_nil ?_ | refine a_store tabOk rfl rfl rfl rfl rfl rfl rfl rfl rfl rfl ?_ | refine a_q (build_step tabOk rfl rfl rfl) rfl rfl rfl ?_ | refine a_q (buildSlice_step tabOk rfl rfl) rfl rfl rfl ?_ | refine a_box rfl rfl rfl rfl rfl rfl rfl rfl rfl ?_ | refine a_new tabOk rfl rfl rfl rfl rfl rfl rfl rfl rfl ?_)
        refine ck_b (fun h2 => ?_) (fun h2 => ?_) <;> try rw [h2]
        · have hlt := of_decide_eq_true h2
          have hgm : (nats (List.range l.length))[(m : Int).toNat]? = some (m : Int) := by
            rw [Int.toNat_natCast]
            have : m < l.length := by omega
            simp [nats, this]
          repeat (first | refine awp_seq ?_ | refine awp_region ?_ | refine awp_block ?_ | refine awp_skip ?_ | refine awp_scope ?_ | refine awp_label ?_ | refine q_scope_normal ?_ | refine q_scope_ret ?_ | refine q_scope_exit ?_ | refine awp_ret ?_ | refine awp_exit ?_ | refine awp_ck rfl ?_ | with_reducible refine ck_t ?_ | with_reducible refine ck_f ?_ | with_reducible refine ck_nt ?_ | with_reducible refine ck_nf ?_ | refine q_then_normal ?_ | refine q_then_ret ?_ | refine q_then_exit ?_ | refine q_block_normal ?_ | refine q_block_ret ?_ | refine q_block_exit ?_ | refine q_block_other rfl ?_ | refine a_q (add_step tabOk rfl rfl rfl rfl (by omega) (by omega)) rfl rfl rfl ?_ | refine a_q (sub_step tabOk rfl rfl rfl rfl (by omega) (by omega)) rfl rfl rfl ?_ | refine a_ax tabOk rfl rfl rfl rfl ?_ | refine a_skip rfl rfl rfl ?_ | refine aops_nil ?_ | refine a_store tabOk rfl rfl rfl rfl rfl rfl rfl rfl rfl rfl ?_ | refine a_q (build_step tabOk rfl rfl rfl) rfl rfl rfl ?_ | refine a_q (buildSlice_step tabOk rfl rfl) rfl rfl rfl ?_ | refine a_box rfl rfl rfl rfl rfl rfl rfl rfl rfl ?_ | refine a_new tabOk rfl rfl rfl rfl rfl rfl rfl rfl rfl ?_)
          refine a_q (indexAddr_step tabOk [pI m] rfl rfl rfl rfl rfl rfl (by first | omega | (simp; done) | (simp; omega)) (by first | omega | (simp; done) | (simp; omega)) (by simp) (ints_idx hgm)) rfl rfl rfl ?_
          repeat (first | refine awp_seq ?_ | refine awp_region ?_ | refine awp_block ?_ | refine awp_skip ?_ | refine awp_scope ?_ | refine awp_label ?_ | refine q_scope_normal ?_ | refine q_scope_ret ?_ | refine q_scope_exit ?_ | refine awp_ret ?_ | refine awp_exit ?_ | refine awp_ck rfl ?_ | with_reducible refine ck_t ?_ | with_reducible refine ck_f ?_ | with_reducible refine ck_nt ?_ | with_reducible refine ck_nf ?_ | refine q_then_normal ?_ | refine q_then_ret ?_ | refine q_then_exit ?_ | refine q_block_normal ?_ | refine q_block_ret ?_ | refine q_block_exit ?_ | refine q_block_other rfl ?_ | refine a_q (add_step tabOk rfl rfl rfl rfl (by omega) (by omega)) rfl rfl rfl ?_ | refine a_q (sub_step tabOk rfl rfl rfl rfl (by omega) (by omega)) rfl rfl rfl ?_ | refine a_ax tabOk rfl rfl rfl rfl ?_ | refine a_skip rfl rfl rfl ?_ | refine aops_nil ?_ | refine a_store tabOk rfl rfl rfl rfl rfl rfl rfl rfl rfl rfl ?_ | refine a_q (build_step tabOk rfl rfl rfl) rfl rfl rfl ?_ | refine a_q (buildSlice_step tabOk rfl rfl) rfl rfl rfl ?_ | refine a_box rfl rfl rfl rfl rfl rfl rfl rfl rfl ?_ | refine a_new tabOk rfl rfl rfl rfl rfl rfl rfl rfl rfl ?_)
          rw [dec_n]
          repeat (first | refine awp_seq ?_ | refine awp_region ?_ | refine awp_block ?_ | refine awp_skip ?_ | refine awp_scope ?_ | refine awp_label ?_ | refine q_scope_normal ?_ | refine q_scope_ret ?_ | refine q_scope_exit ?_ | refine awp_ret ?_ | refine awp_exit ?_ | refine awp_ck rfl ?_ | with_reducible refine ck_t ?_ | with_reducible refine ck_f ?_ | with_reducible refine ck_nt ?_ | with_reducible refine ck_nf ?_ | refine q_then_normal ?_ | refine q_then_ret ?_ | refine q_then_exit ?_ | refine q_block_normal ?_ | refine q_block_ret ?_ | refine q_block_exit ?_ | refine q_block_other rfl ?_ | refine a_q (add_step tabOk rfl rfl rfl rfl (by omega) (by omega)) rfl rfl rfl ?_ | refine a_q (sub_step tabOk rfl rfl rfl rfl (by omega) (by omega)) rfl rfl rfl ?_ | refine a_ax tabOk rfl rfl rfl rfl ?_ | refine a_skip rfl rfl rfl ?_ | refine aops_nil ?_ | refine a_store tabOk rfl rfl rfl rfl rfl rfl rfl rfl rfl rfl ?_ | refine a_q (build_step tabOk rfl rfl rfl) rfl rfl rfl ?_ | refine a_q (buildSlice_step tabOk rfl rfl) rfl rfl rfl ?_ | refine a_box rfl rfl rfl rfl rfl rfl rfl rfl rfl ?_ | refine a_new tabOk rfl rfl rfl rfl rfl rfl rfl rfl rfl ?_)
          exact ⟨m + 1, by omega, by omega, drop_ghost (by (repeat (first | exact trivial | refine ⟨⟨rfl, rfl⟩, ?_⟩))) (by (repeat (first | exact trivial | refine ⟨⟨rfl, rfl⟩, ?_⟩))) (by (repeat (first | exact trivial | refine ⟨rfl, ?_⟩))) (by (repeat (first | exact trivial | refine ⟨rfl, ?_⟩)))⟩
        · repeat (first | refine awp_seq ?_ | refine awp_region ?_ | refine awp_block ?_ | refine awp_skip ?_ | refine awp_scope ?_ | refine awp_label ?_ | refine q_scope_normal ?_ | refine q_scope_ret ?_ | refine q_scope_exit ?_ | refine awp_ret ?_ | refine awp_exit ?_ | refine awp_ck rfl ?_ | with_reducible refine ck_t ?_ | with_reducible refine ck_f ?_ | with_reducible refine ck_nt ?_ | with_reducible refine ck_nf ?_ | refine q_then_normal ?_ | refine q_then_ret ?_ | refine q_then_exit ?_ | refine q_block_normal ?_ | refine q_block_ret ?_ | refine q_block_exit ?_ | refine q_block_other rfl ?_ | refine a_q (add_step tabOk rfl rfl rfl rfl (by omega) (by omega)) rfl rfl rfl ?_ | refine a_q (sub_step tabOk rfl rfl rfl rfl (by omega) (by omega)) rfl rfl rfl ?_ | refine a_ax tabOk rfl rfl rfl rfl ?_ | refine a_skip rfl rfl rfl ?_ | refine aops_nil ?_ | refine a_store tabOk rfl rfl rfl rfl rfl rfl rfl rfl rfl rfl ?_ | refine a_q (build_step tabOk rfl rfl rfl) rfl rfl rfl ?_ | refine a_q (buildSlice_step tabOk rfl rfl) rfl rfl rfl ?_ | refine a_box rfl rfl rfl rfl rfl rfl rfl rfl rfl ?_ | refine a_new tabOk rfl rfl rfl rfl rfl rfl rfl rfl rfl ?_)
          rw [dec_n]
          repeat (first | refine awp_seq ?_ | refine awp_region ?_ | refine awp_block ?_ | refine awp_skip ?_ | refine awp_scope ?_ | refine awp_label ?_ | refine q_scope_normal ?_ | refine q_scope_ret ?_ | refine q_scope_exit ?_ | refine awp_ret ?_ | refine awp_exit ?_ | refine awp_ck rfl ?_ | with_reducible refine ck_t ?_ | with_reducible refine ck_f ?_ | with_reducible refine ck_nt ?_ | with_reducible refine ck_nf ?_ | refine q_then_normal ?_ | refine q_then_ret ?_ | refine q_then_exit ?_ | refine q_block_normal ?_ | refine q_block_ret ?_ | refine q_block_exit ?_ | refine q_block_other rfl ?_ | refine a_q (add_step tabOk rfl rfl rfl rfl (by omega) (by omega)) rfl rfl rfl ?_ | refine a_q (sub_step tabOk rfl rfl rfl rfl (by omega) (by omega)) rfl rfl rfl ?_ | refine a_ax tabOk rfl rfl rfl rfl ?_ | refine a_skip rfl rfl rfl ?_ | refine aops_nil ?_ | refine a_store tabOk rfl rfl rfl rfl rfl rfl rfl rfl rfl rfl ?_ | refine a_q (build_step tabOk rfl rfl rfl) rfl rfl rfl ?_ | refine a_q (buildSlice_step tabOk rfl rfl) rfl rfl rfl ?_ | refine a_box rfl rfl rfl rfl rfl rfl rfl rfl rfl ?_ | refine a_new tabOk rfl rfl rfl rfl rfl rfl rfl rfl rfl ?_)
          first | refine fin_ret rfl ?_ | refine fin_normal rfl ?_
          rfl
end Go.Proofs.Ytknancnmdpdefaa
