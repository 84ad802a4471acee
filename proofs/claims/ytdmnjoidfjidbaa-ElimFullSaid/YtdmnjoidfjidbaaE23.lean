/- Where nodes run out: the statement's walk. -/
import Derived.Test.YtdmnjoidfjidbaaE22
import Derived.Test.YtdmnjoidfjidbaaPD
namespace Go.Proofs.Ytdmnjoidfjidbaa
open Go.RowKit
set_option maxRecDepth 100000

set_option maxHeartbeats 16000000 in
theorem full_w (ops : List OpT) (hlo : ops.length ≤ 9223372036854775807) : PureC Try.prog 6 [dOps ops] (dB true) := by
  have hF := few_c [ops] [] 12 0 (fun _ => by simpa using hlo) (by omega) (by omega)
  have hof := refof_lay 1 3 1 (by omega) (by omega) (by omega)
  refine pure_fin tabOk Try.func6 rfl Try.ntmps6 rfl rfl rfl fun w cl => ?_
  refine go ?_
  refine a_q (call_step (shown_c) rfl (fun a w => Try.call7 a w) rfl) rfl rfl rfl ?_
  refine go ?_
  refine aops_ghost (lowB_ghost (cs' := playD [ops] []) 0 rfl rfl) ?_
  refine go ?_
  refine a_q (call_step (hF) rfl (fun a w => Try.call8 a w) rfl) rfl rfl rfl ?_
  refine go ?_
  cases hfew : fewF [ops] [] 12 0
  · refine go ?_
    first | refine fin_ret rfl ?_ | refine fin_normal rfl ?_
    rfl
  · have hol : ops.length ≤ 12 := by
      unfold fewF at hfew
      simp only [Bool.and_eq_true, decide_eq_true_eq] at hfew
      have := hfew.2
      simpa using this
    have hH := full_holds hfew
    have hP : ImpC Try.prog 9 [] [dLay (layE 1 3 1), dPlay [ops] []] [] (fun d bs => d = .ptr 30 0 ∧ bs = tabF (playedT (layE 1 3 1) [ops] []) 1) := played_i (nn := 3) (sl := 1) (by omega) (by omega) [ops] [] (by simp) (by simp) (by simp) (fun x hx => by cases hx) (fun w hw => by
      rw [List.mem_singleton] at hw
      subst hw
      omega)
    have hL := layE_ok (s := 1) (sl := 1) (n := 3) (by omega) (by omega) (by omega)
    generalize playedT (layE 1 3 1) [ops] [] = t at hH hP
    obtain ⟨hb, hwi, hlen, ⟨vs, hEx, hrow, hv3⟩, hlt, hck, hfl⟩ := hH
    have hrw := row_c (layE 1 3 1) hL t.m 0 hlt
    rw [hrow] at hrw
    generalize layE 1 3 1 = l at *
    obtain ⟨m, step, seats, calls, full, wild, bad⟩ := t
    simp only at hb hwi hlen hEx hck hrw hfl
    subst hb
    subst hwi
    refine go ?_
    refine a_q (call_step (hof) rfl (fun a w => Try.call17 a w) rfl) rfl rfl rfl ?_
    refine go ?_
    refine a_callI hP rfl (fun a w => Try.call9 a w) rfl rfl trivial trivial rfl rfl rfl rfl ?_ ?_
    · rintro d bs ⟨rfl, rfl⟩; exact ⟨.inr rfl, .inr rfl, .inr rfl, .inr rfl, .inr rfl, .inr rfl, trivial⟩
    rintro d bs ⟨rfl, rfl⟩
    refine go ?_
    refine a_q (call_step (new9_c) rfl (fun a w => Try.call12 a w) rfl) rfl rfl rfl ?_
    refine go ?_
    refine awp_loop_ok (fun p : Nat × List Int => p.1 ≤ calls.length ∧ CallsEx p.2 (calls.drop p.1) vs ∧ p.2.length ≤ p.1) (fun p => ⟨[(9, dI p.1), (8, .ptr 11 0), (7, .ptr 30 0), (5, .ptr 3 0), (3, dB true), (0, dOps ops)], (11, [dI 2, dInts [], dInts p.2]) :: (3, layD l) :: [(30, [dInts m, dI step, .arr 31 0 1 1, .arr 32 0 1 1, .arr 33 0 1 1, .arr 34 0 1 1, .arr 35 0 1 1, dCalls calls, dI full, dB false, dB false]), (31, opsC seats), (32, logsC seats), (33, stepsC seats), (34, nextsC seats), (35, gonesC seats)], []⟩) (fun p => calls.length - p.1) (0, []) ⟨Nat.zero_le _, hEx, Nat.zero_le _⟩ (zX (hb := by exact ⟨⟨rfl, rfl⟩, ⟨rfl, rfl⟩, ⟨rfl, rfl⟩, ⟨rfl, ops_plain _ _ _⟩, ⟨rfl, logs_plain _ _ _⟩, ⟨rfl, stepsC_plain _ _ _⟩, ⟨rfl, nexts_plain _ _ _⟩, ⟨rfl, gones_plain _ _ _⟩, trivial⟩)) ?_
    rintro ⟨i, c⟩ ⟨hi, he, hcl⟩
    simp only at hi he hcl
    refine (show AWP _ _ _ _ ⟨[(9, dI i), (8, .ptr 11 0), (7, .ptr 30 0), (5, .ptr 3 0), (3, dB true), (0, dOps ops)], (11, [dI 2, dInts [], dInts c]) :: (3, layD l) :: [(30, [dInts m, dI step, .arr 31 0 1 1, .arr 32 0 1 1, .arr 33 0 1 1, .arr 34 0 1 1, .arr 35 0 1 1, dCalls calls, dI full, dB false, dB false]), (31, opsC seats), (32, logsC seats), (33, stepsC seats), (34, nextsC seats), (35, gonesC seats)], []⟩ from ?_)
    refine go ?_
    refine ck_b (fun h1 => ?_) (fun h1 => ?_) <;> try rw [h1]
    · have h1' := of_decide_eq_true h1
      obtain ⟨x, hx⟩ : ∃ x, calls[i]? = some x := ⟨calls[i]'(by omega), List.getElem?_eq_getElem _⟩
      have hxi : calls[(i : Int).toNat]? = some x := by simpa using hx
      have hok := (hck x (List.mem_of_getElem? hx)).1
      have hcb : calls.length ≤ 10000000000 ∨ True := .inr trivial
      rw [drop_cons hx, CallsEx] at he
      obtain ⟨c', hdo, he'⟩ := he
      have hd := stkDo_len c x.op
      rw [hdo] at hd
      simp only at hd
      have hc9 := do9_c c x.op (by omega) hok
      rw [hdo] at hc9
      refine go ?_
      refine awp_region_w 17 [] rfl rfl (by kernel_rfl) (by kernel_rfl) (by kernel_rfl) ?_
      refine goQ ?_
      refine r_q (indexAddr_step tabOk [pI x.who, pI x.op.kind, pI x.op.obj, pI x.op.a, pI x.op.b, pI x.val, pB x.is, pI x.first, pI x.last, pI x.point] rfl rfl rfl rfl rfl rfl (by first | omega | (simp; done) | (simp; omega)) (by first | omega | (simp; done) | (simp; omega)) (by first | (simp; done) | exact List.cons_ne_nil _ _) (calls_idx hxi)) rfl rfl ?_
      refine goQ ?_
      refine r_q (call_step (hc9) rfl (fun a w => Try.call18 a w) rfl) rfl rfl ?_
      refine goQ ?_
      refine go ?_
      refine a_q (indexAddr_step tabOk [pI x.who, pI x.op.kind, pI x.op.obj, pI x.op.a, pI x.op.b, pI x.val, pB x.is, pI x.first, pI x.last, pI x.point] rfl rfl rfl rfl rfl rfl (by first | omega | (simp; done) | (simp; omega)) (by first | omega | (simp; done) | (simp; omega)) (by first | (simp; done) | exact List.cons_ne_nil _ _) (calls_idx hxi)) rfl rfl rfl ?_
      refine go ?_
      rw [show decide (x.val = x.val) = true from decide_eq_true rfl]
      refine go ?_
      refine a_q (indexAddr_step tabOk [pI x.who, pI x.op.kind, pI x.op.obj, pI x.op.a, pI x.op.b, pI x.val, pB x.is, pI x.first, pI x.last, pI x.point] rfl rfl rfl rfl rfl rfl (by first | omega | (simp; done) | (simp; omega)) (by first | omega | (simp; done) | (simp; omega)) (by first | (simp; done) | exact List.cons_ne_nil _ _) (calls_idx hxi)) rfl rfl rfl ?_
      refine go ?_
      refine (show CK (!(x.is == x.is)) _ _ from ?_)
      rw [beq_self_eq_true]
      refine go ?_
      exact ⟨(i + 1, c'), ⟨by simp only; omega, he', by simp only; omega⟩, by simp only; omega, zX (hb := by exact ⟨⟨rfl, rfl⟩, ⟨rfl, rfl⟩, ⟨rfl, rfl⟩, ⟨rfl, ops_plain _ _ _⟩, ⟨rfl, logs_plain _ _ _⟩, ⟨rfl, stepsC_plain _ _ _⟩, ⟨rfl, nexts_plain _ _ _⟩, ⟨rfl, gones_plain _ _ _⟩, trivial⟩)⟩
    · have h1' := of_decide_eq_false h1
      rw [List.drop_of_length_le (by omega), CallsEx] at he
      subst he
      have hints := ints_c c c (by omega)
      rw [show decide (c = c) = true from decide_eq_true rfl] at hints
      refine go ?_
      refine awp_region_q [] rfl (by kernel_rfl) (by kernel_rfl) ?_
      refine goQ ?_
      rw [show decide ((calls.length : Int) + full = ops.length) = true by rw [decide_eq_true_eq]; exact hlen]
      refine goQ ?_
      rw [show decide ((c.length : Int) ≤ 3) = true by rw [decide_eq_true_eq]; omega]
      refine goQ ?_
      refine r_q (call_step (hrw) rfl (fun a w => Try.call16 a w) rfl) rfl rfl ?_
      refine goQ ?_
      refine r_q (call_step (hints) rfl (fun a w => Try.call15 a w) rfl) rfl rfl ?_
      refine goQ ?_
      refine go ?_
      first | refine fin_ret rfl ?_ | refine fin_normal rfl ?_
      rfl
end Go.Proofs.Ytdmnjoidfjidbaa
