/- One who is alone: the statement's walk. -/
import Derived.Test.YtdmnjoidfjidbaaGreatV1
import Derived.Test.YtdmnjoidfjidbaaGreatU3
import Derived.Test.YtdmnjoidfjidbaaGreatE3
import Derived.Test.YtdmnjoidfjidbaaGreatPD
namespace Go.Proofs.YtdmnjoidfjidbaaGreat
open Go.RowKit
set_option maxRecDepth 100000

def noArr : Dt → Dt
  | .arr _ _ _ _ => .any
  | d => d
theorem noArr_rep {e : Env} {v : Value} {d : Dt} (h : DRep e v d) : DRep e v (noArr d) := by
  cases d <;> first | exact h | exact .any
theorem arrB_ghost {Γ : Ctx} {σ : St} (nm : Nat) {cs cs' : List Dt} (hb : kv σ.b nm = some cs) (hd : cs.map noArr = cs') : Ghost Γ σ ⟨σ.s, (nm, cs') :: σ.b, σ.g⟩ := by
  intro a e hc
  refine ⟨e, rfl, hc.size, hc.df, hc.slots, fun u c hu => ?_, fun u hu => ?_, hc.gs, hc.env⟩
  · simp only [lk_cons] at hu
    split at hu
    · rename_i htu
      subst htu
      cases hu
      obtain ⟨k, vs, el, h1, h2, h3, h4⟩ := hc.boxes _ _ hb
      refine ⟨k, vs, el, h1, h2, by rw [← hd, List.length_map]; exact h3, fun i v d hv hdd => ?_⟩
      rw [← hd, List.getElem?_map] at hdd
      cases hcs : cs[i]? with
      | none => rw [hcs] at hdd; cases hdd
      | some x => rw [hcs] at hdd; cases hdd; exact noArr_rep (h4 i v x hv hcs)
    · exact hc.boxes u c hu
  · simp only [lk_cons] at hu
    split at hu
    · cases hu
    · exact hc.nobox u hu
theorem memDoF_len (m : List Int) (a : AccT) : (memDoF m a).1.length = m.length := by
  unfold memDoF
  split
  · exact turnF_len m a
  · rfl
theorem soloOp_gone {l : LayT} {gone : List (Int × Int)} {op : OpT} : ∀ (k : Nat) (log : List ResT) (m : List Int), GoneOk gone → GoneOk (soloOp l gone op k log m).2 ∧ (soloOp l gone op k log m).2.length ≤ gone.length + 1 ∧ (soloOp l gone op k log m).1.length = m.length
  | 0, log, m, hg => ⟨hg, by show gone.length ≤ _; omega, rfl⟩
  | k + 1, log, m, hg => by
    rw [soloOp]
    split
    · exact ⟨(snext_gone hg).1, (snext_gone hg).2, rfl⟩
    · have h := soloOp_gone (l := l) (op := op) k (log ++ [(memDoF m (snextF l 0 gone op log).1).2.1]) (memDoF m (snextF l 0 gone op log).1).1 hg
      exact ⟨h.1, h.2.1, by rw [h.2.2, memDoF_len]⟩
set_option maxHeartbeats 16000000 in
theorem solo_w (ops : List OpT) (hlo : ops.length ≤ 9223372036854775807) : PureC Tryz.prog 3 [dOps ops] (dB true) := by
  have hF := few_c [ops] [] 14 0 (fun _ => by simpa using hlo) (by omega) (by omega)
  have hwh := where_c 1 0 (by omega) (by omega)
  rw [show (1 : Int) + 0 % 3 = 1 from rfl] at hwh
  refine pure_fin tabOk Tryz.func3 rfl Tryz.ntmps3 rfl rfl rfl fun w cl => ?_
  refine go ?_
  refine a_q (call_step (shown_c) rfl (fun a w => Tryz.call4 a w) rfl) rfl rfl rfl ?_
  refine go ?_
  refine aops_ghost (lowB_ghost (cs' := playD [ops] []) 0 rfl rfl) ?_
  refine go ?_
  refine a_q (call_step (hF) rfl (fun a w => Tryz.call5 a w) rfl) rfl rfl rfl ?_
  refine go ?_
  cases hfew : fewF [ops] [] 14 0
  · refine go ?_
    first | refine fin_ret rfl ?_ | refine fin_normal rfl ?_
    rfl
  · have hol : ops.length ≤ 14 := by
      unfold fewF at hfew
      simp only [Bool.and_eq_true, decide_eq_true_eq] at hfew
      have := hfew.2
      simpa using this
    have hkd : ∀ o ∈ ops, o.kind = 4 ∨ o.kind = 5 := by
      obtain ⟨hp, _, _⟩ := few_play hfew 16 1 (.inr rfl) (by omega) (by omega)
      exact fun o ho => (hp.ops ops (by simp) o ho).1
    have hH := solo_holds hfew
    have hP : ImpC Tryz.prog 7 [] [dLay (layE 1 16 1), dPlay [ops] []] [] (fun d bs => d = .ptr 30 0 ∧ bs = tabF (playedT (layE 1 16 1) [ops] []) 1) := played_i (nn := 16) (sl := 1) (by omega) (by omega) [ops] [] (by simp) (by simp) (by simp) (fun x hx => by cases hx) (fun w hw => by
      rw [List.mem_singleton] at hw
      subst hw
      omega)
    have hB := tbegin2_i (s := 1) (nn := 16) (sl := 1) (by omega) (by omega) (by omega) 1 (by omega)
    have hL := layE_ok (s := 1) (sl := 1) (n := 16) (by omega) (by omega) (by omega)
    have hbl : (beginF (layE 1 16 1)).length ≤ 1000 := by rw [beginF_len]; simp only [layE]; omega
    generalize playedT (layE 1 16 1) [ops] [] = t at hH hP
    obtain ⟨hb, hwi, hlen, hops, ⟨vs, hEx, hrow, hmem⟩, hlt⟩ := hH
    have hrw := row_c (layE 1 16 1) hL t.m 0 hlt
    rw [hrow] at hrw
    generalize beginF (layE 1 16 1) = m0 at *
    generalize layE 1 16 1 = l at *
    obtain ⟨tm, step, seats, calls, full, wild, bad⟩ := t
    simp only at hb hwi hlen hops hEx hrw hmem
    subst hb
    subst hwi
    refine go ?_
    refine a_q (call_step (hwh) rfl (fun a w => Tryz.call6 a w) rfl) rfl rfl rfl ?_
    refine go ?_
    refine a_callI hP rfl (fun a w => Tryz.call7 a w) rfl rfl trivial trivial rfl rfl rfl rfl ?_ ?_
    · rintro d bs ⟨rfl, rfl⟩; exact ⟨.inr rfl, .inr rfl, .inr rfl, .inr rfl, .inr rfl, .inr rfl, trivial⟩
    rintro d bs ⟨rfl, rfl⟩
    refine go ?_
    refine a_q (call_step (new9_c) rfl (fun a w => Tryz.call8 a w) rfl) rfl rfl rfl ?_
    refine go ?_
    refine aops_ghost (arrB_ghost 30 rfl rfl) ?_
    refine aops_ghost (zX (τ := ⟨[(37, dLay l), (7, .ptr 11 0), (6, .ptr 30 0), (5, .ptr 3 0), (3, dB true), (0, dOps ops)], [(11, [dI 2, dInts [], dInts []]), (3, layD l), (30, [dInts tm, dI step, .any, .any, .any, .any, .any, dCalls calls, dI full, dB false, dB false])], []⟩)) ?_
    refine a_callI hB rfl (fun a w => Tryz.call9 a w) rfl rfl trivial trivial rfl rfl rfl rfl ?_ ?_
    · rintro d bs ⟨rfl, rfl⟩; exact ⟨.inr rfl, .inr rfl, .inr rfl, .inr rfl, .inr rfl, .inr rfl, trivial⟩
    rintro d bs ⟨rfl, rfl⟩
    refine a_ax tabOk rfl rfl rfl rfl ?_
    refine a_ax tabOk rfl rfl rfl rfl ?_
    refine a_ax tabOk rfl rfl rfl rfl ?_
    refine a_b (alloc_step tabOk 20 rfl rfl rfl rfl) rfl rfl rfl rfl ?_
    refine go ?_
    refine awp_ghost (lowS_ghost 9 (d' := dGone []) rfl rfl) ?_
    refine awp_loop_ok (fun p : Nat × List Int × List Int × List (Int × Int) => p.1 ≤ ops.length ∧ CallsEx p.2.1 (calls.drop p.1) vs ∧ p.2.1.length ≤ p.1 ∧ (soloAll l (ops.drop p.1) (p.2.2.1, p.2.2.2)).1 = tm ∧ p.2.2.1.length = m0.length ∧ GoneOk p.2.2.2 ∧ p.2.2.2.length ≤ p.1) (fun p => ⟨[(10, dI p.1), (9, dGone p.2.2.2), (7, .ptr 11 0), (8, .ptr 20 0), (6, .ptr 30 0), (5, .ptr 3 0), (3, dB true), (0, dOps ops)], (11, [dI 2, dInts [], dInts p.2.1]) :: (20, [dInts p.2.2.1]) :: (3, layD l) :: [(30, [dInts tm, dI step, .any, .any, .any, .any, .any, dCalls calls, dI full, dB false, dB false])], []⟩) (fun p => ops.length - p.1) (0, [], m0, []) ⟨Nat.zero_le _, hEx, Nat.zero_le _, hmem, rfl, (fun p hp => by cases hp), Nat.zero_le _⟩ (zX) ?_
    rintro ⟨i, c, m, gone⟩ ⟨hi, he, hcl, hm, hml, hgo, hgl⟩
    simp only at hi he hcl hm hml hgo hgl
    refine (show AWP _ _ _ _ ⟨[(10, dI i), (9, dGone gone), (7, .ptr 11 0), (8, .ptr 20 0), (6, .ptr 30 0), (5, .ptr 3 0), (3, dB true), (0, dOps ops)], (11, [dI 2, dInts [], dInts c]) :: (20, [dInts m]) :: (3, layD l) :: [(30, [dInts tm, dI step, .any, .any, .any, .any, .any, dCalls calls, dI full, dB false, dB false])], []⟩ from ?_)
    refine go ?_
    by_cases h1 : i < ops.length
    · rw [show decide ((i : Int) < ops.length) = true by rw [decide_eq_true_eq]; omega]
      refine go ?_
      rw [show decide ((i : Int) < calls.length) = true by rw [decide_eq_true_eq]; omega]
      refine go ?_
      obtain ⟨o, ho⟩ : ∃ o, ops[i]? = some o := ⟨ops[i]'h1, List.getElem?_eq_getElem _⟩
      have hoi : ops[(i : Int).toNat]? = some o := by simpa using ho
      obtain ⟨x, hx⟩ : ∃ x, calls[i]? = some x := ⟨calls[i]'(by omega), List.getElem?_eq_getElem _⟩
      have hxi : calls[(i : Int).toNat]? = some x := by simpa using hx
      have hxo : x.op = o := by
        have h2 : (calls.map CallT.op)[i]? = some x.op := by rw [List.getElem?_map, hx]; rfl
        rw [hops, ho] at h2
        cases h2; rfl
      have hok := hkd o (List.mem_of_getElem? ho)
      rw [drop_cons hx, CallsEx] at he
      obtain ⟨c', hdo, he'⟩ := he
      rw [drop_cons ho, soloAll] at hm
      have hd := stkDo_len c x.op
      rw [hdo] at hd
      simp only at hd
      have hc9 := do9_c c o (by omega) hok
      rw [← hxo, hdo, hxo] at hc9
      refine awp_region_w 13 [] rfl rfl (by kernel_rfl) (by kernel_rfl) (by kernel_rfl) ?_
      refine goQ ?_
      refine r_q (indexAddr_step tabOk [pI o.kind, pI o.obj, pI o.a, pI o.b] rfl rfl rfl rfl rfl rfl (by first | omega | (simp; done) | (simp; omega)) (by first | omega | (simp; done) | (simp; omega)) (by first | (simp; done) | exact List.cons_ne_nil _ _) (ops_idx hoi)) rfl rfl ?_
      refine goQ ?_
      refine r_q (call_step (hc9) rfl (fun a w => Tryz.call10 a w) rfl) rfl rfl ?_
      refine goQ ?_
      refine go ?_
      refine a_q (indexAddr_step tabOk [pI x.who, pI x.op.kind, pI x.op.obj, pI x.op.a, pI x.op.b, pI x.val, pB x.is, pI x.first, pI x.last, pI x.point] rfl rfl rfl rfl rfl rfl (by first | omega | (simp; done) | (simp; omega)) (by first | omega | (simp; done) | (simp; omega)) (by first | (simp; done) | exact List.cons_ne_nil _ _) (calls_idx hxi)) rfl rfl rfl ?_
      refine go ?_
      rw [show decide (x.val = x.val) = true from decide_eq_true rfl]
      refine go ?_
      refine a_q (indexAddr_step tabOk [pI x.who, pI x.op.kind, pI x.op.obj, pI x.op.a, pI x.op.b, pI x.val, pB x.is, pI x.first, pI x.last, pI x.point] rfl rfl rfl rfl rfl rfl (by first | omega | (simp; done) | (simp; omega)) (by first | omega | (simp; done) | (simp; omega)) (by first | (simp; done) | exact List.cons_ne_nil _ _) (calls_idx hxi)) rfl rfl rfl ?_
      refine go ?_
      refine (show CK (!(x.is == x.is)) _ _ from ?_)
      rw [beq_self_eq_true]
      refine go ?_
      have hsg := soloOp_gone (l := l) (op := o) 200 [] m hgo
      refine awp_ghost (tip_ghost 14 0 65 2 rfl rfl rfl) ?_
      generalize hS : soloOp l gone o 200 [] m = S at hm hsg
      refine awp_viaE (ι := Unit) (.exit 2) (fun _ => ⟨[(10, dI i), (9, dGone S.2), (7, .ptr 11 0), (8, .ptr 20 0), (6, .ptr 30 0), (5, .ptr 3 0), (3, dB true), (0, dOps ops)], (11, [dI 2, dInts [], dInts c']) :: (20, [dInts S.1]) :: (3, layD l) :: [(30, [dInts tm, dI step, .any, .any, .any, .any, .any, dCalls calls, dI full, dB false, dB false])], []⟩) (fun _ => True) ?_ ?_
      · refine awp_loop_ok (fun p : Nat × List ResT × List Int => p.1 ≤ 200 ∧ p.2.1.length = p.1 ∧ p.2.2.length = m0.length ∧ soloOp l gone o (200 - p.1) p.2.1 p.2.2 = S) (fun p => ⟨[(15, dI p.1), (14, .tip 0 p.2.1.length (pLog p.2.1)), (10, dI i), (9, dGone gone), (7, .ptr 11 0), (8, .ptr 20 0), (6, .ptr 30 0), (5, .ptr 3 0), (3, dB true), (0, dOps ops)], (11, [dI 2, dInts [], dInts c']) :: (20, [dInts p.2.2]) :: (3, layD l) :: [(30, [dInts tm, dI step, .any, .any, .any, .any, .any, dCalls calls, dI full, dB false, dB false])], [(0, ⟨65, 2, p.2.1.length⟩)]⟩) (fun p => 200 - p.1) (0, [], m) ⟨Nat.zero_le _, rfl, hml, hS⟩ (zX) ?_
        clear hm hsg hS hml
        rintro ⟨k, log, m⟩ ⟨hk, hll, hml, hS⟩
        simp only at hk hll hml hS
        refine (show AWP _ _ _ _ ⟨[(15, dI k), (14, .tip 0 log.length (pLog log)), (10, dI i), (9, dGone gone), (7, .ptr 11 0), (8, .ptr 20 0), (6, .ptr 30 0), (5, .ptr 3 0), (3, dB true), (0, dOps ops)], (11, [dI 2, dInts [], dInts c']) :: (20, [dInts m]) :: (3, layD l) :: [(30, [dInts tm, dI step, .any, .any, .any, .any, .any, dCalls calls, dI full, dB false, dB false])], [(0, ⟨65, 2, log.length⟩)]⟩ from ?_)
        refine go ?_
        refine ck_b (fun h5 => ?_) (fun h5 => ?_) <;> try rw [h5]
        · have h5' := of_decide_eq_true h5
          rw [show 200 - k = (200 - (k + 1)) + 1 by omega, soloOp] at hS
          have hN := snext_c l hL 0 gone o log hgo (by omega) (by omega)
          generalize snextF l 0 gone o log = r at hN hS
          obtain ⟨a, out, dn⟩ := r
          dsimp only [dNx] at hN
          simp only at hS
          refine go ?_
          refine awp_region_w 16 [] rfl rfl (by kernel_rfl) (by kernel_rfl) (by kernel_rfl) ?_
          refine goQ ?_
          refine r_q (indexAddr_step tabOk [pI o.kind, pI o.obj, pI o.a, pI o.b] rfl rfl rfl rfl rfl rfl (by first | omega | (simp; done) | (simp; omega)) (by first | omega | (simp; done) | (simp; omega)) (by first | (simp; done) | exact List.cons_ne_nil _ _) (ops_idx hoi)) rfl rfl ?_
          refine goQ ?_
          refine r_q (call_step (hN) rfl (fun a w => Tryz.call11 a w) rfl) rfl rfl ?_
          refine goQ ?_
          refine go ?_
          cases dn
          · rw [if_neg (by decide)] at hS
            have hM := memDo_c m a (by omega)
            have hMl := memDoF_len m a
            generalize memDoF m a = q at hM hMl hS
            obtain ⟨m', rs, fl⟩ := q
            simp only at hM hMl hS
            refine go ?_
            refine a_q (call_step (hM) rfl (fun a w => Tryz.call12 a w) rfl) rfl rfl rfl ?_
            refine go ?_
            refine a_append (m := 1) (qs := pRes rs) tabOk rfl rfl rfl rfl rfl rfl rfl rfl rfl rfl rfl rfl rfl (by unfold maxLen; omega) (by show (_ + _) * 16 ≤ _; omega) ?_
            rw [show pLog log ++ pRes rs = pLog (log ++ [rs]) by simp [pLog], show log.length + 1 = (log ++ [rs]).length by simp]
            refine go ?_
            exact ⟨(k + 1, log ++ [rs], m'), ⟨by simp only; omega, by simp only [List.length_append, List.length_cons, List.length_nil]; omega, by simp only; omega, hS⟩, by simp only; omega, zX⟩
          · rw [if_pos rfl] at hS
            subst hS
            refine go ?_
            exact ⟨rfl, (), trivial, zX⟩
        · have h5' := of_decide_eq_false h5
          rw [show 200 - k = 0 by omega, soloOp] at hS
          subst hS
          refine go ?_
          exact ⟨rfl, (), trivial, zX⟩
      intro σ' _ _ hgh
      refine zR (zP (zM (awp_ghost hgh ?_)))
      clear hgh
      refine go ?_
      exact ⟨(i + 1, c', S.1, S.2), ⟨by simp only; omega, he', by simp only; omega, hm, by simp only; omega, hsg.1, by simp only; omega⟩, by simp only; omega, zX⟩
    · rw [show decide ((i : Int) < ops.length) = false by rw [decide_eq_false_iff_not]; omega]
      rw [List.drop_of_length_le (by omega), soloAll] at hm
      rw [List.drop_of_length_le (by omega), CallsEx] at he
      simp only at hm
      subst hm
      subst he
      have hints := ints_c c c (by omega)
      rw [show decide (c = c) = true from decide_eq_true rfl] at hints
      have hsm := refsame_s m (by omega)
      refine go ?_
      refine awp_region_q [] rfl (by kernel_rfl) (by kernel_rfl) ?_
      refine goQ ?_
      rw [show decide ((calls.length : Int) = ops.length) = true by rw [decide_eq_true_eq]; omega]
      refine goQ ?_
      refine r_q (call_step (hsm) rfl (fun a w => Tryz.call13 a w) rfl) rfl rfl ?_
      refine goQ ?_
      refine r_q (call_step (hrw) rfl (fun a w => Tryz.call15 a w) rfl) rfl rfl ?_
      refine goQ ?_
      refine r_q (call_step (hints) rfl (fun a w => Tryz.call14 a w) rfl) rfl rfl ?_
      refine goQ ?_
      refine go ?_
      first | refine fin_ret rfl ?_ | refine fin_normal rfl ?_
      rfl
end Go.Proofs.YtdmnjoidfjidbaaGreat
