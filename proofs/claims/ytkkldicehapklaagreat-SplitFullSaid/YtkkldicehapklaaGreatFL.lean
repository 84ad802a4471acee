/- Where nodes run out: the statement's walk. -/
import Derived.Test.YtkkldicehapklaaGreatSH
import Derived.Test.YtkkldicehapklaaGreatC2
import Derived.Test.YtkkldicehapklaaGreatBY
import Derived.Test.YtkkldicehapklaaGreatFW
import Derived.Test.YtkkldicehapklaaGreatPF
namespace Go.Proofs.YtkkldicehapklaaGreat
open Go.RowKit
set_option maxRecDepth 100000
theorem few_ok {ops : List OpT} (h : fewH [ops] [] 12 0 = true) : ops.length ≤ 12 ∧ ∀ o ∈ ops, okH o = true := by
 unfold fewH at h
 simp only [List.length_cons, List.length_nil, List.all_cons, List.all_nil, Bool.and_true, List.map_cons, List.map_nil, List.sum_cons, List.sum_nil, Nat.add_zero, Bool.and_eq_true, decide_eq_true_eq, List.all_eq_true] at h
 exact ⟨h.2, h.1.2⟩
theorem chain_len {l : List HCallT} {C : Nat → jX} (c0 : C 0 = []) (h : ∀ (n : Nat) (c : HCallT), l[n]? = some c → (c.op.kind = 1 ∨ c.op.kind = 2 ∨ c.op.kind = 3) ∧ doP (C n) c.op = (C (n + 1), c.val, c.is)) : ∀ n, n ≤ l.length → (C n).length ≤ n
 | 0, _ => by rw [c0]; exact Nat.le_refl _
 | n + 1, hn => by
  have ih := chain_len c0 h n (by omega)
  have h1 := (h n l[n] (List.getElem?_eq_getElem (by omega))).2
  have h2 := doP_len (C n) l[n].op
  rw [h1] at h2
  simp only at h2
  omega
set_option maxHeartbeats 16000000 in
theorem full_w (ops : List OpT) (hl : ops.length ≤ 9223372036854775807) (hb : ∀ o ∈ ops, o.b < 9223372036854775808) : kA Tryz.prog 6 [dOps ops] (dB true) := by
 have hF := few_c [ops] [] 12 0 (fun _ => by simp; omega) (by omega) (by omega)
 have hL : qJ (kT 1 5 2) := kF3 (by omega) (by omega) (by omega)
 have hM : jG3 (kT 1 5 2) := layH_m (by omega)
 have hO := refof_lay 1 5 2 (by omega) (.inr (.inl rfl)) (by omega)
 refine jO jB Tryz.func6 rfl Tryz.ntmps6 rfl rfl rfl fun w cl => ?_
 refine go ?_
 refine a_q (jA (shown_c) rfl (fun a w => Tryz.call7 a w) rfl) rfl rfl rfl ?_
 refine go ?_
 refine a_q (jA (hF) rfl (fun a w => Tryz.call9 a w) rfl) rfl rfl rfl ?_
 refine go ?_
 cases hfew : fewH [ops] [] 12 0
 ·refine go ?_
  first | refine jF rfl ?_ | refine jC rfl ?_
  rfl
 ·obtain ⟨h12, hok⟩ := few_ok hfew
  have hE := full_end (ops := ops) (fun o ho => by
   have h1 := hok o ho
   unfold okH at h1
   simp only [Bool.and_eq_true, decide_eq_true_eq] at h1
   exact ⟨by omega, h1.1.1.2, ⟨h1.1.2, h1.2⟩, hb o ho⟩) h12
  have hP : ImpC Tryz.prog 10 [] [wO (kT 1 5 2), dPlay [ops] []] [] (fun d bs => d = .ptr 30 0 ∧ bs = tabF (wI (kT 1 5 2) [ops] []) 1) := played_i (nn := 5) (sl := 2) (by omega) (by omega) [ops] [] (by simp) (by simp) (by simp) (fun x hx => by cases hx) (fun w hw => by
   rw [List.mem_singleton] at hw
   subst hw
   omega)
  rw [show lF = kT 1 5 2 from rfl] at hE
  generalize wI (kT 1 5 2) [ops] [] = t at hE hP
  obtain ⟨hm, h1, h2, h3, h4, h5, h6, C, c0, c1, c2, c3, c4, c5⟩ := hE
  obtain ⟨m, step, seats, calls, full, wild, bad⟩ := t
  simp only at hm h1 h2 h3 h4 h5 h6 c1 c2 c3 c4 c5
  subst h1
  subst h2
  have hP : ImpC Tryz.prog 10 [] [wO (kT 1 5 2), dPlay [ops] []] [] (fun d bs => d = .ptr 30 0 ∧ bs = [(30, [kK m, dI step, .arr 31 0 1 1, .arr 32 0 1 1, .arr 33 0 1 1, .arr 34 0 1 1, .arr 35 0 1 1, jN5 calls, dI full, dB false, dB false]), (31, uB seats), (32, uG seats), (33, yN seats), (34, yC seats), (35, yZ seats)]) := hP
  have hBy := by_c calls id C (by_up h4 fun n x hx => ⟨(c1 n x hx).1, (h5 x (List.mem_of_getElem? hx)).1, (h5 x (List.mem_of_getElem? hx)).2, (c1 n x hx).2⟩) (by omega) (fun n hn => by have := chain_len c0 c1 n hn; omega)
  rw [c0] at hBy
  have hb0 : qR (kT 1 5 2) 0 0 = 22 := by decide
  have hix : (ofW 1).idx = 1 := by decide
  have h6' : atF m 22 = 1 := by rw [← hb0]; exact h6
  have hCo := content_c (kT 1 5 2) hL hM m 22 (jQ (kT 1 5 2) 1 0) _ hb0 (by omega) (by omega) (by rw [h6', hix]) rfl (by rw [show kT 1 5 2 = lF from rfl]; omega) (by rw [show kT 1 5 2 = lF from rfl, ← c3.length_eq]; omega) (C calls.length) c2 c3
  have hSa := same9_c (C calls.length) (C calls.length) (by omega)
  generalize C calls.length = Z at *
  have hkl : (qA Z).length = Z.length := List.length_map _
  generalize kT 1 5 2 = l at *
  refine go ?_
  refine a_q (jA (hO) rfl (fun a w => Tryz.call17 a w) rfl) rfl rfl rfl ?_
  refine go ?_
  refine qW (kM1 (ds' := jB1 [ops] []) 26 rfl rfl) ?_
  refine yX (hP) rfl (fun a w => Tryz.call10 a w) rfl rfl (by (repeat (first | exact trivial | refine ⟨⟨rfl, rfl⟩, ?_⟩))) (by (repeat (first | exact trivial | refine ⟨.inr rfl, ?_⟩ | refine ⟨.inl rfl, ?_⟩))) rfl rfl rfl rfl ?_ ?_
  ·rintro d bs ⟨rfl, rfl⟩; exact ⟨.inr rfl, .inr rfl, .inr rfl, .inr rfl, .inr rfl, .inr rfl, trivial⟩
  rintro d bs ⟨rfl, rfl⟩
  refine go ?_
  refine jY [] rfl (by kernel_rfl) (by kernel_rfl) ?_
  refine goQ ?_
  refine r_q (jA (new9_c) rfl (fun a w => Tryz.call13 a w) rfl) rfl rfl ?_
  refine goQ ?_
  refine r_q (jA (hBy) rfl (fun a w => Tryz.call14 a w) rfl) rfl rfl ?_
  refine goQ ?_
  refine go ?_
  refine jY [] rfl (by kernel_rfl) (by kernel_rfl) ?_
  refine goQ ?_
  rw [show decide ((calls.length : Int) + full = ops.length) = true by rw [decide_eq_true_eq]; exact h3.2]
  refine goQ ?_
  refine r_q (jA (hCo) rfl (fun a w => Tryz.call16 a w) rfl) rfl rfl ?_
  refine goQ ?_
  refine r_q (jA (hSa) rfl (fun a w => Tryz.call15 a w) rfl) rfl rfl ?_
  rw [show decide (qA Z = qA Z) = true from decide_eq_true rfl, show decide (qC Z = qC Z) = true from decide_eq_true rfl]
  refine goQ ?_
  rw [show decide (((qA Z).length : Int) ≤ 4) = true by rw [decide_eq_true_eq]; omega]
  refine goQ ?_
  refine go ?_
  first | refine jF rfl ?_ | refine jC rfl ?_
  rfl
end Go.Proofs.YtkkldicehapklaaGreat
