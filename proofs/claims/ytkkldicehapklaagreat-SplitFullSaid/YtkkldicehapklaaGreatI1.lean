/- What lays a map: its walk. -/
import Derived.Test.YtkkldicehapklaaGreatEA
import Derived.Test.YtkkldicehapklaaGreatAny
import Derived.Test.YtkkldicehapklaaGreatFrz
namespace Go.Proofs.YtkkldicehapklaaGreat
open Go.RowKit
set_option maxRecDepth 100000
abbrev accB (n c : Nat) (cs : List Dt) : Bxs := [(71, [.arr 72 0 n c]), (72, cs)]
theorem accs_lf (l : List AccT) : ∀ x ∈ vN l, x.lf = true := by
 intro x hx
 unfold vN at hx
 rw [List.mem_flatMap] at hx
 obtain ⟨c, _, hc⟩ := hx
 simp only [pAcc, List.mem_cons, List.not_mem_nil, or_false] at hc
 rcases hc with rfl | rfl | rfl | rfl <;> rfl
structure AccsOk (l : List AccT) (c : Nat) (cs : List Dt) : Prop where
 pl : PlainC cs
 len : cs.length = c * 4
 le : l.length ≤ c
 c : c ≤ maxLen
 at_ : cs.take (l.length * 4) = (vN l).map Dt.p
theorem init0_i (ce v : Int) : ImpC Tryz.prog 46 [71] [dI ce, dI v, .ptr 71 0] [(71, [.p (.sl true 0 [])])] (fun d bs => d = .tup [] ∧ ∃ c cs, AccsOk [⟨2, ce, 0, v⟩] c cs ∧ bs = accB 1 c cs) := by
 refine vV jB Tryz.func46 rfl Tryz.ntmps46 rfl rfl rfl (by (repeat (first | exact trivial | refine ⟨rfl, ?_⟩))) fun w cl own kf => ?_
 refine go ?_
 refine jI1 (sz := 4) jB 72 rfl rfl rfl rfl rfl rfl rfl rfl rfl rfl rfl rfl rfl rfl (by omega) rfl (by unfold maxLen; omega) (by show 1 * 32 ≤ _; omega) (fun cs' c' k1 k2 k3 k4 k5 => ?_)
 refine go ?_
 refine qD (d := .tup []) (accB 1 c' cs') ?_ rfl (by exact ⟨⟨rfl, rfl⟩, ⟨rfl, k5 _ _⟩, trivial⟩) (by (repeat (first | exact trivial | refine ⟨rfl, ?_⟩))) ⟨rfl, c', cs', ⟨k5, k1, k3, k2, k4⟩, rfl⟩
 rfl
theorem jS0 (acc : List AccT) (n c : Nat) (cs : List Dt) (hn : acc.length = n) (h : AccsOk acc c cs) (hl : n ≤ 1000) (ce v : Int) : ImpC Tryz.prog 46 [71] [dI ce, dI v, .ptr 71 0] (accB n c cs) (fun d bs => d = .tup [] ∧ ∃ c cs, AccsOk (acc ++ [⟨2, ce, 0, v⟩]) c cs ∧ bs = accB (n + 1) c cs) := by
 subst hn
 refine vV jB Tryz.func46 rfl Tryz.ntmps46 rfl rfl rfl (by (repeat (first | exact trivial | refine ⟨rfl, ?_⟩))) fun w cl own kf => ?_
 refine go ?_
 refine jK8 (sz := 4) jB (vN acc) rfl rfl rfl rfl rfl rfl rfl rfl rfl rfl rfl rfl rfl rfl (jE9 rfl (wW rfl rfl (jQ0 rfl rfl))) h.len h.le (jS3 acc) h.at_ h.c (by omega) rfl (by unfold maxLen; omega) (by show (_ + 1) * 32 ≤ _; omega) (fun cs' c' k1 k2 k3 k4 k5 => ?_)
 refine go ?_
 refine qD (d := .tup []) (accB (acc.length + 1) c' cs') ?_ rfl (by exact ⟨⟨rfl, rfl⟩, ⟨rfl, k5 _ _⟩, trivial⟩) (by (repeat (first | exact trivial | refine ⟨rfl, ?_⟩))) ⟨rfl, c', cs', ⟨k5, k1, by rw [List.length_append]; exact k3, k2, by rw [List.length_append, ← jH7]; exact k4⟩, rfl⟩
 rfl
set_option maxHeartbeats 8000000 in
theorem splitinit_c (l : jN) (hL : qJ l) (hM : jG3 l) (m n : Int) (hn : n < 9223372036854775808) : kA Tryz.prog 19 [wO l, dI m, dI n] (dAccs (kL l m n)) := by
 refine jO jB Tryz.func19 rfl Tryz.ntmps19 rfl rfl rfl fun w cl => ?_
 refine goC ?_
 refine a_b (qP 0 rfl rfl rfl rfl) rfl rfl rfl rfl ?_
 refine z2 ?_
 refine jD ?_
 refine goC ?_
 refine a_b (jL jB 71 rfl rfl rfl rfl) rfl rfl rfl rfl ?_
 refine jD ?_
 refine go ?_
 refine a_q (jA (jD2 l hL n 0 hn (by omega)) rfl (fun a w => Tryz.call27 a w) rfl) rfl rfl rfl ?_
 refine go ?_
 refine wG (init0_i (jQ l n 0) 0) rfl (fun a w => Tryz.call46 a w) rfl rfl rfl (by (repeat (first | exact trivial | refine ⟨⟨rfl, rfl⟩, ?_⟩))) (by (repeat (first | exact trivial | refine ⟨.inr rfl, ?_⟩ | refine ⟨.inl rfl, ?_⟩))) rfl rfl rfl rfl ?_ ?_
 ·rintro d bs ⟨rfl, c, cs, _, rfl⟩; exact ⟨.inl rfl, .inr rfl, trivial⟩
 rintro d bs ⟨rfl, c0, cs0, h0, rfl⟩
 refine go ?_
 refine a_q (jA (jD2 l hL n 1 hn (by omega)) rfl (fun a w => Tryz.call27 a w) rfl) rfl rfl rfl ?_
 refine go ?_
 refine wG (jS0 [⟨2, jQ l n 0, 0, 0⟩] 1 c0 cs0 rfl h0 (by omega) (jQ l n 1) (0)) rfl (fun a w => Tryz.call46 a w) rfl rfl rfl (by exact ⟨⟨rfl, rfl⟩, ⟨rfl, h0.pl _ _⟩, trivial⟩) (by (repeat (first | exact trivial | refine ⟨.inr rfl, ?_⟩ | refine ⟨.inl rfl, ?_⟩))) rfl rfl rfl rfl ?_ ?_
 ·rintro d bs ⟨rfl, c, cs, _, rfl⟩; exact ⟨.inl rfl, .inl rfl, trivial⟩
 rintro d bs ⟨rfl, c1, cs1, h1, rfl⟩
 refine go ?_
 refine a_q (jA (jD2 l hL n 2 hn (by omega)) rfl (fun a w => Tryz.call27 a w) rfl) rfl rfl rfl ?_
 refine go ?_
 refine wG (jS0 [⟨2, jQ l n 0, 0, 0⟩, ⟨2, jQ l n 1, 0, 0⟩] 2 c1 cs1 rfl h1 (by omega) (jQ l n 2) (0)) rfl (fun a w => Tryz.call46 a w) rfl rfl rfl (by exact ⟨⟨rfl, rfl⟩, ⟨rfl, h1.pl _ _⟩, trivial⟩) (by (repeat (first | exact trivial | refine ⟨.inr rfl, ?_⟩ | refine ⟨.inl rfl, ?_⟩))) rfl rfl rfl rfl ?_ ?_
 ·rintro d bs ⟨rfl, c, cs, _, rfl⟩; exact ⟨.inl rfl, .inl rfl, trivial⟩
 rintro d bs ⟨rfl, c2, cs2, h2, rfl⟩
 refine go ?_
 refine a_q (jA (jD2 l hL n 6 hn (by omega)) rfl (fun a w => Tryz.call27 a w) rfl) rfl rfl rfl ?_
 refine go ?_
 refine wG (jS0 [⟨2, jQ l n 0, 0, 0⟩, ⟨2, jQ l n 1, 0, 0⟩, ⟨2, jQ l n 2, 0, 0⟩] 3 c2 cs2 rfl h2 (by omega) (jQ l n 6) (1)) rfl (fun a w => Tryz.call46 a w) rfl rfl rfl (by exact ⟨⟨rfl, rfl⟩, ⟨rfl, h2.pl _ _⟩, trivial⟩) (by (repeat (first | exact trivial | refine ⟨.inr rfl, ?_⟩ | refine ⟨.inl rfl, ?_⟩))) rfl rfl rfl rfl ?_ ?_
 ·rintro d bs ⟨rfl, c, cs, _, rfl⟩; exact ⟨.inl rfl, .inl rfl, trivial⟩
 rintro d bs ⟨rfl, c3, cs3, h3, rfl⟩
 refine go ?_
 refine a_q (jA (map_c l hL hM m 0 (by omega)) rfl (fun a w => Tryz.call38 a w) rfl) rfl rfl rfl ?_
 refine go ?_
 refine wG (jS0 [⟨2, jQ l n 0, 0, 0⟩, ⟨2, jQ l n 1, 0, 0⟩, ⟨2, jQ l n 2, 0, 0⟩, ⟨2, jQ l n 6, 0, 1⟩] 4 c3 cs3 rfl h3 (by omega) (xB l m 0) (1)) rfl (fun a w => Tryz.call46 a w) rfl rfl rfl (by exact ⟨⟨rfl, rfl⟩, ⟨rfl, h3.pl _ _⟩, trivial⟩) (by (repeat (first | exact trivial | refine ⟨.inr rfl, ?_⟩ | refine ⟨.inl rfl, ?_⟩))) rfl rfl rfl rfl ?_ ?_
 ·rintro d bs ⟨rfl, c, cs, _, rfl⟩; exact ⟨.inl rfl, .inl rfl, trivial⟩
 rintro d bs ⟨rfl, c4, cs4, h4, rfl⟩
 refine go ?_
 refine a_q (jA (map_c l hL hM m 1 (by omega)) rfl (fun a w => Tryz.call38 a w) rfl) rfl rfl rfl ?_
 refine go ?_
 refine wG (jS0 [⟨2, jQ l n 0, 0, 0⟩, ⟨2, jQ l n 1, 0, 0⟩, ⟨2, jQ l n 2, 0, 0⟩, ⟨2, jQ l n 6, 0, 1⟩, ⟨2, xB l m 0, 0, 1⟩] 5 c4 cs4 rfl h4 (by omega) (xB l m 1) (0)) rfl (fun a w => Tryz.call46 a w) rfl rfl rfl (by exact ⟨⟨rfl, rfl⟩, ⟨rfl, h4.pl _ _⟩, trivial⟩) (by (repeat (first | exact trivial | refine ⟨.inr rfl, ?_⟩ | refine ⟨.inl rfl, ?_⟩))) rfl rfl rfl rfl ?_ ?_
 ·rintro d bs ⟨rfl, c, cs, _, rfl⟩; exact ⟨.inl rfl, .inl rfl, trivial⟩
 rintro d bs ⟨rfl, c5, cs5, h5, rfl⟩
 refine go ?_
 refine a_q (jA (jY6 l hL hM m 0) rfl (fun a w => Tryz.call25 a w) rfl) rfl rfl rfl ?_
 refine go ?_
 refine a_q (jA (kC6 ⟨n, false, 0⟩) rfl (fun a w => Tryz.call47 a w) rfl) rfl rfl rfl ?_
 refine go ?_
 refine wG (jS0 [⟨2, jQ l n 0, 0, 0⟩, ⟨2, jQ l n 1, 0, 0⟩, ⟨2, jQ l n 2, 0, 0⟩, ⟨2, jQ l n 6, 0, 1⟩, ⟨2, xB l m 0, 0, 1⟩, ⟨2, xB l m 1, 0, 0⟩] 6 c5 cs5 rfl h5 (by omega) (qR l m 0) (vK ⟨n, false, 0⟩)) rfl (fun a w => Tryz.call46 a w) rfl rfl rfl (by exact ⟨⟨rfl, rfl⟩, ⟨rfl, h5.pl _ _⟩, trivial⟩) (by (repeat (first | exact trivial | refine ⟨.inr rfl, ?_⟩ | refine ⟨.inl rfl, ?_⟩))) rfl rfl rfl rfl ?_ ?_
 ·rintro d bs ⟨rfl, c, cs, _, rfl⟩; exact ⟨.inl rfl, .inl rfl, trivial⟩
 rintro d bs ⟨rfl, c6, cs6, h6, rfl⟩
 refine qW (jT4 (τs := [(7, .ptr 71 0)]) (τb := []) (τg := []) 71 0 72 (vN (kL l m n)) rfl rfl rfl rfl rfl (by exact ⟨⟨rfl, rfl⟩, trivial⟩) (by exact ⟨⟨rfl, rfl⟩, trivial⟩) trivial (by (repeat (first | exact trivial | refine ⟨rfl, ?_⟩))) rfl h6.len h6.le (jS3 _) h6.at_ h6.c (accs_lf _)) ?_
 refine go ?_
 first | refine jF rfl ?_ | refine jC rfl ?_
 rfl
end Go.Proofs.YtkkldicehapklaaGreat
