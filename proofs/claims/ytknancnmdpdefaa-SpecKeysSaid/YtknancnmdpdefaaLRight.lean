/- The walk of SpecRight. -/
import Derived.Test.YtknancnmdpdefaaAwake
import Derived.Test.YtknancnmdpdefaaMath
namespace Go.Proofs.Ytknancnmdpdefaa
open Go.RowKit

theorem wrap_in (n : Int) (h : -9223372036854775808 ≤ n ∧ n ≤ 9223372036854775807) : wrap64 n = n := by unfold wrap64; omega
theorem few_at {c : Cont} {Ak Av : Option Addr} {q1 q2 : Nat} {w : World} (hl : c.keys.length ≤ maxLen) (hl2 : c.vals.length ≤ maxLen) :
    Calls Try.prog 14 #[.agg #[.int .i64 c.kind, .slice Ak c.keys.length q1, .slice Av c.vals.length q2]] w fun e w' => e = .returned (.bool (fewB c)) ∧ Below w.heap.size w w' := few_any c Ak Av q1 q2 w hl hl2
theorem few_iff (c : Cont) : fewB c = true ↔ c.keys.length ≤ 100 ∧ c.vals.length ≤ 100 := by unfold fewB; simp

theorem same_at {a b : Cont} {Ak Av Bk Bv : Option Addr} {q1 q2 q3 q4 : Nat} {w : World} (ha : CIn w a Ak q1 Av q2) (hb : CIn w b Bk q3 Bv q4) (hl : a.keys.length ≤ 1000000) (hl2 : a.vals.length ≤ 1000000) :
    Calls Try.prog 17 #[.agg #[.int .i64 a.kind, .slice Ak a.keys.length q1, .slice Av a.vals.length q2], .agg #[.int .i64 b.kind, .slice Bk b.keys.length q3, .slice Bv b.vals.length q4]] w fun e w' => e = .returned (.bool (decide (a = b))) ∧ Below w.heap.size w w' := same_any a b Ak Av Bk Bv q1 q2 q3 q4 w ha hb hl hl2

set_option maxRecDepth 100000 in
set_option maxHeartbeats 4000000 in
theorem specRight_walk (c : Cont) (o : OpT) (Ak Av : Option Addr) (q1 q2 : Nat) (w : World) (h : CIn w c Ak q1 Av q2) :
    Calls Try.prog 3 #[.agg #[.int .i64 c.kind, .slice Ak c.keys.length q1, .slice Av c.vals.length q2], .agg #[.int .i64 o.kind, .int .i64 o.obj, .int .i64 o.a, .int .i64 o.b]] w (fun e w' => e = .returned (.bool true) ∧ Below w.heap.size w w') := by
  have hkm : c.keys.length ≤ maxLen := Nat.le_trans h.kc h.km
  have hvm : c.vals.length ≤ maxLen := Nat.le_trans h.vc h.vm
  go_enter Try.func3, Try.ntmps3
  go_upto_region 1 with (fail)
  refine wp_gen (fun W => Below w.heap.size w W ∧ W.heap[w.heap.size]? = some (.cells #[.int .i64 c.kind, .slice Ak c.keys.length q1, .slice Av c.vals.length q2] 24 (0, 0)) ∧ W.heap[w.heap.size + 1]? = some (.cells #[.int .i64 o.kind, .int .i64 o.obj, .int .i64 o.a, .int .i64 o.b] 26 (0, 0))) ⟨((Below.refl _ _).alloc (Nat.le_refl _) _).alloc (by simp) _, blk_alloc (heap_alloc_new w _), by simpa using heap_alloc_new (w.alloc (.cells #[.int .i64 c.kind, .slice Ak c.keys.length q1, .slice Av c.vals.length q2] 24)) (.cells #[.int .i64 o.kind, .int .i64 o.obj, .int .i64 o.a, .int .i64 o.b] 26)⟩ ?_
  rintro W1 ⟨hb1, k1, k2⟩
  have F1 : Hid _ := Lib.hid (And.intro hb1 (And.intro k1 (And.intro k2 (h.next hb1))))
  clear hb1 k1 k2 h
  go_wp2_with fail
  refine (awake_any W1).mono ?_
  rintro e W2 ⟨rfl, hb2⟩
  have F2 : Hid _ := Lib.hid (And.intro (F1.out.1.trans (hb2.mono F1.out.1.size)) (And.intro (blk_next F1.out.2.1 hb2) (And.intro (blk_next F1.out.2.2.1 hb2) (F1.out.2.2.2.next hb2))))
  clear F1 hb2
  have x0 : W2.cell? ⟨w.heap.size, 0, none⟩ = _ := blk_cell (cs := [_, _, _]) F2.out.2.1 0
  have x1 : W2.cell? ⟨w.heap.size, 1, none⟩ = _ := blk_cell (cs := [_, _, _]) F2.out.2.1 1
  have x2 : W2.cell? ⟨w.heap.size, 2, none⟩ = _ := blk_cell (cs := [_, _, _]) F2.out.2.1 2
  have hl1 := blk_lt F2.out.2.2.1
  go_wp2_with fail
  refine (few_at hkm hvm).mono ?_
  rintro e W3 ⟨rfl, hb3⟩
  have F3 : Hid _ := Lib.hid (And.intro (F2.out.1.trans (hb3.mono F2.out.1.size)) (And.intro (blk_next F2.out.2.1 hb3) (And.intro (blk_next F2.out.2.2.1 hb3) (F2.out.2.2.2.next hb3))))
  clear F2 hb3 x0 x1 x2 hl1
  by_cases hf : fewB c = true
  · have HF := Lib.hid ((few_iff c).1 hf)
    rw [hf]
    clear hf
    have x0 : W3.cell? ⟨w.heap.size, 0, none⟩ = _ := blk_cell (cs := [_, _, _]) F3.out.2.1 0
    have x1 : W3.cell? ⟨w.heap.size, 1, none⟩ = _ := blk_cell (cs := [_, _, _]) F3.out.2.1 1
    have x2 : W3.cell? ⟨w.heap.size, 2, none⟩ = _ := blk_cell (cs := [_, _, _]) F3.out.2.1 2
    have hl1 := blk_lt F3.out.2.2.1
    go_wp2_with fail
    refine (right_any c Ak Av q1 q2 _ F3.out.2.2.2.k hkm hvm).mono ?_
    rintro e W4 ⟨rfl, hb4⟩
    have F4 : Hid _ := Lib.hid (And.intro (F3.out.1.trans (hb4.mono F3.out.1.size)) (And.intro (blk_next F3.out.2.1 hb4) (And.intro (blk_next F3.out.2.2.1 hb4) (F3.out.2.2.2.next hb4))))
    clear F3 hb4 x0 x1 x2 hl1
    by_cases hr : rightB c = true
    · have HD := Lib.hid (does_deed c o hr)
      have HE := Lib.hid (does_len c o)
      rw [hr]
      clear hr
      have x0 : W4.cell? ⟨w.heap.size, 0, none⟩ = _ := blk_cell (cs := [_, _, _]) F4.out.2.1 0
      have x1 : W4.cell? ⟨w.heap.size, 1, none⟩ = _ := blk_cell (cs := [_, _, _]) F4.out.2.1 1
      have x2 : W4.cell? ⟨w.heap.size, 2, none⟩ = _ := blk_cell (cs := [_, _, _]) F4.out.2.1 2
      have y0 : W4.cell? ⟨w.heap.size + 1, 0, none⟩ = _ := blk_cell (cs := [_, _, _, _]) F4.out.2.2.1 0
      have y1 : W4.cell? ⟨w.heap.size + 1, 1, none⟩ = _ := blk_cell (cs := [_, _, _, _]) F4.out.2.2.1 1
      have y2 : W4.cell? ⟨w.heap.size + 1, 2, none⟩ = _ := blk_cell (cs := [_, _, _, _]) F4.out.2.2.1 2
      have y3 : W4.cell? ⟨w.heap.size + 1, 3, none⟩ = _ := blk_cell (cs := [_, _, _, _]) F4.out.2.2.1 3
      go_wp2_with fail
      refine (do_at (o := o) _ rfl F4.out.2.2.2 (by have := HF.out; omega) (by have := HF.out; omega) rfl rfl).mono ?_
      generalize does c o = D at *
      obtain ⟨X, Dv, Di⟩ := D
      have HK : Hid (X.kind = c.kind) := Lib.hid HD.out.kind
      have HX : Hid (rightB X = true) := Lib.hid HD.out.right
      have HN : Hid (Di = false → Dv = 0 ∧ X = c) := Lib.hid HD.out.not_
      have HU : Hid (X.vals.length ≤ c.vals.length + 1 ∧ c.vals.length ≤ X.vals.length + 1 ∧ X.keys.length ≤ c.keys.length + 1) := Lib.hid ⟨HD.out.up, HD.out.down, HE.out.1⟩
      clear HD HE
      rintro e W5 ⟨Ck, r1, Cv, r2, rfl, hc5, _, _, hb5⟩
      have HC5 : Hid (CIn W5 X Ck r1 Cv r2) := Lib.hid hc5
      have F5 : Hid _ := Lib.hid (And.intro (F4.out.1.trans (hb5.mono F4.out.1.size)) (And.intro (blk_next F4.out.2.1 hb5) (And.intro (blk_next F4.out.2.2.1 hb5) (F4.out.2.2.2.next hb5))))
      clear F4 hb5 x0 x1 x2 y0 y1 y2 y3 hc5
      simp only [HK.out]
      go_upto_region 5 with (fail)
      refine wp_gen (fun W => Below w.heap.size w W ∧ W.heap[w.heap.size]? = some (.cells #[.int .i64 c.kind, .slice Ak c.keys.length q1, .slice Av c.vals.length q2] 24 (0, 0)) ∧ W.heap[W5.heap.size]? = some (.cells #[.int .i64 c.kind, .slice Ck X.keys.length r1, .slice Cv X.vals.length r2] 24 (0, 0)) ∧ CIn W c Ak q1 Av q2 ∧ CIn W X Ck r1 Cv r2)
        ⟨F5.out.1.alloc F5.out.1.size _, blk_alloc F5.out.2.1, heap_alloc_new W5 _, F5.out.2.2.2.next ((Below.refl _ _).alloc (Nat.le_refl _) _), HC5.out.next ((Below.refl _ _).alloc (Nat.le_refl _) _)⟩ ?_
      rintro W6 ⟨b6, k6, m6, c6, d6⟩
      have x0 : W6.cell? ⟨w.heap.size, 0, none⟩ = _ := blk_cell (cs := [_, _, _]) k6 0
      have x1 : W6.cell? ⟨w.heap.size, 1, none⟩ = _ := blk_cell (cs := [_, _, _]) k6 1
      have x2 : W6.cell? ⟨w.heap.size, 2, none⟩ = _ := blk_cell (cs := [_, _, _]) k6 2
      have y0 : W6.cell? ⟨W5.heap.size, 0, none⟩ = _ := blk_cell (cs := [_, _, _]) m6 0
      have y1 : W6.cell? ⟨W5.heap.size, 1, none⟩ = _ := blk_cell (cs := [_, _, _]) m6 1
      have y2 : W6.cell? ⟨W5.heap.size, 2, none⟩ = _ := blk_cell (cs := [_, _, _]) m6 2
      have hl1 := blk_lt k6
      have hl2 := blk_lt m6
      have F6 := Lib.hid (And.intro b6 (And.intro k6 (And.intro m6 (And.intro c6 d6))))
      clear F5 HC5 b6 k6 m6 c6 d6
      have hdk : X.keys.length ≤ maxLen := by have := HU.out; have := HF.out; unfold maxLen; omega
      have hdv : X.vals.length ≤ maxLen := by have := HU.out; have := HF.out; unfold maxLen; omega
      go_upto_region 6 with (fail)
      have hM0 : wrap64 ((X.vals.length : Int) - (c.vals.length : Int)) = (X.vals.length : Int) - (c.vals.length : Int) := wrap_in _ (by have := HU.out; have := HF.out; omega)
      generalize wrap64 ((X.vals.length : Int) - (c.vals.length : Int)) = M at *
      have g1 : -1 ≤ M := by have := HU.out; omega
      have g2 : M ≤ 1 := by have := HU.out; omega
      have HM := Lib.hid hM0
      clear hM0
      rcases Di with _ | _
      · obtain ⟨hv0, hcc⟩ := HN.out rfl
        subst hv0
        subst hcc
        have hM : M = 0 := by have := HM.out; omega
        subst hM
        clear g1 g2
        go_wp2_with fail
        refine (same_at F6.out.2.2.2.2 F6.out.2.2.2.1 (by have := HF.out.1; omega) (by have := HF.out.2; omega)).mono ?_
        rintro e W7 ⟨rfl, hb7⟩
        rw [show decide (X = X) = true from decide_eq_true rfl]
        have F7 := Lib.hid (And.intro (F6.out.1.trans (hb7.mono F6.out.1.size)) (And.intro (blk_next F6.out.2.1 hb7) (And.intro (blk_next F6.out.2.2.1 hb7) (F6.out.2.2.2.2.next hb7))))
        clear F6 hb7 x0 x1 x2 y0 y1 y2 hl1 hl2
        have x0 : W7.cell? ⟨w.heap.size, 0, none⟩ = _ := blk_cell (cs := [_, _, _]) F7.out.2.1 0
        have x1 : W7.cell? ⟨w.heap.size, 1, none⟩ = _ := blk_cell (cs := [_, _, _]) F7.out.2.1 1
        have x2 : W7.cell? ⟨w.heap.size, 2, none⟩ = _ := blk_cell (cs := [_, _, _]) F7.out.2.1 2
        have y0 : W7.cell? ⟨W5.heap.size, 0, none⟩ = _ := blk_cell (cs := [_, _, _]) F7.out.2.2.1 0
        have y1 : W7.cell? ⟨W5.heap.size, 1, none⟩ = _ := blk_cell (cs := [_, _, _]) F7.out.2.2.1 1
        have y2 : W7.cell? ⟨W5.heap.size, 2, none⟩ = _ := blk_cell (cs := [_, _, _]) F7.out.2.2.1 2
        have hl1 := blk_lt F7.out.2.1
        have hl2 := blk_lt F7.out.2.2.1
        go_wp2_with fail
        refine (right_any X Ck Cv r1 r2 _ F7.out.2.2.2.k hdk hdv).mono ?_
        rintro e W8 ⟨rfl, hb8⟩
        rw [HX.out]
        have F8 := Lib.hid (And.intro (F7.out.1.trans (hb8.mono F7.out.1.size)) (And.intro (blk_next F7.out.2.1 hb8) (blk_next F7.out.2.2.1 hb8)))
        clear F7 hb8 x0 x1 x2 y0 y1 y2 hl1 hl2
        have x0 : W8.cell? ⟨w.heap.size, 0, none⟩ = _ := blk_cell (cs := [_, _, _]) F8.out.2.1 0
        have y0 : W8.cell? ⟨W5.heap.size, 0, none⟩ = _ := blk_cell (cs := [_, _, _]) F8.out.2.2 0
        have hl1 := blk_lt F8.out.2.1
        have hl2 := blk_lt F8.out.2.2
        go_wp2_with fail
        go_ret
        exact ⟨rfl, F8.out.1⟩
      · go_wp2_with fail
        have hra := right_any X Ck Cv r1 r2 W6 F6.out.2.2.2.2.k hdk hdv
        rw [HK.out] at hra
        refine hra.mono ?_
        rintro e W8 ⟨rfl, hb8⟩
        rw [HX.out]
        have F8 := Lib.hid (And.intro (F6.out.1.trans (hb8.mono F6.out.1.size)) (And.intro (blk_next F6.out.2.1 hb8) (blk_next F6.out.2.2.1 hb8)))
        clear F6 hb8 x0 x1 x2 y0 y1 y2 hl1 hl2 hra
        have x0 : W8.cell? ⟨w.heap.size, 0, none⟩ = _ := blk_cell (cs := [_, _, _]) F8.out.2.1 0
        have y0 : W8.cell? ⟨W5.heap.size, 0, none⟩ = _ := blk_cell (cs := [_, _, _]) F8.out.2.2 0
        have hl1 := blk_lt F8.out.2.1
        have hl2 := blk_lt F8.out.2.2
        go_wp2_with fail
        go_ret
        exact ⟨rfl, F8.out.1⟩
    · have hr' : rightB c = false := by simpa using hr
      rw [hr']
      go_wp2_with fail
      go_ret
      exact ⟨rfl, F4.out.1⟩
  · have hf' : fewB c = false := by simpa using hf
    rw [hf']
    go_wp2_with fail
    go_ret
    exact ⟨rfl, F3.out.1⟩
end Go.Proofs.Ytknancnmdpdefaa
