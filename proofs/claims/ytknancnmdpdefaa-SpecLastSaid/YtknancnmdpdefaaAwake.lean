/- The contracts of Commute, takes and awake. -/
import Derived.Test.YtknancnmdpdefaaAll
import Derived.BigQuiet
namespace Go.Proofs.Ytknancnmdpdefaa
open Go.RowKit

theorem blk_lt {W : World} {g : Nat} {o : Obj} (h : W.heap[g]? = some o) : g < W.heap.size := (Array.getElem?_eq_some_iff.1 h).1
theorem blk_next {W W' : World} {g : Nat} {o : Obj} (h : W.heap[g]? = some o) (hb : Below W.heap.size W W') : W'.heap[g]? = some o := (hb.block g (blk_lt h)).trans h
theorem blk_alloc {W : World} {g : Nat} {o p : Obj} (h : W.heap[g]? = some o) : (W.alloc p).heap[g]? = some o := (Below.heap_alloc W p g (blk_lt h)).trans h

theorem do_at {c : Cont} {o : OpT} {Ak Av : Option Addr} {q1 q2 : Nat} {w : World} (r : Cont × Int × Bool) (hr : does c o = r) (h : CIn w c Ak q1 Av q2) (hk : c.keys.length ≤ 100000) (hv : c.vals.length ≤ 100000) {n1 n2 : Nat} (e1 : c.keys.length = n1) (e2 : c.vals.length = n2) :
    Calls Try.prog 16 #[.agg #[.int .i64 c.kind, .slice Ak n1 q1, .slice Av n2 q2], .agg #[.int .i64 o.kind, .int .i64 o.obj, .int .i64 o.a, .int .i64 o.b]] w (GivesDo r c Ak Av w) := by
  subst hr; subst e1; subst e2
  exact do_any c o Ak Av q1 q2 w h (by omega) (by omega)

theorem new_row {α : Type} (T : RowTy α) (w : World) (l : List α) (e : TypeId) (cs : Array Value) (hcs : cs = (T.flat l).toArray) (hl : l.length ≤ maxLen) : RowIn T (w.alloc (.cells cs e)) (some ⟨w.heap.size, 0, none⟩) l := by
  subst hcs
  obtain ⟨A, cap, e', _, _, _, hr⟩ := isRow_new T w l e hl
  injection e' with e'
  subst e'
  exact hr
theorem all_at {c : Cont} {l : List OpT} {Ak Av A : Option Addr} {q1 q2 cap : Nat} {w : World} (r : Cont × List Int × List Bool) (hr : doAll c l = r) (h : CIn w c Ak q1 Av q2) (hrl : RowIn opsT w A l) (hl : l.length ≤ 100000) (hk : c.keys.length ≤ 100000) (hv : c.vals.length ≤ 100000) {n1 n2 n3 : Nat} (e1 : c.keys.length = n1) (e2 : c.vals.length = n2) (e3 : l.length = n3) :
    Calls Try.prog 18 #[.agg #[.int .i64 c.kind, .slice Ak n1 q1, .slice Av n2 q2], .slice A n3 cap] w (GivesAll r w) := by
  subst hr; subst e1; subst e2; subst e3
  exact all_any c l Ak Av A q1 q2 cap w h hrl hl hk hv
theorem ints_at' {A B : Option Addr} {cap cap' : Nat} {l m : List Int} {w : World} (hr : RowIn ints w A l) (hs : RowIn ints w B m) (hl : l.length ≤ 1000000) {n1 n2 : Nat} (e1 : l.length = n1) (e2 : m.length = n2) {r : Bool} (er : decide (l = m) = r) :
    Calls Try.prog 20 #[.slice A n1 cap, .slice B n2 cap'] w fun e w' => e = .returned (.bool r) ∧ Below w.heap.size w w' := by
  subst e1; subst e2; subst er
  exact ints_any A B cap cap' l m w hr hs hl
theorem bools_at' {A B : Option Addr} {cap cap' : Nat} {l m : List Bool} {w : World} (hr : RowIn bools w A l) (hs : RowIn bools w B m) (hl : l.length ≤ 1000000) {n1 n2 : Nat} (e1 : l.length = n1) (e2 : m.length = n2) {r : Bool} (er : decide (l = m) = r) :
    Calls Try.prog 30 #[.slice A n1 cap, .slice B n2 cap'] w fun e w' => e = .returned (.bool r) ∧ Below w.heap.size w w' := by
  subst e1; subst e2; subst er
  exact bools_any A B cap cap' l m w hr hs hl

/-- What is known at awake's last line. -/
structure AwF (w : World) (s1 s2 : Nat) (Gk : Option Addr) (r1 : Nat) (Gv : Option Addr) (r2 : Nat) (Hk : Option Addr) (p1 : Nat) (Hv : Option Addr) (p2 : Nat) (A14 A15 A17 : Option Addr) (W : World) : Prop where
  b : Below w.heap.size w W
  k1 : W.heap[s1]? = some (.cells #[.int .i64 2, .slice Gk 0 r1, .slice Gv 1 r2] 24 (0, 0))
  c1 : CIn W ⟨2, [], [1]⟩ Gk r1 Gv r2
  i14 : RowIn ints W A14 [0, 0, 2]
  i15 : RowIn bools W A15 [true, true, true]
  k2 : W.heap[s2]? = some (.cells #[.int .i64 3, .slice Hk 0 p1, .slice Hv 1 p2] 24 (0, 0))
  c2 : CIn W ⟨3, [], [2]⟩ Hk p1 Hv p2
  i17 : RowIn ints W A17 [0, 0, 1]
theorem AwF.next {w : World} {s1 s2 : Nat} {Gk Gv Hk Hv A14 A15 A17 : Option Addr} {r1 r2 p1 p2 : Nat} {W W' : World} (h : AwF w s1 s2 Gk r1 Gv r2 Hk p1 Hv p2 A14 A15 A17 W) (hb : Below W.heap.size W W') : AwF w s1 s2 Gk r1 Gv r2 Hk p1 Hv p2 A14 A15 A17 W' :=
  ⟨h.b.trans (hb.mono h.b.size), blk_next h.k1 hb, h.c1.next hb, h.i14.next hb, h.i15.next hb, blk_next h.k2 hb, h.c2.next hb, h.i17.next hb⟩
theorem AwF.alloc {w : World} {s1 s2 : Nat} {Gk Gv Hk Hv A14 A15 A17 : Option Addr} {r1 r2 p1 p2 : Nat} {W : World} (h : AwF w s1 s2 Gk r1 Gv r2 Hk p1 Hv p2 A14 A15 A17 W) (o : Obj) : AwF w s1 s2 Gk r1 Gv r2 Hk p1 Hv p2 A14 A15 A17 (W.alloc o) := h.next ((Below.refl _ _).alloc (Nat.le_refl _) _)

set_option maxRecDepth 100000 in
set_option maxHeartbeats 4000000 in
theorem awake_any (w : World) : Calls Try.prog 13 #[] w (fun e w' => e = .returned (.bool true) ∧ Below w.heap.size w w') := by
  go_enter Try.func13, Try.ntmps13
  go_upto_region 2 with (fail)
  refine wp_gen (fun W => Below w.heap.size w W ∧ W.heap[w.heap.size + 1 + 1]? = some (.cells #[.int .i64 1, .slice (some ⟨w.heap.size, 0, none⟩) 1 1, .slice (some ⟨w.heap.size + 1, 0, none⟩) 1 1] 24 (0, 0)) ∧ CIn W ⟨1, [5], [7]⟩ (some ⟨w.heap.size, 0, none⟩) 1 (some ⟨w.heap.size + 1, 0, none⟩) 1) ?_ ?_
  · have b1 : Below w.heap.size w (w.alloc (.cells #[.int .i64 5] 3)) := (Below.refl _ _).alloc (Nat.le_refl _) _
    have b2 : Below (w.alloc (.cells #[.int .i64 5] 3)).heap.size (w.alloc (.cells #[.int .i64 5] 3)) ((w.alloc (.cells #[.int .i64 5] 3)).alloc (.cells #[.int .i64 7] 3)) := (Below.refl _ _).alloc (Nat.le_refl _) _
    have b3 : ∀ o, Below ((w.alloc (.cells #[.int .i64 5] 3)).alloc (.cells #[.int .i64 7] 3)).heap.size ((w.alloc (.cells #[.int .i64 5] 3)).alloc (.cells #[.int .i64 7] 3)) (((w.alloc (.cells #[.int .i64 5] 3)).alloc (.cells #[.int .i64 7] 3)).alloc o) := fun o => (Below.refl _ _).alloc (Nat.le_refl _) _
    have r5 := new_row ints w [5] 3 #[.int .i64 5] rfl (by unfold maxLen; simp)
    have r7 := new_row ints (w.alloc (.cells #[.int .i64 5] 3)) [7] 3 #[.int .i64 7] rfl (by unfold maxLen; simp)
    refine ⟨(b1.trans (b2.mono (by simp))).trans ((b3 _).mono (by simp; omega)), ?_, (r5.next b2).next (b3 _), by simp, by unfold maxLen; omega, by simp, ?_, by simp, by unfold maxLen; omega, by simp⟩
    · have := heap_alloc_new ((w.alloc (.cells #[.int .i64 5] 3)).alloc (.cells #[.int .i64 7] 3)) (.cells #[.int .i64 1, .slice (some ⟨w.heap.size, 0, none⟩) 1 1, .slice (some ⟨w.heap.size + 1, 0, none⟩) 1 1] 24)
      simpa using this
    · have := r7.next (b3 (.cells #[.int .i64 1, .slice (some ⟨w.heap.size, 0, none⟩) 1 1, .slice (some ⟨w.heap.size + 1, 0, none⟩) 1 1] 24))
      simpa using this
  rintro W1 ⟨hb1, k1, hc1⟩
  have HB1 := Lib.hid hb1
  have hsz := blk_lt k1
  have x0 : W1.cell? ⟨w.heap.size + 1 + 1, 0, none⟩ = _ := blk_cell (cs := [_, _, _]) k1 0
  have x1 : W1.cell? ⟨w.heap.size + 1 + 1, 1, none⟩ = _ := blk_cell (cs := [_, _, _]) k1 1
  have x2 : W1.cell? ⟨w.heap.size + 1 + 1, 2, none⟩ = _ := blk_cell (cs := [_, _, _]) k1 2
  have K1 := Lib.hid k1
  clear hb1 k1
  go_wp2_with fail
  refine (do_at (c := ⟨1, [5], [7]⟩) (o := ⟨2, 0, 5, 9⟩) (⟨1, [5], [7]⟩, 0, false) rfl hc1 (by simp) (by simp) rfl rfl).mono ?_
  rintro e W2 ⟨Ck, r1, Cv, r2, rfl, hc2, ha1, ha2, hb2⟩
  clear x0 x1 x2 hc2 ha1 ha2
  have HN2 : Hid (∀ o, Below W1.heap.size W1 (W2.alloc o)) := Lib.hid fun o => hb2.alloc hb2.size _
  clear hb2
  go_upto_region 3 with (fail)
  refine wp_gen (fun W => Below W1.heap.size W1 W) (HN2.out _) ?_
  rintro W3 hn3
  have k3 := blk_next K1.out hn3
  have hc3 := hc1.next hn3
  have HN3 := Lib.hid hn3
  have hsz3 := blk_lt k3
  have x0 : W3.cell? ⟨w.heap.size + 1 + 1, 0, none⟩ = _ := blk_cell (cs := [_, _, _]) k3 0
  have x1 : W3.cell? ⟨w.heap.size + 1 + 1, 1, none⟩ = _ := blk_cell (cs := [_, _, _]) k3 1
  have x2 : W3.cell? ⟨w.heap.size + 1 + 1, 2, none⟩ = _ := blk_cell (cs := [_, _, _]) k3 2
  have K3 := Lib.hid k3
  clear hn3 k3 HN2 hsz hc1
  go_wp2_with fail
  refine (do_at (c := ⟨1, [5], [7]⟩) (o := ⟨3, 0, 5, 0⟩) (⟨1, [], []⟩, 0, true) rfl hc3 (by simp) (by simp) rfl rfl).mono ?_
  rintro e W4 ⟨Dk, r3, Dv, r4, rfl, hc4, ha1, ha2, hb4⟩
  clear x0 x1 x2 ha1 ha2
  have HC4 := Lib.hid hc4
  have HB4 := Lib.hid hb4
  clear hb4 hc4
  go_upto_region 5 with (fail)
  refine wp_gen (fun W => Below W3.heap.size W3 W ∧ W4.heap.size < W.heap.size ∧ W.heap[W4.heap.size]? = some (.cells #[.int .i64 1, .slice Dk 0 r3, .slice Dv 0 r4] 24 (0, 0)) ∧ CIn W ⟨1, [], []⟩ Dk r3 Dv r4) ⟨HB4.out.alloc HB4.out.size _, by simp, heap_alloc_new W4 _, HC4.out.next ((Below.refl _ _).alloc (Nat.le_refl _) _)⟩ ?_
  rintro W5 ⟨hn5, hs5, k5, hc5⟩
  have km5 := blk_next K3.out hn5
  have hcm5 := hc3.next hn5
  have x0 : W5.cell? ⟨W4.heap.size, 0, none⟩ = _ := blk_cell (cs := [_, _, _]) k5 0
  have x1 : W5.cell? ⟨W4.heap.size, 1, none⟩ = _ := blk_cell (cs := [_, _, _]) k5 1
  have x2 : W5.cell? ⟨W4.heap.size, 2, none⟩ = _ := blk_cell (cs := [_, _, _]) k5 2
  have K5 := Lib.hid km5
  have HN5 := Lib.hid hn5
  clear hn5 km5 hsz3 hc3 HC4 HB4
  go_wp2_with fail
  refine (do_at (c := ⟨1, [], []⟩) (o := ⟨1, 0, 5, 0⟩) (⟨1, [], []⟩, 0, false) rfl hc5 (by simp) (by simp) rfl rfl).mono ?_
  rintro e W6 ⟨Ek, r5, Ev, r6, rfl, hc6, ha1, ha2, hb6⟩
  clear x0 x1 x2 ha1 ha2 hc6 hc5 k5
  have k6 := blk_next K5.out hb6
  have hc6 := hcm5.next hb6
  have x0 : W6.cell? ⟨w.heap.size + 1 + 1, 0, none⟩ = _ := blk_cell (cs := [_, _, _]) k6 0
  have x1 : W6.cell? ⟨w.heap.size + 1 + 1, 1, none⟩ = _ := blk_cell (cs := [_, _, _]) k6 1
  have x2 : W6.cell? ⟨w.heap.size + 1 + 1, 2, none⟩ = _ := blk_cell (cs := [_, _, _]) k6 2
  have HB6 := Lib.hid hb6
  have hs6 := blk_lt k6
  clear hb6 k6 hcm5 hs5
  go_wp2_with fail
  refine (do_at (c := ⟨1, [5], [7]⟩) (o := ⟨1, 0, 5, 0⟩) (⟨1, [5], [7]⟩, 7, true) rfl hc6 (by simp) (by simp) rfl rfl).mono ?_
  rintro e W7 ⟨Fk, r7, Fv, r8, rfl, hc7, ha1, ha2, hb7⟩
  clear x0 x1 x2 ha1 ha2 hc7 hc6
  have HB7 := Lib.hid hb7
  clear hb7 hs6
  go_upto_region 7 with (fail)
  refine wp_gen (fun W => Below w.heap.size w W) ((((HB1.out.trans (HN3.out.mono HB1.out.size)).trans (HN5.out.mono (Nat.le_trans HB1.out.size HN3.out.size))).trans (HB6.out.mono (Nat.le_trans (Nat.le_trans HB1.out.size HN3.out.size) HN5.out.size))).trans ((HB7.out.alloc HB7.out.size _).mono (Nat.le_trans (Nat.le_trans (Nat.le_trans HB1.out.size HN3.out.size) HN5.out.size) HB6.out.size))) ?_
  rintro W8 hb8
  have HB8 := Lib.hid hb8
  clear hb8 HB7 HB6 HN5 HN3 HB1 K1 K3 K5
  go_wp2_with fail
  refine (new_any 2 W8).mono ?_
  rintro e W9 ⟨rfl, hb9⟩
  have HB9 := Lib.hid hb9
  clear hb9
  go_wp2_with fail
  refine (all_at (c := ⟨2, [], []⟩) (l := [⟨4, 0, 1, 0⟩, ⟨4, 0, 2, 0⟩, ⟨5, 0, 0, 0⟩]) (⟨2, [], [1]⟩, [0, 0, 2], [true, true, true]) rfl (cin_new 2 _) (new_row opsT W9 _ 26 _ rfl (by unfold maxLen; simp)) (by simp) (by simp) (by simp) rfl rfl rfl).mono ?_
  rintro e W10 ⟨Gk, r1, Gv, r2, v14, v15, rfl, hc10, hi10, hj10, hb10⟩
  obtain ⟨A14, q14, rfl, _, _, _, hr14⟩ := hi10
  obtain ⟨A15, q15, rfl, _, _, _, hr15⟩ := hj10
  have HC10 := Lib.hid hc10
  have HR14 := Lib.hid hr14
  have HR15 := Lib.hid hr15
  have HB10 : Hid (Below w.heap.size w W10) := Lib.hid ((HB8.out.trans (HB9.out.mono HB8.out.size)).trans ((((Below.refl _ _).alloc (Nat.le_refl _) _).trans (hb10.mono (by simp))).mono (Nat.le_trans HB8.out.size HB9.out.size)))
  clear hc10 hr14 hr15 hb10 HB8 HB9
  go_upto_region 8 with (fail)
  refine wp_gen (fun W => Below w.heap.size w W ∧ W.heap[W10.heap.size]? = some (.cells #[.int .i64 2, .slice Gk 0 r1, .slice Gv 1 r2] 24 (0, 0)) ∧ CIn W ⟨2, [], [1]⟩ Gk r1 Gv r2 ∧ RowIn ints W A14 [0, 0, 2] ∧ RowIn bools W A15 [true, true, true])
    ⟨HB10.out.alloc HB10.out.size _, heap_alloc_new W10 _, HC10.out.next ((Below.refl _ _).alloc (Nat.le_refl _) _), HR14.out.next ((Below.refl _ _).alloc (Nat.le_refl _) _), HR15.out.next ((Below.refl _ _).alloc (Nat.le_refl _) _)⟩ ?_
  rintro W11 ⟨hb11, k11, hc11, hr14, hr15⟩
  have F11 := Lib.hid (And.intro hb11 (And.intro k11 (And.intro hc11 (And.intro hr14 hr15))))
  clear HC10 HR14 HR15 HB10 hb11 k11 hc11 hr14 hr15
  go_wp2_with fail
  refine (new_any 3 W11).mono ?_
  rintro e W12 ⟨rfl, hb12⟩
  have HB12 := Lib.hid hb12
  clear hb12
  go_wp2_with fail
  refine (all_at (c := ⟨3, [], []⟩) (l := [⟨6, 0, 1, 0⟩, ⟨6, 0, 2, 0⟩, ⟨7, 0, 0, 0⟩]) (⟨3, [], [2]⟩, [0, 0, 1], [true, true, true]) rfl (cin_new 3 _) (new_row opsT W12 _ 26 _ rfl (by unfold maxLen; simp)) (by simp) (by simp) (by simp) rfl rfl rfl).mono ?_
  rintro e W13 ⟨Hk, p1, Hv, p2, v17, v18, rfl, hc13, hi13, hj13, hb13⟩
  obtain ⟨A17, q17, rfl, _, _, _, hr17⟩ := hi13
  obtain ⟨A18, q18, rfl, _, _, _, hr18⟩ := hj13
  have HC13 := Lib.hid hc13
  have HR17 := Lib.hid hr17
  have HB13 : Hid (Below W11.heap.size W11 W13) := Lib.hid ((HB12.out).trans ((((Below.refl _ _).alloc (Nat.le_refl _) _).trans (hb13.mono (by simp))).mono HB12.out.size))
  clear hc13 hr17 hr18 hb13 HB12
  go_upto_region 9 with (fail)
  refine wp_gen (fun W => Below W11.heap.size W11 W ∧ W.heap[W13.heap.size]? = some (.cells #[.int .i64 3, .slice Hk 0 p1, .slice Hv 1 p2] 24 (0, 0)) ∧ CIn W ⟨3, [], [2]⟩ Hk p1 Hv p2 ∧ RowIn ints W A17 [0, 0, 1])
    ⟨HB13.out.alloc HB13.out.size _, heap_alloc_new W13 _, HC13.out.next ((Below.refl _ _).alloc (Nat.le_refl _) _), HR17.out.next ((Below.refl _ _).alloc (Nat.le_refl _) _)⟩ ?_
  rintro W14 ⟨hb14, k14, hc14, hr17⟩
  have hb : Below w.heap.size w W14 := F11.out.1.trans (hb14.mono F11.out.1.size)
  have kk := blk_next F11.out.2.1 hb14
  have hcs := F11.out.2.2.1.next hb14
  have hr14 := F11.out.2.2.2.1.next hb14
  have hr15 := F11.out.2.2.2.2.next hb14
  have F14 : Hid (AwF w W10.heap.size W13.heap.size Gk r1 Gv r2 Hk p1 Hv p2 A14 A15 A17 W14) := Lib.hid ⟨hb, kk, hcs, hr14, hr15, k14, hc14, hr17⟩
  have hl1 := blk_lt F14.out.k1
  have hl2 := blk_lt F14.out.k2
  have x0 : W14.cell? ⟨W10.heap.size, 0, none⟩ = _ := blk_cell (cs := [_, _, _]) F14.out.k1 0
  have x1 : W14.cell? ⟨W10.heap.size, 1, none⟩ = _ := blk_cell (cs := [_, _, _]) F14.out.k1 1
  have x2 : W14.cell? ⟨W10.heap.size, 2, none⟩ = _ := blk_cell (cs := [_, _, _]) F14.out.k1 2
  have y0 : W14.cell? ⟨W13.heap.size, 0, none⟩ = _ := blk_cell (cs := [_, _, _]) F14.out.k2 0
  have y1 : W14.cell? ⟨W13.heap.size, 1, none⟩ = _ := blk_cell (cs := [_, _, _]) F14.out.k2 1
  have y2 : W14.cell? ⟨W13.heap.size, 2, none⟩ = _ := blk_cell (cs := [_, _, _]) F14.out.k2 2
  clear F11 HC13 HR17 HB13 hb kk hcs hr14 hr15 k14 hc14 hr17 hb14
  go_wp2_with fail
  refine (ints_at' (m := [1]) ((F14.out.alloc _).c1.v) (new_row ints W14 _ 3 _ rfl (by unfold maxLen; simp)) (by simp) rfl rfl (r := true) (by decide)).mono ?_
  rintro e W15 ⟨rfl, hb15⟩
  clear x0 x1 x2 y0 y1 y2 hl1 hl2
  have F15 := Lib.hid ((F14.out.alloc _).next hb15)
  clear F14 hb15
  have hl1 := blk_lt F15.out.k1
  have hl2 := blk_lt F15.out.k2
  have x0 : W15.cell? ⟨W10.heap.size, 0, none⟩ = _ := blk_cell (cs := [_, _, _]) F15.out.k1 0
  have x1 : W15.cell? ⟨W10.heap.size, 1, none⟩ = _ := blk_cell (cs := [_, _, _]) F15.out.k1 1
  have x2 : W15.cell? ⟨W10.heap.size, 2, none⟩ = _ := blk_cell (cs := [_, _, _]) F15.out.k1 2
  have y0 : W15.cell? ⟨W13.heap.size, 0, none⟩ = _ := blk_cell (cs := [_, _, _]) F15.out.k2 0
  have y1 : W15.cell? ⟨W13.heap.size, 1, none⟩ = _ := blk_cell (cs := [_, _, _]) F15.out.k2 1
  have y2 : W15.cell? ⟨W13.heap.size, 2, none⟩ = _ := blk_cell (cs := [_, _, _]) F15.out.k2 2
  go_wp2_with fail
  refine (ints_at' (m := [0, 0, 2]) ((F15.out.alloc _).i14) (new_row ints W15 _ 3 _ rfl (by unfold maxLen; simp)) (by simp) rfl rfl (r := true) (by decide)).mono ?_
  rintro e W16 ⟨rfl, hb16⟩
  clear x0 x1 x2 y0 y1 y2 hl1 hl2
  have F16 := Lib.hid ((F15.out.alloc _).next hb16)
  clear F15 hb16
  have hl1 := blk_lt F16.out.k1
  have hl2 := blk_lt F16.out.k2
  have x0 : W16.cell? ⟨W10.heap.size, 0, none⟩ = _ := blk_cell (cs := [_, _, _]) F16.out.k1 0
  have x1 : W16.cell? ⟨W10.heap.size, 1, none⟩ = _ := blk_cell (cs := [_, _, _]) F16.out.k1 1
  have x2 : W16.cell? ⟨W10.heap.size, 2, none⟩ = _ := blk_cell (cs := [_, _, _]) F16.out.k1 2
  have y0 : W16.cell? ⟨W13.heap.size, 0, none⟩ = _ := blk_cell (cs := [_, _, _]) F16.out.k2 0
  have y1 : W16.cell? ⟨W13.heap.size, 1, none⟩ = _ := blk_cell (cs := [_, _, _]) F16.out.k2 1
  have y2 : W16.cell? ⟨W13.heap.size, 2, none⟩ = _ := blk_cell (cs := [_, _, _]) F16.out.k2 2
  go_wp2_with fail
  refine (bools_at' (m := [true, true, true]) ((F16.out.alloc _).i15) (new_row bools W16 _ 4 _ rfl (by unfold maxLen; simp)) (by simp) rfl rfl (r := true) (by decide)).mono ?_
  rintro e W17 ⟨rfl, hb17⟩
  clear x0 x1 x2 y0 y1 y2 hl1 hl2
  have F17 := Lib.hid ((F16.out.alloc _).next hb17)
  clear F16 hb17
  have hl1 := blk_lt F17.out.k1
  have hl2 := blk_lt F17.out.k2
  have x0 : W17.cell? ⟨W10.heap.size, 0, none⟩ = _ := blk_cell (cs := [_, _, _]) F17.out.k1 0
  have x1 : W17.cell? ⟨W10.heap.size, 1, none⟩ = _ := blk_cell (cs := [_, _, _]) F17.out.k1 1
  have x2 : W17.cell? ⟨W10.heap.size, 2, none⟩ = _ := blk_cell (cs := [_, _, _]) F17.out.k1 2
  have y0 : W17.cell? ⟨W13.heap.size, 0, none⟩ = _ := blk_cell (cs := [_, _, _]) F17.out.k2 0
  have y1 : W17.cell? ⟨W13.heap.size, 1, none⟩ = _ := blk_cell (cs := [_, _, _]) F17.out.k2 1
  have y2 : W17.cell? ⟨W13.heap.size, 2, none⟩ = _ := blk_cell (cs := [_, _, _]) F17.out.k2 2
  go_wp2_with fail
  refine (ints_at' (m := [2]) ((F17.out.alloc _).c2.v) (new_row ints W17 _ 3 _ rfl (by unfold maxLen; simp)) (by simp) rfl rfl (r := true) (by decide)).mono ?_
  rintro e W18 ⟨rfl, hb18⟩
  clear x0 x1 x2 y0 y1 y2 hl1 hl2
  have F18 := Lib.hid ((F17.out.alloc _).next hb18)
  clear F17 hb18
  have hl1 := blk_lt F18.out.k1
  have hl2 := blk_lt F18.out.k2
  have x0 : W18.cell? ⟨W10.heap.size, 0, none⟩ = _ := blk_cell (cs := [_, _, _]) F18.out.k1 0
  have x1 : W18.cell? ⟨W10.heap.size, 1, none⟩ = _ := blk_cell (cs := [_, _, _]) F18.out.k1 1
  have x2 : W18.cell? ⟨W10.heap.size, 2, none⟩ = _ := blk_cell (cs := [_, _, _]) F18.out.k1 2
  have y0 : W18.cell? ⟨W13.heap.size, 0, none⟩ = _ := blk_cell (cs := [_, _, _]) F18.out.k2 0
  have y1 : W18.cell? ⟨W13.heap.size, 1, none⟩ = _ := blk_cell (cs := [_, _, _]) F18.out.k2 1
  have y2 : W18.cell? ⟨W13.heap.size, 2, none⟩ = _ := blk_cell (cs := [_, _, _]) F18.out.k2 2
  go_wp2_with fail
  refine (ints_at' (m := [0, 0, 1]) ((F18.out.alloc _).i17) (new_row ints W18 _ 3 _ rfl (by unfold maxLen; simp)) (by simp) rfl rfl (r := true) (by decide)).mono ?_
  rintro e W19 ⟨rfl, hb19⟩
  clear x0 x1 x2 y0 y1 y2 hl1 hl2
  have F19 := Lib.hid ((F18.out.alloc _).next hb19)
  clear F18 hb19
  have hl1 := blk_lt F19.out.k1
  have hl2 := blk_lt F19.out.k2
  have x0 : W19.cell? ⟨W10.heap.size, 0, none⟩ = _ := blk_cell (cs := [_, _, _]) F19.out.k1 0
  have x1 : W19.cell? ⟨W10.heap.size, 1, none⟩ = _ := blk_cell (cs := [_, _, _]) F19.out.k1 1
  have x2 : W19.cell? ⟨W10.heap.size, 2, none⟩ = _ := blk_cell (cs := [_, _, _]) F19.out.k1 2
  have y0 : W19.cell? ⟨W13.heap.size, 0, none⟩ = _ := blk_cell (cs := [_, _, _]) F19.out.k2 0
  have y1 : W19.cell? ⟨W13.heap.size, 1, none⟩ = _ := blk_cell (cs := [_, _, _]) F19.out.k2 1
  have y2 : W19.cell? ⟨W13.heap.size, 2, none⟩ = _ := blk_cell (cs := [_, _, _]) F19.out.k2 2
  go_wp2_with fail
  refine (right_any ⟨2, [], [1]⟩ Gk Gv r1 r2 _ F19.out.c1.k (by unfold maxLen; simp) (by unfold maxLen; simp)).mono ?_
  rintro e W20 ⟨rfl, hb20⟩
  rw [show rightB ⟨2, [], [1]⟩ = true from rfl]
  clear x0 x1 x2 y0 y1 y2 hl1 hl2
  have F20 := Lib.hid (F19.out.next hb20)
  clear F19 hb20
  go_wp2_with fail
  refine (of_any 7 W20).mono ?_
  rintro e W21 ⟨rfl, hw⟩
  subst hw
  rw [show ofK 7 = 3 from rfl]
  go_wp2_with fail
  go_ret
  exact ⟨rfl, F20.out.b⟩
end Go.Proofs.Ytknancnmdpdefaa
