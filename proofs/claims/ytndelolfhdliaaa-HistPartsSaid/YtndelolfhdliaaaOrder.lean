/- The walk of HistOrder. -/
import Derived.Test.YtndelolfhdliaaaShown
namespace Go.Proofs.Ytndelolfhdliaaa
open Go.RowKit

theorem pick_at {h : List Call} {w : World} {A : Option Addr} (hr : CRow w w.heap.size A h) (h0 : ¬ h.length = 0) (p : Int) :
    ∃ (k : Nat) (c : Call), p % (h.length : Int) = (k : Int) ∧ k < h.length ∧ Hid (h[k]? = some c) ∧ ∃ b o, A = some ⟨b, o, none⟩ ∧ b < w.heap.size ∧ CellsAt w b (o + k * 10) c := by
  have h1 := Int.emod_nonneg p (show (h.length : Int) ≠ 0 by omega)
  have h2 := Int.emod_lt_of_pos p (show (0 : Int) < (h.length : Int) by omega)
  have hk : (p % (h.length : Int)).toNat < h.length := by omega
  obtain ⟨c, hc⟩ := call_at hk
  exact ⟨_, c, by omega, hk, Lib.hid hc, hr _ c hc⟩

/-- The world in which the four calls lie. -/
def fourW (w : World) (c1 c2 c3 c4 : Call) : World := (((w.alloc (.cells c1.cells.toArray 30)).alloc (.cells c2.cells.toArray 30)).alloc (.cells c3.cells.toArray 30)).alloc (.cells c4.cells.toArray 30)
theorem fourW_size (w : World) (c1 c2 c3 c4 : Call) : (fourW w c1 c2 c3 c4).heap.size = w.heap.size + 1 + 1 + 1 + 1 := by simp [fourW]
theorem fourW_below (w : World) (c1 c2 c3 c4 : Call) : Below w.heap.size w (fourW w c1 c2 c3 c4) := ((((Below.refl _ _).alloc (Nat.le_refl _) _).alloc (by simp) _).alloc (by simp; omega) _).alloc (by simp; omega) _
theorem fourW_1 (w : World) (c1 c2 c3 c4 : Call) : ∀ j u, c1.cells[j]? = some u → (fourW w c1 c2 c3 c4).cell? ⟨w.heap.size, j, none⟩ = some u := fun j u hu => by
  unfold fourW
  rw [World.cell?_alloc_lt _ _ _ (by simp; omega), World.cell?_alloc_lt _ _ _ (by simp; omega), World.cell?_alloc_lt _ _ _ (by simp)]
  exact new_cells w c1 j u hu
theorem fourW_2 (w : World) (c1 c2 c3 c4 : Call) : ∀ j u, c2.cells[j]? = some u → (fourW w c1 c2 c3 c4).cell? ⟨w.heap.size + 1, j, none⟩ = some u := fun j u hu => by
  unfold fourW
  rw [World.cell?_alloc_lt _ _ _ (by simp), World.cell?_alloc_lt _ _ _ (by simp)]
  have := new_cells (w.alloc (.cells c1.cells.toArray 30)) c2 j u hu
  simpa using this
theorem fourW_3 (w : World) (c1 c2 c3 c4 : Call) : ∀ j u, c3.cells[j]? = some u → (fourW w c1 c2 c3 c4).cell? ⟨w.heap.size + 1 + 1, j, none⟩ = some u := fun j u hu => by
  unfold fourW
  rw [World.cell?_alloc_lt _ _ _ (by simp)]
  have := new_cells ((w.alloc (.cells c1.cells.toArray 30)).alloc (.cells c2.cells.toArray 30)) c3 j u hu
  simpa using this
theorem fourW_4 (w : World) (c1 c2 c3 c4 : Call) : ∀ j u, c4.cells[j]? = some u → (fourW w c1 c2 c3 c4).cell? ⟨w.heap.size + 1 + 1 + 1, j, none⟩ = some u := fun j u hu => by
  have := new_cells (((w.alloc (.cells c1.cells.toArray 30)).alloc (.cells c2.cells.toArray 30)).alloc (.cells c3.cells.toArray 30)) c4 j u hu
  unfold fourW
  simpa using this

theorem good_may {h : List Call} (hg : Good h h.length) {k : Nat} {c : Call} (hc : h[k]? = some c) : c.first ≤ c.last :=
  (may_le (hg k (List.getElem?_eq_some_iff.1 hc).1 c hc).1).1
theorem good_seat {h : List Call} (hg : Good h h.length) {k l : Nat} {c d : Call} (hc : h[k]? = some c) (hd : h[l]? = some d) (hw : c.who = d.who) (hf : c.first ≠ d.first) : c.last < d.first ∨ d.last < c.first := by
  have hk := (List.getElem?_eq_some_iff.1 hc).1
  have hl := (List.getElem?_eq_some_iff.1 hd).1
  rcases Nat.lt_trichotomy k l with h1 | h1 | h1
  · exact .inl (((hg l hl d hd).2 k h1 c hc).2 hw)
  · subst h1; rw [hc] at hd; cases hd; exact absurd rfl hf
  · exact .inr (((hg k hk c hc).2 l h1 d hd).2 hw.symm)

theorem ext_of_below {w w' : World} (h : Below w.heap.size w w') : ∃ y : Ext w, w' = y.on := ⟨⟨w', h⟩, rfl⟩

set_option maxRecDepth 100000 in
set_option maxHeartbeats 4000000 in
theorem order_walk (A : Option Addr) (cap : Nat) (h : List Call) (p q r s : Int) (w : World) (hr : CRow w w.heap.size A h) (hl : h.length ≤ maxLen) (hp : 0 ≤ p ∧ p ≤ 255) (hq : 0 ≤ q ∧ q ≤ 255) (hr' : 0 ≤ r ∧ r ≤ 255) (hs : 0 ≤ s ∧ s ≤ 255) :
    Calls Try.prog 3 #[.agg #[.slice A h.length cap, .int .u8 p, .int .u8 q, .int .u8 r, .int .u8 s]] w fun e w' => e = .returned (.bool true) ∧ Below w.heap.size w w' := by
  unfold maxLen at hl
  by_cases h40 : 40 < h.length
  · go_enter Try.func3, Try.ntmps3
    go_wp2_with (go_at_call 8; refine (shown_any _).mono ?_; rintro e w1 ⟨rfl, hb1⟩)
    go_ret
    exact ⟨rfl, ((Below.refl _ _).alloc (Nat.le_refl _) _).trans (hb1.mono (by simp))⟩
  · by_cases h0 : h.length = 0
    · go_enter Try.func3, Try.ntmps3
      go_wp2_with (go_at_call 8; refine (shown_any _).mono ?_; rintro e w1 ⟨rfl, hb1⟩)
      go_ret
      exact ⟨rfl, ((Below.refl _ _).alloc (Nat.le_refl _) _).trans (hb1.mono (by simp))⟩
    · have h0' : ((h.length : Int) == 0) = false := by rw [beq_eq_false_iff_ne]; omega
      go_enter Try.func3, Try.ntmps3
      go_wp2_with fail
      refine (shown_any _).mono ?_
      rintro e w1 ⟨rfl, hb1⟩
      have hbw : Below w.heap.size w w1 := ((Below.refl _ _).alloc (Nat.le_refl _) _).trans (hb1.mono (by simp))
      clear hb1
      go_wp2_with fail
      refine (refRight_any A cap h _ ((hr.below hbw).more hbw.size) (by omega)).mono ?_
      rintro e w2 ⟨rfl, hb2⟩
      have hbw2 : Below w.heap.size w w2 := hbw.trans (hb2.mono hbw.size)
      clear hb2
      cases hrb : rightB h with
      | false =>
        go_wp2_with fail
        go_ret
        exact ⟨rfl, hbw2⟩
      | true =>
        have hg := good_of_rightB hrb
        have hrow := (hr.below hbw2).more hbw2.size
        obtain ⟨k1, c1, e1, l1, HC1, b, o, rfl, hb, a0, a1, a2, a3, a4, a5, a6, a7, a8, a9⟩ := pick_at hrow h0 p
        obtain ⟨k2, c2, e2, l2, HC2, _, _, hA, _, b0, b1, b2, b3, b4, b5, b6, b7, b8, b9⟩ := pick_at hrow h0 q
        cases hA
        obtain ⟨k3, c3, e3, l3, HC3, _, _, hA, _, d0, d1, d2, d3, d4, d5, d6, d7, d8, d9⟩ := pick_at hrow h0 r
        cases hA
        obtain ⟨k4, c4, e4, l4, HC4, _, _, hA, _, f0, f1, f2, f3, f4, f5, f6, f7, f8, f9⟩ := pick_at hrow h0 s
        cases hA
        have HR := Lib.hid hrb
        have HG := Lib.hid hg
        clear hrb hg hrow hr
        have hbne : b ≠ w2.heap.size := by omega
        have hbne1 : b ≠ w2.heap.size + 1 := by omega
        have hbne2 : b ≠ w2.heap.size + 1 + 1 := by omega
        have hbl1 : b < w2.heap.size + 1 := by omega
        have hbl2 : b < w2.heap.size + 1 + 1 := by omega
        have g1 := good_may HG.out HC1.out
        have g2 := good_may HG.out HC2.out
        have g3 := good_may HG.out HC3.out
        have g4 := good_may HG.out HC4.out
        have hseat := good_seat HG.out HC1.out HC2.out
        have HS := Lib.hid hseat
        clear hseat
        go_wp2_with fail
        change Calls _ _ _ (fourW w2 c1 c2 c3 c4) _
        clear a0 a1 a2 a3 a4 a5 a6 a7 a8 a9 b0 b1 b2 b3 b4 b5 b6 b7 b8 b9 d0 d1 d2 d3 d4 d5 d6 d7 d8 d9 f0 f1 f2 f3 f4 f5 f6 f7 f8 f9
        obtain ⟨a0, a1, a2, a3, a4, a5, a6, a7, a8, a9⟩ := cellsAt_zero (fourW_1 w2 c1 c2 c3 c4)
        obtain ⟨b0, b1, b2, b3, b4, b5, b6, b7, b8, b9⟩ := cellsAt_zero (fourW_2 w2 c1 c2 c3 c4)
        obtain ⟨d0, d1, d2, d3, d4, d5, d6, d7, d8, d9⟩ := cellsAt_zero (fourW_3 w2 c1 c2 c3 c4)
        obtain ⟨f0, f1, f2, f3, f4, f5, f6, f7, f8, f9⟩ := cellsAt_zero (fourW_4 w2 c1 c2 c3 c4)
        have hs0 : w2.heap.size < (fourW w2 c1 c2 c3 c4).heap.size := by rw [fourW_size]; omega
        have hs1 : w2.heap.size + 1 < (fourW w2 c1 c2 c3 c4).heap.size := by rw [fourW_size]; omega
        have hs2 : w2.heap.size + 1 + 1 < (fourW w2 c1 c2 c3 c4).heap.size := by rw [fourW_size]; omega
        have hs3 : w2.heap.size + 1 + 1 + 1 < (fourW w2 c1 c2 c3 c4).heap.size := by rw [fourW_size]; omega
        have hbf : Below w.heap.size w (fourW w2 c1 c2 c3 c4) := hbw2.trans ((fourW_below w2 c1 c2 c3 c4).mono hbw2.size)
        generalize fourW w2 c1 c2 c3 c4 = W at *
        have fin : ∀ y : Ext W, Below w.heap.size w y.on := fun y => hbf.trans (y.below.mono hbf.size)
        have HF := Lib.hid fin
        clear fin hbf
        refine (ahead_any c1 c2 W).mono ?_
        rintro e w3 ⟨rfl, hb3⟩
        obtain ⟨y, rfl⟩ := ext_of_below hb3
        clear hb3
        have haa : aheadB c1 c1 = false := decide_eq_false (by omega)
        rcases hab : aheadB c1 c2 with _ | _
        · have hab' : ¬ c1.last < c2.first := of_decide_eq_false hab
          by_cases hw : c1.who = c2.who
          · have hw' : (c1.who == c2.who) = true := by simpa using hw
            by_cases hf : c1.first = c2.first
            · have hf' : (c1.first != c2.first) = false := by simpa using hf
              clear hw hf
              go_wp2_with fail
              refine (Calls.ext_of (ahead_any c2 c1 _)).mono ?_
              rintro e _ ⟨rfl, y1, rfl⟩
              go_wp2_with fail
              refine (Calls.ext_of (ahead_any c1 c1 _)).mono ?_
              rintro e _ ⟨rfl, y2, rfl⟩
              go_wp2_with fail
              go_ret
              exact ⟨rfl, HF.out _⟩
            · have hf' : (c1.first != c2.first) = true := by simpa using hf
              have hor := HS.out hw hf
              clear hw
              have hba : aheadB c2 c1 = true := decide_eq_true (by omega)
              go_wp2_with fail
              refine (Calls.ext_of (ahead_any c2 c1 _)).mono ?_
              rintro e _ ⟨rfl, y3, rfl⟩
              go_wp2_with fail
              refine (Calls.ext_of (ahead_any c1 c1 _)).mono ?_
              rintro e _ ⟨rfl, y4, rfl⟩
              go_wp2_with fail
              go_ret
              exact ⟨rfl, HF.out _⟩
          · have hw' : (c1.who == c2.who) = false := by simpa using hw
            go_wp2_with fail
            refine (Calls.ext_of (ahead_any c2 c1 _)).mono ?_
            rintro e _ ⟨rfl, y5, rfl⟩
            go_wp2_with fail
            refine (Calls.ext_of (ahead_any c1 c1 _)).mono ?_
            rintro e _ ⟨rfl, y6, rfl⟩
            go_wp2_with fail
            go_ret
            exact ⟨rfl, HF.out _⟩
        · have hab' : c1.last < c2.first := of_decide_eq_true hab
          have hba : aheadB c2 c1 = false := decide_eq_false (by omega)
          by_cases hw : c1.who = c2.who
          · have hw' : (c1.who == c2.who) = true := by simpa using hw
            by_cases hf : c1.first = c2.first
            · have hf' : (c1.first != c2.first) = false := by simpa using hf
              clear hw hf
              go_wp2_with fail
              refine (Calls.ext_of (ahead_any c2 c1 _)).mono ?_
              rintro e _ ⟨rfl, y7, rfl⟩
              go_wp2_with fail
              refine (Calls.ext_of (ahead_any c1 c1 _)).mono ?_
              rintro e _ ⟨rfl, y8, rfl⟩
              go_wp2_with fail
              refine (Calls.ext_of (ahead_any c2 c3 _)).mono ?_
              rintro e _ ⟨rfl, y9, rfl⟩
              rcases hbc : aheadB c2 c3 with _ | _
              · go_wp2_with fail
                refine (Calls.ext_of (ahead_any c3 c4 _)).mono ?_
                rintro e _ ⟨rfl, y10, rfl⟩
                rcases hcd : aheadB c3 c4 with _ | _
                · go_wp2_with fail
                  go_ret
                  exact ⟨rfl, HF.out _⟩
                · have hcd' : c3.last < c4.first := of_decide_eq_true hcd
                  go_wp2_with fail
                  refine (Calls.ext_of (ahead_any c1 c4 _)).mono ?_
                  rintro e _ ⟨rfl, y11, rfl⟩
                  rcases had : aheadB c1 c4 with _ | _
                  · have had' : ¬ c1.last < c4.first := of_decide_eq_false had
                    have hcb : aheadB c3 c2 = true := decide_eq_true (by omega)
                    go_wp2_with fail
                    refine (Calls.ext_of (ahead_any c3 c2 _)).mono ?_
                    rintro e _ ⟨rfl, y12, rfl⟩
                    go_wp2_with fail
                    go_ret
                    exact ⟨rfl, HF.out _⟩
                  · go_wp2_with fail
                    go_ret
                    exact ⟨rfl, HF.out _⟩
              · have hbc' : c2.last < c3.first := of_decide_eq_true hbc
                have hac : aheadB c1 c3 = true := decide_eq_true (by omega)
                go_wp2_with fail
                refine (Calls.ext_of (ahead_any c1 c3 _)).mono ?_
                rintro e _ ⟨rfl, y13, rfl⟩
                go_wp2_with fail
                refine (Calls.ext_of (ahead_any c3 c4 _)).mono ?_
                rintro e _ ⟨rfl, y14, rfl⟩
                rcases hcd : aheadB c3 c4 with _ | _
                · go_wp2_with fail
                  go_ret
                  exact ⟨rfl, HF.out _⟩
                · have hcd' : c3.last < c4.first := of_decide_eq_true hcd
                  go_wp2_with fail
                  refine (Calls.ext_of (ahead_any c1 c4 _)).mono ?_
                  rintro e _ ⟨rfl, y15, rfl⟩
                  rcases had : aheadB c1 c4 with _ | _
                  · have had' : ¬ c1.last < c4.first := of_decide_eq_false had
                    have hcb : aheadB c3 c2 = true := decide_eq_true (by omega)
                    go_wp2_with fail
                    refine (Calls.ext_of (ahead_any c3 c2 _)).mono ?_
                    rintro e _ ⟨rfl, y16, rfl⟩
                    go_wp2_with fail
                    go_ret
                    exact ⟨rfl, HF.out _⟩
                  · go_wp2_with fail
                    go_ret
                    exact ⟨rfl, HF.out _⟩
            · have hf' : (c1.first != c2.first) = true := by simpa using hf
              have hor := HS.out hw hf
              clear hw
              go_wp2_with fail
              refine (Calls.ext_of (ahead_any c2 c1 _)).mono ?_
              rintro e _ ⟨rfl, y17, rfl⟩
              go_wp2_with fail
              refine (Calls.ext_of (ahead_any c1 c1 _)).mono ?_
              rintro e _ ⟨rfl, y18, rfl⟩
              go_wp2_with fail
              refine (Calls.ext_of (ahead_any c2 c3 _)).mono ?_
              rintro e _ ⟨rfl, y19, rfl⟩
              rcases hbc : aheadB c2 c3 with _ | _
              · go_wp2_with fail
                refine (Calls.ext_of (ahead_any c3 c4 _)).mono ?_
                rintro e _ ⟨rfl, y20, rfl⟩
                rcases hcd : aheadB c3 c4 with _ | _
                · go_wp2_with fail
                  go_ret
                  exact ⟨rfl, HF.out _⟩
                · have hcd' : c3.last < c4.first := of_decide_eq_true hcd
                  go_wp2_with fail
                  refine (Calls.ext_of (ahead_any c1 c4 _)).mono ?_
                  rintro e _ ⟨rfl, y21, rfl⟩
                  rcases had : aheadB c1 c4 with _ | _
                  · have had' : ¬ c1.last < c4.first := of_decide_eq_false had
                    have hcb : aheadB c3 c2 = true := decide_eq_true (by omega)
                    go_wp2_with fail
                    refine (Calls.ext_of (ahead_any c3 c2 _)).mono ?_
                    rintro e _ ⟨rfl, y22, rfl⟩
                    go_wp2_with fail
                    go_ret
                    exact ⟨rfl, HF.out _⟩
                  · go_wp2_with fail
                    go_ret
                    exact ⟨rfl, HF.out _⟩
              · have hbc' : c2.last < c3.first := of_decide_eq_true hbc
                have hac : aheadB c1 c3 = true := decide_eq_true (by omega)
                go_wp2_with fail
                refine (Calls.ext_of (ahead_any c1 c3 _)).mono ?_
                rintro e _ ⟨rfl, y23, rfl⟩
                go_wp2_with fail
                refine (Calls.ext_of (ahead_any c3 c4 _)).mono ?_
                rintro e _ ⟨rfl, y24, rfl⟩
                rcases hcd : aheadB c3 c4 with _ | _
                · go_wp2_with fail
                  go_ret
                  exact ⟨rfl, HF.out _⟩
                · have hcd' : c3.last < c4.first := of_decide_eq_true hcd
                  go_wp2_with fail
                  refine (Calls.ext_of (ahead_any c1 c4 _)).mono ?_
                  rintro e _ ⟨rfl, y25, rfl⟩
                  rcases had : aheadB c1 c4 with _ | _
                  · have had' : ¬ c1.last < c4.first := of_decide_eq_false had
                    have hcb : aheadB c3 c2 = true := decide_eq_true (by omega)
                    go_wp2_with fail
                    refine (Calls.ext_of (ahead_any c3 c2 _)).mono ?_
                    rintro e _ ⟨rfl, y26, rfl⟩
                    go_wp2_with fail
                    go_ret
                    exact ⟨rfl, HF.out _⟩
                  · go_wp2_with fail
                    go_ret
                    exact ⟨rfl, HF.out _⟩
          · have hw' : (c1.who == c2.who) = false := by simpa using hw
            go_wp2_with fail
            refine (Calls.ext_of (ahead_any c2 c1 _)).mono ?_
            rintro e _ ⟨rfl, y27, rfl⟩
            go_wp2_with fail
            refine (Calls.ext_of (ahead_any c1 c1 _)).mono ?_
            rintro e _ ⟨rfl, y28, rfl⟩
            go_wp2_with fail
            refine (Calls.ext_of (ahead_any c2 c3 _)).mono ?_
            rintro e _ ⟨rfl, y29, rfl⟩
            rcases hbc : aheadB c2 c3 with _ | _
            · go_wp2_with fail
              refine (Calls.ext_of (ahead_any c3 c4 _)).mono ?_
              rintro e _ ⟨rfl, y30, rfl⟩
              rcases hcd : aheadB c3 c4 with _ | _
              · go_wp2_with fail
                go_ret
                exact ⟨rfl, HF.out _⟩
              · have hcd' : c3.last < c4.first := of_decide_eq_true hcd
                go_wp2_with fail
                refine (Calls.ext_of (ahead_any c1 c4 _)).mono ?_
                rintro e _ ⟨rfl, y31, rfl⟩
                rcases had : aheadB c1 c4 with _ | _
                · have had' : ¬ c1.last < c4.first := of_decide_eq_false had
                  have hcb : aheadB c3 c2 = true := decide_eq_true (by omega)
                  go_wp2_with fail
                  refine (Calls.ext_of (ahead_any c3 c2 _)).mono ?_
                  rintro e _ ⟨rfl, y32, rfl⟩
                  go_wp2_with fail
                  go_ret
                  exact ⟨rfl, HF.out _⟩
                · go_wp2_with fail
                  go_ret
                  exact ⟨rfl, HF.out _⟩
            · have hbc' : c2.last < c3.first := of_decide_eq_true hbc
              have hac : aheadB c1 c3 = true := decide_eq_true (by omega)
              go_wp2_with fail
              refine (Calls.ext_of (ahead_any c1 c3 _)).mono ?_
              rintro e _ ⟨rfl, y33, rfl⟩
              go_wp2_with fail
              refine (Calls.ext_of (ahead_any c3 c4 _)).mono ?_
              rintro e _ ⟨rfl, y34, rfl⟩
              rcases hcd : aheadB c3 c4 with _ | _
              · go_wp2_with fail
                go_ret
                exact ⟨rfl, HF.out _⟩
              · have hcd' : c3.last < c4.first := of_decide_eq_true hcd
                go_wp2_with fail
                refine (Calls.ext_of (ahead_any c1 c4 _)).mono ?_
                rintro e _ ⟨rfl, y35, rfl⟩
                rcases had : aheadB c1 c4 with _ | _
                · have had' : ¬ c1.last < c4.first := of_decide_eq_false had
                  have hcb : aheadB c3 c2 = true := decide_eq_true (by omega)
                  go_wp2_with fail
                  refine (Calls.ext_of (ahead_any c3 c2 _)).mono ?_
                  rintro e _ ⟨rfl, y36, rfl⟩
                  go_wp2_with fail
                  go_ret
                  exact ⟨rfl, HF.out _⟩
                · go_wp2_with fail
                  go_ret
                  exact ⟨rfl, HF.out _⟩
end Go.Proofs.Ytndelolfhdliaaa
