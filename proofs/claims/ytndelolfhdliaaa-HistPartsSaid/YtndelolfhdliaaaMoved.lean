/- The walk of HistMoved. -/
import Derived.Test.YtndelolfhdliaaaWhole
import Derived.Test.YtndelolfhdliaaaOrder
namespace Go.Proofs.Ytndelolfhdliaaa
open Go.RowKit

def mv (by' : Int) (c : Call) : Call := ⟨c.who, c.kind, c.obj, c.a, c.b, c.val, c.is, c.first + by', c.last + by', if 0 ≤ c.point then c.point + by' else c.point⟩

theorem mv_may {d : Int} (hd : 0 ≤ d) {c : Call} (h : mayB c = true) : mayB (mv d c) = true := by
  have h1 := of_decide_eq_true h
  apply decide_eq_true
  unfold mv
  simp only
  split <;> omega
theorem mv_good {d : Int} (hd : 0 ≤ d) {h : List Call} (hg : Good h h.length) : Good (h.map (mv d)) (h.map (mv d)).length := by
  intro i hi c hc
  rw [List.getElem?_map] at hc
  rcases hi' : h[i]? with _ | c0
  · rw [hi'] at hc; cases hc
  · rw [hi'] at hc
    injection hc with hc
    subst hc
    have hl : i < h.length := by simpa using hi
    obtain ⟨h1, h2⟩ := hg i hl c0 hi'
    refine ⟨mv_may hd h1, fun k hk d' hd' => ?_⟩
    rw [List.getElem?_map] at hd'
    rcases hk' : h[k]? with _ | d0
    · rw [hk'] at hd'; cases hd'
    · rw [hk'] at hd'
      injection hd' with hd'
      subst hd'
      obtain ⟨h3, h4⟩ := h2 k hk d0 hk'
      refine ⟨?_, fun hw => ?_⟩
      · show d0.first + d < c0.first + d
        omega
      · have := h4 hw
        show d0.last + d < c0.first + d
        omega
theorem mv_ahead (d : Int) (a b : Call) : aheadB (mv d a) (mv d b) = aheadB a b := by
  unfold aheadB
  refine decide_eq_decide.2 ?_
  show a.last + d < b.first + d ↔ _
  omega

theorem cellsOf_snoc (l : List Call) (c : Call) : cellsOf (l ++ [c]) = cellsOf l ++ c.cells := by simp [cellsOf]
def mvTo (d : Int) (h : List Call) (n : Nat) : List Call := (h.take n).map (mv d)
theorem mvTo_zero (d : Int) (h : List Call) : mvTo d h 0 = [] := by simp [mvTo]
theorem mvTo_snoc {d : Int} {h : List Call} {n : Nat} {c : Call} (hc : h[n]? = some c) : mvTo d h (n + 1) = mvTo d h n ++ [mv d c] := by
  unfold mvTo; rw [List.take_add_one, hc]; simp
theorem mvTo_le (d : Int) (h : List Call) (n : Nat) : (mvTo d h n).length ≤ h.length := by simp [mvTo]; omega
theorem mvTo_all (d : Int) (h : List Call) : mvTo d h h.length = h.map (mv d) := by simp [mvTo]

theorem en14' : EntersP Try.prog 14 := en14

theorem own_row {w : World} {base : Nat} {v : Value} {h : List Call} (ho : w.ownsRow base 30 10 v h.length (cellsOf h)) : ∃ A cap, v = .slice A h.length cap ∧ RowIn w A h := kRow_of_own ho

set_option maxRecDepth 100000 in
set_option maxHeartbeats 4000000 in
theorem moved_walk (A : Option Addr) (cap : Nat) (h : List Call) (d p q : Int) (w : World) (hr : CRow w w.heap.size A h) (hl : h.length ≤ maxLen) (hd : 0 ≤ d ∧ d ≤ 4294967295) (hp : 0 ≤ p ∧ p ≤ 255) (hq : 0 ≤ q ∧ q ≤ 255) :
    Calls Try.prog 7 #[.agg #[.slice A h.length cap, .int .u32 d, .int .u8 p, .int .u8 q]] w fun e w' => e = .returned (.bool true) ∧ Below w.heap.size w w' := by
  unfold maxLen at hl
  obtain ⟨i0, hi0, hz0, hz1, hz2⟩ := info_parts call_info
  have rh0 : RowIn w A h := hr
  clear hr
  by_cases h40 : 40 < h.length
  · go_enter Try.func7, Try.ntmps7
    go_wp2_with (go_at_call 8; refine (shown_any _).mono ?_; rintro e w1 ⟨rfl, hb1⟩)
    go_ret
    exact ⟨rfl, ((Below.refl _ _).alloc (Nat.le_refl _) _).trans (hb1.mono (by simp))⟩
  · have h40' : h.length ≤ 40 := by omega
    have hl6 : h.length ≤ 1000000 := by omega
    have h40d : decide ((40 : Int) < (h.length : Int)) = false := decide_eq_false (by omega)
    by_cases h0 : h.length = 0
    · go_enter Try.func7, Try.ntmps7
      go_wp2_with (go_at_call 8; refine (shown_any _).mono ?_; rintro e w1 ⟨rfl, hb1⟩)
      go_ret
      exact ⟨rfl, ((Below.refl _ _).alloc (Nat.le_refl _) _).trans (hb1.mono (by simp))⟩
    · have h0' : ((h.length : Int) == 0) = false := by rw [beq_eq_false_iff_ne]; omega
      have h0'' : (h.length == 0) = false := by rw [beq_eq_false_iff_ne]; omega
      go_enter Try.func7, Try.ntmps7
      go_wp2_with fail
      refine (shown_any _).mono ?_
      rintro e w1 ⟨rfl, hb1⟩
      have bw : Below w.heap.size w w1 := ((Below.refl _ _).alloc (Nat.le_refl _) _).trans (hb1.mono (by simp))
      clear hb1
      go_wp2_with fail
      refine (refRight_any A cap h _ (rh0.next bw) hl6).mono ?_
      rintro e w2 ⟨rfl, hb2⟩
      have bw2 : Below w.heap.size w w2 := bw.trans (hb2.mono bw.size)
      clear hb2 bw
      cases hrb : rightB h with
      | false =>
        go_wp2_with fail
        go_ret
        exact ⟨rfl, bw2⟩
      | true =>
        have hg := Lib.hid (good_of_rightB hrb)
        clear hrb
        obtain ⟨cl, hcl⟩ := call_at (show h.length - 1 < h.length by omega)
        obtain ⟨b, o, rfl, hb, a0, a1, a2, a3, a4, a5, a6, a7, a8, a9⟩ := rh0.next bw2 _ cl hcl
        have hn1 : (0 : Int) ≤ (h.length : Int) - 1 := by omega
        have hn2 : ((h.length : Int) - 1).toNat = h.length - 1 := by omega
        clear hcl
        by_cases hbig : 1152921504606846976 < cl.first
        · go_wp2_with fail
          go_ret
          exact ⟨rfl, bw2⟩
        · have hbd : decide (1152921504606846976 < cl.first) = false := decide_eq_false hbig
          go_wp2_with fail
          clear a0 a1 a2 a3 a4 a5 a6 a7 a8 a9 hn1 hn2
          go_loopw [9, 10] (fun v i wr => ∃ n : Nat, n ≤ h.length ∧ i = .int .i64 n ∧ wr.ownsRow w.heap.size 30 10 v (mvTo d h n).length (cellsOf (mvTo d h n)) ∧ Below w.heap.size w wr) (fun _ i _ => h.length - (intOf i).toNat)
          case atStart => exact ⟨0, by omega, rfl, ⟨by simp [cellsOf, mvTo_zero], .inl ⟨rfl, by simp [mvTo_zero]⟩⟩, bw2⟩
          case round =>
            obtain ⟨n, hn, rfl, hown, bw3⟩ := hrel
            have HO := Lib.hid hown
            clear hown
            by_cases hlt : n < h.length
            · obtain ⟨c, hc⟩ := call_at hlt
              obtain ⟨_, _, hA, _, a0, a1, a2, a3, a4, a5, a6, a7, a8, a9⟩ := rh0.next bw3 n c hc
              cases hA
              have hmay := of_decide_eq_true (hg.out n hlt c hc).1
              have hm1 : 0 ≤ c.first := hmay.2.2.2.2.2.2.1
              have hm2 : c.first ≤ c.last := hmay.2.2.2.2.2.2.2.1
              have hm3 : c.point ≤ c.last := by omega
              have HC := Lib.hid hc
              clear hc hmay
              have hnd : decide ((n : Int) < (h.length : Int)) = true := decide_eq_true (by omega)
              by_cases hbc : 1152921504606846976 < c.last
              · go_wp2_with fail
                go_ret
                exact ⟨rfl, bw3.alloc bw3.size _⟩
              · have hbcd : decide (1152921504606846976 < c.last) = false := decide_eq_false hbc
                by_cases hpt : 0 ≤ c.point
                · have hptd : decide (0 ≤ c.point) = true := decide_eq_true hpt
                  go_wp2_with (at_builtin; refine wpList_append_own _ rfl _ _ 22 rfl w.heap.size 30 i0 _ 10 80 Try.underlying22 hi0 hz0 hz1 hz2 rfl (by decide) _ _ _ rfl (owns_below HO.out (((Below.refl _ _).alloc (Nat.le_refl _) _).alloc (by simp) _)) ⟨wr.heap.size + 1, 0, none⟩ 1 1 (mv d c).cells rfl rfl ?c1 ?c2 ?c3 ?c4 ?c5 ?_)
                  case c1 =>
                    intro j u hu
                    have := new_cells (wr.alloc (.cells (mv d c).cells.toArray 30)) (mv d c) j u hu
                    unfold Call.cells mv at this; simp only [if_pos hpt] at this
                    by_cases e : j = 0 <;> simpa [Addr.add, e] using this
                  case c2 => exact cells_one _
                  case c3 => have := mvTo_le d h n; unfold maxLen; omega
                  case c4 => have := mvTo_le d h n; omega
                  case c5 => have := bw3.size; simp; omega
                  intro v' w3 hown2 hg2 _
                  have bw4 : Below w.heap.size w w3 := ((bw3.alloc bw3.size _).alloc (by have := bw3.size; simp; omega) _).grown hg2 (by have := bw3.size; simp; omega) (owns_base HO.out)
                  have HO2 : Hid (w3.ownsRow w.heap.size 30 10 v' (mvTo d h (n + 1)).length (cellsOf (mvTo d h (n + 1)))) := by
                    rw [mvTo_snoc HC.out]
                    refine Lib.hid ?_
                    rw [cellsOf_snoc, List.length_append]
                    exact hown2
                  clear hown2 hg2
                  go_wp2_with fail
                  go_roundw
                  case rel => exact ⟨n + 1, by omega, by go_num, HO2.out, bw4⟩
                  case measure => simp [intOf]; omega
                · have hptd : decide (0 ≤ c.point) = false := decide_eq_false hpt
                  go_wp2_with (at_builtin; refine wpList_append_own _ rfl _ _ 22 rfl w.heap.size 30 i0 _ 10 80 Try.underlying22 hi0 hz0 hz1 hz2 rfl (by decide) _ _ _ rfl (owns_below HO.out (((Below.refl _ _).alloc (Nat.le_refl _) _).alloc (by simp) _)) ⟨wr.heap.size + 1, 0, none⟩ 1 1 (mv d c).cells rfl rfl ?c1 ?c2 ?c3 ?c4 ?c5 ?_)
                  case c1 =>
                    intro j u hu
                    have := new_cells (wr.alloc (.cells (mv d c).cells.toArray 30)) (mv d c) j u hu
                    unfold Call.cells mv at this; simp only [if_neg (show ¬ 0 ≤ c.point by omega)] at this
                    by_cases e : j = 0 <;> simpa [Addr.add, e] using this
                  case c2 => exact cells_one _
                  case c3 => have := mvTo_le d h n; unfold maxLen; omega
                  case c4 => have := mvTo_le d h n; omega
                  case c5 => have := bw3.size; simp; omega
                  intro v' w3 hown2 hg2 _
                  have bw4 : Below w.heap.size w w3 := ((bw3.alloc bw3.size _).alloc (by have := bw3.size; simp; omega) _).grown hg2 (by have := bw3.size; simp; omega) (owns_base HO.out)
                  have HO2 : Hid (w3.ownsRow w.heap.size 30 10 v' (mvTo d h (n + 1)).length (cellsOf (mvTo d h (n + 1)))) := by
                    rw [mvTo_snoc HC.out]
                    refine Lib.hid ?_
                    rw [cellsOf_snoc, List.length_append]
                    exact hown2
                  clear hown2 hg2
                  go_wp2_with fail
                  go_roundw
                  case rel => exact ⟨n + 1, by omega, by go_num, HO2.out, bw4⟩
                  case measure => simp [intOf]; omega
            · have hfull := mvTo_all d h
              have hnn : n = h.length := by omega
              obtain ⟨A9, cap9, hv, r9⟩ := own_row HO.out
              rw [hnn, hfull, List.length_map] at hv
              subst hv
              have hg9 := mv_good hd.1 hg.out
              have r9' : RowIn wr A9 (h.map (mv d)) := by rw [← hfull, ← hnn]; exact r9
              have H9 := Lib.hid r9'
              clear hfull hnn HO r9 r9'
              have hnd : decide ((n : Int) < (h.length : Int)) = false := decide_eq_false (by omega)
              obtain ⟨k1, c1, e1, l1, HC1, _, _, hA, hbw, a0, a1, a2, a3, a4, a5, a6, a7, a8, a9⟩ := pick_at (rh0.next bw3) h0 p
              cases hA
              obtain ⟨k2, c2, e2, l2, HC2, _, _, hA, _, b0, b1, b2, b3, b4, b5, b6, b7, b8, b9⟩ := pick_at (rh0.next bw3) h0 q
              cases hA
              obtain ⟨b', o', rfl, hbb', g0, g1, g2, g3, g4, g5, g6, g7, g8, g9⟩ := H9.out k1 (mv d c1) (by rw [List.getElem?_map, HC1.out]; rfl)
              obtain ⟨_, _, hA, _, f0, f1, f2, f3, f4, f5, f6, f7, f8, f9⟩ := H9.out k2 (mv d c2) (by rw [List.getElem?_map, HC2.out]; rfl)
              cases hA
              have hR : ∀ x : Ext wr, Calls Try.prog 14 #[.slice (some ⟨b', o', none⟩) h.length cap9] x.on fun e w' => e = .returned (.bool true) ∧ Below x.on.heap.size x.on w' := fun x => by
                have := hRight_any (some ⟨b', o', none⟩) cap9 (h.map (mv d)) x.on (H9.out.next x.below) (by simp; omega)
                rw [rightB_true hg9, List.length_map] at this
                exact this
              have hM : ∀ x : Ext wr, Calls Try.prog 10 #[.agg (mv d c1).cells.toArray, .agg (mv d c2).cells.toArray] x.on fun e w' => e = .returned (.bool (aheadB c1 c2)) ∧ Below x.on.heap.size x.on w' := fun x => by
                have := ahead_any (mv d c1) (mv d c2) x.on
                rwa [mv_ahead] at this
              have HR := Lib.hid hR
              have HM := Lib.hid hM
              clear hR hM
              go_wp2_with fail
              refine wp_region_rel (by kernel_rfl) (by kernel_rfl) ?_
              refine rel_seg 120 [_, _, _] _ _ (by kernel_rfl) rfl ?_
              repeat (go_big_quiet_step (fail))
              refine wpQuiet_nil ?_
              refine rel_call (f := 14) rfl en14 (by kernel_rfl) (by kernel_rfl) (by kernel_rfl) (fun x => HR.out x) rfl ?_
              simp only [Act.put, List.setIfInBounds_toArray, List.set_cons_zero, List.set_cons_succ]
              refine rel_seg 120 [_, _, _, _, _, _, _, _, _, _] _ _ (by kernel_rfl) rfl ?_
              repeat (go_big_quiet_step (fail))
              refine wpQuiet_nil ?_
              refine rel_call (f := 10) rfl en10 (by kernel_rfl) (by kernel_rfl) (by kernel_rfl) (fun x => HM.out x) rfl ?_
              simp only [Act.put, List.setIfInBounds_toArray, List.set_cons_zero, List.set_cons_succ]
              refine rel_seg 120 [_, _, _, _, _, _, _, _] _ _ (by kernel_rfl) rfl ?_
              repeat (go_big_quiet_step (fail))
              refine wpQuiet_nil ?_
              refine rel_call (f := 10) rfl en10 (by kernel_rfl) (by kernel_rfl) (by kernel_rfl) (fun x => ahead_any c1 c2 _) rfl ?_
              simp only [Act.put, List.setIfInBounds_toArray, List.set_cons_zero, List.set_cons_succ]
              refine rel_seg 120 [_, _, _] _ _ (by kernel_rfl) rfl ?_
              repeat (go_big_quiet_step (fail))
              refine wpQuiet_nil ?_
              refine rel_nil (by decide) fun x => ?_
              simp only [withNd]
              go_wp2_with fail
              go_ret
              exact ⟨rfl, bw3.trans (x.below.mono bw3.size)⟩
end Go.Proofs.Ytndelolfhdliaaa
