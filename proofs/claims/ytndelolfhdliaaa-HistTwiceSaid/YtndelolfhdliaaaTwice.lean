/- The walk of HistTwice. -/
import Derived.Test.YtndelolfhdliaaaShown
namespace Go.Proofs.Ytndelolfhdliaaa
open Go.RowKit

/-- What is known of a row of calls in a world, and in every world that grows out of it. -/
def RowIn (w : World) (A : Option Addr) (h : List Call) : Prop := CRow w w.heap.size A h
theorem RowIn.next {w w' : World} {A : Option Addr} {h : List Call} (hr : RowIn w A h) (hb : Below w.heap.size w w') : RowIn w' A h := (CRow.below hr hb).more hb.size

theorem gives_row {w : World} {h : List Call} {e : Ending} {w' : World} (hg : Gives w h e w') : ∃ A cap l, Hid (l = h) ∧ e = .returned (.slice A l.length cap) ∧ RowIn w' A l ∧ Below w.heap.size w w' := by
  obtain ⟨v, rfl, ⟨A, cap, rfl, hr⟩, hb⟩ := gives_new hg
  exact ⟨A, cap, h, Lib.hid rfl, rfl, hr, hb⟩

theorem same_yes {w : World} {A B : Option Addr} {c d : Nat} {h g : List Call} (hr : RowIn w A h) (hs : RowIn w B g) (hl : h.length ≤ 40) (e : h = g) :
    Calls Try.prog 15 #[.slice A h.length c, .slice B g.length d] w fun e w' => e = .returned (.bool true) ∧ Below w.heap.size w w' := by
  have := same_any A B c d h g w hr hs (by omega)
  rwa [decide_eq_true e] at this

theorem filter_le {h : List Call} {p : Call → Bool} (hl : h.length ≤ 40) : (h.filter p).length ≤ 40 := Nat.le_trans (List.length_filter_le _ _) hl
theorem filter_comm (h : List Call) (p q : Call → Bool) : (h.filter p).filter q = (h.filter q).filter p := by
  rw [List.filter_filter, List.filter_filter]; congr 1; funext c; exact Bool.and_comm _ _
theorem filter_twice (h : List Call) (p : Call → Bool) : (h.filter p).filter p = h.filter p := by
  rw [List.filter_filter]; congr 1; funext c; exact Bool.and_self _

set_option maxRecDepth 100000 in
set_option maxHeartbeats 2000000 in
theorem twice_walk (A : Option Addr) (cap : Nat) (h : List Call) (k o p s : Int) (w : World) (hr : CRow w w.heap.size A h) (hl : h.length ≤ maxLen) :
    Calls Try.prog 6 #[.agg #[.slice A h.length cap, .int .i64 k, .int .i64 o, .int .i64 p, .int .i64 s]] w fun e w' => e = .returned (.bool true) ∧ Below w.heap.size w w' := by
  unfold maxLen at hl
  by_cases h40 : 40 < h.length
  · go_enter Try.func6, Try.ntmps6
    go_wp2_with (go_at_call 8; refine (shown_any _).mono ?_; rintro e w1 ⟨rfl, hb1⟩)
    go_ret
    exact ⟨rfl, ((Below.refl _ _).alloc (Nat.le_refl _) _).trans (hb1.mono (by simp))⟩
  · have h40' : h.length ≤ 40 := by omega
    have hl6 : h.length ≤ 1000000 := by omega
    go_enter Try.func6, Try.ntmps6
    go_wp2_with fail
    refine (shown_any _).mono ?_
    rintro e w1 ⟨rfl, hb1⟩
    have bw : Below w.heap.size w w1 := ((Below.refl _ _).alloc (Nat.le_refl _) _).trans (hb1.mono (by simp))
    have rh : RowIn w1 A h := RowIn.next hr bw
    clear hb1 hr
    go_wp2_with fail
    refine (of_calls A cap h k o _ rh hl6).mono ?_
    intro e w2 hg
    obtain ⟨A1, cap1, la, Hla, rfl, ra, hb⟩ := gives_row hg
    have rh := rh.next hb
    have bw := bw.trans (hb.mono bw.size)
    clear hg hb
    go_wp2_with fail
    refine (seat_calls A cap h p _ rh hl6).mono ?_
    intro e w3 hg
    obtain ⟨A2, cap2, lb, Hlb, rfl, rb, hb⟩ := gives_row hg
    have rh := rh.next hb
    have ra := ra.next hb
    have bw := bw.trans (hb.mono bw.size)
    clear hg hb
    go_wp2_with fail
    refine (upto_calls A cap h s _ rh hl6).mono ?_
    intro e w4 hg
    obtain ⟨A3, cap3, lc, Hlc, rfl, rc, hb⟩ := gives_row hg
    have ra := ra.next hb
    have rb := rb.next hb
    have bw := bw.trans (hb.mono bw.size)
    clear hg hb
    go_wp2_with fail
    refine (of_calls A1 cap1 _ k o _ ra (by have := filter_le (p := ofB k o) h40'; rw [Hla.out]; omega)).mono ?_
    intro e w5 hg
    obtain ⟨B1, d1, l1, Hl1, rfl, r1, hb⟩ := gives_row hg
    have ra := ra.next hb
    have rb := rb.next hb
    have rc := rc.next hb
    have bw := bw.trans (hb.mono bw.size)
    clear hg hb
    go_wp2_with fail
    refine (same_yes r1 ra (by rw [Hl1.out, Hla.out]; exact filter_le (filter_le h40')) (by rw [Hl1.out, Hla.out]; exact filter_twice _ _)).mono ?_
    rintro e w6 ⟨rfl, hb⟩
    have ra := ra.next hb
    have rb := rb.next hb
    have rc := rc.next hb
    have bw := bw.trans (hb.mono bw.size)
    clear hb
    go_wp2_with fail
    refine (seat_calls A1 cap1 _ p _ ra (by have := filter_le (p := ofB k o) h40'; rw [Hla.out]; omega)).mono ?_
    intro e w7 hg
    obtain ⟨B2, d2, l2, Hl2, rfl, r2, hb⟩ := gives_row hg
    have ra := ra.next hb
    have rb := rb.next hb
    have rc := rc.next hb
    have bw := bw.trans (hb.mono bw.size)
    clear hg hb
    go_wp2_with fail
    refine (of_calls A2 cap2 _ k o _ rb (by have := filter_le (p := seatB p) h40'; rw [Hlb.out]; omega)).mono ?_
    intro e w8 hg
    obtain ⟨B3, d3, l3, Hl3, rfl, r3, hb⟩ := gives_row hg
    have ra := ra.next hb
    have rb := rb.next hb
    have rc := rc.next hb
    have r2 := r2.next hb
    have bw := bw.trans (hb.mono bw.size)
    clear hg hb
    go_wp2_with fail
    refine (same_yes r2 r3 (by rw [Hl2.out, Hla.out]; exact filter_le (filter_le h40')) (by rw [Hl2.out, Hl3.out, Hla.out, Hlb.out]; exact filter_comm _ _ _)).mono ?_
    rintro e w9 ⟨rfl, hb⟩
    have ra := ra.next hb
    have rb := rb.next hb
    have rc := rc.next hb
    have bw := bw.trans (hb.mono bw.size)
    clear hb
    go_wp2_with fail
    refine (upto_calls A2 cap2 _ s _ rb (by have := filter_le (p := seatB p) h40'; rw [Hlb.out]; omega)).mono ?_
    intro e w10 hg
    obtain ⟨B4, d4, l4, Hl4, rfl, r4, hb⟩ := gives_row hg
    have ra := ra.next hb
    have rc := rc.next hb
    have bw := bw.trans (hb.mono bw.size)
    clear hg hb
    go_wp2_with fail
    refine (seat_calls A3 cap3 _ p _ rc (by have := filter_le (p := uptoB s) h40'; rw [Hlc.out]; omega)).mono ?_
    intro e w11 hg
    obtain ⟨B5, d5, l5, Hl5, rfl, r5, hb⟩ := gives_row hg
    have ra := ra.next hb
    have rc := rc.next hb
    have r4 := r4.next hb
    have bw := bw.trans (hb.mono bw.size)
    clear hg hb
    go_wp2_with fail
    refine (same_yes r4 r5 (by rw [Hl4.out, Hlb.out]; exact filter_le (filter_le h40')) (by rw [Hl4.out, Hl5.out, Hlb.out, Hlc.out]; exact filter_comm _ _ _)).mono ?_
    rintro e w12 ⟨rfl, hb⟩
    have ra := ra.next hb
    have rc := rc.next hb
    have bw := bw.trans (hb.mono bw.size)
    clear hb
    go_wp2_with fail
    refine (upto_calls A1 cap1 _ s _ ra (by have := filter_le (p := ofB k o) h40'; rw [Hla.out]; omega)).mono ?_
    intro e w13 hg
    obtain ⟨B6, d6, l6, Hl6, rfl, r6, hb⟩ := gives_row hg
    have rc := rc.next hb
    have bw := bw.trans (hb.mono bw.size)
    clear hg hb
    go_wp2_with fail
    refine (of_calls A3 cap3 _ k o _ rc (by have := filter_le (p := uptoB s) h40'; rw [Hlc.out]; omega)).mono ?_
    intro e w14 hg
    obtain ⟨B7, d7, l7, Hl7, rfl, r7, hb⟩ := gives_row hg
    have r6 := r6.next hb
    have bw := bw.trans (hb.mono bw.size)
    clear hg hb
    go_wp2_with fail
    refine (same_yes r6 r7 (by rw [Hl6.out, Hla.out]; exact filter_le (filter_le h40')) (by rw [Hl6.out, Hl7.out, Hla.out, Hlc.out]; exact filter_comm _ _ _)).mono ?_
    rintro e w15 ⟨rfl, hb⟩
    have bw := bw.trans (hb.mono bw.size)
    clear hb
    go_wp2_with fail
    go_ret
    exact ⟨rfl, bw⟩
end Go.Proofs.Ytndelolfhdliaaa
