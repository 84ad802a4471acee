/- The contract of the document's Right. -/
import Derived.Test.YtndelolfhdliaaaLeaf
namespace Go.Proofs.Ytndelolfhdliaaa
open Go.RowKit

def okPair (a b : Call) : Prop := a.first < b.first ∧ (a.who = b.who → a.last < b.first)
/-- The first n calls are right. -/
def Good (h : List Call) (n : Nat) : Prop :=
  ∀ i, i < n → ∀ c, h[i]? = some c → mayB c = true ∧ ∀ k, k < i → ∀ d, h[k]? = some d → okPair d c
noncomputable def rightB (h : List Call) : Bool := @decide (Good h h.length) (Classical.propDecidable _)

theorem rightB_true {h : List Call} (hg : Good h h.length) : rightB h = true := by unfold rightB; exact @decide_eq_true _ (Classical.propDecidable _) hg
theorem rightB_false {h : List Call} (hg : ¬ Good h h.length) : rightB h = false := by unfold rightB; exact @decide_eq_false _ (Classical.propDecidable _) hg
theorem good_of_rightB {h : List Call} (hr : rightB h = true) : Good h h.length := by unfold rightB at hr; exact @of_decide_eq_true _ (Classical.propDecidable _) hr

/-- The inner loop's: calls below k are good beside c. -/
def GoodTo (h : List Call) (c : Call) (n : Nat) : Prop := ∀ k, k < n → ∀ d, h[k]? = some d → okPair d c

theorem goodTo_zero (h : List Call) (c : Call) : GoodTo h c 0 := fun k hk => by omega
theorem goodTo_succ {h : List Call} {c d : Call} {n : Nat} (hg : GoodTo h c n) (hd : h[n]? = some d) (ho : okPair d c) : GoodTo h c (n + 1) := fun k hk d' hd' => by
  by_cases e : k = n
  · subst e; rw [hd] at hd'; cases hd'; exact ho
  · exact hg k (by omega) d' hd'
theorem good_zero (h : List Call) : Good h 0 := fun k hk => by omega
theorem good_succ {h : List Call} {c : Call} {n : Nat} (hg : Good h n) (hc : h[n]? = some c) (hm : mayB c = true) (ht : GoodTo h c n) : Good h (n + 1) := fun i hi c' hc' => by
  by_cases e : i = n
  · subst e; rw [hc] at hc'; cases hc'; exact ⟨hm, ht⟩
  · exact hg i (by omega) c' hc'
theorem not_good_may {h : List Call} {c : Call} {n : Nat} (hc : h[n]? = some c) (hm : mayB c = false) : ¬ Good h h.length := fun hg => by
  have hn : n < h.length := (List.getElem?_eq_some_iff.1 hc).1
  have := (hg n hn c hc).1
  rw [hm] at this; cases this
theorem not_good_pair {h : List Call} {c d : Call} {n k : Nat} (hc : h[n]? = some c) (hd : h[k]? = some d) (hk : k < n) (ho : ¬ okPair d c) : ¬ Good h h.length := fun hg => by
  have hn : n < h.length := (List.getElem?_eq_some_iff.1 hc).1
  exact ho ((hg n hn c hc).2 k hk d hd)

theorem call_at {h : List Call} {n : Nat} (hn : n < h.length) : ∃ c, h[n]? = some c := ⟨h[n], by simp [hn]⟩

set_option maxRecDepth 100000 in
set_option maxHeartbeats 1000000 in
theorem refRight_any (A : Option Addr) (cap : Nat) (h : List Call) (w : World) (hr : CRow w w.heap.size A h) (hl : h.length ≤ 1000000) :
    Calls Try.prog 9 #[.slice A h.length cap] w fun e w' => e = .returned (.bool (rightB h)) ∧ Below w.heap.size w w' := by
  go_enter Try.func9, Try.ntmps9
  go_wp2
  go_loopw [3] (fun i wr => ∃ n : Nat, n ≤ h.length ∧ i = .int .i64 n ∧ Good h n ∧ Below w.heap.size w wr) (fun i _ => h.length - (intOf i).toNat)
  case atStart => exact ⟨0, by omega, rfl, good_zero h, Below.refl _ _⟩
  case round =>
    obtain ⟨n, hn, rfl, hg, hb⟩ := hrel
    by_cases hlt : n < h.length
    · obtain ⟨c, hc⟩ := call_at hlt
      have hrr := hr.below hb
      obtain ⟨b, o, rfl, hbb, h0, h1, h2, h3, h4, h5, h6, h7, h8, h9⟩ := hrr n c hc
      have HC := Lib.hid hc
      clear hc
      go_wp2_with (go_at_call 16; refine (refMay_any c _).mono ?_; rintro e w1 ⟨rfl, hb1⟩)
      · have hm : mayB c = false := by simpa using ‹(!mayB c) = true›
        go_ret
        exact ⟨ret_bool (rightB_false (not_good_may HC.out hm)).symm, hb.trans (hb1.mono hb.size)⟩
      · have hm : mayB c = true := by simpa using ‹(!mayB c) = false›
        have HM := Lib.hid hm
        clear hm
        rename_i hnm
        clear hnm
        have hbw : Below w.heap.size w w1 := hb.trans (hb1.mono hb.size)
        clear hrr hb1 h0 h1 h2 h3 h4 h5 h6 h7 h8 h9
        obtain ⟨wo, rfl⟩ : ∃ wo : World, wo = w1 := ⟨_, rfl⟩
        go_loopw [5] (fun k wr => ∃ j : Nat, j ≤ n ∧ k = .int .i64 j ∧ GoodTo h c j ∧ Below w.heap.size w wr) (fun k _ => n - (intOf k).toNat)
        case atStart => exact ⟨0, by omega, rfl, goodTo_zero h c, hbw⟩
        case round =>
          obtain ⟨j, hj, rfl, hgt, hb2⟩ := hrel
          by_cases hjn : j < n
          · obtain ⟨d, hd⟩ := call_at (show j < h.length by omega)
            have hrr := hr.below hb2
            obtain ⟨_, _, hA, hbb2, d0, d1, d2, d3, d4, d5, d6, d7, d8, d9⟩ := hrr j d hd
            cases hA
            obtain ⟨_, _, hA, _, h0, h1, h2, h3, h4, h5, h6, h7, h8, h9⟩ := hrr n c HC.out
            cases hA
            have hbz : b < wr.heap.size := Nat.lt_of_lt_of_le hbb hb2.size
            have HD := Lib.hid hd
            clear hd hrr hr
            have hjl : j < h.length := by omega
            by_cases hf : c.first ≤ d.first
            · have hff : decide (c.first ≤ d.first) = true := by simpa using hf
              go_wp2
              refine wp_region_ext (by kernel_rfl) (by kernel_rfl) ?_
              repeat (go_big_quiet_step (fail))
              refine wpQuiet_nil ?_
              rintro _ ⟨x, rfl⟩
              go_wp2
              go_ret
              exact ⟨ret_bool (rightB_false (not_good_pair HC.out HD.out hjn fun ho => by have := ho.1; omega)).symm, hb2.trans (x.below.mono hb2.size)⟩
            · have hff : decide (c.first ≤ d.first) = false := by simpa using hf
              by_cases hw : d.who = c.who
              · have hww : (d.who == c.who) = true := by simpa using hw
                have HW := Lib.hid hw
                clear hw
                go_wp2
                refine wp_region_ext (by kernel_rfl) (by kernel_rfl) ?_
                repeat (go_big_quiet_step ((go_at_call 17; exact Calls.ext_of (refAhead_any d c _))))
                refine wpQuiet_nil ?_
                rintro _ ⟨x, rfl⟩
                have hbx := hb2.trans (x.below.mono hb2.size)
                go_wp2
                · go_ret
                  have hna : aheadB d c = false := by simpa using ‹(!aheadB d c) = true›
                  exact ⟨ret_bool (rightB_false (not_good_pair HC.out HD.out hjn fun ho => by have := ho.2 HW.out; unfold aheadB at hna; simp at hna; omega)).symm, hbx⟩
                · have hna : aheadB d c = true := by simpa using ‹(!aheadB d c) = false›
                  go_roundw
                  case rel => exact ⟨j + 1, by omega, by go_num, goodTo_succ hgt HD.out ⟨by omega, fun _ => by unfold aheadB at hna; simpa using hna⟩, hbx⟩
                  case measure => simp [intOf]; omega
              · have hww : (d.who == c.who) = false := by simpa using hw
                go_wp2
                refine wp_region_ext (by kernel_rfl) (by kernel_rfl) ?_
                repeat (go_big_quiet_step (fail))
                refine wpQuiet_nil ?_
                rintro _ ⟨x, rfl⟩
                have hbx := hb2.trans (x.below.mono hb2.size)
                go_wp2
                go_roundw
                case rel => exact ⟨j + 1, by omega, by go_num, goodTo_succ hgt HD.out ⟨by omega, fun e => absurd e hw⟩, hbx⟩
                case measure => simp [intOf]; omega
          · obtain rfl : j = n := by omega
            go_wp2
            go_roundw
            case rel => exact ⟨j + 1, by omega, by go_num, good_succ hg HC.out HM.out hgt, hb2⟩
            case measure => simp [intOf]; omega
    · have hnn : n = h.length := by omega
      go_wp2
      go_ret
      exact ⟨ret_bool (rightB_true (hnn ▸ hg)).symm, hb⟩
end Go.Proofs.Ytndelolfhdliaaa
