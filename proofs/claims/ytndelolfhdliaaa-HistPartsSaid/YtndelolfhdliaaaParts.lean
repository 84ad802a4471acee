/- The walk of HistParts. -/
import Derived.Test.YtndelolfhdliaaaMoved
namespace Go.Proofs.Ytndelolfhdliaaa
open Go.RowKit

theorem good_iff {h : List Call} : Good h h.length ↔ (∀ c ∈ h, mayB c = true) ∧ h.Pairwise okPair := by
  constructor
  · intro hg
    refine ⟨fun c hc => good_mem hg hc, ?_⟩
    rw [List.pairwise_iff_getElem]
    intro i j hi hj hij
    exact (hg j hj _ (List.getElem?_eq_getElem hj)).2 i hij _ (List.getElem?_eq_getElem hi)
  · rintro ⟨h1, h2⟩ i hi c hc
    refine ⟨h1 c (List.mem_of_getElem? hc), fun k hk d hd => ?_⟩
    rw [List.pairwise_iff_getElem] at h2
    have hkl : k < h.length := by omega
    have := h2 k i hkl hi hk
    rw [List.getElem?_eq_getElem hi] at hc
    rw [List.getElem?_eq_getElem hkl] at hd
    cases hc; cases hd
    exact this
theorem good_filter {h : List Call} (hg : Good h h.length) (p : Call → Bool) : Good (h.filter p) (h.filter p).length := by
  rw [good_iff] at hg ⊢
  exact ⟨fun c hc => hg.1 c (List.mem_filter.1 hc).1, hg.2.filter p⟩

/-- Where the search stands: what is still to be met lies behind. -/
def At (h l : List Call) (p : Call → Bool) (at' k : Nat) : Prop := (h.drop at').filter p = l.drop k
theorem at_zero {h l : List Call} {p : Call → Bool} (e : l = h.filter p) : At h l p 0 0 := by subst e; simp [At]
theorem drop_at {h : List Call} {n : Nat} {c : Call} (hc : h[n]? = some c) : h.drop n = c :: h.drop (n + 1) := by
  have hn : n < h.length := (List.getElem?_eq_some_iff.1 hc).1
  rw [List.drop_eq_getElem_cons hn]
  rw [List.getElem?_eq_getElem hn] at hc
  injection hc with hc
  rw [hc]
theorem at_skip {h l : List Call} {p : Call → Bool} {a k : Nat} {c d : Call} (ha : At h l p a k) (hc : h[a]? = some c) (hd : l[k]? = some d) (hne : c ≠ d) : At h l p (a + 1) k := by
  unfold At at *
  rw [drop_at hc, drop_at hd] at ha
  by_cases hp : p c = true
  · rw [List.filter_cons_of_pos hp] at ha
    injection ha with h1 _
    exact absurd h1 hne
  · rw [List.filter_cons_of_neg hp] at ha
    rw [drop_at hd]; exact ha
theorem at_hit {h l : List Call} {p : Call → Bool} {a k : Nat} {d : Call} (e : l = h.filter p) (ha : At h l p a k) (hc : h[a]? = some d) (hd : l[k]? = some d) : At h l p (a + 1) (k + 1) := by
  have hp : p d = true := by
    have : d ∈ l := List.mem_of_getElem? hd
    rw [e] at this
    exact (List.mem_filter.1 this).2
  unfold At at *
  rw [drop_at hc, drop_at hd, List.filter_cons_of_pos hp] at ha
  injection ha
theorem at_end {h l : List Call} {p : Call → Bool} {a k : Nat} (ha : At h l p a k) (hk : k < l.length) : a < h.length := by
  rcases Nat.lt_or_ge a h.length with h' | h'
  · exact h'
  · unfold At at ha
    rw [List.drop_eq_nil_of_le h'] at ha
    have := congrArg List.length ha
    simp at this
    omega

/-- The three parts, in memory. -/
def PartsIn (w : World) (g : Nat) (h : List Call) : Prop := g < w.heap.size ∧ ∀ i, i < 3 → ∃ A cap l p, w.cell? ⟨g, i, none⟩ = some (.slice A (List.length l) cap) ∧ Hid (l = h.filter p) ∧ RowIn w A l
theorem PartsIn.next {w w' : World} {g : Nat} {h : List Call} (hp : PartsIn w g h) (hb : Below w.heap.size w w') : PartsIn w' g h := by
  refine ⟨Nat.lt_of_lt_of_le hp.1 hb.size, fun i hi => ?_⟩
  obtain ⟨A, cap, l, p, hc, e, hr⟩ := hp.2 i hi
  exact ⟨A, cap, l, p, (hb.cell hp.1).trans hc, e, hr.next hb⟩
theorem parts_new {w : World} {h : List Call} {A0 A1 A2 : Option Addr} {c0 c1 c2 : Nat} {l0 l1 l2 : List Call} {p0 p1 p2 : Call → Bool} (h0 : Hid (l0 = h.filter p0)) (h1 : Hid (l1 = h.filter p1)) (h2 : Hid (l2 = h.filter p2))
    (r0 : RowIn w A0 l0) (r1 : RowIn w A1 l1) (r2 : RowIn w A2 l2) (t : TypeId) : PartsIn (w.alloc (.cells #[.slice A0 l0.length c0, .slice A1 l1.length c1, .slice A2 l2.length c2] t)) w.heap.size h := by
  have hb : Below w.heap.size w (w.alloc (.cells #[.slice A0 l0.length c0, .slice A1 l1.length c1, .slice A2 l2.length c2] t)) := (Below.refl _ _).alloc (Nat.le_refl _) _
  refine ⟨by simp, fun i hi => ?_⟩
  have hc := cell_of_row (w.alloc (.cells #[.slice A0 l0.length c0, .slice A1 l1.length c1, .slice A2 l2.length c2] t)) w.heap.size i _ t (0, 0) (heap_alloc_new w _)
  match i, hi with
  | 0, _ => exact ⟨A0, c0, l0, p0, hc, h0, r0.next hb⟩
  | 1, _ => exact ⟨A1, c1, l1, p1, hc, h1, r1.next hb⟩
  | 2, _ => exact ⟨A2, c2, l2, p2, hc, h2, r2.next hb⟩

theorem quiet_neq_call' {ops : Array Oper} {C : World → Prop} {Q : Act → Prop} {o : Oper} {rest : List Oper} {a : Act} {x y : Operand} {t : TypeId} {c d : Call} (ho : o.op = .binOp .neq 30 x y t) (hw : Region.wanted o (yielded ops a.tmps) = true)
    (hx : a.eval x = .agg c.cells.toArray) (hy : a.eval y = .agg d.cells.toArray) (h : wpQuiet Try.prog ops C Q rest (a.put o.dst (.bool (!decide (c = d))))) : wpQuiet Try.prog ops C Q (o :: rest) a := by
  refine BigFrame.wpQuiet_want hw fun K hK => ⟨.bool (!decide (c = d)), fun w _ => ?_, hK _ h⟩
  unfold Oper.quietAt execOp
  have hgd : (eqGuard .neq 30 x y (.agg c.cells.toArray) (.agg d.cells.toArray)).run Try.prog w = .ok () w := by simp [go_sem, Try.eqGuardType30]
  simp only [ho, hx, hy, Sem.run_bind, run_neq_call, hgd, Result.andThen_ok, Sem.run_pure]
  exact ⟨rfl, rfl⟩

set_option maxRecDepth 100000 in
set_option maxHeartbeats 4000000 in
theorem parts_walk (A : Option Addr) (cap : Nat) (h : List Call) (kd ob st : Int) (w : World) (hr : CRow w w.heap.size A h) (hl : h.length ≤ maxLen) (hk : 0 ≤ kd ∧ kd ≤ 255) (ho : 0 ≤ ob ∧ ob ≤ 255) :
    Calls Try.prog 4 #[.agg #[.slice A h.length cap, .int .u8 kd, .int .u8 ob, .int .i64 st]] w fun e w' => e = .returned (.bool true) ∧ Below w.heap.size w w' := by
  unfold maxLen at hl
  have rh0 : RowIn w A h := hr
  clear hr
  by_cases h40 : 40 < h.length
  · go_enter Try.func4, Try.ntmps4
    go_wp2_with (go_at_call 8; refine (shown_any _).mono ?_; rintro e w1 ⟨rfl, hb1⟩)
    go_ret
    exact ⟨rfl, ((Below.refl _ _).alloc (Nat.le_refl _) _).trans (hb1.mono (by simp))⟩
  · have h40' : h.length ≤ 40 := by omega
    have hl6 : h.length ≤ 1000000 := by omega
    have h40d : decide ((40 : Int) < (h.length : Int)) = false := decide_eq_false (by omega)
    go_enter Try.func4, Try.ntmps4
    go_wp2_with fail
    refine (shown_any _).mono ?_
    rintro e w1 ⟨rfl, hb1⟩
    have bw : Below w.heap.size w w1 := ((Below.refl _ _).alloc (Nat.le_refl _) _).trans (hb1.mono (by simp))
    clear hb1
    go_wp2_with fail
    refine (refRight_any A cap h _ (rh0.next bw) hl6).mono ?_
    rintro e w2 ⟨rfl, hb2⟩
    have bw2 : Below w.heap.size w w2 := bw.trans (hb2.mono bw.size)
    clear hb2 bw
    cases hrb : rightB h with
    | false =>
      go_wp2_with fail
      go_ret
      exact ⟨rfl, bw2⟩
    | true =>
      have hg := Lib.hid (good_of_rightB hrb)
      clear hrb
      go_wp2_with fail
      refine (of_calls A cap h _ _ _ (rh0.next bw2) hl6).mono ?_
      intro e w3 hgv
      obtain ⟨A1, cap1, l1, Hl1, rfl, r1, hb⟩ := gives_row hgv
      have bw3 := bw2.trans (hb.mono bw2.size)
      clear hgv hb bw2
      go_wp2_with fail
      refine (seat_calls A cap h _ _ (rh0.next bw3) hl6).mono ?_
      intro e w4 hgv
      obtain ⟨A2, cap2, l2, Hl2, rfl, r2, hb⟩ := gives_row hgv
      have bw4 := bw3.trans (hb.mono bw3.size)
      have r1 := r1.next hb
      clear hgv hb bw3
      go_wp2_with fail
      refine (upto_calls A cap h _ _ (rh0.next bw4) hl6).mono ?_
      intro e w5 hgv
      obtain ⟨A3, cap3, l3, Hl3, rfl, r3, hb⟩ := gives_row hgv
      have bw5 := bw4.trans (hb.mono bw4.size)
      have r1 := r1.next hb
      have r2 := r2.next hb
      clear hgv hb bw4
      go_wp2_with fail
      have hp5 := parts_new (c0 := cap1) (c1 := cap2) (c2 := cap3) Hl1 Hl2 Hl3 r1 r2 r3 22
      have bw6 : Below w.heap.size w (w5.alloc (.cells #[.slice A1 l1.length cap1, .slice A2 l2.length cap2, .slice A3 l3.length cap3] 22)) := bw5.alloc bw5.size _
      clear r1 r2 r3
      go_loopw [9] (fun i wr => ∃ n : Nat, n ≤ 3 ∧ i = .int .i64 n ∧ PartsIn wr w5.heap.size h ∧ Below w.heap.size w wr) (fun i _ => 3 - (intOf i).toNat)
      case atStart => exact ⟨0, by omega, rfl, hp5, bw6⟩
      case round =>
        obtain ⟨n, hn, rfl, hpt, bw7⟩ := hrel
        by_cases hn3 : n < 3
        · obtain ⟨Ap, capp, l, p, hcell, Hl, rl⟩ := hpt.2 n hn3
          have hgs := hpt.1
          have hll : l.length ≤ 40 := by rw [Hl.out]; exact filter_le h40'
          have hnd : decide ((n : Int) < 3) = true := decide_eq_true (by omega)
          have hn3' : (n : Int) < 3 := by omega
          obtain ⟨wo, rfl⟩ : ∃ wo : World, wo = wr := ⟨_, rfl⟩
          go_wp2_with fail
          go_loopw [10, 11] (fun at' k wr => ∃ a kk : Nat, a ≤ h.length ∧ kk ≤ l.length ∧ at' = .int .i64 a ∧ k = .int .i64 kk ∧ At h l p a kk ∧ Below wo.heap.size wo wr) (fun _ k _ => l.length - (intOf k).toNat)
          case atStart => exact ⟨0, 0, by omega, by omega, rfl, rfl, at_zero Hl.out, Below.refl _ _⟩
          case round =>
            obtain ⟨a, kk, ha, hkk, rfl, rfl, hat, bx⟩ := hrel
            have hcell2 : wr.cell? ⟨w5.heap.size, n, none⟩ = some (.slice Ap l.length capp) := (bx.cell hgs).trans hcell
            by_cases hkl : kk < l.length
            · have hkd : decide ((kk : Int) < (l.length : Int)) = true := decide_eq_true (by omega)
              have hkd' : decide (kk < l.length) = true := decide_eq_true (by omega)
              obtain ⟨wo2, rfl⟩ : ∃ wo2 : World, wo2 = wr := ⟨_, rfl⟩
              go_wp2_with fail
              go_loopw [10] (fun at' wr => ∃ a : Nat, a ≤ h.length ∧ at' = .int .i64 a ∧ At h l p a kk ∧ Below wo.heap.size wo wr) (fun at' _ => h.length - (intOf at').toNat)
              case atStart => exact ⟨a, by omega, rfl, hat, bx⟩
              case round =>
                clear hat ha
                obtain ⟨a, ha, rfl, hat, bx2⟩ := hrel
                have hal := at_end hat hkl
                obtain ⟨c, hc⟩ := call_at hal
                obtain ⟨d, hd⟩ := call_at hkl
                have bw8 := bw7.trans (bx2.mono bw7.size)
                have hcell3 : wr.cell? ⟨w5.heap.size, n, none⟩ = some (.slice Ap l.length capp) := (bx2.cell hgs).trans hcell
                have hgs3 : w5.heap.size < wr.heap.size := Nat.lt_of_lt_of_le hgs bx2.size
                obtain ⟨b, o, rfl, hb, a0, a1, a2, a3, a4, a5, a6, a7, a8, a9⟩ := rh0.next bw8 a c hc
                obtain ⟨b', o', rfl, hb', d0, d1, d2, d3, d4, d5, d6, d7, d8, d9⟩ := rl.next bx2 kk d hd
                have HC := Lib.hid hc
                have HD := Lib.hid hd
                clear hc hd
                have had : decide ((a : Int) < (h.length : Int)) = true := decide_eq_true (by omega)
                have had' : decide (a < h.length) = true := decide_eq_true (by omega)
                have hae : ((a : Int) == (h.length : Int)) = false := by rw [beq_eq_false_iff_ne]; omega
                have hae' : (a == h.length) = false := by rw [beq_eq_false_iff_ne]; omega
                by_cases hcd : c = d
                · subst hcd
                  have HA := Lib.hid (at_hit Hl.out hat HC.out HD.out)
                  go_wp2_with fail
                  refine wp_region_ext (by kernel_rfl) (by kernel_rfl) ?_
                  repeat (go_big_quiet_step (fail))
                  refine wpQuiet_nil ?_
                  rintro _ ⟨x, rfl⟩
                  have bx3 := bx2.trans (x.below.mono bx2.size)
                  go_wp2_with fail
                  go_roundw
                  case rel => exact ⟨a + 1, kk + 1, by omega, by omega, by go_num, by go_num, HA.out, bx3⟩
                  case measure => simp [intOf]; omega
                · have HA := Lib.hid (at_skip hat HC.out HD.out hcd)
                  go_wp2_with fail
                  refine wp_region_ext (by kernel_rfl) (by kernel_rfl) ?_
                  repeat (go_big_quiet_step (fail))
                  refine quiet_neq_call' (c := c) (d := d) rfl rfl rfl rfl ?_
                  rw [decide_eq_false hcd]
                  simp only [Act.put, List.setIfInBounds_toArray, List.set_cons_zero, List.set_cons_succ, Bool.not_false]
                  repeat (go_big_quiet_step (fail))
                  refine wpQuiet_nil ?_
                  rintro _ ⟨x, rfl⟩
                  have bx3 := bx2.trans (x.below.mono bx2.size)
                  go_wp2_with fail
                  go_roundw
                  case rel => exact ⟨a + 1, by omega, by go_num, HA.out, bx3⟩
                  case measure => simp [intOf]; omega
            · have hkd : decide ((kk : Int) < (l.length : Int)) = false := decide_eq_false (by omega)
              have hkd' : decide (kk < l.length) = false := decide_eq_false (by omega)
              have hgl := good_filter hg.out p
              rw [← Hl.out] at hgl
              have hrt : ∀ w, RowIn w Ap l → Calls Try.prog 14 #[.slice Ap l.length capp] w fun e w' => e = .returned (.bool true) ∧ Below w.heap.size w w' := fun w hr => by
                have := hRight_any Ap capp l w hr (by omega)
                rwa [rightB_true hgl] at this
              have HR := Lib.hid hrt
              clear hrt hgl
              go_wp2_with fail
              refine (HR.out _ (rl.next bx)).mono ?_
              rintro e w9 ⟨rfl, hb9⟩
              have bx9 := bx.trans (hb9.mono bx.size)
              have hpt9 := hpt.next bx9
              have bw9 := bw7.trans (bx9.mono bw7.size)
              clear hb9
              go_wp2_with fail
              go_roundw
              case rel => exact ⟨n + 1, by omega, by go_num, hpt9, bw9⟩
              case measure => simp [intOf]; omega
        · have hnd : decide ((n : Int) < 3) = false := decide_eq_false (by omega)
          go_wp2_with fail
          go_ret
          exact ⟨rfl, bw7⟩
end Go.Proofs.Ytndelolfhdliaaa
