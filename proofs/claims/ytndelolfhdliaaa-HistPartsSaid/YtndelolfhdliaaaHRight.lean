/- The contract of hist.Right: it answers as the document's Right. -/
import Derived.Test.YtndelolfhdliaaaRight
import Derived.Test.YtndelolfhdliaaaSift
import Derived.Maps.OwnSet
namespace Go.Proofs.Ytndelolfhdliaaa
open Go.RowKit Go.Maps

/-- The last of the first n calls whose seat is x. -/
def lastIx (h : List Call) : Nat → Int → Option Nat
  | 0, _ => none
  | n + 1, x => if (h[n]?).any (fun c => c.who == x) then some n else lastIx h n x

theorem lastIx_some {h : List Call} {x : Int} {i : Nat} : ∀ {n : Nat}, lastIx h n x = some i → i < n ∧ (∃ c, h[i]? = some c ∧ c.who = x) ∧ ∀ j, i < j → j < n → ∀ d, h[j]? = some d → d.who ≠ x
  | 0, e => by simp [lastIx] at e
  | n + 1, e => by
    unfold lastIx at e
    split at e
    · rename_i hn
      cases e
      rcases hc : h[i]? with _ | c
      · rw [hc] at hn; simp at hn
      · rw [hc] at hn
        exact ⟨by omega, ⟨c, rfl, by simpa using hn⟩, fun j h1 h2 => by omega⟩
    · rename_i hn
      obtain ⟨h1, h2, h3⟩ := lastIx_some e
      refine ⟨by omega, h2, fun j hij hj d hd => ?_⟩
      by_cases hjn : j = n
      · subst hjn
        intro hx
        exact hn (by rw [hd]; simpa using hx)
      · exact h3 j hij (by omega) d hd

theorem lastIx_none {h : List Call} {x : Int} : ∀ {n : Nat}, lastIx h n x = none → ∀ j, j < n → ∀ d, h[j]? = some d → d.who ≠ x
  | 0, _ => fun j hj => by omega
  | n + 1, e => by
    unfold lastIx at e
    split at e
    · cases e
    · rename_i hn
      intro j hj d hd
      by_cases hjn : j = n
      · subst hjn
        intro hx
        exact hn (by rw [hd]; simpa using hx)
      · exact lastIx_none e j (by omega) d hd

theorem may_le {c : Call} (h : mayB c = true) : c.first ≤ c.last ∧ 0 ≤ c.who ∧ c.who ≤ 7 := by
  have := of_decide_eq_true h
  omega

theorem good_next {h : List Call} {c : Call} {n : Nat} (hg : Good h n) (hc : h[n]? = some c) (hm : mayB c = true)
    (hp : ∀ d, 0 < n → h[n - 1]? = some d → d.first < c.first) (hw : ∀ i d, lastIx h n c.who = some i → h[i]? = some d → d.last < c.first) : Good h (n + 1) := by
  have hn : n < h.length := (List.getElem?_eq_some_iff.1 hc).1
  refine good_succ hg hc hm fun k hk d hd => ?_
  obtain ⟨e, he⟩ := call_at (show n - 1 < h.length by omega)
  refine ⟨?_, fun hwho => ?_⟩
  · by_cases hkn : k = n - 1
    · subst hkn; exact hp d (by omega) hd
    · have h1 := ((hg (n - 1) (by omega) e he).2 k (by omega) d hd).1
      have h2 := hp e (by omega) he
      omega
  · rcases hl : lastIx h n c.who with _ | i
    · exact absurd hwho (lastIx_none hl k hk d hd)
    · obtain ⟨hi, ⟨f, hf, hfw⟩, hno⟩ := lastIx_some hl
      have h3 := hw i f hl hf
      by_cases hki : k = i
      · subst hki; rw [hf] at hd; cases hd; exact h3
      · have hlt : k < i := by
          rcases Nat.lt_or_ge k i with h' | h'
          · exact h'
          · exact absurd hwho (hno k (by omega) hk d hd)
        have h4 := ((hg i hi f hf).2 k hlt d hd).2 (by rw [hwho, hfw])
        have h5 := (may_le (hg i hi f hf).1).1
        omega

/-- What the map of the last places tells. -/
def Tracks (D : DataW Unit) (h : List Call) (n : Nat) : Prop :=
  IsMap D ∧ ∀ x : Int, Maps.has D (.int .i64 x) = (lastIx h n x).isSome ∧ ∀ i : Nat, lastIx h n x = some i → D.atKey (.int .i64 x) (.lit (.int .i64 0)) = .lit (.int .i64 (i : Int))

theorem tracks_zero (h : List Call) : Tracks (.map []) h 0 := ⟨isMap_empty, fun x => ⟨rfl, fun i hi => by simp [lastIx] at hi⟩⟩
theorem isKey_int (x : Int) : WideAt.IsKeyLit (.int .i64 x) := trivial
theorem tracks_put {D : DataW Unit} {h : List Call} {n : Nat} {c : Call} (ht : Tracks D h n) (hc : h[n]? = some c) : Tracks (D.put (.int .i64 c.who) (.lit (.int .i64 (n : Int)))) h (n + 1) := by
  refine ⟨ht.1.put _ _, fun x => ?_⟩
  by_cases hx : x = c.who
  · subst hx
    rw [has_put_same ht.1 (isKey_int _), atKey_put_same ht.1 (isKey_int _)]
    simp [lastIx, hc]
  · have hne : (Lit.int .i64 x) ≠ Lit.int .i64 c.who := by intro e; injection e with _ e; exact hx e
    have hne' : (c.who == x) = false := by simp; exact fun e => hx e.symm
    rw [has_put_other hne, atKey_put_other hne]
    have := ht.2 x
    simpa [lastIx, hc, hne'] using this

theorem law3 : Keyed Try.prog 3 := int_keyed Try.underlying3
theorem zero3 (w : World) : (zeroValue 3).run Try.prog w = .ok (.int .i64 0) w := by kernel_rfl

theorem ownsMap_below {w w' : World} {b n : Nat} {D : DataW Unit} (h : w.ownsMap Try.prog 3 (plainElem Try.prog 3) b n D) (hb : Below w.heap.size w w') : w'.ownsMap Try.prog 3 (plainElem Try.prog 3) b n D := by
  have hlt := h.lt
  obtain ⟨es, clock, hh, hr⟩ := h
  exact ⟨es, clock, (hb.block b hlt).trans hh, hr⟩

theorem wf_who {c : Call} (h : mayB c = true) : (Lit.int .i64 c.who).wf = true := WalkArith.wf_i64 (by have := may_le h; omega)

set_option maxRecDepth 100000 in
set_option maxHeartbeats 2000000 in
theorem hRight_any (A : Option Addr) (cap : Nat) (h : List Call) (w : World) (hr : CRow w w.heap.size A h) (hl : h.length ≤ 1000000) :
    Calls Try.prog 14 #[.slice A h.length cap] w fun e w' => e = .returned (.bool (rightB h)) ∧ Below w.heap.size w w' := by
  have hmm := @run_makeMap Try.prog
  go_enter Try.func14, Try.ntmps14
  go_wp2
  go_loopw [11] (fun i wr => ∃ (n : Nat) (D : DataW Unit), n ≤ h.length ∧ i = .int .i64 n ∧ wr.ownsMap Try.prog 3 (plainElem Try.prog 3) w.heap.size n D ∧ Tracks D h n ∧ Good h n ∧ Below w.heap.size w wr) (fun i _ => h.length - (intOf i).toNat)
  case atStart => exact ⟨0, .map [], by omega, rfl, World.ownsMap_made _ _ _ _, tracks_zero h, good_zero h, (Below.refl _ _).alloc (Nat.le_refl _) _⟩
  case round =>
    obtain ⟨n, D, hn, rfl, hown, htr, hg, hb⟩ := hrel
    by_cases hlt : n < h.length
    · obtain ⟨c, hc⟩ := call_at hlt
      obtain ⟨b, o, rfl, hbb, h0, h1, h2, h3, h4, h5, h6, h7, h8, h9⟩ := hr.below hb n c hc
      have HC := Lib.hid hc
      clear hc
      by_cases hm : mayB c = true
      · have HM := Lib.hid hm
        have hkey : keyOf Try.prog 3 (.int .i64 c.who) = some (.int .i64 c.who) := keyOf_int_mk Try.underlying3 (wf_who hm)
        have HK := Lib.hid hkey
        clear hkey
        by_cases hn0 : n ≤ 0
        · have hd0 : decide (0 < n) = false := decide_eq_false (by omega)
          go_wp2
          refine wp_region_ext (by kernel_rfl) (by kernel_rfl) ?_
          repeat (go_big_quiet_step ((go_at_call 24; exact Calls.ext_of (may_any c _))))
          refine wpQuiet_nil ?_
          rintro _ ⟨x, rfl⟩
          have hbx : Below wr.heap.size wr x.on := ((Below.refl _ _).alloc (Nat.le_refl _) _).trans (x.below.mono (by simp))
          have hbw : Below w.heap.size w x.on := hb.trans (hbx.mono hb.size)
          have hown1 := ownsMap_below hown hbx
          obtain ⟨d0, d1, d2, d3, d4, d5, d6, d7, d8, d9⟩ := cellsAt_zero (w := x.on) (b := wr.heap.size) (c := c) fun j u hu => (x.below.cell (p := ⟨wr.heap.size, j, none⟩) (by simp)).trans (new_cells wr c j u hu)
          have hix : lastIx h n c.who = none := by rw [show n = 0 by omega]; rfl
          have hno : Maps.has D (.int .i64 c.who) = false := by rw [(htr.2 c.who).1, hix]; rfl
          go_wp2_with (first
            | (at_lookup; refine wpList_lookup_own_ok_int _ rfl _ _ 52 rfl 3 3 .i64 law3 Try.underlying52 Try.underlying3 (zero3 _) w.heap.size n D rfl hown1 _ _ rfl HK.out ?_; intro y hat hwc))
          have hwx : wr.heap.size < x.on.heap.size := by have := x.below.size; simp at this; omega
          refine wp_region_ext (by kernel_rfl) (by kernel_rfl) ?_
          repeat (go_big_quiet_step (fail))
          refine wpQuiet_nil ?_
          rintro _ ⟨z, rfl⟩
          have hbz : Below w.heap.size w z.on := hbw.trans (z.below.mono hbw.size)
          have hown2 := ownsMap_below hown1 z.below
          obtain ⟨e0, e1, e2, e3, e4, e5, e6, e7, e8, e9⟩ := cellsAt_zero (w := z.on) (b := wr.heap.size) (c := c) fun j u hu => (z.below.cell (p := ⟨wr.heap.size, j, none⟩) hwx).trans ((x.below.cell (p := ⟨wr.heap.size, j, none⟩) (by simp)).trans (new_cells wr c j u hu))
          go_wp2_with (first
            | (at_mapUpdate; refine wpList_mapUpdate_own _ rfl _ _ _ 52 rfl 3 3 law3 Try.underlying52 _ w.heap.size n D rfl hown2 (by unfold maxLen; omega) _ _ _ rfl rfl HK.out _ [] (plainElem_int Try.underlying3 (WalkArith.wf_i64 (by omega))) ?_; intro w1 hown3 hgrow3))
          go_roundw
          case rel => exact ⟨n + 1, _, by omega, by go_num, hown3, tracks_put htr HC.out, good_next hg HC.out HM.out (fun d hp hd => by omega) (fun i d hi hd => by rw [hix] at hi; cases hi), hbz.grown hgrow3 hbz.size (fun j hj => by cases hj; exact Nat.le_refl _)⟩
          case measure => simp [intOf]; omega
        · obtain ⟨g, hgg⟩ := call_at (show n - 1 < h.length by omega)
          obtain ⟨_, _, hA, _, g0, g1, g2, g3, g4, g5, g6, g7, g8, g9⟩ := hr.below hb (n - 1) g hgg
          cases hA
          have HG := Lib.hid hgg
          clear hgg
          have hbr : b < wr.heap.size := Nat.lt_of_lt_of_le hbb hb.size
          have hbr1 : b < wr.heap.size + 1 := by omega
          have hbne : b ≠ wr.heap.size := by omega
          have hd0 : decide (0 < n) = true := decide_eq_true (by omega)
          have hn1 : (0 : Int) ≤ (n : Int) - 1 := by omega
          have hn2 : ((n : Int) - 1).toNat = n - 1 := by omega
          have hn3 : ((n : Int) - 1) < (h.length : Int) := by omega
          by_cases hfl : c.first ≤ g.first
          · have hfd : decide (c.first ≤ g.first) = true := decide_eq_true hfl
            go_wp2
            refine wp_region_ext (by kernel_rfl) (by kernel_rfl) ?_
            repeat (go_big_quiet_step ((go_at_call 24; exact Calls.ext_of (may_any c _))))
            refine wpQuiet_nil ?_
            rintro _ ⟨x, rfl⟩
            have hbx : Below wr.heap.size wr x.on := ((Below.refl _ _).alloc (Nat.le_refl _) _).trans (x.below.mono (by simp))
            have hbw : Below w.heap.size w x.on := hb.trans (hbx.mono hb.size)
            go_wp2
            go_ret
            exact ⟨ret_bool (rightB_false (not_good_pair HC.out HG.out (by omega) fun ho => by have := ho.1; omega)).symm, hbw⟩
          · have hfd : decide (c.first ≤ g.first) = false := decide_eq_false hfl
            go_wp2
            refine wp_region_ext (by kernel_rfl) (by kernel_rfl) ?_
            repeat (go_big_quiet_step ((go_at_call 24; exact Calls.ext_of (may_any c _))))
            refine wpQuiet_nil ?_
            rintro _ ⟨x, rfl⟩
            have hbx : Below wr.heap.size wr x.on := ((Below.refl _ _).alloc (Nat.le_refl _) _).trans (x.below.mono (by simp))
            have hbw : Below w.heap.size w x.on := hb.trans (hbx.mono hb.size)
            have hown1 := ownsMap_below hown hbx
            obtain ⟨d0, d1, d2, d3, d4, d5, d6, d7, d8, d9⟩ := cellsAt_zero (w := x.on) (b := wr.heap.size) (c := c) fun j u hu => (x.below.cell (p := ⟨wr.heap.size, j, none⟩) (by simp)).trans (new_cells wr c j u hu)
            clear hn2 hd0 hfd
            rcases hix : lastIx h n c.who with _ | ix
            · have hno : Maps.has D (.int .i64 c.who) = false := by rw [(htr.2 c.who).1, hix]; rfl
              go_wp2_with (first
                | (at_lookup; refine wpList_lookup_own_ok_int _ rfl _ _ 52 rfl 3 3 .i64 law3 Try.underlying52 Try.underlying3 (zero3 _) w.heap.size n D rfl hown1 _ _ rfl HK.out ?_; intro y hat hwc))
              have hwx : wr.heap.size < x.on.heap.size := by have := x.below.size; simp at this; omega
              refine wp_region_ext (by kernel_rfl) (by kernel_rfl) ?_
              repeat (go_big_quiet_step (fail))
              refine wpQuiet_nil ?_
              rintro _ ⟨z, rfl⟩
              have hbz : Below w.heap.size w z.on := hbw.trans (z.below.mono hbw.size)
              have hown2 := ownsMap_below hown1 z.below
              obtain ⟨e0, e1, e2, e3, e4, e5, e6, e7, e8, e9⟩ := cellsAt_zero (w := z.on) (b := wr.heap.size) (c := c) fun j u hu => (z.below.cell (p := ⟨wr.heap.size, j, none⟩) hwx).trans ((x.below.cell (p := ⟨wr.heap.size, j, none⟩) (by simp)).trans (new_cells wr c j u hu))
              go_wp2_with (first
                | (at_mapUpdate; refine wpList_mapUpdate_own _ rfl _ _ _ 52 rfl 3 3 law3 Try.underlying52 _ w.heap.size n D rfl hown2 (by unfold maxLen; omega) _ _ _ rfl rfl HK.out _ [] (plainElem_int Try.underlying3 (WalkArith.wf_i64 (by omega))) ?_; intro w1 hown3 hgrow3))
              go_roundw
              case rel => exact ⟨n + 1, _, by omega, by go_num, hown3, tracks_put htr HC.out, good_next hg HC.out HM.out (fun d hp hd => by rw [HG.out] at hd; cases hd; omega) (fun i d hi hd => by rw [hix] at hi; cases hi), hbz.grown hgrow3 hbz.size (fun j hj => by cases hj; exact Nat.le_refl _)⟩
              case measure => simp [intOf]; omega
            · obtain ⟨hix1, ⟨f, hf, hfw⟩, _⟩ := lastIx_some hix
              have hyes : Maps.has D (.int .i64 c.who) = true := by rw [(htr.2 c.who).1, hix]; rfl
              obtain ⟨_, _, hA, _, f0, f1, f2, f3, f4, f5, f6, f7, f8, f9⟩ := hr.below hbw ix f hf
              cases hA
              have hbx2 : b < x.on.heap.size := Nat.lt_of_lt_of_le hbb hbw.size
              have HF := Lib.hid hf
              have HFW := Lib.hid hfw
              clear hf hfw
              have hwx : wr.heap.size < x.on.heap.size := by have := x.below.size; simp at this; omega
              have hixl : ix < h.length := by omega
              have hatx := (htr.2 c.who).2 ix hix
              have HX := Lib.hid hix
              clear hix
              go_wp2_with (first
                | (at_lookup; refine wpList_lookup_own_ok_int _ rfl _ _ 52 rfl 3 3 .i64 law3 Try.underlying52 Try.underlying3 (zero3 _) w.heap.size n D rfl hown1 _ _ rfl HK.out ?_; intro y hat hwc; obtain rfl : y = (ix : Int) := (by have e := hat.symm.trans hatx; injection e with e; injection e)))
              clear hat hatx
              by_cases hah : aheadB f c = true
              · have HA := Lib.hid hah
                refine wp_region_ext (by kernel_rfl) (by kernel_rfl) ?_
                repeat (go_big_quiet_step ((go_at_call 10; exact Calls.ext_of (ahead_any f c _))))
                refine wpQuiet_nil ?_
                rintro _ ⟨z, rfl⟩
                have hbz : Below w.heap.size w z.on := hbw.trans (z.below.mono hbw.size)
                have hown2 := ownsMap_below hown1 z.below
                obtain ⟨e0, e1, e2, e3, e4, e5, e6, e7, e8, e9⟩ := cellsAt_zero (w := z.on) (b := wr.heap.size) (c := c) fun j u hu => (z.below.cell (p := ⟨wr.heap.size, j, none⟩) hwx).trans ((x.below.cell (p := ⟨wr.heap.size, j, none⟩) (by simp)).trans (new_cells wr c j u hu))
                go_wp2_with (first
                  | (at_mapUpdate; refine wpList_mapUpdate_own _ rfl _ _ _ 52 rfl 3 3 law3 Try.underlying52 _ w.heap.size n D rfl hown2 (by unfold maxLen; omega) _ _ _ rfl rfl HK.out _ [] (plainElem_int Try.underlying3 (WalkArith.wf_i64 (by omega))) ?_; intro w1 hown3 hgrow3))
                go_roundw
                case rel => exact ⟨n + 1, _, by omega, by go_num, hown3, tracks_put htr HC.out, good_next hg HC.out HM.out (fun d hp hd => by rw [HG.out] at hd; cases hd; omega) (fun i d hi hd => by rw [HX.out] at hi; cases hi; rw [HF.out] at hd; cases hd; exact of_decide_eq_true HA.out), hbz.grown hgrow3 hbz.size (fun j hj => by cases hj; exact Nat.le_refl _)⟩
                case measure => simp [intOf]; omega
              · have hah' : aheadB f c = false := by simpa using hah
                have HA := Lib.hid hah'
                refine wp_region_ext (by kernel_rfl) (by kernel_rfl) ?_
                repeat (go_big_quiet_step ((go_at_call 10; exact Calls.ext_of (ahead_any f c _))))
                refine wpQuiet_nil ?_
                rintro _ ⟨z, rfl⟩
                have hbz : Below w.heap.size w z.on := hbw.trans (z.below.mono hbw.size)
                go_wp2
                go_ret
                exact ⟨ret_bool (rightB_false (not_good_pair HC.out HF.out hix1 fun ho => of_decide_eq_false HA.out (ho.2 HFW.out))).symm, hbz⟩
      · have hm' : mayB c = false := by simpa using hm
        have HM := Lib.hid hm'
        go_wp2
        refine wp_region_ext (by kernel_rfl) (by kernel_rfl) ?_
        repeat (go_big_quiet_step ((go_at_call 24; exact Calls.ext_of (may_any c _))))
        refine wpQuiet_nil ?_
        rintro _ ⟨x, rfl⟩
        go_wp2
        go_ret
        exact ⟨ret_bool (rightB_false (not_good_may HC.out HM.out)).symm, (hb.alloc hb.size _).trans (x.below.mono (by have := hb.size; simp; omega))⟩
    · have hnn : n = h.length := by omega
      go_wp2
      go_ret
      exact ⟨ret_bool (rightB_true (hnn ▸ hg)).symm, hb⟩
end Go.Proofs.Ytndelolfhdliaaa
