/- The contracts of Ints, Bools, Same, few, New, Commute, takes. -/
import Derived.Test.YtknancnmdpdefaaDo
namespace Go.Proofs.Ytknancnmdpdefaa
open Go.RowKit

set_option maxRecDepth 100000 in
set_option maxHeartbeats 1000000 in
theorem ints_any (A B : Option Addr) (cap cap' : Nat) (l m : List Int) (w : World) (hr : RowIn ints w A l) (hs : RowIn ints w B m) (hl : l.length ≤ 1000000) :
    Calls Try.prog 20 #[.slice A l.length cap, .slice B m.length cap'] w fun e w' => e = .returned (.bool (decide (l = m))) ∧ Below w.heap.size w w' := by
  by_cases hlen : l.length = m.length
  · have hll : ((l.length : Int) != (m.length : Int)) = false := by simp [hlen]
    have hll' : (l.length != m.length) = false := by simp [hlen]
    have HL := Lib.hid hlen
    clear hlen
    go_enter Try.func20, Try.ntmps20
    go_wp2
    go_loopw [5] (fun i wr => ∃ n : Nat, n ≤ l.length ∧ i = .int .i64 n ∧ l.take n = m.take n ∧ Below w.heap.size w wr) (fun i _ => l.length - (intOf i).toNat)
    case atStart => exact ⟨0, by omega, rfl, rfl, Below.refl _ _⟩
    case round =>
      obtain ⟨n, hn, rfl, ht, hb⟩ := hrel
      have HT := Lib.hid ht
      clear ht
      by_cases hlt : n < l.length
      · obtain ⟨c, hc⟩ := some_at hlt
        have hng : n < m.length := by have := HL.out; omega
        obtain ⟨d, hd⟩ := some_at hng
        obtain ⟨b, o, rfl, hbb, c1⟩ := ints_at (hr.next hb) hc
        obtain ⟨b', o', rfl, hbb', c2⟩ := ints_at (hs.next hb) hd
        have HC := Lib.hid hc
        have HD := Lib.hid hd
        clear hc hd
        by_cases hcd : c = d
        · have hcn : (c != d) = false := by simp [hcd]
          have HX := Lib.hid hcd
          clear hcd
          go_wp2
          refine wp_region_ext (by kernel_rfl) (by kernel_rfl) ?_
          repeat (go_big_quiet_step (fail))
          refine wpQuiet_nil ?_
          rintro _ ⟨x, rfl⟩
          have hbx := hb.trans (x.below.mono hb.size)
          go_wp2
          go_roundw
          case rel => exact ⟨n + 1, by omega, by go_num, by rw [List.take_add_one, List.take_add_one, HT.out, HC.out, HD.out, HX.out], hbx⟩
          case measure => simp [intOf]; omega
        · have hcn : (c != d) = true := by simpa using hcd
          go_wp2
          refine wp_region_ext (by kernel_rfl) (by kernel_rfl) ?_
          repeat (go_big_quiet_step (fail))
          refine wpQuiet_nil ?_
          rintro _ ⟨x, rfl⟩
          have hbx := hb.trans (x.below.mono hb.size)
          go_wp2
          go_ret
          refine ⟨ret_bool (decide_eq_false ?_).symm, hbx⟩
          intro e
          have h1 := HC.out
          rw [e, HD.out] at h1
          injection h1 with h1
          exact hcd h1.symm
      · have hnn : n = l.length := by omega
        go_wp2
        go_ret
        refine ⟨ret_bool (decide_eq_true ?_).symm, hb⟩
        have := HT.out
        rw [hnn, List.take_length, HL.out, List.take_length] at this
        exact this
  · have hll : ((l.length : Int) != (m.length : Int)) = true := by simp; omega
    have hll' : (l.length != m.length) = true := by simp; omega
    go_enter Try.func20, Try.ntmps20
    go_wp2
    go_ret
    exact ⟨ret_bool (by symm; apply decide_eq_false; intro e; exact hlen (by rw [e])), Below.refl _ _⟩

set_option maxRecDepth 100000 in
set_option maxHeartbeats 1000000 in
theorem bools_any (A B : Option Addr) (cap cap' : Nat) (l m : List Bool) (w : World) (hr : RowIn bools w A l) (hs : RowIn bools w B m) (hl : l.length ≤ 1000000) :
    Calls Try.prog 30 #[.slice A l.length cap, .slice B m.length cap'] w fun e w' => e = .returned (.bool (decide (l = m))) ∧ Below w.heap.size w w' := by
  by_cases hlen : l.length = m.length
  · have hll : ((l.length : Int) != (m.length : Int)) = false := by simp [hlen]
    have hll' : (l.length != m.length) = false := by simp [hlen]
    have HL := Lib.hid hlen
    clear hlen
    go_enter Try.func30, Try.ntmps30
    go_wp2
    go_loopw [5] (fun i wr => ∃ n : Nat, n ≤ l.length ∧ i = .int .i64 n ∧ l.take n = m.take n ∧ Below w.heap.size w wr) (fun i _ => l.length - (intOf i).toNat)
    case atStart => exact ⟨0, by omega, rfl, rfl, Below.refl _ _⟩
    case round =>
      obtain ⟨n, hn, rfl, ht, hb⟩ := hrel
      have HT := Lib.hid ht
      clear ht
      by_cases hlt : n < l.length
      · obtain ⟨c, hc⟩ := some_at hlt
        have hng : n < m.length := by have := HL.out; omega
        obtain ⟨d, hd⟩ := some_at hng
        obtain ⟨b, o, rfl, hbb, c1⟩ := bools_at (hr.next hb) hc
        obtain ⟨b', o', rfl, hbb', c2⟩ := bools_at (hs.next hb) hd
        have HC := Lib.hid hc
        have HD := Lib.hid hd
        clear hc hd
        by_cases hcd : c = d
        · have hcc : (c != c) = false := by simp
          subst hcd
          go_wp2
          refine wp_region_ext (by kernel_rfl) (by kernel_rfl) ?_
          repeat (go_big_quiet_step (fail))
          refine wpQuiet_nil ?_
          rintro _ ⟨x, rfl⟩
          have hbx := hb.trans (x.below.mono hb.size)
          go_wp2
          go_roundw
          case rel => exact ⟨n + 1, by omega, by go_num, by rw [List.take_add_one, List.take_add_one, HT.out, HC.out, HD.out], hbx⟩
          case measure => simp [intOf]; omega
        · have hdc : d = !c := by cases c <;> cases d <;> simp_all
          subst hdc
          have hcc : (c != !c) = true := by cases c <;> rfl
          go_wp2
          refine wp_region_ext (by kernel_rfl) (by kernel_rfl) ?_
          repeat (go_big_quiet_step (fail))
          refine wpQuiet_nil ?_
          rintro _ ⟨x, rfl⟩
          have hbx := hb.trans (x.below.mono hb.size)
          go_wp2
          go_ret
          refine ⟨ret_bool (decide_eq_false ?_).symm, hbx⟩
          intro e
          have h1 := HC.out
          rw [e, HD.out] at h1
          injection h1 with h1
          exact hcd h1.symm
      · have hnn : n = l.length := by omega
        go_wp2
        go_ret
        refine ⟨ret_bool (decide_eq_true ?_).symm, hb⟩
        have := HT.out
        rw [hnn, List.take_length, HL.out, List.take_length] at this
        exact this
  · have hll : ((l.length : Int) != (m.length : Int)) = true := by simp; omega
    have hll' : (l.length != m.length) = true := by simp; omega
    go_enter Try.func30, Try.ntmps30
    go_wp2
    go_ret
    exact ⟨ret_bool (by symm; apply decide_eq_false; intro e; exact hlen (by rw [e])), Below.refl _ _⟩

theorem cont_eq {a b : Cont} : a = b ↔ a.keys = b.keys ∧ a.vals = b.vals ∧ a.kind = b.kind := by
  cases a; cases b; simp; constructor
  · rintro ⟨rfl, rfl, rfl⟩; simp
  · rintro ⟨rfl, rfl, rfl⟩; simp

set_option maxRecDepth 100000 in
set_option maxHeartbeats 1000000 in
theorem same_any (a b : Cont) (Ak Av Bk Bv : Option Addr) (q1 q2 q3 q4 : Nat) (w : World) (ha : CIn w a Ak q1 Av q2) (hb : CIn w b Bk q3 Bv q4) (hl : a.keys.length ≤ 1000000) (hl2 : a.vals.length ≤ 1000000) :
    Calls Try.prog 17 #[.agg (contV a Ak q1 Av q2).toArray, .agg (contV b Bk q3 Bv q4).toArray] w fun e w' => e = .returned (.bool (decide (a = b))) ∧ Below w.heap.size w w' := by
  have hb0 : Below w.heap.size w ((w.alloc (.cells (contV a Ak q1 Av q2).toArray 24)).alloc (.cells (contV b Bk q3 Bv q4).toArray 24)) := ((Below.refl _ _).alloc (Nat.le_refl _) _).alloc (by simp) _
  have hblk1 : ((w.alloc (.cells (contV a Ak q1 Av q2).toArray 24)).alloc (.cells (contV b Bk q3 Bv q4).toArray 24)).heap[w.heap.size]? = some (.cells (contV a Ak q1 Av q2).toArray 24 (0, 0)) := by
    rw [Below.heap_alloc _ _ _ (by simp)]; exact heap_alloc_new w _
  have hblk2 : ((w.alloc (.cells (contV a Ak q1 Av q2).toArray 24)).alloc (.cells (contV b Bk q3 Bv q4).toArray 24)).heap[w.heap.size + 1]? = some (.cells (contV b Bk q3 Bv q4).toArray 24 (0, 0)) := by
    have := heap_alloc_new (w.alloc (.cells (contV a Ak q1 Av q2).toArray 24)) (.cells (contV b Bk q3 Bv q4).toArray 24)
    simpa using this
  have hsz : ((w.alloc (.cells (contV a Ak q1 Av q2).toArray 24)).alloc (.cells (contV b Bk q3 Bv q4).toArray 24)).heap.size = w.heap.size + 1 + 1 := by simp
  have HS := Lib.hid hsz
  clear hsz
  unfold contV
  go_enter Try.func17, Try.ntmps17
  go_wp2_with fail
  change Calls _ _ _ ((w.alloc (.cells (contV a Ak q1 Av q2).toArray 24)).alloc (.cells (contV b Bk q3 Bv q4).toArray 24)) _
  generalize (w.alloc (.cells (contV a Ak q1 Av q2).toArray 24)).alloc (.cells (contV b Bk q3 Bv q4).toArray 24) = W at *
  have haW := ha.next hb0
  have hbW := hb.next hb0
  refine (ints_any Ak Bk q1 q3 a.keys b.keys W haW.k hbW.k hl).mono ?_
  rintro e w1 ⟨rfl, hb1⟩
  have k1 := blk_below hblk1 hb1
  have k2 := blk_below hblk2 hb1
  have c0 : w1.cell? ⟨w.heap.size, 0, none⟩ = some (.int .i64 a.kind) := blk_cell k1 0
  have c2 : w1.cell? ⟨w.heap.size, 2, none⟩ = some (.slice Av a.vals.length q2) := blk_cell k1 2
  have d0 : w1.cell? ⟨w.heap.size + 1, 0, none⟩ = some (.int .i64 b.kind) := blk_cell k2 0
  have d2 : w1.cell? ⟨w.heap.size + 1, 2, none⟩ = some (.slice Bv b.vals.length q4) := blk_cell k2 2
  have hlt1 : w.heap.size + 1 < w1.heap.size := by have := hb1.size; have := HS.out; omega
  have hlt0 : w.heap.size < w1.heap.size := by omega
  have hw1 := hb0.trans (hb1.mono hb0.size)
  go_wp2_with fail
  refine (ints_any Av Bv q2 q4 a.vals b.vals w1 (haW.next hb1).v (hbW.next hb1).v hl2).mono ?_
  rintro e w2 ⟨rfl, hb2⟩
  obtain ⟨y, rfl⟩ := ext_of_below hb2
  have hw2 := hw1.trans (y.below.mono hw1.size)
  clear hblk1 hblk2 k1 k2 hb1 hb2 c2 d2
  have HE := Lib.hid (cont_eq (a := a) (b := b))
  by_cases h1 : a.keys = b.keys
  · have h1d : decide (a.keys = b.keys) = true := decide_eq_true h1
    have H1 := Lib.hid h1
    clear h1
    by_cases h2 : a.vals = b.vals
    · have h2d : decide (a.vals = b.vals) = true := decide_eq_true h2
      have H2 := Lib.hid h2
      clear h2
      go_wp2_with fail
      go_ret
      refine ⟨ret_bool ?_, hw2⟩
      rw [Bool.eq_iff_iff]
      simp only [beq_iff_eq, decide_eq_true_eq, HE.out]
      exact ⟨fun e => ⟨H1.out, H2.out, e⟩, fun e => e.2.2⟩
    · have h2d : decide (a.vals = b.vals) = false := decide_eq_false h2
      go_wp2_with fail
      go_ret
      exact ⟨ret_bool (decide_eq_false fun e => h2 (HE.out.1 e).2.1).symm, hw2⟩
  · have h1d : decide (a.keys = b.keys) = false := decide_eq_false h1
    go_wp2_with fail
    go_ret
    exact ⟨ret_bool (decide_eq_false fun e => h1 (HE.out.1 e).1).symm, hw2⟩

def fewB (c : Cont) : Bool := decide (c.keys.length ≤ 100 ∧ c.vals.length ≤ 100)
set_option maxHeartbeats 400000 in
theorem few_any (c : Cont) (Ak Av : Option Addr) (q1 q2 : Nat) (w : World) (hl : c.keys.length ≤ maxLen) (hl2 : c.vals.length ≤ maxLen) :
    Calls Try.prog 14 #[.agg (contV c Ak q1 Av q2).toArray] w fun e w' => e = .returned (.bool (fewB c)) ∧ Below w.heap.size w w' := by
  unfold maxLen at hl hl2
  unfold contV
  by_cases h1 : c.keys.length ≤ 100
  · have h1d : decide ((c.keys.length : Int) ≤ 100) = true := decide_eq_true (by omega)
    go_enter Try.func14, Try.ntmps14
    go_wp2
    go_ret
    refine ⟨ret_bool ?_, (Below.refl _ _).alloc (Nat.le_refl _) _⟩
    unfold fewB
    exact decide_eq_decide.2 (by omega)
  · have h1d : decide ((c.keys.length : Int) ≤ 100) = false := decide_eq_false (by omega)
    go_enter Try.func14, Try.ntmps14
    go_wp2
    go_ret
    refine ⟨ret_bool ?_, (Below.refl _ _).alloc (Nat.le_refl _) _⟩
    unfold fewB
    exact (decide_eq_false (by omega)).symm

set_option maxHeartbeats 400000 in
theorem new_any (k : Int) (w : World) : Calls Try.prog 21 #[.int .i64 k] w fun e w' => e = .returned (.agg #[.int .i64 k, .slice none 0 0, .slice none 0 0]) ∧ Below w.heap.size w w' := by
  go_enter Try.func21, Try.ntmps21
  go_wp2
  exact bodyPost_ret (v := .agg #[.int .i64 k, .slice none 0 0, .slice none 0 0]) (by simp [results, Try.results21, go_sem]) rfl ⟨rfl, (Below.refl _ _).alloc (Nat.le_refl _) _⟩

theorem cin_new (k : Int) (w : World) : CIn w ⟨k, [], []⟩ none 0 none 0 := ⟨RowIn.nil, by simp, by unfold maxLen; omega, fun _ => rfl, RowIn.nil, by simp, by unfold maxLen; omega, fun _ => rfl⟩
end Go.Proofs.Ytknancnmdpdefaa
