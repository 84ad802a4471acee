/- The walk of SpecKeys. -/
import Derived.Test.YtknancnmdpdefaaLRight
import Derived.Test.YtknancnmdpdefaaKMath
namespace Go.Proofs.Ytknancnmdpdefaa
open Go.RowKit

theorem kscan_take {key : Int} {l : List OpT} {n : Nat} {o : OpT} (ho : l[n]? = some o) : kscan key (l.take (n + 1)) = kstep key (kscan key (l.take n)) o := by
  unfold kscan
  rw [List.take_add_one, ho, Option.toList_some, List.foldl_append]; rfl
theorem grow0 (l : List OpT) : (doAll ⟨1, [], []⟩ l).1.keys.length ≤ l.length ∧ (doAll ⟨1, [], []⟩ l).1.vals.length ≤ l.length := by
  have := doAll_grow ⟨1, [], []⟩ l
  simpa using this

set_option maxRecDepth 100000 in
set_option maxHeartbeats 4000000 in
theorem specKeys_walk (l : List OpT) (key : Int) (A : Option Addr) (cap : Nat) (w : World) (hr : RowIn opsT w A l) (hlm : l.length ≤ maxLen) :
    Calls Try.prog 5 #[.slice A l.length cap, .int .i64 key] w (fun e w' => e = .returned (.bool true) ∧ Below w.heap.size w w') := by
  unfold maxLen at hlm
  have HR := Lib.hid hr
  clear hr
  go_enter Try.func5, Try.ntmps5
  go_wp2_with fail
  refine (awake_any w).mono ?_
  rintro e W1 ⟨rfl, hb1⟩
  have HB1 := Lib.hid hb1
  clear hb1
  by_cases hl : l.length ≤ 40
  · have hd : decide ((40 : Int) < (l.length : Int)) = false := decide_eq_false (by omega)
    go_wp2_with fail
    go_loopw [6, 7, 8] (fun a b i wr => ∃ n : Nat, n ≤ l.length ∧ i = .int .i64 n ∧ a = .bool (kscan key (l.take n)).1 ∧ b = .int .i64 (kscan key (l.take n)).2 ∧ Below w.heap.size w wr) (fun _ _ i _ => l.length - (intOf i).toNat)
    case atStart => exact ⟨0, by omega, rfl, rfl, rfl, HB1.out⟩
    case round =>
      obtain ⟨n, hn, rfl, rfl, rfl, hb⟩ := hrel
      by_cases hlt : n < l.length
      · obtain ⟨o, ho⟩ := some_at hlt
        obtain ⟨b, of, rfl, hbb, o0, o1, o2, o3⟩ := ops_at (HR.out.next hb) ho
        have hmd : decide ((n : Int) < (l.length : Int)) = true := decide_eq_true (by omega)
        have HT : Hid (kscan key (l.take (n + 1)) = kstep key (kscan key (l.take n)) o) := Lib.hid (kscan_take ho)
        clear ho
        generalize kscan key (l.take n) = S at *
        obtain ⟨S1, S2⟩ := S
        by_cases hk : o.a = key
        · by_cases h3 : o.kind = 3
          · go_wp2
            go_roundw
            case rel => exact ⟨n + 1, hlt, by go_num, by rw [HT.out]; simp [kstep, hk, h3], by rw [HT.out]; simp [kstep, hk, h3], hb⟩
            case measure => simp [intOf]; omega
          · by_cases h2 : o.kind = 2
            · rcases S1 with _ | _
              · go_wp2
                go_roundw
                case rel => exact ⟨n + 1, hlt, by go_num, by rw [HT.out]; simp [kstep, hk, h2], by rw [HT.out]; simp [kstep, hk, h2], hb⟩
                case measure => simp [intOf]; omega
              · go_wp2
                go_roundw
                case rel => exact ⟨n + 1, hlt, by go_num, by rw [HT.out]; simp [kstep, hk, h2], by rw [HT.out]; simp [kstep, hk, h2], hb⟩
                case measure => simp [intOf]; omega
            · go_wp2
              go_roundw
              case rel => exact ⟨n + 1, hlt, by go_num, by rw [HT.out]; simp [kstep, hk, h2, h3], by rw [HT.out]; simp [kstep, hk, h2, h3], hb⟩
              case measure => simp [intOf]; omega
        · go_wp2
          go_roundw
          case rel => exact ⟨n + 1, hlt, by go_num, by rw [HT.out]; simp [kstep, hk], by rw [HT.out]; simp [kstep, hk], hb⟩
          case measure => simp [intOf]; omega
      · have hmd : decide ((n : Int) < (l.length : Int)) = false := decide_eq_false (by omega)
        have hnl : n = l.length := by omega
        subst hnl
        have e1 : l.take l.length = l := List.take_length
        rw [e1]
        clear e1
        obtain ⟨hk1, hk2⟩ := keys_law l key
        have HG := Lib.hid (grow0 l)
        have HK1 := Lib.hid hk1
        have HK2 := Lib.hid hk2
        have HK3 := Lib.hid (doAll_right (c := ⟨1, [], []⟩) rfl l).2
        clear hk1 hk2
        have HB := Lib.hid hb
        clear hb
        generalize kscan key l = S at *
        obtain ⟨S1, S2⟩ := S
        go_wp2_with fail
        refine (new_any 1 _).mono ?_
        rintro e W2 ⟨rfl, hb2⟩
        have HB2 := Lib.hid (HB.out.trans (hb2.mono HB.out.size))
        clear hb2
        go_wp2_with fail
        refine (all_at (c := ⟨1, [], []⟩) (l := l) _ rfl (cin_new 1 _) (HR.out.next HB2.out) (by omega) (by simp) (by simp) rfl rfl rfl).mono ?_
        generalize doAll ⟨1, [], []⟩ l = D at *
        obtain ⟨C, L1, L2⟩ := D
        rintro e W3 ⟨Gk, r1, Gv, r2, v14, v15, rfl, hc3, _, _, hb3⟩
        have HC3 : Hid (CIn W3 C Gk r1 Gv r2) := Lib.hid hc3
        have HB3 := Lib.hid (HB2.out.trans (hb3.mono HB2.out.size))
        have HG' : Hid (C.keys.length ≤ l.length ∧ C.vals.length ≤ l.length) := Lib.hid HG.out
        have HK1' : Hid (rightB C = true) := Lib.hid HK1.out
        have HK2' : Hid (does C ⟨1, 0, key, 0⟩ = (C, S2, S1)) := Lib.hid HK2.out
        clear hc3 hb3 HG HK1 HK2 HB2 HB HB1
        simp only
        go_upto_region 17 with (fail)
        refine wp_gen (fun W => Below w.heap.size w W ∧ W.heap[W3.heap.size]? = some (.cells #[.int .i64 C.kind, .slice Gk C.keys.length r1, .slice Gv C.vals.length r2] 24 (0, 0)) ∧ CIn W C Gk r1 Gv r2)
          ⟨HB3.out.alloc HB3.out.size _, heap_alloc_new W3 _, HC3.out.next ((Below.refl _ _).alloc (Nat.le_refl _) _)⟩ ?_
        rintro W4 ⟨b4, k4, c4⟩
        have F4 := Lib.hid (And.intro b4 (And.intro k4 c4))
        have hl4 := blk_lt k4
        have x0 : W4.cell? ⟨W3.heap.size, 0, none⟩ = _ := blk_cell (cs := [_, _, _]) k4 0
        have x1 : W4.cell? ⟨W3.heap.size, 1, none⟩ = _ := blk_cell (cs := [_, _, _]) k4 1
        have x2 : W4.cell? ⟨W3.heap.size, 2, none⟩ = _ := blk_cell (cs := [_, _, _]) k4 2
        clear HC3 HB3 b4 k4 c4
        go_wp2_with fail
        refine (do_at (c := C) (o := ⟨1, 0, key, 0⟩) _ HK2'.out F4.out.2.2 (by have := HG'.out; omega) (by have := HG'.out; omega) rfl rfl).mono ?_
        rintro e W5 ⟨Ck, p1, Cv, p2, rfl, hc5, _, _, hb5⟩
        have F5 := Lib.hid (And.intro (F4.out.1.trans (hb5.mono F4.out.1.size)) (And.intro (blk_next F4.out.2.1 hb5) (F4.out.2.2.next hb5)))
        clear F4 hb5 hc5 x0 x1 x2 hl4
        simp only
        go_upto_region 18 with (fail)
        refine wp_gen (fun W => Below w.heap.size w W ∧ W.heap[W3.heap.size]? = some (.cells #[.int .i64 C.kind, .slice Gk C.keys.length r1, .slice Gv C.vals.length r2] 24 (0, 0)) ∧ CIn W C Gk r1 Gv r2)
          ⟨F5.out.1.alloc F5.out.1.size _, blk_alloc F5.out.2.1, F5.out.2.2.next ((Below.refl _ _).alloc (Nat.le_refl _) _)⟩ ?_
        rintro W6 ⟨b6, k6, c6⟩
        have F6 := Lib.hid (And.intro b6 (And.intro k6 c6))
        have hl6 := blk_lt k6
        have x0 : W6.cell? ⟨W3.heap.size, 0, none⟩ = _ := blk_cell (cs := [_, _, _]) k6 0
        have x1 : W6.cell? ⟨W3.heap.size, 1, none⟩ = _ := blk_cell (cs := [_, _, _]) k6 1
        have x2 : W6.cell? ⟨W3.heap.size, 2, none⟩ = _ := blk_cell (cs := [_, _, _]) k6 2
        clear F5 b6 k6 c6
        go_wp2_with fail
        refine (right_any C Gk Gv r1 r2 _ F6.out.2.2.k (by have := HG'.out; unfold maxLen; omega) (by have := HG'.out; unfold maxLen; omega)).mono ?_
        rintro e W7 ⟨rfl, hb7⟩
        rw [HK1'.out]
        go_wp2_with fail
        go_ret
        exact ⟨rfl, F6.out.1.trans (hb7.mono F6.out.1.size)⟩
  · have hd : decide ((40 : Int) < (l.length : Int)) = true := decide_eq_true (by omega)
    go_wp2_with fail
    go_ret
    exact ⟨rfl, HB1.out⟩
end Go.Proofs.Ytknancnmdpdefaa
