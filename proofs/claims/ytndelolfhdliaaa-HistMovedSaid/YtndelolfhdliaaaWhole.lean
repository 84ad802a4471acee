/- The walk of HistWhole. -/
import Derived.Test.YtndelolfhdliaaaTwice
namespace Go.Proofs.Ytndelolfhdliaaa
open Go.RowKit

/-- The object of a call, as one number. -/
def codeO (c : Call) : Int := (ofK c.kind - 1) * 8 + c.obj
def cntB (f : Call → Int) (h : List Call) (m : Int) : Nat := (h.filter fun c => decide (0 ≤ f c) && decide (f c < m)).length

theorem cntB_le (f : Call → Int) (h : List Call) (m : Int) : cntB f h m ≤ h.length := List.length_filter_le _ _
theorem cntB_zero (f : Call → Int) (h : List Call) : cntB f h 0 = 0 := by
  unfold cntB
  rw [List.length_eq_zero_iff, List.filter_eq_nil_iff]
  intro c _
  simp
theorem cntB_succ (f : Call → Int) (p : Call → Bool) (m : Int) (hm : 0 ≤ m) : ∀ (h : List Call), (∀ c ∈ h, (p c = true ↔ f c = m)) → cntB f h (m + 1) = cntB f h m + (h.filter p).length
  | [], _ => rfl
  | c :: h, hp => by
    have ih := cntB_succ f p m hm h fun c hc => hp c (List.mem_cons_of_mem _ hc)
    have hc := hp c List.mem_cons_self
    unfold cntB at ih ⊢
    simp only [List.filter_cons]
    by_cases h1 : f c = m
    · have h2 : p c = true := hc.2 h1
      have h3 : (decide (0 ≤ f c) && decide (f c < m + 1)) = true := by simp; omega
      have h4 : (decide (0 ≤ f c) && decide (f c < m)) = false := by simp; omega
      rw [h2, h3, h4]
      simp only [if_true, List.length_cons, Bool.false_eq_true, if_false]
      omega
    · have h2 : p c = false := by rcases hh : p c with _ | _
                                  · rfl
                                  · exact absurd (hc.1 hh) h1
      have h3 : (decide (0 ≤ f c) && decide (f c < m + 1)) = (decide (0 ≤ f c) && decide (f c < m)) := by
        rw [Bool.eq_iff_iff]; simp; omega
      rw [h2, h3]
      by_cases h5 : (decide (0 ≤ f c) && decide (f c < m)) = true
      · simp only [h5, if_true, List.length_cons, Bool.false_eq_true, if_false]; omega
      · simp only [h5, Bool.false_eq_true, if_false]; omega
theorem cntB_all (f : Call → Int) (h : List Call) (m : Int) (hp : ∀ c ∈ h, 0 ≤ f c ∧ f c < m) : cntB f h m = h.length := by
  unfold cntB
  rw [List.filter_eq_self.2]
  intro c hc
  have := hp c hc
  simp; omega

theorem good_mem {h : List Call} (hg : Good h h.length) {c : Call} (hc : c ∈ h) : mayB c = true := by
  obtain ⟨i, hi, rfl⟩ := List.mem_iff_getElem.1 hc
  exact (hg i hi _ (List.getElem?_eq_getElem hi)).1
theorem may_all {c : Call} (h : mayB c = true) : 0 ≤ c.who ∧ c.who ≤ 7 ∧ 1 ≤ c.kind ∧ c.kind ≤ 7 ∧ 0 ≤ c.obj ∧ c.obj ≤ 7 ∧ 0 ≤ c.first ∧ c.first ≤ c.last := by
  have := of_decide_eq_true h
  omega
theorem ofK_range {k : Int} (h1 : 1 ≤ k) (h2 : k ≤ 7) : 1 ≤ ofK k ∧ ofK k ≤ 3 := by
  unfold ofK
  split
  · omega
  · split
    · omega
    · split <;> omega
theorem code_range {c : Call} (h : mayB c = true) : 0 ≤ codeO c ∧ codeO c < 24 := by
  have h1 := may_all h
  have h2 := ofK_range h1.2.2.1 h1.2.2.2.1
  unfold codeO
  omega
theorem code_iff {c : Call} (h : mayB c = true) {k o : Int} (ho : 0 ≤ o ∧ o < 8) : ofB k o c = true ↔ codeO c = (k - 1) * 8 + o := by
  have h1 := may_all h
  have h2 := ofK_range h1.2.2.1 h1.2.2.2.1
  unfold ofB codeO
  simp
  omega

theorem obj_step {h : List Call} (hg : Good h h.length) {k o : Nat} (hk : 1 ≤ k) (ho : o < 8) :
    cntB codeO h (((k : Int) - 1) * 8 + ((o + 1 : Nat) : Int)) = cntB codeO h (((k : Int) - 1) * 8 + (o : Int)) + (h.filter (ofB k o)).length := by
  have := cntB_succ codeO (ofB k o) (((k : Int) - 1) * 8 + (o : Int)) (by omega) h fun c hc => code_iff (good_mem hg hc) (by omega)
  rw [← this]
  congr 1
  omega
theorem seat_step {h : List Call} (o : Nat) : cntB Call.who h ((o + 1 : Nat) : Int) = cntB Call.who h (o : Int) + (h.filter (seatB o)).length := by
  have := cntB_succ Call.who (seatB o) (o : Int) (by omega) h fun c _ => by simp [seatB]
  rw [← this]
  congr 1

def LastTo (h : List Call) (n : Nat) (m : Int) : Prop := ∀ i, i < n → ∀ c, h[i]? = some c → c.last ≤ m
theorem lastTo_zero (h : List Call) (m : Int) : LastTo h 0 m := fun i hi => by omega
theorem lastTo_succ {h : List Call} {n : Nat} {m : Int} {c : Call} (hl : LastTo h n m) (hc : h[n]? = some c) : LastTo h (n + 1) (max m c.last) := fun i hi d hd => by
  by_cases e : i = n
  · subst e; rw [hc] at hd; cases hd; omega
  · have := hl i (by omega) d hd; omega
theorem upto_all {h : List Call} {m : Int} (hl : LastTo h h.length m) : h.filter (uptoB m) = h := by
  rw [List.filter_eq_self]
  intro c hc
  obtain ⟨i, hi, rfl⟩ := List.mem_iff_getElem.1 hc
  have := hl i hi _ (List.getElem?_eq_getElem hi)
  simpa [uptoB] using this
theorem upto_none {h : List Call} (hg : Good h h.length) : h.filter (uptoB (-1)) = [] := by
  rw [List.filter_eq_nil_iff]
  intro c hc
  have := may_all (good_mem hg hc)
  simp [uptoB]; omega
theorem of_none {h : List Call} (hg : Good h h.length) : h.filter (ofB 0 0) = [] := by
  rw [List.filter_eq_nil_iff]
  intro c hc
  have h1 := may_all (good_mem hg hc)
  have h2 := ofK_range h1.2.2.1 h1.2.2.2.1
  simp [ofB]; omega

set_option maxRecDepth 100000 in
set_option maxHeartbeats 4000000 in
theorem whole_walk (A : Option Addr) (cap : Nat) (h : List Call) (w : World) (hr : CRow w w.heap.size A h) (hl : h.length ≤ maxLen) (hfit : ∀ c ∈ h, -9223372036854775808 ≤ c.last ∧ c.last ≤ 9223372036854775807) :
    Calls Try.prog 5 #[.slice A h.length cap] w fun e w' => e = .returned (.bool true) ∧ Below w.heap.size w w' := by
  unfold maxLen at hl
  have rh0 : RowIn w A h := hr
  have HF := Lib.hid hfit
  clear hr hfit
  by_cases h40 : 40 < h.length
  · go_enter Try.func5, Try.ntmps5
    go_wp2_with (go_at_call 8; refine (shown_any _).mono ?_; rintro e w1 ⟨rfl, hb1⟩)
    go_ret
    exact ⟨rfl, hb1⟩
  · have h40' : h.length ≤ 40 := by omega
    have hl6 : h.length ≤ 1000000 := by omega
    go_enter Try.func5, Try.ntmps5
    go_wp2_with fail
    refine (shown_any _).mono ?_
    rintro e w1 ⟨rfl, bw⟩
    go_wp2_with fail
    refine (refRight_any A cap h _ (rh0.next bw) hl6).mono ?_
    rintro e w2 ⟨rfl, hb2⟩
    have bw2 := bw.trans (hb2.mono bw.size)
    clear bw hb2
    cases hrb : rightB h with
    | false =>
      go_wp2_with fail
      go_ret
      exact ⟨rfl, bw2⟩
    | true =>
      have hg := Lib.hid (good_of_rightB hrb)
      clear hrb
      go_wp2_with fail
      go_loopw [4, 5] (fun ob k wr => ∃ kk : Nat, 1 ≤ kk ∧ kk ≤ 4 ∧ k = .int .i64 kk ∧ ob = .int .i64 (cntB codeO h (((kk : Int) - 1) * 8) : Nat) ∧ Below w.heap.size w wr) (fun _ k _ => 4 - (intOf k).toNat)
      case atStart => exact ⟨1, by omega, by omega, rfl, by simp [cntB_zero], bw2⟩
      case round =>
        obtain ⟨kk, hk1, hk4, rfl, rfl, bw3⟩ := hrel
        by_cases hk : kk ≤ 3
        · obtain ⟨wo, rfl⟩ : ∃ wo : World, wo = wr := ⟨_, rfl⟩
          have hkd : decide ((kk : Int) ≤ 3) = true := decide_eq_true (by omega)
          go_wp2_with fail
          go_loopw [4, 6] (fun ob o wr => ∃ oo : Nat, oo ≤ 8 ∧ o = .int .i64 oo ∧ ob = .int .i64 (cntB codeO h (((kk : Int) - 1) * 8 + (oo : Int)) : Nat) ∧ Below w.heap.size w wr) (fun _ o _ => 8 - (intOf o).toNat)
          case atStart => exact ⟨0, by omega, rfl, by simp, bw3⟩
          case round =>
            obtain ⟨oo, ho8, rfl, rfl, bw4⟩ := hrel
            by_cases ho : oo < 8
            · have hod : decide ((oo : Int) < 8) = true := decide_eq_true (by omega)
              have hc1 := cntB_le codeO h (((kk : Int) - 1) * 8 + (oo : Int))
              have hst := Lib.hid (obj_step hg.out hk1 ho)
              go_wp2_with fail
              refine (of_calls A cap h kk oo _ (rh0.next bw4) hl6).mono ?_
              intro e w5 hgv
              obtain ⟨A1, cap1, l1, Hl, rfl, r1, hb⟩ := gives_row hgv
              have bw5 := bw4.trans (hb.mono bw4.size)
              have hl1 : l1.length ≤ 40 := by rw [Hl.out]; exact filter_le h40'
              clear hgv hb
              go_wp2_with fail
              go_roundw
              case rel => exact ⟨oo + 1, by omega, by go_num, by rw [hst.out, ← Hl.out]; go_num, bw5⟩
              case measure => simp [intOf]; omega
            · have hod : decide ((oo : Int) < 8) = false := decide_eq_false (by omega)
              have he : ((kk : Int) - 1) * 8 + (oo : Int) = (((kk + 1 : Nat) : Int) - 1) * 8 := by omega
              rw [he]
              clear he
              go_wp2_with fail
              go_roundw
              case rel => exact ⟨kk + 1, by omega, by omega, by go_num, rfl, bw4⟩
              case measure => simp [intOf]; omega
        · have hall' : cntB codeO h (((kk : Int) - 1) * 8) = h.length := cntB_all codeO h _ fun c hc => by have := code_range (good_mem hg.out hc); omega
          rw [hall']
          clear hall'
          have hkd : decide ((kk : Int) ≤ 3) = false := decide_eq_false (by omega)
          go_wp2_with fail
          go_loopw [7, 9] (fun se o wr => ∃ oo : Nat, oo ≤ 8 ∧ o = .int .i64 oo ∧ se = .int .i64 (cntB Call.who h (oo : Int) : Nat) ∧ Below w.heap.size w wr) (fun _ o _ => 8 - (intOf o).toNat)
          case atStart => exact ⟨0, by omega, rfl, by simp [cntB_zero], bw3⟩
          case round =>
            obtain ⟨oo, ho8, rfl, rfl, bw4⟩ := hrel
            by_cases ho : oo < 8
            · have hod : decide ((oo : Int) < 8) = true := decide_eq_true (by omega)
              have hc1 := cntB_le Call.who h (oo : Int)
              have hst := Lib.hid (seat_step (h := h) oo)
              go_wp2_with fail
              refine (seat_calls A cap h oo _ (rh0.next bw4) hl6).mono ?_
              intro e w5 hgv
              obtain ⟨A1, cap1, l1, Hl, rfl, r1, hb⟩ := gives_row hgv
              have bw5 := bw4.trans (hb.mono bw4.size)
              have hl1 : l1.length ≤ 40 := by rw [Hl.out]; exact filter_le h40'
              clear hgv hb
              go_wp2_with fail
              go_roundw
              case rel => exact ⟨oo + 1, by omega, by go_num, by rw [hst.out, ← Hl.out]; go_num, bw5⟩
              case measure => simp [intOf]; omega
            · have hall : cntB Call.who h (oo : Int) = h.length := cntB_all Call.who h _ fun c hc => by have := may_all (good_mem hg.out hc); omega
              rw [hall]
              clear hall
              have hod : decide ((oo : Int) < 8) = false := decide_eq_false (by omega)
              go_wp2_with fail
              obtain ⟨wo, rfl⟩ : ∃ wo : World, wo = wr := ⟨_, rfl⟩
              go_loopw [8, 10] (fun la i wr => ∃ (n : Nat) (m : Int), n ≤ h.length ∧ i = .int .i64 n ∧ la = .int .i64 m ∧ 0 ≤ m ∧ m ≤ 9223372036854775807 ∧ LastTo h n m ∧ Below w.heap.size w wr) (fun _ i _ => h.length - (intOf i).toNat)
              case atStart => exact ⟨0, 0, by omega, rfl, rfl, by omega, by omega, lastTo_zero _ _, bw4⟩
              case round =>
                obtain ⟨n, m, hn, rfl, rfl, hm0, hm1, hlt, bw5⟩ := hrel
                by_cases hnl : n < h.length
                · obtain ⟨c, hc⟩ := call_at hnl
                  obtain ⟨b, ofs, rfl, hbb, a0, a1, a2, a3, a4, a5, a6, a7, a8, a9⟩ := rh0.next bw5 n c hc
                  have hcf := HF.out c (List.mem_of_getElem? hc)
                  have HL := Lib.hid (lastTo_succ hlt hc)
                  clear hc hlt
                  go_wp2_with fail
                  go_ways
                  go_roundw
                  case rel => exact ⟨n + 1, max m c.last, by omega, by go_num, by go_num, by omega, by omega, HL.out, bw5⟩
                  case measure => simp [intOf]; omega
                · have hnn : n = h.length := by omega
                  have hup := Lib.hid (upto_all (hnn ▸ hlt))
                  clear hnn
                  have hnd : decide ((n : Int) < (h.length : Int)) = false := decide_eq_false (by omega)
                  go_wp2_with fail
                  refine (upto_calls A cap h m _ (rh0.next bw5) hl6).mono ?_
                  intro e w6 hgv
                  obtain ⟨A1, cap1, l1, Hl, rfl, r1, hb⟩ := gives_row hgv
                  have bw6 := bw5.trans (hb.mono bw5.size)
                  clear hgv hb
                  go_wp2_with fail
                  refine (same_yes r1 (rh0.next bw6) (by rw [Hl.out]; exact filter_le h40') (Hl.out.trans hup.out)).mono ?_
                  rintro e w7 ⟨rfl, hb⟩
                  have bw7 := bw6.trans (hb.mono bw6.size)
                  clear hb
                  go_wp2_with fail
                  refine (of_calls A cap h 0 0 _ (rh0.next bw7) hl6).mono ?_
                  intro e w8 hgv
                  obtain ⟨A2, cap2, l2, Hl2, rfl, r2, hb⟩ := gives_row hgv
                  have bw8 := bw7.trans (hb.mono bw7.size)
                  obtain rfl : l2 = [] := Hl2.out.trans (of_none hg.out)
                  clear hgv hb
                  go_wp2_with fail
                  refine (upto_calls A cap h (-1) _ (rh0.next bw8) hl6).mono ?_
                  intro e w9 hgv
                  obtain ⟨A3, cap3, l3, Hl3, rfl, r3, hb⟩ := gives_row hgv
                  have bw9 := bw8.trans (hb.mono bw8.size)
                  obtain rfl : l3 = [] := Hl3.out.trans (upto_none hg.out)
                  clear hgv hb
                  go_wp2_with fail
                  go_ret
                  exact ⟨rfl, bw9⟩
end Go.Proofs.Ytndelolfhdliaaa
