/- However seats take turns: the statement's walk. -/
import Derived.Test.YtdmnjoidfjidbaaE22
import Derived.Test.YtdmnjoidfjidbaaPD
namespace Go.Proofs.Ytdmnjoidfjidbaa
open Go.RowKit
set_option maxRecDepth 100000

theorem few_len {want : List (List OpT)} {turns : List Int} {ops many : Nat} (h : fewF want turns ops many = true) : 1 ≤ want.length ∧ want.length ≤ 3 ∧ turns.length ≤ many ∧ ∀ w ∈ want, w.length ≤ ops := by
  unfold fewF at h
  simp only [Bool.and_eq_true, decide_eq_true_eq] at h
  obtain ⟨⟨⟨⟨h1, h2⟩, h3⟩, _⟩, h5⟩ := h
  exact ⟨h1, h2, h3, fun w hw => Nat.le_trans (sum_ge hw) h5⟩
set_option maxHeartbeats 16000000 in
theorem lin_w (want : List (List OpT)) (turns : List Int) (s : Int) (hs : 0 ≤ s ∧ s ≤ 255) (ht8 : ∀ x ∈ turns, 0 ≤ x ∧ x < 256) (hsum : want.length ≤ 3 → (want.map List.length).sum ≤ 9223372036854775807) : PureC Try.prog 3 [dPlay want turns, dK .u8 s] (dB true) := by
  have hF := few_c want turns 7 300 hsum (by omega) (by omega)
  refine pure_fin tabOk Try.func3 rfl Try.ntmps3 rfl rfl rfl fun w cl => ?_
  refine go ?_
  refine a_q (call_step (shown_c) rfl (fun a w => Try.call7 a w) rfl) rfl rfl rfl ?_
  refine go ?_
  refine a_q (call_step (hF) rfl (fun a w => Try.call8 a w) rfl) rfl rfl rfl ?_
  refine go ?_
  cases hfew : fewF want turns 7 300
  · refine go ?_
    first | refine fin_ret rfl ?_ | refine fin_normal rfl ?_
    rfl
  · obtain ⟨h1, h3, ht, hw7⟩ := few_len hfew
    obtain ⟨sl, hsl⟩ : ∃ sl : Nat, (sl : Int) = 1 + s % 3 := ⟨(1 + s % 3).toNat, by omega⟩
    have hwh := where_c want.length s (by omega) hs
    rw [← hsl] at hwh
    have hH := lin_holds (slots := sl) (by omega) (by omega) hfew
    have hM := play_more (slots := sl) (by omega) (by omega) (by omega) hfew
    have hcl := hM.1
    have hP := played_i (nn := 16) (sl := sl) (by omega) (by omega) want turns h1 h3 ht ht8 (fun w hw => by have := hw7 w hw; omega)
    have hck : ∀ c ∈ (playedT (layE want.length 16 sl) want turns).calls, c.op.kind = 4 ∨ c.op.kind = 5 := fun c hc => (hM.2.1 c hc).1
    generalize playedT (layE want.length 16 sl) want turns = t at *
    obtain ⟨hb, hfu, hor⟩ := hH
    have hord := order_c t.calls.length [] t.calls rfl hck (by simp only [List.length_nil]; omega)
    rw [hor] at hord
    obtain ⟨m, step, seats, calls, full, wild, bad⟩ := t
    simp only at hb hfu hord
    subst hb
    subst hfu
    generalize layE want.length 16 sl = l at *
    refine go ?_
    refine awp_region_w 6 [] rfl rfl (by kernel_rfl) (by kernel_rfl) (by kernel_rfl) ?_
    refine goQ ?_
    refine r_q (call_step (hwh) rfl (fun a w => Try.call10 a w) rfl) rfl rfl ?_
    refine goQ ?_
    refine go ?_
    refine a_callI hP rfl (fun a w => Try.call9 a w) rfl rfl trivial trivial rfl rfl rfl rfl ?_ ?_
    · rintro d bs ⟨rfl, rfl⟩; exact ⟨.inr rfl, .inr rfl, .inr rfl, .inr rfl, .inr rfl, .inr rfl, trivial⟩
    rintro d bs ⟨rfl, rfl⟩
    refine go ?_
    cases wild
    all_goals
      refine awp_region_q [] rfl (by kernel_rfl) (by kernel_rfl) ?_
      refine goQ ?_
      refine r_q (call_step (new9_c) rfl (fun a w => Try.call12 a w) rfl) rfl rfl ?_
      refine goQ ?_
      refine r_q (call_step (hord) rfl (fun a w => Try.call11 a w) rfl) rfl rfl ?_
      refine goQ ?_
      refine go ?_
      first | refine fin_ret rfl ?_ | refine fin_normal rfl ?_
      rfl
end Go.Proofs.Ytdmnjoidfjidbaa
