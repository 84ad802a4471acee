/- The contract of the document's Same. -/
import Derived.Test.YtndelolfhdliaaaLeaf
namespace Go.Proofs.Ytndelolfhdliaaa
open Go.RowKit

theorem Call.ext' {c d : Call} : c = d ↔ (c.who = d.who ∧ (c.kind = d.kind ∧ c.obj = d.obj ∧ c.a = d.a ∧ c.b = d.b) ∧ c.val = d.val ∧ c.is = d.is ∧ c.first = d.first ∧ c.last = d.last ∧ c.point = d.point) := by
  cases c; cases d; simp [and_assoc]
theorem run_neq_call (c d : Call) (w : World) : (binOp .neq 30 (.agg c.cells.toArray) (.agg d.cells.toArray)).run Try.prog w = .ok (.bool (!decide (c = d))) w := by
  have e : (!decide (c = d)) = !decide (c.who = d.who ∧ (c.kind = d.kind ∧ c.obj = d.obj ∧ c.a = d.a ∧ c.b = d.b) ∧ c.val = d.val ∧ c.is = d.is ∧ c.first = d.first ∧ c.last = d.last ∧ c.point = d.point) := by
    congr 1; exact decide_eq_decide.2 Call.ext'
  rw [e]
  unfold Call.cells
  by_cases h1 : c.who = d.who
  case neg => simp [go_sem, h1]
  by_cases h2 : c.kind = d.kind
  case neg => simp [go_sem, h1, h2]
  by_cases h3 : c.obj = d.obj
  case neg => simp [go_sem, h1, h2, h3]
  by_cases h4 : c.a = d.a
  case neg => simp [go_sem, h1, h2, h3, h4]
  by_cases h5 : c.b = d.b
  case neg => simp [go_sem, h1, h2, h3, h4, h5]
  by_cases h6 : c.val = d.val
  case neg => simp [go_sem, h1, h2, h3, h4, h5, h6]
  by_cases h7 : c.is = d.is
  case neg => simp [go_sem, h1, h2, h3, h4, h5, h6, h7]
  by_cases h8 : c.first = d.first
  case neg => simp [go_sem, h1, h2, h3, h4, h5, h6, h7, h8]
  by_cases h9 : c.last = d.last
  case neg => simp [go_sem, h1, h2, h3, h4, h5, h6, h7, h8, h9]
  by_cases h10 : c.point = d.point <;> simp [go_sem, h1, h2, h3, h4, h5, h6, h7, h8, h9, h10]

theorem quiet_neq_call {ops : Array Oper} {C : World → Prop} {Q : Act → Prop} {o : Oper} {rest : List Oper} {a : Act} {x y : Operand} {t : TypeId} {c d : Call} (ho : o.op = .binOp .neq 30 x y t) (hg : o.guard = none)
    (hx : a.eval x = .agg c.cells.toArray) (hy : a.eval y = .agg d.cells.toArray) (h : wpQuiet Try.prog ops C Q rest (a.put o.dst (.bool (!decide (c = d))))) : wpQuiet Try.prog ops C Q (o :: rest) a := by
  refine BigFrame.wpQuiet_want (by simp [Region.wanted, hg]) fun K hK => ⟨.bool (!decide (c = d)), fun w _ => ?_, hK _ h⟩
  unfold Oper.quietAt execOp
  have hgd : (eqGuard .neq 30 x y (.agg c.cells.toArray) (.agg d.cells.toArray)).run Try.prog w = .ok () w := by simp [go_sem, Try.eqGuardType30]
  simp only [ho, hx, hy, Sem.run_bind, run_neq_call, hgd, Result.andThen_ok, Sem.run_pure]
  exact ⟨rfl, rfl⟩

theorem take_call {h g : List Call} {n : Nat} {c : Call} (ht : h.take n = g.take n) (hc : h[n]? = some c) (hd : g[n]? = some c) : h.take (n + 1) = g.take (n + 1) := by
  rw [List.take_add_one, List.take_add_one, ht, hc, hd]
theorem ne_at {h g : List Call} {n : Nat} {c d : Call} (hc : h[n]? = some c) (hd : g[n]? = some d) (hne : c ≠ d) : h ≠ g := by
  rintro rfl; rw [hc] at hd; exact hne (Option.some.inj hd)
theorem call_at' {h : List Call} {n : Nat} (hn : n < h.length) : ∃ c, h[n]? = some c := ⟨h[n], by simp [hn]⟩

set_option maxRecDepth 100000 in
set_option maxHeartbeats 1000000 in
theorem same_any (A B : Option Addr) (cap cap' : Nat) (h g : List Call) (w : World) (hr : CRow w w.heap.size A h) (hs : CRow w w.heap.size B g) (hl : h.length ≤ 1000000) :
    Calls Try.prog 15 #[.slice A h.length cap, .slice B g.length cap'] w fun e w' => e = .returned (.bool (decide (h = g))) ∧ Below w.heap.size w w' := by
  by_cases hlen : h.length = g.length
  · have hll : ((h.length : Int) != (g.length : Int)) = false := by simp [hlen]
    have hll' : (h.length != g.length) = false := by simp [hlen]
    have HL := Lib.hid hlen
    clear hlen
    go_enter Try.func15, Try.ntmps15
    go_wp2
    go_loopw [5] (fun i wr => ∃ n : Nat, n ≤ h.length ∧ i = .int .i64 n ∧ h.take n = g.take n ∧ Below w.heap.size w wr) (fun i _ => h.length - (intOf i).toNat)
    case atStart => exact ⟨0, by omega, rfl, rfl, Below.refl _ _⟩
    case round =>
      obtain ⟨n, hn, rfl, ht, hb⟩ := hrel
      have HT := Lib.hid ht
      clear ht
      by_cases hlt : n < h.length
      · obtain ⟨c, hc⟩ := call_at' hlt
        obtain ⟨d, hd⟩ := call_at' (show n < g.length by have := HL.out; omega)
        have hng : n < g.length := by have := HL.out; omega
        obtain ⟨b, o, rfl, hbb, h0, h1, h2, h3, h4, h5, h6, h7, h8, h9⟩ := hr.below hb n c hc
        obtain ⟨b', o', rfl, hbb', d0, d1, d2, d3, d4, d5, d6, d7, d8, d9⟩ := hs.below hb n d hd
        have HC := Lib.hid hc
        have HD := Lib.hid hd
        clear hc hd
        have hbz : b < wr.heap.size := Nat.lt_of_lt_of_le hbb hb.size
        have hbz' : b' < wr.heap.size := Nat.lt_of_lt_of_le hbb' hb.size
        by_cases hcd : c = d
        · subst hcd
          go_wp2
          refine wp_region_ext (by kernel_rfl) (by kernel_rfl) ?_
          repeat (go_big_quiet_step (fail))
          refine wpQuiet_nil ?_
          rintro _ ⟨x, rfl⟩
          have hbx := hb.trans (x.below.mono hb.size)
          go_wp2
          go_roundw
          case rel => exact ⟨n + 1, by omega, by go_num, take_call HT.out HC.out HD.out, hbx⟩
          case measure => simp [intOf]; omega
        · go_wp2
          refine wp_region_ext (by kernel_rfl) (by kernel_rfl) ?_
          repeat (go_big_quiet_step (fail))
          refine quiet_neq_call (c := c) (d := d) rfl rfl rfl rfl ?_
          rw [decide_eq_false hcd]
          simp only [Act.put, List.setIfInBounds_toArray, List.set_cons_zero, List.set_cons_succ, Bool.not_false]
          refine wpQuiet_nil ?_
          rintro _ ⟨x, rfl⟩
          have hbx := hb.trans (x.below.mono hb.size)
          go_wp2
          go_ret
          exact ⟨ret_bool (decide_eq_false (ne_at HC.out HD.out hcd)).symm, hbx⟩
      · have hnn : n = h.length := by omega
        go_wp2
        go_ret
        refine ⟨ret_bool ?_, hb⟩
        symm
        apply decide_eq_true
        have := HT.out
        rw [hnn, List.take_length, HL.out, List.take_length] at this
        exact this
  · have hll : ((h.length : Int) != (g.length : Int)) = true := by simp; omega
    have hll' : (h.length != g.length) = true := by simp; omega
    go_enter Try.func15, Try.ntmps15
    go_wp2
    go_ret
    exact ⟨ret_bool (by symm; apply decide_eq_false; intro e; exact hlen (by rw [e])), Below.refl _ _⟩

end Go.Proofs.Ytndelolfhdliaaa
