/- The contracts of sift, of what it is handed, and of Of, Seat, Upto. -/
import Derived.Test.YtndelolfhdliaaaLeaf
namespace Go.Proofs.Ytndelolfhdliaaa
open Go.RowKit

/-- What a closure over calls answers, in every world that has grown out of w. -/
def Asks (w : World) (f : FuncId) (xs : Array Value) (p : Call → Bool) : Prop :=
  ∀ c w', Below w.heap.size w w' → Calls Try.prog f (#[.agg c.cells.toArray] ++ xs) w' fun e w'' => e = .returned (.bool (p c)) ∧ Below w'.heap.size w' w''

set_option maxHeartbeats 400000 in
theorem of1_any (c : Call) (p q : Addr) (k o : Int) (w : World) (hp : w.cell? p = some (.int .i64 k)) (hq : w.cell? q = some (.int .i64 o)) (hpb : p.block < w.heap.size) (hqb : q.block < w.heap.size) :
    Calls Try.prog 19 #[.agg c.cells.toArray, .pointer (some p), .pointer (some q)] w fun e w' => e = .returned (.bool (ofK c.kind == k && c.obj == o)) ∧ Below w.heap.size w w' := by
  unfold Call.cells
  have hne1 : p.block ≠ w.heap.size := by omega
  have hne2 : q.block ≠ w.heap.size := by omega
  have hp2 : p.block < w.heap.size + 1 := by omega
  have hq2 : q.block < w.heap.size + 1 := by omega
  have e1 : (w.alloc (.cells c.cells.toArray 30)).cell? p = some (.int .i64 k) := by rw [World.cell?_alloc_lt _ _ _ hpb]; exact hp
  have e2 : (w.alloc (.cells c.cells.toArray 30)).cell? q = some (.int .i64 o) := by rw [World.cell?_alloc_lt _ _ _ hqb]; exact hq
  unfold Call.cells at e1 e2
  have hbw : Below w.heap.size w (w.alloc (.cells c.cells.toArray 30)) := (Below.refl _ _).alloc (Nat.le_refl _) _
  unfold Call.cells at hbw
  by_cases hk : (ofK c.kind == k) = true
  · go_enter Try.func19, Try.ntmps19
    go_wp2
    refine wp_region_ext (by kernel_rfl) (by kernel_rfl) ?_
    repeat (go_big_quiet_step ((go_at_call 20; exact Calls.ext_of ((of_any _ _).mono fun _ _ h => ⟨h.1, h.2 ▸ Below.refl _ _⟩))))
    refine wpQuiet_nil ?_
    rintro _ ⟨x, rfl⟩
    go_wp2
    go_ret
    exact ⟨ret_bool (by simp [hk]), hbw.trans (x.below.mono (by simp))⟩
  · have hk' : (ofK c.kind == k) = false := by simpa using hk
    go_enter Try.func19, Try.ntmps19
    go_wp2
    refine wp_region_ext (by kernel_rfl) (by kernel_rfl) ?_
    repeat (go_big_quiet_step ((go_at_call 20; exact Calls.ext_of ((of_any _ _).mono fun _ _ h => ⟨h.1, h.2 ▸ Below.refl _ _⟩))))
    refine wpQuiet_nil ?_
    rintro _ ⟨x, rfl⟩
    go_wp2
    go_ret
    exact ⟨ret_bool (by simp [hk']), hbw.trans (x.below.mono (by simp))⟩

set_option maxHeartbeats 400000 in
theorem seat1_any (c : Call) (p : Addr) (k : Int) (w : World) (hp : w.cell? p = some (.int .i64 k)) (hpb : p.block < w.heap.size) :
    Calls Try.prog 22 #[.agg c.cells.toArray, .pointer (some p)] w fun e w' => e = .returned (.bool (c.who == k)) ∧ Below w.heap.size w w' := by
  have e1 : (w.alloc (.cells c.cells.toArray 30)).cell? p = some (.int .i64 k) := by rw [World.cell?_alloc_lt _ _ _ hpb]; exact hp
  unfold Call.cells at e1 ⊢
  go_enter Try.func22, Try.ntmps22
  go_wp2
  go_ret
  exact ⟨rfl, (Below.refl _ _).alloc (Nat.le_refl _) _⟩

set_option maxHeartbeats 400000 in
theorem upto1_any (c : Call) (p : Addr) (k : Int) (w : World) (hp : w.cell? p = some (.int .i64 k)) (hpb : p.block < w.heap.size) :
    Calls Try.prog 23 #[.agg c.cells.toArray, .pointer (some p)] w fun e w' => e = .returned (.bool (decide (c.last ≤ k))) ∧ Below w.heap.size w w' := by
  have e1 : (w.alloc (.cells c.cells.toArray 30)).cell? p = some (.int .i64 k) := by rw [World.cell?_alloc_lt _ _ _ hpb]; exact hp
  unfold Call.cells at e1 ⊢
  go_enter Try.func23, Try.ntmps23
  go_wp2
  go_ret
  exact ⟨rfl, (Below.refl _ _).alloc (Nat.le_refl _) _⟩

/-- A function that is entered when it is called. -/
def Enters (f : FuncId) : Prop := ∀ args w, (callFunc f args).run Try.prog w = .ok (.enter f args) w
theorem enters19 : Enters 19 := fun args w => by simp [go_sem]
theorem enters22 : Enters 22 := fun args w => by simp [go_sem]
theorem enters23 : Enters 23 := fun args w => by simp [go_sem]

set_option maxHeartbeats 400000 in
theorem passes_any (f : FuncId) (xs : Array Value) (p : Call → Bool) (c : Call) (w0 w : World) (hf : Enters f) (ha : Asks w0 f xs p) (hb : Below w0.heap.size w0 w) :
    Calls Try.prog 21 #[.agg #[.func (.func f) #[] xs], .agg c.cells.toArray] w fun e w' => e = .returned (.bool (p c)) ∧ Below w.heap.size w w' := by
  unfold Call.cells
  have hrun : ∀ args w, (callFunc f args).run Try.prog w = .ok (.enter f args) w := hf
  go_enter Try.func21, Try.ntmps21
  go_wp2_with fail
  refine (ha c _ ((hb.alloc hb.size _).alloc (by simp; have := hb.size; omega) _)).mono ?_
  rintro e w1 ⟨rfl, hb1⟩
  go_wp2_with fail
  go_ret
  exact ⟨rfl, (((Below.refl _ _).alloc (Nat.le_refl _) _).alloc (by simp) _).trans (hb1.mono (by simp; omega))⟩

theorem call_info : (Try.prog.info? 30).map (fun i => (i.zero, i.size, i.bytes)) = some (some (.agg #[.int .i64 0, .int .i64 0, .int .i64 0, .int .i64 0, .int .i64 0, .int .i64 0, .bool false, .int .i64 0, .int .i64 0, .int .i64 0]), 10, 80) := by kernel_rfl

theorem owns_below {w w' : World} {base : Nat} {e : TypeId} {size : Nat} {v : Value} {n : Nat} {xs : List Value} (h : w.ownsRow base e size v n xs) (hb : Below w.heap.size w w') : w'.ownsRow base e size v n xs := by
  refine ⟨h.1, h.2.imp id ?_⟩
  rintro ⟨g, cap, cur, hv, hg, hh, hr⟩
  have hlt : g < w.heap.size := by
    rcases Nat.lt_or_ge g w.heap.size with hlt | hge
    · exact hlt
    · rw [Array.getElem?_eq_none hge] at hh; cases hh
  exact ⟨g, cap, cur, hv, hg, (hb.block g hlt).trans hh, hr⟩
theorem cells_one (c : Call) : ∀ u ∈ c.cells, u.oneCell' = true := by
  intro u hu
  simp only [Call.cells, List.mem_cons, List.not_mem_nil, or_false] at hu
  rcases hu with rfl | rfl | rfl | rfl | rfl | rfl | rfl | rfl | rfl | rfl <;> rfl

theorem new_cells (w : World) (c : Call) : ∀ j u, c.cells[j]? = some u → (w.alloc (.cells c.cells.toArray 30)).cell? ⟨w.heap.size, j, none⟩ = some u := by
  intro j u hu
  have := cell_of_row (w.alloc (.cells c.cells.toArray 30)) w.heap.size j c.cells.toArray 30 (0, 0) (heap_alloc_new w _)
  rw [this]; simpa using hu
theorem cellsAt_zero {w : World} {b : Nat} {c : Call} (h : ∀ j u, c.cells[j]? = some u → w.cell? ⟨b, j, none⟩ = some u) :
    w.cell? ⟨b, 0, none⟩ = some (.int .i64 c.who) ∧ w.cell? ⟨b, 1, none⟩ = some (.int .i64 c.kind) ∧ w.cell? ⟨b, 2, none⟩ = some (.int .i64 c.obj) ∧
    w.cell? ⟨b, 3, none⟩ = some (.int .i64 c.a) ∧ w.cell? ⟨b, 4, none⟩ = some (.int .i64 c.b) ∧ w.cell? ⟨b, 5, none⟩ = some (.int .i64 c.val) ∧
    w.cell? ⟨b, 6, none⟩ = some (.bool c.is) ∧ w.cell? ⟨b, 7, none⟩ = some (.int .i64 c.first) ∧ w.cell? ⟨b, 8, none⟩ = some (.int .i64 c.last) ∧
    w.cell? ⟨b, 9, none⟩ = some (.int .i64 c.point) := ⟨h 0 _ rfl, h 1 _ rfl, h 2 _ rfl, h 3 _ rfl, h 4 _ rfl, h 5 _ rfl, h 6 _ rfl, h 7 _ rfl, h 8 _ rfl, h 9 _ rfl⟩

def cellsOf (h : List Call) : List Value := h.flatMap Call.cells
theorem owns_base {w : World} {base : Nat} {e : TypeId} {size : Nat} {v : Value} {n : Nat} {xs : List Value} (h : w.ownsRow base e size v n xs) : ∀ k, v.ownBlock = some k → base ≤ k := by
  intro k hk
  rcases h.2 with ⟨rfl, _⟩ | ⟨g, cap, cur, rfl, hg, _⟩
  · simp [Value.ownBlock] at hk
  · have : g = k := by simpa [Value.ownBlock] using hk
    omega
theorem filter_take_yes {h : List Call} {p : Call → Bool} {n : Nat} {c : Call} (hc : h[n]? = some c) (hp : p c = true) : (h.take (n + 1)).filter p = (h.take n).filter p ++ [c] := by
  rw [List.take_add_one, hc]; simp [hp]
theorem filter_take_no {h : List Call} {p : Call → Bool} {n : Nat} {c : Call} (hc : h[n]? = some c) (hp : ¬ p c = true) : (h.take (n + 1)).filter p = (h.take n).filter p := by
  rw [List.take_add_one, hc]; simp [hp]
theorem filter_take_le (h : List Call) (p : Call → Bool) (n : Nat) : ((h.take n).filter p).length ≤ h.length :=
  Nat.le_trans (List.length_filter_le _ _) (by simp; omega)

set_option maxRecDepth 100000 in
set_option maxHeartbeats 1000000 in
theorem sift_any (A : Option Addr) (cap : Nat) (h : List Call) (f : FuncId) (xs : Array Value) (p : Call → Bool) (w : World) (hr : CRow w w.heap.size A h) (hl : h.length ≤ 1000000) (hf : Enters f) (ha : Asks w f xs p) :
    Calls Try.prog 18 #[.slice A h.length cap, .func (.func 21) #[.agg #[.func (.func f) #[] xs]] #[]] w fun e w' =>
      ∃ v, e = .returned v ∧ w'.ownsRow w.heap.size 30 10 v (h.filter p).length (cellsOf (h.filter p)) ∧ Below w.heap.size w w' := by
  obtain ⟨i0, hi0, hz0, hz1, hz2⟩ := info_parts call_info
  go_enter Try.func18, Try.ntmps18
  go_wp2
  go_loopw [5, 10] (fun v i wr => ∃ n : Nat, n ≤ h.length ∧ i = .int .i64 n ∧ wr.ownsRow w.heap.size 30 10 v ((h.take n).filter p).length (cellsOf ((h.take n).filter p)) ∧ Below w.heap.size w wr) (fun _ i _ => h.length - (intOf i).toNat)
  case atStart => exact ⟨0, by omega, rfl, ⟨by simp [cellsOf], .inl ⟨rfl, by simp⟩⟩, Below.refl _ _⟩
  case round =>
    obtain ⟨n, hn, rfl, hown, hb⟩ := hrel
    by_cases hlt : n < h.length
    · obtain ⟨c, hc⟩ : ∃ c, h[n]? = some c := ⟨h[n], by simp [hlt]⟩
      obtain ⟨b, o, rfl, hbb, h0, h1, h2, h3, h4, h5, h6, h7, h8, h9⟩ := hr.below hb n c hc
      have HC := Lib.hid hc
      clear hc
      go_wp2_with fail
      refine (passes_any f xs p c w _ hf ha (hb.alloc hb.size _)).mono ?_
      rintro e w1 ⟨rfl, hb1⟩
      have hb2 : Below wr.heap.size wr w1 := ((Below.refl _ _).alloc (Nat.le_refl _) _).trans (hb1.mono (by simp))
      have hb3 : Below w.heap.size w w1 := hb.trans (hb2.mono hb.size)
      have hown1 := owns_below hown hb2
      obtain ⟨d0, d1, d2, d3, d4, d5, d6, d7, d8, d9⟩ := cellsAt_zero (w := w1) (b := wr.heap.size) (c := c) fun j u hu => (hb1.cell (p := ⟨wr.heap.size, j, none⟩) (by simp)).trans (new_cells wr c j u hu)
      clear h0 h1 h2 h3 h4 h5 h6 h7 h8 h9 hb1 hb2 hown
      have HO := Lib.hid hown1
      clear hown1
      by_cases hp : p c = true
      · go_wp2_with (at_builtin; refine wpList_append_own _ rfl _ _ 22 rfl w.heap.size 30 i0 _ 10 80 Try.underlying22 hi0 hz0 hz1 hz2 rfl (by decide) _ _ _ rfl (owns_below HO.out ((Below.refl _ _).alloc (Nat.le_refl _) _)) ⟨w1.heap.size, 0, none⟩ 1 1 c.cells rfl rfl ?c1 ?c2 ?c3 ?c4 ?c5 ?_)
        case c1 => intro j u hu; have := new_cells w1 c j u hu; unfold Call.cells at this; by_cases e : j = 0 <;> simpa [Addr.add, e] using this
        case c2 => exact cells_one c
        case c3 => have := filter_take_le h p n; unfold maxLen; omega
        case c4 => have := filter_take_le h p n; omega
        case c5 => have := hb3.size; simp; omega
        intro v' w2 hown2 hg2 _
        have hb4 : Below w.heap.size w w2 := (hb3.alloc hb3.size _).grown hg2 (by have := hb3.size; simp; omega) (owns_base HO.out)
        have HO2 : Hid (w2.ownsRow w.heap.size 30 10 v' ((h.take (n + 1)).filter p).length (cellsOf ((h.take (n + 1)).filter p))) := by
          rw [filter_take_yes HC.out hp]
          refine Lib.hid ?_
          simpa [cellsOf] using hown2
        clear hown2 hg2
        go_wp2
        go_roundw
        case rel => exact ⟨n + 1, by omega, by go_num, HO2.out, hb4⟩
        case measure => simp [intOf]; omega
      · have HO2 : Hid (w1.ownsRow w.heap.size 30 10 u5 ((h.take (n + 1)).filter p).length (cellsOf ((h.take (n + 1)).filter p))) := by
          rw [filter_take_no HC.out hp]
          exact HO
        go_wp2
        go_roundw
        case rel => exact ⟨n + 1, by omega, by go_num, HO2.out, hb3⟩
        case measure => simp [intOf]; omega
    · have hnn : n = h.length := by omega
      subst hnn
      go_wp2
      go_ret
      rw [List.take_length] at hown
      exact ⟨_, rfl, hown, hb⟩

/-- What a call that hands back new calls leaves. -/
def Gives (w : World) (h : List Call) (e : Ending) (w' : World) : Prop := ∃ v, e = .returned v ∧ w'.ownsRow w.heap.size 30 10 v h.length (cellsOf h) ∧ Below w.heap.size w w'

def ofB (k o : Int) (c : Call) : Bool := ofK c.kind == k && c.obj == o
def seatB (k : Int) (c : Call) : Bool := c.who == k
def uptoB (k : Int) (c : Call) : Bool := decide (c.last ≤ k)

set_option maxHeartbeats 400000 in
theorem of_calls (A : Option Addr) (cap : Nat) (h : List Call) (k o : Int) (w : World) (hr : CRow w w.heap.size A h) (hl : h.length ≤ 1000000) :
    Calls Try.prog 11 #[.slice A h.length cap, .int .i64 k, .int .i64 o] w (Gives w (h.filter (ofB k o))) := by
  go_enter Try.func11, Try.ntmps11
  go_wp2_with fail
  have hb0 : Below w.heap.size w ((w.alloc (.cells #[.int .i64 k] 3)).alloc (.cells #[.int .i64 o] 3)) := ((Below.refl _ _).alloc (Nat.le_refl _) _).alloc (by simp) _
  refine (sift_any A cap h 19 _ (ofB k o) _ ((hr.below hb0).more (by simp; omega)) hl enters19 ?_).mono ?_
  · intro c w' hb
    refine of1_any c ⟨w.heap.size, 0, none⟩ ⟨w.heap.size + 1, 0, none⟩ k o w' ?_ ?_ ?_ ?_
    · rw [hb.cell (by simp; omega)]; simp [go_sem]
    · rw [hb.cell (by simp)]; simp [go_sem]
    · have := hb.size; simp at this ⊢; omega
    · have := hb.size; simp at this ⊢; omega
  · rintro e w' ⟨v, rfl, hown, hb⟩
    go_wp2_with fail
    go_ret
    exact ⟨v, rfl, ⟨hown.1, hown.2.imp id fun ⟨g, cap, cur, h1, h2, h3⟩ => ⟨g, cap, cur, h1, by simp at h2; omega, h3⟩⟩, hb0.trans (hb.mono (by simp; omega))⟩

set_option maxHeartbeats 400000 in
theorem seat_calls (A : Option Addr) (cap : Nat) (h : List Call) (k : Int) (w : World) (hr : CRow w w.heap.size A h) (hl : h.length ≤ 1000000) :
    Calls Try.prog 12 #[.slice A h.length cap, .int .i64 k] w (Gives w (h.filter (seatB k))) := by
  go_enter Try.func12, Try.ntmps12
  go_wp2_with fail
  have hb0 : Below w.heap.size w (w.alloc (.cells #[.int .i64 k] 3)) := (Below.refl _ _).alloc (Nat.le_refl _) _
  refine (sift_any A cap h 22 _ (seatB k) _ ((hr.below hb0).more (by simp)) hl enters22 ?_).mono ?_
  · intro c w' hb
    refine seat1_any c ⟨w.heap.size, 0, none⟩ k w' ?_ ?_
    · rw [hb.cell (by simp)]; simp [go_sem]
    · have := hb.size; simp at this ⊢; omega
  · rintro e w' ⟨v, rfl, hown, hb⟩
    go_wp2_with fail
    go_ret
    exact ⟨v, rfl, ⟨hown.1, hown.2.imp id fun ⟨g, cap, cur, h1, h2, h3⟩ => ⟨g, cap, cur, h1, by simp at h2; omega, h3⟩⟩, hb0.trans (hb.mono (by simp))⟩

set_option maxHeartbeats 400000 in
theorem upto_calls (A : Option Addr) (cap : Nat) (h : List Call) (k : Int) (w : World) (hr : CRow w w.heap.size A h) (hl : h.length ≤ 1000000) :
    Calls Try.prog 13 #[.slice A h.length cap, .int .i64 k] w (Gives w (h.filter (uptoB k))) := by
  go_enter Try.func13, Try.ntmps13
  go_wp2_with fail
  have hb0 : Below w.heap.size w (w.alloc (.cells #[.int .i64 k] 3)) := (Below.refl _ _).alloc (Nat.le_refl _) _
  refine (sift_any A cap h 23 _ (uptoB k) _ ((hr.below hb0).more (by simp)) hl enters23 ?_).mono ?_
  · intro c w' hb
    refine upto1_any c ⟨w.heap.size, 0, none⟩ k w' ?_ ?_
    · rw [hb.cell (by simp)]; simp [go_sem]
    · have := hb.size; simp at this ⊢; omega
  · rintro e w' ⟨v, rfl, hown, hb⟩
    go_wp2_with fail
    go_ret
    exact ⟨v, rfl, ⟨hown.1, hown.2.imp id fun ⟨g, cap, cur, h1, h2, h3⟩ => ⟨g, cap, cur, h1, by simp at h2; omega, h3⟩⟩, hb0.trans (hb.mono (by simp))⟩

end Go.Proofs.Ytndelolfhdliaaa
