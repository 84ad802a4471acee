/- The contracts of effects and of Do. -/
import Derived.Test.YtknancnmdpdefaaEff3
import Derived.Laws.EntriesVeiled
namespace Go.Proofs.Ytknancnmdpdefaa
open Go.RowKit

def effFn (k : FuncId) : Value := .func (.func k) #[] #[]
def effArr : Value := .agg #[.nilFunc, .func (.func 39) #[] #[], .func (.func 40) #[] #[], .func (.func 41) #[] #[], .func (.func 42) #[] #[], .func (.func 43) #[] #[], .func (.func 44) #[] #[], .func (.func 43) #[] #[]]

set_option maxRecDepth 100000 in
set_option maxHeartbeats 400000 in
theorem effects_any (w : World) : Calls Try.prog 32 #[] w fun e w' => e = .returned effArr ∧ Below w.heap.size w w' := by
  go_enter Try.func32, Try.ntmps32
  go_wp2
  exact bodyPost_ret (v := effArr) (by simp [results, Try.results32, go_sem, effArr]) rfl ⟨rfl, (Below.refl _ _).alloc (Nat.le_refl _) _⟩

set_option maxRecDepth 100000 in
set_option maxHeartbeats 1000000 in
theorem do_no (c : Cont) (o : OpT) (Ak Av : Option Addr) (capk capv : Nat) (w : World) (h : CIn w c Ak capk Av capv) (hno : ¬ (rightB c = true ∧ ofK o.kind = c.kind)) :
    Calls Try.prog 16 #[.agg (contV c Ak capk Av capv).toArray, .agg o.cells.toArray] w (GivesDo (c, 0, false) c Ak Av w) := by
  obtain ⟨hblk1, hblk2, hblk3⟩ := boxW_blk w (contV c Ak capk Av capv) o
  have hbb := boxW_below w (contV c Ak capk Av capv) o
  have hsz := boxW_size w (contV c Ak capk Av capv) o
  have HS := Lib.hid hsz
  clear hsz
  unfold contV OpT.cells
  go_enter Try.func16, Try.ntmps16
  go_wp2_with fail
  change Code.wp _ _ _ _ (boxW w (contV c Ak capk Av capv) o)
  generalize boxW w (contV c Ak capk Av capv) o = W at *
  have c0 : W.cell? ⟨w.heap.size, 0, none⟩ = some (.int .i64 c.kind) := blk_cell hblk1 0
  have c1 : W.cell? ⟨w.heap.size, 1, none⟩ = some (.slice Ak c.keys.length capk) := blk_cell hblk1 1
  have c2 : W.cell? ⟨w.heap.size, 2, none⟩ = some (.slice Av c.vals.length capv) := blk_cell hblk1 2
  have o0 : W.cell? ⟨w.heap.size + 1, 0, none⟩ = some (.int .i64 o.kind) := blk_cell hblk2 0
  have o1 : W.cell? ⟨w.heap.size + 1, 1, none⟩ = some (.int .i64 o.obj) := blk_cell hblk2 1
  have o2 : W.cell? ⟨w.heap.size + 1, 2, none⟩ = some (.int .i64 o.a) := blk_cell hblk2 2
  have o3 : W.cell? ⟨w.heap.size + 1, 3, none⟩ = some (.int .i64 o.b) := blk_cell hblk2 3
  have r0 : W.cell? ⟨w.heap.size + 1 + 1, 0, none⟩ = some (.int .i64 0) := blk_cell (cs := [_, _, _]) hblk3 0
  have r1 : W.cell? ⟨w.heap.size + 1 + 1, 1, none⟩ = some (.slice none 0 0) := blk_cell (cs := [_, _, _]) hblk3 1
  have r2 : W.cell? ⟨w.heap.size + 1 + 1, 2, none⟩ = some (.slice none 0 0) := blk_cell (cs := [_, _, _]) hblk3 2
  have f0 := blk_free hblk3 0
  have f1 := blk_free hblk3 1
  have f2 := blk_free hblk3 2
  have hlt2 : w.heap.size + 1 + 1 < W.heap.size := by have := HS.out; omega
  have hlt1 : w.heap.size + 1 < W.heap.size := by omega
  have hlt0 : w.heap.size < W.heap.size := by omega
  have HC := Lib.hid (h.next hbb)
  clear hblk1 hblk2 hblk3
  by_cases hr : rightB c = true
  · have hne : (ofK o.kind != c.kind) = true := by
      rw [bne_iff_ne]; exact fun e => hno ⟨hr, e⟩
    clear hno
    refine wp_region_ext (by kernel_rfl) (by kernel_rfl) ?_
    repeat (go_big_quiet_step (first | (go_at_call 15; exact Calls.ext_of (right_any c Ak Av capk capv _ (HC.out.next (Ext.below _)).k (Nat.le_trans h.kc h.km) (Nat.le_trans h.vc h.vm))) | (go_at_call 23; exact Calls.ext_of ((of_any _ _).mono fun _ _ h => ⟨h.1, h.2 ▸ Below.refl _ _⟩))))
    refine wpQuiet_nil ?_
    rintro _ ⟨x, rfl⟩
    have hwx := hbb.trans (x.below.mono hbb.size)
    go_wp2_with fail
    refine bodyPost_ret (v := .tuple #[.agg #[.int .i64 c.kind, .slice Ak c.keys.length capk, .slice Av c.vals.length capv], .int .i64 0, .bool false]) (by simp [results, Try.results16, go_sem, r0, r1, r2, hlt2]) rfl ?_
    unfold GivesDo
    have hb9 : Below w.heap.size w (((x.on.setCell ⟨w.heap.size + 1 + 1, 0, none⟩ (.int .i64 c.kind)).setCell ⟨w.heap.size + 1 + 1, 1, none⟩ (.slice Ak c.keys.length capk)).setCell ⟨w.heap.size + 1 + 1, 2, none⟩ (.slice Av c.vals.length capv)) :=
      ((hwx.setCell (by simp; omega) _).setCell (by simp; omega) _).setCell (by simp; omega) _
    exact ⟨_, _, _, _, rfl, h.next hb9, apartA_left _ _ _ _, apartA_right _ _ _ _, hb9⟩
  · have hr' : rightB c = false := by simpa using hr
    clear hno
    refine wp_region_ext (by kernel_rfl) (by kernel_rfl) ?_
    repeat (go_big_quiet_step (first | (go_at_call 15; exact Calls.ext_of (right_any c Ak Av capk capv _ (HC.out.next (Ext.below _)).k (Nat.le_trans h.kc h.km) (Nat.le_trans h.vc h.vm))) | (go_at_call 23; exact Calls.ext_of ((of_any _ _).mono fun _ _ h => ⟨h.1, h.2 ▸ Below.refl _ _⟩))))
    refine wpQuiet_nil ?_
    rintro _ ⟨x, rfl⟩
    have hwx := hbb.trans (x.below.mono hbb.size)
    go_wp2_with fail
    refine bodyPost_ret (v := .tuple #[.agg #[.int .i64 c.kind, .slice Ak c.keys.length capk, .slice Av c.vals.length capv], .int .i64 0, .bool false]) (by simp [results, Try.results16, go_sem, r0, r1, r2, hlt2]) rfl ?_
    unfold GivesDo
    have hb9 : Below w.heap.size w (((x.on.setCell ⟨w.heap.size + 1 + 1, 0, none⟩ (.int .i64 c.kind)).setCell ⟨w.heap.size + 1 + 1, 1, none⟩ (.slice Ak c.keys.length capk)).setCell ⟨w.heap.size + 1 + 1, 2, none⟩ (.slice Av c.vals.length capv)) :=
      ((hwx.setCell (by simp; omega) _).setCell (by simp; omega) _).setCell (by simp; omega) _
    exact ⟨_, _, _, _, rfl, h.next hb9, apartA_left _ _ _ _, apartA_right _ _ _ _, hb9⟩

theorem effect_kind (c : Cont) (o : OpT) : (effect c o).1.kind = c.kind := by
  unfold effect
  repeat' split
  all_goals rfl

/-- What is known of the answer of an effect. -/
def kDo (r : Cont × Int × Bool) (c : Cont) (Ak Av : Option Addr) (B : Nat) : Know := fun v w => ∃ Ak' capk' Av' capv', v = .tuple #[.agg #[.int .i64 r.1.kind, .slice Ak' r.1.keys.length capk', .slice Av' r.1.vals.length capv'], .int .i64 r.2.1, .bool r.2.2] ∧ CIn w r.1 Ak' capk' Av' capv' ∧ ApartA B c Ak Av r.1.keys Ak' ∧ ApartA B c Ak Av r.1.vals Av'
theorem kDo_keeps (r : Cont × Int × Bool) (c0 : Cont) (Ak Av : Option Addr) (B : Nat) : (kDo r c0 Ak Av B).Keeps := fun _ _ _ ⟨a, b, c, d, e, h, h1, h2⟩ hb => ⟨a, b, c, d, e, h.next hb, h1, h2⟩
def kDoC (r c : Cont) (Ak Av : Option Addr) (B : Nat) : Know := fun v w => ∃ Ak' capk' Av' capv', v = .agg #[.int .i64 r.kind, .slice Ak' r.keys.length capk', .slice Av' r.vals.length capv'] ∧ CIn w r Ak' capk' Av' capv' ∧ ApartA B c Ak Av r.keys Ak' ∧ ApartA B c Ak Av r.vals Av'
theorem kDoC_keeps (r c0 : Cont) (Ak Av : Option Addr) (B : Nat) : (kDoC r c0 Ak Av B).Keeps := fun _ _ _ ⟨a, b, c, d, e, h, h1, h2⟩ hb => ⟨a, b, c, d, e, h.next hb, h1, h2⟩

set_option maxRecDepth 100000 in
set_option maxHeartbeats 2000000 in
theorem do_yes (c : Cont) (o : OpT) (Ak Av : Option Addr) (capk capv : Nat) (w : World) (h : CIn w c Ak capk Av capv) (fk : FuncId) (r : Cont × Int × Bool) (hr : rightB c = true) (hk : ofK o.kind = c.kind)
    (hix : ∀ w, (Instr.index 62 effArr (.int .i64 o.kind)).run Try.prog w = .ok (.func (.func fk) #[] #[]) w) (hen : EntersP Try.prog fk)
    (hcon : ∀ w', CIn w' c Ak capk Av capv → Calls Try.prog fk #[.agg (contV c Ak capk Av capv).toArray, .agg o.cells.toArray] w' (GivesDo r c Ak Av w')) :
    Calls Try.prog 16 #[.agg (contV c Ak capk Av capv).toArray, .agg o.cells.toArray] w (GivesDo r c Ak Av w) := by
  obtain ⟨hblk1, hblk2, hblk3⟩ := boxW_blk w (contV c Ak capk Av capv) o
  have hbb := boxW_below w (contV c Ak capk Av capv) o
  have hsz := boxW_size w (contV c Ak capk Av capv) o
  have HS := Lib.hid hsz
  clear hsz
  have hne : (ofK o.kind != c.kind) = false := by simpa using hk
  have HX := Lib.hid hix
  have HN := Lib.hid hen
  have HCo := Lib.hid hcon
  clear hk hix hen hcon
  unfold contV OpT.cells
  go_enter Try.func16, Try.ntmps16
  go_wp2_with fail
  change Code.wp _ _ _ _ (boxW w (contV c Ak capk Av capv) o)
  generalize boxW w (contV c Ak capk Av capv) o = W at *
  have c0 : W.cell? ⟨w.heap.size, 0, none⟩ = some (.int .i64 c.kind) := blk_cell hblk1 0
  have c1 : W.cell? ⟨w.heap.size, 1, none⟩ = some (.slice Ak c.keys.length capk) := blk_cell hblk1 1
  have c2 : W.cell? ⟨w.heap.size, 2, none⟩ = some (.slice Av c.vals.length capv) := blk_cell hblk1 2
  have o0 : W.cell? ⟨w.heap.size + 1, 0, none⟩ = some (.int .i64 o.kind) := blk_cell hblk2 0
  have o1 : W.cell? ⟨w.heap.size + 1, 1, none⟩ = some (.int .i64 o.obj) := blk_cell hblk2 1
  have o2 : W.cell? ⟨w.heap.size + 1, 2, none⟩ = some (.int .i64 o.a) := blk_cell hblk2 2
  have o3 : W.cell? ⟨w.heap.size + 1, 3, none⟩ = some (.int .i64 o.b) := blk_cell hblk2 3
  have r0 : W.cell? ⟨w.heap.size + 1 + 1, 0, none⟩ = some (.int .i64 0) := blk_cell (cs := [_, _, _]) hblk3 0
  have r1 : W.cell? ⟨w.heap.size + 1 + 1, 1, none⟩ = some (.slice none 0 0) := blk_cell (cs := [_, _, _]) hblk3 1
  have r2 : W.cell? ⟨w.heap.size + 1 + 1, 2, none⟩ = some (.slice none 0 0) := blk_cell (cs := [_, _, _]) hblk3 2
  have f0 := blk_free hblk3 0
  have f1 := blk_free hblk3 1
  have f2 := blk_free hblk3 2
  have hlt2 : w.heap.size + 1 + 1 < W.heap.size := by have := HS.out; omega
  have hlt1 : w.heap.size + 1 < W.heap.size := by omega
  have hlt0 : w.heap.size < W.heap.size := by omega
  have HC := Lib.hid (h.next hbb)
  clear hblk1 hblk2 hblk3
  refine wp_region_ext (by kernel_rfl) (by kernel_rfl) ?_
  repeat (go_big_quiet_step (first | (go_at_call 15; exact Calls.ext_of (right_any c Ak Av capk capv _ (HC.out.next (Ext.below _)).k (Nat.le_trans h.kc h.km) (Nat.le_trans h.vc h.vm))) | (go_at_call 23; exact Calls.ext_of ((of_any _ _).mono fun _ _ h => ⟨h.1, h.2 ▸ Below.refl _ _⟩))))
  refine wpQuiet_nil ?_
  rintro _ ⟨x, rfl⟩
  have hwx := hbb.trans (x.below.mono hbb.size)
  have HCx := Lib.hid (HC.out.next x.below)
  have hx2 : w.heap.size + 1 + 1 < x.on.heap.size := Nat.lt_of_lt_of_le hlt2 x.below.size
  have hx1 : w.heap.size + 1 < x.on.heap.size := by omega
  have hx0 : w.heap.size < x.on.heap.size := by omega
  go_wp2_with fail
  refine wp_region_relT [_, _, _, _, _, _, _, _, _, _] _ rfl (by kernel_rfl) (by kernel_rfl) (by kernel_rfl) ?_
  refine rel_call (f := 32) (c := effArr) rfl en32 (by kernel_rfl) (by kernel_rfl) (by kernel_rfl) (fun y => effects_any _) rfl ?_
  simp only [Act.put, List.setIfInBounds_toArray, List.set_cons_zero, List.set_cons_succ]
  refine rel_seg 29 [_, _] _ _ (by kernel_rfl) rfl ?_
  repeat (go_big_quiet_step (fail))
  refine wpQuiet_nil ?_
  refine rel_run_det (.func (.func fk) #[] #[]) (by kernel_rfl) (by kernel_rfl) (by kernel_rfl) (fun y A hA => ?_) ?_
  · have e1 : A.eval (.tmp 19) = effArr := hA 19 (by decide)
    have e2 : A.eval (.tmp 21) = .int .i64 o.kind := hA 21 (by decide)
    refine ⟨y.on, ?_, Below.refl _ _⟩
    simp only [execOp, Sem.run_bind, e1, e2, HX.out, Result.andThen_ok, Sem.run_pure]
  simp only [Act.put, List.setIfInBounds_toArray, List.set_cons_zero, List.set_cons_succ]
  refine rel_seg 29 [_, _] _ _ (by kernel_rfl) rfl ?_
  repeat (go_big_quiet_step (fail))
  refine wpQuiet_nil ?_
  refine rel_callv_new (f := fk) (cap := #[]) 25 (kDo r c Ak Av x.on.heap.size) rfl (kDo_keeps _ _ _ _ _) rfl HN.out rfl (by kernel_rfl) (by kernel_rfl)
    (fun y => (HCo.out y.on (HCx.out.next y.below)).mono fun _ _ ⟨a1, a2, a3, a4, e, hc, h1, h2, hb⟩ => ⟨_, e, ⟨a1, a2, a3, a4, rfl, hc, fun g hg => h1 g (Nat.lt_of_lt_of_le hg y.below.size), fun g hg => h2 g (Nat.lt_of_lt_of_le hg y.below.size)⟩, hb⟩) rfl ?_
  refine rel_run_new 26 (kDoC r.1 c Ak Av x.on.heap.size) rfl (kDoC_keeps _ _ _ _ _) (by kernel_rfl) (by kernel_rfl) (fun y A hA => ?_) ?_
  · obtain ⟨a1, a2, a3, a4, e, hc, h1, h2⟩ : kDo r c Ak Av x.on.heap.size (slot A 25) y.on := hA 25 (by decide)
    have e1 : A.eval (.tmp 25) = _ := e
    refine ⟨_, y.on, ?_, ⟨a1, a2, a3, a4, rfl, hc, h1, h2⟩, Below.refl _ _⟩
    simp only [execOp, Sem.run_bind, e1]
    rfl
  refine rel_run_det (.int .i64 r.2.1) (by kernel_rfl) (by kernel_rfl) (by kernel_rfl) (fun y A hA => ?_) ?_
  · obtain ⟨a1, a2, a3, a4, e, hc, h1, h2⟩ : kDo r c Ak Av x.on.heap.size (slot A 25) y.on := hA 25 (by decide)
    have e1 : A.eval (.tmp 25) = _ := e
    refine ⟨y.on, ?_, Below.refl _ _⟩
    simp only [execOp, Sem.run_bind, e1]
    rfl
  simp only [Act.put, List.setIfInBounds_toArray, List.set_cons_zero, List.set_cons_succ]
  refine rel_run_det (.bool r.2.2) (by kernel_rfl) (by kernel_rfl) (by kernel_rfl) (fun y A hA => ?_) ?_
  · obtain ⟨a1, a2, a3, a4, e, hc, h1, h2⟩ : kDo r c Ak Av x.on.heap.size (slot A 25) y.on := hA 25 (by decide)
    have e1 : A.eval (.tmp 25) = _ := e
    refine ⟨y.on, ?_, Below.refl _ _⟩
    simp only [execOp, Sem.run_bind, e1]
    rfl
  simp only [Act.put, List.setIfInBounds_toArray, List.set_cons_zero, List.set_cons_succ]
  refine rel_nil (by simp [keysOf]) fun y => ?_
  simp only [withNd]
  rintro _ ⟨a1, a2, a3, a4, rfl, hc, h1, h2⟩ v25 _
  simp only [Act.put, List.setIfInBounds_toArray, List.set_cons_zero, List.set_cons_succ]
  have q0 : y.on.cell? ⟨w.heap.size + 1 + 1, 0, none⟩ = some (.int .i64 0) := (y.below.cell hx2).trans ((x.below.cell hlt2).trans r0)
  have q1 : y.on.cell? ⟨w.heap.size + 1 + 1, 1, none⟩ = some (.slice none 0 0) := (y.below.cell hx2).trans ((x.below.cell hlt2).trans r1)
  have q2 : y.on.cell? ⟨w.heap.size + 1 + 1, 2, none⟩ = some (.slice none 0 0) := (y.below.cell hx2).trans ((x.below.cell hlt2).trans r2)
  have g0 : y.on.frozen? ⟨w.heap.size + 1 + 1, 0, none⟩ = false := (y.below.frozen hx2).trans ((x.below.frozen hlt2).trans f0)
  have g1 : y.on.frozen? ⟨w.heap.size + 1 + 1, 1, none⟩ = false := (y.below.frozen hx2).trans ((x.below.frozen hlt2).trans f1)
  have g2 : y.on.frozen? ⟨w.heap.size + 1 + 1, 2, none⟩ = false := (y.below.frozen hx2).trans ((x.below.frozen hlt2).trans f2)
  go_wp2_with fail
  refine bodyPost_ret (v := .tuple #[.agg #[.int .i64 r.1.kind, .slice a1 r.1.keys.length a2, .slice a3 r.1.vals.length a4], .int .i64 r.2.1, .bool r.2.2]) (by simp [results, Try.results16, go_sem, q0, q1, q2]) rfl ?_
  have hwy := hwx.trans (y.below.mono hwx.size)
  have n1 : c.keys ≠ [] → ∀ a, Ak = some a → a.block ≠ w.heap.size + 1 + 1 := fun hn a ha => by have := row_lt h.k hn a ha; omega
  have n2 : c.vals ≠ [] → ∀ a, Av = some a → a.block ≠ w.heap.size + 1 + 1 := fun hn a ha => by have := row_lt h.v hn a ha; omega
  have hout := cont_out (w := w) (w1 := y.on) (g := w.heap.size + 1 + 1) hwy (by omega) hc (h1 _ hx2 n1 n2) (h2 _ hx2 n1 n2) (.int .i64 r.1.kind) (.slice a1 r.1.keys.length a2) (.slice a3 r.1.vals.length a4)
  exact ⟨_, _, _, _, rfl, hout.1, fun g hg => h1 g (by omega), fun g hg => h2 g (by omega), hout.2⟩

theorem ofK_cases {k : Int} (h : ofK k = 1 ∨ ofK k = 2 ∨ ofK k = 3) : k = 1 ∨ k = 2 ∨ k = 3 ∨ k = 4 ∨ k = 5 ∨ k = 6 ∨ k = 7 := by
  unfold ofK at h
  split at h
  · omega
  · split at h
    · omega
    · split at h <;> omega
theorem right_kind {c : Cont} (h : rightB c = true) : c.kind = 1 ∨ c.kind = 2 ∨ c.kind = 3 := by
  unfold rightB at h
  split at h
  · omega
  · split at h
    · omega
    · cases h
theorem right_map {c : Cont} (h : rightB c = true) (hk : c.kind = 1) : c.keys.length = c.vals.length ∧ Rises c.keys := by
  unfold rightB at h
  rw [if_pos hk] at h
  simpa using h

theorem do_any (c : Cont) (o : OpT) (Ak Av : Option Addr) (capk capv : Nat) (w : World) (h : CIn w c Ak capk Av capv) (hl : c.keys.length ≤ 1000000) (hl2 : c.vals.length ≤ 1000000) :
    Calls Try.prog 16 #[.agg (contV c Ak capk Av capv).toArray, .agg o.cells.toArray] w (GivesDo (does c o) c Ak Av w) := by
  unfold does
  by_cases hy : rightB c = true ∧ ofK o.kind = c.kind
  · rw [if_pos hy]
    obtain ⟨hr, hk⟩ := hy
    have hkk := ofK_cases (k := o.kind) (by rw [hk]; exact right_kind hr)
    have hmap : o.kind = 1 ∨ o.kind = 2 ∨ o.kind = 3 → c.keys.length = c.vals.length ∧ Rises c.keys := fun h3 => right_map hr (by rw [← hk]; unfold ofK; rw [if_pos h3])
    rcases hkk with e | e | e | e | e | e | e
    · exact do_yes c o Ak Av capk capv w h 39 _ hr hk (fun w => by rw [e]; kernel_rfl) en39 fun w' h' => get_any c o Ak Av capk capv w' h' hl (hmap (by omega)).2 (hmap (by omega)).1 e
    · exact do_yes c o Ak Av capk capv w h 40 _ hr hk (fun w => by rw [e]; kernel_rfl) en40 fun w' h' => put_any c o Ak Av capk capv w' h' hl (hmap (by omega)).2 (hmap (by omega)).1 e
    · exact do_yes c o Ak Av capk capv w h 41 _ hr hk (fun w => by rw [e]; kernel_rfl) en41 fun w' h' => del_any c o Ak Av capk capv w' h' hl (hmap (by omega)).2 (hmap (by omega)).1 e
    · exact do_yes c o Ak Av capk capv w h 42 _ hr hk (fun w => by rw [e]; kernel_rfl) en42 fun w' h' => push_any c o Ak Av capk capv w' h' hl2 e
    · exact do_yes c o Ak Av capk capv w h 43 _ hr hk (fun w => by rw [e]; kernel_rfl) en43 fun w' h' => first_any c o Ak Av capk capv w' h' hl2 (.inl e)
    · exact do_yes c o Ak Av capk capv w h 44 _ hr hk (fun w => by rw [e]; kernel_rfl) en44 fun w' h' => send_any c o Ak Av capk capv w' h' hl2 e
    · exact do_yes c o Ak Av capk capv w h 43 _ hr hk (fun w => by rw [e]; kernel_rfl) en43 fun w' h' => first_any c o Ak Av capk capv w' h' hl2 (.inr e)
  · rw [if_neg hy]
    exact do_no c o Ak Av capk capv w h hy
end Go.Proofs.Ytknancnmdpdefaa
