/- The contracts of put, del, push, send. -/
import Derived.Test.YtknancnmdpdefaaEff
namespace Go.Proofs.Ytknancnmdpdefaa
open Go.RowKit

def kCont (c : Cont) : Know := fun v w => IsCont w v c
theorem kCont_keeps (c : Cont) : (kCont c).Keeps := fun _ _ _ h hb => h.next hb
theorem insAt_zero (l : List Int) (x : Int) : insAt l 0 x = x :: l := by simp [insAt]
theorem insAt_end (l : List Int) (x : Int) : insAt l l.length x = l ++ [x] := by simp [insAt]

/-- The last steps: the result's cells. -/
theorem cont_out {w w1 : World} {g : Nat} {c : Cont} {Ak Av : Option Addr} {capk capv : Nat} (hw : Below w.heap.size w w1) (hg : w.heap.size ≤ g) (hc : CIn w1 c Ak capk Av capv)
    (hk : c.keys ≠ [] → ∀ a, Ak = some a → a.block ≠ g) (hv : c.vals ≠ [] → ∀ a, Av = some a → a.block ≠ g) (x0 x1 x2 : Value) :
    CIn (((w1.setCell ⟨g, 0, none⟩ x0).setCell ⟨g, 1, none⟩ x1).setCell ⟨g, 2, none⟩ x2) c Ak capk Av capv ∧ Below w.heap.size w (((w1.setCell ⟨g, 0, none⟩ x0).setCell ⟨g, 1, none⟩ x1).setCell ⟨g, 2, none⟩ x2) := by
  refine ⟨?_, ((hw.setCell (by simpa using hg) _).setCell (by simpa using hg) _).setCell (by simpa using hg) _⟩
  have keep : ∀ p : Addr, p.block ≠ g → (((w1.setCell ⟨g, 0, none⟩ x0).setCell ⟨g, 1, none⟩ x1).setCell ⟨g, 2, none⟩ x2).cell? p = w1.cell? p := fun p hp => by
    have e : ∀ (W : World) (i : Nat) (u : Value), (W.setCell ⟨g, i, none⟩ u).cell? p = W.cell? p := fun W i u => World.cell?_of_block (Below.heap_setCell W ⟨g, i, none⟩ u p.block hp)
    rw [e, e, e]
  have hsz : (((w1.setCell ⟨g, 0, none⟩ x0).setCell ⟨g, 1, none⟩ x1).setCell ⟨g, 2, none⟩ x2).heap.size = w1.heap.size := by simp [World.setCell]
  refine ⟨fun i x hi => ?_, hc.kc, hc.km, hc.kn, fun i x hi => ?_, hc.vc, hc.vm, hc.vn⟩
  · obtain ⟨b, o, hA, hb, hcell⟩ := hc.k i x hi
    exact ⟨b, o, hA, by rw [hsz]; exact hb, fun j u hu => (keep _ (show b ≠ g from hk (fun e => by rw [e] at hi; simp at hi) ⟨b, o, none⟩ hA)).trans (hcell j u hu)⟩
  · obtain ⟨b, o, hA, hb, hcell⟩ := hc.v i x hi
    exact ⟨b, o, hA, by rw [hsz]; exact hb, fun j u hu => (keep _ (show b ≠ g from hv (fun e => by rw [e] at hi; simp at hi) ⟨b, o, none⟩ hA)).trans (hcell j u hu)⟩

set_option maxRecDepth 100000 in
set_option maxHeartbeats 1000000 in
theorem put_any (c : Cont) (o : OpT) (Ak Av : Option Addr) (capk capv : Nat) (w : World) (h : CIn w c Ak capk Av capv) (hl : c.keys.length ≤ 1000000) (hri : Rises c.keys) (hlen : c.keys.length = c.vals.length) (hk : o.kind = 2) :
    Calls Try.prog 40 #[.agg (contV c Ak capk Av capv).toArray, .agg o.cells.toArray] w (GivesDo (effect c o) c Ak Av w) := by
  obtain ⟨hblk1, hblk2, hblk3⟩ := boxW_blk w (contV c Ak capk Av capv) o
  have hbb := boxW_below w (contV c Ak capk Av capv) o
  have hsz := boxW_size w (contV c Ak capk Av capv) o
  have HS := Lib.hid hsz
  have HK := Lib.hid hk
  clear hsz hk
  have HL := Lib.hid hlen
  have hpk := pos_le c.keys o.a
  clear hlen
  unfold contV OpT.cells
  go_enter Try.func40, Try.ntmps40
  go_wp2_with fail
  change Calls _ _ _ (boxW w (contV c Ak capk Av capv) o) _
  generalize boxW w (contV c Ak capk Av capv) o = W at *
  refine (find_any Ak capk c.keys o.a W (h.next hbb).k (by omega) hri).mono ?_
  rintro e w1 ⟨rfl, hb1⟩
  have hw1 := hbb.trans (hb1.mono hbb.size)
  have k1 := blk_below hblk1 hb1
  have k2 := blk_below hblk2 hb1
  have k3 := blk_below hblk3 hb1
  have c0 : w1.cell? ⟨w.heap.size, 0, none⟩ = some (.int .i64 c.kind) := blk_cell k1 0
  have c1 : w1.cell? ⟨w.heap.size, 1, none⟩ = some (.slice Ak c.keys.length capk) := blk_cell k1 1
  have c2 : w1.cell? ⟨w.heap.size, 2, none⟩ = some (.slice Av c.vals.length capv) := blk_cell k1 2
  have o2 : w1.cell? ⟨w.heap.size + 1, 2, none⟩ = some (.int .i64 o.a) := blk_cell k2 2
  have o3 : w1.cell? ⟨w.heap.size + 1, 3, none⟩ = some (.int .i64 o.b) := blk_cell k2 3
  have r0 : w1.cell? ⟨w.heap.size + 1 + 1, 0, none⟩ = some (.int .i64 0) := blk_cell (cs := [_, _, _]) k3 0
  have r1 : w1.cell? ⟨w.heap.size + 1 + 1, 1, none⟩ = some (.slice none 0 0) := blk_cell (cs := [_, _, _]) k3 1
  have r2 : w1.cell? ⟨w.heap.size + 1 + 1, 2, none⟩ = some (.slice none 0 0) := blk_cell (cs := [_, _, _]) k3 2
  have f0 := blk_free k3 0
  have f1 := blk_free k3 1
  have f2 := blk_free k3 2
  have hlt2 : w.heap.size + 1 + 1 < w1.heap.size := by have := hb1.size; have := HS.out; omega
  have hlt1 : w.heap.size + 1 < w1.heap.size := by omega
  have hlt0 : w.heap.size < w1.heap.size := by omega
  have HC := Lib.hid (h.next hw1)
  clear hblk1 hblk2 hblk3 hb1 hri k1 k2 k3
  rcases hf : decide (c.keys[pos c.keys o.a]? = some o.a) with _ | _
  · have heff : effect c o = (⟨c.kind, insAt c.keys (pos c.keys o.a) o.a, insAt c.vals (pos c.keys o.a) o.b⟩, 0, true) := by unfold effect hasB; rw [if_neg (show ¬ o.kind = 1 by have := HK.out; omega), if_pos HK.out, hf]; rfl
    have HE := Lib.hid heff
    have hpv : pos c.keys o.a ≤ c.vals.length := by have := HL.out; omega
    have hlv : c.vals.length ≤ 1000000 := by have := HL.out; omega
    clear heff hf
    go_wp2_with fail
    refine wp_region_relT [_, _, _, _, _, _, _, _, _, _, _, _, _, _, _] _ rfl (by kernel_rfl) (by kernel_rfl) (by kernel_rfl) ?_
    refine rel_seg 34 [_, _, _, _, _, _, _] _ _ (by kernel_rfl) rfl ?_
    repeat (go_big_quiet_step (fail))
    refine wpQuiet_nil ?_
    refine rel_call_new (f := 47) 26 (kFresh ints (insAt c.keys (pos c.keys o.a) o.a) w1.heap.size) rfl (kFresh_keeps _ _ _) rfl en47 (by kernel_rfl) (by kernel_rfl) (fun x => (with_any Ak capk c.keys (pos c.keys o.a) o.a _ (HC.out.next x.below).k hl h.kc h.km h.kn hpk).mono fun _ _ ⟨v, e, hv, hf, hb⟩ => ⟨v, e, ⟨hv, fun k hk => Nat.le_trans x.below.size (hf k hk)⟩, hb⟩) rfl ?_
    refine rel_seg 34 [_, _, _, _, _] _ _ (by kernel_rfl) rfl ?_
    repeat (go_big_quiet_step (fail))
    refine wpQuiet_nil ?_
    refine rel_call_new (f := 47) 32 (kFresh ints (insAt c.vals (pos c.keys o.a) o.b) w1.heap.size) rfl (kFresh_keeps _ _ _) rfl en47 (by kernel_rfl) (by kernel_rfl) (fun x => (with_any Av capv c.vals (pos c.keys o.a) o.b _ (HC.out.next x.below).v hlv h.vc h.vm h.vn hpv).mono fun _ _ ⟨v, e, hv, hf, hb⟩ => ⟨v, e, ⟨hv, fun k hk => Nat.le_trans x.below.size (hf k hk)⟩, hb⟩) rfl ?_
    refine rel_run_new 33 (fun v w' => ∃ x1 x2, v = .agg #[.int .i64 c.kind, x1, x2] ∧ kFresh ints (insAt c.keys (pos c.keys o.a) o.a) w1.heap.size x1 w' ∧ kFresh ints (insAt c.vals (pos c.keys o.a) o.b) w1.heap.size x2 w') rfl (fun v w w' ⟨x1, x2, e, h1, h2⟩ hb => ⟨x1, x2, e, kFresh_keeps _ _ _ _ _ _ h1 hb, kFresh_keeps _ _ _ _ _ _ h2 hb⟩) (by kernel_rfl) (by kernel_rfl) (fun x A hA => ?_) ?_
    · have e0 : slot A 20 = _ := hA 20 (by decide)
      have h1 : kFresh ints _ _ (slot A 26) x.on := hA 26 (by decide)
      obtain ⟨⟨A1, q1, e1, g1⟩, g1'⟩ := h1
      have h2 : kFresh ints _ _ (slot A 32) x.on := hA 32 (by decide)
      obtain ⟨⟨A2, q2, e2, g2⟩, g2'⟩ := h2
      refine ⟨_, x.on, ?_, ⟨_, _, rfl, ⟨⟨A1, q1, rfl, g1⟩, ?_⟩, ⟨⟨A2, q2, rfl, g2⟩, ?_⟩⟩, Below.refl _ _⟩
      · simp [slot] at e0 e1 e2
        simp [go_sem, e0, e1, e2]
      · rw [e1] at g1'; exact g1'
      · rw [e2] at g2'; exact g2'
    refine rel_nil (by simp [keysOf]) fun x => ?_
    simp only [withNd]
    rintro _ ⟨x1, x2, rfl, ⟨hx1, hf1⟩, ⟨hx2, hf2⟩⟩
    intro _ _
    intro _ _
    simp only [Act.put, List.setIfInBounds_toArray, List.set_cons_zero, List.set_cons_succ]
    obtain ⟨K1, qk, l1, E1, rfl, p1, p2, p3, p4⟩ := hx1.open_
    obtain ⟨V1, qv, l2, E2, rfl, s1, s2, s3, s4⟩ := hx2.open_
    go_wp2_with fail
    refine bodyPost_ret (v := .tuple #[.agg #[.int .i64 c.kind, .slice K1 l1.length qk, .slice V1 l2.length qv], .int .i64 0, .bool true]) (by simp [results, Try.results40, go_sem, r0, r1, r2, hlt2]) rfl ?_
    have hwx := hw1.trans (x.below.mono hw1.size)
    have hout := cont_out (w := w) (w1 := x.on) (g := w.heap.size + 1 + 1) (c := ⟨c.kind, l1, l2⟩) (Ak := K1) (Av := V1) (capk := qk) (capv := qv) hwx (by omega) ⟨p4, p1, p2, p3, s4, s1, s2, s3⟩
      (fun _ a e => by have := hf1 a.block (by rw [e]; rfl); omega) (fun _ a e => by have := hf2 a.block (by rw [e]; rfl); omega) (.int .i64 c.kind) (.slice K1 l1.length qk) (.slice V1 l2.length qv)
    have e1 := E1.out
    have e2 := E2.out
    subst e1 e2
    unfold GivesDo
    rw [HE.out]
    exact ⟨_, _, _, _, rfl, hout.1, apartA_new hw1.size (fun a e => hf1 a.block (by rw [e]; rfl)), apartA_new hw1.size (fun a e => hf2 a.block (by rw [e]; rfl)), hout.2⟩
  · have heff : effect c o = (c, 0, false) := by unfold effect hasB; rw [if_neg (show ¬ o.kind = 1 by have := HK.out; omega), if_pos HK.out, hf]; rfl
    have HE := Lib.hid heff
    clear heff hf
    go_wp2_with fail
    refine bodyPost_ret (v := .tuple #[.agg #[.int .i64 c.kind, .slice Ak c.keys.length capk, .slice Av c.vals.length capv], .int .i64 0, .bool false]) (by simp [results, Try.results40, go_sem, r0, r1, r2]) rfl ?_
    unfold GivesDo
    rw [HE.out]
    have hb9 : Below w.heap.size w (((w1.setCell ⟨w.heap.size + 1 + 1, 0, none⟩ (.int .i64 c.kind)).setCell ⟨w.heap.size + 1 + 1, 1, none⟩ (.slice Ak c.keys.length capk)).setCell ⟨w.heap.size + 1 + 1, 2, none⟩ (.slice Av c.vals.length capv)) :=
      ((hw1.setCell (by simp; omega) _).setCell (by simp; omega) _).setCell (by simp; omega) _
    exact ⟨_, _, _, _, rfl, h.next hb9, apartA_left _ _ _ _, apartA_right _ _ _ _, hb9⟩

set_option maxRecDepth 100000 in
set_option maxHeartbeats 1000000 in
theorem del_any (c : Cont) (o : OpT) (Ak Av : Option Addr) (capk capv : Nat) (w : World) (h : CIn w c Ak capk Av capv) (hl : c.keys.length ≤ 1000000) (hri : Rises c.keys) (hlen : c.keys.length = c.vals.length) (hk : o.kind = 3) :
    Calls Try.prog 41 #[.agg (contV c Ak capk Av capv).toArray, .agg o.cells.toArray] w (GivesDo (effect c o) c Ak Av w) := by
  obtain ⟨hblk1, hblk2, hblk3⟩ := boxW_blk w (contV c Ak capk Av capv) o
  have hbb := boxW_below w (contV c Ak capk Av capv) o
  have hsz := boxW_size w (contV c Ak capk Av capv) o
  have HS := Lib.hid hsz
  have HK := Lib.hid hk
  clear hsz hk
  have HL := Lib.hid hlen
  have hpk := pos_le c.keys o.a
  clear hlen
  unfold contV OpT.cells
  go_enter Try.func41, Try.ntmps41
  go_wp2_with fail
  change Calls _ _ _ (boxW w (contV c Ak capk Av capv) o) _
  generalize boxW w (contV c Ak capk Av capv) o = W at *
  refine (find_any Ak capk c.keys o.a W (h.next hbb).k (by omega) hri).mono ?_
  rintro e w1 ⟨rfl, hb1⟩
  have hw1 := hbb.trans (hb1.mono hbb.size)
  have k1 := blk_below hblk1 hb1
  have k2 := blk_below hblk2 hb1
  have k3 := blk_below hblk3 hb1
  have c0 : w1.cell? ⟨w.heap.size, 0, none⟩ = some (.int .i64 c.kind) := blk_cell k1 0
  have c1 : w1.cell? ⟨w.heap.size, 1, none⟩ = some (.slice Ak c.keys.length capk) := blk_cell k1 1
  have c2 : w1.cell? ⟨w.heap.size, 2, none⟩ = some (.slice Av c.vals.length capv) := blk_cell k1 2
  have o2 : w1.cell? ⟨w.heap.size + 1, 2, none⟩ = some (.int .i64 o.a) := blk_cell k2 2
  have o3 : w1.cell? ⟨w.heap.size + 1, 3, none⟩ = some (.int .i64 o.b) := blk_cell k2 3
  have r0 : w1.cell? ⟨w.heap.size + 1 + 1, 0, none⟩ = some (.int .i64 0) := blk_cell (cs := [_, _, _]) k3 0
  have r1 : w1.cell? ⟨w.heap.size + 1 + 1, 1, none⟩ = some (.slice none 0 0) := blk_cell (cs := [_, _, _]) k3 1
  have r2 : w1.cell? ⟨w.heap.size + 1 + 1, 2, none⟩ = some (.slice none 0 0) := blk_cell (cs := [_, _, _]) k3 2
  have f0 := blk_free k3 0
  have f1 := blk_free k3 1
  have f2 := blk_free k3 2
  have hlt2 : w.heap.size + 1 + 1 < w1.heap.size := by have := hb1.size; have := HS.out; omega
  have hlt1 : w.heap.size + 1 < w1.heap.size := by omega
  have hlt0 : w.heap.size < w1.heap.size := by omega
  have HC := Lib.hid (h.next hw1)
  clear hblk1 hblk2 hblk3 hb1 hri k1 k2 k3
  rcases hf : decide (c.keys[pos c.keys o.a]? = some o.a) with _ | _
  · have heff : effect c o = (c, 0, false) := by unfold effect hasB; rw [if_neg (show ¬ o.kind = 1 by have := HK.out; omega), if_neg (show ¬ o.kind = 2 by have := HK.out; omega), if_pos HK.out, hf]; rfl
    have HE := Lib.hid heff
    clear heff hf
    go_wp2_with fail
    refine bodyPost_ret (v := .tuple #[.agg #[.int .i64 c.kind, .slice Ak c.keys.length capk, .slice Av c.vals.length capv], .int .i64 0, .bool false]) (by simp [results, Try.results41, go_sem, r0, r1, r2]) rfl ?_
    unfold GivesDo
    rw [HE.out]
    have hb9 : Below w.heap.size w (((w1.setCell ⟨w.heap.size + 1 + 1, 0, none⟩ (.int .i64 c.kind)).setCell ⟨w.heap.size + 1 + 1, 1, none⟩ (.slice Ak c.keys.length capk)).setCell ⟨w.heap.size + 1 + 1, 2, none⟩ (.slice Av c.vals.length capv)) :=
      ((hw1.setCell (by simp; omega) _).setCell (by simp; omega) _).setCell (by simp; omega) _
    exact ⟨_, _, _, _, rfl, h.next hb9, apartA_left _ _ _ _, apartA_right _ _ _ _, hb9⟩
  · have heff : effect c o = (⟨c.kind, delAt c.keys (pos c.keys o.a), delAt c.vals (pos c.keys o.a)⟩, 0, true) := by unfold effect hasB; rw [if_neg (show ¬ o.kind = 1 by have := HK.out; omega), if_neg (show ¬ o.kind = 2 by have := HK.out; omega), if_pos HK.out, hf]; rfl
    have HE := Lib.hid heff
    have hpk' : pos c.keys o.a < c.keys.length := lt_of_some (of_decide_eq_true hf)
    have hpv : pos c.keys o.a < c.vals.length := by have := HL.out; omega
    have hlv : c.vals.length ≤ 1000000 := by have := HL.out; omega
    clear heff hf
    go_wp2_with fail
    refine wp_region_relT [_, _, _, _, _, _, _, _, _, _, _] _ rfl (by kernel_rfl) (by kernel_rfl) (by kernel_rfl) ?_
    refine rel_seg 31 [_, _, _, _, _] _ _ (by kernel_rfl) rfl ?_
    repeat (go_big_quiet_step (fail))
    refine wpQuiet_nil ?_
    refine rel_call_new (f := 48) 25 (kFresh ints (delAt c.keys (pos c.keys o.a)) w1.heap.size) rfl (kFresh_keeps _ _ _) rfl en48 (by kernel_rfl) (by kernel_rfl) (fun x => (without_any Ak capk c.keys (pos c.keys o.a) _ (HC.out.next x.below).k hl h.kc h.km h.kn hpk').mono fun _ _ ⟨v, e, hv, hf, hb⟩ => ⟨v, e, ⟨hv, fun k hk => Nat.le_trans x.below.size (hf k hk)⟩, hb⟩) rfl ?_
    refine rel_seg 31 [_, _, _] _ _ (by kernel_rfl) rfl ?_
    repeat (go_big_quiet_step (fail))
    refine wpQuiet_nil ?_
    refine rel_call_new (f := 48) 29 (kFresh ints (delAt c.vals (pos c.keys o.a)) w1.heap.size) rfl (kFresh_keeps _ _ _) rfl en48 (by kernel_rfl) (by kernel_rfl) (fun x => (without_any Av capv c.vals (pos c.keys o.a) _ (HC.out.next x.below).v hlv h.vc h.vm h.vn hpv).mono fun _ _ ⟨v, e, hv, hf, hb⟩ => ⟨v, e, ⟨hv, fun k hk => Nat.le_trans x.below.size (hf k hk)⟩, hb⟩) rfl ?_
    refine rel_run_new 30 (fun v w' => ∃ x1 x2, v = .agg #[.int .i64 c.kind, x1, x2] ∧ kFresh ints (delAt c.keys (pos c.keys o.a)) w1.heap.size x1 w' ∧ kFresh ints (delAt c.vals (pos c.keys o.a)) w1.heap.size x2 w') rfl (fun v w w' ⟨x1, x2, e, h1, h2⟩ hb => ⟨x1, x2, e, kFresh_keeps _ _ _ _ _ _ h1 hb, kFresh_keeps _ _ _ _ _ _ h2 hb⟩) (by kernel_rfl) (by kernel_rfl) (fun x A hA => ?_) ?_
    · have e0 : slot A 21 = _ := hA 21 (by decide)
      have h1 : kFresh ints _ _ (slot A 25) x.on := hA 25 (by decide)
      obtain ⟨⟨A1, q1, e1, g1⟩, g1'⟩ := h1
      have h2 : kFresh ints _ _ (slot A 29) x.on := hA 29 (by decide)
      obtain ⟨⟨A2, q2, e2, g2⟩, g2'⟩ := h2
      refine ⟨_, x.on, ?_, ⟨_, _, rfl, ⟨⟨A1, q1, rfl, g1⟩, ?_⟩, ⟨⟨A2, q2, rfl, g2⟩, ?_⟩⟩, Below.refl _ _⟩
      · simp [slot] at e0 e1 e2
        simp [go_sem, e0, e1, e2]
      · rw [e1] at g1'; exact g1'
      · rw [e2] at g2'; exact g2'
    refine rel_nil (by simp [keysOf]) fun x => ?_
    simp only [withNd]
    rintro _ ⟨x1, x2, rfl, ⟨hx1, hf1⟩, ⟨hx2, hf2⟩⟩
    intro _ _
    intro _ _
    simp only [Act.put, List.setIfInBounds_toArray, List.set_cons_zero, List.set_cons_succ]
    obtain ⟨K1, qk, l1, E1, rfl, p1, p2, p3, p4⟩ := hx1.open_
    obtain ⟨V1, qv, l2, E2, rfl, s1, s2, s3, s4⟩ := hx2.open_
    go_wp2_with fail
    refine bodyPost_ret (v := .tuple #[.agg #[.int .i64 c.kind, .slice K1 l1.length qk, .slice V1 l2.length qv], .int .i64 0, .bool true]) (by simp [results, Try.results41, go_sem, r0, r1, r2, hlt2]) rfl ?_
    have hwx := hw1.trans (x.below.mono hw1.size)
    have hout := cont_out (w := w) (w1 := x.on) (g := w.heap.size + 1 + 1) (c := ⟨c.kind, l1, l2⟩) (Ak := K1) (Av := V1) (capk := qk) (capv := qv) hwx (by omega) ⟨p4, p1, p2, p3, s4, s1, s2, s3⟩
      (fun _ a e => by have := hf1 a.block (by rw [e]; rfl); omega) (fun _ a e => by have := hf2 a.block (by rw [e]; rfl); omega) (.int .i64 c.kind) (.slice K1 l1.length qk) (.slice V1 l2.length qv)
    have e1 := E1.out
    have e2 := E2.out
    subst e1 e2
    unfold GivesDo
    rw [HE.out]
    exact ⟨_, _, _, _, rfl, hout.1, apartA_new hw1.size (fun a e => hf1 a.block (by rw [e]; rfl)), apartA_new hw1.size (fun a e => hf2 a.block (by rw [e]; rfl)), hout.2⟩

set_option maxRecDepth 100000 in
set_option maxHeartbeats 1000000 in
theorem push_any (c : Cont) (o : OpT) (Ak Av : Option Addr) (capk capv : Nat) (w : World) (h : CIn w c Ak capk Av capv) (hl : c.vals.length ≤ 1000000) (hk : o.kind = 4) :
    Calls Try.prog 42 #[.agg (contV c Ak capk Av capv).toArray, .agg o.cells.toArray] w (GivesDo (effect c o) c Ak Av w) := by
  obtain ⟨hblk1, hblk2, hblk3⟩ := boxW_blk w (contV c Ak capk Av capv) o
  have hbb := boxW_below w (contV c Ak capk Av capv) o
  have hsz := boxW_size w (contV c Ak capk Av capv) o
  have HS := Lib.hid hsz
  have HK := Lib.hid hk
  clear hsz hk
  have heff : effect c o = (⟨c.kind, [], o.a :: c.vals⟩, 0, true) := by unfold effect; rw [if_neg (show ¬ o.kind = 1 by have := HK.out; omega), if_neg (show ¬ o.kind = 2 by have := HK.out; omega), if_neg (show ¬ o.kind = 3 by have := HK.out; omega), if_pos HK.out]
  have HE := Lib.hid heff
  clear heff
  unfold contV OpT.cells
  go_enter Try.func42, Try.ntmps42
  go_wp2_with fail
  change Code.wp _ _ _ _ (boxW w (contV c Ak capk Av capv) o)
  generalize boxW w (contV c Ak capk Av capv) o = w1 at *
  have hw1 := hbb
  have hb1 := Below.refl w1.heap.size w1
  have k1 := blk_below hblk1 hb1
  have k2 := blk_below hblk2 hb1
  have k3 := blk_below hblk3 hb1
  have c0 : w1.cell? ⟨w.heap.size, 0, none⟩ = some (.int .i64 c.kind) := blk_cell k1 0
  have c1 : w1.cell? ⟨w.heap.size, 1, none⟩ = some (.slice Ak c.keys.length capk) := blk_cell k1 1
  have c2 : w1.cell? ⟨w.heap.size, 2, none⟩ = some (.slice Av c.vals.length capv) := blk_cell k1 2
  have o2 : w1.cell? ⟨w.heap.size + 1, 2, none⟩ = some (.int .i64 o.a) := blk_cell k2 2
  have o3 : w1.cell? ⟨w.heap.size + 1, 3, none⟩ = some (.int .i64 o.b) := blk_cell k2 3
  have r0 : w1.cell? ⟨w.heap.size + 1 + 1, 0, none⟩ = some (.int .i64 0) := blk_cell (cs := [_, _, _]) k3 0
  have r1 : w1.cell? ⟨w.heap.size + 1 + 1, 1, none⟩ = some (.slice none 0 0) := blk_cell (cs := [_, _, _]) k3 1
  have r2 : w1.cell? ⟨w.heap.size + 1 + 1, 2, none⟩ = some (.slice none 0 0) := blk_cell (cs := [_, _, _]) k3 2
  have f0 := blk_free k3 0
  have f1 := blk_free k3 1
  have f2 := blk_free k3 2
  have hlt2 : w.heap.size + 1 + 1 < w1.heap.size := by have := hb1.size; have := HS.out; omega
  have hlt1 : w.heap.size + 1 < w1.heap.size := by omega
  have hlt0 : w.heap.size < w1.heap.size := by omega
  have HC := Lib.hid (h.next hw1)
  clear hblk1 hblk2 hblk3 hb1 k1 k2 k3
  refine wp_region_relT [_, _, _, _, _, _, _, _] _ rfl (by kernel_rfl) (by kernel_rfl) (by kernel_rfl) ?_
  refine rel_seg 15 [_, _, _, _, _, _] _ _ (by kernel_rfl) rfl ?_
  repeat (go_big_quiet_step (fail))
  refine wpQuiet_nil ?_
  refine rel_call_new (f := 47) 13 (kFresh ints (insAt c.vals 0 o.a) w1.heap.size) rfl (kFresh_keeps _ _ _) rfl en47 (by kernel_rfl) (by kernel_rfl) (fun x => (with_any Av capv c.vals 0 o.a _ (HC.out.next x.below).v hl h.vc h.vm h.vn (Nat.zero_le _)).mono fun _ _ ⟨v, e, hv, hf, hb⟩ => ⟨v, e, ⟨hv, fun k hk => Nat.le_trans x.below.size (hf k hk)⟩, hb⟩) rfl ?_
  refine rel_run_new 14 (fun v w' => ∃ x1 x2, v = .agg #[.int .i64 c.kind, x1, x2] ∧ kFresh ints [] w1.heap.size x1 w' ∧ kFresh ints (insAt c.vals 0 o.a) w1.heap.size x2 w') rfl (fun v w w' ⟨x1, x2, e, h1, h2⟩ hb => ⟨x1, x2, e, kFresh_keeps _ _ _ _ _ _ h1 hb, kFresh_keeps _ _ _ _ _ _ h2 hb⟩) (by kernel_rfl) (by kernel_rfl) (fun x A hA => ?_) ?_
  · have e0 : slot A 8 = _ := hA 8 (by decide)
    have h2 : kFresh ints _ _ (slot A 13) x.on := hA 13 (by decide)
    obtain ⟨⟨A2, q2, e2, g2⟩, g2'⟩ := h2
    refine ⟨_, x.on, ?_, ⟨_, _, rfl, ⟨IsRow.nil ints x.on, (fun k hk => by simp [Value.ownBlock] at hk)⟩, ⟨⟨A2, q2, rfl, g2⟩, ?_⟩⟩, Below.refl _ _⟩
    · simp [slot] at e0 e2
      simp [go_sem, e0, e2]
    · rw [e2] at g2'; exact g2'
  refine rel_nil (by simp [keysOf]) fun x => ?_
  simp only [withNd]
  rintro _ ⟨x1, x2, rfl, ⟨hx1, hf1⟩, ⟨hx2, hf2⟩⟩
  intro _ _
  simp only [Act.put, List.setIfInBounds_toArray, List.set_cons_zero, List.set_cons_succ]
  obtain ⟨K1, qk, l1, E1, rfl, p1, p2, p3, p4⟩ := hx1.open_
  obtain ⟨V1, qv, l2, E2, rfl, s1, s2, s3, s4⟩ := hx2.open_
  go_wp2_with fail
  refine bodyPost_ret (v := .tuple #[.agg #[.int .i64 c.kind, .slice K1 l1.length qk, .slice V1 l2.length qv], .int .i64 0, .bool true]) (by simp [results, Try.results42, go_sem, r0, r1, r2, hlt2]) rfl ?_
  have hwx := hw1.trans (x.below.mono hw1.size)
  have hout := cont_out (w := w) (w1 := x.on) (g := w.heap.size + 1 + 1) (c := ⟨c.kind, l1, l2⟩) (Ak := K1) (Av := V1) (capk := qk) (capv := qv) hwx (by omega) ⟨p4, p1, p2, p3, s4, s1, s2, s3⟩
    (fun _ a e => by have := hf1 a.block (by rw [e]; rfl); omega) (fun _ a e => by have := hf2 a.block (by rw [e]; rfl); omega) (.int .i64 c.kind) (.slice K1 l1.length qk) (.slice V1 l2.length qv)
  have e1 := E1.out
  have e2 := E2.out
  subst e1 e2
  unfold GivesDo
  rw [HE.out, ← insAt_zero]
  exact ⟨_, _, _, _, rfl, hout.1, apartA_new hw1.size (fun a e => hf1 a.block (by rw [e]; rfl)), apartA_new hw1.size (fun a e => hf2 a.block (by rw [e]; rfl)), hout.2⟩

set_option maxRecDepth 100000 in
set_option maxHeartbeats 1000000 in
theorem send_any (c : Cont) (o : OpT) (Ak Av : Option Addr) (capk capv : Nat) (w : World) (h : CIn w c Ak capk Av capv) (hl : c.vals.length ≤ 1000000) (hk : o.kind = 6) :
    Calls Try.prog 44 #[.agg (contV c Ak capk Av capv).toArray, .agg o.cells.toArray] w (GivesDo (effect c o) c Ak Av w) := by
  obtain ⟨hblk1, hblk2, hblk3⟩ := boxW_blk w (contV c Ak capk Av capv) o
  have hbb := boxW_below w (contV c Ak capk Av capv) o
  have hsz := boxW_size w (contV c Ak capk Av capv) o
  have HS := Lib.hid hsz
  have HK := Lib.hid hk
  clear hsz hk
  have heff : effect c o = (⟨c.kind, [], c.vals ++ [o.a]⟩, 0, true) := by unfold effect; rw [if_neg (show ¬ o.kind = 1 by have := HK.out; omega), if_neg (show ¬ o.kind = 2 by have := HK.out; omega), if_neg (show ¬ o.kind = 3 by have := HK.out; omega), if_neg (show ¬ o.kind = 4 by have := HK.out; omega), if_pos HK.out]
  have HE := Lib.hid heff
  clear heff
  unfold contV OpT.cells
  go_enter Try.func44, Try.ntmps44
  go_wp2_with fail
  change Code.wp _ _ _ _ (boxW w (contV c Ak capk Av capv) o)
  generalize boxW w (contV c Ak capk Av capv) o = w1 at *
  have hw1 := hbb
  have hb1 := Below.refl w1.heap.size w1
  have k1 := blk_below hblk1 hb1
  have k2 := blk_below hblk2 hb1
  have k3 := blk_below hblk3 hb1
  have c0 : w1.cell? ⟨w.heap.size, 0, none⟩ = some (.int .i64 c.kind) := blk_cell k1 0
  have c1 : w1.cell? ⟨w.heap.size, 1, none⟩ = some (.slice Ak c.keys.length capk) := blk_cell k1 1
  have c2 : w1.cell? ⟨w.heap.size, 2, none⟩ = some (.slice Av c.vals.length capv) := blk_cell k1 2
  have o2 : w1.cell? ⟨w.heap.size + 1, 2, none⟩ = some (.int .i64 o.a) := blk_cell k2 2
  have o3 : w1.cell? ⟨w.heap.size + 1, 3, none⟩ = some (.int .i64 o.b) := blk_cell k2 3
  have r0 : w1.cell? ⟨w.heap.size + 1 + 1, 0, none⟩ = some (.int .i64 0) := blk_cell (cs := [_, _, _]) k3 0
  have r1 : w1.cell? ⟨w.heap.size + 1 + 1, 1, none⟩ = some (.slice none 0 0) := blk_cell (cs := [_, _, _]) k3 1
  have r2 : w1.cell? ⟨w.heap.size + 1 + 1, 2, none⟩ = some (.slice none 0 0) := blk_cell (cs := [_, _, _]) k3 2
  have f0 := blk_free k3 0
  have f1 := blk_free k3 1
  have f2 := blk_free k3 2
  have hlt2 : w.heap.size + 1 + 1 < w1.heap.size := by have := hb1.size; have := HS.out; omega
  have hlt1 : w.heap.size + 1 < w1.heap.size := by omega
  have hlt0 : w.heap.size < w1.heap.size := by omega
  have HC := Lib.hid (h.next hw1)
  clear hblk1 hblk2 hblk3 hb1 k1 k2 k3
  refine wp_region_relT [_, _, _, _, _, _, _, _, _, _, _] _ rfl (by kernel_rfl) (by kernel_rfl) (by kernel_rfl) ?_
  refine rel_seg 18 [_, _, _, _, _, _, _, _, _] _ _ (by kernel_rfl) rfl ?_
  repeat (go_big_quiet_step (fail))
  refine wpQuiet_nil ?_
  refine rel_call_new (f := 47) 16 (kFresh ints (insAt c.vals c.vals.length o.a) w1.heap.size) rfl (kFresh_keeps _ _ _) rfl en47 (by kernel_rfl) (by kernel_rfl) (fun x => (with_any Av capv c.vals c.vals.length o.a _ (HC.out.next x.below).v hl h.vc h.vm h.vn (Nat.le_refl _)).mono fun _ _ ⟨v, e, hv, hf, hb⟩ => ⟨v, e, ⟨hv, fun k hk => Nat.le_trans x.below.size (hf k hk)⟩, hb⟩) rfl ?_
  refine rel_run_new 17 (fun v w' => ∃ x1 x2, v = .agg #[.int .i64 c.kind, x1, x2] ∧ kFresh ints [] w1.heap.size x1 w' ∧ kFresh ints (insAt c.vals c.vals.length o.a) w1.heap.size x2 w') rfl (fun v w w' ⟨x1, x2, e, h1, h2⟩ hb => ⟨x1, x2, e, kFresh_keeps _ _ _ _ _ _ h1 hb, kFresh_keeps _ _ _ _ _ _ h2 hb⟩) (by kernel_rfl) (by kernel_rfl) (fun x A hA => ?_) ?_
  · have e0 : slot A 8 = _ := hA 8 (by decide)
    have h2 : kFresh ints _ _ (slot A 16) x.on := hA 16 (by decide)
    obtain ⟨⟨A2, q2, e2, g2⟩, g2'⟩ := h2
    refine ⟨_, x.on, ?_, ⟨_, _, rfl, ⟨IsRow.nil ints x.on, (fun k hk => by simp [Value.ownBlock] at hk)⟩, ⟨⟨A2, q2, rfl, g2⟩, ?_⟩⟩, Below.refl _ _⟩
    · simp [slot] at e0 e2
      simp [go_sem, e0, e2]
    · rw [e2] at g2'; exact g2'
  refine rel_nil (by simp [keysOf]) fun x => ?_
  simp only [withNd]
  rintro _ ⟨x1, x2, rfl, ⟨hx1, hf1⟩, ⟨hx2, hf2⟩⟩
  intro _ _
  simp only [Act.put, List.setIfInBounds_toArray, List.set_cons_zero, List.set_cons_succ]
  obtain ⟨K1, qk, l1, E1, rfl, p1, p2, p3, p4⟩ := hx1.open_
  obtain ⟨V1, qv, l2, E2, rfl, s1, s2, s3, s4⟩ := hx2.open_
  go_wp2_with fail
  refine bodyPost_ret (v := .tuple #[.agg #[.int .i64 c.kind, .slice K1 l1.length qk, .slice V1 l2.length qv], .int .i64 0, .bool true]) (by simp [results, Try.results44, go_sem, r0, r1, r2, hlt2]) rfl ?_
  have hwx := hw1.trans (x.below.mono hw1.size)
  have hout := cont_out (w := w) (w1 := x.on) (g := w.heap.size + 1 + 1) (c := ⟨c.kind, l1, l2⟩) (Ak := K1) (Av := V1) (capk := qk) (capv := qv) hwx (by omega) ⟨p4, p1, p2, p3, s4, s1, s2, s3⟩
    (fun _ a e => by have := hf1 a.block (by rw [e]; rfl); omega) (fun _ a e => by have := hf2 a.block (by rw [e]; rfl); omega) (.int .i64 c.kind) (.slice K1 l1.length qk) (.slice V1 l2.length qv)
  have e1 := E1.out
  have e2 := E2.out
  subst e1 e2
  unfold GivesDo
  rw [HE.out, ← insAt_end]
  exact ⟨_, _, _, _, rfl, hout.1, apartA_new hw1.size (fun a e => hf1 a.block (by rw [e]; rfl)), apartA_new hw1.size (fun a e => hf2 a.block (by rw [e]; rfl)), hout.2⟩
end Go.Proofs.Ytknancnmdpdefaa
