/- The contract of first. -/
import Derived.Test.YtknancnmdpdefaaEff2
import Derived.Deep.RegionHeld3
namespace Go.Proofs.Ytknancnmdpdefaa
open Go.RowKit

theorem effect_first {c : Cont} {o : OpT} (h : o.kind = 5 ∨ o.kind = 7) : effect c o = match c.vals with | [] => (c, 0, false) | v :: vs => (⟨c.kind, [], vs⟩, v, true) := by
  unfold effect
  rw [if_neg (by omega), if_neg (by omega), if_neg (by omega), if_neg (by omega), if_neg (by omega)]
  cases c.vals <;> rfl

theorem set3_cell {W : World} {g i j k : Nat} {x y z : Value} {p : Addr} (hp : p.block ≠ g) : (((W.setCell ⟨g, i, none⟩ x).setCell ⟨g, j, none⟩ y).setCell ⟨g, k, none⟩ z).cell? p = W.cell? p := by
  have e : ∀ (W : World) (i : Nat) (u : Value), (W.setCell ⟨g, i, none⟩ u).cell? p = W.cell? p := fun W i u => World.cell?_of_block (Below.heap_setCell W ⟨g, i, none⟩ u p.block hp)
  rw [e, e, e]

set_option maxRecDepth 100000 in
set_option maxHeartbeats 2000000 in
theorem first_any (c : Cont) (o : OpT) (Ak Av : Option Addr) (capk capv : Nat) (w : World) (h : CIn w c Ak capk Av capv) (hl : c.vals.length ≤ 1000000) (hk : o.kind = 5 ∨ o.kind = 7) :
    Calls Try.prog 43 #[.agg (contV c Ak capk Av capv).toArray, .agg o.cells.toArray] w (GivesDo (effect c o) c Ak Av w) := by
  obtain ⟨hblk1, hblk2, hblk3⟩ := boxW_blk w (contV c Ak capk Av capv) o
  have hbb := boxW_below w (contV c Ak capk Av capv) o
  have hsz := boxW_size w (contV c Ak capk Av capv) o
  have HS := Lib.hid hsz
  have HF := Lib.hid (effect_first (c := c) hk)
  clear hsz hk
  have hvm := h.vm
  unfold maxLen at hvm
  rcases hv : c.vals with _ | ⟨v, vs⟩
  · have hlen : c.vals.length = 0 := by rw [hv]; rfl
    have HE : Hid (effect c o = (c, 0, false)) := by rw [HF.out, hv]; exact Lib.hid rfl
    have hl0 : (((c.vals.length : Nat) : Int) == 0) = true := by rw [hlen]; rfl
    have hl1 : (c.vals.length == 0) = true := by rw [hlen]; rfl
    clear hlen hv HF
    unfold contV OpT.cells
    go_enter Try.func43, Try.ntmps43
    go_wp2_with fail
    refine bodyPost_ret (v := .tuple #[.agg #[.int .i64 c.kind, .slice Ak c.keys.length capk, .slice Av c.vals.length capv], .int .i64 0, .bool false]) (by simp [results, Try.results43, go_sem]) rfl ?_
    unfold GivesDo
    rw [HE.out]
    have hb9 : Below w.heap.size w (((w.alloc (.cells #[.int .i64 c.kind, .slice Ak c.keys.length capk, .slice Av c.vals.length capv] 24)).alloc (.cells #[.int .i64 o.kind, .int .i64 o.obj, .int .i64 o.a, .int .i64 o.b] 26)).alloc (.cells #[.int .i64 c.kind, .slice Ak c.keys.length capk, .slice Av c.vals.length capv] 24)) :=
      (((Below.refl _ _).alloc (Nat.le_refl _) _).alloc (by simp) _).alloc (by simp; omega) _
    exact ⟨_, _, _, _, rfl, h.next hb9, apartA_left _ _ _ _, apartA_right _ _ _ _, hb9⟩
  · have HE : Hid (effect c o = (⟨c.kind, [], vs⟩, v, true)) := by rw [HF.out, hv]; exact Lib.hid rfl
    have hlen : 0 < c.vals.length := by rw [hv]; simp
    have hl0 : (((c.vals.length : Nat) : Int) == 0) = false := by rw [beq_eq_false_iff_ne]; omega
    have hl1 : (c.vals.length == 0) = false := by rw [beq_eq_false_iff_ne]; omega
    have hd : c.vals.drop 1 = vs := by rw [hv]; rfl
    have HD := Lib.hid hd
    obtain ⟨b, q, rfl, hbv, cv0⟩ := ints_at h.v (show c.vals[0]? = some v by rw [hv]; rfl)
    have hvc := h.vc
    have h1c : (1 : Int) ≤ (capv : Int) := by omega
    have h1l : (1 : Int) ≤ (c.vals.length : Int) := by omega
    clear hd hv HF
    unfold contV OpT.cells
    go_enter Try.func43, Try.ntmps43
    go_wp2_with fail
    change Code.wp _ _ _ _ (boxW w (contV c Ak capk (some ⟨b, q, none⟩) capv) o)
    generalize boxW w (contV c Ak capk (some ⟨b, q, none⟩) capv) o = w1 at *
    have c0 : w1.cell? ⟨w.heap.size, 0, none⟩ = some (.int .i64 c.kind) := blk_cell hblk1 0
    have c1 : w1.cell? ⟨w.heap.size, 1, none⟩ = some (.slice Ak c.keys.length capk) := blk_cell hblk1 1
    have c2 : w1.cell? ⟨w.heap.size, 2, none⟩ = some (.slice (some ⟨b, q, none⟩) c.vals.length capv) := blk_cell hblk1 2
    have r0 : w1.cell? ⟨w.heap.size + 1 + 1, 0, none⟩ = some (.int .i64 0) := blk_cell (cs := [_, _, _]) hblk3 0
    have r1 : w1.cell? ⟨w.heap.size + 1 + 1, 1, none⟩ = some (.slice none 0 0) := blk_cell (cs := [_, _, _]) hblk3 1
    have r2 : w1.cell? ⟨w.heap.size + 1 + 1, 2, none⟩ = some (.slice none 0 0) := blk_cell (cs := [_, _, _]) hblk3 2
    have f0 := blk_free hblk3 0
    have f1 := blk_free hblk3 1
    have f2 := blk_free hblk3 2
    have hw1 := hbb
    clear hblk1 hblk2 hblk3
    have cv : w1.cell? ⟨b, q, none⟩ = some (.int .i64 v) := (hw1.cell hbv).trans cv0
    have hbne : b ≠ w.heap.size + 1 + 1 := by omega
    have hbne2 : w.heap.size ≠ w.heap.size + 1 + 1 := by omega
    have hlt2 : w.heap.size + 1 + 1 < w1.heap.size := by have := HS.out; omega
    have hlt0 : w.heap.size < w1.heap.size := by omega
    have hbl : b < w1.heap.size := by omega
    clear cv0
    have hcl : ∀ (A' : Option Addr) (n' q' : Nat), n' = c.vals.length - 1 → RowIn ints w1 A' (c.vals.drop 1) → ∀ w2, Below w1.heap.size w1 w2 → Calls Try.prog 49 #[.slice A' n' q'] w2 (GivesRow ints vs w2) := fun A' n' q' hn' hr w2 hb2 => by
      have := clone_any A' q' (c.vals.drop 1) w2 (hr.next hb2) (by simp; omega)
      rw [List.length_drop, HD.out, ← hn'] at this
      exact this
    have HCL := Lib.hid hcl
    clear hcl
    by_cases hc1 : capv = 1
    · have hvl : c.vals.length ≤ 1 := by omega
      subst hc1
      have hrd : RowIn ints w1 (some ⟨b, q, none⟩) (c.vals.drop 1) := by
        rw [List.drop_eq_nil_of_le hvl]
        exact RowIn.nil
      go_region_held3 (fun w' => w'.cell? ⟨w.heap.size, 0, none⟩ = some (.int .i64 c.kind) ∧ w'.cell? ⟨w.heap.size, 2, none⟩ = some (.slice (some ⟨b, q, none⟩) c.vals.length 1) ∧ w'.cell? ⟨b, q, none⟩ = some (.int .i64 v)) (first | (go_keep; done) | (exact ⟨s0, s2, sv⟩) | (exact ⟨(set3_cell hbne2).trans s0, (set3_cell hbne2).trans s2, (set3_cell hbne).trans sv⟩))
        (first | (go_at_call 49; refine (HCL.out _ _ _ (by omega) hrd _ (Below.refl _ _).drew).mono ?_; rintro e w2 ⟨v2, rfl, hr2, hf2, hb2⟩; obtain ⟨A2, q2, l2, E2, rfl, p1, p2, p3, p4⟩ := hr2.open_; have r0' : w2.cell? ⟨w.heap.size + 1 + 1, 0, none⟩ = some (.int .i64 0) := (hb2.cell hlt2).trans r0; have r1' : w2.cell? ⟨w.heap.size + 1 + 1, 1, none⟩ = some (.slice none 0 0) := (hb2.cell hlt2).trans r1; have r2' : w2.cell? ⟨w.heap.size + 1 + 1, 2, none⟩ = some (.slice none 0 0) := (hb2.cell hlt2).trans r2; have f0' : w2.frozen? ⟨w.heap.size + 1 + 1, 0, none⟩ = false := (hb2.frozen hlt2).trans f0; have f1' : w2.frozen? ⟨w.heap.size + 1 + 1, 1, none⟩ = false := (hb2.frozen hlt2).trans f1; have f2' : w2.frozen? ⟨w.heap.size + 1 + 1, 2, none⟩ = false := (hb2.frozen hlt2).trans f2; have s0 : w2.cell? ⟨w.heap.size, 0, none⟩ = some (.int .i64 c.kind) := (hb2.cell hlt0).trans c0; have s2 : w2.cell? ⟨w.heap.size, 2, none⟩ = some (.slice (some ⟨b, q, none⟩) c.vals.length 1) := (hb2.cell hlt0).trans c2; have sv : w2.cell? ⟨b, q, none⟩ = some (.int .i64 v) := (hb2.cell hbl).trans cv))
      go_wp2_with fail
      refine bodyPost_ret (v := .tuple #[.agg #[.int .i64 c.kind, .slice none 0 0, .slice A2 l2.length q2], .int .i64 v, .bool true]) (by simp [results, Try.results43, go_sem, r0', r1', r2']) rfl ?_
      have hwx : Below w.heap.size w w2 := hw1.trans (((Below.refl _ _).drew.trans hb2).mono hw1.size)
      have hout := cont_out (w := w) (w1 := w2) (g := w.heap.size + 1 + 1) (c := ⟨c.kind, [], l2⟩) (Ak := none) (Av := A2) (capk := 0) (capv := q2) hwx (by omega) ⟨RowIn.nil, by simp, by unfold maxLen; omega, fun _ => rfl, p4, p1, p2, p3⟩
        (fun _ a e => by cases e) (fun _ a e => by have := hf2 a.block (by rw [e]; rfl); have h3 : (w1.drew).heap.size = w1.heap.size := rfl; omega) (.int .i64 c.kind) (.slice none 0 0) (.slice A2 l2.length q2)
      have e2 := E2.out
      subst e2
      unfold GivesDo
      rw [HE.out]
      exact ⟨_, _, _, _, rfl, hout.1, apartA_none _ _ _ _ _, apartA_new (C := w1.heap.size) hw1.size (fun a e => hf2 a.block (by rw [e]; rfl)), hout.2⟩
    · obtain ⟨ad, hA, hrd⟩ := cut_row (p := 1) (h.next hw1).v (by omega) hvc hc1 h.vn
      cases hA
      go_region_held3 (fun w' => w'.cell? ⟨w.heap.size, 0, none⟩ = some (.int .i64 c.kind) ∧ w'.cell? ⟨w.heap.size, 2, none⟩ = some (.slice (some ⟨b, q, none⟩) c.vals.length capv) ∧ w'.cell? ⟨b, q, none⟩ = some (.int .i64 v)) (first | (go_keep; done) | (exact ⟨s0, s2, sv⟩) | (exact ⟨(set3_cell hbne2).trans s0, (set3_cell hbne2).trans s2, (set3_cell hbne).trans sv⟩))
        (first | (go_at_call 49; refine (HCL.out _ _ _ (by omega) hrd _ (Below.refl _ _).drew).mono ?_; rintro e w2 ⟨v2, rfl, hr2, hf2, hb2⟩; obtain ⟨A2, q2, l2, E2, rfl, p1, p2, p3, p4⟩ := hr2.open_; have r0' : w2.cell? ⟨w.heap.size + 1 + 1, 0, none⟩ = some (.int .i64 0) := (hb2.cell hlt2).trans r0; have r1' : w2.cell? ⟨w.heap.size + 1 + 1, 1, none⟩ = some (.slice none 0 0) := (hb2.cell hlt2).trans r1; have r2' : w2.cell? ⟨w.heap.size + 1 + 1, 2, none⟩ = some (.slice none 0 0) := (hb2.cell hlt2).trans r2; have f0' : w2.frozen? ⟨w.heap.size + 1 + 1, 0, none⟩ = false := (hb2.frozen hlt2).trans f0; have f1' : w2.frozen? ⟨w.heap.size + 1 + 1, 1, none⟩ = false := (hb2.frozen hlt2).trans f1; have f2' : w2.frozen? ⟨w.heap.size + 1 + 1, 2, none⟩ = false := (hb2.frozen hlt2).trans f2; have s0 : w2.cell? ⟨w.heap.size, 0, none⟩ = some (.int .i64 c.kind) := (hb2.cell hlt0).trans c0; have s2 : w2.cell? ⟨w.heap.size, 2, none⟩ = some (.slice (some ⟨b, q, none⟩) c.vals.length capv) := (hb2.cell hlt0).trans c2; have sv : w2.cell? ⟨b, q, none⟩ = some (.int .i64 v) := (hb2.cell hbl).trans cv))
      go_wp2_with fail
      refine bodyPost_ret (v := .tuple #[.agg #[.int .i64 c.kind, .slice none 0 0, .slice A2 l2.length q2], .int .i64 v, .bool true]) (by simp [results, Try.results43, go_sem, r0', r1', r2']) rfl ?_
      have hwx : Below w.heap.size w w2 := hw1.trans (((Below.refl _ _).drew.trans hb2).mono hw1.size)
      have hout := cont_out (w := w) (w1 := w2) (g := w.heap.size + 1 + 1) (c := ⟨c.kind, [], l2⟩) (Ak := none) (Av := A2) (capk := 0) (capv := q2) hwx (by omega) ⟨RowIn.nil, by simp, by unfold maxLen; omega, fun _ => rfl, p4, p1, p2, p3⟩
        (fun _ a e => by cases e) (fun _ a e => by have := hf2 a.block (by rw [e]; rfl); have h3 : (w1.drew).heap.size = w1.heap.size := rfl; omega) (.int .i64 c.kind) (.slice none 0 0) (.slice A2 l2.length q2)
      have e2 := E2.out
      subst e2
      unfold GivesDo
      rw [HE.out]
      exact ⟨_, _, _, _, rfl, hout.1, apartA_none _ _ _ _ _, apartA_new (C := w1.heap.size) hw1.size (fun a e => hf2 a.block (by rw [e]; rfl)), hout.2⟩
end Go.Proofs.Ytknancnmdpdefaa
