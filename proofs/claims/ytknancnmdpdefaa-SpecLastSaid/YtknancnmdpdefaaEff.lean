/- The contracts of the effects. -/
import Derived.Test.YtknancnmdpdefaaRight
namespace Go.Proofs.Ytknancnmdpdefaa
open Go.RowKit

/-- A content's slices, as they lie. -/
structure CIn (w : World) (c : Cont) (Ak : Option Addr) (capk : Nat) (Av : Option Addr) (capv : Nat) : Prop where
  k : RowIn ints w Ak c.keys
  kc : c.keys.length ≤ capk
  km : capk ≤ maxLen
  kn : Ak = none → capk = 0
  v : RowIn ints w Av c.vals
  vc : c.vals.length ≤ capv
  vm : capv ≤ maxLen
  vn : Av = none → capv = 0
theorem CIn.next {w w' : World} {c : Cont} {Ak Av : Option Addr} {capk capv : Nat} (h : CIn w c Ak capk Av capv) (hb : Below w.heap.size w w') : CIn w' c Ak capk Av capv :=
  ⟨h.k.next hb, h.kc, h.km, h.kn, h.v.next hb, h.vc, h.vm, h.vn⟩
theorem CIn.is {w : World} {c : Cont} {Ak Av : Option Addr} {capk capv : Nat} (h : CIn w c Ak capk Av capv) : IsCont w (.agg #[.int .i64 c.kind, .slice Ak c.keys.length capk, .slice Av c.vals.length capv]) c :=
  ⟨_, _, rfl, ⟨_, _, rfl, h.kc, h.km, h.kn, h.k⟩, ⟨_, _, rfl, h.vc, h.vm, h.vn, h.v⟩⟩
theorem IsCont.cin {w : World} {v : Value} {c : Cont} (h : IsCont w v c) : ∃ Ak capk Av capv, v = .agg #[.int .i64 c.kind, .slice Ak c.keys.length capk, .slice Av c.vals.length capv] ∧ CIn w c Ak capk Av capv := by
  obtain ⟨_, _, rfl, ⟨Ak, capk, rfl, h1, h2, h3, h4⟩, ⟨Av, capv, rfl, h5, h6, h7, h8⟩⟩ := h
  exact ⟨Ak, capk, Av, capv, rfl, h4, h1, h2, h3, h8, h5, h6, h7⟩

def contV (c : Cont) (Ak : Option Addr) (capk : Nat) (Av : Option Addr) (capv : Nat) : List Value := [.int .i64 c.kind, .slice Ak c.keys.length capk, .slice Av c.vals.length capv]

/-- Slices that were not in an elder block before are not in it now. -/
def ApartA (B : Nat) (c : Cont) (Ak Av : Option Addr) (l : List Int) (A' : Option Addr) : Prop :=
  ∀ g, g < B → (c.keys ≠ [] → ∀ a, Ak = some a → a.block ≠ g) → (c.vals ≠ [] → ∀ a, Av = some a → a.block ≠ g) → l ≠ [] → ∀ a, A' = some a → a.block ≠ g
theorem apartA_left (B : Nat) (c : Cont) (Ak Av : Option Addr) : ApartA B c Ak Av c.keys Ak := fun _ _ h1 _ => h1
theorem apartA_right (B : Nat) (c : Cont) (Ak Av : Option Addr) : ApartA B c Ak Av c.vals Av := fun _ _ _ h2 => h2
theorem apartA_none (B : Nat) (c : Cont) (Ak Av : Option Addr) (l : List Int) : ApartA B c Ak Av l none := fun _ _ _ _ _ a h => by cases h
theorem apartA_new {B C : Nat} {c : Cont} {Ak Av A' : Option Addr} {l : List Int} (hB : B ≤ C) (h : ∀ a, A' = some a → C ≤ a.block) : ApartA B c Ak Av l A' := fun g hg _ _ _ a ha => by have := h a ha; omega
theorem row_lt {w : World} {A : Option Addr} {l : List Int} (h : RowIn ints w A l) : l ≠ [] → ∀ a, A = some a → a.block < w.heap.size := fun hl a ha => by
  rcases l with _ | ⟨x, l⟩
  · exact absurd rfl hl
  · obtain ⟨b, o, hA, hb, _⟩ := h 0 x rfl
    rw [hA] at ha; cases ha; exact hb

/-- What an operation's call leaves. -/
def GivesDo (r : Cont × Int × Bool) (c : Cont) (Ak Av : Option Addr) (w : World) (e : Ending) (w' : World) : Prop :=
  ∃ Ak' capk' Av' capv', e = .returned (.tuple #[.agg #[.int .i64 r.1.kind, .slice Ak' r.1.keys.length capk', .slice Av' r.1.vals.length capv'], .int .i64 r.2.1, .bool r.2.2]) ∧ CIn w' r.1 Ak' capk' Av' capv' ∧
    ApartA w.heap.size c Ak Av r.1.keys Ak' ∧ ApartA w.heap.size c Ak Av r.1.vals Av' ∧ Below w.heap.size w w'

/-- The world behind the boxes. -/
def boxW (w : World) (cv : List Value) (o : OpT) : World := ((w.alloc (.cells cv.toArray 24)).alloc (.cells o.cells.toArray 26)).alloc (.cells #[.int .i64 0, .slice none 0 0, .slice none 0 0] 24)
theorem boxW_size (w : World) (cv : List Value) (o : OpT) : (boxW w cv o).heap.size = w.heap.size + 1 + 1 + 1 := by simp [boxW]
theorem boxW_below (w : World) (cv : List Value) (o : OpT) : Below w.heap.size w (boxW w cv o) := (((Below.refl _ _).alloc (Nat.le_refl _) _).alloc (by simp) _).alloc (by simp; omega) _
theorem boxW_blk (w : World) (cv : List Value) (o : OpT) : (boxW w cv o).heap[w.heap.size]? = some (.cells cv.toArray 24 (0, 0)) ∧ (boxW w cv o).heap[w.heap.size + 1]? = some (.cells o.cells.toArray 26 (0, 0)) ∧ (boxW w cv o).heap[w.heap.size + 1 + 1]? = some (.cells #[.int .i64 0, .slice none 0 0, .slice none 0 0] 24 (0, 0)) := by
  unfold boxW
  refine ⟨?_, ?_, ?_⟩
  · rw [Below.heap_alloc _ _ _ (by simp; omega), Below.heap_alloc _ _ _ (by simp)]; exact heap_alloc_new w _
  · rw [Below.heap_alloc _ _ _ (by simp)]
    have := heap_alloc_new (w.alloc (.cells cv.toArray 24)) (.cells o.cells.toArray 26)
    simpa using this
  · have := heap_alloc_new ((w.alloc (.cells cv.toArray 24)).alloc (.cells o.cells.toArray 26)) (.cells #[.int .i64 0, .slice none 0 0, .slice none 0 0] 24)
    simpa using this
theorem blk_below {w w' : World} {g : Nat} {cs : Array Value} {t : TypeId} (h : w.heap[g]? = some (.cells cs t (0, 0))) (hb : Below w.heap.size w w') : w'.heap[g]? = some (.cells cs t (0, 0)) := by
  have hlt : g < w.heap.size := by
    rcases Nat.lt_or_ge g w.heap.size with hlt | hge
    · exact hlt
    · rw [Array.getElem?_eq_none hge] at h; cases h
  exact (hb.block g hlt).trans h
theorem blk_cell {w : World} {g : Nat} {cs : List Value} {t : TypeId} (h : w.heap[g]? = some (.cells cs.toArray t (0, 0))) (i : Nat) : w.cell? ⟨g, i, none⟩ = cs[i]? := by
  rw [cell_of_row w g i cs.toArray t (0, 0) h]; simp
theorem blk_free {w : World} {g : Nat} {cs : Array Value} {t : TypeId} (h : w.heap[g]? = some (.cells cs t (0, 0))) (i : Nat) : w.frozen? ⟨g, i, none⟩ = false := by
  simp [World.frozen?, h]

theorem below_set {w w' : World} {B : Nat} (h : Below B w w') {p : Addr} (hp : B ≤ p.block) (v : Value) : Below B w (w'.setCell p v) := h.setCell hp v

/-- The row's bound on the result's block. -/
theorem cin_keep {w w' : World} {c : Cont} {Ak Av : Option Addr} {capk capv : Nat} (h : CIn w c Ak capk Av capv) (hk : ∀ p : Addr, p.block < w.heap.size → w'.cell? p = w.cell? p) (hs : w.heap.size ≤ w'.heap.size) : CIn w' c Ak capk Av capv := by
  refine ⟨fun i x hi => ?_, h.kc, h.km, h.kn, fun i x hi => ?_, h.vc, h.vm, h.vn⟩
  · obtain ⟨b, o, hA, hb, hc⟩ := h.k i x hi
    exact ⟨b, o, hA, by omega, fun j u hu => (hk _ hb).trans (hc j u hu)⟩
  · obtain ⟨b, o, hA, hb, hc⟩ := h.v i x hi
    exact ⟨b, o, hA, by omega, fun j u hu => (hk _ hb).trans (hc j u hu)⟩

set_option maxRecDepth 100000 in
set_option maxHeartbeats 1000000 in
theorem get_any (c : Cont) (o : OpT) (Ak Av : Option Addr) (capk capv : Nat) (w : World) (h : CIn w c Ak capk Av capv) (hl : c.keys.length ≤ 1000000) (hri : Rises c.keys) (hlen : c.keys.length = c.vals.length) (hk : o.kind = 1) :
    Calls Try.prog 39 #[.agg (contV c Ak capk Av capv).toArray, .agg o.cells.toArray] w (GivesDo (effect c o) c Ak Av w) := by
  obtain ⟨hblk1, hblk2, hblk3⟩ := boxW_blk w (contV c Ak capk Av capv) o
  have hbb := boxW_below w (contV c Ak capk Av capv) o
  have hsz := boxW_size w (contV c Ak capk Av capv) o
  have HL := Lib.hid hlen
  have HK := Lib.hid hk
  have HS := Lib.hid hsz
  clear hlen hk hsz
  unfold contV OpT.cells
  go_enter Try.func39, Try.ntmps39
  go_wp2_with fail
  change Calls _ _ _ (boxW w (contV c Ak capk Av capv) o) _
  generalize boxW w (contV c Ak capk Av capv) o = W at *
  refine (find_any Ak capk c.keys o.a W (h.next hbb).k (by omega) hri).mono ?_
  rintro e w1 ⟨rfl, hb1⟩
  have hw1 := hbb.trans (hb1.mono hbb.size)
  have k1 := blk_below hblk1 hb1
  have k3 := blk_below hblk3 hb1
  have c0 : w1.cell? ⟨w.heap.size, 0, none⟩ = some (.int .i64 c.kind) := blk_cell k1 0
  have c1 : w1.cell? ⟨w.heap.size, 1, none⟩ = some (.slice Ak c.keys.length capk) := blk_cell k1 1
  have c2 : w1.cell? ⟨w.heap.size, 2, none⟩ = some (.slice Av c.vals.length capv) := blk_cell k1 2
  have r0 : w1.cell? ⟨w.heap.size + 1 + 1, 0, none⟩ = some (.int .i64 0) := blk_cell (cs := [_, _, _]) k3 0
  have r1 : w1.cell? ⟨w.heap.size + 1 + 1, 1, none⟩ = some (.slice none 0 0) := blk_cell (cs := [_, _, _]) k3 1
  have r2 : w1.cell? ⟨w.heap.size + 1 + 1, 2, none⟩ = some (.slice none 0 0) := blk_cell (cs := [_, _, _]) k3 2
  have f0 := blk_free k3 0
  have f1 := blk_free k3 1
  have f2 := blk_free k3 2
  have hlt1 : w.heap.size + 1 + 1 < w1.heap.size := by have := hb1.size; have := HS.out; omega
  have hlt0 : w.heap.size < w1.heap.size := by omega
  have hc1 := h.next hw1
  have HC := Lib.hid hc1
  clear hblk1 hblk2 hblk3 hb1 hri hc1
  rcases hf : decide (c.keys[pos c.keys o.a]? = some o.a) with _ | _
  · have heff : effect c o = (c, 0, false) := by unfold effect hasB; rw [if_pos HK.out, hf]; rfl
    have HE := Lib.hid heff
    clear heff
    go_wp2_with fail
    refine bodyPost_ret (v := .tuple #[.agg #[.int .i64 c.kind, .slice Ak c.keys.length capk, .slice Av c.vals.length capv], .int .i64 0, .bool false]) (by simp [results, Try.results39, go_sem, r0, r1, r2]) rfl ?_
    unfold GivesDo
    rw [HE.out]
    have hb9 : Below w.heap.size w (((w1.setCell ⟨w.heap.size + 1 + 1, 0, none⟩ (.int .i64 c.kind)).setCell ⟨w.heap.size + 1 + 1, 1, none⟩ (.slice Ak c.keys.length capk)).setCell ⟨w.heap.size + 1 + 1, 2, none⟩ (.slice Av c.vals.length capv)) :=
      ((hw1.setCell (by simp; omega) _).setCell (by simp; omega) _).setCell (by simp; omega) _
    exact ⟨_, _, _, _, rfl, h.next hb9, apartA_left _ _ _ _, apartA_right _ _ _ _, hb9⟩
  · obtain ⟨y, hy⟩ := some_at (show pos c.keys o.a < c.vals.length by have := lt_of_some (of_decide_eq_true hf); have := HL.out; omega)
    obtain ⟨b, q, rfl, hbv, cv0⟩ := ints_at h.v hy
    have cv : w1.cell? ⟨b, q + pos c.keys o.a, none⟩ = some (.int .i64 y) := (hw1.cell hbv).trans cv0
    have hbne : b ≠ w.heap.size + 1 + 1 := by omega
    have hbne2 : w.heap.size ≠ w.heap.size + 1 + 1 := by omega
    clear cv0
    have heff : effect c o = (c, y, true) := by
      unfold effect hasB; rw [if_pos HK.out, hf, if_pos rfl, List.getD_eq_getElem?_getD, hy]; rfl
    have HE := Lib.hid heff
    have hpl := lt_of_some hy
    clear heff hy hf
    go_wp2_with fail
    go_region
    go_wp2_with fail
    refine bodyPost_ret (v := .tuple #[.agg #[.int .i64 c.kind, .slice Ak c.keys.length capk, .slice (some ⟨b, q, none⟩) c.vals.length capv], .int .i64 y, .bool true]) (by simp [results, Try.results39, go_sem, r0, r1, r2]) rfl ?_
    unfold GivesDo
    rw [HE.out]
    have hb9 : Below w.heap.size w (((w1.setCell ⟨w.heap.size + 1 + 1, 0, none⟩ (.int .i64 c.kind)).setCell ⟨w.heap.size + 1 + 1, 1, none⟩ (.slice Ak c.keys.length capk)).setCell ⟨w.heap.size + 1 + 1, 2, none⟩ (.slice (some ⟨b, q, none⟩) c.vals.length capv)).drew :=
      (((hw1.setCell (by simp; omega) _).setCell (by simp; omega) _).setCell (by simp; omega) _).drew
    exact ⟨_, _, _, _, rfl, h.next hb9, apartA_left _ _ _ _, apartA_right _ _ _ _, hb9⟩
end Go.Proofs.Ytknancnmdpdefaa
