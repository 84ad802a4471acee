/- The row of labels, sorted: what slices.SortFunc leaves. -/
import Derived.Test.YtcjooalmhppkiaaRRRRB1
import Derived.Test.YtcjooalmhppkiaaRRRRAbs22
namespace Go.Proofs.YtcjooalmhppkiaaRRRR
open Go.RowKit
set_option maxRecDepth 100000

/-- A place of a row of n. -/
def Ix (n : Nat) : Type := { i : Nat // i < n }
def labAt (ls : List Int) (i : Nat) : Int := ls.getD i 0
def cfL (ls : List Int) (x y : Ix ls.length) : Int := Lib.compareInt (labAt ls x.val) (labAt ls y.val)
theorem ltL (ls : List Int) (x y : Ix ls.length) : ltOf (cfL ls) x y = decide (labAt ls x.val < labAt ls y.val) := by
  unfold ltOf cfL Lib.compareInt
  by_cases h1 : labAt ls x.val < labAt ls y.val
  · simp [h1]
  · by_cases h2 : labAt ls y.val < labAt ls x.val <;> simp [h1, h2]
theorem swoL (ls : List Int) : Sort.SWO (ltOf (cfL ls)) where
  irrefl x := by rw [ltL]; simp
  trans x y z h1 h2 := by rw [ltL] at *; simp at *; omega
  ntrans x y z h1 h2 := by rw [ltL] at *; simp at *; omega
def encI {n : Nat} (x : Ix n) : Value := .int .i64 x.val
def allI (n : Nat) : Array (Ix n) := Array.ofFn fun i : _root_.Fin n => (⟨i.val, i.isLt⟩ : Ix n)
theorem allI_size (n : Nat) : (allI n).size = n := Array.size_ofFn
abbrev inhI {n : Nat} (h : 0 < n) : Inhabited (Ix n) := ⟨⟨0, h⟩⟩
noncomputable def pdqI (ls : List Int) (h : 0 < ls.length) : Array (Ix ls.length) :=
  letI := inhI h
  Sort.pdq (ltOf (cfL ls)) (allI ls.length) 0 ls.length (Lib.bitLen ls.length) true true
/-- The places of labels, by their labels. -/
noncomputable def rowF (ls : List Int) : List Nat := if h : 0 < ls.length then (pdqI ls h).toList.map (·.val) else []

theorem pdqI_spec (ls : List Int) (h : 0 < ls.length) : letI := inhI h; Sort.PermIn 0 ls.length (allI ls.length) (pdqI ls h) ∧ Sort.SortedIn (ltOf (cfL ls)) 0 ls.length (pdqI ls h) := by
  letI := inhI h
  exact Sort.pdq_sorts (ltOf (cfL ls)) (swoL ls) (allI ls.length) 0 ls.length (Lib.bitLen ls.length) true true (Nat.zero_le _) (by rw [allI_size]; exact Nat.le_refl _) (Or.inl rfl)
theorem pdqI_size (ls : List Int) (h : 0 < ls.length) : (pdqI ls h).size = ls.length := by
  rw [(pdqI_spec ls h).1.1, allI_size]

theorem sort_any (ls : List Int) (h : 0 < ls.length) (hbig : ls.length < 4611686018427387904) (k c kb lb lo cap : Nat) (w : World) (vs : List Value) (el : TypeId) (hk : w.heap[k]? = some (.cells vs.toArray el (0, 0))) (hvs : ∀ j, j < ls.length → vs[j]? = some (.int .i64 (j : Nat))) (hne1 : kb ≠ k) (hne2 : lb ≠ k)
    (hbox : w.cell? ⟨kb, 0, none⟩ = some (.slice (some ⟨lb, lo, none⟩) ls.length cap)) (hlab : ∀ j, j < ls.length → w.cell? ⟨lb, lo + j, none⟩ = some (.int .i64 (labAt ls j))) :
    Calls Try.prog 21 #[.slice (some ⟨k, 0, none⟩) ls.length c, .func (.func 22) #[] #[.pointer (some ⟨kb, 0, none⟩)]] w fun r w' => r = .returned (.tuple #[]) ∧ RowW w w' k el ((pdqI ls h).toList.map encI ++ vs.drop ls.length) := by
  letI := inhI h
  have hvl : ls.length ≤ vs.length := by
    have := hvs (ls.length - 1) (by omega)
    have := (List.getElem?_eq_some_iff.1 this).1
    omega
  have hget : ∀ j (hj : j < ls.length), (allI ls.length)[j]! = (⟨j, hj⟩ : Ix ls.length) := fun j hj => by
    rw [getElem!_pos _ j (by rw [allI_size]; exact hj)]
    exact Array.getElem_ofFn _
  have hH : Sort.Holds encI w k 0 (allI ls.length) := by
    intro j hj
    rw [allI_size] at hj
    refine ⟨?_, frozen_of_row w k _ _ _ hk⟩
    rw [Nat.zero_add, cell_of_row w k j vs.toArray el (0, 0) hk, List.getElem?_toArray, hvs j hj, hget j hj]
    rfl
  have hcmp : CmpLays1 Try.prog 22 #[.pointer (some ⟨kb, 0, none⟩)] (encI (n := ls.length)) (cfL ls) k 0 (allI ls.length).size w := by
    intro m os dk hsz x y
    rw [allI_size] at hsz
    have hsw := sort_world (encI (n := ls.length)) (m := m) (d := dk) (os := os) hk (by omega)
    have hoth : ∀ b o v, b ≠ k → w.cell? ⟨b, o, none⟩ = some v → (sortWorld encI w k 0 m dk os).cell? ⟨b, o, none⟩ = some v := fun b o v hb hv => by
      rw [World.cell?_of_block (w := w) (hsw.2.2.2.2.1 b (cell_lt' hv) hb)]; exact hv
    have := closure_any x.val y.val ls.length cap kb lb lo (labAt ls x.val) (labAt ls y.val) (sortWorld encI w k 0 m dk os) x.property y.property (hoth kb 0 _ hne1 hbox) (hoth lb _ _ hne2 (hlab _ x.property)) (hoth lb _ _ hne2 (hlab _ y.property))
    refine this.mono fun e w' ⟨he, q, hq⟩ => ⟨he, q, #[], ?_⟩
    rw [hq, Sort.grow_empty]
  have eg : ∀ args w, (callFunc 22 args).run Try.prog w = .ok (.enter 22 args) w := fun a w => Try.call22 a w
  have hS := Any.slices_SortFunc_eq sortL (encI (n := ls.length)) (fun _ => rfl) (cfL ls) (swoL ls) 22 #[.pointer (some ⟨kb, 0, none⟩)] k 0 c (allI ls.length) w eg hcmp hH (heap_lt hk) (by rw [allI_size]; exact hbig)
  rw [allI_size] at hS
  refine (show Calls Try.prog 21 _ _ _ from hS).mono fun e w' ⟨he, n, os, hw⟩ => ⟨he, ?_⟩
  have hps : (pdqI ls h).size ≤ vs.length := by rw [pdqI_size]; exact hvl
  have hsw := sort_world (encI (n := ls.length)) (m := n) (d := pdqI ls h) (os := os) hk hps
  have hw' : w' = sortWorld encI w k 0 n (pdqI ls h) os := hw
  rw [hw']
  obtain ⟨h1, h2, h3, h4, h5, h6⟩ := hsw
  rw [pdqI_size] at h6
  exact ⟨h1, h2, h3, h4, h5, h6⟩
end Go.Proofs.YtcjooalmhppkiaaRRRR
