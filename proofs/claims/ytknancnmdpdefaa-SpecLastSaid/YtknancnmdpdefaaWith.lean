/- The contracts of with, without, Clone. -/
import Derived.Test.YtknancnmdpdefaaFind
namespace Go.Proofs.Ytknancnmdpdefaa
open Go.RowKit

theorem new_int (w : World) (x : Int) (e : TypeId) : RowIn ints (w.alloc (.cells #[.int .i64 x] e)) (some ⟨w.heap.size, 0, none⟩) [x] := by
  obtain ⟨A, cap, e', _, _, _, hr⟩ := isRow_new ints w [x] e (by unfold maxLen; simp)
  injection e' with e'
  subst e'
  exact hr

theorem take_len {l : List Int} {p : Nat} (hp : p ≤ l.length) : (l.take p).length = p := by simp; omega
theorem drop_len {l : List Int} {p : Nat} : (l.drop p).length = l.length - p := by simp

/-- What is cut off behind: its address. -/
theorem cut_row {w : World} {A : Option Addr} {l : List Int} {cap p : Nat} (hr : RowIn ints w A l) (hp : p ≤ l.length) (hc : l.length ≤ cap) (hne : cap ≠ p) (hA : A = none → cap = 0) : ∃ ad, A = some ad ∧ RowIn ints w (some (ad.add p)) (l.drop p) := by
  rcases A with _ | ad
  · have := hA rfl; omega
  · refine ⟨ad, rfl, ?_⟩
    rcases hl : l with _ | ⟨x, l'⟩
    · intro i y hy; simp at hy
    · obtain ⟨b', o', e, _⟩ := hr 0 x (by rw [hl]; rfl)
      cases e
      have := RowIn.drop hr p
      rw [hl] at this
      have e2 : (⟨b', o', none⟩ : Addr).add p = ⟨b', o' + p * ints.sz, none⟩ := by
        unfold Addr.add
        split
        · rename_i h0; subst h0; simp
        · simp [ints]
      rw [e2]
      exact this

set_option maxRecDepth 100000 in
set_option maxHeartbeats 1000000 in
theorem with_any (A : Option Addr) (cap : Nat) (l : List Int) (p : Nat) (x : Int) (w : World) (hr : RowIn ints w A l) (hl : l.length ≤ 1000000) (hcap : l.length ≤ cap) (hmax : cap ≤ maxLen) (hA : A = none → cap = 0) (hp : p ≤ l.length) :
    Calls Try.prog 47 #[.slice A l.length cap, .int .i64 p, .int .i64 x] w (GivesRow ints (insAt l p x) w) := by
  obtain ⟨i0, hi0, hz0, hz1, hz2⟩ := info_parts int_info
  unfold maxLen at hmax
  have htl := take_len hp
  have HT := Lib.hid htl
  clear htl
  by_cases hcp : cap = p
  · subst hcp
    have hrd : RowIn ints w A (l.drop cap) := by
      rw [List.drop_eq_nil_of_le hcap]
      exact RowIn.nil
    have hpc : (cap : Int) ≤ (cap : Int) := by omega
    clear hA
    go_enter Try.func47, Try.ntmps47
    go_wp2_with (first
      | (at_make; refine wpList_make_own _ rfl _ _ 22 rfl w.heap.size 3 i0 _ 1 Try.underlying22 hi0 hz0 hz1 .i64 .i64 _ (l.length + 1) rfl rfl (by omega) (by rw [hz2]; omega) (by unfold maxLen; omega) (Nat.le_refl _) ?_; intro w1 hown1 hg1; have b1 : Below w.heap.size w w1 := (Below.refl _ _).grown hg1 (Nat.le_refl _) (by simp))
      | (at_builtin; refine wpList_append_rows _ ints rfl (.tmp 12) (.tmp 15) 22 rfl w.heap.size 3 i0 _ 8 Try.underlying22 hi0 hz0 hz1 hz2 rfl _ [] rfl hown1 _ (l.take cap) _ cap rfl HT.out ((hr.take cap).next b1) (by unfold maxLen; simp; omega) (by simp; omega) b1.size ?_; intro v2 w2 hown2 hb2 _; have b2 := b1.trans hb2; clear hown1)
      | (at_builtin; refine wpList_append_rows _ ints rfl (.tmp 17) (.tmp 19) 22 rfl w.heap.size 3 i0 _ 8 Try.underlying22 hi0 hz0 hz1 hz2 rfl _ _ rfl (owns_below hown2 ((Below.refl _ _).alloc (Nat.le_refl _) _)) _ [x] _ 1 rfl rfl (new_int w2 x 3) (by unfold maxLen; simp; omega) (by simp; omega) (by have := b2.size; simp; omega) ?_; intro v3 w3 hown3 hb3 _; have b3 := (b2.alloc b2.size _).trans hb3; clear hown2)
      | (at_builtin; refine wpList_append_rows _ ints rfl (.tmp 21) (.tmp 24) 22 rfl w.heap.size 3 i0 _ 8 Try.underlying22 hi0 hz0 hz1 hz2 rfl _ _ rfl hown3 _ (l.drop cap) _ 0 rfl (by simp; omega) (hrd.next b3) (by unfold maxLen; simp; omega) (by simp; omega) b3.size ?_; intro v4 w4 hown4 hb4 _; have b4 := b3.trans hb4))
    go_ret
    refine ⟨v4, rfl, isRow_of_own (base := w.heap.size) (e := 3) ?_, owns_base hown4, b4⟩
    have e : [] ++ List.take cap l ++ [x] ++ List.drop cap l = insAt l cap x := by simp [insAt]
    rw [← e]
    exact hown4
  · obtain ⟨ad, rfl, hrd⟩ := cut_row hr hp hcap hcp hA
    have hpc : (p : Int) ≤ (cap : Int) := by omega
    clear hA
    go_enter Try.func47, Try.ntmps47
    go_wp2_with (first
      | (at_make; refine wpList_make_own _ rfl _ _ 22 rfl w.heap.size 3 i0 _ 1 Try.underlying22 hi0 hz0 hz1 .i64 .i64 _ (l.length + 1) rfl rfl (by omega) (by rw [hz2]; omega) (by unfold maxLen; omega) (Nat.le_refl _) ?_; intro w1 hown1 hg1; have b1 : Below w.heap.size w w1 := (Below.refl _ _).grown hg1 (Nat.le_refl _) (by simp))
      | (at_builtin; refine wpList_append_rows _ ints rfl (.tmp 12) (.tmp 15) 22 rfl w.heap.size 3 i0 _ 8 Try.underlying22 hi0 hz0 hz1 hz2 rfl _ [] rfl hown1 _ (l.take p) _ p rfl HT.out ((hr.take p).next b1) (by unfold maxLen; simp; omega) (by simp; omega) b1.size ?_; intro v2 w2 hown2 hb2 _; have b2 := b1.trans hb2; clear hown1)
      | (at_builtin; refine wpList_append_rows _ ints rfl (.tmp 17) (.tmp 19) 22 rfl w.heap.size 3 i0 _ 8 Try.underlying22 hi0 hz0 hz1 hz2 rfl _ _ rfl (owns_below hown2 ((Below.refl _ _).alloc (Nat.le_refl _) _)) _ [x] _ 1 rfl rfl (new_int w2 x 3) (by unfold maxLen; simp; omega) (by simp; omega) (by have := b2.size; simp; omega) ?_; intro v3 w3 hown3 hb3 _; have b3 := (b2.alloc b2.size _).trans hb3; clear hown2)
      | (at_builtin; refine wpList_append_rows _ ints rfl (.tmp 21) (.tmp 24) 22 rfl w.heap.size 3 i0 _ 8 Try.underlying22 hi0 hz0 hz1 hz2 rfl _ _ rfl hown3 _ (l.drop p) _ (l.length - p) rfl drop_len (hrd.next b3) (by unfold maxLen; simp; omega) (by simp; omega) b3.size ?_; intro v4 w4 hown4 hb4 _; have b4 := b3.trans hb4))
    go_ret
    refine ⟨v4, rfl, isRow_of_own (base := w.heap.size) (e := 3) ?_, owns_base hown4, b4⟩
    have e : [] ++ List.take p l ++ [x] ++ List.drop p l = insAt l p x := by simp [insAt]
    rw [← e]
    exact hown4

set_option maxRecDepth 100000 in
set_option maxHeartbeats 1000000 in
theorem without_any (A : Option Addr) (cap : Nat) (l : List Int) (p : Nat) (w : World) (hr : RowIn ints w A l) (hl : l.length ≤ 1000000) (hcap : l.length ≤ cap) (hmax : cap ≤ maxLen) (hA : A = none → cap = 0) (hp : p < l.length) :
    Calls Try.prog 48 #[.slice A l.length cap, .int .i64 p] w (GivesRow ints (delAt l p) w) := by
  obtain ⟨i0, hi0, hz0, hz1, hz2⟩ := info_parts int_info
  unfold maxLen at hmax
  have HT := Lib.hid (take_len (Nat.le_of_lt hp))
  have hpc : (p : Int) ≤ (cap : Int) := by omega
  have hpc1 : (p : Int) + 1 ≤ (cap : Int) := by omega
  have hpl1 : (p : Int) + 1 ≤ (l.length : Int) := by omega
  by_cases hcp : cap = p + 1
  · have hrd : RowIn ints w A (l.drop (p + 1)) := by
      rw [List.drop_eq_nil_of_le (by omega)]
      exact RowIn.nil
    subst hcp
    go_enter Try.func48, Try.ntmps48
    go_wp2_with (first
      | (at_make; refine wpList_make_own _ rfl _ _ 22 rfl w.heap.size 3 i0 _ 1 Try.underlying22 hi0 hz0 hz1 .i64 .i64 _ l.length rfl rfl (by omega) (by rw [hz2]; omega) (by unfold maxLen; omega) (Nat.le_refl _) ?_; intro w1 hown1 hg1; have b1 : Below w.heap.size w w1 := (Below.refl _ _).grown hg1 (Nat.le_refl _) (by simp))
      | (at_builtin; refine wpList_append_rows _ ints rfl (.tmp 9) (.tmp 12) 22 rfl w.heap.size 3 i0 _ 8 Try.underlying22 hi0 hz0 hz1 hz2 rfl _ [] rfl hown1 _ (l.take p) _ p rfl HT.out ((hr.take p).next b1) (by unfold maxLen; simp; omega) (by simp; omega) b1.size ?_; intro v2 w2 hown2 hb2 _; have b2 := b1.trans hb2; clear hown1)
      | (at_builtin; refine wpList_append_rows _ ints rfl (.tmp 14) (.tmp 18) 22 rfl w.heap.size 3 i0 _ 8 Try.underlying22 hi0 hz0 hz1 hz2 rfl _ _ rfl hown2 _ (l.drop (p + 1)) _ 0 rfl (by simp; omega) (hrd.next b2) (by unfold maxLen; simp; omega) (by simp; omega) b2.size ?_; intro v4 w4 hown4 hb4 _; have b4 := b2.trans hb4))
    go_ret
    refine ⟨v4, rfl, isRow_of_own (base := w.heap.size) (e := 3) ?_, owns_base hown4, b4⟩
    have e : [] ++ List.take p l ++ List.drop (p + 1) l = delAt l p := by simp [delAt]
    rw [← e]
    exact hown4
  · obtain ⟨ad, rfl, hrd⟩ := cut_row hr (show p + 1 ≤ l.length by omega) hcap hcp hA
    clear hA
    go_enter Try.func48, Try.ntmps48
    go_wp2_with (first
      | (at_make; refine wpList_make_own _ rfl _ _ 22 rfl w.heap.size 3 i0 _ 1 Try.underlying22 hi0 hz0 hz1 .i64 .i64 _ l.length rfl rfl (by omega) (by rw [hz2]; omega) (by unfold maxLen; omega) (Nat.le_refl _) ?_; intro w1 hown1 hg1; have b1 : Below w.heap.size w w1 := (Below.refl _ _).grown hg1 (Nat.le_refl _) (by simp))
      | (at_builtin; refine wpList_append_rows _ ints rfl (.tmp 9) (.tmp 12) 22 rfl w.heap.size 3 i0 _ 8 Try.underlying22 hi0 hz0 hz1 hz2 rfl _ [] rfl hown1 _ (l.take p) _ p rfl HT.out ((hr.take p).next b1) (by unfold maxLen; simp; omega) (by simp; omega) b1.size ?_; intro v2 w2 hown2 hb2 _; have b2 := b1.trans hb2; clear hown1)
      | (at_builtin; refine wpList_append_rows _ ints rfl (.tmp 14) (.tmp 18) 22 rfl w.heap.size 3 i0 _ 8 Try.underlying22 hi0 hz0 hz1 hz2 rfl _ _ rfl hown2 _ (l.drop (p + 1)) _ (l.length - (p + 1)) rfl drop_len (hrd.next b2) (by unfold maxLen; simp; omega) (by simp; omega) b2.size ?_; intro v4 w4 hown4 hb4 _; have b4 := b2.trans hb4))
    go_ret
    refine ⟨v4, rfl, isRow_of_own (base := w.heap.size) (e := 3) ?_, owns_base hown4, b4⟩
    have e : [] ++ List.take p l ++ List.drop (p + 1) l = delAt l p := by simp [delAt]
    rw [← e]
    exact hown4

set_option maxRecDepth 100000 in
set_option maxHeartbeats 1000000 in
theorem clone_any (A : Option Addr) (cap : Nat) (l : List Int) (w : World) (hr : RowIn ints w A l) (hl : l.length ≤ 1000000) :
    Calls Try.prog 49 #[.slice A l.length cap] w (GivesRow ints l w) := by
  obtain ⟨i0, hi0, hz0, hz1, hz2⟩ := info_parts int_info
  have hnil := fun (w : World) => Lib.run_eql_slice_nil (P := Try.prog) w 22 3 A l.length cap 0 0 Try.underlying22
  rcases A with _ | ad
  · have hn : l = [] := by
      rcases l with _ | ⟨x, l⟩
      · rfl
      · obtain ⟨b, o, hA, _⟩ := hr 0 x rfl
        cases hA
    subst hn
    simp only [Option.isNone_none, List.length_nil] at hnil
    go_enter Try.func49, Try.ntmps49
    go_wp2
    go_ret
    exact ⟨_, rfl, IsRow.nil ints w, (fun k hk => by simp [Value.ownBlock] at hk), Below.refl _ _⟩
  · simp only [Option.isNone_some] at hnil
    have hb0 : Below w.heap.size w (w.alloc (.cells #[] 3)) := (Below.refl _ _).alloc (Nat.le_refl _) _
    have hown0 : (w.alloc (.cells #[] 3)).ownsRow w.heap.size 3 ints.sz (.slice (some ⟨w.heap.size, 0, none⟩) 0 0) ([] : List Int).length (ints.flat []) :=
      ⟨by simp [RowTy.flat], .inr ⟨w.heap.size, 0, #[], rfl, Nat.le_refl _, heap_alloc_new w _, Nat.le_refl _, by unfold maxLen; omega, by simp, by simp [RowTy.flat]⟩⟩
    have HO := Lib.hid hown0
    clear hown0
    go_enter Try.func49, Try.ntmps49
    go_wp2_with (first
      | (at_builtin; refine wpList_append_rows _ ints rfl (.tmp 5) (.tmp 6) 22 rfl w.heap.size 3 i0 _ 8 Try.underlying22 hi0 hz0 hz1 hz2 rfl _ [] rfl HO.out _ l _ _ rfl rfl (hr.next hb0) (by unfold maxLen; simp; omega) (by simp; omega) (by simp) ?_; intro v2 w2 hown2 hb2 _))
    go_ret
    refine ⟨v2, rfl, isRow_of_own (base := w.heap.size) (e := 3) ?_, owns_base hown2, hb0.trans hb2⟩
    simpa using hown2
end Go.Proofs.Ytknancnmdpdefaa
