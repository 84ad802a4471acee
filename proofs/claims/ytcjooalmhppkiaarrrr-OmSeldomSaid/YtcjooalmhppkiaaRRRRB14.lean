/- Orders: the document's example, and plain rows. -/
import Derived.Test.YtcjooalmhppkiaaRRRRB13
namespace Go.Proofs.YtcjooalmhppkiaaRRRR
open Go.RowKit

theorem beh1 : behF [0] 0 = ([0, 1048576], 1, 0) := by
  have h : roomF [0] 0 = [0] := by unfold roomF; rw [if_neg (by decide)]
  unfold behF
  rw [if_pos (by decide), if_neg (by decide)]
  simp only [Int.toNat_zero, h]
  rfl
theorem beh2 : behF [0, 1048576] 0 = ([0, 1048576, 524288], 2, 0) := by
  have h : roomF [0, 1048576] 0 = [0, 1048576] := by unfold roomF; rw [if_neg (by decide)]
  unfold behF
  rw [if_pos (by decide), if_neg (by decide)]
  simp only [Int.toNat_zero, h]
  rfl
theorem beh3 : behF [0, 1048576, 524288] 3 = ([0, 1048576, 524288], 0, 1) := by
  unfold behF
  rw [if_neg (by decide)]
theorem row3 : rowF [0, 1048576, 524288] = [0, 2, 1] := by
  refine rowF_eq (by decide) (by decide) ?_
  intro x y hx hy
  have hx' : x < 3 := hx
  have hy' : y < 3 := hy
  have : x = 0 ∨ x = 1 ∨ x = 2 := by omega
  have : y = 0 ∨ y = 1 ∨ y = 2 := by omega
  rcases ‹x = 0 ∨ x = 1 ∨ x = 2› with rfl | rfl | rfl <;> rcases ‹y = 0 ∨ y = 1 ∨ y = 2› with rfl | rfl | rfl <;> decide

/-- A row into which y is put behind x. -/
def insF (x y : Nat) (row : List Nat) : List Nat := row.flatMap fun k => if k = x then [k, y] else [k]
theorem insF_none {x y : Nat} : ∀ {A : List Nat}, x ∉ A → insF x y A = A
  | [], _ => rfl
  | k :: A, h => by
    have h1 : k ≠ x := fun e => h (by rw [e]; exact List.mem_cons_self)
    have h2 := insF_none (x := x) (y := y) (A := A) (fun e => h (List.mem_cons_of_mem _ e))
    unfold insF at h2 ⊢
    rw [List.flatMap_cons, h2, if_neg h1]; rfl
theorem insF_split {x y : Nat} {row : List Nat} (hx : x ∈ row) (hn : row.Nodup) : ∃ A B, row = A ++ x :: B ∧ insF x y row = A ++ x :: y :: B := by
  obtain ⟨A, B, rfl⟩ := List.append_of_mem hx
  have h1 : x ∉ A := fun h => by
    have := (List.nodup_append.1 hn).2.2 x h x List.mem_cons_self
    exact this rfl
  have h2 : x ∉ B := (List.nodup_cons.1 (List.nodup_append.1 hn).2.1).1
  refine ⟨A, B, rfl, ?_⟩
  have a1 := insF_none (y := y) h1
  have a2 := insF_none (y := y) h2
  unfold insF at a1 a2 ⊢
  rw [List.flatMap_append, List.flatMap_cons, a1, a2, if_pos rfl]; rfl
/-- A row that is that of the labels. -/
structure IsRow (ls : List Int) (row : List Nat) : Prop where
  perm : row.Perm (List.range ls.length)
  rise : row.Pairwise fun x y => labAt ls x < labAt ls y
theorem IsRow.eq {ls : List Int} {row : List Nat} (h : IsRow ls row) (hr : rightB ls = true) : rowF ls = row := rowF_eq h.perm h.rise (rightB_iff.1 hr).2.2
theorem IsRow.next {ls ls' : List Int} {row : List Nat} {x : Nat} (h : IsRow ls row) (hx : x < ls.length) (hb : Behind ls x ls') : IsRow ls' (insF x ls.length row) := by
  have hm : ∀ k, k ∈ row → k < ls.length := fun k hk => List.mem_range.1 (h.perm.mem_iff.1 hk)
  have hxm : x ∈ row := h.perm.mem_iff.2 (List.mem_range.2 hx)
  have hn : row.Nodup := h.perm.nodup_iff.2 List.nodup_range
  obtain ⟨A, B, e1, e2⟩ := insF_split (y := ls.length) hxm hn
  rw [e2]
  refine ⟨?_, ?_⟩
  · rw [hb.len, List.range_succ]
    have h1 : (A ++ x :: ls.length :: B).Perm ((A ++ x :: B) ++ [ls.length]) := by
      rw [List.append_assoc]
      refine List.Perm.append_left A ?_
      rw [List.cons_append]
      refine List.Perm.cons x ?_
      exact (List.perm_append_comm (l₁ := [ls.length]) (l₂ := B))
    refine h1.trans ?_
    rw [← e1]
    exact h.perm.append_right _
  · have hp := h.rise
    have hlt : ∀ k, k ∈ A ++ x :: B → k < ls.length := fun k hk => hm k (by rw [e1]; exact hk)
    rw [e1] at hp
    rw [List.pairwise_append] at hp ⊢
    obtain ⟨p1, p2, p3⟩ := hp
    rw [List.pairwise_cons] at p2
    obtain ⟨p4, p5⟩ := p2
    have hA : ∀ k ∈ A, k < ls.length := fun k hk => hlt k (List.mem_append_left _ hk)
    have hB : ∀ k ∈ B, k < ls.length := fun k hk => hlt k (List.mem_append_right _ (List.mem_cons_of_mem _ hk))
    refine ⟨?_, ?_, ?_⟩
    · exact p1.imp_of_mem fun {a b} ha hb' hab => (hb.old a b (hA a ha) (hA b hb')).2 hab
    · rw [List.pairwise_cons, List.pairwise_cons]
      refine ⟨?_, ?_, ?_⟩
      · intro b hbm
        rcases List.mem_cons.1 hbm with rfl | hbm
        · exact (hb.ahead x hx).2 (.inl rfl)
        · exact (hb.old x b hx (hB b hbm)).2 (p4 b hbm)
      · intro b hbm
        exact (hb.after b (hB b hbm)).2 (p4 b hbm)
      · exact p5.imp_of_mem fun {a b} ha hb' hab => (hb.old a b (hB a ha) (hB b hb')).2 hab
    · intro a ha b hbm
      rcases List.mem_cons.1 hbm with rfl | hbm
      · exact (hb.old a b (hA a ha) hx).2 (p3 a ha b List.mem_cons_self)
      · rcases List.mem_cons.1 hbm with rfl | hbm
        · exact (hb.ahead a (hA a ha)).2 (.inr (p3 a ha x List.mem_cons_self))
        · exact (hb.old a b (hA a ha) (hB b hbm)).2 (p3 a ha b (List.mem_cons_of_mem _ hbm))
end Go.Proofs.YtcjooalmhppkiaaRRRR
