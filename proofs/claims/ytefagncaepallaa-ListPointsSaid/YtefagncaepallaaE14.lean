/- The document's map: walks. -/
import Derived.Test.YtefagncaepallaaE8
import Derived.Test.YtefagncaepallaaPC
namespace Go.Proofs.Ytefagncaepallaa
open Go.RowKit
set_option maxRecDepth 100000

abbrev Rises (l : List Int) : Prop := RisesL l
theorem lt_of_some {α : Type} {l : List α} {n : Nat} {c : α} (h : l[n]? = some c) : n < l.length := (List.getElem?_eq_some_iff.1 h).1
theorem rises_step {l : List Int} {n : Nat} {x y : Int} (h : Rises (l.take n)) (hx : l[n]? = some x) (hy : l[n - 1]? = some y) (hn : 1 ≤ n) (hlt : y < x) : Rises (l.take (n + 1)) := by
  unfold Rises RisesL at *
  rw [List.take_add_one, hx, Option.toList_some, List.pairwise_append]
  refine ⟨h, List.pairwise_singleton _ _, fun a ha b hb => ?_⟩
  simp at hb
  subst hb
  obtain ⟨i, hi, rfl⟩ := List.mem_iff_getElem.1 ha
  have hil : i < n := by simp at hi; omega
  have hnl : n < l.length := (List.getElem?_eq_some_iff.1 hx).1
  rw [List.pairwise_iff_getElem] at h
  by_cases e : i = n - 1
  · subst e
    have : (l.take n)[n - 1] = y := by
      rw [List.getElem_take]
      have h3 : l[n - 1]? = some l[n - 1] := List.getElem?_eq_getElem (by omega)
      rw [h3] at hy; injection hy
    rw [this]; exact hlt
  · have hh := h i (n - 1) hi (by simp; omega) (by omega)
    have : (l.take n)[n - 1]'(by simp; omega) = y := by
      rw [List.getElem_take]
      have h3 : l[n - 1]? = some l[n - 1] := List.getElem?_eq_getElem (by omega)
      rw [h3] at hy; injection hy
    rw [this] at hh
    omega
theorem not_rises {l : List Int} {n : Nat} {x y : Int} (hx : l[n]? = some x) (hy : l[n - 1]? = some y) (hn : 1 ≤ n) (hle : x ≤ y) : ¬ Rises l := by
  intro h
  unfold Rises RisesL at h
  rw [List.pairwise_iff_getElem] at h
  have hnl : n < l.length := (List.getElem?_eq_some_iff.1 hx).1
  have := h (n - 1) n (by omega) hnl (by omega)
  rw [List.getElem?_eq_getElem hnl] at hx
  rw [List.getElem?_eq_getElem (by omega)] at hy
  injection hx with hx
  injection hy with hy
  omega
theorem rises_one (l : List Int) : Rises (l.take 1) := by
  unfold Rises RisesL
  rcases l with _ | ⟨x, l⟩
  · simp
  · simp
theorem rises_lt {l : List Int} (h : Rises l) {i j : Nat} {x y : Int} (hi : l[i]? = some x) (hj : l[j]? = some y) (hij : i < j) : x < y := by
  unfold Rises RisesL at h
  rw [List.pairwise_iff_getElem] at h
  have h1 := lt_of_some hi
  have h2 := lt_of_some hj
  have := h i j h1 h2 hij
  rw [List.getElem?_eq_getElem h1] at hi
  rw [List.getElem?_eq_getElem h2] at hj
  injection hi with hi
  injection hj with hj
  omega
def Lows (l : List Int) (x : Int) (n : Nat) : Prop := ∀ i, i < n → ∀ y, l[i]? = some y → y < x
def Highs (l : List Int) (x : Int) (n : Nat) : Prop := ∀ i, n ≤ i → ∀ y, l[i]? = some y → x ≤ y
theorem pos_unique {l : List Int} {x : Int} {p : Nat} (hp : p ≤ l.length) (h1 : ∀ i, i < p → ∀ y, l[i]? = some y → y < x) (h2 : ∀ y, l[p]? = some y → x ≤ y) : p = pos l x := by
  have h := pos_is (A := l.take p) (B := l.drop p) (x := x) (fun y hy => by
    obtain ⟨i, hi, rfl⟩ := List.mem_iff_getElem.1 hy
    have hi' : i < p := by simp at hi; omega
    refine h1 i hi' _ ?_
    rw [List.getElem_take, List.getElem?_eq_getElem]) (fun y hy => h2 y (by rw [List.head?_drop] at hy; exact hy))
  rw [List.take_append_drop, List.length_take] at h
  omega
theorem lows_half {l : List Int} (h : Rises l) {x y : Int} {k : Nat} (hk : l[k]? = some y) (hy : y < x) : Lows l x (k + 1) := fun i hi z hz => by
  by_cases e : i = k
  · subst e; rw [hk] at hz; cases hz; exact hy
  · have := rises_lt h hz hk (by omega); omega
theorem highs_half {l : List Int} (h : Rises l) {x y : Int} {k : Nat} (hk : l[k]? = some y) (hy : ¬ y < x) : Highs l x k := fun i hi z hz => by
  by_cases e : i = k
  · subst e; rw [hk] at hz; cases hz; omega
  · have := rises_lt h hk hz (by omega); omega
theorem pos_of {l : List Int} {x : Int} {n : Nat} (hn : n ≤ l.length) (h1 : Lows l x n) (h2 : Highs l x n) : n = pos l x :=
  pos_unique hn h1 fun y hy => h2 n (Nat.le_refl _) y hy
theorem pos_le (l : List Int) (x : Int) : pos l x ≤ l.length := by
  unfold pos
  exact (List.takeWhile_sublist _).length_le
theorem rises_c (l : List Int) (hl : l.length ≤ 1000000000) : PureC Try.prog 71 [dInts l] (dB (decide (Rises l))) := by
  refine pure_fin tabOk Try.func71 rfl Try.ntmps71 rfl rfl rfl fun w cl => ?_
  refine go ?_
  refine awp_loop_ok (fun n : Nat => 1 ≤ n ∧ (n ≤ l.length ∨ n = 1) ∧ Rises (l.take n)) (fun n => ⟨[(3, dI n), (0, dInts l)], [], []⟩) (fun n => l.length - n) 1 ⟨by omega, by omega, rises_one l⟩ (zX) ?_
  rintro n ⟨hn1, hnl, hri⟩
  refine go ?_
  refine ck_b (fun h1 => ?_) (fun h1 => ?_) <;> try rw [h1]
  · refine go ?_
    have hlt : (n : Int) < l.length := of_decide_eq_true h1
    obtain ⟨x, hx⟩ := getI (l := l) (i := n) (by omega) hlt
    obtain ⟨y, hy⟩ := getI (l := l) (i := (n : Int) - 1) (by omega) (by omega)
    refine awp_region_q [] rfl (by kernel_rfl) (by kernel_rfl) ?_
    refine goQ ?_
    refine r_q (indexAddr_step tabOk [pI x] rfl rfl rfl rfl rfl rfl (by first | omega | (simp; done) | (simp; omega)) (by first | omega | (simp; done) | (simp; omega)) (by first | (simp; done) | exact List.cons_ne_nil _ _) (ints_idx hx)) rfl rfl ?_
    refine goQ ?_
    refine r_q (indexAddr_step tabOk [pI y] rfl rfl rfl rfl rfl rfl (by first | omega | (simp; done) | (simp; omega)) (by first | omega | (simp; done) | (simp; omega)) (by first | (simp; done) | exact List.cons_ne_nil _ _) (ints_idx hy)) rfl rfl ?_
    refine goQ ?_
    refine go ?_
    have e1 : ((n : Int) - 1).toNat = n - 1 := by omega
    rw [e1] at hy
    refine ck_b (fun h2 => ?_) (fun h2 => ?_) <;> try rw [h2]
    · refine go ?_
      refine fin_ret rfl ?_
      rw [decide_eq_false (not_rises hx hy hn1 (of_decide_eq_true h2))]
    · refine go ?_
      exact ⟨n + 1, ⟨by omega, by omega, rises_step hri hx hy hn1 (by have := of_decide_eq_false h2; omega)⟩, by omega, zX⟩
  · refine go ?_
    refine fin_ret rfl ?_
    have := of_decide_eq_false h1
    rw [List.take_of_length_le (by omega)] at hri
    rw [decide_eq_true hri]
theorem ints_sl0 {l : List Int} {c : Nat} : ∀ (i : Nat) q, (pInts (l.take c))[i]? = some q → (pInts l)[(0 : Int).toNat * 1 + i]? = some q := by
  intro i q h
  simp only [pInts, List.map_take, List.getElem?_take] at h
  split at h
  · simpa [pInts] using h
  · cases h
theorem ints_slD {l : List Int} {a : Int} : ∀ (i : Nat) q, (pInts (l.drop a.toNat))[i]? = some q → (pInts l)[a.toNat * 1 + i]? = some q := by
  intro i q h
  simp only [pInts, List.map_drop, List.getElem?_drop] at h
  simpa [pInts] using h
theorem ints_eq {l m : List Int} {n : Nat} {ps : List Pl} (hn : n = m.length) (hp : ps = pInts m) (hl : l = m) : Dt.p (.sl false n ps) = dInts l := by rw [hn, hp, hl]

theorem find_c (l : List Int) (x : Int) (hl : l.length ≤ 1000000000) (hri : Rises l) : PureC Try.prog 83 [dInts l, dI x] (.tup [dI (pos l x : Nat), dB (decide (l[pos l x]? = some x))]) := by
  refine pure_fin tabOk Try.func83 rfl Try.ntmps83 rfl rfl rfl fun w cl => ?_
  refine go ?_
  refine awp_loop_ok (fun p : Nat × Nat => p.1 ≤ p.2 ∧ p.2 ≤ l.length ∧ Lows l x p.1 ∧ Highs l x p.2) (fun p => ⟨[(6, dI p.1), (7, dI p.2), (0, dInts l), (1, dI x)], [], []⟩) (fun p => p.2 - p.1) (0, l.length) ⟨by simp, by simp, fun i hi => by simp at hi, fun i hi y hy => by have := lt_of_some hy; simp at hi; omega⟩ (zX) ?_
  rintro ⟨m, n⟩ ⟨hmn, hnl, hlo, hhi⟩
  simp only at hmn hnl hlo hhi
  refine go ?_
  refine ck_b (fun h1 => ?_) (fun h1 => ?_) <;> try rw [h1]
  · have hlt : (m : Int) < n := of_decide_eq_true h1
    refine go ?_
    refine a_q (quo_step rfl rfl rfl (by omega) (by omega) (by omega)) rfl rfl rfl ?_
    refine go ?_
    have e1 : ((m : Int) + ((n : Int) - m) / 2).toNat = m + (n - m) / 2 := by omega
    obtain ⟨y, hy⟩ := getI (l := l) (i := (m : Int) + ((n : Int) - m) / 2) (by omega) (by omega)
    refine a_q (indexAddr_step tabOk [pI y] rfl rfl rfl rfl rfl rfl (by first | omega | (simp; done) | (simp; omega)) (by first | omega | (simp; done) | (simp; omega)) (by first | (simp; done) | exact List.cons_ne_nil _ _) (ints_idx hy)) rfl rfl rfl ?_
    refine go ?_
    rw [e1] at hy
    refine ck_b (fun h2 => ?_) (fun h2 => ?_) <;> try rw [h2]
    · refine go ?_
      refine ⟨(m + (n - m) / 2 + 1, n), ⟨by simp; omega, hnl, lows_half hri hy (of_decide_eq_true h2), hhi⟩, by simp; omega, ?_⟩
      have e2 : (m : Int) + ((n : Int) - m) / 2 + 1 = ((m + (n - m) / 2 + 1 : Nat) : Int) := by omega
      rw [e2]
      exact zX
    · refine go ?_
      refine ⟨(m, m + (n - m) / 2), ⟨by simp, by simp; omega, hlo, highs_half hri hy (of_decide_eq_false h2)⟩, by simp; omega, ?_⟩
      have e2 : (m : Int) + ((n : Int) - m) / 2 = ((m + (n - m) / 2 : Nat) : Int) := by omega
      rw [e2]
      exact zX
  · refine go ?_
    have hge := of_decide_eq_false h1
    obtain rfl : m = n := by omega
    have hp := pos_of hnl hlo hhi
    subst hp
    refine awp_region_q [] rfl (by kernel_rfl) (by kernel_rfl) ?_
    refine goQ ?_
    generalize h2 : decide (((pos l x : Nat) : Int) < l.length) = cc; cases cc
    · refine goQ ?_
      refine go ?_
      refine fin_ret rfl ?_
      have := of_decide_eq_false h2
      rw [List.getElem?_eq_none (by omega)]
      simp
    · have hlt := of_decide_eq_true h2
      obtain ⟨y, hy⟩ := getI (l := l) (i := (pos l x : Nat)) (by omega) hlt
      refine goQ ?_
      refine r_q (indexAddr_step tabOk [pI y] rfl rfl rfl rfl rfl rfl (by first | omega | (simp; done) | (simp; omega)) (by first | omega | (simp; done) | (simp; omega)) (by first | (simp; done) | exact List.cons_ne_nil _ _) (ints_idx hy)) rfl rfl ?_
      refine goQ ?_
      refine go ?_
      refine fin_ret rfl ?_
      simp only [Int.toNat_natCast] at hy
      rw [hy]
      simp

theorem with_c (l : List Int) (p : Nat) (x : Int) (hl : l.length ≤ 1000000000) (hp : p ≤ l.length) : PureC Try.prog 84 [dInts l, dI p, dI x] (dInts (insAt l p x)) := by
  refine pure_fin tabOk Try.func84 rfl Try.ntmps84 rfl rfl rfl fun w cl => ?_
  refine go ?_
  refine a_make0 tabOk 0 rfl rfl rfl rfl rfl (by omega) (by show (8 : Int) * _ ≤ _; omega) (by omega) rfl rfl rfl rfl ?_
  refine go ?_
  refine a_q (slice_step tabOk (p) (pInts (l.take p)) rfl rfl rfl rfl rfl rfl rfl (by omega) (by omega) (by omega) (by first | omega | (simp; omega) | simp) (by first | (simp [pInts]; done) | (simp [pInts]; omega) | (simp [pBools]; done)) (ints_sl0)) rfl rfl rfl ?_
  refine go ?_
  refine a_append tabOk rfl rfl rfl rfl rfl rfl rfl rfl rfl rfl rfl rfl (by first | (simp [pInts]; done) | (simp [pInts]; omega) | (simp [pBools]; done)) (by unfold maxLen; first | omega | (simp; omega)) (by show (_ + _) * 8 ≤ _; first | omega | (simp; omega)) ?_
  refine go ?_
  refine a_append tabOk rfl rfl rfl rfl rfl rfl rfl rfl rfl rfl rfl rfl (by first | (simp [pInts]; done) | (simp [pInts]; omega) | (simp [pBools]; done)) (by unfold maxLen; first | omega | (simp; omega)) (by show (_ + _) * 8 ≤ _; first | omega | (simp; omega)) ?_
  refine go ?_
  refine a_q (slice_step tabOk (l.length - p) (pInts (l.drop p)) rfl rfl rfl rfl rfl rfl rfl (by omega) (by omega) (by omega) (by first | omega | (simp; omega) | simp) (by first | (simp [pInts]; done) | (simp [pInts]; omega) | (simp [pBools]; done)) (ints_slD (a := p))) rfl rfl rfl ?_
  refine go ?_
  refine a_append tabOk rfl rfl rfl rfl rfl rfl rfl rfl rfl rfl rfl rfl (by first | (simp [pInts]; done) | (simp [pInts]; omega) | (simp [pBools]; done)) (by unfold maxLen; first | omega | (simp; omega)) (by show (_ + _) * 8 ≤ _; first | omega | (simp; omega)) ?_
  refine go ?_
  refine fin_ret rfl ?_
  refine ints_eq (m := insAt l p x) ?_ ?_ rfl
  · simp [insAt]; omega
  · simp [insAt, pInts]

theorem without_c (l : List Int) (p : Nat) (hl : l.length ≤ 1000000000) (hp : p < l.length) : PureC Try.prog 85 [dInts l, dI p] (dInts (delAt l p)) := by
  refine pure_fin tabOk Try.func85 rfl Try.ntmps85 rfl rfl rfl fun w cl => ?_
  refine go ?_
  refine a_make0 tabOk 0 rfl rfl rfl rfl rfl (by omega) (by show (8 : Int) * _ ≤ _; omega) (by omega) rfl rfl rfl rfl ?_
  refine go ?_
  refine a_q (slice_step tabOk (p) (pInts (l.take p)) rfl rfl rfl rfl rfl rfl rfl (by omega) (by omega) (by omega) (by first | omega | (simp; omega) | simp) (by first | (simp [pInts]; done) | (simp [pInts]; omega) | (simp [pBools]; done)) (ints_sl0)) rfl rfl rfl ?_
  refine go ?_
  refine a_append tabOk rfl rfl rfl rfl rfl rfl rfl rfl rfl rfl rfl rfl (by first | (simp [pInts]; done) | (simp [pInts]; omega) | (simp [pBools]; done)) (by unfold maxLen; first | omega | (simp; omega)) (by show (_ + _) * 8 ≤ _; first | omega | (simp; omega)) ?_
  refine go ?_
  refine a_q (slice_step tabOk (l.length - (p + 1)) (pInts (l.drop (p + 1))) rfl rfl rfl rfl rfl rfl rfl (by omega) (by omega) (by omega) (by first | omega | (simp; omega) | simp) (by first | (simp [pInts]; done) | (simp [pInts]; omega) | (simp [pBools]; done)) (ints_slD (a := (p + 1 : Nat)))) rfl rfl rfl ?_
  refine go ?_
  refine a_append tabOk rfl rfl rfl rfl rfl rfl rfl rfl rfl rfl rfl rfl (by first | (simp [pInts]; done) | (simp [pInts]; omega) | (simp [pBools]; done)) (by unfold maxLen; first | omega | (simp; omega)) (by show (_ + _) * 8 ≤ _; first | omega | (simp; omega)) ?_
  refine go ?_
  refine fin_ret rfl ?_
  refine ints_eq (m := delAt l p) ?_ ?_ rfl
  · simp [delAt]; omega
  · simp [delAt, pInts]

abbrev dCont (c : Cont) : Dt := .agg [dI c.kind, dInts c.keys, dInts c.vals]
abbrev dDid (r : Cont × Int × Bool) : Dt := .tup [dCont r.1, dI r.2.1, dB r.2.2]
def Small (c : Cont) : Prop := c.keys.length ≤ 100000000 ∧ c.vals.length ≤ 100000000
theorem rises_of {c : Cont} (hr : rightB c = true) (hk : c.kind = 1) : c.keys.length = c.vals.length ∧ Rises c.keys := by
  simpa [rightB, hk] using hr

theorem get_c (c : Cont) (o : OpT) (hs : Small c) (hr : rightB c = true) (hk : c.kind = 1) (ho : o.kind = 1) : PureC Try.prog 72 [dCont c, dOp o] (dDid (specS c o)) := by
  obtain ⟨hlen, hri⟩ := rises_of hr hk
  refine pure_fin tabOk Try.func72 rfl Try.ntmps72 rfl rfl rfl fun w cl => ?_
  refine go ?_
  refine a_q (call_step (find_c c.keys o.a (by have := hs.1; omega) hri) rfl (fun a w => Try.call83 a w) rfl) rfl rfl rfl ?_
  refine go ?_
  generalize h1 : decide (c.keys[pos c.keys o.a]? = some o.a) = cc; cases cc
  · refine go ?_
    first | refine fin_ret rfl ?_ | refine fin_normal rfl ?_
    simp [specS, ho, hasB, h1]
  · refine go ?_
    have hp := lt_of_some (of_decide_eq_true h1)
    obtain ⟨y, hy⟩ := getI (l := c.vals) (i := (pos c.keys o.a : Nat)) (by omega) (by omega)
    refine awp_region_q [2] rfl (by kernel_rfl) (by kernel_rfl) ?_
    refine goQ ?_
    refine r_q (indexAddr_step tabOk [pI y] rfl rfl rfl rfl rfl rfl (by first | omega | (simp; done) | (simp; omega)) (by first | omega | (simp; done) | (simp; omega)) (by first | (simp; done) | exact List.cons_ne_nil _ _) (ints_idx hy)) rfl rfl ?_
    refine goQ ?_
    refine go ?_
    first | refine fin_ret rfl ?_ | refine fin_normal rfl ?_
    simp only [Int.toNat_natCast] at hy
    simp [specS, ho, hasB, h1, hy]

theorem put_c (c : Cont) (o : OpT) (hs : Small c) (hr : rightB c = true) (hk : c.kind = 1) (ho : o.kind = 2) : PureC Try.prog 73 [dCont c, dOp o] (dDid (specS c o)) := by
  obtain ⟨hlen, hri⟩ := rises_of hr hk
  refine pure_fin tabOk Try.func73 rfl Try.ntmps73 rfl rfl rfl fun w cl => ?_
  refine go ?_
  refine a_q (call_step (find_c c.keys o.a (by have := hs.1; omega) hri) rfl (fun a w => Try.call83 a w) rfl) rfl rfl rfl ?_
  refine go ?_
  generalize h1 : decide (c.keys[pos c.keys o.a]? = some o.a) = cc; cases cc
  · refine go ?_
    have hp := pos_le c.keys o.a
    refine awp_region_w 15 [] rfl rfl (by kernel_rfl) (by kernel_rfl) (by kernel_rfl) ?_
    refine goQ ?_
    refine r_q (call_step (with_c c.keys (pos c.keys o.a) o.a (by have := hs.1; omega) hp) rfl (fun a w => Try.call84 a w) rfl) rfl rfl ?_
    refine goQ ?_
    refine r_q (call_step (with_c c.vals (pos c.keys o.a) o.b (by have := hs.2; omega) (by omega)) rfl (fun a w => Try.call84 a w) rfl) rfl rfl ?_
    refine goQ ?_
    refine go ?_
    first | refine fin_ret rfl ?_ | refine fin_normal rfl ?_
    simp [specS, ho, hasB, h1]
  · refine go ?_
    first | refine fin_ret rfl ?_ | refine fin_normal rfl ?_
    simp [specS, ho, hasB, h1]

theorem del_c (c : Cont) (o : OpT) (hs : Small c) (hr : rightB c = true) (hk : c.kind = 1) (ho : o.kind = 3) : PureC Try.prog 74 [dCont c, dOp o] (dDid (specS c o)) := by
  obtain ⟨hlen, hri⟩ := rises_of hr hk
  refine pure_fin tabOk Try.func74 rfl Try.ntmps74 rfl rfl rfl fun w cl => ?_
  refine go ?_
  refine a_q (call_step (find_c c.keys o.a (by have := hs.1; omega) hri) rfl (fun a w => Try.call83 a w) rfl) rfl rfl rfl ?_
  refine go ?_
  generalize h1 : decide (c.keys[pos c.keys o.a]? = some o.a) = cc; cases cc
  · refine go ?_
    first | refine fin_ret rfl ?_ | refine fin_normal rfl ?_
    simp [specS, ho, hasB, h1]
  · refine go ?_
    have hp := lt_of_some (of_decide_eq_true h1)
    refine awp_region_w 11 [] rfl rfl (by kernel_rfl) (by kernel_rfl) (by kernel_rfl) ?_
    refine goQ ?_
    refine r_q (call_step (without_c c.keys (pos c.keys o.a) (by have := hs.1; omega) hp) rfl (fun a w => Try.call85 a w) rfl) rfl rfl ?_
    refine goQ ?_
    refine r_q (call_step (without_c c.vals (pos c.keys o.a) (by have := hs.2; omega) (by omega)) rfl (fun a w => Try.call85 a w) rfl) rfl rfl ?_
    refine goQ ?_
    refine go ?_
    first | refine fin_ret rfl ?_ | refine fin_normal rfl ?_
    simp [specS, ho, hasB, h1]

theorem newM_c : PureC Try.prog 21 [dI 1] (dCont ⟨1, [], []⟩) := by
  refine pure_fin tabOk Try.func21 rfl Try.ntmps21 rfl rfl rfl fun w cl => ?_
  refine go ?_
  first | refine fin_ret rfl ?_ | refine fin_normal rfl ?_
  rfl
theorem rightM_c (c : Cont) (hs : Small c) (hr : rightB c = true) (hk : c.kind = 1) : PureC Try.prog 46 [dCont c] (dB true) := by
  obtain ⟨hlen, hri⟩ := rises_of hr hk
  have hR := rises_c c.keys (by have := hs.1; omega)
  rw [decide_eq_true hri] at hR
  refine pure_fin tabOk Try.func46 rfl Try.ntmps46 rfl rfl rfl fun w cl => ?_
  refine go ?_
  rw [hk, show decide ((1 : Int) = 1) = true from rfl]
  refine go ?_
  rw [show decide ((c.keys.length : Int) = c.vals.length) = true by rw [decide_eq_true_eq]; omega]
  refine go ?_
  refine a_q (call_step (hR) rfl (fun a w => Try.call71 a w) rfl) rfl rfl rfl ?_
  refine go ?_
  first | refine fin_ret rfl ?_ | refine fin_normal rfl ?_
  rfl
theorem ofM_c (k : Int) (h : k = 1 ∨ k = 2 ∨ k = 3) : PureC Try.prog 47 [dI k] (dI 1) := by
  rcases h with rfl | rfl | rfl
  · refine pure_fin tabOk Try.func47 rfl Try.ntmps47 rfl rfl rfl fun w cl => ?_
    refine go ?_
    rw [show decide ((1 : Int) = 1) = true from rfl]
    refine go ?_
    first | refine fin_ret rfl ?_ | refine fin_normal rfl ?_
    rfl
  · refine pure_fin tabOk Try.func47 rfl Try.ntmps47 rfl rfl rfl fun w cl => ?_
    refine go ?_
    rw [show decide ((2 : Int) = 1) = false from rfl]
    refine go ?_
    rw [show decide ((2 : Int) = 2) = true from rfl]
    refine go ?_
    first | refine fin_ret rfl ?_ | refine fin_normal rfl ?_
    rfl
  · refine pure_fin tabOk Try.func47 rfl Try.ntmps47 rfl rfl rfl fun w cl => ?_
    refine go ?_
    rw [show decide ((3 : Int) = 1) = false from rfl]
    refine go ?_
    rw [show decide ((3 : Int) = 2) = false from rfl]
    refine go ?_
    rw [show decide ((3 : Int) = 3) = true from rfl]
    refine go ?_
    first | refine fin_ret rfl ?_ | refine fin_normal rfl ?_
    rfl
theorem effectsM_c : PureC Try.prog 48 [] (.agg [.p (.raw .nilFunc), .fn (.func 72) [] [], .fn (.func 73) [] [], .fn (.func 74) [] [], .fn (.func 75) [] [], .fn (.func 76) [] [], .fn (.func 77) [] [], .fn (.func 76) [] []]) := by
  refine pure_fin tabOk Try.func48 rfl Try.ntmps48 rfl rfl rfl fun w cl => ?_
  refine go ?_
  first | refine fin_ret rfl ?_ | refine fin_normal rfl ?_
  rfl
theorem doM_c (c : Cont) (o : OpT) (hs : Small c) (hr : rightB c = true) (hk : c.kind = 1) (ho : o.kind = 1 ∨ o.kind = 2 ∨ o.kind = 3) : PureC Try.prog 22 [dCont c, dOp o] (dDid (specS c o)) := by
  obtain ⟨ck, ks, vs⟩ := c
  simp only at hk
  subst hk
  generalize hc' : (⟨1, ks, vs⟩ : Cont) = c at *
  have hk : c.kind = 1 := by rw [← hc']
  have hof := ofM_c o.kind ho
  have hri := rightM_c c hs hr hk
  obtain ⟨f, he, hf, hc⟩ : ∃ f, EntersP Try.prog f ∧ ([Dt.p (.raw .nilFunc), .fn (.func 72) [] [], .fn (.func 73) [] [], .fn (.func 74) [] [], .fn (.func 75) [] [], .fn (.func 76) [] [], .fn (.func 77) [] [], .fn (.func 76) [] []][o.kind.toNat * 1]? = some (.fn (.func f) [] [])) ∧ PureC Try.prog f [dCont c, dOp o] (dDid (specS c o)) := by
    rcases ho with h | h | h
    · exact ⟨72, fun a w => Try.call72 a w, by rw [h]; rfl, get_c c o hs hr hk h⟩
    · exact ⟨73, fun a w => Try.call73 a w, by rw [h]; rfl, put_c c o hs hr hk h⟩
    · exact ⟨74, fun a w => Try.call74 a w, by rw [h]; rfl, del_c c o hs hr hk h⟩
  generalize specS c o = r at *
  subst hc'
  refine pure_fin tabOk Try.func22 rfl Try.ntmps22 rfl rfl rfl fun w cl => ?_
  refine go ?_
  refine awp_region_q [] rfl (by kernel_rfl) (by kernel_rfl) ?_
  refine goQ ?_
  refine r_q (call_step (hri) rfl (fun a w => Try.call46 a w) rfl) rfl rfl ?_
  refine goQ ?_
  refine r_q (call_step (hof) rfl (fun a w => Try.call47 a w) rfl) rfl rfl ?_
  refine goQ ?_
  refine go ?_
  rw [show decide ((1 : Int) = 1) = true from rfl]
  refine go ?_
  refine awp_region_q [2] rfl (by kernel_rfl) (by kernel_rfl) ?_
  refine r_q (call_step (effectsM_c) rfl (fun a w => Try.call48 a w) rfl) rfl rfl ?_
  refine goQ ?_
  refine r_q (index_step tabOk (.fn (.func f) [] []) rfl rfl rfl rfl rfl rfl (by omega) (by show o.kind < 8; omega) hf) rfl rfl ?_
  refine goQ ?_
  refine r_q (callv_step hc rfl he rfl rfl) rfl rfl ?_
  refine goQ ?_
  refine go ?_
  first | refine fin_ret rfl ?_ | refine fin_normal rfl ?_
  rfl
theorem specS_len (c : Cont) (o : OpT) : (specS c o).1.keys.length ≤ c.keys.length + 1 ∧ (specS c o).1.vals.length ≤ c.vals.length + 1 := by
  unfold specS
  split
  · split <;> simp
  · split
    · split
      · simp
      · simp only [insAt, List.length_append, List.length_cons, List.length_take, List.length_drop]; omega
    · split
      · simp only [delAt, List.length_append, List.length_take, List.length_drop]; omega
      · simp
/-- What a map has, as pairs. -/
theorem mapC_len (c : Cont) : (mapC c).length ≤ c.keys.length := by unfold mapC; rw [List.length_zip]; omega
theorem mapC_take {c : Cont} {i : Nat} {k v : Int} (hk : c.keys[i]? = some k) (hv : c.vals[i]? = some v) : (mapC c).take (i + 1) = (mapC c).take i ++ [(k, v)] := by
  have : (mapC c)[i]? = some (k, v) := by unfold mapC; rw [List.getElem?_zip_eq_some]; exact ⟨hk, hv⟩
  rw [List.take_add_one, this]; rfl
theorem map_c (c : Cont) (h1 : c.keys.length ≤ 100000) (h2 : c.vals.length ≤ 100000) : PureC Try.prog 24 [dCont c] (dGone (mapC c)) := by
  have hlen : ∀ i, i ≤ c.keys.length → i ≤ c.vals.length → ((mapC c).take i).length = i := fun i a b => by
    unfold mapC; rw [List.length_take, List.length_zip]; omega
  refine pure_fin tabOk Try.func24 rfl Try.ntmps24 rfl rfl rfl fun w cl => ?_
  refine go ?_
  refine awp_ghost (tip_ghost 3 0 59 2 rfl rfl rfl) ?_
  refine awp_loop_ok (fun i : Nat => i ≤ c.keys.length ∧ i ≤ c.vals.length) (fun i => ⟨[(4, dI i), (3, .tip 0 i (pGone ((mapC c).take i))), (1, .ptr 0 0)], [(0, [dI c.kind, dInts c.keys, dInts c.vals])], [(0, ⟨59, 2, i⟩)]⟩) (fun i => c.keys.length - i) 0 ⟨by omega, by omega⟩ (zX) ?_
  rintro i ⟨hi, hj⟩
  refine go ?_
  generalize h3 : decide ((i : Int) < (c.keys.length : Int)) = cc; cases cc
  · have h3' := of_decide_eq_false h3
    refine go ?_
    first | refine fin_ret rfl ?_ | refine fin_normal rfl ?_
    rw [List.take_of_length_le (by unfold mapC; rw [List.length_zip]; omega)]
    simp only [dGone, plGone]
    congr 2
    unfold mapC; rw [List.length_zip]; omega
  · have h3' := of_decide_eq_true h3
    refine go ?_
    generalize h4 : decide ((i : Int) < (c.vals.length : Int)) = cc; cases cc
    · have h4' := of_decide_eq_false h4
      refine go ?_
      first | refine fin_ret rfl ?_ | refine fin_normal rfl ?_
      rw [List.take_of_length_le (by unfold mapC; rw [List.length_zip]; omega)]
      simp only [dGone, plGone]
      congr 2
      unfold mapC; rw [List.length_zip]; omega
    · have h4' := of_decide_eq_true h4
      obtain ⟨k, hk⟩ := getI (l := c.keys) (i := i) (by omega) (by omega)
      obtain ⟨v, hv⟩ := getI (l := c.vals) (i := i) (by omega) (by omega)
      have hk' := hk
      have hv' := hv
      simp only [Int.toNat_natCast] at hk' hv'
      have ht := mapC_take hk' hv'
      refine go ?_
      refine awp_region_q [] rfl (by kernel_rfl) (by kernel_rfl) ?_
      refine goQ ?_
      refine r_q (indexAddr_step tabOk [pI k] rfl rfl rfl rfl rfl rfl (by first | omega | (simp; done) | (simp; omega)) (by first | omega | (simp; done) | (simp; omega)) (by first | (simp; done) | exact List.cons_ne_nil _ _) (ints_idx hk)) rfl rfl ?_
      refine goQ ?_
      refine r_q (indexAddr_step tabOk [pI v] rfl rfl rfl rfl rfl rfl (by first | omega | (simp; done) | (simp; omega)) (by first | omega | (simp; done) | (simp; omega)) (by first | (simp; done) | exact List.cons_ne_nil _ _) (ints_idx hv)) rfl rfl ?_
      refine goQ ?_
      refine r_append tabOk rfl rfl rfl rfl rfl rfl rfl rfl rfl rfl rfl rfl rfl (by unfold maxLen; omega) (by show (_ + _) * 16 ≤ _; omega) ?_
      rw [show pGone ((mapC c).take i) ++ [pI k, pI v] = pGone ((mapC c).take i ++ [(k, v)]) by simp [pGone, pPair], ← ht]
      refine goQ ?_
      refine go ?_
      exact ⟨i + 1, ⟨by omega, by omega⟩, by omega, zX⟩
end Go.Proofs.Ytefagncaepallaa
