/- Slices in memory that read as lists of data of ours: reading, growing worlds, cutting, appending. -/
import Derived.Test.YtknancnmdpdefaaRel
import Derived.Maps.AppendAt
namespace Go.Proofs.Ytknancnmdpdefaa
open Go.RowKit

/-- How data of a type lie in cells. -/
structure RowTy (α : Type) where
  cells : α → List Value
  sz : Nat
  len : ∀ x, (cells x).length = sz
  pos : 0 < sz
  one : ∀ x, ∀ u ∈ cells x, u.oneCell' = true

variable {α : Type}
def RowTy.flat (T : RowTy α) (l : List α) : List Value := l.flatMap T.cells

/-- A slice's address from which the cells of l are read. -/
def RowIn (T : RowTy α) (w : World) (A : Option Addr) (l : List α) : Prop :=
  ∀ i x, l[i]? = some x → ∃ b o, A = some ⟨b, o, none⟩ ∧ b < w.heap.size ∧ ∀ j u, (T.cells x)[j]? = some u → w.cell? ⟨b, o + i * T.sz + j, none⟩ = some u

theorem RowIn.next {T : RowTy α} {w w' : World} {A : Option Addr} {l : List α} (h : RowIn T w A l) (hb : Below w.heap.size w w') : RowIn T w' A l := fun i x hi => by
  obtain ⟨b, o, hA, hlt, hc⟩ := h i x hi
  exact ⟨b, o, hA, Nat.lt_of_lt_of_le hlt hb.size, fun j u hu => (hb.cell hlt).trans (hc j u hu)⟩
theorem RowIn.nil {T : RowTy α} {w : World} {A : Option Addr} : RowIn T w A [] := fun i x hi => by simp at hi
theorem RowIn.take {T : RowTy α} {w : World} {A : Option Addr} {l : List α} (h : RowIn T w A l) (k : Nat) : RowIn T w A (l.take k) := fun i x hi => by
  rw [List.getElem?_take] at hi
  split at hi
  · exact h i x hi
  · cases hi
theorem RowIn.drop {T : RowTy α} {w : World} {b o : Nat} {l : List α} (h : RowIn T w (some ⟨b, o, none⟩) l) (k : Nat) : RowIn T w (some ⟨b, o + k * T.sz, none⟩) (l.drop k) := fun i x hi => by
  rw [List.getElem?_drop] at hi
  obtain ⟨b', o', hA, hlt, hc⟩ := h (k + i) x hi
  cases hA
  refine ⟨b, o + k * T.sz, rfl, hlt, fun j u hu => ?_⟩
  have := hc j u hu
  rw [Nat.add_mul] at this
  rw [show o + k * T.sz + i * T.sz + j = o + (k * T.sz + i * T.sz) + j by omega]
  exact this

theorem RowTy.flat_len (T : RowTy α) : ∀ l : List α, (T.flat l).length = l.length * T.sz
  | [] => by simp [RowTy.flat]
  | c :: h => by
    have := T.flat_len h
    unfold RowTy.flat at this ⊢
    rw [List.flatMap_cons, List.length_append, this, T.len, List.length_cons, Nat.add_mul]; omega
theorem RowTy.flat_snoc (T : RowTy α) (l : List α) (x : α) : T.flat (l ++ [x]) = T.flat l ++ T.cells x := by simp [RowTy.flat]
theorem RowTy.flat_append (T : RowTy α) (l m : List α) : T.flat (l ++ m) = T.flat l ++ T.flat m := by simp [RowTy.flat]
theorem RowTy.flat_one (T : RowTy α) (l : List α) : ∀ u ∈ T.flat l, u.oneCell' = true := fun u hu => by
  obtain ⟨x, _, hx⟩ := List.mem_flatMap.1 hu
  exact T.one x u hx
theorem RowTy.flat_at (T : RowTy α) : ∀ (h : List α) (i : Nat) (c : α), h[i]? = some c → ∀ j u, (T.cells c)[j]? = some u → (T.flat h)[i * T.sz + j]? = some u
  | [], i, c, hi, _, _, _ => by simp at hi
  | d :: h, 0, c, hi, j, u, hu => by
    simp only [List.getElem?_cons_zero, Option.some.injEq] at hi
    subst hi
    have hj : j < (T.cells d).length := (List.getElem?_eq_some_iff.1 hu).1
    rw [RowTy.flat, List.flatMap_cons, Nat.zero_mul, Nat.zero_add, List.getElem?_append_left hj]
    exact hu
  | d :: h, i + 1, c, hi, j, u, hu => by
    have := T.flat_at h i c (by simpa using hi) j u hu
    rw [RowTy.flat, List.flatMap_cons, List.getElem?_append_right (by rw [T.len, Nat.add_mul]; omega), T.len]
    rw [show (i + 1) * T.sz + j - T.sz = i * T.sz + j by rw [Nat.add_mul]; omega]
    exact this

theorem rowIn_of_block {T : RowTy α} {w : World} {g : Nat} {cur : Array Value} {e : TypeId} {fr : Nat × Nat} {h : List α} (hh : w.heap[g]? = some (.cells cur e fr)) (ht : cur.toList.take (h.length * T.sz) = T.flat h) : RowIn T w (some ⟨g, 0, none⟩) h := by
  intro i c hi
  have hlt : g < w.heap.size := by
    rcases Nat.lt_or_ge g w.heap.size with hlt | hge
    · exact hlt
    · rw [Array.getElem?_eq_none hge] at hh; cases hh
  refine ⟨g, 0, rfl, hlt, fun j u hu => ?_⟩
  rw [cell_of_row w g _ cur e fr hh, Nat.zero_add]
  have h1 := T.flat_at h i c hi j u hu
  rw [← ht, List.getElem?_take] at h1
  split at h1
  · simpa using h1
  · cases h1

/-- A slice value that reads as l. -/
def IsRow (T : RowTy α) (w : World) (v : Value) (l : List α) : Prop :=
  ∃ A cap, v = .slice A l.length cap ∧ l.length ≤ cap ∧ cap ≤ maxLen ∧ (A = none → cap = 0) ∧ RowIn T w A l
theorem IsRow.next {T : RowTy α} {w w' : World} {v : Value} {l : List α} (h : IsRow T w v l) (hb : Below w.heap.size w w') : IsRow T w' v l := by
  obtain ⟨A, cap, e, h1, h2, h3, hr⟩ := h
  exact ⟨A, cap, e, h1, h2, h3, hr.next hb⟩
theorem IsRow.nil (T : RowTy α) (w : World) : IsRow T w (.slice none 0 0) [] := ⟨none, 0, rfl, Nat.le_refl _, by unfold maxLen; omega, fun _ => rfl, RowIn.nil⟩

theorem owns_below {w w' : World} {base : Nat} {e : TypeId} {size : Nat} {v : Value} {n : Nat} {xs : List Value} (h : w.ownsRow base e size v n xs) (hb : Below w.heap.size w w') : w'.ownsRow base e size v n xs := by
  refine ⟨h.1, h.2.imp id ?_⟩
  rintro ⟨g, cap, cur, hv, hg, hh, hr⟩
  have hlt : g < w.heap.size := by
    rcases Nat.lt_or_ge g w.heap.size with hlt | hge
    · exact hlt
    · rw [Array.getElem?_eq_none hge] at hh; cases hh
  exact ⟨g, cap, cur, hv, hg, (hb.block g hlt).trans hh, hr⟩
theorem owns_base {w : World} {base : Nat} {e : TypeId} {size : Nat} {v : Value} {n : Nat} {xs : List Value} (h : w.ownsRow base e size v n xs) : ∀ k, v.ownBlock = some k → base ≤ k := by
  intro k hk
  rcases h.2 with ⟨rfl, _⟩ | ⟨g, cap, cur, rfl, hg, _⟩
  · simp [Value.ownBlock] at hk
  · have : g = k := by simpa [Value.ownBlock] using hk
    omega
theorem owns_nil (T : RowTy α) (w : World) (base : Nat) (e : TypeId) : w.ownsRow base e T.sz (.slice none 0 0) ([] : List α).length (T.flat []) := ⟨by simp [RowTy.flat], .inl ⟨rfl, rfl⟩⟩

theorem isRow_of_own {T : RowTy α} {w : World} {base : Nat} {e : TypeId} {v : Value} {h : List α} (ho : w.ownsRow base e T.sz v h.length (T.flat h)) : IsRow T w v h := by
  rcases ho.2 with ⟨rfl, hn⟩ | ⟨g, cap, cur, rfl, hg, hh, h1, h2, _, ht⟩
  · have : h = [] := List.eq_nil_of_length_eq_zero hn
    subst this
    exact IsRow.nil T w
  · exact ⟨_, cap, rfl, h1, h2, (fun e => by cases e), rowIn_of_block hh ht⟩

theorem isRow_new (T : RowTy α) (w : World) (h : List α) (e : TypeId) (hl : h.length ≤ maxLen) : IsRow T (w.alloc (.cells (T.flat h).toArray e)) (.slice (some ⟨w.heap.size, 0, none⟩) h.length h.length) h :=
  ⟨_, _, rfl, Nat.le_refl _, hl, fun e => (by cases e), rowIn_of_block (heap_alloc_new w _) (by rw [List.toList_toArray]; exact List.take_of_length_le (by rw [T.flat_len]; exact Nat.le_refl _))⟩

/-- What is known of a slot that holds such a slice. -/
def kRow (T : RowTy α) (l : List α) : Know := fun v w => IsRow T w v l
theorem kRow_keeps (T : RowTy α) (l : List α) : (kRow T l).Keeps := fun _ _ _ h hb => h.next hb

/-- What a call that hands back a slice leaves. -/
def GivesRow (T : RowTy α) (l : List α) (w : World) (e : Ending) (w' : World) : Prop := ∃ v, e = .returned v ∧ IsRow T w' v l ∧ (∀ k, v.ownBlock = some k → w.heap.size ≤ k) ∧ Below w.heap.size w w'

/-- A slot that holds such a slice, made behind base. -/
def kFresh (T : RowTy α) (l : List α) (base : Nat) : Know := fun v w => IsRow T w v l ∧ ∀ k, v.ownBlock = some k → base ≤ k
theorem kFresh_keeps (T : RowTy α) (l : List α) (base : Nat) : (kFresh T l base).Keeps := fun _ _ _ h hb => ⟨h.1.next hb, h.2⟩

theorem IsRow.open_ {T : RowTy α} {w : World} {v : Value} {l : List α} (h : IsRow T w v l) : ∃ A cap l', Hid (l' = l) ∧ v = .slice A l'.length cap ∧ l'.length ≤ cap ∧ cap ≤ maxLen ∧ (A = none → cap = 0) ∧ RowIn T w A l' := by
  obtain ⟨A, cap, e, h1, h2, h3, hr⟩ := h
  exact ⟨A, cap, l, Lib.hid rfl, e, h1, h2, h3, hr⟩

/-- The cells of a source, for append's law. -/
theorem RowIn.news {T : RowTy α} {w : World} {b o : Nat} {l : List α} (h : RowIn T w (some ⟨b, o, none⟩) l) : ∀ j u, (T.flat l)[j]? = some u → w.cell? ((⟨b, o, none⟩ : Addr).add j) = some u := by
  intro j u hu
  have hj : j < (T.flat l).length := (List.getElem?_eq_some_iff.1 hu).1
  rw [T.flat_len] at hj
  have hp := T.pos
  have hdm := Nat.div_add_mod j T.sz
  have hml := Nat.mod_lt j hp
  have hil : j / T.sz < l.length := Nat.div_lt_of_lt_mul (by rw [Nat.mul_comm]; exact hj)
  have hx : l[j / T.sz]? = some l[j / T.sz] := List.getElem?_eq_getElem hil
  have hc : ∃ u', (T.cells l[j / T.sz])[j % T.sz]? = some u' := ⟨_, List.getElem?_eq_getElem (by rw [T.len]; exact hml)⟩
  obtain ⟨u', hu'⟩ := hc
  have h1 := T.flat_at l _ _ hx _ _ hu'
  have he : j / T.sz * T.sz + j % T.sz = j := by rw [Nat.mul_comm]; exact hdm
  rw [he, hu] at h1
  injection h1 with h1
  subst h1
  obtain ⟨b', o', hA, _, hcell⟩ := h _ _ hx
  cases hA
  have := hcell _ _ hu'
  rw [show o + j / T.sz * T.sz + j % T.sz = o + j by omega] at this
  unfold Addr.add
  split
  · rename_i hj0; subst hj0; exact this
  · exact this

/-- append(own row, a slice that reads as l ...), whatever slice that is. -/
theorem run_append_rows {P : Program} (w : World) (T : RowTy α) (base : Nat) (t ty e : TypeId) (i : TypeInfo) (z : Value) (bytes : Nat) (ht : P.underlying t = some (.slice e)) (hi : P.info? e = some i) (hz : i.zero = some z)
    (hsize : i.size = T.sz) (hby : i.bytes = bytes) (hzs : z.cells.size = T.sz)
    (v : Value) (xs : List α) (hown : w.ownsRow base e T.sz v xs.length (T.flat xs)) (A : Option Addr) (l : List α) (c : Nat) (hr : RowIn T w A l)
    (h63 : xs.length + l.length ≤ maxLen) (hbytes : (xs.length + l.length) * bytes ≤ 140737488355328) (hbase : base ≤ w.heap.size) :
    ∃ v' w', (Builtin.append_ #[t, t] ty #[v, .slice A l.length c]).run P w = .ok v' w' ∧ w'.ownsRow base e T.sz v' (xs ++ l).length (T.flat (xs ++ l)) ∧ w.grownBy w' v.ownBlock := by
  have hnone : ∀ c' : Nat, (Builtin.append_ #[t, t] ty #[v, .slice none 0 c']).run P w = .ok v w := by
    intro c'
    rcases hown.2 with ⟨rfl, _⟩ | ⟨g, cap, cur, rfl, _, _, hnc, _⟩
    · simp [Builtin.append_, run_underlying ht, sizeOf, typeInfo, hi, Builtin.lenOf, Builtin.firstCells]
    · simp [Builtin.append_, run_underlying ht, sizeOf, typeInfo, hi, Builtin.lenOf, Builtin.firstCells, hnc, storeCells]
  rcases A with _ | ad
  · have hl : l = [] := by
      rcases l with _ | ⟨x, l⟩
      · rfl
      · obtain ⟨b, o, hA, _⟩ := hr 0 x rfl
        cases hA
    subst hl
    exact ⟨v, w, hnone c, by simpa using hown, World.grownBy.refl w _⟩
  · have hnews : ∀ j u, (T.flat l)[j]? = some u → w.cell? (ad.add j) = some u := by
      rcases l with _ | ⟨x, l⟩
      · intro j u hu; simp [RowTy.flat] at hu
      · obtain ⟨b, o, hA, _⟩ := hr 0 x rfl
        cases hA
        exact RowIn.news hr
    obtain ⟨v', w', hrun, h2, h3, _, _⟩ := run_append_own_at (P := P) w base t ty e i z T.sz bytes ht hi hz hsize hby hzs T.pos v xs.length (T.flat xs) hown ad l.length c (T.flat l) (T.flat_len l) hnews (T.flat_one l) h63 hbytes hbase
    exact ⟨v', w', hrun, by rw [List.length_append, T.flat_append]; exact h2, h3⟩

theorem wpList_append_rows {P : Program} (w : World) {ops : Array Oper} {rest : List Oper} {o : Oper} {a : Act} {Q : Exit → Act → World → Prop} (T : RowTy α) (hgd : o.guard = none) (s x : Operand) (t : TypeId)
    (ho : o.op = .call { callee := .builtin .append, args := #[s, x], argTypes := #[t, t] })
    (base : Nat) (e : TypeId) (i : TypeInfo) (z : Value) (bytes : Nat) (ht : P.underlying t = some (.slice e)) (hi : P.info? e = some i) (hz : i.zero = some z)
    (hsize : i.size = T.sz) (hby : i.bytes = bytes) (hzs : z.cells.size = T.sz)
    (v : Value) (xs : List α) (hs : a.eval s = v) (hown : w.ownsRow base e T.sz v xs.length (T.flat xs)) (A : Option Addr) (l : List α) (c m : Nat) (hx : a.eval x = .slice A m c) (hm : l.length = m) (hr : RowIn T w A l)
    (h63 : xs.length + l.length ≤ maxLen) (hbytes : (xs.length + l.length) * bytes ≤ 140737488355328) (hbase : base ≤ w.heap.size)
    (h : ∀ v' w', w'.ownsRow base e T.sz v' (xs ++ l).length (T.flat (xs ++ l)) → Below base w w' → w.grownBy w' v.ownBlock → wpList P ops Q rest (a.put o.dst v') w') : wpList P ops Q (o :: rest) a w := by
  obtain ⟨v', w', hrun, h2, h3⟩ := run_append_rows (P := P) w T base t o.type e i z bytes ht hi hz hsize hby hzs v xs hown A l c hr h63 hbytes hbase
  rw [hm] at hrun
  refine wpList_plain hgd fun K hK => ?_
  unfold Oper.wp execOp
  simp only [ho, resolve, invoke, builtin, Sem.run_bind, Sem.run_pure, Result.andThen_ok, List.map_toArray, List.map_cons, List.map_nil, hs, hx, hrun]
  exact hK _ _ (h v' w' h2 ((Below.refl _ _).grown h3 hbase (owns_base hown)) h3)

/-- The numbers. -/
def ints : RowTy Int := ⟨fun n => [.int .i64 n], 1, fun _ => rfl, by decide, fun x u hu => by simp at hu; subst hu; rfl⟩
def bools : RowTy Bool := ⟨fun n => [.bool n], 1, fun _ => rfl, by decide, fun x u hu => by simp at hu; subst hu; rfl⟩
theorem ints_at {w : World} {A : Option Addr} {l : List Int} (h : RowIn ints w A l) {i : Nat} {x : Int} (hi : l[i]? = some x) : ∃ b o, A = some ⟨b, o, none⟩ ∧ b < w.heap.size ∧ w.cell? ⟨b, o + i, none⟩ = some (.int .i64 x) := by
  obtain ⟨b, o, hA, hb, hc⟩ := h i x hi
  have := hc 0 _ rfl
  exact ⟨b, o, hA, hb, by simpa [ints] using this⟩
theorem bools_at {w : World} {A : Option Addr} {l : List Bool} (h : RowIn bools w A l) {i : Nat} {x : Bool} (hi : l[i]? = some x) : ∃ b o, A = some ⟨b, o, none⟩ ∧ b < w.heap.size ∧ w.cell? ⟨b, o + i, none⟩ = some (.bool x) := by
  obtain ⟨b, o, hA, hb, hc⟩ := h i x hi
  have := hc 0 _ rfl
  exact ⟨b, o, hA, hb, by simpa [bools] using this⟩
theorem some_at {l : List α} {n : Nat} (hn : n < l.length) : ∃ c, l[n]? = some c := ⟨l[n], by simp [hn]⟩
theorem lt_of_some {l : List α} {n : Nat} {c : α} (h : l[n]? = some c) : n < l.length := (List.getElem?_eq_some_iff.1 h).1

theorem ret_bool {a b : Bool} (h : a = b) : Ending.returned (.bool a) = .returned (.bool b) := by rw [h]
theorem ret_int {k : IntKind} {a b : Int} (h : a = b) : Ending.returned (.int k a) = .returned (.int k b) := by rw [h]
theorem ext_of_below {w w' : World} (h : Below w.heap.size w w') : ∃ y : Ext w, w' = y.on := ⟨⟨w', h⟩, rfl⟩
end Go.Proofs.Ytknancnmdpdefaa
