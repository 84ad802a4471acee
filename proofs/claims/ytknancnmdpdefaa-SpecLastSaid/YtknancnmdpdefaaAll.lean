/- The contract of All. -/
import Derived.Test.YtknancnmdpdefaaMisc
import Derived.Deep.DeepCutAuto
namespace Go.Proofs.Ytknancnmdpdefaa
open Go.RowKit

theorem wp_gen {P : Program} {c : Code} {Q : Exit → Act → World → Prop} {a : Act} {w : World} (F : World → Prop) (hF : F w) (h : ∀ w', F w' → c.wp P Q a w') : c.wp P Q a w := h w hF

/-- Three cells of a block are set. -/
def set3 (W : World) (g : Nat) (v0 v1 v2 : Value) : World := ((W.setCell ⟨g, 0, none⟩ v0).setCell ⟨g, 1, none⟩ v1).setCell ⟨g, 2, none⟩ v2
theorem set3_size (W : World) (g : Nat) (v0 v1 v2 : Value) : (set3 W g v0 v1 v2).heap.size = W.heap.size := by simp [set3, World.setCell]
theorem set3_other {W : World} {g k : Nat} {v0 v1 v2 : Value} (hk : k ≠ g) : (set3 W g v0 v1 v2).heap[k]? = W.heap[k]? := by
  unfold set3
  rw [Below.heap_setCell _ ⟨g, 2, none⟩ _ k hk, Below.heap_setCell _ ⟨g, 1, none⟩ _ k hk, Below.heap_setCell _ ⟨g, 0, none⟩ _ k hk]
theorem set3_same {W : World} {g : Nat} {x0 x1 x2 v0 v1 v2 : Value} {t : TypeId} (h : W.heap[g]? = some (.cells #[x0, x1, x2] t (0, 0))) : (set3 W g v0 v1 v2).heap[g]? = some (.cells #[v0, v1, v2] t (0, 0)) := by
  simp [set3, World.setCell, Array.getElem?_modify, h]
theorem set3_below {W w : World} {B g : Nat} {v0 v1 v2 : Value} (h : Below B w W) (hg : B ≤ g) : Below B w (set3 W g v0 v1 v2) := ((h.setCell (by simpa using hg) _).setCell (by simpa using hg) _).setCell (by simpa using hg) _

/-- A row that the call owns, kept where another block is set. -/
theorem owns_keep {w w' : World} {base : Nat} {e : TypeId} {size : Nat} {v : Value} {n : Nat} {xs : List Value} (h : w.ownsRow base e size v n xs) (hk : ∀ k, base ≤ k → k < w.heap.size → w'.heap[k]? = w.heap[k]?) : w'.ownsRow base e size v n xs := by
  refine ⟨h.1, h.2.imp id ?_⟩
  rintro ⟨g, cap, cur, hv, hg, hh, hr⟩
  have hlt : g < w.heap.size := by
    rcases Nat.lt_or_ge g w.heap.size with hlt | hge
    · exact hlt
    · rw [Array.getElem?_eq_none hge] at hh; cases hh
  exact ⟨g, cap, cur, hv, hg, (hk g hg hlt).trans hh, hr⟩
theorem cin_set3 {W : World} {c : Cont} {Ak Av : Option Addr} {q1 q2 g : Nat} {v0 v1 v2 : Value} (h : CIn W c Ak q1 Av q2) (hk : c.keys ≠ [] → ∀ a, Ak = some a → a.block ≠ g) (hv : c.vals ≠ [] → ∀ a, Av = some a → a.block ≠ g) : CIn (set3 W g v0 v1 v2) c Ak q1 Av q2 := by
  refine ⟨fun i x hi => ?_, h.kc, h.km, h.kn, fun i x hi => ?_, h.vc, h.vm, h.vn⟩
  · obtain ⟨b, o, hA, hb, hcell⟩ := h.k i x hi
    exact ⟨b, o, hA, by rw [set3_size]; exact hb, fun j u hu => (World.cell?_of_block (set3_other (show b ≠ g from hk (fun e => by rw [e] at hi; simp at hi) ⟨b, o, none⟩ hA))).trans (hcell j u hu)⟩
  · obtain ⟨b, o, hA, hb, hcell⟩ := h.v i x hi
    exact ⟨b, o, hA, by rw [set3_size]; exact hb, fun j u hu => (World.cell?_of_block (set3_other (show b ≠ g from hv (fun e => by rw [e] at hi; simp at hi) ⟨b, o, none⟩ hA))).trans (hcell j u hu)⟩

theorem doAll_snoc (c : Cont) (l : List OpT) (o : OpT) : doAll c (l ++ [o]) = ((does (doAll c l).1 o).1, (doAll c l).2.1 ++ [(does (doAll c l).1 o).2.1], (doAll c l).2.2 ++ [(does (doAll c l).1 o).2.2]) := by
  induction l generalizing c with
  | nil => rfl
  | cons p l ih => simp only [List.cons_append, doAll, ih]
theorem doAll_take {c : Cont} {l : List OpT} {n : Nat} {o : OpT} (ho : l[n]? = some o) : doAll c (l.take (n + 1)) = ((does (doAll c (l.take n)).1 o).1, (doAll c (l.take n)).2.1 ++ [(does (doAll c (l.take n)).1 o).2.1], (doAll c (l.take n)).2.2 ++ [(does (doAll c (l.take n)).1 o).2.2]) := by
  rw [List.take_add_one, ho, Option.toList_some, doAll_snoc]
theorem doAll_len (c : Cont) (l : List OpT) : (doAll c l).2.1.length = l.length ∧ (doAll c l).2.2.length = l.length := by
  induction l generalizing c with
  | nil => exact ⟨rfl, rfl⟩
  | cons p l ih => simp only [doAll, List.length_cons]; have := ih (does c p).1; omega

theorem effect_len (c : Cont) (o : OpT) : (effect c o).1.keys.length ≤ c.keys.length + 1 ∧ (effect c o).1.vals.length ≤ c.vals.length + 1 := by
  have h1 : ∀ (l : List Int) (p : Nat) (x : Int), (insAt l p x).length ≤ l.length + 1 := fun l p x => by simp [insAt]; omega
  have h2 : ∀ (l : List Int) (p : Nat), (delAt l p).length ≤ l.length + 1 := fun l p => by simp [delAt]; omega
  unfold effect
  split
  · split <;> exact ⟨Nat.le_succ _, Nat.le_succ _⟩
  · split
    · split
      · exact ⟨Nat.le_succ _, Nat.le_succ _⟩
      · exact ⟨h1 _ _ _, h1 _ _ _⟩
    · split
      · split
        · exact ⟨h2 _ _, h2 _ _⟩
        · exact ⟨Nat.le_succ _, Nat.le_succ _⟩
      · split
        · exact ⟨by simp, by simp⟩
        · split
          · exact ⟨by simp, by simp⟩
          · split
            · exact ⟨Nat.le_succ _, Nat.le_succ _⟩
            · rename_i hv; exact ⟨by simp, by rw [hv]; simp; omega⟩
theorem does_len (c : Cont) (o : OpT) : (does c o).1.keys.length ≤ c.keys.length + 1 ∧ (does c o).1.vals.length ≤ c.vals.length + 1 := by
  unfold does
  split
  · exact effect_len c o
  · exact ⟨Nat.le_succ _, Nat.le_succ _⟩
theorem doAll_grow (c : Cont) (l : List OpT) : (doAll c l).1.keys.length ≤ c.keys.length + l.length ∧ (doAll c l).1.vals.length ≤ c.vals.length + l.length := by
  induction l generalizing c with
  | nil => exact ⟨by simp [doAll], by simp [doAll]⟩
  | cons p l ih =>
    have h1 := ih (does c p).1
    have h2 := does_len c p
    simp only [doAll, List.length_cons]
    omega

def AllTo (c : Cont) (l : List OpT) (n : Nat) : Cont × List Int × List Bool := doAll c (l.take n)


theorem ops_at {w : World} {A : Option Addr} {l : List OpT} (h : RowIn opsT w A l) {i : Nat} {x : OpT} (hi : l[i]? = some x) : ∃ b o, A = some ⟨b, o, none⟩ ∧ b < w.heap.size ∧
    w.cell? ⟨b, o + i * 4, none⟩ = some (.int .i64 x.kind) ∧ w.cell? ⟨b, o + i * 4 + 1, none⟩ = some (.int .i64 x.obj) ∧ w.cell? ⟨b, o + i * 4 + 2, none⟩ = some (.int .i64 x.a) ∧ w.cell? ⟨b, o + i * 4 + 3, none⟩ = some (.int .i64 x.b) := by
  obtain ⟨b, o, hA, hb, hc⟩ := h i x hi
  exact ⟨b, o, hA, hb, hc 0 _ rfl, hc 1 _ rfl, hc 2 _ rfl, hc 3 _ rfl⟩

/-- append, with where the new row lies. -/
theorem run_append_rows' {α : Type} {P : Program} (w : World) (T : RowTy α) (base : Nat) (t ty e : TypeId) (i : TypeInfo) (z : Value) (bytes : Nat) (ht : P.underlying t = some (.slice e)) (hi : P.info? e = some i) (hz : i.zero = some z)
    (hsize : i.size = T.sz) (hby : i.bytes = bytes) (hzs : z.cells.size = T.sz)
    (v : Value) (xs : List α) (hown : w.ownsRow base e T.sz v xs.length (T.flat xs)) (b o : Nat) (l : List α) (c : Nat) (hr : RowIn T w (some ⟨b, o, none⟩) l)
    (h63 : xs.length + l.length ≤ maxLen) (hbytes : (xs.length + l.length) * bytes ≤ 140737488355328) (hbase : base ≤ w.heap.size) :
    ∃ v' w', (Builtin.append_ #[t, t] ty #[v, .slice (some ⟨b, o, none⟩) l.length c]).run P w = .ok v' w' ∧ w'.ownsRow base e T.sz v' (xs ++ l).length (T.flat (xs ++ l)) ∧ w.grownBy w' v.ownBlock ∧ (v'.ownBlock = v.ownBlock ∨ v'.ownBlock = some w.heap.size) := by
  obtain ⟨v', w', hrun, h2, h3, _, h4⟩ := run_append_own_at (P := P) w base t ty e i z T.sz bytes ht hi hz hsize hby hzs T.pos v xs.length (T.flat xs) hown ⟨b, o, none⟩ l.length c (T.flat l) (T.flat_len l) (RowIn.news hr) (T.flat_one l) h63 hbytes hbase
  exact ⟨v', w', hrun, by rw [List.length_append, T.flat_append]; exact h2, h3, h4⟩
theorem wpList_append_rows' {α : Type} {P : Program} (w : World) {ops : Array Oper} {rest : List Oper} {o : Oper} {a : Act} {Q : Exit → Act → World → Prop} (T : RowTy α) (hgd : o.guard = none) (s x : Operand) (t : TypeId)
    (ho : o.op = .call { callee := .builtin .append, args := #[s, x], argTypes := #[t, t] })
    (base : Nat) (e : TypeId) (i : TypeInfo) (z : Value) (bytes : Nat) (ht : P.underlying t = some (.slice e)) (hi : P.info? e = some i) (hz : i.zero = some z)
    (hsize : i.size = T.sz) (hby : i.bytes = bytes) (hzs : z.cells.size = T.sz)
    (v : Value) (xs : List α) (hs : a.eval s = v) (hown : w.ownsRow base e T.sz v xs.length (T.flat xs)) (b off : Nat) (l : List α) (c m : Nat) (hx : a.eval x = .slice (some ⟨b, off, none⟩) m c) (hm : l.length = m) (hr : RowIn T w (some ⟨b, off, none⟩) l)
    (h63 : xs.length + l.length ≤ maxLen) (hbytes : (xs.length + l.length) * bytes ≤ 140737488355328) (hbase : base ≤ w.heap.size)
    (h : ∀ v' w', w'.ownsRow base e T.sz v' (xs ++ l).length (T.flat (xs ++ l)) → w.grownBy w' v.ownBlock → (v'.ownBlock = v.ownBlock ∨ v'.ownBlock = some w.heap.size) → wpList P ops Q rest (a.put o.dst v') w') : wpList P ops Q (o :: rest) a w := by
  obtain ⟨v', w', hrun, h2, h3, h4⟩ := run_append_rows' (P := P) w T base t o.type e i z bytes ht hi hz hsize hby hzs v xs hown b off l c hr h63 hbytes hbase
  rw [hm] at hrun
  refine wpList_plain hgd fun K hK => ?_
  unfold Oper.wp execOp
  simp only [ho, resolve, invoke, builtin, Sem.run_bind, Sem.run_pure, Result.andThen_ok, List.map_toArray, List.map_cons, List.map_nil, hs, hx, hrun]
  exact hK _ _ (h v' w' h2 h3 h4)
theorem new_bool (w : World) (x : Bool) (e : TypeId) : RowIn bools (w.alloc (.cells #[.bool x] e)) (some ⟨w.heap.size, 0, none⟩) [x] := by
  obtain ⟨A, cap, e', _, _, _, hr⟩ := isRow_new bools w [x] e (by unfold maxLen; simp)
  injection e' with e'
  subst e'
  exact hr
theorem cin_grown {W W' : World} {row : Option Nat} {c : Cont} {Ak Av : Option Addr} {q1 q2 : Nat} (h : CIn W c Ak q1 Av q2) (hg : W.grownBy W' row) (hk : c.keys ≠ [] → ∀ a, Ak = some a → some a.block ≠ row) (hv : c.vals ≠ [] → ∀ a, Av = some a → some a.block ≠ row) : CIn W' c Ak q1 Av q2 := by
  refine ⟨fun i x hi => ?_, h.kc, h.km, h.kn, fun i x hi => ?_, h.vc, h.vm, h.vn⟩
  · obtain ⟨b, o, hA, hb, hcell⟩ := h.k i x hi
    exact ⟨b, o, hA, Nat.lt_of_lt_of_le hb hg.size, fun j u hu => hg.cell (hcell j u hu) (hk (fun e => by rw [e] at hi; simp at hi) ⟨b, o, none⟩ hA)⟩
  · obtain ⟨b, o, hA, hb, hcell⟩ := h.v i x hi
    exact ⟨b, o, hA, Nat.lt_of_lt_of_le hb hg.size, fun j u hu => hg.cell (hcell j u hu) (hv (fun e => by rw [e] at hi; simp at hi) ⟨b, o, none⟩ hA)⟩

/-- The state of All's loop. -/
structure AllW (s : Nat) (w : World) (C : Cont) (Ak : Option Addr) (q1 : Nat) (Av : Option Addr) (q2 : Nat) (l7 : List Int) (l8 : List Bool) (v7 v8 : Value) (wr : World) : Prop where
  bel : Below s w wr
  blk : wr.heap[s]? = some (.cells #[.int .i64 C.kind, .slice Ak C.keys.length q1, .slice Av C.vals.length q2] 24 (0, 0))
  cin : CIn wr C Ak q1 Av q2
  ap : ∀ g, (g = s ∨ g = s + 1 ∨ v7.ownBlock = some g ∨ v8.ownBlock = some g) → (C.keys ≠ [] → ∀ a, Ak = some a → a.block ≠ g) ∧ (C.vals ≠ [] → ∀ a, Av = some a → a.block ≠ g)
  res : wr.heap[s + 1]? = some (.cells #[.int .i64 0, .slice none 0 0, .slice none 0 0] 24 (0, 0))
  vals : wr.ownsRow (s + 2) 3 ints.sz v7 l7.length (ints.flat l7)
  went : wr.ownsRow (s + 2) 4 bools.sz v8 l8.length (bools.flat l8)
theorem AllW.lt {s : Nat} {w : World} {C : Cont} {Ak Av : Option Addr} {q1 q2 : Nat} {l7 : List Int} {l8 : List Bool} {v7 v8 : Value} {W : World} (h : AllW s w C Ak q1 Av q2 l7 l8 v7 v8 W) : s + 1 < W.heap.size := by
  rcases Nat.lt_or_ge (s + 1) W.heap.size with hlt | hge
  · exact hlt
  · have := h.res; rw [Array.getElem?_eq_none hge] at this; cases this
theorem AllW.alloc {s : Nat} {w : World} {C : Cont} {Ak Av : Option Addr} {q1 q2 : Nat} {l7 : List Int} {l8 : List Bool} {v7 v8 : Value} {W : World} (h : AllW s w C Ak q1 Av q2 l7 l8 v7 v8 W) (o : Obj) : AllW s w C Ak q1 Av q2 l7 l8 v7 v8 (W.alloc o) := by
  have hl := h.lt
  exact ⟨h.bel.alloc (by omega) _, (Below.heap_alloc _ _ _ (by omega)).trans h.blk, h.cin.next ((Below.refl _ _).alloc (Nat.le_refl _) _), h.ap, (Below.heap_alloc _ _ _ hl).trans h.res, h.vals.alloc o, h.went.alloc o⟩
theorem own_type {W : World} {b e e' sz sz' : Nat} {v v' : Value} {n n' : Nat} {xs xs' : List Value} (h : W.ownsRow b e sz v n xs) (h' : W.ownsRow b e' sz' v' n' xs') (hne : e ≠ e') : v.ownBlock = none ∨ v.ownBlock ≠ v'.ownBlock := by
  rcases h.2 with ⟨rfl, _⟩ | ⟨g, cap, cur, rfl, hb, hg, _⟩
  · exact .inl rfl
  · rcases h'.2 with ⟨rfl, _⟩ | ⟨g', cap', cur', rfl, hb', hg', _⟩
    · exact .inr (by simp [Value.ownBlock])
    · refine .inr fun e => ?_
      simp only [Value.ownBlock, Option.some.injEq] at e
      subst e
      rw [hg] at hg'
      cases hg'
      exact hne rfl
theorem AllW.app7 {s : Nat} {w : World} {C : Cont} {Ak Av : Option Addr} {q1 q2 : Nat} {l7 l7' : List Int} {l8 : List Bool} {v7 v8 v7' : Value} {W W' : World} (h : AllW s w C Ak q1 Av q2 l7 l8 v7 v8 W) (ho : W'.ownsRow (s + 2) 3 ints.sz v7' l7'.length (ints.flat l7')) (hg : W.grownBy W' v7.ownBlock) (hn : v7'.ownBlock = v7.ownBlock ∨ v7'.ownBlock = some W.heap.size) : AllW s w C Ak q1 Av q2 l7' l8 v7' v8 W' := by
  have hl := h.lt
  have hge := h.vals.lt
  refine ⟨h.bel.grown hg (by have := h.bel.size; omega) (fun k hk => by have := (hge k hk).1; omega), (hg.block _ (by omega) (fun e => by have := (hge _ e.symm).1; omega)).trans h.blk, cin_grown h.cin hg ?_ ?_, ?_, (hg.block _ hl (fun e => by have := (hge _ e.symm).1; omega)).trans h.res, ho, h.went.kept hg (own_type h.went h.vals (by decide))⟩
  · exact fun hne a ha e => (h.ap a.block (.inr (.inr (.inl e.symm)))).1 hne a ha rfl
  · exact fun hne a ha e => (h.ap a.block (.inr (.inr (.inl e.symm)))).2 hne a ha rfl
  · rintro g (hg1 | hg1 | hg1 | hg1)
    · exact h.ap g (.inl hg1)
    · exact h.ap g (.inr (.inl hg1))
    · rcases hn with hn | hn
      · exact h.ap g (.inr (.inr (.inl (hn ▸ hg1))))
      · rw [hn] at hg1; cases hg1
        exact ⟨fun hne a ha e => by have := row_lt h.cin.k hne a ha; omega, fun hne a ha e => by have := row_lt h.cin.v hne a ha; omega⟩
    · exact h.ap g (.inr (.inr (.inr hg1)))
theorem AllW.app8 {s : Nat} {w : World} {C : Cont} {Ak Av : Option Addr} {q1 q2 : Nat} {l7 : List Int} {l8 l8' : List Bool} {v7 v8 v8' : Value} {W W' : World} (h : AllW s w C Ak q1 Av q2 l7 l8 v7 v8 W) (ho : W'.ownsRow (s + 2) 4 bools.sz v8' l8'.length (bools.flat l8')) (hg : W.grownBy W' v8.ownBlock) (hn : v8'.ownBlock = v8.ownBlock ∨ v8'.ownBlock = some W.heap.size) : AllW s w C Ak q1 Av q2 l7 l8' v7 v8' W' := by
  have hl := h.lt
  have hge := h.went.lt
  refine ⟨h.bel.grown hg (by have := h.bel.size; omega) (fun k hk => by have := (hge k hk).1; omega), (hg.block _ (by omega) (fun e => by have := (hge _ e.symm).1; omega)).trans h.blk, cin_grown h.cin hg ?_ ?_, ?_, (hg.block _ hl (fun e => by have := (hge _ e.symm).1; omega)).trans h.res, h.vals.kept hg (own_type h.vals h.went (by decide)), ho⟩
  · exact fun hne a ha e => (h.ap a.block (.inr (.inr (.inr e.symm)))).1 hne a ha rfl
  · exact fun hne a ha e => (h.ap a.block (.inr (.inr (.inr e.symm)))).2 hne a ha rfl
  · rintro g (hg1 | hg1 | hg1 | hg1)
    · exact h.ap g (.inl hg1)
    · exact h.ap g (.inr (.inl hg1))
    · exact h.ap g (.inr (.inr (.inl hg1)))
    · rcases hn with hn | hn
      · exact h.ap g (.inr (.inr (.inr (hn ▸ hg1))))
      · rw [hn] at hg1; cases hg1
        exact ⟨fun hne a ha e => by have := row_lt h.cin.k hne a ha; omega, fun hne a ha e => by have := row_lt h.cin.v hne a ha; omega⟩
def AllIn (w : World) (c : Cont) (l : List OpT) (n : Nat) (v7 v8 : Value) (wr : World) : Prop :=
  ∃ Ak q1 Av q2, AllW w.heap.size w (AllTo c l n).1 Ak q1 Av q2 (AllTo c l n).2.1 (AllTo c l n).2.2 v7 v8 wr

def GivesAll (r : Cont × List Int × List Bool) (w : World) (e : Ending) (w' : World) : Prop :=
  ∃ Ak q1 Av q2 v7 v8, e = .returned (.tuple #[.agg #[.int .i64 r.1.kind, .slice Ak r.1.keys.length q1, .slice Av r.1.vals.length q2], v7, v8]) ∧ CIn w' r.1 Ak q1 Av q2 ∧ IsRow ints w' v7 r.2.1 ∧ IsRow bools w' v8 r.2.2 ∧ Below w.heap.size w w'

set_option maxRecDepth 100000 in
set_option maxHeartbeats 2000000 in
theorem all_any (c : Cont) (l : List OpT) (Ak Av A : Option Addr) (q1 q2 cap : Nat) (w : World) (h : CIn w c Ak q1 Av q2) (hrl : RowIn opsT w A l) (hl : l.length ≤ 100000) (hk : c.keys.length ≤ 100000) (hv : c.vals.length ≤ 100000) :
    Calls Try.prog 18 #[.agg (contV c Ak q1 Av q2).toArray, .slice A l.length cap] w (GivesAll (doAll c l) w) := by
  obtain ⟨i3, hi3, hz0, hz1, hz2⟩ := info_parts int_info
  obtain ⟨i4, hi4, hy0, hy1, hy2⟩ := info_parts bool_info
  unfold contV
  go_enter Try.func18, Try.ntmps18
  go_wp2
  go_loopw [7, 8, 16] (fun v7 v8 i wr => ∃ n : Nat, n ≤ l.length ∧ i = .int .i64 n ∧ AllIn w c l n v7 v8 wr) (fun _ _ i _ => l.length - (intOf i).toNat)
  case atStart =>
    refine ⟨0, by omega, rfl, ?_⟩
    have hb0 : Below w.heap.size w ((w.alloc (.cells #[.int .i64 c.kind, .slice Ak c.keys.length q1, .slice Av c.vals.length q2] 24)).alloc (.cells #[.int .i64 0, .slice none 0 0, .slice none 0 0] 24)) := ((Below.refl _ _).alloc (Nat.le_refl _) _).alloc (by simp) _
    refine ⟨Ak, q1, Av, q2, hb0, ?_, h.next hb0, fun g hg => ⟨fun hn a ha => ?_, fun hn a ha => ?_⟩, ?_, owns_nil ints _ _ _, owns_nil bools _ _ _⟩
    · rw [Below.heap_alloc _ _ _ (by simp)]; exact heap_alloc_new w _
    · have := row_lt h.k hn a ha; simp [Value.ownBlock] at hg; omega
    · have := row_lt h.v hn a ha; simp [Value.ownBlock] at hg; omega
    · have := heap_alloc_new (w.alloc (.cells #[.int .i64 c.kind, .slice Ak c.keys.length q1, .slice Av c.vals.length q2] 24)) (.cells #[.int .i64 0, .slice none 0 0, .slice none 0 0] 24)
      simpa using this
  case round =>
    obtain ⟨n, hn, rfl, hin⟩ := hrel
    obtain ⟨Bk, p1, Bv, p2, hin⟩ := hin
    have hblk := hin.blk
    have hcin := hin.cin
    have hap := hin.ap
    have c0 : wr.cell? ⟨w.heap.size, 0, none⟩ = some (.int .i64 (AllTo c l n).1.kind) := blk_cell (cs := [_, _, _]) hblk 0
    have c1 : wr.cell? ⟨w.heap.size, 1, none⟩ = some (.slice Bk (AllTo c l n).1.keys.length p1) := blk_cell (cs := [_, _, _]) hblk 1
    have c2 : wr.cell? ⟨w.heap.size, 2, none⟩ = some (.slice Bv (AllTo c l n).1.vals.length p2) := blk_cell (cs := [_, _, _]) hblk 2
    have HI := Lib.hid hin
    have hs := hin.bel.size
    have hlt0 : w.heap.size < wr.heap.size := by
      rcases Nat.lt_or_ge w.heap.size wr.heap.size with hlt | hge
      · exact hlt
      · rw [Array.getElem?_eq_none hge] at hblk; cases hblk
    have hlt1 : w.heap.size + 1 < wr.heap.size := by
      rcases Nat.lt_or_ge (w.heap.size + 1) wr.heap.size with hlt | hge
      · exact hlt
      · have := hin.res; rw [Array.getElem?_eq_none hge] at this; cases this
    have HB := Lib.hid hblk
    have HP := Lib.hid hap
    clear hin hblk hap
    by_cases hlt : n < l.length
    · obtain ⟨o, ho⟩ := some_at hlt
      obtain ⟨b, of, rfl, hbb, o0, o1, o2, o3⟩ := ops_at (hrl.next HI.out.bel) ho
      have HO := Lib.hid ho
      clear ho
      have hne0 : w.heap.size ≠ wr.heap.size := by omega
      have hg := doAll_grow c (l.take n)
      have htk : (l.take n).length ≤ n := List.length_take_le _ _
      have hcd : Calls Try.prog 16 #[.agg #[.int .i64 (AllTo c l n).1.kind, .slice Bk (AllTo c l n).1.keys.length p1, .slice Bv (AllTo c l n).1.vals.length p2], .agg #[.int .i64 o.kind, .int .i64 o.obj, .int .i64 o.a, .int .i64 o.b]] (wr.alloc (.cells #[.int .i64 o.kind, .int .i64 o.obj, .int .i64 o.a, .int .i64 o.b] 26)) (GivesDo (does (AllTo c l n).1 o) (AllTo c l n).1 Bk Bv (wr.alloc (.cells #[.int .i64 o.kind, .int .i64 o.obj, .int .i64 o.a, .int .i64 o.b] 26))) :=
        do_any (AllTo c l n).1 o Bk Bv p1 p2 _ (hcin.next ((Below.refl _ _).alloc (Nat.le_refl _) _)) (by unfold AllTo; omega) (by unfold AllTo; omega)
      have HCD := Lib.hid hcd
      clear hcd hg
      go_wp2_with fail
      refine HCD.out.mono ?_
      rintro e w2 ⟨Ck, r1, Cv, r2, rfl, hc2, ha1, ha2, hb2⟩
      have bw1 : Below wr.heap.size wr w2 := ((Below.refl _ _).alloc (Nat.le_refl _) _).trans (hb2.mono (by simp))
      have k0 : w2.heap[w.heap.size]? = _ := (bw1.block _ hlt0).trans HB.out
      have k1 : w2.heap[w.heap.size + 1]? = _ := (bw1.block _ hlt1).trans HI.out.res
      have e0 : w2.cell? ⟨w.heap.size, 0, none⟩ = some (.int .i64 (AllTo c l n).1.kind) := blk_cell (cs := [_, _, _]) k0 0
      have e1 : w2.cell? ⟨w.heap.size, 1, none⟩ = some (.slice Bk (AllTo c l n).1.keys.length p1) := blk_cell (cs := [_, _, _]) k0 1
      have e2 : w2.cell? ⟨w.heap.size, 2, none⟩ = some (.slice Bv (AllTo c l n).1.vals.length p2) := blk_cell (cs := [_, _, _]) k0 2
      have f0 := blk_free k0 0
      have f1 := blk_free k0 1
      have f2 := blk_free k0 2
      have hlt2 : w.heap.size + 1 < w2.heap.size := Nat.lt_of_lt_of_le hlt1 bw1.size
      have hne2 : w.heap.size ≠ w2.heap.size := by omega
      have hlt20 : w.heap.size < w2.heap.size := by omega
      have hnn : (AllTo c l (n + 1)) = ((does (AllTo c l n).1 o).1, (AllTo c l n).2.1 ++ [(does (AllTo c l n).1 o).2.1], (AllTo c l n).2.2 ++ [(does (AllTo c l n).1 o).2.2]) := doAll_take HO.out
      have HN := Lib.hid hnn
      have hlens := doAll_len c (l.take n)
      have hl7 : (AllTo c l n).2.1.length ≤ 100000 := by unfold AllTo; omega
      have hl8 : (AllTo c l n).2.2.length ≤ 100000 := by unfold AllTo; omega
      have K0 := Lib.hid k0
      have K1 := Lib.hid k1
      clear hnn hlens k0 k1 c0 c1 c2 o0 o1 o2 o3
      go_upto_region 8 with (fail)
      refine wp_gen (fun w4 => w4 = (set3 w2 w.heap.size (.int .i64 (does (AllTo c l n).1 o).1.kind) (.slice Ck (does (AllTo c l n).1 o).1.keys.length r1) (.slice Cv (does (AllTo c l n).1 o).1.vals.length r2)).alloc (.cells #[.int .i64 (does (AllTo c l n).1 o).1.kind, .slice Ck (does (AllTo c l n).1 o).1.keys.length r1, .slice Cv (does (AllTo c l n).1 o).1.vals.length r2] 24)) rfl ?_
      rintro w4 hw4
      have t0 : ∀ k, k < w2.heap.size → w4.heap[k]? = (set3 w2 w.heap.size (.int .i64 (does (AllTo c l n).1 o).1.kind) (.slice Ck (does (AllTo c l n).1 o).1.keys.length r1) (.slice Cv (does (AllTo c l n).1 o).1.vals.length r2)).heap[k]? := fun k hk => by
        rw [hw4]; exact Below.heap_alloc _ _ _ (by rw [set3_size]; exact hk)
      have m0 : w4.heap[w.heap.size]? = some (.cells #[.int .i64 (does (AllTo c l n).1 o).1.kind, .slice Ck (does (AllTo c l n).1 o).1.keys.length r1, .slice Cv (does (AllTo c l n).1 o).1.vals.length r2] 24 (0, 0)) :=
        (t0 _ hlt20).trans (set3_same K0.out)
      have m1 : w4.heap[w.heap.size + 1]? = some (.cells #[.int .i64 0, .slice none 0 0, .slice none 0 0] 24 (0, 0)) :=
        (t0 _ hlt2).trans ((set3_other (by omega)).trans K1.out)
      have ap : ∀ g, (g = w.heap.size ∨ g = w.heap.size + 1 ∨ u7.ownBlock = some g ∨ u8.ownBlock = some g) → ((does (AllTo c l n).1 o).1.keys ≠ [] → ∀ a, Ck = some a → a.block ≠ g) ∧ ((does (AllTo c l n).1 o).1.vals ≠ [] → ∀ a, Cv = some a → a.block ≠ g) := fun g hg =>
        have hgl : g < (wr.alloc (.cells #[.int .i64 o.kind, .int .i64 o.obj, .int .i64 o.a, .int .i64 o.b] 26)).heap.size := by
          have h1 := HI.out.vals.lt g
          have h2 := HI.out.went.lt g
          simp
          rcases hg with hg | hg | hg | hg
          · omega
          · omega
          · have := h1 hg; omega
          · have := h2 hg; omega
        ⟨ha1 g hgl (HP.out g hg).1 (HP.out g hg).2, ha2 g hgl (HP.out g hg).1 (HP.out g hg).2⟩
      have m2 : CIn w4 (does (AllTo c l n).1 o).1 Ck r1 Cv r2 := by
        rw [hw4]; exact (cin_set3 hc2 (ap _ (.inl rfl)).1 (ap _ (.inl rfl)).2).next ((Below.refl _ _).alloc (Nat.le_refl _) _)
      have b4 : Below w.heap.size w w4 := by
        rw [hw4]; exact (set3_below (HI.out.bel.trans (bw1.mono hs)) (Nat.le_refl _)).alloc (by rw [set3_size]; omega) _
      have s4 : wr.heap.size ≤ w4.heap.size := by rw [hw4]; simp [set3_size]; have := bw1.size; omega
      have n7 : w4.ownsRow (w.heap.size + 2) 3 ints.sz u7 (AllTo c l n).2.1.length (ints.flat (AllTo c l n).2.1) := owns_keep HI.out.vals fun k hk hkl => (t0 k (Nat.lt_of_lt_of_le hkl bw1.size)).trans ((set3_other (by omega)).trans (bw1.block k hkl))
      have n8 : w4.ownsRow (w.heap.size + 2) 4 bools.sz u8 (AllTo c l n).2.2.length (bools.flat (AllTo c l n).2.2) := owns_keep HI.out.went fun k hk hkl => (t0 k (Nat.lt_of_lt_of_le hkl bw1.size)).trans ((set3_other (by omega)).trans (bw1.block k hkl))
      have HW : Hid (AllW w.heap.size w (does (AllTo c l n).1 o).1 Ck r1 Cv r2 (AllTo c l n).2.1 (AllTo c l n).2.2 u7 u8 w4) := Lib.hid ⟨b4, m0, m2, ap, m1, n7, n8⟩
      clear hw4 t0 hc2 hb2 e0 e1 e2 f0 f1 f2 m0 m1 m2 ap b4 n7 n8 s4
      generalize does (AllTo c l n).1 o = D at *
      go_wp2_with (first
        | (at_builtin; refine wpList_append_rows' _ ints rfl (.tmp 28) (.tmp 30) 22 rfl (w.heap.size + 2) 3 i3 _ 8 Try.underlying22 hi3 hz0 hz1 hz2 rfl _ _ rfl (HW.out.alloc _).vals _ _ [D.2.1] _ 1 rfl rfl (new_int w4 D.2.1 3) (by unfold maxLen; simp; omega) (by simp; omega) (by have := HW.out.lt; simp; omega) ?_; intro v9 w5 ho5 hg5 hn5; have HW5 := Lib.hid ((HW.out.alloc _).app7 ho5 hg5 hn5); clear ho5 hg5 hn5)
        | (at_builtin; refine wpList_append_rows' _ bools rfl (.tmp 32) (.tmp 34) 34 rfl (w.heap.size + 2) 4 i4 _ 1 Try.underlying34 hi4 hy0 hy1 hy2 rfl _ _ rfl (HW5.out.alloc _).went _ _ [D.2.2] _ 1 rfl rfl (new_bool w5 D.2.2 4) (by unfold maxLen; simp; omega) (by simp; omega) (by have := HW5.out.lt; simp; omega) ?_; intro v10 w6 ho6 hg6 hn6; have HW6 := Lib.hid ((HW5.out.alloc _).app8 ho6 hg6 hn6); clear ho6 hg6 hn6))
      go_roundw
      · refine ⟨n + 1, hlt, by simp, Ck, r1, Cv, r2, ?_⟩
        rw [HN.out]
        exact HW6.out
      · simp [intOf]; omega
    · have hnl : n = l.length := by omega
      subst hnl
      have HL : Hid (AllTo c l l.length = doAll c l) := Lib.hid (by unfold AllTo; rw [List.take_length])
      have g0 : wr.cell? ⟨w.heap.size + 1, 0, none⟩ = some (.int .i64 0) := blk_cell (cs := [_, _, _]) HI.out.res 0
      have g1 : wr.cell? ⟨w.heap.size + 1, 1, none⟩ = some (.slice none 0 0) := blk_cell (cs := [_, _, _]) HI.out.res 1
      have g2 : wr.cell? ⟨w.heap.size + 1, 2, none⟩ = some (.slice none 0 0) := blk_cell (cs := [_, _, _]) HI.out.res 2
      have f0 := blk_free HI.out.res 0
      have f1 := blk_free HI.out.res 1
      have f2 := blk_free HI.out.res 2
      go_wp2_with fail
      refine bodyPost_ret (v := .tuple #[.agg #[.int .i64 (AllTo c l l.length).1.kind, .slice Bk (AllTo c l l.length).1.keys.length p1, .slice Bv (AllTo c l l.length).1.vals.length p2], u7, u8]) (by simp [results, Try.results18, go_sem, g0, g1, g2]) rfl ?_
      have hout := cont_out (w := w) (w1 := wr) (g := w.heap.size + 1) HI.out.bel (by omega) hcin (HP.out _ (.inr (.inl rfl))).1 (HP.out _ (.inr (.inl rfl))).2 (.int .i64 (AllTo c l l.length).1.kind) (.slice Bk (AllTo c l l.length).1.keys.length p1) (.slice Bv (AllTo c l l.length).1.vals.length p2)
      rw [← HL.out]
      refine ⟨_, _, _, _, _, _, rfl, hout.1, isRow_of_own (base := w.heap.size + 2) (e := 3) (owns_keep HI.out.vals fun k hk hkl => set3_other (by omega)), isRow_of_own (base := w.heap.size + 2) (e := 4) (owns_keep HI.out.went fun k hk hkl => set3_other (by omega)), hout.2⟩
end Go.Proofs.Ytknancnmdpdefaa
