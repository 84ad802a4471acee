/- What holds of a stack's memory and programs at every step: what it is. -/
import Derived.Test.YtpecgpmdchejdaaM2
namespace Go.Proofs.Ytpecgpmdchejdaa
set_option maxRecDepth 100000

/-- A word that was seen, and the word as it is now. -/
structure Seen (N : Nat) (f cur : Int) : Prop where
  nn : 0 ≤ f
  form : f = 131072 * (f / 131072) + (ofW f).idx
  le : (ofW f).idx ≤ N
  old : f / 131072 ≤ cur / 131072
  same : f / 131072 = cur / 131072 → f = cur
theorem Seen.up {N : Nat} {f cur cur' : Int} (h : Seen N f cur) (hc : cur' / 131072 = cur / 131072 + 1) : Seen N f cur' :=
  ⟨h.nn, h.form, h.le, by have := h.old; omega, fun e => by have := h.old; omega⟩
theorem Seen.ne {N : Nat} {f cur cur' : Int} (h : Seen N f cur) (hc : cur' / 131072 = cur / 131072 + 1) : cur' ≠ f := fun e => by
  subst e
  have := h.old
  omega
theorem ofW_idx_eq (f : Int) : (ofW f).idx = f % 65536 := rfl
theorem pack_turn {f c i j : Int} (hf : f = 131072 * c + i) (hc : 0 ≤ c) (hc1 : c < 1000000) (hi : 0 ≤ i ∧ i < 65536) (hj : 0 ≤ j ∧ j < 65536) : packW (turnW (ofW f) j) = 131072 * (c + 1) + j := by
  simp only [packW, turnW, ofW, Bool.false_eq_true, if_false]
  omega
/-- A chain of nodes, by their cells i. -/
def Linked (nd : Int → Int → Int) (i : Int) : List Int → Prop
  | [] => True
  | x :: L => nd x i = L.headD 0 ∧ Linked nd i L
theorem Linked.same {nd nd' : Int → Int → Int} {i : Int} : ∀ {L : List Int}, Linked nd i L → (∀ x ∈ L, nd' x i = nd x i) → Linked nd' i L
  | [], _, _ => trivial
  | x :: L, h, hs => ⟨(hs x (by simp)).trans h.1, h.2.same fun y hy => hs y (by simp [hy])⟩
/-- The nodes that a program has. -/
def own (q : Q) : List Int := match q.pc with
  | .t4 n | .t5 n _ | .p0 n | .p1 n | .p2 n _ | .p3 n _ | .d3 n _ | .c n _ _ | .r1 n _ _ | .r2 n _ _ _ => n :: q.gone.map (·.1)
  | .s1 _ _ _ g gs stay | .v1 _ _ _ g gs stay | .v2 _ _ _ g gs stay _ | .v3 _ _ _ g gs stay _ => (g :: (gs ++ stay)).map (·.1)
  | _ => q.gone.map (·.1)
def ownSum (qs : List Q) (n : Int) : Nat := (qs.map fun q => (own q).count n).sum
theorem sum_set {α : Type} (f : α → Nat) : ∀ {l : List α} {i : Nat} {x : α} (y : α), l[i]? = some x → ((l.set i y).map f).sum + f x = (l.map f).sum + f y
  | [], i, x, y, h => by simp at h
  | a :: l, 0, x, y, h => by simp at h; subst h; simp; omega
  | a :: l, i + 1, x, y, h => by
    have := sum_set f (l := l) (i := i) (x := x) y (by simpa using h)
    simp only [List.set_cons_succ, List.map_cons, List.sum_cons]; omega
theorem ownSum_set {qs : List Q} {w : Nat} {q : Q} (q' : Q) (n : Int) (h : qs[w]? = some q) : ownSum (qs.set w q') n + (own q).count n = ownSum qs n + (own q').count n := sum_set (fun q => (own q).count n) q' h
theorem le_sum {α : Type} (f : α → Nat) : ∀ {l : List α} {i : Nat} {x : α}, l[i]? = some x → f x ≤ (l.map f).sum
  | [], i, x, h => by simp at h
  | a :: l, 0, x, h => by simp at h; subst h; simp
  | a :: l, i + 1, x, h => by
    have := le_sum f (l := l) (i := i) (x := x) (by simpa using h)
    simp; omega
theorem le_sum2 {α : Type} (f : α → Nat) : ∀ {l : List α} {i j : Nat} {x y : α}, i ≠ j → l[i]? = some x → l[j]? = some y → f x + f y ≤ (l.map f).sum
  | [], i, j, x, y, _, h, _ => by simp at h
  | a :: l, 0, 0, x, y, hne, h, h2 => absurd rfl hne
  | a :: l, 0, j + 1, x, y, _, h, h2 => by
    have := le_sum f (l := l) (i := j) (x := y) (by simpa using h2)
    simp at h; subst h; simp; omega
  | a :: l, i + 1, 0, x, y, _, h, h2 => by
    have := le_sum f (l := l) (i := i) (x := x) (by simpa using h)
    simp at h2; subst h2; simp; omega
  | a :: l, i + 1, j + 1, x, y, hne, h, h2 => by
    have := le_sum2 f (l := l) (i := i) (j := j) (x := x) (y := y) (by omega) (by simpa using h) (by simpa using h2)
    simp; omega

/-! ### Reservations -/
def InG (L : List (Int × Int)) (n e : Int) : Prop := ∃ er, e ≤ er ∧ (n, er) ∈ L
/-- A program has a node, and will not give it away as long as e is reserved in the cell cw. -/
def Keeps (cw n e : Int) (q : Q) : Prop := match q.pc with
  | .d3 n' _ | .c n' _ _ | .r1 n' _ _ => n' = n ∨ InG q.gone n e
  | .r2 n' _ _ er => (n' = n ∧ e ≤ er) ∨ InG q.gone n e
  | .rs _ _ held c cs => InG q.gone n e ∧ (e ∈ held ∨ cw ∈ c :: cs)
  | .s1 _ _ held g gs stay => InG (g :: (gs ++ stay)) n e ∧ e ∈ held
  | .v1 _ _ held _ gs stay | .v2 _ _ held _ gs stay _ | .v3 _ _ held _ gs stay _ => InG (gs ++ stay) n e ∧ e ∈ held
  | _ => InG q.gone n e
theorem InG.mem {L : List (Int × Int)} {n e : Int} (h : InG L n e) : n ∈ L.map (·.1) := by
  obtain ⟨er, _, hm⟩ := h
  exact List.mem_map.2 ⟨_, hm, rfl⟩
theorem keeps_own {cw n e : Int} {q : Q} (h : Keeps cw n e q) : n ∈ own q := by
  obtain ⟨pc, made, gone, e0⟩ := q
  cases pc <;> simp only [Keeps, own] at h ⊢
  case d3 => rcases h with rfl | h; exact List.mem_cons_self; exact List.mem_cons_of_mem _ h.mem
  case c => rcases h with rfl | h; exact List.mem_cons_self; exact List.mem_cons_of_mem _ h.mem
  case r1 => rcases h with rfl | h; exact List.mem_cons_self; exact List.mem_cons_of_mem _ h.mem
  case r2 => rcases h with ⟨rfl, _⟩ | h; exact List.mem_cons_self; exact List.mem_cons_of_mem _ h.mem
  case rs => exact h.1.mem
  case s1 => exact h.1.mem
  case v1 => rw [List.map_cons]; exact List.mem_cons_of_mem _ h.1.mem
  case v2 => rw [List.map_cons]; exact List.mem_cons_of_mem _ h.1.mem
  case v3 => rw [List.map_cons]; exact List.mem_cons_of_mem _ h.1.mem
  case t4 => exact List.mem_cons_of_mem _ h.mem
  case t5 => exact List.mem_cons_of_mem _ h.mem
  case p0 => exact List.mem_cons_of_mem _ h.mem
  case p1 => exact List.mem_cons_of_mem _ h.mem
  case p2 => exact List.mem_cons_of_mem _ h.mem
  case p3 => exact List.mem_cons_of_mem _ h.mem
  all_goals exact h.mem
def cellOf (S w : Nat) : Int := 4 + 2 * (S : Int) + 3 * w
/-- A node that nobody gives away as long as the seat w has reserved e. -/
structure Prot (S : Nat) (V : Vw) (T : List Int) (qs : List Q) (w : Nat) (n e : Int) : Prop where
  birth : max1 (V.nd n 6) ≤ e
  at_ : n ∈ T ∨ ∃ (j : Nat) (q : Q), qs[j]? = some q ∧ Keeps (cellOf S w) n e q
def Pro (S : Nat) (V : Vw) (T : List Int) (qs : List Q) (w : Nat) (q : Q) : Prop := match q.pc with
  | .d1 u => Prot S V T qs w (ofW u).idx q.e0
  | .g2 u _ => (ofW u).idx ≠ 0 → V.er = q.e0 → Prot S V T qs w (ofW u).idx q.e0
  | _ => True
def CellsOk (S : Nat) (cs : List Int) : Prop := cs.length ≤ 3 * S ∧ ∀ c ∈ cs, ∃ w i : Int, 0 ≤ w ∧ w < S ∧ 0 ≤ i ∧ i ≤ 2 ∧ c = 4 + 2 * (S : Int) + 3 * w + i
/-- What a program knows where it stands. -/
def LocPc (S N : Nat) (V : Vw) (e0 : Int) : Pc → Prop
  | .t1 => e0 = 0
  | .t2 f => e0 = 0 ∧ Seen N f V.fr ∧ 1 ≤ (ofW f).idx
  | .t3 f lk => e0 = 0 ∧ Seen N f V.fr ∧ 1 ≤ (ofW f).idx ∧ (V.fr = f → lk = V.nd (ofW f).idx 7)
  | .t4 _ => e0 = 0
  | .t5 _ b => e0 = 0 ∧ b ≤ V.er
  | .p0 _ => e0 = 0
  | .p1 _ => e0 = 0
  | .p2 _ u => e0 = 0 ∧ Seen N u V.tp
  | .p3 n u => e0 = 0 ∧ Seen N u V.tp ∧ V.nd n 0 = (ofW u).idx
  | .g1 => True
  | .g2 u _ => Seen N u V.tp
  | .g3 er => 1 ≤ er ∧ er ≤ V.er
  | .ce _ => 1 ≤ e0
  | .d1 u => Seen N u V.tp ∧ 1 ≤ (ofW u).idx ∧ 1 ≤ e0
  | .d2 u be => Seen N u V.tp ∧ 1 ≤ (ofW u).idx ∧ 1 ≤ e0 ∧ (V.tp = u → be = V.nd (ofW u).idx 0)
  | .d3 _ _ => 1 ≤ e0
  | .c _ _ _ => 1 ≤ e0
  | .r1 _ _ _ => e0 = 0
  | .r2 _ _ _ er => e0 = 0 ∧ er ≤ V.er
  | .rs _ _ _ c cs => e0 = 0 ∧ CellsOk S (c :: cs)
  | .s1 .. => e0 = 0
  | .v1 .. => e0 = 0
  | .v2 _ _ _ _ _ _ f => e0 = 0 ∧ Seen N f V.fr
  | .v3 _ _ _ g _ _ f => e0 = 0 ∧ Seen N f V.fr ∧ V.nd g.1 7 = (ofW f).idx
  | .fin _ => e0 = 0
structure Loc (S N : Nat) (V : Vw) (w : Nat) (q : Q) : Prop where
  rv : V.rv w = q.e0
  e0 : 0 ≤ q.e0
  e1 : q.e0 ≤ V.er
  pc : LocPc S N V q.e0 q.pc
structure Inv (S N K : Nat) (V : Vw) (qs : List Q) (F T : List Int) : Prop where
  n : qs.length = S
  fr : V.fr = 131072 * (V.fr / 131072) + F.headD 0
  frk : 0 ≤ V.fr / 131072 ∧ V.fr / 131072 ≤ K
  tp : V.tp = 131072 * (V.tp / 131072) + T.headD 0
  tpk : 0 ≤ V.tp / 131072 ∧ V.tp / 131072 ≤ K
  er : 1 ≤ V.er ∧ V.er ≤ K + 1
  lf : Linked V.nd 7 F
  lt : Linked V.nd 0 T
  part : ∀ n, F.count n + T.count n + ownSum qs n = if 1 ≤ n ∧ n ≤ (N : Int) then 1 else 0
  bi : ∀ n, 1 ≤ n → n ≤ (N : Int) → V.nd n 6 ≤ V.er
  loc : ∀ (w : Nat) (q : Q), qs[w]? = some q → Loc S N V w q
  pro : ∀ (w : Nat) (q : Q), qs[w]? = some q → Pro S V T qs w q

section
variable {S N K : Nat} {V : Vw} {qs : List Q} {F T : List Int} (hI : Inv S N K V qs F T)
include hI
theorem Inv.bound {n : Int} (h : 0 < F.count n + T.count n + ownSum qs n) : 1 ≤ n ∧ n ≤ (N : Int) := by
  have := hI.part n
  by_cases hc : 1 ≤ n ∧ n ≤ (N : Int)
  · exact hc
  · rw [if_neg hc] at this; omega
theorem Inv.one (n : Int) : F.count n + T.count n + ownSum qs n ≤ 1 := by
  have := hI.part n
  split at this <;> omega
theorem Inv.inF {n : Int} (h : n ∈ F) : 1 ≤ n ∧ n ≤ (N : Int) := hI.bound (by have := List.count_pos_iff.2 h; omega)
theorem Inv.inT {n : Int} (h : n ∈ T) : 1 ≤ n ∧ n ≤ (N : Int) := hI.bound (by have := List.count_pos_iff.2 h; omega)
theorem Inv.inOwn {n : Int} {w : Nat} {q : Q} (hq : qs[w]? = some q) (h : n ∈ own q) : 1 ≤ n ∧ n ≤ (N : Int) := hI.bound (by
  have h1 := List.count_pos_iff.2 h
  have h2 := le_sum (fun q => (own q).count n) hq
  unfold ownSum; omega)
theorem Inv.headF : 0 ≤ F.headD 0 ∧ F.headD 0 ≤ (N : Int) := by
  cases F with
  | nil => simp
  | cons x F => have := hI.inF (n := x) (by simp); simp; omega
theorem Inv.headT : 0 ≤ T.headD 0 ∧ T.headD 0 ≤ (N : Int) := by
  cases T with
  | nil => simp
  | cons x T => have := hI.inT (n := x) (by simp); simp; omega
/-- What a program has is neither free nor in the stack, and of no other program. -/
theorem Inv.ownNot {n : Int} {w : Nat} {q : Q} (hq : qs[w]? = some q) (h : n ∈ own q) : n ∉ F ∧ n ∉ T ∧ (own q).count n = 1 ∧ ∀ (j : Nat) (q' : Q), j ≠ w → qs[j]? = some q' → n ∉ own q' := by
  have h0 := hI.one n
  have h1 := List.count_pos_iff.2 h
  have h2 := le_sum (fun q => (own q).count n) hq
  have h2' : (own q).count n ≤ ownSum qs n := h2
  refine ⟨fun hf => by have := List.count_pos_iff.2 hf; omega, fun hf => by have := List.count_pos_iff.2 hf; omega, by omega, fun j q' hj hq' hm => ?_⟩
  have h3 := List.count_pos_iff.2 hm
  have h4 := le_sum2 (fun q => (own q).count n) hj hq' hq
  have h4' : (own q').count n + (own q).count n ≤ ownSum qs n := h4
  omega
theorem Inv.fIdx (hN : N ≤ 100) : (ofW V.fr).idx = F.headD 0 := by
  have h1 := hI.fr
  have h2 := hI.headF
  rw [ofW_idx_eq]
  omega
theorem Inv.tIdx (hN : N ≤ 100) : (ofW V.tp).idx = T.headD 0 := by
  have h1 := hI.tp
  have h2 := hI.headT
  rw [ofW_idx_eq]
  omega
theorem Inv.seenF (hN : N ≤ 100) : Seen N V.fr V.fr := by
  have h1 := hI.fr
  have h2 := hI.headF
  have h3 := hI.fIdx hN
  have h4 := hI.frk
  exact ⟨by omega, by rw [h3]; exact h1, by rw [h3]; exact h2.2, Int.le_refl _, fun _ => rfl⟩
theorem Inv.seenT (hN : N ≤ 100) : Seen N V.tp V.tp := by
  have h1 := hI.tp
  have h2 := hI.headT
  have h3 := hI.tIdx hN
  have h4 := hI.tpk
  exact ⟨by omega, by rw [h3]; exact h1, by rw [h3]; exact h2.2, Int.le_refl _, fun _ => rfl⟩
end
end Go.Proofs.Ytpecgpmdchejdaa
