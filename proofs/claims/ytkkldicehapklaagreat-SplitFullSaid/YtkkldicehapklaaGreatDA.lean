/- Words and layouts: what they are, and their walks. -/
import Derived.Test.YtkkldicehapklaaGreatShort
import Derived.Test.YtkkldicehapklaaGreatPA
namespace Go.Proofs.YtkkldicehapklaaGreat
open Go.RowKit
set_option maxRecDepth 100000
abbrev dRef (r : RefT) : Dt := .agg [dI r.idx, dB r.mark, dI r.cnt]
theorem low_c (n : Int) (b : Nat) (hb : b ≤ 62) : kA Tryz.prog 64 [dI n, dI b] (dI (n % 2 ^ b)) := by
 have h1 : (2 : Int) ^ b ≤ 4611686018427387904 := by
  have hlt : (2 : Nat) ^ b ≤ 2 ^ 62 := Nat.pow_le_pow_right (by omega) hb
  have h5 : ((2 ^ b : Nat) : Int) ≤ ((2 ^ 62 : Nat) : Int) := Int.ofNat_le.2 hlt
  have h6 : ((2 ^ 62 : Nat) : Int) = 4611686018427387904 := by decide
  rw [h6, Int.natCast_pow] at h5
  exact h5
 have h0 : (0 : Int) < 2 ^ b := Int.pow_pos (by omega)
 refine jO jB Tryz.func64 rfl Tryz.ntmps64 rfl rfl rfl fun w cl => ?_
 refine go ?_
 refine a_q (jF9 b rfl rfl rfl rfl hb (by omega) (by omega)) rfl rfl rfl ?_
 rw [Int.one_mul]
 refine go ?_
 first | refine jF rfl ?_ | refine jC rfl ?_
 rw [and_low n b hb]
theorem low16_c (n : Int) : kA Tryz.prog 64 [dI n, dI 16] (dI (n % 65536)) := low_c n 16 (by omega)
theorem low1_c (n : Int) : kA Tryz.prog 64 [dI n, dI 1] (dI (n % 2)) := low_c n 1 (by omega)
theorem low28_c (n : Int) : kA Tryz.prog 64 [dI n, dI 28] (dI (n % 268435456)) := low_c n 28 (by omega)
theorem of_c (n : Int) : kA Tryz.prog 28 [dI n] (dRef (ofW n)) := by
 refine jO jB Tryz.func28 rfl Tryz.ntmps28 rfl rfl rfl fun w cl => ?_
 refine go ?_
 refine a_q (jA (low16_c n) rfl (fun a w => Tryz.call64 a w) rfl) rfl rfl rfl ?_
 refine go ?_
 refine a_q (kA7 16 rfl rfl rfl (by omega)) rfl rfl rfl ?_
 refine go ?_
 refine a_q (jA (low1_c (n / 2 ^ 16)) rfl (fun a w => Tryz.call64 a w) rfl) rfl rfl rfl ?_
 refine go ?_
 refine a_q (kA7 17 rfl rfl rfl (by omega)) rfl rfl rfl ?_
 refine go ?_
 refine a_q (jA (low28_c (n / 2 ^ 17)) rfl (fun a w => Tryz.call64 a w) rfl) rfl rfl rfl ?_
 refine go ?_
 first | refine jF rfl ?_ | refine jC rfl ?_
 rfl
theorem turn_c (r : RefT) (i : Int) (h0 : 0 ≤ r.cnt) (h1 : r.cnt < 268435456) : kA Tryz.prog 126 [dRef r, dI i] (dRef (jA5 r i)) := by
 refine jO jB Tryz.func126 rfl Tryz.ntmps126 rfl rfl rfl fun w cl => ?_
 refine go ?_
 refine jE 7 [] rfl rfl (by kernel_rfl) (by kernel_rfl) (by kernel_rfl) ?_
 refine goQ ?_
 refine r_q (jA (low16_c i) rfl (fun a w => Tryz.call64 a w) rfl) rfl rfl ?_
 refine goQ ?_
 refine r_q (jA (low28_c (r.cnt + 1)) rfl (fun a w => Tryz.call64 a w) rfl) rfl rfl ?_
 refine goQ ?_
 refine go ?_
 first | refine jF rfl ?_ | refine jC rfl ?_
 rfl
theorem lit2 {x y : Pl} {ps : List Pl} {n : Nat} (h0 : ps[n]? = some x) (h1 : ps[n + 1]? = some y) : ∀ (m : Nat) q, [x, y][m]? = some q → ps[n + m]? = some q := by
 intro m q hq
 match m, hq with
 | 0, hq => cases hq; exact h0
 | 1, hq => cases hq; exact h1
theorem lay_c (a b c : Int) : kA Tryz.prog 78 [.p (.sl false 3 [pI a, pI 16, pI b, pI 1, pI c, pI 28])] (dI (a % 65536 + 65536 * (b % 2) + 131072 * (c % 268435456))) := by
 have a0 : 0 ≤ a % 65536 := Int.emod_nonneg _ (by omega)
 have a1 : a % 65536 < 65536 := Int.emod_lt_of_pos _ (by omega)
 have b0 : 0 ≤ b % 2 := Int.emod_nonneg _ (by omega)
 have b1 : b % 2 < 2 := Int.emod_lt_of_pos _ (by omega)
 have c0 : 0 ≤ c % 268435456 := Int.emod_nonneg _ (by omega)
 have c1 : c % 268435456 < 268435456 := Int.emod_lt_of_pos _ (by omega)
 refine jO jB Tryz.func78 rfl Tryz.ntmps78 rfl rfl rfl fun w cl => ?_
 refine go ?_
 refine jP (fun i : Nat => i ≤ 3) (fun i => ⟨[(9, dI i), (8, dI 3), (7, .p (.sl false 3 [pI a, pI 16, pI b, pI 1, pI c, pI 28])), (3, dI (if i = 0 then 0 else if i = 1 then a % 65536 else if i = 2 then a % 65536 + 65536 * (b % 2) else a % 65536 + 65536 * (b % 2) + 131072 * (c % 268435456))), (4, dI (if i = 0 then 0 else if i = 1 then 16 else if i = 2 then 17 else 45))], [], []⟩) (fun i => 3 - i) 0 (by omega) (zX) ?_
 intro i hi
 rcases (show i = 0 ∨ i = 1 ∨ i = 2 ∨ i = 3 by omega) with rfl | rfl | rfl | rfl
 ·refine (show AWP _ _ _ _ ⟨[(9, dI 0), (8, dI 3), (7, .p (.sl false 3 [pI a, pI 16, pI b, pI 1, pI c, pI 28])), (3, dI (0)), (4, dI 0)], [], []⟩ from ?_)
  refine go ?_
  refine xQ (fun h1 => ?_) (fun h1 => ?_) <;> try rw [h1]
  ·refine go ?_
   refine a_q (jG jB [pI a, pI 16] rfl rfl rfl rfl rfl rfl (by first | omega | (simp; done) | (simp; omega)) (by first | omega | (simp; done) | (simp; omega)) (by first | (simp; done) | exact List.cons_ne_nil _ _) (lit2 rfl rfl)) rfl rfl rfl ?_
   refine go ?_
   refine a_q (jA (low16_c a) rfl (fun a w => Tryz.call64 a w) rfl) rfl rfl rfl ?_
   refine go ?_
   refine a_q (jF9 0 rfl rfl rfl rfl (by omega) (by omega) (by omega)) rfl rfl rfl ?_
   rw [show a % 65536 * 2 ^ 0 = a % 65536 by omega]
   refine go ?_
   refine a_q (kG9 0 (a % 65536) rfl rfl rfl (by omega) (by omega) (by omega) (by omega) (by omega)) rfl rfl rfl ?_
   rw [show 0 + a % 65536 = a % 65536 by omega]
   refine go ?_
   exact ⟨1, by omega, by omega, zX⟩
  ·exact absurd h1 (by decide)
 ·refine (show AWP _ _ _ _ ⟨[(9, dI 1), (8, dI 3), (7, .p (.sl false 3 [pI a, pI 16, pI b, pI 1, pI c, pI 28])), (3, dI (a % 65536)), (4, dI 16)], [], []⟩ from ?_)
  refine go ?_
  refine xQ (fun h1 => ?_) (fun h1 => ?_) <;> try rw [h1]
  ·refine go ?_
   refine a_q (jG jB [pI b, pI 1] rfl rfl rfl rfl rfl rfl (by first | omega | (simp; done) | (simp; omega)) (by first | omega | (simp; done) | (simp; omega)) (by first | (simp; done) | exact List.cons_ne_nil _ _) (lit2 rfl rfl)) rfl rfl rfl ?_
   refine go ?_
   refine a_q (jA (low1_c b) rfl (fun a w => Tryz.call64 a w) rfl) rfl rfl rfl ?_
   refine go ?_
   refine a_q (jF9 16 rfl rfl rfl rfl (by omega) (by omega) (by omega)) rfl rfl rfl ?_
   rw [show b % 2 * 2 ^ 16 = 65536 * (b % 2) by omega]
   refine go ?_
   refine a_q (kG9 16 (b % 2) rfl rfl rfl (by omega) (by omega) (by omega) (by omega) (by omega)) rfl rfl rfl ?_
   refine go ?_
   exact ⟨2, by omega, by omega, zX⟩
  ·exact absurd h1 (by decide)
 ·refine (show AWP _ _ _ _ ⟨[(9, dI 2), (8, dI 3), (7, .p (.sl false 3 [pI a, pI 16, pI b, pI 1, pI c, pI 28])), (3, dI (a % 65536 + 65536 * (b % 2))), (4, dI 17)], [], []⟩ from ?_)
  refine go ?_
  refine xQ (fun h1 => ?_) (fun h1 => ?_) <;> try rw [h1]
  ·refine go ?_
   refine a_q (jG jB [pI c, pI 28] rfl rfl rfl rfl rfl rfl (by first | omega | (simp; done) | (simp; omega)) (by first | omega | (simp; done) | (simp; omega)) (by first | (simp; done) | exact List.cons_ne_nil _ _) (lit2 rfl rfl)) rfl rfl rfl ?_
   refine go ?_
   refine a_q (jA (low28_c c) rfl (fun a w => Tryz.call64 a w) rfl) rfl rfl rfl ?_
   refine go ?_
   refine a_q (jF9 17 rfl rfl rfl rfl (by omega) (by omega) (by omega)) rfl rfl rfl ?_
   rw [show c % 268435456 * 2 ^ 17 = 131072 * (c % 268435456) by omega]
   refine go ?_
   refine a_q (kG9 17 (c % 268435456) rfl rfl rfl (by omega) (by omega) (by omega) (by omega) (by omega)) rfl rfl rfl ?_
   refine go ?_
   exact ⟨3, by omega, by omega, zX⟩
  ·exact absurd h1 (by decide)
 ·refine (show AWP _ _ _ _ ⟨[(9, dI 3), (8, dI 3), (7, .p (.sl false 3 [pI a, pI 16, pI b, pI 1, pI c, pI 28])), (3, dI (a % 65536 + 65536 * (b % 2) + 131072 * (c % 268435456))), (4, dI 45)], [], []⟩ from ?_)
  refine go ?_
  refine xQ (fun h1 => ?_) (fun h1 => ?_) <;> try rw [h1]
  ·exact absurd h1 (by decide)
  ·refine go ?_
   first | refine jF rfl ?_ | refine jC rfl ?_
   rfl
theorem kC6 (r : RefT) : kA Tryz.prog 47 [dRef r] (dI (vK r)) := by
 have hm : ∀ b : Bool, (if b then (1 : Int) else 0) % 2 = if b then 1 else 0 := fun b => by cases b <;> rfl
 obtain ⟨i, m, c⟩ := r
 refine jO jB Tryz.func47 rfl Tryz.ntmps47 rfl rfl rfl fun w cl => ?_
 refine go ?_
 cases m
 ·refine go ?_
  refine a_q (jA (lay_c i 0 c) rfl (fun a w => Tryz.call78 a w) rfl) rfl rfl rfl ?_
  refine go ?_
  first | refine jF rfl ?_ | refine jC rfl ?_
  rfl
 ·refine go ?_
  refine a_q (jA (lay_c i 1 c) rfl (fun a w => Tryz.call78 a w) rfl) rfl rfl rfl ?_
  refine go ?_
  first | refine jF rfl ?_ | refine jC rfl ?_
  rfl
abbrev xL (l : jN) : List Dt := [dI l.seats, dI l.nodes, dI l.buckets, dI l.slots, dI l.tasks, dI l.cells, dI l.maps, dI l.stacks, dI l.chans, dI l.done, dI l.count, dI l.era, dI l.free, dI l.alive, dI l.owner, dI l.resv, dI l.deque, dI l.ring, dI l.task, dI l.cell, dI l.map, dI l.stack, dI l.chan, dI l.node, dI l.size]
abbrev wO (l : jN) : Dt := .agg (xL l)
theorem jY2 (first many each row i : Int) (h1 : uP first) (h2 : uP many) (h3 : 0 ≤ each ∧ each ≤ 1000) (h4 : i < 9223372036854775808) : kA Tryz.prog 61 [dI first, dI many, dI each, dI row, dI i] (dI (yD first many each row i)) := by
 obtain ⟨h1a, h1b⟩ := h1
 obtain ⟨h2a, h2b⟩ := h2
 refine jO jB Tryz.func61 rfl Tryz.ntmps61 rfl rfl rfl fun w cl => ?_
 refine go ?_
 generalize k1 : decide (row < 0) = cc; cases cc
 ·have k1' := of_decide_eq_false k1
  refine go ?_
  generalize k2 : decide (many ≤ row) = cc; cases cc
  ·have k2' := of_decide_eq_false k2
   refine go ?_
   generalize k3 : decide (i < 0) = cc; cases cc
   ·have k3' := of_decide_eq_false k3
    refine go ?_
    generalize k4 : decide (each ≤ i) = cc; cases cc
    ·have k4' := of_decide_eq_false k4
     have hm1 : 0 ≤ row * each := Int.mul_nonneg (by omega) (by omega)
     have hm2 : row * each ≤ 1000000 * 1000 := Int.mul_le_mul (by omega) (by omega) (by omega) (by omega)
     have ew : IntKind.i64.wrap (row * each) = row * each := yJ (by omega) (by omega)
     refine go ?_
     rw [ew]
     refine go ?_
     first | refine jF rfl ?_ | refine jC rfl ?_
     rw [yD, if_neg (by omega)]
    ·refine go ?_
     first | refine jF rfl ?_ | refine jC rfl ?_
     rw [yD, if_pos (by have := of_decide_eq_true k4; omega)]
   ·refine go ?_
    first | refine jF rfl ?_ | refine jC rfl ?_
    rw [yD, if_pos (by have := of_decide_eq_true k3; omega)]
  ·refine go ?_
   first | refine jF rfl ?_ | refine jC rfl ?_
   rw [yD, if_pos (by have := of_decide_eq_true k2; omega)]
 ·refine go ?_
  first | refine jF rfl ?_ | refine jC rfl ?_
  rw [yD, if_pos (by have := of_decide_eq_true k1; omega)]
theorem jD2 (l : jN) (hl : qJ l) (n i : Int) (hn : n < 9223372036854775808) (hi : i < 9223372036854775808) : kA Tryz.prog 27 [wO l, dI n, dI i] (dI (jQ l n i)) := by
 have e1 := hl.node
 have e2 := hl.nodes
 refine jO jB Tryz.func27 rfl Tryz.ntmps27 rfl rfl rfl fun w cl => ?_
 refine go ?_
 generalize k1 : decide (n < 1) = cc; cases cc
 ·have k1' := of_decide_eq_false k1
  refine go ?_
  refine a_q (jA (jY2 l.node l.nodes 8 (n - 1) i e1 e2 (by omega) hi) rfl (fun a w => Tryz.call61 a w) rfl) rfl rfl rfl ?_
  refine go ?_
  first | refine jF rfl ?_ | refine jC rfl ?_
  rw [jQ, if_neg k1']
 ·refine go ?_
  first | refine jF rfl ?_ | refine jC rfl ?_
  rw [jQ, if_pos (of_decide_eq_true k1)]
theorem jN8 (l : jN) (hl : qJ l) (s i : Int) (hi : i < 9223372036854775808) : kA Tryz.prog 125 [wO l, dI s, dI i] (dI (qV l s i)) := by
 refine jO jB Tryz.func125 rfl Tryz.ntmps125 rfl rfl rfl fun w cl => ?_
 refine go ?_
 refine a_q (jA (jY2 l.resv l.seats 3 s i hl.resv hl.seats (by omega) hi) rfl (fun a w => Tryz.call61 a w) rfl) rfl rfl rfl ?_
 refine go ?_
 first | refine jF rfl ?_ | refine jC rfl ?_
 rfl
/-! ### Programs of accesses under way -/
def pPair (p : Int × Int) : List Pl := [pI p.1, pI p.2]
def vH (l : List (Int × Int)) : List Pl := l.flatMap pPair
abbrev plGone (l : List (Int × Int)) : Pl := .sl false l.length (vH l)
abbrev vG (l : List (Int × Int)) : Dt := .p (plGone l)
def pRes (r : jS) : List Pl := [pI r.val, pB r.ok]
def xF (l : List jS) : List Pl := l.flatMap pRes
abbrev dLog (l : List jS) : Dt := .p (.sl false l.length (xF l))
abbrev dRes (r : jS) : Dt := .agg [dI r.val, dB r.ok]
abbrev wM (a : AccT) : Dt := .agg [dI a.kind, dI a.cell, dI a.old, dI a.new]
abbrev pieceP (l : jN) (me : Int) (s : PsT) : List Pl := [pI l.seats, pI l.nodes, pI l.buckets, pI l.slots, pI l.tasks, pI l.cells, pI l.maps, pI l.stacks, pI l.chans, pI l.done, pI l.count, pI l.era, pI l.free, pI l.alive, pI l.owner, pI l.resv, pI l.deque, pI l.ring, pI l.task, pI l.cell, pI l.map, pI l.stack, pI l.chan, pI l.node, pI l.size, pI me, plGone s.gone, pI s.made, pI s.e0, pI s.e1, pI s.e2]
abbrev pieceD (l : jN) (me : Int) (s : PsT) : List Dt := [dI l.seats, dI l.nodes, dI l.buckets, dI l.slots, dI l.tasks, dI l.cells, dI l.maps, dI l.stacks, dI l.chans, dI l.done, dI l.count, dI l.era, dI l.free, dI l.alive, dI l.owner, dI l.resv, dI l.deque, dI l.ring, dI l.task, dI l.cell, dI l.map, dI l.stack, dI l.chan, dI l.node, dI l.size, dI me, vG s.gone, dI s.made, dI s.e0, dI s.e1, dI s.e2, .fn (.func 108) [] [.ptr 12 0, .ptr 13 0]]
abbrev jW (l : jN) (me : Int) (log : List jS) (s : PsT) : Bxs := [(11, pieceD l me s), (12, [.ptr 11 0]), (13, [dLog log])]
theorem xP (l : jN) (hl : qJ l) (me : Int) (s : PsT) (n i : Int) (hn : n < 9223372036854775808) (hi : i < 9223372036854775808) : kA Tryz.prog 112 [.el (pieceP l me s), dI n, dI i] (dI (jQ l n i)) := by
 refine jO jB Tryz.func112 rfl Tryz.ntmps112 rfl rfl rfl fun w cl => ?_
 refine go ?_
 refine a_q (jA (jD2 l hl n i hn hi) rfl (fun a w => Tryz.call27 a w) rfl) rfl rfl rfl ?_
 refine go ?_
 first | refine jF rfl ?_ | refine jC rfl ?_
 rfl
theorem jD8 (l : jN) (me : Int) (s : PsT) (h : (s.made : Int) < 9223372036854775807) : kA Tryz.prog 119 [.el (pieceP l me s)] (dI ((s.made : Int) - 1)) := by
 refine jO jB Tryz.func119 rfl Tryz.ntmps119 rfl rfl rfl fun w cl => ?_
 refine go ?_
 first | refine jF rfl ?_ | refine jC rfl ?_
 rfl
theorem kD2 {α : Type} {f : α → List Pl} {a b : α → Pl} (hf : ∀ x, f x = [a x, b x]) : ∀ {l : List α} {i : Nat} {x : α}, l[i]? = some x → ∀ (m : Nat) q, [a x, b x][m]? = some q → (l.flatMap f)[i * 2 + m]? = some q
 | [], i, x, h => by simp at h
 | y :: l, 0, x, h => by
  intro m q hq
  simp at h
  subst h
  rw [List.flatMap_cons, hf, Nat.zero_mul, Nat.zero_add]
  rw [List.getElem?_append_left]
  ·exact hq
  ·exact (List.getElem?_eq_some_iff.1 hq).1
 | y :: l, i + 1, x, h => by
  intro m q hq
  have ih := kD2 hf (l := l) (i := i) (x := x) (by simpa using h) m q hq
  rw [List.flatMap_cons, hf, List.getElem?_append_right (by simp; omega)]
  rw [show (i + 1) * 2 + m - [a y, b y].length = i * 2 + m by simp; omega]
  exact ih
theorem log_idx {l : List jS} {i : Int} {r : jS} (h : l[i.toNat]? = some r) : ∀ (m : Nat) q, [pI r.val, pB r.ok][m]? = some q → (xF l)[i.toNat * 2 + m]? = some q := kD2 (f := pRes) (fun _ => rfl) h
abbrev jG4 (a : AccT) : Value := .iface 167 (.agg #[.int .i64 a.kind, .int .i64 a.cell, .int .i64 a.old, .int .i64 a.new])
def PmR {α : Type} (l : jN) (me : Int) (log : List jS) (m : Except AccT (α × PsT)) (s : PsT) (enc : α → Dt) : Dt → Bxs → Prop := fun d bs => ∃ x s', m = .ok (x, s') ∧ s.made ≤ s'.made ∧ s'.made ≤ log.length ∧ d = enc x ∧ bs = jW l me log s'
def PmX {α : Type} (l : jN) (me : Int) (log : List jS) (m : Except AccT (α × PsT)) : Value → Bxs → Prop := fun v bs => ∃ a s', m = .error a ∧ v = jG4 a ∧ bs = jW l me log s'
abbrev PmC {α : Type} (f : FuncId) (l : jN) (me : Int) (log : List jS) (s : PsT) (ds : List Dt) (m : Except AccT (α × PsT)) (enc : α → Dt) : Prop :=
 ImpX Tryz.prog f [11, 12, 13] ds (jW l me log s) (PmR l me log m s enc) (PmX l me log m)
theorem do_x (l : jN) (me : Int) (log : List jS) (s : PsT) (a : AccT) (hm : s.made ≤ log.length) (hl : log.length ≤ 1000000) : PmC 108 l me log s [wM a, .ptr 12 0, .ptr 13 0] (doM a log s) dRes := by
 refine sX Tryz.func108 Tryz.ntmps108 fun w cl own kf => ?_
 refine go ?_
 refine jY [] rfl (by kernel_rfl) (by kernel_rfl) ?_
 refine goQ ?_
 refine go ?_
 generalize h1 : decide ((s.made : Int) = (log.length : Int)) = cc; cases cc
 ·have h1' := of_decide_eq_false h1
  have hlt : s.made < log.length := by omega
  have hr : log[s.made]? = some log[s.made] := List.getElem?_eq_getElem hlt
  generalize log[s.made] = r at hr
  have hr' : log[((s.made : Int) + 1 - 1).toNat]? = some r := by rw [show ((s.made : Int) + 1 - 1).toNat = s.made by omega]; exact hr
  refine go ?_
  refine jE 8 [] rfl rfl (by kernel_rfl) (by kernel_rfl) (by kernel_rfl) ?_
  refine goQ ?_
  refine r_q (jG jB [pI r.val, pB r.ok] rfl rfl rfl rfl rfl rfl (by first | omega | (simp; done) | (simp; omega)) (by first | omega | (simp; done) | (simp; omega)) (by first | (simp; done) | exact List.cons_ne_nil _ _) (log_idx hr')) rfl rfl ?_
  refine goQ ?_
  refine go ?_
  first | refine fR (jW l me log { s with made := s.made + 1 }) ?_ | refine fN (jW l me log { s with made := s.made + 1 }) ?_
  exact ⟨r, { s with made := s.made + 1 }, by rw [doM, hr], by simp, by simp; omega, rfl, rfl⟩
 ·have h1' : log.length = s.made := by have := of_decide_eq_true h1; omega
  have hr : log[s.made]? = none := List.getElem?_eq_none (by omega)
  refine go ?_
  refine a_q (jV4 jB rfl rfl rfl rfl rfl) rfl rfl rfl ?_
  refine a_panic rfl rfl rfl ?_
  refine gP ?_
  refine fP (jW l me log s) ?_
  exact ⟨a, s, by rw [doM, hr], rfl, rfl⟩
theorem jL7 {a : AccT} {log : List jS} {s s' : PsT} {r : jS} (h : doM a log s = .ok (r, s')) : s' = { s with made := s.made + 1 } ∧ log[s.made]? = some r := by
 unfold doM at h
 split at h
 ·rename_i r0 h0; cases h; exact ⟨rfl, h0⟩
 ·cases h
theorem qQ {c : Int} {log : List jS} {s s' : PsT} {v : Int} (h : yM c log s = .ok (v, s')) : s' = { s with made := s.made + 1 } ∧ ∃ r, log[s.made]? = some r ∧ r.val = v := by
 unfold yM Pm.bind at h
 split at h
 ·rename_i r s1 h0; cases h; obtain ⟨h1, h2⟩ := jL7 h0; exact ⟨h1, r, h2, rfl⟩
 ·cases h
theorem vX {c v : Int} {log : List jS} {s s' : PsT} {u : Unit} (h : yY c v log s = .ok (u, s')) : s' = { s with made := s.made + 1 } ∧ ∃ r, log[s.made]? = some r := by
 unfold yY Pm.bind at h
 split at h
 ·rename_i r s1 h0; cases h; obtain ⟨h1, h2⟩ := jL7 h0; exact ⟨h1, r, h2⟩
 ·cases h
theorem uU {c o v : Int} {log : List jS} {s s' : PsT} {b : Bool} (h : casM c o v log s = .ok (b, s')) : s' = { s with made := s.made + 1 } ∧ ∃ r, log[s.made]? = some r ∧ r.ok = b := by
 unfold casM Pm.bind at h
 split at h
 ·rename_i r s1 h0; cases h; obtain ⟨h1, h2⟩ := jL7 h0; exact ⟨h1, r, h2, rfl⟩
 ·cases h
theorem yP {c : Int} {log : List jS} {s s' : PsT} {v : Int} (h : yM c log s = .ok (v, s')) : s'.made = s.made + 1 := by rw [(qQ h).1]
theorem xE {c v : Int} {log : List jS} {s s' : PsT} {u : Unit} (h : yY c v log s = .ok (u, s')) : s'.made = s.made + 1 := by rw [(vX h).1]
theorem jD6 {c o v : Int} {log : List jS} {s s' : PsT} {b : Bool} (h : casM c o v log s = .ok (b, s')) : s'.made = s.made + 1 := by rw [(uU h).1]
theorem uX (l : jN) (me : Int) (log : List jS) (s : PsT) (c : Int) (hm : s.made ≤ log.length) (hl : log.length ≤ 1000000) : PmC 111 l me log s [.ptr 11 0, dI c] (yM c log s) dI := by
 refine sX Tryz.func111 Tryz.ntmps111 fun w cl own kf => ?_
 refine go ?_
 refine vF (do_x l me log s ⟨1, c, 0, 0⟩ hm hl) rfl (fun a w => Tryz.call108 a w) rfl rfl rfl (by (repeat (first | exact trivial | refine ⟨⟨rfl, rfl⟩, ?_⟩))) (by (repeat (first | exact trivial | refine ⟨.inr rfl, ?_⟩ | refine ⟨.inl rfl, ?_⟩))) rfl rfl rfl rfl ?_ ?_ ?_ ?_
 ·rintro d bs ⟨x, s', _, _, _, rfl, rfl⟩; exact ⟨.inl rfl, .inl rfl, .inl rfl, trivial⟩
 ·rintro v bs ⟨a, s', _, rfl, rfl⟩; exact ⟨.inl rfl, .inl rfl, .inl rfl, trivial⟩
 ·rintro v bs ⟨a, s', h, rfl, rfl⟩
  refine gP ?_
  refine fP (jW l me log s') ?_
  exact ⟨a, s', jI h, rfl, rfl⟩
 rintro d bs ⟨x, s', h, hle, hlen, rfl, rfl⟩
 refine go ?_
 first | refine fR (jW l me log s') ?_ | refine fN (jW l me log s') ?_
 exact ⟨x.val, s', jH h, hle, hlen, rfl, rfl⟩
theorem wS (l : jN) (me : Int) (log : List jS) (s : PsT) (c v : Int) (hm : s.made ≤ log.length) (hl : log.length ≤ 1000000) : PmC 116 l me log s [.ptr 11 0, dI c, dI v] (yY c v log s) (fun _ => .tup []) := by
 refine sX Tryz.func116 Tryz.ntmps116 fun w cl own kf => ?_
 refine go ?_
 refine vF (do_x l me log s ⟨2, c, 0, v⟩ hm hl) rfl (fun a w => Tryz.call108 a w) rfl rfl rfl (by (repeat (first | exact trivial | refine ⟨⟨rfl, rfl⟩, ?_⟩))) (by (repeat (first | exact trivial | refine ⟨.inr rfl, ?_⟩ | refine ⟨.inl rfl, ?_⟩))) rfl rfl rfl rfl ?_ ?_ ?_ ?_
 ·rintro d bs ⟨x, s', _, _, _, rfl, rfl⟩; exact ⟨.inl rfl, .inl rfl, .inl rfl, trivial⟩
 ·rintro v bs ⟨a, s', _, rfl, rfl⟩; exact ⟨.inl rfl, .inl rfl, .inl rfl, trivial⟩
 ·rintro v bs ⟨a, s', h, rfl, rfl⟩
  refine gP ?_
  refine fP (jW l me log s') ?_
  exact ⟨a, s', jI h, rfl, rfl⟩
 rintro d bs ⟨x, s', h, hle, hlen, rfl, rfl⟩
 refine go ?_
 first | refine fR (jW l me log s') ?_ | refine fN (jW l me log s') ?_
 exact ⟨(), s', jH h, hle, hlen, rfl, rfl⟩
theorem cas_x (l : jN) (me : Int) (log : List jS) (s : PsT) (c o v : Int) (hm : s.made ≤ log.length) (hl : log.length ≤ 1000000) : PmC 118 l me log s [.ptr 11 0, dI c, dI o, dI v] (casM c o v log s) dB := by
 refine sX Tryz.func118 Tryz.ntmps118 fun w cl own kf => ?_
 refine go ?_
 refine vF (do_x l me log s ⟨3, c, o, v⟩ hm hl) rfl (fun a w => Tryz.call108 a w) rfl rfl rfl (by (repeat (first | exact trivial | refine ⟨⟨rfl, rfl⟩, ?_⟩))) (by (repeat (first | exact trivial | refine ⟨.inr rfl, ?_⟩ | refine ⟨.inl rfl, ?_⟩))) rfl rfl rfl rfl ?_ ?_ ?_ ?_
 ·rintro d bs ⟨x, s', _, _, _, rfl, rfl⟩; exact ⟨.inl rfl, .inl rfl, .inl rfl, trivial⟩
 ·rintro v bs ⟨a, s', _, rfl, rfl⟩; exact ⟨.inl rfl, .inl rfl, .inl rfl, trivial⟩
 ·rintro v bs ⟨a, s', h, rfl, rfl⟩
  refine gP ?_
  refine fP (jW l me log s') ?_
  exact ⟨a, s', jI h, rfl, rfl⟩
 rintro d bs ⟨x, s', h, hle, hlen, rfl, rfl⟩
 refine go ?_
 first | refine fR (jW l me log s') ?_ | refine fN (jW l me log s') ?_
 exact ⟨x.ok, s', jH h, hle, hlen, rfl, rfl⟩
end Go.Proofs.YtkkldicehapklaaGreat
