/- Tables of plays: how they lie in memory, and their bounds. -/
import Derived.Test.YtkkldicehapklaaGreatEA
import Derived.Test.YtkkldicehapklaaGreatPB
namespace Go.Proofs.YtkkldicehapklaaGreat
open Go.RowKit
set_option maxRecDepth 100000
/-! ### Bounds -/
def glN (x : kR) : Nat := x.gone.length + (if x.op.kind = 0 then 0 else x.log.length)
theorem glN_le {x : kR} : x.gone.length ≤ glN x := Nat.le_add_right _ _
structure Und (k N : Nat) (t : HTabT) : Prop where
 m : t.m.length = N
 log : ∀ x ∈ t.seats, x.log.length ≤ k
 steps : ∀ x ∈ t.seats, x.steps.length ≤ k
 next : ∀ x ∈ t.seats, x.next ≤ k
 gone : ∀ x ∈ t.seats, glN x ≤ k ∧ yK x.gone
 step : 0 ≤ t.step ∧ t.step ≤ k
 full : 0 ≤ t.full ∧ t.full ≤ k
 calls : t.calls.length ≤ k
theorem Und.mono {k j N : Nat} {t : HTabT} (h : Und k N t) (hkj : k ≤ j) : Und j N t :=
 ⟨h.m, fun x hx => Nat.le_trans (h.log x hx) hkj, fun x hx => Nat.le_trans (h.steps x hx) hkj, fun x hx => Nat.le_trans (h.next x hx) hkj, fun x hx => ⟨Nat.le_trans (h.gone x hx).1 hkj, (h.gone x hx).2⟩, ⟨h.step.1, by have := h.step.2; omega⟩, ⟨h.full.1, by have := h.full.2; omega⟩, Nat.le_trans h.calls hkj⟩
structure SeatB (k : Nat) (x : kR) : Prop where
 log : x.log.length ≤ k
 steps : x.steps.length ≤ k
 next : x.next ≤ k
 gone : glN x ≤ k ∧ yK x.gone
theorem Und.seat {k N : Nat} {t : HTabT} (h : Und k N t) {w : Nat} {x : kR} (hx : t.seats[w]? = some x) : SeatB k x :=
 ⟨h.log x (List.mem_of_getElem? hx), h.steps x (List.mem_of_getElem? hx), h.next x (List.mem_of_getElem? hx), h.gone x (List.mem_of_getElem? hx)⟩
theorem Und.set {k j N : Nat} {t t' : HTabT} (h : Und k N t) (hkj : k ≤ j) {w : Nat} {y : kR} (hy : SeatB j y) (hs : t'.seats = t.seats.set w y) (hm : t'.m.length = t.m.length) (h1 : 0 ≤ t'.step ∧ t'.step ≤ j) (h2 : 0 ≤ t'.full ∧ t'.full ≤ j) (h3 : t'.calls.length ≤ j) : Und j N t' := by
 have hmem : ∀ z ∈ t'.seats, z ∈ t.seats ∨ z = y := fun z hz => List.mem_or_eq_of_mem_set (by rw [← hs]; exact hz)
 refine ⟨hm.trans h.m, fun z hz => ?_, fun z hz => ?_, fun z hz => ?_, fun z hz => ?_, h1, h2, h3⟩
 ·rcases hmem z hz with hz | rfl
  ·exact Nat.le_trans (h.log z hz) hkj
  ·exact hy.log
 ·rcases hmem z hz with hz | rfl
  ·exact Nat.le_trans (h.steps z hz) hkj
  ·exact hy.steps
 ·rcases hmem z hz with hz | rfl
  ·exact Nat.le_trans (h.next z hz) hkj
  ·exact hy.next
 ·rcases hmem z hz with hz | rfl
  ·exact ⟨Nat.le_trans (h.gone z hz).1 hkj, (h.gone z hz).2⟩
  ·exact hy.gone
theorem end_und {k N : Nat} {t : HTabT} {w : Nat} {x : kR} {out : kY} (h : Und k N t) (hx : x.log.length ≤ k + 1 ∧ x.steps.length ≤ k + 1 ∧ x.next ≤ k + 1) (hg : out.gone.length ≤ k + 1 ∧ yK out.gone) : Und (k + 1) N (jE7 t w x out) := by
 have hy : SeatB (k + 1) { x with op := jI8, gone := out.gone } := ⟨hx.1, hx.2.1, hx.2.2, by show out.gone.length + 0 ≤ _; omega, hg.2⟩
 have h1 := h.step
 have h2 := h.full
 have h3 := h.calls
 unfold jE7
 simp only
 split
 ·exact h.set (by omega) hy rfl rfl ⟨h1.1, by simp only; omega⟩ ⟨by simp only; omega, by simp only; omega⟩ (by simp only; omega)
 ·split
  ·exact h.set (by omega) hy rfl rfl ⟨h1.1, by simp only; omega⟩ ⟨h2.1, by simp only; omega⟩ (by simp only; omega)
  ·exact h.set (by omega) hy rfl rfl ⟨h1.1, by simp only; omega⟩ ⟨h2.1, by simp only; omega⟩ (by simp only [List.length_append, List.length_cons, List.length_nil]; omega)
theorem move_und {k N : Nat} {l : jN} {t : HTabT} {w : Nat} {x : kR} (h : Und k N t) (h0 : x.log.length ≤ k) (h1 : x.steps.length ≤ k) (h2 : x.next ≤ k + 1) (h3 : x.gone.length + x.log.length ≤ k ∧ yK x.gone) (hS : 0 ≤ l.seats) : Und (k + 1) N (uL l t w x) := by
 have hs := h.step
 have hf := h.full
 have hc := h.calls
 unfold uL
 simp only
 split
 ·rename_i hd
  have hgn := hnext_gone hS hd h3.2
  exact end_und h ⟨by omega, by omega, h2⟩ ⟨by omega, hgn.1⟩
 ·split
  ·exact h.set (by omega) (y := { x with log := x.log ++ [(vL t.m (wA l w x.gone x.op x.log).1).2], steps := x.steps ++ [t.step] }) ⟨by simp; omega, by simp; omega, h2, by unfold glN; simp only; split <;> simp <;> omega, h3.2⟩ rfl (jM0 _ _) ⟨by simp only; omega, by simp only; omega⟩ ⟨hf.1, by simp only; omega⟩ (by simp only; omega)
  ·exact h.set (by omega) (y := { x with op := jI8 }) ⟨by simp only; omega, by simp only; omega, h2, by show x.gone.length + 0 ≤ _; omega, h3.2⟩ rfl rfl ⟨hs.1, by simp only; omega⟩ ⟨hf.1, by simp only; omega⟩ (by simp only; omega)
theorem turn_und {k N : Nat} {l : jN} {want : List (List OpT)} {t : HTabT} {w : Nat} (h : Und k N t) (hS : 0 ≤ l.seats) : Und (k + 1) N (vI l want t w) := by
 unfold vI
 split
 ·rename_i x ws hx hw
  have hb := h.seat hx
  split
  ·split
   ·exact h.mono (by omega)
   ·exact move_und h (by simp) (by simp) (by have := hb.next; simp only; omega) ⟨by have := hb.gone.1; have := glN_le (x := x); simp only [List.length_nil]; omega, hb.gone.2⟩ hS
  ·rename_i hk
   exact move_und h hb.log hb.steps (by have := hb.next; omega) ⟨by have := hb.gone.1; rw [glN, if_neg hk] at this; exact this, hb.gone.2⟩ hS
 ·exact h.mono (by omega)
theorem end_n {t : HTabT} {w : Nat} {x : kR} {out : kY} : (jE7 t w x out).seats.length = t.seats.length := by
 unfold jE7
 simp only
 split
 ·simp
 ·split <;> simp
theorem turn_n {l : jN} {want : List (List OpT)} {t : HTabT} {w : Nat} : (vI l want t w).seats.length = t.seats.length := by
 have hm : ∀ x, (uL l t w x).seats.length = t.seats.length := fun x => by
  unfold uL
  simp only
  split
  ·exact end_n
  ·split <;> simp
 unfold vI
 split
 ·split
  ·split
   ·rfl
   ·exact hm _
  ·exact hm _
 ·rfl
/-! ### How they lie in memory -/
abbrev uB (ss : List kR) : List Dt := ss.flatMap fun x => opD x.op
abbrev uG (ss : List kR) : List Dt := ss.map fun x => dLog x.log
abbrev yN (ss : List kR) : List Dt := ss.map fun x => kK x.steps
abbrev yC (ss : List kR) : List Dt := ss.map fun x => dI x.next
abbrev yZ (ss : List kR) : List Dt := ss.map fun x => vG x.gone
abbrev pCall (c : HCallT) : List Pl := [pI c.who, pI c.op.kind, pI c.op.obj, pI c.op.a, pI c.op.b, pI c.val, pB c.is, pI c.first, pI c.last, pI c.point]
def wD (l : List HCallT) : List Pl := l.flatMap pCall
abbrev tabD (t : HTabT) (n : Nat) (cd : Dt) : List Dt := [kK t.m, dI t.step, .arr 31 0 n n, .arr 32 0 n n, .arr 33 0 n n, .arr 34 0 n n, .arr 35 0 n n, cd, dI t.full, dB t.wild, dB t.bad]
abbrev vS (t : HTabT) (n : Nat) (cd : Dt) (cs : List Dt) : Bxs := [(30, tabD t n cd), (31, uB t.seats), (32, uG t.seats), (33, yN t.seats), (34, yC t.seats), (35, yZ t.seats), (36, cs)]
structure CallsOk (calls : List HCallT) (cd : Dt) (cs : List Dt) : Prop where
 pl : PlainC cs
 at_ : (calls = [] ∧ cd = .p (.sl true 0 [])) ∨ ∃ c, cd = .arr 36 0 calls.length c ∧ cs.length = c * 10 ∧ calls.length ≤ c ∧ c ≤ maxLen ∧ cs.take (calls.length * 10) = (wD calls).map Dt.p
theorem jN2 (l : List HCallT) : (wD l).length = l.length * 10 := by
 induction l with
 | nil => rfl
 | cons a l ih => unfold wD at ih ⊢; rw [List.flatMap_cons, List.length_append, ih]; simp [pCall]; omega
theorem jV6 (l : List HCallT) (c : HCallT) : wD l ++ pCall c = wD (l ++ [c]) := by simp [wD]
theorem CallsOk.ok {calls : List HCallT} {cd : Dt} {cs : List Dt} (h : CallsOk calls cd cs) (B G : Nat → Bool) (hB : B 36 = true) : cd.ok B G = true := by
 rcases h.at_ with ⟨_, rfl⟩ | ⟨c, rfl, _⟩
 ·rfl
 ·exact hB
theorem CallsOk.leaf {calls : List HCallT} {cd : Dt} {cs : List Dt} (h : CallsOk calls cd cs) : cd.leaf = true := by
 rcases h.at_ with ⟨_, rfl⟩ | ⟨c, rfl, _⟩ <;> rfl
theorem jR5 {f : kR → Dt} (hf : ∀ x B G, (f x).ok B G = true) (l : List kR) : PlainC (l.map f) := by
 intro B G
 induction l with
 | nil => rfl
 | cons x l ih => simp only [List.map_cons, Dt.ok.oks, hf, Bool.true_and]; exact ih
theorem kV (l : List kR) : PlainC (uB l) := by
 intro B G
 induction l with
 | nil => rfl
 | cons x l ih => rw [uB, List.flatMap_cons]; exact ih
theorem kM (l : List kR) : PlainC (uG l) := jR5 (fun _ _ _ => rfl) l
theorem kB (l : List kR) : PlainC (yN l) := jR5 (fun _ _ _ => rfl) l
theorem kH (l : List kR) : PlainC (yC l) := jR5 (fun _ _ _ => rfl) l
theorem kG (l : List kR) : PlainC (yZ l) := jR5 (fun _ _ _ => rfl) l
theorem jV9 (l : List kR) : (uB l).length = l.length * 4 := by
 induction l with
 | nil => rfl
 | cons a l ih => rw [uB, List.flatMap_cons, List.length_append]; simp only [List.length_cons, List.length_nil]; rw [show (List.flatMap (fun x : kR => opD x.op) l).length = l.length * 4 from ih]; omega
theorem kG3 : ∀ {l : List kR} {i : Nat} {x : kR}, l[i]? = some x → ∃ rest, (uB l).drop (i * 4) = opD x.op ++ rest
 | [], i, x, h => by simp at h
 | y :: l, 0, x, h => by
  simp at h
  subst h
  exact ⟨_, by rw [Nat.zero_mul, List.drop_zero, uB, List.flatMap_cons]⟩
 | y :: l, i + 1, x, h => by
  obtain ⟨r, hr⟩ := kG3 (l := l) (i := i) (x := x) (by simpa using h)
  refine ⟨r, ?_⟩
  rw [uB, List.flatMap_cons, show (i + 1) * 4 = 4 + i * 4 by omega, ← List.drop_drop]
  exact hr
theorem jY0 : ∀ {l : List kR} {i : Nat} (x : kR), i < l.length → wC (uB l) (i * 4) (opD x.op) = uB (l.set i x)
 | [], i, x, h => by simp at h
 | y :: l, 0, x, h => by
  unfold wC
  rw [List.set_cons_zero, uB, uB, List.flatMap_cons, List.flatMap_cons]
  rfl
 | y :: l, i + 1, x, h => by
  have ih := jY0 (l := l) (i := i) x (by simpa using h)
  unfold wC at ih ⊢
  rw [List.set_cons_succ, uB, uB, List.flatMap_cons, List.flatMap_cons, ← uB, ← uB, ← ih]
  rw [show (i + 1) * 4 = (i * 4) + 4 by omega]
  rfl
theorem yG {α : Type} {f : kR → α} {l : List kR} {i : Nat} {x y : kR} (hx : l[i]? = some x) (h : f y = f x) : (l.set i y).map f = l.map f := by
 rw [List.map_set, h]
 refine List.ext_getElem? fun j => ?_
 rw [List.getElem?_set]
 split
 ·rename_i hj
  subst hj
  rw [List.length_map, List.getElem?_map, hx, if_pos (List.getElem?_eq_some_iff.1 hx).1]
  rfl
 ·rfl
theorem ops_same {l : List kR} {i : Nat} {x y : kR} (hx : l[i]? = some x) (h : y.op = x.op) : uB (l.set i y) = uB l := by
 have := yG (f := fun x : kR => opD x.op) hx (by rw [h])
 rw [uB, uB, List.flatMap_def, List.flatMap_def, this]
theorem jG2 {f : kR → Dt} {l : List kR} {i : Nat} {x : kR} (hx : l[i]? = some x) : (l.map f)[i]? = some (f x) := by rw [List.getElem?_map, hx]; rfl
theorem jK7 {f : kR → Dt} (hf : ∀ x, lowD (f x) = f x) {l : List kR} {i : Nat} {y : kR} {d : Dt} (hd : lowD d = f y) : ((l.map f).set i d).map lowD = (l.set i y).map f := by
 rw [List.map_set, List.map_map, List.map_set, hd]
 congr 1
 exact List.map_congr_left fun x _ => hf x
theorem yF {t : HTabT} {n : Nat} {cd : Dt} {cs : List Dt} {calls : List HCallT} (h : CallsOk calls cd cs) (B G : Nat → Bool) (h1 : B 31 = true) (h2 : B 32 = true) (h3 : B 33 = true) (h4 : B 34 = true) (h5 : B 35 = true) (h6 : B 36 = true) : Dt.ok.oks B G (tabD t n cd) = true := by
 have h7 := h.ok B G h6
 simp only [Dt.ok.oks, Dt.ok, h1, h2, h3, h4, h5, h7, Bool.true_and]
theorem htab_ok {t : HTabT} {n : Nat} {cd : Dt} {cs cs2 : List Dt} {calls : List HCallT} (h : CallsOk calls cd cs2) : Dt.ok.oks (jM (vS t n cd cs)) (fun _ => false) (tabD t n cd) = true := by
 have h1 := h.ok (jM (vS t n cd cs)) (fun _ => false) rfl
 show (true && (true && (true && (true && (true && (true && (true && (Dt.ok (jM (vS t n cd cs)) (fun _ => false) cd && (true && (true && (true && true)))))))))))= true
 rw [h1]
 rfl
theorem yL {σ : St} {t : HTabT} {n : Nat} {cd : Dt} {cs : List Dt} {calls : List HCallT} (h : CallsOk calls cd cs) (h0 : kv σ.b 30 = some (tabD t n cd)) (h1 : kv σ.b 31 = some (uB t.seats)) (h2 : kv σ.b 32 = some (uG t.seats)) (h3 : kv σ.b 33 = some (yN t.seats)) (h4 : kv σ.b 34 = some (yC t.seats)) (h5 : kv σ.b 35 = some (yZ t.seats)) (h6 : kv σ.b 36 = some cs) : SubH σ (jM (vS t n cd cs)) (vS t n cd cs) :=
 ⟨⟨h0, htab_ok h⟩, ⟨h1, kV _ _ _⟩, ⟨h2, kM _ _ _⟩, ⟨h3, kB _ _ _⟩, ⟨h4, kH _ _ _⟩, ⟨h5, kG _ _ _⟩, ⟨h6, h.pl _ _⟩, trivial⟩
end Go.Proofs.YtkkldicehapklaaGreat
