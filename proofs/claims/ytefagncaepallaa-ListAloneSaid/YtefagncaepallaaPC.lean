/- Plays of channels, as states; what will be told of operations. -/
import Derived.Test.YtefagncaepallaaPB
namespace Go.Proofs.Ytefagncaepallaa
set_option maxRecDepth 100000

/-- What is told of an operation: its point and its code. -/
def tellF (steps : List StepT) (w a : Int) : Int × Int := match steps.find? (fun s => decide (s.who = w) && decide (s.at_ = a) && s.done) with
  | some s => (s.out.point, s.out.err)
  | none => (-1, 0)
end Go.Proofs.Ytefagncaepallaa
/- Contents of maps, and what a list has. -/
namespace Go.Proofs.Ytefagncaepallaa
set_option maxRecDepth 100000

structure Cont where
  kind : Int
  keys : List Int
  vals : List Int
deriving DecidableEq
def RisesL (l : List Int) : Prop := l.Pairwise (· < ·)
instance (l : List Int) : Decidable (RisesL l) := inferInstanceAs (Decidable (l.Pairwise (· < ·)))
/-- How many stand ahead of x. -/
def pos (l : List Int) (x : Int) : Nat := (l.takeWhile fun y => decide (y < x)).length
def insAt (l : List Int) (p : Nat) (x : Int) : List Int := l.take p ++ x :: l.drop p
def delAt (l : List Int) (p : Nat) : List Int := l.take p ++ l.drop (p + 1)
def rightB (c : Cont) : Bool := if c.kind = 1 then decide (c.keys.length = c.vals.length) && decide (RisesL c.keys) else if c.kind = 2 ∨ c.kind = 3 then decide (c.keys.length = 0) else false
def hasB (c : Cont) (x : Int) : Bool := decide (c.keys[pos c.keys x]? = some x)
def specS (c : Cont) (o : OpT) : Cont × Int × Bool :=
  if o.kind = 1 then (if hasB c o.a then (c, c.vals.getD (pos c.keys o.a) 0, true) else (c, 0, false))
  else if o.kind = 2 then (if hasB c o.a then (c, 0, false) else (⟨c.kind, insAt c.keys (pos c.keys o.a) o.a, insAt c.vals (pos c.keys o.a) o.b⟩, 0, true))
  else (if hasB c o.a then (⟨c.kind, delAt c.keys (pos c.keys o.a), delAt c.vals (pos c.keys o.a)⟩, 0, true) else (c, 0, false))
section
variable {A B VA VB : List Int} {x v k : Int}
end

/-! ### What a list has -/
def conW (W : Ws) (X : List Int) : Cont := ⟨1, (inR W X).map fun n => W.nd n 1, (inR W X).map fun n => W.nd n 2⟩
theorem inR_mem {W : Ws} {X : List Int} {n : Int} (h : n ∈ inR W X) : n ∈ X := (List.mem_filter.1 h).1
theorem inR_same {W W' : Ws} {X : List Int} (h : ∀ n ∈ X, (ofW (W'.nd n 0)).mark = (ofW (W.nd n 0)).mark) : inR W' X = inR W X := List.filter_congr fun x hx => by rw [h x hx]
/-- Keys, values and marks are what they were. -/
structure Alike (W W' : Ws) (X : List Int) : Prop where
  key : ∀ n ∈ X, W'.nd n 1 = W.nd n 1 ∧ W'.nd n 2 = W.nd n 2
  mark : ∀ n ∈ X, (ofW (W'.nd n 0)).mark = (ofW (W.nd n 0)).mark
theorem Alike.inR {W W' : Ws} {X : List Int} (h : Alike W W' X) : inR W' X = inR W X := inR_same h.mark
theorem Alike.keys {W W' : Ws} {X : List Int} (h : Alike W W' X) : (Go.Proofs.Ytefagncaepallaa.inR W' X).map (fun n => W'.nd n 1) = (Go.Proofs.Ytefagncaepallaa.inR W X).map fun n => W.nd n 1 := by
  rw [h.inR]
  exact List.map_congr_left fun n hn => (h.key n (inR_mem hn)).1
theorem Alike.vals {W W' : Ws} {X : List Int} (h : Alike W W' X) : (Go.Proofs.Ytefagncaepallaa.inR W' X).map (fun n => W'.nd n 2) = (Go.Proofs.Ytefagncaepallaa.inR W X).map fun n => W.nd n 2 := by
  rw [h.inR]
  exact List.map_congr_left fun n hn => (h.key n (inR_mem hn)).2
theorem Alike.sub {W W' : Ws} {X Y : List Int} (h : Alike W W' X) (hs : ∀ n ∈ Y, n ∈ X) : Alike W W' Y := ⟨fun n hn => h.key n (hs n hn), fun n hn => h.mark n (hs n hn)⟩
section
variable {hd : Int} {N K : Nat} {W W' : Ws} {X A B : List Int} {D : Int → Prop} {g : LstG} {n o : Int}
end
end Go.Proofs.Ytefagncaepallaa
/- Lists: looks that are points, by what comes later. -/
namespace Go.Proofs.Ytefagncaepallaa
set_option maxRecDepth 100000

/-- In order: the looks of a finding that has seen an order number. -/
def loOk : Pc Lk → Prop
  | .at_ (.lo _ _ _ _ _ _ _ t k) => t < k
  | _ => True
section
variable {hd : Int} {S : Nat}
/-- Points and looks lie behind. -/
structure LkW (q : Q Lk) : Prop where
  pt : ∀ a, ptP q.pc = some a → 0 ≤ a ∧ a < q.s.made
  lk : ptP q.pc = none → ∀ t ∈ looks q.pc, 0 ≤ t ∧ t < q.s.made
  lo : ptP q.pc = none → loOk q.pc
theorem tell_stay {q : Q Lk} {r : ResT} (hs : Shape q) (hf : ¬ q.pc.asking) : tell (lstM hd) S q r = q := by
  obtain ⟨pc, s⟩ := q
  cases pc with
  | fin o => rfl
  | clr k => exact absurd hs id
  | _ => exact absurd trivial hf
theorem pt_run {a : Int} : ∀ (R : List ResT) {q : Q Lk}, Shape q → ptP q.pc = some a → ptP (runQ (lstM hd) S q R).pc = some a
  | [], _, _, h => h
  | r :: R, q, hs, h => pt_run R (q := tell (lstM hd) S q r) (shape_tell hs) (pt_tell hs h).1
theorem kout_pt (k : Lk) {x : Int × Bool × Int} (h : kout k = some x) : ∃ a, kpt k = some a := by
  cases k with
  | ga o f | gb o f _ _ _ _ | ls o f _ _ _ _ _ _ | lo o f _ _ _ _ _ _ _ | cu o f _ _ _ _ _ | rr o f _ _ _ _ _ =>
    cases f with
    | fin a => exact ⟨a, rfl⟩
    | _ => cases h
  | sv a => exact ⟨a, rfl⟩
  | cd _ _ _ _ a => exact ⟨a, rfl⟩
  | rx _ a => exact ⟨a, rfl⟩
  | ry a => exact ⟨a, rfl⟩
  | fi o => exact ⟨o.point, rfl⟩
  | _ => cases h
theorem out_pt {pc : Pc Lk} {x : Int × Bool × Int} (h : outP pc = some x) : ∃ a, ptP pc = some a := by
  cases pc with
  | fin o => exact ⟨o.point, rfl⟩
  | at_ k | t1 k | t2 k _ | t3 k _ _ | t4 k _ _ | t5 k _ _ _ | g1 k _ _ | g2 k _ _ _ _ | g3 k _ _ _ | clr k | c k _ | v1 k _ | v2 k _ _ | v3 k _ _ | r1 k _ | r2 k _ _ | rs k _ _ _ | s1 k _ _ _ _ | w1 k _ _ _ _ | w2 k _ _ _ _ _ | w3 k _ _ _ _ _ => exact kout_pt k h
/-- A point that is not behind us is a look under way, or comes later. -/
theorem pt_later : ∀ (R : List ResT) {q : Q Lk} {o : OutT}, Shape q → ptP q.pc = none → (runQ (lstM hd) S q R).pc = .fin o → o.point ∈ looks q.pc ∨ (q.s.made : Int) ≤ o.point
  | [], q, o, _, hp, hr => by
    have hr : q.pc = .fin o := hr
    rw [hr] at hp; cases hp
  | r :: R, q, o, hs, hp, hr => by
    have hr : (runQ (lstM hd) S (tell (lstM hd) S q r) R).pc = .fin o := hr
    by_cases hf : q.pc.asking
    · have hm := made_tell (M := lstM hd) (S := S) (r := r) hf
      obtain ⟨n1, n2⟩ := new_tell (hd := hd) (S := S) (r := r) hs hp
      have hpt : ∀ a, ptP (tell (lstM hd) S q r).pc = some a → o.point = a := fun a ha => by
        have := pt_run (hd := hd) (S := S) R (shape_tell hs) ha
        rw [hr] at this
        exact Option.some.inj this
      rcases n1 with n1 | n1 | ⟨t, ht, n1⟩
      · rcases pt_later R (shape_tell hs) n1 hr with h | h
        · rcases n2 _ h with h | h
          · exact .inl h
          · exact .inr (by omega)
        · exact .inr (by omega)
      · have := hpt _ n1
        exact .inr (by omega)
      · rw [hpt _ n1]; exact .inl ht
    · rw [tell_stay hs hf] at hr
      exact pt_later R hs hp hr

/-! ### What a look tells, if it is the point -/
section
variable {R : List ResT} {out : OutT} {s : PsT} {o : Int} {f : Fk}
end
end
end Go.Proofs.Ytefagncaepallaa
/- Lists: what a look tells that is the point; what an access does to a list's content. -/
namespace Go.Proofs.Ytefagncaepallaa
set_option maxRecDepth 100000

section
variable {hd : Int} {l : LayT} {S N K : Nat} {V : Vw} {qs : List (Q Lk)} {F X : List Int} {g : LstG} {w : Nat} {q : Q Lk} {R : List ResT} {out : OutT}
end

/-! ### All looks of a play -/
end Go.Proofs.Ytefagncaepallaa
/- Lists: what an access does to a list's content. -/
namespace Go.Proofs.Ytefagncaepallaa
set_option maxRecDepth 100000

theorem mark_plain {w : Int} (h0 : 0 ≤ w) (h1 : w < 65536) : (ofW w).mark = false := by
  show decide (w / 65536 % 2 = 1) = false
  rw [decide_eq_false_iff_not]
  omega
section
variable {hd : Int} {l : LayT} {S N K : Nat} {W W' : Ws} {X A B : List Int} {D : Int → Prop} {g : LstG} {P : Int → Int → Prop} {pn c o : Int}
theorem below (h : LstSI hd N K W X D g) (hs : Stand W X pn c A B) (hk : Kp W o pn) : ∀ m ∈ A, W.nd m 1 < o := by
  intro m hm
  rcases hs.hA with ⟨_, rfl⟩ | ⟨hp, A', rfl⟩
  · simp at hm
  · have hk : W.nd pn 1 < o := hk.resolve_left (by omega)
    have hr := h.rise
    rw [hs.eq, List.append_assoc, List.pairwise_append] at hr
    rcases List.mem_append.1 hm with hm | hm
    · have := hr.2.2 m hm pn (by simp)
      omega
    · have : m = pn := by simpa using hm
      rw [this]; exact hk
theorem above (h : LstSI hd N K W X D g) (hs : Stand W X pn c A B) (hk : c = 0 ∨ o < W.nd c 1) : ∀ m ∈ B, o < W.nd m 1 := by
  intro m hm
  have hh := hs.hB
  cases B with
  | nil => simp at hm
  | cons b B =>
    have hb : b = c := hh
    have hr := h.rng b (by rw [hs.eq]; simp)
    have hk : o < W.nd b 1 := by rw [hb]; exact hk.resolve_left (by omega)
    rcases List.mem_cons.1 hm with rfl | hm
    · exact hk
    · have hr := h.rise
      rw [hs.eq, List.pairwise_append] at hr
      have := (List.pairwise_cons.1 hr.2.1).1 m hm
      omega
variable {V : Vw} {qs : List (Q Lk)} {F : List Int} {w : Nat} {q : Q Lk}
end
end Go.Proofs.Ytefagncaepallaa
/- Lists: what is recorded of an operation's point. -/
namespace Go.Proofs.Ytefagncaepallaa
set_option maxRecDepth 100000

def gvNo : Pc Lk → Prop
  | .at_ (.gv _ _ _) => False
  | _ => True
section
variable {hd : Int} {S : Nat}
theorem clr_gv (k : Lk) (s : PsT) (hk : (∃ o, k = .fi o) ∨ ∃ n a, k = .rx n a) : gvNo (clrQ (lstM hd) k s).pc := by
  rcases clr_cases (M := lstM hd) k s with ⟨i, i0, i2, h, e⟩ | ⟨_, e⟩
  · rw [e]; trivial
  · rw [e]
    rcases hk with ⟨o, rfl⟩ | ⟨n, a, rfl⟩ <;> trivial
theorem fi_gv (o : OutT) (s : PsT) : gvNo (norm (lstM hd) (.clr (.fi o)) s).pc := clr_gv _ s (.inl ⟨o, rfl⟩)
end
/-! ### What is recorded -/
def RecT (v : Int) (b : Bool) (W : Ws) (o : Int) (f : Fk) (cur : Int) : Prop := (W.nd cur 1 = o → f = .get → v = W.nd cur 2 ∧ b = true) ∧ ((W.nd cur 1 = o → f ≠ .get) → v = 0 ∧ b = false)
def RecF (v : Int) (b : Bool) (W : Ws) (tp : Int) : Pc Lk → Prop
  | .g2 (.gb o f _ _ _ cur) _ _ _ _ => RecT v b W o f cur
  | .at_ (.ls o f _ _ _ cur _ _) => RecT v b W o f cur
  | .at_ (.lo o f _ _ _ cur _ t k) => (tp = t → RecT v b W o f cur) ∧ (tp = k → v = 0 ∧ b = false)
  | _ => v = 0 ∧ b = false
/-- What is recorded fits where the program is. -/
structure RecQ (v : Int) (b : Bool) (W : Ws) (tp : Int) (pc : Pc Lk) : Prop where
  out : ∀ v' b' e, outP pc = some (v', b', e) → (e = 0 → v' = v ∧ b' = b) ∧ (e ≠ 0 → e = 8 ∧ b' = false)
  gv : ∀ o cur pt, pc = .at_ (.gv o cur pt) → v = W.nd cur 2 ∧ b = true
  look : ptP pc = none → tp ∈ looks pc → RecF v b W tp pc
section
variable {hd : Int} {S : Nat} {v : Int} {b : Bool} {W : Ws} {tp : Int}
theorem RecQ.lk {pc : Pc Lk} (hp : ptP pc = none) (hg : gvNo pc) (h : tp ∈ looks pc → RecF v b W tp pc) : RecQ v b W tp pc := ⟨fun v' b' e h => (by obtain ⟨a, ha⟩ := out_pt h; rw [hp] at ha; cases ha), fun o cur pt h => (by rw [h] at hg; exact absurd hg id), fun _ => h⟩
theorem RecQ.dn {pc : Pc Lk} {a v' : Int} {b' : Bool} {e : Int} (hp : ptP pc = some a) (ho : outP pc = some (v', b', e)) (hg : gvNo pc) (h : (e = 0 → v' = v ∧ b' = b) ∧ (e ≠ 0 → e = 8 ∧ b' = false)) : RecQ v b W tp pc := ⟨fun v2 b2 e2 h2 => (by rw [ho] at h2; cases h2; exact h), fun o cur pt h => (by rw [h] at hg; exact absurd hg id), fun hn => (by rw [hp] at hn; cases hn)⟩
theorem RecQ.fi (o : OutT) (s : PsT) (h : (o.err = 0 → o.val = v ∧ o.is = b) ∧ (o.err ≠ 0 → o.err = 8 ∧ o.is = false)) : RecQ v b W tp (norm (lstM hd) (.clr (.fi o)) s).pc :=
  .dn (norm_p (hd := hd) (.clr (.fi o)) s).1 (norm_p (hd := hd) (.clr (.fi o)) s).2 (fi_gv o s) h
variable {R : List ResT} {out : OutT} {s : PsT} {o : Int} {f : Fk}
end
section
variable {hd : Int} {l : LayT} {S N K : Nat} {V : Vw} {qs : List (Q Lk)} {F X : List Int} {g : LstG} {w : Nat} {q : Q Lk} {R : List ResT} {out : OutT} {v : Int} {b : Bool}
end
end Go.Proofs.Ytefagncaepallaa
/- Lists: an access that is an operation's point does what the operation does. -/
namespace Go.Proofs.Ytefagncaepallaa
set_option maxRecDepth 100000

/-- A step that brings nothing new: no point but an old look, and no new look. -/
structure Old (L : List Int) (q' : Q Lk) : Prop where
  pt : ptP q'.pc = none ∨ ∃ t ∈ L, ptP q'.pc = some t
  lk : ∀ t ∈ looks q'.pc, t ∈ L
section
variable {hd : Int} {S : Nat} {L : List Int} {s : PsT} {o : Int} {f : Fk}
theorem Old.none {q' : Q Lk} (h : ptP q'.pc = Option.none) (hl : ∀ t ∈ looks q'.pc, t ∈ L) : Old L q' := ⟨.inl h, hl⟩
theorem Old.fi {o : OutT} (h : o.point ∈ L) : Old L (norm (lstM hd) (.clr (.fi o)) s) := ⟨.inr ⟨_, h, (norm_p (hd := hd) (.clr (.fi o)) s).1⟩, fun t ht => by rw [show norm (lstM hd) (.clr (.fi o)) s = clrQ (lstM hd) (.fi o) s from rfl, clr_l s (.inl ⟨o, rfl⟩)] at ht; simp at ht⟩
/-- Such a step is no point. -/
theorem Old.no {q' : Q Lk} {R : List ResT} {out : OutT} {m : Nat} (h : Old L q') (hs : Shape q') (hr : (runQ (lstM hd) S q' R).pc = .fin out) (hL : ∀ t ∈ L, t < m) (hm : q'.s.made = m + 1) : out.point ≠ m := by
  intro e
  rcases h.pt with hp | ⟨t, ht, hp⟩
  · rcases pt_later R hs hp hr with h1 | h1
    · have := hL _ (h.lk _ h1)
      omega
    · omega
  · have := pt_run (hd := hd) (S := S) R hs hp
    rw [hr] at this
    have := Option.some.inj this
    have := hL t ht
    omega
end
section
variable {hd : Int} {l : LayT} {S N K : Nat} {V : Vw} {qs : List (Q Lk)} {F X : List Int} {g : LstG} {w : Nat} {q : Q Lk} {R : List ResT} {out : OutT} {op : OpT}
end
end Go.Proofs.Ytefagncaepallaa
/- Each operation of a list takes effect at its point. -/
namespace Go.Proofs.Ytefagncaepallaa
set_option maxRecDepth 100000

/-! ### The law's bookkeeping -/
structure PtS where
  c : Cont
  own : List Int
  val : List Int
  is : List Bool
def isAt (l : List Bool) (i : Int) : Bool := l.getD i.toNat false
def mapC (c : Cont) : List (Int × Int) := c.keys.zip c.vals
def effB (steps : List StepT) (z : PtS) (s : StepT) : Bool := decide ((tellF steps s.who s.at_).1 = cellAt z.own s.who) && decide ((tellF steps s.who s.at_).2 = 0)
def ptS (steps : List StepT) (z : PtS) (s : StepT) : PtS :=
  if s.done then { z with own := z.own.set s.who.toNat 0 }
  else if effB steps z s then ⟨(specS z.c s.op).1, z.own.set s.who.toNat (cellAt z.own s.who + 1), z.val.set s.who.toNat (specS z.c s.op).2.1, z.is.set s.who.toNat (specS z.c s.op).2.2⟩
  else { z with own := z.own.set s.who.toNat (cellAt z.own s.who + 1) }
structure PtOk (l : LayT) (n : Nat) (steps : List StepT) (z : PtS) (m : List Int) (s : StepT) : Prop where
  w0 : 0 ≤ s.who
  w1 : s.who < n
  own : z.own.length = n
  val : z.val.length = n
  is : z.is.length = n
  ends : s.done = true → (s.out.err = 0 → s.out.is = isAt z.is s.who ∧ s.out.val = cellAt z.val s.who) ∧ (s.out.err ≠ 0 → s.out.err = 8 ∧ s.out.is = false) ∧ 0 ≤ s.out.point ∧ s.out.point < cellAt z.own s.who
  acc : s.done = false → faultF m.length s.acc = 0 ∧ rowF l (memS m s) l.map = mapC (ptS steps z s).c ∧ CellsLt (memS m s)
  len : m.length = l.size.toNat
  kind : s.op.kind = 1 ∨ s.op.kind = 2 ∨ s.op.kind = 3
  owns : 0 ≤ cellAt z.own s.who ∧ cellAt z.own s.who ≤ 100000
  cl : z.c.keys.length ≤ 100 ∧ z.c.vals.length ≤ 100
  cr : rightB z.c = true
  ck : z.c.kind = 1
def ptZ0 (n : Nat) : PtS := ⟨⟨1, [], []⟩, List.replicate n 0, List.replicate n 0, List.replicate n false⟩
def PtAll (l : LayT) (n : Nat) (steps : List StepT) (m0 : List Int) (st : List StepT) : Prop := ∀ (i : Nat) (s : StepT), st[i]? = some s → PtOk l n steps ((st.take i).foldl (ptS steps) (ptZ0 n)) ((st.take i).foldl memS m0) s
/-! ### Points -/
/-- What is known of a seat that has an operation under way. -/
structure PtSeat (z : PtS) (w : Nat) (W : Ws) (tp : Int) (q : Q Lk) : Prop where
  own : cellAt z.own w = q.s.made
  rc : RecQ (cellAt z.val w) (isAt z.is w) W tp q.pc
structure PtJ (p : PlayT) (i : Nat) (s : PSt) (V : Vw) (X : List Int) : Prop where
  ob : ∀ w : Nat, cellAt (s.out.foldl (ptS (playedF p).steps) (ptZ0 p.want.length)).own w ≤ i
  all : PtAll (layP p) p.want.length (playedF p).steps (beginF (layP p)) s.out
  mem : s.out.foldl memS (beginF (layP p)) = s.m
  lt : CellsLt s.m
  own : (s.out.foldl (ptS (playedF p).steps) (ptZ0 p.want.length)).own.length = p.want.length
  val : (s.out.foldl (ptS (playedF p).steps) (ptZ0 p.want.length)).val.length = p.want.length
  is : (s.out.foldl (ptS (playedF p).steps) (ptZ0 p.want.length)).is.length = p.want.length
  c : (s.out.foldl (ptS (playedF p).steps) (ptZ0 p.want.length)).c = conW V.W X
  seat : ∀ (w : Nat) (x : SeatT) (ws : List OpT), s.seats[w]? = some x → p.want[w]? = some ws → x.at_ < ws.length → PtSeat (s.out.foldl (ptS (playedF p).steps) (ptZ0 p.want.length)) w V.W (tellF (playedF p).steps w x.at_).1 (qAt p ws x)
end Go.Proofs.Ytefagncaepallaa
