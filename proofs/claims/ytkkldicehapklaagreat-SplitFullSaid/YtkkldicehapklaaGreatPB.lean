/- Lists: their programs, what lays and reads them, and plays, in plain words. -/
import Derived.Test.YtkkldicehapklaaGreatPA
namespace Go.Proofs.YtkkldicehapklaaGreat
set_option maxRecDepth 100000
/-! ### Programs -/
def qG (n : Int) : Int := vK ⟨n, false, 0⟩
def wP (n : Int) : Int := vK ⟨n, true, 0⟩
structure vA where
 there : Bool
 prev : Int
 cur : Int
 next : Int
 point : Int
deriving DecidableEq
def jU7 : vA := ⟨false, 0, 0, 0, 0⟩
structure WalkT where
 a : Int
 b : Int
 prev : Int
 cur : Int
 pt : Int
def jI0 (l : jN) (me hd o : Int) : Nat → Option WalkT → Pm vA
 | 0, _ => .pure jU7
 | k + 1, none => (jI6 l me 0 hd).bind fun p => jI0 l me hd o k (some ⟨0, 1, hd, (ofW p.1).idx, p.2⟩)
 | k + 1, some x => if x.cur = 0 then .pure ⟨false, x.prev, 0, 0, x.pt⟩
  else (jI6 l me x.b (jQ l x.cur 0)).bind fun p => (yM x.prev).bind fun seen => lastM.bind fun look => if seen = qG x.cur then
   (yM (jQ l x.cur 1)).bind fun order =>
    if (ofW p.1).mark then (casM x.prev (qG x.cur) (qG (ofW p.1).idx)).bind fun ok => if ok then lastM.bind fun at_ => (wT l x.cur).bind fun _ => jI0 l me hd o k (some ⟨x.b, x.a, x.prev, (ofW p.1).idx, at_⟩) else jI0 l me hd o k none
    else if order < o then jI0 l me hd o k (some ⟨x.b, 3 - x.a - x.b, jQ l x.cur 0, (ofW p.1).idx, p.2⟩)
    else if order = o then .pure ⟨true, x.prev, x.cur, p.1, p.2⟩
    else .pure ⟨false, x.prev, x.cur, 0, look⟩
   else jI0 l me hd o k none
def jT0 (l : jN) (me hd o : Int) : Pm vA := fun log s => jI0 l me hd o (2 * (log.length - s.made) + 2) none log s
def jI9 (l : jN) (me : Int) (o : kY) : Pm kY := (jH0 l me).bind fun _ => .pure o
def getM (l : jN) (me hd o : Int) : Pm kY := (jT0 l me hd o).bind fun f => if f.there then (yM (jQ l f.cur 2)).bind fun v => jI9 l me ⟨v, true, 0, f.point, []⟩ else jI9 l me ⟨0, false, 0, f.point, []⟩
def putB (l : jN) (f : vA) (n : Int) : Pm (Option Int) := (yY (jQ l n 0) (qG f.cur)).bind fun _ => (casM f.prev (qG f.cur) (qG n)).bind fun ok => if ok then lastM.bind fun a => .pure (some a) else .pure none
def putL (l : jN) (me hd o v : Int) : Nat → Int → Pm kY
 | 0, _ => .pure ⟨0, false, 0, 0, []⟩
 | k + 1, n => (jT0 l me hd o).bind fun f => if f.there then (if n = 0 then jI9 l me ⟨0, false, 0, f.point, []⟩ else (giveM l n).bind fun _ => jI9 l me ⟨0, false, 0, f.point, []⟩)
  else if n = 0 then (takeM l).bind fun t => if t.2.2 then (yY (jQ l t.1 1) o).bind fun _ => (yY (jQ l t.1 2) v).bind fun _ => (putB l f t.1).bind fun r => match r with
    | some a => jI9 l me ⟨0, true, 0, a, []⟩
    | none => putL l me hd o v k t.1
   else jI9 l me ⟨0, false, 8, t.2.1, []⟩
  else (putB l f n).bind fun r => match r with
   | some a => jI9 l me ⟨0, true, 0, a, []⟩
   | none => putL l me hd o v k n
def putM (l : jN) (me hd o v : Int) : Pm kY := fun log s => putL l me hd o v (log.length + 1 - s.made) 0 log s
def delL (l : jN) (me hd o : Int) : Nat → Pm kY
 | 0 => .pure ⟨0, false, 0, 0, []⟩
 | k + 1 => (jT0 l me hd o).bind fun f => if f.there then (casM (jQ l f.cur 0) f.next (wP (ofW f.next).idx)).bind fun ok => if ok then lastM.bind fun a => (casM f.prev (qG f.cur) (qG (ofW f.next).idx)).bind fun ok => if ok then (jH0 l me).bind fun _ => (wT l f.cur).bind fun _ => .pure ⟨0, true, 0, a, []⟩ else (jT0 l me hd o).bind fun _ => jI9 l me ⟨0, true, 0, a, []⟩
   else delL l me hd o k
  else jI9 l me ⟨0, false, 0, f.point, []⟩
def delM (l : jN) (me hd o : Int) : Pm kY := fun log s => delL l me hd o (log.length + 1 - s.made) log s
def qZ (l : jN) (me : Int) (gone : List (Int × Int)) (op : OpT) (log : List jS) : AccT × kY × Bool :=
 if op.obj < 0 ∨ l.size ≤ op.obj then (xZ, ⟨0, false, 1, -1, gone⟩, true)
 else if op.kind = 1 then finM (getM l me op.obj op.a log ⟨0, gone, 0, 0, 0⟩)
 else if op.kind = 2 then finM (putM l me op.obj op.a op.b log ⟨0, gone, 0, 0, 0⟩)
 else if op.kind = 3 then finM (delM l me op.obj op.a log ⟨0, gone, 0, 0, 0⟩)
 else (xZ, ⟨0, false, 1, -1, gone⟩, true)
/-! ### What lays and reads -/
def jH3 (l : jN) (a : Nat) (k : Nat) : List AccT := (List.range k).map fun (i : Nat) => ⟨2, jQ l ((a : Int) + i) 7, 0, if (a : Int) + i = l.nodes then 0 else (a : Int) + i + 1⟩
def jF3 (l : jN) (a : Nat) : List AccT := jH3 l a (l.nodes.toNat + 1 - a) ++ [⟨2, l.free, 0, a⟩]
def beginA (l : jN) : List AccT := jF3 l 1 ++ [⟨2, l.era, 0, 1⟩]
def beginF (l : jN) : List Int := (allG (List.replicate l.size.toNat 0) (List.replicate l.size.toNat 0) [] (beginA l)).1
def jG6 (l : jN) (m : List Int) (h : Int) : List Int := xJ (fun n => (ofW (atF m (jQ l n 0))).idx) l.nodes (l.nodes.toNat + 1) [] (ofW (atF m h)).idx
def rowF (l : jN) (m : List Int) (h : Int) : List (Int × Int) := ((jG6 l m h).filter fun n => !(ofW (atF m (jQ l n 0))).mark).map fun n => (atF m (jQ l n 1), atF m (jQ l n 2))
/-! ### Plays -/
structure PlayT where
 nodes : Int
 want : List (List OpT)
 turns : List Int
def layP (p : PlayT) : jN := layF p.want.length (2 + p.nodes % 8) 1 0 0
structure SeatT where
 at_ : Nat
 log : List jS
 gone : List (Int × Int)
structure StepT where
 who : Int
 at_ : Int
 op : OpT
 gone : List (Int × Int)
 acc : AccT
 res : jS
 done : Bool
 out : kY
structure PSt where
 m : List Int
 seats : List SeatT
 out : List StepT
def start (p : PlayT) : PSt := ⟨beginF (layP p), List.replicate p.want.length ⟨0, [], []⟩, []⟩
structure PlayedT where
 steps : List StepT
 m : List Int
 gone : List (List (Int × Int))
 ends : Bool
structure PlayOk (p : PlayT) : Prop where
 w1 : 1 ≤ p.want.length
 w3 : p.want.length ≤ 3
 t : p.turns.length ≤ 200
 n0 : 0 ≤ p.nodes
 u : ∀ x ∈ p.turns, 0 ≤ x ∧ x ≤ 255
 l : ∀ w ∈ p.want, w.length ≤ 4
inductive Fk where
 | get | put (v n : Int) | del | fin (a : Int)
inductive Lk where
 | ga (o : Int) (f : Fk)
 | gb (o : Int) (f : Fk) (a b pn cur : Int)
 | ls (o : Int) (f : Fk) (a b pn cur w t : Int)
 | lo (o : Int) (f : Fk) (a b pn cur w t k : Int)
 | cu (o : Int) (f : Fk) (a b pn cur w : Int)
 | rr (o : Int) (f : Fk) (a b pn nx pt : Int)
 | gv (o cur pt : Int)
 | tk (o v pn cur : Int)
 | p1 (o v n pn cur : Int) | p2 (o v n pn cur : Int) | p0 (o v n pn cur : Int) | cp (o v n pn cur : Int)
 | sv (a : Int)
 | cm (o pn cur w : Int) | cd (o pn cur nx at_ : Int)
 | rx (n a : Int) | ry (a : Int)
 | fi (o : kY)
def okO (a : Int) : kY := ⟨0, true, 0, a, []⟩
def noO (a : Int) : kY := ⟨0, false, 0, a, []⟩
section
variable (hd : Ad)
def uR (pn : Int) : Ad := if pn = 0 then hd else .nd pn 0
def lstAsk : Lk → Ak
 | .ls _ _ _ _ pn _ _ _ => .ld (uR hd pn)
 | .lo _ _ _ _ _ cur _ _ _ => .ld (.nd cur 1)
 | .cu _ _ _ _ pn cur w => .cs (uR hd pn) (qG cur) (qG (ofW w).idx)
 | .gv _ cur _ => .ld (.nd cur 2)
 | .p1 o _ n _ _ => .st (.nd n 1) o
 | .p2 _ v n _ _ => .st (.nd n 2) v
 | .p0 _ _ n _ cur => .st (.nd n 0) (qG cur)
 | .cp _ _ n pn cur => .cs (uR hd pn) (qG cur) (qG n)
 | .cm _ _ cur w => .cs (.nd cur 0) w (wP (ofW w).idx)
 | .cd _ pn cur nx _ => .cs (uR hd pn) (qG cur) (qG nx)
 | _ => .ld (hd)
def exN (o : Int) (f : Fk) (pn cur pt : Int) : Pc Lk := match f with
 | .get => .clr (.fi (noO pt))
 | .put v n => if n = 0 then .t1 (.tk o v pn cur) else .at_ (.p0 o v n pn cur)
 | .del => .clr (.fi (noO pt))
 | .fin a => .clr (.fi (okO a))
def exY (o : Int) (f : Fk) (pn cur w pt : Int) : Pc Lk := match f with
 | .get => .at_ (.gv o cur pt)
 | .put _ n => if n = 0 then .clr (.fi (noO pt)) else .v1 (.sv pt) n
 | .del => .at_ (.cm o pn cur w)
 | .fin a => .clr (.fi (okO a))
def goW (o : Int) (f : Fk) (a b pn cur pt : Int) : Pc Lk := if cur = 0 then exN o f pn 0 pt else .g1 (.gb o f a b pn cur) b (.nd cur 0)
def wE (o : Int) (f : Fk) : Pc Lk := .g1 (.ga o f) 0 (hd)
def jJ4 : Lk → Nat → jS → Pc Lk
 | .ls o f a b pn cur w t, made, r => if r.val = qG cur then .at_ (.lo o f a b pn cur w t made) else wE hd o f
 | .lo o f a b pn cur w t k, _, r => if (ofW w).mark then .at_ (.cu o f a b pn cur w) else if r.val < o then goW o f b (3 - a - b) cur (ofW w).idx t else if r.val = o then exY o f pn cur w t else exN o f pn cur k
 | .cu o f a b pn cur w, made, r => if r.ok then .r1 (.rr o f a b pn (ofW w).idx made) cur else wE hd o f
 | .gv _ _ pt, _, r => .clr (.fi ⟨r.val, true, 0, pt, []⟩)
 | .p1 o v n pn cur, _, _ => .at_ (.p2 o v n pn cur)
 | .p2 o v n pn cur, _, _ => .at_ (.p0 o v n pn cur)
 | .p0 o v n pn cur, _, _ => .at_ (.cp o v n pn cur)
 | .cp o v n _ _, made, r => if r.ok then .clr (.fi (okO made)) else wE hd o (.put v n)
 | .cm o pn cur w, made, r => if r.ok then .at_ (.cd o pn cur (ofW w).idx made) else wE hd o .del
 | .cd o _ cur _ at_, _, r => if r.ok then .clr (.rx cur at_) else wE hd o (.fin at_)
 | k, _, _ => .at_ k
def kE : Mach Lk where
 ask := lstAsk hd
 tell := jJ4 hd
 took := fun k n _ => match k with
  | .tk o v pn cur => .at_ (.p1 o v n pn cur)
  | k => .v1 k n
 full := fun k a => match k with
  | .tk _ _ _ _ => .clr (.fi ⟨0, false, 8, a, []⟩)
  | k => .at_ k
 guarded := fun k v t => match k with
  | .ga o f => goW o f 0 1 0 (ofW v).idx t
  | .gb o f a b pn cur => .at_ (.ls o f a b pn cur v t)
  | k => .at_ k
 cleared := fun k => match k with
  | .fi o => .fin o
  | .rx n a => .r1 (.ry a) n
  | k => .at_ k
 gave := fun k => match k with
  | .sv a => .clr (.fi (noO a))
  | k => .at_ k
 retired := fun k => match k with
  | .rr o f a b pn nx pt => goW o f b a pn nx pt
  | .ry a => .fin (okO a)
  | k => .at_ k
end
section
variable {hd : Ad} {l : jN} {S : Nat} {me : Int} {log : List jS}
theorem up_made (s : PsT) : s.up.made = s.made + 1 := rfl
theorem kF5 (s : PsT) : ((s.up.made : Nat) : Int) - 1 = (s.made : Int) := by rw [up_made]; omega
theorem kJ8 (pn : Int) : (uR hd pn).cell l = if pn = 0 then hd.cell l else jQ l pn 0 := by unfold uR; split <;> rfl
theorem jO6 {o : kY} {s : PsT} (hs : s.made ≤ log.length) : qT (kE hd) l S me (qS (kE hd) (.clr (.fi o)) s) (jI9 l me o log s) (log.drop s.made) :=
 clear_sim (M0 := s.made) (f := fun _ => .pure o) (fun s _ _ _ _ _ => does_fin) s (Nat.le_refl _) hs
theorem jM2 (hS : l.seats = (S : Int)) {o : Int} {f : Fk} {g : vA → Pm kY} {M0 : Nat}
  (hN : ∀ (pn cur pt : Int) (s : PsT), M0 ≤ s.made → s.made ≤ log.length → qT (kE hd) l S me (qS (kE hd) (exN o f pn cur pt) s) (g ⟨false, (uR hd pn).cell l, cur, 0, pt⟩ log s) (log.drop s.made))
  (hY : ∀ (pn cur w pt : Int) (s : PsT), M0 ≤ s.made → s.made ≤ log.length → qT (kE hd) l S me (qS (kE hd) (exY o f pn cur w pt) s) (g ⟨true, (uR hd pn).cell l, cur, w, pt⟩ log s) (log.drop s.made)) :
  ∀ (k : Nat) (s : PsT), M0 ≤ s.made → s.made ≤ log.length →
   (2 * (log.length - s.made) + 2 ≤ k → qT (kE hd) l S me (qS (kE hd) (wE hd o f) s) ((jI0 l me (hd.cell l) o k none).bind g log s) (log.drop s.made)) ∧
   (∀ a b pn cur pt, 2 * (log.length - s.made) + 1 ≤ k → qT (kE hd) l S me (qS (kE hd) (goW o f a b pn cur pt) s) ((jI0 l me (hd.cell l) o k (some ⟨a, b, (uR hd pn).cell l, cur, pt⟩)).bind g log s) (log.drop s.made))
 | 0, s, _, _ => ⟨fun h => by omega, fun a b pn cur pt h => by omega⟩
 | k + 1, s, hM, hs => by
  refine ⟨fun hk => ?_, fun a b pn cur pt hk => ?_⟩
  ·rw [jI0, jR]
   refine kB6 (M0 := s.made) (k := Lk.ga o f) (i := 0) (c := hd) (fun v t s' hM' hs' => ?_) (log.length + 1 - s.made) s (Nat.le_refl _) (by omega)
   have := (jM2 hS hN hY k s' (by omega) hs').2 0 1 0 (ofW v).idx t (by omega)
   rw [show (uR hd 0).cell l = hd.cell l from by rw [kJ8, if_pos rfl]] at this
   exact this
  ·rw [jI0]
   unfold goW
   by_cases h0 : cur = 0
   ·subst h0
    simp only [if_true]
    exact hN pn 0 pt s hM hs
   ·simp only [h0, if_false]
    rw [jR]
    refine kB6 (M0 := s.made) (k := Lk.gb o f a b pn cur) (i := b) (c := .nd cur 0) (fun w t s1 hM1 hs1 => ?_) (log.length + 1 - s.made) s (Nat.le_refl _) (by omega)
    show qT (kE hd) l S me ⟨.at_ (.ls o f a b pn cur w t), s1⟩ _ _
    rw [jR, xW]
    refine kO (q := ⟨.at_ (Lk.ls o f a b pn cur w t), s1⟩) (s := s1) rfl trivial fun r1 h1 => ?_
    rw [jR, jH yA, kF5]
    show qT (kE hd) l S me (qS (kE hd) (if r1.val = qG cur then .at_ (.lo o f a b pn cur w t s1.made) else wE hd o f) s1.up) _ _
    by_cases hv : r1.val = qG cur
    ·rw [if_pos hv, if_pos hv, jR, xW]
     refine kO (q := ⟨.at_ (Lk.lo o f a b pn cur w t s1.made), s1.up⟩) (s := s1.up) rfl trivial fun r2 h2 => ?_
     have h2' : s1.made + 1 < log.length := h2
     have m2 : s1.up.up.made = s1.made + 2 := rfl
     have h2l : s1.up.up.made ≤ log.length := by omega
     show qT (kE hd) l S me (qS (kE hd) (if (ofW w).mark then .at_ (.cu o f a b pn cur w) else if r2.val < o then goW o f b (3 - a - b) cur (ofW w).idx t else if r2.val = o then exY o f pn cur w t else exN o f pn cur s1.made) s1.up.up) _ _
     by_cases hm : (ofW w).mark = true
     ·rw [if_pos hm, if_pos hm, jR, jU1]
      refine kO (q := ⟨.at_ (Lk.cu o f a b pn cur w), s1.up.up⟩) (s := s1.up.up) rfl trivial fun r3 h3 => ?_
      have h3' : s1.made + 2 < log.length := h3
      have m3 : s1.up.up.up.made = s1.made + 3 := rfl
      show qT (kE hd) l S me (qS (kE hd) (if r3.ok then .r1 (.rr o f a b pn (ofW w).idx s1.up.up.made) cur else wE hd o f) s1.up.up.up) _ _
      by_cases hk3 : r3.ok = true
      ·rw [if_pos hk3, if_pos hk3, jR, jH yA, kF5, jR]
       show qT (kE hd) l S me ⟨.r1 (.rr o f a b pn (ofW w).idx s1.up.up.made) cur, s1.up.up.up⟩ _ _
       refine kJ6 hS (M0 := s1.up.up.up.made) (fun s2 hM2 hs2 => ?_) s1.up.up.up (Nat.le_refl _)
       exact (jM2 hS hN hY k s2 (by omega) hs2).2 b a pn (ofW w).idx s1.up.up.made (by omega)
      ·rw [if_neg hk3, if_neg hk3]
       exact (jM2 hS hN hY k s1.up.up.up (by omega) (by omega)).1 (by omega)
     ·rw [if_neg hm, if_neg hm]
      by_cases hlt : r2.val < o
      ·rw [if_pos hlt, if_pos hlt]
       have := (jM2 hS hN hY k s1.up.up (by omega) h2l).2 b (3 - a - b) cur (ofW w).idx t (by omega)
       rw [show (uR hd cur).cell l = jQ l cur 0 from by rw [kJ8, if_neg h0]] at this
       exact this
      ·rw [if_neg hlt, if_neg hlt]
       by_cases he : r2.val = o
       ·rw [if_pos he, if_pos he]
        exact hY pn cur w t s1.up.up (by omega) h2l
       ·rw [if_neg he, if_neg he]
        exact hN pn cur s1.made s1.up.up (by omega) h2l
    ·rw [if_neg hv, if_neg hv]
     have m1 : s1.up.made = s1.made + 1 := rfl
     exact (jM2 hS hN hY k s1.up (by omega) (by omega)).1 (by omega)
theorem jS5 (hS : l.seats = (S : Int)) {o : Int} {f : Fk} {g : vA → Pm kY} {M0 : Nat}
  (hN : ∀ (pn cur pt : Int) (s : PsT), M0 ≤ s.made → s.made ≤ log.length → qT (kE hd) l S me (qS (kE hd) (exN o f pn cur pt) s) (g ⟨false, (uR hd pn).cell l, cur, 0, pt⟩ log s) (log.drop s.made))
  (hY : ∀ (pn cur w pt : Int) (s : PsT), M0 ≤ s.made → s.made ≤ log.length → qT (kE hd) l S me (qS (kE hd) (exY o f pn cur w pt) s) (g ⟨true, (uR hd pn).cell l, cur, w, pt⟩ log s) (log.drop s.made))
  (s : PsT) (hM : M0 ≤ s.made) (hs : s.made ≤ log.length) : qT (kE hd) l S me (qS (kE hd) (wE hd o f) s) ((jT0 l me (hd.cell l) o).bind g log s) (log.drop s.made) :=
 (jM2 hS hN hY _ s hM hs).1 (Nat.le_refl _)
theorem get_sim (hS : l.seats = (S : Int)) {o : Int} (s : PsT) (hs : s.made ≤ log.length) : qT (kE hd) l S me (qS (kE hd) (wE hd o .get) s) (getM l me (hd.cell l) o log s) (log.drop s.made) := by
 unfold getM
 refine jS5 hS (M0 := s.made) (fun pn cur pt s1 _ hs1 => ?_) (fun pn cur w pt s1 _ hs1 => ?_) s (Nat.le_refl _) hs
 ·simp only [Bool.false_eq_true, if_false]
  exact jO6 hs1
 ·simp only [if_true]
  rw [xW]
  refine kO (q := ⟨.at_ (Lk.gv o cur pt), s1⟩) (s := s1) rfl trivial fun r1 h1 => ?_
  exact jO6 (by simp only [PsT.up]; omega)
theorem putB_sim {o v n pn cur : Int} {M0 : Nat} {c pt nx : Int} {th : Bool} {g : Option Int → Pm kY} (hc : c = (uR hd pn).cell l)
  (h1 : ∀ (a : Nat) (s : PsT), s.made ≤ log.length → qT (kE hd) l S me (qS (kE hd) (.clr (.fi (okO a))) s) (g (some (a : Int)) log s) (log.drop s.made))
  (h2 : ∀ s : PsT, M0 < s.made → s.made ≤ log.length → qT (kE hd) l S me (qS (kE hd) (wE hd o (.put v n)) s) (g none log s) (log.drop s.made))
  (s : PsT) (hM : M0 ≤ s.made) : qT (kE hd) l S me ⟨.at_ (.p0 o v n pn cur), s⟩ ((putB l ⟨th, c, cur, nx, pt⟩ n).bind g log s) (log.drop s.made) := by
 subst hc
 rw [putB, jR, wN]
 refine kO (q := ⟨.at_ (Lk.p0 o v n pn cur), s⟩) (s := s) rfl trivial fun r1 h3 => ?_
 rw [jR, jU1]
 refine kO (q := ⟨.at_ (Lk.cp o v n pn cur), s.up⟩) (s := s.up) rfl trivial fun r2 h4 => ?_
 have h4' : s.made + 1 < log.length := h4
 have m2 : s.up.up.made = s.made + 2 := rfl
 show qT (kE hd) l S me (qS (kE hd) (if r2.ok then .clr (.fi (okO s.up.made)) else wE hd o (.put v n)) s.up.up) _ _
 by_cases hk : r2.ok = true
 ·rw [if_pos hk, if_pos hk, jR, jH yA, kF5]
  exact h1 s.up.made s.up.up (by omega)
 ·rw [if_neg hk, if_neg hk]
  exact h2 s.up.up (by omega) (by omega)
theorem put_sim (hS : l.seats = (S : Int)) {o v : Int} : ∀ (k : Nat) (n : Int) (s : PsT), s.made ≤ log.length → log.length - s.made < k → qT (kE hd) l S me (qS (kE hd) (wE hd o (.put v n)) s) (putL l me (hd.cell l) o v k n log s) (log.drop s.made)
 | 0, n, s, _, h => by omega
 | k + 1, n, s, hs, h => by
  rw [putL]
  have hB : ∀ (n pn cur pt : Int) (s1 : PsT), s.made ≤ s1.made → qT (kE hd) l S me ⟨.at_ (.p0 o v n pn cur), s1⟩ ((putB l ⟨false, (uR hd pn).cell l, cur, 0, pt⟩ n).bind (fun r => match r with
    | some a => jI9 l me ⟨0, true, 0, a, []⟩
    | none => putL l me (hd.cell l) o v k n) log s1) (log.drop s1.made) := fun n pn cur pt s1 hM1 =>
   putB_sim (M0 := s1.made) rfl (fun a s2 hs2 => jO6 hs2) (fun s2 hM2 hs2 => put_sim hS k n s2 hs2 (by omega)) s1 (Nat.le_refl _)
  refine jS5 hS (M0 := s.made) (fun pn cur pt s1 hM1 hs1 => ?_) (fun pn cur w pt s1 hM1 hs1 => ?_) s (Nat.le_refl _) hs
  ·simp only [Bool.false_eq_true, if_false]
   unfold exN
   by_cases hn : n = 0
   ·simp only [hn, if_true]
    refine take_sim (M0 := s1.made) (k := Lk.tk o v pn cur) (fun t a s2 hM2 hs2 => ?_) (fun a s2 hM2 hs2 => ?_) (log.length + 1 - s1.made) s1 (Nat.le_refl _) (by omega)
    ·simp only [if_true]
     show qT (kE hd) l S me ⟨.at_ (.p1 o v t pn cur), s2⟩ _ _
     rw [wN]
     refine kO (q := ⟨.at_ (Lk.p1 o v t pn cur), s2⟩) (s := s2) rfl trivial fun r1 h3 => ?_
     rw [wN]
     refine kO (q := ⟨.at_ (Lk.p2 o v t pn cur), s2.up⟩) (s := s2.up) rfl trivial fun r2 h4 => ?_
     exact hB t pn cur pt s2.up.up (by simp only [PsT.up]; omega)
    ·simp only [Bool.false_eq_true, if_false]
     exact jO6 hs2
   ·simp only [hn, if_false]
    exact hB n pn cur pt s1 hM1
  ·simp only [if_true]
   unfold exY
   by_cases hn : n = 0
   ·simp only [hn, if_true]
    exact jO6 hs1
   ·simp only [hn, if_false]
    refine give_sim (k := Lk.sv pt) (n := n) (M0 := s1.made) (fun s2 _ hs2 => ?_) (log.length + 1 - s1.made) s1 (Nat.le_refl _) (by omega)
    exact jO6 hs2
theorem del_sim (hS : l.seats = (S : Int)) {o : Int} : ∀ (k : Nat) (s : PsT), s.made ≤ log.length → log.length - s.made < k → qT (kE hd) l S me (qS (kE hd) (wE hd o .del) s) (delL l me (hd.cell l) o k log s) (log.drop s.made)
 | 0, s, _, h => by omega
 | k + 1, s, hs, h => by
  rw [delL]
  refine jS5 hS (M0 := s.made) (fun pn cur pt s1 hM1 hs1 => ?_) (fun pn cur w pt s1 hM1 hs1 => ?_) s (Nat.le_refl _) hs
  ·simp only [Bool.false_eq_true, if_false]
   exact jO6 hs1
  ·simp only [if_true]
   unfold exY
   simp only
   rw [jU1]
   refine kO (q := ⟨.at_ (Lk.cm o pn cur w), s1⟩) (s := s1) rfl trivial fun r1 h3 => ?_
   have m1 : s1.up.made = s1.made + 1 := rfl
   show qT (kE hd) l S me (qS (kE hd) (if r1.ok then .at_ (.cd o pn cur (ofW w).idx s1.made) else wE hd o .del) s1.up) _ _
   by_cases hk : r1.ok = true
   ·rw [if_pos hk, if_pos hk, jH yA, kF5, jU1]
    refine kO (q := ⟨.at_ (Lk.cd o pn cur (ofW w).idx s1.made), s1.up⟩) (s := s1.up) rfl trivial fun r2 h4 => ?_
    have h4' : s1.made + 1 < log.length := h4
    have m2 : s1.up.up.made = s1.made + 2 := rfl
    show qT (kE hd) l S me (qS (kE hd) (if r2.ok then .clr (.rx cur s1.made) else wE hd o (.fin s1.made)) s1.up.up) _ _
    by_cases hk2 : r2.ok = true
    ·rw [if_pos hk2, if_pos hk2]
     refine clear_sim (M0 := s1.up.up.made) (fun s2 _ _ _ hM2 hs2 => ?_) s1.up.up (Nat.le_refl _) (by omega)
     show qT (kE hd) l S me ⟨.r1 (.ry s1.made) cur, s2⟩ _ _
     refine kJ6 hS (M0 := s2.made) (fun s3 hM3 hs3 => ?_) s2 (Nat.le_refl _)
     exact does_fin
    ·rw [if_neg hk2, if_neg hk2]
     refine jS5 hS (M0 := s1.up.up.made) (fun pn' cur' pt' s3 hM3 hs3 => ?_) (fun pn' cur' w' pt' s3 hM3 hs3 => ?_) s1.up.up (Nat.le_refl _) (by omega)
     ·exact jO6 hs3
     ·exact jO6 hs3
   ·rw [if_neg hk, if_neg hk]
    exact del_sim hS k s1.up (by omega) (by omega)
end
def fkOf (op : OpT) : Fk := if op.kind = 1 then .get else if op.kind = 2 then .put op.b 0 else .del
def jC7 (hd : Ad) (op : OpT) (gone : List (Int × Int)) : Q Lk := ⟨wE hd op.a (fkOf op), ⟨0, gone, 0, 0, 0⟩⟩
theorem jX7 {l : jN} {S : Nat} {me : Int} (hS : l.seats = (S : Int)) {gone : List (Int × Int)} {op : OpT} {log : List jS} {h : Ad} (ho : h.cell l = op.obj) (hh : ¬ (op.obj < 0 ∨ l.size ≤ op.obj)) (hk : op.kind = 1 ∨ op.kind = 2 ∨ op.kind = 3) :
  qZ l me gone op log = endQ (kE h) l me (jK2 (kE h) S (jC7 h op gone) log) := by
 unfold qZ
 rw [if_neg hh]
 unfold jC7 fkOf
 rw [← ho]
 rcases hk with hk | hk | hk
 ·rw [if_pos hk, if_pos hk]
  exact get_sim hS ⟨0, gone, 0, 0, 0⟩ (Nat.zero_le _)
 ·rw [if_neg (by omega), if_pos hk, if_neg (by omega), if_pos hk]
  exact put_sim hS (log.length + 1) 0 ⟨0, gone, 0, 0, 0⟩ (Nat.zero_le _) (by simp)
 ·rw [if_neg (by omega), if_neg (by omega), if_pos hk, if_neg (by omega), if_neg (by omega)]
  exact del_sim hS (log.length + 1) ⟨0, gone, 0, 0, 0⟩ (Nat.zero_le _) (by simp)
/-! ### Layout and words -/
def xB (l : jN) (m i : Int) : Int := if 1 < i then -1 else yD l.map l.maps (2 + l.buckets) m i
def qR (l : jN) (m b : Int) : Int := if b < 0 ∨ l.buckets ≤ b then -1 else yD l.map l.maps (2 + l.buckets) m (2 + b)
def wJ (k : Int) : Int := ((List.range 16).map fun (i : Nat) => k / 2 ^ i % 2 * 2 ^ (15 - i)).sum
def uF (k : Int) : Int := 2 * wJ k + 1
def kC2 (b : Int) : Int := 2 * wJ b
def keyW (n : Int) : Int := wJ (n % 131072 / 2)
def yI (b : Int) : Int := if b < 1 then 0 else b - 2 ^ (Nat.log2 b.toNat)
def jT6 (n : Int) : Bool := decide (n = 2 ^ (Nat.log2 n.toNat))
/-! ### Programs -/
def qX (l : jN) (me : Int) (gone : List (Int × Int)) (kind dummy order v : Int) (lg : List jS) : AccT × kY × Bool :=
 let hd := jQ l dummy 0
 let ob := if hd < 0 then l.done else hd
 let r := qZ l me gone ⟨kind, ob, order, v⟩ lg
 if r.2.2 = false ∧ hd < 0 ∧ r.1.cell = ob then ({ r.1 with cell := hd }, r.2) else r
def xH (f : Nat → Bool) : Nat → Nat → Nat
 | 0, k => k
 | n + 1, k => if f k then k else xH f n (k + 1)
def jC2 (l : jN) (me kind dummy order v : Int) : Pm (kY × AccT) := fun log s =>
 let lg := log.drop s.made
 let r := qX l me s.gone kind dummy order v lg
 if r.2.2 = false then .error r.1
 else if r.2.1.point < 0 then .ok ((r.2.1, xZ), s)
 else
  let f := fun k => (qX l me s.gone kind dummy order v (lg.take k)).2.2
  let k := xH f (lg.length - (r.2.1.point.toNat + 1)) (r.2.1.point.toNat + 1)
  .ok (({ r.2.1 with point := r.2.1.point + s.made }, (qX l me s.gone kind dummy order v (lg.take r.2.1.point.toNat)).1), { s with made := s.made + k, gone := r.2.1.gone })
def kD1 (o : kY × AccT) : Pm Int := fun log s => .ok (if o.1.is then (ofW o.2.new).idx else (ofW ((log.getD (o.1.point.toNat + 2) ⟨0, false⟩).val)).idx, s)
def vQ (l : jN) (me m : Int) : Nat → Int → Pm (Int × kY)
 | 0, _ => .pure (0, jG7)
 | k + 1, b => (doM ⟨1, qR l m b, 0, 0⟩).bind fun r => if (ofW r.val).idx ≠ 0 then .pure ((ofW r.val).idx, jG7)
  else if b = 0 then .pure (0, ⟨0, false, 1, -1, []⟩)
  else (vQ l me m k (yI b)).bind fun a => if a.2.err ≠ 0 then .pure (0, a.2)
  else (jC2 l me 2 a.1 (kC2 b) 0).bind fun o => if o.1.err ≠ 0 then .pure (0, o.1)
  else (kD1 o).bind fun n => (doM ⟨3, qR l m b, 0, vK ⟨n, false, 0⟩⟩).bind fun _ => .pure (n, jG7)
def jB5 (l : jN) (m kind size : Int) : Pm Unit := if kind = 2 then (doM ⟨4, xB l m 1, 0, 1⟩).bind fun r => if 2 * size ≤ r.val ∧ size < l.buckets then (doM ⟨3, xB l m 0, size, 2 * size⟩).bind fun _ => .pure () else .pure ()
 else if kind = 3 then (doM ⟨4, xB l m 1, 0, -1⟩).bind fun _ => .pure () else .pure ()
def vO (l : jN) (me : Int) (op : OpT) : Pm kY := (doM ⟨1, xB l op.obj 0, 0, 0⟩).bind fun r => if r.val < 1 ∨ l.buckets < r.val ∨ jT6 r.val = false then .pure ⟨0, false, 1, -1, []⟩
 else (vQ l me op.obj 64 (op.a % r.val)).bind fun d => if d.2.err ≠ 0 then .pure d.2
 else (jC2 l me op.kind d.1 (uF op.a) op.b).bind fun o => if o.1.is then (jB5 l op.obj op.kind r.val).bind fun _ => .pure o.1 else .pure o.1
def wA (l : jN) (me : Int) (gone : List (Int × Int)) (op : OpT) (log : List jS) : AccT × kY × Bool :=
 if op.kind < 1 ∨ 3 < op.kind ∨ xB l op.obj 0 < 0 ∨ op.a < 0 ∨ 65536 ≤ op.a then (xZ, ⟨0, false, 1, -1, gone⟩, true)
 else finM (vO l me op log ⟨0, gone, 0, 0, 0⟩)
/-! ### What lays and reads -/
def kT (s n b : Int) : jN := ⟨s, n, b, 1, 1, 0, 1, 0, 0, 0, 1, 2, 3, 4, 4 + s, 4 + 2 * s, 4 + 5 * s, 4 + 8 * s, 4 + 12 * s, 8 + 12 * s, 8 + 12 * s, 10 + 12 * s + b, 10 + 12 * s + b, 10 + 12 * s + b, 10 + 12 * s + b + 8 * n⟩
def kL (l : jN) (m n : Int) : List AccT := [⟨2, jQ l n 0, 0, 0⟩, ⟨2, jQ l n 1, 0, 0⟩, ⟨2, jQ l n 2, 0, 0⟩, ⟨2, jQ l n 6, 0, 1⟩, ⟨2, xB l m 0, 0, 1⟩, ⟨2, xB l m 1, 0, 0⟩, ⟨2, qR l m 0, 0, vK ⟨n, false, 0⟩⟩]
def jB0 (l : jN) : List AccT := kL l 0 1 ++ jF3 l 2 ++ [⟨2, l.era, 0, 1⟩]
def wV (l : jN) : List Int := (allG (List.replicate l.size.toNat 0) (List.replicate l.size.toNat 0) [] (jB0 l)).1
/-! ### Plays -/
structure HCallT where
 who : Int
 op : OpT
 val : Int
 is : Bool
 first : Int
 last : Int
 point : Int
structure kR where
 op : OpT
 log : List jS
 steps : List Int
 next : Nat
 gone : List (Int × Int)
structure HTabT where
 m : List Int
 step : Int
 seats : List kR
 calls : List HCallT
 full : Int
 wild : Bool
 bad : Bool
def jI8 : OpT := ⟨0, 0, 0, 0⟩
def jD3 : kR := ⟨jI8, [], [], 0, []⟩
def vZ (l : jN) (seats : Nat) : HTabT := ⟨wV l, 0, List.replicate seats jD3, [], 0, false, false⟩
def jK3 (l : jN) (m : List Int) (a : AccT) : Bool := if a.cell < l.node ∨ l.size ≤ a.cell ∨ (a.cell - l.node) % 8 = 7 then false else (jX4 l m).any fun x => decide (x = (a.cell - l.node) / 8 + 1)
def jE7 (t : HTabT) (who : Nat) (x : kR) (out : kY) : HTabT :=
 let t' : HTabT := { t with seats := t.seats.set who { x with op := jI8, gone := out.gone } }
 if out.err = 8 then { t' with full := t.full + 1 }
 else if out.err ≠ 0 ∨ x.steps.length = 0 then { t' with bad := true }
 else { t' with calls := t.calls ++ [⟨who, x.op, out.val, out.is, x.steps.getD 0 0, x.steps.getD (x.steps.length - 1) 0, if 0 ≤ out.point ∧ out.point < x.steps.length then x.steps.getD out.point.toNat 0 else -1⟩] }
def uL (l : jN) (t : HTabT) (who : Nat) (x : kR) : HTabT :=
 let r := wA l who x.gone x.op x.log
 if r.2.2 then jE7 t who x r.2.1
 else if uO t.m.length r.1 = 0 then ⟨(vL t.m r.1).1, t.step + 1, t.seats.set who { x with log := x.log ++ [(vL t.m r.1).2], steps := x.steps ++ [t.step] }, t.calls, t.full, t.wild || jK3 l t.m r.1, t.bad⟩
 else { t with seats := t.seats.set who { x with op := jI8 }, wild := t.wild || jK3 l t.m r.1, bad := true }
def vI (l : jN) (want : List (List OpT)) (t : HTabT) (who : Nat) : HTabT :=
 match t.seats[who]?, want[who]? with
 | some x, some ws => if x.op.kind = 0 then match ws[x.next]? with
   | none => t
   | some op => uL l t who ⟨op, [], [], x.next + 1, x.gone⟩
  else uL l t who x
 | _, _ => t
def jJ7 (l : jN) (want : List (List OpT)) : HTabT → List Nat → HTabT
 | t, [] => t
 | t, w :: ws => jJ7 l want (vI l want t w) ws
def qM (l : jN) (want : List (List OpT)) (who : Nat) : Nat → HTabT → HTabT
 | 0, t => t
 | k + 1, t => if t.bad then t else qM l want who k (vI l want t who)
def kD4 (t : HTabT) (want : List (List OpT)) (who : Nat) : Bool := match t.seats[who]?, want[who]? with
 | some x, some ws => decide (x.op.kind = 0) && decide (ws.length ≤ x.next)
 | _, _ => true
def hrestT (l : jN) (want : List (List OpT)) : Nat → Nat → HTabT → HTabT
 | _, 0, t => t
 | who, k + 1, t => let t' := qM l want who 1500 t; hrestT l want (who + 1) k { t' with bad := t'.bad || !kD4 t' want who }
def wI (l : jN) (want : List (List OpT)) (turns : List Int) : HTabT := hrestT l want 0 want.length (jJ7 l want (vZ l want.length) (turns.map fun x => (x % (want.length : Int)).toNat))
theorem kM7 {n : Nat} (h : n ≠ 0) : yI n = ((n - 2 ^ n.log2 : Nat) : Int) ∧ 2 ^ n.log2 ≤ n ∧ n < 2 ^ (n.log2 + 1) := by
 have h1 := Nat.log2_self_le h
 have h2 := (Nat.log2_lt h (k := n.log2 + 1)).1 (Nat.lt_succ_self _)
 refine ⟨?_, h1, h2⟩
 unfold yI
 rw [if_neg (by omega), Int.toNat_natCast]
 have : ((2 ^ n.log2 : Nat) : Int) = 2 ^ n.log2 := by simp
 omega
theorem parent_less {n : Nat} (h : n ≠ 0) : 0 ≤ yI n ∧ yI n < n ∧ yI n < n - yI n := by
 obtain ⟨h1, h2, h3⟩ := kM7 h
 rw [Nat.pow_succ] at h3
 rw [h1]
 omega
theorem parent_bits {n k : Nat} (h : n ≠ 0) (hk : n < 2 ^ (k + 1)) : yI n < 2 ^ k := by
 obtain ⟨h1, h2, h3⟩ := kM7 h
 have hl : n.log2 ≤ k := by
  have := (Nat.log2_lt h (k := k + 1)).2 hk
  omega
 have hp : 2 ^ n.log2 ≤ 2 ^ k := Nat.pow_le_pow_right (by omega) hl
 rw [Nat.pow_succ] at h3
 rw [h1]
 have : ((2 ^ k : Nat) : Int) = 2 ^ k := by simp
 omega
def jT8 : List (List OpT) := [[⟨2, 0, 5, 9⟩, ⟨2, 0, 5, 8⟩, ⟨1, 0, 5, 0⟩, ⟨3, 0, 5, 0⟩]]
section
variable (kd : Int)
def fkOk (m : Nat) : Fk → Prop
 | .put _ _ => kd = 2
 | .fin a => kd ≠ 2 ∧ 0 ≤ a ∧ a < m
 | _ => kd ≠ 2
def finOk (m : Nat) (o : kY) : Prop := 0 ≤ o.point ∧ o.point < m ∧ (kd = 2 → o.is = false → o.err = 0 → o.point + 2 < m)
def ptK (m : Nat) : Lk → Prop
 | .ga _ f => fkOk kd m f
 | .gb _ f _ _ _ _ => fkOk kd m f
 | .ls _ f _ _ _ _ _ t => fkOk kd m f ∧ 0 ≤ t ∧ t + 2 ≤ m
 | .lo _ f _ _ _ _ _ t k => fkOk kd m f ∧ 0 ≤ t ∧ t + 3 ≤ m ∧ 0 ≤ k ∧ k < m
 | .cu _ f _ _ _ _ _ => fkOk kd m f
 | .rr _ f _ _ _ _ pt => fkOk kd m f ∧ 0 ≤ pt ∧ pt < m
 | .gv _ _ pt => kd ≠ 2 ∧ 0 ≤ pt ∧ pt < m
 | .sv a => 0 ≤ a ∧ a + 2 < m
 | .cm _ _ _ _ => kd ≠ 2
 | .cd _ _ _ _ a => kd ≠ 2 ∧ 0 ≤ a ∧ a < m
 | .rx _ a => kd ≠ 2 ∧ 0 ≤ a ∧ a < m
 | .ry a => kd ≠ 2 ∧ 0 ≤ a ∧ a < m
 | .fi o => finOk kd m o
 | _ => kd = 2
def pcK (m : Nat) : Pc Lk → Prop
 | .at_ k => ptK kd m k
 | .t1 k => ptK kd m k
 | .t2 k _ => ptK kd m k
 | .t3 k _ _ => ptK kd m k
 | .t4 k _ _ => ptK kd m k
 | .t5 k _ _ _ => ptK kd m k
 | .g1 k _ _ => ptK kd m k
 | .g2 k _ _ _ a => ptK kd m k ∧ 0 ≤ a ∧ a < m
 | .g3 k _ _ _ => ptK kd m k
 | .clr k => ptK kd m k
 | .c k _ => ptK kd m k
 | .v1 k _ => ptK kd m k
 | .v2 k _ _ => ptK kd m k
 | .v3 k _ _ => ptK kd m k
 | .r1 k _ => ptK kd m k
 | .r2 k _ _ => ptK kd m k
 | .rs k _ _ _ => ptK kd m k
 | .s1 k _ _ _ _ => ptK kd m k
 | .w1 k _ _ _ _ => ptK kd m k
 | .w2 k _ _ _ _ _ => ptK kd m k
 | .w3 k _ _ _ _ _ => ptK kd m k
 | .fin o => finOk kd m o
end
section
variable {kd : Int} {m m' : Nat} {h : Ad}
theorem fkOk.mono (hm : m ≤ m') {f : Fk} (hf : fkOk kd m f) : fkOk kd m' f := by
 cases f <;> simp only [fkOk] at hf ⊢ <;> omega
theorem ptK.mono (hm : m ≤ m') {k : Lk} (hk : ptK kd m k) : ptK kd m' k := by
 cases k with
 | ga o f => exact fkOk.mono hm hk
 | gb o f a b pn cur => exact fkOk.mono hm hk
 | ls o f a b pn cur w t => exact ⟨hk.1.mono hm, hk.2.1, by have := hk.2.2; omega⟩
 | lo o f a b pn cur w t k => exact ⟨hk.1.mono hm, hk.2.1, by have := hk.2.2.1; omega, hk.2.2.2.1, by have := hk.2.2.2.2; omega⟩
 | cu o f a b pn cur w => exact fkOk.mono hm hk
 | rr o f a b pn nx pt => exact ⟨hk.1.mono hm, hk.2.1, by have := hk.2.2; omega⟩
 | gv o cur pt => simp only [ptK] at hk ⊢; omega
 | sv a => simp only [ptK] at hk ⊢; omega
 | cm o pn cur w => exact hk
 | cd o pn cur nx a => simp only [ptK] at hk ⊢; omega
 | rx n a => simp only [ptK] at hk ⊢; omega
 | ry a => simp only [ptK] at hk ⊢; omega
 | fi o =>
  obtain ⟨h1, h2, h3⟩ := hk
  exact ⟨h1, by omega, fun a b c => by have := h3 a b c; omega⟩
 | _ => exact hk
theorem pc_exN {o : Int} {f : Fk} {pn cur pt : Int} (hf : fkOk kd m f) (h0 : 0 ≤ pt) (h1 : pt < m) : pcK kd m (exN o f pn cur pt) := by
 cases f with
 | get => exact ⟨h0, h1, fun h => absurd h hf⟩
 | put v n =>
  unfold exN
  simp only
  split
  ·exact hf
  ·exact hf
 | del => exact ⟨h0, h1, fun h => absurd h hf⟩
 | fin a => exact ⟨hf.2.1, hf.2.2, fun h => absurd h hf.1⟩
theorem pc_exY {o : Int} {f : Fk} {pn cur w pt : Int} (hf : fkOk kd m f) (h0 : 0 ≤ pt) (h1 : pt + 2 < m) : pcK kd m (exY o f pn cur w pt) := by
 cases f with
 | get => exact ⟨hf, h0, by omega⟩
 | put v n =>
  unfold exY
  simp only
  split
  ·exact ⟨h0, by show pt < _; omega, fun _ _ _ => h1⟩
  ·exact ⟨h0, h1⟩
 | del => exact hf
 | fin a => exact ⟨hf.2.1, hf.2.2, fun h => absurd h hf.1⟩
theorem pc_goW {o : Int} {f : Fk} {a b pn cur pt : Int} (hf : fkOk kd m f) (h0 : 0 ≤ pt) (h1 : pt < m) : pcK kd m (goW o f a b pn cur pt) := by
 unfold goW
 split
 ·exact pc_exN hf h0 h1
 ·exact hf
theorem pc_clr {k : Lk} {s : PsT} (hk : ptK kd m k) : pcK kd m (jE5 (kE h) k s).pc := by
 unfold jE5
 split
 ·exact hk
 ·split
  ·exact hk
  ·split
   ·exact hk
   ·cases k <;> exact hk
theorem clr_s {k : Lk} {s : PsT} : (jE5 (kE h) k s).s = s := by
 unfold jE5
 split
 ·rfl
 ·split
  ·rfl
  ·split <;> rfl
theorem norm_sP {pc : Pc Lk} {s : PsT} : (qS (kE h) pc s).s = s := by
 cases pc <;> first | exact clr_s | rfl
theorem pc_norm {pc : Pc Lk} {s : PsT} (hp : pcK kd m pc) : pcK kd m (qS (kE h) pc s).pc := by
 cases pc <;> first | exact pc_clr hp | exact hp
theorem sift_s {k : Lk} {held : List Int} {s : PsT} : ∀ (gs stay : List (Int × Int)), (jS6 (kE h) k held s gs stay).s.made = s.made
 | [], _ => by unfold jS6; rw [norm_sP]
 | _ :: _, _ => rfl
theorem pc_ret {k : Lk} (hk : ptK kd m k) : pcK kd m ((kE h).retired k) := by
 cases k with
 | rr o f a b pn nx pt => exact pc_goW hk.1 hk.2.1 hk.2.2
 | ry a => exact ⟨hk.2.1, hk.2.2, fun h => absurd h hk.1⟩
 | _ => exact hk
theorem pc_sift {k : Lk} {held : List Int} {s : PsT} (hk : ptK kd m k) : ∀ (gs stay : List (Int × Int)), pcK kd m (jS6 (kE h) k held s gs stay).pc
 | [], _ => pc_norm (pc_ret hk)
 | _ :: _, _ => hk
theorem pc_scan {k : Lk} {held : List Int} {s : PsT} (hk : ptK kd m k) : ∀ (cs : List Ad), pcK kd m (scanQ (kE h) k held s cs).pc
 | [] => pc_sift hk _ _
 | _ :: _ => hk
theorem scan_s {k : Lk} {held : List Int} {s : PsT} : ∀ (cs : List Ad), (scanQ (kE h) k held s cs).s.made = s.made
 | [] => sift_s _ _
 | _ :: _ => rfl
theorem pc_tell {S : Nat} {q : Q Lk} {r : jS} (hf : q.pc.asking) (hq : pcK kd q.s.made q.pc) : (tell (kE h) S q r).s.made = q.s.made + 1 ∧ pcK kd (q.s.made + 1) (tell (kE h) S q r).pc := by
 obtain ⟨pc, s⟩ := q
 have up : ∀ {k : Lk}, ptK kd s.made k → ptK kd (s.made + 1) k := fun hk => hk.mono (Nat.le_succ _)
 have nm : ∀ (pc : Pc Lk) (s' : PsT), s'.made = s.made + 1 → pcK kd (s.made + 1) pc → (qS (kE h) pc s').s.made = s.made + 1 ∧ pcK kd (s.made + 1) (qS (kE h) pc s').pc := fun pc s' h1 h2 => ⟨by rw [norm_sP]; exact h1, pc_norm h2⟩
 cases pc with
 | at_ k =>
  refine nm _ _ rfl ?_
  show pcK kd _ (jJ4 h k s.made r)
  simp only [pcK] at hq
  cases k with
  | ls o f a b pn cur w t =>
   simp only [jJ4]
   split
   ·exact ⟨hq.1.mono (Nat.le_succ _), hq.2.1, by have := hq.2.2; omega, by omega, by omega⟩
   ·exact hq.1.mono (Nat.le_succ _)
  | lo o f a b pn cur w t k =>
   simp only [jJ4]
   have hf' := hq.1.mono (Nat.le_succ s.made)
   have h1 := hq.2.1
   have h2 := hq.2.2.1
   have h3 := hq.2.2.2.1
   have h4 := hq.2.2.2.2
   split
   ·exact hf'
   ·split
    ·exact pc_goW hf' h1 (by omega)
    ·split
     ·exact pc_exY hf' h1 (by omega)
     ·exact pc_exN hf' h3 (by omega)
  | cu o f a b pn cur w =>
   simp only [jJ4]
   split
   ·exact ⟨fkOk.mono (Nat.le_succ _) hq, by omega, by omega⟩
   ·exact fkOk.mono (Nat.le_succ _) hq
  | gv o cur pt => exact ⟨hq.2.1, by have := hq.2.2; show pt < _; omega, fun h => absurd h hq.1⟩
  | p1 o v n pn cur => exact hq
  | p2 o v n pn cur => exact hq
  | p0 o v n pn cur => exact hq
  | cp o v n pn cur =>
   simp only [jJ4]
   split
   ·exact ⟨by show (0 : Int) ≤ (s.made : Int); omega, by show (s.made : Int) < _; omega, fun _ h => by cases h⟩
   ·exact hq
  | cm o pn cur w =>
   simp only [jJ4]
   split
   ·exact ⟨hq, by omega, by omega⟩
   ·exact hq
  | cd o pn cur nx a =>
   simp only [jJ4]
   split
   ·exact ⟨hq.1, hq.2.1, by have := hq.2.2; omega⟩
   ·exact ⟨hq.1, hq.2.1, by have := hq.2.2; omega⟩
  | ga o f => exact up hq
  | gb o f a b pn cur => exact up hq
  | rr o f a b pn nx pt => exact up hq
  | tk o v pn cur => exact up hq
  | sv a => exact up hq
  | rx n a => exact up hq
  | ry a => exact up hq
  | fi o => exact up hq
 | t1 k =>
  have hq : ptK kd s.made k := hq
  unfold tell
  simp only
  split
  ·refine nm _ _ rfl ?_
   cases k with
   | tk o v pn cur => exact ⟨by show (0 : Int) ≤ (s.made : Int); omega, by show (s.made : Int) < _; omega, fun _ _ h => by cases h⟩
   | _ => exact up hq
  ·exact ⟨rfl, up hq⟩
 | t2 k f =>
  have hq : ptK kd s.made k := hq
  exact ⟨rfl, up hq⟩
 | t3 k f lk =>
  have hq : ptK kd s.made k := hq
  unfold tell
  simp only
  split
  ·exact ⟨rfl, up hq⟩
  ·exact ⟨rfl, up hq⟩
 | t4 k n a =>
  have hq : ptK kd s.made k := hq
  exact ⟨rfl, up hq⟩
 | t5 k n a b =>
  have hq : ptK kd s.made k := hq
  refine nm _ _ rfl ?_
  cases k <;> exact up hq
 | g1 k i c => exact ⟨rfl, up hq, by omega, by omega⟩
 | g2 k i c v a =>
  have h1 := hq.2.1
  have h2 : a < (s.made : Int) := hq.2.2
  unfold tell
  simp only
  split
  ·refine nm _ _ rfl ?_
   have hk := hq.1
   cases k with
   | ga o f => exact pc_goW (fkOk.mono (Nat.le_succ _) hk) h1 (by omega)
   | gb o f a' b pn cur => exact ⟨fkOk.mono (Nat.le_succ _) hk, h1, by omega⟩
   | _ => exact up hk
  ·exact ⟨rfl, up hq.1⟩
 | g3 k i c er =>
  have hq : ptK kd s.made k := hq
  exact ⟨by show (s.up.putE i er).made = _; rw [jD1]; rfl, up hq⟩
 | clr k => exact absurd hf id
 | c k i =>
  have hq : ptK kd s.made k := hq
  exact ⟨by show (jE5 (kE h) k (s.up.putE i 0)).s.made = _; rw [clr_s, jD1]; rfl, pc_clr (up hq)⟩
 | v1 k n =>
  have hq : ptK kd s.made k := hq
  exact ⟨rfl, up hq⟩
 | v2 k n f =>
  have hq : ptK kd s.made k := hq
  exact ⟨rfl, up hq⟩
 | v3 k n f =>
  have hq : ptK kd s.made k := hq
  unfold tell
  simp only
  split
  ·refine nm _ _ rfl ?_
   cases k with
   | sv a => exact ⟨hq.1, by have := hq.2; show a < _; omega, fun _ _ _ => by have := hq.2; show a + 2 < _; omega⟩
   | _ => exact up hq
  ·exact ⟨rfl, up hq⟩
 | r1 k n =>
  have hq : ptK kd s.made k := hq
  exact ⟨rfl, up hq⟩
 | r2 k n er =>
  have hq : ptK kd s.made k := hq
  unfold tell
  simp only
  split
  ·exact nm _ _ rfl (pc_ret (up hq))
  ·exact ⟨by rw [scan_s]; rfl, pc_scan (up hq) _⟩
 | rs k held c cs =>
  have hq : ptK kd s.made k := hq
  exact ⟨by show (scanQ (kE h) k _ s.up cs).s.made = _; rw [scan_s]; rfl, pc_scan (up hq) _⟩
 | s1 k held g gs stay =>
  have hq : ptK kd s.made k := hq
  unfold tell
  simp only
  split
  ·exact ⟨by rw [sift_s]; rfl, pc_sift (up hq) _ _⟩
  ·exact ⟨rfl, up hq⟩
 | w1 k held g gs stay =>
  have hq : ptK kd s.made k := hq
  exact ⟨rfl, up hq⟩
 | w2 k held g gs stay f =>
  have hq : ptK kd s.made k := hq
  exact ⟨rfl, up hq⟩
 | w3 k held g gs stay f =>
  have hq : ptK kd s.made k := hq
  unfold tell
  simp only
  split
  ·exact ⟨by rw [sift_s]; rfl, pc_sift (up hq) _ _⟩
  ·exact ⟨rfl, up hq⟩
 | fin o => exact absurd hf id
def noC : Pc Lk → Prop
 | .clr _ => False
 | _ => True
theorem noC_clr {k : Lk} {s : PsT} : noC (jE5 (kE h) k s).pc := by
 unfold jE5
 split
 ·exact trivial
 ·split
  ·exact trivial
  ·split
   ·exact trivial
   ·cases k <;> exact trivial
theorem kL3 {pc : Pc Lk} {s : PsT} : noC (qS (kE h) pc s).pc := by
 cases pc <;> first | exact noC_clr | exact trivial
theorem noC_sift {k : Lk} {held : List Int} {s : PsT} : ∀ (gs stay : List (Int × Int)), noC (jS6 (kE h) k held s gs stay).pc
 | [], _ => kL3
 | _ :: _, _ => trivial
theorem noC_scan {k : Lk} {held : List Int} {s : PsT} : ∀ (cs : List Ad), noC (scanQ (kE h) k held s cs).pc
 | [] => noC_sift _ _
 | _ :: _ => trivial
theorem noC_tell {S : Nat} {q : Q Lk} {r : jS} (hq : noC q.pc) : noC (tell (kE h) S q r).pc := by
 obtain ⟨pc, s⟩ := q
 cases pc <;> simp only [tell]
 case clr => exact hq
 all_goals first
  | exact kL3
  | exact noC_clr
  | exact noC_scan _
  | exact trivial
  | (split <;> first | exact kL3 | exact noC_scan _ | exact noC_sift _ _ | exact trivial)
theorem tell_finP {S : Nat} {q : Q Lk} {r : jS} {o : kY} (h1 : q.pc = .fin o) : tell (kE h) S q r = q := by
 obtain ⟨pc, s⟩ := q
 subst h1
 rfl
theorem run_pt {S : Nat} : ∀ (log : List jS) (q : Q Lk), pcK kd q.s.made q.pc → noC q.pc → ∃ q', jK2 (kE h) S q log = q' ∧ pcK kd q'.s.made q'.pc ∧ q'.s.made ≤ q.s.made + log.length
 | [], q, h1, _ => ⟨q, rfl, h1, Nat.le_refl _⟩
 | r :: log, q, h1, h2 => by
  show ∃ q', jK2 (kE h) S (tell (kE h) S q r) log = q' ∧ _
  have key : pcK kd (tell (kE h) S q r).s.made (tell (kE h) S q r).pc ∧ (tell (kE h) S q r).s.made ≤ q.s.made + 1 := by
   cases hp : q.pc with
   | fin o => rw [tell_finP hp]; exact ⟨h1, by omega⟩
   | clr k => rw [hp] at h2; exact absurd h2 id
   | _ =>
    have := pc_tell (S := S) (r := r) (h := h) (q := q) (by rw [hp]; exact trivial) h1
    rw [this.1]
    exact ⟨this.2, Nat.le_refl _⟩
  obtain ⟨q', e, h3, h4⟩ := run_pt log _ key.1 (noC_tell h2)
  exact ⟨q', e, h3, by have := key.2; simp only [List.length_cons]; omega⟩
end
theorem kJ9 {l : jN} (hS : 0 ≤ l.seats) {me : Int} {gone : List (Int × Int)} {op : OpT} {log : List jS} (hd : (qZ l me gone op log).2.2 = true) (hp : 0 ≤ (qZ l me gone op log).2.1.point) :
  (qZ l me gone op log).2.1.point < log.length ∧ (op.kind = 2 → (qZ l me gone op log).2.1.is = false → (qZ l me gone op log).2.1.err = 0 → (qZ l me gone op log).2.1.point + 2 < log.length) := by
 by_cases hh : op.obj < 0 ∨ l.size ≤ op.obj
 ·unfold qZ at hp
  rw [if_pos hh] at hp
  exact absurd (show (0 : Int) ≤ -1 from hp) (by omega)
 ·by_cases hk : op.kind = 1 ∨ op.kind = 2 ∨ op.kind = 3
  ·have e := jX7 (l := l) (S := l.seats.toNat) (me := me) (by omega) (gone := gone) (op := op) (log := log) (h := .ob op.obj) rfl hh hk
   obtain ⟨q', e', h1, h2⟩ := run_pt (S := l.seats.toNat) (h := .ob op.obj) (kd := op.kind) log (jC7 (.ob op.obj) op gone) (by
    show fkOk op.kind 0 (fkOf op)
    unfold fkOf
    rcases hk with hk | hk | hk
    ·rw [if_pos hk]; show op.kind ≠ 2; omega
    ·rw [if_neg (by omega), if_pos hk]; exact hk
    ·rw [if_neg (by omega), if_neg (by omega)]; show op.kind ≠ 2; omega) trivial
   rw [e'] at e
   rw [e] at hp hd ⊢
   have h2 : q'.s.made ≤ log.length := by have : (jC7 (.ob op.obj) op gone).s.made = 0 := rfl; omega
   obtain ⟨pc, s⟩ := q'
   cases pc with
   | fin o =>
    obtain ⟨h3, h4, h5⟩ := h1
    exact ⟨by show o.point < _; have : s.made ≤ log.length := h2; omega, fun a b c => by have := h5 a b c; show o.point + 2 < _; have : s.made ≤ log.length := h2; omega⟩
   | _ => cases hd
  ·unfold qZ at hp
   rw [if_neg hh, if_neg (by omega), if_neg (by omega), if_neg (by omega)] at hp
   exact absurd (show (0 : Int) ≤ -1 from hp) (by omega)
def GonN (g : List (Int × Int)) : Prop := ∀ p ∈ g, p.1 < 9223372036854775808
structure Hs (n : Nat) (s s' : PsT) : Prop where
 le : s.made ≤ n → s'.made ≤ n
 ok : GonN s.gone → GonN s'.gone
 made : s.made ≤ s'.made
 len : s'.gone.length + s.made ≤ s.gone.length + s'.made
theorem Hs.refl {n : Nat} (s : PsT) : Hs n s s := ⟨id, id, Nat.le_refl _, Nat.le_refl _⟩
theorem Hs.trans {n : Nat} {a b c : PsT} (h1 : Hs n a b) (h2 : Hs n b c) : Hs n a c := ⟨fun h => h2.le (h1.le h), fun h => h2.ok (h1.ok h), Nat.le_trans h1.made h2.made, by have := h1.len; have := h2.len; have := h1.made; have := h2.made; omega⟩
def Hg {α : Type} (m : Pm α) (P : α → Prop) : Prop := ∀ log s x s', m log s = .ok (x, s') → Hs log.length s s' ∧ P x
section
variable {α β : Type}
theorem yH {x : α} {P : α → Prop} (h : P x) : Hg (Pm.pure x) P := fun log s y s' e => by
 cases e
 exact ⟨Hs.refl _, h⟩
theorem kJ {m : Pm α} {f : α → Pm β} {P : α → Prop} {R : β → Prop} (h1 : Hg m P) (h2 : ∀ x, P x → Hg (f x) R) : Hg (m.bind f) R := fun log s y s' e => by
 unfold Pm.bind at e
 cases h : m log s with
 | error a => rw [h] at e; cases e
 | ok q =>
  obtain ⟨x, s1⟩ := q
  rw [h] at e
  obtain ⟨a1, a2⟩ := h1 log s x s1 h
  obtain ⟨b1, b2⟩ := h2 x a2 log s1 y s' e
  exact ⟨a1.trans b1, b2⟩
theorem hg_mono {m : Pm α} {P R : α → Prop} (h : Hg m P) (hp : ∀ x, P x → R x) : Hg m R := fun log s x s' e => ⟨(h log s x s' e).1, hp x (h log s x s' e).2⟩
theorem hg_any {m : Pm α} {P : α → Prop} (h : Hg m P) : Hg m (fun _ => True) := hg_mono h fun _ _ => trivial
theorem hg_do (a : AccT) : Hg (doM a) (fun _ => True) := fun log s x s' e => by
 unfold doM at e
 split at e
 ·rename_i r hr
  cases e
  have := (List.getElem?_eq_some_iff.1 hr).1
  exact ⟨⟨fun _ => this, id, by simp, by simp⟩, trivial⟩
 ·cases e
theorem uE {c : Prop} [Decidable c] {m n : Pm α} {P : α → Prop} (h1 : c → Hg m P) (h2 : ¬ c → Hg n P) : Hg (if c then m else n) P := by
 split
 ·exact h1 ‹_›
 ·exact h2 ‹_›
theorem wR (c : Int) : Hg (yM c) (fun _ => True) := kJ (hg_do _) fun _ _ => yH trivial
theorem jI4 (c v : Int) : Hg (yY c v) (fun _ => True) := kJ (hg_do _) fun _ _ => yH trivial
theorem kC1 (c o v : Int) : Hg (casM c o v) (fun _ => True) := kJ (hg_do _) fun _ _ => yH trivial
theorem jO4 : Hg lastM (fun _ => True) := fun log s x s' e => by
 cases e
 exact ⟨Hs.refl _, trivial⟩
theorem hg_take (l : jN) : ∀ k, Hg (jP6 l k) (fun _ => True)
 | 0 => yH trivial
 | k + 1 => kJ (wR _) fun _ _ => uE (fun _ => kJ jO4 fun _ _ => yH trivial) fun _ => kJ (wR _) fun _ _ => kJ (kC1 _ _ _) fun _ _ => uE (fun _ => kJ jO4 fun _ _ => kJ (wR _) fun _ _ => kJ (jI4 _ _) fun _ _ => yH trivial) fun _ => hg_take l k
theorem hg_takeM (l : jN) : Hg (takeM l) (fun _ => True) := fun log s => hg_take l _ log s
theorem hg_give (l : jN) (n : Int) : ∀ k, Hg (jQ9 l n k) (fun _ => True)
 | 0 => yH trivial
 | k + 1 => kJ (wR _) fun _ _ => kJ (jI4 _ _) fun _ _ => kJ (kC1 _ _ _) fun _ _ => uE (fun _ => yH trivial) fun _ => hg_give l n k
theorem hg_giveM (l : jN) (n : Int) : Hg (giveM l n) (fun _ => True) := fun log s => hg_give l n _ log s
theorem hs_putE {n : Nat} {s s' : PsT} {i v : Int} (h : Hs n (s.putE i v) s') : Hs n s s' := by
 have h1 := jD1 s i v
 have h2 : (s.putE i v).gone = s.gone := by
  unfold PsT.putE
  split
  ·rfl
  ·split <;> rfl
 exact ⟨fun g => h.le (by rw [h1]; exact g), fun g => h.ok (by rw [h2]; exact g), by have := h.made; omega, by have := h.len; rw [h2] at this; omega⟩
theorem hg_guard (l : jN) (me i c : Int) : ∀ k, Hg (wF l me i c k) (fun _ => True)
 | 0 => yH trivial
 | k + 1 => kJ (wR _) fun v _ => kJ jO4 fun at_ _ => kJ (wR _) fun era _ => fun log s x s' e => by
  split at e
  ·cases e
   exact ⟨Hs.refl _, trivial⟩
  ·refine kJ (R := fun _ => True) (jI4 _ _) (fun _ _ => ?_) log s x s' e
   intro log s x s' e
   exact ⟨hs_putE (hg_guard l me i c k log _ x s' e).1, trivial⟩
theorem hg_guardM (l : jN) (me i c : Int) : Hg (jI6 l me i c) (fun _ => True) := fun log s => hg_guard l me i c _ log s
theorem hg_clr (l : jN) (me : Int) : ∀ (es : List Int) (i : Nat), Hg (clrL l me i es) (fun _ => True)
 | [], _ => yH trivial
 | e :: es, i => kJ (P := fun _ => True) (uE (fun _ => yH trivial) fun _ => kJ (jI4 _ _) fun _ _ => fun log s x s' h => by
   cases h
   refine ⟨?_, trivial⟩
   match i with
   | 0 => exact ⟨id, id, Nat.le_refl _, Nat.le_refl _⟩
   | 1 => exact ⟨id, id, Nat.le_refl _, Nat.le_refl _⟩
   | _ + 2 => exact ⟨id, id, Nat.le_refl _, Nat.le_refl _⟩) fun _ _ => hg_clr l me es (i + 1)
theorem hg_clear (l : jN) (me : Int) : Hg (jH0 l me) (fun _ => True) := fun log s => hg_clr l me _ _ log s
theorem hg_loads : ∀ (cs acc : List Int), Hg (xA acc cs) (fun _ => True)
 | [], _ => yH trivial
 | _ :: cs, _ => kJ (wR _) fun _ _ => hg_loads cs _
theorem hg_sift (l : jN) (held : List Int) : ∀ (gs stay : List (Int × Int)), Hg (uY l held gs stay) (fun r => r.length ≤ gs.length + stay.length ∧ (GonN gs → GonN stay → GonN r))
 | [], stay => yH ⟨by simp, fun _ h => h⟩
 | g :: gs, stay => kJ (wR _) fun _ _ => uE (fun _ => hg_mono (hg_sift l held gs (stay ++ [g])) fun r h => ⟨by have := h.1; simp only [List.length_append, List.length_cons, List.length_nil] at this ⊢; omega, fun h1 h2 => h.2 (fun p hp => h1 p (List.mem_cons_of_mem _ hp)) fun p hp => by
    rcases List.mem_append.1 hp with hp | hp
    ·exact h2 p hp
    ·simp only [List.mem_singleton] at hp; subst hp; exact h1 _ List.mem_cons_self⟩)
   fun _ => kJ (hg_giveM l g.1) fun _ _ => hg_mono (hg_sift l held gs stay) fun r h => ⟨by have := h.1; simp only [List.length_cons]; omega, fun h1 h2 => h.2 (fun p hp => h1 p (List.mem_cons_of_mem _ hp)) h2⟩
theorem jZ8 {m : Pm α} {f : α → Pm β} {log : List jS} {s s' : PsT} {y : β} (e : m.bind f log s = .ok (y, s')) : ∃ x s1, m log s = .ok (x, s1) ∧ f x log s1 = .ok (y, s') := by
 unfold Pm.bind at e
 cases h : m log s with
 | error a => rw [h] at e; cases e
 | ok q => rw [h] at e; exact ⟨q.1, q.2, rfl, e⟩
theorem scan_hs {l : jN} {g : List (Int × Int)} {log : List jS} {s s' : PsT} {u : Unit} (e : scanM l g log s = .ok (u, s')) : s.made ≤ s'.made ∧ s'.gone.length ≤ g.length ∧ (GonN g → GonN s'.gone) ∧ (s.made ≤ log.length → s'.made ≤ log.length) := by
 obtain ⟨held, s1, e1, e⟩ := jZ8 e
 obtain ⟨stay, s2, e2, e⟩ := jZ8 e
 cases e
 have h1 := (hg_loads _ _ _ _ _ _ e1).1
 have h2 := hg_sift l held g [] _ _ _ _ e2
 exact ⟨Nat.le_trans h1.made h2.1.made, by simpa using h2.2.1, fun h => h2.2.2 h (fun p hp => absurd hp List.not_mem_nil), fun h => h2.1.le (h1.le h)⟩
theorem hg_retire (l : jN) (n : Int) (hn : n < 9223372036854775808) : Hg (wT l n) (fun _ => True) := by
 refine kJ (wR _) fun era _ => ?_
 intro log s x s' e
 obtain ⟨r, s1, e1, e⟩ := jZ8 e
 have hs1 : s1 = { s with made := s.made + 1 } ∧ s.made < log.length := by
  unfold doM at e1
  split at e1
  ·rename_i r hr
   cases e1; exact ⟨rfl, (List.getElem?_eq_some_iff.1 hr).1⟩
  ·cases e1
 obtain ⟨hs1, hlt⟩ := hs1
 subst hs1
 have hadd : GonN s.gone → GonN (s.gone ++ [(n, era)]) := fun h p hp => by
  rcases List.mem_append.1 hp with hp | hp
  ·exact h p hp
  ·simp only [List.mem_singleton] at hp; subst hp; exact hn
 simp only at e
 split at e
 ·cases e
  exact ⟨⟨fun _ => hlt, hadd, by simp, by simp; omega⟩, trivial⟩
 ·obtain ⟨h1, h2, h3, h4⟩ := scan_hs e
  simp only [List.length_append, List.length_cons, List.length_nil] at h1 h2
  exact ⟨⟨fun _ => h4 hlt, fun h => h3 (hadd h), by omega, by omega⟩, trivial⟩
theorem kA8 (n : Int) : (ofW n).idx < 9223372036854775808 := by have := (xT n).2; omega
theorem jR8 (l : jN) (me hd o : Int) : ∀ (k : Nat) (x : Option WalkT), (∀ w, x = some w → w.cur < 9223372036854775808) → Hg (jI0 l me hd o k x) (fun f => f.cur < 9223372036854775808)
 | 0, _, _ => yH (by show (0 : Int) < _; omega)
 | k + 1, none, _ => kJ (hg_guardM _ _ _ _) fun p _ => jR8 l me hd o k _ fun w hw => by cases hw; exact kA8 _
 | k + 1, some x, hx => uE (fun _ => yH (by show (0 : Int) < _; omega)) fun _ => kJ (hg_guardM _ _ _ _) fun p _ => kJ (wR _) fun seen _ => kJ jO4 fun look _ =>
   uE (fun _ => kJ (wR _) fun order _ =>
    uE (fun _ => kJ (kC1 _ _ _) fun ok _ => uE (fun _ => kJ jO4 fun at_ _ => kJ (hg_retire l _ (hx _ rfl)) fun _ _ => jR8 l me hd o k _ fun w hw => by cases hw; exact kA8 _) fun _ => jR8 l me hd o k none fun w hw => by cases hw) fun _ =>
    uE (fun _ => jR8 l me hd o k _ fun w hw => by cases hw; exact kA8 _) fun _ =>
    uE (fun _ => yH (hx _ rfl)) fun _ => yH (hx _ rfl))
   fun _ => jR8 l me hd o k none fun w hw => by cases hw
theorem jZ3 (l : jN) (me hd o : Int) : Hg (jT0 l me hd o) (fun f => f.cur < 9223372036854775808) := fun log s => jR8 l me hd o _ none (fun w hw => by cases hw) log s
theorem jM7 (l : jN) (me : Int) (o : kY) : Hg (jI9 l me o) (fun _ => True) := kJ (hg_clear _ _) fun _ _ => yH trivial
theorem hg_get (l : jN) (me hd o : Int) : Hg (getM l me hd o) (fun _ => True) := kJ (jZ3 _ _ _ _) fun _ _ => uE (fun _ => kJ (wR _) fun _ _ => jM7 _ _ _) fun _ => jM7 _ _ _
theorem hg_putB (l : jN) (f : vA) (n : Int) : Hg (putB l f n) (fun _ => True) := kJ (jI4 _ _) fun _ _ => kJ (kC1 _ _ _) fun _ _ => uE (fun _ => kJ jO4 fun _ _ => yH trivial) fun _ => yH trivial
theorem hg_put (l : jN) (me hd o v : Int) : ∀ (k : Nat) (n : Int), Hg (putL l me hd o v k n) (fun _ => True)
 | 0, _ => yH trivial
 | k + 1, n => kJ (jZ3 _ _ _ _) fun _ _ => uE (fun _ => uE (fun _ => jM7 _ _ _) fun _ => kJ (hg_giveM _ _) fun _ _ => jM7 _ _ _) fun _ =>
   uE (fun _ => kJ (hg_takeM _) fun t _ => uE (fun _ => kJ (jI4 _ _) fun _ _ => kJ (jI4 _ _) fun _ _ => kJ (hg_putB _ _ _) fun r _ => by
    cases r with
    | some a => exact jM7 _ _ _
    | none => exact hg_put l me hd o v k _) fun _ => jM7 _ _ _) fun _ => kJ (hg_putB _ _ _) fun r _ => by
    cases r with
    | some a => exact jM7 _ _ _
    | none => exact hg_put l me hd o v k _
theorem hg_putM (l : jN) (me hd o v : Int) : Hg (putM l me hd o v) (fun _ => True) := fun log s => hg_put l me hd o v _ 0 log s
theorem hg_del (l : jN) (me hd o : Int) : ∀ (k : Nat), Hg (delL l me hd o k) (fun _ => True)
 | 0 => yH trivial
 | k + 1 => kJ (jZ3 _ _ _ _) fun f hf => uE (fun _ => kJ (kC1 _ _ _) fun _ _ => uE (fun _ => kJ jO4 fun _ _ => kJ (kC1 _ _ _) fun _ _ => uE (fun _ => kJ (hg_clear _ _) fun _ _ => kJ (hg_retire l _ hf) fun _ _ => yH trivial) fun _ => kJ (hg_any (jZ3 _ _ _ _)) fun _ _ => jM7 _ _ _) fun _ => hg_del l me hd o k) fun _ => jM7 _ _ _
theorem hg_delM (l : jN) (me hd o : Int) : Hg (delM l me hd o) (fun _ => True) := fun log s => hg_del l me hd o _ log s
end
theorem kH3 {m : Pm kY} {P : kY → Prop} (hm : Hg m P) {gone : List (Int × Int)} {log : List jS} (hd : (finM (m log ⟨0, gone, 0, 0, 0⟩)).2.2 = true) (hg : GonN gone) : GonN (finM (m log ⟨0, gone, 0, 0, 0⟩)).2.1.gone ∧ (finM (m log ⟨0, gone, 0, 0, 0⟩)).2.1.gone.length ≤ gone.length + log.length := by
 cases h : m log ⟨0, gone, 0, 0, 0⟩ with
 | error a => rw [h] at hd; cases hd
 | ok q =>
  obtain ⟨x, s'⟩ := q
  obtain ⟨h1, _⟩ := hm _ _ _ _ h
  have := h1.len
  have := h1.le (Nat.zero_le _)
  exact ⟨h1.ok hg, by show s'.gone.length ≤ _; simp only at *; omega⟩
theorem fin_len {m : Pm kY} {P : kY → Prop} (hm : Hg m P) {gone : List (Int × Int)} {log : List jS} (hd : (finM (m log ⟨0, gone, 0, 0, 0⟩)).2.2 = true) : (finM (m log ⟨0, gone, 0, 0, 0⟩)).2.1.gone.length ≤ gone.length + log.length := by
 cases h : m log ⟨0, gone, 0, 0, 0⟩ with
 | error a => rw [h] at hd; cases hd
 | ok q =>
  obtain ⟨x, s'⟩ := q
  obtain ⟨h1, _⟩ := hm _ _ _ _ h
  have := h1.len
  have := h1.le (Nat.zero_le _)
  show s'.gone.length ≤ _
  simp only at *
  omega
theorem next_len {l : jN} {me : Int} {gone : List (Int × Int)} {op : OpT} {log : List jS} (hd : (qZ l me gone op log).2.2 = true) : (qZ l me gone op log).2.1.gone.length ≤ gone.length + log.length := by
 unfold qZ at hd ⊢
 split at hd
 ·rw [if_pos ‹_›]; exact Nat.le_add_right _ _
 ·rw [if_neg ‹_›]
  split at hd
  ·rw [if_pos ‹_›]; exact fin_len (hg_get _ _ _ _) hd
  ·rw [if_neg ‹_›]
   split at hd
   ·rw [if_pos ‹_›]; exact fin_len (hg_putM _ _ _ _ _) hd
   ·rw [if_neg ‹_›]
    split at hd
    ·rw [if_pos ‹_›]; exact fin_len (hg_delM _ _ _ _) hd
    ·rw [if_neg ‹_›]; exact Nat.le_add_right _ _
theorem next_gone {l : jN} {me : Int} {gone : List (Int × Int)} {op : OpT} {log : List jS} (hd : (qZ l me gone op log).2.2 = true) (hg : GonN gone) : GonN (qZ l me gone op log).2.1.gone ∧ (qZ l me gone op log).2.1.gone.length ≤ gone.length + log.length := by
 unfold qZ at hd ⊢
 split at hd
 ·rw [if_pos ‹_›]; exact ⟨hg, Nat.le_add_right _ _⟩
 ·rw [if_neg ‹_›]
  split at hd
  ·rw [if_pos ‹_›]; exact kH3 (hg_get _ _ _ _) hd hg
  ·rw [if_neg ‹_›]
   split at hd
   ·rw [if_pos ‹_›]; exact kH3 (hg_putM _ _ _ _ _) hd hg
   ·rw [if_neg ‹_›]
    split at hd
    ·rw [if_pos ‹_›]; exact kH3 (hg_delM _ _ _ _) hd hg
    ·rw [if_neg ‹_›]; exact ⟨hg, Nat.le_add_right _ _⟩
theorem next_same {l : jN} (hS : 0 ≤ l.seats) {me : Int} {gone : List (Int × Int)} {op : OpT} {log : List jS} {k : Nat} (hd : (qZ l me gone op (log.take k)).2.2 = true) : qZ l me gone op log = qZ l me gone op (log.take k) := by
 by_cases hh : op.obj < 0 ∨ l.size ≤ op.obj
 ·unfold qZ; rw [if_pos hh, if_pos hh]
 ·by_cases hk : op.kind = 1 ∨ op.kind = 2 ∨ op.kind = 3
  ·have e := fun log => jX7 (l := l) (S := l.seats.toNat) (me := me) (by omega) (gone := gone) (op := op) (log := log) (h := .ob op.obj) rfl hh hk
   rw [e] at hd
   rw [e, e]
   have hr : jK2 (kE (.ob op.obj)) l.seats.toNat (jC7 (.ob op.obj) op gone) log = jK2 (kE (.ob op.obj)) l.seats.toNat (jK2 (kE (.ob op.obj)) l.seats.toNat (jC7 (.ob op.obj) op gone) (log.take k)) (log.drop k) := by
    unfold jK2; rw [← List.foldl_append, List.take_append_drop]
   rw [hr]
   generalize jK2 (kE (.ob op.obj)) l.seats.toNat (jC7 (.ob op.obj) op gone) (log.take k) = q at hd ⊢
   obtain ⟨pc, s⟩ := q
   cases pc with
   | fin o =>
    have : ∀ rest : List jS, jK2 (kE (.ob op.obj)) l.seats.toNat ⟨.fin o, s⟩ rest = ⟨.fin o, s⟩ := fun rest => by
     induction rest with
     | nil => rfl
     | cons r rest ih => exact ih
    rw [this]
   | _ => cases hd
  ·unfold qZ; rw [if_neg hh, if_neg (by omega), if_neg (by omega), if_neg (by omega), if_neg hh, if_neg (by omega), if_neg (by omega), if_neg (by omega)]
theorem next_pos {l : jN} (hS : 0 ≤ l.seats) {me : Int} {gone : List (Int × Int)} {op : OpT} {log : List jS} (hd : (qZ l me gone op log).2.2 = true) (he : (qZ l me gone op log).2.1.err = 0) : 0 ≤ (qZ l me gone op log).2.1.point := by
 by_cases hh : op.obj < 0 ∨ l.size ≤ op.obj
 ·unfold qZ at he
  rw [if_pos hh] at he
  exact absurd (show (1 : Int) = 0 from he) (by omega)
 ·by_cases hk : op.kind = 1 ∨ op.kind = 2 ∨ op.kind = 3
  ·have e := jX7 (l := l) (S := l.seats.toNat) (me := me) (by omega) (gone := gone) (op := op) (log := log) (h := .ob op.obj) rfl hh hk
   obtain ⟨q', e', h1, h2⟩ := run_pt (S := l.seats.toNat) (h := .ob op.obj) (kd := op.kind) log (jC7 (.ob op.obj) op gone) (by
    show fkOk op.kind 0 (fkOf op)
    unfold fkOf
    rcases hk with hk | hk | hk
    ·rw [if_pos hk]; show op.kind ≠ 2; omega
    ·rw [if_neg (by omega), if_pos hk]; exact hk
    ·rw [if_neg (by omega), if_neg (by omega)]; show op.kind ≠ 2; omega) trivial
   rw [e'] at e
   rw [e] at hd ⊢
   obtain ⟨pc, s⟩ := q'
   cases pc with
   | fin o => exact h1.1
   | _ => cases hd
  ·unfold qZ at he
   rw [if_neg hh, if_neg (by omega), if_neg (by omega), if_neg (by omega)] at he
   exact absurd (show (1 : Int) = 0 from he) (by omega)
def obF (l : jN) (dummy : Int) : Int := if jQ l dummy 0 < 0 then l.done else jQ l dummy 0
theorem uN {l : jN} {me : Int} {gone : List (Int × Int)} {kind dummy order v : Int} {lg : List jS} : (qX l me gone kind dummy order v lg).2 = (qZ l me gone ⟨kind, obF l dummy, order, v⟩ lg).2 := by
 unfold qX obF
 simp only
 generalize (if jQ l dummy 0 < 0 then l.done else jQ l dummy 0) = ob
 split <;> rfl
theorem kE6 {f : Nat → Bool} : ∀ (n k : Nat), f (k + n) = true → f (xH f n k) = true ∧ k ≤ xH f n k ∧ xH f n k ≤ k + n
 | 0, k, h => ⟨h, Nat.le_refl _, Nat.le_refl _⟩
 | n + 1, k, h => by
  unfold xH
  split
  ·exact ⟨‹_›, Nat.le_refl _, Nat.le_add_right _ _⟩
  ·obtain ⟨h1, h2, h3⟩ := kE6 n (k + 1) (by rw [show k + 1 + n = k + (n + 1) by omega]; exact h)
   exact ⟨h1, by omega, by omega⟩
section
variable {l : jN} {me kind dummy order v : Int} {log : List jS} {s s' : PsT} {o : kY × AccT}
theorem kJ7 (hS : 0 ≤ l.seats) (hm : s.made ≤ log.length) (e : jC2 l me kind dummy order v log s = .ok (o, s')) :
  Hs log.length s s' ∧ (kind = 2 → o.1.is = false → o.1.err = 0 → 0 ≤ o.1.point ∧ o.1.point + 2 < log.length) := by
 unfold jC2 at e
 simp only at e
 by_cases hd : (qX l me s.gone kind dummy order v (log.drop s.made)).2.2 = false
 ·rw [if_pos hd] at e; cases e
 rw [if_neg hd] at e
 have hd' : (qX l me s.gone kind dummy order v (log.drop s.made)).2.2 = true := by simpa using hd
 rw [uN] at hd'
 by_cases hp : (qX l me s.gone kind dummy order v (log.drop s.made)).2.1.point < 0
 ·rw [if_pos hp] at e
  cases e
  refine ⟨Hs.refl _, fun h1 h2 h3 => ?_⟩
  rw [uN] at hp h3
  have := next_pos hS hd' h3
  omega
 ·rw [if_neg hp] at e
  have hp' := hp
  rw [uN] at hp'
  obtain ⟨q1, q2⟩ := kJ9 hS hd' (by omega)
  have hlen : (log.drop s.made).length = log.length - s.made := List.length_drop
  have hpt : (qX l me s.gone kind dummy order v (log.drop s.made)).2.1.point.toNat + 1 ≤ (log.drop s.made).length := by rw [uN]; omega
  generalize hf : (fun k => (qX l me s.gone kind dummy order v ((log.drop s.made).take k)).2.2) = f at e
  have hfl : f (((qX l me s.gone kind dummy order v (log.drop s.made)).2.1.point.toNat + 1) + ((log.drop s.made).length - ((qX l me s.gone kind dummy order v (log.drop s.made)).2.1.point.toNat + 1))) = true := by
   rw [show ((qX l me s.gone kind dummy order v (log.drop s.made)).2.1.point.toNat + 1) + ((log.drop s.made).length - ((qX l me s.gone kind dummy order v (log.drop s.made)).2.1.point.toNat + 1)) = (log.drop s.made).length by omega, ← hf]
   simp only [List.take_length]
   rw [uN]; exact hd'
  obtain ⟨k1, k2, k3⟩ := kE6 _ _ hfl
  generalize hK : xH f _ _ = K at e k1 k2 k3
  rw [← hf] at k1
  simp only at k1
  rw [uN] at k1
  have same := next_same hS k1
  cases e
  refine ⟨⟨fun _ => by simp only; omega, fun hg => ?_, by simp, ?_⟩, fun h1 h2 h3 => ?_⟩
  ·show GonN (qX l me s.gone kind dummy order v (log.drop s.made)).2.1.gone
   rw [uN, same]
   exact (next_gone k1 hg).1
  ·show (qX l me s.gone kind dummy order v (log.drop s.made)).2.1.gone.length + s.made ≤ s.gone.length + (s.made + K)
   rw [uN, same]
   have hall : (qZ l me s.gone ⟨kind, obF l dummy, order, v⟩ ((log.drop s.made).take K)).2.1.gone.length ≤ s.gone.length + ((log.drop s.made).take K).length := by
    have := @next_len l me s.gone ⟨kind, obF l dummy, order, v⟩ ((log.drop s.made).take K) k1
    exact this
   rw [List.length_take] at hall
   omega
  ·simp only at h2 h3 ⊢
   rw [uN] at h2 h3 ⊢
   have := q2 h1 h2 h3
   omega
end
def Hl {α : Type} (m : Pm α) : Prop := ∀ log s x s', s.made ≤ log.length → m log s = .ok (x, s') → Hs log.length s s'
section
variable {α β : Type}
theorem uZ {x : α} : Hl (Pm.pure x) := fun _ _ _ _ _ e => by cases e; exact Hs.refl _
theorem hl_do (a : AccT) : Hl (doM a) := fun log s x s' _ e => (hg_do a log s x s' e).1
theorem wU {m : Pm α} {f : α → Pm β} (h1 : Hl m) (h2 : ∀ x, Hl (f x)) : Hl (m.bind f) := fun log s y s' hm e => by
 obtain ⟨x, s1, e1, e2⟩ := jZ8 e
 have a := h1 log s x s1 hm e1
 exact a.trans (h2 x log s1 y s' (a.le hm) e2)
theorem jK1 {c : Prop} [Decidable c] {m n : Pm α} (h1 : Hl m) (h2 : Hl n) : Hl (if c then m else n) := by
 split
 ·exact h1
 ·exact h2
theorem hl_there (o : kY × AccT) : Hl (kD1 o) := fun _ _ _ _ _ e => by cases e; exact Hs.refl _
theorem hl_list {l : jN} (hS : 0 ≤ l.seats) (me kind dummy order v : Int) : Hl (jC2 l me kind dummy order v) := fun _ _ _ _ hm e => (kJ7 hS hm e).1
theorem hl_come {l : jN} (hS : 0 ≤ l.seats) (me m : Int) : ∀ (k : Nat) (b : Int), Hl (vQ l me m k b)
 | 0, _ => uZ
 | k + 1, b => wU (hl_do _) fun _ => jK1 uZ (jK1 uZ (wU (hl_come hS me m k _) fun _ => jK1 uZ (wU (hl_list hS _ _ _ _ _) fun _ => jK1 uZ (wU (hl_there _) fun _ => wU (hl_do _) fun _ => uZ))))
theorem hl_after {l : jN} (m kind size : Int) : Hl (jB5 l m kind size) := jK1 (wU (hl_do _) fun _ => jK1 (wU (hl_do _) fun _ => uZ) uZ) (jK1 (wU (hl_do _) fun _ => uZ) uZ)
theorem hl_split {l : jN} (hS : 0 ≤ l.seats) (me : Int) (op : OpT) : Hl (vO l me op) := wU (hl_do _) fun _ => jK1 uZ (wU (hl_come hS _ _ _ _) fun _ => jK1 uZ (wU (hl_list hS _ _ _ _ _) fun _ => jK1 (wU (hl_after _ _ _) fun _ => uZ) uZ))
end
theorem hnext_gone {l : jN} (hS : 0 ≤ l.seats) {me : Int} {gone : List (Int × Int)} {op : OpT} {log : List jS} (hd : (wA l me gone op log).2.2 = true) (hg : GonN gone) : GonN (wA l me gone op log).2.1.gone ∧ (wA l me gone op log).2.1.gone.length ≤ gone.length + log.length := by
 unfold wA at hd ⊢
 split at hd
 ·rw [if_pos ‹_›]; exact ⟨hg, Nat.le_add_right _ _⟩
 ·rw [if_neg ‹_›]
  cases h : vO l me op log ⟨0, gone, 0, 0, 0⟩ with
  | error a => rw [h] at hd; cases hd
  | ok q =>
   obtain ⟨x, s'⟩ := q
   have h1 := hl_split hS me op _ _ _ _ (Nat.zero_le _) h
   have := h1.len
   have := h1.le (Nat.zero_le _)
   exact ⟨h1.ok hg, by show s'.gone.length ≤ _; simp only at *; omega⟩
def shownT : HTabT := wI (kT 1 17 1) jT8 []
def noneB (l : jN) (m : List Int) : Bool := decide (0 ≤ qR l 0 0) && decide (qR l 0 0 < m.length) && (rowF l m (jQ l (ofW (atF m (qR l 0 0))).idx 0)).all (fun r => decide (r.1 % 2 ≠ 1)) && decide ((rowF l m (jQ l (ofW (atF m (qR l 0 0))).idx 0)).length ≤ 2000)
def shownC : Bool := let t := shownT; !t.bad && !t.wild && decide (t.calls.length = 4) && decide (t.calls.map HCallT.is = [true, false, true, true]) && decide ((t.calls.map HCallT.val).getD 2 0 = 9) && noneB (kT 1 17 1) t.m
theorem shown_all : shownC = true := by decide +kernel
structure ShownI (t : HTabT) : Prop where
 bad : t.bad = false
 wild : t.wild = false
 calls : ∃ c0 c1 c2 c3 : HCallT, t.calls = [c0, c1, c2, c3] ∧ c0.is = true ∧ c1.is = false ∧ c2.is = true ∧ c3.is = true ∧ c2.val = 9
 none : noneB (kT 1 17 1) t.m = true
theorem shown_is : ShownI shownT := by
 have h := shown_all
 unfold shownC at h
 generalize shownT = t at h
 obtain ⟨m, step, seats, calls, full, wild, bad⟩ := t
 simp only [Bool.and_eq_true, decide_eq_true_eq, Bool.not_eq_true'] at h
 obtain ⟨⟨⟨⟨⟨h1, h2⟩, h3⟩, h4⟩, h5⟩, h6⟩ := h
 match calls, h3 with
 | [c0, c1, c2, c3], _ =>
  simp only [List.map_cons, List.map_nil, List.cons.injEq, and_true] at h4
  exact ⟨h1, h2, ⟨c0, c1, c2, c3, rfl, h4.1, h4.2.1, h4.2.2.1, h4.2.2.2, h5⟩, h6⟩
theorem shown_next : wA (kT 1 17 1) 0 [] ⟨1, 1, 0, 0⟩ [] = (xZ, ⟨0, false, 1, -1, []⟩, true) := by decide +kernel
theorem shown_parent : yI 6 = 2 := by decide +kernel
end Go.Proofs.YtkkldicehapklaaGreat
