/- Lists: their programs, what lays and reads them, and plays, in plain words. -/
import Derived.Test.YtefagncaepallaaPA
namespace Go.Proofs.Ytefagncaepallaa
set_option maxRecDepth 100000

/-! ### Programs -/
/-- The word of a node, without a mark, and with one. -/
def plainW (n : Int) : Int := packW ⟨n, false, 0⟩
def markW (n : Int) : Int := packW ⟨n, true, 0⟩
/-- What a finding told. -/
structure FoundT where
  there : Bool
  prev : Int
  cur : Int
  next : Int
  point : Int
deriving DecidableEq
def found0 : FoundT := ⟨false, 0, 0, 0, 0⟩
/-- Where a finding is: two of the reservations, the cell that has the word of the node, that node, the point so far. -/
structure WalkT where
  a : Int
  b : Int
  prev : Int
  cur : Int
  pt : Int
/-- Seeks an order number: from the head on, or from where it is. -/
def findL (l : LayT) (me hd o : Int) : Nat → Option WalkT → Pm FoundT
  | 0, _ => .pure found0
  | k + 1, none => (guardM l me 0 hd).bind fun p => findL l me hd o k (some ⟨0, 1, hd, (ofW p.1).idx, p.2⟩)
  | k + 1, some x => if x.cur = 0 then .pure ⟨false, x.prev, 0, 0, x.pt⟩
    else (guardM l me x.b (nodeF l x.cur 0)).bind fun p => (loadM x.prev).bind fun seen => lastM.bind fun look => if seen = plainW x.cur then
      (loadM (nodeF l x.cur 1)).bind fun order =>
        if (ofW p.1).mark then (casM x.prev (plainW x.cur) (plainW (ofW p.1).idx)).bind fun ok => if ok then lastM.bind fun at_ => (retireM l x.cur).bind fun _ => findL l me hd o k (some ⟨x.b, x.a, x.prev, (ofW p.1).idx, at_⟩) else findL l me hd o k none
        else if order < o then findL l me hd o k (some ⟨x.b, 3 - x.a - x.b, nodeF l x.cur 0, (ofW p.1).idx, p.2⟩)
        else if order = o then .pure ⟨true, x.prev, x.cur, p.1, p.2⟩
        else .pure ⟨false, x.prev, x.cur, 0, look⟩
      else findL l me hd o k none
def findM (l : LayT) (me hd o : Int) : Pm FoundT := fun log s => findL l me hd o (2 * (log.length - s.made) + 2) none log s
def outM (l : LayT) (me : Int) (o : OutT) : Pm OutT := (clearM l me).bind fun _ => .pure o
def getM (l : LayT) (me hd o : Int) : Pm OutT := (findM l me hd o).bind fun f => if f.there then (loadM (nodeF l f.cur 2)).bind fun v => outM l me ⟨v, true, 0, f.point, []⟩ else outM l me ⟨0, false, 0, f.point, []⟩
/-- Puts a node in behind where the finding ended: tells whether it went, and where. -/
def putB (l : LayT) (f : FoundT) (n : Int) : Pm (Option Int) := (storeM (nodeF l n 0) (plainW f.cur)).bind fun _ => (casM f.prev (plainW f.cur) (plainW n)).bind fun ok => if ok then lastM.bind fun a => .pure (some a) else .pure none
def putL (l : LayT) (me hd o v : Int) : Nat → Int → Pm OutT
  | 0, _ => .pure ⟨0, false, 0, 0, []⟩
  | k + 1, n => (findM l me hd o).bind fun f => if f.there then (if n = 0 then outM l me ⟨0, false, 0, f.point, []⟩ else (giveM l n).bind fun _ => outM l me ⟨0, false, 0, f.point, []⟩)
    else if n = 0 then (takeM l).bind fun t => if t.2.2 then (storeM (nodeF l t.1 1) o).bind fun _ => (storeM (nodeF l t.1 2) v).bind fun _ => (putB l f t.1).bind fun r => match r with
        | some a => outM l me ⟨0, true, 0, a, []⟩
        | none => putL l me hd o v k t.1
      else outM l me ⟨0, false, 8, t.2.1, []⟩
    else (putB l f n).bind fun r => match r with
      | some a => outM l me ⟨0, true, 0, a, []⟩
      | none => putL l me hd o v k n
def putM (l : LayT) (me hd o v : Int) : Pm OutT := fun log s => putL l me hd o v (log.length + 1 - s.made) 0 log s
def delL (l : LayT) (me hd o : Int) : Nat → Pm OutT
  | 0 => .pure ⟨0, false, 0, 0, []⟩
  | k + 1 => (findM l me hd o).bind fun f => if f.there then (casM (nodeF l f.cur 0) f.next (markW (ofW f.next).idx)).bind fun ok => if ok then lastM.bind fun a => (casM f.prev (plainW f.cur) (plainW (ofW f.next).idx)).bind fun ok => if ok then (clearM l me).bind fun _ => (retireM l f.cur).bind fun _ => .pure ⟨0, true, 0, a, []⟩ else (findM l me hd o).bind fun _ => outM l me ⟨0, true, 0, a, []⟩
      else delL l me hd o k
    else outM l me ⟨0, false, 0, f.point, []⟩
def delM (l : LayT) (me hd o : Int) : Pm OutT := fun log s => delL l me hd o (log.length + 1 - s.made) log s
/-- What an operation's program does next. -/
def nextF (l : LayT) (me : Int) (gone : List (Int × Int)) (op : OpT) (log : List ResT) : AccT × OutT × Bool :=
  if op.obj < 0 ∨ l.size ≤ op.obj then (acc0, ⟨0, false, 1, -1, gone⟩, true)
  else if op.kind = 1 then finM (getM l me op.obj op.a log ⟨0, gone, 0, 0, 0⟩)
  else if op.kind = 2 then finM (putM l me op.obj op.a op.b log ⟨0, gone, 0, 0, 0⟩)
  else if op.kind = 3 then finM (delM l me op.obj op.a log ⟨0, gone, 0, 0, 0⟩)
  else (acc0, ⟨0, false, 1, -1, gone⟩, true)

/-! ### What lays and reads -/
def initN (l : LayT) (a : Nat) (k : Nat) : List AccT := (List.range k).map fun (i : Nat) => ⟨2, nodeF l ((a : Int) + i) 7, 0, if (a : Int) + i = l.nodes then 0 else (a : Int) + i + 1⟩
/-- Lays the free list, from the node a on. -/
def initF (l : LayT) (a : Nat) : List AccT := initN l a (l.nodes.toNat + 1 - a) ++ [⟨2, l.free, 0, a⟩]
def beginA (l : LayT) : List AccT := initF l 1 ++ [⟨2, l.era, 0, 1⟩]
def beginF (l : LayT) : List Int := (allG (List.replicate l.size.toNat 0) (List.replicate l.size.toNat 0) [] (beginA l)).1
def nodesF (l : LayT) (m : List Int) (h : Int) : List Int := chainF (fun n => (ofW (atF m (nodeF l n 0))).idx) l.nodes (l.nodes.toNat + 1) [] (ofW (atF m h)).idx
def rowF (l : LayT) (m : List Int) (h : Int) : List (Int × Int) := ((nodesF l m h).filter fun n => !(ofW (atF m (nodeF l n 0))).mark).map fun n => (atF m (nodeF l n 1), atF m (nodeF l n 2))

/-! ### Plays -/
structure PlayT where
  nodes : Int
  want : List (List OpT)
  turns : List Int
def okOp (o : OpT) : Bool := decide (1 ≤ o.kind) && decide (o.kind ≤ 3)
def okOps (w : List OpT) : Bool := decide (w.length ≤ 4) && w.all okOp
def fewF (p : PlayT) : Bool := decide (1 ≤ p.want.length) && decide (p.want.length ≤ 3) && decide (p.turns.length ≤ 200) && p.want.all okOps
def layP (p : PlayT) : LayT := layF p.want.length (2 + p.nodes % 8) 1 0 0
structure SeatT where
  at_ : Nat
  log : List ResT
  gone : List (Int × Int)
structure StepT where
  who : Int
  at_ : Int
  op : OpT
  gone : List (Int × Int)
  acc : AccT
  res : ResT
  done : Bool
  out : OutT
structure PSt where
  m : List Int
  seats : List SeatT
  out : List StepT
/-- A seat's turn. -/
def stepP (l : LayT) (want : List (List OpT)) (who : Nat) (s : PSt) : Except PSt PSt :=
  match s.seats[who]?, want[who]? with
  | some x, some ws => match ws[x.at_]? with
    | none => .ok s
    | some op0 =>
      let op : OpT := { op0 with obj := l.map }
      let r := nextF l who x.gone op x.log
      if r.2.2 then .ok ⟨s.m, s.seats.set who ⟨x.at_ + 1, [], r.2.1.gone⟩, s.out ++ [⟨who, x.at_, op, x.gone, acc0, res0, true, r.2.1⟩]⟩
      else if faultF s.m.length r.1 = 0 then .ok ⟨(turnF s.m r.1).1, s.seats.set who { x with log := x.log ++ [(turnF s.m r.1).2] }, s.out ++ [⟨who, x.at_, op, x.gone, r.1, (turnF s.m r.1).2, false, out0⟩]⟩
      else .error s
  | _, _ => .ok s
def whoF (p : PlayT) (i : Nat) : Nat := match p.turns[i]? with
  | some t => (t % (p.want.length : Int)).toNat
  | none => (i - p.turns.length) / 1500
def playL (l : LayT) (p : PlayT) : Nat → Nat → PSt → Except PSt PSt
  | 0, _, s => .ok s
  | k + 1, i, s => if p.want.length ≤ whoF p i then .ok s else match stepP l p.want (whoF p i) s with
    | .ok s' => playL l p k (i + 1) s'
    | .error s' => .error s'
def allF (p : PlayT) : Nat := p.turns.length + p.want.length * 1500
def start (p : PlayT) : PSt := ⟨beginF (layP p), List.replicate p.want.length ⟨0, [], []⟩, []⟩
def endsF (p : PlayT) (seats : List SeatT) : Bool := (seats.zip p.want).all fun q => decide (q.2.length ≤ q.1.at_)
structure PlayedT where
  steps : List StepT
  m : List Int
  gone : List (List (Int × Int))
  ends : Bool
def playedF (p : PlayT) : PlayedT := match playL (layP p) p (allF p) 0 (start p) with
  | .ok s => ⟨s.out, s.m, s.seats.map (·.gone), endsF p s.seats⟩
  | .error s => ⟨s.out, s.m, [], false⟩
structure PlayOk (p : PlayT) : Prop where
  w1 : 1 ≤ p.want.length
  w3 : p.want.length ≤ 3
  t : p.turns.length ≤ 200
  n0 : 0 ≤ p.nodes
  u : ∀ x ∈ p.turns, 0 ≤ x ∧ x ≤ 255
  l : ∀ w ∈ p.want, w.length ≤ 4
end Go.Proofs.Ytefagncaepallaa
/- Programs on lists as machines. -/
namespace Go.Proofs.Ytefagncaepallaa
set_option maxRecDepth 100000

/-- What a finding is for: a get, a put (with the node that it has), a del, or the way out of a node whose taking out went, at a point. -/
inductive Fk where
  | get | put (v n : Int) | del | fin (a : Int)
/-- Places of programs of gets, puts and dels. -/
inductive Lk where
  | ga (o : Int) (f : Fk)
  | gb (o : Int) (f : Fk) (a b pn cur : Int)
  | ls (o : Int) (f : Fk) (a b pn cur w t : Int)
  | lo (o : Int) (f : Fk) (a b pn cur w t k : Int)
  | cu (o : Int) (f : Fk) (a b pn cur w : Int)
  | rr (o : Int) (f : Fk) (a b pn nx pt : Int)
  | gv (o cur pt : Int)
  | tk (o v pn cur : Int)
  | p1 (o v n pn cur : Int) | p2 (o v n pn cur : Int) | p0 (o v n pn cur : Int) | cp (o v n pn cur : Int)
  | sv (a : Int)
  | cm (o pn cur w : Int) | cd (o pn cur nx at_ : Int)
  | rx (n a : Int) | ry (a : Int)
  | fi (o : OutT)
def okO (a : Int) : OutT := ⟨0, true, 0, a, []⟩
def noO (a : Int) : OutT := ⟨0, false, 0, a, []⟩
section
variable (hd : Int)
/-- The address that has the word of what is behind a node; 0: behind the head. -/
def prevA (pn : Int) : Ad := if pn = 0 then .ob hd else .nd pn 0
def lstAsk : Lk → Ak
  | .ls _ _ _ _ pn _ _ _ => .ld (prevA hd pn)
  | .lo _ _ _ _ _ cur _ _ _ => .ld (.nd cur 1)
  | .cu _ _ _ _ pn cur w => .cs (prevA hd pn) (plainW cur) (plainW (ofW w).idx)
  | .gv _ cur _ => .ld (.nd cur 2)
  | .p1 o _ n _ _ => .st (.nd n 1) o
  | .p2 _ v n _ _ => .st (.nd n 2) v
  | .p0 _ _ n _ cur => .st (.nd n 0) (plainW cur)
  | .cp _ _ n pn cur => .cs (prevA hd pn) (plainW cur) (plainW n)
  | .cm _ _ cur w => .cs (.nd cur 0) w (markW (ofW w).idx)
  | .cd _ pn cur nx _ => .cs (prevA hd pn) (plainW cur) (plainW nx)
  | _ => .ld (.ob hd)
/-- Where a finding ends that found nothing, or something else. -/
def exN (o : Int) (f : Fk) (pn cur pt : Int) : Pc Lk := match f with
  | .get => .clr (.fi (noO pt))
  | .put v n => if n = 0 then .t1 (.tk o v pn cur) else .at_ (.p0 o v n pn cur)
  | .del => .clr (.fi (noO pt))
  | .fin a => .clr (.fi (okO a))
/-- Where a finding ends that found the order number. -/
def exY (o : Int) (f : Fk) (pn cur w pt : Int) : Pc Lk := match f with
  | .get => .at_ (.gv o cur pt)
  | .put _ n => if n = 0 then .clr (.fi (noO pt)) else .v1 (.sv pt) n
  | .del => .at_ (.cm o pn cur w)
  | .fin a => .clr (.fi (okO a))
/-- Where a finding goes on. -/
def goW (o : Int) (f : Fk) (a b pn cur pt : Int) : Pc Lk := if cur = 0 then exN o f pn 0 pt else .g1 (.gb o f a b pn cur) b (.nd cur 0)
def anew (o : Int) (f : Fk) : Pc Lk := .g1 (.ga o f) 0 (.ob hd)
def lstTell : Lk → Nat → ResT → Pc Lk
  | .ls o f a b pn cur w t, made, r => if r.val = plainW cur then .at_ (.lo o f a b pn cur w t made) else anew hd o f
  | .lo o f a b pn cur w t k, _, r => if (ofW w).mark then .at_ (.cu o f a b pn cur w) else if r.val < o then goW o f b (3 - a - b) cur (ofW w).idx t else if r.val = o then exY o f pn cur w t else exN o f pn cur k
  | .cu o f a b pn cur w, made, r => if r.ok then .r1 (.rr o f a b pn (ofW w).idx made) cur else anew hd o f
  | .gv _ _ pt, _, r => .clr (.fi ⟨r.val, true, 0, pt, []⟩)
  | .p1 o v n pn cur, _, _ => .at_ (.p2 o v n pn cur)
  | .p2 o v n pn cur, _, _ => .at_ (.p0 o v n pn cur)
  | .p0 o v n pn cur, _, _ => .at_ (.cp o v n pn cur)
  | .cp o v n _ _, made, r => if r.ok then .clr (.fi (okO made)) else anew hd o (.put v n)
  | .cm o pn cur w, made, r => if r.ok then .at_ (.cd o pn cur (ofW w).idx made) else anew hd o .del
  | .cd o _ cur _ at_, _, r => if r.ok then .clr (.rx cur at_) else anew hd o (.fin at_)
  | k, _, _ => .at_ k
def lstM : Mach Lk where
  ask := lstAsk hd
  tell := lstTell hd
  took := fun k n _ => match k with
    | .tk o v pn cur => .at_ (.p1 o v n pn cur)
    | k => .v1 k n
  full := fun k a => match k with
    | .tk _ _ _ _ => .clr (.fi ⟨0, false, 8, a, []⟩)
    | k => .at_ k
  guarded := fun k v t => match k with
    | .ga o f => goW o f 0 1 0 (ofW v).idx t
    | .gb o f a b pn cur => .at_ (.ls o f a b pn cur v t)
    | k => .at_ k
  cleared := fun k => match k with
    | .fi o => .fin o
    | .rx n a => .r1 (.ry a) n
    | k => .at_ k
  gave := fun k => match k with
    | .sv a => .clr (.fi (noO a))
    | k => .at_ k
  retired := fun k => match k with
    | .rr o f a b pn nx pt => goW o f b a pn nx pt
    | .ry a => .fin (okO a)
    | k => .at_ k
end
section
variable {hd : Int} {l : LayT} {S : Nat} {me : Int} {log : List ResT}
theorem up_made (s : PsT) : s.up.made = s.made + 1 := rfl
theorem last_up (s : PsT) : ((s.up.made : Nat) : Int) - 1 = (s.made : Int) := by rw [up_made]; omega
theorem prevA_cell (pn : Int) : (prevA hd pn).cell l = if pn = 0 then hd else nodeF l pn 0 := by unfold prevA; split <;> rfl
theorem fi_sim {o : OutT} {s : PsT} (hs : s.made ≤ log.length) : Does (lstM hd) l S me (norm (lstM hd) (.clr (.fi o)) s) (outM l me o log s) (log.drop s.made) :=
  clear_sim (M0 := s.made) (f := fun _ => .pure o) (fun s _ _ _ _ _ => does_fin) s (Nat.le_refl _) hs
/-- A finding: where it goes on. -/
theorem find_sim (hS : l.seats = (S : Int)) {o : Int} {f : Fk} {g : FoundT → Pm OutT} {M0 : Nat}
    (hN : ∀ (pn cur pt : Int) (s : PsT), M0 ≤ s.made → s.made ≤ log.length → Does (lstM hd) l S me (norm (lstM hd) (exN o f pn cur pt) s) (g ⟨false, (prevA hd pn).cell l, cur, 0, pt⟩ log s) (log.drop s.made))
    (hY : ∀ (pn cur w pt : Int) (s : PsT), M0 ≤ s.made → s.made ≤ log.length → Does (lstM hd) l S me (norm (lstM hd) (exY o f pn cur w pt) s) (g ⟨true, (prevA hd pn).cell l, cur, w, pt⟩ log s) (log.drop s.made)) :
    ∀ (k : Nat) (s : PsT), M0 ≤ s.made → s.made ≤ log.length →
      (2 * (log.length - s.made) + 2 ≤ k → Does (lstM hd) l S me (norm (lstM hd) (anew hd o f) s) ((findL l me hd o k none).bind g log s) (log.drop s.made)) ∧
      (∀ a b pn cur pt, 2 * (log.length - s.made) + 1 ≤ k → Does (lstM hd) l S me (norm (lstM hd) (goW o f a b pn cur pt) s) ((findL l me hd o k (some ⟨a, b, (prevA hd pn).cell l, cur, pt⟩)).bind g log s) (log.drop s.made))
  | 0, s, _, _ => ⟨fun h => by omega, fun a b pn cur pt h => by omega⟩
  | k + 1, s, hM, hs => by
    refine ⟨fun hk => ?_, fun a b pn cur pt hk => ?_⟩
    · rw [findL, bind_assoc]
      refine guard_sim (M0 := s.made) (k := Lk.ga o f) (i := 0) (c := .ob hd) (fun v t s' hM' hs' => ?_) (log.length + 1 - s.made) s (Nat.le_refl _) (by omega)
      have := (find_sim hS hN hY k s' (by omega) hs').2 0 1 0 (ofW v).idx t (by omega)
      rw [show (prevA hd 0).cell l = hd from by rw [prevA_cell, if_pos rfl]] at this
      exact this
    · rw [findL]
      unfold goW
      by_cases h0 : cur = 0
      · subst h0
        simp only [if_true]
        exact hN pn 0 pt s hM hs
      · simp only [h0, if_false]
        rw [bind_assoc]
        refine guard_sim (M0 := s.made) (k := Lk.gb o f a b pn cur) (i := b) (c := .nd cur 0) (fun w t s1 hM1 hs1 => ?_) (log.length + 1 - s.made) s (Nat.le_refl _) (by omega)
        show Does (lstM hd) l S me ⟨.at_ (.ls o f a b pn cur w t), s1⟩ _ _
        rw [bind_assoc, load_eq]
        refine does_step (q := ⟨.at_ (Lk.ls o f a b pn cur w t), s1⟩) (s := s1) rfl trivial fun r1 h1 => ?_
        rw [bind_assoc, bind_ok last_ok, last_up]
        show Does (lstM hd) l S me (norm (lstM hd) (if r1.val = plainW cur then .at_ (.lo o f a b pn cur w t s1.made) else anew hd o f) s1.up) _ _
        by_cases hv : r1.val = plainW cur
        · rw [if_pos hv, if_pos hv, bind_assoc, load_eq]
          refine does_step (q := ⟨.at_ (Lk.lo o f a b pn cur w t s1.made), s1.up⟩) (s := s1.up) rfl trivial fun r2 h2 => ?_
          have h2' : s1.made + 1 < log.length := h2
          have m2 : s1.up.up.made = s1.made + 2 := rfl
          have h2l : s1.up.up.made ≤ log.length := by omega
          show Does (lstM hd) l S me (norm (lstM hd) (if (ofW w).mark then .at_ (.cu o f a b pn cur w) else if r2.val < o then goW o f b (3 - a - b) cur (ofW w).idx t else if r2.val = o then exY o f pn cur w t else exN o f pn cur s1.made) s1.up.up) _ _
          by_cases hm : (ofW w).mark = true
          · rw [if_pos hm, if_pos hm, bind_assoc, cas_eq]
            refine does_step (q := ⟨.at_ (Lk.cu o f a b pn cur w), s1.up.up⟩) (s := s1.up.up) rfl trivial fun r3 h3 => ?_
            have h3' : s1.made + 2 < log.length := h3
            have m3 : s1.up.up.up.made = s1.made + 3 := rfl
            show Does (lstM hd) l S me (norm (lstM hd) (if r3.ok then .r1 (.rr o f a b pn (ofW w).idx s1.up.up.made) cur else anew hd o f) s1.up.up.up) _ _
            by_cases hk3 : r3.ok = true
            · rw [if_pos hk3, if_pos hk3, bind_assoc, bind_ok last_ok, last_up, bind_assoc]
              show Does (lstM hd) l S me ⟨.r1 (.rr o f a b pn (ofW w).idx s1.up.up.made) cur, s1.up.up.up⟩ _ _
              refine retire_sim hS (M0 := s1.up.up.up.made) (fun s2 hM2 hs2 => ?_) s1.up.up.up (Nat.le_refl _)
              exact (find_sim hS hN hY k s2 (by omega) hs2).2 b a pn (ofW w).idx s1.up.up.made (by omega)
            · rw [if_neg hk3, if_neg hk3]
              exact (find_sim hS hN hY k s1.up.up.up (by omega) (by omega)).1 (by omega)
          · rw [if_neg hm, if_neg hm]
            by_cases hlt : r2.val < o
            · rw [if_pos hlt, if_pos hlt]
              have := (find_sim hS hN hY k s1.up.up (by omega) h2l).2 b (3 - a - b) cur (ofW w).idx t (by omega)
              rw [show (prevA hd cur).cell l = nodeF l cur 0 from by rw [prevA_cell, if_neg h0]] at this
              exact this
            · rw [if_neg hlt, if_neg hlt]
              by_cases he : r2.val = o
              · rw [if_pos he, if_pos he]
                exact hY pn cur w t s1.up.up (by omega) h2l
              · rw [if_neg he, if_neg he]
                exact hN pn cur s1.made s1.up.up (by omega) h2l
        · rw [if_neg hv, if_neg hv]
          have m1 : s1.up.made = s1.made + 1 := rfl
          exact (find_sim hS hN hY k s1.up (by omega) (by omega)).1 (by omega)
theorem findM_sim (hS : l.seats = (S : Int)) {o : Int} {f : Fk} {g : FoundT → Pm OutT} {M0 : Nat}
    (hN : ∀ (pn cur pt : Int) (s : PsT), M0 ≤ s.made → s.made ≤ log.length → Does (lstM hd) l S me (norm (lstM hd) (exN o f pn cur pt) s) (g ⟨false, (prevA hd pn).cell l, cur, 0, pt⟩ log s) (log.drop s.made))
    (hY : ∀ (pn cur w pt : Int) (s : PsT), M0 ≤ s.made → s.made ≤ log.length → Does (lstM hd) l S me (norm (lstM hd) (exY o f pn cur w pt) s) (g ⟨true, (prevA hd pn).cell l, cur, w, pt⟩ log s) (log.drop s.made))
    (s : PsT) (hM : M0 ≤ s.made) (hs : s.made ≤ log.length) : Does (lstM hd) l S me (norm (lstM hd) (anew hd o f) s) ((findM l me hd o).bind g log s) (log.drop s.made) :=
  (find_sim hS hN hY _ s hM hs).1 (Nat.le_refl _)
theorem get_sim (hS : l.seats = (S : Int)) {o : Int} (s : PsT) (hs : s.made ≤ log.length) : Does (lstM hd) l S me (norm (lstM hd) (anew hd o .get) s) (getM l me hd o log s) (log.drop s.made) := by
  unfold getM
  refine findM_sim hS (M0 := s.made) (fun pn cur pt s1 _ hs1 => ?_) (fun pn cur w pt s1 _ hs1 => ?_) s (Nat.le_refl _) hs
  · simp only [Bool.false_eq_true, if_false]
    exact fi_sim hs1
  · simp only [if_true]
    rw [load_eq]
    refine does_step (q := ⟨.at_ (Lk.gv o cur pt), s1⟩) (s := s1) rfl trivial fun r1 h1 => ?_
    exact fi_sim (by simp only [PsT.up]; omega)
/-- The word of a node is put in. -/
theorem putB_sim {o v n pn cur : Int} {M0 : Nat} {c pt nx : Int} {th : Bool} {g : Option Int → Pm OutT} (hc : c = (prevA hd pn).cell l)
    (h1 : ∀ (a : Nat) (s : PsT), s.made ≤ log.length → Does (lstM hd) l S me (norm (lstM hd) (.clr (.fi (okO a))) s) (g (some (a : Int)) log s) (log.drop s.made))
    (h2 : ∀ s : PsT, M0 < s.made → s.made ≤ log.length → Does (lstM hd) l S me (norm (lstM hd) (anew hd o (.put v n)) s) (g none log s) (log.drop s.made))
    (s : PsT) (hM : M0 ≤ s.made) : Does (lstM hd) l S me ⟨.at_ (.p0 o v n pn cur), s⟩ ((putB l ⟨th, c, cur, nx, pt⟩ n).bind g log s) (log.drop s.made) := by
  subst hc
  rw [putB, bind_assoc, store_eq]
  refine does_step (q := ⟨.at_ (Lk.p0 o v n pn cur), s⟩) (s := s) rfl trivial fun r1 h3 => ?_
  rw [bind_assoc, cas_eq]
  refine does_step (q := ⟨.at_ (Lk.cp o v n pn cur), s.up⟩) (s := s.up) rfl trivial fun r2 h4 => ?_
  have h4' : s.made + 1 < log.length := h4
  have m2 : s.up.up.made = s.made + 2 := rfl
  show Does (lstM hd) l S me (norm (lstM hd) (if r2.ok then .clr (.fi (okO s.up.made)) else anew hd o (.put v n)) s.up.up) _ _
  by_cases hk : r2.ok = true
  · rw [if_pos hk, if_pos hk, bind_assoc, bind_ok last_ok, last_up]
    exact h1 s.up.made s.up.up (by omega)
  · rw [if_neg hk, if_neg hk]
    exact h2 s.up.up (by omega) (by omega)
theorem put_sim (hS : l.seats = (S : Int)) {o v : Int} : ∀ (k : Nat) (n : Int) (s : PsT), s.made ≤ log.length → log.length - s.made < k → Does (lstM hd) l S me (norm (lstM hd) (anew hd o (.put v n)) s) (putL l me hd o v k n log s) (log.drop s.made)
  | 0, n, s, _, h => by omega
  | k + 1, n, s, hs, h => by
    rw [putL]
    have hB : ∀ (n pn cur pt : Int) (s1 : PsT), s.made ≤ s1.made → Does (lstM hd) l S me ⟨.at_ (.p0 o v n pn cur), s1⟩ ((putB l ⟨false, (prevA hd pn).cell l, cur, 0, pt⟩ n).bind (fun r => match r with
        | some a => outM l me ⟨0, true, 0, a, []⟩
        | none => putL l me hd o v k n) log s1) (log.drop s1.made) := fun n pn cur pt s1 hM1 =>
      putB_sim (M0 := s1.made) rfl (fun a s2 hs2 => fi_sim hs2) (fun s2 hM2 hs2 => put_sim hS k n s2 hs2 (by omega)) s1 (Nat.le_refl _)
    refine findM_sim hS (M0 := s.made) (fun pn cur pt s1 hM1 hs1 => ?_) (fun pn cur w pt s1 hM1 hs1 => ?_) s (Nat.le_refl _) hs
    · simp only [Bool.false_eq_true, if_false]
      unfold exN
      by_cases hn : n = 0
      · simp only [hn, if_true]
        refine take_sim (M0 := s1.made) (k := Lk.tk o v pn cur) (fun t a s2 hM2 hs2 => ?_) (fun a s2 hM2 hs2 => ?_) (log.length + 1 - s1.made) s1 (Nat.le_refl _) (by omega)
        · simp only [if_true]
          show Does (lstM hd) l S me ⟨.at_ (.p1 o v t pn cur), s2⟩ _ _
          rw [store_eq]
          refine does_step (q := ⟨.at_ (Lk.p1 o v t pn cur), s2⟩) (s := s2) rfl trivial fun r1 h3 => ?_
          rw [store_eq]
          refine does_step (q := ⟨.at_ (Lk.p2 o v t pn cur), s2.up⟩) (s := s2.up) rfl trivial fun r2 h4 => ?_
          exact hB t pn cur pt s2.up.up (by simp only [PsT.up]; omega)
        · simp only [Bool.false_eq_true, if_false]
          exact fi_sim hs2
      · simp only [hn, if_false]
        exact hB n pn cur pt s1 hM1
    · simp only [if_true]
      unfold exY
      by_cases hn : n = 0
      · simp only [hn, if_true]
        exact fi_sim hs1
      · simp only [hn, if_false]
        refine give_sim (k := Lk.sv pt) (n := n) (M0 := s1.made) (fun s2 _ hs2 => ?_) (log.length + 1 - s1.made) s1 (Nat.le_refl _) (by omega)
        exact fi_sim hs2
theorem del_sim (hS : l.seats = (S : Int)) {o : Int} : ∀ (k : Nat) (s : PsT), s.made ≤ log.length → log.length - s.made < k → Does (lstM hd) l S me (norm (lstM hd) (anew hd o .del) s) (delL l me hd o k log s) (log.drop s.made)
  | 0, s, _, h => by omega
  | k + 1, s, hs, h => by
    rw [delL]
    refine findM_sim hS (M0 := s.made) (fun pn cur pt s1 hM1 hs1 => ?_) (fun pn cur w pt s1 hM1 hs1 => ?_) s (Nat.le_refl _) hs
    · simp only [Bool.false_eq_true, if_false]
      exact fi_sim hs1
    · simp only [if_true]
      unfold exY
      simp only
      rw [cas_eq]
      refine does_step (q := ⟨.at_ (Lk.cm o pn cur w), s1⟩) (s := s1) rfl trivial fun r1 h3 => ?_
      have m1 : s1.up.made = s1.made + 1 := rfl
      show Does (lstM hd) l S me (norm (lstM hd) (if r1.ok then .at_ (.cd o pn cur (ofW w).idx s1.made) else anew hd o .del) s1.up) _ _
      by_cases hk : r1.ok = true
      · rw [if_pos hk, if_pos hk, bind_ok last_ok, last_up, cas_eq]
        refine does_step (q := ⟨.at_ (Lk.cd o pn cur (ofW w).idx s1.made), s1.up⟩) (s := s1.up) rfl trivial fun r2 h4 => ?_
        have h4' : s1.made + 1 < log.length := h4
        have m2 : s1.up.up.made = s1.made + 2 := rfl
        show Does (lstM hd) l S me (norm (lstM hd) (if r2.ok then .clr (.rx cur s1.made) else anew hd o (.fin s1.made)) s1.up.up) _ _
        by_cases hk2 : r2.ok = true
        · rw [if_pos hk2, if_pos hk2]
          refine clear_sim (M0 := s1.up.up.made) (fun s2 _ _ _ hM2 hs2 => ?_) s1.up.up (Nat.le_refl _) (by omega)
          show Does (lstM hd) l S me ⟨.r1 (.ry s1.made) cur, s2⟩ _ _
          refine retire_sim hS (M0 := s2.made) (fun s3 hM3 hs3 => ?_) s2 (Nat.le_refl _)
          exact does_fin
        · rw [if_neg hk2, if_neg hk2]
          refine findM_sim hS (M0 := s1.up.up.made) (fun pn' cur' pt' s3 hM3 hs3 => ?_) (fun pn' cur' w' pt' s3 hM3 hs3 => ?_) s1.up.up (Nat.le_refl _) (by omega)
          · exact fi_sim hs3
          · exact fi_sim hs3
      · rw [if_neg hk, if_neg hk]
        exact del_sim hS k s1.up (by omega) (by omega)
end
def fkOf (op : OpT) : Fk := if op.kind = 1 then .get else if op.kind = 2 then .put op.b 0 else .del
/-- Where an operation's program begins. -/
def startQ (hd : Int) (op : OpT) (gone : List (Int × Int)) : Q Lk := ⟨anew hd op.a (fkOf op), ⟨0, gone, 0, 0, 0⟩⟩
/-- What an operation's program does next: by the machine. -/
theorem next_run {l : LayT} {S : Nat} {me : Int} (hS : l.seats = (S : Int)) {gone : List (Int × Int)} {op : OpT} {log : List ResT} (hh : ¬ (op.obj < 0 ∨ l.size ≤ op.obj)) (hk : op.kind = 1 ∨ op.kind = 2 ∨ op.kind = 3) :
    nextF l me gone op log = endQ (lstM op.obj) l me (runQ (lstM op.obj) S (startQ op.obj op gone) log) := by
  unfold nextF
  rw [if_neg hh]
  unfold startQ fkOf
  rcases hk with hk | hk | hk
  · rw [if_pos hk, if_pos hk]
    exact get_sim hS ⟨0, gone, 0, 0, 0⟩ (Nat.zero_le _)
  · rw [if_neg (by omega), if_pos hk, if_neg (by omega), if_pos hk]
    exact put_sim hS (log.length + 1) 0 ⟨0, gone, 0, 0, 0⟩ (Nat.zero_le _) (by simp)
  · rw [if_neg (by omega), if_neg (by omega), if_pos hk, if_neg (by omega), if_neg (by omega)]
    exact del_sim hS (log.length + 1) ⟨0, gone, 0, 0, 0⟩ (Nat.zero_le _) (by simp)
end Go.Proofs.Ytefagncaepallaa
/- Lists: what holds of their memory, and at each place of a program. -/
namespace Go.Proofs.Ytefagncaepallaa
set_option maxRecDepth 100000

/-! ### Words -/
theorem plainW_eq {n : Int} (h0 : 0 ≤ n) (h1 : n < 65536) : plainW n = n := by unfold plainW packW; simp; omega
theorem markW_eq {n : Int} (h0 : 0 ≤ n) (h1 : n < 65536) : markW n = n + 65536 := by unfold markW packW; simp; omega
theorem idx_small {n : Int} (h0 : 0 ≤ n) (h1 : n < 65536) : (ofW n).idx = n := by rw [ofW_idx_eq]; omega
theorem idx_marked {n : Int} (h0 : 0 ≤ n) (h1 : n < 65536) : (ofW (n + 65536)).idx = n := by rw [ofW_idx_eq]; omega
/-- A word that links have. -/
def Wf (N : Nat) (w : Int) : Prop := (w = (ofW w).idx ∨ w = (ofW w).idx + 65536) ∧ (ofW w).idx ≤ N
theorem Wf.mark {N : Nat} {w : Int} (h : Wf N w) : (ofW w).mark = true ↔ w = (ofW w).idx + 65536 := by
  have h0 := ofW_idx w
  have h1 := h.1
  show decide (w / 65536 % 2 = 1) = true ↔ _
  rw [decide_eq_true_eq]
  omega
theorem Wf.plain {N : Nat} {w : Int} (h : Wf N w) : ¬ (ofW w).mark = true ↔ w = (ofW w).idx := by
  have h0 := ofW_idx w
  have h1 := h.1
  show ¬ decide (w / 65536 % 2 = 1) = true ↔ _
  rw [decide_eq_true_eq]
  omega
/-! ### What holds -/
/-- How many nodes were put in, and how many were taken out of their way. -/
structure LstG where
  put : Nat
  ret : Nat
def PN (N : Nat) (P : Int → Int → Prop) (i n : Int) : Prop := n = 0 ∨ (1 ≤ n ∧ n ≤ N ∧ P i n)
def Kp (W : Ws) (o pn : Int) : Prop := pn = 0 ∨ W.nd pn 1 < o
def Ab (a b : Int) : Prop := 0 ≤ a ∧ a ≤ 2 ∧ 0 ≤ b ∧ b ≤ 2 ∧ a ≠ b
def mineL (m : Int) : List Int := if m = 0 then [] else [m]
def mineF : Fk → List Int
  | .put _ n => mineL n
  | _ => []
def FkOk (W : Ws) (o : Int) : Fk → Prop
  | .put v n => 0 ≤ n ∧ (n ≠ 0 → W.nd n 1 = o ∧ W.nd n 2 = v)
  | _ => True
structure Fnd (N : Nat) (W : Ws) (P : Int → Int → Prop) (o : Int) (f : Fk) (a b pn cur : Int) : Prop where
  fk : FkOk W o f
  ab : Ab a b
  c1 : 1 ≤ cur
  cN : cur ≤ N
  pc : P a cur
  pp : PN N P (3 - a - b) pn
  kp : Kp W o pn
structure Beh (N : Nat) (W : Ws) (P : Int → Int → Prop) (o pn cur : Int) : Prop where
  pp : ∃ i, PN N P i pn
  pc : ∃ i, PN N P i cur
  kp : Kp W o pn
  kc : cur = 0 ∨ o < W.nd cur 1
structure At (N : Nat) (W : Ws) (P : Int → Int → Prop) (o pn cur : Int) : Prop where
  c1 : 1 ≤ cur
  cN : cur ≤ N
  pc : ∃ i, P i cur
  pp : ∃ i, PN N P i pn
  kp : Kp W o pn
  kc : W.nd cur 1 = o
section
variable (hd : Int) (N : Nat)
structure LstSI (K : Nat) (W : Ws) (X : List Int) (D : Int → Prop) (g : LstG) : Prop where
  head : W.ob hd = X.headD 0
  link : Linked (fun n => W.nd n 0 % 65536) X
  form : ∀ n, n ∈ X ∨ D n → Wf N (W.nd n 0)
  dead : ∀ n, D n → 65536 ≤ W.nd n 0
  rise : X.Pairwise fun x y => W.nd x 1 < W.nd y 1
  rng : ∀ n ∈ X, 1 ≤ n ∧ n ≤ (N : Int)
  cnt : g.ret + X.length = g.put
  k : g.put ≤ K
def lstKL (W : Ws) (X : List Int) (P : Int → Int → Prop) : Lk → Prop
  | .ga o f => FkOk W o f
  | .gb o f a b pn cur => Fnd N W P o f a b pn cur
  | .ls o f a b pn cur w _ => Fnd N W P o f a b pn cur ∧ Wf N w ∧ (cur ∈ X → PN N P b (ofW w).idx) ∧ ((ofW w).mark = true → W.nd cur 0 = w)
  | .lo o f a b pn cur w _ _ => Fnd N W P o f a b pn cur ∧ Wf N w ∧ PN N P b (ofW w).idx ∧ ((ofW w).mark = true → W.nd cur 0 = w)
  | .cu o f a b pn cur w => Fnd N W P o f a b pn cur ∧ Wf N w ∧ PN N P b (ofW w).idx ∧ (ofW w).mark = true ∧ W.nd cur 0 = w
  | .rr o f a b pn nx _ => FkOk W o f ∧ Ab a b ∧ PN N P b nx ∧ PN N P (3 - a - b) pn ∧ Kp W o pn
  | .gv o cur _ => 1 ≤ cur ∧ cur ≤ N ∧ (∃ i, P i cur) ∧ W.nd cur 1 = o
  | .tk o _ pn cur => Beh N W P o pn cur
  | .p1 o _ n pn cur => Beh N W P o pn cur ∧ 1 ≤ n
  | .p2 o _ n pn cur => Beh N W P o pn cur ∧ 1 ≤ n ∧ W.nd n 1 = o
  | .p0 o v n pn cur => Beh N W P o pn cur ∧ 1 ≤ n ∧ W.nd n 1 = o ∧ W.nd n 2 = v
  | .cp o v n pn cur => Beh N W P o pn cur ∧ 1 ≤ n ∧ W.nd n 1 = o ∧ W.nd n 2 = v ∧ W.nd n 0 = cur
  | .cm o pn cur w => At N W P o pn cur ∧ Wf N w ∧ ¬ (ofW w).mark = true
  | .cd o pn cur nx _ => At N W P o pn cur ∧ W.nd cur 0 = nx + 65536 ∧ 0 ≤ nx ∧ nx ≤ N
  | _ => True
def lstGL (W : Ws) (X : List Int) (P : Int → Int → Prop) : Lk → Int → Int → Prop
  | .ga _ _, i, v => PN N P i (ofW v).idx
  | .gb _ _ _ _ _ cur, i, v => Wf N v ∧ (cur ∈ X → PN N P i (ofW v).idx) ∧ ((ofW v).mark = true → W.nd cur 0 = v)
  | _, _, _ => True
/-- What the list is behind a step of a program's own. -/
def lstNx (W : Ws) (X : List Int) (g : LstG) : Lk → List Int × LstG
  | .cu _ _ _ _ pn cur _ => if W.get (prevA hd pn) = plainW cur then (X.erase cur, { g with ret := g.ret + 1 }) else (X, g)
  | .cd _ pn cur _ _ => if W.get (prevA hd pn) = plainW cur then (X.erase cur, { g with ret := g.ret + 1 }) else (X, g)
  | .cp _ _ n pn cur => if W.get (prevA hd pn) = plainW cur then (if pn = 0 then n :: X else (X.takeWhile fun x => decide (x ≠ pn)) ++ pn :: n :: (X.dropWhile fun x => decide (x ≠ pn)).tail, { g with put := g.put + 1 }) else (X, g)
  | _ => (X, g)
def lstMine : Lk → List Int
  | .ga _ f | .gb _ f _ _ _ _ | .ls _ f _ _ _ _ _ _ | .lo _ f _ _ _ _ _ _ _ | .cu _ f _ _ _ _ _ | .rr _ f _ _ _ _ _ => mineF f
  | .p1 _ _ n _ _ | .p2 _ _ n _ _ | .p0 _ _ n _ _ | .cp _ _ n _ _ => [n]
  | _ => []
def lstDead : Lk → List Int
  | .rx n _ => [n]
  | _ => []
def lstZ : Sp Lk LstG where
  mine := lstMine
  dead := lstDead
  zero := fun k => match k with
    | .ry _ => True
    | _ => False
  gad := fun k i c => match k with
    | .ga _ _ => i = 0 ∧ c = .ob hd
    | .gb _ _ _ b _ cur => i = b ∧ c = .nd cur 0
    | _ => False
  SI := LstSI hd N
  KL := fun W X _ P k => lstKL N W X P k
  GL := fun W X _ P k i _ v => lstGL N W X P k i v
  nx := lstNx hd
/-! ### What others see of a step -/
structure Evo (W W' : Ws) (X X' : List Int) (D : Int → Prop) (mi : List Int) : Prop where
  key : ∀ n, n ∈ X ∨ D n → W'.nd n 1 = W.nd n 1 ∧ W'.nd n 2 = W.nd n 2
  mw : ∀ n, n ∈ X ∨ D n → 65536 ≤ W.nd n 0 → W'.nd n 0 = W.nd n 0
  mi : ∀ n, n ∉ X → ¬ D n → n ∉ mi → ∀ i, W'.nd n i = W.nd n i
  sub : ∀ n, n ∈ X ∨ D n → n ∈ X' → n ∈ X
end
section
variable {hd : Int} {N : Nat} {W W' : Ws} {X X' : List Int} {D : Int → Prop} {mi : List Int} {P : Int → Int → Prop}
theorem PN.mono {P' : Int → Int → Prop} {i n : Int} (h : PN N P i n) (hP : ∀ i n, P i n → P' i n) : PN N P' i n := h.imp id fun h => ⟨h.1, h.2.1, hP _ _ h.2.2⟩
theorem PN.at_ {i n : Int} (hP : ∀ i n, P i n → n ∈ X ∨ D n) (h : PN N P i n) : n = 0 ∨ n ∈ X ∨ D n := h.imp id fun h => hP _ _ h.2.2
variable (hE : Evo W W' X X' D mi)
include hE
theorem Evo.kp {o pn i : Int} (hP : ∀ i n, P i n → n ∈ X ∨ D n) (hp : PN N P i pn) (h : Kp W o pn) : Kp W' o pn := by
  rcases h with h | h
  · exact .inl h
  · rcases hp with hp | hp
    · exact .inl hp
    · exact .inr (by rw [(hE.key pn (hP _ _ hp.2.2)).1]; exact h)
theorem Evo.fk {o : Int} {f : Fk} (hm : ∀ n ∈ mineF f, n ∉ X ∧ ¬ D n ∧ n ∉ mi) (h : FkOk W o f) : FkOk W' o f := by
  cases f with
  | put v n =>
    refine ⟨h.1, fun hn => ?_⟩
    have h1 := hm n (by simp [mineF, mineL, hn])
    rw [hE.mi n h1.1 h1.2.1 h1.2.2, hE.mi n h1.1 h1.2.1 h1.2.2]
    exact h.2 hn
  | _ => trivial
theorem Evo.fnd {o : Int} {f : Fk} {a b pn cur : Int} (hP : ∀ i n, P i n → n ∈ X ∨ D n) (hm : ∀ n ∈ mineF f, n ∉ X ∧ ¬ D n ∧ n ∉ mi) (h : Fnd N W P o f a b pn cur) : Fnd N W' P o f a b pn cur := ⟨hE.fk hm h.fk, h.ab, h.c1, h.cN, h.pc, h.pp, hE.kp hP h.pp h.kp⟩
theorem Evo.beh {o pn cur : Int} (hP : ∀ i n, P i n → n ∈ X ∨ D n) (h : Beh N W P o pn cur) : Beh N W' P o pn cur := by
  obtain ⟨⟨i, h1⟩, ⟨j, h2⟩, h3, h4⟩ := h
  refine ⟨⟨i, h1⟩, ⟨j, h2⟩, hE.kp hP h1 h3, ?_⟩
  rcases h4 with h4 | h4
  · exact .inl h4
  · rcases h2 with h2 | h2
    · exact .inl h2
    · exact .inr (by rw [(hE.key cur (hP _ _ h2.2.2)).1]; exact h4)
theorem Evo.at_ {o pn cur : Int} (hP : ∀ i n, P i n → n ∈ X ∨ D n) (h : At N W P o pn cur) : At N W' P o pn cur := by
  obtain ⟨h1, hc, ⟨i, h2⟩, ⟨j, h3⟩, h4, h5⟩ := h
  exact ⟨h1, hc, ⟨i, h2⟩, ⟨j, h3⟩, hE.kp hP h3 h4, by rw [(hE.key cur (hP _ _ h2)).1]; exact h5⟩
theorem Evo.marked {w n : Int} (hn : n ∈ X ∨ D n) (hw : Wf N w) (h : (ofW w).mark = true → W.nd n 0 = w) : (ofW w).mark = true → W'.nd n 0 = w := fun hm => by
  have h1 := h hm
  have h2 := hw.mark.1 hm
  have h3 := ofW_idx w
  rw [hE.mw n hn (by omega)]
  exact h1
theorem Evo.kl {k : Lk} (hP : ∀ i n, P i n → n ∈ X ∨ D n) (hm : ∀ n ∈ lstMine k, n ∉ X ∧ ¬ D n ∧ n ∉ mi) (h : lstKL N W X P k) : lstKL N W' X' P k := by
  cases k with
  | ga o f => exact hE.fk hm h
  | gb o f a b pn cur => exact hE.fnd hP hm h
  | ls o f a b pn cur w t =>
    obtain ⟨h1, h2, h3, h4⟩ := h
    exact ⟨hE.fnd hP hm h1, h2, fun hx => h3 (hE.sub cur (hP _ _ h1.pc) hx), hE.marked (hP _ _ h1.pc) h2 h4⟩
  | lo o f a b pn cur w t k =>
    obtain ⟨h1, h2, h3, h4⟩ := h
    exact ⟨hE.fnd hP hm h1, h2, h3, hE.marked (hP _ _ h1.pc) h2 h4⟩
  | cu o f a b pn cur w =>
    obtain ⟨h1, h2, h3, h4, h5⟩ := h
    exact ⟨hE.fnd hP hm h1, h2, h3, h4, hE.marked (hP _ _ h1.pc) h2 (fun _ => h5) h4⟩
  | rr o f a b pn nx pt =>
    obtain ⟨h1, h2, h3, h4, h5⟩ := h
    exact ⟨hE.fk hm h1, h2, h3, h4, hE.kp hP h4 h5⟩
  | gv o cur pt =>
    obtain ⟨h1, hc, ⟨i, h2⟩, h3⟩ := h
    exact ⟨h1, hc, ⟨i, h2⟩, by rw [(hE.key cur (hP _ _ h2)).1]; exact h3⟩
  | tk o v pn cur => exact hE.beh hP h
  | p1 o v n pn cur => exact ⟨hE.beh hP h.1, h.2⟩
  | p2 o v n pn cur =>
    obtain ⟨h1, h2, h3⟩ := h
    have hn := hm n (by simp [lstMine])
    exact ⟨hE.beh hP h1, h2, by rw [hE.mi n hn.1 hn.2.1 hn.2.2]; exact h3⟩
  | p0 o v n pn cur =>
    obtain ⟨h1, h2, h3, h4⟩ := h
    have hn := hm n (by simp [lstMine])
    exact ⟨hE.beh hP h1, h2, by rw [hE.mi n hn.1 hn.2.1 hn.2.2]; exact h3, by rw [hE.mi n hn.1 hn.2.1 hn.2.2]; exact h4⟩
  | cp o v n pn cur =>
    obtain ⟨h1, h2, h3, h4, h5⟩ := h
    have hn := hm n (by simp [lstMine])
    exact ⟨hE.beh hP h1, h2, by rw [hE.mi n hn.1 hn.2.1 hn.2.2]; exact h3, by rw [hE.mi n hn.1 hn.2.1 hn.2.2]; exact h4, by rw [hE.mi n hn.1 hn.2.1 hn.2.2]; exact h5⟩
  | cm o pn cur w =>
    obtain ⟨h1, h2, h3⟩ := h
    exact ⟨hE.at_ hP h1, h2, h3⟩
  | cd o pn cur nx at_ =>
    obtain ⟨h1, h2, h3, h4⟩ := h
    obtain ⟨i, h5⟩ := h1.pc
    exact ⟨hE.at_ hP h1, by rw [hE.mw cur (hP _ _ h5) (by omega)]; exact h2, h3, h4⟩
  | _ => trivial
theorem Evo.gl {k : Lk} {i v : Int} (hk : ∃ P', (∀ i n, P' i n → n ∈ X ∨ D n) ∧ lstKL N W X P' k) (h : lstGL N W X P k i v) : lstGL N W' X' P k i v := by
  cases k with
  | ga o f => exact h
  | gb o f a b pn cur =>
    obtain ⟨P', hP', hk⟩ := hk
    obtain ⟨h1, h2, h3⟩ := h
    have hc := hP' _ _ hk.pc
    exact ⟨h1, fun hx => h2 (hE.sub cur hc hx), hE.marked hc h1 h3⟩
  | _ => trivial
end
end Go.Proofs.Ytefagncaepallaa
/- Lists: what each kind of step does to them. -/
namespace Go.Proofs.Ytefagncaepallaa
set_option maxRecDepth 100000

theorem linked_cut {nx : Int → Int} : ∀ {A B : List Int}, Linked nx (A ++ B) → Linked nx B
  | [], _, h => h
  | _ :: A, _, h => linked_cut (A := A) h.2
/-- What is behind a node is another chain now. -/
theorem linked_join {nx nx' : Int → Int} {p : Int} {C B : List Int} : ∀ {A : List Int}, Linked nx (A ++ p :: C) → (∀ x ∈ A, nx' x = nx x) → nx' p = B.headD 0 → Linked nx' B → Linked nx' (A ++ p :: B)
  | [], _, _, hp, hB => ⟨hp, hB⟩
  | a :: A, h, hA, hp, hB => by
    refine ⟨?_, linked_join h.2 (fun x hx => hA x (by simp [hx])) hp hB⟩
    rw [hA a (by simp), h.1]
    cases A <;> rfl
theorem split_mem {X : List Int} {n : Int} (h : n ∈ X) (hd : X.Nodup) : ∃ A B, X = A ++ n :: B ∧ n ∉ A ∧ n ∉ B := by
  obtain ⟨A, B, rfl⟩ := List.append_of_mem h
  rw [List.nodup_append] at hd
  exact ⟨A, B, rfl, fun hA => hd.2.2 n hA n (by simp) rfl, (List.nodup_cons.1 hd.2.1).1⟩
theorem nd_set {W : Ws} {n i v m j : Int} : (W.setNd n i v).nd m j = if m = n ∧ j = i then v else W.nd m j := rfl
theorem ob_set {W : Ws} {c v d : Int} : (W.setOb c v).ob d = if d = c then v else W.ob d := rfl
section
variable {hd : Int} {N K : Nat} {W : Ws} {X : List Int} {D : Int → Prop} {g : LstG}
/-- Where a node stands: behind the head, or behind another one. -/
structure Stand (W : Ws) (X : List Int) (pn c : Int) (A B : List Int) : Prop where
  eq : X = A ++ B
  hB : B.headD 0 = c
  hA : (pn = 0 ∧ A = []) ∨ (1 ≤ pn ∧ ∃ A', A = A' ++ [pn])
theorem stand (h : LstSI hd N K W X D g) (hN : N ≤ 100) (hXd : X.Nodup) {pn c : Int} (hp : pn = 0 ∨ pn ∈ X ∨ D pn) (hb : ∀ n, n ∈ X ∨ D n → 1 ≤ n ∧ n ≤ (N : Int)) (hw : W.get (prevA hd pn) = c) (h0 : 0 ≤ c) (h1 : c ≤ N) : ∃ A B, Stand W X pn c A B := by
  by_cases hp0 : pn = 0
  · subst hp0
    exact ⟨[], X, rfl, by rw [← h.head]; exact hw, .inl ⟨rfl, rfl⟩⟩
  · have hw' : W.nd pn 0 = c := by unfold prevA at hw; rw [if_neg hp0] at hw; exact hw
    have hpX : pn ∈ X := by
      rcases hp with hp | hp | hp
      · exact absurd hp hp0
      · exact hp
      · have := h.dead pn hp; omega
    obtain ⟨A, B, hX, _, _⟩ := split_mem hpX hXd
    refine ⟨A ++ [pn], B, by rw [hX]; simp, ?_, .inr ⟨(hb pn (.inl hpX)).1, A, rfl⟩⟩
    have hl := h.link
    rw [hX] at hl
    have hl1 : W.nd pn 0 % 65536 = B.headD 0 := (linked_cut hl).1
    rw [← hl1, hw']
    omega
theorem Stand.inX {pn c : Int} {A B : List Int} (h : Stand W X pn c A B) (hc : c ≠ 0) : ∃ B', B = c :: B' ∧ c ∈ X := by
  cases B with
  | nil => exact absurd h.hB.symm hc
  | cons b B' =>
    have : b = c := h.hB
    subst this
    exact ⟨B', rfl, by rw [h.eq]; simp⟩
theorem get_prev {pn : Int} : W.get (prevA hd pn) = if pn = 0 then W.ob hd else W.nd pn 0 := by unfold prevA; split <;> rfl
theorem put_ob {pn v c : Int} : (W.put (prevA hd pn) v).ob c = if pn = 0 ∧ c = hd then v else W.ob c := by
  unfold prevA
  by_cases h : pn = 0
  · rw [if_pos h]
    show (W.setOb hd v).ob c = _
    rw [ob_set]
    by_cases e : c = hd
    · rw [if_pos e, if_pos ⟨h, e⟩]
    · rw [if_neg e, if_neg (fun hh => e hh.2)]
  · rw [if_neg h, if_neg (fun hh => h hh.1)]; rfl
theorem put_nd {pn v m j : Int} : (W.put (prevA hd pn) v).nd m j = if pn ≠ 0 ∧ m = pn ∧ j = 0 then v else W.nd m j := by
  unfold prevA
  by_cases h : pn = 0
  · rw [if_pos h, if_neg (fun hh => hh.1 h)]; rfl
  · rw [if_neg h]
    show (W.setNd pn 0 v).nd m j = _
    rw [nd_set]
    by_cases e : m = pn ∧ j = 0
    · rw [if_pos e, if_pos ⟨h, e⟩]
    · rw [if_neg e, if_neg (fun hh => e hh.2)]
/-- What is behind a node, or the head, is another chain now. -/
theorem relink (h : LstSI hd N K W X D g) (hN : N ≤ 100) {pn c v : Int} {A B C : List Int} (hs : Stand W X pn c A C) (hXd : X.Nodup) (hv : v = B.headD 0) (h0 : 0 ≤ v) (h1 : v ≤ N) (hpB : pn ∉ B) (hB : Linked (fun n => W.nd n 0 % 65536) B) : (W.put (prevA hd pn) v).ob hd = (A ++ B).headD 0 ∧ Linked (fun n => (W.put (prevA hd pn) v).nd n 0 % 65536) (A ++ B) := by
  have hB' : Linked (fun n => (W.put (prevA hd pn) v).nd n 0 % 65536) B := hB.same fun x hx => by
    rw [put_nd, if_neg (fun hh : pn ≠ 0 ∧ x = pn ∧ (0 : Int) = 0 => hpB (hh.2.1 ▸ hx))]
  rcases hs.hA with ⟨hp, rfl⟩ | ⟨hp, A', rfl⟩
  · subst hp
    exact ⟨by rw [put_ob, if_pos ⟨rfl, rfl⟩]; exact hv, hB'⟩
  · have hp0 : pn ≠ 0 := by omega
    have hl := h.link
    have he := hs.eq
    rw [List.append_assoc, List.singleton_append] at he
    rw [he] at hl hXd
    have hpA : pn ∉ A' := by
      rw [List.nodup_append] at hXd
      exact fun hh => hXd.2.2 pn hh pn (by simp) rfl
    rw [List.append_assoc, List.singleton_append]
    refine ⟨?_, linked_join hl (fun x hx => ?_) ?_ hB'⟩
    · rw [put_ob, if_neg (fun hh => hp0 hh.1), h.head, he]
      cases A' <;> rfl
    · rw [put_nd, if_neg (fun hh : pn ≠ 0 ∧ x = pn ∧ (0 : Int) = 0 => hpA (hh.2.1 ▸ hx))]
    · rw [put_nd, if_pos ⟨hp0, rfl, rfl⟩, hv]
      omega
/-- The word ahead of a node: others see nothing else of it. -/
theorem put_evo {pn v : Int} {X' mi : List Int} (hp : pn = 0 ∨ pn ∈ X ∨ D pn) (hlt : W.get (prevA hd pn) < 65536) (hsub : ∀ n, n ∈ X ∨ D n → n ∈ X' → n ∈ X) : Evo W (W.put (prevA hd pn) v) X X' D mi := by
  refine ⟨fun n hn => ⟨by rw [put_nd, if_neg (by omega)], by rw [put_nd, if_neg (by omega)]⟩, fun n hn hm => ?_, fun n hX hD _ i => ?_, hsub⟩
  · rw [put_nd, if_neg]
    rintro ⟨h1, h2, _⟩
    rw [get_prev, if_neg h1] at hlt
    rw [h2] at hm
    omega
  · rw [put_nd, if_neg]
    rintro ⟨h1, h2, _⟩
    rcases hp with hp | hp | hp
    · exact h1 hp
    · exact hX (h2 ▸ hp)
    · exact hD (h2 ▸ hp)
theorem wf_plain {v : Int} (h0 : 0 ≤ v) (h1 : v ≤ N) (hN : N ≤ 100) : Wf N v := by
  have := idx_small h0 (show v < 65536 by omega)
  exact ⟨.inl this.symm, by rw [this]; exact h1⟩
theorem wf_marked {v : Int} (h0 : 0 ≤ v) (h1 : v ≤ N) (hN : N ≤ 100) : Wf N (v + 65536) := by
  have := idx_marked h0 (show v < 65536 by omega)
  exact ⟨.inr (by rw [this]), by rw [this]; exact h1⟩
theorem head_rng (h : ∀ n ∈ X, 1 ≤ n ∧ n ≤ (N : Int)) : 0 ≤ X.headD 0 ∧ X.headD 0 ≤ (N : Int) := by
  cases X with
  | nil => simp
  | cons x X => have := h x (by simp); simp only [List.headD_cons]; omega
/-- A node that is out is taken out of its way. -/
theorem unlink_si (h : LstSI hd N K W X D g) (hN : N ≤ 100) (hXd : X.Nodup) (hDX : ∀ n, D n → n ∉ X) (hb : ∀ n, n ∈ X ∨ D n → 1 ≤ n ∧ n ≤ (N : Int)) {pn cur nx : Int} (hp : pn = 0 ∨ pn ∈ X ∨ D pn) (hc : 1 ≤ cur) (hc' : cur ≤ N) (hw : W.get (prevA hd pn) = cur) (hm : W.nd cur 0 = nx + 65536) (h0 : 0 ≤ nx) (h1 : nx ≤ N) {D' : Int → Prop} (hD' : ∀ n, D' n → D n ∨ n = cur) :
    cur ∈ X ∧ LstSI hd N (K + 1) (W.put (prevA hd pn) nx) (X.erase cur) D' { g with ret := g.ret + 1 } ∧ (∀ mi, Evo W (W.put (prevA hd pn) nx) X (X.erase cur) D mi) ∧ (∀ n, X.count n = (X.erase cur).count n + [cur].count n) ∧ ∃ A B, Stand W X pn cur A (cur :: B) ∧ X.erase cur = A ++ B ∧ B.headD 0 = nx := by
  obtain ⟨A, C, hs⟩ := stand h hN hXd hp hb hw (by omega) (by omega)
  obtain ⟨B, rfl, hcX⟩ := hs.inX (by omega)
  have hX := hs.eq
  have hnd := hXd
  rw [hX, List.nodup_append] at hnd
  have hcA : cur ∉ A := fun hh => hnd.2.2 cur hh cur (by simp) rfl
  have her : X.erase cur = A ++ B := by rw [hX, List.erase_append_right _ hcA, List.erase_cons_head]
  have hl := h.link
  rw [hX] at hl
  have hlB := linked_cut hl
  have hBn : B.headD 0 = nx := by have hl1 : W.nd cur 0 % 65536 = B.headD 0 := hlB.1; rw [hm] at hl1; omega
  have hpc : pn ≠ cur := fun e => by
    subst e
    rcases hs.hA with ⟨e, _⟩ | ⟨_, A', e⟩
    · omega
    · exact hcA (by rw [e]; simp)
  have hpB : pn ∉ B := fun hh => by
    rcases hs.hA with ⟨e, _⟩ | ⟨_, A', e⟩
    · have := h.rng pn (by rw [hX]; simp [hh]); omega
    · exact hnd.2.2 pn (by rw [e]; simp) pn (by simp [hh]) rfl
  have hrl := relink h hN hs hXd hBn.symm h0 h1 hpB hlB.2
  rw [← her] at hrl
  have hsub : ∀ n, n ∈ X.erase cur → n ∈ X := fun n hn => List.mem_of_mem_erase hn
  have hE : ∀ mi, Evo W (W.put (prevA hd pn) nx) X (X.erase cur) D mi := fun mi => put_evo hp (by rw [hw]; omega) (fun n _ hn => hsub n hn)
  have hkey : ∀ n, (W.put (prevA hd pn) nx).nd n 1 = W.nd n 1 := fun n => by rw [put_nd, if_neg (by omega)]
  refine ⟨hcX, ⟨hrl.1, hrl.2, fun n hn => ?_, fun n hn => ?_, ?_, fun n hn => h.rng n (hsub n hn), ?_, Nat.le_succ_of_le h.k⟩, hE, fun n => ?_, A, B, hs, her, hBn⟩
  · rw [put_nd]
    split
    · exact wf_plain h0 h1 hN
    · rcases hn with hn | hn
      · exact h.form n (.inl (hsub n hn))
      · rcases hD' n hn with hn | rfl
        · exact h.form n (.inr hn)
        · exact h.form n (.inl hcX)
  · rcases hD' n hn with hn | rfl
    · rw [(hE []).mw n (.inr hn) (h.dead n hn)]; exact h.dead n hn
    · rw [put_nd, if_neg (fun hh : pn ≠ 0 ∧ n = pn ∧ (0 : Int) = 0 => hpc hh.2.1.symm)]; omega
  · have := h.rise.sublist (List.erase_sublist (a := cur) (l := X))
    exact this.imp fun {x y} hxy => by rw [hkey, hkey]; exact hxy
  · have h2 := h.cnt
    have h3 := List.length_erase_of_mem hcX
    have h4 : 0 < X.length := List.length_pos_of_mem hcX
    simp only
    omega
  · rw [List.count_erase]
    have h4 := List.count_pos_iff.2 hcX
    by_cases e : n = cur
    · subst e; simp; omega
    · have e' : ¬ cur = n := fun hh => e hh.symm
      simp [e']
/-- A node is put in. -/
theorem insert_si (h : LstSI hd N K W X D g) (hK : g.put + 1 ≤ K + 1) (hN : N ≤ 100) (hXd : X.Nodup) (hb : ∀ n, n ∈ X ∨ D n → 1 ≤ n ∧ n ≤ (N : Int)) {pn cur n o : Int} (hp : pn = 0 ∨ pn ∈ X ∨ D pn) (hc : 0 ≤ cur) (hc' : cur ≤ N) (hw : W.get (prevA hd pn) = cur) (hn0 : 1 ≤ n) (hn1 : n ≤ N) (hnX : n ∉ X) (hnD : ¬ D n) (hno : W.nd n 1 = o) (hnc : W.nd n 0 = cur) (hkp : Kp W o pn) (hkc : cur = 0 ∨ o < W.nd cur 1) :
    ∃ A B, Stand W X pn cur A B ∧ LstSI hd N (K + 1) (W.put (prevA hd pn) n) (A ++ n :: B) D { g with put := g.put + 1 } ∧ (∀ mi, Evo W (W.put (prevA hd pn) n) X (A ++ n :: B) D mi) := by
  obtain ⟨A, B, hs⟩ := stand h hN hXd hp hb hw hc hc'
  have hX := hs.eq
  have hpn : pn ≠ n := fun e => by
    subst e
    rcases hp with hp | hp | hp
    · omega
    · exact hnX hp
    · exact hnD hp
  have hnd := hXd
  rw [hX, List.nodup_append] at hnd
  have hpB : pn ∉ n :: B := fun hh => by
    rw [List.mem_cons] at hh
    rcases hh with hh | hh
    · exact hpn hh
    · rcases hs.hA with ⟨e, _⟩ | ⟨_, A', e⟩
      · have := h.rng pn (by rw [hX]; simp [hh]); omega
      · exact hnd.2.2 pn (by rw [e]; simp) pn hh rfl
  have hl := h.link
  rw [hX] at hl
  have hlB : Linked (fun n => W.nd n 0 % 65536) (n :: B) := ⟨by show W.nd n 0 % 65536 = B.headD 0; rw [hs.hB, hnc]; omega, linked_cut hl⟩
  have hrl := relink h hN (B := n :: B) (v := n) hs hXd rfl (by omega) hn1 hpB hlB
  have hmem : ∀ x, x ∈ A ++ n :: B ↔ x ∈ X ∨ x = n := fun x => by
    rw [hX]; simp only [List.mem_append, List.mem_cons]
    constructor
    · rintro (h | h | h)
      · exact .inl (.inl h)
      · exact .inr h
      · exact .inl (.inr h)
    · rintro ((h | h) | h)
      · exact .inl h
      · exact .inr (.inr h)
      · exact .inr (.inl h)
  have hE : ∀ mi, Evo W (W.put (prevA hd pn) n) X (A ++ n :: B) D mi := fun mi => put_evo hp (by rw [hw]; omega) (fun x hx hx' => by
    rcases (hmem x).1 hx' with h1 | rfl
    · exact h1
    · exact hx.elim id fun hh => absurd hh hnD)
  have hkey : ∀ n', (W.put (prevA hd pn) n).nd n' 1 = W.nd n' 1 := fun n' => by rw [put_nd, if_neg (by omega)]
  refine ⟨A, B, hs, ⟨hrl.1, hrl.2, fun x hx => ?_, fun x hx => ?_, ?_, fun x hx => ?_, ?_, hK⟩, hE⟩
  · rw [put_nd]
    split
    · exact wf_plain (by omega) hn1 hN
    · rcases hx with hx | hx
      · rcases (hmem x).1 hx with h1 | rfl
        · exact h.form x (.inl h1)
        · rw [hnc]; exact wf_plain hc hc' hN
      · exact h.form x (.inr hx)
  · rw [(hE []).mw x (.inr hx) (h.dead x hx)]; exact h.dead x hx
  · have hr := h.rise
    rw [hX, List.pairwise_append] at hr
    obtain ⟨r1, r2, r3⟩ := hr
    rw [List.pairwise_append]
    have hAo : ∀ x ∈ A, W.nd x 1 < o := fun x hx => by
      rcases hs.hA with ⟨_, e⟩ | ⟨hp1, A', e⟩
      · rw [e] at hx; simp at hx
      · have hko : W.nd pn 1 < o := hkp.resolve_left (by omega)
        rw [e] at hx r1
        rw [List.pairwise_append] at r1
        rcases List.mem_append.1 hx with hx | hx
        · have := r1.2.2 x hx pn (by simp); omega
        · simp at hx; rw [hx]; exact hko
    have hBo : ∀ x ∈ B, o < W.nd x 1 := fun x hx => by
      have hB := hs.hB
      cases B with
      | nil => simp at hx
      | cons b B =>
        have hbc : b = cur := hB
        have hb0 := (h.rng b (by rw [hX]; simp)).1
        have hko : o < W.nd b 1 := by rw [hbc]; exact hkc.resolve_left (by omega)
        rw [List.mem_cons] at hx
        rcases hx with rfl | hx
        · exact hko
        · have := (List.pairwise_cons.1 r2).1 x hx; omega
    refine ⟨r1.imp fun {x y} hxy => by rw [hkey, hkey]; exact hxy, List.pairwise_cons.2 ⟨fun x hx => ?_, r2.imp fun {x y} hxy => by rw [hkey, hkey]; exact hxy⟩, fun x hx y hy => ?_⟩
    · rw [hkey, hkey, hno]; exact hBo x hx
    · rw [hkey, hkey]
      rw [List.mem_cons] at hy
      rcases hy with rfl | hy
      · rw [hno]; exact hAo x hx
      · exact r3 x hx y hy
  · rcases (hmem x).1 hx with h1 | rfl
    · exact h.rng x h1
    · exact ⟨hn0, hn1⟩
  · have h2 := h.cnt
    rw [hX] at h2
    simp only [List.length_append, List.length_cons] at h2 ⊢
    omega
/-- A node is out. -/
theorem mark_si (h : LstSI hd N K W X D g) (hN : N ≤ 100) {cur w : Int} (hc : cur ∈ X ∨ D cur) (hw : Wf N w) (hm : ¬ (ofW w).mark = true) (he : W.nd cur 0 = w) :
    cur ∈ X ∧ LstSI hd N (K + 1) (W.setNd cur 0 ((ofW w).idx + 65536)) X D g ∧ (∀ mi, Evo W (W.setNd cur 0 ((ofW w).idx + 65536)) X X D mi) := by
  have hp := hw.plain.1 hm
  have hi := ofW_idx w
  have hle := hw.2
  have hX : cur ∈ X := hc.elim id fun hD => by have := h.dead cur hD; omega
  have hne : ∀ x j, ¬ (x = cur ∧ j = 0) → (W.setNd cur 0 ((ofW w).idx + 65536)).nd x j = W.nd x j := fun x j hx => by rw [nd_set, if_neg hx]
  have hE : ∀ mi, Evo W (W.setNd cur 0 ((ofW w).idx + 65536)) X X D mi := fun mi => ⟨fun n _ => ⟨hne n 1 (by omega), hne n 2 (by omega)⟩, fun n _ hn => hne n 0 (fun hh => by rw [hh.1] at hn; omega), fun n h1 _ _ i => hne n i (fun hh => h1 (hh.1 ▸ hX)), fun _ _ h => h⟩
  refine ⟨hX, ⟨h.head, h.link.same fun x hx => ?_, fun x hx => ?_, fun x hx => ?_, h.rise.imp fun {x y} hxy => by rw [hne x 1 (by omega), hne y 1 (by omega)]; exact hxy, h.rng, h.cnt, Nat.le_succ_of_le h.k⟩, hE⟩
  · rw [nd_set]
    split
    · rename_i hh; rw [hh.1]; omega
    · rfl
  · rw [nd_set]
    split
    · exact wf_marked hi.1 hle hN
    · exact h.form x hx
  · rw [(hE []).mw x (.inr hx) (h.dead x hx)]; exact h.dead x hx
/-- A node of one's own is written. -/
theorem write_si (h : LstSI hd N K W X D g) {n i v : Int} (hnX : n ∉ X) (hnD : ¬ D n) : LstSI hd N (K + 1) (W.setNd n i v) X D g ∧ Evo W (W.setNd n i v) X X D [n] := by
  have hne : ∀ x j, x ≠ n → (W.setNd n i v).nd x j = W.nd x j := fun x j hx => by rw [nd_set, if_neg (fun hh : x = n ∧ _ => hx hh.1)]
  have hX : ∀ x, x ∈ X ∨ D x → x ≠ n := fun x hx e => by subst e; exact hx.elim hnX hnD
  refine ⟨⟨h.head, h.link.same fun x hx => by rw [hne x 0 (hX x (.inl hx))], fun x hx => by rw [hne x 0 (hX x hx)]; exact h.form x hx, fun x hx => by rw [hne x 0 (hX x (.inr hx))]; exact h.dead x hx, ?_, h.rng, h.cnt, Nat.le_succ_of_le h.k⟩, ⟨fun x hx => ⟨hne x 1 (hX x hx), hne x 2 (hX x hx)⟩, fun x hx _ => hne x 0 (hX x hx), fun x _ _ h3 j => hne x j (by simpa using h3), fun _ _ h => h⟩⟩
  exact List.Pairwise.imp_of_mem (fun {x y} hx hy hxy => by rw [hne x 1 (hX x (.inl hx)), hne y 1 (hX y (.inl hy))]; exact hxy) h.rise
end
end Go.Proofs.Ytefagncaepallaa
/- Lists: each access keeps what holds. -/
namespace Go.Proofs.Ytefagncaepallaa
set_option maxRecDepth 100000

section
variable {hd : Int} {l : LayT} {S N K : Nat} {W : Ws} {X : List Int} {D : Int → Prop} {g : LstG} {P P' : Int → Int → Prop}
/-- Where the head lies. -/
structure LstLay (l : LayT) (S : Nat) (hd : Int) : Prop where
  h1 : 4 + 5 * (S : Int) ≤ hd
  h2 : hd < l.node
theorem Fnd.mono {o : Int} {f : Fk} {a b pn cur : Int} (h : Fnd N W P o f a b pn cur) (hP : ∀ i n, P i n → P' i n) : Fnd N W P' o f a b pn cur := ⟨h.fk, h.ab, h.c1, h.cN, hP _ _ h.pc, h.pp.mono hP, h.kp⟩
theorem Beh.mono {o pn cur : Int} (h : Beh N W P o pn cur) (hP : ∀ i n, P i n → P' i n) : Beh N W P' o pn cur := ⟨h.pp.imp fun _ h => h.mono hP, h.pc.imp fun _ h => h.mono hP, h.kp, h.kc⟩
theorem At.mono {o pn cur : Int} (h : At N W P o pn cur) (hP : ∀ i n, P i n → P' i n) : At N W P' o pn cur := ⟨h.c1, h.cN, h.pc.imp fun _ h => hP _ _ h, h.pp.imp fun _ h => h.mono hP, h.kp, h.kc⟩
theorem lstKL_mono {k : Lk} (h : lstKL N W X P k) (hP : ∀ i n, P i n → P' i n) : lstKL N W X P' k := by
  cases k with
  | gb o f a b pn cur => exact Fnd.mono h hP
  | ls o f a b pn cur w t => exact ⟨h.1.mono hP, h.2.1, fun hx => (h.2.2.1 hx).mono hP, h.2.2.2⟩
  | lo o f a b pn cur w t k => exact ⟨h.1.mono hP, h.2.1, h.2.2.1.mono hP, h.2.2.2⟩
  | cu o f a b pn cur w => exact ⟨h.1.mono hP, h.2.1, h.2.2.1.mono hP, h.2.2.2⟩
  | rr o f a b pn nx pt => exact ⟨h.1, h.2.1, h.2.2.1.mono hP, h.2.2.2.1.mono hP, h.2.2.2.2⟩
  | gv o cur pt => exact ⟨h.1, h.2.1, h.2.2.1.imp fun _ h => hP _ _ h, h.2.2.2⟩
  | tk o v pn cur => exact Beh.mono h hP
  | p1 o v n pn cur => exact ⟨h.1.mono hP, h.2⟩
  | p2 o v n pn cur => exact ⟨h.1.mono hP, h.2⟩
  | p0 o v n pn cur => exact ⟨h.1.mono hP, h.2⟩
  | cp o v n pn cur => exact ⟨h.1.mono hP, h.2⟩
  | cm o pn cur w => exact ⟨h.1.mono hP, h.2⟩
  | cd o pn cur nx a => exact ⟨h.1.mono hP, h.2⟩
  | _ => exact h
theorem lstGL_mono {k : Lk} {i v : Int} (h : lstGL N W X P k i v) (hP : ∀ i n, P i n → P' i n) : lstGL N W X P' k i v := by
  cases k with
  | ga o f => exact PN.mono h hP
  | gb o f a b pn cur => exact ⟨h.1, fun hx => (h.2.1 hx).mono hP, h.2.2⟩
  | _ => exact h
/-! ### Where a finding ends, and where it goes on -/
structure EndsL (hd : Int) (l : LayT) (S N : Nat) (W : Ws) (X : List Int) (g : LstG) (P : Int → Int → Prop) (s : PsT) (f : Fk) (pc : Pc Lk) : Prop where
  ok : OkE (lstZ hd N) l S N W X g P s pc
  mine : mineP (lstZ hd N) pc = mineF f
  dead : deadP (lstZ hd N) pc = []
theorem exN_ok {s : PsT} {o : Int} {f : Fk} {pn cur pt : Int} (hf : FkOk W o f) (hb : Beh N W P o pn cur) : EndsL hd l S N W X g P s f (exN o f pn cur pt) := by
  unfold exN
  cases f with
  | get => exact ⟨trivial, rfl, rfl⟩
  | put v n =>
    simp only
    split
    · rename_i h; subst h; exact ⟨⟨hb, fun h => absurd h id⟩, rfl, rfl⟩
    · rename_i h
      obtain ⟨h1, h2⟩ := hf
      exact ⟨⟨⟨hb, by omega, (h2 h).1, (h2 h).2⟩, fun h => absurd h id⟩, by simp [mineP, lstZ, lstMine, mineF, mineL, h], rfl⟩
  | del => exact ⟨trivial, rfl, rfl⟩
  | fin a => exact ⟨trivial, rfl, rfl⟩
theorem exY_ok {s : PsT} {o : Int} {f : Fk} {pn cur w pt : Int} (ha : At N W P o pn cur) (hw : Wf N w) (hm : ¬ (ofW w).mark = true) : EndsL hd l S N W X g P s f (exY o f pn cur w pt) := by
  unfold exY
  cases f with
  | get => exact ⟨⟨⟨ha.c1, ha.cN, ha.pc, ha.kc⟩, fun h => absurd h id⟩, rfl, rfl⟩
  | put v n =>
    simp only
    split
    · rename_i h; subst h; exact ⟨trivial, rfl, rfl⟩
    · rename_i h; exact ⟨⟨trivial, fun h => absurd h id⟩, by simp [mineP, lstZ, lstMine, mineF, mineL, h], rfl⟩
  | del => exact ⟨⟨⟨ha, hw, hm⟩, fun h => absurd h id⟩, rfl, rfl⟩
  | fin a => exact ⟨trivial, rfl, rfl⟩
theorem goW_ok {s : PsT} {o : Int} {f : Fk} {a b pn cur pt : Int} (hf : FkOk W o f) (hab : Ab a b) (hc : PN N P a cur) (hp : PN N P (3 - a - b) pn) (hk : Kp W o pn) : EndsL hd l S N W X g P s f (goW o f a b pn cur pt) := by
  unfold goW
  split
  · exact exN_ok hf ⟨⟨_, hp⟩, ⟨a, .inl rfl⟩, hk, .inl rfl⟩
  · rename_i h0
    have hc := hc.resolve_left h0
    obtain ⟨a1, a2, a3, a4, a5⟩ := hab
    exact ⟨⟨⟨hf, ⟨a1, a2, a3, a4, a5⟩, hc.1, hc.2.1, ⟨a5, hc.2.2⟩, hp.imp id fun h => ⟨h.1, h.2.1, by omega, h.2.2⟩, hk⟩, (fun h => absurd h id), a3, a4, ⟨hc.1, hc.2.1, by omega, by omega⟩, rfl, rfl⟩, rfl, rfl⟩
theorem anew_ok (hLy : LstLay l S hd) {s : PsT} {o : Int} {f : Fk} (hf : FkOk W o f) : EndsL hd l S N W X g P s f (anew hd o f) :=
  ⟨⟨hf, (fun h => absurd h id), by omega, by omega, ⟨hLy.h1, hLy.h2⟩, rfl, rfl⟩, rfl, rfl⟩
/-! ### Steps -/
theorem still_ok {s : PsT} {k : Lk} {pc' : Pc Lk} (hSI : LstSI hd N K W X D g) (hD : ∀ n ∈ lstDead k, D n) (hok : OkE (lstZ hd N) l S N W X g P s pc') (hm : mineP (lstZ hd N) pc' = lstMine k) (hdd : deadP (lstZ hd N) pc' = lstDead k) : StepOk (lstZ hd N) l S N K W X D g P s k W X g pc' := by
  refine ⟨?_, hok, fun _ _ _ _ _ h => h, fun _ _ _ _ _ _ _ _ _ h => h, fun n => by rw [hm, hdd]; rfl, fun n h => .inl h, fun n h => by rw [hdd]; exact h⟩
  have hd' : ∀ n, D n ∨ n ∈ deadP (lstZ hd N) pc' → D n := fun n hn => hn.elim id fun h => hD n (by rw [← hdd]; exact h)
  exact ⟨hSI.head, hSI.link, fun n hn => hSI.form n (hn.imp id (hd' n)), fun n hn => hSI.dead n (hd' n hn), hSI.rise, hSI.rng, hSI.cnt, Nat.le_succ_of_le hSI.k⟩
theorem ends_ok {s : PsT} {k : Lk} {f : Fk} {pc' : Pc Lk} (hSI : LstSI hd N K W X D g) (hE : EndsL hd l S N W X g P s f pc') (hm : lstMine k = mineF f) (hdd : lstDead k = []) : StepOk (lstZ hd N) l S N K W X D g P s k W X g pc' :=
  still_ok hSI (fun n hn => by rw [hdd] at hn; simp at hn) hE.ok (hE.mine.trans hm.symm) (hE.dead.trans hdd.symm)
/-- A step that others see as growth. -/
theorem evo_ok {s : PsT} {k : Lk} {pc' : Pc Lk} {W' : Ws} {X' : List Int} {g' : LstG} (hE : Evo W W' X X' D (lstMine k)) (hSI : LstSI hd N (K + 1) W' X' (fun n => D n ∨ n ∈ deadP (lstZ hd N) pc') g') (hok : OkE (lstZ hd N) l S N W' X' g' P s pc')
    (hc : ∀ n, X'.count n + (mineP (lstZ hd N) pc').count n + (deadP (lstZ hd N) pc').count n = X.count n + (lstMine k).count n + (lstDead k).count n) (hX : ∀ n ∈ X, n ∈ X' ∨ n ∈ deadP (lstZ hd N) pc') (hdd : ∀ n ∈ lstDead k, n ∈ deadP (lstZ hd N) pc') : StepOk (lstZ hd N) l S N K W X D g P s k W' X' g' pc' :=
  ⟨hSI, hok, fun _ _ hP hm _ h => hE.kl hP hm h, fun k2 P2 i c v hP _ _ hk h => hE.gl ⟨offP P2 i, (fun j n hj => hP j n hj.2), hk⟩ h, hc, hX, hdd⟩
theorem LstSI.noD (h : LstSI hd N K W X D g) {pc : Pc Lk} (hp : deadP (lstZ hd N) pc = []) : LstSI hd N K W X (fun n => D n ∨ n ∈ deadP (lstZ hd N) pc) g := by
  have hd' : ∀ n, D n ∨ n ∈ deadP (lstZ hd N) pc → D n := fun n hn => hn.elim id fun h => by rw [hp] at h; simp at h
  exact ⟨h.head, h.link, fun n hn => h.form n (hn.imp id (hd' n)), fun n hn => h.dead n (hd' n hn), h.rise, h.rng, h.cnt, h.k⟩
theorem nx_ins {n pn cur : Int} {A B : List Int} (hs : Stand W X pn cur A B) (hXd : X.Nodup) : (if pn = 0 then n :: X else (X.takeWhile fun x => decide (x ≠ pn)) ++ pn :: n :: (X.dropWhile fun x => decide (x ≠ pn)).tail) = A ++ n :: B := by
  rcases hs.hA with ⟨hp, rfl⟩ | ⟨hp, A', rfl⟩
  · rw [if_pos hp, hs.eq]; rfl
  · rw [if_neg (by omega)]
    have he := hs.eq
    rw [List.append_assoc, List.singleton_append] at he
    subst he
    have hpA : ∀ x ∈ A', (decide (x ≠ pn)) = true := fun x hx => by
      rw [decide_eq_true_eq]
      rintro rfl
      rw [List.nodup_append] at hXd
      exact hXd.2.2 x hx x (by simp) rfl
    rw [List.takeWhile_append_of_pos hpA, List.dropWhile_append_of_pos hpA]
    simp
theorem lst_step (hLy : LstLay l S hd) (hN : N ≤ 100) {k : Lk} (s : PsT) (m : Nat) (hSI : LstSI hd N K W X D g) (hk : lstKL N W X P k) (hz : (lstZ hd N).zero k → s.z) (hP : ∀ i n, P i n → n ∈ X ∨ D n) (hb : ∀ n, n ∈ X ∨ n ∈ lstMine k ∨ D n → 1 ≤ n ∧ n ≤ (N : Int)) (hXd : X.Nodup)
    (hmi : ∀ n ∈ lstMine k, n ∉ X ∧ ¬ D n) (hDX : ∀ n, D n → n ∉ X) (hde : ∀ n ∈ lstDead k, D n) :
    StepOk (lstZ hd N) l S N K W X D g P s k (actW W (lstAsk hd k)).1 (lstNx hd W X g k).1 (lstNx hd W X g k).2 (lstTell hd k m (actW W (lstAsk hd k)).2) := by
  have noz : ∀ k2 : Lk, (∀ a, k2 ≠ .ry a) → (lstZ hd N).zero k2 → s.z := fun k2 h hz => by cases k2 <;> first | exact absurd hz id | exact absurd rfl (h _)
  have hbXD : ∀ n, n ∈ X ∨ D n → 1 ≤ n ∧ n ≤ (N : Int) := fun n hn => hb n (hn.imp id .inr)
  have hPN : ∀ {i n}, PN N P i n → n = 0 ∨ n ∈ X ∨ D n := fun h => h.at_ hP
  have pl : ∀ {n : Int}, 0 ≤ n → n ≤ N → plainW n = n := fun h0 h1 => plainW_eq h0 (by omega)
  cases k with
  | ga o f => exact still_ok hSI hde ⟨hk, noz _ (by simp)⟩ rfl rfl
  | gb o f a b pn cur => exact still_ok hSI hde ⟨hk, noz _ (by simp)⟩ rfl rfl
  | rr o f a b pn nx pt => exact still_ok hSI hde ⟨hk, noz _ (by simp)⟩ rfl rfl
  | tk o v pn cur => exact still_ok hSI hde ⟨hk, noz _ (by simp)⟩ rfl rfl
  | sv a => exact still_ok hSI hde ⟨hk, noz _ (by simp)⟩ rfl rfl
  | rx n a => exact still_ok hSI hde ⟨hk, noz _ (by simp)⟩ rfl rfl
  | ry a => exact still_ok hSI hde ⟨hk, hz⟩ rfl rfl
  | fi o => exact still_ok hSI hde ⟨hk, noz _ (by simp)⟩ rfl rfl
  | ls o f a b pn cur w t =>
    obtain ⟨h1, h2, h3, h4⟩ := hk
    show StepOk (lstZ hd N) l S N K W X D g P s _ W X g (if W.get (prevA hd pn) = plainW cur then _ else _)
    rw [pl (by have := h1.c1; omega) h1.cN]
    by_cases hc : W.get (prevA hd pn) = cur
    · rw [if_pos hc]
      obtain ⟨A, B, hs⟩ := stand hSI hN hXd (hPN h1.pp) hbXD hc (by have := h1.c1; omega) h1.cN
      obtain ⟨_, _, hcX⟩ := hs.inX (by have := h1.c1; omega)
      exact still_ok hSI hde ⟨⟨h1, h2, h3 hcX, h4⟩, noz _ (by simp)⟩ rfl rfl
    · rw [if_neg hc]
      exact ends_ok hSI (anew_ok hLy h1.fk) rfl rfl
  | lo o f a b pn cur w t kk =>
    obtain ⟨h1, h2, h3, h4⟩ := hk
    show StepOk (lstZ hd N) l S N K W X D g P s _ W X g (if (ofW w).mark then _ else if W.nd cur 1 < o then _ else if W.nd cur 1 = o then _ else _)
    by_cases hm : (ofW w).mark = true
    · rw [if_pos hm]
      exact still_ok hSI hde ⟨⟨h1, h2, h3, hm, h4 hm⟩, noz _ (by simp)⟩ rfl rfl
    · rw [if_neg hm]
      by_cases hlt : W.nd cur 1 < o
      · rw [if_pos hlt]
        obtain ⟨a1, a2, a3, a4, a5⟩ := h1.ab
        refine ends_ok hSI (goW_ok h1.fk ⟨a3, a4, by omega, by omega, by omega⟩ h3 ?_ (.inr hlt)) rfl rfl
        rw [show 3 - b - (3 - a - b) = a by omega]
        exact .inr ⟨h1.c1, h1.cN, h1.pc⟩
      · rw [if_neg hlt]
        by_cases he : W.nd cur 1 = o
        · rw [if_pos he]
          exact ends_ok hSI (exY_ok ⟨h1.c1, h1.cN, ⟨a, h1.pc⟩, ⟨_, h1.pp⟩, h1.kp, he⟩ h2 hm) rfl rfl
        · rw [if_neg he]
          exact ends_ok hSI (exN_ok h1.fk ⟨⟨_, h1.pp⟩, ⟨a, .inr ⟨h1.c1, h1.cN, h1.pc⟩⟩, h1.kp, .inr (by omega)⟩) rfl rfl
  | cu o f a b pn cur w =>
    obtain ⟨h1, h2, h3, h4, h5⟩ := hk
    have hw := h2.mark.1 h4
    have hi := ofW_idx w
    have hle := h2.2
    by_cases hc : W.get (prevA hd pn) = cur
    · have e0 : plainW cur = cur := pl (by have := h1.c1; omega) h1.cN
      have e0' : plainW (ofW w).idx = (ofW w).idx := pl hi.1 hle
      have e1 : actW W (lstAsk hd (.cu o f a b pn cur w)) = (W.put (prevA hd pn) (ofW w).idx, ⟨cur, true⟩) := by simp only [lstAsk, actW, e0, e0', hc, if_true]
      have e2 : lstNx hd W X g (.cu o f a b pn cur w) = (X.erase cur, { g with ret := g.ret + 1 }) := by simp only [lstNx, e0, hc, if_true]
      rw [e1, e2]
      obtain ⟨f1, f2, f3, f4, _⟩ := unlink_si hSI hN hXd hDX hbXD (hPN h1.pp) h1.c1 h1.cN hc (by rw [h5]; exact hw) hi.1 hle (D' := fun n => D n ∨ n ∈ [cur]) (fun n hn => hn.imp id fun h => by simpa using h)
      refine evo_ok (pc' := .r1 (.rr o f a b pn (ofW w).idx m) cur) (f3 _) ?_ ⟨⟨(f3 []).fk (fun n hn => ⟨(hmi n hn).1, (hmi n hn).2, by simp⟩) h1.fk, h1.ab, h3, h1.pp, (f3 []).kp hP h1.pp h1.kp⟩, noz _ (by simp)⟩ (fun n => ?_) (fun n hn => ?_) (fun n h => by simp [lstDead] at h)
      · exact f2
      · have := f4 n
        show (X.erase cur).count n + (mineF f).count n + [cur].count n = X.count n + (mineF f).count n + ([] : List Int).count n
        simp only [List.count_nil]
        omega
      · by_cases e : n = cur
        · exact .inr (by rw [e]; simp [deadP, lstZ, lstDead])
        · exact .inl ((List.mem_erase_of_ne e).2 hn)
    · have e0 : plainW cur = cur := pl (by have := h1.c1; omega) h1.cN
      have e1 : actW W (lstAsk hd (.cu o f a b pn cur w)) = (W, ⟨W.get (prevA hd pn), false⟩) := by simp only [lstAsk, actW, e0, hc, if_false]
      have e2 : lstNx hd W X g (.cu o f a b pn cur w) = (X, g) := by simp only [lstNx, e0, hc, if_false]
      rw [e1, e2]
      exact ends_ok (k := .cu o f a b pn cur w) hSI (anew_ok hLy h1.fk) rfl rfl
  | gv o cur pt => exact still_ok hSI hde trivial rfl rfl
  | p1 o v n pn cur =>
    obtain ⟨h1, h2⟩ := hk
    have hmn := hmi n (by simp [lstMine])
    obtain ⟨f1, f2⟩ := write_si hSI (i := 1) (v := o) hmn.1 hmn.2
    exact evo_ok (W' := W.setNd n 1 o) (pc' := .at_ (.p2 o v n pn cur)) f2 (f1.noD rfl) ⟨⟨f2.beh hP h1, h2, by rw [nd_set, if_pos ⟨rfl, rfl⟩]⟩, noz _ (by simp)⟩ (fun n => rfl) (fun n h => .inl h) (fun n h => h)
  | p2 o v n pn cur =>
    obtain ⟨h1, h2, h3⟩ := hk
    have hmn := hmi n (by simp [lstMine])
    obtain ⟨f1, f2⟩ := write_si hSI (i := 2) (v := v) hmn.1 hmn.2
    exact evo_ok (W' := W.setNd n 2 v) (pc' := .at_ (.p0 o v n pn cur)) f2 (f1.noD rfl) ⟨⟨f2.beh hP h1, h2, by rw [nd_set, if_neg (by omega)]; exact h3, by rw [nd_set, if_pos ⟨rfl, rfl⟩]⟩, noz _ (by simp)⟩ (fun n => rfl) (fun n h => .inl h) (fun n h => h)
  | p0 o v n pn cur =>
    obtain ⟨h1, h2, h3, h4⟩ := hk
    have hmn := hmi n (by simp [lstMine])
    obtain ⟨i, hi⟩ := h1.pc
    have hcb : 0 ≤ cur ∧ cur ≤ N := by
      rcases hi with rfl | hi
      · omega
      · omega
    have e0 : plainW cur = cur := pl hcb.1 hcb.2
    obtain ⟨f1, f2⟩ := write_si hSI (i := 0) (v := plainW cur) hmn.1 hmn.2
    exact evo_ok (W' := W.setNd n 0 (plainW cur)) (pc' := .at_ (.cp o v n pn cur)) f2 (f1.noD rfl) ⟨⟨f2.beh hP h1, h2, by rw [nd_set, if_neg (by omega)]; exact h3, by rw [nd_set, if_neg (by omega)]; exact h4, by rw [nd_set, if_pos ⟨rfl, rfl⟩]; exact e0⟩, noz _ (by simp)⟩ (fun n => rfl) (fun n h => .inl h) (fun n h => h)
  | cp o v n pn cur =>
    obtain ⟨h1, h2, h3, h4, h5⟩ := hk
    have hmn := hmi n (by simp [lstMine])
    have hnb := hb n (.inr (.inl (by simp [lstMine])))
    obtain ⟨i, hi⟩ := h1.pc
    obtain ⟨j, hj⟩ := h1.pp
    have hcb : 0 ≤ cur ∧ cur ≤ N := by
      rcases hi with rfl | hi
      · omega
      · omega
    have e0 : plainW cur = cur := pl hcb.1 hcb.2
    have e0' : plainW n = n := pl (by omega) hnb.2
    by_cases hc : W.get (prevA hd pn) = cur
    · obtain ⟨A, B, hs, f1, f2⟩ := insert_si hSI (Nat.succ_le_succ hSI.k) hN hXd hbXD (hPN hj) hcb.1 hcb.2 hc hnb.1 hnb.2 hmn.1 hmn.2 h3 h5 h1.kp h1.kc
      have e1 : actW W (lstAsk hd (.cp o v n pn cur)) = (W.put (prevA hd pn) n, ⟨cur, true⟩) := by simp only [lstAsk, actW, e0, e0', hc, if_true]
      have e2 : lstNx hd W X g (.cp o v n pn cur) = (A ++ n :: B, { g with put := g.put + 1 }) := by
        simp only [lstNx, e0, hc, if_true]
        rw [nx_ins hs hXd]
      rw [e1, e2]
      refine evo_ok (pc' := .clr (.fi (okO m))) (f2 _) (f1.noD rfl) trivial (fun x => ?_) (fun x hx => .inl ?_) (fun x h => h)
      · show (A ++ n :: B).count x + ([] : List Int).count x + ([] : List Int).count x = X.count x + [n].count x + ([] : List Int).count x
        rw [hs.eq]
        simp only [List.count_append, List.count_cons, List.count_nil]
        omega
      · rw [hs.eq] at hx
        simp only [List.mem_append, List.mem_cons] at hx ⊢
        exact hx.imp id .inr
    · have e1 : actW W (lstAsk hd (.cp o v n pn cur)) = (W, ⟨W.get (prevA hd pn), false⟩) := by simp only [lstAsk, actW, e0, hc, if_false]
      have e2 : lstNx hd W X g (.cp o v n pn cur) = (X, g) := by simp only [lstNx, e0, hc, if_false]
      rw [e1, e2]
      have hn0 : n ≠ 0 := by omega
      exact ends_ok (k := .cp o v n pn cur) (f := .put v n) hSI (anew_ok hLy ⟨by omega, fun _ => ⟨h3, h4⟩⟩) (by simp [lstMine, mineF, mineL, hn0]) rfl
  | cm o pn cur w =>
    obtain ⟨h1, h2, h3⟩ := hk
    obtain ⟨i, hi⟩ := h1.pc
    have hw := h2.plain.1 h3
    have hx := ofW_idx w
    have hle := h2.2
    have e0 : markW (ofW w).idx = (ofW w).idx + 65536 := markW_eq hx.1 (by omega)
    by_cases hc : W.nd cur 0 = w
    · obtain ⟨f1, f2, f3⟩ := mark_si hSI hN (hP _ _ hi) h2 h3 hc
      have e1 : actW W (lstAsk hd (.cm o pn cur w)) = (W.setNd cur 0 ((ofW w).idx + 65536), ⟨w, true⟩) := by simp only [lstAsk, actW, Ws.get, e0, hc, if_true]; rfl
      rw [e1]
      exact evo_ok (W' := W.setNd cur 0 ((ofW w).idx + 65536)) (pc' := .at_ (.cd o pn cur (ofW w).idx m)) (f3 _) (f2.noD rfl) ⟨⟨(f3 []).at_ hP h1, by rw [nd_set, if_pos ⟨rfl, rfl⟩], hx.1, hle⟩, noz _ (by simp)⟩ (fun x => rfl) (fun x h => .inl h) (fun x h => h)
    · have e1 : actW W (lstAsk hd (.cm o pn cur w)) = (W, ⟨W.nd cur 0, false⟩) := by simp only [lstAsk, actW, Ws.get, hc, if_false]
      rw [e1]
      exact ends_ok (k := .cm o pn cur w) (f := .del) hSI (anew_ok hLy trivial) rfl rfl
  | cd o pn cur nx at_ =>
    obtain ⟨h1, h2, h3, h4⟩ := hk
    obtain ⟨j, hj⟩ := h1.pp
    have e0 : plainW cur = cur := pl (by have := h1.c1; omega) h1.cN
    have e0' : plainW nx = nx := pl h3 h4
    by_cases hc : W.get (prevA hd pn) = cur
    · have e1 : actW W (lstAsk hd (.cd o pn cur nx at_)) = (W.put (prevA hd pn) nx, ⟨cur, true⟩) := by simp only [lstAsk, actW, e0, e0', hc, if_true]
      have e2 : lstNx hd W X g (.cd o pn cur nx at_) = (X.erase cur, { g with ret := g.ret + 1 }) := by simp only [lstNx, e0, hc, if_true]
      rw [e1, e2]
      obtain ⟨f1, f2, f3, f4, _⟩ := unlink_si hSI hN hXd hDX hbXD (hPN hj) h1.c1 h1.cN hc h2 h3 h4 (D' := fun n => D n ∨ n ∈ [cur]) (fun n hn => hn.imp id fun h => by simpa using h)
      refine evo_ok (pc' := .clr (.rx cur at_)) (f3 _) f2 trivial (fun n => ?_) (fun n hn => ?_) (fun n h => by simp [lstDead] at h)
      · have := f4 n
        show (X.erase cur).count n + ([] : List Int).count n + [cur].count n = X.count n + ([] : List Int).count n + ([] : List Int).count n
        simp only [List.count_nil]
        omega
      · by_cases e : n = cur
        · exact .inr (by rw [e]; simp [deadP, lstZ, lstDead])
        · exact .inl ((List.mem_erase_of_ne e).2 hn)
    · have e1 : actW W (lstAsk hd (.cd o pn cur nx at_)) = (W, ⟨W.get (prevA hd pn), false⟩) := by simp only [lstAsk, actW, e0, hc, if_false]
      have e2 : lstNx hd W X g (.cd o pn cur nx at_) = (X, g) := by simp only [lstNx, e0, hc, if_false]
      rw [e1, e2]
      exact ends_ok (k := .cd o pn cur nx at_) (f := .fin at_) hSI (anew_ok hLy trivial) rfl rfl
theorem exN_mine (o : Int) (f : Fk) (pn cur pt : Int) : mineP (lstZ hd N) (exN o f pn cur pt) = mineF f ∧ deadP (lstZ hd N) (exN o f pn cur pt) = [] := by
  unfold exN
  cases f with
  | put v n =>
    simp only
    split
    · rename_i h; subst h; exact ⟨rfl, rfl⟩
    · rename_i h; exact ⟨by simp [mineP, lstZ, lstMine, mineF, mineL, h], rfl⟩
  | _ => exact ⟨rfl, rfl⟩
theorem goW_mine (o : Int) (f : Fk) (a b pn cur pt : Int) : mineP (lstZ hd N) (goW o f a b pn cur pt) = mineF f ∧ deadP (lstZ hd N) (goW o f a b pn cur pt) = [] := by
  unfold goW
  split
  · exact exN_mine _ _ _ _ _
  · exact ⟨rfl, rfl⟩
theorem lst_sound (hLy : LstLay l S hd) (hN : N ≤ 100) : Sound (lstM hd) (lstZ hd N) l S N where
  kmono := fun h hP => lstKL_mono h hP
  gmono := fun h hP => lstGL_mono h hP
  simono := fun h hD hK => ⟨h.head, h.link, fun n hn => h.form n (hn.imp id (hD n)), fun n hn => h.dead n (hD n hn), h.rise, h.rng, h.cnt, Nat.le_trans h.k hK⟩
  took := fun {W X g P k} s n a h hz n1 n2 hX => by
    cases k <;> first
      | exact ⟨h, hz⟩
      | exact ⟨⟨h, n1⟩, fun h => absurd h id⟩
  tookM := fun k n a x => by cases k <;> rfl
  tookD := fun k n a => by cases k <;> rfl
  full := fun {W X g P k} s a h hz => by
    cases k <;> first
      | exact ⟨h, hz⟩
      | exact trivial
  fullM := fun k a => by cases k <;> rfl
  fullD := fun k a => by cases k <;> rfl
  gave := fun {W X g P k} s h hz => by
    cases k <;> first
      | exact ⟨h, hz⟩
      | exact trivial
  gaveM := fun k => by cases k <;> rfl
  gaveD := fun k => by cases k <;> rfl
  retired := fun {W X g P k} s h hz => by
    cases k with
    | rr o f a b pn nx pt =>
      obtain ⟨h1, h2, h3, h4, h5⟩ := h
      obtain ⟨a1, a2, a3, a4, a5⟩ := h2
      exact (goW_ok h1 ⟨a3, a4, a1, a2, fun e => a5 e.symm⟩ h3 (by rw [show 3 - b - a = 3 - a - b by omega]; exact h4) h5).ok
    | ry a => exact hz trivial
    | _ => exact ⟨h, hz⟩
  retiredM := fun k => by
    cases k with
    | rr o f a b pn nx pt => exact (goW_mine _ _ _ _ _ _ _).1
    | _ => rfl
  retiredD := fun k => by
    cases k with
    | rr o f a b pn nx pt => exact (goW_mine _ _ _ _ _ _ _).2
    | _ => rfl
  cleared := fun {W X g k} s h hz => by
    cases k with
    | fi o => exact hz
    | rx n a => exact ⟨trivial, fun _ => hz⟩
    | _ => exact ⟨h, fun _ => hz⟩
  clearedN := fun k k' => by cases k <;> simp [lstM]
  clearedM := fun k => by cases k <;> rfl
  clearedD := fun k => by cases k <;> rfl
  gload := fun {W X g D P k K} i c hc hg hSI hk hX hP => by
    cases k with
    | ga o f =>
      obtain ⟨rfl, rfl⟩ := hg
      have hh : W.ob hd = X.headD 0 := LstSI.head hSI
      have hr := LstSI.rng hSI
      show PN N P 0 (ofW (W.ob hd)).idx
      cases X with
      | nil => left; rw [hh]; rfl
      | cons x X =>
        have := hr x (by simp)
        have hx : W.ob hd = x := hh
        rw [hx, idx_small (by omega) (by omega)]
        exact .inr ⟨this.1, this.2, hX x (by simp)⟩
    | gb o f a b pn cur =>
      obtain ⟨rfl, rfl⟩ := hg
      have h1 : Fnd N W (offP P i) o f a i pn cur := hk
      have hc := hP _ _ h1.pc.2
      have hf := LstSI.form hSI cur hc
      refine ⟨hf, fun hx => ?_, fun _ => rfl⟩
      show PN N P i (ofW (W.nd cur 0)).idx
      obtain ⟨A, B, hXe⟩ := List.append_of_mem hx
      have hl := LstSI.link hSI
      rw [hXe] at hl
      have hl1 : W.nd cur 0 % 65536 = B.headD 0 := (linked_cut hl).1
      rw [ofW_idx_eq, hl1]
      cases B with
      | nil => exact .inl rfl
      | cons y B =>
        have hy : y ∈ X := by rw [hXe]; simp
        have := LstSI.rng hSI y hy
        exact .inr ⟨this.1, this.2, hX y hy⟩
    | _ => exact absurd hg id
  guarded := fun {W X g P k i c v} s a hg h hk => by
    cases k with
    | ga o f =>
      obtain ⟨rfl, rfl⟩ := hg
      exact (goW_ok hk ⟨by omega, by omega, by omega, by omega, by omega⟩ h (.inl rfl) (.inl rfl)).ok
    | gb o f a b pn cur =>
      obtain ⟨rfl, rfl⟩ := hg
      have h1 : Fnd N W (offP P i) o f a i pn cur := hk
      exact ⟨⟨h1.mono fun _ _ h => h.2, h.1, h.2.1, h.2.2⟩, fun h => absurd h id⟩
    | _ => exact absurd hg id
  guardedM := fun k v a => by
    cases k with
    | ga o f => exact (goW_mine _ _ _ _ _ _ _).1
    | _ => rfl
  guardedD := fun k v a => by
    cases k with
    | ga o f => exact (goW_mine _ _ _ _ _ _ _).2
    | _ => rfl
  ask := fun {W X g P D k K} hSI hk hP hb => by
    have oh : (Ad.ob hd).str l S N := ⟨hLy.h1, hLy.h2⟩
    have pv : ∀ {i pn}, PN N P i pn → (prevA hd pn).str l S N := fun {i pn} h => by
      unfold prevA
      split
      · exact oh
      · rename_i h0
        have := h.resolve_left h0
        exact ⟨this.1, this.2.1, by omega, by omega⟩
    cases k with
    | ls o f a b pn cur w t => exact pv hk.1.pp
    | lo o f a b pn cur w t kk => exact ⟨hk.1.c1, hk.1.cN, by omega, by omega⟩
    | cu o f a b pn cur w => exact pv hk.1.pp
    | gv o cur pt => exact ⟨hk.1, hk.2.1, by omega, by omega⟩
    | p1 o v n pn cur => have := hb n (.inr (.inl (by simp [lstZ, lstMine]))); exact ⟨this.1, this.2, by omega, by omega⟩
    | p2 o v n pn cur => have := hb n (.inr (.inl (by simp [lstZ, lstMine]))); exact ⟨this.1, this.2, by omega, by omega⟩
    | p0 o v n pn cur => have := hb n (.inr (.inl (by simp [lstZ, lstMine]))); exact ⟨this.1, this.2, by omega, by omega⟩
    | cp o v n pn cur => obtain ⟨j, hj⟩ := hk.1.pp; exact pv hj
    | cm o pn cur w => exact ⟨hk.1.c1, hk.1.cN, by omega, by omega⟩
    | cd o pn cur nx at_ => obtain ⟨j, hj⟩ := hk.1.pp; exact pv hj
    | _ => exact oh
  step := fun {W X D g P k K} s m _ hSI hk hz hP hb hXd _ hmi hDX hde => lst_step hLy hN s m hSI hk hz hP hb hXd hmi hDX hde
end
end Go.Proofs.Ytefagncaepallaa
/- Plays of a list: what holds at each step; their beginning. -/
namespace Go.Proofs.Ytefagncaepallaa
set_option maxRecDepth 100000

theorem whoF_lt {p : PlayT} (h : PlayOk p) {i : Nat} (hi : i < allF p) : whoF p i < p.want.length := by
  have h1 := h.w1
  unfold whoF
  split
  · rename_i t ht
    have := Int.emod_nonneg t (show (p.want.length : Int) ≠ 0 by omega)
    have := Int.emod_lt_of_pos t (show (0 : Int) < p.want.length by omega)
    omega
  · rename_i hn
    have hn : p.turns.length ≤ i := List.getElem?_eq_none_iff.1 hn
    unfold allF at hi
    rw [Nat.div_lt_iff_lt_mul (by omega)]
    omega
def hdP (p : PlayT) : Int := (layP p).map
def nP (p : PlayT) : Nat := (2 + p.nodes % 8).toNat
abbrev mP (p : PlayT) : Mach Lk := lstM (hdP p)
abbrev spP (p : PlayT) : Sp Lk LstG := lstZ (hdP p) (nP p)
theorem hdP_eq (p : PlayT) : hdP p = 8 + 12 * (p.want.length : Int) := rfl
theorem nP_le (p : PlayT) : 2 ≤ nP p ∧ nP p ≤ 9 := by unfold nP; omega
theorem layP_node (p : PlayT) : (layP p).node = 11 + 12 * (p.want.length : Int) := by
  show 8 + 12 * (p.want.length : Int) + 3 * 1 + 2 * 0 + 2 * 0 = _
  omega
theorem layP_lay (p : PlayT) (h1 : 1 ≤ p.want.length) : Lay (layP p) p.want.length (nP p) := by
  have hN : ((nP p : Nat) : Int) = 2 + p.nodes % 8 := by unfold nP; omega
  refine ⟨rfl, hN.symm, rfl, rfl, ?_, ?_, ?_, ?_, h1⟩
  · intro w i a1 a2 a3 a4
    show withinF (4 + 2 * (p.want.length : Int)) p.want.length 3 w i = _
    rw [within_in (by omega) (by omega) (by omega) (by omega)]; omega
  · intro n i a1 a2 a3 a4
    have e : nodeF (layP p) n i = withinF (layP p).node (2 + p.nodes % 8) 8 (n - 1) i := by
      unfold nodeF
      rw [if_neg (by omega)]; rfl
    rw [e, within_in (by omega) (by omega) (by omega) (by omega)]; omega
  · rw [layP_node]; omega
  · show 8 + 12 * (p.want.length : Int) + 3 * 1 + 2 * 0 + 2 * 0 + 8 * (2 + p.nodes % 8) = _
    rw [layP_node, hN]; omega
theorem lstLayP (p : PlayT) : LstLay (layP p) p.want.length (hdP p) := by
  have h1 := hdP_eq p
  have h3 := layP_node p
  exact ⟨by omega, by omega⟩
theorem soundP (p : PlayT) : Sound (mP p) (spP p) (layP p) p.want.length (nP p) := lst_sound (lstLayP p) (by have := nP_le p; omega)
def idleQ (gone : List (Int × Int)) : Q Lk := ⟨.fin ⟨0, false, 0, 0, []⟩, ⟨0, gone, 0, 0, 0⟩⟩
def op0F (p : PlayT) (o : OpT) : OpT := { o with obj := hdP p }
/-- Where a seat's program is. -/
def qAt (p : PlayT) (ws : List OpT) (x : SeatT) : Q Lk := match ws[x.at_]? with
  | some op => runQ (mP p) p.want.length (startQ (hdP p) op x.gone) x.log
  | none => idleQ x.gone
def qsOf (p : PlayT) (seats : List SeatT) : List (Q Lk) := (seats.zip p.want).map fun z => qAt p z.2 z.1
theorem qsOf_get {p : PlayT} {seats : List SeatT} {w : Nat} {x : SeatT} {ws : List OpT} (hx : seats[w]? = some x) (hw : p.want[w]? = some ws) : (qsOf p seats)[w]? = some (qAt p ws x) := by
  unfold qsOf
  rw [List.getElem?_map, (List.getElem?_zip_eq_some (z := (x, ws))).2 ⟨hx, hw⟩]; rfl
theorem qsOf_set {p : PlayT} {seats : List SeatT} {w : Nat} {ws : List OpT} (y : SeatT) (hw : p.want[w]? = some ws) : qsOf p (seats.set w y) = (qsOf p seats).set w (qAt p ws y) := by
  apply List.ext_getElem?
  intro j
  unfold qsOf
  rw [List.getElem?_map, List.getElem?_set, List.length_map, List.length_zip]
  by_cases hj : w = j
  · subst hj
    rw [if_pos rfl]
    have hwl := (List.getElem?_eq_some_iff.1 hw).1
    by_cases hs : w < seats.length
    · rw [if_pos (by omega), (List.getElem?_zip_eq_some (z := (y, ws))).2 ⟨List.getElem?_set_self hs, hw⟩]; rfl
    · rw [if_neg (by omega), List.getElem?_eq_none (by rw [List.length_zip, List.length_set]; omega)]; rfl
  · rw [if_neg hj]
    rw [List.getElem?_map]
    congr 1
    simp only [List.zip, List.getElem?_zipWith]
    rw [List.getElem?_set_ne hj]
/-- Programs, memory, free nodes and the channel's, at a step of a play. -/
structure G (p : PlayT) (i : Nat) (s : PSt) (V : Vw) (F X : List Int) (g : LstG) : Prop where
  n : s.seats.length = p.want.length
  view : View (layP p) p.want.length (nP p) s.m V
  inv : Inv (spP p) (layP p) p.want.length (nP p) i V (qsOf p s.seats) F X g
/-- What an access tells. -/
abbrev actP (p : PlayT) (who : Nat) (V : Vw) (q : Q Lk) : Vw × ResT := act V (asks (mP p) who q.pc)
abbrev accP (p : PlayT) (who : Nat) (q : Q Lk) : AccT := (asks (mP p) who q.pc).acc (layP p)
/-- A seat's turn. -/
inductive StepR (p : PlayT) (who : Nat) (s : PSt) (V : Vw) (F X : List Int) (g : LstG) : PSt → Vw → List Int → List Int → LstG → Prop where
  | idle (x : SeatT) (ws : List OpT) (hx : s.seats[who]? = some x) (hw : p.want[who]? = some ws) (ha : ws.length ≤ x.at_) : StepR p who s V F X g s V F X g
  | done (x : SeatT) (ws : List OpT) (op : OpT) (q : Q Lk) (o : OutT) (hx : s.seats[who]? = some x) (hw : p.want[who]? = some ws) (ho : ws[x.at_]? = some op) (hq : q = qAt p ws x) (hpc : q.pc = .fin o) :
      StepR p who s V F X g ⟨s.m, s.seats.set who ⟨x.at_ + 1, [], q.s.gone⟩, s.out ++ [⟨who, x.at_, op0F p op, x.gone, acc0, res0, true, { o with gone := q.s.gone }⟩]⟩ V F X g
  | acc (x : SeatT) (ws : List OpT) (op : OpT) (q : Q Lk) (hx : s.seats[who]? = some x) (hw : p.want[who]? = some ws) (ho : ws[x.at_]? = some op) (hq : q = qAt p ws x) (hpc : q.pc.asking) :
      StepR p who s V F X g ⟨(turnF s.m (accP p who q)).1, s.seats.set who { x with log := x.log ++ [(actP p who V q).2] }, s.out ++ [⟨who, x.at_, op0F p op, x.gone, accP p who q, (actP p who V q).2, false, out0⟩]⟩
        (actP p who V q).1 (nxF V F q.pc) (nxX (spP p) V.W X g q.pc).1 (nxX (spP p) V.W X g q.pc).2
structure PlayG (p : PlayT) : Prop where
  ok : PlayOk p
  k : ∀ ws ∈ p.want, ∀ o ∈ ws, o.kind = 1 ∨ o.kind = 2 ∨ o.kind = 3
  u : ∀ ws ∈ p.want, ∀ o ∈ ws, o.a < 9223372036854775808 ∧ o.b < 9223372036854775808
theorem Inv.mono {κ γ : Type} {M : Mach κ} {Z : Sp κ γ} {l : LayT} {S N K : Nat} {V : Vw} {qs : List (Q κ)} {F X : List Int} {g : γ} (hs : Sound M Z l S N) (h : Inv Z l S N K V qs F X g) : Inv Z l S N (K + 1) V qs F X g :=
  ⟨h.n, h.fr, ⟨h.frk.1, by have := h.frk.2; omega⟩, ⟨h.er.1, by have := h.er.2; omega⟩, h.lf, h.part, h.bi, hs.simono h.si (fun _ h => h) (Nat.le_succ K), h.loc⟩
theorem runQ_snoc {κ : Type} (M : Mach κ) (S : Nat) (q : Q κ) (log : List ResT) (r : ResT) : runQ M S q (log ++ [r]) = tell M S (runQ M S q log) r := by simp [runQ, List.foldl_append]
def V00 : Ws := ⟨fun _ => 0, fun _ _ => 0⟩
/-- Where a seat's next program begins. -/
def StartPc (p : PlayT) (pc : Pc Lk) : Prop := (∃ o f, FkOk V00 o f ∧ mineF f = [] ∧ pc = anew (hdP p) o f) ∨ ∃ o, pc = .fin o
theorem fkOf_ok (W : Ws) (op : OpT) : FkOk W op.a (fkOf op) ∧ mineF (fkOf op) = [] := by
  unfold fkOf
  split
  · exact ⟨trivial, rfl⟩
  · split
    · exact ⟨⟨by omega, fun h => absurd rfl h⟩, rfl⟩
    · exact ⟨trivial, rfl⟩
theorem fk_free {W W' : Ws} {o : Int} {f : Fk} (h : FkOk W o f) (hm : mineF f = []) : FkOk W' o f := by
  cases f with
  | put v n =>
    refine ⟨h.1, fun hn => ?_⟩
    simp [mineF, mineL, hn] at hm
  | _ => trivial
theorem qAt_next (p : PlayT) (ws : List OpT) (n : Nat) (gone : List (Int × Int)) : ∃ pc', qAt p ws ⟨n, [], gone⟩ = ⟨pc', ⟨0, gone, 0, 0, 0⟩⟩ ∧ StartPc p pc' := by
  unfold qAt
  split
  · rename_i op ho
    obtain ⟨h1, h2⟩ := fkOf_ok V00 op
    exact ⟨(startQ (hdP p) op gone).pc, rfl, .inl ⟨op.a, fkOf op, h1, h2, rfl⟩⟩
  · exact ⟨_, rfl, .inr ⟨_, rfl⟩⟩
theorem start_loc {p : PlayT} {V : Vw} {X : List Int} {g : LstG} {P : Int → Int → Prop} {s : PsT} (hz : s.z) {pc : Pc Lk} (h : StartPc p pc) : LocPc (spP p) (layP p) p.want.length (nP p) V X g P s pc ∧ mineP (spP p) pc = [] ∧ deadP (spP p) pc = [] ∧ (∀ (s : PsT), goneP (⟨pc, s⟩ : Q Lk) = s.gone) ∧ ∀ (s : PsT) (j i n e : Int), InG s.gone n e → Keeps (spP p) j i n e ⟨pc, s⟩ := by
  have hl := lstLayP p
  rcases h with ⟨o, f, hf, hm, rfl⟩ | ⟨o, rfl⟩
  · exact ⟨⟨fk_free hf hm, (fun h => absurd h id), by omega, by omega, ⟨hl.h1, hl.h2⟩, rfl, rfl⟩, hm, rfl, fun _ => rfl, fun s j i n e h => .inr h⟩
  · exact ⟨hz, rfl, rfl, fun _ => rfl, fun s j i n e h => .inr h⟩
/-- An operation is over, and another one begins, or none. -/
theorem inv_done {p : PlayT} {K : Nat} {V : Vw} {qs : List (Q Lk)} {F X : List Int} {g : LstG} (hI : Inv (spP p) (layP p) p.want.length (nP p) K V qs F X g) {w : Nat} {o : OutT} {s : PsT} (hq : qs[w]? = some ⟨.fin o, s⟩) {pc' : Pc Lk} (hp : StartPc p pc') : Inv (spP p) (layP p) p.want.length (nP p) (K + 1) V (qs.set w ⟨pc', ⟨0, s.gone, 0, 0, 0⟩⟩) F X g := by
  have hl := hI.loc w _ hq
  have hz : s.z := hl.pc
  obtain ⟨z0, z1, z2⟩ := hz
  have he : ∀ i, (⟨0, s.gone, 0, 0, 0⟩ : PsT).e i = s.e i := fun i => by
    unfold PsT.e
    simp only [z0, z1, z2]
  have h0 := start_loc (p := p) (V := V) (X := X) (g := g) (P := noP) (s := ⟨0, s.gone, 0, 0, 0⟩) ⟨rfl, rfl, rfl⟩ hp
  obtain ⟨_, m1, m2, m3, m4⟩ := h0
  refine hI.quiet (soundP p) hq (fun n => ?_) (fun n hn => ?_) he (fun j x i n _ _ _ _ h => ?_) (fun hP hd => (start_loc ⟨rfl, rfl, rfl⟩ hp).1)
  · simp only [own, deadQ, m1, m2, m3]; rfl
  · simp only [deadQ, m2, m3] at hn; exact hn
  · refine m4 _ _ _ _ _ ?_
    rcases h with h | h
    · simp [deadP] at h
    · exact h
/-- What is asked for is there. -/
theorem ask_ok {κ γ : Type} {M : Mach κ} {Z : Sp κ γ} {l : LayT} {S N K : Nat} {V : Vw} {qs : List (Q κ)} {F X : List Int} {g : γ} (hs : Sound M Z l S N) (hI : Inv Z l S N K V qs F X g) {w : Nat} {q : Q κ} (hq : qs[w]? = some q) (hf : q.pc.asking) : (asks M w q.pc).ad.ok l S N := by
  have hl := hI.loc w _ hq
  have hw : w < S := by have := (List.getElem?_eq_some_iff.1 hq).1; have := hI.n; omega
  obtain ⟨pc, s⟩ := q
  have hpc := hl.pc
  cases pc with
  | clr k => exact absurd hf id
  | fin o => exact absurd hf id
  | at_ k =>
    have hnb : ∀ i n, Pr Z V X qs w s i n → 1 ≤ n ∧ n ≤ (N : Int) := fun i n h => (pr_in h).elim (fun h => hI.inX h) fun h => (hI.dq h).1
    have hmn : ∀ n ∈ Z.mine k, n ∈ own Z ⟨.at_ k, s⟩ := fun n h => by unfold own; rw [List.mem_append]; exact .inl h
    have hdo : ∀ n ∈ Z.dead k, n ∈ own Z ⟨.at_ k, s⟩ := fun n h => by unfold own deadQ; rw [List.mem_append, List.mem_append]; exact .inr (.inl h)
    have := hs.ask hI.si hpc.1 hnb (fun n h => h.elim (fun h => hI.inX h) fun h => h.elim (fun h => hI.inOwn hq (hmn n h)) fun h => hI.inOwn hq (hdo n h))
    show (M.ask k).ad.ok l S N
    cases ha : M.ask k with
    | ld a => rw [ha] at this; exact Ad.str_ok this
    | st a v => rw [ha] at this; exact Ad.str_ok this
    | cs a o v => rw [ha] at this; exact Ad.str_ok this
    | up => trivial
  | t1 k => trivial
  | t2 k f => exact ⟨hpc.2.2.2, hpc.2.2.1.le⟩
  | t3 k f lk => trivial
  | t4 k n a => trivial
  | t5 k n a b => exact hI.inOwn hq (by simp [own, mineP])
  | g1 k i c => exact Ad.str_ok hpc.2.2.2.2.1
  | g2 k i c v a => trivial
  | g3 k i c er => exact ⟨by omega, by omega, hpc.2.2.1, hpc.2.2.2.1⟩
  | c k i => exact ⟨by omega, by omega, hpc.2.1, hpc.2.2⟩
  | v1 k n => trivial
  | v2 k n f => exact hI.inOwn hq (by simp [own, mineP])
  | v3 k n f => trivial
  | r1 k n => trivial
  | r2 k n er => trivial
  | rs k held c cs =>
    obtain ⟨w', i, h1, h2, h3, h4, rfl⟩ := hpc.2.2.2 c (by simp)
    exact ⟨h1, h2, h3, h4⟩
  | s1 k held y gs stay => exact hI.inOwn hq (by simp [own, deadQ, goneP])
  | w1 k held y gs stay => trivial
  | w2 k held y gs stay f => exact hI.inOwn hq (by simp [own, deadQ, goneP])
  | w3 k held y gs stay f => trivial
theorem loc_asking {κ γ : Type} {Z : Sp κ γ} {l : LayT} {S N : Nat} {V : Vw} {X : List Int} {g : γ} {P : Int → Int → Prop} {s : PsT} {pc : Pc κ} (h : LocPc Z l S N V X g P s pc) (hf : ∀ o, pc ≠ .fin o) : pc.asking := by
  cases pc <;> first | trivial | exact absurd rfl (hf _) | exact absurd h id
theorem G.step {p : PlayT} (hp : PlayG p) {i : Nat} {s : PSt} {V : Vw} {F X : List Int} {g : LstG} (hG : G p i s V F X g) (hi : i ≤ 100000) {who : Nat} (hwho : who < p.want.length) : ∃ s' V' F' X' g', stepP (layP p) p.want who s = .ok s' ∧ StepR p who s V F X g s' V' F' X' g' ∧ G p (i + 1) s' V' F' X' g' := by
  have hL := layP_lay p hp.ok.w1
  have hN := nP_le p
  obtain ⟨x, hx⟩ : ∃ x, s.seats[who]? = some x := ⟨s.seats[who]'(by have := hG.n; omega), List.getElem?_eq_getElem _⟩
  obtain ⟨ws, hws⟩ : ∃ ws, p.want[who]? = some ws := ⟨p.want[who], List.getElem?_eq_getElem hwho⟩
  have hqg := qsOf_get (p := p) hx hws
  have hst : stepP (layP p) p.want who s = (match ws[x.at_]? with
    | none => .ok s
    | some op0 =>
      let r := nextF (layP p) who x.gone (op0F p op0) x.log
      if r.2.2 then .ok ⟨s.m, s.seats.set who ⟨x.at_ + 1, [], r.2.1.gone⟩, s.out ++ [⟨who, x.at_, op0F p op0, x.gone, acc0, res0, true, r.2.1⟩]⟩
      else if faultF s.m.length r.1 = 0 then .ok ⟨(turnF s.m r.1).1, s.seats.set who { x with log := x.log ++ [(turnF s.m r.1).2] }, s.out ++ [⟨who, x.at_, op0F p op0, x.gone, r.1, (turnF s.m r.1).2, false, out0⟩]⟩
      else .error s) := by
    unfold stepP
    simp only [hx, hws]
    rfl
  rw [hst]
  cases ho : ws[x.at_]? with
  | none =>
    have ha : ws.length ≤ x.at_ := List.getElem?_eq_none_iff.1 ho
    exact ⟨s, V, F, X, g, rfl, .idle x ws hx hws ha, ⟨hG.n, hG.view, hG.inv.mono (soundP p)⟩⟩
  | some op =>
    have hk := hp.k ws (List.mem_of_getElem? hws) op (List.mem_of_getElem? ho)
    have hhd : ¬ ((op0F p op).obj < 0 ∨ (layP p).size ≤ (op0F p op).obj) := by
      have h1 := hdP_eq p
      have h2 := hL.size
      have h3 := layP_node p
      show ¬ (hdP p < 0 ∨ (layP p).size ≤ hdP p)
      omega
    have hrun := next_run (l := layP p) (S := p.want.length) (me := who) rfl (gone := x.gone) (op := op0F p op) (log := x.log) hhd hk
    have hqa : qAt p ws x = runQ (mP p) p.want.length (startQ (hdP p) (op0F p op) x.gone) x.log := by unfold qAt; rw [ho]; rfl
    have hrun2 : nextF (layP p) who x.gone (op0F p op) x.log = endQ (mP p) (layP p) who (qAt p ws x) := by rw [hqa]; exact hrun
    simp only [hrun2]
    generalize hqe : qAt p ws x = q at hqg
    by_cases hf : ∃ o, q.pc = .fin o
    · obtain ⟨o, hpc⟩ := hf
      have he : endQ (mP p) (layP p) who q = (acc0, { o with gone := q.s.gone }, true) := by unfold endQ; rw [hpc]
      simp only [he, if_true]
      refine ⟨_, V, F, X, g, rfl, .done x ws op q o hx hws ho hqe.symm hpc, ⟨by simp [hG.n], hG.view, ?_⟩⟩
      simp only
      rw [qsOf_set _ hws]
      obtain ⟨pc', e1, e2⟩ := qAt_next p ws (x.at_ + 1) q.s.gone
      rw [e1]
      obtain ⟨pc, s0⟩ := q
      simp only at hpc
      subst hpc
      exact inv_done hG.inv hqg e2
    · have hf' : ∀ o, q.pc ≠ .fin o := fun o h => hf ⟨o, h⟩
      have hask := loc_asking (hG.inv.loc who q hqg).pc hf'
      have he : endQ (mP p) (layP p) who q = (accP p who q, out0, false) := by
        unfold endQ
        split
        · rename_i o h; exact absurd h (hf' o)
        · rfl
      have her := hG.inv.er
      have hact := acts hL hG.view (a := asks (mP p) who q.pc) ⟨by omega, by omega⟩ (ask_ok (soundP p) hG.inv hqg hask)
      simp only [he, Bool.false_eq_true, if_false, hact.fault, if_true, hact.res]
      refine ⟨_, _, _, _, _, rfl, .acc x ws op q hx hws ho hqe.symm hask, ⟨by simp [hG.n], hact.view, ?_⟩⟩
      simp only
      rw [qsOf_set _ hws]
      have e1 : qAt p ws { x with log := x.log ++ [(actP p who V q).2] } = tell (mP p) p.want.length q (actP p who V q).2 := by
        rw [← hqe]
        unfold qAt
        simp only [ho]
        rw [runQ_snoc]
      rw [e1]
      exact inv_act (soundP p) (by omega) hi hG.inv hqg hask
/-- What goes on from step to step goes on through a play. -/
theorem play_ind {p : PlayT} (hp : PlayG p) (J : Nat → PSt → Vw → List Int → List Int → LstG → Prop)
    (hJ : ∀ i s V F X g s' V' F' X' g', i < allF p → G p i s V F X g → StepR p (whoF p i) s V F X g s' V' F' X' g' → G p (i + 1) s' V' F' X' g' → J i s V F X g → J (i + 1) s' V' F' X' g') :
    ∀ (k i : Nat) (s : PSt) (V : Vw) (F X : List Int) (g : LstG), i + k ≤ allF p → G p i s V F X g → J i s V F X g → ∃ s' V' F' X' g', playL (layP p) p k i s = .ok s' ∧ G p (i + k) s' V' F' X' g' ∧ J (i + k) s' V' F' X' g'
  | 0, i, s, V, F, X, g, _, hG, h => ⟨s, V, F, X, g, rfl, hG, h⟩
  | k + 1, i, s, V, F, X, g, hk, hG, h => by
    have hall : allF p ≤ 4700 := by have := hp.ok.w3; have := hp.ok.t; unfold allF; omega
    have hw := whoF_lt hp.ok (show i < allF p by omega)
    obtain ⟨s1, V1, F1, X1, g1, h1, h2, h3⟩ := hG.step hp (by omega) hw
    obtain ⟨s', V', F', X', g', h4, h5, h6⟩ := play_ind hp J hJ k (i + 1) s1 V1 F1 X1 g1 (by omega) h3 (hJ i s V F X g s1 V1 F1 X1 g1 (by omega) hG h2 h3 h)
    refine ⟨s', V', F', X', g', ?_, by rw [show i + (k + 1) = i + 1 + k by omega]; exact h5, by rw [show i + (k + 1) = i + 1 + k by omega]; exact h6⟩
    rw [playL, if_neg (by omega), h1]
    exact h4

/-! ### The beginning -/
def V0 (N : Nat) : Vw := ⟨1, 1, fun _ _ => 0, fun _ => 0, fun n => if n = (N : Int) then 0 else n + 1, ⟨fun _ => 0, fun _ _ => 0⟩⟩
/-- The memory in the beginning is seen so. -/
def begB (S N : Nat) : Bool :=
  let l := layF S N 1 0 0
  let m := beginF l
  decide (m.length = l.size.toNat) && decide (cellAt m l.free = 1) && decide (cellAt m l.era = 1) &&
  ((List.range 200).all fun c => (decide (c < 4 + 5 * S) || decide (11 + 12 * S ≤ c)) || decide (cellAt m c = (V0 N).W.ob c)) &&
  ((List.range S).all fun w => (List.range 3).all fun i => decide (cellAt m (resvF l w i) = 0)) &&
  ((List.range N).all fun n => ((List.range 7).all fun i => decide (cellAt m (nodeF l ((n : Int) + 1) i) = 0)) && decide (cellAt m (nodeF l ((n : Int) + 1) 7) = (V0 N).lk ((n : Int) + 1)))
theorem beg_all : ((List.range 3).all fun a => (List.range 8).all fun b => begB (a + 1) (b + 2)) = true := by decide +kernel
theorem layP_eq (p : PlayT) : layP p = layF p.want.length (nP p) 1 0 0 := by
  unfold layP nP
  rw [show ((2 + p.nodes % 8).toNat : Int) = 2 + p.nodes % 8 by omega]
theorem view_start {p : PlayT} (hp : PlayOk p) : View (layP p) p.want.length (nP p) (beginF (layP p)) (V0 (nP p)) := by
  have h1 := hp.w1
  have h3 := hp.w3
  have hN := nP_le p
  have hnode := layP_node p
  rw [layP_eq] at hnode ⊢
  generalize nP p = N at *
  generalize p.want.length = S at *
  have hb : begB S N = true := by
    have h := List.all_eq_true.1 (List.all_eq_true.1 beg_all (S - 1) (List.mem_range.2 (by omega))) (N - 2) (List.mem_range.2 (by omega))
    rw [show S - 1 + 1 = S by omega, show N - 2 + 2 = N by omega] at h
    exact h
  unfold begB at hb
  simp only [Bool.and_eq_true, decide_eq_true_eq, List.all_eq_true, Bool.or_eq_true] at hb
  obtain ⟨⟨⟨⟨⟨b1, b2⟩, b3⟩, b4⟩, b5⟩, b6⟩ := hb
  refine ⟨b1, fun a ha => ?_⟩
  cases a with
  | era => exact b3
  | free => exact b2
  | ob c =>
    obtain ⟨c1, c2⟩ := ha
    have := b4 c.toNat (List.mem_range.2 (by omega))
    rw [show ((c.toNat : Nat) : Int) = c by omega] at this
    rcases this with h | h
    · omega
    · exact h
  | rv w i =>
    obtain ⟨w0, w1, i0, i1⟩ := ha
    have := b5 w.toNat (List.mem_range.2 (by omega)) i.toNat (List.mem_range.2 (by omega))
    rw [show ((w.toNat : Nat) : Int) = w by omega, show ((i.toNat : Nat) : Int) = i by omega] at this
    exact this
  | nd n i =>
    obtain ⟨n0, n1, i0, i1⟩ := ha
    have := (b6 (n - 1).toNat (List.mem_range.2 (by omega))).1 i.toNat (List.mem_range.2 (by omega))
    rw [show (((n - 1).toNat : Nat) : Int) = n - 1 by omega, show ((i.toNat : Nat) : Int) = i by omega, show n - 1 + 1 = n by omega] at this
    exact this
  | bi n =>
    obtain ⟨n0, n1⟩ := ha
    have := (b6 (n - 1).toNat (List.mem_range.2 (by omega))).1 6 (List.mem_range.2 (by omega))
    rw [show (((n - 1).toNat : Nat) : Int) = n - 1 by omega, show n - 1 + 1 = n by omega] at this
    exact this
  | lk n =>
    obtain ⟨n0, n1⟩ := ha
    have := (b6 (n - 1).toNat (List.mem_range.2 (by omega))).2
    rw [show (((n - 1).toNat : Nat) : Int) = n - 1 by omega, show n - 1 + 1 = n by omega] at this
    exact this
def upF (a : Int) : Nat → List Int
  | 0 => []
  | k + 1 => a :: upF (a + 1) k
theorem upF_count (n : Int) : ∀ (k : Nat) (a : Int), (upF a k).count n = if a ≤ n ∧ n < a + k then 1 else 0
  | 0, a => by simp only [upF, List.count_nil]; rw [if_neg (by omega)]
  | k + 1, a => by
    rw [upF, List.count_cons, upF_count n k (a + 1)]
    by_cases h : a = n
    · subst h
      rw [if_neg (show ¬ (a + 1 ≤ a ∧ a < a + 1 + (k : Int)) by omega), if_pos (show a ≤ a ∧ a < a + ((k + 1 : Nat) : Int) by omega)]; simp
    · have hb : (a == n) = false := by simp [h]
      rw [hb]
      by_cases h2 : a + 1 ≤ n ∧ n < a + 1 + (k : Int)
      · rw [if_pos h2, if_pos (show a ≤ n ∧ n < a + ((k + 1 : Nat) : Int) by omega)]; rfl
      · rw [if_neg h2, if_neg (show ¬ (a ≤ n ∧ n < a + ((k + 1 : Nat) : Int)) by omega)]; rfl
theorem upF_linked (N : Nat) : ∀ (k : Nat) (a : Int), a + k = N + 1 → Linked (V0 N).lk (upF a k)
  | 0, a, _ => trivial
  | k + 1, a, h => by
    refine ⟨?_, upF_linked N k (a + 1) (by omega)⟩
    simp only [V0]
    cases k with
    | zero => rw [if_pos (by omega)]; rfl
    | succ k => rw [if_neg (by omega)]; rfl
def g0 : LstG := ⟨0, 0⟩
theorem G_start {p : PlayT} (hp : PlayG p) : G p 0 (start p) (V0 (nP p)) (upF 1 (nP p)) [] g0 := by
  have hv := view_start hp.ok
  have hN := nP_le p
  have hqs : ∀ (w : Nat) (q : Q Lk), (qsOf p (start p).seats)[w]? = some q → ∃ pc', q = ⟨pc', ⟨0, [], 0, 0, 0⟩⟩ ∧ StartPc p pc' := by
    intro w q hq
    unfold qsOf at hq
    rw [List.getElem?_map] at hq
    rcases hz : ((start p).seats.zip p.want)[w]? with _ | ⟨x, ws⟩
    · rw [hz] at hq; cases hq
    · rw [hz] at hq
      cases hq
      obtain ⟨h1, h2⟩ := List.getElem?_zip_eq_some.1 hz
      simp only [start, List.getElem?_replicate] at h1
      split at h1
      · cases h1
        exact qAt_next p ws 0 []
      · cases h1
  have hown : ∀ n, ownSum (spP p) (qsOf p (start p).seats) n = 0 := by
    intro n
    unfold ownSum
    have key : ∀ (l : List (Q Lk)), (∀ q ∈ l, own (spP p) q = []) → (l.map fun q => (own (spP p) q).count n).sum = 0 := by
      intro l
      induction l with
      | nil => intro _; rfl
      | cons q l ih =>
        intro h
        rw [List.map_cons, List.sum_cons, h q (by simp), ih (fun q' hq' => h q' (by simp [hq']))]
        rfl
    refine key _ (fun q hq => ?_)
    obtain ⟨w, hw⟩ := List.getElem?_of_mem hq
    obtain ⟨pc', rfl, h2⟩ := hqs w q hw
    obtain ⟨_, m1, m2, m3, _⟩ := start_loc (p := p) (V := V0 0) (X := []) (g := g0) (P := noP) (s := ⟨0, [], 0, 0, 0⟩) ⟨rfl, rfl, rfl⟩ h2
    simp only [own, deadQ, m1, m2, m3]; rfl
  have hD : ∀ n, ¬ Dq (spP p) (qsOf p (start p).seats) n := fun n ⟨j, q, hq, hn⟩ => by
    obtain ⟨pc', rfl, h2⟩ := hqs j q hq
    obtain ⟨_, m1, m2, m3, _⟩ := start_loc (p := p) (V := V0 0) (X := []) (g := g0) (P := noP) (s := ⟨0, [], 0, 0, 0⟩) ⟨rfl, rfl, rfl⟩ h2
    simp only [deadQ, m2, m3] at hn
    simp at hn
  refine ⟨by simp [start], hv, ?_⟩
  refine ⟨by simp [qsOf, start], ?_, by simp [V0], by simp [V0], upF_linked _ _ 1 (by omega), fun n => ?_, fun n n0 n1 => by simp [V0], ⟨rfl, trivial, fun n hn => hn.elim (fun h => by simp at h) fun h => absurd h (hD n), fun n hn => absurd hn (hD n), List.Pairwise.nil, fun n hn => by simp at hn, rfl, by simp [g0]⟩, fun w q hq => ?_⟩
  · obtain ⟨k, hk⟩ : ∃ k, nP p = k + 1 := ⟨nP p - 1, by omega⟩
    rw [hk]
    simp [V0, upF]
  · rw [hown, upF_count]
    simp only [List.count_nil]
    by_cases h2 : 1 ≤ n ∧ n < 1 + ((nP p : Nat) : Int)
    · rw [if_pos h2, if_pos (by omega)]
    · rw [if_neg h2, if_neg (by omega)]
  · obtain ⟨pc', rfl, h2⟩ := hqs w q hq
    have e0 : ∀ i : Int, (⟨0, [], 0, 0, 0⟩ : PsT).e i = 0 := fun i => by
      unfold PsT.e
      split
      · rfl
      · split <;> rfl
    refine ⟨fun i _ _ => ?_, fun i => ?_, (start_loc ⟨rfl, rfl, rfl⟩ h2).1⟩
    · show (0 : Int) = _
      exact (e0 i).symm
    · show 0 ≤ (⟨0, [], 0, 0, 0⟩ : PsT).e i ∧ (⟨0, [], 0, 0, 0⟩ : PsT).e i ≤ 1
      rw [e0]; omega
end Go.Proofs.Ytefagncaepallaa
/- Lists: places that programs come to; points, and looks that may be points. -/
namespace Go.Proofs.Ytefagncaepallaa
set_option maxRecDepth 100000

def fpt : Fk → Option Int
  | .fin a => some a
  | _ => none
/-- The point, if it is behind us. -/
def kpt : Lk → Option Int
  | .ga _ f | .gb _ f _ _ _ _ | .ls _ f _ _ _ _ _ _ | .lo _ f _ _ _ _ _ _ _ | .cu _ f _ _ _ _ _ | .rr _ f _ _ _ _ _ => fpt f
  | .gv _ _ a | .sv a | .cd _ _ _ _ a | .rx _ a | .ry a => some a
  | .fi o => some o.point
  | _ => none
/-- What will be told, if the point is behind us (but of a get that found). -/
def kout : Lk → Option (Int × Bool × Int)
  | .ga _ f | .gb _ f _ _ _ _ | .ls _ f _ _ _ _ _ _ | .lo _ f _ _ _ _ _ _ _ | .cu _ f _ _ _ _ _ | .rr _ f _ _ _ _ _ => (fpt f).map fun _ => (0, true, 0)
  | .sv _ => some (0, false, 0)
  | .cd _ _ _ _ _ | .rx _ _ | .ry _ => some (0, true, 0)
  | .fi o => some (o.val, o.is, o.err)
  | _ => none
def ptP : Pc Lk → Option Int
  | .fin o => some o.point
  | .at_ k | .t1 k | .t2 k _ | .t3 k _ _ | .t4 k _ _ | .t5 k _ _ _ | .g1 k _ _ | .g2 k _ _ _ _ | .g3 k _ _ _ | .clr k | .c k _ | .v1 k _ | .v2 k _ _ | .v3 k _ _ | .r1 k _ | .r2 k _ _ | .rs k _ _ _ | .s1 k _ _ _ _ | .w1 k _ _ _ _ | .w2 k _ _ _ _ _ | .w3 k _ _ _ _ _ => kpt k
def outP : Pc Lk → Option (Int × Bool × Int)
  | .fin o => some (o.val, o.is, o.err)
  | .at_ k | .t1 k | .t2 k _ | .t3 k _ _ | .t4 k _ _ | .t5 k _ _ _ | .g1 k _ _ | .g2 k _ _ _ _ | .g3 k _ _ _ | .clr k | .c k _ | .v1 k _ | .v2 k _ _ | .v3 k _ _ | .r1 k _ | .r2 k _ _ | .rs k _ _ _ | .s1 k _ _ _ _ | .w1 k _ _ _ _ | .w2 k _ _ _ _ _ | .w3 k _ _ _ _ _ => kout k
/-- Loads under way that may be points. -/
def looks : Pc Lk → List Int
  | .g2 _ _ _ _ t => [t]
  | .at_ (.ls _ _ _ _ _ _ _ t) => [t]
  | .at_ (.lo _ _ _ _ _ _ _ t k) => [t, k]
  | .r1 (.rr _ _ _ _ _ _ pt) _ | .r2 (.rr _ _ _ _ _ _ pt) _ _ | .rs (.rr _ _ _ _ _ _ pt) _ _ _ | .s1 (.rr _ _ _ _ _ _ pt) _ _ _ _ | .w1 (.rr _ _ _ _ _ _ pt) _ _ _ _ | .w2 (.rr _ _ _ _ _ _ pt) _ _ _ _ _ | .w3 (.rr _ _ _ _ _ _ pt) _ _ _ _ _ => [pt]
  | _ => []
def IsR (k : Lk) : Prop := (∃ o f a b pn nx pt, k = .rr o f a b pn nx pt) ∨ ∃ a, k = .ry a
def IsG (k : Lk) (i : Int) (c : Ad) : Prop := (∃ o f, k = .ga o f) ∨ ∃ o f a pn cur, k = .gb o f a i pn cur ∧ c = .nd cur 0
/-- Places that a program comes to. -/
def Shape (q : Q Lk) : Prop := match q.pc with
  | .at_ k => match k with
    | .ls .. | .lo .. | .cu .. | .gv .. | .p1 .. | .p2 .. | .p0 .. | .cp .. | .cm .. | .cd .. => True
    | _ => False
  | .t1 k | .t2 k _ | .t3 k _ _ | .t4 k _ _ | .t5 k _ _ _ => ∃ o v pn cur, k = .tk o v pn cur
  | .g1 k i c | .g2 k i c _ _ | .g3 k i c _ => IsG k i c
  | .clr _ => False
  | .c k i => q.s.e i ≠ 0 ∧ 0 ≤ i ∧ i ≤ 2 ∧ ((∃ o, k = .fi o) ∨ ∃ n a, k = .rx n a)
  | .v1 k _ | .v2 k _ _ | .v3 k _ _ => ∃ a, k = .sv a
  | .r1 k _ | .r2 k _ _ | .rs k _ _ _ | .s1 k _ _ _ _ | .w1 k _ _ _ _ | .w2 k _ _ _ _ _ | .w3 k _ _ _ _ _ => IsR k
  | .fin _ => True
section
variable {hd : Int} {S : Nat}
theorem clr_shape {k : Lk} (s : PsT) (hk : (∃ o, k = .fi o) ∨ ∃ n a, k = .rx n a) : Shape (clrQ (lstM hd) k s) := by
  rcases clr_cases (M := lstM hd) k s with ⟨i, i0, i2, h, e⟩ | ⟨_, e⟩
  · rw [e]; exact ⟨h, i0, i2, hk⟩
  · rw [e]
    rcases hk with ⟨o, rfl⟩ | ⟨n, a, rfl⟩
    · trivial
    · exact .inr ⟨a, rfl⟩
theorem exN_shape (o : Int) (f : Fk) (pn cur pt : Int) (s : PsT) : Shape (norm (lstM hd) (exN o f pn cur pt) s) := by
  unfold exN
  cases f with
  | put v n =>
    simp only
    split
    · exact ⟨_, _, _, _, rfl⟩
    · trivial
  | _ => exact clr_shape s (.inl ⟨_, rfl⟩)
theorem exY_shape (o : Int) (f : Fk) (pn cur w pt : Int) (s : PsT) : Shape (norm (lstM hd) (exY o f pn cur w pt) s) := by
  unfold exY
  cases f with
  | get => trivial
  | put v n =>
    simp only
    split
    · exact clr_shape s (.inl ⟨_, rfl⟩)
    · exact ⟨_, rfl⟩
  | del => trivial
  | fin a => exact clr_shape s (.inl ⟨_, rfl⟩)
theorem goW_shape (o : Int) (f : Fk) (a b pn cur pt : Int) (s : PsT) : Shape (norm (lstM hd) (goW o f a b pn cur pt) s) := by
  unfold goW
  split
  · exact exN_shape _ _ _ _ _ _
  · exact .inr ⟨_, _, _, _, _, rfl, rfl⟩
theorem anew_shape (o : Int) (f : Fk) (s : PsT) : Shape (norm (lstM hd) (anew hd o f) s) := .inl ⟨_, _, rfl⟩
theorem ret_shape {k : Lk} (hk : IsR k) (s : PsT) : Shape (norm (lstM hd) ((lstM hd).retired k) s) := by
  rcases hk with ⟨o, f, a, b, pn, nx, pt, rfl⟩ | ⟨a, rfl⟩
  · exact goW_shape _ _ _ _ _ _ _ _
  · trivial
theorem sift_shape {k : Lk} (hk : IsR k) (held : List Int) (s : PsT) (gs stay : List (Int × Int)) : Shape (siftQ (lstM hd) k held s gs stay) := by
  cases gs with
  | nil => exact ret_shape hk _
  | cons g gs => exact hk
theorem scan_shape {k : Lk} (hk : IsR k) (held : List Int) (s : PsT) (cs : List Ad) : Shape (scanQ (lstM hd) k held s cs) := by
  cases cs with
  | nil => exact sift_shape hk _ _ _ _
  | cons c cs => exact hk
/-- The places are these. -/
theorem shape_tell {q : Q Lk} {r : ResT} (h : Shape q) : Shape (tell (lstM hd) S q r) := by
  obtain ⟨pc, s⟩ := q
  have hfi : ∀ (o : OutT) (s : PsT), Shape (norm (lstM hd) (.clr (.fi o)) s) := fun o s => clr_shape s (.inl ⟨o, rfl⟩)
  cases pc with
  | fin o => exact h
  | clr k => exact absurd h id
  | at_ k =>
    cases k with
    | ls o f a b pn cur w t =>
      show Shape (norm (lstM hd) (if r.val = plainW cur then _ else _) s.up)
      split
      · trivial
      · exact anew_shape _ _ _
    | lo o f a b pn cur w t k =>
      show Shape (norm (lstM hd) (if (ofW w).mark then _ else if r.val < o then _ else if r.val = o then _ else _) s.up)
      split
      · trivial
      · split
        · exact goW_shape _ _ _ _ _ _ _ _
        · split
          · exact exY_shape _ _ _ _ _ _ _
          · exact exN_shape _ _ _ _ _ _
    | cu o f a b pn cur w =>
      show Shape (norm (lstM hd) (if r.ok then _ else _) s.up)
      split
      · exact .inl ⟨_, _, _, _, _, _, _, rfl⟩
      · exact anew_shape _ _ _
    | gv o cur pt => exact hfi _ _
    | p1 o v n pn cur => trivial
    | p2 o v n pn cur => trivial
    | p0 o v n pn cur => trivial
    | cp o v n pn cur =>
      show Shape (norm (lstM hd) (if r.ok then _ else _) s.up)
      split
      · exact hfi _ _
      · exact anew_shape _ _ _
    | cm o pn cur w =>
      show Shape (norm (lstM hd) (if r.ok then _ else _) s.up)
      split
      · trivial
      · exact anew_shape _ _ _
    | cd o pn cur nx a =>
      show Shape (norm (lstM hd) (if r.ok then _ else _) s.up)
      split
      · exact clr_shape _ (.inr ⟨_, _, rfl⟩)
      · exact anew_shape _ _ _
    | _ => exact absurd h id
  | t1 k =>
    obtain ⟨o, v, pn, cur, rfl⟩ := h
    show Shape (if (ofW r.val).idx = 0 then norm (lstM hd) _ s.up else _)
    split
    · exact hfi _ _
    · exact ⟨o, v, pn, cur, rfl⟩
  | t2 k f => exact h
  | t3 k f lk =>
    show Shape (if r.ok then _ else _)
    split <;> exact h
  | t4 k n b => exact h
  | t5 k n b c =>
    obtain ⟨o, v, pn, cur, rfl⟩ := h
    trivial
  | g1 k i c => exact h
  | g2 k i c v b =>
    show Shape (if r.val = s.e i then norm (lstM hd) _ s.up else _)
    split
    · rcases h with ⟨o, f, rfl⟩ | ⟨o, f, a, pn, cur, rfl, rfl⟩
      · exact goW_shape _ _ _ _ _ _ _ _
      · trivial
    · exact h
  | g3 k i c er => exact h
  | c k i => exact clr_shape _ h.2.2.2
  | v1 k n => exact h
  | v2 k n f => exact h
  | v3 k n f =>
    obtain ⟨a, rfl⟩ := h
    show Shape (if r.ok then norm (lstM hd) _ s.up else _)
    split
    · exact hfi _ _
    · exact ⟨a, rfl⟩
  | r1 k n => exact h
  | r2 k n er =>
    show Shape (if (s.gone.length : Int) + 1 < 2 * (S : Int) then norm (lstM hd) _ _ else _)
    split
    · exact ret_shape h _
    · exact scan_shape h _ _ _
  | rs k held c cs => exact scan_shape h _ _ _
  | s1 k held y gs stay =>
    show Shape (if held.any (inB (max1 r.val) y.2) = true then siftQ (lstM hd) _ _ _ _ _ else _)
    split
    · exact sift_shape h _ _ _ _
    · exact h
  | w1 k held y gs stay => exact h
  | w2 k held y gs stay f => exact h
  | w3 k held y gs stay f =>
    show Shape (if r.ok then siftQ (lstM hd) _ _ _ _ _ else _)
    split
    · exact sift_shape h _ _ _ _
    · exact h

/-! ### Points -/
theorem clr_pt (k : Lk) (s : PsT) : ptP (clrQ (lstM hd) k s).pc = kpt k ∧ outP (clrQ (lstM hd) k s).pc = kout k ∧ looks (clrQ (lstM hd) k s).pc = looks ((lstM hd).cleared k) ∨ ptP (clrQ (lstM hd) k s).pc = kpt k ∧ outP (clrQ (lstM hd) k s).pc = kout k ∧ looks (clrQ (lstM hd) k s).pc = [] := by
  rcases clr_cases (M := lstM hd) k s with ⟨i, i0, i2, h, e⟩ | ⟨_, e⟩
  · rw [e]; exact .inr ⟨rfl, rfl, rfl⟩
  · rw [e]
    left
    cases k <;> exact ⟨rfl, rfl, rfl⟩
theorem clr_p (k : Lk) (s : PsT) : ptP (clrQ (lstM hd) k s).pc = kpt k ∧ outP (clrQ (lstM hd) k s).pc = kout k := by
  rcases clr_pt (hd := hd) k s with h | h <;> exact ⟨h.1, h.2.1⟩
theorem clr_l {k : Lk} (s : PsT) (hk : (∃ o, k = .fi o) ∨ ∃ n a, k = .rx n a) : looks (clrQ (lstM hd) k s).pc = [] := by
  rcases clr_pt (hd := hd) k s with h | h
  · rw [h.2.2]
    rcases hk with ⟨o, rfl⟩ | ⟨n, a, rfl⟩ <;> rfl
  · exact h.2.2
theorem norm_p (pc : Pc Lk) (s : PsT) : ptP (norm (lstM hd) pc s).pc = ptP pc ∧ outP (norm (lstM hd) pc s).pc = outP pc := by
  cases pc with
  | clr k => exact clr_p k s
  | _ => exact ⟨rfl, rfl⟩
theorem goW_p {o : Int} {f : Fk} {a b pn cur pt x : Int} (h : fpt f = some x) : ptP (goW o f a b pn cur pt) = some x ∧ outP (goW o f a b pn cur pt) = some (0, true, 0) := by
  cases f with
  | fin y =>
    cases h
    unfold goW
    split <;> exact ⟨rfl, rfl⟩
  | _ => cases h
theorem ret_p {k : Lk} {s : PsT} {x : Int} (h : kpt k = some x) (hk : IsR k) : ptP (norm (lstM hd) ((lstM hd).retired k) s).pc = some x ∧ outP (norm (lstM hd) ((lstM hd).retired k) s).pc = kout k := by
  rw [(norm_p _ _).1, (norm_p _ _).2]
  rcases hk with ⟨o, f, a, b, pn, nx, pt, rfl⟩ | ⟨a, rfl⟩
  · have hf : fpt f = some x := h
    obtain ⟨h1, h2⟩ := goW_p (o := o) (a := b) (b := a) (pn := pn) (cur := nx) (pt := pt) hf
    exact ⟨h1, by rw [show kout (.rr o f a b pn nx pt) = (fpt f).map fun _ => (0, true, 0) from rfl, hf]; exact h2⟩
  · exact ⟨h, rfl⟩
theorem sift_p {k : Lk} {s : PsT} {x : Int} (h : kpt k = some x) (hk : IsR k) (held : List Int) (gs stay : List (Int × Int)) : ptP (siftQ (lstM hd) k held s gs stay).pc = some x ∧ outP (siftQ (lstM hd) k held s gs stay).pc = kout k := by
  cases gs with
  | nil => exact ret_p h hk
  | cons g gs => exact ⟨h, rfl⟩
theorem scan_p {k : Lk} {s : PsT} {x : Int} (h : kpt k = some x) (hk : IsR k) (held : List Int) (cs : List Ad) : ptP (scanQ (lstM hd) k held s cs).pc = some x ∧ outP (scanQ (lstM hd) k held s cs).pc = kout k := by
  cases cs with
  | nil => exact sift_p h hk _ _ _
  | cons c cs => exact ⟨h, rfl⟩
def NotGv (q : Q Lk) : Prop := ∀ o cur pt, q.pc ≠ .at_ (.gv o cur pt)
/-- A point that is behind us stays, and so does what will be told. -/
theorem pt_tell {q : Q Lk} {r : ResT} {x : Int} (hs : Shape q) (h : ptP q.pc = some x) : ptP (tell (lstM hd) S q r).pc = some x ∧ (NotGv q → outP (tell (lstM hd) S q r).pc = outP q.pc) := by
  obtain ⟨pc, s⟩ := q
  have ff : ∀ {f : Fk}, fpt f = some x → f = .fin x := fun {f} h => by cases f <;> cases h; rfl
  cases pc with
  | fin o => exact ⟨h, fun _ => rfl⟩
  | clr k => exact absurd hs id
  | at_ k =>
    show ptP (norm (lstM hd) (lstTell hd k s.made r) s.up).pc = _ ∧ (_ → outP (norm (lstM hd) (lstTell hd k s.made r) s.up).pc = _)
    rw [(norm_p _ _).1, (norm_p _ _).2]
    cases k with
    | ls o f a b pn cur w t =>
      have hf := ff h; subst hf
      simp only [lstTell]
      split <;> exact ⟨rfl, fun _ => rfl⟩
    | lo o f a b pn cur w t k =>
      have hf := ff h; subst hf
      simp only [lstTell]
      split
      · exact ⟨rfl, fun _ => rfl⟩
      · split
        · have := goW_p (o := o) (f := .fin x) (a := b) (b := 3 - a - b) (pn := cur) (cur := (ofW w).idx) (pt := t) rfl
          exact ⟨this.1, fun _ => this.2⟩
        · split <;> exact ⟨rfl, fun _ => rfl⟩
    | cu o f a b pn cur w =>
      have hf := ff h; subst hf
      simp only [lstTell]
      split <;> exact ⟨rfl, fun _ => rfl⟩
    | gv o cur pt => exact ⟨h, fun hn => absurd rfl (hn o cur pt)⟩
    | cd o pn cur nx a =>
      simp only [lstTell]
      split <;> exact ⟨h, fun _ => rfl⟩
    | p1 | p2 | p0 | cp | cm => cases h
    | _ => exact absurd hs id
  | t1 k => obtain ⟨o, v, pn, cur, rfl⟩ := hs; cases h
  | t2 k f => obtain ⟨o, v, pn, cur, rfl⟩ := hs; cases h
  | t3 k f lk => obtain ⟨o, v, pn, cur, rfl⟩ := hs; cases h
  | t4 k n b => obtain ⟨o, v, pn, cur, rfl⟩ := hs; cases h
  | t5 k n b c => obtain ⟨o, v, pn, cur, rfl⟩ := hs; cases h
  | g1 k i c => exact ⟨h, fun _ => rfl⟩
  | g2 k i c v b =>
    show ptP (if r.val = s.e i then norm (lstM hd) _ s.up else _ : Q Lk).pc = _ ∧ (_ → outP (if r.val = s.e i then norm (lstM hd) _ s.up else _ : Q Lk).pc = _)
    split
    · rw [(norm_p _ _).1, (norm_p _ _).2]
      rcases hs with ⟨o, f, rfl⟩ | ⟨o, f, a, pn, cur, rfl, rfl⟩
      · have hf := ff h; subst hf
        have := goW_p (o := o) (f := .fin x) (a := 0) (b := 1) (pn := 0) (cur := (ofW v).idx) (pt := b) rfl
        exact ⟨this.1, fun _ => this.2⟩
      · exact ⟨h, fun _ => rfl⟩
    · exact ⟨h, fun _ => rfl⟩
  | g3 k i c er => exact ⟨h, fun _ => rfl⟩
  | c k i =>
    have := clr_p (hd := hd) k (s.up.putE i 0)
    exact ⟨this.1.trans h, fun _ => this.2⟩
  | v1 k n => exact ⟨h, fun _ => rfl⟩
  | v2 k n f => exact ⟨h, fun _ => rfl⟩
  | v3 k n f =>
    obtain ⟨a, rfl⟩ := hs
    show ptP (if r.ok then norm (lstM hd) _ s.up else _ : Q Lk).pc = _ ∧ (_ → outP (if r.ok then norm (lstM hd) _ s.up else _ : Q Lk).pc = _)
    split
    · rw [(norm_p _ _).1, (norm_p _ _).2]; exact ⟨h, fun _ => rfl⟩
    · exact ⟨h, fun _ => rfl⟩
  | r1 k n => exact ⟨h, fun _ => rfl⟩
  | r2 k n er =>
    show ptP (if (s.gone.length : Int) + 1 < 2 * (S : Int) then norm (lstM hd) _ _ else _ : Q Lk).pc = _ ∧ (_ → outP (if (s.gone.length : Int) + 1 < 2 * (S : Int) then norm (lstM hd) _ _ else _ : Q Lk).pc = _)
    split
    · have := ret_p (hd := hd) (s := { s.up with gone := s.gone ++ [(n, er)] }) h hs
      exact ⟨this.1, fun _ => this.2⟩
    · have := scan_p (hd := hd) (s := { s.up with gone := s.gone ++ [(n, er)] }) h hs [] (resvsA 0 S)
      exact ⟨this.1, fun _ => this.2⟩
  | rs k held c cs =>
    have := scan_p (hd := hd) (s := s.up) h hs (held ++ [r.val]) cs
    exact ⟨this.1, fun _ => this.2⟩
  | s1 k held y gs stay =>
    show ptP (if held.any (inB (max1 r.val) y.2) = true then siftQ (lstM hd) _ _ _ _ _ else _ : Q Lk).pc = _ ∧ (_ → outP (if held.any (inB (max1 r.val) y.2) = true then siftQ (lstM hd) _ _ _ _ _ else _ : Q Lk).pc = _)
    split
    · have := sift_p (hd := hd) (s := s.up) h hs held gs (stay ++ [y])
      exact ⟨this.1, fun _ => this.2⟩
    · exact ⟨h, fun _ => rfl⟩
  | w1 k held y gs stay => exact ⟨h, fun _ => rfl⟩
  | w2 k held y gs stay f => exact ⟨h, fun _ => rfl⟩
  | w3 k held y gs stay f =>
    show ptP (if r.ok then siftQ (lstM hd) _ _ _ _ _ else _ : Q Lk).pc = _ ∧ (_ → outP (if r.ok then siftQ (lstM hd) _ _ _ _ _ else _ : Q Lk).pc = _)
    split
    · have := sift_p (hd := hd) (s := s.up) h hs held gs stay
      exact ⟨this.1, fun _ => this.2⟩
    · exact ⟨h, fun _ => rfl⟩
/-! ### Points that come, and looks -/
/-- What a step brings: the point is none still, or this access, or a look under way; looks are those that were, or this access. -/
structure New (q q' : Q Lk) : Prop where
  pt : ptP q'.pc = none ∨ ptP q'.pc = some (q.s.made : Int) ∨ ∃ t ∈ looks q.pc, ptP q'.pc = some t
  lk : ∀ t ∈ looks q'.pc, t ∈ looks q.pc ∨ t = (q.s.made : Int)
theorem New.fi {q : Q Lk} {o : OutT} {s : PsT} (h : o.point = (q.s.made : Int) ∨ o.point ∈ looks q.pc) : New q (norm (lstM hd) (.clr (.fi o)) s) := by
  refine ⟨.inr ?_, fun t ht => by rw [show norm (lstM hd) (.clr (.fi o)) s = clrQ (lstM hd) (.fi o) s from rfl, clr_l s (.inl ⟨o, rfl⟩)] at ht; simp at ht⟩
  rw [(norm_p _ _).1]
  rcases h with h | h
  · exact .inl (by rw [← h]; rfl)
  · exact .inr ⟨_, h, rfl⟩
theorem New.none {q q' : Q Lk} (h : ptP q'.pc = Option.none) (hl : ∀ t ∈ looks q'.pc, t ∈ looks q.pc ∨ t = (q.s.made : Int)) : New q q' := ⟨.inl h, hl⟩
theorem exN_new {q : Q Lk} {o : Int} {f : Fk} {pn cur pt : Int} {s : PsT} (hf : fpt f = none) (h : pt = (q.s.made : Int) ∨ pt ∈ looks q.pc) : New q (norm (lstM hd) (exN o f pn cur pt) s) := by
  unfold exN
  cases f with
  | get => exact New.fi h
  | put v n =>
    simp only
    split
    · exact .none rfl (by simp [norm, looks])
    · exact .none rfl (by simp [norm, looks])
  | del => exact New.fi h
  | fin a => cases hf
theorem exY_new {q : Q Lk} {o : Int} {f : Fk} {pn cur w pt : Int} {s : PsT} (hf : fpt f = none) (h : pt ∈ looks q.pc) : New q (norm (lstM hd) (exY o f pn cur w pt) s) := by
  unfold exY
  cases f with
  | get => exact ⟨.inr (.inr ⟨pt, h, rfl⟩), by simp [norm, looks]⟩
  | put v n =>
    simp only
    split
    · exact New.fi (.inr h)
    · exact ⟨.inr (.inr ⟨pt, h, rfl⟩), by simp [norm, looks]⟩
  | del => exact .none rfl (by simp [norm, looks])
  | fin a => cases hf
theorem goW_new {q : Q Lk} {o : Int} {f : Fk} {a b pn cur pt : Int} {s : PsT} (hf : fpt f = none) (h : pt = (q.s.made : Int) ∨ pt ∈ looks q.pc) : New q (norm (lstM hd) (goW o f a b pn cur pt) s) := by
  unfold goW
  split
  · exact exN_new hf h
  · exact .none hf (by simp [norm, looks])
theorem anew_new {q : Q Lk} {o : Int} {f : Fk} {s : PsT} (hf : fpt f = none) : New q (norm (lstM hd) (anew hd o f) s) := .none hf (by simp [norm, anew, looks])
theorem looks_rr {o : Int} {f : Fk} {a b pn nx pt : Int} : ∀ (k : Lk), k = .rr o f a b pn nx pt → (∀ n, looks (.r1 k n) = [pt]) ∧ (∀ n e, looks (.r2 k n e) = [pt]) ∧ (∀ h c cs, looks (.rs k h c cs) = [pt]) ∧ (∀ h g gs st, looks (.s1 k h g gs st) = [pt] ∧ looks (.w1 k h g gs st) = [pt] ∧ ∀ x, looks (.w2 k h g gs st x) = [pt] ∧ looks (.w3 k h g gs st x) = [pt]) := fun k e => by subst e; exact ⟨fun _ => rfl, fun _ _ => rfl, fun _ _ _ => rfl, fun _ _ _ _ => ⟨rfl, rfl, fun _ => ⟨rfl, rfl⟩⟩⟩
theorem ret_new {q : Q Lk} {k : Lk} (hk : IsR k) (hp : kpt k = none) (hl : ∀ o f a b pn nx pt, k = .rr o f a b pn nx pt → looks q.pc = [pt]) (s : PsT) : New q (norm (lstM hd) ((lstM hd).retired k) s) := by
  rcases hk with ⟨o, f, a, b, pn, nx, pt, rfl⟩ | ⟨a, rfl⟩
  · exact goW_new hp (.inr (by rw [hl o f a b pn nx pt rfl]; simp))
  · cases hp
theorem sift_new {q : Q Lk} {k : Lk} (hk : IsR k) (hp : kpt k = none) (hl : ∀ o f a b pn nx pt, k = .rr o f a b pn nx pt → looks q.pc = [pt]) (held : List Int) (s : PsT) (gs stay : List (Int × Int)) : New q (siftQ (lstM hd) k held s gs stay) := by
  cases gs with
  | nil => exact ret_new hk hp hl _
  | cons g gs =>
    refine .none hp fun t ht => .inl ?_
    rcases hk with ⟨o, f, a, b, pn, nx, pt, rfl⟩ | ⟨a, rfl⟩
    · rw [hl o f a b pn nx pt rfl]; exact ht
    · cases hp
theorem scan_new {q : Q Lk} {k : Lk} (hk : IsR k) (hp : kpt k = none) (hl : ∀ o f a b pn nx pt, k = .rr o f a b pn nx pt → looks q.pc = [pt]) (held : List Int) (s : PsT) (cs : List Ad) : New q (scanQ (lstM hd) k held s cs) := by
  cases cs with
  | nil => exact sift_new hk hp hl _ _ _ _
  | cons c cs =>
    refine .none hp fun t ht => .inl ?_
    rcases hk with ⟨o, f, a, b, pn, nx, pt, rfl⟩ | ⟨a, rfl⟩
    · rw [hl o f a b pn nx pt rfl]; exact ht
    · cases hp
theorem new_tell {q : Q Lk} {r : ResT} (hs : Shape q) (h : ptP q.pc = none) : New q (tell (lstM hd) S q r) := by
  obtain ⟨pc, s⟩ := q
  cases pc with
  | fin o => cases h
  | clr k => exact absurd hs id
  | at_ k =>
    cases k with
    | ls o f a b pn cur w t =>
      show New _ (norm (lstM hd) (if r.val = plainW cur then _ else _) s.up)
      split
      · exact .none h (by simp [norm, looks])
      · exact anew_new h
    | lo o f a b pn cur w t k =>
      show New _ (norm (lstM hd) (if (ofW w).mark then _ else if r.val < o then _ else if r.val = o then _ else _) s.up)
      split
      · exact .none h (by simp [norm, looks])
      · split
        · exact goW_new h (.inr (by simp [looks]))
        · split
          · exact exY_new h (by simp [looks])
          · exact exN_new h (.inr (by simp [looks]))
    | cu o f a b pn cur w =>
      show New _ (norm (lstM hd) (if r.ok then _ else _) s.up)
      split
      · exact .none h (by simp [norm, looks])
      · exact anew_new h
    | gv o cur pt => cases h
    | p1 o v n pn cur => exact .none rfl (by simp [tell, norm, lstM, lstTell, looks])
    | p2 o v n pn cur => exact .none rfl (by simp [tell, norm, lstM, lstTell, looks])
    | p0 o v n pn cur => exact .none rfl (by simp [tell, norm, lstM, lstTell, looks])
    | cp o v n pn cur =>
      show New _ (norm (lstM hd) (if r.ok then _ else _) s.up)
      split
      · exact New.fi (.inl rfl)
      · exact anew_new rfl
    | cm o pn cur w =>
      show New _ (norm (lstM hd) (if r.ok then _ else _) s.up)
      split
      · exact ⟨.inr (.inl rfl), by simp [norm, looks]⟩
      · exact anew_new rfl
    | cd o pn cur nx a => cases h
    | _ => exact absurd hs id
  | t1 k =>
    obtain ⟨o, v, pn, cur, rfl⟩ := hs
    show New _ (if (ofW r.val).idx = 0 then norm (lstM hd) _ s.up else _)
    split
    · exact New.fi (.inl rfl)
    · exact .none rfl (by simp [looks])
  | t2 k f => obtain ⟨o, v, pn, cur, rfl⟩ := hs; exact .none rfl (by simp [tell, looks])
  | t3 k f lk =>
    obtain ⟨o, v, pn, cur, rfl⟩ := hs
    show New _ (if r.ok then _ else _)
    split <;> exact .none rfl (by simp [looks])
  | t4 k n b => obtain ⟨o, v, pn, cur, rfl⟩ := hs; exact .none rfl (by simp [tell, looks])
  | t5 k n b c => obtain ⟨o, v, pn, cur, rfl⟩ := hs; exact .none rfl (by simp [tell, norm, lstM, looks])
  | g1 k i c => exact .none h (by simp [tell, looks])
  | g2 k i c v b =>
    show New _ (if r.val = s.e i then norm (lstM hd) _ s.up else _)
    split
    · rcases hs with ⟨o, f, rfl⟩ | ⟨o, f, a, pn, cur, rfl, rfl⟩
      · exact goW_new h (.inr (by simp [looks]))
      · exact .none h (by simp [norm, lstM, looks])
    · exact .none h (by simp [looks])
  | g3 k i c er => exact .none h (by simp [tell, looks])
  | c k i =>
    refine .none ((clr_p _ _).1.trans h) ?_
    show ∀ t ∈ looks (clrQ (lstM hd) k (s.up.putE i 0)).pc, _
    rw [clr_l _ hs.2.2.2]; simp
  | v1 k n => obtain ⟨a, rfl⟩ := hs; cases h
  | v2 k n f => obtain ⟨a, rfl⟩ := hs; cases h
  | v3 k n f => obtain ⟨a, rfl⟩ := hs; cases h
  | r1 k n =>
    refine .none h fun t ht => .inl ?_
    rcases hs with ⟨o, f, a, b, pn, nx, pt, rfl⟩ | ⟨a, rfl⟩
    · exact ht
    · cases h
  | r2 k n er =>
    show New _ (if (s.gone.length : Int) + 1 < 2 * (S : Int) then norm (lstM hd) _ _ else _)
    split
    · exact ret_new hs h (fun o f a b pn nx pt e => (looks_rr k e).2.1 n er) _
    · exact scan_new hs h (fun o f a b pn nx pt e => (looks_rr k e).2.1 n er) _ _ _
  | rs k held c cs => exact scan_new hs h (fun o f a b pn nx pt e => (looks_rr k e).2.2.1 held c cs) _ _ _
  | s1 k held y gs stay =>
    show New _ (if held.any (inB (max1 r.val) y.2) = true then siftQ (lstM hd) _ _ _ _ _ else _)
    split
    · exact sift_new hs h (fun o f a b pn nx pt e => ((looks_rr k e).2.2.2 held y gs stay).1) _ _ _ _
    · refine .none h fun t ht => .inl ?_
      rcases hs with ⟨o, f, a, b, pn, nx, pt, rfl⟩ | ⟨a, rfl⟩
      · exact ht
      · cases h
  | w1 k held y gs stay =>
    refine .none h fun t ht => .inl ?_
    rcases hs with ⟨o, f, a, b, pn, nx, pt, rfl⟩ | ⟨a, rfl⟩
    · exact ht
    · cases h
  | w2 k held y gs stay f =>
    refine .none h fun t ht => .inl ?_
    rcases hs with ⟨o, f, a, b, pn, nx, pt, rfl⟩ | ⟨a, rfl⟩
    · exact ht
    · cases h
  | w3 k held y gs stay f =>
    show New _ (if r.ok then siftQ (lstM hd) _ _ _ _ _ else _)
    split
    · exact sift_new hs h (fun o f a b pn nx pt e => (((looks_rr k e).2.2.2 held y gs stay).2.2 _).2) _ _ _ _
    · refine .none h fun t ht => .inl ?_
      rcases hs with ⟨o, f, a, b, pn, nx, pt, rfl⟩ | ⟨a, rfl⟩
      · exact ht
      · cases h
end
theorem sift_made {κ : Type} (M : Mach κ) (k : κ) (held : List Int) (s : PsT) (gs stay : List (Int × Int)) : (siftQ M k held s gs stay).s.made = s.made := by
  cases gs with
  | nil => unfold siftQ; rw [norm_s]
  | cons g gs => rfl
theorem scan_made {κ : Type} (M : Mach κ) (k : κ) (held : List Int) (s : PsT) (cs : List Ad) : (scanQ M k held s cs).s.made = s.made := by
  cases cs with
  | nil => exact sift_made _ _ _ _ _ _
  | cons c cs => rfl
theorem clrQ_s {κ : Type} (M : Mach κ) (k : κ) (s : PsT) : (clrQ M k s).s = s := by
  have := norm_s (M := M) (.clr k) s
  exact this
/-- How many accesses were made. -/
theorem made_tell {κ : Type} {M : Mach κ} {S : Nat} {q : Q κ} {r : ResT} (hf : q.pc.asking) : (tell M S q r).s.made = q.s.made + 1 := by
  obtain ⟨pc, s⟩ := q
  cases pc with
  | fin o => exact absurd hf id
  | clr k => exact absurd hf id
  | at_ k => show (norm M _ s.up).s.made = _; rw [norm_s]; rfl
  | t1 k =>
    show (if (ofW r.val).idx = 0 then norm M _ s.up else _ : Q κ).s.made = _
    split
    · rw [norm_s]; rfl
    · rfl
  | t3 k f lk =>
    show (if r.ok then _ else _ : Q κ).s.made = _
    split <;> rfl
  | t5 k n a b => show (norm M _ s.up).s.made = _; rw [norm_s]; rfl
  | g2 k i c v a =>
    show (if r.val = s.e i then norm M _ s.up else _ : Q κ).s.made = _
    split
    · rw [norm_s]; rfl
    · rfl
  | g3 k i c er => exact putE_made _ _ _
  | c k i =>
    show (clrQ M k (s.up.putE i 0)).s.made = _
    rw [clrQ_s]; exact putE_made _ _ _
  | v3 k n f =>
    show (if r.ok then norm M _ s.up else _ : Q κ).s.made = _
    split
    · rw [norm_s]; rfl
    · rfl
  | r2 k n er =>
    show (if (s.gone.length : Int) + 1 < 2 * (S : Int) then norm M _ _ else _ : Q κ).s.made = _
    split
    · rw [norm_s]; rfl
    · exact scan_made _ _ _ _ _
  | rs k held c cs => exact scan_made _ _ _ _ _
  | s1 k held y gs stay =>
    show (if held.any (inB (max1 r.val) y.2) = true then siftQ M _ _ _ _ _ else _ : Q κ).s.made = _
    split
    · exact sift_made _ _ _ _ _ _
    · rfl
  | w3 k held y gs stay f =>
    show (if r.ok then siftQ M _ _ _ _ _ else _ : Q κ).s.made = _
    split
    · exact sift_made _ _ _ _ _ _
    · rfl
  | _ => rfl
end Go.Proofs.Ytefagncaepallaa
/- Lists: how long a program takes that is alone. -/
namespace Go.Proofs.Ytefagncaepallaa
set_option maxRecDepth 100000

/-- The word behind a node is that of the node ahead. -/
abbrev Fr (hd : Int) (W : Ws) (pn cur : Int) : Prop := W.get (prevA hd pn) = plainW cur
/-- How many nodes there are from a node on. -/
def lL (X : List Int) (c : Int) : Nat := (X.dropWhile fun x => decide (x ≠ c)).length
section
variable (hd : Int)
def goCL (W : Ws) (X : List Int) (pn cur : Int) : Nat := if Fr hd W pn cur then 8 * lL X cur + 12 else 98
def lsC (W : Ws) (X : List Int) (pn cur w : Int) : Nat := if Fr hd W pn cur then (if W.nd cur 0 = w then 8 * lL X cur + 7 else 101) else 90
def loC (W : Ws) (X : List Int) (pn cur w : Int) : Nat := if Fr hd W pn cur ∧ W.nd cur 0 = w then 8 * lL X cur + 6 else 99
def cuC (W : Ws) (X : List Int) (pn cur : Int) : Nat := if Fr hd W pn cur then 8 * lL X cur + 5 else 90
def cpC (W : Ws) (pn cur : Int) : Nat := if Fr hd W pn cur then 4 else 90
/-- How long a program takes still, alone, from a place of its own on. -/
def cK (W : Ws) (X : List Int) : Lk → Nat
  | .ls _ _ _ _ pn cur w _ => lsC hd W X pn cur w
  | .lo _ _ _ _ pn cur w _ _ => loC hd W X pn cur w
  | .cu _ _ _ _ pn cur _ => cuC hd W X pn cur
  | .gv _ _ _ => 4
  | .p1 _ _ _ pn cur => 3 + cpC hd W pn cur
  | .p2 _ _ _ pn cur => 2 + cpC hd W pn cur
  | .p0 _ _ _ pn cur => 1 + cpC hd W pn cur
  | .cp _ _ _ pn cur => cpC hd W pn cur
  | .cm _ pn cur w => if W.nd cur 0 = w then 1 + cpC hd W pn cur else 90
  | .cd _ pn cur _ _ => cpC hd W pn cur
  | _ => 0
def gK (W : Ws) (X : List Int) (k : Lk) (v : Int) : Nat := match k with
  | .ga _ _ => goCL hd W X 0 (ofW v).idx
  | .gb _ _ _ _ pn cur => lsC hd W X pn cur v
  | _ => 0
def tK (W : Ws) : Lk → Nat
  | .tk _ _ pn cur => 3 + cpC hd W pn cur
  | _ => 0
def rK (W : Ws) (X : List Int) : Lk → Nat
  | .rr _ _ _ _ pn nx _ => goCL hd W X pn nx
  | _ => 0
def kC (S : Nat) (s : PsT) : Lk → Nat
  | .rx _ _ => 2 + 3 * S + 4 * (s.gone.length + 1)
  | _ => 0
def nz (s : PsT) : Nat := (if s.e0 = 0 then 0 else 1) + (if s.e1 = 0 then 0 else 1) + (if s.e2 = 0 then 0 else 1)
def nuPc (S : Nat) (V : Vw) (X : List Int) (s : PsT) : Pc Lk → Nat
  | .at_ k => cK hd V.W X k
  | .t1 k => 5 + tK hd V.W k
  | .t2 k f => (if V.fr = f then 4 else 7) + tK hd V.W k
  | .t3 k f _ => (if V.fr = f then 3 else 6) + tK hd V.W k
  | .t4 k _ _ => 2 + tK hd V.W k
  | .t5 k _ _ _ => 1 + tK hd V.W k
  | .g1 k i c => (if V.er = s.e i then 2 else 5) + gK hd V.W X k (V.W.get c)
  | .g2 k i c v _ => if V.er = s.e i then 1 + gK hd V.W X k v else 4 + gK hd V.W X k (V.W.get c)
  | .g3 k _ c er => (if V.er = er then 3 else 6) + gK hd V.W X k (V.W.get c)
  | .clr _ => 0
  | .c k _ => nz s + kC S s k
  | .v1 _ _ => 6
  | .v2 _ _ f => (if V.fr = f then 5 else 8)
  | .v3 _ _ f => (if V.fr = f then 4 else 7)
  | .r1 k _ => 2 + 3 * S + 4 * (s.gone.length + 1) + rK hd V.W X k
  | .r2 k _ _ => 1 + 3 * S + 4 * (s.gone.length + 1) + rK hd V.W X k
  | .rs k _ _ cs => 1 + cs.length + 4 * s.gone.length + rK hd V.W X k
  | .s1 k _ _ gs _ => 4 + 4 * gs.length + rK hd V.W X k
  | .w1 k _ _ gs _ => 3 + 4 * gs.length + rK hd V.W X k
  | .w2 k _ _ gs _ f => (if V.fr = f then 2 else 5) + 4 * gs.length + rK hd V.W X k
  | .w3 k _ _ gs _ f => (if V.fr = f then 1 else 4) + 4 * gs.length + rK hd V.W X k
  | .fin _ => 0
def nu (S : Nat) (V : Vw) (X : List Int) (q : Q Lk) : Nat := nuPc hd S V X q.s q.pc
end
theorem lL_at {X A B : List Int} (h : X = A ++ B) (hXd : X.Nodup) (h0 : (0 : Int) ∉ X) : lL X (B.headD 0) = B.length := by
  unfold lL
  have hA : ∀ a ∈ A, decide (a ≠ B.headD 0) = true := by
    intro a ha
    rw [decide_eq_true_eq]
    intro e
    cases B with
    | nil => exact h0 (by rw [h]; simp only [List.append_nil]; rw [show (0 : Int) = a from e.symm]; exact ha)
    | cons b B =>
      rw [h, List.nodup_append] at hXd
      exact hXd.2.2 a ha b (by simp) e
  rw [h, List.dropWhile_append_of_pos hA]
  cases B with
  | nil => rfl
  | cons b B => simp
theorem lL_le (X : List Int) (c : Int) : lL X c ≤ X.length := (List.dropWhile_sublist _).length_le
theorem nz_le (s : PsT) : nz s ≤ 3 := by unfold nz; split <;> split <;> split <;> omega
theorem nz_put {s : PsT} {i : Int} (i0 : 0 ≤ i) (i2 : i ≤ 2) (h : s.e i ≠ 0) : nz (s.up.putE i 0) < nz s := by
  have : i = 0 ∨ i = 1 ∨ i = 2 := by omega
  rcases this with rfl | rfl | rfl
  · have h : s.e0 ≠ 0 := h
    simp only [PsT.putE, PsT.up, nz, if_true, h, if_false]; omega
  · have h : s.e1 ≠ 0 := h
    show (if s.e0 = 0 then 0 else 1) + (if (0 : Int) = 0 then 0 else 1) + (if s.e2 = 0 then 0 else 1) < nz s
    simp only [nz, if_true, h, if_false]; omega
  · have h : s.e2 ≠ 0 := h
    show (if s.e0 = 0 then 0 else 1) + (if s.e1 = 0 then 0 else 1) + (if (0 : Int) = 0 then 0 else 1) < nz s
    simp only [nz, if_true, h, if_false]; omega
section
variable {hd : Int} {S N K : Nat} {l : LayT} {V : Vw} {X : List Int} {D : Int → Prop} {g : LstG}
theorem nu_clr (k : Lk) (s : PsT) (hk : (∃ o, k = .fi o) ∨ ∃ n a, k = .rx n a) : nu hd S V X (clrQ (lstM hd) k s) ≤ nz s + kC S s k := by
  rcases clr_cases (M := lstM hd) k s with ⟨i, _, _, _, e⟩ | ⟨_, e⟩
  · rw [e]; exact Nat.le_refl _
  · rw [e]
    rcases hk with ⟨o, rfl⟩ | ⟨n, a, rfl⟩
    · exact Nat.zero_le _
    · exact Nat.le_add_left _ _
theorem nu_fi (o : OutT) (s : PsT) : nu hd S V X (norm (lstM hd) (.clr (.fi o)) s) ≤ 3 := by
  have h1 : nu hd S V X (clrQ (lstM hd) (.fi o) s) ≤ _ := nu_clr (.fi o) s (.inl ⟨o, rfl⟩)
  have h2 := nz_le s
  show nu hd S V X (clrQ (lstM hd) (.fi o) s) ≤ 3
  simp only [kC] at h1
  omega
theorem nu_g1 (k : Lk) (i : Int) (c : Ad) (s : PsT) : nu hd S V X ⟨.g1 k i c, s⟩ ≤ 5 + gK hd V.W X k (V.W.get c) := by
  show (if V.er = s.e i then 2 else 5) + gK hd V.W X k (V.W.get c) ≤ _
  split <;> omega
theorem nu_exN (o : Int) (f : Fk) (pn cur pt : Int) (s : PsT) : nu hd S V X (norm (lstM hd) (exN o f pn cur pt) s) ≤ if Fr hd V.W pn cur then 12 else 98 := by
  have h3 : ∀ o, nu hd S V X (norm (lstM hd) (.clr (.fi o)) s) ≤ if Fr hd V.W pn cur then 12 else 98 := fun o => by
    have := nu_fi (hd := hd) (S := S) (V := V) (X := X) o s
    split <;> omega
  unfold exN
  cases f with
  | get => exact h3 _
  | del => exact h3 _
  | fin a => exact h3 _
  | put v n =>
    simp only
    split
    · show 5 + (3 + (if Fr hd V.W pn cur then 4 else 90)) ≤ _
      split <;> omega
    · show 1 + (if Fr hd V.W pn cur then 4 else 90) ≤ _
      split <;> omega
theorem nu_exY (o : Int) (f : Fk) (pn cur w pt : Int) (s : PsT) : nu hd S V X (norm (lstM hd) (exY o f pn cur w pt) s) ≤ if Fr hd V.W pn cur ∧ V.W.nd cur 0 = w then 6 else 91 := by
  have h3 : ∀ o, nu hd S V X (norm (lstM hd) (.clr (.fi o)) s) ≤ if Fr hd V.W pn cur ∧ V.W.nd cur 0 = w then 6 else 91 := fun o => by
    have := nu_fi (hd := hd) (S := S) (V := V) (X := X) o s
    split <;> omega
  unfold exY
  cases f with
  | get =>
    show 4 ≤ _
    split <;> omega
  | put v n =>
    simp only
    split
    · exact h3 _
    · show 6 ≤ _
      split <;> omega
  | del =>
    show (if V.W.nd cur 0 = w then 1 + (if Fr hd V.W pn cur then 4 else 90) else 90) ≤ _
    by_cases h1 : V.W.nd cur 0 = w
    · by_cases h2 : Fr hd V.W pn cur
      · rw [if_pos h1, if_pos h2, if_pos ⟨h2, h1⟩]; omega
      · rw [if_pos h1, if_neg h2, if_neg (fun h => h2 h.1)]; omega
    · rw [if_neg h1, if_neg (fun h => h1 h.2)]; omega
  | fin a => exact h3 _
theorem nu_goW (o : Int) (f : Fk) (a b pn cur pt : Int) (s : PsT) : nu hd S V X (norm (lstM hd) (goW o f a b pn cur pt) s) ≤ goCL hd V.W X pn cur := by
  unfold goW
  by_cases h : cur = 0
  · rw [if_pos h]
    subst h
    refine Nat.le_trans (nu_exN o f pn 0 pt s) ?_
    unfold goCL
    split <;> omega
  · rw [if_neg h]
    refine Nat.le_trans (nu_g1 (.gb o f a b pn cur) b (.nd cur 0) s) ?_
    show 5 + (if Fr hd V.W pn cur then (if V.W.nd cur 0 = V.W.nd cur 0 then 8 * lL X cur + 7 else 101) else 90) ≤ if Fr hd V.W pn cur then 8 * lL X cur + 12 else 98
    rw [if_pos rfl]
    split <;> omega
theorem nu_ret {k : Lk} (hk : IsR k) (s : PsT) : nu hd S V X (norm (lstM hd) ((lstM hd).retired k) s) ≤ rK hd V.W X k := by
  rcases hk with ⟨o, f, a, b, pn, nx, pt, rfl⟩ | ⟨a, rfl⟩
  · exact nu_goW _ _ _ _ _ _ _ _
  · exact Nat.le_refl _
theorem nu_sift {k : Lk} (hk : IsR k) (held : List Int) (s : PsT) (gs stay : List (Int × Int)) : nu hd S V X (siftQ (lstM hd) k held s gs stay) ≤ 4 * gs.length + rK hd V.W X k := by
  cases gs with
  | nil =>
    have := nu_ret (hd := hd) (S := S) (V := V) (X := X) hk { s with gone := stay }
    show nu hd S V X (norm (lstM hd) ((lstM hd).retired k) { s with gone := stay }) ≤ 4 * 0 + _
    omega
  | cons g gs => simp only [siftQ, nu, nuPc, List.length_cons]; omega
theorem nu_scan {k : Lk} (hk : IsR k) (held : List Int) (s : PsT) (cs : List Ad) : nu hd S V X (scanQ (lstM hd) k held s cs) ≤ cs.length + 4 * s.gone.length + rK hd V.W X k := by
  cases cs with
  | nil => have := nu_sift (hd := hd) (S := S) (V := V) (X := X) hk held s s.gone []; simpa [scanQ] using this
  | cons c cs => simp only [scanQ, nu, nuPc, List.length_cons]; omega
theorem LstSI.len (h : LstSI hd N K V.W X D g) (hXd : X.Nodup) : X.length ≤ N := nodup_le N X hXd h.rng
theorem LstSI.no0 (h : LstSI hd N K V.W X D g) : (0 : Int) ∉ X := fun h0 => by have := h.rng 0 h0; omega
theorem nu_anew (hSI : LstSI hd N K V.W X D g) (hN : N ≤ 9) (hXd : X.Nodup) (o : Int) (f : Fk) (s : PsT) : nu hd S V X (norm (lstM hd) (anew hd o f) s) ≤ 89 := by
  have hr := head_rng hSI.rng
  refine Nat.le_trans (nu_g1 (.ga o f) 0 (.ob hd) s) ?_
  show 5 + goCL hd V.W X 0 (ofW (V.W.ob hd)).idx ≤ 89
  have h1 : (ofW (V.W.ob hd)).idx = X.headD 0 := by rw [hSI.head]; exact idx_small hr.1 (by omega)
  have h2 : Fr hd V.W 0 (X.headD 0) := by
    show V.W.get (prevA hd 0) = _
    rw [get_prev, if_pos rfl, hSI.head, plainW_eq hr.1 (by omega)]
  rw [h1]
  unfold goCL
  rw [if_pos h2]
  have := lL_le X (X.headD 0)
  have := hSI.len hXd
  omega
/-- Each step of one's own brings one who is alone nearer to its end; a node that is taken out of its way gives 47. -/
theorem lst_dec (hN : N ≤ 9) (hS : S ≤ 3) {k : Lk} {P : Int → Int → Prop} (s : PsT) (hSI : LstSI hd N K V.W X D g) (hsh : Shape ⟨.at_ k, s⟩) (hk : lstKL N V.W X P k) (hP : ∀ i n, P i n → n ∈ X ∨ D n) (hb : ∀ n, n ∈ X ∨ n ∈ lstMine k ∨ D n → 1 ≤ n ∧ n ≤ (N : Int)) (hXd : X.Nodup)
    (hmi : ∀ n ∈ lstMine k, n ∉ X ∧ ¬ D n) (hDX : ∀ n, D n → n ∉ X) (hgo : ∀ c ∈ X, s.gone.length + 1 ≤ N) :
    nu hd S { V with W := (actW V.W (lstAsk hd k)).1 } (lstNx hd V.W X g k).1 (norm (lstM hd) (lstTell hd k s.made (actW V.W (lstAsk hd k)).2) s.up) + 47 * g.ret < cK hd V.W X k + 47 * (lstNx hd V.W X g k).2.ret := by
  have hbXD : ∀ n, n ∈ X ∨ D n → 1 ≤ n ∧ n ≤ (N : Int) := fun n hn => hb n (hn.imp id .inr)
  have hPN : ∀ {i n}, PN N P i n → n = 0 ∨ n ∈ X ∨ D n := fun h => h.at_ hP
  have pl : ∀ {n : Int}, 0 ≤ n → n ≤ N → plainW n = n := fun h0 h1 => plainW_eq h0 (by omega)
  have hlen := hSI.len hXd
  have an : ∀ (o : Int) (f : Fk) (s : PsT), nu hd S V X (norm (lstM hd) (anew hd o f) s) ≤ 89 := fun o f s => nu_anew hSI hN hXd o f s
  -- a node behind which we stand, and what is behind it
  have hL : ∀ {pn cur : Int}, (pn = 0 ∨ pn ∈ X ∨ D pn) → 1 ≤ cur → cur ≤ N → Fr hd V.W pn cur → ∃ A B, X = A ++ cur :: B ∧ cur ∈ X ∧ lL X cur = B.length + 1 ∧ V.W.nd cur 0 % 65536 = B.headD 0 ∧ lL X (B.headD 0) = B.length := by
    intro pn cur hp h0 h1 hf
    have hf : V.W.get (prevA hd pn) = cur := by rw [← pl (show 0 ≤ cur by omega) h1]; exact hf
    obtain ⟨A, C, hs⟩ := stand hSI (by omega) hXd hp hbXD hf (by omega) h1
    obtain ⟨B, rfl, hcX⟩ := hs.inX (by omega)
    have hX := hs.eq
    have hl := hSI.link
    rw [hX] at hl
    exact ⟨A, B, hX, hcX, lL_at hX hXd hSI.no0, (linked_cut hl).1, lL_at (A := A ++ [cur]) (by rw [hX]; simp) hXd hSI.no0⟩
  cases k with
  | ls o f a b pn cur w t =>
    obtain ⟨h1, h2, h3, h4⟩ := hk
    show nu hd S V X (norm (lstM hd) (if V.W.get (prevA hd pn) = plainW cur then .at_ (.lo o f a b pn cur w t s.made) else anew hd o f) s.up) + 47 * g.ret < lsC hd V.W X pn cur w + 47 * g.ret
    by_cases hc : V.W.get (prevA hd pn) = plainW cur
    · rw [if_pos hc]
      show loC hd V.W X pn cur w + _ < _
      unfold loC lsC
      rw [if_pos (show Fr hd V.W pn cur from hc)]
      by_cases hw : V.W.nd cur 0 = w
      · rw [if_pos hw, if_pos ⟨hc, hw⟩]; omega
      · rw [if_neg hw, if_neg (fun h => hw h.2)]; omega
    · rw [if_neg hc]
      have := an o f s.up
      unfold lsC
      rw [if_neg (show ¬ Fr hd V.W pn cur from hc)]
      omega
  | lo o f a b pn cur w t kk =>
    obtain ⟨h1, h2, h3, h4⟩ := hk
    have hi := ofW_idx w
    have hle := h2.2
    show nu hd S V X (norm (lstM hd) (if (ofW w).mark then .at_ (.cu o f a b pn cur w) else if V.W.nd cur 1 < o then goW o f b (3 - a - b) cur (ofW w).idx t else if V.W.nd cur 1 = o then exY o f pn cur w t else exN o f pn cur kk) s.up) + 47 * g.ret < loC hd V.W X pn cur w + 47 * g.ret
    by_cases hm : (ofW w).mark = true
    · rw [if_pos hm]
      show cuC hd V.W X pn cur + _ < _
      unfold cuC loC
      by_cases hf : Fr hd V.W pn cur
      · rw [if_pos hf, if_pos ⟨hf, h4 hm⟩]; omega
      · rw [if_neg hf, if_neg (fun h => hf h.1)]; omega
    · rw [if_neg hm]
      have hw := h2.plain.1 hm
      by_cases hlt : V.W.nd cur 1 < o
      · rw [if_pos hlt]
        have h5 := nu_goW (hd := hd) (S := S) (V := V) (X := X) o f b (3 - a - b) cur (ofW w).idx t s.up
        have hc0 : cur ≠ 0 := by have := h1.c1; omega
        have h6 := lL_le X (ofW w).idx
        by_cases hwc : V.W.nd cur 0 = w
        · have h7 : Fr hd V.W cur (ofW w).idx := by
            show V.W.get (prevA hd cur) = _
            rw [get_prev, if_neg hc0, hwc, pl hi.1 hle]; exact hw
          unfold goCL at h5
          rw [if_pos h7] at h5
          unfold loC
          by_cases hf : Fr hd V.W pn cur
          · obtain ⟨A, B, _, _, e1, e2, e3⟩ := hL (hPN h1.pp) h1.c1 h1.cN hf
            rw [if_pos ⟨hf, hwc⟩]
            rw [← e2, hwc, show w % 65536 = (ofW w).idx by omega] at e3
            omega
          · rw [if_neg (fun h => hf h.1)]; omega
        · unfold loC
          rw [if_neg (fun h => hwc h.2)]
          unfold goCL at h5
          split at h5 <;> omega
      · rw [if_neg hlt]
        have hl1 : Fr hd V.W pn cur → 1 ≤ lL X cur := fun hf => by
          obtain ⟨A, B, _, _, e1, _, _⟩ := hL (hPN h1.pp) h1.c1 h1.cN hf
          omega
        by_cases he : V.W.nd cur 1 = o
        · rw [if_pos he]
          have h5 := nu_exY (hd := hd) (S := S) (V := V) (X := X) o f pn cur w t s.up
          unfold loC
          by_cases hf : Fr hd V.W pn cur ∧ V.W.nd cur 0 = w
          · have := hl1 hf.1
            rw [if_pos hf] at h5 ⊢; omega
          · rw [if_neg hf] at h5 ⊢; omega
        · rw [if_neg he]
          have h5 := nu_exN (hd := hd) (S := S) (V := V) (X := X) o f pn cur kk s.up
          unfold loC
          by_cases hf : Fr hd V.W pn cur
          · have := hl1 hf
            rw [if_pos hf] at h5
            split <;> omega
          · rw [if_neg hf] at h5
            rw [if_neg (fun h => hf h.1)]; omega
  | cu o f a b pn cur w =>
    obtain ⟨h1, h2, h3, h4, h5⟩ := hk
    have hw := h2.mark.1 h4
    have hi := ofW_idx w
    have hle := h2.2
    have e0 : plainW cur = cur := pl (by have := h1.c1; omega) h1.cN
    have e0' : plainW (ofW w).idx = (ofW w).idx := pl hi.1 hle
    by_cases hc : V.W.get (prevA hd pn) = cur
    · have e1 : actW V.W (lstAsk hd (.cu o f a b pn cur w)) = (V.W.put (prevA hd pn) (ofW w).idx, ⟨cur, true⟩) := by simp only [lstAsk, actW, e0, e0', hc, if_true]
      have e2 : lstNx hd V.W X g (.cu o f a b pn cur w) = (X.erase cur, { g with ret := g.ret + 1 }) := by simp only [lstNx, e0, hc, if_true]
      rw [e1, e2]
      have hf : Fr hd V.W pn cur := by show _ = plainW cur; rw [e0]; exact hc
      obtain ⟨hcX, f2, _, _, A, B, hs, f5, f6⟩ := unlink_si hSI (by omega) hXd hDX hbXD (hPN h1.pp) h1.c1 h1.cN hc (by rw [h5]; exact hw) hi.1 hle (D' := D) (fun n hn => .inl hn)
      have hg := hgo cur hcX
      have hX := hs.eq
      have el := lL_at hX hXd hSI.no0
      have el2 := lL_at f5 (hXd.erase cur) (fun h0 => hSI.no0 (List.mem_of_mem_erase h0))
      rw [f6] at el2
      have hf2 : Fr hd (V.W.put (prevA hd pn) (ofW w).idx) pn (ofW w).idx := by
        show (V.W.put (prevA hd pn) (ofW w).idx).get (prevA hd pn) = _
        rw [get_prev, e0']
        split
        · rename_i hp; rw [put_ob, if_pos ⟨hp, rfl⟩]
        · rename_i hp; rw [put_nd, if_pos ⟨hp, rfl, rfl⟩]
      show 2 + 3 * S + 4 * (s.gone.length + 1) + goCL hd (V.W.put (prevA hd pn) (ofW w).idx) (X.erase cur) pn (ofW w).idx + 47 * g.ret < cuC hd V.W X pn cur + 47 * (g.ret + 1)
      unfold goCL cuC
      rw [if_pos hf, if_pos hf2]
      simp only [List.headD_cons, List.length_cons] at el
      omega
    · have e1 : actW V.W (lstAsk hd (.cu o f a b pn cur w)) = (V.W, ⟨V.W.get (prevA hd pn), false⟩) := by simp only [lstAsk, actW, e0, hc, if_false]
      have e2 : lstNx hd V.W X g (.cu o f a b pn cur w) = (X, g) := by simp only [lstNx, e0, hc, if_false]
      rw [e1, e2]
      have := an o f s.up
      show nu hd S V X (norm (lstM hd) (anew hd o f) s.up) + 47 * g.ret < cuC hd V.W X pn cur + 47 * g.ret
      unfold cuC
      rw [if_neg (show ¬ Fr hd V.W pn cur by show ¬ _ = plainW cur; rw [e0]; exact hc)]
      omega
  | gv o cur pt =>
    have := nu_fi (hd := hd) (S := S) (V := V) (X := X) ⟨V.W.nd cur 2, true, 0, pt, []⟩ s.up
    show nu hd S V X (norm (lstM hd) (.clr (.fi ⟨V.W.nd cur 2, true, 0, pt, []⟩)) s.up) + 47 * g.ret < 4 + 47 * g.ret
    omega
  | p1 o v n pn cur =>
    obtain ⟨h1, h2⟩ := hk
    show 2 + cpC hd (V.W.setNd n 1 o) pn cur + 47 * g.ret < 3 + cpC hd V.W pn cur + 47 * g.ret
    have e : cpC hd (V.W.setNd n 1 o) pn cur = cpC hd V.W pn cur := by
      unfold cpC Fr
      rw [get_prev, get_prev, nd_set, if_neg (fun h : pn = n ∧ (0 : Int) = 1 => by omega)]; rfl
    omega
  | p2 o v n pn cur =>
    obtain ⟨h1, h2, h3⟩ := hk
    show 1 + cpC hd (V.W.setNd n 2 v) pn cur + 47 * g.ret < 2 + cpC hd V.W pn cur + 47 * g.ret
    have e : cpC hd (V.W.setNd n 2 v) pn cur = cpC hd V.W pn cur := by
      unfold cpC Fr
      rw [get_prev, get_prev, nd_set, if_neg (fun h : pn = n ∧ (0 : Int) = 2 => by omega)]; rfl
    omega
  | p0 o v n pn cur =>
    obtain ⟨h1, h2, h3, h4⟩ := hk
    have hmn := hmi n (by simp [lstMine])
    obtain ⟨j, hj⟩ := h1.pp
    show cpC hd (V.W.setNd n 0 (plainW cur)) pn cur + 47 * g.ret < 1 + cpC hd V.W pn cur + 47 * g.ret
    have e : cpC hd (V.W.setNd n 0 (plainW cur)) pn cur = cpC hd V.W pn cur := by
      unfold cpC Fr
      have hne : ¬ (pn = n ∧ (0 : Int) = 0) := fun h => by
        rcases hPN hj with hp | hp | hp
        · omega
        · exact hmn.1 (h.1 ▸ hp)
        · exact hmn.2 (h.1 ▸ hp)
      rw [get_prev, get_prev, nd_set, if_neg hne]; rfl
    omega
  | cp o v n pn cur =>
    obtain ⟨h1, h2, h3, h4, h5⟩ := hk
    by_cases hc : V.W.get (prevA hd pn) = plainW cur
    · have e1 : actW V.W (lstAsk hd (.cp o v n pn cur)) = (V.W.put (prevA hd pn) (plainW n), ⟨plainW cur, true⟩) := by simp only [lstAsk, actW, hc, if_true]
      have e2 : (lstNx hd V.W X g (.cp o v n pn cur)).2.ret = g.ret := by simp only [lstNx, hc, if_true]
      rw [e1, e2]
      generalize (lstNx hd V.W X g (.cp o v n pn cur)).1 = X'
      have := nu_fi (hd := hd) (S := S) (V := { V with W := V.W.put (prevA hd pn) (plainW n) }) (X := X') (okO s.made) s.up
      show nu hd S { V with W := V.W.put (prevA hd pn) (plainW n) } X' (norm (lstM hd) (.clr (.fi (okO s.made))) s.up) + 47 * g.ret < cpC hd V.W pn cur + 47 * g.ret
      unfold cpC
      rw [if_pos hc]
      omega
    · have e1 : actW V.W (lstAsk hd (.cp o v n pn cur)) = (V.W, ⟨V.W.get (prevA hd pn), false⟩) := by simp only [lstAsk, actW, hc, if_false]
      have e2 : lstNx hd V.W X g (.cp o v n pn cur) = (X, g) := by simp only [lstNx, hc, if_false]
      rw [e1, e2]
      have := an o (.put v n) s.up
      show nu hd S V X (norm (lstM hd) (anew hd o (.put v n)) s.up) + 47 * g.ret < cpC hd V.W pn cur + 47 * g.ret
      unfold cpC
      rw [if_neg hc]
      omega
  | cm o pn cur w =>
    obtain ⟨h1, h2, h3⟩ := hk
    by_cases hc : V.W.nd cur 0 = w
    · have e1 : actW V.W (lstAsk hd (.cm o pn cur w)) = (V.W.setNd cur 0 (markW (ofW w).idx), ⟨w, true⟩) := by simp only [lstAsk, actW, Ws.get, hc, if_true]; rfl
      rw [e1]
      show cpC hd (V.W.setNd cur 0 (markW (ofW w).idx)) pn cur + 47 * g.ret < (if V.W.nd cur 0 = w then 1 + cpC hd V.W pn cur else 90) + 47 * g.ret
      have e : cpC hd (V.W.setNd cur 0 (markW (ofW w).idx)) pn cur = cpC hd V.W pn cur := by
        unfold cpC Fr
        have hne : ¬ (pn = cur ∧ (0 : Int) = 0) := fun h => by
          have h6 := h1.kc
          have h7 := h1.c1
          rcases h1.kp with hp | hp
          · omega
          · rw [h.1] at hp; omega
        rw [get_prev, get_prev, nd_set, if_neg hne]; rfl
      rw [if_pos hc]
      omega
    · have e1 : actW V.W (lstAsk hd (.cm o pn cur w)) = (V.W, ⟨V.W.nd cur 0, false⟩) := by simp only [lstAsk, actW, Ws.get, hc, if_false]
      rw [e1]
      have := an o .del s.up
      show nu hd S V X (norm (lstM hd) (anew hd o .del) s.up) + 47 * g.ret < (if V.W.nd cur 0 = w then 1 + cpC hd V.W pn cur else 90) + 47 * g.ret
      rw [if_neg hc]
      omega
  | cd o pn cur nx at_ =>
    obtain ⟨h1, h2, h3, h4⟩ := hk
    have e0 : plainW cur = cur := pl (by have := h1.c1; omega) h1.cN
    obtain ⟨j, hj⟩ := h1.pp
    by_cases hc : V.W.get (prevA hd pn) = plainW cur
    · have e1 : actW V.W (lstAsk hd (.cd o pn cur nx at_)) = (V.W.put (prevA hd pn) (plainW nx), ⟨plainW cur, true⟩) := by simp only [lstAsk, actW, hc, if_true]
      have e2 : lstNx hd V.W X g (.cd o pn cur nx at_) = (X.erase cur, { g with ret := g.ret + 1 }) := by simp only [lstNx, hc, if_true]
      rw [e1, e2]
      obtain ⟨A, B, _, hcX, _⟩ := hL (hPN hj) h1.c1 h1.cN hc
      have hg := hgo cur hcX
      have h6 := nu_clr (hd := hd) (S := S) (V := { V with W := V.W.put (prevA hd pn) (plainW nx) }) (X := X.erase cur) (.rx cur at_) s.up (.inr ⟨_, _, rfl⟩)
      have h7 := nz_le s.up
      simp only [kC, PsT.up] at h6 h7
      show nu hd S _ (X.erase cur) (clrQ (lstM hd) (.rx cur at_) s.up) + 47 * g.ret < cpC hd V.W pn cur + 47 * (g.ret + 1)
      unfold cpC
      rw [if_pos hc]
      simp only [PsT.up] at *
      omega
    · have e1 : actW V.W (lstAsk hd (.cd o pn cur nx at_)) = (V.W, ⟨V.W.get (prevA hd pn), false⟩) := by simp only [lstAsk, actW, hc, if_false]
      have e2 : lstNx hd V.W X g (.cd o pn cur nx at_) = (X, g) := by simp only [lstNx, hc, if_false]
      rw [e1, e2]
      have := an o (.fin at_) s.up
      show nu hd S V X (norm (lstM hd) (anew hd o (.fin at_)) s.up) + 47 * g.ret < cpC hd V.W pn cur + 47 * g.ret
      unfold cpC
      rw [if_neg hc]
      omega
  | _ => exact absurd hsh id
variable {qs : List (Q Lk)} {F : List Int} {w : Nat} {q : Q Lk}
theorem own_nodup {κ γ : Type} {Z : Sp κ γ} {l : LayT} {S N K : Nat} {V : Vw} {qs : List (Q κ)} {F X : List Int} {g : γ} (hI : Inv Z l S N K V qs F X g) {w : Nat} {q : Q κ} (hq : qs[w]? = some q) : (own Z q).Nodup := by
  rw [List.nodup_iff_count]
  intro x
  by_cases hx : x ∈ own Z q
  · exact Nat.le_of_eq (hI.ownNot hq hx).2.2.1
  · rw [List.count_eq_zero.2 hx]; omega
theorem own_len {κ γ : Type} {Z : Sp κ γ} {l : LayT} {S N K : Nat} {V : Vw} {qs : List (Q κ)} {F X : List Int} {g : γ} (hI : Inv Z l S N K V qs F X g) {w : Nat} {q : Q κ} (hq : qs[w]? = some q) : (own Z q).length ≤ N :=
  nodup_le N (own Z q) (own_nodup hI hq) (fun _ hx => hI.inOwn hq hx)
/-- Each access of one who is alone brings it nearer to its end; a node that is taken out of its way gives 47. -/
theorem nu_dec (hLy : LstLay l S hd) (hN : N ≤ 9) (hS : S ≤ 3) (hI : Inv (lstZ hd N) l S N K V qs F X g) (hq : qs[w]? = some q) (hf : q.pc.asking) (hsh : Shape q) :
    nu hd S (act V (asks (lstM hd) w q.pc)).1 (nxX (lstZ hd N) V.W X g q.pc).1 (tell (lstM hd) S q (act V (asks (lstM hd) w q.pc)).2) + 47 * g.ret < nu hd S V X q + 47 * (nxX (lstZ hd N) V.W X g q.pc).2.ret := by
  have hl := hI.loc w _ hq
  have hSI : LstSI hd N K V.W X (Dq (lstZ hd N) qs) g := hI.si
  have hXd := hI.nodupX
  have hown := own_len hI hq
  have hwS : w < S := by have := (List.getElem?_eq_some_iff.1 hq).1; have := hI.n; omega
  obtain ⟨pc, s⟩ := q
  have hpc := hl.pc
  have fi3 : ∀ (V : Vw) (o : OutT) (s : PsT), nu hd S V X (norm (lstM hd) (.clr (.fi o)) s) ≤ 3 := fun V o s => nu_fi o s
  cases pc with
  | fin o => exact absurd hf id
  | clr k => exact absurd hf id
  | at_ k =>
    have hs := lst_sound hLy (show N ≤ 100 by omega)
    have hnb : ∀ i n, Pr (lstZ hd N) V X qs w s i n → 1 ≤ n ∧ n ≤ (N : Int) := fun i n h => (pr_in h).elim (fun h => hI.inX h) fun h => (hI.dq h).1
    have hmn : ∀ n ∈ lstMine k, n ∈ own (lstZ hd N) ⟨.at_ k, s⟩ := fun n h => by unfold own; rw [List.mem_append]; exact .inl h
    have hdo : ∀ n ∈ lstDead k, n ∈ own (lstZ hd N) ⟨.at_ k, s⟩ := fun n h => by unfold own deadQ; rw [List.mem_append, List.mem_append]; exact .inr (.inl h)
    have hstr := hs.ask hI.si hpc.1 hnb (fun n h => h.elim (fun h => hI.inX h) fun h => h.elim (fun h => hI.inOwn hq (hmn n h)) fun h => hI.inOwn hq (hdo n h))
    have e1 : act V (asks (lstM hd) w (.at_ k)) = ({ V with W := (actW V.W (lstAsk hd k)).1 }, (actW V.W (lstAsk hd k)).2) := act_str hstr
    rw [e1]
    refine lst_dec hN hS s hSI hsh hpc.1 (fun i n h => pr_in h) (fun n h => h.elim (fun h => hI.inX h) fun h => h.elim (fun h => hI.inOwn hq (hmn n h)) fun h => (hI.dq h).1) hXd (fun n h => ?_) (fun n h => (hI.dq h).2.1) (fun c hc => ?_)
    · have h2 := hI.mineNot hq (n := n) (by exact h)
      exact ⟨h2.1, h2.2.1⟩
    · have h1 : (c :: own (lstZ hd N) ⟨.at_ k, s⟩).Nodup := List.nodup_cons.2 ⟨fun h => (hI.ownNot hq h).2.1 hc, own_nodup hI hq⟩
      have h2 := nodup_le N _ h1 (fun x hx => by
        rcases List.mem_cons.1 hx with rfl | hx
        · exact hI.inX hc
        · exact hI.inOwn hq hx)
      simp only [own, deadQ, goneP, List.length_cons, List.length_append, List.length_map] at h2
      omega
  | t1 k =>
    obtain ⟨o, v, pn, cur, rfl⟩ := hsh
    show nu hd S V X (if (ofW V.fr).idx = 0 then norm (lstM hd) (.clr (.fi _)) s.up else ⟨.t2 (.tk o v pn cur) V.fr, s.up⟩) + 47 * g.ret < 5 + (3 + cpC hd V.W pn cur) + 47 * g.ret
    split
    · have := fi3 V ⟨0, false, 8, s.made, []⟩ s.up
      show nu hd S V X (norm (lstM hd) (.clr (.fi ⟨0, false, 8, s.made, []⟩)) s.up) + 47 * g.ret < _
      omega
    · show (if V.fr = V.fr then 4 else 7) + (3 + cpC hd V.W pn cur) + 47 * g.ret < _
      rw [if_pos rfl]; omega
  | t2 k f =>
    show (if V.fr = f then 3 else 6) + tK hd V.W k + 47 * g.ret < (if V.fr = f then 4 else 7) + tK hd V.W k + 47 * g.ret
    split <;> omega
  | t3 k f lk =>
    by_cases hc : V.fr = f
    · have e1 : act V (asks (lstM hd) w (.t3 k f lk)) = ({ V with fr := packW (turnW (ofW f) lk) }, ⟨V.fr, true⟩) := by simp only [asks, act, Vw.get, hc, if_true]; rfl
      simp only [e1]
      show 2 + tK hd V.W k + 47 * g.ret < (if V.fr = f then 3 else 6) + tK hd V.W k + 47 * g.ret
      rw [if_pos hc]; omega
    · have e1 : act V (asks (lstM hd) w (.t3 k f lk)) = (V, ⟨V.fr, false⟩) := by simp only [asks, act, Vw.get, hc, if_false]
      simp only [e1]
      show 5 + tK hd V.W k + 47 * g.ret < (if V.fr = f then 3 else 6) + tK hd V.W k + 47 * g.ret
      rw [if_neg hc]; omega
  | t4 k n a =>
    show 1 + tK hd V.W k + 47 * g.ret < 2 + tK hd V.W k + 47 * g.ret
    omega
  | t5 k n a b =>
    obtain ⟨o, v, pn, cur, rfl⟩ := hsh
    show 3 + cpC hd V.W pn cur + 47 * g.ret < 1 + (3 + cpC hd V.W pn cur) + 47 * g.ret
    omega
  | g1 k i c =>
    have e1 : act V (asks (lstM hd) w (.g1 k i c)) = (V, ⟨V.W.get c, true⟩) := by simp only [asks, act, get_str hpc.2.2.2.2.1]
    simp only [e1]
    show (if V.er = s.e i then 1 + gK hd V.W X k (V.W.get c) else 4 + gK hd V.W X k (V.W.get c)) + 47 * g.ret < (if V.er = s.e i then 2 else 5) + gK hd V.W X k (V.W.get c) + 47 * g.ret
    split <;> omega
  | g2 k i c v a =>
    show nu hd S V X (if V.er = s.e i then norm (lstM hd) _ s.up else ⟨.g3 k i c V.er, s.up⟩) + 47 * g.ret < (if V.er = s.e i then 1 + gK hd V.W X k v else 4 + gK hd V.W X k (V.W.get c)) + 47 * g.ret
    by_cases he : V.er = s.e i
    · rw [if_pos he, if_pos he]
      rcases hsh with ⟨o, f, rfl⟩ | ⟨o, f, a', pn, cur, rfl, rfl⟩
      · have := nu_goW (hd := hd) (S := S) (V := V) (X := X) o f 0 1 0 (ofW v).idx a s.up
        show nu hd S V X (norm (lstM hd) (goW o f 0 1 0 (ofW v).idx a) s.up) + 47 * g.ret < 1 + goCL hd V.W X 0 (ofW v).idx + 47 * g.ret
        omega
      · show lsC hd V.W X pn cur v + 47 * g.ret < 1 + lsC hd V.W X pn cur v + 47 * g.ret
        omega
    · rw [if_neg he, if_neg he]
      show (if V.er = V.er then 3 else 6) + gK hd V.W X k (V.W.get c) + 47 * g.ret < _
      rw [if_pos rfl]; omega
  | g3 k i c er =>
    have hget : (s.up.putE i er).e i = er := by rw [e_putE hpc.2.2.1 hpc.2.2.2.1 hpc.2.2.1 hpc.2.2.2.1, if_pos rfl]
    show (if V.er = (s.up.putE i er).e i then 2 else 5) + gK hd V.W X k (V.W.get c) + 47 * g.ret < (if V.er = er then 3 else 6) + gK hd V.W X k (V.W.get c) + 47 * g.ret
    rw [hget]
    split <;> omega
  | c k i =>
    obtain ⟨h1, h2, h3, h4⟩ := hsh
    have h5 : nz (s.up.putE i 0) < nz s := nz_put h2 h3 h1
    have h6 := nu_clr (hd := hd) (S := S) (V := V.put (.rv w i) 0) (X := X) k (s.up.putE i 0) h4
    have h7 : kC S (s.up.putE i 0) k = kC S s k := by
      have : (s.up.putE i 0).gone = s.gone := putE_gone _ _ _
      cases k <;> simp only [kC, this]
    rw [h7] at h6
    show nu hd S (V.put (.rv w i) 0) X (clrQ (lstM hd) k (s.up.putE i 0)) + 47 * g.ret < nz s + kC S s k + 47 * g.ret
    omega
  | v1 k n =>
    show (if V.fr = V.fr then 5 else 8) + 47 * g.ret < 6 + 47 * g.ret
    rw [if_pos rfl]; omega
  | v2 k n f =>
    show (if V.fr = f then 4 else 7) + 47 * g.ret < (if V.fr = f then 5 else 8) + 47 * g.ret
    split <;> omega
  | v3 k n f =>
    obtain ⟨a, rfl⟩ := hsh
    by_cases hc : V.fr = f
    · have e1 : act V (asks (lstM hd) w (.v3 (.sv a) n f)) = ({ V with fr := packW (turnW (ofW f) n) }, ⟨V.fr, true⟩) := by simp only [asks, act, Vw.get, hc, if_true]; rfl
      simp only [e1]
      have := fi3 { V with fr := packW (turnW (ofW f) n) } (noO a) s.up
      show nu hd S _ X (norm (lstM hd) (.clr (.fi (noO a))) s.up) + 47 * g.ret < (if V.fr = f then 4 else 7) + 47 * g.ret
      rw [if_pos hc]; omega
    · have e1 : act V (asks (lstM hd) w (.v3 (.sv a) n f)) = (V, ⟨V.fr, false⟩) := by simp only [asks, act, Vw.get, hc, if_false]
      simp only [e1]
      show 6 + 47 * g.ret < (if V.fr = f then 4 else 7) + 47 * g.ret
      rw [if_neg hc]; omega
  | r1 k n =>
    show 1 + 3 * S + 4 * (s.gone.length + 1) + rK hd V.W X k + 47 * g.ret < 2 + 3 * S + 4 * (s.gone.length + 1) + rK hd V.W X k + 47 * g.ret
    omega
  | r2 k n er =>
    show nu hd S { V with er := V.er + 1 } X (if (s.gone.length : Int) + 1 < 2 * (S : Int) then norm (lstM hd) ((lstM hd).retired k) _ else scanQ (lstM hd) k [] { s.up with gone := s.gone ++ [(n, er)] } (resvsA 0 S)) + 47 * g.ret < 1 + 3 * S + 4 * (s.gone.length + 1) + rK hd V.W X k + 47 * g.ret
    split
    · have := nu_ret (hd := hd) (S := S) (V := { V with er := V.er + 1 }) (X := X) hsh { s.up with gone := s.gone ++ [(n, er)] }
      have : nu hd S { V with er := V.er + 1 } X (norm (lstM hd) ((lstM hd).retired k) { s.up with gone := s.gone ++ [(n, er)] }) ≤ rK hd V.W X k := this
      refine Nat.lt_of_le_of_lt (Nat.add_le_add_right this _) ?_
      omega
    · have := nu_scan (hd := hd) (S := S) (V := { V with er := V.er + 1 }) (X := X) hsh [] { s.up with gone := s.gone ++ [(n, er)] } (resvsA 0 S)
      rw [resvsA_len] at this
      simp only [List.length_append, List.length_cons, List.length_nil] at this
      refine Nat.lt_of_le_of_lt (Nat.add_le_add_right this _) ?_
      show 3 * S + 4 * (s.gone.length + (0 + 1)) + rK hd V.W X k + _ < _
      omega
  | rs k held c cs =>
    have := nu_scan (hd := hd) (S := S) (V := V) (X := X) hsh (held ++ [V.get c]) s.up cs
    have hg : s.up.gone = s.gone := rfl
    rw [hg] at this
    show nu hd S V X (scanQ (lstM hd) k (held ++ [V.get c]) s.up cs) + 47 * g.ret < 1 + cs.length + 4 * s.gone.length + rK hd V.W X k + 47 * g.ret
    omega
  | s1 k held y gs stay =>
    show nu hd S V X (if held.any (inB (max1 (V.bi y.1)) y.2) = true then siftQ (lstM hd) k held s.up gs (stay ++ [y]) else ⟨.w1 k held y gs stay, s.up⟩) + 47 * g.ret < 4 + 4 * gs.length + rK hd V.W X k + 47 * g.ret
    split
    · have := nu_sift (hd := hd) (S := S) (V := V) (X := X) hsh held s.up gs (stay ++ [y])
      omega
    · show 3 + 4 * gs.length + rK hd V.W X k + 47 * g.ret < _
      omega
  | w1 k held y gs stay =>
    show (if V.fr = V.fr then 2 else 5) + 4 * gs.length + rK hd V.W X k + 47 * g.ret < 3 + 4 * gs.length + rK hd V.W X k + 47 * g.ret
    rw [if_pos rfl]; omega
  | w2 k held y gs stay f =>
    show (if V.fr = f then 1 else 4) + 4 * gs.length + rK hd V.W X k + 47 * g.ret < (if V.fr = f then 2 else 5) + 4 * gs.length + rK hd V.W X k + 47 * g.ret
    split <;> omega
  | w3 k held y gs stay f =>
    by_cases hc : V.fr = f
    · have e1 : act V (asks (lstM hd) w (.w3 k held y gs stay f)) = ({ V with fr := packW (turnW (ofW f) y.1) }, ⟨V.fr, true⟩) := by simp only [asks, act, Vw.get, hc, if_true]; rfl
      simp only [e1]
      have := nu_sift (hd := hd) (S := S) (V := { V with fr := packW (turnW (ofW f) y.1) }) (X := X) hsh held s.up gs stay
      have : nu hd S { V with fr := packW (turnW (ofW f) y.1) } X (siftQ (lstM hd) k held s.up gs stay) ≤ 4 * gs.length + rK hd V.W X k := this
      show nu hd S _ X (siftQ (lstM hd) k held s.up gs stay) + 47 * g.ret < (if V.fr = f then 1 else 4) + 4 * gs.length + rK hd V.W X k + 47 * g.ret
      rw [if_pos hc]; omega
    · have e1 : act V (asks (lstM hd) w (.w3 k held y gs stay f)) = (V, ⟨V.fr, false⟩) := by simp only [asks, act, Vw.get, hc, if_false]
      simp only [e1]
      show 3 + 4 * gs.length + rK hd V.W X k + 47 * g.ret < (if V.fr = f then 1 else 4) + 4 * gs.length + rK hd V.W X k + 47 * g.ret
      rw [if_neg hc]; omega
end
end Go.Proofs.Ytefagncaepallaa
/- Plays of lists end. -/
namespace Go.Proofs.Ytefagncaepallaa
set_option maxRecDepth 100000

section
variable {hd : Int} {S N K : Nat} {l : LayT} {V : Vw} {qs : List (Q Lk)} {F X : List Int} {g : LstG} {w : Nat} {q : Q Lk}
theorem goC_le (W : Ws) (pn cur : Int) (h : X.length ≤ 9) : goCL hd W X pn cur ≤ 98 := by
  have := lL_le X cur
  unfold goCL
  split <;> omega
theorem lsC_le (W : Ws) (pn cur w : Int) (h : X.length ≤ 9) : lsC hd W X pn cur w ≤ 101 := by
  have := lL_le X cur
  unfold lsC
  split
  · split <;> omega
  · omega
theorem cpC_le (W : Ws) (pn cur : Int) : cpC hd W pn cur ≤ 90 := by unfold cpC; split <;> omega
theorem gK_le (W : Ws) (k : Lk) (v : Int) (h : X.length ≤ 9) : gK hd W X k v ≤ 101 := by
  unfold gK
  split
  · exact Nat.le_trans (goC_le _ _ _ h) (by omega)
  · exact lsC_le _ _ _ _ h
  · omega
theorem tK_le (W : Ws) (k : Lk) : tK hd W k ≤ 93 := by
  unfold tK
  split
  · rename_i pn cur; have := cpC_le (hd := hd) W pn cur; omega
  · omega
theorem rK_le (W : Ws) (k : Lk) (h : X.length ≤ 9) : rK hd W X k ≤ 98 := by
  unfold rK
  split
  · exact goC_le _ _ _ h
  · omega
/-- No place is far from its end. -/
theorem nu_le (hN : N ≤ 9) (hS : S ≤ 3) (hI : Inv (lstZ hd N) l S N K V qs F X g) (hq : qs[w]? = some q) (hsh : Shape q) : nu hd S V X q ≤ 150 := by
  have hl := hI.loc w _ hq
  have hown := own_len hI hq
  have hSI : LstSI hd N K V.W X (Dq (lstZ hd N) qs) g := hI.si
  have hX : X.length ≤ 9 := by have := hSI.len hI.nodupX; omega
  obtain ⟨pc, s⟩ := q
  have hpc := hl.pc
  cases pc with
  | fin o => show 0 ≤ 150; omega
  | clr k => exact absurd hsh id
  | at_ k =>
    show cK hd V.W X k ≤ 150
    cases k with
    | ls o f a b pn cur w t => have := lsC_le (hd := hd) V.W pn cur w hX; simp only [cK]; omega
    | lo o f a b pn cur w t k => have := lL_le X cur; simp only [cK, loC]; split <;> omega
    | cu o f a b pn cur w => have := lL_le X cur; simp only [cK, cuC]; split <;> omega
    | gv o cur pt => simp only [cK]; omega
    | p1 o v n pn cur => have := cpC_le (hd := hd) V.W pn cur; simp only [cK]; omega
    | p2 o v n pn cur => have := cpC_le (hd := hd) V.W pn cur; simp only [cK]; omega
    | p0 o v n pn cur => have := cpC_le (hd := hd) V.W pn cur; simp only [cK]; omega
    | cp o v n pn cur => have := cpC_le (hd := hd) V.W pn cur; simp only [cK]; omega
    | cm o pn cur w => have := cpC_le (hd := hd) V.W pn cur; simp only [cK]; split <;> omega
    | cd o pn cur nx a => have := cpC_le (hd := hd) V.W pn cur; simp only [cK]; omega
    | _ => exact absurd hsh id
  | t1 k => have := tK_le (hd := hd) V.W k; show 5 + tK hd V.W k ≤ 150; omega
  | t2 k f => have := tK_le (hd := hd) V.W k; show (if V.fr = f then 4 else 7) + tK hd V.W k ≤ 150; split <;> omega
  | t3 k f lk => have := tK_le (hd := hd) V.W k; show (if V.fr = f then 3 else 6) + tK hd V.W k ≤ 150; split <;> omega
  | t4 k n a => have := tK_le (hd := hd) V.W k; show 2 + tK hd V.W k ≤ 150; omega
  | t5 k n a b => have := tK_le (hd := hd) V.W k; show 1 + tK hd V.W k ≤ 150; omega
  | g1 k i c => have := gK_le (hd := hd) V.W k (V.W.get c) hX; show (if V.er = s.e i then 2 else 5) + gK hd V.W X k (V.W.get c) ≤ 150; split <;> omega
  | g2 k i c v a =>
    have := gK_le (hd := hd) V.W k (V.W.get c) hX
    have := gK_le (hd := hd) V.W k v hX
    show (if V.er = s.e i then 1 + gK hd V.W X k v else 4 + gK hd V.W X k (V.W.get c)) ≤ 150
    split <;> omega
  | g3 k i c er => have := gK_le (hd := hd) V.W k (V.W.get c) hX; show (if V.er = er then 3 else 6) + gK hd V.W X k (V.W.get c) ≤ 150; split <;> omega
  | c k i =>
    have h1 := nz_le s
    show nz s + kC S s k ≤ 150
    rcases hsh.2.2.2 with ⟨o, rfl⟩ | ⟨n, a, rfl⟩
    · simp only [kC]; omega
    · simp only [own, deadQ, mineP, deadP, goneP, lstZ, lstMine, lstDead, List.nil_append, List.length_append, List.length_cons, List.length_nil, List.length_map] at hown
      simp only [kC]; omega
  | v1 k n => show 6 ≤ 150; omega
  | v2 k n f => show (if V.fr = f then 5 else 8) ≤ 150; split <;> omega
  | v3 k n f => show (if V.fr = f then 4 else 7) ≤ 150; split <;> omega
  | r1 k n =>
    have := rK_le (hd := hd) V.W k hX
    simp only [own, deadQ, mineP, deadP, goneP, List.length_append, List.length_cons, List.length_map] at hown
    show 2 + 3 * S + 4 * (s.gone.length + 1) + rK hd V.W X k ≤ 150
    omega
  | r2 k n er =>
    have := rK_le (hd := hd) V.W k hX
    simp only [own, deadQ, mineP, deadP, goneP, List.length_append, List.length_cons, List.length_map] at hown
    show 1 + 3 * S + 4 * (s.gone.length + 1) + rK hd V.W X k ≤ 150
    omega
  | rs k held c cs =>
    have := rK_le (hd := hd) V.W k hX
    simp only [own, deadQ, goneP, List.length_append, List.length_map] at hown
    have h3 := hpc.2.2.1
    simp only [List.length_cons] at h3
    show 1 + cs.length + 4 * s.gone.length + rK hd V.W X k ≤ 150
    omega
  | s1 k held y gs stay =>
    have := rK_le (hd := hd) V.W k hX
    simp only [own, deadQ, goneP, List.length_append, List.length_cons, List.map_cons, List.map_append, List.length_map] at hown
    show 4 + 4 * gs.length + rK hd V.W X k ≤ 150
    omega
  | w1 k held y gs stay =>
    have := rK_le (hd := hd) V.W k hX
    simp only [own, deadQ, goneP, List.length_append, List.length_cons, List.map_cons, List.map_append, List.length_map] at hown
    show 3 + 4 * gs.length + rK hd V.W X k ≤ 150
    omega
  | w2 k held y gs stay f =>
    have := rK_le (hd := hd) V.W k hX
    simp only [own, deadQ, goneP, List.length_append, List.length_cons, List.map_cons, List.map_append, List.length_map] at hown
    show (if V.fr = f then 2 else 5) + 4 * gs.length + rK hd V.W X k ≤ 150
    split <;> omega
  | w3 k held y gs stay f =>
    have := rK_le (hd := hd) V.W k hX
    simp only [own, deadQ, goneP, List.length_append, List.length_cons, List.map_cons, List.map_append, List.length_map] at hown
    show (if V.fr = f then 1 else 4) + 4 * gs.length + rK hd V.W X k ≤ 150
    split <;> omega
end

/-! ### How much is put -/
theorem run_shape {hd : Int} {S : Nat} : ∀ (R : List ResT) {q : Q Lk}, Shape q → Shape (runQ (lstM hd) S q R)
  | [], _, h => h
  | r :: R, _, h => run_shape R (shape_tell (r := r) h)
theorem qAt_shape (p : PlayT) (ws : List OpT) (x : SeatT) : Shape (qAt p ws x) := by
  unfold qAt
  split
  · exact run_shape _ (.inl ⟨_, _, rfl⟩)
  · trivial
def ptN (q : Q Lk) : Nat := if (ptP q.pc).isSome then 1 else 0
theorem ptN_le (q : Q Lk) : ptN q ≤ 1 := by unfold ptN; split <;> omega
theorem ptN_tell {hd : Int} {S : Nat} {q : Q Lk} {r : ResT} (hs : Shape q) : ptN q ≤ ptN (tell (lstM hd) S q r) := by
  unfold ptN
  cases h : ptP q.pc with
  | none => simp
  | some a => rw [(pt_tell hs h).1]; exact Nat.le_refl _
/-- What is put is put by an operation whose point comes. -/
theorem put_tell {hd : Int} {S N : Nat} {V : Vw} {X : List Int} {g : LstG} {w : Int} {q : Q Lk} (hs : Shape q) : (nxX (lstZ hd N) V.W X g q.pc).2.put + ptN q ≤ g.put + ptN (tell (lstM hd) S q (act V (asks (lstM hd) w q.pc)).2) := by
  have h0 := ptN_tell (hd := hd) (S := S) (q := q) (r := (act V (asks (lstM hd) w q.pc)).2) hs
  by_cases hp : (nxX (lstZ hd N) V.W X g q.pc).2.put = g.put
  · omega
  obtain ⟨pc, s⟩ := q
  cases pc with
  | at_ k =>
    cases k with
    | cp o v n pn cur =>
      have hg : V.get (prevA hd pn) = V.W.get (prevA hd pn) := by unfold prevA; split <;> rfl
      by_cases hc : V.W.get (prevA hd pn) = plainW cur
      · have e1 : (act V (asks (lstM hd) w (.at_ (.cp o v n pn cur)))).2 = ⟨plainW cur, true⟩ := by
          show (act V (.cs (prevA hd pn) (plainW cur) (plainW n))).2 = _
          simp only [act, hg, hc, if_true]
        have e2 : (nxX (lstZ hd N) V.W X g (.at_ (.cp o v n pn cur))).2.put = g.put + 1 := by
          show (lstNx hd V.W X g (.cp o v n pn cur)).2.put = _
          simp only [lstNx, hc, if_true]
        rw [e2, e1]
        have e3 : ptN (tell (lstM hd) S ⟨.at_ (.cp o v n pn cur), s⟩ ⟨plainW cur, true⟩) = 1 := by
          have h9 : ptP (norm (lstM hd) (.clr (.fi (okO s.made))) s.up).pc = some (s.made : Int) := (norm_p _ _).1
          show (if (ptP (norm (lstM hd) (.clr (.fi (okO s.made))) s.up).pc).isSome then 1 else 0) = 1
          rw [h9]; rfl
        have e4 : ptN ⟨.at_ (.cp o v n pn cur), s⟩ = 0 := rfl
        omega
      · exact absurd (by show (lstNx hd V.W X g (.cp o v n pn cur)).2.put = _; simp only [lstNx, hc, if_false]) hp
    | cu o f a b pn cur w => exact absurd (by show (lstNx hd V.W X g (.cu o f a b pn cur w)).2.put = _; simp only [lstNx]; split <;> rfl) hp
    | cd o pn cur nx a => exact absurd (by show (lstNx hd V.W X g (.cd o pn cur nx a)).2.put = _; simp only [lstNx]; split <;> rfl) hp
    | _ => exact absurd rfl hp
  | _ => exact absurd rfl hp
/-- How many operations of a seat have their point behind them, at most. -/
def opN (p : PlayT) (z : SeatT × List OpT) : Nat := z.1.at_ + ptN (qAt p z.2 z.1)
structure PutJ (p : PlayT) (s : PSt) (g : LstG) : Prop where
  put : g.put ≤ ((s.seats.zip p.want).map (opN p)).sum
  at_ : ∀ (w : Nat) (x : SeatT) (ws : List OpT), s.seats[w]? = some x → p.want[w]? = some ws → x.at_ ≤ ws.length
theorem zip_set {α β : Type} : ∀ {l : List α} {m : List β} {w : Nat} (y : α) {b : β}, m[w]? = some b → (l.set w y).zip m = (l.zip m).set w (y, b)
  | [], _, _, _, _, _ => rfl
  | _ :: _, [], _, _, _, h => by simp at h
  | a :: l, c :: m, 0, y, b, h => by simp at h; subst h; rfl
  | a :: l, c :: m, w + 1, y, b, h => by
    simp only [List.set_cons_succ, List.zip_cons_cons]
    rw [zip_set y (by simpa using h)]
theorem put_step {p : PlayT} (_hp : PlayG p) {i : Nat} {s s' : PSt} {V V' : Vw} {F X F' X' : List Int} {g g' : LstG} (_hi : i < allF p) (_hG : G p i s V F X g) (hS : StepR p (whoF p i) s V F X g s' V' F' X' g') (h : PutJ p s g) : PutJ p s' g' := by
  cases hS with
  | idle => exact h
  | done x ws op q o hx hws ho hq hpc =>
    have hz : (s.seats.zip p.want)[whoF p i]? = some (x, ws) := by rw [List.getElem?_zip_eq_some]; exact ⟨hx, hws⟩
    refine ⟨?_, fun w y us hy hu => ?_⟩
    · simp only
      rw [zip_set _ hws]
      have h1 := sum_set (opN p) (⟨x.at_ + 1, [], q.s.gone⟩, ws) hz
      have h2 : opN p (x, ws) ≤ x.at_ + 1 := Nat.add_le_add_left (ptN_le _) _
      have h3 : x.at_ + 1 ≤ opN p (⟨x.at_ + 1, [], q.s.gone⟩, ws) := Nat.le_add_right _ _
      have := h.put
      omega
    · simp only at hy
      have hal := (List.getElem?_eq_some_iff.1 ho).1
      rcases set_get hx hy with ⟨rfl, rfl⟩ | ⟨_, hy⟩
      · rw [hws] at hu; cases hu; exact hal
      · exact h.at_ w y us hy hu
  | acc x ws op q hx hws ho hq hpc =>
    have hz : (s.seats.zip p.want)[whoF p i]? = some (x, ws) := by rw [List.getElem?_zip_eq_some]; exact ⟨hx, hws⟩
    refine ⟨?_, fun w y us hy hu => ?_⟩
    · simp only
      rw [zip_set _ hws]
      have h1 := sum_set (opN p) ({ x with log := x.log ++ [(actP p (whoF p i) V q).2] }, ws) hz
      have e1 : qAt p ws { x with log := x.log ++ [(actP p (whoF p i) V q).2] } = tell (mP p) p.want.length q (actP p (whoF p i) V q).2 := by
        rw [hq]
        unfold qAt
        simp only [ho]
        rw [runQ_snoc]
      have h2 : opN p (x, ws) = x.at_ + ptN q := by rw [hq]; rfl
      have h3 : opN p ({ x with log := x.log ++ [(actP p (whoF p i) V q).2] }, ws) = x.at_ + ptN (tell (mP p) p.want.length q (actP p (whoF p i) V q).2) := by rw [← e1]; rfl
      have h4 : (nxX (spP p) V.W X g q.pc).2.put + ptN q ≤ g.put + ptN (tell (mP p) p.want.length q (actP p (whoF p i) V q).2) := put_tell (hq ▸ qAt_shape p ws x)
      have := h.put
      omega
    · simp only at hy
      rcases set_get hx hy with ⟨rfl, rfl⟩ | ⟨_, hy⟩
      · exact h.at_ _ x us hx hu
      · exact h.at_ w y us hy hu
theorem sum_le {α : Type} (f : α → Nat) (b : Nat) : ∀ l : List α, (∀ x ∈ l, f x ≤ b) → (l.map f).sum ≤ b * l.length
  | [], _ => by simp
  | x :: l, h => by
    have h1 := sum_le f b l (fun y hy => h y (by simp [hy]))
    have h2 := h x (by simp)
    simp only [List.map_cons, List.sum_cons, List.length_cons, Nat.mul_add, Nat.mul_one]
    omega
theorem ret_le {p : PlayT} (hp : PlayG p) {i : Nat} {s : PSt} {V : Vw} {F X : List Int} {g : LstG} (hG : G p i s V F X g) (h : PutJ p s g) : g.ret ≤ 15 := by
  have hSI : LstSI (hdP p) (nP p) i V.W X (Dq (spP p) (qsOf p s.seats)) g := hG.inv.si
  have hc := hSI.cnt
  have h1 := h.put
  have h2 := sum_le (opN p) 5 (s.seats.zip p.want) (fun z hz => by
    obtain ⟨w, hw⟩ := List.getElem?_of_mem hz
    obtain ⟨k1, k2⟩ := List.getElem?_zip_eq_some.1 hw
    have k3 := h.at_ w z.1 z.2 k1 k2
    have k4 := hp.ok.l z.2 (List.mem_of_getElem? k2)
    have := ptN_le (qAt p z.2 z.1)
    unfold opN
    omega)
  have h3 : (s.seats.zip p.want).length ≤ 3 := by rw [List.length_zip]; have := hp.ok.w3; omega
  omega
theorem put_start (p : PlayT) : PutJ p (start p) g0 := ⟨by simp [g0], fun w x ws hx _ => by
  simp only [start, List.getElem?_replicate] at hx
  split at hx
  · cases hx; simp
  · cases hx⟩

/-! ### Plays end -/
/-- How long a seat takes still, alone. -/
def rem (p : PlayT) (V : Vw) (X : List Int) (g : LstG) (ws : List OpT) (x : SeatT) : Nat := if ws.length ≤ x.at_ then 0 else nu (hdP p) p.want.length V X (qAt p ws x) + 1 + 91 * (ws.length - x.at_ - 1) + 47 * (15 - g.ret)
def EndsP (p : PlayT) (i : Nat) (s : PSt) (V : Vw) (X : List Int) (g : LstG) : Prop := ∀ (w : Nat) (x : SeatT) (ws : List OpT), s.seats[w]? = some x → p.want[w]? = some ws → rem p V X g ws x ≤ 1200 - (i - (p.turns.length + 1500 * w))
theorem rem_le {p : PlayT} (hp : PlayG p) {i : Nat} {s : PSt} {V : Vw} {F X : List Int} {g : LstG} (hG : G p i s V F X g) {w : Nat} {x : SeatT} {ws : List OpT} (hx : s.seats[w]? = some x) (hw : p.want[w]? = some ws) : rem p V X g ws x ≤ 1200 := by
  unfold rem
  split
  · omega
  · rename_i hlt
    have h1 := nu_le (nP_le p).2 hp.ok.w3 hG.inv (qsOf_get hx hw) (qAt_shape p ws x)
    have h2 := hp.ok.l ws (List.mem_of_getElem? hw)
    omega
/-- A program that begins is not far from its end. -/
theorem nu_start {p : PlayT} {i : Nat} {s : PSt} {V : Vw} {F X : List Int} {g : LstG} (hG : G p i s V F X g) {ws : List OpT} (n : Nat) (hn : n < ws.length) (gone : List (Int × Int)) : nu (hdP p) p.want.length V X (qAt p ws ⟨n, [], gone⟩) ≤ 89 := by
  have he : ws[n]? = some ws[n] := List.getElem?_eq_getElem hn
  have hq : qAt p ws ⟨n, [], gone⟩ = startQ (hdP p) ws[n] gone := by unfold qAt; simp only [he]; rfl
  rw [hq]
  have hSI : LstSI (hdP p) (nP p) i V.W X (Dq (spP p) (qsOf p s.seats)) g := hG.inv.si
  exact nu_anew hSI (nP_le p).2 hG.inv.nodupX ws[n].a (fkOf ws[n]) ⟨0, gone, 0, 0, 0⟩
theorem ends_step {p : PlayT} (hp : PlayG p) {i : Nat} {s s' : PSt} {V V' : Vw} {F X F' X' : List Int} {g g' : LstG} (hi : i < allF p) (hG : G p i s V F X g) (hS : StepR p (whoF p i) s V F X g s' V' F' X' g') (hG' : G p (i + 1) s' V' F' X' g') (hput : PutJ p s g) (h : EndsP p i s V X g) : EndsP p (i + 1) s' V' X' g' := by
  have hwl := whoF_lt hp.ok hi
  have hall : allF p ≤ 4700 := by have := hp.ok.w3; have := hp.ok.t; unfold allF; omega
  have hret' := ret_le hp hG' (put_step hp hi hG hS hput)
  intro w y ws hy hws
  have hle := rem_le hp hG' hy hws
  by_cases hearly : i + 1 ≤ p.turns.length + 1500 * w
  · omega
  by_cases hme : w = whoF p i
  · -- the seat's own turn
    subst hme
    have hdec : ∀ x, s.seats[whoF p i]? = some x → (rem p V' X' g' ws y < rem p V X g ws x ∨ rem p V' X' g' ws y = 0) → rem p V' X' g' ws y ≤ 1200 - (i + 1 - (p.turns.length + 1500 * whoF p i)) := by
      intro x hx hh
      have := h (whoF p i) x ws hx hws
      omega
    cases hS with
    | idle x ws' hx hw' ha =>
      rw [hws] at hw'
      cases hw'
      rw [hx] at hy
      cases hy
      exact hdec _ hx (.inr (by unfold rem; rw [if_pos ha]))
    | done x ws' op q o hx hw' ho hq hpc =>
      rw [hws] at hw'
      cases hw'
      have hlt := (List.getElem?_eq_some_iff.1 hx).1
      simp only at hy
      rw [List.getElem?_set_self hlt] at hy
      cases hy
      have hal := (List.getElem?_eq_some_iff.1 ho).1
      refine hdec x hx ?_
      unfold rem
      simp only
      rw [if_neg (show ¬ ws.length ≤ x.at_ by omega)]
      split
      · exact .inr rfl
      · left
        have h1 := nu_start hG (ws := ws) (x.at_ + 1) (by omega) q.s.gone
        omega
    | acc x ws' op q hx hw' ho hq hpc =>
      rw [hws] at hw'
      cases hw'
      have hlt := (List.getElem?_eq_some_iff.1 hx).1
      simp only at hy
      rw [List.getElem?_set_self hlt] at hy
      cases hy
      have hal := (List.getElem?_eq_some_iff.1 ho).1
      refine hdec x hx (.inl ?_)
      unfold rem
      simp only
      rw [if_neg (show ¬ ws.length ≤ x.at_ by omega), if_neg (show ¬ ws.length ≤ x.at_ by omega)]
      have e1 : qAt p ws { x with log := x.log ++ [(actP p (whoF p i) V q).2] } = tell (mP p) p.want.length q (actP p (whoF p i) V q).2 := by
        rw [hq]
        unfold qAt
        simp only [ho]
        rw [runQ_snoc]
      rw [e1, ← hq]
      have hqg := qsOf_get (p := p) hx hws
      rw [← hq] at hqg
      have hsh := qAt_shape p ws x
      rw [← hq] at hsh
      have hd := nu_dec (lstLayP p) (nP_le p).2 hp.ok.w3 hG.inv hqg hpc hsh
      have hret := ret_le hp hG hput
      have hd : nu (hdP p) p.want.length (actP p (whoF p i) V q).1 (nxX (spP p) V.W X g q.pc).1 (tell (mP p) p.want.length q (actP p (whoF p i) V q).2) + 47 * g.ret < nu (hdP p) p.want.length V X q + 47 * (nxX (spP p) V.W X g q.pc).2.ret := hd
      omega
  · -- another seat's turn, behind this seat's own time, or in it: it is over
    have hy0 : s.seats[w]? = some y := by
      cases hS with
      | idle => exact hy
      | done x ws' op q o hx hw' ho hq hpc =>
        simp only at hy
        rw [List.getElem?_set_ne (by omega)] at hy
        exact hy
      | acc x ws' op q hx hw' ho hq hpc =>
        simp only at hy
        rw [List.getElem?_set_ne (by omega)] at hy
        exact hy
    have h0 := h w y ws hy0 hws
    have hover : 1200 ≤ i - (p.turns.length + 1500 * w) := by
      have hturn : p.turns[i]? = none := List.getElem?_eq_none (by omega)
      have hwho : whoF p i = (i - p.turns.length) / 1500 := by unfold whoF; rw [hturn]
      omega
    have hz : rem p V X g ws y = 0 := by omega
    have : rem p V' X' g' ws y = 0 := by
      unfold rem at hz ⊢
      split
      · rfl
      · rename_i hn
        rw [if_neg hn] at hz
        omega
    omega
/-- A play's end. -/
theorem played_end {p : PlayT} (hp : PlayG p) (J : Nat → PSt → Vw → List Int → List Int → LstG → Prop)
    (hJ : ∀ i s V F X g s' V' F' X' g', i < allF p → G p i s V F X g → StepR p (whoF p i) s V F X g s' V' F' X' g' → G p (i + 1) s' V' F' X' g' → J i s V F X g → J (i + 1) s' V' F' X' g')
    (h0 : J 0 (start p) (V0 (nP p)) (upF 1 (nP p)) [] g0) :
    ∃ s V F X g, playL (layP p) p (allF p) 0 (start p) = .ok s ∧ G p (allF p) s V F X g ∧ J (allF p) s V F X g ∧ (∀ (w : Nat) (x : SeatT) (ws : List OpT), s.seats[w]? = some x → p.want[w]? = some ws → ws.length ≤ x.at_) := by
  have hG := G_start hp
  obtain ⟨s, V, F, X, g, h1, h2, h3, h4, h5⟩ := play_ind hp (fun i s V F X g => J i s V F X g ∧ EndsP p i s V X g ∧ PutJ p s g) (fun i s V F X g s' V' F' X' g' hi hG hS hG' h => ⟨hJ i s V F X g s' V' F' X' g' hi hG hS hG' h.1, ends_step hp hi hG hS hG' h.2.2 h.2.1, put_step hp hi hG hS h.2.2⟩) (allF p) 0 (start p) _ _ _ _ (by omega) hG ⟨h0, fun w x ws hx hw => by
    have := rem_le hp hG hx hw
    omega, put_start p⟩
  rw [Nat.zero_add] at h2 h3 h4
  refine ⟨s, V, F, X, g, h1, h2, h3, fun w x ws hx hw => ?_⟩
  have := h4 w x ws hx hw
  have hwl := (List.getElem?_eq_some_iff.1 hw).1
  have : rem p V X g ws x = 0 := by unfold allF at this; omega
  unfold rem at this
  split at this
  · assumption
  · omega
theorem playedF_end {p : PlayT} {s : PSt} (h : playL (layP p) p (allF p) 0 (start p) = .ok s) (he : ∀ (w : Nat) (x : SeatT) (ws : List OpT), s.seats[w]? = some x → p.want[w]? = some ws → ws.length ≤ x.at_) : playedF p = ⟨s.out, s.m, s.seats.map (·.gone), true⟩ := by
  unfold playedF
  rw [h]
  simp only
  congr 1
  unfold endsF
  rw [List.all_eq_true]
  intro z hz
  obtain ⟨w, hw⟩ := List.getElem?_of_mem hz
  obtain ⟨h1, h2⟩ := List.getElem?_zip_eq_some.1 hw
  simp only [decide_eq_true_eq]
  exact he w z.1 z.2 h1 h2
theorem played_len {p : PlayT} (hp : PlayG p) : (playedF p).steps.length ≤ 4700 := by
  have hall : allF p ≤ 4700 := by have := hp.ok.w3; have := hp.ok.t; unfold allF; omega
  obtain ⟨s, V, F, X, g, h1, h2, h3, h4⟩ := played_end hp (fun i s _ _ _ _ => s.out.length ≤ i) (fun i s V F X g s' V' F' X' g' hi hG hS hG' h => by
    cases hS with
    | idle => omega
    | done => simp; omega
    | acc => simp; omega) (by simp [start])
  rw [playedF_end h1 h4]
  simp only at h3 ⊢
  omega
end Go.Proofs.Ytefagncaepallaa
/- What is read of a list's memory; a list rises; no cell of a free node is touched. -/
namespace Go.Proofs.Ytefagncaepallaa
set_option maxRecDepth 100000

/-! ### Which operation a program is of -/
def fOf (op : OpT) : Fk → Prop
  | .get => op.kind = 1
  | .put v _ => op.kind = 2 ∧ v = op.b
  | .del => op.kind = 3
  | .fin _ => op.kind = 3
def kOf (op : OpT) : Lk → Prop
  | .ga o f | .gb o f _ _ _ _ | .ls o f _ _ _ _ _ _ | .lo o f _ _ _ _ _ _ _ | .cu o f _ _ _ _ _ | .rr o f _ _ _ _ _ => o = op.a ∧ fOf op f
  | .gv o _ _ => o = op.a ∧ op.kind = 1
  | .tk o v _ _ | .p1 o v _ _ _ | .p2 o v _ _ _ | .p0 o v _ _ _ | .cp o v _ _ _ => o = op.a ∧ op.kind = 2 ∧ v = op.b
  | .sv _ => op.kind = 2
  | .cm o _ _ _ | .cd o _ _ _ _ => o = op.a ∧ op.kind = 3
  | .rx _ _ | .ry _ => op.kind = 3
  | .fi _ => True
def pOf (op : OpT) : Pc Lk → Prop
  | .fin _ => True
  | .at_ k | .t1 k | .t2 k _ | .t3 k _ _ | .t4 k _ _ | .t5 k _ _ _ | .g1 k _ _ | .g2 k _ _ _ _ | .g3 k _ _ _ | .clr k | .c k _ | .v1 k _ | .v2 k _ _ | .v3 k _ _ | .r1 k _ | .r2 k _ _ | .rs k _ _ _ | .s1 k _ _ _ _ | .w1 k _ _ _ _ | .w2 k _ _ _ _ _ | .w3 k _ _ _ _ _ => kOf op k
section
variable {hd : Int} {S : Nat} {op : OpT}
theorem clr_of {k : Lk} (h : kOf op k) (s : PsT) : pOf op (clrQ (lstM hd) k s).pc := by
  rcases clr_cases (M := lstM hd) k s with ⟨i, _, _, _, e⟩ | ⟨_, e⟩
  · rw [e]; exact h
  · rw [e]
    cases k <;> first | trivial | exact h
theorem norm_of {pc : Pc Lk} (h : pOf op pc) (s : PsT) : pOf op (norm (lstM hd) pc s).pc := by
  cases pc with
  | clr k => exact clr_of h s
  | _ => exact h
theorem exN_of {f : Fk} (h : fOf op f) (pn cur pt : Int) : pOf op (exN op.a f pn cur pt) := by
  unfold exN
  cases f with
  | put v n =>
    simp only
    split <;> exact ⟨rfl, h.1, h.2⟩
  | _ => trivial
theorem exY_of {f : Fk} (h : fOf op f) (pn cur w pt : Int) : pOf op (exY op.a f pn cur w pt) := by
  unfold exY
  cases f with
  | get => exact ⟨rfl, h⟩
  | put v n =>
    simp only
    split
    · trivial
    · exact h.1
  | del => exact ⟨rfl, h⟩
  | fin a => trivial
theorem goW_of {f : Fk} (h : fOf op f) (a b pn cur pt : Int) : pOf op (goW op.a f a b pn cur pt) := by
  unfold goW
  split
  · exact exN_of h _ _ _
  · exact ⟨rfl, h⟩
theorem ret_of {k : Lk} (h : kOf op k) (s : PsT) : pOf op (norm (lstM hd) ((lstM hd).retired k) s).pc := by
  refine norm_of ?_ s
  cases k with
  | rr o f a b pn nx pt => obtain ⟨rfl, hf⟩ := h; exact goW_of hf _ _ _ _ _
  | ry a => trivial
  | _ => exact h
theorem sift_of {k : Lk} (h : kOf op k) (held : List Int) (s : PsT) (gs stay : List (Int × Int)) : pOf op (siftQ (lstM hd) k held s gs stay).pc := by
  cases gs with
  | nil => exact ret_of h _
  | cons g gs => exact h
theorem scan_of {k : Lk} (h : kOf op k) (held : List Int) (s : PsT) (cs : List Ad) : pOf op (scanQ (lstM hd) k held s cs).pc := by
  cases cs with
  | nil => exact sift_of h _ _ _ _
  | cons c cs => exact h
/-- A program is of its operation. -/
theorem of_tell {q : Q Lk} {r : ResT} (hs : Shape q) (h : pOf op q.pc) : pOf op (tell (lstM hd) S q r).pc := by
  obtain ⟨pc, s⟩ := q
  cases pc with
  | fin o => trivial
  | clr k => exact absurd hs id
  | at_ k =>
    show pOf op (norm (lstM hd) (lstTell hd k s.made r) s.up).pc
    refine norm_of ?_ _
    cases k with
    | ls o f a b pn cur w t =>
      simp only [lstTell]
      split <;> exact h
    | lo o f a b pn cur w t k =>
      obtain ⟨rfl, hf⟩ := h
      simp only [lstTell]
      split
      · exact ⟨rfl, hf⟩
      · split
        · exact goW_of hf _ _ _ _ _
        · split
          · exact exY_of hf _ _ _ _
          · exact exN_of hf _ _ _
    | cu o f a b pn cur w =>
      simp only [lstTell]
      split <;> exact h
    | gv o cur pt => trivial
    | p1 o v n pn cur => exact h
    | p2 o v n pn cur => exact h
    | p0 o v n pn cur => exact h
    | cp o v n pn cur =>
      simp only [lstTell]
      split
      · trivial
      · exact ⟨h.1, h.2.1, h.2.2⟩
    | cm o pn cur w =>
      simp only [lstTell]
      split <;> exact h
    | cd o pn cur nx a =>
      simp only [lstTell]
      split
      · exact h.2
      · exact ⟨h.1, h.2⟩
    | _ => exact absurd hs id
  | t1 k =>
    obtain ⟨o, v, pn, cur, rfl⟩ := hs
    show pOf op (if (ofW r.val).idx = 0 then norm (lstM hd) _ s.up else _ : Q Lk).pc
    split
    · exact norm_of (pc := .clr (.fi _)) trivial _
    · exact h
  | t2 k f => exact h
  | t3 k f lk =>
    show pOf op (if r.ok then _ else _ : Q Lk).pc
    split <;> exact h
  | t4 k n b => exact h
  | t5 k n b c =>
    obtain ⟨o, v, pn, cur, rfl⟩ := hs
    exact h
  | g1 k i c => exact h
  | g2 k i c v b =>
    show pOf op (if r.val = s.e i then norm (lstM hd) _ s.up else _ : Q Lk).pc
    split
    · refine norm_of ?_ _
      rcases hs with ⟨o, f, rfl⟩ | ⟨o, f, a, pn, cur, rfl, rfl⟩
      · obtain ⟨rfl, hf⟩ := h; exact goW_of hf _ _ _ _ _
      · exact h
    · exact h
  | g3 k i c er => exact h
  | c k i => exact clr_of h _
  | v1 k n => exact h
  | v2 k n f => exact h
  | v3 k n f =>
    obtain ⟨a, rfl⟩ := hs
    show pOf op (if r.ok then norm (lstM hd) _ s.up else _ : Q Lk).pc
    split
    · exact norm_of (pc := .clr (.fi _)) trivial _
    · exact h
  | r1 k n => exact h
  | r2 k n er =>
    show pOf op (if (s.gone.length : Int) + 1 < 2 * (S : Int) then norm (lstM hd) _ _ else _ : Q Lk).pc
    split
    · exact ret_of h _
    · exact scan_of h _ _ _
  | rs k held c cs => exact scan_of h _ _ _
  | s1 k held y gs stay =>
    show pOf op (if held.any (inB (max1 r.val) y.2) = true then siftQ (lstM hd) _ _ _ _ _ else _ : Q Lk).pc
    split
    · exact sift_of h _ _ _ _
    · exact h
  | w1 k held y gs stay => exact h
  | w2 k held y gs stay f => exact h
  | w3 k held y gs stay f =>
    show pOf op (if r.ok then siftQ (lstM hd) _ _ _ _ _ else _ : Q Lk).pc
    split
    · exact sift_of h _ _ _ _
    · exact h
theorem of_run : ∀ (R : List ResT) {q : Q Lk}, Shape q → pOf op q.pc → pOf op (runQ (lstM hd) S q R).pc
  | [], _, _, h => h
  | r :: R, _, hs, h => of_run R (shape_tell (r := r) hs) (of_tell hs h)
end
theorem start_of {op : OpT} (hk : op.kind = 1 ∨ op.kind = 2 ∨ op.kind = 3) : fOf op (fkOf op) := by
  unfold fkOf
  rcases hk with hk | hk | hk
  · rw [if_pos hk]; exact hk
  · rw [if_neg (by omega), if_pos hk]; exact ⟨hk, rfl⟩
  · rw [if_neg (by omega), if_neg (by omega)]; exact hk
theorem qAt_of {p : PlayT} (hp : PlayG p) {ws : List OpT} (hw : ws ∈ p.want) {x : SeatT} {op : OpT} (ho : ws[x.at_]? = some op) : pOf op (qAt p ws x).pc := by
  unfold qAt
  rw [ho]
  exact of_run _ (.inl ⟨_, _, rfl⟩) ⟨rfl, start_of (hp.k ws hw op (List.mem_of_getElem? ho))⟩

/-! ### What is read -/
section
variable {hd : Int} {l : LayT} {S N K : Nat} {m : List Int} {V : Vw} {qs : List (Q Lk)} {F X : List Int} {g : LstG}
theorem nodes_is (hL : Lay l S N) (hLy : LstLay l S hd) (hN : N ≤ 100) (hV : View l S N m V) (hI : Inv (lstZ hd N) l S N K V qs F X g) : nodesF l m hd = X := by
  have hd' := hI.nodupX
  have hSI : LstSI hd N K V.W X (Dq (lstZ hd N) qs) g := hI.si
  have hr := head_rng hSI.rng
  unfold nodesF
  have hh : atF m hd = V.W.ob hd := atF_ad hL hV (a := .ob hd) ⟨hLy.h1, hLy.h2⟩
  rw [hh, show (ofW (V.W.ob hd)).idx = X.headD 0 by rw [hSI.head]; exact idx_small hr.1 (by omega)]
  have := chain_linked (nx := fun n => (ofW (atF m (nodeF l n 0))).idx) (nd := fun n => V.W.nd n 0 % 65536) (N := l.nodes) X [] (l.nodes.toNat + 1) (fun x hx => by have := hI.inX hx; have := hL.nodes; omega) (by simpa using hd') (by
    have := nodup_le N X hd' (fun x hx => hI.inX hx)
    have := hL.nodes
    omega) hSI.link (fun x hx => by
      have hx := hI.inX hx
      have e : atF m (nodeF l x 0) = V.W.nd x 0 := atF_ad hL hV (a := .nd x 0) ⟨hx.1, hx.2, by omega, by omega⟩
      show (ofW (atF m (nodeF l x 0))).idx = _
      rw [e, ofW_idx_eq])
  simpa using this
theorem nd_is (hL : Lay l S N) (hV : View l S N m V) {n i : Int} (h1 : 1 ≤ n) (h2 : n ≤ N) (i0 : 0 ≤ i) (i5 : i ≤ 5) : atF m (nodeF l n i) = V.W.nd n i := atF_ad hL hV (a := .nd n i) ⟨h1, h2, i0, i5⟩
/-- The nodes that are in. -/
def inR (W : Ws) (X : List Int) : List Int := X.filter fun n => !(ofW (W.nd n 0)).mark
theorem row_is (hL : Lay l S N) (hLy : LstLay l S hd) (hN : N ≤ 100) (hV : View l S N m V) (hI : Inv (lstZ hd N) l S N K V qs F X g) : rowF l m hd = (inR V.W X).map fun n => (V.W.nd n 1, V.W.nd n 2) := by
  unfold rowF inR
  rw [nodes_is hL hLy hN hV hI]
  have e1 : (X.filter fun n => !(ofW (atF m (nodeF l n 0))).mark) = X.filter fun n => !(ofW (V.W.nd n 0)).mark := List.filter_congr fun x hx => by
    have hx := hI.inX hx
    rw [nd_is hL hV hx.1 hx.2 (by omega) (by omega)]
  rw [e1]
  refine List.map_congr_left fun x hx => ?_
  have hx := hI.inX (List.mem_filter.1 hx).1
  rw [nd_is hL hV hx.1 hx.2 (by omega) (by omega), nd_is hL hV hx.1 hx.2 (by omega) (by omega)]
end

/-! ### How great numbers get -/
theorem lst_wr {hd : Int} {op : OpT} (ha : op.a < 9223372036854775808) (hb : op.b < 9223372036854775808) {pc : Pc Lk} (h : pOf op pc) : ∀ k, pc = .at_ k → ((lstM hd).ask k).wr < 9223372036854775808 := by
  intro k hk
  subst hk
  cases k with
  | cu o f a b pn cur w => exact pack_lt _
  | p1 o v n pn cur => obtain ⟨rfl, _⟩ := h; exact ha
  | p2 o v n pn cur => obtain ⟨_, _, rfl⟩ := h; exact hb
  | p0 o v n pn cur => exact pack_lt _
  | cp o v n pn cur => exact pack_lt _
  | cm o pn cur w => exact pack_lt _
  | cd o pn cur nx a => exact pack_lt _
  | _ => show (0 : Int) < _; omega
/-- The memory in the beginning has small numbers. -/
def begLt (S N : Nat) : Bool := (beginF (layF S N 1 0 0)).all fun x => decide (x < 9223372036854775808)
theorem begLt_all : ((List.range 3).all fun a => (List.range 8).all fun b => begLt (a + 1) (b + 2)) = true := by decide +kernel
theorem cells_start {p : PlayT} (hp : PlayOk p) : CellsLt (beginF (layP p)) := by
  have h1 := hp.w1
  have h3 := hp.w3
  rw [layP_eq]
  have hN := nP_le p
  generalize nP p = N at *
  generalize p.want.length = S at *
  have h := List.all_eq_true.1 (List.all_eq_true.1 begLt_all (S - 1) (List.mem_range.2 (by omega))) (N - 2) (List.mem_range.2 (by omega))
  rw [show S - 1 + 1 = S by omega, show N - 2 + 2 = N by omega] at h
  unfold begLt at h
  intro x hx
  simpa using List.all_eq_true.1 h x hx
theorem qs_at {p : PlayT} {s : PSt} {w : Nat} {x : SeatT} {ws : List OpT} {q : Q Lk} (hx : s.seats[w]? = some x) (hw : p.want[w]? = some ws) (hq : q = qAt p ws x) : (qsOf p s.seats)[w]? = some q := by rw [hq]; exact qsOf_get hx hw
theorem cells_step {p : PlayT} (hp : PlayG p) {i : Nat} {s s' : PSt} {V V' : Vw} {F X F' X' : List Int} {g g' : LstG} (hi : i < allF p) (hG : G p i s V F X g) (hS : StepR p (whoF p i) s V F X g s' V' F' X' g') (h : CellsLt s.m) : CellsLt s'.m := by
  have hall : allF p ≤ 4700 := by have := hp.ok.w3; have := hp.ok.t; unfold allF; omega
  cases hS with
  | idle => exact h
  | done => exact h
  | acc x ws op q hx hws ho hq hpc =>
    have hqg := qs_at hx hws hq
    have hu := hp.u ws (List.mem_of_getElem? hws) op (List.mem_of_getElem? ho)
    exact cells_act hG.inv (by omega) hG.view hqg (lst_wr hu.1 hu.2 (hq ▸ qAt_of hp (List.mem_of_getElem? hws) ho)) h

/-! ### No cell of a free node is touched -/
/-- The memory behind steps. -/
def memS (m : List Int) (s : StepT) : List Int := if s.done then m else (turnF m s.acc).1
structure SafeOk (l : LayT) (m : List Int) (s : StepT) : Prop where
  fault : s.done = false → faultF m.length s.acc = 0
  free : s.done = false → ∀ n ∈ listF l m, ¬ (nodeF l n 0 ≤ s.acc.cell ∧ s.acc.cell < nodeF l n 0 + 7)
  lt : CellsLt m
  len : m.length = l.size.toNat
def SafeAll (l : LayT) (m0 : List Int) (st : List StepT) : Prop := ∀ (i : Nat) (s : StepT), st[i]? = some s → SafeOk l ((st.take i).foldl memS m0) s
structure SafeJ (p : PlayT) (s : PSt) : Prop where
  all : SafeAll (layP p) (beginF (layP p)) s.out
  mem : s.out.foldl memS (beginF (layP p)) = s.m
  lt : CellsLt s.m
/-! ### A list rises -/
structure RiseOk (l : LayT) (m : List Int) (s : StepT) : Prop where
  fault : s.done = false → faultF m.length s.acc = 0
  rise : s.done = false → (nodesF l (memS m s) l.map).Pairwise fun x y => atF (memS m s) (nodeF l x 1) < atF (memS m s) (nodeF l y 1)
  last : s.done = false → ∀ (A : List Int) (n : Int), nodesF l (memS m s) l.map = A ++ [n] → atF (memS m s) (nodeF l n 0) % 65536 = 0
  rng : s.done = false → ∀ n ∈ nodesF l (memS m s) l.map, 1 ≤ n ∧ n ≤ l.nodes
  lt : CellsLt (memS m s)
  len : m.length = l.size.toNat
def RiseAll (l : LayT) (m0 : List Int) (st : List StepT) : Prop := ∀ (i : Nat) (s : StepT), st[i]? = some s → RiseOk l ((st.take i).foldl memS m0) s
structure RiseJ (p : PlayT) (s : PSt) : Prop where
  all : RiseAll (layP p) (beginF (layP p)) s.out
  mem : s.out.foldl memS (beginF (layP p)) = s.m
  lt : CellsLt s.m
end Go.Proofs.Ytefagncaepallaa
/- Lists: who takes a node out of its way; no node is lost, and none is twice. -/
namespace Go.Proofs.Ytefagncaepallaa
set_option maxRecDepth 100000

section
variable {hd : Int} {l : LayT} {S N K : Nat} {W W' : Ws} {X X' : List Int} {D : Int → Prop} {g : LstG} {P : Int → Int → Prop}
/-- What is known where a step of a program's own is made. -/
structure Own (hd : Int) (l : LayT) (S N : Nat) (V : Vw) (X : List Int) (g : LstG) (D : Int → Prop) (P : Int → Int → Prop) (k : Lk) : Prop where
  kl : lstKL N V.W X P k
  hP : ∀ i n, P i n → n ∈ X ∨ D n
  hb : ∀ n, n ∈ X ∨ n ∈ lstMine k ∨ D n → 1 ≤ n ∧ n ≤ (N : Int)
  nd : X.Nodup
  mi : ∀ n ∈ lstMine k, n ∉ X ∧ ¬ D n
  dx : ∀ n, D n → n ∉ X
  act : act V (lstAsk hd k) = ({ V with W := (actW V.W (lstAsk hd k)).1 }, (actW V.W (lstAsk hd k)).2)
variable {V : Vw} {qs : List (Q Lk)} {F : List Int} {w : Nat} {q : Q Lk}
theorem own_at (hLy : LstLay l S hd) (hN : N ≤ 100) (hI : Inv (lstZ hd N) l S N K V qs F X g) {k : Lk} {s : PsT} (hq : qs[w]? = some ⟨.at_ k, s⟩) : Own hd l S N V X g (Dq (lstZ hd N) qs) (Pr (lstZ hd N) V X qs w s) k := by
  have hpc := (hI.loc w _ hq).pc
  have hs := lst_sound hLy hN
  have hnb : ∀ i n, Pr (lstZ hd N) V X qs w s i n → 1 ≤ n ∧ n ≤ (N : Int) := fun i n h => (pr_in h).elim (fun h => hI.inX h) fun h => (hI.dq h).1
  have hmn : ∀ n ∈ lstMine k, n ∈ own (lstZ hd N) ⟨.at_ k, s⟩ := fun n h => by unfold own; rw [List.mem_append]; exact .inl h
  have hdo : ∀ n ∈ lstDead k, n ∈ own (lstZ hd N) ⟨.at_ k, s⟩ := fun n h => by unfold own deadQ; rw [List.mem_append, List.mem_append]; exact .inr (.inl h)
  have hstr := hs.ask hI.si hpc.1 hnb (fun n h => h.elim (fun h => hI.inX h) fun h => h.elim (fun h => hI.inOwn hq (hmn n h)) fun h => hI.inOwn hq (hdo n h))
  refine ⟨hpc.1, fun i n h => pr_in h, fun n h => h.elim (fun h => hI.inX h) fun h => h.elim (fun h => hI.inOwn hq (hmn n h)) fun h => (hI.dq h).1, hI.nodupX, fun n h => ?_, fun n h => (hI.dq h).2.1, act_str hstr⟩
  have h2 := hI.mineNot hq (n := n) (by exact h)
  exact ⟨h2.1, h2.2.1⟩
end

/-! ### Who takes a node out of its way -/
section
variable {hd : Int} {l : LayT} {S N K : Nat} {W W' : Ws} {X X' : List Int} {D : Int → Prop} {g : LstG} {P : Int → Int → Prop} {n : Int}
variable {V : Vw} {qs : List (Q Lk)} {F : List Int} {w : Nat} {q : Q Lk}
end
/-! ### No node is lost, and none is twice -/
def goneN (gone : List (List (Int × Int))) : List Int := gone.flatMap fun g => g.map (·.1)
structure KeptR (p : PlayT) (R : PlayedT) : Prop where
  ends : R.ends = true
  one : ∀ n, (nodesF (layP p) R.m (layP p).map ++ listF (layP p) R.m ++ goneN R.gone).count n = if 1 ≤ n ∧ n ≤ (layP p).nodes then 1 else 0
  resv : ∀ w i : Int, 0 ≤ w → w < p.want.length → 0 ≤ i → i ≤ 2 → atF R.m (resvF (layP p) w i) = 0
  row : (rowF (layP p) R.m (layP p).map).length = (nodesF (layP p) R.m (layP p).map).length
  lt : CellsLt R.m
  n : R.gone.length = p.want.length
theorem idle_own {p : PlayT} {ws : List OpT} {x : SeatT} (h : ws.length ≤ x.at_) : qAt p ws x = idleQ x.gone := by
  unfold qAt
  rw [List.getElem?_eq_none h]
end Go.Proofs.Ytefagncaepallaa
