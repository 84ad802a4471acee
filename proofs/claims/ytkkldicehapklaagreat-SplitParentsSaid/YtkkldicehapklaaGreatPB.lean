/- Lists: their programs, what lays and reads them, and plays, in plain words. -/
import Derived.Test.YtkkldicehapklaaGreatPA
namespace Go.Proofs.YtkkldicehapklaaGreat
set_option maxRecDepth 100000

/-! ### Programs -/
def plainW (n : Int) : Int := packW ⟨n, false, 0⟩
def markW (n : Int) : Int := packW ⟨n, true, 0⟩
structure FoundT where
  there : Bool
  prev : Int
  cur : Int
  next : Int
  point : Int
deriving DecidableEq
def found0 : FoundT := ⟨false, 0, 0, 0, 0⟩
structure WalkT where
  a : Int
  b : Int
  prev : Int
  cur : Int
  pt : Int
def findL (l : LayT) (me hd o : Int) : Nat → Option WalkT → Pm FoundT
  | 0, _ => .pure found0
  | k + 1, none => (guardM l me 0 hd).bind fun p => findL l me hd o k (some ⟨0, 1, hd, (ofW p.1).idx, p.2⟩)
  | k + 1, some x => if x.cur = 0 then .pure ⟨false, x.prev, 0, 0, x.pt⟩
    else (guardM l me x.b (nodeF l x.cur 0)).bind fun p => (loadM x.prev).bind fun seen => lastM.bind fun look => if seen = plainW x.cur then
      (loadM (nodeF l x.cur 1)).bind fun order =>
        if (ofW p.1).mark then (casM x.prev (plainW x.cur) (plainW (ofW p.1).idx)).bind fun ok => if ok then lastM.bind fun at_ => (retireM l x.cur).bind fun _ => findL l me hd o k (some ⟨x.b, x.a, x.prev, (ofW p.1).idx, at_⟩) else findL l me hd o k none
        else if order < o then findL l me hd o k (some ⟨x.b, 3 - x.a - x.b, nodeF l x.cur 0, (ofW p.1).idx, p.2⟩)
        else if order = o then .pure ⟨true, x.prev, x.cur, p.1, p.2⟩
        else .pure ⟨false, x.prev, x.cur, 0, look⟩
      else findL l me hd o k none
def findM (l : LayT) (me hd o : Int) : Pm FoundT := fun log s => findL l me hd o (2 * (log.length - s.made) + 2) none log s
def outM (l : LayT) (me : Int) (o : OutT) : Pm OutT := (clearM l me).bind fun _ => .pure o
def getM (l : LayT) (me hd o : Int) : Pm OutT := (findM l me hd o).bind fun f => if f.there then (loadM (nodeF l f.cur 2)).bind fun v => outM l me ⟨v, true, 0, f.point, []⟩ else outM l me ⟨0, false, 0, f.point, []⟩
def putB (l : LayT) (f : FoundT) (n : Int) : Pm (Option Int) := (storeM (nodeF l n 0) (plainW f.cur)).bind fun _ => (casM f.prev (plainW f.cur) (plainW n)).bind fun ok => if ok then lastM.bind fun a => .pure (some a) else .pure none
def putL (l : LayT) (me hd o v : Int) : Nat → Int → Pm OutT
  | 0, _ => .pure ⟨0, false, 0, 0, []⟩
  | k + 1, n => (findM l me hd o).bind fun f => if f.there then (if n = 0 then outM l me ⟨0, false, 0, f.point, []⟩ else (giveM l n).bind fun _ => outM l me ⟨0, false, 0, f.point, []⟩)
    else if n = 0 then (takeM l).bind fun t => if t.2.2 then (storeM (nodeF l t.1 1) o).bind fun _ => (storeM (nodeF l t.1 2) v).bind fun _ => (putB l f t.1).bind fun r => match r with
        | some a => outM l me ⟨0, true, 0, a, []⟩
        | none => putL l me hd o v k t.1
      else outM l me ⟨0, false, 8, t.2.1, []⟩
    else (putB l f n).bind fun r => match r with
      | some a => outM l me ⟨0, true, 0, a, []⟩
      | none => putL l me hd o v k n
def putM (l : LayT) (me hd o v : Int) : Pm OutT := fun log s => putL l me hd o v (log.length + 1 - s.made) 0 log s
def delL (l : LayT) (me hd o : Int) : Nat → Pm OutT
  | 0 => .pure ⟨0, false, 0, 0, []⟩
  | k + 1 => (findM l me hd o).bind fun f => if f.there then (casM (nodeF l f.cur 0) f.next (markW (ofW f.next).idx)).bind fun ok => if ok then lastM.bind fun a => (casM f.prev (plainW f.cur) (plainW (ofW f.next).idx)).bind fun ok => if ok then (clearM l me).bind fun _ => (retireM l f.cur).bind fun _ => .pure ⟨0, true, 0, a, []⟩ else (findM l me hd o).bind fun _ => outM l me ⟨0, true, 0, a, []⟩
      else delL l me hd o k
    else outM l me ⟨0, false, 0, f.point, []⟩
def delM (l : LayT) (me hd o : Int) : Pm OutT := fun log s => delL l me hd o (log.length + 1 - s.made) log s
def nextF (l : LayT) (me : Int) (gone : List (Int × Int)) (op : OpT) (log : List ResT) : AccT × OutT × Bool :=
  if op.obj < 0 ∨ l.size ≤ op.obj then (acc0, ⟨0, false, 1, -1, gone⟩, true)
  else if op.kind = 1 then finM (getM l me op.obj op.a log ⟨0, gone, 0, 0, 0⟩)
  else if op.kind = 2 then finM (putM l me op.obj op.a op.b log ⟨0, gone, 0, 0, 0⟩)
  else if op.kind = 3 then finM (delM l me op.obj op.a log ⟨0, gone, 0, 0, 0⟩)
  else (acc0, ⟨0, false, 1, -1, gone⟩, true)

/-! ### What lays and reads -/
def initN (l : LayT) (a : Nat) (k : Nat) : List AccT := (List.range k).map fun (i : Nat) => ⟨2, nodeF l ((a : Int) + i) 7, 0, if (a : Int) + i = l.nodes then 0 else (a : Int) + i + 1⟩
def initF (l : LayT) (a : Nat) : List AccT := initN l a (l.nodes.toNat + 1 - a) ++ [⟨2, l.free, 0, a⟩]
def nodesF (l : LayT) (m : List Int) (h : Int) : List Int := chainF (fun n => (ofW (atF m (nodeF l n 0))).idx) l.nodes (l.nodes.toNat + 1) [] (ofW (atF m h)).idx
def rowF (l : LayT) (m : List Int) (h : Int) : List (Int × Int) := ((nodesF l m h).filter fun n => !(ofW (atF m (nodeF l n 0))).mark).map fun n => (atF m (nodeF l n 1), atF m (nodeF l n 2))

/-! ### Plays -/
structure PlayT where
  nodes : Int
  want : List (List OpT)
  turns : List Int
structure SeatT where
  at_ : Nat
  log : List ResT
  gone : List (Int × Int)
structure StepT where
  who : Int
  at_ : Int
  op : OpT
  gone : List (Int × Int)
  acc : AccT
  res : ResT
  done : Bool
  out : OutT
structure PSt where
  m : List Int
  seats : List SeatT
  out : List StepT
structure PlayedT where
  steps : List StepT
  m : List Int
  gone : List (List (Int × Int))
  ends : Bool
structure PlayOk (p : PlayT) : Prop where
  w1 : 1 ≤ p.want.length
  w3 : p.want.length ≤ 3
  t : p.turns.length ≤ 200
  n0 : 0 ≤ p.nodes
  u : ∀ x ∈ p.turns, 0 ≤ x ∧ x ≤ 255
  l : ∀ w ∈ p.want, w.length ≤ 4
end Go.Proofs.YtkkldicehapklaaGreat
/- Programs on lists as machines. -/
namespace Go.Proofs.YtkkldicehapklaaGreat
set_option maxRecDepth 100000

inductive Fk where
  | get | put (v n : Int) | del | fin (a : Int)
inductive Lk where
  | ga (o : Int) (f : Fk)
  | gb (o : Int) (f : Fk) (a b pn cur : Int)
  | ls (o : Int) (f : Fk) (a b pn cur w t : Int)
  | lo (o : Int) (f : Fk) (a b pn cur w t k : Int)
  | cu (o : Int) (f : Fk) (a b pn cur w : Int)
  | rr (o : Int) (f : Fk) (a b pn nx pt : Int)
  | gv (o cur pt : Int)
  | tk (o v pn cur : Int)
  | p1 (o v n pn cur : Int) | p2 (o v n pn cur : Int) | p0 (o v n pn cur : Int) | cp (o v n pn cur : Int)
  | sv (a : Int)
  | cm (o pn cur w : Int) | cd (o pn cur nx at_ : Int)
  | rx (n a : Int) | ry (a : Int)
  | fi (o : OutT)
def okO (a : Int) : OutT := ⟨0, true, 0, a, []⟩
def noO (a : Int) : OutT := ⟨0, false, 0, a, []⟩
section
variable (hd : Ad)
def prevA (pn : Int) : Ad := if pn = 0 then hd else .nd pn 0
def lstAsk : Lk → Ak
  | .ls _ _ _ _ pn _ _ _ => .ld (prevA hd pn)
  | .lo _ _ _ _ _ cur _ _ _ => .ld (.nd cur 1)
  | .cu _ _ _ _ pn cur w => .cs (prevA hd pn) (plainW cur) (plainW (ofW w).idx)
  | .gv _ cur _ => .ld (.nd cur 2)
  | .p1 o _ n _ _ => .st (.nd n 1) o
  | .p2 _ v n _ _ => .st (.nd n 2) v
  | .p0 _ _ n _ cur => .st (.nd n 0) (plainW cur)
  | .cp _ _ n pn cur => .cs (prevA hd pn) (plainW cur) (plainW n)
  | .cm _ _ cur w => .cs (.nd cur 0) w (markW (ofW w).idx)
  | .cd _ pn cur nx _ => .cs (prevA hd pn) (plainW cur) (plainW nx)
  | _ => .ld (hd)
def exN (o : Int) (f : Fk) (pn cur pt : Int) : Pc Lk := match f with
  | .get => .clr (.fi (noO pt))
  | .put v n => if n = 0 then .t1 (.tk o v pn cur) else .at_ (.p0 o v n pn cur)
  | .del => .clr (.fi (noO pt))
  | .fin a => .clr (.fi (okO a))
def exY (o : Int) (f : Fk) (pn cur w pt : Int) : Pc Lk := match f with
  | .get => .at_ (.gv o cur pt)
  | .put _ n => if n = 0 then .clr (.fi (noO pt)) else .v1 (.sv pt) n
  | .del => .at_ (.cm o pn cur w)
  | .fin a => .clr (.fi (okO a))
def goW (o : Int) (f : Fk) (a b pn cur pt : Int) : Pc Lk := if cur = 0 then exN o f pn 0 pt else .g1 (.gb o f a b pn cur) b (.nd cur 0)
def anew (o : Int) (f : Fk) : Pc Lk := .g1 (.ga o f) 0 (hd)
def lstTell : Lk → Nat → ResT → Pc Lk
  | .ls o f a b pn cur w t, made, r => if r.val = plainW cur then .at_ (.lo o f a b pn cur w t made) else anew hd o f
  | .lo o f a b pn cur w t k, _, r => if (ofW w).mark then .at_ (.cu o f a b pn cur w) else if r.val < o then goW o f b (3 - a - b) cur (ofW w).idx t else if r.val = o then exY o f pn cur w t else exN o f pn cur k
  | .cu o f a b pn cur w, made, r => if r.ok then .r1 (.rr o f a b pn (ofW w).idx made) cur else anew hd o f
  | .gv _ _ pt, _, r => .clr (.fi ⟨r.val, true, 0, pt, []⟩)
  | .p1 o v n pn cur, _, _ => .at_ (.p2 o v n pn cur)
  | .p2 o v n pn cur, _, _ => .at_ (.p0 o v n pn cur)
  | .p0 o v n pn cur, _, _ => .at_ (.cp o v n pn cur)
  | .cp o v n _ _, made, r => if r.ok then .clr (.fi (okO made)) else anew hd o (.put v n)
  | .cm o pn cur w, made, r => if r.ok then .at_ (.cd o pn cur (ofW w).idx made) else anew hd o .del
  | .cd o _ cur _ at_, _, r => if r.ok then .clr (.rx cur at_) else anew hd o (.fin at_)
  | k, _, _ => .at_ k
def lstM : Mach Lk where
  ask := lstAsk hd
  tell := lstTell hd
  took := fun k n _ => match k with
    | .tk o v pn cur => .at_ (.p1 o v n pn cur)
    | k => .v1 k n
  full := fun k a => match k with
    | .tk _ _ _ _ => .clr (.fi ⟨0, false, 8, a, []⟩)
    | k => .at_ k
  guarded := fun k v t => match k with
    | .ga o f => goW o f 0 1 0 (ofW v).idx t
    | .gb o f a b pn cur => .at_ (.ls o f a b pn cur v t)
    | k => .at_ k
  cleared := fun k => match k with
    | .fi o => .fin o
    | .rx n a => .r1 (.ry a) n
    | k => .at_ k
  gave := fun k => match k with
    | .sv a => .clr (.fi (noO a))
    | k => .at_ k
  retired := fun k => match k with
    | .rr o f a b pn nx pt => goW o f b a pn nx pt
    | .ry a => .fin (okO a)
    | k => .at_ k
end
section
variable {hd : Ad} {l : LayT} {S : Nat} {me : Int} {log : List ResT}
theorem up_made (s : PsT) : s.up.made = s.made + 1 := rfl
theorem last_up (s : PsT) : ((s.up.made : Nat) : Int) - 1 = (s.made : Int) := by rw [up_made]; omega
theorem prevA_cell (pn : Int) : (prevA hd pn).cell l = if pn = 0 then hd.cell l else nodeF l pn 0 := by unfold prevA; split <;> rfl
theorem fi_sim {o : OutT} {s : PsT} (hs : s.made ≤ log.length) : Does (lstM hd) l S me (norm (lstM hd) (.clr (.fi o)) s) (outM l me o log s) (log.drop s.made) :=
  clear_sim (M0 := s.made) (f := fun _ => .pure o) (fun s _ _ _ _ _ => does_fin) s (Nat.le_refl _) hs
theorem find_sim (hS : l.seats = (S : Int)) {o : Int} {f : Fk} {g : FoundT → Pm OutT} {M0 : Nat}
    (hN : ∀ (pn cur pt : Int) (s : PsT), M0 ≤ s.made → s.made ≤ log.length → Does (lstM hd) l S me (norm (lstM hd) (exN o f pn cur pt) s) (g ⟨false, (prevA hd pn).cell l, cur, 0, pt⟩ log s) (log.drop s.made))
    (hY : ∀ (pn cur w pt : Int) (s : PsT), M0 ≤ s.made → s.made ≤ log.length → Does (lstM hd) l S me (norm (lstM hd) (exY o f pn cur w pt) s) (g ⟨true, (prevA hd pn).cell l, cur, w, pt⟩ log s) (log.drop s.made)) :
    ∀ (k : Nat) (s : PsT), M0 ≤ s.made → s.made ≤ log.length →
      (2 * (log.length - s.made) + 2 ≤ k → Does (lstM hd) l S me (norm (lstM hd) (anew hd o f) s) ((findL l me (hd.cell l) o k none).bind g log s) (log.drop s.made)) ∧
      (∀ a b pn cur pt, 2 * (log.length - s.made) + 1 ≤ k → Does (lstM hd) l S me (norm (lstM hd) (goW o f a b pn cur pt) s) ((findL l me (hd.cell l) o k (some ⟨a, b, (prevA hd pn).cell l, cur, pt⟩)).bind g log s) (log.drop s.made))
  | 0, s, _, _ => ⟨fun h => by omega, fun a b pn cur pt h => by omega⟩
  | k + 1, s, hM, hs => by
    refine ⟨fun hk => ?_, fun a b pn cur pt hk => ?_⟩
    · rw [findL, bind_assoc]
      refine guard_sim (M0 := s.made) (k := Lk.ga o f) (i := 0) (c := hd) (fun v t s' hM' hs' => ?_) (log.length + 1 - s.made) s (Nat.le_refl _) (by omega)
      have := (find_sim hS hN hY k s' (by omega) hs').2 0 1 0 (ofW v).idx t (by omega)
      rw [show (prevA hd 0).cell l = hd.cell l from by rw [prevA_cell, if_pos rfl]] at this
      exact this
    · rw [findL]
      unfold goW
      by_cases h0 : cur = 0
      · subst h0
        simp only [if_true]
        exact hN pn 0 pt s hM hs
      · simp only [h0, if_false]
        rw [bind_assoc]
        refine guard_sim (M0 := s.made) (k := Lk.gb o f a b pn cur) (i := b) (c := .nd cur 0) (fun w t s1 hM1 hs1 => ?_) (log.length + 1 - s.made) s (Nat.le_refl _) (by omega)
        show Does (lstM hd) l S me ⟨.at_ (.ls o f a b pn cur w t), s1⟩ _ _
        rw [bind_assoc, load_eq]
        refine does_step (q := ⟨.at_ (Lk.ls o f a b pn cur w t), s1⟩) (s := s1) rfl trivial fun r1 h1 => ?_
        rw [bind_assoc, bind_ok last_ok, last_up]
        show Does (lstM hd) l S me (norm (lstM hd) (if r1.val = plainW cur then .at_ (.lo o f a b pn cur w t s1.made) else anew hd o f) s1.up) _ _
        by_cases hv : r1.val = plainW cur
        · rw [if_pos hv, if_pos hv, bind_assoc, load_eq]
          refine does_step (q := ⟨.at_ (Lk.lo o f a b pn cur w t s1.made), s1.up⟩) (s := s1.up) rfl trivial fun r2 h2 => ?_
          have h2' : s1.made + 1 < log.length := h2
          have m2 : s1.up.up.made = s1.made + 2 := rfl
          have h2l : s1.up.up.made ≤ log.length := by omega
          show Does (lstM hd) l S me (norm (lstM hd) (if (ofW w).mark then .at_ (.cu o f a b pn cur w) else if r2.val < o then goW o f b (3 - a - b) cur (ofW w).idx t else if r2.val = o then exY o f pn cur w t else exN o f pn cur s1.made) s1.up.up) _ _
          by_cases hm : (ofW w).mark = true
          · rw [if_pos hm, if_pos hm, bind_assoc, cas_eq]
            refine does_step (q := ⟨.at_ (Lk.cu o f a b pn cur w), s1.up.up⟩) (s := s1.up.up) rfl trivial fun r3 h3 => ?_
            have h3' : s1.made + 2 < log.length := h3
            have m3 : s1.up.up.up.made = s1.made + 3 := rfl
            show Does (lstM hd) l S me (norm (lstM hd) (if r3.ok then .r1 (.rr o f a b pn (ofW w).idx s1.up.up.made) cur else anew hd o f) s1.up.up.up) _ _
            by_cases hk3 : r3.ok = true
            · rw [if_pos hk3, if_pos hk3, bind_assoc, bind_ok last_ok, last_up, bind_assoc]
              show Does (lstM hd) l S me ⟨.r1 (.rr o f a b pn (ofW w).idx s1.up.up.made) cur, s1.up.up.up⟩ _ _
              refine retire_sim hS (M0 := s1.up.up.up.made) (fun s2 hM2 hs2 => ?_) s1.up.up.up (Nat.le_refl _)
              exact (find_sim hS hN hY k s2 (by omega) hs2).2 b a pn (ofW w).idx s1.up.up.made (by omega)
            · rw [if_neg hk3, if_neg hk3]
              exact (find_sim hS hN hY k s1.up.up.up (by omega) (by omega)).1 (by omega)
          · rw [if_neg hm, if_neg hm]
            by_cases hlt : r2.val < o
            · rw [if_pos hlt, if_pos hlt]
              have := (find_sim hS hN hY k s1.up.up (by omega) h2l).2 b (3 - a - b) cur (ofW w).idx t (by omega)
              rw [show (prevA hd cur).cell l = nodeF l cur 0 from by rw [prevA_cell, if_neg h0]] at this
              exact this
            · rw [if_neg hlt, if_neg hlt]
              by_cases he : r2.val = o
              · rw [if_pos he, if_pos he]
                exact hY pn cur w t s1.up.up (by omega) h2l
              · rw [if_neg he, if_neg he]
                exact hN pn cur s1.made s1.up.up (by omega) h2l
        · rw [if_neg hv, if_neg hv]
          have m1 : s1.up.made = s1.made + 1 := rfl
          exact (find_sim hS hN hY k s1.up (by omega) (by omega)).1 (by omega)
theorem findM_sim (hS : l.seats = (S : Int)) {o : Int} {f : Fk} {g : FoundT → Pm OutT} {M0 : Nat}
    (hN : ∀ (pn cur pt : Int) (s : PsT), M0 ≤ s.made → s.made ≤ log.length → Does (lstM hd) l S me (norm (lstM hd) (exN o f pn cur pt) s) (g ⟨false, (prevA hd pn).cell l, cur, 0, pt⟩ log s) (log.drop s.made))
    (hY : ∀ (pn cur w pt : Int) (s : PsT), M0 ≤ s.made → s.made ≤ log.length → Does (lstM hd) l S me (norm (lstM hd) (exY o f pn cur w pt) s) (g ⟨true, (prevA hd pn).cell l, cur, w, pt⟩ log s) (log.drop s.made))
    (s : PsT) (hM : M0 ≤ s.made) (hs : s.made ≤ log.length) : Does (lstM hd) l S me (norm (lstM hd) (anew hd o f) s) ((findM l me (hd.cell l) o).bind g log s) (log.drop s.made) :=
  (find_sim hS hN hY _ s hM hs).1 (Nat.le_refl _)
theorem get_sim (hS : l.seats = (S : Int)) {o : Int} (s : PsT) (hs : s.made ≤ log.length) : Does (lstM hd) l S me (norm (lstM hd) (anew hd o .get) s) (getM l me (hd.cell l) o log s) (log.drop s.made) := by
  unfold getM
  refine findM_sim hS (M0 := s.made) (fun pn cur pt s1 _ hs1 => ?_) (fun pn cur w pt s1 _ hs1 => ?_) s (Nat.le_refl _) hs
  · simp only [Bool.false_eq_true, if_false]
    exact fi_sim hs1
  · simp only [if_true]
    rw [load_eq]
    refine does_step (q := ⟨.at_ (Lk.gv o cur pt), s1⟩) (s := s1) rfl trivial fun r1 h1 => ?_
    exact fi_sim (by simp only [PsT.up]; omega)
theorem putB_sim {o v n pn cur : Int} {M0 : Nat} {c pt nx : Int} {th : Bool} {g : Option Int → Pm OutT} (hc : c = (prevA hd pn).cell l)
    (h1 : ∀ (a : Nat) (s : PsT), s.made ≤ log.length → Does (lstM hd) l S me (norm (lstM hd) (.clr (.fi (okO a))) s) (g (some (a : Int)) log s) (log.drop s.made))
    (h2 : ∀ s : PsT, M0 < s.made → s.made ≤ log.length → Does (lstM hd) l S me (norm (lstM hd) (anew hd o (.put v n)) s) (g none log s) (log.drop s.made))
    (s : PsT) (hM : M0 ≤ s.made) : Does (lstM hd) l S me ⟨.at_ (.p0 o v n pn cur), s⟩ ((putB l ⟨th, c, cur, nx, pt⟩ n).bind g log s) (log.drop s.made) := by
  subst hc
  rw [putB, bind_assoc, store_eq]
  refine does_step (q := ⟨.at_ (Lk.p0 o v n pn cur), s⟩) (s := s) rfl trivial fun r1 h3 => ?_
  rw [bind_assoc, cas_eq]
  refine does_step (q := ⟨.at_ (Lk.cp o v n pn cur), s.up⟩) (s := s.up) rfl trivial fun r2 h4 => ?_
  have h4' : s.made + 1 < log.length := h4
  have m2 : s.up.up.made = s.made + 2 := rfl
  show Does (lstM hd) l S me (norm (lstM hd) (if r2.ok then .clr (.fi (okO s.up.made)) else anew hd o (.put v n)) s.up.up) _ _
  by_cases hk : r2.ok = true
  · rw [if_pos hk, if_pos hk, bind_assoc, bind_ok last_ok, last_up]
    exact h1 s.up.made s.up.up (by omega)
  · rw [if_neg hk, if_neg hk]
    exact h2 s.up.up (by omega) (by omega)
theorem put_sim (hS : l.seats = (S : Int)) {o v : Int} : ∀ (k : Nat) (n : Int) (s : PsT), s.made ≤ log.length → log.length - s.made < k → Does (lstM hd) l S me (norm (lstM hd) (anew hd o (.put v n)) s) (putL l me (hd.cell l) o v k n log s) (log.drop s.made)
  | 0, n, s, _, h => by omega
  | k + 1, n, s, hs, h => by
    rw [putL]
    have hB : ∀ (n pn cur pt : Int) (s1 : PsT), s.made ≤ s1.made → Does (lstM hd) l S me ⟨.at_ (.p0 o v n pn cur), s1⟩ ((putB l ⟨false, (prevA hd pn).cell l, cur, 0, pt⟩ n).bind (fun r => match r with
        | some a => outM l me ⟨0, true, 0, a, []⟩
        | none => putL l me (hd.cell l) o v k n) log s1) (log.drop s1.made) := fun n pn cur pt s1 hM1 =>
      putB_sim (M0 := s1.made) rfl (fun a s2 hs2 => fi_sim hs2) (fun s2 hM2 hs2 => put_sim hS k n s2 hs2 (by omega)) s1 (Nat.le_refl _)
    refine findM_sim hS (M0 := s.made) (fun pn cur pt s1 hM1 hs1 => ?_) (fun pn cur w pt s1 hM1 hs1 => ?_) s (Nat.le_refl _) hs
    · simp only [Bool.false_eq_true, if_false]
      unfold exN
      by_cases hn : n = 0
      · simp only [hn, if_true]
        refine take_sim (M0 := s1.made) (k := Lk.tk o v pn cur) (fun t a s2 hM2 hs2 => ?_) (fun a s2 hM2 hs2 => ?_) (log.length + 1 - s1.made) s1 (Nat.le_refl _) (by omega)
        · simp only [if_true]
          show Does (lstM hd) l S me ⟨.at_ (.p1 o v t pn cur), s2⟩ _ _
          rw [store_eq]
          refine does_step (q := ⟨.at_ (Lk.p1 o v t pn cur), s2⟩) (s := s2) rfl trivial fun r1 h3 => ?_
          rw [store_eq]
          refine does_step (q := ⟨.at_ (Lk.p2 o v t pn cur), s2.up⟩) (s := s2.up) rfl trivial fun r2 h4 => ?_
          exact hB t pn cur pt s2.up.up (by simp only [PsT.up]; omega)
        · simp only [Bool.false_eq_true, if_false]
          exact fi_sim hs2
      · simp only [hn, if_false]
        exact hB n pn cur pt s1 hM1
    · simp only [if_true]
      unfold exY
      by_cases hn : n = 0
      · simp only [hn, if_true]
        exact fi_sim hs1
      · simp only [hn, if_false]
        refine give_sim (k := Lk.sv pt) (n := n) (M0 := s1.made) (fun s2 _ hs2 => ?_) (log.length + 1 - s1.made) s1 (Nat.le_refl _) (by omega)
        exact fi_sim hs2
theorem del_sim (hS : l.seats = (S : Int)) {o : Int} : ∀ (k : Nat) (s : PsT), s.made ≤ log.length → log.length - s.made < k → Does (lstM hd) l S me (norm (lstM hd) (anew hd o .del) s) (delL l me (hd.cell l) o k log s) (log.drop s.made)
  | 0, s, _, h => by omega
  | k + 1, s, hs, h => by
    rw [delL]
    refine findM_sim hS (M0 := s.made) (fun pn cur pt s1 hM1 hs1 => ?_) (fun pn cur w pt s1 hM1 hs1 => ?_) s (Nat.le_refl _) hs
    · simp only [Bool.false_eq_true, if_false]
      exact fi_sim hs1
    · simp only [if_true]
      unfold exY
      simp only
      rw [cas_eq]
      refine does_step (q := ⟨.at_ (Lk.cm o pn cur w), s1⟩) (s := s1) rfl trivial fun r1 h3 => ?_
      have m1 : s1.up.made = s1.made + 1 := rfl
      show Does (lstM hd) l S me (norm (lstM hd) (if r1.ok then .at_ (.cd o pn cur (ofW w).idx s1.made) else anew hd o .del) s1.up) _ _
      by_cases hk : r1.ok = true
      · rw [if_pos hk, if_pos hk, bind_ok last_ok, last_up, cas_eq]
        refine does_step (q := ⟨.at_ (Lk.cd o pn cur (ofW w).idx s1.made), s1.up⟩) (s := s1.up) rfl trivial fun r2 h4 => ?_
        have h4' : s1.made + 1 < log.length := h4
        have m2 : s1.up.up.made = s1.made + 2 := rfl
        show Does (lstM hd) l S me (norm (lstM hd) (if r2.ok then .clr (.rx cur s1.made) else anew hd o (.fin s1.made)) s1.up.up) _ _
        by_cases hk2 : r2.ok = true
        · rw [if_pos hk2, if_pos hk2]
          refine clear_sim (M0 := s1.up.up.made) (fun s2 _ _ _ hM2 hs2 => ?_) s1.up.up (Nat.le_refl _) (by omega)
          show Does (lstM hd) l S me ⟨.r1 (.ry s1.made) cur, s2⟩ _ _
          refine retire_sim hS (M0 := s2.made) (fun s3 hM3 hs3 => ?_) s2 (Nat.le_refl _)
          exact does_fin
        · rw [if_neg hk2, if_neg hk2]
          refine findM_sim hS (M0 := s1.up.up.made) (fun pn' cur' pt' s3 hM3 hs3 => ?_) (fun pn' cur' w' pt' s3 hM3 hs3 => ?_) s1.up.up (Nat.le_refl _) (by omega)
          · exact fi_sim hs3
          · exact fi_sim hs3
      · rw [if_neg hk, if_neg hk]
        exact del_sim hS k s1.up (by omega) (by omega)
end
def fkOf (op : OpT) : Fk := if op.kind = 1 then .get else if op.kind = 2 then .put op.b 0 else .del
def startQ (hd : Ad) (op : OpT) (gone : List (Int × Int)) : Q Lk := ⟨anew hd op.a (fkOf op), ⟨0, gone, 0, 0, 0⟩⟩
theorem next_run {l : LayT} {S : Nat} {me : Int} (hS : l.seats = (S : Int)) {gone : List (Int × Int)} {op : OpT} {log : List ResT} {h : Ad} (ho : h.cell l = op.obj) (hh : ¬ (op.obj < 0 ∨ l.size ≤ op.obj)) (hk : op.kind = 1 ∨ op.kind = 2 ∨ op.kind = 3) :
    nextF l me gone op log = endQ (lstM h) l me (runQ (lstM h) S (startQ h op gone) log) := by
  unfold nextF
  rw [if_neg hh]
  unfold startQ fkOf
  rw [← ho]
  rcases hk with hk | hk | hk
  · rw [if_pos hk, if_pos hk]
    exact get_sim hS ⟨0, gone, 0, 0, 0⟩ (Nat.zero_le _)
  · rw [if_neg (by omega), if_pos hk, if_neg (by omega), if_pos hk]
    exact put_sim hS (log.length + 1) 0 ⟨0, gone, 0, 0, 0⟩ (Nat.zero_le _) (by simp)
  · rw [if_neg (by omega), if_neg (by omega), if_pos hk, if_neg (by omega), if_neg (by omega)]
    exact del_sim hS (log.length + 1) ⟨0, gone, 0, 0, 0⟩ (Nat.zero_le _) (by simp)
end Go.Proofs.YtkkldicehapklaaGreat
/- Maps of buckets over one list: their programs, what lays and reads them, and plays, in plain words. -/
namespace Go.Proofs.YtkkldicehapklaaGreat
set_option maxRecDepth 100000

/-! ### Layout and words -/
def mapF (l : LayT) (m i : Int) : Int := if 1 < i then -1 else withinF l.map l.maps (2 + l.buckets) m i
def bucketF (l : LayT) (m b : Int) : Int := if b < 0 ∨ l.buckets ≤ b then -1 else withinF l.map l.maps (2 + l.buckets) m (2 + b)
def rev16 (k : Int) : Int := ((List.range 16).map fun (i : Nat) => k / 2 ^ i % 2 * 2 ^ (15 - i)).sum
def realW (k : Int) : Int := 2 * rev16 k + 1
def dummyW (b : Int) : Int := 2 * rev16 b
def parentF (b : Int) : Int := if b < 1 then 0 else b - 2 ^ (Nat.log2 b.toNat)
def pow2B (n : Int) : Bool := decide (n = 2 ^ (Nat.log2 n.toNat))

/-! ### Programs -/
def behindF (l : LayT) (me : Int) (gone : List (Int × Int)) (kind dummy order v : Int) (lg : List ResT) : AccT × OutT × Bool :=
  let hd := nodeF l dummy 0
  let ob := if hd < 0 then l.done else hd
  let r := nextF l me gone ⟨kind, ob, order, v⟩ lg
  if r.2.2 = false ∧ hd < 0 ∧ r.1.cell = ob then ({ r.1 with cell := hd }, r.2) else r
def firstN (f : Nat → Bool) : Nat → Nat → Nat
  | 0, k => k
  | n + 1, k => if f k then k else firstN f n (k + 1)
def listM (l : LayT) (me kind dummy order v : Int) : Pm (OutT × AccT) := fun log s =>
  let lg := log.drop s.made
  let r := behindF l me s.gone kind dummy order v lg
  if r.2.2 = false then .error r.1
  else if r.2.1.point < 0 then .ok ((r.2.1, acc0), s)
  else
    let f := fun k => (behindF l me s.gone kind dummy order v (lg.take k)).2.2
    let k := firstN f (lg.length - (r.2.1.point.toNat + 1)) (r.2.1.point.toNat + 1)
    .ok (({ r.2.1 with point := r.2.1.point + s.made }, (behindF l me s.gone kind dummy order v (lg.take r.2.1.point.toNat)).1), { s with made := s.made + k, gone := r.2.1.gone })
def thereM (o : OutT × AccT) : Pm Int := fun log s => .ok (if o.1.is then (ofW o.2.new).idx else (ofW ((log.getD (o.1.point.toNat + 2) ⟨0, false⟩).val)).idx, s)
def comeM (l : LayT) (me m : Int) : Nat → Int → Pm (Int × OutT)
  | 0, _ => .pure (0, out0)
  | k + 1, b => (doM ⟨1, bucketF l m b, 0, 0⟩).bind fun r => if (ofW r.val).idx ≠ 0 then .pure ((ofW r.val).idx, out0)
    else if b = 0 then .pure (0, ⟨0, false, 1, -1, []⟩)
    else (comeM l me m k (parentF b)).bind fun a => if a.2.err ≠ 0 then .pure (0, a.2)
    else (listM l me 2 a.1 (dummyW b) 0).bind fun o => if o.1.err ≠ 0 then .pure (0, o.1)
    else (thereM o).bind fun n => (doM ⟨3, bucketF l m b, 0, packW ⟨n, false, 0⟩⟩).bind fun _ => .pure (n, out0)
def afterM (l : LayT) (m kind size : Int) : Pm Unit := if kind = 2 then (doM ⟨4, mapF l m 1, 0, 1⟩).bind fun r => if 2 * size ≤ r.val ∧ size < l.buckets then (doM ⟨3, mapF l m 0, size, 2 * size⟩).bind fun _ => .pure () else .pure ()
  else if kind = 3 then (doM ⟨4, mapF l m 1, 0, -1⟩).bind fun _ => .pure () else .pure ()
def splitM (l : LayT) (me : Int) (op : OpT) : Pm OutT := (doM ⟨1, mapF l op.obj 0, 0, 0⟩).bind fun r => if r.val < 1 ∨ l.buckets < r.val ∨ pow2B r.val = false then .pure ⟨0, false, 1, -1, []⟩
  else (comeM l me op.obj 64 (op.a % r.val)).bind fun d => if d.2.err ≠ 0 then .pure d.2
  else (listM l me op.kind d.1 (realW op.a) op.b).bind fun o => if o.1.is then (afterM l op.obj op.kind r.val).bind fun _ => .pure o.1 else .pure o.1
def hnextF (l : LayT) (me : Int) (gone : List (Int × Int)) (op : OpT) (log : List ResT) : AccT × OutT × Bool :=
  if op.kind < 1 ∨ 3 < op.kind ∨ mapF l op.obj 0 < 0 ∨ op.a < 0 ∨ 65536 ≤ op.a then (acc0, ⟨0, false, 1, -1, gone⟩, true)
  else finM (splitM l me op log ⟨0, gone, 0, 0, 0⟩)

/-! ### What lays and reads -/
def layH (s n b : Int) : LayT := ⟨s, n, b, 1, 1, 0, 1, 0, 0, 0, 1, 2, 3, 4, 4 + s, 4 + 2 * s, 4 + 5 * s, 4 + 8 * s, 4 + 12 * s, 8 + 12 * s, 8 + 12 * s, 10 + 12 * s + b, 10 + 12 * s + b, 10 + 12 * s + b, 10 + 12 * s + b + 8 * n⟩
def splitInit (l : LayT) (m n : Int) : List AccT := [⟨2, nodeF l n 0, 0, 0⟩, ⟨2, nodeF l n 1, 0, 0⟩, ⟨2, nodeF l n 2, 0, 0⟩, ⟨2, nodeF l n 6, 0, 1⟩, ⟨2, mapF l m 0, 0, 1⟩, ⟨2, mapF l m 1, 0, 0⟩, ⟨2, bucketF l m 0, 0, packW ⟨n, false, 0⟩⟩]
def hbeginA (l : LayT) : List AccT := splitInit l 0 1 ++ initF l 2 ++ [⟨2, l.era, 0, 1⟩]
def hbeginF (l : LayT) : List Int := (allG (List.replicate l.size.toNat 0) (List.replicate l.size.toNat 0) [] (hbeginA l)).1

/-! ### Plays -/
structure HCallT where
  who : Int
  op : OpT
  val : Int
  is : Bool
  first : Int
  last : Int
  point : Int
structure HSeatT where
  op : OpT
  log : List ResT
  steps : List Int
  next : Nat
  gone : List (Int × Int)
structure HTabT where
  m : List Int
  step : Int
  seats : List HSeatT
  calls : List HCallT
  full : Int
  wild : Bool
  bad : Bool
def hop0 : OpT := ⟨0, 0, 0, 0⟩
def hseat0 : HSeatT := ⟨hop0, [], [], 0, []⟩
def hbeginT (l : LayT) (seats : Nat) : HTabT := ⟨hbeginF l, 0, List.replicate seats hseat0, [], 0, false, false⟩
def hfreeF (l : LayT) (m : List Int) (a : AccT) : Bool := if a.cell < l.node ∨ l.size ≤ a.cell ∨ (a.cell - l.node) % 8 = 7 then false else (listF l m).any fun x => decide (x = (a.cell - l.node) / 8 + 1)
def hendT (t : HTabT) (who : Nat) (x : HSeatT) (out : OutT) : HTabT :=
  let t' : HTabT := { t with seats := t.seats.set who { x with op := hop0, gone := out.gone } }
  if out.err = 8 then { t' with full := t.full + 1 }
  else if out.err ≠ 0 ∨ x.steps.length = 0 then { t' with bad := true }
  else { t' with calls := t.calls ++ [⟨who, x.op, out.val, out.is, x.steps.getD 0 0, x.steps.getD (x.steps.length - 1) 0, if 0 ≤ out.point ∧ out.point < x.steps.length then x.steps.getD out.point.toNat 0 else -1⟩] }
def hmoveT (l : LayT) (t : HTabT) (who : Nat) (x : HSeatT) : HTabT :=
  let r := hnextF l who x.gone x.op x.log
  if r.2.2 then hendT t who x r.2.1
  else if faultF t.m.length r.1 = 0 then ⟨(turnF t.m r.1).1, t.step + 1, t.seats.set who { x with log := x.log ++ [(turnF t.m r.1).2], steps := x.steps ++ [t.step] }, t.calls, t.full, t.wild || hfreeF l t.m r.1, t.bad⟩
  else { t with seats := t.seats.set who { x with op := hop0 }, wild := t.wild || hfreeF l t.m r.1, bad := true }
def hturnT (l : LayT) (want : List (List OpT)) (t : HTabT) (who : Nat) : HTabT :=
  match t.seats[who]?, want[who]? with
  | some x, some ws => if x.op.kind = 0 then match ws[x.next]? with
      | none => t
      | some op => hmoveT l t who ⟨op, [], [], x.next + 1, x.gone⟩
    else hmoveT l t who x
  | _, _ => t
def hturnsT (l : LayT) (want : List (List OpT)) : HTabT → List Nat → HTabT
  | t, [] => t
  | t, w :: ws => hturnsT l want (hturnT l want t w) ws
def haloneT (l : LayT) (want : List (List OpT)) (who : Nat) : Nat → HTabT → HTabT
  | 0, t => t
  | k + 1, t => if t.bad then t else haloneT l want who k (hturnT l want t who)
def hdoneB (t : HTabT) (want : List (List OpT)) (who : Nat) : Bool := match t.seats[who]?, want[who]? with
  | some x, some ws => decide (x.op.kind = 0) && decide (ws.length ≤ x.next)
  | _, _ => true
def hrestT (l : LayT) (want : List (List OpT)) : Nat → Nat → HTabT → HTabT
  | _, 0, t => t
  | who, k + 1, t => let t' := haloneT l want who 1500 t; hrestT l want (who + 1) k { t' with bad := t'.bad || !hdoneB t' want who }
def hplayedT (l : LayT) (want : List (List OpT)) (turns : List Int) : HTabT := hrestT l want 0 want.length (hturnsT l want (hbeginT l want.length) (turns.map fun x => (x % (want.length : Int)).toNat))
end Go.Proofs.YtkkldicehapklaaGreat
/- Parents of buckets; the document's example, by calculation. -/
namespace Go.Proofs.YtkkldicehapklaaGreat
set_option maxRecDepth 100000

theorem parent_pos {n : Nat} (h : n ≠ 0) : parentF n = ((n - 2 ^ n.log2 : Nat) : Int) ∧ 2 ^ n.log2 ≤ n ∧ n < 2 ^ (n.log2 + 1) := by
  have h1 := Nat.log2_self_le h
  have h2 := (Nat.log2_lt h (k := n.log2 + 1)).1 (Nat.lt_succ_self _)
  refine ⟨?_, h1, h2⟩
  unfold parentF
  rw [if_neg (by omega), Int.toNat_natCast]
  have : ((2 ^ n.log2 : Nat) : Int) = 2 ^ n.log2 := by simp
  omega
theorem parent_less {n : Nat} (h : n ≠ 0) : 0 ≤ parentF n ∧ parentF n < n ∧ parentF n < n - parentF n := by
  obtain ⟨h1, h2, h3⟩ := parent_pos h
  rw [Nat.pow_succ] at h3
  rw [h1]
  omega
theorem parent_bits {n k : Nat} (h : n ≠ 0) (hk : n < 2 ^ (k + 1)) : parentF n < 2 ^ k := by
  obtain ⟨h1, h2, h3⟩ := parent_pos h
  have hl : n.log2 ≤ k := by
    have := (Nat.log2_lt h (k := k + 1)).2 hk
    omega
  have hp : 2 ^ n.log2 ≤ 2 ^ k := Nat.pow_le_pow_right (by omega) hl
  rw [Nat.pow_succ] at h3
  rw [h1]
  have : ((2 ^ k : Nat) : Int) = 2 ^ k := by simp
  omega
theorem parent_half (key i : Nat) : key % (2 * 2 ^ i) = key % 2 ^ i ∨ parentF ((key % (2 * 2 ^ i) : Nat) : Int) = ((key % 2 ^ i : Nat) : Int) := by
  have hp : 0 < 2 ^ i := Nat.two_pow_pos i
  have h1 := Nat.mod_lt key (y := 2 * 2 ^ i) (by omega)
  have h2 : key % (2 * 2 ^ i) % 2 ^ i = key % 2 ^ i := Nat.mod_mul_left_mod key 2 (2 ^ i)
  generalize key % (2 * 2 ^ i) = x at h1 h2
  generalize key % 2 ^ i = y at h2
  by_cases hx : x < 2 ^ i
  · rw [Nat.mod_eq_of_lt hx] at h2
    exact .inl h2
  · right
    have hx0 : x ≠ 0 := by omega
    have hl : x.log2 = i := by
      have a1 := (Nat.log2_lt hx0 (k := i + 1)).2 (by rw [Nat.pow_succ]; omega)
      have a2 : ¬ x.log2 < i := fun h => by have := (Nat.log2_lt hx0 (k := i)).1 h; omega
      omega
    have h3 : x % 2 ^ i = x - 2 ^ i := by
      rw [Nat.mod_eq_sub_mod (by omega), Nat.mod_eq_of_lt (by omega)]
    rw [(parent_pos hx0).1, hl, ← h2, h3]
def shownW : List (List OpT) := [[⟨2, 0, 5, 9⟩, ⟨2, 0, 5, 8⟩, ⟨1, 0, 5, 0⟩, ⟨3, 0, 5, 0⟩]]
end Go.Proofs.YtkkldicehapklaaGreat
/- Where the points of a list's operations lie in their logs. -/
namespace Go.Proofs.YtkkldicehapklaaGreat
set_option maxRecDepth 100000

section
variable (kd : Int)
def fkOk (m : Nat) : Fk → Prop
  | .put _ _ => kd = 2
  | .fin a => kd ≠ 2 ∧ 0 ≤ a ∧ a < m
  | _ => kd ≠ 2
def finOk (m : Nat) (o : OutT) : Prop := 0 ≤ o.point ∧ o.point < m ∧ (kd = 2 → o.is = false → o.err = 0 → o.point + 2 < m)
def ptK (m : Nat) : Lk → Prop
  | .ga _ f => fkOk kd m f
  | .gb _ f _ _ _ _ => fkOk kd m f
  | .ls _ f _ _ _ _ _ t => fkOk kd m f ∧ 0 ≤ t ∧ t + 2 ≤ m
  | .lo _ f _ _ _ _ _ t k => fkOk kd m f ∧ 0 ≤ t ∧ t + 3 ≤ m ∧ 0 ≤ k ∧ k < m
  | .cu _ f _ _ _ _ _ => fkOk kd m f
  | .rr _ f _ _ _ _ pt => fkOk kd m f ∧ 0 ≤ pt ∧ pt < m
  | .gv _ _ pt => kd ≠ 2 ∧ 0 ≤ pt ∧ pt < m
  | .sv a => 0 ≤ a ∧ a + 2 < m
  | .cm _ _ _ _ => kd ≠ 2
  | .cd _ _ _ _ a => kd ≠ 2 ∧ 0 ≤ a ∧ a < m
  | .rx _ a => kd ≠ 2 ∧ 0 ≤ a ∧ a < m
  | .ry a => kd ≠ 2 ∧ 0 ≤ a ∧ a < m
  | .fi o => finOk kd m o
  | _ => kd = 2
def pcK (m : Nat) : Pc Lk → Prop
  | .at_ k => ptK kd m k
  | .t1 k => ptK kd m k
  | .t2 k _ => ptK kd m k
  | .t3 k _ _ => ptK kd m k
  | .t4 k _ _ => ptK kd m k
  | .t5 k _ _ _ => ptK kd m k
  | .g1 k _ _ => ptK kd m k
  | .g2 k _ _ _ a => ptK kd m k ∧ 0 ≤ a ∧ a < m
  | .g3 k _ _ _ => ptK kd m k
  | .clr k => ptK kd m k
  | .c k _ => ptK kd m k
  | .v1 k _ => ptK kd m k
  | .v2 k _ _ => ptK kd m k
  | .v3 k _ _ => ptK kd m k
  | .r1 k _ => ptK kd m k
  | .r2 k _ _ => ptK kd m k
  | .rs k _ _ _ => ptK kd m k
  | .s1 k _ _ _ _ => ptK kd m k
  | .w1 k _ _ _ _ => ptK kd m k
  | .w2 k _ _ _ _ _ => ptK kd m k
  | .w3 k _ _ _ _ _ => ptK kd m k
  | .fin o => finOk kd m o
end
section
variable {kd : Int} {m m' : Nat} {h : Ad}
theorem fkOk.mono (hm : m ≤ m') {f : Fk} (hf : fkOk kd m f) : fkOk kd m' f := by
  cases f <;> simp only [fkOk] at hf ⊢ <;> omega
theorem ptK.mono (hm : m ≤ m') {k : Lk} (hk : ptK kd m k) : ptK kd m' k := by
  cases k with
  | ga o f => exact fkOk.mono hm hk
  | gb o f a b pn cur => exact fkOk.mono hm hk
  | ls o f a b pn cur w t => exact ⟨hk.1.mono hm, hk.2.1, by have := hk.2.2; omega⟩
  | lo o f a b pn cur w t k => exact ⟨hk.1.mono hm, hk.2.1, by have := hk.2.2.1; omega, hk.2.2.2.1, by have := hk.2.2.2.2; omega⟩
  | cu o f a b pn cur w => exact fkOk.mono hm hk
  | rr o f a b pn nx pt => exact ⟨hk.1.mono hm, hk.2.1, by have := hk.2.2; omega⟩
  | gv o cur pt => simp only [ptK] at hk ⊢; omega
  | sv a => simp only [ptK] at hk ⊢; omega
  | cm o pn cur w => exact hk
  | cd o pn cur nx a => simp only [ptK] at hk ⊢; omega
  | rx n a => simp only [ptK] at hk ⊢; omega
  | ry a => simp only [ptK] at hk ⊢; omega
  | fi o =>
    obtain ⟨h1, h2, h3⟩ := hk
    exact ⟨h1, by omega, fun a b c => by have := h3 a b c; omega⟩
  | _ => exact hk
theorem pc_exN {o : Int} {f : Fk} {pn cur pt : Int} (hf : fkOk kd m f) (h0 : 0 ≤ pt) (h1 : pt < m) : pcK kd m (exN o f pn cur pt) := by
  cases f with
  | get => exact ⟨h0, h1, fun h => absurd h hf⟩
  | put v n =>
    unfold exN
    simp only
    split
    · exact hf
    · exact hf
  | del => exact ⟨h0, h1, fun h => absurd h hf⟩
  | fin a => exact ⟨hf.2.1, hf.2.2, fun h => absurd h hf.1⟩
theorem pc_exY {o : Int} {f : Fk} {pn cur w pt : Int} (hf : fkOk kd m f) (h0 : 0 ≤ pt) (h1 : pt + 2 < m) : pcK kd m (exY o f pn cur w pt) := by
  cases f with
  | get => exact ⟨hf, h0, by omega⟩
  | put v n =>
    unfold exY
    simp only
    split
    · exact ⟨h0, by show pt < _; omega, fun _ _ _ => h1⟩
    · exact ⟨h0, h1⟩
  | del => exact hf
  | fin a => exact ⟨hf.2.1, hf.2.2, fun h => absurd h hf.1⟩
theorem pc_goW {o : Int} {f : Fk} {a b pn cur pt : Int} (hf : fkOk kd m f) (h0 : 0 ≤ pt) (h1 : pt < m) : pcK kd m (goW o f a b pn cur pt) := by
  unfold goW
  split
  · exact pc_exN hf h0 h1
  · exact hf
theorem pc_clr {k : Lk} {s : PsT} (hk : ptK kd m k) : pcK kd m (clrQ (lstM h) k s).pc := by
  unfold clrQ
  split
  · exact hk
  · split
    · exact hk
    · split
      · exact hk
      · cases k <;> exact hk
theorem clr_s {k : Lk} {s : PsT} : (clrQ (lstM h) k s).s = s := by
  unfold clrQ
  split
  · rfl
  · split
    · rfl
    · split <;> rfl
theorem norm_sP {pc : Pc Lk} {s : PsT} : (norm (lstM h) pc s).s = s := by
  cases pc <;> first | exact clr_s | rfl
theorem pc_norm {pc : Pc Lk} {s : PsT} (hp : pcK kd m pc) : pcK kd m (norm (lstM h) pc s).pc := by
  cases pc <;> first | exact pc_clr hp | exact hp
theorem sift_s {k : Lk} {held : List Int} {s : PsT} : ∀ (gs stay : List (Int × Int)), (siftQ (lstM h) k held s gs stay).s.made = s.made
  | [], _ => by unfold siftQ; rw [norm_sP]
  | _ :: _, _ => rfl
theorem pc_ret {k : Lk} (hk : ptK kd m k) : pcK kd m ((lstM h).retired k) := by
  cases k with
  | rr o f a b pn nx pt => exact pc_goW hk.1 hk.2.1 hk.2.2
  | ry a => exact ⟨hk.2.1, hk.2.2, fun h => absurd h hk.1⟩
  | _ => exact hk
theorem pc_sift {k : Lk} {held : List Int} {s : PsT} (hk : ptK kd m k) : ∀ (gs stay : List (Int × Int)), pcK kd m (siftQ (lstM h) k held s gs stay).pc
  | [], _ => pc_norm (pc_ret hk)
  | _ :: _, _ => hk
theorem pc_scan {k : Lk} {held : List Int} {s : PsT} (hk : ptK kd m k) : ∀ (cs : List Ad), pcK kd m (scanQ (lstM h) k held s cs).pc
  | [] => pc_sift hk _ _
  | _ :: _ => hk
theorem scan_s {k : Lk} {held : List Int} {s : PsT} : ∀ (cs : List Ad), (scanQ (lstM h) k held s cs).s.made = s.made
  | [] => sift_s _ _
  | _ :: _ => rfl
theorem pc_tell {S : Nat} {q : Q Lk} {r : ResT} (hf : q.pc.asking) (hq : pcK kd q.s.made q.pc) : (tell (lstM h) S q r).s.made = q.s.made + 1 ∧ pcK kd (q.s.made + 1) (tell (lstM h) S q r).pc := by
  obtain ⟨pc, s⟩ := q
  have up : ∀ {k : Lk}, ptK kd s.made k → ptK kd (s.made + 1) k := fun hk => hk.mono (Nat.le_succ _)
  have nm : ∀ (pc : Pc Lk) (s' : PsT), s'.made = s.made + 1 → pcK kd (s.made + 1) pc → (norm (lstM h) pc s').s.made = s.made + 1 ∧ pcK kd (s.made + 1) (norm (lstM h) pc s').pc := fun pc s' h1 h2 => ⟨by rw [norm_sP]; exact h1, pc_norm h2⟩
  cases pc with
  | at_ k =>
    refine nm _ _ rfl ?_
    show pcK kd _ (lstTell h k s.made r)
    simp only [pcK] at hq
    cases k with
    | ls o f a b pn cur w t =>
      simp only [lstTell]
      split
      · exact ⟨hq.1.mono (Nat.le_succ _), hq.2.1, by have := hq.2.2; omega, by omega, by omega⟩
      · exact hq.1.mono (Nat.le_succ _)
    | lo o f a b pn cur w t k =>
      simp only [lstTell]
      have hf' := hq.1.mono (Nat.le_succ s.made)
      have h1 := hq.2.1
      have h2 := hq.2.2.1
      have h3 := hq.2.2.2.1
      have h4 := hq.2.2.2.2
      split
      · exact hf'
      · split
        · exact pc_goW hf' h1 (by omega)
        · split
          · exact pc_exY hf' h1 (by omega)
          · exact pc_exN hf' h3 (by omega)
    | cu o f a b pn cur w =>
      simp only [lstTell]
      split
      · exact ⟨fkOk.mono (Nat.le_succ _) hq, by omega, by omega⟩
      · exact fkOk.mono (Nat.le_succ _) hq
    | gv o cur pt => exact ⟨hq.2.1, by have := hq.2.2; show pt < _; omega, fun h => absurd h hq.1⟩
    | p1 o v n pn cur => exact hq
    | p2 o v n pn cur => exact hq
    | p0 o v n pn cur => exact hq
    | cp o v n pn cur =>
      simp only [lstTell]
      split
      · exact ⟨by show (0 : Int) ≤ (s.made : Int); omega, by show (s.made : Int) < _; omega, fun _ h => by cases h⟩
      · exact hq
    | cm o pn cur w =>
      simp only [lstTell]
      split
      · exact ⟨hq, by omega, by omega⟩
      · exact hq
    | cd o pn cur nx a =>
      simp only [lstTell]
      split
      · exact ⟨hq.1, hq.2.1, by have := hq.2.2; omega⟩
      · exact ⟨hq.1, hq.2.1, by have := hq.2.2; omega⟩
    | ga o f => exact up hq
    | gb o f a b pn cur => exact up hq
    | rr o f a b pn nx pt => exact up hq
    | tk o v pn cur => exact up hq
    | sv a => exact up hq
    | rx n a => exact up hq
    | ry a => exact up hq
    | fi o => exact up hq
  | t1 k =>
    have hq : ptK kd s.made k := hq
    unfold tell
    simp only
    split
    · refine nm _ _ rfl ?_
      cases k with
      | tk o v pn cur => exact ⟨by show (0 : Int) ≤ (s.made : Int); omega, by show (s.made : Int) < _; omega, fun _ _ h => by cases h⟩
      | _ => exact up hq
    · exact ⟨rfl, up hq⟩
  | t2 k f =>
    have hq : ptK kd s.made k := hq
    exact ⟨rfl, up hq⟩
  | t3 k f lk =>
    have hq : ptK kd s.made k := hq
    unfold tell
    simp only
    split
    · exact ⟨rfl, up hq⟩
    · exact ⟨rfl, up hq⟩
  | t4 k n a =>
    have hq : ptK kd s.made k := hq
    exact ⟨rfl, up hq⟩
  | t5 k n a b =>
    have hq : ptK kd s.made k := hq
    refine nm _ _ rfl ?_
    cases k <;> exact up hq
  | g1 k i c => exact ⟨rfl, up hq, by omega, by omega⟩
  | g2 k i c v a =>
    have h1 := hq.2.1
    have h2 : a < (s.made : Int) := hq.2.2
    unfold tell
    simp only
    split
    · refine nm _ _ rfl ?_
      have hk := hq.1
      cases k with
      | ga o f => exact pc_goW (fkOk.mono (Nat.le_succ _) hk) h1 (by omega)
      | gb o f a' b pn cur => exact ⟨fkOk.mono (Nat.le_succ _) hk, h1, by omega⟩
      | _ => exact up hk
    · exact ⟨rfl, up hq.1⟩
  | g3 k i c er =>
    have hq : ptK kd s.made k := hq
    exact ⟨by show (s.up.putE i er).made = _; rw [putE_made]; rfl, up hq⟩
  | clr k => exact absurd hf id
  | c k i =>
    have hq : ptK kd s.made k := hq
    exact ⟨by show (clrQ (lstM h) k (s.up.putE i 0)).s.made = _; rw [clr_s, putE_made]; rfl, pc_clr (up hq)⟩
  | v1 k n =>
    have hq : ptK kd s.made k := hq
    exact ⟨rfl, up hq⟩
  | v2 k n f =>
    have hq : ptK kd s.made k := hq
    exact ⟨rfl, up hq⟩
  | v3 k n f =>
    have hq : ptK kd s.made k := hq
    unfold tell
    simp only
    split
    · refine nm _ _ rfl ?_
      cases k with
      | sv a => exact ⟨hq.1, by have := hq.2; show a < _; omega, fun _ _ _ => by have := hq.2; show a + 2 < _; omega⟩
      | _ => exact up hq
    · exact ⟨rfl, up hq⟩
  | r1 k n =>
    have hq : ptK kd s.made k := hq
    exact ⟨rfl, up hq⟩
  | r2 k n er =>
    have hq : ptK kd s.made k := hq
    unfold tell
    simp only
    split
    · exact nm _ _ rfl (pc_ret (up hq))
    · exact ⟨by rw [scan_s]; rfl, pc_scan (up hq) _⟩
  | rs k held c cs =>
    have hq : ptK kd s.made k := hq
    exact ⟨by show (scanQ (lstM h) k _ s.up cs).s.made = _; rw [scan_s]; rfl, pc_scan (up hq) _⟩
  | s1 k held g gs stay =>
    have hq : ptK kd s.made k := hq
    unfold tell
    simp only
    split
    · exact ⟨by rw [sift_s]; rfl, pc_sift (up hq) _ _⟩
    · exact ⟨rfl, up hq⟩
  | w1 k held g gs stay =>
    have hq : ptK kd s.made k := hq
    exact ⟨rfl, up hq⟩
  | w2 k held g gs stay f =>
    have hq : ptK kd s.made k := hq
    exact ⟨rfl, up hq⟩
  | w3 k held g gs stay f =>
    have hq : ptK kd s.made k := hq
    unfold tell
    simp only
    split
    · exact ⟨by rw [sift_s]; rfl, pc_sift (up hq) _ _⟩
    · exact ⟨rfl, up hq⟩
  | fin o => exact absurd hf id
def noC : Pc Lk → Prop
  | .clr _ => False
  | _ => True
theorem noC_clr {k : Lk} {s : PsT} : noC (clrQ (lstM h) k s).pc := by
  unfold clrQ
  split
  · exact trivial
  · split
    · exact trivial
    · split
      · exact trivial
      · cases k <;> exact trivial
theorem noC_norm {pc : Pc Lk} {s : PsT} : noC (norm (lstM h) pc s).pc := by
  cases pc <;> first | exact noC_clr | exact trivial
theorem noC_sift {k : Lk} {held : List Int} {s : PsT} : ∀ (gs stay : List (Int × Int)), noC (siftQ (lstM h) k held s gs stay).pc
  | [], _ => noC_norm
  | _ :: _, _ => trivial
theorem noC_scan {k : Lk} {held : List Int} {s : PsT} : ∀ (cs : List Ad), noC (scanQ (lstM h) k held s cs).pc
  | [] => noC_sift _ _
  | _ :: _ => trivial
theorem noC_tell {S : Nat} {q : Q Lk} {r : ResT} (hq : noC q.pc) : noC (tell (lstM h) S q r).pc := by
  obtain ⟨pc, s⟩ := q
  cases pc <;> simp only [tell]
  case clr => exact hq
  all_goals first
    | exact noC_norm
    | exact noC_clr
    | exact noC_scan _
    | exact trivial
    | (split <;> first | exact noC_norm | exact noC_scan _ | exact noC_sift _ _ | exact trivial)
theorem tell_finP {S : Nat} {q : Q Lk} {r : ResT} {o : OutT} (h1 : q.pc = .fin o) : tell (lstM h) S q r = q := by
  obtain ⟨pc, s⟩ := q
  subst h1
  rfl
theorem run_pt {S : Nat} : ∀ (log : List ResT) (q : Q Lk), pcK kd q.s.made q.pc → noC q.pc → ∃ q', runQ (lstM h) S q log = q' ∧ pcK kd q'.s.made q'.pc ∧ q'.s.made ≤ q.s.made + log.length
  | [], q, h1, _ => ⟨q, rfl, h1, Nat.le_refl _⟩
  | r :: log, q, h1, h2 => by
    show ∃ q', runQ (lstM h) S (tell (lstM h) S q r) log = q' ∧ _
    have key : pcK kd (tell (lstM h) S q r).s.made (tell (lstM h) S q r).pc ∧ (tell (lstM h) S q r).s.made ≤ q.s.made + 1 := by
      cases hp : q.pc with
      | fin o => rw [tell_finP hp]; exact ⟨h1, by omega⟩
      | clr k => rw [hp] at h2; exact absurd h2 id
      | _ =>
        have := pc_tell (S := S) (r := r) (h := h) (q := q) (by rw [hp]; exact trivial) h1
        rw [this.1]
        exact ⟨this.2, Nat.le_refl _⟩
    obtain ⟨q', e, h3, h4⟩ := run_pt log _ key.1 (noC_tell h2)
    exact ⟨q', e, h3, by have := key.2; simp only [List.length_cons]; omega⟩
end
theorem next_point {l : LayT} (hS : 0 ≤ l.seats) {me : Int} {gone : List (Int × Int)} {op : OpT} {log : List ResT} (hd : (nextF l me gone op log).2.2 = true) (hp : 0 ≤ (nextF l me gone op log).2.1.point) :
    (nextF l me gone op log).2.1.point < log.length ∧ (op.kind = 2 → (nextF l me gone op log).2.1.is = false → (nextF l me gone op log).2.1.err = 0 → (nextF l me gone op log).2.1.point + 2 < log.length) := by
  by_cases hh : op.obj < 0 ∨ l.size ≤ op.obj
  · unfold nextF at hp
    rw [if_pos hh] at hp
    exact absurd (show (0 : Int) ≤ -1 from hp) (by omega)
  · by_cases hk : op.kind = 1 ∨ op.kind = 2 ∨ op.kind = 3
    · have e := next_run (l := l) (S := l.seats.toNat) (me := me) (by omega) (gone := gone) (op := op) (log := log) (h := .ob op.obj) rfl hh hk
      obtain ⟨q', e', h1, h2⟩ := run_pt (S := l.seats.toNat) (h := .ob op.obj) (kd := op.kind) log (startQ (.ob op.obj) op gone) (by
        show fkOk op.kind 0 (fkOf op)
        unfold fkOf
        rcases hk with hk | hk | hk
        · rw [if_pos hk]; show op.kind ≠ 2; omega
        · rw [if_neg (by omega), if_pos hk]; exact hk
        · rw [if_neg (by omega), if_neg (by omega)]; show op.kind ≠ 2; omega) trivial
      rw [e'] at e
      rw [e] at hp hd ⊢
      have h2 : q'.s.made ≤ log.length := by have : (startQ (.ob op.obj) op gone).s.made = 0 := rfl; omega
      obtain ⟨pc, s⟩ := q'
      cases pc with
      | fin o =>
        obtain ⟨h3, h4, h5⟩ := h1
        exact ⟨by show o.point < _; have : s.made ≤ log.length := h2; omega, fun a b c => by have := h5 a b c; show o.point + 2 < _; have : s.made ≤ log.length := h2; omega⟩
      | _ => cases hd
    · unfold nextF at hp
      rw [if_neg hh, if_neg (by omega), if_neg (by omega), if_neg (by omega)] at hp
      exact absurd (show (0 : Int) ≤ -1 from hp) (by omega)
end Go.Proofs.YtkkldicehapklaaGreat
/- What programs on a list, and on a map, do to what is gone. -/
namespace Go.Proofs.YtkkldicehapklaaGreat
set_option maxRecDepth 100000

def GonN (g : List (Int × Int)) : Prop := ∀ p ∈ g, p.1 < 9223372036854775808
structure Hs (n : Nat) (s s' : PsT) : Prop where
  le : s.made ≤ n → s'.made ≤ n
  ok : GonN s.gone → GonN s'.gone
  made : s.made ≤ s'.made
  len : s'.gone.length + s.made ≤ s.gone.length + s'.made
theorem Hs.refl {n : Nat} (s : PsT) : Hs n s s := ⟨id, id, Nat.le_refl _, Nat.le_refl _⟩
theorem Hs.trans {n : Nat} {a b c : PsT} (h1 : Hs n a b) (h2 : Hs n b c) : Hs n a c := ⟨fun h => h2.le (h1.le h), fun h => h2.ok (h1.ok h), Nat.le_trans h1.made h2.made, by have := h1.len; have := h2.len; have := h1.made; have := h2.made; omega⟩
def Hg {α : Type} (m : Pm α) (P : α → Prop) : Prop := ∀ log s x s', m log s = .ok (x, s') → Hs log.length s s' ∧ P x
section
variable {α β : Type}
theorem hg_pure {x : α} {P : α → Prop} (h : P x) : Hg (Pm.pure x) P := fun log s y s' e => by
  cases e
  exact ⟨Hs.refl _, h⟩
theorem hg_bind {m : Pm α} {f : α → Pm β} {P : α → Prop} {R : β → Prop} (h1 : Hg m P) (h2 : ∀ x, P x → Hg (f x) R) : Hg (m.bind f) R := fun log s y s' e => by
  unfold Pm.bind at e
  cases h : m log s with
  | error a => rw [h] at e; cases e
  | ok q =>
    obtain ⟨x, s1⟩ := q
    rw [h] at e
    obtain ⟨a1, a2⟩ := h1 log s x s1 h
    obtain ⟨b1, b2⟩ := h2 x a2 log s1 y s' e
    exact ⟨a1.trans b1, b2⟩
theorem hg_mono {m : Pm α} {P R : α → Prop} (h : Hg m P) (hp : ∀ x, P x → R x) : Hg m R := fun log s x s' e => ⟨(h log s x s' e).1, hp x (h log s x s' e).2⟩
theorem hg_any {m : Pm α} {P : α → Prop} (h : Hg m P) : Hg m (fun _ => True) := hg_mono h fun _ _ => trivial
theorem hg_do (a : AccT) : Hg (doM a) (fun _ => True) := fun log s x s' e => by
  unfold doM at e
  split at e
  · rename_i r hr
    cases e
    have := (List.getElem?_eq_some_iff.1 hr).1
    exact ⟨⟨fun _ => this, id, by simp, by simp⟩, trivial⟩
  · cases e
theorem hg_ite {c : Prop} [Decidable c] {m n : Pm α} {P : α → Prop} (h1 : c → Hg m P) (h2 : ¬ c → Hg n P) : Hg (if c then m else n) P := by
  split
  · exact h1 ‹_›
  · exact h2 ‹_›
theorem hg_load (c : Int) : Hg (loadM c) (fun _ => True) := hg_bind (hg_do _) fun _ _ => hg_pure trivial
theorem hg_store (c v : Int) : Hg (storeM c v) (fun _ => True) := hg_bind (hg_do _) fun _ _ => hg_pure trivial
theorem hg_cas (c o v : Int) : Hg (casM c o v) (fun _ => True) := hg_bind (hg_do _) fun _ _ => hg_pure trivial
theorem hg_last : Hg lastM (fun _ => True) := fun log s x s' e => by
  cases e
  exact ⟨Hs.refl _, trivial⟩
theorem hg_take (l : LayT) : ∀ k, Hg (takeL l k) (fun _ => True)
  | 0 => hg_pure trivial
  | k + 1 => hg_bind (hg_load _) fun _ _ => hg_ite (fun _ => hg_bind hg_last fun _ _ => hg_pure trivial) fun _ => hg_bind (hg_load _) fun _ _ => hg_bind (hg_cas _ _ _) fun _ _ => hg_ite (fun _ => hg_bind hg_last fun _ _ => hg_bind (hg_load _) fun _ _ => hg_bind (hg_store _ _) fun _ _ => hg_pure trivial) fun _ => hg_take l k
theorem hg_takeM (l : LayT) : Hg (takeM l) (fun _ => True) := fun log s => hg_take l _ log s
theorem hg_give (l : LayT) (n : Int) : ∀ k, Hg (giveL l n k) (fun _ => True)
  | 0 => hg_pure trivial
  | k + 1 => hg_bind (hg_load _) fun _ _ => hg_bind (hg_store _ _) fun _ _ => hg_bind (hg_cas _ _ _) fun _ _ => hg_ite (fun _ => hg_pure trivial) fun _ => hg_give l n k
theorem hg_giveM (l : LayT) (n : Int) : Hg (giveM l n) (fun _ => True) := fun log s => hg_give l n _ log s
theorem hs_putE {n : Nat} {s s' : PsT} {i v : Int} (h : Hs n (s.putE i v) s') : Hs n s s' := by
  have h1 := putE_made s i v
  have h2 : (s.putE i v).gone = s.gone := by
    unfold PsT.putE
    split
    · rfl
    · split <;> rfl
  exact ⟨fun g => h.le (by rw [h1]; exact g), fun g => h.ok (by rw [h2]; exact g), by have := h.made; omega, by have := h.len; rw [h2] at this; omega⟩
theorem hg_guard (l : LayT) (me i c : Int) : ∀ k, Hg (guardL l me i c k) (fun _ => True)
  | 0 => hg_pure trivial
  | k + 1 => hg_bind (hg_load _) fun v _ => hg_bind hg_last fun at_ _ => hg_bind (hg_load _) fun era _ => fun log s x s' e => by
    split at e
    · cases e
      exact ⟨Hs.refl _, trivial⟩
    · refine hg_bind (R := fun _ => True) (hg_store _ _) (fun _ _ => ?_) log s x s' e
      intro log s x s' e
      exact ⟨hs_putE (hg_guard l me i c k log _ x s' e).1, trivial⟩
theorem hg_guardM (l : LayT) (me i c : Int) : Hg (guardM l me i c) (fun _ => True) := fun log s => hg_guard l me i c _ log s
theorem hg_clr (l : LayT) (me : Int) : ∀ (es : List Int) (i : Nat), Hg (clrL l me i es) (fun _ => True)
  | [], _ => hg_pure trivial
  | e :: es, i => hg_bind (P := fun _ => True) (hg_ite (fun _ => hg_pure trivial) fun _ => hg_bind (hg_store _ _) fun _ _ => fun log s x s' h => by
      cases h
      refine ⟨?_, trivial⟩
      match i with
      | 0 => exact ⟨id, id, Nat.le_refl _, Nat.le_refl _⟩
      | 1 => exact ⟨id, id, Nat.le_refl _, Nat.le_refl _⟩
      | _ + 2 => exact ⟨id, id, Nat.le_refl _, Nat.le_refl _⟩) fun _ _ => hg_clr l me es (i + 1)
theorem hg_clear (l : LayT) (me : Int) : Hg (clearM l me) (fun _ => True) := fun log s => hg_clr l me _ _ log s
theorem hg_loads : ∀ (cs acc : List Int), Hg (loadAcc acc cs) (fun _ => True)
  | [], _ => hg_pure trivial
  | _ :: cs, _ => hg_bind (hg_load _) fun _ _ => hg_loads cs _
theorem hg_sift (l : LayT) (held : List Int) : ∀ (gs stay : List (Int × Int)), Hg (siftL l held gs stay) (fun r => r.length ≤ gs.length + stay.length ∧ (GonN gs → GonN stay → GonN r))
  | [], stay => hg_pure ⟨by simp, fun _ h => h⟩
  | g :: gs, stay => hg_bind (hg_load _) fun _ _ => hg_ite (fun _ => hg_mono (hg_sift l held gs (stay ++ [g])) fun r h => ⟨by have := h.1; simp only [List.length_append, List.length_cons, List.length_nil] at this ⊢; omega, fun h1 h2 => h.2 (fun p hp => h1 p (List.mem_cons_of_mem _ hp)) fun p hp => by
        rcases List.mem_append.1 hp with hp | hp
        · exact h2 p hp
        · simp only [List.mem_singleton] at hp; subst hp; exact h1 _ List.mem_cons_self⟩)
      fun _ => hg_bind (hg_giveM l g.1) fun _ _ => hg_mono (hg_sift l held gs stay) fun r h => ⟨by have := h.1; simp only [List.length_cons]; omega, fun h1 h2 => h.2 (fun p hp => h1 p (List.mem_cons_of_mem _ hp)) h2⟩
theorem bind_inv {m : Pm α} {f : α → Pm β} {log : List ResT} {s s' : PsT} {y : β} (e : m.bind f log s = .ok (y, s')) : ∃ x s1, m log s = .ok (x, s1) ∧ f x log s1 = .ok (y, s') := by
  unfold Pm.bind at e
  cases h : m log s with
  | error a => rw [h] at e; cases e
  | ok q => rw [h] at e; exact ⟨q.1, q.2, rfl, e⟩
theorem scan_hs {l : LayT} {g : List (Int × Int)} {log : List ResT} {s s' : PsT} {u : Unit} (e : scanM l g log s = .ok (u, s')) : s.made ≤ s'.made ∧ s'.gone.length ≤ g.length ∧ (GonN g → GonN s'.gone) ∧ (s.made ≤ log.length → s'.made ≤ log.length) := by
  obtain ⟨held, s1, e1, e⟩ := bind_inv e
  obtain ⟨stay, s2, e2, e⟩ := bind_inv e
  cases e
  have h1 := (hg_loads _ _ _ _ _ _ e1).1
  have h2 := hg_sift l held g [] _ _ _ _ e2
  exact ⟨Nat.le_trans h1.made h2.1.made, by simpa using h2.2.1, fun h => h2.2.2 h (fun p hp => absurd hp List.not_mem_nil), fun h => h2.1.le (h1.le h)⟩
theorem hg_retire (l : LayT) (n : Int) (hn : n < 9223372036854775808) : Hg (retireM l n) (fun _ => True) := by
  refine hg_bind (hg_load _) fun era _ => ?_
  intro log s x s' e
  obtain ⟨r, s1, e1, e⟩ := bind_inv e
  have hs1 : s1 = { s with made := s.made + 1 } ∧ s.made < log.length := by
    unfold doM at e1
    split at e1
    · rename_i r hr
      cases e1; exact ⟨rfl, (List.getElem?_eq_some_iff.1 hr).1⟩
    · cases e1
  obtain ⟨hs1, hlt⟩ := hs1
  subst hs1
  have hadd : GonN s.gone → GonN (s.gone ++ [(n, era)]) := fun h p hp => by
    rcases List.mem_append.1 hp with hp | hp
    · exact h p hp
    · simp only [List.mem_singleton] at hp; subst hp; exact hn
  simp only at e
  split at e
  · cases e
    exact ⟨⟨fun _ => hlt, hadd, by simp, by simp; omega⟩, trivial⟩
  · obtain ⟨h1, h2, h3, h4⟩ := scan_hs e
    simp only [List.length_append, List.length_cons, List.length_nil] at h1 h2
    exact ⟨⟨fun _ => h4 hlt, fun h => h3 (hadd h), by omega, by omega⟩, trivial⟩
theorem ofW_small (n : Int) : (ofW n).idx < 9223372036854775808 := by have := (ofW_idx n).2; omega
theorem hg_find (l : LayT) (me hd o : Int) : ∀ (k : Nat) (x : Option WalkT), (∀ w, x = some w → w.cur < 9223372036854775808) → Hg (findL l me hd o k x) (fun f => f.cur < 9223372036854775808)
  | 0, _, _ => hg_pure (by show (0 : Int) < _; omega)
  | k + 1, none, _ => hg_bind (hg_guardM _ _ _ _) fun p _ => hg_find l me hd o k _ fun w hw => by cases hw; exact ofW_small _
  | k + 1, some x, hx => hg_ite (fun _ => hg_pure (by show (0 : Int) < _; omega)) fun _ => hg_bind (hg_guardM _ _ _ _) fun p _ => hg_bind (hg_load _) fun seen _ => hg_bind hg_last fun look _ =>
      hg_ite (fun _ => hg_bind (hg_load _) fun order _ =>
        hg_ite (fun _ => hg_bind (hg_cas _ _ _) fun ok _ => hg_ite (fun _ => hg_bind hg_last fun at_ _ => hg_bind (hg_retire l _ (hx _ rfl)) fun _ _ => hg_find l me hd o k _ fun w hw => by cases hw; exact ofW_small _) fun _ => hg_find l me hd o k none fun w hw => by cases hw) fun _ =>
        hg_ite (fun _ => hg_find l me hd o k _ fun w hw => by cases hw; exact ofW_small _) fun _ =>
        hg_ite (fun _ => hg_pure (hx _ rfl)) fun _ => hg_pure (hx _ rfl))
      fun _ => hg_find l me hd o k none fun w hw => by cases hw
theorem hg_findM (l : LayT) (me hd o : Int) : Hg (findM l me hd o) (fun f => f.cur < 9223372036854775808) := fun log s => hg_find l me hd o _ none (fun w hw => by cases hw) log s
theorem hg_out (l : LayT) (me : Int) (o : OutT) : Hg (outM l me o) (fun _ => True) := hg_bind (hg_clear _ _) fun _ _ => hg_pure trivial
theorem hg_get (l : LayT) (me hd o : Int) : Hg (getM l me hd o) (fun _ => True) := hg_bind (hg_findM _ _ _ _) fun _ _ => hg_ite (fun _ => hg_bind (hg_load _) fun _ _ => hg_out _ _ _) fun _ => hg_out _ _ _
theorem hg_putB (l : LayT) (f : FoundT) (n : Int) : Hg (putB l f n) (fun _ => True) := hg_bind (hg_store _ _) fun _ _ => hg_bind (hg_cas _ _ _) fun _ _ => hg_ite (fun _ => hg_bind hg_last fun _ _ => hg_pure trivial) fun _ => hg_pure trivial
theorem hg_put (l : LayT) (me hd o v : Int) : ∀ (k : Nat) (n : Int), Hg (putL l me hd o v k n) (fun _ => True)
  | 0, _ => hg_pure trivial
  | k + 1, n => hg_bind (hg_findM _ _ _ _) fun _ _ => hg_ite (fun _ => hg_ite (fun _ => hg_out _ _ _) fun _ => hg_bind (hg_giveM _ _) fun _ _ => hg_out _ _ _) fun _ =>
      hg_ite (fun _ => hg_bind (hg_takeM _) fun t _ => hg_ite (fun _ => hg_bind (hg_store _ _) fun _ _ => hg_bind (hg_store _ _) fun _ _ => hg_bind (hg_putB _ _ _) fun r _ => by
        cases r with
        | some a => exact hg_out _ _ _
        | none => exact hg_put l me hd o v k _) fun _ => hg_out _ _ _) fun _ => hg_bind (hg_putB _ _ _) fun r _ => by
        cases r with
        | some a => exact hg_out _ _ _
        | none => exact hg_put l me hd o v k _
theorem hg_putM (l : LayT) (me hd o v : Int) : Hg (putM l me hd o v) (fun _ => True) := fun log s => hg_put l me hd o v _ 0 log s
theorem hg_del (l : LayT) (me hd o : Int) : ∀ (k : Nat), Hg (delL l me hd o k) (fun _ => True)
  | 0 => hg_pure trivial
  | k + 1 => hg_bind (hg_findM _ _ _ _) fun f hf => hg_ite (fun _ => hg_bind (hg_cas _ _ _) fun _ _ => hg_ite (fun _ => hg_bind hg_last fun _ _ => hg_bind (hg_cas _ _ _) fun _ _ => hg_ite (fun _ => hg_bind (hg_clear _ _) fun _ _ => hg_bind (hg_retire l _ hf) fun _ _ => hg_pure trivial) fun _ => hg_bind (hg_any (hg_findM _ _ _ _)) fun _ _ => hg_out _ _ _) fun _ => hg_del l me hd o k) fun _ => hg_out _ _ _
theorem hg_delM (l : LayT) (me hd o : Int) : Hg (delM l me hd o) (fun _ => True) := fun log s => hg_del l me hd o _ log s
end
theorem fin_gone {m : Pm OutT} {P : OutT → Prop} (hm : Hg m P) {gone : List (Int × Int)} {log : List ResT} (hd : (finM (m log ⟨0, gone, 0, 0, 0⟩)).2.2 = true) (hg : GonN gone) : GonN (finM (m log ⟨0, gone, 0, 0, 0⟩)).2.1.gone ∧ (finM (m log ⟨0, gone, 0, 0, 0⟩)).2.1.gone.length ≤ gone.length + log.length := by
  cases h : m log ⟨0, gone, 0, 0, 0⟩ with
  | error a => rw [h] at hd; cases hd
  | ok q =>
    obtain ⟨x, s'⟩ := q
    obtain ⟨h1, _⟩ := hm _ _ _ _ h
    have := h1.len
    have := h1.le (Nat.zero_le _)
    exact ⟨h1.ok hg, by show s'.gone.length ≤ _; simp only at *; omega⟩
theorem fin_len {m : Pm OutT} {P : OutT → Prop} (hm : Hg m P) {gone : List (Int × Int)} {log : List ResT} (hd : (finM (m log ⟨0, gone, 0, 0, 0⟩)).2.2 = true) : (finM (m log ⟨0, gone, 0, 0, 0⟩)).2.1.gone.length ≤ gone.length + log.length := by
  cases h : m log ⟨0, gone, 0, 0, 0⟩ with
  | error a => rw [h] at hd; cases hd
  | ok q =>
    obtain ⟨x, s'⟩ := q
    obtain ⟨h1, _⟩ := hm _ _ _ _ h
    have := h1.len
    have := h1.le (Nat.zero_le _)
    show s'.gone.length ≤ _
    simp only at *
    omega
theorem next_len {l : LayT} {me : Int} {gone : List (Int × Int)} {op : OpT} {log : List ResT} (hd : (nextF l me gone op log).2.2 = true) : (nextF l me gone op log).2.1.gone.length ≤ gone.length + log.length := by
  unfold nextF at hd ⊢
  split at hd
  · rw [if_pos ‹_›]; exact Nat.le_add_right _ _
  · rw [if_neg ‹_›]
    split at hd
    · rw [if_pos ‹_›]; exact fin_len (hg_get _ _ _ _) hd
    · rw [if_neg ‹_›]
      split at hd
      · rw [if_pos ‹_›]; exact fin_len (hg_putM _ _ _ _ _) hd
      · rw [if_neg ‹_›]
        split at hd
        · rw [if_pos ‹_›]; exact fin_len (hg_delM _ _ _ _) hd
        · rw [if_neg ‹_›]; exact Nat.le_add_right _ _
theorem next_gone {l : LayT} {me : Int} {gone : List (Int × Int)} {op : OpT} {log : List ResT} (hd : (nextF l me gone op log).2.2 = true) (hg : GonN gone) : GonN (nextF l me gone op log).2.1.gone ∧ (nextF l me gone op log).2.1.gone.length ≤ gone.length + log.length := by
  unfold nextF at hd ⊢
  split at hd
  · rw [if_pos ‹_›]; exact ⟨hg, Nat.le_add_right _ _⟩
  · rw [if_neg ‹_›]
    split at hd
    · rw [if_pos ‹_›]; exact fin_gone (hg_get _ _ _ _) hd hg
    · rw [if_neg ‹_›]
      split at hd
      · rw [if_pos ‹_›]; exact fin_gone (hg_putM _ _ _ _ _) hd hg
      · rw [if_neg ‹_›]
        split at hd
        · rw [if_pos ‹_›]; exact fin_gone (hg_delM _ _ _ _) hd hg
        · rw [if_neg ‹_›]; exact ⟨hg, Nat.le_add_right _ _⟩
theorem next_same {l : LayT} (hS : 0 ≤ l.seats) {me : Int} {gone : List (Int × Int)} {op : OpT} {log : List ResT} {k : Nat} (hd : (nextF l me gone op (log.take k)).2.2 = true) : nextF l me gone op log = nextF l me gone op (log.take k) := by
  by_cases hh : op.obj < 0 ∨ l.size ≤ op.obj
  · unfold nextF; rw [if_pos hh, if_pos hh]
  · by_cases hk : op.kind = 1 ∨ op.kind = 2 ∨ op.kind = 3
    · have e := fun log => next_run (l := l) (S := l.seats.toNat) (me := me) (by omega) (gone := gone) (op := op) (log := log) (h := .ob op.obj) rfl hh hk
      rw [e] at hd
      rw [e, e]
      have hr : runQ (lstM (.ob op.obj)) l.seats.toNat (startQ (.ob op.obj) op gone) log = runQ (lstM (.ob op.obj)) l.seats.toNat (runQ (lstM (.ob op.obj)) l.seats.toNat (startQ (.ob op.obj) op gone) (log.take k)) (log.drop k) := by
        unfold runQ; rw [← List.foldl_append, List.take_append_drop]
      rw [hr]
      generalize runQ (lstM (.ob op.obj)) l.seats.toNat (startQ (.ob op.obj) op gone) (log.take k) = q at hd ⊢
      obtain ⟨pc, s⟩ := q
      cases pc with
      | fin o =>
        have : ∀ rest : List ResT, runQ (lstM (.ob op.obj)) l.seats.toNat ⟨.fin o, s⟩ rest = ⟨.fin o, s⟩ := fun rest => by
          induction rest with
          | nil => rfl
          | cons r rest ih => exact ih
        rw [this]
      | _ => cases hd
    · unfold nextF; rw [if_neg hh, if_neg (by omega), if_neg (by omega), if_neg (by omega), if_neg hh, if_neg (by omega), if_neg (by omega), if_neg (by omega)]
end Go.Proofs.YtkkldicehapklaaGreat
/- What programs on a map do to what is gone; where points lie. -/
namespace Go.Proofs.YtkkldicehapklaaGreat
set_option maxRecDepth 100000

theorem next_pos {l : LayT} (hS : 0 ≤ l.seats) {me : Int} {gone : List (Int × Int)} {op : OpT} {log : List ResT} (hd : (nextF l me gone op log).2.2 = true) (he : (nextF l me gone op log).2.1.err = 0) : 0 ≤ (nextF l me gone op log).2.1.point := by
  by_cases hh : op.obj < 0 ∨ l.size ≤ op.obj
  · unfold nextF at he
    rw [if_pos hh] at he
    exact absurd (show (1 : Int) = 0 from he) (by omega)
  · by_cases hk : op.kind = 1 ∨ op.kind = 2 ∨ op.kind = 3
    · have e := next_run (l := l) (S := l.seats.toNat) (me := me) (by omega) (gone := gone) (op := op) (log := log) (h := .ob op.obj) rfl hh hk
      obtain ⟨q', e', h1, h2⟩ := run_pt (S := l.seats.toNat) (h := .ob op.obj) (kd := op.kind) log (startQ (.ob op.obj) op gone) (by
        show fkOk op.kind 0 (fkOf op)
        unfold fkOf
        rcases hk with hk | hk | hk
        · rw [if_pos hk]; show op.kind ≠ 2; omega
        · rw [if_neg (by omega), if_pos hk]; exact hk
        · rw [if_neg (by omega), if_neg (by omega)]; show op.kind ≠ 2; omega) trivial
      rw [e'] at e
      rw [e] at hd ⊢
      obtain ⟨pc, s⟩ := q'
      cases pc with
      | fin o => exact h1.1
      | _ => cases hd
    · unfold nextF at he
      rw [if_neg hh, if_neg (by omega), if_neg (by omega), if_neg (by omega)] at he
      exact absurd (show (1 : Int) = 0 from he) (by omega)
def obF (l : LayT) (dummy : Int) : Int := if nodeF l dummy 0 < 0 then l.done else nodeF l dummy 0
theorem behind_snd {l : LayT} {me : Int} {gone : List (Int × Int)} {kind dummy order v : Int} {lg : List ResT} : (behindF l me gone kind dummy order v lg).2 = (nextF l me gone ⟨kind, obF l dummy, order, v⟩ lg).2 := by
  unfold behindF obF
  simp only
  generalize (if nodeF l dummy 0 < 0 then l.done else nodeF l dummy 0) = ob
  split <;> rfl
theorem firstN_spec {f : Nat → Bool} : ∀ (n k : Nat), f (k + n) = true → f (firstN f n k) = true ∧ k ≤ firstN f n k ∧ firstN f n k ≤ k + n
  | 0, k, h => ⟨h, Nat.le_refl _, Nat.le_refl _⟩
  | n + 1, k, h => by
    unfold firstN
    split
    · exact ⟨‹_›, Nat.le_refl _, Nat.le_add_right _ _⟩
    · obtain ⟨h1, h2, h3⟩ := firstN_spec n (k + 1) (by rw [show k + 1 + n = k + (n + 1) by omega]; exact h)
      exact ⟨h1, by omega, by omega⟩
section
variable {l : LayT} {me kind dummy order v : Int} {log : List ResT} {s s' : PsT} {o : OutT × AccT}
theorem list_inv (hS : 0 ≤ l.seats) (hm : s.made ≤ log.length) (e : listM l me kind dummy order v log s = .ok (o, s')) :
    Hs log.length s s' ∧ (kind = 2 → o.1.is = false → o.1.err = 0 → 0 ≤ o.1.point ∧ o.1.point + 2 < log.length) := by
  unfold listM at e
  simp only at e
  by_cases hd : (behindF l me s.gone kind dummy order v (log.drop s.made)).2.2 = false
  · rw [if_pos hd] at e; cases e
  rw [if_neg hd] at e
  have hd' : (behindF l me s.gone kind dummy order v (log.drop s.made)).2.2 = true := by simpa using hd
  rw [behind_snd] at hd'
  by_cases hp : (behindF l me s.gone kind dummy order v (log.drop s.made)).2.1.point < 0
  · rw [if_pos hp] at e
    cases e
    refine ⟨Hs.refl _, fun h1 h2 h3 => ?_⟩
    rw [behind_snd] at hp h3
    have := next_pos hS hd' h3
    omega
  · rw [if_neg hp] at e
    have hp' := hp
    rw [behind_snd] at hp'
    obtain ⟨q1, q2⟩ := next_point hS hd' (by omega)
    have hlen : (log.drop s.made).length = log.length - s.made := List.length_drop
    have hpt : (behindF l me s.gone kind dummy order v (log.drop s.made)).2.1.point.toNat + 1 ≤ (log.drop s.made).length := by rw [behind_snd]; omega
    generalize hf : (fun k => (behindF l me s.gone kind dummy order v ((log.drop s.made).take k)).2.2) = f at e
    have hfl : f (((behindF l me s.gone kind dummy order v (log.drop s.made)).2.1.point.toNat + 1) + ((log.drop s.made).length - ((behindF l me s.gone kind dummy order v (log.drop s.made)).2.1.point.toNat + 1))) = true := by
      rw [show ((behindF l me s.gone kind dummy order v (log.drop s.made)).2.1.point.toNat + 1) + ((log.drop s.made).length - ((behindF l me s.gone kind dummy order v (log.drop s.made)).2.1.point.toNat + 1)) = (log.drop s.made).length by omega, ← hf]
      simp only [List.take_length]
      rw [behind_snd]; exact hd'
    obtain ⟨k1, k2, k3⟩ := firstN_spec _ _ hfl
    generalize hK : firstN f _ _ = K at e k1 k2 k3
    rw [← hf] at k1
    simp only at k1
    rw [behind_snd] at k1
    have same := next_same hS k1
    cases e
    refine ⟨⟨fun _ => by simp only; omega, fun hg => ?_, by simp, ?_⟩, fun h1 h2 h3 => ?_⟩
    · show GonN (behindF l me s.gone kind dummy order v (log.drop s.made)).2.1.gone
      rw [behind_snd, same]
      exact (next_gone k1 hg).1
    · show (behindF l me s.gone kind dummy order v (log.drop s.made)).2.1.gone.length + s.made ≤ s.gone.length + (s.made + K)
      rw [behind_snd, same]
      have hall : (nextF l me s.gone ⟨kind, obF l dummy, order, v⟩ ((log.drop s.made).take K)).2.1.gone.length ≤ s.gone.length + ((log.drop s.made).take K).length := by
        have := @next_len l me s.gone ⟨kind, obF l dummy, order, v⟩ ((log.drop s.made).take K) k1
        exact this
      rw [List.length_take] at hall
      omega
    · simp only at h2 h3 ⊢
      rw [behind_snd] at h2 h3 ⊢
      have := q2 h1 h2 h3
      omega
end
def Hl {α : Type} (m : Pm α) : Prop := ∀ log s x s', s.made ≤ log.length → m log s = .ok (x, s') → Hs log.length s s'
section
variable {α β : Type}
theorem hl_pure {x : α} : Hl (Pm.pure x) := fun _ _ _ _ _ e => by cases e; exact Hs.refl _
theorem hl_do (a : AccT) : Hl (doM a) := fun log s x s' _ e => (hg_do a log s x s' e).1
theorem hl_bind {m : Pm α} {f : α → Pm β} (h1 : Hl m) (h2 : ∀ x, Hl (f x)) : Hl (m.bind f) := fun log s y s' hm e => by
  obtain ⟨x, s1, e1, e2⟩ := bind_inv e
  have a := h1 log s x s1 hm e1
  exact a.trans (h2 x log s1 y s' (a.le hm) e2)
theorem hl_ite {c : Prop} [Decidable c] {m n : Pm α} (h1 : Hl m) (h2 : Hl n) : Hl (if c then m else n) := by
  split
  · exact h1
  · exact h2
theorem hl_there (o : OutT × AccT) : Hl (thereM o) := fun _ _ _ _ _ e => by cases e; exact Hs.refl _
theorem hl_list {l : LayT} (hS : 0 ≤ l.seats) (me kind dummy order v : Int) : Hl (listM l me kind dummy order v) := fun _ _ _ _ hm e => (list_inv hS hm e).1
theorem hl_come {l : LayT} (hS : 0 ≤ l.seats) (me m : Int) : ∀ (k : Nat) (b : Int), Hl (comeM l me m k b)
  | 0, _ => hl_pure
  | k + 1, b => hl_bind (hl_do _) fun _ => hl_ite hl_pure (hl_ite hl_pure (hl_bind (hl_come hS me m k _) fun _ => hl_ite hl_pure (hl_bind (hl_list hS _ _ _ _ _) fun _ => hl_ite hl_pure (hl_bind (hl_there _) fun _ => hl_bind (hl_do _) fun _ => hl_pure))))
theorem hl_after {l : LayT} (m kind size : Int) : Hl (afterM l m kind size) := hl_ite (hl_bind (hl_do _) fun _ => hl_ite (hl_bind (hl_do _) fun _ => hl_pure) hl_pure) (hl_ite (hl_bind (hl_do _) fun _ => hl_pure) hl_pure)
theorem hl_split {l : LayT} (hS : 0 ≤ l.seats) (me : Int) (op : OpT) : Hl (splitM l me op) := hl_bind (hl_do _) fun _ => hl_ite hl_pure (hl_bind (hl_come hS _ _ _ _) fun _ => hl_ite hl_pure (hl_bind (hl_list hS _ _ _ _ _) fun _ => hl_ite (hl_bind (hl_after _ _ _) fun _ => hl_pure) hl_pure))
end
theorem hnext_gone {l : LayT} (hS : 0 ≤ l.seats) {me : Int} {gone : List (Int × Int)} {op : OpT} {log : List ResT} (hd : (hnextF l me gone op log).2.2 = true) (hg : GonN gone) : GonN (hnextF l me gone op log).2.1.gone ∧ (hnextF l me gone op log).2.1.gone.length ≤ gone.length + log.length := by
  unfold hnextF at hd ⊢
  split at hd
  · rw [if_pos ‹_›]; exact ⟨hg, Nat.le_add_right _ _⟩
  · rw [if_neg ‹_›]
    cases h : splitM l me op log ⟨0, gone, 0, 0, 0⟩ with
    | error a => rw [h] at hd; cases hd
    | ok q =>
      obtain ⟨x, s'⟩ := q
      have h1 := hl_split hS me op _ _ _ _ (Nat.zero_le _) h
      have := h1.len
      have := h1.le (Nat.zero_le _)
      exact ⟨h1.ok hg, by show s'.gone.length ≤ _; simp only at *; omega⟩
end Go.Proofs.YtkkldicehapklaaGreat
/- The document's example, as its walk asks for it. -/
namespace Go.Proofs.YtkkldicehapklaaGreat
set_option maxRecDepth 100000

def shownT : HTabT := hplayedT (layH 1 17 1) shownW []
def noneB (l : LayT) (m : List Int) : Bool := decide (0 ≤ bucketF l 0 0) && decide (bucketF l 0 0 < m.length) && (rowF l m (nodeF l (ofW (atF m (bucketF l 0 0))).idx 0)).all (fun r => decide (r.1 % 2 ≠ 1)) && decide ((rowF l m (nodeF l (ofW (atF m (bucketF l 0 0))).idx 0)).length ≤ 2000)
def shownC : Bool := let t := shownT; !t.bad && !t.wild && decide (t.calls.length = 4) && decide (t.calls.map HCallT.is = [true, false, true, true]) && decide ((t.calls.map HCallT.val).getD 2 0 = 9) && noneB (layH 1 17 1) t.m
theorem shown_all : shownC = true := by decide +kernel
structure ShownI (t : HTabT) : Prop where
  bad : t.bad = false
  wild : t.wild = false
  calls : ∃ c0 c1 c2 c3 : HCallT, t.calls = [c0, c1, c2, c3] ∧ c0.is = true ∧ c1.is = false ∧ c2.is = true ∧ c3.is = true ∧ c2.val = 9
  none : noneB (layH 1 17 1) t.m = true
theorem shown_is : ShownI shownT := by
  have h := shown_all
  unfold shownC at h
  generalize shownT = t at h
  obtain ⟨m, step, seats, calls, full, wild, bad⟩ := t
  simp only [Bool.and_eq_true, decide_eq_true_eq, Bool.not_eq_true'] at h
  obtain ⟨⟨⟨⟨⟨h1, h2⟩, h3⟩, h4⟩, h5⟩, h6⟩ := h
  match calls, h3 with
  | [c0, c1, c2, c3], _ =>
    simp only [List.map_cons, List.map_nil, List.cons.injEq, and_true] at h4
    exact ⟨h1, h2, ⟨c0, c1, c2, c3, rfl, h4.1, h4.2.1, h4.2.2.1, h4.2.2.2, h5⟩, h6⟩
theorem shown_next : hnextF (layH 1 17 1) 0 [] ⟨1, 1, 0, 0⟩ [] = (acc0, ⟨0, false, 1, -1, []⟩, true) := by decide +kernel
theorem shown_parent : parentF 6 = 2 := by decide +kernel
end Go.Proofs.YtkkldicehapklaaGreat
