/- Channels of segments: their programs, what lays and reads them, and plays, in plain words. -/
import Derived.Test.YtgoijmomglomlaaPA
namespace Go.Proofs.Ytgoijmomglomlaa
set_option maxRecDepth 100000

/-! ### Programs -/
/-- Tries to put v into the first place that has nothing. -/
def placesS (l : LayT) (n v : Int) : List Int → Pm (Option Int)
  | [] => .pure none
  | i :: is => (loadM (nodeF l n i)).bind fun x => if x = 0 then (casM (nodeF l n i) 0 (v + 2)).bind fun ok => if ok then lastM.bind fun a => .pure (some a) else placesS l n v is else placesS l n v is
def fillL (l : LayT) (n : Int) : List Int → Pm Unit
  | [] => .pure ()
  | i :: is => (storeM (nodeF l n i) 0).bind fun _ => fillL l n is
def fillM (l : LayT) (n v : Int) : Pm Unit := (storeM (nodeF l n 0) 0).bind fun _ => (storeM (nodeF l n 1) (v + 2)).bind fun _ => fillL l n [2, 3, 4, 5]
def places5 : List Int := [1, 2, 3, 4, 5]
/-- What is done behind a full segment, with a node that is there. -/
def attS2 (l : LayT) (me tl was mine : Int) : Pm (Option OutT × Int) :=
  (casM (nodeF l (ofW was).idx 0) 0 mine).bind fun ok => if ok then lastM.bind fun a => (casM tl was (packW (turnW (ofW was) mine))).bind fun _ => (clearM l me).bind fun _ => .pure (some ⟨0, true, 0, a, []⟩, mine) else .pure (none, mine)
/-- An attempt to send. -/
def attS (l : LayT) (me tl v mine : Int) : Pm (Option OutT × Int) := (guardM l me 0 tl).bind fun p => (placesS l (ofW p.1).idx v places5).bind fun o => match o with
  | some a => if mine = 0 then (clearM l me).bind fun _ => .pure (some ⟨0, true, 0, a, []⟩, mine) else (giveM l mine).bind fun _ => (clearM l me).bind fun _ => .pure (some ⟨0, true, 0, a, []⟩, mine)
  | none => (loadM (nodeF l (ofW p.1).idx 0)).bind fun next => if next = 0 then (if mine = 0 then (takeM l).bind fun t => if t.2.2 then (fillM l t.1 v).bind fun _ => attS2 l me tl p.1 t.1 else (clearM l me).bind fun _ => .pure (some ⟨0, false, 8, t.2.1, []⟩, mine) else attS2 l me tl p.1 mine)
    else (casM tl p.1 (packW (turnW (ofW p.1) next))).bind fun _ => .pure (none, mine)
def sendL (l : LayT) (me tl v : Int) : Nat → Int → Pm OutT
  | 0, _ => .pure ⟨0, false, 0, 0, []⟩
  | k + 1, mine => (attS l me tl v mine).bind fun r => match r.1 with
    | some o => .pure o
    | none => sendL l me tl v k r.2
def sendM (l : LayT) (me tl v : Int) : Pm OutT := fun log s => sendL l me tl v (log.length + 1 - s.made) 0 log s
/-- Looks for the first value: tells that there is none, what was got, or that all places were received. -/
def placesR (l : LayT) (n : Int) : List Int → Pm (Option OutT)
  | [] => .pure none
  | i :: is => (loadM (nodeF l n i)).bind fun x => lastM.bind fun a => if x = 0 then .pure (some ⟨0, false, 0, a, []⟩) else if x = 1 then placesR l n is else (casM (nodeF l n i) x 1).bind fun ok => if ok then lastM.bind fun a => .pure (some ⟨w64 (x - 2), true, 0, a, []⟩) else placesR l n is
/-- What is done behind a segment that was received whole. -/
def attR2 (l : LayT) (me hd was next : Int) : Pm (Option OutT) :=
  (casM hd was (packW (turnW (ofW was) next))).bind fun ok => if ok then (clearM l me).bind fun _ => (retireM l (ofW was).idx).bind fun _ => .pure none else .pure none
/-- An attempt to receive. -/
def attR (l : LayT) (me hd tl : Int) : Pm (Option OutT) := (guardM l me 0 hd).bind fun p => (placesR l (ofW p.1).idx places5).bind fun o => match o with
  | some o => (clearM l me).bind fun _ => .pure (some o)
  | none => (loadM (nodeF l (ofW p.1).idx 0)).bind fun next => if next = 0 then lastM.bind fun a => (clearM l me).bind fun _ => .pure (some ⟨0, false, 0, a, []⟩)
    else (loadM tl).bind fun en => if (ofW en).idx = (ofW p.1).idx then (casM tl en (packW (turnW (ofW en) next))).bind fun _ => attR2 l me hd p.1 next else attR2 l me hd p.1 next
def recvL (l : LayT) (me hd tl : Int) : Nat → Pm OutT
  | 0 => .pure ⟨0, false, 0, 0, []⟩
  | k + 1 => (attR l me hd tl).bind fun r => match r with
    | some o => .pure o
    | none => recvL l me hd tl k
def recvM (l : LayT) (me hd tl : Int) : Pm OutT := fun log s => recvL l me hd tl (log.length + 1 - s.made) log s
/-- What an operation's program does next. -/
def nextF (l : LayT) (me : Int) (gone : List (Int × Int)) (op : OpT) (log : List ResT) : AccT × OutT × Bool :=
  if headF l op.obj < 0 then (acc0, ⟨0, false, 1, -1, gone⟩, true)
  else if op.kind = 6 then finM (sendM l me (tailF l op.obj) op.a log ⟨0, gone, 0, 0, 0⟩)
  else if op.kind = 7 then finM (recvM l me (headF l op.obj) (tailF l op.obj) log ⟨0, gone, 0, 0, 0⟩)
  else (acc0, ⟨0, false, 1, -1, gone⟩, true)

/-! ### What lays and reads -/
def initN (l : LayT) (a : Nat) (k : Nat) : List AccT := (List.range k).map fun (i : Nat) => ⟨2, nodeF l ((a : Int) + i) 7, 0, if (a : Int) + i = l.nodes then 0 else (a : Int) + i + 1⟩
/-- Lays the free list, from the node a on. -/
def initF (l : LayT) (a : Nat) : List AccT := initN l a (l.nodes.toNat + 1 - a) ++ [⟨2, l.free, 0, a⟩]
/-- Lays a channel's first segment. -/
def segInitF (l : LayT) (c node : Int) : List AccT := if headF l c < 0 ∨ nodeF l node 0 < 0 then [] else
  ((List.range 6).map fun (i : Nat) => (⟨2, nodeF l node i, 0, 0⟩ : AccT)) ++ [⟨2, headF l c, 0, packW ⟨node, false, 0⟩⟩, ⟨2, tailF l c, 0, packW ⟨node, false, 0⟩⟩]
def beginA (l : LayT) : List AccT := (initF l 2 ++ segInitF l 0 1) ++ [⟨2, l.era, 0, 1⟩]
def beginF (l : LayT) : List Int := (allG (List.replicate l.size.toNat 0) (List.replicate l.size.toNat 0) [] (beginA l)).1
def nodesF (l : LayT) (m : List Int) (c : Int) : List Int := if headF l c < 0 then [] else chainF (fun n => atF m (nodeF l n 0)) l.nodes (l.nodes.toNat + 1) [] (ofW (atF m (headF l c))).idx
def placesF (l : LayT) (m : List Int) (n : Int) : List Int := places5.map fun i => atF m (nodeF l n i)
def rowF (l : LayT) (m : List Int) (c : Int) : List Int := (((nodesF l m c).flatMap (placesF l m)).filter fun v => decide (1 < v)).map fun v => v - 2

/-! ### Plays -/
structure PlayT where
  nodes : Int
  want : List (List OpT)
  turns : List Int
def layP (p : PlayT) : LayT := layF p.want.length (2 + p.nodes % 8) 0 0 1
def okOp (o : OpT) : Bool := decide (6 ≤ o.kind) && decide (o.kind ≤ 7) && decide (0 ≤ o.a) && decide (o.a < 4294967296)
def okOps (w : List OpT) : Bool := decide (w.length ≤ 7) && w.all okOp
def fewF (p : PlayT) : Bool := decide (1 ≤ p.want.length) && decide (p.want.length ≤ 3) && decide (p.turns.length ≤ 200) && p.want.all okOps
structure SeatT where
  at_ : Nat
  log : List ResT
  gone : List (Int × Int)
structure StepT where
  who : Int
  at_ : Int
  op : OpT
  gone : List (Int × Int)
  acc : AccT
  res : ResT
  done : Bool
  out : OutT
structure PSt where
  m : List Int
  seats : List SeatT
  out : List StepT
/-- A seat's turn. -/
def stepP (l : LayT) (want : List (List OpT)) (who : Nat) (s : PSt) : Except PSt PSt :=
  match s.seats[who]?, want[who]? with
  | some x, some ws => match ws[x.at_]? with
    | none => .ok s
    | some op0 =>
      let op : OpT := { op0 with obj := 0 }
      let r := nextF l who x.gone op x.log
      if r.2.2 then .ok ⟨s.m, s.seats.set who ⟨x.at_ + 1, [], r.2.1.gone⟩, s.out ++ [⟨who, x.at_, op, x.gone, acc0, res0, true, r.2.1⟩]⟩
      else if faultF s.m.length r.1 = 0 then .ok ⟨(turnF s.m r.1).1, s.seats.set who { x with log := x.log ++ [(turnF s.m r.1).2] }, s.out ++ [⟨who, x.at_, op, x.gone, r.1, (turnF s.m r.1).2, false, out0⟩]⟩
      else .error s
  | _, _ => .ok s
def whoF (p : PlayT) (i : Nat) : Nat := match p.turns[i]? with
  | some t => (t % (p.want.length : Int)).toNat
  | none => (i - p.turns.length) / 1000
def playL (l : LayT) (p : PlayT) : Nat → Nat → PSt → Except PSt PSt
  | 0, _, s => .ok s
  | k + 1, i, s => if p.want.length ≤ whoF p i then .ok s else match stepP l p.want (whoF p i) s with
    | .ok s' => playL l p k (i + 1) s'
    | .error s' => .error s'
def allF (p : PlayT) : Nat := p.turns.length + p.want.length * 1000
def start (p : PlayT) : PSt := ⟨beginF (layP p), List.replicate p.want.length ⟨0, [], []⟩, []⟩
def endsF (p : PlayT) (seats : List SeatT) : Bool := (seats.zip p.want).all fun q => decide (q.2.length ≤ q.1.at_)
structure PlayedT where
  steps : List StepT
  m : List Int
  gone : List (List (Int × Int))
  ends : Bool
def playedF (p : PlayT) : PlayedT := match playL (layP p) p (allF p) 0 (start p) with
  | .ok s => ⟨s.out, s.m, s.seats.map (·.gone), endsF p s.seats⟩
  | .error s => ⟨s.out, s.m, [], false⟩
structure PlayOk (p : PlayT) : Prop where
  w1 : 1 ≤ p.want.length
  w3 : p.want.length ≤ 3
  t : p.turns.length ≤ 200
  n0 : 0 ≤ p.nodes
  u : ∀ x ∈ p.turns, 0 ≤ x ∧ x ≤ 255
  l : ∀ w ∈ p.want, w.length ≤ 7
end Go.Proofs.Ytgoijmomglomlaa
/- Programs of sends and receives as machines. -/
namespace Go.Proofs.Ytgoijmomglomlaa
set_option maxRecDepth 100000

/-- Places of programs of sends and receives. -/
inductive Sk where
  | sg (v m : Int) | sl (v m w i : Int) | sc (v m w i : Int) | sn (v m w : Int) | st (v m w nx : Int)
  | tk (v w : Int) | f0 (v w n : Int) | f1 (v w n : Int) | f2 (v w n i : Int) | sa (v m w : Int) | sb (w m a : Int) | sv (a : Int) | fi (o : OutT)
  | rg | rl (w i : Int) | rc (w i x : Int) | rn (w : Int) | re (w nx : Int) | rt (w nx en : Int) | rh (w nx : Int) | rx (n : Int) | rr
def okO (a : Int) : OutT := ⟨0, true, 0, a, []⟩
def noO (a : Int) : OutT := ⟨0, false, 0, a, []⟩
section
variable (hd tl : Int)
def segAsk : Sk → Ak
  | .sl _ _ w i => .ld (.nd (ofW w).idx i)
  | .sc v _ w i => .cs (.nd (ofW w).idx i) 0 (v + 2)
  | .sn _ _ w => .ld (.nd (ofW w).idx 0)
  | .st _ _ w nx => .cs (.ob tl) w (packW (turnW (ofW w) nx))
  | .f0 _ _ n => .st (.nd n 0) 0
  | .f1 v _ n => .st (.nd n 1) (v + 2)
  | .f2 _ _ n i => .st (.nd n i) 0
  | .sa _ m w => .cs (.nd (ofW w).idx 0) 0 m
  | .sb w m _ => .cs (.ob tl) w (packW (turnW (ofW w) m))
  | .rl w i => .ld (.nd (ofW w).idx i)
  | .rc w i x => .cs (.nd (ofW w).idx i) x 1
  | .rn w => .ld (.nd (ofW w).idx 0)
  | .re _ _ => .ld (.ob tl)
  | .rt _ nx en => .cs (.ob tl) en (packW (turnW (ofW en) nx))
  | .rh w nx => .cs (.ob hd) w (packW (turnW (ofW w) nx))
  | _ => .ld (.ob tl)
def nextS (v m w i : Int) : Pc Sk := if i < 5 then .at_ (.sl v m w (i + 1)) else .at_ (.sn v m w)
def nextR (w i : Int) : Pc Sk := if i < 5 then .at_ (.rl w (i + 1)) else .at_ (.rn w)
def segTell : Sk → Nat → ResT → Pc Sk
  | .sl v m w i, _, r => if r.val = 0 then .at_ (.sc v m w i) else nextS v m w i
  | .sc v m w i, made, r => if r.ok then (if m = 0 then .clr (.fi (okO made)) else .v1 (.sv made) m) else nextS v m w i
  | .sn v m w, _, r => if r.val = 0 then (if m = 0 then .t1 (.tk v w) else .at_ (.sa v m w)) else .at_ (.st v m w r.val)
  | .st v m _ _, _, _ => .g1 (.sg v m) 0 (.ob tl)
  | .f0 v w n, _, _ => .at_ (.f1 v w n)
  | .f1 v w n, _, _ => .at_ (.f2 v w n 2)
  | .f2 v w n i, _, _ => if i < 5 then .at_ (.f2 v w n (i + 1)) else .at_ (.sa v n w)
  | .sa v m w, made, r => if r.ok then .at_ (.sb w m made) else .g1 (.sg v m) 0 (.ob tl)
  | .sb _ _ a, _, _ => .clr (.fi (okO a))
  | .rl w i, made, r => if r.val = 0 then .clr (.fi (noO made)) else if r.val = 1 then nextR w i else .at_ (.rc w i r.val)
  | .rc w i x, made, r => if r.ok then .clr (.fi ⟨w64 (x - 2), true, 0, made, []⟩) else nextR w i
  | .rn w, made, r => if r.val = 0 then .clr (.fi (noO made)) else .at_ (.re w r.val)
  | .re w nx, _, r => if (ofW r.val).idx = (ofW w).idx then .at_ (.rt w nx r.val) else .at_ (.rh w nx)
  | .rt w nx _, _, _ => .at_ (.rh w nx)
  | .rh w _, _, r => if r.ok then .clr (.rx (ofW w).idx) else .g1 .rg 0 (.ob hd)
  | k, _, _ => .at_ k
def segM : Mach Sk where
  ask := segAsk hd tl
  tell := segTell hd tl
  took := fun k n _ => match k with
    | .tk v w => .at_ (.f0 v w n)
    | k => .v1 k n
  full := fun k a => match k with
    | .tk _ _ => .clr (.fi ⟨0, false, 8, a, []⟩)
    | k => .at_ k
  guarded := fun k v _ => match k with
    | .sg x m => .at_ (.sl x m v 1)
    | .rg => .at_ (.rl v 1)
    | k => .at_ k
  cleared := fun k => match k with
    | .fi o => .fin o
    | .rx n => .r1 .rr n
    | k => .at_ k
  gave := fun k => match k with
    | .sv a => .clr (.fi (okO a))
    | k => .at_ k
  retired := fun k => match k with
    | .rr => .g1 .rg 0 (.ob hd)
    | k => .at_ k
end
section
variable {hd tl : Int} {l : LayT} {S : Nat} {me : Int} {log : List ResT}
theorem fi_sim {o : OutT} {s : PsT} (hs : s.made ≤ log.length) {f : Unit → Pm OutT} (hf : ∀ s, f () log s = .ok (o, s)) : Does (segM hd tl) l S me (norm (segM hd tl) (.clr (.fi o)) s) ((clearM l me).bind f log s) (log.drop s.made) :=
  clear_sim (M0 := s.made) (fun s _ _ _ _ _ => by rw [hf]; exact does_fin) s (Nat.le_refl _) hs
theorem placesS_sim {v m w : Int} {M0 : Nat} {f : Option Int → Pm OutT}
    (h1 : ∀ (a : Nat) (s : PsT), M0 < s.made → s.made ≤ log.length → Does (segM hd tl) l S me (norm (segM hd tl) (if m = 0 then .clr (.fi (okO a)) else .v1 (.sv a) m) s) (f (some (a : Int)) log s) (log.drop s.made))
    (h2 : ∀ s : PsT, M0 < s.made → s.made ≤ log.length → Does (segM hd tl) l S me ⟨.at_ (.sn v m w), s⟩ (f none log s) (log.drop s.made)) :
    ∀ (k : Nat) (i : Int) (s : PsT), i + k = 5 → M0 ≤ s.made → Does (segM hd tl) l S me ⟨.at_ (.sl v m w i), s⟩ ((placesS l (ofW w).idx v ((List.range (k + 1)).map fun (j : Nat) => i + j)).bind f log s) (log.drop s.made) := by
  intro k
  induction k with
  | zero =>
    intro i s hi hM
    have hi5 : ¬ i < 5 := by omega
    rw [show ((List.range (0 + 1)).map fun (j : Nat) => i + (j : Int)) = [i] by simp, placesS, bind_assoc, load_eq]
    refine does_step rfl trivial fun r h3 => ?_
    show Does (segM hd tl) l S me (norm (segM hd tl) (if r.val = 0 then _ else nextS v m w i) s.up) _ _
    by_cases h0 : r.val = 0
    · rw [if_pos h0, if_pos h0, bind_assoc, cas_eq]
      refine does_step (q := ⟨.at_ (Sk.sc v m w i), s.up⟩) (s := s.up) rfl trivial fun r2 h4 => ?_
      show Does (segM hd tl) l S me (norm (segM hd tl) (if r2.ok then _ else nextS v m w i) s.up.up) _ _
      by_cases hk : r2.ok = true
      · rw [if_pos hk, if_pos hk, bind_assoc, bind_ok last_ok]
        have := h1 s.up.made s.up.up (by simp only [PsT.up]; omega) (by simp only [PsT.up] at h4 ⊢; omega)
        show Does (segM hd tl) l S me _ (f (some (((s.up.made + 1 : Nat) : Int) - 1)) log _) _
        rw [show ((s.up.made + 1 : Nat) : Int) - 1 = (s.up.made : Int) by omega]
        exact this
      · rw [if_neg hk, if_neg hk]
        unfold nextS
        rw [if_neg hi5]
        exact h2 s.up.up (by simp only [PsT.up]; omega) (by simp only [PsT.up] at h4 ⊢; omega)
    · rw [if_neg h0, if_neg h0]
      unfold nextS
      rw [if_neg hi5]
      exact h2 s.up (by simp only [PsT.up]; omega) (by simp only [PsT.up]; omega)
  | succ k ih =>
    intro i s hi hM
    have hi5 : i < 5 := by omega
    have hr : ((List.range (k + 1 + 1)).map fun (j : Nat) => i + (j : Int)) = i :: ((List.range (k + 1)).map fun (j : Nat) => (i + 1) + (j : Int)) := by
      rw [List.range_succ_eq_map]
      simp only [List.map_cons, List.map_map]
      congr 1
      · simp
      · apply List.map_congr_left
        intro j _
        simp only [Function.comp]
        omega
    rw [hr, placesS, bind_assoc, load_eq]
    refine does_step rfl trivial fun r h3 => ?_
    show Does (segM hd tl) l S me (norm (segM hd tl) (if r.val = 0 then _ else nextS v m w i) s.up) _ _
    by_cases h0 : r.val = 0
    · rw [if_pos h0, if_pos h0, bind_assoc, cas_eq]
      refine does_step (q := ⟨.at_ (Sk.sc v m w i), s.up⟩) (s := s.up) rfl trivial fun r2 h4 => ?_
      show Does (segM hd tl) l S me (norm (segM hd tl) (if r2.ok then _ else nextS v m w i) s.up.up) _ _
      by_cases hk : r2.ok = true
      · rw [if_pos hk, if_pos hk, bind_assoc, bind_ok last_ok]
        have := h1 s.up.made s.up.up (by simp only [PsT.up]; omega) (by simp only [PsT.up] at h4 ⊢; omega)
        show Does (segM hd tl) l S me _ (f (some (((s.up.made + 1 : Nat) : Int) - 1)) log _) _
        rw [show ((s.up.made + 1 : Nat) : Int) - 1 = (s.up.made : Int) by omega]
        exact this
      · rw [if_neg hk, if_neg hk]
        unfold nextS
        rw [if_pos hi5]
        exact ih (i + 1) s.up.up (by omega) (by simp only [PsT.up]; omega)
    · rw [if_neg h0, if_neg h0]
      unfold nextS
      rw [if_pos hi5]
      exact ih (i + 1) s.up (by omega) (by simp only [PsT.up]; omega)
theorem places5_eq : places5 = (List.range (4 + 1)).map fun (j : Nat) => (1 : Int) + j := by decide
theorem attS2_sim {v m w : Int} {M0 : Nat} {f : Option OutT × Int → Pm OutT}
    (h1 : ∀ (o : OutT) (s : PsT), f (some o, m) log s = .ok (o, s))
    (h2 : ∀ s : PsT, M0 < s.made → s.made ≤ log.length → Does (segM hd tl) l S me ⟨.g1 (.sg v m) 0 (.ob tl), s⟩ (f (none, m) log s) (log.drop s.made))
    (s : PsT) (hM : M0 ≤ s.made) : Does (segM hd tl) l S me ⟨.at_ (.sa v m w), s⟩ ((attS2 l me tl w m).bind f log s) (log.drop s.made) := by
  rw [attS2, bind_assoc, cas_eq]
  refine does_step rfl trivial fun r h3 => ?_
  show Does (segM hd tl) l S me (norm (segM hd tl) (if r.ok then _ else _) s.up) _ _
  by_cases hk : r.ok = true
  · rw [if_pos hk, if_pos hk, bind_assoc, bind_ok last_ok, bind_assoc, cas_eq]
    refine does_step (q := ⟨.at_ (Sk.sb w m s.made), s.up⟩) (s := s.up) rfl trivial fun r2 h4 => ?_
    rw [bind_assoc]
    have := fi_sim (hd := hd) (tl := tl) (l := l) (S := S) (me := me) (log := log) (o := okO s.made) (s := s.up.up) (by simp only [PsT.up] at h4 ⊢; omega) (f := fun _ => (Pm.pure (some ⟨0, true, 0, ((s.made + 1 : Nat) : Int) - 1, []⟩, m)).bind f) (fun s' => by
      show f (some ⟨0, true, 0, ((s.made + 1 : Nat) : Int) - 1, []⟩, m) log s' = _
      rw [h1, show ((s.made + 1 : Nat) : Int) - 1 = (s.made : Int) by omega]; rfl)
    exact this
  · rw [if_neg hk, if_neg hk]
    exact h2 s.up (by simp only [PsT.up]; omega) (by simp only [PsT.up]; omega)
theorem fill_sim {v w n : Int} {M0 : Nat} {f : Unit → Pm OutT} (h : ∀ s : PsT, M0 < s.made → s.made ≤ log.length → Does (segM hd tl) l S me ⟨.at_ (.sa v n w), s⟩ (f () log s) (log.drop s.made)) (s : PsT) (hM : M0 ≤ s.made) : Does (segM hd tl) l S me ⟨.at_ (.f0 v w n), s⟩ ((fillM l n v).bind f log s) (log.drop s.made) := by
  rw [fillM, bind_assoc, store_eq]
  refine does_step rfl trivial fun r1 h1 => ?_
  rw [bind_assoc, store_eq]
  refine does_step (q := ⟨.at_ (Sk.f1 v w n), s.up⟩) (s := s.up) rfl trivial fun r2 h2 => ?_
  rw [fillL, bind_assoc, store_eq]
  refine does_step (q := ⟨.at_ (Sk.f2 v w n 2), s.up.up⟩) (s := s.up.up) rfl trivial fun r3 h3 => ?_
  rw [fillL, bind_assoc, store_eq]
  refine does_step (q := ⟨.at_ (Sk.f2 v w n 3), s.up.up.up⟩) (s := s.up.up.up) rfl trivial fun r4 h4 => ?_
  rw [fillL, bind_assoc, store_eq]
  refine does_step (q := ⟨.at_ (Sk.f2 v w n 4), s.up.up.up.up⟩) (s := s.up.up.up.up) rfl trivial fun r5 h5 => ?_
  rw [fillL, bind_assoc, store_eq]
  refine does_step (q := ⟨.at_ (Sk.f2 v w n 5), s.up.up.up.up.up⟩) (s := s.up.up.up.up.up) rfl trivial fun r6 h6 => ?_
  exact h s.up.up.up.up.up.up (by simp only [PsT.up]; omega) (by simp only [PsT.up] at h6 ⊢; omega)
theorem attS_sim {v m : Int} {M0 : Nat} {f : Option OutT × Int → Pm OutT}
    (h1 : ∀ (o : OutT) (m : Int) (s : PsT), f (some o, m) log s = .ok (o, s))
    (h2 : ∀ (m : Int) (s : PsT), M0 < s.made → s.made ≤ log.length → Does (segM hd tl) l S me ⟨.g1 (.sg v m) 0 (.ob tl), s⟩ (f (none, m) log s) (log.drop s.made))
    (s : PsT) (hM : M0 ≤ s.made) (hs0 : s.made ≤ log.length) : Does (segM hd tl) l S me ⟨.g1 (.sg v m) 0 (.ob tl), s⟩ ((attS l me tl v m).bind f log s) (log.drop s.made) := by
  rw [attS, bind_assoc]
  refine guard_sim (M0 := M0) (c := .ob tl) (fun w a s hM hs => ?_) (log.length + 1 - s.made) s hM (by omega)
  show Does (segM hd tl) l S me ⟨.at_ (.sl v m w 1), s⟩ _ _
  rw [bind_assoc, places5_eq]
  refine placesS_sim (M0 := M0) (fun a s hM hs => ?_) (fun s hM hs => ?_) 4 1 s (by omega) hM
  · simp only
    by_cases hm : m = 0
    · rw [if_pos hm, if_pos hm, bind_assoc]
      exact fi_sim hs (fun s => h1 _ _ s)
    · rw [if_neg hm, if_neg hm, bind_assoc]
      refine give_sim (k := Sk.sv a) (n := m) (M0 := s.made) (fun s _ hs => ?_) (log.length + 1 - s.made) s (Nat.le_refl _) (by omega)
      rw [bind_assoc]
      exact fi_sim hs (fun s => h1 _ _ s)
  · simp only
    rw [bind_assoc, load_eq]
    refine does_step rfl trivial fun r h3 => ?_
    show Does (segM hd tl) l S me (norm (segM hd tl) (if r.val = 0 then (if m = 0 then _ else _) else _) s.up) _ _
    by_cases h0 : r.val = 0
    · rw [if_pos h0, if_pos h0]
      by_cases hm : m = 0
      · rw [if_pos hm, if_pos hm, bind_assoc]
        refine take_sim (M0 := s.up.made) (k := Sk.tk v w) (fun n a s' hM' hs' => ?_) (fun a s' hM' hs' => ?_) (log.length + 1 - s.up.made) s.up (Nat.le_refl _) (by simp only [PsT.up]; omega)
        · simp only [if_true]
          rw [bind_assoc]
          show Does (segM hd tl) l S me ⟨.at_ (.f0 v w n), s'⟩ _ _
          refine fill_sim (M0 := s'.made) (fun s2 hM2 hs2 => ?_) s' (Nat.le_refl _)
          exact attS2_sim (M0 := s2.made) (fun o s => h1 o n s) (fun s3 hM3 hs3 => h2 n s3 (by simp only [PsT.up] at *; omega) hs3) s2 (Nat.le_refl _)
        · simp only [Bool.false_eq_true, if_false]
          rw [bind_assoc]
          exact fi_sim hs' (fun s => h1 _ _ s)
      · rw [if_neg hm, if_neg hm]
        exact attS2_sim (M0 := s.up.made) (fun o s => h1 o m s) (fun s3 hM3 hs3 => h2 m s3 (by simp only [PsT.up] at *; omega) hs3) s.up (Nat.le_refl _)
    · rw [if_neg h0, if_neg h0, bind_assoc, cas_eq]
      refine does_step (q := ⟨.at_ (Sk.st v m w r.val), s.up⟩) (s := s.up) rfl trivial fun r2 h4 => ?_
      exact h2 m s.up.up (by simp only [PsT.up]; omega) (by simp only [PsT.up] at h4 ⊢; omega)
theorem send_sim {v : Int} : ∀ (k : Nat) (m : Int) (s : PsT), s.made ≤ log.length → log.length - s.made < k → Does (segM hd tl) l S me ⟨.g1 (.sg v m) 0 (.ob tl), s⟩ (sendL l me tl v k m log s) (log.drop s.made)
  | 0, m, s, _, h => by omega
  | k + 1, m, s, hs, h => by
    rw [sendL]
    exact attS_sim (M0 := s.made) (fun o m s => rfl) (fun m s2 hM hs2 => send_sim k m s2 hs2 (by omega)) s (Nat.le_refl _) hs
theorem placesR_sim {w : Int} {M0 : Nat} {f : Option OutT → Pm OutT}
    (h1 : ∀ (o : OutT) (s : PsT), M0 < s.made → s.made ≤ log.length → Does (segM hd tl) l S me (norm (segM hd tl) (.clr (.fi o)) s) (f (some o) log s) (log.drop s.made))
    (h2 : ∀ s : PsT, M0 < s.made → s.made ≤ log.length → Does (segM hd tl) l S me ⟨.at_ (.rn w), s⟩ (f none log s) (log.drop s.made)) :
    ∀ (k : Nat) (i : Int) (s : PsT), i + k = 5 → M0 ≤ s.made → Does (segM hd tl) l S me ⟨.at_ (.rl w i), s⟩ ((placesR l (ofW w).idx ((List.range (k + 1)).map fun (j : Nat) => i + j)).bind f log s) (log.drop s.made) := by
  intro k
  -- one place, whatever comes behind
  have one : ∀ (i : Int) (is : List Int) (s : PsT), M0 ≤ s.made → (∀ s', M0 < s'.made → s'.made ≤ log.length → Does (segM hd tl) l S me (norm (segM hd tl) (nextR w i) s') ((placesR l (ofW w).idx is).bind f log s') (log.drop s'.made)) → Does (segM hd tl) l S me ⟨.at_ (.rl w i), s⟩ ((placesR l (ofW w).idx (i :: is)).bind f log s) (log.drop s.made) := by
    intro i is s hM hn
    rw [placesR, bind_assoc, load_eq]
    refine does_step rfl trivial fun r h3 => ?_
    rw [bind_assoc, bind_ok last_ok]
    show Does (segM hd tl) l S me (norm (segM hd tl) (if r.val = 0 then _ else if r.val = 1 then _ else _) s.up) _ _
    by_cases h0 : r.val = 0
    · rw [if_pos h0, if_pos h0]
      have := h1 (noO s.made) s.up (by simp only [PsT.up]; omega) (by simp only [PsT.up]; omega)
      show Does (segM hd tl) l S me _ (f (some ⟨0, false, 0, ((s.made + 1 : Nat) : Int) - 1, []⟩) log s.up) _
      rw [show ((s.made + 1 : Nat) : Int) - 1 = (s.made : Int) by omega]
      exact this
    · rw [if_neg h0, if_neg h0]
      by_cases h4 : r.val = 1
      · rw [if_pos h4, if_pos h4]
        exact hn s.up (by simp only [PsT.up]; omega) (by simp only [PsT.up]; omega)
      · rw [if_neg h4, if_neg h4, bind_assoc, cas_eq]
        refine does_step (q := ⟨.at_ (Sk.rc w i r.val), s.up⟩) (s := s.up) rfl trivial fun r2 h5 => ?_
        show Does (segM hd tl) l S me (norm (segM hd tl) (if r2.ok then _ else _) s.up.up) _ _
        by_cases hk : r2.ok = true
        · rw [if_pos hk, if_pos hk, bind_assoc, bind_ok last_ok]
          have := h1 ⟨w64 (r.val - 2), true, 0, s.up.made, []⟩ s.up.up (by simp only [PsT.up]; omega) (by simp only [PsT.up] at h5 ⊢; omega)
          show Does (segM hd tl) l S me _ (f (some ⟨w64 (r.val - 2), true, 0, ((s.up.made + 1 : Nat) : Int) - 1, []⟩) log s.up.up) _
          rw [show ((s.up.made + 1 : Nat) : Int) - 1 = (s.up.made : Int) by omega]
          exact this
        · rw [if_neg hk, if_neg hk]
          exact hn s.up.up (by simp only [PsT.up]; omega) (by simp only [PsT.up] at h5 ⊢; omega)
  induction k with
  | zero =>
    intro i s hi hM
    rw [show ((List.range (0 + 1)).map fun (j : Nat) => i + (j : Int)) = [i] by simp]
    refine one i [] s hM fun s' hM' hs' => ?_
    unfold nextR
    rw [if_neg (by omega)]
    exact h2 s' hM' hs'
  | succ k ih =>
    intro i s hi hM
    have hr : ((List.range (k + 1 + 1)).map fun (j : Nat) => i + (j : Int)) = i :: ((List.range (k + 1)).map fun (j : Nat) => (i + 1) + (j : Int)) := by
      rw [List.range_succ_eq_map]
      simp only [List.map_cons, List.map_map]
      congr 1
      · simp
      · apply List.map_congr_left
        intro j _
        simp only [Function.comp]
        omega
    rw [hr]
    refine one i _ s hM fun s' hM' hs' => ?_
    unfold nextR
    rw [if_pos (by omega)]
    exact ih (i + 1) s' (by omega) (by omega)
theorem attR2_sim (hS : l.seats = (S : Int)) {w nx : Int} {M0 : Nat} {f : Option OutT → Pm OutT}
    (h2 : ∀ s : PsT, M0 < s.made → s.made ≤ log.length → Does (segM hd tl) l S me ⟨.g1 .rg 0 (.ob hd), s⟩ (f none log s) (log.drop s.made))
    (s : PsT) (hM : M0 ≤ s.made) : Does (segM hd tl) l S me ⟨.at_ (.rh w nx), s⟩ ((attR2 l me hd w nx).bind f log s) (log.drop s.made) := by
  rw [attR2, bind_assoc, cas_eq]
  refine does_step rfl trivial fun r h3 => ?_
  show Does (segM hd tl) l S me (norm (segM hd tl) (if r.ok then _ else _) s.up) _ _
  by_cases hk : r.ok = true
  · rw [if_pos hk, if_pos hk, bind_assoc]
    refine clear_sim (M0 := s.up.made) (fun s1 _ _ _ hM1 hs1 => ?_) s.up (Nat.le_refl _) (by simp only [PsT.up]; omega)
    rw [bind_assoc]
    show Does (segM hd tl) l S me ⟨.r1 .rr (ofW w).idx, s1⟩ _ _
    refine retire_sim hS (M0 := s1.made) (fun s2 hM2 hs2 => ?_) s1 (Nat.le_refl _)
    exact h2 s2 (by simp only [PsT.up] at hM1; omega) hs2
  · rw [if_neg hk, if_neg hk]
    exact h2 s.up (by simp only [PsT.up]; omega) (by simp only [PsT.up]; omega)
theorem attR_sim (hS : l.seats = (S : Int)) {M0 : Nat} {f : Option OutT → Pm OutT}
    (h1 : ∀ (o : OutT) (s : PsT), f (some o) log s = .ok (o, s))
    (h2 : ∀ s : PsT, M0 < s.made → s.made ≤ log.length → Does (segM hd tl) l S me ⟨.g1 .rg 0 (.ob hd), s⟩ (f none log s) (log.drop s.made))
    (s : PsT) (hM : M0 ≤ s.made) (hs0 : s.made ≤ log.length) : Does (segM hd tl) l S me ⟨.g1 .rg 0 (.ob hd), s⟩ ((attR l me hd tl).bind f log s) (log.drop s.made) := by
  rw [attR, bind_assoc]
  refine guard_sim (M0 := M0) (c := .ob hd) (fun w a s hM hs => ?_) (log.length + 1 - s.made) s hM (by omega)
  show Does (segM hd tl) l S me ⟨.at_ (.rl w 1), s⟩ _ _
  rw [bind_assoc, places5_eq]
  refine placesR_sim (M0 := M0) (fun o s hM hs => ?_) (fun s hM hs => ?_) 4 1 s (by omega) hM
  · simp only
    rw [bind_assoc]
    exact fi_sim hs (fun s => h1 _ s)
  · simp only
    rw [bind_assoc, load_eq]
    refine does_step rfl trivial fun r h3 => ?_
    show Does (segM hd tl) l S me (norm (segM hd tl) (if r.val = 0 then _ else _) s.up) _ _
    by_cases h0 : r.val = 0
    · rw [if_pos h0, if_pos h0, bind_assoc, bind_ok last_ok, bind_assoc]
      refine fi_sim (by simp only [PsT.up]; omega) (fun s' => ?_)
      show f (some ⟨0, false, 0, ((s.made + 1 : Nat) : Int) - 1, []⟩) log s' = _
      rw [h1, show ((s.made + 1 : Nat) : Int) - 1 = (s.made : Int) by omega]; rfl
    · rw [if_neg h0, if_neg h0, bind_assoc, load_eq]
      refine does_step (q := ⟨.at_ (Sk.re w r.val), s.up⟩) (s := s.up) rfl trivial fun r2 h4 => ?_
      show Does (segM hd tl) l S me (norm (segM hd tl) (if (ofW r2.val).idx = (ofW w).idx then _ else _) s.up.up) _ _
      by_cases he : (ofW r2.val).idx = (ofW w).idx
      · rw [if_pos he, if_pos he, bind_assoc, cas_eq]
        refine does_step (q := ⟨.at_ (Sk.rt w r.val r2.val), s.up.up⟩) (s := s.up.up) rfl trivial fun r3 h5 => ?_
        exact attR2_sim hS (M0 := M0) h2 s.up.up.up (by simp only [PsT.up]; omega)
      · rw [if_neg he, if_neg he]
        exact attR2_sim hS (M0 := M0) h2 s.up.up (by simp only [PsT.up]; omega)
theorem recv_sim (hS : l.seats = (S : Int)) : ∀ (k : Nat) (s : PsT), s.made ≤ log.length → log.length - s.made < k → Does (segM hd tl) l S me ⟨.g1 .rg 0 (.ob hd), s⟩ (recvL l me hd tl k log s) (log.drop s.made)
  | 0, s, _, h => by omega
  | k + 1, s, hs, h => by
    rw [recvL]
    exact attR_sim hS (M0 := s.made) (fun o s => rfl) (fun s2 hM hs2 => recv_sim hS k s2 hs2 (by omega)) s (Nat.le_refl _) hs
end
/-- Where an operation's program begins. -/
def startQ (hd tl : Int) (op : OpT) (gone : List (Int × Int)) : Q Sk := ⟨if op.kind = 6 then .g1 (.sg op.a 0) 0 (.ob tl) else .g1 .rg 0 (.ob hd), ⟨0, gone, 0, 0, 0⟩⟩
/-- What an operation's program does next: by the machine. -/
theorem next_run {l : LayT} {S : Nat} {me : Int} (hS : l.seats = (S : Int)) {gone : List (Int × Int)} {op : OpT} {log : List ResT} (hh : ¬ headF l op.obj < 0) (hk : op.kind = 6 ∨ op.kind = 7) :
    nextF l me gone op log = endQ (segM (headF l op.obj) (tailF l op.obj)) l me (runQ (segM (headF l op.obj) (tailF l op.obj)) S (startQ (headF l op.obj) (tailF l op.obj) op gone) log) := by
  unfold nextF
  rw [if_neg hh]
  rcases hk with hk | hk
  · rw [if_pos hk]
    unfold startQ
    rw [if_pos hk]
    have := send_sim (hd := headF l op.obj) (l := l) (S := S) (me := me) (log := log) (tl := tailF l op.obj) (v := op.a) (log.length + 1) 0 ⟨0, gone, 0, 0, 0⟩ (by simp) (by simp)
    exact this
  · rw [if_neg (by omega), if_pos hk]
    unfold startQ
    rw [if_neg (by omega)]
    have := recv_sim (hd := headF l op.obj) (l := l) (S := S) (me := me) (log := log) (tl := tailF l op.obj) hS (log.length + 1) ⟨0, gone, 0, 0, 0⟩ (by simp) (by simp)
    exact this
end Go.Proofs.Ytgoijmomglomlaa
/- Channels of segments: what holds of their memory, and what programs know. -/
namespace Go.Proofs.Ytgoijmomglomlaa
set_option maxRecDepth 100000

/-! ### Rows of places: those received, values, and nothing -/
theorem rep_get {n i : Nat} {x y : Int} (h : (List.replicate n x)[i]? = some y) : y = x := by
  rw [List.getElem?_replicate] at h
  split at h
  · cases h; rfl
  · cases h
/-- The first place that has nothing. -/
theorem row_fill {L A : List Int} {c p : Nat} {x : Int} (hL : L = A ++ List.replicate c 0) (hA : ∀ v ∈ A, v ≠ 0) (h0 : L[p]? = some 0) (hn : ∀ q, A.length ≤ q → q < p → L[q]? ≠ some 0) : p = A.length ∧ 0 < c ∧ L.set p x = (A ++ [x]) ++ List.replicate (c - 1) 0 := by
  subst hL
  have h1 : A.length ≤ p := by
    rcases Nat.lt_or_ge p A.length with h | h
    · rw [List.getElem?_append_left h] at h0
      exact absurd rfl (hA 0 (List.mem_of_getElem? h0))
    · exact h
  have hp : p < A.length + c := by
    have := (List.getElem?_eq_some_iff.1 h0).1
    simpa using this
  have h2 : p = A.length := by
    rcases Nat.lt_or_ge A.length p with h | h
    · exfalso
      refine hn A.length (Nat.le_refl _) h ?_
      rw [List.getElem?_append_right (Nat.le_refl _), Nat.sub_self, List.getElem?_replicate, if_pos (by omega)]
    · omega
  refine ⟨h2, by omega, ?_⟩
  obtain ⟨d, rfl⟩ : ∃ d, c = d + 1 := ⟨c - 1, by omega⟩
  rw [h2, List.set_append_right _ _ (Nat.le_refl _), Nat.sub_self, List.replicate_succ, List.set_cons_zero]
  simp
/-- The first value. -/
theorem row_take {L vs : List Int} {a c p : Nat} {x : Int} (hL : L = List.replicate a 1 ++ (vs ++ List.replicate c 0)) (hv : ∀ v ∈ vs, 2 ≤ v) (hx : L[p]? = some x) (h2 : 2 ≤ x) (hn : ∀ q, q < p → L[q]? = some 1) : ∃ vs', vs = x :: vs' ∧ L.set p 1 = List.replicate (a + 1) 1 ++ (vs' ++ List.replicate c 0) := by
  subst hL
  have h1 : a ≤ p := by
    rcases Nat.lt_or_ge p a with h | h
    · rw [List.getElem?_append_left (by simpa using h)] at hx
      have := rep_get hx
      omega
    · exact h
  have h3 : p ≤ a := by
    rcases Nat.lt_or_ge a p with h | h
    · exfalso
      have h4 := hn a h
      rw [List.getElem?_append_right (by simp), List.length_replicate, Nat.sub_self] at h4
      cases vs with
      | nil =>
        have := rep_get (x := 0) (by simpa using h4)
        omega
      | cons v vs =>
        simp at h4
        have := hv v (by simp)
        omega
    · exact h
  have hp : p = a := by omega
  subst hp
  rw [List.getElem?_append_right (by simp), List.length_replicate, Nat.sub_self] at hx
  cases vs with
  | nil =>
    have := rep_get (x := 0) (by simpa using hx)
    omega
  | cons v vs =>
    simp at hx
    subst hx
    refine ⟨vs, rfl, ?_⟩
    rw [List.set_append_right _ _ (by simp), List.length_replicate, Nat.sub_self]
    simp [List.replicate_succ', List.append_assoc]
/-- No value. -/
theorem row_none {L vs : List Int} {a c p : Nat} (hL : L = List.replicate a 1 ++ (vs ++ List.replicate c 0)) (hv : ∀ v ∈ vs, 2 ≤ v) (hx : L[p]? = some 0 ∨ p = L.length) (hn : ∀ q, q < p → L[q]? = some 1) : vs = [] := by
  cases vs with
  | nil => rfl
  | cons v vs =>
    exfalso
    have h2 := hv v (by simp)
    have hv' : L[a]? = some v := by rw [hL, List.getElem?_append_right (by simp)]; simp
    have hlt := (List.getElem?_eq_some_iff.1 hv').1
    rcases Nat.lt_or_ge a p with h | h
    · have := hn a h
      rw [hv'] at this
      cases this
      omega
    · rcases hx with hx | hx
      · rcases Nat.lt_or_ge p a with h3 | h3
        · rw [hL, List.getElem?_append_left (by simpa using h3)] at hx
          have := rep_get hx
          omega
        · have : p = a := by omega
          subst this
          rw [hv'] at hx
          cases hx
          omega
      · omega
def plc (W : Ws) (n : Int) : List Int := [W.nd n 1, W.nd n 2, W.nd n 3, W.nd n 4, W.nd n 5]
def seqW (W : Ws) (X : List Int) : List Int := X.flatMap (plc W)
theorem seq_len (W : Ws) : ∀ X : List Int, (seqW W X).length = 5 * X.length
  | [] => rfl
  | x :: X => by
    have := seq_len W X
    unfold seqW at this ⊢
    rw [List.flatMap_cons, List.length_append, this]
    simp [plc]
    omega
theorem seq_app (W : Ws) (X Y : List Int) : seqW W (X ++ Y) = seqW W X ++ seqW W Y := by simp [seqW]
theorem seq_cons (W : Ws) (n : Int) (Y : List Int) : seqW W (n :: Y) = plc W n ++ seqW W Y := rfl
theorem plc_get {W : Ws} {n i : Int} (i1 : 1 ≤ i) (i5 : i ≤ 5) : (plc W n)[(i - 1).toNat]? = some (W.nd n i) := by
  have : i = 1 ∨ i = 2 ∨ i = 3 ∨ i = 4 ∨ i = 5 := by omega
  rcases this with rfl | rfl | rfl | rfl | rfl <;> rfl
theorem plc_set {W : Ws} {n i v : Int} (i1 : 1 ≤ i) (i5 : i ≤ 5) : plc (W.setNd n i v) n = (plc W n).set (i - 1).toNat v := by
  have : i = 1 ∨ i = 2 ∨ i = 3 ∨ i = 4 ∨ i = 5 := by omega
  rcases this with rfl | rfl | rfl | rfl | rfl <;> simp [plc, Ws.setNd]
theorem plc_other {W : Ws} {n m i v : Int} (h : m ≠ n) : plc (W.setNd n i v) m = plc W m := by simp [plc, Ws.setNd, h]
theorem seq_other {W : Ws} {n i v : Int} : ∀ {X : List Int}, n ∉ X → seqW (W.setNd n i v) X = seqW W X
  | [], _ => rfl
  | x :: X, h => by
    rw [List.mem_cons] at h
    rw [seq_cons, seq_cons, plc_other (fun e => h (.inl e.symm)), seq_other (fun e => h (.inr e))]
theorem seq_at {W : Ws} {A B : List Int} {n i : Int} (i1 : 1 ≤ i) (i5 : i ≤ 5) : (seqW W (A ++ n :: B))[5 * A.length + (i - 1).toNat]? = some (W.nd n i) := by
  rw [seq_app, List.getElem?_append_right (by rw [seq_len]; omega), seq_len, Nat.add_sub_cancel_left, seq_cons, List.getElem?_append_left (by simp [plc]; omega)]
  exact plc_get i1 i5
theorem seq_set {W : Ws} {A B : List Int} {n i v : Int} (hA : n ∉ A) (hB : n ∉ B) (i1 : 1 ≤ i) (i5 : i ≤ 5) : seqW (W.setNd n i v) (A ++ n :: B) = (seqW W (A ++ n :: B)).set (5 * A.length + (i - 1).toNat) v := by
  rw [seq_app, seq_app, seq_cons, seq_cons, seq_other hA, seq_other hB, plc_set i1 i5, List.set_append_right _ _ (by rw [seq_len]; omega), seq_len, Nat.add_sub_cancel_left, List.set_append_left _ _ (by simp [plc]; omega)]
theorem plc_set0 {W : Ws} {n v : Int} (m : Int) : plc (W.setNd n 0 v) m = plc W m := by simp [plc, Ws.setNd]
theorem seq_set0 {W : Ws} {n v : Int} (X : List Int) : seqW (W.setNd n 0 v) X = seqW W X := by
  unfold seqW
  congr 1
  funext m
  exact plc_set0 m
theorem linked_get {nx : Int → Int} : ∀ {X : List Int} {j : Nat} {t : Int}, Linked nx X → X[j]? = some t → nx t = (X[j + 1]?).getD 0
  | [], j, t, _, h => by simp at h
  | x :: X, 0, t, hl, h => by
    simp at h
    subst h
    rw [hl.1]
    cases X <;> rfl
  | x :: X, j + 1, t, hl, h => by
    have := linked_get (j := j) hl.2 (by simpa using h)
    simpa using this
theorem linked_snoc {nx nx' : Int → Int} {n m : Int} : ∀ {X : List Int}, Linked nx (X ++ [n]) → (∀ x ∈ X, nx' x = nx x) → nx' n = m → nx' m = 0 → Linked nx' (X ++ [n] ++ [m])
  | [], h, hs, h1, h2 => ⟨h1, h2, trivial⟩
  | x :: X, h, hs, h1, h2 => by
    refine ⟨?_, linked_snoc h.2 (fun y hy => hs y (by simp [hy])) h1 h2⟩
    rw [hs x (by simp), h.1]
    cases X <;> rfl

/-! ### What holds -/
def Old (W : Ws) (n : Int) : Prop := (∀ i, 1 ≤ i → i ≤ 5 → W.nd n i = 1) ∧ W.nd n 0 ≠ 0
def Full (W : Ws) (n : Int) : Prop := ∀ i, 1 ≤ i → i ≤ 5 → W.nd n i ≠ 0
def AllOne (W : Ws) (n : Int) : Prop := ∀ i, 1 ≤ i → i ≤ 5 → W.nd n i = 1
def VOk (v : Int) : Prop := 0 ≤ v ∧ v < 4294967296
def NewSeg (W : Ws) (v m : Int) : Prop := W.nd m 0 = 0 ∧ W.nd m 1 = v + 2 ∧ ∀ i, 2 ≤ i → i ≤ 5 → W.nd m i = 0
def MineOk (W : Ws) (v m : Int) : Prop := 0 ≤ m ∧ (m ≠ 0 → NewSeg W v m)
/-- How many segments are gone, how many values were put in, and which are there. -/
structure SegG where
  ret : Nat
  put : Nat
  vs : List Int
section
variable (hd tl : Int) (N : Nat)
structure SegSI (K : Nat) (W : Ws) (X : List Int) (D : Int → Prop) (g : SegG) : Prop where
  head : W.ob hd = 131072 * (g.ret : Int) + X.headD 0
  rk : g.ret ≤ K
  tail : ∃ (j : Nat) (t : Int), X[j]? = some t ∧ X.length ≤ j + 2 ∧ W.ob tl = 131072 * ((g.ret : Int) + j) + t
  link : Linked (fun n => W.nd n 0) X
  seq : ∃ a c : Nat, seqW W X = List.replicate a 1 ++ (g.vs ++ List.replicate c 0) ∧ c ≤ 5 ∧ 5 * (g.ret + X.length) = g.put + c
  vs : ∀ v ∈ g.vs, 2 ≤ v ∧ v < 4294967298
  old : ∀ n, D n → Old W n
  rng : ∀ n ∈ X, 1 ≤ n ∧ n ≤ (N : Int)
def SW (W : Ws) (P : Int → Int → Prop) (w : Int) : Prop := Seen N w (W.ob tl) ∧ 1 ≤ (ofW w).idx ∧ P 0 (ofW w).idx ∧ (W.ob tl ≠ w → W.nd (ofW w).idx 0 ≠ 0)
def RW (W : Ws) (P : Int → Int → Prop) (w : Int) : Prop := Seen N w (W.ob hd) ∧ 1 ≤ (ofW w).idx ∧ P 0 (ofW w).idx ∧ (W.ob hd ≠ w → Old W (ofW w).idx)
def segKL (W : Ws) (P : Int → Int → Prop) : Sk → Prop
  | .sg v m => VOk v ∧ MineOk W v m
  | .sl v m w i => VOk v ∧ MineOk W v m ∧ SW tl N W P w ∧ 1 ≤ i ∧ i ≤ 5 ∧ ∀ j, 1 ≤ j → j < i → W.nd (ofW w).idx j ≠ 0
  | .sc v m w i => VOk v ∧ MineOk W v m ∧ SW tl N W P w ∧ 1 ≤ i ∧ i ≤ 5 ∧ ∀ j, 1 ≤ j → j < i → W.nd (ofW w).idx j ≠ 0
  | .sn v m w => VOk v ∧ MineOk W v m ∧ SW tl N W P w ∧ Full W (ofW w).idx
  | .st v m w nx => VOk v ∧ MineOk W v m ∧ Seen N w (W.ob tl) ∧ nx ≠ 0 ∧ (W.ob tl = w → W.nd (ofW w).idx 0 = nx)
  | .tk v w => VOk v ∧ SW tl N W P w ∧ Full W (ofW w).idx
  | .f0 v w n => VOk v ∧ SW tl N W P w ∧ Full W (ofW w).idx ∧ 1 ≤ n
  | .f1 v w n => VOk v ∧ SW tl N W P w ∧ Full W (ofW w).idx ∧ 1 ≤ n ∧ W.nd n 0 = 0
  | .f2 v w n i => VOk v ∧ SW tl N W P w ∧ Full W (ofW w).idx ∧ 1 ≤ n ∧ W.nd n 0 = 0 ∧ W.nd n 1 = v + 2 ∧ 2 ≤ i ∧ i ≤ 5 ∧ ∀ j, 2 ≤ j → j < i → W.nd n j = 0
  | .sa v m w => VOk v ∧ SW tl N W P w ∧ Full W (ofW w).idx ∧ 1 ≤ m ∧ NewSeg W v m
  | .sb w m _ => Seen N w (W.ob tl) ∧ m ≠ 0 ∧ (W.ob tl = w → W.nd (ofW w).idx 0 = m)
  | .rl w i => RW hd N W P w ∧ 1 ≤ i ∧ i ≤ 5 ∧ ∀ j, 1 ≤ j → j < i → W.nd (ofW w).idx j = 1
  | .rc w i x => RW hd N W P w ∧ 1 ≤ i ∧ i ≤ 5 ∧ (∀ j, 1 ≤ j → j < i → W.nd (ofW w).idx j = 1) ∧ 2 ≤ x ∧ (W.nd (ofW w).idx i = x ∨ W.nd (ofW w).idx i = 1)
  | .rn w => RW hd N W P w ∧ AllOne W (ofW w).idx
  | .re w nx => RW hd N W P w ∧ AllOne W (ofW w).idx ∧ nx ≠ 0 ∧ W.nd (ofW w).idx 0 = nx
  | .rt w nx en => RW hd N W P w ∧ AllOne W (ofW w).idx ∧ nx ≠ 0 ∧ W.nd (ofW w).idx 0 = nx ∧ Seen N en (W.ob tl) ∧ (ofW en).idx = (ofW w).idx ∧ (W.ob hd = w → W.ob tl = en ∨ (ofW (W.ob tl)).idx ≠ (ofW w).idx)
  | .rh w nx => RW hd N W P w ∧ AllOne W (ofW w).idx ∧ nx ≠ 0 ∧ W.nd (ofW w).idx 0 = nx ∧ (W.ob hd = w → (ofW (W.ob tl)).idx ≠ (ofW w).idx)
  | _ => True
def segGL (W : Ws) (P : Int → Int → Prop) : Sk → Int → Prop
  | .sg _ _, w => SW tl N W P w
  | .rg, w => RW hd N W P w
  | _, _ => True
def mineL (m : Int) : List Int := if m = 0 then [] else [m]
def segNx (W : Ws) (X : List Int) (g : SegG) : Sk → List Int × SegG
  | .sc v _ w i => if W.nd (ofW w).idx i = 0 then (X, { g with put := g.put + 1, vs := g.vs ++ [v + 2] }) else (X, g)
  | .sa v m w => if W.nd (ofW w).idx 0 = 0 then (X ++ [m], { g with put := g.put + 1, vs := g.vs ++ [v + 2] }) else (X, g)
  | .rc w i x => if W.nd (ofW w).idx i = x then (X, { g with vs := g.vs.tail }) else (X, g)
  | .rh w _ => if W.ob hd = w then (X.tail, { g with ret := g.ret + 1 }) else (X, g)
  | _ => (X, g)
def segZ : Sp Sk SegG where
  mine := fun k => match k with
    | .sg _ m | .sl _ m _ _ | .sc _ m _ _ | .sn _ m _ | .st _ m _ _ => mineL m
    | .f0 _ _ n | .f1 _ _ n | .f2 _ _ n _ | .sa _ n _ => [n]
    | _ => []
  dead := fun k => match k with
    | .rx n => [n]
    | _ => []
  zero := fun _ => False
  gad := fun k i c => i = 0 ∧ match k with
    | .sg _ _ => c = .ob tl
    | .rg => c = .ob hd
    | _ => False
  SI := SegSI hd tl N
  KL := fun W _ _ P k => segKL hd tl N W P k
  GL := fun W _ _ P k _ _ v => segGL hd tl N W P k v
  nx := segNx hd

/-! ### What others see of a step -/
structure Evo (W W' : Ws) (X : List Int) (D : Int → Prop) (mi : List Int) : Prop where
  tX : (ofW (W.ob tl)).idx ∈ X
  tl : W'.ob tl = W.ob tl ∨ (W'.ob tl / 131072 = W.ob tl / 131072 + 1 ∧ W.nd (ofW (W.ob tl)).idx 0 ≠ 0 ∧ (ofW (W'.ob tl)).idx ≠ (ofW (W.ob hd)).idx)
  hd : W'.ob hd = W.ob hd ∨ (W'.ob hd / 131072 = W.ob hd / 131072 + 1 ∧ Old W' (ofW (W.ob hd)).idx)
  pl : ∀ n, n ∈ X ∨ D n → ∀ i, 1 ≤ i → i ≤ 5 → W'.nd n i = W.nd n i ∨ (W.nd n i = 0 ∧ W'.nd n i ≠ 0) ∨ (2 ≤ W.nd n i ∧ W'.nd n i = 1)
  nx : ∀ n, n ∈ X ∨ D n → W'.nd n 0 = W.nd n 0 ∨ (W.nd n 0 = 0 ∧ W'.nd n 0 ≠ 0)
  mi : ∀ n, n ∉ X → ¬ D n → n ∉ mi → ∀ i, W'.nd n i = W.nd n i
end
section
variable {hd tl : Int} {N : Nat} {W W' : Ws} {X : List Int} {D : Int → Prop} {mi : List Int} (hE : Evo hd tl W W' X D mi)
include hE
theorem Evo.full {n : Int} (hn : n ∈ X ∨ D n) (h : Full W n) : Full W' n := fun i i1 i5 => by
  rcases hE.pl n hn i i1 i5 with e | ⟨e, _⟩ | ⟨_, e⟩
  · rw [e]; exact h i i1 i5
  · exact absurd e (h i i1 i5)
  · rw [e]; omega
theorem Evo.nz {n : Int} (hn : n ∈ X ∨ D n) {i : Int} (h : ∀ j, 1 ≤ j → j < i → W.nd n j ≠ 0) (i5 : i ≤ 5) : ∀ j, 1 ≤ j → j < i → W'.nd n j ≠ 0 := fun j j1 ji => by
  rcases hE.pl n hn j j1 (by omega) with e | ⟨e, _⟩ | ⟨_, e⟩
  · rw [e]; exact h j j1 ji
  · exact absurd e (h j j1 ji)
  · rw [e]; omega
theorem Evo.one {n : Int} (hn : n ∈ X ∨ D n) {i : Int} (i1 : 1 ≤ i) (i5 : i ≤ 5) (h : W.nd n i = 1) : W'.nd n i = 1 := by
  rcases hE.pl n hn i i1 i5 with e | ⟨e, _⟩ | ⟨_, e⟩
  · rw [e]; exact h
  · omega
  · exact e
theorem Evo.next {n : Int} (hn : n ∈ X ∨ D n) (h : W.nd n 0 ≠ 0) : W'.nd n 0 = W.nd n 0 := by
  rcases hE.nx n hn with e | ⟨e, _⟩
  · exact e
  · exact absurd e h
theorem Evo.old {n : Int} (hn : n ∈ X ∨ D n) (h : Old W n) : Old W' n := ⟨fun i i1 i5 => hE.one hn i1 i5 (h.1 i i1 i5), by rw [hE.next hn h.2]; exact h.2⟩
theorem Evo.seenT {w : Int} (h : Seen N w (W.ob tl)) : Seen N w (W'.ob tl) := by
  rcases hE.tl with e | ⟨e, _⟩
  · rw [e]; exact h
  · exact h.up e
theorem Evo.sameT {w : Int} (h : Seen N w (W.ob tl)) (e : W'.ob tl = w) : W.ob tl = w := by
  rcases hE.tl with e' | ⟨e', _⟩
  · rw [← e']; exact e
  · exact absurd e (h.ne e')
theorem Evo.seenH {w : Int} (h : Seen N w (W.ob hd)) : Seen N w (W'.ob hd) := by
  rcases hE.hd with e | ⟨e, _⟩
  · rw [e]; exact h
  · exact h.up e
theorem Evo.sameH {w : Int} (h : Seen N w (W.ob hd)) (e : W'.ob hd = w) : W.ob hd = w := by
  rcases hE.hd with e' | ⟨e', _⟩
  · rw [← e']; exact e
  · exact absurd e (h.ne e')
theorem Evo.sw {P : Int → Int → Prop} (hP : ∀ i n, P i n → n ∈ X ∨ D n) {w : Int} (h : SW tl N W P w) : SW tl N W' P w := by
  obtain ⟨h1, h2, h3, h4⟩ := h
  refine ⟨hE.seenT h1, h2, h3, fun e => ?_⟩
  have hn : W.nd (ofW w).idx 0 ≠ 0 := by
    by_cases hc : W.ob tl = w
    · rcases hE.tl with e' | ⟨_, e', _⟩
      · exact absurd (e'.trans hc) e
      · rw [hc] at e'; exact e'
    · exact h4 hc
  rw [hE.next (hP _ _ h3) hn]; exact hn
theorem Evo.rw {P : Int → Int → Prop} (hP : ∀ i n, P i n → n ∈ X ∨ D n) {w : Int} (h : RW hd N W P w) : RW hd N W' P w := by
  obtain ⟨h1, h2, h3, h4⟩ := h
  refine ⟨hE.seenH h1, h2, h3, fun e => ?_⟩
  by_cases hc : W.ob hd = w
  · rcases hE.hd with e' | ⟨_, e'⟩
    · exact absurd (e'.trans hc) e
    · rw [hc] at e'; exact e'
  · exact hE.old (hP _ _ h3) (h4 hc)
theorem Evo.new {v m : Int} (hm : m ∉ X ∧ ¬ D m ∧ m ∉ mi) (h : NewSeg W v m) : NewSeg W' v m := by
  have e := hE.mi m hm.1 hm.2.1 hm.2.2
  exact ⟨by rw [e]; exact h.1, by rw [e]; exact h.2.1, fun i i2 i5 => by rw [e]; exact h.2.2 i i2 i5⟩
theorem Evo.mine {v m : Int} (hm : ∀ n ∈ mineL m, n ∉ X ∧ ¬ D n ∧ n ∉ mi) (h : MineOk W v m) : MineOk W' v m :=
  ⟨h.1, fun h0 => hE.new (hm m (by simp [mineL, h0])) (h.2 h0)⟩
theorem Evo.kl {P : Int → Int → Prop} (hP : ∀ i n, P i n → n ∈ X ∨ D n) {k : Sk} (hm : ∀ n ∈ (segZ hd tl N).mine k, n ∉ X ∧ ¬ D n ∧ n ∉ mi) (h : segKL hd tl N W P k) : segKL hd tl N W' P k := by
  cases k <;> simp only [segKL] at h ⊢
  case sg v m => exact ⟨h.1, hE.mine hm h.2⟩
  case sl v m w i => exact ⟨h.1, hE.mine hm h.2.1, hE.sw hP h.2.2.1, h.2.2.2.1, h.2.2.2.2.1, hE.nz (hP _ _ h.2.2.1.2.2.1) h.2.2.2.2.2 h.2.2.2.2.1⟩
  case sc v m w i => exact ⟨h.1, hE.mine hm h.2.1, hE.sw hP h.2.2.1, h.2.2.2.1, h.2.2.2.2.1, hE.nz (hP _ _ h.2.2.1.2.2.1) h.2.2.2.2.2 h.2.2.2.2.1⟩
  case sn v m w => exact ⟨h.1, hE.mine hm h.2.1, hE.sw hP h.2.2.1, hE.full (hP _ _ h.2.2.1.2.2.1) h.2.2.2⟩
  case st v m w nx =>
    obtain ⟨h1, h2, h3, h4, h5⟩ := h
    refine ⟨h1, hE.mine hm h2, hE.seenT h3, h4, fun e => ?_⟩
    have e' := hE.sameT h3 e
    have h6 := h5 e'
    have hX : (ofW w).idx ∈ X := by rw [← e']; exact hE.tX
    rw [hE.next (.inl hX) (by rw [h6]; exact h4)]; exact h6
  case tk v w => exact ⟨h.1, hE.sw hP h.2.1, hE.full (hP _ _ h.2.1.2.2.1) h.2.2⟩
  case f0 v w n => exact ⟨h.1, hE.sw hP h.2.1, hE.full (hP _ _ h.2.1.2.2.1) h.2.2.1, h.2.2.2⟩
  case f1 v w n =>
    have hn := hm n (by simp [segZ])
    have e := hE.mi n hn.1 hn.2.1 hn.2.2
    exact ⟨h.1, hE.sw hP h.2.1, hE.full (hP _ _ h.2.1.2.2.1) h.2.2.1, h.2.2.2.1, by rw [e]; exact h.2.2.2.2⟩
  case f2 v w n i =>
    have hn := hm n (by simp [segZ])
    have e := hE.mi n hn.1 hn.2.1 hn.2.2
    obtain ⟨h1, h2, h3, h4, h5, h6, h7, h8, h9⟩ := h
    exact ⟨h1, hE.sw hP h2, hE.full (hP _ _ h2.2.2.1) h3, h4, by rw [e]; exact h5, by rw [e]; exact h6, h7, h8, fun j j2 ji => by rw [e]; exact h9 j j2 ji⟩
  case sa v m w =>
    have hn := hm m (by simp [segZ])
    exact ⟨h.1, hE.sw hP h.2.1, hE.full (hP _ _ h.2.1.2.2.1) h.2.2.1, h.2.2.2.1, hE.new hn h.2.2.2.2⟩
  case sb w m a =>
    obtain ⟨h3, h4, h5⟩ := h
    refine ⟨hE.seenT h3, h4, fun e => ?_⟩
    have e' := hE.sameT h3 e
    have h6 := h5 e'
    have hX : (ofW w).idx ∈ X := by rw [← e']; exact hE.tX
    rw [hE.next (.inl hX) (by rw [h6]; exact h4)]; exact h6
  case rl w i => exact ⟨hE.rw hP h.1, h.2.1, h.2.2.1, fun j j1 ji => hE.one (hP _ _ h.1.2.2.1) j1 (by omega) (h.2.2.2 j j1 ji)⟩
  case rc w i x =>
    obtain ⟨h1, h2, h3, h4, h5, h6⟩ := h
    have hn := hP _ _ h1.2.2.1
    refine ⟨hE.rw hP h1, h2, h3, fun j j1 ji => hE.one hn j1 (by omega) (h4 j j1 ji), h5, ?_⟩
    rcases h6 with h6 | h6
    · rcases hE.pl _ hn i h2 h3 with e | ⟨e, _⟩ | ⟨_, e⟩
      · exact .inl (e.trans h6)
      · omega
      · exact .inr e
    · exact .inr (hE.one hn h2 h3 h6)
  case rn w => exact ⟨hE.rw hP h.1, fun j j1 j5 => hE.one (hP _ _ h.1.2.2.1) j1 j5 (h.2 j j1 j5)⟩
  case re w nx =>
    obtain ⟨h1, h2, h3, h4⟩ := h
    have hn := hP _ _ h1.2.2.1
    exact ⟨hE.rw hP h1, fun j j1 j5 => hE.one hn j1 j5 (h2 j j1 j5), h3, by rw [hE.next hn (by rw [h4]; exact h3)]; exact h4⟩
  case rt w nx en =>
    obtain ⟨h1, h2, h3, h4, h5, h6, h7⟩ := h
    have hn := hP _ _ h1.2.2.1
    refine ⟨hE.rw hP h1, fun j j1 j5 => hE.one hn j1 j5 (h2 j j1 j5), h3, by rw [hE.next hn (by rw [h4]; exact h3)]; exact h4, hE.seenT h5, h6, fun e => ?_⟩
    have e' := hE.sameH h1.1 e
    rcases hE.tl with e2 | ⟨_, _, e2⟩
    · rw [e2]; exact h7 e'
    · rw [e'] at e2; exact .inr e2
  case rh w nx =>
    obtain ⟨h1, h2, h3, h4, h7⟩ := h
    have hn := hP _ _ h1.2.2.1
    refine ⟨hE.rw hP h1, fun j j1 j5 => hE.one hn j1 j5 (h2 j j1 j5), h3, by rw [hE.next hn (by rw [h4]; exact h3)]; exact h4, fun e => ?_⟩
    have e' := hE.sameH h1.1 e
    rcases hE.tl with e2 | ⟨_, _, e2⟩
    · rw [e2]; exact h7 e'
    · rw [e'] at e2; exact e2
theorem Evo.gl {P : Int → Int → Prop} (hP : ∀ i n, P i n → n ∈ X ∨ D n) {k : Sk} {v : Int} (h : segGL hd tl N W P k v) : segGL hd tl N W' P k v := by
  cases k <;> simp only [segGL] at h ⊢
  case sg x m => exact hE.sw hP h
  case rg => exact hE.rw hP h
end
end Go.Proofs.Ytgoijmomglomlaa
/- Channels of segments: what holds goes on from step to step. -/
namespace Go.Proofs.Ytgoijmomglomlaa
set_option maxRecDepth 100000

section
variable {hd tl : Int} {N K : Nat} {W : Ws} {X : List Int} {D : Int → Prop} {g : SegG}
theorem idx_form {c n : Int} (h0 : 0 ≤ n) (h1 : n < 65536) : (ofW (131072 * c + n)).idx = n := by rw [ofW_idx_eq]; omega
/-- The tail's node. -/
theorem SegSI.tailX (h : SegSI hd tl N K W X D g) (hN : N ≤ 100) : ∃ j : Nat, X[j]? = some (ofW (W.ob tl)).idx ∧ X.length ≤ j + 2 ∧ W.ob tl = 131072 * ((g.ret : Int) + j) + (ofW (W.ob tl)).idx := by
  obtain ⟨j, t, h1, h2, h3⟩ := h.tail
  have ht := h.rng t (List.mem_of_getElem? h1)
  have e : (ofW (W.ob tl)).idx = t := by rw [h3]; exact idx_form (by omega) (by omega)
  rw [e]
  exact ⟨j, h1, h2, h3⟩
theorem SegSI.tX (h : SegSI hd tl N K W X D g) (hN : N ≤ 100) : (ofW (W.ob tl)).idx ∈ X := by
  obtain ⟨j, h1, _⟩ := h.tailX hN
  exact List.mem_of_getElem? h1
theorem SegSI.seenT (h : SegSI hd tl N K W X D g) (hN : N ≤ 100) : Seen N (W.ob tl) (W.ob tl) := by
  obtain ⟨j, h1, h2, h3⟩ := h.tailX hN
  have ht := h.rng _ (List.mem_of_getElem? h1)
  generalize (ofW (W.ob tl)).idx = t at *
  have e : (ofW (W.ob tl)).idx = t := by rw [h3]; exact idx_form (by omega) (by omega)
  exact ⟨by omega, by rw [e]; omega, by rw [e]; omega, Int.le_refl _, fun _ => rfl⟩
theorem SegSI.ne (h : SegSI hd tl N K W X D g) : X ≠ [] := fun e => by
  obtain ⟨j, t, h1, _⟩ := h.tail
  rw [e] at h1
  simp at h1
theorem SegSI.headX (h : SegSI hd tl N K W X D g) (hN : N ≤ 100) : ∃ B, X = (ofW (W.ob hd)).idx :: B := by
  have h1 := h.head
  cases X with
  | nil => exact absurd rfl h.ne
  | cons n B =>
    have hn := h.rng n (by simp)
    have e : (ofW (W.ob hd)).idx = n := by rw [h1]; exact idx_form (by simp; omega) (by simp; omega)
    exact ⟨B, by rw [e]⟩
theorem SegSI.seenH (h : SegSI hd tl N K W X D g) (hN : N ≤ 100) : Seen N (W.ob hd) (W.ob hd) := by
  obtain ⟨B, hB⟩ := h.headX hN
  have h1 := h.head
  have hn := h.rng _ (by rw [hB]; exact List.mem_cons_self)
  have h2 : X.headD 0 = (ofW (W.ob hd)).idx := by
    generalize (ofW (W.ob hd)).idx = n at hB
    rw [hB]; rfl
  rw [h2] at h1
  exact ⟨by omega, by omega, by omega, Int.le_refl _, fun _ => rfl⟩
theorem split_mem {n : Int} (h : n ∈ X) (hd : X.Nodup) : ∃ A B, X = A ++ n :: B ∧ n ∉ A ∧ n ∉ B := by
  obtain ⟨A, B, rfl⟩ := List.append_of_mem h
  refine ⟨A, B, rfl, fun h => ?_, fun h => ?_⟩
  · rw [List.nodup_append] at hd
    exact hd.2.2 n h n (by simp) rfl
  · rw [List.nodup_append] at hd
    exact (List.nodup_cons.1 hd.2.1).1 h
theorem nd_set {n i v m j : Int} : (W.setNd n i v).nd m j = if m = n ∧ j = i then v else W.nd m j := rfl
/-- A value is put into a place. -/
theorem place_si (h : SegSI hd tl N K W X D g) (hN : N ≤ 100) (hXd : X.Nodup) (hDX : ∀ n, D n → n ∉ X) {n i v : Int} (hn : n ∈ X ∨ D n) (i1 : 1 ≤ i) (i5 : i ≤ 5) (h0 : W.nd n i = 0) (hp : ∀ j, 1 ≤ j → j < i → W.nd n j ≠ 0) (hv : VOk v) :
    SegSI hd tl N (K + 1) (W.setNd n i (v + 2)) X D { g with put := g.put + 1, vs := g.vs ++ [v + 2] } ∧ Evo hd tl W (W.setNd n i (v + 2)) X D [] := by
  have hnX : n ∈ X := hn.elim id fun hD => by have := (h.old n hD).1 i i1 i5; omega
  obtain ⟨A, B, hX, hA, hB⟩ := split_mem hnX hXd
  obtain ⟨a, c, hs, hc, hput⟩ := h.seq
  have hlen := seq_len W X
  have hL : seqW W X = (List.replicate a 1 ++ g.vs) ++ List.replicate c 0 := by rw [hs, List.append_assoc]
  have hlen2 : (List.replicate a (1 : Int) ++ g.vs).length + c = 5 * X.length := by rw [← hlen, hL]; simp; omega
  have hXl : X.length = A.length + B.length + 1 := by rw [hX]; simp; omega
  have hat : ∀ j : Int, 1 ≤ j → j ≤ 5 → (seqW W X)[5 * A.length + (j - 1).toNat]? = some (W.nd n j) := fun j j1 j5 => by rw [hX]; exact seq_at j1 j5
  obtain ⟨f1, f2, f3⟩ := row_fill (x := v + 2) hL (fun y hy => by
    rw [List.mem_append] at hy
    rcases hy with hy | hy
    · have := (List.mem_replicate.1 hy).2; omega
    · have := (h.vs y hy).1; omega) (by rw [hat i i1 i5, h0]) (fun q hq1 hq2 hq3 => by
    have e := hat ((q - 5 * A.length : Nat) + 1 : Int) (by omega) (by omega)
    rw [show 5 * A.length + (((q - 5 * A.length : Nat) + 1 : Int) - 1).toNat = q by omega, hq3] at e
    have e2 := Option.some.inj e
    exact hp _ (by omega) (by omega) e2.symm)
  have hset : seqW (W.setNd n i (v + 2)) X = (seqW W X).set (5 * A.length + (i - 1).toNat) (v + 2) := by rw [hX]; exact seq_set hA hB i1 i5
  refine ⟨⟨h.head, by have := h.rk; simp only; omega, h.tail, h.link.same fun x _ => ?_, ⟨a, c - 1, ?_, by omega, by simp only; omega⟩, fun y hy => ?_, fun x hx => ?_, h.rng⟩, ⟨h.tX hN, .inl rfl, .inl rfl, fun x hx j j1 j5 => ?_, fun x hx => ?_, fun x hx _ _ j => ?_⟩⟩
  · rw [nd_set, if_neg (by omega)]
  · rw [hset, f3]; simp [List.append_assoc]
  · simp only [List.mem_append, List.mem_singleton] at hy
    rcases hy with hy | rfl
    · exact h.vs y hy
    · obtain ⟨v0, v1⟩ := hv; omega
  · have hne : x ≠ n := fun e => hDX x hx (e ▸ hnX)
    have ho := h.old x hx
    exact ⟨fun j j1 j5 => by rw [nd_set, if_neg (fun hh => hne hh.1)]; exact ho.1 j j1 j5, by rw [nd_set, if_neg (fun hh => hne hh.1)]; exact ho.2⟩
  · rw [nd_set]
    by_cases hc : x = n ∧ j = i
    · rw [if_pos hc, hc.1, hc.2]
      exact .inr (.inl ⟨h0, by have := hv.1; omega⟩)
    · rw [if_neg hc]; exact .inl rfl
  · rw [nd_set, if_neg (by omega)]; exact .inl rfl
  · rw [nd_set, if_neg (fun hh : x = n ∧ _ => hx (hh.1 ▸ hnX))]
/-- The first value is received. -/
theorem take_si (h : SegSI hd tl N K W X D g) (hN : N ≤ 100) (hXd : X.Nodup) (hDX : ∀ n, D n → n ∉ X) {n i x : Int} (hn : n = (ofW (W.ob hd)).idx) (i1 : 1 ≤ i) (i5 : i ≤ 5) (h0 : W.nd n i = x) (hx : 2 ≤ x) (hp : ∀ j, 1 ≤ j → j < i → W.nd n j = 1) :
    SegSI hd tl N (K + 1) (W.setNd n i 1) X D { g with vs := g.vs.tail } ∧ Evo hd tl W (W.setNd n i 1) X D [] ∧ g.vs = x :: g.vs.tail := by
  obtain ⟨B, hX⟩ := h.headX hN
  rw [← hn] at hX
  have hB : n ∉ B := by rw [hX] at hXd; exact (List.nodup_cons.1 hXd).1
  have hnX : n ∈ X := by rw [hX]; exact List.mem_cons_self
  obtain ⟨a, c, hs, hc, hput⟩ := h.seq
  have hat : ∀ j : Int, 1 ≤ j → j ≤ 5 → (seqW W X)[(j - 1).toNat]? = some (W.nd n j) := fun j j1 j5 => by have := seq_at (W := W) (A := []) (B := B) (n := n) j1 j5; rw [hX]; simpa using this
  obtain ⟨vs', f1, f2⟩ := row_take hs (fun v hv => (h.vs v hv).1) (by rw [hat i i1 i5, h0]) hx (fun q hq => by
    have e := hat ((q : Int) + 1) (by omega) (by omega)
    rw [show ((q : Int) + 1 - 1).toNat = q by omega, hp _ (by omega) (by omega)] at e
    exact e)
  have hset : seqW (W.setNd n i 1) X = (seqW W X).set ((i - 1).toNat) 1 := by have := seq_set (W := W) (A := []) (B := B) (n := n) (v := 1) (by simp) hB i1 i5; rw [hX]; simpa using this
  refine ⟨⟨h.head, by have := h.rk; simp only; omega, h.tail, h.link.same fun x _ => ?_, ⟨a + 1, c, ?_, hc, hput⟩, fun y hy => h.vs y (List.mem_of_mem_tail hy), fun x hx => ?_, h.rng⟩, ⟨h.tX hN, .inl rfl, .inl rfl, fun x hx j j1 j5 => ?_, fun x hx => ?_, fun x hx _ _ j => ?_⟩, by rw [f1]; rfl⟩
  · rw [nd_set, if_neg (by omega)]
  · rw [hset, f2, f1]; rfl
  · have hne : x ≠ n := fun e => hDX x hx (e ▸ hnX)
    have ho := h.old x hx
    exact ⟨fun j j1 j5 => by rw [nd_set, if_neg (fun hh => hne hh.1)]; exact ho.1 j j1 j5, by rw [nd_set, if_neg (fun hh => hne hh.1)]; exact ho.2⟩
  · rw [nd_set]
    by_cases hc : x = n ∧ j = i
    · rw [if_pos hc, hc.1, hc.2]
      exact .inr (.inr ⟨by omega, rfl⟩)
    · rw [if_neg hc]; exact .inl rfl
  · rw [nd_set, if_neg (by omega)]; exact .inl rfl
  · rw [nd_set, if_neg (fun hh : x = n ∧ _ => hx (hh.1 ▸ hnX))]
theorem ob_set {c v d : Int} : (W.setOb c v).ob d = if d = c then v else W.ob d := rfl
theorem get_inj {j k : Nat} {x : Int} (hd : X.Nodup) (h1 : X[j]? = some x) (h2 : X[k]? = some x) : j = k := by
  obtain ⟨l1, e1⟩ := List.getElem?_eq_some_iff.1 h1
  obtain ⟨l2, e2⟩ := List.getElem?_eq_some_iff.1 h2
  exact (List.getElem_inj hd).1 (e1.trans e2.symm)
/-- The tail goes on. -/
theorem tail_si (h : SegSI hd tl N K W X D g) (hN : N ≤ 100) (hK : K ≤ 100000) (hne : hd ≠ tl) (hXd : X.Nodup) {nx : Int} (hx : W.nd (ofW (W.ob tl)).idx 0 = nx) (h0 : nx ≠ 0) :
    SegSI hd tl N (K + 1) (W.setOb tl (packW (turnW (ofW (W.ob tl)) nx))) X D g ∧ Evo hd tl W (W.setOb tl (packW (turnW (ofW (W.ob tl)) nx))) X D [] ∧ (ofW ((W.setOb tl (packW (turnW (ofW (W.ob tl)) nx))).ob tl)).idx = nx ∧ nx ≠ (ofW (W.ob hd)).idx ∧ W.nd nx 0 = 0 := by
  obtain ⟨j, h1, h2, h3⟩ := h.tailX hN
  have hl := linked_get h.link h1
  simp only [hx] at hl
  have hj : X[j + 1]? = some nx := by
    cases hc : X[j + 1]? with
    | none => rw [hc] at hl; exact absurd hl h0
    | some y => rw [hc] at hl; rw [show nx = y from hl]
  have hl0 : W.nd nx 0 = 0 := by
    have h9 := linked_get h.link hj
    rw [List.getElem?_eq_none (by omega)] at h9
    exact h9
  have hnr := h.rng _ (List.mem_of_getElem? hj)
  have htr := h.rng _ (List.mem_of_getElem? h1)
  have hjl := (List.getElem?_eq_some_iff.1 hj).1
  have hrk := h.rk
  have hXN : X.length ≤ j + 2 := h2
  obtain ⟨B, hB⟩ := h.headX hN
  have hhd : X[0]? = some (ofW (W.ob hd)).idx := by
    generalize (ofW (W.ob hd)).idx = n at hB
    rw [hB]; rfl
  have hnh : nx ≠ (ofW (W.ob hd)).idx := fun e => by
    rw [← e] at hhd
    have := get_inj hXd hj hhd
    omega
  have hjb : j < 1000 := by
    have hle : X.length ≤ N := nodup_le N X hXd h.rng
    omega
  generalize (ofW (W.ob tl)).idx = t at *
  have hp : packW (turnW (ofW (W.ob tl)) nx) = 131072 * (((g.ret : Int) + j) + 1) + nx := pack_turn h3 (by omega) (by omega) (by omega) (by omega)
  refine ⟨⟨?_, by omega, ⟨j + 1, nx, hj, by omega, ?_⟩, h.link, h.seq, h.vs, h.old, h.rng⟩, ⟨?_, .inr ⟨?_, ?_, ?_⟩, .inl ?_, fun x _ i _ _ => .inl rfl, fun x _ => .inl rfl, fun x _ _ _ i => rfl⟩, ?_, hnh, hl0⟩
  · rw [ob_set, if_neg hne]; exact h.head
  · rw [ob_set, if_pos rfl, hp]
    show 131072 * ((g.ret : Int) + j + 1) + nx = 131072 * ((g.ret : Int) + ((j + 1 : Nat) : Int)) + nx
    omega
  · exact h.tX hN
  · rw [ob_set, if_pos rfl, hp]; omega
  · have e : (ofW (W.ob tl)).idx = t := by rw [h3]; exact idx_form (by omega) (by omega)
    rw [e, hx]; exact h0
  · rw [ob_set, if_pos rfl, hp, idx_form (by omega) (by omega)]; exact hnh
  · rw [ob_set, if_neg hne]
  · rw [ob_set, if_pos rfl, hp, idx_form (by omega) (by omega)]
/-- A segment more. -/
theorem append_si (h : SegSI hd tl N K W X D g) (hN : N ≤ 100) (hXd : X.Nodup) (hDX : ∀ n, D n → n ∉ X) {n m v : Int} (hn : n = (ofW (W.ob tl)).idx) (h0 : W.nd n 0 = 0) (hf : Full W n) (hm1 : 1 ≤ m) (hmN : m ≤ N) (hmX : m ∉ X) (hmD : ¬ D m) (hnew : NewSeg W v m) (hv : VOk v) :
    SegSI hd tl N (K + 1) (W.setNd n 0 m) (X ++ [m]) D { g with put := g.put + 1, vs := g.vs ++ [v + 2] } ∧ Evo hd tl W (W.setNd n 0 m) X D [] ∧ (W.setNd n 0 m).nd n 0 = m := by
  obtain ⟨j, h1, h2, h3⟩ := h.tailX hN
  rw [← hn] at h1 h3
  have hl := linked_get h.link h1
  simp only [h0] at hl
  have hnX := List.mem_of_getElem? h1
  have hj : X[j + 1]? = none := by
    cases hc : X[j + 1]? with
    | none => rfl
    | some y =>
      rw [hc] at hl
      have := h.rng y (List.mem_of_getElem? hc)
      simp at hl
      omega
  have hjl : X.length = j + 1 := by
    have := (List.getElem?_eq_some_iff.1 h1).1
    have := List.getElem?_eq_none_iff.1 hj
    omega
  obtain ⟨A, B, hX, hA, hB⟩ := split_mem hnX hXd
  have hAl : A.length = j := by
    have : X[A.length]? = some n := by rw [hX]; simp
    exact get_inj hXd this h1
  have hB0 : B = [] := by
    have : X.length = A.length + B.length + 1 := by rw [hX]; simp; omega
    exact List.length_eq_zero_iff.1 (by omega)
  subst hB0
  obtain ⟨a, c, hs, hc, hput⟩ := h.seq
  have hlen := seq_len W X
  have hc0 : c = 0 := by
    rcases Nat.eq_zero_or_pos c with h9 | h9
    · exact h9
    · exfalso
      have e : (seqW W X)[5 * A.length + ((5 : Int) - 1).toNat]? = some (W.nd n 5) := by rw [hX]; exact seq_at (by omega) (by omega)
      have hlen2 : a + g.vs.length + c = 5 * X.length := by rw [← hlen, hs]; simp; omega
      rw [hs, List.getElem?_append_right (by simp; omega), List.getElem?_append_right (by simp; omega)] at e
      have := rep_get e
      exact hf 5 (by omega) (by omega) this
  subst hc0
  have hmn : m ≠ n := fun e => hmX (e ▸ hnX)
  refine ⟨⟨?_, by have := h.rk; simp only; omega, ⟨j, n, ?_, by simp; omega, h3⟩, ?_, ⟨a, 4, ?_, by omega, ?_⟩, fun y hy => ?_, fun x hx => ?_, fun x hx => ?_⟩, ⟨h.tX hN, .inl rfl, .inl rfl, fun x _ i i1 _ => ?_, fun x _ => ?_, fun x hx _ _ i => ?_⟩, ?_⟩
  · have := h.head
    rw [hX] at this ⊢
    cases A <;> exact this
  · rw [List.getElem?_append_left (by omega)]; exact h1
  · rw [hX]
    refine linked_snoc (nx := fun n => W.nd n 0) (by rw [← hX]; exact h.link) (fun x hx => ?_) ?_ ?_
    · rw [nd_set, if_neg (fun hh : x = n ∧ _ => hA (hh.1 ▸ hx))]
    · rw [nd_set, if_pos ⟨rfl, rfl⟩]
    · rw [nd_set, if_neg (fun hh => hmn hh.1)]; exact hnew.1
  · rw [seq_set0, seq_app, hs]
    have e : seqW W [m] = [v + 2, 0, 0, 0, 0] := by
      simp only [seqW, List.flatMap_cons, List.flatMap_nil, plc, List.append_nil]
      rw [hnew.2.1, hnew.2.2 2 (by omega) (by omega), hnew.2.2 3 (by omega) (by omega), hnew.2.2 4 (by omega) (by omega), hnew.2.2 5 (by omega) (by omega)]
    rw [e]
    simp [List.replicate_succ]
  · simp only [List.length_append, List.length_cons, List.length_nil]; omega
  · simp only [List.mem_append, List.mem_singleton] at hy
    rcases hy with hy | rfl
    · exact h.vs y hy
    · obtain ⟨v0, v1⟩ := hv; omega
  · have hne : x ≠ n := fun e => hDX x hx (e ▸ hnX)
    have ho := h.old x hx
    exact ⟨fun j j1 j5 => by rw [nd_set, if_neg (fun hh => hne hh.1)]; exact ho.1 j j1 j5, by rw [nd_set, if_neg (fun hh => hne hh.1)]; exact ho.2⟩
  · rw [List.mem_append, List.mem_singleton] at hx
    rcases hx with hx | rfl
    · exact h.rng x hx
    · exact ⟨hm1, hmN⟩
  · rw [nd_set, if_neg (by omega)]; exact .inl rfl
  · rw [nd_set]
    by_cases hc : x = n ∧ (0 : Int) = 0
    · rw [if_pos hc, hc.1]; exact .inr ⟨h0, by omega⟩
    · rw [if_neg hc]; exact .inl rfl
  · rw [nd_set, if_neg (fun hh : x = n ∧ _ => hx (hh.1 ▸ hnX))]
  · rw [nd_set, if_pos ⟨rfl, rfl⟩]
/-- The head goes on. -/
theorem head_si (h : SegSI hd tl N K W X D g) (hN : N ≤ 100) (hK : K ≤ 100000) (hne : hd ≠ tl) (_hXd : X.Nodup) {n nx : Int} (hn : n = (ofW (W.ob hd)).idx) (hx : W.nd n 0 = nx) (h0 : nx ≠ 0) (hone : AllOne W n) (ht : (ofW (W.ob tl)).idx ≠ n) :
    SegSI hd tl N (K + 1) (W.setOb hd (packW (turnW (ofW (W.ob hd)) nx))) X.tail (fun x => D x ∨ x = n) { g with ret := g.ret + 1 } ∧ Evo hd tl W (W.setOb hd (packW (turnW (ofW (W.ob hd)) nx))) X D [] ∧ X = n :: X.tail := by
  obtain ⟨B, hX⟩ := h.headX hN
  rw [← hn] at hX
  have hXt : X.tail = B := by rw [hX]; rfl
  have hlk := h.link
  rw [hX] at hlk
  have hb : nx = B.headD 0 := hx.symm.trans hlk.1
  have hnr := h.rng n (by rw [hX]; exact List.mem_cons_self)
  obtain ⟨b, B', hB⟩ : ∃ b B', B = b :: B' := by
    cases B with
    | nil => exact absurd hb h0
    | cons b B' => exact ⟨b, B', rfl⟩
  have hbn : nx = b := by rw [hb, hB]; rfl
  have hbr := h.rng b (by rw [hX, hB]; simp)
  have hhead := h.head
  have hh2 : X.headD 0 = n := by rw [hX]; rfl
  rw [hh2] at hhead
  have hrk := h.rk
  have hp : packW (turnW (ofW (W.ob hd)) nx) = 131072 * ((g.ret : Int) + 1) + nx := pack_turn hhead (by omega) (by omega) (by omega) (by omega)
  obtain ⟨j, h1, h2, h3⟩ := h.tailX hN
  have hj : j ≠ 0 := fun e => by
    subst e
    rw [hX] at h1
    simp at h1
    exact ht h1.symm
  obtain ⟨j', rfl⟩ : ∃ j', j = j' + 1 := ⟨j - 1, by omega⟩
  obtain ⟨a, c, hs, hc, hput⟩ := h.seq
  have hpl : plc W n = List.replicate 5 1 := by
    unfold plc
    rw [hone 1 (by omega) (by omega), hone 2 (by omega) (by omega), hone 3 (by omega) (by omega), hone 4 (by omega) (by omega), hone 5 (by omega) (by omega)]; rfl
  have hs2 : List.replicate 5 1 ++ seqW W B = List.replicate a 1 ++ (g.vs ++ List.replicate c 0) := by rw [← hpl, ← seq_cons, ← hX]; exact hs
  have ha : 5 ≤ a := by
    rcases Nat.lt_or_ge a 5 with h9 | h9
    · exfalso
      have e1 : (List.replicate 5 (1 : Int) ++ seqW W B)[a]? = some 1 := by rw [List.getElem?_append_left (by simpa using h9), List.getElem?_replicate, if_pos h9]
      rw [hs2, List.getElem?_append_right (by simp), List.length_replicate, Nat.sub_self] at e1
      cases hvs : g.vs with
      | nil =>
        rw [hvs] at e1
        have := rep_get (x := 0) (by simpa using e1)
        omega
      | cons v vs =>
        rw [hvs] at e1
        simp at e1
        have := h.vs v (by rw [hvs]; simp)
        omega
    · exact h9
  have hsB : seqW W B = List.replicate (a - 5) 1 ++ (g.vs ++ List.replicate c 0) := by
    have : List.replicate a (1 : Int) = List.replicate 5 1 ++ List.replicate (a - 5) 1 := by rw [List.replicate_append_replicate]; congr 1; omega
    rw [this, List.append_assoc] at hs2
    exact List.append_cancel_left hs2
  refine ⟨⟨?_, by simp only; omega, ⟨j', (ofW (W.ob tl)).idx, ?_, ?_, ?_⟩, ?_, ⟨a - 5, c, ?_, hc, ?_⟩, h.vs, fun x hx => ?_, fun x hx => ?_⟩, ⟨h.tX hN, .inl ?_, .inr ⟨?_, ?_⟩, fun x _ i _ _ => .inl rfl, fun x _ => .inl rfl, fun x _ _ _ i => rfl⟩, by rw [hXt]; exact hX⟩
  · rw [ob_set, if_pos rfl, hp, hXt, ← hb]; simp only; omega
  · rw [hXt]
    rw [hX] at h1
    simpa using h1
  · rw [hXt]
    have : X.length = B.length + 1 := by rw [hX]; simp
    omega
  · rw [ob_set, if_neg hne.symm]
    simp only
    omega
  · rw [hXt]; exact hlk.2
  · rw [hXt]; exact hsB
  · simp only
    have : X.length = X.tail.length + 1 := by rw [hXt, hX]; simp
    omega
  · rcases hx with hx | rfl
    · exact h.old x hx
    · exact ⟨hone, by show W.nd x 0 ≠ 0; rw [‹W.nd x 0 = nx›]; exact h0⟩
  · exact h.rng x (List.mem_of_mem_tail hx)
  · rw [ob_set, if_neg hne.symm]
  · rw [ob_set, if_pos rfl, hp]; omega
  · rw [← hn]
    exact ⟨hone, by show W.nd n 0 ≠ 0; rw [hx]; exact h0⟩
end
end Go.Proofs.Ytgoijmomglomlaa
/- Channels of segments: all that has to be shown of them. -/
namespace Go.Proofs.Ytgoijmomglomlaa
set_option maxRecDepth 100000

section
variable {hd tl : Int} {l : LayT} {S N K : Nat} {W : Ws} {X : List Int} {D : Int → Prop} {g : SegG} {P P' : Int → Int → Prop}
theorem SW.mono {w : Int} (h : SW tl N W P w) (hP : ∀ i n, P i n → P' i n) : SW tl N W P' w := ⟨h.1, h.2.1, hP _ _ h.2.2.1, h.2.2.2⟩
theorem RW.mono {w : Int} (h : RW hd N W P w) (hP : ∀ i n, P i n → P' i n) : RW hd N W P' w := ⟨h.1, h.2.1, hP _ _ h.2.2.1, h.2.2.2⟩
theorem segKL_mono {k : Sk} (h : segKL hd tl N W P k) (hP : ∀ i n, P i n → P' i n) : segKL hd tl N W P' k := by
  cases k <;> simp only [segKL] at h ⊢ <;> first
    | exact h
    | exact ⟨h.1, h.2.1, h.2.2.1.mono hP, h.2.2.2⟩
    | exact ⟨h.1, h.2.1.mono hP, h.2.2⟩
    | exact ⟨h.1.mono hP, h.2⟩
theorem segGL_mono {k : Sk} {v : Int} (h : segGL hd tl N W P k v) (hP : ∀ i n, P i n → P' i n) : segGL hd tl N W P' k v := by
  cases k <;> simp only [segGL] at h ⊢
  case sg => exact h.mono hP
  case rg => exact h.mono hP
/-- Where the words lie. -/
structure SegLay (l : LayT) (S : Nat) (hd tl : Int) : Prop where
  h1 : 4 + 5 * (S : Int) ≤ hd
  h2 : hd < l.node
  t1 : 4 + 5 * (S : Int) ≤ tl
  t2 : tl < l.node
  ne : hd ≠ tl
theorem still_ok {s : PsT} {k : Sk} {pc' : Pc Sk} (hSI : SegSI hd tl N K W X D g) (hD : ∀ n ∈ (segZ hd tl N).dead k, D n) (hok : OkE (segZ hd tl N) l S N W X g P s pc') (hm : mineP (segZ hd tl N) pc' = (segZ hd tl N).mine k) (hdd : deadP (segZ hd tl N) pc' = (segZ hd tl N).dead k) : StepOk (segZ hd tl N) l S N K W X D g P s k W X g pc' := by
  refine ⟨?_, hok, fun _ _ _ _ _ h => h, fun _ _ _ _ _ _ _ _ _ h => h, fun n => by rw [hm, hdd], fun n h => .inl h, fun n h => by rw [hdd]; exact h⟩
  exact ⟨hSI.head, Nat.le_succ_of_le hSI.rk, hSI.tail, hSI.link, hSI.seq, hSI.vs, fun n hn => hSI.old n (hn.elim id fun h => hD n (by rw [← hdd]; exact h)), hSI.rng⟩
/-- A step that others see as growth. -/
theorem evo_ok {s : PsT} {k : Sk} {pc' : Pc Sk} {W' : Ws} {X' : List Int} {g' : SegG} (hE : Evo hd tl W W' X D ((segZ hd tl N).mine k)) (hSI : SegSI hd tl N (K + 1) W' X' (fun n => D n ∨ n ∈ deadP (segZ hd tl N) pc') g') (hok : OkE (segZ hd tl N) l S N W' X' g' P s pc')
    (hc : ∀ n, X'.count n + (mineP (segZ hd tl N) pc').count n + (deadP (segZ hd tl N) pc').count n = X.count n + ((segZ hd tl N).mine k).count n + ((segZ hd tl N).dead k).count n) (hX : ∀ n ∈ X, n ∈ X' ∨ n ∈ deadP (segZ hd tl N) pc') (hdd : ∀ n ∈ (segZ hd tl N).dead k, n ∈ deadP (segZ hd tl N) pc') : StepOk (segZ hd tl N) l S N K W X D g P s k W' X' g' pc' :=
  ⟨hSI, hok, fun _ _ hP hm _ h => hE.kl hP hm h, fun _ _ _ _ _ hP _ _ _ h => hE.gl hP h, hc, hX, hdd⟩
theorem Evo.weak {W' : Ws} {mi mi' : List Int} (hE : Evo hd tl W W' X D mi) (h : ∀ n ∈ mi, n ∈ mi') : Evo hd tl W W' X D mi' := ⟨hE.tX, hE.tl, hE.hd, hE.pl, hE.nx, fun n h1 h2 h3 => hE.mi n h1 h2 fun h4 => h3 (h n h4)⟩
/-- A node of one's own is written. -/
theorem write_si (h : SegSI hd tl N K W X D g) (hN : N ≤ 100) {n i v : Int} (hnX : n ∉ X) (hnD : ¬ D n) : SegSI hd tl N (K + 1) (W.setNd n i v) X D g ∧ Evo hd tl W (W.setNd n i v) X D [n] := by
  have hne : ∀ x j, x ≠ n → (W.setNd n i v).nd x j = W.nd x j := fun x j hx => by rw [nd_set, if_neg (fun hh : x = n ∧ _ => hx hh.1)]
  have hX : ∀ x, x ∈ X ∨ D x → x ≠ n := fun x hx e => by subst e; exact hx.elim hnX hnD
  refine ⟨⟨h.head, Nat.le_succ_of_le h.rk, h.tail, h.link.same fun x hx => hne x 0 (hX x (.inl hx)), ?_, h.vs, fun x hx => ?_, h.rng⟩, ⟨h.tX hN, .inl rfl, .inl rfl, fun x hx j _ _ => .inl (hne x j (hX x hx)), fun x hx => .inl (hne x 0 (hX x hx)), fun x _ _ h3 j => hne x j (by simpa using h3)⟩⟩
  · obtain ⟨a, c, h1, h2⟩ := h.seq
    exact ⟨a, c, by rw [seq_other hnX]; exact h1, h2⟩
  · have ho := h.old x hx
    exact ⟨fun j j1 j5 => by rw [hne x j (hX x (.inr hx))]; exact ho.1 j j1 j5, by rw [hne x 0 (hX x (.inr hx))]; exact ho.2⟩
theorem nextS_ok {s : PsT} {k : Sk} {v m w i : Int} (hSI : SegSI hd tl N K W X D g) (hk1 : (segZ hd tl N).mine k = mineL m) (hk2 : (segZ hd tl N).dead k = []) (h : VOk v ∧ MineOk W v m ∧ SW tl N W P w ∧ 1 ≤ i ∧ i ≤ 5 ∧ ∀ j, 1 ≤ j → j < i → W.nd (ofW w).idx j ≠ 0) (h0 : W.nd (ofW w).idx i ≠ 0) : StepOk (segZ hd tl N) l S N K W X D g P s k W X g (nextS v m w i) := by
  obtain ⟨h1, h2, h3, h4, h5, h6⟩ := h
  have h7 : ∀ j, 1 ≤ j → j < i + 1 → W.nd (ofW w).idx j ≠ 0 := fun j j1 ji => by
    by_cases e : j = i
    · rw [e]; exact h0
    · exact h6 j j1 (by omega)
  unfold nextS
  split
  · exact still_ok hSI (fun n hn => by rw [hk2] at hn; simp at hn) ⟨⟨h1, h2, h3, by omega, by omega, h7⟩, fun h => absurd h id⟩ hk1.symm hk2.symm
  · exact still_ok hSI (fun n hn => by rw [hk2] at hn; simp at hn) ⟨⟨h1, h2, h3, fun j j1 j5 => h7 j j1 (by omega)⟩, fun h => absurd h id⟩ hk1.symm hk2.symm
theorem nextR_ok {s : PsT} {k : Sk} {w i : Int} (hSI : SegSI hd tl N K W X D g) (hk1 : (segZ hd tl N).mine k = []) (hk2 : (segZ hd tl N).dead k = []) (h : RW hd N W P w ∧ 1 ≤ i ∧ i ≤ 5 ∧ ∀ j, 1 ≤ j → j < i → W.nd (ofW w).idx j = 1) (h0 : W.nd (ofW w).idx i = 1) : StepOk (segZ hd tl N) l S N K W X D g P s k W X g (nextR w i) := by
  obtain ⟨h3, h4, h5, h6⟩ := h
  have h7 : ∀ j, 1 ≤ j → j < i + 1 → W.nd (ofW w).idx j = 1 := fun j j1 ji => by
    by_cases e : j = i
    · rw [e]; exact h0
    · exact h6 j j1 (by omega)
  unfold nextR
  split
  · exact still_ok hSI (fun n hn => by rw [hk2] at hn; simp at hn) ⟨⟨h3, by omega, by omega, h7⟩, fun h => absurd h id⟩ hk1.symm hk2.symm
  · exact still_ok hSI (fun n hn => by rw [hk2] at hn; simp at hn) ⟨⟨h3, fun j j1 j5 => h7 j j1 (by omega)⟩, fun h => absurd h id⟩ hk1.symm hk2.symm
theorem seg_step (hLy : SegLay l S hd tl) (hN : N ≤ 100) (hK : K ≤ 100000) {k : Sk} (s : PsT) (m : Nat) (hSI : SegSI hd tl N K W X D g) (hk : segKL hd tl N W P k) (hP : ∀ i n, P i n → n ∈ X ∨ D n) (hb : ∀ n, n ∈ X ∨ n ∈ (segZ hd tl N).mine k ∨ D n → 1 ≤ n ∧ n ≤ (N : Int)) (hXd : X.Nodup)
    (hmi : ∀ n ∈ (segZ hd tl N).mine k, n ∉ X ∧ ¬ D n) (hDX : ∀ n, D n → n ∉ X) (hde : ∀ n ∈ (segZ hd tl N).dead k, D n) :
    StepOk (segZ hd tl N) l S N K W X D g P s k (actW W (segAsk hd tl k)).1 (segNx hd W X g k).1 (segNx hd W X g k).2 (segTell hd tl k m (actW W (segAsk hd tl k)).2) := by
  have noz : ∀ k2 : Sk, (segZ hd tl N).zero k2 → s.z := fun _ h => absurd h id
  have hgT : ∀ k2 : Sk, (∃ v m, k2 = .sg v m) → ((0 : Int) ≤ 0 ∧ (0 : Int) ≤ 2 ∧ (Ad.ob tl).str l S N ∧ (segZ hd tl N).gad k2 0 (.ob tl)) := fun k2 ⟨v, m, e⟩ => by subst e; exact ⟨by omega, by omega, ⟨hLy.t1, hLy.t2⟩, rfl, rfl⟩
  have hgH : ((0 : Int) ≤ 0 ∧ (0 : Int) ≤ 2 ∧ (Ad.ob hd).str l S N ∧ (segZ hd tl N).gad .rg 0 (.ob hd)) := ⟨by omega, by omega, ⟨hLy.h1, hLy.h2⟩, rfl, rfl⟩
  cases k with
  | sg v m => exact still_ok hSI hde ⟨hk, noz _⟩ rfl rfl
  | tk v w => exact still_ok hSI hde ⟨hk, noz _⟩ rfl rfl
  | sv a => exact still_ok hSI hde ⟨hk, noz _⟩ rfl rfl
  | fi o => exact still_ok hSI hde ⟨hk, noz _⟩ rfl rfl
  | rg => exact still_ok hSI hde ⟨hk, noz _⟩ rfl rfl
  | rx n => exact still_ok hSI hde ⟨hk, noz _⟩ rfl rfl
  | rr => exact still_ok hSI hde ⟨hk, noz _⟩ rfl rfl
  | sl v mi w i =>
    show StepOk (segZ hd tl N) l S N K W X D g P s _ W X g (if W.nd (ofW w).idx i = 0 then _ else _)
    split
    · exact still_ok hSI hde ⟨hk, noz _⟩ rfl rfl
    · rename_i h0
      exact nextS_ok hSI rfl rfl hk h0
  | sc v mi w i =>
    obtain ⟨h1, h2, h3, h4, h5, h6⟩ := hk
    have hn := hP _ _ h3.2.2.1
    by_cases hc : W.nd (ofW w).idx i = 0
    · have e1 : actW W (segAsk hd tl (.sc v mi w i)) = (W.setNd (ofW w).idx i (v + 2), ⟨0, true⟩) := by simp only [segAsk, actW, Ws.get, hc, if_true]; rfl
      have e2 : segNx hd W X g (.sc v mi w i) = (X, { g with put := g.put + 1, vs := g.vs ++ [v + 2] }) := by simp only [segNx, hc, if_true]
      rw [e1, e2]
      obtain ⟨f1, f2⟩ := place_si hSI hN hXd hDX hn h4 h5 hc h6 h1
      show StepOk (segZ hd tl N) l S N K W X D g P s _ (W.setNd (ofW w).idx i (v + 2)) X { g with put := g.put + 1, vs := g.vs ++ [v + 2] } (if mi = 0 then .clr (.fi (okO m)) else .v1 (.sv m) mi)
      by_cases hm : mi = 0
      · rw [if_pos hm]
        refine evo_ok (f2.weak (by simp)) ?_ trivial (fun n => ?_) (fun n h => .inl h) (fun n h => h)
        · exact ⟨f1.head, f1.rk, f1.tail, f1.link, f1.seq, f1.vs, fun n hn => f1.old n (hn.elim id fun h => by simp [deadP, segZ] at h), f1.rng⟩
        · simp [mineP, deadP, segZ, mineL, hm]
      · rw [if_neg hm]
        refine evo_ok (f2.weak (by simp)) ?_ ⟨trivial, noz _⟩ (fun n => ?_) (fun n h => .inl h) (fun n h => h)
        · exact ⟨f1.head, f1.rk, f1.tail, f1.link, f1.seq, f1.vs, fun n hn => f1.old n (hn.elim id fun h => by simp [deadP, segZ] at h), f1.rng⟩
        · simp [mineP, deadP, segZ, mineL, hm]
    · have e1 : actW W (segAsk hd tl (.sc v mi w i)) = (W, ⟨W.nd (ofW w).idx i, false⟩) := by simp only [segAsk, actW, Ws.get, hc, if_false]
      have e2 : segNx hd W X g (.sc v mi w i) = (X, g) := by simp only [segNx, hc, if_false]
      rw [e1, e2]
      exact nextS_ok hSI rfl rfl ⟨h1, h2, h3, h4, h5, h6⟩ hc
  | sn v mi w =>
    obtain ⟨h1, h2, h3, h4⟩ := hk
    show StepOk (segZ hd tl N) l S N K W X D g P s _ W X g (if W.nd (ofW w).idx 0 = 0 then (if mi = 0 then _ else _) else _)
    by_cases h0 : W.nd (ofW w).idx 0 = 0
    · rw [if_pos h0]
      by_cases hm : mi = 0
      · rw [if_pos hm]
        exact still_ok hSI hde ⟨⟨h1, h3, h4⟩, noz _⟩ (by simp [mineP, segZ, mineL, hm]) rfl
      · rw [if_neg hm]
        exact still_ok hSI hde ⟨⟨h1, h3, h4, by have := h2.1; omega, h2.2 hm⟩, noz _⟩ (by simp [mineP, segZ, mineL, hm]) rfl
    · rw [if_neg h0]
      exact still_ok hSI hde ⟨⟨h1, h2, h3.1, h0, fun _ => rfl⟩, noz _⟩ rfl rfl
  | st v mi w nx =>
    obtain ⟨h1, h2, h3, h4, h5⟩ := hk
    by_cases hc : W.ob tl = w
    · have e1 : actW W (segAsk hd tl (.st v mi w nx)) = (W.setOb tl (packW (turnW (ofW w) nx)), ⟨w, true⟩) := by simp only [segAsk, actW, Ws.get, hc, if_true]; rfl
      have e2 : segNx hd W X g (.st v mi w nx) = (X, g) := rfl
      rw [e1, e2]
      have h6 := h5 hc
      obtain ⟨f1, f2, f3, f4, _⟩ := tail_si hSI hN hK hLy.ne hXd (nx := nx) (by rw [hc]; exact h6) h4
      rw [hc] at f1 f2
      have g1 := hgT (.sg v mi) ⟨v, mi, rfl⟩
      refine evo_ok (pc' := .g1 (.sg v mi) 0 (.ob tl)) (f2.weak (by simp)) ?_ ⟨⟨h1, f2.mine (fun n hn => ⟨(hmi n hn).1, (hmi n hn).2, by simp⟩) h2⟩, (fun h => h), g1⟩ (fun n => rfl) (fun n h => .inl h) (fun n h => h)
      exact ⟨f1.head, f1.rk, f1.tail, f1.link, f1.seq, f1.vs, fun n hn => f1.old n (hn.elim id fun h => by simp [deadP, segZ] at h), f1.rng⟩
    · have e1 : actW W (segAsk hd tl (.st v mi w nx)) = (W, ⟨W.ob tl, false⟩) := by simp only [segAsk, actW, Ws.get, hc, if_false]
      rw [e1]
      exact still_ok (pc' := .g1 (.sg v mi) 0 (.ob tl)) hSI hde ⟨⟨h1, h2⟩, (fun h => h), hgT _ ⟨v, mi, rfl⟩⟩ rfl rfl
  | f0 v w n =>
    obtain ⟨h1, h2, h3, h4⟩ := hk
    have hmn := hmi n (by simp [segZ])
    obtain ⟨f1, f2⟩ := write_si hSI hN (i := 0) (v := 0) hmn.1 hmn.2
    have hP2 := hP _ _ h2.2.2.1
    refine evo_ok (pc' := .at_ (.f1 v w n)) (W' := W.setNd n 0 0) f2 ?_ ⟨⟨h1, f2.sw hP h2, f2.full hP2 h3, h4, by rw [nd_set, if_pos ⟨rfl, rfl⟩]⟩, noz _⟩ (fun n => rfl) (fun n h => .inl h) (fun n h => h)
    exact ⟨f1.head, f1.rk, f1.tail, f1.link, f1.seq, f1.vs, fun n hn => f1.old n (hn.elim id fun h => by simp [deadP, segZ] at h), f1.rng⟩
  | f1 v w n =>
    obtain ⟨h1, h2, h3, h4, h5⟩ := hk
    have hmn := hmi n (by simp [segZ])
    obtain ⟨f1, f2⟩ := write_si hSI hN (i := 1) (v := v + 2) hmn.1 hmn.2
    have hP2 := hP _ _ h2.2.2.1
    refine evo_ok (pc' := .at_ (.f2 v w n 2)) (W' := W.setNd n 1 (v + 2)) f2 ?_ ⟨⟨h1, f2.sw hP h2, f2.full hP2 h3, h4, by rw [nd_set, if_neg (by omega)]; exact h5, by rw [nd_set, if_pos ⟨rfl, rfl⟩], by omega, by omega, fun j j2 j3 => by omega⟩, noz _⟩ (fun n => rfl) (fun n h => .inl h) (fun n h => h)
    exact ⟨f1.head, f1.rk, f1.tail, f1.link, f1.seq, f1.vs, fun n hn => f1.old n (hn.elim id fun h => by simp [deadP, segZ] at h), f1.rng⟩
  | f2 v w n i =>
    obtain ⟨h1, h2, h3, h4, h5, h6, h7, h8, h9⟩ := hk
    have hmn := hmi n (by simp [segZ])
    obtain ⟨f1, f2⟩ := write_si hSI hN (i := i) (v := 0) hmn.1 hmn.2
    have hP2 := hP _ _ h2.2.2.1
    have hz : ∀ j, 2 ≤ j → j < i + 1 → (W.setNd n i 0).nd n j = 0 := fun j j2 ji => by
      rw [nd_set]
      by_cases e : j = i
      · rw [if_pos ⟨rfl, e⟩]
      · rw [if_neg (fun hh => e hh.2)]; exact h9 j j2 (by omega)
    have h50 : (W.setNd n i 0).nd n 0 = 0 := by rw [nd_set, if_neg (by omega)]; exact h5
    have h51 : (W.setNd n i 0).nd n 1 = v + 2 := by rw [nd_set, if_neg (by omega)]; exact h6
    have hf1 : ∀ pc', deadP (segZ hd tl N) pc' = [] → SegSI hd tl N (K + 1) (W.setNd n i 0) X (fun x => D x ∨ x ∈ deadP (segZ hd tl N) pc') g := fun pc' hp => ⟨f1.head, f1.rk, f1.tail, f1.link, f1.seq, f1.vs, fun n hn => f1.old n (hn.elim id fun h => by rw [hp] at h; simp at h), f1.rng⟩
    show StepOk (segZ hd tl N) l S N K W X D g P s _ (W.setNd n i 0) X g (if i < 5 then _ else _)
    by_cases hi : i < 5
    · rw [if_pos hi]
      exact evo_ok f2 (hf1 _ rfl) ⟨⟨h1, f2.sw hP h2, f2.full hP2 h3, h4, h50, h51, by omega, by omega, hz⟩, noz _⟩ (fun n => rfl) (fun n h => .inl h) (fun n h => h)
    · rw [if_neg hi]
      exact evo_ok f2 (hf1 _ rfl) ⟨⟨h1, f2.sw hP h2, f2.full hP2 h3, h4, h50, h51, fun j j2 j5 => hz j j2 (by omega)⟩, noz _⟩ (fun n => rfl) (fun n h => .inl h) (fun n h => h)
  | sa v mi w =>
    obtain ⟨h1, h2, h3, h4, h5⟩ := hk
    have hn := hP _ _ h2.2.2.1
    have hmn := hmi mi (by simp [segZ])
    have hmb := hb mi (.inr (.inl (by simp [segZ])))
    by_cases hc : W.nd (ofW w).idx 0 = 0
    · have e1 : actW W (segAsk hd tl (.sa v mi w)) = (W.setNd (ofW w).idx 0 mi, ⟨0, true⟩) := by simp only [segAsk, actW, Ws.get, hc, if_true]; rfl
      have e2 : segNx hd W X g (.sa v mi w) = (X ++ [mi], { g with put := g.put + 1, vs := g.vs ++ [v + 2] }) := by simp only [segNx, hc, if_true]
      rw [e1, e2]
      have htw : W.ob tl = w := by
        by_cases e : W.ob tl = w
        · exact e
        · exact absurd hc (h2.2.2.2 e)
      obtain ⟨f1, f2, f3⟩ := append_si hSI hN hXd hDX (n := (ofW w).idx) (m := mi) (v := v) (by rw [htw]) hc h3 hmb.1 hmb.2 hmn.1 hmn.2 h5 h1
      refine evo_ok (pc' := .at_ (.sb w mi m)) (f2.weak (by simp)) ?_ ⟨⟨f2.seenT h2.1, by omega, fun _ => f3⟩, noz _⟩ (fun n => ?_) (fun n h => .inl (by simp [h])) (fun n h => h)
      · exact ⟨f1.head, f1.rk, f1.tail, f1.link, f1.seq, f1.vs, fun n hn => f1.old n (hn.elim id fun h => by simp [deadP, segZ] at h), f1.rng⟩
      · simp [mineP, deadP, segZ, List.count_append]
    · have e1 : actW W (segAsk hd tl (.sa v mi w)) = (W, ⟨W.nd (ofW w).idx 0, false⟩) := by simp only [segAsk, actW, Ws.get, hc, if_false]
      have e2 : segNx hd W X g (.sa v mi w) = (X, g) := by simp only [segNx, hc, if_false]
      rw [e1, e2]
      have hm0 : mi ≠ 0 := by omega
      exact still_ok (pc' := .g1 (.sg v mi) 0 (.ob tl)) hSI hde ⟨⟨h1, by omega, fun _ => h5⟩, (fun h => h), hgT _ ⟨v, mi, rfl⟩⟩ (by simp [mineP, segZ, mineL, hm0]) rfl
  | sb w mi a =>
    obtain ⟨h3, h4, h5⟩ := hk
    by_cases hc : W.ob tl = w
    · have e1 : actW W (segAsk hd tl (.sb w mi a)) = (W.setOb tl (packW (turnW (ofW w) mi)), ⟨w, true⟩) := by simp only [segAsk, actW, Ws.get, hc, if_true]; rfl
      have e2 : segNx hd W X g (.sb w mi a) = (X, g) := rfl
      rw [e1, e2]
      have h6 := h5 hc
      obtain ⟨f1, f2, f3, f4, _⟩ := tail_si hSI hN hK hLy.ne hXd (nx := mi) (by rw [hc]; exact h6) h4
      rw [hc] at f1 f2
      refine evo_ok (pc' := .clr (.fi (okO a))) (f2.weak (by simp)) ?_ trivial (fun n => rfl) (fun n h => .inl h) (fun n h => h)
      exact ⟨f1.head, f1.rk, f1.tail, f1.link, f1.seq, f1.vs, fun n hn => f1.old n (hn.elim id fun h => by simp [deadP, segZ] at h), f1.rng⟩
    · have e1 : actW W (segAsk hd tl (.sb w mi a)) = (W, ⟨W.ob tl, false⟩) := by simp only [segAsk, actW, Ws.get, hc, if_false]
      rw [e1]
      exact still_ok (pc' := .clr (.fi (okO a))) hSI hde trivial rfl rfl
  | rl w i =>
    show StepOk (segZ hd tl N) l S N K W X D g P s _ W X g (if W.nd (ofW w).idx i = 0 then _ else if W.nd (ofW w).idx i = 1 then _ else _)
    by_cases h0 : W.nd (ofW w).idx i = 0
    · rw [if_pos h0]
      exact still_ok hSI hde trivial rfl rfl
    · rw [if_neg h0]
      by_cases h1 : W.nd (ofW w).idx i = 1
      · rw [if_pos h1]
        exact nextR_ok hSI rfl rfl hk h1
      · rw [if_neg h1]
        obtain ⟨k1, k2, k3, k4⟩ := hk
        have hn := hP _ _ k1.2.2.1
        have h2 : 2 ≤ W.nd (ofW w).idx i := by
          rcases hn with hn | hn
          · obtain ⟨A, B, hX, _, _⟩ := split_mem hn hXd
            obtain ⟨a, c, hs, _, _⟩ := hSI.seq
            have e := seq_at (W := W) (A := A) (B := B) (n := (ofW w).idx) k2 k3
            rw [← hX, hs] at e
            have hm := List.mem_of_getElem? e
            rw [List.mem_append, List.mem_append] at hm
            rcases hm with hm | hm | hm
            · exact absurd (List.mem_replicate.1 hm).2 h1
            · exact (hSI.vs _ hm).1
            · exact absurd (List.mem_replicate.1 hm).2 h0
          · exact absurd ((hSI.old _ hn).1 i k2 k3) h1
        exact still_ok hSI hde ⟨⟨k1, k2, k3, k4, h2, .inl rfl⟩, noz _⟩ rfl rfl
  | rc w i x =>
    obtain ⟨k1, k2, k3, k4, k5, k6⟩ := hk
    have hn := hP _ _ k1.2.2.1
    by_cases hc : W.nd (ofW w).idx i = x
    · have e1 : actW W (segAsk hd tl (.rc w i x)) = (W.setNd (ofW w).idx i 1, ⟨x, true⟩) := by simp only [segAsk, actW, Ws.get, hc, if_true]; rfl
      have e2 : segNx hd W X g (.rc w i x) = (X, { g with vs := g.vs.tail }) := by simp only [segNx, hc, if_true]
      rw [e1, e2]
      have hhw : W.ob hd = w := by
        by_cases e : W.ob hd = w
        · exact e
        · have := (k1.2.2.2 e).1 i k2 k3
          omega
      obtain ⟨f1, f2, f3⟩ := take_si hSI hN hXd hDX (n := (ofW w).idx) (by rw [hhw]) k2 k3 hc k5 k4
      refine evo_ok (pc' := .clr (.fi ⟨w64 (x - 2), true, 0, m, []⟩)) (f2.weak (by simp)) ?_ trivial (fun n => rfl) (fun n h => .inl h) (fun n h => h)
      exact ⟨f1.head, f1.rk, f1.tail, f1.link, f1.seq, f1.vs, fun n hn => f1.old n (hn.elim id fun h => by simp [deadP, segZ] at h), f1.rng⟩
    · have e1 : actW W (segAsk hd tl (.rc w i x)) = (W, ⟨W.nd (ofW w).idx i, false⟩) := by simp only [segAsk, actW, Ws.get, hc, if_false]
      have e2 : segNx hd W X g (.rc w i x) = (X, g) := by simp only [segNx, hc, if_false]
      rw [e1, e2]
      exact nextR_ok hSI rfl rfl ⟨k1, k2, k3, k4⟩ (k6.resolve_left hc)
  | rn w =>
    obtain ⟨k1, k2⟩ := hk
    show StepOk (segZ hd tl N) l S N K W X D g P s _ W X g (if W.nd (ofW w).idx 0 = 0 then _ else _)
    by_cases h0 : W.nd (ofW w).idx 0 = 0
    · rw [if_pos h0]
      exact still_ok hSI hde trivial rfl rfl
    · rw [if_neg h0]
      exact still_ok hSI hde ⟨⟨k1, k2, h0, rfl⟩, noz _⟩ rfl rfl
  | re w nx =>
    obtain ⟨k1, k2, k3, k4⟩ := hk
    show StepOk (segZ hd tl N) l S N K W X D g P s _ W X g (if (ofW (W.ob tl)).idx = (ofW w).idx then _ else _)
    by_cases h0 : (ofW (W.ob tl)).idx = (ofW w).idx
    · rw [if_pos h0]
      exact still_ok hSI hde ⟨⟨k1, k2, k3, k4, hSI.seenT hN, h0, fun _ => .inl rfl⟩, noz _⟩ rfl rfl
    · rw [if_neg h0]
      exact still_ok hSI hde ⟨⟨k1, k2, k3, k4, fun _ => h0⟩, noz _⟩ rfl rfl
  | rt w nx en =>
    obtain ⟨k1, k2, k3, k4, k5, k6, k7⟩ := hk
    have hn := hP _ _ k1.2.2.1
    by_cases hc : W.ob tl = en
    · have e1 : actW W (segAsk hd tl (.rt w nx en)) = (W.setOb tl (packW (turnW (ofW en) nx)), ⟨en, true⟩) := by simp only [segAsk, actW, Ws.get, hc, if_true]; rfl
      have e2 : segNx hd W X g (.rt w nx en) = (X, g) := rfl
      rw [e1, e2]
      obtain ⟨f1, f2, f3, f4, _⟩ := tail_si hSI hN hK hLy.ne hXd (nx := nx) (by rw [hc, k6]; exact k4) k3
      rw [hc] at f1 f2 f3
      refine evo_ok (pc' := .at_ (.rh w nx)) (f2.weak (by simp)) ?_ ⟨⟨f2.rw hP k1, fun j j1 j5 => f2.one hn j1 j5 (k2 j j1 j5), k3, by rw [f2.next hn (by rw [k4]; exact k3)]; exact k4, fun e => ?_⟩, noz _⟩ (fun n => rfl) (fun n h => .inl h) (fun n h => h)
      · exact ⟨f1.head, f1.rk, f1.tail, f1.link, f1.seq, f1.vs, fun n hn => f1.old n (hn.elim id fun h => by simp [deadP, segZ] at h), f1.rng⟩
      · have e' : W.ob hd = w := f2.sameH k1.1 e
        rw [f3]
        rw [e'] at f4
        exact f4
    · have e1 : actW W (segAsk hd tl (.rt w nx en)) = (W, ⟨W.ob tl, false⟩) := by simp only [segAsk, actW, Ws.get, hc, if_false]
      rw [e1]
      exact still_ok (pc' := .at_ (.rh w nx)) hSI hde ⟨⟨k1, k2, k3, k4, fun e => (k7 e).resolve_left hc⟩, noz _⟩ rfl rfl
  | rh w nx =>
    obtain ⟨k1, k2, k3, k4, k7⟩ := hk
    have hn := hP _ _ k1.2.2.1
    by_cases hc : W.ob hd = w
    · have e1 : actW W (segAsk hd tl (.rh w nx)) = (W.setOb hd (packW (turnW (ofW w) nx)), ⟨w, true⟩) := by simp only [segAsk, actW, Ws.get, hc, if_true]; rfl
      have e2 : segNx hd W X g (.rh w nx) = (X.tail, { g with ret := g.ret + 1 }) := by simp only [segNx, hc, if_true]
      rw [e1, e2]
      obtain ⟨f1, f2, f3⟩ := head_si hSI hN hK hLy.ne hXd (n := (ofW w).idx) (nx := nx) (by rw [hc]) k4 k3 k2 (k7 hc)
      rw [hc] at f1 f2
      refine evo_ok (pc' := .clr (.rx (ofW w).idx)) (f2.weak (by simp)) ?_ trivial (fun n => ?_) (fun n h => ?_) (fun n h => by simp [segZ] at h)
      · exact ⟨f1.head, f1.rk, f1.tail, f1.link, f1.seq, f1.vs, fun n hn => f1.old n (hn.imp id fun h => by simpa [deadP, segZ] using h), f1.rng⟩
      · have hcn : X.count n = ((ofW w).idx :: X.tail).count n := by rw [← f3]
        rw [hcn]
        simp only [mineP, deadP, segZ, List.count_cons, List.count_nil]
        omega
      · rw [f3, List.mem_cons] at h
        rcases h with h | h
        · exact .inr (by simp [deadP, segZ, h])
        · exact .inl h
    · have e1 : actW W (segAsk hd tl (.rh w nx)) = (W, ⟨W.ob hd, false⟩) := by simp only [segAsk, actW, Ws.get, hc, if_false]
      have e2 : segNx hd W X g (.rh w nx) = (X, g) := by simp only [segNx, hc, if_false]
      rw [e1, e2]
      exact still_ok (pc' := .g1 .rg 0 (.ob hd)) hSI hde ⟨trivial, (fun h => h), hgH⟩ rfl rfl
theorem seg_sound (hLy : SegLay l S hd tl) (hN : N ≤ 100) : Sound (segM hd tl) (segZ hd tl N) l S N where
  kmono := fun h hP => segKL_mono h hP
  gmono := fun h hP => segGL_mono h hP
  simono := fun h hD hK => ⟨h.head, Nat.le_trans h.rk hK, h.tail, h.link, h.seq, h.vs, fun n hn => h.old n (hD n hn), h.rng⟩
  took := fun {W X g P k} s n a h hz n1 n2 hX => by
    cases k <;> first
      | exact ⟨h, hz⟩
      | exact ⟨⟨h.1, h.2.1, h.2.2, n1⟩, fun h => absurd h id⟩
  tookM := fun k n a x => by cases k <;> rfl
  tookD := fun k n a => by cases k <;> rfl
  full := fun {W X g P k} s a h hz => by
    cases k <;> first
      | exact ⟨h, hz⟩
      | exact trivial
  fullM := fun k a => by cases k <;> rfl
  fullD := fun k a => by cases k <;> rfl
  gave := fun {W X g P k} s h hz => by
    cases k <;> first
      | exact ⟨h, hz⟩
      | exact trivial
  gaveM := fun k => by cases k <;> rfl
  gaveD := fun k => by cases k <;> rfl
  retired := fun {W X g P k} s h hz => by
    cases k <;> first
      | exact ⟨h, hz⟩
      | exact ⟨trivial, (fun h => h), by omega, by omega, ⟨hLy.h1, hLy.h2⟩, rfl, rfl⟩
  retiredM := fun k => by cases k <;> rfl
  retiredD := fun k => by cases k <;> rfl
  cleared := fun {W X g k} s h hz => by
    cases k <;> first
      | exact hz
      | exact ⟨h, fun h => absurd h id⟩
      | exact ⟨trivial, fun h => absurd h id⟩
  clearedN := fun k k' => by cases k <;> simp [segM]
  clearedM := fun k => by cases k <;> rfl
  clearedD := fun k => by cases k <;> rfl
  gload := fun {W X g D P k K} i c hc hg hSI hk hX hP => by
    obtain ⟨rfl, hg⟩ := hg
    cases k <;> simp only at hg
    case sg v m =>
      subst hg
      exact ⟨hSI.seenT hN, (hSI.rng _ (hSI.tX hN)).1, hX _ (hSI.tX hN), fun h => absurd rfl h⟩
    case rg =>
      subst hg
      have hh : (ofW (W.ob hd)).idx ∈ X := by
        obtain ⟨B, hB⟩ := SegSI.headX hSI hN
        generalize (ofW (W.ob hd)).idx = n at hB
        rw [hB]; exact List.mem_cons_self
      exact ⟨hSI.seenH hN, (hSI.rng _ hh).1, hX _ hh, fun h => absurd rfl h⟩
  guarded := fun {W X g P k i c v} s a hg h hk => by
    obtain ⟨rfl, hg⟩ := hg
    cases k <;> simp only at hg
    case sg x m => exact ⟨⟨hk.1, hk.2, h, by omega, by omega, fun j j1 j2 => by omega⟩, fun h => absurd h id⟩
    case rg => exact ⟨⟨h, by omega, by omega, fun j j1 j2 => by omega⟩, fun h => absurd h id⟩
  guardedM := fun k v a => by cases k <;> rfl
  guardedD := fun k v a => by cases k <;> rfl
  ask := fun {W X g P D k K} hSI hk hP hb => by
    have ot : (Ad.ob tl).str l S N := ⟨hLy.t1, hLy.t2⟩
    have oh : (Ad.ob hd).str l S N := ⟨hLy.h1, hLy.h2⟩
    cases k with
    | sl v m w i => have := hP _ _ hk.2.2.1.2.2.1; exact ⟨this.1, this.2, by have := hk.2.2.2.1; omega, hk.2.2.2.2.1⟩
    | sc v m w i => have := hP _ _ hk.2.2.1.2.2.1; exact ⟨this.1, this.2, by have := hk.2.2.2.1; omega, hk.2.2.2.2.1⟩
    | sn v m w => have := hP _ _ hk.2.2.1.2.2.1; exact ⟨this.1, this.2, by omega, by omega⟩
    | f0 v w n => have := hb n (.inr (.inl (by simp [segZ]))); exact ⟨this.1, this.2, by omega, by omega⟩
    | f1 v w n => have := hb n (.inr (.inl (by simp [segZ]))); exact ⟨this.1, this.2, by omega, by omega⟩
    | f2 v w n i => have := hb n (.inr (.inl (by simp [segZ]))); exact ⟨this.1, this.2, by have := hk.2.2.2.2.2.2.1; omega, hk.2.2.2.2.2.2.2.1⟩
    | sa v m w => have := hP _ _ hk.2.1.2.2.1; exact ⟨this.1, this.2, by omega, by omega⟩
    | rl w i => have := hP _ _ hk.1.2.2.1; exact ⟨this.1, this.2, by have := hk.2.1; omega, hk.2.2.1⟩
    | rc w i x => have := hP _ _ hk.1.2.2.1; exact ⟨this.1, this.2, by have := hk.2.1; omega, hk.2.2.1⟩
    | rn w => have := hP _ _ hk.1.2.2.1; exact ⟨this.1, this.2, by omega, by omega⟩
    | rh w nx => exact oh
    | _ => exact ot
  step := fun {W X D g P k K} s m hK hSI hk _ hP hb hXd _ hmi hDX hde => seg_step hLy hN hK s m hSI hk hP hb hXd hmi hDX hde
end
end Go.Proofs.Ytgoijmomglomlaa
/- Plays of a channel: what holds at each step; their beginning. -/
namespace Go.Proofs.Ytgoijmomglomlaa
set_option maxRecDepth 100000

theorem whoF_lt {p : PlayT} (h : PlayOk p) {i : Nat} (hi : i < allF p) : whoF p i < p.want.length := by
  have h1 := h.w1
  unfold whoF
  split
  · rename_i t ht
    have := Int.emod_nonneg t (show (p.want.length : Int) ≠ 0 by omega)
    have := Int.emod_lt_of_pos t (show (0 : Int) < p.want.length by omega)
    omega
  · rename_i hn
    have hn : p.turns.length ≤ i := List.getElem?_eq_none_iff.1 hn
    unfold allF at hi
    rw [Nat.div_lt_iff_lt_mul (by omega)]
    omega
def hdP (p : PlayT) : Int := headF (layP p) 0
def tlP (p : PlayT) : Int := tailF (layP p) 0
def nP (p : PlayT) : Nat := (2 + p.nodes % 8).toNat
abbrev mP (p : PlayT) : Mach Sk := segM (hdP p) (tlP p)
abbrev spP (p : PlayT) : Sp Sk SegG := segZ (hdP p) (tlP p) (nP p)
theorem hdP_eq (p : PlayT) : hdP p = 8 + 12 * (p.want.length : Int) := by
  show withinF (8 + 12 * (p.want.length : Int) + 3 * 0 + 2 * 0) 1 2 0 0 = _
  rw [within_in (by omega) (by omega) (by omega) (by omega)]; omega
theorem tlP_eq (p : PlayT) : tlP p = 9 + 12 * (p.want.length : Int) := by
  show withinF (8 + 12 * (p.want.length : Int) + 3 * 0 + 2 * 0) 1 2 0 1 = _
  rw [within_in (by omega) (by omega) (by omega) (by omega)]; omega
theorem nP_le (p : PlayT) : 2 ≤ nP p ∧ nP p ≤ 9 := by unfold nP; omega
theorem layP_node (p : PlayT) : (layP p).node = 10 + 12 * (p.want.length : Int) := by
  show 8 + 12 * (p.want.length : Int) + 3 * 0 + 2 * 0 + 2 * 1 = _
  omega
theorem layP_lay (p : PlayT) (h1 : 1 ≤ p.want.length) : Lay (layP p) p.want.length (nP p) := by
  have hN : ((nP p : Nat) : Int) = 2 + p.nodes % 8 := by unfold nP; omega
  refine ⟨rfl, hN.symm, rfl, rfl, ?_, ?_, ?_, ?_, h1⟩
  · intro w i a1 a2 a3 a4
    show withinF (4 + 2 * (p.want.length : Int)) p.want.length 3 w i = _
    rw [within_in (by omega) (by omega) (by omega) (by omega)]; omega
  · intro n i a1 a2 a3 a4
    have e : nodeF (layP p) n i = withinF (layP p).node (2 + p.nodes % 8) 8 (n - 1) i := by
      unfold nodeF
      rw [if_neg (by omega)]; rfl
    rw [e, within_in (by omega) (by omega) (by omega) (by omega)]; omega
  · rw [layP_node]; omega
  · show 8 + 12 * (p.want.length : Int) + 3 * 0 + 2 * 0 + 2 * 1 + 8 * (2 + p.nodes % 8) = _
    rw [layP_node, hN]; omega
theorem segLayP (p : PlayT) : SegLay (layP p) p.want.length (hdP p) (tlP p) := by
  have h1 := hdP_eq p
  have h2 := tlP_eq p
  have h3 := layP_node p
  exact ⟨by omega, by omega, by omega, by omega, by omega⟩
theorem soundP (p : PlayT) : Sound (mP p) (spP p) (layP p) p.want.length (nP p) := seg_sound (segLayP p) (by have := nP_le p; omega)
def idleQ (gone : List (Int × Int)) : Q Sk := ⟨.fin ⟨0, false, 0, 0, []⟩, ⟨0, gone, 0, 0, 0⟩⟩
def op0F (o : OpT) : OpT := { o with obj := 0 }
/-- Where a seat's program is. -/
def qAt (p : PlayT) (ws : List OpT) (x : SeatT) : Q Sk := match ws[x.at_]? with
  | some op => runQ (mP p) p.want.length (startQ (hdP p) (tlP p) op x.gone) x.log
  | none => idleQ x.gone
def qsOf (p : PlayT) (seats : List SeatT) : List (Q Sk) := (seats.zip p.want).map fun z => qAt p z.2 z.1
theorem qsOf_get {p : PlayT} {seats : List SeatT} {w : Nat} {x : SeatT} {ws : List OpT} (hx : seats[w]? = some x) (hw : p.want[w]? = some ws) : (qsOf p seats)[w]? = some (qAt p ws x) := by
  unfold qsOf
  rw [List.getElem?_map, (List.getElem?_zip_eq_some (z := (x, ws))).2 ⟨hx, hw⟩]; rfl
theorem qsOf_set {p : PlayT} {seats : List SeatT} {w : Nat} {ws : List OpT} (y : SeatT) (hw : p.want[w]? = some ws) : qsOf p (seats.set w y) = (qsOf p seats).set w (qAt p ws y) := by
  apply List.ext_getElem?
  intro j
  unfold qsOf
  rw [List.getElem?_map, List.getElem?_set, List.length_map, List.length_zip]
  by_cases hj : w = j
  · subst hj
    rw [if_pos rfl]
    have hwl := (List.getElem?_eq_some_iff.1 hw).1
    by_cases hs : w < seats.length
    · rw [if_pos (by omega), (List.getElem?_zip_eq_some (z := (y, ws))).2 ⟨List.getElem?_set_self hs, hw⟩]; rfl
    · rw [if_neg (by omega), List.getElem?_eq_none (by rw [List.length_zip, List.length_set]; omega)]; rfl
  · rw [if_neg hj]
    rw [List.getElem?_map]
    congr 1
    simp only [List.zip, List.getElem?_zipWith]
    rw [List.getElem?_set_ne hj]
/-- Programs, memory, free nodes and the channel's, at a step of a play. -/
structure G (p : PlayT) (i : Nat) (s : PSt) (V : Vw) (F X : List Int) (g : SegG) : Prop where
  n : s.seats.length = p.want.length
  view : View (layP p) p.want.length (nP p) s.m V
  inv : Inv (spP p) (layP p) p.want.length (nP p) i V (qsOf p s.seats) F X g
/-- What an access tells. -/
abbrev actP (p : PlayT) (who : Nat) (V : Vw) (q : Q Sk) : Vw × ResT := act V (asks (mP p) who q.pc)
abbrev accP (p : PlayT) (who : Nat) (q : Q Sk) : AccT := (asks (mP p) who q.pc).acc (layP p)
/-- A seat's turn. -/
inductive StepR (p : PlayT) (who : Nat) (s : PSt) (V : Vw) (F X : List Int) (g : SegG) : PSt → Vw → List Int → List Int → SegG → Prop where
  | idle (x : SeatT) (ws : List OpT) (hx : s.seats[who]? = some x) (hw : p.want[who]? = some ws) (ha : ws.length ≤ x.at_) : StepR p who s V F X g s V F X g
  | done (x : SeatT) (ws : List OpT) (op : OpT) (q : Q Sk) (o : OutT) (hx : s.seats[who]? = some x) (hw : p.want[who]? = some ws) (ho : ws[x.at_]? = some op) (hq : q = qAt p ws x) (hpc : q.pc = .fin o) :
      StepR p who s V F X g ⟨s.m, s.seats.set who ⟨x.at_ + 1, [], q.s.gone⟩, s.out ++ [⟨who, x.at_, op0F op, x.gone, acc0, res0, true, { o with gone := q.s.gone }⟩]⟩ V F X g
  | acc (x : SeatT) (ws : List OpT) (op : OpT) (q : Q Sk) (hx : s.seats[who]? = some x) (hw : p.want[who]? = some ws) (ho : ws[x.at_]? = some op) (hq : q = qAt p ws x) (hpc : q.pc.asking) :
      StepR p who s V F X g ⟨(turnF s.m (accP p who q)).1, s.seats.set who { x with log := x.log ++ [(actP p who V q).2] }, s.out ++ [⟨who, x.at_, op0F op, x.gone, accP p who q, (actP p who V q).2, false, out0⟩]⟩
        (actP p who V q).1 (nxF V F q.pc) (nxX (spP p) V.W X g q.pc).1 (nxX (spP p) V.W X g q.pc).2
structure PlayG (p : PlayT) : Prop where
  ok : PlayOk p
  k : ∀ ws ∈ p.want, ∀ o ∈ ws, (o.kind = 6 ∨ o.kind = 7) ∧ VOk o.a
theorem Inv.mono {κ γ : Type} {M : Mach κ} {Z : Sp κ γ} {l : LayT} {S N K : Nat} {V : Vw} {qs : List (Q κ)} {F X : List Int} {g : γ} (hs : Sound M Z l S N) (h : Inv Z l S N K V qs F X g) : Inv Z l S N (K + 1) V qs F X g :=
  ⟨h.n, h.fr, ⟨h.frk.1, by have := h.frk.2; omega⟩, ⟨h.er.1, by have := h.er.2; omega⟩, h.lf, h.part, h.bi, hs.simono h.si (fun _ h => h) (Nat.le_succ K), h.loc⟩
theorem runQ_snoc {κ : Type} (M : Mach κ) (S : Nat) (q : Q κ) (log : List ResT) (r : ResT) : runQ M S q (log ++ [r]) = tell M S (runQ M S q log) r := by simp [runQ, List.foldl_append]
/-- Where a seat's next program begins. -/
def StartPc (p : PlayT) (pc : Pc Sk) : Prop := (∃ v, VOk v ∧ pc = .g1 (.sg v 0) 0 (.ob (tlP p))) ∨ pc = .g1 .rg 0 (.ob (hdP p)) ∨ ∃ o, pc = .fin o
theorem qAt_next (p : PlayT) (ws : List OpT) (hws : ∀ o ∈ ws, (o.kind = 6 ∨ o.kind = 7) ∧ VOk o.a) (n : Nat) (gone : List (Int × Int)) : ∃ pc', qAt p ws ⟨n, [], gone⟩ = ⟨pc', ⟨0, gone, 0, 0, 0⟩⟩ ∧ StartPc p pc' := by
  unfold qAt
  split
  · rename_i op ho
    have h := hws op (List.mem_of_getElem? ho)
    refine ⟨(startQ (hdP p) (tlP p) op gone).pc, rfl, ?_⟩
    unfold startQ
    simp only
    split
    · exact .inl ⟨op.a, h.2, rfl⟩
    · exact .inr (.inl rfl)
  · exact ⟨_, rfl, .inr (.inr ⟨_, rfl⟩)⟩
theorem start_loc {p : PlayT} {V : Vw} {X : List Int} {g : SegG} {P : Int → Int → Prop} {s : PsT} (hz : s.z) {pc : Pc Sk} (h : StartPc p pc) : LocPc (spP p) (layP p) p.want.length (nP p) V X g P s pc ∧ mineP (spP p) pc = [] ∧ deadP (spP p) pc = [] ∧ (∀ (s : PsT), goneP (⟨pc, s⟩ : Q Sk) = s.gone) ∧ ∀ (s : PsT) (j i n e : Int), InG s.gone n e → Keeps (spP p) j i n e ⟨pc, s⟩ := by
  have hl := segLayP p
  rcases h with ⟨v, hv, rfl⟩ | rfl | ⟨o, rfl⟩
  · exact ⟨⟨⟨hv, by omega, fun h => absurd rfl h⟩, (fun h => h), by omega, by omega, ⟨hl.t1, hl.t2⟩, rfl, rfl⟩, rfl, rfl, fun _ => rfl, fun s j i n e h => .inr h⟩
  · exact ⟨⟨trivial, (fun h => h), by omega, by omega, ⟨hl.h1, hl.h2⟩, rfl, rfl⟩, rfl, rfl, fun _ => rfl, fun s j i n e h => .inr h⟩
  · exact ⟨hz, rfl, rfl, fun _ => rfl, fun s j i n e h => .inr h⟩
/-- An operation is over, and another one begins, or none. -/
theorem inv_done {p : PlayT} {K : Nat} {V : Vw} {qs : List (Q Sk)} {F X : List Int} {g : SegG} (hI : Inv (spP p) (layP p) p.want.length (nP p) K V qs F X g) {w : Nat} {o : OutT} {s : PsT} (hq : qs[w]? = some ⟨.fin o, s⟩) {pc' : Pc Sk} (hp : StartPc p pc') : Inv (spP p) (layP p) p.want.length (nP p) (K + 1) V (qs.set w ⟨pc', ⟨0, s.gone, 0, 0, 0⟩⟩) F X g := by
  have hl := hI.loc w _ hq
  have hz : s.z := hl.pc
  obtain ⟨z0, z1, z2⟩ := hz
  have he : ∀ i, (⟨0, s.gone, 0, 0, 0⟩ : PsT).e i = s.e i := fun i => by
    unfold PsT.e
    simp only [z0, z1, z2]
  have h0 := start_loc (p := p) (V := V) (X := X) (g := g) (P := noP) (s := ⟨0, s.gone, 0, 0, 0⟩) ⟨rfl, rfl, rfl⟩ hp
  obtain ⟨_, m1, m2, m3, m4⟩ := h0
  refine hI.quiet (soundP p) hq (fun n => ?_) (fun n hn => ?_) he (fun j x i n _ _ _ _ h => ?_) (fun hP hd => (start_loc ⟨rfl, rfl, rfl⟩ hp).1)
  · simp only [own, deadQ, m1, m2, m3]; rfl
  · simp only [deadQ, m2, m3] at hn; exact hn
  · refine m4 _ _ _ _ _ ?_
    rcases h with h | h
    · simp [deadP] at h
    · exact h
/-- What is asked for is there. -/
theorem ask_ok {κ γ : Type} {M : Mach κ} {Z : Sp κ γ} {l : LayT} {S N K : Nat} {V : Vw} {qs : List (Q κ)} {F X : List Int} {g : γ} (hs : Sound M Z l S N) (hI : Inv Z l S N K V qs F X g) {w : Nat} {q : Q κ} (hq : qs[w]? = some q) (hf : q.pc.asking) : (asks M w q.pc).ad.ok l S N := by
  have hl := hI.loc w _ hq
  have hw : w < S := by have := (List.getElem?_eq_some_iff.1 hq).1; have := hI.n; omega
  obtain ⟨pc, s⟩ := q
  have hpc := hl.pc
  cases pc with
  | clr k => exact absurd hf id
  | fin o => exact absurd hf id
  | at_ k =>
    have hnb : ∀ i n, Pr Z V X qs w s i n → 1 ≤ n ∧ n ≤ (N : Int) := fun i n h => (pr_in h).elim (fun h => hI.inX h) fun h => (hI.dq h).1
    have hmn : ∀ n ∈ Z.mine k, n ∈ own Z ⟨.at_ k, s⟩ := fun n h => by unfold own; rw [List.mem_append]; exact .inl h
    have hdo : ∀ n ∈ Z.dead k, n ∈ own Z ⟨.at_ k, s⟩ := fun n h => by unfold own deadQ; rw [List.mem_append, List.mem_append]; exact .inr (.inl h)
    have := hs.ask hI.si hpc.1 hnb (fun n h => h.elim (fun h => hI.inX h) fun h => h.elim (fun h => hI.inOwn hq (hmn n h)) fun h => hI.inOwn hq (hdo n h))
    show (M.ask k).ad.ok l S N
    cases ha : M.ask k with
    | ld a => rw [ha] at this; exact Ad.str_ok this
    | st a v => rw [ha] at this; exact Ad.str_ok this
    | cs a o v => rw [ha] at this; exact Ad.str_ok this
    | up => trivial
  | t1 k => trivial
  | t2 k f => exact ⟨hpc.2.2.2, hpc.2.2.1.le⟩
  | t3 k f lk => trivial
  | t4 k n a => trivial
  | t5 k n a b => exact hI.inOwn hq (by simp [own, mineP])
  | g1 k i c => exact Ad.str_ok hpc.2.2.2.2.1
  | g2 k i c v a => trivial
  | g3 k i c er => exact ⟨by omega, by omega, hpc.2.2.1, hpc.2.2.2.1⟩
  | c k i => exact ⟨by omega, by omega, hpc.2.1, hpc.2.2⟩
  | v1 k n => trivial
  | v2 k n f => exact hI.inOwn hq (by simp [own, mineP])
  | v3 k n f => trivial
  | r1 k n => trivial
  | r2 k n er => trivial
  | rs k held c cs =>
    obtain ⟨w', i, h1, h2, h3, h4, rfl⟩ := hpc.2.2.2 c (by simp)
    exact ⟨h1, h2, h3, h4⟩
  | s1 k held y gs stay => exact hI.inOwn hq (by simp [own, deadQ, goneP])
  | w1 k held y gs stay => trivial
  | w2 k held y gs stay f => exact hI.inOwn hq (by simp [own, deadQ, goneP])
  | w3 k held y gs stay f => trivial
theorem loc_asking {κ γ : Type} {Z : Sp κ γ} {l : LayT} {S N : Nat} {V : Vw} {X : List Int} {g : γ} {P : Int → Int → Prop} {s : PsT} {pc : Pc κ} (h : LocPc Z l S N V X g P s pc) (hf : ∀ o, pc ≠ .fin o) : pc.asking := by
  cases pc <;> first | trivial | exact absurd rfl (hf _) | exact absurd h id
theorem G.step {p : PlayT} (hp : PlayG p) {i : Nat} {s : PSt} {V : Vw} {F X : List Int} {g : SegG} (hG : G p i s V F X g) (hi : i ≤ 100000) {who : Nat} (hwho : who < p.want.length) : ∃ s' V' F' X' g', stepP (layP p) p.want who s = .ok s' ∧ StepR p who s V F X g s' V' F' X' g' ∧ G p (i + 1) s' V' F' X' g' := by
  have hL := layP_lay p hp.ok.w1
  have hN := nP_le p
  obtain ⟨x, hx⟩ : ∃ x, s.seats[who]? = some x := ⟨s.seats[who]'(by have := hG.n; omega), List.getElem?_eq_getElem _⟩
  obtain ⟨ws, hws⟩ : ∃ ws, p.want[who]? = some ws := ⟨p.want[who], List.getElem?_eq_getElem hwho⟩
  have hqg := qsOf_get (p := p) hx hws
  have hst : stepP (layP p) p.want who s = (match ws[x.at_]? with
    | none => .ok s
    | some op0 =>
      let r := nextF (layP p) who x.gone (op0F op0) x.log
      if r.2.2 then .ok ⟨s.m, s.seats.set who ⟨x.at_ + 1, [], r.2.1.gone⟩, s.out ++ [⟨who, x.at_, op0F op0, x.gone, acc0, res0, true, r.2.1⟩]⟩
      else if faultF s.m.length r.1 = 0 then .ok ⟨(turnF s.m r.1).1, s.seats.set who { x with log := x.log ++ [(turnF s.m r.1).2] }, s.out ++ [⟨who, x.at_, op0F op0, x.gone, r.1, (turnF s.m r.1).2, false, out0⟩]⟩
      else .error s) := by
    unfold stepP
    simp only [hx, hws]
    rfl
  rw [hst]
  cases ho : ws[x.at_]? with
  | none =>
    have ha : ws.length ≤ x.at_ := List.getElem?_eq_none_iff.1 ho
    exact ⟨s, V, F, X, g, rfl, .idle x ws hx hws ha, ⟨hG.n, hG.view, hG.inv.mono (soundP p)⟩⟩
  | some op =>
    have hk := hp.k ws (List.mem_of_getElem? hws) op (List.mem_of_getElem? ho)
    have hhd : ¬ headF (layP p) 0 < 0 := by have := hdP_eq p; unfold hdP at this; omega
    have hrun := next_run (l := layP p) (S := p.want.length) (me := who) rfl (gone := x.gone) (op := op0F op) (log := x.log) hhd hk.1
    have hqa : qAt p ws x = runQ (mP p) p.want.length (startQ (hdP p) (tlP p) (op0F op) x.gone) x.log := by unfold qAt; rw [ho]; rfl
    have hrun2 : nextF (layP p) who x.gone (op0F op) x.log = endQ (mP p) (layP p) who (qAt p ws x) := by rw [hqa]; exact hrun
    simp only [hrun2]
    generalize hqe : qAt p ws x = q at hqg
    by_cases hf : ∃ o, q.pc = .fin o
    · obtain ⟨o, hpc⟩ := hf
      have he : endQ (mP p) (layP p) who q = (acc0, { o with gone := q.s.gone }, true) := by unfold endQ; rw [hpc]
      simp only [he, if_true]
      refine ⟨_, V, F, X, g, rfl, .done x ws op q o hx hws ho hqe.symm hpc, ⟨by simp [hG.n], hG.view, ?_⟩⟩
      simp only
      rw [qsOf_set _ hws]
      obtain ⟨pc', e1, e2⟩ := qAt_next p ws (hp.k ws (List.mem_of_getElem? hws)) (x.at_ + 1) q.s.gone
      rw [e1]
      obtain ⟨pc, s0⟩ := q
      simp only at hpc
      subst hpc
      exact inv_done hG.inv hqg e2
    · have hf' : ∀ o, q.pc ≠ .fin o := fun o h => hf ⟨o, h⟩
      have hask := loc_asking (hG.inv.loc who q hqg).pc hf'
      have he : endQ (mP p) (layP p) who q = (accP p who q, out0, false) := by
        unfold endQ
        split
        · rename_i o h; exact absurd h (hf' o)
        · rfl
      have her := hG.inv.er
      have hact := acts hL hG.view (a := asks (mP p) who q.pc) ⟨by omega, by omega⟩ (ask_ok (soundP p) hG.inv hqg hask)
      simp only [he, Bool.false_eq_true, if_false, hact.fault, if_true, hact.res]
      refine ⟨_, _, _, _, _, rfl, .acc x ws op q hx hws ho hqe.symm hask, ⟨by simp [hG.n], hact.view, ?_⟩⟩
      simp only
      rw [qsOf_set _ hws]
      have e1 : qAt p ws { x with log := x.log ++ [(actP p who V q).2] } = tell (mP p) p.want.length q (actP p who V q).2 := by
        rw [← hqe]
        unfold qAt
        simp only [ho]
        rw [runQ_snoc]
      rw [e1]
      exact inv_act (soundP p) (by omega) hi hG.inv hqg hask
/-- What goes on from step to step goes on through a play. -/
theorem play_ind {p : PlayT} (hp : PlayG p) (J : Nat → PSt → Vw → List Int → List Int → SegG → Prop)
    (hJ : ∀ i s V F X g s' V' F' X' g', i < allF p → G p i s V F X g → StepR p (whoF p i) s V F X g s' V' F' X' g' → G p (i + 1) s' V' F' X' g' → J i s V F X g → J (i + 1) s' V' F' X' g') :
    ∀ (k i : Nat) (s : PSt) (V : Vw) (F X : List Int) (g : SegG), i + k ≤ allF p → G p i s V F X g → J i s V F X g → ∃ s' V' F' X' g', playL (layP p) p k i s = .ok s' ∧ G p (i + k) s' V' F' X' g' ∧ J (i + k) s' V' F' X' g'
  | 0, i, s, V, F, X, g, _, hG, h => ⟨s, V, F, X, g, rfl, hG, h⟩
  | k + 1, i, s, V, F, X, g, hk, hG, h => by
    have hall : allF p ≤ 3200 := by have := hp.ok.w3; have := hp.ok.t; unfold allF; omega
    have hw := whoF_lt hp.ok (show i < allF p by omega)
    obtain ⟨s1, V1, F1, X1, g1, h1, h2, h3⟩ := hG.step hp (by omega) hw
    obtain ⟨s', V', F', X', g', h4, h5, h6⟩ := play_ind hp J hJ k (i + 1) s1 V1 F1 X1 g1 (by omega) h3 (hJ i s V F X g s1 V1 F1 X1 g1 (by omega) hG h2 h3 h)
    refine ⟨s', V', F', X', g', ?_, by rw [show i + (k + 1) = i + 1 + k by omega]; exact h5, by rw [show i + (k + 1) = i + 1 + k by omega]; exact h6⟩
    rw [playL, if_neg (by omega), h1]
    exact h4

/-! ### The beginning -/
def V0 (S N : Nat) : Vw := ⟨1, 2, fun _ _ => 0, fun _ => 0, fun n => if n = 1 ∨ n = (N : Int) then 0 else n + 1, ⟨fun c => if c = 8 + 12 * (S : Int) ∨ c = 9 + 12 * (S : Int) then 1 else 0, fun _ _ => 0⟩⟩
/-- The memory in the beginning is seen so. -/
def begB (S N : Nat) : Bool :=
  let l := layF S N 0 0 1
  let m := beginF l
  decide (m.length = l.size.toNat) && decide (cellAt m l.free = 2) && decide (cellAt m l.era = 1) &&
  ((List.range 200).all fun c => (decide (c < 4 + 5 * S) || decide (10 + 12 * S ≤ c)) || decide (cellAt m c = (V0 S N).W.ob c)) &&
  ((List.range S).all fun w => (List.range 3).all fun i => decide (cellAt m (resvF l w i) = 0)) &&
  ((List.range N).all fun n => ((List.range 7).all fun i => decide (cellAt m (nodeF l ((n : Int) + 1) i) = 0)) && decide (cellAt m (nodeF l ((n : Int) + 1) 7) = (V0 S N).lk ((n : Int) + 1)))
theorem beg_all : ((List.range 3).all fun a => (List.range 8).all fun b => begB (a + 1) (b + 2)) = true := by decide +kernel
theorem layP_eq (p : PlayT) : layP p = layF p.want.length (nP p) 0 0 1 := by
  unfold layP nP
  rw [show ((2 + p.nodes % 8).toNat : Int) = 2 + p.nodes % 8 by omega]
theorem view_start {p : PlayT} (hp : PlayOk p) : View (layP p) p.want.length (nP p) (beginF (layP p)) (V0 p.want.length (nP p)) := by
  have h1 := hp.w1
  have h3 := hp.w3
  have hN := nP_le p
  have hnode := layP_node p
  rw [layP_eq] at hnode ⊢
  generalize nP p = N at *
  generalize p.want.length = S at *
  have hb : begB S N = true := by
    have h := List.all_eq_true.1 (List.all_eq_true.1 beg_all (S - 1) (List.mem_range.2 (by omega))) (N - 2) (List.mem_range.2 (by omega))
    rw [show S - 1 + 1 = S by omega, show N - 2 + 2 = N by omega] at h
    exact h
  unfold begB at hb
  simp only [Bool.and_eq_true, decide_eq_true_eq, List.all_eq_true, Bool.or_eq_true] at hb
  obtain ⟨⟨⟨⟨⟨b1, b2⟩, b3⟩, b4⟩, b5⟩, b6⟩ := hb
  refine ⟨b1, fun a ha => ?_⟩
  cases a with
  | era => exact b3
  | free => exact b2
  | ob c =>
    obtain ⟨c1, c2⟩ := ha
    have := b4 c.toNat (List.mem_range.2 (by omega))
    rw [show ((c.toNat : Nat) : Int) = c by omega] at this
    rcases this with h | h
    · omega
    · exact h
  | rv w i =>
    obtain ⟨w0, w1, i0, i1⟩ := ha
    have := b5 w.toNat (List.mem_range.2 (by omega)) i.toNat (List.mem_range.2 (by omega))
    rw [show ((w.toNat : Nat) : Int) = w by omega, show ((i.toNat : Nat) : Int) = i by omega] at this
    exact this
  | nd n i =>
    obtain ⟨n0, n1, i0, i1⟩ := ha
    have := (b6 (n - 1).toNat (List.mem_range.2 (by omega))).1 i.toNat (List.mem_range.2 (by omega))
    rw [show (((n - 1).toNat : Nat) : Int) = n - 1 by omega, show ((i.toNat : Nat) : Int) = i by omega, show n - 1 + 1 = n by omega] at this
    exact this
  | bi n =>
    obtain ⟨n0, n1⟩ := ha
    have := (b6 (n - 1).toNat (List.mem_range.2 (by omega))).1 6 (List.mem_range.2 (by omega))
    rw [show (((n - 1).toNat : Nat) : Int) = n - 1 by omega, show n - 1 + 1 = n by omega] at this
    exact this
  | lk n =>
    obtain ⟨n0, n1⟩ := ha
    have := (b6 (n - 1).toNat (List.mem_range.2 (by omega))).2
    rw [show (((n - 1).toNat : Nat) : Int) = n - 1 by omega, show n - 1 + 1 = n by omega] at this
    exact this
def upF (a : Int) : Nat → List Int
  | 0 => []
  | k + 1 => a :: upF (a + 1) k
theorem upF_count (n : Int) : ∀ (k : Nat) (a : Int), (upF a k).count n = if a ≤ n ∧ n < a + k then 1 else 0
  | 0, a => by simp only [upF, List.count_nil]; rw [if_neg (by omega)]
  | k + 1, a => by
    rw [upF, List.count_cons, upF_count n k (a + 1)]
    by_cases h : a = n
    · subst h
      rw [if_neg (show ¬ (a + 1 ≤ a ∧ a < a + 1 + (k : Int)) by omega), if_pos (show a ≤ a ∧ a < a + ((k + 1 : Nat) : Int) by omega)]; simp
    · have hb : (a == n) = false := by simp [h]
      rw [hb]
      by_cases h2 : a + 1 ≤ n ∧ n < a + 1 + (k : Int)
      · rw [if_pos h2, if_pos (show a ≤ n ∧ n < a + ((k + 1 : Nat) : Int) by omega)]; rfl
      · rw [if_neg h2, if_neg (show ¬ (a ≤ n ∧ n < a + ((k + 1 : Nat) : Int)) by omega)]; rfl
theorem upF_linked (S N : Nat) : ∀ (k : Nat) (a : Int), 2 ≤ a → a + k = N + 1 → Linked (V0 S N).lk (upF a k)
  | 0, a, _, _ => trivial
  | k + 1, a, ha, h => by
    refine ⟨?_, upF_linked S N k (a + 1) (by omega) (by omega)⟩
    simp only [V0]
    cases k with
    | zero => rw [if_pos (by omega)]; rfl
    | succ k => rw [if_neg (by omega)]; rfl
def g0 : SegG := ⟨0, 0, []⟩
theorem G_start {p : PlayT} (hp : PlayG p) : G p 0 (start p) (V0 p.want.length (nP p)) (upF 2 (nP p - 1)) [1] g0 := by
  have hv := view_start hp.ok
  have hN := nP_le p
  have hh := hdP_eq p
  have ht := tlP_eq p
  have hqs : ∀ (w : Nat) (q : Q Sk), (qsOf p (start p).seats)[w]? = some q → ∃ pc', q = ⟨pc', ⟨0, [], 0, 0, 0⟩⟩ ∧ StartPc p pc' := by
    intro w q hq
    unfold qsOf at hq
    rw [List.getElem?_map] at hq
    rcases hz : ((start p).seats.zip p.want)[w]? with _ | ⟨x, ws⟩
    · rw [hz] at hq; cases hq
    · rw [hz] at hq
      cases hq
      obtain ⟨h1, h2⟩ := List.getElem?_zip_eq_some.1 hz
      simp only [start, List.getElem?_replicate] at h1
      split at h1
      · cases h1
        exact qAt_next p ws (hp.k ws (List.mem_of_getElem? h2)) 0 []
      · cases h1
  have hown : ∀ n, ownSum (spP p) (qsOf p (start p).seats) n = 0 := by
    intro n
    unfold ownSum
    have key : ∀ (l : List (Q Sk)), (∀ q ∈ l, own (spP p) q = []) → (l.map fun q => (own (spP p) q).count n).sum = 0 := by
      intro l
      induction l with
      | nil => intro _; rfl
      | cons q l ih =>
        intro h
        rw [List.map_cons, List.sum_cons, h q (by simp), ih (fun q' hq' => h q' (by simp [hq']))]
        rfl
    refine key _ (fun q hq => ?_)
    obtain ⟨w, hw⟩ := List.getElem?_of_mem hq
    obtain ⟨pc', rfl, h2⟩ := hqs w q hw
    obtain ⟨_, m1, m2, m3, _⟩ := start_loc (p := p) (V := V0 0 0) (X := []) (g := g0) (P := noP) (s := ⟨0, [], 0, 0, 0⟩) ⟨rfl, rfl, rfl⟩ h2
    simp only [own, deadQ, m1, m2, m3]; rfl
  have hD : ∀ n, ¬ Dq (spP p) (qsOf p (start p).seats) n := fun n ⟨j, q, hq, hn⟩ => by
    obtain ⟨pc', rfl, h2⟩ := hqs j q hq
    obtain ⟨_, m1, m2, m3, _⟩ := start_loc (p := p) (V := V0 0 0) (X := []) (g := g0) (P := noP) (s := ⟨0, [], 0, 0, 0⟩) ⟨rfl, rfl, rfl⟩ h2
    simp only [deadQ, m2, m3] at hn
    simp at hn
  refine ⟨by simp [start], hv, ?_⟩
  refine ⟨by simp [qsOf, start], ?_, by simp [V0], by simp [V0], upF_linked _ _ _ 2 (by omega) (by omega), fun n => ?_, fun n n0 n1 => by simp [V0], ⟨?_, by simp [g0], ⟨0, 1, rfl, by simp, ?_⟩, ⟨rfl, trivial⟩, ⟨0, 5, ?_, by omega, by simp [g0]⟩, fun v hv => by simp [g0] at hv, fun n hn => absurd hn (hD n), fun n hn => by simp at hn; omega⟩, fun w q hq => ?_⟩
  · obtain ⟨k, hk⟩ : ∃ k, nP p - 1 = k + 1 := ⟨nP p - 2, by omega⟩
    rw [hk]
    simp [V0, upF]
  · rw [hown, upF_count]
    have : [(1 : Int)].count n = if n = 1 then 1 else 0 := by
      by_cases h : n = 1
      · subst h; simp
      · rw [if_neg h, List.count_eq_zero]; simp [h]
    rw [this]
    by_cases h : n = 1
    · rw [if_pos h, if_neg (by omega), if_pos (by omega)]
    · rw [if_neg h]
      by_cases h2 : 2 ≤ n ∧ n < 2 + ((nP p - 1 : Nat) : Int)
      · rw [if_pos h2, if_pos (by omega)]
      · rw [if_neg h2, if_neg (by omega)]
  · show (if hdP p = 8 + 12 * (p.want.length : Int) ∨ hdP p = 9 + 12 * (p.want.length : Int) then (1 : Int) else 0) = _
    rw [if_pos (.inl hh)]; simp [g0]
  · show (if tlP p = 8 + 12 * (p.want.length : Int) ∨ tlP p = 9 + 12 * (p.want.length : Int) then (1 : Int) else 0) = _
    rw [if_pos (.inr ht)]; simp [g0]
  · rfl
  · obtain ⟨pc', rfl, h2⟩ := hqs w q hq
    have e0 : ∀ i : Int, (⟨0, [], 0, 0, 0⟩ : PsT).e i = 0 := fun i => by
      unfold PsT.e
      split
      · rfl
      · split <;> rfl
    refine ⟨fun i _ _ => ?_, fun i => ?_, (start_loc ⟨rfl, rfl, rfl⟩ h2).1⟩
    · show (0 : Int) = _
      exact (e0 i).symm
    · show 0 ≤ (⟨0, [], 0, 0, 0⟩ : PsT).e i ∧ (⟨0, [], 0, 0, 0⟩ : PsT).e i ≤ 1
      rw [e0]; omega
end Go.Proofs.Ytgoijmomglomlaa
/- Programs of sends and receives: their points, what they will tell, and which places they come to. -/
namespace Go.Proofs.Ytgoijmomglomlaa
set_option maxRecDepth 100000

/-- The point, if it is behind us. -/
def kpt : Sk → Option Int
  | .sb _ _ a => some a
  | .sv a => some a
  | .fi o => some o.point
  | _ => none
/-- What will be told, if the point is behind us: a value, whether it went, a code. -/
def kout : Sk → Option (Int × Bool × Int)
  | .sb _ _ _ => some (0, true, 0)
  | .sv _ => some (0, true, 0)
  | .fi o => some (o.val, o.is, o.err)
  | _ => none
def ptP : Pc Sk → Option Int
  | .fin o => some o.point
  | .at_ k | .t1 k | .t2 k _ | .t3 k _ _ | .t4 k _ _ | .t5 k _ _ _ | .g1 k _ _ | .g2 k _ _ _ _ | .g3 k _ _ _ | .clr k | .c k _ | .v1 k _ | .v2 k _ _ | .v3 k _ _ | .r1 k _ | .r2 k _ _ | .rs k _ _ _ | .s1 k _ _ _ _ | .w1 k _ _ _ _ | .w2 k _ _ _ _ _ | .w3 k _ _ _ _ _ => kpt k
def outP : Pc Sk → Option (Int × Bool × Int)
  | .fin o => some (o.val, o.is, o.err)
  | .at_ k | .t1 k | .t2 k _ | .t3 k _ _ | .t4 k _ _ | .t5 k _ _ _ | .g1 k _ _ | .g2 k _ _ _ _ | .g3 k _ _ _ | .clr k | .c k _ | .v1 k _ | .v2 k _ _ | .v3 k _ _ | .r1 k _ | .r2 k _ _ | .rs k _ _ _ | .s1 k _ _ _ _ | .w1 k _ _ _ _ | .w2 k _ _ _ _ _ | .w3 k _ _ _ _ _ => kout k
/-- Places that a program comes to. -/
def Shape (q : Q Sk) : Prop := match q.pc with
  | .at_ k => match k with
    | .sl .. | .sc .. | .sn .. | .st .. | .f0 .. | .f1 .. | .f2 .. | .sa .. | .sb .. | .rl .. | .rc .. | .rn .. | .re .. | .rt .. | .rh .. => True
    | _ => False
  | .t1 k | .t2 k _ | .t3 k _ _ | .t4 k _ _ | .t5 k _ _ _ => ∃ v w, k = .tk v w
  | .g1 k _ _ | .g2 k _ _ _ _ | .g3 k _ _ _ => (∃ v m, k = .sg v m) ∨ k = .rg
  | .clr _ => False
  | .c k i => q.s.e i ≠ 0 ∧ 0 ≤ i ∧ i ≤ 2 ∧ ((∃ o, k = .fi o) ∨ ∃ n, k = .rx n)
  | .v1 k _ | .v2 k _ _ | .v3 k _ _ => ∃ a, k = .sv a
  | .r1 k _ | .r2 k _ _ | .rs k _ _ _ | .s1 k _ _ _ _ | .w1 k _ _ _ _ | .w2 k _ _ _ _ _ | .w3 k _ _ _ _ _ => k = .rr
  | .fin _ => True
section
variable {hd tl : Int} {S : Nat}
theorem clr_pt (k : Sk) (s : PsT) : ptP (clrQ (segM hd tl) k s).pc = kpt k ∧ outP (clrQ (segM hd tl) k s).pc = kout k := by
  rcases clr_cases (M := segM hd tl) k s with ⟨i, _, _, _, e⟩ | ⟨_, e⟩
  · rw [e]; exact ⟨rfl, rfl⟩
  · rw [e]
    cases k <;> exact ⟨rfl, rfl⟩
theorem norm_pt (pc : Pc Sk) (s : PsT) : ptP (norm (segM hd tl) pc s).pc = ptP pc ∧ outP (norm (segM hd tl) pc s).pc = outP pc := by
  unfold norm
  split
  · exact clr_pt _ s
  · exact ⟨rfl, rfl⟩
theorem sift_pt (k : Sk) (held : List Int) (s : PsT) (gs stay : List (Int × Int)) : ptP (siftQ (segM hd tl) k held s gs stay).pc = kpt k ∧ outP (siftQ (segM hd tl) k held s gs stay).pc = kout k := by
  cases gs with
  | nil =>
    have := norm_pt (hd := hd) (tl := tl) ((segM hd tl).retired k) { s with gone := stay }
    unfold siftQ
    rw [this.1, this.2]
    cases k <;> exact ⟨rfl, rfl⟩
  | cons g gs => exact ⟨rfl, rfl⟩
theorem scan_pt (k : Sk) (held : List Int) (s : PsT) (cs : List Ad) : ptP (scanQ (segM hd tl) k held s cs).pc = kpt k ∧ outP (scanQ (segM hd tl) k held s cs).pc = kout k := by
  cases cs with
  | nil => exact sift_pt _ _ _ _ _
  | cons c cs => exact ⟨rfl, rfl⟩
/-- A point that is behind us stays, and so does what will be told. -/
theorem pt_tell {q : Q Sk} {r : ResT} {a : Int} (h : ptP q.pc = some a) : ptP (tell (segM hd tl) S q r).pc = some a ∧ outP (tell (segM hd tl) S q r).pc = outP q.pc := by
  obtain ⟨pc, s⟩ := q
  cases pc with
  | fin o => exact ⟨h, rfl⟩
  | clr k => exact ⟨h, rfl⟩
  | at_ k =>
    have := norm_pt (hd := hd) (tl := tl) (segTell hd tl k s.made r) s.up
    show ptP (norm (segM hd tl) (segTell hd tl k s.made r) s.up).pc = _ ∧ outP (norm (segM hd tl) (segTell hd tl k s.made r) s.up).pc = _
    rw [this.1, this.2]
    cases k <;> first | exact ⟨h, rfl⟩ | cases h
  | t1 k =>
    show ptP (if (ofW r.val).idx = 0 then norm (segM hd tl) _ s.up else _ : Q Sk).pc = _ ∧ outP (if (ofW r.val).idx = 0 then norm (segM hd tl) _ s.up else _ : Q Sk).pc = _
    split
    · rw [(norm_pt _ _).1, (norm_pt _ _).2]
      cases k <;> first | exact ⟨h, rfl⟩ | cases h
    · exact ⟨h, rfl⟩
  | t2 k f => exact ⟨h, rfl⟩
  | t3 k f lk =>
    show ptP (if r.ok then _ else _ : Q Sk).pc = _ ∧ outP (if r.ok then _ else _ : Q Sk).pc = _
    split <;> exact ⟨h, rfl⟩
  | t4 k n b => exact ⟨h, rfl⟩
  | t5 k n b c =>
    show ptP (norm (segM hd tl) _ s.up).pc = _ ∧ outP (norm (segM hd tl) _ s.up).pc = _
    rw [(norm_pt _ _).1, (norm_pt _ _).2]
    cases k <;> first | exact ⟨h, rfl⟩ | cases h
  | g1 k i c => exact ⟨h, rfl⟩
  | g2 k i c v b =>
    show ptP (if r.val = s.e i then norm (segM hd tl) _ s.up else _ : Q Sk).pc = _ ∧ outP (if r.val = s.e i then norm (segM hd tl) _ s.up else _ : Q Sk).pc = _
    split
    · rw [(norm_pt _ _).1, (norm_pt _ _).2]
      cases k <;> first | exact ⟨h, rfl⟩ | cases h
    · exact ⟨h, rfl⟩
  | g3 k i c er => exact ⟨h, rfl⟩
  | c k i =>
    have := clr_pt (hd := hd) (tl := tl) k (s.up.putE i 0)
    exact ⟨this.1.trans h, this.2⟩
  | v1 k n => exact ⟨h, rfl⟩
  | v2 k n f => exact ⟨h, rfl⟩
  | v3 k n f =>
    show ptP (if r.ok then norm (segM hd tl) _ s.up else _ : Q Sk).pc = _ ∧ outP (if r.ok then norm (segM hd tl) _ s.up else _ : Q Sk).pc = _
    split
    · rw [(norm_pt _ _).1, (norm_pt _ _).2]
      cases k <;> first | exact ⟨h, rfl⟩ | cases h
    · exact ⟨h, rfl⟩
  | r1 k n => exact ⟨h, rfl⟩
  | r2 k n er =>
    show ptP (if (s.gone.length : Int) + 1 < 2 * (S : Int) then norm (segM hd tl) _ _ else _ : Q Sk).pc = _ ∧ outP (if (s.gone.length : Int) + 1 < 2 * (S : Int) then norm (segM hd tl) _ _ else _ : Q Sk).pc = _
    split
    · rw [(norm_pt _ _).1, (norm_pt _ _).2]
      cases k <;> first | exact ⟨h, rfl⟩ | cases h
    · have := scan_pt (hd := hd) (tl := tl) k [] { s.up with gone := s.gone ++ [(n, er)] } (resvsA 0 S)
      exact ⟨this.1.trans h, this.2⟩
  | rs k held c cs =>
    have := scan_pt (hd := hd) (tl := tl) k (held ++ [r.val]) s.up cs
    exact ⟨this.1.trans h, this.2⟩
  | s1 k held y gs stay =>
    show ptP (if held.any (inB (max1 r.val) y.2) = true then siftQ (segM hd tl) _ _ _ _ _ else _ : Q Sk).pc = _ ∧ outP (if held.any (inB (max1 r.val) y.2) = true then siftQ (segM hd tl) _ _ _ _ _ else _ : Q Sk).pc = _
    split
    · exact ⟨(sift_pt _ _ _ _ _).1.trans h, (sift_pt _ _ _ _ _).2⟩
    · exact ⟨h, rfl⟩
  | w1 k held y gs stay => exact ⟨h, rfl⟩
  | w2 k held y gs stay f => exact ⟨h, rfl⟩
  | w3 k held y gs stay f =>
    show ptP (if r.ok then siftQ (segM hd tl) _ _ _ _ _ else _ : Q Sk).pc = _ ∧ outP (if r.ok then siftQ (segM hd tl) _ _ _ _ _ else _ : Q Sk).pc = _
    split
    · exact ⟨(sift_pt _ _ _ _ _).1.trans h, (sift_pt _ _ _ _ _).2⟩
    · exact ⟨h, rfl⟩
theorem clr_shape {k : Sk} (s : PsT) (hk : (∃ o, k = .fi o) ∨ ∃ n, k = .rx n) : Shape (clrQ (segM hd tl) k s) := by
  rcases clr_cases (M := segM hd tl) k s with ⟨i, i0, i2, h, e⟩ | ⟨_, e⟩
  · rw [e]; exact ⟨h, i0, i2, hk⟩
  · rw [e]
    rcases hk with ⟨o, rfl⟩ | ⟨n, rfl⟩
    · trivial
    · rfl
theorem sift_shape (held : List Int) (s : PsT) (gs stay : List (Int × Int)) : Shape (siftQ (segM hd tl) .rr held s gs stay) := by
  cases gs with
  | nil => exact .inr rfl
  | cons g gs => rfl
theorem scan_shape (held : List Int) (s : PsT) (cs : List Ad) : Shape (scanQ (segM hd tl) .rr held s cs) := by
  cases cs with
  | nil => exact sift_shape _ _ _ _
  | cons c cs => rfl
theorem nextS_shape (v m w i : Int) (s : PsT) : Shape (norm (segM hd tl) (nextS v m w i) s) := by unfold nextS; split <;> trivial
theorem nextR_shape (w i : Int) (s : PsT) : Shape (norm (segM hd tl) (nextR w i) s) := by unfold nextR; split <;> trivial
/-- The places are these; and a point that comes is this access. -/
theorem shape_tell {q : Q Sk} {r : ResT} (h : Shape q) : Shape (tell (segM hd tl) S q r) := by
  obtain ⟨pc, s⟩ := q
  have hfi : ∀ (o : OutT) (s : PsT), Shape (norm (segM hd tl) (.clr (.fi o)) s) := fun o s => clr_shape s (.inl ⟨o, rfl⟩)
  cases pc with
  | fin o => exact h
  | clr k => exact absurd h id
  | at_ k =>
    cases k with
    | sl v m w i =>
      show Shape (norm (segM hd tl) (if r.val = 0 then _ else _) s.up)
      split
      · trivial
      · exact nextS_shape _ _ _ _ _
    | sc v m w i =>
      show Shape (norm (segM hd tl) (if r.ok then (if m = 0 then _ else _) else _) s.up)
      split
      · split
        · exact hfi _ _
        · exact ⟨_, rfl⟩
      · exact nextS_shape _ _ _ _ _
    | sn v m w =>
      show Shape (norm (segM hd tl) (if r.val = 0 then (if m = 0 then _ else _) else _) s.up)
      split
      · split
        · exact ⟨_, _, rfl⟩
        · trivial
      · trivial
    | st v m w nx => exact .inl ⟨_, _, rfl⟩
    | f0 v w n => trivial
    | f1 v w n => trivial
    | f2 v w n i =>
      show Shape (norm (segM hd tl) (if i < 5 then _ else _) s.up)
      split <;> trivial
    | sa v m w =>
      show Shape (norm (segM hd tl) (if r.ok then _ else _) s.up)
      split
      · trivial
      · exact .inl ⟨_, _, rfl⟩
    | sb w m a => exact hfi _ _
    | rl w i =>
      show Shape (norm (segM hd tl) (if r.val = 0 then _ else if r.val = 1 then _ else _) s.up)
      split
      · exact hfi _ _
      · split
        · exact nextR_shape _ _ _
        · trivial
    | rc w i x =>
      show Shape (norm (segM hd tl) (if r.ok then _ else _) s.up)
      split
      · exact hfi _ _
      · exact nextR_shape _ _ _
    | rn w =>
      show Shape (norm (segM hd tl) (if r.val = 0 then _ else _) s.up)
      split
      · exact hfi _ _
      · trivial
    | re w nx =>
      show Shape (norm (segM hd tl) (if (ofW r.val).idx = (ofW w).idx then _ else _) s.up)
      split <;> trivial
    | rt w nx en => trivial
    | rh w nx =>
      show Shape (norm (segM hd tl) (if r.ok then _ else _) s.up)
      split
      · exact clr_shape _ (.inr ⟨_, rfl⟩)
      · exact .inr rfl
    | _ => exact absurd h id
  | t1 k =>
    obtain ⟨v, w, rfl⟩ := h
    show Shape (if (ofW r.val).idx = 0 then norm (segM hd tl) _ s.up else _)
    split
    · exact hfi _ _
    · exact ⟨v, w, rfl⟩
  | t2 k f => exact h
  | t3 k f lk =>
    show Shape (if r.ok then _ else _)
    split <;> exact h
  | t4 k n b => exact h
  | t5 k n b c =>
    obtain ⟨v, w, rfl⟩ := h
    trivial
  | g1 k i c => exact h
  | g2 k i c v b =>
    show Shape (if r.val = s.e i then norm (segM hd tl) _ s.up else _)
    split
    · rcases h with ⟨v', m, rfl⟩ | rfl <;> trivial
    · exact h
  | g3 k i c er => exact h
  | c k i => exact clr_shape _ h.2.2.2
  | v1 k n => exact h
  | v2 k n f => exact h
  | v3 k n f =>
    obtain ⟨a, rfl⟩ := h
    show Shape (if r.ok then norm (segM hd tl) _ s.up else _)
    split
    · exact hfi _ _
    · exact ⟨a, rfl⟩
  | r1 k n => exact h
  | r2 k n er =>
    have h : k = .rr := h
    subst h
    show Shape (if (s.gone.length : Int) + 1 < 2 * (S : Int) then norm (segM hd tl) _ _ else _)
    split
    · exact .inr rfl
    · exact scan_shape _ _ _
  | rs k held c cs =>
    have h : k = .rr := h
    subst h
    exact scan_shape _ _ _
  | s1 k held y gs stay =>
    have h : k = .rr := h
    subst h
    show Shape (if held.any (inB (max1 r.val) y.2) = true then siftQ (segM hd tl) _ _ _ _ _ else _)
    split
    · exact sift_shape _ _ _ _
    · rfl
  | w1 k held y gs stay => exact h
  | w2 k held y gs stay f => exact h
  | w3 k held y gs stay f =>
    have h : k = .rr := h
    subst h
    show Shape (if r.ok then siftQ (segM hd tl) _ _ _ _ _ else _)
    split
    · exact sift_shape _ _ _ _
    · rfl
/-- A point that was not behind us is this access, if it is now. -/
theorem pt_new {q : Q Sk} {r : ResT} (hs : Shape q) (h : ptP q.pc = none) : ptP (tell (segM hd tl) S q r).pc = none ∨ ptP (tell (segM hd tl) S q r).pc = some (q.s.made : Int) := by
  obtain ⟨pc, s⟩ := q
  have hfi : ∀ (o : OutT) (s : PsT), ptP (norm (segM hd tl) (.clr (.fi o)) s).pc = some o.point := fun o s => (norm_pt _ _).1
  have hnS : ∀ (v m w i : Int) (s : PsT), ptP (norm (segM hd tl) (nextS v m w i) s).pc = none := fun v m w i s => by rw [(norm_pt _ _).1]; unfold nextS; split <;> rfl
  have hnR : ∀ (w i : Int) (s : PsT), ptP (norm (segM hd tl) (nextR w i) s).pc = none := fun w i s => by rw [(norm_pt _ _).1]; unfold nextR; split <;> rfl
  cases pc with
  | fin o => cases h
  | clr k => exact absurd hs id
  | at_ k =>
    cases k with
    | sl v m w i =>
      show ptP (norm (segM hd tl) (if r.val = 0 then _ else _) s.up).pc = _ ∨ ptP (norm (segM hd tl) (if r.val = 0 then _ else _) s.up).pc = _
      split
      · exact .inl rfl
      · exact .inl (hnS _ _ _ _ _)
    | sc v m w i =>
      show ptP (norm (segM hd tl) (if r.ok then (if m = 0 then _ else _) else _) s.up).pc = _ ∨ ptP (norm (segM hd tl) (if r.ok then (if m = 0 then _ else _) else _) s.up).pc = _
      split
      · split
        · exact .inr (hfi _ _)
        · exact .inr rfl
      · exact .inl (hnS _ _ _ _ _)
    | sn v m w =>
      show ptP (norm (segM hd tl) (if r.val = 0 then (if m = 0 then _ else _) else _) s.up).pc = _ ∨ ptP (norm (segM hd tl) (if r.val = 0 then (if m = 0 then _ else _) else _) s.up).pc = _
      split
      · split <;> exact .inl rfl
      · exact .inl rfl
    | st v m w nx => exact .inl rfl
    | f0 v w n => exact .inl rfl
    | f1 v w n => exact .inl rfl
    | f2 v w n i =>
      show ptP (norm (segM hd tl) (if i < 5 then _ else _) s.up).pc = _ ∨ ptP (norm (segM hd tl) (if i < 5 then _ else _) s.up).pc = _
      split <;> exact .inl rfl
    | sa v m w =>
      show ptP (norm (segM hd tl) (if r.ok then _ else _) s.up).pc = _ ∨ ptP (norm (segM hd tl) (if r.ok then _ else _) s.up).pc = _
      split
      · exact .inr rfl
      · exact .inl rfl
    | rl w i =>
      show ptP (norm (segM hd tl) (if r.val = 0 then _ else if r.val = 1 then _ else _) s.up).pc = _ ∨ ptP (norm (segM hd tl) (if r.val = 0 then _ else if r.val = 1 then _ else _) s.up).pc = _
      split
      · exact .inr (hfi _ _)
      · split
        · exact .inl (hnR _ _ _)
        · exact .inl rfl
    | rc w i x =>
      show ptP (norm (segM hd tl) (if r.ok then _ else _) s.up).pc = _ ∨ ptP (norm (segM hd tl) (if r.ok then _ else _) s.up).pc = _
      split
      · exact .inr (hfi _ _)
      · exact .inl (hnR _ _ _)
    | rn w =>
      show ptP (norm (segM hd tl) (if r.val = 0 then _ else _) s.up).pc = _ ∨ ptP (norm (segM hd tl) (if r.val = 0 then _ else _) s.up).pc = _
      split
      · exact .inr (hfi _ _)
      · exact .inl rfl
    | re w nx =>
      show ptP (norm (segM hd tl) (if (ofW r.val).idx = (ofW w).idx then _ else _) s.up).pc = _ ∨ ptP (norm (segM hd tl) (if (ofW r.val).idx = (ofW w).idx then _ else _) s.up).pc = _
      split <;> exact .inl rfl
    | rt w nx en => exact .inl rfl
    | rh w nx =>
      show ptP (norm (segM hd tl) (if r.ok then _ else _) s.up).pc = _ ∨ ptP (norm (segM hd tl) (if r.ok then _ else _) s.up).pc = _
      split
      · exact .inl (norm_pt _ _).1
      · exact .inl rfl
    | sb w m a => cases h
    | _ => exact absurd hs id
  | t1 k =>
    obtain ⟨v, w, rfl⟩ := hs
    show ptP (if (ofW r.val).idx = 0 then norm (segM hd tl) _ s.up else _ : Q Sk).pc = _ ∨ ptP (if (ofW r.val).idx = 0 then norm (segM hd tl) _ s.up else _ : Q Sk).pc = _
    split
    · exact .inr (hfi _ _)
    · exact .inl rfl
  | t2 k f => exact .inl h
  | t3 k f lk =>
    show ptP (if r.ok then _ else _ : Q Sk).pc = _ ∨ ptP (if r.ok then _ else _ : Q Sk).pc = _
    split <;> exact .inl h
  | t4 k n b => exact .inl h
  | t5 k n b c =>
    obtain ⟨v, w, rfl⟩ := hs
    exact .inl rfl
  | g1 k i c => exact .inl h
  | g2 k i c v b =>
    show ptP (if r.val = s.e i then norm (segM hd tl) _ s.up else _ : Q Sk).pc = _ ∨ ptP (if r.val = s.e i then norm (segM hd tl) _ s.up else _ : Q Sk).pc = _
    split
    · rcases hs with ⟨v', m, rfl⟩ | rfl <;> exact .inl rfl
    · exact .inl h
  | g3 k i c er => exact .inl h
  | c k i => exact .inl ((clr_pt _ _).1.trans h)
  | v1 k n => exact .inl h
  | v2 k n f => exact .inl h
  | v3 k n f => obtain ⟨a, rfl⟩ := hs; cases h
  | r1 k n => exact .inl h
  | r2 k n er =>
    have hs : k = .rr := hs
    subst hs
    show ptP (if (s.gone.length : Int) + 1 < 2 * (S : Int) then norm (segM hd tl) _ _ else _ : Q Sk).pc = _ ∨ ptP (if (s.gone.length : Int) + 1 < 2 * (S : Int) then norm (segM hd tl) _ _ else _ : Q Sk).pc = _
    split
    · exact .inl rfl
    · exact .inl (scan_pt _ _ _ _).1
  | rs k held c cs => exact .inl ((scan_pt _ _ _ _).1.trans h)
  | s1 k held y gs stay =>
    show ptP (if held.any (inB (max1 r.val) y.2) = true then siftQ (segM hd tl) _ _ _ _ _ else _ : Q Sk).pc = _ ∨ ptP (if held.any (inB (max1 r.val) y.2) = true then siftQ (segM hd tl) _ _ _ _ _ else _ : Q Sk).pc = _
    split
    · exact .inl ((sift_pt _ _ _ _ _).1.trans h)
    · exact .inl h
  | w1 k held y gs stay => exact .inl h
  | w2 k held y gs stay f => exact .inl h
  | w3 k held y gs stay f =>
    show ptP (if r.ok then siftQ (segM hd tl) _ _ _ _ _ else _ : Q Sk).pc = _ ∨ ptP (if r.ok then siftQ (segM hd tl) _ _ _ _ _ else _ : Q Sk).pc = _
    split
    · exact .inl ((sift_pt _ _ _ _ _).1.trans h)
    · exact .inl h
end
theorem sift_made {κ : Type} (M : Mach κ) (k : κ) (held : List Int) (s : PsT) (gs stay : List (Int × Int)) : (siftQ M k held s gs stay).s.made = s.made := by
  cases gs with
  | nil => unfold siftQ; rw [norm_s]
  | cons g gs => rfl
theorem scan_made {κ : Type} (M : Mach κ) (k : κ) (held : List Int) (s : PsT) (cs : List Ad) : (scanQ M k held s cs).s.made = s.made := by
  cases cs with
  | nil => exact sift_made _ _ _ _ _ _
  | cons c cs => rfl
theorem clrQ_s {κ : Type} (M : Mach κ) (k : κ) (s : PsT) : (clrQ M k s).s = s := by
  have := norm_s (M := M) (.clr k) s
  exact this
/-- How many accesses were made. -/
theorem made_tell {κ : Type} {M : Mach κ} {S : Nat} {q : Q κ} {r : ResT} (hf : q.pc.asking) : (tell M S q r).s.made = q.s.made + 1 := by
  obtain ⟨pc, s⟩ := q
  cases pc with
  | fin o => exact absurd hf id
  | clr k => exact absurd hf id
  | at_ k => show (norm M _ s.up).s.made = _; rw [norm_s]; rfl
  | t1 k =>
    show (if (ofW r.val).idx = 0 then norm M _ s.up else _ : Q κ).s.made = _
    split
    · rw [norm_s]; rfl
    · rfl
  | t3 k f lk =>
    show (if r.ok then _ else _ : Q κ).s.made = _
    split <;> rfl
  | t5 k n a b => show (norm M _ s.up).s.made = _; rw [norm_s]; rfl
  | g2 k i c v a =>
    show (if r.val = s.e i then norm M _ s.up else _ : Q κ).s.made = _
    split
    · rw [norm_s]; rfl
    · rfl
  | g3 k i c er => exact putE_made _ _ _
  | c k i =>
    show (clrQ M k (s.up.putE i 0)).s.made = _
    rw [clrQ_s]; exact putE_made _ _ _
  | v3 k n f =>
    show (if r.ok then norm M _ s.up else _ : Q κ).s.made = _
    split
    · rw [norm_s]; rfl
    · rfl
  | r2 k n er =>
    show (if (s.gone.length : Int) + 1 < 2 * (S : Int) then norm M _ _ else _ : Q κ).s.made = _
    split
    · rw [norm_s]; rfl
    · exact scan_made _ _ _ _ _
  | rs k held c cs => exact scan_made _ _ _ _ _
  | s1 k held y gs stay =>
    show (if held.any (inB (max1 r.val) y.2) = true then siftQ M _ _ _ _ _ else _ : Q κ).s.made = _
    split
    · exact sift_made _ _ _ _ _ _
    · rfl
  | w3 k held y gs stay f =>
    show (if r.ok then siftQ M _ _ _ _ _ else _ : Q κ).s.made = _
    split
    · exact sift_made _ _ _ _ _ _
    · rfl
  | _ => rfl
/-- What is known of points: those behind us are less than what was made. -/
def PtW (q : Q Sk) : Prop := ∀ a, ptP q.pc = some a → 0 ≤ a ∧ a < q.s.made
theorem ptW_tell {hd tl : Int} {S : Nat} {q : Q Sk} {r : ResT} (hs : Shape q) (h : PtW q) (hf : q.pc.asking) : PtW (tell (segM hd tl) S q r) := by
  intro a ha
  rw [made_tell hf]
  cases hp : ptP q.pc with
  | some b =>
    have := (pt_tell (hd := hd) (tl := tl) (S := S) (r := r) hp).1
    rw [this] at ha
    cases ha
    have := h a hp
    omega
  | none =>
    rcases pt_new (hd := hd) (tl := tl) (S := S) (r := r) hs hp with e | e
    · rw [e] at ha; cases ha
    · rw [e] at ha; cases ha; omega
theorem start_shape (hd tl : Int) (op : OpT) (gone : List (Int × Int)) : Shape (startQ hd tl op gone) ∧ PtW (startQ hd tl op gone) ∧ ptP (startQ hd tl op gone).pc = none := by
  unfold startQ
  by_cases h : op.kind = 6
  · simp only [h, if_true]
    exact ⟨.inl ⟨_, _, rfl⟩, (fun a ha => by simp [ptP, kpt] at ha), rfl⟩
  · simp only [h, if_false]
    exact ⟨.inr rfl, (fun a ha => by simp [ptP, kpt] at ha), rfl⟩
theorem tell_stay {hd tl : Int} {S : Nat} {q : Q Sk} {r : ResT} (hs : Shape q) (hf : ¬ q.pc.asking) : tell (segM hd tl) S q r = q := by
  obtain ⟨pc, s⟩ := q
  cases pc <;> first | rfl | exact absurd hs id | exact absurd trivial hf
theorem run_shape {hd tl : Int} {S : Nat} : ∀ (log : List ResT) {q : Q Sk}, Shape q → PtW q → Shape (runQ (segM hd tl) S q log) ∧ PtW (runQ (segM hd tl) S q log)
  | [], q, h1, h2 => ⟨h1, h2⟩
  | r :: log, q, h1, h2 => by
    refine run_shape log (q := tell (segM hd tl) S q r) (shape_tell h1) ?_
    by_cases hf : q.pc.asking
    · exact ptW_tell h1 h2 hf
    · rw [tell_stay h1 hf]; exact h2
theorem qAt_shape (p : PlayT) (ws : List OpT) (x : SeatT) (hx : x.at_ < ws.length) : Shape (qAt p ws x) ∧ PtW (qAt p ws x) := by
  unfold qAt
  rw [List.getElem?_eq_getElem hx]
  have := start_shape (hdP p) (tlP p) ws[x.at_] x.gone
  exact run_shape _ this.1 this.2.1
theorem pt_run {hd tl : Int} {S : Nat} {a : Int} : ∀ (R : List ResT) {q : Q Sk}, ptP q.pc = some a → ptP (runQ (segM hd tl) S q R).pc = some a ∧ outP (runQ (segM hd tl) S q R).pc = outP q.pc
  | [], _, h => ⟨h, rfl⟩
  | r :: R, q, h => by
    have h1 := pt_tell (hd := hd) (tl := tl) (S := S) (r := r) h
    have h2 := pt_run (hd := hd) (tl := tl) (S := S) R (q := tell (segM hd tl) S q r) h1.1
    exact ⟨h2.1, h2.2.trans h1.2⟩
/-- A point that is not behind us comes later. -/
theorem pt_later {hd tl : Int} {S : Nat} : ∀ (R : List ResT) {q : Q Sk} {o : OutT}, Shape q → PtW q → ptP q.pc = none → (runQ (segM hd tl) S q R).pc = .fin o → (q.s.made : Int) ≤ o.point
  | [], q, o, _, _, hp, hr => by
    have hr : q.pc = .fin o := hr
    rw [hr] at hp; cases hp
  | r :: R, q, o, hs, hw, hp, hr => by
    have hr : (runQ (segM hd tl) S (tell (segM hd tl) S q r) R).pc = .fin o := hr
    by_cases hf : q.pc.asking
    · have hm := made_tell (M := segM hd tl) (S := S) (r := r) hf
      rcases pt_new (hd := hd) (tl := tl) (S := S) (r := r) hs hp with e | e
      · have := pt_later R (shape_tell hs) (ptW_tell hs hw hf) e hr
        omega
      · have := (pt_run (hd := hd) (tl := tl) (S := S) R e).1
        rw [hr] at this
        have h9 : o.point = (q.s.made : Int) := Option.some.inj this
        omega
    · rw [tell_stay hs hf] at hr
      exact pt_later R hs hw hp hr
end Go.Proofs.Ytgoijmomglomlaa
/- Plays of a channel end. -/
namespace Go.Proofs.Ytgoijmomglomlaa
set_option maxRecDepth 100000

section
variable (hd tl : Int)
def cSn (W : Ws) (w : Int) : Nat := if W.ob tl = w then (if W.nd (ofW w).idx 0 = 0 then 17 else 34) else 51
def cSa (W : Ws) (w : Int) : Nat := if W.nd (ofW w).idx 0 = 0 then 5 else 50
def frC (W : Ws) (w : Int) : Nat := if W.ob hd = w then 0 else 19
/-- How long a program takes still, alone, from a place of its own on. -/
def cK (W : Ws) : Sk → Nat
  | .sl _ _ w i => 2 * (6 - i).toNat + cSn tl W w
  | .sc _ _ w i => 2 * (6 - i).toNat - 1 + cSn tl W w
  | .sn _ _ w => cSn tl W w
  | .st _ _ w _ => if W.ob tl = w then 33 else 50
  | .f0 _ w _ => 6 + cSa W w
  | .f1 _ w _ => 5 + cSa W w
  | .f2 _ w _ i => (6 - i).toNat + cSa W w
  | .sa _ _ w => cSa W w
  | .sb _ _ _ => 4
  | .rl w i => 2 * (6 - i).toNat + 4 + frC hd W w
  | .rc w i _ => 2 * (6 - i).toNat + 3 + frC hd W w
  | .rn w => 4 + frC hd W w
  | .re w _ => 3 + frC hd W w
  | .rt w _ _ => 2 + frC hd W w
  | .rh w _ => 1 + frC hd W w
  | _ => 0
def gK (W : Ws) (k : Sk) (v : Int) : Nat := match k with
  | .sg _ _ => 10 + cSn tl W v
  | .rg => 14 + frC hd W v
  | _ => 0
def tK (W : Ws) : Sk → Nat
  | .tk _ w => 6 + cSa W w
  | _ => 0
def kC (S : Nat) (s : PsT) : Sk → Nat
  | .rx _ => 2 + 3 * S + 4 * (s.gone.length + 1) + 19
  | _ => 0
def nz (s : PsT) : Nat := (if s.e0 = 0 then 0 else 1) + (if s.e1 = 0 then 0 else 1) + (if s.e2 = 0 then 0 else 1)
def nuPc (S : Nat) (V : Vw) (s : PsT) : Pc Sk → Nat
  | .at_ k => cK hd tl V.W k
  | .t1 k => 5 + tK V.W k
  | .t2 k f => (if V.fr = f then 4 else 7) + tK V.W k
  | .t3 k f _ => (if V.fr = f then 3 else 6) + tK V.W k
  | .t4 k _ _ => 2 + tK V.W k
  | .t5 k _ _ _ => 1 + tK V.W k
  | .g1 k i c => (if V.er = s.e i then 2 else 5) + gK hd tl V.W k (V.W.get c)
  | .g2 k i c v _ => if V.er = s.e i then 1 + gK hd tl V.W k v else 4 + gK hd tl V.W k (V.W.get c)
  | .g3 k _ c er => (if V.er = er then 3 else 6) + gK hd tl V.W k (V.W.get c)
  | .clr _ => 0
  | .c k _ => nz s + kC S s k
  | .v1 _ _ => 6
  | .v2 _ _ f => (if V.fr = f then 5 else 8)
  | .v3 _ _ f => (if V.fr = f then 4 else 7)
  | .r1 _ _ => 2 + 3 * S + 4 * (s.gone.length + 1) + 19
  | .r2 _ _ _ => 1 + 3 * S + 4 * (s.gone.length + 1) + 19
  | .rs _ _ _ cs => 1 + cs.length + 4 * s.gone.length + 19
  | .s1 _ _ _ gs _ => 4 + 4 * gs.length + 19
  | .w1 _ _ _ gs _ => 3 + 4 * gs.length + 19
  | .w2 _ _ _ gs _ f => (if V.fr = f then 2 else 5) + 4 * gs.length + 19
  | .w3 _ _ _ gs _ f => (if V.fr = f then 1 else 4) + 4 * gs.length + 19
  | .fin _ => 0
def nu (S : Nat) (V : Vw) (q : Q Sk) : Nat := nuPc hd tl S V q.s q.pc
end
section
variable {hd tl : Int} {S N K : Nat} {l : LayT} {V : Vw}
theorem cSn_ge (W : Ws) (w : Int) : 17 ≤ cSn tl W w := by
  unfold cSn
  split
  · split <;> omega
  · omega
theorem cSn_le (W : Ws) (w : Int) : cSn tl W w ≤ 51 := by
  unfold cSn
  split
  · split <;> omega
  · omega
theorem cSa_set {W : Ws} {n i v u : Int} (h : n ≠ (ofW u).idx) : cSa (W.setNd n i v) u = cSa W u := by
  have e : (W.setNd n i v).nd (ofW u).idx 0 = W.nd (ofW u).idx 0 := by rw [nd_set, if_neg (fun hh : (ofW u).idx = n ∧ _ => h hh.1.symm)]
  unfold cSa
  rw [e]
theorem nz_le (s : PsT) : nz s ≤ 3 := by unfold nz; split <;> split <;> split <;> omega
theorem nu_clr (k : Sk) (s : PsT) (hk : (∃ o, k = .fi o) ∨ ∃ n, k = .rx n) : nu hd tl S V (clrQ (segM hd tl) k s) ≤ nz s + kC S s k := by
  rcases clr_cases (M := segM hd tl) k s with ⟨i, _, _, _, e⟩ | ⟨_, e⟩
  · rw [e]; exact Nat.le_refl _
  · rw [e]
    rcases hk with ⟨o, rfl⟩ | ⟨n, rfl⟩
    · exact Nat.zero_le _
    · exact Nat.le_add_left _ _
theorem nu_fi (o : OutT) (s : PsT) : nu hd tl S V (norm (segM hd tl) (.clr (.fi o)) s) ≤ 3 := by
  have h1 : nu hd tl S V (clrQ (segM hd tl) (.fi o) s) ≤ _ := nu_clr (.fi o) s (.inl ⟨o, rfl⟩)
  have h2 := nz_le s
  show nu hd tl S V (clrQ (segM hd tl) (.fi o) s) ≤ 3
  simp only [kC] at h1
  omega
theorem gk_rg : gK hd tl V.W .rg (V.W.get (.ob hd)) = 14 := by
  show 14 + (if V.W.ob hd = V.W.ob hd then 0 else 19) = 14
  rw [if_pos rfl]
theorem gk_sg (v m : Int) : gK hd tl V.W (.sg v m) (V.W.get (.ob tl)) ≤ 44 := by
  show 10 + cSn tl V.W (V.W.ob tl) ≤ 44
  unfold cSn
  rw [if_pos rfl]
  split <;> omega
theorem nu_g1 (k : Sk) (i : Int) (c : Ad) (s : PsT) : nu hd tl S V ⟨.g1 k i c, s⟩ ≤ 5 + gK hd tl V.W k (V.W.get c) := by
  show (if V.er = s.e i then 2 else 5) + gK hd tl V.W k (V.W.get c) ≤ _
  split <;> omega
theorem nu_rg (s : PsT) : nu hd tl S V ⟨.g1 .rg 0 (.ob hd), s⟩ ≤ 19 := by
  have := nu_g1 (hd := hd) (tl := tl) (S := S) (V := V) .rg 0 (.ob hd) s
  rw [gk_rg] at this
  exact this
theorem nu_sift (held : List Int) (s : PsT) (gs stay : List (Int × Int)) : nu hd tl S V (siftQ (segM hd tl) .rr held s gs stay) ≤ 4 * gs.length + 19 := by
  cases gs with
  | nil =>
    have := nu_rg (hd := hd) (tl := tl) (S := S) (V := V) { s with gone := stay }
    show nu hd tl S V ⟨.g1 .rg 0 (.ob hd), { s with gone := stay }⟩ ≤ 4 * 0 + 19
    omega
  | cons g gs => simp only [siftQ, nu, nuPc, List.length_cons]; omega
theorem nu_scan (held : List Int) (s : PsT) (cs : List Ad) : nu hd tl S V (scanQ (segM hd tl) .rr held s cs) ≤ cs.length + 4 * s.gone.length + 19 := by
  cases cs with
  | nil => have := nu_sift (hd := hd) (tl := tl) (S := S) (V := V) held s s.gone []; simpa [scanQ] using this
  | cons c cs => simp only [scanQ, nu, nuPc, List.length_cons]; omega
theorem nz_put {s : PsT} {i : Int} (i0 : 0 ≤ i) (i2 : i ≤ 2) (h : s.e i ≠ 0) : nz (s.up.putE i 0) < nz s := by
  have : i = 0 ∨ i = 1 ∨ i = 2 := by omega
  rcases this with rfl | rfl | rfl
  · have h : s.e0 ≠ 0 := h
    simp only [PsT.putE, PsT.up, nz, if_true, h, if_false]; omega
  · have h : s.e1 ≠ 0 := h
    show (if s.e0 = 0 then 0 else 1) + (if (0 : Int) = 0 then 0 else 1) + (if s.e2 = 0 then 0 else 1) < nz s
    simp only [nz, if_true, h, if_false]; omega
  · have h : s.e2 ≠ 0 := h
    show (if s.e0 = 0 then 0 else 1) + (if s.e1 = 0 then 0 else 1) + (if (0 : Int) = 0 then 0 else 1) < nz s
    simp only [nz, if_true, h, if_false]; omega
variable {qs : List (Q Sk)} {F X : List Int} {g : SegG} {w : Nat} {q : Q Sk}
theorem own_len {κ γ : Type} {Z : Sp κ γ} {l : LayT} {S N K : Nat} {V : Vw} {qs : List (Q κ)} {F X : List Int} {g : γ} (hI : Inv Z l S N K V qs F X g) {w : Nat} {q : Q κ} (hq : qs[w]? = some q) : (own Z q).length ≤ N := by
  refine nodup_le N (own Z q) ?_ (fun x hx => hI.inOwn hq hx)
  rw [List.nodup_iff_count]
  intro x
  by_cases hx : x ∈ own Z q
  · exact Nat.le_of_eq (hI.ownNot hq hx).2.2.1
  · rw [List.count_eq_zero.2 hx]; omega
theorem nu_nextS (v m u i : Int) (s : PsT) (i5 : i ≤ 5) : nu hd tl S V (norm (segM hd tl) (nextS v m u i) s) < 2 * (6 - i).toNat - 1 + cSn tl V.W u := by
  unfold nextS
  split
  · show 2 * (6 - (i + 1)).toNat + cSn tl V.W u < _
    omega
  · show cSn tl V.W u < _
    omega
theorem nu_nextR (u i : Int) (s : PsT) (i5 : i ≤ 5) : nu hd tl S V (norm (segM hd tl) (nextR u i) s) < 2 * (6 - i).toNat + 3 + frC hd V.W u := by
  unfold nextR
  split
  · show 2 * (6 - (i + 1)).toNat + 4 + frC hd V.W u < _
    omega
  · show 4 + frC hd V.W u < _
    omega
/-- Each access of one who is alone brings it nearer to its end; a segment that is passed gives 69. -/
theorem nu_dec (hLy : SegLay l S hd tl) (hN : N ≤ 9) (hS : S ≤ 3) (hK : K ≤ 100000) (hI : Inv (segZ hd tl N) l S N K V qs F X g) (hq : qs[w]? = some q) (hf : q.pc.asking) (hsh : Shape q) :
    nu hd tl S (act V (asks (segM hd tl) w q.pc)).1 (tell (segM hd tl) S q (act V (asks (segM hd tl) w q.pc)).2) + 69 * g.ret < nu hd tl S V q + 69 * (nxX (segZ hd tl N) V.W X g q.pc).2.ret := by
  have hl := hI.loc w _ hq
  have hSI : SegSI hd tl N K V.W X (Dq (segZ hd tl N) qs) g := hI.si
  have hXd := hI.nodupX
  have hown := own_len hI hq
  obtain ⟨pc, s⟩ := q
  have hpc := hl.pc
  have fi3 : ∀ (V : Vw) (o : OutT) (s : PsT), nu hd tl S V (norm (segM hd tl) (.clr (.fi o)) s) ≤ 3 := fun V o s => nu_fi o s
  cases pc with
  | fin o => exact absurd hf id
  | clr k => exact absurd hf id
  | at_ k =>
    have hk : segKL hd tl N V.W (Pr (segZ hd tl N) V X qs w s) k := hpc.1
    have hP : ∀ i n, Pr (segZ hd tl N) V X qs w s i n → n ∈ X ∨ Dq (segZ hd tl N) qs n := fun i n h => pr_in h
    cases k with
    | sl v m u i =>
      obtain ⟨h1, h2, h3, h4, h5, h6⟩ := hk
      show nu hd tl S V (norm (segM hd tl) (if V.W.nd (ofW u).idx i = 0 then _ else _) s.up) + 69 * g.ret < 2 * (6 - i).toNat + cSn tl V.W u + 69 * g.ret
      split
      · show 2 * (6 - i).toNat - 1 + cSn tl V.W u + 69 * g.ret < _
        omega
      · have := nu_nextS (hd := hd) (tl := tl) (S := S) (V := V) v m u i s.up h5
        omega
    | sc v m u i =>
      obtain ⟨h1, h2, h3, h4, h5, h6⟩ := hk
      by_cases hc : V.W.nd (ofW u).idx i = 0
      · have e1 : act V (asks (segM hd tl) w (.at_ (.sc v m u i))) = ({ V with W := V.W.setNd (ofW u).idx i (v + 2) }, ⟨0, true⟩) := by
          show act V (.cs (.nd (ofW u).idx i) 0 (v + 2)) = _
          simp only [act, Vw.get, hc, if_true]; rfl
        simp only [e1]
        have e2 : (nxX (segZ hd tl N) V.W X g (.at_ (.sc v m u i))).2.ret = g.ret := by
          show (segNx hd V.W X g (.sc v m u i)).2.ret = g.ret
          simp only [segNx, hc, if_true]
        rw [e2]
        have h17 : 17 ≤ cSn tl V.W u := cSn_ge _ _
        have hm6 : nu hd tl S { V with W := V.W.setNd (ofW u).idx i (v + 2) } (norm (segM hd tl) (if m = 0 then .clr (.fi (okO s.made)) else .v1 (.sv s.made) m) s.up) ≤ 6 := by
          split
          · exact Nat.le_trans (fi3 _ _ _) (by omega)
          · exact Nat.le_refl _
        show nu hd tl S _ (norm (segM hd tl) (if m = 0 then .clr (.fi (okO s.made)) else .v1 (.sv s.made) m) s.up) + 69 * g.ret < 2 * (6 - i).toNat - 1 + cSn tl V.W u + 69 * g.ret
        omega
      · have e1 : act V (asks (segM hd tl) w (.at_ (.sc v m u i))) = (V, ⟨V.W.nd (ofW u).idx i, false⟩) := by
          show act V (.cs (.nd (ofW u).idx i) 0 (v + 2)) = _
          simp only [act, Vw.get, hc, if_false]
        simp only [e1]
        have e2 : (nxX (segZ hd tl N) V.W X g (.at_ (.sc v m u i))).2.ret = g.ret := by
          show (segNx hd V.W X g (.sc v m u i)).2.ret = g.ret
          simp only [segNx, hc, if_false]
        rw [e2]
        have := nu_nextS (hd := hd) (tl := tl) (S := S) (V := V) v m u i s.up h5
        show nu hd tl S V (norm (segM hd tl) (nextS v m u i) s.up) + 69 * g.ret < 2 * (6 - i).toNat - 1 + cSn tl V.W u + 69 * g.ret
        omega
    | sn v m u =>
      obtain ⟨h1, h2, h3, h4⟩ := hk
      show nu hd tl S V (norm (segM hd tl) (if V.W.nd (ofW u).idx 0 = 0 then (if m = 0 then _ else _) else _) s.up) + 69 * g.ret < cSn tl V.W u + 69 * g.ret
      by_cases h0 : V.W.nd (ofW u).idx 0 = 0
      · rw [if_pos h0]
        have ht : V.W.ob tl = u := by
          by_cases e : V.W.ob tl = u
          · exact e
          · exact absurd h0 (h3.2.2.2 e)
        have hc : cSn tl V.W u = 17 := by unfold cSn; rw [if_pos ht, if_pos h0]
        have ha : cSa V.W u = 5 := by unfold cSa; rw [if_pos h0]
        by_cases hm : m = 0
        · rw [if_pos hm]
          show 5 + (6 + cSa V.W u) + 69 * g.ret < _
          omega
        · rw [if_neg hm]
          show cSa V.W u + 69 * g.ret < _
          omega
      · rw [if_neg h0]
        show (if V.W.ob tl = u then 33 else 50) + 69 * g.ret < _
        unfold cSn
        rw [if_neg h0]
        split <;> omega
    | st v m u nx =>
      obtain ⟨h1, h2, h3, h4, h5⟩ := hk
      by_cases hc : V.W.ob tl = u
      · have e1 : act V (asks (segM hd tl) w (.at_ (.st v m u nx))) = ({ V with W := V.W.setOb tl (packW (turnW (ofW u) nx)) }, ⟨u, true⟩) := by
          show act V (.cs (.ob tl) u (packW (turnW (ofW u) nx))) = _
          simp only [act, Vw.get, hc, if_true]; rfl
        simp only [e1]
        obtain ⟨f1, f2, f3, f4, f5⟩ := tail_si hSI (by omega) hK hLy.ne hXd (nx := nx) (by rw [hc]; exact h5 hc) h4
        rw [hc] at f3
        have hg : gK hd tl (V.W.setOb tl (packW (turnW (ofW u) nx))) (.sg v m) ((V.W.setOb tl (packW (turnW (ofW u) nx))).get (.ob tl)) = 27 := by
          show 10 + cSn tl _ ((V.W.setOb tl (packW (turnW (ofW u) nx))).ob tl) = 27
          unfold cSn
          rw [if_pos rfl, f3, if_pos (show (V.W.setOb tl (packW (turnW (ofW u) nx))).nd nx 0 = 0 from f5)]
        have := nu_g1 (hd := hd) (tl := tl) (S := S) (V := { V with W := V.W.setOb tl (packW (turnW (ofW u) nx)) }) (.sg v m) 0 (.ob tl) s.up
        simp only [hg] at this
        show nu hd tl S _ ⟨.g1 (.sg v m) 0 (.ob tl), s.up⟩ + 69 * g.ret < (if V.W.ob tl = u then 33 else 50) + 69 * g.ret
        rw [if_pos hc]
        omega
      · have e1 : act V (asks (segM hd tl) w (.at_ (.st v m u nx))) = (V, ⟨V.W.ob tl, false⟩) := by
          show act V (.cs (.ob tl) u (packW (turnW (ofW u) nx))) = _
          simp only [act, Vw.get, hc, if_false]
        simp only [e1]
        have h8 := nu_g1 (hd := hd) (tl := tl) (S := S) (V := V) (.sg v m) 0 (.ob tl) s.up
        have h9 := gk_sg (hd := hd) (tl := tl) (V := V) v m
        show nu hd tl S V ⟨.g1 (.sg v m) 0 (.ob tl), s.up⟩ + 69 * g.ret < (if V.W.ob tl = u then 33 else 50) + 69 * g.ret
        rw [if_neg hc]
        omega
    | f0 v u n =>
      have hno : n ≠ (ofW u).idx := fun e => by
        have h9 := hI.mineNot hq (n := n) (by simp [mineP, segZ])
        exact (hP _ _ hk.2.1.2.2.1).elim (fun h => h9.1 (e ▸ h)) (fun h => h9.2.1 (e ▸ h))
      have e : cSa (V.W.setNd n 0 0) u = cSa V.W u := cSa_set hno
      show 5 + cSa (V.W.setNd n 0 0) u + 69 * g.ret < 6 + cSa V.W u + 69 * g.ret
      omega
    | f1 v u n =>
      have hno : n ≠ (ofW u).idx := fun e => by
        have h9 := hI.mineNot hq (n := n) (by simp [mineP, segZ])
        exact (hP _ _ hk.2.1.2.2.1).elim (fun h => h9.1 (e ▸ h)) (fun h => h9.2.1 (e ▸ h))
      have e : cSa (V.W.setNd n 1 (v + 2)) u = cSa V.W u := cSa_set hno
      show (6 - (2 : Int)).toNat + cSa (V.W.setNd n 1 (v + 2)) u + 69 * g.ret < 5 + cSa V.W u + 69 * g.ret
      omega
    | f2 v u n i =>
      obtain ⟨h1, h2, h3, h4, h5, h6, h7, h8, h9⟩ := hk
      have hno : n ≠ (ofW u).idx := fun e => by
        have h9 := hI.mineNot hq (n := n) (by simp [mineP, segZ])
        exact (hP _ _ h2.2.2.1).elim (fun h => h9.1 (e ▸ h)) (fun h => h9.2.1 (e ▸ h))
      have e : cSa (V.W.setNd n i 0) u = cSa V.W u := cSa_set hno
      show nu hd tl S { V with W := V.W.setNd n i 0 } (norm (segM hd tl) (if i < 5 then _ else _) s.up) + 69 * g.ret < (6 - i).toNat + cSa V.W u + 69 * g.ret
      split
      · show (6 - (i + 1)).toNat + cSa (V.W.setNd n i 0) u + 69 * g.ret < _
        omega
      · show cSa (V.W.setNd n i 0) u + 69 * g.ret < _
        omega
    | sa v m u =>
      by_cases hc : V.W.nd (ofW u).idx 0 = 0
      · have e1 : act V (asks (segM hd tl) w (.at_ (.sa v m u))) = ({ V with W := V.W.setNd (ofW u).idx 0 m }, ⟨0, true⟩) := by
          show act V (.cs (.nd (ofW u).idx 0) 0 m) = _
          simp only [act, Vw.get, hc, if_true]; rfl
        simp only [e1]
        have e2 : (nxX (segZ hd tl N) V.W X g (.at_ (.sa v m u))).2.ret = g.ret := by
          show (segNx hd V.W X g (.sa v m u)).2.ret = g.ret
          simp only [segNx, hc, if_true]
        rw [e2]
        show 4 + 69 * g.ret < cSa V.W u + 69 * g.ret
        unfold cSa
        rw [if_pos hc]; omega
      · have e1 : act V (asks (segM hd tl) w (.at_ (.sa v m u))) = (V, ⟨V.W.nd (ofW u).idx 0, false⟩) := by
          show act V (.cs (.nd (ofW u).idx 0) 0 m) = _
          simp only [act, Vw.get, hc, if_false]
        simp only [e1]
        have e2 : (nxX (segZ hd tl N) V.W X g (.at_ (.sa v m u))).2.ret = g.ret := by
          show (segNx hd V.W X g (.sa v m u)).2.ret = g.ret
          simp only [segNx, hc, if_false]
        rw [e2]
        have h8 := nu_g1 (hd := hd) (tl := tl) (S := S) (V := V) (.sg v m) 0 (.ob tl) s.up
        have h9 := gk_sg (hd := hd) (tl := tl) (V := V) v m
        show nu hd tl S V ⟨.g1 (.sg v m) 0 (.ob tl), s.up⟩ + 69 * g.ret < cSa V.W u + 69 * g.ret
        unfold cSa
        rw [if_neg hc]; omega
    | sb u m a =>
      have h3 := fi3 (act V (asks (segM hd tl) w (.at_ (.sb u m a)))).1 (okO a) s.up
      have h4 : nu hd tl S (act V (asks (segM hd tl) w (.at_ (.sb u m a)))).1 (norm (segM hd tl) (.clr (.fi (okO a))) s.up) + 69 * g.ret < 4 + 69 * g.ret := by omega
      exact h4
    | rl u i =>
      obtain ⟨k1, k2, k3, k4⟩ := hk
      show nu hd tl S V (norm (segM hd tl) (if V.W.nd (ofW u).idx i = 0 then _ else if V.W.nd (ofW u).idx i = 1 then _ else _) s.up) + 69 * g.ret < 2 * (6 - i).toNat + 4 + frC hd V.W u + 69 * g.ret
      split
      · have := fi3 V (noO s.made) s.up
        show nu hd tl S V (norm (segM hd tl) (.clr (.fi (noO s.made))) s.up) + 69 * g.ret < _
        omega
      · split
        · have := nu_nextR (hd := hd) (tl := tl) (S := S) (V := V) u i s.up k3
          omega
        · show 2 * (6 - i).toNat + 3 + frC hd V.W u + 69 * g.ret < _
          omega
    | rc u i x =>
      obtain ⟨k1, k2, k3, k4, k5, k6⟩ := hk
      by_cases hc : V.W.nd (ofW u).idx i = x
      · have e1 : act V (asks (segM hd tl) w (.at_ (.rc u i x))) = ({ V with W := V.W.setNd (ofW u).idx i 1 }, ⟨x, true⟩) := by
          show act V (.cs (.nd (ofW u).idx i) x 1) = _
          simp only [act, Vw.get, hc, if_true]; rfl
        simp only [e1]
        have e2 : (nxX (segZ hd tl N) V.W X g (.at_ (.rc u i x))).2.ret = g.ret := by
          show (segNx hd V.W X g (.rc u i x)).2.ret = g.ret
          simp only [segNx, hc, if_true]
        rw [e2]
        have := fi3 { V with W := V.W.setNd (ofW u).idx i 1 } ⟨w64 (x - 2), true, 0, s.made, []⟩ s.up
        show nu hd tl S _ (norm (segM hd tl) (.clr (.fi ⟨w64 (x - 2), true, 0, s.made, []⟩)) s.up) + 69 * g.ret < 2 * (6 - i).toNat + 3 + frC hd V.W u + 69 * g.ret
        omega
      · have e1 : act V (asks (segM hd tl) w (.at_ (.rc u i x))) = (V, ⟨V.W.nd (ofW u).idx i, false⟩) := by
          show act V (.cs (.nd (ofW u).idx i) x 1) = _
          simp only [act, Vw.get, hc, if_false]
        simp only [e1]
        have e2 : (nxX (segZ hd tl N) V.W X g (.at_ (.rc u i x))).2.ret = g.ret := by
          show (segNx hd V.W X g (.rc u i x)).2.ret = g.ret
          simp only [segNx, hc, if_false]
        rw [e2]
        have := nu_nextR (hd := hd) (tl := tl) (S := S) (V := V) u i s.up k3
        show nu hd tl S V (norm (segM hd tl) (nextR u i) s.up) + 69 * g.ret < 2 * (6 - i).toNat + 3 + frC hd V.W u + 69 * g.ret
        omega
    | rn u =>
      show nu hd tl S V (norm (segM hd tl) (if V.W.nd (ofW u).idx 0 = 0 then _ else _) s.up) + 69 * g.ret < 4 + frC hd V.W u + 69 * g.ret
      split
      · have := fi3 V (noO s.made) s.up
        show nu hd tl S V (norm (segM hd tl) (.clr (.fi (noO s.made))) s.up) + 69 * g.ret < _
        omega
      · show 3 + frC hd V.W u + 69 * g.ret < _
        omega
    | re u nx =>
      show nu hd tl S V (norm (segM hd tl) (if (ofW (V.W.ob tl)).idx = (ofW u).idx then _ else _) s.up) + 69 * g.ret < 3 + frC hd V.W u + 69 * g.ret
      split
      · show 2 + frC hd V.W u + 69 * g.ret < _
        omega
      · show 1 + frC hd V.W u + 69 * g.ret < _
        omega
    | rt u nx en =>
      have e : ∀ V' : Vw, V'.W.ob hd = V.W.ob hd → frC hd V'.W u = frC hd V.W u := fun V' h => by unfold frC; rw [h]
      have h9 : (act V (asks (segM hd tl) w (.at_ (.rt u nx en)))).1.W.ob hd = V.W.ob hd := by
        show (act V (.cs (.ob tl) en (packW (turnW (ofW en) nx)))).1.W.ob hd = _
        simp only [act]
        split
        · show (V.W.setOb tl _).ob hd = _
          rw [ob_set, if_neg hLy.ne]
        · rfl
      show 1 + frC hd (act V (asks (segM hd tl) w (.at_ (.rt u nx en)))).1.W u + 69 * g.ret < 2 + frC hd V.W u + 69 * g.ret
      rw [e _ h9]; omega
    | rh u nx =>
      obtain ⟨k1, k2, k3, k4, k7⟩ := hk
      by_cases hc : V.W.ob hd = u
      · have e1 : act V (asks (segM hd tl) w (.at_ (.rh u nx))) = ({ V with W := V.W.setOb hd (packW (turnW (ofW u) nx)) }, ⟨u, true⟩) := by
          show act V (.cs (.ob hd) u (packW (turnW (ofW u) nx))) = _
          simp only [act, Vw.get, hc, if_true]; rfl
        have e2 : (nxX (segZ hd tl N) V.W X g (.at_ (.rh u nx))).2.ret = g.ret + 1 := by
          show (segNx hd V.W X g (.rh u nx)).2.ret = g.ret + 1
          simp only [segNx, hc, if_true]
        have hI2 := inv_act (seg_sound hLy (by omega)) (by omega) hK hI hq hf
        simp only [e1] at hI2 ⊢
        have hE : Q Sk := clrQ (segM hd tl) (.rx (ofW u).idx) s.up
        have hlen : s.gone.length + 1 ≤ N := by
          have h8 := own_len hI2 (set_here hq)
          have hent := ent_clr (M := segM hd tl) (Z := segZ hd tl N) (l := l) (S := S) (N := N) (seg_sound hLy (by omega)) (V := V) (X := X) (g := g) (P := noP) (s := s.up) (k := .rx (ofW u).idx) trivial
          have h9 : (own (segZ hd tl N) (clrQ (segM hd tl) (.rx (ofW u).idx) s.up)).length ≤ N := h8
          rw [hent.own] at h9
          simp only [segZ, List.nil_append, List.length_append, List.length_cons, List.length_nil, List.length_map, PsT.up] at h9
          omega
        rw [e2]
        have h7 := nu_clr (hd := hd) (tl := tl) (S := S) (V := { V with W := V.W.setOb hd (packW (turnW (ofW u) nx)) }) (.rx (ofW u).idx) s.up (.inr ⟨_, rfl⟩)
        have h6 := nz_le s.up
        simp only [kC, PsT.up] at h7 h6
        show nu hd tl S _ (clrQ (segM hd tl) (.rx (ofW u).idx) s.up) + 69 * g.ret < 1 + frC hd V.W u + 69 * (g.ret + 1)
        have h5 : frC hd V.W u = 0 := by unfold frC; rw [if_pos hc]
        simp only [PsT.up] at *
        omega
      · have e1 : act V (asks (segM hd tl) w (.at_ (.rh u nx))) = (V, ⟨V.W.ob hd, false⟩) := by
          show act V (.cs (.ob hd) u (packW (turnW (ofW u) nx))) = _
          simp only [act, Vw.get, hc, if_false]
        have e2 : (nxX (segZ hd tl N) V.W X g (.at_ (.rh u nx))).2.ret = g.ret := by
          show (segNx hd V.W X g (.rh u nx)).2.ret = g.ret
          simp only [segNx, hc, if_false]
        simp only [e1]
        rw [e2]
        have := nu_rg (hd := hd) (tl := tl) (S := S) (V := V) s.up
        show nu hd tl S V ⟨.g1 .rg 0 (.ob hd), s.up⟩ + 69 * g.ret < 1 + frC hd V.W u + 69 * g.ret
        unfold frC
        rw [if_neg hc]; omega
    | _ => exact absurd hsh id
  | t1 k =>
    obtain ⟨v, u, rfl⟩ := hsh
    show nu hd tl S V (if (ofW V.fr).idx = 0 then norm (segM hd tl) (.clr (.fi _)) s.up else ⟨.t2 (.tk v u) V.fr, s.up⟩) + 69 * g.ret < 5 + (6 + cSa V.W u) + 69 * g.ret
    split
    · have := fi3 V ⟨0, false, 8, s.made, []⟩ s.up
      show nu hd tl S V (norm (segM hd tl) (.clr (.fi ⟨0, false, 8, s.made, []⟩)) s.up) + 69 * g.ret < _
      omega
    · show (if V.fr = V.fr then 4 else 7) + (6 + cSa V.W u) + 69 * g.ret < _
      rw [if_pos rfl]; omega
  | t2 k f =>
    show (if V.fr = f then 3 else 6) + tK V.W k + 69 * g.ret < (if V.fr = f then 4 else 7) + tK V.W k + 69 * g.ret
    split <;> omega
  | t3 k f lk =>
    by_cases hc : V.fr = f
    · have e1 : act V (asks (segM hd tl) w (.t3 k f lk)) = ({ V with fr := packW (turnW (ofW f) lk) }, ⟨V.fr, true⟩) := by simp only [asks, act, Vw.get, hc, if_true]; rfl
      simp only [e1]
      show 2 + tK V.W k + 69 * g.ret < (if V.fr = f then 3 else 6) + tK V.W k + 69 * g.ret
      rw [if_pos hc]; omega
    · have e1 : act V (asks (segM hd tl) w (.t3 k f lk)) = (V, ⟨V.fr, false⟩) := by simp only [asks, act, Vw.get, hc, if_false]
      simp only [e1]
      show 5 + tK V.W k + 69 * g.ret < (if V.fr = f then 3 else 6) + tK V.W k + 69 * g.ret
      rw [if_neg hc]; omega
  | t4 k n a =>
    show 1 + tK V.W k + 69 * g.ret < 2 + tK V.W k + 69 * g.ret
    omega
  | t5 k n a b =>
    obtain ⟨v, u, rfl⟩ := hsh
    show 6 + cSa V.W u + 69 * g.ret < 1 + (6 + cSa V.W u) + 69 * g.ret
    omega
  | g1 k i c =>
    have e1 : act V (asks (segM hd tl) w (.g1 k i c)) = (V, ⟨V.W.get c, true⟩) := by simp only [asks, act, get_str hpc.2.2.2.2.1]
    simp only [e1]
    show (if V.er = s.e i then 1 + gK hd tl V.W k (V.W.get c) else 4 + gK hd tl V.W k (V.W.get c)) + 69 * g.ret < (if V.er = s.e i then 2 else 5) + gK hd tl V.W k (V.W.get c) + 69 * g.ret
    split <;> omega
  | g2 k i c v a =>
    show nu hd tl S V (if V.er = s.e i then norm (segM hd tl) _ s.up else ⟨.g3 k i c V.er, s.up⟩) + 69 * g.ret < (if V.er = s.e i then 1 + gK hd tl V.W k v else 4 + gK hd tl V.W k (V.W.get c)) + 69 * g.ret
    by_cases he : V.er = s.e i
    · rw [if_pos he, if_pos he]
      rcases hsh with ⟨x, m, rfl⟩ | rfl
      · show 2 * ((6 : Int) - 1).toNat + cSn tl V.W v + 69 * g.ret < 1 + (10 + cSn tl V.W v) + 69 * g.ret
        omega
      · show 2 * ((6 : Int) - 1).toNat + 4 + frC hd V.W v + 69 * g.ret < 1 + (14 + frC hd V.W v) + 69 * g.ret
        omega
    · rw [if_neg he, if_neg he]
      show (if V.er = V.er then 3 else 6) + gK hd tl V.W k (V.W.get c) + 69 * g.ret < _
      rw [if_pos rfl]; omega
  | g3 k i c er =>
    have hget : (s.up.putE i er).e i = er := by rw [e_putE hpc.2.2.1 hpc.2.2.2.1 hpc.2.2.1 hpc.2.2.2.1, if_pos rfl]
    show (if V.er = (s.up.putE i er).e i then 2 else 5) + gK hd tl V.W k (V.W.get c) + 69 * g.ret < (if V.er = er then 3 else 6) + gK hd tl V.W k (V.W.get c) + 69 * g.ret
    rw [hget]
    split <;> omega
  | c k i =>
    obtain ⟨h1, h2, h3, h4⟩ := hsh
    have h5 : nz (s.up.putE i 0) < nz s := nz_put h2 h3 h1
    have h6 := nu_clr (hd := hd) (tl := tl) (S := S) (V := V.put (.rv w i) 0) k (s.up.putE i 0) h4
    have h7 : kC S (s.up.putE i 0) k = kC S s k := by
      have : (s.up.putE i 0).gone = s.gone := putE_gone _ _ _
      cases k <;> simp only [kC, this]
    rw [h7] at h6
    show nu hd tl S (V.put (.rv w i) 0) (clrQ (segM hd tl) k (s.up.putE i 0)) + 69 * g.ret < nz s + kC S s k + 69 * g.ret
    omega
  | v1 k n =>
    show (if V.fr = V.fr then 5 else 8) + 69 * g.ret < 6 + 69 * g.ret
    rw [if_pos rfl]; omega
  | v2 k n f =>
    show (if V.fr = f then 4 else 7) + 69 * g.ret < (if V.fr = f then 5 else 8) + 69 * g.ret
    split <;> omega
  | v3 k n f =>
    obtain ⟨a, rfl⟩ := hsh
    by_cases hc : V.fr = f
    · have e1 : act V (asks (segM hd tl) w (.v3 (.sv a) n f)) = ({ V with fr := packW (turnW (ofW f) n) }, ⟨V.fr, true⟩) := by simp only [asks, act, Vw.get, hc, if_true]; rfl
      simp only [e1]
      have := fi3 { V with fr := packW (turnW (ofW f) n) } (okO a) s.up
      show nu hd tl S _ (norm (segM hd tl) (.clr (.fi (okO a))) s.up) + 69 * g.ret < (if V.fr = f then 4 else 7) + 69 * g.ret
      rw [if_pos hc]; omega
    · have e1 : act V (asks (segM hd tl) w (.v3 (.sv a) n f)) = (V, ⟨V.fr, false⟩) := by simp only [asks, act, Vw.get, hc, if_false]
      simp only [e1]
      show 6 + 69 * g.ret < (if V.fr = f then 4 else 7) + 69 * g.ret
      rw [if_neg hc]; omega
  | r1 k n =>
    show 1 + 3 * S + 4 * (s.gone.length + 1) + 19 + 69 * g.ret < 2 + 3 * S + 4 * (s.gone.length + 1) + 19 + 69 * g.ret
    omega
  | r2 k n er =>
    have hsh : k = .rr := hsh
    subst hsh
    show nu hd tl S { V with er := V.er + 1 } (if (s.gone.length : Int) + 1 < 2 * (S : Int) then norm (segM hd tl) (.g1 .rg 0 (.ob hd)) _ else scanQ (segM hd tl) .rr [] { s.up with gone := s.gone ++ [(n, er)] } (resvsA 0 S)) + 69 * g.ret < 1 + 3 * S + 4 * (s.gone.length + 1) + 19 + 69 * g.ret
    split
    · have := nu_rg (hd := hd) (tl := tl) (S := S) (V := { V with er := V.er + 1 }) { s.up with gone := s.gone ++ [(n, er)] }
      show nu hd tl S { V with er := V.er + 1 } ⟨.g1 .rg 0 (.ob hd), { s.up with gone := s.gone ++ [(n, er)] }⟩ + 69 * g.ret < _
      omega
    · have := nu_scan (hd := hd) (tl := tl) (S := S) (V := { V with er := V.er + 1 }) [] { s.up with gone := s.gone ++ [(n, er)] } (resvsA 0 S)
      rw [resvsA_len] at this
      simp only [List.length_append, List.length_cons, List.length_nil] at this
      refine Nat.lt_of_le_of_lt (Nat.add_le_add_right this _) ?_
      omega
  | rs k held c cs =>
    have hsh : k = .rr := hsh
    subst hsh
    have := nu_scan (hd := hd) (tl := tl) (S := S) (V := V) (held ++ [V.get c]) s.up cs
    have hg : s.up.gone = s.gone := rfl
    rw [hg] at this
    show nu hd tl S V (scanQ (segM hd tl) .rr (held ++ [V.get c]) s.up cs) + 69 * g.ret < 1 + cs.length + 4 * s.gone.length + 19 + 69 * g.ret
    omega
  | s1 k held y gs stay =>
    have hsh : k = .rr := hsh
    subst hsh
    show nu hd tl S V (if held.any (inB (max1 (V.bi y.1)) y.2) = true then siftQ (segM hd tl) .rr held s.up gs (stay ++ [y]) else ⟨.w1 .rr held y gs stay, s.up⟩) + 69 * g.ret < 4 + 4 * gs.length + 19 + 69 * g.ret
    split
    · have := nu_sift (hd := hd) (tl := tl) (S := S) (V := V) held s.up gs (stay ++ [y])
      omega
    · show 3 + 4 * gs.length + 19 + 69 * g.ret < _
      omega
  | w1 k held y gs stay =>
    show (if V.fr = V.fr then 2 else 5) + 4 * gs.length + 19 + 69 * g.ret < 3 + 4 * gs.length + 19 + 69 * g.ret
    rw [if_pos rfl]; omega
  | w2 k held y gs stay f =>
    show (if V.fr = f then 1 else 4) + 4 * gs.length + 19 + 69 * g.ret < (if V.fr = f then 2 else 5) + 4 * gs.length + 19 + 69 * g.ret
    split <;> omega
  | w3 k held y gs stay f =>
    have hsh : k = .rr := hsh
    subst hsh
    by_cases hc : V.fr = f
    · have e1 : act V (asks (segM hd tl) w (.w3 .rr held y gs stay f)) = ({ V with fr := packW (turnW (ofW f) y.1) }, ⟨V.fr, true⟩) := by simp only [asks, act, Vw.get, hc, if_true]; rfl
      simp only [e1]
      have := nu_sift (hd := hd) (tl := tl) (S := S) (V := { V with fr := packW (turnW (ofW f) y.1) }) held s.up gs stay
      show nu hd tl S _ (siftQ (segM hd tl) .rr held s.up gs stay) + 69 * g.ret < (if V.fr = f then 1 else 4) + 4 * gs.length + 19 + 69 * g.ret
      rw [if_pos hc]; omega
    · have e1 : act V (asks (segM hd tl) w (.w3 .rr held y gs stay f)) = (V, ⟨V.fr, false⟩) := by simp only [asks, act, Vw.get, hc, if_false]
      simp only [e1]
      show 3 + 4 * gs.length + 19 + 69 * g.ret < (if V.fr = f then 1 else 4) + 4 * gs.length + 19 + 69 * g.ret
      rw [if_neg hc]; omega
end
end Go.Proofs.Ytgoijmomglomlaa
/- Plays of channels end. -/
namespace Go.Proofs.Ytgoijmomglomlaa
set_option maxRecDepth 100000

section
variable {hd tl : Int} {S N K : Nat} {l : LayT} {V : Vw} {qs : List (Q Sk)} {F X : List Int} {g : SegG} {w : Nat} {q : Q Sk}
theorem cSa_le (W : Ws) (u : Int) : cSa W u ≤ 50 := by unfold cSa; split <;> omega
theorem frC_le (W : Ws) (u : Int) : frC hd W u ≤ 19 := by unfold frC; split <;> omega
theorem gK_le (W : Ws) (k : Sk) (v : Int) : gK hd tl W k v ≤ 61 := by
  unfold gK
  split
  · have := cSn_le (tl := tl) W v; omega
  · have := frC_le (hd := hd) W v; omega
  · omega
theorem tK_le (W : Ws) (k : Sk) : tK W k ≤ 56 := by
  unfold tK
  split
  · rename_i u; have := cSa_le W u; omega
  · omega
/-- No place is far from its end. -/
theorem nu_le (hN : N ≤ 9) (hS : S ≤ 3) (hI : Inv (segZ hd tl N) l S N K V qs F X g) (hq : qs[w]? = some q) (hsh : Shape q) : nu hd tl S V q ≤ 76 := by
  have hl := hI.loc w _ hq
  have hown := own_len hI hq
  obtain ⟨pc, s⟩ := q
  have hpc := hl.pc
  cases pc with
  | fin o => show 0 ≤ 76; omega
  | clr k => exact absurd hsh id
  | at_ k =>
    have hk : segKL hd tl N V.W (Pr (segZ hd tl N) V X qs w s) k := hpc.1
    show cK hd tl V.W k ≤ 76
    cases k with
    | sl v m u i => have := hk.2.2.2.1; have := cSn_le (tl := tl) V.W u; simp only [cK]; omega
    | sc v m u i => have := hk.2.2.2.1; have := cSn_le (tl := tl) V.W u; simp only [cK]; omega
    | sn v m u => have := cSn_le (tl := tl) V.W u; simp only [cK]; omega
    | st v m u nx => simp only [cK]; split <;> omega
    | f0 v u n => have := cSa_le V.W u; simp only [cK]; omega
    | f1 v u n => have := cSa_le V.W u; simp only [cK]; omega
    | f2 v u n i => have := cSa_le V.W u; have := hk.2.2.2.2.2.2.1; simp only [cK]; omega
    | sa v m u => have := cSa_le V.W u; simp only [cK]; omega
    | sb u m a => simp only [cK]; omega
    | rl u i => have := hk.2.1; have := frC_le (hd := hd) V.W u; simp only [cK]; omega
    | rc u i x => have := hk.2.1; have := frC_le (hd := hd) V.W u; simp only [cK]; omega
    | rn u => have := frC_le (hd := hd) V.W u; simp only [cK]; omega
    | re u nx => have := frC_le (hd := hd) V.W u; simp only [cK]; omega
    | rt u nx en => have := frC_le (hd := hd) V.W u; simp only [cK]; omega
    | rh u nx => have := frC_le (hd := hd) V.W u; simp only [cK]; omega
    | _ => exact absurd hsh id
  | t1 k => have := tK_le V.W k; show 5 + tK V.W k ≤ 76; omega
  | t2 k f => have := tK_le V.W k; show (if V.fr = f then 4 else 7) + tK V.W k ≤ 76; split <;> omega
  | t3 k f lk => have := tK_le V.W k; show (if V.fr = f then 3 else 6) + tK V.W k ≤ 76; split <;> omega
  | t4 k n a => have := tK_le V.W k; show 2 + tK V.W k ≤ 76; omega
  | t5 k n a b => have := tK_le V.W k; show 1 + tK V.W k ≤ 76; omega
  | g1 k i c => have := gK_le (hd := hd) (tl := tl) V.W k (V.W.get c); show (if V.er = s.e i then 2 else 5) + gK hd tl V.W k (V.W.get c) ≤ 76; split <;> omega
  | g2 k i c v a =>
    have := gK_le (hd := hd) (tl := tl) V.W k (V.W.get c)
    have := gK_le (hd := hd) (tl := tl) V.W k v
    show (if V.er = s.e i then 1 + gK hd tl V.W k v else 4 + gK hd tl V.W k (V.W.get c)) ≤ 76
    split <;> omega
  | g3 k i c er => have := gK_le (hd := hd) (tl := tl) V.W k (V.W.get c); show (if V.er = er then 3 else 6) + gK hd tl V.W k (V.W.get c) ≤ 76; split <;> omega
  | c k i =>
    have h1 := nz_le s
    show nz s + kC S s k ≤ 76
    rcases hsh.2.2.2 with ⟨o, rfl⟩ | ⟨n, rfl⟩
    · simp only [kC]; omega
    · simp only [own, deadQ, mineP, deadP, goneP, segZ, List.nil_append, List.length_append, List.length_cons, List.length_nil, List.length_map] at hown
      simp only [kC]; omega
  | v1 k n => show 6 ≤ 76; omega
  | v2 k n f => show (if V.fr = f then 5 else 8) ≤ 76; split <;> omega
  | v3 k n f => show (if V.fr = f then 4 else 7) ≤ 76; split <;> omega
  | r1 k n =>
    simp only [own, deadQ, mineP, deadP, goneP, List.length_append, List.length_cons, List.length_map] at hown
    show 2 + 3 * S + 4 * (s.gone.length + 1) + 19 ≤ 76
    omega
  | r2 k n er =>
    simp only [own, deadQ, mineP, deadP, goneP, List.length_append, List.length_cons, List.length_map] at hown
    show 1 + 3 * S + 4 * (s.gone.length + 1) + 19 ≤ 76
    omega
  | rs k held c cs =>
    simp only [own, deadQ, goneP, List.length_append, List.length_map] at hown
    have h3 := hpc.2.2.1
    simp only [List.length_cons] at h3
    show 1 + cs.length + 4 * s.gone.length + 19 ≤ 76
    omega
  | s1 k held y gs stay =>
    simp only [own, deadQ, goneP, List.length_append, List.length_cons, List.map_cons, List.map_append, List.length_map] at hown
    show 4 + 4 * gs.length + 19 ≤ 76
    omega
  | w1 k held y gs stay =>
    simp only [own, deadQ, goneP, List.length_append, List.length_cons, List.map_cons, List.map_append, List.length_map] at hown
    show 3 + 4 * gs.length + 19 ≤ 76
    omega
  | w2 k held y gs stay f =>
    simp only [own, deadQ, goneP, List.length_append, List.length_cons, List.map_cons, List.map_append, List.length_map] at hown
    show (if V.fr = f then 2 else 5) + 4 * gs.length + 19 ≤ 76
    split <;> omega
  | w3 k held y gs stay f =>
    simp only [own, deadQ, goneP, List.length_append, List.length_cons, List.map_cons, List.map_append, List.length_map] at hown
    show (if V.fr = f then 1 else 4) + 4 * gs.length + 19 ≤ 76
    split <;> omega
end

/-! ### How much is put -/
def ptN (q : Q Sk) : Nat := if (ptP q.pc).isSome then 1 else 0
theorem ptN_le (q : Q Sk) : ptN q ≤ 1 := by unfold ptN; split <;> omega
theorem ptN_tell {hd tl : Int} {S : Nat} {q : Q Sk} {r : ResT} : ptN q ≤ ptN (tell (segM hd tl) S q r) := by
  unfold ptN
  cases h : ptP q.pc with
  | none => simp
  | some a => rw [(pt_tell h).1]; exact Nat.le_refl _
/-- What is put is put by an operation whose point comes. -/
theorem put_tell {hd tl : Int} {S N : Nat} {V : Vw} {X : List Int} {g : SegG} {w : Int} {q : Q Sk} (hf : q.pc.asking) : (nxX (segZ hd tl N) V.W X g q.pc).2.put + ptN q ≤ g.put + ptN (tell (segM hd tl) S q (act V (asks (segM hd tl) w q.pc)).2) := by
  have h0 := ptN_tell (hd := hd) (tl := tl) (S := S) (q := q) (r := (act V (asks (segM hd tl) w q.pc)).2)
  by_cases hp : (nxX (segZ hd tl N) V.W X g q.pc).2.put = g.put
  · omega
  obtain ⟨pc, s⟩ := q
  cases pc with
  | at_ k =>
    cases k with
    | sc v m u i =>
      by_cases hc : V.W.nd (ofW u).idx i = 0
      · have e1 : (act V (asks (segM hd tl) w (.at_ (.sc v m u i)))).2 = ⟨0, true⟩ := by
          show (act V (.cs (.nd (ofW u).idx i) 0 (v + 2))).2 = _
          simp only [act, Vw.get, hc, if_true]
        have e2 : (nxX (segZ hd tl N) V.W X g (.at_ (.sc v m u i))).2.put = g.put + 1 := by
          show (segNx hd V.W X g (.sc v m u i)).2.put = _
          simp only [segNx, hc, if_true]
        rw [e2, e1]
        have e3 : ptN (tell (segM hd tl) S ⟨.at_ (.sc v m u i), s⟩ ⟨0, true⟩) = 1 := by
          have h9 : ptP (norm (segM hd tl) (if m = 0 then .clr (.fi (okO s.made)) else .v1 (.sv s.made) m) s.up).pc = some (s.made : Int) := by
            rw [(norm_pt _ _).1]; split <;> rfl
          show (if (ptP (norm (segM hd tl) (if m = 0 then .clr (.fi (okO s.made)) else .v1 (.sv s.made) m) s.up).pc).isSome then 1 else 0) = 1
          rw [h9]; rfl
        have e4 : ptN ⟨.at_ (.sc v m u i), s⟩ = 0 := rfl
        omega
      · exact absurd (by show (segNx hd V.W X g (.sc v m u i)).2.put = _; simp only [segNx, hc, if_false]) hp
    | sa v m u =>
      by_cases hc : V.W.nd (ofW u).idx 0 = 0
      · have e1 : (act V (asks (segM hd tl) w (.at_ (.sa v m u)))).2 = ⟨0, true⟩ := by
          show (act V (.cs (.nd (ofW u).idx 0) 0 m)).2 = _
          simp only [act, Vw.get, hc, if_true]
        have e2 : (nxX (segZ hd tl N) V.W X g (.at_ (.sa v m u))).2.put = g.put + 1 := by
          show (segNx hd V.W X g (.sa v m u)).2.put = _
          simp only [segNx, hc, if_true]
        rw [e2, e1]
        have e3 : ptN (tell (segM hd tl) S ⟨.at_ (.sa v m u), s⟩ ⟨0, true⟩) = 1 := rfl
        have e4 : ptN ⟨.at_ (.sa v m u), s⟩ = 0 := rfl
        omega
      · exact absurd (by show (segNx hd V.W X g (.sa v m u)).2.put = _; simp only [segNx, hc, if_false]) hp
    | rc u i x => exact absurd (by show (segNx hd V.W X g (.rc u i x)).2.put = _; simp only [segNx]; split <;> rfl) hp
    | rh u nx => exact absurd (by show (segNx hd V.W X g (.rh u nx)).2.put = _; simp only [segNx]; split <;> rfl) hp
    | _ => exact absurd rfl hp
  | _ => exact absurd rfl hp
/-- How many operations of a seat have their point behind them, at most. -/
def opN (p : PlayT) (z : SeatT × List OpT) : Nat := z.1.at_ + ptN (qAt p z.2 z.1)
structure PutJ (p : PlayT) (s : PSt) (g : SegG) : Prop where
  put : g.put ≤ ((s.seats.zip p.want).map (opN p)).sum
  at_ : ∀ (w : Nat) (x : SeatT) (ws : List OpT), s.seats[w]? = some x → p.want[w]? = some ws → x.at_ ≤ ws.length
theorem zip_set {α β : Type} : ∀ {l : List α} {m : List β} {w : Nat} (y : α) {b : β}, m[w]? = some b → (l.set w y).zip m = (l.zip m).set w (y, b)
  | [], _, _, _, _, _ => rfl
  | _ :: _, [], _, _, _, h => by simp at h
  | a :: l, c :: m, 0, y, b, h => by simp at h; subst h; rfl
  | a :: l, c :: m, w + 1, y, b, h => by
    simp only [List.set_cons_succ, List.zip_cons_cons]
    rw [zip_set y (by simpa using h)]
theorem put_step {p : PlayT} (_hp : PlayG p) {i : Nat} {s s' : PSt} {V V' : Vw} {F X F' X' : List Int} {g g' : SegG} (_hi : i < allF p) (_hG : G p i s V F X g) (hS : StepR p (whoF p i) s V F X g s' V' F' X' g') (h : PutJ p s g) : PutJ p s' g' := by
  cases hS with
  | idle => exact h
  | done x ws op q o hx hws ho hq hpc =>
    have hz : (s.seats.zip p.want)[whoF p i]? = some (x, ws) := by rw [List.getElem?_zip_eq_some]; exact ⟨hx, hws⟩
    refine ⟨?_, fun w y us hy hu => ?_⟩
    · simp only
      rw [zip_set _ hws]
      have h1 := sum_set (opN p) (⟨x.at_ + 1, [], q.s.gone⟩, ws) hz
      have h2 : opN p (x, ws) ≤ x.at_ + 1 := Nat.add_le_add_left (ptN_le _) _
      have h3 : x.at_ + 1 ≤ opN p (⟨x.at_ + 1, [], q.s.gone⟩, ws) := Nat.le_add_right _ _
      have := h.put
      omega
    · simp only at hy
      have hal := (List.getElem?_eq_some_iff.1 ho).1
      rcases set_get hx hy with ⟨rfl, rfl⟩ | ⟨_, hy⟩
      · rw [hws] at hu; cases hu; exact hal
      · exact h.at_ w y us hy hu
  | acc x ws op q hx hws ho hq hpc =>
    have hz : (s.seats.zip p.want)[whoF p i]? = some (x, ws) := by rw [List.getElem?_zip_eq_some]; exact ⟨hx, hws⟩
    refine ⟨?_, fun w y us hy hu => ?_⟩
    · simp only
      rw [zip_set _ hws]
      have h1 := sum_set (opN p) ({ x with log := x.log ++ [(actP p (whoF p i) V q).2] }, ws) hz
      have e1 : qAt p ws { x with log := x.log ++ [(actP p (whoF p i) V q).2] } = tell (mP p) p.want.length q (actP p (whoF p i) V q).2 := by
        rw [hq]
        unfold qAt
        simp only [ho]
        rw [runQ_snoc]
      have h2 : opN p (x, ws) = x.at_ + ptN q := by rw [hq]; rfl
      have h3 : opN p ({ x with log := x.log ++ [(actP p (whoF p i) V q).2] }, ws) = x.at_ + ptN (tell (mP p) p.want.length q (actP p (whoF p i) V q).2) := by rw [← e1]; rfl
      have h4 : (nxX (spP p) V.W X g q.pc).2.put + ptN q ≤ g.put + ptN (tell (mP p) p.want.length q (actP p (whoF p i) V q).2) := put_tell hpc
      have := h.put
      omega
    · simp only at hy
      rcases set_get hx hy with ⟨rfl, rfl⟩ | ⟨_, hy⟩
      · exact h.at_ _ x us hx hu
      · exact h.at_ w y us hy hu
theorem sum_le {α : Type} (f : α → Nat) (b : Nat) : ∀ l : List α, (∀ x ∈ l, f x ≤ b) → (l.map f).sum ≤ b * l.length
  | [], _ => by simp
  | x :: l, h => by
    have h1 := sum_le f b l (fun y hy => h y (by simp [hy]))
    have h2 := h x (by simp)
    simp only [List.map_cons, List.sum_cons, List.length_cons, Nat.mul_add, Nat.mul_one]
    omega
theorem ret_le {p : PlayT} (hp : PlayG p) {i : Nat} {s : PSt} {V : Vw} {F X : List Int} {g : SegG} (hG : G p i s V F X g) (h : PutJ p s g) : g.ret ≤ 4 := by
  have hSI : SegSI (hdP p) (tlP p) (nP p) i V.W X (Dq (spP p) (qsOf p s.seats)) g := hG.inv.si
  obtain ⟨a, c, _, hc, hsum⟩ := hSI.seq
  have hX : 1 ≤ X.length := by
    rcases X with _ | ⟨x, X⟩
    · exact absurd rfl hSI.ne
    · simp
  have h1 := h.put
  have h2 := sum_le (opN p) 8 (s.seats.zip p.want) (fun z hz => by
    obtain ⟨w, hw⟩ := List.getElem?_of_mem hz
    obtain ⟨k1, k2⟩ := List.getElem?_zip_eq_some.1 hw
    have k3 := h.at_ w z.1 z.2 k1 k2
    have k4 := hp.ok.l z.2 (List.mem_of_getElem? k2)
    have := ptN_le (qAt p z.2 z.1)
    unfold opN
    omega)
  have h3 : (s.seats.zip p.want).length ≤ 3 := by rw [List.length_zip]; have := hp.ok.w3; omega
  omega
theorem put_start (p : PlayT) : PutJ p (start p) g0 := ⟨by simp [g0], fun w x ws hx _ => by
  simp only [start, List.getElem?_replicate] at hx
  split at hx
  · cases hx; simp
  · cases hx⟩

/-! ### Plays end -/
/-- How long a seat takes still, alone. -/
def rem (p : PlayT) (V : Vw) (g : SegG) (ws : List OpT) (x : SeatT) : Nat := if ws.length ≤ x.at_ then 0 else nu (hdP p) (tlP p) p.want.length V (qAt p ws x) + 1 + 50 * (ws.length - x.at_ - 1) + 69 * (4 - g.ret)
def EndsP (p : PlayT) (i : Nat) (s : PSt) (V : Vw) (g : SegG) : Prop := ∀ (w : Nat) (x : SeatT) (ws : List OpT), s.seats[w]? = some x → p.want[w]? = some ws → rem p V g ws x ≤ 700 - (i - (p.turns.length + 1000 * w))
theorem rem_le {p : PlayT} (hp : PlayG p) {i : Nat} {s : PSt} {V : Vw} {F X : List Int} {g : SegG} (hG : G p i s V F X g) {w : Nat} {x : SeatT} {ws : List OpT} (hx : s.seats[w]? = some x) (hw : p.want[w]? = some ws) : rem p V g ws x ≤ 700 := by
  unfold rem
  split
  · omega
  · rename_i hlt
    have h1 := nu_le (nP_le p).2 hp.ok.w3 hG.inv (qsOf_get hx hw) (qAt_shape p ws x (by omega)).1
    have h2 := hp.ok.l ws (List.mem_of_getElem? hw)
    omega
/-- A program that begins is not far from its end. -/
theorem nu_start {p : PlayT} {V : Vw} {ws : List OpT} (n : Nat) (hn : n < ws.length) (gone : List (Int × Int)) : nu (hdP p) (tlP p) p.want.length V (qAt p ws ⟨n, [], gone⟩) ≤ 49 := by
  have he : ws[n]? = some ws[n] := List.getElem?_eq_getElem hn
  have hq : qAt p ws ⟨n, [], gone⟩ = startQ (hdP p) (tlP p) ws[n] gone := by unfold qAt; simp only [he]; rfl
  rw [hq]
  unfold startQ
  split
  · have h1 := nu_g1 (hd := hdP p) (tl := tlP p) (S := p.want.length) (V := V) (.sg ws[n].a 0) 0 (.ob (tlP p)) ⟨0, gone, 0, 0, 0⟩
    have h2 := gk_sg (hd := hdP p) (tl := tlP p) (V := V) ws[n].a 0
    omega
  · have := nu_rg (hd := hdP p) (tl := tlP p) (S := p.want.length) (V := V) ⟨0, gone, 0, 0, 0⟩
    omega
theorem ends_step {p : PlayT} (hp : PlayG p) {i : Nat} {s s' : PSt} {V V' : Vw} {F X F' X' : List Int} {g g' : SegG} (hi : i < allF p) (hG : G p i s V F X g) (hS : StepR p (whoF p i) s V F X g s' V' F' X' g') (hG' : G p (i + 1) s' V' F' X' g') (hput : PutJ p s g) (h : EndsP p i s V g) : EndsP p (i + 1) s' V' g' := by
  have hwl := whoF_lt hp.ok hi
  have hall : allF p ≤ 3200 := by have := hp.ok.w3; have := hp.ok.t; unfold allF; omega
  have hret' := ret_le hp hG' (put_step hp hi hG hS hput)
  intro w y ws hy hws
  have hle := rem_le hp hG' hy hws
  by_cases hearly : i + 1 ≤ p.turns.length + 1000 * w
  · omega
  by_cases hme : w = whoF p i
  · -- the seat's own turn
    subst hme
    have hdec : ∀ x, s.seats[whoF p i]? = some x → (rem p V' g' ws y < rem p V g ws x ∨ rem p V' g' ws y = 0) → rem p V' g' ws y ≤ 700 - (i + 1 - (p.turns.length + 1000 * whoF p i)) := by
      intro x hx hh
      have := h (whoF p i) x ws hx hws
      omega
    cases hS with
    | idle x ws' hx hw' ha =>
      rw [hws] at hw'
      cases hw'
      rw [hx] at hy
      cases hy
      exact hdec _ hx (.inr (by unfold rem; rw [if_pos ha]))
    | done x ws' op q o hx hw' ho hq hpc =>
      rw [hws] at hw'
      cases hw'
      have hlt := (List.getElem?_eq_some_iff.1 hx).1
      simp only at hy
      rw [List.getElem?_set_self hlt] at hy
      cases hy
      have hal := (List.getElem?_eq_some_iff.1 ho).1
      refine hdec x hx ?_
      unfold rem
      simp only
      rw [if_neg (show ¬ ws.length ≤ x.at_ by omega)]
      split
      · exact .inr rfl
      · left
        have h1 := nu_start (p := p) (V := V) (ws := ws) (x.at_ + 1) (by omega) q.s.gone
        omega
    | acc x ws' op q hx hw' ho hq hpc =>
      rw [hws] at hw'
      cases hw'
      have hlt := (List.getElem?_eq_some_iff.1 hx).1
      simp only at hy
      rw [List.getElem?_set_self hlt] at hy
      cases hy
      have hal := (List.getElem?_eq_some_iff.1 ho).1
      refine hdec x hx (.inl ?_)
      unfold rem
      simp only
      rw [if_neg (show ¬ ws.length ≤ x.at_ by omega), if_neg (show ¬ ws.length ≤ x.at_ by omega)]
      have e1 : qAt p ws { x with log := x.log ++ [(actP p (whoF p i) V q).2] } = tell (mP p) p.want.length q (actP p (whoF p i) V q).2 := by
        rw [hq]
        unfold qAt
        simp only [ho]
        rw [runQ_snoc]
      rw [e1, ← hq]
      have hqg := qsOf_get (p := p) hx hws
      rw [← hq] at hqg
      have hsh := (qAt_shape p ws x hal).1
      rw [← hq] at hsh
      have hd := nu_dec (segLayP p) (nP_le p).2 hp.ok.w3 (by omega) hG.inv hqg hpc hsh
      have hret := ret_le hp hG hput
      have hd : nu (hdP p) (tlP p) p.want.length (actP p (whoF p i) V q).1 (tell (mP p) p.want.length q (actP p (whoF p i) V q).2) + 69 * g.ret < nu (hdP p) (tlP p) p.want.length V q + 69 * (nxX (spP p) V.W X g q.pc).2.ret := hd
      omega
  · -- another seat's turn, behind this seat's own time, or in it: it is over
    have hy0 : s.seats[w]? = some y := by
      cases hS with
      | idle => exact hy
      | done x ws' op q o hx hw' ho hq hpc =>
        simp only at hy
        rw [List.getElem?_set_ne (by omega)] at hy
        exact hy
      | acc x ws' op q hx hw' ho hq hpc =>
        simp only at hy
        rw [List.getElem?_set_ne (by omega)] at hy
        exact hy
    have h0 := h w y ws hy0 hws
    have hover : 700 ≤ i - (p.turns.length + 1000 * w) := by
      have hturn : p.turns[i]? = none := List.getElem?_eq_none (by omega)
      have hwho : whoF p i = (i - p.turns.length) / 1000 := by unfold whoF; rw [hturn]
      omega
    have hz : rem p V g ws y = 0 := by omega
    have : rem p V' g' ws y = 0 := by
      unfold rem at hz ⊢
      split
      · rfl
      · rename_i hn
        rw [if_neg hn] at hz
        omega
    omega
/-- A play's end. -/
theorem played_end {p : PlayT} (hp : PlayG p) (J : Nat → PSt → Vw → List Int → List Int → SegG → Prop)
    (hJ : ∀ i s V F X g s' V' F' X' g', i < allF p → G p i s V F X g → StepR p (whoF p i) s V F X g s' V' F' X' g' → G p (i + 1) s' V' F' X' g' → J i s V F X g → J (i + 1) s' V' F' X' g')
    (h0 : J 0 (start p) (V0 p.want.length (nP p)) (upF 2 (nP p - 1)) [1] g0) :
    ∃ s V F X g, playL (layP p) p (allF p) 0 (start p) = .ok s ∧ G p (allF p) s V F X g ∧ J (allF p) s V F X g ∧ (∀ (w : Nat) (x : SeatT) (ws : List OpT), s.seats[w]? = some x → p.want[w]? = some ws → ws.length ≤ x.at_) := by
  have hG := G_start hp
  obtain ⟨s, V, F, X, g, h1, h2, h3, h4, h5⟩ := play_ind hp (fun i s V F X g => J i s V F X g ∧ EndsP p i s V g ∧ PutJ p s g) (fun i s V F X g s' V' F' X' g' hi hG hS hG' h => ⟨hJ i s V F X g s' V' F' X' g' hi hG hS hG' h.1, ends_step hp hi hG hS hG' h.2.2 h.2.1, put_step hp hi hG hS h.2.2⟩) (allF p) 0 (start p) _ _ _ _ (by omega) hG ⟨h0, fun w x ws hx hw => by
    have := rem_le hp hG hx hw
    omega, put_start p⟩
  rw [Nat.zero_add] at h2 h3 h4
  refine ⟨s, V, F, X, g, h1, h2, h3, fun w x ws hx hw => ?_⟩
  have := h4 w x ws hx hw
  have hwl := (List.getElem?_eq_some_iff.1 hw).1
  have : rem p V g ws x = 0 := by unfold allF at this; omega
  unfold rem at this
  split at this
  · assumption
  · omega
theorem playedF_end {p : PlayT} {s : PSt} (h : playL (layP p) p (allF p) 0 (start p) = .ok s) (he : ∀ (w : Nat) (x : SeatT) (ws : List OpT), s.seats[w]? = some x → p.want[w]? = some ws → ws.length ≤ x.at_) : playedF p = ⟨s.out, s.m, s.seats.map (·.gone), true⟩ := by
  unfold playedF
  rw [h]
  simp only
  congr 1
  unfold endsF
  rw [List.all_eq_true]
  intro z hz
  obtain ⟨w, hw⟩ := List.getElem?_of_mem hz
  obtain ⟨h1, h2⟩ := List.getElem?_zip_eq_some.1 hw
  simp only [decide_eq_true_eq]
  exact he w z.1 z.2 h1 h2
theorem played_len {p : PlayT} (hp : PlayG p) : (playedF p).steps.length ≤ 3200 := by
  have hall : allF p ≤ 3200 := by have := hp.ok.w3; have := hp.ok.t; unfold allF; omega
  obtain ⟨s, V, F, X, g, h1, h2, h3, h4⟩ := played_end hp (fun i s _ _ _ _ => s.out.length ≤ i) (fun i s V F X g s' V' F' X' g' hi hG hS hG' h => by
    cases hS with
    | idle => omega
    | done => simp; omega
    | acc => simp; omega) (by simp [start])
  rw [playedF_end h1 h4]
  simp only at h3 ⊢
  omega
end Go.Proofs.Ytgoijmomglomlaa
