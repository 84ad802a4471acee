/- Stacks at which offers are made: their programs, what lays and reads them, and plays, in plain words. -/
import Derived.Test.YtdmnjoidfjidbaaGreatPA
namespace Go.Proofs.YtdmnjoidfjidbaaGreat
set_option maxRecDepth 100000

/-! ### Words of offers -/
def offW (v k c : Int) : Int := v % 4294967296 + 4294967296 * (k % 4) + 17179869184 * (c % 268435456)
def offV (w : Int) : Int := w % 4294967296
def offK (w : Int) : Int := w / 4294967296 % 4
def offC (w : Int) : Int := w / 17179869184 % 268435456

/-! ### Programs -/
def tryPush (l : LayT) (top n : Int) : Pm Bool := (loadM top).bind fun was => (storeM (nodeF l n 0) (ofW was).idx).bind fun _ => casM top was (packW (turnW (ofW was) n))
def metM (c mine no : Int) : Pm Bool := (loadM c).bind fun x => if x = mine then (loadM c).bind fun y => if y = mine then (casM c mine no).bind fun ok => .pure (!ok) else .pure true else .pure true
def pushL (l : LayT) (top c v n : Int) : Nat → Pm OutT
  | 0 => .pure ⟨0, false, 0, 0, []⟩
  | k + 1 => (tryPush l top n).bind fun ok => if ok then lastM.bind fun a => .pure ⟨0, true, 0, a, []⟩
    else (loadM c).bind fun w => if offK w = 0 then (casM c w (offW v 1 (offC w + 1))).bind fun ok => if ok then lastM.bind fun a => (metM c (offW v 1 (offC w + 1)) (offW 0 0 (offC w + 1))).bind fun met => if met then (storeM c (offW 0 0 (offC w + 1))).bind fun _ => (giveM l n).bind fun _ => .pure ⟨0, true, 0, -a - 2, []⟩ else pushL l top c v n k
      else pushL l top c v n k
    else pushL l top c v n k
def pushM (l : LayT) (top c v : Int) : Pm OutT := (takeM l).bind fun t => if t.2.2 then (storeM (nodeF l t.1 1) v).bind fun _ => fun log s => pushL l top c v t.1 (log.length + 1 - s.made) log s else .pure ⟨0, false, 8, t.2.1, []⟩
def tryPop (l : LayT) (me top : Int) : Pm (Int × Int × Int) := (guardM l me 0 top).bind fun p => if (ofW p.1).idx = 0 then .pure (0, p.2, 0)
  else (loadM (nodeF l (ofW p.1).idx 0)).bind fun below => (casM top p.1 (packW (turnW (ofW p.1) below))).bind fun ok => if ok then lastM.bind fun a => .pure ((ofW p.1).idx, a, 2) else lastM.bind fun a => .pure (0, a, 1)
def popL (l : LayT) (me top c : Int) : Nat → Pm OutT
  | 0 => .pure ⟨0, false, 0, 0, []⟩
  | k + 1 => (tryPop l me top).bind fun t => if t.2.2 = 0 then (clearM l me).bind fun _ => .pure ⟨0, false, 0, t.2.1, []⟩
    else if t.2.2 = 2 then (loadM (nodeF l t.1 1)).bind fun v => (clearM l me).bind fun _ => (retireM l t.1).bind fun _ => .pure ⟨v, true, 0, t.2.1, []⟩
    else (loadM c).bind fun w => if offK w = 1 then (casM c w (offW (offV w) 2 (offC w))).bind fun ok => if ok then lastM.bind fun a => (clearM l me).bind fun _ => .pure ⟨offV w, true, 0, a, []⟩ else popL l me top c k
      else popL l me top c k
def popM (l : LayT) (me top c : Int) : Pm OutT := fun log s => popL l me top c (log.length + 1 - s.made) log s
def slotOf (l : LayT) (me s : Int) : Int := if l.slots < 1 then -1 else slotF l s ((me % l.slots + l.slots) % l.slots)
def nextF (l : LayT) (me : Int) (gone : List (Int × Int)) (op : OpT) (log : List ResT) : AccT × OutT × Bool :=
  if topF l op.obj < 0 then (acc0, ⟨0, false, 1, -1, gone⟩, true)
  else if op.kind = 4 ∧ 0 ≤ op.a ∧ op.a < 4294967296 then finM (pushM l (topF l op.obj) (slotOf l me op.obj) op.a log ⟨0, gone, 0, 0, 0⟩)
  else if op.kind = 5 then finM (popM l me (topF l op.obj) (slotOf l me op.obj) log ⟨0, gone, 0, 0, 0⟩)
  else (acc0, ⟨0, false, 1, -1, gone⟩, true)

/-! ### What lays and reads -/
def layE (s n sl : Int) : LayT := ⟨s, n, 1, sl, 1, 0, 0, 1, 0, 0, 1, 2, 3, 4, 4 + s, 4 + 2 * s, 4 + 5 * s, 4 + 8 * s, 4 + 12 * s, 8 + 12 * s, 8 + 12 * s, 8 + 12 * s, 9 + 12 * s + sl, 9 + 12 * s + sl, 9 + 12 * s + sl + 8 * n⟩
def initN (l : LayT) (a : Nat) (k : Nat) : List AccT := (List.range k).map fun (i : Nat) => ⟨2, nodeF l ((a : Int) + i) 7, 0, if (a : Int) + i = l.nodes then 0 else (a : Int) + i + 1⟩
def initF (l : LayT) (a : Nat) : List AccT := initN l a (l.nodes.toNat + 1 - a) ++ [⟨2, l.free, 0, a⟩]
def beginA (l : LayT) : List AccT := initF l 1 ++ [⟨2, l.era, 0, 1⟩]
def beginF (l : LayT) : List Int := (allG (List.replicate l.size.toNat 0) (List.replicate l.size.toNat 0) [] (beginA l)).1
def nodesF (l : LayT) (m : List Int) (s : Int) : List Int := if topF l s < 0 then [] else chainF (fun n => atF m (nodeF l n 0)) l.nodes (l.nodes.toNat + 1) [] (ofW (atF m (topF l s))).idx
def rowF (l : LayT) (m : List Int) (s : Int) : List Int := (nodesF l m s).map fun n => atF m (nodeF l n 1)

/-! ### Plays -/
structure CallT where
  who : Int
  op : OpT
  val : Int
  is : Bool
  first : Int
  last : Int
  point : Int
structure SeatT where
  op : OpT
  log : List ResT
  steps : List Int
  next : Nat
  gone : List (Int × Int)
structure TabT where
  m : List Int
  step : Int
  seats : List SeatT
  calls : List CallT
  full : Int
  wild : Bool
  bad : Bool
def op0 : OpT := ⟨0, 0, 0, 0⟩
def seat0 : SeatT := ⟨op0, [], [], 0, []⟩
def beginT (l : LayT) (seats : Nat) : TabT := ⟨beginF l, 0, List.replicate seats seat0, [], 0, false, false⟩
def freeF (l : LayT) (m : List Int) (a : AccT) : Bool := if a.cell < l.node ∨ l.size ≤ a.cell ∨ (a.cell - l.node) % 8 = 7 then false else (listF l m).any fun x => decide (x = (a.cell - l.node) / 8 + 1)
def endT (t : TabT) (who : Nat) (x : SeatT) (out : OutT) : TabT :=
  let t' : TabT := { t with seats := t.seats.set who { x with op := op0, gone := out.gone } }
  if out.err = 8 then { t' with full := t.full + 1 }
  else if out.err ≠ 0 ∨ x.steps.length = 0 then { t' with bad := true }
  else { t' with calls := t.calls ++ [⟨who, x.op, out.val, out.is, x.steps.getD 0 0, x.steps.getD (x.steps.length - 1) 0, if 0 ≤ out.point ∧ out.point < x.steps.length then x.steps.getD out.point.toNat 0 else -1⟩] }
def moveT (l : LayT) (t : TabT) (who : Nat) (x : SeatT) : TabT :=
  let r := nextF l who x.gone x.op x.log
  if r.2.2 then endT t who x r.2.1
  else if faultF t.m.length r.1 = 0 then ⟨(turnF t.m r.1).1, t.step + 1, t.seats.set who { x with log := x.log ++ [(turnF t.m r.1).2], steps := x.steps ++ [t.step] }, t.calls, t.full, t.wild || freeF l t.m r.1, t.bad⟩
  else { t with seats := t.seats.set who { x with op := op0 }, wild := t.wild || freeF l t.m r.1, bad := true }
def turnT (l : LayT) (want : List (List OpT)) (t : TabT) (who : Nat) : TabT :=
  match t.seats[who]?, want[who]? with
  | some x, some ws => if x.op.kind = 0 then match ws[x.next]? with
      | none => t
      | some op => moveT l t who ⟨op, [], [], x.next + 1, x.gone⟩
    else moveT l t who x
  | _, _ => t
def turnsT (l : LayT) (want : List (List OpT)) : TabT → List Nat → TabT
  | t, [] => t
  | t, w :: ws => turnsT l want (turnT l want t w) ws
def aloneT (l : LayT) (want : List (List OpT)) (who : Nat) : Nat → TabT → TabT
  | 0, t => t
  | k + 1, t => if t.bad then t else aloneT l want who k (turnT l want t who)
def doneB (t : TabT) (want : List (List OpT)) (who : Nat) : Bool := match t.seats[who]?, want[who]? with
  | some x, some ws => decide (x.op.kind = 0) && decide (ws.length ≤ x.next)
  | _, _ => true
def restT (l : LayT) (want : List (List OpT)) : Nat → Nat → TabT → TabT
  | _, 0, t => t
  | who, k + 1, t => let t' := aloneT l want who 1500 t; restT l want (who + 1) k { t' with bad := t'.bad || !doneB t' want who }
def playedT (l : LayT) (want : List (List OpT)) (turns : List Int) : TabT := restT l want 0 want.length (turnsT l want (beginT l want.length) (turns.map fun x => (x % (want.length : Int)).toNat))
def okOp (o : OpT) : Bool := (decide (o.kind = 4) || decide (o.kind = 5)) && decide (o.obj = 0) && decide (0 ≤ o.a) && decide (o.a < 4294967296)
def fewF (want : List (List OpT)) (turns : List Int) (ops many : Nat) : Bool := decide (1 ≤ want.length) && decide (want.length ≤ 3) && decide (turns.length ≤ many) && want.all (fun w => w.all okOp) && decide ((want.map List.length).sum ≤ ops)
end Go.Proofs.YtdmnjoidfjidbaaGreat
/- Programs of pushes and pops that may make offers, as machines. -/
namespace Go.Proofs.YtdmnjoidfjidbaaGreat
set_option maxRecDepth 100000

inductive Ek where
  | tk (c v : Int) | p1 (c v n : Int) | pl (c v n : Int) | ps (c v n w : Int) | pc (c v n w : Int) | ql (c v n : Int) | qc (c v n w : Int)
  | m1 (c v n w a : Int) | m2 (c v n w a : Int) | m3 (c v n w a : Int) | qs (c n w a : Int) | gv (a : Int)
  | og (c : Int) | ol (c w : Int) | oc (c w b : Int) | ov (n a : Int) | os (c : Int) | ot (c w : Int) | fi (o : OutT) | rx (n : Int) (o : OutT) | rr (o : OutT)
def okO (a : Int) : OutT := ⟨0, true, 0, a, []⟩
def noO (a : Int) : OutT := ⟨0, false, 0, a, []⟩
def popO (v a : Int) : OutT := ⟨v, true, 0, a, []⟩
def mineW (v w : Int) : Int := offW v 1 (offC w + 1)
def noW (w : Int) : Int := offW 0 0 (offC w + 1)
def takeW (w : Int) : Int := offW (offV w) 2 (offC w)
section
variable (top : Int)
def elmAsk : Ek → Ak
  | .p1 _ v n => .st (.nd n 1) v
  | .pl _ _ _ => .ld (.ob top)
  | .ps _ _ n w => .st (.nd n 0) (ofW w).idx
  | .pc _ _ n w => .cs (.ob top) w (packW (turnW (ofW w) n))
  | .ql c _ _ => .ld (.ob c)
  | .qc c v _ w => .cs (.ob c) w (mineW v w)
  | .m1 c _ _ _ _ => .ld (.ob c)
  | .m2 c _ _ _ _ => .ld (.ob c)
  | .m3 c v _ w _ => .cs (.ob c) (mineW v w) (noW w)
  | .qs c _ w _ => .st (.ob c) (noW w)
  | .ol _ w => .ld (.nd (ofW w).idx 0)
  | .oc _ w b => .cs (.ob top) w (packW (turnW (ofW w) b))
  | .ov n _ => .ld (.nd n 1)
  | .os c => .ld (.ob c)
  | .ot c w => .cs (.ob c) w (takeW w)
  | _ => .ld (.ob top)
def elmTell : Ek → Nat → ResT → Pc Ek
  | .p1 c v n, _, _ => .at_ (.pl c v n)
  | .pl c v n, _, r => .at_ (.ps c v n r.val)
  | .ps c v n w, _, _ => .at_ (.pc c v n w)
  | .pc c v n _, made, r => if r.ok then .fin (okO made) else .at_ (.ql c v n)
  | .ql c v n, _, r => if offK r.val = 0 then .at_ (.qc c v n r.val) else .at_ (.pl c v n)
  | .qc c v n w, made, r => if r.ok then .at_ (.m1 c v n w made) else .at_ (.pl c v n)
  | .m1 c v n w a, _, r => if r.val = mineW v w then .at_ (.m2 c v n w a) else .at_ (.qs c n w a)
  | .m2 c v n w a, _, r => if r.val = mineW v w then .at_ (.m3 c v n w a) else .at_ (.qs c n w a)
  | .m3 c v n w a, _, r => if r.ok then .at_ (.pl c v n) else .at_ (.qs c n w a)
  | .qs _ n _ a, _, _ => .v1 (.gv a) n
  | .ol c w, _, r => .at_ (.oc c w r.val)
  | .oc c w _, made, r => if r.ok then .at_ (.ov (ofW w).idx made) else .at_ (.os c)
  | .ov n a, _, r => .clr (.rx n (popO r.val a))
  | .os c, _, r => if offK r.val = 1 then .at_ (.ot c r.val) else .g1 (.og c) 0 (.ob top)
  | .ot c w, made, r => if r.ok then .clr (.fi (popO (offV w) made)) else .g1 (.og c) 0 (.ob top)
  | k, _, _ => .at_ k
def elmM : Mach Ek where
  ask := elmAsk top
  tell := elmTell top
  took := fun k n _ => match k with
    | .tk c v => .at_ (.p1 c v n)
    | k => .v1 k n
  full := fun k a => match k with
    | .tk _ _ => .fin ⟨0, false, 8, a, []⟩
    | k => .at_ k
  guarded := fun k v a => match k with
    | .og c => if (ofW v).idx = 0 then .clr (.fi (noO a)) else .at_ (.ol c v)
    | k => .at_ k
  cleared := fun k => match k with
    | .fi o => .fin o
    | .rx n o => .r1 (.rr o) n
    | k => .at_ k
  gave := fun k => match k with
    | .gv a => .fin (okO (-a - 2))
    | k => .at_ k
  retired := fun k => match k with
    | .rr o => .fin o
    | k => .at_ k
end
section
variable {top : Int} {l : LayT} {S : Nat} {me : Int} {log : List ResT}
theorem fi_sim {o : OutT} {s : PsT} (hs : s.made ≤ log.length) {f : Unit → Pm OutT} (hf : ∀ s, f () log s = .ok (o, s)) : Does (elmM top) l S me (norm (elmM top) (.clr (.fi o)) s) ((clearM l me).bind f log s) (log.drop s.made) :=
  clear_sim (M0 := s.made) (fun s _ _ _ _ _ => by rw [hf]; exact does_fin) s (Nat.le_refl _) hs
theorem last_up {x : Nat} : ((x + 1 : Nat) : Int) - 1 = (x : Int) := by omega
theorem met_sim {c v n w a : Int} {f : Bool → Pm OutT}
    (h1 : ∀ s : PsT, s.made ≤ log.length → Does (elmM top) l S me ⟨.at_ (.qs c n w a), s⟩ (f true log s) (log.drop s.made)) (s : PsT)
    (h2 : ∀ s2 : PsT, s.made ≤ s2.made → s2.made ≤ log.length → Does (elmM top) l S me ⟨.at_ (.pl c v n), s2⟩ (f false log s2) (log.drop s2.made)) :
    Does (elmM top) l S me ⟨.at_ (.m1 c v n w a), s⟩ ((metM c (mineW v w) (noW w)).bind f log s) (log.drop s.made) := by
  rw [metM, bind_assoc, load_eq]
  refine does_step rfl trivial fun r h3 => ?_
  show Does (elmM top) l S me (norm (elmM top) (if r.val = mineW v w then _ else _) s.up) _ _
  by_cases e1 : r.val = mineW v w
  · rw [if_pos e1, if_pos e1, bind_assoc, load_eq]
    refine does_step (q := ⟨.at_ (Ek.m2 c v n w a), s.up⟩) (s := s.up) rfl trivial fun r2 h4 => ?_
    show Does (elmM top) l S me (norm (elmM top) (if r2.val = mineW v w then _ else _) s.up.up) _ _
    by_cases e2 : r2.val = mineW v w
    · rw [if_pos e2, if_pos e2, bind_assoc, cas_eq]
      refine does_step (q := ⟨.at_ (Ek.m3 c v n w a), s.up.up⟩) (s := s.up.up) rfl trivial fun r3 h5 => ?_
      show Does (elmM top) l S me (norm (elmM top) (if r3.ok then _ else _) s.up.up.up) (f (!r3.ok) log _) _
      cases r3.ok
      · exact h1 s.up.up.up (by simp only [PsT.up] at h5 ⊢; omega)
      · exact h2 s.up.up.up (by simp only [PsT.up]; omega) (by simp only [PsT.up] at h5 ⊢; omega)
    · rw [if_neg e2, if_neg e2]
      exact h1 s.up.up (by simp only [PsT.up] at h4 ⊢; omega)
  · rw [if_neg e1, if_neg e1]
    exact h1 s.up (by simp only [PsT.up]; omega)
theorem push_sim {c v n : Int} : ∀ (k : Nat) (s : PsT), s.made ≤ log.length → log.length - s.made < k → Does (elmM top) l S me ⟨.at_ (.pl c v n), s⟩ (pushL l top c v n k log s) (log.drop s.made)
  | 0, s, _, h => by omega
  | k + 1, s, hs, h => by
    rw [pushL, tryPush, bind_assoc, load_eq]
    refine does_step rfl trivial fun r1 h1 => ?_
    rw [bind_assoc, store_eq]
    refine does_step (q := ⟨.at_ (Ek.ps c v n r1.val), s.up⟩) (s := s.up) rfl trivial fun r2 h2 => ?_
    rw [cas_eq]
    refine does_step (q := ⟨.at_ (Ek.pc c v n r1.val), s.up.up⟩) (s := s.up.up) rfl trivial fun r3 h3 => ?_
    show Does (elmM top) l S me (norm (elmM top) (if r3.ok then _ else _) s.up.up.up) _ _
    have a3 : s.up.up.up.made = s.made + 3 := rfl
    have a2 : s.up.up.made = s.made + 2 := rfl
    by_cases e3 : r3.ok = true
    · rw [if_pos e3, if_pos e3, bind_ok last_ok]
      show Does (elmM top) l S me ⟨.fin (okO s.up.up.made), s.up.up.up⟩ (.ok (⟨0, true, 0, ((s.up.up.made + 1 : Nat) : Int) - 1, []⟩, s.up.up.up)) _
      rw [last_up]
      exact does_fin
    · rw [if_neg e3, if_neg e3, load_eq]
      refine does_step (q := ⟨.at_ (Ek.ql c v n), s.up.up.up⟩) (s := s.up.up.up) rfl trivial fun r4 h4 => ?_
      show Does (elmM top) l S me (norm (elmM top) (if offK r4.val = 0 then _ else _) s.up.up.up.up) _ _
      have a4 : s.up.up.up.up.made = s.made + 4 := rfl
      by_cases e4 : offK r4.val = 0
      · rw [if_pos e4, if_pos e4, cas_eq]
        refine does_step (q := ⟨.at_ (Ek.qc c v n r4.val), s.up.up.up.up⟩) (s := s.up.up.up.up) rfl trivial fun r5 h5 => ?_
        show Does (elmM top) l S me (norm (elmM top) (if r5.ok then _ else _) s.up.up.up.up.up) _ _
        have a5 : s.up.up.up.up.up.made = s.made + 5 := rfl
        by_cases e5 : r5.ok = true
        · rw [if_pos e5, if_pos e5, bind_ok last_ok]
          show Does (elmM top) l S me ⟨.at_ (.m1 c v n r4.val s.up.up.up.up.made), s.up.up.up.up.up⟩ _ _
          refine met_sim (fun s6 h6 => ?_) _ (fun s6 h6 h7 => ?_)
          · simp only [if_true]
            rw [store_eq]
            refine does_step rfl trivial fun r7 h8 => ?_
            refine give_sim (k := Ek.gv s.up.up.up.up.made) (n := n) (M0 := s6.up.made) (fun s8 _ h9 => ?_) (log.length + 1 - s6.up.made) s6.up (Nat.le_refl _) (by simp only [PsT.up]; omega)
            show Does (elmM top) l S me ⟨.fin (okO (-(s.up.up.up.up.made : Int) - 2)), s8⟩ (.ok (⟨0, true, 0, -(((s.up.up.up.up.made + 1 : Nat) : Int) - 1) - 2, []⟩, s8)) _
            rw [last_up]
            exact does_fin
          · exact push_sim k s6 h7 (by omega)
        · rw [if_neg e5, if_neg e5]
          exact push_sim k _ (by omega) (by omega)
      · rw [if_neg e4, if_neg e4]
        exact push_sim k _ (by omega) (by omega)
theorem pop_sim (hS : l.seats = (S : Int)) {c : Int} : ∀ (k : Nat) (s : PsT), s.made ≤ log.length → log.length - s.made < k → Does (elmM top) l S me ⟨.g1 (.og c) 0 (.ob top), s⟩ (popL l me top c k log s) (log.drop s.made)
  | 0, s, _, h => by omega
  | k + 1, s, hs, h => by
    rw [popL, tryPop, bind_assoc]
    refine guard_sim (M0 := s.made) (c := .ob top) (fun w a s1 hM h1 => ?_) (log.length + 1 - s.made) s (Nat.le_refl _) (by omega)
    show Does (elmM top) l S me (norm (elmM top) (if (ofW w).idx = 0 then _ else _) s1) _ _
    by_cases e0 : (ofW w).idx = 0
    · rw [if_pos e0]
      simp only [e0, if_true]
      exact fi_sim h1 (fun s => rfl)
    · rw [if_neg e0]
      simp only [e0, if_false]
      rw [bind_assoc, load_eq]
      refine does_step (q := ⟨.at_ (Ek.ol c w), s1⟩) rfl trivial fun r2 h2 => ?_
      rw [bind_assoc, cas_eq]
      refine does_step (q := ⟨.at_ (Ek.oc c w r2.val), s1.up⟩) (s := s1.up) rfl trivial fun r3 h3 => ?_
      show Does (elmM top) l S me (norm (elmM top) (if r3.ok then _ else _) s1.up.up) _ _
      have a2 : s1.up.up.made = s1.made + 2 := rfl
      by_cases e3 : r3.ok = true
      · rw [if_pos e3, if_pos e3, bind_assoc, bind_ok last_ok]
        show Does (elmM top) l S me ⟨.at_ (.ov (ofW w).idx s1.up.made), s1.up.up⟩ (((loadM (nodeF l (ofW w).idx 1)).bind fun v => (clearM l me).bind fun _ => (retireM l (ofW w).idx).bind fun _ => .pure ⟨v, true, 0, ((s1.up.made + 1 : Nat) : Int) - 1, []⟩) log s1.up.up) _
        rw [last_up, load_eq]
        refine does_step rfl trivial fun r4 h4 => ?_
        have a3 : s1.up.up.up.made = s1.made + 3 := rfl
        refine clear_sim (M0 := s1.up.up.up.made) (fun s5 _ _ _ h5 h6 => ?_) s1.up.up.up (Nat.le_refl _) (by omega)
        show Does (elmM top) l S me ⟨.r1 (.rr (popO r4.val s1.up.made)) (ofW w).idx, s5⟩ _ _
        exact retire_sim hS (M0 := s5.made) (fun s6 h7 h8 => does_fin) s5 (Nat.le_refl _)
      · rw [if_neg e3, if_neg e3, bind_assoc, bind_ok last_ok]
        show Does (elmM top) l S me ⟨.at_ (.os c), s1.up.up⟩ (((loadM c).bind fun w => if offK w = 1 then (casM c w (offW (offV w) 2 (offC w))).bind fun ok => if ok then lastM.bind fun a => (clearM l me).bind fun _ => .pure ⟨offV w, true, 0, a, []⟩ else popL l me top c k
          else popL l me top c k) log s1.up.up) _
        rw [load_eq]
        refine does_step rfl trivial fun r4 h4 => ?_
        show Does (elmM top) l S me (norm (elmM top) (if offK r4.val = 1 then _ else _) s1.up.up.up) _ _
        have a3 : s1.up.up.up.made = s1.made + 3 := rfl
        by_cases e4 : offK r4.val = 1
        · rw [if_pos e4, if_pos e4, cas_eq]
          refine does_step (q := ⟨.at_ (Ek.ot c r4.val), s1.up.up.up⟩) (s := s1.up.up.up) rfl trivial fun r5 h5 => ?_
          show Does (elmM top) l S me (norm (elmM top) (if r5.ok then _ else _) s1.up.up.up.up) _ _
          have a4 : s1.up.up.up.up.made = s1.made + 4 := rfl
          by_cases e5 : r5.ok = true
          · rw [if_pos e5, if_pos e5, bind_ok last_ok]
            refine fi_sim (f := fun _ => .pure ⟨offV r4.val, true, 0, ((s1.up.up.up.made + 1 : Nat) : Int) - 1, []⟩) (by omega) (fun s' => ?_)
            show Except.ok ((⟨offV r4.val, true, 0, ((s1.up.up.up.made + 1 : Nat) : Int) - 1, []⟩ : OutT), s') = _
            rw [last_up]; rfl
          · rw [if_neg e5, if_neg e5]
            exact pop_sim hS k _ (by omega) (by omega)
        · rw [if_neg e4, if_neg e4]
          exact pop_sim hS k _ (by omega) (by omega)
end
def startQ (top c : Int) (op : OpT) (gone : List (Int × Int)) : Q Ek := ⟨if op.kind = 4 then .t1 (.tk c op.a) else .g1 (.og c) 0 (.ob top), ⟨0, gone, 0, 0, 0⟩⟩
theorem next_run {l : LayT} {S : Nat} {me : Int} (hS : l.seats = (S : Int)) {gone : List (Int × Int)} {op : OpT} {log : List ResT} (hh : ¬ topF l op.obj < 0) (hk : op.kind = 4 ∨ op.kind = 5) (ha : 0 ≤ op.a ∧ op.a < 4294967296) :
    nextF l me gone op log = endQ (elmM (topF l op.obj)) l me (runQ (elmM (topF l op.obj)) S (startQ (topF l op.obj) (slotOf l me op.obj) op gone) log) := by
  unfold nextF
  rw [if_neg hh]
  rcases hk with hk | hk
  · rw [if_pos ⟨hk, ha⟩]
    unfold startQ
    rw [if_pos hk]
    show Does (elmM (topF l op.obj)) l S me ⟨.t1 (.tk (slotOf l me op.obj) op.a), ⟨0, gone, 0, 0, 0⟩⟩ (pushM l (topF l op.obj) (slotOf l me op.obj) op.a log ⟨0, gone, 0, 0, 0⟩) (log.drop 0)
    unfold pushM
    refine take_sim (M0 := 0) (k := Ek.tk (slotOf l me op.obj) op.a) (fun n a s hM hs => ?_) (fun a s hM hs => ?_) (log.length + 1 - 0) ⟨0, gone, 0, 0, 0⟩ (Nat.le_refl _) (by simp)
    · simp only [if_true]
      rw [store_eq]
      refine does_step rfl trivial fun r h1 => ?_
      exact push_sim (log.length + 1 - s.up.made) s.up (by simp only [PsT.up]; omega) (by simp only [PsT.up]; omega)
    · simp only [Bool.false_eq_true, if_false]
      exact does_fin
  · rw [if_neg (by omega), if_pos hk]
    unfold startQ
    rw [if_neg (by omega)]
    exact pop_sim hS (log.length + 1) ⟨0, gone, 0, 0, 0⟩ (by simp) (by simp)
end Go.Proofs.YtdmnjoidfjidbaaGreat
/- Stacks at which offers are made: what holds of their memory, and what programs know. -/
namespace Go.Proofs.YtdmnjoidfjidbaaGreat
set_option maxRecDepth 100000

/-! ### Words of offers -/
structure OffOk (K : Nat) (x : Int) (o : Int) : Prop where
  nn : 0 ≤ x
  le : x / 17179869184 ≤ K
  k2 : offK x ≤ 2
  ow : offK x = 0 ↔ o = 0
theorem offV_W {v k n : Int} (hv : 0 ≤ v ∧ v < 4294967296) : offV (offW v k n) = v := by unfold offV offW; omega
theorem offK_W {v k n : Int} (hk : 0 ≤ k ∧ k < 4) : offK (offW v k n) = k := by unfold offK offW; omega
theorem offC_W {v k n : Int} (hn : 0 ≤ n ∧ n < 268435456) : offC (offW v k n) = n := by unfold offC offW; omega
theorem div_W {v k n : Int} (hn : 0 ≤ n ∧ n < 268435456) : offW v k n / 17179869184 = n := by unfold offW; omega
theorem offC_lt (w : Int) : 0 ≤ offC w ∧ offC w < 268435456 := by unfold offC; omega
theorem offC_div {w : Int} (h : 0 ≤ w) (hk : w / 17179869184 < 268435456) : offC w = w / 17179869184 := by unfold offC; omega
structure SeenO (w cur : Int) : Prop where
  nn : 0 ≤ w
  le : w / 17179869184 ≤ cur / 17179869184
def VOk (v : Int) : Prop := 0 ≤ v ∧ v < 4294967296
def takenW (v w : Int) : Int := offW v 2 (offC w + 1)
theorem take_mine {v w : Int} (hv : VOk v) (hc : offC w < 268435455) : takeW (mineW v w) = takenW v w := by
  have := offC_lt w
  unfold takeW mineW takenW
  rw [offV_W hv, offC_W ⟨by omega, by omega⟩]
theorem kind_mine {v w : Int} : offK (mineW v w) = 1 := offK_W (by omega)
theorem kind_taken {v w : Int} : offK (takenW v w) = 2 := offK_W (by omega)
theorem kind_no {w : Int} : offK (noW w) = 0 := offK_W (by omega)
theorem mine_val {v w : Int} (hv : VOk v) : offV (mineW v w) = v := offV_W hv

/-! ### What holds -/
structure ElmG where
  ret : Nat
  ow : Int → Int
def ElmG.put (g : ElmG) (c n : Int) : ElmG := { g with ow := fun x => if x = c then n else g.ow x }
section
variable (top lo hi : Int) (N : Nat)
structure ElmSI (K : Nat) (W : Ws) (X : List Int) (g : ElmG) : Prop where
  head : W.ob top = 131072 * (g.ret : Int) + X.headD 0
  rk : g.ret ≤ K
  link : Linked (fun n => W.nd n 0) X
  rng : ∀ n ∈ X, 1 ≤ n ∧ n ≤ (N : Int)
  off : ∀ c, lo ≤ c → c < hi → OffOk K (W.ob c) (g.ow c)
def SC (c : Int) : Prop := lo ≤ c ∧ c < hi
def TW (W : Ws) (P : Int → Int → Prop) (w : Int) : Prop := Seen N w (W.ob top) ∧ 1 ≤ (ofW w).idx ∧ P 0 (ofW w).idx
structure Off (W : Ws) (g : ElmG) (c v n w : Int) : Prop where
  n1 : 1 ≤ n
  ow : g.ow c = n
  cw : offC w < 268435455
  at_ : W.ob c = mineW v w ∨ W.ob c = takenW v w
def elmKL (W : Ws) (g : ElmG) (P : Int → Int → Prop) : Ek → Prop
  | .tk c v => VOk v ∧ SC lo hi c
  | .p1 c v _ => VOk v ∧ SC lo hi c
  | .pl c v n => VOk v ∧ SC lo hi c ∧ W.nd n 1 = v
  | .ps c v n w => VOk v ∧ SC lo hi c ∧ W.nd n 1 = v ∧ Seen N w (W.ob top)
  | .pc c v n w => VOk v ∧ SC lo hi c ∧ W.nd n 1 = v ∧ Seen N w (W.ob top) ∧ W.nd n 0 = (ofW w).idx
  | .ql c v n => VOk v ∧ SC lo hi c ∧ W.nd n 1 = v
  | .qc c v n w => VOk v ∧ SC lo hi c ∧ W.nd n 1 = v ∧ SeenO w (W.ob c) ∧ offK w = 0
  | .m1 c v n w _ => VOk v ∧ SC lo hi c ∧ W.nd n 1 = v ∧ Off W g c v n w
  | .m2 c v n w _ => VOk v ∧ SC lo hi c ∧ W.nd n 1 = v ∧ Off W g c v n w
  | .m3 c v n w _ => VOk v ∧ SC lo hi c ∧ W.nd n 1 = v ∧ Off W g c v n w
  | .qs c n w _ => SC lo hi c ∧ ∃ v, VOk v ∧ Off W g c v n w ∧ W.ob c = takenW v w
  | .og c => SC lo hi c
  | .ol c w => SC lo hi c ∧ TW top N W P w
  | .oc c w b => SC lo hi c ∧ TW top N W P w ∧ (W.ob top = w → W.nd (ofW w).idx 0 = b)
  | .os c => SC lo hi c
  | .ot c w => SC lo hi c ∧ SeenO w (W.ob c) ∧ offK w = 1
  | _ => True
def elmGL (W : Ws) (P : Int → Int → Prop) : Ek → Int → Prop
  | .og _, w => Seen N w (W.ob top) ∧ (1 ≤ (ofW w).idx → P 0 (ofW w).idx)
  | _, _ => True
def elmNx (W : Ws) (X : List Int) (g : ElmG) : Ek → List Int × ElmG
  | .pc _ _ n w => if W.ob top = w then (n :: X, { g with ret := g.ret + 1 }) else (X, g)
  | .oc _ w _ => if W.ob top = w then (X.tail, { g with ret := g.ret + 1 }) else (X, g)
  | .qc c _ n w => if W.ob c = w then (X, g.put c n) else (X, g)
  | .m3 c v _ w _ => if W.ob c = mineW v w then (X, g.put c 0) else (X, g)
  | .qs c _ _ _ => (X, g.put c 0)
  | _ => (X, g)
def elmZ : Sp Ek ElmG where
  mine := fun k => match k with
    | .p1 _ _ n | .pl _ _ n | .ps _ _ n _ | .pc _ _ n _ | .ql _ _ n | .qc _ _ n _ | .m1 _ _ n _ _ | .m2 _ _ n _ _ | .m3 _ _ n _ _ | .qs _ n _ _ => [n]
    | _ => []
  dead := fun k => match k with
    | .ov n _ => [n]
    | .rx n _ => [n]
    | _ => []
  zero := fun k => match k with
    | .og _ | .ol _ _ | .oc _ _ _ | .ov _ _ | .os _ | .ot _ _ | .fi _ | .rx _ _ => False
    | _ => True
  gad := fun k i c => i = 0 ∧ match k with
    | .og _ => c = .ob top
    | _ => False
  SI := fun K W X _ g => ElmSI top lo hi N K W X g
  KL := fun W _ g P k => elmKL top lo hi N W g P k
  GL := fun W _ _ P k _ _ v => elmGL top N W P k v
  nx := elmNx top

/-! ### What others see of a step -/
structure Evo (W W' : Ws) (g g' : ElmG) (mi : List Int) : Prop where
  tp : W'.ob top = W.ob top ∨ W'.ob top / 131072 = W.ob top / 131072 + 1
  nd : ∀ n, n ∉ mi → ∀ i, W'.nd n i = W.nd n i
  sl : ∀ c, SC lo hi c → (W'.ob c = W.ob c ∧ g'.ow c = g.ow c) ∨ (g.ow c = 0 ∧ W.ob c / 17179869184 ≤ W'.ob c / 17179869184) ∨ (offK (W.ob c) = 1 ∧ W'.ob c = takeW (W.ob c) ∧ g'.ow c = g.ow c ∧ W.ob c / 17179869184 ≤ W'.ob c / 17179869184) ∨ (g.ow c ∈ mi ∧ W.ob c / 17179869184 ≤ W'.ob c / 17179869184)
end
section
variable {top lo hi : Int} {N : Nat} {W W' : Ws} {g g' : ElmG} {mi : List Int} (hE : Evo top lo hi W W' g g' mi)
include hE
theorem Evo.seen {w : Int} (h : Seen N w (W.ob top)) : Seen N w (W'.ob top) := by
  rcases hE.tp with e | e
  · rw [e]; exact h
  · exact h.up e
theorem Evo.same {w : Int} (h : Seen N w (W.ob top)) (e : W'.ob top = w) : W.ob top = w := by
  rcases hE.tp with e' | e'
  · rw [← e']; exact e
  · exact absurd e (h.ne e')
theorem Evo.seenO {c w : Int} (hc : SC lo hi c) (h : SeenO w (W.ob c)) : SeenO w (W'.ob c) := by
  refine ⟨h.nn, ?_⟩
  rcases hE.sl c hc with e | e | e | e
  · rw [e.1]; exact h.le
  · exact Int.le_trans h.le e.2
  · exact Int.le_trans h.le e.2.2.2
  · exact Int.le_trans h.le e.2
theorem Evo.off {c v n w : Int} (hv : VOk v) (hc : SC lo hi c) (hn : n ∉ mi) (h : Off W g c v n w) : Off W' g' c v n w := by
  have n1 := h.n1
  have ho := h.ow
  rcases hE.sl c hc with e | e | e | e
  · exact ⟨n1, by rw [e.2]; exact ho, h.cw, by rw [e.1]; exact h.at_⟩
  · omega
  · refine ⟨n1, by rw [e.2.2.1]; exact ho, h.cw, ?_⟩
    rcases h.at_ with a | a
    · exact .inr (by rw [e.2.1, a, take_mine hv h.cw])
    · rw [a, kind_taken] at e; omega
  · rw [ho] at e; exact absurd e.1 hn
theorem Evo.offT {c v n w : Int} (hc : SC lo hi c) (hn : n ∉ mi) (h : Off W g c v n w) (ht : W.ob c = takenW v w) : W'.ob c = takenW v w := by
  have n1 := h.n1
  have ho := h.ow
  rcases hE.sl c hc with e | e | e | e
  · rw [e.1]; exact ht
  · omega
  · rw [ht, kind_taken] at e; omega
  · rw [ho] at e; exact absurd e.1 hn
theorem Evo.kl {k : Ek} {P : Int → Int → Prop} (hP : ∀ i n, P i n → n ∉ mi) (hm : ∀ n ∈ (elmZ top lo hi N).mine k, n ∉ mi) (h : elmKL top lo hi N W g P k) : elmKL top lo hi N W' g' P k := by
  cases k with
  | tk c v => exact h
  | p1 c v n => exact h
  | pl c v n => exact ⟨h.1, h.2.1, by rw [hE.nd n (hm n (by simp [elmZ]))]; exact h.2.2⟩
  | ps c v n w => exact ⟨h.1, h.2.1, by rw [hE.nd n (hm n (by simp [elmZ]))]; exact h.2.2.1, hE.seen h.2.2.2⟩
  | pc c v n w => exact ⟨h.1, h.2.1, by rw [hE.nd n (hm n (by simp [elmZ]))]; exact h.2.2.1, hE.seen h.2.2.2.1, by rw [hE.nd n (hm n (by simp [elmZ]))]; exact h.2.2.2.2⟩
  | ql c v n => exact ⟨h.1, h.2.1, by rw [hE.nd n (hm n (by simp [elmZ]))]; exact h.2.2⟩
  | qc c v n w => exact ⟨h.1, h.2.1, by rw [hE.nd n (hm n (by simp [elmZ]))]; exact h.2.2.1, hE.seenO h.2.1 h.2.2.2.1, h.2.2.2.2⟩
  | m1 c v n w a => exact ⟨h.1, h.2.1, by rw [hE.nd n (hm n (by simp [elmZ]))]; exact h.2.2.1, hE.off h.1 h.2.1 (hm n (by simp [elmZ])) h.2.2.2⟩
  | m2 c v n w a => exact ⟨h.1, h.2.1, by rw [hE.nd n (hm n (by simp [elmZ]))]; exact h.2.2.1, hE.off h.1 h.2.1 (hm n (by simp [elmZ])) h.2.2.2⟩
  | m3 c v n w a => exact ⟨h.1, h.2.1, by rw [hE.nd n (hm n (by simp [elmZ]))]; exact h.2.2.1, hE.off h.1 h.2.1 (hm n (by simp [elmZ])) h.2.2.2⟩
  | qs c n w a =>
    obtain ⟨h1, v, h2, h3, h4⟩ := h
    exact ⟨h1, v, h2, hE.off h2 h1 (hm n (by simp [elmZ])) h3, hE.offT h1 (hm n (by simp [elmZ])) h3 h4⟩
  | og c => exact h
  | ol c w => exact ⟨h.1, hE.seen h.2.1, h.2.2⟩
  | oc c w b => exact ⟨h.1, ⟨hE.seen h.2.1.1, h.2.1.2⟩, fun e => by rw [hE.nd _ (hP _ _ h.2.1.2.2)]; exact h.2.2 (hE.same h.2.1.1 e)⟩
  | os c => exact h
  | ot c w => exact ⟨h.1, hE.seenO h.1 h.2.1, h.2.2⟩
  | gv a => trivial
  | ov n a => trivial
  | fi o => trivial
  | rx n o => trivial
  | rr o => trivial
theorem Evo.gl {k : Ek} {P : Int → Int → Prop} {v : Int} (h : elmGL top N W P k v) : elmGL top N W' P k v := by
  cases k <;> first | exact ⟨hE.seen h.1, h.2⟩ | trivial
end
theorem elmKL_mono {top lo hi : Int} {N : Nat} {W : Ws} {g : ElmG} {P P' : Int → Int → Prop} {k : Ek} (h : elmKL top lo hi N W g P k) (hP : ∀ i n, P i n → P' i n) : elmKL top lo hi N W g P' k := by
  cases k with
  | ol c w => exact ⟨h.1, h.2.1, h.2.2.1, hP _ _ h.2.2.2⟩
  | oc c w b => exact ⟨h.1, ⟨h.2.1.1, h.2.1.2.1, hP _ _ h.2.1.2.2⟩, h.2.2⟩
  | _ => exact h
end Go.Proofs.YtdmnjoidfjidbaaGreat
/- Stacks at which offers are made: all that has to be shown of them. -/
namespace Go.Proofs.YtdmnjoidfjidbaaGreat
set_option maxRecDepth 100000

section
variable {top lo hi : Int} {l : LayT} {S N K : Nat} {W : Ws} {X : List Int} {D : Int → Prop} {g : ElmG} {P P' : Int → Int → Prop}
structure ElmLay (l : LayT) (S : Nat) (top lo hi : Int) : Prop where
  t1 : 4 + 5 * (S : Int) ≤ top
  t2 : top < lo
  lh : lo ≤ hi
  h2 : hi ≤ l.node
theorem ob_set {W : Ws} {c v d : Int} : (W.setOb c v).ob d = if d = c then v else W.ob d := rfl
theorem nd_set {W : Ws} {n i v m j : Int} : (W.setNd n i v).nd m j = if m = n ∧ j = i then v else W.nd m j := rfl
theorem OffOk.up {K : Nat} {x o : Int} (h : OffOk K x o) : OffOk (K + 1) x o := ⟨h.nn, by have := h.le; omega, h.k2, h.ow⟩
theorem ElmSI.up (h : ElmSI top lo hi N K W X g) : ElmSI top lo hi N (K + 1) W X g := ⟨h.head, Nat.le_succ_of_le h.rk, h.link, h.rng, fun c c1 c2 => (h.off c c1 c2).up⟩
theorem ElmSI.hd (h : ElmSI top lo hi N K W X g) : 0 ≤ X.headD 0 ∧ X.headD 0 ≤ (N : Int) := by
  cases X with
  | nil => simp
  | cons x X => have := h.rng x (by simp); simp; omega
theorem ElmSI.idx (h : ElmSI top lo hi N K W X g) (hN : N ≤ 100) : (ofW (W.ob top)).idx = X.headD 0 := by
  have h1 := h.head
  have h2 := h.hd
  rw [ofW_idx_eq]
  omega
theorem ElmSI.seenT (h : ElmSI top lo hi N K W X g) (hN : N ≤ 100) : Seen N (W.ob top) (W.ob top) := by
  have h1 := h.head
  have h2 := h.hd
  have h3 := h.idx hN
  exact ⟨by omega, by rw [h3]; omega, by rw [h3]; exact h2.2, Int.le_refl _, fun _ => rfl⟩
theorem still_ok {s : PsT} {k : Ek} {pc' : Pc Ek} (hSI : ElmSI top lo hi N K W X g) (hok : OkE (elmZ top lo hi N) l S N W X g P s pc') (hm : mineP (elmZ top lo hi N) pc' = (elmZ top lo hi N).mine k) (hdd : deadP (elmZ top lo hi N) pc' = (elmZ top lo hi N).dead k) : StepOk (elmZ top lo hi N) l S N K W X D g P s k W X g pc' :=
  ⟨hSI.up, hok, fun _ _ _ _ _ h => h, fun _ _ _ _ _ _ _ _ _ h => h, fun n => by rw [hm, hdd], fun n h => .inl h, fun n h => by rw [hdd]; exact h⟩
theorem evo_ok {s : PsT} {k : Ek} {pc' : Pc Ek} {W' : Ws} {X' : List Int} {g' : ElmG} (hmi : ∀ n ∈ (elmZ top lo hi N).mine k, n ∉ X ∧ ¬ D n) (hE : Evo top lo hi W W' g g' ((elmZ top lo hi N).mine k)) (hSI : ElmSI top lo hi N (K + 1) W' X' g') (hok : OkE (elmZ top lo hi N) l S N W' X' g' P s pc')
    (hc : ∀ n, X'.count n + (mineP (elmZ top lo hi N) pc').count n + (deadP (elmZ top lo hi N) pc').count n = X.count n + ((elmZ top lo hi N).mine k).count n + ((elmZ top lo hi N).dead k).count n) (hX : ∀ n ∈ X, n ∈ X' ∨ n ∈ deadP (elmZ top lo hi N) pc') (hdd : ∀ n ∈ (elmZ top lo hi N).dead k, n ∈ deadP (elmZ top lo hi N) pc') : StepOk (elmZ top lo hi N) l S N K W X D g P s k W' X' g' pc' :=
  ⟨hSI, hok, fun _ _ hP hm _ h => hE.kl (fun i n hp hn => (hP i n hp).elim (hmi n hn).1 (hmi n hn).2) (fun n hn => (hm n hn).2.2) h, fun _ _ _ _ _ _ _ _ _ h => hE.gl h, hc, hX, hdd⟩
theorem write_si (h : ElmSI top lo hi N K W X g) {n i v : Int} (hnX : n ∉ X) : ElmSI top lo hi N (K + 1) (W.setNd n i v) X g ∧ Evo top lo hi W (W.setNd n i v) g g [n] := by
  have hne : ∀ x j, x ≠ n → (W.setNd n i v).nd x j = W.nd x j := fun x j hx => by rw [nd_set, if_neg (fun hh : x = n ∧ _ => hx hh.1)]
  refine ⟨⟨h.head, Nat.le_succ_of_le h.rk, h.link.same fun x hx => hne x 0 (fun e => hnX (e ▸ hx)), h.rng, fun c c1 c2 => (h.off c c1 c2).up⟩, ⟨.inl rfl, fun x hx j => hne x j (by simpa using hx), fun c _ => .inl ⟨rfl, rfl⟩⟩⟩
theorem top_si (h : ElmSI top lo hi N K W X g) (htl : top < lo) (hK : K ≤ 100000) (hN : N ≤ 100) {b : Int} {X' : List Int} (hb : b = X'.headD 0) (hl : Linked (fun n => W.nd n 0) X') (hr : ∀ n ∈ X', 1 ≤ n ∧ n ≤ (N : Int)) (mi : List Int) :
    ElmSI top lo hi N (K + 1) (W.setOb top (packW (turnW (ofW (W.ob top)) b))) X' { g with ret := g.ret + 1 } ∧ Evo top lo hi W (W.setOb top (packW (turnW (ofW (W.ob top)) b))) g { g with ret := g.ret + 1 } mi := by
  have h1 := h.head
  have h2 := h.hd
  have h3 := h.rk
  have hb2 : 0 ≤ b ∧ b ≤ (N : Int) := by
    rw [hb]
    cases X' with
    | nil => simp
    | cons x X' => have := hr x (by simp); simp; omega
  have hp : packW (turnW (ofW (W.ob top)) b) = 131072 * ((g.ret : Int) + 1) + b := pack_turn h1 (by omega) (by omega) (by omega) (by omega)
  refine ⟨⟨?_, by simp only; omega, hl, hr, fun c c1 c2 => ?_⟩, ⟨.inr ?_, fun x _ j => rfl, fun c hc => .inl ⟨?_, rfl⟩⟩⟩
  · rw [ob_set, if_pos rfl, hp, hb]; simp only; omega
  · rw [ob_set, if_neg (by omega)]; exact (h.off c c1 c2).up
  · rw [ob_set, if_pos rfl, hp]; omega
  · rw [ob_set, if_neg (by have := hc.1; omega)]
theorem slot_si (h : ElmSI top lo hi N K W X g) (htl : top < lo) {c x o : Int} (hc : SC lo hi c) (hx : OffOk (K + 1) x o) : ElmSI top lo hi N (K + 1) (W.setOb c x) X (g.put c o) := by
  refine ⟨?_, Nat.le_succ_of_le h.rk, h.link, h.rng, fun d d1 d2 => ?_⟩
  · rw [ob_set, if_neg (by have := hc.1; omega)]; exact h.head
  · rw [ob_set]
    by_cases e : d = c
    · rw [if_pos e]
      simp only [ElmG.put, e, if_true]
      exact hx
    · rw [if_neg e]
      simp only [ElmG.put, e, if_false]
      exact (h.off d d1 d2).up
theorem slot_evo (htl : top < lo) {c x o : Int} {mi : List Int} (hc : SC lo hi c) (h : (g.ow c = 0 ∧ W.ob c / 17179869184 ≤ x / 17179869184) ∨ (offK (W.ob c) = 1 ∧ x = takeW (W.ob c) ∧ o = g.ow c ∧ W.ob c / 17179869184 ≤ x / 17179869184) ∨ (g.ow c ∈ mi ∧ W.ob c / 17179869184 ≤ x / 17179869184)) : Evo top lo hi W (W.setOb c x) g (g.put c o) mi := by
  refine ⟨.inl ?_, fun x _ j => rfl, fun d hd => ?_⟩
  · rw [ob_set, if_neg (by have := hc.1; omega)]
  · rw [ob_set]
    by_cases e : d = c
    · subst e
      rw [if_pos rfl]
      refine .inr ?_
      simp only [ElmG.put, if_true]
      exact h
    · rw [if_neg e]
      refine .inl ⟨rfl, ?_⟩
      simp only [ElmG.put, e, if_false]
theorem elm_step (hLy : ElmLay l S top lo hi) (hN : N ≤ 100) (hK : K ≤ 100000) {k : Ek} (s : PsT) (m : Nat) (hSI : ElmSI top lo hi N K W X g) (hk : elmKL top lo hi N W g P k) (hz : (elmZ top lo hi N).zero k → s.z) (hP : ∀ i n, P i n → n ∈ X ∨ D n) (hb : ∀ n, n ∈ X ∨ n ∈ (elmZ top lo hi N).mine k ∨ D n → 1 ≤ n ∧ n ≤ (N : Int))
    (hmi : ∀ n ∈ (elmZ top lo hi N).mine k, n ∉ X ∧ ¬ D n) (hDX : ∀ n, D n → n ∉ X) :
    StepOk (elmZ top lo hi N) l S N K W X D g P s k (actW W (elmAsk top k)).1 (elmNx top W X g k).1 (elmNx top W X g k).2 (elmTell top k m (actW W (elmAsk top k)).2) := by
  have htl := hLy.t2
  have hgT : ∀ c, SC lo hi c → OkE (elmZ top lo hi N) l S N W X g P s (.g1 (.og c) 0 (.ob top)) := fun c hc => ⟨hc, (fun h => h), by omega, by omega, ⟨hLy.t1, by have := hLy.t2; have := hLy.lh; have := hLy.h2; omega⟩, rfl, rfl⟩
  cases k with
  | tk c v => exact still_ok hSI ⟨hk, hz⟩ rfl rfl
  | gv a => exact still_ok hSI ⟨hk, hz⟩ rfl rfl
  | og c => exact still_ok hSI ⟨hk, hz⟩ rfl rfl
  | fi o => exact still_ok hSI ⟨hk, hz⟩ rfl rfl
  | rx n o => exact still_ok hSI ⟨hk, hz⟩ rfl rfl
  | rr o => exact still_ok hSI ⟨hk, hz⟩ rfl rfl
  | p1 c v n =>
    have hmn := hmi n (by simp [elmZ])
    obtain ⟨f1, f2⟩ := write_si hSI (i := 1) (v := v) hmn.1
    exact evo_ok (pc' := .at_ (.pl c v n)) (W' := W.setNd n 1 v) hmi f2 f1 ⟨⟨hk.1, hk.2, by rw [nd_set, if_pos ⟨rfl, rfl⟩]⟩, hz⟩ (fun n => rfl) (fun n h => .inl h) (fun n h => h)
  | pl c v n => exact still_ok (pc' := .at_ (.ps c v n (W.ob top))) hSI ⟨⟨hk.1, hk.2.1, hk.2.2, hSI.seenT hN⟩, hz⟩ rfl rfl
  | ps c v n w =>
    have hmn := hmi n (by simp [elmZ])
    obtain ⟨f1, f2⟩ := write_si hSI (i := 0) (v := (ofW w).idx) hmn.1
    exact evo_ok (pc' := .at_ (.pc c v n w)) (W' := W.setNd n 0 (ofW w).idx) hmi f2 f1 ⟨⟨hk.1, hk.2.1, by rw [nd_set, if_neg (by omega)]; exact hk.2.2.1, hk.2.2.2, by rw [nd_set, if_pos ⟨rfl, rfl⟩]⟩, hz⟩ (fun n => rfl) (fun n h => .inl h) (fun n h => h)
  | pc c v n w =>
    obtain ⟨h1, h2, h3, h4, h5⟩ := hk
    by_cases hc : W.ob top = w
    · have e1 : actW W (elmAsk top (.pc c v n w)) = (W.setOb top (packW (turnW (ofW w) n)), ⟨w, true⟩) := by simp only [elmAsk, actW, Ws.get, hc, if_true]; rfl
      have e2 : elmNx top W X g (.pc c v n w) = (n :: X, { g with ret := g.ret + 1 }) := by simp only [elmNx, hc, if_true]
      rw [e1, e2]
      have hi := hSI.idx hN
      rw [hc] at hi
      obtain ⟨f1, f2⟩ := top_si hSI htl hK hN (b := n) (X' := n :: X) rfl ⟨by show W.nd n 0 = X.headD 0; rw [h5, hi], hSI.link⟩ (fun x hx => by
        rw [List.mem_cons] at hx
        rcases hx with rfl | hx
        · exact hb x (.inr (.inl (by simp [elmZ])))
        · exact hSI.rng x hx) [n]
      rw [hc] at f1 f2
      exact evo_ok (pc' := .fin (okO m)) hmi f2 f1 (hz trivial) (fun x => by simp [mineP, deadP, elmZ, List.count_cons]) (fun n h => .inl (List.mem_cons_of_mem _ h)) (fun n h => by simp [elmZ] at h)
    · have e1 : actW W (elmAsk top (.pc c v n w)) = (W, ⟨W.ob top, false⟩) := by simp only [elmAsk, actW, Ws.get, hc, if_false]
      have e2 : elmNx top W X g (.pc c v n w) = (X, g) := by simp only [elmNx, hc, if_false]
      rw [e1, e2]
      exact still_ok (pc' := .at_ (.ql c v n)) hSI ⟨⟨h1, h2, h3⟩, hz⟩ rfl rfl
  | ql c v n =>
    show StepOk (elmZ top lo hi N) l S N K W X D g P s _ W X g (if offK (W.ob c) = 0 then _ else _)
    split
    · rename_i h0
      exact still_ok hSI ⟨⟨hk.1, hk.2.1, hk.2.2, ⟨(hSI.off c hk.2.1.1 hk.2.1.2).nn, Int.le_refl _⟩, h0⟩, hz⟩ rfl rfl
    · exact still_ok hSI ⟨hk, hz⟩ rfl rfl
  | qc c v n w =>
    obtain ⟨h1, h2, h3, h4, h5⟩ := hk
    by_cases hc : W.ob c = w
    · have e1 : actW W (elmAsk top (.qc c v n w)) = (W.setOb c (mineW v w), ⟨w, true⟩) := by simp only [elmAsk, actW, Ws.get, hc, if_true]; rfl
      have e2 : elmNx top W X g (.qc c v n w) = (X, g.put c n) := by simp only [elmNx, hc, if_true]
      rw [e1, e2]
      have ho := hSI.off c h2.1 h2.2
      rw [hc] at ho
      have hcd : offC w = w / 17179869184 := offC_div ho.nn (by have := ho.le; omega)
      have hcl := offC_lt w
      have hle := ho.le
      have hn1 := (hb n (.inr (.inl (by simp [elmZ])))).1
      have hw0 : g.ow c = 0 := ho.ow.1 h5
      have hmd : mineW v w / 17179869184 = offC w + 1 := div_W ⟨by omega, by omega⟩
      have hmk : offK (mineW v w) = 1 := kind_mine
      have f1 := slot_si hSI htl h2 (x := mineW v w) (o := n) ⟨by unfold mineW offW; omega, by rw [hmd]; omega, by rw [hmk]; omega, by rw [hmk]; omega⟩
      have f2 : Evo top lo hi W (W.setOb c (mineW v w)) g (g.put c n) [n] := slot_evo htl h2 (.inl ⟨hw0, by rw [hc, hmd]; omega⟩)
      exact evo_ok (pc' := .at_ (.m1 c v n w m)) hmi f2 f1 ⟨⟨h1, h2, h3, hn1, by simp [ElmG.put], by omega, .inl (by rw [ob_set, if_pos rfl])⟩, hz⟩ (fun n => rfl) (fun n h => .inl h) (fun n h => h)
    · have e1 : actW W (elmAsk top (.qc c v n w)) = (W, ⟨W.ob c, false⟩) := by simp only [elmAsk, actW, Ws.get, hc, if_false]
      have e2 : elmNx top W X g (.qc c v n w) = (X, g) := by simp only [elmNx, hc, if_false]
      rw [e1, e2]
      exact still_ok (pc' := .at_ (.pl c v n)) hSI ⟨⟨h1, h2, h3⟩, hz⟩ rfl rfl
  | m1 c v n w a =>
    show StepOk (elmZ top lo hi N) l S N K W X D g P s _ W X g (if W.ob c = mineW v w then _ else _)
    split
    · exact still_ok hSI ⟨hk, hz⟩ rfl rfl
    · rename_i h0
      exact still_ok hSI ⟨⟨hk.2.1, v, hk.1, hk.2.2.2, hk.2.2.2.at_.resolve_left h0⟩, hz⟩ rfl rfl
  | m2 c v n w a =>
    show StepOk (elmZ top lo hi N) l S N K W X D g P s _ W X g (if W.ob c = mineW v w then _ else _)
    split
    · exact still_ok hSI ⟨hk, hz⟩ rfl rfl
    · rename_i h0
      exact still_ok hSI ⟨⟨hk.2.1, v, hk.1, hk.2.2.2, hk.2.2.2.at_.resolve_left h0⟩, hz⟩ rfl rfl
  | m3 c v n w a =>
    obtain ⟨h1, h2, h3, h4⟩ := hk
    by_cases hc : W.ob c = mineW v w
    · have e1 : actW W (elmAsk top (.m3 c v n w a)) = (W.setOb c (noW w), ⟨mineW v w, true⟩) := by simp only [elmAsk, actW, Ws.get, hc, if_true]; rfl
      have e2 : elmNx top W X g (.m3 c v n w a) = (X, g.put c 0) := by simp only [elmNx, hc, if_true]
      rw [e1, e2]
      have ho := hSI.off c h2.1 h2.2
      have hcl := offC_lt w
      have hcw := h4.cw
      have hle := ho.le
      have hmd : mineW v w / 17179869184 = offC w + 1 := div_W ⟨by omega, by omega⟩
      have hnd : noW w / 17179869184 = offC w + 1 := div_W ⟨by omega, by omega⟩
      have hnk : offK (noW w) = 0 := kind_no
      rw [hc, hmd] at hle
      have f1 := slot_si hSI htl h2 (x := noW w) (o := 0) ⟨by unfold noW offW; omega, by rw [hnd]; omega, by rw [hnk]; omega, by rw [hnk]⟩
      have f2 : Evo top lo hi W (W.setOb c (noW w)) g (g.put c 0) [n] := slot_evo htl h2 (.inr (.inr ⟨by simp [h4.ow], by rw [hc, hmd, hnd]; omega⟩))
      exact evo_ok (pc' := .at_ (.pl c v n)) hmi f2 f1 ⟨⟨h1, h2, h3⟩, hz⟩ (fun n => rfl) (fun n h => .inl h) (fun n h => h)
    · have e1 : actW W (elmAsk top (.m3 c v n w a)) = (W, ⟨W.ob c, false⟩) := by simp only [elmAsk, actW, Ws.get, hc, if_false]
      have e2 : elmNx top W X g (.m3 c v n w a) = (X, g) := by simp only [elmNx, hc, if_false]
      rw [e1, e2]
      exact still_ok (pc' := .at_ (.qs c n w a)) hSI ⟨⟨h2, v, h1, h4, h4.at_.resolve_left hc⟩, hz⟩ rfl rfl
  | qs c n w a =>
    obtain ⟨h2, v, h1, h4, h5⟩ := hk
    have ho := hSI.off c h2.1 h2.2
    have hcl := offC_lt w
    have hcw := h4.cw
    have hle := ho.le
    have hmd : takenW v w / 17179869184 = offC w + 1 := div_W ⟨by omega, by omega⟩
    have hnd : noW w / 17179869184 = offC w + 1 := div_W ⟨by omega, by omega⟩
    have hnk : offK (noW w) = 0 := kind_no
    rw [h5, hmd] at hle
    have f1 := slot_si hSI htl h2 (x := noW w) (o := 0) ⟨by unfold noW offW; omega, by rw [hnd]; omega, by rw [hnk]; omega, by rw [hnk]⟩
    have f2 : Evo top lo hi W (W.setOb c (noW w)) g (g.put c 0) [n] := slot_evo htl h2 (.inr (.inr ⟨by simp [h4.ow], by rw [h5, hmd, hnd]; omega⟩))
    exact evo_ok (pc' := .v1 (.gv a) n) (W' := W.setOb c (noW w)) (g' := g.put c 0) hmi f2 f1 ⟨trivial, hz⟩ (fun n => rfl) (fun n h => .inl h) (fun n h => h)
  | ol c w => exact still_ok (pc' := .at_ (.oc c w (W.nd (ofW w).idx 0))) hSI ⟨⟨hk.1, hk.2, fun _ => rfl⟩, (fun h => absurd h id)⟩ rfl rfl
  | oc c w b =>
    obtain ⟨h2, h3, h4⟩ := hk
    by_cases hc : W.ob top = w
    · have e1 : actW W (elmAsk top (.oc c w b)) = (W.setOb top (packW (turnW (ofW w) b)), ⟨w, true⟩) := by simp only [elmAsk, actW, Ws.get, hc, if_true]; rfl
      have e2 : elmNx top W X g (.oc c w b) = (X.tail, { g with ret := g.ret + 1 }) := by simp only [elmNx, hc, if_true]
      rw [e1, e2]
      have hi := hSI.idx hN
      rw [hc] at hi
      have h1 := h3.2.1
      obtain ⟨X2, hX⟩ := head_cons (L := X) (by omega)
      rw [← hi] at hX
      have hXt : X.tail = X2 := by rw [hX]; rfl
      have hlk := hSI.link
      rw [hX] at hlk
      have h6 := h4 hc
      obtain ⟨f1, f2⟩ := top_si hSI htl hK hN (b := b) (X' := X.tail) (by rw [← h6, hXt]; exact hlk.1) (by rw [hXt]; exact hlk.2) (fun x hx => hSI.rng x (List.mem_of_mem_tail hx)) []
      rw [hc] at f1 f2
      refine evo_ok (pc' := .at_ (.ov (ofW w).idx m)) hmi f2 f1 ⟨trivial, (fun h => absurd h id)⟩ (fun x => ?_) (fun n h => ?_) (fun n h => by simp [elmZ] at h)
      · have hcn : X.count x = ((ofW w).idx :: X.tail).count x := by rw [hXt, ← hX]
        rw [hcn]
        simp only [mineP, deadP, elmZ, List.count_cons, List.count_nil]
        omega
      · rw [hX, List.mem_cons] at h
        rcases h with h | h
        · exact .inr (by simp [deadP, elmZ, h])
        · exact .inl (by rw [hXt]; exact h)
    · have e1 : actW W (elmAsk top (.oc c w b)) = (W, ⟨W.ob top, false⟩) := by simp only [elmAsk, actW, Ws.get, hc, if_false]
      have e2 : elmNx top W X g (.oc c w b) = (X, g) := by simp only [elmNx, hc, if_false]
      rw [e1, e2]
      exact still_ok (pc' := .at_ (.os c)) hSI ⟨h2, (fun h => absurd h id)⟩ rfl rfl
  | ov n a => exact still_ok (pc' := .clr (.rx n (popO (W.nd n 1) a))) hSI trivial rfl rfl
  | os c =>
    show StepOk (elmZ top lo hi N) l S N K W X D g P s _ W X g (if offK (W.ob c) = 1 then _ else _)
    split
    · rename_i h0
      exact still_ok hSI ⟨⟨hk, ⟨(hSI.off c hk.1 hk.2).nn, Int.le_refl _⟩, h0⟩, (fun h => absurd h id)⟩ rfl rfl
    · exact still_ok hSI (hgT c hk) rfl rfl
  | ot c w =>
    obtain ⟨h2, h3, h4⟩ := hk
    by_cases hc : W.ob c = w
    · have e1 : actW W (elmAsk top (.ot c w)) = (W.setOb c (takeW w), ⟨w, true⟩) := by simp only [elmAsk, actW, Ws.get, hc, if_true]; rfl
      have e2 : elmNx top W X g (.ot c w) = (X, g) := rfl
      rw [e1, e2]
      have ho := hSI.off c h2.1 h2.2
      rw [hc] at ho
      have hcl := offC_lt w
      have hle := ho.le
      have hcd : offC w = w / 17179869184 := offC_div ho.nn (by omega)
      have htd : takeW w / 17179869184 = offC w := div_W ⟨by omega, by omega⟩
      have htk : offK (takeW w) = 2 := offK_W (by omega)
      have hw0 : g.ow c ≠ 0 := fun e => by have := ho.ow.2 e; omega
      have hpg : g.put c (g.ow c) = g := by
        unfold ElmG.put
        cases g
        congr 1
        funext x
        split
        · rename_i e; rw [e]
        · rfl
      have f1 := slot_si hSI htl h2 (x := takeW w) (o := g.ow c) ⟨by unfold takeW offW; omega, by rw [htd]; omega, by rw [htk]; omega, by rw [htk]; omega⟩
      have f2 : Evo top lo hi W (W.setOb c (takeW w)) g (g.put c (g.ow c)) [] := slot_evo htl h2 (.inr (.inl ⟨by rw [hc]; exact h4, by rw [hc], rfl, by rw [hc, htd]; omega⟩))
      rw [hpg] at f1 f2
      exact evo_ok (pc' := .clr (.fi (popO (offV w) m))) hmi f2 f1 trivial (fun n => rfl) (fun n h => .inl h) (fun n h => h)
    · have e1 : actW W (elmAsk top (.ot c w)) = (W, ⟨W.ob c, false⟩) := by simp only [elmAsk, actW, Ws.get, hc, if_false]
      rw [e1]
      exact still_ok (pc' := .g1 (.og c) 0 (.ob top)) hSI (hgT c h2) rfl rfl
theorem elm_sound (hLy : ElmLay l S top lo hi) (hN : N ≤ 100) : Sound (elmM top) (elmZ top lo hi N) l S N where
  kmono := fun h hP => elmKL_mono h hP
  gmono := fun {W X g P P' k i c v} h hP => by
    cases k <;> first | exact ⟨h.1, fun h1 => hP _ _ (h.2 h1)⟩ | trivial
  simono := fun h _ hK => ⟨h.head, Nat.le_trans h.rk hK, h.link, h.rng, fun c c1 c2 => by have := h.off c c1 c2; exact ⟨this.nn, by have := this.le; omega, this.k2, this.ow⟩⟩
  took := fun {W X g P k} s n a h hz n1 n2 hX => by
    cases k <;> first
      | exact ⟨h, hz⟩
      | exact ⟨⟨h.1, h.2⟩, fun _ => hz trivial⟩
  tookM := fun k n a x => by cases k <;> rfl
  tookD := fun k n a => by cases k <;> rfl
  full := fun {W X g P k} s a h hz => by
    cases k <;> first
      | exact ⟨h, hz⟩
      | exact hz trivial
  fullM := fun k a => by cases k <;> rfl
  fullD := fun k a => by cases k <;> rfl
  gave := fun {W X g P k} s h hz => by
    cases k <;> first
      | exact ⟨h, hz⟩
      | exact hz trivial
  gaveM := fun k => by cases k <;> rfl
  gaveD := fun k => by cases k <;> rfl
  retired := fun {W X g P k} s h hz => by
    cases k <;> first
      | exact ⟨h, hz⟩
      | exact hz trivial
  retiredM := fun k => by cases k <;> rfl
  retiredD := fun k => by cases k <;> rfl
  cleared := fun {W X g k} s h hz => by
    cases k <;> first
      | exact hz
      | exact ⟨h, fun _ => hz⟩
      | exact ⟨trivial, fun _ => hz⟩
  clearedN := fun k k' => by cases k <;> simp [elmM]
  clearedM := fun k => by cases k <;> rfl
  clearedD := fun k => by cases k <;> rfl
  gload := fun {W X g D P k K} i c hc hg hSI hk hX hP => by
    obtain ⟨rfl, hg⟩ := hg
    cases k <;> simp only at hg
    case og c' =>
      subst hg
      refine ⟨ElmSI.seenT hSI hN, fun h1 => ?_⟩
      have hi := ElmSI.idx hSI hN
      have h1' : 1 ≤ X.headD 0 := by rw [← hi]; exact h1
      obtain ⟨X2, hX2⟩ := head_cons h1'
      refine hX _ ?_
      show (ofW (W.ob top)).idx ∈ X
      rw [hi]
      generalize X.headD 0 = n at hX2
      rw [hX2]; exact List.mem_cons_self
  guarded := fun {W X g P k i c v} s a hg h hk => by
    obtain ⟨rfl, hg⟩ := hg
    cases k <;> simp only at hg
    case og c' =>
      show OkE (elmZ top lo hi N) l S N W X g P s (if (ofW v).idx = 0 then _ else _)
      split
      · exact trivial
      · rename_i h0
        have h3 := ofW_idx v
        exact ⟨⟨hk, h.1, by omega, h.2 (by omega)⟩, fun h => absurd h id⟩
  guardedM := fun k v a => by
    cases k <;> first
      | rfl
      | (show mineP (elmZ top lo hi N) (if (ofW v).idx = 0 then _ else _) = _; split <;> rfl)
  guardedD := fun k v a => by
    cases k <;> first
      | rfl
      | (show deadP (elmZ top lo hi N) (if (ofW v).idx = 0 then _ else _) = _; split <;> rfl)
  ask := fun {W X g P D k K} hSI hk hP hb => by
    have ot : (Ad.ob top).str l S N := ⟨hLy.t1, by have := hLy.t2; have := hLy.lh; have := hLy.h2; omega⟩
    have os : ∀ c, SC lo hi c → (Ad.ob c).str l S N := fun c hc => ⟨by have := hLy.t1; have := hLy.t2; have := hc.1; omega, by have := hLy.h2; have := hc.2; omega⟩
    cases k with
    | p1 c v n => have := hb n (.inr (.inl (by simp [elmZ]))); exact ⟨this.1, this.2, by omega, by omega⟩
    | ps c v n w => have := hb n (.inr (.inl (by simp [elmZ]))); exact ⟨this.1, this.2, by omega, by omega⟩
    | ql c v n => exact os c hk.2.1
    | qc c v n w => exact os c hk.2.1
    | m1 c v n w a => exact os c hk.2.1
    | m2 c v n w a => exact os c hk.2.1
    | m3 c v n w a => exact os c hk.2.1
    | qs c n w a => exact os c hk.1
    | ol c w => have := hP _ _ hk.2.2.2; exact ⟨this.1, this.2, by omega, by omega⟩
    | ov n a => have := hb n (.inr (.inr (by simp [elmZ]))); exact ⟨this.1, this.2, by omega, by omega⟩
    | os c => exact os c hk
    | ot c w => exact os c hk.1
    | _ => exact ot
  step := fun {W X D g P k K} s m hK hSI hk hz hP hb _ _ hmi hDX _ => elm_step hLy hN hK s m hSI hk hz hP hb hmi hDX
end
end Go.Proofs.YtdmnjoidfjidbaaGreat
/- Plays of a stack at which offers are made: what holds at each turn; their beginning. -/
namespace Go.Proofs.YtdmnjoidfjidbaaGreat
set_option maxRecDepth 100000

structure PlT where
  want : List (List OpT)
  nodes : Nat
  slots : Nat
def OpOk (o : OpT) : Prop := (o.kind = 4 ∨ o.kind = 5) ∧ o.obj = 0 ∧ 0 ≤ o.a ∧ o.a < 4294967296
structure PlayG (p : PlT) : Prop where
  w1 : 1 ≤ p.want.length
  w3 : p.want.length ≤ 3
  n1 : 1 ≤ p.nodes
  n2 : p.nodes ≤ 16
  s1 : 1 ≤ p.slots
  s3 : p.slots ≤ 3
  ops : ∀ ws ∈ p.want, ∀ o ∈ ws, OpOk o
def layP (p : PlT) : LayT := layE p.want.length p.nodes p.slots
def topP (p : PlT) : Int := 8 + 12 * (p.want.length : Int)
def loP (p : PlT) : Int := 9 + 12 * (p.want.length : Int)
def hiP (p : PlT) : Int := 9 + 12 * (p.want.length : Int) + p.slots
abbrev mP (p : PlT) : Mach Ek := elmM (topP p)
abbrev spP (p : PlT) : Sp Ek ElmG := elmZ (topP p) (loP p) (hiP p) p.nodes
section
variable {p : PlT} (hp : PlayG p)
theorem layP_node : (layP p).node = 9 + 12 * (p.want.length : Int) + p.slots := rfl
include hp
theorem layP_lay : Lay (layP p) p.want.length p.nodes := by
  have h1 := hp.w1
  have h2 := hp.s1
  refine ⟨rfl, rfl, rfl, rfl, ?_, ?_, ?_, rfl, h1⟩
  · intro w i a1 a2 a3 a4
    show withinF (4 + 2 * (p.want.length : Int)) p.want.length 3 w i = _
    rw [within_in (by omega) (by omega) (by omega) (by omega)]; omega
  · intro n i a1 a2 a3 a4
    have e : nodeF (layP p) n i = withinF (layP p).node p.nodes 8 (n - 1) i := by
      unfold nodeF
      rw [if_neg (by omega)]; rfl
    rw [e, within_in (by omega) (by omega) (by omega) (by omega)]; omega
  · rw [layP_node]; omega
omit hp in
theorem elmLayP0 : ElmLay (layP p) p.want.length (topP p) (loP p) (hiP p) := ⟨by unfold topP; omega, by unfold topP loP; omega, by unfold loP hiP; omega, Int.le_refl _⟩
theorem elmLayP : ElmLay (layP p) p.want.length (topP p) (loP p) (hiP p) := by
  have _ := hp
  exact elmLayP0
theorem soundP : Sound (mP p) (spP p) (layP p) p.want.length p.nodes := elm_sound (elmLayP hp) (by have := hp.n2; omega)
theorem top_eq {o : OpT} (ho : o.obj = 0) : topF (layP p) o.obj = topP p := by
  have h2 := hp.s1
  rw [ho]
  show withinF (8 + 12 * (p.want.length : Int)) 1 (1 + (p.slots : Int)) 0 0 = _
  rw [within_in (by omega) (by omega) (by omega) (by omega)]
  unfold topP; omega
end
def slotP (p : PlT) (w : Nat) : Int := slotOf (layP p) w 0
theorem slotP_eq {p : PlT} (hp : PlayG p) (w : Nat) : slotP p w = loP p + (w : Int) % (p.slots : Int) := by
  have h2 := hp.s1
  have h3 := Int.emod_nonneg (w : Int) (show (p.slots : Int) ≠ 0 by omega)
  have h4 := Int.emod_lt_of_pos (w : Int) (show (0 : Int) < p.slots by omega)
  have e : ((w : Int) % (p.slots : Int) + p.slots) % p.slots = (w : Int) % (p.slots : Int) := by
    rw [Int.add_emod_right, Int.emod_eq_of_lt h3 h4]
  show (if (p.slots : Int) < 1 then -1 else slotF (layP p) 0 (((w : Int) % (p.slots : Int) + p.slots) % p.slots)) = _
  rw [if_neg (by omega), e]
  show (if (w : Int) % (p.slots : Int) < 0 ∨ (p.slots : Int) ≤ (w : Int) % (p.slots : Int) then -1 else withinF (8 + 12 * (p.want.length : Int)) 1 (1 + (p.slots : Int)) 0 (1 + (w : Int) % (p.slots : Int))) = _
  rw [if_neg (by omega), within_in (by omega) (by omega) (by omega) (by omega)]
  unfold loP; omega
theorem slotP_sc {p : PlT} (hp : PlayG p) (w : Nat) : SC (loP p) (hiP p) (slotP p w) := by
  have h2 := hp.s1
  have h3 := Int.emod_nonneg (w : Int) (show (p.slots : Int) ≠ 0 by omega)
  have h4 := Int.emod_lt_of_pos (w : Int) (show (0 : Int) < p.slots by omega)
  rw [slotP_eq hp]
  unfold SC loP hiP
  omega
def idleQ (gone : List (Int × Int)) : Q Ek := ⟨.fin ⟨0, false, 0, 0, []⟩, ⟨0, gone, 0, 0, 0⟩⟩
def qAt (p : PlT) (w : Nat) (x : SeatT) : Q Ek := if x.op.kind = 0 then idleQ x.gone else runQ (mP p) p.want.length (startQ (topP p) (slotP p w) x.op x.gone) x.log
def qsOf (p : PlT) (seats : List SeatT) : List (Q Ek) := seats.mapIdx fun w x => qAt p w x
theorem qsOf_get {p : PlT} {seats : List SeatT} {w : Nat} {x : SeatT} (hx : seats[w]? = some x) : (qsOf p seats)[w]? = some (qAt p w x) := by
  unfold qsOf
  rw [List.getElem?_mapIdx, hx]; rfl
theorem qsOf_set {p : PlT} {seats : List SeatT} {w : Nat} (y : SeatT) : qsOf p (seats.set w y) = (qsOf p seats).set w (qAt p w y) := by
  apply List.ext_getElem?
  intro j
  unfold qsOf
  rw [List.getElem?_mapIdx, List.getElem?_set, List.getElem?_set, List.length_mapIdx, List.getElem?_mapIdx]
  by_cases hj : w = j
  · subst hj
    rw [if_pos rfl, if_pos rfl]
    split <;> rfl
  · rw [if_neg hj, if_neg hj]
def curX (ws : List OpT) (x : SeatT) : Option SeatT := if x.op.kind = 0 then (ws[x.next]?).map fun op => ⟨op, [], [], x.next + 1, x.gone⟩ else some x
theorem turn_eq (l : LayT) (want : List (List OpT)) (t : TabT) (who : Nat) {x : SeatT} {ws : List OpT} (hx : t.seats[who]? = some x) (hw : want[who]? = some ws) : turnT l want t who = match curX ws x with
    | none => t
    | some y => moveT l t who y := by
  unfold turnT curX
  simp only [hx, hw]
  split
  · cases ws[x.next]? <;> rfl
  · rfl
def eK (op : OpT) : Ek → Prop
  | .tk _ v => op.kind = 4 ∧ op.a = v
  | .p1 _ v _ => op.kind = 4 ∧ op.a = v
  | .pl _ v _ => op.kind = 4 ∧ op.a = v
  | .ps _ v _ _ => op.kind = 4 ∧ op.a = v
  | .pc _ v _ _ => op.kind = 4 ∧ op.a = v
  | .ql _ v _ => op.kind = 4 ∧ op.a = v
  | .qc _ v _ _ => op.kind = 4 ∧ op.a = v
  | .m1 _ v _ _ _ => op.kind = 4 ∧ op.a = v
  | .m2 _ v _ _ _ => op.kind = 4 ∧ op.a = v
  | .m3 _ v _ _ _ => op.kind = 4 ∧ op.a = v
  | .qs _ _ _ _ => op.kind = 4
  | .gv _ => op.kind = 4
  | .fi o => op.kind = 5 ∧ o.err = 0
  | .rx _ o => op.kind = 5 ∧ o.err = 0
  | .rr o => op.kind = 5 ∧ o.err = 0
  | _ => op.kind = 5
def isA : Ek → Prop
  | .tk _ _ | .gv _ | .og _ | .fi _ | .rx _ _ | .rr _ => False
  | _ => True
def isT : Ek → Prop
  | .tk _ _ => True
  | _ => False
def isG : Ek → Prop
  | .og _ => True
  | _ => False
def isC : Ek → Prop
  | .fi _ => True
  | .rx _ _ => True
  | _ => False
def isV : Ek → Prop
  | .gv _ => True
  | _ => False
def isR : Ek → Prop
  | .rr _ => True
  | _ => False
def eP (op : OpT) : Pc Ek → Prop
  | .at_ k => isA k ∧ eK op k
  | .t1 k | .t2 k _ | .t3 k _ _ | .t4 k _ _ | .t5 k _ _ _ => isT k ∧ eK op k
  | .g1 k _ _ | .g2 k _ _ _ _ | .g3 k _ _ _ => isG k ∧ eK op k
  | .clr k | .c k _ => isC k ∧ eK op k
  | .v1 k _ | .v2 k _ _ | .v3 k _ _ => isV k ∧ eK op k
  | .r1 k _ | .r2 k _ _ | .rs k _ _ _ | .s1 k _ _ _ _ | .w1 k _ _ _ _ | .w2 k _ _ _ _ _ | .w3 k _ _ _ _ _ => isR k ∧ eK op k
  | .fin o => o.err = 0 ∨ o.err = 8
section
variable {top : Int} {op : OpT} {k : Ek} {s : PsT}
theorem eP_cleared (h : isC k ∧ eK op k) : eP op ((elmM top).cleared k) := by cases k <;> first | exact absurd h.1 id | exact .inl h.2.2 | exact ⟨trivial, h.2⟩
theorem eP_clr (h : isC k ∧ eK op k) : eP op (clrQ (elmM top) k s).pc := by
  unfold clrQ
  split
  · exact h
  · split
    · exact h
    · split
      · exact h
      · exact eP_cleared (top := top) h
theorem eP_norm {pc : Pc Ek} (h : eP op pc) : eP op (norm (elmM top) pc s).pc := by
  cases pc with
  | clr k => exact eP_clr h
  | _ => exact h
theorem eP_retired (h : isR k ∧ eK op k) : eP op ((elmM top).retired k) := by cases k <;> first | exact absurd h.1 id | exact .inl h.2.2
theorem eP_sift {held : List Int} (h : isR k ∧ eK op k) : ∀ (gs stay : List (Int × Int)), eP op (siftQ (elmM top) k held s gs stay).pc
  | [], _ => eP_norm (eP_retired (top := top) h)
  | _ :: _, _ => h
theorem eP_scan {held : List Int} (h : isR k ∧ eK op k) : ∀ cs : List Ad, eP op (scanQ (elmM top) k held s cs).pc
  | [] => eP_sift h _ _
  | _ :: _ => h
theorem eP_tellK (hA : isA k) (h : eK op k) (m : Nat) (r : ResT) : eP op (elmTell top k m r) := by
  cases k <;> simp only [elmTell] <;> first
    | exact absurd hA id
    | exact ⟨trivial, h⟩
    | exact ⟨trivial, h.1⟩
    | exact ⟨trivial, h, rfl⟩
    | (split <;> first | exact .inl rfl | exact ⟨trivial, h⟩ | exact ⟨trivial, h.1⟩ | exact ⟨trivial, h, rfl⟩)
theorem eP_tell {S : Nat} {q : Q Ek} (r : ResT) (h : eP op q.pc) : eP op (tell (elmM top) S q r).pc := by
  obtain ⟨pc, s⟩ := q
  cases pc with
  | at_ k => exact eP_norm (eP_tellK (top := top) h.1 h.2 s.made r)
  | t1 k =>
    show eP op (if (ofW r.val).idx = 0 then _ else _ : Q Ek).pc
    split
    · refine eP_norm ?_
      cases k <;> first | exact .inr rfl | exact absurd h.1 id
    · exact h
  | t2 k f => exact h
  | t3 k f lk =>
    show eP op (if r.ok then _ else _ : Q Ek).pc
    split <;> exact h
  | t4 k n a => exact h
  | t5 k n a b =>
    refine eP_norm ?_
    cases k <;> first | exact absurd h.1 id | exact ⟨trivial, h.2⟩
  | g1 k i c => exact h
  | g2 k i c v a =>
    show eP op (if r.val = s.e i then _ else _ : Q Ek).pc
    split
    · refine eP_norm ?_
      cases k <;> first
        | exact absurd h.1 id
        | (show eP op (if (ofW v).idx = 0 then _ else _); split <;> first | exact ⟨trivial, h.2⟩ | exact ⟨trivial, h.2, rfl⟩)
    · exact h
  | g3 k i c er => exact h
  | clr k => exact h
  | c k i => exact eP_clr h
  | v1 k n => exact h
  | v2 k n f => exact h
  | v3 k n f =>
    show eP op (if r.ok then _ else _ : Q Ek).pc
    split
    · refine eP_norm ?_
      cases k <;> first | exact absurd h.1 id | exact .inl rfl
    · exact h
  | r1 k n => exact h
  | r2 k n er =>
    show eP op (if _ then _ else _ : Q Ek).pc
    split
    · exact eP_norm (eP_retired (top := top) h)
    · exact eP_scan h _
  | rs k held c cs => exact eP_scan h _
  | s1 k held g gs stay =>
    show eP op (if _ then _ else _ : Q Ek).pc
    split
    · exact eP_sift h _ _
    · exact h
  | w1 k held g gs stay => exact h
  | w2 k held g gs stay f => exact h
  | w3 k held g gs stay f =>
    show eP op (if r.ok then _ else _ : Q Ek).pc
    split
    · exact eP_sift h _ _
    · exact h
  | fin o => exact h
end
def cOk (q : Q Ek) : Prop := match q.pc with
  | .c _ i => q.s.e i ≠ 0
  | _ => True
section
variable {top : Int} {S : Nat}
theorem cOk_clr {k : Ek} {s : PsT} (h : isC k) : cOk (clrQ (elmM top) k s) := by
  rcases clr_cases (M := elmM top) k s with ⟨i, _, _, h1, e⟩ | ⟨_, e⟩
  · rw [e]; exact h1
  · rw [e]
    cases k <;> first | exact absurd h id | trivial
theorem cOk_norm {op : OpT} {pc : Pc Ek} {s : PsT} (h : eP op pc) (hc : ∀ k i, pc ≠ .c k i) : cOk (norm (elmM top) pc s) := by
  cases pc with
  | clr k => exact cOk_clr h.1
  | c k i => exact absurd rfl (hc k i)
  | _ => trivial
theorem cOk_sift {op : OpT} {k : Ek} {held : List Int} {s : PsT} (h : isR k ∧ eK op k) : ∀ (gs stay : List (Int × Int)), cOk (siftQ (elmM top) k held s gs stay)
  | [], _ => cOk_norm (eP_retired (top := top) h) (fun k' i => by cases k <;> first | exact absurd h.1 id | (intro e; cases e))
  | _ :: _, _ => trivial
theorem cOk_scan {op : OpT} {k : Ek} {held : List Int} {s : PsT} (h : isR k ∧ eK op k) : ∀ cs : List Ad, cOk (scanQ (elmM top) k held s cs)
  | [] => cOk_sift h _ _
  | _ :: _ => trivial
theorem cOk_tell {op : OpT} {q : Q Ek} (r : ResT) (h : eP op q.pc) (h0 : cOk q) : cOk (tell (elmM top) S q r) := by
  obtain ⟨pc, s⟩ := q
  cases pc with
  | at_ k =>
    refine cOk_norm (eP_tellK (top := top) h.1 h.2 s.made r) (fun k' i => ?_)
    cases k <;> simp only [elmM, elmTell] <;> first
      | (intro e; cases e)
      | (split <;> (intro e; cases e))
  | t1 k =>
    show cOk (if (ofW r.val).idx = 0 then _ else _ : Q Ek)
    split
    · cases k <;> first | exact absurd h.1 id | trivial
    · trivial
  | t2 k f => trivial
  | t3 k f lk =>
    show cOk (if r.ok then _ else _ : Q Ek)
    split <;> trivial
  | t4 k n a => trivial
  | t5 k n a b => cases k <;> first | exact absurd h.1 id | trivial
  | g1 k i c => trivial
  | g2 k i c v a =>
    show cOk (if r.val = s.e i then _ else _ : Q Ek)
    split
    · cases k with
      | og c' =>
        show cOk (norm (elmM top) (if (ofW v).idx = 0 then _ else _) s.up)
        split
        · exact cOk_clr (top := top) trivial
        · trivial
      | _ => exact absurd h.1 id
    · trivial
  | g3 k i c er => trivial
  | clr k => trivial
  | c k i => exact cOk_clr h.1
  | v1 k n => trivial
  | v2 k n f => trivial
  | v3 k n f =>
    show cOk (if r.ok then _ else _ : Q Ek)
    split
    · cases k <;> first | exact absurd h.1 id | trivial
    · trivial
  | r1 k n => trivial
  | r2 k n er =>
    show cOk (if _ then _ else _ : Q Ek)
    split
    · exact cOk_norm (eP_retired (top := top) h) (fun k' i => by cases k <;> first | exact absurd h.1 id | (intro e; cases e))
    · exact cOk_scan h _
  | rs k held c cs => exact cOk_scan h _
  | s1 k held g gs stay =>
    show cOk (if _ then _ else _ : Q Ek)
    split
    · exact cOk_sift h _ _
    · trivial
  | w1 k held g gs stay => trivial
  | w2 k held g gs stay f => trivial
  | w3 k held g gs stay f =>
    show cOk (if r.ok then _ else _ : Q Ek)
    split
    · exact cOk_sift h _ _
    · trivial
  | fin o => trivial
end
structure SeatOk (p : PlT) (w : Nat) (x : SeatT) : Prop where
  op : x.op.kind = 0 ∨ OpOk x.op
  len : x.steps.length = x.log.length
  err : eP x.op (qAt p w x).pc
  cz : cOk (qAt p w x)
structure G (p : PlT) (i : Nat) (t : TabT) (V : Vw) (F X : List Int) (g : ElmG) : Prop where
  n : t.seats.length = p.want.length
  view : View (layP p) p.want.length p.nodes t.m V
  inv : Inv (spP p) (layP p) p.want.length p.nodes i V (qsOf p t.seats) F X g
  seat : ∀ (w : Nat) (x : SeatT), t.seats[w]? = some x → SeatOk p w x
  bad : t.bad = false
  wild : t.wild = false
abbrev actP (p : PlT) (who : Nat) (V : Vw) (q : Q Ek) : Vw × ResT := act V (asks (mP p) who q.pc)
abbrev accP (p : PlT) (who : Nat) (q : Q Ek) : AccT := (asks (mP p) who q.pc).acc (layP p)
inductive StepR (p : PlT) (who : Nat) (t : TabT) (V : Vw) (F X : List Int) (g : ElmG) : TabT → Vw → List Int → List Int → ElmG → Prop where
  | idle (x : SeatT) (ws : List OpT) (hx : t.seats[who]? = some x) (hw : p.want[who]? = some ws) (h0 : x.op.kind = 0) (ha : ws.length ≤ x.next) : StepR p who t V F X g t V F X g
  | done (x : SeatT) (q : Q Ek) (o : OutT) (hx : t.seats[who]? = some x) (h0 : x.op.kind ≠ 0) (hq : q = qAt p who x) (hpc : q.pc = .fin o) (hl : x.log ≠ []) :
      StepR p who t V F X g (endT t who x { o with gone := q.s.gone }) V F X g
  | acc (x y : SeatT) (ws : List OpT) (q : Q Ek) (K : Nat) (hx : t.seats[who]? = some x) (hw : p.want[who]? = some ws) (hy : curX ws x = some y) (ho : OpOk y.op) (hq : q = qAt p who y) (hpc : q.pc.asking) (he : eP y.op q.pc) (hcz : cOk q) (hl : y.steps.length = y.log.length) (hK : K ≤ 100000) (hI : Inv (spP p) (layP p) p.want.length p.nodes K V ((qsOf p t.seats).set who q) F X g) :
      StepR p who t V F X g ⟨(turnF t.m (accP p who q)).1, t.step + 1, t.seats.set who { y with log := y.log ++ [(actP p who V q).2], steps := y.steps ++ [t.step] }, t.calls, t.full, t.wild, t.bad⟩
        (actP p who V q).1 (nxF V F q.pc) (nxX (spP p) V.W X g q.pc).1 (nxX (spP p) V.W X g q.pc).2
theorem Inv.mono {κ γ : Type} {M : Mach κ} {Z : Sp κ γ} {l : LayT} {S N K : Nat} {V : Vw} {qs : List (Q κ)} {F X : List Int} {g : γ} (hs : Sound M Z l S N) (h : Inv Z l S N K V qs F X g) : Inv Z l S N (K + 1) V qs F X g :=
  ⟨h.n, h.fr, ⟨h.frk.1, by have := h.frk.2; omega⟩, ⟨h.er.1, by have := h.er.2; omega⟩, h.lf, h.part, h.bi, hs.simono h.si (fun _ h => h) (Nat.le_succ K), h.loc⟩
theorem runQ_snoc {κ : Type} (M : Mach κ) (S : Nat) (q : Q κ) (log : List ResT) (r : ResT) : runQ M S q (log ++ [r]) = tell M S (runQ M S q log) r := by simp [runQ, List.foldl_append]
def StartPc (p : PlT) (pc : Pc Ek) : Prop := (∃ c v, SC (loP p) (hiP p) c ∧ VOk v ∧ pc = .t1 (.tk c v)) ∨ (∃ c, SC (loP p) (hiP p) c ∧ pc = .g1 (.og c) 0 (.ob (topP p))) ∨ ∃ o, pc = .fin o
theorem start_pc {p : PlT} (hp : PlayG p) (w : Nat) {op : OpT} (ho : OpOk op) (gone : List (Int × Int)) : ∃ pc', startQ (topP p) (slotP p w) op gone = ⟨pc', ⟨0, gone, 0, 0, 0⟩⟩ ∧ StartPc p pc' ∧ pc'.asking ∧ eP op pc' ∧ ∀ s, cOk ⟨pc', s⟩ := by
  unfold startQ
  split
  · rename_i h4
    exact ⟨_, rfl, .inl ⟨_, _, slotP_sc hp w, ho.2.2, rfl⟩, trivial, ⟨trivial, h4, rfl⟩, fun _ => trivial⟩
  · rename_i h4
    exact ⟨_, rfl, .inr (.inl ⟨_, slotP_sc hp w, rfl⟩), trivial, ⟨trivial, ho.1.resolve_left h4⟩, fun _ => trivial⟩
theorem start_loc {p : PlT} (hp : PlayG p) {V : Vw} {X : List Int} {g : ElmG} {P : Int → Int → Prop} {s : PsT} (hz : s.z) {pc : Pc Ek} (h : StartPc p pc) : LocPc (spP p) (layP p) p.want.length p.nodes V X g P s pc ∧ mineP (spP p) pc = [] ∧ deadP (spP p) pc = [] ∧ (∀ (s : PsT), goneP (⟨pc, s⟩ : Q Ek) = s.gone) ∧ ∀ (s : PsT) (j i n e : Int), InG s.gone n e → Keeps (spP p) j i n e ⟨pc, s⟩ := by
  have hl := elmLayP hp
  rcases h with ⟨c, v, hc, hv, rfl⟩ | ⟨c, hc, rfl⟩ | ⟨o, rfl⟩
  · exact ⟨⟨⟨hv, hc⟩, fun _ => hz⟩, rfl, rfl, fun _ => rfl, fun s j i n e h => .inr h⟩
  · exact ⟨⟨hc, (fun h => h), by omega, by omega, ⟨hl.t1, by have := hl.t2; have := hl.lh; have := hl.h2; omega⟩, rfl, rfl⟩, rfl, rfl, fun _ => rfl, fun s j i n e h => .inr h⟩
  · exact ⟨hz, rfl, rfl, fun _ => rfl, fun s j i n e h => .inr h⟩
theorem inv_done {p : PlT} (hp : PlayG p) {K : Nat} {V : Vw} {qs : List (Q Ek)} {F X : List Int} {g : ElmG} (hI : Inv (spP p) (layP p) p.want.length p.nodes K V qs F X g) {w : Nat} {o : OutT} {s : PsT} (hq : qs[w]? = some ⟨.fin o, s⟩) {pc' : Pc Ek} (hpc : StartPc p pc') : Inv (spP p) (layP p) p.want.length p.nodes (K + 1) V (qs.set w ⟨pc', ⟨0, s.gone, 0, 0, 0⟩⟩) F X g := by
  have hl := hI.loc w _ hq
  have hz : s.z := hl.pc
  obtain ⟨z0, z1, z2⟩ := hz
  have he : ∀ i, (⟨0, s.gone, 0, 0, 0⟩ : PsT).e i = s.e i := fun i => by
    unfold PsT.e
    simp only [z0, z1, z2]
  have h0 := start_loc hp (V := V) (X := X) (g := g) (P := noP) (s := ⟨0, s.gone, 0, 0, 0⟩) ⟨rfl, rfl, rfl⟩ hpc
  obtain ⟨_, m1, m2, m3, m4⟩ := h0
  refine hI.quiet (soundP hp) hq (fun n => ?_) (fun n hn => ?_) he (fun j x i n _ _ _ _ h => ?_) (fun hP hd => (start_loc hp ⟨rfl, rfl, rfl⟩ hpc).1)
  · simp only [own, deadQ, m1, m2, m3]; rfl
  · simp only [deadQ, m2, m3] at hn; exact hn
  · refine m4 _ _ _ _ _ ?_
    rcases h with h | h
    · simp [deadP] at h
    · exact h
theorem ask_ok {κ γ : Type} {M : Mach κ} {Z : Sp κ γ} {l : LayT} {S N K : Nat} {V : Vw} {qs : List (Q κ)} {F X : List Int} {g : γ} (hs : Sound M Z l S N) (hI : Inv Z l S N K V qs F X g) {w : Nat} {q : Q κ} (hq : qs[w]? = some q) (hf : q.pc.asking) : (asks M w q.pc).ad.ok l S N := by
  have hl := hI.loc w _ hq
  have hw : w < S := by have := (List.getElem?_eq_some_iff.1 hq).1; have := hI.n; omega
  obtain ⟨pc, s⟩ := q
  have hpc := hl.pc
  cases pc with
  | clr k => exact absurd hf id
  | fin o => exact absurd hf id
  | at_ k =>
    have hnb : ∀ i n, Pr Z V X qs w s i n → 1 ≤ n ∧ n ≤ (N : Int) := fun i n h => (pr_in h).elim (fun h => hI.inX h) fun h => (hI.dq h).1
    have hmn : ∀ n ∈ Z.mine k, n ∈ own Z ⟨.at_ k, s⟩ := fun n h => by unfold own; rw [List.mem_append]; exact .inl h
    have hdo : ∀ n ∈ Z.dead k, n ∈ own Z ⟨.at_ k, s⟩ := fun n h => by unfold own deadQ; rw [List.mem_append, List.mem_append]; exact .inr (.inl h)
    have := hs.ask hI.si hpc.1 hnb (fun n h => h.elim (fun h => hI.inX h) fun h => h.elim (fun h => hI.inOwn hq (hmn n h)) fun h => hI.inOwn hq (hdo n h))
    show (M.ask k).ad.ok l S N
    cases ha : M.ask k with
    | ld a => rw [ha] at this; exact Ad.str_ok this
    | st a v => rw [ha] at this; exact Ad.str_ok this
    | cs a o v => rw [ha] at this; exact Ad.str_ok this
    | up => trivial
  | t1 k => trivial
  | t2 k f => exact ⟨hpc.2.2.2, hpc.2.2.1.le⟩
  | t3 k f lk => trivial
  | t4 k n a => trivial
  | t5 k n a b => exact hI.inOwn hq (by simp [own, mineP])
  | g1 k i c => exact Ad.str_ok hpc.2.2.2.2.1
  | g2 k i c v a => trivial
  | g3 k i c er => exact ⟨by omega, by omega, hpc.2.2.1, hpc.2.2.2.1⟩
  | c k i => exact ⟨by omega, by omega, hpc.2.1, hpc.2.2⟩
  | v1 k n => trivial
  | v2 k n f => exact hI.inOwn hq (by simp [own, mineP])
  | v3 k n f => trivial
  | r1 k n => trivial
  | r2 k n er => trivial
  | rs k held c cs =>
    obtain ⟨w', i, h1, h2, h3, h4, rfl⟩ := hpc.2.2.2 c (by simp)
    exact ⟨h1, h2, h3, h4⟩
  | s1 k held y gs stay => exact hI.inOwn hq (by simp [own, deadQ, goneP])
  | w1 k held y gs stay => trivial
  | w2 k held y gs stay f => exact hI.inOwn hq (by simp [own, deadQ, goneP])
  | w3 k held y gs stay f => trivial
theorem loc_asking {κ γ : Type} {Z : Sp κ γ} {l : LayT} {S N : Nat} {V : Vw} {X : List Int} {g : γ} {P : Int → Int → Prop} {s : PsT} {pc : Pc κ} (h : LocPc Z l S N V X g P s pc) (hf : ∀ o, pc ≠ .fin o) : pc.asking := by
  cases pc <;> first | trivial | exact absurd rfl (hf _) | exact absurd h id
end Go.Proofs.YtdmnjoidfjidbaaGreat
/- Plays of a stack at which offers are made: each turn. -/
namespace Go.Proofs.YtdmnjoidfjidbaaGreat
set_option maxRecDepth 100000

theorem not_free {p : PlT} (hp : PlayG p) {K : Nat} {m : List Int} {V : Vw} {qs : List (Q Ek)} {F X : List Int} {g : ElmG} (hV : View (layP p) p.want.length p.nodes m V) (hI : Inv (spP p) (layP p) p.want.length p.nodes K V qs F X g) {w : Nat} {q : Q Ek} (hq : qs[w]? = some q) (hf : q.pc.asking) : freeF (layP p) m (accP p w q) = false := by
  have hL := layP_lay hp
  have hN := hp.n2
  have hlist : listF (layP p) m = F := list_is hL (by omega) hV hI
  have hcell : (accP p w q).cell = (asks (mP p) w q.pc).ad.cell (layP p) := acc_cell _
  unfold freeF
  rw [hlist, hcell]
  split
  · rfl
  · rename_i hc
    rw [Bool.eq_false_iff]
    intro hany
    rw [List.any_eq_true] at hany
    obtain ⟨n, hn, he⟩ := hany
    have he := of_decide_eq_true he
    have hnb := hI.inF hn
    have hpc := (hI.loc w q hq).pc
    have hnX : ∀ x : Int, x ∈ X ∨ Dq (spP p) qs x → x ≠ n := fun x hx e => by
      subst e
      rcases hx with h | h
      · have h1 := List.count_pos_iff.2 h
        have h2 := List.count_pos_iff.2 hn
        have := hI.one x
        omega
      · exact (hI.dq h).2.2 hn
    have hmi : ∀ x ∈ own (spP p) q, x ≠ n := fun x hx e => by
      subst e
      exact (hI.ownNot hq hx).1 hn
    have hA := asks_free (soundP hp) hI hq hf hn (fun k i hk => by
      obtain ⟨pc, s⟩ := q
      simp only at hk
      subst hk
      have hkl : elmKL (topP p) (loP p) (hiP p) p.nodes V.W g (Pr (spP p) V X qs w s) k := hpc.1
      have hPr : ∀ {i x : Int}, Pr (spP p) V X qs w s i x → x ≠ n := fun h => hnX _ (pr_in h)
      cases k with
      | p1 c v n' => exact fun e => by simp only [elmM, elmAsk, Ak.ad, Ad.nd.injEq] at e; exact hmi n' (by simp [own, mineP, elmZ]) e.1
      | ps c v n' x => exact fun e => by simp only [elmM, elmAsk, Ak.ad, Ad.nd.injEq] at e; exact hmi n' (by simp [own, mineP, elmZ]) e.1
      | ol c x => exact fun e => by simp only [elmM, elmAsk, Ak.ad, Ad.nd.injEq] at e; exact hPr hkl.2.2.2 e.1
      | ov n' a => exact fun e => by simp only [elmM, elmAsk, Ak.ad, Ad.nd.injEq] at e; exact hmi n' (by simp [own, deadQ, deadP, elmZ]) e.1
      | _ => exact fun e => by simp [elmM, elmAsk, Ak.ad] at e) (fun k i c j hk => by
      rw [hk] at hpc
      have hg := hpc.2.2.2.2.2.2
      cases k with
      | og c' => have hg : c = .ob (topP p) := hg; rw [hg]; exact fun e => by cases e
      | _ => exact absurd hg id)
    have hts := touch_safe hL (ask_ok (soundP hp) hI hq hf) hnb.1 hnb.2 hA.1 hA.2
    have e0 := hL.node n 0 hnb.1 hnb.2 (by omega) (by omega)
    omega
theorem set_same {α : Type} {l : List α} {w : Nat} {x : α} (h : l[w]? = some x) : l.set w x = l := by
  apply List.ext_getElem?
  intro j
  rw [List.getElem?_set]
  split
  · rename_i e
    subst e
    rw [if_pos (List.getElem?_eq_some_iff.1 h).1, h]
  · rfl
theorem G.step {p : PlT} (hp : PlayG p) {i : Nat} {t : TabT} {V : Vw} {F X : List Int} {g : ElmG} (hG : G p i t V F X g) (hi : i + 1 ≤ 100000) {who : Nat} (hwho : who < p.want.length) : ∃ V' F' X' g', StepR p who t V F X g (turnT (layP p) p.want t who) V' F' X' g' ∧ G p (i + 2) (turnT (layP p) p.want t who) V' F' X' g' := by
  have hL := layP_lay hp
  have hs := soundP hp
  obtain ⟨x, hx⟩ : ∃ x, t.seats[who]? = some x := ⟨t.seats[who]'(by have := hG.n; omega), List.getElem?_eq_getElem _⟩
  obtain ⟨ws, hws⟩ : ∃ ws, p.want[who]? = some ws := ⟨p.want[who], List.getElem?_eq_getElem hwho⟩
  have hxo := hG.seat who x hx
  rw [turn_eq (layP p) p.want t who hx hws]
  have hqg := qsOf_get (p := p) hx
  -- an access of a seat that is in an operation
  have key : ∀ (y : SeatT), OpOk y.op → y.steps.length = y.log.length → curX ws x = some y → (qAt p who y).pc.asking → eP y.op (qAt p who y).pc → cOk (qAt p who y) → Inv (spP p) (layP p) p.want.length p.nodes (i + 1) V ((qsOf p t.seats).set who (qAt p who y)) F X g →
      ∃ V' F' X' g', StepR p who t V F X g (moveT (layP p) t who y) V' F' X' g' ∧ G p (i + 2) (moveT (layP p) t who y) V' F' X' g' := by
    intro y hop hlen hcy hask herr hcz hinv
    have hk0 : y.op.kind ≠ 0 := by rcases hop.1 with h | h <;> omega
    have hqy : ((qsOf p t.seats).set who (qAt p who y))[who]? = some (qAt p who y) := set_here hqg
    have hrun2 : nextF (layP p) who y.gone y.op y.log = endQ (mP p) (layP p) who (qAt p who y) := by
      have e := top_eq hp hop.2.1
      have h1 := next_run (l := layP p) (S := p.want.length) (me := (who : Int)) rfl (gone := y.gone) (op := y.op) (log := y.log) (by rw [e]; unfold topP; omega) hop.1 hop.2.2
      rw [e] at h1
      rw [h1]
      unfold qAt
      rw [if_neg hk0, show slotOf (layP p) (who : Int) y.op.obj = slotP p who by rw [hop.2.1]; rfl]
    have hnf := not_free hp hG.view hinv hqy hask
    generalize hqe : qAt p who y = q at hqy hrun2 hnf hask hinv herr hcz
    have he : endQ (mP p) (layP p) who q = (accP p who q, out0, false) := by
      unfold endQ
      split
      · rename_i o h; rw [h] at hask; exact absurd hask id
      · rfl
    have her := hG.inv.er
    have hact := acts hL hG.view (a := asks (mP p) who q.pc) ⟨by omega, by omega⟩ (ask_ok hs hinv hqy hask)
    have hmv : moveT (layP p) t who y = ⟨(turnF t.m (accP p who q)).1, t.step + 1, t.seats.set who { y with log := y.log ++ [(actP p who V q).2], steps := y.steps ++ [t.step] }, t.calls, t.full, t.wild, t.bad⟩ := by
      unfold moveT
      simp only [hrun2, he, Bool.false_eq_true, if_false, hact.fault, if_true, hact.res, hnf, Bool.or_false]
    rw [hmv]
    have e1 : qAt p who { y with log := y.log ++ [(actP p who V q).2], steps := y.steps ++ [t.step] } = tell (mP p) p.want.length q (actP p who V q).2 := by
      rw [← hqe]
      unfold qAt
      simp only [hk0, if_false]
      rw [runQ_snoc]
    refine ⟨_, _, _, _, .acc x y ws q (i + 1) hx hws hcy hop hqe.symm hask herr hcz hlen (by omega) hinv, ⟨by simp [hG.n], hact.view, ?_, ?_, hG.bad, hG.wild⟩⟩
    · simp only
      rw [qsOf_set]
      rw [e1]
      have h2 := inv_act hs (by have := hp.n2; omega) hi hinv hqy hask
      rw [List.set_set] at h2
      exact h2
    · intro w z hz
      simp only at hz
      rcases set_get hx hz with ⟨rfl, rfl⟩ | ⟨_, h⟩
      · refine ⟨.inr hop, by simp [hlen], by rw [e1]; exact eP_tell _ herr, by rw [e1]; exact cOk_tell _ herr hcz⟩
      · have := hG.seat w z h; exact ⟨this.op, this.len, this.err, this.cz⟩
  by_cases h0 : x.op.kind = 0
  · cases ho : ws[x.next]? with
    | none =>
      have hc : curX ws x = none := by unfold curX; rw [if_pos h0, ho]; rfl
      rw [hc]
      exact ⟨V, F, X, g, .idle x ws hx hws h0 (List.getElem?_eq_none_iff.1 ho), ⟨hG.n, hG.view, (hG.inv.mono hs).mono hs, hG.seat, hG.bad, hG.wild⟩⟩
    | some op =>
      have hc : curX ws x = some ⟨op, [], [], x.next + 1, x.gone⟩ := by unfold curX; rw [if_pos h0, ho]; rfl
      rw [hc]
      have hop := hp.ops ws (List.mem_of_getElem? hws) op (List.mem_of_getElem? ho)
      have hk0 : op.kind ≠ 0 := by rcases hop.1 with h | h <;> omega
      obtain ⟨pc', e1, e2, e3, e4, e5⟩ := start_pc hp who hop x.gone
      have hqa : qAt p who ⟨op, [], [], x.next + 1, x.gone⟩ = ⟨pc', ⟨0, x.gone, 0, 0, 0⟩⟩ := by
        unfold qAt
        simp only [hk0, if_false]
        exact e1
      refine key _ hop rfl hc (by rw [hqa]; exact e3) (by rw [hqa]; exact e4) (by rw [hqa]; exact e5 _) ?_
      rw [hqa]
      have hidle : qAt p who x = idleQ x.gone := by unfold qAt; rw [if_pos h0]
      rw [hidle] at hqg
      exact inv_done hp hG.inv hqg e2
  · have hc : curX ws x = some x := by unfold curX; rw [if_neg h0]
    rw [hc]
    have hop := hxo.op.resolve_left h0
    by_cases hf : ∃ o, (qAt p who x).pc = .fin o
    · obtain ⟨o, hpc⟩ := hf
      have hrun2 : nextF (layP p) who x.gone x.op x.log = endQ (mP p) (layP p) who (qAt p who x) := by
        have e := top_eq hp hop.2.1
        have h1 := next_run (l := layP p) (S := p.want.length) (me := (who : Int)) rfl (gone := x.gone) (op := x.op) (log := x.log) (by rw [e]; unfold topP; omega) hop.1 hop.2.2
        rw [e] at h1
        rw [h1]
        unfold qAt
        rw [if_neg h0, show slotOf (layP p) (who : Int) x.op.obj = slotP p who by rw [hop.2.1]; rfl]
      have hlog : x.log ≠ [] := fun hl => by
        obtain ⟨pc', e1, _, e3, _⟩ := start_pc hp who hop x.gone
        unfold qAt at hpc
        rw [if_neg h0, hl] at hpc
        rw [show runQ (mP p) p.want.length (startQ (topP p) (slotP p who) x.op x.gone) [] = startQ (topP p) (slotP p who) x.op x.gone from rfl, e1] at hpc
        simp only at hpc
        rw [hpc] at e3
        exact e3
      generalize hqe : qAt p who x = q at hqg hrun2 hpc
      have he : endQ (mP p) (layP p) who q = (acc0, { o with gone := q.s.gone }, true) := by unfold endQ; rw [hpc]
      have hmv : moveT (layP p) t who x = endT t who x { o with gone := q.s.gone } := by
        unfold moveT
        simp only [hrun2, he, if_true]
      simp only [hmv]
      refine ⟨V, F, X, g, .done x q o hx h0 hqe.symm hpc hlog, ?_⟩
      have hset : ∀ (y : SeatT), y = { x with op := op0, gone := q.s.gone } → Inv (spP p) (layP p) p.want.length p.nodes (i + 2) V (qsOf p (t.seats.set who y)) F X g ∧ ∀ (w : Nat) (z : SeatT), (t.seats.set who y)[w]? = some z → SeatOk p w z := by
        intro y hy
        refine ⟨?_, fun w z hz => ?_⟩
        · rw [qsOf_set]
          have hqy : qAt p who y = idleQ q.s.gone := by unfold qAt; rw [if_pos (by rw [hy]; rfl), hy]
          rw [hqy]
          obtain ⟨pc, s0⟩ := q
          simp only at hpc
          subst hpc
          exact (inv_done hp hG.inv hqg (.inr (.inr ⟨_, rfl⟩))).mono hs
        · rcases set_get hx hz with ⟨_, rfl⟩ | ⟨_, h⟩
          · exact ⟨.inl (by rw [hy]; rfl), by rw [hy]; exact hxo.len, by unfold qAt; rw [if_pos (by rw [hy]; rfl)]; exact .inl rfl, by unfold qAt; rw [if_pos (by rw [hy]; rfl)]; trivial⟩
          · exact hG.seat w z h
      obtain ⟨hi1, hi2⟩ := hset _ rfl
      have hn' : (t.seats.set who { x with op := op0, gone := q.s.gone }).length = p.want.length := by simp [hG.n]
      have hsl : ¬ x.steps.length = 0 := by
        have h1 := hxo.len
        have h2 : x.log.length ≠ 0 := fun h => hlog (List.length_eq_zero_iff.1 h)
        omega
      have herr : o.err = 0 ∨ o.err = 8 := by
        have := hxo.err
        rw [hqe, hpc] at this
        exact this
      unfold endT
      simp only
      by_cases h8 : o.err = 8
      · rw [if_pos h8]
        exact ⟨hn', hG.view, hi1, hi2, hG.bad, hG.wild⟩
      · rw [if_neg h8, if_neg (by
          rintro (h | h)
          · exact h (herr.resolve_right h8)
          · exact hsl h)]
        exact ⟨hn', hG.view, hi1, hi2, hG.bad, hG.wild⟩
    · exact key x hop hxo.len hc (loc_asking (hG.inv.loc who _ hqg).pc fun o h => hf ⟨o, h⟩) hxo.err hxo.cz (by
        have := hG.inv.mono hs
        rw [set_same hqg]
        exact this)
end Go.Proofs.YtdmnjoidfjidbaaGreat
/- Plays of a stack at which offers are made: what was done so far, in an order in which a stack does it. -/
namespace Go.Proofs.YtdmnjoidfjidbaaGreat
set_option maxRecDepth 100000

def stkDo (vs : List Int) (op : OpT) : List Int × Int × Bool := if op.kind = 4 then (op.a :: vs, 0, true) else match vs with
  | [] => ([], 0, false)
  | x :: xs => (xs, x, true)
structure EvT where
  who : Nat
  op : OpT
  val : Int
  is : Bool
  time : Int
structure EnT where
  ev : EvT
  call : Option CallT
def Ex : List Int → List EnT → List Int → Prop
  | vs, [], vs' => vs = vs'
  | vs, e :: es, vs' => ∃ m, stkDo vs e.ev.op = (m, e.ev.val, e.ev.is) ∧ Ex m es vs'
theorem Ex.app : ∀ {A B : List EnT} {a b c : List Int}, Ex a A b → Ex b B c → Ex a (A ++ B) c
  | [], B, a, b, c, h1, h2 => by cases h1; exact h2
  | e :: A, B, a, b, c, ⟨m, h1, h3⟩, h2 => ⟨m, h1, h3.app h2⟩
theorem Ex.map {f : EnT → EnT} (hf : ∀ e, (f e).ev = e.ev) : ∀ {A : List EnT} {a b : List Int}, Ex a A b → Ex a (A.map f) b
  | [], a, b, h => h
  | e :: A, a, b, ⟨m, h1, h2⟩ => ⟨m, by rw [hf]; exact h1, h2.map hf⟩
theorem Ex.filter {f : EnT → Bool} : ∀ {A : List EnT} {a b : List Int}, Ex a A b → (∀ e ∈ A, f e = false → e.ev.op.kind ≠ 4 ∧ e.ev.is = false) → Ex a (A.filter f) b
  | [], a, b, h, _ => h
  | e :: A, a, b, ⟨m, h1, h2⟩, hn => by
    have ih := h2.filter (fun e he => hn e (List.mem_cons_of_mem _ he))
    rw [List.filter_cons]
    split
    · exact ⟨m, h1, ih⟩
    · rename_i hf
      obtain ⟨n1, n2⟩ := hn e List.mem_cons_self (by simpa using hf)
      unfold stkDo at h1
      rw [if_neg n1] at h1
      cases a with
      | nil =>
        simp only [Prod.mk.injEq] at h1
        rw [h1.1]; exact ih
      | cons x xs =>
        simp only [Prod.mk.injEq] at h1
        rw [n2] at h1
        exact absurd h1.2.2 (by simp)

/-! ### What a program has done -/
def tolK (W : Ws) : Ek → Option (Int × Bool)
  | .m1 c v _ w _ => if W.ob c = mineW v w then none else some (0, true)
  | .m2 c v _ w _ => if W.ob c = mineW v w then none else some (0, true)
  | .m3 c v _ w _ => if W.ob c = mineW v w then none else some (0, true)
  | .qs _ _ _ _ => some (0, true)
  | .gv _ => some (0, true)
  | .ov n _ => some (W.nd n 1, true)
  | .fi o => some (o.val, o.is)
  | .rx _ o => some (o.val, o.is)
  | .rr o => some (o.val, o.is)
  | _ => none
def tolP (W : Ws) : Pc Ek → Option (Int × Bool)
  | .g2 _ _ _ v _ => if (ofW v).idx = 0 then some (0, false) else none
  | .fin o => if o.err = 8 then none else some (o.val, o.is)
  | .at_ k | .t1 k | .t2 k _ | .t3 k _ _ | .t4 k _ _ | .t5 k _ _ _ | .g1 k _ _ | .g3 k _ _ _ | .clr k | .c k _ | .v1 k _ | .v2 k _ _ | .v3 k _ _ | .r1 k _ | .r2 k _ _ | .rs k _ _ _ | .s1 k _ _ _ _ | .w1 k _ _ _ _ | .w2 k _ _ _ _ _ | .w3 k _ _ _ _ _ => tolK W k
def ofPc : Pc Ek → Option (Int × Int × Int × Int)
  | .at_ (.m1 c v n w _) => some (c, v, n, w)
  | .at_ (.m2 c v n w _) => some (c, v, n, w)
  | .at_ (.m3 c v n w _) => some (c, v, n, w)
  | _ => none
structure Vi where
  op : OpT
  steps : List Int
  pc : Pc Ek
def tolV (W : Ws) (v : Vi) : Option (Int × Bool) := if v.op.kind = 0 then none else tolP W v.pc
def idleV : Vi := ⟨op0, [], .fin ⟨0, false, 0, 0, []⟩⟩
def opnB (w : Nat) (e : EnT) : Bool := decide (e.ev.who = w) && e.call.isNone
def OpenIs (W : Ws) (v : Vi) (L : List EnT) : Prop := match tolV W v with
  | none => L = []
  | some (a, b) => ∃ e, L = [e] ∧ e.ev.op = v.op ∧ e.ev.val = a ∧ e.ev.is = b ∧ (∃ f, v.steps.head? = some f ∧ f ≤ e.ev.time) ∧ ((ofPc v.pc).isSome ∨ ∃ l, v.steps.getLast? = some l ∧ e.ev.time ≤ l)
def sameC (e : EnT) (c : CallT) : Prop := c.op = e.ev.op ∧ c.val = e.ev.val ∧ c.is = e.ev.is ∧ c.first ≤ e.ev.time ∧ e.ev.time ≤ c.last
section
variable (lo hi : Int)
structure HI (sv : Nat → Vi) (step : Int) (calls : List CallT) (W : Ws) (X : List Int) (H : List EnT) : Prop where
  ex : Ex [] H (X.map fun n => W.nd n 1)
  sorted : H.Pairwise fun a b => a.ev.time ≤ b.ev.time
  lt : ∀ e ∈ H, e.ev.time < step
  perm : calls.Perm (H.filterMap EnT.call)
  closed : ∀ e ∈ H, ∀ c, e.call = some c → sameC e c
  opens : ∀ w, OpenIs W (sv w) (H.filter (opnB w))
  st : ∀ w, ∀ s ∈ (sv w).steps, s < step
  slots : ∀ c, SC lo hi c → offK (W.ob c) = 1 → ∃ j v n w, (sv j).op.kind ≠ 0 ∧ ofPc (sv j).pc = some (c, v, n, w) ∧ W.ob c = mineW v w
end
def upS (sv : Nat → Vi) (w : Nat) (v : Vi) : Nat → Vi := fun j => if j = w then v else sv j
theorem upS_here {sv : Nat → Vi} {w : Nat} {v : Vi} : upS sv w v w = v := by unfold upS; rw [if_pos rfl]
theorem upS_there {sv : Nat → Vi} {w j : Nat} {v : Vi} (h : j ≠ w) : upS sv w v j = sv j := by unfold upS; rw [if_neg h]
theorem open_none {W : Ws} {v : Vi} {L : List EnT} (h : tolV W v = none) : OpenIs W v L ↔ L = [] := by unfold OpenIs; rw [h]
theorem open_some {W : Ws} {v : Vi} {L : List EnT} {a : Int} {b : Bool} (h : tolV W v = some (a, b)) : OpenIs W v L ↔ ∃ e, L = [e] ∧ e.ev.op = v.op ∧ e.ev.val = a ∧ e.ev.is = b ∧ (∃ f, v.steps.head? = some f ∧ f ≤ e.ev.time) ∧ ((ofPc v.pc).isSome ∨ ∃ l, v.steps.getLast? = some l ∧ e.ev.time ≤ l) := by unfold OpenIs; rw [h]
theorem open_same {W W' : Ws} {v : Vi} {L : List EnT} (h : tolV W' v = tolV W v) (hO : OpenIs W v L) : OpenIs W' v L := by unfold OpenIs at hO ⊢; rw [h]; exact hO
theorem head_app {s : List Int} {f x : Int} (h : s.head? = some f) : (s ++ [x]).head? = some f := by cases s with
  | nil => simp at h
  | cons a s => simpa using h
theorem open_own {W W' : Ws} {v : Vi} {L : List EnT} {pc' : Pc Ek} {step : Int} (hk : v.op.kind ≠ 0) (h : tolP W' pc' = tolP W v.pc) (hlt : ∀ e ∈ L, e.ev.time < step) (hO : OpenIs W v L) : OpenIs W' ⟨v.op, v.steps ++ [step], pc'⟩ L := by
  have e1 : tolV W' ⟨v.op, v.steps ++ [step], pc'⟩ = tolV W v := by
    unfold tolV
    rw [if_neg hk, if_neg hk]; exact h
  cases ht : tolV W v with
  | none =>
    rw [open_none ht] at hO
    rw [open_none (e1.trans ht)]; exact hO
  | some ab =>
    obtain ⟨a, b⟩ := ab
    rw [open_some ht] at hO
    rw [open_some (e1.trans ht)]
    obtain ⟨e, h1, h2, h3, h4, ⟨f, h5, h6⟩, h7⟩ := hO
    exact ⟨e, h1, h2, h3, h4, ⟨f, head_app h5, h6⟩, .inr ⟨step, by simp, by have := hlt e (by rw [h1]; simp); omega⟩⟩
theorem open_new {W' : Ws} {v : Vi} {pc' : Pc Ek} {step : Int} {a : Int} {b : Bool} {e : EnT} (hk : v.op.kind ≠ 0) (h : tolP W' pc' = some (a, b)) (hst : ∀ s ∈ v.steps, s < step) (he : e.ev.op = v.op ∧ e.ev.val = a ∧ e.ev.is = b ∧ e.ev.time = step) : OpenIs W' ⟨v.op, v.steps ++ [step], pc'⟩ [e] := by
  rw [open_some (a := a) (b := b) (by unfold tolV; rw [if_neg hk]; exact h)]
  refine ⟨e, rfl, he.1, he.2.1, he.2.2.1, ?_, .inr ⟨step, by simp, by omega⟩⟩
  cases hs : v.steps with
  | nil => exact ⟨step, by simp, by omega⟩
  | cons s ss => exact ⟨s, by simp, by have := hst s (by rw [hs]; simp); omega⟩
section
variable {lo hi : Int} {sv : Nat → Vi} {step : Int} {calls : List CallT} {W W' : Ws} {X X' : List Int} {H : List EnT}
theorem HI.still (h : HI lo hi sv step calls W X H) {w : Nat} {pc' : Pc Ek} (hk : (sv w).op.kind ≠ 0) (hX : X'.map (fun n => W'.nd n 1) = X.map (fun n => W.nd n 1)) (hw : tolP W' pc' = tolP W (sv w).pc) (ho : ∀ j, j ≠ w → tolV W' (sv j) = tolV W (sv j))
    (hs : ∀ c, SC lo hi c → offK (W'.ob c) = 1 → ∃ j v n x, (upS sv w ⟨(sv w).op, (sv w).steps ++ [step], pc'⟩ j).op.kind ≠ 0 ∧ ofPc (upS sv w ⟨(sv w).op, (sv w).steps ++ [step], pc'⟩ j).pc = some (c, v, n, x) ∧ W'.ob c = mineW v x) :
    HI lo hi (upS sv w ⟨(sv w).op, (sv w).steps ++ [step], pc'⟩) (step + 1) calls W' X' H := by
  refine ⟨by rw [hX]; exact h.ex, h.sorted, fun e he => by have := h.lt e he; omega, h.perm, h.closed, fun j => ?_, fun j s hs => ?_, hs⟩
  · by_cases hj : j = w
    · subst hj
      rw [upS_here]
      exact open_own hk hw (fun e he => h.lt e ((List.mem_filter.1 he).1)) (h.opens j)
    · rw [upS_there hj]
      exact open_same (ho j hj) (h.opens j)
  · by_cases hj : j = w
    · subst hj
      rw [upS_here] at hs
      rw [List.mem_append, List.mem_singleton] at hs
      rcases hs with hs | rfl
      · have := h.st j s hs; omega
      · omega
    · rw [upS_there hj] at hs
      have := h.st j s hs; omega
theorem st_next (h : HI lo hi sv step calls W X H) {w : Nat} {pc' : Pc Ek} : ∀ j, ∀ s ∈ (upS sv w ⟨(sv w).op, (sv w).steps ++ [step], pc'⟩ j).steps, s < step + 1 := by
  intro j s hs
  by_cases hj : j = w
  · subst hj
    rw [upS_here] at hs
    rw [List.mem_append, List.mem_singleton] at hs
    rcases hs with hs | rfl
    · have := h.st j s hs; omega
    · omega
  · rw [upS_there hj] at hs
    have := h.st j s hs; omega
theorem filter_new {w : Nat} {e : EnT} (he : e.ev.who = w) (hc : e.call = none) (h0 : H.filter (opnB w) = []) : (H ++ [e]).filter (opnB w) = [e] := by
  rw [List.filter_append, h0, List.nil_append, List.filter_cons, if_pos (by simp [opnB, he, hc])]; rfl
theorem filter_other {w j : Nat} {e : EnT} (he : e.ev.who = w) (hj : j ≠ w) : (H ++ [e]).filter (opnB j) = H.filter (opnB j) := by
  rw [List.filter_append, List.filter_cons, if_neg (by simp [opnB, he]; intro h; exact absurd h.symm hj)]; simp
theorem HI.does (h : HI lo hi sv step calls W X H) {w : Nat} {pc' : Pc Ek} {a : Int} {b : Bool} (hk : (sv w).op.kind ≠ 0) (h0 : tolP W (sv w).pc = none) (hd : stkDo (X.map fun n => W.nd n 1) (sv w).op = (X'.map (fun n => W'.nd n 1), a, b)) (hw : tolP W' pc' = some (a, b)) (ho : ∀ j, j ≠ w → tolV W' (sv j) = tolV W (sv j))
    (hs : ∀ c, SC lo hi c → offK (W'.ob c) = 1 → ∃ j v n x, (upS sv w ⟨(sv w).op, (sv w).steps ++ [step], pc'⟩ j).op.kind ≠ 0 ∧ ofPc (upS sv w ⟨(sv w).op, (sv w).steps ++ [step], pc'⟩ j).pc = some (c, v, n, x) ∧ W'.ob c = mineW v x) :
    HI lo hi (upS sv w ⟨(sv w).op, (sv w).steps ++ [step], pc'⟩) (step + 1) calls W' X' (H ++ [⟨⟨w, (sv w).op, a, b, step⟩, none⟩]) := by
  have hO := h.opens w
  rw [open_none (by unfold tolV; rw [if_neg hk]; exact h0)] at hO
  refine ⟨h.ex.app ⟨_, hd, rfl⟩, ?_, fun e he => ?_, ?_, fun e he c hc => ?_, fun j => ?_, st_next h, hs⟩
  · rw [List.pairwise_append]
    exact ⟨h.sorted, by simp, fun x hx y hy => by have := h.lt x hx; simp only [List.mem_singleton] at hy; rw [hy]; simp only; omega⟩
  · rw [List.mem_append, List.mem_singleton] at he
    rcases he with he | rfl
    · have := h.lt e he; omega
    · simp only; omega
  · rw [List.filterMap_append]
    simpa using h.perm
  · rw [List.mem_append, List.mem_singleton] at he
    rcases he with he | rfl
    · exact h.closed e he c hc
    · cases hc
  · by_cases hj : j = w
    · subst hj
      rw [upS_here, filter_new (w := j) rfl rfl hO]
      exact open_new hk hw (h.st j) ⟨rfl, rfl, rfl, rfl⟩
    · rw [upS_there hj, filter_other (w := w) rfl hj]
      exact open_same (ho j hj) (h.opens j)
theorem HI.drop (h : HI lo hi sv step calls W X H) {w : Nat} {pc' : Pc Ek} (hk : (sv w).op.kind = 5) (h0 : tolP W (sv w).pc = some (0, false)) (hX : X'.map (fun n => W'.nd n 1) = X.map (fun n => W.nd n 1)) (hw : tolP W' pc' = none) (ho : ∀ j, j ≠ w → tolV W' (sv j) = tolV W (sv j))
    (hs : ∀ c, SC lo hi c → offK (W'.ob c) = 1 → ∃ j v n x, (upS sv w ⟨(sv w).op, (sv w).steps ++ [step], pc'⟩ j).op.kind ≠ 0 ∧ ofPc (upS sv w ⟨(sv w).op, (sv w).steps ++ [step], pc'⟩ j).pc = some (c, v, n, x) ∧ W'.ob c = mineW v x) :
    HI lo hi (upS sv w ⟨(sv w).op, (sv w).steps ++ [step], pc'⟩) (step + 1) calls W' X' (H.filter fun e => !opnB w e) := by
  have hk0 : (sv w).op.kind ≠ 0 := by omega
  have hO := h.opens w
  rw [open_some (by unfold tolV; rw [if_neg hk0]; exact h0)] at hO
  obtain ⟨e0, e1, e2, e3, e4, _⟩ := hO
  refine ⟨?_, h.sorted.filter _, fun e he => by have := h.lt e ((List.mem_filter.1 he).1); omega, ?_, fun e he => h.closed e ((List.mem_filter.1 he).1), fun j => ?_, st_next h, hs⟩
  · rw [hX]
    refine h.ex.filter fun e he hf => ?_
    have hm : e ∈ H.filter (opnB w) := List.mem_filter.2 ⟨he, by simpa using hf⟩
    rw [e1, List.mem_singleton] at hm
    subst hm
    exact ⟨by rw [e2]; omega, e4⟩
  · have : (H.filter fun e => !opnB w e).filterMap EnT.call = H.filterMap EnT.call := by
      rw [List.filterMap_filter]
      congr 1
      funext e
      cases hc : e.call with
      | none => simp
      | some c => simp [opnB, hc]
    rw [this]; exact h.perm
  · have hff : (H.filter fun e => !opnB w e).filter (opnB j) = if j = w then [] else H.filter (opnB j) := by
      rw [List.filter_filter]
      split
      · rename_i hj
        subst hj
        simp
      · rename_i hj
        apply List.filter_congr
        intro e _
        by_cases hwo : e.ev.who = w
        · have : opnB j e = false := by simp [opnB, hwo]; intro h; exact absurd h.symm hj
          rw [this]; rfl
        · have : opnB w e = false := by simp [opnB, hwo]
          rw [this]; simp
    rw [hff]
    by_cases hj : j = w
    · subst hj
      rw [upS_here, if_pos rfl, open_none]
      unfold tolV; rw [if_neg hk0]; exact hw
    · rw [upS_there hj, if_neg hj]
      exact open_same (ho j hj) (h.opens j)
theorem HI.meets (h : HI lo hi sv step calls W X H) {w i : Nat} (hwi : i ≠ w) {pc' : Pc Ek} {v : Int} (hk : (sv w).op.kind = 5) (hki : (sv i).op.kind = 4) (hvi : (sv i).op.a = v) (h0 : tolP W (sv w).pc = none) (h1 : tolP W (sv i).pc = none) (h2 : tolP W' (sv i).pc = some (0, true)) (hoi : (ofPc (sv i).pc).isSome) (hsi : (sv i).steps ≠ []) (hX : X'.map (fun n => W'.nd n 1) = X.map (fun n => W.nd n 1))
    (hw : tolP W' pc' = some (v, true)) (ho : ∀ j, j ≠ w → j ≠ i → tolV W' (sv j) = tolV W (sv j))
    (hs : ∀ c, SC lo hi c → offK (W'.ob c) = 1 → ∃ j v n x, (upS sv w ⟨(sv w).op, (sv w).steps ++ [step], pc'⟩ j).op.kind ≠ 0 ∧ ofPc (upS sv w ⟨(sv w).op, (sv w).steps ++ [step], pc'⟩ j).pc = some (c, v, n, x) ∧ W'.ob c = mineW v x) :
    HI lo hi (upS sv w ⟨(sv w).op, (sv w).steps ++ [step], pc'⟩) (step + 1) calls W' X' (H ++ [⟨⟨i, (sv i).op, 0, true, step⟩, none⟩] ++ [⟨⟨w, (sv w).op, v, true, step⟩, none⟩]) := by
  have hk0 : (sv w).op.kind ≠ 0 := by omega
  have hi0 : (sv i).op.kind ≠ 0 := by omega
  have hOw := h.opens w
  rw [open_none (by unfold tolV; rw [if_neg hk0]; exact h0)] at hOw
  have hOi := h.opens i
  rw [open_none (by unfold tolV; rw [if_neg hi0]; exact h1)] at hOi
  have hnw : (H ++ [(⟨⟨i, (sv i).op, 0, true, step⟩, none⟩ : EnT)]).filter (opnB w) = [] := by rw [filter_other (w := i) rfl hwi.symm]; exact hOw
  have x1 : Ex (X.map fun n => W.nd n 1) [⟨⟨i, (sv i).op, 0, true, step⟩, none⟩] (v :: (X'.map fun n => W'.nd n 1)) := ⟨_, by simp only [stkDo, hki, if_true, hvi, hX], rfl⟩
  have x2 : Ex (v :: (X'.map fun n => W'.nd n 1)) [⟨⟨w, (sv w).op, v, true, step⟩, none⟩] (X'.map fun n => W'.nd n 1) := ⟨_, by simp only [stkDo, hk]; rw [if_neg (by omega)], rfl⟩
  refine ⟨(h.ex.app x1).app x2, ?_, fun e he => ?_, ?_, fun e he c hc => ?_, fun j => ?_, st_next h, hs⟩
  · rw [List.pairwise_append, List.pairwise_append]
    refine ⟨⟨h.sorted, by simp, fun x hx y hy => ?_⟩, by simp, fun x hx y hy => ?_⟩
    · have := h.lt x hx; simp only [List.mem_singleton] at hy; rw [hy]; simp only; omega
    · simp only [List.mem_singleton] at hy
      rw [hy, List.mem_append, List.mem_singleton] at *
      rcases hx with hx | rfl
      · have := h.lt x hx; simp only; omega
      · simp
  · simp only [List.mem_append, List.mem_singleton] at he
    rcases he with (he | rfl) | rfl
    · have := h.lt e he; omega
    · simp only; omega
    · simp only; omega
  · rw [List.filterMap_append, List.filterMap_append]
    simpa using h.perm
  · simp only [List.mem_append, List.mem_singleton] at he
    rcases he with (he | rfl) | rfl
    · exact h.closed e he c hc
    · cases hc
    · cases hc
  · by_cases hj : j = w
    · subst hj
      rw [upS_here, filter_new (w := j) rfl rfl hnw]
      exact open_new hk0 hw (h.st j) ⟨rfl, rfl, rfl, rfl⟩
    · rw [upS_there hj, filter_other (w := w) rfl hj]
      by_cases hji : j = i
      · subst hji
        rw [filter_new (w := j) rfl rfl hOi, open_some (a := 0) (b := true) (by unfold tolV; rw [if_neg hi0]; exact h2)]
        refine ⟨_, rfl, rfl, rfl, rfl, ?_, .inl hoi⟩
        cases hss : (sv j).steps with
        | nil => exact absurd hss hsi
        | cons s ss => exact ⟨s, rfl, by have := h.st j s (by rw [hss]; simp); simp only; omega⟩
      · rw [filter_other (w := i) rfl hji]
        exact open_same (ho j hj hji) (h.opens j)
theorem HI.begins (h : HI lo hi sv step calls W X H) {w : Nat} (h0 : (sv w).op.kind = 0) {v : Vi} (hv : tolP W v.pc = none) (hs : v.steps = []) : HI lo hi (upS sv w v) step calls W X H := by
  have hO := h.opens w
  rw [open_none (by unfold tolV; rw [if_pos h0])] at hO
  refine ⟨h.ex, h.sorted, h.lt, h.perm, h.closed, fun j => ?_, fun j s hs' => ?_, fun c hc hk => ?_⟩
  · by_cases hj : j = w
    · subst hj
      rw [upS_here, open_none]
      · exact hO
      · unfold tolV; split
        · rfl
        · exact hv
    · rw [upS_there hj]; exact h.opens j
  · by_cases hj : j = w
    · subst hj
      rw [upS_here, hs] at hs'
      simp at hs'
    · rw [upS_there hj] at hs'; exact h.st j s hs'
  · obtain ⟨j, v', n, x, h1, h2, h3⟩ := h.slots c hc hk
    have hj : j ≠ w := fun e => h1 (e ▸ h0)
    exact ⟨j, v', n, x, by rw [upS_there hj]; exact h1, by rw [upS_there hj]; exact h2, h3⟩
theorem fm_one {c : CallT} {w : Nat} {e0 : EnT} (f : EnT → EnT) (hf : f = fun e => if opnB w e then { e with call := some c } else e) : ∀ {H : List EnT}, H.filter (opnB w) = [e0] → ((H.map f).filterMap EnT.call).Perm (H.filterMap EnT.call ++ [c])
  | [], h => by simp at h
  | e :: H, h => by
    rw [List.filter_cons] at h
    rw [List.map_cons]
    by_cases hb : opnB w e = true
    · rw [if_pos hb] at h
      injection h with _ h2
      have hid : H.map f = H := by
        have hx : ∀ x ∈ H, f x = id x := fun x hx => by
          have hx2 : opnB w x = false := by
            cases hb2 : opnB w x
            · rfl
            · have := List.mem_filter.2 ⟨hx, hb2⟩
              rw [h2] at this
              simp at this
          rw [hf]; simp [hx2]
        rw [List.map_congr_left hx, List.map_id]
      have hn : e.call = none := by
        simp only [opnB, Bool.and_eq_true, Option.isNone_iff_eq_none] at hb; exact hb.2
      have hfe : f e = { e with call := some c } := by rw [hf]; simp only [hb, if_true]
      rw [hid, hfe, List.filterMap_cons_some (by rfl), List.filterMap_cons_none hn]
      exact List.perm_append_comm (l₁ := [c])
    · rw [if_neg hb] at h
      have hfe : f e = e := by rw [hf]; simp only [hb]; rfl
      have ih := fm_one (c := c) f hf h
      rw [hfe]
      cases hc : e.call with
      | none => rw [List.filterMap_cons_none hc, List.filterMap_cons_none hc]; exact ih
      | some d => rw [List.filterMap_cons_some hc, List.filterMap_cons_some hc]; exact ih.cons d
theorem HI.ends (h : HI lo hi sv step calls W X H) {w : Nat} {a : Int} {b : Bool} (hk : (sv w).op.kind ≠ 0) (ht : tolP W (sv w).pc = some (a, b)) (ho : ofPc (sv w).pc = none) {c : CallT} (hc : c.op = (sv w).op ∧ c.val = a ∧ c.is = b ∧ (sv w).steps.head? = some c.first ∧ (sv w).steps.getLast? = some c.last) {v : Vi} (hv : v.op.kind = 0) (hs : ∀ s ∈ v.steps, s < step) :
    ∃ H', HI lo hi (upS sv w v) step (calls ++ [c]) W X H' := by
  have hO := h.opens w
  rw [open_some (a := a) (b := b) (by unfold tolV; rw [if_neg hk]; exact ht)] at hO
  obtain ⟨e0, h1, h2, h3, h4, ⟨f0, h5, h6⟩, h7⟩ := hO
  have h7' : e0.ev.time ≤ c.last := by
    rcases h7 with h7 | ⟨l, h7, h8⟩
    · rw [ho] at h7; cases h7
    · rw [hc.2.2.2.2] at h7; cases h7; exact h8
  have h6' : c.first ≤ e0.ev.time := by
    rw [hc.2.2.2.1] at h5; cases h5; exact h6
  generalize hf : (fun e => if opnB w e then { e with call := some c } else e : EnT → EnT) = f
  have hf' := hf.symm
  have hev : ∀ e, (f e).ev = e.ev := fun e => by rw [hf']; simp only; split <;> rfl
  have hfo : ∀ j e, opnB j (f e) = if j = w then false else opnB j e := fun j e => by
    rw [hf']
    simp only
    by_cases hb : opnB w e = true
    · rw [if_pos hb]
      have hw : e.ev.who = w := by simp only [opnB, Bool.and_eq_true, decide_eq_true_eq] at hb; exact hb.1
      split
      · simp [opnB]
      · rename_i hj
        simp [opnB, hw]
        intro h; exact absurd h.symm hj
    · rw [if_neg hb]
      split
      · rename_i hj; subst hj; simpa using hb
      · rfl
  refine ⟨H.map f, h.ex.map hev, ?_, fun e he => ?_, ?_, fun e he d hd => ?_, fun j => ?_, fun j s hs' => ?_, fun x hx hk2 => ?_⟩
  · rw [List.pairwise_map]
    exact h.sorted.imp fun {a b} hab => by rw [hev, hev]; exact hab
  · obtain ⟨e', he', rfl⟩ := List.mem_map.1 he
    rw [hev]; exact h.lt e' he'
  · exact (h.perm.append_right [c]).trans (fm_one (w := w) (c := c) f hf' h1).symm
  · obtain ⟨e', he', rfl⟩ := List.mem_map.1 he
    by_cases hb : opnB w e' = true
    · have hfe : f e' = { e' with call := some c } := by rw [hf']; simp only [hb, if_true]
      rw [hfe] at hd ⊢
      cases hd
      have hm : e' ∈ H.filter (opnB w) := List.mem_filter.2 ⟨he', hb⟩
      rw [h1, List.mem_singleton] at hm
      subst hm
      exact ⟨hc.1.trans h2.symm, hc.2.1.trans h3.symm, hc.2.2.1.trans h4.symm, h6', h7'⟩
    · have hfe : f e' = e' := by rw [hf']; simp only [hb]; rfl
      rw [hfe] at hd ⊢
      exact h.closed e' he' d hd
  · have hfl : (H.map f).filter (opnB j) = if j = w then [] else H.filter (opnB j) := by
      rw [List.filter_map]
      have : (opnB j ∘ f) = fun e => if j = w then false else opnB j e := by funext e; exact hfo j e
      rw [this]
      split
      · rename_i hj
        simp
      · rename_i hj
        have hid : ∀ e ∈ H.filter (opnB j), f e = id e := fun e he => by
          have hb := (List.mem_filter.1 he).2
          have hw : e.ev.who = j := by simp only [opnB, Bool.and_eq_true, decide_eq_true_eq] at hb; exact hb.1
          have : opnB w e = false := by simp [opnB, hw, hj]
          rw [hf']; simp [this]
        rw [List.map_congr_left hid, List.map_id]
    rw [hfl]
    by_cases hj : j = w
    · subst hj
      rw [upS_here, if_pos rfl, open_none]
      unfold tolV; rw [if_pos hv]
    · rw [upS_there hj, if_neg hj]
      exact h.opens j
  · by_cases hj : j = w
    · subst hj
      rw [upS_here] at hs'
      exact hs s hs'
    · rw [upS_there hj] at hs'; exact h.st j s hs'
  · obtain ⟨j, v', n, y, k1, k2, k3⟩ := h.slots x hx hk2
    have hj : j ≠ w := fun e => by subst e; rw [ho] at k2; cases k2
    exact ⟨j, v', n, y, by rw [upS_there hj]; exact k1, by rw [upS_there hj]; exact k2, k3⟩
theorem HI.stops (h : HI lo hi sv step calls W X H) {w : Nat} (hk : (sv w).op.kind ≠ 0) (ht : tolP W (sv w).pc = none) (ho : ofPc (sv w).pc = none) {v : Vi} (hv : v.op.kind = 0) (hs : ∀ s ∈ v.steps, s < step) : HI lo hi (upS sv w v) step calls W X H := by
  have hO := h.opens w
  rw [open_none (by unfold tolV; rw [if_neg hk]; exact ht)] at hO
  refine ⟨h.ex, h.sorted, h.lt, h.perm, h.closed, fun j => ?_, fun j s hs' => ?_, fun x hx hk2 => ?_⟩
  · by_cases hj : j = w
    · subst hj
      rw [upS_here, open_none]
      · exact hO
      · unfold tolV; rw [if_pos hv]
    · rw [upS_there hj]; exact h.opens j
  · by_cases hj : j = w
    · subst hj
      rw [upS_here] at hs'
      exact hs s hs'
    · rw [upS_there hj] at hs'; exact h.st j s hs'
  · obtain ⟨j, v', n, y, k1, k2, k3⟩ := h.slots x hx hk2
    have hj : j ≠ w := fun e => by subst e; rw [ho] at k2; cases k2
    exact ⟨j, v', n, y, by rw [upS_there hj]; exact k1, by rw [upS_there hj]; exact k2, k3⟩

/-! ### In the end -/
def orderB : Nat → List Int → List CallT → Bool
  | 0, _, l => decide (l.length = 0)
  | k + 1, vs, l => if l.length = 0 then true else (List.range l.length).any fun i => match l[i]? with
    | none => false
    | some x => l.all (fun y => decide (x.first ≤ y.last)) && (decide ((stkDo vs x.op).2.1 = x.val) && decide ((stkDo vs x.op).2.2 = x.is)) && orderB k (stkDo vs x.op).1 (l.take i ++ l.drop (i + 1))
theorem order_of : ∀ (k : Nat) (vs vs' : List Int) (seq : List EnT) (l : List CallT), l.length ≤ k → Ex vs seq vs' → (seq.Pairwise fun a b => a.ev.time ≤ b.ev.time) → (∀ e ∈ seq, ∃ c, e.call = some c ∧ sameC e c) → l.Perm (seq.filterMap EnT.call) → orderB k vs l = true
  | 0, vs, vs', seq, l, hl, _, _, _, _ => by simp only [orderB]; exact decide_eq_true (by omega)
  | k + 1, vs, vs', [], l, hl, _, _, _, hp => by
    have : l = [] := hp.eq_nil
    subst this
    rfl
  | k + 1, vs, vs', e :: seq, l, hl, ⟨m, hd, hx⟩, hs, hc, hp => by
    obtain ⟨c, h1, h2⟩ := hc e List.mem_cons_self
    rw [List.filterMap_cons_some h1] at hp
    obtain ⟨i, hi⟩ := List.getElem?_of_mem (hp.mem_iff.2 List.mem_cons_self)
    have hil := (List.getElem?_eq_some_iff.1 hi).1
    rw [orderB, if_neg (by omega), List.any_eq_true]
    refine ⟨i, List.mem_range.2 hil, ?_⟩
    rw [hi]
    simp only [Bool.and_eq_true, decide_eq_true_eq, List.all_eq_true]
    have hsplit : l = l.take i ++ c :: l.drop (i + 1) := by
      have e1 : l[i] = c := (List.getElem?_eq_some_iff.1 hi).2
      rw [← e1, ← List.drop_eq_getElem_cons hil, List.take_append_drop]
    have hp2 : (l.take i ++ l.drop (i + 1)).Perm (seq.filterMap EnT.call) := by
      have h3 : (c :: (l.take i ++ l.drop (i + 1))).Perm (c :: seq.filterMap EnT.call) := (List.perm_middle.symm.trans (by rw [← hsplit])).trans hp
      exact h3.cons_inv
    rw [List.pairwise_cons] at hs
    refine ⟨⟨fun y hy => ?_, ?_⟩, ?_⟩
    · have hy2 := hp.mem_iff.1 hy
      rw [List.mem_cons] at hy2
      rcases hy2 with rfl | hy2
      · have := h2.2.2.2.1; have := h2.2.2.2.2; omega
      · obtain ⟨e', he', hce⟩ := List.mem_filterMap.1 hy2
        obtain ⟨c', h4, h5⟩ := hc e' (List.mem_cons_of_mem _ he')
        rw [hce] at h4
        cases h4
        have := hs.1 e' he'
        have := h2.2.2.2.1
        have := h5.2.2.2.2
        omega
    · rw [h2.1, hd]
      exact ⟨h2.2.1.symm, h2.2.2.1.symm⟩
    · rw [h2.1, hd]
      refine order_of k m vs' seq _ ?_ hx hs.2 (fun e' he' => hc e' (List.mem_cons_of_mem _ he')) hp2
      have := congrArg List.length hsplit
      simp only [List.length_append, List.length_cons] at this ⊢
      omega
theorem HI.all (h : HI lo hi sv step calls W X H) (n : ∀ w, (sv w).op.kind = 0) : ∀ e ∈ H, ∃ c, e.call = some c ∧ sameC e c := by
  intro e he
  cases hc : e.call with
  | some c => exact ⟨c, rfl, h.closed e he c hc⟩
  | none =>
    exfalso
    have hO := h.opens e.ev.who
    rw [open_none (by unfold tolV; rw [if_pos (n _)])] at hO
    have : e ∈ H.filter (opnB e.ev.who) := List.mem_filter.2 ⟨he, by simp [opnB, hc]⟩
    rw [hO] at this
    simp at this
end
end Go.Proofs.YtdmnjoidfjidbaaGreat
/- Plays of a stack at which offers are made: each access does what a stack does, or nothing. -/
namespace Go.Proofs.YtdmnjoidfjidbaaGreat
set_option maxRecDepth 100000

section
variable {top lo hi : Int} {N : Nat} {W W' : Ws} {op : OpT} {k : Ek} {s : PsT}
theorem tol_clr (h : isC k ∧ eK op k) : tolP W (clrQ (elmM top) k s).pc = tolK W k := by
  unfold clrQ
  split
  · rfl
  · split
    · rfl
    · split
      · rfl
      · cases k with
        | fi o =>
          show (if o.err = 8 then none else _) = _
          rw [if_neg (by have := h.2.2; omega)]; rfl
        | _ => rfl
theorem tol_norm {pc : Pc Ek} (h : eP op pc) : tolP W (norm (elmM top) pc s).pc = tolP W pc := by
  cases pc with
  | clr k => exact tol_clr h
  | _ => rfl
theorem tol_retired (h : isR k ∧ eK op k) : tolP W ((elmM top).retired k) = tolK W k := by
  cases k with
  | rr o =>
    show (if o.err = 8 then none else _) = _
    rw [if_neg (by have := h.2.2; omega)]; rfl
  | _ => rfl
theorem tol_sift {held : List Int} (h : isR k ∧ eK op k) : ∀ (gs stay : List (Int × Int)), tolP W (siftQ (elmM top) k held s gs stay).pc = tolK W k
  | [], _ => by
    show tolP W (norm (elmM top) _ _).pc = _
    rw [tol_norm (eP_retired (top := top) h), tol_retired h]
  | _ :: _, _ => rfl
theorem tol_scan {held : List Int} (h : isR k ∧ eK op k) : ∀ cs : List Ad, tolP W (scanQ (elmM top) k held s cs).pc = tolK W k
  | [] => tol_sift h _ _
  | _ :: _ => rfl
theorem tol_part (h : isT k ∨ isG k ∨ isC k ∨ isV k ∨ isR k) : tolK W' k = tolK W k := by
  cases k <;> first
    | rfl
    | (exfalso; rcases h with h | h | h | h | h <;> exact h)
theorem tol_same {pc : Pc Ek} (he : eP op pc) (h1 : ∀ c v n x, ofPc pc = some (c, v, n, x) → W'.ob c = W.ob c) (h2 : ∀ n ∈ deadP (elmZ top lo hi N) pc, W'.nd n 1 = W.nd n 1) : tolP W' pc = tolP W pc := by
  cases pc with
  | at_ k =>
    cases k with
    | m1 c v n w a => simp only [tolP, tolK]; rw [h1 c v n w rfl]
    | m2 c v n w a => simp only [tolP, tolK]; rw [h1 c v n w rfl]
    | m3 c v n w a => simp only [tolP, tolK]; rw [h1 c v n w rfl]
    | ov n a => simp only [tolP, tolK]; rw [h2 n (by simp [deadP, elmZ])]
    | _ => rfl
  | fin o => rfl
  | g2 k i c v a => rfl
  | _ => first | exact tol_part (.inl he.1) | exact tol_part (.inr (.inl he.1)) | exact tol_part (.inr (.inr (.inl he.1))) | exact tol_part (.inr (.inr (.inr (.inl he.1)))) | exact tol_part (.inr (.inr (.inr (.inr he.1))))
end
end Go.Proofs.YtdmnjoidfjidbaaGreat
/- Plays of a stack at which offers are made: what an access does to what was done. -/
namespace Go.Proofs.YtdmnjoidfjidbaaGreat
set_option maxRecDepth 100000

section
variable {top lo hi : Int} {l : LayT} {S N K : Nat} {V : Vw} {qs : List (Q Ek)} {F X : List Int} {g : ElmG}
theorem of_clr {op : OpT} {k : Ek} {s : PsT} (h : isC k ∧ eK op k) : ofPc (clrQ (elmM top) k s).pc = none := by
  unfold clrQ
  split
  · rfl
  · split
    · rfl
    · split
      · rfl
      · cases k <;> first | exact absurd h.1 id | rfl
theorem of_norm {op : OpT} {pc : Pc Ek} {s : PsT} (h : eP op pc) : ofPc (norm (elmM top) pc s).pc = ofPc pc := by
  cases pc with
  | clr k => exact of_clr h
  | _ => rfl
structure SvOk (qs : List (Q Ek)) (sv : Nat → Vi) (j : Nat) : Prop where
  q : ∃ x, qs[j]? = some x ∧ (sv j).pc = x.pc
  e : eP (sv j).op (sv j).pc
  st : (ofPc (sv j).pc).isSome → (sv j).steps ≠ []
structure OffAt (lo hi : Int) (W : Ws) (g : ElmG) (v0 : Vi) (x : Q Ek) (Z : Sp Ek ElmG) (c v n w : Int) : Prop where
  sc : SC lo hi c
  vo : VOk v
  off : Off W g c v n w
  own : n ∈ own Z x
  k4 : v0.op.kind = 4
  a : v0.op.a = v
  tol : ∀ W' : Ws, tolP W' v0.pc = if W'.ob c = mineW v w then none else some (0, true)
theorem off_at (hI : Inv (elmZ top lo hi N) l S N K V qs F X g) {sv : Nat → Vi} {j : Nat} (h : SvOk qs sv j) {c v n w : Int} (ho : ofPc (sv j).pc = some (c, v, n, w)) : ∃ x, qs[j]? = some x ∧ (sv j).pc = x.pc ∧ OffAt lo hi V.W g (sv j) x (elmZ top lo hi N) c v n w := by
  obtain ⟨⟨x, hx, hpc⟩, he, hst⟩ := h
  refine ⟨x, hx, hpc, ?_⟩
  have hl := (hI.loc j x hx).pc
  obtain ⟨pc, s⟩ := x
  simp only at hpc
  rw [hpc] at ho he
  cases pc with
  | at_ k =>
    cases k with
    | m1 c' v' n' w' a =>
      cases ho
      have hk := hl.1
      exact ⟨hk.2.1, hk.1, hk.2.2.2, by simp [own, mineP, elmZ], he.2.1, he.2.2, fun W' => by rw [hpc]; rfl⟩
    | m2 c' v' n' w' a =>
      cases ho
      have hk := hl.1
      exact ⟨hk.2.1, hk.1, hk.2.2.2, by simp [own, mineP, elmZ], he.2.1, he.2.2, fun W' => by rw [hpc]; rfl⟩
    | m3 c' v' n' w' a =>
      cases ho
      have hk := hl.1
      exact ⟨hk.2.1, hk.1, hk.2.2.2, by simp [own, mineP, elmZ], he.2.1, he.2.2, fun W' => by rw [hpc]; rfl⟩
    | _ => cases ho
  | _ => cases ho
theorem off_one (hI : Inv (elmZ top lo hi N) l S N K V qs F X g) {i j : Nat} {x y : Q Ek} (hx : qs[i]? = some x) (hy : qs[j]? = some y) {n m : Int} (hn : n ∈ own (elmZ top lo hi N) x) (hm : m ∈ own (elmZ top lo hi N) y) (e : n = m) : i = j := by
  by_cases h : i = j
  · exact h
  · exact absurd (e ▸ hn) ((hI.ownNot hy hm).2.2.2 i x h hx)
section
variable (hI : Inv (elmZ top lo hi N) l S N K V qs F X g) {sv : Nat → Vi} (hsv : ∀ j, (sv j).op.kind ≠ 0 → SvOk qs sv j) {w : Nat} {W' : Ws}
include hI hsv
theorem oth_tol (hnd : ∀ (j : Nat) (x : Q Ek) (n : Int), j ≠ w → qs[j]? = some x → n ∈ own (elmZ top lo hi N) x → W'.nd n 1 = V.W.nd n 1) {j : Nat} (hj : j ≠ w) (hob : ∀ c v n x, (sv j).op.kind ≠ 0 → ofPc (sv j).pc = some (c, v, n, x) → W'.ob c = V.W.ob c) : tolV W' (sv j) = tolV V.W (sv j) := by
  have _ := hI
  unfold tolV
  by_cases h0 : (sv j).op.kind = 0
  · rw [if_pos h0, if_pos h0]
  · rw [if_neg h0, if_neg h0]
    obtain ⟨⟨x, hx, hpc⟩, he, _⟩ := hsv j h0
    refine tol_same (top := top) (lo := lo) (hi := hi) (N := N) he (fun c v n x ho => hob c v n x h0 ho) (fun n hn => hnd j x n hj hx ?_)
    rw [hpc] at hn
    unfold own deadQ
    rw [List.mem_append, List.mem_append]
    exact .inr (.inl hn)
theorem slots_go {step : Int} {calls : List CallT} {H : List EnT} (hH : HI lo hi sv step calls V.W X H) (hw0 : (sv w).op.kind ≠ 0) {pc' : Pc Ek} (hs : ∀ c, SC lo hi c → offK (W'.ob c) = 1 → W'.ob c = V.W.ob c) (hm : ∀ c v n x, ofPc (sv w).pc = some (c, v, n, x) → V.W.ob c = mineW v x → W'.ob c = V.W.ob c → ofPc pc' = some (c, v, n, x)) :
    ∀ c, SC lo hi c → offK (W'.ob c) = 1 → ∃ j v n x, (upS sv w ⟨(sv w).op, (sv w).steps ++ [step], pc'⟩ j).op.kind ≠ 0 ∧ ofPc (upS sv w ⟨(sv w).op, (sv w).steps ++ [step], pc'⟩ j).pc = some (c, v, n, x) ∧ W'.ob c = mineW v x := by
  have _ := hI
  have _ := hsv
  intro c hc hk
  have he := hs c hc hk
  rw [he] at hk
  obtain ⟨j, v, n, x, h1, h2, h3⟩ := hH.slots c hc hk
  by_cases hj : j = w
  · subst hj
    exact ⟨j, v, n, x, by rw [upS_here]; exact hw0, by rw [upS_here]; exact hm c v n x h2 h3 he, by rw [he]; exact h3⟩
  · exact ⟨j, v, n, x, by rw [upS_there hj]; exact h1, by rw [upS_there hj]; exact h2, by rw [he]; exact h3⟩
end
theorem lin_part (hI : Inv (elmZ top lo hi N) l S N K V qs F X g) {w : Nat} {q : Q Ek} (hq : qs[w]? = some q) {sv : Nat → Vi} {step : Int} {calls : List CallT} {H : List EnT} (hH : HI lo hi sv step calls V.W X H) (hsv : ∀ j, (sv j).op.kind ≠ 0 → SvOk qs sv j) (hw : (sv w).op.kind ≠ 0) {pc' : Pc Ek} (hof : ofPc (sv w).pc = none) :
    (tolP V.W pc' = tolP V.W (sv w).pc → ∃ H', HI lo hi (upS sv w ⟨(sv w).op, (sv w).steps ++ [step], pc'⟩) (step + 1) calls V.W X H') ∧
    ((sv w).op.kind = 5 → tolP V.W (sv w).pc = none → X = [] → tolP V.W pc' = some (0, false) → ∃ H', HI lo hi (upS sv w ⟨(sv w).op, (sv w).steps ++ [step], pc'⟩) (step + 1) calls V.W X H') ∧
    ((sv w).op.kind = 5 → tolP V.W (sv w).pc = some (0, false) → tolP V.W pc' = none → ∃ H', HI lo hi (upS sv w ⟨(sv w).op, (sv w).steps ++ [step], pc'⟩) (step + 1) calls V.W X H') := by
  have hs := slots_go hI hsv hH hw (step := step) (W' := V.W) (pc' := pc') (fun c _ _ => rfl) (fun c v n x h => by rw [hof] at h; cases h)
  refine ⟨fun h => ⟨_, hH.still hw rfl h (fun j _ => rfl) hs⟩, fun h5 h0 hX h1 => ⟨_, hH.does hw h0 (a := 0) (b := false) ?_ h1 (fun j _ => rfl) hs⟩, fun h5 h0 h1 => ⟨_, hH.drop h5 h0 rfl h1 (fun j _ => rfl) hs⟩⟩
  rw [hX]
  simp only [stkDo, h5]
  rw [if_neg (by omega)]
  rfl
end
end Go.Proofs.YtdmnjoidfjidbaaGreat
/- Plays of a stack at which offers are made: what an access of a push or a pop does to what was done. -/
namespace Go.Proofs.YtdmnjoidfjidbaaGreat
set_option maxRecDepth 100000

section
variable {top lo hi : Int} {l : LayT} {S N K : Nat} {V : Vw} {qs : List (Q Ek)} {F X : List Int} {g : ElmG}
theorem map_same {W W' : Ws} {X : List Int} (h : ∀ n ∈ X, W'.nd n 1 = W.nd n 1) : X.map (fun n => W'.nd n 1) = X.map (fun n => W.nd n 1) := List.map_congr_left h
theorem lin_at (hLy : ElmLay l S top lo hi) (hN : N ≤ 100) (hI : Inv (elmZ top lo hi N) l S N K V qs F X g) {w : Nat} {k : Ek} {s : PsT} (hq : qs[w]? = some ⟨.at_ k, s⟩) {sv : Nat → Vi} {step : Int} {calls : List CallT} {H : List EnT} (hH : HI lo hi sv step calls V.W X H) (hsv : ∀ j, (sv j).op.kind ≠ 0 → SvOk qs sv j) (hw : (sv w).op.kind ≠ 0)
    {m : Nat} {pc' : Pc Ek} {W' : Ws} {X' : List Int} (hW : W' = (actW V.W (elmAsk top k)).1) (hX : X' = (elmNx top V.W X g k).1) (hT : ∀ W, tolP W pc' = tolP W (elmTell top k m (actW V.W (elmAsk top k)).2)) (hO : ofPc pc' = ofPc (elmTell top k m (actW V.W (elmAsk top k)).2)) :
    ∃ H', HI lo hi (upS sv w ⟨(sv w).op, (sv w).steps ++ [step], pc'⟩) (step + 1) calls W' X' H' := by
  have htl := hLy.t2
  obtain ⟨⟨x0, hx0, hpc⟩, he, hst⟩ := hsv w hw
  rw [hq] at hx0
  cases hx0
  simp only at hpc
  rw [hpc] at he
  have he : eK (sv w).op k := he.2
  have hloc := (hI.loc w _ hq).pc
  have hk : elmKL top lo hi N V.W g (Pr (elmZ top lo hi N) V X qs w s) k := hloc.1
  have hSI : ElmSI top lo hi N K V.W X g := hI.si
  have hother : ∀ (j : Nat) (x : Q Ek) (n n0 : Int), n0 ∈ own (elmZ top lo hi N) ⟨.at_ k, s⟩ → j ≠ w → qs[j]? = some x → n ∈ own (elmZ top lo hi N) x → n ≠ n0 := fun j x n n0 h0 hj hx hn e => hj (off_one hI hx hq hn h0 e)
  -- nothing is stored
  have still0 : W' = V.W → X' = X → tolP V.W pc' = tolP V.W (.at_ k) → (∀ c v n x, ofPc (.at_ k) = some (c, v, n, x) → V.W.ob c = mineW v x → ofPc pc' = some (c, v, n, x)) → ∃ H', HI lo hi (upS sv w ⟨(sv w).op, (sv w).steps ++ [step], pc'⟩) (step + 1) calls W' X' H' := by
    intro hW hX ht hm
    subst hW; subst hX
    exact ⟨_, hH.still hw rfl (by rw [hpc]; exact ht) (fun j _ => rfl) (slots_go hI hsv hH hw (fun c _ _ => rfl) (fun c v n x h1 h2 _ => hm c v n x (by rw [← hpc]; exact h1) h2))⟩
  -- a node of the program's own is written
  have write0 : ∀ (n i v : Int), n ∈ own (elmZ top lo hi N) ⟨.at_ k, s⟩ → W' = V.W.setNd n i v → X' = X → tolP W' pc' = tolP V.W (.at_ k) → ofPc (.at_ k) = none → ∃ H', HI lo hi (upS sv w ⟨(sv w).op, (sv w).steps ++ [step], pc'⟩) (step + 1) calls W' X' H' := by
    intro n i v hn hW hX ht hm
    subst hX
    have hnd : ∀ x j, x ≠ n → W'.nd x j = V.W.nd x j := fun x j hx => by rw [hW, nd_set, if_neg (fun hh : x = n ∧ _ => hx hh.1)]
    have hnX := (hI.ownNot hq hn).2.1
    exact ⟨_, hH.still hw (map_same fun x hx => hnd x 1 fun e => hnX (e ▸ hx)) (by rw [hpc]; exact ht) (fun j hj => oth_tol hI hsv (fun j x n' hj hx hn' => hnd n' 1 (hother j x n' n hn hj hx hn')) hj (fun c v n x _ _ => by rw [hW]; rfl)) (slots_go hI hsv hH hw (fun c _ _ => by rw [hW]; rfl) (fun c v n x h1 _ _ => by rw [hpc, hm] at h1; cases h1))⟩
  -- the top turns
  have topS : ∀ x : Int, W' = V.W.setOb top x → (∀ (j : Nat), j ≠ w → tolV W' (sv j) = tolV V.W (sv j)) ∧ (ofPc (.at_ k) = none → ∀ c, SC lo hi c → offK (W'.ob c) = 1 → ∃ j v n x, (upS sv w ⟨(sv w).op, (sv w).steps ++ [step], pc'⟩ j).op.kind ≠ 0 ∧ ofPc (upS sv w ⟨(sv w).op, (sv w).steps ++ [step], pc'⟩ j).pc = some (c, v, n, x) ∧ W'.ob c = mineW v x) := by
    intro x hW
    have hob : ∀ c, SC lo hi c → W'.ob c = V.W.ob c := fun c hc => by rw [hW, ob_set, if_neg (by have := hc.1; omega)]
    refine ⟨fun j hj => oth_tol hI hsv (fun j x n _ _ _ => by rw [hW]; rfl) hj (fun c v n x h1 h2 => ?_), fun hm => slots_go hI hsv hH hw (fun c hc _ => hob c hc) (fun c v n x h1 _ _ => by rw [hpc, hm] at h1; cases h1)⟩
    obtain ⟨_, _, _, ho⟩ := off_at hI (hsv j h1) h2
    exact hob c ho.sc
  -- a slot turns, at which nobody else has an offer, but those that are named
  have slotS : ∀ (c x : Int), W' = V.W.setOb c x → (∀ j v n y, j ≠ w → (sv j).op.kind ≠ 0 → ofPc (sv j).pc ≠ some (c, v, n, y)) → ∀ (j : Nat), j ≠ w → tolV W' (sv j) = tolV V.W (sv j) := by
    intro c x hW hno j hj
    refine oth_tol hI hsv (fun j x n _ _ _ => by rw [hW]; rfl) hj (fun d v n y h1 h2 => ?_)
    rw [hW, ob_set, if_neg (show ¬ d = c from fun e => hno j v n y hj h1 (by rw [← e]; exact h2))]
  -- an offer of another seat is of another node
  have noOther : ∀ (c n0 : Int), g.ow c = n0 → n0 ∈ own (elmZ top lo hi N) ⟨.at_ k, s⟩ → ∀ j v n y, j ≠ w → (sv j).op.kind ≠ 0 → ofPc (sv j).pc ≠ some (c, v, n, y) := by
    intro c n0 ho hn0 j v n y hj h1 h2
    obtain ⟨x, hx, _, hof⟩ := off_at hI (hsv j h1) h2
    exact hother j x n n0 hn0 hj hx hof.own (hof.off.ow.symm.trans ho)
  cases k with
  | tk c v => exact still0 hW hX (hT _) (fun _ _ _ _ h => by cases h)
  | gv a => exact still0 hW hX (hT _) (fun _ _ _ _ h => by cases h)
  | og c => exact still0 hW hX (hT _) (fun _ _ _ _ h => by cases h)
  | fi o => exact still0 hW hX (hT _) (fun _ _ _ _ h => by cases h)
  | rx n o => exact still0 hW hX (hT _) (fun _ _ _ _ h => by cases h)
  | rr o => exact still0 hW hX (hT _) (fun _ _ _ _ h => by cases h)
  | p1 c v n => exact write0 n 1 v (by simp [own, mineP, elmZ]) hW hX (hT _) rfl
  | pl c v n => exact still0 hW hX (hT _) (fun _ _ _ _ h => by cases h)
  | ps c v n x => exact write0 n 0 _ (by simp [own, mineP, elmZ]) hW hX (hT _) rfl
  | pc c v n x =>
    obtain ⟨h1, h2, h3, h4, h5⟩ := hk
    by_cases hc : V.W.ob top = x
    · have e1 : actW V.W (elmAsk top (.pc c v n x)) = (V.W.setOb top (packW (turnW (ofW x) n)), ⟨x, true⟩) := by simp only [elmAsk, actW, Ws.get, hc, if_true]; rfl
      have e2 : elmNx top V.W X g (.pc c v n x) = (n :: X, { g with ret := g.ret + 1 }) := by simp only [elmNx, hc, if_true]
      rw [e1] at hW hT hO
      rw [e2] at hX
      obtain ⟨t1, t2⟩ := topS _ hW
      subst hX
      refine ⟨_, hH.does hw (by rw [hpc]; rfl) (a := 0) (b := true) ?_ (hT _) t1 (t2 rfl)⟩
      simp only [stkDo, he.1, he.2, if_true, List.map_cons, hW]
      rw [show (V.W.setOb top (packW (turnW (ofW x) n))).nd n 1 = V.W.nd n 1 from rfl, h3]
      rfl
    · have e1 : actW V.W (elmAsk top (.pc c v n x)) = (V.W, ⟨V.W.ob top, false⟩) := by simp only [elmAsk, actW, Ws.get, hc, if_false]
      have e2 : elmNx top V.W X g (.pc c v n x) = (X, g) := by simp only [elmNx, hc, if_false]
      rw [e1] at hW hT hO
      rw [e2] at hX
      exact still0 hW hX (hT _) (fun _ _ _ _ h => by cases h)
  | ql c v n =>
    refine still0 hW hX ((hT _).trans ?_) (fun _ _ _ _ h => by cases h)
    show tolP V.W (if offK (V.W.ob c) = 0 then _ else _) = _
    split <;> rfl
  | qc c v n x =>
    obtain ⟨h1, h2, h3, h4, h5⟩ := hk
    by_cases hc : V.W.ob c = x
    · have e1 : actW V.W (elmAsk top (.qc c v n x)) = (V.W.setOb c (mineW v x), ⟨x, true⟩) := by simp only [elmAsk, actW, Ws.get, hc, if_true]; rfl
      have e2 : elmNx top V.W X g (.qc c v n x) = (X, g.put c n) := by simp only [elmNx, hc, if_true]
      rw [e1] at hW hT hO
      rw [e2] at hX
      subst hX
      have hno : ∀ j v' n' y, j ≠ w → (sv j).op.kind ≠ 0 → ofPc (sv j).pc ≠ some (c, v', n', y) := by
        intro j v' n' y _ k1 k2
        obtain ⟨_, _, _, hof⟩ := off_at hI (hsv j k1) k2
        rcases hof.off.at_ with e | e
        · rw [hc] at e; rw [e, kind_mine] at h5; omega
        · rw [hc] at e; rw [e, kind_taken] at h5; omega
      have hWc : W'.ob c = mineW v x := by rw [hW, ob_set, if_pos rfl]
      refine ⟨_, hH.still hw (by rw [hW]; rfl) ?_ (slotS c _ hW hno) (fun d hd hkd => ?_)⟩
      · rw [hT, hpc]
        show (if W'.ob c = mineW v x then none else _) = none
        rw [if_pos hWc]
      · by_cases e : d = c
        · subst e
          exact ⟨w, v, n, x, by rw [upS_here]; exact hw, by rw [upS_here]; exact hO, hWc⟩
        · have hd2 : W'.ob d = V.W.ob d := by rw [hW, ob_set, if_neg e]
          rw [hd2] at hkd
          obtain ⟨j, v', n', y, k1, k2, k3⟩ := hH.slots d hd hkd
          have hj : j ≠ w := fun e => by subst e; rw [hpc] at k2; cases k2
          exact ⟨j, v', n', y, by rw [upS_there hj]; exact k1, by rw [upS_there hj]; exact k2, by rw [hd2]; exact k3⟩
    · have e1 : actW V.W (elmAsk top (.qc c v n x)) = (V.W, ⟨V.W.ob c, false⟩) := by simp only [elmAsk, actW, Ws.get, hc, if_false]
      have e2 : elmNx top V.W X g (.qc c v n x) = (X, g) := by simp only [elmNx, hc, if_false]
      rw [e1] at hW hT hO
      rw [e2] at hX
      exact still0 hW hX (hT _) (fun _ _ _ _ h => by cases h)
  | m1 c v n x a =>
    have hT1 : ∀ W, tolP W pc' = tolP W (if V.W.ob c = mineW v x then .at_ (.m2 c v n x a) else .at_ (.qs c n x a)) := hT
    have hO1 : ofPc pc' = ofPc (if V.W.ob c = mineW v x then .at_ (.m2 c v n x a) else .at_ (.qs c n x a)) := hO
    by_cases hc : V.W.ob c = mineW v x
    · rw [if_pos hc] at hO1
      refine still0 hW hX ?_ (fun _ _ _ _ h _ => by rw [hO1]; exact h)
      rw [hT1, if_pos hc]; rfl
    · refine still0 hW hX ?_ (fun _ _ _ _ h h2 => by cases h; exact absurd h2 hc)
      rw [hT1, if_neg hc]
      show some (0, true) = if V.W.ob c = mineW v x then none else some (0, true)
      rw [if_neg hc]
  | m2 c v n x a =>
    have hT1 : ∀ W, tolP W pc' = tolP W (if V.W.ob c = mineW v x then .at_ (.m3 c v n x a) else .at_ (.qs c n x a)) := hT
    have hO1 : ofPc pc' = ofPc (if V.W.ob c = mineW v x then .at_ (.m3 c v n x a) else .at_ (.qs c n x a)) := hO
    by_cases hc : V.W.ob c = mineW v x
    · rw [if_pos hc] at hO1
      refine still0 hW hX ?_ (fun _ _ _ _ h _ => by rw [hO1]; exact h)
      rw [hT1, if_pos hc]; rfl
    · refine still0 hW hX ?_ (fun _ _ _ _ h h2 => by cases h; exact absurd h2 hc)
      rw [hT1, if_neg hc]
      show some (0, true) = if V.W.ob c = mineW v x then none else some (0, true)
      rw [if_neg hc]
  | m3 c v n x a =>
    obtain ⟨h1, h2, h3, h4⟩ := hk
    by_cases hc : V.W.ob c = mineW v x
    · have e1 : actW V.W (elmAsk top (.m3 c v n x a)) = (V.W.setOb c (noW x), ⟨mineW v x, true⟩) := by simp only [elmAsk, actW, Ws.get, hc, if_true]; rfl
      have e2 : elmNx top V.W X g (.m3 c v n x a) = (X, g.put c 0) := by simp only [elmNx, hc, if_true]
      rw [e1] at hW hT hO
      rw [e2] at hX
      subst hX
      refine ⟨_, hH.still hw (by rw [hW]; rfl) ?_ (slotS c _ hW (noOther c n h4.ow (by simp [own, mineP, elmZ]))) (slots_go hI hsv hH hw (fun d hd hkd => ?_) (fun d v' n' y k1 k2 k3 => ?_))⟩
      · rw [hT, hpc]
        show none = if V.W.ob c = mineW v x then none else _
        rw [if_pos hc]
      · by_cases e : d = c
        · rw [hW, ob_set, if_pos e, kind_no] at hkd; omega
        · rw [hW, ob_set, if_neg e]
      · rw [hpc] at k1
        cases k1
        rw [hW, ob_set, if_pos rfl, hc] at k3
        have := congrArg offK k3
        rw [kind_no, kind_mine] at this
        omega
    · have e1 : actW V.W (elmAsk top (.m3 c v n x a)) = (V.W, ⟨V.W.ob c, false⟩) := by simp only [elmAsk, actW, Ws.get, hc, if_false]
      have e2 : elmNx top V.W X g (.m3 c v n x a) = (X, g) := by simp only [elmNx, hc, if_false]
      rw [e1] at hW hT hO
      rw [e2] at hX
      refine still0 hW hX ?_ (fun _ _ _ _ h h2 => by cases h; exact absurd h2 hc)
      rw [hT]
      show some (0, true) = if V.W.ob c = mineW v x then none else some (0, true)
      rw [if_neg hc]
  | qs c n x a =>
    obtain ⟨h2, v, h1, h4, h5⟩ := hk
    have hW : W' = V.W.setOb c (noW x) := hW
    have hX : X' = X := hX
    subst hX
    refine ⟨_, hH.still hw (by rw [hW]; rfl) (by rw [hT, hpc]; rfl) (slotS c _ hW (noOther c n h4.ow (by simp [own, mineP, elmZ]))) (slots_go hI hsv hH hw (fun d hd hkd => ?_) (fun d v' n' y k1 _ _ => by rw [hpc] at k1; cases k1))⟩
    by_cases e : d = c
    · rw [hW, ob_set, if_pos e, kind_no] at hkd; omega
    · rw [hW, ob_set, if_neg e]
  | ol c x => exact still0 hW hX (hT _) (fun _ _ _ _ h => by cases h)
  | oc c x b =>
    obtain ⟨h2, h3, h4⟩ := hk
    by_cases hc : V.W.ob top = x
    · have e1 : actW V.W (elmAsk top (.oc c x b)) = (V.W.setOb top (packW (turnW (ofW x) b)), ⟨x, true⟩) := by simp only [elmAsk, actW, Ws.get, hc, if_true]; rfl
      have e2 : elmNx top V.W X g (.oc c x b) = (X.tail, { g with ret := g.ret + 1 }) := by simp only [elmNx, hc, if_true]
      rw [e1] at hW hT hO
      rw [e2] at hX
      obtain ⟨t1, t2⟩ := topS _ hW
      have hi := hSI.idx hN
      rw [hc] at hi
      have h1 := h3.2.1
      obtain ⟨X2, hX2⟩ := head_cons (L := X) (by omega)
      rw [← hi] at hX2
      subst hX
      refine ⟨_, hH.does hw (by rw [hpc]; rfl) (a := V.W.nd (ofW x).idx 1) (b := true) ?_ (by rw [hT, hW]; rfl) t1 (t2 rfl)⟩
      have he5 : (sv w).op.kind = 5 := he
      have hmap : X.map (fun n => V.W.nd n 1) = V.W.nd (ofW x).idx 1 :: X.tail.map (fun n => W'.nd n 1) := by
        rw [hW]
        have ht : X.tail = X2 := by rw [hX2]; rfl
        rw [ht]
        generalize (ofW x).idx = y at hX2
        rw [hX2]; rfl
      rw [hmap]
      simp only [stkDo, he5]
      rw [if_neg (by omega)]
    · have e1 : actW V.W (elmAsk top (.oc c x b)) = (V.W, ⟨V.W.ob top, false⟩) := by simp only [elmAsk, actW, Ws.get, hc, if_false]
      have e2 : elmNx top V.W X g (.oc c x b) = (X, g) := by simp only [elmNx, hc, if_false]
      rw [e1] at hW hT hO
      rw [e2] at hX
      exact still0 hW hX (hT _) (fun _ _ _ _ h => by cases h)
  | ov n a => exact still0 hW hX (hT _) (fun _ _ _ _ h => by cases h)
  | os c =>
    refine still0 hW hX ((hT _).trans ?_) (fun _ _ _ _ h => by cases h)
    show tolP V.W (if offK (V.W.ob c) = 1 then _ else _) = _
    split <;> rfl
  | ot c x =>
    obtain ⟨h2, h3, h4⟩ := hk
    by_cases hc : V.W.ob c = x
    · have e1 : actW V.W (elmAsk top (.ot c x)) = (V.W.setOb c (takeW x), ⟨x, true⟩) := by simp only [elmAsk, actW, Ws.get, hc, if_true]; rfl
      have hX : X' = X := hX
      rw [e1] at hW hT hO
      subst hX
      obtain ⟨i, v, n, y, k1, k2, k3⟩ := hH.slots c h2 (by rw [hc]; exact h4)
      have hiw : i ≠ w := fun e => by subst e; rw [hpc] at k2; cases k2
      obtain ⟨xi, hxi, hpi, hof⟩ := off_at hI (hsv i k1) k2
      have htk : offK (takeW x) = 2 := offK_W (by omega)
      have hWc : W'.ob c = takeW x := by rw [hW, ob_set, if_pos rfl]
      have hv : offV x = v := by rw [← hc, k3]; exact mine_val hof.vo
      have he5 : (sv w).op.kind = 5 := he
      refine ⟨_, hH.meets hiw (v := v) he5 hof.k4 hof.a (by rw [hpc]; rfl) (by rw [hof.tol, if_pos k3]) ?_ (by rw [k2]; rfl) ((hsv i k1).st (by rw [k2]; rfl)) (by rw [hW]; rfl) (by rw [hT]; show some (offV x, true) = _; rw [hv]) (fun j hj hji => ?_) (slots_go hI hsv hH hw (fun d hd hkd => ?_) (fun d v' n' y k1 _ _ => by rw [hpc] at k1; cases k1))⟩
      · rw [hof.tol, if_neg (fun e => by
          rw [hWc] at e
          have := congrArg offK e
          rw [htk, kind_mine] at this
          omega)]
      · refine oth_tol hI hsv (fun j x n _ _ _ => by rw [hW]; rfl) hj (fun d v' n' y' h1 h2' => ?_)
        rw [hW, ob_set, if_neg (fun e => by
          subst e
          obtain ⟨xj, hxj, _, hoj⟩ := off_at hI (hsv j h1) h2'
          exact hji (off_one hI hxj hxi hoj.own hof.own (hoj.off.ow.symm.trans hof.off.ow)))]
      · by_cases e : d = c
        · rw [hW, ob_set, if_pos e, htk] at hkd; omega
        · rw [hW, ob_set, if_neg e]
    · have e1 : actW V.W (elmAsk top (.ot c x)) = (V.W, ⟨V.W.ob c, false⟩) := by simp only [elmAsk, actW, Ws.get, hc, if_false]
      have hX : X' = X := hX
      rw [e1] at hW hT hO
      exact still0 hW hX (hT _) (fun _ _ _ _ h => by cases h)
end
end Go.Proofs.YtdmnjoidfjidbaaGreat
/- Plays of a stack at which offers are made: all that is told is what a stack tells, in an order that keeps to the steps. -/
namespace Go.Proofs.YtdmnjoidfjidbaaGreat
set_option maxRecDepth 100000

section
variable {top lo hi : Int} {l : LayT} {S N K : Nat} {V : Vw} {qs : List (Q Ek)} {F X : List Int} {g : ElmG}
theorem lin_act (hLy : ElmLay l S top lo hi) (hN : N ≤ 100) (hs : Sound (elmM top) (elmZ top lo hi N) l S N) (hI : Inv (elmZ top lo hi N) l S N K V qs F X g) {w : Nat} {q : Q Ek} (hq : qs[w]? = some q) (hf : q.pc.asking) {sv : Nat → Vi} {step : Int} {calls : List CallT} {H : List EnT} (hH : HI lo hi sv step calls V.W X H) (hsv : ∀ j, (sv j).op.kind ≠ 0 → SvOk qs sv j) (hw : (sv w).op.kind ≠ 0) :
    ∃ H', HI lo hi (upS sv w ⟨(sv w).op, (sv w).steps ++ [step], (tell (elmM top) S q (act V (asks (elmM top) w q.pc)).2).pc⟩) (step + 1) calls (act V (asks (elmM top) w q.pc)).1.W (nxX (elmZ top lo hi N) V.W X g q.pc).1 H' := by
  obtain ⟨⟨x0, hx0, hpc⟩, he, hst⟩ := hsv w hw
  rw [hq] at hx0
  cases hx0
  have hloc := (hI.loc w _ hq).pc
  have hask := ask_ok hs hI hq hf
  obtain ⟨pc, s⟩ := q
  simp only at hpc hf hask ⊢
  rw [hpc] at he
  have hSI : ElmSI top lo hi N K V.W X g := hI.si
  have P := fun (pc' : Pc Ek) (ho : ofPc pc = none) => lin_part hI hq hH hsv hw (pc' := pc') (by rw [hpc]; exact ho)
  have Q1 : ∀ pc', ofPc pc = none → tolP V.W pc' = tolP V.W pc → ∃ H', HI lo hi (upS sv w ⟨(sv w).op, (sv w).steps ++ [step], pc'⟩) (step + 1) calls V.W X H' := fun pc' ho ht => (P pc' ho).1 (by rw [hpc]; exact ht)
  cases pc with
  | at_ k =>
    have hstr : (elmAsk top k).str l S N := by
      have hnb : ∀ i n, Pr (elmZ top lo hi N) V X qs w s i n → 1 ≤ n ∧ n ≤ (N : Int) := fun i n h => (pr_in h).elim (fun h => hI.inX h) fun h => (hI.dq h).1
      exact hs.ask hI.si hloc.1 hnb (fun n h => h.elim (fun h => hI.inX h) fun h => h.elim (fun h => hI.inOwn hq (by unfold own; rw [List.mem_append]; exact .inl h)) fun h => hI.inOwn hq (by unfold own deadQ; rw [List.mem_append, List.mem_append]; exact .inr (.inl h)))
    have ha : act V (asks (elmM top) w (.at_ k)) = ({ V with W := (actW V.W (elmAsk top k)).1 }, (actW V.W (elmAsk top k)).2) := act_str hstr
    rw [ha]
    refine lin_at hLy hN hI hq hH hsv hw (m := s.made) rfl rfl (fun W => ?_) ?_
    · exact tol_norm (top := top) (eP_tellK (top := top) he.1 he.2 _ _)
    · exact of_norm (top := top) (eP_tellK (top := top) he.1 he.2 _ _)
  | t1 k =>
    refine Q1 _ rfl ?_
    show tolP V.W (if (ofW V.fr).idx = 0 then _ else _ : Q Ek).pc = _
    split
    · cases k <;> first | exact absurd he.1 id | rfl
    · rfl
  | t2 k f => exact Q1 _ rfl rfl
  | t3 k f lk =>
    have e2 : (act V (asks (elmM top) w (.t3 k f lk))).1.W = V.W := by simp only [asks, act]; split <;> rfl
    rw [e2]
    refine Q1 _ rfl ?_
    show tolP V.W (if _ then _ else _ : Q Ek).pc = _
    split <;> rfl
  | t4 k n a => exact Q1 _ rfl rfl
  | t5 k n a b =>
    refine Q1 _ rfl ?_
    cases k <;> first | exact absurd he.1 id | rfl
  | g1 k i c =>
    have hg := hloc.2.2.2.2.2
    cases k with
    | og c' =>
      have hg2 : c = .ob top := hg.2
      subst hg2
      show ∃ H', HI lo hi (upS sv w ⟨(sv w).op, (sv w).steps ++ [step], .g2 (.og c') i (.ob top) (V.W.ob top) s.made⟩) (step + 1) calls V.W X H'
      by_cases h0 : (ofW (V.W.ob top)).idx = 0
      · refine (P _ rfl).2.1 he.2 (by rw [hpc]; rfl) ?_ (by show (if (ofW (V.W.ob top)).idx = 0 then _ else _) = _; rw [if_pos h0])
        rw [hSI.idx hN] at h0
        cases X with
        | nil => rfl
        | cons x X => have := hSI.rng x (by simp); simp at h0; omega
      · exact Q1 _ rfl (by show (if (ofW (V.W.ob top)).idx = 0 then _ else _) = _; rw [if_neg h0]; rfl)
    | _ => exact absurd he.1 id
  | g2 k i c v a =>
    cases k with
    | og c' =>
      show ∃ H', HI lo hi (upS sv w ⟨(sv w).op, (sv w).steps ++ [step], (if V.er = s.e i then norm (elmM top) ((elmM top).guarded (.og c') v a) s.up else ⟨.g3 (.og c') i c V.er, s.up⟩ : Q Ek).pc⟩) (step + 1) calls V.W X H'
      by_cases h0 : (ofW v).idx = 0
      · have ht0 : tolP V.W (.g2 (.og c') i c v a) = some (0, false) := by show (if (ofW v).idx = 0 then _ else _) = _; rw [if_pos h0]
        by_cases hr : V.er = s.e i
        · rw [if_pos hr]
          refine Q1 _ rfl ?_
          have hgd : (elmM top).guarded (.og c') v a = .clr (.fi (noO a)) := by show (if (ofW v).idx = 0 then _ else _) = _; rw [if_pos h0]
          rw [hgd, tol_norm (op := (sv w).op) (top := top) (pc := .clr (.fi (noO a))) ⟨trivial, he.2, rfl⟩, ht0]; rfl
        · rw [if_neg hr]
          exact (P _ rfl).2.2 he.2 (by rw [hpc]; exact ht0) rfl
      · have ht0 : tolP V.W (.g2 (.og c') i c v a) = none := by show (if (ofW v).idx = 0 then _ else _) = _; rw [if_neg h0]
        by_cases hr : V.er = s.e i
        · rw [if_pos hr]
          refine Q1 _ rfl ?_
          have hgd : (elmM top).guarded (.og c') v a = .at_ (.ol c' v) := by show (if (ofW v).idx = 0 then _ else _) = _; rw [if_neg h0]
          rw [hgd, ht0]; rfl
        · rw [if_neg hr]
          exact Q1 _ rfl (by rw [ht0]; rfl)
    | _ => exact absurd he.1 id
  | g3 k i c er => exact Q1 _ rfl rfl
  | clr k => exact absurd hf id
  | c k i => exact Q1 _ rfl (tol_clr (top := top) he)
  | v1 k n => exact Q1 _ rfl rfl
  | v2 k n f => exact Q1 _ rfl rfl
  | v3 k n f =>
    have e2 : (act V (asks (elmM top) w (.v3 k n f))).1.W = V.W := by simp only [asks, act]; split <;> rfl
    rw [e2]
    refine Q1 _ rfl ?_
    show tolP V.W (if _ then _ else _ : Q Ek).pc = _
    split
    · cases k <;> first | exact absurd he.1 id | rfl
    · rfl
  | r1 k n => exact Q1 _ rfl rfl
  | r2 k n er =>
    refine Q1 _ rfl ?_
    show tolP V.W (if _ then _ else _ : Q Ek).pc = _
    split
    · exact (tol_norm (top := top) (eP_retired (top := top) he)).trans (tol_retired (top := top) he)
    · exact tol_scan (top := top) he _
  | rs k held c cs =>
    obtain ⟨w', i, h1, h2, h3, h4, rfl⟩ := hloc.2.2.2 c (by simp)
    exact Q1 _ rfl (tol_scan (top := top) he _)
  | s1 k held y gs stay =>
    refine Q1 _ rfl ?_
    show tolP V.W (if _ then _ else _ : Q Ek).pc = _
    split
    · exact tol_sift (top := top) he _ _
    · rfl
  | w1 k held y gs stay => exact Q1 _ rfl rfl
  | w2 k held y gs stay f => exact Q1 _ rfl rfl
  | w3 k held y gs stay f =>
    have e2 : (act V (asks (elmM top) w (.w3 k held y gs stay f))).1.W = V.W := by simp only [asks, act]; split <;> rfl
    rw [e2]
    refine Q1 _ rfl ?_
    show tolP V.W (if _ then _ else _ : Q Ek).pc = _
    split
    · exact tol_sift (top := top) he _ _
    · rfl
  | fin o => exact absurd hf id
end
def viewP (p : PlT) (w : Nat) (x : SeatT) : Vi := ⟨x.op, x.steps, (qAt p w x).pc⟩
def Lin (p : PlT) (t : TabT) (V : Vw) (X : List Int) : Prop := ∃ sv H, (∀ w x, t.seats[w]? = some x → sv w = viewP p w x) ∧ (∀ w, t.seats.length ≤ w → sv w = idleV) ∧ HI (loP p) (hiP p) sv t.step t.calls V.W X H
theorem of_start {p : PlT} {pc : Pc Ek} (h : StartPc p pc) : ofPc pc = none := by
  rcases h with ⟨_, _, _, _, rfl⟩ | ⟨_, _, rfl⟩ | ⟨_, rfl⟩ <;> rfl
theorem of_steps {p : PlT} (hp : PlayG p) {w : Nat} {x : SeatT} (h0 : x.op.kind ≠ 0) (ho : OpOk x.op) (hl : x.steps.length = x.log.length) (h : (ofPc (qAt p w x).pc).isSome) : x.steps ≠ [] := fun e => by
  rw [e] at hl
  have hlog : x.log = [] := List.length_eq_zero_iff.1 hl.symm
  obtain ⟨pc', e1, e2, _⟩ := start_pc hp w ho x.gone
  have : (qAt p w x).pc = pc' := by
    unfold qAt
    rw [if_neg h0, hlog]
    show (startQ (topP p) (slotP p w) x.op x.gone).pc = pc'
    rw [e1]
  rw [this, of_start e2] at h
  cases h
theorem upd_view {p : PlT} {t : List SeatT} {sv : Nat → Vi} {w : Nat} {x y : SeatT} (hx : t[w]? = some x) (h1 : ∀ j z, t[j]? = some z → sv j = viewP p j z) : ∀ j z, (t.set w y)[j]? = some z → upS sv w (viewP p w y) j = viewP p j z := fun j z hz => by
  rcases set_get hx hz with ⟨rfl, rfl⟩ | ⟨hj, h⟩
  · exact upS_here
  · rw [upS_there hj]; exact h1 j z h
theorem lin_step {p : PlT} (hp : PlayG p) {i : Nat} {t t' : TabT} {V V' : Vw} {F F' X X' : List Int} {g g' : ElmG} {who : Nat} (hG : G p i t V F X g) (hL : Lin p t V X) (hR : StepR p who t V F X g t' V' F' X' g') : Lin p t' V' X' := by
  obtain ⟨sv, H, v1, v2, hH⟩ := hL
  cases hR with
  | idle x ws hx hw h0 ha => exact ⟨sv, H, v1, v2, hH⟩
  | done x q o hx h0 hq hpc hl =>
    have hxo := hG.seat who x hx
    have hwl := (List.getElem?_eq_some_iff.1 hx).1
    have hsv := v1 who x hx
    have hpc' : (sv who).pc = .fin o := by rw [hsv]; show (qAt p who x).pc = _; rw [← hq]; exact hpc
    have hop : (sv who).op = x.op := by rw [hsv]; rfl
    have hst : (sv who).steps = x.steps := by rw [hsv]; rfl
    have hk : (sv who).op.kind ≠ 0 := by rw [hop]; exact h0
    generalize hy : ({ x with op := op0, gone := q.s.gone } : SeatT) = y
    have hyk : (viewP p who y).op.kind = 0 := by rw [← hy]; rfl
    have hys : ∀ s ∈ (viewP p who y).steps, s < t.step := by
      intro s hs
      have : (viewP p who y).steps = x.steps := by rw [← hy]; rfl
      rw [this, ← hst] at hs
      exact hH.st who s hs
    have hw2 : ∀ w, (t.seats.set who y).length ≤ w → upS sv who (viewP p who y) w = idleV := fun w hw => by
      rw [List.length_set] at hw
      rw [upS_there (by omega)]; exact v2 w hw
    have herr : o.err = 0 ∨ o.err = 8 := by
      have := hxo.err
      rw [← hq, hpc] at this
      exact this
    have hsl : x.steps ≠ [] := fun e => by
      have := hxo.len
      rw [e] at this
      exact hl (List.length_eq_zero_iff.1 this.symm)
    unfold endT
    simp only
    rw [hy]
    by_cases h8 : o.err = 8
    · rw [if_pos h8]
      exact ⟨_, H, upd_view hx v1, hw2, hH.stops hk (by rw [hpc']; show (if o.err = 8 then none else _) = _; rw [if_pos h8]) (by rw [hpc']; rfl) hyk hys⟩
    · rw [if_neg h8, if_neg (by
        rintro (h | h)
        · exact h (herr.resolve_right h8)
        · exact hsl (List.length_eq_zero_iff.1 h))]
      obtain ⟨H', hH'⟩ := hH.ends hk (a := o.val) (b := o.is) (by rw [hpc']; show (if o.err = 8 then none else _) = _; rw [if_neg h8]) (by rw [hpc']; rfl) (c := ⟨who, x.op, o.val, o.is, x.steps.getD 0 0, x.steps.getD (x.steps.length - 1) 0, if 0 ≤ o.point ∧ o.point < x.steps.length then x.steps.getD o.point.toNat 0 else -1⟩) ⟨hop.symm, rfl, rfl, by
        rw [hst]
        cases hs : x.steps with
        | nil => exact absurd hs hsl
        | cons s ss => rfl, by
        rw [hst, List.getLast?_eq_getElem?]
        have : x.steps.length - 1 < x.steps.length := by have := List.length_pos_iff.2 hsl; omega
        rw [List.getElem?_eq_getElem this]
        show some x.steps[x.steps.length - 1] = some (x.steps.getD (x.steps.length - 1) 0)
        rw [List.getD_eq_getElem?_getD, List.getElem?_eq_getElem this]; rfl⟩ hyk hys
      exact ⟨_, H', upd_view hx v1, hw2, hH'⟩
  | acc x y ws q K hx hw hy ho hq hpc he hcz hl hK hI =>
    have hwl := (List.getElem?_eq_some_iff.1 hx).1
    have hqs := qsOf_get (p := p) hx
    have hyk : y.op.kind ≠ 0 := by rcases ho.1 with h | h <;> omega
    -- the operation has begun
    have hbeg : HI (loP p) (hiP p) (upS sv who (viewP p who y)) t.step t.calls V.W X H := by
      unfold curX at hy
      by_cases h0 : x.op.kind = 0
      · rw [if_pos h0] at hy
        obtain ⟨op, ho2, hoy⟩ := Option.map_eq_some_iff.1 hy
        have hyl : y.log = [] := by rw [← hoy]
        have hys : y.steps = [] := by rw [← hoy]
        refine hH.begins (by rw [v1 who x hx]; exact h0) ?_ hys
        obtain ⟨pc', e1, e2, e3, _⟩ := start_pc hp who ho y.gone
        have : (viewP p who y).pc = pc' := by
          show (qAt p who y).pc = pc'
          unfold qAt
          rw [if_neg hyk, hyl]
          show (startQ (topP p) (slotP p who) y.op y.gone).pc = pc'
          rw [e1]
        rw [this]
        rcases e2 with ⟨_, _, _, _, rfl⟩ | ⟨_, _, rfl⟩ | ⟨_, rfl⟩
        · rfl
        · rfl
        · exact absurd e3 id
      · rw [if_neg h0] at hy
        cases hy
        have : upS sv who (viewP p who x) = sv := by
          funext j
          by_cases hj : j = who
          · subst hj; rw [upS_here, v1 j x hx]
          · rw [upS_there hj]
        rw [this]; exact hH
    generalize hsv1 : upS sv who (viewP p who y) = sv1 at hbeg
    have hs1 : sv1 who = ⟨y.op, y.steps, q.pc⟩ := by rw [← hsv1, upS_here, hq]; rfl
    have hsvo : ∀ j, (sv1 j).op.kind ≠ 0 → SvOk ((qsOf p t.seats).set who q) sv1 j := by
      intro j hj
      by_cases hjw : j = who
      · subst hjw
        refine ⟨⟨q, set_here hqs, by rw [hs1]⟩, by rw [hs1]; exact he, fun h => ?_⟩
        rw [hs1] at h ⊢
        simp only at h ⊢
        rw [hq] at h
        exact of_steps hp hyk ho hl h
      · have hsj : sv1 j = sv j := by rw [← hsv1, upS_there hjw]
        rw [hsj] at hj
        by_cases hjl : j < t.seats.length
        · have hz : t.seats[j]? = some t.seats[j] := List.getElem?_eq_getElem hjl
          generalize t.seats[j] = z at hz
          have hvz := v1 j z hz
          have hzo := hG.seat j z hz
          rw [hvz] at hj
          have hzop := hzo.op.resolve_left hj
          refine ⟨⟨qAt p j z, set_there hjw (qsOf_get hz), by rw [hsj, hvz]; rfl⟩, by rw [hsj, hvz]; exact hzo.err, fun h => ?_⟩
          rw [hsj, hvz] at h ⊢
          exact of_steps hp hj hzop hzo.len h
        · rw [v2 j (by omega)] at hj
          exact absurd rfl hj
    have hk1 : (sv1 who).op.kind ≠ 0 := by rw [hs1]; exact hyk
    obtain ⟨H', hH'⟩ := lin_act (elmLayP hp) (by have := hp.n2; omega) (soundP hp) hI (set_here hqs) hpc hbeg hsvo hk1
    rw [hs1] at hH'
    generalize hz : ({ y with log := y.log ++ [(actP p who V q).2], steps := y.steps ++ [t.step] } : SeatT) = z
    have hvz : viewP p who z = ⟨y.op, y.steps ++ [t.step], (tell (mP p) p.want.length q (actP p who V q).2).pc⟩ := by
      rw [← hz]
      unfold viewP
      congr 1
      rw [hq]
      unfold qAt
      simp only [hyk, if_false]
      rw [runQ_snoc]
    have hup : upS sv1 who ⟨y.op, y.steps ++ [t.step], (tell (mP p) p.want.length q (actP p who V q).2).pc⟩ = upS sv who (viewP p who z) := by
      rw [hvz, ← hsv1]
      funext j
      by_cases hj : j = who
      · subst hj; rw [upS_here, upS_here]
      · rw [upS_there hj, upS_there hj, upS_there hj]
    rw [hup] at hH'
    refine ⟨_, H', upd_view hx v1, fun w hw => ?_, hH'⟩
    rw [List.length_set] at hw
    rw [upS_there (by omega)]; exact v2 w hw
end Go.Proofs.YtdmnjoidfjidbaaGreat
