/- Plays of a stack: what holds at each step. -/
import Derived.Test.YtpecgpmdchejdaaM7
import Derived.Test.YtpecgpmdchejdaaE7
namespace Go.Proofs.Ytpecgpmdchejdaa
set_option maxRecDepth 100000

def idleQ (gone : List (Int × Int)) : Q := ⟨.fin ⟨0, false, 0, 0, []⟩, 0, gone, 0⟩
def op0F (o : OpT) : OpT := { o with obj := 0 }
/-- Where a seat's program is. -/
def qAt (l : LayT) (ws : List OpT) (x : SeatT) : Q := match ws[x.at_]? with
  | some op => runQ l (startQ (op0F op) x.gone) x.log
  | none => idleQ x.gone
def qsOf (l : LayT) (want : List (List OpT)) (seats : List SeatT) : List Q := (seats.zip want).map fun z => qAt l z.2 z.1
theorem qsOf_get {l : LayT} {want : List (List OpT)} {seats : List SeatT} {w : Nat} {x : SeatT} {ws : List OpT} (hx : seats[w]? = some x) (hw : want[w]? = some ws) : (qsOf l want seats)[w]? = some (qAt l ws x) := by
  unfold qsOf
  rw [List.getElem?_map, (List.getElem?_zip_eq_some (z := (x, ws))).2 ⟨hx, hw⟩]; rfl
theorem qsOf_set {l : LayT} {want : List (List OpT)} {seats : List SeatT} {w : Nat} {ws : List OpT} (y : SeatT) (hw : want[w]? = some ws) : qsOf l want (seats.set w y) = (qsOf l want seats).set w (qAt l ws y) := by
  apply List.ext_getElem?
  intro j
  unfold qsOf
  rw [List.getElem?_map, List.getElem?_set, List.length_map, List.length_zip]
  by_cases hj : w = j
  · subst hj
    rw [if_pos rfl]
    have hwl := (List.getElem?_eq_some_iff.1 hw).1
    by_cases hs : w < seats.length
    · rw [if_pos (by omega), (List.getElem?_zip_eq_some (z := (y, ws))).2 ⟨List.getElem?_set_self hs, hw⟩]; rfl
    · rw [if_neg (by omega), List.getElem?_eq_none (by rw [List.length_zip, List.length_set]; omega)]; rfl
  · rw [if_neg hj]
    rw [List.getElem?_map]
    congr 1
    simp only [List.zip, List.getElem?_zipWith]
    rw [List.getElem?_set_ne hj]
/-- Programs, memory, free nodes and the stack's, at a step of a play. -/
structure G (p : PlayT) (i : Nat) (s : PSt) (V : Vw) (F T : List Int) : Prop where
  n : s.seats.length = p.want.length
  view : View (layP p) p.want.length (1 + p.nodes % 8).toNat s.m V
  inv : Inv p.want.length (1 + p.nodes % 8).toNat i V (qsOf (layP p) p.want s.seats) F T
/-- A seat's turn. -/
inductive StepR (p : PlayT) (who : Nat) (s : PSt) (V : Vw) (F T : List Int) : PSt → Vw → List Int → List Int → Prop where
  | idle (x : SeatT) (ws : List OpT) (hx : s.seats[who]? = some x) (hw : p.want[who]? = some ws) (ha : ws.length ≤ x.at_) : StepR p who s V F T s V F T
  | done (x : SeatT) (ws : List OpT) (op : OpT) (q : Q) (o : OutT) (hx : s.seats[who]? = some x) (hw : p.want[who]? = some ws) (ho : ws[x.at_]? = some op) (hq : q = runQ (layP p) (startQ (op0F op) x.gone) x.log) (hpc : q.pc = .fin o) :
      StepR p who s V F T ⟨s.m, s.seats.set who ⟨x.at_ + 1, [], q.gone⟩, s.out ++ [⟨who, x.at_, op0F op, x.gone, acc0, res0, true, { o with gone := q.gone }⟩]⟩ V F T
  | acc (x : SeatT) (ws : List OpT) (op : OpT) (q : Q) (hx : s.seats[who]? = some x) (hw : p.want[who]? = some ws) (ho : ws[x.at_]? = some op) (hq : q = runQ (layP p) (startQ (op0F op) x.gone) x.log) (hpc : ∀ o, q.pc ≠ .fin o) :
      StepR p who s V F T ⟨(turnF s.m (asks (layP p) who (topF (layP p) 0) op.a q.pc)).1, s.seats.set who { x with log := x.log ++ [(actV p.want.length who op.a V q.pc).2] }, s.out ++ [⟨who, x.at_, op0F op, x.gone, asks (layP p) who (topF (layP p) 0) op.a q.pc, (actV p.want.length who op.a V q.pc).2, false, out0⟩]⟩
        (actV p.want.length who op.a V q.pc).1 (nxF V F q.pc) (nxT V T q.pc)
structure PlayG (p : PlayT) : Prop where
  ok : PlayOk p
  k : ∀ ws ∈ p.want, ∀ o ∈ ws, o.kind = 4 ∨ o.kind = 5
theorem Inv.mono {S N K : Nat} {V : Vw} {qs : List Q} {F T : List Int} (h : Inv S N K V qs F T) : Inv S N (K + 1) V qs F T :=
  ⟨h.n, h.fr, ⟨h.frk.1, by have := h.frk.2; omega⟩, h.tp, ⟨h.tpk.1, by have := h.tpk.2; omega⟩, ⟨h.er.1, by have := h.er.2; omega⟩, h.lf, h.lt, h.part, h.bi, h.loc, h.pro⟩
theorem runQ_snoc (l : LayT) (q : Q) (log : List ResT) (r : ResT) : runQ l q (log ++ [r]) = tell l (runQ l q log) r := by simp [runQ, List.foldl_append]
theorem qAt_next (l : LayT) (ws : List OpT) (n : Nat) (gone : List (Int × Int)) : ∃ pc', qAt l ws ⟨n, [], gone⟩ = ⟨pc', 0, gone, 0⟩ ∧ (pc' = .t1 ∨ pc' = .g1 ∨ ∃ o', pc' = .fin o') := by
  unfold qAt
  split
  · rename_i op _
    refine ⟨(startQ (op0F op) gone).pc, rfl, ?_⟩
    unfold startQ
    simp only
    split
    · exact .inl rfl
    · exact .inr (.inl rfl)
  · exact ⟨_, rfl, .inr (.inr ⟨_, rfl⟩)⟩
theorem G.step {p : PlayT} (hp : PlayG p) {i : Nat} {s : PSt} {V : Vw} {F T : List Int} (hG : G p i s V F T) (hi : i ≤ 100000) {who : Nat} (hwho : who < p.want.length) : ∃ s' V' F' T', stepP (layP p) p.want who s = .ok s' ∧ StepR p who s V F T s' V' F' T' ∧ G p (i + 1) s' V' F' T' := by
  have hL := layP_lay p hp.ok.w1
  obtain ⟨x, hx⟩ : ∃ x, s.seats[who]? = some x := ⟨s.seats[who]'(by have := hG.n; omega), List.getElem?_eq_getElem _⟩
  obtain ⟨ws, hws⟩ : ∃ ws, p.want[who]? = some ws := ⟨p.want[who], List.getElem?_eq_getElem hwho⟩
  have hqg := qsOf_get (l := layP p) hx hws
  have hst : stepP (layP p) p.want who s = (match ws[x.at_]? with
    | none => .ok s
    | some op0 =>
      let r := nextF (layP p) who x.gone (op0F op0) x.log
      if r.2.2 then .ok ⟨s.m, s.seats.set who ⟨x.at_ + 1, [], r.2.1.gone⟩, s.out ++ [⟨who, x.at_, op0F op0, x.gone, acc0, res0, true, r.2.1⟩]⟩
      else if faultF s.m.length r.1 = 0 then .ok ⟨(turnF s.m r.1).1, s.seats.set who { x with log := x.log ++ [(turnF s.m r.1).2] }, s.out ++ [⟨who, x.at_, op0F op0, x.gone, r.1, (turnF s.m r.1).2, false, out0⟩]⟩
      else .error s) := by
    unfold stepP
    simp only [hx, hws]
    rfl
  rw [hst]
  cases ho : ws[x.at_]? with
  | none =>
    have ha : ws.length ≤ x.at_ := List.getElem?_eq_none_iff.1 ho
    exact ⟨s, V, F, T, rfl, .idle x ws hx hws ha, ⟨hG.n, hG.view, hG.inv.mono⟩⟩
  | some op =>
    have hk := hp.k ws (List.mem_of_getElem? hws) op (List.mem_of_getElem? ho)
    have htop : ¬ topF (layP p) 0 < 0 := by have := hL.top; omega
    have hrun := next_run (l := layP p) (me := who) (gone := x.gone) (op := op0F op) (log := x.log) htop hk
    have hqa : qAt (layP p) ws x = runQ (layP p) (startQ (op0F op) x.gone) x.log := by unfold qAt; rw [ho]
    rw [hqa] at hqg
    rw [show topF (layP p) (op0F op).obj = topF (layP p) 0 from rfl, show (op0F op).a = op.a from rfl] at hrun
    simp only [hrun]
    generalize hqe : runQ (layP p) (startQ (op0F op) x.gone) x.log = q at hqg
    by_cases hf : ∃ o, q.pc = .fin o
    · obtain ⟨o, hpc⟩ := hf
      have he : endQ (layP p) who (topF (layP p) 0) op.a q = (acc0, { o with gone := q.gone }, true) := by unfold endQ; rw [hpc]
      simp only [he, if_true]
      refine ⟨_, V, F, T, rfl, .done x ws op q o hx hws ho hqe.symm hpc, ⟨by simp [hG.n], hG.view, ?_⟩⟩
      simp only
      rw [qsOf_set _ hws]
      obtain ⟨pc', e1, e2⟩ := qAt_next (layP p) ws (x.at_ + 1) q.gone
      rw [e1]
      obtain ⟨pc, made, gone, e0⟩ := q
      simp only at hpc
      subst hpc
      exact inv_done hG.inv hqg e2
    · have hf' : ∀ o, q.pc ≠ .fin o := fun o h => hf ⟨o, h⟩
      have he : endQ (layP p) who (topF (layP p) 0) op.a q = (asks (layP p) who (topF (layP p) 0) op.a q.pc, out0, false) := by
        unfold endQ
        split
        · rename_i o h; exact absurd h (hf' o)
        · rfl
      have her := hG.inv.er
      have hact := acts hL hG.view (w := who) (v0 := op.a) (by omega) (by omega) ⟨by omega, by omega⟩ (inv_okPc hG.inv hqg hf')
      simp only [he, Bool.false_eq_true, if_false, hact.fault, if_true, hact.res]
      refine ⟨_, _, _, _, rfl, .acc x ws op q hx hws ho hqe.symm hf', ⟨by simp [hG.n], hact.view, ?_⟩⟩
      simp only
      rw [qsOf_set _ hws]
      have e1 : qAt (layP p) ws { x with log := x.log ++ [(actV p.want.length who op.a V q.pc).2] } = tell (layP p) q (actV p.want.length who op.a V q.pc).2 := by
        unfold qAt
        simp only [ho]
        rw [runQ_snoc, hqe]
      rw [e1]
      exact inv_act hL (by omega) hi hG.inv hqg hf' op.a
/-- What goes on from step to step goes on through a play. -/
theorem play_ind {p : PlayT} (hp : PlayG p) (J : Nat → PSt → Vw → List Int → List Int → Prop)
    (hJ : ∀ i s V F T s' V' F' T', i < allF p → G p i s V F T → StepR p (whoF p i) s V F T s' V' F' T' → G p (i + 1) s' V' F' T' → J i s V F T → J (i + 1) s' V' F' T') :
    ∀ (k i : Nat) (s : PSt) (V : Vw) (F T : List Int), i + k ≤ allF p → G p i s V F T → J i s V F T → ∃ s' V' F' T', playL (layP p) p k i s = .ok s' ∧ G p (i + k) s' V' F' T' ∧ J (i + k) s' V' F' T'
  | 0, i, s, V, F, T, _, hG, h => ⟨s, V, F, T, rfl, hG, h⟩
  | k + 1, i, s, V, F, T, hk, hG, h => by
    have hall : allF p ≤ 3200 := by have := hp.ok.w3; have := hp.ok.t; unfold allF; omega
    have hw := whoF_lt hp.ok (show i < allF p by omega)
    obtain ⟨s1, V1, F1, T1, h1, h2, h3⟩ := hG.step hp (by omega) hw
    obtain ⟨s', V', F', T', h4, h5, h6⟩ := play_ind hp J hJ k (i + 1) s1 V1 F1 T1 (by omega) h3 (hJ i s V F T s1 V1 F1 T1 (by omega) hG h2 h3 h)
    refine ⟨s', V', F', T', ?_, by rw [show i + (k + 1) = i + 1 + k by omega]; exact h5, by rw [show i + (k + 1) = i + 1 + k by omega]; exact h6⟩
    rw [playL, if_neg (by omega), h1]
    exact h4
end Go.Proofs.Ytpecgpmdchejdaa
