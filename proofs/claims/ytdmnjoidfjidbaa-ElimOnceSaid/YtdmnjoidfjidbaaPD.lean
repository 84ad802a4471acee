/- Plays of a stack at which offers are made, seat by seat, as machines alone: what a play of known turns comes to. -/
import Derived.Test.YtdmnjoidfjidbaaPC
import Derived.KernelRfl
namespace Go.Proofs.Ytdmnjoidfjidbaa
set_option maxRecDepth 100000

/-- A seat: the operation that it is in, how many it had, where its program is. -/
structure Ss where
  op : OpT
  next : Nat
  q : Q Ek
structure Sm where
  V : Vw
  ss : List Ss
  told : List (OpT × Int × Bool)
def accS (p : PlT) (sm : Sm) (w : Nat) (z : Ss) : Sm := ⟨(act sm.V (asks (mP p) w z.q.pc)).1, sm.ss.set w ⟨z.op, z.next, tell (mP p) p.want.length z.q (act sm.V (asks (mP p) w z.q.pc)).2⟩, sm.told⟩
def stepS (p : PlT) (sm : Sm) (w : Nat) : Sm := match sm.ss[w]?, p.want[w]? with
  | some z, some ws => if z.op.kind = 0 then match ws[z.next]? with
      | none => sm
      | some op => accS p sm w ⟨op, z.next + 1, startQ (topP p) (slotP p w) op z.q.s.gone⟩
    else match z.q.pc with
      | .fin o => ⟨sm.V, sm.ss.set w ⟨op0, z.next, idleQ z.q.s.gone⟩, if o.err = 8 then sm.told else sm.told ++ [(z.op, o.val, o.is)]⟩
      | _ => accS p sm w z
  | _, _ => sm
def stepsS (p : PlT) : Sm → List Nat → Sm
  | sm, [] => sm
  | sm, w :: ws => stepsS p (stepS p sm w) ws
theorem steps_app (p : PlT) : ∀ (a b : List Nat) (sm : Sm), stepsS p sm (a ++ b) = stepsS p (stepsS p sm a) b
  | [], _, _ => rfl
  | w :: a, b, sm => steps_app p a b (stepS p sm w)
def ssP (p : PlT) (w : Nat) (x : SeatT) : Ss := ⟨x.op, x.next, qAt p w x⟩
structure Rel (p : PlT) (t : TabT) (V : Vw) (sm : Sm) : Prop where
  v : sm.V = V
  ss : sm.ss = t.seats.mapIdx (ssP p)
  told : sm.told = t.calls.map fun c => (c.op, c.val, c.is)
theorem ss_get {p : PlT} {seats : List SeatT} {w : Nat} {x : SeatT} (hx : seats[w]? = some x) : (seats.mapIdx (ssP p))[w]? = some (ssP p w x) := by rw [List.getElem?_mapIdx, hx]; rfl
theorem ss_set {p : PlT} {seats : List SeatT} {w : Nat} (y : SeatT) : (seats.set w y).mapIdx (ssP p) = (seats.mapIdx (ssP p)).set w (ssP p w y) := by
  apply List.ext_getElem?
  intro j
  rw [List.getElem?_mapIdx, List.getElem?_set, List.getElem?_set, List.length_mapIdx, List.getElem?_mapIdx]
  by_cases hj : w = j
  · subst hj
    rw [if_pos rfl, if_pos rfl]
    split <;> rfl
  · rw [if_neg hj, if_neg hj]
theorem rel_step {p : PlT} (hp : PlayG p) {i : Nat} {t t' : TabT} {V V' : Vw} {F F' X X' : List Int} {g g' : ElmG} {who : Nat} (hw : who < p.want.length) (hG : G p i t V F X g) {sm : Sm} (h : Rel p t V sm) (hR : StepR p who t V F X g t' V' F' X' g') : Rel p t' V' (stepS p sm who) := by
  have hwant : p.want[who]? = some p.want[who] := List.getElem?_eq_getElem hw
  obtain ⟨h1, h2, h3⟩ := h
  cases hR with
  | idle x ws hx hws h0 ha =>
    have e : stepS p sm who = sm := by
      unfold stepS
      rw [h2, ss_get hx, hws]
      simp only [ssP, h0, if_true]
      rw [List.getElem?_eq_none ha]
    rw [e]; exact ⟨h1, h2, h3⟩
  | done x q o hx h0 hq hpc hl =>
    have hxo := hG.seat who x hx
    have hsl : x.steps ≠ [] := fun e => by
      have := hxo.len
      rw [e] at this
      exact hl (List.length_eq_zero_iff.1 this.symm)
    have herr : o.err = 0 ∨ o.err = 8 := by
      have := hxo.err
      rw [← hq, hpc] at this
      exact this
    have e : stepS p sm who = ⟨sm.V, sm.ss.set who ⟨op0, x.next, idleQ q.s.gone⟩, if o.err = 8 then sm.told else sm.told ++ [(x.op, o.val, o.is)]⟩ := by
      unfold stepS
      rw [h2, ss_get hx, hwant]
      simp only [ssP, h0, if_false]
      rw [← hq, hpc]
    rw [e]
    have hset : (t.seats.set who { x with op := op0, gone := q.s.gone }).mapIdx (ssP p) = sm.ss.set who ⟨op0, x.next, idleQ q.s.gone⟩ := by
      rw [ss_set, h2]
      congr 1
    unfold endT
    simp only
    by_cases h8 : o.err = 8
    · rw [if_pos h8, if_pos h8]
      exact ⟨h1, hset.symm, h3⟩
    · rw [if_neg h8, if_neg h8, if_neg (by
        rintro (h | h)
        · exact h (herr.resolve_right h8)
        · exact hsl (List.length_eq_zero_iff.1 h))]
      refine ⟨h1, hset.symm, ?_⟩
      simp only [List.map_append, List.map_cons, List.map_nil, h3]
  | acc x y ws q K hx hws hy ho hq hpc he hcz hl hK hI =>
    have hyk : y.op.kind ≠ 0 := by rcases ho.1 with h | h <;> omega
    have e : stepS p sm who = accS p sm who ⟨y.op, y.next, q⟩ := by
      unfold stepS
      rw [h2, ss_get hx, hws]
      unfold curX at hy
      by_cases h0 : x.op.kind = 0
      · rw [if_pos h0] at hy
        obtain ⟨op, ho2, hoy⟩ := Option.map_eq_some_iff.1 hy
        simp only [ssP, h0, if_true]
        rw [ho2]
        simp only
        have : startQ (topP p) (slotP p who) op (qAt p who x).s.gone = q := by
          rw [hq, ← hoy]
          unfold qAt
          rw [if_pos h0, if_neg (by rw [← hoy] at hyk; exact hyk)]
          rfl
        rw [this, ← hoy]
      · rw [if_neg h0] at hy
        cases hy
        simp only [ssP, h0, if_false]
        rw [← hq]
        cases hqc : q.pc <;> first
          | (rw [hqc] at hpc; exact absurd hpc id)
          | rfl
    rw [e]
    refine ⟨by unfold accS; simp only; rw [h1], ?_, h3⟩
    unfold accS
    simp only
    rw [ss_set, h2, h1]
    congr 1
    unfold ssP
    congr 1
    rw [hq]
    unfold qAt
    simp only [hyk, if_false]
    rw [runQ_snoc]
def sm0 (p : PlT) : Sm := ⟨V0 p.nodes, List.replicate p.want.length ⟨op0, 0, idleQ []⟩, []⟩
theorem rel_start (p : PlT) : Rel p (start p) (V0 p.nodes) (sm0 p) := by
  refine ⟨rfl, ?_, rfl⟩
  apply List.ext_getElem?
  intro j
  rw [List.getElem?_mapIdx]
  unfold sm0 start beginT
  simp only [List.getElem?_replicate]
  split <;> rfl
/-- A play of known turns comes to what the machines alone come to. -/
theorem PG.rel {p : PlT} (hp : PlayG p) : ∀ (ws : List Nat) (n : Nat) (t : TabT) (V : Vw) (F X : List Int) (g : ElmG) (sm : Sm), PG p n t V F X g → Rel p t V sm → n + ws.length ≤ 40000 → (∀ w ∈ ws, w < p.want.length) → ∃ V' F' X' g', PG p (n + ws.length) (turnsT (layP p) p.want t ws) V' F' X' g' ∧ Rel p (turnsT (layP p) p.want t ws) V' (stepsS p sm ws)
  | [], n, t, V, F, X, g, sm, h, hr, _, _ => ⟨V, F, X, g, h, hr⟩
  | w :: ws, n, t, V, F, X, g, sm, h, hr, hn, hw => by
    simp only [List.length_cons] at hn
    have hwl := hw w (by simp)
    obtain ⟨V1, F1, X1, g1, hR, hG⟩ := h.gg.step hp (by omega) hwl
    obtain ⟨h1, _⟩ := h.step hp hR hG
    have hr1 := rel_step hp hwl h.gg hr hR
    obtain ⟨V2, F2, X2, g2, h2, hr2⟩ := PG.rel hp ws (n + 1) _ V1 F1 X1 g1 _ h1 hr1 (by omega) (fun w' hw' => hw w' (by simp [hw']))
    exact ⟨V2, F2, X2, g2, by rw [List.length_cons, show n + (ws.length + 1) = n + 1 + ws.length by omega]; exact h2, hr2⟩

/-! ### The document's example -/
def opPush (v : Int) : OpT := ⟨4, 0, v, 0⟩
def opPop : OpT := ⟨5, 0, 0, 0⟩
def clashW (v a b c : Int) : List (List OpT) := [[opPush v], [opPop], [opPush a, opPush b, opPush c]]
def clashP (v a b c : Int) : PlT := ⟨clashW v a b c, 16, 1⟩
def clashL : List (Nat × Nat) := [(2, 10), (0, 8), (2, 10), (0, 3), (1, 6), (2, 10), (1, 12), (0, 20), (1, 20)]
def clashN : List Nat := clashL.flatMap fun x => List.replicate x.2 x.1
def clashT (v a b c : Int) : TabT := turnsT (layP (clashP v a b c)) (clashW v a b c) (start (clashP v a b c)) clashN
theorem clash_ok {v a b c : Int} (hv : VOk v) (ha : VOk a) (hb : VOk b) (hc : VOk c) : PlayG (clashP v a b c) := by
  refine ⟨by simp [clashP, clashW], by simp [clashP, clashW], by simp [clashP], by simp [clashP], by simp [clashP], by simp [clashP], fun ws hws o ho => ?_⟩
  simp only [clashP, clashW, List.mem_cons, List.not_mem_nil, or_false] at hws
  rcases hws with rfl | rfl | rfl
  · simp only [List.mem_cons, List.not_mem_nil, or_false] at ho
    subst ho
    exact ⟨.inl rfl, rfl, hv⟩
  · simp only [List.mem_cons, List.not_mem_nil, or_false] at ho
    subst ho
    exact ⟨.inr rfl, rfl, by decide, by decide⟩
  · simp only [List.mem_cons, List.not_mem_nil, or_false] at ho
    rcases ho with rfl | rfl | rfl
    · exact ⟨.inl rfl, rfl, ha⟩
    · exact ⟨.inl rfl, rfl, hb⟩
    · exact ⟨.inl rfl, rfl, hc⟩
end Go.Proofs.Ytdmnjoidfjidbaa
/- The document's example of pushes and pops that meet: what it comes to, whatever the values. -/
namespace Go.Proofs.Ytdmnjoidfjidbaa
set_option maxRecDepth 100000

section
variable {p : PlT} {sm : Sm} {ws : List OpT} {s : PsT} {op : OpT} {nx : Nat}
theorem os_step {c x : Int} (w : Nat) (hss : sm.ss[w]? = some ⟨op, nx, ⟨.at_ (.os c), s⟩⟩) (h0 : op.kind ≠ 0) (hw : p.want[w]? = some ws) (hob : sm.V.W.ob c = x) (hk : offK x = 1) : stepS p sm w = ⟨sm.V, sm.ss.set w ⟨op, nx, ⟨.at_ (.ot c x), s.up⟩⟩, sm.told⟩ := by
  unfold stepS
  rw [hss, hw]
  simp only [h0, if_false]
  unfold accS
  have e : tell (mP p) p.want.length ⟨.at_ (.os c), s⟩ (act sm.V (asks (mP p) w (.at_ (.os c)))).2 = ⟨.at_ (.ot c x), s.up⟩ := by
    show norm _ (if offK (sm.V.W.ob c) = 1 then .at_ (Ek.ot c (sm.V.W.ob c)) else _) s.up = _
    rw [hob, if_pos hk]; rfl
  simp only [e]
  rfl
theorem ot_step {c x : Int} (w : Nat) (hss : sm.ss[w]? = some ⟨op, nx, ⟨.at_ (.ot c x), s⟩⟩) (h0 : op.kind ≠ 0) (hw : p.want[w]? = some ws) (hob : sm.V.W.ob c = x) (h1 : s.e0 ≠ 0) : stepS p sm w = ⟨sm.V.put (.ob c) (takeW x), sm.ss.set w ⟨op, nx, ⟨.c (.fi (popO (offV x) s.made)) 0, s.up⟩⟩, sm.told⟩ := by
  unfold stepS
  rw [hss, hw]
  simp only [h0, if_false]
  unfold accS
  have e : act sm.V (asks (mP p) w (.at_ (.ot c x))) = (sm.V.put (.ob c) (takeW x), ⟨sm.V.W.ob c, true⟩) := by
    show (if sm.V.W.ob c = x then _ else _) = _
    rw [if_pos hob]; rfl
  simp only [e]
  have e2 : tell (mP p) p.want.length ⟨.at_ (.ot c x), s⟩ ⟨sm.V.W.ob c, true⟩ = ⟨.c (.fi (popO (offV x) s.made)) 0, s.up⟩ := by
    show clrQ _ _ s.up = _
    unfold clrQ
    rw [if_pos (show s.up.e0 ≠ 0 from h1)]
  simp only [e2]
theorem m1_step {c v n x a : Int} (w : Nat) (hss : sm.ss[w]? = some ⟨op, nx, ⟨.at_ (.m1 c v n x a), s⟩⟩) (h0 : op.kind ≠ 0) (hw : p.want[w]? = some ws) (hob : sm.V.W.ob c ≠ mineW v x) : stepS p sm w = ⟨sm.V, sm.ss.set w ⟨op, nx, ⟨.at_ (.qs c n x a), s.up⟩⟩, sm.told⟩ := by
  unfold stepS
  rw [hss, hw]
  simp only [h0, if_false]
  unfold accS
  have e : tell (mP p) p.want.length ⟨.at_ (.m1 c v n x a), s⟩ (act sm.V (asks (mP p) w (.at_ (.m1 c v n x a)))).2 = ⟨.at_ (.qs c n x a), s.up⟩ := by
    show norm _ (if sm.V.W.ob c = mineW v x then .at_ (Ek.m2 c v n x a) else .at_ (Ek.qs c n x a)) s.up = _
    rw [if_neg hob]; rfl
  simp only [e]
  rfl
end
def sA : PsT := ⟨7, [], 1, 0, 0⟩
def sD : PsT := ⟨11, [], 0, 0, 0⟩
section
variable (v a b c : Int)
/-- Ahead of the pop's look for an offer. -/
def smA : Sm := stepsS (clashP v a b c) (sm0 (clashP v a b c)) (clashN.take 48)
theorem a_ss : (smA v a b c).ss[1]? = some ⟨opPop, 1, ⟨.at_ (.os 45), sA⟩⟩ := by kernel_rfl
theorem a_ob : (smA v a b c).V.W.ob 45 = mineW v 0 := by kernel_rfl
/-- Ahead of the take. -/
def smB : Sm := ⟨(smA v a b c).V, (smA v a b c).ss.set 1 ⟨opPop, 1, ⟨.at_ (.ot 45 (mineW v 0)), sA.up⟩⟩, (smA v a b c).told⟩
theorem step_ab : stepS (clashP v a b c) (smA v a b c) 1 = smB v a b c := os_step 1 (a_ss v a b c) (by decide) (ws := [opPop]) rfl (a_ob v a b c) kind_mine
theorem b_ss : (smB v a b c).ss[1]? = some ⟨opPop, 1, ⟨.at_ (.ot 45 (mineW v 0)), sA.up⟩⟩ := by kernel_rfl
theorem b_ob : (smB v a b c).V.W.ob 45 = mineW v 0 := by kernel_rfl
/-- Behind the take. -/
def smC : Sm := ⟨(smB v a b c).V.put (.ob 45) (takeW (mineW v 0)), (smB v a b c).ss.set 1 ⟨opPop, 1, ⟨.c (.fi (popO (offV (mineW v 0)) sA.up.made)) 0, sA.up.up⟩⟩, (smB v a b c).told⟩
theorem step_bc : stepS (clashP v a b c) (smB v a b c) 1 = smC v a b c := ot_step 1 (b_ss v a b c) (by decide) (ws := [opPop]) rfl (b_ob v a b c) (by decide)
/-- Ahead of the push's look at its offer. -/
def smD : Sm := stepsS (clashP v a b c) (smC v a b c) (List.replicate 9 1)
theorem d_ss : (smD v a b c).ss[0]? = some ⟨opPush v, 1, ⟨.at_ (.m1 45 v 2 0 10), sD⟩⟩ := by kernel_rfl
theorem d_ob : (smD v a b c).V.W.ob 45 = takeW (mineW v 0) := by kernel_rfl
theorem d_ne : (smD v a b c).V.W.ob 45 ≠ mineW v 0 := fun e => by
  rw [d_ob] at e
  have h1 := congrArg offK e
  rw [kind_mine, show offK (takeW (mineW v 0)) = 2 from offK_W (by omega)] at h1
  omega
/-- Behind it. -/
def smE : Sm := ⟨(smD v a b c).V, (smD v a b c).ss.set 0 ⟨opPush v, 1, ⟨.at_ (.qs 45 2 0 10), sD.up⟩⟩, (smD v a b c).told⟩
theorem push_ne : (opPush v).kind ≠ 0 := by show (4 : Int) ≠ 0; decide
theorem step_de : stepS (clashP v a b c) (smD v a b c) 0 = smE v a b c := m1_step 0 (d_ss v a b c) (push_ne v) (ws := [opPush v]) rfl (d_ne v a b c)
/-- In the end. -/
def smF : Sm := stepsS (clashP v a b c) (smE v a b c) (List.replicate 19 0 ++ List.replicate 20 1)
theorem n_eq : clashN = clashN.take 48 ++ (1 :: 1 :: (List.replicate 9 1 ++ (0 :: (List.replicate 19 0 ++ List.replicate 20 1)))) := by decide
theorem chain5 (p : PlT) (s0 sa sb sc sd se : Sm) (A B C : List Nat) (ha : stepsS p s0 A = sa) (hb : stepS p sa 1 = sb) (hc : stepS p sb 1 = sc) (hd : stepsS p sc B = sd) (he : stepS p sd 0 = se) : stepsS p s0 (A ++ (1 :: 1 :: (B ++ (0 :: C)))) = stepsS p se C := by
  rw [steps_app, ha]
  show stepsS p (stepS p (stepS p sa 1) 1) (B ++ (0 :: C)) = _
  rw [hb, hc, steps_app, hd]
  show stepsS p (stepS p sd 0) C = _
  rw [he]
theorem clash_f : stepsS (clashP v a b c) (sm0 (clashP v a b c)) clashN = smF v a b c := by
  have h := chain5 (clashP v a b c) (sm0 (clashP v a b c)) (smA v a b c) (smB v a b c) (smC v a b c) (smD v a b c) (smE v a b c) (clashN.take 48) (List.replicate 9 1) (List.replicate 19 0 ++ List.replicate 20 1) rfl (step_ab v a b c) (step_bc v a b c) rfl (step_de v a b c)
  rw [← n_eq] at h
  exact h
theorem f_told : (smF v a b c).told = [(opPush a, 0, true), (opPush b, 0, true), (opPush c, 0, true), (opPop, offV (mineW v 0), true), (opPush v, 0, true)] := by kernel_rfl
theorem f_idle : (smF v a b c).ss.map (fun z => (z.op.kind, z.next)) = [(0, 1), (0, 1), (0, 3)] := by kernel_rfl
theorem f_top : (ofW ((smF v a b c).V.W.ob 44)).idx = 4 := by kernel_rfl
theorem f_l4 : (smF v a b c).V.W.nd 4 0 = 3 := by kernel_rfl
theorem f_l3 : (smF v a b c).V.W.nd 3 0 = 1 := by kernel_rfl
theorem f_l1 : (smF v a b c).V.W.nd 1 0 = 0 := by kernel_rfl
theorem f_v4 : (smF v a b c).V.W.nd 4 1 = c := by kernel_rfl
theorem f_v3 : (smF v a b c).V.W.nd 3 1 = b := by kernel_rfl
theorem f_v1 : (smF v a b c).V.W.nd 1 1 = a := by kernel_rfl
end
end Go.Proofs.Ytdmnjoidfjidbaa
/- A push and a pop that both come too late meet; where nodes run out pushes are told so. -/
namespace Go.Proofs.Ytdmnjoidfjidbaa
set_option maxRecDepth 100000

theorem head_one {X : List Int} {x : Int} (h : X.headD 0 = x) (h1 : 1 ≤ x) : ∃ X', X = x :: X' := by
  cases X with
  | nil => simp at h; omega
  | cons y X => simp at h; subst h; exact ⟨X, rfl⟩
theorem head_none {X : List Int} (h : X.headD 0 = 0) (hr : ∀ n ∈ X, 1 ≤ n) : X = [] := by
  cases X with
  | nil => rfl
  | cons y X => have := hr y (by simp); simp at h; omega
/-- What the example comes to. -/
structure Met (v a b c : Int) (t : TabT) : Prop where
  bad : t.bad = false
  wild : t.wild = false
  told : t.calls.map (fun c => (c.op, c.val, c.is)) = [(opPush a, 0, true), (opPush b, 0, true), (opPush c, 0, true), (opPop, v, true), (opPush v, 0, true)]
  row : rowF (layP (clashP v a b c)) t.m 0 = [c, b, a]
  order : orderB t.calls.length [] t.calls = true
  lt : CellsLt t.m
  ck : ∀ c ∈ t.calls, OpOk c.op
theorem meets {v a b c : Int} (hv : VOk v) (ha : VOk a) (hb : VOk b) (hc : VOk c) : Met v a b c (clashT v a b c) := by
  have hp := clash_ok hv ha hb hc
  obtain ⟨V, F, X, g, hpg, hrel⟩ := PG.rel hp clashN 0 _ _ _ _ _ (sm0 (clashP v a b c)) (pg_start hp (.inr rfl)) (rel_start _) (by decide) (fun w hw => by
    have : ∀ w ∈ clashN, w < 3 := by decide
    exact this w hw)
  have hT : turnsT (layP (clashP v a b c)) (clashP v a b c).want (start (clashP v a b c)) clashN = clashT v a b c := rfl
  rw [hT] at hpg hrel
  rw [clash_f] at hrel
  have ft := f_told v a b c
  have fi := f_idle v a b c
  have fo := f_top v a b c
  have k4 := f_l4 v a b c
  have k3 := f_l3 v a b c
  have k1 := f_l1 v a b c
  have w4 := f_v4 v a b c
  have w3 := f_v3 v a b c
  have w1 := f_v1 v a b c
  generalize smF v a b c = sf at hrel ft fi fo k4 k3 k1 w4 w3 w1
  generalize clashT v a b c = t at hpg hrel ⊢
  clear hT
  obtain ⟨r1, r2, r3⟩ := hrel
  have hov : offV (mineW v 0) = v := mine_val hv
  have hidle : ∀ (w : Nat) (x : SeatT), t.seats[w]? = some x → x.op.kind = 0 := fun w x hx => by
    have h1 : (sf.ss.map fun z => (z.op.kind, z.next))[w]? = ((t.seats.mapIdx (ssP (clashP v a b c))).map fun z => (z.op.kind, z.next))[w]? := by rw [r2]
    rw [fi, List.getElem?_map, ss_get hx] at h1
    have h2 : [((0 : Int), 1), (0, 1), (0, 3)][w]? = some (x.op.kind, x.next) := h1
    have h3 := List.mem_of_getElem? h2
    simp only [List.mem_cons, Prod.mk.injEq, List.not_mem_nil, or_false] at h3
    rcases h3 with h | h | h <;> exact h.1
  have hSI : ElmSI (topP (clashP v a b c)) (loP (clashP v a b c)) (hiP (clashP v a b c)) 16 _ V.W X g := hpg.gg.inv.si
  have hrg : ∀ n ∈ X, 1 ≤ n := fun n hn => (hSI.rng n hn).1
  have htop : (ofW (V.W.ob 44)).idx = X.headD 0 := hSI.idx (by omega)
  rw [← r1, fo] at htop
  have hlk := hSI.link
  rw [← r1] at hlk
  obtain ⟨X1, e1⟩ := head_one htop.symm (by omega)
  rw [e1] at hlk
  have h3 : sf.V.W.nd 4 0 = X1.headD 0 := hlk.1
  rw [k4] at h3
  obtain ⟨X2, e2⟩ := head_one h3.symm (by omega)
  rw [e2] at hlk
  have h4 : sf.V.W.nd 3 0 = X2.headD 0 := hlk.2.1
  rw [k3] at h4
  obtain ⟨X3, e3⟩ := head_one h4.symm (by omega)
  rw [e3] at hlk
  have h5 : sf.V.W.nd 1 0 = X3.headD 0 := hlk.2.2.1
  rw [k1] at h5
  have e4 : X3 = [] := head_none h5.symm fun n hn => hrg n (by rw [e1, e2, e3]; simp [hn])
  obtain ⟨sv, H, v1, v2, hH⟩ := hpg.lin
  have hEnd : End (clashP v a b c) t V F X g H := ⟨⟨_, hpg⟩, hH.ex, hH.sorted, hH.all fun w => by
    by_cases hw : w < t.seats.length
    · rw [v1 w _ (List.getElem?_eq_getElem hw)]
      exact hidle w _ (List.getElem?_eq_getElem hw)
    · rw [v2 w (by omega)]; rfl, hH.perm, hidle⟩
  refine ⟨hpg.gg.bad, hpg.gg.wild, ?_, ?_, hEnd.order, hpg.lt, hpg.ck⟩
  · rw [← r3, ft, hov]
  · rw [hpg.row hp, e1, e2, e3, e4, ← r1]
    simp only [List.map_cons, List.map_nil, w4, w3, w1]
end Go.Proofs.Ytdmnjoidfjidbaa
/- The statements of pushes and pops that may meet, in plain words: Lin, Once, Full. -/
namespace Go.Proofs.Ytdmnjoidfjidbaa
set_option maxRecDepth 100000

theorem few_play {want : List (List OpT)} {turns : List Int} {ops many : Nat} (h : fewF want turns ops many = true) (nodes slots : Nat) (hn : nodes = 3 ∨ nodes = 16) (s1 : 1 ≤ slots) (s3 : slots ≤ 3) : PlayG ⟨want, nodes, slots⟩ ∧ turns.length ≤ many ∧ (want.map List.length).sum ≤ ops := by
  unfold fewF at h
  simp only [Bool.and_eq_true, decide_eq_true_eq, List.all_eq_true] at h
  obtain ⟨⟨⟨⟨h1, h2⟩, h3⟩, h4⟩, h5⟩ := h
  refine ⟨⟨h1, h2, by simp only; omega, by simp only; omega, s1, s3, fun ws hws o ho => ?_⟩, h3, h5⟩
  have := h4 ws hws o ho
  unfold okOp at this
  simp only [Bool.and_eq_true, Bool.or_eq_true, decide_eq_true_eq] at this
  exact ⟨this.1.1.1, this.1.1.2, this.1.2, this.2⟩
theorem sum_ge : ∀ {l : List (List OpT)} {ws : List OpT}, ws ∈ l → ws.length ≤ (l.map List.length).sum
  | x :: l, ws, h => by
    rw [List.mem_cons] at h
    rw [List.map_cons, List.sum_cons]
    rcases h with rfl | h
    · omega
    · have := sum_ge h; omega
/-- Lin, in plain words. -/
theorem lin_holds {want : List (List OpT)} {turns : List Int} {slots : Nat} (s1 : 1 ≤ slots) (s3 : slots ≤ 3) (h : fewF want turns 7 300 = true) :
    (playedT (layE want.length 16 slots) want turns).bad = false ∧ (playedT (layE want.length 16 slots) want turns).full = 0 ∧ orderB (playedT (layE want.length 16 slots) want turns).calls.length [] (playedT (layE want.length 16 slots) want turns).calls = true := by
  obtain ⟨hp, h1, h2⟩ := few_play h 16 slots (.inr rfl) s1 s3
  obtain ⟨V, F, X, g, H, hE, _⟩ := played hp (.inr rfl) (fun ws hws => by have h9 : ws.length ≤ (want.map List.length).sum := sum_ge hws; omega) (turns := turns) h1
  obtain ⟨n, hpg⟩ := hE.pg
  exact ⟨hpg.gg.bad, (hpg.full (by show (want.map List.length).sum ≤ 16; omega)).1, hE.order⟩
/-- Once, in plain words. -/
theorem once_holds {want : List (List OpT)} {turns : List Int} {slots : Nat} (s1 : 1 ≤ slots) (s3 : slots ≤ 3) (h : fewF want turns 12 300 = true) :
    (playedT (layE want.length 16 slots) want turns).bad = false ∧ ((playedT (layE want.length 16 slots) want turns).calls.filterMap pushC).Perm (rowF (layE want.length 16 slots) (playedT (layE want.length 16 slots) want turns).m 0 ++ (playedT (layE want.length 16 slots) want turns).calls.filterMap popC) ∧ ∀ c ∈ (playedT (layE want.length 16 slots) want turns).calls, c.op.kind = 4 → c.is = true ∧ c.val = 0 := by
  obtain ⟨hp, h1, h2⟩ := few_play h 16 slots (.inr rfl) s1 s3
  obtain ⟨V, F, X, g, H, hE, _⟩ := played hp (.inr rfl) (fun ws hws => by have h9 : ws.length ≤ (want.map List.length).sum := sum_ge hws; omega) (turns := turns) h1
  obtain ⟨n, hpg⟩ := hE.pg
  obtain ⟨e1, e2⟩ := hE.once hp
  exact ⟨hpg.gg.bad, e1, e2⟩
/-- Full, in plain words. -/
theorem full_holds {ops : List OpT} (h : fewF [ops] [] 12 0 = true) :
    let t := playedT (layE 1 3 1) [ops] []
    t.bad = false ∧ t.wild = false ∧ (t.calls.length : Int) + t.full = ops.length ∧ (∃ vs, CallsEx [] t.calls vs ∧ rowF (layE 1 3 1) t.m 0 = vs ∧ vs.length ≤ 3) ∧ CellsLt t.m ∧ (∀ c ∈ t.calls, OpOk c.op) ∧ 0 ≤ t.full := by
  obtain ⟨hp, h1, h2⟩ := few_play h 3 1 (.inl rfl) (by omega) (by omega)
  obtain ⟨V, F, X, g, H, hE, hd⟩ := played hp (.inl rfl) (fun ws hws => by have h9 : ws.length ≤ ([ops].map List.length).sum := sum_ge hws; omega) (turns := []) (by simp)
  obtain ⟨n, hpg⟩ := hE.pg
  have hs := hE.seq rfl
  intro t
  have ht : t = playedT (layP ⟨[ops], 3, 1⟩) [ops] [] := rfl
  refine ⟨hpg.gg.bad, hpg.gg.wild, ?_, ⟨_, hs, hpg.row hp, ?_⟩, hpg.lt, hpg.ck, hpg.fl⟩
  · have hcl := hpg.cl
    have hlen := hpg.gg.n
    obtain ⟨x, hx⟩ : ∃ x, t.seats = [x] := by
      rw [ht]
      exact List.length_eq_one_iff.1 hlen
    rw [ht] at hx ⊢
    have e0 : (playedT (layP ⟨[ops], 3, 1⟩) [ops] []).seats[0]? = some x := by rw [hx]; rfl
    have e1 := hE.idle 0 x e0
    have e2 := hd 0 x ops e0 rfl
    simp only at hcl
    rw [hx] at hcl
    have e3 : inX x = 0 := by unfold inX; rw [if_pos e1]
    simp only [sumN, List.map_cons, List.map_nil, List.sum_cons, List.sum_nil, e3] at hcl
    omega
  · rw [List.length_map]
    exact nodup_le 3 X hpg.gg.inv.nodupX (fun x hx => hpg.gg.inv.inX hx)
end Go.Proofs.Ytdmnjoidfjidbaa
/- Of what kind calls are, and how many there are, in the end of plays that are looked at. -/
namespace Go.Proofs.Ytdmnjoidfjidbaa
set_option maxRecDepth 100000

theorem PG.calls_len {p : PlT} {n : Nat} {t : TabT} {V : Vw} {F X : List Int} {g : ElmG} (h : PG p n t V F X g) : t.calls.length ≤ (p.want.map List.length).sum := by
  have hs := sum_next t.seats p.want h.gg.n (fun i a b ha hb => h.nx i a b ha hb)
  have h1 := h.cl
  have h2 := h.fl
  omega
/-- How many calls there are, and of what kind; what the stack's cells are. -/
theorem play_more {want : List (List OpT)} {turns : List Int} {slots ops : Nat} (s1 : 1 ≤ slots) (s3 : slots ≤ 3) (ho : ops ≤ 14) (h : fewF want turns ops 300 = true) :
    (playedT (layE want.length 16 slots) want turns).calls.length ≤ ops ∧ (∀ c ∈ (playedT (layE want.length 16 slots) want turns).calls, OpOk c.op) ∧ CellsLt (playedT (layE want.length 16 slots) want turns).m := by
  obtain ⟨hp, h1, h2⟩ := few_play h 16 slots (.inr rfl) s1 s3
  obtain ⟨V, F, X, g, H, hE, _⟩ := played hp (.inr rfl) (fun ws hws => by have h9 : ws.length ≤ (want.map List.length).sum := sum_ge hws; omega) (turns := turns) h1
  obtain ⟨n, hpg⟩ := hE.pg
  have h3 := hpg.calls_len
  exact ⟨Nat.le_trans h3 h2, hpg.ck, hpg.lt⟩
/-- As often as it is in one row a number is in another one. -/
theorem perm_count {a b : List Int} (h : a.Perm b) (x : Int) : (a.countP fun y => decide (y = x)) = b.countP fun y => decide (y = x) := h.countP_eq _
end Go.Proofs.Ytdmnjoidfjidbaa
