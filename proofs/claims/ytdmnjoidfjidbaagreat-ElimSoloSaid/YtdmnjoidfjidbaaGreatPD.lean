/- Plays of a stack at which offers are made, seat by seat, as machines alone: what a play of known turns comes to. -/
import Derived.Test.YtdmnjoidfjidbaaGreatPC
import Derived.KernelRfl
namespace Go.Proofs.YtdmnjoidfjidbaaGreat
set_option maxRecDepth 100000

structure Ss where
  op : OpT
  next : Nat
  q : Q Ek
structure Sm where
  V : Vw
  ss : List Ss
  told : List (OpT × Int × Bool)
def accS (p : PlT) (sm : Sm) (w : Nat) (z : Ss) : Sm := ⟨(act sm.V (asks (mP p) w z.q.pc)).1, sm.ss.set w ⟨z.op, z.next, tell (mP p) p.want.length z.q (act sm.V (asks (mP p) w z.q.pc)).2⟩, sm.told⟩
def stepS (p : PlT) (sm : Sm) (w : Nat) : Sm := match sm.ss[w]?, p.want[w]? with
  | some z, some ws => if z.op.kind = 0 then match ws[z.next]? with
      | none => sm
      | some op => accS p sm w ⟨op, z.next + 1, startQ (topP p) (slotP p w) op z.q.s.gone⟩
    else match z.q.pc with
      | .fin o => ⟨sm.V, sm.ss.set w ⟨op0, z.next, idleQ z.q.s.gone⟩, if o.err = 8 then sm.told else sm.told ++ [(z.op, o.val, o.is)]⟩
      | _ => accS p sm w z
  | _, _ => sm
def stepsS (p : PlT) : Sm → List Nat → Sm
  | sm, [] => sm
  | sm, w :: ws => stepsS p (stepS p sm w) ws
theorem steps_app (p : PlT) : ∀ (a b : List Nat) (sm : Sm), stepsS p sm (a ++ b) = stepsS p (stepsS p sm a) b
  | [], _, _ => rfl
  | w :: a, b, sm => steps_app p a b (stepS p sm w)
def ssP (p : PlT) (w : Nat) (x : SeatT) : Ss := ⟨x.op, x.next, qAt p w x⟩
structure Rel (p : PlT) (t : TabT) (V : Vw) (sm : Sm) : Prop where
  v : sm.V = V
  ss : sm.ss = t.seats.mapIdx (ssP p)
  told : sm.told = t.calls.map fun c => (c.op, c.val, c.is)
theorem ss_get {p : PlT} {seats : List SeatT} {w : Nat} {x : SeatT} (hx : seats[w]? = some x) : (seats.mapIdx (ssP p))[w]? = some (ssP p w x) := by rw [List.getElem?_mapIdx, hx]; rfl
theorem ss_set {p : PlT} {seats : List SeatT} {w : Nat} (y : SeatT) : (seats.set w y).mapIdx (ssP p) = (seats.mapIdx (ssP p)).set w (ssP p w y) := by
  apply List.ext_getElem?
  intro j
  rw [List.getElem?_mapIdx, List.getElem?_set, List.getElem?_set, List.length_mapIdx, List.getElem?_mapIdx]
  by_cases hj : w = j
  · subst hj
    rw [if_pos rfl, if_pos rfl]
    split <;> rfl
  · rw [if_neg hj, if_neg hj]
theorem rel_step {p : PlT} (hp : PlayG p) {i : Nat} {t t' : TabT} {V V' : Vw} {F F' X X' : List Int} {g g' : ElmG} {who : Nat} (hw : who < p.want.length) (hG : G p i t V F X g) {sm : Sm} (h : Rel p t V sm) (hR : StepR p who t V F X g t' V' F' X' g') : Rel p t' V' (stepS p sm who) := by
  have hwant : p.want[who]? = some p.want[who] := List.getElem?_eq_getElem hw
  obtain ⟨h1, h2, h3⟩ := h
  cases hR with
  | idle x ws hx hws h0 ha =>
    have e : stepS p sm who = sm := by
      unfold stepS
      rw [h2, ss_get hx, hws]
      simp only [ssP, h0, if_true]
      rw [List.getElem?_eq_none ha]
    rw [e]; exact ⟨h1, h2, h3⟩
  | done x q o hx h0 hq hpc hl =>
    have hxo := hG.seat who x hx
    have hsl : x.steps ≠ [] := fun e => by
      have := hxo.len
      rw [e] at this
      exact hl (List.length_eq_zero_iff.1 this.symm)
    have herr : o.err = 0 ∨ o.err = 8 := by
      have := hxo.err
      rw [← hq, hpc] at this
      exact this
    have e : stepS p sm who = ⟨sm.V, sm.ss.set who ⟨op0, x.next, idleQ q.s.gone⟩, if o.err = 8 then sm.told else sm.told ++ [(x.op, o.val, o.is)]⟩ := by
      unfold stepS
      rw [h2, ss_get hx, hwant]
      simp only [ssP, h0, if_false]
      rw [← hq, hpc]
    rw [e]
    have hset : (t.seats.set who { x with op := op0, gone := q.s.gone }).mapIdx (ssP p) = sm.ss.set who ⟨op0, x.next, idleQ q.s.gone⟩ := by
      rw [ss_set, h2]
      congr 1
    unfold endT
    simp only
    by_cases h8 : o.err = 8
    · rw [if_pos h8, if_pos h8]
      exact ⟨h1, hset.symm, h3⟩
    · rw [if_neg h8, if_neg h8, if_neg (by
        rintro (h | h)
        · exact h (herr.resolve_right h8)
        · exact hsl (List.length_eq_zero_iff.1 h))]
      refine ⟨h1, hset.symm, ?_⟩
      simp only [List.map_append, List.map_cons, List.map_nil, h3]
  | acc x y ws q K hx hws hy ho hq hpc he hcz hl hK hI =>
    have hyk : y.op.kind ≠ 0 := by rcases ho.1 with h | h <;> omega
    have e : stepS p sm who = accS p sm who ⟨y.op, y.next, q⟩ := by
      unfold stepS
      rw [h2, ss_get hx, hws]
      unfold curX at hy
      by_cases h0 : x.op.kind = 0
      · rw [if_pos h0] at hy
        obtain ⟨op, ho2, hoy⟩ := Option.map_eq_some_iff.1 hy
        simp only [ssP, h0, if_true]
        rw [ho2]
        simp only
        have : startQ (topP p) (slotP p who) op (qAt p who x).s.gone = q := by
          rw [hq, ← hoy]
          unfold qAt
          rw [if_pos h0, if_neg (by rw [← hoy] at hyk; exact hyk)]
          rfl
        rw [this, ← hoy]
      · rw [if_neg h0] at hy
        cases hy
        simp only [ssP, h0, if_false]
        rw [← hq]
        cases hqc : q.pc <;> first
          | (rw [hqc] at hpc; exact absurd hpc id)
          | rfl
    rw [e]
    refine ⟨by unfold accS; simp only; rw [h1], ?_, h3⟩
    unfold accS
    simp only
    rw [ss_set, h2, h1]
    congr 1
    unfold ssP
    congr 1
    rw [hq]
    unfold qAt
    simp only [hyk, if_false]
    rw [runQ_snoc]
def sm0 (p : PlT) : Sm := ⟨V0 p.nodes, List.replicate p.want.length ⟨op0, 0, idleQ []⟩, []⟩
theorem rel_start (p : PlT) : Rel p (start p) (V0 p.nodes) (sm0 p) := by
  refine ⟨rfl, ?_, rfl⟩
  apply List.ext_getElem?
  intro j
  rw [List.getElem?_mapIdx]
  unfold sm0 start beginT
  simp only [List.getElem?_replicate]
  split <;> rfl
theorem PG.rel {p : PlT} (hp : PlayG p) : ∀ (ws : List Nat) (n : Nat) (t : TabT) (V : Vw) (F X : List Int) (g : ElmG) (sm : Sm), PG p n t V F X g → Rel p t V sm → n + ws.length ≤ 40000 → (∀ w ∈ ws, w < p.want.length) → ∃ V' F' X' g', PG p (n + ws.length) (turnsT (layP p) p.want t ws) V' F' X' g' ∧ Rel p (turnsT (layP p) p.want t ws) V' (stepsS p sm ws)
  | [], n, t, V, F, X, g, sm, h, hr, _, _ => ⟨V, F, X, g, h, hr⟩
  | w :: ws, n, t, V, F, X, g, sm, h, hr, hn, hw => by
    simp only [List.length_cons] at hn
    have hwl := hw w (by simp)
    obtain ⟨V1, F1, X1, g1, hR, hG⟩ := h.gg.step hp (by omega) hwl
    obtain ⟨h1, _⟩ := h.step hp hR hG
    have hr1 := rel_step hp hwl h.gg hr hR
    obtain ⟨V2, F2, X2, g2, h2, hr2⟩ := PG.rel hp ws (n + 1) _ V1 F1 X1 g1 _ h1 hr1 (by omega) (fun w' hw' => hw w' (by simp [hw']))
    exact ⟨V2, F2, X2, g2, by rw [List.length_cons, show n + (ws.length + 1) = n + 1 + ws.length by omega]; exact h2, hr2⟩

/-! ### The document's example -/
def opPush (v : Int) : OpT := ⟨4, 0, v, 0⟩
def opPop : OpT := ⟨5, 0, 0, 0⟩
def clashW (v a b c : Int) : List (List OpT) := [[opPush v], [opPop], [opPush a, opPush b, opPush c]]
def clashP (v a b c : Int) : PlT := ⟨clashW v a b c, 16, 1⟩
def clashL : List (Nat × Nat) := [(2, 10), (0, 8), (2, 10), (0, 3), (1, 6), (2, 10), (1, 12), (0, 20), (1, 20)]
def clashN : List Nat := clashL.flatMap fun x => List.replicate x.2 x.1
def clashT (v a b c : Int) : TabT := turnsT (layP (clashP v a b c)) (clashW v a b c) (start (clashP v a b c)) clashN
theorem clash_ok {v a b c : Int} (hv : VOk v) (ha : VOk a) (hb : VOk b) (hc : VOk c) : PlayG (clashP v a b c) := by
  refine ⟨by simp [clashP, clashW], by simp [clashP, clashW], by simp [clashP], by simp [clashP], by simp [clashP], by simp [clashP], fun ws hws o ho => ?_⟩
  simp only [clashP, clashW, List.mem_cons, List.not_mem_nil, or_false] at hws
  rcases hws with rfl | rfl | rfl
  · simp only [List.mem_cons, List.not_mem_nil, or_false] at ho
    subst ho
    exact ⟨.inl rfl, rfl, hv⟩
  · simp only [List.mem_cons, List.not_mem_nil, or_false] at ho
    subst ho
    exact ⟨.inr rfl, rfl, by decide, by decide⟩
  · simp only [List.mem_cons, List.not_mem_nil, or_false] at ho
    rcases ho with rfl | rfl | rfl
    · exact ⟨.inl rfl, rfl, ha⟩
    · exact ⟨.inl rfl, rfl, hb⟩
    · exact ⟨.inl rfl, rfl, hc⟩
end Go.Proofs.YtdmnjoidfjidbaaGreat
/- The document's example of pushes and pops that meet: what it comes to, whatever the values. -/
namespace Go.Proofs.YtdmnjoidfjidbaaGreat
set_option maxRecDepth 100000

section
variable {p : PlT} {sm : Sm} {ws : List OpT} {s : PsT} {op : OpT} {nx : Nat}
theorem os_step {c x : Int} (w : Nat) (hss : sm.ss[w]? = some ⟨op, nx, ⟨.at_ (.os c), s⟩⟩) (h0 : op.kind ≠ 0) (hw : p.want[w]? = some ws) (hob : sm.V.W.ob c = x) (hk : offK x = 1) : stepS p sm w = ⟨sm.V, sm.ss.set w ⟨op, nx, ⟨.at_ (.ot c x), s.up⟩⟩, sm.told⟩ := by
  unfold stepS
  rw [hss, hw]
  simp only [h0, if_false]
  unfold accS
  have e : tell (mP p) p.want.length ⟨.at_ (.os c), s⟩ (act sm.V (asks (mP p) w (.at_ (.os c)))).2 = ⟨.at_ (.ot c x), s.up⟩ := by
    show norm _ (if offK (sm.V.W.ob c) = 1 then .at_ (Ek.ot c (sm.V.W.ob c)) else _) s.up = _
    rw [hob, if_pos hk]; rfl
  simp only [e]
  rfl
theorem ot_step {c x : Int} (w : Nat) (hss : sm.ss[w]? = some ⟨op, nx, ⟨.at_ (.ot c x), s⟩⟩) (h0 : op.kind ≠ 0) (hw : p.want[w]? = some ws) (hob : sm.V.W.ob c = x) (h1 : s.e0 ≠ 0) : stepS p sm w = ⟨sm.V.put (.ob c) (takeW x), sm.ss.set w ⟨op, nx, ⟨.c (.fi (popO (offV x) s.made)) 0, s.up⟩⟩, sm.told⟩ := by
  unfold stepS
  rw [hss, hw]
  simp only [h0, if_false]
  unfold accS
  have e : act sm.V (asks (mP p) w (.at_ (.ot c x))) = (sm.V.put (.ob c) (takeW x), ⟨sm.V.W.ob c, true⟩) := by
    show (if sm.V.W.ob c = x then _ else _) = _
    rw [if_pos hob]; rfl
  simp only [e]
  have e2 : tell (mP p) p.want.length ⟨.at_ (.ot c x), s⟩ ⟨sm.V.W.ob c, true⟩ = ⟨.c (.fi (popO (offV x) s.made)) 0, s.up⟩ := by
    show clrQ _ _ s.up = _
    unfold clrQ
    rw [if_pos (show s.up.e0 ≠ 0 from h1)]
  simp only [e2]
theorem m1_step {c v n x a : Int} (w : Nat) (hss : sm.ss[w]? = some ⟨op, nx, ⟨.at_ (.m1 c v n x a), s⟩⟩) (h0 : op.kind ≠ 0) (hw : p.want[w]? = some ws) (hob : sm.V.W.ob c ≠ mineW v x) : stepS p sm w = ⟨sm.V, sm.ss.set w ⟨op, nx, ⟨.at_ (.qs c n x a), s.up⟩⟩, sm.told⟩ := by
  unfold stepS
  rw [hss, hw]
  simp only [h0, if_false]
  unfold accS
  have e : tell (mP p) p.want.length ⟨.at_ (.m1 c v n x a), s⟩ (act sm.V (asks (mP p) w (.at_ (.m1 c v n x a)))).2 = ⟨.at_ (.qs c n x a), s.up⟩ := by
    show norm _ (if sm.V.W.ob c = mineW v x then .at_ (Ek.m2 c v n x a) else .at_ (Ek.qs c n x a)) s.up = _
    rw [if_neg hob]; rfl
  simp only [e]
  rfl
end
def sA : PsT := ⟨7, [], 1, 0, 0⟩
def sD : PsT := ⟨11, [], 0, 0, 0⟩
section
variable (v a b c : Int)
def smA : Sm := stepsS (clashP v a b c) (sm0 (clashP v a b c)) (clashN.take 48)
theorem a_ss : (smA v a b c).ss[1]? = some ⟨opPop, 1, ⟨.at_ (.os 45), sA⟩⟩ := by kernel_rfl
theorem a_ob : (smA v a b c).V.W.ob 45 = mineW v 0 := by kernel_rfl
def smB : Sm := ⟨(smA v a b c).V, (smA v a b c).ss.set 1 ⟨opPop, 1, ⟨.at_ (.ot 45 (mineW v 0)), sA.up⟩⟩, (smA v a b c).told⟩
theorem step_ab : stepS (clashP v a b c) (smA v a b c) 1 = smB v a b c := os_step 1 (a_ss v a b c) (by decide) (ws := [opPop]) rfl (a_ob v a b c) kind_mine
theorem b_ss : (smB v a b c).ss[1]? = some ⟨opPop, 1, ⟨.at_ (.ot 45 (mineW v 0)), sA.up⟩⟩ := by kernel_rfl
theorem b_ob : (smB v a b c).V.W.ob 45 = mineW v 0 := by kernel_rfl
def smC : Sm := ⟨(smB v a b c).V.put (.ob 45) (takeW (mineW v 0)), (smB v a b c).ss.set 1 ⟨opPop, 1, ⟨.c (.fi (popO (offV (mineW v 0)) sA.up.made)) 0, sA.up.up⟩⟩, (smB v a b c).told⟩
theorem step_bc : stepS (clashP v a b c) (smB v a b c) 1 = smC v a b c := ot_step 1 (b_ss v a b c) (by decide) (ws := [opPop]) rfl (b_ob v a b c) (by decide)
def smD : Sm := stepsS (clashP v a b c) (smC v a b c) (List.replicate 9 1)
theorem d_ss : (smD v a b c).ss[0]? = some ⟨opPush v, 1, ⟨.at_ (.m1 45 v 2 0 10), sD⟩⟩ := by kernel_rfl
theorem d_ob : (smD v a b c).V.W.ob 45 = takeW (mineW v 0) := by kernel_rfl
theorem d_ne : (smD v a b c).V.W.ob 45 ≠ mineW v 0 := fun e => by
  rw [d_ob] at e
  have h1 := congrArg offK e
  rw [kind_mine, show offK (takeW (mineW v 0)) = 2 from offK_W (by omega)] at h1
  omega
def smE : Sm := ⟨(smD v a b c).V, (smD v a b c).ss.set 0 ⟨opPush v, 1, ⟨.at_ (.qs 45 2 0 10), sD.up⟩⟩, (smD v a b c).told⟩
theorem push_ne : (opPush v).kind ≠ 0 := by show (4 : Int) ≠ 0; decide
theorem step_de : stepS (clashP v a b c) (smD v a b c) 0 = smE v a b c := m1_step 0 (d_ss v a b c) (push_ne v) (ws := [opPush v]) rfl (d_ne v a b c)
def smF : Sm := stepsS (clashP v a b c) (smE v a b c) (List.replicate 19 0 ++ List.replicate 20 1)
theorem n_eq : clashN = clashN.take 48 ++ (1 :: 1 :: (List.replicate 9 1 ++ (0 :: (List.replicate 19 0 ++ List.replicate 20 1)))) := by decide
theorem chain5 (p : PlT) (s0 sa sb sc sd se : Sm) (A B C : List Nat) (ha : stepsS p s0 A = sa) (hb : stepS p sa 1 = sb) (hc : stepS p sb 1 = sc) (hd : stepsS p sc B = sd) (he : stepS p sd 0 = se) : stepsS p s0 (A ++ (1 :: 1 :: (B ++ (0 :: C)))) = stepsS p se C := by
  rw [steps_app, ha]
  show stepsS p (stepS p (stepS p sa 1) 1) (B ++ (0 :: C)) = _
  rw [hb, hc, steps_app, hd]
  show stepsS p (stepS p sd 0) C = _
  rw [he]
theorem clash_f : stepsS (clashP v a b c) (sm0 (clashP v a b c)) clashN = smF v a b c := by
  have h := chain5 (clashP v a b c) (sm0 (clashP v a b c)) (smA v a b c) (smB v a b c) (smC v a b c) (smD v a b c) (smE v a b c) (clashN.take 48) (List.replicate 9 1) (List.replicate 19 0 ++ List.replicate 20 1) rfl (step_ab v a b c) (step_bc v a b c) rfl (step_de v a b c)
  rw [← n_eq] at h
  exact h
theorem f_told : (smF v a b c).told = [(opPush a, 0, true), (opPush b, 0, true), (opPush c, 0, true), (opPop, offV (mineW v 0), true), (opPush v, 0, true)] := by kernel_rfl
theorem f_idle : (smF v a b c).ss.map (fun z => (z.op.kind, z.next)) = [(0, 1), (0, 1), (0, 3)] := by kernel_rfl
theorem f_top : (ofW ((smF v a b c).V.W.ob 44)).idx = 4 := by kernel_rfl
theorem f_l4 : (smF v a b c).V.W.nd 4 0 = 3 := by kernel_rfl
theorem f_l3 : (smF v a b c).V.W.nd 3 0 = 1 := by kernel_rfl
theorem f_l1 : (smF v a b c).V.W.nd 1 0 = 0 := by kernel_rfl
theorem f_v4 : (smF v a b c).V.W.nd 4 1 = c := by kernel_rfl
theorem f_v3 : (smF v a b c).V.W.nd 3 1 = b := by kernel_rfl
theorem f_v1 : (smF v a b c).V.W.nd 1 1 = a := by kernel_rfl
end
end Go.Proofs.YtdmnjoidfjidbaaGreat
/- A push and a pop that both come too late meet; where nodes run out pushes are told so. -/
namespace Go.Proofs.YtdmnjoidfjidbaaGreat
set_option maxRecDepth 100000

theorem head_one {X : List Int} {x : Int} (h : X.headD 0 = x) (h1 : 1 ≤ x) : ∃ X', X = x :: X' := by
  cases X with
  | nil => simp at h; omega
  | cons y X => simp at h; subst h; exact ⟨X, rfl⟩
theorem head_none {X : List Int} (h : X.headD 0 = 0) (hr : ∀ n ∈ X, 1 ≤ n) : X = [] := by
  cases X with
  | nil => rfl
  | cons y X => have := hr y (by simp); simp at h; omega
structure Met (v a b c : Int) (t : TabT) : Prop where
  bad : t.bad = false
  wild : t.wild = false
  told : t.calls.map (fun c => (c.op, c.val, c.is)) = [(opPush a, 0, true), (opPush b, 0, true), (opPush c, 0, true), (opPop, v, true), (opPush v, 0, true)]
  row : rowF (layP (clashP v a b c)) t.m 0 = [c, b, a]
  order : orderB t.calls.length [] t.calls = true
  lt : CellsLt t.m
  ck : ∀ c ∈ t.calls, OpOk c.op
theorem meets {v a b c : Int} (hv : VOk v) (ha : VOk a) (hb : VOk b) (hc : VOk c) : Met v a b c (clashT v a b c) := by
  have hp := clash_ok hv ha hb hc
  obtain ⟨V, F, X, g, hpg, hrel⟩ := PG.rel hp clashN 0 _ _ _ _ _ (sm0 (clashP v a b c)) (pg_start hp (.inr rfl)) (rel_start _) (by decide) (fun w hw => by
    have : ∀ w ∈ clashN, w < 3 := by decide
    exact this w hw)
  have hT : turnsT (layP (clashP v a b c)) (clashP v a b c).want (start (clashP v a b c)) clashN = clashT v a b c := rfl
  rw [hT] at hpg hrel
  rw [clash_f] at hrel
  have ft := f_told v a b c
  have fi := f_idle v a b c
  have fo := f_top v a b c
  have k4 := f_l4 v a b c
  have k3 := f_l3 v a b c
  have k1 := f_l1 v a b c
  have w4 := f_v4 v a b c
  have w3 := f_v3 v a b c
  have w1 := f_v1 v a b c
  generalize smF v a b c = sf at hrel ft fi fo k4 k3 k1 w4 w3 w1
  generalize clashT v a b c = t at hpg hrel ⊢
  clear hT
  obtain ⟨r1, r2, r3⟩ := hrel
  have hov : offV (mineW v 0) = v := mine_val hv
  have hidle : ∀ (w : Nat) (x : SeatT), t.seats[w]? = some x → x.op.kind = 0 := fun w x hx => by
    have h1 : (sf.ss.map fun z => (z.op.kind, z.next))[w]? = ((t.seats.mapIdx (ssP (clashP v a b c))).map fun z => (z.op.kind, z.next))[w]? := by rw [r2]
    rw [fi, List.getElem?_map, ss_get hx] at h1
    have h2 : [((0 : Int), 1), (0, 1), (0, 3)][w]? = some (x.op.kind, x.next) := h1
    have h3 := List.mem_of_getElem? h2
    simp only [List.mem_cons, Prod.mk.injEq, List.not_mem_nil, or_false] at h3
    rcases h3 with h | h | h <;> exact h.1
  have hSI : ElmSI (topP (clashP v a b c)) (loP (clashP v a b c)) (hiP (clashP v a b c)) 16 _ V.W X g := hpg.gg.inv.si
  have hrg : ∀ n ∈ X, 1 ≤ n := fun n hn => (hSI.rng n hn).1
  have htop : (ofW (V.W.ob 44)).idx = X.headD 0 := hSI.idx (by omega)
  rw [← r1, fo] at htop
  have hlk := hSI.link
  rw [← r1] at hlk
  obtain ⟨X1, e1⟩ := head_one htop.symm (by omega)
  rw [e1] at hlk
  have h3 : sf.V.W.nd 4 0 = X1.headD 0 := hlk.1
  rw [k4] at h3
  obtain ⟨X2, e2⟩ := head_one h3.symm (by omega)
  rw [e2] at hlk
  have h4 : sf.V.W.nd 3 0 = X2.headD 0 := hlk.2.1
  rw [k3] at h4
  obtain ⟨X3, e3⟩ := head_one h4.symm (by omega)
  rw [e3] at hlk
  have h5 : sf.V.W.nd 1 0 = X3.headD 0 := hlk.2.2.1
  rw [k1] at h5
  have e4 : X3 = [] := head_none h5.symm fun n hn => hrg n (by rw [e1, e2, e3]; simp [hn])
  obtain ⟨sv, H, v1, v2, hH⟩ := hpg.lin
  have hEnd : End (clashP v a b c) t V F X g H := ⟨⟨_, hpg⟩, hH.ex, hH.sorted, hH.all fun w => by
    by_cases hw : w < t.seats.length
    · rw [v1 w _ (List.getElem?_eq_getElem hw)]
      exact hidle w _ (List.getElem?_eq_getElem hw)
    · rw [v2 w (by omega)]; rfl, hH.perm, hidle⟩
  refine ⟨hpg.gg.bad, hpg.gg.wild, ?_, ?_, hEnd.order, hpg.lt, hpg.ck⟩
  · rw [← r3, ft, hov]
  · rw [hpg.row hp, e1, e2, e3, e4, ← r1]
    simp only [List.map_cons, List.map_nil, w4, w3, w1]
end Go.Proofs.YtdmnjoidfjidbaaGreat
/- The statements of pushes and pops that may meet, in plain words: Lin, Once, Full. -/
namespace Go.Proofs.YtdmnjoidfjidbaaGreat
set_option maxRecDepth 100000

theorem few_play {want : List (List OpT)} {turns : List Int} {ops many : Nat} (h : fewF want turns ops many = true) (nodes slots : Nat) (hn : nodes = 3 ∨ nodes = 16) (s1 : 1 ≤ slots) (s3 : slots ≤ 3) : PlayG ⟨want, nodes, slots⟩ ∧ turns.length ≤ many ∧ (want.map List.length).sum ≤ ops := by
  unfold fewF at h
  simp only [Bool.and_eq_true, decide_eq_true_eq, List.all_eq_true] at h
  obtain ⟨⟨⟨⟨h1, h2⟩, h3⟩, h4⟩, h5⟩ := h
  refine ⟨⟨h1, h2, by simp only; omega, by simp only; omega, s1, s3, fun ws hws o ho => ?_⟩, h3, h5⟩
  have := h4 ws hws o ho
  unfold okOp at this
  simp only [Bool.and_eq_true, Bool.or_eq_true, decide_eq_true_eq] at this
  exact ⟨this.1.1.1, this.1.1.2, this.1.2, this.2⟩
theorem sum_ge : ∀ {l : List (List OpT)} {ws : List OpT}, ws ∈ l → ws.length ≤ (l.map List.length).sum
  | x :: l, ws, h => by
    rw [List.mem_cons] at h
    rw [List.map_cons, List.sum_cons]
    rcases h with rfl | h
    · omega
    · have := sum_ge h; omega
end Go.Proofs.YtdmnjoidfjidbaaGreat
/- Stacks without offers: their programs as machines; one who is alone does as at a stack with offers. -/
namespace Go.Proofs.YtdmnjoidfjidbaaGreat
set_option maxRecDepth 100000

/-! ### Programs of a stack without offers -/
def spushL (l : LayT) (top n : Int) : Nat → Pm OutT
  | 0 => .pure ⟨0, false, 0, 0, []⟩
  | k + 1 => (tryPush l top n).bind fun ok => if ok then lastM.bind fun a => .pure ⟨0, true, 0, a, []⟩ else spushL l top n k
def spushM (l : LayT) (top v : Int) : Pm OutT := (takeM l).bind fun t => if t.2.2 then (storeM (nodeF l t.1 1) v).bind fun _ => fun log s => spushL l top t.1 (log.length + 1 - s.made) log s else .pure ⟨0, false, 8, t.2.1, []⟩
def spopL (l : LayT) (me top : Int) : Nat → Pm OutT
  | 0 => .pure ⟨0, false, 0, 0, []⟩
  | k + 1 => (guardM l me 0 top).bind fun p => if (ofW p.1).idx = 0 then (clearM l me).bind fun _ => .pure ⟨0, false, 0, p.2, []⟩
    else (loadM (nodeF l (ofW p.1).idx 0)).bind fun below => (casM top p.1 (packW (turnW (ofW p.1) below))).bind fun ok => if ok then lastM.bind fun a => (loadM (nodeF l (ofW p.1).idx 1)).bind fun v => (clearM l me).bind fun _ => (retireM l (ofW p.1).idx).bind fun _ => .pure ⟨v, true, 0, a, []⟩ else spopL l me top k
def spopM (l : LayT) (me top : Int) : Pm OutT := fun log s => spopL l me top (log.length + 1 - s.made) log s
def snextF (l : LayT) (me : Int) (gone : List (Int × Int)) (op : OpT) (log : List ResT) : AccT × OutT × Bool :=
  if topF l op.obj < 0 then (acc0, ⟨0, false, 1, -1, gone⟩, true)
  else if op.kind = 4 then finM (spushM l (topF l op.obj) op.a log ⟨0, gone, 0, 0, 0⟩)
  else if op.kind = 5 then finM (spopM l me (topF l op.obj) log ⟨0, gone, 0, 0, 0⟩)
  else (acc0, ⟨0, false, 1, -1, gone⟩, true)
def stkTell (top : Int) : Ek → Nat → ResT → Pc Ek
  | .pc c v n _, made, r => if r.ok then .fin (okO made) else .at_ (.pl c v n)
  | .oc c w _, made, r => if r.ok then .at_ (.ov (ofW w).idx made) else .g1 (.og c) 0 (.ob top)
  | k, made, r => elmTell top k made r
def stkM (top : Int) : Mach Ek := { elmM top with tell := stkTell top }
section
variable {top : Int} {l : LayT} {S : Nat} {me : Int} {log : List ResT}
theorem sfi_sim {o : OutT} {s : PsT} (hs : s.made ≤ log.length) {f : Unit → Pm OutT} (hf : ∀ s, f () log s = .ok (o, s)) : Does (stkM top) l S me (norm (stkM top) (.clr (.fi o)) s) ((clearM l me).bind f log s) (log.drop s.made) :=
  clear_sim (M0 := s.made) (fun s _ _ _ _ _ => by rw [hf]; exact does_fin) s (Nat.le_refl _) hs
theorem spush_sim {c v n : Int} : ∀ (k : Nat) (s : PsT), s.made ≤ log.length → log.length - s.made < k → Does (stkM top) l S me ⟨.at_ (.pl c v n), s⟩ (spushL l top n k log s) (log.drop s.made)
  | 0, s, _, h => by omega
  | k + 1, s, hs, h => by
    rw [spushL, tryPush, bind_assoc, load_eq]
    refine does_step rfl trivial fun r1 h1 => ?_
    rw [bind_assoc, store_eq]
    refine does_step (q := ⟨.at_ (Ek.ps c v n r1.val), s.up⟩) (s := s.up) rfl trivial fun r2 h2 => ?_
    rw [cas_eq]
    refine does_step (q := ⟨.at_ (Ek.pc c v n r1.val), s.up.up⟩) (s := s.up.up) rfl trivial fun r3 h3 => ?_
    show Does (stkM top) l S me (norm (stkM top) (if r3.ok then _ else _) s.up.up.up) _ _
    have a3 : s.up.up.up.made = s.made + 3 := rfl
    have a2 : s.up.up.made = s.made + 2 := rfl
    by_cases e3 : r3.ok = true
    · rw [if_pos e3, if_pos e3, bind_ok last_ok]
      show Does (stkM top) l S me ⟨.fin (okO s.up.up.made), s.up.up.up⟩ (.ok (⟨0, true, 0, ((s.up.up.made + 1 : Nat) : Int) - 1, []⟩, s.up.up.up)) _
      rw [last_up]
      exact does_fin
    · rw [if_neg e3, if_neg e3]
      exact spush_sim k _ (by omega) (by omega)
theorem spop_sim (hS : l.seats = (S : Int)) {c : Int} : ∀ (k : Nat) (s : PsT), s.made ≤ log.length → log.length - s.made < k → Does (stkM top) l S me ⟨.g1 (.og c) 0 (.ob top), s⟩ (spopL l me top k log s) (log.drop s.made)
  | 0, s, _, h => by omega
  | k + 1, s, hs, h => by
    rw [spopL]
    refine guard_sim (M0 := s.made) (c := .ob top) (fun w a s1 hM h1 => ?_) (log.length + 1 - s.made) s (Nat.le_refl _) (by omega)
    show Does (stkM top) l S me (norm (stkM top) (if (ofW w).idx = 0 then _ else _) s1) _ _
    by_cases e0 : (ofW w).idx = 0
    · rw [if_pos e0]
      simp only [e0, if_true]
      exact sfi_sim h1 (fun s => rfl)
    · rw [if_neg e0]
      simp only [e0, if_false]
      rw [load_eq]
      refine does_step (q := ⟨.at_ (Ek.ol c w), s1⟩) rfl trivial fun r2 h2 => ?_
      rw [cas_eq]
      refine does_step (q := ⟨.at_ (Ek.oc c w r2.val), s1.up⟩) (s := s1.up) rfl trivial fun r3 h3 => ?_
      show Does (stkM top) l S me (norm (stkM top) (if r3.ok then _ else _) s1.up.up) _ _
      have a2 : s1.up.up.made = s1.made + 2 := rfl
      have a1 : s1.up.made = s1.made + 1 := rfl
      by_cases e3 : r3.ok = true
      · rw [if_pos e3, if_pos e3, bind_ok last_ok]
        show Does (stkM top) l S me ⟨.at_ (.ov (ofW w).idx s1.up.made), s1.up.up⟩ (((loadM (nodeF l (ofW w).idx 1)).bind fun v => (clearM l me).bind fun _ => (retireM l (ofW w).idx).bind fun _ => .pure ⟨v, true, 0, ((s1.up.made + 1 : Nat) : Int) - 1, []⟩) log s1.up.up) _
        rw [last_up, load_eq]
        refine does_step rfl trivial fun r4 h4 => ?_
        have a3 : s1.up.up.up.made = s1.made + 3 := rfl
        refine clear_sim (M0 := s1.up.up.up.made) (fun s5 _ _ _ h5 h6 => ?_) s1.up.up.up (Nat.le_refl _) (by omega)
        show Does (stkM top) l S me ⟨.r1 (.rr (popO r4.val s1.up.made)) (ofW w).idx, s5⟩ _ _
        exact retire_sim hS (M0 := s5.made) (fun s6 h7 h8 => does_fin) s5 (Nat.le_refl _)
      · rw [if_neg e3, if_neg e3]
        exact spop_sim hS k _ (by omega) (by omega)
end
theorem snext_run {l : LayT} {S : Nat} {me : Int} (hS : l.seats = (S : Int)) {gone : List (Int × Int)} {op : OpT} {log : List ResT} (hh : ¬ topF l op.obj < 0) (hk : op.kind = 4 ∨ op.kind = 5) (c : Int) :
    snextF l me gone op log = endQ (stkM (topF l op.obj)) l me (runQ (stkM (topF l op.obj)) S (startQ (topF l op.obj) c op gone) log) := by
  unfold snextF
  rw [if_neg hh]
  rcases hk with hk | hk
  · rw [if_pos hk]
    unfold startQ
    rw [if_pos hk]
    show Does (stkM (topF l op.obj)) l S me ⟨.t1 (.tk c op.a), ⟨0, gone, 0, 0, 0⟩⟩ (spushM l (topF l op.obj) op.a log ⟨0, gone, 0, 0, 0⟩) (log.drop 0)
    unfold spushM
    refine take_sim (M0 := 0) (k := Ek.tk c op.a) (fun n a s hM hs => ?_) (fun a s hM hs => ?_) (log.length + 1 - 0) ⟨0, gone, 0, 0, 0⟩ (Nat.le_refl _) (by simp)
    · simp only [if_true]
      rw [store_eq]
      refine does_step rfl trivial fun r h1 => ?_
      exact spush_sim (log.length + 1 - s.up.made) s.up (by simp only [PsT.up]; omega) (by simp only [PsT.up]; omega)
    · simp only [Bool.false_eq_true, if_false]
      exact does_fin
  · rw [if_neg (by omega), if_pos hk]
    unfold startQ
    rw [if_neg (by omega)]
    exact spop_sim hS (log.length + 1) ⟨0, gone, 0, 0, 0⟩ (by simp) (by simp)
/-! ### Alone -/
def frK (top : Int) (W : Ws) : Ek → Prop
  | .ps _ _ _ w => W.ob top = w
  | .pc _ _ _ w => W.ob top = w
  | .ol _ w => W.ob top = w
  | .oc _ w _ => W.ob top = w
  | .ql _ _ _ | .qc _ _ _ _ | .m1 _ _ _ _ _ | .m2 _ _ _ _ _ | .m3 _ _ _ _ _ | .qs _ _ _ _ | .gv _ | .os _ | .ot _ _ => False
  | _ => True
def frP (top : Int) (W : Ws) : Pc Ek → Prop
  | .at_ k => frK top W k
  | .g2 _ _ _ v _ => W.ob top = v
  | .v1 _ _ | .v2 _ _ _ | .v3 _ _ _ => False
  | _ => True
section
variable {top lo hi : Int} {l : LayT} {S N K : Nat} {V : Vw} {qs : List (Q Ek)} {F X : List Int} {g : ElmG}
theorem fr_clr {op : OpT} {k : Ek} {s : PsT} (W : Ws) (h : isC k ∧ eK op k) : frP top W (clrQ (elmM top) k s).pc := by
  rcases clr_cases (M := elmM top) k s with ⟨i, _, _, _, e⟩ | ⟨_, e⟩
  · rw [e]; trivial
  · rw [e]; cases k <;> first | exact absurd h.1 id | trivial
theorem fr_ret {op : OpT} {k : Ek} {s : PsT} (W : Ws) (h : isR k ∧ eK op k) : frP top W (norm (elmM top) ((elmM top).retired k) s).pc := by cases k <;> first | exact absurd h.1 id | trivial
theorem fr_sift {op : OpT} {k : Ek} {held : List Int} {s : PsT} (W : Ws) (h : isR k ∧ eK op k) : ∀ (gs stay : List (Int × Int)), frP top W (siftQ (elmM top) k held s gs stay).pc
  | [], _ => fr_ret W h
  | _ :: _, _ => trivial
theorem fr_scan {op : OpT} {k : Ek} {held : List Int} {s : PsT} (W : Ws) (h : isR k ∧ eK op k) : ∀ cs : List Ad, frP top W (scanQ (elmM top) k held s cs).pc
  | [] => fr_sift W h _ _
  | _ :: _ => trivial
theorem fr_act (hI : Inv (elmZ top lo hi N) l S N K V qs F X g) {w : Nat} {q : Q Ek} (hq : qs[w]? = some q) (hf : q.pc.asking) {op : OpT} (he : eP op q.pc) (hr : frP top V.W q.pc) :
    frP top (act V (asks (elmM top) w q.pc)).1.W (tell (elmM top) S q (act V (asks (elmM top) w q.pc)).2).pc ∧ tell (stkM top) S q (act V (asks (elmM top) w q.pc)).2 = tell (elmM top) S q (act V (asks (elmM top) w q.pc)).2 := by
  have hloc := (hI.loc w _ hq).pc
  obtain ⟨pc, s⟩ := q
  cases pc with
  | fin o => exact absurd hf id
  | clr k => exact absurd hf id
  | at_ k =>
    cases k with
    | p1 c v n => exact ⟨trivial, rfl⟩
    | pl c v n => exact ⟨rfl, rfl⟩
    | ps c v n x => exact ⟨hr, rfl⟩
    | pc c v n x =>
      have hr : V.W.ob top = x := hr
      have e1 : act V (asks (elmM top) w (.at_ (.pc c v n x))) = (V.put (.ob top) (packW (turnW (ofW x) n)), ⟨V.W.ob top, true⟩) := by
        show (if V.W.ob top = x then _ else _) = _
        rw [if_pos hr]; rfl
      rw [e1]
      exact ⟨trivial, rfl⟩
    | ol c x => exact ⟨hr, rfl⟩
    | oc c x b =>
      have hr : V.W.ob top = x := hr
      have e1 : act V (asks (elmM top) w (.at_ (.oc c x b))) = (V.put (.ob top) (packW (turnW (ofW x) b)), ⟨V.W.ob top, true⟩) := by
        show (if V.W.ob top = x then _ else _) = _
        rw [if_pos hr]; rfl
      rw [e1]
      exact ⟨trivial, rfl⟩
    | ov n a => exact ⟨fr_clr (op := op) _ ⟨trivial, he.2, rfl⟩, rfl⟩
    | _ => first | exact absurd he.1 id | exact absurd hr id
  | t1 k =>
    refine ⟨?_, rfl⟩
    show frP top V.W (if (ofW V.fr).idx = 0 then norm (elmM top) ((elmM top).full k s.made) s.up else ⟨.t2 k V.fr, s.up⟩ : Q Ek).pc
    split
    · cases k <;> first | exact absurd he.1 id | trivial
    · trivial
  | t2 k f => exact ⟨trivial, rfl⟩
  | t3 k f lk =>
    refine ⟨?_, rfl⟩
    show frP top _ (if _ then _ else _ : Q Ek).pc
    split <;> trivial
  | t4 k n a => exact ⟨trivial, rfl⟩
  | t5 k n a b => cases k <;> first | exact absurd he.1 id | exact ⟨trivial, rfl⟩
  | g1 k i c =>
    have hg := hloc.2.2.2.2.2
    cases k with
    | og c' =>
      have hg2 : c = .ob top := hg.2
      subst hg2
      exact ⟨rfl, rfl⟩
    | _ => exact absurd he.1 id
  | g2 k i c v a =>
    cases k with
    | og c' =>
      refine ⟨?_, rfl⟩
      show frP top V.W (if V.er = s.e i then norm (elmM top) (if (ofW v).idx = 0 then .clr (.fi (noO a)) else .at_ (.ol c' v)) s.up else ⟨.g3 (.og c') i c V.er, s.up⟩ : Q Ek).pc
      split
      · split
        · exact fr_clr (op := op) _ ⟨trivial, he.2, rfl⟩
        · exact hr
      · trivial
    | _ => exact absurd he.1 id
  | g3 k i c er => exact ⟨trivial, rfl⟩
  | c k i => exact ⟨fr_clr _ he, rfl⟩
  | v1 k n => exact absurd hr id
  | v2 k n f => exact absurd hr id
  | v3 k n f => exact absurd hr id
  | r1 k n => exact ⟨trivial, rfl⟩
  | r2 k n er =>
    refine ⟨?_, ?_⟩
    · show frP top _ (if _ then _ else _ : Q Ek).pc
      split
      · exact fr_ret _ he
      · exact fr_scan _ he _
    · rfl
  | rs k held c cs => exact ⟨fr_scan _ he _, rfl⟩
  | s1 k held y gs stay =>
    refine ⟨?_, rfl⟩
    show frP top _ (if _ then _ else _ : Q Ek).pc
    split
    · exact fr_sift _ he _ _
    · trivial
  | w1 k held y gs stay => exact ⟨trivial, rfl⟩
  | w2 k held y gs stay f => exact ⟨trivial, rfl⟩
  | w3 k held y gs stay f =>
    refine ⟨?_, rfl⟩
    show frP top _ (if _ then _ else _ : Q Ek).pc
    split
    · exact fr_sift _ he _ _
    · trivial
end
end Go.Proofs.YtdmnjoidfjidbaaGreat
/- One seat alone at a stack where offers may be made: the accesses of a stack without offers. -/
namespace Go.Proofs.YtdmnjoidfjidbaaGreat
set_option maxRecDepth 100000

def soloOp (l : LayT) (gone : List (Int × Int)) (op : OpT) : Nat → List ResT → List Int → List Int × List (Int × Int)
  | 0, _, m => (m, gone)
  | k + 1, log, m => if (snextF l 0 gone op log).2.2 then (m, (snextF l 0 gone op log).2.1.gone)
    else soloOp l gone op k (log ++ [(memDoF m (snextF l 0 gone op log).1).2.1]) (memDoF m (snextF l 0 gone op log).1).1
def soloAll (l : LayT) : List OpT → List Int × List (Int × Int) → List Int × List (Int × Int)
  | [], x => x
  | op :: ops, x => soloAll l ops (soloOp l x.2 op 200 [] x.1)
theorem solo_snoc (l : LayT) (op : OpT) : ∀ (ops : List OpT) (x : List Int × List (Int × Int)), soloAll l (ops ++ [op]) x = soloOp l (soloAll l ops x).2 op 200 [] (soloAll l ops x).1
  | [], _ => rfl
  | o :: ops, x => solo_snoc l op ops (soloOp l x.2 o 200 [] x.1)
structure Along (p : PlT) (V : Vw) (t : TabT) (x : SeatT) (m0 : List Int) : Prop where
  run : runQ (stkM (topP p)) 1 (startQ (topP p) (slotP p 0) x.op x.gone) x.log = qAt p 0 x
  fr : frP (topP p) V.W (qAt p 0 x).pc
  mem : ∀ k, soloOp (layP p) x.gone x.op (k + x.log.length) [] m0 = soloOp (layP p) x.gone x.op k x.log t.m
  len : x.log.length + nu (topP p) 1 V (qAt p 0 x) ≤ 92
structure Solo (p : PlT) (V : Vw) (t : TabT) : Prop where
  idle : ∀ x, t.seats[0]? = some x → x.op.kind = 0 → soloAll (layP p) (t.calls.map CallT.op) (beginF (layP p), []) = (t.m, x.gone)
  busy : ∀ x, t.seats[0]? = some x → x.op.kind ≠ 0 → ∃ m0, soloAll (layP p) (t.calls.map CallT.op) (beginF (layP p), []) = (m0, x.gone) ∧ Along p V t x m0
theorem snext_at {p : PlT} (hp : PlayG p) (h1 : p.want.length = 1) {op : OpT} (ho : OpOk op) (gone : List (Int × Int)) (log : List ResT) : snextF (layP p) 0 gone op log = endQ (stkM (topP p)) (layP p) 0 (runQ (stkM (topP p)) 1 (startQ (topP p) (slotP p 0) op gone) log) := by
  have e := top_eq hp ho.2.1
  have h := snext_run (l := layP p) (S := 1) (me := 0) (by show (p.want.length : Int) = ((1 : Nat) : Int); rw [h1]) (gone := gone) (op := op) (log := log) (by rw [e]; unfold topP; omega) ho.1 (slotP p 0)
  rw [e] at h
  exact h
theorem solo_step {p : PlT} (hp : PlayG p) (h1 : p.want.length = 1) (htot : totP p ≤ p.nodes) {n : Nat} {t t' : TabT} {V V' : Vw} {F F' X X' : List Int} {g g' : ElmG} (h : PG p n t V F X g) (hS : Solo p V t) (hR : StepR p 0 t V F X g t' V' F' X' g') : Solo p V' t' := by
  cases hR with
  | idle x ws hx hw h0 ha => exact hS
  | done x q o hx h0 hq hpc hl =>
    have hxo := h.gg.seat 0 x hx
    have herr := (h.full htot).2 0 x hx h0 o (by rw [← hq]; exact hpc)
    have hop := hxo.op.resolve_left h0
    obtain ⟨m0, k1, k2⟩ := hS.busy x hx h0
    have hsl : x.steps ≠ [] := fun e => by
      have := hxo.len
      rw [e] at this
      exact hl (List.length_eq_zero_iff.1 this.symm)
    have hlen := k2.len
    have hnext : snextF (layP p) 0 x.gone x.op x.log = (acc0, { o with gone := q.s.gone }, true) := by
      rw [snext_at hp h1 hop, k2.run, ← hq]
      unfold endQ
      rw [hpc]
    have hrun : soloOp (layP p) x.gone x.op 200 [] m0 = (t.m, q.s.gone) := by
      have h9 := k2.mem (200 - x.log.length)
      rw [show 200 - x.log.length + x.log.length = 200 by omega] at h9
      rw [h9]
      obtain ⟨j, hj⟩ : ∃ j, 200 - x.log.length = j + 1 := ⟨199 - x.log.length, by omega⟩
      rw [hj, soloOp, hnext]
      rfl
    have hset : (t.seats.set 0 { x with op := op0, gone := q.s.gone })[0]? = some { x with op := op0, gone := q.s.gone } := set_here hx
    unfold endT
    simp only
    rw [if_neg (by omega), if_neg (by
      rintro (h | h)
      · exact h herr
      · exact hsl (List.length_eq_zero_iff.1 h))]
    refine ⟨fun z hz _ => ?_, fun z hz hk => ?_⟩
    · simp only at hz ⊢
      rw [hset] at hz; cases hz
      simp only [List.map_append, List.map_cons, List.map_nil]
      rw [solo_snoc, k1]
      exact hrun
    · simp only at hz
      rw [hset] at hz; cases hz
      exact absurd rfl hk
  | acc x y ws q K hx hw hy ho hq hpc he hcz hl hK hI =>
    have hL := layP_lay hp
    have hqs := qsOf_get (p := p) hx
    have hyk : y.op.kind ≠ 0 := by rcases ho.1 with h | h <;> omega
    have her := hI.er
    have hact := acts hL h.gg.view (a := asks (mP p) (0 : Nat) q.pc) ⟨by omega, by omega⟩ (ask_ok (soundP hp) hI (set_here hqs) hpc)
    -- where it stands ahead of the access
    have hA : ∃ m0, soloAll (layP p) (t.calls.map CallT.op) (beginF (layP p), []) = (m0, y.gone) ∧ Along p V t y m0 := by
      unfold curX at hy
      by_cases h0 : x.op.kind = 0
      · rw [if_pos h0] at hy
        obtain ⟨op, ho2, hoy⟩ := Option.map_eq_some_iff.1 hy
        have hyl : y.log = [] := by rw [← hoy]
        have hyg : y.gone = x.gone := by rw [← hoy]
        obtain ⟨pc', e1, e2, e3, _⟩ := start_pc hp 0 ho y.gone
        have hqy : qAt p 0 y = ⟨pc', ⟨0, y.gone, 0, 0, 0⟩⟩ := by
          unfold qAt
          rw [if_neg hyk, hyl]
          exact e1
        refine ⟨t.m, by rw [hyg]; exact hS.idle x hx h0, ⟨?_, ?_, fun k => ?_, ?_⟩⟩
        · rw [hyl, hqy, e1]; rfl
        · rw [hqy]
          rcases e2 with ⟨_, _, _, _, rfl⟩ | ⟨_, _, rfl⟩ | ⟨_, rfl⟩ <;> trivial
        · rw [hyl]; rfl
        · rw [hyl, hqy]
          rcases e2 with ⟨_, _, _, _, rfl⟩ | ⟨c, _, rfl⟩ | ⟨_, rfl⟩
          · exact (show 0 + 9 ≤ 92 by omega)
          · have := nu_og (top := topP p) (S := 1) c ⟨0, y.gone, 0, 0, 0⟩ V
            show 0 + nu (topP p) 1 V ⟨.g1 (.og c) 0 (.ob (topP p)), ⟨0, y.gone, 0, 0, 0⟩⟩ ≤ 92
            omega
          · exact absurd e3 id
      · rw [if_neg h0] at hy
        cases hy
        exact hS.busy x hx h0
    obtain ⟨m0, k1, k2⟩ := hA
    have hdec := nu_dec (by have := hp.n2; omega) hp.w3 hI (set_here hqs) hpc he hcz
    have hfr := fr_act hI (set_here hqs) hpc he (by rw [hq]; exact k2.fr)
    rw [h1] at hdec hfr
    generalize hz : ({ y with log := y.log ++ [(actP p 0 V q).2], steps := y.steps ++ [t.step] } : SeatT) = z
    have hzk : z.op.kind ≠ 0 := by rw [← hz]; exact hyk
    have hzo : z.op = y.op := by rw [← hz]
    have hzg : z.gone = y.gone := by rw [← hz]
    have hzl : z.log = y.log ++ [(actP p 0 V q).2] := by rw [← hz]
    have hzq : qAt p 0 z = tell (mP p) 1 q (actP p 0 V q).2 := by
      rw [← hz, hq]
      unfold qAt
      simp only [hyk, if_false]
      rw [runQ_snoc, h1]
    have hset : (t.seats.set 0 z)[0]? = some z := set_here hx
    refine ⟨fun z' hz' hk => ?_, fun z' hz' hk => ?_⟩
    · simp only at hz'
      rw [hset] at hz'; cases hz'
      exact absurd hk hzk
    · simp only at hz'
      rw [hset] at hz'; cases hz'
      refine ⟨m0, by rw [hzg]; exact k1, ⟨?_, ?_, fun k => ?_, ?_⟩⟩
      · rw [hzo, hzg, hzl, runQ_snoc, k2.run, hzq, ← hq]
        exact hfr.2
      · rw [hzq]; exact hfr.1
      · rw [hzo, hzg, hzl, List.length_append, List.length_singleton, show k + (y.log.length + 1) = k + 1 + y.log.length by omega, k2.mem (k + 1), soloOp]
        have hnext : snextF (layP p) 0 y.gone y.op y.log = (accP p 0 q, out0, false) := by
          rw [snext_at hp h1 ho, k2.run, ← hq]
          unfold endQ
          split
          · rename_i o h; rw [h] at hpc; exact absurd hpc id
          · rfl
        have hm : memDoF t.m (accP p 0 q) = ((turnF t.m (accP p 0 q)).1, (actP p 0 V q).2, 0) := by
          unfold memDoF
          rw [if_pos hact.fault, hact.res]
        rw [hnext]
        simp only [Bool.false_eq_true, if_false]
        rw [hm]
      · rw [hzl, hzq, List.length_append, List.length_singleton]
        have := k2.len
        rw [← hq] at this
        have hd2 : nu (topP p) 1 (actP p 0 V q).1 (tell (mP p) 1 q (actP p 0 V q).2) < nu (topP p) 1 V q := hdec
        omega
end Go.Proofs.YtdmnjoidfjidbaaGreat
/- Solo, in plain words. -/
namespace Go.Proofs.YtdmnjoidfjidbaaGreat
set_option maxRecDepth 100000

theorem solo_alone {p : PlT} (hp : PlayG p) (h1 : p.want.length = 1) (htot : totP p ≤ p.nodes) : ∀ (k n : Nat) (t : TabT) (V : Vw) (F X : List Int) (g : ElmG), PG p n t V F X g → Solo p V t → n + k ≤ 40000 → ∃ V', Solo p V' (aloneT (layP p) p.want 0 k t)
  | 0, n, t, V, F, X, g, _, hS, _ => ⟨V, hS⟩
  | k + 1, n, t, V, F, X, g, h, hS, hn => by
    rw [aloneT, if_neg (by rw [h.gg.bad]; simp)]
    obtain ⟨V1, F1, X1, g1, hR, hG⟩ := h.gg.step hp (by omega) (who := 0) (by omega)
    have hS1 := solo_step hp h1 htot h hS hR
    obtain ⟨h2, _⟩ := h.step hp hR hG
    exact solo_alone hp h1 htot k (n + 1) _ V1 F1 X1 g1 h2 hS1 (by omega)
theorem solo_start (p : PlT) : Solo p (V0 p.nodes) (start p) := by
  refine ⟨fun x hx _ => ?_, fun x hx hk => ?_⟩
  · rw [start_seat hx]; rfl
  · rw [start_seat hx] at hk; exact absurd rfl hk
theorem solo_holds {ops : List OpT} (h : fewF [ops] [] 14 0 = true) :
    let t := playedT (layE 1 16 1) [ops] []
    t.bad = false ∧ t.wild = false ∧ t.calls.length = ops.length ∧ t.calls.map CallT.op = ops ∧ (∃ vs, CallsEx [] t.calls vs ∧ rowF (layE 1 16 1) t.m 0 = vs ∧ (soloAll (layE 1 16 1) ops (beginF (layE 1 16 1), [])).1 = t.m) ∧ CellsLt t.m := by
  obtain ⟨hp, h1, h2⟩ := few_play h 16 1 (.inr rfl) (by omega) (by omega)
  obtain ⟨V, F, X, g, H, hE, hd⟩ := played hp (.inr rfl) (fun ws hws => by have h9 : ws.length ≤ ([ops].map List.length).sum := sum_ge hws; omega) (turns := []) (by simp)
  obtain ⟨n, hpg⟩ := hE.pg
  have hs := hE.seq rfl
  have hlo : ops.length ≤ 14 := by simpa using h2
  have htot : totP ⟨[ops], 16, 1⟩ ≤ (⟨[ops], 16, 1⟩ : PlT).nodes := by
    show (([ops] : List (List OpT)).map List.length).sum ≤ 16
    omega
  obtain ⟨V', hS⟩ := solo_alone hp rfl htot 1500 0 _ _ _ _ _ (pg_start hp (.inr rfl)) (solo_start _) (by omega)
  intro t
  have ht : t = playedT (layP ⟨[ops], 16, 1⟩) [ops] [] := rfl
  have hta : t.bad = false → t.m = (aloneT (layP ⟨[ops], 16, 1⟩) [ops] 0 1500 (start ⟨[ops], 16, 1⟩)).m ∧ t.seats = (aloneT (layP ⟨[ops], 16, 1⟩) [ops] 0 1500 (start ⟨[ops], 16, 1⟩)).seats ∧ t.calls = (aloneT (layP ⟨[ops], 16, 1⟩) [ops] 0 1500 (start ⟨[ops], 16, 1⟩)).calls := fun _ => ⟨rfl, rfl, rfl⟩
  have hb : t.bad = false := hpg.gg.bad
  obtain ⟨a1, a2, a3⟩ := hta hb
  have hlen := hpg.gg.n
  obtain ⟨x, hx⟩ : ∃ x, t.seats = [x] := by
    rw [ht]
    exact List.length_eq_one_iff.1 hlen
  have e0 : t.seats[0]? = some x := by rw [hx]; rfl
  have e1 : x.op.kind = 0 := hE.idle 0 x e0
  have e2 : x.next = ops.length := hd 0 x ops e0 rfl
  have hfull : t.full = 0 := (hpg.full htot).1
  have hops : t.calls.map CallT.op = ops := by
    have h9 := (hpg.one rfl).seq hfull x ops e0 rfl
    rw [if_pos e1, List.append_nil, e2, List.take_length] at h9
    exact h9
  have hmem := hS.idle x (by rw [← a2]; exact e0) e1
  rw [← a1, ← a3, hops] at hmem
  refine ⟨hb, hpg.gg.wild, ?_, hops, ⟨_, hs, hpg.row hp, ?_⟩, hpg.lt⟩
  · have := congrArg List.length hops
    rwa [List.length_map] at this
  · have := congrArg Prod.fst hmem
    exact this
end Go.Proofs.YtdmnjoidfjidbaaGreat
