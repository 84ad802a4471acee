/- What is read of a channel's memory; no cell of a free node is touched; no node is lost; places are filled once. -/
import Derived.Test.YtgoijmomglomlaaPB
import Derived.Test.YtgoijmomglomlaaPA
namespace Go.Proofs.Ytgoijmomglomlaa
set_option maxRecDepth 100000

theorem flatMap_eq {α β : Type} {f g : α → List β} : ∀ {l : List α}, (∀ x ∈ l, f x = g x) → l.flatMap f = l.flatMap g
  | [], _ => rfl
  | x :: l, h => by rw [List.flatMap_cons, List.flatMap_cons, h x (by simp), flatMap_eq fun y hy => h y (by simp [hy])]
/-! ### What is read -/
section
variable {hd tl : Int} {l : LayT} {S N K : Nat} {m : List Int} {V : Vw} {qs : List (Q Sk)} {F X : List Int} {g : SegG}
theorem nodes_is (hL : Lay l S N) (hLy : SegLay l S hd tl) (hhd : headF l 0 = hd) (hN : N ≤ 100) (hV : View l S N m V) (hI : Inv (segZ hd tl N) l S N K V qs F X g) : nodesF l m 0 = X := by
  have hd' := hI.nodupX
  have hSI : SegSI hd tl N K V.W X (Dq (segZ hd tl N) qs) g := hI.si
  have h1 := hLy.h1
  have h2 := hLy.h2
  unfold nodesF
  obtain ⟨B, hB⟩ := hSI.headX hN
  have hh : atF m hd = V.W.ob hd := atF_ad hL hV (a := .ob hd) ⟨h1, h2⟩
  rw [hhd, if_neg (by omega), hh, show (ofW (V.W.ob hd)).idx = X.headD 0 by rw [hB]; rfl]
  have := chain_linked (nx := fun n => atF m (nodeF l n 0)) (N := l.nodes) X [] (l.nodes.toNat + 1) (fun x hx => by have := hI.inX hx; have := hL.nodes; omega) (by simpa using hd') (by
    have := nodup_le N X hd' (fun x hx => hI.inX hx)
    have := hL.nodes
    omega) hSI.link (fun x hx => by
      have hx := hI.inX hx
      exact atF_ad hL hV (a := .nd x 0) ⟨hx.1, hx.2, by omega, by omega⟩)
  simpa using this
theorem seq_is (hL : Lay l S N) (hV : View l S N m V) (hI : Inv (segZ hd tl N) l S N K V qs F X g) : X.flatMap (placesF l m) = seqW V.W X := by
  unfold seqW
  refine flatMap_eq (fun x hx => ?_)
  have hx := hI.inX hx
  have key : ∀ i : Int, 1 ≤ i → i ≤ 5 → atF m (nodeF l x i) = V.W.nd x i := fun i i1 i5 => atF_ad hL hV (a := .nd x i) ⟨hx.1, hx.2, by omega, by omega⟩
  simp only [placesF, places5, plc, List.map_cons, List.map_nil, key 1 (by omega) (by omega), key 2 (by omega) (by omega), key 3 (by omega) (by omega), key 4 (by omega) (by omega), key 5 (by omega) (by omega)]
theorem filter_seq {a c : Nat} {vs : List Int} (hv : ∀ v ∈ vs, 2 ≤ v) : (List.replicate a (1 : Int) ++ (vs ++ List.replicate c 0)).filter (fun v => decide (1 < v)) = vs := by
  rw [List.filter_append, List.filter_append]
  have h1 : (List.replicate a (1 : Int)).filter (fun v => decide (1 < v)) = [] := by
    rw [List.filter_eq_nil_iff]; intro x hx; rw [List.eq_of_mem_replicate hx]; simp
  have h2 : (List.replicate c (0 : Int)).filter (fun v => decide (1 < v)) = [] := by
    rw [List.filter_eq_nil_iff]; intro x hx; rw [List.eq_of_mem_replicate hx]; simp
  have h3 : vs.filter (fun v => decide (1 < v)) = vs := by
    rw [List.filter_eq_self]; intro x hx; have := hv x hx; simp; omega
  rw [h1, h2, h3]; simp
theorem row_is (hL : Lay l S N) (hLy : SegLay l S hd tl) (hhd : headF l 0 = hd) (hN : N ≤ 100) (hV : View l S N m V) (hI : Inv (segZ hd tl N) l S N K V qs F X g) : rowF l m 0 = g.vs.map fun v => v - 2 := by
  have hSI : SegSI hd tl N K V.W X (Dq (segZ hd tl N) qs) g := hI.si
  obtain ⟨a, c, h1, _, _⟩ := hSI.seq
  unfold rowF
  rw [nodes_is hL hLy hhd hN hV hI, seq_is hL hV hI, h1, filter_seq (fun v hv => (hSI.vs v hv).1)]
end

/-! ### How great numbers get -/
theorem seg_wr {p : PlayT} {K : Nat} {V : Vw} {qs : List (Q Sk)} {F X : List Int} {g : SegG} (hI : Inv (spP p) (layP p) p.want.length (nP p) K V qs F X g) {w : Nat} {q : Q Sk} (hq : qs[w]? = some q) : ∀ k, q.pc = .at_ k → ((mP p).ask k).wr < 9223372036854775808 := by
  intro k hk
  have hpc := (hI.loc w q hq).pc
  have hN := nP_le p
  have hm : ∀ n ∈ mineP (spP p) q.pc, n ≤ (nP p : Int) := fun n hn => (hI.inOwn hq (List.mem_append_left _ hn)).2
  rw [hk] at hpc hm
  have hkl : segKL (hdP p) (tlP p) (nP p) V.W (Pr (spP p) V X qs w q.s) k := hpc.1
  cases k with
  | sc v m u i => have := hkl.1.2; show v + 2 < _; omega
  | st v m u nx => exact pack_lt _
  | f1 v u n => have := hkl.1.2; show v + 2 < _; omega
  | sa v m u =>
    have := hm m (by simp [mineP, segZ])
    show m < _
    omega
  | sb u m a => exact pack_lt _
  | rc u i x => show (1 : Int) < _; omega
  | rt u nx en => exact pack_lt _
  | rh u nx => exact pack_lt _
  | _ => show (0 : Int) < _; omega
/-- The memory in the beginning has small numbers. -/
def begLt (S N : Nat) : Bool := (beginF (layF S N 0 0 1)).all fun x => decide (x < 9223372036854775808)
theorem begLt_all : ((List.range 3).all fun a => (List.range 8).all fun b => begLt (a + 1) (b + 2)) = true := by decide +kernel
theorem cells_start {p : PlayT} (hp : PlayOk p) : CellsLt (beginF (layP p)) := by
  have h1 := hp.w1
  have h3 := hp.w3
  rw [layP_eq]
  have hN := nP_le p
  generalize nP p = N at *
  generalize p.want.length = S at *
  have h := List.all_eq_true.1 (List.all_eq_true.1 begLt_all (S - 1) (List.mem_range.2 (by omega))) (N - 2) (List.mem_range.2 (by omega))
  rw [show S - 1 + 1 = S by omega, show N - 2 + 2 = N by omega] at h
  unfold begLt at h
  intro x hx
  simpa using List.all_eq_true.1 h x hx
theorem qs_at {p : PlayT} {s : PSt} {w : Nat} {x : SeatT} {ws : List OpT} {q : Q Sk} (hx : s.seats[w]? = some x) (hw : p.want[w]? = some ws) (hq : q = qAt p ws x) : (qsOf p s.seats)[w]? = some q := by rw [hq]; exact qsOf_get hx hw
theorem cells_step {p : PlayT} (hp : PlayG p) {i : Nat} {s s' : PSt} {V V' : Vw} {F X F' X' : List Int} {g g' : SegG} (hi : i < allF p) (hG : G p i s V F X g) (hS : StepR p (whoF p i) s V F X g s' V' F' X' g') (h : CellsLt s.m) : CellsLt s'.m := by
  have hall : allF p ≤ 3200 := by have := hp.ok.w3; have := hp.ok.t; unfold allF; omega
  cases hS with
  | idle => exact h
  | done => exact h
  | acc x ws op q hx hws ho hq hpc =>
    have hqg := qs_at hx hws hq
    exact cells_act hG.inv (by omega) hG.view hqg (seg_wr hG.inv hqg) h

/-! ### No cell of a free node is touched -/
/-- The memory behind steps. -/
def memS (m : List Int) (s : StepT) : List Int := if s.done then m else (turnF m s.acc).1
structure SafeOk (l : LayT) (m : List Int) (s : StepT) : Prop where
  fault : s.done = false → faultF m.length s.acc = 0
  free : s.done = false → ∀ n ∈ listF l m, ¬ (nodeF l n 0 ≤ s.acc.cell ∧ s.acc.cell < nodeF l n 0 + 7)
  lt : CellsLt m
  len : m.length = l.size.toNat
def SafeAll (l : LayT) (m0 : List Int) (st : List StepT) : Prop := ∀ (i : Nat) (s : StepT), st[i]? = some s → SafeOk l ((st.take i).foldl memS m0) s
theorem all_snoc {α β : Type} {f : β → α → β} {b : β} {C : β → α → Prop} {st : List α} {s : α} (h : ∀ (i : Nat) (s : α), st[i]? = some s → C ((st.take i).foldl f b) s) (hs : C (st.foldl f b) s) : ∀ (i : Nat) (x : α), (st ++ [s])[i]? = some x → C (((st ++ [s]).take i).foldl f b) x := by
  intro i x hx
  rcases Nat.lt_trichotomy i st.length with hi | hi | hi
  · rw [List.getElem?_append_left hi] at hx
    rw [List.take_append_of_le_length (by omega)]
    exact h i x hx
  · subst hi
    rw [List.getElem?_append_right (by omega)] at hx
    simp at hx
    subst hx
    rw [List.take_append_of_le_length (by omega), List.take_length]
    exact hs
  · rw [List.getElem?_eq_none (by simp; omega)] at hx
    cases hx
/-- An access touches no free node, but its link. -/
theorem seg_safe {p : PlayT} {K : Nat} {V : Vw} {qs : List (Q Sk)} {F X : List Int} {g : SegG} (hL : Lay (layP p) p.want.length (nP p)) (hI : Inv (spP p) (layP p) p.want.length (nP p) K V qs F X g) {w : Nat} {q : Q Sk} (hq : qs[w]? = some q) (hf : q.pc.asking) {n : Int} (hn : n ∈ F) : ¬ (nodeF (layP p) n 0 ≤ (accP p w q).cell ∧ (accP p w q).cell < nodeF (layP p) n 0 + 7) := by
  have hnb := hI.inF hn
  have hnX : ∀ x : Int, x ∈ X ∨ Dq (spP p) qs x → x ≠ n := fun x hx e => by
    subst e
    rcases hx with h | h
    · have h1 := List.count_pos_iff.2 h
      have h2 := List.count_pos_iff.2 hn
      have := hI.one x
      omega
    · exact (hI.dq h).2.2 hn
  have hmi : ∀ x ∈ mineP (spP p) q.pc, x ≠ n := fun x hx e => by
    subst e
    exact (hI.ownNot hq (List.mem_append_left _ hx)).1 hn
  have hpc := (hI.loc w q hq).pc
  have hA := asks_free (soundP p) hI hq hf hn (fun k i hk => by
    rw [hk] at hpc hmi
    have hkl : segKL (hdP p) (tlP p) (nP p) V.W (Pr (spP p) V X qs w q.s) k := hpc.1
    have sw : ∀ {u : Int}, SW (tlP p) (nP p) V.W (Pr (spP p) V X qs w q.s) u → (ofW u).idx ≠ n := fun h => hnX _ (pr_in h.2.2.1)
    have rw' : ∀ {u : Int}, RW (hdP p) (nP p) V.W (Pr (spP p) V X qs w q.s) u → (ofW u).idx ≠ n := fun h => hnX _ (pr_in h.2.2.1)
    cases k with
    | sl v m u j => intro e; cases e; exact sw hkl.2.2.1 rfl
    | sc v m u j => intro e; cases e; exact sw hkl.2.2.1 rfl
    | sn v m u => intro e; cases e; exact sw hkl.2.2.1 rfl
    | sa v m u => intro e; cases e; exact sw hkl.2.1 rfl
    | f0 v u x => intro e; cases e; exact hmi n (by simp [mineP, segZ]) rfl
    | f1 v u x => intro e; cases e; exact hmi n (by simp [mineP, segZ]) rfl
    | f2 v u x j => intro e; cases e; exact hmi n (by simp [mineP, segZ]) rfl
    | rl u j => intro e; cases e; exact rw' hkl.1 rfl
    | rc u j x => intro e; cases e; exact rw' hkl.1 rfl
    | rn u => intro e; cases e; exact rw' hkl.1 rfl
    | _ => intro e; cases e) (fun k i c j hk => by
    rw [hk] at hpc
    have hgad := hpc.2.2.2.2.2
    obtain ⟨_, hg2⟩ := hgad
    intro e
    subst e
    cases k <;> first | exact absurd hg2 id | cases hg2)
  have := touch_safe hL (ask_ok (soundP p) hI hq hf) hnb.1 hnb.2 hA.1 hA.2
  rw [← acc_cell] at this
  exact this
structure SafeJ (p : PlayT) (s : PSt) : Prop where
  all : SafeAll (layP p) (beginF (layP p)) s.out
  mem : s.out.foldl memS (beginF (layP p)) = s.m
  lt : CellsLt s.m
theorem safe_step {p : PlayT} (hp : PlayG p) {i : Nat} {s s' : PSt} {V V' : Vw} {F X F' X' : List Int} {g g' : SegG} (hi : i < allF p) (hG : G p i s V F X g) (hS : StepR p (whoF p i) s V F X g s' V' F' X' g') (h : SafeJ p s) : SafeJ p s' := by
  have hL := layP_lay p hp.ok.w1
  have hN := nP_le p
  have hlt := cells_step hp hi hG hS h.lt
  have hall : allF p ≤ 3200 := by have := hp.ok.w3; have := hp.ok.t; unfold allF; omega
  generalize whoF p i = who at *
  cases hS with
  | idle => exact h
  | done x ws op q o hx hws ho hq hpc =>
    refine ⟨all_snoc (C := SafeOk (layP p)) h.all ⟨(fun e => by cases e), (fun e => by cases e), by rw [h.mem]; exact h.lt, by rw [h.mem]; exact hG.view.len⟩, ?_, hlt⟩
    simp only [foldl_snoc, h.mem]
    rfl
  | acc x ws op q hx hws ho hq hpc =>
    have hqg := qs_at hx hws hq
    have her := hG.inv.er
    have hact := acts hL hG.view (a := asks (mP p) who q.pc) ⟨by omega, by omega⟩ (ask_ok (soundP p) hG.inv hqg hpc)
    refine ⟨all_snoc (C := SafeOk (layP p)) h.all ⟨fun _ => by rw [h.mem]; exact hact.fault, fun _ n hn => ?_, by rw [h.mem]; exact h.lt, by rw [h.mem]; exact hG.view.len⟩, ?_, hlt⟩
    · rw [h.mem, list_is hL (by omega) hG.view hG.inv] at hn
      exact seg_safe hL hG.inv hqg hpc hn
    · simp only [foldl_snoc, h.mem]
      rfl
theorem safe_true {p : PlayT} (hp : PlayG p) : (playedF p).ends = true ∧ SafeAll (layP p) (beginF (layP p)) (playedF p).steps := by
  obtain ⟨s, V, F, X, g, h1, h2, h3, h4⟩ := played_end hp (fun _ s _ _ _ _ => SafeJ p s) (fun i s V F X g s' V' F' X' g' hi hG hS _ h => safe_step hp hi hG hS h) ⟨fun i s h => by simp [start] at h, rfl, cells_start hp.ok⟩
  rw [playedF_end h1 h4]
  exact ⟨rfl, h3.all⟩

/-! ### No node is lost, and none is twice -/
def goneN (gone : List (List (Int × Int))) : List Int := gone.flatMap fun g => g.map (·.1)
structure KeptR (p : PlayT) (R : PlayedT) : Prop where
  ends : R.ends = true
  one : ∀ n, (nodesF (layP p) R.m 0 ++ listF (layP p) R.m ++ goneN R.gone).count n = if 1 ≤ n ∧ n ≤ (layP p).nodes then 1 else 0
  resv : ∀ w i : Int, 0 ≤ w → w < p.want.length → 0 ≤ i → i ≤ 2 → atF R.m (resvF (layP p) w i) = 0
  lt : CellsLt R.m
  n : R.gone.length = p.want.length
theorem idle_own {p : PlayT} {ws : List OpT} {x : SeatT} (h : ws.length ≤ x.at_) : qAt p ws x = idleQ x.gone := by
  unfold qAt
  rw [List.getElem?_eq_none h]
theorem sum_gone {p : PlayT} (n : Int) : ∀ (seats : List SeatT) (want : List (List OpT)), seats.length = want.length → (∀ (w : Nat) (x : SeatT) (ws : List OpT), seats[w]? = some x → want[w]? = some ws → ws.length ≤ x.at_) → ((seats.zip want).map fun z => (own (spP p) (qAt p z.2 z.1)).count n).sum = (goneN (seats.map (·.gone))).count n
  | [], [], _, _ => rfl
  | [], _ :: _, h, _ => by simp at h
  | _ :: _, [], h, _ => by simp at h
  | x :: seats, ws :: want, h, he => by
    have ih := sum_gone (p := p) n seats want (by simpa using h) (fun w y us hy hu => he (w + 1) y us (by simpa using hy) (by simpa using hu))
    have h0 := idle_own (p := p) (he 0 x ws rfl rfl)
    unfold goneN at ih ⊢
    simp only [List.zip_cons_cons, List.map_cons, List.sum_cons, List.flatMap_cons, List.count_append, h0] at ih ⊢
    rw [ih]
    rfl
theorem kept_true {p : PlayT} (hp : PlayG p) : KeptR p (playedF p) := by
  have hL := layP_lay p hp.ok.w1
  have hN := nP_le p
  obtain ⟨s, V, F, X, g, h1, h2, h3, h4⟩ := played_end hp (fun _ s _ _ _ _ => CellsLt s.m) (fun i s V F X g s' V' F' X' g' hi hG hS _ h => cells_step hp hi hG hS h) (cells_start hp.ok)
  rw [playedF_end h1 h4]
  refine ⟨rfl, fun n => ?_, fun w i w0 w1 i0 i1 => ?_, h3, by simp [h2.n]⟩
  · have e1 := sum_gone (p := p) n s.seats p.want h2.n h4
    have e2 := h2.inv.part n
    have e3 := hL.nodes
    have e4 : ownSum (spP p) (qsOf p s.seats) n = (goneN (s.seats.map (·.gone))).count n := by rw [← e1]; unfold ownSum qsOf; rw [List.map_map]; rfl
    simp only [nodes_is hL (segLayP p) rfl (by omega) h2.view h2.inv, list_is hL (by omega) h2.view h2.inv, List.count_append]
    rw [← e4, e3]
    omega
  · simp only
    rw [show resvF (layP p) w i = Ad.cell (layP p) (.rv w i) from rfl, atF_ad hL h2.view (a := .rv w i) ⟨w0, w1, i0, i1⟩]
    obtain ⟨x, hx⟩ : ∃ x, s.seats[w.toNat]? = some x := ⟨s.seats[w.toNat]'(by have := h2.n; omega), List.getElem?_eq_getElem _⟩
    obtain ⟨ws, hws⟩ : ∃ ws, p.want[w.toNat]? = some ws := ⟨p.want[w.toNat]'(by omega), List.getElem?_eq_getElem _⟩
    have hq := qsOf_get (p := p) hx hws
    rw [idle_own (h4 _ x ws hx hws)] at hq
    have hl := (h2.inv.loc _ _ hq).rv i i0 i1
    rw [show ((w.toNat : Nat) : Int) = w by omega] at hl
    show V.rv w i = 0
    rw [hl]
    show (if i = 0 then (0 : Int) else if i = 1 then 0 else 0) = 0
    split
    · rfl
    · split <;> rfl

/-! ### Places -/
structure PlcOk (l : LayT) (tl : Int) (m : List Int) (s : StepT) : Prop where
  cas : s.done = false → s.acc.kind = 3 → s.res.ok = true → l.node ≤ s.acc.cell → 1 ≤ (s.acc.cell - l.node) % 8 → (s.acc.cell - l.node) % 8 ≤ 5 → (s.acc.old = 0 ∧ 1 < s.acc.new) ∨ (1 < s.acc.old ∧ s.acc.new = 1)
  fault : s.done = false → faultF m.length s.acc = 0
  tail : s.done = false → atF (memS m s) tl % 65536 ∈ nodesF l (memS m s) 0
  tail0 : s.done = false → 0 ≤ atF (memS m s) tl
  rows : s.done = false → ∃ (a c : Nat) (vs : List Int), (nodesF l (memS m s) 0).flatMap (placesF l (memS m s)) = List.replicate a 1 ++ (vs ++ List.replicate c 0) ∧ ∀ v ∈ vs, 2 ≤ v
  lt : CellsLt (memS m s)
  len : m.length = l.size.toNat
def PlcAll (l : LayT) (tl : Int) (m0 : List Int) (st : List StepT) : Prop := ∀ (i : Nat) (s : StepT), st[i]? = some s → PlcOk l tl ((st.take i).foldl memS m0) s
theorem seg_cas {p : PlayT} (hp : PlayG p) {K : Nat} {V : Vw} {qs : List (Q Sk)} {F X : List Int} {g : SegG} (hI : Inv (spP p) (layP p) p.want.length (nP p) K V qs F X g) {w : Nat} {q : Q Sk} (hq : qs[w]? = some q) (hf : q.pc.asking) (h3 : (accP p w q).kind = 3) (hc : (layP p).node ≤ (accP p w q).cell) (h1 : 1 ≤ ((accP p w q).cell - (layP p).node) % 8) (h5 : ((accP p w q).cell - (layP p).node) % 8 ≤ 5) : ((accP p w q).old = 0 ∧ 1 < (accP p w q).new) ∨ (1 < (accP p w q).old ∧ (accP p w q).new = 1) := by
  have hL := layP_lay p hp.ok.w1
  have hLy := segLayP p
  have hpc := (hI.loc w q hq).pc
  have hfr := hL.free
  have hlow := hL.low
  have hok := ask_ok (soundP p) hI hq hf
  obtain ⟨pc, s⟩ := q
  cases pc with
  | at_ k =>
    have hkl : segKL (hdP p) (tlP p) (nP p) V.W (Pr (spP p) V X qs w s) k := hpc.1
    cases k with
    | sc v m u i => left; exact ⟨rfl, by have := hkl.1.1; show 1 < v + 2; omega⟩
    | rc u i x => right; exact ⟨by have := hkl.2.2.2.2.1; show 1 < x; omega, rfl⟩
    | st v m u nx => have : (layP p).node ≤ tlP p := hc; have := hLy.t2; omega
    | sb u m a => have : (layP p).node ≤ tlP p := hc; have := hLy.t2; omega
    | rt u nx en => have : (layP p).node ≤ tlP p := hc; have := hLy.t2; omega
    | rh u nx => have : (layP p).node ≤ hdP p := hc; have := hLy.h2; omega
    | sa v m u =>
      obtain ⟨o1, o2, _, _⟩ := hok
      have e := hL.node (ofW u).idx 0 o1 o2 (by omega) (by omega)
      have h1 : 1 ≤ (nodeF (layP p) (ofW u).idx 0 - (layP p).node) % 8 := h1
      rw [e] at h1
      omega
    | _ => cases h3
  | t3 k f lk => have : (layP p).node ≤ (layP p).free := hc; omega
  | v3 k n f => have : (layP p).node ≤ (layP p).free := hc; omega
  | w3 k held y gs stay f => have : (layP p).node ≤ (layP p).free := hc; omega
  | fin o => exact absurd hf id
  | clr k => exact absurd hf id
  | _ => cases h3
structure PlcJ (p : PlayT) (s : PSt) : Prop where
  all : PlcAll (layP p) (tlP p) (beginF (layP p)) s.out
  mem : s.out.foldl memS (beginF (layP p)) = s.m
  lt : CellsLt s.m
theorem plc_step {p : PlayT} (hp : PlayG p) {i : Nat} {s s' : PSt} {V V' : Vw} {F X F' X' : List Int} {g g' : SegG} (hi : i < allF p) (hG : G p i s V F X g) (hS : StepR p (whoF p i) s V F X g s' V' F' X' g') (hG' : G p (i + 1) s' V' F' X' g') (h : PlcJ p s) : PlcJ p s' := by
  have hL := layP_lay p hp.ok.w1
  have hN := nP_le p
  have hlt := cells_step hp hi hG hS h.lt
  have hall : allF p ≤ 3200 := by have := hp.ok.w3; have := hp.ok.t; unfold allF; omega
  generalize whoF p i = who at *
  cases hS with
  | idle => exact h
  | done x ws op q o hx hws ho hq hpc =>
    refine ⟨all_snoc (C := PlcOk (layP p) (tlP p)) h.all ⟨(fun e => by cases e), (fun e => by cases e), (fun e => by cases e), (fun e => by cases e), (fun e => by cases e), by rw [h.mem]; exact h.lt, by rw [h.mem]; exact hG.view.len⟩, ?_, hlt⟩
    simp only [foldl_snoc, h.mem]
    rfl
  | acc x ws op q hx hws ho hq hpc =>
    have hqg := qs_at hx hws hq
    have her := hG.inv.er
    have hact := acts hL hG.view (a := asks (mP p) who q.pc) ⟨by omega, by omega⟩ (ask_ok (soundP p) hG.inv hqg hpc)
    have hSI : SegSI (hdP p) (tlP p) (nP p) (i + 1) _ _ _ _ := hG'.inv.si
    have hview := hG'.view
    have hmem : ∀ st : StepT, st = ⟨who, x.at_, op0F op, x.gone, accP p who q, (actP p who V q).2, false, out0⟩ → memS s.m st = (turnF s.m (accP p who q)).1 := fun st e => by subst e; rfl
    have htl : atF (turnF s.m (accP p who q)).1 (tlP p) = (actP p who V q).1.W.ob (tlP p) := atF_ad hL hview (a := .ob (tlP p)) ⟨(segLayP p).t1, (segLayP p).t2⟩
    have hnod : nodesF (layP p) (turnF s.m (accP p who q)).1 0 = (nxX (spP p) V.W X g q.pc).1 := nodes_is hL (segLayP p) rfl (by omega) hview hG'.inv
    have hseq : (nodesF (layP p) (turnF s.m (accP p who q)).1 0).flatMap (placesF (layP p) (turnF s.m (accP p who q)).1) = seqW (actP p who V q).1.W (nxX (spP p) V.W X g q.pc).1 := by rw [hnod]; exact seq_is hL hview hG'.inv
    refine ⟨all_snoc (C := PlcOk (layP p) (tlP p)) h.all ⟨fun _ h3 _ hc h1 h5 => seg_cas hp hG.inv hqg hpc h3 hc h1 h5, fun _ => by rw [h.mem]; exact hact.fault, fun _ => ?_, fun _ => ?_, fun _ => ?_, ?_, by rw [h.mem]; exact hG.view.len⟩, ?_, hlt⟩
    · rw [h.mem, hmem _ rfl, htl, hnod]
      exact hSI.tX (by omega)
    · rw [h.mem, hmem _ rfl, htl]
      exact (hSI.seenT (by omega)).nn
    · rw [h.mem, hmem _ rfl, hseq]
      obtain ⟨a, c, h1, _, _⟩ := hSI.seq
      exact ⟨a, c, _, h1, fun v hv => (hSI.vs v hv).1⟩
    · rw [h.mem, hmem _ rfl]; exact hlt
    · simp only [foldl_snoc, h.mem]
      rfl
theorem places_true {p : PlayT} (hp : PlayG p) : (playedF p).ends = true ∧ PlcAll (layP p) (tlP p) (beginF (layP p)) (playedF p).steps := by
  obtain ⟨s, V, F, X, g, h1, h2, h3, h4⟩ := played_end hp (fun _ s _ _ _ _ => PlcJ p s) (fun i s V F X g s' V' F' X' g' hi hG hS hG' h => plc_step hp hi hG hS hG' h) ⟨fun i s h => by simp [start] at h, rfl, cells_start hp.ok⟩
  rw [playedF_end h1 h4]
  exact ⟨rfl, h3.all⟩
end Go.Proofs.Ytgoijmomglomlaa
