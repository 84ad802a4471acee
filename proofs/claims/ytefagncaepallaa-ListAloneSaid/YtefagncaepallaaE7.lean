/- Plays, step by step: their walk. -/
import Derived.Test.YtefagncaepallaaE6
import Derived.Test.YtefagncaepallaaG6
import Derived.Test.YtefagncaepallaaPB
namespace Go.Proofs.Ytefagncaepallaa
open Go.RowKit
set_option maxRecDepth 100000

/-- What holds of a play under way. -/
structure Under (p : PlayT) (i : Nat) (s : PSt) : Prop where
  n : s.seats.length = p.want.length
  m : s.m.length = (layP p).size.toNat
  out : s.out.length ≤ i
  log : ∀ x ∈ s.seats, x.log.length ≤ i
  gone : ∀ x ∈ s.seats, x.gone.length ≤ 9 ∧ GoneOk x.gone
  at_ : ∀ x ∈ s.seats, x.at_ ≤ i
theorem lowStart (n : Nat) : ((List.replicate n [dI 0, Dt.p (.sl true 0 []), Dt.p (.sl true 0 [])]).flatten).map lowD = seatsC (List.replicate n ⟨0, [], []⟩) := by
  rw [← seatsC_start, List.map_flatten, List.map_replicate]
  rfl
theorem pSteps_snoc (l : List StepT) (s : StepT) : pSteps l ++ pStep s = pSteps (l ++ [s]) := by simp [pSteps]
theorem allG_len (xs0 : List Int) : ∀ (l : List AccT) (cur : List Int) (told : List ResT), xs0.length = cur.length → (allG xs0 cur told l).1.length = cur.length
  | [], cur, told, h => rfl
  | a :: l, cur, told, h => by
    rw [allG]
    split
    · rw [allG_len xs0 l _ _ (by rw [turnF_len]; exact h), turnF_len]
    · exact h
theorem beginF_len (l : LayT) : (beginF l).length = l.size.toNat := by
  unfold beginF
  rw [allG_len _ _ _ _ rfl]; simp
theorem layP_size (p : PlayT) : (layP p).size = 27 + 12 * (p.want.length : Int) + 8 * (p.nodes % 8) := by simp only [layP, layF]; omega
theorem seatsC_low (l : List SeatT) : (seatsC l).map lowD = seatsC l := by
  unfold seatsC
  rw [List.map_flatMap]
  rfl
theorem stored_low {l : List SeatT} {i : Nat} (y : SeatT) {ds : List Dt} (hi : i < l.length) (hd : ds.map lowD = seatC y) : (stored (seatsC l) (i * 3) ds).map lowD = seatsC (l.set i y) := by
  have hl : ds.length = (seatC y).length := by rw [← hd]; simp
  rw [← seatsC_set y hi, ← hd]
  unfold stored
  rw [List.map_append, List.map_append, List.map_take, List.map_drop, seatsC_low, List.length_map]
theorem Under.done {p : PlayT} {i : Nat} {s : PSt} (h : Under p i s) {wh : Nat} {x : SeatT} (hx : s.seats[wh]? = some x) {g : List (Int × Int)} (hg : g.length ≤ 9 ∧ GoneOk g) (st : StepT) : Under p (i + 1) ⟨s.m, s.seats.set wh ⟨x.at_ + 1, [], g⟩, s.out ++ [st]⟩ := by
  have hm := List.mem_of_getElem? hx
  have hmem : ∀ y ∈ s.seats.set wh ⟨x.at_ + 1, [], g⟩, y ∈ s.seats ∨ y = ⟨x.at_ + 1, [], g⟩ := fun y hy => List.mem_or_eq_of_mem_set hy
  refine ⟨by simp [h.n], h.m, by simp; exact h.out, fun y hy => ?_, fun y hy => ?_, fun y hy => ?_⟩
  · rcases hmem y hy with hy | rfl
    · have := h.log y hy; omega
    · simp
  · rcases hmem y hy with hy | rfl
    · exact h.gone y hy
    · exact hg
  · rcases hmem y hy with hy | rfl
    · have := h.at_ y hy; omega
    · have := h.at_ x hm; simp only; omega
theorem Under.same {p : PlayT} {i : Nat} {s : PSt} (h : Under p i s) : Under p (i + 1) s :=
  ⟨h.n, h.m, Nat.le_succ_of_le h.out, fun y hy => Nat.le_succ_of_le (h.log y hy), h.gone, fun y hy => Nat.le_succ_of_le (h.at_ y hy)⟩
theorem Under.turn {p : PlayT} {i : Nat} {s : PSt} (h : Under p i s) {wh : Nat} {x : SeatT} (hx : s.seats[wh]? = some x) (a : AccT) (r : ResT) (st : StepT) : Under p (i + 1) ⟨(turnF s.m a).1, s.seats.set wh { x with log := x.log ++ [r] }, s.out ++ [st]⟩ := by
  have hm := List.mem_of_getElem? hx
  have hmem : ∀ y ∈ s.seats.set wh { x with log := x.log ++ [r] }, y ∈ s.seats ∨ y = { x with log := x.log ++ [r] } := fun y hy => List.mem_or_eq_of_mem_set hy
  refine ⟨by simp [h.n], by rw [← h.m]; exact turnF_len _ _, by simp; exact h.out, fun y hy => ?_, fun y hy => ?_, fun y hy => ?_⟩
  · rcases hmem y hy with hy | rfl
    · have := h.log y hy; omega
    · have := h.log x hm; simp; omega
  · rcases hmem y hy with hy | rfl
    · exact h.gone y hy
    · exact h.gone x hm
  · rcases hmem y hy with hy | rfl
    · have := h.at_ y hy; omega
    · have := h.at_ x hm; simp only; omega
theorem Under.step {p : PlayT} {i : Nat} {s s' : PSt} {V V' : Vw} {F X F' X' : List Int} {g g' : LstG} (h : Under p i s) (hG : G p i s V F X g) {who : Nat} (hS : StepR p who s V F X g s' V' F' X' g') : Under p (i + 1) s' := by
  cases hS with
  | idle => exact h.same
  | done x ws op q o hx hw ho hq hpc =>
    refine h.done hx ?_ _
    have hqg : (qsOf p s.seats)[who]? = some q := by rw [hq]; exact qsOf_get hx hw
    have hin : ∀ y ∈ q.s.gone, y.1 ∈ own (spP p) q := fun y hy => by
      unfold own deadQ goneP
      rw [hpc]
      exact List.mem_append_right _ (List.mem_append_right _ (List.mem_map_of_mem hy))
    refine ⟨?_, fun y hy => ?_⟩
    · have h1 := own_len hG.inv hqg
      have h2 := nP_le p
      unfold own deadQ goneP at h1
      rw [hpc] at h1
      simp only [List.length_append, List.length_map] at h1
      omega
    · have h1 := hG.inv.inOwn hqg (hin y hy)
      have h2 := nP_le p
      omega
  | acc x ws op q hx hw ho hq hpc => exact h.turn hx _ _ _
theorem pLog_len (l : List ResT) : (pLog l).length = l.length * 2 := by
  induction l with
  | nil => rfl
  | cons a l ih => unfold pLog at ih ⊢; rw [List.flatMap_cons, List.length_append, ih]; simp [pRes]; omega
set_option maxHeartbeats 16000000 in
theorem played_c (p : PlayT) (hp : PlayG p) : PureC Try.prog 11 [dPlay p] (dPlayed (playedF p)) := by
  have h := hp.ok
  have hG0 := G_start hp
  have hw1 := h.w1
  have hw3 := h.w3
  have ht := h.t
  have hsz := layP_size p
  have hL : LayOk (layP p) := layP_ok hw1 (by omega)
  have hW := where_c p hw1 (by omega) h.n0
  have hlb := beginF_len (layP p)
  have hBg := begin_c (layP p) hL (by show 2 ≤ 2 + p.nodes % 8; omega) (by show 2 + p.nodes % 8 ≤ 1000; omega) (by omega) (by omega)
  generalize hE : playedF p = E
  unfold playedF at hE
  generalize hR : playL (layP p) p (allF p) 0 (start p) = R at hE
  unfold start at hR hG0
  generalize hl : layP p = l at *
  generalize beginF l = m0 at *
  refine pure_fin tabOk Try.func11 rfl Try.ntmps11 rfl rfl rfl fun w cl => ?_
  refine go ?_
  refine a_q (call_step (hW) rfl (fun a w => Try.call10 a w) rfl) rfl rfl rfl ?_
  refine go ?_
  refine a_q (call_step (hBg) rfl (fun a w => Try.call12 a w) rfl) rfl rfl rfl ?_
  refine go ?_
  refine a_b (makeG_step tabOk 200 (c := p.want.length) (List.replicate p.want.length [dI 0, Dt.p (.sl true 0 []), Dt.p (.sl true 0 [])]).flatten rfl rfl rfl rfl rfl rfl rfl rfl rfl (by show _ * 56 ≤ _; omega) (by unfold maxLen; omega) rfl) rfl rfl rfl rfl ?_
  refine aops_ghost (lowB_ghost 200 rfl (lowStart p.want.length)) ?_
  refine go ?_
  rw [show IntKind.i64.wrap ((p.want.length : Int) * 1500) = (p.want.length : Int) * 1500 from wrap_id (by omega) (by omega)]
  refine go ?_
  refine awp_ghost (tip_ghost 10 0 52 19 rfl rfl rfl) ?_
  have hplx : ∀ {ss : List SeatT} (B : Nat → Bool) (G : Nat → Bool), Dt.ok.oks B G (seatsC ss) = true := fun B G => seatsC_plain _ B G
  have hall : (p.turns.length : Int) + (p.want.length : Int) * 1500 = (allF p : Int) := by unfold allF; omega
  have hallb : allF p ≤ 4700 := by unfold allF; omega
  rw [hall, show IntKind.i64.wrap (allF p : Int) = (allF p : Int) from wrap_id (by omega) (by omega)]
  refine awp_loop_ok (fun q : Nat × PSt => q.1 ≤ allF p ∧ Under p q.1 q.2 ∧ (∃ V F X g, G p q.1 q.2 V F X g) ∧ playL l p (allF p - q.1) q.1 q.2 = R) (fun q => ⟨[(12, dI q.1), (11, dI (allF p : Int)), (10, .tip 0 q.2.out.length (pSteps q.2.out)), (9, .arr 200 0 p.want.length p.want.length), (8, dI p.want.length), (1, .ptr 0 0), (3, .ptr 1 0), (6, .ptr 2 0), (7, .ptr 4 0)], [(200, seatsC q.2.seats), (4, [dInts q.2.m]), (2, layD l), (1, [.p (.sl true 0 [])]), (0, playD p)], [(0, ⟨52, 19, q.2.out.length⟩)]⟩) (fun q => allF p - q.1) (0, ⟨m0, List.replicate p.want.length ⟨0, [], []⟩, []⟩) ⟨by simp, ⟨by simp, by rw [hlb, hl], by simp, by simp, by simp [GoneOk], by simp⟩, ⟨_, _, _, _, hG0⟩, hR⟩ (drop_ghost (by (repeat (first | exact trivial | refine ⟨⟨rfl, rfl⟩, ?_⟩))) (by (repeat (first | exact trivial | refine ⟨⟨rfl, rfl⟩, ?_⟩ | refine ⟨⟨rfl, hplx _ _⟩, ?_⟩))) (by (repeat (first | exact trivial | refine ⟨rfl, ?_⟩))) (by (repeat (first | exact trivial | refine ⟨rfl, ?_⟩)))) ?_
  rintro ⟨i, s⟩ ⟨hi, hU, ⟨V0', F0', X0', g0', hG⟩, hR⟩
  simp only at hi hU hG hR
  obtain ⟨m, seats, out⟩ := s
  refine (show AWP _ _ _ _ ⟨[(12, dI i), (11, dI (allF p : Int)), (10, .tip 0 out.length (pSteps out)), (9, .arr 200 0 p.want.length p.want.length), (8, dI p.want.length), (1, .ptr 0 0), (3, .ptr 1 0), (6, .ptr 2 0), (7, .ptr 4 0)], [(200, seatsC seats), (4, [dInts m]), (2, layD l), (1, [.p (.sl true 0 [])]), (0, playD p)], [(0, ⟨52, 19, out.length⟩)]⟩ from ?_)
  refine go ?_
  refine ck_b (fun h1 => ?_) (fun h1 => ?_) <;> try rw [h1]
  · have h1' : i < allF p := by have := of_decide_eq_true h1; omega
    have hwl := whoF_lt h h1'
    obtain ⟨s', V1', F1', X1', g1', hst, hS, hG'⟩ := hG.step hp (by omega) hwl
    have hU' := hU.step hG hS
    clear hS
    rw [hl] at hst
    have hRs : playL l p (allF p - i - 1 + 1) i ⟨m, seats, out⟩ = R := by rw [show allF p - i - 1 + 1 = allF p - i by omega]; exact hR
    rw [playL, if_neg (by omega)] at hRs
    refine go ?_
    refine a_q (max_step rfl rfl rfl) rfl rfl rfl ?_
    refine goO ?_
    refine a_q (quo_step rfl rfl rfl (by split <;> omega) (by omega) (by split <;> omega)) rfl rfl rfl ?_
    refine goO ?_
    refine q_then_normal ?_
    refine awp_cut ⟨[(13, dI (whoF p i : Int)), (12, dI i), (11, dI (allF p : Int)), (10, .tip 0 out.length (pSteps out)), (9, .arr 200 0 p.want.length p.want.length), (8, dI p.want.length), (1, .ptr 0 0), (3, .ptr 1 0), (6, .ptr 2 0), (7, .ptr 4 0)], [(200, seatsC seats), (4, [dInts m]), (2, layD l), (1, [.p (.sl true 0 [])]), (0, playD p)], [(0, ⟨52, 19, out.length⟩)]⟩ ?_ ?_
    · refine go ?_
      refine ck_b (fun h2 => ?_) (fun h2 => ?_) <;> try rw [h2]
      · have h2' : (i : Int) < p.turns.length := of_decide_eq_true h2
        obtain ⟨t, hti⟩ := getI (l := p.turns) (i := i) (by omega) h2'
        have hti' := hti
        simp only [Int.toNat_natCast] at hti'
        have htb := h.u t (List.mem_of_getElem? hti')
        refine go ?_
        refine a_q (indexAddr_step tabOk [p8 t] rfl rfl rfl rfl rfl rfl (by first | omega | (simp; done) | (simp; omega)) (by first | omega | (simp; done) | (simp; omega)) (by first | (simp; done) | exact List.cons_ne_nil _ _) (map_idx hti)) rfl rfl rfl ?_
        refine goK ?_
        have hw : t % (p.want.length : Int) = (whoF p i : Int) := by
          unfold whoF
          rw [hti']
          have := Int.emod_nonneg t (show (p.want.length : Int) ≠ 0 by omega)
          simp only
          omega
        rw [hw]
        exact ⟨rfl, drop_ghost (by (repeat (first | exact trivial | refine ⟨⟨rfl, rfl⟩, ?_⟩))) (by (repeat (first | exact trivial | refine ⟨⟨rfl, rfl⟩, ?_⟩ | refine ⟨⟨rfl, hplx _ _⟩, ?_⟩))) (by (repeat (first | exact trivial | refine ⟨rfl, ?_⟩))) (by (repeat (first | exact trivial | refine ⟨rfl, ?_⟩)))⟩
      · have h2' : ¬ (i : Int) < p.turns.length := of_decide_eq_false h2
        refine go ?_
        have hw : (if (i : Int) - p.turns.length > 0 then (i : Int) - p.turns.length else 0) / 1500 = (whoF p i : Int) := by
          unfold whoF
          rw [List.getElem?_eq_none (by omega)]
          simp only
          split <;> omega
        rw [hw]
        exact ⟨rfl, drop_ghost (by (repeat (first | exact trivial | refine ⟨⟨rfl, rfl⟩, ?_⟩))) (by (repeat (first | exact trivial | refine ⟨⟨rfl, rfl⟩, ?_⟩ | refine ⟨⟨rfl, hplx _ _⟩, ?_⟩))) (by (repeat (first | exact trivial | refine ⟨rfl, ?_⟩))) (by (repeat (first | exact trivial | refine ⟨rfl, ?_⟩)))⟩
    generalize whoF p i = wh at hwl hRs hst
    obtain ⟨x, hx⟩ : ∃ x, seats[wh]? = some x := ⟨seats[wh]'(by have := hU.n; simp only at this; omega), List.getElem?_eq_getElem _⟩
    obtain ⟨ws, hws⟩ : ∃ ws, p.want[wh]? = some ws := ⟨p.want[wh], List.getElem?_eq_getElem hwl⟩
    have hws' : p.want[(wh : Int).toNat]? = some ws := by simpa using hws
    have hwsl := h.l ws (List.mem_of_getElem? hws)
    obtain ⟨rest, hrest⟩ := seatsC_at hx
    have hxl := hU.log x (List.mem_of_getElem? hx)
    have hxg := hU.gone x (List.mem_of_getElem? hx)
    have hxa := hU.at_ x (List.mem_of_getElem? hx)
    have hsl := hU.n
    simp only at hsl
    have hol := hU.out
    simp only at hol
    have hml := hU.m
    simp only at hml
    rw [hl] at hml
    refine go ?_
    rw [show decide ((wh : Int) ≥ p.want.length) = false by rw [decide_eq_false_iff_not]; omega]
    refine go ?_
    refine a_q (indexAddrA_step (p := wh * 3) tabOk rfl rfl rfl rfl rfl (by omega) (by omega) (by show wh * 3 = (wh : Int).toNat * 3; omega)) rfl rfl rfl ?_
    refine a_q (loadG_step tabOk (seatC x) rest rfl rfl rfl rfl rfl (by rw [seatsC_len]; omega) hrest rfl) rfl rfl rfl ?_
    refine go ?_
    refine awp_region_q [] rfl (by kernel_rfl) (by kernel_rfl) ?_
    refine goQ ?_
    refine r_q (indexAddr_step tabOk [plOps ws] rfl rfl rfl rfl rfl rfl (by first | omega | (simp; done) | (simp; omega)) (by first | omega | (simp; done) | (simp; omega)) (by first | (simp; done) | exact List.cons_ne_nil _ _) (map_idx hws')) rfl rfl ?_
    refine goQ ?_
    refine go ?_
    generalize h3 : decide ((x.at_ : Int) ≥ ws.length) = cc; cases cc
    · have h3' : x.at_ < ws.length := by have := of_decide_eq_false h3; omega
      obtain ⟨op0, hop⟩ : ∃ o, ws[x.at_]? = some o := ⟨ws[x.at_], List.getElem?_eq_getElem h3'⟩
      have hop' : ws[(x.at_ : Int).toNat]? = some op0 := by simpa using hop
      have hC := next_c l hL wh x.gone { op0 with obj := l.map } x.log hxg.2 (by omega)
      simp only [stepP, hx, hws, hop] at hRs hst
      generalize nextF l wh x.gone { op0 with obj := l.map } x.log = r at hC hst hRs
      obtain ⟨a, told, dn⟩ := r
      dsimp only [dNx] at hC
      simp only at hst hRs
      refine go ?_
      refine awp_region_q [] rfl (by kernel_rfl) (by kernel_rfl) ?_
      refine goQ ?_
      refine r_q (indexAddr_step tabOk [plOps ws] rfl rfl rfl rfl rfl rfl (by first | omega | (simp; done) | (simp; omega)) (by first | omega | (simp; done) | (simp; omega)) (by first | (simp; done) | exact List.cons_ne_nil _ _) (map_idx hws')) rfl rfl ?_
      refine goQ ?_
      refine r_q (indexAddr_step tabOk [pI op0.kind, pI op0.obj, pI op0.a, pI op0.b] rfl rfl rfl rfl rfl rfl (by first | omega | (simp; done) | (simp; omega)) (by first | omega | (simp; done) | (simp; omega)) (by first | (simp; done) | exact List.cons_ne_nil _ _) (ops_idx hop')) rfl rfl ?_
      refine goQ ?_
      refine go ?_
      refine a_q (call_step (hC) rfl (fun a w => Try.call20 a w) rfl) rfl rfl rfl ?_
      refine go ?_
      cases dn
      · simp only [Bool.false_eq_true, ↓reduceIte] at hRs hst
        refine ck_f ?_
        refine awp_ghost (lowB_ghost 14 rfl rfl) ?_
        have hM := memDo_c m a (by omega)
        unfold memDoF at hM
        generalize hf : decide (faultF m.length a = 0) = cc; cases cc
        · have hf' := of_decide_eq_false hf
          rw [if_neg hf'] at hst
          cases hst
        · have hf' := of_decide_eq_true hf
          rw [if_pos hf'] at hM
          rw [if_pos hf'] at hRs hst
          generalize turnF m a = tr at hM hRs hst
          obtain ⟨m1, rs⟩ := tr
          dsimp only at hM hRs hst
          cases hst
          refine go ?_
          refine a_q (call_step (hM) rfl (fun a w => Try.call13 a w) rfl) rfl rfl rfl ?_
          refine go ?_
          rw [show decide ((0 : Int) = 0) = true from rfl]
          refine go ?_
          refine a_append (m := 1) (ps := pSteps out) (qs := pStep ⟨wh, x.at_, { op0 with obj := l.map }, x.gone, a, rs, false, out0⟩) tabOk rfl rfl rfl rfl rfl rfl rfl rfl rfl rfl rfl rfl rfl (by unfold maxLen; omega) (by show (_ + _) * 184 ≤ _; omega) ?_
          rw [pSteps_snoc, show out.length + 1 = (out ++ [(⟨wh, x.at_, { op0 with obj := l.map }, x.gone, a, rs, false, out0⟩ : StepT)]).length by simp]
          refine go ?_
          refine awp_region_w 8 [] rfl rfl (by kernel_rfl) (by kernel_rfl) (by kernel_rfl) ?_
          refine goQ ?_
          refine r_appendx (n' := 0) (m := x.log.length) (ps := []) (qs := pLog x.log) tabOk 1 rfl rfl rfl rfl rfl rfl rfl rfl rfl rfl rfl rfl rfl (pLog_len x.log) (by unfold maxLen; omega) (by show (_ + _) * 16 ≤ _; omega) ?_
          rw [show 0 + x.log.length = x.log.length from Nat.zero_add _, List.nil_append]
          refine goQ ?_
          refine r_append (m := 1) (qs := pRes rs) tabOk rfl rfl rfl rfl rfl rfl rfl rfl rfl rfl rfl rfl rfl (by unfold maxLen; omega) (by show (_ + _) * 16 ≤ _; omega) ?_
          rw [show pLog x.log ++ pRes rs = pLog (x.log ++ [rs]) by simp [pLog], show x.log.length + 1 = (x.log ++ [rs]).length by simp]
          refine goQ ?_
          refine go ?_
          refine a_q (indexAddrA_step (p := wh * 3) tabOk rfl rfl rfl rfl rfl (by omega) (by omega) (by show wh * 3 = (wh : Int).toNat * 3; omega)) rfl rfl rfl ?_
          refine a_storeG tabOk (stored (seatsC seats) (wh * 3) [dI (x.at_ : Int), .tip 1 (x.log ++ [rs]).length (pLog (x.log ++ [rs])), dGone x.gone]) rfl rfl rfl rfl rfl rfl rfl rfl rfl (by rw [seatsC_len]; show wh * 3 + 3 ≤ _; omega) rfl ?_
          refine aops_ghost (lowB_ghost 200 rfl (stored_low { x with log := x.log ++ [rs] } (by omega) rfl)) ?_
          refine go ?_
          exact ⟨(i + 1, ⟨m1, seats.set wh { x with log := x.log ++ [rs] }, out ++ [⟨wh, x.at_, { op0 with obj := l.map }, x.gone, a, rs, false, out0⟩]⟩), ⟨by simp only; omega, hU', ⟨_, _, _, _, hG'⟩, by simp only; rw [show allF p - (i + 1) = allF p - i - 1 by omega]; exact hRs⟩, by simp only; omega, drop_ghost (by (repeat (first | exact trivial | refine ⟨⟨rfl, rfl⟩, ?_⟩))) (by (repeat (first | exact trivial | refine ⟨⟨rfl, rfl⟩, ?_⟩ | refine ⟨⟨rfl, hplx _ _⟩, ?_⟩))) (by (repeat (first | exact trivial | refine ⟨rfl, ?_⟩))) (by (repeat (first | exact trivial | refine ⟨rfl, ?_⟩)))⟩
      · simp only [↓reduceIte] at hRs hst
        cases hst
        refine ck_t ?_
        refine awp_ghost (lowB_ghost 14 rfl rfl) ?_
        refine go ?_
        refine a_q (indexAddrA_step (p := wh * 3) tabOk rfl rfl rfl rfl rfl (by omega) (by omega) (by show wh * 3 = (wh : Int).toNat * 3; omega)) rfl rfl rfl ?_
        refine a_storeG tabOk (stored (seatsC seats) (wh * 3) [dI ((x.at_ : Int) + 1), .p (.sl true 0 []), dGone told.gone]) rfl rfl rfl rfl rfl rfl rfl rfl rfl (by rw [seatsC_len]; show wh * 3 + 3 ≤ _; omega) rfl ?_
        refine aops_ghost (lowB_ghost 200 rfl (stored_low ⟨x.at_ + 1, [], told.gone⟩ (by omega) rfl)) ?_
        refine go ?_
        refine a_append (m := 1) (ps := pSteps out) (qs := pStep ⟨wh, x.at_, { op0 with obj := l.map }, x.gone, acc0, res0, true, told⟩) tabOk rfl rfl rfl rfl rfl rfl rfl rfl rfl rfl rfl rfl rfl (by unfold maxLen; omega) (by show (_ + _) * 184 ≤ _; omega) ?_
        rw [pSteps_snoc, show out.length + 1 = (out ++ [(⟨wh, x.at_, { op0 with obj := l.map }, x.gone, acc0, res0, true, told⟩ : StepT)]).length by simp]
        refine go ?_
        exact ⟨(i + 1, ⟨m, seats.set wh ⟨x.at_ + 1, [], told.gone⟩, out ++ [⟨wh, x.at_, { op0 with obj := l.map }, x.gone, acc0, res0, true, told⟩]⟩), ⟨by simp only; omega, hU', ⟨_, _, _, _, hG'⟩, by simp only; rw [show allF p - (i + 1) = allF p - i - 1 by omega]; exact hRs⟩, by simp only; omega, drop_ghost (by (repeat (first | exact trivial | refine ⟨⟨rfl, rfl⟩, ?_⟩))) (by (repeat (first | exact trivial | refine ⟨⟨rfl, rfl⟩, ?_⟩ | refine ⟨⟨rfl, hplx _ _⟩, ?_⟩))) (by (repeat (first | exact trivial | refine ⟨rfl, ?_⟩))) (by (repeat (first | exact trivial | refine ⟨rfl, ?_⟩)))⟩
    · have h3' : ws.length ≤ x.at_ := by have := of_decide_eq_true h3; omega
      simp only [stepP, hx, hws, List.getElem?_eq_none h3'] at hRs hst
      cases hst
      refine go ?_
      exact ⟨(i + 1, ⟨m, seats, out⟩), ⟨by simp only; omega, hU', ⟨_, _, _, _, hG'⟩, by simp only; rw [show allF p - (i + 1) = allF p - i - 1 by omega]; exact hRs⟩, by simp only; omega, drop_ghost (by (repeat (first | exact trivial | refine ⟨⟨rfl, rfl⟩, ?_⟩))) (by (repeat (first | exact trivial | refine ⟨⟨rfl, rfl⟩, ?_⟩ | refine ⟨⟨rfl, hplx _ _⟩, ?_⟩))) (by (repeat (first | exact trivial | refine ⟨rfl, ?_⟩))) (by (repeat (first | exact trivial | refine ⟨rfl, ?_⟩)))⟩
  · have h1' : i = allF p := by have := of_decide_eq_false h1; omega
    rw [show allF p - i = 0 by omega, playL] at hR
    subst hR
    simp only at hE
    have hsl := hU.n
    simp only at hsl
    refine go ?_
    refine awp_ghost (tip_ghost 23 1 43 1 rfl rfl rfl) ?_
    refine awp_loop_ok (fun j : Nat => j ≤ p.want.length) (fun j => ⟨[(25, dI j), (24, dB (((seats.zip p.want).take j).all fun q => decide (q.2.length ≤ q.1.at_))), (23, .tip 1 j ((seats.take j).map fun x => plGone x.gone)), (10, .tip 0 out.length (pSteps out)), (9, .arr 200 0 p.want.length p.want.length), (8, dI p.want.length), (1, .ptr 0 0), (3, .ptr 1 0), (7, .ptr 4 0)], [(200, seatsC seats), (4, [dInts m]), (1, [.p (.sl true 0 [])]), (0, playD p)], [(1, ⟨43, 1, j⟩), (0, ⟨52, 19, out.length⟩)]⟩) (fun j => p.want.length - j) 0 (by omega) (drop_ghost (by (repeat (first | exact trivial | refine ⟨⟨rfl, rfl⟩, ?_⟩))) (by (repeat (first | exact trivial | refine ⟨⟨rfl, rfl⟩, ?_⟩ | refine ⟨⟨rfl, hplx _ _⟩, ?_⟩))) (by (repeat (first | exact trivial | refine ⟨rfl, ?_⟩))) (by (repeat (first | exact trivial | refine ⟨rfl, ?_⟩)))) ?_
    intro j hj
    refine go ?_
    refine ck_b (fun h2 => ?_) (fun h2 => ?_) <;> try rw [h2]
    · have h2' : j < p.want.length := by have := of_decide_eq_true h2; omega
      obtain ⟨x, hx⟩ : ∃ x, seats[j]? = some x := ⟨seats[j]'(by omega), List.getElem?_eq_getElem _⟩
      obtain ⟨ws, hws⟩ : ∃ ws, p.want[j]? = some ws := ⟨p.want[j], List.getElem?_eq_getElem h2'⟩
      have hws' : p.want[(j : Int).toNat]? = some ws := by simpa using hws
      have hz : (seats.zip p.want)[j]? = some (x, ws) := by rw [List.getElem?_zip_eq_some]; exact ⟨hx, hws⟩
      have hg := seatsC_get hx
      refine go ?_
      refine a_q (indexAddrA_step (p := j * 3) tabOk rfl rfl rfl rfl rfl (by omega) (by omega) (by show j * 3 = (j : Int).toNat * 3; omega)) rfl rfl rfl ?_
      refine go ?_
      refine a_q (loadAt_step tabOk rfl rfl rfl rfl rfl hg.2) rfl rfl rfl ?_
      refine go ?_
      refine a_append (m := 1) (qs := [plGone x.gone]) tabOk rfl rfl rfl rfl rfl rfl rfl rfl rfl rfl rfl rfl rfl (by unfold maxLen; omega) (by show (_ + _) * 24 ≤ _; omega) ?_
      rw [show ((seats.take j).map fun x => plGone x.gone) ++ [plGone x.gone] = (seats.take (j + 1)).map fun x => plGone x.gone by rw [List.take_add_one, hx]; simp]
      refine go ?_
      have hzt : (((seats.zip p.want).take (j + 1)).all fun q => decide (q.2.length ≤ q.1.at_)) = ((((seats.zip p.want).take j).all fun q => decide (q.2.length ≤ q.1.at_)) && decide (ws.length ≤ x.at_)) := by
        rw [List.take_add_one, hz, List.all_append]; simp
      generalize (((seats.zip p.want).take j).all fun q => decide (q.2.length ≤ q.1.at_)) = b at hzt
      cases b
      · refine awp_region_q [] rfl (by kernel_rfl) (by kernel_rfl) ?_
        refine goQ ?_
        refine go ?_
        exact ⟨j + 1, by omega, by omega, by rw [hzt]; exact drop_ghost (by (repeat (first | exact trivial | refine ⟨⟨rfl, rfl⟩, ?_⟩))) (by (repeat (first | exact trivial | refine ⟨⟨rfl, rfl⟩, ?_⟩ | refine ⟨⟨rfl, hplx _ _⟩, ?_⟩))) (by (repeat (first | exact trivial | refine ⟨rfl, ?_⟩))) (by (repeat (first | exact trivial | refine ⟨rfl, ?_⟩)))⟩
      · refine awp_region_q [] rfl (by kernel_rfl) (by kernel_rfl) ?_
        refine goQ ?_
        refine r_q (indexAddrA_step (p := j * 3) tabOk rfl rfl rfl rfl rfl (by omega) (by omega) (by show j * 3 = (j : Int).toNat * 3; omega)) rfl rfl ?_
        refine goQ ?_
        refine r_q (loadAt_step tabOk rfl rfl rfl rfl rfl hg.1) rfl rfl ?_
        refine goQ ?_
        refine r_q (indexAddr_step tabOk [plOps ws] rfl rfl rfl rfl rfl rfl (by first | omega | (simp; done) | (simp; omega)) (by first | omega | (simp; done) | (simp; omega)) (by first | (simp; done) | exact List.cons_ne_nil _ _) (map_idx hws')) rfl rfl ?_
        refine goQ ?_
        refine go ?_
        refine ⟨j + 1, by omega, by omega, ?_⟩
        rw [hzt, Bool.true_and, show decide (ws.length ≤ x.at_) = decide ((x.at_ : Int) ≥ ws.length) by simp only [decide_eq_decide]; omega]
        exact drop_ghost (by (repeat (first | exact trivial | refine ⟨⟨rfl, rfl⟩, ?_⟩))) (by (repeat (first | exact trivial | refine ⟨⟨rfl, rfl⟩, ?_⟩ | refine ⟨⟨rfl, hplx _ _⟩, ?_⟩))) (by (repeat (first | exact trivial | refine ⟨rfl, ?_⟩))) (by (repeat (first | exact trivial | refine ⟨rfl, ?_⟩)))
    · have h2' : j = p.want.length := by have := of_decide_eq_false h2; omega
      refine go ?_
      refine awp_region_q [1] rfl (by kernel_rfl) (by kernel_rfl) ?_
      refine goQ ?_
      refine go ?_
      first | refine fin_ret rfl ?_ | refine fin_normal rfl ?_
      rw [← hE]
      simp only [dPlayed, dGones, dSteps, dMem, endsF, List.length_map, List.map_map]
      rw [List.take_of_length_le (by omega), List.take_of_length_le (by rw [List.length_zip]; omega), hsl, h2']
      rfl
end Go.Proofs.Ytefagncaepallaa
