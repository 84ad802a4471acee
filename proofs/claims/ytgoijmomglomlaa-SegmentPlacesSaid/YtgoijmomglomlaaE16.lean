/- A place is filled once, and received once: the law's walk. -/
import Derived.Test.YtgoijmomglomlaaE11
namespace Go.Proofs.Ytgoijmomglomlaa
open Go.RowKit
set_option maxRecDepth 100000

/-- How far a place is: received, filled, nothing. -/
def nowF (v : Int) : Int := if v = 1 then 0 else if 1 < v then 1 else 2
theorem nowF_le (v : Int) : 0 ≤ nowF v ∧ nowF v ≤ 2 := by unfold nowF; split <;> (try split) <;> omega
def MonoF (L : List Int) : Prop := ∀ (i j : Nat) (x y : Int), i ≤ j → L[i]? = some x → L[j]? = some y → nowF x ≤ nowF y
theorem mono_rows {L vs : List Int} {a c : Nat} (h : L = List.replicate a 1 ++ (vs ++ List.replicate c 0)) (hv : ∀ v ∈ vs, 2 ≤ v) : MonoF L := by
  subst h
  have key : ∀ i x, (List.replicate a (1 : Int) ++ (vs ++ List.replicate c 0))[i]? = some x → (i < a ∧ nowF x = 0) ∨ (a ≤ i ∧ i < a + vs.length ∧ nowF x = 1) ∨ (a + vs.length ≤ i ∧ nowF x = 2) := by
    intro i x hx
    rcases Nat.lt_or_ge i a with h1 | h1
    · left
      rw [List.getElem?_append_left (by simpa using h1), List.getElem?_replicate, if_pos h1] at hx
      cases hx
      exact ⟨h1, rfl⟩
    · right
      rw [List.getElem?_append_right (by simpa using h1), List.length_replicate] at hx
      rcases Nat.lt_or_ge (i - a) vs.length with h2 | h2
      · left
        rw [List.getElem?_append_left h2] at hx
        have := hv x (List.mem_of_getElem? hx)
        refine ⟨h1, by omega, ?_⟩
        unfold nowF
        rw [if_neg (by omega), if_pos (by omega)]
      · right
        rw [List.getElem?_append_right h2, List.getElem?_replicate] at hx
        split at hx
        · cases hx; exact ⟨by omega, rfl⟩
        · cases hx
  intro i j x y hij hx hy
  rcases key i x hx with h1 | h1 | h1 <;> rcases key j y hy with h2 | h2 | h2 <;> omega
theorem flat_get (l : LayT) (m : List Int) : ∀ (ns : List Int) (k : Nat) (n : Int), ns[k / 5]? = some n → (ns.flatMap (placesF l m))[k]? = some (atF m (nodeF l n (1 + (k : Int) % 5)))
  | [], k, n, h => by simp at h
  | x :: ns, k, n, h => by
    rw [List.flatMap_cons]
    rcases Nat.lt_or_ge k 5 with h1 | h1
    · rw [List.getElem?_append_left (by rw [places_len]; exact h1)]
      have h0 : k / 5 = 0 := by omega
      rw [h0] at h
      simp at h
      subst h
      match k, h1 with
      | 0, _ => rfl
      | 1, _ => rfl
      | 2, _ => rfl
      | 3, _ => rfl
      | 4, _ => rfl
    · rw [List.getElem?_append_right (by rw [places_len]; exact h1), places_len]
      have h0 : k / 5 = (k - 5) / 5 + 1 := by omega
      rw [h0] at h
      rw [flat_get l m ns (k - 5) n (by simpa using h), show (1 : Int) + ((k - 5 : Nat) : Int) % 5 = 1 + (k : Int) % 5 by omega]
set_option maxHeartbeats 8000000 in
theorem segmentPlaces_c (p : PlayT) (hf : PlayFits p) : PureC Try.prog 6 [dPlay p] (dB true) := by
  have hfew := few_c p
  have hpg := fun h => few_play hf h
  refine pure_fin tabOk Try.func6 rfl Try.ntmps6 rfl rfl rfl fun w cl => ?_
  refine go ?_
  refine a_q (call_step (awake_c) rfl (fun a w => Try.call9 a w) rfl) rfl rfl rfl ?_
  refine go ?_
  refine a_q (call_step (hfew) rfl (fun a w => Try.call19 a w) rfl) rfl rfl rfl ?_
  generalize fewF p = fb at *
  refine go ?_
  cases fb
  · refine go ?_
    first | refine fin_ret rfl ?_ | refine fin_normal rfl ?_
    rfl
  · have hp := hpg rfl
    obtain ⟨b1, b2⟩ := places_true hp
    have hw1 := hp.ok.w1
    have hw3 := hp.ok.w3
    have hW := where_c p hw1 (by omega) hp.ok.n0
    have hL : LayOk (layP p) := layP_ok hw1 (by omega)
    have hP := played_c p hp
    have hsz := layP_size p
    have hnd : (layP p).nodes = 2 + p.nodes % 8 := rfl
    have hBg := begin_c (layP p) hL (by omega) (by omega) (by omega) (by omega)
    have hlen := played_len hp
    have htl : tlP p = tailF (layP p) 0 := rfl
    rw [htl] at b2
    generalize layP p = l at *
    generalize playedF p = R at *
    obtain ⟨steps, m, gone, ends⟩ := R
    simp only at b1 b2 hlen
    subst b1
    dsimp only [dPlayed] at hP
    generalize beginF l = m0 at *
    refine go ?_
    refine a_q (call_step (hW) rfl (fun a w => Try.call10 a w) rfl) rfl rfl rfl ?_
    refine go ?_
    refine a_q (call_step (hP) rfl (fun a w => Try.call20 a w) rfl) rfl rfl rfl ?_
    refine go ?_
    refine a_q (call_step (hBg) rfl (fun a w => Try.call21 a w) rfl) rfl rfl rfl ?_
    refine go ?_
    refine awp_loop_ok (fun i : Nat => i ≤ steps.length) (fun i => ⟨[(10, dI i), (5, dSteps steps), (4, .ptr 1 0), (9, .ptr 5 0), (8, dB true), (3, dB true)], [(5, [dInts (memZ m0 steps i)]), (1, layD l), (0, playD p), (0, playD p), (0, playD p), (0, playD p)], []⟩) (fun i => steps.length - i) 0 (by omega) (zX) ?_
    intro i hi
    refine go ?_
    refine ck_b (fun h1 => ?_) (fun h1 => ?_) <;> try rw [h1]
    · have h1' : i < steps.length := by have := of_decide_eq_true h1; omega
      obtain ⟨s, hs⟩ := getI (l := steps) (i := i) (by omega) (by omega)
      have hs' := hs
      simp only [Int.toNat_natCast] at hs'
      have hnx := memZ_next m0 hs'
      have hok := b2 i s hs'
      rw [show (steps.take i).foldl memS m0 = memZ m0 steps i from rfl] at hok
      generalize memZ m0 steps i = mi at *
      obtain ⟨k0, k1, k2, k3, k4, k5, k6⟩ := hok
      refine go ?_
      refine a_q (indexAddr_step tabOk (pStep s) rfl rfl rfl rfl rfl rfl (by first | omega | (simp; done) | (simp; omega)) (by first | omega | (simp; done) | (simp; omega)) (by first | (simp; done) | exact List.cons_ne_nil _ _) (steps_idx hs)) rfl rfl rfl ?_
      refine go ?_
      generalize h2 : s.done = cc; cases cc
      · refine ck_f ?_
        refine awp_skip ?_
        refine q_then_normal ?_
        obtain ⟨f0, f1⟩ := fault_zero (k1 h2)
        have hnode := hL.node
        unfold smallB at hnode
        refine awp_cut ⟨[(11, .ptr 6 0), (10, dI i), (5, dSteps steps), (4, .ptr 1 0), (9, .ptr 5 0), (8, dB true), (3, dB true)], [(6, [dI s.who, dI s.at_, dI s.op.kind, dI s.op.obj, dI s.op.a, dI s.op.b, .p (plGone s.gone), dI s.acc.kind, dI s.acc.cell, dI s.acc.old, dI s.acc.new, dI s.res.val, dB s.res.ok, dB false, dI s.out.val, dB s.out.is, dI s.out.err, dI s.out.point, .p (plGone s.out.gone)]), (5, [dInts mi]), (1, layD l), (0, playD p), (0, playD p), (0, playD p), (0, playD p)], []⟩ ?_ ?_
        · refine go ?_
          generalize h3 : decide (s.acc.kind = 3) = cc; cases cc
          · refine go ?_
            exact ⟨rfl, zX⟩
          · have h3' := of_decide_eq_true h3
            refine go ?_
            generalize h4 : s.res.ok = cc; cases cc
            · refine go ?_
              exact ⟨rfl, zX⟩
            · refine go ?_
              generalize h5 : decide (s.acc.cell ≥ l.node) = cc; cases cc
              · refine go ?_
                exact ⟨rfl, zX⟩
              · have h5' := of_decide_eq_true h5
                refine goK ?_
                generalize h6 : decide ((s.acc.cell - l.node) % 8 ≥ 1) = cc; cases cc
                · refine go ?_
                  exact ⟨rfl, zX⟩
                · have h6' := of_decide_eq_true h6
                  refine goK ?_
                  generalize h7 : decide ((s.acc.cell - l.node) % 8 ≤ 5) = cc; cases cc
                  · refine go ?_
                    exact ⟨rfl, zX⟩
                  · have h7' := of_decide_eq_true h7
                    rcases k0 h2 h3' h4 h5' h6' h7' with ⟨g1, g2⟩ | ⟨g1, g2⟩
                    · refine go ?_
                      rw [show decide (s.acc.old = 0) = true by rw [decide_eq_true_eq]; exact g1]
                      refine go ?_
                      rw [show decide (s.acc.new > 1) = true by rw [decide_eq_true_eq]; omega]
                      refine go ?_
                      exact ⟨rfl, zX⟩
                    · refine go ?_
                      rw [show decide (s.acc.old = 0) = false by rw [decide_eq_false_iff_not]; omega]
                      refine go ?_
                      rw [show decide (s.acc.old > 1) = true by rw [decide_eq_true_eq]; omega]
                      refine go ?_
                      rw [show decide (s.acc.new = 1) = true by rw [decide_eq_true_eq]; exact g2]
                      refine go ?_
                      exact ⟨rfl, zX⟩
        · have hM := memDo_c mi s.acc (by omega)
          unfold memDoF at hM
          rw [if_pos (k1 h2)] at hM
          dsimp only at hM
          have hmS : memS mi s = (turnF mi s.acc).1 := by unfold memS; rw [h2]; rfl
          have e2 := k2 h2
          have e3 := k3 h2
          obtain ⟨a, c, vs, e4, e5⟩ := k4 h2
          have hmono := mono_rows e4 e5
          have hNo := nodes_c l hL (memS mi s) 0 k5
          have hnl := nodesF_len l (memS mi s) 0
          have hnb := nodesF_bound l (memS mi s) 0
          have hfl := flat_get l (memS mi s) (nodesF l (memS mi s) 0)
          have hf5 := flat5_len l (memS mi s) (nodesF l (memS mi s) 0)
          generalize (nodesF l (memS mi s) 0).flatMap (placesF l (memS mi s)) = L at *
          generalize nodesF l (memS mi s) 0 = ns at *
          rw [← hmS] at hM
          have hnz : 1 ≤ ns.length := by
            rcases ns with _ | ⟨x, ns⟩
            · simp at e2
            · simp
          have hTl := cell_c (memS mi s) (tailF l 0)
          have hIn := in_c ns (atF (memS mi s) (tailF l 0) % 65536) (by omega)
          rw [show decide (atF (memS mi s) (tailF l 0) % 65536 ∈ ns) = true from decide_eq_true e2] at hIn
          have hCe := fun j => cell_c (memS mi s) j
          have hAt := fun j => at_lt k5 j
          refine go ?_
          refine a_q (call_step (hM) rfl (fun a w => Try.call24 a w) rfl) rfl rfl rfl ?_
          refine go ?_
          rw [show decide ((0 : Int) = 0) = true from rfl]
          refine go ?_
          refine a_q (call_step (hNo) rfl (fun a w => Try.call12 a w) rfl) rfl rfl rfl ?_
          refine go ?_
          refine awp_region_q [] rfl (by kernel_rfl) (by kernel_rfl) ?_
          refine goQ ?_
          refine r_q (call_step (tail_c l hL 0) rfl (fun a w => Try.call27 a w) rfl) rfl rfl ?_
          refine goQ ?_
          refine r_q (call_step (hTl) rfl (fun a w => Try.call25 a w) rfl) rfl rfl ?_
          refine goQ ?_
          refine r_q (remk_step rfl rfl rfl (by omega) (by omega)) rfl rfl ?_
          refine goQ ?_
          refine go ?_
          refine a_q (call_step (hIn) rfl (fun a w => Try.call28 a w) rfl) rfl rfl rfl ?_
          refine go ?_
          rw [show decide ((ns.length : Int) = 0) = false by rw [decide_eq_false_iff_not]; omega]
          refine go ?_
          refine awp_loop_ok (fun z : Nat × Int => z.1 ≤ 5 * ns.length ∧ 0 ≤ z.2 ∧ z.2 ≤ 2 ∧ ∀ j v, z.1 ≤ j → L[j]? = some v → z.2 ≤ nowF v) (fun z => ⟨[(19, dI z.1), (18, dI z.2), (15, dInts ns), (10, dI i), (5, dSteps steps), (4, .ptr 1 0), (9, .ptr 5 0), (8, dB true), (3, dB true)], [(5, [dInts (memS mi s)]), (1, layD l), (0, playD p), (0, playD p), (0, playD p), (0, playD p)], []⟩) (fun z => 5 * ns.length - z.1) (0, 0) ⟨by simp, by simp, by simp, fun j v _ _ => (nowF_le v).1⟩ (zX) ?_
          rintro ⟨k, st⟩ ⟨q1, q2, q3, q4⟩
          simp only at q1 q2 q3 q4
          refine (show AWP _ _ _ _ ⟨[(19, dI k), (18, dI st), (15, dInts ns), (10, dI i), (5, dSteps steps), (4, .ptr 1 0), (9, .ptr 5 0), (8, dB true), (3, dB true)], [(5, [dInts (memS mi s)]), (1, layD l), (0, playD p), (0, playD p), (0, playD p), (0, playD p)], []⟩ from ?_)
          refine go ?_
          rw [show IntKind.i64.wrap (5 * (ns.length : Int)) = 5 * (ns.length : Int) from wrap_id (by omega) (by omega)]
          refine go ?_
          refine ck_b (fun h8 => ?_) (fun h8 => ?_) <;> try rw [h8]
          · have h8' : k < 5 * ns.length := by have := of_decide_eq_true h8; omega
            obtain ⟨n, hn⟩ := getI (l := ns) (i := (k : Int) / 5) (by omega) (by omega)
            have hn' := hn
            rw [show ((k : Int) / 5).toNat = k / 5 by omega] at hn'
            have hLk := hfl k n hn'
            have hnr := hnb n (List.mem_of_getElem? hn')
            refine go ?_
            refine awp_region_q [] rfl (by kernel_rfl) (by kernel_rfl) ?_
            refine goQ ?_
            refine r_q (quo_step rfl rfl rfl (by omega) (by omega) (by omega)) rfl rfl ?_
            refine goQ ?_
            refine r_q (indexAddr_step tabOk [pI n] rfl rfl rfl rfl rfl rfl (by first | omega | (simp; done) | (simp; omega)) (by first | omega | (simp; done) | (simp; omega)) (by first | (simp; done) | exact List.cons_ne_nil _ _) (ints_idx hn)) rfl rfl ?_
            refine goQ ?_
            refine r_q (remk_step rfl rfl rfl (by omega) (by omega)) rfl rfl ?_
            refine goQ ?_
            refine r_q (call_step (node_c l hL n (1 + (k : Int) % 5) (by omega) (by omega)) rfl (fun a w => Try.call23 a w) rfl) rfl rfl ?_
            refine goQ ?_
            refine r_q (call_step (hCe (nodeF l n (1 + (k : Int) % 5))) rfl (fun a w => Try.call25 a w) rfl) rfl rfl ?_
            refine goQ ?_
            generalize atF (memS mi s) (nodeF l n (1 + (k : Int) % 5)) = v at *
            have q5 := q4 k v (Nat.le_refl _) hLk
            have q6 : ∀ j u, k + 1 ≤ j → L[j]? = some u → nowF v ≤ nowF u := fun j u hj hu => hmono k j v u (by omega) hLk hu
            have q7 := nowF_le v
            have next : ∀ w', w' = nowF v → (k + 1 ≤ 5 * ns.length ∧ 0 ≤ w' ∧ w' ≤ 2 ∧ ∀ j u, k + 1 ≤ j → L[j]? = some u → w' ≤ nowF u) := fun w' e => by subst e; exact ⟨by omega, q7.1, q7.2, q6⟩
            refine go ?_
            generalize h9 : decide (v = 1) = cc; cases cc
            · have h9' := of_decide_eq_false h9
              refine go ?_
              generalize h10 : decide (v > 1) = cc; cases cc
              · have h10' := of_decide_eq_false h10
                have hw : nowF v = 2 := by unfold nowF; rw [if_neg h9', if_neg (by omega)]
                refine go ?_
                rw [show decide ((2 : Int) < st) = false by rw [decide_eq_false_iff_not]; omega]
                refine go ?_
                exact ⟨(k + 1, 2), next 2 hw.symm, by simp only; omega, zX⟩
              · have h10' := of_decide_eq_true h10
                have hw : nowF v = 1 := by unfold nowF; rw [if_neg h9', if_pos (by omega)]
                refine go ?_
                rw [show decide ((1 : Int) < st) = false by rw [decide_eq_false_iff_not]; omega]
                refine go ?_
                exact ⟨(k + 1, 1), next 1 hw.symm, by simp only; omega, zX⟩
            · have h9' := of_decide_eq_true h9
              have hw : nowF v = 0 := by unfold nowF; rw [if_pos h9']
              refine go ?_
              rw [show decide ((0 : Int) < st) = false by rw [decide_eq_false_iff_not]; omega]
              refine go ?_
              exact ⟨(k + 1, 0), next 0 hw.symm, by simp only; omega, zX⟩
          · refine go ?_
            refine ⟨i + 1, by omega, by omega, ?_⟩
            rw [hnx]
            exact zX
      · refine go ?_
        refine ⟨i + 1, by omega, by omega, ?_⟩
        rw [hnx]
        unfold memS
        rw [h2]
        exact zX
    · refine go ?_
      first | refine fin_ret rfl ?_ | refine fin_normal rfl ?_
      rfl
end Go.Proofs.Ytgoijmomglomlaa
