/- The document's stacks: their walk. -/
import Derived.Test.YtdmnjoidfjidbaaGreatE12
import Derived.Test.YtdmnjoidfjidbaaGreatPB
namespace Go.Proofs.YtdmnjoidfjidbaaGreat
open Go.RowKit
set_option maxRecDepth 100000

section
variable {P : Program} {T : Nat → Option TI} {Γ : Ctx} {σ : St}
theorem tipC_ghost (nm j g el sz : Nat) {n : Nat} {ps : List Pl} {cs cs' : List Dt} (hb : kv σ.b nm = some cs) (hj : cs[j]? = some (.p (.sl true n ps))) (hs : cs.set j (.tip g n ps) = cs') (hg : kv σ.g g = none) (hl : ps.length = n * sz) : Ghost Γ σ ⟨σ.s, (nm, cs') :: σ.b, (g, ⟨el, sz, n⟩) :: σ.g⟩ := by
  subst hs
  intro a e hc
  have hgi : e.gi g = none := by rw [hc.gs]; exact hg
  have hng : ∀ k, e.gr k ≠ some g := fun k hk => by obtain ⟨G, _, h, _⟩ := hc.env.gr k g hk; rw [hgi] at h; cases h
  have hE : Ends e { e with gi := fun h => if h = g then some ⟨el, sz, n⟩ else e.gi h } :=
    ⟨fun _ _ _ h1 h2 => ⟨h1, h2⟩, fun _ _ h => h, fun g' G h => ⟨G, by show (if g' = g then _ else e.gi g') = _; rw [if_neg (fun e' => by rw [e', hgi] at h; cases h)]; exact h, rfl, rfl, Nat.le_refl _⟩, fun _ _ _ cur h1 _ h3 => ⟨h1, cur, h3, rfl⟩⟩
  refine ⟨{ e with gi := fun h => if h = g then some ⟨el, sz, n⟩ else e.gi h }, rfl, hc.size, hc.df, fun u d hu => (hc.slots u d hu).next hE, fun b cs hbb => ?_, fun u hu => ?_, fun h => ?_, hc.env.kept, hc.env.cl, hc.env.bx, hc.env.inj, fun k g' hk => ?_, hc.env.kb⟩
  · simp only [lk_cons] at hbb
    split at hbb
    · rename_i htu
      subst htu
      cases hbb
      obtain ⟨k, vs, el0, h1, h2, h3⟩ := hc.boxes _ _ hb
      refine ⟨k, vs, el0, h1, h2, by rw [List.length_set]; exact h3.1, fun i v d hv hd => ?_⟩
      rw [List.getElem?_set] at hd
      split at hd
      · rename_i hij
        subst hij
        split at hd
        · cases hd
          have h4 := h3.2 _ v _ hv hj
          cases h4 with
          | p h1 =>
            have h2 := (h1.next hE).low
            obtain ⟨A, cap, rfl, h3, h4, h5, h6, h7⟩ := sl_open h1
            exact .tip h2 ⟨⟨el, sz, n⟩, A, cap, by simp, rfl, Nat.le_refl _, hl, .inl (h6 rfl)⟩
        · cases hd
      · exact (h3.2 i v d hv hd).next hE
    · exact (hc.boxes b cs hbb).ends hE rfl
  · simp only [lk_cons] at hu
    split at hu
    · cases hu
    · exact hc.nobox u hu
  · show (if h = g then _ else e.gi h) = _
    simp only [lk_cons]
    by_cases e1 : h = g
    · subst e1; simp
    · rw [if_neg e1, if_neg (fun e' => e1 e'.symm)]; exact hc.gs h
  · obtain ⟨G, cur, h1, h2⟩ := hc.env.gr k g' hk
    exact ⟨G, cur, by show (if g' = g then _ else e.gi g') = _; rw [if_neg (fun e' => hng k (by rw [← e']; exact hk))]; exact h1, h2⟩
end
abbrev dStk (c : List Int) : Dt := .agg [dI 2, dInts [], dInts c]
abbrev dDid (r : List Int × Int × Bool) : Dt := .tup [dStk r.1, dI r.2.1, dB r.2.2]
theorem new9_c : PureC Tryz.prog 8 [dI 2] (dStk []) := by
  refine pure_fin tabOk Tryz.func8 rfl Tryz.ntmps8 rfl rfl rfl fun w cl => ?_
  refine go ?_
  first | refine fin_ret rfl ?_ | refine fin_normal rfl ?_
  rfl
theorem of9_4 : PureC Tryz.prog 25 [dI 4] (dI 2) := by
  refine pure_fin tabOk Tryz.func25 rfl Tryz.ntmps25 rfl rfl rfl fun w cl => ?_
  refine go ?_
  rw [show decide ((4 : Int) = 1) = false from rfl]
  refine go ?_
  rw [show decide ((4 : Int) = 2) = false from rfl]
  refine go ?_
  rw [show decide ((4 : Int) = 3) = false from rfl]
  refine go ?_
  rw [show decide ((4 : Int) = 4) = true from rfl]
  refine go ?_
  first | refine fin_ret rfl ?_ | refine fin_normal rfl ?_
  rfl
theorem of9_5 : PureC Tryz.prog 25 [dI 5] (dI 2) := by
  refine pure_fin tabOk Tryz.func25 rfl Tryz.ntmps25 rfl rfl rfl fun w cl => ?_
  refine go ?_
  rw [show decide ((5 : Int) = 1) = false from rfl]
  refine go ?_
  rw [show decide ((5 : Int) = 2) = false from rfl]
  refine go ?_
  rw [show decide ((5 : Int) = 3) = false from rfl]
  refine go ?_
  rw [show decide ((5 : Int) = 4) = false from rfl]
  refine go ?_
  rw [show decide ((5 : Int) = 5) = true from rfl]
  refine go ?_
  first | refine fin_ret rfl ?_ | refine fin_normal rfl ?_
  rfl
theorem take_snocI {vs : List Int} {j : Nat} {x : Int} (h : vs[j]? = some x) : pInts (vs.take j) ++ [pI x] = pInts (vs.take (j + 1)) := by
  rw [List.take_add_one, h]
  simp [pInts]
theorem without9_c (v : Int) (vs : List Int) (hl : vs.length ≤ 1000000) : PureC Tryz.prog 28 [dStk (v :: vs), dI 0] (dStk vs) := by
  have hvl : (((v :: vs).length : Nat) : Int) = vs.length + 1 := by simp
  refine pure_fin tabOk Tryz.func28 rfl Tryz.ntmps28 rfl rfl rfl fun w cl => ?_
  refine go ?_
  refine awp_ghost (tipC_ghost 2 2 0 3 1 rfl rfl rfl rfl rfl) ?_
  refine awp_loop_ok (fun i : Nat => i ≤ vs.length + 1) (fun i => ⟨[(6, dI i), (5, .ptr 2 0), (4, .ptr 1 0), (2, .ptr 0 0), (1, dI 0)], [(2, [dI 2, .p (.sl true 0 []), .tip 0 (i - 1) (pInts (vs.take (i - 1)))]), (1, [dI 0, .p (.sl true 0 []), .p (.sl true 0 [])]), (0, [dI 2, dInts [], dInts (v :: vs)])], [(0, ⟨3, 1, i - 1⟩)]⟩) (fun i => vs.length + 1 - i) 0 (Nat.zero_le _) (zX) ?_
  intro i hi
  refine go ?_
  refine ck_b (fun h1 => ?_) (fun h1 => ?_) <;> try rw [h1]
  · have h1' := of_decide_eq_true h1
    rcases Nat.eq_zero_or_pos i with rfl | h0
    · refine go ?_
      rw [show decide (((0 : Nat) : Int) = 0) = true from rfl]
      refine go ?_
      exact ⟨1, by omega, by omega, zX⟩
    · obtain ⟨j, rfl⟩ : ∃ j, i = j + 1 := ⟨i - 1, by omega⟩
      obtain ⟨x, hx⟩ : ∃ x, vs[j]? = some x := ⟨vs[j]'(by omega), List.getElem?_eq_getElem _⟩
      have hx' : (v :: vs)[((j + 1 : Nat) : Int).toNat]? = some x := by simpa using hx
      have htk : (vs.take j).length = j := by rw [List.length_take]; omega
      refine go ?_
      rw [show decide (((j + 1 : Nat) : Int) = 0) = false by rw [decide_eq_false_iff_not]; omega]
      refine go ?_
      rw [show decide ((2 : Int) = 1) = false from rfl]
      refine go ?_
      refine awp_region_w 8 [] rfl rfl (by kernel_rfl) (by kernel_rfl) (by kernel_rfl) ?_
      refine goQ ?_
      refine r_q (indexAddr_step tabOk [pI x] rfl rfl rfl rfl rfl rfl (by first | omega | (simp; done) | (simp; omega)) (by first | omega | (simp; done) | (simp; omega)) (by first | (simp; done) | exact List.cons_ne_nil _ _) (ints_idx hx')) rfl rfl ?_
      refine goQ ?_
      refine a_append (m := 1) (qs := [pI x]) tabOk rfl rfl rfl rfl rfl rfl rfl rfl rfl rfl rfl rfl rfl (by unfold maxLen; omega) (by show (_ + _) * 8 ≤ _; omega) ?_
      refine go ?_
      refine ⟨j + 1 + 1, by omega, by omega, ?_⟩
      rw [show j + 1 + 1 - 1 = j + 1 - 1 + 1 by omega, ← take_snocI (j := j + 1 - 1) (by simpa using hx)]
      exact zX
  · have h1' := of_decide_eq_false h1
    have hi' : i = vs.length + 1 := by omega
    subst hi'
    refine go ?_
    refine fin_ret rfl ?_
    rw [show vs.length + 1 - 1 = vs.length by omega, List.take_length]
    rfl
theorem do9_c (c : List Int) (o : OpT) (hl : c.length ≤ 1000000) (ho : o.kind = 4 ∨ o.kind = 5) : PureC Tryz.prog 10 [dStk c, dOp o] (dDid (stkDo c o)) := by
  obtain ⟨kd, ob, a, b⟩ := o
  simp only at ho
  rcases ho with rfl | rfl
  · rw [show stkDo c ⟨4, ob, a, b⟩ = (a :: c, 0, true) from rfl]
    refine pure_fin tabOk Tryz.func10 rfl Tryz.ntmps10 rfl rfl rfl fun w cl => ?_
    refine go ?_
    refine a_q (call_step (of9_4) rfl (fun a w => Tryz.call25 a w) rfl) rfl rfl rfl ?_
    refine go ?_
    rw [show decide ((2 : Int) = 0) = false from rfl]
    refine go ?_
    rw [show decide ((2 : Int) = 2) = true from rfl]
    refine go ?_
    rw [show decide ((2 : Int) = 1) = false from rfl]
    refine go ?_
    rw [show decide ((4 : Int) = 4) = true from rfl]
    refine go ?_
    refine awp_region_w 8 [] rfl rfl (by kernel_rfl) (by kernel_rfl) (by kernel_rfl) ?_
    refine goQ ?_
    refine r_appendx (n' := 1) (m := c.length) (ps := [pI a]) (qs := pInts c) tabOk 0 rfl rfl rfl rfl rfl rfl rfl rfl rfl rfl rfl rfl rfl (by rw [pInts_len]; exact (Nat.mul_one _).symm) (by unfold maxLen; omega) (by show (_ + _) * 8 ≤ _; omega) ?_
    refine goQ ?_
    refine go ?_
    refine fin_ret rfl ?_
    simp [pInts, dInts, Nat.add_comm]
  · cases c with
    | nil =>
      rw [show stkDo [] ⟨5, ob, a, b⟩ = ([], 0, false) from rfl]
      refine pure_fin tabOk Tryz.func10 rfl Tryz.ntmps10 rfl rfl rfl fun w cl => ?_
      refine go ?_
      refine a_q (call_step (of9_5) rfl (fun a w => Tryz.call25 a w) rfl) rfl rfl rfl ?_
      refine go ?_
      rw [show decide ((2 : Int) = 0) = false from rfl]
      refine go ?_
      rw [show decide ((2 : Int) = 2) = true from rfl]
      refine go ?_
      rw [show decide ((2 : Int) = 1) = false from rfl]
      refine go ?_
      rw [show decide ((5 : Int) = 4) = false from rfl]
      refine go ?_
      rw [show decide ((5 : Int) = 6) = false from rfl]
      refine go ?_
      rw [show decide ((([] : List Int).length : Int) = 0) = true from rfl]
      refine go ?_
      first | refine fin_ret rfl ?_ | refine fin_normal rfl ?_
      rfl
    | cons v vs =>
      simp only [List.length_cons] at hl
      rw [show stkDo (v :: vs) ⟨5, ob, a, b⟩ = (vs, v, true) from rfl]
      refine pure_fin tabOk Tryz.func10 rfl Tryz.ntmps10 rfl rfl rfl fun w cl => ?_
      refine go ?_
      refine a_q (call_step (of9_5) rfl (fun a w => Tryz.call25 a w) rfl) rfl rfl rfl ?_
      refine go ?_
      rw [show decide ((2 : Int) = 0) = false from rfl]
      refine go ?_
      rw [show decide ((2 : Int) = 2) = true from rfl]
      refine go ?_
      rw [show decide ((2 : Int) = 1) = false from rfl]
      refine go ?_
      rw [show decide ((5 : Int) = 4) = false from rfl]
      refine go ?_
      rw [show decide ((5 : Int) = 6) = false from rfl]
      refine go ?_
      rw [show decide (((v :: vs).length : Int) = 0) = false by rw [decide_eq_false_iff_not, List.length_cons]; omega]
      refine go ?_
      refine awp_region_w 7 [2] rfl rfl (by kernel_rfl) (by kernel_rfl) (by kernel_rfl) ?_
      refine goQ ?_
      refine r_q (call_step (without9_c v vs (by omega)) rfl (fun a w => Tryz.call28 a w) rfl) rfl rfl ?_
      refine goQ ?_
      refine r_q (indexAddr_step tabOk [pI v] rfl rfl rfl rfl rfl rfl (by first | omega | (simp; done) | (simp; omega)) (by first | omega | (simp; done) | (simp; omega)) (by first | (simp; done) | exact List.cons_ne_nil _ _) (ints_idx rfl)) rfl rfl ?_
      refine goQ ?_
      refine go ?_
      first | refine fin_ret rfl ?_ | refine fin_normal rfl ?_
      rfl
end Go.Proofs.YtdmnjoidfjidbaaGreat
