/- Plays: their walk. -/
import Derived.Test.YtkkldicehapklaaGreatE16
import Derived.Test.YtkkldicehapklaaGreatE17
import Derived.Test.YtkkldicehapklaaGreatFrz
namespace Go.Proofs.YtkkldicehapklaaGreat
open Go.RowKit
set_option maxRecDepth 100000
theorem kH6 {ι : Type} {P : Program} {Γ : Ctx} {Q : Exit → St → Prop} {c : Code} {σ : St} (x : Exit) (τ : ι → St) (ok : ι → Prop) (h : AWP P Γ c (fun ex σ' => ex = x ∧ ∃ i, ok i ∧ Ghost Γ σ' (τ i)) σ) (k : ∀ σ' i, ok i → Ghost Γ σ' (τ i) → Q x σ') : AWP P Γ c Q σ :=
 jL1 h fun ex σ' hh => by
  obtain ⟨rfl, i, hi, hg⟩ := hh
  exact k σ' i hi hg
theorem begin_und (l : jN) (n : Nat) : Und 0 (wV l).length (vZ l n) := by
 have hs : ∀ x ∈ (vZ l n).seats, x = jD3 := fun x hx => by
  have hx' : x ∈ List.replicate n jD3 := hx
  exact (List.mem_replicate.1 hx').2
 refine ⟨rfl, fun x hx => ?_, fun x hx => ?_, fun x hx => ?_, fun x hx => ?_, ⟨Int.le_refl _, Int.le_refl _⟩, ⟨Int.le_refl _, Int.le_refl _⟩, Nat.le_refl _⟩
 all_goals rw [hs x hx]
 ·exact Nat.le_refl _
 ·exact Nat.le_refl _
 ·exact Nat.le_refl _
 ·exact ⟨Nat.le_refl _, fun p hp => by cases hp⟩
abbrev jN5 (l : List HCallT) : Dt := .p (.sl false l.length (wD l))
theorem pCalls_lf (l : List HCallT) : ∀ x ∈ wD l, x.lf = true := by
 intro x hx
 unfold wD at hx
 rw [List.mem_flatMap] at hx
 obtain ⟨c, _, hc⟩ := hx
 simp only [List.mem_cons, List.not_mem_nil, or_false] at hc
 rcases hc with rfl | rfl | rfl | rfl | rfl | rfl | rfl | rfl | rfl | rfl <;> rfl
abbrev tabF (t : HTabT) (n : Nat) : Bxs := [(30, tabD t n (jN5 t.calls)), (31, uB t.seats), (32, uG t.seats), (33, yN t.seats), (34, yC t.seats), (35, yZ t.seats)]
theorem tabF_sub {σ : St} {t : HTabT} {n : Nat} (h0 : kv σ.b 30 = some (tabD t n (jN5 t.calls))) (h1 : kv σ.b 31 = some (uB t.seats)) (h2 : kv σ.b 32 = some (uG t.seats)) (h3 : kv σ.b 33 = some (yN t.seats)) (h4 : kv σ.b 34 = some (yC t.seats)) (h5 : kv σ.b 35 = some (yZ t.seats)) : SubH σ (jM (tabF t n)) (tabF t n) :=
 ⟨⟨h0, rfl⟩, ⟨h1, kV _ _ _⟩, ⟨h2, kM _ _ _⟩, ⟨h3, kB _ _ _⟩, ⟨h4, kH _ _ _⟩, ⟨h5, kG _ _ _⟩, trivial⟩
theorem CallsOk.take {calls : List HCallT} {c : Nat} {cs : List Dt} {cd : Dt} (h : CallsOk calls cd cs) (hd : cd = .arr 36 0 calls.length c) : cs.length = c * 10 ∧ calls.length ≤ c ∧ c ≤ maxLen ∧ cs.take (calls.length * 10) = (wD calls).map Dt.p := by
 rcases h.at_ with ⟨_, h2⟩ | ⟨c', h1, h2, h3, h4, h5⟩
 ·rw [h2] at hd; cases hd
 ·rw [h1] at hd; cases hd; exact ⟨h2, h3, h4, h5⟩
theorem drop_cons {α : Type} {l : List α} {i : Nat} {x : α} (h : l[i]? = some x) : l.drop i = x :: l.drop (i + 1) := by
 obtain ⟨h1, h2⟩ := List.getElem?_eq_some_iff.1 h
 rw [List.drop_eq_getElem_cons h1, h2]
theorem turns_drop {l : jN} {want : List (List OpT)} {t : HTabT} {turns : List Int} {i : Nat} {x : Int} (h : turns[i]? = some x) (f : Int → Nat) : jJ7 l want t ((turns.drop i).map f) = jJ7 l want (vI l want t (f x)) ((turns.drop (i + 1)).map f) := by
 rw [drop_cons h, List.map_cons, jJ7]
theorem und_bad {k N : Nat} {t : HTabT} {b : Bool} (h : Und k N t) : Und k N { t with bad := b } := ⟨h.m, h.log, h.steps, h.next, h.gone, h.step, h.full, h.calls⟩
set_option maxHeartbeats 16000000 in
theorem played_i {nn sl : Int} (hl : 1 ≤ sl ∧ sl ≤ 8) (hnn : 3 ≤ nn ∧ nn ≤ 1000) (want : List (List OpT)) (turns : List Int) (h1n : 1 ≤ want.length) (h3n : want.length ≤ 3) (ht3 : turns.length ≤ 300) (ht8 : ∀ x ∈ turns, 0 ≤ x ∧ x < 256) (hwl : ∀ w ∈ want, w.length ≤ 1000) :
  ImpC Tryz.prog 10 [] [wO (kT want.length nn sl), dPlay want turns] [] (fun d bs => d = .ptr 30 0 ∧ bs = tabF (wI (kT want.length nn sl) want turns) want.length) := by
 have hL := kF3 (s := want.length) (by omega) hl (n := nn) (by omega)
 have hLM := layH_m (s := want.length) (n := nn) hl
 have hB := tbegin_i (s := want.length) (by omega) hl hnn want.length (by omega)
 have hU0 := begin_und (kT want.length nn sl) want.length
 have hsz : (wV (kT want.length nn sl)).length ≤ 1000000 := by rw [hbeginF_len]; simp only [kT]; omega
 have hbn : (vZ (kT want.length nn sl) want.length).seats.length = want.length := by simp [vZ]
 generalize hE : wI (kT want.length nn sl) want turns = E
 unfold wI at hE
 have hbc : (vZ (kT want.length nn sl) want.length).calls = [] := rfl
 generalize vZ (kT want.length nn sl) want.length = T0 at *
 generalize (wV (kT want.length nn sl)).length = N at *
 generalize kT want.length nn sl = l at *
 generalize hn : want.length = n at *
 have hw := hn
 have hn8 : n ≤ 8 := by omega
 have hN := hsz
 have hB2 : ImpC Tryz.prog 21 [] [wO l, dI (want.length : Nat)] [] (fun d bs => d = .ptr 30 0 ∧ ∃ cs, CallsOk [] (.p (.sl true 0 [])) cs ∧ bs = vS T0 n (.p (.sl true 0 [])) cs) := by rw [hw]; exact hB
 refine vV jB Tryz.func10 rfl Tryz.ntmps10 rfl rfl rfl (by (repeat (first | exact trivial | refine ⟨rfl, ?_⟩))) fun w cl own kf => ?_
 refine go ?_
 refine yX hB2 rfl (fun a w => Tryz.call21 a w) rfl rfl trivial trivial rfl rfl rfl rfl ?_ ?_
 ·rintro d bs ⟨rfl, cs, hC, rfl⟩; exact ⟨.inr rfl, .inr rfl, .inr rfl, .inr rfl, .inr rfl, .inr rfl, .inr rfl, trivial⟩
 rintro d bs ⟨rfl, cs0, hC0, rfl⟩
 refine go ?_
 refine kH6 (ι := HTabT × Dt × List Dt) (.exit 0) (fun p => ⟨[(5, .ptr 30 0), (2, .ptr 0 0), (3, .ptr 1 0)], (0, xL l) :: (1, jB1 want turns) :: vS p.1 n p.2.1 p.2.2, []⟩) (fun p => p.1 = jJ7 l want T0 (turns.map fun x => (x % (n : Int)).toNat) ∧ Und 300 N p.1 ∧ p.1.seats.length = n ∧ CallsOk p.1.calls p.2.1 p.2.2) ?_ ?_
 ·refine jP (fun p : Nat × HTabT × Dt × List Dt => p.1 ≤ turns.length ∧ jJ7 l want p.2.1 ((turns.drop p.1).map fun x => (x % (n : Int)).toNat) = jJ7 l want T0 (turns.map fun x => (x % (n : Int)).toNat) ∧ Und p.1 N p.2.1 ∧ p.2.1.seats.length = n ∧ CallsOk p.2.1.calls p.2.2.1 p.2.2.2) (fun p => ⟨[(6, dI p.1), (5, .ptr 30 0), (2, .ptr 0 0), (3, .ptr 1 0)], (0, xL l) :: (1, jB1 want turns) :: vS p.2.1 n p.2.2.1 p.2.2.2, []⟩) (fun p => turns.length - p.1) (0, T0, .p (.sl true 0 []), cs0) ⟨Nat.zero_le _, rfl, hU0, hbn, by simp only; rw [hbc]; exact hC0⟩ (zX (hb := by exact ⟨⟨rfl, rfl⟩, ⟨rfl, rfl⟩, ⟨rfl, yF (t := T0) hC0 _ _ rfl rfl rfl rfl rfl rfl⟩, ⟨rfl, kV _ _ _⟩, ⟨rfl, kM _ _ _⟩, ⟨rfl, kB _ _ _⟩, ⟨rfl, kH _ _ _⟩, ⟨rfl, kG _ _ _⟩, ⟨rfl, hC0.pl _ _⟩, trivial⟩)) ?_
  rintro ⟨i, t, cd, cs⟩ ⟨hi, hT, hU, hn, hC⟩
  simp only at hi hT hU hn hC
  refine (show AWP _ _ _ _ ⟨[(6, dI i), (5, .ptr 30 0), (2, .ptr 0 0), (3, .ptr 1 0)], (0, xL l) :: (1, jB1 want turns) :: vS t n cd cs, []⟩ from ?_)
  refine go ?_
  refine xQ (fun h1 => ?_) (fun h1 => ?_) <;> try rw [h1]
  ·have h1' := of_decide_eq_true h1
   obtain ⟨x, hx⟩ := getI (l := turns) (i := i) (by omega) h1'
   have hx' := hx
   simp only [Int.toNat_natCast] at hx'
   have hxb := ht8 x (List.mem_of_getElem? hx')
   have hmod : 0 ≤ x % (want.length : Int) ∧ x % (want.length : Int) < want.length := ⟨Int.emod_nonneg _ (by omega), Int.emod_lt_of_pos _ (by omega)⟩
   rw [turns_drop hx' (fun x => (x % (n : Int)).toNat)] at hT
   rw [← hw] at hT
   obtain ⟨who, hwq⟩ : ∃ w : Nat, (w : Int) = x % (want.length : Int) := ⟨(x % (want.length : Int)).toNat, by omega⟩
   rw [← hwq, Int.toNat_natCast] at hT
   rw [hw] at hT
   refine go ?_
   refine jE 13 [] rfl rfl (by kernel_rfl) (by kernel_rfl) (by kernel_rfl) ?_
   refine goQ ?_
   refine r_q (jG jB [p8 x] rfl rfl rfl rfl rfl rfl (by first | omega | (simp; done) | (simp; omega)) (by first | omega | (simp; done) | (simp; omega)) (by first | (simp; done) | exact List.cons_ne_nil _ _) (jJ1 (f := p8) hx)) rfl rfl ?_
   refine goQ ?_
   rw [show IntKind.i64.wrap x = x from yJ (by omega) (by omega)]
   refine r_q (jY3 rfl rfl rfl (by omega) (by omega)) rfl rfl ?_
   rw [← hwq]
   refine goQ ?_
   refine go ?_
   refine yX (turnT_i l hL hLM want turns t n (i) N hn hw hn8 hU (by omega) hN who (by omega) cd cs hC) rfl (fun a w => Tryz.call22 a w) rfl rfl (by exact yL hC rfl rfl rfl rfl rfl rfl rfl) (by (repeat (first | exact trivial | refine ⟨.inr rfl, ?_⟩ | refine ⟨.inl rfl, ?_⟩))) rfl rfl rfl rfl ?_ ?_
   ·rintro d bs ⟨rfl, cd', cs', hC', rfl⟩; exact ⟨.inl rfl, .inl rfl, .inl rfl, .inl rfl, .inl rfl, .inl rfl, .inl rfl, trivial⟩
   rintro d bs ⟨rfl, cd', cs', hC', rfl⟩
   refine go ?_
   exact ⟨(i + 1, vI l want t who, cd', cs'), ⟨by simp only; omega, hT, turn_und hU hL.seats.1, by simp only; rw [turn_n]; exact hn, hC'⟩, by simp only; omega, zX (hb := by exact ⟨⟨rfl, rfl⟩, ⟨rfl, rfl⟩, ⟨rfl, yF (t := vI l want t who) hC' _ _ rfl rfl rfl rfl rfl rfl⟩, ⟨rfl, kV _ _ _⟩, ⟨rfl, kM _ _ _⟩, ⟨rfl, kB _ _ _⟩, ⟨rfl, kH _ _ _⟩, ⟨rfl, kG _ _ _⟩, ⟨rfl, hC'.pl _ _⟩, trivial⟩)⟩
  ·have h1' := of_decide_eq_false h1
   rw [List.drop_of_length_le (by omega)] at hT
   refine go ?_
   exact ⟨rfl, (t, cd, cs), ⟨hT, hU.mono (by omega), hn, hC⟩, zX (hb := by exact ⟨⟨rfl, rfl⟩, ⟨rfl, rfl⟩, ⟨rfl, yF (t := t) hC _ _ rfl rfl rfl rfl rfl rfl⟩, ⟨rfl, kV _ _ _⟩, ⟨rfl, kM _ _ _⟩, ⟨rfl, kB _ _ _⟩, ⟨rfl, kH _ _ _⟩, ⟨rfl, kG _ _ _⟩, ⟨rfl, hC.pl _ _⟩, trivial⟩)⟩
 rintro σ' ⟨t, cd, cs⟩ ⟨hT, hU, hn, hC⟩ hgh
 refine zR (zM (kP hgh ?_))
 clear hgh
 simp only at hT hU hn hC
 rw [← hT] at hE
 clear hT hU0 hbn hbc hC0
 refine (show AWP _ _ _ _ ⟨[(5, .ptr 30 0), (2, .ptr 0 0), (3, .ptr 1 0)], (0, xL l) :: (1, jB1 want turns) :: vS t n cd cs, []⟩ from ?_)
 refine go ?_
 refine kH6 (ι := HTabT × Dt × List Dt) (.exit 2) (fun p => ⟨[(5, .ptr 30 0), (2, .ptr 0 0), (3, .ptr 1 0)], (0, xL l) :: (1, jB1 want turns) :: vS p.1 n p.2.1 p.2.2, []⟩) (fun p => p.1 = E ∧ CallsOk p.1.calls p.2.1 p.2.2) ?_ ?_
 ·refine jP (fun p : Nat × HTabT × Dt × List Dt => p.1 ≤ n ∧ hrestT l want p.1 (n - p.1) p.2.1 = E ∧ Und (300 + 1500 * p.1) N p.2.1 ∧ p.2.1.seats.length = n ∧ CallsOk p.2.1.calls p.2.2.1 p.2.2.2) (fun p => ⟨[(7, dI p.1), (5, .ptr 30 0), (2, .ptr 0 0), (3, .ptr 1 0)], (0, xL l) :: (1, jB1 want turns) :: vS p.2.1 n p.2.2.1 p.2.2.2, []⟩) (fun p => n - p.1) (0, t, cd, cs) ⟨Nat.zero_le _, hE, hU, hn, hC⟩ (zX (hb := by exact ⟨⟨rfl, rfl⟩, ⟨rfl, rfl⟩, ⟨rfl, yF (t := t) hC _ _ rfl rfl rfl rfl rfl rfl⟩, ⟨rfl, kV _ _ _⟩, ⟨rfl, kM _ _ _⟩, ⟨rfl, kB _ _ _⟩, ⟨rfl, kH _ _ _⟩, ⟨rfl, kG _ _ _⟩, ⟨rfl, hC.pl _ _⟩, trivial⟩)) ?_
  clear hE hU hn hC
  rintro ⟨who, t, cd, cs⟩ ⟨hwho, hT, hU, hn, hC⟩
  simp only at hwho hT hU hn hC
  refine (show AWP _ _ _ _ ⟨[(7, dI who), (5, .ptr 30 0), (2, .ptr 0 0), (3, .ptr 1 0)], (0, xL l) :: (1, jB1 want turns) :: vS t n cd cs, []⟩ from ?_)
  refine go ?_
  refine xQ (fun h2 => ?_) (fun h2 => ?_) <;> try rw [h2]
  ·have h2' := of_decide_eq_true h2
   have hwn : who < n := by omega
   obtain ⟨ws, hws⟩ : ∃ ws, want[who]? = some ws := ⟨want[who], List.getElem?_eq_getElem (by omega)⟩
   have hws' : want[(who : Int).toNat]? = some ws := by simpa using hws
   have hwsl := hwl ws (List.mem_of_getElem? hws)
   rw [show n - who = (n - (who + 1)) + 1 by omega, hrestT] at hT
   refine go ?_
   refine kH6 (ι := HTabT × Dt × List Dt) (.exit 4) (fun p => ⟨[(7, dI who), (5, .ptr 30 0), (2, .ptr 0 0), (3, .ptr 1 0)], (0, xL l) :: (1, jB1 want turns) :: vS p.1 n p.2.1 p.2.2, []⟩) (fun p => p.1 = qM l want who 1500 t ∧ Und (300 + 1500 * (who + 1)) N p.1 ∧ p.1.seats.length = n ∧ CallsOk p.1.calls p.2.1 p.2.2) ?_ ?_
   ·refine jP (fun p : Nat × HTabT × Dt × List Dt => p.1 ≤ 1500 ∧ qM l want who (1500 - p.1) p.2.1 = qM l want who 1500 t ∧ Und (300 + 1500 * who + p.1) N p.2.1 ∧ p.2.1.seats.length = n ∧ CallsOk p.2.1.calls p.2.2.1 p.2.2.2) (fun p => ⟨[(8, dI p.1), (7, dI who), (5, .ptr 30 0), (2, .ptr 0 0), (3, .ptr 1 0)], (0, xL l) :: (1, jB1 want turns) :: vS p.2.1 n p.2.2.1 p.2.2.2, []⟩) (fun p => 1500 - p.1) (0, t, cd, cs) ⟨Nat.zero_le _, rfl, hU, hn, hC⟩ (zX (hb := by exact ⟨⟨rfl, rfl⟩, ⟨rfl, rfl⟩, ⟨rfl, yF (t := t) hC _ _ rfl rfl rfl rfl rfl rfl⟩, ⟨rfl, kV _ _ _⟩, ⟨rfl, kM _ _ _⟩, ⟨rfl, kB _ _ _⟩, ⟨rfl, kH _ _ _⟩, ⟨rfl, kG _ _ _⟩, ⟨rfl, hC.pl _ _⟩, trivial⟩)) ?_
    clear hT hU hn hC
    generalize qM l want who 1500 t = TA
    rintro ⟨i, t, cd, cs⟩ ⟨hi, hT, hU, hn, hC⟩
    simp only at hi hT hU hn hC
    obtain ⟨m, step, seats, calls, full, wild, bad⟩ := t
    refine (show AWP _ _ _ _ ⟨[(8, dI i), (7, dI who), (5, .ptr 30 0), (2, .ptr 0 0), (3, .ptr 1 0)], (0, xL l) :: (1, jB1 want turns) :: vS ⟨m, step, seats, calls, full, wild, bad⟩ n cd cs, []⟩ from ?_)
    refine go ?_
    generalize h3 : decide ((i : Int) < 1500) = cc; cases cc
    ·have h3' := of_decide_eq_false h3
     rw [show 1500 - i = 0 by omega, qM] at hT
     refine go ?_
     exact ⟨rfl, (_, cd, cs), ⟨hT, hU.mono (by omega), hn, hC⟩, zX (hb := by exact ⟨⟨rfl, rfl⟩, ⟨rfl, rfl⟩, ⟨rfl, yF (t := ⟨m, step, seats, calls, full, wild, bad⟩) hC _ _ rfl rfl rfl rfl rfl rfl⟩, ⟨rfl, kV _ _ _⟩, ⟨rfl, kM _ _ _⟩, ⟨rfl, kB _ _ _⟩, ⟨rfl, kH _ _ _⟩, ⟨rfl, kG _ _ _⟩, ⟨rfl, hC.pl _ _⟩, trivial⟩)⟩
    ·have h3' := of_decide_eq_true h3
     rw [show 1500 - i = (1500 - (i + 1)) + 1 by omega, qM] at hT
     simp only at hT
     refine go ?_
     cases bad
     ·rw [if_neg (by decide)] at hT
      refine go ?_
      refine yX (turnT_i l hL hLM want turns ⟨m, step, seats, calls, full, wild, false⟩ n (300 + 1500 * who + i) N hn hw hn8 hU (by omega) hN who hwn cd cs hC) rfl (fun a w => Tryz.call22 a w) rfl rfl (by exact yL hC rfl rfl rfl rfl rfl rfl rfl) (by (repeat (first | exact trivial | refine ⟨.inr rfl, ?_⟩ | refine ⟨.inl rfl, ?_⟩))) rfl rfl rfl rfl ?_ ?_
      ·rintro d bs ⟨rfl, cd', cs', hC', rfl⟩; exact ⟨.inl rfl, .inl rfl, .inl rfl, .inl rfl, .inl rfl, .inl rfl, .inl rfl, trivial⟩
      rintro d bs ⟨rfl, cd', cs', hC', rfl⟩
      refine go ?_
      exact ⟨(i + 1, vI l want ⟨m, step, seats, calls, full, wild, false⟩ who, cd', cs'), ⟨by simp only; omega, hT, turn_und hU hL.seats.1, by simp only; rw [turn_n]; exact hn, hC'⟩, by simp only; omega, zX (hb := by exact ⟨⟨rfl, rfl⟩, ⟨rfl, rfl⟩, ⟨rfl, yF (t := vI l want ⟨m, step, seats, calls, full, wild, false⟩ who) hC' _ _ rfl rfl rfl rfl rfl rfl⟩, ⟨rfl, kV _ _ _⟩, ⟨rfl, kM _ _ _⟩, ⟨rfl, kB _ _ _⟩, ⟨rfl, kH _ _ _⟩, ⟨rfl, kG _ _ _⟩, ⟨rfl, hC'.pl _ _⟩, trivial⟩)⟩
     ·rw [if_pos rfl] at hT
      refine go ?_
      exact ⟨rfl, (_, cd, cs), ⟨hT, hU.mono (by omega), hn, hC⟩, zX (hb := by exact ⟨⟨rfl, rfl⟩, ⟨rfl, rfl⟩, ⟨rfl, yF (t := ⟨m, step, seats, calls, full, wild, true⟩) hC _ _ rfl rfl rfl rfl rfl rfl⟩, ⟨rfl, kV _ _ _⟩, ⟨rfl, kM _ _ _⟩, ⟨rfl, kB _ _ _⟩, ⟨rfl, kH _ _ _⟩, ⟨rfl, kG _ _ _⟩, ⟨rfl, hC.pl _ _⟩, trivial⟩)⟩
   clear hU hn hC
   rintro σ' ⟨t2, cd, cs⟩ ⟨hT2, hU, hn, hC⟩ hgh
   refine zR (zM (kP hgh ?_))
   clear hgh
   simp only at hT2 hU hn hC
   rw [← hT2] at hT
   clear hT2
   obtain ⟨x, hx⟩ : ∃ x, t2.seats[who]? = some x := ⟨t2.seats[who]'(by omega), List.getElem?_eq_getElem _⟩
   have hdone : kD4 t2 want who = (decide (x.op.kind = 0) && decide (ws.length ≤ x.next)) := by
    unfold kD4
    rw [hx, hws]
   rw [hdone] at hT
   have hnxb := (hU.seat hx).next
   have hol := jV9 t2.seats
   have hkd := opsC_get hx 0 (by omega)
   have hnx0 : (yC t2.seats)[who]? = some (dI x.next) := jG2 (f := fun x => dI x.next) hx
   obtain ⟨m, step, seats, calls, full, wild, bad⟩ := t2
   simp only at hx hol hkd hnx0 hn hC
   refine (show AWP _ _ _ _ ⟨[(7, dI who), (5, .ptr 30 0), (2, .ptr 0 0), (3, .ptr 1 0)], (0, xL l) :: (1, jB1 want turns) :: vS ⟨m, step, seats, calls, full, wild, bad⟩ n cd cs, []⟩ from ?_)
   cases bad
   ·by_cases hk : x.op.kind = 0
    ·refine jE 33 [] rfl rfl (by kernel_rfl) (by kernel_rfl) (by kernel_rfl) ?_
     refine goQ ?_
     refine r_q (jJ (p := who * 4) jB rfl rfl rfl rfl rfl (by omega) (by omega) (by show who * 4 = (who : Int).toNat * 4; omega)) rfl rfl ?_
     refine goQ ?_
     refine r_q (kS jB rfl rfl rfl rfl rfl hkd) rfl rfl ?_
     refine goQ ?_
     rw [show decide (x.op.kind = 0) = true by rw [decide_eq_true_eq]; exact hk]
     refine goQ ?_
     refine r_q (jJ (p := who) jB rfl rfl rfl rfl rfl (by omega) (by omega) (by show who = (who : Int).toNat * 1; omega)) rfl rfl ?_
     refine r_q (kS jB rfl rfl rfl rfl rfl hnx0) rfl rfl ?_
     refine goQ ?_
     refine r_q (jG jB [jS8 ws] rfl rfl rfl rfl rfl rfl (by first | omega | (simp; done) | (simp; omega)) (by first | omega | (simp; done) | (simp; omega)) (by first | (simp; done) | exact List.cons_ne_nil _ _) (jJ1 hws')) rfl rfl ?_
     refine goQ ?_
     refine go ?_
     rw [show decide (x.op.kind = 0) = true by rw [decide_eq_true_eq]; exact hk, Bool.true_and, Bool.false_or, show (!decide (ws.length ≤ x.next)) = decide ((x.next : Int) < ws.length) by rw [← decide_not]; exact decide_eq_decide.2 (by omega)] at hT
     exact ⟨(who + 1, ⟨m, step, seats, calls, full, wild, decide ((x.next : Int) < ws.length)⟩, cd, cs), ⟨by simp only; omega, hT, und_bad hU, hn, hC⟩, by simp only; omega, zX (hb := by exact ⟨⟨rfl, rfl⟩, ⟨rfl, rfl⟩, ⟨rfl, yF (t := ⟨m, step, seats, calls, full, wild, decide ((x.next : Int) < ws.length)⟩) hC _ _ rfl rfl rfl rfl rfl rfl⟩, ⟨rfl, kV _ _ _⟩, ⟨rfl, kM _ _ _⟩, ⟨rfl, kB _ _ _⟩, ⟨rfl, kH _ _ _⟩, ⟨rfl, kG _ _ _⟩, ⟨rfl, hC.pl _ _⟩, trivial⟩)⟩
    ·refine jE 33 [] rfl rfl (by kernel_rfl) (by kernel_rfl) (by kernel_rfl) ?_
     refine goQ ?_
     refine r_q (jJ (p := who * 4) jB rfl rfl rfl rfl rfl (by omega) (by omega) (by show who * 4 = (who : Int).toNat * 4; omega)) rfl rfl ?_
     refine goQ ?_
     refine r_q (kS jB rfl rfl rfl rfl rfl hkd) rfl rfl ?_
     refine goQ ?_
     rw [show decide (x.op.kind = 0) = false by rw [decide_eq_false_iff_not]; exact hk]
     refine goQ ?_
     refine go ?_
     rw [show decide (x.op.kind = 0) = false by rw [decide_eq_false_iff_not]; exact hk, Bool.false_and, Bool.not_false, Bool.or_true] at hT
     exact ⟨(who + 1, ⟨m, step, seats, calls, full, wild, true⟩, cd, cs), ⟨by simp only; omega, hT, und_bad hU, hn, hC⟩, by simp only; omega, zX (hb := by exact ⟨⟨rfl, rfl⟩, ⟨rfl, rfl⟩, ⟨rfl, yF (t := ⟨m, step, seats, calls, full, wild, true⟩) hC _ _ rfl rfl rfl rfl rfl rfl⟩, ⟨rfl, kV _ _ _⟩, ⟨rfl, kM _ _ _⟩, ⟨rfl, kB _ _ _⟩, ⟨rfl, kH _ _ _⟩, ⟨rfl, kG _ _ _⟩, ⟨rfl, hC.pl _ _⟩, trivial⟩)⟩
   ·refine jE 33 [] rfl rfl (by kernel_rfl) (by kernel_rfl) (by kernel_rfl) ?_
    refine goQ ?_
    refine go ?_
    rw [Bool.true_or] at hT
    exact ⟨(who + 1, ⟨m, step, seats, calls, full, wild, true⟩, cd, cs), ⟨by simp only; omega, hT, hU, hn, hC⟩, by simp only; omega, zX (hb := by exact ⟨⟨rfl, rfl⟩, ⟨rfl, rfl⟩, ⟨rfl, yF (t := ⟨m, step, seats, calls, full, wild, true⟩) hC _ _ rfl rfl rfl rfl rfl rfl⟩, ⟨rfl, kV _ _ _⟩, ⟨rfl, kM _ _ _⟩, ⟨rfl, kB _ _ _⟩, ⟨rfl, kH _ _ _⟩, ⟨rfl, kG _ _ _⟩, ⟨rfl, hC.pl _ _⟩, trivial⟩)⟩
  ·have h2' := of_decide_eq_false h2
   rw [show n - who = 0 by omega, hrestT] at hT
   refine go ?_
   exact ⟨rfl, (t, cd, cs), ⟨hT, hC⟩, zX (hb := by exact ⟨⟨rfl, rfl⟩, ⟨rfl, rfl⟩, ⟨rfl, yF (t := t) hC _ _ rfl rfl rfl rfl rfl rfl⟩, ⟨rfl, kV _ _ _⟩, ⟨rfl, kM _ _ _⟩, ⟨rfl, kB _ _ _⟩, ⟨rfl, kH _ _ _⟩, ⟨rfl, kG _ _ _⟩, ⟨rfl, hC.pl _ _⟩, trivial⟩)⟩
 clear hE hU hn hC
 rintro σ' ⟨t, cd, cs⟩ ⟨hT, hC⟩ hgh
 refine zR (zM (kP hgh ?_))
 clear hgh
 simp only at hT hC
 subst hT
 obtain ⟨m, step, seats, calls, full, wild, bad⟩ := t
 refine (show AWP _ _ _ _ ⟨[(5, .ptr 30 0), (2, .ptr 0 0), (3, .ptr 1 0)], (0, xL l) :: (1, jB1 want turns) :: vS ⟨m, step, seats, calls, full, wild, bad⟩ n cd cs, []⟩ from ?_)
 rcases hC.at_ with ⟨hc0, rfl⟩ | ⟨c, rfl, hc1, hc2, hc3, hc4⟩
 ·simp only at hc0
  subst hc0
  refine kP (uA 30 rfl rfl) ?_
  refine go ?_
  exact qI (tabF ⟨m, step, seats, [], full, wild, bad⟩ n) rfl rfl (by exact tabF_sub rfl rfl rfl rfl rfl rfl) (by (repeat (first | exact trivial | refine ⟨rfl, ?_⟩))) ⟨rfl, rfl⟩
 ·refine kP (jT4 (τs := [(5, .ptr 30 0)]) (τb := [(31, uB seats), (32, uG seats), (33, yN seats), (34, yC seats), (35, yZ seats)]) (τg := []) 30 7 36 (wD calls) rfl rfl rfl rfl rfl ⟨⟨rfl, rfl⟩, trivial⟩ (by exact ⟨⟨rfl, rfl⟩, ⟨rfl, kV _ _ _⟩, ⟨rfl, kM _ _ _⟩, ⟨rfl, kB _ _ _⟩, ⟨rfl, kH _ _ _⟩, ⟨rfl, kG _ _ _⟩, trivial⟩) trivial (by (repeat (first | exact trivial | refine ⟨rfl, ?_⟩))) rfl hc1 hc2 (jN2 calls) hc4 hc3 (pCalls_lf calls)) ?_
  refine go ?_
  exact qI (tabF ⟨m, step, seats, calls, full, wild, bad⟩ n) rfl rfl (by exact tabF_sub rfl rfl rfl rfl rfl rfl) (by (repeat (first | exact trivial | refine ⟨rfl, ?_⟩))) ⟨rfl, rfl⟩
end Go.Proofs.YtkkldicehapklaaGreat
