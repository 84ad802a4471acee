/- Regions that draw their order: a call of any kind, with quiet operations ahead of it, and a new variable that is made at any time. -/
import Derived.Test.YtkkldicehapklaaGreatAny
namespace Go.Proofs.YtkkldicehapklaaGreat
open Go.RowKit
section
variable {P : Program} {T : Nat → Option TI} {Γ : Ctx} {l : List Oper} {Q Q' : Exit → St → Prop} {fuel : Nat} {listed listed' : Array Bool} {σ : St} {o : Oper} {i : Nat}
theorem kB3 {ops : Array Oper} {Q Q' : Exit → Act → World → Prop} (hn : ∀ a w, Q .normal a w → Q' .normal a w) (hq : ∀ ex a w, ex ≠ .normal → Q ex a w → Q' ex a w) : ∀ (fuel : Nat) (listed : Array Bool) (a : Act) (w : World), wpAny P .any ops Q fuel listed a w → wpAny P .any ops Q' fuel listed a w
 | 0, _, a, w, h => ⟨h.1, hn a w h.2⟩
 | fuel + 1, listed, a, w, h => ⟨fun hr => hn a w (h.1 hr), fun i hi => wpOp_mono (fun a' w' hh => kB3 hn hq fuel _ a' w' hh) (kL8 hq (h.2 i hi))⟩
theorem yT (h : AAny P Γ l (fun ex σ => ex = .normal ∧ Q .normal σ) fuel listed σ) : AAny P Γ l Q fuel listed σ := ⟨fun a e hc =>
 kB3 (fun _ _ hh => by obtain ⟨τ, e', h1, h2, _, h4⟩ := hh; exact ⟨τ, e', h1, h2, h4⟩) (fun ex _ _ hne hh => by obtain ⟨τ, e', _, _, h3, _⟩ := hh; exact absurd h3 hne) _ _ _ _ (h.run a e hc)⟩
theorem jV {x : Operand} {k : Nat} {ds : List Dt} {d : Dt} (ho : o.op = .extract x k) (hg : gd l o (kv σ.s) = some true) (hx : ev (kv σ.s) x = some (.tup ds)) (hd : ds[k]? = some d) : YStep P Γ l o σ d := fun a e hc => by
 have h1 := (hc.sees o.op.operands).1 x (by rw [ho]; simp [Op.operands]) _ hx
 generalize hev : a.eval x = v at h1
 cases h1 with
 | tup hl hh =>
  rename_i vs
  have hk : k < vs.length := by rw [hl]; exact (List.getElem?_eq_some_iff.1 hd).1
  refine ⟨vs[k], .inl ⟨qN hc hg, fun w => ?_⟩, hh k _ d (List.getElem?_eq_getElem hk) hd⟩
  obtain ⟨dst, op, type, pos, after, guard⟩ := o
  simp only at ho
  subst ho
  simp [execOp, hev, Instr.extract, hk]
def aroundB (ops : Array Oper) (c j : Nat) : Bool := (List.range c).all (fun i => yV ops ops.size c i && match ops[i]? with | some o => o.dst.isSome | none => true) && (List.range ops.size).all (fun i => decide (i ≤ c) || i == j || yV ops ops.size i c)
theorem stG_keys {M : Nat → Option (Nat × Gr)} {c i : Nat} {p : Nat × Gr} (h : ∀ g, stG M (fun _ => none) c g = none) (hi : i < c) (hp : M i = some p) : False := by
 rcases jR2 (M := M) (G := fun _ => none) (h := p.1) c with ⟨_, h2⟩ | ⟨j, Gj, _, _, h3, _⟩
 ·exact h2 i p hi hp rfl
 ·rw [h] at h3; cases h3
theorem jC1 (c j nm : Nat) {id tj : Nat} {l1 : List Oper} {oc oj : Oper} {cells : List Dt} {B : List (Nat × List Dt)} {LA LB : Array Bool} {na nb : Nat} (hs : jE3 c l some = some l1) (hv : visK [] σ.b some = some B) (hm : P.follows .mixedOrders = true) (hB : relB l.toArray Γ.n = true) (hA : aroundB l.toArray c j = true) (hoc : l[c]? = some oc) (hcj : Nat.blt c j = true) (hoj : l[j]? = some oj) (hgj : oj.guard = none) (hdj : oj.dst = some tj) (hqj : ∀ (S : Nat → Option Dt) (B' : Nat → Option (List Dt)), QStep P oj S B' (.ptr nm 0) (some (nm, cells)))
  (hLA : ((List.range l.length).map fun i => decide (i < c)).toArray = LA) (hLB : ((List.range l.length).map fun i => decide (i < c) || i == j).toArray = LB) (hna : yU LA = na) (hnb : yU LB = nb) (hg : σ.g = [])
  (h : QRun P Γ.n l B B (fun τ => τ.g = [] ∧ kv τ.b nm = none ∧ kv B nm = none ∧ AAny P Γ l Q na LA τ ∧ AAny P Γ l Q nb LB ⟨(tj, .ptr nm 0) :: τ.s, (nm, cells) :: τ.b, τ.g⟩) 0 [] [] l1 σ) : AWP P Γ (.region id l.toArray true) Q σ := by
 obtain ⟨hk1, hs⟩ := vD hs
 cases hs
 have hcj : c < j := by simpa using hcj
 obtain ⟨B', h3, _, _, hBs⟩ := jA0 _ _ _ _ hv
 cases h3
 have hsz : l.toArray.size = l.length := by simp
 have hjl : j < l.length := (List.getElem?_eq_some_iff.1 hoj).1
 have hl1 : (l.take c).length = c := by rw [List.length_take]; omega
 have g1 : ∀ i, i < c → l[i]? = (l.take c)[i]? := fun i hi => by rw [List.getElem?_take_of_lt hi]
 have hok := jZ5 hB
 obtain ⟨F1, N1, U1, M1, σ1, ⟨hg1, hnm, hnB, hAA, hAB⟩, e1g, e1s, e1b, ls1⟩ := QRun.extract (l.take c) 0 [] [] σ h
 rw [hl1] at e1g e1s e1b
 have ls1' : ∀ i o, i < c → l[i]? = some o → jS7 P l i (kv B) (kv B) (stS (l.take c) F1 (kv σ.s) i) (stB N1 (kv σ.b) i) (stG M1 (kv σ.g) i) (stD U1 N1 [] i) (stL (l.take c) M1 [] i) o (F1 i) (N1 i) (U1 i) (M1 i) := fun i o hi ho => by
  have := ls1 i o (by rw [← g1 i hi]; exact ho)
  rw [Nat.zero_add] at this
  exact this
 simp only [aroundB, Bool.and_eq_true] at hA
 have hA1 : ∀ i, i < c → yV l.toArray l.toArray.size c i = true ∧ ∀ o, l[i]? = some o → o.dst.isSome = true := fun i hi => by
  have h5 := List.all_eq_true.1 hA.1 i (List.mem_range.2 hi)
  simp only [Bool.and_eq_true] at h5
  exact ⟨h5.1, fun o ho => by have h6 := h5.2; rw [show l.toArray[i]? = some o by simpa using ho] at h6; exact h6⟩
 have hA2 : ∀ i, i < l.length → c < i → i ≠ j → yV l.toArray l.toArray.size i c = true := fun i hi hci hij => by
  have h5 := List.all_eq_true.1 hA.2 i (List.mem_range.2 (by rw [hsz]; exact hi))
  simp only [Bool.or_eq_true, decide_eq_true_eq, beq_iff_eq] at h5
  rcases h5 with (h5 | h5) | h5
  ·omega
  ·exact absurd h5 hij
  ·exact h5
 have hM1 : ∀ i, i < c → M1 i = none := fun i hi => by
  cases hp : M1 i with
  | none => rfl
  | some p =>
   refine (stG_keys (M := M1) (c := c) (fun g => ?_) hi hp).elim
   have : kv σ1.g g = stG M1 (kv σ.g) c g := by rw [e1g]
   rw [hg1, hg] at this
   exact this.symm
 have hU1 : ∀ i, i < c → U1 i = false := fun i hi => by
  have hil : i < l.length := by omega
  have ho := List.getElem?_eq_getElem hil
  rcases ls1' i _ hi ho with ⟨_, _, _, h5, _⟩ | ⟨_, _, _, h5, _⟩ | ⟨_, _, _, _, hd, _⟩ | ⟨_, _, _, _, _, _, _, _, _, h5, _⟩
  ·exact h5
  ·exact h5
  ·have := (hA1 i hi).2 _ ho
   rw [hd] at this; cases this
  ·exact h5
 let F : Nat → Dt := fun i => if i < c then F1 i else if i = j then .ptr nm 0 else .any
 let N : Nat → Option (Nat × List Dt) := fun i => if i < c then N1 i else if i = j then some (nm, cells) else none
 have F1e : ∀ i, i < c → F i = F1 i := fun i hi => if_pos hi
 have N1e : ∀ i, i < c → N i = N1 i := fun i hi => if_pos hi
 have Fj : F j = .ptr nm 0 := by simp only [F]; rw [if_neg (by omega)]; simp
 have Nj : N j = some (nm, cells) := by simp only [N]; rw [if_neg (by omega)]; simp
 have Nn : ∀ i, c ≤ i → i ≠ j → N i = none := fun i hi hij => by simp only [N]; rw [if_neg (by omega), if_neg hij]
 have eS1 : ∀ i, i ≤ c → stS l F (kv σ.s) i = stS (l.take c) F1 (kv σ.s) i := fun i hi => jU5 i fun k hk => ⟨g1 k (by omega), F1e k (by omega)⟩
 have eSb : ∀ i, i ≤ c → stB N (kv σ.b) i = stB N1 (kv σ.b) i := fun i hi => jG0 i fun k hk => N1e k (by omega)
 have eG : ∀ (M : Nat → Option (Nat × Gr)) i, (∀ k, k < i → M k = none) → stG M (kv σ.g) i = kv σ.g := fun M i hM => by
  induction i with
  | zero => rfl
  | succ i ih =>
   rw [stG, hM i (Nat.lt_succ_self i), ih fun k hk => hM k (by omega)]
   rfl
 have eL : ∀ (l' : List Oper) (M : Nat → Option (Nat × Gr)) i, (∀ k, k < i → M k = none) → stL l' M [] i = [] := fun l' M i hM => by
  induction i with
  | zero => rfl
  | succ i ih =>
   rw [stL, hM i (Nat.lt_succ_self i), ih fun k hk => hM k (by omega)]
   rfl
 have eD : ∀ (U : Nat → Bool) (N' : Nat → Option (Nat × List Dt)) i, (∀ k, k < i → U k = false) → stD U N' [] i = [] := fun U N' i hU => kB7 i hU
 have hBn : ∀ i, i ≤ j → stB N (kv σ.b) i nm = none := fun i hi => by
  have hb0 : stB N1 (kv σ.b) c nm = none := by rw [← e1b]; exact hnm
  obtain ⟨q1, q2⟩ := jC8 c hb0
  refine jX5 i q1 fun k p hk hp => ?_
  by_cases hkc : k < c
  ·rw [N1e k hkc] at hp
   exact q2 k p hkc hp
  ·rw [Nn k (by omega) (by omega)] at hp; cases hp
 let okB : Nat → Bool := fun i => decide (i < c) || i == j
 have okp : ∀ i, okB i = true → i < c ∨ i = j := fun i hi => by
  simp only [okB, Bool.or_eq_true, decide_eq_true_eq, beq_iff_eq] at hi
  exact hi
 refine ⟨fun a e hc => ?_⟩
 have hex : ∀ i, i < l.length → ∃ o, l[i]? = some o := fun i hi => ⟨l[i], List.getElem?_eq_getElem hi⟩
 have := xU (P := P) (Γ := Γ) (σ := σ) (ops := l.toArray) (H := l.toArray.size) (fun _ => false) (fun i => i == c) okB hok (jU4 l.toArray).1 (Nat.le_refl _) (F := F) (N := N) (U := fun _ => false) (M := fun _ => none) (B := B) (a0 := a) (Q := jE4 Γ Q)
  (fun i hi => Nn i (by omega) (by omega)) (fun _ _ => rfl)
  (fun i hi => by rcases hi with hi | hi; · cases hi
                  · rw [show i = c by simpa using hi]; exact Nn c (Nat.le_refl _) (by omega))
  (fun _ _ => rfl)
  (fun i o ho => by
   have hi : i < l.length := by have := (Array.getElem?_eq_some_iff.1 ho).1; omega
   by_cases hic : i = c
   ·exact .inr (.inl (by simp [hic]))
   ·by_cases hij : i = j
    ·exact .inl (by simp [okB, hij])
    ·rcases Nat.lt_or_ge i c with h5 | h5
     ·exact .inl (by simp [okB, h5])
     ·exact .inr (.inr ⟨c, by simp, hA2 i hi (by omega) hij⟩))
  (.inl fun _ _ => ⟨rfl, rfl⟩) (fun b cs => hBs.get)
  (fun i o hi ho _ _ hoi => by
   have ho' : l[i]? = some o := by simpa using ho
   rw [eG _ i (fun _ _ => rfl), eL _ _ i (fun _ _ => rfl), eD _ _ i (fun _ _ => rfl)]
   show jS7 P l i (kv B) (kv σ.b) (stS l F (kv σ.s) i) (stB N (kv σ.b) i) (kv σ.g) [] [] o (F i) (N i) false none
   rcases okp i hoi with h5 | rfl
   ·have hps := ls1' i o h5 ho'
    rw [eG _ i (fun k hk => hM1 k (by omega)), eL _ _ i (fun k hk => hM1 k (by omega)), eD _ _ i (fun k hk => hU1 k (by omega)), hU1 i h5, hM1 i h5, ← eS1 i (by omega), ← eSb i (by omega), ← F1e i h5, ← N1e i h5] at hps
    rcases hps with ⟨a1, a2, a3, a4, a5⟩ | hps | ⟨_, _, _, _, hd, _⟩ | ⟨_, _, _, _, _, _, _, _, _, _, hh⟩
    ·exact .inl ⟨a1, .inl (by rcases a2 with a2 | ⟨_, a2⟩ <;> exact a2), a3, a4, a5⟩
    ·exact .inr (.inl hps)
    ·have := (hA1 i h5).2 o ho'
     rw [hd] at this; cases this
    ·cases hh
   ·rw [hoj] at ho'
    cases ho'
    rw [Fj, Nj]
    refine .inl ⟨?_, .inl (hqj _ _), fun p hp => ?_, rfl, rfl⟩
    ·unfold gd; rw [hgj]
    ·cases hp
     exact ⟨hBn i (Nat.le_refl _), hnB⟩)
  (fun listed b e' hv q2 q3 q4 => by
   have h1 := q2 c (by omega)
   rw [q4 c (by simp)] at h1; cases h1)
  (fun fuel listed a' e' i hi hfu hr hinv htl _ => by
   obtain rfl : i = c := by simpa using hi
   have ho : l.toArray[i]? = some oc := by simpa using hoc
   obtain ⟨hun, o', ho', hal⟩ := mem_ready.1 hr
   rw [ho] at ho'
   cases ho'
   obtain ⟨hun', hil⟩ := kI hun
   have hpre : ∀ k, k < i → listed.getD k false = true := fun k hk => uQ hinv.closed _ _ _ oc ho hal (hA1 k hk).1
   have hpost : ∀ k, i ≤ k → k ≠ j → listed.getD k false = false := fun k hk hkj => by
    cases hl : listed.getD k false with
    | false => rfl
    | true =>
     by_cases hki : k = i
     ·rw [hki, hun'] at hl; cases hl
     ·have hks : k < l.length := by
       rcases Nat.lt_or_ge k l.length with h5 | h5
       ·exact h5
       ·have : listed[k]? = none := Array.getElem?_eq_none (by rw [hinv.lsize, hsz]; exact h5)
        simp [this] at hl
      obtain ⟨ok', hok'⟩ := hex k hks
      have hok'' : l.toArray[k]? = some ok' := by simpa using hok'
      have := uQ hinv.closed _ _ _ ok' hok'' (fun x hx hb => hinv.closed k ok' hok'' hl x hx hb) (hA2 k hks (by omega) hkj)
      rw [hun'] at this; cases this
   have hlsz : listed.size = l.length := by rw [hinv.lsize, hsz]
   have hopQ : ∀ {L : Array Bool} {n : Nat} {τ : St}, listed = L → n = fuel + 1 → Conc Γ τ e' a' → AAny P Γ l Q n L τ → wpOp P l.toArray (jE4 Γ Q) i (wpAny P .any l.toArray (jE4 Γ Q) fuel (listed.setIfInBounds i true)) a' e'.w := fun hL hn hcc hAny => by
    subst hL; subst hn
    exact (hAny.run a' e' hcc).2 i hr
   cases hlj : listed.getD j false with
   | false =>
    have hL : listed = LA := by
     rw [← hLA]
     refine Array.ext (by simp [hlsz]) fun k h5 h6 => ?_
     have h7 : k < l.length := by omega
     have h8 : listed.getD k false = listed[k] := by simp [h5]
     rw [← h8]
     simp only [List.getElem_toArray, List.getElem_map, List.getElem_range]
     rcases Nat.lt_or_ge k i with h9 | h9
     ·rw [hpre k h9]; simp [h9]
     ·by_cases hkj : k = j
      ·rw [hkj, hlj]; simp; omega
      ·rw [hpost k h9 hkj]; simp; omega
    refine hopQ hL (by rw [← hna, ← hL]; omega) ?_ hAA
    refine hinv.conc hok (H := i) (by rw [e1s]; exact (eS1 i (Nat.le_refl _)).symm) (by rw [e1b]; exact (eSb i (Nat.le_refl _)).symm) (by rw [eG _ i (fun _ _ => rfl), hg1, hg]) hpre fun t h5 h6 => ?_
    have h7 : listed.getD t false = false := by
     by_cases hkj : t = j
     ·rw [hkj]; exact hlj
     ·exact hpost t h5 hkj
    have h8 : t < listed.size := by rw [hinv.lsize]; exact h6
    simp [h8] at h7 ⊢
    exact h7
   | true =>
    have hL : listed = LB := by
     rw [← hLB]
     refine Array.ext (by simp [hlsz]) fun k h5 h6 => ?_
     have h7 : k < l.length := by omega
     have h8 : listed.getD k false = listed[k] := by simp [h5]
     rw [← h8]
     simp only [List.getElem_toArray, List.getElem_map, List.getElem_range]
     rcases Nat.lt_or_ge k i with h9 | h9
     ·rw [hpre k h9]; simp [h9]
     ·by_cases hkj : k = j
      ·rw [hkj, hlj]; simp
      ·rw [hpost k h9 hkj]; simp [hkj]; omega
    refine hopQ hL (by rw [← hnb, ← hL]; omega) ?_ hAB
    have hin : ∀ k, listed.getD k false = true → k < i ∨ k = j := fun k hk => by
     by_cases hkj : k = j
     ·exact .inr hkj
     ·rcases Nat.lt_or_ge k i with h5 | h5
      ·exact .inl h5
      ·rw [hpost k h5 hkj] at hk; cases hk
    have hoj' : l.toArray[j]? = some oj := by simpa using hoj
    refine ⟨hinv.size, hinv.df, fun t d ht => ?_, fun b cs hb => ?_, fun b hb => ?_, fun g => ?_, hinv.env⟩
    ·simp only [jU] at ht
     split at ht
     ·rename_i htj
      subst htj
      cases ht
      rw [← Fj]
      exact hinv.knows j oj _ hoj' hlj hdj
     ·rename_i htj
      rw [e1s, ← eS1 i (Nat.le_refl _)] at ht
      by_cases hexx : ∃ (k : Nat) (ok' : Oper), k < i ∧ l.toArray[k]? = some ok' ∧ ok'.dst = some t
      ·obtain ⟨k, ok', hki, hk, hd⟩ := hexx
       have := jM6 (ops := l.toArray) hok (F := F) (S := kv σ.s) hk hd i hki
       rw [this] at ht
       cases ht
       exact hinv.knows k ok' t hk (hpre k hki) hd
      ·have := jJ9 (ops := l.toArray) (F := F) (S := kv σ.s) (t := t) i fun k ok' hki hk hd => hexx ⟨k, ok', hki, hk, hd⟩
       rw [this] at ht
       rw [hinv.kept t fun k ok' hk hl hd => ?_]
       ·exact hinv.slots t d ht
       ·rcases hin k hl with h5 | rfl
        ·exact hexx ⟨k, ok', h5, hk, hd⟩
        ·rw [hoj'] at hk; cases hk
         rw [hdj] at hd; cases hd
         exact htj rfl
    ·simp only [jU] at hb
     split at hb
     ·rename_i hbn
      subst hbn
      cases hb
      refine hinv.news j (nm, cells) hlj Nj fun k q hk hl hq => ?_
      rcases hin k hl with h5 | h5 <;> omega
     ·rename_i hbn
      rw [e1b, ← eSb i (Nat.le_refl _)] at hb
      rcases jZ0 i hb with ⟨h1, h2⟩ | ⟨k, hk, hp, h2⟩
      ·refine hinv.boxes b cs h1 fun k p hl hp => ?_
       rcases hin k hl with h5 | rfl
       ·exact h2 k p h5 hp
       ·rw [Nj] at hp; cases hp; exact fun e => hbn e
      ·refine hinv.news k _ (hpre k hk) hp fun k' q hk' hl hq => ?_
       rcases hin k' hl with h5 | rfl
       ·exact h2 k' q hk' h5 hq
       ·rw [Nj] at hq; cases hq; exact fun e => hbn e
    ·simp only [jU] at hb
     split at hb
     ·cases hb
     ·rename_i hbn
      rw [e1b, ← eSb i (Nat.le_refl _)] at hb
      obtain ⟨h1, h2⟩ := jC8 i hb
      refine hinv.nobox b h1 fun k p hl _ hp => ?_
      rcases hin k hl with h5 | rfl
      ·exact h2 k p h5 hp
      ·rw [Nj] at hp; cases hp; exact fun e => hbn e
    ·rw [hg1, hinv.gs g fun _ _ _ hp => by cases hp]
     rw [hg])
  l.toArray.size (Array.replicate l.toArray.size false) a { e with w := e.w.drew } (uK _).symm
  ?_ (fun t h5 ht => by omega) (fun i hi => by cases hi) (fun i hi => by
   have : i = c := by simpa using hi
   have hcl : c < l.length := by omega
   simp [this, hcl])
 ·exact wp_region_any hm this
 ·have hgw : Grow e { e with w := e.w.drew } := ⟨(Below.refl _ _).drew, fun _ _ => rfl, rfl, rfl, rfl⟩
  have hc' := hc.grow hgw
  refine ⟨by simp, hc.size, hc.df, fun i o _ hl => ?_, fun i o t _ hl => ?_, fun t _ => rfl, hc'.slots, fun b cs hb _ => hc'.boxes b cs hb, fun i p hl => ?_, fun b hb _ => hc'.nobox b hb, fun g _ => hc'.gs g, fun i p hl => ?_, hc'.env⟩
  all_goals (simp [Array.getElem?_replicate] at hl; split at hl <;> simp at hl)
theorem kK0 (ws : List Nat) {l3 : List Oper} {m : Nat} {B : List (Nat × List Dt)} (hv : visK ws σ.b some = some B) (hk : jU3 σ.s (l.take m) = true) (h : QRun P Γ.n l B σ.b (Q .normal) m [] [] l3 σ) : lastQ P Γ l l3 m Q .normal σ := by
 obtain ⟨B', h3, _, _, hBs⟩ := jA0 _ _ _ _ hv
 cases h3
 exact ⟨B, hBs, hk, h⟩
end
end Go.Proofs.YtkkldicehapklaaGreat
