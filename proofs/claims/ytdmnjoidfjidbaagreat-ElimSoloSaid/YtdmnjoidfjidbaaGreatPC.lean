/- Pushes and pops of one who is alone end. -/
import Derived.Test.YtdmnjoidfjidbaaGreatPB
namespace Go.Proofs.YtdmnjoidfjidbaaGreat
set_option maxRecDepth 100000

section
variable (top : Int)
def cK (W : Ws) : Ek → Nat
  | .p1 _ _ _ => 4
  | .pl _ _ _ => 3
  | .ps _ _ _ w => if W.ob top = w then 2 else 11
  | .pc _ _ _ w => if W.ob top = w then 1 else 10
  | .ql _ _ _ => 9
  | .qc c _ _ w => if W.ob c = w then 8 else 4
  | .m1 _ _ _ _ _ => 7
  | .m2 _ _ _ _ _ => 6
  | .m3 _ _ _ _ _ => 5
  | .qs _ _ _ _ => 4
  | .ol _ w => if W.ob top = w then 85 else 100
  | .oc _ w _ => if W.ob top = w then 84 else 99
  | .ov _ _ => 83
  | .os _ => 98
  | .ot c w => if W.ob c = w then 4 else 97
  | _ => 0
def gK (W : Ws) (v : Int) : Nat := if W.ob top = v then 86 else 101
def nz (s : PsT) : Nat := (if s.e0 = 0 then 0 else 1) + (if s.e1 = 0 then 0 else 1) + (if s.e2 = 0 then 0 else 1)
def kC (S : Nat) (s : PsT) : Ek → Nat
  | .rx _ _ => 2 + 3 * S + 4 * (s.gone.length + 1)
  | _ => 0
def nuPc (S : Nat) (V : Vw) (s : PsT) : Pc Ek → Nat
  | .at_ k => cK top V.W k
  | .t1 _ => 9
  | .t2 _ f => if V.fr = f then 8 else 11
  | .t3 _ f _ => if V.fr = f then 7 else 10
  | .t4 _ _ _ => 6
  | .t5 _ _ _ _ => 5
  | .g1 _ i _ => if V.er = s.e i then 88 else 91
  | .g2 _ i _ v _ => if V.er = s.e i then 1 + gK top V.W v else 90
  | .g3 _ _ _ er => if V.er = er then 89 else 92
  | .clr _ => 0
  | .c k _ => nz s + kC S s k
  | .v1 _ _ => 3
  | .v2 _ _ f => if V.fr = f then 2 else 5
  | .v3 _ _ f => if V.fr = f then 1 else 4
  | .r1 _ _ => 2 + 3 * S + 4 * (s.gone.length + 1)
  | .r2 _ _ _ => 1 + 3 * S + 4 * (s.gone.length + 1)
  | .rs _ _ _ cs => 1 + cs.length + 4 * s.gone.length
  | .s1 _ _ _ gs _ => 4 + 4 * gs.length
  | .w1 _ _ _ gs _ => 3 + 4 * gs.length
  | .w2 _ _ _ gs _ f => (if V.fr = f then 2 else 5) + 4 * gs.length
  | .w3 _ _ _ gs _ f => (if V.fr = f then 1 else 4) + 4 * gs.length
  | .fin _ => 0
def nu (S : Nat) (V : Vw) (q : Q Ek) : Nat := nuPc top S V q.s q.pc
end
section
variable {top lo hi : Int} {S N K : Nat} {l : LayT} {V : Vw}
theorem nz_le (s : PsT) : nz s ≤ 3 := by unfold nz; split <;> split <;> split <;> omega
theorem nu_clr {k : Ek} {s : PsT} (hk : isC k) : nu top S V (clrQ (elmM top) k s) ≤ nz s + kC S s k := by
  rcases clr_cases (M := elmM top) k s with ⟨i, _, _, _, e⟩ | ⟨_, e⟩
  · rw [e]; exact Nat.le_refl _
  · rw [e]
    cases k <;> first
      | exact absurd hk id
      | exact Nat.zero_le _
      | exact Nat.le_add_left _ _
theorem nu_fi (o : OutT) (s : PsT) : nu top S V (norm (elmM top) (.clr (.fi o)) s) ≤ 3 := by
  have h1 : nu top S V (clrQ (elmM top) (.fi o) s) ≤ _ := nu_clr (k := .fi o) trivial
  have h2 := nz_le s
  show nu top S V (clrQ (elmM top) (.fi o) s) ≤ 3
  simp only [kC] at h1
  omega
theorem nu_og (c : Int) (s : PsT) (V : Vw) : nu top S V ⟨.g1 (.og c) 0 (.ob top), s⟩ ≤ 91 := by
  show (if V.er = s.e 0 then 88 else 91) ≤ 91
  split <;> omega
theorem nu_sift {k : Ek} (hk : isR k) (held : List Int) (s : PsT) (gs stay : List (Int × Int)) : nu top S V (siftQ (elmM top) k held s gs stay) ≤ 4 * gs.length := by
  cases gs with
  | nil => cases k <;> first | exact absurd hk id | exact Nat.zero_le _
  | cons g gs => simp only [siftQ, nu, nuPc, List.length_cons]; omega
theorem nu_scan {k : Ek} (hk : isR k) (held : List Int) (s : PsT) (cs : List Ad) : nu top S V (scanQ (elmM top) k held s cs) ≤ cs.length + 4 * s.gone.length := by
  cases cs with
  | nil => have := nu_sift (top := top) (S := S) (V := V) hk held s s.gone []; simpa [scanQ] using this
  | cons c cs => simp only [scanQ, nu, nuPc, List.length_cons]; omega
theorem nz_put {s : PsT} {i : Int} (i0 : 0 ≤ i) (i2 : i ≤ 2) (h : s.e i ≠ 0) : nz (s.up.putE i 0) < nz s := by
  have : i = 0 ∨ i = 1 ∨ i = 2 := by omega
  rcases this with rfl | rfl | rfl
  · have h : s.e0 ≠ 0 := h
    simp only [PsT.putE, PsT.up, nz, if_true, h, if_false]; omega
  · have h : s.e1 ≠ 0 := h
    show (if s.e0 = 0 then 0 else 1) + (if (0 : Int) = 0 then 0 else 1) + (if s.e2 = 0 then 0 else 1) < nz s
    simp only [nz, if_true, h, if_false]; omega
  · have h : s.e2 ≠ 0 := h
    show (if s.e0 = 0 then 0 else 1) + (if s.e1 = 0 then 0 else 1) + (if (0 : Int) = 0 then 0 else 1) < nz s
    simp only [nz, if_true, h, if_false]; omega
variable {qs : List (Q Ek)} {F X : List Int} {g : ElmG} {w : Nat} {q : Q Ek}
theorem own_len {κ γ : Type} {Z : Sp κ γ} {l : LayT} {S N K : Nat} {V : Vw} {qs : List (Q κ)} {F X : List Int} {g : γ} (hI : Inv Z l S N K V qs F X g) {w : Nat} {q : Q κ} (hq : qs[w]? = some q) : (own Z q).length ≤ N := by
  refine nodup_le N (own Z q) ?_ (fun x hx => hI.inOwn hq hx)
  rw [List.nodup_iff_count]
  intro x
  by_cases hx : x ∈ own Z q
  · exact Nat.le_of_eq (hI.ownNot hq hx).2.2.1
  · rw [List.count_eq_zero.2 hx]; omega
theorem nu_dec (hN : N ≤ 16) (hS : S ≤ 3) (hI : Inv (elmZ top lo hi N) l S N K V qs F X g) (hq : qs[w]? = some q) (hf : q.pc.asking) {op : OpT} (he : eP op q.pc) (hc : cOk q) :
    nu top S (act V (asks (elmM top) w q.pc)).1 (tell (elmM top) S q (act V (asks (elmM top) w q.pc)).2) < nu top S V q := by
  have hl := hI.loc w _ hq
  have hown := own_len hI hq
  obtain ⟨pc, s⟩ := q
  have hpc := hl.pc
  have fi3 : ∀ (V : Vw) (o : OutT) (s : PsT), nu top S V (norm (elmM top) (.clr (.fi o)) s) ≤ 3 := fun V o s => nu_fi o s
  cases pc with
  | fin o => exact absurd hf id
  | clr k => exact absurd hf id
  | at_ k =>
    have hk : elmKL top lo hi N V.W g (Pr (elmZ top lo hi N) V X qs w s) k := hpc.1
    have cas : ∀ (a o v : Int), act V (.cs (.ob a) o v) = if V.W.ob a = o then ({ V with W := V.W.setOb a v }, ⟨V.W.ob a, true⟩) else (V, ⟨V.W.ob a, false⟩) := fun a o v => rfl
    cases k with
    | p1 c v n => exact (show 3 < 4 by omega)
    | pl c v n =>
      show (if V.W.ob top = V.W.ob top then 2 else 11) < 3
      rw [if_pos rfl]; omega
    | ps c v n x =>
      show (if (V.W.setNd n 0 (ofW x).idx).ob top = x then 1 else 10) < if V.W.ob top = x then 2 else 11
      rw [show (V.W.setNd n 0 (ofW x).idx).ob top = V.W.ob top from rfl]
      split <;> omega
    | pc c v n x =>
      have e1 : act V (asks (elmM top) w (.at_ (.pc c v n x))) = _ := cas top x _
      rw [e1]
      show _ < if V.W.ob top = x then 1 else 10
      by_cases hx : V.W.ob top = x
      · rw [if_pos hx, if_pos hx]; exact Nat.zero_lt_one
      · rw [if_neg hx, if_neg hx]; exact (show 9 < 10 by omega)
    | ql c v n =>
      show nu top S V (norm (elmM top) (if offK (V.W.ob c) = 0 then .at_ (.qc c v n (V.W.ob c)) else .at_ (.pl c v n)) s.up) < 9
      split
      · show (if V.W.ob c = V.W.ob c then 8 else 4) < 9
        rw [if_pos rfl]; omega
      · exact (show 3 < 9 by omega)
    | qc c v n x =>
      have e1 : act V (asks (elmM top) w (.at_ (.qc c v n x))) = _ := cas c x _
      rw [e1]
      show _ < if V.W.ob c = x then 8 else 4
      by_cases hx : V.W.ob c = x
      · rw [if_pos hx, if_pos hx]; exact (show 7 < 8 by omega)
      · rw [if_neg hx, if_neg hx]; exact (show 3 < 4 by omega)
    | m1 c v n x a =>
      show nu top S V (norm (elmM top) (if V.W.ob c = mineW v x then .at_ (.m2 c v n x a) else .at_ (.qs c n x a)) s.up) < 7
      split
      · exact (show 6 < 7 by omega)
      · exact (show 4 < 7 by omega)
    | m2 c v n x a =>
      show nu top S V (norm (elmM top) (if V.W.ob c = mineW v x then .at_ (.m3 c v n x a) else .at_ (.qs c n x a)) s.up) < 6
      split
      · exact (show 5 < 6 by omega)
      · exact (show 4 < 6 by omega)
    | m3 c v n x a =>
      have e1 : act V (asks (elmM top) w (.at_ (.m3 c v n x a))) = _ := cas c (mineW v x) _
      rw [e1]
      show _ < 5
      by_cases hx : V.W.ob c = mineW v x
      · rw [if_pos hx]; exact (show 3 < 5 by omega)
      · rw [if_neg hx]; exact (show 4 < 5 by omega)
    | qs c n x a => exact (show 3 < 4 by omega)
    | ol c x =>
      show (if V.W.ob top = x then 84 else 99) < if V.W.ob top = x then 85 else 100
      split <;> omega
    | oc c x b =>
      have e1 : act V (asks (elmM top) w (.at_ (.oc c x b))) = _ := cas top x _
      rw [e1]
      show _ < if V.W.ob top = x then 84 else 99
      by_cases hx : V.W.ob top = x
      · rw [if_pos hx, if_pos hx]; exact (show 83 < 84 by omega)
      · rw [if_neg hx, if_neg hx]; exact (show 98 < 99 by omega)
    | ov n a =>
      have h1 : nu top S V (clrQ (elmM top) (.rx n (popO (V.W.nd n 1) a)) s.up) ≤ nz s.up + kC S s.up (.rx n (popO (V.W.nd n 1) a)) := nu_clr trivial
      have h2 := nz_le s.up
      have h3 : s.gone.length + 1 ≤ N := by
        have : (own (elmZ top lo hi N) ⟨.at_ (.ov n a), s⟩).length = s.gone.length + 1 := by simp [own, deadQ, mineP, deadP, elmZ, goneP]
        omega
      have h4 : s.up.gone = s.gone := rfl
      simp only [kC, h4] at h1
      show nu top S V (clrQ (elmM top) (.rx n (popO (V.W.nd n 1) a)) s.up) < 83
      omega
    | os c =>
      show nu top S V (norm (elmM top) (if offK (V.W.ob c) = 1 then .at_ (.ot c (V.W.ob c)) else .g1 (.og c) 0 (.ob top)) s.up) < 98
      split
      · show (if V.W.ob c = V.W.ob c then 4 else 97) < 98
        rw [if_pos rfl]; omega
      · have := nu_og (top := top) (S := S) c s.up V
        show nu top S V ⟨.g1 (.og c) 0 (.ob top), s.up⟩ < 98
        omega
    | ot c x =>
      have e1 : act V (asks (elmM top) w (.at_ (.ot c x))) = _ := cas c x _
      rw [e1]
      show _ < if V.W.ob c = x then 4 else 97
      by_cases hx : V.W.ob c = x
      · rw [if_pos hx, if_pos hx]
        have := fi3 { V with W := V.W.setOb c (takeW x) } (popO (offV x) s.made) s.up
        show nu top S { V with W := V.W.setOb c (takeW x) } (norm (elmM top) (.clr (.fi (popO (offV x) s.made))) s.up) < 4
        omega
      · rw [if_neg hx, if_neg hx]
        have := nu_og (top := top) (S := S) c s.up V
        show nu top S V ⟨.g1 (.og c) 0 (.ob top), s.up⟩ < 97
        omega
    | _ => exact absurd he.1 id
  | t1 k =>
    show nu top S V (if (ofW V.fr).idx = 0 then norm (elmM top) ((elmM top).full k s.made) s.up else ⟨.t2 k V.fr, s.up⟩) < 9
    split
    · cases k <;> first | exact absurd he.1 id | exact (show 0 < 9 by omega)
    · show (if V.fr = V.fr then 8 else 11) < 9
      rw [if_pos rfl]; omega
  | t2 k f =>
    show (if V.fr = f then 7 else 10) < (if V.fr = f then 8 else 11)
    split <;> omega
  | t3 k f lk =>
    by_cases hc : V.fr = f
    · have e1 : act V (asks (elmM top) w (.t3 k f lk)) = ({ V with fr := packW (turnW (ofW f) lk) }, ⟨V.fr, true⟩) := by simp only [asks, act, Vw.get, hc, if_true]; rfl
      simp only [e1]
      show 6 < (if V.fr = f then 7 else 10)
      rw [if_pos hc]; omega
    · have e1 : act V (asks (elmM top) w (.t3 k f lk)) = (V, ⟨V.fr, false⟩) := by simp only [asks, act, Vw.get, hc, if_false]
      simp only [e1]
      show 9 < (if V.fr = f then 7 else 10)
      rw [if_neg hc]; omega
  | t4 k n a => exact (show 5 < 6 by omega)
  | t5 k n a b => cases k <;> first | exact absurd he.1 id | exact (show 4 < 5 by omega)
  | g1 k i c =>
    have hg := hpc.2.2.2.2.2.2
    cases k with
    | og c' =>
      have hg : c = .ob top := hg
      subst hg
      show (if V.er = s.e i then 1 + gK top V.W (V.W.ob top) else 90) < (if V.er = s.e i then 88 else 91)
      unfold gK
      rw [if_pos rfl]
      split <;> omega
    | _ => exact absurd he.1 id
  | g2 k i c v a =>
    cases k with
    | og c' =>
      show nu top S V (if V.er = s.e i then norm (elmM top) (if (ofW v).idx = 0 then .clr (.fi (noO a)) else .at_ (.ol c' v)) s.up else ⟨.g3 (.og c') i c V.er, s.up⟩) < (if V.er = s.e i then 1 + gK top V.W v else 90)
      by_cases hr : V.er = s.e i
      · rw [if_pos hr, if_pos hr]
        split
        · have := fi3 V (noO a) s.up
          unfold gK
          split <;> omega
        · show (if V.W.ob top = v then 85 else 100) < 1 + gK top V.W v
          unfold gK
          split <;> omega
      · rw [if_neg hr, if_neg hr]
        show (if V.er = V.er then 89 else 92) < 90
        rw [if_pos rfl]; omega
    | _ => exact absurd he.1 id
  | g3 k i c er =>
    have hget : (s.up.putE i er).e i = er := by rw [e_putE hpc.2.2.1 hpc.2.2.2.1 hpc.2.2.1 hpc.2.2.2.1, if_pos rfl]
    show (if V.er = (s.up.putE i er).e i then 88 else 91) < (if V.er = er then 89 else 92)
    rw [hget]
    split <;> omega
  | c k i =>
    have h5 : nz (s.up.putE i 0) < nz s := nz_put hpc.2.1 hpc.2.2 hc
    have h6 : nu top S (V.put (.rv w i) 0) (clrQ (elmM top) k (s.up.putE i 0)) ≤ _ := nu_clr he.1
    have h7 : kC S (s.up.putE i 0) k = kC S s k := by
      have : (s.up.putE i 0).gone = s.gone := putE_gone _ _ _
      cases k <;> simp only [kC, this]
    rw [h7] at h6
    show nu top S (V.put (.rv w i) 0) (clrQ (elmM top) k (s.up.putE i 0)) < nz s + kC S s k
    omega
  | v1 k n =>
    show (if V.fr = V.fr then 2 else 5) < 3
    rw [if_pos rfl]; omega
  | v2 k n f =>
    show (if V.fr = f then 1 else 4) < (if V.fr = f then 2 else 5)
    split <;> omega
  | v3 k n f =>
    by_cases hc : V.fr = f
    · have e1 : act V (asks (elmM top) w (.v3 k n f)) = ({ V with fr := packW (turnW (ofW f) n) }, ⟨V.fr, true⟩) := by simp only [asks, act, Vw.get, hc, if_true]; rfl
      simp only [e1]
      show _ < (if V.fr = f then 1 else 4)
      rw [if_pos hc]
      cases k <;> first | exact absurd he.1 id | exact Nat.zero_lt_one
    · have e1 : act V (asks (elmM top) w (.v3 k n f)) = (V, ⟨V.fr, false⟩) := by simp only [asks, act, Vw.get, hc, if_false]
      simp only [e1]
      show 3 < (if V.fr = f then 1 else 4)
      rw [if_neg hc]; omega
  | r1 k n =>
    show 1 + 3 * S + 4 * (s.gone.length + 1) < 2 + 3 * S + 4 * (s.gone.length + 1)
    omega
  | r2 k n er =>
    show nu top S { V with er := V.er + 1 } (if (s.gone.length : Int) + 1 < 2 * (S : Int) then norm (elmM top) ((elmM top).retired k) _ else scanQ (elmM top) k [] { s.up with gone := s.gone ++ [(n, er)] } (resvsA 0 S)) < 1 + 3 * S + 4 * (s.gone.length + 1)
    split
    · cases k <;> first | exact absurd he.1 id | exact (show 0 < 1 + 3 * S + 4 * (s.gone.length + 1) by omega)
    · have := nu_scan (top := top) (S := S) (V := { V with er := V.er + 1 }) he.1 [] { s.up with gone := s.gone ++ [(n, er)] } (resvsA 0 S)
      rw [resvsA_len] at this
      simp only [List.length_append, List.length_cons, List.length_nil] at this
      refine Nat.lt_of_le_of_lt this ?_
      omega
  | rs k held c cs =>
    have := nu_scan (top := top) (S := S) (V := V) he.1 (held ++ [V.get c]) s.up cs
    have hg : s.up.gone = s.gone := rfl
    rw [hg] at this
    show nu top S V (scanQ (elmM top) k (held ++ [V.get c]) s.up cs) < 1 + cs.length + 4 * s.gone.length
    omega
  | s1 k held y gs stay =>
    show nu top S V (if held.any (inB (max1 (V.bi y.1)) y.2) = true then siftQ (elmM top) k held s.up gs (stay ++ [y]) else ⟨.w1 k held y gs stay, s.up⟩) < 4 + 4 * gs.length
    split
    · have := nu_sift (top := top) (S := S) (V := V) he.1 held s.up gs (stay ++ [y])
      omega
    · exact (show 3 + 4 * gs.length < 4 + 4 * gs.length by omega)
  | w1 k held y gs stay =>
    show (if V.fr = V.fr then 2 else 5) + 4 * gs.length < 3 + 4 * gs.length
    rw [if_pos rfl]; omega
  | w2 k held y gs stay f =>
    show (if V.fr = f then 1 else 4) + 4 * gs.length < (if V.fr = f then 2 else 5) + 4 * gs.length
    split <;> omega
  | w3 k held y gs stay f =>
    by_cases hc : V.fr = f
    · have e1 : act V (asks (elmM top) w (.w3 k held y gs stay f)) = ({ V with fr := packW (turnW (ofW f) y.1) }, ⟨V.fr, true⟩) := by simp only [asks, act, Vw.get, hc, if_true]; rfl
      simp only [e1]
      have := nu_sift (top := top) (S := S) (V := { V with fr := packW (turnW (ofW f) y.1) }) he.1 held s.up gs stay
      show nu top S _ (siftQ (elmM top) k held s.up gs stay) < (if V.fr = f then 1 else 4) + 4 * gs.length
      rw [if_pos hc]; omega
    · have e1 : act V (asks (elmM top) w (.w3 k held y gs stay f)) = (V, ⟨V.fr, false⟩) := by simp only [asks, act, Vw.get, hc, if_false]
      simp only [e1]
      show 3 + 4 * gs.length < (if V.fr = f then 1 else 4) + 4 * gs.length
      rw [if_neg hc]; omega
end
end Go.Proofs.YtdmnjoidfjidbaaGreat
/- Plays of a stack at which offers are made: nodes enough, and an end. -/
namespace Go.Proofs.YtdmnjoidfjidbaaGreat
set_option maxRecDepth 100000

/-! ### How many nodes are in use -/
def pwP : Pc Ek → Nat
  | .t1 _ => 1
  | .t2 _ _ => 1
  | .t3 _ _ _ => 1
  | _ => 0
def pwX (p : PlT) (w : Nat) (x : SeatT) : Nat := if x.op.kind = 0 then 0 else pwP (qAt p w x).pc
def pwL (p : PlT) (seats : List SeatT) : List Nat := seats.mapIdx fun w x => pwX p w x
theorem pwL_set {p : PlT} {seats : List SeatT} {w : Nat} (y : SeatT) : pwL p (seats.set w y) = (pwL p seats).set w (pwX p w y) := by
  apply List.ext_getElem?
  intro j
  unfold pwL
  rw [List.getElem?_mapIdx, List.getElem?_set, List.getElem?_set, List.length_mapIdx, List.getElem?_mapIdx]
  by_cases hj : w = j
  · subst hj
    rw [if_pos rfl, if_pos rfl]
    split <;> rfl
  · rw [if_neg hj, if_neg hj]
theorem pwL_get {p : PlT} {seats : List SeatT} {w : Nat} {x : SeatT} (hx : seats[w]? = some x) : (pwL p seats)[w]? = some (pwX p w x) := by
  unfold pwL
  rw [List.getElem?_mapIdx, hx]; rfl
def sumN (l : List Nat) : Nat := (l.map fun x => x).sum
theorem sumN_set {l : List Nat} {i x : Nat} (y : Nat) (h : l[i]? = some x) : sumN (l.set i y) + x = sumN l + y := sum_set (fun x => x) y h
theorem pw_act {top : Int} {S : Nat} {V : Vw} {F : List Int} {w : Nat} {op : OpT} {q : Q Ek} (he : eP op q.pc) (hf : q.pc.asking) : F.length + pwP (tell (elmM top) S q (act V (asks (elmM top) w q.pc)).2).pc ≤ (nxF V F q.pc).length + pwP q.pc := by
  have clr : ∀ (k : Ek) (s : PsT), isC k → pwP (clrQ (elmM top) k s).pc = 0 := fun k s hk => by
    rcases clr_cases (M := elmM top) k s with ⟨i, _, _, _, e⟩ | ⟨_, e⟩
    · rw [e]; rfl
    · rw [e]; cases k <;> first | exact absurd hk id | rfl
  have ret : ∀ (k : Ek) (s : PsT), isR k → pwP (norm (elmM top) ((elmM top).retired k) s).pc = 0 := fun k s hk => by cases k <;> first | exact absurd hk id | rfl
  have sift : ∀ (k : Ek) (held : List Int) (s : PsT) (gs stay : List (Int × Int)), isR k → pwP (siftQ (elmM top) k held s gs stay).pc = 0 := fun k held s gs stay hk => by
    cases gs with
    | nil => exact ret k _ hk
    | cons g gs => rfl
  have scan : ∀ (k : Ek) (held : List Int) (s : PsT) (cs : List Ad), isR k → pwP (scanQ (elmM top) k held s cs).pc = 0 := fun k held s cs hk => by
    cases cs with
    | nil => exact sift k _ _ _ _ hk
    | cons c cs => rfl
  obtain ⟨pc, s⟩ := q
  cases pc with
  | fin o => exact absurd hf id
  | clr k => exact absurd hf id
  | at_ k =>
    have : pwP (norm (elmM top) (elmTell top k s.made (act V (asks (elmM top) w (.at_ k))).2) s.up).pc = 0 := by
      generalize (act V (asks (elmM top) w (.at_ k))).2 = r
      cases k <;> simp only [elmTell] <;> first
        | exact absurd he.1 id
        | rfl
        | exact clr _ _ trivial
        | (split <;> first | rfl | exact clr _ _ trivial)
    show F.length + pwP (norm (elmM top) (elmTell top k s.made (act V (asks (elmM top) w (.at_ k))).2) s.up).pc ≤ F.length + 0
    omega
  | t1 k =>
    show F.length + pwP (if (ofW V.fr).idx = 0 then norm (elmM top) ((elmM top).full k s.made) s.up else ⟨.t2 k V.fr, s.up⟩ : Q Ek).pc ≤ F.length + 1
    split
    · cases k <;> first | exact absurd he.1 id | exact Nat.le_succ _
    · exact Nat.le_refl _
  | t2 k f => exact Nat.le_refl _
  | t3 k f lk =>
    by_cases hc : V.fr = f
    · have e1 : act V (asks (elmM top) w (.t3 k f lk)) = ({ V with fr := packW (turnW (ofW f) lk) }, ⟨V.fr, true⟩) := by simp only [asks, act, Vw.get, hc, if_true]; rfl
      simp only [e1]
      show F.length + 0 ≤ (if V.fr = f then F.tail else F).length + 1
      rw [if_pos hc, List.length_tail]; omega
    · have e1 : act V (asks (elmM top) w (.t3 k f lk)) = (V, ⟨V.fr, false⟩) := by simp only [asks, act, Vw.get, hc, if_false]
      simp only [e1]
      show F.length + 1 ≤ (if V.fr = f then F.tail else F).length + 1
      rw [if_neg hc]; omega
  | t4 k n a => exact Nat.le_refl _
  | t5 k n a b => cases k <;> first | exact absurd he.1 id | exact Nat.le_refl _
  | g1 k i c => exact Nat.le_refl _
  | g2 k i c v a =>
    show F.length + pwP (if V.er = s.e i then norm (elmM top) ((elmM top).guarded k v a) s.up else ⟨.g3 k i c V.er, s.up⟩ : Q Ek).pc ≤ F.length + 0
    split
    · cases k with
      | og c' =>
        show F.length + pwP (norm (elmM top) (if (ofW v).idx = 0 then .clr (.fi (noO a)) else .at_ (.ol c' v)) s.up).pc ≤ F.length + 0
        split
        · have := clr (.fi (noO a)) s.up trivial
          show F.length + pwP (clrQ (elmM top) (.fi (noO a)) s.up).pc ≤ F.length + 0
          omega
        · exact Nat.le_refl _
      | _ => exact absurd he.1 id
    · exact Nat.le_refl _
  | g3 k i c er => exact Nat.le_refl _
  | c k i =>
    have := clr k (s.up.putE i 0) he.1
    show F.length + pwP (clrQ (elmM top) k (s.up.putE i 0)).pc ≤ F.length + 0
    omega
  | v1 k n => exact Nat.le_refl _
  | v2 k n f => exact Nat.le_refl _
  | v3 k n f =>
    by_cases hc : V.fr = f
    · have e1 : act V (asks (elmM top) w (.v3 k n f)) = ({ V with fr := packW (turnW (ofW f) n) }, ⟨V.fr, true⟩) := by simp only [asks, act, Vw.get, hc, if_true]; rfl
      simp only [e1]
      show F.length + pwP (norm (elmM top) ((elmM top).gave k) s.up).pc ≤ (if V.fr = f then n :: F else F).length + 0
      rw [if_pos hc, List.length_cons]
      cases k <;> first | exact absurd he.1 id | exact Nat.le_succ _
    · have e1 : act V (asks (elmM top) w (.v3 k n f)) = (V, ⟨V.fr, false⟩) := by simp only [asks, act, Vw.get, hc, if_false]
      simp only [e1]
      show F.length + 0 ≤ (if V.fr = f then n :: F else F).length + 0
      rw [if_neg hc]; omega
  | r1 k n => exact Nat.le_refl _
  | r2 k n er =>
    show F.length + pwP (if (s.gone.length : Int) + 1 < 2 * (S : Int) then norm (elmM top) ((elmM top).retired k) { s.up with gone := s.gone ++ [(n, er)] } else scanQ (elmM top) k [] { s.up with gone := s.gone ++ [(n, er)] } (resvsA 0 S) : Q Ek).pc ≤ F.length + 0
    split
    · have := ret k { s.up with gone := s.gone ++ [(n, er)] } he.1
      omega
    · have := scan k [] { s.up with gone := s.gone ++ [(n, er)] } (resvsA 0 S) he.1
      omega
  | rs k held c cs =>
    have := scan k (held ++ [V.get c]) s.up cs he.1
    show F.length + pwP (scanQ (elmM top) k (held ++ [V.get c]) s.up cs).pc ≤ F.length + 0
    omega
  | s1 k held y gs stay =>
    show F.length + pwP (if held.any (inB (max1 (V.bi y.1)) y.2) = true then siftQ (elmM top) k held s.up gs (stay ++ [y]) else ⟨.w1 k held y gs stay, s.up⟩ : Q Ek).pc ≤ F.length + 0
    split
    · have := sift k held s.up gs (stay ++ [y]) he.1
      omega
    · exact Nat.le_refl _
  | w1 k held y gs stay => exact Nat.le_refl _
  | w2 k held y gs stay f => exact Nat.le_refl _
  | w3 k held y gs stay f =>
    by_cases hc : V.fr = f
    · have e1 : act V (asks (elmM top) w (.w3 k held y gs stay f)) = ({ V with fr := packW (turnW (ofW f) y.1) }, ⟨V.fr, true⟩) := by simp only [asks, act, Vw.get, hc, if_true]; rfl
      simp only [e1]
      have := sift k held s.up gs stay he.1
      show F.length + pwP (siftQ (elmM top) k held s.up gs stay).pc ≤ (if V.fr = f then y.1 :: F else F).length + 0
      rw [if_pos hc, List.length_cons]; omega
    · have e1 : act V (asks (elmM top) w (.w3 k held y gs stay f)) = (V, ⟨V.fr, false⟩) := by simp only [asks, act, Vw.get, hc, if_false]
      simp only [e1]
      show F.length + 0 ≤ (if V.fr = f then y.1 :: F else F).length + 0
      rw [if_neg hc]; omega
theorem err_tell {top : Int} {S : Nat} {op : OpT} {q : Q Ek} (r : ResT) (he : eP op q.pc) (hf : q.pc.asking) (h1 : ∀ k, q.pc = .t1 k → (ofW r.val).idx ≠ 0) : ∀ o, (tell (elmM top) S q r).pc = .fin o → o.err = 0 := by
  have clr : ∀ (k : Ek) (s : PsT), isC k ∧ eK op k → ∀ o, (clrQ (elmM top) k s).pc = .fin o → o.err = 0 := fun k s hk o ho => by
    rcases clr_cases (M := elmM top) k s with ⟨i, _, _, _, e⟩ | ⟨_, e⟩
    · rw [e] at ho; cases ho
    · rw [e] at ho
      cases k <;> first
        | exact absurd hk.1 id
        | (cases ho; done)
        | (cases ho; exact hk.2.2)
  have clr2 : ∀ (k : Ek) (s : PsT) (o : OutT), (norm (elmM top) (.clr k) s).pc = .fin o → isC k ∧ eK op k → o.err = 0 := fun k s o ho hk => clr k s hk o ho
  have ret : ∀ (k : Ek) (s : PsT), isR k ∧ eK op k → ∀ o, (norm (elmM top) ((elmM top).retired k) s).pc = .fin o → o.err = 0 := fun k s hk o ho => by
    cases k <;> first
      | exact absurd hk.1 id
      | (cases ho; exact hk.2.2)
  have sift : ∀ (k : Ek) (held : List Int) (s : PsT) (gs stay : List (Int × Int)), isR k ∧ eK op k → ∀ o, (siftQ (elmM top) k held s gs stay).pc = .fin o → o.err = 0 := fun k held s gs stay hk o ho => by
    cases gs with
    | nil => exact ret k _ hk o ho
    | cons g gs => cases ho
  have scan : ∀ (k : Ek) (held : List Int) (s : PsT) (cs : List Ad), isR k ∧ eK op k → ∀ o, (scanQ (elmM top) k held s cs).pc = .fin o → o.err = 0 := fun k held s cs hk o ho => by
    cases cs with
    | nil => exact sift k _ _ _ _ hk o ho
    | cons c cs => cases ho
  obtain ⟨pc, s⟩ := q
  intro o ho
  cases pc with
  | fin o => exact absurd hf id
  | clr k => exact absurd hf id
  | at_ k =>
    have ho : (norm (elmM top) (elmTell top k s.made r) s.up).pc = .fin o := ho
    cases k <;> simp only [elmTell] at ho <;> first
      | exact absurd he.1 id
      | (cases ho; done)
      | exact clr2 _ _ _ ho ⟨trivial, he.2, rfl⟩
      | (split at ho <;> first
          | (cases ho; done)
          | (cases ho; rfl)
          | exact clr2 _ _ _ ho ⟨trivial, he.2, rfl⟩)
  | t1 k =>
    have ho : (if (ofW r.val).idx = 0 then norm (elmM top) ((elmM top).full k s.made) s.up else ⟨.t2 k r.val, s.up⟩ : Q Ek).pc = .fin o := ho
    rw [if_neg (h1 k rfl)] at ho
    cases ho
  | t2 k f => cases ho
  | t3 k f lk =>
    have ho : (if r.ok then ⟨.t4 k (ofW f).idx s.made, s.up⟩ else ⟨.t1 k, s.up⟩ : Q Ek).pc = .fin o := ho
    split at ho <;> cases ho
  | t4 k n a => cases ho
  | t5 k n a b => cases k <;> first | exact absurd he.1 id | cases ho
  | g1 k i c => cases ho
  | g2 k i c v a =>
    have ho : (if r.val = s.e i then norm (elmM top) ((elmM top).guarded k v a) s.up else ⟨.g3 k i c r.val, s.up⟩ : Q Ek).pc = .fin o := ho
    split at ho
    · cases k with
      | og c' =>
        have ho : (norm (elmM top) (if (ofW v).idx = 0 then .clr (.fi (noO a)) else .at_ (.ol c' v)) s.up).pc = .fin o := ho
        split at ho
        · exact clr2 _ _ _ ho ⟨trivial, he.2, rfl⟩
        · cases ho
      | _ => exact absurd he.1 id
    · cases ho
  | g3 k i c er => cases ho
  | c k i => exact clr k _ he o ho
  | v1 k n => cases ho
  | v2 k n f => cases ho
  | v3 k n f =>
    have ho : (if r.ok then norm (elmM top) ((elmM top).gave k) s.up else ⟨.v1 k n, s.up⟩ : Q Ek).pc = .fin o := ho
    split at ho
    · cases k <;> first | exact absurd he.1 id | (cases ho; rfl)
    · cases ho
  | r1 k n => cases ho
  | r2 k n er =>
    have ho : (if (s.gone.length : Int) + 1 < 2 * (S : Int) then norm (elmM top) ((elmM top).retired k) { s.up with gone := s.gone ++ [(n, er)] } else scanQ (elmM top) k [] { s.up with gone := s.gone ++ [(n, er)] } (resvsA 0 S) : Q Ek).pc = .fin o := ho
    split at ho
    · exact ret k _ he o ho
    · exact scan k _ _ _ he o ho
  | rs k held c cs => exact scan k _ _ _ he o ho
  | s1 k held y gs stay =>
    have ho : (if held.any (inB (max1 r.val) y.2) = true then siftQ (elmM top) k held s.up gs (stay ++ [y]) else ⟨.w1 k held y gs stay, s.up⟩ : Q Ek).pc = .fin o := ho
    split at ho
    · exact sift k _ _ _ _ he o ho
    · cases ho
  | w1 k held y gs stay => cases ho
  | w2 k held y gs stay f => cases ho
  | w3 k held y gs stay f =>
    have ho : (if r.ok then siftQ (elmM top) k held s.up gs stay else ⟨.w1 k held y gs stay, s.up⟩ : Q Ek).pc = .fin o := ho
    split at ho
    · exact sift k _ _ _ _ he o ho
    · cases ho
end Go.Proofs.YtdmnjoidfjidbaaGreat
/- Plays of a stack at which offers are made: their beginning. -/
namespace Go.Proofs.YtdmnjoidfjidbaaGreat
set_option maxRecDepth 100000

def V0 (N : Nat) : Vw := ⟨1, 1, fun _ _ => 0, fun _ => 0, fun n => if n = (N : Int) then 0 else n + 1, ⟨fun _ => 0, fun _ _ => 0⟩⟩
def begB (S N sl : Nat) : Bool :=
  let l := layE S N sl
  let m := beginF l
  decide (m.length = l.size.toNat) && decide (cellAt m l.free = 1) && decide (cellAt m l.era = 1) &&
  ((List.range 60).all fun c => (decide (c < 4 + 5 * S) || decide (9 + 12 * S + sl ≤ c)) || decide (cellAt m c = (V0 N).W.ob c)) &&
  ((List.range S).all fun w => (List.range 3).all fun i => decide (cellAt m (resvF l w i) = 0)) &&
  ((List.range N).all fun n => ((List.range 7).all fun i => decide (cellAt m (nodeF l ((n : Int) + 1) i) = 0)) && decide (cellAt m (nodeF l ((n : Int) + 1) 7) = (V0 N).lk ((n : Int) + 1)))
theorem beg_all : ([3, 16].all fun N => (List.range 3).all fun a => (List.range 3).all fun b => begB (a + 1) N (b + 1)) = true := by decide +kernel
theorem view_start {p : PlT} (hp : PlayG p) (hn : p.nodes = 3 ∨ p.nodes = 16) : View (layP p) p.want.length p.nodes (beginF (layP p)) (V0 p.nodes) := by
  have h1 := hp.w1
  have h3 := hp.w3
  have s1 := hp.s1
  have s3 := hp.s3
  unfold layP
  generalize p.nodes = N at *
  generalize p.want.length = S at *
  generalize p.slots = sl at *
  have hnode : (layE S N sl).node = 9 + 12 * (S : Int) + sl := rfl
  have hb : begB S N sl = true := by
    have h := List.all_eq_true.1 (List.all_eq_true.1 (List.all_eq_true.1 beg_all N (by rcases hn with rfl | rfl <;> simp)) (S - 1) (List.mem_range.2 (by omega))) (sl - 1) (List.mem_range.2 (by omega))
    rw [show S - 1 + 1 = S by omega, show sl - 1 + 1 = sl by omega] at h
    exact h
  unfold begB at hb
  simp only [Bool.and_eq_true, decide_eq_true_eq, List.all_eq_true, Bool.or_eq_true] at hb
  obtain ⟨⟨⟨⟨⟨b1, b2⟩, b3⟩, b4⟩, b5⟩, b6⟩ := hb
  refine ⟨b1, fun a ha => ?_⟩
  cases a with
  | era => exact b3
  | free => exact b2
  | ob c =>
    obtain ⟨c1, c2⟩ := ha
    have := b4 c.toNat (List.mem_range.2 (by omega))
    rw [show ((c.toNat : Nat) : Int) = c by omega] at this
    rcases this with h | h
    · omega
    · exact h
  | rv w i =>
    obtain ⟨w0, w1, i0, i1⟩ := ha
    have := b5 w.toNat (List.mem_range.2 (by omega)) i.toNat (List.mem_range.2 (by omega))
    rw [show ((w.toNat : Nat) : Int) = w by omega, show ((i.toNat : Nat) : Int) = i by omega] at this
    exact this
  | nd n i =>
    obtain ⟨n0, n1, i0, i1⟩ := ha
    have := (b6 (n - 1).toNat (List.mem_range.2 (by omega))).1 i.toNat (List.mem_range.2 (by omega))
    rw [show (((n - 1).toNat : Nat) : Int) = n - 1 by omega, show ((i.toNat : Nat) : Int) = i by omega, show n - 1 + 1 = n by omega] at this
    exact this
  | bi n =>
    obtain ⟨n0, n1⟩ := ha
    have := (b6 (n - 1).toNat (List.mem_range.2 (by omega))).1 6 (List.mem_range.2 (by omega))
    rw [show (((n - 1).toNat : Nat) : Int) = n - 1 by omega, show n - 1 + 1 = n by omega] at this
    exact this
  | lk n =>
    obtain ⟨n0, n1⟩ := ha
    have := (b6 (n - 1).toNat (List.mem_range.2 (by omega))).2
    rw [show (((n - 1).toNat : Nat) : Int) = n - 1 by omega, show n - 1 + 1 = n by omega] at this
    exact this
def upF (a : Int) : Nat → List Int
  | 0 => []
  | k + 1 => a :: upF (a + 1) k
theorem upF_count (n : Int) : ∀ (k : Nat) (a : Int), (upF a k).count n = if a ≤ n ∧ n < a + k then 1 else 0
  | 0, a => by simp only [upF, List.count_nil]; rw [if_neg (by omega)]
  | k + 1, a => by
    rw [upF, List.count_cons, upF_count n k (a + 1)]
    by_cases h : a = n
    · subst h
      rw [if_neg (show ¬ (a + 1 ≤ a ∧ a < a + 1 + (k : Int)) by omega), if_pos (show a ≤ a ∧ a < a + ((k + 1 : Nat) : Int) by omega)]; simp
    · have hb : (a == n) = false := by simp [h]
      rw [hb]
      by_cases h2 : a + 1 ≤ n ∧ n < a + 1 + (k : Int)
      · rw [if_pos h2, if_pos (show a ≤ n ∧ n < a + ((k + 1 : Nat) : Int) by omega)]; rfl
      · rw [if_neg h2, if_neg (show ¬ (a ≤ n ∧ n < a + ((k + 1 : Nat) : Int)) by omega)]; rfl
theorem upF_linked (N : Nat) : ∀ (k : Nat) (a : Int), a + k = N + 1 → Linked (V0 N).lk (upF a k)
  | 0, a, _ => trivial
  | k + 1, a, h => by
    refine ⟨?_, upF_linked N k (a + 1) (by omega)⟩
    simp only [V0]
    cases k with
    | zero => rw [if_pos (by omega)]; rfl
    | succ k => rw [if_neg (by omega)]; rfl
theorem upF_len : ∀ (k : Nat) (a : Int), (upF a k).length = k
  | 0, _ => rfl
  | k + 1, a => by rw [upF, List.length_cons, upF_len k]
def g0 : ElmG := ⟨0, fun _ => 0⟩
def start (p : PlT) : TabT := beginT (layP p) p.want.length
theorem start_seat {p : PlT} {w : Nat} {x : SeatT} (h : (start p).seats[w]? = some x) : x = seat0 := by
  unfold start beginT at h
  simp only [List.getElem?_replicate] at h
  split at h
  · cases h; rfl
  · cases h
theorem G_start {p : PlT} (hp : PlayG p) (hn : p.nodes = 3 ∨ p.nodes = 16) : G p 0 (start p) (V0 p.nodes) (upF 1 p.nodes) [] g0 := by
  have hv := view_start hp hn
  have hN := hp.n1
  have hqs : ∀ (w : Nat) (q : Q Ek), (qsOf p (start p).seats)[w]? = some q → q = idleQ [] := by
    intro w q hq
    unfold qsOf at hq
    rw [List.getElem?_mapIdx] at hq
    rcases hz : (start p).seats[w]? with _ | x
    · rw [hz] at hq; cases hq
    · rw [hz] at hq
      cases hq
      rw [start_seat hz]; rfl
  have hown : ∀ n, ownSum (spP p) (qsOf p (start p).seats) n = 0 := by
    intro n
    unfold ownSum
    have key : ∀ (l : List (Q Ek)), (∀ q ∈ l, own (spP p) q = []) → (l.map fun q => (own (spP p) q).count n).sum = 0 := by
      intro l
      induction l with
      | nil => intro _; rfl
      | cons q l ih =>
        intro h
        rw [List.map_cons, List.sum_cons, h q (by simp), ih (fun q' hq' => h q' (by simp [hq']))]
        rfl
    refine key _ (fun q hq => ?_)
    obtain ⟨w, hw⟩ := List.getElem?_of_mem hq
    rw [hqs w q hw]; rfl
  refine ⟨by simp [start, beginT], hv, ?_, fun w x hx => ?_, rfl, rfl⟩
  · refine ⟨by simp [qsOf, start, beginT], ?_, by simp [V0], by simp [V0], upF_linked _ _ 1 (by omega), fun n => ?_, fun n n0 n1 => by simp [V0], ⟨rfl, by simp [g0], trivial, fun n hn => by simp at hn, fun c _ _ => ⟨by simp [V0], by simp [V0], by simp [V0, offK], by simp [V0, offK, g0]⟩⟩, fun w q hq => ?_⟩
    · obtain ⟨k, hk⟩ : ∃ k, p.nodes = k + 1 := ⟨p.nodes - 1, by omega⟩
      rw [hk]
      simp [V0, upF]
    · rw [hown, upF_count]
      simp only [List.count_nil]
      by_cases h2 : 1 ≤ n ∧ n < 1 + ((p.nodes : Nat) : Int)
      · rw [if_pos h2, if_pos (by omega)]
      · rw [if_neg h2, if_neg (by omega)]
    · rw [hqs w q hq]
      have e0 : ∀ i : Int, (⟨0, [], 0, 0, 0⟩ : PsT).e i = 0 := fun i => by
        unfold PsT.e
        split
        · rfl
        · split <;> rfl
      refine ⟨fun i _ _ => ?_, fun i => ?_, ⟨rfl, rfl, rfl⟩⟩
      · show (0 : Int) = _
        exact (e0 i).symm
      · show 0 ≤ (⟨0, [], 0, 0, 0⟩ : PsT).e i ∧ (⟨0, [], 0, 0, 0⟩ : PsT).e i ≤ 1
        rw [e0]; omega
  · rw [start_seat hx]
    exact ⟨.inl rfl, rfl, .inl rfl, trivial⟩
theorem lin_start {p : PlT} : Lin p (start p) (V0 p.nodes) [] := by
  have key : ∀ w, tolV (V0 p.nodes).W ((fun w => if w < p.want.length then viewP p w seat0 else idleV : Nat → Vi) w) = none := fun w => by
    simp only
    split <;> rfl
  refine ⟨fun w => if w < p.want.length then viewP p w seat0 else idleV, [], fun w x hx => ?_, fun w hw => ?_, ⟨rfl, List.Pairwise.nil, fun e he => by simp at he, List.Perm.refl _, fun e he => by simp at he, fun w => ?_, fun w s hs => ?_, fun c _ hk => ?_⟩⟩
  · have hl := (List.getElem?_eq_some_iff.1 hx).1
    have : (start p).seats.length = p.want.length := by simp [start, beginT]
    show (if w < p.want.length then viewP p w seat0 else idleV : Vi) = _
    rw [if_pos (by omega), start_seat hx]
  · have : (start p).seats.length = p.want.length := by simp [start, beginT]
    show (if w < p.want.length then viewP p w seat0 else idleV : Vi) = _
    rw [if_neg (by omega)]
  · rw [open_none (key w)]; rfl
  · have hs : s ∈ (if w < p.want.length then viewP p w seat0 else idleV : Vi).steps := hs
    split at hs <;> exact absurd hs (by simp [viewP, seat0, idleV])
  · simp [V0, offK] at hk
end Go.Proofs.YtdmnjoidfjidbaaGreat
/- Plays of a stack at which offers are made: they end, and all that is told is what a stack tells. -/
namespace Go.Proofs.YtdmnjoidfjidbaaGreat
set_option maxRecDepth 100000

def totP (p : PlT) : Nat := (p.want.map List.length).sum
theorem sum_next : ∀ (A : List SeatT) (B : List (List OpT)), A.length = B.length → (∀ (i : Nat) (x : SeatT) (ws : List OpT), A[i]? = some x → B[i]? = some ws → x.next ≤ ws.length) → sumN (A.map SeatT.next) ≤ (B.map List.length).sum
  | [], [], _, _ => Nat.le_refl _
  | x :: A, ws :: B, hl, h => by
    have h1 := h 0 x ws rfl rfl
    have h2 := sum_next A B (by simpa using hl) (fun i y zs hy hz => h (i + 1) y zs (by simpa using hy) (by simpa using hz))
    simp only [sumN, List.map_cons, List.sum_cons] at h2 ⊢
    omega
  | [], _ :: _, hl, _ => by simp at hl
  | _ :: _, [], hl, _ => by simp at hl
def inX (x : SeatT) : Nat := if x.op.kind = 0 then 0 else 1
theorem inx_set {seats : List SeatT} {w : Nat} {x y : SeatT} (hx : seats[w]? = some x) : sumN ((seats.set w y).map inX) + inX x = sumN (seats.map inX) + inX y := by
  rw [List.map_set]
  exact sumN_set _ (by rw [List.getElem?_map, hx]; rfl)
structure OneC (p : PlT) (t : TabT) : Prop where
  pw : t.calls.Pairwise fun a b => a.last < b.first
  lt : ∀ c ∈ t.calls, c.last < t.step
  st : ∀ c ∈ t.calls, ∀ (x : SeatT), t.seats[0]? = some x → x.op.kind ≠ 0 → ∀ s ∈ x.steps, c.last < s
  fn : 0 ≤ t.full
  seq : t.full = 0 → ∀ (x : SeatT) (ws : List OpT), t.seats[0]? = some x → p.want[0]? = some ws → t.calls.map CallT.op ++ (if x.op.kind = 0 then [] else [x.op]) = ws.take x.next
theorem offW_lt (v k c : Int) : offW v k c < 9223372036854775808 := by
  unfold offW
  have h1 := Int.emod_lt_of_pos v (show (0 : Int) < 4294967296 by omega)
  have h2 := Int.emod_lt_of_pos k (show (0 : Int) < 4 by omega)
  have h3 := Int.emod_lt_of_pos c (show (0 : Int) < 268435456 by omega)
  omega
theorem elm_wr {top : Int} {op : OpT} {k : Ek} (ho : OpOk op) (h : eK op k) : ((elmM top).ask k).wr < 9223372036854775808 := by
  have ix : ∀ f, (ofW f).idx < 9223372036854775808 := fun f => by have := (ofW_idx f).2; omega
  have h3 := ho.2.2.2
  cases k with
  | p1 c v n => obtain ⟨_, e⟩ := h; show v < _; omega
  | ps c v n w => exact ix w
  | pc c v n w => exact pack_lt _
  | qc c v n w => exact offW_lt _ _ _
  | m3 c v n w a => exact offW_lt _ _ _
  | qs c n w a => exact offW_lt _ _ _
  | oc c w b => exact pack_lt _
  | ot c w => exact offW_lt _ _ _
  | _ => show (0 : Int) < _; omega
structure PG (p : PlT) (n : Nat) (t : TabT) (V : Vw) (F X : List Int) (g : ElmG) : Prop where
  gg : G p (2 * n) t V F X g
  lin : Lin p t V X
  cnt : p.nodes + sumN (pwL p t.seats) ≤ F.length + sumN (t.seats.map SeatT.next)
  nx : ∀ (w : Nat) (x : SeatT) (ws : List OpT), t.seats[w]? = some x → p.want[w]? = some ws → x.next ≤ ws.length
  n1 : ∀ (w : Nat) (x : SeatT), t.seats[w]? = some x → x.op.kind ≠ 0 → 1 ≤ x.next
  full : totP p ≤ p.nodes → t.full = 0 ∧ ∀ (w : Nat) (x : SeatT), t.seats[w]? = some x → x.op.kind ≠ 0 → ∀ o, (qAt p w x).pc = .fin o → o.err = 0
  cl : (t.calls.length : Int) + t.full + sumN (t.seats.map inX) = sumN (t.seats.map SeatT.next)
  one : p.want.length = 1 → OneC p t
  lt : CellsLt t.m
  ck : ∀ c ∈ t.calls, OpOk c.op
  fl : 0 ≤ t.full
def phi (p : PlT) (V : Vw) (ws : List OpT) (w : Nat) (x : SeatT) : Nat := (if x.op.kind = 0 then 0 else nu (topP p) p.want.length V (qAt p w x) + 1) + 94 * (ws.length - x.next)
theorem nxt_set {seats : List SeatT} {w : Nat} {x y : SeatT} (hx : seats[w]? = some x) : sumN ((seats.set w y).map SeatT.next) + x.next = sumN (seats.map SeatT.next) + y.next := by
  rw [List.map_set]
  exact sumN_set _ (by rw [List.getElem?_map, hx]; rfl)
theorem pwl_set {p : PlT} {seats : List SeatT} {w : Nat} {x y : SeatT} (hx : seats[w]? = some x) : sumN (pwL p (seats.set w y)) + pwX p w x = sumN (pwL p seats) + pwX p w y := by
  rw [pwL_set]
  exact sumN_set _ (pwL_get hx)
theorem PG.step {p : PlT} (hp : PlayG p) {n : Nat} {t t' : TabT} {V V' : Vw} {F F' X X' : List Int} {g g' : ElmG} (h : PG p n t V F X g) {who : Nat} (hR : StepR p who t V F X g t' V' F' X' g') (hG' : G p (2 * (n + 1)) t' V' F' X' g') :
    PG p (n + 1) t' V' F' X' g' ∧ (∀ j, j ≠ who → t'.seats[j]? = t.seats[j]?) ∧ ∀ x ws, t.seats[who]? = some x → p.want[who]? = some ws → (t' = t ∧ x.op.kind = 0 ∧ ws.length ≤ x.next) ∨ ∃ x', t'.seats[who]? = some x' ∧ phi p V' ws who x' < phi p V ws who x := by
  have hlin := lin_step hp h.gg h.lin hR
  cases hR with
  | idle x ws hx hw h0 ha =>
    exact ⟨⟨hG', hlin, h.cnt, h.nx, h.n1, h.full, h.cl, h.one, h.lt, h.ck, h.fl⟩, fun j _ => rfl, fun x' ws' hx' hw' => by
      rw [hx] at hx'; cases hx'
      rw [hw] at hw'; cases hw'
      exact .inl ⟨rfl, h0, ha⟩⟩
  | done x q o hx h0 hq hpc hl =>
    generalize hy : ({ x with op := op0, gone := q.s.gone } : SeatT) = y
    have hy0 : y.op.kind = 0 := by rw [← hy]; rfl
    have hyn : y.next = x.next := by rw [← hy]
    have hse : (endT t who x { o with gone := q.s.gone }).seats = t.seats.set who y := by
      unfold endT
      simp only
      rw [hy]
      split
      · rfl
      · split <;> rfl
    have hfu : o.err ≠ 8 → (endT t who x { o with gone := q.s.gone }).full = t.full := by
      intro h8
      unfold endT
      simp only
      rw [if_neg h8]
      split <;> rfl
    have hsg : ∀ (w : Nat) (z : SeatT), (t.seats.set who y)[w]? = some z → (w = who ∧ z = y) ∨ (w ≠ who ∧ t.seats[w]? = some z) := fun w z hz => set_get hx hz
    have hxo := h.gg.seat who x hx
    have hsl : x.steps ≠ [] := fun e => by
      have := hxo.len
      rw [e] at this
      exact hl (List.length_eq_zero_iff.1 this.symm)
    have hix : inX x = 1 := by unfold inX; rw [if_neg h0]
    have hiy : inX y = 0 := by unfold inX; rw [if_pos hy0]
    have hiset := inx_set (y := y) hx
    have hstl : ∀ s ∈ x.steps, s < t.step := fun s hs => by
      obtain ⟨sv, H, v1, _, hH⟩ := h.lin
      exact hH.st who s (by rw [v1 who x hx]; exact hs)
    have herr : o.err = 0 ∨ o.err = 8 := by
      have := hxo.err
      rw [← hq, hpc] at this
      exact this
    have hcases : (o.err = 8 ∧ endT t who x { o with gone := q.s.gone } = { t with seats := t.seats.set who y, full := t.full + 1 }) ∨ (o.err ≠ 8 ∧ ∃ c, endT t who x { o with gone := q.s.gone } = { t with seats := t.seats.set who y, calls := t.calls ++ [c] } ∧ c.first ∈ x.steps ∧ c.last ∈ x.steps ∧ c.op = x.op) := by
      unfold endT
      simp only
      rw [hy]
      by_cases h8 : o.err = 8
      · rw [if_pos h8]; exact .inl ⟨h8, rfl⟩
      · rw [if_neg h8, if_neg (by
          rintro (h | h)
          · exact h (herr.resolve_right h8)
          · exact hsl (List.length_eq_zero_iff.1 h))]
        refine .inr ⟨h8, _, rfl, ?_, ?_, rfl⟩
        · show x.steps.getD 0 0 ∈ x.steps
          cases hs : x.steps with
          | nil => exact absurd hs hsl
          | cons s ss => simp
        · show x.steps.getD (x.steps.length - 1) 0 ∈ x.steps
          have hlt : x.steps.length - 1 < x.steps.length := by have := List.length_pos_iff.2 hsl; omega
          rw [List.getD_eq_getElem?_getD, List.getElem?_eq_getElem hlt]
          exact List.getElem_mem hlt
    have hck : ∀ c ∈ (endT t who x { o with gone := q.s.gone }).calls, OpOk c.op := by
      rcases hcases with ⟨_, e⟩ | ⟨_, c, e, _, _, e3⟩
      · rw [e]; exact h.ck
      · rw [e]
        intro d hd
        simp only [List.mem_append, List.mem_singleton] at hd
        rcases hd with hd | rfl
        · exact h.ck d hd
        · rw [e3]
          exact hxo.op.resolve_left h0
    have hmm : (endT t who x { o with gone := q.s.gone }).m = t.m := by rcases hcases with ⟨_, e⟩ | ⟨_, c, e, _⟩ <;> rw [e]
    refine ⟨⟨hG', hlin, ?_, ?_, ?_, fun ht => ⟨?_, ?_⟩, ?_, fun h1 => ?_, by rw [hmm]; exact h.lt, hck, by
      have := h.fl
      rcases hcases with ⟨_, e⟩ | ⟨_, c, e, _⟩ <;> rw [e]
      · show 0 ≤ t.full + 1; omega
      · exact this⟩, ?_, ?_⟩
    · rw [hse]
      have e1 := nxt_set (y := y) hx
      have e2 := pwl_set (p := p) (y := y) hx
      have e3 : pwX p who y = 0 := by unfold pwX; rw [if_pos hy0]
      have := h.cnt
      omega
    · intro w z ws hz hws
      rw [hse] at hz
      rcases hsg w z hz with ⟨rfl, rfl⟩ | ⟨_, hz⟩
      · rw [hyn]; exact h.nx w x ws hx hws
      · exact h.nx w z ws hz hws
    · intro w z hz hk
      rw [hse] at hz
      rcases hsg w z hz with ⟨rfl, rfl⟩ | ⟨_, hz⟩
      · exact absurd hy0 hk
      · exact h.n1 w z hz hk
    · have := (h.full ht).2 who x hx h0 o (by rw [← hq]; exact hpc)
      rw [hfu (by omega)]
      exact (h.full ht).1
    · intro w z hz hk o' ho'
      rw [hse] at hz
      rcases hsg w z hz with ⟨rfl, rfl⟩ | ⟨_, hz⟩
      · exact absurd hy0 hk
      · exact (h.full ht).2 w z hz hk o' ho'
    · have hcl := h.cl
      have hnn := nxt_set (y := y) hx
      rcases hcases with ⟨_, e⟩ | ⟨_, c, e, _⟩
      · rw [e]
        simp only
        omega
      · rw [e]
        simp only [List.length_append, List.length_cons, List.length_nil]
        omega
    · have ho := h.one h1
      have hwl : who = 0 := by
        have := (List.getElem?_eq_some_iff.1 hx).1
        have := h.gg.n
        omega
      subst hwl
      rcases hcases with ⟨_, e⟩ | ⟨_, c, e, m1, m2, m3⟩
      · rw [e]
        refine ⟨ho.pw, ho.lt, fun d hd z hz hk => ?_, by have := ho.fn; simp only; omega, fun hf => by have := ho.fn; simp only at hf; omega⟩
        have : (t.seats.set 0 y)[0]? = some y := set_here hx
        simp only at hz
        rw [this] at hz; cases hz
        exact absurd hy0 hk
      · rw [e]
        refine ⟨?_, fun d hd => ?_, fun d hd z hz hk => ?_, ho.fn, fun hf z ws hz hws => ?_⟩
        · simp only
          rw [List.pairwise_append]
          exact ⟨ho.pw, by simp, fun a ha b hb => by rw [List.mem_singleton] at hb; rw [hb]; exact ho.st a ha x hx h0 _ m1⟩
        · simp only [List.mem_append, List.mem_singleton] at hd
          rcases hd with hd | rfl
          · exact ho.lt d hd
          · exact hstl _ m2
        · have : (t.seats.set 0 y)[0]? = some y := set_here hx
          simp only at hz
          rw [this] at hz; cases hz
          exact absurd hy0 hk
        · have : (t.seats.set 0 y)[0]? = some y := set_here hx
          simp only at hz hf
          rw [this] at hz; cases hz
          have h9 := ho.seq hf x ws hx hws
          rw [if_neg h0] at h9
          simp only
          rw [if_pos hy0, List.append_nil, List.map_append, hyn, ← h9]
          simp only [List.map_cons, List.map_nil, m3]
    · intro j hj
      rw [hse, List.getElem?_set_ne (by omega)]
    · intro x' ws hx' hws
      rw [hx] at hx'; cases hx'
      refine .inr ⟨y, by rw [hse]; exact set_here hx, ?_⟩
      unfold phi
      rw [if_pos hy0, if_neg h0, hyn]
      omega
  | acc x y ws q K hx hw hy ho hq hpc he hcz hl hK hI =>
    have hqs := qsOf_get (p := p) hx
    have hyk : y.op.kind ≠ 0 := by rcases ho.1 with h | h <;> omega
    generalize hz : ({ y with log := y.log ++ [(actP p who V q).2], steps := y.steps ++ [t.step] } : SeatT) = z at hG' hlin ⊢
    have hzn : z.next = y.next := by rw [← hz]
    have hzk : z.op.kind ≠ 0 := by rw [← hz]; exact hyk
    have hzq : qAt p who z = tell (mP p) p.want.length q (actP p who V q).2 := by
      rw [← hz, hq]
      unfold qAt
      simp only [hyk, if_false]
      rw [runQ_snoc]
    have hdec := nu_dec (by have := hp.n2; omega) hp.w3 hI (set_here hqs) hpc he hcz
    have hpw : F.length + pwP (tell (mP p) p.want.length q (actP p who V q).2).pc ≤ (nxF V F q.pc).length + pwP q.pc := pw_act (top := topP p) (S := p.want.length) (V := V) (F := F) (w := who) he hpc
    -- what was there ahead, with the operation that begins
    have hcases : (x.op.kind ≠ 0 ∧ y = x) ∨ (x.op.kind = 0 ∧ x.next < ws.length ∧ y.next = x.next + 1 ∧ pwP q.pc ≤ 1 ∧ nu (topP p) p.want.length V q ≤ 92) := by
      unfold curX at hy
      by_cases h0 : x.op.kind = 0
      · rw [if_pos h0] at hy
        obtain ⟨op, ho2, hoy⟩ := Option.map_eq_some_iff.1 hy
        have hyl : y.log = [] := by rw [← hoy]
        have hlt := (List.getElem?_eq_some_iff.1 ho2).1
        obtain ⟨pc', e1, e2, e3, _⟩ := start_pc hp who ho y.gone
        have hqq : q = ⟨pc', ⟨0, y.gone, 0, 0, 0⟩⟩ := by
          rw [hq]
          unfold qAt
          rw [if_neg hyk, hyl]
          exact e1
        refine .inr ⟨h0, hlt, by rw [← hoy], ?_, ?_⟩
        · rw [hqq]
          rcases e2 with ⟨_, _, _, _, rfl⟩ | ⟨_, _, rfl⟩ | ⟨_, rfl⟩
          · exact Nat.le_refl _
          · exact Nat.zero_le _
          · exact Nat.zero_le _
        · rw [hqq]
          rcases e2 with ⟨_, _, _, _, rfl⟩ | ⟨c, _, rfl⟩ | ⟨_, rfl⟩
          · exact (show 9 ≤ 92 by omega)
          · have := nu_og (top := topP p) (S := p.want.length) c ⟨0, y.gone, 0, 0, 0⟩ V
            omega
          · exact Nat.zero_le _
      · rw [if_neg h0] at hy
        cases hy
        exact .inl ⟨h0, rfl⟩
    have hyle : y.next ≤ ws.length := by
      rcases hcases with ⟨_, rfl⟩ | ⟨_, h1, h2, _⟩
      · exact h.nx who y ws hx hw
      · omega
    have hsg : ∀ (w : Nat) (z' : SeatT), (t.seats.set who z)[w]? = some z' → (w = who ∧ z' = z) ∨ (w ≠ who ∧ t.seats[w]? = some z') := fun w z' hz' => set_get hx hz'
    have hpwz : pwX p who z = pwP (tell (mP p) p.want.length q (actP p who V q).2).pc := by unfold pwX; rw [if_neg hzk, hzq]
    have hnxt := nxt_set (y := z) hx
    have hpws := pwl_set (p := p) (y := z) hx
    have hcnt0 := h.cnt
    have hpwx : pwP q.pc + x.next ≤ pwX p who x + y.next := by
      rcases hcases with ⟨h1, rfl⟩ | ⟨h1, h2, h3, h4, _⟩
      · unfold pwX; rw [if_neg h1, hq]; omega
      · unfold pwX; rw [if_pos h1]; omega
    have hiz : inX z = 1 := by unfold inX; rw [if_neg hzk]
    have hiset := inx_set (y := z) hx
    have hzs : ∀ s ∈ z.steps, s ∈ y.steps ∨ s = t.step := fun s hs => by
      rw [← hz] at hs
      simp only [List.mem_append, List.mem_singleton] at hs
      exact hs
    have hys : x.op.kind ≠ 0 ∧ y = x ∨ y.steps = [] := by
      unfold curX at hy
      by_cases h0 : x.op.kind = 0
      · rw [if_pos h0] at hy
        obtain ⟨op, ho2, hoy⟩ := Option.map_eq_some_iff.1 hy
        exact .inr (by rw [← hoy])
      · rw [if_neg h0] at hy
        cases hy
        exact .inl ⟨h0, rfl⟩
    have hlt : CellsLt (turnF t.m (accP p who q)).1 := cells_act hI hK h.gg.view (set_here hqs) (fun k hk => elm_wr ho (by rw [hk] at he; exact he.2)) h.lt
    refine ⟨⟨hG', hlin, ?_, ?_, ?_, fun ht => ⟨(h.full ht).1, ?_⟩, ?_, fun h1 => ?_, hlt, h.ck, h.fl⟩, ?_, ?_⟩
    · simp only
      rw [hpwz] at hpws
      omega
    · intro w z' ws' hz' hws'
      rcases hsg w z' hz' with ⟨rfl, rfl⟩ | ⟨_, hz'⟩
      · rw [hw] at hws'; cases hws'
        rw [hzn]; exact hyle
      · exact h.nx w z' ws' hz' hws'
    · intro w z' hz' hk
      rcases hsg w z' hz' with ⟨rfl, rfl⟩ | ⟨_, hz'⟩
      · rw [hzn]
        rcases hcases with ⟨h1, rfl⟩ | ⟨_, _, h3, _⟩
        · exact h.n1 w y hx h1
        · omega
      · exact h.n1 w z' hz' hk
    · intro w z' hz' hk o' ho'
      rcases hsg w z' hz' with ⟨rfl, rfl⟩ | ⟨_, hz'⟩
      · rw [hzq] at ho'
        refine err_tell (top := topP p) _ he hpc (fun k hk1 e0 => ?_) o' ho'
        have hF : F = [] := by
          have h1 : (actP p w V q).2.val = V.fr := by show (act V (asks (mP p) w q.pc)).2.val = _; rw [hk1]; rfl
          rw [h1, hI.fIdx (by have := hp.n2; omega)] at e0
          cases hF : F with
          | nil => rfl
          | cons f F2 => rw [hF] at e0; have := hI.inF (n := f) (by rw [hF]; simp); simp at e0; omega
        have hs := sum_next t.seats p.want h.gg.n (fun i a b ha hb => h.nx i a b ha hb)
        have hpq : pwP q.pc = 1 := by rw [hk1]; rfl
        have hs2 : sumN ((t.seats.set w z').map SeatT.next) ≤ (p.want.map List.length).sum := sum_next _ _ (by rw [List.length_set]; exact h.gg.n) (fun i a b ha hb => by
          rcases hsg i a ha with ⟨rfl, rfl⟩ | ⟨_, ha⟩
          · rw [hw] at hb; cases hb
            rw [hzn]; exact hyle
          · exact h.nx i a b ha hb)
        rw [hF] at hcnt0
        simp only [List.length_nil] at hcnt0
        unfold totP at ht
        have hpx : pwX p w x ≤ sumN (pwL p t.seats) := le_sum (fun x => x) (pwL_get hx)
        omega
      · exact (h.full ht).2 w z' hz' hk o' ho'
    · have hcl := h.cl
      simp only
      rcases hcases with ⟨h1, rfl⟩ | ⟨h1, h2, h3, _⟩
      · have : inX y = 1 := by unfold inX; rw [if_neg h1]
        omega
      · have : inX x = 0 := by unfold inX; rw [if_pos h1]
        omega
    · have hoc := h.one h1
      have hwl : who = 0 := by
        have := (List.getElem?_eq_some_iff.1 hx).1
        have := h.gg.n
        omega
      subst hwl
      have hset0 : (t.seats.set 0 z)[0]? = some z := set_here hx
      refine ⟨hoc.pw, fun d hd => by have := hoc.lt d hd; simp only; omega, fun d hd z' hz' hk s hs => ?_, hoc.fn, fun hf z' ws' hz' hws' => ?_⟩
      · simp only at hz'
        rw [hset0] at hz'; cases hz'
        rcases hzs s hs with hs | rfl
        · rcases hys with ⟨k1, rfl⟩ | k1
          · exact hoc.st d hd y hx k1 s hs
          · rw [k1] at hs; simp at hs
        · exact hoc.lt d hd
      · simp only at hz' hf
        rw [hset0] at hz'; cases hz'
        have h9 := hoc.seq hf x ws' hx hws'
        rw [if_neg hzk, hzn]
        have hzo : z.op = y.op := by rw [← hz]
        rw [hzo]
        rw [hw] at hws'; cases hws'
        unfold curX at hy
        by_cases h0 : x.op.kind = 0
        · rw [if_pos h0] at hy h9
          obtain ⟨op, ho2, hoy⟩ := Option.map_eq_some_iff.1 hy
          rw [← hoy]
          simp only
          rw [List.append_nil] at h9
          have hlt := (List.getElem?_eq_some_iff.1 ho2)
          rw [h9, List.take_add_one, ho2]; rfl
        · rw [if_neg h0] at hy h9
          cases hy
          exact h9
    · intro j hj
      simp only
      rw [List.getElem?_set_ne (by omega)]
    · intro x' ws' hx' hws'
      rw [hx] at hx'; cases hx'
      rw [hw] at hws'; cases hws'
      refine .inr ⟨z, set_here hx, ?_⟩
      have hnz : nu (topP p) p.want.length (actP p who V q).1 (qAt p who z) < nu (topP p) p.want.length V q := by rw [hzq]; exact hdec
      unfold phi
      rw [if_neg hzk, hzn]
      rcases hcases with ⟨h1, rfl⟩ | ⟨h1, h2, h3, h4, h5⟩
      · rw [if_neg h1, ← hq]
        omega
      · rw [if_pos h1]
        omega
end Go.Proofs.YtdmnjoidfjidbaaGreat
/- Plays of a stack at which offers are made: what holds in the end. -/
namespace Go.Proofs.YtdmnjoidfjidbaaGreat
set_option maxRecDepth 100000

theorem nu_le {top lo hi : Int} {l : LayT} {S N K : Nat} {V : Vw} {qs : List (Q Ek)} {F X : List Int} {g : ElmG} (hN : N ≤ 16) (hS : S ≤ 3) (hI : Inv (elmZ top lo hi N) l S N K V qs F X g) {w : Nat} {q : Q Ek} (hq : qs[w]? = some q) : nu top S V q ≤ 116 := by
  have hown := own_len hI hq
  have hgn : (goneP q).length ≤ N := by
    have : (own (elmZ top lo hi N) q).length = (mineP (elmZ top lo hi N) q.pc).length + ((deadP (elmZ top lo hi N) q.pc).length + (goneP q).length) := by simp [own, deadQ]
    omega
  have hl := (hI.loc w q hq).pc
  have hz := nz_le q.s
  obtain ⟨pc, s⟩ := q
  cases pc with
  | at_ k =>
    show cK top V.W k ≤ 116
    cases k <;> simp only [cK] <;> first | omega | (split <;> omega)
  | g2 k i c v a =>
    show (if V.er = s.e i then 1 + gK top V.W v else 90) ≤ 116
    unfold gK
    split
    · split <;> omega
    · omega
  | c k i =>
    have hg : s.gone.length ≤ N := hgn
    show nz s + kC S s k ≤ 116
    simp only at hz
    cases k <;> simp only [kC] <;> omega
  | r1 k n =>
    have hg : s.gone.length ≤ N := hgn
    show 2 + 3 * S + 4 * (s.gone.length + 1) ≤ 116
    omega
  | r2 k n er =>
    have hg : s.gone.length ≤ N := hgn
    show 1 + 3 * S + 4 * (s.gone.length + 1) ≤ 116
    omega
  | rs k held c cs =>
    have hg : s.gone.length ≤ N := hgn
    have hc := hl.2.2.1
    simp only [List.length_cons] at hc
    show 1 + cs.length + 4 * s.gone.length ≤ 116
    omega
  | s1 k held y gs stay =>
    have hg : (y :: (gs ++ stay)).length ≤ N := hgn
    simp only [List.length_cons, List.length_append] at hg
    show 4 + 4 * gs.length ≤ 116
    omega
  | w1 k held y gs stay =>
    have hg : (y :: (gs ++ stay)).length ≤ N := hgn
    simp only [List.length_cons, List.length_append] at hg
    show 3 + 4 * gs.length ≤ 116
    omega
  | w2 k held y gs stay f =>
    have hg : (y :: (gs ++ stay)).length ≤ N := hgn
    simp only [List.length_cons, List.length_append] at hg
    show (if V.fr = f then 2 else 5) + 4 * gs.length ≤ 116
    split <;> omega
  | w3 k held y gs stay f =>
    have hg : (y :: (gs ++ stay)).length ≤ N := hgn
    simp only [List.length_cons, List.length_append] at hg
    show (if V.fr = f then 1 else 4) + 4 * gs.length ≤ 116
    split <;> omega
  | t1 k => exact (show 9 ≤ 116 by omega)
  | t2 k f =>
    show (if V.fr = f then 8 else 11) ≤ 116
    split <;> omega
  | t3 k f lk =>
    show (if V.fr = f then 7 else 10) ≤ 116
    split <;> omega
  | t4 k n a => exact (show 6 ≤ 116 by omega)
  | t5 k n a b => exact (show 5 ≤ 116 by omega)
  | g1 k i c =>
    show (if V.er = s.e i then 88 else 91) ≤ 116
    split <;> omega
  | g3 k i c er =>
    show (if V.er = er then 89 else 92) ≤ 116
    split <;> omega
  | clr k => exact Nat.zero_le _
  | v1 k n => exact (show 3 ≤ 116 by omega)
  | v2 k n f =>
    show (if V.fr = f then 2 else 5) ≤ 116
    split <;> omega
  | v3 k n f =>
    show (if V.fr = f then 1 else 4) ≤ 116
    split <;> omega
  | fin o => exact Nat.zero_le _
theorem phi_le {p : PlT} (hp : PlayG p) {n : Nat} {t : TabT} {V : Vw} {F X : List Int} {g : ElmG} (h : PG p n t V F X g) {w : Nat} {x : SeatT} {ws : List OpT} (hx : t.seats[w]? = some x) (hw : p.want[w]? = some ws) (hl : ws.length ≤ 14) : phi p V ws w x ≤ 1500 := by
  have h1 := h.nx w x ws hx hw
  unfold phi
  by_cases h0 : x.op.kind = 0
  · rw [if_pos h0]; omega
  · rw [if_neg h0]
    have h2 := h.n1 w x hx h0
    have h3 := nu_le (by have := hp.n2; omega) hp.w3 h.gg.inv (qsOf_get hx)
    omega
theorem PG.turn {p : PlT} (hp : PlayG p) {n : Nat} {t : TabT} {V : Vw} {F X : List Int} {g : ElmG} (h : PG p n t V F X g) (hn : n ≤ 40000) {who : Nat} (hw : who < p.want.length) :
    ∃ V' F' X' g', PG p (n + 1) (turnT (layP p) p.want t who) V' F' X' g' ∧ (∀ j, j ≠ who → (turnT (layP p) p.want t who).seats[j]? = t.seats[j]?) ∧ ∀ x ws, t.seats[who]? = some x → p.want[who]? = some ws → (turnT (layP p) p.want t who = t ∧ x.op.kind = 0 ∧ ws.length ≤ x.next) ∨ ∃ x', (turnT (layP p) p.want t who).seats[who]? = some x' ∧ phi p V' ws who x' < phi p V ws who x := by
  obtain ⟨V', F', X', g', hR, hG⟩ := h.gg.step hp (by omega) hw
  exact ⟨V', F', X', g', h.step hp hR hG⟩
theorem PG.turns {p : PlT} (hp : PlayG p) : ∀ (ws : List Nat) (n : Nat) (t : TabT) (V : Vw) (F X : List Int) (g : ElmG), PG p n t V F X g → n + ws.length ≤ 40000 → (∀ w ∈ ws, w < p.want.length) → ∃ V' F' X' g', PG p (n + ws.length) (turnsT (layP p) p.want t ws) V' F' X' g'
  | [], n, t, V, F, X, g, h, _, _ => ⟨V, F, X, g, h⟩
  | w :: ws, n, t, V, F, X, g, h, hn, hw => by
    simp only [List.length_cons] at hn
    obtain ⟨V1, F1, X1, g1, h1, _⟩ := h.turn hp (by omega) (hw w (by simp))
    obtain ⟨V2, F2, X2, g2, h2⟩ := PG.turns hp ws (n + 1) _ V1 F1 X1 g1 h1 (by omega) (fun w' hw' => hw w' (by simp [hw']))
    exact ⟨V2, F2, X2, g2, by rw [List.length_cons, show n + (ws.length + 1) = n + 1 + ws.length by omega]; exact h2⟩
theorem PG.alone {p : PlT} (hp : PlayG p) {who : Nat} (hw : who < p.want.length) {ws : List OpT} (hws : p.want[who]? = some ws) : ∀ (k n : Nat) (t : TabT) (V : Vw) (F X : List Int) (g : ElmG) (x : SeatT), PG p n t V F X g → n + k ≤ 40000 → t.seats[who]? = some x → phi p V ws who x ≤ k →
    ∃ V' F' X' g', PG p (n + k) (aloneT (layP p) p.want who k t) V' F' X' g' ∧ doneB (aloneT (layP p) p.want who k t) p.want who = true ∧ ∀ j, j ≠ who → (aloneT (layP p) p.want who k t).seats[j]? = t.seats[j]?
  | 0, n, t, V, F, X, g, x, h, _, hx, hph => by
    refine ⟨V, F, X, g, h, ?_, fun j _ => rfl⟩
    have h1 := h.nx who x ws hx hws
    unfold phi at hph
    by_cases h0 : x.op.kind = 0
    · rw [if_pos h0] at hph
      show doneB t p.want who = true
      unfold doneB
      simp only [hx, hws, h0, decide_true, Bool.true_and, decide_eq_true_eq]
      omega
    · rw [if_neg h0] at hph; omega
  | k + 1, n, t, V, F, X, g, x, h, hn, hx, hph => by
    rw [aloneT, if_neg (by rw [h.gg.bad]; simp)]
    obtain ⟨V1, F1, X1, g1, h1, h2, h3⟩ := h.turn hp (by omega) hw
    rcases h3 x ws hx hws with ⟨e, h0, hle⟩ | ⟨x', hx', hlt⟩
    · rw [e] at h1 ⊢
      obtain ⟨V2, F2, X2, g2, k1, k2, k3⟩ := PG.alone hp hw hws k (n + 1) t V1 F1 X1 g1 x h1 (by omega) hx (by unfold phi; rw [if_pos h0]; omega)
      exact ⟨V2, F2, X2, g2, by rw [show n + (k + 1) = n + 1 + k by omega]; exact k1, k2, k3⟩
    · obtain ⟨V2, F2, X2, g2, k1, k2, k3⟩ := PG.alone hp hw hws k (n + 1) _ V1 F1 X1 g1 x' h1 (by omega) hx' (by omega)
      exact ⟨V2, F2, X2, g2, by rw [show n + (k + 1) = n + 1 + k by omega]; exact k1, k2, fun j hj => (k3 j hj).trans (h2 j hj)⟩
theorem done_same {t t' : TabT} {want : List (List OpT)} {j : Nat} (h : t'.seats[j]? = t.seats[j]?) : doneB t' want j = doneB t want j := by unfold doneB; rw [h]
theorem PG.rest {p : PlT} (hp : PlayG p) (hl : ∀ ws ∈ p.want, ws.length ≤ 14) : ∀ (k who n : Nat) (t : TabT) (V : Vw) (F X : List Int) (g : ElmG), PG p n t V F X g → n + k * 1500 ≤ 40000 → who + k = p.want.length → (∀ j, j < who → doneB t p.want j = true) →
    ∃ V' F' X' g', PG p (n + k * 1500) (restT (layP p) p.want who k t) V' F' X' g' ∧ ∀ j, j < p.want.length → doneB (restT (layP p) p.want who k t) p.want j = true
  | 0, who, n, t, V, F, X, g, h, _, hk, hd => ⟨V, F, X, g, by rw [show n + 0 * 1500 = n by omega]; exact h, fun j hj => hd j (by omega)⟩
  | k + 1, who, n, t, V, F, X, g, h, hn, hk, hd => by
    have hw : who < p.want.length := by omega
    have hws : p.want[who]? = some p.want[who] := List.getElem?_eq_getElem hw
    have hx : t.seats[who]? = some (t.seats[who]'(by have := h.gg.n; omega)) := List.getElem?_eq_getElem _
    obtain ⟨V1, F1, X1, g1, k1, k2, k3⟩ := PG.alone hp hw hws 1500 n t V F X g _ h (by omega) hx (phi_le hp h hx hws (hl _ (List.getElem_mem hw)))
    have e : ({ aloneT (layP p) p.want who 1500 t with bad := (aloneT (layP p) p.want who 1500 t).bad || !doneB (aloneT (layP p) p.want who 1500 t) p.want who } : TabT) = aloneT (layP p) p.want who 1500 t := by
      have hb := k1.gg.bad
      rw [k2]
      generalize aloneT (layP p) p.want who 1500 t = t1 at hb
      cases t1
      simp only at hb
      simp [hb]
    obtain ⟨V2, F2, X2, g2, m1, m2⟩ := PG.rest hp hl k (who + 1) (n + 1500) (aloneT (layP p) p.want who 1500 t) V1 F1 X1 g1 k1 (by omega) (by omega) (fun j hj => by
      by_cases hjw : j = who
      · subst hjw; exact k2
      · rw [done_same (k3 j hjw)]; exact hd j (by omega))
    have er : restT (layP p) p.want who (k + 1) t = restT (layP p) p.want (who + 1) k (aloneT (layP p) p.want who 1500 t) := by
      show restT (layP p) p.want (who + 1) k ({ aloneT (layP p) p.want who 1500 t with bad := (aloneT (layP p) p.want who 1500 t).bad || !doneB (aloneT (layP p) p.want who 1500 t) p.want who } : TabT) = _
      rw [e]
    rw [er]
    exact ⟨V2, F2, X2, g2, by rw [show n + (k + 1) * 1500 = n + 1500 + k * 1500 by omega]; exact m1, m2⟩
theorem sum0 : ∀ {l : List Nat}, (∀ y ∈ l, y = 0) → l.sum = 0
  | [], _ => rfl
  | y :: l, h => by rw [List.sum_cons, h y (by simp), sum0 fun z hz => h z (by simp [hz])]
def begLt (S N sl : Nat) : Bool := (beginF (layE S N sl)).all fun x => decide (x < 9223372036854775808)
theorem begLt_all : ((List.range 3).all fun a => (List.range 3).all fun b => begLt (a + 1) 3 (b + 1) && begLt (a + 1) 16 (b + 1)) = true := by decide +kernel
theorem cells_start {p : PlT} (hp : PlayG p) (hn : p.nodes = 3 ∨ p.nodes = 16) : CellsLt (beginF (layP p)) := by
  obtain ⟨w1, w3, _, _, s1, s3, _⟩ := hp
  have h := List.all_eq_true.1 (List.all_eq_true.1 begLt_all (p.want.length - 1) (List.mem_range.2 (by omega))) (p.slots - 1) (List.mem_range.2 (by omega))
  rw [show p.want.length - 1 + 1 = p.want.length by omega, show p.slots - 1 + 1 = p.slots by omega, Bool.and_eq_true] at h
  have h2 : begLt p.want.length p.nodes p.slots = true := by
    rcases hn with e | e
    · rw [e]; exact h.1
    · rw [e]; exact h.2
  unfold begLt at h2
  intro x hx
  simpa using List.all_eq_true.1 h2 x hx
theorem pg_start {p : PlT} (hp : PlayG p) (hn : p.nodes = 3 ∨ p.nodes = 16) : PG p 0 (start p) (V0 p.nodes) (upF 1 p.nodes) [] g0 := by
  refine ⟨G_start hp hn, lin_start, ?_, fun w x ws hx _ => ?_, fun w x hx hk => ?_, fun _ => ⟨rfl, fun w x hx hk => ?_⟩, ?_, fun _ => ⟨List.Pairwise.nil, fun c hc => by simp [start, beginT] at hc, fun c hc => by simp [start, beginT] at hc, Int.le_refl 0, fun _ x ws hx _ => by rw [start_seat hx]; rfl⟩, cells_start hp hn, fun c hc => by simp [start, beginT] at hc, Int.le_refl 0⟩
  · have h1 : sumN (pwL p (start p).seats) = 0 := by
      unfold sumN
      have : ∀ y ∈ pwL p (start p).seats, y = 0 := fun y hy => by
        obtain ⟨i, hi⟩ := List.getElem?_of_mem hy
        unfold pwL at hi
        rw [List.getElem?_mapIdx] at hi
        rcases hz : (start p).seats[i]? with _ | x
        · rw [hz] at hi; cases hi
        · rw [hz] at hi
          cases hi
          rw [start_seat hz]; rfl
      rw [List.map_id']
      exact sum0 this
    have h2 := upF_len p.nodes 1
    omega
  · rw [start_seat hx]; exact Nat.zero_le _
  · rw [start_seat hx] at hk; exact absurd rfl hk
  · rw [start_seat hx] at hk; exact absurd rfl hk
  · have k1 : sumN ((start p).seats.map inX) = 0 := by
      unfold sumN
      rw [List.map_id']
      exact sum0 fun y hy => by
        obtain ⟨x, hx, rfl⟩ := List.mem_map.1 hy
        obtain ⟨i, hi⟩ := List.getElem?_of_mem hx
        rw [start_seat hi]; rfl
    have k2 : sumN ((start p).seats.map SeatT.next) = 0 := by
      unfold sumN
      rw [List.map_id']
      exact sum0 fun y hy => by
        obtain ⟨x, hx, rfl⟩ := List.mem_map.1 hy
        obtain ⟨i, hi⟩ := List.getElem?_of_mem hx
        rw [start_seat hi]; rfl
    rw [k1, k2]; rfl
structure End (p : PlT) (t : TabT) (V : Vw) (F X : List Int) (g : ElmG) (H : List EnT) : Prop where
  pg : ∃ n, PG p n t V F X g
  ex : Ex [] H (X.map fun n => V.W.nd n 1)
  sorted : H.Pairwise fun a b => a.ev.time ≤ b.ev.time
  all : ∀ e ∈ H, ∃ c, e.call = some c ∧ sameC e c
  perm : t.calls.Perm (H.filterMap EnT.call)
  idle : ∀ (w : Nat) (x : SeatT), t.seats[w]? = some x → x.op.kind = 0
theorem played {p : PlT} (hp : PlayG p) (hn : p.nodes = 3 ∨ p.nodes = 16) (hl : ∀ ws ∈ p.want, ws.length ≤ 14) {turns : List Int} (ht : turns.length ≤ 300) : ∃ V F X g H, End p (playedT (layP p) p.want turns) V F X g H ∧ ∀ (w : Nat) (x : SeatT) (ws : List OpT), (playedT (layP p) p.want turns).seats[w]? = some x → p.want[w]? = some ws → x.next = ws.length := by
  have hw1 := hp.w1
  have hw3 := hp.w3
  obtain ⟨V1, F1, X1, g1, h1⟩ := PG.turns hp (turns.map fun x => (x % (p.want.length : Int)).toNat) 0 _ _ _ _ _ (pg_start hp hn) (by rw [List.length_map]; omega) (fun w hw => by
    obtain ⟨x, _, rfl⟩ := List.mem_map.1 hw
    have := Int.emod_nonneg x (show (p.want.length : Int) ≠ 0 by omega)
    have := Int.emod_lt_of_pos x (show (0 : Int) < p.want.length by omega)
    omega)
  rw [List.length_map] at h1
  obtain ⟨V2, F2, X2, g2, h2, h3⟩ := PG.rest hp hl p.want.length 0 _ _ V1 F1 X1 g1 h1 (by omega) (by omega) (fun j hj => by omega)
  have e : playedT (layP p) p.want turns = restT (layP p) p.want 0 p.want.length (turnsT (layP p) p.want (start p) (turns.map fun x => (x % (p.want.length : Int)).toNat)) := rfl
  rw [e]
  generalize restT (layP p) p.want 0 p.want.length (turnsT (layP p) p.want (start p) (turns.map fun x => (x % (p.want.length : Int)).toNat)) = t at h2 h3
  have hidle : ∀ (w : Nat) (x : SeatT), t.seats[w]? = some x → x.op.kind = 0 := fun w x hx => by
    have hwl := (List.getElem?_eq_some_iff.1 hx).1
    have hd := h3 w (by have := h2.gg.n; omega)
    unfold doneB at hd
    rw [hx, List.getElem?_eq_getElem (show w < p.want.length by have := h2.gg.n; omega)] at hd
    simp only [Bool.and_eq_true, decide_eq_true_eq] at hd
    exact hd.1
  have hnext : ∀ (w : Nat) (x : SeatT) (ws : List OpT), t.seats[w]? = some x → p.want[w]? = some ws → x.next = ws.length := fun w x ws hx hw => by
    have hwl := (List.getElem?_eq_some_iff.1 hw).1
    have hd := h3 w hwl
    unfold doneB at hd
    rw [hx, hw] at hd
    simp only [Bool.and_eq_true, decide_eq_true_eq] at hd
    have := h2.nx w x ws hx hw
    omega
  obtain ⟨sv, H, v1, v2, hH⟩ := h2.lin
  refine ⟨V2, F2, X2, g2, H, ⟨⟨_, h2⟩, hH.ex, hH.sorted, hH.all fun w => ?_, hH.perm, hidle⟩, hnext⟩
  by_cases hw : w < t.seats.length
  · rw [v1 w _ (List.getElem?_eq_getElem hw)]
    exact hidle w _ (List.getElem?_eq_getElem hw)
  · rw [v2 w (by omega)]; rfl
theorem End.order {p : PlT} {t : TabT} {V : Vw} {F X : List Int} {g : ElmG} {H : List EnT} (h : End p t V F X g H) : orderB t.calls.length [] t.calls = true := order_of _ [] _ H t.calls (Nat.le_refl _) h.ex h.sorted h.all h.perm
end Go.Proofs.YtdmnjoidfjidbaaGreat
/- Plays of a stack at which offers are made: what was pushed is popped once, or there; where nodes run out. -/
namespace Go.Proofs.YtdmnjoidfjidbaaGreat
set_option maxRecDepth 100000

section
variable {top lo hi : Int} {l : LayT} {S N K : Nat} {m : List Int} {V : Vw} {qs : List (Q Ek)} {F X : List Int} {g : ElmG}
theorem nodes_is (hL : Lay l S N) (hLy : ElmLay l S top lo hi) (htp : topF l 0 = top) (hN : N ≤ 100) (hV : View l S N m V) (hI : Inv (elmZ top lo hi N) l S N K V qs F X g) : nodesF l m 0 = X := by
  have hd' := hI.nodupX
  have hSI : ElmSI top lo hi N K V.W X g := hI.si
  have h1 := hLy.t1
  have h2 := hLy.t2
  have h3 := hLy.lh
  have h4 := hLy.h2
  unfold nodesF
  have hh : atF m top = V.W.ob top := atF_ad hL hV (a := .ob top) ⟨h1, by omega⟩
  rw [htp, if_neg (by omega), hh, hSI.idx hN]
  have := chain_linked (nx := fun n => atF m (nodeF l n 0)) (N := l.nodes) X [] (l.nodes.toNat + 1) (fun x hx => by have := hI.inX hx; have := hL.nodes; omega) (by simpa using hd') (by
    have := nodup_le N X hd' (fun x hx => hI.inX hx)
    have := hL.nodes
    omega) hSI.link (fun x hx => by
      have hx := hI.inX hx
      exact atF_ad hL hV (a := .nd x 0) ⟨hx.1, hx.2, by omega, by omega⟩)
  simpa using this
theorem row_is (hL : Lay l S N) (hLy : ElmLay l S top lo hi) (htp : topF l 0 = top) (hN : N ≤ 100) (hV : View l S N m V) (hI : Inv (elmZ top lo hi N) l S N K V qs F X g) : rowF l m 0 = X.map fun n => V.W.nd n 1 := by
  unfold rowF
  rw [nodes_is hL hLy htp hN hV hI]
  exact List.map_congr_left fun x hx => by
    have hx := hI.inX hx
    exact atF_ad hL hV (a := .nd x 1) ⟨hx.1, hx.2, by omega, by omega⟩
end
theorem PG.row {p : PlT} (hp : PlayG p) {n : Nat} {t : TabT} {V : Vw} {F X : List Int} {g : ElmG} (h : PG p n t V F X g) : rowF (layP p) t.m 0 = X.map fun n => V.W.nd n 1 :=
  row_is (layP_lay hp) (elmLayP hp) (top_eq hp (o := op0) rfl) (by have := hp.n2; omega) h.gg.view h.gg.inv
/-! ### Once -/
def pushC (c : CallT) : Option Int := if c.op.kind = 4 then some c.op.a else none
def popC (c : CallT) : Option Int := if c.op.kind = 4 then none else if c.is then some c.val else none
def pushE (e : EnT) : Option Int := if e.ev.op.kind = 4 then some e.ev.op.a else none
def popE (e : EnT) : Option Int := if e.ev.op.kind = 4 then none else if e.ev.is then some e.ev.val else none
theorem ex_perm : ∀ {H : List EnT} {vs vs' : List Int}, Ex vs H vs' → (vs ++ H.filterMap pushE).Perm (vs' ++ H.filterMap popE) ∧ ∀ e ∈ H, e.ev.op.kind = 4 → e.ev.is = true ∧ e.ev.val = 0
  | [], vs, vs', h => by
    cases h
    exact ⟨List.Perm.refl _, fun e he => by simp at he⟩
  | e :: H, vs, vs', ⟨m, h1, h2⟩ => by
    obtain ⟨i1, i2⟩ := ex_perm h2
    by_cases hk : e.ev.op.kind = 4
    · unfold stkDo at h1
      rw [if_pos hk] at h1
      simp only [Prod.mk.injEq] at h1
      refine ⟨?_, fun e' he' hk' => ?_⟩
      · rw [List.filterMap_cons_some (show pushE e = some e.ev.op.a by unfold pushE; rw [if_pos hk]), List.filterMap_cons_none (show popE e = none by unfold popE; rw [if_pos hk])]
        rw [← h1.1] at i1
        exact List.perm_middle.trans i1
      · rw [List.mem_cons] at he'
        rcases he' with rfl | he'
        · exact ⟨h1.2.2.symm, h1.2.1.symm⟩
        · exact i2 e' he' hk'
    · unfold stkDo at h1
      rw [if_neg hk] at h1
      have hpn : pushE e = none := by unfold pushE; rw [if_neg hk]
      refine ⟨?_, fun e' he' hk' => ?_⟩
      · rw [List.filterMap_cons_none hpn]
        cases vs with
        | nil =>
          simp only [Prod.mk.injEq] at h1
          rw [List.filterMap_cons_none (show popE e = none by unfold popE; rw [if_neg hk, ← h1.2.2]; rfl)]
          rw [← h1.1] at i1
          exact i1
        | cons x xs =>
          simp only [Prod.mk.injEq] at h1
          rw [List.filterMap_cons_some (show popE e = some x by unfold popE; rw [if_neg hk, ← h1.2.2, ← h1.2.1]; rfl)]
          rw [← h1.1] at i1
          exact (i1.cons x).trans List.perm_middle.symm
      · rw [List.mem_cons] at he'
        rcases he' with rfl | he'
        · exact absurd hk' hk
        · exact i2 e' he' hk'
theorem fm_calls {f : CallT → Option Int} {fe : EnT → Option Int} (hf : ∀ e c, sameC e c → f c = fe e) : ∀ {H : List EnT}, (∀ e ∈ H, ∃ c, e.call = some c ∧ sameC e c) → (H.filterMap EnT.call).filterMap f = H.filterMap fe
  | [], _ => rfl
  | e :: H, h => by
    obtain ⟨c, h1, h2⟩ := h e (by simp)
    rw [List.filterMap_cons_some h1]
    have ih := fm_calls hf (H := H) fun e' he' => h e' (by simp [he'])
    have hfe := hf e c h2
    cases hc : f c with
    | none => rw [List.filterMap_cons_none hc, List.filterMap_cons_none (by rw [← hfe]; exact hc)]; exact ih
    | some x => rw [List.filterMap_cons_some hc, List.filterMap_cons_some (by rw [← hfe]; exact hc), ih]
theorem End.once {p : PlT} (hp : PlayG p) {t : TabT} {V : Vw} {F X : List Int} {g : ElmG} {H : List EnT} (h : End p t V F X g H) :
    (t.calls.filterMap pushC).Perm (rowF (layP p) t.m 0 ++ t.calls.filterMap popC) ∧ ∀ c ∈ t.calls, c.op.kind = 4 → c.is = true ∧ c.val = 0 := by
  obtain ⟨n, hpg⟩ := h.pg
  obtain ⟨h1, h2⟩ := ex_perm h.ex
  have e1 : (H.filterMap EnT.call).filterMap pushC = H.filterMap pushE := fm_calls (fun e c hc => by unfold pushC pushE; rw [hc.1]) h.all
  have e2 : (H.filterMap EnT.call).filterMap popC = H.filterMap popE := fm_calls (fun e c hc => by unfold popC popE; rw [hc.1, hc.2.1, hc.2.2.1]) h.all
  refine ⟨?_, fun c hc hk => ?_⟩
  · rw [hpg.row hp]
    have p1 := h.perm.filterMap pushC
    have p2 := h.perm.filterMap popC
    rw [e1] at p1
    rw [e2] at p2
    rw [List.nil_append] at h1
    exact p1.trans (h1.trans (List.Perm.append_left _ p2.symm))
  · have hm := h.perm.mem_iff.1 hc
    obtain ⟨e, he, hec⟩ := List.mem_filterMap.1 hm
    obtain ⟨c', hc', hs⟩ := h.all e he
    rw [hec] at hc'
    cases hc'
    have := h2 e he (by rw [← hs.1]; exact hk)
    exact ⟨by rw [hs.2.2.1]; exact this.1, by rw [hs.2.1]; exact this.2⟩
/-! ### One seat -/
theorem one_order : ∀ (a b : List CallT), a.Perm b → (a.Pairwise fun x y => x.last < y.first) → (b.Pairwise fun x y => x.first ≤ y.last) → (∀ c ∈ a, c.first ≤ c.last) → a = b
  | [], b, hp, _, _, _ => hp.symm.eq_nil.symm
  | x :: a, b, hp, ha, hb, hc => by
    rw [List.pairwise_cons] at ha
    cases b with
    | nil => exact absurd hp.eq_nil (by simp)
    | cons y b =>
      have hyx : y = x := by
        have hy := hp.mem_iff.2 (show y ∈ y :: b by simp)
        rw [List.mem_cons] at hy
        rcases hy with h | h
        · exact h
        · exfalso
          have h1 := ha.1 y h
          have hx := hp.mem_iff.1 (show x ∈ x :: a by simp)
          rw [List.mem_cons] at hx
          rcases hx with rfl | hx
          · have := hc x (by simp); omega
          · rw [List.pairwise_cons] at hb
            have h2 := hb.1 x hx
            omega
      subst hyx
      rw [List.pairwise_cons] at hb
      rw [one_order a b hp.cons_inv ha.2 hb.2 (fun c h => hc c (by simp [h]))]
def CallsEx : List Int → List CallT → List Int → Prop
  | vs, [], vs' => vs = vs'
  | vs, c :: cs, vs' => ∃ m, stkDo vs c.op = (m, c.val, c.is) ∧ CallsEx m cs vs'
theorem calls_ex : ∀ {H : List EnT} {vs vs' : List Int}, Ex vs H vs' → (∀ e ∈ H, ∃ c, e.call = some c ∧ sameC e c) → CallsEx vs (H.filterMap EnT.call) vs'
  | [], _, _, h, _ => h
  | e :: H, vs, vs', ⟨m, h1, h2⟩, ha => by
    obtain ⟨c, k1, k2⟩ := ha e (by simp)
    rw [List.filterMap_cons_some k1]
    exact ⟨m, by rw [k2.1, k2.2.1, k2.2.2.1]; exact h1, calls_ex h2 fun e' he' => ha e' (by simp [he'])⟩
theorem call_sorted : ∀ {H : List EnT}, (H.Pairwise fun a b => a.ev.time ≤ b.ev.time) → (∀ e ∈ H, ∃ c, e.call = some c ∧ sameC e c) → (H.filterMap EnT.call).Pairwise fun x y => x.first ≤ y.last
  | [], _, _ => List.Pairwise.nil
  | e :: H, hs, ha => by
    obtain ⟨c, k1, k2⟩ := ha e (by simp)
    rw [List.filterMap_cons_some k1]
    rw [List.pairwise_cons] at hs ⊢
    refine ⟨fun y hy => ?_, call_sorted hs.2 fun e' he' => ha e' (by simp [he'])⟩
    obtain ⟨e', he', hce⟩ := List.mem_filterMap.1 hy
    obtain ⟨c', h4, h5⟩ := ha e' (by simp [he'])
    rw [hce] at h4
    cases h4
    have := hs.1 e' he'
    have := k2.2.2.2.1
    have := h5.2.2.2.2
    omega
theorem End.seq {p : PlT} (h1 : p.want.length = 1) {t : TabT} {V : Vw} {F X : List Int} {g : ElmG} {H : List EnT} (h : End p t V F X g H) : CallsEx [] t.calls (X.map fun n => V.W.nd n 1) := by
  obtain ⟨n, hpg⟩ := h.pg
  have e := one_order t.calls (H.filterMap EnT.call) h.perm (hpg.one h1).pw (call_sorted h.sorted h.all) (fun c hc => by
    have hm := h.perm.mem_iff.1 hc
    obtain ⟨e, he, hec⟩ := List.mem_filterMap.1 hm
    obtain ⟨c', hc', hs⟩ := h.all e he
    rw [hec] at hc'
    cases hc'
    have := hs.2.2.2.1
    have := hs.2.2.2.2
    omega)
  rw [e]
  exact calls_ex h.ex h.all
end Go.Proofs.YtdmnjoidfjidbaaGreat
