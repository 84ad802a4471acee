/- What holds of a stack's memory and programs goes on from step to step: the frame. -/
import Derived.Test.YtpecgpmdchejdaaM3
namespace Go.Proofs.Ytpecgpmdchejdaa
set_option maxRecDepth 100000

section
variable {S N K : Nat} {V : Vw} {w : Nat} {q : Q}
theorem Loc.setNd (h : Loc S N V w q) {n i v : Int} (hF : n ≠ (ofW V.fr).idx) (hT : n ≠ (ofW V.tp).idx) (hO : n ∉ own q) : Loc S N (V.setNd n i v) w q := by
  obtain ⟨pc, made, gone, e0⟩ := q
  obtain ⟨a1, a2, a3, a4⟩ := h
  refine ⟨a1, a2, a3, ?_⟩
  cases pc <;> simp only [LocPc, own] at a4 hO ⊢ <;> try exact a4
  case t3 f lk =>
    obtain ⟨b1, b2, b3, b4⟩ := a4
    refine ⟨b1, b2, b3, fun e => ?_⟩
    have e' : V.fr = f := e
    rw [b4 e']
    simp only [Vw.setNd]
    rw [if_neg (fun hh => hF (by rw [← hh.1, e']))]
  case p3 n' u =>
    obtain ⟨b1, b2, b3⟩ := a4
    refine ⟨b1, b2, ?_⟩
    simp only [Vw.setNd]
    rw [if_neg (fun hh => hO (by rw [← hh.1]; exact List.mem_cons_self))]
    exact b3
  case d2 u be =>
    obtain ⟨b1, b2, b3, b4⟩ := a4
    refine ⟨b1, b2, b3, fun e => ?_⟩
    have e' : V.tp = u := e
    rw [b4 e']
    simp only [Vw.setNd]
    rw [if_neg (fun hh => hT (by rw [← hh.1, e']))]
  case v3 v' a held g gs stay f =>
    obtain ⟨b1, b2, b3⟩ := a4
    refine ⟨b1, b2, ?_⟩
    simp only [Vw.setNd]
    rw [if_neg (fun hh => hO (by rw [← hh.1, List.map_cons]; exact List.mem_cons_self))]
    exact b3
theorem Loc.setFr (h : Loc S N V w q) {x : Int} (hx : x / 131072 = V.fr / 131072 + 1) : Loc S N { V with fr := x } w q := by
  obtain ⟨pc, made, gone, e0⟩ := q
  obtain ⟨a1, a2, a3, a4⟩ := h
  refine ⟨a1, a2, a3, ?_⟩
  cases pc <;> simp only [LocPc] at a4 ⊢ <;> try exact a4
  case t2 f => exact ⟨a4.1, a4.2.1.up hx, a4.2.2⟩
  case t3 f lk => exact ⟨a4.1, a4.2.1.up hx, a4.2.2.1, fun e => absurd e (a4.2.1.ne hx)⟩
  case v2 => exact ⟨a4.1, a4.2.up hx⟩
  case v3 => exact ⟨a4.1, a4.2.1.up hx, a4.2.2⟩
theorem Loc.setTp (h : Loc S N V w q) {x : Int} (hx : x / 131072 = V.tp / 131072 + 1) : Loc S N { V with tp := x } w q := by
  obtain ⟨pc, made, gone, e0⟩ := q
  obtain ⟨a1, a2, a3, a4⟩ := h
  refine ⟨a1, a2, a3, ?_⟩
  cases pc <;> simp only [LocPc] at a4 ⊢ <;> try exact a4
  case p2 => exact ⟨a4.1, a4.2.up hx⟩
  case p3 => exact ⟨a4.1, a4.2.1.up hx, a4.2.2⟩
  case g2 => exact a4.up hx
  case d1 => exact ⟨a4.1.up hx, a4.2⟩
  case d2 => exact ⟨a4.1.up hx, a4.2.1, a4.2.2.1, fun e => absurd e (a4.1.ne hx)⟩
theorem Loc.setEr (h : Loc S N V w q) : Loc S N { V with er := V.er + 1 } w q := by
  obtain ⟨pc, made, gone, e0⟩ := q
  obtain ⟨a1, a2, a3, a4⟩ := h
  refine ⟨a1, a2, by simp only at a3 ⊢; omega, ?_⟩
  cases pc <;> simp only [LocPc] at a4 ⊢ <;> try exact a4
  all_goals omega
theorem Loc.setRv (h : Loc S N V w q) {w' : Nat} {x : Int} (hw : w ≠ w') : Loc S N (V.setRv w' x) w q := by
  obtain ⟨pc, made, gone, e0⟩ := q
  obtain ⟨a1, a2, a3, a4⟩ := h
  refine ⟨?_, a2, a3, ?_⟩
  · simp only [Vw.setRv]
    rw [if_neg (by omega)]; exact a1
  · cases pc <;> exact a4
end
section
variable {S N K : Nat} {V V' : Vw} {qs : List Q} {F T F' T' : List Int} {w : Nat} {q q' : Q}
theorem set_get {l : List Q} {w j : Nat} {q q' x : Q} (hq : l[w]? = some q) (h : (l.set w q')[j]? = some x) : (j = w ∧ x = q') ∨ (j ≠ w ∧ l[j]? = some x) := by
  rw [List.getElem?_set] at h
  split at h
  · rename_i e
    subst e
    rw [if_pos (List.getElem?_eq_some_iff.1 hq).1] at h
    cases h
    exact .inl ⟨rfl, rfl⟩
  · rename_i e
    exact .inr ⟨fun h => e h.symm, h⟩
theorem set_here {l : List Q} {w : Nat} {q q' : Q} (hq : l[w]? = some q) : (l.set w q')[w]? = some q' := List.getElem?_set_self (List.getElem?_eq_some_iff.1 hq).1
theorem set_there {l : List Q} {w j : Nat} {q' x : Q} (hj : j ≠ w) (h : l[j]? = some x) : (l.set w q')[j]? = some x := by rw [List.getElem?_set_ne (by omega)]; exact h
theorem prot_move (hq : qs[w]? = some q) {j : Nat} {n e : Int} (hP : Prot S V T qs j n e) (hb : V'.nd n 6 = V.nd n 6) (hT : n ∈ T → n ∈ T' ∨ Keeps (cellOf S j) n e q') (hK : Keeps (cellOf S j) n e q → Keeps (cellOf S j) n e q') : Prot S V' T' (qs.set w q') j n e := by
  refine ⟨by rw [hb]; exact hP.birth, ?_⟩
  rcases hP.at_ with h | ⟨i, x, hi, hx⟩
  · rcases hT h with h | h
    · exact .inl h
    · exact .inr ⟨w, q', set_here hq, h⟩
  · by_cases hiw : i = w
    · subst hiw
      rw [hq] at hi
      cases hi
      exact .inr ⟨i, q', set_here hq, hK hx⟩
    · exact .inr ⟨i, x, set_there hiw hi, hx⟩
/-- A step: what has to be shown. -/
theorem Inv.step (hI : Inv S N K V qs F T) (hq : qs[w]? = some q)
    (h_fr : V'.fr = 131072 * (V'.fr / 131072) + F'.headD 0) (h_frk : 0 ≤ V'.fr / 131072 ∧ V'.fr / 131072 ≤ (K + 1 : Nat)) (h_tp : V'.tp = 131072 * (V'.tp / 131072) + T'.headD 0) (h_tpk : 0 ≤ V'.tp / 131072 ∧ V'.tp / 131072 ≤ (K + 1 : Nat)) (h_er : V'.er = V.er ∨ V'.er = V.er + 1)
    (h_lf : Linked V'.nd 7 F') (h_lt : Linked V'.nd 0 T') (h_own : ∀ n, F'.count n + T'.count n + (own q').count n = F.count n + T.count n + (own q).count n) (h_bi : ∀ n, 1 ≤ n → n ≤ (N : Int) → V'.nd n 6 ≤ V'.er)
    (h_loc : Loc S N V' w q') (h_oth : ∀ (j : Nat) (x : Q), j ≠ w → qs[j]? = some x → Loc S N V' j x) (h_pro : Pro S V' T' (qs.set w q') w q')
    (h_keep : ∀ (j : Nat) (x : Q) (n : Int), j ≠ w → qs[j]? = some x → Loc S N V j x → Prot S V T qs j n x.e0 → V'.nd n 6 = V.nd n 6 ∧ (n ∈ T → n ∈ T' ∨ Keeps (cellOf S j) n x.e0 q') ∧ (Keeps (cellOf S j) n x.e0 q → Keeps (cellOf S j) n x.e0 q')) : Inv S N (K + 1) V' (qs.set w q') F' T' := by
  have her := hI.er
  refine ⟨by rw [List.length_set]; exact hI.n, h_fr, h_frk, h_tp, h_tpk, by omega, h_lf, h_lt, fun n => ?_, h_bi, fun j x hx => ?_, fun j x hx => ?_⟩
  · have h1 := hI.part n
    have h2 := ownSum_set q' n hq
    have h3 := h_own n
    omega
  · rcases set_get hq hx with ⟨rfl, rfl⟩ | ⟨h1, h2⟩
    · exact h_loc
    · exact h_oth j x h1 h2
  · rcases set_get hq hx with ⟨rfl, rfl⟩ | ⟨h1, h2⟩
    · exact h_pro
    · have hl := hI.loc j x h2
      have hp := hI.pro j x h2
      have move : ∀ n, Prot S V T qs j n x.e0 → Prot S V' T' (qs.set w q') j n x.e0 := fun n hP => by
        obtain ⟨k1, k2, k3⟩ := h_keep j x n h1 h2 hl hP
        exact prot_move hq hP k1 k2 k3
      have he1 := hl.e1
      obtain ⟨pc, made, gone, e0⟩ := x
      cases pc <;> simp only [Pro] at hp ⊢
      case g2 u a => exact fun k1 k2 => move _ (hp k1 (by simp only at he1; omega))
      case d1 u => exact move _ hp
/-- A step that leaves memory alone. -/
theorem Inv.quiet (hI : Inv S N K V qs F T) (hq : qs[w]? = some q) (h_own : own q' = own q) (h_loc : LocPc S N V q'.e0 q'.pc) (he : q'.e0 = q.e0) (h_pro : Pro S V T (qs.set w q') w q')
    (h_keep : ∀ (j : Nat) (x : Q) (n : Int), j ≠ w → qs[j]? = some x → Loc S N V j x → Prot S V T qs j n x.e0 → Keeps (cellOf S j) n x.e0 q → Keeps (cellOf S j) n x.e0 q') : Inv S N (K + 1) V (qs.set w q') F T := by
  have hl := hI.loc w q hq
  have h1 := hI.frk
  have h2 := hI.tpk
  refine hI.step hq hI.fr ⟨h1.1, Int.le_trans h1.2 (by omega)⟩ hI.tp ⟨h2.1, Int.le_trans h2.2 (by omega)⟩ (.inl rfl) hI.lf hI.lt (fun n => by rw [h_own]) hI.bi ⟨by rw [he]; exact hl.rv, by rw [he]; exact hl.e0, by rw [he]; exact hl.e1, h_loc⟩ (fun j x _ hx => hI.loc j x hx) h_pro (fun j x n hj hx hlx hP => ⟨rfl, fun h => .inl h, h_keep j x n hj hx hlx hP⟩)
/-- A step that writes into a node of the program's own. -/
theorem Inv.write (hI : Inv S N K V qs F T) (hN : N ≤ 100) (hq : qs[w]? = some q) {n i v : Int} (hn : n ∈ own q) (hb : i = 6 → v ≤ V.er) (h_own : own q' = own q) (he : q'.e0 = q.e0) (h_loc : LocPc S N (V.setNd n i v) q'.e0 q'.pc) (h_pro : ∀ u a, q'.pc ≠ .g2 u a ∧ q'.pc ≠ .d1 u)
    (h_keep : ∀ cw n e, Keeps cw n e q → Keeps cw n e q') (h_b6 : i = 6 → ∀ cw e, ¬ Keeps cw n e q) : Inv S N (K + 1) (V.setNd n i v) (qs.set w q') F T := by
  have hl := hI.loc w q hq
  have h1 := hI.frk
  have h2 := hI.tpk
  obtain ⟨nF, nT, n1, nO⟩ := hI.ownNot hq hn
  have hnb := hI.inOwn hq hn
  have hF : n ≠ (ofW V.fr).idx := fun e => by
    rw [hI.fIdx hN] at e
    cases F with
    | nil => simp at e; omega
    | cons x F => simp at e; exact nF (by simp [e])
  have hT : n ≠ (ofW V.tp).idx := fun e => by
    rw [hI.tIdx hN] at e
    cases T with
    | nil => simp at e; omega
    | cons x T => simp at e; exact nT (by simp [e])
  have hnd : ∀ x j, x ≠ n → (V.setNd n i v).nd x j = V.nd x j := fun x j hx => by simp only [Vw.setNd]; rw [if_neg (fun hh => hx hh.1)]
  refine hI.step hq hI.fr ⟨h1.1, Int.le_trans h1.2 (by omega)⟩ hI.tp ⟨h2.1, Int.le_trans h2.2 (by omega)⟩ (.inl rfl) (hI.lf.same fun x hx => hnd x 7 (fun e => nF (e ▸ hx))) (hI.lt.same fun x hx => hnd x 0 (fun e => nT (e ▸ hx))) (fun n => by rw [h_own]) (fun x x1 x2 => ?_) ⟨by rw [he]; exact hl.rv, by rw [he]; exact hl.e0, by rw [he]; exact hl.e1, h_loc⟩ (fun j x hj hx => (hI.loc j x hx).setNd hF hT (nO j x hj hx)) ?_ (fun j x n' hj hx hlx hP => ⟨?_, fun h => .inl h, h_keep _ _ _⟩)
  · simp only [Vw.setNd]
    split
    · rename_i hh; exact hb hh.2.symm
    · exact hI.bi x x1 x2
  · cases hpc : q'.pc <;> simp only [Pro, hpc]
    case g2 u a => exact absurd hpc (h_pro u a).1
    case d1 u => exact absurd hpc (h_pro u 0).2
  · by_cases hnn : n' = n
    · subst hnn
      simp only [Vw.setNd]
      split
      · rename_i hh
        exfalso
        rcases hP.at_ with h | ⟨k, y, hy, hk⟩
        · exact nT h
        · by_cases hkw : k = w
          · subst hkw
            rw [hq] at hy
            cases hy
            exact h_b6 hh.2.symm _ _ hk
          · exact nO k y hkw hy (keeps_own hk)
      · rfl
    · exact hnd n' 6 hnn
end
end Go.Proofs.Ytpecgpmdchejdaa
