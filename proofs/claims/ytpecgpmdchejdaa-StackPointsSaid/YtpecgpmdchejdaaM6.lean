/- What holds of a stack's memory and programs goes on from step to step: all accesses; and the ends of operations. -/
import Derived.Test.YtpecgpmdchejdaaM5
namespace Go.Proofs.Ytpecgpmdchejdaa
set_option maxRecDepth 100000

section
variable {l : LayT} {S N K : Nat} {V : Vw} {qs : List Q} {F T : List Int} {w : Nat} {made : Nat} {gone : List (Int × Int)} {e0 : Int}
theorem inv_rv (hI : Inv S N K V qs F T) {q q' : Q} (hq : qs[w]? = some q) {x : Int} (hx : 0 ≤ x ∧ x ≤ V.er) (he : q'.e0 = x) (h_own : own q' = own q) (h_loc : LocPc S N (V.setRv w x) x q'.pc) (h_pro : ∀ u a, q'.pc ≠ .g2 u a ∧ q'.pc ≠ .d1 u) (h_keep : ∀ cw n e, Keeps cw n e q → Keeps cw n e q') : Inv S N (K + 1) (V.setRv w x) (qs.set w q') F T := by
  have h1 := hI.frk
  have h2 := hI.tpk
  refine hI.step hq hI.fr ⟨h1.1, Int.le_trans h1.2 (by omega)⟩ hI.tp ⟨h2.1, Int.le_trans h2.2 (by omega)⟩ (.inl rfl) hI.lf hI.lt (fun n => by rw [h_own]) hI.bi ⟨?_, by rw [he]; exact hx.1, by rw [he]; exact hx.2, by rw [he]; exact h_loc⟩ (fun j x hj hx' => (hI.loc j x hx').setRv hj) ?_ (fun j x n _ _ _ _ => ⟨rfl, fun h => .inl h, h_keep _ _ _⟩)
  · simp only [Vw.setRv]
    rw [if_pos trivial, he]
  · cases hpc : q'.pc <;> simp only [Pro, hpc]
    case g2 u a => exact absurd hpc (h_pro u a).1
    case d1 u => exact absurd hpc (h_pro u 0).2
theorem inv_r2 (hI : Inv S N K V qs F T) {n v a er : Int} (hq : qs[w]? = some ⟨.r2 n v a er, made, gone, e0⟩) {q' : Q} (h_own : own q' = (gone ++ [(n, er)]).map (·.1)) (he : q'.e0 = e0) (h_loc : LocPc S N { V with er := V.er + 1 } e0 q'.pc) (h_pro : ∀ u a, q'.pc ≠ .g2 u a ∧ q'.pc ≠ .d1 u)
    (h_keep : ∀ (j : Nat) (n' e : Int), j < S → InG (gone ++ [(n, er)]) n' e → Keeps (cellOf S j) n' e q') : Inv S N (K + 1) { V with er := V.er + 1 } (qs.set w q') F T := by
  have hl := hI.loc w _ hq
  have h1 := hI.frk
  have h2 := hI.tpk
  have h3 := hl.e0
  have h4 := hl.e1
  refine hI.step hq hI.fr ⟨h1.1, Int.le_trans h1.2 (by omega)⟩ hI.tp ⟨h2.1, Int.le_trans h2.2 (by omega)⟩ (.inr rfl) hI.lf hI.lt (fun m => ?_) (fun m m1 m2 => ?_) ⟨by rw [he]; exact hl.rv, by rw [he]; exact h3, by rw [he]; simp only at h4 ⊢; omega, by rw [he]; exact h_loc⟩ (fun j x hj hx' => (hI.loc j x hx').setEr) ?_ (fun j x m _ hx' _ _ => ⟨rfl, fun h => .inl h, fun h => ?_⟩)
  · rw [h_own]
    simp only [own, List.map_append, List.count_append, List.map_cons, List.map_nil, List.count_cons, List.count_nil]
    omega
  · have := hI.bi m m1 m2
    simp only
    omega
  · cases hpc : q'.pc <;> simp only [Pro, hpc]
    case g2 u a => exact absurd hpc (h_pro u a).1
    case d1 u => exact absurd hpc (h_pro u 0).2
  · have hj : j < S := by have := (List.getElem?_eq_some_iff.1 hx').1; have := hI.n; omega
    refine h_keep j m x.e0 hj ?_
    rcases h with ⟨rfl, h⟩ | h
    · exact ⟨er, h, by simp⟩
    · exact h.app _
theorem not_pro_sift (v a : Int) (held : List Int) (made : Nat) (e0 : Int) (gone gs stay : List (Int × Int)) : ∀ u b, (siftQ v a held made e0 gone gs stay).pc ≠ .g2 u b ∧ (siftQ v a held made e0 gone gs stay).pc ≠ .d1 u := by
  intro u b
  cases gs <;> simp [siftQ]
theorem not_pro_scan (v a : Int) (held : List Int) (made : Nat) (e0 : Int) (gone : List (Int × Int)) (cs : List Int) : ∀ u b, (scanQ v a made e0 gone held cs).pc ≠ .g2 u b ∧ (scanQ v a made e0 gone held cs).pc ≠ .d1 u := by
  intro u b
  cases cs with
  | nil => exact not_pro_sift _ _ _ _ _ _ _ _ u b
  | cons c cs => simp [scanQ]
theorem rvAt_cell {S : Nat} {V : Vw} (j : Nat) : rvAt S V (cellOf S j) = V.rv j := by
  unfold rvAt cellOf
  rw [if_pos (by omega), show (4 + 2 * (S : Int) + 3 * (j : Int) - (4 + 2 * (S : Int))) / 3 = j by omega]
theorem any_in {held : List Int} {e lo hi : Int} (he : e ∈ held) (h1 : lo ≤ e) (h2 : e ≤ hi) : held.any (inB lo hi) = true := by
  rw [List.any_eq_true]
  exact ⟨e, he, by simp [inB, h1, h2]⟩
theorem inv_act (hL : Lay l S N) (hN : N ≤ 100) (hK : K ≤ 100000) (hI : Inv S N K V qs F T) {q : Q} (hq : qs[w]? = some q) (hf : ∀ o, q.pc ≠ .fin o) (v0 : Int) : Inv S N (K + 1) (actV S w v0 V q.pc).1 (qs.set w (tell l q (actV S w v0 V q.pc).2)) (nxF V F q.pc) (nxT V T q.pc) := by
  have hl := hI.loc w _ hq
  have her := hI.er
  have hseats : l.seats.toNat = S := by have := hL.seats; omega
  obtain ⟨pc, made, gone, e0⟩ := q
  have hrv := hl.rv
  have he0 := hl.e0
  have he1 := hl.e1
  simp only at hrv he0 he1
  cases pc with
  | t1 =>
    have k1 := hl.pc
    show Inv S N (K + 1) V (qs.set w (if (ofW V.fr).idx = 0 then _ else _)) F T
    by_cases hc : (ofW V.fr).idx = 0
    · rw [if_pos hc]
      exact hI.quiet hq rfl k1 rfl trivial (fun j x n _ _ _ _ h => h)
    · rw [if_neg hc]
      have h0 := (ofW_idx V.fr).1
      exact hI.quiet hq rfl ⟨k1, hI.seenF hN, by show 1 ≤ (ofW V.fr).idx; omega⟩ rfl trivial (fun j x n _ _ _ _ h => h)
  | t2 f =>
    obtain ⟨k1, k2, k3⟩ := hl.pc
    exact hI.quiet hq rfl ⟨k1, k2, k3, fun _ => rfl⟩ rfl trivial (fun j x n _ _ _ _ h => h)
  | t3 f lk =>
    obtain ⟨k1, k2, k3, k4⟩ := hl.pc
    by_cases hc : V.fr = f
    · have := inv_t3 hN hK hI hq hc
      simpa only [actV, tell, nxF, nxT, hc, if_true] using this
    · have := hI.quiet (q' := ⟨.t1, made + 1, gone, e0⟩) hq rfl k1 rfl trivial (fun j x n _ _ _ _ h => h)
      simpa only [actV, tell, nxF, nxT, hc, if_false, Bool.false_eq_true] using this
  | t4 n =>
    exact hI.quiet hq rfl ⟨hl.pc, Int.le_refl _⟩ rfl trivial (fun j x n _ _ _ _ h => h)
  | t5 n b =>
    obtain ⟨k1, k2⟩ := hl.pc
    refine hI.write hN hq (by simp [own]) (fun _ => k2) rfl rfl k1 (by intros; simp [tell]) (fun cw n e h => h) (fun _ cw e h => ?_)
    have h1 := (hI.ownNot hq (n := n) (by simp [own])).2.2.1
    have h2 : n ∈ gone.map (·.1) := InG.mem h
    have h3 := List.count_pos_iff.2 h2
    simp only [own, List.count_cons_self] at h1
    omega
  | p0 n =>
    exact hI.write hN hq (by simp [own]) (fun h => by omega) rfl rfl hl.pc (by intros; simp [tell]) (fun cw n e h => h) (fun h => by omega)
  | p1 n =>
    exact hI.quiet hq rfl ⟨hl.pc, hI.seenT hN⟩ rfl trivial (fun j x n _ _ _ _ h => h)
  | p2 n u =>
    obtain ⟨k1, k2⟩ := hl.pc
    refine hI.write hN hq (by simp [own]) (fun h => by omega) rfl rfl ⟨k1, k2, ?_⟩ (by intros; simp [tell]) (fun cw n e h => h) (fun h => by omega)
    simp [Vw.setNd]
  | p3 n u =>
    obtain ⟨k1, k2, k3⟩ := hl.pc
    by_cases hc : V.tp = u
    · have := inv_p3 hN hK hI hq hc ⟨0, true, 0, made, []⟩
      simpa only [actV, tell, nxF, nxT, hc, if_true] using this
    · have := hI.quiet (q' := ⟨.p1 n, made + 1, gone, e0⟩) hq rfl k1 rfl trivial (fun j x n _ _ _ _ h => h)
      simpa only [actV, tell, nxF, nxT, hc, if_false, Bool.false_eq_true] using this
  | g1 =>
    refine hI.quiet hq rfl (hI.seenT hN) rfl (fun h1 h2 => ?_) (fun j x n _ _ _ _ h => h)
    have hi := hI.tIdx hN
    have h0 := (ofW_idx V.tp).1
    have h1 : (ofW V.tp).idx ≠ 0 := h1
    have h2 : V.er = e0 := h2
    show Prot S V T _ w (ofW V.tp).idx e0
    rw [hi] at h1 h0 ⊢
    obtain ⟨T', hT⟩ := head_cons (L := T) (by omega)
    have hm : T.headD 0 ∈ T := by
      generalize T.headD 0 = y at hT
      rw [hT]
      exact List.mem_cons_self
    have hb := hI.inT hm
    have hbi := hI.bi _ hb.1 hb.2
    refine ⟨?_, .inl hm⟩
    unfold max1
    split <;> omega
  | g2 u a =>
    have k1 : Seen N u V.tp := hl.pc
    simp only [actV, tell, nxF, nxT]
    by_cases he : V.er = e0
    · rw [if_pos he]
      by_cases hne : (ofW u).idx = 0
      · rw [if_pos hne, if_neg (by omega)]
        exact hI.quiet hq rfl (by show 1 ≤ e0; omega) rfl trivial (fun j x n _ _ _ _ h => h)
      · rw [if_neg hne]
        have h0 := (ofW_idx u).1
        have hp := hI.pro w _ hq
        have hp' := hp hne he
        exact hI.quiet hq rfl ⟨k1, by omega, by show 1 ≤ e0; omega⟩ rfl (prot_move hq hp' rfl (fun h => .inl h) (fun h => h)) (fun j x n _ _ _ _ h => h)
    · rw [if_neg he]
      exact hI.quiet hq rfl ⟨by omega, Int.le_refl _⟩ rfl trivial (fun j x n _ _ _ _ h => h)
  | g3 er =>
    obtain ⟨k1, k2⟩ := hl.pc
    exact inv_rv hI hq ⟨by omega, k2⟩ rfl rfl trivial (by intros; simp [tell]) (fun cw n e h => h)
  | ce a =>
    exact inv_rv hI hq ⟨by omega, by omega⟩ rfl rfl rfl (by intros; simp [tell]) (fun cw n e h => h)
  | d1 u =>
    obtain ⟨k1, k2, k3⟩ := hl.pc
    exact hI.quiet hq rfl ⟨k1, k2, k3, fun _ => rfl⟩ rfl trivial (fun j x n _ _ _ _ h => h)
  | d2 u be =>
    obtain ⟨k1, k2, k3, k4⟩ := hl.pc
    by_cases hc : V.tp = u
    · have := inv_d2 hN hK hI hq hc
      simpa only [actV, tell, nxF, nxT, hc, if_true] using this
    · have := hI.quiet (q' := ⟨.g1, made + 1, gone, e0⟩) hq rfl trivial rfl trivial (fun j x n _ _ _ _ h => h)
      simpa only [actV, tell, nxF, nxT, hc, if_false, Bool.false_eq_true] using this
  | d3 n a =>
    have k1 : 1 ≤ e0 := hl.pc
    simp only [actV, tell, nxF, nxT]
    rw [if_neg (by omega)]
    exact hI.quiet hq rfl k1 rfl trivial (fun j x n _ _ _ _ h => h)
  | c n v a =>
    exact inv_rv hI hq ⟨by omega, by omega⟩ rfl rfl rfl (by intros; simp [tell]) (fun cw n e h => h)
  | r1 n v a =>
    refine hI.quiet hq rfl ⟨hl.pc, Int.le_refl _⟩ rfl trivial (fun j x m _ _ hx _ h => ?_)
    rcases h with h | h
    · exact .inl ⟨h, hx.e1⟩
    · exact .inr h
  | r2 n v a er =>
    obtain ⟨k1, k2⟩ := hl.pc
    simp only at k1
    subst k1
    simp only [actV, tell, nxF, nxT]
    by_cases hs : ((gone.length : Int) + 1) < 2 * l.seats
    · rw [if_pos hs]
      exact inv_r2 hI hq rfl rfl rfl (by intros; simp) (fun j n' e _ h => h)
    · have hr := resvs_ok hL S 0 (by omega)
      rw [if_neg hs, hseats]
      exact inv_r2 hI hq (own_scan ..) (e0_scan ..) (loc_scan _ _ _ _ _ _ ⟨by rw [resvs_len]; exact Nat.le_refl _, hr.1⟩) (fun u b => not_pro_scan _ _ _ _ _ _ _ u b) (fun j n' e hj h => keeps_scan h (.inr (hr.2 j (by omega) (by omega))))
  | rs v a held c cs =>
    obtain ⟨k1, k2⟩ := hl.pc
    simp only at k1
    subst k1
    refine hI.quiet hq (own_scan ..) (by rw [show (tell l ⟨.rs v a held c cs, made, gone, 0⟩ _).e0 = 0 from e0_scan ..]; exact loc_scan _ _ _ _ _ _ ⟨by have := k2.1; simp at this; omega, fun x hx => k2.2 x (by simp [hx])⟩) (e0_scan ..) (pro_scan ..) (fun j x m _ hj hx _ h => ?_)
    refine keeps_scan h.1 ?_
    rcases h.2 with h2 | h2
    · exact .inl (by simp [h2])
    · rw [List.mem_cons] at h2
      rcases h2 with h2 | h2
      · left
        subst h2
        simp only [actV, rvAt_cell, hx.rv]
        simp
      · exact .inr h2
  | s1 v a held g gs stay =>
    have k1 : e0 = 0 := hl.pc
    subst k1
    show Inv S N (K + 1) V (qs.set w (if held.any (inB (max1 (V.nd g.1 6)) g.2) = true then _ else _)) F T
    by_cases hno : held.any (inB (max1 (V.nd g.1 6)) g.2) = true
    · rw [if_pos hno]
      refine hI.step hq hI.fr ⟨hI.frk.1, Int.le_trans hI.frk.2 (by omega)⟩ hI.tp ⟨hI.tpk.1, Int.le_trans hI.tpk.2 (by omega)⟩ (.inl rfl) hI.lf hI.lt (fun n => ?_) hI.bi ⟨by rw [e0_sift]; exact hl.rv, by rw [e0_sift]; exact hl.e0, by rw [e0_sift]; exact hl.e1, by rw [e0_sift]; exact loc_sift ..⟩ (fun j x _ hx => hI.loc j x hx) (pro_sift ..) (fun j x n _ _ _ _ => ⟨rfl, fun h => .inl h, fun h => keeps_sift (h.1.perm fun y hy => ?_) h.2⟩)
      · rw [own_sift]
        simp only [own, List.map_append, List.count_append, List.map_cons, List.map_nil, List.count_cons, List.count_nil]
        omega
      · simp only [List.mem_cons, List.mem_append] at hy ⊢
        rcases hy with rfl | hy | hy
        · exact .inr (.inr (.inl rfl))
        · exact .inl hy
        · exact .inr (.inl hy)
    · rw [if_neg hno]
      refine hI.quiet hq rfl rfl rfl trivial (fun j x m _ _ hx hP h => ⟨?_, h.2⟩)
      obtain ⟨⟨er, h1, h2⟩, h3⟩ := h
      rw [List.mem_cons] at h2
      rcases h2 with h2 | h2
      · exfalso
        apply hno
        subst h2
        exact any_in h3 hP.birth h1
      · exact ⟨er, h1, h2⟩
  | v1 v a held g gs stay =>
    exact hI.quiet hq rfl ⟨hl.pc, hI.seenF hN⟩ rfl trivial (fun j x n _ _ _ _ h => h)
  | v2 v a held g gs stay f =>
    obtain ⟨k1, k2⟩ := hl.pc
    refine hI.write hN hq (n := g.1) (by simp [own]) (fun h => by omega) rfl rfl ⟨k1, k2, ?_⟩ (by intros; simp [tell]) (fun cw n e h => h) (fun h => by omega)
    simp [Vw.setNd]
  | v3 v a held g gs stay f =>
    obtain ⟨k1, k2, k3⟩ := hl.pc
    by_cases hc : V.fr = f
    · have := inv_v3 hN hK hI hq hc
      simpa only [actV, tell, nxF, nxT, hc, if_true] using this
    · have := hI.quiet (q' := ⟨.v1 v a held g gs stay, made + 1, gone, e0⟩) hq rfl k1 rfl trivial (fun j x n _ _ _ _ h => h)
      simpa only [actV, tell, nxF, nxT, hc, if_false, Bool.false_eq_true] using this
  | fin o => exact absurd rfl (hf o)
/-- An operation is over, and another one begins, or none. -/
theorem inv_done (hI : Inv S N K V qs F T) {o : OutT} (hq : qs[w]? = some ⟨.fin o, made, gone, e0⟩) {pc' : Pc} (hp : pc' = .t1 ∨ pc' = .g1 ∨ ∃ o', pc' = .fin o') : Inv S N (K + 1) V (qs.set w ⟨pc', 0, gone, 0⟩) F T := by
  have hl := hI.loc w _ hq
  have k1 : e0 = 0 := hl.pc
  subst k1
  rcases hp with rfl | rfl | ⟨o', rfl⟩
  · exact hI.quiet hq rfl rfl rfl trivial (fun j x n _ _ _ _ h => h)
  · exact hI.quiet hq rfl trivial rfl trivial (fun j x n _ _ _ _ h => h)
  · exact hI.quiet hq rfl rfl rfl trivial (fun j x n _ _ _ _ h => h)
/-- What is named is there. -/
theorem inv_okPc (hI : Inv S N K V qs F T) {q : Q} (hq : qs[w]? = some q) (hf : ∀ o, q.pc ≠ .fin o) : OkPc S N q.pc := by
  have hl := hI.loc w _ hq
  obtain ⟨pc, made, gone, e0⟩ := q
  have hp := hl.pc
  cases pc <;> simp only [OkPc] <;> simp only [LocPc] at hp
  case t2 f => exact ⟨hp.2.2, hp.2.1.le⟩
  case t5 n b => exact hI.inOwn hq (by simp [own])
  case p0 n => exact hI.inOwn hq (by simp [own])
  case p2 n u => exact hI.inOwn hq (by simp [own])
  case d1 u => exact ⟨hp.2.1, hp.1.le⟩
  case d3 n a => exact hI.inOwn hq (by simp [own])
  case rs v a held c cs => exact hp.2.2 c (by simp)
  case s1 v a held g gs stay => exact hI.inOwn hq (by simp [own])
  case v2 v a held g gs stay f => exact hI.inOwn hq (by simp [own])
  case fin o => exact absurd rfl (hf o)
end
end Go.Proofs.Ytpecgpmdchejdaa
