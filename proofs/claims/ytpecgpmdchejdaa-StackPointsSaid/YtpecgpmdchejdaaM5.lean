/- What holds of a stack's memory and programs goes on from step to step. -/
import Derived.Test.YtpecgpmdchejdaaM4
namespace Go.Proofs.Ytpecgpmdchejdaa
set_option maxRecDepth 100000

/-- The free nodes behind an access. -/
def nxF (V : Vw) (F : List Int) : Pc → List Int
  | .t3 f _ => if V.fr = f then F.tail else F
  | .v3 _ _ _ g _ _ f => if V.fr = f then g.1 :: F else F
  | _ => F
/-- The stack's nodes behind an access. -/
def nxT (V : Vw) (T : List Int) : Pc → List Int
  | .p3 n u => if V.tp = u then n :: T else T
  | .d2 u _ => if V.tp = u then T.tail else T
  | _ => T
theorem own_sift (v a : Int) (held : List Int) (made : Nat) (e0 : Int) (gone gs stay : List (Int × Int)) : own (siftQ v a held made e0 gone gs stay) = (gs ++ stay).map (·.1) := by
  cases gs <;> rfl
theorem own_scan (v a : Int) (held : List Int) (made : Nat) (e0 : Int) (gone : List (Int × Int)) (cs : List Int) : own (scanQ v a made e0 gone held cs) = gone.map (·.1) := by
  cases cs with
  | nil => unfold scanQ; rw [own_sift]; simp
  | cons c cs => rfl
theorem e0_sift (v a : Int) (held : List Int) (made : Nat) (e0 : Int) (gone gs stay : List (Int × Int)) : (siftQ v a held made e0 gone gs stay).e0 = e0 := by cases gs <;> rfl
theorem e0_scan (v a : Int) (held : List Int) (made : Nat) (e0 : Int) (gone : List (Int × Int)) (cs : List Int) : (scanQ v a made e0 gone held cs).e0 = e0 := by
  cases cs with
  | nil => unfold scanQ; exact e0_sift ..
  | cons c cs => rfl
theorem loc_sift {S N : Nat} {V : Vw} (v a : Int) (held : List Int) (made : Nat) (gone gs stay : List (Int × Int)) : LocPc S N V 0 (siftQ v a held made 0 gone gs stay).pc := by cases gs <;> rfl
theorem loc_scan {S N : Nat} {V : Vw} (v a : Int) (held : List Int) (made : Nat) (gone : List (Int × Int)) (cs : List Int) (hc : CellsOk S cs) : LocPc S N V 0 (scanQ v a made 0 gone held cs).pc := by
  cases cs with
  | nil => unfold scanQ; exact loc_sift ..
  | cons c cs => exact ⟨rfl, hc⟩
theorem pro_sift {S : Nat} {V : Vw} {T : List Int} {qs : List Q} {w : Nat} (v a : Int) (held : List Int) (made : Nat) (e0 : Int) (gone gs stay : List (Int × Int)) : Pro S V T qs w (siftQ v a held made e0 gone gs stay) := by cases gs <;> trivial
theorem pro_scan {S : Nat} {V : Vw} {T : List Int} {qs : List Q} {w : Nat} (v a : Int) (held : List Int) (made : Nat) (e0 : Int) (gone : List (Int × Int)) (cs : List Int) : Pro S V T qs w (scanQ v a made e0 gone held cs) := by
  cases cs with
  | nil => unfold scanQ; exact pro_sift ..
  | cons c cs => trivial
theorem keeps_sift {cw n e : Int} {v a : Int} {held : List Int} {made : Nat} {e0 : Int} {gone gs stay : List (Int × Int)} (h : InG (gs ++ stay) n e) (hh : e ∈ held) : Keeps cw n e (siftQ v a held made e0 gone gs stay) := by
  cases gs with
  | nil => exact h
  | cons g gs => exact ⟨h, hh⟩
theorem keeps_scan {cw n e : Int} {v a : Int} {held : List Int} {made : Nat} {e0 : Int} {gone : List (Int × Int)} {cs : List Int} (h : InG gone n e) (hh : e ∈ held ∨ cw ∈ cs) : Keeps cw n e (scanQ v a made e0 gone held cs) := by
  cases cs with
  | nil =>
    rcases hh with hh | hh
    · unfold scanQ; exact keeps_sift (by simpa using h) hh
    · simp at hh
  | cons c cs => exact ⟨h, hh⟩
theorem InG.app {L : List (Int × Int)} {n e : Int} (h : InG L n e) (M : List (Int × Int)) : InG (L ++ M) n e := by
  obtain ⟨er, h1, h2⟩ := h
  exact ⟨er, h1, by simp [h2]⟩
theorem InG.perm {L M : List (Int × Int)} {n e : Int} (h : InG L n e) (hs : ∀ x ∈ L, x ∈ M) : InG M n e := by
  obtain ⟨er, h1, h2⟩ := h
  exact ⟨er, h1, hs _ h2⟩
theorem resvs_len (l : LayT) : ∀ (m j : Nat), (resvsF l j m).length = 3 * m
  | 0, j => rfl
  | m + 1, j => by simp only [resvsF, List.length_cons, resvs_len l m (j + 1)]; omega
theorem resvs_ok {l : LayT} {S N : Nat} (hL : Lay l S N) : ∀ (m j : Nat), j + m ≤ S → (∀ c ∈ resvsF l j m, ∃ w i : Int, 0 ≤ w ∧ w < S ∧ 0 ≤ i ∧ i ≤ 2 ∧ c = 4 + 2 * (S : Int) + 3 * w + i) ∧ ∀ w : Nat, j ≤ w → w < j + m → cellOf S w ∈ resvsF l j m
  | 0, j, h => ⟨fun c hc => by simp [resvsF] at hc, fun w h1 h2 => by omega⟩
  | m + 1, j, h => by
    obtain ⟨h1, h2⟩ := resvs_ok hL m (j + 1) (by omega)
    have r0 := hL.resv j 0 (by omega) (by omega) (by omega) (by omega)
    have r1 := hL.resv j 1 (by omega) (by omega) (by omega) (by omega)
    have r2 := hL.resv j 2 (by omega) (by omega) (by omega) (by omega)
    refine ⟨fun c hc => ?_, fun w w1 w2 => ?_⟩
    · simp only [resvsF, List.mem_cons] at hc
      rcases hc with rfl | rfl | rfl | hc
      · exact ⟨j, 0, by omega, by omega, by omega, by omega, r0⟩
      · exact ⟨j, 1, by omega, by omega, by omega, by omega, r1⟩
      · exact ⟨j, 2, by omega, by omega, by omega, by omega, r2⟩
      · exact h1 c hc
    · simp only [resvsF, List.mem_cons]
      by_cases hw : w = j
      · subst hw
        exact .inl (by rw [r0, cellOf]; omega)
      · exact .inr (.inr (.inr (h2 w (by omega) (by omega))))
section
variable {l : LayT} {S N K : Nat} {V : Vw} {qs : List Q} {F T : List Int} {w : Nat} {made : Nat} {gone : List (Int × Int)} {e0 : Int}

theorem head_cons {L : List Int} (h : 1 ≤ L.headD 0) : ∃ L', L = L.headD 0 :: L' := by
  cases L with
  | nil => simp at h
  | cons x L => exact ⟨L, rfl⟩
theorem inv_t3 (hN : N ≤ 100) (hK : K ≤ 100000) (hI : Inv S N K V qs F T) {f lk : Int} (hq : qs[w]? = some ⟨.t3 f lk, made, gone, e0⟩) (he : V.fr = f) : Inv S N (K + 1) { V with fr := packW (turnW (ofW f) lk) } (qs.set w ⟨.t4 (ofW f).idx, made + 1, gone, e0⟩) F.tail T := by
  have hl := hI.loc w _ hq
  obtain ⟨k1, k2, k3, k4⟩ := hl.pc
  have hi := hI.fIdx hN
  have h1 := hI.frk
  have h2 := hI.tpk
  have h3 := hI.headF
  have h4 := hI.fr
  have k4' := k4 he
  subst he
  rw [hi] at k3 k4' ⊢
  obtain ⟨F', hF⟩ := head_cons k3
  have hlf := hI.lf
  rw [hF] at hlf
  obtain ⟨m1, m2⟩ := hlf
  have hlk : lk = F'.headD 0 := k4'.trans m1
  have hF0 : 0 ≤ F'.headD 0 ∧ F'.headD 0 ≤ (N : Int) := by
    cases F' with
    | nil => simp
    | cons y F' => have := hI.inF (n := y) (by rw [hF]; simp); simp; omega
  have hp := pack_turn h4 h1.1 (by omega) (by omega) (j := lk) (by omega)
  have hx : packW (turnW (ofW V.fr) lk) / 131072 = V.fr / 131072 + 1 := by omega
  have ht : F.tail = F' := by rw [hF]; rfl
  rw [ht]
  refine hI.step hq (by show packW _ = _; rw [hx, hp, hlk]) (by show _ ∧ _; rw [hx]; omega) hI.tp ⟨h2.1, Int.le_trans h2.2 (by omega)⟩ (.inl rfl) m2 hI.lt (fun n => ?_) hI.bi ⟨hl.rv, hl.e0, hl.e1, k1⟩ (fun j x _ hx' => (hI.loc j x hx').setFr hx) trivial (fun j x n _ _ _ _ => ⟨rfl, fun h => .inl h, fun h => h⟩)
  simp only [own]
  conv => rhs; rw [hF]
  simp only [List.count_cons]
  omega
theorem inv_v3 (hN : N ≤ 100) (hK : K ≤ 100000) (hI : Inv S N K V qs F T) {v a f : Int} {held : List Int} {g : Int × Int} {gs stay : List (Int × Int)} (hq : qs[w]? = some ⟨.v3 v a held g gs stay f, made, gone, e0⟩) (he : V.fr = f) : Inv S N (K + 1) { V with fr := packW (turnW (ofW f) g.1) } (qs.set w (siftQ v a held (made + 1) e0 gone gs stay)) (g.1 :: F) T := by
  have hl := hI.loc w _ hq
  obtain ⟨k1, k2, k3⟩ := hl.pc
  simp only at k1
  have hi := hI.fIdx hN
  have h1 := hI.frk
  have h2 := hI.tpk
  have h3 := hI.headF
  have h4 := hI.fr
  subst he
  subst k1
  have hg := hI.inOwn hq (n := g.1) (by simp [own])
  have hp := pack_turn h4 h1.1 (by omega) (by omega) (j := g.1) (by omega)
  have hx : packW (turnW (ofW V.fr) g.1) / 131072 = V.fr / 131072 + 1 := by omega
  refine hI.step hq (by show packW _ = _; rw [hx, hp]; rfl) (by show _ ∧ _; rw [hx]; omega) hI.tp ⟨h2.1, Int.le_trans h2.2 (by omega)⟩ (.inl rfl) ⟨by rw [k3, hi], hI.lf⟩ hI.lt (fun n => ?_) hI.bi ⟨by rw [e0_sift]; exact hl.rv, by rw [e0_sift]; exact hl.e0, by rw [e0_sift]; exact hl.e1, by rw [e0_sift]; exact loc_sift ..⟩ (fun j x _ hx' => (hI.loc j x hx').setFr hx) (pro_sift ..) (fun j x n _ _ _ _ => ⟨rfl, fun h => .inl h, fun h => keeps_sift h.1 h.2⟩)
  rw [own_sift]
  simp only [own, List.map_cons, List.count_cons]
  omega
theorem inv_p3 (hN : N ≤ 100) (hK : K ≤ 100000) (hI : Inv S N K V qs F T) {n u : Int} (hq : qs[w]? = some ⟨.p3 n u, made, gone, e0⟩) (he : V.tp = u) (o : OutT) : Inv S N (K + 1) { V with tp := packW (turnW (ofW u) n) } (qs.set w ⟨.fin o, made + 1, gone, e0⟩) F (n :: T) := by
  have hl := hI.loc w _ hq
  obtain ⟨k1, k2, k3⟩ := hl.pc
  have hi := hI.tIdx hN
  have h1 := hI.frk
  have h2 := hI.tpk
  have h3 := hI.headT
  have h4 := hI.tp
  subst he
  have hg := hI.inOwn hq (n := n) (by simp [own])
  have hp := pack_turn h4 h2.1 (by omega) (by omega) (j := n) (by omega)
  have hx : packW (turnW (ofW V.tp) n) / 131072 = V.tp / 131072 + 1 := by omega
  refine hI.step hq hI.fr ⟨h1.1, Int.le_trans h1.2 (by omega)⟩ (by show packW _ = _; rw [hx, hp]; rfl) (by show _ ∧ _; rw [hx]; omega) (.inl rfl) hI.lf ⟨by rw [k3, hi], hI.lt⟩ (fun n => ?_) hI.bi ⟨hl.rv, hl.e0, hl.e1, k1⟩ (fun j x _ hx' => (hI.loc j x hx').setTp hx) trivial (fun j x n' _ _ _ _ => ⟨rfl, fun h => .inl (List.mem_cons_of_mem _ h), fun h => h⟩)
  simp only [own, List.count_cons]
  omega
theorem inv_d2 (hN : N ≤ 100) (hK : K ≤ 100000) (hI : Inv S N K V qs F T) {u be : Int} (hq : qs[w]? = some ⟨.d2 u be, made, gone, e0⟩) (he : V.tp = u) : Inv S N (K + 1) { V with tp := packW (turnW (ofW u) be) } (qs.set w ⟨.d3 (ofW u).idx made, made + 1, gone, e0⟩) F T.tail := by
  have hl := hI.loc w _ hq
  obtain ⟨k2, k3, k1, k4⟩ := hl.pc
  have hi := hI.tIdx hN
  have h1 := hI.frk
  have h2 := hI.tpk
  have h3 := hI.headT
  have h4 := hI.tp
  have k4' := k4 he
  subst he
  rw [hi] at k3 k4' ⊢
  obtain ⟨T', hT⟩ := head_cons k3
  have hlt := hI.lt
  rw [hT] at hlt
  obtain ⟨m1, m2⟩ := hlt
  have hlk : be = T'.headD 0 := k4'.trans m1
  have hT0 : 0 ≤ T'.headD 0 ∧ T'.headD 0 ≤ (N : Int) := by
    cases T' with
    | nil => simp
    | cons y T' => have := hI.inT (n := y) (by rw [hT]; simp); simp; omega
  have hp := pack_turn h4 h2.1 (by omega) (by omega) (j := be) (by omega)
  have hx : packW (turnW (ofW V.tp) be) / 131072 = V.tp / 131072 + 1 := by omega
  have ht : T.tail = T' := by rw [hT]; rfl
  rw [ht]
  refine hI.step hq hI.fr ⟨h1.1, Int.le_trans h1.2 (by omega)⟩ (by show packW _ = _; rw [hx, hp, hlk]) (by show _ ∧ _; rw [hx]; omega) (.inl rfl) hI.lf m2 (fun n => ?_) hI.bi ⟨hl.rv, hl.e0, hl.e1, k1⟩ (fun j x _ hx' => (hI.loc j x hx').setTp hx) trivial (fun j x n _ _ _ _ => ⟨rfl, fun h => ?_, fun h => .inr h⟩)
  · simp only [own]
    conv => rhs; rw [hT]
    simp only [List.count_cons]
    omega
  · rw [hT, List.mem_cons] at h
    rcases h with h | h
    · exact .inr (.inl h.symm)
    · exact .inl h
end
end Go.Proofs.Ytpecgpmdchejdaa
