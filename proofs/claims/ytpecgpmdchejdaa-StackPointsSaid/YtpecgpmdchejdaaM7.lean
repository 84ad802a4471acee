/- How long a program takes if nobody else moves. -/
import Derived.Test.YtpecgpmdchejdaaM6
import Derived.Test.YtpecgpmdchejdaaE3
namespace Go.Proofs.Ytpecgpmdchejdaa
set_option maxRecDepth 100000

def d3n (S G : Nat) : Nat := 4 + 3 * S + 4 * (G + 1)
def nuPc (S : Nat) (V : Vw) (G : Nat) (e0 : Int) : Pc → Nat
  | .t1 => 9
  | .t2 f => if V.fr = f then 8 else 11
  | .t3 f _ => if V.fr = f then 7 else 10
  | .t4 _ => 6
  | .t5 _ _ => 5
  | .p0 _ => 4
  | .p1 _ => 3
  | .p2 _ u => if V.tp = u then 2 else 5
  | .p3 _ u => if V.tp = u then 1 else 4
  | .g1 => if V.er = e0 then 4 + d3n S G else 7 + d3n S G
  | .g2 u _ => if V.er = e0 then (if V.tp = u then 3 + d3n S G else 7 + d3n S G) else 6 + d3n S G
  | .g3 er => if V.er = er then 5 + d3n S G else 8 + d3n S G
  | .ce _ => 1
  | .d1 u => if V.tp = u then 2 + d3n S G else if V.er = e0 then 6 + d3n S G else 9 + d3n S G
  | .d2 u _ => if V.tp = u then 1 + d3n S G else if V.er = e0 then 5 + d3n S G else 8 + d3n S G
  | .d3 _ _ => d3n S G
  | .c _ _ _ => 3 + 3 * S + 4 * (G + 1)
  | .r1 _ _ _ => 2 + 3 * S + 4 * (G + 1)
  | .r2 _ _ _ _ => 1 + 3 * S + 4 * (G + 1)
  | .rs _ _ _ _ cs => 1 + cs.length + 4 * G
  | .s1 _ _ _ _ gs _ => 4 + 4 * gs.length
  | .v1 _ _ _ _ gs _ => 3 + 4 * gs.length
  | .v2 _ _ _ _ gs _ f => (if V.fr = f then 2 else 5) + 4 * gs.length
  | .v3 _ _ _ _ gs _ f => (if V.fr = f then 1 else 4) + 4 * gs.length
  | .fin _ => 0
def nu (S : Nat) (V : Vw) (q : Q) : Nat := nuPc S V q.gone.length q.e0 q.pc
theorem nu_sift (S : Nat) (V : Vw) (v a : Int) (held : List Int) (made : Nat) (e0 : Int) (gone gs stay : List (Int × Int)) : nu S V (siftQ v a held made e0 gone gs stay) ≤ 4 * gs.length := by
  cases gs with
  | nil => exact Nat.zero_le _
  | cons g gs => simp only [siftQ, nu, nuPc, List.length_cons]; omega
theorem nu_scan (S : Nat) (V : Vw) (v a : Int) (held : List Int) (made : Nat) (e0 : Int) (gone : List (Int × Int)) (cs : List Int) : nu S V (scanQ v a made e0 gone held cs) ≤ cs.length + 4 * gone.length := by
  cases cs with
  | nil => have := nu_sift S V v a held made e0 gone gone []; simpa [scanQ] using this
  | cons c cs => simp only [scanQ, nu, nuPc, List.length_cons]; omega
theorem nu_dec {l : LayT} {S N : Nat} (hL : Lay l S N) {V : Vw} {w : Nat} {q : Q} (hf : ∀ o, q.pc ≠ .fin o) (v0 : Int) : nu S (actV S w v0 V q.pc).1 (tell l q (actV S w v0 V q.pc).2) < nu S V q := by
  have hseats : l.seats.toNat = S := by have := hL.seats; omega
  have hS := hL.s1
  obtain ⟨pc, made, gone, e0⟩ := q
  cases pc with
  | t1 =>
    show nu S V (if (ofW V.fr).idx = 0 then _ else ⟨.t2 V.fr, made + 1, gone, e0⟩) < _
    split
    · simp [nu, nuPc]
    · simp [nu, nuPc]
  | t2 f => by_cases hc : V.fr = f <;> simp [actV, tell, nu, nuPc, hc]
  | t3 f lk => by_cases hc : V.fr = f <;> simp [actV, tell, nu, nuPc, hc]
  | t4 n => simp [actV, tell, nu, nuPc]
  | t5 n b => simp [tell, nu, nuPc]
  | p0 n => simp [tell, nu, nuPc]
  | p1 n => simp [actV, tell, nu, nuPc]
  | p2 n u => by_cases hc : V.tp = u <;> simp [actV, tell, nu, nuPc, Vw.setNd, hc]
  | p3 n u => by_cases hc : V.tp = u <;> simp [actV, tell, nu, nuPc, hc]
  | g1 => by_cases he : V.er = e0 <;> simp [actV, tell, nu, nuPc, he]
  | g2 u a =>
    show nu S V (if V.er = e0 then (if (ofW u).idx = 0 then (if e0 = 0 then _ else _) else _) else ⟨.g3 V.er, made + 1, gone, e0⟩) < _
    by_cases hc : V.er = e0
    · rw [if_pos hc]
      by_cases hi : (ofW u).idx = 0
      · rw [if_pos hi]
        have h1 : 1 < nu S V ⟨.g2 u a, made, gone, e0⟩ := by
          simp only [nu, nuPc, if_pos hc]
          split <;> (unfold d3n; omega)
        split
        · simp only [nu, nuPc] at h1 ⊢; omega
        · simp only [nu, nuPc] at h1 ⊢; omega
      · rw [if_neg hi]
        by_cases hu : V.tp = u <;> simp [nu, nuPc, hc, hu]
    · rw [if_neg hc]
      simp only [nu, nuPc, if_neg hc, if_true]
      omega
  | g3 er => by_cases hc : V.er = er <;> simp [actV, tell, nu, nuPc, Vw.setRv, hc]
  | ce a => simp [tell, nu, nuPc]
  | d1 u => by_cases hc : V.tp = u <;> by_cases he : V.er = e0 <;> simp [actV, tell, nu, nuPc, hc, he]
  | d2 u be =>
    by_cases hc : V.tp = u
    · simp [actV, tell, nu, nuPc, hc]
    · by_cases he : V.er = e0 <;> simp [actV, tell, nu, nuPc, hc, he]
  | d3 n a =>
    show nu S V (if e0 = 0 then _ else _) < _
    split <;> simp only [nu, nuPc, d3n] <;> omega
  | c n v a => simp only [tell, nu, nuPc]; omega
  | r1 n v a => simp only [actV, tell, nu, nuPc]; omega
  | r2 n v a er =>
    show nu S { V with er := V.er + 1 } (if ((gone.length : Int) + 1) < 2 * l.seats then _ else _) < _
    split
    · simp only [nu, nuPc]; omega
    · have h := nu_scan S { V with er := V.er + 1 } v a [] (made + 1) e0 (gone ++ [(n, er)]) (resvsF l 0 l.seats.toNat)
      rw [resvs_len, hseats] at h
      rw [hseats]
      simp only [List.length_append, List.length_cons, List.length_nil] at h
      have h2 : nu S V ⟨.r2 n v a er, made, gone, e0⟩ = 1 + 3 * S + 4 * (gone.length + 1) := rfl
      simp only at h ⊢
      omega
  | rs v a held c cs =>
    have h := nu_scan S V v a (held ++ [rvAt S V c]) (made + 1) e0 gone cs
    have h2 : nu S V ⟨.rs v a held c cs, made, gone, e0⟩ = 1 + cs.length + 4 * gone.length := rfl
    show nu S V (scanQ v a (made + 1) e0 gone (held ++ [rvAt S V c]) cs) < _
    omega
  | s1 v a held g gs stay =>
    show nu S V (if held.any (inB (max1 (V.nd g.1 6)) g.2) = true then _ else _) < _
    have h2 : nu S V ⟨.s1 v a held g gs stay, made, gone, e0⟩ = 4 + 4 * gs.length := rfl
    split
    · have h := nu_sift S V v a held (made + 1) e0 gone gs (stay ++ [g])
      simp only
      omega
    · simp only [nu, nuPc]; omega
  | v1 v a held g gs stay => simp [actV, tell, nu, nuPc]
  | v2 v a held g gs stay f => by_cases hc : V.fr = f <;> simp [actV, tell, nu, nuPc, Vw.setNd, hc]
  | v3 v a held g gs stay f =>
    by_cases hc : V.fr = f
    · have h := nu_sift S { V with fr := packW (turnW (ofW f) g.1) } v a held (made + 1) e0 gone gs stay
      have h2 : nu S V ⟨.v3 v a held g gs stay f, made, gone, e0⟩ = 1 + 4 * gs.length := by simp only [nu, nuPc, if_pos hc]
      simp only [actV, tell, if_pos hc, if_true]
      omega
    · simp [actV, tell, nu, nuPc, hc]
  | fin o => exact absurd rfl (hf o)
theorem own_len {S N K : Nat} {V : Vw} {qs : List Q} {F T : List Int} (hI : Inv S N K V qs F T) {w : Nat} {q : Q} (hq : qs[w]? = some q) : (own q).length ≤ N := by
  refine nodup_le N (own q) ?_ (fun x hx => hI.inOwn hq hx)
  rw [List.nodup_iff_count]
  intro x
  by_cases hx : x ∈ own q
  · exact Nat.le_of_eq (hI.ownNot hq hx).2.2.1
  · rw [List.count_eq_zero.2 hx]; omega
theorem nu_le {S N K : Nat} {V : Vw} {qs : List Q} {F T : List Int} (hI : Inv S N K V qs F T) (hS : S ≤ 3) (hN : N ≤ 8) {w : Nat} {q : Q} (hq : qs[w]? = some q) : nu S V q ≤ 60 := by
  have h1 := own_len hI hq
  have hp := (hI.loc w q hq).pc
  obtain ⟨pc, made, gone, e0⟩ := q
  cases pc <;> simp only [own, List.length_cons, List.length_map, List.length_append] at h1 <;> simp only [LocPc] at hp <;> simp only [nu, nuPc, d3n]
  case rs v a held c cs =>
    have := hp.2.1
    simp only [List.length_cons] at this
    omega
  all_goals (repeat' split) <;> omega
end Go.Proofs.Ytpecgpmdchejdaa
