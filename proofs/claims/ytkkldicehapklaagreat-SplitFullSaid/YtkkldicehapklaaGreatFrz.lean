/- A variable's cell that is a slice over a variable of ours becomes plain data, others are forgotten. -/
import Derived.Test.YtkkldicehapklaaGreatShort
namespace Go.Proofs.YtkkldicehapklaaGreat
open Go.RowKit
section
variable {P : Program} {T : Nat → Option TI} {Γ : Ctx} {σ τ : St}
theorem drop_conc (hs : SubS σ τ τ.s) (hb : SubB σ τ τ.b) (hg : SubG σ τ.g) (hkb : SubK τ Γ.kb) {a : Act} {e : Env} (hc : Conc Γ σ e a) : Conc Γ τ (e.cut (jM τ.b) (jM τ.g)) a := by
 have hgi : ∀ g, jM τ.g g = true → ∃ G, e.gi g = some G ∧ kv τ.g g = some G := fun g h => by
  unfold jM at h
  obtain ⟨G, hG⟩ := Option.isSome_iff_exists.1 h
  exact ⟨G, by rw [hc.gs]; exact hg.get hG, hG⟩
 refine ⟨hc.size, hc.df, fun t d ht => (hc.slots t d (hs.get ht).1).cut (hs.get ht).2, fun b cs hcs => ?_, fun b hbn => ?_, fun g => ?_, hc.env.kept, hc.env.cl, fun b k hk => ?_, fun b c k h1 h2 => ?_, fun k g hk => ?_, fun b k hk => ?_⟩
 ·obtain ⟨k, vs, el, h1, h2, h3⟩ := hc.boxes b cs (hb.get hcs).1
  refine ⟨k, vs, el, ?_, h2, h3.1, fun i v d hv hd => (h3.2 i v d hv hd).cut (xR (hb.get hcs).2 hd)⟩
  show (if jM τ.b b = true then e.bx b else none) = _
  rw [if_pos (by simp [jM, hcs])]; exact h1
 ·show (if jM τ.b b = true then e.bx b else none) = _
  rw [if_neg (by simp [jM, hbn])]
 ·show (if jM τ.g g = true then e.gi g else none) = _
  cases hl : kv τ.g g with
  | none => rw [if_neg (by simp [jM, hl])]
  | some G => rw [if_pos (by simp [jM, hl]), hc.gs]; exact hg.get hl
 ·have hk' : (if jM τ.b b = true then e.bx b else none) = some k := hk
  split at hk'
  ·obtain ⟨h1, h2, h3, h4⟩ := hc.env.bx b k hk'
   refine ⟨h1, h2, h3, ?_⟩
   show (match e.gr k with | some g => if jM τ.g g = true then some g else none | none => none) = none
   rw [h4]
  ·cases hk'
 ·have h1' : (if jM τ.b b = true then e.bx b else none) = some k := h1
  have h2' : (if jM τ.b c = true then e.bx c else none) = some k := h2
  split at h1'
  ·split at h2'
   ·exact hc.env.inj b c k h1' h2'
   ·cases h2'
  ·cases h1'
 ·have hk' : (match e.gr k with | some g => if jM τ.g g = true then some g else none | none => none) = some g := hk
  rcases hgk : e.gr k with _ | g0
  ·rw [hgk] at hk'; cases hk'
  ·rw [hgk] at hk'
   simp only at hk'
   split at hk'
   ·rename_i hin
    cases hk'
    obtain ⟨G, cur, h1, h2⟩ := hc.env.gr k g hgk
    exact ⟨G, cur, by show (if jM τ.g g = true then e.gi g else none) = _; rw [if_pos hin]; exact h1, h2⟩
   ·cases hk'
 ·show (if jM τ.b b = true then e.bx b else none) = _
  rw [if_pos (hkb.get hk)]
  exact hc.env.kb b k hk
end
section
variable {Γ : Ctx} {s τs : List (Nat × Dt)} {b τb : List (Nat × List Dt)} {g τg : List (Nat × Gr)}
theorem jT4 (nb j nm : Nat) {n c sz : Nat} {cs cs0 cs1 cs2 : List Dt} (ps : List Pl) (hnb : kv b nb = some cs0) (hj : cs0[j]? = some (.arr nm 0 n c)) (hb : kv b nm = some cs) (hd : cs0.set j .any = cs1) (hc1 : cs1.set j (.p (.sl false n ps)) = cs2)
  (hs : SubS ⟨s, (nb, cs1) :: b, g⟩ ⟨τs, (nb, cs1) :: τb, τg⟩ τs) (hbb : SubB ⟨s, (nb, cs1) :: b, g⟩ ⟨τs, (nb, cs1) :: τb, τg⟩ ((nb, cs1) :: τb)) (hgg : SubG ⟨s, (nb, cs1) :: b, g⟩ τg) (hkb : SubK ⟨τs, (nb, cs1) :: τb, τg⟩ Γ.kb) (hnm : kv ((nb, cs1) :: τb) nm = none)
  (hcs : cs.length = c * sz) (hnc : n ≤ c) (hps : ps.length = n * sz) (htk : cs.take (n * sz) = ps.map Dt.p) (hcm : c ≤ maxLen) (hlf : ∀ x ∈ ps, x.lf = true) : Ghost Γ ⟨s, b, g⟩ ⟨τs, (nb, cs2) :: τb, τg⟩ := by
 intro a e hc
 obtain ⟨k0, vs0, el0, f1, f2, f3⟩ := hc.boxes _ _ hnb
 have hw : Conc Γ ⟨s, (nb, cs1) :: b, g⟩ e a := by
  refine ⟨hc.size, hc.df, hc.slots, fun u d hu => ?_, fun u hu => ?_, hc.gs, hc.env⟩
  ·simp only [jU] at hu
   split at hu
   ·rename_i htu
    subst htu
    cases hu
    refine ⟨k0, vs0, el0, f1, f2, by rw [← hd, List.length_set]; exact f3.1, fun i v d hv hdd => ?_⟩
    rw [← hd, List.getElem?_set] at hdd
    split at hdd
    ·split at hdd
     ·cases hdd; exact .any
     ·cases hdd
    ·exact f3.2 i v d hv hdd
   ·exact hc.boxes u d hu
  ·simp only [jU] at hu
   split at hu
   ·cases hu
   ·exact hc.nobox u hu
 have hfor := drop_conc (τ := ⟨τs, (nb, cs1) :: τb, τg⟩) hs hbb hgg hkb hw
 obtain ⟨k, vs, el, h2, h3, h4⟩ := hc.boxes nm cs hb
 have hbx := hc.env.bx nm k h2
 have hfree : ∀ x, (e.cut (jM ((nb, cs1) :: τb)) (jM τg)).bx x ≠ some k := fun x hx => by
  have hx' : (if jM ((nb, cs1) :: τb) x = true then e.bx x else none) = some k := hx
  split at hx'
  ·rename_i hne
   have hxn := hc.env.inj _ _ _ hx' h2
   subst hxn
   unfold jM at hne
   rw [hnm] at hne
   cases hne
  ·cases hx'
 have hgr0 : (e.cut (jM ((nb, cs1) :: τb)) (jM τg)).gr k = none := by
  show (match e.gr k with | some g => if jM τg g = true then some g else none | none => none) = none
  rw [hbx.2.2.2]
 obtain ⟨h5, hE⟩ := hfor.claim (n * sz) hbx.2.1 hbx.2.2.1 hgr0 hfree
 refine ⟨{ e.cut (jM ((nb, cs1) :: τb)) (jM τg) with cl := fun j => if j = k then some (n * sz) else (e.cut (jM ((nb, cs1) :: τb)) (jM τg)).cl j }, rfl, h5.size, h5.df, h5.slots, fun u d hu => ?_, fun u hu => ?_, h5.gs, h5.env⟩
 ·simp only [jU] at hu
  split at hu
  ·rename_i htu
   subst htu
   cases hu
   obtain ⟨k1, vs1, el1, g1, g2, g3⟩ := h5.boxes nb cs1 (by simp [jU])
   have g1' : (if jM ((nb, cs1) :: τb) nb = true then e.bx nb else none) = some k1 := g1
   have hk : k1 = k0 := by
    split at g1'
    ·rw [f1] at g1'; cases g1'; rfl
    ·cases g1'
   subst hk
   have g2' : e.w.heap[k1]? = some (.cells vs1.toArray el1 (0, 0)) := g2
   rw [f2] at g2'
   cases g2'
   refine ⟨k1, vs0, el0, g1, g2, by rw [← hc1, List.length_set]; exact g3.1, fun i v d hv hdd => ?_⟩
   rw [← hc1, List.getElem?_set] at hdd
   split at hdd
   ·rename_i hji
    subst hji
    split at hdd
    ·cases hdd
     have h1 := f3.2 _ v _ hv hj
     have hlen : vs.length = c * sz := by rw [h4.1, hcs]
     have hle := Nat.mul_le_mul_right sz hnc
     have hpl := kC9 h4 (by rw [hps]; exact htk)
     cases h1 with
     | arr hk =>
      rw [h2] at hk
      cases hk
      refine .p (jN9 hnc hcm (fun h => by cases h) (fun h => by cases h) (.inr ⟨k, 0, rfl, fun j => vs.getD j undef, fun j x hx => ?_⟩))
      have hj := (List.getElem?_eq_some_iff.1 hx).1
      have hj' : j < vs.length := by omega
      have hgd : vs.getD j undef = vs[j] := by simp [hj']
      have hu : vs[j]? = some vs[j] := List.getElem?_eq_getElem hj'
      have hr := hpl j _ x hu hx
      show Env.claimed _ k (0 + j) ∧ World.cell? _ ⟨k, 0 + j, none⟩ = some (vs.getD j undef) ∧ jA2 (vs.getD j undef) = true ∧ PRep _ (vs.getD j undef) x
      rw [hgd, Nat.zero_add]
      refine ⟨fun q hq => ?_, ?_, lf_val hr (hlf x (List.mem_of_getElem? hx)), (hr.cut).next hE⟩
      ·have hq' : (if k = k then some (n * sz) else e.cl k) = some q := hq
       rw [if_pos rfl] at hq'
       cases hq'
       omega
      ·show e.w.cell? _ = _
       rw [cell_of_row e.w k j vs.toArray el (0, 0) h3, List.getElem?_toArray]; exact hu
    ·cases hdd
   ·exact g3.2 i v d hv hdd
  ·exact h5.boxes u d (by simp only [jU]; rw [if_neg (by assumption)]; exact hu)
 ·simp only [jU] at hu
  split at hu
  ·cases hu
  ·exact h5.nobox u (by simp only [jU]; rw [if_neg (by assumption)]; exact hu)
end
end Go.Proofs.YtkkldicehapklaaGreat
