/- The document's example: its walk. -/
import Derived.Test.YtkkldicehapklaaGreatE18
import Derived.Test.YtkkldicehapklaaGreatI1
import Derived.Test.YtkkldicehapklaaGreatC1
import Derived.Test.YtkkldicehapklaaGreatPB
namespace Go.Proofs.YtkkldicehapklaaGreat
open Go.RowKit
set_option maxRecDepth 100000
theorem jL9 {l : List HCallT} {i : Int} {x : HCallT} (h : l[i.toNat]? = some x) : ∀ (m : Nat) q, [pI x.who, pI x.op.kind, pI x.op.obj, pI x.op.a, pI x.op.b, pI x.val, pB x.is, pI x.first, pI x.last, pI x.point][m]? = some q → (wD l)[i.toNat * 10 + m]? = some q := jP5 (f := pCall) (k := 10) (fun _ => rfl) h
theorem lowA_rep {e : Env} {v : Value} {ds : List Dt} (h : DRep e v (.agg ds)) : DRep e v (.agg (ds.map lowD)) := by
 cases h with
 | agg hl h =>
  refine .agg (by rw [List.length_map]; exact hl) fun i v d hv hd => ?_
  rw [List.getElem?_map, Option.map_eq_some_iff] at hd
  obtain ⟨d0, h2, rfl⟩ := hd
  exact kL6 (h i v d0 hv h2)
theorem kM1 {Γ : Ctx} {σ : St} (t : Nat) {ds ds' : List Dt} (ht : kv σ.s t = some (.agg ds)) (hd : ds.map lowD = ds') : Ghost Γ σ ⟨(t, .agg ds') :: σ.s, σ.b, σ.g⟩ := by
 intro a e hc
 refine ⟨e, rfl, hc.size, hc.df, fun u c hu => ?_, hc.boxes, hc.nobox, hc.gs, hc.env⟩
 simp only [jU] at hu
 split at hu
 ·rename_i htu
  subst htu
  cases hu
  subst hd
  exact lowA_rep (hc.slots _ _ ht)
 ·exact hc.slots u c hu
set_option maxHeartbeats 16000000 in
theorem shown_c : kA Tryz.prog 7 [] (dB true) := by
 have hw : kA Tryz.prog 11 [dI 1, dK .u8 0] (wO (kT 1 17 1)) := where_c 1 0 (by omega) (by omega)
 have hP : ImpC Tryz.prog 10 [] [wO (kT 1 17 1), dPlay jT8 []] [] (fun d bs => d = .ptr 30 0 ∧ bs = tabF shownT 1) := played_i (nn := 17) (sl := 1) (by omega) (by omega) jT8 [] (by simp [jT8]) (by simp [jT8]) (by simp) (fun x hx => by cases hx) (fun w hw => by
  rw [jT8, List.mem_singleton] at hw
  subst hw
  simp)
 have hL : qJ (kT 1 17 1) := kF3 (by omega) (by omega) (by omega)
 have hM : jG3 (kT 1 17 1) := layH_m (by omega)
 have hN := hnext_c (kT 1 17 1) hL hL.seats.1 hM 0 [] ⟨1, 1, 0, 0⟩ [] (fun p hp => by cases hp) (by simp) (by simp)
 rw [shown_next] at hN
 dsimp only [dNx] at hN
 have hI := splitinit_c (kT 1 17 1) hL hM 0 1 (by omega)
 have hpa := parent_c 6 (by omega)
 rw [shown_parent] at hpa
 obtain ⟨hb, hwi, ⟨c0, c1, c2, c3, hc, i0, i1, i2, i3, v2⟩, hno⟩ := shown_is
 generalize shownT = t at *
 obtain ⟨m, step, seats, calls, full, wild, bad⟩ := t
 simp only at hb hwi hc hno
 subst hb
 subst hwi
 subst hc
 unfold noneB at hno
 simp only [Bool.and_eq_true, decide_eq_true_eq, List.all_eq_true] at hno
 obtain ⟨⟨⟨n0, n1⟩, n2⟩, n3⟩ := hno
 have hCo := content0_c (kT 1 17 1) hL hM m _ _ _ rfl n0 n1 rfl rfl n2 n3
 have hpl : (kL (kT 1 17 1) 0 1).length = 7 := rfl
 unfold dAccs at hI
 generalize vN (kL (kT 1 17 1) 0 1) = PA at hI
 rw [hpl] at hI
 generalize kT 1 17 1 = l at *
 refine jO jB Tryz.func7 rfl Tryz.ntmps7 rfl rfl rfl fun w cl => ?_
 refine go ?_
 refine a_q (jA (hw) rfl (fun a w => Tryz.call11 a w) rfl) rfl rfl rfl ?_
 refine go ?_
 refine qW (kM1 (ds' := jB1 jT8 []) 15 rfl rfl) ?_
 refine go ?_
 refine yX (hP) rfl (fun a w => Tryz.call10 a w) rfl rfl (by (repeat (first | exact trivial | refine ⟨⟨rfl, rfl⟩, ?_⟩))) (by (repeat (first | exact trivial | refine ⟨.inr rfl, ?_⟩ | refine ⟨.inl rfl, ?_⟩))) rfl rfl rfl rfl ?_ ?_
 ·rintro d bs ⟨rfl, rfl⟩; exact ⟨.inr rfl, .inr rfl, .inr rfl, .inr rfl, .inr rfl, .inr rfl, trivial⟩
 rintro d bs ⟨rfl, rfl⟩
 refine go ?_
 refine a_q (jA (hN) rfl (fun a w => Tryz.call18 a w) rfl) rfl rfl rfl ?_
 refine go ?_
 refine jE 7 [] rfl rfl (by kernel_rfl) (by kernel_rfl) (by kernel_rfl) ?_
 refine goQ ?_
 refine r_q (jA (hCo) rfl (fun a w => Tryz.call16 a w) rfl) rfl rfl ?_
 refine goQ ?_
 refine go ?_
 refine (show CK false _ _ from ?_)
 refine go ?_
 refine a_q (jG jB [pI c0.who, pI c0.op.kind, pI c0.op.obj, pI c0.op.a, pI c0.op.b, pI c0.val, pB c0.is, pI c0.first, pI c0.last, pI c0.point] rfl rfl rfl rfl rfl rfl (by first | omega | (simp; done) | (simp; omega)) (by first | omega | (simp; done) | (simp; omega)) (by first | (simp; done) | exact List.cons_ne_nil _ _) (jL9 (l := [c0, c1, c2, c3]) (i := (0 : Int)) (x := c0) rfl)) rfl rfl rfl ?_
 rw [i0]
 refine go ?_
 refine a_q (jG jB [pI c1.who, pI c1.op.kind, pI c1.op.obj, pI c1.op.a, pI c1.op.b, pI c1.val, pB c1.is, pI c1.first, pI c1.last, pI c1.point] rfl rfl rfl rfl rfl rfl (by first | omega | (simp; done) | (simp; omega)) (by first | omega | (simp; done) | (simp; omega)) (by first | (simp; done) | exact List.cons_ne_nil _ _) (jL9 (l := [c0, c1, c2, c3]) (i := (1 : Int)) (x := c1) rfl)) rfl rfl rfl ?_
 rw [i1]
 refine go ?_
 refine a_q (jG jB [pI c2.who, pI c2.op.kind, pI c2.op.obj, pI c2.op.a, pI c2.op.b, pI c2.val, pB c2.is, pI c2.first, pI c2.last, pI c2.point] rfl rfl rfl rfl rfl rfl (by first | omega | (simp; done) | (simp; omega)) (by first | omega | (simp; done) | (simp; omega)) (by first | (simp; done) | exact List.cons_ne_nil _ _) (jL9 (l := [c0, c1, c2, c3]) (i := (2 : Int)) (x := c2) rfl)) rfl rfl rfl ?_
 rw [i2]
 refine go ?_
 refine a_q (jG jB [pI c2.who, pI c2.op.kind, pI c2.op.obj, pI c2.op.a, pI c2.op.b, pI c2.val, pB c2.is, pI c2.first, pI c2.last, pI c2.point] rfl rfl rfl rfl rfl rfl (by first | omega | (simp; done) | (simp; omega)) (by first | omega | (simp; done) | (simp; omega)) (by first | (simp; done) | exact List.cons_ne_nil _ _) (jL9 (l := [c0, c1, c2, c3]) (i := (2 : Int)) (x := c2) rfl)) rfl rfl rfl ?_
 refine go ?_
 rw [v2]
 refine go ?_
 refine a_q (jG jB [pI c3.who, pI c3.op.kind, pI c3.op.obj, pI c3.op.a, pI c3.op.b, pI c3.val, pB c3.is, pI c3.first, pI c3.last, pI c3.point] rfl rfl rfl rfl rfl rfl (by first | omega | (simp; done) | (simp; omega)) (by first | omega | (simp; done) | (simp; omega)) (by first | (simp; done) | exact List.cons_ne_nil _ _) (jL9 (l := [c0, c1, c2, c3]) (i := (3 : Int)) (x := c3) rfl)) rfl rfl rfl ?_
 rw [i3]
 refine go ?_
 refine a_q (jA (hpa) rfl (fun a w => Tryz.call8 a w) rfl) rfl rfl rfl ?_
 refine go ?_
 refine a_q (jA (hI) rfl (fun a w => Tryz.call19 a w) rfl) rfl rfl rfl ?_
 refine go ?_
 first | refine jF rfl ?_ | refine jC rfl ?_
 rfl
end Go.Proofs.YtkkldicehapklaaGreat
