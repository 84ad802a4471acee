/- A map's programs are run by their logs: split.Next: its walk. -/
import Derived.Test.YtkkldicehapklaaGreatH7
namespace Go.Proofs.YtkkldicehapklaaGreat
open Go.RowKit
set_option maxRecDepth 100000
set_option maxHeartbeats 16000000 in
theorem kF6 (fnd : Dt) (kn : Bool) (l : jN) (hL : qJ l) (hM : jG3 l) (me : Int) (gone : List (Int × Int)) (op : OpT) (log : List jS) (hg : gone.length ≤ 100000) (hf1 : jK5 fnd = true) (hf2 : Nat.beq fnd.cells.length 1 = true) (hf3 : ∀ x, jI7 [x] 0 fnd some = some [fnd]) (hfnd : ∀ B G, B 53 = true → B 54 = true → Dt.ok.oks B G [fnd] = true) (hkn : kn = decide (1 ≤ op.kind ∧ op.kind ≤ 3))
  (hlk : ∀ (Γ Γ' : Ctx) (r ck : Nat) (kf : Nat → Nat), InM Γ Γ' r (behE kf) ck → Γ'.kb = jN0 kf [53, 54] → LookC Tryz.prog Γ' 100 r op.kind fnd kn)
  (hpl : kn = true → 0 ≤ op.a → op.a < 65536 → ImpC Tryz.prog 40 [] [.ptr 40 0, .fn (.func 41) [] [.ptr 55 0, .ptr 56 0, .ptr 57 0, .ptr 58 0]] (nxB fnd l me op log ⟨0, gone, 0, 0, 0⟩) (PlayR (vO l me op log ⟨0, gone, 0, 0, 0⟩))) :
  kA Tryz.prog 18 [wO l, dI me, vG gone, .agg [dI op.kind, dI op.obj, dI op.a, dI op.b], dLog log] (.tup [wM (wA l me gone op log).1, jO0 (wA l me gone op log).2.1, dB (wA l me gone op log).2.2]) := by
 generalize hE : wA l me gone op log = E
 unfold wA at hE
 refine jO jB Tryz.func18 rfl Tryz.ntmps18 rfl rfl rfl fun w cl => ?_
 refine goC ?_
 refine a_b (qP 56 rfl rfl rfl rfl) rfl rfl rfl rfl ?_
 refine a_b (qP 57 rfl rfl rfl rfl) rfl rfl rfl rfl ?_
 refine a_b (jL jB 60 rfl rfl rfl rfl) rfl rfl rfl rfl ?_
 refine a_b (jL jB 61 rfl rfl rfl rfl) rfl rfl rfl rfl ?_
 refine z2 ?_
 refine jD ?_
 refine goC ?_
 refine z2 ?_
 refine z2 ?_
 refine z2 ?_
 refine z2 ?_
 refine z2 ?_
 refine z2 ?_
 refine z6 ?_
 refine a_b (qP 40 rfl rfl rfl rfl) rfl rfl rfl rfl ?_
 refine a_b (jL jB 55 rfl rfl rfl rfl) rfl rfl rfl rfl ?_
 refine go ?_
 refine kP (σ' := ⟨[(13, .ptr 55 0), (12, dB false), (11, .ptr 61 0), (10, .ptr 60 0), (8, .ptr 57 0), (5, .ptr 56 0), (2, vG gone)], [(40, prgD l me op.obj log ⟨0, gone, 0, 0, 0⟩), (55, [.ptr 40 0]), (56, xL l), (57, [dI op.kind, dI op.obj, dI op.a, dI op.b]), (60, [dI 0, dI 0, dI 0, dI 0]), (61, [dI 0, dB false, dI 0, dI 0, .p (.sl true 0 [])])], []⟩) zX ?_
 refine jM1 (fun _ : Unit => True) (fun _ => ⟨[(15, dB kn), (14, .ptr 58 0), (13, .ptr 55 0), (12, dB false), (11, .ptr 61 0), (10, .ptr 60 0), (8, .ptr 57 0), (5, .ptr 56 0), (2, vG gone)], [(40, prgD l me op.obj log ⟨0, gone, 0, 0, 0⟩), (55, [.ptr 40 0]), (56, xL l), (57, [dI op.kind, dI op.obj, dI op.a, dI op.b]), (58, [fnd]), (53, [.ptr 40 0]), (54, [dI (xB l op.obj 1)]), (60, [dI 0, dI 0, dI 0, dI 0]), (61, [dI 0, dB false, dI 0, dI 0, .p (.sl true 0 [])])], []⟩) ?_ (fun _ _ => ?_)
 ·skip
  refine jN4 rfl (yT ?_)
  refine jK (i := 2) (listed' := #[false, false, true, false, false, false, false, false, false, false, false]) (by kernel_rfl) (by kernel_rfl) (by kernel_rfl) (by kernel_rfl) (fun _ _ h => by cases h.1) rfl rfl rfl (y_field jB rfl rfl rfl rfl rfl) ?_
  refine aany_w3 (i := 0) (j := 3) (m := 8) (by kernel_rfl) ?_ ?_ ?_
  ·skip
   refine kQ (listed' := #[true, false, true, false, false, false, false, false, false, false, false]) rfl (by kernel_rfl) ?_
   refine z2 ?_
   refine jD (nq ?_)
   refine aany_w3 (i := 1) (j := 3) (m := 8) (by kernel_rfl) ?_ ?_ ?_
   ·skip
    refine jH2 (LL := #[true, true, true, false, false, false, false, false, false, false, false]) (xK l hL hM me op.obj log ⟨0, gone, 0, 0, 0⟩) (by exact rfl) (by kernel_rfl) (by exact rfl) (fun a w => Tryz.call37 a w) (by exact rfl) (by exact rfl) (by exact by (repeat (first | exact trivial | refine ⟨⟨rfl, rfl⟩, ?_⟩ | refine ⟨rfl, ?_⟩))) (by exact rfl) (by exact rfl) (by exact rfl) (by exact rfl) (by exact rfl) (by exact ⟨.inl rfl, .inr rfl, .inr rfl, trivial⟩) (by exact ⟨rfl, rfl, trivial⟩) (fun r ck kf w' cl' own' hi => ?_)
    have hlo := hlk _ _ r ck kf hi rfl
    clear hi
    refine jD9 (i := 3) (j := 8) (by kernel_rfl) ?_ ?_
    ·skip
     refine kQ (listed' := #[true, true, true, true, false, false, false, false, false, false, false]) rfl (by kernel_rfl) ?_
     refine z2 ?_
     refine jD (nq ?_)
     refine jD9 (i := 4) (j := 8) (by kernel_rfl) ?_ ?_
     ·skip
      refine kQ (listed' := #[true, true, true, true, true, false, false, false, false, false, false]) rfl (by kernel_rfl) ?_
      refine jA1 hlo rfl rfl rfl rfl rfl rfl ?_
      refine jD (nq ?_)
      refine jK (i := 5) (listed' := #[true, true, true, true, true, true, false, false, false, false, false]) (by kernel_rfl) (by kernel_rfl) (by kernel_rfl) (by kernel_rfl) (fun _ _ h => by cases h.1) rfl rfl rfl (yB rfl rfl rfl) ?_
      refine jK (i := 6) (listed' := #[true, true, true, true, true, true, true, false, false, false, false]) (by kernel_rfl) (by kernel_rfl) (by kernel_rfl) (by kernel_rfl) (fun _ _ h => by cases h.1) rfl rfl rfl (jV rfl rfl rfl rfl) ?_
      refine jK (i := 7) (listed' := #[true, true, true, true, true, true, true, true, false, false, false]) (by kernel_rfl) (by kernel_rfl) (by kernel_rfl) (by kernel_rfl) (fun _ _ h => by cases h.1) rfl rfl rfl (jV rfl rfl rfl rfl) ?_
      refine kC (i := 8) (by kernel_rfl) ?_
      refine kQ (listed' := #[true, true, true, true, true, true, true, true, true, false, false]) rfl (by kernel_rfl) ?_
      refine a_b (jL jB 58 rfl rfl rfl rfl) rfl rfl rfl rfl ?_
      refine jD (nq ?_)
      refine kC (i := 9) (by kernel_rfl) ?_
      refine kQ (listed' := #[true, true, true, true, true, true, true, true, true, true, false]) rfl (by kernel_rfl) ?_
      refine z5 (hl := hf1) (hsz := hf2) (hst := hf3 _) ?_
      refine jD (nq ?_)
      refine kC (i := 10) (by kernel_rfl) ?_
      refine kQ (listed' := #[true, true, true, true, true, true, true, true, true, true, true]) rfl (by kernel_rfl) ?_
      refine z2 ?_
      refine jD (nq ?_)
      refine kN (by kernel_rfl) ⟨rfl, (), trivial, zX (hb := by exact ⟨⟨rfl, rfl⟩, ⟨rfl, rfl⟩, ⟨rfl, rfl⟩, ⟨rfl, rfl⟩, ⟨rfl, hfnd _ _ rfl rfl⟩, ⟨rfl, rfl⟩, ⟨rfl, rfl⟩, ⟨rfl, rfl⟩, ⟨rfl, rfl⟩, trivial⟩)⟩
     ·skip
      refine kQ (listed' := #[true, true, true, true, false, false, false, false, true, false, false]) rfl (by kernel_rfl) ?_
      refine a_b (jL jB 58 rfl rfl rfl rfl) rfl rfl rfl rfl ?_
      refine jD (nq ?_)
      refine kC (i := 4) (by kernel_rfl) ?_
      refine kQ (listed' := #[true, true, true, true, true, false, false, false, true, false, false]) rfl (by kernel_rfl) ?_
      refine jA1 hlo rfl rfl rfl rfl rfl rfl ?_
      refine jD (nq ?_)
      refine jK (i := 5) (listed' := #[true, true, true, true, true, true, false, false, true, false, false]) (by kernel_rfl) (by kernel_rfl) (by kernel_rfl) (by kernel_rfl) (fun _ _ h => by cases h.1) rfl rfl rfl (yB rfl rfl rfl) ?_
      refine jK (i := 6) (listed' := #[true, true, true, true, true, true, true, false, true, false, false]) (by kernel_rfl) (by kernel_rfl) (by kernel_rfl) (by kernel_rfl) (fun _ _ h => by cases h.1) rfl rfl rfl (jV rfl rfl rfl rfl) ?_
      refine jK (i := 7) (listed' := #[true, true, true, true, true, true, true, true, true, false, false]) (by kernel_rfl) (by kernel_rfl) (by kernel_rfl) (by kernel_rfl) (fun _ _ h => by cases h.1) rfl rfl rfl (jV rfl rfl rfl rfl) ?_
      refine kC (i := 9) (by kernel_rfl) ?_
      refine kQ (listed' := #[true, true, true, true, true, true, true, true, true, true, false]) rfl (by kernel_rfl) ?_
      refine z5 (hl := hf1) (hsz := hf2) (hst := hf3 _) ?_
      refine jD (nq ?_)
      refine kC (i := 10) (by kernel_rfl) ?_
      refine kQ (listed' := #[true, true, true, true, true, true, true, true, true, true, true]) rfl (by kernel_rfl) ?_
      refine z2 ?_
      refine jD (nq ?_)
      refine kN (by kernel_rfl) ⟨rfl, (), trivial, zX (hb := by exact ⟨⟨rfl, rfl⟩, ⟨rfl, rfl⟩, ⟨rfl, rfl⟩, ⟨rfl, rfl⟩, ⟨rfl, hfnd _ _ rfl rfl⟩, ⟨rfl, rfl⟩, ⟨rfl, rfl⟩, ⟨rfl, rfl⟩, ⟨rfl, rfl⟩, trivial⟩)⟩
    ·skip
     refine kQ (listed' := #[true, true, true, false, false, false, false, false, true, false, false]) rfl (by kernel_rfl) ?_
     refine a_b (jL jB 58 rfl rfl rfl rfl) rfl rfl rfl rfl ?_
     refine jD (nq ?_)
     refine kC (i := 3) (by kernel_rfl) ?_
     refine kQ (listed' := #[true, true, true, true, false, false, false, false, true, false, false]) rfl (by kernel_rfl) ?_
     refine z2 ?_
     refine jD (nq ?_)
     refine kC (i := 4) (by kernel_rfl) ?_
     refine kQ (listed' := #[true, true, true, true, true, false, false, false, true, false, false]) rfl (by kernel_rfl) ?_
     refine jA1 hlo rfl rfl rfl rfl rfl rfl ?_
     refine jD (nq ?_)
     refine jK (i := 5) (listed' := #[true, true, true, true, true, true, false, false, true, false, false]) (by kernel_rfl) (by kernel_rfl) (by kernel_rfl) (by kernel_rfl) (fun _ _ h => by cases h.1) rfl rfl rfl (yB rfl rfl rfl) ?_
     refine jK (i := 6) (listed' := #[true, true, true, true, true, true, true, false, true, false, false]) (by kernel_rfl) (by kernel_rfl) (by kernel_rfl) (by kernel_rfl) (fun _ _ h => by cases h.1) rfl rfl rfl (jV rfl rfl rfl rfl) ?_
     refine jK (i := 7) (listed' := #[true, true, true, true, true, true, true, true, true, false, false]) (by kernel_rfl) (by kernel_rfl) (by kernel_rfl) (by kernel_rfl) (fun _ _ h => by cases h.1) rfl rfl rfl (jV rfl rfl rfl rfl) ?_
     refine kC (i := 9) (by kernel_rfl) ?_
     refine kQ (listed' := #[true, true, true, true, true, true, true, true, true, true, false]) rfl (by kernel_rfl) ?_
     refine z5 (hl := hf1) (hsz := hf2) (hst := hf3 _) ?_
     refine jD (nq ?_)
     refine kC (i := 10) (by kernel_rfl) ?_
     refine kQ (listed' := #[true, true, true, true, true, true, true, true, true, true, true]) rfl (by kernel_rfl) ?_
     refine z2 ?_
     refine jD (nq ?_)
     refine kN (by kernel_rfl) ⟨rfl, (), trivial, zX (hb := by exact ⟨⟨rfl, rfl⟩, ⟨rfl, rfl⟩, ⟨rfl, rfl⟩, ⟨rfl, rfl⟩, ⟨rfl, hfnd _ _ rfl rfl⟩, ⟨rfl, rfl⟩, ⟨rfl, rfl⟩, ⟨rfl, rfl⟩, ⟨rfl, rfl⟩, trivial⟩)⟩
   ·skip
    refine kQ (listed' := #[true, false, true, true, false, false, false, false, false, false, false]) rfl (by kernel_rfl) ?_
    refine z2 ?_
    refine jD (nq ?_)
    refine jD9 (i := 1) (j := 8) (by kernel_rfl) ?_ ?_
    ·skip
     refine jH2 (LL := #[true, true, true, true, false, false, false, false, false, false, false]) (xK l hL hM me op.obj log ⟨0, gone, 0, 0, 0⟩) (by exact rfl) (by kernel_rfl) (by exact rfl) (fun a w => Tryz.call37 a w) (by exact rfl) (by exact rfl) (by exact by (repeat (first | exact trivial | refine ⟨⟨rfl, rfl⟩, ?_⟩ | refine ⟨rfl, ?_⟩))) (by exact rfl) (by exact rfl) (by exact rfl) (by exact rfl) (by exact rfl) (by exact ⟨.inl rfl, .inr rfl, .inr rfl, trivial⟩) (by exact ⟨rfl, rfl, trivial⟩) (fun r ck kf w' cl' own' hi => ?_)
     have hlo := hlk _ _ r ck kf hi rfl
     clear hi
     refine jD9 (i := 4) (j := 8) (by kernel_rfl) ?_ ?_
     ·skip
      refine kQ (listed' := #[true, true, true, true, true, false, false, false, false, false, false]) rfl (by kernel_rfl) ?_
      refine jA1 hlo rfl rfl rfl rfl rfl rfl ?_
      refine jD (nq ?_)
      refine jK (i := 5) (listed' := #[true, true, true, true, true, true, false, false, false, false, false]) (by kernel_rfl) (by kernel_rfl) (by kernel_rfl) (by kernel_rfl) (fun _ _ h => by cases h.1) rfl rfl rfl (yB rfl rfl rfl) ?_
      refine jK (i := 6) (listed' := #[true, true, true, true, true, true, true, false, false, false, false]) (by kernel_rfl) (by kernel_rfl) (by kernel_rfl) (by kernel_rfl) (fun _ _ h => by cases h.1) rfl rfl rfl (jV rfl rfl rfl rfl) ?_
      refine jK (i := 7) (listed' := #[true, true, true, true, true, true, true, true, false, false, false]) (by kernel_rfl) (by kernel_rfl) (by kernel_rfl) (by kernel_rfl) (fun _ _ h => by cases h.1) rfl rfl rfl (jV rfl rfl rfl rfl) ?_
      refine kC (i := 8) (by kernel_rfl) ?_
      refine kQ (listed' := #[true, true, true, true, true, true, true, true, true, false, false]) rfl (by kernel_rfl) ?_
      refine a_b (jL jB 58 rfl rfl rfl rfl) rfl rfl rfl rfl ?_
      refine jD (nq ?_)
      refine kC (i := 9) (by kernel_rfl) ?_
      refine kQ (listed' := #[true, true, true, true, true, true, true, true, true, true, false]) rfl (by kernel_rfl) ?_
      refine z5 (hl := hf1) (hsz := hf2) (hst := hf3 _) ?_
      refine jD (nq ?_)
      refine kC (i := 10) (by kernel_rfl) ?_
      refine kQ (listed' := #[true, true, true, true, true, true, true, true, true, true, true]) rfl (by kernel_rfl) ?_
      refine z2 ?_
      refine jD (nq ?_)
      refine kN (by kernel_rfl) ⟨rfl, (), trivial, zX (hb := by exact ⟨⟨rfl, rfl⟩, ⟨rfl, rfl⟩, ⟨rfl, rfl⟩, ⟨rfl, rfl⟩, ⟨rfl, hfnd _ _ rfl rfl⟩, ⟨rfl, rfl⟩, ⟨rfl, rfl⟩, ⟨rfl, rfl⟩, ⟨rfl, rfl⟩, trivial⟩)⟩
     ·skip
      refine kQ (listed' := #[true, true, true, true, false, false, false, false, true, false, false]) rfl (by kernel_rfl) ?_
      refine a_b (jL jB 58 rfl rfl rfl rfl) rfl rfl rfl rfl ?_
      refine jD (nq ?_)
      refine kC (i := 4) (by kernel_rfl) ?_
      refine kQ (listed' := #[true, true, true, true, true, false, false, false, true, false, false]) rfl (by kernel_rfl) ?_
      refine jA1 hlo rfl rfl rfl rfl rfl rfl ?_
      refine jD (nq ?_)
      refine jK (i := 5) (listed' := #[true, true, true, true, true, true, false, false, true, false, false]) (by kernel_rfl) (by kernel_rfl) (by kernel_rfl) (by kernel_rfl) (fun _ _ h => by cases h.1) rfl rfl rfl (yB rfl rfl rfl) ?_
      refine jK (i := 6) (listed' := #[true, true, true, true, true, true, true, false, true, false, false]) (by kernel_rfl) (by kernel_rfl) (by kernel_rfl) (by kernel_rfl) (fun _ _ h => by cases h.1) rfl rfl rfl (jV rfl rfl rfl rfl) ?_
      refine jK (i := 7) (listed' := #[true, true, true, true, true, true, true, true, true, false, false]) (by kernel_rfl) (by kernel_rfl) (by kernel_rfl) (by kernel_rfl) (fun _ _ h => by cases h.1) rfl rfl rfl (jV rfl rfl rfl rfl) ?_
      refine kC (i := 9) (by kernel_rfl) ?_
      refine kQ (listed' := #[true, true, true, true, true, true, true, true, true, true, false]) rfl (by kernel_rfl) ?_
      refine z5 (hl := hf1) (hsz := hf2) (hst := hf3 _) ?_
      refine jD (nq ?_)
      refine kC (i := 10) (by kernel_rfl) ?_
      refine kQ (listed' := #[true, true, true, true, true, true, true, true, true, true, true]) rfl (by kernel_rfl) ?_
      refine z2 ?_
      refine jD (nq ?_)
      refine kN (by kernel_rfl) ⟨rfl, (), trivial, zX (hb := by exact ⟨⟨rfl, rfl⟩, ⟨rfl, rfl⟩, ⟨rfl, rfl⟩, ⟨rfl, rfl⟩, ⟨rfl, hfnd _ _ rfl rfl⟩, ⟨rfl, rfl⟩, ⟨rfl, rfl⟩, ⟨rfl, rfl⟩, ⟨rfl, rfl⟩, trivial⟩)⟩
    ·skip
     refine kQ (listed' := #[true, false, true, true, false, false, false, false, true, false, false]) rfl (by kernel_rfl) ?_
     refine a_b (jL jB 58 rfl rfl rfl rfl) rfl rfl rfl rfl ?_
     refine jD (nq ?_)
     refine kC (i := 1) (by kernel_rfl) ?_
     refine jH2 (LL := #[true, true, true, true, false, false, false, false, true, false, false]) (xK l hL hM me op.obj log ⟨0, gone, 0, 0, 0⟩) (by exact rfl) (by kernel_rfl) (by exact rfl) (fun a w => Tryz.call37 a w) (by exact rfl) (by exact rfl) (by exact by (repeat (first | exact trivial | refine ⟨⟨rfl, rfl⟩, ?_⟩ | refine ⟨rfl, ?_⟩))) (by exact rfl) (by exact rfl) (by exact rfl) (by exact rfl) (by exact rfl) (by exact ⟨.inl rfl, .inr rfl, .inr rfl, trivial⟩) (by exact ⟨rfl, rfl, trivial⟩) (fun r ck kf w' cl' own' hi => ?_)
     have hlo := hlk _ _ r ck kf hi rfl
     clear hi
     refine kC (i := 4) (by kernel_rfl) ?_
     refine kQ (listed' := #[true, true, true, true, true, false, false, false, true, false, false]) rfl (by kernel_rfl) ?_
     refine jA1 hlo rfl rfl rfl rfl rfl rfl ?_
     refine jD (nq ?_)
     refine jK (i := 5) (listed' := #[true, true, true, true, true, true, false, false, true, false, false]) (by kernel_rfl) (by kernel_rfl) (by kernel_rfl) (by kernel_rfl) (fun _ _ h => by cases h.1) rfl rfl rfl (yB rfl rfl rfl) ?_
     refine jK (i := 6) (listed' := #[true, true, true, true, true, true, true, false, true, false, false]) (by kernel_rfl) (by kernel_rfl) (by kernel_rfl) (by kernel_rfl) (fun _ _ h => by cases h.1) rfl rfl rfl (jV rfl rfl rfl rfl) ?_
     refine jK (i := 7) (listed' := #[true, true, true, true, true, true, true, true, true, false, false]) (by kernel_rfl) (by kernel_rfl) (by kernel_rfl) (by kernel_rfl) (fun _ _ h => by cases h.1) rfl rfl rfl (jV rfl rfl rfl rfl) ?_
     refine kC (i := 9) (by kernel_rfl) ?_
     refine kQ (listed' := #[true, true, true, true, true, true, true, true, true, true, false]) rfl (by kernel_rfl) ?_
     refine z5 (hl := hf1) (hsz := hf2) (hst := hf3 _) ?_
     refine jD (nq ?_)
     refine kC (i := 10) (by kernel_rfl) ?_
     refine kQ (listed' := #[true, true, true, true, true, true, true, true, true, true, true]) rfl (by kernel_rfl) ?_
     refine z2 ?_
     refine jD (nq ?_)
     refine kN (by kernel_rfl) ⟨rfl, (), trivial, zX (hb := by exact ⟨⟨rfl, rfl⟩, ⟨rfl, rfl⟩, ⟨rfl, rfl⟩, ⟨rfl, rfl⟩, ⟨rfl, hfnd _ _ rfl rfl⟩, ⟨rfl, rfl⟩, ⟨rfl, rfl⟩, ⟨rfl, rfl⟩, ⟨rfl, rfl⟩, trivial⟩)⟩
   ·skip
    refine kQ (listed' := #[true, false, true, false, false, false, false, false, true, false, false]) rfl (by kernel_rfl) ?_
    refine a_b (jL jB 58 rfl rfl rfl rfl) rfl rfl rfl rfl ?_
    refine jD (nq ?_)
    refine jD9 (i := 1) (j := 3) (by kernel_rfl) ?_ ?_
    ·skip
     refine jH2 (LL := #[true, true, true, false, false, false, false, false, true, false, false]) (xK l hL hM me op.obj log ⟨0, gone, 0, 0, 0⟩) (by exact rfl) (by kernel_rfl) (by exact rfl) (fun a w => Tryz.call37 a w) (by exact rfl) (by exact rfl) (by exact by (repeat (first | exact trivial | refine ⟨⟨rfl, rfl⟩, ?_⟩ | refine ⟨rfl, ?_⟩))) (by exact rfl) (by exact rfl) (by exact rfl) (by exact rfl) (by exact rfl) (by exact ⟨.inl rfl, .inr rfl, .inr rfl, trivial⟩) (by exact ⟨rfl, rfl, trivial⟩) (fun r ck kf w' cl' own' hi => ?_)
     have hlo := hlk _ _ r ck kf hi rfl
     clear hi
     refine kC (i := 3) (by kernel_rfl) ?_
     refine kQ (listed' := #[true, true, true, true, false, false, false, false, true, false, false]) rfl (by kernel_rfl) ?_
     refine z2 ?_
     refine jD (nq ?_)
     refine kC (i := 4) (by kernel_rfl) ?_
     refine kQ (listed' := #[true, true, true, true, true, false, false, false, true, false, false]) rfl (by kernel_rfl) ?_
     refine jA1 hlo rfl rfl rfl rfl rfl rfl ?_
     refine jD (nq ?_)
     refine jK (i := 5) (listed' := #[true, true, true, true, true, true, false, false, true, false, false]) (by kernel_rfl) (by kernel_rfl) (by kernel_rfl) (by kernel_rfl) (fun _ _ h => by cases h.1) rfl rfl rfl (yB rfl rfl rfl) ?_
     refine jK (i := 6) (listed' := #[true, true, true, true, true, true, true, false, true, false, false]) (by kernel_rfl) (by kernel_rfl) (by kernel_rfl) (by kernel_rfl) (fun _ _ h => by cases h.1) rfl rfl rfl (jV rfl rfl rfl rfl) ?_
     refine jK (i := 7) (listed' := #[true, true, true, true, true, true, true, true, true, false, false]) (by kernel_rfl) (by kernel_rfl) (by kernel_rfl) (by kernel_rfl) (fun _ _ h => by cases h.1) rfl rfl rfl (jV rfl rfl rfl rfl) ?_
     refine kC (i := 9) (by kernel_rfl) ?_
     refine kQ (listed' := #[true, true, true, true, true, true, true, true, true, true, false]) rfl (by kernel_rfl) ?_
     refine z5 (hl := hf1) (hsz := hf2) (hst := hf3 _) ?_
     refine jD (nq ?_)
     refine kC (i := 10) (by kernel_rfl) ?_
     refine kQ (listed' := #[true, true, true, true, true, true, true, true, true, true, true]) rfl (by kernel_rfl) ?_
     refine z2 ?_
     refine jD (nq ?_)
     refine kN (by kernel_rfl) ⟨rfl, (), trivial, zX (hb := by exact ⟨⟨rfl, rfl⟩, ⟨rfl, rfl⟩, ⟨rfl, rfl⟩, ⟨rfl, rfl⟩, ⟨rfl, hfnd _ _ rfl rfl⟩, ⟨rfl, rfl⟩, ⟨rfl, rfl⟩, ⟨rfl, rfl⟩, ⟨rfl, rfl⟩, trivial⟩)⟩
    ·skip
     refine kQ (listed' := #[true, false, true, true, false, false, false, false, true, false, false]) rfl (by kernel_rfl) ?_
     refine z2 ?_
     refine jD (nq ?_)
     refine kC (i := 1) (by kernel_rfl) ?_
     refine jH2 (LL := #[true, true, true, true, false, false, false, false, true, false, false]) (xK l hL hM me op.obj log ⟨0, gone, 0, 0, 0⟩) (by exact rfl) (by kernel_rfl) (by exact rfl) (fun a w => Tryz.call37 a w) (by exact rfl) (by exact rfl) (by exact by (repeat (first | exact trivial | refine ⟨⟨rfl, rfl⟩, ?_⟩ | refine ⟨rfl, ?_⟩))) (by exact rfl) (by exact rfl) (by exact rfl) (by exact rfl) (by exact rfl) (by exact ⟨.inl rfl, .inr rfl, .inr rfl, trivial⟩) (by exact ⟨rfl, rfl, trivial⟩) (fun r ck kf w' cl' own' hi => ?_)
     have hlo := hlk _ _ r ck kf hi rfl
     clear hi
     refine kC (i := 4) (by kernel_rfl) ?_
     refine kQ (listed' := #[true, true, true, true, true, false, false, false, true, false, false]) rfl (by kernel_rfl) ?_
     refine jA1 hlo rfl rfl rfl rfl rfl rfl ?_
     refine jD (nq ?_)
     refine jK (i := 5) (listed' := #[true, true, true, true, true, true, false, false, true, false, false]) (by kernel_rfl) (by kernel_rfl) (by kernel_rfl) (by kernel_rfl) (fun _ _ h => by cases h.1) rfl rfl rfl (yB rfl rfl rfl) ?_
     refine jK (i := 6) (listed' := #[true, true, true, true, true, true, true, false, true, false, false]) (by kernel_rfl) (by kernel_rfl) (by kernel_rfl) (by kernel_rfl) (fun _ _ h => by cases h.1) rfl rfl rfl (jV rfl rfl rfl rfl) ?_
     refine jK (i := 7) (listed' := #[true, true, true, true, true, true, true, true, true, false, false]) (by kernel_rfl) (by kernel_rfl) (by kernel_rfl) (by kernel_rfl) (fun _ _ h => by cases h.1) rfl rfl rfl (jV rfl rfl rfl rfl) ?_
     refine kC (i := 9) (by kernel_rfl) ?_
     refine kQ (listed' := #[true, true, true, true, true, true, true, true, true, true, false]) rfl (by kernel_rfl) ?_
     refine z5 (hl := hf1) (hsz := hf2) (hst := hf3 _) ?_
     refine jD (nq ?_)
     refine kC (i := 10) (by kernel_rfl) ?_
     refine kQ (listed' := #[true, true, true, true, true, true, true, true, true, true, true]) rfl (by kernel_rfl) ?_
     refine z2 ?_
     refine jD (nq ?_)
     refine kN (by kernel_rfl) ⟨rfl, (), trivial, zX (hb := by exact ⟨⟨rfl, rfl⟩, ⟨rfl, rfl⟩, ⟨rfl, rfl⟩, ⟨rfl, rfl⟩, ⟨rfl, hfnd _ _ rfl rfl⟩, ⟨rfl, rfl⟩, ⟨rfl, rfl⟩, ⟨rfl, rfl⟩, ⟨rfl, rfl⟩, trivial⟩)⟩
  ·skip
   refine kQ (listed' := #[false, false, true, true, false, false, false, false, false, false, false]) rfl (by kernel_rfl) ?_
   refine z2 ?_
   refine jD (nq ?_)
   refine jD9 (i := 0) (j := 8) (by kernel_rfl) ?_ ?_
   ·skip
    refine kQ (listed' := #[true, false, true, true, false, false, false, false, false, false, false]) rfl (by kernel_rfl) ?_
    refine z2 ?_
    refine jD (nq ?_)
    refine jD9 (i := 1) (j := 8) (by kernel_rfl) ?_ ?_
    ·skip
     refine jH2 (LL := #[true, true, true, true, false, false, false, false, false, false, false]) (xK l hL hM me op.obj log ⟨0, gone, 0, 0, 0⟩) (by exact rfl) (by kernel_rfl) (by exact rfl) (fun a w => Tryz.call37 a w) (by exact rfl) (by exact rfl) (by exact by (repeat (first | exact trivial | refine ⟨⟨rfl, rfl⟩, ?_⟩ | refine ⟨rfl, ?_⟩))) (by exact rfl) (by exact rfl) (by exact rfl) (by exact rfl) (by exact rfl) (by exact ⟨.inl rfl, .inr rfl, .inr rfl, trivial⟩) (by exact ⟨rfl, rfl, trivial⟩) (fun r ck kf w' cl' own' hi => ?_)
     have hlo := hlk _ _ r ck kf hi rfl
     clear hi
     refine jD9 (i := 4) (j := 8) (by kernel_rfl) ?_ ?_
     ·skip
      refine kQ (listed' := #[true, true, true, true, true, false, false, false, false, false, false]) rfl (by kernel_rfl) ?_
      refine jA1 hlo rfl rfl rfl rfl rfl rfl ?_
      refine jD (nq ?_)
      refine jK (i := 5) (listed' := #[true, true, true, true, true, true, false, false, false, false, false]) (by kernel_rfl) (by kernel_rfl) (by kernel_rfl) (by kernel_rfl) (fun _ _ h => by cases h.1) rfl rfl rfl (yB rfl rfl rfl) ?_
      refine jK (i := 6) (listed' := #[true, true, true, true, true, true, true, false, false, false, false]) (by kernel_rfl) (by kernel_rfl) (by kernel_rfl) (by kernel_rfl) (fun _ _ h => by cases h.1) rfl rfl rfl (jV rfl rfl rfl rfl) ?_
      refine jK (i := 7) (listed' := #[true, true, true, true, true, true, true, true, false, false, false]) (by kernel_rfl) (by kernel_rfl) (by kernel_rfl) (by kernel_rfl) (fun _ _ h => by cases h.1) rfl rfl rfl (jV rfl rfl rfl rfl) ?_
      refine kC (i := 8) (by kernel_rfl) ?_
      refine kQ (listed' := #[true, true, true, true, true, true, true, true, true, false, false]) rfl (by kernel_rfl) ?_
      refine a_b (jL jB 58 rfl rfl rfl rfl) rfl rfl rfl rfl ?_
      refine jD (nq ?_)
      refine kC (i := 9) (by kernel_rfl) ?_
      refine kQ (listed' := #[true, true, true, true, true, true, true, true, true, true, false]) rfl (by kernel_rfl) ?_
      refine z5 (hl := hf1) (hsz := hf2) (hst := hf3 _) ?_
      refine jD (nq ?_)
      refine kC (i := 10) (by kernel_rfl) ?_
      refine kQ (listed' := #[true, true, true, true, true, true, true, true, true, true, true]) rfl (by kernel_rfl) ?_
      refine z2 ?_
      refine jD (nq ?_)
      refine kN (by kernel_rfl) ⟨rfl, (), trivial, zX (hb := by exact ⟨⟨rfl, rfl⟩, ⟨rfl, rfl⟩, ⟨rfl, rfl⟩, ⟨rfl, rfl⟩, ⟨rfl, hfnd _ _ rfl rfl⟩, ⟨rfl, rfl⟩, ⟨rfl, rfl⟩, ⟨rfl, rfl⟩, ⟨rfl, rfl⟩, trivial⟩)⟩
     ·skip
      refine kQ (listed' := #[true, true, true, true, false, false, false, false, true, false, false]) rfl (by kernel_rfl) ?_
      refine a_b (jL jB 58 rfl rfl rfl rfl) rfl rfl rfl rfl ?_
      refine jD (nq ?_)
      refine kC (i := 4) (by kernel_rfl) ?_
      refine kQ (listed' := #[true, true, true, true, true, false, false, false, true, false, false]) rfl (by kernel_rfl) ?_
      refine jA1 hlo rfl rfl rfl rfl rfl rfl ?_
      refine jD (nq ?_)
      refine jK (i := 5) (listed' := #[true, true, true, true, true, true, false, false, true, false, false]) (by kernel_rfl) (by kernel_rfl) (by kernel_rfl) (by kernel_rfl) (fun _ _ h => by cases h.1) rfl rfl rfl (yB rfl rfl rfl) ?_
      refine jK (i := 6) (listed' := #[true, true, true, true, true, true, true, false, true, false, false]) (by kernel_rfl) (by kernel_rfl) (by kernel_rfl) (by kernel_rfl) (fun _ _ h => by cases h.1) rfl rfl rfl (jV rfl rfl rfl rfl) ?_
      refine jK (i := 7) (listed' := #[true, true, true, true, true, true, true, true, true, false, false]) (by kernel_rfl) (by kernel_rfl) (by kernel_rfl) (by kernel_rfl) (fun _ _ h => by cases h.1) rfl rfl rfl (jV rfl rfl rfl rfl) ?_
      refine kC (i := 9) (by kernel_rfl) ?_
      refine kQ (listed' := #[true, true, true, true, true, true, true, true, true, true, false]) rfl (by kernel_rfl) ?_
      refine z5 (hl := hf1) (hsz := hf2) (hst := hf3 _) ?_
      refine jD (nq ?_)
      refine kC (i := 10) (by kernel_rfl) ?_
      refine kQ (listed' := #[true, true, true, true, true, true, true, true, true, true, true]) rfl (by kernel_rfl) ?_
      refine z2 ?_
      refine jD (nq ?_)
      refine kN (by kernel_rfl) ⟨rfl, (), trivial, zX (hb := by exact ⟨⟨rfl, rfl⟩, ⟨rfl, rfl⟩, ⟨rfl, rfl⟩, ⟨rfl, rfl⟩, ⟨rfl, hfnd _ _ rfl rfl⟩, ⟨rfl, rfl⟩, ⟨rfl, rfl⟩, ⟨rfl, rfl⟩, ⟨rfl, rfl⟩, trivial⟩)⟩
    ·skip
     refine kQ (listed' := #[true, false, true, true, false, false, false, false, true, false, false]) rfl (by kernel_rfl) ?_
     refine a_b (jL jB 58 rfl rfl rfl rfl) rfl rfl rfl rfl ?_
     refine jD (nq ?_)
     refine kC (i := 1) (by kernel_rfl) ?_
     refine jH2 (LL := #[true, true, true, true, false, false, false, false, true, false, false]) (xK l hL hM me op.obj log ⟨0, gone, 0, 0, 0⟩) (by exact rfl) (by kernel_rfl) (by exact rfl) (fun a w => Tryz.call37 a w) (by exact rfl) (by exact rfl) (by exact by (repeat (first | exact trivial | refine ⟨⟨rfl, rfl⟩, ?_⟩ | refine ⟨rfl, ?_⟩))) (by exact rfl) (by exact rfl) (by exact rfl) (by exact rfl) (by exact rfl) (by exact ⟨.inl rfl, .inr rfl, .inr rfl, trivial⟩) (by exact ⟨rfl, rfl, trivial⟩) (fun r ck kf w' cl' own' hi => ?_)
     have hlo := hlk _ _ r ck kf hi rfl
     clear hi
     refine kC (i := 4) (by kernel_rfl) ?_
     refine kQ (listed' := #[true, true, true, true, true, false, false, false, true, false, false]) rfl (by kernel_rfl) ?_
     refine jA1 hlo rfl rfl rfl rfl rfl rfl ?_
     refine jD (nq ?_)
     refine jK (i := 5) (listed' := #[true, true, true, true, true, true, false, false, true, false, false]) (by kernel_rfl) (by kernel_rfl) (by kernel_rfl) (by kernel_rfl) (fun _ _ h => by cases h.1) rfl rfl rfl (yB rfl rfl rfl) ?_
     refine jK (i := 6) (listed' := #[true, true, true, true, true, true, true, false, true, false, false]) (by kernel_rfl) (by kernel_rfl) (by kernel_rfl) (by kernel_rfl) (fun _ _ h => by cases h.1) rfl rfl rfl (jV rfl rfl rfl rfl) ?_
     refine jK (i := 7) (listed' := #[true, true, true, true, true, true, true, true, true, false, false]) (by kernel_rfl) (by kernel_rfl) (by kernel_rfl) (by kernel_rfl) (fun _ _ h => by cases h.1) rfl rfl rfl (jV rfl rfl rfl rfl) ?_
     refine kC (i := 9) (by kernel_rfl) ?_
     refine kQ (listed' := #[true, true, true, true, true, true, true, true, true, true, false]) rfl (by kernel_rfl) ?_
     refine z5 (hl := hf1) (hsz := hf2) (hst := hf3 _) ?_
     refine jD (nq ?_)
     refine kC (i := 10) (by kernel_rfl) ?_
     refine kQ (listed' := #[true, true, true, true, true, true, true, true, true, true, true]) rfl (by kernel_rfl) ?_
     refine z2 ?_
     refine jD (nq ?_)
     refine kN (by kernel_rfl) ⟨rfl, (), trivial, zX (hb := by exact ⟨⟨rfl, rfl⟩, ⟨rfl, rfl⟩, ⟨rfl, rfl⟩, ⟨rfl, rfl⟩, ⟨rfl, hfnd _ _ rfl rfl⟩, ⟨rfl, rfl⟩, ⟨rfl, rfl⟩, ⟨rfl, rfl⟩, ⟨rfl, rfl⟩, trivial⟩)⟩
   ·skip
    refine kQ (listed' := #[false, false, true, true, false, false, false, false, true, false, false]) rfl (by kernel_rfl) ?_
    refine a_b (jL jB 58 rfl rfl rfl rfl) rfl rfl rfl rfl ?_
    refine jD (nq ?_)
    refine kC (i := 0) (by kernel_rfl) ?_
    refine kQ (listed' := #[true, false, true, true, false, false, false, false, true, false, false]) rfl (by kernel_rfl) ?_
    refine z2 ?_
    refine jD (nq ?_)
    refine kC (i := 1) (by kernel_rfl) ?_
    refine jH2 (LL := #[true, true, true, true, false, false, false, false, true, false, false]) (xK l hL hM me op.obj log ⟨0, gone, 0, 0, 0⟩) (by exact rfl) (by kernel_rfl) (by exact rfl) (fun a w => Tryz.call37 a w) (by exact rfl) (by exact rfl) (by exact by (repeat (first | exact trivial | refine ⟨⟨rfl, rfl⟩, ?_⟩ | refine ⟨rfl, ?_⟩))) (by exact rfl) (by exact rfl) (by exact rfl) (by exact rfl) (by exact rfl) (by exact ⟨.inl rfl, .inr rfl, .inr rfl, trivial⟩) (by exact ⟨rfl, rfl, trivial⟩) (fun r ck kf w' cl' own' hi => ?_)
    have hlo := hlk _ _ r ck kf hi rfl
    clear hi
    refine kC (i := 4) (by kernel_rfl) ?_
    refine kQ (listed' := #[true, true, true, true, true, false, false, false, true, false, false]) rfl (by kernel_rfl) ?_
    refine jA1 hlo rfl rfl rfl rfl rfl rfl ?_
    refine jD (nq ?_)
    refine jK (i := 5) (listed' := #[true, true, true, true, true, true, false, false, true, false, false]) (by kernel_rfl) (by kernel_rfl) (by kernel_rfl) (by kernel_rfl) (fun _ _ h => by cases h.1) rfl rfl rfl (yB rfl rfl rfl) ?_
    refine jK (i := 6) (listed' := #[true, true, true, true, true, true, true, false, true, false, false]) (by kernel_rfl) (by kernel_rfl) (by kernel_rfl) (by kernel_rfl) (fun _ _ h => by cases h.1) rfl rfl rfl (jV rfl rfl rfl rfl) ?_
    refine jK (i := 7) (listed' := #[true, true, true, true, true, true, true, true, true, false, false]) (by kernel_rfl) (by kernel_rfl) (by kernel_rfl) (by kernel_rfl) (fun _ _ h => by cases h.1) rfl rfl rfl (jV rfl rfl rfl rfl) ?_
    refine kC (i := 9) (by kernel_rfl) ?_
    refine kQ (listed' := #[true, true, true, true, true, true, true, true, true, true, false]) rfl (by kernel_rfl) ?_
    refine z5 (hl := hf1) (hsz := hf2) (hst := hf3 _) ?_
    refine jD (nq ?_)
    refine kC (i := 10) (by kernel_rfl) ?_
    refine kQ (listed' := #[true, true, true, true, true, true, true, true, true, true, true]) rfl (by kernel_rfl) ?_
    refine z2 ?_
    refine jD (nq ?_)
    refine kN (by kernel_rfl) ⟨rfl, (), trivial, zX (hb := by exact ⟨⟨rfl, rfl⟩, ⟨rfl, rfl⟩, ⟨rfl, rfl⟩, ⟨rfl, rfl⟩, ⟨rfl, hfnd _ _ rfl rfl⟩, ⟨rfl, rfl⟩, ⟨rfl, rfl⟩, ⟨rfl, rfl⟩, ⟨rfl, rfl⟩, trivial⟩)⟩
  ·skip
   refine kQ (listed' := #[false, false, true, false, false, false, false, false, true, false, false]) rfl (by kernel_rfl) ?_
   refine a_b (jL jB 58 rfl rfl rfl rfl) rfl rfl rfl rfl ?_
   refine jD (nq ?_)
   refine jD9 (i := 0) (j := 3) (by kernel_rfl) ?_ ?_
   ·skip
    refine kQ (listed' := #[true, false, true, false, false, false, false, false, true, false, false]) rfl (by kernel_rfl) ?_
    refine z2 ?_
    refine jD (nq ?_)
    refine jD9 (i := 1) (j := 3) (by kernel_rfl) ?_ ?_
    ·skip
     refine jH2 (LL := #[true, true, true, false, false, false, false, false, true, false, false]) (xK l hL hM me op.obj log ⟨0, gone, 0, 0, 0⟩) (by exact rfl) (by kernel_rfl) (by exact rfl) (fun a w => Tryz.call37 a w) (by exact rfl) (by exact rfl) (by exact by (repeat (first | exact trivial | refine ⟨⟨rfl, rfl⟩, ?_⟩ | refine ⟨rfl, ?_⟩))) (by exact rfl) (by exact rfl) (by exact rfl) (by exact rfl) (by exact rfl) (by exact ⟨.inl rfl, .inr rfl, .inr rfl, trivial⟩) (by exact ⟨rfl, rfl, trivial⟩) (fun r ck kf w' cl' own' hi => ?_)
     have hlo := hlk _ _ r ck kf hi rfl
     clear hi
     refine kC (i := 3) (by kernel_rfl) ?_
     refine kQ (listed' := #[true, true, true, true, false, false, false, false, true, false, false]) rfl (by kernel_rfl) ?_
     refine z2 ?_
     refine jD (nq ?_)
     refine kC (i := 4) (by kernel_rfl) ?_
     refine kQ (listed' := #[true, true, true, true, true, false, false, false, true, false, false]) rfl (by kernel_rfl) ?_
     refine jA1 hlo rfl rfl rfl rfl rfl rfl ?_
     refine jD (nq ?_)
     refine jK (i := 5) (listed' := #[true, true, true, true, true, true, false, false, true, false, false]) (by kernel_rfl) (by kernel_rfl) (by kernel_rfl) (by kernel_rfl) (fun _ _ h => by cases h.1) rfl rfl rfl (yB rfl rfl rfl) ?_
     refine jK (i := 6) (listed' := #[true, true, true, true, true, true, true, false, true, false, false]) (by kernel_rfl) (by kernel_rfl) (by kernel_rfl) (by kernel_rfl) (fun _ _ h => by cases h.1) rfl rfl rfl (jV rfl rfl rfl rfl) ?_
     refine jK (i := 7) (listed' := #[true, true, true, true, true, true, true, true, true, false, false]) (by kernel_rfl) (by kernel_rfl) (by kernel_rfl) (by kernel_rfl) (fun _ _ h => by cases h.1) rfl rfl rfl (jV rfl rfl rfl rfl) ?_
     refine kC (i := 9) (by kernel_rfl) ?_
     refine kQ (listed' := #[true, true, true, true, true, true, true, true, true, true, false]) rfl (by kernel_rfl) ?_
     refine z5 (hl := hf1) (hsz := hf2) (hst := hf3 _) ?_
     refine jD (nq ?_)
     refine kC (i := 10) (by kernel_rfl) ?_
     refine kQ (listed' := #[true, true, true, true, true, true, true, true, true, true, true]) rfl (by kernel_rfl) ?_
     refine z2 ?_
     refine jD (nq ?_)
     refine kN (by kernel_rfl) ⟨rfl, (), trivial, zX (hb := by exact ⟨⟨rfl, rfl⟩, ⟨rfl, rfl⟩, ⟨rfl, rfl⟩, ⟨rfl, rfl⟩, ⟨rfl, hfnd _ _ rfl rfl⟩, ⟨rfl, rfl⟩, ⟨rfl, rfl⟩, ⟨rfl, rfl⟩, ⟨rfl, rfl⟩, trivial⟩)⟩
    ·skip
     refine kQ (listed' := #[true, false, true, true, false, false, false, false, true, false, false]) rfl (by kernel_rfl) ?_
     refine z2 ?_
     refine jD (nq ?_)
     refine kC (i := 1) (by kernel_rfl) ?_
     refine jH2 (LL := #[true, true, true, true, false, false, false, false, true, false, false]) (xK l hL hM me op.obj log ⟨0, gone, 0, 0, 0⟩) (by exact rfl) (by kernel_rfl) (by exact rfl) (fun a w => Tryz.call37 a w) (by exact rfl) (by exact rfl) (by exact by (repeat (first | exact trivial | refine ⟨⟨rfl, rfl⟩, ?_⟩ | refine ⟨rfl, ?_⟩))) (by exact rfl) (by exact rfl) (by exact rfl) (by exact rfl) (by exact rfl) (by exact ⟨.inl rfl, .inr rfl, .inr rfl, trivial⟩) (by exact ⟨rfl, rfl, trivial⟩) (fun r ck kf w' cl' own' hi => ?_)
     have hlo := hlk _ _ r ck kf hi rfl
     clear hi
     refine kC (i := 4) (by kernel_rfl) ?_
     refine kQ (listed' := #[true, true, true, true, true, false, false, false, true, false, false]) rfl (by kernel_rfl) ?_
     refine jA1 hlo rfl rfl rfl rfl rfl rfl ?_
     refine jD (nq ?_)
     refine jK (i := 5) (listed' := #[true, true, true, true, true, true, false, false, true, false, false]) (by kernel_rfl) (by kernel_rfl) (by kernel_rfl) (by kernel_rfl) (fun _ _ h => by cases h.1) rfl rfl rfl (yB rfl rfl rfl) ?_
     refine jK (i := 6) (listed' := #[true, true, true, true, true, true, true, false, true, false, false]) (by kernel_rfl) (by kernel_rfl) (by kernel_rfl) (by kernel_rfl) (fun _ _ h => by cases h.1) rfl rfl rfl (jV rfl rfl rfl rfl) ?_
     refine jK (i := 7) (listed' := #[true, true, true, true, true, true, true, true, true, false, false]) (by kernel_rfl) (by kernel_rfl) (by kernel_rfl) (by kernel_rfl) (fun _ _ h => by cases h.1) rfl rfl rfl (jV rfl rfl rfl rfl) ?_
     refine kC (i := 9) (by kernel_rfl) ?_
     refine kQ (listed' := #[true, true, true, true, true, true, true, true, true, true, false]) rfl (by kernel_rfl) ?_
     refine z5 (hl := hf1) (hsz := hf2) (hst := hf3 _) ?_
     refine jD (nq ?_)
     refine kC (i := 10) (by kernel_rfl) ?_
     refine kQ (listed' := #[true, true, true, true, true, true, true, true, true, true, true]) rfl (by kernel_rfl) ?_
     refine z2 ?_
     refine jD (nq ?_)
     refine kN (by kernel_rfl) ⟨rfl, (), trivial, zX (hb := by exact ⟨⟨rfl, rfl⟩, ⟨rfl, rfl⟩, ⟨rfl, rfl⟩, ⟨rfl, rfl⟩, ⟨rfl, hfnd _ _ rfl rfl⟩, ⟨rfl, rfl⟩, ⟨rfl, rfl⟩, ⟨rfl, rfl⟩, ⟨rfl, rfl⟩, trivial⟩)⟩
   ·skip
    refine kQ (listed' := #[false, false, true, true, false, false, false, false, true, false, false]) rfl (by kernel_rfl) ?_
    refine z2 ?_
    refine jD (nq ?_)
    refine kC (i := 0) (by kernel_rfl) ?_
    refine kQ (listed' := #[true, false, true, true, false, false, false, false, true, false, false]) rfl (by kernel_rfl) ?_
    refine z2 ?_
    refine jD (nq ?_)
    refine kC (i := 1) (by kernel_rfl) ?_
    refine jH2 (LL := #[true, true, true, true, false, false, false, false, true, false, false]) (xK l hL hM me op.obj log ⟨0, gone, 0, 0, 0⟩) (by exact rfl) (by kernel_rfl) (by exact rfl) (fun a w => Tryz.call37 a w) (by exact rfl) (by exact rfl) (by exact by (repeat (first | exact trivial | refine ⟨⟨rfl, rfl⟩, ?_⟩ | refine ⟨rfl, ?_⟩))) (by exact rfl) (by exact rfl) (by exact rfl) (by exact rfl) (by exact rfl) (by exact ⟨.inl rfl, .inr rfl, .inr rfl, trivial⟩) (by exact ⟨rfl, rfl, trivial⟩) (fun r ck kf w' cl' own' hi => ?_)
    have hlo := hlk _ _ r ck kf hi rfl
    clear hi
    refine kC (i := 4) (by kernel_rfl) ?_
    refine kQ (listed' := #[true, true, true, true, true, false, false, false, true, false, false]) rfl (by kernel_rfl) ?_
    refine jA1 hlo rfl rfl rfl rfl rfl rfl ?_
    refine jD (nq ?_)
    refine jK (i := 5) (listed' := #[true, true, true, true, true, true, false, false, true, false, false]) (by kernel_rfl) (by kernel_rfl) (by kernel_rfl) (by kernel_rfl) (fun _ _ h => by cases h.1) rfl rfl rfl (yB rfl rfl rfl) ?_
    refine jK (i := 6) (listed' := #[true, true, true, true, true, true, true, false, true, false, false]) (by kernel_rfl) (by kernel_rfl) (by kernel_rfl) (by kernel_rfl) (fun _ _ h => by cases h.1) rfl rfl rfl (jV rfl rfl rfl rfl) ?_
    refine jK (i := 7) (listed' := #[true, true, true, true, true, true, true, true, true, false, false]) (by kernel_rfl) (by kernel_rfl) (by kernel_rfl) (by kernel_rfl) (fun _ _ h => by cases h.1) rfl rfl rfl (jV rfl rfl rfl rfl) ?_
    refine kC (i := 9) (by kernel_rfl) ?_
    refine kQ (listed' := #[true, true, true, true, true, true, true, true, true, true, false]) rfl (by kernel_rfl) ?_
    refine z5 (hl := hf1) (hsz := hf2) (hst := hf3 _) ?_
    refine jD (nq ?_)
    refine kC (i := 10) (by kernel_rfl) ?_
    refine kQ (listed' := #[true, true, true, true, true, true, true, true, true, true, true]) rfl (by kernel_rfl) ?_
    refine z2 ?_
    refine jD (nq ?_)
    refine kN (by kernel_rfl) ⟨rfl, (), trivial, zX (hb := by exact ⟨⟨rfl, rfl⟩, ⟨rfl, rfl⟩, ⟨rfl, rfl⟩, ⟨rfl, rfl⟩, ⟨rfl, hfnd _ _ rfl rfl⟩, ⟨rfl, rfl⟩, ⟨rfl, rfl⟩, ⟨rfl, rfl⟩, ⟨rfl, rfl⟩, trivial⟩)⟩
 ·clear hlk
  generalize hmp : xB l op.obj 0 = mp at hE
  have hmap := map_c l hL hM op.obj 0 (by omega)
  rw [hmp] at hmap
  cases kn
  ·have hkn' : ¬ (1 ≤ op.kind ∧ op.kind ≤ 3) := of_decide_eq_false hkn.symm
   rw [if_pos (by omega)] at hE
   refine go ?_
   refine a_q (jA (jS1 gone hg) rfl (fun a w => Tryz.call39 a w) rfl) rfl rfl rfl ?_
   refine go ?_
   first | refine jF rfl ?_ | refine jC rfl ?_
   rw [← hE]
  have hkn' : 1 ≤ op.kind ∧ op.kind ≤ 3 := of_decide_eq_true hkn.symm
  refine go ?_
  refine a_q (jA (hmap) rfl (fun a w => Tryz.call38 a w) rfl) rfl rfl rfl ?_
  refine go ?_
  generalize k1 : decide (mp < 0) = cc; cases cc
  rotate_left
  ·have k1' := of_decide_eq_true k1
   rw [if_pos (by omega)] at hE
   refine go ?_
   refine a_q (jA (jS1 gone hg) rfl (fun a w => Tryz.call39 a w) rfl) rfl rfl rfl ?_
   refine go ?_
   first | refine jF rfl ?_ | refine jC rfl ?_
   rw [← hE]
  have k1' := of_decide_eq_false k1
  refine go ?_
  generalize k2 : decide (op.a < 0) = cc; cases cc
  rotate_left
  ·have k2' := of_decide_eq_true k2
   rw [if_pos (by omega)] at hE
   refine go ?_
   refine a_q (jA (jS1 gone hg) rfl (fun a w => Tryz.call39 a w) rfl) rfl rfl rfl ?_
   refine go ?_
   first | refine jF rfl ?_ | refine jC rfl ?_
   rw [← hE]
  have k2' := of_decide_eq_false k2
  refine go ?_
  generalize k3 : decide (op.a ≥ 65536) = cc; cases cc
  rotate_left
  ·have k3' := of_decide_eq_true k3
   rw [if_pos (by omega)] at hE
   refine go ?_
   refine a_q (jA (jS1 gone hg) rfl (fun a w => Tryz.call39 a w) rfl) rfl rfl rfl ?_
   refine go ?_
   first | refine jF rfl ?_ | refine jC rfl ?_
   rw [← hE]
  have k3' := of_decide_eq_false k3
  rw [if_neg (by omega)] at hE
  refine go ?_
  refine yX (hpl rfl (by omega) (by omega)) rfl (fun a w => Tryz.call40 a w) rfl rfl (by exact ⟨⟨rfl, rfl⟩, ⟨rfl, rfl⟩, ⟨rfl, rfl⟩, ⟨rfl, rfl⟩, ⟨rfl, hfnd _ _ rfl rfl⟩, ⟨rfl, rfl⟩, ⟨rfl, rfl⟩, trivial⟩) trivial rfl rfl rfl rfl ?_ ?_
  ·rintro d bs ⟨rfl, _⟩; exact trivial
  rintro d bs ⟨rfl, ⟨x, s', hm, rfl⟩ | ⟨a, hm, rfl⟩⟩
  ·rw [hm] at hE
   refine go ?_
   first | refine jF rfl ?_ | refine jC rfl ?_
   rw [← hE]; rfl
  ·rw [hm] at hE
   refine go ?_
   first | refine jF rfl ?_ | refine jC rfl ?_
   rw [← hE]; rfl
end Go.Proofs.YtkkldicehapklaaGreat
