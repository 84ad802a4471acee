/- A map's programs are run by their logs: split.Next: its walk. -/
import Derived.Test.YtkkldicehapklaaGreatH7
namespace Go.Proofs.YtkkldicehapklaaGreat
open Go.RowKit
set_option maxRecDepth 100000

set_option maxHeartbeats 16000000 in
theorem hnext_i (fnd : Dt) (kn : Bool) (l : LayT) (hL : LayOk l) (hM : LayM l) (me : Int) (gone : List (Int × Int)) (op : OpT) (log : List ResT) (hg : gone.length ≤ 100000) (hf1 : leaves fnd = true) (hf2 : Nat.beq fnd.cells.length 1 = true) (hf3 : ∀ x, storeK [x] 0 fnd some = some [fnd]) (hfnd : ∀ B G, B 53 = true → B 54 = true → Dt.ok.oks B G [fnd] = true) (hkn : kn = decide (1 ≤ op.kind ∧ op.kind ≤ 3))
    (hlk : ∀ (Γ Γ' : Ctx) (r ck : Nat) (kf : Nat → Nat), InM Γ Γ' r (behE kf) ck → Γ'.kb = kbOf kf [53, 54] → LookC Tryz.prog Γ' 100 r op.kind fnd kn)
    (hpl : kn = true → 0 ≤ op.a → op.a < 65536 → ImpC Tryz.prog 40 [] [.ptr 40 0, .fn (.func 41) [] [.ptr 55 0, .ptr 56 0, .ptr 57 0, .ptr 58 0]] (nxB fnd l me op log ⟨0, gone, 0, 0, 0⟩) (PlayR (splitM l me op log ⟨0, gone, 0, 0, 0⟩))) :
    PureC Tryz.prog 18 [dLay l, dI me, dGone gone, .agg [dI op.kind, dI op.obj, dI op.a, dI op.b], dLog log] (.tup [dAcc (hnextF l me gone op log).1, dOut (hnextF l me gone op log).2.1, dB (hnextF l me gone op log).2.2]) := by
  generalize hE : hnextF l me gone op log = E
  unfold hnextF at hE
  refine pure_fin tabOk Tryz.func18 rfl Tryz.ntmps18 rfl rfl rfl fun w cl => ?_
  refine goC ?_
  refine a_b (box_step 56 rfl rfl rfl rfl) rfl rfl rfl rfl ?_
  refine a_b (box_step 57 rfl rfl rfl rfl) rfl rfl rfl rfl ?_
  refine a_b (alloc_step tabOk 60 rfl rfl rfl rfl) rfl rfl rfl rfl ?_
  refine a_b (alloc_step tabOk 61 rfl rfl rfl rfl) rfl rfl rfl rfl ?_
  refine z2 ?_
  refine aops_nil ?_
  refine goC ?_
  refine z2 ?_
  refine z2 ?_
  refine z2 ?_
  refine z2 ?_
  refine z2 ?_
  refine z2 ?_
  refine z6 ?_
  refine a_b (box_step 40 rfl rfl rfl rfl) rfl rfl rfl rfl ?_
  refine a_b (alloc_step tabOk 55 rfl rfl rfl rfl) rfl rfl rfl rfl ?_
  refine go ?_
  refine awp_ghost (σ' := ⟨[(13, .ptr 55 0), (12, dB false), (11, .ptr 61 0), (10, .ptr 60 0), (8, .ptr 57 0), (5, .ptr 56 0), (2, dGone gone)], [(40, prgD l me op.obj log ⟨0, gone, 0, 0, 0⟩), (55, [.ptr 40 0]), (56, layD l), (57, [dI op.kind, dI op.obj, dI op.a, dI op.b]), (60, [dI 0, dI 0, dI 0, dI 0]), (61, [dI 0, dB false, dI 0, dI 0, .p (.sl true 0 [])])], []⟩) zX ?_
  refine awp_cutx (fun _ : Unit => True) (fun _ => ⟨[(15, dB kn), (14, .ptr 58 0), (13, .ptr 55 0), (12, dB false), (11, .ptr 61 0), (10, .ptr 60 0), (8, .ptr 57 0), (5, .ptr 56 0), (2, dGone gone)], [(40, prgD l me op.obj log ⟨0, gone, 0, 0, 0⟩), (55, [.ptr 40 0]), (56, layD l), (57, [dI op.kind, dI op.obj, dI op.a, dI op.b]), (58, [fnd]), (53, [.ptr 40 0]), (54, [dI (mapF l op.obj 1)]), (60, [dI 0, dI 0, dI 0, dI 0]), (61, [dI 0, dB false, dI 0, dI 0, .p (.sl true 0 [])])], []⟩) ?_ (fun _ _ => ?_)
  · skip
    refine awp_region_t rfl (aany_normal ?_)
    refine aany_take (i := 2) (listed' := #[false, false, true, false, false, false, false, false, false, false, false]) (by kernel_rfl) (by kernel_rfl) (by kernel_rfl) (by kernel_rfl) (fun _ _ h => by cases h.1) rfl rfl rfl (y_field tabOk rfl rfl rfl rfl rfl) ?_
    refine aany_w3 (i := 0) (j := 3) (m := 8) (by kernel_rfl) ?_ ?_ ?_
    · skip
      refine ow_op (listed' := #[true, false, true, false, false, false, false, false, false, false, false]) rfl (by kernel_rfl) ?_
      refine z2 ?_
      refine aops_nil (nq ?_)
      refine aany_w3 (i := 1) (j := 3) (m := 8) (by kernel_rfl) ?_ ?_ ?_
      · skip
        refine ow_map (LL := #[true, true, true, false, false, false, false, false, false, false, false]) (behind_m l hL hM me op.obj log ⟨0, gone, 0, 0, 0⟩) (by exact rfl) (by kernel_rfl) (by exact rfl) (fun a w => Tryz.call37 a w) (by exact rfl) (by exact rfl) (by exact by (repeat (first | exact trivial | refine ⟨⟨rfl, rfl⟩, ?_⟩ | refine ⟨rfl, ?_⟩))) (by exact rfl) (by exact rfl) (by exact rfl) (by exact rfl) (by exact rfl) (by exact ⟨.inl rfl, .inr rfl, .inr rfl, trivial⟩) (by exact ⟨rfl, rfl, trivial⟩) (fun r ck kf w' cl' own' hi => ?_)
        have hlo := hlk _ _ r ck kf hi rfl
        clear hi
        refine aany_w2 (i := 3) (j := 8) (by kernel_rfl) ?_ ?_
        · skip
          refine ow_op (listed' := #[true, true, true, true, false, false, false, false, false, false, false]) rfl (by kernel_rfl) ?_
          refine z2 ?_
          refine aops_nil (nq ?_)
          refine aany_w2 (i := 4) (j := 8) (by kernel_rfl) ?_ ?_
          · skip
            refine ow_op (listed' := #[true, true, true, true, true, false, false, false, false, false, false]) rfl (by kernel_rfl) ?_
            refine a_look hlo rfl rfl rfl rfl rfl rfl ?_
            refine aops_nil (nq ?_)
            refine aany_take (i := 5) (listed' := #[true, true, true, true, true, true, false, false, false, false, false]) (by kernel_rfl) (by kernel_rfl) (by kernel_rfl) (by kernel_rfl) (fun _ _ h => by cases h.1) rfl rfl rfl (y_move rfl rfl rfl) ?_
            refine aany_take (i := 6) (listed' := #[true, true, true, true, true, true, true, false, false, false, false]) (by kernel_rfl) (by kernel_rfl) (by kernel_rfl) (by kernel_rfl) (fun _ _ h => by cases h.1) rfl rfl rfl (y_extract rfl rfl rfl rfl) ?_
            refine aany_take (i := 7) (listed' := #[true, true, true, true, true, true, true, true, false, false, false]) (by kernel_rfl) (by kernel_rfl) (by kernel_rfl) (by kernel_rfl) (fun _ _ h => by cases h.1) rfl rfl rfl (y_extract rfl rfl rfl rfl) ?_
            refine aany_w1 (i := 8) (by kernel_rfl) ?_
            refine ow_op (listed' := #[true, true, true, true, true, true, true, true, true, false, false]) rfl (by kernel_rfl) ?_
            refine a_b (alloc_step tabOk 58 rfl rfl rfl rfl) rfl rfl rfl rfl ?_
            refine aops_nil (nq ?_)
            refine aany_w1 (i := 9) (by kernel_rfl) ?_
            refine ow_op (listed' := #[true, true, true, true, true, true, true, true, true, true, false]) rfl (by kernel_rfl) ?_
            refine z5 (hl := hf1) (hsz := hf2) (hst := hf3 _) ?_
            refine aops_nil (nq ?_)
            refine aany_w1 (i := 10) (by kernel_rfl) ?_
            refine ow_op (listed' := #[true, true, true, true, true, true, true, true, true, true, true]) rfl (by kernel_rfl) ?_
            refine z2 ?_
            refine aops_nil (nq ?_)
            refine aany_done (by kernel_rfl) ⟨rfl, (), trivial, zX (hb := by exact ⟨⟨rfl, rfl⟩, ⟨rfl, rfl⟩, ⟨rfl, rfl⟩, ⟨rfl, rfl⟩, ⟨rfl, hfnd _ _ rfl rfl⟩, ⟨rfl, rfl⟩, ⟨rfl, rfl⟩, ⟨rfl, rfl⟩, ⟨rfl, rfl⟩, trivial⟩)⟩
          · skip
            refine ow_op (listed' := #[true, true, true, true, false, false, false, false, true, false, false]) rfl (by kernel_rfl) ?_
            refine a_b (alloc_step tabOk 58 rfl rfl rfl rfl) rfl rfl rfl rfl ?_
            refine aops_nil (nq ?_)
            refine aany_w1 (i := 4) (by kernel_rfl) ?_
            refine ow_op (listed' := #[true, true, true, true, true, false, false, false, true, false, false]) rfl (by kernel_rfl) ?_
            refine a_look hlo rfl rfl rfl rfl rfl rfl ?_
            refine aops_nil (nq ?_)
            refine aany_take (i := 5) (listed' := #[true, true, true, true, true, true, false, false, true, false, false]) (by kernel_rfl) (by kernel_rfl) (by kernel_rfl) (by kernel_rfl) (fun _ _ h => by cases h.1) rfl rfl rfl (y_move rfl rfl rfl) ?_
            refine aany_take (i := 6) (listed' := #[true, true, true, true, true, true, true, false, true, false, false]) (by kernel_rfl) (by kernel_rfl) (by kernel_rfl) (by kernel_rfl) (fun _ _ h => by cases h.1) rfl rfl rfl (y_extract rfl rfl rfl rfl) ?_
            refine aany_take (i := 7) (listed' := #[true, true, true, true, true, true, true, true, true, false, false]) (by kernel_rfl) (by kernel_rfl) (by kernel_rfl) (by kernel_rfl) (fun _ _ h => by cases h.1) rfl rfl rfl (y_extract rfl rfl rfl rfl) ?_
            refine aany_w1 (i := 9) (by kernel_rfl) ?_
            refine ow_op (listed' := #[true, true, true, true, true, true, true, true, true, true, false]) rfl (by kernel_rfl) ?_
            refine z5 (hl := hf1) (hsz := hf2) (hst := hf3 _) ?_
            refine aops_nil (nq ?_)
            refine aany_w1 (i := 10) (by kernel_rfl) ?_
            refine ow_op (listed' := #[true, true, true, true, true, true, true, true, true, true, true]) rfl (by kernel_rfl) ?_
            refine z2 ?_
            refine aops_nil (nq ?_)
            refine aany_done (by kernel_rfl) ⟨rfl, (), trivial, zX (hb := by exact ⟨⟨rfl, rfl⟩, ⟨rfl, rfl⟩, ⟨rfl, rfl⟩, ⟨rfl, rfl⟩, ⟨rfl, hfnd _ _ rfl rfl⟩, ⟨rfl, rfl⟩, ⟨rfl, rfl⟩, ⟨rfl, rfl⟩, ⟨rfl, rfl⟩, trivial⟩)⟩
        · skip
          refine ow_op (listed' := #[true, true, true, false, false, false, false, false, true, false, false]) rfl (by kernel_rfl) ?_
          refine a_b (alloc_step tabOk 58 rfl rfl rfl rfl) rfl rfl rfl rfl ?_
          refine aops_nil (nq ?_)
          refine aany_w1 (i := 3) (by kernel_rfl) ?_
          refine ow_op (listed' := #[true, true, true, true, false, false, false, false, true, false, false]) rfl (by kernel_rfl) ?_
          refine z2 ?_
          refine aops_nil (nq ?_)
          refine aany_w1 (i := 4) (by kernel_rfl) ?_
          refine ow_op (listed' := #[true, true, true, true, true, false, false, false, true, false, false]) rfl (by kernel_rfl) ?_
          refine a_look hlo rfl rfl rfl rfl rfl rfl ?_
          refine aops_nil (nq ?_)
          refine aany_take (i := 5) (listed' := #[true, true, true, true, true, true, false, false, true, false, false]) (by kernel_rfl) (by kernel_rfl) (by kernel_rfl) (by kernel_rfl) (fun _ _ h => by cases h.1) rfl rfl rfl (y_move rfl rfl rfl) ?_
          refine aany_take (i := 6) (listed' := #[true, true, true, true, true, true, true, false, true, false, false]) (by kernel_rfl) (by kernel_rfl) (by kernel_rfl) (by kernel_rfl) (fun _ _ h => by cases h.1) rfl rfl rfl (y_extract rfl rfl rfl rfl) ?_
          refine aany_take (i := 7) (listed' := #[true, true, true, true, true, true, true, true, true, false, false]) (by kernel_rfl) (by kernel_rfl) (by kernel_rfl) (by kernel_rfl) (fun _ _ h => by cases h.1) rfl rfl rfl (y_extract rfl rfl rfl rfl) ?_
          refine aany_w1 (i := 9) (by kernel_rfl) ?_
          refine ow_op (listed' := #[true, true, true, true, true, true, true, true, true, true, false]) rfl (by kernel_rfl) ?_
          refine z5 (hl := hf1) (hsz := hf2) (hst := hf3 _) ?_
          refine aops_nil (nq ?_)
          refine aany_w1 (i := 10) (by kernel_rfl) ?_
          refine ow_op (listed' := #[true, true, true, true, true, true, true, true, true, true, true]) rfl (by kernel_rfl) ?_
          refine z2 ?_
          refine aops_nil (nq ?_)
          refine aany_done (by kernel_rfl) ⟨rfl, (), trivial, zX (hb := by exact ⟨⟨rfl, rfl⟩, ⟨rfl, rfl⟩, ⟨rfl, rfl⟩, ⟨rfl, rfl⟩, ⟨rfl, hfnd _ _ rfl rfl⟩, ⟨rfl, rfl⟩, ⟨rfl, rfl⟩, ⟨rfl, rfl⟩, ⟨rfl, rfl⟩, trivial⟩)⟩
      · skip
        refine ow_op (listed' := #[true, false, true, true, false, false, false, false, false, false, false]) rfl (by kernel_rfl) ?_
        refine z2 ?_
        refine aops_nil (nq ?_)
        refine aany_w2 (i := 1) (j := 8) (by kernel_rfl) ?_ ?_
        · skip
          refine ow_map (LL := #[true, true, true, true, false, false, false, false, false, false, false]) (behind_m l hL hM me op.obj log ⟨0, gone, 0, 0, 0⟩) (by exact rfl) (by kernel_rfl) (by exact rfl) (fun a w => Tryz.call37 a w) (by exact rfl) (by exact rfl) (by exact by (repeat (first | exact trivial | refine ⟨⟨rfl, rfl⟩, ?_⟩ | refine ⟨rfl, ?_⟩))) (by exact rfl) (by exact rfl) (by exact rfl) (by exact rfl) (by exact rfl) (by exact ⟨.inl rfl, .inr rfl, .inr rfl, trivial⟩) (by exact ⟨rfl, rfl, trivial⟩) (fun r ck kf w' cl' own' hi => ?_)
          have hlo := hlk _ _ r ck kf hi rfl
          clear hi
          refine aany_w2 (i := 4) (j := 8) (by kernel_rfl) ?_ ?_
          · skip
            refine ow_op (listed' := #[true, true, true, true, true, false, false, false, false, false, false]) rfl (by kernel_rfl) ?_
            refine a_look hlo rfl rfl rfl rfl rfl rfl ?_
            refine aops_nil (nq ?_)
            refine aany_take (i := 5) (listed' := #[true, true, true, true, true, true, false, false, false, false, false]) (by kernel_rfl) (by kernel_rfl) (by kernel_rfl) (by kernel_rfl) (fun _ _ h => by cases h.1) rfl rfl rfl (y_move rfl rfl rfl) ?_
            refine aany_take (i := 6) (listed' := #[true, true, true, true, true, true, true, false, false, false, false]) (by kernel_rfl) (by kernel_rfl) (by kernel_rfl) (by kernel_rfl) (fun _ _ h => by cases h.1) rfl rfl rfl (y_extract rfl rfl rfl rfl) ?_
            refine aany_take (i := 7) (listed' := #[true, true, true, true, true, true, true, true, false, false, false]) (by kernel_rfl) (by kernel_rfl) (by kernel_rfl) (by kernel_rfl) (fun _ _ h => by cases h.1) rfl rfl rfl (y_extract rfl rfl rfl rfl) ?_
            refine aany_w1 (i := 8) (by kernel_rfl) ?_
            refine ow_op (listed' := #[true, true, true, true, true, true, true, true, true, false, false]) rfl (by kernel_rfl) ?_
            refine a_b (alloc_step tabOk 58 rfl rfl rfl rfl) rfl rfl rfl rfl ?_
            refine aops_nil (nq ?_)
            refine aany_w1 (i := 9) (by kernel_rfl) ?_
            refine ow_op (listed' := #[true, true, true, true, true, true, true, true, true, true, false]) rfl (by kernel_rfl) ?_
            refine z5 (hl := hf1) (hsz := hf2) (hst := hf3 _) ?_
            refine aops_nil (nq ?_)
            refine aany_w1 (i := 10) (by kernel_rfl) ?_
            refine ow_op (listed' := #[true, true, true, true, true, true, true, true, true, true, true]) rfl (by kernel_rfl) ?_
            refine z2 ?_
            refine aops_nil (nq ?_)
            refine aany_done (by kernel_rfl) ⟨rfl, (), trivial, zX (hb := by exact ⟨⟨rfl, rfl⟩, ⟨rfl, rfl⟩, ⟨rfl, rfl⟩, ⟨rfl, rfl⟩, ⟨rfl, hfnd _ _ rfl rfl⟩, ⟨rfl, rfl⟩, ⟨rfl, rfl⟩, ⟨rfl, rfl⟩, ⟨rfl, rfl⟩, trivial⟩)⟩
          · skip
            refine ow_op (listed' := #[true, true, true, true, false, false, false, false, true, false, false]) rfl (by kernel_rfl) ?_
            refine a_b (alloc_step tabOk 58 rfl rfl rfl rfl) rfl rfl rfl rfl ?_
            refine aops_nil (nq ?_)
            refine aany_w1 (i := 4) (by kernel_rfl) ?_
            refine ow_op (listed' := #[true, true, true, true, true, false, false, false, true, false, false]) rfl (by kernel_rfl) ?_
            refine a_look hlo rfl rfl rfl rfl rfl rfl ?_
            refine aops_nil (nq ?_)
            refine aany_take (i := 5) (listed' := #[true, true, true, true, true, true, false, false, true, false, false]) (by kernel_rfl) (by kernel_rfl) (by kernel_rfl) (by kernel_rfl) (fun _ _ h => by cases h.1) rfl rfl rfl (y_move rfl rfl rfl) ?_
            refine aany_take (i := 6) (listed' := #[true, true, true, true, true, true, true, false, true, false, false]) (by kernel_rfl) (by kernel_rfl) (by kernel_rfl) (by kernel_rfl) (fun _ _ h => by cases h.1) rfl rfl rfl (y_extract rfl rfl rfl rfl) ?_
            refine aany_take (i := 7) (listed' := #[true, true, true, true, true, true, true, true, true, false, false]) (by kernel_rfl) (by kernel_rfl) (by kernel_rfl) (by kernel_rfl) (fun _ _ h => by cases h.1) rfl rfl rfl (y_extract rfl rfl rfl rfl) ?_
            refine aany_w1 (i := 9) (by kernel_rfl) ?_
            refine ow_op (listed' := #[true, true, true, true, true, true, true, true, true, true, false]) rfl (by kernel_rfl) ?_
            refine z5 (hl := hf1) (hsz := hf2) (hst := hf3 _) ?_
            refine aops_nil (nq ?_)
            refine aany_w1 (i := 10) (by kernel_rfl) ?_
            refine ow_op (listed' := #[true, true, true, true, true, true, true, true, true, true, true]) rfl (by kernel_rfl) ?_
            refine z2 ?_
            refine aops_nil (nq ?_)
            refine aany_done (by kernel_rfl) ⟨rfl, (), trivial, zX (hb := by exact ⟨⟨rfl, rfl⟩, ⟨rfl, rfl⟩, ⟨rfl, rfl⟩, ⟨rfl, rfl⟩, ⟨rfl, hfnd _ _ rfl rfl⟩, ⟨rfl, rfl⟩, ⟨rfl, rfl⟩, ⟨rfl, rfl⟩, ⟨rfl, rfl⟩, trivial⟩)⟩
        · skip
          refine ow_op (listed' := #[true, false, true, true, false, false, false, false, true, false, false]) rfl (by kernel_rfl) ?_
          refine a_b (alloc_step tabOk 58 rfl rfl rfl rfl) rfl rfl rfl rfl ?_
          refine aops_nil (nq ?_)
          refine aany_w1 (i := 1) (by kernel_rfl) ?_
          refine ow_map (LL := #[true, true, true, true, false, false, false, false, true, false, false]) (behind_m l hL hM me op.obj log ⟨0, gone, 0, 0, 0⟩) (by exact rfl) (by kernel_rfl) (by exact rfl) (fun a w => Tryz.call37 a w) (by exact rfl) (by exact rfl) (by exact by (repeat (first | exact trivial | refine ⟨⟨rfl, rfl⟩, ?_⟩ | refine ⟨rfl, ?_⟩))) (by exact rfl) (by exact rfl) (by exact rfl) (by exact rfl) (by exact rfl) (by exact ⟨.inl rfl, .inr rfl, .inr rfl, trivial⟩) (by exact ⟨rfl, rfl, trivial⟩) (fun r ck kf w' cl' own' hi => ?_)
          have hlo := hlk _ _ r ck kf hi rfl
          clear hi
          refine aany_w1 (i := 4) (by kernel_rfl) ?_
          refine ow_op (listed' := #[true, true, true, true, true, false, false, false, true, false, false]) rfl (by kernel_rfl) ?_
          refine a_look hlo rfl rfl rfl rfl rfl rfl ?_
          refine aops_nil (nq ?_)
          refine aany_take (i := 5) (listed' := #[true, true, true, true, true, true, false, false, true, false, false]) (by kernel_rfl) (by kernel_rfl) (by kernel_rfl) (by kernel_rfl) (fun _ _ h => by cases h.1) rfl rfl rfl (y_move rfl rfl rfl) ?_
          refine aany_take (i := 6) (listed' := #[true, true, true, true, true, true, true, false, true, false, false]) (by kernel_rfl) (by kernel_rfl) (by kernel_rfl) (by kernel_rfl) (fun _ _ h => by cases h.1) rfl rfl rfl (y_extract rfl rfl rfl rfl) ?_
          refine aany_take (i := 7) (listed' := #[true, true, true, true, true, true, true, true, true, false, false]) (by kernel_rfl) (by kernel_rfl) (by kernel_rfl) (by kernel_rfl) (fun _ _ h => by cases h.1) rfl rfl rfl (y_extract rfl rfl rfl rfl) ?_
          refine aany_w1 (i := 9) (by kernel_rfl) ?_
          refine ow_op (listed' := #[true, true, true, true, true, true, true, true, true, true, false]) rfl (by kernel_rfl) ?_
          refine z5 (hl := hf1) (hsz := hf2) (hst := hf3 _) ?_
          refine aops_nil (nq ?_)
          refine aany_w1 (i := 10) (by kernel_rfl) ?_
          refine ow_op (listed' := #[true, true, true, true, true, true, true, true, true, true, true]) rfl (by kernel_rfl) ?_
          refine z2 ?_
          refine aops_nil (nq ?_)
          refine aany_done (by kernel_rfl) ⟨rfl, (), trivial, zX (hb := by exact ⟨⟨rfl, rfl⟩, ⟨rfl, rfl⟩, ⟨rfl, rfl⟩, ⟨rfl, rfl⟩, ⟨rfl, hfnd _ _ rfl rfl⟩, ⟨rfl, rfl⟩, ⟨rfl, rfl⟩, ⟨rfl, rfl⟩, ⟨rfl, rfl⟩, trivial⟩)⟩
      · skip
        refine ow_op (listed' := #[true, false, true, false, false, false, false, false, true, false, false]) rfl (by kernel_rfl) ?_
        refine a_b (alloc_step tabOk 58 rfl rfl rfl rfl) rfl rfl rfl rfl ?_
        refine aops_nil (nq ?_)
        refine aany_w2 (i := 1) (j := 3) (by kernel_rfl) ?_ ?_
        · skip
          refine ow_map (LL := #[true, true, true, false, false, false, false, false, true, false, false]) (behind_m l hL hM me op.obj log ⟨0, gone, 0, 0, 0⟩) (by exact rfl) (by kernel_rfl) (by exact rfl) (fun a w => Tryz.call37 a w) (by exact rfl) (by exact rfl) (by exact by (repeat (first | exact trivial | refine ⟨⟨rfl, rfl⟩, ?_⟩ | refine ⟨rfl, ?_⟩))) (by exact rfl) (by exact rfl) (by exact rfl) (by exact rfl) (by exact rfl) (by exact ⟨.inl rfl, .inr rfl, .inr rfl, trivial⟩) (by exact ⟨rfl, rfl, trivial⟩) (fun r ck kf w' cl' own' hi => ?_)
          have hlo := hlk _ _ r ck kf hi rfl
          clear hi
          refine aany_w1 (i := 3) (by kernel_rfl) ?_
          refine ow_op (listed' := #[true, true, true, true, false, false, false, false, true, false, false]) rfl (by kernel_rfl) ?_
          refine z2 ?_
          refine aops_nil (nq ?_)
          refine aany_w1 (i := 4) (by kernel_rfl) ?_
          refine ow_op (listed' := #[true, true, true, true, true, false, false, false, true, false, false]) rfl (by kernel_rfl) ?_
          refine a_look hlo rfl rfl rfl rfl rfl rfl ?_
          refine aops_nil (nq ?_)
          refine aany_take (i := 5) (listed' := #[true, true, true, true, true, true, false, false, true, false, false]) (by kernel_rfl) (by kernel_rfl) (by kernel_rfl) (by kernel_rfl) (fun _ _ h => by cases h.1) rfl rfl rfl (y_move rfl rfl rfl) ?_
          refine aany_take (i := 6) (listed' := #[true, true, true, true, true, true, true, false, true, false, false]) (by kernel_rfl) (by kernel_rfl) (by kernel_rfl) (by kernel_rfl) (fun _ _ h => by cases h.1) rfl rfl rfl (y_extract rfl rfl rfl rfl) ?_
          refine aany_take (i := 7) (listed' := #[true, true, true, true, true, true, true, true, true, false, false]) (by kernel_rfl) (by kernel_rfl) (by kernel_rfl) (by kernel_rfl) (fun _ _ h => by cases h.1) rfl rfl rfl (y_extract rfl rfl rfl rfl) ?_
          refine aany_w1 (i := 9) (by kernel_rfl) ?_
          refine ow_op (listed' := #[true, true, true, true, true, true, true, true, true, true, false]) rfl (by kernel_rfl) ?_
          refine z5 (hl := hf1) (hsz := hf2) (hst := hf3 _) ?_
          refine aops_nil (nq ?_)
          refine aany_w1 (i := 10) (by kernel_rfl) ?_
          refine ow_op (listed' := #[true, true, true, true, true, true, true, true, true, true, true]) rfl (by kernel_rfl) ?_
          refine z2 ?_
          refine aops_nil (nq ?_)
          refine aany_done (by kernel_rfl) ⟨rfl, (), trivial, zX (hb := by exact ⟨⟨rfl, rfl⟩, ⟨rfl, rfl⟩, ⟨rfl, rfl⟩, ⟨rfl, rfl⟩, ⟨rfl, hfnd _ _ rfl rfl⟩, ⟨rfl, rfl⟩, ⟨rfl, rfl⟩, ⟨rfl, rfl⟩, ⟨rfl, rfl⟩, trivial⟩)⟩
        · skip
          refine ow_op (listed' := #[true, false, true, true, false, false, false, false, true, false, false]) rfl (by kernel_rfl) ?_
          refine z2 ?_
          refine aops_nil (nq ?_)
          refine aany_w1 (i := 1) (by kernel_rfl) ?_
          refine ow_map (LL := #[true, true, true, true, false, false, false, false, true, false, false]) (behind_m l hL hM me op.obj log ⟨0, gone, 0, 0, 0⟩) (by exact rfl) (by kernel_rfl) (by exact rfl) (fun a w => Tryz.call37 a w) (by exact rfl) (by exact rfl) (by exact by (repeat (first | exact trivial | refine ⟨⟨rfl, rfl⟩, ?_⟩ | refine ⟨rfl, ?_⟩))) (by exact rfl) (by exact rfl) (by exact rfl) (by exact rfl) (by exact rfl) (by exact ⟨.inl rfl, .inr rfl, .inr rfl, trivial⟩) (by exact ⟨rfl, rfl, trivial⟩) (fun r ck kf w' cl' own' hi => ?_)
          have hlo := hlk _ _ r ck kf hi rfl
          clear hi
          refine aany_w1 (i := 4) (by kernel_rfl) ?_
          refine ow_op (listed' := #[true, true, true, true, true, false, false, false, true, false, false]) rfl (by kernel_rfl) ?_
          refine a_look hlo rfl rfl rfl rfl rfl rfl ?_
          refine aops_nil (nq ?_)
          refine aany_take (i := 5) (listed' := #[true, true, true, true, true, true, false, false, true, false, false]) (by kernel_rfl) (by kernel_rfl) (by kernel_rfl) (by kernel_rfl) (fun _ _ h => by cases h.1) rfl rfl rfl (y_move rfl rfl rfl) ?_
          refine aany_take (i := 6) (listed' := #[true, true, true, true, true, true, true, false, true, false, false]) (by kernel_rfl) (by kernel_rfl) (by kernel_rfl) (by kernel_rfl) (fun _ _ h => by cases h.1) rfl rfl rfl (y_extract rfl rfl rfl rfl) ?_
          refine aany_take (i := 7) (listed' := #[true, true, true, true, true, true, true, true, true, false, false]) (by kernel_rfl) (by kernel_rfl) (by kernel_rfl) (by kernel_rfl) (fun _ _ h => by cases h.1) rfl rfl rfl (y_extract rfl rfl rfl rfl) ?_
          refine aany_w1 (i := 9) (by kernel_rfl) ?_
          refine ow_op (listed' := #[true, true, true, true, true, true, true, true, true, true, false]) rfl (by kernel_rfl) ?_
          refine z5 (hl := hf1) (hsz := hf2) (hst := hf3 _) ?_
          refine aops_nil (nq ?_)
          refine aany_w1 (i := 10) (by kernel_rfl) ?_
          refine ow_op (listed' := #[true, true, true, true, true, true, true, true, true, true, true]) rfl (by kernel_rfl) ?_
          refine z2 ?_
          refine aops_nil (nq ?_)
          refine aany_done (by kernel_rfl) ⟨rfl, (), trivial, zX (hb := by exact ⟨⟨rfl, rfl⟩, ⟨rfl, rfl⟩, ⟨rfl, rfl⟩, ⟨rfl, rfl⟩, ⟨rfl, hfnd _ _ rfl rfl⟩, ⟨rfl, rfl⟩, ⟨rfl, rfl⟩, ⟨rfl, rfl⟩, ⟨rfl, rfl⟩, trivial⟩)⟩
    · skip
      refine ow_op (listed' := #[false, false, true, true, false, false, false, false, false, false, false]) rfl (by kernel_rfl) ?_
      refine z2 ?_
      refine aops_nil (nq ?_)
      refine aany_w2 (i := 0) (j := 8) (by kernel_rfl) ?_ ?_
      · skip
        refine ow_op (listed' := #[true, false, true, true, false, false, false, false, false, false, false]) rfl (by kernel_rfl) ?_
        refine z2 ?_
        refine aops_nil (nq ?_)
        refine aany_w2 (i := 1) (j := 8) (by kernel_rfl) ?_ ?_
        · skip
          refine ow_map (LL := #[true, true, true, true, false, false, false, false, false, false, false]) (behind_m l hL hM me op.obj log ⟨0, gone, 0, 0, 0⟩) (by exact rfl) (by kernel_rfl) (by exact rfl) (fun a w => Tryz.call37 a w) (by exact rfl) (by exact rfl) (by exact by (repeat (first | exact trivial | refine ⟨⟨rfl, rfl⟩, ?_⟩ | refine ⟨rfl, ?_⟩))) (by exact rfl) (by exact rfl) (by exact rfl) (by exact rfl) (by exact rfl) (by exact ⟨.inl rfl, .inr rfl, .inr rfl, trivial⟩) (by exact ⟨rfl, rfl, trivial⟩) (fun r ck kf w' cl' own' hi => ?_)
          have hlo := hlk _ _ r ck kf hi rfl
          clear hi
          refine aany_w2 (i := 4) (j := 8) (by kernel_rfl) ?_ ?_
          · skip
            refine ow_op (listed' := #[true, true, true, true, true, false, false, false, false, false, false]) rfl (by kernel_rfl) ?_
            refine a_look hlo rfl rfl rfl rfl rfl rfl ?_
            refine aops_nil (nq ?_)
            refine aany_take (i := 5) (listed' := #[true, true, true, true, true, true, false, false, false, false, false]) (by kernel_rfl) (by kernel_rfl) (by kernel_rfl) (by kernel_rfl) (fun _ _ h => by cases h.1) rfl rfl rfl (y_move rfl rfl rfl) ?_
            refine aany_take (i := 6) (listed' := #[true, true, true, true, true, true, true, false, false, false, false]) (by kernel_rfl) (by kernel_rfl) (by kernel_rfl) (by kernel_rfl) (fun _ _ h => by cases h.1) rfl rfl rfl (y_extract rfl rfl rfl rfl) ?_
            refine aany_take (i := 7) (listed' := #[true, true, true, true, true, true, true, true, false, false, false]) (by kernel_rfl) (by kernel_rfl) (by kernel_rfl) (by kernel_rfl) (fun _ _ h => by cases h.1) rfl rfl rfl (y_extract rfl rfl rfl rfl) ?_
            refine aany_w1 (i := 8) (by kernel_rfl) ?_
            refine ow_op (listed' := #[true, true, true, true, true, true, true, true, true, false, false]) rfl (by kernel_rfl) ?_
            refine a_b (alloc_step tabOk 58 rfl rfl rfl rfl) rfl rfl rfl rfl ?_
            refine aops_nil (nq ?_)
            refine aany_w1 (i := 9) (by kernel_rfl) ?_
            refine ow_op (listed' := #[true, true, true, true, true, true, true, true, true, true, false]) rfl (by kernel_rfl) ?_
            refine z5 (hl := hf1) (hsz := hf2) (hst := hf3 _) ?_
            refine aops_nil (nq ?_)
            refine aany_w1 (i := 10) (by kernel_rfl) ?_
            refine ow_op (listed' := #[true, true, true, true, true, true, true, true, true, true, true]) rfl (by kernel_rfl) ?_
            refine z2 ?_
            refine aops_nil (nq ?_)
            refine aany_done (by kernel_rfl) ⟨rfl, (), trivial, zX (hb := by exact ⟨⟨rfl, rfl⟩, ⟨rfl, rfl⟩, ⟨rfl, rfl⟩, ⟨rfl, rfl⟩, ⟨rfl, hfnd _ _ rfl rfl⟩, ⟨rfl, rfl⟩, ⟨rfl, rfl⟩, ⟨rfl, rfl⟩, ⟨rfl, rfl⟩, trivial⟩)⟩
          · skip
            refine ow_op (listed' := #[true, true, true, true, false, false, false, false, true, false, false]) rfl (by kernel_rfl) ?_
            refine a_b (alloc_step tabOk 58 rfl rfl rfl rfl) rfl rfl rfl rfl ?_
            refine aops_nil (nq ?_)
            refine aany_w1 (i := 4) (by kernel_rfl) ?_
            refine ow_op (listed' := #[true, true, true, true, true, false, false, false, true, false, false]) rfl (by kernel_rfl) ?_
            refine a_look hlo rfl rfl rfl rfl rfl rfl ?_
            refine aops_nil (nq ?_)
            refine aany_take (i := 5) (listed' := #[true, true, true, true, true, true, false, false, true, false, false]) (by kernel_rfl) (by kernel_rfl) (by kernel_rfl) (by kernel_rfl) (fun _ _ h => by cases h.1) rfl rfl rfl (y_move rfl rfl rfl) ?_
            refine aany_take (i := 6) (listed' := #[true, true, true, true, true, true, true, false, true, false, false]) (by kernel_rfl) (by kernel_rfl) (by kernel_rfl) (by kernel_rfl) (fun _ _ h => by cases h.1) rfl rfl rfl (y_extract rfl rfl rfl rfl) ?_
            refine aany_take (i := 7) (listed' := #[true, true, true, true, true, true, true, true, true, false, false]) (by kernel_rfl) (by kernel_rfl) (by kernel_rfl) (by kernel_rfl) (fun _ _ h => by cases h.1) rfl rfl rfl (y_extract rfl rfl rfl rfl) ?_
            refine aany_w1 (i := 9) (by kernel_rfl) ?_
            refine ow_op (listed' := #[true, true, true, true, true, true, true, true, true, true, false]) rfl (by kernel_rfl) ?_
            refine z5 (hl := hf1) (hsz := hf2) (hst := hf3 _) ?_
            refine aops_nil (nq ?_)
            refine aany_w1 (i := 10) (by kernel_rfl) ?_
            refine ow_op (listed' := #[true, true, true, true, true, true, true, true, true, true, true]) rfl (by kernel_rfl) ?_
            refine z2 ?_
            refine aops_nil (nq ?_)
            refine aany_done (by kernel_rfl) ⟨rfl, (), trivial, zX (hb := by exact ⟨⟨rfl, rfl⟩, ⟨rfl, rfl⟩, ⟨rfl, rfl⟩, ⟨rfl, rfl⟩, ⟨rfl, hfnd _ _ rfl rfl⟩, ⟨rfl, rfl⟩, ⟨rfl, rfl⟩, ⟨rfl, rfl⟩, ⟨rfl, rfl⟩, trivial⟩)⟩
        · skip
          refine ow_op (listed' := #[true, false, true, true, false, false, false, false, true, false, false]) rfl (by kernel_rfl) ?_
          refine a_b (alloc_step tabOk 58 rfl rfl rfl rfl) rfl rfl rfl rfl ?_
          refine aops_nil (nq ?_)
          refine aany_w1 (i := 1) (by kernel_rfl) ?_
          refine ow_map (LL := #[true, true, true, true, false, false, false, false, true, false, false]) (behind_m l hL hM me op.obj log ⟨0, gone, 0, 0, 0⟩) (by exact rfl) (by kernel_rfl) (by exact rfl) (fun a w => Tryz.call37 a w) (by exact rfl) (by exact rfl) (by exact by (repeat (first | exact trivial | refine ⟨⟨rfl, rfl⟩, ?_⟩ | refine ⟨rfl, ?_⟩))) (by exact rfl) (by exact rfl) (by exact rfl) (by exact rfl) (by exact rfl) (by exact ⟨.inl rfl, .inr rfl, .inr rfl, trivial⟩) (by exact ⟨rfl, rfl, trivial⟩) (fun r ck kf w' cl' own' hi => ?_)
          have hlo := hlk _ _ r ck kf hi rfl
          clear hi
          refine aany_w1 (i := 4) (by kernel_rfl) ?_
          refine ow_op (listed' := #[true, true, true, true, true, false, false, false, true, false, false]) rfl (by kernel_rfl) ?_
          refine a_look hlo rfl rfl rfl rfl rfl rfl ?_
          refine aops_nil (nq ?_)
          refine aany_take (i := 5) (listed' := #[true, true, true, true, true, true, false, false, true, false, false]) (by kernel_rfl) (by kernel_rfl) (by kernel_rfl) (by kernel_rfl) (fun _ _ h => by cases h.1) rfl rfl rfl (y_move rfl rfl rfl) ?_
          refine aany_take (i := 6) (listed' := #[true, true, true, true, true, true, true, false, true, false, false]) (by kernel_rfl) (by kernel_rfl) (by kernel_rfl) (by kernel_rfl) (fun _ _ h => by cases h.1) rfl rfl rfl (y_extract rfl rfl rfl rfl) ?_
          refine aany_take (i := 7) (listed' := #[true, true, true, true, true, true, true, true, true, false, false]) (by kernel_rfl) (by kernel_rfl) (by kernel_rfl) (by kernel_rfl) (fun _ _ h => by cases h.1) rfl rfl rfl (y_extract rfl rfl rfl rfl) ?_
          refine aany_w1 (i := 9) (by kernel_rfl) ?_
          refine ow_op (listed' := #[true, true, true, true, true, true, true, true, true, true, false]) rfl (by kernel_rfl) ?_
          refine z5 (hl := hf1) (hsz := hf2) (hst := hf3 _) ?_
          refine aops_nil (nq ?_)
          refine aany_w1 (i := 10) (by kernel_rfl) ?_
          refine ow_op (listed' := #[true, true, true, true, true, true, true, true, true, true, true]) rfl (by kernel_rfl) ?_
          refine z2 ?_
          refine aops_nil (nq ?_)
          refine aany_done (by kernel_rfl) ⟨rfl, (), trivial, zX (hb := by exact ⟨⟨rfl, rfl⟩, ⟨rfl, rfl⟩, ⟨rfl, rfl⟩, ⟨rfl, rfl⟩, ⟨rfl, hfnd _ _ rfl rfl⟩, ⟨rfl, rfl⟩, ⟨rfl, rfl⟩, ⟨rfl, rfl⟩, ⟨rfl, rfl⟩, trivial⟩)⟩
      · skip
        refine ow_op (listed' := #[false, false, true, true, false, false, false, false, true, false, false]) rfl (by kernel_rfl) ?_
        refine a_b (alloc_step tabOk 58 rfl rfl rfl rfl) rfl rfl rfl rfl ?_
        refine aops_nil (nq ?_)
        refine aany_w1 (i := 0) (by kernel_rfl) ?_
        refine ow_op (listed' := #[true, false, true, true, false, false, false, false, true, false, false]) rfl (by kernel_rfl) ?_
        refine z2 ?_
        refine aops_nil (nq ?_)
        refine aany_w1 (i := 1) (by kernel_rfl) ?_
        refine ow_map (LL := #[true, true, true, true, false, false, false, false, true, false, false]) (behind_m l hL hM me op.obj log ⟨0, gone, 0, 0, 0⟩) (by exact rfl) (by kernel_rfl) (by exact rfl) (fun a w => Tryz.call37 a w) (by exact rfl) (by exact rfl) (by exact by (repeat (first | exact trivial | refine ⟨⟨rfl, rfl⟩, ?_⟩ | refine ⟨rfl, ?_⟩))) (by exact rfl) (by exact rfl) (by exact rfl) (by exact rfl) (by exact rfl) (by exact ⟨.inl rfl, .inr rfl, .inr rfl, trivial⟩) (by exact ⟨rfl, rfl, trivial⟩) (fun r ck kf w' cl' own' hi => ?_)
        have hlo := hlk _ _ r ck kf hi rfl
        clear hi
        refine aany_w1 (i := 4) (by kernel_rfl) ?_
        refine ow_op (listed' := #[true, true, true, true, true, false, false, false, true, false, false]) rfl (by kernel_rfl) ?_
        refine a_look hlo rfl rfl rfl rfl rfl rfl ?_
        refine aops_nil (nq ?_)
        refine aany_take (i := 5) (listed' := #[true, true, true, true, true, true, false, false, true, false, false]) (by kernel_rfl) (by kernel_rfl) (by kernel_rfl) (by kernel_rfl) (fun _ _ h => by cases h.1) rfl rfl rfl (y_move rfl rfl rfl) ?_
        refine aany_take (i := 6) (listed' := #[true, true, true, true, true, true, true, false, true, false, false]) (by kernel_rfl) (by kernel_rfl) (by kernel_rfl) (by kernel_rfl) (fun _ _ h => by cases h.1) rfl rfl rfl (y_extract rfl rfl rfl rfl) ?_
        refine aany_take (i := 7) (listed' := #[true, true, true, true, true, true, true, true, true, false, false]) (by kernel_rfl) (by kernel_rfl) (by kernel_rfl) (by kernel_rfl) (fun _ _ h => by cases h.1) rfl rfl rfl (y_extract rfl rfl rfl rfl) ?_
        refine aany_w1 (i := 9) (by kernel_rfl) ?_
        refine ow_op (listed' := #[true, true, true, true, true, true, true, true, true, true, false]) rfl (by kernel_rfl) ?_
        refine z5 (hl := hf1) (hsz := hf2) (hst := hf3 _) ?_
        refine aops_nil (nq ?_)
        refine aany_w1 (i := 10) (by kernel_rfl) ?_
        refine ow_op (listed' := #[true, true, true, true, true, true, true, true, true, true, true]) rfl (by kernel_rfl) ?_
        refine z2 ?_
        refine aops_nil (nq ?_)
        refine aany_done (by kernel_rfl) ⟨rfl, (), trivial, zX (hb := by exact ⟨⟨rfl, rfl⟩, ⟨rfl, rfl⟩, ⟨rfl, rfl⟩, ⟨rfl, rfl⟩, ⟨rfl, hfnd _ _ rfl rfl⟩, ⟨rfl, rfl⟩, ⟨rfl, rfl⟩, ⟨rfl, rfl⟩, ⟨rfl, rfl⟩, trivial⟩)⟩
    · skip
      refine ow_op (listed' := #[false, false, true, false, false, false, false, false, true, false, false]) rfl (by kernel_rfl) ?_
      refine a_b (alloc_step tabOk 58 rfl rfl rfl rfl) rfl rfl rfl rfl ?_
      refine aops_nil (nq ?_)
      refine aany_w2 (i := 0) (j := 3) (by kernel_rfl) ?_ ?_
      · skip
        refine ow_op (listed' := #[true, false, true, false, false, false, false, false, true, false, false]) rfl (by kernel_rfl) ?_
        refine z2 ?_
        refine aops_nil (nq ?_)
        refine aany_w2 (i := 1) (j := 3) (by kernel_rfl) ?_ ?_
        · skip
          refine ow_map (LL := #[true, true, true, false, false, false, false, false, true, false, false]) (behind_m l hL hM me op.obj log ⟨0, gone, 0, 0, 0⟩) (by exact rfl) (by kernel_rfl) (by exact rfl) (fun a w => Tryz.call37 a w) (by exact rfl) (by exact rfl) (by exact by (repeat (first | exact trivial | refine ⟨⟨rfl, rfl⟩, ?_⟩ | refine ⟨rfl, ?_⟩))) (by exact rfl) (by exact rfl) (by exact rfl) (by exact rfl) (by exact rfl) (by exact ⟨.inl rfl, .inr rfl, .inr rfl, trivial⟩) (by exact ⟨rfl, rfl, trivial⟩) (fun r ck kf w' cl' own' hi => ?_)
          have hlo := hlk _ _ r ck kf hi rfl
          clear hi
          refine aany_w1 (i := 3) (by kernel_rfl) ?_
          refine ow_op (listed' := #[true, true, true, true, false, false, false, false, true, false, false]) rfl (by kernel_rfl) ?_
          refine z2 ?_
          refine aops_nil (nq ?_)
          refine aany_w1 (i := 4) (by kernel_rfl) ?_
          refine ow_op (listed' := #[true, true, true, true, true, false, false, false, true, false, false]) rfl (by kernel_rfl) ?_
          refine a_look hlo rfl rfl rfl rfl rfl rfl ?_
          refine aops_nil (nq ?_)
          refine aany_take (i := 5) (listed' := #[true, true, true, true, true, true, false, false, true, false, false]) (by kernel_rfl) (by kernel_rfl) (by kernel_rfl) (by kernel_rfl) (fun _ _ h => by cases h.1) rfl rfl rfl (y_move rfl rfl rfl) ?_
          refine aany_take (i := 6) (listed' := #[true, true, true, true, true, true, true, false, true, false, false]) (by kernel_rfl) (by kernel_rfl) (by kernel_rfl) (by kernel_rfl) (fun _ _ h => by cases h.1) rfl rfl rfl (y_extract rfl rfl rfl rfl) ?_
          refine aany_take (i := 7) (listed' := #[true, true, true, true, true, true, true, true, true, false, false]) (by kernel_rfl) (by kernel_rfl) (by kernel_rfl) (by kernel_rfl) (fun _ _ h => by cases h.1) rfl rfl rfl (y_extract rfl rfl rfl rfl) ?_
          refine aany_w1 (i := 9) (by kernel_rfl) ?_
          refine ow_op (listed' := #[true, true, true, true, true, true, true, true, true, true, false]) rfl (by kernel_rfl) ?_
          refine z5 (hl := hf1) (hsz := hf2) (hst := hf3 _) ?_
          refine aops_nil (nq ?_)
          refine aany_w1 (i := 10) (by kernel_rfl) ?_
          refine ow_op (listed' := #[true, true, true, true, true, true, true, true, true, true, true]) rfl (by kernel_rfl) ?_
          refine z2 ?_
          refine aops_nil (nq ?_)
          refine aany_done (by kernel_rfl) ⟨rfl, (), trivial, zX (hb := by exact ⟨⟨rfl, rfl⟩, ⟨rfl, rfl⟩, ⟨rfl, rfl⟩, ⟨rfl, rfl⟩, ⟨rfl, hfnd _ _ rfl rfl⟩, ⟨rfl, rfl⟩, ⟨rfl, rfl⟩, ⟨rfl, rfl⟩, ⟨rfl, rfl⟩, trivial⟩)⟩
        · skip
          refine ow_op (listed' := #[true, false, true, true, false, false, false, false, true, false, false]) rfl (by kernel_rfl) ?_
          refine z2 ?_
          refine aops_nil (nq ?_)
          refine aany_w1 (i := 1) (by kernel_rfl) ?_
          refine ow_map (LL := #[true, true, true, true, false, false, false, false, true, false, false]) (behind_m l hL hM me op.obj log ⟨0, gone, 0, 0, 0⟩) (by exact rfl) (by kernel_rfl) (by exact rfl) (fun a w => Tryz.call37 a w) (by exact rfl) (by exact rfl) (by exact by (repeat (first | exact trivial | refine ⟨⟨rfl, rfl⟩, ?_⟩ | refine ⟨rfl, ?_⟩))) (by exact rfl) (by exact rfl) (by exact rfl) (by exact rfl) (by exact rfl) (by exact ⟨.inl rfl, .inr rfl, .inr rfl, trivial⟩) (by exact ⟨rfl, rfl, trivial⟩) (fun r ck kf w' cl' own' hi => ?_)
          have hlo := hlk _ _ r ck kf hi rfl
          clear hi
          refine aany_w1 (i := 4) (by kernel_rfl) ?_
          refine ow_op (listed' := #[true, true, true, true, true, false, false, false, true, false, false]) rfl (by kernel_rfl) ?_
          refine a_look hlo rfl rfl rfl rfl rfl rfl ?_
          refine aops_nil (nq ?_)
          refine aany_take (i := 5) (listed' := #[true, true, true, true, true, true, false, false, true, false, false]) (by kernel_rfl) (by kernel_rfl) (by kernel_rfl) (by kernel_rfl) (fun _ _ h => by cases h.1) rfl rfl rfl (y_move rfl rfl rfl) ?_
          refine aany_take (i := 6) (listed' := #[true, true, true, true, true, true, true, false, true, false, false]) (by kernel_rfl) (by kernel_rfl) (by kernel_rfl) (by kernel_rfl) (fun _ _ h => by cases h.1) rfl rfl rfl (y_extract rfl rfl rfl rfl) ?_
          refine aany_take (i := 7) (listed' := #[true, true, true, true, true, true, true, true, true, false, false]) (by kernel_rfl) (by kernel_rfl) (by kernel_rfl) (by kernel_rfl) (fun _ _ h => by cases h.1) rfl rfl rfl (y_extract rfl rfl rfl rfl) ?_
          refine aany_w1 (i := 9) (by kernel_rfl) ?_
          refine ow_op (listed' := #[true, true, true, true, true, true, true, true, true, true, false]) rfl (by kernel_rfl) ?_
          refine z5 (hl := hf1) (hsz := hf2) (hst := hf3 _) ?_
          refine aops_nil (nq ?_)
          refine aany_w1 (i := 10) (by kernel_rfl) ?_
          refine ow_op (listed' := #[true, true, true, true, true, true, true, true, true, true, true]) rfl (by kernel_rfl) ?_
          refine z2 ?_
          refine aops_nil (nq ?_)
          refine aany_done (by kernel_rfl) ⟨rfl, (), trivial, zX (hb := by exact ⟨⟨rfl, rfl⟩, ⟨rfl, rfl⟩, ⟨rfl, rfl⟩, ⟨rfl, rfl⟩, ⟨rfl, hfnd _ _ rfl rfl⟩, ⟨rfl, rfl⟩, ⟨rfl, rfl⟩, ⟨rfl, rfl⟩, ⟨rfl, rfl⟩, trivial⟩)⟩
      · skip
        refine ow_op (listed' := #[false, false, true, true, false, false, false, false, true, false, false]) rfl (by kernel_rfl) ?_
        refine z2 ?_
        refine aops_nil (nq ?_)
        refine aany_w1 (i := 0) (by kernel_rfl) ?_
        refine ow_op (listed' := #[true, false, true, true, false, false, false, false, true, false, false]) rfl (by kernel_rfl) ?_
        refine z2 ?_
        refine aops_nil (nq ?_)
        refine aany_w1 (i := 1) (by kernel_rfl) ?_
        refine ow_map (LL := #[true, true, true, true, false, false, false, false, true, false, false]) (behind_m l hL hM me op.obj log ⟨0, gone, 0, 0, 0⟩) (by exact rfl) (by kernel_rfl) (by exact rfl) (fun a w => Tryz.call37 a w) (by exact rfl) (by exact rfl) (by exact by (repeat (first | exact trivial | refine ⟨⟨rfl, rfl⟩, ?_⟩ | refine ⟨rfl, ?_⟩))) (by exact rfl) (by exact rfl) (by exact rfl) (by exact rfl) (by exact rfl) (by exact ⟨.inl rfl, .inr rfl, .inr rfl, trivial⟩) (by exact ⟨rfl, rfl, trivial⟩) (fun r ck kf w' cl' own' hi => ?_)
        have hlo := hlk _ _ r ck kf hi rfl
        clear hi
        refine aany_w1 (i := 4) (by kernel_rfl) ?_
        refine ow_op (listed' := #[true, true, true, true, true, false, false, false, true, false, false]) rfl (by kernel_rfl) ?_
        refine a_look hlo rfl rfl rfl rfl rfl rfl ?_
        refine aops_nil (nq ?_)
        refine aany_take (i := 5) (listed' := #[true, true, true, true, true, true, false, false, true, false, false]) (by kernel_rfl) (by kernel_rfl) (by kernel_rfl) (by kernel_rfl) (fun _ _ h => by cases h.1) rfl rfl rfl (y_move rfl rfl rfl) ?_
        refine aany_take (i := 6) (listed' := #[true, true, true, true, true, true, true, false, true, false, false]) (by kernel_rfl) (by kernel_rfl) (by kernel_rfl) (by kernel_rfl) (fun _ _ h => by cases h.1) rfl rfl rfl (y_extract rfl rfl rfl rfl) ?_
        refine aany_take (i := 7) (listed' := #[true, true, true, true, true, true, true, true, true, false, false]) (by kernel_rfl) (by kernel_rfl) (by kernel_rfl) (by kernel_rfl) (fun _ _ h => by cases h.1) rfl rfl rfl (y_extract rfl rfl rfl rfl) ?_
        refine aany_w1 (i := 9) (by kernel_rfl) ?_
        refine ow_op (listed' := #[true, true, true, true, true, true, true, true, true, true, false]) rfl (by kernel_rfl) ?_
        refine z5 (hl := hf1) (hsz := hf2) (hst := hf3 _) ?_
        refine aops_nil (nq ?_)
        refine aany_w1 (i := 10) (by kernel_rfl) ?_
        refine ow_op (listed' := #[true, true, true, true, true, true, true, true, true, true, true]) rfl (by kernel_rfl) ?_
        refine z2 ?_
        refine aops_nil (nq ?_)
        refine aany_done (by kernel_rfl) ⟨rfl, (), trivial, zX (hb := by exact ⟨⟨rfl, rfl⟩, ⟨rfl, rfl⟩, ⟨rfl, rfl⟩, ⟨rfl, rfl⟩, ⟨rfl, hfnd _ _ rfl rfl⟩, ⟨rfl, rfl⟩, ⟨rfl, rfl⟩, ⟨rfl, rfl⟩, ⟨rfl, rfl⟩, trivial⟩)⟩
  · clear hlk
    generalize hmp : mapF l op.obj 0 = mp at hE
    have hmap := map_c l hL hM op.obj 0 (by omega)
    rw [hmp] at hmap
    cases kn
    · have hkn' : ¬ (1 ≤ op.kind ∧ op.kind ≤ 3) := of_decide_eq_false hkn.symm
      rw [if_pos (by omega)] at hE
      refine go ?_
      refine a_q (call_step (refuseH_c gone hg) rfl (fun a w => Tryz.call39 a w) rfl) rfl rfl rfl ?_
      refine go ?_
      first | refine fin_ret rfl ?_ | refine fin_normal rfl ?_
      rw [← hE]
    have hkn' : 1 ≤ op.kind ∧ op.kind ≤ 3 := of_decide_eq_true hkn.symm
    refine go ?_
    refine a_q (call_step (hmap) rfl (fun a w => Tryz.call38 a w) rfl) rfl rfl rfl ?_
    refine go ?_
    generalize k1 : decide (mp < 0) = cc; cases cc
    rotate_left
    · have k1' := of_decide_eq_true k1
      rw [if_pos (by omega)] at hE
      refine go ?_
      refine a_q (call_step (refuseH_c gone hg) rfl (fun a w => Tryz.call39 a w) rfl) rfl rfl rfl ?_
      refine go ?_
      first | refine fin_ret rfl ?_ | refine fin_normal rfl ?_
      rw [← hE]
    have k1' := of_decide_eq_false k1
    refine go ?_
    generalize k2 : decide (op.a < 0) = cc; cases cc
    rotate_left
    · have k2' := of_decide_eq_true k2
      rw [if_pos (by omega)] at hE
      refine go ?_
      refine a_q (call_step (refuseH_c gone hg) rfl (fun a w => Tryz.call39 a w) rfl) rfl rfl rfl ?_
      refine go ?_
      first | refine fin_ret rfl ?_ | refine fin_normal rfl ?_
      rw [← hE]
    have k2' := of_decide_eq_false k2
    refine go ?_
    generalize k3 : decide (op.a ≥ 65536) = cc; cases cc
    rotate_left
    · have k3' := of_decide_eq_true k3
      rw [if_pos (by omega)] at hE
      refine go ?_
      refine a_q (call_step (refuseH_c gone hg) rfl (fun a w => Tryz.call39 a w) rfl) rfl rfl rfl ?_
      refine go ?_
      first | refine fin_ret rfl ?_ | refine fin_normal rfl ?_
      rw [← hE]
    have k3' := of_decide_eq_false k3
    rw [if_neg (by omega)] at hE
    refine go ?_
    refine a_callI (hpl rfl (by omega) (by omega)) rfl (fun a w => Tryz.call40 a w) rfl rfl (by exact ⟨⟨rfl, rfl⟩, ⟨rfl, rfl⟩, ⟨rfl, rfl⟩, ⟨rfl, rfl⟩, ⟨rfl, hfnd _ _ rfl rfl⟩, ⟨rfl, rfl⟩, ⟨rfl, rfl⟩, trivial⟩) trivial rfl rfl rfl rfl ?_ ?_
    · rintro d bs ⟨rfl, _⟩; exact trivial
    rintro d bs ⟨rfl, ⟨x, s', hm, rfl⟩ | ⟨a, hm, rfl⟩⟩
    · rw [hm] at hE
      refine go ?_
      first | refine fin_ret rfl ?_ | refine fin_normal rfl ?_
      rw [← hE]; rfl
    · rw [hm] at hE
      refine go ?_
      first | refine fin_ret rfl ?_ | refine fin_normal rfl ?_
      rw [← hE]; rfl
end Go.Proofs.YtkkldicehapklaaGreat
