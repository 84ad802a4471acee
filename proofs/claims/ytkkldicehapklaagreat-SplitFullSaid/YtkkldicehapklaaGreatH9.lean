/- A map's programs are run by their logs: all ways joined. -/
import Derived.Test.YtkkldicehapklaaGreatH8
namespace Go.Proofs.YtkkldicehapklaaGreat
open Go.RowKit
set_option maxRecDepth 100000
theorem drep_two {Γ : Ctx} {e : Env} {f : FuncId} {kf : Nat → Nat} (he : EnvOk Γ e) (hkb : Γ.kb = jN0 kf [53, 54]) : DRep e (behV f kf) (.fn (.func f) [] [.ptr 53 0, .ptr 54 0]) := by
 have h1 : e.bx 53 = some (kf 53) := he.kb 53 _ (by rw [hkb]; exact jG5 (by simp))
 have h2 : e.bx 54 = some (kf 54) := he.kb 54 _ (by rw [hkb]; exact jG5 (by simp))
 exact DRep.fn (us := []) (vs := [.pointer (some ⟨kf 53, 0, none⟩), .pointer (some ⟨kf 54, 0, none⟩)]) rfl rfl (fun i v d h1 h2 => by simp at h1) fun i v d q1 q2 => by
  match i, q1, q2 with
  | 0, q1, q2 => cases q1; cases q2; exact .ptr h1
  | 1, q1, q2 => cases q1; cases q2; exact .ptr h2
theorem hnext_c (l : jN) (hL : qJ l) (hS : 0 ≤ l.seats) (hM : jG3 l) (me : Int) (gone : List (Int × Int)) (op : OpT) (log : List jS) (hg : yK gone) (hgl : gone.length + log.length ≤ 10000) (hlog : log.length ≤ 5000) : kA Tryz.prog 18 [wO l, dI me, vG gone, .agg [dI op.kind, dI op.obj, dI op.a, dI op.b], dLog log] (dNx (wA l me gone op log)) := by
 have h0 : At0 log ⟨0, gone, 0, 0, 0⟩ := ⟨hg, hgl, Nat.zero_le _, hlog⟩
 have hgs : gone.length + log.length ≤ 100000 := by omega
 have hgk : gone.length ≤ 100000 := by omega
 by_cases hk1 : op.kind = 1
 ·exact kF6 fn1 true l hL hM me gone op log hgk rfl rfl (fun _ => rfl) (fun _ _ _ _ => rfl) (by rw [hk1]; rfl) (fun Γ Γ' r ck kf hi hkb => kB0 hi Tryz.underlying100 Tryz.underlying3 (by rw [hk1]; rfl) fun e he => DRep.fn (us := []) (vs := []) rfl rfl (fun i v d h1 h2 => by simp at h1) (fun i v d h1 h2 => by simp at h1)) fun _ ha0 ha1 => hplay1_i l me log op _ _ hgs (snext1_x l hL hS hM me op log _ hk1 ha0 ha1 h0)
 by_cases hk2 : op.kind = 2
 ·exact kF6 fn2 true l hL hM me gone op log hgk rfl rfl (fun _ => rfl) (fun B G h1 h2 => by simp [Dt.ok.oks, Dt.ok, h1, h2]) (by rw [hk2]; rfl) (fun Γ Γ' r ck kf hi hkb => kB0 hi Tryz.underlying100 Tryz.underlying3 (by rw [hk2]; rfl) fun e he => drep_two he hkb) fun _ ha0 ha1 => hplay2_i l me log op _ _ hgs (snext2_x l hL hS hM me op log _ hk2 ha0 ha1 h0)
 by_cases hk3 : op.kind = 3
 ·exact kF6 fn3 true l hL hM me gone op log hgk rfl rfl (fun _ => rfl) (fun B G h1 h2 => by simp [Dt.ok.oks, Dt.ok, h1, h2]) (by rw [hk3]; rfl) (fun Γ Γ' r ck kf hi hkb => kB0 hi Tryz.underlying100 Tryz.underlying3 (by rw [hk3]; rfl) fun e he => drep_two he hkb) fun _ ha0 ha1 => hplay3_i l me log op _ _ hgs (snext3_x l hL hS hM me op log _ hk3 ha0 ha1 h0)
 ·refine kF6 (.p (.raw .nilFunc)) false l hL hM me gone op log hgk rfl rfl (fun _ => rfl) (fun _ _ _ _ => rfl) (by rw [eq_comm, decide_eq_false_iff_not]; omega) (fun Γ Γ' r ck kf hi hkb => look_none jB hi Tryz.underlying100 Tryz.underlying3 (show tb 98 = some _ from rfl) ?_) fun h => by cases h
  have e1 : ∀ k : Int, k ≠ op.kind → Instr.sameNow (.int .i64) (.int .i64 op.kind) (.int .i64 k) = some false := fun k hk => by
   unfold Instr.sameNow
   simp [hk.symm]
  show Instr.findNow (.int .i64) (.int .i64 op.kind) [⟨.int .i64 1, _, _⟩, ⟨.int .i64 2, _, _⟩, ⟨.int .i64 3, _, _⟩] 0 = some none
  simp only [Instr.findNow, e1 1 (by omega), e1 2 (by omega), e1 3 (by omega)]
end Go.Proofs.YtkkldicehapklaaGreat
