/- (of a stack)  Layouts: what they are, and their walks. -/
import Derived.Test.YtdmnjoidfjidbaaGreatD13
import Derived.Test.YtdmnjoidfjidbaaGreatD9
namespace Go.Proofs.YtdmnjoidfjidbaaGreat
open Go.RowKit
set_option maxRecDepth 100000

/-! ### Programs of accesses under way -/
abbrev pieceDS (l : LayT) (me : Int) (s : PsT) : List Dt := [dI l.seats, dI l.nodes, dI l.buckets, dI l.slots, dI l.tasks, dI l.cells, dI l.maps, dI l.stacks, dI l.chans, dI l.done, dI l.count, dI l.era, dI l.free, dI l.alive, dI l.owner, dI l.resv, dI l.deque, dI l.ring, dI l.task, dI l.cell, dI l.map, dI l.stack, dI l.chan, dI l.node, dI l.size, dI me, dGone s.gone, dI s.made, dI s.e0, dI s.e1, dI s.e2, .fn (.func 62) [] [.ptr 12 0, .ptr 13 0]]
abbrev pieceBS (l : LayT) (me : Int) (log : List ResT) (s : PsT) : Bxs := [(11, pieceDS l me s), (12, [.ptr 11 0]), (13, [dLog log])]
theorem pnode_cS (l : LayT) (hl : LayOk l) (me : Int) (s : PsT) (n i : Int) (hn : n < 9223372036854775808) (hi : i < 9223372036854775808) : PureC Tryz.prog 66 [.el (pieceP l me s), dI n, dI i] (dI (nodeF l n i)) := by
  refine pure_fin tabOk Tryz.func66 rfl Tryz.ntmps66 rfl rfl rfl fun w cl => ?_
  refine go ?_
  refine a_q (call_step (node_c l hl n i hn hi) rfl (fun a w => Tryz.call42 a w) rfl) rfl rfl rfl ?_
  refine go ?_
  first | refine fin_ret rfl ?_ | refine fin_normal rfl ?_
  rfl
theorem plast_cS (l : LayT) (me : Int) (s : PsT) (h : (s.made : Int) < 9223372036854775807) : PureC Tryz.prog 72 [.el (pieceP l me s)] (dI ((s.made : Int) - 1)) := by
  refine pure_fin tabOk Tryz.func72 rfl Tryz.ntmps72 rfl rfl rfl fun w cl => ?_
  refine go ?_
  first | refine fin_ret rfl ?_ | refine fin_normal rfl ?_
  rfl
end Go.Proofs.YtdmnjoidfjidbaaGreat
/- (of a stack)  Accesses of programs under way: their walks. -/
namespace Go.Proofs.YtdmnjoidfjidbaaGreat
open Go.RowKit
set_option maxRecDepth 100000

abbrev askedVS (a : AccT) : Value := .iface 115 (.agg #[.int .i64 a.kind, .int .i64 a.cell, .int .i64 a.old, .int .i64 a.new])
def PmRS {α : Type} (l : LayT) (me : Int) (log : List ResT) (m : Except AccT (α × PsT)) (s : PsT) (enc : α → Dt) : Dt → Bxs → Prop := fun d bs => ∃ x s', m = .ok (x, s') ∧ s.made ≤ s'.made ∧ s'.made ≤ log.length ∧ d = enc x ∧ bs = pieceBS l me log s'
def PmXS {α : Type} (l : LayT) (me : Int) (log : List ResT) (m : Except AccT (α × PsT)) : Value → Bxs → Prop := fun v bs => ∃ a s', m = .error a ∧ v = askedVS a ∧ bs = pieceBS l me log s'
abbrev PmCS {α : Type} (f : FuncId) (l : LayT) (me : Int) (log : List ResT) (s : PsT) (ds : List Dt) (m : Except AccT (α × PsT)) (enc : α → Dt) : Prop :=
  ImpX Tryz.prog f [11, 12, 13] ds (pieceBS l me log s) (PmRS l me log m s enc) (PmXS l me log m)

theorem do_xS (l : LayT) (me : Int) (log : List ResT) (s : PsT) (a : AccT) (hm : s.made ≤ log.length) (hl : log.length ≤ 1000000) : PmCS 62 l me log s [dAcc a, .ptr 12 0, .ptr 13 0] (doM a log s) dRes := by
  refine sX Tryz.func62 Tryz.ntmps62 fun w cl own kf => ?_
  refine go ?_
  refine awp_region_q [] rfl (by kernel_rfl) (by kernel_rfl) ?_
  refine goQ ?_
  refine go ?_
  generalize h1 : decide ((s.made : Int) = (log.length : Int)) = cc; cases cc
  · have h1' := of_decide_eq_false h1
    have hlt : s.made < log.length := by omega
    have hr : log[s.made]? = some log[s.made] := List.getElem?_eq_getElem hlt
    generalize log[s.made] = r at hr
    have hr' : log[((s.made : Int) + 1 - 1).toNat]? = some r := by rw [show ((s.made : Int) + 1 - 1).toNat = s.made by omega]; exact hr
    refine go ?_
    refine awp_region_w 8 [] rfl rfl (by kernel_rfl) (by kernel_rfl) (by kernel_rfl) ?_
    refine goQ ?_
    refine r_q (indexAddr_step tabOk [pI r.val, pB r.ok] rfl rfl rfl rfl rfl rfl (by first | omega | (simp; done) | (simp; omega)) (by first | omega | (simp; done) | (simp; omega)) (by first | (simp; done) | exact List.cons_ne_nil _ _) (log_idx hr')) rfl rfl ?_
    refine goQ ?_
    refine go ?_
    first | refine fR (pieceBS l me log { s with made := s.made + 1 }) ?_ | refine fN (pieceBS l me log { s with made := s.made + 1 }) ?_
    exact ⟨r, { s with made := s.made + 1 }, by rw [doM, hr], by simp, by simp; omega, rfl, rfl⟩
  · have h1' : log.length = s.made := by have := of_decide_eq_true h1; omega
    have hr : log[s.made]? = none := List.getElem?_eq_none (by omega)
    refine go ?_
    refine a_q (iface_step tabOk rfl rfl rfl rfl rfl) rfl rfl rfl ?_
    refine a_panic rfl rfl rfl ?_
    refine gP ?_
    refine fP (pieceBS l me log s) ?_
    exact ⟨a, s, by rw [doM, hr], rfl, rfl⟩
end Go.Proofs.YtdmnjoidfjidbaaGreat
/- (of a stack)  Loads, stores and comparisons of programs under way: their walks. -/
namespace Go.Proofs.YtdmnjoidfjidbaaGreat
open Go.RowKit
set_option maxRecDepth 100000

theorem load_xS (l : LayT) (me : Int) (log : List ResT) (s : PsT) (c : Int) (hm : s.made ≤ log.length) (hl : log.length ≤ 1000000) : PmCS 67 l me log s [.ptr 11 0, dI c] (loadM c log s) dI := by
  refine sX Tryz.func67 Tryz.ntmps67 fun w cl own kf => ?_
  refine go ?_
  refine a_callvX (do_xS l me log s ⟨1, c, 0, 0⟩ hm hl) rfl (fun a w => Tryz.call62 a w) rfl rfl rfl (by (repeat (first | exact trivial | refine ⟨⟨rfl, rfl⟩, ?_⟩))) (by (repeat (first | exact trivial | refine ⟨.inr rfl, ?_⟩ | refine ⟨.inl rfl, ?_⟩))) rfl rfl rfl rfl ?_ ?_ ?_ ?_
  · rintro d bs ⟨x, s', _, _, _, rfl, rfl⟩; exact ⟨.inl rfl, .inl rfl, .inl rfl, trivial⟩
  · rintro v bs ⟨a, s', _, rfl, rfl⟩; exact ⟨.inl rfl, .inl rfl, .inl rfl, trivial⟩
  · rintro v bs ⟨a, s', h, rfl, rfl⟩
    refine gP ?_
    refine fP (pieceBS l me log s') ?_
    exact ⟨a, s', bind_err h, rfl, rfl⟩
  rintro d bs ⟨x, s', h, hle, hlen, rfl, rfl⟩
  refine go ?_
  first | refine fR (pieceBS l me log s') ?_ | refine fN (pieceBS l me log s') ?_
  exact ⟨x.val, s', bind_ok h, hle, hlen, rfl, rfl⟩
theorem store_xS (l : LayT) (me : Int) (log : List ResT) (s : PsT) (c v : Int) (hm : s.made ≤ log.length) (hl : log.length ≤ 1000000) : PmCS 65 l me log s [.ptr 11 0, dI c, dI v] (storeM c v log s) (fun _ => .tup []) := by
  refine sX Tryz.func65 Tryz.ntmps65 fun w cl own kf => ?_
  refine go ?_
  refine a_callvX (do_xS l me log s ⟨2, c, 0, v⟩ hm hl) rfl (fun a w => Tryz.call62 a w) rfl rfl rfl (by (repeat (first | exact trivial | refine ⟨⟨rfl, rfl⟩, ?_⟩))) (by (repeat (first | exact trivial | refine ⟨.inr rfl, ?_⟩ | refine ⟨.inl rfl, ?_⟩))) rfl rfl rfl rfl ?_ ?_ ?_ ?_
  · rintro d bs ⟨x, s', _, _, _, rfl, rfl⟩; exact ⟨.inl rfl, .inl rfl, .inl rfl, trivial⟩
  · rintro v bs ⟨a, s', _, rfl, rfl⟩; exact ⟨.inl rfl, .inl rfl, .inl rfl, trivial⟩
  · rintro v bs ⟨a, s', h, rfl, rfl⟩
    refine gP ?_
    refine fP (pieceBS l me log s') ?_
    exact ⟨a, s', bind_err h, rfl, rfl⟩
  rintro d bs ⟨x, s', h, hle, hlen, rfl, rfl⟩
  refine go ?_
  first | refine fR (pieceBS l me log s') ?_ | refine fN (pieceBS l me log s') ?_
  exact ⟨(), s', bind_ok h, hle, hlen, rfl, rfl⟩
theorem cas_xS (l : LayT) (me : Int) (log : List ResT) (s : PsT) (c o v : Int) (hm : s.made ≤ log.length) (hl : log.length ≤ 1000000) : PmCS 69 l me log s [.ptr 11 0, dI c, dI o, dI v] (casM c o v log s) dB := by
  refine sX Tryz.func69 Tryz.ntmps69 fun w cl own kf => ?_
  refine go ?_
  refine a_callvX (do_xS l me log s ⟨3, c, o, v⟩ hm hl) rfl (fun a w => Tryz.call62 a w) rfl rfl rfl (by (repeat (first | exact trivial | refine ⟨⟨rfl, rfl⟩, ?_⟩))) (by (repeat (first | exact trivial | refine ⟨.inr rfl, ?_⟩ | refine ⟨.inl rfl, ?_⟩))) rfl rfl rfl rfl ?_ ?_ ?_ ?_
  · rintro d bs ⟨x, s', _, _, _, rfl, rfl⟩; exact ⟨.inl rfl, .inl rfl, .inl rfl, trivial⟩
  · rintro v bs ⟨a, s', _, rfl, rfl⟩; exact ⟨.inl rfl, .inl rfl, .inl rfl, trivial⟩
  · rintro v bs ⟨a, s', h, rfl, rfl⟩
    refine gP ?_
    refine fP (pieceBS l me log s') ?_
    exact ⟨a, s', bind_err h, rfl, rfl⟩
  rintro d bs ⟨x, s', h, hle, hlen, rfl, rfl⟩
  refine go ?_
  first | refine fR (pieceBS l me log s') ?_ | refine fN (pieceBS l me log s') ?_
  exact ⟨x.ok, s', bind_ok h, hle, hlen, rfl, rfl⟩
end Go.Proofs.YtdmnjoidfjidbaaGreat
/- (of a stack)  Taking and giving nodes: their walks. -/
namespace Go.Proofs.YtdmnjoidfjidbaaGreat
open Go.RowKit
set_option maxRecDepth 100000

set_option maxHeartbeats 4000000 in
theorem take_xS (l : LayT) (hL : LayOk l) (me : Int) (log : List ResT) (s : PsT) (hm : s.made ≤ log.length) (hl : log.length ≤ 1000000) : PmCS 64 l me log s [.ptr 11 0] (takeM l log s) (fun p => .tup [dI p.1, dI p.2.1, dB p.2.2]) := by
  generalize hE : takeM l log s = E
  refine sX Tryz.func64 Tryz.ntmps64 fun w cl own kf => ?_
  refine go ?_
  refine awp_loop_ok (fun p : Nat × PsT => s.made ≤ p.2.made ∧ p.2.made ≤ log.length ∧ log.length - p.2.made < p.1 ∧ takeL l p.1 log p.2 = E) (fun p => ⟨[(0, .ptr 11 0)], pieceBS l me log p.2, []⟩) (fun p => p.1) (log.length + 1 - s.made, s) ⟨Nat.le_refl _, hm, by simp only; omega, hE⟩ (zX) ?_
  rintro ⟨k, t⟩ ⟨ht0, ht1, ht2, hE⟩
  simp only at ht0 ht1 ht2 hE
  obtain ⟨k, rfl⟩ : ∃ j, k = j + 1 := ⟨k - 1, by omega⟩
  refine (show AWP _ _ _ _ ⟨[(0, .ptr 11 0)], pieceBS l me log t, []⟩ from ?_)
  rw [takeL] at hE
  refine go ?_
  refine cX (load_xS l me log t l.free ht1 hl) (fun a w => Tryz.call67 a w) ?_ ?_ ?_ ?_
  · rintro d bs ⟨x, s', _, _, _, rfl, rfl⟩; exact ⟨.inl rfl, .inl rfl, .inl rfl, trivial⟩
  · rintro v bs ⟨a, s', _, rfl, rfl⟩; exact ⟨.inl rfl, .inl rfl, .inl rfl, trivial⟩
  · rintro v bs ⟨a, s', h, rfl, rfl⟩
    refine gP ?_
    refine fP (pieceBS l me log s') ?_
    exact ⟨a, s', by rw [← hE]; exact bind_err h, rfl, rfl⟩
  rintro d bs ⟨fr, s1, hq1, hle1, hlen1, rfl, rfl⟩
  rw [bind_ok hq1] at hE
  have hs1 := loadM_made hq1
  have hx1 := ofW_idx fr
  have hx2 := ofW_cnt fr
  refine go ?_
  refine a_q (call_step (of_c fr) rfl (fun a w => Tryz.call68 a w) rfl) rfl rfl rfl ?_
  refine go ?_
  generalize h1 : decide ((ofW fr).idx = 0) = cc; cases cc
  · have h1' := of_decide_eq_false h1
    rw [if_neg h1'] at hE
    refine go ?_
    refine a_q (lend_step (pnode_cS l hL me s1 (ofW fr).idx 7 (by omega) (by omega)) rfl (fun a w => Tryz.call66 a w) rfl rfl) rfl rfl rfl ?_
    refine go ?_
    refine cX (load_xS l me log s1 (nodeF l (ofW fr).idx 7) hlen1 hl) (fun a w => Tryz.call67 a w) ?_ ?_ ?_ ?_
    · rintro d bs ⟨x, s', _, _, _, rfl, rfl⟩; exact ⟨.inl rfl, .inl rfl, .inl rfl, trivial⟩
    · rintro v bs ⟨a, s', _, rfl, rfl⟩; exact ⟨.inl rfl, .inl rfl, .inl rfl, trivial⟩
    · rintro v bs ⟨a, s', h, rfl, rfl⟩
      refine gP ?_
      refine fP (pieceBS l me log s') ?_
      exact ⟨a, s', by rw [← hE]; exact bind_err h, rfl, rfl⟩
    rintro d bs ⟨lk, s2, hq2, hle2, hlen2, rfl, rfl⟩
    rw [bind_ok hq2] at hE
    have hs2 := loadM_made hq2
    refine go ?_
    refine awp_region_w 11 [] rfl rfl (by kernel_rfl) (by kernel_rfl) (by kernel_rfl) ?_
    refine goQ ?_
    refine r_q (call_step (turn_c (ofW fr) lk hx2.1 hx2.2) rfl (fun a w => Tryz.call71 a w) rfl) rfl rfl ?_
    refine goQ ?_
    refine r_q (call_step (pack_c (turnW (ofW fr) lk)) rfl (fun a w => Tryz.call70 a w) rfl) rfl rfl ?_
    refine goQ ?_
    refine cX (cas_xS l me log s2 l.free fr (packW (turnW (ofW fr) lk)) hlen2 hl) (fun a w => Tryz.call69 a w) ?_ ?_ ?_ ?_
    · rintro d bs ⟨x, s', _, _, _, rfl, rfl⟩; exact ⟨.inl rfl, .inl rfl, .inl rfl, trivial⟩
    · rintro v bs ⟨a, s', _, rfl, rfl⟩; exact ⟨.inl rfl, .inl rfl, .inl rfl, trivial⟩
    · rintro v bs ⟨a, s', h, rfl, rfl⟩
      refine gP ?_
      refine fP (pieceBS l me log s') ?_
      exact ⟨a, s', by rw [← hE]; exact bind_err h, rfl, rfl⟩
    rintro d bs ⟨okk, s3, hq3, hle3, hlen3, rfl, rfl⟩
    rw [bind_ok hq3] at hE
    have hs3 := casM_made hq3
    refine go ?_
    cases okk
    · rw [if_neg (by decide)] at hE
      refine go ?_
      exact ⟨(k, s3), ⟨by simp only; omega, hlen3, by simp only; omega, hE⟩, by simp only; omega, zX⟩
    · rw [if_pos rfl, bind_ok last_ok] at hE
      refine go ?_
      refine a_q (lend_step (plast_cS l me s3 (by omega)) rfl (fun a w => Tryz.call72 a w) rfl rfl) rfl rfl rfl ?_
      refine go ?_
      refine cX (load_xS l me log s3 l.era hlen3 hl) (fun a w => Tryz.call67 a w) ?_ ?_ ?_ ?_
      · rintro d bs ⟨x, s', _, _, _, rfl, rfl⟩; exact ⟨.inl rfl, .inl rfl, .inl rfl, trivial⟩
      · rintro v bs ⟨a, s', _, rfl, rfl⟩; exact ⟨.inl rfl, .inl rfl, .inl rfl, trivial⟩
      · rintro v bs ⟨a, s', h, rfl, rfl⟩
        refine gP ?_
        refine fP (pieceBS l me log s') ?_
        exact ⟨a, s', by rw [← hE]; exact bind_err h, rfl, rfl⟩
      rintro d bs ⟨bi, s4, hq4, hle4, hlen4, rfl, rfl⟩
      rw [bind_ok hq4] at hE
      refine go ?_
      refine a_q (lend_step (pnode_cS l hL me s4 (ofW fr).idx 6 (by omega) (by omega)) rfl (fun a w => Tryz.call66 a w) rfl rfl) rfl rfl rfl ?_
      refine go ?_
      refine cX (store_xS l me log s4 (nodeF l (ofW fr).idx 6) bi hlen4 hl) (fun a w => Tryz.call65 a w) ?_ ?_ ?_ ?_
      · rintro d bs ⟨x, s', _, _, _, rfl, rfl⟩; exact ⟨.inl rfl, .inl rfl, .inl rfl, trivial⟩
      · rintro v bs ⟨a, s', _, rfl, rfl⟩; exact ⟨.inl rfl, .inl rfl, .inl rfl, trivial⟩
      · rintro v bs ⟨a, s', h, rfl, rfl⟩
        refine gP ?_
        refine fP (pieceBS l me log s') ?_
        exact ⟨a, s', by rw [← hE]; exact bind_err h, rfl, rfl⟩
      rintro d bs ⟨u, s5, hq5, hle5, hlen5, rfl, rfl⟩
      rw [bind_ok hq5] at hE
      refine go ?_
      first | refine fR (pieceBS l me log s5) ?_ | refine fN (pieceBS l me log s5) ?_
      exact ⟨_, s5, hE.symm, by omega, hlen5, rfl, rfl⟩
  · rw [if_pos (of_decide_eq_true h1), bind_ok last_ok] at hE
    refine go ?_
    refine a_q (lend_step (plast_cS l me s1 (by omega)) rfl (fun a w => Tryz.call72 a w) rfl rfl) rfl rfl rfl ?_
    refine go ?_
    first | refine fR (pieceBS l me log s1) ?_ | refine fN (pieceBS l me log s1) ?_
    exact ⟨_, s1, hE.symm, by omega, hlen1, rfl, rfl⟩

set_option maxHeartbeats 4000000 in
theorem give_xS (l : LayT) (hL : LayOk l) (me : Int) (log : List ResT) (s : PsT) (n : Int) (hn : n < 9223372036854775808) (hm : s.made ≤ log.length) (hl : log.length ≤ 1000000) : PmCS 102 l me log s [.ptr 11 0, dI n] (giveM l n log s) (fun _ => .tup []) := by
  generalize hE : giveM l n log s = E
  refine sX Tryz.func102 Tryz.ntmps102 fun w cl own kf => ?_
  refine go ?_
  refine awp_loop_ok (fun p : Nat × PsT => s.made ≤ p.2.made ∧ p.2.made ≤ log.length ∧ log.length - p.2.made < p.1 ∧ giveL l n p.1 log p.2 = E) (fun p => ⟨[(0, .ptr 11 0), (1, dI n)], pieceBS l me log p.2, []⟩) (fun p => p.1) (log.length + 1 - s.made, s) ⟨Nat.le_refl _, hm, by simp only; omega, hE⟩ (zX) ?_
  rintro ⟨k, t⟩ ⟨ht0, ht1, ht2, hE⟩
  simp only at ht0 ht1 ht2 hE
  obtain ⟨k, rfl⟩ : ∃ j, k = j + 1 := ⟨k - 1, by omega⟩
  refine (show AWP _ _ _ _ ⟨[(0, .ptr 11 0), (1, dI n)], pieceBS l me log t, []⟩ from ?_)
  rw [giveL] at hE
  refine go ?_
  refine cX (load_xS l me log t l.free ht1 hl) (fun a w => Tryz.call67 a w) ?_ ?_ ?_ ?_
  · rintro d bs ⟨x, s', _, _, _, rfl, rfl⟩; exact ⟨.inl rfl, .inl rfl, .inl rfl, trivial⟩
  · rintro v bs ⟨a, s', _, rfl, rfl⟩; exact ⟨.inl rfl, .inl rfl, .inl rfl, trivial⟩
  · rintro v bs ⟨a, s', h, rfl, rfl⟩
    refine gP ?_
    refine fP (pieceBS l me log s') ?_
    exact ⟨a, s', by rw [← hE]; exact bind_err h, rfl, rfl⟩
  rintro d bs ⟨fr, s1, hq1, hle1, hlen1, rfl, rfl⟩
  rw [bind_ok hq1] at hE
  have hs1 := loadM_made hq1
  have hx2 := ofW_cnt fr
  refine go ?_
  refine a_q (call_step (of_c fr) rfl (fun a w => Tryz.call68 a w) rfl) rfl rfl rfl ?_
  refine go ?_
  refine awp_region_w 6 [] rfl rfl (by kernel_rfl) (by kernel_rfl) (by kernel_rfl) ?_
  refine goQ ?_
  refine r_q (lend_step (pnode_cS l hL me s1 n 7 hn (by omega)) rfl (fun a w => Tryz.call66 a w) rfl rfl) rfl rfl ?_
  refine goQ ?_
  refine cX (store_xS l me log s1 (nodeF l n 7) (ofW fr).idx hlen1 hl) (fun a w => Tryz.call65 a w) ?_ ?_ ?_ ?_
  · rintro d bs ⟨x, s', _, _, _, rfl, rfl⟩; exact ⟨.inl rfl, .inl rfl, .inl rfl, trivial⟩
  · rintro v bs ⟨a, s', _, rfl, rfl⟩; exact ⟨.inl rfl, .inl rfl, .inl rfl, trivial⟩
  · rintro v bs ⟨a, s', h, rfl, rfl⟩
    refine gP ?_
    refine fP (pieceBS l me log s') ?_
    exact ⟨a, s', by rw [← hE]; exact bind_err h, rfl, rfl⟩
  rintro d bs ⟨u, s2, hq2, hle2, hlen2, rfl, rfl⟩
  rw [bind_ok hq2] at hE
  have hs2 := storeM_made hq2
  refine go ?_
  refine awp_region_w 11 [] rfl rfl (by kernel_rfl) (by kernel_rfl) (by kernel_rfl) ?_
  refine goQ ?_
  refine r_q (call_step (turn_c (ofW fr) n hx2.1 hx2.2) rfl (fun a w => Tryz.call71 a w) rfl) rfl rfl ?_
  refine goQ ?_
  refine r_q (call_step (pack_c (turnW (ofW fr) n)) rfl (fun a w => Tryz.call70 a w) rfl) rfl rfl ?_
  refine goQ ?_
  refine cX (cas_xS l me log s2 l.free fr (packW (turnW (ofW fr) n)) hlen2 hl) (fun a w => Tryz.call69 a w) ?_ ?_ ?_ ?_
  · rintro d bs ⟨x, s', _, _, _, rfl, rfl⟩; exact ⟨.inl rfl, .inl rfl, .inl rfl, trivial⟩
  · rintro v bs ⟨a, s', _, rfl, rfl⟩; exact ⟨.inl rfl, .inl rfl, .inl rfl, trivial⟩
  · rintro v bs ⟨a, s', h, rfl, rfl⟩
    refine gP ?_
    refine fP (pieceBS l me log s') ?_
    exact ⟨a, s', by rw [← hE]; exact bind_err h, rfl, rfl⟩
  rintro d bs ⟨okk, s3, hq3, hle3, hlen3, rfl, rfl⟩
  rw [bind_ok hq3] at hE
  have hs3 := casM_made hq3
  refine go ?_
  cases okk
  · rw [if_neg (by decide)] at hE
    refine go ?_
    exact ⟨(k, s3), ⟨by simp only; omega, hlen3, by simp only; omega, hE⟩, by simp only; omega, zX⟩
  · rw [if_pos rfl] at hE
    refine go ?_
    first | refine fR (pieceBS l me log s3) ?_ | refine fN (pieceBS l me log s3) ?_
    exact ⟨_, s3, hE.symm, by omega, hlen3, rfl, rfl⟩
end Go.Proofs.YtdmnjoidfjidbaaGreat
/- (of a stack)  Reservations: their walks. -/
namespace Go.Proofs.YtdmnjoidfjidbaaGreat
open Go.RowKit
set_option maxRecDepth 100000

set_option maxHeartbeats 4000000 in
theorem guard0_xS (l : LayT) (hL : LayOk l) (me : Int) (log : List ResT) (s : PsT) (cell : Int) (hm : s.made ≤ log.length) (hl : log.length ≤ 1000000) : PmCS 73 l me log s [.ptr 11 0, dI 0, dI cell] (guardM l me 0 cell log s) (fun p => .tup [dI p.1, dI p.2]) := by
  generalize hE : guardM l me 0 cell log s = E
  refine sX Tryz.func73 Tryz.ntmps73 fun w cl own kf => ?_
  refine go ?_
  refine awp_loop_ok (fun p : Nat × PsT => s.made ≤ p.2.made ∧ p.2.made ≤ log.length ∧ log.length - p.2.made < p.1 ∧ guardL l me 0 cell p.1 log p.2 = E) (fun p => ⟨[(0, .ptr 11 0), (1, dI 0), (2, dI cell)], pieceBS l me log p.2, []⟩) (fun p => p.1) (log.length + 1 - s.made, s) ⟨Nat.le_refl _, hm, by simp only; omega, hE⟩ (zX) ?_
  rintro ⟨k, t⟩ ⟨ht0, ht1, ht2, hE⟩
  simp only at ht0 ht1 ht2 hE
  obtain ⟨k, rfl⟩ : ∃ j, k = j + 1 := ⟨k - 1, by omega⟩
  refine (show AWP _ _ _ _ ⟨[(0, .ptr 11 0), (1, dI 0), (2, dI cell)], pieceBS l me log t, []⟩ from ?_)
  rw [guardL] at hE
  refine go ?_
  refine cX (load_xS l me log t cell ht1 hl) (fun a w => Tryz.call67 a w) ?_ ?_ ?_ ?_
  · rintro d bs ⟨x, s', _, _, _, rfl, rfl⟩; exact ⟨.inl rfl, .inl rfl, .inl rfl, trivial⟩
  · rintro v bs ⟨a, s', _, rfl, rfl⟩; exact ⟨.inl rfl, .inl rfl, .inl rfl, trivial⟩
  · rintro v bs ⟨a, s', h, rfl, rfl⟩
    refine gP ?_
    refine fP (pieceBS l me log s') ?_
    exact ⟨a, s', by rw [← hE]; exact bind_err h, rfl, rfl⟩
  rintro d bs ⟨v, s1, hq1, hle1, hlen1, rfl, rfl⟩
  rw [bind_ok hq1, bind_ok last_ok] at hE
  have hs1 := loadM_made hq1
  refine go ?_
  refine a_q (lend_step (plast_cS l me s1 (by omega)) rfl (fun a w => Tryz.call72 a w) rfl rfl) rfl rfl rfl ?_
  refine go ?_
  refine cX (load_xS l me log s1 l.era hlen1 hl) (fun a w => Tryz.call67 a w) ?_ ?_ ?_ ?_
  · rintro d bs ⟨x, s', _, _, _, rfl, rfl⟩; exact ⟨.inl rfl, .inl rfl, .inl rfl, trivial⟩
  · rintro v bs ⟨a, s', _, rfl, rfl⟩; exact ⟨.inl rfl, .inl rfl, .inl rfl, trivial⟩
  · rintro v bs ⟨a, s', h, rfl, rfl⟩
    refine gP ?_
    refine fP (pieceBS l me log s') ?_
    exact ⟨a, s', by rw [← hE]; exact bind_err h, rfl, rfl⟩
  rintro d bs ⟨er, s2, hq2, hle2, hlen2, rfl, rfl⟩
  rw [bind_ok hq2] at hE
  have hs2 := loadM_made hq2
  refine go ?_
  refine a_q (indexAddrP_step tabOk rfl rfl rfl rfl rfl (by omega) (by omega)) rfl rfl rfl ?_
  refine go ?_
  generalize h1 : decide (er = s2.e0) = cc; cases cc
  · rw [if_neg (show ¬ er = s2.e 0 from of_decide_eq_false h1)] at hE
    refine go ?_
    refine awp_region_w 12 [] rfl rfl (by kernel_rfl) (by kernel_rfl) (by kernel_rfl) ?_
    refine goQ ?_
    refine r_q (call_step (resv_c l hL me 0 (by omega)) rfl (fun a w => Tryz.call99 a w) rfl) rfl rfl ?_
    refine goQ ?_
    refine cX (store_xS l me log s2 (resvF l me 0) er hlen2 hl) (fun a w => Tryz.call65 a w) ?_ ?_ ?_ ?_
    · rintro d bs ⟨x, s', _, _, _, rfl, rfl⟩; exact ⟨.inl rfl, .inl rfl, .inl rfl, trivial⟩
    · rintro v bs ⟨a, s', _, rfl, rfl⟩; exact ⟨.inl rfl, .inl rfl, .inl rfl, trivial⟩
    · rintro v bs ⟨a, s', h, rfl, rfl⟩
      refine gP ?_
      refine fP (pieceBS l me log s') ?_
      exact ⟨a, s', by rw [← hE]; exact bind_err h, rfl, rfl⟩
    rintro d bs ⟨u, s3, hq3, hle3, hlen3, rfl, rfl⟩
    rw [bind_ok hq3] at hE
    have hs3 := storeM_made hq3
    refine go ?_
    refine a_q (indexAddrP_step tabOk rfl rfl rfl rfl rfl (by omega) (by omega)) rfl rfl rfl ?_
    refine go ?_
    exact ⟨(k, { s3 with e0 := er }), ⟨by simp only; omega, by simp only; omega, by simp only; omega, hE⟩, by simp only; omega, zX⟩
  · rw [if_pos (show er = s2.e 0 from of_decide_eq_true h1)] at hE
    refine go ?_
    first | refine fR (pieceBS l me log s2) ?_ | refine fN (pieceBS l me log s2) ?_
    exact ⟨_, s2, hE.symm, by omega, hlen2, rfl, rfl⟩

set_option maxHeartbeats 4000000 in
theorem guard1_xS (l : LayT) (hL : LayOk l) (me : Int) (log : List ResT) (s : PsT) (cell : Int) (hm : s.made ≤ log.length) (hl : log.length ≤ 1000000) : PmCS 73 l me log s [.ptr 11 0, dI 1, dI cell] (guardM l me 1 cell log s) (fun p => .tup [dI p.1, dI p.2]) := by
  generalize hE : guardM l me 1 cell log s = E
  refine sX Tryz.func73 Tryz.ntmps73 fun w cl own kf => ?_
  refine go ?_
  refine awp_loop_ok (fun p : Nat × PsT => s.made ≤ p.2.made ∧ p.2.made ≤ log.length ∧ log.length - p.2.made < p.1 ∧ guardL l me 1 cell p.1 log p.2 = E) (fun p => ⟨[(0, .ptr 11 0), (1, dI 1), (2, dI cell)], pieceBS l me log p.2, []⟩) (fun p => p.1) (log.length + 1 - s.made, s) ⟨Nat.le_refl _, hm, by simp only; omega, hE⟩ (zX) ?_
  rintro ⟨k, t⟩ ⟨ht0, ht1, ht2, hE⟩
  simp only at ht0 ht1 ht2 hE
  obtain ⟨k, rfl⟩ : ∃ j, k = j + 1 := ⟨k - 1, by omega⟩
  refine (show AWP _ _ _ _ ⟨[(0, .ptr 11 0), (1, dI 1), (2, dI cell)], pieceBS l me log t, []⟩ from ?_)
  rw [guardL] at hE
  refine go ?_
  refine cX (load_xS l me log t cell ht1 hl) (fun a w => Tryz.call67 a w) ?_ ?_ ?_ ?_
  · rintro d bs ⟨x, s', _, _, _, rfl, rfl⟩; exact ⟨.inl rfl, .inl rfl, .inl rfl, trivial⟩
  · rintro v bs ⟨a, s', _, rfl, rfl⟩; exact ⟨.inl rfl, .inl rfl, .inl rfl, trivial⟩
  · rintro v bs ⟨a, s', h, rfl, rfl⟩
    refine gP ?_
    refine fP (pieceBS l me log s') ?_
    exact ⟨a, s', by rw [← hE]; exact bind_err h, rfl, rfl⟩
  rintro d bs ⟨v, s1, hq1, hle1, hlen1, rfl, rfl⟩
  rw [bind_ok hq1, bind_ok last_ok] at hE
  have hs1 := loadM_made hq1
  refine go ?_
  refine a_q (lend_step (plast_cS l me s1 (by omega)) rfl (fun a w => Tryz.call72 a w) rfl rfl) rfl rfl rfl ?_
  refine go ?_
  refine cX (load_xS l me log s1 l.era hlen1 hl) (fun a w => Tryz.call67 a w) ?_ ?_ ?_ ?_
  · rintro d bs ⟨x, s', _, _, _, rfl, rfl⟩; exact ⟨.inl rfl, .inl rfl, .inl rfl, trivial⟩
  · rintro v bs ⟨a, s', _, rfl, rfl⟩; exact ⟨.inl rfl, .inl rfl, .inl rfl, trivial⟩
  · rintro v bs ⟨a, s', h, rfl, rfl⟩
    refine gP ?_
    refine fP (pieceBS l me log s') ?_
    exact ⟨a, s', by rw [← hE]; exact bind_err h, rfl, rfl⟩
  rintro d bs ⟨er, s2, hq2, hle2, hlen2, rfl, rfl⟩
  rw [bind_ok hq2] at hE
  have hs2 := loadM_made hq2
  refine go ?_
  refine a_q (indexAddrP_step tabOk rfl rfl rfl rfl rfl (by omega) (by omega)) rfl rfl rfl ?_
  refine go ?_
  generalize h1 : decide (er = s2.e1) = cc; cases cc
  · rw [if_neg (show ¬ er = s2.e 1 from of_decide_eq_false h1)] at hE
    refine go ?_
    refine awp_region_w 12 [] rfl rfl (by kernel_rfl) (by kernel_rfl) (by kernel_rfl) ?_
    refine goQ ?_
    refine r_q (call_step (resv_c l hL me 1 (by omega)) rfl (fun a w => Tryz.call99 a w) rfl) rfl rfl ?_
    refine goQ ?_
    refine cX (store_xS l me log s2 (resvF l me 1) er hlen2 hl) (fun a w => Tryz.call65 a w) ?_ ?_ ?_ ?_
    · rintro d bs ⟨x, s', _, _, _, rfl, rfl⟩; exact ⟨.inl rfl, .inl rfl, .inl rfl, trivial⟩
    · rintro v bs ⟨a, s', _, rfl, rfl⟩; exact ⟨.inl rfl, .inl rfl, .inl rfl, trivial⟩
    · rintro v bs ⟨a, s', h, rfl, rfl⟩
      refine gP ?_
      refine fP (pieceBS l me log s') ?_
      exact ⟨a, s', by rw [← hE]; exact bind_err h, rfl, rfl⟩
    rintro d bs ⟨u, s3, hq3, hle3, hlen3, rfl, rfl⟩
    rw [bind_ok hq3] at hE
    have hs3 := storeM_made hq3
    refine go ?_
    refine a_q (indexAddrP_step tabOk rfl rfl rfl rfl rfl (by omega) (by omega)) rfl rfl rfl ?_
    refine go ?_
    exact ⟨(k, { s3 with e1 := er }), ⟨by simp only; omega, by simp only; omega, by simp only; omega, hE⟩, by simp only; omega, zX⟩
  · rw [if_pos (show er = s2.e 1 from of_decide_eq_true h1)] at hE
    refine go ?_
    first | refine fR (pieceBS l me log s2) ?_ | refine fN (pieceBS l me log s2) ?_
    exact ⟨_, s2, hE.symm, by omega, hlen2, rfl, rfl⟩

set_option maxHeartbeats 4000000 in
theorem guard2_xS (l : LayT) (hL : LayOk l) (me : Int) (log : List ResT) (s : PsT) (cell : Int) (hm : s.made ≤ log.length) (hl : log.length ≤ 1000000) : PmCS 73 l me log s [.ptr 11 0, dI 2, dI cell] (guardM l me 2 cell log s) (fun p => .tup [dI p.1, dI p.2]) := by
  generalize hE : guardM l me 2 cell log s = E
  refine sX Tryz.func73 Tryz.ntmps73 fun w cl own kf => ?_
  refine go ?_
  refine awp_loop_ok (fun p : Nat × PsT => s.made ≤ p.2.made ∧ p.2.made ≤ log.length ∧ log.length - p.2.made < p.1 ∧ guardL l me 2 cell p.1 log p.2 = E) (fun p => ⟨[(0, .ptr 11 0), (1, dI 2), (2, dI cell)], pieceBS l me log p.2, []⟩) (fun p => p.1) (log.length + 1 - s.made, s) ⟨Nat.le_refl _, hm, by simp only; omega, hE⟩ (zX) ?_
  rintro ⟨k, t⟩ ⟨ht0, ht1, ht2, hE⟩
  simp only at ht0 ht1 ht2 hE
  obtain ⟨k, rfl⟩ : ∃ j, k = j + 1 := ⟨k - 1, by omega⟩
  refine (show AWP _ _ _ _ ⟨[(0, .ptr 11 0), (1, dI 2), (2, dI cell)], pieceBS l me log t, []⟩ from ?_)
  rw [guardL] at hE
  refine go ?_
  refine cX (load_xS l me log t cell ht1 hl) (fun a w => Tryz.call67 a w) ?_ ?_ ?_ ?_
  · rintro d bs ⟨x, s', _, _, _, rfl, rfl⟩; exact ⟨.inl rfl, .inl rfl, .inl rfl, trivial⟩
  · rintro v bs ⟨a, s', _, rfl, rfl⟩; exact ⟨.inl rfl, .inl rfl, .inl rfl, trivial⟩
  · rintro v bs ⟨a, s', h, rfl, rfl⟩
    refine gP ?_
    refine fP (pieceBS l me log s') ?_
    exact ⟨a, s', by rw [← hE]; exact bind_err h, rfl, rfl⟩
  rintro d bs ⟨v, s1, hq1, hle1, hlen1, rfl, rfl⟩
  rw [bind_ok hq1, bind_ok last_ok] at hE
  have hs1 := loadM_made hq1
  refine go ?_
  refine a_q (lend_step (plast_cS l me s1 (by omega)) rfl (fun a w => Tryz.call72 a w) rfl rfl) rfl rfl rfl ?_
  refine go ?_
  refine cX (load_xS l me log s1 l.era hlen1 hl) (fun a w => Tryz.call67 a w) ?_ ?_ ?_ ?_
  · rintro d bs ⟨x, s', _, _, _, rfl, rfl⟩; exact ⟨.inl rfl, .inl rfl, .inl rfl, trivial⟩
  · rintro v bs ⟨a, s', _, rfl, rfl⟩; exact ⟨.inl rfl, .inl rfl, .inl rfl, trivial⟩
  · rintro v bs ⟨a, s', h, rfl, rfl⟩
    refine gP ?_
    refine fP (pieceBS l me log s') ?_
    exact ⟨a, s', by rw [← hE]; exact bind_err h, rfl, rfl⟩
  rintro d bs ⟨er, s2, hq2, hle2, hlen2, rfl, rfl⟩
  rw [bind_ok hq2] at hE
  have hs2 := loadM_made hq2
  refine go ?_
  refine a_q (indexAddrP_step tabOk rfl rfl rfl rfl rfl (by omega) (by omega)) rfl rfl rfl ?_
  refine go ?_
  generalize h1 : decide (er = s2.e2) = cc; cases cc
  · rw [if_neg (show ¬ er = s2.e 2 from of_decide_eq_false h1)] at hE
    refine go ?_
    refine awp_region_w 12 [] rfl rfl (by kernel_rfl) (by kernel_rfl) (by kernel_rfl) ?_
    refine goQ ?_
    refine r_q (call_step (resv_c l hL me 2 (by omega)) rfl (fun a w => Tryz.call99 a w) rfl) rfl rfl ?_
    refine goQ ?_
    refine cX (store_xS l me log s2 (resvF l me 2) er hlen2 hl) (fun a w => Tryz.call65 a w) ?_ ?_ ?_ ?_
    · rintro d bs ⟨x, s', _, _, _, rfl, rfl⟩; exact ⟨.inl rfl, .inl rfl, .inl rfl, trivial⟩
    · rintro v bs ⟨a, s', _, rfl, rfl⟩; exact ⟨.inl rfl, .inl rfl, .inl rfl, trivial⟩
    · rintro v bs ⟨a, s', h, rfl, rfl⟩
      refine gP ?_
      refine fP (pieceBS l me log s') ?_
      exact ⟨a, s', by rw [← hE]; exact bind_err h, rfl, rfl⟩
    rintro d bs ⟨u, s3, hq3, hle3, hlen3, rfl, rfl⟩
    rw [bind_ok hq3] at hE
    have hs3 := storeM_made hq3
    refine go ?_
    refine a_q (indexAddrP_step tabOk rfl rfl rfl rfl rfl (by omega) (by omega)) rfl rfl rfl ?_
    refine go ?_
    exact ⟨(k, { s3 with e2 := er }), ⟨by simp only; omega, by simp only; omega, by simp only; omega, hE⟩, by simp only; omega, zX⟩
  · rw [if_pos (show er = s2.e 2 from of_decide_eq_true h1)] at hE
    refine go ?_
    first | refine fR (pieceBS l me log s2) ?_ | refine fN (pieceBS l me log s2) ?_
    exact ⟨_, s2, hE.symm, by omega, hlen2, rfl, rfl⟩

theorem guard_xS (l : LayT) (hL : LayOk l) (me : Int) (log : List ResT) (s : PsT) (i cell : Int) (hi : i = 0 ∨ i = 1 ∨ i = 2) (hm : s.made ≤ log.length) (hl : log.length ≤ 1000000) : PmCS 73 l me log s [.ptr 11 0, dI i, dI cell] (guardM l me i cell log s) (fun p => .tup [dI p.1, dI p.2]) := by
  rcases hi with rfl | rfl | rfl
  · exact guard0_xS l hL me log s cell hm hl
  · exact guard1_xS l hL me log s cell hm hl
  · exact guard2_xS l hL me log s cell hm hl

set_option maxHeartbeats 4000000 in
theorem clear_xS (l : LayT) (hL : LayOk l) (me : Int) (log : List ResT) (s : PsT) (hm : s.made ≤ log.length) (hl : log.length ≤ 1000000) : PmCS 74 l me log s [.ptr 11 0] (clearM l me log s) (fun _ => .tup []) := by
  generalize hE : clearM l me log s = E
  unfold clearM at hE
  refine sX Tryz.func74 Tryz.ntmps74 fun w cl own kf => ?_
  refine go ?_
  refine awp_loop_ok (fun p : Nat × PsT => p.1 ≤ 3 ∧ s.made ≤ p.2.made ∧ p.2.made ≤ log.length ∧ clrL l me p.1 ([s.e0, s.e1, s.e2].drop p.1) log p.2 = E) (fun p => ⟨[(8, dI p.1), (7, .agg [dI s.e0, dI s.e1, dI s.e2]), (0, .ptr 11 0)], pieceBS l me log p.2, []⟩) (fun p => 3 - p.1) (0, s) ⟨by simp only; omega, Nat.le_refl _, hm, hE⟩ (zX) ?_
  rintro ⟨i, t⟩ ⟨hi, ht0, ht1, hE⟩
  simp only at hi ht0 ht1 hE
  rcases (show i = 0 ∨ i = 1 ∨ i = 2 ∨ i = 3 by omega) with rfl | rfl | rfl | rfl
  · refine (show AWP _ _ _ _ ⟨[(8, dI 0), (7, .agg [dI s.e0, dI s.e1, dI s.e2]), (0, .ptr 11 0)], pieceBS l me log t, []⟩ from ?_)
    have hE : (clr1 l me 0 s.e0).bind (fun _ => clrL l me 1 ([s.e0, s.e1, s.e2].drop 1)) log t = E := hE
    refine go ?_
    refine ck_b (fun h1 => ?_) (fun h1 => ?_) <;> try rw [h1]
    · refine go ?_
      refine a_q (index_step tabOk (dI s.e0) rfl rfl rfl rfl rfl rfl (by omega) (by omega) rfl) rfl rfl rfl ?_
      refine go ?_
      generalize h2 : decide (s.e0 = 0) = cc; cases cc
      · rw [clr1, if_neg (of_decide_eq_false h2)] at hE
        refine go ?_
        refine awp_region_w 11 [] rfl rfl (by kernel_rfl) (by kernel_rfl) (by kernel_rfl) ?_
        refine goQ ?_
        refine r_q (call_step (resv_c l hL me 0 (by omega)) rfl (fun a w => Tryz.call99 a w) rfl) rfl rfl ?_
        refine goQ ?_
        refine cX (store_xS l me log t (resvF l me 0) 0 ht1 hl) (fun a w => Tryz.call65 a w) ?_ ?_ ?_ ?_
        · rintro d bs ⟨x, s', _, _, _, rfl, rfl⟩; exact ⟨.inl rfl, .inl rfl, .inl rfl, trivial⟩
        · rintro v bs ⟨a, s', _, rfl, rfl⟩; exact ⟨.inl rfl, .inl rfl, .inl rfl, trivial⟩
        · rintro v bs ⟨a, s', h, rfl, rfl⟩
          refine gP ?_
          refine fP (pieceBS l me log s') ?_
          exact ⟨a, s', by rw [← hE]; exact bind_err (bind_err h), rfl, rfl⟩
        rintro d bs ⟨u, s1, hq1, hle1, hlen1, rfl, rfl⟩
        have hE2 : clrL l me 1 ([s.e0, s.e1, s.e2].drop 1) log { s1 with e0 := 0 } = E := by rw [← hE]; exact (bind_ok (f := fun _ => clrL l me 1 ([s.e0, s.e1, s.e2].drop 1)) (bind_ok (f := fun _ => setE 0) hq1)).symm
        refine go ?_
        refine a_q (indexAddrP_step tabOk rfl rfl rfl rfl rfl (by omega) (by omega)) rfl rfl rfl ?_
        refine go ?_
        exact ⟨(1, { s1 with e0 := 0 }), ⟨by simp only; omega, by simp only; omega, by simp only; omega, hE2⟩, by simp only; omega, zX⟩
      · rw [clr1, if_pos (of_decide_eq_true h2)] at hE
        refine go ?_
        exact ⟨(1, t), ⟨by simp only; omega, ht0, ht1, hE⟩, by simp only; omega, zX⟩
    · exact absurd h1 (by decide)
  · refine (show AWP _ _ _ _ ⟨[(8, dI 1), (7, .agg [dI s.e0, dI s.e1, dI s.e2]), (0, .ptr 11 0)], pieceBS l me log t, []⟩ from ?_)
    have hE : (clr1 l me 1 s.e1).bind (fun _ => clrL l me 2 ([s.e0, s.e1, s.e2].drop 2)) log t = E := hE
    refine go ?_
    refine ck_b (fun h1 => ?_) (fun h1 => ?_) <;> try rw [h1]
    · refine go ?_
      refine a_q (index_step tabOk (dI s.e1) rfl rfl rfl rfl rfl rfl (by omega) (by omega) rfl) rfl rfl rfl ?_
      refine go ?_
      generalize h2 : decide (s.e1 = 0) = cc; cases cc
      · rw [clr1, if_neg (of_decide_eq_false h2)] at hE
        refine go ?_
        refine awp_region_w 11 [] rfl rfl (by kernel_rfl) (by kernel_rfl) (by kernel_rfl) ?_
        refine goQ ?_
        refine r_q (call_step (resv_c l hL me 1 (by omega)) rfl (fun a w => Tryz.call99 a w) rfl) rfl rfl ?_
        refine goQ ?_
        refine cX (store_xS l me log t (resvF l me 1) 0 ht1 hl) (fun a w => Tryz.call65 a w) ?_ ?_ ?_ ?_
        · rintro d bs ⟨x, s', _, _, _, rfl, rfl⟩; exact ⟨.inl rfl, .inl rfl, .inl rfl, trivial⟩
        · rintro v bs ⟨a, s', _, rfl, rfl⟩; exact ⟨.inl rfl, .inl rfl, .inl rfl, trivial⟩
        · rintro v bs ⟨a, s', h, rfl, rfl⟩
          refine gP ?_
          refine fP (pieceBS l me log s') ?_
          exact ⟨a, s', by rw [← hE]; exact bind_err (bind_err h), rfl, rfl⟩
        rintro d bs ⟨u, s1, hq1, hle1, hlen1, rfl, rfl⟩
        have hE2 : clrL l me 2 ([s.e0, s.e1, s.e2].drop 2) log { s1 with e1 := 0 } = E := by rw [← hE]; exact (bind_ok (f := fun _ => clrL l me 2 ([s.e0, s.e1, s.e2].drop 2)) (bind_ok (f := fun _ => setE 1) hq1)).symm
        refine go ?_
        refine a_q (indexAddrP_step tabOk rfl rfl rfl rfl rfl (by omega) (by omega)) rfl rfl rfl ?_
        refine go ?_
        exact ⟨(2, { s1 with e1 := 0 }), ⟨by simp only; omega, by simp only; omega, by simp only; omega, hE2⟩, by simp only; omega, zX⟩
      · rw [clr1, if_pos (of_decide_eq_true h2)] at hE
        refine go ?_
        exact ⟨(2, t), ⟨by simp only; omega, ht0, ht1, hE⟩, by simp only; omega, zX⟩
    · exact absurd h1 (by decide)
  · refine (show AWP _ _ _ _ ⟨[(8, dI 2), (7, .agg [dI s.e0, dI s.e1, dI s.e2]), (0, .ptr 11 0)], pieceBS l me log t, []⟩ from ?_)
    have hE : (clr1 l me 2 s.e2).bind (fun _ => clrL l me 3 ([s.e0, s.e1, s.e2].drop 3)) log t = E := hE
    refine go ?_
    refine ck_b (fun h1 => ?_) (fun h1 => ?_) <;> try rw [h1]
    · refine go ?_
      refine a_q (index_step tabOk (dI s.e2) rfl rfl rfl rfl rfl rfl (by omega) (by omega) rfl) rfl rfl rfl ?_
      refine go ?_
      generalize h2 : decide (s.e2 = 0) = cc; cases cc
      · rw [clr1, if_neg (of_decide_eq_false h2)] at hE
        refine go ?_
        refine awp_region_w 11 [] rfl rfl (by kernel_rfl) (by kernel_rfl) (by kernel_rfl) ?_
        refine goQ ?_
        refine r_q (call_step (resv_c l hL me 2 (by omega)) rfl (fun a w => Tryz.call99 a w) rfl) rfl rfl ?_
        refine goQ ?_
        refine cX (store_xS l me log t (resvF l me 2) 0 ht1 hl) (fun a w => Tryz.call65 a w) ?_ ?_ ?_ ?_
        · rintro d bs ⟨x, s', _, _, _, rfl, rfl⟩; exact ⟨.inl rfl, .inl rfl, .inl rfl, trivial⟩
        · rintro v bs ⟨a, s', _, rfl, rfl⟩; exact ⟨.inl rfl, .inl rfl, .inl rfl, trivial⟩
        · rintro v bs ⟨a, s', h, rfl, rfl⟩
          refine gP ?_
          refine fP (pieceBS l me log s') ?_
          exact ⟨a, s', by rw [← hE]; exact bind_err (bind_err h), rfl, rfl⟩
        rintro d bs ⟨u, s1, hq1, hle1, hlen1, rfl, rfl⟩
        have hE2 : clrL l me 3 ([s.e0, s.e1, s.e2].drop 3) log { s1 with e2 := 0 } = E := by rw [← hE]; exact (bind_ok (f := fun _ => clrL l me 3 ([s.e0, s.e1, s.e2].drop 3)) (bind_ok (f := fun _ => setE 2) hq1)).symm
        refine go ?_
        refine a_q (indexAddrP_step tabOk rfl rfl rfl rfl rfl (by omega) (by omega)) rfl rfl rfl ?_
        refine go ?_
        exact ⟨(3, { s1 with e2 := 0 }), ⟨by simp only; omega, by simp only; omega, by simp only; omega, hE2⟩, by simp only; omega, zX⟩
      · rw [clr1, if_pos (of_decide_eq_true h2)] at hE
        refine go ?_
        exact ⟨(3, t), ⟨by simp only; omega, ht0, ht1, hE⟩, by simp only; omega, zX⟩
    · exact absurd h1 (by decide)
  · refine (show AWP _ _ _ _ ⟨[(8, dI 3), (7, .agg [dI s.e0, dI s.e1, dI s.e2]), (0, .ptr 11 0)], pieceBS l me log t, []⟩ from ?_)
    refine go ?_
    refine ck_b (fun h1 => ?_) (fun h1 => ?_) <;> try rw [h1]
    · exact absurd h1 (by decide)
    · refine go ?_
      first | refine fR (pieceBS l me log t) ?_ | refine fN (pieceBS l me log t) ?_
      exact ⟨(), t, hE.symm, ht0, ht1, rfl, rfl⟩
end Go.Proofs.YtdmnjoidfjidbaaGreat
/- (of a stack)  Retiring nodes: its walk. -/
namespace Go.Proofs.YtdmnjoidfjidbaaGreat
open Go.RowKit
set_option maxRecDepth 100000

theorem clo90_cS (r f g0 g1 : Int) : PureC Tryz.prog 101 [dI r, .el [pI f], .el [pI g0, pI g1]] (dB (inB f g1 r)) := by
  refine pure_fin tabOk Tryz.func101 rfl Tryz.ntmps101 rfl rfl rfl fun w cl => ?_
  refine go ?_
  generalize h1 : decide (f ≤ r) = cc; cases cc
  · refine go ?_
    first | refine fin_ret rfl ?_ | refine fin_normal rfl ?_
    rw [inB, h1]; rfl
  · refine go ?_
    refine a_q (indexAddrE_step tabOk rfl rfl rfl rfl rfl (by omega) (by omega) rfl) rfl rfl rfl ?_
    refine go ?_
    first | refine fin_ret rfl ?_ | refine fin_normal rfl ?_
    rw [inB, h1]; rfl
abbrev cloDS (f g0 g1 : Int) : Dt := .fn (.func 101) [] [.el [pI f], .el [pI g0, pI g1]]
set_option maxHeartbeats 4000000 in
theorem idxfn_cS (held : List Int) (hh : held.length ≤ 1000000) (f g0 g1 : Int) : PureC Tryz.prog 107 [dInts held, cloDS f g0 g1] (dI (findF (inB f g1) held 0)) := by
  generalize hE : findF (inB f g1) held 0 = E
  refine pure_fin tabOk Tryz.func107 rfl Tryz.ntmps107 rfl rfl rfl fun w cl => ?_
  refine go ?_
  refine awp_loop_ok (fun i : Nat => i ≤ held.length ∧ findF (inB f g1) (held.drop i) i = E) (fun i => ⟨[(8, dI i), (7, dI held.length), (6, dInts held), (0, dInts held), (1, cloDS f g0 g1)], [], []⟩) (fun i => held.length - i) 0 ⟨Nat.zero_le _, hE⟩ (zX) ?_
  rintro i ⟨hi, hE⟩
  refine go ?_
  refine ck_b (fun h1 => ?_) (fun h1 => ?_) <;> try rw [h1]
  · have h1' := of_decide_eq_true h1
    have hil : i < held.length := by omega
    obtain ⟨x, hx⟩ := getI (l := held) (i := i) (by omega) h1'
    have hd : held.drop i = x :: held.drop (i + 1) := by
      rw [List.drop_eq_getElem_cons hil]
      simp only [Int.toNat_natCast] at hx
      rw [(List.getElem?_eq_some_iff.1 hx).2]
    rw [hd, findF] at hE
    refine go ?_
    refine a_q (indexAddr_step tabOk [pI x] rfl rfl rfl rfl rfl rfl (by first | omega | (simp; done) | (simp; omega)) (by first | omega | (simp; done) | (simp; omega)) (by first | (simp; done) | exact List.cons_ne_nil _ _) (ints_idx hx)) rfl rfl rfl ?_
    refine go ?_
    refine a_q (callv_step (clo90_cS x f g0 g1) rfl (fun a w => Tryz.call101 a w) rfl rfl) rfl rfl rfl ?_
    refine go ?_
    generalize h2 : inB f g1 x = cc; cases cc
    · rw [h2, if_neg (by decide)] at hE
      refine go ?_
      exact ⟨i + 1, ⟨by omega, hE⟩, by omega, zX⟩
    · rw [h2, if_pos rfl] at hE
      refine go ?_
      first | refine fin_ret rfl ?_ | refine fin_normal rfl ?_
      rw [hE]
  · have hil : held.length ≤ i := by have := of_decide_eq_false h1; omega
    rw [List.drop_of_length_le hil, findF] at hE
    refine go ?_
    first | refine fin_ret rfl ?_ | refine fin_normal rfl ?_
    rw [← hE]
theorem contains_cS (held : List Int) (hh : held.length ≤ 1000000) (f g0 g1 : Int) : PureC Tryz.prog 100 [dInts held, cloDS f g0 g1] (dB (held.any (inB f g1))) := by
  refine pure_fin tabOk Tryz.func100 rfl Tryz.ntmps100 rfl rfl rfl fun w cl => ?_
  refine go ?_
  refine a_q (call_step (idxfn_cS held hh f g0 g1) rfl (fun a w => Tryz.call107 a w) rfl) rfl rfl rfl ?_
  refine go ?_
  first | refine fin_ret rfl ?_ | refine fin_normal rfl ?_
  rw [← findF_any _ held 0]
end Go.Proofs.YtdmnjoidfjidbaaGreat
/- (of a stack)  Retiring nodes: its walk, whole. -/
namespace Go.Proofs.YtdmnjoidfjidbaaGreat
open Go.RowKit
set_option maxRecDepth 100000

set_option maxHeartbeats 8000000 in
theorem retire_xS (l : LayT) (hL : LayOk l) (me : Int) (log : List ResT) (s : PsT) (n : Int) (hn : n < 9223372036854775808) (hgo : GoneOk s.gone) (hgl : s.gone.length ≤ 10000) (hm : s.made ≤ log.length) (hl : log.length ≤ 1000000) : PmCS 75 l me log s [.ptr 11 0, dI n] (retireM l n log s) (fun _ => .tup []) := by
  have hse := hL.seats
  unfold smallB at hse
  generalize hE : retireM l n log s = E
  unfold retireM at hE
  refine sX Tryz.func75 Tryz.ntmps75 fun w cl own kf => ?_
  refine go ?_
  refine cX (load_xS l me log s l.era hm hl) (fun a w => Tryz.call67 a w) ?_ ?_ ?_ ?_
  · rintro d bs ⟨x, s', _, _, _, rfl, rfl⟩; exact ⟨.inl rfl, .inl rfl, .inl rfl, trivial⟩
  · rintro v bs ⟨a, s', _, rfl, rfl⟩; exact ⟨.inl rfl, .inl rfl, .inl rfl, trivial⟩
  · rintro v bs ⟨a, s', h, rfl, rfl⟩
    refine gP ?_
    refine fP (pieceBS l me log s') ?_
    exact ⟨a, s', by rw [← hE]; exact bind_err h, rfl, rfl⟩
  rintro d bs ⟨er, s1, hq1, hle1, hlen1, rfl, rfl⟩
  rw [bind_ok hq1] at hE
  have hs1 := loadM_gone hq1
  refine go ?_
  refine awp_region_w 10 [] rfl rfl (by kernel_rfl) (by kernel_rfl) (by kernel_rfl) ?_
  refine goQ ?_
  refine a_callvX (do_xS l me log s1 ⟨4, l.era, 0, 1⟩ hlen1 hl) rfl (fun a w => Tryz.call62 a w) rfl rfl rfl (by (repeat (first | exact trivial | refine ⟨⟨rfl, rfl⟩, ?_⟩))) (by (repeat (first | exact trivial | refine ⟨.inr rfl, ?_⟩ | refine ⟨.inl rfl, ?_⟩))) rfl rfl rfl rfl ?_ ?_ ?_ ?_
  · rintro d bs ⟨x, s', _, _, _, rfl, rfl⟩; exact ⟨.inl rfl, .inl rfl, .inl rfl, trivial⟩
  · rintro v bs ⟨a, s', _, rfl, rfl⟩; exact ⟨.inl rfl, .inl rfl, .inl rfl, trivial⟩
  · rintro v bs ⟨a, s', h, rfl, rfl⟩
    refine gP ?_
    refine fP (pieceBS l me log s') ?_
    exact ⟨a, s', by rw [← hE]; exact bind_err h, rfl, rfl⟩
  rintro d bs ⟨dr, s2, hq2, hle2, hlen2, rfl, rfl⟩
  rw [bind_ok hq2] at hE
  have hg2 : s2.gone = s.gone := by rw [(doM_gone hq2).1, hs1.1]
  rw [hg2] at hE
  have hm2 : s.made ≤ s2.made := by omega
  clear hq1 hq2 hs1 hle1 hle2 hlen1
  refine go ?_
  refine a_callF 0 (clone2_f s2.gone (by rw [hg2]; omega)) rfl (fun a w => Tryz.call61 a w) rfl rfl rfl rfl rfl (pGone_len _) ?_
  refine go ?_
  refine a_append tabOk rfl rfl rfl rfl rfl rfl rfl rfl rfl rfl rfl rfl rfl (by rw [hg2]; unfold maxLen; omega) (by show (_ + _) * 16 ≤ _; rw [hg2]; omega) ?_
  refine goO ?_
  refine q_then_normal ?_
  refine awp_ghost (lowB_ghost 11 (cs' := pieceDS l me { s2 with gone := s.gone ++ [(n, er)] }) rfl (by
    show List.map lowD _ = _
    have e : plGone (s.gone ++ [(n, er)]) = .sl false (s.gone.length + 1) (pGone s.gone ++ [pI n, pI er]) := by rw [plGone, pGone_app, List.length_append]; rfl
    simp only [List.map, lowD, lowP, hg2, pieceDS, dGone]
    rw [e])) ?_
  generalize hgN : s.gone ++ [(n, er)] = gN at hE
  have hgNl : gN.length = s.gone.length + 1 := by rw [← hgN]; simp
  have hgNo : GoneOk gN := by
    intro p hp
    rw [← hgN] at hp
    rcases List.mem_append.1 hp with hp | hp
    · exact hgo p hp
    · simp at hp; rw [hp]; exact hn
  have ew : IntKind.i64.wrap (2 * l.seats) = 2 * l.seats := wrap_id (by omega) (by omega)
  refine awp_ghost (σ' := ⟨[(0, .ptr 11 0)], pieceBS l me log { s2 with gone := gN }, []⟩) (zX) ?_
  generalize hs3 : ({ s2 with gone := gN } : PsT) = s3 at hE ⊢
  have hlen3 : s3.made ≤ log.length := by rw [← hs3]; exact hlen2
  have hle3 : s.made ≤ s3.made := by rw [← hs3]; exact hm2
  have hg3 : s3.gone = gN := by rw [← hs3]
  refine go ?_
  refine awp_region_q [] rfl (by kernel_rfl) (by kernel_rfl) ?_
  refine goQ ?_
  rw [ew]
  refine goQ ?_
  refine go ?_
  rw [hg3]
  generalize h1 : decide ((gN.length : Int) < 2 * l.seats) = cc; cases cc
  · have h1' := of_decide_eq_false h1
    rw [if_neg (by omega), scanM] at hE
    refine go ?_
    refine awp_ghost (tip_ghost 5 0 3 1 rfl rfl rfl) ?_
    refine awp_loop_ok (fun p : Nat × List Int × Nat × PsT => p.1 + p.2.2.1 = l.seats.toNat ∧ p.2.1.length = 3 * p.1 ∧ s.made ≤ p.2.2.2.made ∧ p.2.2.2.made ≤ log.length ∧ p.2.2.2.gone = gN ∧ (loadAcc p.2.1 (resvsF l p.1 p.2.2.1)).bind (fun held => (siftL l held gN []).bind fun stay => setGone stay) log p.2.2.2 = E) (fun p => ⟨[(62, dI p.1), (61, dI l.seats), (5, .tip 0 p.2.1.length (pInts p.2.1)), (0, .ptr 11 0)], pieceBS l me log p.2.2.2, [(0, ⟨3, 1, p.2.1.length⟩)]⟩) (fun p => p.2.2.1) (0, [], l.seats.toNat, s3) ⟨by simp, rfl, hle3, hlen3, hg3, hE⟩ (zX) ?_
    rintro ⟨j, acc, m, t⟩ ⟨hj, hal, ht0, ht1, htg, hE⟩
    simp only at hj hal ht0 ht1 htg hE
    refine (show AWP _ _ _ _ ⟨[(62, dI j), (61, dI l.seats), (5, .tip 0 acc.length (pInts acc)), (0, .ptr 11 0)], pieceBS l me log t, [(0, ⟨3, 1, acc.length⟩)]⟩ from ?_)
    refine go ?_
    refine ck_b (fun h2 => ?_) (fun h2 => ?_) <;> try rw [h2]
    · have h2' := of_decide_eq_true h2
      obtain ⟨m, rfl⟩ : ∃ k, m = k + 1 := ⟨m - 1, by omega⟩
      rw [resvsF] at hE
      refine go ?_
      refine awp_loop_ok (fun q : Nat × List Int × PsT => q.1 ≤ 3 ∧ q.2.1.length = 3 * j + q.1 ∧ s.made ≤ q.2.2.made ∧ q.2.2.made ≤ log.length ∧ q.2.2.gone = gN ∧ (loadAcc q.2.1 (([resvF l j 0, resvF l j 1, resvF l j 2].drop q.1) ++ resvsF l (j + 1) m)).bind (fun held => (siftL l held gN []).bind fun stay => setGone stay) log q.2.2 = E) (fun q => ⟨[(65, dI q.1), (62, dI j), (61, dI l.seats), (6, dI j), (5, .tip 0 q.2.1.length (pInts q.2.1)), (0, .ptr 11 0)], pieceBS l me log q.2.2, [(0, ⟨3, 1, q.2.1.length⟩)]⟩) (fun q => 3 - q.1) (0, acc, t) ⟨by simp only; omega, by simp only; omega, ht0, ht1, htg, hE⟩ (zX) ?_
      rintro ⟨i, ac, t⟩ ⟨hi, hacl, ht0, ht1, htg, hE⟩
      simp only at hi hacl ht0 ht1 htg hE
      rcases (show i = 0 ∨ i = 1 ∨ i = 2 ∨ i = 3 by omega) with rfl | rfl | rfl | rfl
      · refine (show AWP _ _ _ _ ⟨[(65, dI 0), (62, dI j), (61, dI l.seats), (6, dI j), (5, .tip 0 ac.length (pInts ac)), (0, .ptr 11 0)], pieceBS l me log t, [(0, ⟨3, 1, ac.length⟩)]⟩ from ?_)
        have hE : ((loadM (resvF l j 0)).bind fun v => loadAcc (ac ++ [v]) (([resvF l j 0, resvF l j 1, resvF l j 2].drop 1) ++ resvsF l (j + 1) m)).bind (fun held => (siftL l held gN []).bind fun stay => setGone stay) log t = E := hE
        rw [bind_assoc] at hE
        refine go ?_
        refine ck_b (fun h3 => ?_) (fun h3 => ?_) <;> try rw [h3]
        · refine go ?_
          refine a_q (call_step (resv_c l hL j 0 (by omega)) rfl (fun a w => Tryz.call99 a w) rfl) rfl rfl rfl ?_
          refine go ?_
          refine cX (load_xS l me log t (resvF l j 0) ht1 hl) (fun a w => Tryz.call67 a w) ?_ ?_ ?_ ?_
          · rintro d bs ⟨x, s', _, _, _, rfl, rfl⟩; exact ⟨.inl rfl, .inl rfl, .inl rfl, trivial⟩
          · rintro v bs ⟨a, s', _, rfl, rfl⟩; exact ⟨.inl rfl, .inl rfl, .inl rfl, trivial⟩
          · rintro v bs ⟨a, s', h, rfl, rfl⟩
            refine gP ?_
            refine fP (pieceBS l me log s') ?_
            exact ⟨a, s', by rw [← hE]; exact bind_err h, rfl, rfl⟩
          rintro d bs ⟨v, s4, hq4, hle4, hlen4, rfl, rfl⟩
          rw [bind_ok hq4] at hE
          have hg4 : s4.gone = gN := by rw [(loadM_gone hq4).1]; exact htg
          refine go ?_
          refine a_append tabOk rfl rfl rfl rfl rfl rfl rfl rfl rfl rfl rfl rfl rfl (by unfold maxLen; omega) (by show (_ + _) * 8 ≤ _; omega) ?_
          rw [pInts_snoc, show ac.length + 1 = (ac ++ [v]).length by simp]
          refine go ?_
          exact ⟨(1, ac ++ [v], s4), ⟨by simp only; omega, by simp only [List.length_append, List.length_cons, List.length_nil]; omega, by simp only; omega, hlen4, hg4, hE⟩, by simp only; omega, zX⟩
        · exact absurd h3 (by decide)
      · refine (show AWP _ _ _ _ ⟨[(65, dI 1), (62, dI j), (61, dI l.seats), (6, dI j), (5, .tip 0 ac.length (pInts ac)), (0, .ptr 11 0)], pieceBS l me log t, [(0, ⟨3, 1, ac.length⟩)]⟩ from ?_)
        have hE : ((loadM (resvF l j 1)).bind fun v => loadAcc (ac ++ [v]) (([resvF l j 0, resvF l j 1, resvF l j 2].drop 2) ++ resvsF l (j + 1) m)).bind (fun held => (siftL l held gN []).bind fun stay => setGone stay) log t = E := hE
        rw [bind_assoc] at hE
        refine go ?_
        refine ck_b (fun h3 => ?_) (fun h3 => ?_) <;> try rw [h3]
        · refine go ?_
          refine a_q (call_step (resv_c l hL j 1 (by omega)) rfl (fun a w => Tryz.call99 a w) rfl) rfl rfl rfl ?_
          refine go ?_
          refine cX (load_xS l me log t (resvF l j 1) ht1 hl) (fun a w => Tryz.call67 a w) ?_ ?_ ?_ ?_
          · rintro d bs ⟨x, s', _, _, _, rfl, rfl⟩; exact ⟨.inl rfl, .inl rfl, .inl rfl, trivial⟩
          · rintro v bs ⟨a, s', _, rfl, rfl⟩; exact ⟨.inl rfl, .inl rfl, .inl rfl, trivial⟩
          · rintro v bs ⟨a, s', h, rfl, rfl⟩
            refine gP ?_
            refine fP (pieceBS l me log s') ?_
            exact ⟨a, s', by rw [← hE]; exact bind_err h, rfl, rfl⟩
          rintro d bs ⟨v, s4, hq4, hle4, hlen4, rfl, rfl⟩
          rw [bind_ok hq4] at hE
          have hg4 : s4.gone = gN := by rw [(loadM_gone hq4).1]; exact htg
          refine go ?_
          refine a_append tabOk rfl rfl rfl rfl rfl rfl rfl rfl rfl rfl rfl rfl rfl (by unfold maxLen; omega) (by show (_ + _) * 8 ≤ _; omega) ?_
          rw [pInts_snoc, show ac.length + 1 = (ac ++ [v]).length by simp]
          refine go ?_
          exact ⟨(2, ac ++ [v], s4), ⟨by simp only; omega, by simp only [List.length_append, List.length_cons, List.length_nil]; omega, by simp only; omega, hlen4, hg4, hE⟩, by simp only; omega, zX⟩
        · exact absurd h3 (by decide)
      · refine (show AWP _ _ _ _ ⟨[(65, dI 2), (62, dI j), (61, dI l.seats), (6, dI j), (5, .tip 0 ac.length (pInts ac)), (0, .ptr 11 0)], pieceBS l me log t, [(0, ⟨3, 1, ac.length⟩)]⟩ from ?_)
        have hE : ((loadM (resvF l j 2)).bind fun v => loadAcc (ac ++ [v]) (([resvF l j 0, resvF l j 1, resvF l j 2].drop 3) ++ resvsF l (j + 1) m)).bind (fun held => (siftL l held gN []).bind fun stay => setGone stay) log t = E := hE
        rw [bind_assoc] at hE
        refine go ?_
        refine ck_b (fun h3 => ?_) (fun h3 => ?_) <;> try rw [h3]
        · refine go ?_
          refine a_q (call_step (resv_c l hL j 2 (by omega)) rfl (fun a w => Tryz.call99 a w) rfl) rfl rfl rfl ?_
          refine go ?_
          refine cX (load_xS l me log t (resvF l j 2) ht1 hl) (fun a w => Tryz.call67 a w) ?_ ?_ ?_ ?_
          · rintro d bs ⟨x, s', _, _, _, rfl, rfl⟩; exact ⟨.inl rfl, .inl rfl, .inl rfl, trivial⟩
          · rintro v bs ⟨a, s', _, rfl, rfl⟩; exact ⟨.inl rfl, .inl rfl, .inl rfl, trivial⟩
          · rintro v bs ⟨a, s', h, rfl, rfl⟩
            refine gP ?_
            refine fP (pieceBS l me log s') ?_
            exact ⟨a, s', by rw [← hE]; exact bind_err h, rfl, rfl⟩
          rintro d bs ⟨v, s4, hq4, hle4, hlen4, rfl, rfl⟩
          rw [bind_ok hq4] at hE
          have hg4 : s4.gone = gN := by rw [(loadM_gone hq4).1]; exact htg
          refine go ?_
          refine a_append tabOk rfl rfl rfl rfl rfl rfl rfl rfl rfl rfl rfl rfl rfl (by unfold maxLen; omega) (by show (_ + _) * 8 ≤ _; omega) ?_
          rw [pInts_snoc, show ac.length + 1 = (ac ++ [v]).length by simp]
          refine go ?_
          exact ⟨(3, ac ++ [v], s4), ⟨by simp only; omega, by simp only [List.length_append, List.length_cons, List.length_nil]; omega, by simp only; omega, hlen4, hg4, hE⟩, by simp only; omega, zX⟩
        · exact absurd h3 (by decide)
      · refine (show AWP _ _ _ _ ⟨[(65, dI 3), (62, dI j), (61, dI l.seats), (6, dI j), (5, .tip 0 ac.length (pInts ac)), (0, .ptr 11 0)], pieceBS l me log t, [(0, ⟨3, 1, ac.length⟩)]⟩ from ?_)
        refine go ?_
        refine ck_b (fun h3 => ?_) (fun h3 => ?_) <;> try rw [h3]
        · exact absurd h3 (by decide)
        · refine go ?_
          exact ⟨(j + 1, ac, m, t), ⟨by simp only; omega, by simp only; omega, ht0, ht1, htg, hE⟩, by simp only; omega, zX⟩
    · have h2' := of_decide_eq_false h2
      obtain rfl : m = 0 := by omega
      have hE : ((siftL l acc gN []).bind fun stay => setGone stay) log t = E := hE
      subst htg
      refine awp_ghost (lowS_ghost 5 (d' := dInts acc) rfl rfl) ?_
      refine go ?_
      refine awp_ghost (tip_ghost 8 1 98 2 rfl rfl rfl) ?_
      refine awp_loop_ok (fun q : Nat × List (Int × Int) × PsT => q.1 ≤ t.gone.length ∧ q.2.1.length ≤ q.1 ∧ s.made ≤ q.2.2.made ∧ q.2.2.made ≤ log.length ∧ ((siftL l acc (t.gone.drop q.1) q.2.1).bind fun stay => setGone stay) log q.2.2 = E) (fun q => ⟨[(87, dI q.1), (86, dI t.gone.length), (85, dGone t.gone), (8, .tip 1 q.2.1.length (pGone q.2.1)), (5, dInts acc), (0, .ptr 11 0)], pieceBS l me log q.2.2, [(1, ⟨98, 2, q.2.1.length⟩)]⟩) (fun q => t.gone.length - q.1) (0, [], t) ⟨Nat.zero_le _, Nat.le_refl _, ht0, ht1, hE⟩ (zX) ?_
      rintro ⟨i, stay, u⟩ ⟨hi, hsl, hu0, hu1, hE⟩
      simp only at hi hsl hu0 hu1 hE
      refine (show AWP _ _ _ _ ⟨[(87, dI i), (86, dI t.gone.length), (85, dGone t.gone), (8, .tip 1 stay.length (pGone stay)), (5, dInts acc), (0, .ptr 11 0)], pieceBS l me log u, [(1, ⟨98, 2, stay.length⟩)]⟩ from ?_)
      refine go ?_
      refine ck_b (fun h3 => ?_) (fun h3 => ?_) <;> try rw [h3]
      · have h3' := of_decide_eq_true h3
        have hil : i < t.gone.length := by omega
        obtain ⟨gg, hgg⟩ := getI (l := t.gone) (i := i) (by omega) h3'
        have hgo1 := hgNo gg (List.mem_of_getElem? hgg)
        have hd : t.gone.drop i = gg :: t.gone.drop (i + 1) := by
          rw [List.drop_eq_getElem_cons hil]
          simp only [Int.toNat_natCast] at hgg
          rw [(List.getElem?_eq_some_iff.1 hgg).2]
        rw [hd, siftL, bind_assoc] at hE
        refine go ?_
        refine a_q (indexAddr_step tabOk [pI gg.1, pI gg.2] rfl rfl rfl rfl rfl rfl (by first | omega | (simp; done) | (simp; omega)) (by first | omega | (simp; done) | (simp; omega)) (by first | (simp; done) | exact List.cons_ne_nil _ _) (gone_idx hgg)) rfl rfl rfl ?_
        refine go ?_
        refine a_q (indexAddrP_step tabOk rfl rfl rfl rfl rfl (by omega) (by omega)) rfl rfl rfl ?_
        refine go ?_
        refine a_q (lend_step (pnode_cS l hL me u gg.1 6 hgo1 (by omega)) rfl (fun a w => Tryz.call66 a w) rfl rfl) rfl rfl rfl ?_
        refine go ?_
        refine cX (load_xS l me log u (nodeF l gg.1 6) hu1 hl) (fun a w => Tryz.call67 a w) ?_ ?_ ?_ ?_
        · rintro d bs ⟨x, s', _, _, _, rfl, rfl⟩; exact ⟨.inl rfl, .inl rfl, .inl rfl, trivial⟩
        · rintro v bs ⟨a, s', _, rfl, rfl⟩; exact ⟨.inl rfl, .inl rfl, .inl rfl, trivial⟩
        · rintro v bs ⟨a, s', h, rfl, rfl⟩
          refine gP ?_
          refine fP (pieceBS l me log s') ?_
          exact ⟨a, s', by rw [← hE]; exact bind_err h, rfl, rfl⟩
        rintro d bs ⟨bi, s5, hq5, hle5, hlen5, rfl, rfl⟩
        rw [bind_ok hq5] at hE
        refine go ?_
        refine a_q (max_step rfl rfl rfl) rfl rfl rfl ?_
        refine (show AOps _ _ _ _ _ ⟨(97, dI (max1 bi)) :: _, _, _⟩ from ?_)
        refine go ?_
        refine a_q (lend_step (contains_cS acc (by omega) (max1 bi) gg.1 gg.2) rfl (fun a w => Tryz.call100 a w) rfl rfl) rfl rfl rfl ?_
        refine go ?_
        generalize h4 : acc.any (inB (max1 bi) gg.2) = cc; cases cc
        · rw [h4, if_neg (by decide), bind_assoc] at hE
          refine go ?_
          refine a_q (indexAddrP_step tabOk rfl rfl rfl rfl rfl (by omega) (by omega)) rfl rfl rfl ?_
          refine go ?_
          refine cX (give_xS l hL me log s5 gg.1 hgo1 hlen5 hl) (fun a w => Tryz.call102 a w) ?_ ?_ ?_ ?_
          · rintro d bs ⟨x, s', _, _, _, rfl, rfl⟩; exact ⟨.inl rfl, .inl rfl, .inl rfl, trivial⟩
          · rintro v bs ⟨a, s', _, rfl, rfl⟩; exact ⟨.inl rfl, .inl rfl, .inl rfl, trivial⟩
          · rintro v bs ⟨a, s', h, rfl, rfl⟩
            refine gP ?_
            refine fP (pieceBS l me log s') ?_
            exact ⟨a, s', by rw [← hE]; exact bind_err h, rfl, rfl⟩
          rintro d bs ⟨uu, s6, hq6, hle6, hlen6, rfl, rfl⟩
          rw [bind_ok hq6] at hE
          refine go ?_
          exact ⟨(i + 1, stay, s6), ⟨by simp only; omega, by simp only; omega, by simp only; omega, hlen6, hE⟩, by simp only; omega, zX⟩
        · rw [h4, if_pos rfl] at hE
          refine go ?_
          refine a_append tabOk rfl rfl rfl rfl rfl rfl rfl rfl rfl rfl rfl rfl rfl (by unfold maxLen; omega) (by show (_ + _) * 16 ≤ _; omega) ?_
          rw [← pGone_app stay gg, show stay.length + 1 = (stay ++ [gg]).length by simp]
          refine go ?_
          exact ⟨(i + 1, stay ++ [gg], s5), ⟨by simp only; omega, by simp only [List.length_append, List.length_cons, List.length_nil]; omega, by simp only; omega, hlen5, hE⟩, by simp only; omega, zX⟩
      · have h3' := of_decide_eq_false h3
        rw [List.drop_of_length_le (by omega), siftL] at hE
        have hE : (Except.ok ((), { u with gone := stay }) : Except AccT (Unit × PsT)) = E := hE
        refine awp_ghost (lowS_ghost 8 (d' := dGone stay) rfl rfl) ?_
        refine go ?_
        first | refine fR (pieceBS l me log { u with gone := stay }) ?_ | refine fN (pieceBS l me log { u with gone := stay }) ?_
        exact ⟨(), { u with gone := stay }, hE.symm, hu0, hu1, rfl, rfl⟩
  · have h1' := of_decide_eq_true h1
    rw [if_pos (by omega)] at hE
    refine go ?_
    first | refine fR (pieceBS l me log s3) ?_ | refine fN (pieceBS l me log s3) ?_
    exact ⟨(), s3, hE.symm, hle3, hlen3, rfl, rfl⟩
end Go.Proofs.YtdmnjoidfjidbaaGreat
/- (of a stack)  What operations tell, and what programs leave: plain lemmas; the refusal's walk. -/
namespace Go.Proofs.YtdmnjoidfjidbaaGreat
open Go.RowKit
set_option maxRecDepth 100000

theorem refuse_cS (g : List (Int × Int)) (hg : g.length ≤ 100000) : PureC Tryz.prog 30 [dGone g] (.tup [dAcc acc0, dOut ⟨0, false, 1, -1, g⟩, dB true]) := by
  refine pure_fin tabOk Tryz.func30 rfl Tryz.ntmps30 rfl rfl rfl fun w cl => ?_
  refine go ?_
  refine a_q (call_step ((clone2_f g hg).pure) rfl (fun a w => Tryz.call61 a w) rfl) rfl rfl rfl ?_
  refine go ?_
  first | refine fin_ret rfl ?_ | refine fin_normal rfl ?_
  rfl
end Go.Proofs.YtdmnjoidfjidbaaGreat
/- (of a stack)  A program is begun: its walk. -/
namespace Go.Proofs.YtdmnjoidfjidbaaGreat
open Go.RowKit
set_option maxRecDepth 100000
theorem begin_iS (l : LayT) (me : Int) (g : List (Int × Int)) (log : List ResT) : ImpC Tryz.prog 31 [] [dLay l, dI me, dGone g, dLog log] [] (fun d bs => d = .ptr 11 0 ∧ bs = pieceBS l me log ⟨0, g, 0, 0, 0⟩) := by
  refine imp_fin tabOk Tryz.func31 rfl Tryz.ntmps31 rfl rfl rfl (by (repeat (first | exact trivial | refine ⟨rfl, ?_⟩))) fun w cl own kf => ?_
  refine goC ?_
  refine a_b (box_step 0 rfl rfl rfl rfl) rfl rfl rfl rfl ?_
  refine a_b (box_step 13 rfl rfl rfl rfl) rfl rfl rfl rfl ?_
  refine a_ax tabOk rfl rfl rfl rfl ?_
  refine aops_nil ?_
  refine goC ?_
  refine a_ax tabOk rfl rfl rfl rfl ?_
  refine a_ax tabOk rfl rfl rfl rfl ?_
  refine a_ax tabOk rfl rfl rfl rfl ?_
  refine a_q (build_step tabOk rfl rfl rfl) rfl rfl rfl ?_
  refine a_b (box_step 11 rfl rfl rfl rfl) rfl rfl rfl rfl ?_
  refine a_b (alloc_step tabOk 12 rfl rfl rfl rfl) rfl rfl rfl rfl ?_
  refine go ?_
  refine finI_ret (pieceBS l me log ⟨0, g, 0, 0, 0⟩) rfl rfl (by (repeat (first | exact trivial | refine ⟨⟨rfl, rfl⟩, ?_⟩))) trivial ?_
  exact ⟨rfl, rfl⟩
end Go.Proofs.YtdmnjoidfjidbaaGreat
/- (of a stack)  What ends a program that is run again: the deferred call's walks. -/
namespace Go.Proofs.YtdmnjoidfjidbaaGreat
open Go.RowKit
set_option maxRecDepth 100000

theorem play1_noS {e : Env} {vs : List Value} (a : AccT) (o : OutT) (dn : Bool) (hI : InOk (playB a (outC o) dn) e) (hv : DReps e vs [.ptr 22 0, .ptr 21 0, .ptr 23 0, .ptr 24 0]) :
    CallsD Tryz.prog 63 vs.toArray .returning e.w fun r u2 w' => ∃ e' bs', r = .returned (.tuple #[]) ∧ u2 = .returning ∧ e'.w = w' ∧ InOk bs' e' ∧ Left [21, 22, 23, 24] e e' ∧ bs' = playB a (outC o) dn := by
  refine recover_calls (T := tb) Tryz.func63 rfl Tryz.ntmps63 rfl rfl rfl (by (repeat (first | exact trivial | refine ⟨rfl, ?_⟩))) (fun _ _ => rfl) (fun _ => rfl) rfl rfl .no (fun w cl own kf => ?_) hI hv
  refine go ?_
  refine a_q (ifaceNil_step Tryz.underlying20 rfl rfl) rfl rfl rfl ?_
  refine go ?_
  refine finI_normal (playB a (outC o) dn) rfl rfl (by (repeat (first | exact trivial | refine ⟨⟨rfl, rfl⟩, ?_⟩))) (by (repeat (first | exact trivial | refine ⟨rfl, ?_⟩))) rfl
theorem play1_yesS {e : Env} {vs : List Value} (a a' : AccT) (od : List Dt) (ho : od = [dI 0, dB false, dI 0, dI 0, .p (.sl true 0 [])]) (dn : Bool) (hI : InOk (playB a od dn) e) (hv : DReps e vs [.ptr 22 0, .ptr 21 0, .ptr 23 0, .ptr 24 0]) :
    CallsD Tryz.prog 63 vs.toArray (.panicking [pe (askedVS a')]) e.w fun r u2 w' => ∃ e' bs', r = .returned (.tuple #[]) ∧ u2 = .panicking [{ v := askedVS a', recovered := true }] ∧ e'.w = w' ∧ InOk bs' e' ∧ Left [21, 22, 23, 24] e e' ∧ bs' = playB a' od dn := by
  subst ho
  refine recover_calls (T := tb) Tryz.func63 rfl Tryz.ntmps63 rfl rfl rfl (by (repeat (first | exact trivial | refine ⟨rfl, ?_⟩))) (fun _ _ => rfl) (fun _ => rfl) rfl rfl (.yes (askedVS a')) (fun w cl own kf => ?_) hI hv
  refine go ?_
  refine a_q (ifaceSome_step Tryz.underlying20 rfl rfl) rfl rfl rfl ?_
  refine go ?_
  refine a_q (assert_step tabOk rfl rfl rfl rfl) rfl rfl rfl ?_
  refine go ?_
  refine finI_normal (playB a' _ dn) rfl rfl (by (repeat (first | exact trivial | refine ⟨⟨rfl, rfl⟩, ?_⟩))) (by (repeat (first | exact trivial | refine ⟨rfl, ?_⟩))) rfl
end Go.Proofs.YtdmnjoidfjidbaaGreat
