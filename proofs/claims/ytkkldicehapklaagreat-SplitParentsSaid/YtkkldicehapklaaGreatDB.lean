/- What operations tell, and what programs leave: plain lemmas; the refusal's walk. -/
import Derived.Test.YtkkldicehapklaaGreatD8
import Derived.Test.YtkkldicehapklaaGreatShort
namespace Go.Proofs.YtkkldicehapklaaGreat
open Go.RowKit
set_option maxRecDepth 100000

abbrev dOut (o : OutT) : Dt := .agg [dI o.val, dB o.is, dI o.err, dI o.point, dGone o.gone]
abbrev dOut0 (o : OutT) : Dt := .agg [dI o.val, dB o.is, dI o.err, dI o.point, .p (.sl true 0 [])]
abbrev opD (o : OpT) : List Dt := [dI o.kind, dI o.obj, dI o.a, dI o.b]
abbrev dOp (o : OpT) : Dt := .agg (opD o)
theorem takeL_idx {l : LayT} : ∀ {k : Nat} {log : List ResT} {s s' : PsT} {p : Int × Int × Bool}, takeL l k log s = .ok (p, s') → p.1 < 65536 ∧ s'.gone = s.gone
  | 0, log, s, s', p, h => by cases h; exact ⟨by simp, rfl⟩
  | k + 1, log, s, s', p, h => by
    rw [takeL] at h
    cases h1 : loadM l.free log s with
    | error a => rw [bind_err h1] at h; cases h
    | ok q =>
      obtain ⟨fr, s1⟩ := q
      rw [bind_ok h1] at h
      have g1 : s1.gone = s.gone := by rw [(loadM_gone h1).1]
      split at h
      · rw [bind_ok last_ok] at h; cases h; exact ⟨by simp, g1⟩
      · cases h2 : loadM (nodeF l (ofW fr).idx 7) log s1 with
        | error a => rw [bind_err h2] at h; cases h
        | ok q =>
          obtain ⟨lk, s2⟩ := q
          rw [bind_ok h2] at h
          have g2 : s2.gone = s.gone := by rw [(loadM_gone h2).1]; exact g1
          cases h3 : casM l.free fr (packW (turnW (ofW fr) lk)) log s2 with
          | error a => rw [bind_err h3] at h; cases h
          | ok q =>
            obtain ⟨ok, s3⟩ := q
            rw [bind_ok h3] at h
            have g3 : s3.gone = s.gone := by rw [(casM_gone h3).1]; exact g2
            split at h
            · rw [bind_ok last_ok] at h
              cases h4 : loadM l.era log s3 with
              | error a => rw [bind_err h4] at h; cases h
              | ok q =>
                obtain ⟨bi, s4⟩ := q
                rw [bind_ok h4] at h
                have g4 : s4.gone = s.gone := by rw [(loadM_gone h4).1]; exact g3
                cases h5 : storeM (nodeF l (ofW fr).idx 6) bi log s4 with
                | error a => rw [bind_err h5] at h; cases h
                | ok q =>
                  obtain ⟨u, s5⟩ := q
                  rw [bind_ok h5] at h
                  cases h
                  exact ⟨(ofW_idx fr).2, by rw [(storeM_gone h5).1]; exact g4⟩
            · obtain ⟨a, b⟩ := takeL_idx h
              exact ⟨a, b.trans g3⟩

theorem putE_gone2 (x : PsT) (i v : Int) : (x.putE i v).gone = x.gone := by
  unfold PsT.putE
  split
  · rfl
  · split <;> rfl
theorem guardL_gone {l : LayT} {me i cell : Int} : ∀ {k : Nat} {log : List ResT} {s s' : PsT} {p : Int × Int}, guardL l me i cell k log s = .ok (p, s') → s'.gone = s.gone
  | 0, log, s, s', p, h => by cases h; rfl
  | k + 1, log, s, s', p, h => by
    rw [guardL] at h
    cases h1 : loadM cell log s with
    | error a => rw [bind_err h1] at h; cases h
    | ok q =>
      obtain ⟨v, s1⟩ := q
      rw [bind_ok h1, bind_ok last_ok] at h
      have g1 : s1.gone = s.gone := by rw [(loadM_gone h1).1]
      cases h2 : loadM l.era log s1 with
      | error a => rw [bind_err h2] at h; cases h
      | ok q =>
        obtain ⟨er, s2⟩ := q
        rw [bind_ok h2] at h
        have g2 : s2.gone = s.gone := by rw [(loadM_gone h2).1]; exact g1
        split at h
        · cases h; exact g2
        · cases h3 : storeM (resvF l me i) er log s2 with
          | error a => rw [bind_err h3] at h; cases h
          | ok q =>
            obtain ⟨u, s3⟩ := q
            rw [bind_ok h3] at h
            have g3 : s3.gone = s.gone := by rw [(storeM_gone h3).1]; exact g2
            exact ((guardL_gone h).trans (putE_gone2 _ _ _)).trans g3
theorem clr1_gone {l : LayT} {me : Int} {i : Nat} {e : Int} {log : List ResT} {s s' : PsT} {u : Unit} (h : clr1 l me i e log s = .ok (u, s')) : s'.gone = s.gone := by
  unfold clr1 at h
  split at h
  · cases h; rfl
  · cases h3 : storeM (resvF l me i) 0 log s with
    | error a => rw [bind_err h3] at h; cases h
    | ok q =>
      obtain ⟨u, s3⟩ := q
      rw [bind_ok h3] at h
      have g3 : s3.gone = s.gone := by rw [(storeM_gone h3).1]
      unfold setE at h
      cases h
      split <;> exact g3
theorem clrL_gone {l : LayT} {me : Int} : ∀ {es : List Int} {i : Nat} {log : List ResT} {s s' : PsT} {u : Unit}, clrL l me i es log s = .ok (u, s') → s'.gone = s.gone
  | [], i, log, s, s', u, h => by cases h; rfl
  | e :: es, i, log, s, s', u, h => by
    rw [clrL] at h
    cases h1 : clr1 l me i e log s with
    | error a => rw [bind_err h1] at h; cases h
    | ok q =>
      obtain ⟨u, s1⟩ := q
      rw [bind_ok h1] at h
      exact (clrL_gone h).trans (clr1_gone h1)

theorem siftL_len {l : LayT} {held : List Int} : ∀ {gs stay : List (Int × Int)} {log : List ResT} {s s' : PsT} {r : List (Int × Int)}, siftL l held gs stay log s = .ok (r, s') → r.length ≤ gs.length + stay.length
  | [], stay, log, s, s', r, h => by cases h; simp
  | g :: gs, stay, log, s, s', r, h => by
    rw [siftL] at h
    cases h1 : loadM (nodeF l g.1 6) log s with
    | error a => rw [bind_err h1] at h; cases h
    | ok q =>
      obtain ⟨b, s1⟩ := q
      rw [bind_ok h1] at h
      split at h
      · have := siftL_len h
        simp at this ⊢; omega
      · cases h2 : giveM l g.1 log s1 with
        | error a => rw [bind_err h2] at h; cases h
        | ok q =>
          obtain ⟨u, s2⟩ := q
          rw [bind_ok h2] at h
          have := siftL_len h
          simp at this ⊢; omega
theorem retireM_len {l : LayT} {n : Int} {log : List ResT} {s s' : PsT} {u : Unit} (h : retireM l n log s = .ok (u, s')) : s'.gone.length ≤ s.gone.length + 1 := by
  unfold retireM at h
  cases h1 : loadM l.era log s with
  | error a => rw [bind_err h1] at h; cases h
  | ok q =>
    obtain ⟨er, s1⟩ := q
    rw [bind_ok h1] at h
    have g1 : s1.gone = s.gone := by rw [(loadM_gone h1).1]
    cases h2 : doM ⟨4, l.era, 0, 1⟩ log s1 with
    | error a => rw [bind_err h2] at h; cases h
    | ok q =>
      obtain ⟨r, s2⟩ := q
      rw [bind_ok h2] at h
      have g2 : s2.gone = s.gone := by rw [(doM_gone h2).1]; exact g1
      split at h
      · cases h; simp [g2]
      · unfold scanM at h
        cases h3 : loadAcc [] (resvsF l 0 l.seats.toNat) log { s2 with gone := s2.gone ++ [(n, er)] } with
        | error a => rw [bind_err h3] at h; cases h
        | ok q =>
          obtain ⟨held, s3⟩ := q
          rw [bind_ok h3] at h
          cases h4 : siftL l held (s2.gone ++ [(n, er)]) [] log s3 with
          | error a => rw [bind_err h4] at h; cases h
          | ok q =>
            obtain ⟨stay, s4⟩ := q
            rw [bind_ok h4] at h
            unfold setGone at h
            cases h
            have := siftL_len h4
            simp [g2] at this ⊢; omega
theorem refuse_c (g : List (Int × Int)) (hg : g.length ≤ 100000) : PureC Tryz.prog 91 [dGone g] (.tup [dAcc acc0, dOut ⟨0, false, 1, -1, g⟩, dB true]) := by
  refine pure_fin tabOk Tryz.func91 rfl Tryz.ntmps91 rfl rfl rfl fun w cl => ?_
  refine go ?_
  refine a_q (call_step ((clone2_f g hg).pure) rfl (fun a w => Tryz.call71 a w) rfl) rfl rfl rfl ?_
  refine go ?_
  first | refine fin_ret rfl ?_ | refine fin_normal rfl ?_
  rfl
end Go.Proofs.YtkkldicehapklaaGreat
/- A program is begun: its walk. -/
namespace Go.Proofs.YtkkldicehapklaaGreat
open Go.RowKit
set_option maxRecDepth 100000
theorem begin_i (l : LayT) (me : Int) (g : List (Int × Int)) (log : List ResT) : ImpC Tryz.prog 92 [] [dLay l, dI me, dGone g, dLog log] [] (fun d bs => d = .ptr 11 0 ∧ bs = pieceB l me log ⟨0, g, 0, 0, 0⟩) := by
  refine imp_fin tabOk Tryz.func92 rfl Tryz.ntmps92 rfl rfl rfl (by (repeat (first | exact trivial | refine ⟨rfl, ?_⟩))) fun w cl own kf => ?_
  refine goC ?_
  refine a_b (box_step 0 rfl rfl rfl rfl) rfl rfl rfl rfl ?_
  refine a_b (box_step 13 rfl rfl rfl rfl) rfl rfl rfl rfl ?_
  refine a_ax tabOk rfl rfl rfl rfl ?_
  refine aops_nil ?_
  refine goC ?_
  refine a_ax tabOk rfl rfl rfl rfl ?_
  refine a_ax tabOk rfl rfl rfl rfl ?_
  refine a_ax tabOk rfl rfl rfl rfl ?_
  refine a_q (build_step tabOk rfl rfl rfl) rfl rfl rfl ?_
  refine a_b (box_step 11 rfl rfl rfl rfl) rfl rfl rfl rfl ?_
  refine a_b (alloc_step tabOk 12 rfl rfl rfl rfl) rfl rfl rfl rfl ?_
  refine go ?_
  refine finI_ret (pieceB l me log ⟨0, g, 0, 0, 0⟩) rfl rfl (by (repeat (first | exact trivial | refine ⟨⟨rfl, rfl⟩, ?_⟩))) trivial ?_
  exact ⟨rfl, rfl⟩
end Go.Proofs.YtkkldicehapklaaGreat
/- What ends a program that is run again: the deferred call's walks. -/
namespace Go.Proofs.YtkkldicehapklaaGreat
open Go.RowKit
set_option maxRecDepth 100000

abbrev playB (a : AccT) (od : List Dt) (dn : Bool) : Bxs := [(22, [dI a.kind, dI a.cell, dI a.old, dI a.new]), (21, [.any]), (23, od), (24, [dB dn])]
abbrev outC (o : OutT) : List Dt := [dI o.val, dB o.is, dI o.err, dI o.point, dGone o.gone]
theorem play1_no {e : Env} {vs : List Value} (a : AccT) (o : OutT) (dn : Bool) (hI : InOk (playB a (outC o) dn) e) (hv : DReps e vs [.ptr 22 0, .ptr 21 0, .ptr 23 0, .ptr 24 0]) :
    CallsD Tryz.prog 109 vs.toArray .returning e.w fun r u2 w' => ∃ e' bs', r = .returned (.tuple #[]) ∧ u2 = .returning ∧ e'.w = w' ∧ InOk bs' e' ∧ Left [21, 22, 23, 24] e e' ∧ bs' = playB a (outC o) dn := by
  refine recover_calls (T := tb) Tryz.func109 rfl Tryz.ntmps109 rfl rfl rfl (by (repeat (first | exact trivial | refine ⟨rfl, ?_⟩))) (fun _ _ => rfl) (fun _ => rfl) rfl rfl .no (fun w cl own kf => ?_) hI hv
  refine go ?_
  refine a_q (ifaceNil_step Tryz.underlying20 rfl rfl) rfl rfl rfl ?_
  refine go ?_
  refine finI_normal (playB a (outC o) dn) rfl rfl (by (repeat (first | exact trivial | refine ⟨⟨rfl, rfl⟩, ?_⟩))) (by (repeat (first | exact trivial | refine ⟨rfl, ?_⟩))) rfl
theorem play1_yes {e : Env} {vs : List Value} (a a' : AccT) (od : List Dt) (ho : od = [dI 0, dB false, dI 0, dI 0, .p (.sl true 0 [])]) (dn : Bool) (hI : InOk (playB a od dn) e) (hv : DReps e vs [.ptr 22 0, .ptr 21 0, .ptr 23 0, .ptr 24 0]) :
    CallsD Tryz.prog 109 vs.toArray (.panicking [pe (askedV a')]) e.w fun r u2 w' => ∃ e' bs', r = .returned (.tuple #[]) ∧ u2 = .panicking [{ v := askedV a', recovered := true }] ∧ e'.w = w' ∧ InOk bs' e' ∧ Left [21, 22, 23, 24] e e' ∧ bs' = playB a' od dn := by
  subst ho
  refine recover_calls (T := tb) Tryz.func109 rfl Tryz.ntmps109 rfl rfl rfl (by (repeat (first | exact trivial | refine ⟨rfl, ?_⟩))) (fun _ _ => rfl) (fun _ => rfl) rfl rfl (.yes (askedV a')) (fun w cl own kf => ?_) hI hv
  refine go ?_
  refine a_q (ifaceSome_step Tryz.underlying20 rfl rfl) rfl rfl rfl ?_
  refine go ?_
  refine a_q (assert_step tabOk rfl rfl rfl rfl) rfl rfl rfl ?_
  refine go ?_
  refine finI_normal (playB a' _ dn) rfl rfl (by (repeat (first | exact trivial | refine ⟨⟨rfl, rfl⟩, ?_⟩))) (by (repeat (first | exact trivial | refine ⟨rfl, ?_⟩))) rfl
end Go.Proofs.YtkkldicehapklaaGreat
/- Memory: which accesses may be; an access done in cells of our own: their walks. -/
namespace Go.Proofs.YtkkldicehapklaaGreat
open Go.RowKit
set_option maxRecDepth 100000

set_option maxHeartbeats 4000000 in
theorem memRight_c (a : AccT) : PureC Tryz.prog 106 [dAcc a] (dB (rightA a)) := by
  generalize hE : rightA a = E
  unfold rightA at hE
  refine pure_fin tabOk Tryz.func106 rfl Tryz.ntmps106 rfl rfl rfl fun w cl => ?_
  refine go ?_
  generalize h0 : decide (a.cell < 0) = cc; cases cc
  · rw [decide_eq_true (show 0 ≤ a.cell by have := of_decide_eq_false h0; omega), Bool.true_and] at hE
    refine go ?_
    generalize h1 : decide (a.kind = 1) = cc; cases cc
    · have h1' := of_decide_eq_false h1
      rw [if_neg h1'] at hE
      refine go ?_
      generalize h2 : decide (a.kind = 2) = cc; cases cc
      · have h2' := of_decide_eq_false h2
        refine go ?_
        generalize h4 : decide (a.kind = 4) = cc; cases cc
        · have h4' := of_decide_eq_false h4
          refine go ?_
          generalize h5 : decide (a.kind = 5) = cc; cases cc
          · have h5' := of_decide_eq_false h5
            rw [if_neg (by omega)] at hE
            refine go ?_
            generalize h3 : decide (a.kind = 3) = cc; cases cc
            · rw [h3] at hE
              refine go ?_
              first | refine fin_ret rfl ?_ | refine fin_normal rfl ?_
              rw [← hE]
            · rw [h3] at hE
              refine go ?_
              first | refine fin_ret rfl ?_ | refine fin_normal rfl ?_
              rw [← hE]
          · rw [if_pos (by have := of_decide_eq_true h5; omega)] at hE
            refine go ?_
            first | refine fin_ret rfl ?_ | refine fin_normal rfl ?_
            rw [← hE]
        · rw [if_pos (by have := of_decide_eq_true h4; omega)] at hE
          refine go ?_
          first | refine fin_ret rfl ?_ | refine fin_normal rfl ?_
          rw [← hE]
      · rw [if_pos (by have := of_decide_eq_true h2; omega)] at hE
        refine go ?_
        first | refine fin_ret rfl ?_ | refine fin_normal rfl ?_
        rw [← hE]
    · rw [if_pos (of_decide_eq_true h1)] at hE
      refine go ?_
      generalize h2 : decide (a.new = 0) = cc; cases cc
      · rw [h2] at hE
        refine go ?_
        first | refine fin_ret rfl ?_ | refine fin_normal rfl ?_
        rw [← hE]; rfl
      · rw [h2] at hE
        refine go ?_
        first | refine fin_ret rfl ?_ | refine fin_normal rfl ?_
        rw [← hE]; rfl
  · rw [decide_eq_false (show ¬ 0 ≤ a.cell by have := of_decide_eq_true h0; omega)] at hE
    refine go ?_
    first | refine fin_ret rfl ?_ | refine fin_normal rfl ?_
    rw [← hE]; rfl
theorem fault_c (n : Int) (a : AccT) : PureC Tryz.prog 86 [dI n, dAcc a] (dI (faultF n a)) := by
  generalize hE : faultF n a = E
  unfold faultF at hE
  refine pure_fin tabOk Tryz.func86 rfl Tryz.ntmps86 rfl rfl rfl fun w cl => ?_
  refine go ?_
  refine a_q (call_step (memRight_c a) rfl (fun a w => Tryz.call106 a w) rfl) rfl rfl rfl ?_
  refine go ?_
  generalize h1 : rightA a = cc; cases cc
  · rw [h1, if_neg (by decide)] at hE
    refine go ?_
    first | refine fin_ret rfl ?_ | refine fin_normal rfl ?_
    rw [← hE]
  · rw [h1, if_pos rfl] at hE
    refine go ?_
    generalize h2 : decide (n ≤ a.cell) = cc; cases cc
    · rw [if_neg (of_decide_eq_false h2)] at hE
      refine go ?_
      first | refine fin_ret rfl ?_ | refine fin_normal rfl ?_
      rw [← hE]
    · rw [if_pos (of_decide_eq_true h2)] at hE
      refine go ?_
      first | refine fin_ret rfl ?_ | refine fin_normal rfl ?_
      rw [← hE]
end Go.Proofs.YtkkldicehapklaaGreat
/- An access done in cells of our own: its walk. -/
namespace Go.Proofs.YtkkldicehapklaaGreat
open Go.RowKit
set_option maxRecDepth 100000

theorem wrap64 (x : Int) : IntKind.i64.wrap x = w64 x := by
  show (if (true && decide (x % 18446744073709551616 ≥ 9223372036854775808)) = true then x % 18446744073709551616 - 18446744073709551616 else x % 18446744073709551616) = w64 x
  unfold w64
  simp only [Bool.true_and, decide_eq_true_eq]
  split <;> split <;> omega
theorem own_get {xs : List Int} {cs : List Dt} (h : cs.take xs.length = (pInts xs).map Dt.p) {x : Nat} (hx : x < xs.length) : cs[x]? = some (dI (cellAt xs x)) := by
  have h2 : xs[x]? = some (cellAt xs x) := by simp [cellAt, hx]
  have h1 : (cs.take xs.length)[x]? = some (dI (cellAt xs x)) := by
    rw [h, List.getElem?_map, pInts_get h2]; rfl
  rw [List.getElem?_take, if_pos hx] at h1
  exact h1
theorem own_set {xs : List Int} {cs : List Dt} (h : cs.take xs.length = (pInts xs).map Dt.p) (x : Nat) (v : Int) : (cs.set x (dI v)).take xs.length = (pInts (xs.set x v)).map Dt.p := by
  rw [List.take_set, h]
  unfold pInts
  simp [List.map_set]
theorem plain_set {cs : List Dt} (h : PlainC cs) {i : Nat} {n : Int} : PlainC (cs.set i (dI n)) := by
  intro B G
  have h1 := h B G
  clear h
  induction cs generalizing i with
  | nil => rfl
  | cons d cs ih =>
    simp only [Dt.ok.oks, Bool.and_eq_true] at h1
    cases i with
    | zero => simp only [List.set_cons_zero, Dt.ok.oks, Bool.and_eq_true]; exact ⟨rfl, h1.2⟩
    | succ i => simp only [List.set_cons_succ, Dt.ok.oks, Bool.and_eq_true]; exact ⟨h1.1, ih h1.2⟩
set_option maxHeartbeats 4000000 in
theorem turn_i (xs : List Int) (k : Int) (x : Nat) (o nw : Int) (hx : x < xs.length) (_hn : xs.length ≤ 1000000) (c : Nat) (cs : List Dt) (hlc : cs.length = c) (hc : xs.length ≤ c) (htk : cs.take xs.length = (pInts xs).map Dt.p) (hpl : PlainC cs) :
    ImpC Tryz.prog 88 [9] [.arr 9 0 xs.length c, .agg [dI k, dI x, dI o, dI nw]] [(9, cs)] (fun d bs => d = dRes (turnF xs ⟨k, x, o, nw⟩).2 ∧ ∃ cs', bs = [(9, cs')] ∧ cs'.length = c ∧ cs'.take xs.length = (pInts (turnF xs ⟨k, x, o, nw⟩).1).map Dt.p ∧ PlainC cs') := by
  have hg := own_get htk hx
  generalize hv : cellAt xs x = v at hg
  generalize hE : turnF xs ⟨k, x, o, nw⟩ = E
  unfold turnF at hE
  simp only [Int.toNat_natCast, hv, ← wrap64] at hE
  have hs1 := own_set htk x nw
  have hs2 := own_set htk x (IntKind.i64.wrap (v + nw))
  have hp1 : PlainC (cs.set x (dI nw)) := plain_set hpl
  have hp2 : PlainC (cs.set x (dI (IntKind.i64.wrap (v + nw)))) := plain_set hpl
  refine imp_fin tabOk Tryz.func88 rfl Tryz.ntmps88 rfl rfl rfl (by (repeat (first | exact trivial | refine ⟨rfl, ?_⟩))) fun w cl own kf => ?_
  refine go ?_
  refine a_q (indexAddrA_step (p := x) tabOk rfl rfl rfl rfl rfl (by omega) (by omega) (by show x = (x : Int).toNat * 1; omega)) rfl rfl rfl ?_
  refine a_q (loadAt_step tabOk rfl rfl rfl rfl rfl hg) rfl rfl rfl ?_
  refine go ?_
  generalize h3 : decide (k = 3) = cc; cases cc
  · have h3' := of_decide_eq_false h3
    rw [if_neg h3'] at hE
    refine go ?_
    generalize h2 : decide (k = 2) = cc; cases cc
    · have h2' := of_decide_eq_false h2
      refine go ?_
      generalize h5 : decide (k = 5) = cc; cases cc
      · have h5' := of_decide_eq_false h5
        rw [if_neg (by omega)] at hE
        refine go ?_
        generalize h4 : decide (k = 4) = cc; cases cc
        · rw [if_neg (of_decide_eq_false h4)] at hE
          refine go ?_
          refine finI_ret [(9, cs)] rfl rfl ⟨⟨rfl, hpl _ _⟩, trivial⟩ ⟨rfl, trivial⟩ ?_
          rw [← hE]
          exact ⟨rfl, cs, rfl, hlc, htk, hpl⟩
        · rw [if_pos (of_decide_eq_true h4)] at hE
          refine go ?_
          refine a_q (indexAddrA_step (p := x) tabOk rfl rfl rfl rfl rfl (by omega) (by omega) (by show x = (x : Int).toNat * 1; omega)) rfl rfl rfl ?_
          refine a_storeAt tabOk rfl rfl rfl rfl rfl rfl rfl rfl rfl (by rw [hlc]; omega) ?_
          refine go ?_
          refine finI_ret [(9, cs.set x (dI (IntKind.i64.wrap (v + nw))))] rfl rfl ⟨⟨rfl, hp2 _ _⟩, trivial⟩ ⟨rfl, trivial⟩ ?_
          rw [← hE]
          exact ⟨rfl, _, rfl, by rw [List.length_set]; exact hlc, hs2, hp2⟩
      · rw [if_pos (by have := of_decide_eq_true h5; omega)] at hE
        refine go ?_
        refine a_q (indexAddrA_step (p := x) tabOk rfl rfl rfl rfl rfl (by omega) (by omega) (by show x = (x : Int).toNat * 1; omega)) rfl rfl rfl ?_
        refine a_storeAt tabOk rfl rfl rfl rfl rfl rfl rfl rfl rfl (by rw [hlc]; omega) ?_
        refine go ?_
        refine finI_ret [(9, cs.set x (dI nw))] rfl rfl ⟨⟨rfl, hp1 _ _⟩, trivial⟩ ⟨rfl, trivial⟩ ?_
        rw [← hE]
        exact ⟨rfl, _, rfl, by rw [List.length_set]; exact hlc, hs1, hp1⟩
    · rw [if_pos (by have := of_decide_eq_true h2; omega)] at hE
      refine go ?_
      refine a_q (indexAddrA_step (p := x) tabOk rfl rfl rfl rfl rfl (by omega) (by omega) (by show x = (x : Int).toNat * 1; omega)) rfl rfl rfl ?_
      refine a_storeAt tabOk rfl rfl rfl rfl rfl rfl rfl rfl rfl (by rw [hlc]; omega) ?_
      refine go ?_
      refine finI_ret [(9, cs.set x (dI nw))] rfl rfl ⟨⟨rfl, hp1 _ _⟩, trivial⟩ ⟨rfl, trivial⟩ ?_
      rw [← hE]
      exact ⟨rfl, _, rfl, by rw [List.length_set]; exact hlc, hs1, hp1⟩
  · rw [if_pos (of_decide_eq_true h3)] at hE
    refine go ?_
    generalize h4 : decide (v = o) = cc; cases cc
    · rw [if_neg (of_decide_eq_false h4)] at hE
      refine go ?_
      refine finI_ret [(9, cs)] rfl rfl ⟨⟨rfl, hpl _ _⟩, trivial⟩ ⟨rfl, trivial⟩ ?_
      rw [← hE]
      exact ⟨rfl, cs, rfl, hlc, htk, hpl⟩
    · rw [if_pos (of_decide_eq_true h4)] at hE
      refine go ?_
      refine a_q (indexAddrA_step (p := x) tabOk rfl rfl rfl rfl rfl (by omega) (by omega) (by show x = (x : Int).toNat * 1; omega)) rfl rfl rfl ?_
      refine a_storeAt tabOk rfl rfl rfl rfl rfl rfl rfl rfl rfl (by rw [hlc]; omega) ?_
      refine go ?_
      refine finI_ret [(9, cs.set x (dI nw))] rfl rfl ⟨⟨rfl, hp1 _ _⟩, trivial⟩ ⟨rfl, trivial⟩ ?_
      rw [← hE]
      exact ⟨rfl, _, rfl, by rw [List.length_set]; exact hlc, hs1, hp1⟩
end Go.Proofs.YtkkldicehapklaaGreat
/- An access of a memory: its walk. -/
namespace Go.Proofs.YtkkldicehapklaaGreat
open Go.RowKit
set_option maxRecDepth 100000

def OwnRow (ls : List Int) (d : Dt) (bs : List (Nat × List Dt)) : Prop := ∃ c cs, d = .arr 9 0 ls.length c ∧ bs = [(9, cs)] ∧ cs.length = c ∧ ls.length ≤ c ∧ c ≤ maxLen ∧ cs.take ls.length = (pInts ls).map Dt.p ∧ PlainC cs
theorem clone_i (ls : List Int) (h0 : 0 < ls.length) (hl : ls.length ≤ 1000000) : ImpC Tryz.prog 87 [] [dInts ls] [] (OwnRow ls) := by
  refine imp_fin tabOk Tryz.func87 rfl Tryz.ntmps87 rfl rfl rfl (by (repeat (first | exact trivial | refine ⟨rfl, ?_⟩))) fun w cl own kf => ?_
  refine go ?_
  refine a_nil tabOk rfl rfl rfl rfl rfl rfl rfl fun c hc => ?_
  cases c with
  | true => exact absurd (hc rfl) (by omega)
  | false =>
    refine go ?_
    refine a_appendN tabOk 9 rfl rfl rfl rfl rfl rfl rfl rfl rfl rfl rfl rfl rfl h0 (pInts_len ls) (by unfold maxLen; omega) (by show _ * 8 ≤ _; omega) (fun cs' c' h1 h2 h3 h4 h5 => ?_)
    refine go ?_
    refine finI_ret [(9, cs')] rfl rfl (by (repeat (first | exact trivial | refine ⟨⟨rfl, h5 _ _⟩, ?_⟩))) trivial ?_
    exact ⟨c', cs', rfl, rfl, h1, h3, h2, h4, h5⟩
theorem ints_lf (l : List Int) : ∀ x ∈ pInts l, x.lf = true := by
  intro x hx
  simp only [pInts, List.mem_map] at hx
  obtain ⟨i, _, rfl⟩ := hx
  rfl
abbrev dMem (xs : List Int) : Dt := .agg [dInts xs]
theorem turnF_len (xs : List Int) (a : AccT) : (turnF xs a).1.length = xs.length := by
  unfold turnF
  repeat' split
  all_goals simp
theorem fault_zero {n : Int} {a : AccT} (h : faultF n a = 0) : 0 ≤ a.cell ∧ a.cell < n := by
  unfold faultF at h
  split at h
  · rename_i hr
    unfold rightA at hr
    simp only [Bool.and_eq_true, decide_eq_true_eq] at hr
    split at h
    · omega
    · exact ⟨hr.1, by omega⟩
  · omega
set_option maxHeartbeats 4000000 in
theorem memDo_c (xs : List Int) (a : AccT) (hn : xs.length ≤ 1000000) : PureC Tryz.prog 56 [dMem xs, dAcc a] (.tup [dMem (memDoF xs a).1, dRes (memDoF xs a).2.1, dI (memDoF xs a).2.2]) := by
  generalize hE : memDoF xs a = E
  unfold memDoF at hE
  refine pure_fin tabOk Tryz.func56 rfl Tryz.ntmps56 rfl rfl rfl fun w cl => ?_
  refine go ?_
  refine a_q (call_step (fault_c xs.length a) rfl (fun a w => Tryz.call86 a w) rfl) rfl rfl rfl ?_
  refine go ?_
  generalize h1 : decide (faultF xs.length a = 0) = cc; cases cc
  · rw [if_neg (of_decide_eq_false h1)] at hE
    refine go ?_
    first | refine fin_ret rfl ?_ | refine fin_normal rfl ?_
    rw [← hE]
  · have h1' := of_decide_eq_true h1
    rw [if_pos h1'] at hE
    obtain ⟨hc0, hc1⟩ := fault_zero h1'
    have hml := turnF_len xs a
    refine go ?_
    refine a_callI (clone_i xs (by omega) hn) rfl (fun a w => Tryz.call87 a w) rfl rfl trivial trivial rfl rfl rfl rfl ?_ ?_
    · rintro d bs ⟨c, cs, rfl, rfl, _⟩
      exact ⟨.inr rfl, trivial⟩
    rintro d bs ⟨c, cs, rfl, rfl, hlc, hc, hcm, htk, hpl⟩
    have hT := turn_i xs a.kind a.cell.toNat a.old a.new (by omega) hn c cs hlc hc htk hpl
    rw [show ((a.cell.toNat : Nat) : Int) = a.cell by omega] at hT
    refine go ?_
    refine a_callI hT rfl (fun a w => Tryz.call88 a w) rfl rfl (by (repeat (first | exact trivial | refine ⟨⟨rfl, hpl _ _⟩, ?_⟩))) (by (repeat (first | exact trivial | refine ⟨.inr rfl, ?_⟩))) rfl rfl rfl rfl ?_ ?_
    · rintro d bs ⟨_, cs', rfl, _⟩
      exact ⟨.inl rfl, trivial⟩
    rintro d bs ⟨rfl, cs', rfl, k1, k2, k3⟩
    refine goO ?_
    refine q_then_normal ?_
    refine awp_ghost (freeze_ghost 8 9 (pInts (turnF xs a).1) rfl rfl rfl rfl k1 hc (by rw [pInts_len, hml]) k2 hcm (ints_lf _)) ?_
    refine awp_seq ?_
    refine awp_region_w 4 [2] rfl rfl (by kernel_rfl) (by kernel_rfl) (by kernel_rfl) ?_
    refine goQ ?_
    refine go ?_
    first | refine fin_ret rfl ?_ | refine fin_normal rfl ?_
    rw [← hE]
    simp only [dMem, dInts, hml]
end Go.Proofs.YtkkldicehapklaaGreat
