/- What operations tell, and what programs leave: plain lemmas; the refusal's walk. -/
import Derived.Test.YtdmnjoidfjidbaaGreatD8
namespace Go.Proofs.YtdmnjoidfjidbaaGreat
open Go.RowKit
set_option maxRecDepth 100000

abbrev dOut (o : OutT) : Dt := .agg [dI o.val, dB o.is, dI o.err, dI o.point, dGone o.gone]
abbrev dOut0 (o : OutT) : Dt := .agg [dI o.val, dB o.is, dI o.err, dI o.point, .p (.sl true 0 [])]
abbrev opD (o : OpT) : List Dt := [dI o.kind, dI o.obj, dI o.a, dI o.b]
abbrev dOp (o : OpT) : Dt := .agg (opD o)
theorem takeL_idx {l : LayT} : ∀ {k : Nat} {log : List ResT} {s s' : PsT} {p : Int × Int × Bool}, takeL l k log s = .ok (p, s') → p.1 < 65536 ∧ s'.gone = s.gone
  | 0, log, s, s', p, h => by cases h; exact ⟨by simp, rfl⟩
  | k + 1, log, s, s', p, h => by
    rw [takeL] at h
    cases h1 : loadM l.free log s with
    | error a => rw [bind_err h1] at h; cases h
    | ok q =>
      obtain ⟨fr, s1⟩ := q
      rw [bind_ok h1] at h
      have g1 : s1.gone = s.gone := by rw [(loadM_gone h1).1]
      split at h
      · rw [bind_ok last_ok] at h; cases h; exact ⟨by simp, g1⟩
      · cases h2 : loadM (nodeF l (ofW fr).idx 7) log s1 with
        | error a => rw [bind_err h2] at h; cases h
        | ok q =>
          obtain ⟨lk, s2⟩ := q
          rw [bind_ok h2] at h
          have g2 : s2.gone = s.gone := by rw [(loadM_gone h2).1]; exact g1
          cases h3 : casM l.free fr (packW (turnW (ofW fr) lk)) log s2 with
          | error a => rw [bind_err h3] at h; cases h
          | ok q =>
            obtain ⟨ok, s3⟩ := q
            rw [bind_ok h3] at h
            have g3 : s3.gone = s.gone := by rw [(casM_gone h3).1]; exact g2
            split at h
            · rw [bind_ok last_ok] at h
              cases h4 : loadM l.era log s3 with
              | error a => rw [bind_err h4] at h; cases h
              | ok q =>
                obtain ⟨bi, s4⟩ := q
                rw [bind_ok h4] at h
                have g4 : s4.gone = s.gone := by rw [(loadM_gone h4).1]; exact g3
                cases h5 : storeM (nodeF l (ofW fr).idx 6) bi log s4 with
                | error a => rw [bind_err h5] at h; cases h
                | ok q =>
                  obtain ⟨u, s5⟩ := q
                  rw [bind_ok h5] at h
                  cases h
                  exact ⟨(ofW_idx fr).2, by rw [(storeM_gone h5).1]; exact g4⟩
            · obtain ⟨a, b⟩ := takeL_idx h
              exact ⟨a, b.trans g3⟩

theorem putE_gone2 (x : PsT) (i v : Int) : (x.putE i v).gone = x.gone := by
  unfold PsT.putE
  split
  · rfl
  · split <;> rfl
theorem guardL_gone {l : LayT} {me i cell : Int} : ∀ {k : Nat} {log : List ResT} {s s' : PsT} {p : Int × Int}, guardL l me i cell k log s = .ok (p, s') → s'.gone = s.gone
  | 0, log, s, s', p, h => by cases h; rfl
  | k + 1, log, s, s', p, h => by
    rw [guardL] at h
    cases h1 : loadM cell log s with
    | error a => rw [bind_err h1] at h; cases h
    | ok q =>
      obtain ⟨v, s1⟩ := q
      rw [bind_ok h1, bind_ok last_ok] at h
      have g1 : s1.gone = s.gone := by rw [(loadM_gone h1).1]
      cases h2 : loadM l.era log s1 with
      | error a => rw [bind_err h2] at h; cases h
      | ok q =>
        obtain ⟨er, s2⟩ := q
        rw [bind_ok h2] at h
        have g2 : s2.gone = s.gone := by rw [(loadM_gone h2).1]; exact g1
        split at h
        · cases h; exact g2
        · cases h3 : storeM (resvF l me i) er log s2 with
          | error a => rw [bind_err h3] at h; cases h
          | ok q =>
            obtain ⟨u, s3⟩ := q
            rw [bind_ok h3] at h
            have g3 : s3.gone = s.gone := by rw [(storeM_gone h3).1]; exact g2
            exact ((guardL_gone h).trans (putE_gone2 _ _ _)).trans g3
theorem clr1_gone {l : LayT} {me : Int} {i : Nat} {e : Int} {log : List ResT} {s s' : PsT} {u : Unit} (h : clr1 l me i e log s = .ok (u, s')) : s'.gone = s.gone := by
  unfold clr1 at h
  split at h
  · cases h; rfl
  · cases h3 : storeM (resvF l me i) 0 log s with
    | error a => rw [bind_err h3] at h; cases h
    | ok q =>
      obtain ⟨u, s3⟩ := q
      rw [bind_ok h3] at h
      have g3 : s3.gone = s.gone := by rw [(storeM_gone h3).1]
      unfold setE at h
      cases h
      split <;> exact g3
theorem clrL_gone {l : LayT} {me : Int} : ∀ {es : List Int} {i : Nat} {log : List ResT} {s s' : PsT} {u : Unit}, clrL l me i es log s = .ok (u, s') → s'.gone = s.gone
  | [], i, log, s, s', u, h => by cases h; rfl
  | e :: es, i, log, s, s', u, h => by
    rw [clrL] at h
    cases h1 : clr1 l me i e log s with
    | error a => rw [bind_err h1] at h; cases h
    | ok q =>
      obtain ⟨u, s1⟩ := q
      rw [bind_ok h1] at h
      exact (clrL_gone h).trans (clr1_gone h1)

theorem siftL_len {l : LayT} {held : List Int} : ∀ {gs stay : List (Int × Int)} {log : List ResT} {s s' : PsT} {r : List (Int × Int)}, siftL l held gs stay log s = .ok (r, s') → r.length ≤ gs.length + stay.length
  | [], stay, log, s, s', r, h => by cases h; simp
  | g :: gs, stay, log, s, s', r, h => by
    rw [siftL] at h
    cases h1 : loadM (nodeF l g.1 6) log s with
    | error a => rw [bind_err h1] at h; cases h
    | ok q =>
      obtain ⟨b, s1⟩ := q
      rw [bind_ok h1] at h
      split at h
      · have := siftL_len h
        simp at this ⊢; omega
      · cases h2 : giveM l g.1 log s1 with
        | error a => rw [bind_err h2] at h; cases h
        | ok q =>
          obtain ⟨u, s2⟩ := q
          rw [bind_ok h2] at h
          have := siftL_len h
          simp at this ⊢; omega
theorem retireM_len {l : LayT} {n : Int} {log : List ResT} {s s' : PsT} {u : Unit} (h : retireM l n log s = .ok (u, s')) : s'.gone.length ≤ s.gone.length + 1 := by
  unfold retireM at h
  cases h1 : loadM l.era log s with
  | error a => rw [bind_err h1] at h; cases h
  | ok q =>
    obtain ⟨er, s1⟩ := q
    rw [bind_ok h1] at h
    have g1 : s1.gone = s.gone := by rw [(loadM_gone h1).1]
    cases h2 : doM ⟨4, l.era, 0, 1⟩ log s1 with
    | error a => rw [bind_err h2] at h; cases h
    | ok q =>
      obtain ⟨r, s2⟩ := q
      rw [bind_ok h2] at h
      have g2 : s2.gone = s.gone := by rw [(doM_gone h2).1]; exact g1
      split at h
      · cases h; simp [g2]
      · unfold scanM at h
        cases h3 : loadAcc [] (resvsF l 0 l.seats.toNat) log { s2 with gone := s2.gone ++ [(n, er)] } with
        | error a => rw [bind_err h3] at h; cases h
        | ok q =>
          obtain ⟨held, s3⟩ := q
          rw [bind_ok h3] at h
          cases h4 : siftL l held (s2.gone ++ [(n, er)]) [] log s3 with
          | error a => rw [bind_err h4] at h; cases h
          | ok q =>
            obtain ⟨stay, s4⟩ := q
            rw [bind_ok h4] at h
            unfold setGone at h
            cases h
            have := siftL_len h4
            simp [g2] at this ⊢; omega
theorem refuse_c (g : List (Int × Int)) (hg : g.length ≤ 100000) : PureC Tryz.prog 43 [dGone g] (.tup [dAcc acc0, dOut ⟨0, false, 1, -1, g⟩, dB true]) := by
  refine pure_fin tabOk Tryz.func43 rfl Tryz.ntmps43 rfl rfl rfl fun w cl => ?_
  refine go ?_
  refine a_q (call_step ((clone2_f g hg).pure) rfl (fun a w => Tryz.call61 a w) rfl) rfl rfl rfl ?_
  refine go ?_
  first | refine fin_ret rfl ?_ | refine fin_normal rfl ?_
  rfl
end Go.Proofs.YtdmnjoidfjidbaaGreat
