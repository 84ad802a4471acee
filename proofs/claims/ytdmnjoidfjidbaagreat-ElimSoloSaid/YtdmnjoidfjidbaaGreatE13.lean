/- Tables of plays: how they lie in memory, and their bounds. -/
import Derived.Test.YtdmnjoidfjidbaaGreatE12
import Derived.Test.YtdmnjoidfjidbaaGreatG3
namespace Go.Proofs.YtdmnjoidfjidbaaGreat
open Go.RowKit
set_option maxRecDepth 100000

theorem siftL_ok {l : LayT} {held : List Int} : ∀ {gs stay : List (Int × Int)} {log : List ResT} {s s' : PsT} {r : List (Int × Int)}, siftL l held gs stay log s = .ok (r, s') → GoneOk gs → GoneOk stay → GoneOk r
  | [], stay, log, s, s', r, h, _, h2 => by cases h; exact h2
  | g :: gs, stay, log, s, s', r, h, h1, h2 => by
    have h1' : GoneOk gs := fun p hp => h1 p (List.mem_cons_of_mem _ hp)
    rw [siftL] at h
    cases k1 : loadM (nodeF l g.1 6) log s with
    | error a => rw [bind_err k1] at h; cases h
    | ok q =>
      obtain ⟨b, s1⟩ := q
      rw [bind_ok k1] at h
      split at h
      · exact siftL_ok h h1' (fun p hp => by
          rw [List.mem_append, List.mem_singleton] at hp
          rcases hp with hp | rfl
          · exact h2 p hp
          · exact h1 _ (by simp))
      · cases k2 : giveM l g.1 log s1 with
        | error a => rw [bind_err k2] at h; cases h
        | ok q =>
          obtain ⟨u, s2⟩ := q
          rw [bind_ok k2] at h
          exact siftL_ok h h1' h2
theorem goneOk_snoc {g : List (Int × Int)} {n e : Int} (h : GoneOk g) (hn : n < 9223372036854775808) : GoneOk (g ++ [(n, e)]) := by
  intro p hp
  rw [List.mem_append, List.mem_singleton] at hp
  rcases hp with hp | rfl
  · exact h p hp
  · exact hn
theorem retireM_ok {l : LayT} {n : Int} {log : List ResT} {s s' : PsT} {u : Unit} (h : retireM l n log s = .ok (u, s')) (hg : GoneOk s.gone) (hn : n < 9223372036854775808) : GoneOk s'.gone := by
  unfold retireM at h
  cases h1 : loadM l.era log s with
  | error a => rw [bind_err h1] at h; cases h
  | ok q =>
    obtain ⟨er, s1⟩ := q
    rw [bind_ok h1] at h
    have g1 : s1.gone = s.gone := by rw [(loadM_gone h1).1]
    cases h2 : doM ⟨4, l.era, 0, 1⟩ log s1 with
    | error a => rw [bind_err h2] at h; cases h
    | ok q =>
      obtain ⟨r, s2⟩ := q
      rw [bind_ok h2] at h
      have g2 : s2.gone = s.gone := by rw [(doM_gone h2).1]; exact g1
      have hq : GoneOk (s2.gone ++ [(n, er)]) := by rw [g2]; exact goneOk_snoc hg hn
      split at h
      · cases h; exact hq
      · unfold scanM at h
        cases h3 : loadAcc [] (resvsF l 0 l.seats.toNat) log { s2 with gone := s2.gone ++ [(n, er)] } with
        | error a => rw [bind_err h3] at h; cases h
        | ok q =>
          obtain ⟨held, s3⟩ := q
          rw [bind_ok h3] at h
          cases h4 : siftL l held (s2.gone ++ [(n, er)]) [] log s3 with
          | error a => rw [bind_err h4] at h; cases h
          | ok q =>
            obtain ⟨stay, s4⟩ := q
            rw [bind_ok h4] at h
            unfold setGone at h
            cases h
            exact siftL_ok h4 hq (fun p hp => by simp at hp)
theorem popL_ok {l : LayT} {me top c : Int} : ∀ {k : Nat} {log : List ResT} {s s' : PsT} {x : OutT}, popL l me top c k log s = .ok (x, s') → GoneOk s.gone → GoneOk s'.gone
  | 0, log, s, s', x, h, hg => by cases h; exact hg
  | k + 1, log, s, s', x, h, hg => by
    rw [popL] at h
    cases h1 : tryPop l me top log s with
    | error a => rw [bind_err h1] at h; cases h
    | ok q =>
      obtain ⟨p, s1⟩ := q
      rw [bind_ok h1] at h
      have g1 := (tryPop_ok h1).1
      split at h
      · cases h2 : clearM l me log s1 with
        | error a => rw [bind_err h2] at h; cases h
        | ok q =>
          obtain ⟨u, s2⟩ := q
          rw [bind_ok h2] at h
          cases h
          have : s'.gone = s.gone := (clrL_gone h2).trans g1
          rw [this]; exact hg
      · split at h
        · cases h2 : loadM (nodeF l p.1 1) log s1 with
          | error a => rw [bind_err h2] at h; cases h
          | ok q =>
            obtain ⟨va, s2⟩ := q
            rw [bind_ok h2] at h
            have g2 : s2.gone = s.gone := by rw [(loadM_gone h2).1]; exact g1
            cases h3 : clearM l me log s2 with
            | error a => rw [bind_err h3] at h; cases h
            | ok q =>
              obtain ⟨u, s3⟩ := q
              rw [bind_ok h3] at h
              have g3 : s3.gone = s.gone := (clrL_gone h3).trans g2
              cases h4 : retireM l p.1 log s3 with
              | error a => rw [bind_err h4] at h; cases h
              | ok q =>
                obtain ⟨u, s4⟩ := q
                rw [bind_ok h4] at h
                cases h
                exact retireM_ok h4 (by rw [g3]; exact hg) (by have := (tryPop_ok h1).2.2.2.1; omega)
        · cases h2 : loadM c log s1 with
          | error a => rw [bind_err h2] at h; cases h
          | ok q =>
            obtain ⟨w, s2⟩ := q
            rw [bind_ok h2] at h
            have g2 : s2.gone = s.gone := by rw [(loadM_gone h2).1]; exact g1
            split at h
            · cases h3 : casM c w (offW (offV w) 2 (offC w)) log s2 with
              | error a => rw [bind_err h3] at h; cases h
              | ok q =>
                obtain ⟨ok, s3⟩ := q
                rw [bind_ok h3] at h
                have g3 : s3.gone = s.gone := by rw [(casM_gone h3).1]; exact g2
                cases ok
                · rw [if_neg (by decide)] at h
                  exact popL_ok h (by rw [g3]; exact hg)
                · rw [if_pos rfl, bind_ok last_ok] at h
                  cases h4 : clearM l me log s3 with
                  | error a => rw [bind_err h4] at h; cases h
                  | ok q =>
                    obtain ⟨u, s4⟩ := q
                    rw [bind_ok h4] at h
                    cases h
                    have : s'.gone = s.gone := (clrL_gone h4).trans g3
                    rw [this]; exact hg
            · exact popL_ok h (by rw [g2]; exact hg)
theorem nextF_gone {l : LayT} {me : Int} {gone : List (Int × Int)} {op : OpT} {log : List ResT} (hg : GoneOk gone) : GoneOk (nextF l me gone op log).2.1.gone ∧ (nextF l me gone op log).2.1.gone.length ≤ gone.length + 1 := by
  have hnil : GoneOk [] := fun p hp => by cases hp
  unfold nextF
  split
  · exact ⟨hg, by simp⟩
  · split
    · unfold finM
      cases h : pushM l (topF l op.obj) (slotOf l me op.obj) op.a log ⟨0, gone, 0, 0, 0⟩ with
      | ok q =>
        obtain ⟨x, s'⟩ := q
        have := pushM_gone h
        simp only [this]
        exact ⟨hg, by omega⟩
      | error a => exact ⟨hnil, by simp [out0]⟩
    · split
      · unfold finM
        cases h : popM l me (topF l op.obj) (slotOf l me op.obj) log ⟨0, gone, 0, 0, 0⟩ with
        | ok q =>
          obtain ⟨x, s'⟩ := q
          exact ⟨popL_ok h hg, popL_len h⟩
        | error a => exact ⟨hnil, by simp [out0]⟩
      · exact ⟨hg, by simp⟩

/-! ### Bounds -/
structure Und (k N : Nat) (t : TabT) : Prop where
  m : t.m.length = N
  log : ∀ x ∈ t.seats, x.log.length ≤ k
  steps : ∀ x ∈ t.seats, x.steps.length ≤ k
  next : ∀ x ∈ t.seats, x.next ≤ k
  gone : ∀ x ∈ t.seats, x.gone.length ≤ k ∧ GoneOk x.gone
  step : 0 ≤ t.step ∧ t.step ≤ k
  full : 0 ≤ t.full ∧ t.full ≤ k
  calls : t.calls.length ≤ k
theorem Und.mono {k j N : Nat} {t : TabT} (h : Und k N t) (hkj : k ≤ j) : Und j N t :=
  ⟨h.m, fun x hx => Nat.le_trans (h.log x hx) hkj, fun x hx => Nat.le_trans (h.steps x hx) hkj, fun x hx => Nat.le_trans (h.next x hx) hkj, fun x hx => ⟨Nat.le_trans (h.gone x hx).1 hkj, (h.gone x hx).2⟩, ⟨h.step.1, by have := h.step.2; omega⟩, ⟨h.full.1, by have := h.full.2; omega⟩, Nat.le_trans h.calls hkj⟩
structure SeatB (k : Nat) (x : SeatT) : Prop where
  log : x.log.length ≤ k
  steps : x.steps.length ≤ k
  next : x.next ≤ k
  gone : x.gone.length ≤ k ∧ GoneOk x.gone
theorem Und.seat {k N : Nat} {t : TabT} (h : Und k N t) {w : Nat} {x : SeatT} (hx : t.seats[w]? = some x) : SeatB k x :=
  ⟨h.log x (List.mem_of_getElem? hx), h.steps x (List.mem_of_getElem? hx), h.next x (List.mem_of_getElem? hx), h.gone x (List.mem_of_getElem? hx)⟩
theorem Und.set {k j N : Nat} {t t' : TabT} (h : Und k N t) (hkj : k ≤ j) {w : Nat} {y : SeatT} (hy : SeatB j y) (hs : t'.seats = t.seats.set w y) (hm : t'.m.length = t.m.length) (h1 : 0 ≤ t'.step ∧ t'.step ≤ j) (h2 : 0 ≤ t'.full ∧ t'.full ≤ j) (h3 : t'.calls.length ≤ j) : Und j N t' := by
  have hmem : ∀ z ∈ t'.seats, z ∈ t.seats ∨ z = y := fun z hz => List.mem_or_eq_of_mem_set (by rw [← hs]; exact hz)
  refine ⟨hm.trans h.m, fun z hz => ?_, fun z hz => ?_, fun z hz => ?_, fun z hz => ?_, h1, h2, h3⟩
  · rcases hmem z hz with hz | rfl
    · exact Nat.le_trans (h.log z hz) hkj
    · exact hy.log
  · rcases hmem z hz with hz | rfl
    · exact Nat.le_trans (h.steps z hz) hkj
    · exact hy.steps
  · rcases hmem z hz with hz | rfl
    · exact Nat.le_trans (h.next z hz) hkj
    · exact hy.next
  · rcases hmem z hz with hz | rfl
    · exact ⟨Nat.le_trans (h.gone z hz).1 hkj, (h.gone z hz).2⟩
    · exact hy.gone
theorem end_und {k N : Nat} {t : TabT} {w : Nat} {x : SeatT} {out : OutT} (h : Und k N t) (hx : SeatB (k + 1) x) (hg : out.gone.length ≤ k + 1 ∧ GoneOk out.gone) : Und (k + 1) N (endT t w x out) := by
  have hy : SeatB (k + 1) { x with op := op0, gone := out.gone } := ⟨hx.log, hx.steps, hx.next, hg⟩
  have h1 := h.step
  have h2 := h.full
  have h3 := h.calls
  unfold endT
  simp only
  split
  · exact h.set (by omega) hy rfl rfl ⟨h1.1, by simp only; omega⟩ ⟨by simp only; omega, by simp only; omega⟩ (by simp only; omega)
  · split
    · exact h.set (by omega) hy rfl rfl ⟨h1.1, by simp only; omega⟩ ⟨h2.1, by simp only; omega⟩ (by simp only; omega)
    · exact h.set (by omega) hy rfl rfl ⟨h1.1, by simp only; omega⟩ ⟨h2.1, by simp only; omega⟩ (by simp only [List.length_append, List.length_cons, List.length_nil]; omega)
theorem move_und {k N : Nat} {l : LayT} {t : TabT} {w : Nat} {x : SeatT} (h : Und k N t) (h0 : x.log.length ≤ k) (h1 : x.steps.length ≤ k) (h2 : x.next ≤ k + 1) (h3 : x.gone.length ≤ k ∧ GoneOk x.gone) : Und (k + 1) N (moveT l t w x) := by
  have hgn := nextF_gone (l := l) (me := w) (op := x.op) (log := x.log) h3.2
  have hs := h.step
  have hf := h.full
  have hc := h.calls
  unfold moveT
  simp only
  split
  · exact end_und h ⟨by omega, by omega, h2, by omega, h3.2⟩ ⟨by omega, hgn.1⟩
  · split
    · exact h.set (by omega) (y := { x with log := x.log ++ [(turnF t.m (nextF l w x.gone x.op x.log).1).2], steps := x.steps ++ [t.step] }) ⟨by simp; omega, by simp; omega, h2, by simp only; omega, h3.2⟩ rfl (turnF_len _ _) ⟨by simp only; omega, by simp only; omega⟩ ⟨hf.1, by simp only; omega⟩ (by simp only; omega)
    · exact h.set (by omega) (y := { x with op := op0 }) ⟨by simp only; omega, by simp only; omega, h2, by simp only; omega, h3.2⟩ rfl rfl ⟨hs.1, by simp only; omega⟩ ⟨hf.1, by simp only; omega⟩ (by simp only; omega)
theorem turn_und {k N : Nat} {l : LayT} {want : List (List OpT)} {t : TabT} {w : Nat} (h : Und k N t) : Und (k + 1) N (turnT l want t w) := by
  unfold turnT
  split
  · rename_i x ws hx hw
    have hb := h.seat hx
    split
    · split
      · exact h.mono (by omega)
      · exact move_und h (by simp) (by simp) (by have := hb.next; simp only; omega) hb.gone
    · exact move_und h hb.log hb.steps (by have := hb.next; omega) hb.gone
  · exact h.mono (by omega)
theorem end_n {t : TabT} {w : Nat} {x : SeatT} {out : OutT} : (endT t w x out).seats.length = t.seats.length := by
  unfold endT
  simp only
  split
  · simp
  · split <;> simp
theorem turn_n {l : LayT} {want : List (List OpT)} {t : TabT} {w : Nat} : (turnT l want t w).seats.length = t.seats.length := by
  have hm : ∀ x, (moveT l t w x).seats.length = t.seats.length := fun x => by
    unfold moveT
    simp only
    split
    · exact end_n
    · split <;> simp
  unfold turnT
  split
  · split
    · split
      · rfl
      · exact hm _
    · exact hm _
  · rfl

/-! ### How they lie in memory -/
abbrev opsC (ss : List SeatT) : List Dt := ss.flatMap fun x => opD x.op
abbrev logsC (ss : List SeatT) : List Dt := ss.map fun x => dLog x.log
abbrev stepsC (ss : List SeatT) : List Dt := ss.map fun x => dInts x.steps
abbrev nextsC (ss : List SeatT) : List Dt := ss.map fun x => dI x.next
abbrev gonesC (ss : List SeatT) : List Dt := ss.map fun x => dGone x.gone
abbrev pCall (c : CallT) : List Pl := [pI c.who, pI c.op.kind, pI c.op.obj, pI c.op.a, pI c.op.b, pI c.val, pB c.is, pI c.first, pI c.last, pI c.point]
def pCalls (l : List CallT) : List Pl := l.flatMap pCall
abbrev tabD (t : TabT) (n : Nat) (cd : Dt) : List Dt := [dInts t.m, dI t.step, .arr 31 0 n n, .arr 32 0 n n, .arr 33 0 n n, .arr 34 0 n n, .arr 35 0 n n, cd, dI t.full, dB t.wild, dB t.bad]
abbrev tabB (t : TabT) (n : Nat) (cd : Dt) (cs : List Dt) : Bxs := [(30, tabD t n cd), (31, opsC t.seats), (32, logsC t.seats), (33, stepsC t.seats), (34, nextsC t.seats), (35, gonesC t.seats), (36, cs)]
structure CallsOk (calls : List CallT) (cd : Dt) (cs : List Dt) : Prop where
  pl : PlainC cs
  at_ : (calls = [] ∧ cd = .p (.sl true 0 [])) ∨ ∃ c, cd = .arr 36 0 calls.length c ∧ cs.length = c * 10 ∧ calls.length ≤ c ∧ c ≤ maxLen ∧ cs.take (calls.length * 10) = (pCalls calls).map Dt.p
theorem pCalls_len (l : List CallT) : (pCalls l).length = l.length * 10 := by
  induction l with
  | nil => rfl
  | cons a l ih => unfold pCalls at ih ⊢; rw [List.flatMap_cons, List.length_append, ih]; simp [pCall]; omega
theorem pCalls_app (l : List CallT) (c : CallT) : pCalls l ++ pCall c = pCalls (l ++ [c]) := by simp [pCalls]
theorem CallsOk.ok {calls : List CallT} {cd : Dt} {cs : List Dt} (h : CallsOk calls cd cs) (B G : Nat → Bool) (hB : B 36 = true) : cd.ok B G = true := by
  rcases h.at_ with ⟨_, rfl⟩ | ⟨c, rfl, _⟩
  · rfl
  · exact hB
theorem CallsOk.leaf {calls : List CallT} {cd : Dt} {cs : List Dt} (h : CallsOk calls cd cs) : cd.leaf = true := by
  rcases h.at_ with ⟨_, rfl⟩ | ⟨c, rfl, _⟩ <;> rfl
theorem plain_map {f : SeatT → Dt} (hf : ∀ x B G, (f x).ok B G = true) (l : List SeatT) : PlainC (l.map f) := by
  intro B G
  induction l with
  | nil => rfl
  | cons x l ih => simp only [List.map_cons, Dt.ok.oks, hf, Bool.true_and]; exact ih
theorem ops_plain (l : List SeatT) : PlainC (opsC l) := by
  intro B G
  induction l with
  | nil => rfl
  | cons x l ih => rw [opsC, List.flatMap_cons]; exact ih
theorem logs_plain (l : List SeatT) : PlainC (logsC l) := plain_map (fun _ _ _ => rfl) l
theorem stepsC_plain (l : List SeatT) : PlainC (stepsC l) := plain_map (fun _ _ _ => rfl) l
theorem nexts_plain (l : List SeatT) : PlainC (nextsC l) := plain_map (fun _ _ _ => rfl) l
theorem gones_plain (l : List SeatT) : PlainC (gonesC l) := plain_map (fun _ _ _ => rfl) l
theorem opsC_len (l : List SeatT) : (opsC l).length = l.length * 4 := by
  induction l with
  | nil => rfl
  | cons a l ih => rw [opsC, List.flatMap_cons, List.length_append]; simp only [List.length_cons, List.length_nil]; rw [show (List.flatMap (fun x : SeatT => opD x.op) l).length = l.length * 4 from ih]; omega
theorem opsC_at : ∀ {l : List SeatT} {i : Nat} {x : SeatT}, l[i]? = some x → ∃ rest, (opsC l).drop (i * 4) = opD x.op ++ rest
  | [], i, x, h => by simp at h
  | y :: l, 0, x, h => by
    simp at h
    subst h
    exact ⟨_, by rw [Nat.zero_mul, List.drop_zero, opsC, List.flatMap_cons]⟩
  | y :: l, i + 1, x, h => by
    obtain ⟨r, hr⟩ := opsC_at (l := l) (i := i) (x := x) (by simpa using h)
    refine ⟨r, ?_⟩
    rw [opsC, List.flatMap_cons, show (i + 1) * 4 = 4 + i * 4 by omega, ← List.drop_drop]
    exact hr
theorem opsC_set : ∀ {l : List SeatT} {i : Nat} (x : SeatT), i < l.length → stored (opsC l) (i * 4) (opD x.op) = opsC (l.set i x)
  | [], i, x, h => by simp at h
  | y :: l, 0, x, h => by
    unfold stored
    rw [List.set_cons_zero, opsC, opsC, List.flatMap_cons, List.flatMap_cons]
    rfl
  | y :: l, i + 1, x, h => by
    have ih := opsC_set (l := l) (i := i) x (by simpa using h)
    unfold stored at ih ⊢
    rw [List.set_cons_succ, opsC, opsC, List.flatMap_cons, List.flatMap_cons, ← opsC, ← opsC, ← ih]
    rw [show (i + 1) * 4 = (i * 4) + 4 by omega]
    rfl
theorem map_set_same {α : Type} {f : SeatT → α} {l : List SeatT} {i : Nat} {x y : SeatT} (hx : l[i]? = some x) (h : f y = f x) : (l.set i y).map f = l.map f := by
  rw [List.map_set, h]
  refine List.ext_getElem? fun j => ?_
  rw [List.getElem?_set]
  split
  · rename_i hj
    subst hj
    rw [List.length_map, List.getElem?_map, hx, if_pos (List.getElem?_eq_some_iff.1 hx).1]
    rfl
  · rfl
theorem ops_same {l : List SeatT} {i : Nat} {x y : SeatT} (hx : l[i]? = some x) (h : y.op = x.op) : opsC (l.set i y) = opsC l := by
  have := map_set_same (f := fun x : SeatT => opD x.op) hx (by rw [h])
  rw [opsC, opsC, List.flatMap_def, List.flatMap_def, this]
theorem cells_get {f : SeatT → Dt} {l : List SeatT} {i : Nat} {x : SeatT} (hx : l[i]? = some x) : (l.map f)[i]? = some (f x) := by rw [List.getElem?_map, hx]; rfl
theorem cells_low {f : SeatT → Dt} (hf : ∀ x, lowD (f x) = f x) {l : List SeatT} {i : Nat} {y : SeatT} {d : Dt} (hd : lowD d = f y) : ((l.map f).set i d).map lowD = (l.set i y).map f := by
  rw [List.map_set, List.map_map, List.map_set, hd]
  congr 1
  exact List.map_congr_left fun x _ => hf x
theorem tabD_oks {t : TabT} {n : Nat} {cd : Dt} {cs : List Dt} {calls : List CallT} (h : CallsOk calls cd cs) (B G : Nat → Bool) (h1 : B 31 = true) (h2 : B 32 = true) (h3 : B 33 = true) (h4 : B 34 = true) (h5 : B 35 = true) (h6 : B 36 = true) : Dt.ok.oks B G (tabD t n cd) = true := by
  have h7 := h.ok B G h6
  simp only [Dt.ok.oks, Dt.ok, h1, h2, h3, h4, h5, h7, Bool.true_and]
theorem tab_ok {t : TabT} {n : Nat} {cd : Dt} {cs cs2 : List Dt} {calls : List CallT} (h : CallsOk calls cd cs2) : Dt.ok.oks (isIn (tabB t n cd cs)) (fun _ => false) (tabD t n cd) = true := by
  have h1 := h.ok (isIn (tabB t n cd cs)) (fun _ => false) rfl
  show (true && (true && (true && (true && (true && (true && (true && (Dt.ok (isIn (tabB t n cd cs)) (fun _ => false) cd && (true && (true && (true && true)))))))))))= true
  rw [h1]
  rfl
theorem tab_sub {σ : St} {t : TabT} {n : Nat} {cd : Dt} {cs : List Dt} {calls : List CallT} (h : CallsOk calls cd cs) (h0 : kv σ.b 30 = some (tabD t n cd)) (h1 : kv σ.b 31 = some (opsC t.seats)) (h2 : kv σ.b 32 = some (logsC t.seats)) (h3 : kv σ.b 33 = some (stepsC t.seats)) (h4 : kv σ.b 34 = some (nextsC t.seats)) (h5 : kv σ.b 35 = some (gonesC t.seats)) (h6 : kv σ.b 36 = some cs) : SubH σ (isIn (tabB t n cd cs)) (tabB t n cd cs) :=
  ⟨⟨h0, tab_ok h⟩, ⟨h1, ops_plain _ _ _⟩, ⟨h2, logs_plain _ _ _⟩, ⟨h3, stepsC_plain _ _ _⟩, ⟨h4, nexts_plain _ _ _⟩, ⟨h5, gones_plain _ _ _⟩, ⟨h6, h.pl _ _⟩, trivial⟩
end Go.Proofs.YtdmnjoidfjidbaaGreat
