/- Plays, step by step: what they are. -/
import Derived.Test.YtpecgpmdchejdaaE5
namespace Go.Proofs.Ytpecgpmdchejdaa
open Go.RowKit
set_option maxRecDepth 100000

structure SeatT where
  at_ : Nat
  log : List ResT
  gone : List (Int × Int)
structure StepT where
  who : Int
  at_ : Int
  op : OpT
  gone : List (Int × Int)
  acc : AccT
  res : ResT
  done : Bool
  out : OutT
structure PSt where
  m : List Int
  seats : List SeatT
  out : List StepT
def seatC (s : SeatT) : List Dt := [dI s.at_, dLog s.log, dGone s.gone]
def seatsC (l : List SeatT) : List Dt := l.flatMap seatC
def pStep (s : StepT) : List Pl := [pI s.who, pI s.at_, pI s.op.kind, pI s.op.obj, pI s.op.a, pI s.op.b, plGone s.gone, pI s.acc.kind, pI s.acc.cell, pI s.acc.old, pI s.acc.new, pI s.res.val, pB s.res.ok, pB s.done, pI s.out.val, pB s.out.is, pI s.out.err, pI s.out.point, plGone s.out.gone]
def pSteps (l : List StepT) : List Pl := l.flatMap pStep
abbrev dSteps (l : List StepT) : Dt := .p (.sl false l.length (pSteps l))
abbrev dGones (l : List (List (Int × Int))) : Dt := .p (.sl false l.length (l.map plGone))
def res0 : ResT := ⟨0, false⟩
/-- A seat's turn. -/
def stepP (l : LayT) (want : List (List OpT)) (who : Nat) (s : PSt) : Except PSt PSt :=
  match s.seats[who]?, want[who]? with
  | some x, some ws => match ws[x.at_]? with
    | none => .ok s
    | some op0 =>
      let op : OpT := { op0 with obj := 0 }
      let r := nextF l who x.gone op x.log
      if r.2.2 then .ok ⟨s.m, s.seats.set who ⟨x.at_ + 1, [], r.2.1.gone⟩, s.out ++ [⟨who, x.at_, op, x.gone, acc0, res0, true, r.2.1⟩]⟩
      else if faultF s.m.length r.1 = 0 then .ok ⟨(turnF s.m r.1).1, s.seats.set who { x with log := x.log ++ [(turnF s.m r.1).2] }, s.out ++ [⟨who, x.at_, op, x.gone, r.1, (turnF s.m r.1).2, false, out0⟩]⟩
      else .error s
  | _, _ => .ok s
def whoF (p : PlayT) (i : Nat) : Nat := match p.turns[i]? with
  | some t => (t % (p.want.length : Int)).toNat
  | none => (i - p.turns.length) / 1000
def playL (l : LayT) (p : PlayT) : Nat → Nat → PSt → Except PSt PSt
  | 0, _, s => .ok s
  | k + 1, i, s => if p.want.length ≤ whoF p i then .ok s else match stepP l p.want (whoF p i) s with
    | .ok s' => playL l p k (i + 1) s'
    | .error s' => .error s'
def allF (p : PlayT) : Nat := p.turns.length + p.want.length * 1000
def start (p : PlayT) : PSt := ⟨beginF (layP p), List.replicate p.want.length ⟨0, [], []⟩, []⟩
def endsF (p : PlayT) (seats : List SeatT) : Bool := (seats.zip p.want).all fun q => decide (q.2.length ≤ q.1.at_)
structure PlayedT where
  steps : List StepT
  m : List Int
  gone : List (List (Int × Int))
  ends : Bool
def playedF (p : PlayT) : PlayedT := match playL (layP p) p (allF p) 0 (start p) with
  | .ok s => ⟨s.out, s.m, s.seats.map (·.gone), endsF p s.seats⟩
  | .error s => ⟨s.out, s.m, [], false⟩
abbrev dPlayed (r : PlayedT) : Dt := .tup [dSteps r.steps, dMem r.m, dGones r.gone, dB r.ends]

/-! ### Seats' cells -/
theorem seatsC_len (l : List SeatT) : (seatsC l).length = l.length * 3 := by
  induction l with
  | nil => rfl
  | cons a l ih => unfold seatsC at ih ⊢; rw [List.flatMap_cons, List.length_append, ih]; simp [seatC]; omega
theorem seatsC_at : ∀ {l : List SeatT} {i : Nat} {x : SeatT}, l[i]? = some x → ∃ rest, (seatsC l).drop (i * 3) = seatC x ++ rest
  | [], i, x, h => by simp at h
  | y :: l, 0, x, h => by
    simp at h; subst h
    exact ⟨seatsC l, by simp [seatsC]⟩
  | y :: l, i + 1, x, h => by
    obtain ⟨rest, hr⟩ := seatsC_at (l := l) (i := i) (x := x) (by simpa using h)
    refine ⟨rest, ?_⟩
    rw [← hr]
    show (seatC y ++ seatsC l).drop _ = _
    rw [show (i + 1) * 3 = (seatC y).length + i * 3 by simp [seatC]; omega, List.drop_append]
    simp
theorem seatsC_set : ∀ {l : List SeatT} {i : Nat} (x : SeatT), i < l.length → stored (seatsC l) (i * 3) (seatC x) = seatsC (l.set i x)
  | [], i, x, h => by simp at h
  | y :: l, 0, x, h => by
    simp [stored, seatsC, seatC]
  | y :: l, i + 1, x, h => by
    have ih := seatsC_set (l := l) (i := i) x (by simpa using h)
    unfold stored at ih ⊢
    rw [List.set_cons_succ]
    show _ = seatC y ++ seatsC (l.set i x)
    rw [← ih]
    show (seatC y ++ seatsC l).take _ ++ _ ++ (seatC y ++ seatsC l).drop _ = _
    rw [show (i + 1) * 3 = (seatC y).length + i * 3 by simp [seatC]; omega, List.take_append, Nat.add_assoc, List.drop_append, List.take_of_length_le (l := seatC y) (by omega), List.drop_of_length_le (l := seatC y) (by omega)]
    simp
theorem seatsC_plain (l : List SeatT) : PlainC (seatsC l) := by
  intro B G
  induction l with
  | nil => rfl
  | cons a l ih => exact ih
theorem seatsC_get {l : List SeatT} {i : Nat} {x : SeatT} (h : l[i]? = some x) : (seatsC l)[i * 3]? = some (dI x.at_) ∧ (seatsC l)[i * 3 + 2]? = some (dGone x.gone) := by
  obtain ⟨rest, hr⟩ := seatsC_at h
  have h1 : ((seatsC l).drop (i * 3))[0]? = some (dI x.at_) := by rw [hr]; rfl
  have h2 : ((seatsC l).drop (i * 3))[2]? = some (dGone x.gone) := by rw [hr]; rfl
  rw [List.getElem?_drop] at h1 h2
  exact ⟨by simpa using h1, h2⟩
theorem seatsC_start (n : Nat) : (List.replicate n [dI 0, dLog [], dGone []]).flatten = seatsC (List.replicate n ⟨0, [], []⟩) := by
  induction n with
  | zero => rfl
  | succ n ih => rw [List.replicate_succ, List.flatten_cons, ih]; rfl

/-! ### What is retired stays small -/
theorem siftL_ok {l : LayT} {held : List Int} : ∀ {gs stay : List (Int × Int)} {log : List ResT} {s s' : PsT} {r : List (Int × Int)}, siftL l held gs stay log s = .ok (r, s') → GoneOk gs → GoneOk stay → GoneOk r
  | [], stay, log, s, s', r, h, _, h2 => by cases h; exact h2
  | g :: gs, stay, log, s, s', r, h, h1, h2 => by
    have h1' : GoneOk gs := fun p hp => h1 p (List.mem_cons_of_mem _ hp)
    rw [siftL] at h
    cases k1 : loadM (nodeF l g.1 6) log s with
    | error a => rw [bind_err k1] at h; cases h
    | ok q =>
      obtain ⟨b, s1⟩ := q
      rw [bind_ok k1] at h
      split at h
      · exact siftL_ok h h1' (fun p hp => by
          rw [List.mem_append, List.mem_singleton] at hp
          rcases hp with hp | rfl
          · exact h2 p hp
          · exact h1 _ (by simp))
      · cases k2 : giveM l g.1 log s1 with
        | error a => rw [bind_err k2] at h; cases h
        | ok q =>
          obtain ⟨u, s2⟩ := q
          rw [bind_ok k2] at h
          exact siftL_ok h h1' h2
theorem goneOk_snoc {g : List (Int × Int)} {n e : Int} (h : GoneOk g) (hn : n < 9223372036854775808) : GoneOk (g ++ [(n, e)]) := by
  intro p hp
  rw [List.mem_append, List.mem_singleton] at hp
  rcases hp with hp | rfl
  · exact h p hp
  · exact hn
theorem retireM_ok {l : LayT} {n : Int} {log : List ResT} {s s' : PsT} {u : Unit} (h : retireM l n log s = .ok (u, s')) (hg : GoneOk s.gone) (hn : n < 9223372036854775808) : GoneOk s'.gone := by
  unfold retireM at h
  cases h1 : loadM l.era log s with
  | error a => rw [bind_err h1] at h; cases h
  | ok q =>
    obtain ⟨er, s1⟩ := q
    rw [bind_ok h1] at h
    have g1 : s1.gone = s.gone := by rw [(loadM_gone h1).1]
    cases h2 : doM ⟨4, l.era, 0, 1⟩ log s1 with
    | error a => rw [bind_err h2] at h; cases h
    | ok q =>
      obtain ⟨r, s2⟩ := q
      rw [bind_ok h2] at h
      have g2 : s2.gone = s.gone := by rw [(doM_gone h2).1]; exact g1
      have hq : GoneOk (s2.gone ++ [(n, er)]) := by rw [g2]; exact goneOk_snoc hg hn
      split at h
      · cases h; exact hq
      · unfold scanM at h
        cases h3 : loadAcc [] (resvsF l 0 l.seats.toNat) log { s2 with gone := s2.gone ++ [(n, er)] } with
        | error a => rw [bind_err h3] at h; cases h
        | ok q =>
          obtain ⟨held, s3⟩ := q
          rw [bind_ok h3] at h
          cases h4 : siftL l held (s2.gone ++ [(n, er)]) [] log s3 with
          | error a => rw [bind_err h4] at h; cases h
          | ok q =>
            obtain ⟨stay, s4⟩ := q
            rw [bind_ok h4] at h
            unfold setGone at h
            cases h
            exact siftL_ok h4 hq (fun p hp => by simp at hp)
theorem popL_ok {l : LayT} {me top : Int} : ∀ {k : Nat} {log : List ResT} {s s' : PsT} {x : OutT}, popL l me top k log s = .ok (x, s') → GoneOk s.gone → GoneOk s'.gone
  | 0, log, s, s', x, h, hg => by cases h; exact hg
  | k + 1, log, s, s', x, h, hg => by
    rw [popL] at h
    cases h1 : guardM l me top log s with
    | error a => rw [bind_err h1] at h; cases h
    | ok q =>
      obtain ⟨p, s1⟩ := q
      rw [bind_ok h1] at h
      have g1 : s1.gone = s.gone := guardL_gone h1
      split at h
      · cases h2 : clearM l me log s1 with
        | error a => rw [bind_err h2] at h; cases h
        | ok q =>
          obtain ⟨u, s2⟩ := q
          rw [bind_ok h2] at h
          cases h
          have : s'.gone = s.gone := (clrL_gone h2).trans g1
          rw [this]; exact hg
      · cases h2 : loadM (nodeF l (ofW p.1).idx 0) log s1 with
        | error a => rw [bind_err h2] at h; cases h
        | ok q =>
          obtain ⟨be, s2⟩ := q
          rw [bind_ok h2] at h
          have g2 : s2.gone = s.gone := by rw [(loadM_gone h2).1]; exact g1
          cases h3 : casM top p.1 (packW (turnW (ofW p.1) be)) log s2 with
          | error a => rw [bind_err h3] at h; cases h
          | ok q =>
            obtain ⟨ok, s3⟩ := q
            rw [bind_ok h3] at h
            have g3 : s3.gone = s.gone := by rw [(casM_gone h3).1]; exact g2
            split at h
            · rw [bind_ok last_ok] at h
              cases h4 : loadM (nodeF l (ofW p.1).idx 1) log s3 with
              | error a => rw [bind_err h4] at h; cases h
              | ok q =>
                obtain ⟨va, s4⟩ := q
                rw [bind_ok h4] at h
                have g4 : s4.gone = s.gone := by rw [(loadM_gone h4).1]; exact g3
                cases h5 : clearM l me log s4 with
                | error a => rw [bind_err h5] at h; cases h
                | ok q =>
                  obtain ⟨u, s5⟩ := q
                  rw [bind_ok h5] at h
                  have g5 : s5.gone = s.gone := (clrL_gone h5).trans g4
                  cases h6 : retireM l (ofW p.1).idx log s5 with
                  | error a => rw [bind_err h6] at h; cases h
                  | ok q =>
                    obtain ⟨u, s6⟩ := q
                    rw [bind_ok h6] at h
                    cases h
                    exact retireM_ok h6 (by rw [g5]; exact hg) (by have := (ofW_idx p.1).2; omega)
            · exact popL_ok h (by rw [g3]; exact hg)
/-- What a program that is done has retired. -/
theorem nextF_gone {l : LayT} {me : Int} {gone : List (Int × Int)} {op : OpT} {log : List ResT} (hg : GoneOk gone) : GoneOk (nextF l me gone op log).2.1.gone ∧ (nextF l me gone op log).2.1.gone.length ≤ gone.length + 1 := by
  have h0 : GoneOk ([] : List (Int × Int)) := fun p hp => by simp at hp
  unfold nextF
  split
  · exact ⟨hg, Nat.le_succ _⟩
  · split
    · unfold finM
      split
      · rename_i x s' h
        rw [show ({ x with gone := s'.gone } : OutT).gone = s'.gone from rfl]
        rw [pushM_gone h]
        exact ⟨hg, Nat.le_succ _⟩
      · exact ⟨h0, by simp [out0]⟩
    · split
      · unfold finM
        split
        · rename_i x s' h
          have h1 := popL_len h
          exact ⟨popL_ok h hg, by simpa using h1⟩
        · exact ⟨h0, by simp [out0]⟩
      · exact ⟨hg, Nat.le_succ _⟩
end Go.Proofs.Ytpecgpmdchejdaa
