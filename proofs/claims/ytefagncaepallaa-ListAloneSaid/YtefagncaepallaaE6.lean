/- Plays, step by step: what they are. -/
import Derived.Test.YtefagncaepallaaE5
namespace Go.Proofs.Ytefagncaepallaa
open Go.RowKit
set_option maxRecDepth 100000

def seatC (s : SeatT) : List Dt := [dI s.at_, dLog s.log, dGone s.gone]
def seatsC (l : List SeatT) : List Dt := l.flatMap seatC
def pStep (s : StepT) : List Pl := [pI s.who, pI s.at_, pI s.op.kind, pI s.op.obj, pI s.op.a, pI s.op.b, plGone s.gone, pI s.acc.kind, pI s.acc.cell, pI s.acc.old, pI s.acc.new, pI s.res.val, pB s.res.ok, pB s.done, pI s.out.val, pB s.out.is, pI s.out.err, pI s.out.point, plGone s.out.gone]
def pSteps (l : List StepT) : List Pl := l.flatMap pStep
abbrev dSteps (l : List StepT) : Dt := .p (.sl false l.length (pSteps l))
abbrev dGones (l : List (List (Int × Int))) : Dt := .p (.sl false l.length (l.map plGone))
abbrev dPlayed (r : PlayedT) : Dt := .tup [dSteps r.steps, dMem r.m, dGones r.gone, dB r.ends]

/-! ### Seats' cells -/
theorem seatsC_len (l : List SeatT) : (seatsC l).length = l.length * 3 := by
  induction l with
  | nil => rfl
  | cons a l ih => unfold seatsC at ih ⊢; rw [List.flatMap_cons, List.length_append, ih]; simp [seatC]; omega
theorem seatsC_at : ∀ {l : List SeatT} {i : Nat} {x : SeatT}, l[i]? = some x → ∃ rest, (seatsC l).drop (i * 3) = seatC x ++ rest
  | [], i, x, h => by simp at h
  | y :: l, 0, x, h => by
    simp at h; subst h
    exact ⟨seatsC l, by simp [seatsC]⟩
  | y :: l, i + 1, x, h => by
    obtain ⟨rest, hr⟩ := seatsC_at (l := l) (i := i) (x := x) (by simpa using h)
    refine ⟨rest, ?_⟩
    rw [← hr]
    show (seatC y ++ seatsC l).drop _ = _
    rw [show (i + 1) * 3 = (seatC y).length + i * 3 by simp [seatC]; omega, List.drop_append]
    simp
theorem seatsC_set : ∀ {l : List SeatT} {i : Nat} (x : SeatT), i < l.length → stored (seatsC l) (i * 3) (seatC x) = seatsC (l.set i x)
  | [], i, x, h => by simp at h
  | y :: l, 0, x, h => by
    simp [stored, seatsC, seatC]
  | y :: l, i + 1, x, h => by
    have ih := seatsC_set (l := l) (i := i) x (by simpa using h)
    unfold stored at ih ⊢
    rw [List.set_cons_succ]
    show _ = seatC y ++ seatsC (l.set i x)
    rw [← ih]
    show (seatC y ++ seatsC l).take _ ++ _ ++ (seatC y ++ seatsC l).drop _ = _
    rw [show (i + 1) * 3 = (seatC y).length + i * 3 by simp [seatC]; omega, List.take_append, Nat.add_assoc, List.drop_append, List.take_of_length_le (l := seatC y) (by omega), List.drop_of_length_le (l := seatC y) (by omega)]
    simp
theorem seatsC_plain (l : List SeatT) : PlainC (seatsC l) := by
  intro B G
  induction l with
  | nil => rfl
  | cons a l ih => exact ih
theorem seatsC_get {l : List SeatT} {i : Nat} {x : SeatT} (h : l[i]? = some x) : (seatsC l)[i * 3]? = some (dI x.at_) ∧ (seatsC l)[i * 3 + 2]? = some (dGone x.gone) := by
  obtain ⟨rest, hr⟩ := seatsC_at h
  have h1 : ((seatsC l).drop (i * 3))[0]? = some (dI x.at_) := by rw [hr]; rfl
  have h2 : ((seatsC l).drop (i * 3))[2]? = some (dGone x.gone) := by rw [hr]; rfl
  rw [List.getElem?_drop] at h1 h2
  exact ⟨by simpa using h1, h2⟩
theorem seatsC_start (n : Nat) : (List.replicate n [dI 0, dLog [], dGone []]).flatten = seatsC (List.replicate n ⟨0, [], []⟩) := by
  induction n with
  | zero => rfl
  | succ n ih => rw [List.replicate_succ, List.flatten_cons, ih]; rfl

end Go.Proofs.Ytefagncaepallaa
