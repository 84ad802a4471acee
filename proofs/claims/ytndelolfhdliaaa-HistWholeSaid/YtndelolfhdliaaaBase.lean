/- The calls of a history as Lean data, and how a slice of them lies in memory. -/
import Derived.Test.YtndelolfhdliaaaRows
import Derived.WalkKit
import Derived.WalkSpells
import Derived.WalkLawsBesides
import Derived.BigQuiet
import Derived.Lib.Hide
import Derived.Test.YtndelolfhdliaaaRel
namespace Go.Proofs.Ytndelolfhdliaaa
open Go.RowKit

structure Call where
  who : Int
  kind : Int
  obj : Int
  a : Int
  b : Int
  val : Int
  is : Bool
  first : Int
  last : Int
  point : Int
  deriving DecidableEq

def Call.cells (c : Call) : List Value := [.int .i64 c.who, .int .i64 c.kind, .int .i64 c.obj, .int .i64 c.a, .int .i64 c.b, .int .i64 c.val, .bool c.is, .int .i64 c.first, .int .i64 c.last, .int .i64 c.point]

/-- The ten cells of a call at an address. -/
def CellsAt (w : World) (b o : Nat) (c : Call) : Prop :=
  w.cell? ⟨b, o, none⟩ = some (.int .i64 c.who) ∧ w.cell? ⟨b, o + 1, none⟩ = some (.int .i64 c.kind) ∧ w.cell? ⟨b, o + 2, none⟩ = some (.int .i64 c.obj) ∧
  w.cell? ⟨b, o + 3, none⟩ = some (.int .i64 c.a) ∧ w.cell? ⟨b, o + 4, none⟩ = some (.int .i64 c.b) ∧ w.cell? ⟨b, o + 5, none⟩ = some (.int .i64 c.val) ∧
  w.cell? ⟨b, o + 6, none⟩ = some (.bool c.is) ∧ w.cell? ⟨b, o + 7, none⟩ = some (.int .i64 c.first) ∧ w.cell? ⟨b, o + 8, none⟩ = some (.int .i64 c.last) ∧
  w.cell? ⟨b, o + 9, none⟩ = some (.int .i64 c.point)

/-- A slice of calls, below block B. -/
def CRow (w : World) (B : Nat) (A : Option Addr) (h : List Call) : Prop :=
  ∀ i c, h[i]? = some c → ∃ b o, A = some ⟨b, o, none⟩ ∧ b < B ∧ CellsAt w b (o + i * 10) c

theorem CellsAt.keep {w w' : World} {b o : Nat} {c : Call} (h : CellsAt w b o c) (hk : ∀ p : Addr, p.block = b → w'.cell? p = w.cell? p) : CellsAt w' b o c := by
  obtain ⟨h0, h1, h2, h3, h4, h5, h6, h7, h8, h9⟩ := h
  exact ⟨(hk _ rfl).trans h0, (hk _ rfl).trans h1, (hk _ rfl).trans h2, (hk _ rfl).trans h3, (hk _ rfl).trans h4, (hk _ rfl).trans h5, (hk _ rfl).trans h6, (hk _ rfl).trans h7, (hk _ rfl).trans h8, (hk _ rfl).trans h9⟩

theorem CRow.keep {w w' : World} {B : Nat} {A : Option Addr} {h : List Call} (hr : CRow w B A h) (hk : ∀ p : Addr, p.block < B → w'.cell? p = w.cell? p) : CRow w' B A h := by
  intro i c hi
  obtain ⟨b, o, hA, hb, hc⟩ := hr i c hi
  exact ⟨b, o, hA, hb, hc.keep fun p hp => hk p (by omega)⟩

theorem CRow.below {w w' : World} {B : Nat} {A : Option Addr} {h : List Call} (hr : CRow w B A h) (hb : Below B w w') : CRow w' B A h := hr.keep fun _ hp => hb.cell hp

theorem CRow.more {w : World} {B B' : Nat} {A : Option Addr} {h : List Call} (hr : CRow w B A h) (hB : B ≤ B') : CRow w B' A h := fun i c hi => by
  obtain ⟨b, o, hA, hb, hc⟩ := hr i c hi
  exact ⟨b, o, hA, by omega, hc⟩

theorem CRow.nil {w : World} {B : Nat} {A : Option Addr} : CRow w B A [] := fun i c hi => by simp at hi

end Go.Proofs.Ytndelolfhdliaaa
