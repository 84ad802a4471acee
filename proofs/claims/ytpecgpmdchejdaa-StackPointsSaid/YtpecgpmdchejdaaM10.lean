/- What readers of a stack's memory find; whose try goes. -/
import Derived.Test.YtpecgpmdchejdaaM9
import Derived.Test.YtpecgpmdchejdaaE4
namespace Go.Proofs.Ytpecgpmdchejdaa
set_option maxRecDepth 100000

theorem chain_linked {nx : Int → Int} {N : Int} {i : Int} {nd : Int → Int → Int} : ∀ (L acc : List Int) (k : Nat), (∀ x ∈ L, 1 ≤ x ∧ x ≤ N) → (acc ++ L).Nodup → L.length < k → Linked nd i L → (∀ x ∈ L, nx x = nd x i) → chainF nx N k acc (L.headD 0) = acc ++ L
  | [], acc, 0, _, _, hk, _, _ => by simp at hk
  | [], acc, k + 1, _, _, _, _, _ => by
    rw [chainF, if_neg (by simp)]; simp
  | x :: L, acc, 0, _, _, hk, _, _ => by simp at hk
  | x :: L, acc, k + 1, hb, hd, hk, hl, hn => by
    have hx := hb x (by simp)
    have hna : x ∉ acc := fun h => by
      rw [List.nodup_append] at hd
      exact hd.2.2 x h x (by simp) rfl
    rw [List.headD_cons, chainF, if_pos ⟨hx.1, hx.2, hna⟩, hn x (by simp), hl.1, chain_linked L (acc ++ [x]) k (fun y hy => hb y (by simp [hy])) (by simpa using hd) (by simp at hk; omega) hl.2 (fun y hy => hn y (by simp [hy]))]
    simp
theorem atF_cell {m : List Int} {c : Int} (h0 : 0 ≤ c) (h1 : c < m.length) : atF m c = cellAt m c := by
  unfold atF
  rw [if_neg (by omega)]
theorem nodupT {S N K : Nat} {V : Vw} {qs : List Q} {F T : List Int} (hI : Inv S N K V qs F T) : T.Nodup := by
  rw [List.nodup_iff_count]
  intro x
  have := hI.one x
  omega
section
variable {l : LayT} {S N K : Nat} {m : List Int} {V : Vw} {qs : List Q} {F T : List Int} (hL : Lay l S N) (hN : N ≤ 100) (hV : View l S N m V) (hI : Inv S N K V qs F T)
include hL hN hV hI
theorem nodes_is : nodesF l m 0 = T := by
  have hb := View.big hL hV
  have ht := hL.top
  have hd := nodupT hI
  unfold nodesF
  rw [if_neg (by omega), atF_cell (by omega) (by omega), hV.tp, hI.tIdx hN]
  have := chain_linked (nx := fun n => atF m (nodeF l n 0)) (N := l.nodes) T [] (l.nodes.toNat + 1) (fun x hx => by have := hI.inT hx; have := hL.nodes; omega) (by simpa using hd) (by
    have := nodup_le N T hd (fun x hx => hI.inT hx)
    have := hL.nodes
    omega) hI.lt (fun x hx => by
      have hx := hI.inT hx
      have h7 := hL.node x 0 hx.1 hx.2 (by omega) (by omega)
      rw [atF_cell (by omega) (by omega)]
      exact hV.nd x 0 hx.1 hx.2 (by omega) (by omega))
  simpa using this
theorem row_is : rowF l m 0 = T.map fun n => V.nd n 1 := by
  have hb := View.big hL hV
  unfold rowF
  rw [nodes_is hL hN hV hI]
  apply List.map_congr_left
  intro x hx
  have hx := hI.inT hx
  have h7 := hL.node x 1 hx.1 hx.2 (by omega) (by omega)
  rw [atF_cell (by omega) (by omega)]
  exact hV.nd x 1 hx.1 hx.2 (by omega) (by omega)
end

/-! ### One whose try didn't go was passed -/
structure PassT where
  went : Int
  looked : List Int
def passS (top : Int) (q : PassT) (s : StepT) : PassT := if s.done = true ∨ s.acc.cell ≠ top then q else if s.acc.kind = 1 then { q with looked := q.looked.set s.who.toNat q.went } else if s.res.ok then { q with went := q.went + 1 } else q
structure PassOk (top : Int) (q : PassT) (s : StepT) : Prop where
  w0 : 0 ≤ s.who
  w1 : s.who < q.looked.length
  ok : s.done = false → s.acc.cell = top → s.acc.kind ≠ 1 → s.acc.kind = 3 ∧ s.res.ok = decide (cellAt q.looked s.who = q.went)
def PassAll (top : Int) (q : PassT) (l : List StepT) : Prop := ∀ (i : Nat) (s : StepT), l[i]? = some s → PassOk top ((l.take i).foldl (passS top) q) s
/-- The word of the top that a program has seen. -/
def topSeen : Pc → Option Int
  | .p2 _ u | .p3 _ u | .g2 u _ | .d1 u | .d2 u _ => some u
  | _ => none
structure PassJ (p : PlayT) (s : PSt) (V : Vw) : Prop where
  all : PassAll (topF (layP p) 0) ⟨0, List.replicate p.want.length 0⟩ s.out
  len : (s.out.foldl (passS (topF (layP p) 0)) ⟨0, List.replicate p.want.length 0⟩).looked.length = p.want.length
  went : (s.out.foldl (passS (topF (layP p) 0)) ⟨0, List.replicate p.want.length 0⟩).went = V.tp / 131072
  look : ∀ (w : Nat) (q : Q) (u : Int), (qsOf (layP p) p.want s.seats)[w]? = some q → topSeen q.pc = some u → cellAt (s.out.foldl (passS (topF (layP p) 0)) ⟨0, List.replicate p.want.length 0⟩).looked w = u / 131072
theorem foldl_snoc {α β : Type} (f : β → α → β) (b : β) (l : List α) (x : α) : (l ++ [x]).foldl f b = f (l.foldl f b) x := by simp [List.foldl_append]
end Go.Proofs.Ytpecgpmdchejdaa
