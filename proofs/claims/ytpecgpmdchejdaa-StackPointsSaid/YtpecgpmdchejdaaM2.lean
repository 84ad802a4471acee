/- Memory as it is seen by programs of a stack: its words, reservations and nodes; what each access does there. -/
import Derived.Test.YtpecgpmdchejdaaM1
import Derived.Test.YtpecgpmdchejdaaE6
namespace Go.Proofs.Ytpecgpmdchejdaa
set_option maxRecDepth 100000

/-- What is seen of a memory. -/
structure Vw where
  fr : Int
  tp : Int
  er : Int
  rv : Int → Int
  nd : Int → Int → Int
/-- A layout of plays. -/
structure Lay (l : LayT) (S N : Nat) : Prop where
  seats : l.seats = S
  nodes : l.nodes = N
  era : l.era = 2
  free : l.free = 3
  top : topF l 0 = 8 + 12 * (S : Int)
  size : l.size = 10 + 12 * (S : Int) + 8 * N
  node : ∀ n i : Int, 1 ≤ n → n ≤ N → 0 ≤ i → i ≤ 7 → nodeF l n i = 10 + 12 * (S : Int) + 8 * (n - 1) + i
  resv : ∀ w i : Int, 0 ≤ w → w < S → 0 ≤ i → i ≤ 2 → resvF l w i = 4 + 2 * (S : Int) + 3 * w + i
  s1 : 1 ≤ S
  n1 : 1 ≤ N
theorem within_in {f k e r i : Int} (h1 : 0 ≤ r) (h2 : r < k) (h3 : 0 ≤ i) (h4 : i < e) : withinF f k e r i = f + r * e + i := by
  unfold withinF
  rw [if_neg (by omega)]
theorem layP_lay (p : PlayT) (h1 : 1 ≤ p.want.length) : Lay (layP p) p.want.length (1 + p.nodes % 8).toNat := by
  have hN : ((1 + p.nodes % 8).toNat : Int) = 1 + p.nodes % 8 := by omega
  refine ⟨rfl, hN.symm, rfl, rfl, ?_, ?_, ?_, ?_, h1, by omega⟩
  · show withinF (8 + 12 * (p.want.length : Int) + 3 * 0) 1 (1 + 1) 0 0 = _
    rw [within_in (by omega) (by omega) (by omega) (by omega)]; omega
  · show 8 + 12 * (p.want.length : Int) + 3 * 0 + 2 * 1 + 2 * 0 + 8 * (1 + p.nodes % 8) = _
    omega
  · intro n i a1 a2 a3 a4
    have e : nodeF (layP p) n i = withinF (8 + 12 * (p.want.length : Int) + 3 * 0 + 2 * 1 + 2 * 0) (1 + p.nodes % 8) 8 (n - 1) i := by
      unfold nodeF
      rw [if_neg (by omega)]; rfl
    rw [e, within_in (by omega) (by omega) (by omega) (by omega)]; omega
  · intro w i a1 a2 a3 a4
    show withinF (4 + 2 * (p.want.length : Int)) p.want.length 3 w i = _
    rw [within_in (by omega) (by omega) (by omega) (by omega)]; omega
structure View (l : LayT) (S N : Nat) (m : List Int) (V : Vw) : Prop where
  len : m.length = l.size.toNat
  fr : cellAt m l.free = V.fr
  tp : cellAt m (topF l 0) = V.tp
  er : cellAt m l.era = V.er
  rv : ∀ w : Int, 0 ≤ w → w < S → cellAt m (resvF l w 0) = V.rv w
  r1 : ∀ w i : Int, 0 ≤ w → w < S → 1 ≤ i → i ≤ 2 → cellAt m (resvF l w i) = 0
  nd : ∀ n i : Int, 1 ≤ n → n ≤ N → 0 ≤ i → i ≤ 7 → cellAt m (nodeF l n i) = V.nd n i

theorem cellAt_set {m : List Int} {c d v : Int} (h0 : 0 ≤ c) (h1 : c < m.length) (hd : 0 ≤ d) : cellAt (m.set c.toNat v) d = if d = c then v else cellAt m d := by
  unfold cellAt
  have hc : c.toNat < m.length := by omega
  by_cases h : d = c
  · subst h
    rw [if_pos rfl, List.getD_eq_getElem?_getD, List.getElem?_set_self hc]; rfl
  · rw [if_neg h, List.getD_eq_getElem?_getD, List.getD_eq_getElem?_getD, List.getElem?_set_ne (by omega)]
def Vw.setNd (V : Vw) (n i v : Int) : Vw := { V with nd := fun n' i' => if n' = n ∧ i' = i then v else V.nd n' i' }
def Vw.setRv (V : Vw) (w v : Int) : Vw := { V with rv := fun w' => if w' = w then v else V.rv w' }
section
variable {l : LayT} {S N : Nat} {m : List Int} {V : Vw} (hL : Lay l S N) (hV : View l S N m V)
include hL hV
theorem View.big : (m.length : Int) = 10 + 12 * (S : Int) + 8 * N := by have := hV.len; have := hL.size; omega
theorem View.setFr (v : Int) : View l S N (m.set l.free.toNat v) { V with fr := v } := by
  have hb := View.big hL hV
  have hf := hL.free
  have he := hL.era
  have ht := hL.top
  have key : ∀ d : Int, 0 ≤ d → cellAt (m.set l.free.toNat v) d = if d = l.free then v else cellAt m d := fun d hd => cellAt_set (by omega) (by omega) hd
  refine ⟨by rw [List.length_set]; exact hV.len, ?_, ?_, ?_, ?_, ?_, ?_⟩
  · rw [key _ (by omega), if_pos rfl]
  · rw [key _ (by omega), if_neg (by omega)]; exact hV.tp
  · rw [key _ (by omega), if_neg (by omega)]; exact hV.er
  · intro w a1 a2
    have := hL.resv w 0 a1 a2 (by omega) (by omega)
    rw [key _ (by omega), if_neg (by omega)]; exact hV.rv w a1 a2
  · intro w i a1 a2 a3 a4
    have := hL.resv w i a1 a2 (by omega) (by omega)
    rw [key _ (by omega), if_neg (by omega)]; exact hV.r1 w i a1 a2 a3 a4
  · intro n i a1 a2 a3 a4
    have := hL.node n i a1 a2 a3 a4
    rw [key _ (by omega), if_neg (by omega)]; exact hV.nd n i a1 a2 a3 a4
theorem View.setTp (v : Int) : View l S N (m.set (topF l 0).toNat v) { V with tp := v } := by
  have hb := View.big hL hV
  have hf := hL.free
  have he := hL.era
  have ht := hL.top
  have hs := hL.s1
  have key : ∀ d : Int, 0 ≤ d → cellAt (m.set (topF l 0).toNat v) d = if d = topF l 0 then v else cellAt m d := fun d hd => cellAt_set (by omega) (by omega) hd
  refine ⟨by rw [List.length_set]; exact hV.len, ?_, ?_, ?_, ?_, ?_, ?_⟩
  · rw [key _ (by omega), if_neg (by omega)]; exact hV.fr
  · rw [key _ (by omega), if_pos rfl]
  · rw [key _ (by omega), if_neg (by omega)]; exact hV.er
  · intro w a1 a2
    have := hL.resv w 0 a1 a2 (by omega) (by omega)
    rw [key _ (by omega), if_neg (by omega)]; exact hV.rv w a1 a2
  · intro w i a1 a2 a3 a4
    have := hL.resv w i a1 a2 (by omega) (by omega)
    rw [key _ (by omega), if_neg (by omega)]; exact hV.r1 w i a1 a2 a3 a4
  · intro n i a1 a2 a3 a4
    have := hL.node n i a1 a2 a3 a4
    rw [key _ (by omega), if_neg (by omega)]; exact hV.nd n i a1 a2 a3 a4
theorem View.setEr (v : Int) : View l S N (m.set l.era.toNat v) { V with er := v } := by
  have hb := View.big hL hV
  have hf := hL.free
  have he := hL.era
  have ht := hL.top
  have key : ∀ d : Int, 0 ≤ d → cellAt (m.set l.era.toNat v) d = if d = l.era then v else cellAt m d := fun d hd => cellAt_set (by omega) (by omega) hd
  refine ⟨by rw [List.length_set]; exact hV.len, ?_, ?_, ?_, ?_, ?_, ?_⟩
  · rw [key _ (by omega), if_neg (by omega)]; exact hV.fr
  · rw [key _ (by omega), if_neg (by omega)]; exact hV.tp
  · rw [key _ (by omega), if_pos rfl]
  · intro w a1 a2
    have := hL.resv w 0 a1 a2 (by omega) (by omega)
    rw [key _ (by omega), if_neg (by omega)]; exact hV.rv w a1 a2
  · intro w i a1 a2 a3 a4
    have := hL.resv w i a1 a2 (by omega) (by omega)
    rw [key _ (by omega), if_neg (by omega)]; exact hV.r1 w i a1 a2 a3 a4
  · intro n i a1 a2 a3 a4
    have := hL.node n i a1 a2 a3 a4
    rw [key _ (by omega), if_neg (by omega)]; exact hV.nd n i a1 a2 a3 a4
theorem View.setRv {w : Int} (w0 : 0 ≤ w) (w1 : w < S) (v : Int) : View l S N (m.set (resvF l w 0).toNat v) (V.setRv w v) := by
  have hb := View.big hL hV
  have hf := hL.free
  have he := hL.era
  have ht := hL.top
  have hr := hL.resv w 0 w0 w1 (by omega) (by omega)
  have key : ∀ d : Int, 0 ≤ d → cellAt (m.set (resvF l w 0).toNat v) d = if d = resvF l w 0 then v else cellAt m d := fun d hd => cellAt_set (by omega) (by omega) hd
  refine ⟨by rw [List.length_set]; exact hV.len, ?_, ?_, ?_, ?_, ?_, ?_⟩
  · rw [key _ (by omega), if_neg (by omega)]; exact hV.fr
  · rw [key _ (by omega), if_neg (by omega)]; exact hV.tp
  · rw [key _ (by omega), if_neg (by omega)]; exact hV.er
  · intro w' a1 a2
    have := hL.resv w' 0 a1 a2 (by omega) (by omega)
    rw [key _ (by omega)]
    simp only [Vw.setRv]
    by_cases hw : w' = w
    · rw [if_pos (by rw [hw]), if_pos hw]
    · rw [if_neg (by omega), if_neg hw]; exact hV.rv w' a1 a2
  · intro w' i a1 a2 a3 a4
    have := hL.resv w' i a1 a2 (by omega) (by omega)
    rw [key _ (by omega), if_neg (by omega)]; exact hV.r1 w' i a1 a2 a3 a4
  · intro n i a1 a2 a3 a4
    have := hL.node n i a1 a2 a3 a4
    rw [key _ (by omega), if_neg (by omega)]; exact hV.nd n i a1 a2 a3 a4
theorem View.setNd {n i : Int} (n0 : 1 ≤ n) (n1 : n ≤ N) (i0 : 0 ≤ i) (i1 : i ≤ 7) (v : Int) : View l S N (m.set (nodeF l n i).toNat v) (V.setNd n i v) := by
  have hb := View.big hL hV
  have hf := hL.free
  have he := hL.era
  have ht := hL.top
  have hr := hL.node n i n0 n1 i0 i1
  have key : ∀ d : Int, 0 ≤ d → cellAt (m.set (nodeF l n i).toNat v) d = if d = nodeF l n i then v else cellAt m d := fun d hd => cellAt_set (by omega) (by omega) hd
  refine ⟨by rw [List.length_set]; exact hV.len, ?_, ?_, ?_, ?_, ?_, ?_⟩
  · rw [key _ (by omega), if_neg (by omega)]; exact hV.fr
  · rw [key _ (by omega), if_neg (by omega)]; exact hV.tp
  · rw [key _ (by omega), if_neg (by omega)]; exact hV.er
  · intro w' a1 a2
    have := hL.resv w' 0 a1 a2 (by omega) (by omega)
    rw [key _ (by omega), if_neg (by omega)]; exact hV.rv w' a1 a2
  · intro w' i a1 a2 a3 a4
    have := hL.resv w' i a1 a2 (by omega) (by omega)
    rw [key _ (by omega), if_neg (by omega)]; exact hV.r1 w' i a1 a2 a3 a4
  · intro n' i' a1 a2 a3 a4
    have := hL.node n' i' a1 a2 a3 a4
    rw [key _ (by omega)]
    simp only [Vw.setNd]
    by_cases hn : n' = n ∧ i' = i
    · rw [if_pos (by rw [hn.1, hn.2]), if_pos hn]
    · rw [if_neg (fun e => hn (by omega)), if_neg hn]; exact hV.nd n' i' a1 a2 a3 a4
end

/-! ### Accesses, one by one -/
theorem turn_load (m : List Int) (c : Int) : turnF m ⟨1, c, 0, 0⟩ = (m, ⟨cellAt m c, true⟩) := by simp [turnF]
theorem turn_store (m : List Int) (c v : Int) : turnF m ⟨2, c, 0, v⟩ = (m.set c.toNat v, ⟨cellAt m c, true⟩) := by simp [turnF]
theorem turn_cas (m : List Int) (c o v : Int) : turnF m ⟨3, c, o, v⟩ = if cellAt m c = o then (m.set c.toNat v, ⟨cellAt m c, true⟩) else (m, ⟨cellAt m c, false⟩) := by simp [turnF]
theorem turn_add (m : List Int) (c : Int) : turnF m ⟨4, c, 0, 1⟩ = (m.set c.toNat (Go.IntKind.i64.wrap (cellAt m c + 1)), ⟨cellAt m c, true⟩) := by simp [turnF]
/-- What a cell of reservations has. -/
def rvAt (S : Nat) (V : Vw) (c : Int) : Int := if (c - (4 + 2 * (S : Int))) % 3 = 0 then V.rv ((c - (4 + 2 * (S : Int))) / 3) else 0
/-- What an access does to what is seen. -/
def actV (S : Nat) (w v0 : Int) (V : Vw) : Pc → Vw × ResT
  | .t1 => (V, ⟨V.fr, true⟩)
  | .t2 f => (V, ⟨V.nd (ofW f).idx 7, true⟩)
  | .t3 f lk => if V.fr = f then ({ V with fr := packW (turnW (ofW f) lk) }, ⟨V.fr, true⟩) else (V, ⟨V.fr, false⟩)
  | .t4 _ => (V, ⟨V.er, true⟩)
  | .t5 n b => (V.setNd n 6 b, ⟨V.nd n 6, true⟩)
  | .p0 n => (V.setNd n 1 v0, ⟨V.nd n 1, true⟩)
  | .p1 _ => (V, ⟨V.tp, true⟩)
  | .p2 n u => (V.setNd n 0 (ofW u).idx, ⟨V.nd n 0, true⟩)
  | .p3 n u => if V.tp = u then ({ V with tp := packW (turnW (ofW u) n) }, ⟨V.tp, true⟩) else (V, ⟨V.tp, false⟩)
  | .g1 => (V, ⟨V.tp, true⟩)
  | .g2 _ _ => (V, ⟨V.er, true⟩)
  | .g3 er => (V.setRv w er, ⟨V.rv w, true⟩)
  | .ce _ => (V.setRv w 0, ⟨V.rv w, true⟩)
  | .d1 u => (V, ⟨V.nd (ofW u).idx 0, true⟩)
  | .d2 u be => if V.tp = u then ({ V with tp := packW (turnW (ofW u) be) }, ⟨V.tp, true⟩) else (V, ⟨V.tp, false⟩)
  | .d3 n _ => (V, ⟨V.nd n 1, true⟩)
  | .c _ _ _ => (V.setRv w 0, ⟨V.rv w, true⟩)
  | .r1 _ _ _ => (V, ⟨V.er, true⟩)
  | .r2 _ _ _ _ => ({ V with er := V.er + 1 }, ⟨V.er, true⟩)
  | .rs _ _ _ c _ => (V, ⟨rvAt S V c, true⟩)
  | .s1 _ _ _ g _ _ => (V, ⟨V.nd g.1 6, true⟩)
  | .v1 .. => (V, ⟨V.fr, true⟩)
  | .v2 _ _ _ g _ _ f => (V.setNd g.1 7 (ofW f).idx, ⟨V.nd g.1 7, true⟩)
  | .v3 _ _ _ g _ _ f => if V.fr = f then ({ V with fr := packW (turnW (ofW f) g.1) }, ⟨V.fr, true⟩) else (V, ⟨V.fr, false⟩)
  | .fin _ => (V, ⟨0, false⟩)
/-- The nodes and cells that are named are there. -/
def OkPc (S N : Nat) : Pc → Prop
  | .t2 f => 1 ≤ (ofW f).idx ∧ (ofW f).idx ≤ N
  | .t5 n _ => 1 ≤ n ∧ n ≤ N
  | .p0 n => 1 ≤ n ∧ n ≤ N
  | .p2 n _ => 1 ≤ n ∧ n ≤ N
  | .d1 u => 1 ≤ (ofW u).idx ∧ (ofW u).idx ≤ N
  | .d3 n _ => 1 ≤ n ∧ n ≤ N
  | .rs _ _ _ c _ => ∃ w i : Int, 0 ≤ w ∧ w < S ∧ 0 ≤ i ∧ i ≤ 2 ∧ c = 4 + 2 * (S : Int) + 3 * w + i
  | .s1 _ _ _ g _ _ => 1 ≤ g.1 ∧ g.1 ≤ N
  | .v2 _ _ _ g _ _ _ => 1 ≤ g.1 ∧ g.1 ≤ N
  | .fin _ => False
  | _ => True
structure Acts (l : LayT) (S N : Nat) (m : List Int) (a : AccT) (V : Vw) (r : ResT) : Prop where
  fault : faultF m.length a = 0
  view : View l S N (turnF m a).1 V
  res : (turnF m a).2 = r
theorem fault_ok {n : Int} {a : AccT} (h0 : 0 ≤ a.cell) (h1 : a.cell < n) (hk : (a.kind = 1 ∧ a.new = 0 ∧ a.old = 0) ∨ (a.kind = 2 ∧ a.old = 0) ∨ a.kind = 3 ∨ (a.kind = 4 ∧ a.old = 0)) : faultF n a = 0 := by
  have hr : rightA a = true := by
    unfold rightA
    rcases hk with ⟨k1, k2, k3⟩ | ⟨k1, k2⟩ | k1 | ⟨k1, k2⟩
    · simp [k1, k2, k3, h0]
    · simp [k1, k2, h0]
    · simp [k1, h0]
    · simp [k1, k2, h0]
  unfold faultF
  rw [if_pos hr, if_neg (by omega)]
theorem acts {l : LayT} {S N : Nat} {m : List Int} {V : Vw} (hL : Lay l S N) (hV : View l S N m V) {w v0 : Int} (w0 : 0 ≤ w) (w1 : w < S) (he : 0 ≤ V.er ∧ V.er ≤ 1000000) {pc : Pc} (ho : OkPc S N pc) : Acts l S N m (asks l w (topF l 0) v0 pc) (actV S w v0 V pc).1 (actV S w v0 V pc).2 := by
  have hb := View.big hL hV
  have hfr := hL.free
  have her := hL.era
  have htp := hL.top
  have hs1 := hL.s1
  have hrw := hL.resv w 0 w0 w1 (by omega) (by omega)
  have ld : ∀ c x : Int, 0 ≤ c → c < m.length → cellAt m c = x → Acts l S N m ⟨1, c, 0, 0⟩ V ⟨x, true⟩ := fun c x h0 h1 h2 => by
    refine ⟨fault_ok h0 h1 (.inl ⟨rfl, rfl, rfl⟩), ?_, ?_⟩
    · rw [turn_load]; exact hV
    · rw [turn_load, h2]
  have st : ∀ (c v x : Int) (V' : Vw), 0 ≤ c → c < m.length → cellAt m c = x → View l S N (m.set c.toNat v) V' → Acts l S N m ⟨2, c, 0, v⟩ V' ⟨x, true⟩ := fun c v x V' h0 h1 h2 h3 => by
    refine ⟨fault_ok h0 h1 (.inr (.inl ⟨rfl, rfl⟩)), ?_, ?_⟩
    · rw [turn_store]; exact h3
    · rw [turn_store, h2]
  have cs : ∀ (c o v x : Int) (V' : Vw), 0 ≤ c → c < m.length → cellAt m c = x → View l S N (m.set c.toNat v) V' → Acts l S N m ⟨3, c, o, v⟩ (if x = o then (V', (⟨x, true⟩ : ResT)) else (V, ⟨x, false⟩)).1 (if x = o then (V', (⟨x, true⟩ : ResT)) else (V, ⟨x, false⟩)).2 := fun c o v x V' h0 h1 h2 h3 => by
    refine ⟨fault_ok h0 h1 (.inr (.inr (.inl rfl))), ?_, ?_⟩
    · rw [turn_cas, h2]
      split
      · exact h3
      · exact hV
    · rw [turn_cas, h2]
      split <;> rfl
  cases pc with
  | t1 => exact ld _ _ (by omega) (by omega) hV.fr
  | t2 f =>
    obtain ⟨o1, o2⟩ := ho
    have := hL.node _ 7 o1 o2 (by omega) (by omega)
    exact ld _ _ (by omega) (by omega) (hV.nd _ 7 o1 o2 (by omega) (by omega))
  | t3 f lk => exact cs _ _ _ _ _ (by omega) (by omega) hV.fr (hV.setFr hL _)
  | t4 n => exact ld _ _ (by omega) (by omega) hV.er
  | t5 n b =>
    obtain ⟨o1, o2⟩ := ho
    have := hL.node _ 6 o1 o2 (by omega) (by omega)
    exact st _ _ _ _ (by omega) (by omega) (hV.nd _ 6 o1 o2 (by omega) (by omega)) (hV.setNd hL o1 o2 (by omega) (by omega) _)
  | p0 n =>
    obtain ⟨o1, o2⟩ := ho
    have := hL.node _ 1 o1 o2 (by omega) (by omega)
    exact st _ _ _ _ (by omega) (by omega) (hV.nd _ 1 o1 o2 (by omega) (by omega)) (hV.setNd hL o1 o2 (by omega) (by omega) _)
  | p1 n => exact ld _ _ (by omega) (by omega) hV.tp
  | p2 n u =>
    obtain ⟨o1, o2⟩ := ho
    have := hL.node _ 0 o1 o2 (by omega) (by omega)
    exact st _ _ _ _ (by omega) (by omega) (hV.nd _ 0 o1 o2 (by omega) (by omega)) (hV.setNd hL o1 o2 (by omega) (by omega) _)
  | p3 n u => exact cs _ _ _ _ _ (by omega) (by omega) hV.tp (hV.setTp hL _)
  | g1 => exact ld _ _ (by omega) (by omega) hV.tp
  | g2 u a => exact ld _ _ (by omega) (by omega) hV.er
  | g3 er => exact st _ _ _ _ (by omega) (by omega) (hV.rv w w0 w1) (hV.setRv hL w0 w1 _)
  | ce a => exact st _ _ _ _ (by omega) (by omega) (hV.rv w w0 w1) (hV.setRv hL w0 w1 _)
  | d1 u =>
    obtain ⟨o1, o2⟩ := ho
    have := hL.node _ 0 o1 o2 (by omega) (by omega)
    exact ld _ _ (by omega) (by omega) (hV.nd _ 0 o1 o2 (by omega) (by omega))
  | d2 u be => exact cs _ _ _ _ _ (by omega) (by omega) hV.tp (hV.setTp hL _)
  | d3 n a =>
    obtain ⟨o1, o2⟩ := ho
    have := hL.node _ 1 o1 o2 (by omega) (by omega)
    exact ld _ _ (by omega) (by omega) (hV.nd _ 1 o1 o2 (by omega) (by omega))
  | c n v a => exact st _ _ _ _ (by omega) (by omega) (hV.rv w w0 w1) (hV.setRv hL w0 w1 _)
  | r1 n v a => exact ld _ _ (by omega) (by omega) hV.er
  | r2 n v a er =>
    refine ⟨fault_ok (by show 0 ≤ l.era; omega) (by show l.era < _; omega) (.inr (.inr (.inr ⟨rfl, rfl⟩))), ?_, ?_⟩
    · simp only [asks]
      rw [turn_add, hV.er, Go.Proofs.Ytpecgpmdchejdaa.wrapI (by omega) (by omega)]
      exact hV.setEr hL _
    · simp only [asks]
      rw [turn_add, hV.er]; rfl
  | rs v a held c cs =>
    obtain ⟨x, i, x0, x1, i0, i1, rfl⟩ := ho
    have h := hL.resv x i x0 x1 i0 i1
    refine ld _ _ (by omega) (by omega) ?_
    rw [← h]
    unfold rvAt
    by_cases hi : i = 0
    · subst hi
      rw [h, if_pos (by omega), show (4 + 2 * (S : Int) + 3 * x + 0 - (4 + 2 * (S : Int))) / 3 = x by omega, ← h]
      exact hV.rv x x0 x1
    · rw [h, if_neg (by omega), ← h]
      exact hV.r1 x i x0 x1 (by omega) i1
  | s1 v a held g gs stay =>
    obtain ⟨o1, o2⟩ := ho
    have := hL.node _ 6 o1 o2 (by omega) (by omega)
    exact ld _ _ (by omega) (by omega) (hV.nd _ 6 o1 o2 (by omega) (by omega))
  | v1 v a held g gs stay => exact ld _ _ (by omega) (by omega) hV.fr
  | v2 v a held g gs stay f =>
    obtain ⟨o1, o2⟩ := ho
    have := hL.node _ 7 o1 o2 (by omega) (by omega)
    exact st _ _ _ _ (by omega) (by omega) (hV.nd _ 7 o1 o2 (by omega) (by omega)) (hV.setNd hL o1 o2 (by omega) (by omega) _)
  | v3 v a held g gs stay f => exact cs _ _ _ _ _ (by omega) (by omega) hV.fr (hV.setFr hL _)
  | fin o => exact absurd ho id
end Go.Proofs.Ytpecgpmdchejdaa
