/- Plain words, layouts, memories and programs of accesses: what they are. -/
namespace Go.Proofs.YtkkldicehapklaaGreat
set_option maxRecDepth 100000
structure RefT where
 idx : Int
 mark : Bool
 cnt : Int
deriving DecidableEq
def ofW (n : Int) : RefT := ⟨n % 65536, decide (n / 65536 % 2 = 1), n / 131072 % 268435456⟩
def jA5 (r : RefT) (i : Int) : RefT := ⟨i % 65536, false, (r.cnt + 1) % 268435456⟩
def vK (r : RefT) : Int := r.idx % 65536 + 65536 * (if r.mark then 1 else 0) + 131072 * (r.cnt % 268435456)
theorem xT (n : Int) : 0 ≤ (ofW n).idx ∧ (ofW n).idx < 65536 := ⟨Int.emod_nonneg _ (by omega), Int.emod_lt_of_pos _ (by omega)⟩
theorem ofW_cnt (n : Int) : 0 ≤ (ofW n).cnt ∧ (ofW n).cnt < 268435456 := ⟨Int.emod_nonneg _ (by omega), Int.emod_lt_of_pos _ (by omega)⟩
structure jN where
 seats : Int
 nodes : Int
 buckets : Int
 slots : Int
 tasks : Int
 cells : Int
 maps : Int
 stacks : Int
 chans : Int
 done : Int
 count : Int
 era : Int
 free : Int
 alive : Int
 owner : Int
 resv : Int
 deque : Int
 ring : Int
 task : Int
 cell : Int
 map : Int
 stack : Int
 chan : Int
 node : Int
 size : Int
deriving DecidableEq
def uP (n : Int) : Prop := 0 ≤ n ∧ n ≤ 1000000
structure qJ (l : jN) : Prop where
 seats : uP l.seats
 nodes : uP l.nodes
 slots : 0 ≤ l.slots ∧ l.slots ≤ 8
 stacks : uP l.stacks
 chans : uP l.chans
 era : uP l.era
 free : uP l.free
 resv : uP l.resv
 map : uP l.map
 stack : uP l.stack
 chan : uP l.chan
 node : uP l.node
 size : uP l.size
def yD (first many each row i : Int) : Int := if row < 0 ∨ many ≤ row ∨ i < 0 ∨ each ≤ i then -1 else first + row * each + i
def jQ (l : jN) (n i : Int) : Int := if n < 1 then -1 else yD l.node l.nodes 8 (n - 1) i
def qV (l : jN) (s i : Int) : Int := yD l.resv l.seats 3 s i
def layF (s n ma st ch : Int) : jN := ⟨s, n, 1, 1, 1, 0, ma, st, ch, 0, 1, 2, 3, 4, 4 + s, 4 + 2 * s, 4 + 5 * s, 4 + 8 * s, 4 + 12 * s, 8 + 12 * s, 8 + 12 * s, 8 + 12 * s + 3 * ma, 8 + 12 * s + 3 * ma + 2 * st, 8 + 12 * s + 3 * ma + 2 * st + 2 * ch, 8 + 12 * s + 3 * ma + 2 * st + 2 * ch + 8 * n⟩
structure ConfOk (s n ma st ch : Int) : Prop where
 hs : 1 ≤ s ∧ s ≤ 8
 hma : 0 ≤ ma ∧ ma ≤ 8
 hst : 0 ≤ st ∧ st ≤ 8
 hch : 0 ≤ ch ∧ ch ≤ 8
 hn : ma + ch ≤ n ∧ n ≤ 1000
/-! ### Accesses -/
structure AccT where
 kind : Int
 cell : Int
 old : Int
 new : Int
deriving DecidableEq
structure jS where
 val : Int
 ok : Bool
deriving DecidableEq
def xZ : AccT := ⟨0, 0, 0, 0⟩
def w64 (n : Int) : Int := if n % 18446744073709551616 < 9223372036854775808 then n % 18446744073709551616 else n % 18446744073709551616 - 18446744073709551616
theorem w64_id {n : Int} (h1 : -9223372036854775808 ≤ n) (h2 : n ≤ 9223372036854775807) : w64 n = n := by
 unfold w64
 split <;> omega
def jN7 (a : AccT) : Bool := decide (0 ≤ a.cell) && (if a.kind = 1 then decide (a.new = 0) && decide (a.old = 0) else if a.kind = 2 ∨ a.kind = 4 ∨ a.kind = 5 then decide (a.old = 0) else decide (a.kind = 3))
def uO (n : Int) (a : AccT) : Int := if jN7 a then (if n ≤ a.cell then 12 else 0) else 1
def zZ (xs : List Int) (i : Int) : Int := xs.getD i.toNat 0
def vL (xs : List Int) (a : AccT) : List Int × jS :=
 if a.kind = 3 then (if zZ xs a.cell = a.old then (xs.set a.cell.toNat a.new, ⟨zZ xs a.cell, true⟩) else (xs, ⟨zZ xs a.cell, false⟩))
 else if a.kind = 2 ∨ a.kind = 5 then (xs.set a.cell.toNat a.new, ⟨zZ xs a.cell, true⟩)
 else if a.kind = 4 then (xs.set a.cell.toNat (w64 (zZ xs a.cell + a.new)), ⟨zZ xs a.cell, true⟩)
 else (xs, ⟨zZ xs a.cell, true⟩)
def kB4 (xs : List Int) (a : AccT) : List Int × jS × Int := if uO xs.length a = 0 then ((vL xs a).1, (vL xs a).2, 0) else (xs, ⟨0, false⟩, uO xs.length a)
def atF (xs : List Int) (i : Int) : Int := if i < 0 ∨ (xs.length : Int) ≤ i then 0 else zZ xs i
def allG (xs0 : List Int) : List Int → List jS → List AccT → List Int × List jS × Int
 | cur, told, [] => (cur, told, 0)
 | cur, told, a :: more => if uO cur.length a = 0 then allG xs0 (vL cur a).1 (told ++ [(vL cur a).2]) more else (xs0, [], uO cur.length a)
theorem jP2 : ∀ (N : Nat) (l : List Int), l.Nodup → (∀ x ∈ l, 1 ≤ x ∧ x ≤ (N : Int)) → l.length ≤ N
 | 0, l, _, h => by
  cases l with
  | nil => simp
  | cons x l => have := h x (by simp); omega
 | N + 1, l, hd, h => by
  by_cases hm : ((N + 1 : Nat) : Int) ∈ l
  ·have h1 := jP2 N (l.erase ((N + 1 : Nat) : Int)) (hd.erase _) (fun x hx => by
    rw [hd.mem_erase_iff] at hx
    have := h x hx.2
    have := hx.1
    omega)
   rw [List.length_erase_of_mem hm] at h1
   omega
  ·have h1 := jP2 N l hd (fun x hx => by
    have := h x hx
    have : x ≠ ((N + 1 : Nat) : Int) := fun e => hm (e ▸ hx)
    omega)
   omega
def xJ (nx : Int → Int) (N : Int) : Nat → List Int → Int → List Int
 | 0, acc, _ => acc
 | k + 1, acc, n => if 1 ≤ n ∧ n ≤ N ∧ n ∉ acc then xJ nx N k (acc ++ [n]) (nx n) else acc
def jX4 (l : jN) (m : List Int) : List Int := xJ (fun n => atF m (jQ l n 7)) l.nodes (l.nodes.toNat + 1) [] (ofW (atF m l.free)).idx
/-! ### Programs of accesses -/
structure PsT where
 made : Nat
 gone : List (Int × Int)
 e0 : Int
 e1 : Int
 e2 : Int
deriving DecidableEq
def PsT.e (s : PsT) (i : Int) : Int := if i = 0 then s.e0 else if i = 1 then s.e1 else s.e2
def PsT.putE (s : PsT) (i v : Int) : PsT := if i = 0 then { s with e0 := v } else if i = 1 then { s with e1 := v } else { s with e2 := v }
structure kY where
 val : Int
 is : Bool
 err : Int
 point : Int
 gone : List (Int × Int)
deriving DecidableEq
structure OpT where
 kind : Int
 obj : Int
 a : Int
 b : Int
deriving DecidableEq
def jG7 : kY := ⟨0, false, 0, 0, []⟩
abbrev Pm (α : Type) := List jS → PsT → Except AccT (α × PsT)
def doM (a : AccT) : Pm jS := fun log s => match log[s.made]? with
 | some r => .ok (r, { s with made := s.made + 1 })
 | none => .error a
def Pm.bind {α β : Type} (m : Pm α) (f : α → Pm β) : Pm β := fun log s => match m log s with
 | .ok (x, s') => f x log s'
 | .error a => .error a
def Pm.pure {α : Type} (x : α) : Pm α := fun _ s => .ok (x, s)
theorem jH {α β : Type} {m : Pm α} {f : α → Pm β} {log : List jS} {s s' : PsT} {x : α} (h : m log s = .ok (x, s')) : m.bind f log s = f x log s' := by unfold Pm.bind; rw [h]
theorem jI {α β : Type} {m : Pm α} {f : α → Pm β} {log : List jS} {s : PsT} {a : AccT} (h : m log s = .error a) : m.bind f log s = .error a := by unfold Pm.bind; rw [h]
theorem jR {α β γ : Type} (m : Pm α) (f : α → Pm β) (k : β → Pm γ) : (m.bind f).bind k = m.bind fun x => (f x).bind k := by
 funext log s
 unfold Pm.bind
 cases m log s with
 | error a => rfl
 | ok q => rfl
def lastM : Pm Int := fun _ s => .ok ((s.made : Int) - 1, s)
theorem yA {log : List jS} {s : PsT} : lastM log s = .ok ((s.made : Int) - 1, s) := rfl
def yM (c : Int) : Pm Int := (doM ⟨1, c, 0, 0⟩).bind fun r => .pure r.val
def yY (c v : Int) : Pm Unit := (doM ⟨2, c, 0, v⟩).bind fun _ => .pure ()
def casM (c o v : Int) : Pm Bool := (doM ⟨3, c, o, v⟩).bind fun r => .pure r.ok
def jP6 (l : jN) : Nat → Pm (Int × Int × Bool)
 | 0 => .pure (0, 0, false)
 | k + 1 => (yM l.free).bind fun free =>
  if (ofW free).idx = 0 then lastM.bind fun at_ => .pure (0, at_, false)
  else (yM (jQ l (ofW free).idx 7)).bind fun link => (casM l.free free (vK (jA5 (ofW free) link))).bind fun ok =>
   if ok then lastM.bind fun at_ => (yM l.era).bind fun birth => (yY (jQ l (ofW free).idx 6) birth).bind fun _ => .pure ((ofW free).idx, at_, true)
   else jP6 l k
def takeM (l : jN) : Pm (Int × Int × Bool) := fun log s => jP6 l (log.length + 1 - s.made) log s
def jQ9 (l : jN) (n : Int) : Nat → Pm Unit
 | 0 => .pure ()
 | k + 1 => (yM l.free).bind fun free => (yY (jQ l n 7) (ofW free).idx).bind fun _ => (casM l.free free (vK (jA5 (ofW free) n))).bind fun ok => if ok then .pure () else jQ9 l n k
def giveM (l : jN) (n : Int) : Pm Unit := fun log s => jQ9 l n (log.length + 1 - s.made) log s
def wF (l : jN) (me i cell : Int) : Nat → Pm (Int × Int)
 | 0 => .pure (0, 0)
 | k + 1 => (yM cell).bind fun v => lastM.bind fun at_ => (yM l.era).bind fun era => fun log s =>
  if era = s.e i then .ok ((v, at_), s) else (yY (qV l me i) era).bind (fun _ log s => wF l me i cell k log (s.putE i era)) log s
def jI6 (l : jN) (me i cell : Int) : Pm (Int × Int) := fun log s => wF l me i cell (log.length + 1 - s.made) log s
def setE (i : Nat) : Pm Unit := fun _ s => .ok ((), match i with | 0 => { s with e0 := 0 } | 1 => { s with e1 := 0 } | _ => { s with e2 := 0 })
def vR (l : jN) (me : Int) (i : Nat) (e : Int) : Pm Unit := if e = 0 then .pure () else (yY (qV l me i) 0).bind fun _ => setE i
def clrL (l : jN) (me : Int) (i : Nat) : List Int → Pm Unit
 | [] => .pure ()
 | e :: es => (vR l me i e).bind fun _ => clrL l me (i + 1) es
def jH0 (l : jN) (me : Int) : Pm Unit := fun log s => clrL l me 0 [s.e0, s.e1, s.e2] log s
def inB (from_ to r : Int) : Bool := decide (from_ ≤ r) && decide (r ≤ to)
def max1 (x : Int) : Int := if 1 > x then 1 else x
def jD0 (l : jN) (j : Nat) : Nat → List Int
 | 0 => []
 | m + 1 => qV l j 0 :: qV l j 1 :: qV l j 2 :: jD0 l (j + 1) m
def xA : List Int → List Int → Pm (List Int)
 | acc, [] => .pure acc
 | acc, c :: cs => (yM c).bind fun v => xA (acc ++ [v]) cs
def uY (l : jN) (held : List Int) : List (Int × Int) → List (Int × Int) → Pm (List (Int × Int))
 | [], stay => .pure stay
 | g :: gs, stay => (yM (jQ l g.1 6)).bind fun b => if held.any (inB (max1 b) g.2) then uY l held gs (stay ++ [g]) else (giveM l g.1).bind fun _ => uY l held gs stay
def xY (g : List (Int × Int)) : Pm Unit := fun _ s => .ok ((), { s with gone := g })
def scanM (l : jN) (gone : List (Int × Int)) : Pm Unit := (xA [] (jD0 l 0 l.seats.toNat)).bind fun held => (uY l held gone []).bind fun stay => xY stay
def wT (l : jN) (n : Int) : Pm Unit := (yM l.era).bind fun era => (doM ⟨4, l.era, 0, 1⟩).bind fun _ => fun log s =>
 if ((s.gone.length : Int) + 1) < 2 * l.seats then .ok ((), { s with gone := s.gone ++ [(n, era)] })
 else scanM l (s.gone ++ [(n, era)]) log { s with gone := s.gone ++ [(n, era)] }
def finM (m : Except AccT (kY × PsT)) : AccT × kY × Bool := match m with
 | .ok (x, s') => (xZ, { x with gone := s'.gone }, true)
 | .error a => (a, jG7, false)
theorem do_nil {α : Type} {a : AccT} {f : jS → Pm α} {log : List jS} {s : PsT} (h : log.drop s.made = []) : (doM a).bind f log s = .error a := by
 have : log[s.made]? = none := by rw [List.drop_eq_nil_iff] at h; exact List.getElem?_eq_none h
 unfold Pm.bind doM; rw [this]
theorem drop_next {log rest : List jS} {n : Nat} {r : jS} (h : log.drop n = r :: rest) : log[n]? = some r ∧ log.drop (n + 1) = rest ∧ n < log.length := by
 have hlt : n < log.length := by
  rcases Nat.lt_or_ge n log.length with h1 | h1
  ·exact h1
  ·rw [List.drop_eq_nil_of_le h1] at h; cases h
 rw [List.drop_eq_getElem_cons hlt] at h
 injection h with h1 h2
 exact ⟨by rw [List.getElem?_eq_getElem hlt, h1], h2, hlt⟩
theorem do_cons {α : Type} {a : AccT} {f : jS → Pm α} {log rest : List jS} {s : PsT} {r : jS} (h : log.drop s.made = r :: rest) : (doM a).bind f log s = f r log { s with made := s.made + 1 } := by
 have := (drop_next h).1
 unfold Pm.bind doM; rw [this]
theorem xW {α : Type} (c : Int) (f : Int → Pm α) : (yM c).bind f = (doM ⟨1, c, 0, 0⟩).bind fun r => f r.val := by unfold yM; rw [jR]; rfl
theorem wN {α : Type} (c v : Int) (f : Unit → Pm α) : (yY c v).bind f = (doM ⟨2, c, 0, v⟩).bind fun _ => f () := by unfold yY; rw [jR]; rfl
theorem jU1 {α : Type} (c o v : Int) (f : Bool → Pm α) : (casM c o v).bind f = (doM ⟨3, c, o, v⟩).bind fun r => f r.ok := by unfold casM; rw [jR]; rfl
structure Ws where
 ob : Int → Int
 nd : Int → Int → Int
structure Vw where
 er : Int
 fr : Int
 rv : Int → Int → Int
 bi : Int → Int
 lk : Int → Int
 W : Ws
inductive Ad where
 | era | free | ob (c : Int) | rv (w i : Int) | nd (n i : Int) | bi (n : Int) | lk (n : Int)
deriving DecidableEq
def Ad.cell (l : jN) : Ad → Int
 | .era => l.era
 | .free => l.free
 | .ob c => c
 | .rv w i => qV l w i
 | .nd n i => jQ l n i
 | .bi n => jQ l n 6
 | .lk n => jQ l n 7
def Ad.ok (l : jN) (S N : Nat) : Ad → Prop
 | .era => True
 | .free => True
 | .ob c => 4 + 5 * (S : Int) ≤ c ∧ c < l.node
 | .rv w i => 0 ≤ w ∧ w < S ∧ 0 ≤ i ∧ i ≤ 2
 | .nd n i => 1 ≤ n ∧ n ≤ N ∧ 0 ≤ i ∧ i ≤ 5
 | .bi n => 1 ≤ n ∧ n ≤ N
 | .lk n => 1 ≤ n ∧ n ≤ N
def Ad.str (l : jN) (S N : Nat) : Ad → Prop
 | .ob c => 4 + 5 * (S : Int) ≤ c ∧ c < l.node
 | .nd n i => 1 ≤ n ∧ n ≤ N ∧ 0 ≤ i ∧ i ≤ 5
 | _ => False
def Ws.setOb (W : Ws) (c v : Int) : Ws := { W with ob := fun c' => if c' = c then v else W.ob c' }
def Ws.setNd (W : Ws) (n i v : Int) : Ws := { W with nd := fun n' i' => if n' = n ∧ i' = i then v else W.nd n' i' }
def Ws.get (W : Ws) : Ad → Int
 | .ob c => W.ob c
 | .nd n i => W.nd n i
 | _ => 0
def Ws.put (W : Ws) (a : Ad) (v : Int) : Ws := match a with
 | .ob c => W.setOb c v
 | .nd n i => W.setNd n i v
 | _ => W
def Vw.get (V : Vw) : Ad → Int
 | .era => V.er
 | .free => V.fr
 | .ob c => V.W.ob c
 | .rv w i => V.rv w i
 | .nd n i => V.W.nd n i
 | .bi n => V.bi n
 | .lk n => V.lk n
def Vw.put (V : Vw) (a : Ad) (v : Int) : Vw := match a with
 | .era => { V with er := v }
 | .free => { V with fr := v }
 | .ob c => { V with W := V.W.setOb c v }
 | .rv w i => { V with rv := fun w' i' => if w' = w ∧ i' = i then v else V.rv w' i' }
 | .nd n i => { V with W := V.W.setNd n i v }
 | .bi n => { V with bi := fun n' => if n' = n then v else V.bi n' }
 | .lk n => { V with lk := fun n' => if n' = n then v else V.lk n' }
theorem Vw.get_put (V : Vw) (a b : Ad) (v : Int) : (V.put a v).get b = if b = a then v else V.get b := by
 cases a <;> cases b <;> simp [Vw.get, Vw.put, Ws.setOb, Ws.setNd]
structure Lay (l : jN) (S N : Nat) : Prop where
 seats : l.seats = S
 nodes : l.nodes = N
 era : l.era = 2
 free : l.free = 3
 resv : ∀ w i : Int, 0 ≤ w → w < S → 0 ≤ i → i ≤ 2 → qV l w i = 4 + 2 * (S : Int) + 3 * w + i
 node : ∀ n i : Int, 1 ≤ n → n ≤ N → 0 ≤ i → i ≤ 7 → jQ l n i = l.node + 8 * (n - 1) + i
 low : 4 + 5 * (S : Int) ≤ l.node
 size : l.size = l.node + 8 * (N : Int)
 s1 : 1 ≤ S
theorem within_in {f k e r i : Int} (h1 : 0 ≤ r) (h2 : r < k) (h3 : 0 ≤ i) (h4 : i < e) : yD f k e r i = f + r * e + i := by
 unfold yD
 rw [if_neg (by omega)]
theorem Ad.cell_in {l : jN} {S N : Nat} (hL : Lay l S N) {a : Ad} (h : a.ok l S N) : 0 ≤ a.cell l ∧ a.cell l < l.size := by
 have h1 := hL.size
 have h2 := hL.low
 have h3 := hL.s1
 cases a with
 | era => simp only [Ad.cell, hL.era]; omega
 | free => simp only [Ad.cell, hL.free]; omega
 | ob c => simp only [Ad.cell, Ad.ok] at h ⊢; omega
 | rv w i => obtain ⟨a1, a2, a3, a4⟩ := h; simp only [Ad.cell, hL.resv w i a1 a2 a3 a4]; omega
 | nd n i => obtain ⟨a1, a2, a3, a4⟩ := h; simp only [Ad.cell, hL.node n i a1 a2 a3 (by omega)]; omega
 | bi n => obtain ⟨a1, a2⟩ := h; simp only [Ad.cell, hL.node n 6 a1 a2 (by omega) (by omega)]; omega
 | lk n => obtain ⟨a1, a2⟩ := h; simp only [Ad.cell, hL.node n 7 a1 a2 (by omega) (by omega)]; omega
def Ad.dec (l : jN) (S : Nat) (c : Int) : Ad :=
 if c = 2 then .era else if c = 3 then .free else if c < 4 + 5 * (S : Int) then .rv ((c - (4 + 2 * (S : Int))) / 3) ((c - (4 + 2 * (S : Int))) % 3) else if c < l.node then .ob c
 else if (c - l.node) % 8 = 6 then .bi ((c - l.node) / 8 + 1) else if (c - l.node) % 8 = 7 then .lk ((c - l.node) / 8 + 1) else .nd ((c - l.node) / 8 + 1) ((c - l.node) % 8)
theorem Ad.dec_cell {l : jN} {S N : Nat} (hL : Lay l S N) {a : Ad} (ha : a.ok l S N) : Ad.dec l S (a.cell l) = a := by
 have h2 := hL.low
 have h5 := hL.s1
 cases a with
 | era => rw [show Ad.cell l .era = 2 from hL.era]; rfl
 | free => rw [show Ad.cell l .free = 3 from hL.free]; rfl
 | ob c =>
  simp only [Ad.ok] at ha
  rw [show Ad.cell l (.ob c) = c from rfl]
  unfold Ad.dec
  rw [if_neg (by omega), if_neg (by omega), if_neg (by omega), if_pos (by omega)]
 | rv w i =>
  obtain ⟨a1, a2, a3, a4⟩ := ha
  rw [show Ad.cell l (.rv w i) = _ from hL.resv w i a1 a2 a3 a4]
  unfold Ad.dec
  rw [if_neg (by omega), if_neg (by omega), if_pos (by omega), show (4 + 2 * (S : Int) + 3 * w + i - (4 + 2 * (S : Int))) / 3 = w by omega, show (4 + 2 * (S : Int) + 3 * w + i - (4 + 2 * (S : Int))) % 3 = i by omega]
 | nd n i =>
  obtain ⟨a1, a2, a3, a4⟩ := ha
  rw [show Ad.cell l (.nd n i) = _ from hL.node n i a1 a2 a3 (by omega)]
  unfold Ad.dec
  rw [if_neg (by omega), if_neg (by omega), if_neg (by omega), if_neg (by omega), if_neg (by omega), if_neg (by omega), show (l.node + 8 * (n - 1) + i - l.node) / 8 + 1 = n by omega, show (l.node + 8 * (n - 1) + i - l.node) % 8 = i by omega]
 | bi n =>
  obtain ⟨a1, a2⟩ := ha
  rw [show Ad.cell l (.bi n) = _ from hL.node n 6 a1 a2 (by omega) (by omega)]
  unfold Ad.dec
  rw [if_neg (by omega), if_neg (by omega), if_neg (by omega), if_neg (by omega), if_pos (by omega), show (l.node + 8 * (n - 1) + 6 - l.node) / 8 + 1 = n by omega]
 | lk n =>
  obtain ⟨a1, a2⟩ := ha
  rw [show Ad.cell l (.lk n) = _ from hL.node n 7 a1 a2 (by omega) (by omega)]
  unfold Ad.dec
  rw [if_neg (by omega), if_neg (by omega), if_neg (by omega), if_neg (by omega), if_neg (by omega), if_pos (by omega), show (l.node + 8 * (n - 1) + 7 - l.node) / 8 + 1 = n by omega]
theorem Ad.cell_inj {l : jN} {S N : Nat} (hL : Lay l S N) {a b : Ad} (ha : a.ok l S N) (hb : b.ok l S N) (h : a.cell l = b.cell l) : a = b := by
 rw [← Ad.dec_cell hL ha, ← Ad.dec_cell hL hb, h]
structure View (l : jN) (S N : Nat) (m : List Int) (V : Vw) : Prop where
 len : m.length = l.size.toNat
 at_ : ∀ a : Ad, a.ok l S N → zZ m (a.cell l) = V.get a
theorem cellAt_set {m : List Int} {c d v : Int} (h0 : 0 ≤ c) (h1 : c < m.length) (hd : 0 ≤ d) : zZ (m.set c.toNat v) d = if d = c then v else zZ m d := by
 unfold zZ
 have hc : c.toNat < m.length := by omega
 by_cases h : d = c
 ·subst h
  rw [if_pos rfl, List.getD_eq_getElem?_getD, List.getElem?_set_self hc]; rfl
 ·rw [if_neg h, List.getD_eq_getElem?_getD, List.getD_eq_getElem?_getD, List.getElem?_set_ne (by omega)]
theorem View.put {l : jN} {S N : Nat} {m : List Int} {V : Vw} (hL : Lay l S N) (hV : View l S N m V) {a : Ad} (ha : a.ok l S N) (v : Int) : View l S N (m.set (a.cell l).toNat v) (V.put a v) := by
 have hin := Ad.cell_in hL ha
 have hlen := hV.len
 refine ⟨by rw [List.length_set]; exact hlen, fun b hb => ?_⟩
 have hinb := Ad.cell_in hL hb
 rw [cellAt_set hin.1 (by omega) hinb.1, Vw.get_put]
 by_cases h : b = a
 ·rw [if_pos (by rw [h]), if_pos h]
 ·rw [if_neg (fun e => h (Ad.cell_inj hL hb ha e)), if_neg h]
  exact hV.at_ b hb
inductive Ak where
 | ld (a : Ad) | st (a : Ad) (v : Int) | cs (a : Ad) (o v : Int) | up
def Ak.acc (l : jN) : Ak → AccT
 | .ld a => ⟨1, a.cell l, 0, 0⟩
 | .st a v => ⟨2, a.cell l, 0, v⟩
 | .cs a o v => ⟨3, a.cell l, o, v⟩
 | .up => ⟨4, l.era, 0, 1⟩
def Ak.ad : Ak → Ad
 | .ld a => a
 | .st a _ => a
 | .cs a _ _ => a
 | .up => .era
def act (V : Vw) : Ak → Vw × jS
 | .ld a => (V, ⟨V.get a, true⟩)
 | .st a v => (V.put a v, ⟨V.get a, true⟩)
 | .cs a o v => if V.get a = o then (V.put a v, ⟨V.get a, true⟩) else (V, ⟨V.get a, false⟩)
 | .up => ({ V with er := V.er + 1 }, ⟨V.er, true⟩)
theorem turn_load (m : List Int) (c : Int) : vL m ⟨1, c, 0, 0⟩ = (m, ⟨zZ m c, true⟩) := by simp [vL]
theorem kI2 (m : List Int) (c v : Int) : vL m ⟨2, c, 0, v⟩ = (m.set c.toNat v, ⟨zZ m c, true⟩) := by simp [vL]
theorem turn_cas (m : List Int) (c o v : Int) : vL m ⟨3, c, o, v⟩ = if zZ m c = o then (m.set c.toNat v, ⟨zZ m c, true⟩) else (m, ⟨zZ m c, false⟩) := by simp [vL]
theorem turn_add (m : List Int) (c : Int) : vL m ⟨4, c, 0, 1⟩ = (m.set c.toNat (w64 (zZ m c + 1)), ⟨zZ m c, true⟩) := by simp [vL]
theorem jP7 {n : Int} {a : AccT} (h0 : 0 ≤ a.cell) (h1 : a.cell < n) (hk : (a.kind = 1 ∧ a.new = 0 ∧ a.old = 0) ∨ (a.kind = 2 ∧ a.old = 0) ∨ a.kind = 3 ∨ (a.kind = 4 ∧ a.old = 0)) : uO n a = 0 := by
 have hr : jN7 a = true := by
  unfold jN7
  rcases hk with ⟨k1, k2, k3⟩ | ⟨k1, k2⟩ | k1 | ⟨k1, k2⟩
  ·simp [k1, k2, k3, h0]
  ·simp [k1, k2, h0]
  ·simp [k1, h0]
  ·simp [k1, k2, h0]
 unfold uO
 rw [if_pos hr, if_neg (by omega)]
structure Acts (l : jN) (S N : Nat) (m : List Int) (a : AccT) (V : Vw) (r : jS) : Prop where
 fault : uO m.length a = 0
 view : View l S N (vL m a).1 V
 res : (vL m a).2 = r
theorem acts {l : jN} {S N : Nat} {m : List Int} {V : Vw} (hL : Lay l S N) (hV : View l S N m V) (he : 0 ≤ V.er ∧ V.er ≤ 1000000) {a : Ak} (ha : a.ad.ok l S N) : Acts l S N m (a.acc l) (act V a).1 (act V a).2 := by
 have hin := Ad.cell_in hL ha
 have hlen := hV.len
 have hat := hV.at_ _ ha
 cases a with
 | ld a =>
  refine ⟨jP7 hin.1 (by simp only [Ak.acc, Ak.ad] at hin ⊢; omega) (.inl ⟨rfl, rfl, rfl⟩), ?_, ?_⟩
  ·simp only [Ak.acc]; rw [turn_load]; exact hV
  ·simp only [Ak.acc]; rw [turn_load]; simp only [Ak.ad] at hat; rw [hat]; rfl
 | st a v =>
  refine ⟨jP7 hin.1 (by simp only [Ak.acc, Ak.ad] at hin ⊢; omega) (.inr (.inl ⟨rfl, rfl⟩)), ?_, ?_⟩
  ·simp only [Ak.acc]; rw [kI2]; exact hV.put hL ha v
  ·simp only [Ak.acc]; rw [kI2]; simp only [Ak.ad] at hat; rw [hat]; rfl
 | cs a o v =>
  simp only [Ak.ad] at hat
  refine ⟨jP7 hin.1 (by simp only [Ak.acc, Ak.ad] at hin ⊢; omega) (.inr (.inr (.inl rfl))), ?_, ?_⟩
  ·simp only [Ak.acc, act]; rw [turn_cas, hat]
   split
   ·exact hV.put hL ha v
   ·exact hV
  ·simp only [Ak.acc, act]; rw [turn_cas, hat]
   split <;> rfl
 | up =>
  have hat : zZ m l.era = V.er := hat
  refine ⟨jP7 hin.1 (by simp only [Ak.acc, Ak.ad, Ad.cell] at hin ⊢; omega) (.inr (.inr (.inr ⟨rfl, rfl⟩))), ?_, ?_⟩
  ·simp only [Ak.acc, act]; rw [turn_add, hat, w64_id (by omega) (by omega)]
   exact hV.put hL (a := .era) trivial _
  ·simp only [Ak.acc, act]; rw [turn_add, hat]
inductive Pc (κ : Type) where
 | at_ (k : κ)
 | t1 (k : κ) | t2 (k : κ) (f : Int) | t3 (k : κ) (f lk : Int) | t4 (k : κ) (n a : Int) | t5 (k : κ) (n a b : Int)
 | g1 (k : κ) (i : Int) (c : Ad) | g2 (k : κ) (i : Int) (c : Ad) (v a : Int) | g3 (k : κ) (i : Int) (c : Ad) (er : Int)
 | clr (k : κ) | c (k : κ) (i : Int)
 | v1 (k : κ) (n : Int) | v2 (k : κ) (n f : Int) | v3 (k : κ) (n f : Int)
 | r1 (k : κ) (n : Int) | r2 (k : κ) (n er : Int)
 | rs (k : κ) (held : List Int) (c : Ad) (cs : List Ad)
 | s1 (k : κ) (held : List Int) (g : Int × Int) (gs stay : List (Int × Int))
 | w1 (k : κ) (held : List Int) (g : Int × Int) (gs stay : List (Int × Int))
 | w2 (k : κ) (held : List Int) (g : Int × Int) (gs stay : List (Int × Int)) (f : Int)
 | w3 (k : κ) (held : List Int) (g : Int × Int) (gs stay : List (Int × Int)) (f : Int)
 | fin (o : kY)
structure Mach (κ : Type) where
 ask : κ → Ak
 tell : κ → Nat → jS → Pc κ
 took : κ → Int → Int → Pc κ
 full : κ → Int → Pc κ
 guarded : κ → Int → Int → Pc κ
 cleared : κ → Pc κ
 gave : κ → Pc κ
 retired : κ → Pc κ
structure Q (κ : Type) where
 pc : Pc κ
 s : PsT
variable {κ : Type}
def asks (M : Mach κ) (w : Int) : Pc κ → Ak
 | .at_ k => M.ask k
 | .t1 _ => .ld .free
 | .t2 _ f => .ld (.lk (ofW f).idx)
 | .t3 _ f lk => .cs .free f (vK (jA5 (ofW f) lk))
 | .t4 _ _ _ => .ld .era
 | .t5 _ n _ b => .st (.bi n) b
 | .g1 _ _ c => .ld c
 | .g2 _ _ _ _ _ => .ld .era
 | .g3 _ i _ er => .st (.rv w i) er
 | .clr _ => .ld .free
 | .c _ i => .st (.rv w i) 0
 | .v1 _ _ => .ld .free
 | .v2 _ n f => .st (.lk n) (ofW f).idx
 | .v3 _ n f => .cs .free f (vK (jA5 (ofW f) n))
 | .r1 _ _ => .ld .era
 | .r2 _ _ _ => .up
 | .rs _ _ c _ => .ld c
 | .s1 _ _ g _ _ => .ld (.bi g.1)
 | .w1 .. => .ld .free
 | .w2 _ _ g _ _ f => .st (.lk g.1) (ofW f).idx
 | .w3 _ _ g _ _ f => .cs .free f (vK (jA5 (ofW f) g.1))
 | .fin _ => .ld .free
def jE5 (M : Mach κ) (k : κ) (s : PsT) : Q κ := if s.e0 ≠ 0 then ⟨.c k 0, s⟩ else if s.e1 ≠ 0 then ⟨.c k 1, s⟩ else if s.e2 ≠ 0 then ⟨.c k 2, s⟩ else ⟨M.cleared k, s⟩
def qS (M : Mach κ) (pc : Pc κ) (s : PsT) : Q κ := match pc with
 | .clr k => jE5 M k s
 | pc => ⟨pc, s⟩
def jS6 (M : Mach κ) (k : κ) (held : List Int) (s : PsT) : List (Int × Int) → List (Int × Int) → Q κ
 | [], stay => qS M (M.retired k) { s with gone := stay }
 | g :: gs, stay => ⟨.s1 k held g gs stay, s⟩
def scanQ (M : Mach κ) (k : κ) (held : List Int) (s : PsT) : List Ad → Q κ
 | [] => jS6 M k held s s.gone []
 | c :: cs => ⟨.rs k held c cs, s⟩
def resvsA (j : Nat) : Nat → List Ad
 | 0 => []
 | m + 1 => .rv j 0 :: .rv j 1 :: .rv j 2 :: resvsA (j + 1) m
def PsT.up (s : PsT) : PsT := { s with made := s.made + 1 }
theorem jD1 (x : PsT) (i v : Int) : (x.putE i v).made = x.made := by
 unfold PsT.putE
 split
 ·rfl
 ·split <;> rfl
def tell (M : Mach κ) (S : Nat) (q : Q κ) (r : jS) : Q κ := match q.pc with
 | .at_ k => qS M (M.tell k q.s.made r) q.s.up
 | .t1 k => if (ofW r.val).idx = 0 then qS M (M.full k q.s.made) q.s.up else ⟨.t2 k r.val, q.s.up⟩
 | .t2 k f => ⟨.t3 k f r.val, q.s.up⟩
 | .t3 k f _ => if r.ok then ⟨.t4 k (ofW f).idx q.s.made, q.s.up⟩ else ⟨.t1 k, q.s.up⟩
 | .t4 k n a => ⟨.t5 k n a r.val, q.s.up⟩
 | .t5 k n a _ => qS M (M.took k n a) q.s.up
 | .g1 k i c => ⟨.g2 k i c r.val q.s.made, q.s.up⟩
 | .g2 k i c v a => if r.val = q.s.e i then qS M (M.guarded k v a) q.s.up else ⟨.g3 k i c r.val, q.s.up⟩
 | .g3 k i c er => ⟨.g1 k i c, q.s.up.putE i er⟩
 | .clr _ => q
 | .c k i => jE5 M k (q.s.up.putE i 0)
 | .v1 k n => ⟨.v2 k n r.val, q.s.up⟩
 | .v2 k n f => ⟨.v3 k n f, q.s.up⟩
 | .v3 k n _ => if r.ok then qS M (M.gave k) q.s.up else ⟨.v1 k n, q.s.up⟩
 | .r1 k n => ⟨.r2 k n r.val, q.s.up⟩
 | .r2 k n er => if (q.s.gone.length : Int) + 1 < 2 * (S : Int) then qS M (M.retired k) { q.s.up with gone := q.s.gone ++ [(n, er)] } else scanQ M k [] { q.s.up with gone := q.s.gone ++ [(n, er)] } (resvsA 0 S)
 | .rs k held _ cs => scanQ M k (held ++ [r.val]) q.s.up cs
 | .s1 k held g gs stay => if held.any (inB (max1 r.val) g.2) then jS6 M k held q.s.up gs (stay ++ [g]) else ⟨.w1 k held g gs stay, q.s.up⟩
 | .w1 k held g gs stay => ⟨.w2 k held g gs stay r.val, q.s.up⟩
 | .w2 k held g gs stay f => ⟨.w3 k held g gs stay f, q.s.up⟩
 | .w3 k held g gs stay _ => if r.ok then jS6 M k held q.s.up gs stay else ⟨.w1 k held g gs stay, q.s.up⟩
 | .fin _ => q
def jK2 (M : Mach κ) (S : Nat) (q : Q κ) (log : List jS) : Q κ := log.foldl (tell M S) q
def endQ (M : Mach κ) (l : jN) (w : Int) (q : Q κ) : AccT × kY × Bool := match q.pc with
 | .fin o => (xZ, { o with gone := q.s.gone }, true)
 | pc => ((asks M w pc).acc l, jG7, false)
def Pc.asking : Pc κ → Prop
 | .fin _ => False
 | .clr _ => False
 | _ => True
/-! ### The programs are these -/
section
variable {M : Mach κ} {l : jN} {S : Nat} {me : Int}
def qT (M : Mach κ) (l : jN) (S : Nat) (me : Int) (q : Q κ) (x : Except AccT (kY × PsT)) (rest : List jS) : Prop := finM x = endQ M l me (jK2 M S q rest)
theorem does_do {q : Q κ} {a : AccT} {f : jS → Pm kY} {log : List jS} {s : PsT} (ha : (asks M me q.pc).acc l = a) (hf : q.pc.asking)
  (h : ∀ r rest, log.drop s.made = r :: rest → qT M l S me (tell M S q r) (f r log s.up) rest) : qT M l S me q ((doM a).bind f log s) (log.drop s.made) := by
 cases hd : log.drop s.made with
 | nil =>
  rw [do_nil hd]
  show (a, jG7, false) = endQ M l me q
  unfold endQ
  split
  ·rename_i o ho; rw [ho] at hf; exact absurd hf id
  ·rw [ha]
 | cons r rest =>
  rw [do_cons hd]
  exact h r rest hd
theorem kI8 {o : kY} {s : PsT} : ∀ rest : List jS, jK2 M S ⟨.fin o, s⟩ rest = ⟨.fin o, s⟩
 | [] => rfl
 | _ :: rest => kI8 rest
theorem does_fin {o : kY} {s : PsT} {rest : List jS} : qT M l S me ⟨.fin o, s⟩ (.ok (o, s)) rest := by
 unfold qT
 rw [kI8]
 rfl
theorem kO {q : Q κ} {a : AccT} {f : jS → Pm kY} {log : List jS} {s : PsT} (ha : (asks M me q.pc).acc l = a) (hf : q.pc.asking)
  (h : ∀ r, s.made < log.length → qT M l S me (tell M S q r) (f r log s.up) (log.drop s.up.made)) : qT M l S me q ((doM a).bind f log s) (log.drop s.made) := by
 refine does_do ha hf fun r rest hd => ?_
 obtain ⟨_, hd2, hd3⟩ := drop_next hd
 subst hd2
 exact h r hd3
theorem kG0 (k : κ) (s : PsT) : qS M (.at_ k) s = ⟨.at_ k, s⟩ := rfl
theorem take_sim {k : κ} {f : Int × Int × Bool → Pm kY} {log : List jS} {M0 : Nat} (hf : ∀ n a s, M0 ≤ s.made → s.made ≤ log.length → qT M l S me (qS M (M.took k n a) s) (f (n, a, true) log s) (log.drop s.made)) (hf2 : ∀ a s, M0 ≤ s.made → s.made ≤ log.length → qT M l S me (qS M (M.full k a) s) (f (0, a, false) log s) (log.drop s.made)) :
  ∀ (j : Nat) (s : PsT), M0 ≤ s.made → log.length - s.made < j → qT M l S me ⟨.t1 k, s⟩ ((jP6 l j).bind f log s) (log.drop s.made)
 | 0, s, _, h => by omega
 | j + 1, s, hM, h => by
  rw [jP6, jR, xW]
  refine kO rfl trivial fun r h1 => ?_
  show qT M l S me (if (ofW r.val).idx = 0 then _ else _) _ _
  split
  ·rw [jR, jH yA]
   have := hf2 (s.made : Int) s.up (by simp only [PsT.up]; omega) (by simp only [PsT.up]; omega)
   show qT M l S me _ (f (0, ((s.made + 1 : Nat) : Int) - 1, false) log _) _
   rw [show ((s.made + 1 : Nat) : Int) - 1 = (s.made : Int) by omega]
   exact this
  ·rw [jR, xW]
   refine kO (s := s.up) rfl trivial fun r2 h2 => ?_
   rw [jR, jU1]
   refine kO (q := ⟨.t3 k r.val r2.val, s.up.up⟩) (s := s.up.up) rfl trivial fun r3 h3 => ?_
   show qT M l S me (if r3.ok then _ else _) _ _
   split
   ·rw [jR, jH yA, jR, xW]
    refine kO (s := s.up.up.up) rfl trivial fun r4 h4 => ?_
    rw [jR, wN]
    refine kO (q := ⟨.t5 k (ofW r.val).idx s.up.up.made r4.val, s.up.up.up.up⟩) (s := s.up.up.up.up) rfl trivial fun r5 h5 => ?_
    have := hf (ofW r.val).idx (s.up.up.made : Int) s.up.up.up.up.up (by simp only [PsT.up]; omega) (by simp only [PsT.up] at h5 ⊢; omega)
    show qT M l S me _ (f ((ofW r.val).idx, ((s.up.up.up.made : Nat) : Int) - 1, true) log _) _
    rw [show ((s.up.up.up.made : Nat) : Int) - 1 = (s.up.up.made : Int) by simp only [PsT.up]; omega]
    exact this
   ·exact take_sim hf hf2 j s.up.up.up (by simp only [PsT.up]; omega) (by simp only [PsT.up] at h3 ⊢; omega)
theorem give_sim {k : κ} {n : Int} {f : Unit → Pm kY} {log : List jS} {M0 : Nat} (hf : ∀ s, M0 ≤ s.made → s.made ≤ log.length → qT M l S me (qS M (M.gave k) s) (f () log s) (log.drop s.made)) :
  ∀ (j : Nat) (s : PsT), M0 ≤ s.made → log.length - s.made < j → qT M l S me ⟨.v1 k n, s⟩ ((jQ9 l n j).bind f log s) (log.drop s.made)
 | 0, s, _, h => by omega
 | j + 1, s, hM, h => by
  rw [jQ9, jR, xW]
  refine kO rfl trivial fun r h1 => ?_
  rw [jR, wN]
  refine kO (q := ⟨.v2 k n r.val, s.up⟩) (s := s.up) rfl trivial fun r2 h2 => ?_
  rw [jR, jU1]
  refine kO (q := ⟨.v3 k n r.val, s.up.up⟩) (s := s.up.up) rfl trivial fun r3 h3 => ?_
  show qT M l S me (if r3.ok then _ else _) _ _
  split
  ·exact hf s.up.up.up (by simp only [PsT.up]; omega) (by simp only [PsT.up] at h3 ⊢; omega)
  ·exact give_sim hf j s.up.up.up (by simp only [PsT.up]; omega) (by simp only [PsT.up] at h3 ⊢; omega)
theorem wgive_sim {k : κ} {held : List Int} {g : Int × Int} {gs stay : List (Int × Int)} {f : Unit → Pm kY} {log : List jS} {M0 : Nat} (hf : ∀ s, M0 ≤ s.made → s.made ≤ log.length → qT M l S me (jS6 M k held s gs stay) (f () log s) (log.drop s.made)) :
  ∀ (j : Nat) (s : PsT), M0 ≤ s.made → log.length - s.made < j → qT M l S me ⟨.w1 k held g gs stay, s⟩ ((jQ9 l g.1 j).bind f log s) (log.drop s.made)
 | 0, s, _, h => by omega
 | j + 1, s, hM, h => by
  rw [jQ9, jR, xW]
  refine kO rfl trivial fun r h1 => ?_
  rw [jR, wN]
  refine kO (q := ⟨.w2 k held g gs stay r.val, s.up⟩) (s := s.up) rfl trivial fun r2 h2 => ?_
  rw [jR, jU1]
  refine kO (q := ⟨.w3 k held g gs stay r.val, s.up.up⟩) (s := s.up.up) rfl trivial fun r3 h3 => ?_
  show qT M l S me (if r3.ok then _ else _) _ _
  split
  ·exact hf s.up.up.up (by simp only [PsT.up]; omega) (by simp only [PsT.up] at h3 ⊢; omega)
  ·exact wgive_sim hf j s.up.up.up (by simp only [PsT.up]; omega) (by simp only [PsT.up] at h3 ⊢; omega)
theorem kJ1 {k : κ} {held : List Int} {f : Unit → Pm kY} {log : List jS} {M0 : Nat} (hf : ∀ s, M0 ≤ s.made → s.made ≤ log.length → qT M l S me (qS M (M.retired k) s) (f () log s) (log.drop s.made)) :
  ∀ (gs stay : List (Int × Int)) (s : PsT), M0 ≤ s.made → s.made ≤ log.length → qT M l S me (jS6 M k held s gs stay) ((uY l held gs stay).bind (fun st => (xY st).bind f) log s) (log.drop s.made)
 | [], stay, s, hM, hs => by
  rw [uY]
  exact hf { s with gone := stay } hM hs
 | g :: gs, stay, s, hM, hs => by
  rw [uY, jR, xW]
  refine kO (q := ⟨.s1 k held g gs stay, s⟩) rfl trivial fun r h1 => ?_
  show qT M l S me (if held.any (inB (max1 r.val) g.2) then _ else _) _ _
  split
  ·exact kJ1 hf gs (stay ++ [g]) s.up (by simp only [PsT.up]; omega) (by simp only [PsT.up]; omega)
  ·rw [jR]
   exact wgive_sim (fun s hM hs => kJ1 hf gs stay s hM hs) (log.length + 1 - s.up.made) s.up (by simp only [PsT.up]; omega) (by simp only [PsT.up]; omega)
theorem jX8 (l : jN) : ∀ (m j : Nat), (resvsA j m).map (Ad.cell l) = jD0 l j m
 | 0, _ => rfl
 | m + 1, j => by simp only [resvsA, jD0, List.map_cons, jX8 l m (j + 1)]; rfl
theorem scan_sim {k : κ} {gone : List (Int × Int)} {f : Unit → Pm kY} {log : List jS} {M0 : Nat} (hf : ∀ s, M0 ≤ s.made → s.made ≤ log.length → qT M l S me (qS M (M.retired k) s) (f () log s) (log.drop s.made)) :
  ∀ (cs : List Ad) (held : List Int) (s : PsT), s.gone = gone → M0 ≤ s.made → s.made ≤ log.length → qT M l S me (scanQ M k held s cs) ((xA held (cs.map (Ad.cell l))).bind (fun held => (uY l held gone []).bind (fun st => (xY st).bind f)) log s) (log.drop s.made)
 | [], held, s, hg, hM, hs => by
  rw [List.map_nil, xA]
  subst hg
  exact kJ1 hf s.gone [] s hM hs
 | c :: cs, held, s, hg, hM, hs => by
  rw [List.map_cons, xA, jR, xW]
  refine kO (q := ⟨.rs k held c cs, s⟩) rfl trivial fun r h1 => ?_
  exact scan_sim hf cs (held ++ [r.val]) s.up hg (by simp only [PsT.up]; omega) (by simp only [PsT.up]; omega)
theorem scan_bind (gone : List (Int × Int)) (f : Unit → Pm kY) : (scanM l gone).bind f = (xA [] (jD0 l 0 l.seats.toNat)).bind (fun held => (uY l held gone []).bind (fun st => (xY st).bind f)) := by
 unfold scanM
 rw [jR]
 congr 1
 funext held
 rw [jR]
theorem kJ6 (hS : l.seats = (S : Int)) {k : κ} {n : Int} {f : Unit → Pm kY} {log : List jS} {M0 : Nat} (hf : ∀ s, M0 ≤ s.made → s.made ≤ log.length → qT M l S me (qS M (M.retired k) s) (f () log s) (log.drop s.made)) (s : PsT) (hM : M0 ≤ s.made) : qT M l S me ⟨.r1 k n, s⟩ ((wT l n).bind f log s) (log.drop s.made) := by
 rw [wT, jR, xW]
 refine kO rfl trivial fun r h1 => ?_
 rw [jR]
 refine kO (q := ⟨.r2 k n r.val, s.up⟩) (s := s.up) rfl trivial fun r2 h2 => ?_
 show qT M l S me (if (s.gone.length : Int) + 1 < 2 * (S : Int) then _ else _) _ _
 unfold Pm.bind
 simp only
 rw [hS]
 by_cases hlt : (s.gone.length : Int) + 1 < 2 * (S : Int)
 ·rw [if_pos hlt, if_pos (show ((s.up.up.gone.length : Int) + 1 < 2 * (S : Int)) from hlt)]
  exact hf { s.up.up with gone := s.gone ++ [(n, r.val)] } (by simp only [PsT.up]; omega) (by simp only [PsT.up] at h2 ⊢; omega)
 ·rw [if_neg hlt, if_neg (show ¬ ((s.up.up.gone.length : Int) + 1 < 2 * (S : Int)) from hlt)]
  have := scan_sim (l := l) (me := me) (M := M) (S := S) (k := k) (gone := s.gone ++ [(n, r.val)]) hf (resvsA 0 S) [] { s.up.up with gone := s.gone ++ [(n, r.val)] } rfl (by simp only [PsT.up]; omega) (by simp only [PsT.up] at h2 ⊢; omega)
  show qT M l S me _ ((scanM l (s.gone ++ [(n, r.val)])).bind f log { s.up.up with gone := s.gone ++ [(n, r.val)] }) _
  rw [scan_bind, hS, Int.toNat_natCast, ← jX8]
  exact this
theorem kB6 {k : κ} {i : Int} {c : Ad} {f : Int × Int → Pm kY} {log : List jS} {M0 : Nat} (hf : ∀ v a s, M0 ≤ s.made → s.made ≤ log.length → qT M l S me (qS M (M.guarded k v a) s) (f (v, a) log s) (log.drop s.made)) :
  ∀ (j : Nat) (s : PsT), M0 ≤ s.made → log.length - s.made < j → qT M l S me ⟨.g1 k i c, s⟩ ((wF l me i (c.cell l) j).bind f log s) (log.drop s.made)
 | 0, s, _, h => by omega
 | j + 1, s, hM, h => by
  rw [wF, jR, xW]
  refine kO rfl trivial fun r h1 => ?_
  rw [jR, jH yA, jR, xW]
  refine kO (q := ⟨.g2 k i c r.val s.made, s.up⟩) (s := s.up) rfl trivial fun r2 h2 => ?_
  have key : ∀ m : Pm kY, m = ((yY (qV l me i) r2.val).bind (fun _ log s => wF l me i (c.cell l) j log (s.putE i r2.val))).bind f → qT M l S me ⟨.g3 k i c r2.val, s.up.up⟩ (m log s.up.up) (log.drop s.up.up.made) := by
   intro m hm
   rw [hm, jR, wN]
   refine kO (s := s.up.up) rfl trivial fun r3 h3 => ?_
   have hpm := jD1
   have := kB6 (k := k) (i := i) (c := c) hf j (s.up.up.up.putE i r2.val) (by rw [hpm]; simp only [PsT.up]; omega) (by rw [hpm]; simp only [PsT.up] at h3 ⊢; omega)
   rw [hpm] at this
   exact this
  show qT M l S me (if r2.val = s.e i then _ else _) _ _
  unfold Pm.bind
  simp only
  by_cases he : r2.val = s.e i
  ·rw [if_pos he, if_pos (show r2.val = s.up.up.e i from he)]
   have := hf r.val (s.made : Int) s.up.up (by simp only [PsT.up]; omega) (by simp only [PsT.up] at h2 ⊢; omega)
   show qT M l S me _ (f (r.val, ((s.made + 1 : Nat) : Int) - 1) log s.up.up) _
   rw [show ((s.made + 1 : Nat) : Int) - 1 = (s.made : Int) by omega]
   exact this
  ·rw [if_neg he, if_neg (show ¬ r2.val = s.up.up.e i from he)]
   exact key _ rfl
theorem clear_sim {k : κ} {f : Unit → Pm kY} {log : List jS} {M0 : Nat} (hf : ∀ s, s.e0 = 0 → s.e1 = 0 → s.e2 = 0 → M0 ≤ s.made → s.made ≤ log.length → qT M l S me ⟨M.cleared k, s⟩ (f () log s) (log.drop s.made)) (s : PsT) (hM : M0 ≤ s.made) (hs : s.made ≤ log.length) : qT M l S me (qS M (.clr k) s) ((jH0 l me).bind f log s) (log.drop s.made) := by
 -- the last reservation
 have h2 : ∀ s : PsT, s.e0 = 0 → s.e1 = 0 → M0 ≤ s.made → s.made ≤ log.length → qT M l S me (jE5 M k s) ((vR l me 2 s.e2).bind f log s) (log.drop s.made) := by
  intro s z0 z1 hM hs
  unfold jE5
  rw [if_neg (by simp [z0]), if_neg (by simp [z1])]
  unfold vR
  by_cases h : s.e2 = 0
  ·rw [if_neg (by simp [h]), if_pos h]
   exact hf s z0 z1 h hM hs
  ·rw [if_pos h, if_neg h, jR, wN]
   refine kO rfl trivial fun r h1 => ?_
   have := hf { s.up with e2 := 0 } z0 z1 rfl (by simp only [PsT.up]; omega) (by simp only [PsT.up]; omega)
   show qT M l S me (jE5 M k { s.up with e2 := 0 }) (f () log { s.up with e2 := 0 }) _
   unfold jE5
   rw [if_neg (by simp [PsT.up, z0]), if_neg (by simp [PsT.up, z1]), if_neg (by simp)]
   exact this
 have h1 : ∀ s : PsT, s.e0 = 0 → M0 ≤ s.made → s.made ≤ log.length → qT M l S me (jE5 M k s) (((vR l me 1 s.e1).bind fun _ => (vR l me 2 s.e2).bind f) log s) (log.drop s.made) := by
  intro s z0 hM hs
  by_cases h : s.e1 = 0
  ·have e : ((vR l me 1 s.e1).bind fun _ => (vR l me 2 s.e2).bind f) log s = ((vR l me 2 s.e2).bind f) log s := by unfold vR; rw [if_pos h]; rfl
   rw [e]
   exact h2 s z0 h hM hs
  ·unfold jE5
   rw [if_neg (by simp [z0]), if_pos h]
   have e : ((vR l me 1 s.e1).bind fun _ => (vR l me 2 s.e2).bind f) = ((yY (qV l me 1) 0).bind fun _ => (setE 1).bind fun _ => (vR l me 2 s.e2).bind f) := by
    have : vR l me 1 s.e1 = (yY (qV l me 1) 0).bind fun _ => setE 1 := by unfold vR; rw [if_neg h]; rfl
    rw [this, jR]
   rw [e, wN]
   refine kO rfl trivial fun r h3 => ?_
   exact h2 { s.up with e1 := 0 } z0 rfl (by simp only [PsT.up]; omega) (by simp only [PsT.up]; omega)
 have e : (jH0 l me).bind f log s = ((vR l me 0 s.e0).bind fun _ => (vR l me 1 s.e1).bind fun _ => (vR l me 2 s.e2).bind f) log s := by
  have e1 : jH0 l me log s = ((vR l me 0 s.e0).bind fun _ => (vR l me 1 s.e1).bind fun _ => (vR l me 2 s.e2).bind fun _ => .pure ()) log s := rfl
  have hb : ∀ m : Pm Unit, jH0 l me log s = m log s → (jH0 l me).bind f log s = m.bind f log s := fun m hm => by unfold Pm.bind; rw [hm]
  rw [hb _ e1, jR]
  congr 1
  congr 1
  funext _
  rw [jR]
  congr 1
  funext _
  rw [jR]
  rfl
 rw [e]
 show qT M l S me (jE5 M k s) _ _
 by_cases h : s.e0 = 0
 ·have e2 : ((vR l me 0 s.e0).bind fun _ => (vR l me 1 s.e1).bind fun _ => (vR l me 2 s.e2).bind f) log s = ((vR l me 1 s.e1).bind fun _ => (vR l me 2 s.e2).bind f) log s := by unfold vR; rw [if_pos h]; rfl
  rw [e2]
  exact h1 s h hM hs
 ·unfold jE5
  rw [if_pos h]
  have e2 : ((vR l me 0 s.e0).bind fun _ => (vR l me 1 s.e1).bind fun _ => (vR l me 2 s.e2).bind f) = ((yY (qV l me 0) 0).bind fun _ => (setE 0).bind fun _ => (vR l me 1 s.e1).bind fun _ => (vR l me 2 s.e2).bind f) := by
   have : vR l me 0 s.e0 = (yY (qV l me 0) 0).bind fun _ => setE 0 := by unfold vR; rw [if_neg h]; rfl
   rw [this, jR]
  rw [e2, wN]
  refine kO rfl trivial fun r h3 => ?_
  exact h1 { s.up with e0 := 0 } rfl (by simp only [PsT.up]; omega) (by simp only [PsT.up]; omega)
end
end Go.Proofs.YtkkldicehapklaaGreat
