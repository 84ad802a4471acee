/- Plain words, layouts, memories and programs of accesses: what they are. -/

namespace Go.Proofs.YtkkldicehapklaaGreat
set_option maxRecDepth 100000

structure RefT where
  idx : Int
  mark : Bool
  cnt : Int
deriving DecidableEq
def ofW (n : Int) : RefT := ⟨n % 65536, decide (n / 65536 % 2 = 1), n / 131072 % 268435456⟩
def turnW (r : RefT) (i : Int) : RefT := ⟨i % 65536, false, (r.cnt + 1) % 268435456⟩
def packW (r : RefT) : Int := r.idx % 65536 + 65536 * (if r.mark then 1 else 0) + 131072 * (r.cnt % 268435456)
theorem ofW_idx (n : Int) : 0 ≤ (ofW n).idx ∧ (ofW n).idx < 65536 := ⟨Int.emod_nonneg _ (by omega), Int.emod_lt_of_pos _ (by omega)⟩
theorem ofW_cnt (n : Int) : 0 ≤ (ofW n).cnt ∧ (ofW n).cnt < 268435456 := ⟨Int.emod_nonneg _ (by omega), Int.emod_lt_of_pos _ (by omega)⟩
structure LayT where
  seats : Int
  nodes : Int
  buckets : Int
  slots : Int
  tasks : Int
  cells : Int
  maps : Int
  stacks : Int
  chans : Int
  done : Int
  count : Int
  era : Int
  free : Int
  alive : Int
  owner : Int
  resv : Int
  deque : Int
  ring : Int
  task : Int
  cell : Int
  map : Int
  stack : Int
  chan : Int
  node : Int
  size : Int
deriving DecidableEq
def smallB (n : Int) : Prop := 0 ≤ n ∧ n ≤ 1000000
structure LayOk (l : LayT) : Prop where
  seats : smallB l.seats
  nodes : smallB l.nodes
  slots : 0 ≤ l.slots ∧ l.slots ≤ 8
  stacks : smallB l.stacks
  chans : smallB l.chans
  era : smallB l.era
  free : smallB l.free
  resv : smallB l.resv
  map : smallB l.map
  stack : smallB l.stack
  chan : smallB l.chan
  node : smallB l.node
  size : smallB l.size
def withinF (first many each row i : Int) : Int := if row < 0 ∨ many ≤ row ∨ i < 0 ∨ each ≤ i then -1 else first + row * each + i
def nodeF (l : LayT) (n i : Int) : Int := if n < 1 then -1 else withinF l.node l.nodes 8 (n - 1) i
def resvF (l : LayT) (s i : Int) : Int := withinF l.resv l.seats 3 s i
structure ConfOk (s n ma st ch : Int) : Prop where
  hs : 1 ≤ s ∧ s ≤ 8
  hma : 0 ≤ ma ∧ ma ≤ 8
  hst : 0 ≤ st ∧ st ≤ 8
  hch : 0 ≤ ch ∧ ch ≤ 8
  hn : ma + ch ≤ n ∧ n ≤ 1000
/-! ### Accesses -/
structure AccT where
  kind : Int
  cell : Int
  old : Int
  new : Int
deriving DecidableEq
structure ResT where
  val : Int
  ok : Bool
deriving DecidableEq
def acc0 : AccT := ⟨0, 0, 0, 0⟩
def w64 (n : Int) : Int := if n % 18446744073709551616 < 9223372036854775808 then n % 18446744073709551616 else n % 18446744073709551616 - 18446744073709551616
def rightA (a : AccT) : Bool := decide (0 ≤ a.cell) && (if a.kind = 1 then decide (a.new = 0) && decide (a.old = 0) else if a.kind = 2 ∨ a.kind = 4 ∨ a.kind = 5 then decide (a.old = 0) else decide (a.kind = 3))
def faultF (n : Int) (a : AccT) : Int := if rightA a then (if n ≤ a.cell then 12 else 0) else 1
def cellAt (xs : List Int) (i : Int) : Int := xs.getD i.toNat 0
def turnF (xs : List Int) (a : AccT) : List Int × ResT :=
  if a.kind = 3 then (if cellAt xs a.cell = a.old then (xs.set a.cell.toNat a.new, ⟨cellAt xs a.cell, true⟩) else (xs, ⟨cellAt xs a.cell, false⟩))
  else if a.kind = 2 ∨ a.kind = 5 then (xs.set a.cell.toNat a.new, ⟨cellAt xs a.cell, true⟩)
  else if a.kind = 4 then (xs.set a.cell.toNat (w64 (cellAt xs a.cell + a.new)), ⟨cellAt xs a.cell, true⟩)
  else (xs, ⟨cellAt xs a.cell, true⟩)
def memDoF (xs : List Int) (a : AccT) : List Int × ResT × Int := if faultF xs.length a = 0 then ((turnF xs a).1, (turnF xs a).2, 0) else (xs, ⟨0, false⟩, faultF xs.length a)
def atF (xs : List Int) (i : Int) : Int := if i < 0 ∨ (xs.length : Int) ≤ i then 0 else cellAt xs i
def allG (xs0 : List Int) : List Int → List ResT → List AccT → List Int × List ResT × Int
  | cur, told, [] => (cur, told, 0)
  | cur, told, a :: more => if faultF cur.length a = 0 then allG xs0 (turnF cur a).1 (told ++ [(turnF cur a).2]) more else (xs0, [], faultF cur.length a)
theorem nodup_le : ∀ (N : Nat) (l : List Int), l.Nodup → (∀ x ∈ l, 1 ≤ x ∧ x ≤ (N : Int)) → l.length ≤ N
  | 0, l, _, h => by
    cases l with
    | nil => simp
    | cons x l => have := h x (by simp); omega
  | N + 1, l, hd, h => by
    by_cases hm : ((N + 1 : Nat) : Int) ∈ l
    · have h1 := nodup_le N (l.erase ((N + 1 : Nat) : Int)) (hd.erase _) (fun x hx => by
        rw [hd.mem_erase_iff] at hx
        have := h x hx.2
        have := hx.1
        omega)
      rw [List.length_erase_of_mem hm] at h1
      omega
    · have h1 := nodup_le N l hd (fun x hx => by
        have := h x hx
        have : x ≠ ((N + 1 : Nat) : Int) := fun e => hm (e ▸ hx)
        omega)
      omega
def chainF (nx : Int → Int) (N : Int) : Nat → List Int → Int → List Int
  | 0, acc, _ => acc
  | k + 1, acc, n => if 1 ≤ n ∧ n ≤ N ∧ n ∉ acc then chainF nx N k (acc ++ [n]) (nx n) else acc
def listF (l : LayT) (m : List Int) : List Int := chainF (fun n => atF m (nodeF l n 7)) l.nodes (l.nodes.toNat + 1) [] (ofW (atF m l.free)).idx

/-! ### Programs of accesses -/
structure PsT where
  made : Nat
  gone : List (Int × Int)
  e0 : Int
  e1 : Int
  e2 : Int
deriving DecidableEq
def PsT.e (s : PsT) (i : Int) : Int := if i = 0 then s.e0 else if i = 1 then s.e1 else s.e2
def PsT.putE (s : PsT) (i v : Int) : PsT := if i = 0 then { s with e0 := v } else if i = 1 then { s with e1 := v } else { s with e2 := v }
structure OutT where
  val : Int
  is : Bool
  err : Int
  point : Int
  gone : List (Int × Int)
deriving DecidableEq
structure OpT where
  kind : Int
  obj : Int
  a : Int
  b : Int
deriving DecidableEq
def out0 : OutT := ⟨0, false, 0, 0, []⟩
abbrev Pm (α : Type) := List ResT → PsT → Except AccT (α × PsT)
def doM (a : AccT) : Pm ResT := fun log s => match log[s.made]? with
  | some r => .ok (r, { s with made := s.made + 1 })
  | none => .error a
def Pm.bind {α β : Type} (m : Pm α) (f : α → Pm β) : Pm β := fun log s => match m log s with
  | .ok (x, s') => f x log s'
  | .error a => .error a
def Pm.pure {α : Type} (x : α) : Pm α := fun _ s => .ok (x, s)
theorem bind_ok {α β : Type} {m : Pm α} {f : α → Pm β} {log : List ResT} {s s' : PsT} {x : α} (h : m log s = .ok (x, s')) : m.bind f log s = f x log s' := by unfold Pm.bind; rw [h]
theorem bind_err {α β : Type} {m : Pm α} {f : α → Pm β} {log : List ResT} {s : PsT} {a : AccT} (h : m log s = .error a) : m.bind f log s = .error a := by unfold Pm.bind; rw [h]
theorem bind_assoc {α β γ : Type} (m : Pm α) (f : α → Pm β) (k : β → Pm γ) : (m.bind f).bind k = m.bind fun x => (f x).bind k := by
  funext log s
  unfold Pm.bind
  cases m log s with
  | error a => rfl
  | ok q => rfl
def lastM : Pm Int := fun _ s => .ok ((s.made : Int) - 1, s)
theorem last_ok {log : List ResT} {s : PsT} : lastM log s = .ok ((s.made : Int) - 1, s) := rfl
def loadM (c : Int) : Pm Int := (doM ⟨1, c, 0, 0⟩).bind fun r => .pure r.val
def storeM (c v : Int) : Pm Unit := (doM ⟨2, c, 0, v⟩).bind fun _ => .pure ()
def casM (c o v : Int) : Pm Bool := (doM ⟨3, c, o, v⟩).bind fun r => .pure r.ok
def takeL (l : LayT) : Nat → Pm (Int × Int × Bool)
  | 0 => .pure (0, 0, false)
  | k + 1 => (loadM l.free).bind fun free =>
    if (ofW free).idx = 0 then lastM.bind fun at_ => .pure (0, at_, false)
    else (loadM (nodeF l (ofW free).idx 7)).bind fun link => (casM l.free free (packW (turnW (ofW free) link))).bind fun ok =>
      if ok then lastM.bind fun at_ => (loadM l.era).bind fun birth => (storeM (nodeF l (ofW free).idx 6) birth).bind fun _ => .pure ((ofW free).idx, at_, true)
      else takeL l k
def takeM (l : LayT) : Pm (Int × Int × Bool) := fun log s => takeL l (log.length + 1 - s.made) log s
def giveL (l : LayT) (n : Int) : Nat → Pm Unit
  | 0 => .pure ()
  | k + 1 => (loadM l.free).bind fun free => (storeM (nodeF l n 7) (ofW free).idx).bind fun _ => (casM l.free free (packW (turnW (ofW free) n))).bind fun ok => if ok then .pure () else giveL l n k
def giveM (l : LayT) (n : Int) : Pm Unit := fun log s => giveL l n (log.length + 1 - s.made) log s
def guardL (l : LayT) (me i cell : Int) : Nat → Pm (Int × Int)
  | 0 => .pure (0, 0)
  | k + 1 => (loadM cell).bind fun v => lastM.bind fun at_ => (loadM l.era).bind fun era => fun log s =>
    if era = s.e i then .ok ((v, at_), s) else (storeM (resvF l me i) era).bind (fun _ log s => guardL l me i cell k log (s.putE i era)) log s
def guardM (l : LayT) (me i cell : Int) : Pm (Int × Int) := fun log s => guardL l me i cell (log.length + 1 - s.made) log s
def setE (i : Nat) : Pm Unit := fun _ s => .ok ((), match i with | 0 => { s with e0 := 0 } | 1 => { s with e1 := 0 } | _ => { s with e2 := 0 })
def clr1 (l : LayT) (me : Int) (i : Nat) (e : Int) : Pm Unit := if e = 0 then .pure () else (storeM (resvF l me i) 0).bind fun _ => setE i
def clrL (l : LayT) (me : Int) (i : Nat) : List Int → Pm Unit
  | [] => .pure ()
  | e :: es => (clr1 l me i e).bind fun _ => clrL l me (i + 1) es
def clearM (l : LayT) (me : Int) : Pm Unit := fun log s => clrL l me 0 [s.e0, s.e1, s.e2] log s
def inB (from_ to r : Int) : Bool := decide (from_ ≤ r) && decide (r ≤ to)
def max1 (x : Int) : Int := if 1 > x then 1 else x
def resvsF (l : LayT) (j : Nat) : Nat → List Int
  | 0 => []
  | m + 1 => resvF l j 0 :: resvF l j 1 :: resvF l j 2 :: resvsF l (j + 1) m
def loadAcc : List Int → List Int → Pm (List Int)
  | acc, [] => .pure acc
  | acc, c :: cs => (loadM c).bind fun v => loadAcc (acc ++ [v]) cs
def siftL (l : LayT) (held : List Int) : List (Int × Int) → List (Int × Int) → Pm (List (Int × Int))
  | [], stay => .pure stay
  | g :: gs, stay => (loadM (nodeF l g.1 6)).bind fun b => if held.any (inB (max1 b) g.2) then siftL l held gs (stay ++ [g]) else (giveM l g.1).bind fun _ => siftL l held gs stay
def setGone (g : List (Int × Int)) : Pm Unit := fun _ s => .ok ((), { s with gone := g })
def scanM (l : LayT) (gone : List (Int × Int)) : Pm Unit := (loadAcc [] (resvsF l 0 l.seats.toNat)).bind fun held => (siftL l held gone []).bind fun stay => setGone stay
def retireM (l : LayT) (n : Int) : Pm Unit := (loadM l.era).bind fun era => (doM ⟨4, l.era, 0, 1⟩).bind fun _ => fun log s =>
  if ((s.gone.length : Int) + 1) < 2 * l.seats then .ok ((), { s with gone := s.gone ++ [(n, era)] })
  else scanM l (s.gone ++ [(n, era)]) log { s with gone := s.gone ++ [(n, era)] }
def finM (m : Except AccT (OutT × PsT)) : AccT × OutT × Bool := match m with
  | .ok (x, s') => (acc0, { x with gone := s'.gone }, true)
  | .error a => (a, out0, false)
theorem do_nil {α : Type} {a : AccT} {f : ResT → Pm α} {log : List ResT} {s : PsT} (h : log.drop s.made = []) : (doM a).bind f log s = .error a := by
  have : log[s.made]? = none := by rw [List.drop_eq_nil_iff] at h; exact List.getElem?_eq_none h
  unfold Pm.bind doM; rw [this]
theorem drop_next {log rest : List ResT} {n : Nat} {r : ResT} (h : log.drop n = r :: rest) : log[n]? = some r ∧ log.drop (n + 1) = rest ∧ n < log.length := by
  have hlt : n < log.length := by
    rcases Nat.lt_or_ge n log.length with h1 | h1
    · exact h1
    · rw [List.drop_eq_nil_of_le h1] at h; cases h
  rw [List.drop_eq_getElem_cons hlt] at h
  injection h with h1 h2
  exact ⟨by rw [List.getElem?_eq_getElem hlt, h1], h2, hlt⟩
theorem do_cons {α : Type} {a : AccT} {f : ResT → Pm α} {log rest : List ResT} {s : PsT} {r : ResT} (h : log.drop s.made = r :: rest) : (doM a).bind f log s = f r log { s with made := s.made + 1 } := by
  have := (drop_next h).1
  unfold Pm.bind doM; rw [this]
theorem load_eq {α : Type} (c : Int) (f : Int → Pm α) : (loadM c).bind f = (doM ⟨1, c, 0, 0⟩).bind fun r => f r.val := by unfold loadM; rw [bind_assoc]; rfl
theorem store_eq {α : Type} (c v : Int) (f : Unit → Pm α) : (storeM c v).bind f = (doM ⟨2, c, 0, v⟩).bind fun _ => f () := by unfold storeM; rw [bind_assoc]; rfl
theorem cas_eq {α : Type} (c o v : Int) (f : Bool → Pm α) : (casM c o v).bind f = (doM ⟨3, c, o, v⟩).bind fun r => f r.ok := by unfold casM; rw [bind_assoc]; rfl
end Go.Proofs.YtkkldicehapklaaGreat
/- Memory as programs of accesses see it: words, reservations, nodes; what each access does there. -/
namespace Go.Proofs.YtkkldicehapklaaGreat
set_option maxRecDepth 100000

structure Ws where
  ob : Int → Int
  nd : Int → Int → Int
structure Vw where
  er : Int
  fr : Int
  rv : Int → Int → Int
  bi : Int → Int
  lk : Int → Int
  W : Ws
inductive Ad where
  | era | free | ob (c : Int) | rv (w i : Int) | nd (n i : Int) | bi (n : Int) | lk (n : Int)
deriving DecidableEq
def Ad.cell (l : LayT) : Ad → Int
  | .era => l.era
  | .free => l.free
  | .ob c => c
  | .rv w i => resvF l w i
  | .nd n i => nodeF l n i
  | .bi n => nodeF l n 6
  | .lk n => nodeF l n 7
def Ad.ok (l : LayT) (S N : Nat) : Ad → Prop
  | .era => True
  | .free => True
  | .ob c => 4 + 5 * (S : Int) ≤ c ∧ c < l.node
  | .rv w i => 0 ≤ w ∧ w < S ∧ 0 ≤ i ∧ i ≤ 2
  | .nd n i => 1 ≤ n ∧ n ≤ N ∧ 0 ≤ i ∧ i ≤ 5
  | .bi n => 1 ≤ n ∧ n ≤ N
  | .lk n => 1 ≤ n ∧ n ≤ N
def Ad.str (l : LayT) (S N : Nat) : Ad → Prop
  | .ob c => 4 + 5 * (S : Int) ≤ c ∧ c < l.node
  | .nd n i => 1 ≤ n ∧ n ≤ N ∧ 0 ≤ i ∧ i ≤ 5
  | _ => False
def Ws.setOb (W : Ws) (c v : Int) : Ws := { W with ob := fun c' => if c' = c then v else W.ob c' }
def Ws.setNd (W : Ws) (n i v : Int) : Ws := { W with nd := fun n' i' => if n' = n ∧ i' = i then v else W.nd n' i' }
def Ws.get (W : Ws) : Ad → Int
  | .ob c => W.ob c
  | .nd n i => W.nd n i
  | _ => 0
def Ws.put (W : Ws) (a : Ad) (v : Int) : Ws := match a with
  | .ob c => W.setOb c v
  | .nd n i => W.setNd n i v
  | _ => W
def Vw.get (V : Vw) : Ad → Int
  | .era => V.er
  | .free => V.fr
  | .ob c => V.W.ob c
  | .rv w i => V.rv w i
  | .nd n i => V.W.nd n i
  | .bi n => V.bi n
  | .lk n => V.lk n
def Vw.put (V : Vw) (a : Ad) (v : Int) : Vw := match a with
  | .era => { V with er := v }
  | .free => { V with fr := v }
  | .ob c => { V with W := V.W.setOb c v }
  | .rv w i => { V with rv := fun w' i' => if w' = w ∧ i' = i then v else V.rv w' i' }
  | .nd n i => { V with W := V.W.setNd n i v }
  | .bi n => { V with bi := fun n' => if n' = n then v else V.bi n' }
  | .lk n => { V with lk := fun n' => if n' = n then v else V.lk n' }
theorem Vw.get_put (V : Vw) (a b : Ad) (v : Int) : (V.put a v).get b = if b = a then v else V.get b := by
  cases a <;> cases b <;> simp [Vw.get, Vw.put, Ws.setOb, Ws.setNd]
structure Lay (l : LayT) (S N : Nat) : Prop where
  seats : l.seats = S
  nodes : l.nodes = N
  era : l.era = 2
  free : l.free = 3
  resv : ∀ w i : Int, 0 ≤ w → w < S → 0 ≤ i → i ≤ 2 → resvF l w i = 4 + 2 * (S : Int) + 3 * w + i
  node : ∀ n i : Int, 1 ≤ n → n ≤ N → 0 ≤ i → i ≤ 7 → nodeF l n i = l.node + 8 * (n - 1) + i
  low : 4 + 5 * (S : Int) ≤ l.node
  size : l.size = l.node + 8 * (N : Int)
  s1 : 1 ≤ S
theorem Ad.cell_in {l : LayT} {S N : Nat} (hL : Lay l S N) {a : Ad} (h : a.ok l S N) : 0 ≤ a.cell l ∧ a.cell l < l.size := by
  have h1 := hL.size
  have h2 := hL.low
  have h3 := hL.s1
  cases a with
  | era => simp only [Ad.cell, hL.era]; omega
  | free => simp only [Ad.cell, hL.free]; omega
  | ob c => simp only [Ad.cell, Ad.ok] at h ⊢; omega
  | rv w i => obtain ⟨a1, a2, a3, a4⟩ := h; simp only [Ad.cell, hL.resv w i a1 a2 a3 a4]; omega
  | nd n i => obtain ⟨a1, a2, a3, a4⟩ := h; simp only [Ad.cell, hL.node n i a1 a2 a3 (by omega)]; omega
  | bi n => obtain ⟨a1, a2⟩ := h; simp only [Ad.cell, hL.node n 6 a1 a2 (by omega) (by omega)]; omega
  | lk n => obtain ⟨a1, a2⟩ := h; simp only [Ad.cell, hL.node n 7 a1 a2 (by omega) (by omega)]; omega
def Ad.dec (l : LayT) (S : Nat) (c : Int) : Ad :=
  if c = 2 then .era else if c = 3 then .free else if c < 4 + 5 * (S : Int) then .rv ((c - (4 + 2 * (S : Int))) / 3) ((c - (4 + 2 * (S : Int))) % 3) else if c < l.node then .ob c
  else if (c - l.node) % 8 = 6 then .bi ((c - l.node) / 8 + 1) else if (c - l.node) % 8 = 7 then .lk ((c - l.node) / 8 + 1) else .nd ((c - l.node) / 8 + 1) ((c - l.node) % 8)
theorem Ad.dec_cell {l : LayT} {S N : Nat} (hL : Lay l S N) {a : Ad} (ha : a.ok l S N) : Ad.dec l S (a.cell l) = a := by
  have h2 := hL.low
  have h5 := hL.s1
  cases a with
  | era => rw [show Ad.cell l .era = 2 from hL.era]; rfl
  | free => rw [show Ad.cell l .free = 3 from hL.free]; rfl
  | ob c =>
    simp only [Ad.ok] at ha
    rw [show Ad.cell l (.ob c) = c from rfl]
    unfold Ad.dec
    rw [if_neg (by omega), if_neg (by omega), if_neg (by omega), if_pos (by omega)]
  | rv w i =>
    obtain ⟨a1, a2, a3, a4⟩ := ha
    rw [show Ad.cell l (.rv w i) = _ from hL.resv w i a1 a2 a3 a4]
    unfold Ad.dec
    rw [if_neg (by omega), if_neg (by omega), if_pos (by omega), show (4 + 2 * (S : Int) + 3 * w + i - (4 + 2 * (S : Int))) / 3 = w by omega, show (4 + 2 * (S : Int) + 3 * w + i - (4 + 2 * (S : Int))) % 3 = i by omega]
  | nd n i =>
    obtain ⟨a1, a2, a3, a4⟩ := ha
    rw [show Ad.cell l (.nd n i) = _ from hL.node n i a1 a2 a3 (by omega)]
    unfold Ad.dec
    rw [if_neg (by omega), if_neg (by omega), if_neg (by omega), if_neg (by omega), if_neg (by omega), if_neg (by omega), show (l.node + 8 * (n - 1) + i - l.node) / 8 + 1 = n by omega, show (l.node + 8 * (n - 1) + i - l.node) % 8 = i by omega]
  | bi n =>
    obtain ⟨a1, a2⟩ := ha
    rw [show Ad.cell l (.bi n) = _ from hL.node n 6 a1 a2 (by omega) (by omega)]
    unfold Ad.dec
    rw [if_neg (by omega), if_neg (by omega), if_neg (by omega), if_neg (by omega), if_pos (by omega), show (l.node + 8 * (n - 1) + 6 - l.node) / 8 + 1 = n by omega]
  | lk n =>
    obtain ⟨a1, a2⟩ := ha
    rw [show Ad.cell l (.lk n) = _ from hL.node n 7 a1 a2 (by omega) (by omega)]
    unfold Ad.dec
    rw [if_neg (by omega), if_neg (by omega), if_neg (by omega), if_neg (by omega), if_neg (by omega), if_pos (by omega), show (l.node + 8 * (n - 1) + 7 - l.node) / 8 + 1 = n by omega]
theorem Ad.cell_inj {l : LayT} {S N : Nat} (hL : Lay l S N) {a b : Ad} (ha : a.ok l S N) (hb : b.ok l S N) (h : a.cell l = b.cell l) : a = b := by
  rw [← Ad.dec_cell hL ha, ← Ad.dec_cell hL hb, h]
structure View (l : LayT) (S N : Nat) (m : List Int) (V : Vw) : Prop where
  len : m.length = l.size.toNat
  at_ : ∀ a : Ad, a.ok l S N → cellAt m (a.cell l) = V.get a
theorem cellAt_set {m : List Int} {c d v : Int} (h0 : 0 ≤ c) (h1 : c < m.length) (hd : 0 ≤ d) : cellAt (m.set c.toNat v) d = if d = c then v else cellAt m d := by
  unfold cellAt
  have hc : c.toNat < m.length := by omega
  by_cases h : d = c
  · subst h
    rw [if_pos rfl, List.getD_eq_getElem?_getD, List.getElem?_set_self hc]; rfl
  · rw [if_neg h, List.getD_eq_getElem?_getD, List.getD_eq_getElem?_getD, List.getElem?_set_ne (by omega)]
theorem View.put {l : LayT} {S N : Nat} {m : List Int} {V : Vw} (hL : Lay l S N) (hV : View l S N m V) {a : Ad} (ha : a.ok l S N) (v : Int) : View l S N (m.set (a.cell l).toNat v) (V.put a v) := by
  have hin := Ad.cell_in hL ha
  have hlen := hV.len
  refine ⟨by rw [List.length_set]; exact hlen, fun b hb => ?_⟩
  have hinb := Ad.cell_in hL hb
  rw [cellAt_set hin.1 (by omega) hinb.1, Vw.get_put]
  by_cases h : b = a
  · rw [if_pos (by rw [h]), if_pos h]
  · rw [if_neg (fun e => h (Ad.cell_inj hL hb ha e)), if_neg h]
    exact hV.at_ b hb
inductive Ak where
  | ld (a : Ad) | st (a : Ad) (v : Int) | cs (a : Ad) (o v : Int) | up
def Ak.acc (l : LayT) : Ak → AccT
  | .ld a => ⟨1, a.cell l, 0, 0⟩
  | .st a v => ⟨2, a.cell l, 0, v⟩
  | .cs a o v => ⟨3, a.cell l, o, v⟩
  | .up => ⟨4, l.era, 0, 1⟩
def Ak.ad : Ak → Ad
  | .ld a => a
  | .st a _ => a
  | .cs a _ _ => a
  | .up => .era
structure Acts (l : LayT) (S N : Nat) (m : List Int) (a : AccT) (V : Vw) (r : ResT) : Prop where
  fault : faultF m.length a = 0
  view : View l S N (turnF m a).1 V
  res : (turnF m a).2 = r
end Go.Proofs.YtkkldicehapklaaGreat
/- Programs of accesses as machines, step by step: taking, giving, guarding, clearing, retiring nodes, whatever comes behind. -/
namespace Go.Proofs.YtkkldicehapklaaGreat
set_option maxRecDepth 100000

inductive Pc (κ : Type) where
  | at_ (k : κ)
  | t1 (k : κ) | t2 (k : κ) (f : Int) | t3 (k : κ) (f lk : Int) | t4 (k : κ) (n a : Int) | t5 (k : κ) (n a b : Int)
  | g1 (k : κ) (i : Int) (c : Ad) | g2 (k : κ) (i : Int) (c : Ad) (v a : Int) | g3 (k : κ) (i : Int) (c : Ad) (er : Int)
  | clr (k : κ) | c (k : κ) (i : Int)
  | v1 (k : κ) (n : Int) | v2 (k : κ) (n f : Int) | v3 (k : κ) (n f : Int)
  | r1 (k : κ) (n : Int) | r2 (k : κ) (n er : Int)
  | rs (k : κ) (held : List Int) (c : Ad) (cs : List Ad)
  | s1 (k : κ) (held : List Int) (g : Int × Int) (gs stay : List (Int × Int))
  | w1 (k : κ) (held : List Int) (g : Int × Int) (gs stay : List (Int × Int))
  | w2 (k : κ) (held : List Int) (g : Int × Int) (gs stay : List (Int × Int)) (f : Int)
  | w3 (k : κ) (held : List Int) (g : Int × Int) (gs stay : List (Int × Int)) (f : Int)
  | fin (o : OutT)
structure Mach (κ : Type) where
  ask : κ → Ak
  tell : κ → Nat → ResT → Pc κ
  took : κ → Int → Int → Pc κ
  full : κ → Int → Pc κ
  guarded : κ → Int → Int → Pc κ
  cleared : κ → Pc κ
  gave : κ → Pc κ
  retired : κ → Pc κ
structure Q (κ : Type) where
  pc : Pc κ
  s : PsT
variable {κ : Type}
def asks (M : Mach κ) (w : Int) : Pc κ → Ak
  | .at_ k => M.ask k
  | .t1 _ => .ld .free
  | .t2 _ f => .ld (.lk (ofW f).idx)
  | .t3 _ f lk => .cs .free f (packW (turnW (ofW f) lk))
  | .t4 _ _ _ => .ld .era
  | .t5 _ n _ b => .st (.bi n) b
  | .g1 _ _ c => .ld c
  | .g2 _ _ _ _ _ => .ld .era
  | .g3 _ i _ er => .st (.rv w i) er
  | .clr _ => .ld .free
  | .c _ i => .st (.rv w i) 0
  | .v1 _ _ => .ld .free
  | .v2 _ n f => .st (.lk n) (ofW f).idx
  | .v3 _ n f => .cs .free f (packW (turnW (ofW f) n))
  | .r1 _ _ => .ld .era
  | .r2 _ _ _ => .up
  | .rs _ _ c _ => .ld c
  | .s1 _ _ g _ _ => .ld (.bi g.1)
  | .w1 .. => .ld .free
  | .w2 _ _ g _ _ f => .st (.lk g.1) (ofW f).idx
  | .w3 _ _ g _ _ f => .cs .free f (packW (turnW (ofW f) g.1))
  | .fin _ => .ld .free
def clrQ (M : Mach κ) (k : κ) (s : PsT) : Q κ := if s.e0 ≠ 0 then ⟨.c k 0, s⟩ else if s.e1 ≠ 0 then ⟨.c k 1, s⟩ else if s.e2 ≠ 0 then ⟨.c k 2, s⟩ else ⟨M.cleared k, s⟩
def norm (M : Mach κ) (pc : Pc κ) (s : PsT) : Q κ := match pc with
  | .clr k => clrQ M k s
  | pc => ⟨pc, s⟩
def siftQ (M : Mach κ) (k : κ) (held : List Int) (s : PsT) : List (Int × Int) → List (Int × Int) → Q κ
  | [], stay => norm M (M.retired k) { s with gone := stay }
  | g :: gs, stay => ⟨.s1 k held g gs stay, s⟩
def scanQ (M : Mach κ) (k : κ) (held : List Int) (s : PsT) : List Ad → Q κ
  | [] => siftQ M k held s s.gone []
  | c :: cs => ⟨.rs k held c cs, s⟩
def resvsA (j : Nat) : Nat → List Ad
  | 0 => []
  | m + 1 => .rv j 0 :: .rv j 1 :: .rv j 2 :: resvsA (j + 1) m
def PsT.up (s : PsT) : PsT := { s with made := s.made + 1 }
theorem putE_made (x : PsT) (i v : Int) : (x.putE i v).made = x.made := by
  unfold PsT.putE
  split
  · rfl
  · split <;> rfl
def tell (M : Mach κ) (S : Nat) (q : Q κ) (r : ResT) : Q κ := match q.pc with
  | .at_ k => norm M (M.tell k q.s.made r) q.s.up
  | .t1 k => if (ofW r.val).idx = 0 then norm M (M.full k q.s.made) q.s.up else ⟨.t2 k r.val, q.s.up⟩
  | .t2 k f => ⟨.t3 k f r.val, q.s.up⟩
  | .t3 k f _ => if r.ok then ⟨.t4 k (ofW f).idx q.s.made, q.s.up⟩ else ⟨.t1 k, q.s.up⟩
  | .t4 k n a => ⟨.t5 k n a r.val, q.s.up⟩
  | .t5 k n a _ => norm M (M.took k n a) q.s.up
  | .g1 k i c => ⟨.g2 k i c r.val q.s.made, q.s.up⟩
  | .g2 k i c v a => if r.val = q.s.e i then norm M (M.guarded k v a) q.s.up else ⟨.g3 k i c r.val, q.s.up⟩
  | .g3 k i c er => ⟨.g1 k i c, q.s.up.putE i er⟩
  | .clr _ => q
  | .c k i => clrQ M k (q.s.up.putE i 0)
  | .v1 k n => ⟨.v2 k n r.val, q.s.up⟩
  | .v2 k n f => ⟨.v3 k n f, q.s.up⟩
  | .v3 k n _ => if r.ok then norm M (M.gave k) q.s.up else ⟨.v1 k n, q.s.up⟩
  | .r1 k n => ⟨.r2 k n r.val, q.s.up⟩
  | .r2 k n er => if (q.s.gone.length : Int) + 1 < 2 * (S : Int) then norm M (M.retired k) { q.s.up with gone := q.s.gone ++ [(n, er)] } else scanQ M k [] { q.s.up with gone := q.s.gone ++ [(n, er)] } (resvsA 0 S)
  | .rs k held _ cs => scanQ M k (held ++ [r.val]) q.s.up cs
  | .s1 k held g gs stay => if held.any (inB (max1 r.val) g.2) then siftQ M k held q.s.up gs (stay ++ [g]) else ⟨.w1 k held g gs stay, q.s.up⟩
  | .w1 k held g gs stay => ⟨.w2 k held g gs stay r.val, q.s.up⟩
  | .w2 k held g gs stay f => ⟨.w3 k held g gs stay f, q.s.up⟩
  | .w3 k held g gs stay _ => if r.ok then siftQ M k held q.s.up gs stay else ⟨.w1 k held g gs stay, q.s.up⟩
  | .fin _ => q
def runQ (M : Mach κ) (S : Nat) (q : Q κ) (log : List ResT) : Q κ := log.foldl (tell M S) q
def endQ (M : Mach κ) (l : LayT) (w : Int) (q : Q κ) : AccT × OutT × Bool := match q.pc with
  | .fin o => (acc0, { o with gone := q.s.gone }, true)
  | pc => ((asks M w pc).acc l, out0, false)
def Pc.asking : Pc κ → Prop
  | .fin _ => False
  | .clr _ => False
  | _ => True

/-! ### The programs are these -/
section
variable {M : Mach κ} {l : LayT} {S : Nat} {me : Int}
def Does (M : Mach κ) (l : LayT) (S : Nat) (me : Int) (q : Q κ) (x : Except AccT (OutT × PsT)) (rest : List ResT) : Prop := finM x = endQ M l me (runQ M S q rest)
theorem does_do {q : Q κ} {a : AccT} {f : ResT → Pm OutT} {log : List ResT} {s : PsT} (ha : (asks M me q.pc).acc l = a) (hf : q.pc.asking)
    (h : ∀ r rest, log.drop s.made = r :: rest → Does M l S me (tell M S q r) (f r log s.up) rest) : Does M l S me q ((doM a).bind f log s) (log.drop s.made) := by
  cases hd : log.drop s.made with
  | nil =>
    rw [do_nil hd]
    show (a, out0, false) = endQ M l me q
    unfold endQ
    split
    · rename_i o ho; rw [ho] at hf; exact absurd hf id
    · rw [ha]
  | cons r rest =>
    rw [do_cons hd]
    exact h r rest hd
theorem runQ_fin {o : OutT} {s : PsT} : ∀ rest : List ResT, runQ M S ⟨.fin o, s⟩ rest = ⟨.fin o, s⟩
  | [] => rfl
  | _ :: rest => runQ_fin rest
theorem does_fin {o : OutT} {s : PsT} {rest : List ResT} : Does M l S me ⟨.fin o, s⟩ (.ok (o, s)) rest := by
  unfold Does
  rw [runQ_fin]
  rfl
theorem does_step {q : Q κ} {a : AccT} {f : ResT → Pm OutT} {log : List ResT} {s : PsT} (ha : (asks M me q.pc).acc l = a) (hf : q.pc.asking)
    (h : ∀ r, s.made < log.length → Does M l S me (tell M S q r) (f r log s.up) (log.drop s.up.made)) : Does M l S me q ((doM a).bind f log s) (log.drop s.made) := by
  refine does_do ha hf fun r rest hd => ?_
  obtain ⟨_, hd2, hd3⟩ := drop_next hd
  subst hd2
  exact h r hd3
theorem take_sim {k : κ} {f : Int × Int × Bool → Pm OutT} {log : List ResT} {M0 : Nat} (hf : ∀ n a s, M0 ≤ s.made → s.made ≤ log.length → Does M l S me (norm M (M.took k n a) s) (f (n, a, true) log s) (log.drop s.made)) (hf2 : ∀ a s, M0 ≤ s.made → s.made ≤ log.length → Does M l S me (norm M (M.full k a) s) (f (0, a, false) log s) (log.drop s.made)) :
    ∀ (j : Nat) (s : PsT), M0 ≤ s.made → log.length - s.made < j → Does M l S me ⟨.t1 k, s⟩ ((takeL l j).bind f log s) (log.drop s.made)
  | 0, s, _, h => by omega
  | j + 1, s, hM, h => by
    rw [takeL, bind_assoc, load_eq]
    refine does_step rfl trivial fun r h1 => ?_
    show Does M l S me (if (ofW r.val).idx = 0 then _ else _) _ _
    split
    · rw [bind_assoc, bind_ok last_ok]
      have := hf2 (s.made : Int) s.up (by simp only [PsT.up]; omega) (by simp only [PsT.up]; omega)
      show Does M l S me _ (f (0, ((s.made + 1 : Nat) : Int) - 1, false) log _) _
      rw [show ((s.made + 1 : Nat) : Int) - 1 = (s.made : Int) by omega]
      exact this
    · rw [bind_assoc, load_eq]
      refine does_step (s := s.up) rfl trivial fun r2 h2 => ?_
      rw [bind_assoc, cas_eq]
      refine does_step (q := ⟨.t3 k r.val r2.val, s.up.up⟩) (s := s.up.up) rfl trivial fun r3 h3 => ?_
      show Does M l S me (if r3.ok then _ else _) _ _
      split
      · rw [bind_assoc, bind_ok last_ok, bind_assoc, load_eq]
        refine does_step (s := s.up.up.up) rfl trivial fun r4 h4 => ?_
        rw [bind_assoc, store_eq]
        refine does_step (q := ⟨.t5 k (ofW r.val).idx s.up.up.made r4.val, s.up.up.up.up⟩) (s := s.up.up.up.up) rfl trivial fun r5 h5 => ?_
        have := hf (ofW r.val).idx (s.up.up.made : Int) s.up.up.up.up.up (by simp only [PsT.up]; omega) (by simp only [PsT.up] at h5 ⊢; omega)
        show Does M l S me _ (f ((ofW r.val).idx, ((s.up.up.up.made : Nat) : Int) - 1, true) log _) _
        rw [show ((s.up.up.up.made : Nat) : Int) - 1 = (s.up.up.made : Int) by simp only [PsT.up]; omega]
        exact this
      · exact take_sim hf hf2 j s.up.up.up (by simp only [PsT.up]; omega) (by simp only [PsT.up] at h3 ⊢; omega)
theorem give_sim {k : κ} {n : Int} {f : Unit → Pm OutT} {log : List ResT} {M0 : Nat} (hf : ∀ s, M0 ≤ s.made → s.made ≤ log.length → Does M l S me (norm M (M.gave k) s) (f () log s) (log.drop s.made)) :
    ∀ (j : Nat) (s : PsT), M0 ≤ s.made → log.length - s.made < j → Does M l S me ⟨.v1 k n, s⟩ ((giveL l n j).bind f log s) (log.drop s.made)
  | 0, s, _, h => by omega
  | j + 1, s, hM, h => by
    rw [giveL, bind_assoc, load_eq]
    refine does_step rfl trivial fun r h1 => ?_
    rw [bind_assoc, store_eq]
    refine does_step (q := ⟨.v2 k n r.val, s.up⟩) (s := s.up) rfl trivial fun r2 h2 => ?_
    rw [bind_assoc, cas_eq]
    refine does_step (q := ⟨.v3 k n r.val, s.up.up⟩) (s := s.up.up) rfl trivial fun r3 h3 => ?_
    show Does M l S me (if r3.ok then _ else _) _ _
    split
    · exact hf s.up.up.up (by simp only [PsT.up]; omega) (by simp only [PsT.up] at h3 ⊢; omega)
    · exact give_sim hf j s.up.up.up (by simp only [PsT.up]; omega) (by simp only [PsT.up] at h3 ⊢; omega)
theorem wgive_sim {k : κ} {held : List Int} {g : Int × Int} {gs stay : List (Int × Int)} {f : Unit → Pm OutT} {log : List ResT} {M0 : Nat} (hf : ∀ s, M0 ≤ s.made → s.made ≤ log.length → Does M l S me (siftQ M k held s gs stay) (f () log s) (log.drop s.made)) :
    ∀ (j : Nat) (s : PsT), M0 ≤ s.made → log.length - s.made < j → Does M l S me ⟨.w1 k held g gs stay, s⟩ ((giveL l g.1 j).bind f log s) (log.drop s.made)
  | 0, s, _, h => by omega
  | j + 1, s, hM, h => by
    rw [giveL, bind_assoc, load_eq]
    refine does_step rfl trivial fun r h1 => ?_
    rw [bind_assoc, store_eq]
    refine does_step (q := ⟨.w2 k held g gs stay r.val, s.up⟩) (s := s.up) rfl trivial fun r2 h2 => ?_
    rw [bind_assoc, cas_eq]
    refine does_step (q := ⟨.w3 k held g gs stay r.val, s.up.up⟩) (s := s.up.up) rfl trivial fun r3 h3 => ?_
    show Does M l S me (if r3.ok then _ else _) _ _
    split
    · exact hf s.up.up.up (by simp only [PsT.up]; omega) (by simp only [PsT.up] at h3 ⊢; omega)
    · exact wgive_sim hf j s.up.up.up (by simp only [PsT.up]; omega) (by simp only [PsT.up] at h3 ⊢; omega)
theorem sift_sim {k : κ} {held : List Int} {f : Unit → Pm OutT} {log : List ResT} {M0 : Nat} (hf : ∀ s, M0 ≤ s.made → s.made ≤ log.length → Does M l S me (norm M (M.retired k) s) (f () log s) (log.drop s.made)) :
    ∀ (gs stay : List (Int × Int)) (s : PsT), M0 ≤ s.made → s.made ≤ log.length → Does M l S me (siftQ M k held s gs stay) ((siftL l held gs stay).bind (fun st => (setGone st).bind f) log s) (log.drop s.made)
  | [], stay, s, hM, hs => by
    rw [siftL]
    exact hf { s with gone := stay } hM hs
  | g :: gs, stay, s, hM, hs => by
    rw [siftL, bind_assoc, load_eq]
    refine does_step (q := ⟨.s1 k held g gs stay, s⟩) rfl trivial fun r h1 => ?_
    show Does M l S me (if held.any (inB (max1 r.val) g.2) then _ else _) _ _
    split
    · exact sift_sim hf gs (stay ++ [g]) s.up (by simp only [PsT.up]; omega) (by simp only [PsT.up]; omega)
    · rw [bind_assoc]
      exact wgive_sim (fun s hM hs => sift_sim hf gs stay s hM hs) (log.length + 1 - s.up.made) s.up (by simp only [PsT.up]; omega) (by simp only [PsT.up]; omega)
theorem resvsA_cells (l : LayT) : ∀ (m j : Nat), (resvsA j m).map (Ad.cell l) = resvsF l j m
  | 0, _ => rfl
  | m + 1, j => by simp only [resvsA, resvsF, List.map_cons, resvsA_cells l m (j + 1)]; rfl
theorem scan_sim {k : κ} {gone : List (Int × Int)} {f : Unit → Pm OutT} {log : List ResT} {M0 : Nat} (hf : ∀ s, M0 ≤ s.made → s.made ≤ log.length → Does M l S me (norm M (M.retired k) s) (f () log s) (log.drop s.made)) :
    ∀ (cs : List Ad) (held : List Int) (s : PsT), s.gone = gone → M0 ≤ s.made → s.made ≤ log.length → Does M l S me (scanQ M k held s cs) ((loadAcc held (cs.map (Ad.cell l))).bind (fun held => (siftL l held gone []).bind (fun st => (setGone st).bind f)) log s) (log.drop s.made)
  | [], held, s, hg, hM, hs => by
    rw [List.map_nil, loadAcc]
    subst hg
    exact sift_sim hf s.gone [] s hM hs
  | c :: cs, held, s, hg, hM, hs => by
    rw [List.map_cons, loadAcc, bind_assoc, load_eq]
    refine does_step (q := ⟨.rs k held c cs, s⟩) rfl trivial fun r h1 => ?_
    exact scan_sim hf cs (held ++ [r.val]) s.up hg (by simp only [PsT.up]; omega) (by simp only [PsT.up]; omega)
theorem scan_bind (gone : List (Int × Int)) (f : Unit → Pm OutT) : (scanM l gone).bind f = (loadAcc [] (resvsF l 0 l.seats.toNat)).bind (fun held => (siftL l held gone []).bind (fun st => (setGone st).bind f)) := by
  unfold scanM
  rw [bind_assoc]
  congr 1
  funext held
  rw [bind_assoc]
theorem retire_sim (hS : l.seats = (S : Int)) {k : κ} {n : Int} {f : Unit → Pm OutT} {log : List ResT} {M0 : Nat} (hf : ∀ s, M0 ≤ s.made → s.made ≤ log.length → Does M l S me (norm M (M.retired k) s) (f () log s) (log.drop s.made)) (s : PsT) (hM : M0 ≤ s.made) : Does M l S me ⟨.r1 k n, s⟩ ((retireM l n).bind f log s) (log.drop s.made) := by
  rw [retireM, bind_assoc, load_eq]
  refine does_step rfl trivial fun r h1 => ?_
  rw [bind_assoc]
  refine does_step (q := ⟨.r2 k n r.val, s.up⟩) (s := s.up) rfl trivial fun r2 h2 => ?_
  show Does M l S me (if (s.gone.length : Int) + 1 < 2 * (S : Int) then _ else _) _ _
  unfold Pm.bind
  simp only
  rw [hS]
  by_cases hlt : (s.gone.length : Int) + 1 < 2 * (S : Int)
  · rw [if_pos hlt, if_pos (show ((s.up.up.gone.length : Int) + 1 < 2 * (S : Int)) from hlt)]
    exact hf { s.up.up with gone := s.gone ++ [(n, r.val)] } (by simp only [PsT.up]; omega) (by simp only [PsT.up] at h2 ⊢; omega)
  · rw [if_neg hlt, if_neg (show ¬ ((s.up.up.gone.length : Int) + 1 < 2 * (S : Int)) from hlt)]
    have := scan_sim (l := l) (me := me) (M := M) (S := S) (k := k) (gone := s.gone ++ [(n, r.val)]) hf (resvsA 0 S) [] { s.up.up with gone := s.gone ++ [(n, r.val)] } rfl (by simp only [PsT.up]; omega) (by simp only [PsT.up] at h2 ⊢; omega)
    show Does M l S me _ ((scanM l (s.gone ++ [(n, r.val)])).bind f log { s.up.up with gone := s.gone ++ [(n, r.val)] }) _
    rw [scan_bind, hS, Int.toNat_natCast, ← resvsA_cells]
    exact this
theorem guard_sim {k : κ} {i : Int} {c : Ad} {f : Int × Int → Pm OutT} {log : List ResT} {M0 : Nat} (hf : ∀ v a s, M0 ≤ s.made → s.made ≤ log.length → Does M l S me (norm M (M.guarded k v a) s) (f (v, a) log s) (log.drop s.made)) :
    ∀ (j : Nat) (s : PsT), M0 ≤ s.made → log.length - s.made < j → Does M l S me ⟨.g1 k i c, s⟩ ((guardL l me i (c.cell l) j).bind f log s) (log.drop s.made)
  | 0, s, _, h => by omega
  | j + 1, s, hM, h => by
    rw [guardL, bind_assoc, load_eq]
    refine does_step rfl trivial fun r h1 => ?_
    rw [bind_assoc, bind_ok last_ok, bind_assoc, load_eq]
    refine does_step (q := ⟨.g2 k i c r.val s.made, s.up⟩) (s := s.up) rfl trivial fun r2 h2 => ?_
    have key : ∀ m : Pm OutT, m = ((storeM (resvF l me i) r2.val).bind (fun _ log s => guardL l me i (c.cell l) j log (s.putE i r2.val))).bind f → Does M l S me ⟨.g3 k i c r2.val, s.up.up⟩ (m log s.up.up) (log.drop s.up.up.made) := by
      intro m hm
      rw [hm, bind_assoc, store_eq]
      refine does_step (s := s.up.up) rfl trivial fun r3 h3 => ?_
      have hpm := putE_made
      have := guard_sim (k := k) (i := i) (c := c) hf j (s.up.up.up.putE i r2.val) (by rw [hpm]; simp only [PsT.up]; omega) (by rw [hpm]; simp only [PsT.up] at h3 ⊢; omega)
      rw [hpm] at this
      exact this
    show Does M l S me (if r2.val = s.e i then _ else _) _ _
    unfold Pm.bind
    simp only
    by_cases he : r2.val = s.e i
    · rw [if_pos he, if_pos (show r2.val = s.up.up.e i from he)]
      have := hf r.val (s.made : Int) s.up.up (by simp only [PsT.up]; omega) (by simp only [PsT.up] at h2 ⊢; omega)
      show Does M l S me _ (f (r.val, ((s.made + 1 : Nat) : Int) - 1) log s.up.up) _
      rw [show ((s.made + 1 : Nat) : Int) - 1 = (s.made : Int) by omega]
      exact this
    · rw [if_neg he, if_neg (show ¬ r2.val = s.up.up.e i from he)]
      exact key _ rfl
theorem clear_sim {k : κ} {f : Unit → Pm OutT} {log : List ResT} {M0 : Nat} (hf : ∀ s, s.e0 = 0 → s.e1 = 0 → s.e2 = 0 → M0 ≤ s.made → s.made ≤ log.length → Does M l S me ⟨M.cleared k, s⟩ (f () log s) (log.drop s.made)) (s : PsT) (hM : M0 ≤ s.made) (hs : s.made ≤ log.length) : Does M l S me (norm M (.clr k) s) ((clearM l me).bind f log s) (log.drop s.made) := by
  -- the last reservation
  have h2 : ∀ s : PsT, s.e0 = 0 → s.e1 = 0 → M0 ≤ s.made → s.made ≤ log.length → Does M l S me (clrQ M k s) ((clr1 l me 2 s.e2).bind f log s) (log.drop s.made) := by
    intro s z0 z1 hM hs
    unfold clrQ
    rw [if_neg (by simp [z0]), if_neg (by simp [z1])]
    unfold clr1
    by_cases h : s.e2 = 0
    · rw [if_neg (by simp [h]), if_pos h]
      exact hf s z0 z1 h hM hs
    · rw [if_pos h, if_neg h, bind_assoc, store_eq]
      refine does_step rfl trivial fun r h1 => ?_
      have := hf { s.up with e2 := 0 } z0 z1 rfl (by simp only [PsT.up]; omega) (by simp only [PsT.up]; omega)
      show Does M l S me (clrQ M k { s.up with e2 := 0 }) (f () log { s.up with e2 := 0 }) _
      unfold clrQ
      rw [if_neg (by simp [PsT.up, z0]), if_neg (by simp [PsT.up, z1]), if_neg (by simp)]
      exact this
  have h1 : ∀ s : PsT, s.e0 = 0 → M0 ≤ s.made → s.made ≤ log.length → Does M l S me (clrQ M k s) (((clr1 l me 1 s.e1).bind fun _ => (clr1 l me 2 s.e2).bind f) log s) (log.drop s.made) := by
    intro s z0 hM hs
    by_cases h : s.e1 = 0
    · have e : ((clr1 l me 1 s.e1).bind fun _ => (clr1 l me 2 s.e2).bind f) log s = ((clr1 l me 2 s.e2).bind f) log s := by unfold clr1; rw [if_pos h]; rfl
      rw [e]
      exact h2 s z0 h hM hs
    · unfold clrQ
      rw [if_neg (by simp [z0]), if_pos h]
      have e : ((clr1 l me 1 s.e1).bind fun _ => (clr1 l me 2 s.e2).bind f) = ((storeM (resvF l me 1) 0).bind fun _ => (setE 1).bind fun _ => (clr1 l me 2 s.e2).bind f) := by
        have : clr1 l me 1 s.e1 = (storeM (resvF l me 1) 0).bind fun _ => setE 1 := by unfold clr1; rw [if_neg h]; rfl
        rw [this, bind_assoc]
      rw [e, store_eq]
      refine does_step rfl trivial fun r h3 => ?_
      exact h2 { s.up with e1 := 0 } z0 rfl (by simp only [PsT.up]; omega) (by simp only [PsT.up]; omega)
  have e : (clearM l me).bind f log s = ((clr1 l me 0 s.e0).bind fun _ => (clr1 l me 1 s.e1).bind fun _ => (clr1 l me 2 s.e2).bind f) log s := by
    have e1 : clearM l me log s = ((clr1 l me 0 s.e0).bind fun _ => (clr1 l me 1 s.e1).bind fun _ => (clr1 l me 2 s.e2).bind fun _ => .pure ()) log s := rfl
    have hb : ∀ m : Pm Unit, clearM l me log s = m log s → (clearM l me).bind f log s = m.bind f log s := fun m hm => by unfold Pm.bind; rw [hm]
    rw [hb _ e1, bind_assoc]
    congr 1
    congr 1
    funext _
    rw [bind_assoc]
    congr 1
    funext _
    rw [bind_assoc]
    rfl
  rw [e]
  show Does M l S me (clrQ M k s) _ _
  by_cases h : s.e0 = 0
  · have e2 : ((clr1 l me 0 s.e0).bind fun _ => (clr1 l me 1 s.e1).bind fun _ => (clr1 l me 2 s.e2).bind f) log s = ((clr1 l me 1 s.e1).bind fun _ => (clr1 l me 2 s.e2).bind f) log s := by unfold clr1; rw [if_pos h]; rfl
    rw [e2]
    exact h1 s h hM hs
  · unfold clrQ
    rw [if_pos h]
    have e2 : ((clr1 l me 0 s.e0).bind fun _ => (clr1 l me 1 s.e1).bind fun _ => (clr1 l me 2 s.e2).bind f) = ((storeM (resvF l me 0) 0).bind fun _ => (setE 0).bind fun _ => (clr1 l me 1 s.e1).bind fun _ => (clr1 l me 2 s.e2).bind f) := by
      have : clr1 l me 0 s.e0 = (storeM (resvF l me 0) 0).bind fun _ => setE 0 := by unfold clr1; rw [if_neg h]; rfl
      rw [this, bind_assoc]
    rw [e2, store_eq]
    refine does_step rfl trivial fun r h3 => ?_
    exact h1 { s.up with e0 := 0 } rfl (by simp only [PsT.up]; omega) (by simp only [PsT.up]; omega)
end
end Go.Proofs.YtkkldicehapklaaGreat
/- What holds of memory and programs at every step, whatever structures there are: what it is. -/
namespace Go.Proofs.YtkkldicehapklaaGreat
set_option maxRecDepth 100000

structure Seen (N : Nat) (f cur : Int) : Prop where
  nn : 0 ≤ f
  form : f = 131072 * (f / 131072) + (ofW f).idx
  le : (ofW f).idx ≤ N
  old : f / 131072 ≤ cur / 131072
  same : f / 131072 = cur / 131072 → f = cur
theorem Seen.up {N : Nat} {f cur cur' : Int} (h : Seen N f cur) (hc : cur' / 131072 = cur / 131072 + 1) : Seen N f cur' :=
  ⟨h.nn, h.form, h.le, by have := h.old; omega, fun e => by have := h.old; omega⟩
theorem Seen.ne {N : Nat} {f cur cur' : Int} (h : Seen N f cur) (hc : cur' / 131072 = cur / 131072 + 1) : cur' ≠ f := fun e => by
  subst e
  have := h.old
  omega
def Linked (nx : Int → Int) : List Int → Prop
  | [] => True
  | x :: L => nx x = L.headD 0 ∧ Linked nx L
theorem Linked.same {nx nx' : Int → Int} : ∀ {L : List Int}, Linked nx L → (∀ x ∈ L, nx' x = nx x) → Linked nx' L
  | [], _, _ => trivial
  | x :: L, h, hs => ⟨(hs x (by simp)).trans h.1, h.2.same fun y hy => hs y (by simp [hy])⟩
theorem sum_set {α : Type} (f : α → Nat) : ∀ {l : List α} {i : Nat} {x : α} (y : α), l[i]? = some x → ((l.set i y).map f).sum + f x = (l.map f).sum + f y
  | [], i, x, y, h => by simp at h
  | a :: l, 0, x, y, h => by simp at h; subst h; simp; omega
  | a :: l, i + 1, x, y, h => by
    have := sum_set f (l := l) (i := i) (x := x) y (by simpa using h)
    simp only [List.set_cons_succ, List.map_cons, List.sum_cons]; omega
theorem le_sum {α : Type} (f : α → Nat) : ∀ {l : List α} {i : Nat} {x : α}, l[i]? = some x → f x ≤ (l.map f).sum
  | [], i, x, h => by simp at h
  | a :: l, 0, x, h => by simp at h; subst h; simp
  | a :: l, i + 1, x, h => by
    have := le_sum f (l := l) (i := i) (x := x) (by simpa using h)
    simp; omega
theorem le_sum2 {α : Type} (f : α → Nat) : ∀ {l : List α} {i j : Nat} {x y : α}, i ≠ j → l[i]? = some x → l[j]? = some y → f x + f y ≤ (l.map f).sum
  | [], i, j, x, y, _, h, _ => by simp at h
  | a :: l, 0, 0, x, y, hne, h, h2 => absurd rfl hne
  | a :: l, 0, j + 1, x, y, _, h, h2 => by
    have := le_sum f (l := l) (i := j) (x := y) (by simpa using h2)
    simp at h; subst h; simp; omega
  | a :: l, i + 1, 0, x, y, _, h, h2 => by
    have := le_sum f (l := l) (i := i) (x := x) (by simpa using h)
    simp at h2; subst h2; simp; omega
  | a :: l, i + 1, j + 1, x, y, hne, h, h2 => by
    have := le_sum2 f (l := l) (i := i) (j := j) (x := x) (y := y) (by omega) (by simpa using h) (by simpa using h2)
    simp; omega
theorem set_get {α : Type} {l : List α} {w j : Nat} {q q' x : α} (hq : l[w]? = some q) (h : (l.set w q')[j]? = some x) : (j = w ∧ x = q') ∨ (j ≠ w ∧ l[j]? = some x) := by
  rw [List.getElem?_set] at h
  split at h
  · rename_i e
    subst e
    rw [if_pos (List.getElem?_eq_some_iff.1 hq).1] at h
    cases h
    exact .inl ⟨rfl, rfl⟩
  · rename_i e
    exact .inr ⟨fun h => e h.symm, h⟩
theorem set_here {α : Type} {l : List α} {w : Nat} {q q' : α} (hq : l[w]? = some q) : (l.set w q')[w]? = some q' := List.getElem?_set_self (List.getElem?_eq_some_iff.1 hq).1
theorem set_there {α : Type} {l : List α} {w j : Nat} {q' x : α} (hj : j ≠ w) (h : l[j]? = some x) : (l.set w q')[j]? = some x := by rw [List.getElem?_set_ne (by omega)]; exact h

structure Sp (κ γ : Type) where
  mine : κ → List Int
  dead : κ → List Int
  zero : κ → Prop
  gad : κ → Int → Ad → Prop
  SI : Nat → Ws → List Int → (Int → Prop) → γ → Prop
  KL : Ws → List Int → γ → (Int → Int → Prop) → κ → Prop
  GL : Ws → List Int → γ → (Int → Int → Prop) → κ → Int → Ad → Int → Prop
  nx : Ws → List Int → γ → κ → List Int × γ
variable {κ γ : Type}
def PsT.z (s : PsT) : Prop := s.e0 = 0 ∧ s.e1 = 0 ∧ s.e2 = 0
def Pc.cont : Pc κ → Option κ
  | .at_ k | .t1 k | .t2 k _ | .t3 k _ _ | .t4 k _ _ | .t5 k _ _ _ | .g1 k _ _ | .g2 k _ _ _ _ | .g3 k _ _ _ | .clr k | .c k _ | .v1 k _ | .v2 k _ _ | .v3 k _ _ | .r1 k _ | .r2 k _ _ | .rs k _ _ _ | .s1 k _ _ _ _ | .w1 k _ _ _ _ | .w2 k _ _ _ _ _ | .w3 k _ _ _ _ _ => some k
  | .fin _ => none
def mineP (Z : Sp κ γ) : Pc κ → List Int
  | .t4 k n _ | .t5 k n _ _ | .v1 k n | .v2 k n _ | .v3 k n _ => n :: Z.mine k
  | .at_ k | .t1 k | .t2 k _ | .t3 k _ _ | .g1 k _ _ | .g2 k _ _ _ _ | .g3 k _ _ _ | .clr k | .c k _ | .r1 k _ | .r2 k _ _ | .rs k _ _ _ | .s1 k _ _ _ _ | .w1 k _ _ _ _ | .w2 k _ _ _ _ _ | .w3 k _ _ _ _ _ => Z.mine k
  | .fin _ => []
def deadP (Z : Sp κ γ) : Pc κ → List Int
  | .r1 k n | .r2 k n _ => n :: Z.dead k
  | .at_ k | .t1 k | .t2 k _ | .t3 k _ _ | .t4 k _ _ | .t5 k _ _ _ | .g1 k _ _ | .g2 k _ _ _ _ | .g3 k _ _ _ | .clr k | .c k _ | .v1 k _ | .v2 k _ _ | .v3 k _ _ | .rs k _ _ _ | .s1 k _ _ _ _ | .w1 k _ _ _ _ | .w2 k _ _ _ _ _ | .w3 k _ _ _ _ _ => Z.dead k
  | .fin _ => []
def goneP (q : Q κ) : List (Int × Int) := match q.pc with
  | .s1 _ _ g gs stay | .w1 _ _ g gs stay | .w2 _ _ g gs stay _ | .w3 _ _ g gs stay _ => g :: (gs ++ stay)
  | _ => q.s.gone
def deadQ (Z : Sp κ γ) (q : Q κ) : List Int := deadP Z q.pc ++ (goneP q).map (·.1)
def own (Z : Sp κ γ) (q : Q κ) : List Int := mineP Z q.pc ++ deadQ Z q
def ownSum (Z : Sp κ γ) (qs : List (Q κ)) (n : Int) : Nat := (qs.map fun q => (own Z q).count n).sum
def Dq (Z : Sp κ γ) (qs : List (Q κ)) (n : Int) : Prop := ∃ (j : Nat) (q : Q κ), qs[j]? = some q ∧ n ∈ deadQ Z q
def InG (L : List (Int × Int)) (n e : Int) : Prop := ∃ er, e ≤ er ∧ (n, er) ∈ L
theorem InG.mem {L : List (Int × Int)} {n e : Int} (h : InG L n e) : n ∈ L.map (·.1) := by
  obtain ⟨er, _, hm⟩ := h
  exact List.mem_map.2 ⟨_, hm, rfl⟩
theorem InG.app {L : List (Int × Int)} {n e : Int} (h : InG L n e) (M : List (Int × Int)) : InG (L ++ M) n e := by
  obtain ⟨er, h1, h2⟩ := h
  exact ⟨er, h1, by simp [h2]⟩
def Keeps (Z : Sp κ γ) (w i n e : Int) (q : Q κ) : Prop := match q.pc with
  | .r1 k n' => n' = n ∨ n ∈ Z.dead k ∨ InG q.s.gone n e
  | .r2 k n' er => (n' = n ∧ e ≤ er) ∨ n ∈ Z.dead k ∨ InG q.s.gone n e
  | .rs k held c cs => n ∈ Z.dead k ∨ (InG q.s.gone n e ∧ (e ∈ held ∨ Ad.rv w i ∈ c :: cs))
  | .s1 k held g gs stay => n ∈ Z.dead k ∨ (InG (g :: (gs ++ stay)) n e ∧ e ∈ held)
  | .w1 k held _ gs stay | .w2 k held _ gs stay _ | .w3 k held _ gs stay _ => n ∈ Z.dead k ∨ (InG (gs ++ stay) n e ∧ e ∈ held)
  | pc => n ∈ deadP Z pc ∨ InG q.s.gone n e
theorem keeps_dead {Z : Sp κ γ} {w i n e : Int} {q : Q κ} (h : Keeps Z w i n e q) : n ∈ deadQ Z q := by
  obtain ⟨pc, s⟩ := q
  unfold deadQ
  rw [List.mem_append]
  cases pc <;> simp only [Keeps, deadP, goneP] at h ⊢
  case r1 k n' =>
    rcases h with rfl | h | h
    · exact .inl List.mem_cons_self
    · exact .inl (List.mem_cons_of_mem _ h)
    · exact .inr h.mem
  case r2 k n' er =>
    rcases h with ⟨rfl, _⟩ | h | h
    · exact .inl List.mem_cons_self
    · exact .inl (List.mem_cons_of_mem _ h)
    · exact .inr h.mem
  case rs => exact h.imp id fun h => h.1.mem
  case s1 => exact h.imp id fun h => h.1.mem
  case w1 => exact h.imp id fun h => by rw [List.map_cons]; exact List.mem_cons_of_mem _ h.1.mem
  case w2 => exact h.imp id fun h => by rw [List.map_cons]; exact List.mem_cons_of_mem _ h.1.mem
  case w3 => exact h.imp id fun h => by rw [List.map_cons]; exact List.mem_cons_of_mem _ h.1.mem
  all_goals exact h.imp id InG.mem
structure Prot (Z : Sp κ γ) (V : Vw) (X : List Int) (qs : List (Q κ)) (w i n e : Int) : Prop where
  birth : max1 (V.bi n) ≤ e
  at_ : n ∈ X ∨ ∃ (j : Nat) (q : Q κ), qs[j]? = some q ∧ Keeps Z w i n e q
def Pr (Z : Sp κ γ) (V : Vw) (X : List Int) (qs : List (Q κ)) (w : Int) (s : PsT) (i n : Int) : Prop := 0 ≤ i ∧ i ≤ 2 ∧ Prot Z V X qs w i n (s.e i)
def offP (P : Int → Int → Prop) (i : Int) : Int → Int → Prop := fun j n => j ≠ i ∧ P j n
def noP : Int → Int → Prop := fun _ _ => False
def RvOk (S : Nat) (c : Ad) : Prop := ∃ w i : Int, 0 ≤ w ∧ w < S ∧ 0 ≤ i ∧ i ≤ 2 ∧ c = .rv w i
section
variable (Z : Sp κ γ) (l : LayT) (S N : Nat)
def LocPc (V : Vw) (X : List Int) (g : γ) (P : Int → Int → Prop) (s : PsT) : Pc κ → Prop
  | .at_ k => Z.KL V.W X g P k ∧ (Z.zero k → s.z)
  | .t1 k => Z.KL V.W X g P k ∧ (Z.zero k → s.z)
  | .t2 k f => Z.KL V.W X g P k ∧ (Z.zero k → s.z) ∧ Seen N f V.fr ∧ 1 ≤ (ofW f).idx
  | .t3 k f lk => Z.KL V.W X g P k ∧ (Z.zero k → s.z) ∧ Seen N f V.fr ∧ 1 ≤ (ofW f).idx ∧ (V.fr = f → lk = V.lk (ofW f).idx)
  | .t4 k _ _ => Z.KL V.W X g P k ∧ (Z.zero k → s.z)
  | .t5 k _ _ b => Z.KL V.W X g P k ∧ (Z.zero k → s.z) ∧ b ≤ V.er
  | .g1 k i c => Z.KL V.W X g (offP P i) k ∧ ¬ Z.zero k ∧ 0 ≤ i ∧ i ≤ 2 ∧ c.str l S N ∧ Z.gad k i c
  | .g2 k i c v _ => Z.KL V.W X g (offP P i) k ∧ ¬ Z.zero k ∧ 0 ≤ i ∧ i ≤ 2 ∧ c.str l S N ∧ Z.gad k i c ∧ (V.er = s.e i → Z.GL V.W X g P k i c v)
  | .g3 k i c er => Z.KL V.W X g (offP P i) k ∧ ¬ Z.zero k ∧ 0 ≤ i ∧ i ≤ 2 ∧ c.str l S N ∧ Z.gad k i c ∧ 1 ≤ er ∧ er ≤ V.er
  | .clr _ => False
  | .c k i => Z.KL V.W X g noP k ∧ 0 ≤ i ∧ i ≤ 2
  | .v1 k _ => Z.KL V.W X g P k ∧ (Z.zero k → s.z)
  | .v2 k _ f => Z.KL V.W X g P k ∧ (Z.zero k → s.z) ∧ Seen N f V.fr
  | .v3 k n f => Z.KL V.W X g P k ∧ (Z.zero k → s.z) ∧ Seen N f V.fr ∧ V.lk n = (ofW f).idx
  | .r1 k _ => Z.KL V.W X g P k ∧ (Z.zero k → s.z)
  | .r2 k _ er => Z.KL V.W X g P k ∧ (Z.zero k → s.z) ∧ er ≤ V.er
  | .rs k _ c cs => Z.KL V.W X g P k ∧ (Z.zero k → s.z) ∧ (c :: cs).length ≤ 3 * S ∧ ∀ x ∈ c :: cs, RvOk S x
  | .s1 k _ _ _ _ => Z.KL V.W X g P k ∧ (Z.zero k → s.z)
  | .w1 k _ _ _ _ => Z.KL V.W X g P k ∧ (Z.zero k → s.z)
  | .w2 k _ _ _ _ f => Z.KL V.W X g P k ∧ (Z.zero k → s.z) ∧ Seen N f V.fr
  | .w3 k _ x _ _ f => Z.KL V.W X g P k ∧ (Z.zero k → s.z) ∧ Seen N f V.fr ∧ V.lk x.1 = (ofW f).idx
  | .fin _ => s.z
structure Loc (V : Vw) (X : List Int) (g : γ) (qs : List (Q κ)) (w : Nat) (q : Q κ) : Prop where
  rv : ∀ i : Int, 0 ≤ i → i ≤ 2 → V.rv w i = q.s.e i
  e0 : ∀ i : Int, 0 ≤ q.s.e i ∧ q.s.e i ≤ V.er
  pc : LocPc Z l S N V X g (Pr Z V X qs w q.s) q.s q.pc
structure Inv (K : Nat) (V : Vw) (qs : List (Q κ)) (F X : List Int) (g : γ) : Prop where
  n : qs.length = S
  fr : V.fr = 131072 * (V.fr / 131072) + F.headD 0
  frk : 0 ≤ V.fr / 131072 ∧ V.fr / 131072 ≤ K
  er : 1 ≤ V.er ∧ V.er ≤ K + 1
  lf : Linked V.lk F
  part : ∀ n, F.count n + X.count n + ownSum Z qs n = if 1 ≤ n ∧ n ≤ (N : Int) then 1 else 0
  bi : ∀ n, 1 ≤ n → n ≤ (N : Int) → V.bi n ≤ V.er
  si : Z.SI K V.W X (Dq Z qs) g
  loc : ∀ (w : Nat) (q : Q κ), qs[w]? = some q → Loc Z l S N V X g qs w q
def OkE (W : Ws) (X : List Int) (g : γ) (P : Int → Int → Prop) (s : PsT) : Pc κ → Prop
  | .at_ k => Z.KL W X g P k ∧ (Z.zero k → s.z)
  | .t1 k => Z.KL W X g P k ∧ (Z.zero k → s.z)
  | .v1 k _ => Z.KL W X g P k ∧ (Z.zero k → s.z)
  | .r1 k _ => Z.KL W X g P k ∧ (Z.zero k → s.z)
  | .g1 k i c => Z.KL W X g (offP P i) k ∧ ¬ Z.zero k ∧ 0 ≤ i ∧ i ≤ 2 ∧ c.str l S N ∧ Z.gad k i c
  | .clr k => Z.KL W X g noP k
  | .fin _ => s.z
  | _ => False
end
def actW (W : Ws) : Ak → Ws × ResT
  | .ld a => (W, ⟨W.get a, true⟩)
  | .st a v => (W.put a v, ⟨W.get a, true⟩)
  | .cs a o v => if W.get a = o then (W.put a v, ⟨W.get a, true⟩) else (W, ⟨W.get a, false⟩)
  | .up => (W, ⟨0, true⟩)
def Ak.str (l : LayT) (S N : Nat) : Ak → Prop
  | .ld a => a.str l S N
  | .st a _ => a.str l S N
  | .cs a _ _ => a.str l S N
  | .up => False
structure StepOk (Z : Sp κ γ) (l : LayT) (S N K : Nat) (W : Ws) (X : List Int) (D : Int → Prop) (g : γ) (P : Int → Int → Prop) (s : PsT) (k : κ) (W' : Ws) (X' : List Int) (g' : γ) (pc' : Pc κ) : Prop where
  si : Z.SI (K + 1) W' X' (fun n => D n ∨ n ∈ deadP Z pc') g'
  ok : OkE Z l S N W' X' g' P s pc'
  oth : ∀ (k2 : κ) (P2 : Int → Int → Prop), (∀ i n, P2 i n → n ∈ X ∨ D n) → (∀ n ∈ Z.mine k2, n ∉ X ∧ ¬ D n ∧ n ∉ Z.mine k) → (∀ n ∈ Z.dead k2, D n ∧ n ∉ X) → Z.KL W X g P2 k2 → Z.KL W' X' g' P2 k2
  othG : ∀ (k2 : κ) (P2 : Int → Int → Prop) (i : Int) (c : Ad) (v : Int), (∀ i n, P2 i n → n ∈ X ∨ D n) → (∀ n ∈ Z.mine k2, n ∉ X ∧ ¬ D n ∧ n ∉ Z.mine k) → (∀ n ∈ Z.dead k2, D n ∧ n ∉ X) → Z.KL W X g (offP P2 i) k2 → Z.GL W X g P2 k2 i c v → Z.GL W' X' g' P2 k2 i c v
  count : ∀ n, X'.count n + (mineP Z pc').count n + (deadP Z pc').count n = X.count n + (Z.mine k).count n + (Z.dead k).count n
  keepX : ∀ n ∈ X, n ∈ X' ∨ n ∈ deadP Z pc'
  keepD : ∀ n ∈ Z.dead k, n ∈ deadP Z pc'
structure Sound (M : Mach κ) (Z : Sp κ γ) (l : LayT) (S N : Nat) : Prop where
  kmono : ∀ {W X g P P' k}, Z.KL W X g P k → (∀ i n, P i n → P' i n) → Z.KL W X g P' k
  gmono : ∀ {W X g P P' k i c v}, Z.GL W X g P k i c v → (∀ i n, P i n → P' i n) → Z.GL W X g P' k i c v
  simono : ∀ {W X g K K'} {D D' : Int → Prop}, Z.SI K W X D g → (∀ n, D' n → D n) → K ≤ K' → Z.SI K' W X D' g
  took : ∀ {W X g P k} (s : PsT) (n a : Int), Z.KL W X g P k → (Z.zero k → s.z) → 1 ≤ n → n ≤ N → n ∉ X → OkE Z l S N W X g P s (M.took k n a)
  tookM : ∀ (k : κ) (n a x : Int), (mineP Z (M.took k n a)).count x = (n :: Z.mine k).count x
  tookD : ∀ (k : κ) (n a : Int), deadP Z (M.took k n a) = Z.dead k
  full : ∀ {W X g P k} (s : PsT) (a : Int), Z.KL W X g P k → (Z.zero k → s.z) → OkE Z l S N W X g P s (M.full k a)
  fullM : ∀ (k : κ) (a : Int), mineP Z (M.full k a) = Z.mine k
  fullD : ∀ (k : κ) (a : Int), deadP Z (M.full k a) = Z.dead k
  gave : ∀ {W X g P k} (s : PsT), Z.KL W X g P k → (Z.zero k → s.z) → OkE Z l S N W X g P s (M.gave k)
  gaveM : ∀ (k : κ), mineP Z (M.gave k) = Z.mine k
  gaveD : ∀ (k : κ), deadP Z (M.gave k) = Z.dead k
  retired : ∀ {W X g P k} (s : PsT), Z.KL W X g P k → (Z.zero k → s.z) → OkE Z l S N W X g P s (M.retired k)
  retiredM : ∀ (k : κ), mineP Z (M.retired k) = Z.mine k
  retiredD : ∀ (k : κ), deadP Z (M.retired k) = Z.dead k
  cleared : ∀ {W X g k} (s : PsT), Z.KL W X g noP k → s.z → OkE Z l S N W X g noP s (M.cleared k)
  clearedN : ∀ (k k' : κ), M.cleared k ≠ .clr k'
  clearedM : ∀ (k : κ), mineP Z (M.cleared k) = Z.mine k
  clearedD : ∀ (k : κ), deadP Z (M.cleared k) = Z.dead k
  gload : ∀ {W X g D P k K} (i : Int) (c : Ad), c.str l S N → Z.gad k i c → Z.SI K W X D g → Z.KL W X g (offP P i) k → (∀ n ∈ X, P i n) → (∀ i n, P i n → n ∈ X ∨ D n) → Z.GL W X g P k i c (W.get c)
  guarded : ∀ {W X g P k i c v} (s : PsT) (a : Int), Z.gad k i c → Z.GL W X g P k i c v → Z.KL W X g (offP P i) k → OkE Z l S N W X g P s (M.guarded k v a)
  guardedM : ∀ (k : κ) (v a : Int), mineP Z (M.guarded k v a) = Z.mine k
  guardedD : ∀ (k : κ) (v a : Int), deadP Z (M.guarded k v a) = Z.dead k
  ask : ∀ {W X g P D k K}, Z.SI K W X D g → Z.KL W X g P k → (∀ i n, P i n → 1 ≤ n ∧ n ≤ (N : Int)) → (∀ n, n ∈ X ∨ n ∈ Z.mine k ∨ n ∈ Z.dead k → 1 ≤ n ∧ n ≤ (N : Int)) → (M.ask k).str l S N
  step : ∀ {W X D g P k K} (s : PsT) (m : Nat), K ≤ 100000 → Z.SI K W X D g → Z.KL W X g P k → (Z.zero k → s.z) → (∀ i n, P i n → n ∈ X ∨ D n) → (∀ n, n ∈ X ∨ n ∈ Z.mine k ∨ D n → 1 ≤ n ∧ n ≤ (N : Int)) → X.Nodup → (Z.mine k).Nodup → (∀ n ∈ Z.mine k, n ∉ X ∧ ¬ D n) → (∀ n, D n → n ∉ X) → (∀ n ∈ Z.dead k, D n) → StepOk Z l S N K W X D g P s k (actW W (M.ask k)).1 (Z.nx W X g k).1 (Z.nx W X g k).2 (M.tell k m (actW W (M.ask k)).2)
section
variable {Z : Sp κ γ} {l : LayT} {S N K : Nat} {V : Vw} {qs : List (Q κ)} {F X : List Int} {g : γ} (hI : Inv Z l S N K V qs F X g)
include hI
theorem Inv.bound {n : Int} (h : 0 < F.count n + X.count n + ownSum Z qs n) : 1 ≤ n ∧ n ≤ (N : Int) := by
  have := hI.part n
  by_cases hc : 1 ≤ n ∧ n ≤ (N : Int)
  · exact hc
  · rw [if_neg hc] at this; omega
theorem Inv.one (n : Int) : F.count n + X.count n + ownSum Z qs n ≤ 1 := by
  have := hI.part n
  split at this <;> omega
theorem Inv.inOwn {n : Int} {w : Nat} {q : Q κ} (hq : qs[w]? = some q) (h : n ∈ own Z q) : 1 ≤ n ∧ n ≤ (N : Int) := hI.bound (by
  have h1 := List.count_pos_iff.2 h
  have h2 := le_sum (fun q => (own Z q).count n) hq
  unfold ownSum; omega)
theorem Inv.ownNot {n : Int} {w : Nat} {q : Q κ} (hq : qs[w]? = some q) (h : n ∈ own Z q) : n ∉ F ∧ n ∉ X ∧ (own Z q).count n = 1 ∧ ∀ (j : Nat) (q' : Q κ), j ≠ w → qs[j]? = some q' → n ∉ own Z q' := by
  have h0 := hI.one n
  have h1 := List.count_pos_iff.2 h
  have h2 := le_sum (fun q => (own Z q).count n) hq
  have h2' : (own Z q).count n ≤ ownSum Z qs n := h2
  refine ⟨fun hf => by have := List.count_pos_iff.2 hf; omega, fun hf => by have := List.count_pos_iff.2 hf; omega, by omega, fun j q' hj hq' hm => ?_⟩
  have h3 := List.count_pos_iff.2 hm
  have h4 := le_sum2 (fun q => (own Z q).count n) hj hq' hq
  have h4' : (own Z q').count n + (own Z q).count n ≤ ownSum Z qs n := h4
  omega
theorem Inv.dq {n : Int} (h : Dq Z qs n) : (1 ≤ n ∧ n ≤ (N : Int)) ∧ n ∉ X ∧ n ∉ F := by
  obtain ⟨j, q, hq, hn⟩ := h
  have h1 : n ∈ own Z q := by unfold own; rw [List.mem_append]; exact .inr hn
  have h2 := hI.ownNot hq h1
  exact ⟨hI.inOwn hq h1, h2.2.1, h2.1⟩
end
theorem ownSum_set {Z : Sp κ γ} {qs : List (Q κ)} {w : Nat} {q : Q κ} (q' : Q κ) (n : Int) (h : qs[w]? = some q) : ownSum Z (qs.set w q') n + (own Z q).count n = ownSum Z qs n + (own Z q').count n := sum_set (fun q => (own Z q).count n) q' h
theorem prot_move {Z : Sp κ γ} {V V' : Vw} {X X' : List Int} {qs : List (Q κ)} {w : Nat} {q q' : Q κ} (hq : qs[w]? = some q) {j i n e : Int} (hP : Prot Z V X qs j i n e) (hb : V'.bi n = V.bi n) (hX : n ∈ X → n ∈ X' ∨ Keeps Z j i n e q') (hK : Keeps Z j i n e q → Keeps Z j i n e q') : Prot Z V' X' (qs.set w q') j i n e := by
  refine ⟨by rw [hb]; exact hP.birth, ?_⟩
  rcases hP.at_ with h | ⟨a, x, hi, hx⟩
  · rcases hX h with h | h
    · exact .inl h
    · exact .inr ⟨w, q', set_here hq, h⟩
  · by_cases hiw : a = w
    · subst hiw
      rw [hq] at hi
      cases hi
      exact .inr ⟨a, q', set_here hq, hK hx⟩
    · exact .inr ⟨a, x, set_there hiw hi, hx⟩
theorem pr_in {Z : Sp κ γ} {V : Vw} {X : List Int} {qs : List (Q κ)} {w : Int} {s : PsT} {i n : Int} (h : Pr Z V X qs w s i n) : n ∈ X ∨ Dq Z qs n := by
  rcases h.2.2.at_ with h | ⟨j, q, hq, hk⟩
  · exact .inl h
  · exact .inr ⟨j, q, hq, keeps_dead hk⟩
end Go.Proofs.YtkkldicehapklaaGreat
/- What holds of memory and programs goes on from step to step: the frame. -/
namespace Go.Proofs.YtkkldicehapklaaGreat
set_option maxRecDepth 100000
variable {κ γ : Type} {M : Mach κ} {Z : Sp κ γ} {l : LayT} {S N K : Nat}

theorem off_mono {P P' : Int → Int → Prop} {i : Int} (h : ∀ i n, P i n → P' i n) : ∀ j n, offP P i j n → offP P' i j n := fun j n hj => ⟨hj.1, h j n hj.2⟩
theorem off_in {P : Int → Int → Prop} {i : Int} {A : Int → Prop} (h : ∀ i n, P i n → A n) : ∀ j n, offP P i j n → A n := fun j n hj => h j n hj.2
theorem Loc.frame (hs : Sound M Z l S N) {V V' : Vw} {X X' : List Int} {g g' : γ} {qs qs' : List (Q κ)} {j : Nat} {x : Q κ} (h : Loc Z l S N V X g qs j x)
    (hP : ∀ i n, Pr Z V X qs j x.s i n → Pr Z V' X' qs' j x.s i n) (hfr : V'.fr = V.fr ∨ V'.fr / 131072 = V.fr / 131072 + 1) (hlk : V'.fr = V.fr → V'.lk (ofW V.fr).idx = V.lk (ofW V.fr).idx) (hlo : ∀ n ∈ own Z x, V'.lk n = V.lk n)
    (her : V'.er = V.er ∨ V'.er = V.er + 1) (hrv : ∀ i, V'.rv j i = V.rv j i)
    (hK : ∀ k, x.pc.cont = some k → ∀ P, (∀ i n, P i n → n ∈ X ∨ Dq Z qs n) → Z.KL V.W X g P k → Z.KL V'.W X' g' P k)
    (hG : ∀ k, x.pc.cont = some k → ∀ (P : Int → Int → Prop) (i : Int) (c : Ad) (v : Int), (∀ i n, P i n → n ∈ X ∨ Dq Z qs n) → Z.KL V.W X g (offP P i) k → Z.GL V.W X g P k i c v → Z.GL V'.W X' g' P k i c v) : Loc Z l S N V' X' g' qs' j x := by
  obtain ⟨a1, a2, a3⟩ := h
  have hin : ∀ i n, Pr Z V X qs j x.s i n → n ∈ X ∨ Dq Z qs n := fun i n h => pr_in h
  have seen : ∀ f, Seen N f V.fr → Seen N f V'.fr := fun f h => by
    rcases hfr with e | e
    · rw [e]; exact h
    · exact h.up e
  refine ⟨fun i i0 i2 => by rw [hrv]; exact a1 i i0 i2, fun i => ⟨(a2 i).1, by have := (a2 i).2; omega⟩, ?_⟩
  obtain ⟨pc, s⟩ := x
  have kl : ∀ k, pc.cont = some k → Z.KL V.W X g (Pr Z V X qs j s) k → Z.KL V'.W X' g' (Pr Z V' X' qs' j s) k := fun k hk h => hs.kmono (hK k hk _ hin h) hP
  have klo : ∀ k i, pc.cont = some k → Z.KL V.W X g (offP (Pr Z V X qs j s) i) k → Z.KL V'.W X' g' (offP (Pr Z V' X' qs' j s) i) k := fun k i hk h => hs.kmono (hK k hk _ (off_in hin) h) (off_mono hP)
  have lko : ∀ n, n ∈ own Z ⟨pc, s⟩ → V'.lk n = V.lk n := hlo
  cases pc <;> simp only [LocPc] at a3 ⊢
  case at_ k => exact ⟨kl k rfl a3.1, a3.2⟩
  case t1 k => exact ⟨kl k rfl a3.1, a3.2⟩
  case t2 k f => exact ⟨kl k rfl a3.1, a3.2.1, seen f a3.2.2.1, a3.2.2.2⟩
  case t3 k f lk =>
    refine ⟨kl k rfl a3.1, a3.2.1, seen f a3.2.2.1, a3.2.2.2.1, fun e => ?_⟩
    rcases hfr with e' | e'
    · have ef : V.fr = f := by rw [← e']; exact e
      have := hlk e'
      rw [ef] at this
      rw [this]
      exact a3.2.2.2.2 ef
    · exact absurd e (a3.2.2.1.ne e')
  case t4 k n a => exact ⟨kl k rfl a3.1, a3.2⟩
  case t5 k n a b => exact ⟨kl k rfl a3.1, a3.2.1, by have := a3.2.2; omega⟩
  case g1 k i c => exact ⟨klo k i rfl a3.1, a3.2⟩
  case g2 k i c v a =>
    refine ⟨klo k i rfl a3.1, a3.2.1, a3.2.2.1, a3.2.2.2.1, a3.2.2.2.2.1, a3.2.2.2.2.2.1, fun e => ?_⟩
    have e2 := (a2 i).2
    simp only at e2
    exact hs.gmono (hG k rfl _ i c v hin a3.1 (a3.2.2.2.2.2.2 (by omega))) hP
  case g3 k i c er => exact ⟨klo k i rfl a3.1, a3.2.1, a3.2.2.1, a3.2.2.2.1, a3.2.2.2.2.1, a3.2.2.2.2.2.1, a3.2.2.2.2.2.2.1, by have := a3.2.2.2.2.2.2.2; omega⟩
  case c k i => exact ⟨hK k rfl _ (fun _ _ h => absurd h id) a3.1, a3.2⟩
  case v1 k n => exact ⟨kl k rfl a3.1, a3.2⟩
  case v2 k n f => exact ⟨kl k rfl a3.1, a3.2.1, seen f a3.2.2⟩
  case v3 k n f => exact ⟨kl k rfl a3.1, a3.2.1, seen f a3.2.2.1, by rw [lko n (by simp [own, mineP])]; exact a3.2.2.2⟩
  case r1 k n => exact ⟨kl k rfl a3.1, a3.2⟩
  case r2 k n er => exact ⟨kl k rfl a3.1, a3.2.1, by have := a3.2.2; omega⟩
  case rs k held c cs => exact ⟨kl k rfl a3.1, a3.2⟩
  case s1 k held g gs stay => exact ⟨kl k rfl a3.1, a3.2⟩
  case w1 k held g gs stay => exact ⟨kl k rfl a3.1, a3.2⟩
  case w2 k held g gs stay f => exact ⟨kl k rfl a3.1, a3.2.1, seen f a3.2.2⟩
  case w3 k held x gs stay f => exact ⟨kl k rfl a3.1, a3.2.1, seen f a3.2.2.1, by rw [lko x.1 (by simp [own, deadQ, goneP])]; exact a3.2.2.2⟩
  case fin o => exact a3
structure Move (Z : Sp κ γ) (V V' : Vw) (X X' : List Int) (qs : List (Q κ)) (q q' : Q κ) : Prop where
  bi : ∀ n, n ∈ X ∨ Dq Z qs n → V'.bi n = V.bi n
  keepX : ∀ n ∈ X, n ∈ X' ∨ ∀ j i e : Int, Keeps Z j i n e q'
  keep : ∀ (j : Nat) (x : Q κ) (i n : Int), qs[j]? = some x → 0 ≤ i → i ≤ 2 → Prot Z V X qs j i n (x.s.e i) → Keeps Z j i n (x.s.e i) q → Keeps Z j i n (x.s.e i) q'
theorem Move.pr {V V' : Vw} {X X' : List Int} {qs : List (Q κ)} {w : Nat} {q q' : Q κ} (hm : Move Z V V' X X' qs q q') (hq : qs[w]? = some q) {j : Nat} {x : Q κ} (hx : qs[j]? = some x) {s' : PsT} {i n : Int} (he : s'.e i = x.s.e i) (h : Pr Z V X qs j x.s i n) : Pr Z V' X' (qs.set w q') j s' i n := by
  refine ⟨h.1, h.2.1, ?_⟩
  rw [he]
  exact prot_move hq h.2.2 (hm.bi n (pr_in h)) (fun hX => (hm.keepX n hX).imp id fun hk => hk _ _ _) (hm.keep j x i n hx h.1 h.2.1 h.2.2)
theorem dq_set {qs : List (Q κ)} {w : Nat} {q q' : Q κ} (hq : qs[w]? = some q) {n : Int} (h : Dq Z (qs.set w q') n) : Dq Z qs n ∨ n ∈ deadQ Z q' := by
  obtain ⟨j, x, hx, hn⟩ := h
  rcases set_get hq hx with ⟨rfl, rfl⟩ | ⟨_, hx⟩
  · exact .inr hn
  · exact .inl ⟨j, x, hx, hn⟩
theorem Inv.step (hs : Sound M Z l S N) {V V' : Vw} {qs : List (Q κ)} {F F' X X' : List Int} {g g' : γ} (hI : Inv Z l S N K V qs F X g) {w : Nat} {q q' : Q κ} (hq : qs[w]? = some q) (hm : Move Z V V' X X' qs q q')
    (h_fr : V'.fr = 131072 * (V'.fr / 131072) + F'.headD 0) (h_frs : V'.fr = V.fr ∨ V'.fr / 131072 = V.fr / 131072 + 1) (h_er : V'.er = V.er ∨ V'.er = V.er + 1) (h_lf : Linked V'.lk F')
    (h_own : ∀ n, F'.count n + X'.count n + (own Z q').count n = F.count n + X.count n + (own Z q).count n) (h_bi : ∀ n, 1 ≤ n → n ≤ (N : Int) → V'.bi n ≤ V'.er) (h_si : Z.SI (K + 1) V'.W X' (Dq Z (qs.set w q')) g')
    (h_rv : ∀ j : Nat, j ≠ w → ∀ i : Int, V'.rv j i = V.rv j i) (h_lk : V'.fr = V.fr → V'.lk (ofW V.fr).idx = V.lk (ofW V.fr).idx) (h_lo : ∀ n, n ∉ F → n ∉ own Z q → V'.lk n = V.lk n)
    (h_K : ∀ (j : Nat) (x : Q κ), j ≠ w → qs[j]? = some x → ∀ k, x.pc.cont = some k → ∀ P, (∀ i n, P i n → n ∈ X ∨ Dq Z qs n) → Z.KL V.W X g P k → Z.KL V'.W X' g' P k)
    (h_G : ∀ (j : Nat) (x : Q κ), j ≠ w → qs[j]? = some x → ∀ k, x.pc.cont = some k → ∀ (P : Int → Int → Prop) (i : Int) (c : Ad) (v : Int), (∀ i n, P i n → n ∈ X ∨ Dq Z qs n) → Z.KL V.W X g (offP P i) k → Z.GL V.W X g P k i c v → Z.GL V'.W X' g' P k i c v)
    (h_loc : Loc Z l S N V' X' g' (qs.set w q') w q') : Inv Z l S N (K + 1) V' (qs.set w q') F' X' g' := by
  have her := hI.er
  have hfrk := hI.frk
  have hfr := hI.fr
  refine ⟨by rw [List.length_set]; exact hI.n, h_fr, ?_, by omega, h_lf, fun n => ?_, h_bi, h_si, fun j x hx => ?_⟩
  · rcases h_frs with e | e
    · rw [e]; omega
    · rw [e]; omega
  · have h1 := hI.part n
    have h2 := ownSum_set (Z := Z) q' n hq
    have h3 := h_own n
    omega
  · rcases set_get hq hx with ⟨rfl, rfl⟩ | ⟨h1, h2⟩
    · exact h_loc
    · refine (hI.loc j x h2).frame hs (fun i n h => hm.pr hq h2 rfl h) h_frs h_lk (fun n hn => ?_) h_er (h_rv j h1) (h_K j x h1 h2) (h_G j x h1 h2)
      obtain ⟨o1, o2, o3, o4⟩ := hI.ownNot h2 hn
      exact h_lo n o1 (fun h => o4 w q (by omega) hq h)
theorem Inv.quiet (hs : Sound M Z l S N) {V : Vw} {qs : List (Q κ)} {F X : List Int} {g : γ} (hI : Inv Z l S N K V qs F X g) {w : Nat} {q q' : Q κ} (hq : qs[w]? = some q)
    (h_own : ∀ n, (own Z q').count n = (own Z q).count n) (h_dead : ∀ n ∈ deadQ Z q', n ∈ deadQ Z q) (he : ∀ i, q'.s.e i = q.s.e i)
    (h_keep : ∀ (j : Nat) (x : Q κ) (i n : Int), qs[j]? = some x → 0 ≤ i → i ≤ 2 → Prot Z V X qs j i n (x.s.e i) → Keeps Z j i n (x.s.e i) q → Keeps Z j i n (x.s.e i) q')
    (h_loc : (∀ i n, Pr Z V X qs w q.s i n → Pr Z V X (qs.set w q') w q'.s i n) → (∀ n, Dq Z (qs.set w q') n → Dq Z qs n) → LocPc Z l S N V X g (Pr Z V X (qs.set w q') w q'.s) q'.s q'.pc) : Inv Z l S N (K + 1) V (qs.set w q') F X g := by
  have hl := hI.loc w q hq
  have hm : Move Z V V X X qs q q' := ⟨fun _ _ => rfl, fun n h => .inl h, h_keep⟩
  have hd : ∀ n, Dq Z (qs.set w q') n → Dq Z qs n := fun n h => (dq_set hq h).elim id fun h => ⟨w, q, hq, h_dead n h⟩
  refine hI.step hs hq hm hI.fr (.inl rfl) (.inl rfl) hI.lf (fun n => by rw [h_own]) hI.bi (hs.simono hI.si hd (Nat.le_succ K)) (fun _ _ _ => rfl) (fun _ => rfl) (fun _ _ _ => rfl) (fun _ _ _ _ _ _ _ _ h => h) (fun _ _ _ _ _ _ _ _ _ _ _ _ h => h) ⟨fun i i0 i2 => by rw [he]; exact hl.rv i i0 i2, fun i => by rw [he]; exact hl.e0 i, h_loc (fun i n h => hm.pr hq hq (he i) h) hd⟩

/-! ### Where a program goes on -/
structure EntQ (Z : Sp κ γ) (l : LayT) (S N : Nat) (V : Vw) (X : List Int) (g : γ) (P : Int → Int → Prop) (s : PsT) (mi de : List Int) (q : Q κ) : Prop where
  hs : q.s = s
  loc : LocPc Z l S N V X g P s q.pc
  mine : mineP Z q.pc = mi
  dead : deadP Z q.pc = de
  gone : goneP q = s.gone
  keeps : ∀ {j i n e : Int}, Keeps Z j i n e q ↔ n ∈ de ∨ InG s.gone n e
theorem EntQ.deadQ {V : Vw} {X : List Int} {g : γ} {P : Int → Int → Prop} {s : PsT} {mi de : List Int} {q : Q κ} (h : EntQ Z l S N V X g P s mi de q) : deadQ Z q = de ++ s.gone.map (·.1) := by
  unfold Go.Proofs.YtkkldicehapklaaGreat.deadQ
  rw [h.dead, h.gone]
theorem EntQ.own {V : Vw} {X : List Int} {g : γ} {P : Int → Int → Prop} {s : PsT} {mi de : List Int} {q : Q κ} (h : EntQ Z l S N V X g P s mi de q) : own Z q = mi ++ (de ++ s.gone.map (·.1)) := by
  unfold Go.Proofs.YtkkldicehapklaaGreat.own
  rw [h.mine, h.deadQ]
end Go.Proofs.YtkkldicehapklaaGreat
/- What holds of memory and programs goes on from step to step: all accesses. -/
namespace Go.Proofs.YtkkldicehapklaaGreat
set_option maxRecDepth 100000
variable {κ γ : Type} {M : Mach κ} {Z : Sp κ γ} {l : LayT} {S N K : Nat}

structure Nxt (Z : Sp κ γ) (l : LayT) (S N : Nat) (V : Vw) (X : List Int) (g : γ) (P : Int → Int → Prop) (s : PsT) (mi de : List Int) (go : List (Int × Int)) (C : Int → Int → Int → Int → Prop) (q : Q κ) : Prop where
  e : ∀ i, q.s.e i = s.e i
  loc : LocPc Z l S N V X g P q.s q.pc
  mine : mineP Z q.pc = mi
  dead : deadP Z q.pc = de
  gone : goneP q = go
  keeps : ∀ {j i n e : Int}, C j i n e → Keeps Z j i n e q
section
variable {V : Vw} {qs : List (Q κ)} {F X : List Int} {g : γ} {w : Nat} {q : Q κ}
theorem Inv.gen (hs : Sound M Z l S N) (hI : Inv Z l S N K V qs F X g) (hq : qs[w]? = some q) {V' : Vw} {F' : List Int} {q' : Q κ} (hW : V'.W = V.W)
    (h_bi2 : ∀ n, n ∈ X ∨ Dq Z qs n → V'.bi n = V.bi n) (h_keep : ∀ (j : Nat) (x : Q κ) (i n : Int), qs[j]? = some x → 0 ≤ i → i ≤ 2 → Prot Z V X qs j i n (x.s.e i) → Keeps Z j i n (x.s.e i) q → Keeps Z j i n (x.s.e i) q')
    (h_fr : V'.fr = 131072 * (V'.fr / 131072) + F'.headD 0) (h_frs : V'.fr = V.fr ∨ V'.fr / 131072 = V.fr / 131072 + 1) (h_er : V'.er = V.er ∨ V'.er = V.er + 1) (h_lf : Linked V'.lk F')
    (h_own : ∀ n, F'.count n + (own Z q').count n = F.count n + (own Z q).count n) (h_bi : ∀ n, 1 ≤ n → n ≤ (N : Int) → V'.bi n ≤ V'.er) (h_dead : ∀ n ∈ deadQ Z q', n ∈ deadQ Z q)
    (h_rv : ∀ j : Nat, j ≠ w → ∀ i : Int, V'.rv j i = V.rv j i) (h_lk : V'.fr = V.fr → V'.lk (ofW V.fr).idx = V.lk (ofW V.fr).idx) (h_lo : ∀ n, n ∉ F → n ∉ own Z q → V'.lk n = V.lk n)
    (h_e : ∀ i : Int, 0 ≤ i → i ≤ 2 → V'.rv w i = q'.s.e i) (h_eb : ∀ i, 0 ≤ q'.s.e i ∧ q'.s.e i ≤ V'.er)
    (h_loc : (∀ i n, q'.s.e i = q.s.e i → Pr Z V X qs w q.s i n → Pr Z V' X (qs.set w q') w q'.s i n) → (∀ n, Dq Z (qs.set w q') n → Dq Z qs n) → LocPc Z l S N V' X g (Pr Z V' X (qs.set w q') w q'.s) q'.s q'.pc) : Inv Z l S N (K + 1) V' (qs.set w q') F' X g := by
  have hm : Move Z V V' X X qs q q' := ⟨h_bi2, fun n h => .inl h, h_keep⟩
  have hd : ∀ n, Dq Z (qs.set w q') n → Dq Z qs n := fun n h => (dq_set hq h).elim id fun h => ⟨w, q, hq, h_dead n h⟩
  refine hI.step hs hq hm h_fr h_frs h_er h_lf (fun n => by have := h_own n; omega) h_bi (by rw [hW]; exact hs.simono hI.si hd (Nat.le_succ K)) h_rv h_lk h_lo (fun _ _ _ _ _ _ _ _ h => by rw [hW]; exact h) (fun _ _ _ _ _ _ _ _ _ _ _ _ h => by rw [hW]; exact h) ⟨h_e, h_eb, h_loc (fun i n he h => hm.pr hq hq he h) hd⟩
theorem Inv.go (hs : Sound M Z l S N) (hI : Inv Z l S N K V qs F X g) (hq : qs[w]? = some q) {V' : Vw} {F' : List Int} {q' : Q κ} {s' : PsT} {mi de : List Int} {go : List (Int × Int)} {C : Int → Int → Int → Int → Prop}
    (hX : ∀ P, (∀ i n, Pr Z V X qs w q.s i n → P i n) → Nxt Z l S N V' X g P s' mi de go C q') (he : ∀ i, s'.e i = q.s.e i) (hW : V'.W = V.W)
    (h_bi2 : ∀ n, n ∈ X ∨ Dq Z qs n → V'.bi n = V.bi n) (h_keep : ∀ (j : Nat) (x : Q κ) (i n : Int), qs[j]? = some x → 0 ≤ i → i ≤ 2 → Prot Z V X qs j i n (x.s.e i) → Keeps Z j i n (x.s.e i) q → C j i n (x.s.e i))
    (h_fr : V'.fr = 131072 * (V'.fr / 131072) + F'.headD 0) (h_frs : V'.fr = V.fr ∨ V'.fr / 131072 = V.fr / 131072 + 1) (h_er : V'.er = V.er ∨ V'.er = V.er + 1) (h_lf : Linked V'.lk F')
    (h_own : ∀ n, F'.count n + (mi ++ (de ++ go.map (·.1))).count n = F.count n + (own Z q).count n) (h_bi : ∀ n, 1 ≤ n → n ≤ (N : Int) → V'.bi n ≤ V'.er) (h_dead : ∀ n ∈ de ++ go.map (·.1), n ∈ deadQ Z q)
    (h_rv : ∀ j i : Int, V'.rv j i = V.rv j i) (h_lk : V'.fr = V.fr → V'.lk (ofW V.fr).idx = V.lk (ofW V.fr).idx) (h_lo : ∀ n, n ∉ F → n ∉ own Z q → V'.lk n = V.lk n) : Inv Z l S N (K + 1) V' (qs.set w q') F' X g := by
  have hl := hI.loc w q hq
  have h0 := hX (fun i n => Pr Z V X qs w q.s i n) (fun _ _ h => h)
  have heq : ∀ i, q'.s.e i = q.s.e i := fun i => (h0.e i).trans (he i)
  have hde : deadQ Z q' = de ++ go.map (·.1) := by unfold deadQ; rw [h0.dead, h0.gone]
  have how : own Z q' = mi ++ (de ++ go.map (·.1)) := by unfold own; rw [h0.mine, hde]
  refine hI.gen hs hq hW h_bi2 (fun j x i n hx i0 i2 hP hk => h0.keeps (h_keep j x i n hx i0 i2 hP hk)) h_fr h_frs h_er h_lf (fun n => by rw [how]; exact h_own n) h_bi (fun n hn => h_dead n (by rw [← hde]; exact hn)) (fun j _ i => h_rv j i) h_lk h_lo (fun i i0 i2 => by rw [h_rv, heq]; exact hl.rv i i0 i2) (fun i => by rw [heq]; have := hl.e0 i; omega) (fun hP _ => (hX _ (fun i n h => hP i n (heq i) h)).loc)
end
end Go.Proofs.YtkkldicehapklaaGreat
