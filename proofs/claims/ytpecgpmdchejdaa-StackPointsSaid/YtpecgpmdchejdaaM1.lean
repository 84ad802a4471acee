/- Programs of pushes and pops, access by access: what they come to behind each answer. -/
import Derived.Test.YtpecgpmdchejdaaD15
namespace Go.Proofs.Ytpecgpmdchejdaa
set_option maxRecDepth 100000

/-- Where a program is. -/
inductive Pc where
  | t1 | t2 (f : Int) | t3 (f lk : Int) | t4 (n : Int) | t5 (n b : Int)
  | p0 (n : Int) | p1 (n : Int) | p2 (n w : Int) | p3 (n w : Int)
  | g1 | g2 (w a : Int) | g3 (er : Int)
  | ce (a : Int) | d1 (w : Int) | d2 (w be : Int) | d3 (n a : Int) | c (n v a : Int)
  | r1 (n v a : Int) | r2 (n v a er : Int)
  | rs (v a : Int) (held : List Int) (c : Int) (cs : List Int)
  | s1 (v a : Int) (held : List Int) (g : Int × Int) (gs stay : List (Int × Int))
  | v1 (v a : Int) (held : List Int) (g : Int × Int) (gs stay : List (Int × Int))
  | v2 (v a : Int) (held : List Int) (g : Int × Int) (gs stay : List (Int × Int)) (f : Int)
  | v3 (v a : Int) (held : List Int) (g : Int × Int) (gs stay : List (Int × Int)) (f : Int)
  | fin (o : OutT)
structure Q where
  pc : Pc
  made : Nat
  gone : List (Int × Int)
  e0 : Int
/-- What is asked for next. -/
def asks (l : LayT) (me top v : Int) : Pc → AccT
  | .t1 => ⟨1, l.free, 0, 0⟩
  | .t2 f => ⟨1, nodeF l (ofW f).idx 7, 0, 0⟩
  | .t3 f lk => ⟨3, l.free, f, packW (turnW (ofW f) lk)⟩
  | .t4 _ => ⟨1, l.era, 0, 0⟩
  | .t5 n b => ⟨2, nodeF l n 6, 0, b⟩
  | .p0 n => ⟨2, nodeF l n 1, 0, v⟩
  | .p1 _ => ⟨1, top, 0, 0⟩
  | .p2 n w => ⟨2, nodeF l n 0, 0, (ofW w).idx⟩
  | .p3 n w => ⟨3, top, w, packW (turnW (ofW w) n)⟩
  | .g1 => ⟨1, top, 0, 0⟩
  | .g2 _ _ => ⟨1, l.era, 0, 0⟩
  | .g3 er => ⟨2, resvF l me 0, 0, er⟩
  | .ce _ => ⟨2, resvF l me 0, 0, 0⟩
  | .d1 w => ⟨1, nodeF l (ofW w).idx 0, 0, 0⟩
  | .d2 w be => ⟨3, top, w, packW (turnW (ofW w) be)⟩
  | .d3 n _ => ⟨1, nodeF l n 1, 0, 0⟩
  | .c _ _ _ => ⟨2, resvF l me 0, 0, 0⟩
  | .r1 _ _ _ => ⟨1, l.era, 0, 0⟩
  | .r2 _ _ _ _ => ⟨4, l.era, 0, 1⟩
  | .rs _ _ _ c _ => ⟨1, c, 0, 0⟩
  | .s1 _ _ _ g _ _ => ⟨1, nodeF l g.1 6, 0, 0⟩
  | .v1 .. => ⟨1, l.free, 0, 0⟩
  | .v2 _ _ _ g _ _ f => ⟨2, nodeF l g.1 7, 0, (ofW f).idx⟩
  | .v3 _ _ _ g _ _ f => ⟨3, l.free, f, packW (turnW (ofW f) g.1)⟩
  | .fin _ => acc0
/-- What is left to sift. -/
def siftQ (v a : Int) (held : List Int) (made : Nat) (e0 : Int) (gone : List (Int × Int)) : List (Int × Int) → List (Int × Int) → Q
  | [], stay => ⟨.fin ⟨v, true, 0, a, []⟩, made, stay, e0⟩
  | g :: gs, stay => ⟨.s1 v a held g gs stay, made, gone, e0⟩
def scanQ (v a : Int) (made : Nat) (e0 : Int) (gone : List (Int × Int)) (held : List Int) : List Int → Q
  | [] => siftQ v a held made e0 gone gone []
  | c :: cs => ⟨.rs v a held c cs, made, gone, e0⟩
/-- Behind an answer. -/
def tell (l : LayT) (q : Q) (r : ResT) : Q := match q.pc with
  | .t1 => if (ofW r.val).idx = 0 then ⟨.fin ⟨0, false, 8, q.made, []⟩, q.made + 1, q.gone, q.e0⟩ else ⟨.t2 r.val, q.made + 1, q.gone, q.e0⟩
  | .t2 f => ⟨.t3 f r.val, q.made + 1, q.gone, q.e0⟩
  | .t3 f _ => if r.ok then ⟨.t4 (ofW f).idx, q.made + 1, q.gone, q.e0⟩ else ⟨.t1, q.made + 1, q.gone, q.e0⟩
  | .t4 n => ⟨.t5 n r.val, q.made + 1, q.gone, q.e0⟩
  | .t5 n _ => ⟨.p0 n, q.made + 1, q.gone, q.e0⟩
  | .p0 n => ⟨.p1 n, q.made + 1, q.gone, q.e0⟩
  | .p1 n => ⟨.p2 n r.val, q.made + 1, q.gone, q.e0⟩
  | .p2 n w => ⟨.p3 n w, q.made + 1, q.gone, q.e0⟩
  | .p3 n _ => if r.ok then ⟨.fin ⟨0, true, 0, q.made, []⟩, q.made + 1, q.gone, q.e0⟩ else ⟨.p1 n, q.made + 1, q.gone, q.e0⟩
  | .g1 => ⟨.g2 r.val q.made, q.made + 1, q.gone, q.e0⟩
  | .g2 w a => if r.val = q.e0 then (if (ofW w).idx = 0 then (if q.e0 = 0 then ⟨.fin ⟨0, false, 0, a, []⟩, q.made + 1, q.gone, q.e0⟩ else ⟨.ce a, q.made + 1, q.gone, q.e0⟩) else ⟨.d1 w, q.made + 1, q.gone, q.e0⟩) else ⟨.g3 r.val, q.made + 1, q.gone, q.e0⟩
  | .g3 er => ⟨.g1, q.made + 1, q.gone, er⟩
  | .ce a => ⟨.fin ⟨0, false, 0, a, []⟩, q.made + 1, q.gone, 0⟩
  | .d1 w => ⟨.d2 w r.val, q.made + 1, q.gone, q.e0⟩
  | .d2 w _ => if r.ok then ⟨.d3 (ofW w).idx q.made, q.made + 1, q.gone, q.e0⟩ else ⟨.g1, q.made + 1, q.gone, q.e0⟩
  | .d3 n a => if q.e0 = 0 then ⟨.r1 n r.val a, q.made + 1, q.gone, q.e0⟩ else ⟨.c n r.val a, q.made + 1, q.gone, q.e0⟩
  | .c n v a => ⟨.r1 n v a, q.made + 1, q.gone, 0⟩
  | .r1 n v a => ⟨.r2 n v a r.val, q.made + 1, q.gone, q.e0⟩
  | .r2 n v a er => if ((q.gone.length : Int) + 1) < 2 * l.seats then ⟨.fin ⟨v, true, 0, a, []⟩, q.made + 1, q.gone ++ [(n, er)], q.e0⟩ else scanQ v a (q.made + 1) q.e0 (q.gone ++ [(n, er)]) [] (resvsF l 0 l.seats.toNat)
  | .rs v a held _ cs => scanQ v a (q.made + 1) q.e0 q.gone (held ++ [r.val]) cs
  | .s1 v a held g gs stay => if held.any (inB (max1 r.val) g.2) then siftQ v a held (q.made + 1) q.e0 q.gone gs (stay ++ [g]) else ⟨.v1 v a held g gs stay, q.made + 1, q.gone, q.e0⟩
  | .v1 v a held g gs stay => ⟨.v2 v a held g gs stay r.val, q.made + 1, q.gone, q.e0⟩
  | .v2 v a held g gs stay f => ⟨.v3 v a held g gs stay f, q.made + 1, q.gone, q.e0⟩
  | .v3 v a held g gs stay _ => if r.ok then siftQ v a held (q.made + 1) q.e0 q.gone gs stay else ⟨.v1 v a held g gs stay, q.made + 1, q.gone, q.e0⟩
  | .fin _ => q
def runQ (l : LayT) (q : Q) (log : List ResT) : Q := log.foldl (tell l) q
def endQ (l : LayT) (me top v : Int) (q : Q) : AccT × OutT × Bool := match q.pc with
  | .fin o => (acc0, { o with gone := q.gone }, true)
  | pc => (asks l me top v pc, out0, false)

/-! ### The programs are these -/
theorem do_nil {α : Type} {a : AccT} {f : ResT → Pm α} {log : List ResT} {s : PsT} (h : log.drop s.made = []) : (doM a).bind f log s = .error a := by
  have : log[s.made]? = none := by rw [List.drop_eq_nil_iff] at h; exact List.getElem?_eq_none h
  unfold Pm.bind doM; rw [this]
theorem drop_next {log rest : List ResT} {n : Nat} {r : ResT} (h : log.drop n = r :: rest) : log[n]? = some r ∧ log.drop (n + 1) = rest ∧ n < log.length := by
  have hlt : n < log.length := by
    rcases Nat.lt_or_ge n log.length with h1 | h1
    · exact h1
    · rw [List.drop_eq_nil_of_le h1] at h; cases h
  rw [List.drop_eq_getElem_cons hlt] at h
  injection h with h1 h2
  exact ⟨by rw [List.getElem?_eq_getElem hlt, h1], h2, hlt⟩
theorem do_cons {α : Type} {a : AccT} {f : ResT → Pm α} {log rest : List ResT} {s : PsT} {r : ResT} (h : log.drop s.made = r :: rest) : (doM a).bind f log s = f r log { s with made := s.made + 1 } := by
  have := (drop_next h).1
  unfold Pm.bind doM; rw [this]
theorem load_eq {α : Type} (c : Int) (f : Int → Pm α) : (loadM c).bind f = (doM ⟨1, c, 0, 0⟩).bind fun r => f r.val := by unfold loadM; rw [bind_assoc]; rfl
theorem store_eq {α : Type} (c v : Int) (f : Unit → Pm α) : (storeM c v).bind f = (doM ⟨2, c, 0, v⟩).bind fun _ => f () := by unfold storeM; rw [bind_assoc]; rfl
theorem cas_eq {α : Type} (c o v : Int) (f : Bool → Pm α) : (casM c o v).bind f = (doM ⟨3, c, o, v⟩).bind fun r => f r.ok := by unfold casM; rw [bind_assoc]; rfl

/-- A piece of a program, from here on: it does as the machine that stands at q. -/
def Does (l : LayT) (me top v : Int) (q : Q) (x : Except AccT (OutT × PsT)) (rest : List ResT) : Prop := finM x = endQ l me top v (runQ l q rest)
theorem does_do {l : LayT} {me top v : Int} {q : Q} {a : AccT} {f : ResT → Pm OutT} {log : List ResT} {s : PsT} (ha : asks l me top v q.pc = a) (hf : ∀ o, q.pc ≠ .fin o)
    (h : ∀ r rest, log.drop s.made = r :: rest → Does l me top v (tell l q r) (f r log { s with made := s.made + 1 }) rest) : Does l me top v q ((doM a).bind f log s) (log.drop s.made) := by
  cases hd : log.drop s.made with
  | nil =>
    rw [do_nil hd]
    show (a, out0, false) = endQ l me top v q
    unfold endQ
    split
    · rename_i o ho; exact absurd ho (hf o)
    · rw [ha]
  | cons r rest =>
    rw [do_cons hd]
    exact h r rest hd
theorem runQ_fin {l : LayT} {o : OutT} {n : Nat} {g : List (Int × Int)} {e : Int} : ∀ rest : List ResT, runQ l ⟨.fin o, n, g, e⟩ rest = ⟨.fin o, n, g, e⟩
  | [] => rfl
  | _ :: rest => runQ_fin rest
theorem does_fin {l : LayT} {me top v : Int} {o : OutT} {n : Nat} {g : List (Int × Int)} {e : Int} {s : PsT} {rest : List ResT} (hg : s.gone = g) : Does l me top v ⟨.fin o, n, g, e⟩ (.ok (o, s)) rest := by
  unfold Does
  rw [runQ_fin]
  subst hg
  rfl
section
variable {l : LayT} {me top v0 : Int}

theorem push_sim {n : Int} : ∀ (k : Nat) (log : List ResT) (s : PsT), log.length - s.made < k → Does l me top v0 ⟨.p1 n, s.made, s.gone, s.e0⟩ (pushL l top n k log s) (log.drop s.made)
  | 0, log, s, h => by omega
  | k + 1, log, s, h => by
    rw [pushL, load_eq]
    refine does_do rfl (by simp) fun r rest hd => ?_
    obtain ⟨_, hd2, hd3⟩ := drop_next hd
    subst hd2
    rw [store_eq]
    show Does l me top v0 ⟨.p2 n r.val, s.made + 1, s.gone, s.e0⟩ _ _
    refine does_do (s := { s with made := s.made + 1 }) rfl (by simp) fun r2 rest hd => ?_
    obtain ⟨_, hd2, hd4⟩ := drop_next hd
    subst hd2
    rw [cas_eq]
    show Does l me top v0 ⟨.p3 n r.val, s.made + 1 + 1, s.gone, s.e0⟩ _ _
    refine does_do (s := { s with made := s.made + 1 + 1 }) rfl (by simp) fun r3 rest hd => ?_
    obtain ⟨_, hd2, hd5⟩ := drop_next hd
    subst hd2
    show Does l me top v0 (if r3.ok then _ else _) _ _
    split
    · rw [bind_ok last_ok]
      show Does l me top v0 ⟨.fin ⟨0, true, 0, ((s.made + 1 + 1 : Nat) : Int), []⟩, s.made + 1 + 1 + 1, s.gone, s.e0⟩ (.ok (⟨0, true, 0, ((s.made + 1 + 1 + 1 : Nat) : Int) - 1, []⟩, _)) _
      rw [show ((s.made + 1 + 1 + 1 : Nat) : Int) - 1 = ((s.made + 1 + 1 : Nat) : Int) by omega]
      exact does_fin rfl
    · exact push_sim k log { s with made := s.made + 1 + 1 + 1 } (by simp only at hd5 ⊢; omega)
theorem take_sim {f : Int × Int × Bool → Pm OutT} (hf : ∀ n a log s, Does l me top v0 ⟨.p0 n, s.made, s.gone, s.e0⟩ (f (n, a, true) log s) (log.drop s.made)) (hf2 : ∀ a log s, f (0, a, false) log s = .ok (⟨0, false, 8, a, []⟩, s)) :
    ∀ (k : Nat) (log : List ResT) (s : PsT), log.length - s.made < k → Does l me top v0 ⟨.t1, s.made, s.gone, s.e0⟩ ((takeL l k).bind f log s) (log.drop s.made)
  | 0, log, s, h => by omega
  | k + 1, log, s, h => by
    rw [takeL, bind_assoc, load_eq]
    refine does_do rfl (by simp) fun r rest hd => ?_
    obtain ⟨_, hd2, hd3⟩ := drop_next hd
    subst hd2
    show Does l me top v0 (if (ofW r.val).idx = 0 then _ else _) _ _
    split
    · rw [bind_assoc, bind_ok last_ok]
      show Does l me top v0 _ (f (0, ((s.made + 1 : Nat) : Int) - 1, false) log _) _
      rw [hf2, show ((s.made + 1 : Nat) : Int) - 1 = (s.made : Int) by omega]
      exact does_fin rfl
    · rw [bind_assoc, load_eq]
      refine does_do (s := { s with made := s.made + 1 }) rfl (by simp) fun r2 rest hd => ?_
      obtain ⟨_, hd2, hd4⟩ := drop_next hd
      subst hd2
      rw [bind_assoc, cas_eq]
      show Does l me top v0 ⟨.t3 r.val r2.val, s.made + 1 + 1, s.gone, s.e0⟩ _ _
      refine does_do (s := { s with made := s.made + 1 + 1 }) rfl (by simp) fun r3 rest hd => ?_
      obtain ⟨_, hd2, hd5⟩ := drop_next hd
      subst hd2
      show Does l me top v0 (if r3.ok then _ else _) _ _
      split
      · rw [bind_assoc, bind_ok last_ok, bind_assoc, load_eq]
        refine does_do (s := { s with made := s.made + 1 + 1 + 1 }) rfl (by simp) fun r4 rest hd => ?_
        obtain ⟨_, hd2, hd6⟩ := drop_next hd
        subst hd2
        rw [bind_assoc, store_eq]
        show Does l me top v0 ⟨.t5 (ofW r.val).idx r4.val, s.made + 1 + 1 + 1 + 1, s.gone, s.e0⟩ _ _
        refine does_do (s := { s with made := s.made + 1 + 1 + 1 + 1 }) rfl (by simp) fun r5 rest hd => ?_
        obtain ⟨_, hd2, hd7⟩ := drop_next hd
        subst hd2
        exact hf (ofW r.val).idx _ log { s with made := s.made + 1 + 1 + 1 + 1 + 1 }
      · exact take_sim hf hf2 k log { s with made := s.made + 1 + 1 + 1 } (by simp only at hd5 ⊢; omega)
theorem give_sim {v a : Int} {held : List Int} {g : Int × Int} {gs stay : List (Int × Int)} {f : Unit → Pm OutT} (hf : ∀ log s, Does l me top v0 (siftQ v a held s.made s.e0 s.gone gs stay) (f () log s) (log.drop s.made)) :
    ∀ (k : Nat) (log : List ResT) (s : PsT), log.length - s.made < k → Does l me top v0 ⟨.v1 v a held g gs stay, s.made, s.gone, s.e0⟩ ((giveL l g.1 k).bind f log s) (log.drop s.made)
  | 0, log, s, h => by omega
  | k + 1, log, s, h => by
    rw [giveL, bind_assoc, load_eq]
    refine does_do rfl (by simp) fun r rest hd => ?_
    obtain ⟨_, hd2, hd3⟩ := drop_next hd
    subst hd2
    rw [bind_assoc, store_eq]
    show Does l me top v0 ⟨.v2 v a held g gs stay r.val, s.made + 1, s.gone, s.e0⟩ _ _
    refine does_do (s := { s with made := s.made + 1 }) rfl (by simp) fun r2 rest hd => ?_
    obtain ⟨_, hd2, hd4⟩ := drop_next hd
    subst hd2
    rw [bind_assoc, cas_eq]
    show Does l me top v0 ⟨.v3 v a held g gs stay r.val, s.made + 1 + 1, s.gone, s.e0⟩ _ _
    refine does_do (s := { s with made := s.made + 1 + 1 }) rfl (by simp) fun r3 rest hd => ?_
    obtain ⟨_, hd2, hd5⟩ := drop_next hd
    subst hd2
    show Does l me top v0 (if r3.ok then _ else _) _ _
    split
    · exact hf log { s with made := s.made + 1 + 1 + 1 }
    · exact give_sim hf k log { s with made := s.made + 1 + 1 + 1 } (by simp only at hd5 ⊢; omega)
theorem sift_sim {v a : Int} {held : List Int} : ∀ (gs stay : List (Int × Int)) (log : List ResT) (s : PsT), Does l me top v0 (siftQ v a held s.made s.e0 s.gone gs stay) ((siftL l held gs stay).bind (fun st => (setGone st).bind fun _ => .pure ⟨v, true, 0, a, []⟩) log s) (log.drop s.made)
  | [], stay, log, s => by
    rw [siftL]
    exact does_fin rfl
  | g :: gs, stay, log, s => by
    rw [siftL, bind_assoc, load_eq]
    refine does_do (q := ⟨.s1 v a held g gs stay, s.made, s.gone, s.e0⟩) rfl (by simp) fun r rest hd => ?_
    obtain ⟨_, hd2, hd3⟩ := drop_next hd
    subst hd2
    show Does l me top v0 (if held.any (inB (max1 r.val) g.2) then _ else _) _ _
    split
    · exact sift_sim gs (stay ++ [g]) log { s with made := s.made + 1 }
    · rw [bind_assoc]
      exact give_sim (fun log s => sift_sim gs stay log s) (log.length + 1 - (s.made + 1)) log { s with made := s.made + 1 } (by simp only; omega)
theorem scan_sim {v a : Int} {gone : List (Int × Int)} : ∀ (cs held : List Int) (log : List ResT) (s : PsT), s.gone = gone → Does l me top v0 (scanQ v a s.made s.e0 gone held cs) ((loadAcc held cs).bind (fun held => (siftL l held gone []).bind (fun st => (setGone st).bind fun _ => .pure ⟨v, true, 0, a, []⟩)) log s) (log.drop s.made)
  | [], held, log, s, hg => by
    rw [loadAcc]
    subst hg
    exact sift_sim s.gone [] log s
  | c :: cs, held, log, s, hg => by
    rw [loadAcc, bind_assoc, load_eq]
    refine does_do (q := ⟨.rs v a held c cs, s.made, gone, s.e0⟩) rfl (by simp) fun r rest hd => ?_
    obtain ⟨_, hd2, hd3⟩ := drop_next hd
    subst hd2
    exact scan_sim cs (held ++ [r.val]) log { s with made := s.made + 1 } hg
theorem scan_bind (gone : List (Int × Int)) (o : OutT) : (scanM l gone).bind (fun _ => .pure o) = (loadAcc [] (resvsF l 0 l.seats.toNat)).bind (fun held => (siftL l held gone []).bind (fun st => (setGone st).bind fun _ => .pure o)) := by
  unfold scanM
  rw [bind_assoc]
  congr 1
  funext held
  rw [bind_assoc]
theorem retire_sim {n v a : Int} (log : List ResT) (s : PsT) : Does l me top v0 ⟨.r1 n v a, s.made, s.gone, s.e0⟩ ((retireM l n).bind (fun _ => .pure ⟨v, true, 0, a, []⟩) log s) (log.drop s.made) := by
  rw [retireM, bind_assoc, load_eq]
  refine does_do rfl (by simp) fun r rest hd => ?_
  obtain ⟨_, hd2, hd3⟩ := drop_next hd
  subst hd2
  rw [bind_assoc]
  show Does l me top v0 ⟨.r2 n v a r.val, s.made + 1, s.gone, s.e0⟩ _ _
  refine does_do (s := { s with made := s.made + 1 }) rfl (by simp) fun r2 rest hd => ?_
  obtain ⟨_, hd2, hd4⟩ := drop_next hd
  subst hd2
  show Does l me top v0 (if ((s.gone.length : Int) + 1) < 2 * l.seats then _ else _) _ _
  unfold Pm.bind
  simp only
  split
  · exact does_fin rfl
  · have := scan_sim (l := l) (me := me) (top := top) (v0 := v0) (v := v) (a := a) (gone := s.gone ++ [(n, r.val)]) (resvsF l 0 l.seats.toNat) [] log { s with made := s.made + 1 + 1, gone := s.gone ++ [(n, r.val)] } rfl
    show Does l me top v0 _ ((scanM l (s.gone ++ [(n, r.val)])).bind (fun _ => .pure ⟨v, true, 0, a, []⟩) log { s with made := s.made + 1 + 1, gone := s.gone ++ [(n, r.val)] }) _
    rw [scan_bind]
    exact this
/-- What a program does behind its guard. -/
def afterQ (w a : Int) (s : PsT) : Q := if (ofW w).idx = 0 then (if s.e0 = 0 then ⟨.fin ⟨0, false, 0, a, []⟩, s.made, s.gone, s.e0⟩ else ⟨.ce a, s.made, s.gone, s.e0⟩) else ⟨.d1 w, s.made, s.gone, s.e0⟩
theorem guard_sim {f : Int × Int → Pm OutT} {log : List ResT} {M : Nat} (hf : ∀ w a s, s.e1 = 0 → s.e2 = 0 → M ≤ s.made → Does l me top v0 (afterQ w a s) (f (w, a) log s) (log.drop s.made)) :
    ∀ (k : Nat) (s : PsT), s.e1 = 0 → s.e2 = 0 → M ≤ s.made → log.length - s.made < k → Does l me top v0 ⟨.g1, s.made, s.gone, s.e0⟩ ((guardL l me top k).bind f log s) (log.drop s.made)
  | 0, s, _, _, _, h => by omega
  | k + 1, s, h1, h2, hM, h => by
    rw [guardL, bind_assoc, load_eq]
    refine does_do rfl (by simp) fun r rest hd => ?_
    obtain ⟨_, hd2, hd3⟩ := drop_next hd
    subst hd2
    rw [bind_assoc, bind_ok last_ok, bind_assoc, load_eq]
    show Does l me top v0 ⟨.g2 r.val s.made, s.made + 1, s.gone, s.e0⟩ _ _
    refine does_do (s := { s with made := s.made + 1 }) rfl (by simp) fun r2 rest hd => ?_
    obtain ⟨_, hd2, hd4⟩ := drop_next hd
    subst hd2
    show Does l me top v0 (if r2.val = s.e0 then _ else _) _ _
    unfold Pm.bind
    simp only
    split
    · rename_i he
      have := hf r.val (((s.made + 1 : Nat) : Int) - 1) { s with made := s.made + 1 + 1 } h1 h2 (by simp only; omega)
      show Does l me top v0 _ (f (r.val, ((s.made + 1 : Nat) : Int) - 1) log { s with made := s.made + 1 + 1 }) _
      rw [show ((s.made + 1 : Nat) : Int) - 1 = (s.made : Int) by omega] at this ⊢
      exact this
    · have key : ∀ m : Pm OutT, m = ((storeM (resvF l me 0) r2.val).bind (fun _ log s => guardL l me top k log { s with e0 := r2.val })).bind f → Does l me top v0 ⟨.g3 r2.val, s.made + 1 + 1, s.gone, s.e0⟩ (m log { s with made := s.made + 1 + 1 }) (log.drop (s.made + 1 + 1)) := by
        intro m hm
        rw [hm, bind_assoc, store_eq]
        refine does_do (s := { s with made := s.made + 1 + 1 }) rfl (by simp) fun r3 rest hd => ?_
        obtain ⟨_, hd2, hd5⟩ := drop_next hd
        subst hd2
        exact guard_sim hf k { s with made := s.made + 1 + 1 + 1, e0 := r2.val } h1 h2 (by simp only; omega) (by simp only at hd5 ⊢; omega)
      exact key _ rfl
theorem clear_eq {α : Type} {f : Unit → Pm α} {log : List ResT} {s : PsT} (h1 : s.e1 = 0) (h2 : s.e2 = 0) : (clearM l me).bind f log s = if s.e0 = 0 then f () log s else (doM ⟨2, resvF l me 0, 0, 0⟩).bind (fun _ log s => f () log { s with e0 := 0 }) log s := by
  have e : clearM l me log s = ((clr1 l me 0 s.e0).bind fun _ => (clr1 l me 1 s.e1).bind fun _ => (clr1 l me 2 s.e2).bind fun _ => .pure ()) log s := rfl
  have hb : ∀ m : Pm Unit, clearM l me log s = m log s → (clearM l me).bind f log s = m.bind f log s := fun m hm => by unfold Pm.bind; rw [hm]
  rw [hb _ e, h1, h2]
  simp only [clr1, if_true]
  split
  · rfl
  · rw [bind_assoc, bind_assoc, store_eq]
    rfl
theorem pop_sim : ∀ (k : Nat) (log : List ResT) (s : PsT), s.e1 = 0 → s.e2 = 0 → s.made ≤ log.length → log.length - s.made < k → Does l me top v0 ⟨.g1, s.made, s.gone, s.e0⟩ (popL l me top k log s) (log.drop s.made)
  | 0, log, s, _, _, _, h => by omega
  | k + 1, log, s, h1, h2, hl, h => by
    rw [popL]
    refine guard_sim (M := s.made) (fun w a s' e1 e2 hM => ?_) (log.length + 1 - s.made) s h1 h2 (Nat.le_refl _) (by omega)
    simp only [afterQ]
    split
    · rw [clear_eq e1 e2]
      split
      · exact does_fin rfl
      · refine does_do rfl (by simp) fun r rest hd => ?_
        exact does_fin rfl
    · rw [load_eq]
      refine does_do rfl (by simp) fun r rest hd => ?_
      obtain ⟨_, hd2, hd3⟩ := drop_next hd
      subst hd2
      rw [cas_eq]
      show Does l me top v0 ⟨.d2 w r.val, s'.made + 1, s'.gone, s'.e0⟩ _ _
      refine does_do (s := { s' with made := s'.made + 1 }) rfl (by simp) fun r2 rest hd => ?_
      obtain ⟨_, hd2, hd4⟩ := drop_next hd
      subst hd2
      show Does l me top v0 (if r2.ok then _ else _) _ _
      split
      · rw [bind_ok last_ok, load_eq]
        refine does_do (s := { s' with made := s'.made + 1 + 1 }) rfl (by simp) fun r3 rest hd => ?_
        obtain ⟨_, hd2, hd5⟩ := drop_next hd
        subst hd2
        rw [clear_eq (s := { s' with made := s'.made + 1 + 1 + 1 }) e1 e2]
        show Does l me top v0 (if s'.e0 = 0 then _ else _) _ _
        simp only
        rw [show ((s'.made + 1 + 1 : Nat) : Int) - 1 = ((s'.made + 1 : Nat) : Int) by omega]
        split
        · exact retire_sim log { s' with made := s'.made + 1 + 1 + 1 }
        · refine does_do (s := { s' with made := s'.made + 1 + 1 + 1 }) rfl (by simp) fun r4 rest hd => ?_
          obtain ⟨_, hd2, hd6⟩ := drop_next hd
          subst hd2
          exact retire_sim log { s' with made := s'.made + 1 + 1 + 1 + 1, e0 := 0 }
      · exact pop_sim k log { s' with made := s'.made + 1 + 1 } e1 e2 (by simp only at hd4 ⊢; omega) (by simp only at hd4 ⊢; omega)
/-- Where an operation's program begins. -/
def startQ (op : OpT) (gone : List (Int × Int)) : Q := ⟨if op.kind = 4 then .t1 else .g1, 0, gone, 0⟩
/-- What an operation's program does next: by the machine. -/
theorem next_run {gone : List (Int × Int)} {op : OpT} {log : List ResT} (ht : ¬ topF l op.obj < 0) (hk : op.kind = 4 ∨ op.kind = 5) : nextF l me gone op log = endQ l me (topF l op.obj) op.a (runQ l (startQ op gone) log) := by
  unfold nextF
  rw [if_neg ht]
  rcases hk with hk | hk
  · rw [if_pos hk]
    unfold startQ
    rw [if_pos hk]
    have := take_sim (l := l) (me := me) (top := topF l op.obj) (v0 := op.a) (f := fun p => if p.2.2 then (storeM (nodeF l p.1 1) op.a).bind fun _ => fun log s => pushL l (topF l op.obj) p.1 (log.length + 1 - s.made) log s else .pure ⟨0, false, 8, p.2.1, []⟩) (fun n a log s => by
      simp only [if_true]
      rw [store_eq]
      refine does_do rfl (by simp) fun r rest hd => ?_
      obtain ⟨_, hd2, hd3⟩ := drop_next hd
      subst hd2
      exact push_sim (log.length + 1 - (s.made + 1)) log { s with made := s.made + 1 } (by simp only; omega)) (fun a log s => rfl) (log.length + 1) log ⟨0, gone, 0, 0, 0⟩ (by simp)
    exact this
  · rw [if_neg (by omega), if_pos hk]
    unfold startQ
    rw [if_neg (by omega)]
    have := pop_sim (l := l) (me := me) (top := topF l op.obj) (v0 := op.a) (log.length + 1) log ⟨0, gone, 0, 0, 0⟩ rfl rfl (by simp) (by simp)
    exact this
end
end Go.Proofs.Ytpecgpmdchejdaa
