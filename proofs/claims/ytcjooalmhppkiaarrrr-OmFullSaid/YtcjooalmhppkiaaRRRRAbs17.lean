/- Slices over variables of ours, to which is appended and which are cut short; bits. -/
import Derived.Test.YtcjooalmhppkiaaRRRRAbs16
namespace Go.Proofs.YtcjooalmhppkiaaRRRR
open Go.RowKit

section
variable {P : Program} {T : Nat → Option TI} {Γ : Ctx} {σ σ' τ : St} {o : Oper} {l0 l : List Oper} {Q : Exit → St → Prop}

def notN (n : Nat) : Nat → Bool := fun m => !Nat.beq n m
theorem notN_ne {n m : Nat} (h : notN n m = true) : m ≠ n := fun e => by subst e; simp [notN] at h
theorem notN_of {n m : Nat} (h : m ≠ n) : notN n m = true := by
  have : Nat.beq n m = false := by rw [Bool.eq_false_iff]; intro hb; exact h (Nat.eq_of_beq_eq_true hb).symm
  simp [notN, this]

/-- A variable is forgotten. -/
theorem Conc.forget {e : Env} {a : Act} (hc : Conc Γ σ e a) (nm : Nat) (hk : kv Γ.kb nm = none) : Conc Γ ⟨cutS (notN nm) σ.s, cutB (Nat.beq nm) (notN nm) σ.b, σ.g⟩ (e.cut (notN nm) fun _ => true) a := by
  have hbx : ∀ b k, (e.cut (notN nm) fun _ => true).bx b = some k → e.bx b = some k := fun b k h => by
    have h' : (if notN nm b = true then e.bx b else none) = some k := h
    split at h'
    · exact h'
    · cases h'
  have hgr : ∀ k, (e.cut (notN nm) fun _ => true).gr k = e.gr k := fun k => by
    show (match e.gr k with | some g => if true = true then some g else none | none => none) = _
    cases e.gr k <;> simp
  have hgi : ∀ g, (e.cut (notN nm) fun _ => true).gi g = e.gi g := fun g => by
    show (if true = true then e.gi g else none) = _
    simp
  refine ⟨hc.size, hc.df, fun t d ht => ?_, fun b cs hb => ?_, fun b hb => ?_, fun g => by rw [hgi]; exact hc.gs g, hc.env.kept, hc.env.cl, fun b k h => ?_, fun b c k h1 h2 => hc.env.inj b c k (hbx _ _ h1) (hbx _ _ h2), fun k g h => ?_, fun b k h => ?_⟩
  · obtain ⟨d0, h1, rfl⟩ := cutS_get ht
    exact keep_rep (hc.slots t d0 h1)
  · obtain ⟨h1, cs0, h2, rfl⟩ := cutB_get hb
    obtain ⟨k, vs, el, h3, h4, h5⟩ := hc.boxes b cs0 h2
    refine ⟨k, vs, el, ?_, h4, cutC_rep h5⟩
    show (if notN nm b = true then e.bx b else none) = _
    rw [if_pos (by simp [notN, h1])]; exact h3
  · show (if notN nm b = true then e.bx b else none) = _
    rcases cutB_none hb with h | h
    · rw [if_neg (by simp only [notN, h]; decide)]
    · rw [hc.nobox b h]; simp
  · obtain ⟨h1, h2, h3, h4⟩ := hc.env.bx b k (hbx b k h)
    exact ⟨h1, h2, h3, by rw [hgr]; exact h4⟩
  · rw [hgr] at h
    obtain ⟨G, cur, h1, h2⟩ := hc.env.gr k g h
    exact ⟨G, cur, by rw [hgi]; exact h1, h2⟩
  · show (if notN nm b = true then e.bx b else none) = _
    rw [if_pos (notN_of (fun e' => by rw [e', hk] at h; cases h))]
    exact hc.env.kb b k h

/-- A block gets a name. -/
theorem Conc.give {e : Env} {a : Act} (hc : Conc Γ σ e a) {b k : Nat} {cs : List Dt} (hb : kv σ.b b = none) (hk : k < e.w.heap.size) (hbase : Γ.w0.heap.size ≤ k ∨ Γ.own k) (hcl : e.cl k = some 0) (hgr : e.gr k = none) (hfree : ∀ c, e.bx c ≠ some k)
    (hat : BoxAt (e.withBox b k) b cs) : Conc Γ ⟨σ.s, (b, cs) :: σ.b, σ.g⟩ (e.withBox b k) a := by
  have hn := hc.nobox b hb
  have hE := withBox_ends (k := k) hn
  refine ⟨hc.size, hc.df, fun t d ht => (hc.slots t d ht).next hE, fun c ds hcd => ?_, fun c hcn => ?_, hc.gs, ?_⟩
  · simp only [lk_cons] at hcd
    split at hcd
    · rename_i hbc; subst hbc; cases hcd; exact hat
    · exact (hc.boxes c ds hcd).ends hE rfl
  · simp only [lk_cons] at hcn
    split at hcn
    · cases hcn
    · rename_i hbc
      show (if c = b then some k else e.bx c) = none
      rw [if_neg (fun e' => hbc e'.symm)]
      exact hc.nobox c hcn
  · refine ⟨hc.env.kept, hc.env.cl, fun c j hj => ?_, fun c c' j h1 h2 => ?_, hc.env.gr, fun c j hj => hE.bx c j (hc.env.kb c j hj)⟩
    · have hj' : (if c = b then some k else e.bx c) = some j := hj
      split at hj'
      · cases hj'; exact ⟨hk, hbase, hcl, hgr⟩
      · exact hc.env.bx c j hj'
    · have h1' : (if c = b then some k else e.bx c) = some j := h1
      have h2' : (if c' = b then some k else e.bx c') = some j := h2
      by_cases e1 : c = b <;> by_cases e2 : c' = b
      · rw [e1, e2]
      · rw [if_pos e1] at h1'; rw [if_neg e2] at h2'; cases h1'; exact absurd h2' (hfree c')
      · rw [if_neg e1] at h1'; rw [if_pos e2] at h2'; cases h2'; exact absurd h1' (hfree c)
      · rw [if_neg e1] at h1'; rw [if_neg e2] at h2'; exact hc.env.inj c c' j h1' h2'

/-- A block of nobody is written. -/
theorem Conc.setFree {e : Env} {a : Act} (hc : Conc Γ σ e a) {k : Nat} (us : List Value) (hbase : Γ.w0.heap.size ≤ k ∨ Γ.own k) (hcl : e.cl k = some 0) (hgr : e.gr k = none) (hfree : ∀ c, e.bx c ≠ some k) :
    Conc Γ σ { e with w := e.w.setRow k us.toArray } a ∧ Ends e { e with w := e.w.setRow k us.toArray } := by
  have hoth : ∀ j, j ≠ k → (e.w.setRow k us.toArray).heap[j]? = e.w.heap[j]? := fun j hj => setRow_other e.w k j _ hj
  have hE : Ends e { e with w := e.w.setRow k us.toArray } := by
    refine ⟨fun b' o v hcl' hv => ?_, fun _ _ h => h, fun _ G h => ⟨G, h, rfl, rfl, Nat.le_refl _⟩, fun j g G cur h5 h6 h7 => ⟨h5, cur, ?_, rfl⟩⟩
    · have hne : b' ≠ k := fun e' => by subst e'; exact absurd (hcl' 0 hcl) (by omega)
      exact ⟨hcl', by show (e.w.setRow k us.toArray).cell? _ = _; rw [World.cell?_of_block (w := e.w) (hoth b' hne)]; exact hv⟩
    · show (e.w.setRow k us.toArray).heap[j]? = _
      rw [hoth j (fun e' => by subst e'; rw [hgr] at h5; cases h5)]; exact h7
  refine ⟨⟨hc.size, hc.df, fun t d ht => (hc.slots t d ht).next hE, fun b' ds hd => ?_, hc.nobox, hc.gs, ?_⟩, hE⟩
  · obtain ⟨k', vs', el', h5, h6, h7⟩ := hc.boxes b' ds hd
    refine ⟨k', vs', el', h5, ?_, h7.next hE⟩
    show (e.w.setRow k us.toArray).heap[k']? = _
    rw [hoth k' (fun e' => hfree b' (by rw [h5, e']))]; exact h6
  · refine ⟨⟨hc.env.kept.os, hc.env.kept.tape, hc.env.kept.output, by show _ ≤ (e.w.setRow k us.toArray).heap.size; rw [setRow_size]; exact hc.env.kept.size, fun j hj ho => ?_⟩, hc.env.cl, fun b' j hj => ?_, hc.env.inj, fun j g hg => ?_, hc.env.kb⟩
    · show (e.w.setRow k us.toArray).heap[j]? = _
      rw [hoth j (fun e' => by subst e'; rcases hbase with h2 | h2 <;> first | omega | exact ho h2)]; exact hc.env.kept.block j hj ho
    · obtain ⟨h5, h6, h7, h8⟩ := hc.env.bx b' j hj
      exact ⟨by show j < (e.w.setRow k us.toArray).heap.size; rw [setRow_size]; exact h5, h6, h7, h8⟩
    · obtain ⟨G, cur, h5, h6, h7, h8, h9⟩ := hc.env.gr j g hg
      refine ⟨G, cur, h5, by show j < (e.w.setRow k us.toArray).heap.size; rw [setRow_size]; exact h6, h7, h8, ?_⟩
      show (e.w.setRow k us.toArray).heap[j]? = _
      rw [hoth j (fun e' => by subst e'; rw [hgr] at hg; cases hg)]; exact h9

theorem run_append_room_el (w : World) (t ty e e0 : TypeId) (i : TypeInfo) (ht : P.underlying t = some (.slice e)) (hi : P.info? e = some i)
    (g sLen sCap : Nat) (cur : Array Value) (hg : w.heap[g]? = some (.cells cur e0 (0, 0)))
    (a : Addr) (m c : Nat) (news : List Value) (hl : news.length = m * i.size) (hnews : ∀ (j : Nat) u, news[j]? = some u → w.cell? (a.add j) = some u) (h1 : ∀ u ∈ news, u.oneCell' = true)
    (hroom : sLen + m ≤ sCap) (hfit : sLen * i.size + news.length ≤ cur.size) :
    (Builtin.append_ #[t, t] ty #[.slice (some ⟨g, 0, none⟩) sLen sCap, .slice (some a) m c]).run P w =
      .ok (.slice (some ⟨g, 0, none⟩) (sLen + m) sCap) (w.setRow g (cur.toList.take (sLen * i.size) ++ news ++ cur.toList.drop (sLen * i.size + news.length)).toArray) := by
  have hf := run_firstCells_some (P := P) w i.size m a m c news hl hnews
  have hst := run_storeCells_at P g (sLen * i.size) e0 news 0 cur w hg (by simpa using hfit) h1
  simp only [Nat.add_zero] at hst
  simp [Builtin.append_, run_underlying ht, sizeOf, typeInfo, hi, Builtin.lenOf, hroom, hf, Addr.add_lit, hst]

/-- Is it a slice over a variable of ours, or none yet? -/
inductive RowAt (e : Env) (nm n c : Nat) (ps : List Pl) : Value → Prop where
  | none (hn : n = 0) (hc : c = 0) (hps : ps = []) : RowAt e nm n c ps (.slice none 0 0)
  | empty {ad : Addr} (hn : n = 0) (hc : c = 0) (hps : ps = []) : RowAt e nm n c ps (.slice (some ad) 0 0)
  | some {k : Nat} {vs : List Value} {el : TypeId} (hk : e.bx nm = some k) (hh : e.w.heap[k]? = some (.cells vs.toArray el (0, 0))) (hl : vs.length = c) (hn : n ≤ c) (hps : ps.length = n) (hr : ∀ (j : Nat) v x, vs[j]? = some v → ps[j]? = some x → PRep e v x) : RowAt e nm n c ps (.slice (some ⟨k, 0, none⟩) n c)

theorem plain_rep {e : Env} {vs : List Value} {cs : List Dt} {ps : List Pl} (h : DReps e vs cs) (hp : cs.take ps.length = ps.map Dt.p) : ∀ (j : Nat) v x, vs[j]? = some v → ps[j]? = some x → PRep e v x := by
  intro j v x hv hx
  have hj := (List.getElem?_eq_some_iff.1 hx).1
  have h1 : (cs.take ps.length)[j]? = some (.p x) := by rw [hp, List.getElem?_map, hx]; rfl
  rw [List.getElem?_take, if_pos hj] at h1
  have := h.2 j v _ hv h1
  cases this with
  | p h => exact h
theorem plain_back {e : Env} {vs : List Value} {ps : List Pl} (hn : ps.length ≤ vs.length) (h : ∀ (j : Nat) v x, vs[j]? = some v → ps[j]? = some x → PRep e v x) : DReps e vs (ps.map Dt.p ++ List.replicate (vs.length - ps.length) .any) := by
  refine ⟨by simp; omega, fun j v d hv hd => ?_⟩
  rcases Nat.lt_or_ge j ps.length with hj | hj
  · rw [List.getElem?_append_left (by simpa using hj), List.getElem?_map, List.getElem?_eq_getElem hj] at hd
    cases hd
    exact .p (h j v _ hv (List.getElem?_eq_getElem hj))
  · rw [List.getElem?_append_right (by simpa using hj), List.getElem?_replicate] at hd
    split at hd
    · cases hd; exact .any
    · cases hd

/-- Cells that name no variable. -/
def PlainC (cs : List Dt) : Prop := ∀ B G, Dt.ok.oks B G cs = true
theorem plain_oks (ps : List Pl) (r : Nat) : PlainC (ps.map Dt.p ++ List.replicate r Dt.any) := by
  intro B G
  induction ps with
  | nil =>
    induction r with
    | zero => rfl
    | succ r ih => simp only [List.map_nil, List.nil_append, List.replicate_succ, Dt.ok.oks, Dt.ok, Bool.true_and] at ih ⊢; exact ih
  | cons p ps ih => simp only [List.map_cons, List.cons_append, Dt.ok.oks, Dt.ok, Bool.true_and]; exact ih

theorem appendA_core (hT : TabOk P T) {e : Env} {a : Act} (hc : Conc Γ σ e a) {ty : TypeId} {nm n m c el z1 z2 : Nat} {z3 : Value} {ps qs : List Pl} {i : TI} {vx vy : Value} {t : TypeId} (ht : T t = some ⟨.slice el, z1, z2, z3⟩) (hel : T el = some i) (hzs : i.zero.cells.size = 1) (hsz1 : i.sz = 1) (hkb : kv Γ.kb nm = none)
    (hx : RowAt e nm n c ps vx) (hcm : c ≤ maxLen) (hy1 : PRep e vy (.sl false m qs)) (hm : 0 < m) (hqs : qs.length = m)
    (h63 : n + m ≤ maxLen) (hby : (n + m) * i.bytes ≤ 140737488355328) : ∃ v e' cs' c', (Builtin.append_ #[t, t] ty #[vx, vy]).run P e.w = .ok v e'.w ∧ cs'.length = c' ∧ c' ≤ maxLen ∧ n + m ≤ c' ∧ cs'.take (n + m) = (ps ++ qs).map Dt.p ∧ PlainC cs' ∧
      Conc Γ ⟨cutS (notN nm) σ.s, (nm, cs') :: cutB (Nat.beq nm) (notN nm) σ.b, σ.g⟩ e' a ∧ DRep e' v (.arr nm 0 (n + m) c') := by
  obtain ⟨d0, hd0, hk⟩ := hT.desc t _ ht
  cases d0 <;> simp only [tkOf, reduceCtorEq, TK.slice.injEq] at hk
  rw [hk] at hd0
  obtain ⟨inf, hinf, hsz, hbytes, hz⟩ := hT.info _ i hel
  rw [hsz1] at hsz
  obtain ⟨Y, ycap, rfl, hyc, hym, hY0, _, hY⟩ := sl_open hy1
  have hqne : qs ≠ [] := fun e' => by rw [e'] at hqs; simp at hqs; omega
  rcases hY with hY | ⟨yb, yo, rfl, hYel⟩
  · exact absurd hY hqne
  obtain ⟨us, hul, huc, hu1, hur⟩ := cells_of_el hYel
  have hul' : us.length = m * inf.size := by rw [hul, hqs, hsz]; omega
  have hum : us.length = m := by rw [hul, hqs]
  have hfor := hc.forget nm hkb
  have hnone : kv (cutB (Nat.beq nm) (notN nm) σ.b) nm = none := by
    cases h : kv (cutB (Nat.beq nm) (notN nm) σ.b) nm with
    | none => rfl
    | some cs => have := (cutB_get h).1; simp at this
  -- a new block
  have hgrow : ∀ (os : List Value), os.length = n → ps.length = n → (∀ (j : Nat) v x, os[j]? = some v → ps[j]? = some x → PRep e v x) → (c < n + m) → (Builtin.append_ #[t, t] ty #[vx, .slice (some ⟨yb, yo, none⟩) m ycap]).run P e.w = .ok (.slice (some ⟨e.w.heap.size, 0, none⟩) (n + m) (grownCap e.w (n + m) c el)) (e.w.drew.alloc (.cells (os.toArray ++ us.toArray ++ Builtin.zeroCells i.zero.cells (grownCap e.w (n + m) c el - (n + m))) el)) →
      ∃ v e' cs' c', (Builtin.append_ #[t, t] ty #[vx, .slice (some ⟨yb, yo, none⟩) m ycap]).run P e.w = .ok v e'.w ∧ cs'.length = c' ∧ c' ≤ maxLen ∧ n + m ≤ c' ∧ cs'.take (n + m) = (ps ++ qs).map Dt.p ∧ PlainC cs' ∧
      Conc Γ ⟨cutS (notN nm) σ.s, (nm, cs') :: cutB (Nat.beq nm) (notN nm) σ.b, σ.g⟩ e' a ∧ DRep e' v (.arr nm 0 (n + m) c') := by
    intro os hol hps hor hlt hrun
    have hge : n + m ≤ grownCap e.w (n + m) c el := grownCap_ge _ _ _ _
    have hgm : grownCap e.w (n + m) c el ≤ maxLen := grownCap_le_maxLen _ _ _ _ h63
    generalize grownCap e.w (n + m) c el = cap at hge hgm hrun
    let e1 := e.cut (notN nm) fun _ => true
    let rowv : List Value := os ++ us ++ (Builtin.zeroCells i.zero.cells (cap - (n + m))).toList
    have hrow : os.toArray ++ us.toArray ++ Builtin.zeroCells i.zero.cells (cap - (n + m)) = rowv.toArray := by
      apply Array.ext'; simp [rowv]
    have hlen : rowv.length = cap := by
      have : (Builtin.zeroCells i.zero.cells (cap - (n + m))).toList.length = cap - (n + m) := by
        rw [Array.length_toList, size_zeroCells, hzs]; omega
      simp only [rowv, List.length_append, hol, hum, this]; omega
    rw [hrow] at hrun
    let e2 : Env := { e1 with w := e.w.drew }
    have hg1 : Grow e1 e2 := ⟨(Below.refl _ _).drew, fun _ _ => rfl, rfl, rfl, rfl⟩
    have hg2 := Env.alloc_grow e2 (.cells rowv.toArray el) (some 0)
    have hc2 := (hfor.grow hg1).grow hg2
    have hE0 : Ends e1 (e2.alloc (.cells rowv.toArray el) (some 0)) := hg1.ends.trans hg2.ends
    have hrep : ∀ (j : Nat) v x, rowv[j]? = some v → (ps ++ qs)[j]? = some x → PRep e1 v x := by
      intro j v x hv hx
      rcases Nat.lt_or_ge j n with hj | hj
      · rw [List.getElem?_append_left (by omega)] at hx
        simp only [rowv, List.append_assoc] at hv
        rw [List.getElem?_append_left (by omega)] at hv
        exact (hor j v x hv hx).cut
      · rw [List.getElem?_append_right (by omega), hps] at hx
        have hj2 := (List.getElem?_eq_some_iff.1 hx).1
        simp only [rowv, List.append_assoc] at hv
        rw [List.getElem?_append_right (by omega), hol, List.getElem?_append_left (by omega)] at hv
        exact (hur _ v x hv hx).cut
    have hpl : (ps ++ qs).length = n + m := by simp [hps, hqs]
    have hback := plain_back (e := e1) (vs := rowv) (ps := ps ++ qs) (by omega) hrep
    have hbn : (e2.alloc (.cells rowv.toArray el) (some 0)).bx nm = none := by
      show (if notN nm nm = true then e.bx nm else none) = none
      simp [notN]
    have hEb := withBox_ends (k := e.w.heap.size) hbn
    have hgive := hc2.give (b := nm) (k := e.w.heap.size) (cs := (ps ++ qs).map Dt.p ++ List.replicate (rowv.length - (ps ++ qs).length) Dt.any) hnone (by simp [Env.alloc, e2]) (.inl hc.env.kept.size) (by simp [Env.alloc, e2]) (by
        show (e.cut (notN nm) fun _ => true).gr _ = none
        show (match e.gr e.w.heap.size with | some g => if true = true then some g else none | none => none) = none
        cases hg : e.gr e.w.heap.size with
        | none => rfl
        | some g => obtain ⟨_, _, _, h3, _⟩ := hc.env.gr _ g hg; omega) (fun x hx => by
        have hx' : (if notN nm x = true then e.bx x else none) = some e.w.heap.size := hx
        split at hx'
        · have := (hc.env.bx x _ hx').1; omega
        · cases hx') ⟨e.w.heap.size, rowv, el, by simp [Env.withBox], heap_alloc_new e2.w _, (hback.next hE0).next hEb⟩
    refine ⟨_, (e2.alloc (.cells rowv.toArray el) (some 0)).withBox nm e.w.heap.size, _, cap, hrun, ?_, hgm, hge, ?_, plain_oks _ _, hgive, .arr (by simp [Env.withBox])⟩
    · simp only [List.length_append, List.length_map, List.length_replicate, hlen, hps, hqs]; omega
    · rw [← hpl]
      rw [List.take_append_of_le_length (by simp), List.take_of_length_le (by simp)]
  cases hx with
  | empty hn hc0 hps =>
    rename_i ad
    subst hn; subst hc0; subst hps
    have hrun := run_append_grow (P := P) e.w t ty el inf i.zero hd0 hinf hz ad 0 0 [] (by simp) (fun j v hj => by simp at hj) ⟨yb, yo, none⟩ m ycap us hul' huc (by omega) (by simp only [maxLen] at h63; omega) (growslice_fits (by omega) (by rw [hbytes]; exact hby))
    exact hgrow [] rfl rfl (fun j v x hj => by simp at hj) (by omega) hrun
  | none hn hc0 hps =>
    subst hn; subst hc0; subst hps
    have hrun := run_append_nil (P := P) e.w t ty el inf i.zero hd0 hinf hz ⟨yb, yo, none⟩ m ycap us hul' huc hm (by simp only [maxLen] at h63; omega) (by rw [hbytes]; simp only [Nat.zero_add] at hby; omega)
    exact hgrow [] rfl rfl (fun j v x hj => by simp at hj) (by omega) (by simpa using hrun)
  | some hk hh hl hn hps hr =>
    rename_i k vs el0
    by_cases hroom : n + m ≤ c
    · have hrun := run_append_room_el (P := P) e.w t ty el el0 inf hd0 hinf k n c vs.toArray hh ⟨yb, yo, none⟩ m ycap us hul' huc hu1 hroom (by simp [hsz, hum, hl]; omega)
      obtain ⟨h1, h2, h3, h4⟩ := hc.env.bx nm k hk
      let vs' := vs.take n ++ us ++ vs.drop (n + m)
      have hvs : (vs.toArray.toList.take (n * inf.size) ++ us ++ vs.toArray.toList.drop (n * inf.size + us.length)) = vs' := by simp [hsz, hum, vs']
      rw [hvs] at hrun
      have hfree : ∀ x, (e.cut (notN nm) fun _ => true).bx x ≠ some k := fun x hx => by
        have hx' : (if notN nm x = true then e.bx x else none) = some k := hx
        split at hx'
        · rename_i hne; exact notN_ne hne (hc.env.inj _ _ _ hx' hk)
        · cases hx'
      have hgr0 : (e.cut (notN nm) fun _ => true).gr k = none := by
        show (match e.gr k with | some g => if true = true then some g else none | none => none) = none
        rw [h4]
      obtain ⟨hset, hE⟩ := hfor.setFree vs' h2 h3 hgr0 hfree
      have hlen : vs'.length = c := by simp [vs', hum, hl]; omega
      have hpl : (ps ++ qs).length = n + m := by simp [hps, hqs]
      have hrep : ∀ (j : Nat) v x, vs'[j]? = some v → (ps ++ qs)[j]? = some x → PRep (e.cut (notN nm) fun _ => true) v x := by
        intro j v x hv hx
        rcases Nat.lt_or_ge j n with hj | hj
        · rw [List.getElem?_append_left (by omega)] at hx
          simp only [vs', List.append_assoc] at hv
          rw [List.getElem?_append_left (by simp; omega), List.getElem?_take, if_pos hj] at hv
          exact (hr j v x hv hx).cut
        · rw [List.getElem?_append_right (by omega), hps] at hx
          have hj2 := (List.getElem?_eq_some_iff.1 hx).1
          simp only [vs', List.append_assoc] at hv
          rw [List.getElem?_append_right (by simp; omega), List.length_take, hl, Nat.min_eq_left hn, List.getElem?_append_left (by omega)] at hv
          exact (hur _ v x hv hx).cut
      have hback := plain_back (vs := vs') (ps := ps ++ qs) (by omega) hrep
      have hbn : (e.cut (notN nm) fun _ => true).bx nm = none := by
        show (if notN nm nm = true then e.bx nm else none) = none
        simp [notN]
      have hEb := withBox_ends (e := { w := (e.cut (notN nm) fun _ => true).w.setRow k vs'.toArray, cl := (e.cut (notN nm) fun _ => true).cl, bx := (e.cut (notN nm) fun _ => true).bx, gr := (e.cut (notN nm) fun _ => true).gr, gi := (e.cut (notN nm) fun _ => true).gi }) (b := nm) (k := k) hbn
      have hgive := hset.give (b := nm) (k := k) (cs := (ps ++ qs).map Dt.p ++ List.replicate (vs'.length - (ps ++ qs).length) Dt.any) hnone (by show k < (e.w.setRow k _).heap.size; rw [setRow_size]; exact h1) h2 h3 hgr0 hfree ⟨k, vs', el0, by simp [Env.withBox], block_setRow hh, (hback.next hE).next hEb⟩
      refine ⟨_, _, _, c, hrun, ?_, hcm, hroom, ?_, plain_oks _ _, hgive, .arr (by simp [Env.withBox])⟩
      · simp only [List.length_append, List.length_map, List.length_replicate, hlen, hps, hqs]; omega
      · rw [← hpl]
        rw [List.take_append_of_le_length (by simp), List.take_of_length_le (by simp)]
    · have hrun := run_append_grow (P := P) e.w t ty el inf i.zero hd0 hinf hz ⟨k, 0, none⟩ n c (vs.take n) (by simp [hsz, hl]; omega) (fun j v hj => by
        rw [List.getElem?_take] at hj
        split at hj
        · rw [add_none, cell_of_row e.w k (0 + j) vs.toArray el0 (0, 0) hh]; simpa using hj
        · cases hj) ⟨yb, yo, none⟩ m ycap us hul' huc (by omega) (by simp only [maxLen] at h63; omega) (growslice_fits (by omega) (by rw [hbytes]; exact hby))
      exact hgrow (vs.take n) (by simp [hl]; omega) hps (fun j v x hv hx => by
        rw [List.getElem?_take] at hv
        split at hv
        · exact hr j v x hv hx
        · cases hv) (by omega) hrun
end
end Go.Proofs.YtcjooalmhppkiaaRRRR
