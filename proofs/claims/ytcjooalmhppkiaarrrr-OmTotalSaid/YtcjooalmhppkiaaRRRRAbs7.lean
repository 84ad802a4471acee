/- append; composite literals; parts of slices. -/
import Derived.Test.YtcjooalmhppkiaaRRRRAbs6
namespace Go.Proofs.YtcjooalmhppkiaaRRRR
open Go.RowKit

section
variable {P : Program} {T : Nat → Option TI} {Γ : Ctx} {σ σ' : St} {o : Oper}

def St.setGr (σ : St) (g : Nat) (G : Gr) : St := ⟨σ.s, σ.b, (g, G) :: σ.g⟩

/-- The environment behind an append to a group. -/
def Env.more (e : Env) (w : World) (g : Nat) (G : Gr) (k : Option Nat) : Env :=
  { w := w, cl := fun j => if some j = k ∨ e.gr j = some g then some (G.len * G.sz) else e.cl j, bx := e.bx, gr := fun j => if some j = k then some g else e.gr j, gi := fun h => if h = g then some G else e.gi h }

/-- What has become of the world: each old block is as it was, but rows of the group, whose claimed cells are. -/
structure More (e : Env) (w : World) (g : Nat) (G : Gr) (k : Option Nat) : Prop where
  os : w.os = e.w.os
  tape : w.tape = e.w.tape
  output : w.output = e.w.output
  size : e.w.heap.size ≤ w.heap.size
  old : ∀ j, j < e.w.heap.size → e.gr j ≠ some g → w.heap[j]? = e.w.heap[j]?
  row : ∀ j cur, e.gr j = some g → e.w.heap[j]? = some (.cells cur G.el (0, 0)) → ∃ cur', w.heap[j]? = some (.cells cur' G.el (0, 0)) ∧ cur'.size = cur.size ∧ ∀ i, e.claimed j i → cur'[i]? = cur[i]?
  new : ∀ j, k = some j → e.w.heap.size ≤ j ∧ j < w.heap.size ∧ ∃ cur, w.heap[j]? = some (.cells cur G.el (0, 0))

theorem More.ends {e : Env} {w : World} {g : Nat} {G G0 : Gr} {k : Option Nat} (h : More e w g G k) (hok : EnvOk Γ e) (hg : e.gi g = some G0) (hel : G.el = G0.el) (hsz : G.sz = G0.sz) (hlen : G0.len ≤ G.len) : Ends e (e.more w g G k) := by
  refine ⟨fun b i v hc hv => ?_, fun _ _ h => h, fun g' G' hg' => ?_, fun j g' G' cur h1 h2 h3 => ?_⟩
  · have hb := cell_lt' hv
    have hne : ¬ some b = k := fun e' => by have := (h.new b e'.symm).1; omega
    by_cases hgr : e.gr b = some g
    · obtain ⟨G1, cur, h1, h2, h3, h4, h5⟩ := hok.gr b g hgr
      rw [hg] at h1
      cases h1
      obtain ⟨cur', h6, h7, h8⟩ := h.row b cur hgr (by rw [hel]; exact h5)
      have hi := hc _ h4
      refine ⟨fun n hn => ?_, ?_⟩
      · have hn' : (if some b = k ∨ e.gr b = some g then some (G.len * G.sz) else e.cl b) = some n := hn
        rw [if_pos (.inr hgr)] at hn'
        cases hn'
        have := Nat.mul_le_mul_right G0.sz hlen
        rw [hsz]; omega
      · show w.cell? _ = _
        rw [cell_of_row w b i cur' G.el (0, 0) h6, h8 i hc]
        rw [cell_of_row e.w b i cur G0.el (0, 0) h5] at hv
        exact hv
    · refine ⟨fun n hn => ?_, ?_⟩
      · have hn' : (if some b = k ∨ e.gr b = some g then some (G.len * G.sz) else e.cl b) = some n := hn
        rw [if_neg (fun h' => h'.elim hne hgr)] at hn'
        exact hc n hn'
      · show w.cell? _ = _
        rw [World.cell?_of_block (w := e.w) (h.old b hb hgr)]; exact hv
  · by_cases e1 : g' = g
    · subst e1
      rw [hg] at hg'
      cases hg'
      exact ⟨G, by simp [Env.more], hel, hsz, hlen⟩
    · exact ⟨G', by simp [Env.more, e1]; exact hg', rfl, rfl, Nat.le_refl _⟩
  · have hj := heap_lt h3
    have hne : ¬ some j = k := fun e' => by have := (h.new j e'.symm).1; omega
    refine ⟨by show (if some j = k then some g else e.gr j) = _; rw [if_neg hne]; exact h1, ?_⟩
    by_cases hgr : g' = g
    · subst hgr
      rw [hg] at h2
      cases h2
      obtain ⟨cur', h6, h7, _⟩ := h.row j cur h1 (by rw [hel]; exact h3)
      exact ⟨cur', by rw [← hel]; exact h6, h7⟩
    · exact ⟨cur, by show w.heap[j]? = _; rw [h.old j hj (by rw [h1]; simpa using hgr)]; exact h3, rfl⟩

theorem More.box {e : Env} {w : World} {g : Nat} {G G0 : Gr} {k : Option Nat} (h : More e w g G k) (hok : EnvOk Γ e) (hg : e.gi g = some G0) (hel : G.el = G0.el) (hsz : G.sz = G0.sz) (hlen : G0.len ≤ G.len) {b : Nat} {cs : List Dt} (hb : BoxAt e b cs) : BoxAt (e.more w g G k) b cs := by
  obtain ⟨j, vs, el, h1, h2, h3⟩ := hb
  obtain ⟨h4, _, _, h5⟩ := hok.bx b j h1
  exact ⟨j, vs, el, h1, by show w.heap[j]? = _; rw [h.old j h4 (by rw [h5]; simp)]; exact h2, h3.next (h.ends hok hg hel hsz hlen)⟩
theorem More.ok {e : Env} {w : World} {g : Nat} {G G0 : Gr} {k : Option Nat} (h : More e w g G k) (hok : EnvOk Γ e) (hgi : e.gi g = some G0) (hel : G.el = G0.el) : EnvOk Γ (e.more w g G k) := by
  have hnk : ∀ j, j < e.w.heap.size → ¬ some j = k := fun j hj e' => by have := (h.new j e'.symm).1; omega
  refine ⟨⟨h.os.trans hok.kept.os, h.tape.trans hok.kept.tape, h.output.trans hok.kept.output, Nat.le_trans hok.kept.size h.size, fun j hj ho => ?_⟩, fun j hj ho => ?_, fun b j hb => ?_, hok.inj, fun j g' hg' => ?_, hok.kb⟩
  · have hjs := Nat.lt_of_lt_of_le hj hok.kept.size
    have hng : e.gr j ≠ some g := fun hg' => by
      obtain ⟨_, _, _, _, h3, _⟩ := hok.gr j g hg'
      rcases h3 with h3 | h3 <;> first | omega | exact ho h3
    show w.heap[j]? = _
    rw [h.old j hjs hng]; exact hok.kept.block j hj ho
  · have hjs := Nat.lt_of_lt_of_le hj hok.kept.size
    have hng : e.gr j ≠ some g := fun hg' => by
      obtain ⟨_, _, _, _, h3, _⟩ := hok.gr j g hg'
      rcases h3 with h3 | h3 <;> first | omega | exact ho h3
    show (if some j = k ∨ e.gr j = some g then _ else e.cl j) = _
    rw [if_neg (fun h' => h'.elim (hnk j hjs) hng)]
    exact hok.cl j hj ho
  · obtain ⟨h1, h2, h3, h4⟩ := hok.bx b j hb
    refine ⟨Nat.lt_of_lt_of_le h1 h.size, h2, ?_, ?_⟩
    · show (if some j = k ∨ e.gr j = some g then _ else e.cl j) = _
      rw [if_neg (fun h' => h'.elim (hnk j h1) (by rw [h4]; simp))]; exact h3
    · show (if some j = k then some g else e.gr j) = _
      rw [if_neg (hnk j h1)]; exact h4
  · have hg2 : (if some j = k then some g else e.gr j) = some g' := hg'
    by_cases hjk : some j = k
    · rw [if_pos hjk] at hg2
      cases hg2
      obtain ⟨h1, h2, cur, h3⟩ := h.new j hjk.symm
      refine ⟨G, cur, by simp [Env.more], h2, .inl (Nat.le_trans hok.kept.size h1), by simp [Env.more, hjk], h3⟩
    · rw [if_neg hjk] at hg2
      obtain ⟨G1, cur, h1, h2, h3, h4, h5⟩ := hok.gr j g' hg2
      by_cases e1 : g' = g
      · subst e1
        rw [hgi] at h1
        cases h1
        obtain ⟨cur', h6, _, _⟩ := h.row j cur hg2 (by rw [hel]; exact h5)
        exact ⟨G, cur', by simp [Env.more], Nat.lt_of_lt_of_le h2 h.size, h3, by simp [Env.more, hg2], h6⟩
      · refine ⟨G1, cur, by simp [Env.more, e1]; exact h1, Nat.lt_of_lt_of_le h2 h.size, h3, ?_, ?_⟩
        · show (if some j = k ∨ e.gr j = some g then _ else e.cl j) = _
          rw [if_neg (fun h' => h'.elim hjk (by rw [hg2]; simpa using e1))]; exact h4
        · show w.heap[j]? = _
          rw [h.old j h2 (by rw [hg2]; simpa using e1)]; exact h5
theorem Conc.more {e : Env} {a : Act} (hc : Conc Γ σ e a) {w : World} {g : Nat} {G G0 : Gr} {k : Option Nat} (h : More e w g G k) (hg : kv σ.g g = some G0) (hel : G.el = G0.el) (hsz : G.sz = G0.sz) (hlen : G0.len ≤ G.len) : Conc Γ (σ.setGr g G) (e.more w g G k) a := by
  have hgi : e.gi g = some G0 := by rw [hc.gs]; exact hg
  have hE := h.ends hc.env hgi hel hsz hlen
  refine ⟨hc.size, hc.df, fun t d ht => (hc.slots t d ht).next hE, fun b cs hb => h.box hc.env hgi hel hsz hlen (hc.boxes b cs hb), hc.nobox, fun g' => ?_, h.ok hc.env hgi hel⟩
  show (if g' = g then some G else e.gi g') = kv ((g, G) :: σ.g) g'
  rw [lk_cons]
  by_cases e1 : g' = g
  · subst e1; simp
  · rw [if_neg e1, if_neg (fun e' => e1 e'.symm)]; exact hc.gs g'

theorem cells_of_el {e : Env} {b of : Nat} {ps : List Pl} (h : ElAt e b of ps) : ∃ us : List Value, us.length = ps.length ∧ (∀ (j : Nat) v, us[j]? = some v → e.w.cell? ((⟨b, of, none⟩ : Addr).add j) = some v) ∧ (∀ v ∈ us, v.oneCell' = true) ∧ ∀ (j : Nat) v x, us[j]? = some v → ps[j]? = some x → PRep e v x := by
  obtain ⟨us, h1, h2, h3⟩ := el_cells h
  refine ⟨us, by have := h2.1; simpa using this, fun j v hj => by rw [add_none]; exact h1 j v hj, h3, fun j v x hv hx => ?_⟩
  have := h2.2 j v (.p x) hv (by rw [List.getElem?_map, hx]; rfl)
  cases this with
  | p h => exact h

/-- A row of the group that reads so. -/
theorem row_rep {e : Env} {k cap n : Nat} {g : Nat} {G : Gr} {ps : List Pl} {us : List Value} {cur : Array Value} (hk : e.w.heap[k]? = some (.cells cur G.el (0, 0))) (hcl : e.cl k = some (G.len * G.sz)) (hgr : e.gr k = some g) (hgi : e.gi g = some G) (hn : n = G.len) (hps : ps.length = n * G.sz) (hcap : n ≤ cap) (hm : cap ≤ maxLen) (hcs : cur.size = cap * G.sz)
    (hl : us.length = ps.length) (hcur : ∀ (j : Nat) v, us[j]? = some v → cur[j]? = some v) (hone : ∀ v ∈ us, v.oneCell' = true) (hr : ∀ (j : Nat) v x, us[j]? = some v → ps[j]? = some x → PRep e v x) : DRep e (.slice (some ⟨k, 0, none⟩) n cap) (.tip g n ps) := by
  refine .tip (sl_shut hcap hm (fun h => by cases h) (fun h => by cases h) (.inr ⟨k, 0, rfl, fun j => us.getD j undef, fun j x hx => ?_⟩)) ⟨G, _, cap, hgi, rfl, by omega, hps, .inr ⟨k, rfl, hgr, cur, hk, hcs⟩⟩
  have hj : j < us.length := by rw [hl]; exact (List.getElem?_eq_some_iff.1 hx).1
  have hu : us[j]? = some us[j] := List.getElem?_eq_getElem hj
  have hgd : us.getD j undef = us[j] := by simp [hj]
  show e.claimed k (0 + j) ∧ e.w.cell? ⟨k, 0 + j, none⟩ = some (us.getD j undef) ∧ leafV (us.getD j undef) = true ∧ PRep e (us.getD j undef) x
  rw [hgd]
  refine ⟨fun m hm' => ?_, ?_, hone _ (List.getElem_mem hj), hr j _ x hu hx⟩
  · rw [hcl] at hm'
    cases hm'
    rw [← hn, ← hps]; omega
  · rw [Nat.zero_add, cell_of_row e.w k j cur G.el (0, 0) hk]; exact hcur j _ hu

def St.app (σ : St) (g : Nat) (G : Gr) (dst : Option Nat) (ps : List Pl) : St := (σ.setGr g G).put dst (.tip g G.len ps)

theorem append_core (hT : TabOk P T) {e : Env} (hok : EnvOk Γ e) {t ty : TypeId} {g n m el z1 z2 : Nat} {z3 : Value} {ps qs : List Pl} {i : TI} {vx vy : Value} (ht : T t = some ⟨.slice el, z1, z2, z3⟩) (hel : T el = some i) (hzs : i.zero.cells.size = i.sz) (hszp : 0 < i.sz)
    (hx1 : DRep e vx (.tip g n ps)) (hgi : e.gi g = some ⟨el, i.sz, n⟩) (hy1 : PRep e vy (.sl false m qs)) (hqs : qs.length = m * i.sz)
    (h63 : n + m ≤ maxLen) (hby : (n + m) * i.bytes ≤ 140737488355328) : ∃ v w' k, (Builtin.append_ #[t, t] ty #[vx, vy]).run P e.w = .ok v w' ∧ More e w' g ⟨el, i.sz, n + m⟩ k ∧ DRep (e.more w' g ⟨el, i.sz, n + m⟩ k) v (.tip g (n + m) (ps ++ qs)) := by
  obtain ⟨d0, hd0, hk⟩ := hT.desc t _ ht
  cases d0 <;> simp only [tkOf, reduceCtorEq, TK.slice.injEq] at hk
  rw [hk] at hd0
  obtain ⟨inf, hinf, hsz, hbytes, hz⟩ := hT.info _ i hel
  cases hx1 with
  | tip hx2 hx3 =>
  obtain ⟨A, cap, rfl, hnc, hcm, hA0, _, hA⟩ := sl_open hx2
  obtain ⟨G0, A0, cap0, hG0, hv0, hle0, hps0, htip⟩ := hx3
  cases hv0
  rw [hgi] at hG0
  cases hG0
  simp only at hps0
  obtain ⟨Y, ycap, rfl, hyc, hym, hY0, _, hY⟩ := sl_open hy1
  -- nothing is appended
  by_cases hm0 : m = 0
  · subst hm0
    have hq0 : qs = [] := List.eq_nil_of_length_eq_zero (by simpa using hqs)
    subst hq0
    have hfc : (Builtin.firstCells inf.size 0 (.slice Y 0 ycap)).run P e.w = .ok #[] e.w := by
      cases Y <;> simp [Builtin.firstCells, loadCells, loadCellsFrom]
    have hrun : (Builtin.append_ #[t, t] ty #[.slice A n cap, .slice Y 0 ycap]).run P e.w = .ok (.slice A n cap) e.w := by
      cases A <;> simp [Builtin.append_, run_underlying hd0, sizeOf, typeInfo, hinf, Builtin.lenOf, hnc, hfc, storeCells]
    have hmore : More e e.w g ⟨el, i.sz, n + 0⟩ none := ⟨rfl, rfl, rfl, Nat.le_refl _, fun _ _ _ => rfl, fun j cur _ h => ⟨cur, h, rfl, fun _ _ => rfl⟩, fun j h => by cases h⟩
    refine ⟨_, _, none, hrun, hmore, ?_⟩
    have := (DRep.tip hx2 ⟨_, _, _, hgi, rfl, Nat.le_refl _, hps0, htip⟩).next (hmore.ends hok hgi rfl rfl (by simp))
    simpa using this
  -- something is
  have hqne : qs ≠ [] := fun e' => by
    rw [e'] at hqs
    rcases Nat.mul_eq_zero.1 hqs.symm with h' | h'
    · exact hm0 h'
    · omega
  rcases hY with hY | ⟨yb, yo, rfl, hYel⟩
  · exact absurd hY hqne
  obtain ⟨us, hul, huc, hu1, hur⟩ := cells_of_el hYel
  have hul' : us.length = m * inf.size := by rw [hul, hqs, hsz]
  by_cases hroom : n + m ≤ cap
  · -- in place
    rcases htip with htip | ⟨k, hAk, hgk, cur, hcur, hcs⟩
    · omega
    · cases hAk
      simp only at hcur hcs
      obtain ⟨G1, cur1, h1, h2, h3, h4, h5⟩ := hok.gr k g hgk
      rw [hgi] at h1
      cases h1
      have hfit : n * inf.size + us.length ≤ cur.size := by rw [hul', hcs, hsz, ← Nat.add_mul]; exact Nat.mul_le_mul_right _ hroom
      have hrun := run_append_room (P := P) e.w t ty el inf hd0 hinf k n cap cur hcur ⟨yb, yo, none⟩ m ycap us hul' huc hu1 hroom hfit
      have hnew : (cur.toList.take (n * inf.size) ++ us ++ cur.toList.drop (n * inf.size + us.length)).toArray.size = cur.size := by
        simp only [List.size_toArray, List.length_append, List.length_take, List.length_drop, Array.length_toList]; omega
      have hmore : More e (e.w.setRow k (cur.toList.take (n * inf.size) ++ us ++ cur.toList.drop (n * inf.size + us.length)).toArray) g ⟨el, i.sz, n + m⟩ none := by
        refine ⟨rfl, rfl, rfl, by simp, fun j hj hjg => setRow_other _ _ _ _ (fun e' => hjg (by rw [e']; exact hgk)), fun j c0 hjg hj => ?_, fun j h => by cases h⟩
        by_cases hjk : j = k
        · subst hjk
          simp only at hj
          rw [hcur] at hj
          cases hj
          refine ⟨_, setRow_heap _ _ cur _ _ _ hcur, hnew, fun q hq => ?_⟩
          have hql := hq _ h4
          simp only at hql
          rw [hsz]
          rw [List.getElem?_toArray, List.append_assoc, List.getElem?_append_left (by simp; rw [hcs]; have := Nat.mul_le_mul_right i.sz hnc; omega), List.getElem?_take, if_pos hql]
          simp
        · exact ⟨c0, by rw [setRow_other _ _ _ _ hjk]; exact hj, rfl, fun _ _ => rfl⟩
      refine ⟨_, _, none, hrun, hmore, ?_⟩
      have hE := hmore.ends hok hgi rfl rfl (by simp)
      rcases hA with hA | ⟨b', o', hb', hAel⟩
      · have hn0 : n = 0 := by
          rw [hA] at hps0
          simp only [List.length_nil] at hps0
          rcases Nat.mul_eq_zero.1 hps0.symm with h' | h'
          · exact h'
          · exact absurd h' (Nat.pos_iff_ne_zero.1 hszp)
        subst hA
        refine row_rep (G := ⟨el, i.sz, n + m⟩) (us := us) (cur := (cur.toList.take (n * inf.size) ++ us ++ cur.toList.drop (n * inf.size + us.length)).toArray) (setRow_heap _ _ cur _ _ _ hcur) (by simp [Env.more, hgk]) (by simp [Env.more, hgk]) (by simp [Env.more]) rfl (by simp [hqs, hn0]) hroom hcm (by rw [hnew]; exact hcs) (by simpa using hul) (fun j v hj => ?_) hu1 (fun j v y h1 h2 => (hur j v y h1 (by simpa using h2)).next hE)
        have hjl := (List.getElem?_eq_some_iff.1 hj).1
        rw [List.getElem?_toArray, hn0, List.append_assoc, List.getElem?_append_right (by simp)]
        simp only [Nat.zero_mul, List.take_zero, List.length_nil, Nat.sub_zero]
        rw [List.getElem?_append_left hjl]; exact hj
      · cases hb'
        obtain ⟨os, hol, hoc, ho1, hor⟩ := cells_of_el hAel
        have hol' : os.length = n * i.sz := by rw [hol, hps0]
        have htk : ∀ (j : Nat) v, os[j]? = some v → cur[j]? = some v := fun j v hj => by
          have := hoc j v hj
          rw [add_none, Nat.zero_add, cell_of_row e.w k j cur el (0, 0) hcur] at this
          exact this
        refine row_rep (G := ⟨el, i.sz, n + m⟩) (us := os ++ us) (cur := (cur.toList.take (n * inf.size) ++ us ++ cur.toList.drop (n * inf.size + us.length)).toArray) (setRow_heap _ _ cur _ _ _ hcur) (by simp [Env.more, hgk]) (by simp [Env.more, hgk]) (by simp [Env.more]) rfl (by simp [hqs, hps0, Nat.add_mul]) hroom hcm (by rw [hnew]; exact hcs) (by simp [hul, hol]) (fun j v hj => ?_) (fun v hv => by rcases List.mem_append.1 hv with h' | h'; exact ho1 v h'; exact hu1 v h') (fun j v y h1 h2 => ?_)
        · rw [List.getElem?_toArray, List.append_assoc]
          have hcl : (cur.toList.take (n * inf.size)).length = n * i.sz := by
            rw [List.length_take, hsz, Array.length_toList, hcs]; have := Nat.mul_le_mul_right i.sz hnc; omega
          rcases Nat.lt_or_ge j os.length with hj' | hj'
          · rw [List.getElem?_append_left hj'] at hj
            rw [List.getElem?_append_left (by rw [hcl, ← hol']; exact hj'), List.getElem?_take, if_pos (by rw [hsz, ← hol']; exact hj')]
            simpa using htk j v hj
          · rw [List.getElem?_append_right hj'] at hj
            rw [List.getElem?_append_right (by rw [hcl, ← hol']; exact hj'), hcl, ← hol', List.getElem?_append_left (List.getElem?_eq_some_iff.1 hj).1]
            exact hj
        · rcases Nat.lt_or_ge j os.length with hj' | hj'
          · rw [List.getElem?_append_left hj'] at h1
            rw [List.getElem?_append_left (by rw [← hol]; exact hj')] at h2
            exact (hor j v y h1 h2).next hE
          · rw [List.getElem?_append_right hj'] at h1
            rw [List.getElem?_append_right (by rw [← hol]; exact hj'), ← hol] at h2
            exact (hur _ v y h1 h2).next hE
  · -- a new row
    have hgrow : ∀ (os : List Value) (old : Nat), os.length = ps.length → (∀ v ∈ os, v.oneCell' = true) → (∀ (j : Nat) v x, os[j]? = some v → ps[j]? = some x → PRep e v x) → old < n + m →
        (Builtin.append_ #[t, t] ty #[.slice A n cap, .slice (some ⟨yb, yo, none⟩) m ycap]).run P e.w = .ok (.slice (some ⟨e.w.heap.size, 0, none⟩) (n + m) (grownCap e.w (n + m) old el)) (e.w.drew.alloc (.cells (os.toArray ++ us.toArray ++ Builtin.zeroCells i.zero.cells (grownCap e.w (n + m) old el - (n + m))) el)) →
        ∃ v w' k, (Builtin.append_ #[t, t] ty #[.slice A n cap, .slice (some ⟨yb, yo, none⟩) m ycap]).run P e.w = .ok v w' ∧ More e w' g ⟨el, i.sz, n + m⟩ k ∧ DRep (e.more w' g ⟨el, i.sz, n + m⟩ k) v (.tip g (n + m) (ps ++ qs)) := by
      intro os old hol ho1 hor hold hrun
      have hge := grownCap_ge e.w (n + m) old el
      have hgm := grownCap_le_maxLen e.w (n + m) old el h63
      have hmore : More e (e.w.drew.alloc (.cells (os.toArray ++ us.toArray ++ Builtin.zeroCells i.zero.cells (grownCap e.w (n + m) old el - (n + m))) el)) g ⟨el, i.sz, n + m⟩ (some e.w.heap.size) :=
        ⟨rfl, rfl, rfl, by simp, fun j hj _ => Below.heap_alloc e.w.drew _ j hj, fun j c0 hjg hj => ⟨c0, by rw [Below.heap_alloc e.w.drew _ j (heap_lt hj)]; exact hj, rfl, fun _ _ => rfl⟩, fun j hj => by cases hj; exact ⟨Nat.le_refl _, by simp, _, heap_alloc_new e.w.drew _⟩⟩
      have hE := hmore.ends hok hgi rfl rfl (by simp)
      refine ⟨_, _, _, hrun, hmore, row_rep (G := ⟨el, i.sz, n + m⟩) (us := os ++ us) (heap_alloc_new e.w.drew _) (by simp [Env.more]) (by simp [Env.more]) (by simp [Env.more]) rfl (by simp [hqs, hps0, Nat.add_mul]) hge hgm ?_ (by simp [hul, hol]) (fun j v hj => ?_) (fun v hv => by rcases List.mem_append.1 hv with h' | h'; exact ho1 v h'; exact hu1 v h') (fun j v y h1 h2 => ?_)⟩
      · simp only [Array.size_append, List.size_toArray, size_zeroCells, hzs, hol, hul, hps0, hqs, ← Nat.add_mul]
        congr 1
        omega
      · have hjl := (List.getElem?_eq_some_iff.1 hj).1
        rw [show os.toArray ++ us.toArray = (os ++ us).toArray by simp, Array.getElem?_append_left (by simpa using hjl), List.getElem?_toArray]
        exact hj
      · rcases Nat.lt_or_ge j os.length with hj' | hj'
        · rw [List.getElem?_append_left hj'] at h1
          rw [List.getElem?_append_left (by rw [← hol]; exact hj')] at h2
          exact (hor j v y h1 h2).next hE
        · rw [List.getElem?_append_right hj'] at h1
          rw [List.getElem?_append_right (by rw [← hol]; exact hj'), ← hol] at h2
          exact (hur _ v y h1 h2).next hE
    rcases A with _ | ad
    · have hc0 := hA0 rfl
      have hn0 : n = 0 := by omega
      subst hn0
      subst hc0
      have hps : ps = [] := List.eq_nil_of_length_eq_zero (by simpa using hps0)
      have hrun := run_append_nil (P := P) e.w t ty el inf i.zero hd0 hinf hz ⟨yb, yo, none⟩ m ycap us hul' huc (by omega) (by simp only [maxLen] at h63; omega) (by rw [hbytes]; simp only [Nat.zero_add] at hby; omega)
      refine hgrow [] 0 (by simp [hps]) (fun v hv => (by cases hv)) (fun j v x hj => (by simp at hj)) (by omega) ?_
      simpa using hrun
    · have hold : ∃ os : List Value, os.length = ps.length ∧ (∀ (j : Nat) v, os[j]? = some v → e.w.cell? (ad.add j) = some v) ∧ (∀ v ∈ os, v.oneCell' = true) ∧ ∀ (j : Nat) v x, os[j]? = some v → ps[j]? = some x → PRep e v x := by
        rcases hA with rfl | ⟨b', o', hb', hAel⟩
        · exact ⟨[], rfl, (fun j v h => by simp at h), (fun v h => by cases h), (fun j v x h => by simp at h)⟩
        · cases hb'; exact cells_of_el hAel
      obtain ⟨os, hol, hoc, ho1, hor⟩ := hold
      have hrun := run_append_grow (P := P) e.w t ty el inf i.zero hd0 hinf hz ad n cap os (by rw [hol, hps0, hsz]) hoc ⟨yb, yo, none⟩ m ycap us hul' huc (by omega) (by simp only [maxLen] at h63; omega) (growslice_fits (by omega) (by rw [hbytes]; exact hby))
      exact hgrow os cap hol ho1 hor (by omega) hrun

theorem append_step (hT : TabOk P T) {t : TypeId} {x y : Operand} {g n m el z1 z2 : Nat} {z3 : Value} {ps qs : List Pl} {dy : Dt} {i : TI} (ho : o.op = .call { callee := .builtin .append, args := #[x, y], argTypes := #[t, t] }) (ht : T t = some ⟨.slice el, z1, z2, z3⟩) (hel : T el = some i) (hzs : i.zero.cells.size = i.sz) (hszp : 0 < i.sz)
    (hd : dstLt Γ.n o.dst = true) (hx : ev (kv σ.s) x = some (.tip g n ps)) (hg : kv σ.g g = some ⟨el, i.sz, n⟩) (hy : ev (kv σ.s) y = some dy) (hdy : slOf dy = some (m, qs)) (hqs : qs.length = m * i.sz)
    (h63 : n + m ≤ maxLen) (hby : (n + m) * i.bytes ≤ 140737488355328) : OStep P Γ o σ (σ.app g ⟨el, i.sz, n + m⟩ o.dst (ps ++ qs)) := by
  intro a e hc
  have hs := hc.sees (σ := σ) o.op.operands
  have hx1 := hs.1 x (by rw [ho]; simp [Op.operands, Call.operands]) _ hx
  have hy1 := slOf_rep (hs.1 y (by rw [ho]; simp [Op.operands, Call.operands]) _ hy) hdy
  have hgi : e.gi g = some ⟨el, i.sz, n⟩ := by rw [hc.gs]; exact hg
  obtain ⟨v, w', k, hrun, hmore, hrep⟩ := append_core hT hc.env (ty := o.type) ht hel hzs hszp hx1 hgi hy1 hqs h63 hby
  unfold Oper.wp
  have e1 : (execOp a.eval o).run P e.w = .ok (.value v) w' := by
    obtain ⟨dst, op, type, pos, after, guard⟩ := o
    simp only at ho
    subst ho
    simp only [execOp, resolve, invoke, builtin, Sem.run_bind, Sem.run_pure, Result.andThen_ok, List.map_toArray, List.map_cons, List.map_nil, hrun]
  rw [e1]
  exact ⟨e.more w' g ⟨el, i.sz, n + m⟩ k, rfl, (hc.more hmore hg rfl rfl (by simp)).put hd hrep⟩
end
end Go.Proofs.YtcjooalmhppkiaaRRRR
