/- What readers of a stack's memory find; whose try goes. -/
import Derived.Test.YtpecgpmdchejdaaM9
import Derived.Test.YtpecgpmdchejdaaE4
namespace Go.Proofs.Ytpecgpmdchejdaa
set_option maxRecDepth 100000

theorem chain_linked {nx : Int → Int} {N : Int} {i : Int} {nd : Int → Int → Int} : ∀ (L acc : List Int) (k : Nat), (∀ x ∈ L, 1 ≤ x ∧ x ≤ N) → (acc ++ L).Nodup → L.length < k → Linked nd i L → (∀ x ∈ L, nx x = nd x i) → chainF nx N k acc (L.headD 0) = acc ++ L
  | [], acc, 0, _, _, hk, _, _ => by simp at hk
  | [], acc, k + 1, _, _, _, _, _ => by
    rw [chainF, if_neg (by simp)]; simp
  | x :: L, acc, 0, _, _, hk, _, _ => by simp at hk
  | x :: L, acc, k + 1, hb, hd, hk, hl, hn => by
    have hx := hb x (by simp)
    have hna : x ∉ acc := fun h => by
      rw [List.nodup_append] at hd
      exact hd.2.2 x h x (by simp) rfl
    rw [List.headD_cons, chainF, if_pos ⟨hx.1, hx.2, hna⟩, hn x (by simp), hl.1, chain_linked L (acc ++ [x]) k (fun y hy => hb y (by simp [hy])) (by simpa using hd) (by simp at hk; omega) hl.2 (fun y hy => hn y (by simp [hy]))]
    simp
theorem atF_cell {m : List Int} {c : Int} (h0 : 0 ≤ c) (h1 : c < m.length) : atF m c = cellAt m c := by
  unfold atF
  rw [if_neg (by omega)]
theorem nodupF {S N K : Nat} {V : Vw} {qs : List Q} {F T : List Int} (hI : Inv S N K V qs F T) : F.Nodup := by
  rw [List.nodup_iff_count]
  intro x
  have := hI.one x
  omega
theorem nodupT {S N K : Nat} {V : Vw} {qs : List Q} {F T : List Int} (hI : Inv S N K V qs F T) : T.Nodup := by
  rw [List.nodup_iff_count]
  intro x
  have := hI.one x
  omega
section
variable {l : LayT} {S N K : Nat} {m : List Int} {V : Vw} {qs : List Q} {F T : List Int} (hL : Lay l S N) (hN : N ≤ 100) (hV : View l S N m V) (hI : Inv S N K V qs F T)
include hL hN hV hI
theorem list_is : listF l m = F := by
  have hb := View.big hL hV
  have hf := hL.free
  have hd := nodupF hI
  unfold listF
  rw [atF_cell (by omega) (by omega), hV.fr, hI.fIdx hN]
  have := chain_linked (nx := fun n => atF m (nodeF l n 7)) (N := l.nodes) F [] (l.nodes.toNat + 1) (fun x hx => by have := hI.inF hx; have := hL.nodes; omega) (by simpa using hd) (by
    have := nodup_le N F hd (fun x hx => hI.inF hx)
    have := hL.nodes
    omega) hI.lf (fun x hx => by
      have hx := hI.inF hx
      have h7 := hL.node x 7 hx.1 hx.2 (by omega) (by omega)
      rw [atF_cell (by omega) (by omega)]
      exact hV.nd x 7 hx.1 hx.2 (by omega) (by omega))
  simpa using this
theorem nodes_is : nodesF l m 0 = T := by
  have hb := View.big hL hV
  have ht := hL.top
  have hd := nodupT hI
  unfold nodesF
  rw [if_neg (by omega), atF_cell (by omega) (by omega), hV.tp, hI.tIdx hN]
  have := chain_linked (nx := fun n => atF m (nodeF l n 0)) (N := l.nodes) T [] (l.nodes.toNat + 1) (fun x hx => by have := hI.inT hx; have := hL.nodes; omega) (by simpa using hd) (by
    have := nodup_le N T hd (fun x hx => hI.inT hx)
    have := hL.nodes
    omega) hI.lt (fun x hx => by
      have hx := hI.inT hx
      have h7 := hL.node x 0 hx.1 hx.2 (by omega) (by omega)
      rw [atF_cell (by omega) (by omega)]
      exact hV.nd x 0 hx.1 hx.2 (by omega) (by omega))
  simpa using this
theorem row_is : rowF l m 0 = T.map fun n => V.nd n 1 := by
  have hb := View.big hL hV
  unfold rowF
  rw [nodes_is hL hN hV hI]
  apply List.map_congr_left
  intro x hx
  have hx := hI.inT hx
  have h7 := hL.node x 1 hx.1 hx.2 (by omega) (by omega)
  rw [atF_cell (by omega) (by omega)]
  exact hV.nd x 1 hx.1 hx.2 (by omega) (by omega)
end

/-! ### One whose try didn't go was passed -/
structure PassT where
  went : Int
  looked : List Int
def passS (top : Int) (q : PassT) (s : StepT) : PassT := if s.done = true ∨ s.acc.cell ≠ top then q else if s.acc.kind = 1 then { q with looked := q.looked.set s.who.toNat q.went } else if s.res.ok then { q with went := q.went + 1 } else q
structure PassOk (top : Int) (q : PassT) (s : StepT) : Prop where
  w0 : 0 ≤ s.who
  w1 : s.who < q.looked.length
  ok : s.done = false → s.acc.cell = top → s.acc.kind ≠ 1 → s.acc.kind = 3 ∧ s.res.ok = decide (cellAt q.looked s.who = q.went)
def PassAll (top : Int) (q : PassT) (l : List StepT) : Prop := ∀ (i : Nat) (s : StepT), l[i]? = some s → PassOk top ((l.take i).foldl (passS top) q) s
theorem passAll_snoc {top : Int} {q : PassT} {l : List StepT} {s : StepT} (h : PassAll top q l) (hs : PassOk top (l.foldl (passS top) q) s) : PassAll top q (l ++ [s]) := by
  intro i x hx
  rcases Nat.lt_trichotomy i l.length with hi | hi | hi
  · rw [List.getElem?_append_left hi] at hx
    rw [List.take_append_of_le_length (by omega)]
    exact h i x hx
  · subst hi
    rw [List.getElem?_append_right (by omega)] at hx
    simp at hx
    subst hx
    rw [List.take_append_of_le_length (by omega), List.take_length]
    exact hs
  · rw [List.getElem?_eq_none (by simp; omega)] at hx
    cases hx
/-- The word of the top that a program has seen. -/
def topSeen : Pc → Option Int
  | .p2 _ u | .p3 _ u | .g2 u _ | .d1 u | .d2 u _ => some u
  | _ => none
theorem asks_top {l : LayT} {S N : Nat} (hL : Lay l S N) {w : Nat} (hw : w < S) {v0 : Int} {pc : Pc} (ho : OkPc S N pc) (hc : (asks l w (topF l 0) v0 pc).cell = topF l 0) : (∃ n, pc = .p1 n) ∨ pc = .g1 ∨ (∃ n u, pc = .p3 n u) ∨ ∃ u be, pc = .d2 u be := by
  have hfr := hL.free
  have her := hL.era
  have htp := hL.top
  have hs1 := hL.s1
  have hrw := hL.resv w 0 (by omega) (by omega) (by omega) (by omega)
  cases pc with
  | p1 n => exact .inl ⟨n, rfl⟩
  | g1 => exact .inr (.inl rfl)
  | p3 n u => exact .inr (.inr (.inl ⟨n, u, rfl⟩))
  | d2 u be => exact .inr (.inr (.inr ⟨u, be, rfl⟩))
  | t2 f => obtain ⟨o1, o2⟩ := ho; have := hL.node _ 7 o1 o2 (by omega) (by omega); simp only [asks] at hc; omega
  | t5 n b => obtain ⟨o1, o2⟩ := ho; have := hL.node _ 6 o1 o2 (by omega) (by omega); simp only [asks] at hc; omega
  | p0 n => obtain ⟨o1, o2⟩ := ho; have := hL.node _ 1 o1 o2 (by omega) (by omega); simp only [asks] at hc; omega
  | p2 n u => obtain ⟨o1, o2⟩ := ho; have := hL.node _ 0 o1 o2 (by omega) (by omega); simp only [asks] at hc; omega
  | d1 u => obtain ⟨o1, o2⟩ := ho; have := hL.node _ 0 o1 o2 (by omega) (by omega); simp only [asks] at hc; omega
  | d3 n a => obtain ⟨o1, o2⟩ := ho; have := hL.node _ 1 o1 o2 (by omega) (by omega); simp only [asks] at hc; omega
  | s1 v a held g gs stay => obtain ⟨o1, o2⟩ := ho; have := hL.node _ 6 o1 o2 (by omega) (by omega); simp only [asks] at hc; omega
  | v2 v a held g gs stay f => obtain ⟨o1, o2⟩ := ho; have := hL.node _ 7 o1 o2 (by omega) (by omega); simp only [asks] at hc; omega
  | rs v a held c cs => obtain ⟨x, i, x0, x1, i0, i1, rfl⟩ := ho; simp only [asks] at hc; omega
  | fin o => exact absurd ho id
  | _ => simp only [asks] at hc; omega
theorem seen_eq {N : Nat} {u cur : Int} (h : Seen N u cur) : decide (cur = u) = decide (u / 131072 = cur / 131072) := by
  rw [decide_eq_decide]
  exact ⟨fun e => by rw [e], fun e => (h.same e).symm⟩
structure PassJ (p : PlayT) (s : PSt) (V : Vw) : Prop where
  all : PassAll (topF (layP p) 0) ⟨0, List.replicate p.want.length 0⟩ s.out
  len : (s.out.foldl (passS (topF (layP p) 0)) ⟨0, List.replicate p.want.length 0⟩).looked.length = p.want.length
  went : (s.out.foldl (passS (topF (layP p) 0)) ⟨0, List.replicate p.want.length 0⟩).went = V.tp / 131072
  look : ∀ (w : Nat) (q : Q) (u : Int), (qsOf (layP p) p.want s.seats)[w]? = some q → topSeen q.pc = some u → cellAt (s.out.foldl (passS (topF (layP p) 0)) ⟨0, List.replicate p.want.length 0⟩).looked w = u / 131072
theorem topSeen_sift (v a : Int) (held : List Int) (made : Nat) (e0 : Int) (gone gs stay : List (Int × Int)) : topSeen (siftQ v a held made e0 gone gs stay).pc = none := by cases gs <;> rfl
theorem topSeen_scan (v a : Int) (held : List Int) (made : Nat) (e0 : Int) (gone : List (Int × Int)) (cs : List Int) : topSeen (scanQ v a made e0 gone held cs).pc = none := by
  cases cs with
  | nil => exact topSeen_sift _ _ _ _ _ _ _ _
  | cons c cs => rfl
/-- What a program has seen of the top: from an access on. -/
theorem topSeen_tell {l : LayT} {S w : Nat} {v0 : Int} {V : Vw} {q : Q} {u : Int} (h : topSeen (tell l q (actV S w v0 V q.pc).2).pc = some u) : (((∃ n, q.pc = .p1 n) ∨ q.pc = .g1) ∧ u = V.tp) ∨ topSeen q.pc = some u := by
  obtain ⟨pc, made, gone, e0⟩ := q
  cases pc with
  | p1 n => left; exact ⟨.inl ⟨n, rfl⟩, by simp [actV, tell, topSeen] at h; exact h.symm⟩
  | g1 => left; exact ⟨.inr rfl, by simp [actV, tell, topSeen] at h; exact h.symm⟩
  | p2 n x => exact .inr h
  | d1 x => exact .inr h
  | t1 =>
    have h : topSeen (if (ofW V.fr).idx = 0 then _ else _ : Q).pc = some u := h
    split at h <;> cases h
  | t3 f lk => by_cases hc : V.fr = f <;> simp [actV, tell, topSeen, hc] at h
  | p3 n x => by_cases hc : V.tp = x <;> simp [actV, tell, topSeen, hc] at h
  | g2 x a =>
    have h : topSeen (if V.er = e0 then (if (ofW x).idx = 0 then (if e0 = 0 then _ else _) else ⟨.d1 x, made + 1, gone, e0⟩) else _ : Q).pc = some u := h
    split at h
    · split at h
      · split at h <;> cases h
      · exact .inr h
    · cases h
  | d2 x be => by_cases hc : V.tp = x <;> simp [actV, tell, topSeen, hc] at h
  | d3 n a =>
    have h : topSeen (if e0 = 0 then _ else _ : Q).pc = some u := h
    split at h <;> cases h
  | r2 n v a er =>
    have h : topSeen (if ((gone.length : Int) + 1) < 2 * l.seats then _ else _ : Q).pc = some u := h
    split at h
    · cases h
    · rw [topSeen_scan] at h; cases h
  | rs v a held c cs =>
    have h : topSeen (scanQ v a (made + 1) e0 gone (held ++ [rvAt S V c]) cs).pc = some u := h
    rw [topSeen_scan] at h; cases h
  | s1 v a held g gs stay =>
    have h : topSeen (if held.any (inB (max1 (V.nd g.1 6)) g.2) = true then _ else _ : Q).pc = some u := h
    split at h
    · rw [topSeen_sift] at h; cases h
    · cases h
  | v3 v a held g gs stay f =>
    by_cases hc : V.fr = f
    · simp only [actV, tell, hc, if_true, topSeen_sift] at h; cases h
    · simp [actV, tell, topSeen, hc] at h
  | fin o => cases h
  | _ => cases h
/-- A try that goes counts the top up by one. -/
theorem tp_up {S N K : Nat} {V : Vw} {qs : List Q} {F T : List Int} (hN : N ≤ 100) (hK : K ≤ 100000) (hI : Inv S N K V qs F T) {j : Int} (hj : 0 ≤ j ∧ j ≤ (N : Int)) : packW (turnW (ofW V.tp) j) / 131072 = V.tp / 131072 + 1 := by
  have h2 := hI.tpk
  have h3 := hI.headT
  have hp := pack_turn hI.tp h2.1 (by omega) (by omega) (j := j) (by omega)
  omega
theorem foldl_snoc {α β : Type} (f : β → α → β) (b : β) (l : List α) (x : α) : (l ++ [x]).foldl f b = f (l.foldl f b) x := by simp [List.foldl_append]
theorem pass_step {p : PlayT} (hp : PlayG p) {i : Nat} {s s' : PSt} {V V' : Vw} {F T F' T' : List Int} (hi : i < allF p) (hG : G p i s V F T) (hS : StepR p (whoF p i) s V F T s' V' F' T') (hG' : G p (i + 1) s' V' F' T') (h : PassJ p s V) : PassJ p s' V' := by
  have hL := layP_lay p hp.ok.w1
  have hall : allF p ≤ 3200 := by have := hp.ok.w3; have := hp.ok.t; unfold allF; omega
  have hwl := whoF_lt hp.ok hi
  have hq0 := hG'.inv.n
  have len := h.len
  have went := h.went
  have look := h.look
  have all := h.all
  generalize hw : whoF p i = who at *
  cases hS with
  | idle => exact h
  | done x ws op q o hx hws ho hq hpc =>
    generalize hst : (⟨who, x.at_, op0F op, x.gone, acc0, res0, true, { o with gone := q.gone }⟩ : StepT) = st at *
    have e1 : st.done = true := by rw [← hst]
    have ew : st.who = who := by rw [← hst]
    have ef : ∀ z, passS (topF (layP p) 0) z st = z := fun z => by unfold passS; rw [if_pos (.inl e1)]
    refine ⟨passAll_snoc all ⟨by rw [ew]; omega, by rw [ew, len]; omega, fun e => by rw [e1] at e; cases e⟩, ?_, ?_, fun w q' u hq' hu => ?_⟩
    · simp only [foldl_snoc, ef]; exact len
    · simp only [foldl_snoc, ef]; exact went
    · simp only [foldl_snoc, ef] at hq' ⊢
      rw [qsOf_set _ hws] at hq'
      rcases set_get (qsOf_get (l := layP p) hx hws) hq' with ⟨rfl, rfl⟩ | ⟨_, h2⟩
      · obtain ⟨pc', e3, e4⟩ := qAt_next (layP p) ws (x.at_ + 1) q.gone
        rw [e3] at hu
        rcases e4 with rfl | rfl | ⟨o', rfl⟩ <;> cases hu
      · exact look w q' u h2 hu
  | acc x ws op q hx hws ho hq hpc =>
    have hqg := qsOf_get (l := layP p) hx hws
    have e0 : qAt (layP p) ws x = q := by unfold qAt; rw [ho, hq]
    rw [e0] at hqg
    have e1 : qAt (layP p) ws { x with log := x.log ++ [(actV p.want.length who op.a V q.pc).2] } = tell (layP p) q (actV p.want.length who op.a V q.pc).2 := by
      unfold qAt
      simp only [ho]
      rw [runQ_snoc, hq]
    have hok := inv_okPc hG.inv hqg hpc
    have hloc := (hG.inv.loc who q hqg).pc
    generalize hst : (⟨who, x.at_, op0F op, x.gone, asks (layP p) who (topF (layP p) 0) op.a q.pc, (actV p.want.length who op.a V q.pc).2, false, out0⟩ : StepT) = st at *
    have ed : st.done = false := by rw [← hst]
    have ew : st.who = who := by rw [← hst]
    have ea : st.acc = asks (layP p) who (topF (layP p) 0) op.a q.pc := by rw [← hst]
    have er : st.res = (actV p.want.length who op.a V q.pc).2 := by rw [← hst]
    have hin : topF (layP p) 0 = 8 + 12 * (p.want.length : Int) := hL.top
    generalize hz : s.out.foldl (passS (topF (layP p) 0)) ⟨0, List.replicate p.want.length 0⟩ = z at *
    -- what the seats have seen, from this access on
    have hseen : ∀ (z' : PassT), (∀ (w : Nat), w ≠ who → cellAt z'.looked w = cellAt z.looked w) → (∀ u, topSeen (tell (layP p) q (actV p.want.length who op.a V q.pc).2).pc = some u → cellAt z'.looked who = u / 131072) → ∀ (w : Nat) (q' : Q) (u : Int), (qsOf (layP p) p.want (s.seats.set who { x with log := x.log ++ [(actV p.want.length who op.a V q.pc).2] }))[w]? = some q' → topSeen q'.pc = some u → cellAt z'.looked w = u / 131072 := by
      intro z' h1 h2 w q' u hq' hu
      rw [qsOf_set _ hws, e1] at hq'
      rcases set_get hqg hq' with ⟨rfl, rfl⟩ | ⟨h3, h4⟩
      · exact h2 u hu
      · rw [h1 w h3]; exact look w q' u h4 hu
    by_cases hc : (asks (layP p) who (topF (layP p) 0) op.a q.pc).cell = topF (layP p) 0
    · have hcell : ∀ (w : Nat) (v : Int), cellAt (z.looked.set ((who : Int)).toNat v) w = if (w : Int) = who then v else cellAt z.looked w := fun w v => cellAt_set (by omega) (by rw [len]; omega) (by omega)
      rcases asks_top hL hwl hok hc with ⟨n, hp1⟩ | hp1 | ⟨n, u, hp1⟩ | ⟨u, be, hp1⟩
      · have ek : st.acc.kind = 1 := by rw [ea, hp1]; rfl
        have es : passS (topF (layP p) 0) z st = { z with looked := z.looked.set ((who : Int)).toNat z.went } := by
          unfold passS
          rw [if_neg (by rw [ed, ea]; simp [hc]), if_pos ek, ew]
        have hV : (actV p.want.length who op.a V q.pc).1 = V := by rw [hp1]; rfl
        refine ⟨passAll_snoc all ⟨by rw [ew]; omega, by rw [ew, hz, len]; omega, fun _ _ e => absurd ek e⟩, ?_, ?_, ?_⟩
        · simp only [foldl_snoc, hz, es, List.length_set]; exact len
        · simp only [foldl_snoc, hz, es, hV]; exact went
        · simp only [foldl_snoc, hz, es]
          refine hseen { z with looked := z.looked.set ((who : Int)).toNat z.went } (fun w hw => ?_) (fun u hu => ?_)
          · simp only; rw [hcell w, if_neg (by omega)]
          · simp only; rw [hcell who, if_pos rfl]
            rcases topSeen_tell hu with ⟨_, rfl⟩ | h5
            · exact went
            · rw [hp1] at h5; cases h5
      · have ek : st.acc.kind = 1 := by rw [ea, hp1]; rfl
        have es : passS (topF (layP p) 0) z st = { z with looked := z.looked.set ((who : Int)).toNat z.went } := by
          unfold passS
          rw [if_neg (by rw [ed, ea]; simp [hc]), if_pos ek, ew]
        have hV : (actV p.want.length who op.a V q.pc).1 = V := by rw [hp1]; rfl
        refine ⟨passAll_snoc all ⟨by rw [ew]; omega, by rw [ew, hz, len]; omega, fun _ _ e => absurd ek e⟩, ?_, ?_, ?_⟩
        · simp only [foldl_snoc, hz, es, List.length_set]; exact len
        · simp only [foldl_snoc, hz, es, hV]; exact went
        · simp only [foldl_snoc, hz, es]
          refine hseen { z with looked := z.looked.set ((who : Int)).toNat z.went } (fun w hw => ?_) (fun u hu => ?_)
          · simp only; rw [hcell w, if_neg (by omega)]
          · simp only; rw [hcell who, if_pos rfl]
            rcases topSeen_tell hu with ⟨_, rfl⟩ | h5
            · exact went
            · rw [hp1] at h5; cases h5
      · have ek : st.acc.kind = 3 := by rw [ea, hp1]; rfl
        rw [hp1] at hloc
        obtain ⟨_, hsn, _⟩ := hloc
        have hlk := look who q u hqg (by rw [hp1]; rfl)
        have hn := hG.inv.inOwn hqg (n := n) (by unfold own; rw [hp1]; simp)
        have eo : st.res.ok = decide (V.tp = u) := by
          rw [er, hp1]
          by_cases hcc : V.tp = u <;> simp [actV, hcc]
        have hok2 : st.res.ok = decide (cellAt z.looked st.who = z.went) := by rw [eo, ew, hlk, went, seen_eq hsn]
        have es : passS (topF (layP p) 0) z st = if V.tp = u then { z with went := z.went + 1 } else z := by
          unfold passS
          rw [if_neg (by rw [ed, ea]; simp [hc]), if_neg (by rw [ek]; omega), eo]
          by_cases hcc : V.tp = u <;> simp [hcc]
        have hlook : (passS (topF (layP p) 0) z st).looked = z.looked := by rw [es]; split <;> rfl
        refine ⟨passAll_snoc all ⟨by rw [ew]; omega, by rw [ew, hz, len]; omega, fun _ _ _ => ⟨ek, by rw [hz]; exact hok2⟩⟩, ?_, ?_, ?_⟩
        · simp only [foldl_snoc, hz, hlook]; exact len
        · simp only [foldl_snoc, hz, es, hp1]
          by_cases hcc : V.tp = u
          · have := tp_up (by omega) (by omega) hG.inv (j := n) (by omega)
            simp only [actV, hcc, if_true]
            rw [← hcc, this, went]
          · simp only [actV, hcc, if_false]; exact went
        · simp only [foldl_snoc, hz]
          refine hseen _ (fun w _ => by rw [hlook]) (fun u' hu => ?_)
          rw [hlook]
          rcases topSeen_tell hu with ⟨⟨n', h5⟩ | h5, _⟩ | h5
          · rw [hp1] at h5; cases h5
          · rw [hp1] at h5; cases h5
          · exact look who q u' hqg h5
      · have ek : st.acc.kind = 3 := by rw [ea, hp1]; rfl
        rw [hp1] at hloc
        obtain ⟨hsn, hid, _, hbe⟩ := hloc
        have hlk := look who q u hqg (by rw [hp1]; rfl)
        have eo : st.res.ok = decide (V.tp = u) := by
          rw [er, hp1]
          by_cases hcc : V.tp = u <;> simp [actV, hcc]
        have hok2 : st.res.ok = decide (cellAt z.looked st.who = z.went) := by rw [eo, ew, hlk, went, seen_eq hsn]
        have es : passS (topF (layP p) 0) z st = if V.tp = u then { z with went := z.went + 1 } else z := by
          unfold passS
          rw [if_neg (by rw [ed, ea]; simp [hc]), if_neg (by rw [ek]; omega), eo]
          by_cases hcc : V.tp = u <;> simp [hcc]
        have hlook : (passS (topF (layP p) 0) z st).looked = z.looked := by rw [es]; split <;> rfl
        refine ⟨passAll_snoc all ⟨by rw [ew]; omega, by rw [ew, hz, len]; omega, fun _ _ _ => ⟨ek, by rw [hz]; exact hok2⟩⟩, ?_, ?_, ?_⟩
        · simp only [foldl_snoc, hz, hlook]; exact len
        · simp only [foldl_snoc, hz, es, hp1]
          by_cases hcc : V.tp = u
          · have hb : 0 ≤ be ∧ be ≤ (((1 + p.nodes % 8).toNat : Nat) : Int) := by
              rw [hbe hcc, ← hcc, hG.inv.tIdx (by omega)]
              rw [← hcc, hG.inv.tIdx (by omega)] at hid
              obtain ⟨T', hT⟩ := head_cons hid
              have hlt := hG.inv.lt
              rw [hT] at hlt
              rw [hlt.1]
              cases T' with
              | nil => show (0 : Int) ≤ 0 ∧ (0 : Int) ≤ _; omega
              | cons y T' => have := hG.inv.inT (n := y) (by rw [hT]; simp); simp; omega
            have := tp_up (by omega) (by omega) hG.inv (j := be) hb
            simp only [actV, hcc, if_true]
            rw [← hcc, this, went]
          · simp only [actV, hcc, if_false]; exact went
        · simp only [foldl_snoc, hz]
          refine hseen _ (fun w _ => by rw [hlook]) (fun u' hu => ?_)
          rw [hlook]
          rcases topSeen_tell hu with ⟨⟨n', h5⟩ | h5, _⟩ | h5
          · rw [hp1] at h5; cases h5
          · rw [hp1] at h5; cases h5
          · exact look who q u' hqg h5
    · have es : passS (topF (layP p) 0) z st = z := by
        unfold passS
        rw [if_pos (.inr (by rw [ea]; exact hc))]
      have hV : (actV p.want.length who op.a V q.pc).1.tp = V.tp := by
        cases hpp : q.pc with
        | p3 n u => rw [hpp] at hc; exact absurd rfl hc
        | d2 u be => rw [hpp] at hc; exact absurd rfl hc
        | t3 f lk => simp only [actV]; split <;> rfl
        | v3 v a held g gs stay f => simp only [actV]; split <;> rfl
        | _ => rfl
      refine ⟨passAll_snoc all ⟨by rw [ew]; omega, by rw [ew, hz, len]; omega, fun _ e => absurd (by rw [← ea]; exact e) hc⟩, ?_, ?_, ?_⟩
      · simp only [foldl_snoc, hz, es]; exact len
      · simp only [foldl_snoc, hz, es, hV]; exact went
      · simp only [foldl_snoc, hz, es]
        refine hseen z (fun w _ => rfl) (fun u' hu => ?_)
        rcases topSeen_tell hu with ⟨⟨n', h5⟩ | h5, _⟩ | h5
        · rw [h5] at hc; exact absurd rfl hc
        · rw [h5] at hc; exact absurd rfl hc
        · exact look who q u' hqg h5
/-- What the law of tries asks for. -/
theorem passed_true {p : PlayT} (hp : PlayG p) : (playedF p).ends = true ∧ PassAll (topF (layP p) 0) ⟨0, List.replicate p.want.length 0⟩ (playedF p).steps ∧ atF (playedF p).m (topF (layP p) 0) / 131072 = ((playedF p).steps.foldl (passS (topF (layP p) 0)) ⟨0, List.replicate p.want.length 0⟩).went := by
  have hL := layP_lay p hp.ok.w1
  obtain ⟨s, V, F, T, h1, h2, h3, h4⟩ := played_end hp (fun _ s V _ _ => PassJ p s V) (fun i s V F T s' V' F' T' hi hG hS hG' h => pass_step hp hi hG hS hG' h) ⟨fun i s h => by simp [start] at h, by simp [start], by simp [start, V0], fun w q u hq hu => by
    have hz := (G_start hp.ok).inv
    exfalso
    unfold qsOf at hq
    rw [List.getElem?_map] at hq
    rcases hzz : ((start p).seats.zip p.want)[w]? with _ | ⟨x, ws⟩
    · rw [hzz] at hq; cases hq
    · rw [hzz] at hq
      cases hq
      obtain ⟨k1, k2⟩ := List.getElem?_zip_eq_some.1 hzz
      simp only [start, List.getElem?_replicate] at k1
      split at k1
      · cases k1
        obtain ⟨pc', e3, e4⟩ := qAt_next (layP p) ws 0 []
        simp only at hu
        rw [e3] at hu
        rcases e4 with rfl | rfl | ⟨o', rfl⟩ <;> cases hu
      · cases k1⟩
  rw [playedF_end h1 h4]
  have hb := View.big hL h2.view
  have ht := hL.top
  refine ⟨rfl, h3.all, ?_⟩
  simp only
  rw [atF_cell (by omega) (by omega), h2.view.tp, h3.went]
end Go.Proofs.Ytpecgpmdchejdaa
