/- Alone: what is sent is received, first first. -/
import Derived.Test.YtgoijmomglomlaaPD
namespace Go.Proofs.Ytgoijmomglomlaa
set_option maxRecDepth 100000

section
variable {hd tl : Int} {l : LayT} {S N K : Nat} {V : Vw} {qs : List (Q Sk)} {F X : List Int} {g : SegG} {w : Nat} {q : Q Sk}
/-- A program of sends retires nothing. -/
theorem send_gone {op : OpT} (h6 : op.kind = 6) {r : ResT} (hsh : Shape q) (ho : OpP op q.pc) : (tell (segM hd tl) S q r).s.gone = q.s.gone := by
  have n7 : ¬ op.kind = 7 := by omega
  obtain ⟨pc, s⟩ := q
  cases pc with
  | fin o => rfl
  | clr k => exact absurd hsh id
  | at_ k =>
    show (norm (segM hd tl) (segTell hd tl k s.made r) s.up).s.gone = s.gone
    rw [norm_s]; rfl
  | t1 k =>
    show (if (ofW r.val).idx = 0 then norm (segM hd tl) _ s.up else _ : Q Sk).s.gone = s.gone
    split
    · rw [norm_s]; rfl
    · rfl
  | t2 k f => rfl
  | t3 k f lk =>
    show (if r.ok then _ else _ : Q Sk).s.gone = s.gone
    split <;> rfl
  | t4 k n b => rfl
  | t5 k n b c =>
    show (norm (segM hd tl) _ s.up).s.gone = s.gone
    rw [norm_s]; rfl
  | g1 k i c => rfl
  | g2 k i c v b =>
    show (if r.val = s.e i then norm (segM hd tl) _ s.up else _ : Q Sk).s.gone = s.gone
    split
    · rw [norm_s]; rfl
    · rfl
  | g3 k i c er =>
    show (s.up.putE i er).gone = s.gone
    rw [putE_gone]; rfl
  | c k i =>
    show (clrQ (segM hd tl) k (s.up.putE i 0)).s.gone = s.gone
    rw [clrQ_s, putE_gone]; rfl
  | v1 k n => rfl
  | v2 k n f => rfl
  | v3 k n f =>
    show (if r.ok then norm (segM hd tl) _ s.up else _ : Q Sk).s.gone = s.gone
    split
    · rw [norm_s]; rfl
    · rfl
  | r1 k n => have hk : k = .rr := hsh; subst hk; exact absurd (ho .rr rfl) n7
  | r2 k n er => have hk : k = .rr := hsh; subst hk; exact absurd (ho .rr rfl) n7
  | rs k held c cs => have hk : k = .rr := hsh; subst hk; exact absurd (ho .rr rfl) n7
  | s1 k held y gs stay => have hk : k = .rr := hsh; subst hk; exact absurd (ho .rr rfl) n7
  | w1 k held y gs stay => have hk : k = .rr := hsh; subst hk; exact absurd (ho .rr rfl) n7
  | w2 k held y gs stay f => have hk : k = .rr := hsh; subst hk; exact absurd (ho .rr rfl) n7
  | w3 k held y gs stay f => have hk : k = .rr := hsh; subst hk; exact absurd (ho .rr rfl) n7
/-- Behind its point a program leaves the segments. -/
theorem pt_X (hp : ptP q.pc ≠ none) : (nxX (segZ hd tl N) V.W X g q.pc).1 = X := by
  obtain ⟨pc, s⟩ := q
  cases pc with
  | at_ k => cases k <;> first | rfl | exact absurd rfl hp
  | _ => rfl
/-- Where a receive finds nothing there is one segment. -/
theorem none_X (hN : N ≤ 100) (hI : Inv (segZ hd tl N) l S N K V qs F X g) (hq : qs[w]? = some q) (hsh : Shape q) {op : OpT} (ho : OpP op q.pc) (h7 : op.kind = 7) (hp : ptP q.pc = none) {v e : Int} (hout : outP (tell (segM hd tl) S q (act V (asks (segM hd tl) w q.pc)).2).pc = some (v, false, e)) : (nxX (segZ hd tl N) V.W X g q.pc).1.length = 1 := by
  have n6 : ¬ op.kind = 6 := by omega
  have hSI : SegSI hd tl N K V.W X (Dq (segZ hd tl N) qs) g := hI.si
  have hpc := (hI.loc w q hq).pc
  have hnR : ∀ (w i : Int) (s : PsT), outP (norm (segM hd tl) (nextR w i) s).pc = none := fun w i s => by rw [(norm_pt _ _).2]; unfold nextR; split <;> rfl
  have hfi : ∀ (o : OutT) (s : PsT), outP (norm (segM hd tl) (.clr (.fi o)) s).pc = .some (o.val, o.is, o.err) := fun o s => (norm_pt _ _).2
  have hno : ∀ {q' : Q Sk}, outP q'.pc = none → outP q'.pc = some (v, false, e) → False := fun h1 h2 => by rw [h1] at h2; cases h2
  obtain ⟨pc, s⟩ := q
  cases pc with
  | fin o => cases hp
  | clr k => exact absurd hsh id
  | at_ k =>
    have hkl : segKL hd tl N V.W (Pr (segZ hd tl N) V X qs w s) k := hpc.1
    have hk : OpK op k := ho k rfl
    cases k with
    | rl u i =>
      obtain ⟨k1, k2, k3, k4⟩ := hkl
      have e1 : tell (segM hd tl) S ⟨.at_ (.rl u i), s⟩ (act V (asks (segM hd tl) w (.at_ (.rl u i)))).2 = norm (segM hd tl) (if V.W.nd (ofW u).idx i = 0 then .clr (.fi (noO s.made)) else if V.W.nd (ofW u).idx i = 1 then nextR u i else .at_ (.rc u i (V.W.nd (ofW u).idx i))) s.up := rfl
      rw [e1] at hout
      by_cases h0 : V.W.nd (ofW u).idx i = 0
      · obtain ⟨hh, B, hB⟩ := rw_head hI hN k1 (fun h => by have := h.1 i k2 k3; omega)
        obtain ⟨a, c, hs, hc, _⟩ := hSI.seq
        have hget : ∀ j : Int, 1 ≤ j → j ≤ 5 → (seqW V.W X)[(j - 1).toNat]? = .some (V.W.nd (ofW u).idx j) := fun j j1 j5 => by
          have := seq_at (W := V.W) (A := []) (B := B) (n := (ofW u).idx) j1 j5
          rw [hB]; simpa using this
        have hv : g.vs = [] := row_none hs (fun v hv => (hSI.vs v hv).1) (p := (i - 1).toNat) (.inl (by rw [hget i k2 k3, h0])) (fun y hy => by
          have := hget ((y : Int) + 1) (by omega) (by omega)
          rw [show ((y : Int) + 1 - 1).toNat = y by omega] at this
          rw [this, k4 ((y : Int) + 1) (by omega) (by omega)])
        have ha : a ≤ (i - 1).toNat := by
          rcases Nat.lt_or_ge (i - 1).toNat a with h1 | h1
          · have h2 := hget i k2 k3
            rw [h0, hs, List.getElem?_append_left (by simpa using h1), List.getElem?_replicate, if_pos h1] at h2
            cases h2
          · exact h1
        have hlen := seq_len V.W X
        rw [hs, hv] at hlen
        simp only [List.length_append, List.length_replicate, List.length_nil] at hlen
        have h9 : 1 ≤ X.length := by rw [hB]; simp
        show X.length = 1
        omega
      · rw [if_neg h0] at hout
        split at hout
        · exact (hno (hnR u i s.up) hout).elim
        · cases hout
    | rn u =>
      obtain ⟨k1, k2⟩ := hkl
      have e1 : tell (segM hd tl) S ⟨.at_ (.rn u), s⟩ (act V (asks (segM hd tl) w (.at_ (.rn u)))).2 = norm (segM hd tl) (if V.W.nd (ofW u).idx 0 = 0 then .clr (.fi (noO s.made)) else .at_ (.re u (V.W.nd (ofW u).idx 0))) s.up := rfl
      rw [e1] at hout
      by_cases h0 : V.W.nd (ofW u).idx 0 = 0
      · obtain ⟨hh, B, hB⟩ := rw_head hI hN k1 (fun h => h.2 h0)
        have hlk := hSI.link
        rw [hB] at hlk
        have hBn : B = [] := by
          have h9 : V.W.nd (ofW u).idx 0 = B.headD 0 := hlk.1
          rw [h0] at h9
          cases B with
          | nil => rfl
          | cons y B =>
            have := hSI.rng y (by rw [hB]; simp)
            simp at h9
            omega
        show X.length = 1
        rw [hB, hBn]; rfl
      · rw [if_neg h0] at hout
        cases hout
    | rc u i x =>
      by_cases hc : (act V (asks (segM hd tl) w (.at_ (.rc u i x)))).2.ok = true
      · have e1 : tell (segM hd tl) S ⟨.at_ (.rc u i x), s⟩ (act V (asks (segM hd tl) w (.at_ (.rc u i x)))).2 = norm (segM hd tl) (if (act V (asks (segM hd tl) w (.at_ (.rc u i x)))).2.ok then .clr (.fi ⟨w64 (x - 2), true, 0, s.made, []⟩) else nextR u i) s.up := rfl
        rw [e1, if_pos hc, hfi] at hout
        cases hout
      · have e1 : tell (segM hd tl) S ⟨.at_ (.rc u i x), s⟩ (act V (asks (segM hd tl) w (.at_ (.rc u i x)))).2 = norm (segM hd tl) (if (act V (asks (segM hd tl) w (.at_ (.rc u i x)))).2.ok then .clr (.fi ⟨w64 (x - 2), true, 0, s.made, []⟩) else nextR u i) s.up := rfl
        rw [e1, if_neg hc] at hout
        exact (hno (hnR u i s.up) hout).elim
    | rh u nx =>
      have e1 : outP (tell (segM hd tl) S ⟨.at_ (.rh u nx), s⟩ (act V (asks (segM hd tl) w (.at_ (.rh u nx)))).2).pc = none := by
        show outP (norm (segM hd tl) (if (act V (asks (segM hd tl) w (.at_ (.rh u nx)))).2.ok then .clr (.rx (ofW u).idx) else .g1 .rg 0 (.ob hd)) s.up).pc = _
        rw [(norm_pt _ _).2]
        split <;> rfl
      exact (hno e1 hout).elim
    | re u nx =>
      have e1 : outP (tell (segM hd tl) S ⟨.at_ (.re u nx), s⟩ (act V (asks (segM hd tl) w (.at_ (.re u nx)))).2).pc = none := by
        show outP (norm (segM hd tl) (if (ofW (V.W.ob tl)).idx = (ofW u).idx then _ else _) s.up).pc = _
        split <;> rfl
      exact (hno e1 hout).elim
    | rt u nx en => cases hout
    | sl | sc | sn | st | f0 | f1 | f2 | sa => exact absurd hk.1 n6
    | sb u m a => cases hp
    | _ => exact absurd hsh id
  | t1 k => obtain ⟨v, u, rfl⟩ := hsh; exact absurd (ho _ rfl).1 n6
  | t2 k f => obtain ⟨v, u, rfl⟩ := hsh; exact absurd (ho _ rfl).1 n6
  | t3 k f lk => obtain ⟨v, u, rfl⟩ := hsh; exact absurd (ho _ rfl).1 n6
  | t4 k n a => obtain ⟨v, u, rfl⟩ := hsh; exact absurd (ho _ rfl).1 n6
  | t5 k n a b => obtain ⟨v, u, rfl⟩ := hsh; exact absurd (ho _ rfl).1 n6
  | v1 k n => obtain ⟨a, rfl⟩ := hsh; cases hp
  | v2 k n f => obtain ⟨a, rfl⟩ := hsh; cases hp
  | v3 k n f => obtain ⟨a, rfl⟩ := hsh; cases hp
  | g1 k i c => exact (hno (q' := ⟨.g2 k i c _ _, _⟩) (outP_pt hp) hout).elim
  | g3 k i c er => exact (hno (q' := ⟨.g1 k i c, _⟩) (outP_pt hp) hout).elim
  | g2 k i c v b =>
    refine (hno ?_ hout).elim
    show outP (if V.er = s.e i then norm (segM hd tl) _ s.up else _ : Q Sk).pc = _
    split
    · rcases hsh with ⟨v', m, rfl⟩ | rfl <;> rfl
    · exact outP_pt (q := ⟨.g3 k i c V.er, s.up⟩) hp
  | c k i =>
    refine (hno ?_ hout).elim
    exact (clr_pt _ _).2.trans (outP_pt (q := ⟨.c k i, s⟩) hp)
  | r1 k n => have hk : k = .rr := hsh; subst hk; cases hout
  | r2 k n er =>
    have hk : k = .rr := hsh
    subst hk
    refine (hno ?_ hout).elim
    show outP (if (s.gone.length : Int) + 1 < 2 * (S : Int) then norm (segM hd tl) _ _ else _ : Q Sk).pc = _
    split
    · rfl
    · exact (scan_pt _ _ _ _).2
  | rs k held c cs => have hk : k = .rr := hsh; subst hk; exact (hno (scan_pt _ _ _ _).2 hout).elim
  | s1 k held y gs stay =>
    have hk : k = .rr := hsh
    subst hk
    refine (hno ?_ hout).elim
    show outP (if held.any (inB (max1 (V.bi y.1)) y.2) = true then siftQ (segM hd tl) _ _ _ _ _ else _ : Q Sk).pc = _
    split
    · exact (sift_pt _ _ _ _ _).2
    · rfl
  | w1 k held y gs stay => have hk : k = .rr := hsh; subst hk; cases hout
  | w2 k held y gs stay f => have hk : k = .rr := hsh; subst hk; cases hout
  | w3 k held y gs stay f =>
    have hk : k = .rr := hsh
    subst hk
    refine (hno ?_ hout).elim
    show outP (if (act V (asks (segM hd tl) w (.w3 .rr held y gs stay f))).2.ok then siftQ (segM hd tl) _ _ _ _ _ else _ : Q Sk).pc = _
    split
    · exact (sift_pt _ _ _ _ _).2
    · rfl
end

/-! ### The play -/
def aloneP (vs : List Int) : PlayT := ⟨4, [vs.map fun v => ⟨6, 0, v, 0⟩, vs.map fun _ => ⟨7, 0, 0, 0⟩, [⟨7, 0, 0, 0⟩]], []⟩
def sendW (vs : List Int) : List OpT := vs.map fun v => ⟨6, 0, v, 0⟩
def recvW (vs : List Int) : List OpT := vs.map fun _ => ⟨7, 0, 0, 0⟩
theorem alone_g (vs : List Int) (h : vs.length ≤ 7) (hv : ∀ v ∈ vs, VOk v) : PlayG (aloneP vs) := by
  refine ⟨⟨by simp [aloneP], by simp [aloneP], by simp [aloneP], by simp [aloneP], by simp [aloneP], fun w hw => ?_⟩, fun ws hw o ho => ?_⟩
  · simp only [aloneP, List.mem_cons, List.not_mem_nil, or_false] at hw
    rcases hw with rfl | rfl | rfl
    · simpa using h
    · simpa using h
    · simp
  · simp only [aloneP, List.mem_cons, List.not_mem_nil, or_false] at hw
    rcases hw with rfl | rfl | rfl
    · obtain ⟨v, hv', rfl⟩ := List.mem_map.1 ho
      exact ⟨.inl rfl, hv v hv'⟩
    · obtain ⟨v, _, rfl⟩ := List.mem_map.1 ho
      exact ⟨.inr rfl, by simp [VOk]⟩
    · simp at ho; subst ho; exact ⟨.inr rfl, by simp [VOk]⟩
/-- What receives tell. -/
def recvA (l : List StepT) : List (Int × Bool) := l.filterMap fun s => if s.done && decide (s.op.kind = 7) then some (s.out.val, s.out.is) else none
theorem recvA_snoc (l : List StepT) (s : StepT) : recvA (l ++ [s]) = recvA l ++ (if s.done && decide (s.op.kind = 7) then [(s.out.val, s.out.is)] else []) := by
  unfold recvA
  rw [List.filterMap_append]
  cases h : (s.done && decide (s.op.kind = 7))
  · simp only [List.filterMap_cons, List.filterMap_nil, h, Bool.false_eq_true, if_false]
  · simp only [List.filterMap_cons, List.filterMap_nil, h, if_true]
/-- Whether a seat's operation has its point behind it. -/
def ptA (p : PlayT) (ws : List OpT) (x : SeatT) : Nat := if x.at_ < ws.length then ptN (qAt p ws x) else 0
def seat0 : SeatT := ⟨0, [], []⟩
theorem start_q {p : PlayT} {ws : List OpT} {n : Nat} {gone : List (Int × Int)} {op : OpT} (ho : ws[n]? = some op) : qAt p ws ⟨n, [], gone⟩ = startQ (hdP p) (tlP p) op gone := by
  unfold qAt
  simp only [ho]
  rfl
theorem start_pt {p : PlayT} {ws : List OpT} {n : Nat} {gone : List (Int × Int)} : ptA p ws ⟨n, [], gone⟩ = 0 := by
  unfold ptA
  split
  · rename_i h
    have he : ws[n]? = some ws[n] := List.getElem?_eq_getElem h
    rw [start_q he]
    unfold ptN
    rw [(start_shape _ _ _ _).2.2]; rfl
  · rfl
theorem start_out {p : PlayT} {ws : List OpT} {n : Nat} (h : n < ws.length) {gone : List (Int × Int)} : outP (qAt p ws ⟨n, [], gone⟩).pc = none ∧ (qAt p ws ⟨n, [], gone⟩).s.gone = gone := by
  have he : ws[n]? = some ws[n] := List.getElem?_eq_getElem h
  rw [start_q he]
  exact ⟨outP_pt (start_shape _ _ _ _).2.2, rfl⟩
structure AloneJ (vs : List Int) (s : PSt) (X : List Int) (g : SegG) (x0 x1 x2 : SeatT) : Prop where
  seats : s.seats = [x0, x1, x2]
  l0 : x0.at_ ≤ vs.length
  l1 : x1.at_ ≤ vs.length
  l2 : x2.at_ ≤ 1
  f1 : x0.at_ < vs.length → x1 = seat0
  f2 : x1.at_ < vs.length → x2 = seat0
  c : contF g = (vs.take (x0.at_ + ptA (aloneP vs) (sendW vs) x0)).drop (x1.at_ + ptA (aloneP vs) (recvW vs) x1)
  o0 : x0.at_ < vs.length → (∀ v b e, outP (qAt (aloneP vs) (sendW vs) x0).pc = some (v, b, e) → e = 0) ∧ (qAt (aloneP vs) (sendW vs) x0).s.gone = []
  o1 : x1.at_ < vs.length → ∀ v b e, outP (qAt (aloneP vs) (recvW vs) x1).pc = some (v, b, e) → b = true ∧ vs[x1.at_]? = some v
  o2 : x2.at_ < 1 → ∀ v b e, outP (qAt (aloneP vs) [⟨7, 0, 0, 0⟩] x2).pc = some (v, b, e) → v = 0 ∧ b = false ∧ X.length = 1
  e2 : x2.at_ = 1 → X.length = 1
  r : recvA s.out = (vs.take x1.at_).map (fun v => (v, true)) ++ (if x2.at_ = 0 then [] else [(0, false)])
/-- What an access does, of three kinds. -/
theorem seg_act {p : PlayT} {K : Nat} {V : Vw} {qs : List (Q Sk)} {F X : List Int} {g : SegG} {w : Nat} {q : Q Sk} (hI : Inv (spP p) (layP p) p.want.length (nP p) K V qs F X g) (hq : qs[w]? = some q) (hf : q.pc.asking) (hsh : Shape q) {op : OpT} (ho : OpP op q.pc) {q' : Q Sk} (hq' : q' = tell (mP p) p.want.length q (actP p w V q).2) {X' : List Int} {g' : SegG} (hX : X' = (nxX (spP p) V.W X g q.pc).1) (hg : g' = (nxX (spP p) V.W X g q.pc).2) :
    (contF g' = contF g ∧ ptN q' = ptN q ∧ outP q'.pc = outP q.pc ∧ (ptN q = 1 → X' = X)) ∨
    (ptN q = 0 ∧ ptN q' = 1 ∧ ∃ v b, outP q'.pc = some (v, b, 0) ∧ specS (contF g) op = (contF g', v, b) ∧ (op.kind = 7 → b = false → X'.length = 1)) ∨
    ((ofW V.fr).idx = 0 ∧ ∃ v u, q.pc = .t1 (.tk v u)) := by
  have hN := nP_le p
  have heff : Eff V op g g' q q' := by rw [hg, hq']; exact seg_eff (by omega) hI hq hf hsh ho
  have hnew : ptP q.pc = none → ptP q'.pc = none ∨ ptP q'.pc = some (q.s.made : Int) := fun h => by rw [hq']; exact pt_new hsh h
  have hstay : ∀ a, ptP q.pc = some a → ptP q'.pc = some a ∧ outP q'.pc = outP q.pc := fun a h => by rw [hq']; exact pt_tell h
  cases hp : ptP q.pc with
  | some a =>
    obtain ⟨k1, k2⟩ := hstay a hp
    refine .inl ⟨heff.quiet (.inr (by rw [hp]; simp)), ?_, k2, fun _ => ?_⟩
    · unfold ptN; rw [hp, k1]
    · rw [hX]; exact pt_X (by rw [hp]; simp)
  | none =>
    have p0 : ptN q = 0 := by unfold ptN; rw [hp]; rfl
    rcases hnew hp with h | h
    · refine .inl ⟨heff.quiet (.inl h), ?_, by rw [outP_pt h, outP_pt hp], fun h1 => by omega⟩
      unfold ptN; rw [hp, h]
    · obtain ⟨v, b, e, h1, h2⟩ := heff.new hp (by rw [h]; simp)
      rcases h2 with ⟨rfl, h3⟩ | ⟨_, _, _, h4, h5⟩
      · refine .inr (.inl ⟨p0, by unfold ptN; rw [h]; rfl, v, b, h1, h3, fun h7 hb => ?_⟩)
        subst hb
        rw [hX]
        rw [hq'] at h1
        exact none_X (by omega) hI hq hsh ho h7 hp h1
      · exact .inr (.inr ⟨h4, h5⟩)
theorem subset_len : ∀ (U X : List Int), U.Nodup → (∀ n ∈ U, n ∈ X) → U.length ≤ X.length
  | [], _, _, _ => by simp
  | u :: U, X, hd, h => by
    obtain ⟨h1, h2⟩ := List.nodup_cons.1 hd
    have hu := h u (by simp)
    have := subset_len U (X.erase u) h2 (fun n hn => (List.mem_erase_of_ne (fun e => h1 (by rw [← e]; exact hn))).2 (h n (by simp [hn])))
    rw [List.length_erase_of_mem hu] at this
    have : 0 < X.length := List.length_pos_of_mem hu
    simp only [List.length_cons]
    omega
end Go.Proofs.Ytgoijmomglomlaa
/- Alone, step by step. -/
namespace Go.Proofs.Ytgoijmomglomlaa
set_option maxRecDepth 100000

theorem out_ptN {q : Q Sk} {r : Int × Bool × Int} (h : outP q.pc = some r) : ptN q = 1 := by
  unfold ptN
  cases hp : ptP q.pc with
  | none => rw [outP_pt hp] at h; cases h
  | some a => rfl
theorem cells_startS {p : PlayT} (hp : PlayOk p) : CellsLt (start p).m := cells_start hp
/-- A play's end, where what holds at a step may lean on how far each seat is. -/
theorem played_endE {p : PlayT} (hp : PlayG p) (J : Nat → PSt → Vw → List Int → List Int → SegG → Prop)
    (hJ : ∀ i s V F X g s' V' F' X' g', i < allF p → G p i s V F X g → StepR p (whoF p i) s V F X g s' V' F' X' g' → G p (i + 1) s' V' F' X' g' → EndsP p i s V g → PutJ p s g → J i s V F X g → J (i + 1) s' V' F' X' g')
    (h0 : J 0 (start p) (V0 p.want.length (nP p)) (upF 2 (nP p - 1)) [1] g0) :
    ∃ s V F X g, playL (layP p) p (allF p) 0 (start p) = .ok s ∧ G p (allF p) s V F X g ∧ J (allF p) s V F X g ∧ (∀ (w : Nat) (x : SeatT) (ws : List OpT), s.seats[w]? = some x → p.want[w]? = some ws → ws.length ≤ x.at_) := by
  have hG := G_start hp
  obtain ⟨s, V, F, X, g, h1, h2, h3, h4, h5⟩ := play_ind hp (fun i s V F X g => J i s V F X g ∧ EndsP p i s V g ∧ PutJ p s g) (fun i s V F X g s' V' F' X' g' hi hG hS hG' h => ⟨hJ i s V F X g s' V' F' X' g' hi hG hS hG' h.2.1 h.2.2 h.1, ends_step hp hi hG hS hG' h.2.2 h.2.1, put_step hp hi hG hS h.2.2⟩) (allF p) 0 (start p) _ _ _ _ (by omega) hG ⟨h0, fun w x ws hx hw => by
    have := rem_le hp hG hx hw
    omega, put_start p⟩
  rw [Nat.zero_add] at h2 h3 h4
  refine ⟨s, V, F, X, g, h1, h2, h3, fun w x ws hx hw => ?_⟩
  have := h4 w x ws hx hw
  have hwl := (List.getElem?_eq_some_iff.1 hw).1
  have : rem p V g ws x = 0 := by unfold allF at this; omega
  unfold rem at this
  split at this
  · assumption
  · omega
section
variable {vs : List Int}
theorem alone_want : (aloneP vs).want = [sendW vs, recvW vs, [⟨7, 0, 0, 0⟩]] := rfl
theorem alone_who (i : Nat) : whoF (aloneP vs) i = i / 1000 := by
  unfold whoF
  rw [show (aloneP vs).turns = [] from rfl]
  simp
theorem own_start {p : PlayT} (ws : List OpT) (hws : ∀ o ∈ ws, (o.kind = 6 ∨ o.kind = 7) ∧ VOk o.a) : own (spP p) (qAt p ws seat0) = [] := by
  obtain ⟨pc', e, h2⟩ := qAt_next p ws hws 0 []
  rw [show qAt p ws seat0 = _ from e]
  obtain ⟨_, m1, m2, m3, _⟩ := start_loc (p := p) (V := V0 0 0) (X := []) (g := g0) (P := noP) (s := ⟨0, [], 0, 0, 0⟩) ⟨rfl, rfl, rfl⟩ h2
  simp only [own, deadQ, m1, m2, m3]; rfl
/-- There is a free node for each segment. -/
theorem alone_free (hp : PlayG (aloneP vs)) {i : Nat} {s : PSt} {V : Vw} {F X : List Int} {g : SegG} {x0 : SeatT} (hlen : vs.length ≤ 7) (hG : G (aloneP vs) i s V F X g) (hput : PutJ (aloneP vs) s g) (hs : s.seats = [x0, seat0, seat0]) (h0 : x0.at_ < vs.length) (hgone : (qAt (aloneP vs) (sendW vs) x0).s.gone = []) {v u : Int} (hpc : (qAt (aloneP vs) (sendW vs) x0).pc = .t1 (.tk v u)) (hf : (ofW V.fr).idx = 0) : False := by
  have hk := hp.k
  rw [alone_want] at hk
  have hN : nP (aloneP vs) = 6 := rfl
  have hfi := hG.inv.fIdx (by rw [hN]; omega)
  rw [hf] at hfi
  have hF : F = [] := by
    cases F with
    | nil => rfl
    | cons n F =>
      have := hG.inv.inF (n := n) (by simp)
      simp at hfi
      omega
  have e1 := own_start (p := aloneP vs) (recvW vs) (hk _ (by simp))
  have e2 := own_start (p := aloneP vs) [⟨7, 0, 0, 0⟩] (hk _ (by simp))
  have e0 : own (spP (aloneP vs)) (qAt (aloneP vs) (sendW vs) x0) = [] := by
    generalize hq : qAt (aloneP vs) (sendW vs) x0 = q at *
    obtain ⟨pc, st⟩ := q
    simp only at hpc hgone
    subst hpc
    simp only [own, deadQ, mineP, deadP, goneP, hgone]
    rfl
  have hX : ∀ n : Int, 1 ≤ n → n ≤ 6 → n ∈ X := fun n n1 n6 => by
    have h1 := hG.inv.part n
    rw [if_pos ⟨n1, by rw [hN]; omega⟩, hF] at h1
    have h2 : ownSum (spP (aloneP vs)) (qsOf (aloneP vs) s.seats) n = 0 := by
      unfold ownSum qsOf
      rw [hs, alone_want]
      simp only [List.zip_cons_cons, List.zip_nil_right, List.map_cons, List.map_nil, e0, e1, e2]
      rfl
    rw [h2] at h1
    simp only [List.count_nil] at h1
    exact List.count_pos_iff.1 (by omega)
  have h6 := subset_len [1, 2, 3, 4, 5, 6] X (by decide) (fun n hn => by
    simp only [List.mem_cons, List.not_mem_nil, or_false] at hn
    exact hX n (by omega) (by omega))
  have hSI : SegSI (hdP (aloneP vs)) (tlP (aloneP vs)) (nP (aloneP vs)) i V.W X (Dq (spP (aloneP vs)) (qsOf (aloneP vs) s.seats)) g := hG.inv.si
  obtain ⟨a, c, _, hc, hsum⟩ := hSI.seq
  have hp1 := hput.put
  have z0 : ptN (qAt (aloneP vs) (sendW vs) x0) = 0 := by unfold ptN; rw [hpc]; rfl
  have hrl : (recvW vs).length = vs.length := by simp [recvW]
  have z1 : ptN (qAt (aloneP vs) (recvW vs) seat0) = 0 := by
    have := start_pt (p := aloneP vs) (ws := recvW vs) (n := 0) (gone := [])
    unfold ptA at this
    rw [if_pos (show (⟨0, [], []⟩ : SeatT).at_ < (recvW vs).length by rw [hrl]; show 0 < _; omega)] at this
    exact this
  have z2 : ptN (qAt (aloneP vs) [⟨7, 0, 0, 0⟩] seat0) = 0 := by
    have := start_pt (p := aloneP vs) (ws := [⟨7, 0, 0, 0⟩]) (n := 0) (gone := [])
    unfold ptA at this
    rw [if_pos (by simp)] at this
    exact this
  rw [hs, alone_want] at hp1
  simp only [List.zip_cons_cons, List.zip_nil_right, List.map_cons, List.map_nil, List.sum_cons, List.sum_nil, opN, z0, z1, z2] at hp1
  simp only [seat0] at hp1
  simp only [List.length_cons, List.length_nil] at h6
  omega
theorem ptA_at {p : PlayT} {ws : List OpT} {x : SeatT} (h : x.at_ < ws.length) : ptA p ws x = ptN (qAt p ws x) := by unfold ptA; rw [if_pos h]
theorem ptA_end {p : PlayT} {ws : List OpT} {x : SeatT} (h : ws.length ≤ x.at_) : ptA p ws x = 0 := by unfold ptA; rw [if_neg (by omega)]
theorem alone_step (hlen : vs.length ≤ 7) (hv : ∀ v ∈ vs, VOk v) {i : Nat} {s s' : PSt} {V V' : Vw} {F X F' X' : List Int} {g g' : SegG} (hi : i < allF (aloneP vs)) (hG : G (aloneP vs) i s V F X g) (hS : StepR (aloneP vs) (whoF (aloneP vs) i) s V F X g s' V' F' X' g') (hE : EndsP (aloneP vs) i s V g) (hput : PutJ (aloneP vs) s g) {x0 x1 x2 : SeatT} (hJ : AloneJ vs s X g x0 x1 x2) : ∃ y0 y1 y2, AloneJ vs s' X' g' y0 y1 y2 := by
  have hp := alone_g vs hlen hv
  have hsl : (sendW vs).length = vs.length := by simp [sendW]
  have hrl : (recvW vs).length = vs.length := by simp [recvW]
  obtain ⟨hs, l0, l1, l2, f1, f2, hc, o0, o1, o2, e2, hr⟩ := hJ
  have g0' : s.seats[0]? = some x0 := by rw [hs]; rfl
  have g1' : s.seats[1]? = some x1 := by rw [hs]; rfl
  have g2' : s.seats[2]? = some x2 := by rw [hs]; rfl
  have w0 : (aloneP vs).want[0]? = some (sendW vs) := rfl
  have w1 : (aloneP vs).want[1]? = some (recvW vs) := rfl
  have w2 : (aloneP vs).want[2]? = some [⟨7, 0, 0, 0⟩] := rfl
  have over : ∀ (w : Nat) (x : SeatT) (ws : List OpT), s.seats[w]? = some x → (aloneP vs).want[w]? = some ws → 1000 * (w + 1) ≤ i → ws.length ≤ x.at_ := fun w x ws hx hw h => by
    have h1 := hE w x ws hx hw
    have h2 : (aloneP vs).turns.length = 0 := rfl
    have h3 : rem (aloneP vs) V g ws x = 0 := by omega
    unfold rem at h3
    split at h3
    · assumption
    · omega
  have hlt := whoF_lt hp.ok hi
  have hwho := alone_who (vs := vs) i
  rw [show (aloneP vs).want.length = 3 from rfl] at hlt
  have hkind : ∀ {ws : List OpT} {n : Nat} {op : OpT}, ws ∈ (aloneP vs).want → ws[n]? = some op → op.kind = 6 ∨ op.kind = 7 := fun h1 h2 => (hp.k _ h1 _ (List.mem_of_getElem? h2)).1
  cases hS with
  | idle => exact ⟨x0, x1, x2, hs, l0, l1, l2, f1, f2, hc, o0, o1, o2, e2, hr⟩
  | done x ws op q o hx hw ho hq hpc =>
    have hal := (List.getElem?_eq_some_iff.1 ho).1
    have hpt : ptN q = 1 := by unfold ptN; rw [hpc]; rfl
    have hout : outP q.pc = some (o.val, o.is, o.err) := by rw [hpc]; rfl
    generalize whoF (aloneP vs) i = who at *
    match who, hlt with
    | 0, _ =>
      rw [g0'] at hx; cases hx
      rw [w0] at hw; cases hw
      rw [hsl] at hal
      have hx1 := f1 hal
      have hx2 := f2 (by rw [hx1]; show 0 < _; omega)
      subst hx1 hx2
      have hop : op.kind = 6 := by obtain ⟨v, _, rfl⟩ := List.mem_map.1 (List.mem_of_getElem? ho); rfl
      refine ⟨⟨x0.at_ + 1, [], q.s.gone⟩, seat0, seat0, by simp [hs], by simp only; omega, l1, l2, fun _ => rfl, fun _ => rfl, ?_, fun h => ?_, o1, o2, e2, ?_⟩
      · rw [hc, ptA_at (ws := sendW vs) (by rw [hsl]; exact hal), ← hq, hpt, start_pt]
      · obtain ⟨k1, k2⟩ := start_out (p := aloneP vs) (ws := sendW vs) (n := x0.at_ + 1) (by rw [hsl]; exact h) (gone := q.s.gone)
        refine ⟨fun v b e he => (by rw [k1] at he; cases he), ?_⟩
        rw [k2, hq]
        exact (o0 hal).2
      · simp only
        rw [recvA_snoc, hr]
        simp [op0F, hop]
    | 1, _ =>
      rw [g1'] at hx; cases hx
      rw [w1] at hw; cases hw
      rw [hrl] at hal
      have hx0 := over 0 x0 _ g0' w0 (by omega)
      rw [hsl] at hx0
      have hx2 := f2 hal
      subst hx2
      have hop : op.kind = 7 := by obtain ⟨v, _, rfl⟩ := List.mem_map.1 (List.mem_of_getElem? ho); rfl
      obtain ⟨j1, j2⟩ := o1 hal o.val o.is o.err (by rw [← hq]; exact hout)
      refine ⟨x0, ⟨x1.at_ + 1, [], q.s.gone⟩, seat0, by simp [hs], l0, by simp only; omega, l2, fun h => by omega, fun _ => rfl, ?_, o0, fun h => ?_, o2, e2, ?_⟩
      · rw [hc, ptA_at (ws := recvW vs) (by rw [hrl]; exact hal), ← hq, hpt, start_pt]
      · obtain ⟨k1, _⟩ := start_out (p := aloneP vs) (ws := recvW vs) (n := x1.at_ + 1) (by rw [hrl]; exact h) (gone := q.s.gone)
        intro v b e he
        rw [k1] at he; cases he
      · simp only
        rw [recvA_snoc, hr, List.take_add_one, j2]
        simp [op0F, hop, seat0, j1]
    | 2, _ =>
      rw [g2'] at hx; cases hx
      rw [w2] at hw; cases hw
      simp only [List.length_cons, List.length_nil, Nat.zero_add] at hal
      have hx0 := over 0 x0 _ g0' w0 (by omega)
      rw [hsl] at hx0
      have hx1 := over 1 x1 _ g1' w1 (by omega)
      rw [hrl] at hx1
      have hx2 : x2.at_ = 0 := by omega
      have hop : op.kind = 7 := by rw [hx2] at ho; simp at ho; subst ho; rfl
      obtain ⟨j1, j2, j3⟩ := o2 hal o.val o.is o.err (by rw [← hq]; exact hout)
      refine ⟨x0, x1, ⟨x2.at_ + 1, [], q.s.gone⟩, by simp [hs], l0, l1, by simp only; omega, fun h => by omega, fun h => by omega, hc, o0, o1, fun h => by simp only at h; omega, fun _ => j3, ?_⟩
      simp only
      rw [recvA_snoc, hr]
      simp [op0F, hop, hx2, j1, j2]
  | acc x ws op q hx hw ho hq hpc =>
    have hal := (List.getElem?_eq_some_iff.1 ho).1
    have hqg := qs_at hx hw hq
    have hsh := (qAt_shape (aloneP vs) ws x hal).1
    have hop := qAt_op (p := aloneP vs) (hkind (List.mem_of_getElem? hw) ho) ho
    rw [← hq] at hsh hop
    have e1q : qAt (aloneP vs) ws { x with log := x.log ++ [(actP (aloneP vs) (whoF (aloneP vs) i) V q).2] } = tell (mP (aloneP vs)) (aloneP vs).want.length q (actP (aloneP vs) (whoF (aloneP vs) i) V q).2 := by
      rw [hq]
      unfold qAt
      simp only [ho]
      rw [runQ_snoc]
    have hact := seg_act hG.inv hqg hpc hsh hop rfl rfl rfl
    have hgn : op.kind = 6 → (tell (mP (aloneP vs)) (aloneP vs).want.length q (actP (aloneP vs) (whoF (aloneP vs) i) V q).2).s.gone = q.s.gone := fun h6 => send_gone h6 hsh hop
    generalize tell (mP (aloneP vs)) (aloneP vs).want.length q (actP (aloneP vs) (whoF (aloneP vs) i) V q).2 = q' at *
    generalize (actP (aloneP vs) (whoF (aloneP vs) i) V q).2 = r at *
    have hrec : ∀ st : StepT, st.done = false → recvA (s.out ++ [st]) = recvA s.out := fun st h => by rw [recvA_snoc, h]; simp
    generalize whoF (aloneP vs) i = who at *
    match who, hlt with
    | 0, _ =>
      rw [g0'] at hx; cases hx
      rw [w0] at hw; cases hw
      rw [hsl] at hal
      have hx1 := f1 hal
      have hx2 := f2 (by rw [hx1]; show 0 < _; omega)
      subst hx1 hx2
      have ho' := ho
      simp only [sendW, List.getElem?_map, Option.map_eq_some_iff] at ho'
      obtain ⟨va, hva, hop'⟩ := ho'
      have h6 : op.kind = 6 := by rw [← hop']
      have hpa : op.a = va := by rw [← hop']
      have hs1 : ptA (aloneP vs) (recvW vs) seat0 = 0 := start_pt
      have hp0 : ptA (aloneP vs) (sendW vs) x0 = ptN q := by rw [ptA_at (by rw [hsl]; exact hal), ← hq]
      have hp0' : ptA (aloneP vs) (sendW vs) { x0 with log := x0.log ++ [r] } = ptN q' := by rw [ptA_at (by rw [hsl]; exact hal), e1q]
      have hx2o : ∀ v b e, outP (qAt (aloneP vs) [⟨7, 0, 0, 0⟩] seat0).pc = some (v, b, e) → False := fun v b e h => by
        rw [show qAt (aloneP vs) [⟨7, 0, 0, 0⟩] seat0 = qAt (aloneP vs) [⟨7, 0, 0, 0⟩] ⟨0, [], []⟩ from rfl, (start_out (n := 0) (by simp)).1] at h; cases h
      rw [hs1, hp0] at hc
      rcases hact with ⟨c1, c2, c3, c4⟩ | ⟨c1, c2, v, b, c3, c4, c5⟩ | ⟨c1, v, u, c2⟩
      · refine ⟨{ x0 with log := x0.log ++ [r] }, seat0, seat0, by simp [hs], l0, l1, l2, fun _ => rfl, fun _ => rfl, ?_, fun h => ?_, o1, fun _ v b e h => (hx2o v b e h).elim, fun h => by simp [seat0] at h, by rw [hrec _ rfl]; exact hr⟩
        · rw [c1, hp0', c2, hs1]; exact hc
        · rw [e1q, c3, hgn h6, hq]
          exact o0 hal
      · rw [c1] at hc
        refine ⟨{ x0 with log := x0.log ++ [r] }, seat0, seat0, by simp [hs], l0, l1, l2, fun _ => rfl, fun _ => rfl, ?_, fun h => ?_, o1, fun _ v b e h => (hx2o v b e h).elim, fun h => by simp [seat0] at h, by rw [hrec _ rfl]; exact hr⟩
        · rw [hp0', c2, hs1]
          unfold specS at c4
          rw [if_pos h6] at c4
          have c6 := (congrArg Prod.fst c4).symm
          simp only at c6
          rw [c6, hc, hpa]
          simp only [seat0, Nat.add_zero, List.drop_zero]
          rw [List.take_add_one, hva]
          rfl
        · rw [e1q, c3, hgn h6, hq]
          exact ⟨fun v b e he => by cases he; rfl, (o0 hal).2⟩
      · exact (alone_free hp hlen hG hput hs hal (o0 hal).2 (by rw [← hq]; exact c2) c1).elim
    | 1, _ =>
      rw [g1'] at hx; cases hx
      rw [w1] at hw; cases hw
      rw [hrl] at hal
      have hx0 := over 0 x0 _ g0' w0 (by omega)
      rw [hsl] at hx0
      have hx2 := f2 hal
      subst hx2
      have h7 : op.kind = 7 := by obtain ⟨v, _, rfl⟩ := List.mem_map.1 (List.mem_of_getElem? ho); rfl
      have hs0 : ptA (aloneP vs) (sendW vs) x0 = 0 := ptA_end (by rw [hsl]; exact hx0)
      have hp1 : ptA (aloneP vs) (recvW vs) x1 = ptN q := by rw [ptA_at (by rw [hrl]; exact hal), ← hq]
      have hp1' : ptA (aloneP vs) (recvW vs) { x1 with log := x1.log ++ [r] } = ptN q' := by rw [ptA_at (by rw [hrl]; exact hal), e1q]
      have hx2o : ∀ v b e, outP (qAt (aloneP vs) [⟨7, 0, 0, 0⟩] seat0).pc = some (v, b, e) → False := fun v b e h => by
        rw [show qAt (aloneP vs) [⟨7, 0, 0, 0⟩] seat0 = qAt (aloneP vs) [⟨7, 0, 0, 0⟩] ⟨0, [], []⟩ from rfl, (start_out (n := 0) (by simp)).1] at h; cases h
      rw [hs0, hp1] at hc
      rcases hact with ⟨c1, c2, c3, c4⟩ | ⟨c1, c2, v, b, c3, c4, c5⟩ | ⟨c1, v, u, c2⟩
      · refine ⟨x0, { x1 with log := x1.log ++ [r] }, seat0, by simp [hs], l0, l1, l2, fun h => by omega, fun _ => rfl, ?_, fun h => by omega, fun h => ?_, fun _ v b e h => (hx2o v b e h).elim, fun h => by simp [seat0] at h, by rw [hrec _ rfl]; exact hr⟩
        · rw [c1, hp1', c2, hs0]; exact hc
        · rw [e1q, c3, hq]
          exact o1 hal
      · rw [c1] at hc
        have hget : vs[x1.at_]? = some vs[x1.at_] := List.getElem?_eq_getElem hal
        have hdrop : contF g = vs[x1.at_] :: vs.drop (x1.at_ + 1) := by
          rw [hc, List.take_of_length_le (by omega), Nat.add_zero, List.drop_eq_getElem_cons hal]
        unfold specS at c4
        rw [if_neg (by omega), hdrop] at c4
        simp only [Prod.mk.injEq] at c4
        obtain ⟨c6, c7, c8⟩ := c4
        refine ⟨x0, { x1 with log := x1.log ++ [r] }, seat0, by simp [hs], l0, l1, l2, fun h => by omega, fun _ => rfl, ?_, fun h => by omega, fun h => ?_, fun _ v b e h => (hx2o v b e h).elim, fun h => by simp [seat0] at h, by rw [hrec _ rfl]; exact hr⟩
        · rw [hp1', c2, hs0, ← c6, List.take_of_length_le (by omega)]
        · rw [e1q, c3]
          intro v' b' e' he
          cases he
          exact ⟨c8.symm, by rw [hget, c7]⟩
      · have := (hop _ (by rw [c2]; rfl) : OpK op (.tk v u)).1
        omega
    | 2, _ =>
      rw [g2'] at hx; cases hx
      rw [w2] at hw; cases hw
      simp only [List.length_cons, List.length_nil, Nat.zero_add] at hal
      have hx0 := over 0 x0 _ g0' w0 (by omega)
      rw [hsl] at hx0
      have hx1 := over 1 x1 _ g1' w1 (by omega)
      rw [hrl] at hx1
      have hx2 : x2.at_ = 0 := by omega
      have h7 : op.kind = 7 := by rw [hx2] at ho; simp at ho; subst ho; rfl
      have hs0 : ptA (aloneP vs) (sendW vs) x0 = 0 := ptA_end (by rw [hsl]; exact hx0)
      have hs1 : ptA (aloneP vs) (recvW vs) x1 = 0 := ptA_end (by rw [hrl]; exact hx1)
      have hc0 : contF g = [] := by
        rw [hc, hs0, hs1]
        apply List.drop_of_length_le
        rw [List.length_take]; omega
      rcases hact with ⟨c1, c2, c3, c4⟩ | ⟨c1, c2, v, b, c3, c4, c5⟩ | ⟨c1, v, u, c2⟩
      · refine ⟨x0, x1, { x2 with log := x2.log ++ [r] }, by simp [hs], l0, l1, l2, fun h => by omega, fun h => by omega, by rw [c1]; exact hc, fun h => by omega, fun h => by omega, fun h v b e he => ?_, fun h => by simp only at h; omega, by rw [hrec _ rfl]; exact hr⟩
        rw [e1q, c3] at he
        have := o2 hal v b e (by rw [← hq]; exact he)
        rw [c4 (out_ptN he)]
        exact this
      · unfold specS at c4
        rw [if_neg (by omega), hc0] at c4
        simp only [Prod.mk.injEq] at c4
        obtain ⟨c6, c7, c8⟩ := c4
        refine ⟨x0, x1, { x2 with log := x2.log ++ [r] }, by simp [hs], l0, l1, l2, fun h => by omega, fun h => by omega, by rw [← c6, ← hc0]; exact hc, fun h => by omega, fun h => by omega, fun h v' b' e' he => ?_, fun h => by simp only at h; omega, by rw [hrec _ rfl]; exact hr⟩
        rw [e1q, c3] at he
        cases he
        exact ⟨c7.symm, c8.symm, c5 h7 c8.symm⟩
      · have := (hop _ (by rw [c2]; rfl) : OpK op (.tk v u)).1
        omega
theorem alone_start (vs : List Int) : AloneJ vs (start (aloneP vs)) [1] g0 seat0 seat0 seat0 := by
  refine ⟨rfl, by simp [seat0], by simp [seat0], by simp [seat0], fun _ => rfl, fun _ => rfl, ?_, fun h => ?_, fun h v b e he => ?_, fun h v b e he => ?_, fun _ => rfl, ?_⟩
  · rw [show ptA (aloneP vs) (sendW vs) seat0 = 0 from start_pt, show ptA (aloneP vs) (recvW vs) seat0 = 0 from start_pt]
    simp [contF, g0, seat0]
  · obtain ⟨k1, k2⟩ := start_out (p := aloneP vs) (ws := sendW vs) (n := 0) (by simp [sendW]; exact h) (gone := [])
    exact ⟨fun v b e he => (by rw [show qAt (aloneP vs) (sendW vs) seat0 = qAt (aloneP vs) (sendW vs) ⟨0, [], []⟩ from rfl, k1] at he; cases he), k2⟩
  · rw [show qAt (aloneP vs) (recvW vs) seat0 = qAt (aloneP vs) (recvW vs) ⟨0, [], []⟩ from rfl, (start_out (n := 0) (by simp [recvW]; exact h)).1] at he
    cases he
  · rw [show qAt (aloneP vs) [⟨7, 0, 0, 0⟩] seat0 = qAt (aloneP vs) [⟨7, 0, 0, 0⟩] ⟨0, [], []⟩ from rfl, (start_out (n := 0) (by simp)).1] at he
    cases he
  · simp [start, recvA, seat0]
structure AloneR (vs : List Int) (R : PlayedT) : Prop where
  ends : R.ends = true
  r : recvA R.steps = vs.map (fun v => (v, true)) ++ [(0, false)]
  one : (nodesF (layP (aloneP vs)) R.m 0).length = 1
  lt : CellsLt R.m
theorem alone_true (hlen : vs.length ≤ 7) (hv : ∀ v ∈ vs, VOk v) : AloneR vs (playedF (aloneP vs)) := by
  have hp := alone_g vs hlen hv
  have hL := layP_lay (aloneP vs) hp.ok.w1
  have hN := nP_le (aloneP vs)
  have hcs := cells_startS hp.ok
  obtain ⟨s, V, F, X, g, h1, h2, ⟨⟨x0, x1, x2, h3⟩, h6⟩, hover⟩ := played_endE hp (fun i s V F X g => (∃ x0 x1 x2, AloneJ vs s X g x0 x1 x2) ∧ CellsLt s.m)
    (fun i s V F X g s' V' F' X' g' hi hG hS hG' hE hput h => ⟨by
      obtain ⟨⟨x0, x1, x2, hJ⟩, _⟩ := h
      exact alone_step hlen hv hi hG hS hE hput hJ, cells_step hp hi hG hS h.2⟩) (And.intro (Exists.intro seat0 (Exists.intro seat0 (Exists.intro seat0 (alone_start vs)))) hcs)
  rw [playedF_end h1 hover]
  have hs := h3.seats
  have k1 := hover 1 x1 (recvW vs) (by rw [hs]; rfl) rfl
  have k2 := hover 2 x2 [⟨7, 0, 0, 0⟩] (by rw [hs]; rfl) rfl
  rw [show (recvW vs).length = vs.length by simp [recvW]] at k1
  have l1 := h3.l1
  have l2 := h3.l2
  simp only [List.length_cons, List.length_nil, Nat.zero_add] at k2
  have e2 := h3.e2 (by omega)
  have hr := h3.r
  rw [List.take_of_length_le k1, if_neg (by omega)] at hr
  refine ⟨rfl, hr, ?_, h6⟩
  have hn := nodes_is hL (segLayP (aloneP vs)) rfl (by omega) h2.view h2.inv
  simp only
  rw [hn]
  exact e2
end
end Go.Proofs.Ytgoijmomglomlaa
