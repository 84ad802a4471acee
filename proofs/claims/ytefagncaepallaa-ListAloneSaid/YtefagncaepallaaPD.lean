/- Lists: a get that is alone. -/
import Derived.Test.YtefagncaepallaaPC
namespace Go.Proofs.Ytefagncaepallaa
set_option maxRecDepth 100000

/-- What a get tells is right. -/
structure RightG (W : Ws) (X : List Int) (o : Int) (out : OutT) : Prop where
  yes : out.is = true → ∃ n ∈ X, W.nd n 1 = o ∧ out.val = W.nd n 2
  no : out.is = false → ∀ n ∈ X, W.nd n 1 ≠ o
section
variable (hd : Int) (W : Ws) (X : List Int) (o : Int)
def calmG : Lk → Prop
  | .ga o' .get => o' = o
  | .gb o' .get _ _ pn cur => o' = o ∧ Fr hd W pn cur
  | _ => False
def calmV (v : Int) : Lk → Prop
  | .ga o' .get => o' = o ∧ v = W.ob hd
  | .gb o' .get _ _ pn cur => o' = o ∧ Fr hd W pn cur ∧ v = W.nd cur 0
  | _ => False
def calmK : Lk → Prop
  | .ls o' .get _ _ pn cur w _ => o' = o ∧ Fr hd W pn cur ∧ w = W.nd cur 0
  | .lo o' .get _ _ pn cur w _ _ => o' = o ∧ Fr hd W pn cur ∧ w = W.nd cur 0
  | .gv o' cur _ => o' = o ∧ cur ∈ X ∧ W.nd cur 1 = o
  | _ => False
/-- A get that nobody is in the way of. -/
def Calm : Pc Lk → Prop
  | .g1 k _ _ | .g3 k _ _ _ => calmG hd W o k
  | .g2 k _ _ v _ => calmV hd W o v k
  | .at_ k => calmK hd W X o k
  | .c (.fi out) _ => RightG W X o out
  | .fin out => RightG W X o out
  | _ => False
/-- How long it takes still. -/
def alG : Lk → Nat
  | .ga _ _ => 7 * X.length + 4
  | .gb _ _ _ _ _ cur => 7 * lL X cur - 1
  | _ => 0
def alK : Lk → Nat
  | .ls _ _ _ _ _ cur _ _ => 7 * lL X cur - 1
  | .lo _ _ _ _ _ cur _ _ _ => 7 * lL X cur - 2
  | .gv _ _ _ => 4
  | _ => 0
def al (V : Vw) (q : Q Lk) : Nat := match q.pc with
  | .g1 k i _ => (if V.er = q.s.e i then 2 else 5) + alG X k
  | .g2 k i _ _ _ => (if V.er = q.s.e i then 1 else 4) + alG X k
  | .g3 k _ _ er => (if V.er = er then 3 else 6) + alG X k
  | .at_ k => alK X k
  | .c _ _ => nz q.s
  | _ => 0
end
section
variable {hd : Int} {l : LayT} {S N K : Nat} {V : Vw} {qs : List (Q Lk)} {F X : List Int} {g : LstG} {w : Nat} {q : Q Lk} {o : Int}
theorem clr_calm {out : OutT} (s : PsT) (h : RightG V.W X o out) : Calm hd V.W X o (clrQ (lstM hd) (.fi out) s).pc ∧ al X V (clrQ (lstM hd) (.fi out) s) ≤ nz s := by
  rcases clr_cases (M := lstM hd) (.fi out) s with ⟨i, _, _, _, e⟩ | ⟨_, e⟩
  · rw [e]; exact ⟨h, Nat.le_refl _⟩
  · rw [e]; exact ⟨h, Nat.zero_le _⟩
theorem goW_calm (hN : N ≤ 9) {D : Int → Prop} (hSI : LstSI hd N K V.W X D g) (hXd : X.Nodup) (hb : ∀ n, n ∈ X ∨ D n → 1 ≤ n ∧ n ≤ (N : Int)) {a b pn cur pt : Int} {s : PsT} (hp : pn = 0 ∨ pn ∈ X ∨ D pn) (hk : Kp V.W o pn) (h0 : 0 ≤ cur) (h1 : cur ≤ N) (hf : Fr hd V.W pn cur) : Calm hd V.W X o (norm (lstM hd) (goW o .get a b pn cur pt) s).pc ∧ al X V (norm (lstM hd) (goW o .get a b pn cur pt) s) ≤ 7 * lL X cur + 4 := by
  unfold goW
  by_cases hc : cur = 0
  · rw [if_pos hc]
    subst hc
    have hf : V.W.get (prevA hd pn) = 0 := hf
    obtain ⟨A, B, hs⟩ := stand hSI (by omega) hXd hp hb hf (by omega) (by omega)
    have hr : RightG V.W X o (noO pt) := by
      refine ⟨fun h => (by cases h), fun _ n hn e => ?_⟩
      rw [hs.eq] at hn
      rcases List.mem_append.1 hn with hn | hn
      · have := below hSI hs hk n hn; omega
      · have := above (o := o) hSI hs (.inl rfl) n hn; omega
    have := clr_calm (hd := hd) s hr
    have h3 := nz_le s
    exact ⟨this.1, Nat.le_trans this.2 (by omega)⟩
  · rw [if_neg hc]
    refine ⟨⟨rfl, hf⟩, ?_⟩
    have hf : V.W.get (prevA hd pn) = cur := by rw [← plainW_eq h0 (by omega)]; exact hf
    obtain ⟨A, C, hs⟩ := stand hSI (by omega) hXd hp hb hf (by omega) h1
    obtain ⟨B, rfl, _⟩ := hs.inX hc
    have : lL X cur = B.length + 1 := lL_at hs.eq hXd hSI.no0
    show (if V.er = s.e b then 2 else 5) + (7 * lL X cur - 1) ≤ 7 * lL X cur + 4
    split <;> omega
/-- Each access of a get that is alone. -/
theorem calm_step (hN : N ≤ 9) (hI : Inv (lstZ hd N) l S N K V qs F X g) (hq : qs[w]? = some q) (hf : q.pc.asking) (hsh : Shape q) (hpl : ∀ n ∈ X, V.W.nd n 0 < 65536) (hc : Calm hd V.W X o q.pc) :
    (act V (asks (lstM hd) w q.pc)).1.W = V.W ∧ nxX (lstZ hd N) V.W X g q.pc = (X, g) ∧ Calm hd V.W X o (tell (lstM hd) S q (act V (asks (lstM hd) w q.pc)).2).pc ∧ al X (act V (asks (lstM hd) w q.pc)).1 (tell (lstM hd) S q (act V (asks (lstM hd) w q.pc)).2) < al X V q := by
  have hSI : LstSI hd N K V.W X (Dq (lstZ hd N) qs) g := hI.si
  have hXd := hI.nodupX
  have hloc := hI.loc w _ hq
  have hb : ∀ n, n ∈ X ∨ Dq (lstZ hd N) qs n → 1 ≤ n ∧ n ≤ (N : Int) := fun n h => h.elim (fun h => hI.inX h) fun h => (hI.dq h).1
  have hPX : ∀ i n, Pr (lstZ hd N) V X qs w q.s i n → n ∈ X ∨ Dq (lstZ hd N) qs n := fun i n h => pr_in h
  have hst : ∀ {pn cur : Int}, (pn = 0 ∨ pn ∈ X ∨ Dq (lstZ hd N) qs pn) → 1 ≤ cur → cur ≤ N → Fr hd V.W pn cur → ∃ A B, Stand V.W X pn cur A (cur :: B) ∧ cur ∈ X ∧ lL X cur = B.length + 1 ∧ V.W.nd cur 0 = B.headD 0 ∧ lL X (B.headD 0) = B.length := by
    intro pn cur hp h0 h1 hf
    have hf : V.W.get (prevA hd pn) = cur := by rw [← plainW_eq (show 0 ≤ cur by omega) (by omega)]; exact hf
    obtain ⟨A, C, hs⟩ := stand hSI (by omega) hXd hp hb hf (by omega) h1
    obtain ⟨B, rfl, hcX⟩ := hs.inX (by omega)
    have hX := hs.eq
    have hl := hSI.link
    rw [hX] at hl
    have h2 : V.W.nd cur 0 % 65536 = B.headD 0 := (linked_cut hl).1
    have h3 := hpl cur hcX
    have h4 := hSI.form cur (.inl hcX)
    have h5 := ofW_idx (V.W.nd cur 0)
    have h6 := h4.1
    exact ⟨A, B, hs, hcX, lL_at hX hXd hSI.no0, by omega, lL_at (A := A ++ [cur]) (by rw [hX]; simp) hXd hSI.no0⟩
  obtain ⟨pc, s⟩ := q
  have hpc := hloc.pc
  cases pc with
  | at_ k =>
    have hkl : lstKL N V.W X (Pr (lstZ hd N) V X qs w s) k := hpc.1
    cases k with
    | ls o' f a b pn cur w' t =>
      cases f with
      | get =>
        obtain ⟨rfl, c1, rfl⟩ := hc
        obtain ⟨k1, k2, k3, k4⟩ := hkl
        obtain ⟨A, B, hs, hcX, e1, e2, e3⟩ := hst (k1.pp.at_ hPX) k1.c1 k1.cN c1
        have hg : V.get (prevA hd pn) = V.W.get (prevA hd pn) := by unfold prevA; split <;> rfl
        have e : tell (lstM hd) S ⟨.at_ (.ls o' .get a b pn cur (V.W.nd cur 0) t), s⟩ (act V (asks (lstM hd) w (.at_ (.ls o' .get a b pn cur (V.W.nd cur 0) t)))).2 = ⟨.at_ (.lo o' .get a b pn cur (V.W.nd cur 0) t s.made), s.up⟩ := by
          show norm (lstM hd) (if V.get (prevA hd pn) = plainW cur then .at_ (.lo o' .get a b pn cur (V.W.nd cur 0) t s.made) else anew hd o' .get) s.up = _
          rw [hg, if_pos c1]; rfl
        rw [e]
        refine ⟨rfl, rfl, ⟨rfl, c1, rfl⟩, ?_⟩
        show 7 * lL X cur - 2 < 7 * lL X cur - 1
        omega
      | _ => exact absurd hc id
    | lo o' f a b pn cur w' t k =>
      cases f with
      | get =>
        obtain ⟨rfl, c1, rfl⟩ := hc
        obtain ⟨k1, k2, k3, k4⟩ := hkl
        obtain ⟨A, B, hs, hcX, e1, e2, e3⟩ := hst (k1.pp.at_ hPX) k1.c1 k1.cN c1
        have hbr : 0 ≤ B.headD 0 ∧ B.headD 0 ≤ (N : Int) := head_rng fun n hn => hSI.rng n (by rw [hs.eq]; simp [hn])
        have hm : ¬ (ofW (V.W.nd cur 0)).mark = true := by rw [mark_plain (by omega) (by omega)]; simp
        have hi : (ofW (V.W.nd cur 0)).idx = B.headD 0 := by rw [e2]; exact idx_small hbr.1 (by omega)
        have e : tell (lstM hd) S ⟨.at_ (.lo o' .get a b pn cur (V.W.nd cur 0) t k), s⟩ (act V (asks (lstM hd) w (.at_ (.lo o' .get a b pn cur (V.W.nd cur 0) t k)))).2 = norm (lstM hd) (if (ofW (V.W.nd cur 0)).mark then .at_ (.cu o' .get a b pn cur (V.W.nd cur 0)) else if V.W.nd cur 1 < o' then goW o' .get b (3 - a - b) cur (ofW (V.W.nd cur 0)).idx t else if V.W.nd cur 1 = o' then exY o' .get pn cur (V.W.nd cur 0) t else exN o' .get pn cur k) s.up := rfl
        rw [e, if_neg hm, hi]
        refine ⟨rfl, rfl, ?_⟩
        show Calm hd V.W X o' _ ∧ al X V _ < 7 * lL X cur - 2
        have hc0 := k1.c1
        by_cases hk1 : V.W.nd cur 1 < o'
        · rw [if_pos hk1]
          have := goW_calm (hd := hd) hN hSI hXd hb (a := b) (b := 3 - a - b) (pt := t) (s := s.up) (.inr (.inl hcX)) (.inr hk1) hbr.1 hbr.2 (by
            show V.W.get (prevA hd cur) = _
            rw [get_prev, if_neg (by omega), e2, plainW_eq hbr.1 (by omega)])
          exact ⟨this.1, by have := this.2; omega⟩
        · rw [if_neg hk1]
          by_cases hk2 : V.W.nd cur 1 = o'
          · rw [if_pos hk2]
            refine ⟨⟨rfl, hcX, hk2⟩, ?_⟩
            show 4 < 7 * lL X cur - 2
            omega
          · rw [if_neg hk2]
            have hr : RightG V.W X o' (noO k) := by
              refine ⟨fun h => (by cases h), fun _ n hn e => ?_⟩
              rw [hs.eq] at hn
              rcases List.mem_append.1 hn with hn | hn
              · have := below hSI hs k1.kp n hn; omega
              · have := above hSI hs (.inr (show o' < V.W.nd cur 1 by omega)) n hn; omega
            have := clr_calm (hd := hd) s.up hr
            have h3 := nz_le s.up
            exact ⟨this.1, Nat.lt_of_le_of_lt this.2 (by omega)⟩
      | _ => exact absurd hc id
    | gv o' cur pt =>
      obtain ⟨rfl, c1, c2⟩ := hc
      have hr : RightG V.W X o' ⟨V.W.nd cur 2, true, 0, pt, []⟩ := ⟨fun _ => ⟨cur, c1, c2, rfl⟩, fun h => by cases h⟩
      have := clr_calm (hd := hd) s.up hr
      have h3 := nz_le s.up
      refine ⟨rfl, rfl, this.1, ?_⟩
      show al X V (clrQ (lstM hd) (.fi ⟨V.W.nd cur 2, true, 0, pt, []⟩) s.up) < 4
      omega
    | _ => exact absurd hc id
  | g1 k i c =>
    have e1 : act V (asks (lstM hd) w (.g1 k i c)) = (V, ⟨V.W.get c, true⟩) := by simp only [asks, act, get_str hpc.2.2.2.2.1]
    have hgad := hpc.2.2.2.2.2
    rw [e1]
    refine ⟨rfl, rfl, ?_, ?_⟩
    · rcases hsh with ⟨o', f, rfl⟩ | ⟨o', f, a, pn, cur, rfl, rfl⟩
      · obtain ⟨rfl, rfl⟩ := hgad
        cases f with
        | get => exact ⟨hc, rfl⟩
        | _ => exact absurd hc id
      · cases f with
        | get => exact ⟨hc.1, hc.2, rfl⟩
        | _ => exact absurd hc id
    · show (if V.er = s.e i then 1 else 4) + alG X k < (if V.er = s.e i then 2 else 5) + alG X k
      split <;> omega
  | g2 k i c v b =>
    have e : tell (lstM hd) S ⟨.g2 k i c v b, s⟩ (act V (asks (lstM hd) w (.g2 k i c v b))).2 = if V.er = s.e i then norm (lstM hd) ((lstM hd).guarded k v b) s.up else ⟨.g3 k i c V.er, s.up⟩ := rfl
    rw [e]
    refine ⟨rfl, rfl, ?_⟩
    show Calm hd V.W X o _ ∧ al X V _ < (if V.er = s.e i then 1 else 4) + alG X k
    by_cases he : V.er = s.e i
    · rw [if_pos he, if_pos he]
      rcases hsh with ⟨o', f, rfl⟩ | ⟨o', f, a, pn, cur, rfl, rfl⟩
      · cases f with
        | get =>
          obtain ⟨rfl, rfl⟩ := hc
          have hr := head_rng hSI.rng
          have hi : (ofW (V.W.ob hd)).idx = X.headD 0 := by rw [hSI.head]; exact idx_small hr.1 (by omega)
          have hL : lL X (X.headD 0) = X.length := lL_at (A := []) rfl hXd hSI.no0
          have := goW_calm (hd := hd) (o := o') hN hSI hXd hb (a := 0) (b := 1) (pn := 0) (cur := X.headD 0) (pt := b) (s := s.up) (.inl rfl) (.inl rfl) hr.1 hr.2 (by
            show V.W.get (prevA hd 0) = _
            rw [get_prev, if_pos rfl, hSI.head, plainW_eq hr.1 (by omega)])
          rw [hL] at this
          show Calm hd V.W X o' (norm (lstM hd) (goW o' .get 0 1 0 (ofW (V.W.ob hd)).idx b) s.up).pc ∧ al X V (norm (lstM hd) (goW o' .get 0 1 0 (ofW (V.W.ob hd)).idx b) s.up) < 1 + (7 * X.length + 4)
          rw [hi]
          exact ⟨this.1, by have := this.2; omega⟩
        | _ => exact absurd hc id
      · cases f with
        | get =>
          refine ⟨hc, ?_⟩
          show 7 * lL X cur - 1 < 1 + (7 * lL X cur - 1)
          omega
        | _ => exact absurd hc id
    · rw [if_neg he, if_neg he]
      refine ⟨?_, ?_⟩
      · rcases hsh with ⟨o', f, rfl⟩ | ⟨o', f, a, pn, cur, rfl, rfl⟩
        · cases f with
          | get => exact hc.1
          | _ => exact absurd hc id
        · cases f with
          | get => exact ⟨hc.1, hc.2.1⟩
          | _ => exact absurd hc id
      · show (if V.er = V.er then 3 else 6) + alG X k < 4 + alG X k
        rw [if_pos rfl]; omega
  | g3 k i c er =>
    have hget : (s.up.putE i er).e i = er := by rw [e_putE hpc.2.2.1 hpc.2.2.2.1 hpc.2.2.1 hpc.2.2.2.1, if_pos rfl]
    refine ⟨rfl, rfl, hc, ?_⟩
    show (if V.er = (s.up.putE i er).e i then 2 else 5) + alG X k < (if V.er = er then 3 else 6) + alG X k
    rw [hget]
    split <;> omega
  | c k i =>
    cases k with
    | fi out =>
      obtain ⟨h1, h2, h3, h4⟩ := hsh
      have h5 : nz (s.up.putE i 0) < nz s := nz_put h2 h3 h1
      have hc : RightG (V.put (.rv w i) 0).W X o out := hc
      have := clr_calm (hd := hd) (V := V.put (.rv w i) 0) (s.up.putE i 0) hc
      exact ⟨rfl, rfl, this.1, Nat.lt_of_le_of_lt this.2 h5⟩
    | _ => exact absurd hc id
  | fin out => exact absurd hf id
  | _ => exact absurd hc id
end
end Go.Proofs.Ytefagncaepallaa
/- Lists: alone, keys are put, and one is asked for. -/
namespace Go.Proofs.Ytefagncaepallaa
set_option maxRecDepth 100000

theorem subset_len : ∀ (U X : List Int), U.Nodup → (∀ n ∈ U, n ∈ X) → U.length ≤ X.length
  | [], _, _, _ => by simp
  | u :: U, X, hd, h => by
    obtain ⟨h1, h2⟩ := List.nodup_cons.1 hd
    have hu := h u (by simp)
    have := subset_len U (X.erase u) h2 (fun n hn => (List.mem_erase_of_ne (fun e => h1 (by rw [← e]; exact hn))).2 (h n (by simp [hn])))
    rw [List.length_erase_of_mem hu] at this
    have : 0 < X.length := List.length_pos_of_mem hu
    simp only [List.length_cons]
    omega
/-- Accesses of one operation alone, till it is over. -/
def alOk (l : LayT) (op : OpT) (gone : List (Int × Int)) (Q : OutT → Prop) : Nat → List Int → List ResT → Prop
  | 0, _, _ => False
  | k + 1, m, log => CellsLt m ∧ m.length = l.size.toNat ∧ (if (nextF l 0 gone op log).2.2 then Q (nextF l 0 gone op log).2.1 else faultF m.length (nextF l 0 gone op log).1 = 0 ∧ alOk l op gone Q k (turnF m (nextF l 0 gone op log).1).1 (log ++ [(turnF m (nextF l 0 gone op log).1).2]))
theorem get_alone {p : PlayT} (hp : PlayG p) {op : OpT} (hk : op.kind = 1) (hobj : op.obj = hdP p) (ha : op.a < 9223372036854775808) (hb : op.b < 9223372036854775808) {gone : List (Int × Int)} {X : List Int} {g : LstG} {W : Ws} (hpl : ∀ n ∈ X, W.nd n 0 < 65536) : ∀ (k K : Nat) (m : List Int) (log : List ResT) (V : Vw) (F : List Int) (q : Q Lk), K + k ≤ 100000 → V.W = W → View (layP p) p.want.length (nP p) m V → CellsLt m → Inv (spP p) (layP p) p.want.length (nP p) K V [q] F X g → q = runQ (mP p) p.want.length (startQ (hdP p) op gone) log → Calm (hdP p) W X op.a q.pc → al X V q < k → alOk (layP p) op gone (RightG W X op.a) k m log
  | 0, _, _, _, _, _, _, _, _, _, _, _, _, _, h => absurd h (by omega)
  | k + 1, K, m, log, V, F, q, hK, hW, hV, hlt, hI, hq, hc, hal => by
    have hL := layP_lay p hp.ok.w1
    have hN := nP_le p
    have hhd : ¬ (op.obj < 0 ∨ (layP p).size ≤ op.obj) := by
      have h1 := hdP_eq p
      have h2 := hL.size
      have h3 := layP_node p
      rw [hobj]
      omega
    have hrun := next_run (l := layP p) (S := p.want.length) (me := 0) rfl (gone := gone) (op := op) (log := log) hhd (.inl hk)
    rw [hobj] at hrun
    have hrun2 : nextF (layP p) 0 gone op log = endQ (mP p) (layP p) 0 q := by rw [hq]; exact hrun
    have hsh : Shape q := by rw [hq]; exact run_shape _ (.inl ⟨_, _, rfl⟩)
    have hof : pOf op q.pc := by rw [hq]; exact of_run _ (.inl ⟨_, _, rfl⟩) ⟨rfl, start_of (.inl hk)⟩
    refine ⟨hlt, hV.len, ?_⟩
    rw [hrun2]
    by_cases hf : ∃ o, q.pc = .fin o
    · obtain ⟨o, hpc⟩ := hf
      have he : endQ (mP p) (layP p) 0 q = (acc0, { o with gone := q.s.gone }, true) := by unfold endQ; rw [hpc]
      rw [he, if_pos rfl]
      rw [hpc] at hc
      have hc : RightG W X op.a o := hc
      exact ⟨hc.yes, hc.no⟩
    · have hf' : ∀ o, q.pc ≠ .fin o := fun o h => hf ⟨o, h⟩
      have hqg : [q][0]? = some q := rfl
      have hask := loc_asking (hI.loc 0 q hqg).pc hf'
      have he : endQ (mP p) (layP p) 0 q = (accP p 0 q, out0, false) := by
        unfold endQ
        split
        · rename_i o h; exact absurd h (hf' o)
        · rfl
      have her := hI.er
      have hact := acts hL hV (a := asks (mP p) 0 q.pc) ⟨by omega, by omega⟩ (ask_ok (soundP p) hI hqg hask)
      rw [he, if_neg (by simp)]
      refine ⟨hact.fault, ?_⟩
      obtain ⟨c1, c2, c3, c4⟩ := calm_step (o := op.a) (by omega) hI hqg hask hsh (by rw [hW]; exact hpl) (by rw [hW]; exact hc)
      have hI' := inv_act (soundP p) (by omega) (by omega) hI hqg hask
      have hlt' := cells_act (M := mP p) hI (by omega) hV hqg (lst_wr ha hb hof) hlt
      have c2' : nxX (spP p) V.W X g q.pc = (X, g) := c2
      rw [c2'] at hI'
      show alOk (layP p) op gone (RightG W X op.a) k (turnF m (accP p 0 q)).1 (log ++ [(turnF m (accP p 0 q)).2])
      have e2 : (turnF m (accP p 0 q)).2 = (actP p 0 V q).2 := hact.res
      rw [e2]
      refine get_alone hp hk hobj ha hb hpl k (K + 1) (turnF m (accP p 0 q)).1 (log ++ [(actP p 0 V q).2]) (actP p 0 V q).1 (nxF V F q.pc) (tell (mP p) p.want.length q (actP p 0 V q).2) (by omega) (c1.trans hW) hact.view hlt' hI' ?_ ?_ ?_
      · rw [runQ_snoc, ← hq]
      · rw [← hW]; exact c3
      · exact Nat.lt_of_lt_of_le c4 (by omega)

/-! ### Keys are put -/
def putW (ks : List Int) : List OpT := ks.map fun k => ⟨2, 0, k, k + 1⟩
def aloneP (ks : List Int) : PlayT := ⟨7, [putW ks], []⟩
theorem alone_g (ks : List Int) (h : ks.length ≤ 4) (hk : ∀ k ∈ ks, 0 ≤ k ∧ k ≤ 255) : PlayG (aloneP ks) := by
  refine ⟨⟨by simp [aloneP], by simp [aloneP], by simp [aloneP], by simp [aloneP], by simp [aloneP], ?_⟩, ?_, ?_⟩
  · intro w hw
    have : w = putW ks := by simpa [aloneP] using hw
    rw [this]; simp [putW, h]
  · intro w hw o ho
    have : w = putW ks := by simpa [aloneP] using hw
    rw [this] at ho
    obtain ⟨k, _, rfl⟩ := List.mem_map.1 ho
    exact .inr (.inl rfl)
  · intro w hw o ho
    have : w = putW ks := by simpa [aloneP] using hw
    rw [this] at ho
    obtain ⟨k, hk', rfl⟩ := List.mem_map.1 ho
    have := hk k hk'
    simp only
    omega
/-- Places where nothing is taken out. -/
def calmP : Pc Lk → Prop
  | .at_ (.cu _ _ _ _ _ _ _) | .r1 _ _ | .r2 _ _ _ | .rs _ _ _ _ | .s1 _ _ _ _ _ | .w1 _ _ _ _ _ | .w2 _ _ _ _ _ _ | .w3 _ _ _ _ _ _ => False
  | _ => True
def HasK (W : Ws) (X : List Int) (k : Int) : Prop := ∃ n ∈ X, W.nd n 1 = k
def PutX (ks : List Int) (W : Ws) (X : List Int) : Prop := ∀ n ∈ X, W.nd n 0 < 65536 ∧ W.nd n 2 = W.nd n 1 + 1 ∧ W.nd n 1 ∈ ks
section
variable {hd : Int} {S : Nat}
theorem goW_calmP (o : Int) (v n : Int) (a b pn cur pt : Int) (s : PsT) : calmP (norm (lstM hd) (goW o (.put v n) a b pn cur pt) s).pc ∧ outP (norm (lstM hd) (goW o (.put v n) a b pn cur pt) s).pc = none := by
  unfold goW exN
  split
  · simp only
    split <;> exact ⟨trivial, rfl⟩
  · exact ⟨trivial, rfl⟩
theorem fi_calmP (o : OutT) (s : PsT) : calmP (norm (lstM hd) (.clr (.fi o)) s).pc := by
  rcases clr_cases (M := lstM hd) (.fi o) s with ⟨i, _, _, _, e⟩ | ⟨_, e⟩
  · show calmP (clrQ (lstM hd) (.fi o) s).pc
    rw [e]; trivial
  · show calmP (clrQ (lstM hd) (.fi o) s).pc
    rw [e]; trivial
end
/-- A put of one who is alone. -/
structure PutQ (op : OpT) (W : Ws) (X : List Int) (q : Q Lk) : Prop where
  calm : calmP q.pc
  gone : q.s.gone = []
  out : ∀ v b e, outP q.pc = some (v, b, e) → HasK W X op.a
section
variable {hd : Int} {l : LayT} {N K : Nat} {V : Vw} {F X : List Int} {g : LstG} {q : Q Lk} {op : OpT} {ks : List Int}
theorem put_alone (hLy : LstLay l 1 hd) (hN : N = 9) (hI : Inv (lstZ hd N) l 1 N K V [q] F X g) (hf : q.pc.asking) (hsh : Shape q) (hop : pOf op q.pc) (hk2 : op.kind = 2) (hob : op.b = op.a + 1) (hoa : op.a ∈ ks) (hks : ks.length ≤ 4) (hX : PutX ks V.W X) (hq : PutQ op V.W X q) :
    PutX ks (act V (asks (lstM hd) 0 q.pc)).1.W (nxX (lstZ hd N) V.W X g q.pc).1 ∧ (∀ k, HasK V.W X k → HasK (act V (asks (lstM hd) 0 q.pc)).1.W (nxX (lstZ hd N) V.W X g q.pc).1 k) ∧ PutQ op (act V (asks (lstM hd) 0 q.pc)).1.W (nxX (lstZ hd N) V.W X g q.pc).1 (tell (lstM hd) 1 q (act V (asks (lstM hd) 0 q.pc)).2) := by
  have hSI : LstSI hd N K V.W X (Dq (lstZ hd N) [q]) g := hI.si
  have hqg : [q][0]? = some q := rfl
  have hloc := hI.loc 0 q hqg
  have hXd := hI.nodupX
  have hcs : ∀ (f v : Int), (act V (.cs .free f v)).1.W = V.W := fun f v => by simp only [act]; split <;> rfl
  have hsh' := shape_tell (hd := hd) (S := 1) (r := (act V (asks (lstM hd) 0 q.pc)).2) hsh
  have hstay : ∀ a, ptP q.pc = some a → NotGv q → outP (tell (lstM hd) 1 q (act V (asks (lstM hd) 0 q.pc)).2).pc = outP q.pc := fun a h h2 => (pt_tell hsh h).2 h2
  obtain ⟨pc, s⟩ := q
  have hpc := hloc.pc
  have hg0 : s.gone = [] := hq.gone
  have none_ : ∀ {W' : Ws} {X' : List Int} {pc' : Pc Lk}, outP pc' = none → ∀ (v : Int) (b : Bool) (e : Int), outP pc' = some (v, b, e) → HasK W' X' op.a := fun h v b e h2 => by rw [h] at h2; cases h2
  have fi : ∀ {o : OutT} {s' : PsT}, s'.gone = [] → HasK V.W X op.a → PutQ op V.W X (norm (lstM hd) (.clr (.fi o)) s') := fun h h2 => ⟨fi_calmP _ _, by rw [norm_s]; exact h, fun _ _ _ _ => h2⟩
  cases pc with
  | fin o => exact absurd hf id
  | clr k => exact absurd hsh id
  | at_ k =>
    have ho := own_at hLy (by omega) hI hqg
    have ha : act V (asks (lstM hd) 0 (.at_ k)) = ({ V with W := (actW V.W (lstAsk hd k)).1 }, (actW V.W (lstAsk hd k)).2) := ho.act
    have hk := ho.kl
    cases k with
    | ls o f a b pn cur w t =>
      refine ⟨hX, fun k h => h, ?_⟩
      obtain ⟨rfl, hof⟩ := hop
      show PutQ op V.W X (norm (lstM hd) (if (act V (.ld (prevA hd pn))).2.val = plainW cur then .at_ (.lo op.a f a b pn cur w t s.made) else anew hd op.a f) s.up)
      have hfp : fpt f = none := by
        cases f with
        | fin a => have : op.kind = 3 := hof; omega
        | _ => rfl
      split
      · exact ⟨trivial, hg0, none_ (by show (fpt f).map _ = none; rw [hfp]; rfl)⟩
      · exact ⟨trivial, hg0, none_ (by show (fpt f).map _ = none; rw [hfp]; rfl)⟩
    | lo o f a b pn cur w t k =>
      obtain ⟨k1, k2, k3, k4⟩ := hk
      obtain ⟨rfl, hof⟩ := hop
      have hcX : cur ∈ X := (ho.hP _ _ k1.pc).elim id fun ⟨j, x, hx, hn⟩ => by
        cases j with
        | zero =>
          have hx : x = ⟨.at_ (.lo op.a f a b pn cur w t k), s⟩ := by simpa using hx.symm
          subst hx
          simp [deadQ, deadP, goneP, hg0, lstZ, lstDead] at hn
        | succ j => simp at hx
      have hm : ¬ (ofW w).mark = true := fun hm => by
        have e1 := k4 hm
        have e2 := k2.mark.1 hm
        have e3 := ofW_idx w
        have := (hX cur hcX).1
        omega
      refine ⟨hX, fun k h => h, ?_⟩
      show PutQ op V.W X (norm (lstM hd) (if (ofW w).mark then .at_ (.cu op.a f a b pn cur w) else if V.W.nd cur 1 < op.a then goW op.a f b (3 - a - b) cur (ofW w).idx t else if V.W.nd cur 1 = op.a then exY op.a f pn cur w t else exN op.a f pn cur k) s.up)
      rw [if_neg hm]
      cases f with
      | get => have : op.kind = 1 := hof; omega
      | del => have : op.kind = 3 := hof; omega
      | fin x => have : op.kind = 3 := hof; omega
      | put v n =>
        split
        · obtain ⟨g1, g2⟩ := goW_calmP (hd := hd) op.a v n b (3 - a - b) cur (ofW w).idx t s.up
          exact ⟨g1, by rw [norm_s]; exact hg0, none_ g2⟩
        · split
          · rename_i he
            unfold exY
            simp only
            split
            · exact fi hg0 ⟨cur, hcX, he⟩
            · exact ⟨trivial, hg0, fun _ _ _ _ => ⟨cur, hcX, he⟩⟩
          · unfold exN
            simp only
            split
            · exact ⟨trivial, hg0, none_ rfl⟩
            · exact ⟨trivial, hg0, none_ rfl⟩
    | cu o f a b pn cur w => exact absurd hq.calm id
    | gv o cur pt => have : op.kind = 1 := hop.2; omega
    | p1 o v n pn cur =>
      have hn := (ho.mi n (by simp [lstMine])).1
      have hne : ∀ x ∈ X, ∀ j, (V.W.setNd n 1 o).nd x j = V.W.nd x j := fun x hx j => by rw [nd_set, if_neg (fun hh : x = n ∧ _ => hn (hh.1 ▸ hx))]
      exact ⟨fun x hx => by show (V.W.setNd n 1 o).nd x 0 < _ ∧ (V.W.setNd n 1 o).nd x 2 = (V.W.setNd n 1 o).nd x 1 + 1 ∧ (V.W.setNd n 1 o).nd x 1 ∈ ks; rw [hne x hx, hne x hx, hne x hx]; exact hX x hx, fun k ⟨x, hx, h⟩ => ⟨x, hx, by show (V.W.setNd n 1 o).nd x 1 = k; rw [hne x hx]; exact h⟩, trivial, hg0, none_ rfl⟩
    | p2 o v n pn cur =>
      have hn := (ho.mi n (by simp [lstMine])).1
      have hne : ∀ x ∈ X, ∀ j, (V.W.setNd n 2 v).nd x j = V.W.nd x j := fun x hx j => by rw [nd_set, if_neg (fun hh : x = n ∧ _ => hn (hh.1 ▸ hx))]
      exact ⟨fun x hx => by show (V.W.setNd n 2 v).nd x 0 < _ ∧ (V.W.setNd n 2 v).nd x 2 = (V.W.setNd n 2 v).nd x 1 + 1 ∧ (V.W.setNd n 2 v).nd x 1 ∈ ks; rw [hne x hx, hne x hx, hne x hx]; exact hX x hx, fun k ⟨x, hx, h⟩ => ⟨x, hx, by show (V.W.setNd n 2 v).nd x 1 = k; rw [hne x hx]; exact h⟩, trivial, hg0, none_ rfl⟩
    | p0 o v n pn cur =>
      have hn := (ho.mi n (by simp [lstMine])).1
      have hne : ∀ x ∈ X, ∀ j, (V.W.setNd n 0 (plainW cur)).nd x j = V.W.nd x j := fun x hx j => by rw [nd_set, if_neg (fun hh : x = n ∧ _ => hn (hh.1 ▸ hx))]
      exact ⟨fun x hx => by show (V.W.setNd n 0 (plainW cur)).nd x 0 < _ ∧ (V.W.setNd n 0 (plainW cur)).nd x 2 = (V.W.setNd n 0 (plainW cur)).nd x 1 + 1 ∧ (V.W.setNd n 0 (plainW cur)).nd x 1 ∈ ks; rw [hne x hx, hne x hx, hne x hx]; exact hX x hx, fun k ⟨x, hx, h⟩ => ⟨x, hx, by show (V.W.setNd n 0 (plainW cur)).nd x 1 = k; rw [hne x hx]; exact h⟩, trivial, hg0, none_ rfl⟩
    | cp o v n pn cur =>
      obtain ⟨h1, h2, h3, h4, h5⟩ := hk
      obtain ⟨rfl, _, rfl⟩ := hop
      have hmn := ho.mi n (by simp [lstMine])
      have hnb := ho.hb n (.inr (.inl (by simp [lstMine])))
      obtain ⟨i, hi⟩ := h1.pc
      obtain ⟨j, hj⟩ := h1.pp
      have hcb : 0 ≤ cur ∧ cur ≤ N := by
        rcases hi with rfl | hi
        · omega
        · omega
      have e0 : plainW cur = cur := plainW_eq hcb.1 (by omega)
      have e0' : plainW n = n := plainW_eq (by omega) (by omega)
      by_cases hc : V.W.get (prevA hd pn) = cur
      · obtain ⟨A, B, hs, _, _⟩ := insert_si hSI (Nat.succ_le_succ hSI.k) (by omega) ho.nd (fun n hn => ho.hb n (hn.imp id .inr)) (hj.at_ ho.hP) hcb.1 hcb.2 hc hnb.1 hnb.2 hmn.1 hmn.2 h3 h5 h1.kp h1.kc
        have e1 : actW V.W (lstAsk hd (.cp op.a op.b n pn cur)) = (V.W.put (prevA hd pn) n, ⟨cur, true⟩) := by simp only [lstAsk, actW, e0, e0', hc, if_true]
        have e2 : lstNx hd V.W X g (.cp op.a op.b n pn cur) = (A ++ n :: B, { g with put := g.put + 1 }) := by
          simp only [lstNx, e0, hc, if_true]
          rw [nx_ins hs ho.nd]
        have hpn : pn ≠ n := fun e => by
          subst e
          rcases hj.at_ ho.hP with hp | hp | hp
          · omega
          · exact hmn.1 hp
          · exact hmn.2 hp
        have e3 : nxX (lstZ hd N) V.W X g (.at_ (.cp op.a op.b n pn cur)) = (A ++ n :: B, { g with put := g.put + 1 }) := e2
        have hlow : ∀ x, V.W.nd x 0 < 65536 → (V.W.put (prevA hd pn) n).nd x 0 < 65536 := fun x hx => by
          rw [put_nd]
          split
          · omega
          · exact hx
        have hoth : ∀ x j, j ≠ 0 → (V.W.put (prevA hd pn) n).nd x j = V.W.nd x j := fun x j hj0 => by rw [put_nd, if_neg (fun hh => hj0 hh.2.2)]
        rw [ha, e1]
        simp only [e3]
        have hin : ∀ x, x ∈ A ++ n :: B → x ∈ X ∨ x = n := fun x hx => by
          rw [hs.eq]
          simp only [List.mem_append, List.mem_cons] at hx ⊢
          rcases hx with h | h | h
          · exact .inl (.inl h)
          · exact .inr h
          · exact .inl (.inr h)
        have hto : ∀ x ∈ X, x ∈ A ++ n :: B := fun x hx => by
          rw [hs.eq] at hx
          simp only [List.mem_append, List.mem_cons] at hx ⊢
          rcases hx with h | h
          · exact .inl h
          · exact .inr (.inr h)
        have hnew : HasK (V.W.put (prevA hd pn) n) (A ++ n :: B) op.a := ⟨n, by simp, by rw [hoth n 1 (by omega)]; exact h3⟩
        refine ⟨fun x hx => ?_, fun k ⟨x, hx, h⟩ => ⟨x, hto x hx, by rw [hoth x 1 (by omega)]; exact h⟩, fi_calmP _ _, ?_, fun _ _ _ _ => hnew⟩
        · rw [hoth x 1 (by omega), hoth x 2 (by omega)]
          rcases hin x hx with hx | rfl
          · have := hX x hx
            exact ⟨hlow x this.1, this.2⟩
          · exact ⟨hlow x (by rw [h5]; omega), by rw [h3, h4]; exact hob, by rw [h3]; exact hoa⟩
        · show (norm (lstM hd) (.clr (.fi (okO s.made))) s.up).s.gone = []
          rw [norm_s]; exact hg0
      · have e1 : actW V.W (lstAsk hd (.cp op.a op.b n pn cur)) = (V.W, ⟨V.W.get (prevA hd pn), false⟩) := by simp only [lstAsk, actW, e0, hc, if_false]
        have e2 : lstNx hd V.W X g (.cp op.a op.b n pn cur) = (X, g) := by simp only [lstNx, e0, hc, if_false]
        have e3 : nxX (lstZ hd N) V.W X g (.at_ (.cp op.a op.b n pn cur)) = (X, g) := e2
        rw [ha, e1]
        simp only [e3]
        exact ⟨hX, fun k h => h, trivial, hg0, none_ rfl⟩
    | cm o pn cur w => have : op.kind = 3 := hop.2; omega
    | cd o pn cur nx a => have : op.kind = 3 := hop.2; omega
    | _ => exact absurd hsh id
  | t1 k =>
    obtain ⟨o, v, pn, cur, rfl⟩ := hsh
    refine ⟨hX, fun k h => h, ?_⟩
    -- there are more nodes than keys
    have h0 : ¬ (ofW V.fr).idx = 0 := fun h0 => by
      have hfi := hI.fIdx (by omega)
      rw [h0] at hfi
      have hF : F = [] := by
        cases F with
        | nil => rfl
        | cons n F =>
          have := hI.inF (n := n) (by simp)
          simp at hfi
          omega
      have hall : ∀ n ∈ upF 1 9, n ∈ X := fun n hn => by
        have hb : 1 ≤ n ∧ n ≤ 9 := by
          have h9 := upF_count n 9 1
          have := List.count_pos_iff.2 hn
          rw [h9] at this
          split at this
          · omega
          · omega
        have hpt := hI.part n
        rw [if_pos (by omega), hF] at hpt
        have ho : ownSum (lstZ hd N) [(⟨.t1 (.tk o v pn cur), s⟩ : Q Lk)] n = 0 := by
          simp [ownSum, own, deadQ, mineP, deadP, goneP, hg0, lstZ, lstMine, lstDead]
        rw [ho] at hpt
        simp only [List.count_nil] at hpt
        exact List.count_pos_iff.1 (by omega)
      have h1 := subset_len (upF 1 9) X (by decide) hall
      have h2 : ((X.map fun n => V.W.nd n 1)).Nodup := by
        have := hSI.rise
        exact (List.pairwise_map.2 this).imp fun h => by omega
      have h3 := subset_len _ ks h2 (fun k hk => by
        obtain ⟨n, hn, rfl⟩ := List.mem_map.1 hk
        exact (hX n hn).2.2)
      rw [List.length_map] at h3
      have : (upF 1 9).length = 9 := rfl
      omega
    show PutQ op V.W X (if (ofW V.fr).idx = 0 then norm (lstM hd) _ s.up else ⟨.t2 (.tk o v pn cur) V.fr, s.up⟩)
    rw [if_neg h0]
    exact ⟨trivial, hg0, none_ rfl⟩
  | t2 k f =>
    obtain ⟨o, v, pn, cur, rfl⟩ := hsh
    exact ⟨hX, fun k h => h, trivial, hg0, none_ rfl⟩
  | t3 k f lk =>
    obtain ⟨o, v, pn, cur, rfl⟩ := hsh
    have e1 : (act V (asks (lstM hd) 0 (.t3 (.tk o v pn cur) f lk))).1.W = V.W := hcs _ _
    rw [e1]
    refine ⟨hX, fun k h => h, ?_⟩
    show PutQ op V.W X (if (act V (asks (lstM hd) 0 (.t3 (.tk o v pn cur) f lk))).2.ok then _ else _)
    split <;> exact ⟨trivial, hg0, none_ rfl⟩
  | t4 k n b =>
    obtain ⟨o, v, pn, cur, rfl⟩ := hsh
    exact ⟨hX, fun k h => h, trivial, hg0, none_ rfl⟩
  | t5 k n b c =>
    obtain ⟨o, v, pn, cur, rfl⟩ := hsh
    exact ⟨hX, fun k h => h, trivial, hg0, none_ rfl⟩
  | g1 k i c => exact ⟨hX, fun k h => h, trivial, hg0, hq.out⟩
  | g2 k i c x b =>
    refine ⟨hX, fun k h => h, ?_⟩
    show PutQ op V.W X (if V.er = s.e i then norm (lstM hd) ((lstM hd).guarded k x b) s.up else ⟨.g3 k i c V.er, s.up⟩)
    split
    · rcases hsh with ⟨o, f, rfl⟩ | ⟨o, f, a, pn, cur, rfl, rfl⟩
      · cases f with
        | get => have : op.kind = 1 := hop.2; omega
        | del => have : op.kind = 3 := hop.2; omega
        | fin x => have : op.kind = 3 := hop.2; omega
        | put v n =>
          obtain ⟨g1, g2⟩ := goW_calmP (hd := hd) o v n 0 1 0 (ofW x).idx b s.up
          exact ⟨g1, by show (norm (lstM hd) (goW o (.put v n) 0 1 0 (ofW x).idx b) s.up).s.gone = []; rw [norm_s]; exact hg0, none_ g2⟩
      · exact ⟨trivial, hg0, hq.out⟩
    · exact ⟨trivial, hg0, hq.out⟩
  | g3 k i c er => exact ⟨hX, fun k h => h, trivial, by show (s.up.putE i er).gone = []; rw [putE_gone]; exact hg0, hq.out⟩
  | c k i =>
    rcases hsh.2.2.2 with ⟨o, rfl⟩ | ⟨n, a, rfl⟩
    · exact ⟨hX, fun k h => h, fi_calmP o _, by show (clrQ (lstM hd) (.fi o) (s.up.putE i 0)).s.gone = []; rw [clrQ_s, putE_gone]; exact hg0, fun v b e h => hq.out v b e (by
        have : outP (clrQ (lstM hd) (.fi o) (s.up.putE i 0)).pc = some (v, b, e) := h
        rw [(clr_p _ _).2] at this
        exact this)⟩
    · have : op.kind = 3 := hop; omega
  | v1 k n => exact ⟨hX, fun k h => h, trivial, hg0, hq.out⟩
  | v2 k n f => exact ⟨hX, fun k h => h, trivial, hg0, hq.out⟩
  | v3 k n f =>
    obtain ⟨a, rfl⟩ := hsh
    have e1 : (act V (asks (lstM hd) 0 (.v3 (.sv a) n f))).1.W = V.W := hcs _ _
    have hh := hq.out 0 false 0 rfl
    rw [e1]
    refine ⟨hX, fun k h => h, ?_⟩
    show PutQ op V.W X (if (act V (asks (lstM hd) 0 (.v3 (.sv a) n f))).2.ok then norm (lstM hd) (.clr (.fi (noO a))) s.up else _)
    split
    · exact fi hg0 hh
    · exact ⟨trivial, hg0, hq.out⟩
  | _ => exact absurd hq.calm id
end
end Go.Proofs.Ytefagncaepallaa
/- Lists: alone, from the first put to the get's end. -/
namespace Go.Proofs.Ytefagncaepallaa
set_option maxRecDepth 100000

theorem alOk_mono {l : LayT} {op : OpT} {gone : List (Int × Int)} {Q Q' : OutT → Prop} (h : ∀ o, Q o → Q' o) : ∀ (k : Nat) (m : List Int) (log : List ResT), alOk l op gone Q k m log → alOk l op gone Q' k m log
  | 0, _, _, h0 => h0
  | k + 1, m, log, ⟨h1, h2, h3⟩ => by
    refine ⟨h1, h2, ?_⟩
    split
    · rename_i hd
      rw [if_pos hd] at h3
      exact h _ h3
    · rename_i hd
      rw [if_neg hd] at h3
      exact ⟨h3.1, alOk_mono h k _ _ h3.2⟩
theorem cells_startS {p : PlayT} (hp : PlayOk p) : CellsLt (start p).m := cells_start hp
section
variable {ks : List Int}
theorem alone_who {i : Nat} (h : i < 1500) : whoF (aloneP ks) i = 0 := by
  unfold whoF
  rw [show (aloneP ks).turns = [] from rfl]
  simp only [List.getElem?_nil, List.length_nil]
  omega
theorem alone_all : allF (aloneP ks) = 1500 := rfl
structure AloneJ (ks : List Int) (s : PSt) (V : Vw) (X : List Int) (x0 : SeatT) : Prop where
  seats : s.seats = [x0]
  put : PutX ks V.W X
  gone : x0.gone = []
  done : ∀ (j : Nat) (k : Int), j < x0.at_ → ks[j]? = some k → HasK V.W X k
  now : ∀ op, (putW ks)[x0.at_]? = some op → PutQ op V.W X (qAt (aloneP ks) (putW ks) x0)
theorem put_start_q {ks : List Int} {W : Ws} {X : List Int} {n : Nat} {op : OpT} (ho : (putW ks)[n]? = some op) : PutQ op W X (qAt (aloneP ks) (putW ks) ⟨n, [], []⟩) := by
  have e : qAt (aloneP ks) (putW ks) ⟨n, [], []⟩ = startQ (hdP (aloneP ks)) op [] := by unfold qAt; simp only [ho]; rfl
  rw [e]
  have hk : op.kind = 2 := by
    obtain ⟨k, _, rfl⟩ := List.mem_map.1 (List.mem_of_getElem? ho)
    rfl
  refine ⟨trivial, rfl, fun v b e h => ?_⟩
  have h : (fpt (fkOf op)).map (fun _ => ((0 : Int), true, (0 : Int))) = some (v, b, e) := h
  unfold fkOf at h
  rw [if_neg (by omega), if_pos hk] at h
  cases h
theorem alone_step (hlen : ks.length ≤ 4) (hks : ∀ k ∈ ks, 0 ≤ k ∧ k ≤ 255) {i : Nat} {s s' : PSt} {V V' : Vw} {F X F' X' : List Int} {g g' : LstG} (hi : i < allF (aloneP ks)) (hG : G (aloneP ks) i s V F X g) (hS : StepR (aloneP ks) (whoF (aloneP ks) i) s V F X g s' V' F' X' g') {x0 : SeatT} (hJ : AloneJ ks s V X x0) : ∃ y0, AloneJ ks s' V' X' y0 := by
  have hp := alone_g ks hlen hks
  rw [alone_who hi] at hS
  have hqs : qsOf (aloneP ks) s.seats = [qAt (aloneP ks) (putW ks) x0] := by rw [hJ.seats]; rfl
  cases hS with
  | idle => exact ⟨x0, hJ⟩
  | done x ws op q o hx hws ho hq hpc =>
    rw [hJ.seats] at hx
    cases hx
    cases hws
    have hn := hJ.now op ho
    have hg : q.s.gone = [] := by rw [hq]; exact hn.gone
    have hout : HasK V.W X op.a := hn.out o.val o.is o.err (by
      show outP (qAt (aloneP ks) (putW ks) x0).pc = _
      rw [show qAt (aloneP ks) (putW ks) x0 = q from hq.symm, hpc]; rfl)
    refine ⟨⟨x0.at_ + 1, [], q.s.gone⟩, by simp only [hJ.seats]; rfl, hJ.put, hg, fun j k hj hk => ?_, fun op' ho' => ?_⟩
    · simp only at hj
      by_cases e : j = x0.at_
      · subst e
        have ho : (putW ks)[x0.at_]? = some op := ho
        unfold putW at ho
        rw [List.getElem?_map, hk] at ho
        cases ho
        exact hout
      · exact hJ.done j k (by omega) hk
    · rw [hg]
      exact put_start_q ho'
  | acc x ws op q hx hws ho hq hpc =>
    rw [hJ.seats] at hx
    cases hx
    cases hws
    have hn := hJ.now op ho
    have hq' : q = qAt (aloneP ks) (putW ks) x0 := hq
    rw [← hq'] at hn
    have hI := hG.inv
    rw [hqs, ← hq'] at hI
    obtain ⟨k, hkm, hop⟩ := List.mem_map.1 (List.mem_of_getElem? (show (putW ks)[x0.at_]? = some op from ho))
    have hof : pOf op q.pc := by rw [hq]; exact qAt_of hp (by simp [aloneP]) ho
    have hsh : Shape q := by rw [hq]; exact qAt_shape _ _ _
    obtain ⟨p1, p2, p3⟩ := put_alone (lstLayP (aloneP ks)) (N := 9) rfl hI hpc hsh hof (by rw [← hop]) (by rw [← hop]) (by rw [← hop]; exact hkm) hlen hJ.put hn
    have e1 : qAt (aloneP ks) (putW ks) { x0 with log := x0.log ++ [(actP (aloneP ks) 0 V q).2] } = tell (mP (aloneP ks)) 1 q (actP (aloneP ks) 0 V q).2 := by
      rw [hq']
      unfold qAt
      simp only [show (putW ks)[x0.at_]? = some op from ho]
      rw [runQ_snoc]
      rfl
    refine ⟨{ x0 with log := x0.log ++ [(actP (aloneP ks) 0 V q).2] }, by simp only [hJ.seats]; rfl, p1, hJ.gone, fun j k hj hk => p2 k (hJ.done j k hj hk), fun op' ho' => ?_⟩
    have ho' : (putW ks)[x0.at_]? = some op' := ho'
    rw [show (putW ks)[x0.at_]? = some op from ho] at ho'
    cases ho'
    rw [e1]
    exact p3
theorem alone_start (ks : List Int) : AloneJ ks (start (aloneP ks)) (V0 (nP (aloneP ks))) [] ⟨0, [], []⟩ := ⟨rfl, fun n hn => absurd hn List.not_mem_nil, rfl, fun j k hj => absurd hj (Nat.not_lt_zero _), fun op ho => put_start_q ho⟩
structure AloneR (ks : List Int) (key : Int) (R : PlayedT) : Prop where
  ends : R.ends = true
  gone : R.gone = [[]]
  lt : CellsLt R.m
  n : (rowF (layP (aloneP ks)) R.m (layP (aloneP ks)).map).length ≤ 9
  run : alOk (layP (aloneP ks)) ⟨1, (layP (aloneP ks)).map, key, 0⟩ [] (fun out => out.is = decide (key ∈ ks) ∧ (key ∈ ks → out.val = key + 1)) (7 * (rowF (layP (aloneP ks)) R.m (layP (aloneP ks)).map).length + 10) R.m []
theorem alone_true (hlen : ks.length ≤ 4) (hks : ∀ k ∈ ks, 0 ≤ k ∧ k ≤ 255) {key : Int} (hkey : 0 ≤ key ∧ key ≤ 255) : AloneR ks key (playedF (aloneP ks)) := by
  have hp := alone_g ks hlen hks
  have hL := layP_lay (aloneP ks) hp.ok.w1
  have hN := nP_le (aloneP ks)
  have hcs := cells_startS hp.ok
  obtain ⟨s, V, F, X, g, h1, h2, ⟨⟨x0, h3⟩, h6⟩, hover⟩ := played_end hp (fun _ s V _ X _ => (∃ x0, AloneJ ks s V X x0) ∧ CellsLt s.m)
    (fun i s V F X g s' V' F' X' g' hi hG hS _ h => ⟨by
      obtain ⟨⟨x0, hJ⟩, _⟩ := h
      exact alone_step hlen hks hi hG hS hJ, cells_step hp hi hG hS h.2⟩) (And.intro (Exists.intro ⟨0, [], []⟩ (alone_start ks)) hcs)
  rw [playedF_end h1 hover]
  have hs := h3.seats
  have k1 := hover 0 x0 (putW ks) (by rw [hs]; rfl) rfl
  rw [show (putW ks).length = ks.length by simp [putW]] at k1
  have hqi := idle_own (p := aloneP ks) (ws := putW ks) (x := x0) (by simp [putW]; exact k1)
  have hqs : qsOf (aloneP ks) s.seats = [idleQ []] := by
    rw [hs]
    show [qAt (aloneP ks) (putW ks) x0] = _
    rw [hqi, h3.gone]
  have hI := h2.inv
  rw [hqs] at hI
  have hI2 := inv_done (p := aloneP ks) hI (w := 0) (o := ⟨0, false, 0, 0, []⟩) (s := ⟨0, [], 0, 0, 0⟩) rfl (pc' := anew (hdP (aloneP ks)) key .get) (.inl ⟨key, .get, trivial, rfl, rfl⟩)
  have hrow : (rowF (layP (aloneP ks)) s.m (layP (aloneP ks)).map).length = X.length := by
    rw [show (layP (aloneP ks)).map = hdP (aloneP ks) from rfl, row_is hL (lstLayP _) (by omega) h2.view h2.inv, List.length_map]
    unfold inR
    congr 1
    rw [List.filter_eq_self]
    intro n hn
    have hSI : LstSI (hdP (aloneP ks)) (nP (aloneP ks)) (allF (aloneP ks)) V.W X _ g := h2.inv.si
    have h4 := hSI.form n (.inl hn)
    have h5 := (h3.put n hn).1
    have h7 := ofW_idx (V.W.nd n 0)
    have : ¬ (ofW (V.W.nd n 0)).mark = true := fun hm => by have := h4.mark.1 hm; omega
    simp [this]
  have hSI : LstSI (hdP (aloneP ks)) (nP (aloneP ks)) (allF (aloneP ks)) V.W X (Dq (spP (aloneP ks)) (qsOf (aloneP ks) s.seats)) g := h2.inv.si
  have hXl := hSI.len h2.inv.nodupX
  refine ⟨rfl, by simp only [hs, List.map_cons, List.map_nil, h3.gone], h6, by simp only [hrow]; omega, ?_⟩
  simp only [hrow]
  refine alOk_mono (Q := RightG V.W X key) (fun o h => ⟨?_, fun hm => ?_⟩) _ _ _ (get_alone hp (op := ⟨1, (layP (aloneP ks)).map, key, 0⟩) rfl rfl (show key < _ by omega) (show (0 : Int) < _ by omega) (gone := []) (fun n hn => (h3.put n hn).1) (7 * X.length + 10) _ s.m [] V F ⟨anew (hdP (aloneP ks)) key .get, ⟨0, [], 0, 0, 0⟩⟩ ?_ rfl h2.view h6 hI2 rfl rfl ?_)
  · cases ho : o.is with
    | true =>
      obtain ⟨n, hn, e1, _⟩ := h.yes ho
      have := (h3.put n hn).2.2
      rw [e1] at this
      simp [this]
    | false =>
      have hno := h.no ho
      have : key ∉ ks := fun hm => by
        obtain ⟨j, hj⟩ := List.getElem?_of_mem hm
        obtain ⟨n, hn, e⟩ := h3.done j key (by have := (List.getElem?_eq_some_iff.1 hj).1; omega) hj
        exact hno n hn e
      simp [this]
  · cases ho : o.is with
    | true =>
      obtain ⟨n, hn, e1, e2⟩ := h.yes ho
      have := (h3.put n hn).2.1
      rw [e2, this, e1]
    | false =>
      exfalso
      obtain ⟨j, hj⟩ := List.getElem?_of_mem hm
      obtain ⟨n, hn, e⟩ := h3.done j key (by have := (List.getElem?_eq_some_iff.1 hj).1; omega) hj
      exact h.no ho n hn e
  · rw [alone_all]; omega
  · show (if V.er = (0 : Int) then 2 else 5) + (7 * X.length + 4) < 7 * X.length + 10
    split <;> omega
end
end Go.Proofs.Ytefagncaepallaa
