/- One seat alone at a list: pieces of programs, access by access. -/
import Derived.Test.YtkkldicehapklaaGreatPB
import Derived.KernelRfl
namespace Go.Proofs.YtkkldicehapklaaGreat
set_option maxRecDepth 100000
theorem xS {n : Int} (h0 : 0 ≤ n) (h1 : n < 65536) : qG n = n := by unfold qG vK; simp; omega
theorem markW_eq {n : Int} (h0 : 0 ≤ n) (h1 : n < 65536) : wP n = n + 65536 := by unfold wP vK; simp; omega
theorem ofW_idxF (f : Int) : (ofW f).idx = f % 65536 := rfl
theorem xO {n : Int} (h0 : 0 ≤ n) (h1 : n < 65536) : (ofW n).idx = n := by rw [ofW_idxF]; omega
theorem jV3 {w : Int} (h0 : 0 ≤ w) (h1 : w < 65536) : (ofW w).mark = false := by
 show decide (w / 65536 % 2 = 1) = false
 rw [decide_eq_false_iff_not]
 omega
theorem jV2 {f c i j : Int} (hf : f = 131072 * c + i) (hc : 0 ≤ c) (hc1 : c < 1000000) (hi : 0 ≤ i ∧ i < 65536) (hj : 0 ≤ j ∧ j < 65536) : vK (jA5 (ofW f) j) = 131072 * (c + 1) + j := by
 simp only [vK, jA5, ofW, Bool.false_eq_true, if_false]
 omega
theorem pack_lt (r : RefT) : vK r < 9223372036854775808 := by
 unfold vK
 have h1 := Int.emod_lt_of_pos r.idx (show (0 : Int) < 65536 by omega)
 have h2 := Int.emod_lt_of_pos r.cnt (show (0 : Int) < 268435456 by omega)
 split <;> omega
def LinkF (nx : Int → Int) : List Int → Prop
 | [] => True
 | x :: L => nx x = L.headD 0 ∧ LinkF nx L
theorem LinkF.same {nx nx' : Int → Int} : ∀ {L : List Int}, LinkF nx L → (∀ x ∈ L, nx' x = nx x) → LinkF nx' L
 | [], _, _ => trivial
 | x :: L, h, hs => ⟨(hs x (by simp)).trans h.1, h.2.same fun y hy => hs y (by simp [hy])⟩
structure FreeOk (N : Nat) (V : Vw) (F : List Int) : Prop where
 fr : V.fr = 131072 * (V.fr / 131072) + F.headD 0
 k : 0 ≤ V.fr / 131072 ∧ V.fr / 131072 ≤ 100000
 lf : LinkF V.lk F
 nd : F.Nodup
 rg : ∀ n ∈ F, 1 ≤ n ∧ n ≤ (N : Int)
theorem FreeOk.head {N : Nat} {V : Vw} {F : List Int} (h : FreeOk N V F) : 0 ≤ F.headD 0 ∧ F.headD 0 ≤ (N : Int) := by
 cases F with
 | nil => simp
 | cons x F => have := h.rg x (by simp); simp; omega
theorem FreeOk.idx {N : Nat} {V : Vw} {F : List Int} (h : FreeOk N V F) (hN : N ≤ 100) : (ofW V.fr).idx = F.headD 0 := by
 have h1 := h.fr
 have h2 := h.head
 rw [ofW_idxF]
 omega
def Ak.wr : Ak → Int
 | .st _ v => v
 | .cs _ _ v => v
 | _ => 0
structure Safe (l : jN) (N : Nat) (V : Vw) (a : Ak) : Prop where
 ok : a.ad.ok l 1 N
 wr : a.wr < 9223372036854775808
 er : 1 ≤ V.er ∧ V.er ≤ 100000
 fr : ∃ F, FreeOk N V F ∧ ∀ n ∈ F, (∀ i, a.ad ≠ .nd n i) ∧ a.ad ≠ .bi n
section
variable {l : jN} {N : Nat} {h : Ad}
def Al (l : jN) (N : Nat) (h : Ad) : List jS → Vw → Q Lk → Vw → Q Lk → Prop
 | [], V, q, V', q' => V = V' ∧ q = q'
 | r :: L, V, q, V', q' => q.pc.asking ∧ Safe l N V (asks (kE h) 0 q.pc) ∧ (act V (asks (kE h) 0 q.pc)).2 = r ∧ Al l N h L (act V (asks (kE h) 0 q.pc)).1 (tell (kE h) 1 q r) V' q'
theorem Al.nil {V : Vw} {q : Q Lk} : Al l N h [] V q V q := ⟨rfl, rfl⟩
theorem Al.app : ∀ {L1 L2 : List jS} {V V1 V2 : Vw} {q q1 q2 : Q Lk}, Al l N h L1 V q V1 q1 → Al l N h L2 V1 q1 V2 q2 → Al l N h (L1 ++ L2) V q V2 q2
 | [], _, _, _, _, _, _, _, h1, h2 => by
  obtain ⟨rfl, rfl⟩ := h1
  exact h2
 | _ :: _, _, _, _, _, _, _, _, h1, h2 => ⟨h1.1, h1.2.1, h1.2.2.1, h1.2.2.2.app h2⟩
theorem Al.step {V V' : Vw} {q q' : Q Lk} {r : jS} {L : List jS} {a : Ak} {V1 : Vw} (hf : q.pc.asking) (ha : asks (kE h) 0 q.pc = a) (hs : Safe l N V a) (he : act V a = (V1, r)) (ht : Al l N h L V1 (tell (kE h) 1 q r) V' q') : Al l N h (r :: L) V q V' q' := by
 subst ha
 exact ⟨hf, hs, by rw [he], by rw [he]; exact ht⟩
theorem Al.run : ∀ {L : List jS} {V V' : Vw} {q q' : Q Lk}, Al l N h L V q V' q' → jK2 (kE h) 1 q L = q'
 | [], _, _, _, _, h1 => h1.2
 | _ :: _, _, _, _, _, h1 => h1.2.2.2.run
structure RvS (V : Vw) (s : PsT) : Prop where
 rv : ∀ i : Int, 0 ≤ i → i ≤ 2 → V.rv 0 i = s.e i
 e : ∀ i : Int, s.e i = 0 ∨ s.e i = V.er
theorem putE_e {s : PsT} {i v j : Int} (i0 : 0 ≤ i) (i2 : i ≤ 2) (j0 : 0 ≤ j) (j2 : j ≤ 2) : (s.putE i v).e j = if j = i then v else s.e j := by
 unfold PsT.putE PsT.e
 have : i = 0 ∨ i = 1 ∨ i = 2 := by omega
 have : j = 0 ∨ j = 1 ∨ j = 2 := by omega
 rcases ‹i = 0 ∨ i = 1 ∨ i = 2› with rfl | rfl | rfl <;> rcases ‹j = 0 ∨ j = 1 ∨ j = 2› with rfl | rfl | rfl <;> rfl
theorem putE_or {s : PsT} {i v : Int} {p : Int → Prop} (hp : ∀ j, p (s.e j)) (hv : p v) : ∀ j, p ((s.putE i v).e j) := by
 intro j
 have h0 : p s.e0 := hp 0
 have h1 : p s.e1 := hp 1
 have h2 : p s.e2 := hp 2
 unfold PsT.putE PsT.e
 by_cases i0 : i = 0 <;> by_cases i1 : i = 1 <;> by_cases j0 : j = 0 <;> by_cases j1 : j = 1 <;> simp only [i0, i1, j0, j1, if_true, if_false] <;> first | assumption | omega
theorem kK1 (x : PsT) (i v : Int) : (x.putE i v).gone = x.gone := by
 unfold PsT.putE
 split
 ·rfl
 ·split <;> rfl
theorem up_e (s : PsT) (i : Int) : s.up.e i = s.e i := rfl
def SameR (V V' : Vw) : Prop := V' = { V with rv := V'.rv }
theorem SameR.refl (V : Vw) : SameR V V := rfl
theorem SameR.trans {V V1 V2 : Vw} (h1 : SameR V V1) (h2 : SameR V1 V2) : SameR V V2 := by
 unfold SameR at *
 rw [h2, h1]
theorem SameR.free {V V' : Vw} {F : List Int} (h : SameR V V') (hF : FreeOk N V F) : FreeOk N V' F := by
 unfold SameR at h
 rw [h]
 exact ⟨hF.fr, hF.k, hF.lf, hF.nd, hF.rg⟩
theorem SameR.er {V V' : Vw} (h : SameR V V') : V'.er = V.er := by unfold SameR at h; rw [h]
theorem SameR.W {V V' : Vw} (h : SameR V V') : V'.W = V.W := by unfold SameR at h; rw [h]
theorem uJ {V : Vw} {F : List Int} {a : Ak} (hF : FreeOk N V F) (her : 1 ≤ V.er ∧ V.er ≤ 100000) (ho : a.ad.ok l 1 N) (hw : a.wr < 9223372036854775808) (hn : ∀ n i, a.ad ≠ .nd n i ∧ a.ad ≠ .bi n) : Safe l N V a := ⟨ho, hw, her, F, hF, fun n _ => ⟨fun i => (hn n i).1, (hn n 0).2⟩⟩
theorem jB2 {V : Vw} {F : List Int} {a : Ak} {n i : Int} (hF : FreeOk N V F) (her : 1 ≤ V.er ∧ V.er ≤ 100000) (ha : a.ad = .nd n i) (h1 : 1 ≤ n ∧ n ≤ N) (hi : 0 ≤ i ∧ i ≤ 5) (hw : a.wr < 9223372036854775808) (hn : n ∉ F) : Safe l N V a := ⟨by rw [ha]; exact ⟨h1.1, h1.2, hi.1, hi.2⟩, hw, her, F, hF, fun m hm => ⟨fun j e => by rw [ha] at e; injection e with e1 e2; exact hn (e1 ▸ hm), fun e => by rw [ha] at e; cases e⟩⟩
theorem guard_al {V : Vw} {F : List Int} {s : PsT} {k : Lk} {i n : Int} (hF : FreeOk N V F) (her : 1 ≤ V.er ∧ V.er ≤ 100000) (hr : RvS V s) (i0 : 0 ≤ i) (i2 : i ≤ 2) (hn1 : 1 ≤ n ∧ n ≤ (N : Int)) (hn : n ∉ F) :
  ∃ L V' s', Al l N h (L ++ [⟨V.W.nd n 0, true⟩, ⟨V.er, true⟩]) V ⟨.g1 k i (.nd n 0), s⟩ V' (qS (kE h) ((kE h).guarded k (V.W.nd n 0) ((s.made : Int) + L.length)) s') ∧ SameR V V' ∧ RvS V' s' ∧ s'.gone = s.gone ∧ s'.made = s.made + L.length + 2 ∧ L.length ≤ 3 := by
 have hs1 : ∀ V1, SameR V V1 → Safe l N V1 (.ld (.nd n 0)) := fun V1 h1 => jB2 (h1.free hF) (by rw [h1.er]; exact her) rfl hn1 (by omega) (by show (0 : Int) < _; omega) hn
 have hs2 : ∀ V1, SameR V V1 → Safe l N V1 (.ld .era) := fun V1 h1 => uJ (h1.free hF) (by rw [h1.er]; exact her) trivial (by show (0 : Int) < _; omega) fun m j => ⟨fun e => (by cases e), fun e => (by cases e)⟩
 have fin : ∀ (V1 : Vw) (s1 : PsT), SameR V V1 → s1.e i = V.er → Al l N h [⟨V.W.nd n 0, true⟩, ⟨V.er, true⟩] V1 ⟨.g1 k i (.nd n 0), s1⟩ V1 (qS (kE h) ((kE h).guarded k (V.W.nd n 0) (s1.made : Int)) s1.up.up) := fun V1 s1 h1 he => by
  refine Al.step trivial rfl (hs1 V1 h1) (r := ⟨V.W.nd n 0, true⟩) (V1 := V1) (by show (V1, (⟨V1.W.nd n 0, true⟩ : jS)) = _; rw [h1.W]) ?_
  refine Al.step (q := ⟨.g2 k i (.nd n 0) (V.W.nd n 0) s1.made, s1.up⟩) trivial rfl (hs2 V1 h1) (r := ⟨V.er, true⟩) (V1 := V1) (by show (V1, (⟨V1.er, true⟩ : jS)) = _; rw [h1.er]) ?_
  show Al l N h [] V1 (if V.er = s1.up.e i then _ else _) _ _
  rw [if_pos (by rw [up_e, he])]
  exact Al.nil
 by_cases he : s.e i = V.er
 ·refine ⟨[], V, s.up.up, ?_, .refl V, ⟨hr.rv, hr.e⟩, rfl, rfl, by simp⟩
  have := fin V s (.refl V) he
  simpa using this
 ·have hV1 : SameR V (V.put (.rv 0 i) V.er) := rfl
  refine ⟨[⟨V.W.nd n 0, true⟩, ⟨V.er, true⟩, ⟨V.rv 0 i, true⟩], V.put (.rv 0 i) V.er, ((s.up.up.up.putE i V.er)).up.up, ?_, hV1, ⟨fun j j0 j2 => ?_, ?_⟩, by rw [show ∀ x : PsT, x.up.gone = x.gone from fun _ => rfl, show ∀ x : PsT, x.up.gone = x.gone from fun _ => rfl, kK1]; rfl, by simp only [PsT.up, jD1, List.length_cons, List.length_nil], by simp⟩
  ·refine Al.step trivial rfl (hs1 V (.refl V)) (r := ⟨V.W.nd n 0, true⟩) (V1 := V) rfl ?_
   refine Al.step (q := ⟨.g2 k i (.nd n 0) (V.W.nd n 0) s.made, s.up⟩) trivial rfl (hs2 V (.refl V)) (r := ⟨V.er, true⟩) (V1 := V) rfl ?_
   show Al l N h _ V (if V.er = s.up.e i then _ else ⟨.g3 k i (.nd n 0) V.er, s.up.up⟩) _ _
   rw [if_neg (by rw [up_e]; exact fun e => he e.symm)]
   refine Al.step (q := ⟨.g3 k i (.nd n 0) V.er, s.up.up⟩) trivial rfl (uJ hF her ⟨by omega, by omega, i0, i2⟩ (by show V.er < _; omega) fun m j => ⟨fun e => (by cases e), fun e => (by cases e)⟩) (r := ⟨V.rv 0 i, true⟩) (V1 := V.put (.rv 0 i) V.er) rfl ?_
   have := fin (V.put (.rv 0 i) V.er) (s.up.up.up.putE i V.er) hV1 (by rw [putE_e i0 i2 i0 i2, if_pos rfl])
   rw [jD1] at this
   exact this
  ·show (if (0 : Int) = 0 ∧ j = i then V.er else V.rv 0 j) = ((s.up.up.up.putE i V.er)).e j
   rw [putE_e i0 i2 j0 j2]
   by_cases hj : j = i
   ·rw [if_pos ⟨rfl, hj⟩, if_pos hj]
   ·rw [if_neg (fun x => hj x.2), if_neg hj]
    exact hr.rv j j0 j2
  ·exact putE_or (p := fun x => x = 0 ∨ x = V.er) hr.e (.inr rfl)
theorem clr_al {F : List Int} {k : Lk} : ∀ (b : Nat) {V : Vw} {s : PsT}, FreeOk N V F → (1 ≤ V.er ∧ V.er ≤ 100000) → RvS V s → ((if s.e0 = 0 then 0 else 1) + (if s.e1 = 0 then 0 else 1) + (if s.e2 = 0 then 0 else 1) ≤ b) →
  ∃ L V' s', Al l N h L V (jE5 (kE h) k s) V' ⟨(kE h).cleared k, s'⟩ ∧ SameR V V' ∧ RvS V' s' ∧ (s'.e0 = 0 ∧ s'.e1 = 0 ∧ s'.e2 = 0) ∧ s'.gone = s.gone ∧ s'.made = s.made + L.length ∧ L.length ≤ b := by
 have key : ∀ (i : Int) (b : Nat) {V : Vw} {s : PsT}, 0 ≤ i → i ≤ 2 → jE5 (kE h) k s = ⟨.c k i, s⟩ → FreeOk N V F → (1 ≤ V.er ∧ V.er ≤ 100000) → RvS V s →
   (∀ {V : Vw} {s1 : PsT}, s1 = s.up.putE i 0 → FreeOk N V F → (1 ≤ V.er ∧ V.er ≤ 100000) → RvS V s1 → ∃ L V' s', Al l N h L V (jE5 (kE h) k s1) V' ⟨(kE h).cleared k, s'⟩ ∧ SameR V V' ∧ RvS V' s' ∧ (s'.e0 = 0 ∧ s'.e1 = 0 ∧ s'.e2 = 0) ∧ s'.gone = s1.gone ∧ s'.made = s1.made + L.length ∧ L.length ≤ b) →
   ∃ L V' s', Al l N h L V (jE5 (kE h) k s) V' ⟨(kE h).cleared k, s'⟩ ∧ SameR V V' ∧ RvS V' s' ∧ (s'.e0 = 0 ∧ s'.e1 = 0 ∧ s'.e2 = 0) ∧ s'.gone = s.gone ∧ s'.made = s.made + L.length ∧ L.length ≤ b + 1 := by
  intro i b V s i0 i2 e hF her hr ih
  have hV1 : SameR V (V.put (.rv 0 i) 0) := rfl
  obtain ⟨L, V', s', a1, a2, a3, a4, a5, a6, a7⟩ := ih (V := V.put (.rv 0 i) 0) rfl (hV1.free hF) her ⟨fun j j0 j2 => by
   show (if (0 : Int) = 0 ∧ j = i then 0 else V.rv 0 j) = (s.up.putE i 0).e j
   rw [putE_e i0 i2 j0 j2]
   by_cases hj : j = i
   ·rw [if_pos ⟨rfl, hj⟩, if_pos hj]
   ·rw [if_neg (fun x => hj x.2), if_neg hj]
    exact hr.rv j j0 j2, putE_or (p := fun x => x = 0 ∨ x = V.er) hr.e (.inl rfl)⟩
  refine ⟨⟨V.rv 0 i, true⟩ :: L, V', s', ?_, hV1.trans a2, a3, a4, by rw [a5, kK1]; rfl, by rw [a6, jD1]; simp only [PsT.up, List.length_cons]; omega, by simp only [List.length_cons]; omega⟩
  rw [e]
  exact Al.step trivial rfl (uJ hF her ⟨by omega, by omega, i0, i2⟩ (by show (0 : Int) < _; omega) fun m j => ⟨fun e => (by cases e), fun e => (by cases e)⟩) rfl a1
 intro b
 induction b with
 | zero =>
  intro V s hF her hr hb
  have h0 : s.e0 = 0 := Classical.byContradiction fun h => by rw [if_neg h] at hb; omega
  have h1 : s.e1 = 0 := Classical.byContradiction fun h => by rw [if_neg h] at hb; omega
  have h2 : s.e2 = 0 := Classical.byContradiction fun h => by rw [if_neg h] at hb; omega
  refine ⟨[], V, s, ?_, .refl V, hr, ⟨h0, h1, h2⟩, rfl, rfl, Nat.le_refl _⟩
  unfold jE5
  rw [if_neg (by simp [h0]), if_neg (by simp [h1]), if_neg (by simp [h2])]
  exact Al.nil
 | succ b ih =>
  intro V s hF her hr hb
  by_cases h0 : s.e0 = 0
  ·by_cases h1 : s.e1 = 0
   ·by_cases h2 : s.e2 = 0
    ·refine ⟨[], V, s, ?_, .refl V, hr, ⟨h0, h1, h2⟩, rfl, rfl, by simp⟩
     unfold jE5
     rw [if_neg (by simp [h0]), if_neg (by simp [h1]), if_neg (by simp [h2])]
     exact Al.nil
    ·refine key 2 b (by omega) (by omega) (by unfold jE5; rw [if_neg (by simp [h0]), if_neg (by simp [h1]), if_pos h2]) hF her hr fun {V s1} e a b c => ih a b c ?_
     subst e
     rw [if_pos h0, if_pos h1, if_neg h2] at hb
     show (if s.e0 = 0 then 0 else 1) + (if s.e1 = 0 then 0 else 1) + (if (0 : Int) = 0 then 0 else 1) ≤ _
     rw [if_pos h0, if_pos h1, if_pos rfl]; omega
   ·refine key 1 b (by omega) (by omega) (by unfold jE5; rw [if_neg (by simp [h0]), if_pos h1]) hF her hr fun {V s1} e a b c => ih a b c ?_
    subst e
    rw [if_pos h0, if_neg h1] at hb
    show (if s.e0 = 0 then 0 else 1) + (if (0 : Int) = 0 then 0 else 1) + (if s.e2 = 0 then 0 else 1) ≤ _
    rw [if_pos h0, if_pos rfl]; omega
  ·refine key 0 b (by omega) (by omega) (by unfold jE5; rw [if_pos h0]) hF her hr fun {V s1} e a b c => ih a b c ?_
   subst e
   rw [if_neg h0] at hb
   show (if (0 : Int) = 0 then 0 else 1) + (if s.e1 = 0 then 0 else 1) + (if s.e2 = 0 then 0 else 1) ≤ _
   rw [if_pos rfl]; omega
theorem clr3_al {F : List Int} {k : Lk} {V : Vw} {s : PsT} (hF : FreeOk N V F) (her : 1 ≤ V.er ∧ V.er ≤ 100000) (hr : RvS V s) :
  ∃ L V' s', Al l N h L V (qS (kE h) (.clr k) s) V' ⟨(kE h).cleared k, s'⟩ ∧ SameR V V' ∧ RvS V' s' ∧ (s'.e0 = 0 ∧ s'.e1 = 0 ∧ s'.e2 = 0) ∧ s'.gone = s.gone ∧ s'.made = s.made + L.length ∧ L.length ≤ 3 :=
 clr_al 3 hF her hr (by
  have : ∀ x : Int, (if x = 0 then 0 else 1) ≤ 1 := fun x => by split <;> omega
  have := this s.e0
  have := ‹∀ x : Int, (if x = 0 then 0 else 1) ≤ 1› s.e1
  have := ‹∀ x : Int, (if x = 0 then 0 else 1) ≤ 1› s.e2
  omega)
theorem take_al {V : Vw} {F : List Int} {n : Int} {s : PsT} {k : Lk} (hN : N ≤ 100) (hF : FreeOk N V (n :: F)) (hfk : V.fr / 131072 < 100000) (her : 1 ≤ V.er ∧ V.er ≤ 100000) :
  ∃ L V', Al l N h L V ⟨.t1 k, s⟩ V' (qS (kE h) ((kE h).took k n ((s.made : Int) + 2)) s.up.up.up.up.up) ∧ FreeOk N V' F ∧ V'.W = V.W ∧ V'.er = V.er ∧ V'.rv = V.rv ∧ V'.fr / 131072 = V.fr / 131072 + 1 ∧ L.length = 5 := by
 have hn := hF.rg n (by simp)
 have hi : (ofW V.fr).idx = n := hF.idx hN
 have hlk : V.lk n = F.headD 0 := hF.lf.1
 have hnF : n ∉ F := (List.nodup_cons.1 hF.nd).1
 have hk := hF.k
 have hF' : FreeOk N { V with fr := vK (jA5 (ofW V.fr) (V.lk n)), bi := fun n' => if n' = n then V.er else V.bi n' } F := by
  have h2 : 0 ≤ F.headD 0 ∧ F.headD 0 ≤ (N : Int) := by
   cases F with
   | nil => simp
   | cons x F => have := hF.rg x (by simp); simp; omega
  have hp := jV2 (f := V.fr) (c := V.fr / 131072) (i := n) (j := V.lk n) hF.fr (by omega) (by omega) (by omega) (by rw [hlk]; omega)
  rw [hlk] at hp ⊢
  refine ⟨?_, ?_, hF.lf.2, (List.nodup_cons.1 hF.nd).2, fun x hx => hF.rg x (by simp [hx])⟩
  ·simp only [hp]; omega
  ·simp only [hp]; omega
 have hF1 : FreeOk N { V with fr := vK (jA5 (ofW V.fr) (V.lk n)) } F := ⟨hF'.fr, hF'.k, hF'.lf, hF'.nd, hF'.rg⟩
 have pl : ∀ {V : Vw} {F : List Int} {a : Ak}, FreeOk N V F → (1 ≤ V.er ∧ V.er ≤ 100000) → a.ad.ok l 1 N → a.wr < 9223372036854775808 → (a.ad = .era ∨ a.ad = .free ∨ ∃ n, a.ad = .lk n) → Safe l N V a := fun hF her ho hw hn => uJ hF her ho hw fun m j => by
  rcases hn with e | e | ⟨x, e⟩ <;> rw [e] <;> exact ⟨fun e => (by cases e), fun e => (by cases e)⟩
 refine ⟨[⟨V.fr, true⟩, ⟨V.lk n, true⟩, ⟨V.fr, true⟩, ⟨V.er, true⟩, ⟨V.bi n, true⟩], _, ?_, hF', rfl, rfl, rfl, ?_, rfl⟩
 ·refine Al.step trivial rfl (pl hF her trivial (by show (0 : Int) < _; omega) (.inr (.inl rfl))) rfl ?_
  show Al l N h _ V (if (ofW V.fr).idx = 0 then _ else ⟨.t2 k V.fr, s.up⟩) _ _
  rw [if_neg (by rw [hi]; omega)]
  refine Al.step (q := ⟨.t2 k V.fr, s.up⟩) (a := .ld (.lk n)) trivial (by show Ak.ld (.lk (ofW V.fr).idx) = _; rw [hi]) (pl hF her hn (by show (0 : Int) < _; omega) (.inr (.inr ⟨n, rfl⟩))) rfl ?_
  refine Al.step (q := ⟨.t3 k V.fr (V.lk n), s.up.up⟩) trivial rfl (pl hF her trivial (pack_lt _) (.inr (.inl rfl))) (r := ⟨V.fr, true⟩) (V1 := { V with fr := vK (jA5 (ofW V.fr) (V.lk n)) }) (by show (if V.fr = V.fr then _ else _) = _; rw [if_pos rfl]; rfl) ?_
  show Al l N h _ _ ⟨.t4 k (ofW V.fr).idx s.up.up.made, s.up.up.up⟩ _ _
  rw [hi]
  refine Al.step (q := ⟨.t4 k n s.up.up.made, s.up.up.up⟩) trivial rfl (pl hF1 her trivial (by show (0 : Int) < _; omega) (.inl rfl)) rfl ?_
  refine Al.step (q := ⟨.t5 k n s.up.up.made V.er, s.up.up.up.up⟩) (a := .st (.bi n) V.er) trivial rfl ⟨hn, by show V.er < _; omega, her, F, hF1, fun m hm => ⟨fun i e => (by cases e), fun e => by injection e with e; exact hnF (e ▸ hm)⟩⟩ rfl ?_
  exact ⟨rfl, by show qS _ _ _ = _; rfl⟩
 ·have hp := jV2 (f := V.fr) (c := V.fr / 131072) (i := n) (j := V.lk n) hF.fr (by omega) (by omega) (by omega) (by
   rw [hlk]
   cases F with
   | nil => simp
   | cons x F => have := hF.rg x (by simp); simp; omega)
  simp only [hp]
  rw [hlk]
  cases F with
  | nil => simp <;> omega
  | cons x F => have := hF.rg x (by simp); simp <;> omega
theorem full_al {V : Vw} {s : PsT} {k : Lk} (hN : N ≤ 100) (hF : FreeOk N V []) (her : 1 ≤ V.er ∧ V.er ≤ 100000) : Al l N h [⟨V.fr, true⟩] V ⟨.t1 k, s⟩ V (qS (kE h) ((kE h).full k (s.made : Int)) s.up) := by
 refine Al.step trivial rfl (uJ hF her trivial (by show (0 : Int) < _; omega) fun m j => ⟨fun e => (by cases e), fun e => (by cases e)⟩) rfl ?_
 show Al l N h _ V (if (ofW V.fr).idx = 0 then _ else _) _ _
 rw [if_pos (by rw [hF.idx hN]; rfl)]
 exact Al.nil
theorem sift_al {k : Lk} (hN : N ≤ 100) : ∀ (gs : List (Int × Int)) {V : Vw} {F : List Int} {s : PsT}, FreeOk N V F → V.fr / 131072 + gs.length ≤ 100000 → (1 ≤ V.er ∧ V.er ≤ 100000) → (gs.map (·.1) ++ F).Nodup → (∀ g ∈ gs, 1 ≤ g.1 ∧ g.1 ≤ (N : Int)) →
  ∃ L V' s', Al l N h L V (jS6 (kE h) k [0, 0, 0] s gs []) V' (qS (kE h) ((kE h).retired k) s') ∧ FreeOk N V' ((gs.map (·.1)).reverse ++ F) ∧ V'.W = V.W ∧ V'.er = V.er ∧ V'.rv = V.rv ∧ V'.fr / 131072 = V.fr / 131072 + gs.length ∧ s'.gone = [] ∧ s'.made = s.made + L.length ∧ (∀ i, s'.e i = s.e i) ∧ L.length = 4 * gs.length
 | [], V, F, s, hF, _, _, _, _ => ⟨[], V, { s with gone := [] }, Al.nil, by simpa using hF, rfl, rfl, rfl, by simp, rfl, rfl, fun _ => rfl, rfl⟩
 | g :: gs, V, F, s, hF, hfk, her, hd, hg => by
  have hg1 := hg g (by simp)
  have hgF : g.1 ∉ F := fun hm => by
   rw [List.map_cons, List.cons_append, List.nodup_cons] at hd
   exact hd.1 (by simp [hm])
  have hk := hF.k
  have hi := hF.idx hN
  have hh := hF.head
  have hfk' : V.fr / 131072 + (gs.length + 1) ≤ 100000 := by simpa using hfk
  have hp := jV2 (f := V.fr) (c := V.fr / 131072) (i := F.headD 0) (j := g.1) hF.fr (by omega) (by omega) (by omega) (by omega)
  have hF1 : FreeOk N (V.put (.lk g.1) (F.headD 0)) F := ⟨hF.fr, hF.k, hF.lf.same fun x hx => by
   show (if x = g.1 then F.headD 0 else V.lk x) = V.lk x
   rw [if_neg (fun e : x = g.1 => hgF (e ▸ hx))], hF.nd, hF.rg⟩
  have hF2 : FreeOk N { V.put (.lk g.1) (F.headD 0) with fr := vK (jA5 (ofW V.fr) g.1) } (g.1 :: F) := by
   refine ⟨?_, ?_, ⟨?_, hF1.lf⟩, List.nodup_cons.2 ⟨hgF, hF.nd⟩, fun x hx => ?_⟩
   ·simp only [hp, List.headD_cons]; omega
   ·simp only [hp]; omega
   ·show (if g.1 = g.1 then F.headD 0 else V.lk g.1) = _; rw [if_pos rfl]
   ·rcases List.mem_cons.1 hx with rfl | hx
    ·exact hg1
    ·exact hF.rg x hx
  have hd2 : (gs.map (·.1) ++ g.1 :: F).Nodup := by
   rw [List.map_cons, List.cons_append] at hd
   exact (List.perm_middle.nodup_iff).2 hd
  obtain ⟨L, V', s', a1, a2, a3, a4, a5, a6, a7, a8, a9, a10⟩ := sift_al hN gs (s := s.up.up.up.up) hF2 (by simp only [hp]; omega) her hd2 (fun x hx => hg x (by simp [hx]))
  have pl : ∀ {V : Vw} {F : List Int} {a : Ak}, FreeOk N V F → (1 ≤ V.er ∧ V.er ≤ 100000) → a.ad.ok l 1 N → a.wr < 9223372036854775808 → (a.ad = .free ∨ ∃ n, a.ad = .lk n) → Safe l N V a := fun hF her ho hw hn => uJ hF her ho hw fun m j => by
   rcases hn with e | ⟨x, e⟩ <;> rw [e] <;> exact ⟨fun e => (by cases e), fun e => (by cases e)⟩
  refine ⟨⟨V.bi g.1, true⟩ :: ⟨V.fr, true⟩ :: ⟨V.lk g.1, true⟩ :: ⟨V.fr, true⟩ :: L, V', s', ?_, by simpa using a2, a3, a4, a5, by rw [a6]; simp only [hp, List.length_cons]; omega, a7, by rw [a8]; simp only [PsT.up, List.length_cons]; omega, a9, by simp only [List.length_cons, a10]; omega⟩
  refine Al.step (q := ⟨.s1 k [0, 0, 0] g gs [], s⟩) trivial rfl ⟨hg1, by show (0 : Int) < _; omega, her, F, hF, fun m hm => ⟨fun i e => (by cases e), fun e => by injection e with e; exact hgF (e ▸ hm)⟩⟩ rfl ?_
  have hno : ([0, 0, 0] : List Int).any (inB (max1 (V.bi g.1)) g.2) = false := by
   have hm : 1 ≤ max1 (V.bi g.1) := by unfold max1; split <;> omega
   have : inB (max1 (V.bi g.1)) g.2 0 = false := by unfold inB; rw [Bool.and_eq_false_iff]; left; rw [decide_eq_false_iff_not]; omega
   simp [this]
  show Al l N h _ V (if ([0, 0, 0] : List Int).any (inB (max1 (V.bi g.1)) g.2) = true then _ else ⟨.w1 k [0, 0, 0] g gs [], s.up⟩) _ _
  rw [if_neg (by rw [hno]; simp)]
  refine Al.step (q := ⟨.w1 k [0, 0, 0] g gs [], s.up⟩) trivial rfl (pl hF her trivial (by show (0 : Int) < _; omega) (.inl rfl)) rfl ?_
  refine Al.step (q := ⟨.w2 k [0, 0, 0] g gs [] V.fr, s.up.up⟩) (a := .st (.lk g.1) (F.headD 0)) trivial (by show Ak.st (.lk g.1) (ofW V.fr).idx = _; rw [hi]) (pl hF her hg1 (by show F.headD 0 < _; omega) (.inr ⟨_, rfl⟩)) rfl ?_
  refine Al.step (q := ⟨.w3 k [0, 0, 0] g gs [] V.fr, s.up.up.up⟩) trivial rfl (pl hF1 her trivial (pack_lt _) (.inl rfl)) (r := ⟨V.fr, true⟩) (V1 := { V.put (.lk g.1) (F.headD 0) with fr := vK (jA5 (ofW V.fr) g.1) }) (by show (if V.fr = V.fr then _ else _) = _; rw [if_pos rfl]; rfl) ?_
  exact a1
theorem ret_al {k : Lk} {n : Int} (hN : N ≤ 100) {V : Vw} {F : List Int} {s : PsT} (hF : FreeOk N V F) (hfk : V.fr / 131072 + s.gone.length + 1 ≤ 100000) (her : 1 ≤ V.er ∧ V.er < 100000) (hr : RvS V s) (hz : s.e0 = 0 ∧ s.e1 = 0 ∧ s.e2 = 0) (hd : ((s.gone.map (·.1) ++ [n]) ++ F).Nodup) (hg : ∀ g ∈ s.gone, 1 ≤ g.1 ∧ g.1 ≤ (N : Int)) (hn : 1 ≤ n ∧ n ≤ (N : Int)) (hl : s.gone.length ≤ 1) :
  ∃ L V' s' F', Al l N h L V ⟨.r1 k n, s⟩ V' (qS (kE h) ((kE h).retired k) s') ∧ FreeOk N V' F' ∧ (F' ++ s'.gone.map (·.1)).Perm (n :: (F ++ s.gone.map (·.1))) ∧ V'.W = V.W ∧ V'.er = V.er + 1 ∧ V'.rv = V.rv ∧ V'.fr / 131072 ≤ V.fr / 131072 + 2 ∧ s'.made = s.made + L.length ∧ (∀ i, s'.e i = s.e i) ∧ s'.gone.length ≤ 1 ∧ L.length ≤ 13 := by
 have hF1 : FreeOk N { V with er := V.er + 1 } F := ⟨hF.fr, hF.k, hF.lf, hF.nd, hF.rg⟩
 have pl : ∀ {V : Vw} {F : List Int} {a : Ak}, FreeOk N V F → (1 ≤ V.er ∧ V.er ≤ 100000) → a.ad.ok l 1 N → a.wr < 9223372036854775808 → (a.ad = .era ∨ ∃ w i, a.ad = .rv w i) → Safe l N V a := fun hF her ho hw hn => uJ hF her ho hw fun m j => by
  rcases hn with e | ⟨x, i, e⟩ <;> rw [e] <;> exact ⟨fun e => (by cases e), fun e => (by cases e)⟩
 have hrv : ∀ i : Int, 0 ≤ i → i ≤ 2 → V.rv 0 i = 0 := fun i i0 i2 => by
  rw [hr.rv i i0 i2]
  unfold PsT.e
  rw [hz.1, hz.2.1, hz.2.2]
  simp
 by_cases hc : (s.gone.length : Int) + 1 < 2 * ((1 : Nat) : Int)
 ·refine ⟨[⟨V.er, true⟩, ⟨V.er, true⟩], { V with er := V.er + 1 }, { s.up.up with gone := s.gone ++ [(n, V.er)] }, F, ?_, hF1, ?_, rfl, rfl, rfl, by show V.fr / 131072 ≤ _; omega, rfl, fun _ => rfl, by simp only [List.length_append, List.length_cons, List.length_nil]; omega, by simp⟩
  ·refine Al.step trivial rfl (pl hF ⟨her.1, by omega⟩ trivial (by show (0 : Int) < _; omega) (.inl rfl)) rfl ?_
   refine Al.step (q := ⟨.r2 k n V.er, s.up⟩) trivial rfl (pl hF ⟨her.1, by omega⟩ trivial (by show (0 : Int) < _; omega) (.inl rfl)) rfl ?_
   show Al l N h _ _ (if (s.gone.length : Int) + 1 < 2 * ((1 : Nat) : Int) then _ else _) _ _
   rw [if_pos hc]
   exact Al.nil
  ·simp only [List.map_append, List.map_cons, List.map_nil]
   rw [← List.append_assoc]
   exact List.perm_append_singleton _ _
 ·obtain ⟨L, V', s', a1, a2, a3, a4, a5, a6, a7, a8, a9, a10⟩ := sift_al (l := l) (h := h) (k := k) hN (s.gone ++ [(n, V.er)]) (s := { s.up.up.up.up.up with gone := s.gone ++ [(n, V.er)] }) hF1 (by simp only [List.length_append, List.length_cons, List.length_nil]; omega) ⟨by show 1 ≤ V.er + 1; omega, by show V.er + 1 ≤ _; omega⟩ (by simpa using hd) (fun g hgm => by
   rcases List.mem_append.1 hgm with h1 | h1
   ·exact hg g h1
   ·have : g = (n, V.er) := by simpa using h1
    rw [this]; exact hn)
  refine ⟨⟨V.er, true⟩ :: ⟨V.er, true⟩ :: ⟨0, true⟩ :: ⟨0, true⟩ :: ⟨0, true⟩ :: L, V', s', _, ?_, a2, ?_, a3, a4, a5, by rw [a6]; simp only [List.length_append, List.length_cons, List.length_nil]; show V.fr / 131072 + _ ≤ _; omega, by rw [a8]; simp only [PsT.up, List.length_cons]; omega, a9, by rw [a7]; simp, by simp only [List.length_cons, a10, List.length_append, List.length_nil]; omega⟩
  ·refine Al.step trivial rfl (pl hF ⟨her.1, by omega⟩ trivial (by show (0 : Int) < _; omega) (.inl rfl)) rfl ?_
   refine Al.step (q := ⟨.r2 k n V.er, s.up⟩) trivial rfl (pl hF ⟨her.1, by omega⟩ trivial (by show (0 : Int) < _; omega) (.inl rfl)) rfl ?_
   show Al l N h _ _ (if (s.gone.length : Int) + 1 < 2 * ((1 : Nat) : Int) then _ else _) _ _
   rw [if_neg hc]
   have hs : ∀ i : Int, 0 ≤ i → i ≤ 2 → Safe l N { V with er := V.er + 1 } (.ld (.rv 0 i)) := fun i i0 i2 => pl hF1 ⟨by show 1 ≤ V.er + 1; omega, by show V.er + 1 ≤ _; omega⟩ ⟨by omega, by omega, i0, i2⟩ (by show (0 : Int) < _; omega) (.inr ⟨_, _, rfl⟩)
   refine Al.step (q := ⟨.rs k [] (.rv ((0 : Nat) : Int) 0) [.rv ((0 : Nat) : Int) 1, .rv ((0 : Nat) : Int) 2], { s.up.up with gone := s.gone ++ [(n, V.er)] }⟩) trivial rfl (hs 0 (by omega) (by omega)) (r := ⟨0, true⟩) (V1 := { V with er := V.er + 1 }) (by show (_, (⟨V.rv 0 0, true⟩ : jS)) = _; rw [hrv 0 (by omega) (by omega)]) ?_
   refine Al.step (q := ⟨.rs k [0] (.rv ((0 : Nat) : Int) 1) [.rv ((0 : Nat) : Int) 2], { s.up.up.up with gone := s.gone ++ [(n, V.er)] }⟩) trivial rfl (hs 1 (by omega) (by omega)) (r := ⟨0, true⟩) (V1 := { V with er := V.er + 1 }) (by show (_, (⟨V.rv 0 1, true⟩ : jS)) = _; rw [hrv 1 (by omega) (by omega)]) ?_
   refine Al.step (q := ⟨.rs k [0, 0] (.rv ((0 : Nat) : Int) 2) [], { s.up.up.up.up with gone := s.gone ++ [(n, V.er)] }⟩) trivial rfl (hs 2 (by omega) (by omega)) (r := ⟨0, true⟩) (V1 := { V with er := V.er + 1 }) (by show (_, (⟨V.rv 0 2, true⟩ : jS)) = _; rw [hrv 2 (by omega) (by omega)]) ?_
   exact a1
  ·rw [a7]
   simp only [List.map_append, List.map_cons, List.map_nil, List.append_nil, List.reverse_append, List.reverse_cons, List.reverse_nil, List.nil_append, List.cons_append]
   refine List.Perm.cons _ ?_
   exact (List.perm_append_comm).trans ((List.Perm.refl F).append (List.reverse_perm _))
end
abbrev vC := Int × Int × Int
def hdR (Y : List vC) : Int := (Y.map (·.1)).headD 0
theorem LinkF.mid {nx : Int → Int} {y : Int} : ∀ {X Y : List Int}, LinkF nx (X ++ y :: Y) → nx y = Y.headD 0
 | [], _, h => h.1
 | _ :: X, _, h => LinkF.mid (X := X) h.2
theorem LinkF.ins {nx nx' : Int → Int} {p n : Int} {Y : List Int} (hp : nx' p = n) (hn : nx' n = Y.headD 0) : ∀ {X : List Int}, LinkF nx (X ++ p :: Y) → (∀ x ∈ X ++ Y, nx' x = nx x) → LinkF nx' (X ++ p :: n :: Y)
 | [], h, hs => ⟨hp, hn, h.2.same fun y hy => hs y (by simpa using hy)⟩
 | x :: X, h, hs => ⟨(hs x (by simp)).trans (h.1.trans (by cases X <;> rfl)), LinkF.ins (X := X) hp hn h.2 fun y hy => hs y (by simp only [List.cons_append, List.mem_cons]; exact .inr hy)⟩
theorem LinkF.del {nx nx' : Int → Int} {p c : Int} {Y : List Int} (hp : nx' p = Y.headD 0) : ∀ {X : List Int}, LinkF nx (X ++ p :: c :: Y) → (∀ x ∈ X ++ Y, nx' x = nx x) → LinkF nx' (X ++ p :: Y)
 | [], h, hs => ⟨hp, h.2.2.same fun y hy => hs y (by simpa using hy)⟩
 | x :: X, h, hs => ⟨(hs x (by simp)).trans (h.1.trans (by cases X <;> rfl)), LinkF.del (X := X) hp h.2 fun y hy => hs y (by simp only [List.cons_append, List.mem_cons]; exact .inr hy)⟩
structure Cl (N : Nat) (B : Int) (V : Vw) (R : List vC) (F G : List Int) : Prop where
 ln : LinkF (fun n => V.W.nd n 0) (R.map (·.1))
 od : ∀ x ∈ R, V.W.nd x.1 1 = x.2.1 ∧ V.W.nd x.1 2 = x.2.2
 up : R.Pairwise fun x y => x.2.1 < y.2.1
 nd : (R.map (·.1) ++ (F ++ G)).Nodup
 rg : ∀ n ∈ R.map (·.1) ++ (F ++ G), 1 ≤ n ∧ n ≤ (N : Int)
 fr : FreeOk N V F
 er : 1 ≤ V.er
 bd : V.er + V.fr / 131072 ≤ B
theorem Cl.sameR {N : Nat} {B : Int} {V V' : Vw} {R : List vC} {F G : List Int} (h : SameR V V') (hc : Cl N B V R F G) : Cl N B V' R F G := by
 have hf := h.free hc.fr
 unfold SameR at h
 rw [h] at hf ⊢
 exact ⟨hc.ln, hc.od, hc.up, hc.nd, hc.rg, hf, hc.er, hc.bd⟩
theorem Cl.mem {N : Nat} {B : Int} {V : Vw} {R : List vC} {F G : List Int} (hc : Cl N B V R F G) {x : vC} (hx : x ∈ R) : (1 ≤ x.1 ∧ x.1 ≤ (N : Int)) ∧ x.1 ∉ F := by
 have hm : x.1 ∈ R.map (·.1) := List.mem_map_of_mem hx
 exact ⟨hc.rg _ (List.mem_append_left _ hm), fun hf => (List.nodup_append.1 hc.nd).2.2 _ hm _ (List.mem_append_left _ hf) rfl⟩
theorem Cl.ers {N : Nat} {B : Int} {V : Vw} {R : List vC} {F G : List Int} (hc : Cl N B V R F G) (hB : B ≤ 90000) : 1 ≤ V.er ∧ V.er ≤ 100000 := by
 have h1 := hc.er
 have h2 := hc.bd
 have h3 := hc.fr.k
 omega
theorem Cl.word {N : Nat} {B : Int} {V : Vw} {R X Y : List vC} {p : vC} {F G : List Int} (hc : Cl N B V R F G) (e : R = X ++ p :: Y) : V.W.nd p.1 0 = hdR Y ∧ 0 ≤ hdR Y ∧ hdR Y ≤ (N : Int) := by
 have h1 := hc.ln
 rw [e, List.map_append, List.map_cons] at h1
 refine ⟨h1.mid, ?_⟩
 cases Y with
 | nil => simp [hdR]
 | cons y Y => have := (hc.mem (x := y) (by rw [e]; simp)).1; simp [hdR]; omega
section
variable {l : jN} {N : Nat} {h : Ad} {B0 : Int} {R : List vC} {F G : List Int}
def jJ8 (V : Vw) (o : Int) (f : Fk) (pn : Int) (Bs : List vC) (t : Int) : Pc Lk := match Bs with
 | [] => exN o f pn 0 t
 | c :: _ => if c.2.1 = o then exY o f pn c.1 (V.W.nd c.1 0) t else exN o f pn c.1 t
theorem node_al (hN : N ≤ 100) (hB : B0 ≤ 90000) {o : Int} {f : Fk} {X Y : List vC} {p c : vC} {V : Vw} {s : PsT} {a b pn t : Int} (hc : Cl N B0 V R F G) (hr : RvS V s) (e : R = X ++ p :: c :: Y) (hp : uR h pn = .nd p.1 0) (hb : 0 ≤ b ∧ b ≤ 2) :
  ∃ L V' s', Al l N h L V (qS (kE h) (goW o f a b pn c.1 t) s) V' ⟨.at_ (.lo o f a b pn c.1 (V.W.nd c.1 0) ((s'.made : Int) - 3) ((s'.made : Int) - 1)), s'⟩ ∧ SameR V V' ∧ RvS V' s' ∧ s'.gone = s.gone ∧ s'.made = s.made + L.length ∧ 3 ≤ L.length ∧ L.length ≤ 6 := by
 have hcm := hc.mem (x := c) (by rw [e]; simp)
 have hpm := hc.mem (x := p) (by rw [e]; simp)
 have her := hc.ers hB
 have hw := hc.word e
 have hw1 : hdR (c :: Y) = c.1 := rfl
 obtain ⟨L, V', s', a1, a2, a3, a4, a5, a6⟩ := guard_al (l := l) (h := h) (k := Lk.gb o f a b pn c.1) (i := b) (n := c.1) hc.fr her hr hb.1 hb.2 hcm.1 hcm.2
 have hs : (kE h).guarded (Lk.gb o f a b pn c.1) (V.W.nd c.1 0) ((s.made : Int) + L.length) = .at_ (.ls o f a b pn c.1 (V.W.nd c.1 0) ((s.made : Int) + L.length)) := rfl
 rw [hs, kG0] at a1
 refine ⟨(L ++ [⟨V.W.nd c.1 0, true⟩, ⟨V.er, true⟩]) ++ [⟨c.1, true⟩], V', s'.up, ?_, a2, ⟨a3.rv, a3.e⟩, a4, ?_, by simp, by simp; omega⟩
 ·unfold goW
  rw [if_neg (by omega)]
  refine Al.app a1 ?_
  refine Al.step (a := .ld (.nd p.1 0)) trivial (by show Ak.ld (uR h pn) = _; rw [hp]) (jB2 (a2.free hc.fr) (by rw [a2.er]; exact her) rfl hpm.1 (by omega) (by show (0 : Int) < _; omega) hpm.2) (r := ⟨c.1, true⟩) (V1 := V') (by show (V', (⟨V'.W.nd p.1 0, true⟩ : jS)) = _; rw [a2.W, hw.1, hw1]) ?_
  show Al l N h [] V' (qS (kE h) (if c.1 = qG c.1 then .at_ (.lo o f a b pn c.1 (V.W.nd c.1 0) ((s.made : Int) + L.length) (s'.made : Int)) else wE h o f) s'.up) _ _
  rw [if_pos (xS (by omega) (by omega)).symm, kG0]
  have m1 : ((s'.up.made : Nat) : Int) - 3 = (s.made : Int) + L.length := by simp only [PsT.up, a5]; omega
  have m2 : ((s'.up.made : Nat) : Int) - 1 = (s'.made : Int) := by simp only [PsT.up]; omega
  rw [m1, m2]
  exact Al.nil
 ·simp only [PsT.up, a5, List.length_append, List.length_cons, List.length_nil]; omega
theorem walk_al (hN : N ≤ 100) (hB : B0 ≤ 90000) {o : Int} {f : Fk} : ∀ (M : List vC) {X Bs : List vC} {p : vC} {V : Vw} {s : PsT} {a b pn t : Int}, Cl N B0 V R F G → RvS V s → R = X ++ p :: (M ++ Bs) → (∀ x ∈ M, x.2.1 < o) → (∀ x ∈ Bs, o ≤ x.2.1) → uR h pn = .nd p.1 0 → (0 ≤ a ∧ a ≤ 2) → (0 ≤ b ∧ b ≤ 2) → a ≠ b → (0 ≤ t ∧ t < s.made) →
  ∃ L V' s' pn' t' X' q, Al l N h L V (qS (kE h) (goW o f a b pn (hdR (M ++ Bs)) t) s) V' (qS (kE h) (jJ8 V o f pn' Bs t') s') ∧ R = X' ++ q :: Bs ∧ uR h pn' = .nd q.1 0 ∧ SameR V V' ∧ RvS V' s' ∧ s'.gone = s.gone ∧ s'.made = s.made + L.length ∧ L.length ≤ 7 * (M.length + 1) ∧ 0 ≤ t' ∧ t' < s'.made
 | [], X, [], p, V, s, a, b, pn, t, hc, hr, e, hM, hBs, hp, ha, hb, hab, ht => ⟨[], V, s, pn, t, X, p, Al.nil, e, hp, .refl V, hr, rfl, rfl, by simp, ht.1, ht.2⟩
 | [], X, c :: Bs, p, V, s, a, b, pn, t, hc, hr, e, hM, hBs, hp, ha, hb, hab, ht => by
  obtain ⟨L, V', s', a1, a2, a3, a4, a5, a6, a7⟩ := node_al (l := l) (h := h) (o := o) (f := f) (a := a) (t := t) hN hB hc hr e hp hb
  have hcm := hc.mem (x := c) (by rw [e]; simp)
  have her := hc.ers hB
  have hod := (hc.od c (by rw [e]; simp)).1
  have hcx := hc.word (X := X ++ [p]) (p := c) (Y := Bs) (by rw [e]; simp)
  have hge := hBs c (by simp)
  have hmk : (ofW (V.W.nd c.1 0)).mark = false := by rw [hcx.1]; exact jV3 hcx.2.1 (by omega)
  refine ⟨L ++ [⟨c.2.1, true⟩], V', s'.up, pn, if c.2.1 = o then (s'.made : Int) - 3 else (s'.made : Int) - 1, X, p, Al.app a1 ?_, e, hp, a2, ⟨a3.rv, a3.e⟩, a4, by simp only [PsT.up, a5, List.length_append, List.length_cons, List.length_nil]; omega, by simp; omega, by split <;> omega, by simp only [PsT.up]; split <;> omega⟩
  refine Al.step (a := .ld (.nd c.1 1)) trivial rfl (jB2 (a2.free hc.fr) (by rw [a2.er]; exact her) rfl hcm.1 (by omega) (by show (0 : Int) < _; omega) hcm.2) (r := ⟨c.2.1, true⟩) (V1 := V') (by show (V', (⟨V'.W.nd c.1 1, true⟩ : jS)) = _; rw [a2.W, hod]) ?_
  show Al l N h [] V' (qS (kE h) (if (ofW (V.W.nd c.1 0)).mark then _ else if c.2.1 < o then _ else if c.2.1 = o then exY o f pn c.1 (V.W.nd c.1 0) ((s'.made : Int) - 3) else exN o f pn c.1 ((s'.made : Int) - 1)) s'.up) _ (qS (kE h) (if c.2.1 = o then exY o f pn c.1 (V.W.nd c.1 0) _ else exN o f pn c.1 _) s'.up)
  rw [hmk, if_neg (by simp), if_neg (by omega)]
  by_cases ho : c.2.1 = o
  ·rw [if_pos ho, if_pos ho, if_pos ho]; exact Al.nil
  ·rw [if_neg ho, if_neg ho, if_neg ho]; exact Al.nil
 | c :: M, X, Bs, p, V, s, a, b, pn, t, hc, hr, e, hM, hBs, hp, ha, hb, hab, ht => by
  obtain ⟨L, V', s', a1, a2, a3, a4, a5, a6, a7⟩ := node_al (l := l) (h := h) (o := o) (f := f) (a := a) (t := t) hN hB hc hr e hp hb
  have hcm := hc.mem (x := c) (by rw [e]; simp)
  have her := hc.ers hB
  have hod := (hc.od c (by rw [e]; simp)).1
  have e2 : R = (X ++ [p]) ++ c :: (M ++ Bs) := by rw [e]; simp
  have hcx := hc.word e2
  have hlt := hM c (by simp)
  have hmk : (ofW (V.W.nd c.1 0)).mark = false := by rw [hcx.1]; exact jV3 hcx.2.1 (by omega)
  have hix : (ofW (V.W.nd c.1 0)).idx = hdR (M ++ Bs) := by rw [hcx.1]; exact xO hcx.2.1 (by omega)
  obtain ⟨L2, V2, s2, pn2, t2, X2, q2, b1, b2, b3, b4, b5, b6, b7, b8, b9, b10⟩ := walk_al hN hB (o := o) (f := f) M (V := V') (s := s'.up) (a := b) (b := 3 - a - b) (pn := c.1) (t := (s'.made : Int) - 3) (hc.sameR a2) ⟨a3.rv, a3.e⟩ e2 (fun x hx => hM x (by simp [hx])) hBs (by unfold uR; rw [if_neg (by omega)]) hb (by omega) (by omega) (by simp only [PsT.up]; omega)
  have hlnd : jJ8 V' o f pn2 Bs t2 = jJ8 V o f pn2 Bs t2 := by unfold jJ8; rw [a2.W]
  rw [hlnd] at b1
  refine ⟨(L ++ [⟨c.2.1, true⟩]) ++ L2, V2, s2, pn2, t2, X2, q2, Al.app (Al.app a1 ?_) b1, b2, b3, a2.trans b4, b5, b6.trans a4, by rw [b7]; simp only [PsT.up, a5, List.length_append, List.length_cons, List.length_nil]; omega, by simp only [List.length_append, List.length_cons, List.length_nil]; omega, b9, b10⟩
  refine Al.step (a := .ld (.nd c.1 1)) trivial rfl (jB2 (a2.free hc.fr) (by rw [a2.er]; exact her) rfl hcm.1 (by omega) (by show (0 : Int) < _; omega) hcm.2) (r := ⟨c.2.1, true⟩) (V1 := V') (by show (V', (⟨V'.W.nd c.1 1, true⟩ : jS)) = _; rw [a2.W, hod]) ?_
  show Al l N h [] V' (qS (kE h) (if (ofW (V.W.nd c.1 0)).mark then _ else if c.2.1 < o then goW o f b (3 - a - b) c.1 (ofW (V.W.nd c.1 0)).idx ((s'.made : Int) - 3) else _) s'.up) _ _
  rw [hmk, if_neg (by simp), if_pos hlt, hix]
  exact Al.nil
theorem find_al (hN : N ≤ 100) (hB : B0 ≤ 90000) {o : Int} {f : Fk} {V : Vw} {s : PsT} {d : vC} (hh : h = .nd d.1 0) (hc : Cl N B0 V R F G) (hr : RvS V s) (hd : d ∈ R) (hdo : d.2.1 < o) :
  ∃ L V' s' pn' t' X' q Bs, Al l N h L V (qS (kE h) (wE h o f) s) V' (qS (kE h) (jJ8 V o f pn' Bs t') s') ∧ R = X' ++ q :: Bs ∧ (∀ x ∈ X' ++ [q], x.2.1 < o) ∧ (∀ x ∈ Bs, o ≤ x.2.1) ∧ uR h pn' = .nd q.1 0 ∧ SameR V V' ∧ RvS V' s' ∧ s'.gone = s.gone ∧ s'.made = s.made + L.length ∧ L.length ≤ 7 * R.length + 5 ∧ 0 ≤ t' ∧ t' < s'.made := by
 obtain ⟨X, T, e⟩ := List.append_of_mem hd
 have hup := hc.up
 rw [e] at hup
 have hupT := (List.pairwise_append.1 hup).2.1
 have hsp : ∀ (T : List vC), T.Pairwise (fun x y => x.2.1 < y.2.1) → ∃ M Bs, T = M ++ Bs ∧ (∀ x ∈ M, x.2.1 < o) ∧ (∀ x ∈ Bs, o ≤ x.2.1) := by
  intro T
  induction T with
  | nil => intro _; exact ⟨[], [], rfl, by simp, by simp⟩
  | cons x T ih =>
   intro hT
   by_cases hx : x.2.1 < o
   ·obtain ⟨M, Bs, e1, e2, e3⟩ := ih (List.pairwise_cons.1 hT).2
    exact ⟨x :: M, Bs, by rw [e1]; rfl, fun y hy => by rcases List.mem_cons.1 hy with rfl | hy; exact hx; exact e2 y hy, e3⟩
   ·refine ⟨[], x :: T, rfl, by simp, fun y hy => ?_⟩
    rcases List.mem_cons.1 hy with rfl | hy
    ·omega
    ·have := (List.pairwise_cons.1 hT).1 y hy; omega
 obtain ⟨M, Bs, e1, hM, hBs⟩ := hsp T (List.pairwise_cons.1 hupT).2
 subst e1
 have hdm := hc.mem hd
 have her := hc.ers hB
 have hw := hc.word e
 obtain ⟨L, V', s', a1, a2, a3, a4, a5, a6⟩ := guard_al (l := l) (h := h) (k := Lk.ga o f) (i := 0) (n := d.1) hc.fr her hr (by omega) (by omega) hdm.1 hdm.2
 have hs : (kE h).guarded (Lk.ga o f) (V.W.nd d.1 0) ((s.made : Int) + L.length) = goW o f 0 1 0 (hdR (M ++ Bs)) ((s.made : Int) + L.length) := by
  show goW o f 0 1 0 (ofW (V.W.nd d.1 0)).idx _ = _
  rw [hw.1, xO hw.2.1 (by omega)]
 rw [hs] at a1
 obtain ⟨L2, V2, s2, pn2, t2, X2, q2, b1, b2, b3, b4, b5, b6, b7, b8, b9, b10⟩ := walk_al (l := l) (h := h) hN hB (o := o) (f := f) M (V := V') (s := s') (a := 0) (b := 1) (pn := 0) (t := (s.made : Int) + L.length) (hc.sameR a2) a3 e hM hBs (by unfold uR; rw [if_pos rfl, hh]) (by omega) (by omega) (by omega) (by omega)
 have hlnd : jJ8 V' o f pn2 Bs t2 = jJ8 V o f pn2 Bs t2 := by unfold jJ8; rw [a2.W]
 rw [hlnd] at b1
 have hXq : X2 ++ [q2] = X ++ d :: M := by
  have : (X2 ++ [q2]) ++ Bs = (X ++ d :: M) ++ Bs := by rw [List.append_assoc, List.append_assoc]; exact b2.symm.trans e
  exact List.append_cancel_right this
 refine ⟨(L ++ [⟨V.W.nd d.1 0, true⟩, ⟨V.er, true⟩]) ++ L2, V2, s2, pn2, t2, X2, q2, Bs, Al.app ?_ b1, b2, ?_, hBs, b3, a2.trans b4, b5, b6.trans a4, by rw [b7, a5]; simp only [List.length_append, List.length_cons, List.length_nil]; omega, ?_, b9, b10⟩
 ·have : qS (kE h) (wE h o f) s = ⟨.g1 (.ga o f) 0 (.nd d.1 0), s⟩ := by unfold wE; rw [hh]; rfl
  rw [this]
  exact a1
 ·rw [hXq]
  intro x hx
  rcases List.mem_append.1 hx with hx | hx
  ·have := (List.pairwise_append.1 hup).2.2 x hx d (by simp); omega
  ·rcases List.mem_cons.1 hx with rfl | hx
   ·exact hdo
   ·exact hM x hx
 ·rw [e]
  simp only [List.length_append, List.length_cons, List.length_nil]
  omega
end
structure Idle (N : Nat) (B : Int) (V : Vw) (R : List vC) (g : List (Int × Int)) : Prop where
 cl : ∃ F, Cl N B V R F (g.map (·.1))
 rv : ∀ i : Int, 0 ≤ i → i ≤ 2 → V.rv 0 i = 0
 gl : g.length ≤ 1
theorem Cl.len {N : Nat} {B : Int} {V : Vw} {R : List vC} {F G : List Int} (hc : Cl N B V R F G) : R.length ≤ N := by
 have := jP2 N _ (List.nodup_append.1 hc.nd).1 (fun x hx => hc.rg x (List.mem_append_left _ hx))
 simpa using this
theorem e_zero {s : PsT} (hz : s.e0 = 0 ∧ s.e1 = 0 ∧ s.e2 = 0) (i : Int) : s.e i = 0 := by
 unfold PsT.e
 rw [hz.1, hz.2.1, hz.2.2]
 simp
theorem RvS.start {V : Vw} {g : List (Int × Int)} (h : ∀ i : Int, 0 ≤ i → i ≤ 2 → V.rv 0 i = 0) : RvS V ⟨0, g, 0, 0, 0⟩ := ⟨fun i h0 h2 => by rw [h i h0 h2, e_zero ⟨rfl, rfl, rfl⟩], fun i => .inl (e_zero ⟨rfl, rfl, rfl⟩ i)⟩
theorem RvS.zero {V : Vw} {s : PsT} (h : RvS V s) (hz : s.e0 = 0 ∧ s.e1 = 0 ∧ s.e2 = 0) : ∀ i : Int, 0 ≤ i → i ≤ 2 → V.rv 0 i = 0 := fun i h0 h2 => by rw [h.rv i h0 h2, e_zero hz]
theorem Cl.more {N : Nat} {B B' : Int} {V : Vw} {R : List vC} {F G : List Int} (hc : Cl N B V R F G) (h : B ≤ B') : Cl N B' V R F G := ⟨hc.ln, hc.od, hc.up, hc.nd, hc.rg, hc.fr, hc.er, by have := hc.bd; omega⟩
section
variable {l : jN} {N : Nat} {h : Ad} {B0 : Int} {R : List vC}
theorem fi_al {F : List Int} {V : Vw} {s : PsT} {o : kY} (hB : B0 ≤ 90000) (hc : Cl N B0 V R F (s.gone.map (·.1))) (hr : RvS V s) (hg : s.gone.length ≤ 1) :
  ∃ L V' s', Al l N h L V (qS (kE h) (.clr (.fi o)) s) V' ⟨.fin o, s'⟩ ∧ V'.W = V.W ∧ Idle N B0 V' R s'.gone ∧ s'.made = s.made + L.length ∧ L.length ≤ 3 := by
 obtain ⟨L, V', s', a1, a2, a3, a4, a5, a6, a7⟩ := clr3_al (l := l) (h := h) (k := .fi o) hc.fr (hc.ers hB) hr
 exact ⟨L, V', s', a1, a2.W, ⟨⟨F, by rw [a5]; exact hc.sameR a2⟩, a3.zero a4, by rw [a5]; exact hg⟩, a6, a7⟩
def EffR (kind o v : Int) (R R' : List vC) (out : kY) (n : Int) : Prop :=
 (kind = 2 ∧ out.err = 8 ∧ R' = R ∧ ∀ x ∈ R, x.2.1 ≠ o) ∨ (out.err = 0 ∧
  ((∃ x ∈ R, x.2.1 = o ∧ ((kind = 1 ∧ R' = R ∧ out.val = x.2.2 ∧ out.is = true) ∨ (kind = 2 ∧ R' = R ∧ out.val = 0 ∧ out.is = false) ∨ (kind = 3 ∧ R.Perm (x :: R') ∧ out.val = 0 ∧ out.is = true)))
  ∨ ((∀ x ∈ R, x.2.1 ≠ o) ∧ ((kind ≠ 2 ∧ R' = R ∧ out.val = 0 ∧ out.is = false) ∨ (kind = 2 ∧ R'.Perm ((n, o, v) :: R) ∧ out.val = 0 ∧ out.is = true)))))
structure OpRF (l : jN) (N : Nat) (h : Ad) (B0 : Int) (kind o v : Int) (V : Vw) (R : List vC) (q : Q Lk) (L : List jS) (V' : Vw) (s' : PsT) (R' : List vC) (out : kY) (n : Int) : Prop where
 al : Al l N h L V q V' ⟨.fin out, s'⟩
 idle : Idle N (B0 + 10) V' R' s'.gone
 ob : V'.W.ob = V.W.ob
 len : L.length ≤ 58
 pt : 0 ≤ out.point ∧ out.point < L.length
 eff : EffR kind o v R R' out n
 node : kind = 2 → out.is = true → (1 ≤ n ∧ n ≤ (N : Int)) ∧ ∃ a x, asks (kE h) 0 (jK2 (kE h) 1 q (L.take out.point.toNat)).pc = .cs a x (qG n)
theorem kA1 {X Bs : List vC} {q : vC} {o : Int} (h1 : ∀ x ∈ X ++ [q], x.2.1 < o) (h2 : ∀ x ∈ Bs, o ≤ x.2.1) (hne : ∀ c, Bs.head? = some c → c.2.1 ≠ o) (hup : Bs.Pairwise fun x y => x.2.1 < y.2.1) : ∀ x ∈ X ++ q :: Bs, x.2.1 ≠ o := by
 intro x hx
 rw [show X ++ q :: Bs = (X ++ [q]) ++ Bs by simp] at hx
 rcases List.mem_append.1 hx with hx | hx
 ·have := h1 x hx; omega
 ·cases Bs with
  | nil => simp at hx
  | cons c Bs =>
   have hc := hne c rfl
   have h3 := h2 c (by simp)
   rcases List.mem_cons.1 hx with rfl | hx
   ·exact hc
   ·have := (List.pairwise_cons.1 hup).1 x hx; omega
theorem get_al (hN : N ≤ 5) (hB : B0 ≤ 80000) {o v : Int} {V : Vw} {g : List (Int × Int)} {d : vC} (hh : h = .nd d.1 0) (hI : Idle N B0 V R g) (hd : d ∈ R) (hdo : d.2.1 < o) :
  ∃ L V' s' out, OpRF l N h B0 1 o v V R ⟨wE h o .get, ⟨0, g, 0, 0, 0⟩⟩ L V' s' R out 0 := by
 obtain ⟨F, hc⟩ := hI.cl
 have hlen := hc.len
 obtain ⟨L, V1, s1, pn, t, X, q, Bs, a1, a2, a3, a4, a5, a6, a7, a8, a9, a10, a11, a12⟩ := find_al (l := l) (h := h) (o := o) (f := .get) (s := ⟨0, g, 0, 0, 0⟩) (by omega) (by omega) hh hc (.start hI.rv) hd hdo
 have a9' : s1.made = L.length := by rw [a9]; simp
 have hst : qS (kE h) (wE h o .get) ⟨0, g, 0, 0, 0⟩ = ⟨wE h o .get, ⟨0, g, 0, 0, 0⟩⟩ := rfl
 rw [hst] at a1
 have hup := hc.up
 rw [a2] at hup
 have hupB := (List.pairwise_cons.1 (List.pairwise_append.1 hup).2.1).2
 have no : (∀ c, Bs.head? = some c → c.2.1 ≠ o) → (jJ8 V o .get pn Bs t = .clr (.fi (noO t))) → ∃ L V' s' out, OpRF l N h B0 1 o v V R ⟨wE h o .get, ⟨0, g, 0, 0, 0⟩⟩ L V' s' R out 0 := by
  intro hne hl
  rw [hl] at a1
  obtain ⟨L2, V2, s2, b1, b2, b3, b4, b5⟩ := fi_al (l := l) (h := h) (B0 := B0) (o := noO t) (by omega) (by rw [a8]; exact hc.sameR a6) a7 (by rw [a8]; exact hI.gl)
  obtain ⟨F2, hc2⟩ := b3.cl
  refine ⟨L ++ L2, V2, s2, noO t, a1.app b1, ⟨⟨F2, hc2.more (by omega)⟩, b3.rv, b3.gl⟩, by rw [b2, a6.W], by rw [List.length_append]; omega, ⟨a11, by rw [List.length_append]; show t < _; omega⟩, .inr ⟨rfl, .inr ⟨?_, .inl ⟨by omega, rfl, rfl, rfl⟩⟩⟩, fun h => by omega⟩
  have := kA1 a3 a4 hne hupB
  rw [← a2] at this
  exact this
 cases Bs with
 | nil => exact no (by simp) rfl
 | cons c Bs =>
  by_cases ho : c.2.1 = o
  ·have hl : jJ8 V o .get pn (c :: Bs) t = .at_ (.gv o c.1 t) := by show (if c.2.1 = o then _ else _) = _; rw [if_pos ho]; rfl
   have hcR : c ∈ R := by rw [a2]; simp
   have hcm := hc.mem hcR
   rw [hl, kG0] at a1
   obtain ⟨L2, V2, s2, b1, b2, b3, b4, b5⟩ := fi_al (l := l) (h := h) (B0 := B0) (s := s1.up) (o := ⟨c.2.2, true, 0, t, []⟩) (by omega) (by show Cl N B0 V1 R F (s1.gone.map (·.1)); rw [a8]; exact hc.sameR a6) ⟨a7.rv, a7.e⟩ (by show s1.gone.length ≤ 1; rw [a8]; exact hI.gl)
   obtain ⟨F2, hc2⟩ := b3.cl
   refine ⟨L ++ (⟨c.2.2, true⟩ :: L2), V2, s2, ⟨c.2.2, true, 0, t, []⟩, a1.app (Al.step (q := ⟨.at_ (.gv o c.1 t), s1⟩) (a := .ld (.nd c.1 2)) trivial rfl (jB2 (a6.free hc.fr) (by rw [a6.er]; exact hc.ers (by omega)) rfl hcm.1 (by omega) (by show (0 : Int) < _; omega) hcm.2) (V1 := V1) (by show (V1, (⟨V1.W.nd c.1 2, true⟩ : jS)) = _; rw [a6.W, (hc.od c hcR).2]) b1), ⟨⟨F2, hc2.more (by omega)⟩, b3.rv, b3.gl⟩, by rw [b2, a6.W], by rw [List.length_append, List.length_cons]; omega, ⟨a11, by rw [List.length_append]; show t < _; omega⟩, .inr ⟨rfl, .inl ⟨c, hcR, ho, .inl ⟨rfl, rfl, rfl, rfl⟩⟩⟩, fun h => by omega⟩
  ·exact no (fun x hx => by injection hx with hx; exact hx ▸ ho) (by show (if c.2.1 = o then _ else _) = _; rw [if_neg ho]; rfl)
theorem put_al (hN : N ≤ 5) (hB : B0 ≤ 80000) {o v : Int} {V : Vw} {g : List (Int × Int)} {d : vC} (hh : h = .nd d.1 0) (hI : Idle N B0 V R g) (hd : d ∈ R) (hdo : d.2.1 < o) (ho63 : o < 9223372036854775808) (hv63 : v < 9223372036854775808) :
  ∃ L V' s' R' out n, OpRF l N h B0 2 o v V R ⟨wE h o (.put v 0), ⟨0, g, 0, 0, 0⟩⟩ L V' s' R' out n := by
 obtain ⟨F, hc⟩ := hI.cl
 have hlen := hc.len
 obtain ⟨L, V1, s1, pn, t, X, q, Bs, a1, a2, a3, a4, a5, a6, a7, a8, a9, a10, a11, a12⟩ := find_al (l := l) (h := h) (o := o) (f := .put v 0) (s := ⟨0, g, 0, 0, 0⟩) (by omega) (by omega) hh hc (.start hI.rv) hd hdo
 have a9' : s1.made = L.length := by rw [a9]; simp
 have hst : qS (kE h) (wE h o (.put v 0)) ⟨0, g, 0, 0, 0⟩ = ⟨wE h o (.put v 0), ⟨0, g, 0, 0, 0⟩⟩ := rfl
 rw [hst] at a1
 have hup := hc.up
 rw [a2] at hup
 have hupB := (List.pairwise_cons.1 (List.pairwise_append.1 hup).2.1).2
 have hc1 := hc.sameR a6
 have her := hc1.ers (by omega)
 have no : (∀ c, Bs.head? = some c → c.2.1 ≠ o) → (jJ8 V o (.put v 0) pn Bs t = .t1 (.tk o v pn (hdR Bs))) → ∃ L V' s' R' out n, OpRF l N h B0 2 o v V R ⟨wE h o (.put v 0), ⟨0, g, 0, 0, 0⟩⟩ L V' s' R' out n := by
  intro hne hl
  have hnot := kA1 a3 a4 hne hupB
  rw [← a2] at hnot
  rw [hl] at a1
  have hst2 : qS (kE h) (.t1 (.tk o v pn (hdR Bs))) s1 = ⟨.t1 (.tk o v pn (hdR Bs)), s1⟩ := rfl
  rw [hst2] at a1
  cases F with
  | nil =>
   have b0 := full_al (l := l) (h := h) (s := s1) (k := .tk o v pn (hdR Bs)) (by omega) hc1.fr her
   obtain ⟨L2, V2, s2, b1, b2, b3, b4, b5⟩ := fi_al (l := l) (h := h) (B0 := B0) (s := s1.up) (o := ⟨0, false, 8, s1.made, []⟩) (by omega) (by show Cl N B0 V1 R [] (s1.gone.map (·.1)); rw [a8]; exact hc1) ⟨a7.rv, a7.e⟩ (by show s1.gone.length ≤ 1; rw [a8]; exact hI.gl)
   obtain ⟨F2, hc2⟩ := b3.cl
   refine ⟨L ++ ([⟨V1.fr, true⟩] ++ L2), V2, s2, R, ⟨0, false, 8, s1.made, []⟩, 0, a1.app (b0.app b1), ⟨⟨F2, hc2.more (by omega)⟩, b3.rv, b3.gl⟩, by rw [b2, a6.W], by simp only [List.length_append, List.length_cons, List.length_nil]; omega, ⟨by show (0 : Int) ≤ s1.made; omega, by simp only [List.length_append, List.length_cons, List.length_nil]; omega⟩, .inl ⟨rfl, rfl, rfl, hnot⟩, fun _ h => by simp at h⟩
  | cons n F =>
   have hbd := hc1.bd
   obtain ⟨L2, V2, b1, b2, b3, b4, b5, b6, b7⟩ := take_al (l := l) (h := h) (s := s1) (k := .tk o v pn (hdR Bs)) (by omega) hc1.fr (by have := her.1; omega) her
   have hst3 : qS (kE h) ((kE h).took (.tk o v pn (hdR Bs)) n ((s1.made : Int) + 2)) s1.up.up.up.up.up = ⟨.at_ (.p1 o v n pn (hdR Bs)), s1.up.up.up.up.up⟩ := rfl
   rw [hst3] at b1
   have hnr := hc1.rg n (by simp)
   have hnd := hc1.nd
   have hqm := hc.mem (x := q) (by rw [a2]; simp)
   have hnR : ∀ x ∈ R, x.1 ≠ n := fun x hx e => (hc.mem hx).2 (by rw [e]; simp)
   have hnF : n ∉ F := fun hm => by
    have := (List.nodup_append.1 (List.nodup_append.1 hnd).2.1).1
    exact (List.nodup_cons.1 this).1 hm
   have hw := hc.word a2
   have hqn : q.1 ≠ n := hnR q (by rw [a2]; simp)
   have hqF : q.1 ∉ F := fun hm => hqm.2 (by simp [hm])
   have er2 : 1 ≤ V2.er ∧ V2.er ≤ 100000 := by rw [b4]; exact her
   -- the cells of the node, and the word ahead of it
   have f1 : FreeOk N (V2.put (.nd n 1) o) F := ⟨b2.fr, b2.k, b2.lf, b2.nd, b2.rg⟩
   have f2 : FreeOk N ((V2.put (.nd n 1) o).put (.nd n 2) v) F := ⟨b2.fr, b2.k, b2.lf, b2.nd, b2.rg⟩
   have f3 : FreeOk N (((V2.put (.nd n 1) o).put (.nd n 2) v).put (.nd n 0) (hdR Bs)) F := ⟨b2.fr, b2.k, b2.lf, b2.nd, b2.rg⟩
   have f4 : FreeOk N ((((V2.put (.nd n 1) o).put (.nd n 2) v).put (.nd n 0) (hdR Bs)).put (.nd q.1 0) n) F := ⟨b2.fr, b2.k, b2.lf, b2.nd, b2.rg⟩
   have hW2 : V2.W = V.W := by rw [b3, a6.W]
   have key : ∀ m i, ((((V2.put (.nd n 1) o).put (.nd n 2) v).put (.nd n 0) (hdR Bs)).put (.nd q.1 0) n).W.nd m i = if m = q.1 ∧ i = 0 then n else if m = n ∧ i = 0 then hdR Bs else if m = n ∧ i = 2 then v else if m = n ∧ i = 1 then o else V.W.nd m i := by
    intro m i
    rw [← hW2]
    rfl
   generalize hV4 : (((V2.put (.nd n 1) o).put (.nd n 2) v).put (.nd n 0) (hdR Bs)).put (.nd q.1 0) n = V4 at f4 key
   have e4 : V4.er = V2.er ∧ V4.fr = V2.fr ∧ V4.rv = V2.rv ∧ V4.W.ob = V2.W.ob := by rw [← hV4]; exact ⟨rfl, rfl, rfl, rfl⟩
   let s6 : PsT := s1.up.up.up.up.up
   have m6 : s6.made = L.length + 5 := by show s1.made + 1 + 1 + 1 + 1 + 1 = _; omega
   have hc4 : Cl N (B0 + 10) V4 (X ++ q :: (n, o, v) :: Bs) F (g.map (·.1)) := by
    have hall : ∀ x ∈ X ++ Bs, x.1 ≠ q.1 ∧ x.1 ≠ n := by
     intro x hx
     have hxR : x ∈ R := by
      rw [a2]
      rcases List.mem_append.1 hx with hx | hx
      ·exact List.mem_append_left _ hx
      ·exact List.mem_append_right _ (List.mem_cons_of_mem _ hx)
     refine ⟨fun e => ?_, hnR x hxR⟩
     have hnd1 := (List.nodup_append.1 hnd).1
     rw [a2, List.map_append, List.map_cons] at hnd1
     have := (List.perm_middle.nodup_iff).1 hnd1
     exact (List.nodup_cons.1 this).1 (by rw [← e, ← List.map_append]; exact List.mem_map_of_mem hx)
    have hbd4 : V4.er + V4.fr / 131072 ≤ B0 + 10 := by rw [e4.1, e4.2.1, b4, b6]; omega
    refine ⟨?_, ?_, ?_, ?_, ?_, f4, by rw [e4.1]; exact er2.1, hbd4⟩
    ·have hln := hc.ln
     rw [a2, List.map_append, List.map_cons] at hln
     rw [List.map_append, List.map_cons, List.map_cons]
     refine LinkF.ins (by rw [key, if_pos ⟨rfl, rfl⟩]) ?_ hln fun x hx => ?_
     ·show V4.W.nd n 0 = _
      rw [key, if_neg (fun e => hqn e.1.symm), if_pos ⟨rfl, rfl⟩]; rfl
     ·rw [← List.map_append] at hx
      obtain ⟨y, hy, rfl⟩ := List.mem_map.1 hx
      have := hall y hy
      rw [key, if_neg (fun e => this.1 e.1), if_neg (fun e => this.2 e.1), if_neg (fun e => this.2 e.1), if_neg (fun e => this.2 e.1)]
    ·intro x hx
     have hx' : x = (n, o, v) ∨ x ∈ R := by
      rw [a2]
      rcases List.mem_append.1 hx with hx | hx
      ·exact .inr (List.mem_append_left _ hx)
      ·rcases List.mem_cons.1 hx with rfl | hx
       ·exact .inr (by simp)
       ·rcases List.mem_cons.1 hx with rfl | hx
        ·exact .inl rfl
        ·exact .inr (List.mem_append_right _ (List.mem_cons_of_mem _ hx))
     rcases hx' with rfl | hx'
     ·rw [key, key]
      exact ⟨by rw [if_neg (by omega), if_neg (by omega), if_neg (by omega), if_pos ⟨rfl, rfl⟩], by rw [if_neg (by omega), if_neg (by omega), if_pos ⟨rfl, rfl⟩]⟩
     ·have hne' := hnR x hx'
      have := hc.od x hx'
      rw [key, key]
      exact ⟨by rw [if_neg (by omega), if_neg (by omega), if_neg (by omega), if_neg (fun e => hne' e.1)]; exact this.1, by rw [if_neg (by omega), if_neg (by omega), if_neg (fun e => hne' e.1), if_neg (by omega)]; exact this.2⟩
    ·have hBs' : ∀ x ∈ Bs, o < x.2.1 := fun x hx => by
      have h1 := a4 x hx
      have h2 := hnot x (by rw [a2]; simp [hx])
      omega
     rw [show X ++ q :: (n, o, v) :: Bs = (X ++ [q]) ++ (n, o, v) :: Bs by simp]
     rw [show X ++ q :: Bs = (X ++ [q]) ++ Bs by simp] at hup
     have h3 := List.pairwise_append.1 hup
     refine List.pairwise_append.2 ⟨h3.1, List.pairwise_cons.2 ⟨hBs', h3.2.1⟩, fun x hx y hy => ?_⟩
     rcases List.mem_cons.1 hy with rfl | hy
     ·exact a3 x hx
     ·exact h3.2.2 x hx y hy
    all_goals
     have hp : ((X ++ q :: (n, o, v) :: Bs).map (·.1) ++ (F ++ g.map (·.1))).Perm (R.map (·.1) ++ (n :: F ++ g.map (·.1))) := by
      rw [a2]
      simp only [List.map_append, List.map_cons, List.append_assoc, List.cons_append]
      refine List.Perm.append_left _ (List.Perm.cons _ ?_)
      exact List.perm_middle.symm
    ·exact hp.nodup_iff.2 hnd
    ·intro x hx
     exact hc1.rg x (hp.mem_iff.1 hx)
   have hr4 : RvS V4 s6.up.up.up.up := ⟨fun i h0 h2 => by rw [e4.2.2.1, b5]; exact a7.rv i h0 h2, fun i => by rw [e4.1, b4]; exact a7.e i⟩
   obtain ⟨L5, V5, s5, d1, d2, d3, d4, d5⟩ := fi_al (l := l) (h := h) (B0 := B0 + 10) (s := s6.up.up.up.up) (o := okO (s6.up.up.up.made)) (by omega) (by show Cl N (B0 + 10) V4 _ F (s1.gone.map (·.1)); rw [a8]; exact hc4) hr4 (by show s1.gone.length ≤ 1; rw [a8]; exact hI.gl)
   obtain ⟨W3, hw3, pc⟩ : ∃ W3 : List jS, W3.length = 3 ∧ Al l N h W3 V2 ⟨.at_ (.p1 o v n pn (hdR Bs)), s6⟩ (((V2.put (.nd n 1) o).put (.nd n 2) v).put (.nd n 0) (hdR Bs)) ⟨.at_ (.cp o v n pn (hdR Bs)), s6.up.up.up⟩ := by
    refine ⟨[⟨V2.W.nd n 1, true⟩, ⟨(V2.put (.nd n 1) o).W.nd n 2, true⟩, ⟨((V2.put (.nd n 1) o).put (.nd n 2) v).W.nd n 0, true⟩], rfl, ?_⟩
    refine Al.step (a := .st (.nd n 1) o) trivial rfl (jB2 b2 er2 rfl hnr (by omega) ho63 hnF) rfl ?_
    refine Al.step (q := ⟨.at_ (.p2 o v n pn (hdR Bs)), s6.up⟩) (a := .st (.nd n 2) v) trivial rfl (jB2 f1 er2 rfl hnr (by omega) hv63 hnF) rfl ?_
    refine Al.step (q := ⟨.at_ (.p0 o v n pn (hdR Bs)), s6.up.up⟩) (a := .st (.nd n 0) (hdR Bs)) trivial (by show Ak.st (.nd n 0) (qG (hdR Bs)) = _; rw [xS hw.2.1 (by omega)]) (jB2 f2 er2 rfl hnr (by omega) (by show hdR Bs < _; omega) hnF) rfl ?_
    exact Al.nil
   have cp : Al l N h [⟨hdR Bs, true⟩] (((V2.put (.nd n 1) o).put (.nd n 2) v).put (.nd n 0) (hdR Bs)) ⟨.at_ (.cp o v n pn (hdR Bs)), s6.up.up.up⟩ V4 (qS (kE h) (.clr (.fi (okO (s6.up.up.up.made)))) s6.up.up.up.up) := by
    refine Al.step (a := .cs (.nd q.1 0) (hdR Bs) n) trivial (by show Ak.cs (uR h pn) (qG (hdR Bs)) (qG n) = _; rw [a5, xS hw.2.1 (by omega), xS (by omega) (by omega)]) (jB2 f3 er2 rfl hqm.1 (by omega) (by show n < _; omega) hqF) (r := ⟨hdR Bs, true⟩) (V1 := V4) ?_ Al.nil
    have hg : (((V2.put (.nd n 1) o).put (.nd n 2) v).put (.nd n 0) (hdR Bs)).get (.nd q.1 0) = hdR Bs := by
     show (if q.1 = n ∧ (0 : Int) = 0 then hdR Bs else if q.1 = n ∧ (0 : Int) = 2 then v else if q.1 = n ∧ (0 : Int) = 1 then o else V2.W.nd q.1 0) = _
     rw [if_neg (by omega), if_neg (by omega), if_neg (by omega), hW2]
     exact hw.1
    show (if _ = hdR Bs then _ else _) = _
    rw [hg, if_pos rfl, hV4]
   obtain ⟨F5, hc5⟩ := d3.cl
   have hpt : ((okO (s6.up.up.up.made)).point).toNat = (L ++ (L2 ++ W3)).length := by
    show ((s6.made + 1 + 1 + 1 : Nat) : Int).toNat = _
    simp only [List.length_append, List.length_cons, List.length_nil, b7, m6, hw3]; omega
   have hL : L ++ (L2 ++ (W3 ++ ([⟨hdR Bs, true⟩] ++ L5))) = (L ++ (L2 ++ W3)) ++ ([⟨hdR Bs, true⟩] ++ L5) := by simp only [List.append_assoc]
   refine ⟨L ++ (L2 ++ (W3 ++ ([⟨hdR Bs, true⟩] ++ L5))), V5, s5, X ++ q :: (n, o, v) :: Bs, okO (s6.up.up.up.made), n, a1.app (b1.app (pc.app (cp.app d1))), ⟨⟨F5, hc5⟩, d3.rv, d3.gl⟩, ?_, ?_, ⟨?_, ?_⟩, .inr ⟨rfl, .inr ⟨hnot, .inr ⟨rfl, ?_, rfl, rfl⟩⟩⟩, fun _ _ => ⟨hnr, .nd q.1 0, hdR Bs, ?_⟩⟩
   ·rw [d2, e4.2.2.2, hW2]
   ·simp only [List.length_append, List.length_cons, List.length_nil, hw3]; omega
   ·show (0 : Int) ≤ ((s6.made + 1 + 1 + 1 : Nat) : Int); omega
   ·show ((s6.made + 1 + 1 + 1 : Nat) : Int) < _; simp only [List.length_append, List.length_cons, List.length_nil, hw3]; omega
   ·rw [a2]
    exact ((List.perm_middle (l₁ := X ++ [q]) (l₂ := Bs) (a := (n, o, v))).symm.symm.trans (by simp)) |> fun hp => by simpa using hp
   ·rw [hpt, hL, List.take_left, (a1.app (b1.app pc)).run]
    show Ak.cs (uR h pn) (qG (hdR Bs)) (qG n) = _
    rw [a5, xS hw.2.1 (by omega)]
 cases Bs with
 | nil => exact no (by simp) rfl
 | cons c Bs =>
  by_cases ho : c.2.1 = o
  ·have hl : jJ8 V o (.put v 0) pn (c :: Bs) t = .clr (.fi (noO t)) := by show (if c.2.1 = o then _ else _) = _; rw [if_pos ho]; rfl
   have hcR : c ∈ R := by rw [a2]; simp
   rw [hl] at a1
   obtain ⟨L2, V2, s2, b1, b2, b3, b4, b5⟩ := fi_al (l := l) (h := h) (B0 := B0) (o := noO t) (by omega) (by rw [a8]; exact hc1) a7 (by rw [a8]; exact hI.gl)
   obtain ⟨F2, hc2⟩ := b3.cl
   exact ⟨L ++ L2, V2, s2, R, noO t, 0, a1.app b1, ⟨⟨F2, hc2.more (by omega)⟩, b3.rv, b3.gl⟩, by rw [b2, a6.W], by rw [List.length_append]; omega, ⟨a11, by rw [List.length_append]; show t < _; omega⟩, .inr ⟨rfl, .inl ⟨c, hcR, ho, .inr (.inl ⟨rfl, rfl, rfl, rfl⟩)⟩⟩, fun _ h => by simp [noO] at h⟩
  ·exact no (fun x hx => by injection hx with hx; exact hx ▸ ho) (by show (if c.2.1 = o then _ else _) = _; rw [if_neg ho]; rfl)
end
section
variable {l : jN} {N : Nat} {h : Ad} {B0 : Int} {R : List vC}
theorem del_al (hN : N ≤ 5) (hB : B0 ≤ 80000) {o v : Int} {V : Vw} {g : List (Int × Int)} {d : vC} (hh : h = .nd d.1 0) (hI : Idle N B0 V R g) (hd : d ∈ R) (hdo : d.2.1 < o) :
  ∃ L V' s' R' out, OpRF l N h B0 3 o v V R ⟨wE h o .del, ⟨0, g, 0, 0, 0⟩⟩ L V' s' R' out 0 := by
 obtain ⟨F, hc⟩ := hI.cl
 have hlen := hc.len
 obtain ⟨L, V1, s1, pn, t, X, q, Bs, a1, a2, a3, a4, a5, a6, a7, a8, a9, a10, a11, a12⟩ := find_al (l := l) (h := h) (o := o) (f := .del) (s := ⟨0, g, 0, 0, 0⟩) (by omega) (by omega) hh hc (.start hI.rv) hd hdo
 have a9' : s1.made = L.length := by rw [a9]; simp
 have hst : qS (kE h) (wE h o .del) ⟨0, g, 0, 0, 0⟩ = ⟨wE h o .del, ⟨0, g, 0, 0, 0⟩⟩ := rfl
 rw [hst] at a1
 have hup := hc.up
 rw [a2] at hup
 have hupB := (List.pairwise_cons.1 (List.pairwise_append.1 hup).2.1).2
 have hc1 := hc.sameR a6
 have her := hc1.ers (by omega)
 have no : (∀ c, Bs.head? = some c → c.2.1 ≠ o) → (jJ8 V o .del pn Bs t = .clr (.fi (noO t))) → ∃ L V' s' R' out, OpRF l N h B0 3 o v V R ⟨wE h o .del, ⟨0, g, 0, 0, 0⟩⟩ L V' s' R' out 0 := by
  intro hne hl
  rw [hl] at a1
  obtain ⟨L2, V2, s2, b1, b2, b3, b4, b5⟩ := fi_al (l := l) (h := h) (B0 := B0) (o := noO t) (by omega) (by rw [a8]; exact hc1) a7 (by rw [a8]; exact hI.gl)
  obtain ⟨F2, hc2⟩ := b3.cl
  refine ⟨L ++ L2, V2, s2, R, noO t, a1.app b1, ⟨⟨F2, hc2.more (by omega)⟩, b3.rv, b3.gl⟩, by rw [b2, a6.W], by rw [List.length_append]; omega, ⟨a11, by rw [List.length_append]; show t < _; omega⟩, .inr ⟨rfl, .inr ⟨?_, .inl ⟨by omega, rfl, rfl, rfl⟩⟩⟩, fun h => by omega⟩
  have := kA1 a3 a4 hne hupB
  rw [← a2] at this
  exact this
 cases Bs with
 | nil => exact no (by simp) rfl
 | cons c Y =>
  by_cases ho : c.2.1 = o
  ·have hl : jJ8 V o .del pn (c :: Y) t = .at_ (.cm o pn c.1 (V.W.nd c.1 0)) := by show (if c.2.1 = o then _ else _) = _; rw [if_pos ho]; rfl
   have hcR : c ∈ R := by rw [a2]; simp
   have hcm := hc.mem hcR
   have hqm := hc.mem (x := q) (by rw [a2]; simp)
   have hwq := hc.word a2
   have hwc := hc.word (X := X ++ [q]) (p := c) (Y := Y) (by rw [a2]; simp)
   have hq1 : hdR (c :: Y) = c.1 := rfl
   rw [hl, kG0, hwc.1] at a1
   have hnd := hc.nd
   have hnd1 := (List.nodup_append.1 hnd).1
   have hnd1' : (q.1 :: c.1 :: (X ++ Y).map (·.1)).Nodup := by
    rw [a2, List.map_append, List.map_cons, List.map_cons] at hnd1
    rw [List.map_append]
    exact ((List.perm_middle).trans (List.Perm.cons _ List.perm_middle)).nodup_iff.1 hnd1
   have hqc : q.1 ≠ c.1 := fun e => (List.nodup_cons.1 hnd1').1 (by rw [e]; simp)
   have hbd := hc1.bd
   have hk := hc1.fr.k
   -- marked, then out
   have f2 : FreeOk N (V1.put (.nd c.1 0) (wP (hdR Y))) F := ⟨hc1.fr.fr, hc1.fr.k, hc1.fr.lf, hc1.fr.nd, hc1.fr.rg⟩
   have f3 : FreeOk N ((V1.put (.nd c.1 0) (wP (hdR Y))).put (.nd q.1 0) (hdR Y)) F := ⟨hc1.fr.fr, hc1.fr.k, hc1.fr.lf, hc1.fr.nd, hc1.fr.rg⟩
   have key : ∀ m i, ((V1.put (.nd c.1 0) (wP (hdR Y))).put (.nd q.1 0) (hdR Y)).W.nd m i = if m = q.1 ∧ i = 0 then hdR Y else if m = c.1 ∧ i = 0 then wP (hdR Y) else V.W.nd m i := by
    intro m i
    rw [← a6.W]
    rfl
   have cm : Al l N h [⟨hdR Y, true⟩] V1 ⟨.at_ (.cm o pn c.1 (hdR Y)), s1⟩ (V1.put (.nd c.1 0) (wP (hdR Y))) ⟨.at_ (.cd o pn c.1 (hdR Y) s1.made), s1.up⟩ := by
    refine Al.step (a := .cs (.nd c.1 0) (hdR Y) (wP (hdR Y))) trivial (by show Ak.cs (.nd c.1 0) (hdR Y) (wP (ofW (hdR Y)).idx) = _; rw [xO hwc.2.1 (by omega)]) (jB2 hc1.fr her rfl hcm.1 (by omega) (by show wP (hdR Y) < _; rw [markW_eq hwc.2.1 (by omega)]; omega) hcm.2) (r := ⟨hdR Y, true⟩) (V1 := V1.put (.nd c.1 0) (wP (hdR Y))) ?_ ?_
    ·show (if V1.W.nd c.1 0 = hdR Y then (_, (⟨V1.W.nd c.1 0, true⟩ : jS)) else _) = _
     rw [a6.W, hwc.1, if_pos rfl]
    ·show Al l N h [] _ ⟨.at_ (.cd o pn c.1 (ofW (hdR Y)).idx s1.made), s1.up⟩ _ _
     rw [xO hwc.2.1 (by omega)]
     exact Al.nil
   have cd : Al l N h [⟨c.1, true⟩] (V1.put (.nd c.1 0) (wP (hdR Y))) ⟨.at_ (.cd o pn c.1 (hdR Y) s1.made), s1.up⟩ ((V1.put (.nd c.1 0) (wP (hdR Y))).put (.nd q.1 0) (hdR Y)) (qS (kE h) (.clr (.rx c.1 s1.made)) s1.up.up) := by
    refine Al.step (a := .cs (.nd q.1 0) c.1 (hdR Y)) trivial (by show Ak.cs (uR h pn) (qG c.1) (qG (hdR Y)) = _; rw [a5, xS hwc.2.1 (by omega), xS (by omega) (by omega)]) (jB2 f2 her rfl hqm.1 (by omega) (by show hdR Y < _; omega) hqm.2) (r := ⟨c.1, true⟩) (V1 := (V1.put (.nd c.1 0) (wP (hdR Y))).put (.nd q.1 0) (hdR Y)) ?_ Al.nil
    have hg : (V1.put (.nd c.1 0) (wP (hdR Y))).get (.nd q.1 0) = c.1 := by
     show (if q.1 = c.1 ∧ (0 : Int) = 0 then wP (hdR Y) else V1.W.nd q.1 0) = _
     rw [if_neg (fun e => hqc e.1), a6.W, hwq.1, hq1]
    show (if _ = c.1 then (_, (⟨_, true⟩ : jS)) else _) = _
    rw [hg, if_pos rfl]
   generalize hV3 : (V1.put (.nd c.1 0) (wP (hdR Y))).put (.nd q.1 0) (hdR Y) = V3 at f3 key cd
   have e3 : V3.er = V1.er ∧ V3.fr = V1.fr ∧ V3.rv = V1.rv ∧ V3.W.ob = V1.W.ob := by rw [← hV3]; exact ⟨rfl, rfl, rfl, rfl⟩
   have hr3 : RvS V3 s1.up.up := ⟨fun i h0 h2 => by rw [e3.2.2.1]; exact a7.rv i h0 h2, fun i => by rw [e3.1]; exact a7.e i⟩
   obtain ⟨L4, V4, s4, b1, b2, b3, b4, b5, b6, b7⟩ := clr3_al (l := l) (h := h) (k := .rx c.1 s1.made) f3 (by rw [e3.1]; exact her) hr3
   have b5' : s4.gone = g := by rw [b5]; exact a8
   have hcF : c.1 ∉ F := hcm.2
   have hcG : c.1 ∉ g.map (·.1) := fun hm => (List.nodup_append.1 hnd).2.2 _ (List.mem_map_of_mem hcR) _ (List.mem_append_right _ hm) rfl
   obtain ⟨L5, V5, s5, F5, d1, d2, d3, d4, d5, d6, d7, d8, d9, d10, d11⟩ := ret_al (l := l) (h := h) (k := .ry s1.made) (n := c.1) (s := s4) (by omega) (b2.free f3) (by rw [b5', show V4.fr = V3.fr from by unfold SameR at b2; rw [b2], e3.2.1]; have := hI.gl; have := her.1; omega) (by rw [b2.er, e3.1]; have := her.1; omega) b3 b4 (by
    rw [b5']
    have h1 := (List.nodup_append.1 hnd).2.1
    have hp : ((g.map (·.1) ++ [c.1]) ++ F).Perm (c.1 :: (F ++ g.map (·.1))) := by
     refine (List.perm_append_comm).trans ?_
     rw [← List.append_assoc]
     exact List.perm_append_singleton _ _
    refine hp.nodup_iff.2 (List.nodup_cons.2 ⟨fun hm => ?_, h1⟩)
    rcases List.mem_append.1 hm with hm | hm
    ·exact hcF hm
    ·exact hcG hm) (by
    rw [b5']
    intro x hx
    exact hc.rg x.1 (List.mem_append_right _ (List.mem_append_right _ (List.mem_map_of_mem hx)))) hcm.1 (by rw [b5']; exact hI.gl)
   have hW5 : V5.W = V3.W := by rw [d4, b2.W]
   have hall : ∀ x ∈ X ++ Y, x.1 ≠ q.1 ∧ x.1 ≠ c.1 := fun x hx => by
    have h1 := (List.nodup_cons.1 hnd1').1
    have h2 := (List.nodup_cons.1 (List.nodup_cons.1 hnd1').2).1
    exact ⟨fun e => h1 (by rw [← e]; exact List.mem_cons_of_mem _ (List.mem_map_of_mem hx)), fun e => h2 (by rw [← e]; exact List.mem_map_of_mem hx)⟩
   have hp : ((X ++ q :: Y).map (·.1) ++ (F5 ++ s5.gone.map (·.1))).Perm (R.map (·.1) ++ (F ++ g.map (·.1))) := by
    rw [b5'] at d3
    refine (List.Perm.append_left _ d3).trans ?_
    rw [a2]
    simp only [List.map_append, List.map_cons, List.append_assoc, List.cons_append]
    refine List.Perm.append_left _ (List.Perm.cons _ ?_)
    exact List.perm_middle
   have hc5 : Cl N (B0 + 10) V5 (X ++ q :: Y) F5 (s5.gone.map (·.1)) := by
    have hbd5 : V5.er + V5.fr / 131072 ≤ B0 + 10 := by
     rw [show V4.fr = V3.fr from by unfold SameR at b2; rw [b2], e3.2.1] at d7
     rw [d5, b2.er, e3.1]
     omega
    refine ⟨?_, ?_, ?_, hp.nodup_iff.2 hnd, fun x hx => hc.rg x (hp.mem_iff.1 hx), d2, by rw [d5, b2.er, e3.1]; omega, hbd5⟩
    ·have hln := hc.ln
     rw [a2, List.map_append, List.map_cons, List.map_cons] at hln
     rw [List.map_append, List.map_cons]
     refine LinkF.del ?_ hln fun x hx => ?_
     ·show V5.W.nd q.1 0 = _
      rw [hW5, key, if_pos ⟨rfl, rfl⟩]; rfl
     ·rw [← List.map_append] at hx
      obtain ⟨y, hy, rfl⟩ := List.mem_map.1 hx
      have := hall y hy
      show V5.W.nd y.1 0 = _
      rw [hW5, key, if_neg (fun e => this.1 e.1), if_neg (fun e => this.2 e.1)]
    ·intro x hx
     have hx' : x ∈ R := by
      rw [a2]
      rcases List.mem_append.1 hx with hx | hx
      ·exact List.mem_append_left _ hx
      ·rcases List.mem_cons.1 hx with rfl | hx
       ·simp
       ·exact List.mem_append_right _ (List.mem_cons_of_mem _ (List.mem_cons_of_mem _ hx))
     rw [hW5, key, key, if_neg (by omega), if_neg (by omega), if_neg (by omega), if_neg (by omega)]
     exact hc.od x hx'
    ·rw [show X ++ q :: c :: Y = (X ++ [q]) ++ c :: Y by simp] at hup
     rw [show X ++ q :: Y = (X ++ [q]) ++ Y by simp]
     have h3 := List.pairwise_append.1 hup
     exact List.pairwise_append.2 ⟨h3.1, (List.pairwise_cons.1 h3.2.1).2, fun x hx y hy => h3.2.2 x hx y (List.mem_cons_of_mem _ hy)⟩
   refine ⟨L ++ ([⟨hdR Y, true⟩] ++ ([⟨c.1, true⟩] ++ (L4 ++ L5))), V5, s5, X ++ q :: Y, okO s1.made, a1.app (cm.app (cd.app (b1.app d1))), ⟨⟨F5, hc5⟩, ?_, d10⟩, ?_, ?_, ⟨?_, ?_⟩, .inr ⟨rfl, .inl ⟨c, hcR, ho, .inr (.inr ⟨rfl, ?_, rfl, rfl⟩)⟩⟩, fun h => by omega⟩
   ·intro i h0 h2
    rw [d6]
    exact b3.zero b4 i h0 h2
   ·rw [hW5, e3.2.2.2, a6.W]
   ·simp only [List.length_append, List.length_cons, List.length_nil]; omega
   ·show (0 : Int) ≤ (s1.made : Int); omega
   ·show (s1.made : Int) < _; simp only [List.length_append, List.length_cons, List.length_nil]; omega
   ·rw [a2, show X ++ q :: c :: Y = (X ++ [q]) ++ c :: Y by simp, show X ++ q :: Y = (X ++ [q]) ++ Y by simp]
    exact List.perm_middle
  ·exact no (fun x hx => by injection hx with hx; exact hx ▸ ho) (by show (if c.2.1 = o then _ else _) = _; rw [if_neg ho]; rfl)
theorem op_al (hN : N ≤ 5) (hB : B0 ≤ 80000) {op : OpT} (hk : op.kind = 1 ∨ op.kind = 2 ∨ op.kind = 3) {V : Vw} {g : List (Int × Int)} {d : vC} (hh : h = .nd d.1 0) (hI : Idle N B0 V R g) (hd : d ∈ R) (hdo : d.2.1 < op.a) (ho63 : op.a < 9223372036854775808) (hv63 : op.b < 9223372036854775808) :
  ∃ L V' s' R' out n, OpRF l N h B0 op.kind op.a op.b V R (jC7 h op g) L V' s' R' out n := by
 unfold jC7 fkOf
 rcases hk with e | e | e
 ·rw [e, if_pos rfl]
  obtain ⟨L, V', s', out, h1⟩ := get_al (l := l) (v := op.b) hN hB hh hI hd hdo
  exact ⟨L, V', s', R, out, 0, h1⟩
 ·rw [e, if_neg (by omega), if_pos rfl]
  exact put_al hN hB hh hI hd hdo ho63 hv63
 ·rw [e, if_neg (by omega), if_neg (by omega)]
  obtain ⟨L, V', s', R', out, h1⟩ := del_al (l := l) (v := op.b) hN hB hh hI hd hdo
  exact ⟨L, V', s', R', out, 0, h1⟩
end
/-! ### Bits -/
def horB : List Int → Int
 | [] => 0
 | b :: bs => b + 2 * horB bs
theorem horB_bit : ∀ (bs : List Int) (i : Nat), (∀ b ∈ bs, b = 0 ∨ b = 1) → horB bs / 2 ^ i % 2 = bs.getD i 0
 | [], i, _ => by simp [horB]
 | b :: bs, 0, h => by
  have := h b (by simp)
  simp only [horB, Int.pow_zero, Int.ediv_one, List.getD_cons_zero]
  omega
 | b :: bs, i + 1, h => by
  have h1 := h b (by simp)
  have h2 := horB_bit bs i fun x hx => h x (by simp [hx])
  rw [List.getD_cons_succ, ← h2, horB, show (2 : Int) ^ (i + 1) = 2 * 2 ^ i by rw [Int.pow_succ]; omega, ← Int.ediv_ediv_of_nonneg (show (0 : Int) ≤ 2 by omega), show (b + 2 * horB bs) / 2 = horB bs by omega]
theorem horB_of : ∀ (n : Nat) (k : Int), 0 ≤ k → k < 2 ^ n → ∃ bs : List Int, bs.length = n ∧ (∀ b ∈ bs, b = 0 ∨ b = 1) ∧ k = horB bs
 | 0, k, h0, h1 => ⟨[], rfl, by simp, by simp at h1; simp [horB]; omega⟩
 | n + 1, k, h0, h1 => by
  rw [Int.pow_succ] at h1
  obtain ⟨bs, e1, e2, e3⟩ := horB_of n (k / 2) (by omega) (by omega)
  refine ⟨k % 2 :: bs, by simp [e1], fun b hb => ?_, ?_⟩
  ·rcases List.mem_cons.1 hb with rfl | hb
   ·omega
   ·exact e2 b hb
  ·simp only [horB]; omega
theorem kB8 (b0 b1 b2 b3 b4 b5 b6 b7 b8 b9 b10 b11 b12 b13 b14 b15 : Int) (h : ∀ b ∈ [b0, b1, b2, b3, b4, b5, b6, b7, b8, b9, b10, b11, b12, b13, b14, b15], b = 0 ∨ b = 1) :
  wJ (horB [b0, b1, b2, b3, b4, b5, b6, b7, b8, b9, b10, b11, b12, b13, b14, b15]) = horB [b15, b14, b13, b12, b11, b10, b9, b8, b7, b6, b5, b4, b3, b2, b1, b0] := by
 unfold wJ
 have hb := fun i : Nat => horB_bit _ i h
 simp only [List.range, List.range.loop, List.map_cons, List.map_nil, List.sum_cons, List.sum_nil, hb]
 simp only [List.getD_cons_zero, List.getD_cons_succ, Nat.sub_zero, Nat.reduceSub, Int.reducePow, horB]
 omega
theorem bits16 {k : Int} (h0 : 0 ≤ k) (h1 : k < 65536) : ∃ b0 b1 b2 b3 b4 b5 b6 b7 b8 b9 b10 b11 b12 b13 b14 b15 : Int, (∀ b ∈ [b0, b1, b2, b3, b4, b5, b6, b7, b8, b9, b10, b11, b12, b13, b14, b15], b = 0 ∨ b = 1) ∧ k = horB [b0, b1, b2, b3, b4, b5, b6, b7, b8, b9, b10, b11, b12, b13, b14, b15] := by
 obtain ⟨bs, e1, e2, e3⟩ := horB_of 16 k h0 (by simpa using h1)
 match bs, e1 with
 | [b0, b1, b2, b3, b4, b5, b6, b7, b8, b9, b10, b11, b12, b13, b14, b15], _ => exact ⟨b0, b1, b2, b3, b4, b5, b6, b7, b8, b9, b10, b11, b12, b13, b14, b15, e2, e3⟩
theorem rev_rev {k : Int} (h0 : 0 ≤ k) (h1 : k < 65536) : wJ (wJ k) = k := by
 obtain ⟨b0, b1, b2, b3, b4, b5, b6, b7, b8, b9, b10, b11, b12, b13, b14, b15, hb, e⟩ := bits16 h0 h1
 rw [e, kB8 _ _ _ _ _ _ _ _ _ _ _ _ _ _ _ _ hb, kB8]
 intro b hm
 exact hb b (List.mem_reverse.1 (show b ∈ [b0, b1, b2, b3, b4, b5, b6, b7, b8, b9, b10, b11, b12, b13, b14, b15].reverse from hm))
theorem rev_in {k : Int} (h0 : 0 ≤ k) (h1 : k < 65536) : 0 ≤ wJ k ∧ wJ k < 65536 ∧ (k % 2 = 1 → 32768 ≤ wJ k) := by
 obtain ⟨b0, b1, b2, b3, b4, b5, b6, b7, b8, b9, b10, b11, b12, b13, b14, b15, hb, e⟩ := bits16 h0 h1
 rw [e, kB8 _ _ _ _ _ _ _ _ _ _ _ _ _ _ _ _ hb]
 have hb' := fun b hm => hb b hm
 simp only [List.mem_cons, List.not_mem_nil, or_false, forall_eq_or_imp, forall_eq] at hb'
 obtain ⟨h0, h1, h2, h3, h4, h5, h6, h7, h8, h9, h10, h11, h12, h13, h14, h15⟩ := hb'
 have p : ∀ x : Int, x = 0 ∨ x = 1 → 0 ≤ x ∧ x ≤ 1 := fun x h => by omega
 replace h0 := p _ h0; replace h1 := p _ h1; replace h2 := p _ h2; replace h3 := p _ h3
 replace h4 := p _ h4; replace h5 := p _ h5; replace h6 := p _ h6; replace h7 := p _ h7
 replace h8 := p _ h8; replace h9 := p _ h9; replace h10 := p _ h10; replace h11 := p _ h11
 replace h12 := p _ h12; replace h13 := p _ h13; replace h14 := p _ h14; replace h15 := p _ h15
 simp only [horB]
 omega
theorem jY8 {k : Int} (h0 : 0 ≤ k) (h1 : k < 65536) : keyW (uF k) = k := by
 have h2 := rev_in h0 h1
 unfold keyW uF
 rw [show (2 * wJ k + 1) % 131072 / 2 = wJ k by omega]
 exact rev_rev h0 h1
/-! ### From end to end -/
inductive Hk where
 | ak (a : Ak) | ad (c v : Int)
def Hk.acc (l : jN) : Hk → AccT
 | .ak a => a.acc l
 | .ad c v => ⟨4, c, 0, v⟩
def hact (V : Vw) : Hk → Vw × jS
 | .ak a => act V a
 | .ad c v => (V.put (.ob c) (w64 (V.W.ob c + v)), ⟨V.W.ob c, true⟩)
def jT3 (l : jN) (N : Nat) (V : Vw) : Hk → Prop
 | .ak a => Safe l N V a
 | .ad c _ => (Ad.ob c).ok l 1 N ∧ (1 ≤ V.er ∧ V.er ≤ 100000)
def jF5 : Vw → List Hk → List jS
 | _, [] => []
 | V, a :: A => (hact V a).2 :: jF5 (hact V a).1 A
def jN1 : Vw → List Hk → Vw
 | V, [] => V
 | V, a :: A => jN1 (hact V a).1 A
def SafeL (l : jN) (N : Nat) : Vw → List Hk → Prop
 | _, [] => True
 | V, a :: A => jT3 l N V a ∧ SafeL l N (hact V a).1 A
theorem jI2 : ∀ (A : List Hk) (V : Vw), (jF5 V A).length = A.length
 | [], _ => rfl
 | _ :: A, V => by simp [jF5, jI2 A]
theorem kI6 : ∀ (A A2 : List Hk) (V : Vw), jF5 V (A ++ A2) = jF5 V A ++ jF5 (jN1 V A) A2
 | [], _, _ => rfl
 | a :: A, A2, V => by simp [jF5, jN1, kI6 A]
theorem endV_app : ∀ (A A2 : List Hk) (V : Vw), jN1 V (A ++ A2) = jN1 (jN1 V A) A2
 | [], _, _ => rfl
 | a :: A, A2, V => by simp [jN1, endV_app A]
theorem SafeL.app {l : jN} {N : Nat} : ∀ {A A2 : List Hk} {V : Vw}, SafeL l N V A → SafeL l N (jN1 V A) A2 → SafeL l N V (A ++ A2)
 | [], _, _, _, h => h
 | _ :: A, _, _, h1, h2 => ⟨h1.1, SafeL.app (A := A) h1.2 h2⟩
structure Ev {α : Type} (l : jN) (N : Nat) (m : Pm α) (s : PsT) (V : Vw) (A : List Hk) (V' : Vw) (x : α) (s' : PsT) : Prop where
 sf : SafeL l N V A
 ed : jN1 V A = V'
 md : s'.made = s.made + A.length
 ok : ∀ P rest : List jS, P.length = s.made → m (P ++ (jF5 V A ++ rest)) s = .ok (x, s')
 er : ∀ (P : List jS) (j : Nat) (a : Hk), P.length = s.made → A[j]? = some a → m (P ++ (jF5 V A).take j) s = .error (a.acc l)
section
variable {α β : Type} {l : jN} {N : Nat}
theorem Ev.pure {x : α} {s : PsT} {V : Vw} : Ev l N (.pure x) s V [] V x s := ⟨trivial, rfl, rfl, fun _ _ _ => rfl, fun _ _ _ _ h => by simp at h⟩
theorem Ev.bind {m : Pm α} {f : α → Pm β} {s s1 s2 : PsT} {V V1 V2 : Vw} {A A2 : List Hk} {x : α} {y : β} (h1 : Ev l N m s V A V1 x s1) (h2 : Ev l N (f x) s1 V1 A2 V2 y s2) : Ev l N (m.bind f) s V (A ++ A2) V2 y s2 := by
 obtain ⟨a1, rfl, a3, a4, a5⟩ := h1
 refine ⟨a1.app h2.sf, by rw [endV_app]; exact h2.ed, by rw [h2.md, a3, List.length_append]; omega, fun P rest hP => ?_, fun P j a hP hj => ?_⟩
 ·rw [kI6, List.append_assoc, jH (a4 P _ hP), ← List.append_assoc]
  exact h2.ok _ rest (by rw [List.length_append, jI2, hP, a3])
 ·rw [kI6]
  by_cases hlt : j < A.length
  ·rw [List.getElem?_append_left hlt] at hj
   rw [List.take_append_of_le_length (by rw [jI2]; omega)]
   exact jI (a5 P j a hP hj)
  ·rw [List.getElem?_append_right (by omega)] at hj
   rw [List.take_append, List.take_of_length_le (l := jF5 V A) (by rw [jI2]; omega), jI2, jH (a4 P _ hP), ← List.append_assoc]
   exact h2.er _ (j - A.length) a (by rw [List.length_append, jI2, hP, a3]) hj
theorem Ev.do {a : Hk} {c : AccT} {s : PsT} {V : Vw} (hs : jT3 l N V a) (hc : a.acc l = c) : Ev l N (doM c) s V [a] (hact V a).1 (hact V a).2 s.up := by
 refine ⟨⟨hs, trivial⟩, rfl, rfl, fun P rest hP => ?_, fun P j b hP hj => ?_⟩
 ·unfold doM
  rw [List.getElem?_append_right (by omega), show s.made - P.length = 0 by omega]
  rfl
 ·have : j = 0 ∧ b = a := by
   cases j with
   | zero => simpa using hj.symm
   | succ j => simp at hj
  obtain ⟨rfl, rfl⟩ := this
  unfold doM
  rw [List.take_zero, List.append_nil, List.getElem?_eq_none (by omega), ← hc]
theorem Ev.step {a : Hk} {c : AccT} {s s' : PsT} {V V1 V' : Vw} {r : jS} {A : List Hk} {f : jS → Pm α} {x : α} (hs : jT3 l N V a) (hc : a.acc l = c) (he : hact V a = (V1, r)) (h : Ev l N (f r) s.up V1 A V' x s') : Ev l N ((doM c).bind f) s V (a :: A) V' x s' := by
 have h1 := Ev.do (s := s) hs hc
 rw [he] at h1
 exact Ev.bind h1 h
theorem al_tr {h : Ad} : ∀ {L : List jS} {V V' : Vw} {q q' : Q Lk}, Al l N h L V q V' q' → ∃ A : List Hk, A.length = L.length ∧ SafeL l N V A ∧ jF5 V A = L ∧ jN1 V A = V' ∧ ∀ j a, A[j]? = some a → (jK2 (kE h) 1 q (L.take j)).pc.asking ∧ a = .ak (asks (kE h) 0 (jK2 (kE h) 1 q (L.take j)).pc)
 | [], _, _, _, _, h1 => ⟨[], rfl, trivial, rfl, h1.1, fun j a h => by simp at h⟩
 | r :: L, V, V', q, q', ⟨h1, h2, h3, h4⟩ => by
  obtain ⟨A, a1, a2, a3, a4, a5⟩ := al_tr h4
  refine ⟨.ak (asks (kE h) 0 q.pc) :: A, by simp [a1], ⟨h2, a2⟩, by simp only [jF5]; rw [show (hact V (.ak (asks (kE h) 0 q.pc))).2 = r from h3]; congr 1, a4, fun j a hj => ?_⟩
  cases j with
  | zero =>
   simp only [List.getElem?_cons_zero, Option.some.injEq] at hj
   exact ⟨h1, hj.symm⟩
  | succ j => exact a5 j a (by simpa using hj)
theorem firstN_at {f : Nat → Bool} {k : Nat} : ∀ (n i : Nat), i ≤ k → k ≤ i + n → (∀ j, i ≤ j → j < k → f j = false) → f k = true → xH f n i = k
 | 0, i, h1, h2, _, _ => by simp [xH]; omega
 | n + 1, i, h1, h2, h3, h4 => by
  rw [xH]
  by_cases hi : i = k
  ·rw [hi, if_pos h4]
  ·rw [if_neg (by rw [h3 i (Nat.le_refl _) (by omega)]; simp)]
   exact firstN_at n (i + 1) (by omega) (by omega) (fun j h5 h6 => h3 j (by omega) h6) h4
theorem endQ_ask {κ : Type} {M : Mach κ} {w : Int} {q : Q κ} (h : q.pc.asking) : endQ M l w q = ((asks M w q.pc).acc l, jG7, false) := by
 unfold endQ
 split
 ·rename_i o ho
  rw [ho] at h
  exact absurd h id
 ·rfl
theorem runQ_app {κ : Type} {M : Mach κ} {S : Nat} {q : Q κ} {L1 L2 : List jS} : jK2 M S q (L1 ++ L2) = jK2 M S (jK2 M S q L1) L2 := List.foldl_append
theorem listM_ev {d kind o v B0 : Int} {V V' : Vw} {R R' : List vC} {L : List jS} {s s1 : PsT} {out : kY} {n : Int} (hS : l.seats = ((1 : Nat) : Int)) (hnd : 0 ≤ jQ l d 0 ∧ jQ l d 0 < l.size) (hk : kind = 1 ∨ kind = 2 ∨ kind = 3)
  (hR : OpRF l N (.nd d 0) B0 kind o v V R (jC7 (.nd d 0) ⟨kind, jQ l d 0, o, v⟩ s.gone) L V' s1 R' out n) :
  ∃ A, A.length = L.length ∧ Ev l N (jC2 l 0 kind d o v) s V A V' ({ out with point := out.point + s.made, gone := s1.gone }, (asks (kE (.nd d 0)) 0 (jK2 (kE (.nd d 0)) 1 (jC7 (.nd d 0) ⟨kind, jQ l d 0, o, v⟩ s.gone) (L.take out.point.toNat)).pc).acc l) { s with made := s.made + L.length, gone := s1.gone } := by
 obtain ⟨A, a1, a2, a3, a4, a5⟩ := al_tr hR.al
 have hfin := hR.al.run
 generalize hq : jC7 (.nd d 0) ⟨kind, jQ l d 0, o, v⟩ s.gone = q at a5 hfin
 have hbe : ∀ W : List jS, qX l 0 s.gone kind d o v W = endQ (kE (.nd d 0)) l 0 (jK2 (kE (.nd d 0)) 1 q W) := by
  intro W
  unfold qX
  simp only
  rw [if_neg (show ¬ jQ l d 0 < 0 by omega), if_neg (fun h => by have := h.2.1; omega), jX7 (S := 1) (h := .nd d 0) hS rfl (by simp only; omega) hk, hq]
 have hask : ∀ j, j < L.length → qX l 0 s.gone kind d o v (L.take j) = ((asks (kE (.nd d 0)) 0 (jK2 (kE (.nd d 0)) 1 q (L.take j)).pc).acc l, jG7, false) := fun j hj => by
  have := (a5 j _ (List.getElem?_eq_getElem (by omega : j < A.length))).1
  rw [hbe, endQ_ask this]
 refine ⟨A, a1, a2, a4, by simp [a1], fun P rest hP => ?_, fun P j a hP hj => ?_⟩
 ·rw [a3]
  unfold jC2
  simp only
  rw [List.drop_append, List.drop_eq_nil_of_le (by omega), List.nil_append, show s.made - P.length = 0 by omega, List.drop_zero]
  have hdone : ∀ W : List jS, qX l 0 s.gone kind d o v (L ++ W) = (xZ, { out with gone := s1.gone }, true) := fun W => by
   rw [hbe, runQ_app, hfin, kI8]; rfl
  rw [hdone rest, if_neg (by simp)]
  have hpt := hR.pt
  rw [if_neg (by simp only; omega)]
  have hfn : xH (fun k => (qX l 0 s.gone kind d o v ((L ++ rest).take k)).2.2) ((L ++ rest).length - (out.point.toNat + 1)) (out.point.toNat + 1) = L.length := by
   refine firstN_at _ _ (by omega) (by rw [List.length_append]; omega) (fun j h1 h2 => ?_) ?_
   ·show (qX l 0 s.gone kind d o v ((L ++ rest).take j)).2.2 = false
    rw [List.take_append_of_le_length (by omega), hask j h2]
   ·show (qX l 0 s.gone kind d o v ((L ++ rest).take L.length)).2.2 = true
    rw [List.take_left, ← List.append_nil L, hdone]
  simp only
  rw [hfn, List.take_append_of_le_length (by omega), hask _ (by omega)]
 ·have hjl : j < A.length := by
   rcases Nat.lt_or_ge j A.length with h | h
   ·exact h
   ·rw [List.getElem?_eq_none h] at hj; cases hj
  rw [a3]
  unfold jC2
  simp only
  rw [List.drop_append, List.drop_eq_nil_of_le (by omega), List.nil_append, show s.made - P.length = 0 by omega, List.drop_zero, hask j (by omega), if_pos rfl, (a5 j a hj).2]
  rfl
end
def lF : jN := kT 1 5 2
theorem jR1 {n i : Int} (h1 : 1 ≤ n ∧ n ≤ 5) (h2 : 0 ≤ i ∧ i ≤ 7) : jQ lF n i = 24 + 8 * (n - 1) + i := by
 unfold jQ
 rw [if_neg (by omega)]
 show yD 24 5 8 (n - 1) i = _
 rw [within_in (by omega) (by omega) (by omega) (by omega)]
 omega
def ent (R : List vC) : List (Int × Int) := (R.filter fun x => decide (x.2.1 % 2 = 1)).map fun x => (keyW x.2.1, x.2.2)
theorem kI9 {R R' : List vC} (h : R.Perm R') : (ent R).Perm (ent R') := (h.filter _).map _
theorem jX1 (x : vC) (R : List vC) : ent (x :: R) = if x.2.1 % 2 = 1 then (keyW x.2.1, x.2.2) :: ent R else ent R := by
 unfold ent
 rw [List.filter_cons]
 by_cases h : x.2.1 % 2 = 1
 ·rw [if_pos (by simpa using h), if_pos h]; rfl
 ·rw [if_neg (by simpa using h), if_neg h]
def OrdOk (o : Int) : Prop := o = 0 ∨ o = 65536 ∨ ∃ k, 0 ≤ k ∧ k < 65536 ∧ o = uF k
structure HI (B : Int) (V : Vw) (R : List vC) (g : List (Int × Int)) : Prop where
 id : Idle 5 B V R g
 sz : V.W.ob 20 = 1 ∨ V.W.ob 20 = 2
 b0 : V.W.ob 22 = 1
 d0 : (1, 0, 0) ∈ R
 b1 : (V.W.ob 23 = 0 ∧ ∀ x ∈ R, x.2.1 ≠ 65536) ∨ ∃ n, (1 ≤ n ∧ n ≤ 5) ∧ V.W.ob 23 = n ∧ (n, 65536, 0) ∈ R
 od : ∀ x ∈ R, OrdOk x.2.1
theorem Idle.ob {N : Nat} {B : Int} {V : Vw} {R : List vC} {g : List (Int × Int)} (h : Idle N B V R g) (c v : Int) : Idle N B (V.put (.ob c) v) R g := by
 obtain ⟨F, hc⟩ := h.cl
 exact ⟨⟨F, ⟨hc.ln, hc.od, hc.up, hc.nd, hc.rg, ⟨hc.fr.fr, hc.fr.k, hc.fr.lf, hc.fr.nd, hc.fr.rg⟩, hc.er, hc.bd⟩⟩, h.rv, h.gl⟩
theorem Idle.more {N : Nat} {B B' : Int} {V : Vw} {R : List vC} {g : List (Int × Int)} (h : Idle N B V R g) (hb : B ≤ B') : Idle N B' V R g := by
 obtain ⟨F, hc⟩ := h.cl
 exact ⟨⟨F, hc.more hb⟩, h.rv, h.gl⟩
theorem HI.more {B B' : Int} {V : Vw} {R : List vC} {g : List (Int × Int)} (h : HI B V R g) (hb : B ≤ B') : HI B' V R g := ⟨h.id.more hb, h.sz, h.b0, h.d0, h.b1, h.od⟩
theorem HI.sf {B : Int} {V : Vw} {R : List vC} {g : List (Int × Int)} (h : HI B V R g) (hB : B ≤ 90000) {a : Ak} {c : Int} (ha : a.ad = .ob c) (hc : 9 ≤ c ∧ c < 24) (hw : a.wr < 9223372036854775808) : jT3 lF 5 V (.ak a) := by
 obtain ⟨F, hcl⟩ := h.id.cl
 refine uJ hcl.fr (hcl.ers hB) ?_ hw fun n i => by rw [ha]; exact ⟨fun e => (by cases e), fun e => (by cases e)⟩
 rw [ha]
 exact hc
theorem HI.put21 {B : Int} {V : Vw} {R : List vC} {g : List (Int × Int)} (h : HI B V R g) (v : Int) : HI B (V.put (.ob 21) v) R g := ⟨h.id.ob _ _, h.sz, h.b0, h.d0, h.b1, h.od⟩
theorem HI.put20 {B : Int} {V : Vw} {R : List vC} {g : List (Int × Int)} (h : HI B V R g) : HI B (V.put (.ob 20) 2) R g := ⟨h.id.ob _ _, .inr rfl, h.b0, h.d0, h.b1, h.od⟩
theorem list_ev {B : Int} {V : Vw} {R : List vC} {s : PsT} {d : vC} {kind o v : Int} (hB : B ≤ 80000) (h : HI B V R s.gone) (hd : d ∈ R) (hdo : d.2.1 < o) (hk : kind = 1 ∨ kind = 2 ∨ kind = 3) (ho : OrdOk o) (ho0 : o ≠ 0) (hv : v < 9223372036854775808) (hdum : o = 65536 → kind = 2 ∧ v = 0) :
  ∃ A V' R' out acc s' n, Ev lF 5 (jC2 lF 0 kind d.1 o v) s V A V' (out, acc) s' ∧ Idle 5 (B + 10) V' R' s'.gone ∧ V'.W.ob = V.W.ob ∧ (1, 0, 0) ∈ R' ∧ (∀ x ∈ R', OrdOk x.2.1) ∧ (∀ m, (m, 65536, 0) ∈ R → (m, 65536, 0) ∈ R') ∧ (o ≠ 65536 → (∀ x ∈ R, x.2.1 ≠ 65536) → ∀ x ∈ R', x.2.1 ≠ 65536) ∧ 1 ≤ A.length ∧ A.length ≤ 58 ∧ s.made ≤ out.point ∧ out.point < s'.made ∧ EffR kind o v R R' out n ∧ (kind = 2 → out.is = true → (1 ≤ n ∧ n ≤ 5) ∧ acc.new = n) := by
 have hu := h.od
 have ob : ∀ k : Int, 0 ≤ k → k < 65536 → 0 < uF k ∧ uF k < 131072 ∧ uF k % 2 = 1 := fun k h0 h1 => by
  have := rev_in h0 h1
  unfold uF
  omega
 have ho63 : o < 9223372036854775808 := by
  rcases ho with rfl | rfl | ⟨k, h0, h1, rfl⟩
  ·omega
  ·omega
  ·have := ob k h0 h1; omega
 obtain ⟨L, V', s1, R', out, n, hR⟩ := op_al (l := lF) (N := 5) (h := .nd d.1 0) (op := ⟨kind, jQ lF d.1 0, o, v⟩) (by omega) hB hk rfl h.id hd hdo ho63 hv
 obtain ⟨F, hcl⟩ := h.id.cl
 have hdm := (hcl.mem hd).1
 have hnd := jR1 (n := d.1) (i := 0) hdm (by omega)
 obtain ⟨A, a1, a2⟩ := listM_ev (s := s) rfl (by rw [hnd]; show _ ∧ _ < (64 : Int); omega) hk hR
 have hpt := hR.pt
 have hno : ∀ x ∈ R, x.2.1 = o → x ≠ (1, 0, 0) := fun x _ h1 e => by rw [e] at h1; exact ho0 h1.symm
 have hmem : (∀ x ∈ R', x ∈ R ∨ (kind = 2 ∧ x = (n, o, v))) ∧ (∀ x ∈ R, x.2.1 ≠ o ∨ kind ≠ 3 → x ∈ R') := by
  rcases hR.eff with ⟨_, _, e, _⟩ | ⟨_, ⟨x, hx, hxo, ⟨_, e, _⟩ | ⟨_, e, _⟩ | ⟨h3, hp, _⟩⟩ | ⟨_, ⟨_, e, _⟩ | ⟨h2, hp, _⟩⟩⟩
  ·rw [e]; exact ⟨fun x hx => .inl hx, fun x hx _ => hx⟩
  ·rw [e]; exact ⟨fun x hx => .inl hx, fun x hx _ => hx⟩
  ·rw [e]; exact ⟨fun x hx => .inl hx, fun x hx _ => hx⟩
  ·refine ⟨fun y hy => .inl (hp.mem_iff.2 (List.mem_cons_of_mem _ hy)), fun y hy hor => ?_⟩
   rcases List.mem_cons.1 (hp.mem_iff.1 hy) with rfl | hy
   ·rcases hor with h4 | h4
    ·exact absurd hxo h4
    ·exact absurd h3 h4
   ·exact hy
  ·rw [e]; exact ⟨fun x hx => .inl hx, fun x hx _ => hx⟩
  ·refine ⟨fun y hy => ?_, fun y hy _ => hp.mem_iff.2 (List.mem_cons_of_mem _ hy)⟩
   rcases List.mem_cons.1 (hp.mem_iff.1 hy) with rfl | hy
   ·exact .inr ⟨h2, rfl⟩
   ·exact .inl hy
 refine ⟨A, V', R', _, _, _, n, a2, hR.idle, hR.ob, hmem.2 _ h.d0 (.inl fun e => ho0 e.symm), fun x hx => ?_, fun m hm => hmem.2 _ hm ?_, fun hne hnot x hx => ?_, by rw [a1]; omega, by rw [a1]; exact hR.len, by show (s.made : Int) ≤ out.point + s.made; omega, by show out.point + s.made < ((s.made + L.length : Nat) : Int); omega, ?_, fun h2 h3 => ?_⟩
 ·rcases hmem.1 x hx with hx | ⟨_, rfl⟩
  ·exact hu x hx
  ·exact ho
 ·by_cases he : o = 65536
  ·exact .inr (by have := (hdum he).1; omega)
  ·exact .inl fun e => he e.symm
 ·rcases hmem.1 x hx with hx | ⟨_, rfl⟩
  ·exact hnot x hx
  ·exact hne
 ·exact hR.eff
 ·obtain ⟨h4, a, x, h5⟩ := hR.node h2 h3
  refine ⟨h4, ?_⟩
  rw [h5]
  exact xS (by omega) (by omega)
theorem HI.odd {B : Int} {V : Vw} {R : List vC} {g : List (Int × Int)} (h : HI B V R g) {k v : Int} (h0 : 0 ≤ k) (h1 : k < 65536) : (k, v) ∈ ent R ↔ ∃ x ∈ R, x.2.1 = uF k ∧ x.2.2 = v := by
 unfold ent
 rw [List.mem_map]
 constructor
 ·rintro ⟨x, hx, e⟩
  obtain ⟨hx, ho⟩ := List.mem_filter.1 hx
  injection e with e1 e2
  refine ⟨x, hx, ?_, e2⟩
  have ho : x.2.1 % 2 = 1 := by simpa using ho
  rcases h.od x hx with e | e | ⟨k', h2, h3, e⟩
  ·omega
  ·omega
  ·rw [e, jY8 h2 h3] at e1
   rw [e, e1]
 ·rintro ⟨x, hx, e1, e2⟩
  exact ⟨x, List.mem_filter.2 ⟨hx, by rw [e1]; have := rev_in h0 h1; unfold uF; exact decide_eq_true (by omega)⟩, by rw [e1, jY8 h0 h1, e2]⟩
theorem come_ev {B : Int} {V : Vw} {R : List vC} {s : PsT} {b : Int} (hB : B ≤ 80000) (h : HI B V R s.gone) (hb : b = 0 ∨ b = 1) (k : Nat) :
  ∃ A V' R' x s', Ev lF 5 (vQ lF 0 0 (k + 2) b) s V A V' x s' ∧ HI (B + 10) V' R' s'.gone ∧ V'.W.ob 20 = V.W.ob 20 ∧ (ent R').Perm (ent R) ∧ 1 ≤ A.length ∧ A.length ≤ 61 ∧ ((x.2.err = 0 ∧ ∃ d ∈ R', d.1 = x.1 ∧ d.2.1 = 65536 * b) ∨ x.2.err = 8) := by
 have h22 : jT3 lF 5 V (.ak (.ld (.ob 22))) := h.sf (by omega) rfl (by omega) (by show (0 : Int) < _; omega)
 have h23 : jT3 lF 5 V (.ak (.ld (.ob 23))) := h.sf (by omega) rfl (by omega) (by show (0 : Int) < _; omega)
 have zero : ∀ k' : Nat, Ev lF 5 (vQ lF 0 0 (k' + 1) 0) s V [.ak (.ld (.ob 22))] V (1, jG7) s.up := fun k' => by
  rw [vQ]
  refine Ev.step (r := ⟨1, true⟩) (V1 := V) h22 rfl (by show (V, (⟨V.W.ob 22, true⟩ : jS)) = _; rw [h.b0]) ?_
  rw [if_pos (by decide)]
  exact Ev.pure
 rcases hb with rfl | rfl
 ·refine ⟨_, V, R, _, s.up, zero (k + 1), h.more (by omega), rfl, .refl _, by simp, by simp, .inl ⟨rfl, (1, 0, 0), h.d0, rfl, rfl⟩⟩
 ·rcases h.b1 with ⟨hz, hnot⟩ | ⟨n, hn, hz, hR⟩
  ·have hB' : HI B V R s.up.gone := h
   have h2 : HI B V R s.up.up.gone := h
   obtain ⟨A, V', R', out, acc, s', n, a1, a2, a3, a4, a5, a6, a7, a8, a9, a10, a11, a12, a13⟩ := list_ev (s := s.up.up) (d := (1, 0, 0)) (kind := 2) (o := 65536) (v := 0) hB h2 h.d0 (by show (0 : Int) < _; omega) (.inr (.inl rfl)) (.inr (.inl rfl)) (by omega) (by omega) fun _ => ⟨rfl, rfl⟩
   have zero1 : Ev lF 5 (vQ lF 0 0 (k + 1) (yI 1)) s.up V [.ak (.ld (.ob 22))] V (1, jG7) s.up.up := by
    rw [show yI 1 = 0 by decide, vQ]
    refine Ev.step (r := ⟨1, true⟩) (V1 := V) h22 rfl (by show (V, (⟨V.W.ob 22, true⟩ : jS)) = _; rw [h.b0]) ?_
    rw [if_pos (by decide)]
    exact Ev.pure
   have first : ∀ {A2 : List Hk} {V2 : Vw} {x2 : Int × kY} {s2 : PsT}, Ev lF 5 ((jC2 lF 0 2 1 65536 0).bind fun o => if o.1.err ≠ 0 then .pure (0, o.1) else (kD1 o).bind fun n => (doM ⟨3, 23, 0, vK ⟨n, false, 0⟩⟩).bind fun _ => .pure (n, jG7)) s.up.up V A2 V2 x2 s2 → Ev lF 5 (vQ lF 0 0 (k + 2) 1) s V (.ak (.ld (.ob 23)) :: (.ak (.ld (.ob 22)) :: A2)) V2 x2 s2 := fun hh => by
    rw [vQ]
    refine Ev.step (r := ⟨0, true⟩) (V1 := V) h23 rfl (by show (V, (⟨V.W.ob 23, true⟩ : jS)) = _; rw [hz]) ?_
    rw [if_neg (by decide), if_neg (by omega)]
    refine Ev.bind (A := [.ak (.ld (.ob 22))]) zero1 ?_
    rw [if_neg (by simp [jG7])]
    exact hh
   have ob20 : V'.W.ob 20 = V.W.ob 20 := by rw [a3]
   rcases a12 with ⟨_, he, hRR, _⟩ | ⟨he, ⟨x, hx, hxo, _⟩ | ⟨_, ⟨hk, _⟩ | ⟨_, hp, _, his⟩⟩⟩
   ·subst hRR
    refine ⟨_, V', R', (0, out), s', first (A2 := A ++ []) (Ev.bind a1 ?_), ⟨a2, by rw [a3]; exact h.sz, by rw [a3]; exact h.b0, a4, by rw [a3]; exact .inl ⟨hz, hnot⟩, a5⟩, ob20, .refl _, by simp, by simp; omega, .inr he⟩
    rw [if_pos (by rw [he]; omega)]
    exact Ev.pure
   ·exact absurd hxo (hnot x hx)
   ·exact absurd rfl hk
   ·obtain ⟨hn, hnew⟩ := a13 rfl his
    have hI : HI (B + 10) (V'.put (.ob 23) n) R' s'.gone := ⟨a2.ob _ _, by show V'.W.ob 20 = 1 ∨ V'.W.ob 20 = 2; rw [a3]; exact h.sz, by show V'.W.ob 22 = 1; rw [a3]; exact h.b0, a4, .inr ⟨n, hn, rfl, hp.mem_iff.2 (by simp)⟩, a5⟩
    obtain ⟨F', hcl'⟩ := a2.cl
    refine ⟨_, V'.put (.ob 23) n, R', (n, jG7), s'.up, first (A2 := A ++ [.ak (.cs (.ob 23) 0 n)]) (Ev.bind a1 ?_), hI, ob20, ?_, by simp, by simp; omega, .inl ⟨rfl, (n, 65536, 0), hp.mem_iff.2 (by simp), rfl, rfl⟩⟩
    ·rw [if_neg (by simpa using he)]
     have hth : ∀ log s, kD1 (out, acc) log s = .ok (n, s) := fun log s => by
      unfold kD1
      simp only
      rw [if_pos his, hnew, xO (by omega) (by omega)]
     refine Ev.bind (A := []) (V1 := V') (s1 := s') (x := n) ⟨trivial, rfl, rfl, fun P rest _ => hth _ _, fun _ _ _ _ h => by simp at h⟩ ?_
     refine Ev.step (a := .ak (.cs (.ob 23) 0 n)) (r := ⟨0, true⟩) (V1 := V'.put (.ob 23) n) ?_ ?_ ?_ Ev.pure
     ·refine uJ hcl'.fr (hcl'.ers (by omega)) ⟨by omega, by decide⟩ (by show n < _; omega) fun m i => ⟨fun e => (by cases e), fun e => (by cases e)⟩
     ·show (⟨3, 23, 0, n⟩ : AccT) = ⟨3, 23, 0, qG n⟩
      rw [xS (by omega) (by omega)]
     ·show (if V'.W.ob 23 = 0 then (_, (⟨V'.W.ob 23, true⟩ : jS)) else _) = _
      rw [a3, hz, if_pos rfl]
    ·have := kI9 hp
     rw [jX1, if_neg (by show ¬ (65536 : Int) % 2 = 1; omega)] at this
     exact this
  ·refine ⟨[.ak (.ld (.ob 23))], V, R, (n, jG7), s.up, ?_, h.more (by omega), rfl, .refl _, ?_, ?_, .inl ⟨rfl, (n, 65536, 0), hR, rfl, rfl⟩⟩
   ·rw [vQ]
    refine Ev.step (r := ⟨n, true⟩) (V1 := V) h23 rfl (by show (V, (⟨V.W.ob 23, true⟩ : jS)) = _; rw [hz]) ?_
    rw [if_pos (by simp only; rw [xO (by omega) (by omega)]; omega)]
    simp only
    rw [xO (by omega) (by omega)]
    exact Ev.pure
   ·simp
   ·simp
theorem after_ev {B : Int} {V : Vw} {R : List vC} {s : PsT} {kind : Int} (hB : B ≤ 90000) (h : HI B V R s.gone) (_hk : kind = 1 ∨ kind = 2 ∨ kind = 3) :
  ∃ A V' s', Ev lF 5 (jB5 lF 0 kind (V.W.ob 20)) s V A V' () s' ∧ HI B V' R s'.gone ∧ A.length ≤ 2 := by
 obtain ⟨F, hcl⟩ := h.id.cl
 have hs : ∀ v, jT3 lF 5 V (.ad 21 v) := fun v => ⟨⟨by omega, by decide⟩, hcl.ers hB⟩
 unfold jB5
 by_cases h2 : kind = 2
 ·rw [if_pos h2]
  by_cases hg : 2 * V.W.ob 20 ≤ V.W.ob 21 ∧ V.W.ob 20 < lF.buckets
  ·have h20 : V.W.ob 20 = 1 := by
    have h4 : V.W.ob 20 < 2 := hg.2
    have := h.sz
    omega
   refine ⟨[.ad 21 1, .ak (.cs (.ob 20) 1 2)], (V.put (.ob 21) (w64 (V.W.ob 21 + 1))).put (.ob 20) 2, s.up.up, ?_, (h.put21 _).put20, by simp⟩
   refine Ev.step (a := .ad 21 1) (hs 1) rfl rfl ?_
   rw [if_pos hg]
   refine Ev.step (a := .ak (.cs (.ob 20) 1 2)) (r := ⟨1, true⟩) ((h.put21 _).sf hB rfl (by omega) (by show (2 : Int) < _; omega)) (by rw [h20]; rfl) ?_ Ev.pure
   show (if V.W.ob 20 = 1 then (_, (⟨V.W.ob 20, true⟩ : jS)) else _) = _
   rw [h20, if_pos rfl]
  ·refine ⟨[.ad 21 1], V.put (.ob 21) (w64 (V.W.ob 21 + 1)), s.up, ?_, h.put21 _, by simp⟩
   refine Ev.step (a := .ad 21 1) (hs 1) rfl rfl ?_
   rw [if_neg hg]
   exact Ev.pure
 ·rw [if_neg h2]
  by_cases h3 : kind = 3
  ·rw [if_pos h3]
   refine ⟨[.ad 21 (-1)], V.put (.ob 21) (w64 (V.W.ob 21 + -1)), s.up, ?_, h.put21 _, by simp⟩
   exact Ev.step (a := .ad 21 (-1)) (hs _) rfl rfl Ev.pure
  ·rw [if_neg h3]
   exact ⟨[], V, s, Ev.pure, h, by simp⟩
def EffS (op : OpT) (E E' : List (Int × Int)) (out : kY) : Prop :=
 (∃ v, (op.a, v) ∈ E ∧ ((op.kind = 1 ∧ E'.Perm E ∧ out.val = v ∧ out.is = true) ∨ (op.kind = 2 ∧ E'.Perm E ∧ out.val = 0 ∧ out.is = false) ∨ (op.kind = 3 ∧ E.Perm ((op.a, v) :: E') ∧ out.val = 0 ∧ out.is = true)))
 ∨ ((∀ v, (op.a, v) ∉ E) ∧ ((op.kind ≠ 2 ∧ E'.Perm E ∧ out.val = 0 ∧ out.is = false) ∨ (op.kind = 2 ∧ E'.Perm ((op.a, op.b) :: E) ∧ out.val = 0 ∧ out.is = true)))
theorem split_ev {B : Int} {V : Vw} {R : List vC} {g : List (Int × Int)} {op : OpT} (hB : B ≤ 70000) (h : HI B V R g) (hk : op.kind = 1 ∨ op.kind = 2 ∨ op.kind = 3) (ho : op.obj = 0) (ha : 0 ≤ op.a ∧ op.a < 65536) (hb : op.b < 9223372036854775808) :
  ∃ A V' R' out s', Ev lF 5 (vO lF 0 op) ⟨0, g, 0, 0, 0⟩ V A V' out s' ∧ HI (B + 20) V' R' s'.gone ∧ 1 ≤ A.length ∧ A.length ≤ 122 ∧ ((out.err = 8 ∧ (ent R').Perm (ent R)) ∨ (out.err = 0 ∧ 0 ≤ out.point ∧ out.point < A.length ∧ EffS op (ent R) (ent R') out)) := by
 have h20 : jT3 lF 5 V (.ak (.ld (.ob 20))) := h.sf (by omega) rfl (by omega) (by show (0 : Int) < _; omega)
 have hsz : ¬ (V.W.ob 20 < 1 ∨ lF.buckets < V.W.ob 20 ∨ jT6 (V.W.ob 20) = false) := by
  rcases h.sz with e | e <;> rw [e] <;> decide
 have first : ∀ {A : List Hk} {V' : Vw} {x : kY} {s' : PsT}, Ev lF 5 ((vQ lF 0 0 64 (op.a % V.W.ob 20)).bind fun d => if d.2.err ≠ 0 then .pure d.2 else (jC2 lF 0 op.kind d.1 (uF op.a) op.b).bind fun o => if o.1.is then (jB5 lF 0 op.kind (V.W.ob 20)).bind fun _ => .pure o.1 else .pure o.1) ⟨1, g, 0, 0, 0⟩ V A V' x s' → Ev lF 5 (vO lF 0 op) ⟨0, g, 0, 0, 0⟩ V (.ak (.ld (.ob 20)) :: A) V' x s' := fun hh => by
  unfold vO
  rw [ho]
  refine Ev.step (a := .ak (.ld (.ob 20))) (r := ⟨V.W.ob 20, true⟩) (V1 := V) h20 rfl rfl ?_
  rw [if_neg hsz]
  exact hh
 have hbk : op.a % V.W.ob 20 = 0 ∨ op.a % V.W.ob 20 = 1 := by
  rcases h.sz with e | e <;> rw [e] <;> omega
 have hrv := rev_in ha.1 ha.2
 have hlt : 65536 * (op.a % V.W.ob 20) < uF op.a := by
  unfold uF
  rcases h.sz with e | e
  ·rw [e]; omega
  ·rw [e]
   by_cases ho : op.a % 2 = 1
   ·have := hrv.2.2 ho; omega
   ·omega
 obtain ⟨A1, V1, R1, x1, s1, a1, a2, a3, a4, a5, a6, a7⟩ := come_ev (s := ⟨1, g, 0, 0, 0⟩) (by omega) h hbk 62
 have m1 := a1.md
 rcases a7 with ⟨he, d, hd, hd1, hd2⟩ | he
 ·rw [← hd2] at hlt
  have hro : OrdOk (uF op.a) := .inr (.inr ⟨op.a, ha.1, ha.2, rfl⟩)
  have hr0 : uF op.a % 2 = 1 := by unfold uF; omega
  obtain ⟨A2, V2, R2, out, acc, s2, n, b1, b2, b3, b4, b5, b6, b7, b8, b9, b10, b11, b12, b13⟩ := list_ev (s := s1) (d := d) (kind := op.kind) (o := uF op.a) (v := op.b) (by omega) a2 hd hlt hk hro (by omega) hb fun e => by omega
  rw [hd1] at b1
  have m2 := b1.md
  have hHI : HI (B + 20) V2 R2 s2.gone := by
   refine ⟨b2.more (by omega), by rw [b3]; exact a2.sz, by rw [b3]; exact a2.b0, b4, ?_, b5⟩
   rw [b3]
   rcases a2.b1 with ⟨hz, hn⟩ | ⟨m, h1, h2, h3⟩
   ·exact .inl ⟨hz, b7 (by omega) hn⟩
   ·exact .inr ⟨m, h1, h2, b6 m h3⟩
  have heff : ∀ V3, HI (B + 20) V3 R2 s2.gone → ((out.err = 8 ∧ (ent R2).Perm (ent R)) ∨ (out.err = 0 ∧ EffS op (ent R) (ent R2) out)) ∧ (out.err = 8 → out.is = out.is) := fun V3 h3 => by
   refine ⟨?_, fun _ => rfl⟩
   have nothere : (∀ x ∈ R1, x.2.1 ≠ uF op.a) → ∀ v, (op.a, v) ∉ ent R := fun hn v hm => by
    obtain ⟨x, hx, e1, _⟩ := (a2.odd ha.1 ha.2).1 (a4.symm.mem_iff.1 hm)
    exact hn x hx e1
   have there : ∀ x ∈ R1, x.2.1 = uF op.a → (op.a, x.2.2) ∈ ent R := fun x hx e => a4.mem_iff.1 ((a2.odd ha.1 ha.2).2 ⟨x, hx, e, rfl⟩)
   rcases b12 with ⟨_, e8, e, _⟩ | ⟨e0, ⟨x, hx, hxo, h5⟩ | ⟨hn, h5⟩⟩
   ·rw [e]; exact .inl ⟨e8, a4⟩
   ·refine .inr ⟨e0, .inl ⟨x.2.2, there x hx hxo, ?_⟩⟩
    rcases h5 with ⟨k1, e, e1, e2⟩ | ⟨k1, e, e1, e2⟩ | ⟨k1, hp, e1, e2⟩
    ·rw [e]; exact .inl ⟨k1, a4, e1, e2⟩
    ·rw [e]; exact .inr (.inl ⟨k1, a4, e1, e2⟩)
    ·refine .inr (.inr ⟨k1, ?_, e1, e2⟩)
     have := kI9 hp
     rw [jX1, if_pos (by rw [hxo]; exact hr0), hxo, jY8 ha.1 ha.2] at this
     exact a4.symm.trans this
   ·refine .inr ⟨e0, .inr ⟨nothere hn, ?_⟩⟩
    rcases h5 with ⟨k1, e, e1, e2⟩ | ⟨k1, hp, e1, e2⟩
    ·rw [e]; exact .inl ⟨k1, a4, e1, e2⟩
    ·refine .inr ⟨k1, ?_, e1, e2⟩
     have := kI9 hp
     rw [jX1, if_pos (show uF op.a % 2 = 1 from hr0), jY8 ha.1 ha.2] at this
     exact this.trans (List.Perm.cons _ a4)
  have hres : ∀ (A3 : List Hk), (((out.err = 8 ∧ (ent R2).Perm (ent R)) ∨ (out.err = 0 ∧ 0 ≤ out.point ∧ out.point < (((.ak (.ld (.ob 20)) : Hk) :: (A1 ++ (A2 ++ A3))).length : Int) ∧ EffS op (ent R) (ent R2) out))) := fun A3 => by
   rcases (heff V2 hHI).1 with h1 | ⟨h1, h2⟩
   ·exact .inl h1
   ·refine .inr ⟨h1, by omega, ?_, h2⟩
    simp only [List.length_cons, List.length_append]
    simp only at m1
    omega
  have hgo : ∀ {A3 : List Hk} {V3 : Vw} {s3 : PsT}, Ev lF 5 (if out.is then (jB5 lF 0 op.kind (V.W.ob 20)).bind fun _ => .pure out else .pure out) s2 V2 A3 V3 out s3 → Ev lF 5 (vO lF 0 op) ⟨0, g, 0, 0, 0⟩ V (.ak (.ld (.ob 20)) :: (A1 ++ (A2 ++ A3))) V3 out s3 := fun h3 => by
   refine first (Ev.bind a1 ?_)
   rw [if_neg (by simpa using he)]
   exact Ev.bind b1 h3
  by_cases his : out.is = true
  ·obtain ⟨A3, V3, s3, c1, c2, c3⟩ := after_ev (kind := op.kind) (by omega) hHI hk
   have h20' : V2.W.ob 20 = V.W.ob 20 := by rw [b3, a3]
   rw [h20'] at c1
   refine ⟨_, V3, R2, out, s3, hgo (A3 := A3 ++ []) ?_, c2, by simp, by simp; omega, hres _⟩
   rw [if_pos his]
   exact Ev.bind c1 Ev.pure
  ·refine ⟨_, V2, R2, out, s2, hgo (A3 := []) ?_, hHI, by simp, by simp; omega, hres _⟩
   rw [if_neg his]
   exact Ev.pure
 ·refine ⟨_, V1, R1, x1.2, s1, first (A := A1 ++ []) (Ev.bind a1 ?_), a2.more (by omega), by simp, by simp; omega, .inl ⟨he, a4⟩⟩
  rw [if_pos (by omega)]
  exact Ev.pure
theorem layF_lay : Lay lF 1 5 := by
 refine ⟨rfl, rfl, rfl, rfl, ?_, ?_, by decide, rfl, Nat.le_refl _⟩
 ·intro w i a1 a2 a3 a4
  show yD 6 1 3 w i = _
  rw [within_in (by omega) (by omega) (by omega) (by omega)]; omega
 ·intro n i a1 a2 a3 a4
  rw [jR1 (by omega) (by omega)]; rfl
theorem jT7 {nx nd : Int → Int} {N : Int} : ∀ (L acc : List Int) (k : Nat), (∀ x ∈ L, 1 ≤ x ∧ x ≤ N) → (acc ++ L).Nodup → L.length < k → LinkF nd L → (∀ x ∈ L, nx x = nd x) → xJ nx N k acc (L.headD 0) = acc ++ L
 | [], acc, 0, _, _, hk, _, _ => by simp at hk
 | [], acc, k + 1, _, _, _, _, _ => by
  rw [xJ, if_neg (by simp)]; simp
 | x :: L, acc, 0, _, _, hk, _, _ => by simp at hk
 | x :: L, acc, k + 1, hb, hd, hk, hl, hn => by
  have hx := hb x (by simp)
  have hna : x ∉ acc := fun h => by
   rw [List.nodup_append] at hd
   exact hd.2.2 x h x (by simp) rfl
  rw [List.headD_cons, xJ, if_pos ⟨hx.1, hx.2, hna⟩, hn x (by simp), hl.1, jT7 L (acc ++ [x]) k (fun y hy => hb y (by simp [hy])) (by simpa using hd) (by simp at hk; omega) hl.2 (fun y hy => hn y (by simp [hy]))]
  simp
theorem kG4 {m : List Int} {V : Vw} (hV : View lF 1 5 m V) {a : Ad} (ha : a.ok lF 1 5) : atF m (a.cell lF) = V.get a := by
 have h := Ad.cell_in layF_lay ha
 have hl := hV.len
 unfold atF
 rw [if_neg (by omega)]
 exact hV.at_ a ha
theorem free_is {m : List Int} {V : Vw} {F : List Int} (hV : View lF 1 5 m V) (hF : FreeOk 5 V F) : jX4 lF m = F := by
 unfold jX4
 rw [show atF m lF.free = V.fr from kG4 hV (a := .free) trivial, hF.idx (by omega)]
 have hlen := jP2 5 F hF.nd hF.rg
 have := jT7 (nx := fun n => atF m (jQ lF n 7)) (N := lF.nodes) F [] (lF.nodes.toNat + 1) (fun x hx => hF.rg x hx) (by simpa using hF.nd) (by show F.length < 6; omega) hF.lf (fun x hx => kG4 hV (a := .lk x) (hF.rg x hx))
 simpa using this
theorem hacts {m : List Int} {V : Vw} (hV : View lF 1 5 m V) {a : Hk} (hs : jT3 lF 5 V a) : uO m.length (a.acc lF) = 0 ∧ View lF 1 5 (vL m (a.acc lF)).1 (hact V a).1 ∧ (vL m (a.acc lF)).2 = (hact V a).2 ∧ jK3 lF m (a.acc lF) = false := by
 cases a with
 | ak a =>
  obtain ⟨h1, _, h3, F, h4, h5⟩ := hs
  have h := acts layF_lay hV (by omega) h1
  refine ⟨h.fault, h.view, h.res, ?_⟩
  have hc : (Hk.acc lF (.ak a)).cell = a.ad.cell lF := by cases a <;> rfl
  unfold jK3
  rw [hc, free_is hV h4]
  generalize a.ad = d at h1 h5
  cases d with
  | era => rw [if_pos (.inl (by decide))]
  | free => rw [if_pos (.inl (by decide))]
  | ob c => rw [if_pos (.inl h1.2)]
  | rv w i =>
   obtain ⟨b1, b2, b3, b4⟩ := h1
   rw [if_pos (.inl (by show qV lF w i < 24; rw [layF_lay.resv w i b1 b2 b3 b4]; omega))]
  | nd n i =>
   obtain ⟨b1, b2, b3, b4⟩ := h1
   rw [show Ad.cell lF (.nd n i) = 24 + 8 * (n - 1) + i from jR1 ⟨b1, b2⟩ (by omega), show lF.node = 24 from rfl, show lF.size = 64 from rfl, if_neg (by omega), List.any_eq_false]
   intro x hx e
   have e : x = (24 + 8 * (n - 1) + i - 24) / 8 + 1 := by simpa using e
   exact (h5 x hx).1 i (by rw [e, show (24 + 8 * (n - 1) + i - 24) / 8 + 1 = n by omega])
  | bi n =>
   obtain ⟨b1, b2⟩ := h1
   rw [show Ad.cell lF (.bi n) = 24 + 8 * (n - 1) + 6 from jR1 ⟨b1, b2⟩ (by omega), show lF.node = 24 from rfl, show lF.size = 64 from rfl, if_neg (by omega), List.any_eq_false]
   intro x hx e
   have e : x = (24 + 8 * (n - 1) + 6 - 24) / 8 + 1 := by simpa using e
   exact (h5 x hx).2 (by rw [e, show (24 + 8 * (n - 1) + 6 - 24) / 8 + 1 = n by omega])
  | lk n =>
   obtain ⟨b1, b2⟩ := h1
   rw [show Ad.cell lF (.lk n) = 24 + 8 * (n - 1) + 7 from jR1 ⟨b1, b2⟩ (by omega), show lF.node = 24 from rfl, show lF.size = 64 from rfl, if_pos (.inr (.inr (by omega)))]
 | ad c v =>
  obtain ⟨h1, h2⟩ := hs
  have hin := Ad.cell_in layF_lay h1
  have hlen := hV.len
  have hat : zZ m c = V.W.ob c := hV.at_ _ h1
  have ht : vL m (Hk.acc lF (.ad c v)) = (m.set c.toNat (w64 (zZ m c + v)), ⟨zZ m c, true⟩) := by simp [vL, Hk.acc]
  refine ⟨jP7 hin.1 (by show c < _; have : (Ad.ob c).cell lF = c := rfl; omega) (.inr (.inr (.inr ⟨rfl, rfl⟩))), ?_, ?_, ?_⟩
  ·rw [ht, hat]
   exact hV.put layF_lay (a := .ob c) h1 _
  ·rw [ht, hat]; rfl
  ·unfold jK3
   rw [if_pos (.inl h1.2)]
/-! ### What calls tell, one behind the other -/
def Runs : List (Int × Int) → List HCallT → List (Int × Int) → Prop
 | E, [], E' => E'.Perm E
 | E, c :: cs, E' => ∃ E1, EffS c.op E E1 ⟨c.val, c.is, 0, 0, []⟩ ∧ Runs E1 cs E'
theorem EffS.left {op : OpT} {E E0 E1 : List (Int × Int)} {out : kY} (hp : E.Perm E0) (h : EffS op E E1 out) : EffS op E0 E1 out := by
 rcases h with ⟨v, h1, h2⟩ | ⟨h1, h2⟩
 ·refine .inl ⟨v, hp.mem_iff.1 h1, ?_⟩
  rcases h2 with ⟨k, e, h3⟩ | ⟨k, e, h3⟩ | ⟨k, e, h3⟩
  ·exact .inl ⟨k, e.trans hp, h3⟩
  ·exact .inr (.inl ⟨k, e.trans hp, h3⟩)
  ·exact .inr (.inr ⟨k, hp.symm.trans e, h3⟩)
 ·refine .inr ⟨fun v hv => h1 v (hp.mem_iff.2 hv), ?_⟩
  rcases h2 with ⟨k, e, h3⟩ | ⟨k, e, h3⟩
  ·exact .inl ⟨k, e.trans hp, h3⟩
  ·exact .inr ⟨k, e.trans (List.Perm.cons _ hp), h3⟩
theorem Runs.right : ∀ {cs : List HCallT} {E E1 E2 : List (Int × Int)}, Runs E cs E1 → E2.Perm E1 → Runs E cs E2
 | [], _, _, _, h, hp => hp.trans h
 | _ :: _, _, _, _, ⟨E', h1, h2⟩, hp => ⟨E', h1, h2.right hp⟩
theorem Runs.snoc : ∀ {cs : List HCallT} {E E1 E2 : List (Int × Int)} {c : HCallT}, Runs E cs E1 → EffS c.op E1 E2 ⟨c.val, c.is, 0, 0, []⟩ → Runs E (cs ++ [c]) E2
 | [], _, _, E2, _, h, he => ⟨E2, he.left h, .refl _⟩
 | _ :: _, _, _, _, _, ⟨E', h1, h2⟩, he => ⟨E', h1, h2.snoc he⟩
/-! ### Turns -/
def okF (o : OpT) : Prop := (o.kind = 1 ∨ o.kind = 2 ∨ o.kind = 3) ∧ o.obj = 0 ∧ (0 ≤ o.a ∧ o.a < 65536) ∧ o.b < 9223372036854775808
theorem hnext_ok {op : OpT} (h : okF op) (g : List (Int × Int)) (log : List jS) : wA lF ((0 : Nat) : Int) g op log = finM (vO lF 0 op log ⟨0, g, 0, 0, 0⟩) := by
 obtain ⟨h1, h2, h3, _⟩ := h
 unfold wA
 rw [if_neg (by rw [h2, show xB lF 0 0 = 20 by decide]; omega)]
 rfl
def xC (s : Int) (j : Nat) : List Int := (List.range j).map fun (i : Nat) => s + (i : Int)
theorem rangeS_len (s : Int) (j : Nat) : (xC s j).length = j := by simp [xC]
theorem kA5 (s : Int) {j i : Nat} (h : i < j) : (xC s j).getD i 0 = s + (i : Int) := by
 unfold xC
 rw [List.getD_eq_getElem?_getD, List.getElem?_map, List.getElem?_range h]; rfl
theorem rangeS_succ (s : Int) (j : Nat) : xC s j ++ [s + (j : Int)] = xC s (j + 1) := by
 unfold xC
 rw [List.range_succ, List.map_append]; rfl
theorem ansL_next : ∀ (A : List Hk) (V : Vw) (j : Nat) (a : Hk), A[j]? = some a → SafeL lF 5 V A → (jF5 V A).take j ++ [(hact (jN1 V (A.take j)) a).2] = (jF5 V A).take (j + 1) ∧ jN1 V (A.take (j + 1)) = (hact (jN1 V (A.take j)) a).1 ∧ jT3 lF 5 (jN1 V (A.take j)) a
 | [], _, _, _, h, _ => by simp at h
 | b :: A, V, 0, a, h, hs => by
  have : b = a := by simpa using h
  subst this
  exact ⟨rfl, rfl, hs.1⟩
 | b :: A, V, j + 1, a, h, hs => by
  obtain ⟨h1, h2, h3⟩ := ansL_next A (hact V b).1 j a (by simpa using h) hs.2
  exact ⟨by simp only [jF5, List.take_succ_cons, List.cons_append, jN1]; rw [h1], h2, h3⟩
section
variable {ops : List OpT} {op : OpT} {V V' : Vw} {A : List Hk} {g : List (Int × Int)} {out : kY} {s' : PsT}
theorem acc_turn (hop : okF op) (hE : Ev lF 5 (vO lF 0 op) ⟨0, g, 0, 0, 0⟩ V A V' out s') {t : HTabT} {j k : Nat} {a : Hk} {st : List Int} (ha : A[j]? = some a) (hV : View lF 1 5 t.m (jN1 V (A.take j))) (hl : t.seats.length = 1) (hw : t.wild = false) (hb : t.bad = false) :
  ∃ m, View lF 1 5 m (jN1 V (A.take (j + 1))) ∧ uL lF t 0 ⟨op, (jF5 V A).take j, st, k, g⟩ = ⟨m, t.step + 1, [⟨op, (jF5 V A).take (j + 1), st ++ [t.step], k, g⟩], t.calls, t.full, false, false⟩ := by
 obtain ⟨h1, h2, h3⟩ := ansL_next A V j a ha hE.sf
 obtain ⟨b1, b2, b3, b4⟩ := hacts hV h3
 have he := hE.er [] j a rfl ha
 rw [List.nil_append] at he
 refine ⟨(vL t.m (a.acc lF)).1, by rw [h2]; exact b2, ?_⟩
 unfold uL
 simp only
 rw [hnext_ok hop, he]
 simp only [finM, Bool.false_eq_true, if_false]
 simp only [b1, if_true, b3, h1, b4, hw, hb, Bool.or_self]
 match t.seats, hl with
 | [x], _ => rfl
theorem jH6 {l : jN} {want : List (List OpT)} {w : Nat} : ∀ (a b : Nat) (t : HTabT), qM l want w (a + b) t = qM l want w b (qM l want w a t)
 | 0, b, t => by rw [Nat.zero_add]; rfl
 | a + 1, b, t => by
  rw [show a + 1 + b = (a + b) + 1 by omega, qM, qM]
  by_cases h : t.bad = true
  ·rw [if_pos h, if_pos h]
   have : ∀ b : Nat, qM l want w b t = t := fun b => by cases b <;> simp [qM, h]
   rw [this]
  ·rw [if_neg h, if_neg h, jH6 a b]
theorem jV5 {l : jN} {want : List (List OpT)} {w : Nat} {t : HTabT} (h : t.bad = false) : qM l want w 1 t = vI l want t w := by
 rw [qM, if_neg (by simp [h])]; rfl
theorem acc_turns (hop : okF op) (hE : Ev lF 5 (vO lF 0 op) ⟨0, g, 0, 0, 0⟩ V A V' out s') {t : HTabT} {k : Nat} {lg : List jS} {st : List Int} (hk : ops[k]? = some op) (hV : View lF 1 5 t.m V) (hs : t.seats = [⟨jI8, lg, st, k, g⟩]) (hw : t.wild = false) (hb : t.bad = false) :
  ∀ j : Nat, j + 1 ≤ A.length → ∃ m, View lF 1 5 m (jN1 V (A.take (j + 1))) ∧ qM lF [ops] 0 (j + 1) t = ⟨m, t.step + ((j + 1 : Nat) : Int), [⟨op, (jF5 V A).take (j + 1), xC t.step (j + 1), k + 1, g⟩], t.calls, t.full, false, false⟩ := by
 intro j
 induction j with
 | zero =>
  intro hj
  have hg : A[0]? = some A[0] := List.getElem?_eq_getElem (by omega)
  obtain ⟨m, h1, h2⟩ := acc_turn (t := t) (j := 0) (k := k + 1) (st := []) hop hE hg (by simpa [jN1] using hV) (by rw [hs]; rfl) hw hb
  refine ⟨m, h1, ?_⟩
  rw [show (0 : Nat) + 1 = 1 from rfl, jV5 hb]
  have : vI lF [ops] t 0 = uL lF t 0 ⟨op, [], [], k + 1, g⟩ := by
   unfold vI
   rw [hs]
   simp only [List.getElem?_cons_zero, jI8, if_true]
   rw [hk]
  rw [this]
  rw [List.take_zero] at h2
  rw [h2, show xC t.step (0 + 1) = [] ++ [t.step] by simp [xC]]
  rfl
 | succ j ih =>
  intro hj
  obtain ⟨m, h1, h2⟩ := ih (by omega)
  have hg : A[j + 1]? = some A[j + 1] := List.getElem?_eq_getElem (by omega)
  obtain ⟨m', h3, h4⟩ := acc_turn (t := ⟨m, t.step + ((j + 1 : Nat) : Int), [⟨op, (jF5 V A).take (j + 1), xC t.step (j + 1), k + 1, g⟩], t.calls, t.full, false, false⟩) (j := j + 1) (k := k + 1) (st := xC t.step (j + 1)) hop hE hg h1 rfl rfl rfl
  refine ⟨m', h3, ?_⟩
  rw [jH6 (j + 1) 1, h2, jV5 rfl]
  have h0 : op.kind ≠ 0 := by rcases hop.1 with e | e | e <;> omega
  unfold vI
  simp only [List.getElem?_cons_zero]
  rw [if_neg h0, h4, rangeS_succ]
  rw [show t.step + ((j + 1 : Nat) : Int) + 1 = t.step + ((j + 1 + 1 : Nat) : Int) by omega]
structure RestF (ops : List OpT) (k : Nat) (t : HTabT) : Prop where
 mem : ∃ V R g, View lF 1 5 t.m V ∧ HI (10 + 20 * (k : Int)) V R g ∧ (∃ lg st, t.seats = [⟨jI8, lg, st, k, g⟩]) ∧ Runs [] t.calls (ent R)
 bad : t.bad = false
 wild : t.wild = false
 cnt : 0 ≤ t.full ∧ (t.calls.length : Int) + t.full = k
 up : t.calls.Pairwise fun a b => a.point < b.point
 pts : ∀ c ∈ t.calls, c.first ≤ c.point ∧ c.point ≤ c.last ∧ c.point < t.step
 op : ∀ c ∈ t.calls, c.op ∈ ops
theorem one_opF (hops : ∀ o ∈ ops, okF o) {t : HTabT} {k : Nat} (hk : k < ops.length) (hk3 : k ≤ 3000) (h : RestF ops k t) : ∃ j, j ≤ 123 ∧ RestF ops (k + 1) (qM lF [ops] 0 j t) := by
 obtain ⟨V, R, g, hV, hI, ⟨lg, st, hs⟩, hR⟩ := h.mem
 have hg : ops[k]? = some ops[k] := List.getElem?_eq_getElem hk
 have hmem : ops[k] ∈ ops := List.getElem_mem hk
 have hop := hops _ hmem
 generalize ops[k] = op at hg hop hmem
 obtain ⟨A, V', R', out, s', hE, hI', hA1, hA2, hout⟩ := split_ev (by omega) hI hop.1 hop.2.1 hop.2.2.1 hop.2.2.2
 obtain ⟨m, hm, ht⟩ := acc_turns hop hE hg hV hs h.wild h.bad (A.length - 1) (by omega)
 rw [show A.length - 1 + 1 = A.length by omega, List.take_of_length_le (Nat.le_refl _)] at hm
 rw [show A.length - 1 + 1 = A.length by omega, List.take_of_length_le (by rw [jI2]; omega)] at ht
 have hok := hE.ok [] [] rfl
 rw [List.nil_append, List.append_nil] at hok
 have h0 : op.kind ≠ 0 := by rcases hop.1 with e | e | e <;> omega
 have hend : qM lF [ops] 0 (A.length + 1) t = jE7 ⟨m, t.step + (A.length : Int), [⟨op, jF5 V A, xC t.step A.length, k + 1, g⟩], t.calls, t.full, false, false⟩ 0 ⟨op, jF5 V A, xC t.step A.length, k + 1, g⟩ { out with gone := s'.gone } := by
  rw [jH6 A.length 1, ht, jV5 rfl]
  unfold vI
  simp only [List.getElem?_cons_zero]
  rw [if_neg h0]
  unfold uL
  simp only
  rw [hnext_ok hop, hok]
  simp only [finM, if_true]
 have hv : View lF 1 5 m V' := by rw [← hE.ed]; exact hm
 have hI2 : HI (10 + 20 * ((k + 1 : Nat) : Int)) V' R' s'.gone := hI'.more (by omega)
 refine ⟨A.length + 1, by omega, ?_⟩
 rw [hend]
 have hcnt := h.cnt
 rcases hout with ⟨he, hp⟩ | ⟨he, hp0, hp1, heff⟩
 ·unfold jE7
  simp only [he, if_true]
  exact ⟨⟨V', R', s'.gone, hv, hI2, ⟨_, _, rfl⟩, hR.right hp⟩, rfl, rfl, ⟨by show 0 ≤ t.full + 1; omega, by show (t.calls.length : Int) + (t.full + 1) = _; omega⟩, h.up, fun c hc => by have := h.pts c hc; exact ⟨this.1, this.2.1, by show c.point < t.step + _; omega⟩, h.op⟩
 ·have hcall : jE7 ⟨m, t.step + (A.length : Int), [⟨op, jF5 V A, xC t.step A.length, k + 1, g⟩], t.calls, t.full, false, false⟩ 0 ⟨op, jF5 V A, xC t.step A.length, k + 1, g⟩ { out with gone := s'.gone } = ⟨m, t.step + (A.length : Int), [⟨jI8, jF5 V A, xC t.step A.length, k + 1, s'.gone⟩], t.calls ++ [⟨((0 : Nat) : Int), op, out.val, out.is, t.step, t.step + ((A.length - 1 : Nat) : Int), t.step + out.point⟩], t.full, false, false⟩ := by
   unfold jE7
   simp only [he, rangeS_len]
   rw [if_neg (by omega), if_neg (by omega), kA5 _ (by omega), kA5 _ (by omega), if_pos ⟨hp0, hp1⟩, kA5 _ (by omega)]
   rw [show t.step + ((0 : Nat) : Int) = t.step by omega, show t.step + ((out.point.toNat : Nat) : Int) = t.step + out.point by omega]
   rfl
  rw [hcall]
  refine ⟨⟨V', R', s'.gone, hv, hI2, ⟨_, _, rfl⟩, hR.snoc heff⟩, rfl, rfl, ⟨hcnt.1, by simp only [List.length_append, List.length_cons, List.length_nil]; omega⟩, ?_, fun c hc => ?_, fun c hc => ?_⟩
  ·refine List.pairwise_append.2 ⟨h.up, by simp, fun x hx y hy => ?_⟩
   rw [List.mem_singleton] at hy
   subst hy
   have := (h.pts x hx).2.2
   show x.point < t.step + out.point
   omega
  ·rcases List.mem_append.1 hc with hc | hc
   ·have := h.pts c hc
    exact ⟨this.1, this.2.1, by show c.point < t.step + (A.length : Int); omega⟩
   ·rw [List.mem_singleton] at hc
    subst hc
    exact ⟨by show t.step ≤ t.step + out.point; omega, by show t.step + out.point ≤ t.step + ((A.length - 1 : Nat) : Int); omega, by show t.step + out.point < t.step + (A.length : Int); omega⟩
  ·rcases List.mem_append.1 hc with hc | hc
   ·exact h.op c hc
   ·rw [List.mem_singleton] at hc
    subst hc
    exact hmem
theorem all_opF (hops : ∀ o ∈ ops, okF o) (hl : ops.length ≤ 3000) {t : HTabT} (h : RestF ops 0 t) : ∀ k : Nat, k ≤ ops.length → ∃ j, j ≤ 123 * k ∧ RestF ops k (qM lF [ops] 0 j t)
 | 0, _ => ⟨0, Nat.le_refl _, h⟩
 | k + 1, hk => by
  obtain ⟨j, h1, h2⟩ := all_opF hops hl h k (by omega)
  obtain ⟨i, h3, h4⟩ := one_opF hops (by omega) (by omega) h2
  exact ⟨j + i, by omega, by rw [jH6]; exact h4⟩
theorem kH0 {t : HTabT} (h : RestF ops ops.length t) : ∀ j : Nat, qM lF [ops] 0 j t = t
 | 0 => rfl
 | j + 1 => by
  obtain ⟨V, R, g, hV, hI, ⟨lg, st, hs⟩, hR⟩ := h.mem
  have : vI lF [ops] t 0 = t := by
   unfold vI
   rw [hs]
   simp only [List.getElem?_cons_zero, jI8, if_true]
   rw [List.getElem?_eq_none (Nat.le_refl _)]
  rw [qM, this, kH0 h j]
  simp
def memV (l : jN) (m : List Int) : Vw := ⟨zZ m l.era, zZ m l.free, fun w i => zZ m (qV l w i), fun n => zZ m (jQ l n 6), fun n => zZ m (jQ l n 7), ⟨fun c => zZ m c, fun n i => zZ m (jQ l n i)⟩⟩
theorem beginF_is : wV lF = [0, 0, 1, 2, 0, 0, 0, 0, 0, 0, 0, 0, 0, 0, 0, 0, 0, 0, 0, 0, 1, 0, 1, 0, 0, 0, 0, 0, 0, 0, 1, 0, 0, 0, 0, 0, 0, 0, 0, 3, 0, 0, 0, 0, 0, 0, 0, 4, 0, 0, 0, 0, 0, 0, 0, 5, 0, 0, 0, 0, 0, 0, 0, 0] := by kernel_rfl
theorem begin_rest : RestF ops 0 (vZ lF 1) := by
 have e : (vZ lF 1).m = wV lF := rfl
 refine ⟨⟨memV lF (wV lF), [(1, 0, 0)], [], ⟨by rw [e, beginF_is]; rfl, fun a ha => ?_⟩, ?_, ⟨[], [], rfl⟩, .refl _⟩, rfl, rfl, ⟨Int.le_refl _, rfl⟩, List.Pairwise.nil, fun c hc => (by cases hc), fun c hc => (by cases hc)⟩
 ·rw [e]; cases a <;> rfl
 ·rw [beginF_is]
  refine ⟨⟨⟨[2, 3, 4, 5], ⟨?_, ?_, by simp, by decide, by decide, ⟨by decide, by decide, ?_, by decide, by decide⟩, by decide, by decide⟩⟩, ?_, by decide⟩, by decide, by decide, by simp, .inl ⟨by decide, by decide⟩, fun x hx => ?_⟩
  ·exact ⟨by decide, trivial⟩
  ·intro x hx
   have : x = (1, 0, 0) := by simpa using hx
   subst this
   decide
  ·exact ⟨by decide, by decide, by decide, by decide, trivial⟩
  ·intro i h0 h2
   have : i = 0 ∨ i = 1 ∨ i = 2 := by omega
   rcases this with rfl | rfl | rfl <;> decide
  ·have : x = (1, 0, 0) := by simpa using hx
   subst this
   exact .inl rfl
theorem full_played (hops : ∀ o ∈ ops, okF o) (hl : ops.length ≤ 12) : RestF ops ops.length (wI lF [ops] []) := by
 obtain ⟨j, h1, h2⟩ := all_opF hops (by omega) begin_rest ops.length (Nat.le_refl _)
 have h3 : qM lF [ops] 0 1500 (vZ lF 1) = qM lF [ops] 0 j (vZ lF 1) := by
  rw [show 1500 = j + (1500 - j) by omega, jH6, kH0 h2]
 have h4 : wI lF [ops] [] = { qM lF [ops] 0 1500 (vZ lF 1) with bad := (qM lF [ops] 0 1500 (vZ lF 1)).bad || !kD4 (qM lF [ops] 0 1500 (vZ lF 1)) [ops] 0 } := rfl
 rw [h4, h3]
 generalize qM lF [ops] 0 j (vZ lF 1) = t at h2
 obtain ⟨V, R, g, hV, hI, ⟨lg, st, hs⟩, hR⟩ := h2.mem
 have hd : kD4 t [ops] 0 = true := by
  unfold kD4
  rw [hs]
  simp [jI8]
 exact ⟨⟨V, R, g, hV, hI, ⟨lg, st, hs⟩, hR⟩, by simp only [hd, h2.bad]; rfl, h2.wild, h2.cnt, h2.up, h2.pts, h2.op⟩
end
abbrev jX := List (Int × Int)
def UpP (S : jX) : Prop := S.Pairwise fun x y => x.1 < y.1
def vY (S : jX) (a : Int) : Nat := S.findIdx fun y => decide (y.1 = a)
def insP : jX → Int × Int → jX
 | [], x => [x]
 | y :: S, x => if x.1 < y.1 then x :: y :: S else y :: insP S x
def doP (S : jX) (op : OpT) : jX × Int × Bool :=
 if op.kind = 1 then (if vY S op.a < S.length then (S, (S.getD (vY S op.a) (0, 0)).2, true) else (S, 0, false))
 else if op.kind = 2 then (if vY S op.a < S.length then (S, 0, false) else (insP S (op.a, op.b), 0, true))
 else if op.kind = 3 then (if vY S op.a < S.length then (S.eraseIdx (vY S op.a), 0, true) else (S, 0, false))
 else (S, 0, false)
theorem jR9 (x : Int × Int) : ∀ S : jX, (insP S x).Perm (x :: S)
 | [] => .refl _
 | y :: S => by
  rw [insP]
  split
  ·exact .refl _
  ·exact (List.Perm.cons _ (jR9 x S)).trans (List.Perm.swap _ _ _)
theorem insP_up {x : Int × Int} : ∀ {S : jX}, UpP S → (∀ y ∈ S, y.1 ≠ x.1) → UpP (insP S x)
 | [], _, _ => List.pairwise_singleton _ _
 | y :: S, h, hn => by
  have h1 := List.pairwise_cons.1 h
  rw [insP]
  split
  ·rename_i hlt
   refine List.pairwise_cons.2 ⟨fun z hz => ?_, h⟩
   rcases List.mem_cons.1 hz with rfl | hz
   ·exact hlt
   ·have := h1.1 z hz; omega
  ·rename_i hlt
   refine List.pairwise_cons.2 ⟨fun z hz => ?_, insP_up h1.2 fun z hz => hn z (by simp [hz])⟩
   rcases List.mem_cons.1 ((jR9 x S).mem_iff.1 hz) with rfl | hz
   ·have := hn y (by simp); omega
   ·exact h1.1 z hz
theorem findP_in {a v : Int} : ∀ {S : jX}, UpP S → (a, v) ∈ S → ∃ X Y, S = X ++ (a, v) :: Y ∧ vY S a = X.length
 | [], _, h => by cases h
 | y :: S, h, hm => by
  have h1 := List.pairwise_cons.1 h
  unfold vY
  rw [List.findIdx_cons]
  by_cases hy : y.1 = a
  ·rcases List.mem_cons.1 hm with e | hm
   ·exact ⟨[], S, by rw [e]; rfl, by simp [hy]⟩
   ·have := h1.1 _ hm
    simp only at this
    omega
  ·rcases List.mem_cons.1 hm with e | hm
   ·exact absurd (by rw [← e]) hy
   ·obtain ⟨X, Y, e1, e2⟩ := findP_in h1.2 hm
    unfold vY at e2
    exact ⟨y :: X, Y, by rw [e1]; rfl, by simp [hy, e2]⟩
theorem findP_out {a : Int} {S : jX} (h : ∀ v, (a, v) ∉ S) : ¬ vY S a < S.length := by
 intro hlt
 have h1 := List.findIdx_getElem (w := hlt)
 have h2 : (S[vY S a]'hlt).1 = a := of_decide_eq_true h1
 have h3 : S[vY S a]'hlt ∈ S := List.getElem_mem hlt
 generalize S[vY S a]'hlt = y at h2 h3
 exact h y.2 (by rw [← h2]; exact h3)
def wY (rows : jX) : jX := (rows.filter fun r => decide (r.1 % 2 = 1)).map fun r => (keyW r.1, r.2)
def okH (o : OpT) : Bool := decide (1 ≤ o.kind) && decide (o.kind ≤ 3) && decide (o.obj = 0) && decide (0 ≤ o.a) && decide (o.a < 65536)
def fewH (want : List (List OpT)) (turns : List Int) (ops many : Nat) : Bool := decide (1 ≤ want.length) && decide (want.length ≤ 3) && decide (turns.length ≤ many) && want.all (fun w => w.all okH) && decide ((want.map List.length).sum ≤ ops)
def call0 : HCallT := ⟨0, ⟨0, 0, 0, 0⟩, 0, false, 0, 0, 0⟩
def jA9 (l : List HCallT) (dn : List Bool) : Nat → Int
 | 0 => -1
 | i + 1 => if dn.getD i true = false ∧ (jA9 l dn i < 0 ∨ (l.getD i call0).point < (l.getD (jA9 l dn i).toNat call0).point) then (i : Int) else jA9 l dn i
def dnF (len : Nat) (ord : Nat → Nat) : Nat → List Bool
 | 0 => List.replicate len false
 | n + 1 => (dnF len ord n).set (ord n) true
theorem dnF_len (len : Nat) (ord : Nat → Nat) : ∀ n, (dnF len ord n).length = len
 | 0 => List.length_replicate
 | n + 1 => by rw [dnF, List.length_set, dnF_len len ord n]
theorem best_rng (l : List HCallT) (dn : List Bool) : ∀ i, -1 ≤ jA9 l dn i ∧ jA9 l dn i < i
 | 0 => by rw [jA9]; omega
 | i + 1 => by
  have := best_rng l dn i
  rw [jA9]
  split <;> omega
structure ByOk (l : List HCallT) (ord : Nat → Nat) (C : Nat → jX) : Prop where
 best : ∀ n, n < l.length → jA9 l (dnF l.length ord n) l.length = (ord n : Int)
 lt : ∀ n, n < l.length → ord n < l.length
 at_ : ∀ n x, n < l.length → l[ord n]? = some x → (x.op.kind = 1 ∨ x.op.kind = 2 ∨ x.op.kind = 3) ∧ x.first ≤ x.point ∧ x.point ≤ x.last ∧ doP (C n) x.op = (C (n + 1), x.val, x.is)
theorem dnF_id (len : Nat) : ∀ n i, i < len → (dnF len id n).getD i true = decide (i < n)
 | 0, i, h => by simp [dnF, List.getD_eq_getElem?_getD, h]
 | n + 1, i, h => by
  have := dnF_id len n i h
  rw [dnF, List.getD_eq_getElem?_getD, List.getElem?_set]
  by_cases e : n = i
  ·subst e
   rw [if_pos (show id n = n from rfl), if_pos (by rw [dnF_len]; exact h)]
   simp
  ·rw [if_neg (show ¬ id n = i from e), ← List.getD_eq_getElem?_getD, this]
   congr 1
   exact propext ⟨fun h => by omega, fun h => by omega⟩
theorem by_up {l : List HCallT} {C : Nat → jX} (hup : l.Pairwise fun a b => a.point < b.point) (h : ∀ n x, l[n]? = some x → (x.op.kind = 1 ∨ x.op.kind = 2 ∨ x.op.kind = 3) ∧ x.first ≤ x.point ∧ x.point ≤ x.last ∧ doP (C n) x.op = (C (n + 1), x.val, x.is)) : ByOk l id C := by
 refine ⟨fun n hn => ?_, fun n hn => hn, fun n x _ hx => h n x hx⟩
 have key : ∀ i, i ≤ l.length → jA9 l (dnF l.length id n) i = if i ≤ n then -1 else (n : Int) := by
  intro i
  induction i with
  | zero => intro _; rw [jA9, if_pos (Nat.zero_le _)]
  | succ i ih =>
   intro hi
   have ih := ih (by omega)
   rw [jA9, dnF_id _ _ _ (by omega), ih]
   by_cases h1 : i < n
   ·rw [if_neg (by simp [h1]), if_pos (by omega), if_pos (by omega)]
   ·rw [if_neg (show ¬ i + 1 ≤ n by omega)]
    by_cases h2 : i = n
    ·subst h2
     rw [if_pos (Nat.le_refl _), if_pos ⟨by simp, .inl (by omega)⟩]
    ·rw [if_neg (show ¬ i ≤ n by omega)]
     refine if_neg fun hh => ?_
     rcases hh.2 with h3 | h3
     ·omega
     ·have hp := List.pairwise_iff_getElem.1 hup n i (by omega) (by omega) (by omega)
      have e1 : l.getD i call0 = l[i] := by simp [List.getD_eq_getElem?_getD, show i < l.length by omega]
      have e2 : l.getD ((n : Int)).toNat call0 = l[n] := by simp [List.getD_eq_getElem?_getD, hn]
      rw [e1, e2] at h3
      omega
 rw [key _ (Nat.le_refl _), if_neg (by omega)]
 rfl
theorem eff_do {op : OpT} {S E E1 : jX} {out : kY} (hk : op.kind = 1 ∨ op.kind = 2 ∨ op.kind = 3) (hu : UpP S) (hp : S.Perm E) (h : EffS op E E1 out) : ∃ S1, doP S op = (S1, out.val, out.is) ∧ UpP S1 ∧ S1.Perm E1 := by
 rcases h with ⟨v, h1, h2⟩ | ⟨h1, h2⟩
 ·obtain ⟨X, Y, e1, e2⟩ := findP_in hu (hp.mem_iff.2 h1)
  have hlt : vY S op.a < S.length := by rw [e2, e1]; simp
  rcases h2 with ⟨k, hpe, e3, e4⟩ | ⟨k, hpe, e3, e4⟩ | ⟨k, hpe, e3, e4⟩
  ·refine ⟨S, ?_, hu, hp.trans hpe.symm⟩
   unfold doP
   rw [if_pos k, if_pos hlt, e2, e3, e4, e1]
   simp
  ·refine ⟨S, ?_, hu, hp.trans hpe.symm⟩
   unfold doP
   rw [if_neg (by omega), if_pos k, if_pos hlt, e3, e4]
  ·have he : S.eraseIdx (vY S op.a) = X ++ Y := by
    rw [e2, e1, List.eraseIdx_append_of_length_le (Nat.le_refl _), Nat.sub_self]; rfl
   refine ⟨X ++ Y, ?_, ?_, ?_⟩
   ·unfold doP
    rw [if_neg (by omega), if_neg (by omega), if_pos k, if_pos hlt, e3, e4, he]
   ·rw [e1] at hu
    exact List.Pairwise.sublist (by simp) hu
   ·have h5 : ((op.a, v) :: (X ++ Y)).Perm ((op.a, v) :: E1) := by
     rw [e1] at hp
     exact (List.perm_middle.symm.trans hp).trans hpe
    exact h5.cons_inv
 ·have hno := findP_out (a := op.a) (S := S) fun v hv => h1 v (hp.mem_iff.1 hv)
  rcases h2 with ⟨k, hpe, e3, e4⟩ | ⟨k, hpe, e3, e4⟩
  ·refine ⟨S, ?_, hu, hp.trans hpe.symm⟩
   unfold doP
   rw [e3, e4]
   rcases hk with e | e | e
   ·rw [if_pos e, if_neg hno]
   ·exact absurd e k
   ·rw [if_neg (by omega), if_neg (by omega), if_pos e, if_neg hno]
  ·refine ⟨insP S (op.a, op.b), ?_, insP_up hu fun y hy e => h1 y.2 (hp.mem_iff.1 (by have e : y.1 = op.a := e; rw [← e]; exact hy)), (jR9 _ S).trans ((List.Perm.cons _ hp).trans hpe.symm)⟩
   unfold doP
   rw [if_neg (by omega), if_pos k, if_neg hno, e3, e4]
theorem runs_do : ∀ {calls : List HCallT} {S E E' : jX}, (∀ c ∈ calls, c.op.kind = 1 ∨ c.op.kind = 2 ∨ c.op.kind = 3) → UpP S → S.Perm E → Runs E calls E' → ∃ C : Nat → jX, C 0 = S ∧ (∀ n c, calls[n]? = some c → doP (C n) c.op = (C (n + 1), c.val, c.is)) ∧ UpP (C calls.length) ∧ (C calls.length).Perm E'
 | [], S, E, E', _, hu, hp, h => ⟨fun _ => S, rfl, fun n c hc => by simp at hc, hu, hp.trans (List.Perm.symm h)⟩
 | c :: calls, S, E, E', hk, hu, hp, ⟨E1, h1, h2⟩ => by
  obtain ⟨S1, d1, d2, d3⟩ := eff_do (hk c (by simp)) hu hp h1
  obtain ⟨C, c1, c2, c3, c4⟩ := runs_do (fun x hx => hk x (by simp [hx])) d2 d3 h2
  refine ⟨fun n => match n with | 0 => S | n + 1 => C n, rfl, fun n x hx => ?_, c3, c4⟩
  cases n with
  | zero =>
   have : c = x := by simpa using hx
   subst this
   show doP S c.op = (C 0, c.val, c.is)
   rw [d1, c1]
  | succ n => exact c2 n x (by simpa using hx)
structure FullEnd (ops : List OpT) (t : HTabT) : Prop where
 len : t.m.length = 64
 bad : t.bad = false
 wild : t.wild = false
 cnt : 0 ≤ t.full ∧ (t.calls.length : Int) + t.full = ops.length
 up : t.calls.Pairwise fun a b => a.point < b.point
 pts : ∀ c ∈ t.calls, c.first ≤ c.point ∧ c.point ≤ c.last
 bk : atF t.m (qR lF 0 0) = 1
 end_ : ∃ C : Nat → jX, C 0 = [] ∧ (∀ n c, t.calls[n]? = some c → (c.op.kind = 1 ∨ c.op.kind = 2 ∨ c.op.kind = 3) ∧ doP (C n) c.op = (C (n + 1), c.val, c.is)) ∧ UpP (C t.calls.length) ∧ (C t.calls.length).Perm (wY (rowF lF t.m (jQ lF 1 0))) ∧ (C t.calls.length).length ≤ 4 ∧ (rowF lF t.m (jQ lF 1 0)).length ≤ 4
theorem row_is {B : Int} {V : Vw} {R : List vC} {g : List (Int × Int)} {m : List Int} (hV : View lF 1 5 m V) (hI : HI B V R g) : ∃ R1, R = (1, 0, 0) :: R1 ∧ R1.length ≤ 4 ∧ rowF lF m (jQ lF 1 0) = R1.map (·.2) := by
 obtain ⟨F, hc⟩ := hI.id.cl
 have hlen := hc.len
 obtain ⟨X, R1, e⟩ := List.append_of_mem hI.d0
 have hX : X = [] := by
  cases X with
  | nil => rfl
  | cons x X =>
   have hup := hc.up
   rw [e] at hup
   have h1 := (List.pairwise_append.1 hup).2.2 x (by simp) (1, 0, 0) (by simp)
   have h2 := hI.od x (by rw [e]; simp)
   simp only at h1
   rcases h2 with h2 | h2 | ⟨k, k0, k1, h2⟩
   ·omega
   ·omega
   ·have := rev_in k0 k1
    unfold uF at h2
    omega
 subst hX
 rw [List.nil_append] at e
 refine ⟨R1, e, by rw [e] at hlen; simp at hlen; omega, ?_⟩
 have hw := hc.word (X := []) (p := (1, 0, 0)) (Y := R1) (by rw [e]; rfl)
 have hat : ∀ n i : Int, 1 ≤ n ∧ n ≤ 5 → 0 ≤ i ∧ i ≤ 5 → atF m (jQ lF n i) = V.W.nd n i := fun n i hn hi => kG4 hV (a := .nd n i) ⟨hn.1, hn.2, hi.1, hi.2⟩
 have hmem : ∀ x ∈ R1, x ∈ R := fun x hx => by rw [e]; simp [hx]
 have hwd : ∀ x ∈ R1, 0 ≤ V.W.nd x.1 0 ∧ V.W.nd x.1 0 ≤ 5 := fun x hx => by
  obtain ⟨X, Y, e'⟩ := List.append_of_mem (hmem x hx)
  have := hc.word e'
  rw [this.1]
  exact this.2
 have hln := hc.ln
 rw [e] at hln
 have hnd := (List.nodup_append.1 hc.nd).1
 rw [e] at hnd
 have hnodes : jG6 lF m (jQ lF 1 0) = R1.map (·.1) := by
  unfold jG6
  rw [hat 1 0 (by omega) (by omega), hw.1, xO hw.2.1 (by omega)]
  have := jT7 (nx := fun n => (ofW (atF m (jQ lF n 0))).idx) (nd := fun n => V.W.nd n 0) (N := lF.nodes) (R1.map (·.1)) [] (lF.nodes.toNat + 1) (fun x hx => by
   obtain ⟨y, hy, rfl⟩ := List.mem_map.1 hx
   exact (hc.mem (hmem y hy)).1) (by simpa using (List.nodup_cons.1 hnd).2) (by rw [e] at hlen; simp at hlen ⊢; show R1.length < 6; omega) hln.2 (fun x hx => by
   obtain ⟨y, hy, rfl⟩ := List.mem_map.1 hx
   have h1 := (hc.mem (hmem y hy)).1
   have h2 := hwd y hy
   show (ofW (atF m (jQ lF y.1 0))).idx = V.W.nd y.1 0
   rw [hat y.1 0 h1 (by omega), xO h2.1 (by omega)])
  rw [List.nil_append] at this
  exact this
 unfold rowF
 rw [hnodes]
 have hf : ∀ T : List vC, (∀ x ∈ T, x ∈ R1) → ((T.map (·.1)).filter fun n => !(ofW (atF m (jQ lF n 0))).mark).map (fun n => (atF m (jQ lF n 1), atF m (jQ lF n 2))) = T.map (·.2) := by
  intro T
  induction T with
  | nil => intro _; rfl
  | cons x T ih =>
   intro hT
   have hx := hT x (by simp)
   have h1 := (hc.mem (hmem x hx)).1
   have h2 := hwd x hx
   have h3 := hc.od x (hmem x hx)
   rw [List.map_cons, List.filter_cons, hat x.1 0 h1 (by omega), jV3 h2.1 (by omega)]
   simp only [Bool.not_false, if_true, List.map_cons]
   rw [ih fun y hy => hT y (by simp [hy]), hat x.1 1 h1 (by omega), hat x.1 2 h1 (by omega), h3.1, h3.2]
 exact hf R1 fun x hx => hx
theorem full_end {ops : List OpT} (hops : ∀ o ∈ ops, okF o) (hl : ops.length ≤ 12) : FullEnd ops (wI lF [ops] []) := by
 have h := full_played hops hl
 generalize wI lF [ops] [] = t at h
 obtain ⟨V, R, g, hV, hI, _, hR⟩ := h.mem
 obtain ⟨R1, e1, e2, e3⟩ := row_is hV hI
 have hk : ∀ c ∈ t.calls, c.op.kind = 1 ∨ c.op.kind = 2 ∨ c.op.kind = 3 := fun c hc => (hops _ (h.op c hc)).1
 obtain ⟨C, c1, c2, c3, c4⟩ := runs_do hk (List.Pairwise.nil) (.refl _) hR
 have hent : ent R = wY (R1.map (·.2)) := by
  rw [e1, jX1, if_neg (by decide)]
  unfold ent wY
  rw [List.filter_map, List.map_map]
  rfl
 have hlen : (C t.calls.length).length ≤ 4 := by
  rw [c4.length_eq, hent]
  unfold wY
  rw [List.length_map]
  exact Nat.le_trans (List.length_filter_le _ _) (by rw [List.length_map]; exact e2)
 refine ⟨hV.len, h.bad, h.wild, h.cnt, h.up, fun c hc => ⟨(h.pts c hc).1, (h.pts c hc).2.1⟩, ?_, C, c1, fun n c hc => ⟨hk c (List.mem_of_getElem? hc), c2 n c hc⟩, c3, by rw [e3, ← hent]; exact c4, hlen, by rw [e3, List.length_map]; exact e2⟩
 have : qR lF 0 0 = 22 := by decide
 rw [this, ← hI.b0]
 exact kG4 hV (a := .ob 22) ⟨by omega, by decide⟩
end Go.Proofs.YtkkldicehapklaaGreat
