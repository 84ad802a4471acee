/- Regions that draw their order, operation by operation: what takes part in nothing is taken first. -/
import Derived.Test.YtkkldicehapklaaGreatShort
namespace Go.Proofs.YtkkldicehapklaaGreat
open Go.RowKit
section
variable {P : Program} {T : Nat → Option TI} {Γ : Ctx} {l : List Oper} {Q : Exit → St → Prop} {fuel : Nat} {listed listed' : Array Bool} {σ σ' : St} {o : Oper} {i : Nat}
structure AAny (P : Program) (Γ : Ctx) (l : List Oper) (Q : Exit → St → Prop) (fuel : Nat) (listed : Array Bool) (σ : St) : Prop where
 run : ∀ (a : Act) (e : Env), Conc Γ σ e a → wpAny P .any l.toArray (jE4 Γ Q) fuel listed a e.w
theorem jN4 {id : Nat} (hm : P.follows .mixedOrders = true) (h : AAny P Γ l Q l.length (Array.replicate l.length false) σ) : AWP P Γ (.region id l.toArray true) Q σ := ⟨fun a e hc => by
 have hg : Grow e { e with w := e.w.drew } := ⟨(Below.refl _ _).drew, fun _ _ => rfl, rfl, rfl, rfl⟩
 have h1 := h.run a _ (hc.grow hg)
 exact wp_region_any hm (by simpa using h1)⟩
def jT5 (P : Program) (Γ : Ctx) (l : List Oper) (Q : Exit → St → Prop) (fuel : Nat) (listed : Array Bool) : Exit → St → Prop := fun ex σ => match ex with
 | .normal => AAny P Γ l Q fuel listed σ
 | ex => Q ex σ
theorem nq (h : AAny P Γ l Q fuel listed σ) : jT5 P Γ l Q fuel listed .normal σ := h
theorem kG5 (ho : l[i]? = some o) (hl : listed.setIfInBounds i true = listed') (h : zY P Γ l (jT5 P Γ l Q fuel listed') [o] σ) {a : Act} {e : Env} (hc : Conc Γ σ e a) : wpOp P l.toArray (jE4 Γ Q) i (wpAny P .any l.toArray (jE4 Γ Q) fuel (listed.setIfInBounds i true)) a e.w := by
 rw [hl]
 have h1 := h.run a e hc
 have ho' : l.toArray[i]? = some o := by simpa using ho
 have h2 : wpOp P l.toArray (jE4 Γ (jT5 P Γ l Q fuel listed')) i (wpList P l.toArray (jE4 Γ (jT5 P Γ l Q fuel listed')) []) a e.w := by unfold wpOp; simp only [ho']; exact h1
 have h3 := kL8 (Q' := jE4 Γ Q) (fun ex a w hne hp => by
  obtain ⟨τ, e', h4, h5, h6⟩ := hp
  refine ⟨τ, e', h4, h5, ?_⟩
  unfold jT5 at h6
  split at h6
  ·exact absurd rfl hne
  ·exact h6) h2
 refine wpOp_mono (fun a' w' hh => ?_) h3
 obtain ⟨τ, e', rfl, hc', hA⟩ := hh
 exact AAny.run hA a' e' hc'
theorem jT (hr : Region.ready .any l.toArray listed = [i]) (ho : l[i]? = some o) (hl : listed.setIfInBounds i true = listed') (h : zY P Γ l (jT5 P Γ l Q fuel listed') [o] σ) : AAny P Γ l Q (fuel + 1) listed σ := ⟨fun a e hc => wpAny_all hr (by simp) fun j hj => by
 obtain rfl : j = i := by simpa using hj
 exact kG5 ho hl h hc⟩
theorem jB6 {j : Nat} {oj : Oper} {listed2 : Array Bool} (hr : Region.ready .any l.toArray listed = [i, j]) (ho : l[i]? = some o) (hoj : l[j]? = some oj) (hl : listed.setIfInBounds i true = listed') (hl2 : listed.setIfInBounds j true = listed2) (h : zY P Γ l (jT5 P Γ l Q fuel listed') [o] σ) (h2 : zY P Γ l (jT5 P Γ l Q fuel listed2) [oj] σ) : AAny P Γ l Q (fuel + 1) listed σ := ⟨fun a e hc => wpAny_all hr (by simp) fun k hk => by
 rcases List.mem_cons.1 hk with rfl | hk
 ·exact kG5 ho hl h hc
 ·obtain rfl : k = j := by simpa using hk
  exact kG5 hoj hl2 h2 hc⟩
theorem kN (hr : Region.ready .any l.toArray listed = []) (h : Q .normal σ) : AAny P Γ l Q fuel listed σ := ⟨fun _ e hc => wpAny_done hr ⟨σ, e, rfl, hc, h⟩ fuel⟩
def YStep (P : Program) (Γ : Ctx) (l : List Oper) (o : Oper) (σ : St) (d : Dt) : Prop := ∀ (a : Act) (e : Env), Conc Γ σ e a → ∃ v, Yields P l.toArray o v a ∧ DRep e v d
theorem jK {t : Nat} {d : Dt} (hs : Region.noSelect l.toArray = true) (hf : Region.free .any l.toArray listed i = true) (hr : (Region.ready .any l.toArray listed).contains i = true) (hl : listed.setIfInBounds i true = listed') (hq : ∀ c τ, ¬ Q (.panic c) τ) (ho : l[i]? = some o) (hd : o.dst = some t) (hlt : Nat.blt t Γ.n = true) (hy : YStep P Γ l o σ d) (h : AAny P Γ l Q fuel listed' ⟨(t, d) :: σ.s, σ.b, σ.g⟩) : AAny P Γ l Q (fuel + 1) listed σ := ⟨fun a e hc => by
 obtain ⟨v, hv, hrep⟩ := hy a e hc
 refine wpAny_take (by simpa using ho) hs hf hr (fun c a w hp => ?_) hv ?_
 ·obtain ⟨τ, _, _, _, h5⟩ := hp
  exact absurd h5 (hq c τ)
 ·rw [hl, hd]
  have := hc.put (dst := o.dst) (jC5 hd hlt) hrep
  rw [hd] at this
  exact h.run _ e this⟩
theorem yB {x : Operand} {d : Dt} (ho : o.op = .move x) (hg : gd l o (kv σ.s) = some true) (hx : ev (kv σ.s) x = some d) : YStep P Γ l o σ d := fun a e hc => by
 have h1 := (hc.sees o.op.operands).1 x (by rw [ho]; simp [Op.operands]) _ hx
 refine ⟨a.eval x, .inl ⟨qN hc hg, fun w => ?_⟩, h1⟩
 obtain ⟨dst, op, type, pos, after, guard⟩ := o
 simp only at ho
 subst ho
 rfl
theorem y_nil {x : Operand} {b of : Nat} (ho : o.op = .nilCheck x) (hg : gd l o (kv σ.s) = some true) (hx : ev (kv σ.s) x = some (.ptr b of)) : YStep P Γ l o σ (.ptr b of) := fun a e hc => by
 have h1 := (hc.sees o.op.operands).1 x (by rw [ho]; simp [Op.operands]) _ hx
 refine ⟨a.eval x, .inl ⟨qN hc hg, fun w => ?_⟩, h1⟩
 generalize hev : a.eval x = v at h1
 cases h1 with
 | ptr hb =>
  obtain ⟨dst, op, type, pos, after, guard⟩ := o
  simp only at ho
  subst ho
  simp only [execOp, hev]
  rfl
theorem y_field (hT : kU P T) {ty : TypeId} {x : Operand} {f b of ft off sz z1 z2 : Nat} {z3 : Value} {fs : List (TypeId × Nat × Nat)} (ho : o.op = .fieldAddr ty x f) (ht : T ty = some ⟨.struct fs, z1, z2, z3⟩) (hf : fs[f]? = some (ft, off, sz + 1)) (hg : gd l o (kv σ.s) = some true) (hx : ev (kv σ.s) x = some (.ptr b of)) : YStep P Γ l o σ (.ptr b (of + off)) := fun a e hc => by
 have h1 := (hc.sees o.op.operands).1 x (by rw [ho]; simp [Op.operands]) _ hx
 generalize hev : a.eval x = v at h1
 cases h1 with
 | ptr hb =>
  refine ⟨_, .inl ⟨qN hc hg, fun w => ?_⟩, .ptr hb⟩
  obtain ⟨dst, op, type, pos, after, guard⟩ := o
  simp only at ho
  subst ho
  simp [execOp, hev, jQ7 hT ht hf]
end
/-! ### What is forgotten, where cells are not spelled out -/
theorem kL2 {B : Nat → Bool} : ∀ {cs : List Dt}, PlainC cs → cutC B cs = cs
 | [], _ => rfl
 | d :: cs, h => by
  have h1 : ∀ B G, Dt.ok B G d = true ∧ Dt.ok.oks B G cs = true := fun B G => by
   have := h B G
   simpa only [Dt.ok.oks, Bool.and_eq_true] using this
  show jY4 B d :: cutC B cs = _
  rw [kL2 fun B G => (h1 B G).2, jY4, (h1 B fun _ => true).1]
  rfl
theorem jE9 {B H : Nat → Bool} {s s' : List (Nat × Dt)} {b b' : List (Nat × List Dt)} (hs : wH B s some = some s') (hb : jA8 H B b = b') : wH B s (fun s' => jA3 H B b (fun b' => some (s', b'))) = some (s', b') := by
 rw [jB3] at hs ⊢
 cases hs
 rw [jB8, hb]
theorem wW {B H : Nat → Bool} {u : Nat} {c c' : List Dt} {l l' : List (Nat × List Dt)} (h1 : H u = false) (h2 : cutCK B c some = some c') (h3 : jA8 H B l = l') : jA8 H B ((u, c) :: l) = (u, c') :: l' := by
 rw [kK9] at h2
 cases h2
 rw [jA8, h1, h3]
 rfl
theorem qY {B H : Nat → Bool} {u : Nat} {c : List Dt} {l l' : List (Nat × List Dt)} (h1 : H u = false) (h2 : PlainC c) (h3 : jA8 H B l = l') : jA8 H B ((u, c) :: l) = (u, c) :: l' := by
 rw [jA8, h1, h3, kL2 h2]
 rfl
theorem jQ0 {B H : Nat → Bool} {u : Nat} {c : List Dt} {l l' : List (Nat × List Dt)} (h1 : H u = true) (h3 : jA8 H B l = l') : jA8 H B ((u, c) :: l) = l' := by
 rw [jA8, h1, h3]
 rfl
end Go.Proofs.YtkkldicehapklaaGreat
