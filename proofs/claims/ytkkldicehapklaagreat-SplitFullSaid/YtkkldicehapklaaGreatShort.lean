/- Short names of the small steps. -/
import Derived.Test.YtkkldicehapklaaGreatLib3
import Derived.Test.YtkkldicehapklaaGreatTab
namespace Go.Proofs.YtkkldicehapklaaGreat
open Go.RowKit
section
variable {P : Program} {Γ : Ctx} {σ : St} {Q : Exit → St → Prop} {K : St → Prop} {x y c : Code} {id id' : Nat} {z : Operand} {tt : Bool} {X Y : Prop}
theorem zA (h : AWP P Γ x (jR0 (AWP P Γ y Q) Q) σ) : AWP P Γ (.seq x y) Q σ := jR7 h
theorem zB {l : List Oper} (h : zY P Γ l Q l σ) : AWP P Γ (.region id l.toArray false) Q σ := jO2 h
theorem zC (h : AWP P Γ c (jD4 id Q) σ) : AWP P Γ (.block id c) Q σ := awp_block h
theorem zD (h : Q .normal σ) : AWP P Γ .skip Q σ := awp_skip h
theorem zE (h : AWP P Γ c (kC3 Q) σ) : AWP P Γ (.scope c) Q σ := awp_scope h
theorem zF (h : Q .normal σ) : AWP P Γ (.label id) Q σ := awp_label h
theorem zG (h : Q .normal σ) : kC3 Q .normal σ := h
theorem zH (h : Q .ret σ) : kC3 Q .ret σ := h
theorem zI (h : Q (.exit id) σ) : kC3 Q (.exit id) σ := h
theorem zJ (h : Q .ret σ) : AWP P Γ .ret Q σ := awp_ret h
theorem zK (h : Q (.exit id) σ) : AWP P Γ (.exit id) Q σ := awp_exit h
theorem zL (h : CK tt (AWP P Γ x Q σ) (AWP P Γ y Q σ)) (hz : ev (kv σ.s) z = some (.p (.raw (.bool tt))) := by exact rfl) : AWP P Γ (.cond z x y) Q σ := awp_ck hz h
theorem zM (h : K σ) : jR0 K Q .normal σ := h
theorem zN (h : Q .ret σ) : jR0 K Q .ret σ := h
theorem zO (h : Q (.exit id) σ) : jR0 K Q (.exit id) σ := h
theorem zP (h : Q .normal σ) : jD4 id Q .normal σ := h
theorem zQ (h : Q .ret σ) : jD4 id Q .ret σ := h
theorem zR (h : Q .normal σ) : jD4 id Q (.exit id) σ := q_block_exit h
theorem zS (h : Q (.exit id') σ) (hne : (id' == id) = false := by exact rfl) : jD4 id Q (.exit id') σ := kM9 hne h
theorem zT (h : X) (hb : tt = true := by with_reducible exact rfl) : CK tt X Y := by subst hb; exact ck_t h
theorem zU (h : Y) (hb : tt = false := by with_reducible exact rfl) : CK tt X Y := by subst hb; exact ck_f h
theorem zV (h : Y) (hb : tt = !true := by with_reducible exact rfl) : CK tt X Y := by subst hb; exact ck_f h
theorem zW (h : X) (hb : tt = !false := by with_reducible exact rfl) : CK tt X Y := by subst hb; exact ck_t h
theorem zX {τ : St} (hs : SubS σ τ τ.s := by (repeat (first | exact trivial | refine ⟨⟨rfl, rfl⟩, ?_⟩))) (hb : SubB σ τ τ.b := by (repeat (first | exact trivial | refine ⟨⟨rfl, rfl⟩, ?_⟩))) (hg : SubG σ τ.g := by (repeat (first | exact trivial | refine ⟨rfl, ?_⟩))) (hkb : SubK τ Γ.kb := by (repeat (first | exact trivial | refine ⟨rfl, ?_⟩))) : Ghost Γ σ τ := kX hs hb hg hkb
end
section
variable {Γ : Ctx} {o : Oper} {l0 l : List Oper} {Q : Exit → St → Prop} {s : List (Nat × Dt)} {b : List (Nat × List Dt)} {g : List (Nat × Gr)} {t t1 u nm : Nat} {i : TI} {x y : Operand} {p q : Int} {d : Dt} {cs cs' : List Dt}
theorem z0 (h : zY Tryz.prog Γ l0 Q l ⟨(t, dI (p + q)) :: s, b, g⟩) (ho : o.op = .binOp .add t1 x y u := by exact rfl) (ht : tb t1 = some i := by exact rfl) (hx : ev (kv s) x = some (dI p) := by exact rfl) (hy : ev (kv s) y = some (dI q) := by exact rfl) (h1 : -9223372036854775808 ≤ p + q := by omega) (h2 : p + q ≤ 9223372036854775807 := by omega) (hg : gd l0 o (kv s) = some true := by exact rfl) (hd : o.dst = some t := by exact rfl) (hl : Nat.blt t Γ.n = true := by exact rfl) : zY Tryz.prog Γ l0 Q (o :: l) ⟨s, b, g⟩ :=
 a_q (add_step jB ho ht hx hy h1 h2) hg hd hl h
theorem z1 (h : zY Tryz.prog Γ l0 Q l ⟨(t, dI (p - q)) :: s, b, g⟩) (ho : o.op = .binOp .sub t1 x y u := by exact rfl) (ht : tb t1 = some i := by exact rfl) (hx : ev (kv s) x = some (dI p) := by exact rfl) (hy : ev (kv s) y = some (dI q) := by exact rfl) (h1 : -9223372036854775808 ≤ p - q := by omega) (h2 : p - q ≤ 9223372036854775807 := by omega) (hg : gd l0 o (kv s) = some true := by exact rfl) (hd : o.dst = some t := by exact rfl) (hl : Nat.blt t Γ.n = true := by exact rfl) : zY Tryz.prog Γ l0 Q (o :: l) ⟨s, b, g⟩ :=
 a_q (sub_step jB ho ht hx hy h1 h2) hg hd hl h
theorem z2 (h : zY Tryz.prog Γ l0 Q l ⟨(t, d) :: s, b, g⟩) (hq : ax tb (kv s) (kv b) o.op = some d := by exact rfl) (hg : gd l0 o (kv s) = some true := by exact rfl) (hd : o.dst = some t := by exact rfl) (hl : Nat.blt t Γ.n = true := by exact rfl) : zY Tryz.prog Γ l0 Q (o :: l) ⟨s, b, g⟩ := a_ax jB hq hg hd hl h
theorem z3 (h : zY Tryz.prog Γ l0 Q l ⟨(t, .p (.raw undef)) :: s, b, g⟩) (hg : gd l0 o (kv s) = some false := by exact rfl) (hd : o.dst = some t := by exact rfl) (hl : Nat.blt t Γ.n = true := by exact rfl) : zY Tryz.prog Γ l0 Q (o :: l) ⟨s, b, g⟩ := a_skip hg hd hl h
theorem z4 {σ : St} (h : Q .normal σ) : zY Tryz.prog Γ l0 Q [] σ := jD h
theorem z5 {of : Nat} {dy : Dt} (h : zY Tryz.prog Γ l0 Q l ⟨s, (nm, cs') :: b, g⟩) (ho : o.op = .store t1 x y := by exact rfl) (hd : o.dst = none := by exact rfl) (ht : tb t1 = some i := by exact rfl) (hx : ev (kv s) x = some (.ptr nm of) := by exact rfl) (hb : kv b nm = some cs := by exact rfl) (hy : ev (kv s) y = some dy := by exact rfl)
  (hl : jK5 dy = true := by exact rfl) (hsz : Nat.beq dy.cells.length i.sz = true := by exact rfl) (hst : jI7 cs of dy some = some cs' := by exact rfl) (hg : gd l0 o (kv s) = some true := by exact rfl) : zY Tryz.prog Γ l0 Q (o :: l) ⟨s, b, g⟩ := a_store jB ho hd ht hx hb hy hl hsz hst hg h
theorem z6 {parts : Array (Nat × Operand)} (h : zY Tryz.prog Γ l0 Q l ⟨(t, d) :: s, b, g⟩) (ho : o.op = .build t1 parts := by exact rfl) (hp : jF7 (kv s) parts.toList (buildD tb t1) = some d := by exact rfl) (hz : (match tb t1 with | some i => yR (uM i.zero) | none => false) = true := by exact rfl) (hg : gd l0 o (kv s) = some true := by exact rfl) (hd : o.dst = some t := by exact rfl) (hl : Nat.blt t Γ.n = true := by exact rfl) : zY Tryz.prog Γ l0 Q (o :: l) ⟨s, b, g⟩ :=
 a_q (jN6 jB ho hp hz) hg hd hl h
theorem z7 {len : Nat} {parts : Array (Nat × Operand)} {ps : List Pl} (h : zY Tryz.prog Γ l0 Q l ⟨(t, .p (.sl true len ps)) :: s, b, g⟩) (ho : o.op = .buildSlice t1 len parts := by exact rfl) (hp : jF7 (kv s) parts.toList (jJ0 tb t1 len) = some ps := by exact rfl) (hg : gd l0 o (kv s) = some true := by exact rfl) (hd : o.dst = some t := by exact rfl) (hl : Nat.blt t Γ.n = true := by exact rfl) : zY Tryz.prog Γ l0 Q (o :: l) ⟨s, b, g⟩ :=
 a_q (jP0 jB ho hp) hg hd hl h
theorem z8 {dx : Dt} (h : zY Tryz.prog Γ l0 Q l ⟨(t, .ptr nm 0) :: s, (nm, cs) :: b, g⟩) (ho : o.op = .box t1 x := by exact rfl) (hnm : jY1 0 b some = some nm := by exact rfl) (hx : ev (kv s) x = some dx := by exact rfl) (hk : yR dx = true := by exact rfl) (hcs : wB dx some = some cs := by exact rfl) (hg : gd l0 o (kv s) = some true := by exact rfl) (hd : o.dst = some t := by exact rfl) (hl : Nat.blt t Γ.n = true := by exact rfl) (hf : kv b nm = none := by exact rfl) : zY Tryz.prog Γ l0 Q (o :: l) ⟨s, b, g⟩ :=
 a_box ho hnm hx hk hcs hg hd hl hf h
theorem z9 (h : zY Tryz.prog Γ l0 Q l ⟨(t, .ptr nm 0) :: s, (nm, cs) :: b, g⟩) (ho : o.op = .alloc t1 := by exact rfl) (hnm : jY1 0 b some = some nm := by exact rfl) (ht : tb t1 = some i := by exact rfl) (hk : yR (uM i.zero) = true := by exact rfl) (hcs : jH4 i.zero (fun d => wB d some) = some cs := by exact rfl) (hg : gd l0 o (kv s) = some true := by exact rfl) (hd : o.dst = some t := by exact rfl) (hl : Nat.blt t Γ.n = true := by exact rfl) (hf : kv b nm = none := by exact rfl) : zY Tryz.prog Γ l0 Q (o :: l) ⟨s, b, g⟩ :=
 a_new jB ho hnm ht hk hcs hg hd hl hf h
end
section
variable {n : Nat} {B B0 : List (Nat × List Dt)} {K : St → Prop} {D : List Nat} {L : List (Nat × Nat)} {ix : Nat} {o : Oper} {l0 l : List Oper} {s : List (Nat × Dt)} {b : List (Nat × List Dt)} {g : List (Nat × Gr)} {t t1 u nm : Nat} {i : TI} {x y : Operand} {p q : Int} {d : Dt} {cs cs' : List Dt}
theorem w0 (h : QRun Tryz.prog n l0 B B0 K (ix + 1) D L l ⟨(t, dI (p + q)) :: s, b, g⟩) (ho : o.op = .binOp .add t1 x y u := by exact rfl) (ht : tb t1 = some i := by exact rfl) (hx : ev (kv s) x = some (dI p) := by exact rfl) (hy : ev (kv s) y = some (dI q) := by exact rfl) (h1 : -9223372036854775808 ≤ p + q := by omega) (h2 : p + q ≤ 9223372036854775807 := by omega) (hg : gd l0 o (kv s) = some true := by exact rfl) (hd : o.dst = some t := by exact rfl) : QRun Tryz.prog n l0 B B0 K ix D L (o :: l) ⟨s, b, g⟩ :=
 r_q (add_step jB ho ht hx hy h1 h2) hg hd h
theorem w1 (h : QRun Tryz.prog n l0 B B0 K (ix + 1) D L l ⟨(t, dI (p - q)) :: s, b, g⟩) (ho : o.op = .binOp .sub t1 x y u := by exact rfl) (ht : tb t1 = some i := by exact rfl) (hx : ev (kv s) x = some (dI p) := by exact rfl) (hy : ev (kv s) y = some (dI q) := by exact rfl) (h1 : -9223372036854775808 ≤ p - q := by omega) (h2 : p - q ≤ 9223372036854775807 := by omega) (hg : gd l0 o (kv s) = some true := by exact rfl) (hd : o.dst = some t := by exact rfl) : QRun Tryz.prog n l0 B B0 K ix D L (o :: l) ⟨s, b, g⟩ :=
 r_q (sub_step jB ho ht hx hy h1 h2) hg hd h
theorem w2 {of : Nat} {dy : Dt} (h : QRun Tryz.prog n l0 B B0 K (ix + 1) (nm :: D) L l ⟨s, (nm, cs') :: b, g⟩) (ho : o.op = .store t1 x y := by exact rfl) (hd : o.dst = none := by exact rfl) (ht : tb t1 = some i := by exact rfl) (hx : ev (kv s) x = some (.ptr nm of) := by exact rfl) (hb : kv b nm = some cs := by exact rfl) (hy : ev (kv s) y = some dy := by exact rfl)
  (hl : jK5 dy = true := by exact rfl) (hsz : Nat.beq dy.cells.length i.sz = true := by exact rfl) (hst : jI7 cs of dy some = some cs' := by exact rfl) (hg : gd l0 o (kv s) = some true := by exact rfl) (hB : kv B nm = none := by exact rfl) (hD : D.contains nm = false := by exact rfl) : QRun Tryz.prog n l0 B B0 K ix D L (o :: l) ⟨s, b, g⟩ := kF8 jB ho hd ht hx hb hy hl hsz hst hg hB (.inl hD) h
theorem wL {of : Nat} {dy : Dt} (h : QRun Tryz.prog n l0 B B0 K (ix + 1) (nm :: D) L l ⟨s, (nm, cs') :: b, g⟩) (ho : o.op = .store t1 x y := by exact rfl) (hd : o.dst = none := by exact rfl) (ht : tb t1 = some i := by exact rfl) (hx : ev (kv s) x = some (.ptr nm of) := by exact rfl) (hb : kv b nm = some cs := by exact rfl) (hy : ev (kv s) y = some dy := by exact rfl)
  (hl : jK5 dy = true := by exact rfl) (hsz : Nat.beq dy.cells.length i.sz = true := by exact rfl) (hst : jI7 cs of dy some = some cs' := by exact rfl) (hg : gd l0 o (kv s) = some true := by exact rfl) (hB : kv B nm = none := by exact rfl) (hD : lateB l0 o ix = true := by kernel_rfl) : QRun Tryz.prog n l0 B B0 K ix D L (o :: l) ⟨s, b, g⟩ := kF8 jB ho hd ht hx hb hy hl hsz hst hg hB (.inr hD) h
theorem w3 (h : QRun Tryz.prog n l0 B B0 K (ix + 1) D L l ⟨(t, d) :: s, b, g⟩) (hq : ax tb (kv s) (kv B) o.op = some d := by exact rfl) (hg : gd l0 o (kv s) = some true := by exact rfl) (hd : o.dst = some t := by exact rfl) : QRun Tryz.prog n l0 B B0 K ix D L (o :: l) ⟨s, b, g⟩ := r_ax jB hq hg hd h
theorem w4 (h : QRun Tryz.prog n l0 B B0 K (ix + 1) D L l ⟨(t, .p (.raw undef)) :: s, b, g⟩) (hg : gd l0 o (kv s) = some false := by exact rfl) (hd : o.dst = some t := by exact rfl) : QRun Tryz.prog n l0 B B0 K ix D L (o :: l) ⟨s, b, g⟩ := r_skip hg hd h
theorem w5 (h : K ⟨s, b, g⟩) : QRun Tryz.prog n l0 B B0 K ix D L [] ⟨s, b, g⟩ := h
theorem w6 {parts : Array (Nat × Operand)} (h : QRun Tryz.prog n l0 B B0 K (ix + 1) D L l ⟨(t, d) :: s, b, g⟩) (ho : o.op = .build t1 parts := by exact rfl) (hp : jF7 (kv s) parts.toList (buildD tb t1) = some d := by exact rfl) (hz : (match tb t1 with | some i => yR (uM i.zero) | none => false) = true := by exact rfl) (hg : gd l0 o (kv s) = some true := by exact rfl) (hd : o.dst = some t := by exact rfl) : QRun Tryz.prog n l0 B B0 K ix D L (o :: l) ⟨s, b, g⟩ :=
 r_q (jN6 jB ho hp hz) hg hd h
theorem w7 {len : Nat} {parts : Array (Nat × Operand)} {ps : List Pl} (h : QRun Tryz.prog n l0 B B0 K (ix + 1) D L l ⟨(t, .p (.sl true len ps)) :: s, b, g⟩) (ho : o.op = .buildSlice t1 len parts := by exact rfl) (hp : jF7 (kv s) parts.toList (jJ0 tb t1 len) = some ps := by exact rfl) (hg : gd l0 o (kv s) = some true := by exact rfl) (hd : o.dst = some t := by exact rfl) : QRun Tryz.prog n l0 B B0 K ix D L (o :: l) ⟨s, b, g⟩ :=
 r_q (jP0 jB ho hp) hg hd h
theorem w8 {dx : Dt} (h : QRun Tryz.prog n l0 B B0 K (ix + 1) D L l ⟨(t, .ptr nm 0) :: s, (nm, cs) :: b, g⟩) (ho : o.op = .box t1 x := by exact rfl) (hnm : jY1 0 b some = some nm := by exact rfl) (hx : ev (kv s) x = some dx := by exact rfl) (hk : yR dx = true := by exact rfl) (hcs : wB dx some = some cs := by exact rfl) (hg : gd l0 o (kv s) = some true := by exact rfl) (hd : o.dst = some t := by exact rfl) (hf : kv b nm = none := by exact rfl) (hf2 : kv B nm = none := by exact rfl) : QRun Tryz.prog n l0 B B0 K ix D L (o :: l) ⟨s, b, g⟩ :=
 r_box ho hnm hx hk hcs hg hd hf hf2 h
theorem w9 (h : QRun Tryz.prog n l0 B B0 K (ix + 1) D L l ⟨(t, .ptr nm 0) :: s, (nm, cs) :: b, g⟩) (ho : o.op = .alloc t1 := by exact rfl) (hnm : jY1 0 b some = some nm := by exact rfl) (ht : tb t1 = some i := by exact rfl) (hk : yR (uM i.zero) = true := by exact rfl) (hcs : jH4 i.zero (fun d => wB d some) = some cs := by exact rfl) (hg : gd l0 o (kv s) = some true := by exact rfl) (hd : o.dst = some t := by exact rfl) (hf : kv b nm = none := by exact rfl) (hf2 : kv B nm = none := by exact rfl) : QRun Tryz.prog n l0 B B0 K ix D L (o :: l) ⟨s, b, g⟩ :=
 r_new jB ho hnm ht hk hcs hg hd hf hf2 h
end
/-! Steps as far as they go: what is left is asked for. -/
section
structure HidP (Y : Prop) : Prop where
 out : Y
variable {X Y : Prop}
theorem goO (h : Y) (e : HidP Y → X := by intro h; (repeat (first | refine z0 ?_ | refine z1 ?_ | refine z2 ?_ | refine z3 ?_ | refine z4 ?_ | refine z5 ?_ | refine z6 ?_ | refine z7 ?_ | refine z8 ?_ | refine z9 ?_)); exact h.out) : X := e ⟨h⟩
theorem goC (h : Y) (e : HidP Y → X := by intro h; (repeat (first | refine zA ?_ | refine zB ?_ | refine zC ?_ | refine zD ?_ | refine zE ?_ | refine zF ?_ | refine zG ?_ | refine zH ?_ | refine zI ?_ | refine zJ ?_ | refine zK ?_ | refine zL ?_ | refine zT ?_ | refine zU ?_ | refine zV ?_ | refine zW ?_ | refine zM ?_ | refine zN ?_ | refine zO ?_ | refine zP ?_ | refine zQ ?_ | refine zR ?_ | refine zS ?_)); exact h.out) : X := e ⟨h⟩
theorem go (h : Y) (e : HidP Y → X := by intro h; (repeat (first | refine zA ?_ | refine zB ?_ | refine zC ?_ | refine zD ?_ | refine zE ?_ | refine zF ?_ | refine zG ?_ | refine zH ?_ | refine zI ?_ | refine zJ ?_ | refine zK ?_ | refine zL ?_ | refine zT ?_ | refine zU ?_ | refine zV ?_ | refine zW ?_ | refine zM ?_ | refine zN ?_ | refine zO ?_ | refine zP ?_ | refine zQ ?_ | refine zR ?_ | refine zS ?_ | refine z0 ?_ | refine z1 ?_ | refine z2 ?_ | refine z3 ?_ | refine z4 ?_ | refine z5 ?_ | refine z6 ?_ | refine z7 ?_ | refine z8 ?_ | refine z9 ?_)); exact h.out) : X := e ⟨h⟩
theorem goK (h : Y) (e : HidP Y → X := by intro h; (repeat (first | refine zA ?_ | refine zB ?_ | refine zC ?_ | refine zD ?_ | refine zE ?_ | refine zF ?_ | refine zG ?_ | refine zH ?_ | refine zI ?_ | refine zJ ?_ | refine zK ?_ | refine zL ?_ | refine zT ?_ | refine zU ?_ | refine zV ?_ | refine zW ?_ | refine zM ?_ | refine zN ?_ | refine zO ?_ | refine zP ?_ | refine zQ ?_ | refine zR ?_ | refine zS ?_ | refine a_q (kC7 jB rfl rfl rfl rfl (by omega) (by omega)) rfl rfl rfl ?_ | refine a_q (remk_step rfl rfl rfl (by omega) (by omega)) rfl rfl rfl ?_ | refine z0 ?_ | refine z1 ?_ | refine z2 ?_ | refine z3 ?_ | refine z4 ?_ | refine z5 ?_ | refine z6 ?_ | refine z7 ?_ | refine z8 ?_ | refine z9 ?_)); exact h.out) : X := e ⟨h⟩
theorem goQ (h : Y) (e : HidP Y → X := by intro h; (repeat (first | refine w0 ?_ | refine w1 ?_ | refine w2 ?_ | refine w3 ?_ | refine w4 ?_ | refine w5 ?_ | refine w6 ?_ | refine w7 ?_ | refine w8 ?_ | refine w9 ?_)); exact h.out) : X := e ⟨h⟩
end
/-! Calls that may panic, beginnings and ends of functions: with what is known of itself left out. -/
section
variable {P : Program} {T : Nat → Option TI} {Γ : Ctx} {σ : St} {o : Oper} {l0 l : List Oper} {Q : Exit → St → Prop}
variable {s s' : List (Nat × Dt)} {b b' : List (Nat × List Dt)} {g : List (Nat × Gr)} {t : Nat} {d : Dt} {f : FuncId} {keep : List Nat} {ds : List Dt} {bs : Bxs} {R : Dt → Bxs → Prop} {X : Value → Bxs → Prop} {rs : List ResultVar} {n : Nat} {fn : Func} {c : Code}
theorem cX {xs : List Operand} {ats : Array TypeId} (hC : ImpX Tryz.prog f keep ds bs R X) (hf : uH Tryz.prog f)
  (hfree : ∀ d bs', R d bs' → FreeIn bs b bs') (hfreeX : ∀ v bs', X v bs' → FreeIn bs b bs') (hx : ∀ v bs', X v bs' → Q (.panic [pe v]) ⟨s', bs' ++ b', g⟩) (h : ∀ d bs', R d bs' → zY Tryz.prog Γ l0 Q l ⟨(t, d) :: s', bs' ++ b', g⟩)
  (ho : o.op = .call { callee := .value (.func f), args := xs.toArray, argTypes := ats } := by exact rfl) (he : jK4 (kv s) xs some = some ds := by exact rfl) (hok : Dt.ok.oks (jM bs) (fun _ => false) ds = true := by exact rfl) (hs : SubH ⟨s, b, g⟩ (jM bs) bs := by (repeat (first | exact trivial | refine ⟨⟨rfl, rfl⟩, ?_⟩))) (hkb : KeepOk keep bs Γ.kb := by (repeat (first | exact trivial | refine ⟨.inr rfl, ?_⟩ | refine ⟨.inl rfl, ?_⟩)))
  (hg : gd l0 o (kv s) = some true := by exact rfl) (hd : o.dst = some t := by exact rfl) (hl : Nat.blt t Γ.n = true := by exact rfl) (hcut : wH (fun b => !jM bs b || inL keep b) s (fun s' => jA3 (jM bs) (fun b => !jM bs b || inL keep b) b (fun b' => some (s', b'))) = some (s', b') := by exact rfl) : zY Tryz.prog Γ l0 Q (o :: l) ⟨s, b, g⟩ :=
 a_callX hC ho hf he hok hs hkb hg hd hl hcut hfree hfreeX hx h
theorem fR (bs' : Bxs) (hR : R d bs') (h : resI tb σ rs = some d := by exact rfl) (h1 : d.ok (jM bs') (fun _ => false) = true := by exact rfl) (h2 : SubH σ (jM bs') bs' := by (repeat (first | exact trivial | refine ⟨⟨rfl, rfl⟩, ?_⟩))) (h3 : NamesIn bs' keep := by (repeat (first | exact trivial | refine ⟨rfl, ?_⟩))) : FinX tb rs keep R X .ret σ := finX_ret bs' h h1 h2 h3 hR
theorem fN (bs' : Bxs) (hR : R d bs') (h : resI tb σ rs = some d := by exact rfl) (h1 : d.ok (jM bs') (fun _ => false) = true := by exact rfl) (h2 : SubH σ (jM bs') bs' := by (repeat (first | exact trivial | refine ⟨⟨rfl, rfl⟩, ?_⟩))) (h3 : NamesIn bs' keep := by (repeat (first | exact trivial | refine ⟨rfl, ?_⟩))) : FinX tb rs keep R X .normal σ := kE3 bs' h h1 h2 h3 hR
theorem fP {v : Value} (bs' : Bxs) (hX : X v bs') (h2 : SubH σ (jM bs') bs' := by (repeat (first | exact trivial | refine ⟨⟨rfl, rfl⟩, ?_⟩))) (h3 : NamesIn bs' keep := by (repeat (first | exact trivial | refine ⟨rfl, ?_⟩))) : FinX T rs keep R X (.panic [pe v]) σ := finX_panic bs' h2 h3 hX
theorem sX (hf : Tryz.prog.funcs[f]? = some fn) (hnn : fn.ntmps = n) (h : ∀ w cl own kf, AWP Tryz.prog ⟨n, w, cl, own, jN0 kf keep, []⟩ c (FinX tb rs keep R X) ⟨s, bs, []⟩) (hb : fn.body = some c := by exact rfl) (hrs : fn.results.toList = rs := by exact rfl) (hn : Nat.ble ds.length n = true := by exact rfl) (hs : jW8 0 ds some = some s := by exact rfl) (hkeep : NamesIn bs keep := by (repeat (first | exact trivial | refine ⟨rfl, ?_⟩))) : ImpX Tryz.prog f keep ds bs R X :=
 impX_fin jB hf hb hnn hrs hn hs hkeep h
end
section
variable {X Y : Prop}
theorem gP (h : Y) (e : HidP Y → X := by intro h; (repeat (first | refine q_then_panic ?_ | refine kN6 ?_ | refine kN5 ?_ | refine q_last_panic ?_ | refine q_jump_panic ?_)); exact h.out) : X := e ⟨h⟩
end
end Go.Proofs.YtkkldicehapklaaGreat
