/- Slices over variables of ours: rules; bits. -/
import Derived.Test.YtcjooalmhppkiaaRRRRAbs17
namespace Go.Proofs.YtcjooalmhppkiaaRRRR
open Go.RowKit

section
variable {P : Program} {T : Nat → Option TI} {Γ : Ctx} {o : Oper} {l0 l : List Oper} {Q : Exit → St → Prop}
variable {s s' : List (Nat × Dt)} {b b' : List (Nat × List Dt)} {g : List (Nat × Gr)} {t : Nat}

theorem run_appendOp {a : Act} {ty : TypeId} {x y : Operand} {w w' : World} {v : Value} (ho : o.op = .call { callee := .builtin .append, args := #[x, y], argTypes := #[ty, ty] }) (h : (Builtin.append_ #[ty, ty] o.type #[a.eval x, a.eval y]).run P w = .ok v w') : (execOp a.eval o).run P w = .ok (.value v) w' := by
  obtain ⟨dst, op, type, pos, after, guard⟩ := o
  simp only at ho
  subst ho
  simp only [execOp, resolve, invoke, builtin, Sem.run_bind, Sem.run_pure, Result.andThen_ok, List.map_toArray, List.map_cons, List.map_nil, h]

theorem aops_rowA (hT : TabOk P T) (nm : Nat) {ty : TypeId} {x y : Operand} {n m c el z1 z2 : Nat} {z3 : Value} {ps qs : List Pl} {dy : Dt} {i : TI} (ho : o.op = .call { callee := .builtin .append, args := #[x, y], argTypes := #[ty, ty] }) (ht : T ty = some ⟨.slice el, z1, z2, z3⟩) (hel : T el = some i) (hzs : Nat.beq i.zero.cells.size 1 = true) (hsz : Nat.beq i.sz 1 = true)
    (hg : gd l0 o (kv s) = some true) (hd : o.dst = some t) (hl : Nat.blt t Γ.n = true) (hkb : kv Γ.kb nm = none) (hx : ∀ (a : Act) (e : Env), Conc Γ ⟨s, b, g⟩ e a → RowAt e nm n c ps (a.eval x)) (hcm : c ≤ maxLen) (hy : ev (kv s) y = some dy) (hdy : slOf dy = some (m, qs)) (hm : 0 < m) (hqs : qs.length = m)
    (h63 : n + m ≤ maxLen) (hby : (n + m) * i.bytes ≤ 140737488355328) (hcut : cutSK (notN nm) s (fun s' => cutBK (Nat.beq nm) (notN nm) b (fun b' => some (s', b'))) = some (s', b'))
    (h : ∀ cs' c', cs'.length = c' → c' ≤ maxLen → n + m ≤ c' → cs'.take (n + m) = (ps ++ qs).map Dt.p → PlainC cs' → AOps P Γ l0 Q l ⟨(t, .arr nm 0 (n + m) c') :: s', (nm, cs') :: b', g⟩) : AOps P Γ l0 Q (o :: l) ⟨s, b, g⟩ := by
  rw [cutSK_eq, cutBK_eq] at hcut
  cases hcut
  refine ⟨fun a e hc => ?_⟩
  unfold wpList
  rw [if_pos (gd_wanted hc hg)]
  have hsee := hc.sees o.op.operands
  have hy1 := slOf_rep (hsee.1 y (by rw [ho]; simp [Op.operands, Call.operands]) _ hy) hdy
  obtain ⟨v, e', cs', c', hrun, h1, h2, h3, h4, hpl, h5, h6⟩ := appendA_core hT hc (ty := o.type) ht hel (Nat.eq_of_beq_eq_true hzs) (Nat.eq_of_beq_eq_true hsz) hkb (hx a e hc) hcm hy1 hm hqs h63 hby
  refine .inl ?_
  unfold Oper.wp
  rw [run_appendOp ho hrun]
  have := (h5.put (dst := o.dst) (dst_lt hd hl) h6)
  rw [hd] at this
  show wpList P l0.toArray (Post Γ Q) l (a.put o.dst v) e'.w
  rw [hd]
  exact (h cs' c' h1 h2 h3 h4 hpl).run _ e' this

/-- append to a slice over a variable of ours. -/
theorem a_appendA (hT : TabOk P T) {nm : Nat} {ty : TypeId} {x y : Operand} {n m c el z1 z2 : Nat} {z3 : Value} {cs : List Dt} (ps : List Pl) {qs : List Pl} {dy : Dt} {i : TI} (ho : o.op = .call { callee := .builtin .append, args := #[x, y], argTypes := #[ty, ty] }) (ht : T ty = some ⟨.slice el, z1, z2, z3⟩) (hel : T el = some i) (hzs : Nat.beq i.zero.cells.size 1 = true) (hsz : Nat.beq i.sz 1 = true)
    (hg : gd l0 o (kv s) = some true) (hd : o.dst = some t) (hl : Nat.blt t Γ.n = true) (hx : ev (kv s) x = some (.arr nm 0 n c)) (hkb : kv Γ.kb nm = none) (hb : kv b nm = some cs) (hy : ev (kv s) y = some dy) (hdy : slOf dy = some (m, qs)) (hcut : cutSK (notN nm) s (fun s' => cutBK (Nat.beq nm) (notN nm) b (fun b' => some (s', b'))) = some (s', b'))
    (hcs : cs.length = c) (hnc : n ≤ c) (hps : ps.length = n) (htk : cs.take n = ps.map Dt.p) (hcm : c ≤ maxLen) (hm : 0 < m) (hqs : qs.length = m) (h63 : n + m ≤ maxLen) (hby : (n + m) * i.bytes ≤ 140737488355328)
    (h : ∀ cs' c', cs'.length = c' → c' ≤ maxLen → n + m ≤ c' → cs'.take (n + m) = (ps ++ qs).map Dt.p → PlainC cs' → AOps P Γ l0 Q l ⟨(t, .arr nm 0 (n + m) c') :: s', (nm, cs') :: b', g⟩) : AOps P Γ l0 Q (o :: l) ⟨s, b, g⟩ := by
  refine aops_rowA hT nm ho ht hel hzs hsz hg hd hl hkb (fun a e hc => ?_) hcm hy hdy hm hqs h63 hby hcut h
  have hx1 := (hc.sees o.op.operands).1 x (by rw [ho]; simp [Op.operands, Call.operands]) _ hx
  obtain ⟨k, vs, el0, h1, h2, h3⟩ := hc.boxes nm cs hb
  generalize a.eval x = vx at hx1
  cases hx1 with
  | arr hk =>
    rw [h1] at hk
    cases hk
    exact .some h1 h2 (by rw [h3.1, hcs]) hnc hps (plain_rep h3 (by rw [hps]; exact htk))
/-- append to nothing, which becomes a slice over a variable of ours. -/
theorem a_appendN (hT : TabOk P T) (nm : Nat) {ty : TypeId} {x y : Operand} {m el z1 z2 : Nat} {z3 : Value} {qs : List Pl} {dy : Dt} {i : TI} (ho : o.op = .call { callee := .builtin .append, args := #[x, y], argTypes := #[ty, ty] }) (ht : T ty = some ⟨.slice el, z1, z2, z3⟩) (hel : T el = some i) (hzs : Nat.beq i.zero.cells.size 1 = true) (hsz : Nat.beq i.sz 1 = true)
    (hg : gd l0 o (kv s) = some true) (hd : o.dst = some t) (hl : Nat.blt t Γ.n = true) (hx : ev (kv s) x = some (.p (.sl true 0 []))) (hkb : kv Γ.kb nm = none) (hy : ev (kv s) y = some dy) (hdy : slOf dy = some (m, qs)) (hcut : cutSK (notN nm) s (fun s' => cutBK (Nat.beq nm) (notN nm) b (fun b' => some (s', b'))) = some (s', b'))
    (hm : 0 < m) (hqs : qs.length = m) (h63 : m ≤ maxLen) (hby : m * i.bytes ≤ 140737488355328)
    (h : ∀ cs' c', cs'.length = c' → c' ≤ maxLen → m ≤ c' → cs'.take m = qs.map Dt.p → PlainC cs' → AOps P Γ l0 Q l ⟨(t, .arr nm 0 m c') :: s', (nm, cs') :: b', g⟩) : AOps P Γ l0 Q (o :: l) ⟨s, b, g⟩ := by
  refine aops_rowA hT nm (n := 0) (c := 0) (ps := []) ho ht hel hzs hsz hg hd hl hkb (fun a e hc => ?_) (Nat.zero_le _) hy hdy hm hqs (by omega) (by simpa using hby) hcut (fun cs' c' h1 h2 h3 h4 hpl => ?_)
  · have hx1 := (hc.sees o.op.operands).1 x (by rw [ho]; simp [Op.operands, Call.operands]) _ hx
    generalize a.eval x = vx at hx1
    cases hx1 with
    | p h1 =>
      obtain ⟨A, cap, rfl, _, _, _, h5, _⟩ := sl_open h1
      have := h5 rfl
      subst this
      cases A with
      | none => exact .none rfl rfl rfl
      | some ad => exact .empty rfl rfl rfl
  · simp only [Nat.zero_add, List.nil_append] at h3 h4 ⊢
    exact h cs' c' h1 h2 h3 h4 hpl

/-- A slice over a variable of ours, cut short. -/
theorem sliceA_step {S : Nat → Option Dt} {B : Nat → Option (List Dt)} (hT : TabOk P T) {ty el : TypeId} {x y : Operand} {nm n c k : Nat} {kk : IntKind} {h : Int} {z1 z2 : Nat} {z3 : Value} {j : TI} (ho : o.op = .slice ty x none (some y) none) (ht : T ty = some ⟨.slice el, z1, z2, z3⟩) (he : T el = some j)
    (hx : ev S x = some (.arr nm 0 n c)) (hhi : ev S y = some (dK kk h)) (h1 : h = k) (h2 : k ≤ c) : QStep P o S B (.arr nm 0 k c) none := by
  subst h1
  refine qstep_run fun a e hs => ?_
  have hx1 := hs.1 x (by rw [ho]; simp [Op.operands]) _ hx
  have hy := raw_eq (hs.1 y (by rw [ho]; simp [Op.operands]) _ hhi)
  obtain ⟨d0, hd0, hk⟩ := hT.desc ty _ ht
  cases d0 <;> simp only [tkOf, reduceCtorEq, TK.slice.injEq] at hk
  rw [hk] at hd0
  generalize hv : a.eval x = vx at hx1
  cases hx1 with
  | arr hbx =>
    rename_i kb
    have hkc : (k : Int) ≤ (c : Int) := by omega
    have hbounds : (Instr.sliceBounds true n c none (some (a.eval y)) none).run P e.w = .ok (0, k, c) e.w := by
      simp [Instr.sliceBounds, Instr.sliceBound, hy, asIntOf, h2]
    refine ⟨.slice (some ⟨kb, 0, none⟩) k c, ?_, .arr hbx⟩
    obtain ⟨dst, op, type, pos, after, guard⟩ := o
    simp only at ho
    subst ho
    simp only [execOp, Instr.sliceAt, hv, Sem.run_bind, run_underlying hd0, Result.andThen_ok, Instr.slice, Option.map_none, Option.map_some, hbounds, run_sizeOf hT he, Sem.run_pure, Nat.sub_zero, Nat.zero_mul, add_none, ite_self]

/-- The claims of a block of nobody are turned. -/
theorem Conc.claim {σ : St} {e : Env} {a : Act} (hc : Conc Γ σ e a) {k : Nat} (m : Nat) (hbase : Γ.w0.heap.size ≤ k ∨ Γ.own k) (hcl : e.cl k = some 0) (hgr : e.gr k = none) (hfree : ∀ c, e.bx c ≠ some k) :
    Conc Γ σ { e with cl := fun j => if j = k then some m else e.cl j } a ∧ Ends e { e with cl := fun j => if j = k then some m else e.cl j } := by
  have hE : Ends e { e with cl := fun j => if j = k then some m else e.cl j } := by
    refine ⟨fun b' o v hcl' hv => ⟨fun n hn => ?_, hv⟩, fun _ _ h => h, fun _ G h => ⟨G, h, rfl, rfl, Nat.le_refl _⟩, fun j g G cur h5 h6 h7 => ⟨h5, cur, h7, rfl⟩⟩
    have hne : b' ≠ k := fun e' => by subst e'; exact absurd (hcl' 0 hcl) (by omega)
    have hn' : (if b' = k then some m else e.cl b') = some n := hn
    rw [if_neg hne] at hn'
    exact hcl' n hn'
  refine ⟨⟨hc.size, hc.df, fun t d ht => (hc.slots t d ht).next hE, fun b' ds hd => (hc.boxes b' ds hd).ends hE rfl, hc.nobox, hc.gs, ⟨hc.env.kept, fun j hj ho => ?_, fun b' j hj => ?_, hc.env.inj, fun j g hg => ?_, hc.env.kb⟩⟩, hE⟩
  · show (if j = k then some m else e.cl j) = _
    rw [if_neg (fun e' => by subst e'; rcases hbase with h2 | h2 <;> first | omega | exact ho h2)]; exact hc.env.cl j hj ho
  · obtain ⟨h5, h6, h7, h8⟩ := hc.env.bx b' j hj
    refine ⟨h5, h6, ?_, h8⟩
    show (if j = k then some m else e.cl j) = _
    rw [if_neg (fun e' => hfree b' (by rw [← e']; exact hj))]; exact h7
  · obtain ⟨G, cur, h5, h6, h7, h8, h9⟩ := hc.env.gr j g hg
    refine ⟨G, cur, h5, h6, h7, ?_, h9⟩
    show (if j = k then some m else e.cl j) = _
    rw [if_neg (fun e' => by subst e'; rw [hgr] at hg; cases hg)]; exact h8

def Pl.lf : Pl → Bool
  | .raw v => leafV v
  | .sl .. => true
theorem lf_val {e : Env} {v : Value} {x : Pl} (h : PRep e v x) (hl : x.lf = true) : leafV v = true := by
  cases h with
  | raw v => exact hl
  | sl => rfl
/-- A slice over a variable of ours becomes plain data; the variable is no more. -/
theorem freeze_ghost (t nm : Nat) {n c : Nat} {cs : List Dt} (ps : List Pl) (ht : kv s t = some (.arr nm 0 n c)) (hb : kv b nm = some cs) (hkb : kv Γ.kb nm = none) (hcut : cutSK (notN nm) s (fun s' => cutBK (Nat.beq nm) (notN nm) b (fun b' => some (s', b'))) = some (s', b'))
    (hcs : cs.length = c) (hnc : n ≤ c) (hps : ps.length = n) (htk : cs.take n = ps.map Dt.p) (hcm : c ≤ maxLen) (hlf : ∀ x ∈ ps, x.lf = true) : Ghost Γ ⟨s, b, g⟩ ⟨(t, .p (.sl false n ps)) :: s', b', g⟩ := by
  rw [cutSK_eq, cutBK_eq] at hcut
  cases hcut
  intro a e hc
  have hfor := hc.forget nm hkb
  have h1 := hc.slots t _ ht
  obtain ⟨k, vs, el, h2, h3, h4⟩ := hc.boxes nm cs hb
  have hbx := hc.env.bx nm k h2
  have hfree : ∀ x, (e.cut (notN nm) fun _ => true).bx x ≠ some k := fun x hx => by
    have hx' : (if notN nm x = true then e.bx x else none) = some k := hx
    split at hx'
    · rename_i hne; exact notN_ne hne (hc.env.inj _ _ _ hx' h2)
    · cases hx'
  have hgr0 : (e.cut (notN nm) fun _ => true).gr k = none := by
    show (match e.gr k with | some g => if true = true then some g else none | none => none) = none
    rw [hbx.2.2.2]
  obtain ⟨h5, hE⟩ := hfor.claim n hbx.2.1 hbx.2.2.1 hgr0 hfree
  refine ⟨{ e.cut (notN nm) (fun _ => true) with cl := fun j => if j = k then some n else (e.cut (notN nm) fun _ => true).cl j }, rfl, h5.size, h5.df, fun u d hu => ?_, h5.boxes, h5.nobox, h5.gs, h5.env⟩
  simp only [lk_cons] at hu
  split at hu
  · rename_i htu
    subst htu
    cases hu
    have hlen : vs.length = c := by rw [h4.1, hcs]
    have hpl := plain_rep h4 (by rw [hps]; exact htk)
    generalize slot a t = v at h1
    cases h1 with
    | arr hk =>
      rw [h2] at hk
      cases hk
      refine .p (sl_shut hnc hcm (fun h => by cases h) (fun h => by cases h) (.inr ⟨k, 0, rfl, fun j => vs.getD j undef, fun j x hx => ?_⟩))
      have hj := (List.getElem?_eq_some_iff.1 hx).1
      have hj' : j < vs.length := by omega
      have hgd : vs.getD j undef = vs[j] := by simp [hj']
      have hu : vs[j]? = some vs[j] := List.getElem?_eq_getElem hj'
      have hr := hpl j _ x hu hx
      show Env.claimed _ k (0 + j) ∧ World.cell? _ ⟨k, 0 + j, none⟩ = some (vs.getD j undef) ∧ leafV (vs.getD j undef) = true ∧ PRep _ (vs.getD j undef) x
      rw [hgd, Nat.zero_add]
      refine ⟨fun q hq => ?_, ?_, lf_val hr (hlf x (List.mem_of_getElem? hx)), (hr.cut).next hE⟩
      · have hq' : (if k = k then some n else e.cl k) = some q := hq
        rw [if_pos rfl] at hq'
        cases hq'
        omega
      · show e.w.cell? _ = _
        rw [cell_of_row e.w k j vs.toArray el (0, 0) h3, List.getElem?_toArray]; exact hu
  · exact h5.slots u d hu

/-! ### Bits -/
abbrev dU (m : Nat) : Dt := .p (.raw (.int .u64 m))
variable {S : Nat → Option Dt} {B : Nat → Option (List Dt)}
theorem wrapU {n : Nat} (h : n < 18446744073709551616) : IntKind.u64.wrap (n : Int) = n := by
  simp only [IntKind.wrap, IntKind.signed, IntKind.bits]
  simp
  omega
theorem shr_step {ty u : TypeId} {x y : Operand} {m i : Nat} (ho : o.op = .binOp .shr ty x y u) (hx : ev S x = some (dU m)) (hy : ev S y = some (dI i)) (hi : i ≤ 64) : QStep P o S B (dU (m >>> i)) none := by
  refine qstep_run fun ac e hs => ?_
  have hx1 := raw_eq (hs.1 x (by rw [ho]; simp [Op.operands]) _ hx)
  have hy1 := raw_eq (hs.1 y (by rw [ho]; simp [Op.operands]) _ hy)
  refine ⟨_, ?_, .p (.raw _)⟩
  obtain ⟨dst, op, type, pos, after, guard⟩ := o
  simp only at ho
  subst ho
  have h2 : min i 64 = i := by omega
  have hb : (binOp .shr ty (.int .u64 (m : Int)) (.int .i64 (i : Int))).run P e.w = .ok (.int .u64 ((m >>> i : Nat) : Int)) e.w := by
    show (Op.shift .shr .u64 (m : Int) .i64 (i : Int)).run P e.w = _
    rw [shift_shr_any _ _ _ _ (Int.natCast_nonneg i)]
    show Result.ok (Value.int .u64 ((m : Int) / 2 ^ min ((i : Int).toNat) 64)) e.w = _
    have hp : (2 : Int) ^ i = ((2 ^ i : Nat) : Int) := by norm_cast
    rw [Int.toNat_natCast, h2, hp, Nat.shiftRight_eq_div_pow]
    congr 2
  simp [execOp, hx1, hy1, eqGuard, hb]
theorem shl_step {ty u : TypeId} {x y : Operand} {m i : Nat} (ho : o.op = .binOp .shl ty x y u) (hx : ev S x = some (dU m)) (hy : ev S y = some (dI i)) (hi : i ≤ 64) (hm : m * 2 ^ i < 18446744073709551616) : QStep P o S B (dU (m * 2 ^ i)) none := by
  refine qstep_run fun ac e hs => ?_
  have hx1 := raw_eq (hs.1 x (by rw [ho]; simp [Op.operands]) _ hx)
  have hy1 := raw_eq (hs.1 y (by rw [ho]; simp [Op.operands]) _ hy)
  refine ⟨_, ?_, .p (.raw _)⟩
  obtain ⟨dst, op, type, pos, after, guard⟩ := o
  simp only at ho
  subst ho
  have h2 : min i 64 = i := by omega
  have hb : (binOp .shl ty (.int .u64 (m : Int)) (.int .i64 (i : Int))).run P e.w = .ok (.int .u64 ((m * 2 ^ i : Nat) : Int)) e.w := by
    show (Op.shift .shl .u64 (m : Int) .i64 (i : Int)).run P e.w = _
    rw [shift_shl_any _ _ _ _ (Int.natCast_nonneg i)]
    show Result.ok (Value.int .u64 (IntKind.u64.wrap ((m : Int) * 2 ^ min ((i : Int).toNat) 64))) e.w = _
    have hp : (m : Int) * (2 : Int) ^ i = ((m * 2 ^ i : Nat) : Int) := by norm_cast
    rw [Int.toNat_natCast, h2, hp, wrapU hm]
  simp [execOp, hx1, hy1, eqGuard, hb]
theorem and_step {ty u : TypeId} {x y : Operand} {m n : Nat} (ho : o.op = .binOp .and ty x y u) (hx : ev S x = some (dU m)) (hy : ev S y = some (dU n)) (hm : m < 18446744073709551616) (hn : n < 18446744073709551616) : QStep P o S B (dU (m &&& n)) none := by
  refine qstep_run fun ac e hs => ?_
  have hx1 := raw_eq (hs.1 x (by rw [ho]; simp [Op.operands]) _ hx)
  have hy1 := raw_eq (hs.1 y (by rw [ho]; simp [Op.operands]) _ hy)
  refine ⟨_, ?_, .p (.raw _)⟩
  obtain ⟨dst, op, type, pos, after, guard⟩ := o
  simp only at ho
  subst ho
  have h3 : IntKind.u64.wrap (((BitVec.ofInt 64 (m : Int) &&& BitVec.ofInt 64 (n : Int)).toNat : Nat) : Int) = ((m &&& n : Nat) : Int) := by
    have : (BitVec.ofInt 64 (m : Int) &&& BitVec.ofInt 64 (n : Int)).toNat = m &&& n := by
      simp only [BitVec.ofInt_natCast, BitVec.toNat_and, BitVec.toNat_ofNat]
      rw [Nat.mod_eq_of_lt (by omega), Nat.mod_eq_of_lt (by omega)]
    rw [this]
    exact wrapU (Nat.lt_of_le_of_lt Nat.and_le_left hm)
  have hb : (binOp .and ty (.int .u64 (m : Int)) (.int .u64 (n : Int))).run P e.w = .ok (.int .u64 ((m &&& n : Nat) : Int)) e.w := by
    rw [← h3]; rfl
  simp [execOp, hx1, hy1, eqGuard, hb]
/-- One bit less. -/
def clr (m i : Nat) : Nat := (BitVec.ofNat 64 m &&& ~~~ BitVec.ofNat 64 (2 ^ i)).toNat
theorem andNot_step {ty u : TypeId} {x y : Operand} {m n i : Nat} (ho : o.op = .binOp .andNot ty x y u) (hx : ev S x = some (dU m)) (hy : ev S y = some (dU n)) (hn : n = 2 ^ i) : QStep P o S B (dU (clr m i)) none := by
  refine qstep_run fun ac e hs => ?_
  have hx1 := raw_eq (hs.1 x (by rw [ho]; simp [Op.operands]) _ hx)
  have hy1 := raw_eq (hs.1 y (by rw [ho]; simp [Op.operands]) _ hy)
  refine ⟨_, ?_, .p (.raw _)⟩
  obtain ⟨dst, op, type, pos, after, guard⟩ := o
  simp only at ho
  subst ho
  have h3 : IntKind.u64.wrap (((BitVec.ofInt 64 (m : Int) &&& ~~~BitVec.ofInt 64 (n : Int)).toNat : Nat) : Int) = ((clr m i : Nat) : Int) := by
    have : (BitVec.ofInt 64 (m : Int) &&& ~~~BitVec.ofInt 64 (n : Int)).toNat = clr m i := by
      simp only [BitVec.ofInt_natCast, hn, clr]
    rw [this]
    exact wrapU (by have := (BitVec.ofNat 64 m &&& ~~~ BitVec.ofNat 64 (2 ^ i)).isLt; unfold clr; omega)
  have hb : (binOp .andNot ty (.int .u64 (m : Int)) (.int .u64 (n : Int))).run P e.w = .ok (.int .u64 ((clr m i : Nat) : Int)) e.w := by
    rw [← h3]; rfl
  simp [execOp, hx1, hy1, eqGuard, hb]
theorem clr_lt (m i : Nat) : clr m i < 18446744073709551616 := by
  have := (BitVec.ofNat 64 m &&& ~~~ BitVec.ofNat 64 (2 ^ i)).isLt
  unfold clr; omega
theorem clr_bit (m i j : Nat) (hm : m < 18446744073709551616) : (clr m i).testBit j = (m.testBit j && !decide (i = j)) := by
  have h1 : (clr m i).testBit j = (BitVec.ofNat 64 m &&& ~~~ BitVec.ofNat 64 (2 ^ i)).getLsbD j := rfl
  rw [h1, BitVec.getLsbD_and, BitVec.getLsbD_not, BitVec.getLsbD_ofNat, BitVec.getLsbD_ofNat, Nat.testBit_two_pow]
  by_cases hj : j < 64
  · simp [hj]
  · have : m.testBit j = false := Nat.testBit_lt_two_pow (Nat.lt_of_lt_of_le hm (by have := Nat.pow_le_pow_right (n := 2) (by omega) (show 64 ≤ j by omega); omega))
    simp [hj, this]
theorem bit_and (m i : Nat) : (m >>> i) &&& 1 = if m.testBit i then 1 else 0 := by
  rw [Nat.and_one_is_mod, Nat.shiftRight_eq_div_pow, Nat.testBit_eq_decide_div_mod_eq]
  by_cases h : m / 2 ^ i % 2 = 1
  · simp [h]
  · simp [h]; omega
theorem bit_step {ty u : TypeId} {x y : Operand} {m i : Nat} (ho : o.op = .binOp .and ty x y u) (hx : ev S x = some (dU (m >>> i))) (hy : ev S y = some (.p (.raw (.int .u64 1)))) (hm : m < 18446744073709551616) : QStep P o S B (dU (m.testBit i).toNat) none := by
  have h1 : m >>> i &&& 1 = (m.testBit i).toNat := by
    rw [bit_and]; cases m.testBit i <;> rfl
  rw [← h1]
  exact and_step ho hx hy (Nat.lt_of_le_of_lt (Nat.shiftRight_le m i) hm) (by omega)
theorem eq0_step (hT : TabOk P T) {ty u : TypeId} {i : TI} {x y : Operand} {t : Bool} (ho : o.op = .binOp .eql ty x y u) (ht : T ty = some i) (hx : ev S x = some (dU t.toNat)) (hy : ev S y = some (.p (.raw (.int .u64 0)))) : QStep P o S B (dB (!t)) none := by
  have h3 : decide (((t.toNat : Nat) : Int) = 0) = !t := by cases t <;> rfl
  exact ax_step hT (by rw [ho]; simp only [ax, ht, hx, hy, binRaw, h3])
theorem eq1_step (hT : TabOk P T) {ty u : TypeId} {i : TI} {x y : Operand} {t : Bool} (ho : o.op = .binOp .eql ty x y u) (ht : T ty = some i) (hx : ev S x = some (dU t.toNat)) (hy : ev S y = some (.p (.raw (.int .u64 1)))) : QStep P o S B (dB t) none := by
  have h3 : decide (((t.toNat : Nat) : Int) = 1) = t := by cases t <;> rfl
  exact ax_step hT (by rw [ho]; simp only [ax, ht, hx, hy, binRaw, h3])
theorem eqz_step (hT : TabOk P T) {ty u : TypeId} {i : TI} {x y : Operand} {m : Nat} (ho : o.op = .binOp .eql ty x y u) (ht : T ty = some i) (hx : ev S x = some (dU m)) (hy : ev S y = some (.p (.raw (.int .u64 0)))) : QStep P o S B (dB (decide (m = 0))) none := by
  have h3 : decide (((m : Nat) : Int) = 0) = decide (m = 0) := by rw [Bool.eq_iff_iff]; simp
  exact ax_step hT (by rw [ho]; simp only [ax, ht, hx, hy, binRaw, h3])
theorem sub64_step (hT : TabOk P T) {ty u : TypeId} {i : TI} {x y : Operand} {m n : Nat} (ho : o.op = .binOp .sub ty x y u) (ht : T ty = some i) (hx : ev S x = some (dU m)) (hy : ev S y = some (dU n)) (h1 : n ≤ m) (hm : m < 18446744073709551616) : QStep P o S B (dU (m - n)) none := by
  have h3 : IntKind.u64.wrap ((m : Int) - (n : Int)) = ((m - n : Nat) : Int) := by
    rw [← wrapU (n := m - n) (by omega)]
    congr 1
    omega
  exact ax_step hT (by rw [ho]; simp only [ax, ht, hx, hy, binRaw, h3])
end
end Go.Proofs.YtcjooalmhppkiaaRRRR
