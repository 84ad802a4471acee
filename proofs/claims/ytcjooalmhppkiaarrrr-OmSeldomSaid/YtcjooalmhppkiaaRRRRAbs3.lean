/- The operations, on what is known. -/
import Derived.Test.YtcjooalmhppkiaaRRRRAbs2
namespace Go.Proofs.YtcjooalmhppkiaaRRRR
open Go.RowKit

inductive TK where
  | int (k : IntKind)
  | bool
  | str
  | slice (e : TypeId)
  | struct (fs : List (TypeId × Nat × Nat))
  | array (n : Nat) (e : TypeId)
  | other

structure TI where
  k : TK
  sz : Nat
  bytes : Nat
  zero : Value

def tkOf (P : Program) : TypeDesc → TK
  | .int k => .int k
  | .bool => .bool
  | .string => .str
  | .slice e => .slice e
  | .struct fs => .struct (fs.toList.map fun f => (f.type, f.offset, P.cellsOf f.type))
  | .array n e => .array n e
  | _ => .other

structure TabOk (P : Program) (T : Nat → Option TI) : Prop where
  desc : ∀ t i, T t = some i → ∃ d, P.underlying t = some d ∧ tkOf P d = i.k
  info : ∀ t i, T t = some i → ∃ f, P.info? t = some f ∧ f.size = i.sz ∧ f.bytes = i.bytes ∧ f.zero = some i.zero

def TK.agg : TK → Bool
  | .struct _ | .array _ _ => true
  | _ => false

def loadD (i : TI) (ds : List Dt) : Option Dt :=
  bif i.k.agg then takeK i.sz ds fun r => some (.agg r)
  else match ds with
    | d :: _ => some d
    | [] => none

def binRaw : BinOp → Value → Value → Option Value
  | .add, .int .i64 a, .int .i64 b => some (.int .i64 (IntKind.i64.wrap (a + b)))
  | .sub, .int .i64 a, .int .i64 b => some (.int .i64 (IntKind.i64.wrap (a - b)))
  | .mul, .int .i64 a, .int .i64 b => some (.int .i64 (IntKind.i64.wrap (a * b)))
  | .eql, .int .i64 a, .int .i64 b => some (.bool (decide (a = b)))
  | .neq, .int .i64 a, .int .i64 b => some (.bool (!decide (a = b)))
  | .lss, .int .i64 a, .int .i64 b => some (.bool (decide (a < b)))
  | .leq, .int .i64 a, .int .i64 b => some (.bool (decide (a ≤ b)))
  | .gtr, .int .i64 a, .int .i64 b => some (.bool (decide (b < a)))
  | .geq, .int .i64 a, .int .i64 b => some (.bool (decide (b ≤ a)))
  | .add, .int .u64 a, .int .u64 b => some (.int .u64 (IntKind.u64.wrap (a + b)))
  | .sub, .int .u64 a, .int .u64 b => some (.int .u64 (IntKind.u64.wrap (a - b)))
  | .mul, .int .u64 a, .int .u64 b => some (.int .u64 (IntKind.u64.wrap (a * b)))
  | .eql, .int .u64 a, .int .u64 b => some (.bool (decide (a = b)))
  | .neq, .int .u64 a, .int .u64 b => some (.bool (!decide (a = b)))
  | .lss, .int .u64 a, .int .u64 b => some (.bool (decide (a < b)))
  | .and, .int .u64 a, .int .u64 b => some (.int .u64 (IntKind.u64.wrap ((BitVec.ofInt 64 a &&& BitVec.ofInt 64 b).toNat)))
  | .andNot, .int .u64 a, .int .u64 b => some (.int .u64 (IntKind.u64.wrap ((BitVec.ofInt 64 a &&& ~~~BitVec.ofInt 64 b).toNat)))
  | .and, .int .i64 a, .int .i64 b => some (.int .i64 (IntKind.i64.wrap ((BitVec.ofInt 64 a &&& BitVec.ofInt 64 b).toNat)))
  | .eql, .int .u8 a, .int .u8 b => some (.bool (decide (a = b)))
  | .eql, .bool a, .bool b => some (.bool (a == b))
  | .neq, .bool a, .bool b => some (.bool (!(a == b)))
  | _, _, _ => none

theorem run_equal_bool {P : Program} {t : TypeId} (hu : P.underlying t = some .bool) (a b : Bool) (w : World) : (Op.equal t (.bool a) (.bool b)).run P w = .ok (a == b) w := by
  show (Op.equalIn (9999 + 1) t _ _).run P w = _
  rw [Op.equalIn]
  simp only [Sem.run_bind, run_underlying hu, Result.andThen_ok]
  rfl
theorem binRaw_run {P : Program} {T : Nat → Option TI} (_hT : TabOk P T) {op : BinOp} {t : TypeId} {u v r : Value} (h : binRaw op u v = some r) (hb : ∀ b : Bool, u = .bool b → P.underlying t = some .bool) (x y : Operand) (w : World) :
    (do eqGuard op t x y u v; binOp op t u v : Sem Value).run P w = .ok r w := by
  unfold binRaw at h
  split at h
  all_goals cases h
  all_goals first
    | (simp only [eqGuard, binOp, Op.intArith, Op.intCmp, Op.intBits, IntKind.bits]; rfl)
    | (rename_i a b; have hu : P.underlying t = some .bool := hb a rfl; simp only [eqGuard, binOp]; simp [run_equal_bool hu]; done)
    | skip

/-- Fields of a struct. -/
def partD (ft : TypeId × Nat × Nat) (isAgg : Bool) (ds : List Dt) : Option Dt :=
  bif isAgg then dropK ft.2.1 ds fun r => takeK ft.2.2 r fun q => some (.agg q)
  else ds[ft.2.1]?

/-- The argument of len. -/
def lenArgs (c : Call) : Option (Operand × TypeId) := match c.callee with
  | .builtin .len => match c.args.toList, c.argTypes.toList with
    | [x], [t] => some (x, t)
    | _, _ => none
  | _ => none
theorem lenArgs_eq {c : Call} {x : Operand} {t : TypeId} (h : lenArgs c = some (x, t)) : c = { callee := .builtin .len, args := #[x], argTypes := #[t] } := by
  obtain ⟨callee, args, ats⟩ := c
  unfold lenArgs at h
  simp only at h
  split at h
  · split at h
    · rename_i h1 h2
      cases h
      obtain ⟨l1⟩ := args
      obtain ⟨l2⟩ := ats
      simp only at h1 h2
      subst h1; subst h2
      rfl
    · cases h
  · cases h
/-- The value of an operation that makes no variable. -/
def ax (T : Nat → Option TI) (S : Nat → Option Dt) (B : Nat → Option (List Dt)) : Op → Option Dt
  | .move x | .assign x => ev S x
  | .pick c x y => match ev S c with
    | some (.p (.raw (.bool true))) => ev S x
    | some (.p (.raw (.bool false))) => ev S y
    | _ => none
  | .load t x => match T t, ev S x with
    | some i, some (.ptr b o) => match B b with
      | some cs => dropK o cs (loadD i)
      | none => none
    | some i, some (.el ps) => mapK Dt.p ps (loadD i)
    | _, _ => none
  | .binOp op t x y _ => match T t, ev S x, ev S y with
    | some i, some (.p (.raw u)), some (.p (.raw v)) => match binRaw op u v, u, i.k with
      | some r, .bool _, .bool => some (.p (.raw r))
      | some r, .int .., _ => some (.p (.raw r))
      | _, _, _ => none
    | _, _, _ => none
  | .unOp u _ x => match u, ev S x with
    | .not, some (.p (.raw (.bool b))) => some (.p (.raw (.bool (!b))))
    | .neg, some (.p (.raw (.int .i64 n))) => some (.p (.raw (.int .i64 (IntKind.i64.wrap (0 - n)))))
    | _, _ => none
  | .convert s t x => match T s, T t, ev S x with
    | some ⟨.int _, _, _, _⟩, some ⟨.int k, _, _, _⟩, some (.p (.raw (.int _ n))) => some (.p (.raw (.int k (k.wrap n))))
    | _, _, _ => none
  | .extract x i => match ev S x with
    | some (.tup ds) => ds[i]?
    | _ => none
  | .fieldAddr t x f => match T t, ev S x with
    | some ⟨.struct fs, _, _, _⟩, some (.ptr b o) => match fs[f]? with
      | some (_, off, _ + 1) => some (.ptr b (o + off))
      | _ => none
    | some ⟨.struct fs, _, _, _⟩, some (.el ps) => match fs[f]? with
      | some (_, off, _ + 1) => dropK off ps fun r => some (.el r)
      | _ => none
    | _, _ => none
  | .field t x f => match T t, ev S x with
    | some ⟨.struct fs, _, _, _⟩, some (.agg ds) => match fs[f]? with
      | some ft => match T ft.1 with
        | some j => partD ft j.k.agg ds
        | none => none
      | none => none
    | _, _ => none
  | .call c => match lenArgs c with
    | some (x, t) => match T t, ev S x with
      | some ⟨.slice _, _, _, _⟩, some (.p (.sl _ n _)) => some (.p (.raw (.int .i64 n)))
      | some ⟨.slice _, _, _, _⟩, some (.tip _ n _) => some (.p (.raw (.int .i64 n)))
      | some ⟨.slice _, _, _, _⟩, some (.arr _ _ n _) => some (.p (.raw (.int .i64 n)))
      | _, _ => none
    | none => none
  | .makeFunc f first caps => evsK S first.toList fun fs => evsK S caps.toList fun cs => some (.fn f fs cs)
  | .nilCheck x => match ev S x with
    | some (.ptr b o) => some (.ptr b o)
    | some (.el ps) => some (.el ps)
    | _ => none
  | _ => none
end Go.Proofs.YtcjooalmhppkiaaRRRR
