/- The program's types: kind, cells, bytes, zero value. -/
import Derived.Test.YtcjooalmhppkiaaRRRRRows
import Derived.Test.YtcjooalmhppkiaaRRRRAbs9
namespace Go.Proofs.YtcjooalmhppkiaaRRRR
open Go.RowKit

def tab : List (Nat × TI) := [
  (0, ⟨.other, 1, 0, (Value.tuple #[])⟩),
  (1, ⟨.other, 1, 8, Value.nilFunc⟩),
  (2, ⟨(.int .i64), 1, 8, (Value.int IntKind.i64 0)⟩),
  (3, ⟨(.int .i64), 1, 8, (Value.int IntKind.i64 0)⟩),
  (4, ⟨.bool, 1, 1, (Value.bool false)⟩),
  (5, ⟨(.int .u8), 1, 1, (Value.int IntKind.u8 0)⟩),
  (6, ⟨(.int .u8), 1, 1, (Value.int IntKind.u8 0)⟩),
  (7, ⟨(.struct [(2, 0, 1), (3, 1, 1), (4, 2, 1), (6, 3, 1)]), 4, 24, (Value.agg #[Value.int IntKind.i64 0, Value.int IntKind.i64 0, Value.bool false, Value.int IntKind.u8 0])⟩),
  (8, ⟨(.struct [(2, 0, 1), (3, 1, 1), (4, 2, 1), (6, 3, 1)]), 4, 24, (Value.agg #[Value.int IntKind.i64 0, Value.int IntKind.i64 0, Value.bool false, Value.int IntKind.u8 0])⟩),
  (9, ⟨.str, 1, 16, (Value.string { data := #[] })⟩),
  (10, ⟨.str, 1, 16, (Value.string { data := #[] })⟩),
  (11, ⟨.str, 1, 16, (Value.string { data := #[] })⟩),
  (12, ⟨(.int .u64), 1, 8, (Value.int IntKind.u64 0)⟩),
  (13, ⟨(.struct [(9, 0, 1), (12, 1, 1)]), 2, 24, (Value.agg #[Value.string { data := #[] }, Value.int IntKind.u64 0])⟩),
  (14, ⟨(.struct [(9, 0, 1), (12, 1, 1)]), 2, 24, (Value.agg #[Value.string { data := #[] }, Value.int IntKind.u64 0])⟩),
  (15, ⟨.other, 1, 8, (Value.pointer none)⟩),
  (16, ⟨.other, 1, 8, (Value.pointer none)⟩),
  (17, ⟨.other, 1, 8, (Value.pointer none)⟩),
  (18, ⟨(.struct [(17, 0, 1)]), 1, 8, (Value.agg #[Value.pointer none])⟩),
  (19, ⟨(.struct [(17, 0, 1)]), 1, 8, (Value.agg #[Value.pointer none])⟩),
  (20, ⟨.other, 1, 16, Value.nilIface⟩),
  (21, ⟨(.int .i32), 1, 4, (Value.int IntKind.i32 0)⟩),
  (22, ⟨(.slice 5), 1, 24, (Value.slice none 0 0)⟩),
  (23, ⟨.other, 1, 8, Value.nilFunc⟩),
  (24, ⟨(.slice 3), 1, 24, (Value.slice none 0 0)⟩),
  (25, ⟨(.struct [(24, 0, 1)]), 1, 24, (Value.agg #[Value.slice none 0 0])⟩),
  (26, ⟨(.struct [(24, 0, 1)]), 1, 24, (Value.agg #[Value.slice none 0 0])⟩),
  (27, ⟨.other, 1, 8, Value.nilFunc⟩),
  (28, ⟨(.int .i64), 1, 8, (Value.int IntKind.i64 0)⟩),
  (29, ⟨.other, 1, 0, (Value.tuple #[Value.agg #[Value.slice none 0 0], Value.int IntKind.i64 0, Value.int IntKind.i64 0])⟩),
  (30, ⟨.other, 1, 8, Value.nilFunc⟩),
  (31, ⟨.other, 1, 8, Value.nilFunc⟩),
  (32, ⟨.other, 1, 8, Value.nilFunc⟩),
  (33, ⟨.other, 1, 8, Value.nilFunc⟩),
  (34, ⟨.other, 1, 8, Value.nilFunc⟩),
  (35, ⟨.other, 1, 8, Value.nilFunc⟩),
  (36, ⟨(.struct [(26, 0, 1), (5, 1, 1), (5, 2, 1), (5, 3, 1)]), 4, 32, (Value.agg #[Value.slice none 0 0, Value.int IntKind.u8 0, Value.int IntKind.u8 0, Value.int IntKind.u8 0])⟩),
  (37, ⟨(.struct [(26, 0, 1), (5, 1, 1), (5, 2, 1), (5, 3, 1)]), 4, 32, (Value.agg #[Value.slice none 0 0, Value.int IntKind.u8 0, Value.int IntKind.u8 0, Value.int IntKind.u8 0])⟩),
  (38, ⟨.other, 1, 8, Value.nilFunc⟩),
  (39, ⟨.other, 1, 8, Value.nilFunc⟩),
  (40, ⟨.other, 1, 8, Value.nilFunc⟩),
  (41, ⟨(.int .u16), 1, 2, (Value.int IntKind.u16 0)⟩),
  (42, ⟨.other, 1, 8, Value.nilFunc⟩),
  (43, ⟨(.slice 3), 1, 24, (Value.slice none 0 0)⟩),
  (44, ⟨.other, 1, 8, Value.nilFunc⟩),
  (45, ⟨.other, 1, 0, (Value.tuple #[Value.int IntKind.i64 0, Value.int IntKind.i64 0])⟩),
  (46, ⟨.other, 1, 8, Value.nilFunc⟩),
  (47, ⟨.other, 1, 8, Value.nilFunc⟩),
  (48, ⟨.other, 1, 8, Value.nilFunc⟩),
  (49, ⟨.other, 1, 8, Value.nilFunc⟩),
  (50, ⟨.other, 1, 8, Value.nilFunc⟩),
  (51, ⟨.other, 1, 8, Value.nilFunc⟩),
  (52, ⟨.other, 1, 8, Value.nilFunc⟩),
  (53, ⟨(.int .u64), 1, 8, (Value.int IntKind.u64 0)⟩),
  (54, ⟨.other, 1, 8, Value.nilFunc⟩),
  (55, ⟨.other, 1, 8, Value.nilFunc⟩),
  (56, ⟨(.int .i64), 1, 8, (Value.int IntKind.i64 0)⟩),
  (57, ⟨.other, 1, 0, (Value.tuple #[Value.int IntKind.i64 0, Value.int IntKind.i64 0])⟩),
  (58, ⟨.other, 1, 8, Value.nilFunc⟩),
  (59, ⟨.other, 1, 8, Value.nilFunc⟩),
  (60, ⟨.other, 1, 8, Value.nilFunc⟩),
  (61, ⟨.other, 1, 0, (Value.tuple #[Value.int IntKind.i64 0, Value.bool false])⟩),
  (62, ⟨.other, 1, 8, Value.nilFunc⟩),
  (63, ⟨.other, 1, 8, Value.nilFunc⟩),
  (64, ⟨(.int .u32), 1, 4, (Value.int IntKind.u32 0)⟩),
  (65, ⟨.other, 1, 8, Value.nilFunc⟩),
  (66, ⟨(.int .u64), 1, 8, (Value.int IntKind.u64 0)⟩),
  (67, ⟨(.int .u64), 1, 8, (Value.int IntKind.u64 0)⟩),
  (68, ⟨.other, 1, 8, Value.nilFunc⟩),
  (69, ⟨.other, 1, 8, Value.nilFunc⟩),
  (70, ⟨.other, 1, 8, Value.nilFunc⟩),
  (71, ⟨.other, 1, 8, (Value.pointer none)⟩),
  (72, ⟨.other, 1, 8, Value.nilFunc⟩),
  (73, ⟨.other, 1, 8, (Value.pointer none)⟩),
  (74, ⟨.other, 1, 8, Value.nilFunc⟩),
  (75, ⟨.other, 1, 8, Value.nilFunc⟩),
  (76, ⟨(.struct [(17, 0, 1), (17, 1, 1), (17, 2, 1), (9, 3, 1)]), 4, 40, (Value.agg #[Value.pointer none, Value.pointer none, Value.pointer none, Value.string { data := #[] }])⟩),
  (77, ⟨(.struct [(17, 0, 1), (17, 1, 1), (17, 2, 1), (9, 3, 1)]), 4, 40, (Value.agg #[Value.pointer none, Value.pointer none, Value.pointer none, Value.string { data := #[] }])⟩),
  (78, ⟨(.array 0 16), 0, 0, (Value.agg #[])⟩),
  (79, ⟨(.struct [(78, 0, 0)]), 0, 0, (Value.agg #[])⟩),
  (80, ⟨(.struct [(78, 0, 0)]), 0, 0, (Value.agg #[])⟩),
  (81, ⟨.other, 1, 8, Value.nilFunc⟩),
  (82, ⟨(.int .u8), 1, 1, (Value.int IntKind.u8 0)⟩),
  (83, ⟨(.int .u8), 1, 1, (Value.int IntKind.u8 0)⟩),
  (84, ⟨.other, 1, 8, Value.nilFunc⟩),
  (85, ⟨.other, 1, 8, (Value.pointer none)⟩),
  (86, ⟨(.int .i32), 1, 4, (Value.int IntKind.i32 0)⟩),
  (87, ⟨(.int .i32), 1, 4, (Value.int IntKind.i32 0)⟩),
  (88, ⟨(.struct [(12, 0, 1), (12, 1, 1), (64, 2, 1), (82, 3, 1), (5, 4, 1), (5, 5, 1), (83, 6, 1), (84, 7, 1), (85, 8, 1), (86, 9, 1), (87, 10, 1)]), 11, 48, (Value.agg #[Value.int IntKind.u64 0, Value.int IntKind.u64 0, Value.int IntKind.u32 0, Value.int IntKind.u8 0, Value.int IntKind.u8 0, Value.int IntKind.u8 0, Value.int IntKind.u8 0, Value.nilFunc, Value.pointer none, Value.int IntKind.i32 0, Value.int IntKind.i32 0])⟩),
  (89, ⟨(.struct [(12, 0, 1), (12, 1, 1), (64, 2, 1), (82, 3, 1), (5, 4, 1), (5, 5, 1), (83, 6, 1), (84, 7, 1), (85, 8, 1), (86, 9, 1), (87, 10, 1)]), 11, 48, (Value.agg #[Value.int IntKind.u64 0, Value.int IntKind.u64 0, Value.int IntKind.u32 0, Value.int IntKind.u8 0, Value.int IntKind.u8 0, Value.int IntKind.u8 0, Value.int IntKind.u8 0, Value.nilFunc, Value.pointer none, Value.int IntKind.i32 0, Value.int IntKind.i32 0])⟩),
  (90, ⟨.other, 1, 8, (Value.pointer none)⟩)]
def tb : Nat → Option TI := kv tab

def tabGood (P : Program) (p : Nat × TI) : Prop := (P.underlying p.1).map (tkOf P) = some p.2.k ∧ (P.info? p.1).map (fun f => (f.size, f.bytes, f.zero)) = some (p.2.sz, p.2.bytes, some p.2.zero)
theorem tab_of {P : Program} : ∀ {l : List (Nat × TI)}, (∀ p ∈ l, tabGood P p) → TabOk P (kv l) := by
  intro l h
  have key : ∀ (l : List (Nat × TI)), (∀ p ∈ l, tabGood P p) → ∀ t i, kv l t = some i → tabGood P (t, i) := by
    intro l
    induction l with
    | nil => intro _ t i h; cases h
    | cons p l ih =>
      intro h t i hi
      obtain ⟨k, v⟩ := p
      rw [lk_cons] at hi
      split at hi
      · rename_i hk; subst hk; cases hi; exact h _ (by simp)
      · exact ih (fun q hq => h q (by simp [hq])) t i hi
  refine ⟨fun t i hi => ?_, fun t i hi => ?_⟩
  · obtain ⟨h1, _⟩ := key l h t i hi
    simp only [Option.map_eq_some_iff] at h1
    exact h1
  · obtain ⟨_, h2⟩ := key l h t i hi
    simp only [Option.map_eq_some_iff, Prod.mk.injEq] at h2
    obtain ⟨f, h3, h4, h5, h6⟩ := h2
    exact ⟨f, h3, h4, h5, h6⟩
theorem tg0 : tabGood Try.prog (0, ⟨.other, 1, 0, (Value.tuple #[])⟩) := ⟨by kernel_rfl, by kernel_rfl⟩
theorem tg1 : tabGood Try.prog (1, ⟨.other, 1, 8, Value.nilFunc⟩) := ⟨by kernel_rfl, by kernel_rfl⟩
theorem tg2 : tabGood Try.prog (2, ⟨(.int .i64), 1, 8, (Value.int IntKind.i64 0)⟩) := ⟨by kernel_rfl, by kernel_rfl⟩
theorem tg3 : tabGood Try.prog (3, ⟨(.int .i64), 1, 8, (Value.int IntKind.i64 0)⟩) := ⟨by kernel_rfl, by kernel_rfl⟩
theorem tg4 : tabGood Try.prog (4, ⟨.bool, 1, 1, (Value.bool false)⟩) := ⟨by kernel_rfl, by kernel_rfl⟩
theorem tg5 : tabGood Try.prog (5, ⟨(.int .u8), 1, 1, (Value.int IntKind.u8 0)⟩) := ⟨by kernel_rfl, by kernel_rfl⟩
theorem tg6 : tabGood Try.prog (6, ⟨(.int .u8), 1, 1, (Value.int IntKind.u8 0)⟩) := ⟨by kernel_rfl, by kernel_rfl⟩
theorem tg7 : tabGood Try.prog (7, ⟨(.struct [(2, 0, 1), (3, 1, 1), (4, 2, 1), (6, 3, 1)]), 4, 24, (Value.agg #[Value.int IntKind.i64 0, Value.int IntKind.i64 0, Value.bool false, Value.int IntKind.u8 0])⟩) := ⟨by kernel_rfl, by kernel_rfl⟩
theorem tg8 : tabGood Try.prog (8, ⟨(.struct [(2, 0, 1), (3, 1, 1), (4, 2, 1), (6, 3, 1)]), 4, 24, (Value.agg #[Value.int IntKind.i64 0, Value.int IntKind.i64 0, Value.bool false, Value.int IntKind.u8 0])⟩) := ⟨by kernel_rfl, by kernel_rfl⟩
theorem tg9 : tabGood Try.prog (9, ⟨.str, 1, 16, (Value.string { data := #[] })⟩) := ⟨by kernel_rfl, by kernel_rfl⟩
theorem tg10 : tabGood Try.prog (10, ⟨.str, 1, 16, (Value.string { data := #[] })⟩) := ⟨by kernel_rfl, by kernel_rfl⟩
theorem tg11 : tabGood Try.prog (11, ⟨.str, 1, 16, (Value.string { data := #[] })⟩) := ⟨by kernel_rfl, by kernel_rfl⟩
theorem tg12 : tabGood Try.prog (12, ⟨(.int .u64), 1, 8, (Value.int IntKind.u64 0)⟩) := ⟨by kernel_rfl, by kernel_rfl⟩
theorem tg13 : tabGood Try.prog (13, ⟨(.struct [(9, 0, 1), (12, 1, 1)]), 2, 24, (Value.agg #[Value.string { data := #[] }, Value.int IntKind.u64 0])⟩) := ⟨by kernel_rfl, by kernel_rfl⟩
theorem tg14 : tabGood Try.prog (14, ⟨(.struct [(9, 0, 1), (12, 1, 1)]), 2, 24, (Value.agg #[Value.string { data := #[] }, Value.int IntKind.u64 0])⟩) := ⟨by kernel_rfl, by kernel_rfl⟩
theorem tg15 : tabGood Try.prog (15, ⟨.other, 1, 8, (Value.pointer none)⟩) := ⟨by kernel_rfl, by kernel_rfl⟩
theorem tg16 : tabGood Try.prog (16, ⟨.other, 1, 8, (Value.pointer none)⟩) := ⟨by kernel_rfl, by kernel_rfl⟩
theorem tg17 : tabGood Try.prog (17, ⟨.other, 1, 8, (Value.pointer none)⟩) := ⟨by kernel_rfl, by kernel_rfl⟩
theorem tg18 : tabGood Try.prog (18, ⟨(.struct [(17, 0, 1)]), 1, 8, (Value.agg #[Value.pointer none])⟩) := ⟨by kernel_rfl, by kernel_rfl⟩
theorem tg19 : tabGood Try.prog (19, ⟨(.struct [(17, 0, 1)]), 1, 8, (Value.agg #[Value.pointer none])⟩) := ⟨by kernel_rfl, by kernel_rfl⟩
theorem tg20 : tabGood Try.prog (20, ⟨.other, 1, 16, Value.nilIface⟩) := ⟨by kernel_rfl, by kernel_rfl⟩
theorem tg21 : tabGood Try.prog (21, ⟨(.int .i32), 1, 4, (Value.int IntKind.i32 0)⟩) := ⟨by kernel_rfl, by kernel_rfl⟩
theorem tg22 : tabGood Try.prog (22, ⟨(.slice 5), 1, 24, (Value.slice none 0 0)⟩) := ⟨by kernel_rfl, by kernel_rfl⟩
theorem tg23 : tabGood Try.prog (23, ⟨.other, 1, 8, Value.nilFunc⟩) := ⟨by kernel_rfl, by kernel_rfl⟩
theorem tg24 : tabGood Try.prog (24, ⟨(.slice 3), 1, 24, (Value.slice none 0 0)⟩) := ⟨by kernel_rfl, by kernel_rfl⟩
theorem tg25 : tabGood Try.prog (25, ⟨(.struct [(24, 0, 1)]), 1, 24, (Value.agg #[Value.slice none 0 0])⟩) := ⟨by kernel_rfl, by kernel_rfl⟩
theorem tg26 : tabGood Try.prog (26, ⟨(.struct [(24, 0, 1)]), 1, 24, (Value.agg #[Value.slice none 0 0])⟩) := ⟨by kernel_rfl, by kernel_rfl⟩
theorem tg27 : tabGood Try.prog (27, ⟨.other, 1, 8, Value.nilFunc⟩) := ⟨by kernel_rfl, by kernel_rfl⟩
theorem tg28 : tabGood Try.prog (28, ⟨(.int .i64), 1, 8, (Value.int IntKind.i64 0)⟩) := ⟨by kernel_rfl, by kernel_rfl⟩
theorem tg29 : tabGood Try.prog (29, ⟨.other, 1, 0, (Value.tuple #[Value.agg #[Value.slice none 0 0], Value.int IntKind.i64 0, Value.int IntKind.i64 0])⟩) := ⟨by kernel_rfl, by kernel_rfl⟩
theorem tg30 : tabGood Try.prog (30, ⟨.other, 1, 8, Value.nilFunc⟩) := ⟨by kernel_rfl, by kernel_rfl⟩
theorem tg31 : tabGood Try.prog (31, ⟨.other, 1, 8, Value.nilFunc⟩) := ⟨by kernel_rfl, by kernel_rfl⟩
theorem tg32 : tabGood Try.prog (32, ⟨.other, 1, 8, Value.nilFunc⟩) := ⟨by kernel_rfl, by kernel_rfl⟩
theorem tg33 : tabGood Try.prog (33, ⟨.other, 1, 8, Value.nilFunc⟩) := ⟨by kernel_rfl, by kernel_rfl⟩
theorem tg34 : tabGood Try.prog (34, ⟨.other, 1, 8, Value.nilFunc⟩) := ⟨by kernel_rfl, by kernel_rfl⟩
theorem tg35 : tabGood Try.prog (35, ⟨.other, 1, 8, Value.nilFunc⟩) := ⟨by kernel_rfl, by kernel_rfl⟩
theorem tg36 : tabGood Try.prog (36, ⟨(.struct [(26, 0, 1), (5, 1, 1), (5, 2, 1), (5, 3, 1)]), 4, 32, (Value.agg #[Value.slice none 0 0, Value.int IntKind.u8 0, Value.int IntKind.u8 0, Value.int IntKind.u8 0])⟩) := ⟨by kernel_rfl, by kernel_rfl⟩
theorem tg37 : tabGood Try.prog (37, ⟨(.struct [(26, 0, 1), (5, 1, 1), (5, 2, 1), (5, 3, 1)]), 4, 32, (Value.agg #[Value.slice none 0 0, Value.int IntKind.u8 0, Value.int IntKind.u8 0, Value.int IntKind.u8 0])⟩) := ⟨by kernel_rfl, by kernel_rfl⟩
theorem tg38 : tabGood Try.prog (38, ⟨.other, 1, 8, Value.nilFunc⟩) := ⟨by kernel_rfl, by kernel_rfl⟩
theorem tg39 : tabGood Try.prog (39, ⟨.other, 1, 8, Value.nilFunc⟩) := ⟨by kernel_rfl, by kernel_rfl⟩
theorem tg40 : tabGood Try.prog (40, ⟨.other, 1, 8, Value.nilFunc⟩) := ⟨by kernel_rfl, by kernel_rfl⟩
theorem tg41 : tabGood Try.prog (41, ⟨(.int .u16), 1, 2, (Value.int IntKind.u16 0)⟩) := ⟨by kernel_rfl, by kernel_rfl⟩
theorem tg42 : tabGood Try.prog (42, ⟨.other, 1, 8, Value.nilFunc⟩) := ⟨by kernel_rfl, by kernel_rfl⟩
theorem tg43 : tabGood Try.prog (43, ⟨(.slice 3), 1, 24, (Value.slice none 0 0)⟩) := ⟨by kernel_rfl, by kernel_rfl⟩
theorem tg44 : tabGood Try.prog (44, ⟨.other, 1, 8, Value.nilFunc⟩) := ⟨by kernel_rfl, by kernel_rfl⟩
theorem tg45 : tabGood Try.prog (45, ⟨.other, 1, 0, (Value.tuple #[Value.int IntKind.i64 0, Value.int IntKind.i64 0])⟩) := ⟨by kernel_rfl, by kernel_rfl⟩
theorem tg46 : tabGood Try.prog (46, ⟨.other, 1, 8, Value.nilFunc⟩) := ⟨by kernel_rfl, by kernel_rfl⟩
theorem tg47 : tabGood Try.prog (47, ⟨.other, 1, 8, Value.nilFunc⟩) := ⟨by kernel_rfl, by kernel_rfl⟩
theorem tg48 : tabGood Try.prog (48, ⟨.other, 1, 8, Value.nilFunc⟩) := ⟨by kernel_rfl, by kernel_rfl⟩
theorem tg49 : tabGood Try.prog (49, ⟨.other, 1, 8, Value.nilFunc⟩) := ⟨by kernel_rfl, by kernel_rfl⟩
theorem tg50 : tabGood Try.prog (50, ⟨.other, 1, 8, Value.nilFunc⟩) := ⟨by kernel_rfl, by kernel_rfl⟩
theorem tg51 : tabGood Try.prog (51, ⟨.other, 1, 8, Value.nilFunc⟩) := ⟨by kernel_rfl, by kernel_rfl⟩
theorem tg52 : tabGood Try.prog (52, ⟨.other, 1, 8, Value.nilFunc⟩) := ⟨by kernel_rfl, by kernel_rfl⟩
theorem tg53 : tabGood Try.prog (53, ⟨(.int .u64), 1, 8, (Value.int IntKind.u64 0)⟩) := ⟨by kernel_rfl, by kernel_rfl⟩
theorem tg54 : tabGood Try.prog (54, ⟨.other, 1, 8, Value.nilFunc⟩) := ⟨by kernel_rfl, by kernel_rfl⟩
theorem tg55 : tabGood Try.prog (55, ⟨.other, 1, 8, Value.nilFunc⟩) := ⟨by kernel_rfl, by kernel_rfl⟩
theorem tg56 : tabGood Try.prog (56, ⟨(.int .i64), 1, 8, (Value.int IntKind.i64 0)⟩) := ⟨by kernel_rfl, by kernel_rfl⟩
theorem tg57 : tabGood Try.prog (57, ⟨.other, 1, 0, (Value.tuple #[Value.int IntKind.i64 0, Value.int IntKind.i64 0])⟩) := ⟨by kernel_rfl, by kernel_rfl⟩
theorem tg58 : tabGood Try.prog (58, ⟨.other, 1, 8, Value.nilFunc⟩) := ⟨by kernel_rfl, by kernel_rfl⟩
theorem tg59 : tabGood Try.prog (59, ⟨.other, 1, 8, Value.nilFunc⟩) := ⟨by kernel_rfl, by kernel_rfl⟩
theorem tg60 : tabGood Try.prog (60, ⟨.other, 1, 8, Value.nilFunc⟩) := ⟨by kernel_rfl, by kernel_rfl⟩
theorem tg61 : tabGood Try.prog (61, ⟨.other, 1, 0, (Value.tuple #[Value.int IntKind.i64 0, Value.bool false])⟩) := ⟨by kernel_rfl, by kernel_rfl⟩
theorem tg62 : tabGood Try.prog (62, ⟨.other, 1, 8, Value.nilFunc⟩) := ⟨by kernel_rfl, by kernel_rfl⟩
theorem tg63 : tabGood Try.prog (63, ⟨.other, 1, 8, Value.nilFunc⟩) := ⟨by kernel_rfl, by kernel_rfl⟩
theorem tg64 : tabGood Try.prog (64, ⟨(.int .u32), 1, 4, (Value.int IntKind.u32 0)⟩) := ⟨by kernel_rfl, by kernel_rfl⟩
theorem tg65 : tabGood Try.prog (65, ⟨.other, 1, 8, Value.nilFunc⟩) := ⟨by kernel_rfl, by kernel_rfl⟩
theorem tg66 : tabGood Try.prog (66, ⟨(.int .u64), 1, 8, (Value.int IntKind.u64 0)⟩) := ⟨by kernel_rfl, by kernel_rfl⟩
theorem tg67 : tabGood Try.prog (67, ⟨(.int .u64), 1, 8, (Value.int IntKind.u64 0)⟩) := ⟨by kernel_rfl, by kernel_rfl⟩
theorem tg68 : tabGood Try.prog (68, ⟨.other, 1, 8, Value.nilFunc⟩) := ⟨by kernel_rfl, by kernel_rfl⟩
theorem tg69 : tabGood Try.prog (69, ⟨.other, 1, 8, Value.nilFunc⟩) := ⟨by kernel_rfl, by kernel_rfl⟩
theorem tg70 : tabGood Try.prog (70, ⟨.other, 1, 8, Value.nilFunc⟩) := ⟨by kernel_rfl, by kernel_rfl⟩
theorem tg71 : tabGood Try.prog (71, ⟨.other, 1, 8, (Value.pointer none)⟩) := ⟨by kernel_rfl, by kernel_rfl⟩
theorem tg72 : tabGood Try.prog (72, ⟨.other, 1, 8, Value.nilFunc⟩) := ⟨by kernel_rfl, by kernel_rfl⟩
theorem tg73 : tabGood Try.prog (73, ⟨.other, 1, 8, (Value.pointer none)⟩) := ⟨by kernel_rfl, by kernel_rfl⟩
theorem tg74 : tabGood Try.prog (74, ⟨.other, 1, 8, Value.nilFunc⟩) := ⟨by kernel_rfl, by kernel_rfl⟩
theorem tg75 : tabGood Try.prog (75, ⟨.other, 1, 8, Value.nilFunc⟩) := ⟨by kernel_rfl, by kernel_rfl⟩
theorem tg76 : tabGood Try.prog (76, ⟨(.struct [(17, 0, 1), (17, 1, 1), (17, 2, 1), (9, 3, 1)]), 4, 40, (Value.agg #[Value.pointer none, Value.pointer none, Value.pointer none, Value.string { data := #[] }])⟩) := ⟨by kernel_rfl, by kernel_rfl⟩
theorem tg77 : tabGood Try.prog (77, ⟨(.struct [(17, 0, 1), (17, 1, 1), (17, 2, 1), (9, 3, 1)]), 4, 40, (Value.agg #[Value.pointer none, Value.pointer none, Value.pointer none, Value.string { data := #[] }])⟩) := ⟨by kernel_rfl, by kernel_rfl⟩
theorem tg78 : tabGood Try.prog (78, ⟨(.array 0 16), 0, 0, (Value.agg #[])⟩) := ⟨by kernel_rfl, by kernel_rfl⟩
theorem tg79 : tabGood Try.prog (79, ⟨(.struct [(78, 0, 0)]), 0, 0, (Value.agg #[])⟩) := ⟨by kernel_rfl, by kernel_rfl⟩
theorem tg80 : tabGood Try.prog (80, ⟨(.struct [(78, 0, 0)]), 0, 0, (Value.agg #[])⟩) := ⟨by kernel_rfl, by kernel_rfl⟩
theorem tg81 : tabGood Try.prog (81, ⟨.other, 1, 8, Value.nilFunc⟩) := ⟨by kernel_rfl, by kernel_rfl⟩
theorem tg82 : tabGood Try.prog (82, ⟨(.int .u8), 1, 1, (Value.int IntKind.u8 0)⟩) := ⟨by kernel_rfl, by kernel_rfl⟩
theorem tg83 : tabGood Try.prog (83, ⟨(.int .u8), 1, 1, (Value.int IntKind.u8 0)⟩) := ⟨by kernel_rfl, by kernel_rfl⟩
theorem tg84 : tabGood Try.prog (84, ⟨.other, 1, 8, Value.nilFunc⟩) := ⟨by kernel_rfl, by kernel_rfl⟩
theorem tg85 : tabGood Try.prog (85, ⟨.other, 1, 8, (Value.pointer none)⟩) := ⟨by kernel_rfl, by kernel_rfl⟩
theorem tg86 : tabGood Try.prog (86, ⟨(.int .i32), 1, 4, (Value.int IntKind.i32 0)⟩) := ⟨by kernel_rfl, by kernel_rfl⟩
theorem tg87 : tabGood Try.prog (87, ⟨(.int .i32), 1, 4, (Value.int IntKind.i32 0)⟩) := ⟨by kernel_rfl, by kernel_rfl⟩
theorem tg88 : tabGood Try.prog (88, ⟨(.struct [(12, 0, 1), (12, 1, 1), (64, 2, 1), (82, 3, 1), (5, 4, 1), (5, 5, 1), (83, 6, 1), (84, 7, 1), (85, 8, 1), (86, 9, 1), (87, 10, 1)]), 11, 48, (Value.agg #[Value.int IntKind.u64 0, Value.int IntKind.u64 0, Value.int IntKind.u32 0, Value.int IntKind.u8 0, Value.int IntKind.u8 0, Value.int IntKind.u8 0, Value.int IntKind.u8 0, Value.nilFunc, Value.pointer none, Value.int IntKind.i32 0, Value.int IntKind.i32 0])⟩) := ⟨by kernel_rfl, by kernel_rfl⟩
theorem tg89 : tabGood Try.prog (89, ⟨(.struct [(12, 0, 1), (12, 1, 1), (64, 2, 1), (82, 3, 1), (5, 4, 1), (5, 5, 1), (83, 6, 1), (84, 7, 1), (85, 8, 1), (86, 9, 1), (87, 10, 1)]), 11, 48, (Value.agg #[Value.int IntKind.u64 0, Value.int IntKind.u64 0, Value.int IntKind.u32 0, Value.int IntKind.u8 0, Value.int IntKind.u8 0, Value.int IntKind.u8 0, Value.int IntKind.u8 0, Value.nilFunc, Value.pointer none, Value.int IntKind.i32 0, Value.int IntKind.i32 0])⟩) := ⟨by kernel_rfl, by kernel_rfl⟩
theorem tg90 : tabGood Try.prog (90, ⟨.other, 1, 8, (Value.pointer none)⟩) := ⟨by kernel_rfl, by kernel_rfl⟩
theorem tabOk : TabOk Try.prog tb := tab_of fun p hp => by
  simp only [tab, List.mem_cons, List.not_mem_nil, or_false] at hp
  rcases hp with rfl | rfl | rfl | rfl | rfl | rfl | rfl | rfl | rfl | rfl | rfl | rfl | rfl | rfl | rfl | rfl | rfl | rfl | rfl | rfl | rfl | rfl | rfl | rfl | rfl | rfl | rfl | rfl | rfl | rfl | rfl | rfl | rfl | rfl | rfl | rfl | rfl | rfl | rfl | rfl | rfl | rfl | rfl | rfl | rfl | rfl | rfl | rfl | rfl | rfl | rfl | rfl | rfl | rfl | rfl | rfl | rfl | rfl | rfl | rfl | rfl | rfl | rfl | rfl | rfl | rfl | rfl | rfl | rfl | rfl | rfl | rfl | rfl | rfl | rfl | rfl | rfl | rfl | rfl | rfl | rfl | rfl | rfl | rfl | rfl | rfl | rfl | rfl | rfl | rfl | rfl
  · exact tg0
  · exact tg1
  · exact tg2
  · exact tg3
  · exact tg4
  · exact tg5
  · exact tg6
  · exact tg7
  · exact tg8
  · exact tg9
  · exact tg10
  · exact tg11
  · exact tg12
  · exact tg13
  · exact tg14
  · exact tg15
  · exact tg16
  · exact tg17
  · exact tg18
  · exact tg19
  · exact tg20
  · exact tg21
  · exact tg22
  · exact tg23
  · exact tg24
  · exact tg25
  · exact tg26
  · exact tg27
  · exact tg28
  · exact tg29
  · exact tg30
  · exact tg31
  · exact tg32
  · exact tg33
  · exact tg34
  · exact tg35
  · exact tg36
  · exact tg37
  · exact tg38
  · exact tg39
  · exact tg40
  · exact tg41
  · exact tg42
  · exact tg43
  · exact tg44
  · exact tg45
  · exact tg46
  · exact tg47
  · exact tg48
  · exact tg49
  · exact tg50
  · exact tg51
  · exact tg52
  · exact tg53
  · exact tg54
  · exact tg55
  · exact tg56
  · exact tg57
  · exact tg58
  · exact tg59
  · exact tg60
  · exact tg61
  · exact tg62
  · exact tg63
  · exact tg64
  · exact tg65
  · exact tg66
  · exact tg67
  · exact tg68
  · exact tg69
  · exact tg70
  · exact tg71
  · exact tg72
  · exact tg73
  · exact tg74
  · exact tg75
  · exact tg76
  · exact tg77
  · exact tg78
  · exact tg79
  · exact tg80
  · exact tg81
  · exact tg82
  · exact tg83
  · exact tg84
  · exact tg85
  · exact tg86
  · exact tg87
  · exact tg88
  · exact tg89
  · exact tg90
end Go.Proofs.YtcjooalmhppkiaaRRRR
