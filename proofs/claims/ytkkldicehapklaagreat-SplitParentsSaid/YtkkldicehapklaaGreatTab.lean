/- The program's types: kind, cells, bytes, zero value. -/
import Derived.Test.YtkkldicehapklaaGreatRows
import Derived.Test.YtkkldicehapklaaGreatLib2
namespace Go.Proofs.YtkkldicehapklaaGreat
open Go.RowKit

def tab : List (Nat × TI) := [
  (0, ⟨.other, 1, 0, (Value.tuple #[])⟩),
  (1, ⟨.other, 1, 8, Value.nilFunc⟩),
  (2, ⟨(.int .i64), 1, 8, (Value.int IntKind.i64 0)⟩),
  (3, ⟨(.int .i64), 1, 8, (Value.int IntKind.i64 0)⟩),
  (4, ⟨.bool, 1, 1, (Value.bool false)⟩),
  (5, ⟨(.int .u8), 1, 1, (Value.int IntKind.u8 0)⟩),
  (6, ⟨(.int .u8), 1, 1, (Value.int IntKind.u8 0)⟩),
  (7, ⟨(.struct [(2, 0, 1), (3, 1, 1), (4, 2, 1), (6, 3, 1)]), 4, 24, (Value.agg #[Value.int IntKind.i64 0, Value.int IntKind.i64 0, Value.bool false, Value.int IntKind.u8 0])⟩),
  (8, ⟨(.struct [(2, 0, 1), (3, 1, 1), (4, 2, 1), (6, 3, 1)]), 4, 24, (Value.agg #[Value.int IntKind.i64 0, Value.int IntKind.i64 0, Value.bool false, Value.int IntKind.u8 0])⟩),
  (9, ⟨.str, 1, 16, (Value.string { data := #[] })⟩),
  (10, ⟨.str, 1, 16, (Value.string { data := #[] })⟩),
  (11, ⟨.str, 1, 16, (Value.string { data := #[] })⟩),
  (12, ⟨(.int .u64), 1, 8, (Value.int IntKind.u64 0)⟩),
  (13, ⟨(.struct [(9, 0, 1), (12, 1, 1)]), 2, 24, (Value.agg #[Value.string { data := #[] }, Value.int IntKind.u64 0])⟩),
  (14, ⟨(.struct [(9, 0, 1), (12, 1, 1)]), 2, 24, (Value.agg #[Value.string { data := #[] }, Value.int IntKind.u64 0])⟩),
  (15, ⟨.other, 1, 8, (Value.pointer none)⟩),
  (16, ⟨.other, 1, 8, (Value.pointer none)⟩),
  (17, ⟨.other, 1, 8, (Value.pointer none)⟩),
  (18, ⟨(.struct [(17, 0, 1)]), 1, 8, (Value.agg #[Value.pointer none])⟩),
  (19, ⟨(.struct [(17, 0, 1)]), 1, 8, (Value.agg #[Value.pointer none])⟩),
  (20, ⟨.other, 1, 16, Value.nilIface⟩),
  (21, ⟨(.int .i32), 1, 4, (Value.int IntKind.i32 0)⟩),
  (22, ⟨(.int .u16), 1, 2, (Value.int IntKind.u16 0)⟩),
  (23, ⟨.other, 1, 8, Value.nilFunc⟩),
  (24, ⟨.other, 1, 8, Value.nilFunc⟩),
  (25, ⟨.other, 1, 8, Value.nilFunc⟩),
  (26, ⟨(.slice 41), 1, 24, (Value.slice none 0 0)⟩),
  (27, ⟨(.slice 5), 1, 24, (Value.slice none 0 0)⟩),
  (28, ⟨(.struct [(26, 0, 1), (27, 1, 1)]), 2, 48, (Value.agg #[Value.slice none 0 0, Value.slice none 0 0])⟩),
  (29, ⟨(.struct [(26, 0, 1), (27, 1, 1)]), 2, 48, (Value.agg #[Value.slice none 0 0, Value.slice none 0 0])⟩),
  (30, ⟨.other, 1, 8, Value.nilFunc⟩),
  (31, ⟨.other, 1, 8, (Value.pointer none)⟩),
  (32, ⟨.other, 1, 8, Value.nilFunc⟩),
  (33, ⟨(.struct [(3, 0, 1), (3, 1, 1), (3, 2, 1), (3, 3, 1), (3, 4, 1), (3, 5, 1), (3, 6, 1), (3, 7, 1), (3, 8, 1)]), 9, 72, (Value.agg #[Value.int IntKind.i64 0, Value.int IntKind.i64 0, Value.int IntKind.i64 0, Value.int IntKind.i64 0, Value.int IntKind.i64 0, Value.int IntKind.i64 0, Value.int IntKind.i64 0, Value.int IntKind.i64 0, Value.int IntKind.i64 0])⟩),
  (34, ⟨(.struct [(3, 0, 1), (3, 1, 1), (3, 2, 1), (3, 3, 1), (3, 4, 1), (3, 5, 1), (3, 6, 1), (3, 7, 1), (3, 8, 1)]), 9, 72, (Value.agg #[Value.int IntKind.i64 0, Value.int IntKind.i64 0, Value.int IntKind.i64 0, Value.int IntKind.i64 0, Value.int IntKind.i64 0, Value.int IntKind.i64 0, Value.int IntKind.i64 0, Value.int IntKind.i64 0, Value.int IntKind.i64 0])⟩),
  (35, ⟨(.struct [(34, 0, 9), (3, 9, 1), (3, 10, 1), (3, 11, 1), (3, 12, 1), (3, 13, 1), (3, 14, 1), (3, 15, 1), (3, 16, 1), (3, 17, 1), (3, 18, 1), (3, 19, 1), (3, 20, 1), (3, 21, 1), (3, 22, 1), (3, 23, 1), (3, 24, 1)]), 25, 200, (Value.agg #[Value.int IntKind.i64 0, Value.int IntKind.i64 0, Value.int IntKind.i64 0, Value.int IntKind.i64 0, Value.int IntKind.i64 0, Value.int IntKind.i64 0, Value.int IntKind.i64 0, Value.int IntKind.i64 0, Value.int IntKind.i64 0, Value.int IntKind.i64 0, Value.int IntKind.i64 0, Value.int IntKind.i64 0, Value.int IntKind.i64 0, Value.int IntKind.i64 0, Value.int IntKind.i64 0, Value.int IntKind.i64 0, Value.int IntKind.i64 0, Value.int IntKind.i64 0, Value.int IntKind.i64 0, Value.int IntKind.i64 0, Value.int IntKind.i64 0, Value.int IntKind.i64 0, Value.int IntKind.i64 0, Value.int IntKind.i64 0, Value.int IntKind.i64 0])⟩),
  (36, ⟨(.struct [(34, 0, 9), (3, 9, 1), (3, 10, 1), (3, 11, 1), (3, 12, 1), (3, 13, 1), (3, 14, 1), (3, 15, 1), (3, 16, 1), (3, 17, 1), (3, 18, 1), (3, 19, 1), (3, 20, 1), (3, 21, 1), (3, 22, 1), (3, 23, 1), (3, 24, 1)]), 25, 200, (Value.agg #[Value.int IntKind.i64 0, Value.int IntKind.i64 0, Value.int IntKind.i64 0, Value.int IntKind.i64 0, Value.int IntKind.i64 0, Value.int IntKind.i64 0, Value.int IntKind.i64 0, Value.int IntKind.i64 0, Value.int IntKind.i64 0, Value.int IntKind.i64 0, Value.int IntKind.i64 0, Value.int IntKind.i64 0, Value.int IntKind.i64 0, Value.int IntKind.i64 0, Value.int IntKind.i64 0, Value.int IntKind.i64 0, Value.int IntKind.i64 0, Value.int IntKind.i64 0, Value.int IntKind.i64 0, Value.int IntKind.i64 0, Value.int IntKind.i64 0, Value.int IntKind.i64 0, Value.int IntKind.i64 0, Value.int IntKind.i64 0, Value.int IntKind.i64 0])⟩),
  (37, ⟨.other, 1, 8, Value.nilFunc⟩),
  (38, ⟨(.slice 3), 1, 24, (Value.slice none 0 0)⟩),
  (39, ⟨(.struct [(38, 0, 1)]), 1, 24, (Value.agg #[Value.slice none 0 0])⟩),
  (40, ⟨(.struct [(38, 0, 1)]), 1, 24, (Value.agg #[Value.slice none 0 0])⟩),
  (41, ⟨(.slice 62), 1, 24, (Value.slice none 0 0)⟩),
  (42, ⟨(.slice 94), 1, 24, (Value.slice none 0 0)⟩),
  (43, ⟨(.slice 38), 1, 24, (Value.slice none 0 0)⟩),
  (44, ⟨(.slice 65), 1, 24, (Value.slice none 0 0)⟩),
  (45, ⟨(.slice 71), 1, 24, (Value.slice none 0 0)⟩),
  (46, ⟨(.struct [(40, 0, 1), (3, 1, 1), (41, 2, 1), (42, 3, 1), (43, 4, 1), (38, 5, 1), (44, 6, 1), (45, 7, 1), (3, 8, 1), (4, 9, 1), (4, 10, 1)]), 11, 192, (Value.agg #[Value.slice none 0 0, Value.int IntKind.i64 0, Value.slice none 0 0, Value.slice none 0 0, Value.slice none 0 0, Value.slice none 0 0, Value.slice none 0 0, Value.slice none 0 0, Value.int IntKind.i64 0, Value.bool false, Value.bool false])⟩),
  (47, ⟨(.struct [(40, 0, 1), (3, 1, 1), (41, 2, 1), (42, 3, 1), (43, 4, 1), (38, 5, 1), (44, 6, 1), (45, 7, 1), (3, 8, 1), (4, 9, 1), (4, 10, 1)]), 11, 192, (Value.agg #[Value.slice none 0 0, Value.int IntKind.i64 0, Value.slice none 0 0, Value.slice none 0 0, Value.slice none 0 0, Value.slice none 0 0, Value.slice none 0 0, Value.slice none 0 0, Value.int IntKind.i64 0, Value.bool false, Value.bool false])⟩),
  (48, ⟨.other, 1, 8, Value.nilFunc⟩),
  (49, ⟨(.struct [(3, 0, 1), (38, 1, 1), (38, 2, 1)]), 3, 56, (Value.agg #[Value.int IntKind.i64 0, Value.slice none 0 0, Value.slice none 0 0])⟩),
  (50, ⟨(.struct [(3, 0, 1), (38, 1, 1), (38, 2, 1)]), 3, 56, (Value.agg #[Value.int IntKind.i64 0, Value.slice none 0 0, Value.slice none 0 0])⟩),
  (51, ⟨.other, 1, 8, Value.nilFunc⟩),
  (52, ⟨.other, 1, 8, Value.nilFunc⟩),
  (53, ⟨.other, 1, 0, (Value.tuple #[Value.agg #[Value.int IntKind.i64 0, Value.slice none 0 0, Value.slice none 0 0], Value.bool false])⟩),
  (54, ⟨.other, 1, 8, Value.nilFunc⟩),
  (55, ⟨.other, 1, 8, Value.nilFunc⟩),
  (56, ⟨.other, 1, 8, Value.nilFunc⟩),
  (57, ⟨(.int .i64), 1, 8, (Value.int IntKind.i64 0)⟩),
  (58, ⟨.other, 1, 0, (Value.tuple #[Value.agg #[Value.int IntKind.i64 0, Value.int IntKind.i64 0, Value.int IntKind.i64 0, Value.int IntKind.i64 0, Value.int IntKind.i64 0, Value.int IntKind.i64 0, Value.int IntKind.i64 0, Value.int IntKind.i64 0, Value.int IntKind.i64 0, Value.int IntKind.i64 0, Value.int IntKind.i64 0, Value.int IntKind.i64 0, Value.int IntKind.i64 0, Value.int IntKind.i64 0, Value.int IntKind.i64 0, Value.int IntKind.i64 0, Value.int IntKind.i64 0, Value.int IntKind.i64 0, Value.int IntKind.i64 0, Value.int IntKind.i64 0, Value.int IntKind.i64 0, Value.int IntKind.i64 0, Value.int IntKind.i64 0, Value.int IntKind.i64 0, Value.int IntKind.i64 0], Value.int IntKind.i64 0])⟩),
  (59, ⟨.other, 1, 8, Value.nilFunc⟩),
  (60, ⟨.other, 1, 8, Value.nilFunc⟩),
  (61, ⟨(.struct [(3, 0, 1), (3, 1, 1), (3, 2, 1), (3, 3, 1)]), 4, 32, (Value.agg #[Value.int IntKind.i64 0, Value.int IntKind.i64 0, Value.int IntKind.i64 0, Value.int IntKind.i64 0])⟩),
  (62, ⟨(.struct [(3, 0, 1), (3, 1, 1), (3, 2, 1), (3, 3, 1)]), 4, 32, (Value.agg #[Value.int IntKind.i64 0, Value.int IntKind.i64 0, Value.int IntKind.i64 0, Value.int IntKind.i64 0])⟩),
  (63, ⟨(.struct [(3, 0, 1), (3, 1, 1), (3, 2, 1), (3, 3, 1)]), 4, 32, (Value.agg #[Value.int IntKind.i64 0, Value.int IntKind.i64 0, Value.int IntKind.i64 0, Value.int IntKind.i64 0])⟩),
  (64, ⟨(.struct [(3, 0, 1), (3, 1, 1), (3, 2, 1), (3, 3, 1)]), 4, 32, (Value.agg #[Value.int IntKind.i64 0, Value.int IntKind.i64 0, Value.int IntKind.i64 0, Value.int IntKind.i64 0])⟩),
  (65, ⟨(.slice 87), 1, 24, (Value.slice none 0 0)⟩),
  (66, ⟨(.struct [(3, 0, 1), (4, 1, 1), (57, 2, 1), (3, 3, 1), (65, 4, 1)]), 5, 56, (Value.agg #[Value.int IntKind.i64 0, Value.bool false, Value.int IntKind.i64 0, Value.int IntKind.i64 0, Value.slice none 0 0])⟩),
  (67, ⟨(.struct [(3, 0, 1), (4, 1, 1), (57, 2, 1), (3, 3, 1), (65, 4, 1)]), 5, 56, (Value.agg #[Value.int IntKind.i64 0, Value.bool false, Value.int IntKind.i64 0, Value.int IntKind.i64 0, Value.slice none 0 0])⟩),
  (68, ⟨.other, 1, 0, (Value.tuple #[Value.agg #[Value.int IntKind.i64 0, Value.int IntKind.i64 0, Value.int IntKind.i64 0, Value.int IntKind.i64 0], Value.agg #[Value.int IntKind.i64 0, Value.bool false, Value.int IntKind.i64 0, Value.int IntKind.i64 0, Value.slice none 0 0], Value.bool false])⟩),
  (69, ⟨.other, 1, 8, Value.nilFunc⟩),
  (70, ⟨(.struct [(3, 0, 1), (62, 1, 4), (3, 5, 1), (4, 6, 1), (3, 7, 1), (3, 8, 1), (3, 9, 1)]), 10, 80, (Value.agg #[Value.int IntKind.i64 0, Value.int IntKind.i64 0, Value.int IntKind.i64 0, Value.int IntKind.i64 0, Value.int IntKind.i64 0, Value.int IntKind.i64 0, Value.bool false, Value.int IntKind.i64 0, Value.int IntKind.i64 0, Value.int IntKind.i64 0])⟩),
  (71, ⟨(.struct [(3, 0, 1), (62, 1, 4), (3, 5, 1), (4, 6, 1), (3, 7, 1), (3, 8, 1), (3, 9, 1)]), 10, 80, (Value.agg #[Value.int IntKind.i64 0, Value.int IntKind.i64 0, Value.int IntKind.i64 0, Value.int IntKind.i64 0, Value.int IntKind.i64 0, Value.int IntKind.i64 0, Value.bool false, Value.int IntKind.i64 0, Value.int IntKind.i64 0, Value.int IntKind.i64 0])⟩),
  (72, ⟨(.slice 64), 1, 24, (Value.slice none 0 0)⟩),
  (73, ⟨.other, 1, 8, Value.nilFunc⟩),
  (74, ⟨.other, 1, 8, Value.nilFunc⟩),
  (75, ⟨(.int .u64), 1, 8, (Value.int IntKind.u64 0)⟩),
  (76, ⟨.other, 1, 8, Value.nilFunc⟩),
  (77, ⟨.other, 1, 8, Value.nilFunc⟩),
  (78, ⟨.other, 1, 0, (Value.tuple #[Value.agg #[Value.int IntKind.i64 0, Value.slice none 0 0, Value.slice none 0 0], Value.int IntKind.i64 0, Value.bool false])⟩),
  (79, ⟨.other, 1, 8, Value.nilFunc⟩),
  (80, ⟨(.slice 4), 1, 24, (Value.slice none 0 0)⟩),
  (81, ⟨.other, 1, 8, Value.nilFunc⟩),
  (82, ⟨.other, 1, 8, Value.nilFunc⟩),
  (83, ⟨.other, 1, 8, Value.nilFunc⟩),
  (84, ⟨(.struct [(3, 0, 1), (4, 1, 1), (3, 2, 1)]), 3, 24, (Value.agg #[Value.int IntKind.i64 0, Value.bool false, Value.int IntKind.i64 0])⟩),
  (85, ⟨(.struct [(3, 0, 1), (4, 1, 1), (3, 2, 1)]), 3, 24, (Value.agg #[Value.int IntKind.i64 0, Value.bool false, Value.int IntKind.i64 0])⟩),
  (86, ⟨.other, 1, 8, Value.nilFunc⟩),
  (87, ⟨(.array 2 3), 2, 16, (Value.agg #[Value.int IntKind.i64 0, Value.int IntKind.i64 0])⟩),
  (88, ⟨.other, 1, 8, Value.nilFunc⟩),
  (89, ⟨.other, 1, 8, Value.nilFunc⟩),
  (90, ⟨.other, 1, 8, Value.nilFunc⟩),
  (91, ⟨.other, 1, 8, Value.nilFunc⟩),
  (92, ⟨.other, 1, 8, Value.nilFunc⟩),
  (93, ⟨.other, 1, 8, Value.nilFunc⟩),
  (94, ⟨(.slice 105), 1, 24, (Value.slice none 0 0)⟩),
  (95, ⟨.other, 1, 8, (Value.pointer none)⟩),
  (96, ⟨(.struct [(36, 0, 25), (3, 25, 1), (65, 26, 1), (3, 27, 1), (94, 28, 1), (3, 29, 1)]), 30, 272, (Value.agg #[Value.int IntKind.i64 0, Value.int IntKind.i64 0, Value.int IntKind.i64 0, Value.int IntKind.i64 0, Value.int IntKind.i64 0, Value.int IntKind.i64 0, Value.int IntKind.i64 0, Value.int IntKind.i64 0, Value.int IntKind.i64 0, Value.int IntKind.i64 0, Value.int IntKind.i64 0, Value.int IntKind.i64 0, Value.int IntKind.i64 0, Value.int IntKind.i64 0, Value.int IntKind.i64 0, Value.int IntKind.i64 0, Value.int IntKind.i64 0, Value.int IntKind.i64 0, Value.int IntKind.i64 0, Value.int IntKind.i64 0, Value.int IntKind.i64 0, Value.int IntKind.i64 0, Value.int IntKind.i64 0, Value.int IntKind.i64 0, Value.int IntKind.i64 0, Value.int IntKind.i64 0, Value.slice none 0 0, Value.int IntKind.i64 0, Value.slice none 0 0, Value.int IntKind.i64 0])⟩),
  (97, ⟨(.struct [(36, 0, 25), (3, 25, 1), (65, 26, 1), (3, 27, 1), (94, 28, 1), (3, 29, 1)]), 30, 272, (Value.agg #[Value.int IntKind.i64 0, Value.int IntKind.i64 0, Value.int IntKind.i64 0, Value.int IntKind.i64 0, Value.int IntKind.i64 0, Value.int IntKind.i64 0, Value.int IntKind.i64 0, Value.int IntKind.i64 0, Value.int IntKind.i64 0, Value.int IntKind.i64 0, Value.int IntKind.i64 0, Value.int IntKind.i64 0, Value.int IntKind.i64 0, Value.int IntKind.i64 0, Value.int IntKind.i64 0, Value.int IntKind.i64 0, Value.int IntKind.i64 0, Value.int IntKind.i64 0, Value.int IntKind.i64 0, Value.int IntKind.i64 0, Value.int IntKind.i64 0, Value.int IntKind.i64 0, Value.int IntKind.i64 0, Value.int IntKind.i64 0, Value.int IntKind.i64 0, Value.int IntKind.i64 0, Value.slice none 0 0, Value.int IntKind.i64 0, Value.slice none 0 0, Value.int IntKind.i64 0])⟩),
  (98, ⟨.other, 1, 8, Value.nilFunc⟩),
  (99, ⟨.other, 1, 0, (Value.tuple #[Value.nilFunc, Value.bool false])⟩),
  (100, ⟨.other, 1, 8, (Value.map none)⟩),
  (101, ⟨.other, 1, 8, Value.nilFunc⟩),
  (102, ⟨.other, 1, 8, Value.nilFunc⟩),
  (103, ⟨.other, 1, 8, Value.nilFunc⟩),
  (104, ⟨(.struct [(3, 0, 1), (4, 1, 1)]), 2, 16, (Value.agg #[Value.int IntKind.i64 0, Value.bool false])⟩),
  (105, ⟨(.struct [(3, 0, 1), (4, 1, 1)]), 2, 16, (Value.agg #[Value.int IntKind.i64 0, Value.bool false])⟩),
  (106, ⟨.other, 1, 8, Value.nilFunc⟩),
  (107, ⟨.other, 1, 0, (Value.tuple #[Value.int IntKind.i64 0, Value.agg #[Value.int IntKind.i64 0, Value.bool false, Value.int IntKind.i64 0, Value.int IntKind.i64 0, Value.slice none 0 0]])⟩),
  (108, ⟨.other, 1, 8, Value.nilFunc⟩),
  (109, ⟨.other, 1, 0, (Value.tuple #[Value.agg #[Value.int IntKind.i64 0, Value.bool false, Value.int IntKind.i64 0, Value.int IntKind.i64 0, Value.slice none 0 0], Value.agg #[Value.int IntKind.i64 0, Value.int IntKind.i64 0, Value.int IntKind.i64 0, Value.int IntKind.i64 0]])⟩),
  (110, ⟨.other, 1, 8, Value.nilFunc⟩),
  (111, ⟨.other, 1, 8, Value.nilFunc⟩),
  (112, ⟨.other, 1, 8, Value.nilFunc⟩),
  (113, ⟨.other, 1, 8, Value.nilFunc⟩),
  (114, ⟨.other, 1, 8, Value.nilFunc⟩),
  (115, ⟨(.int .u32), 1, 4, (Value.int IntKind.u32 0)⟩),
  (116, ⟨.other, 1, 8, Value.nilFunc⟩),
  (117, ⟨(.int .u64), 1, 8, (Value.int IntKind.u64 0)⟩),
  (118, ⟨.other, 1, 0, (Value.tuple #[Value.agg #[Value.slice none 0 0], Value.slice none 0 0, Value.int IntKind.i64 0])⟩),
  (119, ⟨.other, 1, 8, Value.nilFunc⟩),
  (120, ⟨.other, 1, 8, Value.nilFunc⟩),
  (121, ⟨.other, 1, 8, Value.nilFunc⟩),
  (122, ⟨.other, 1, 8, Value.nilFunc⟩),
  (123, ⟨.other, 1, 8, Value.nilFunc⟩),
  (124, ⟨.other, 1, 0, (Value.tuple #[Value.agg #[Value.slice none 0 0], Value.agg #[Value.int IntKind.i64 0, Value.bool false], Value.int IntKind.i64 0])⟩),
  (125, ⟨.other, 1, 8, Value.nilFunc⟩),
  (126, ⟨.other, 1, 8, Value.nilFunc⟩),
  (127, ⟨.other, 1, 8, Value.nilFunc⟩),
  (128, ⟨.other, 1, 8, Value.nilFunc⟩),
  (129, ⟨.other, 1, 8, Value.nilFunc⟩),
  (130, ⟨.other, 1, 8, Value.nilFunc⟩),
  (131, ⟨.other, 1, 8, Value.nilFunc⟩),
  (132, ⟨.other, 1, 8, Value.nilFunc⟩),
  (133, ⟨.other, 1, 8, Value.nilFunc⟩),
  (134, ⟨.other, 1, 8, Value.nilFunc⟩),
  (135, ⟨(.struct [(64, 0, 4)]), 4, 32, (Value.agg #[Value.int IntKind.i64 0, Value.int IntKind.i64 0, Value.int IntKind.i64 0, Value.int IntKind.i64 0])⟩),
  (136, ⟨(.struct [(64, 0, 4)]), 4, 32, (Value.agg #[Value.int IntKind.i64 0, Value.int IntKind.i64 0, Value.int IntKind.i64 0, Value.int IntKind.i64 0])⟩),
  (137, ⟨.other, 1, 8, Value.nilFunc⟩),
  (138, ⟨.other, 1, 8, Value.nilFunc⟩),
  (139, ⟨.other, 1, 8, Value.nilFunc⟩),
  (140, ⟨(.struct [(3, 0, 1), (3, 1, 1)]), 2, 16, (Value.agg #[Value.int IntKind.i64 0, Value.int IntKind.i64 0])⟩),
  (141, ⟨(.struct [(3, 0, 1), (3, 1, 1)]), 2, 16, (Value.agg #[Value.int IntKind.i64 0, Value.int IntKind.i64 0])⟩),
  (142, ⟨.other, 1, 8, Value.nilFunc⟩),
  (143, ⟨.other, 1, 8, Value.nilFunc⟩),
  (144, ⟨.other, 1, 8, Value.nilFunc⟩),
  (145, ⟨.other, 1, 8, Value.nilFunc⟩),
  (146, ⟨.other, 1, 8, Value.nilFunc⟩),
  (147, ⟨.other, 1, 8, (Value.map none)⟩),
  (148, ⟨.other, 1, 8, Value.nilFunc⟩),
  (149, ⟨.other, 1, 8, Value.nilFunc⟩),
  (150, ⟨.other, 1, 8, (Value.pointer none)⟩),
  (151, ⟨.other, 1, 8, (Value.pointer none)⟩),
  (152, ⟨.other, 1, 8, Value.nilFunc⟩),
  (153, ⟨(.struct [(4, 0, 1), (3, 1, 1), (3, 2, 1), (3, 3, 1), (3, 4, 1)]), 5, 40, (Value.agg #[Value.bool false, Value.int IntKind.i64 0, Value.int IntKind.i64 0, Value.int IntKind.i64 0, Value.int IntKind.i64 0])⟩),
  (154, ⟨(.struct [(4, 0, 1), (3, 1, 1), (3, 2, 1), (3, 3, 1), (3, 4, 1)]), 5, 40, (Value.agg #[Value.bool false, Value.int IntKind.i64 0, Value.int IntKind.i64 0, Value.int IntKind.i64 0, Value.int IntKind.i64 0])⟩),
  (155, ⟨(.struct [(151, 0, 1), (154, 1, 5), (3, 6, 1)]), 7, 56, (Value.agg #[Value.pointer none, Value.bool false, Value.int IntKind.i64 0, Value.int IntKind.i64 0, Value.int IntKind.i64 0, Value.int IntKind.i64 0, Value.int IntKind.i64 0])⟩),
  (156, ⟨(.struct [(151, 0, 1), (154, 1, 5), (3, 6, 1)]), 7, 56, (Value.agg #[Value.pointer none, Value.bool false, Value.int IntKind.i64 0, Value.int IntKind.i64 0, Value.int IntKind.i64 0, Value.int IntKind.i64 0, Value.int IntKind.i64 0])⟩),
  (157, ⟨.other, 1, 8, Value.nilFunc⟩),
  (158, ⟨.other, 1, 8, Value.nilFunc⟩),
  (159, ⟨(.slice 141), 1, 24, (Value.slice none 0 0)⟩),
  (160, ⟨.other, 1, 8, Value.nilFunc⟩),
  (161, ⟨.other, 1, 8, Value.nilFunc⟩),
  (162, ⟨.other, 1, 8, Value.nilFunc⟩),
  (163, ⟨(.array 3 3), 3, 24, (Value.agg #[Value.int IntKind.i64 0, Value.int IntKind.i64 0, Value.int IntKind.i64 0])⟩),
  (164, ⟨(.struct [(36, 0, 25), (3, 25, 1), (65, 26, 1), (3, 27, 1), (163, 28, 3), (106, 31, 1)]), 32, 272, (Value.agg #[Value.int IntKind.i64 0, Value.int IntKind.i64 0, Value.int IntKind.i64 0, Value.int IntKind.i64 0, Value.int IntKind.i64 0, Value.int IntKind.i64 0, Value.int IntKind.i64 0, Value.int IntKind.i64 0, Value.int IntKind.i64 0, Value.int IntKind.i64 0, Value.int IntKind.i64 0, Value.int IntKind.i64 0, Value.int IntKind.i64 0, Value.int IntKind.i64 0, Value.int IntKind.i64 0, Value.int IntKind.i64 0, Value.int IntKind.i64 0, Value.int IntKind.i64 0, Value.int IntKind.i64 0, Value.int IntKind.i64 0, Value.int IntKind.i64 0, Value.int IntKind.i64 0, Value.int IntKind.i64 0, Value.int IntKind.i64 0, Value.int IntKind.i64 0, Value.int IntKind.i64 0, Value.slice none 0 0, Value.int IntKind.i64 0, Value.int IntKind.i64 0, Value.int IntKind.i64 0, Value.int IntKind.i64 0, Value.nilFunc])⟩),
  (165, ⟨(.struct [(36, 0, 25), (3, 25, 1), (65, 26, 1), (3, 27, 1), (163, 28, 3), (106, 31, 1)]), 32, 272, (Value.agg #[Value.int IntKind.i64 0, Value.int IntKind.i64 0, Value.int IntKind.i64 0, Value.int IntKind.i64 0, Value.int IntKind.i64 0, Value.int IntKind.i64 0, Value.int IntKind.i64 0, Value.int IntKind.i64 0, Value.int IntKind.i64 0, Value.int IntKind.i64 0, Value.int IntKind.i64 0, Value.int IntKind.i64 0, Value.int IntKind.i64 0, Value.int IntKind.i64 0, Value.int IntKind.i64 0, Value.int IntKind.i64 0, Value.int IntKind.i64 0, Value.int IntKind.i64 0, Value.int IntKind.i64 0, Value.int IntKind.i64 0, Value.int IntKind.i64 0, Value.int IntKind.i64 0, Value.int IntKind.i64 0, Value.int IntKind.i64 0, Value.int IntKind.i64 0, Value.int IntKind.i64 0, Value.slice none 0 0, Value.int IntKind.i64 0, Value.int IntKind.i64 0, Value.int IntKind.i64 0, Value.int IntKind.i64 0, Value.nilFunc])⟩),
  (166, ⟨(.struct [(64, 0, 4)]), 4, 32, (Value.agg #[Value.int IntKind.i64 0, Value.int IntKind.i64 0, Value.int IntKind.i64 0, Value.int IntKind.i64 0])⟩),
  (167, ⟨(.struct [(64, 0, 4)]), 4, 32, (Value.agg #[Value.int IntKind.i64 0, Value.int IntKind.i64 0, Value.int IntKind.i64 0, Value.int IntKind.i64 0])⟩),
  (168, ⟨.other, 1, 0, (Value.tuple #[Value.int IntKind.i64 0, Value.int IntKind.i64 0, Value.bool false])⟩),
  (169, ⟨.other, 1, 8, Value.nilFunc⟩),
  (170, ⟨.other, 1, 8, Value.nilFunc⟩),
  (171, ⟨.other, 1, 0, (Value.tuple #[Value.int IntKind.i64 0, Value.int IntKind.i64 0])⟩),
  (172, ⟨.other, 1, 8, Value.nilFunc⟩),
  (173, ⟨.other, 1, 8, Value.nilFunc⟩),
  (174, ⟨.other, 1, 8, Value.nilFunc⟩),
  (175, ⟨.other, 1, 8, Value.nilFunc⟩),
  (176, ⟨.other, 1, 8, Value.nilFunc⟩),
  (177, ⟨(.struct [(17, 0, 1), (17, 1, 1), (17, 2, 1), (9, 3, 1)]), 4, 40, (Value.agg #[Value.pointer none, Value.pointer none, Value.pointer none, Value.string { data := #[] }])⟩),
  (178, ⟨(.struct [(17, 0, 1), (17, 1, 1), (17, 2, 1), (9, 3, 1)]), 4, 40, (Value.agg #[Value.pointer none, Value.pointer none, Value.pointer none, Value.string { data := #[] }])⟩),
  (179, ⟨(.array 0 16), 0, 0, (Value.agg #[])⟩),
  (180, ⟨(.struct [(179, 0, 0)]), 0, 0, (Value.agg #[])⟩),
  (181, ⟨(.struct [(179, 0, 0)]), 0, 0, (Value.agg #[])⟩),
  (182, ⟨(.int .u8), 1, 1, (Value.int IntKind.u8 0)⟩),
  (183, ⟨(.int .u8), 1, 1, (Value.int IntKind.u8 0)⟩),
  (184, ⟨.other, 1, 8, Value.nilFunc⟩),
  (185, ⟨.other, 1, 8, (Value.pointer none)⟩),
  (186, ⟨(.int .i32), 1, 4, (Value.int IntKind.i32 0)⟩),
  (187, ⟨(.int .i32), 1, 4, (Value.int IntKind.i32 0)⟩),
  (188, ⟨(.struct [(12, 0, 1), (12, 1, 1), (115, 2, 1), (182, 3, 1), (5, 4, 1), (5, 5, 1), (183, 6, 1), (184, 7, 1), (185, 8, 1), (186, 9, 1), (187, 10, 1)]), 11, 48, (Value.agg #[Value.int IntKind.u64 0, Value.int IntKind.u64 0, Value.int IntKind.u32 0, Value.int IntKind.u8 0, Value.int IntKind.u8 0, Value.int IntKind.u8 0, Value.int IntKind.u8 0, Value.nilFunc, Value.pointer none, Value.int IntKind.i32 0, Value.int IntKind.i32 0])⟩),
  (189, ⟨(.struct [(12, 0, 1), (12, 1, 1), (115, 2, 1), (182, 3, 1), (5, 4, 1), (5, 5, 1), (183, 6, 1), (184, 7, 1), (185, 8, 1), (186, 9, 1), (187, 10, 1)]), 11, 48, (Value.agg #[Value.int IntKind.u64 0, Value.int IntKind.u64 0, Value.int IntKind.u32 0, Value.int IntKind.u8 0, Value.int IntKind.u8 0, Value.int IntKind.u8 0, Value.int IntKind.u8 0, Value.nilFunc, Value.pointer none, Value.int IntKind.i32 0, Value.int IntKind.i32 0])⟩),
  (190, ⟨.other, 1, 8, (Value.pointer none)⟩)]
def tb : Nat → Option TI := kv tab

def tabGood (P : Program) (p : Nat × TI) : Prop := (P.underlying p.1).map (tkOf P) = some p.2.k ∧ (P.info? p.1).map (fun f => (f.size, f.bytes, f.zero)) = some (p.2.sz, p.2.bytes, some p.2.zero)
theorem tab_of {P : Program} : ∀ {l : List (Nat × TI)}, (∀ p ∈ l, tabGood P p) → TabOk P (kv l) := by
  intro l h
  have key : ∀ (l : List (Nat × TI)), (∀ p ∈ l, tabGood P p) → ∀ t i, kv l t = some i → tabGood P (t, i) := by
    intro l
    induction l with
    | nil => intro _ t i h; cases h
    | cons p l ih =>
      intro h t i hi
      obtain ⟨k, v⟩ := p
      rw [lk_cons] at hi
      split at hi
      · rename_i hk; subst hk; cases hi; exact h _ (by simp)
      · exact ih (fun q hq => h q (by simp [hq])) t i hi
  refine ⟨fun t i hi => ?_, fun t i hi => ?_⟩
  · obtain ⟨h1, _⟩ := key l h t i hi
    simp only [Option.map_eq_some_iff] at h1
    exact h1
  · obtain ⟨_, h2⟩ := key l h t i hi
    simp only [Option.map_eq_some_iff, Prod.mk.injEq] at h2
    obtain ⟨f, h3, h4, h5, h6⟩ := h2
    exact ⟨f, h3, h4, h5, h6⟩
theorem tg0 : tabGood Tryz.prog (0, ⟨.other, 1, 0, (Value.tuple #[])⟩) := ⟨by kernel_rfl, by kernel_rfl⟩
theorem tg1 : tabGood Tryz.prog (1, ⟨.other, 1, 8, Value.nilFunc⟩) := ⟨by kernel_rfl, by kernel_rfl⟩
theorem tg2 : tabGood Tryz.prog (2, ⟨(.int .i64), 1, 8, (Value.int IntKind.i64 0)⟩) := ⟨by kernel_rfl, by kernel_rfl⟩
theorem tg3 : tabGood Tryz.prog (3, ⟨(.int .i64), 1, 8, (Value.int IntKind.i64 0)⟩) := ⟨by kernel_rfl, by kernel_rfl⟩
theorem tg4 : tabGood Tryz.prog (4, ⟨.bool, 1, 1, (Value.bool false)⟩) := ⟨by kernel_rfl, by kernel_rfl⟩
theorem tg5 : tabGood Tryz.prog (5, ⟨(.int .u8), 1, 1, (Value.int IntKind.u8 0)⟩) := ⟨by kernel_rfl, by kernel_rfl⟩
theorem tg6 : tabGood Tryz.prog (6, ⟨(.int .u8), 1, 1, (Value.int IntKind.u8 0)⟩) := ⟨by kernel_rfl, by kernel_rfl⟩
theorem tg7 : tabGood Tryz.prog (7, ⟨(.struct [(2, 0, 1), (3, 1, 1), (4, 2, 1), (6, 3, 1)]), 4, 24, (Value.agg #[Value.int IntKind.i64 0, Value.int IntKind.i64 0, Value.bool false, Value.int IntKind.u8 0])⟩) := ⟨by kernel_rfl, by kernel_rfl⟩
theorem tg8 : tabGood Tryz.prog (8, ⟨(.struct [(2, 0, 1), (3, 1, 1), (4, 2, 1), (6, 3, 1)]), 4, 24, (Value.agg #[Value.int IntKind.i64 0, Value.int IntKind.i64 0, Value.bool false, Value.int IntKind.u8 0])⟩) := ⟨by kernel_rfl, by kernel_rfl⟩
theorem tg9 : tabGood Tryz.prog (9, ⟨.str, 1, 16, (Value.string { data := #[] })⟩) := ⟨by kernel_rfl, by kernel_rfl⟩
theorem tg10 : tabGood Tryz.prog (10, ⟨.str, 1, 16, (Value.string { data := #[] })⟩) := ⟨by kernel_rfl, by kernel_rfl⟩
theorem tg11 : tabGood Tryz.prog (11, ⟨.str, 1, 16, (Value.string { data := #[] })⟩) := ⟨by kernel_rfl, by kernel_rfl⟩
theorem tg12 : tabGood Tryz.prog (12, ⟨(.int .u64), 1, 8, (Value.int IntKind.u64 0)⟩) := ⟨by kernel_rfl, by kernel_rfl⟩
theorem tg13 : tabGood Tryz.prog (13, ⟨(.struct [(9, 0, 1), (12, 1, 1)]), 2, 24, (Value.agg #[Value.string { data := #[] }, Value.int IntKind.u64 0])⟩) := ⟨by kernel_rfl, by kernel_rfl⟩
theorem tg14 : tabGood Tryz.prog (14, ⟨(.struct [(9, 0, 1), (12, 1, 1)]), 2, 24, (Value.agg #[Value.string { data := #[] }, Value.int IntKind.u64 0])⟩) := ⟨by kernel_rfl, by kernel_rfl⟩
theorem tg15 : tabGood Tryz.prog (15, ⟨.other, 1, 8, (Value.pointer none)⟩) := ⟨by kernel_rfl, by kernel_rfl⟩
theorem tg16 : tabGood Tryz.prog (16, ⟨.other, 1, 8, (Value.pointer none)⟩) := ⟨by kernel_rfl, by kernel_rfl⟩
theorem tg17 : tabGood Tryz.prog (17, ⟨.other, 1, 8, (Value.pointer none)⟩) := ⟨by kernel_rfl, by kernel_rfl⟩
theorem tg18 : tabGood Tryz.prog (18, ⟨(.struct [(17, 0, 1)]), 1, 8, (Value.agg #[Value.pointer none])⟩) := ⟨by kernel_rfl, by kernel_rfl⟩
theorem tg19 : tabGood Tryz.prog (19, ⟨(.struct [(17, 0, 1)]), 1, 8, (Value.agg #[Value.pointer none])⟩) := ⟨by kernel_rfl, by kernel_rfl⟩
theorem tg20 : tabGood Tryz.prog (20, ⟨.other, 1, 16, Value.nilIface⟩) := ⟨by kernel_rfl, by kernel_rfl⟩
theorem tg21 : tabGood Tryz.prog (21, ⟨(.int .i32), 1, 4, (Value.int IntKind.i32 0)⟩) := ⟨by kernel_rfl, by kernel_rfl⟩
theorem tg22 : tabGood Tryz.prog (22, ⟨(.int .u16), 1, 2, (Value.int IntKind.u16 0)⟩) := ⟨by kernel_rfl, by kernel_rfl⟩
theorem tg23 : tabGood Tryz.prog (23, ⟨.other, 1, 8, Value.nilFunc⟩) := ⟨by kernel_rfl, by kernel_rfl⟩
theorem tg24 : tabGood Tryz.prog (24, ⟨.other, 1, 8, Value.nilFunc⟩) := ⟨by kernel_rfl, by kernel_rfl⟩
theorem tg25 : tabGood Tryz.prog (25, ⟨.other, 1, 8, Value.nilFunc⟩) := ⟨by kernel_rfl, by kernel_rfl⟩
theorem tg26 : tabGood Tryz.prog (26, ⟨(.slice 41), 1, 24, (Value.slice none 0 0)⟩) := ⟨by kernel_rfl, by kernel_rfl⟩
theorem tg27 : tabGood Tryz.prog (27, ⟨(.slice 5), 1, 24, (Value.slice none 0 0)⟩) := ⟨by kernel_rfl, by kernel_rfl⟩
theorem tg28 : tabGood Tryz.prog (28, ⟨(.struct [(26, 0, 1), (27, 1, 1)]), 2, 48, (Value.agg #[Value.slice none 0 0, Value.slice none 0 0])⟩) := ⟨by kernel_rfl, by kernel_rfl⟩
theorem tg29 : tabGood Tryz.prog (29, ⟨(.struct [(26, 0, 1), (27, 1, 1)]), 2, 48, (Value.agg #[Value.slice none 0 0, Value.slice none 0 0])⟩) := ⟨by kernel_rfl, by kernel_rfl⟩
theorem tg30 : tabGood Tryz.prog (30, ⟨.other, 1, 8, Value.nilFunc⟩) := ⟨by kernel_rfl, by kernel_rfl⟩
theorem tg31 : tabGood Tryz.prog (31, ⟨.other, 1, 8, (Value.pointer none)⟩) := ⟨by kernel_rfl, by kernel_rfl⟩
theorem tg32 : tabGood Tryz.prog (32, ⟨.other, 1, 8, Value.nilFunc⟩) := ⟨by kernel_rfl, by kernel_rfl⟩
theorem tg33 : tabGood Tryz.prog (33, ⟨(.struct [(3, 0, 1), (3, 1, 1), (3, 2, 1), (3, 3, 1), (3, 4, 1), (3, 5, 1), (3, 6, 1), (3, 7, 1), (3, 8, 1)]), 9, 72, (Value.agg #[Value.int IntKind.i64 0, Value.int IntKind.i64 0, Value.int IntKind.i64 0, Value.int IntKind.i64 0, Value.int IntKind.i64 0, Value.int IntKind.i64 0, Value.int IntKind.i64 0, Value.int IntKind.i64 0, Value.int IntKind.i64 0])⟩) := ⟨by kernel_rfl, by kernel_rfl⟩
theorem tg34 : tabGood Tryz.prog (34, ⟨(.struct [(3, 0, 1), (3, 1, 1), (3, 2, 1), (3, 3, 1), (3, 4, 1), (3, 5, 1), (3, 6, 1), (3, 7, 1), (3, 8, 1)]), 9, 72, (Value.agg #[Value.int IntKind.i64 0, Value.int IntKind.i64 0, Value.int IntKind.i64 0, Value.int IntKind.i64 0, Value.int IntKind.i64 0, Value.int IntKind.i64 0, Value.int IntKind.i64 0, Value.int IntKind.i64 0, Value.int IntKind.i64 0])⟩) := ⟨by kernel_rfl, by kernel_rfl⟩
theorem tg35 : tabGood Tryz.prog (35, ⟨(.struct [(34, 0, 9), (3, 9, 1), (3, 10, 1), (3, 11, 1), (3, 12, 1), (3, 13, 1), (3, 14, 1), (3, 15, 1), (3, 16, 1), (3, 17, 1), (3, 18, 1), (3, 19, 1), (3, 20, 1), (3, 21, 1), (3, 22, 1), (3, 23, 1), (3, 24, 1)]), 25, 200, (Value.agg #[Value.int IntKind.i64 0, Value.int IntKind.i64 0, Value.int IntKind.i64 0, Value.int IntKind.i64 0, Value.int IntKind.i64 0, Value.int IntKind.i64 0, Value.int IntKind.i64 0, Value.int IntKind.i64 0, Value.int IntKind.i64 0, Value.int IntKind.i64 0, Value.int IntKind.i64 0, Value.int IntKind.i64 0, Value.int IntKind.i64 0, Value.int IntKind.i64 0, Value.int IntKind.i64 0, Value.int IntKind.i64 0, Value.int IntKind.i64 0, Value.int IntKind.i64 0, Value.int IntKind.i64 0, Value.int IntKind.i64 0, Value.int IntKind.i64 0, Value.int IntKind.i64 0, Value.int IntKind.i64 0, Value.int IntKind.i64 0, Value.int IntKind.i64 0])⟩) := ⟨by kernel_rfl, by kernel_rfl⟩
theorem tg36 : tabGood Tryz.prog (36, ⟨(.struct [(34, 0, 9), (3, 9, 1), (3, 10, 1), (3, 11, 1), (3, 12, 1), (3, 13, 1), (3, 14, 1), (3, 15, 1), (3, 16, 1), (3, 17, 1), (3, 18, 1), (3, 19, 1), (3, 20, 1), (3, 21, 1), (3, 22, 1), (3, 23, 1), (3, 24, 1)]), 25, 200, (Value.agg #[Value.int IntKind.i64 0, Value.int IntKind.i64 0, Value.int IntKind.i64 0, Value.int IntKind.i64 0, Value.int IntKind.i64 0, Value.int IntKind.i64 0, Value.int IntKind.i64 0, Value.int IntKind.i64 0, Value.int IntKind.i64 0, Value.int IntKind.i64 0, Value.int IntKind.i64 0, Value.int IntKind.i64 0, Value.int IntKind.i64 0, Value.int IntKind.i64 0, Value.int IntKind.i64 0, Value.int IntKind.i64 0, Value.int IntKind.i64 0, Value.int IntKind.i64 0, Value.int IntKind.i64 0, Value.int IntKind.i64 0, Value.int IntKind.i64 0, Value.int IntKind.i64 0, Value.int IntKind.i64 0, Value.int IntKind.i64 0, Value.int IntKind.i64 0])⟩) := ⟨by kernel_rfl, by kernel_rfl⟩
theorem tg37 : tabGood Tryz.prog (37, ⟨.other, 1, 8, Value.nilFunc⟩) := ⟨by kernel_rfl, by kernel_rfl⟩
theorem tg38 : tabGood Tryz.prog (38, ⟨(.slice 3), 1, 24, (Value.slice none 0 0)⟩) := ⟨by kernel_rfl, by kernel_rfl⟩
theorem tg39 : tabGood Tryz.prog (39, ⟨(.struct [(38, 0, 1)]), 1, 24, (Value.agg #[Value.slice none 0 0])⟩) := ⟨by kernel_rfl, by kernel_rfl⟩
theorem tg40 : tabGood Tryz.prog (40, ⟨(.struct [(38, 0, 1)]), 1, 24, (Value.agg #[Value.slice none 0 0])⟩) := ⟨by kernel_rfl, by kernel_rfl⟩
theorem tg41 : tabGood Tryz.prog (41, ⟨(.slice 62), 1, 24, (Value.slice none 0 0)⟩) := ⟨by kernel_rfl, by kernel_rfl⟩
theorem tg42 : tabGood Tryz.prog (42, ⟨(.slice 94), 1, 24, (Value.slice none 0 0)⟩) := ⟨by kernel_rfl, by kernel_rfl⟩
theorem tg43 : tabGood Tryz.prog (43, ⟨(.slice 38), 1, 24, (Value.slice none 0 0)⟩) := ⟨by kernel_rfl, by kernel_rfl⟩
theorem tg44 : tabGood Tryz.prog (44, ⟨(.slice 65), 1, 24, (Value.slice none 0 0)⟩) := ⟨by kernel_rfl, by kernel_rfl⟩
theorem tg45 : tabGood Tryz.prog (45, ⟨(.slice 71), 1, 24, (Value.slice none 0 0)⟩) := ⟨by kernel_rfl, by kernel_rfl⟩
theorem tg46 : tabGood Tryz.prog (46, ⟨(.struct [(40, 0, 1), (3, 1, 1), (41, 2, 1), (42, 3, 1), (43, 4, 1), (38, 5, 1), (44, 6, 1), (45, 7, 1), (3, 8, 1), (4, 9, 1), (4, 10, 1)]), 11, 192, (Value.agg #[Value.slice none 0 0, Value.int IntKind.i64 0, Value.slice none 0 0, Value.slice none 0 0, Value.slice none 0 0, Value.slice none 0 0, Value.slice none 0 0, Value.slice none 0 0, Value.int IntKind.i64 0, Value.bool false, Value.bool false])⟩) := ⟨by kernel_rfl, by kernel_rfl⟩
theorem tg47 : tabGood Tryz.prog (47, ⟨(.struct [(40, 0, 1), (3, 1, 1), (41, 2, 1), (42, 3, 1), (43, 4, 1), (38, 5, 1), (44, 6, 1), (45, 7, 1), (3, 8, 1), (4, 9, 1), (4, 10, 1)]), 11, 192, (Value.agg #[Value.slice none 0 0, Value.int IntKind.i64 0, Value.slice none 0 0, Value.slice none 0 0, Value.slice none 0 0, Value.slice none 0 0, Value.slice none 0 0, Value.slice none 0 0, Value.int IntKind.i64 0, Value.bool false, Value.bool false])⟩) := ⟨by kernel_rfl, by kernel_rfl⟩
theorem tg48 : tabGood Tryz.prog (48, ⟨.other, 1, 8, Value.nilFunc⟩) := ⟨by kernel_rfl, by kernel_rfl⟩
theorem tg49 : tabGood Tryz.prog (49, ⟨(.struct [(3, 0, 1), (38, 1, 1), (38, 2, 1)]), 3, 56, (Value.agg #[Value.int IntKind.i64 0, Value.slice none 0 0, Value.slice none 0 0])⟩) := ⟨by kernel_rfl, by kernel_rfl⟩
theorem tg50 : tabGood Tryz.prog (50, ⟨(.struct [(3, 0, 1), (38, 1, 1), (38, 2, 1)]), 3, 56, (Value.agg #[Value.int IntKind.i64 0, Value.slice none 0 0, Value.slice none 0 0])⟩) := ⟨by kernel_rfl, by kernel_rfl⟩
theorem tg51 : tabGood Tryz.prog (51, ⟨.other, 1, 8, Value.nilFunc⟩) := ⟨by kernel_rfl, by kernel_rfl⟩
theorem tg52 : tabGood Tryz.prog (52, ⟨.other, 1, 8, Value.nilFunc⟩) := ⟨by kernel_rfl, by kernel_rfl⟩
theorem tg53 : tabGood Tryz.prog (53, ⟨.other, 1, 0, (Value.tuple #[Value.agg #[Value.int IntKind.i64 0, Value.slice none 0 0, Value.slice none 0 0], Value.bool false])⟩) := ⟨by kernel_rfl, by kernel_rfl⟩
theorem tg54 : tabGood Tryz.prog (54, ⟨.other, 1, 8, Value.nilFunc⟩) := ⟨by kernel_rfl, by kernel_rfl⟩
theorem tg55 : tabGood Tryz.prog (55, ⟨.other, 1, 8, Value.nilFunc⟩) := ⟨by kernel_rfl, by kernel_rfl⟩
theorem tg56 : tabGood Tryz.prog (56, ⟨.other, 1, 8, Value.nilFunc⟩) := ⟨by kernel_rfl, by kernel_rfl⟩
theorem tg57 : tabGood Tryz.prog (57, ⟨(.int .i64), 1, 8, (Value.int IntKind.i64 0)⟩) := ⟨by kernel_rfl, by kernel_rfl⟩
theorem tg58 : tabGood Tryz.prog (58, ⟨.other, 1, 0, (Value.tuple #[Value.agg #[Value.int IntKind.i64 0, Value.int IntKind.i64 0, Value.int IntKind.i64 0, Value.int IntKind.i64 0, Value.int IntKind.i64 0, Value.int IntKind.i64 0, Value.int IntKind.i64 0, Value.int IntKind.i64 0, Value.int IntKind.i64 0, Value.int IntKind.i64 0, Value.int IntKind.i64 0, Value.int IntKind.i64 0, Value.int IntKind.i64 0, Value.int IntKind.i64 0, Value.int IntKind.i64 0, Value.int IntKind.i64 0, Value.int IntKind.i64 0, Value.int IntKind.i64 0, Value.int IntKind.i64 0, Value.int IntKind.i64 0, Value.int IntKind.i64 0, Value.int IntKind.i64 0, Value.int IntKind.i64 0, Value.int IntKind.i64 0, Value.int IntKind.i64 0], Value.int IntKind.i64 0])⟩) := ⟨by kernel_rfl, by kernel_rfl⟩
theorem tg59 : tabGood Tryz.prog (59, ⟨.other, 1, 8, Value.nilFunc⟩) := ⟨by kernel_rfl, by kernel_rfl⟩
theorem tg60 : tabGood Tryz.prog (60, ⟨.other, 1, 8, Value.nilFunc⟩) := ⟨by kernel_rfl, by kernel_rfl⟩
theorem tg61 : tabGood Tryz.prog (61, ⟨(.struct [(3, 0, 1), (3, 1, 1), (3, 2, 1), (3, 3, 1)]), 4, 32, (Value.agg #[Value.int IntKind.i64 0, Value.int IntKind.i64 0, Value.int IntKind.i64 0, Value.int IntKind.i64 0])⟩) := ⟨by kernel_rfl, by kernel_rfl⟩
theorem tg62 : tabGood Tryz.prog (62, ⟨(.struct [(3, 0, 1), (3, 1, 1), (3, 2, 1), (3, 3, 1)]), 4, 32, (Value.agg #[Value.int IntKind.i64 0, Value.int IntKind.i64 0, Value.int IntKind.i64 0, Value.int IntKind.i64 0])⟩) := ⟨by kernel_rfl, by kernel_rfl⟩
theorem tg63 : tabGood Tryz.prog (63, ⟨(.struct [(3, 0, 1), (3, 1, 1), (3, 2, 1), (3, 3, 1)]), 4, 32, (Value.agg #[Value.int IntKind.i64 0, Value.int IntKind.i64 0, Value.int IntKind.i64 0, Value.int IntKind.i64 0])⟩) := ⟨by kernel_rfl, by kernel_rfl⟩
theorem tg64 : tabGood Tryz.prog (64, ⟨(.struct [(3, 0, 1), (3, 1, 1), (3, 2, 1), (3, 3, 1)]), 4, 32, (Value.agg #[Value.int IntKind.i64 0, Value.int IntKind.i64 0, Value.int IntKind.i64 0, Value.int IntKind.i64 0])⟩) := ⟨by kernel_rfl, by kernel_rfl⟩
theorem tg65 : tabGood Tryz.prog (65, ⟨(.slice 87), 1, 24, (Value.slice none 0 0)⟩) := ⟨by kernel_rfl, by kernel_rfl⟩
theorem tg66 : tabGood Tryz.prog (66, ⟨(.struct [(3, 0, 1), (4, 1, 1), (57, 2, 1), (3, 3, 1), (65, 4, 1)]), 5, 56, (Value.agg #[Value.int IntKind.i64 0, Value.bool false, Value.int IntKind.i64 0, Value.int IntKind.i64 0, Value.slice none 0 0])⟩) := ⟨by kernel_rfl, by kernel_rfl⟩
theorem tg67 : tabGood Tryz.prog (67, ⟨(.struct [(3, 0, 1), (4, 1, 1), (57, 2, 1), (3, 3, 1), (65, 4, 1)]), 5, 56, (Value.agg #[Value.int IntKind.i64 0, Value.bool false, Value.int IntKind.i64 0, Value.int IntKind.i64 0, Value.slice none 0 0])⟩) := ⟨by kernel_rfl, by kernel_rfl⟩
theorem tg68 : tabGood Tryz.prog (68, ⟨.other, 1, 0, (Value.tuple #[Value.agg #[Value.int IntKind.i64 0, Value.int IntKind.i64 0, Value.int IntKind.i64 0, Value.int IntKind.i64 0], Value.agg #[Value.int IntKind.i64 0, Value.bool false, Value.int IntKind.i64 0, Value.int IntKind.i64 0, Value.slice none 0 0], Value.bool false])⟩) := ⟨by kernel_rfl, by kernel_rfl⟩
theorem tg69 : tabGood Tryz.prog (69, ⟨.other, 1, 8, Value.nilFunc⟩) := ⟨by kernel_rfl, by kernel_rfl⟩
theorem tg70 : tabGood Tryz.prog (70, ⟨(.struct [(3, 0, 1), (62, 1, 4), (3, 5, 1), (4, 6, 1), (3, 7, 1), (3, 8, 1), (3, 9, 1)]), 10, 80, (Value.agg #[Value.int IntKind.i64 0, Value.int IntKind.i64 0, Value.int IntKind.i64 0, Value.int IntKind.i64 0, Value.int IntKind.i64 0, Value.int IntKind.i64 0, Value.bool false, Value.int IntKind.i64 0, Value.int IntKind.i64 0, Value.int IntKind.i64 0])⟩) := ⟨by kernel_rfl, by kernel_rfl⟩
theorem tg71 : tabGood Tryz.prog (71, ⟨(.struct [(3, 0, 1), (62, 1, 4), (3, 5, 1), (4, 6, 1), (3, 7, 1), (3, 8, 1), (3, 9, 1)]), 10, 80, (Value.agg #[Value.int IntKind.i64 0, Value.int IntKind.i64 0, Value.int IntKind.i64 0, Value.int IntKind.i64 0, Value.int IntKind.i64 0, Value.int IntKind.i64 0, Value.bool false, Value.int IntKind.i64 0, Value.int IntKind.i64 0, Value.int IntKind.i64 0])⟩) := ⟨by kernel_rfl, by kernel_rfl⟩
theorem tg72 : tabGood Tryz.prog (72, ⟨(.slice 64), 1, 24, (Value.slice none 0 0)⟩) := ⟨by kernel_rfl, by kernel_rfl⟩
theorem tg73 : tabGood Tryz.prog (73, ⟨.other, 1, 8, Value.nilFunc⟩) := ⟨by kernel_rfl, by kernel_rfl⟩
theorem tg74 : tabGood Tryz.prog (74, ⟨.other, 1, 8, Value.nilFunc⟩) := ⟨by kernel_rfl, by kernel_rfl⟩
theorem tg75 : tabGood Tryz.prog (75, ⟨(.int .u64), 1, 8, (Value.int IntKind.u64 0)⟩) := ⟨by kernel_rfl, by kernel_rfl⟩
theorem tg76 : tabGood Tryz.prog (76, ⟨.other, 1, 8, Value.nilFunc⟩) := ⟨by kernel_rfl, by kernel_rfl⟩
theorem tg77 : tabGood Tryz.prog (77, ⟨.other, 1, 8, Value.nilFunc⟩) := ⟨by kernel_rfl, by kernel_rfl⟩
theorem tg78 : tabGood Tryz.prog (78, ⟨.other, 1, 0, (Value.tuple #[Value.agg #[Value.int IntKind.i64 0, Value.slice none 0 0, Value.slice none 0 0], Value.int IntKind.i64 0, Value.bool false])⟩) := ⟨by kernel_rfl, by kernel_rfl⟩
theorem tg79 : tabGood Tryz.prog (79, ⟨.other, 1, 8, Value.nilFunc⟩) := ⟨by kernel_rfl, by kernel_rfl⟩
theorem tg80 : tabGood Tryz.prog (80, ⟨(.slice 4), 1, 24, (Value.slice none 0 0)⟩) := ⟨by kernel_rfl, by kernel_rfl⟩
theorem tg81 : tabGood Tryz.prog (81, ⟨.other, 1, 8, Value.nilFunc⟩) := ⟨by kernel_rfl, by kernel_rfl⟩
theorem tg82 : tabGood Tryz.prog (82, ⟨.other, 1, 8, Value.nilFunc⟩) := ⟨by kernel_rfl, by kernel_rfl⟩
theorem tg83 : tabGood Tryz.prog (83, ⟨.other, 1, 8, Value.nilFunc⟩) := ⟨by kernel_rfl, by kernel_rfl⟩
theorem tg84 : tabGood Tryz.prog (84, ⟨(.struct [(3, 0, 1), (4, 1, 1), (3, 2, 1)]), 3, 24, (Value.agg #[Value.int IntKind.i64 0, Value.bool false, Value.int IntKind.i64 0])⟩) := ⟨by kernel_rfl, by kernel_rfl⟩
theorem tg85 : tabGood Tryz.prog (85, ⟨(.struct [(3, 0, 1), (4, 1, 1), (3, 2, 1)]), 3, 24, (Value.agg #[Value.int IntKind.i64 0, Value.bool false, Value.int IntKind.i64 0])⟩) := ⟨by kernel_rfl, by kernel_rfl⟩
theorem tg86 : tabGood Tryz.prog (86, ⟨.other, 1, 8, Value.nilFunc⟩) := ⟨by kernel_rfl, by kernel_rfl⟩
theorem tg87 : tabGood Tryz.prog (87, ⟨(.array 2 3), 2, 16, (Value.agg #[Value.int IntKind.i64 0, Value.int IntKind.i64 0])⟩) := ⟨by kernel_rfl, by kernel_rfl⟩
theorem tg88 : tabGood Tryz.prog (88, ⟨.other, 1, 8, Value.nilFunc⟩) := ⟨by kernel_rfl, by kernel_rfl⟩
theorem tg89 : tabGood Tryz.prog (89, ⟨.other, 1, 8, Value.nilFunc⟩) := ⟨by kernel_rfl, by kernel_rfl⟩
theorem tg90 : tabGood Tryz.prog (90, ⟨.other, 1, 8, Value.nilFunc⟩) := ⟨by kernel_rfl, by kernel_rfl⟩
theorem tg91 : tabGood Tryz.prog (91, ⟨.other, 1, 8, Value.nilFunc⟩) := ⟨by kernel_rfl, by kernel_rfl⟩
theorem tg92 : tabGood Tryz.prog (92, ⟨.other, 1, 8, Value.nilFunc⟩) := ⟨by kernel_rfl, by kernel_rfl⟩
theorem tg93 : tabGood Tryz.prog (93, ⟨.other, 1, 8, Value.nilFunc⟩) := ⟨by kernel_rfl, by kernel_rfl⟩
theorem tg94 : tabGood Tryz.prog (94, ⟨(.slice 105), 1, 24, (Value.slice none 0 0)⟩) := ⟨by kernel_rfl, by kernel_rfl⟩
theorem tg95 : tabGood Tryz.prog (95, ⟨.other, 1, 8, (Value.pointer none)⟩) := ⟨by kernel_rfl, by kernel_rfl⟩
theorem tg96 : tabGood Tryz.prog (96, ⟨(.struct [(36, 0, 25), (3, 25, 1), (65, 26, 1), (3, 27, 1), (94, 28, 1), (3, 29, 1)]), 30, 272, (Value.agg #[Value.int IntKind.i64 0, Value.int IntKind.i64 0, Value.int IntKind.i64 0, Value.int IntKind.i64 0, Value.int IntKind.i64 0, Value.int IntKind.i64 0, Value.int IntKind.i64 0, Value.int IntKind.i64 0, Value.int IntKind.i64 0, Value.int IntKind.i64 0, Value.int IntKind.i64 0, Value.int IntKind.i64 0, Value.int IntKind.i64 0, Value.int IntKind.i64 0, Value.int IntKind.i64 0, Value.int IntKind.i64 0, Value.int IntKind.i64 0, Value.int IntKind.i64 0, Value.int IntKind.i64 0, Value.int IntKind.i64 0, Value.int IntKind.i64 0, Value.int IntKind.i64 0, Value.int IntKind.i64 0, Value.int IntKind.i64 0, Value.int IntKind.i64 0, Value.int IntKind.i64 0, Value.slice none 0 0, Value.int IntKind.i64 0, Value.slice none 0 0, Value.int IntKind.i64 0])⟩) := ⟨by kernel_rfl, by kernel_rfl⟩
theorem tg97 : tabGood Tryz.prog (97, ⟨(.struct [(36, 0, 25), (3, 25, 1), (65, 26, 1), (3, 27, 1), (94, 28, 1), (3, 29, 1)]), 30, 272, (Value.agg #[Value.int IntKind.i64 0, Value.int IntKind.i64 0, Value.int IntKind.i64 0, Value.int IntKind.i64 0, Value.int IntKind.i64 0, Value.int IntKind.i64 0, Value.int IntKind.i64 0, Value.int IntKind.i64 0, Value.int IntKind.i64 0, Value.int IntKind.i64 0, Value.int IntKind.i64 0, Value.int IntKind.i64 0, Value.int IntKind.i64 0, Value.int IntKind.i64 0, Value.int IntKind.i64 0, Value.int IntKind.i64 0, Value.int IntKind.i64 0, Value.int IntKind.i64 0, Value.int IntKind.i64 0, Value.int IntKind.i64 0, Value.int IntKind.i64 0, Value.int IntKind.i64 0, Value.int IntKind.i64 0, Value.int IntKind.i64 0, Value.int IntKind.i64 0, Value.int IntKind.i64 0, Value.slice none 0 0, Value.int IntKind.i64 0, Value.slice none 0 0, Value.int IntKind.i64 0])⟩) := ⟨by kernel_rfl, by kernel_rfl⟩
theorem tg98 : tabGood Tryz.prog (98, ⟨.other, 1, 8, Value.nilFunc⟩) := ⟨by kernel_rfl, by kernel_rfl⟩
theorem tg99 : tabGood Tryz.prog (99, ⟨.other, 1, 0, (Value.tuple #[Value.nilFunc, Value.bool false])⟩) := ⟨by kernel_rfl, by kernel_rfl⟩
theorem tg100 : tabGood Tryz.prog (100, ⟨.other, 1, 8, (Value.map none)⟩) := ⟨by kernel_rfl, by kernel_rfl⟩
theorem tg101 : tabGood Tryz.prog (101, ⟨.other, 1, 8, Value.nilFunc⟩) := ⟨by kernel_rfl, by kernel_rfl⟩
theorem tg102 : tabGood Tryz.prog (102, ⟨.other, 1, 8, Value.nilFunc⟩) := ⟨by kernel_rfl, by kernel_rfl⟩
theorem tg103 : tabGood Tryz.prog (103, ⟨.other, 1, 8, Value.nilFunc⟩) := ⟨by kernel_rfl, by kernel_rfl⟩
theorem tg104 : tabGood Tryz.prog (104, ⟨(.struct [(3, 0, 1), (4, 1, 1)]), 2, 16, (Value.agg #[Value.int IntKind.i64 0, Value.bool false])⟩) := ⟨by kernel_rfl, by kernel_rfl⟩
theorem tg105 : tabGood Tryz.prog (105, ⟨(.struct [(3, 0, 1), (4, 1, 1)]), 2, 16, (Value.agg #[Value.int IntKind.i64 0, Value.bool false])⟩) := ⟨by kernel_rfl, by kernel_rfl⟩
theorem tg106 : tabGood Tryz.prog (106, ⟨.other, 1, 8, Value.nilFunc⟩) := ⟨by kernel_rfl, by kernel_rfl⟩
theorem tg107 : tabGood Tryz.prog (107, ⟨.other, 1, 0, (Value.tuple #[Value.int IntKind.i64 0, Value.agg #[Value.int IntKind.i64 0, Value.bool false, Value.int IntKind.i64 0, Value.int IntKind.i64 0, Value.slice none 0 0]])⟩) := ⟨by kernel_rfl, by kernel_rfl⟩
theorem tg108 : tabGood Tryz.prog (108, ⟨.other, 1, 8, Value.nilFunc⟩) := ⟨by kernel_rfl, by kernel_rfl⟩
theorem tg109 : tabGood Tryz.prog (109, ⟨.other, 1, 0, (Value.tuple #[Value.agg #[Value.int IntKind.i64 0, Value.bool false, Value.int IntKind.i64 0, Value.int IntKind.i64 0, Value.slice none 0 0], Value.agg #[Value.int IntKind.i64 0, Value.int IntKind.i64 0, Value.int IntKind.i64 0, Value.int IntKind.i64 0]])⟩) := ⟨by kernel_rfl, by kernel_rfl⟩
theorem tg110 : tabGood Tryz.prog (110, ⟨.other, 1, 8, Value.nilFunc⟩) := ⟨by kernel_rfl, by kernel_rfl⟩
theorem tg111 : tabGood Tryz.prog (111, ⟨.other, 1, 8, Value.nilFunc⟩) := ⟨by kernel_rfl, by kernel_rfl⟩
theorem tg112 : tabGood Tryz.prog (112, ⟨.other, 1, 8, Value.nilFunc⟩) := ⟨by kernel_rfl, by kernel_rfl⟩
theorem tg113 : tabGood Tryz.prog (113, ⟨.other, 1, 8, Value.nilFunc⟩) := ⟨by kernel_rfl, by kernel_rfl⟩
theorem tg114 : tabGood Tryz.prog (114, ⟨.other, 1, 8, Value.nilFunc⟩) := ⟨by kernel_rfl, by kernel_rfl⟩
theorem tg115 : tabGood Tryz.prog (115, ⟨(.int .u32), 1, 4, (Value.int IntKind.u32 0)⟩) := ⟨by kernel_rfl, by kernel_rfl⟩
theorem tg116 : tabGood Tryz.prog (116, ⟨.other, 1, 8, Value.nilFunc⟩) := ⟨by kernel_rfl, by kernel_rfl⟩
theorem tg117 : tabGood Tryz.prog (117, ⟨(.int .u64), 1, 8, (Value.int IntKind.u64 0)⟩) := ⟨by kernel_rfl, by kernel_rfl⟩
theorem tg118 : tabGood Tryz.prog (118, ⟨.other, 1, 0, (Value.tuple #[Value.agg #[Value.slice none 0 0], Value.slice none 0 0, Value.int IntKind.i64 0])⟩) := ⟨by kernel_rfl, by kernel_rfl⟩
theorem tg119 : tabGood Tryz.prog (119, ⟨.other, 1, 8, Value.nilFunc⟩) := ⟨by kernel_rfl, by kernel_rfl⟩
theorem tg120 : tabGood Tryz.prog (120, ⟨.other, 1, 8, Value.nilFunc⟩) := ⟨by kernel_rfl, by kernel_rfl⟩
theorem tg121 : tabGood Tryz.prog (121, ⟨.other, 1, 8, Value.nilFunc⟩) := ⟨by kernel_rfl, by kernel_rfl⟩
theorem tg122 : tabGood Tryz.prog (122, ⟨.other, 1, 8, Value.nilFunc⟩) := ⟨by kernel_rfl, by kernel_rfl⟩
theorem tg123 : tabGood Tryz.prog (123, ⟨.other, 1, 8, Value.nilFunc⟩) := ⟨by kernel_rfl, by kernel_rfl⟩
theorem tg124 : tabGood Tryz.prog (124, ⟨.other, 1, 0, (Value.tuple #[Value.agg #[Value.slice none 0 0], Value.agg #[Value.int IntKind.i64 0, Value.bool false], Value.int IntKind.i64 0])⟩) := ⟨by kernel_rfl, by kernel_rfl⟩
theorem tg125 : tabGood Tryz.prog (125, ⟨.other, 1, 8, Value.nilFunc⟩) := ⟨by kernel_rfl, by kernel_rfl⟩
theorem tg126 : tabGood Tryz.prog (126, ⟨.other, 1, 8, Value.nilFunc⟩) := ⟨by kernel_rfl, by kernel_rfl⟩
theorem tg127 : tabGood Tryz.prog (127, ⟨.other, 1, 8, Value.nilFunc⟩) := ⟨by kernel_rfl, by kernel_rfl⟩
theorem tg128 : tabGood Tryz.prog (128, ⟨.other, 1, 8, Value.nilFunc⟩) := ⟨by kernel_rfl, by kernel_rfl⟩
theorem tg129 : tabGood Tryz.prog (129, ⟨.other, 1, 8, Value.nilFunc⟩) := ⟨by kernel_rfl, by kernel_rfl⟩
theorem tg130 : tabGood Tryz.prog (130, ⟨.other, 1, 8, Value.nilFunc⟩) := ⟨by kernel_rfl, by kernel_rfl⟩
theorem tg131 : tabGood Tryz.prog (131, ⟨.other, 1, 8, Value.nilFunc⟩) := ⟨by kernel_rfl, by kernel_rfl⟩
theorem tg132 : tabGood Tryz.prog (132, ⟨.other, 1, 8, Value.nilFunc⟩) := ⟨by kernel_rfl, by kernel_rfl⟩
theorem tg133 : tabGood Tryz.prog (133, ⟨.other, 1, 8, Value.nilFunc⟩) := ⟨by kernel_rfl, by kernel_rfl⟩
theorem tg134 : tabGood Tryz.prog (134, ⟨.other, 1, 8, Value.nilFunc⟩) := ⟨by kernel_rfl, by kernel_rfl⟩
theorem tg135 : tabGood Tryz.prog (135, ⟨(.struct [(64, 0, 4)]), 4, 32, (Value.agg #[Value.int IntKind.i64 0, Value.int IntKind.i64 0, Value.int IntKind.i64 0, Value.int IntKind.i64 0])⟩) := ⟨by kernel_rfl, by kernel_rfl⟩
theorem tg136 : tabGood Tryz.prog (136, ⟨(.struct [(64, 0, 4)]), 4, 32, (Value.agg #[Value.int IntKind.i64 0, Value.int IntKind.i64 0, Value.int IntKind.i64 0, Value.int IntKind.i64 0])⟩) := ⟨by kernel_rfl, by kernel_rfl⟩
theorem tg137 : tabGood Tryz.prog (137, ⟨.other, 1, 8, Value.nilFunc⟩) := ⟨by kernel_rfl, by kernel_rfl⟩
theorem tg138 : tabGood Tryz.prog (138, ⟨.other, 1, 8, Value.nilFunc⟩) := ⟨by kernel_rfl, by kernel_rfl⟩
theorem tg139 : tabGood Tryz.prog (139, ⟨.other, 1, 8, Value.nilFunc⟩) := ⟨by kernel_rfl, by kernel_rfl⟩
theorem tg140 : tabGood Tryz.prog (140, ⟨(.struct [(3, 0, 1), (3, 1, 1)]), 2, 16, (Value.agg #[Value.int IntKind.i64 0, Value.int IntKind.i64 0])⟩) := ⟨by kernel_rfl, by kernel_rfl⟩
theorem tg141 : tabGood Tryz.prog (141, ⟨(.struct [(3, 0, 1), (3, 1, 1)]), 2, 16, (Value.agg #[Value.int IntKind.i64 0, Value.int IntKind.i64 0])⟩) := ⟨by kernel_rfl, by kernel_rfl⟩
theorem tg142 : tabGood Tryz.prog (142, ⟨.other, 1, 8, Value.nilFunc⟩) := ⟨by kernel_rfl, by kernel_rfl⟩
theorem tg143 : tabGood Tryz.prog (143, ⟨.other, 1, 8, Value.nilFunc⟩) := ⟨by kernel_rfl, by kernel_rfl⟩
theorem tg144 : tabGood Tryz.prog (144, ⟨.other, 1, 8, Value.nilFunc⟩) := ⟨by kernel_rfl, by kernel_rfl⟩
theorem tg145 : tabGood Tryz.prog (145, ⟨.other, 1, 8, Value.nilFunc⟩) := ⟨by kernel_rfl, by kernel_rfl⟩
theorem tg146 : tabGood Tryz.prog (146, ⟨.other, 1, 8, Value.nilFunc⟩) := ⟨by kernel_rfl, by kernel_rfl⟩
theorem tg147 : tabGood Tryz.prog (147, ⟨.other, 1, 8, (Value.map none)⟩) := ⟨by kernel_rfl, by kernel_rfl⟩
theorem tg148 : tabGood Tryz.prog (148, ⟨.other, 1, 8, Value.nilFunc⟩) := ⟨by kernel_rfl, by kernel_rfl⟩
theorem tg149 : tabGood Tryz.prog (149, ⟨.other, 1, 8, Value.nilFunc⟩) := ⟨by kernel_rfl, by kernel_rfl⟩
theorem tg150 : tabGood Tryz.prog (150, ⟨.other, 1, 8, (Value.pointer none)⟩) := ⟨by kernel_rfl, by kernel_rfl⟩
theorem tg151 : tabGood Tryz.prog (151, ⟨.other, 1, 8, (Value.pointer none)⟩) := ⟨by kernel_rfl, by kernel_rfl⟩
theorem tg152 : tabGood Tryz.prog (152, ⟨.other, 1, 8, Value.nilFunc⟩) := ⟨by kernel_rfl, by kernel_rfl⟩
theorem tg153 : tabGood Tryz.prog (153, ⟨(.struct [(4, 0, 1), (3, 1, 1), (3, 2, 1), (3, 3, 1), (3, 4, 1)]), 5, 40, (Value.agg #[Value.bool false, Value.int IntKind.i64 0, Value.int IntKind.i64 0, Value.int IntKind.i64 0, Value.int IntKind.i64 0])⟩) := ⟨by kernel_rfl, by kernel_rfl⟩
theorem tg154 : tabGood Tryz.prog (154, ⟨(.struct [(4, 0, 1), (3, 1, 1), (3, 2, 1), (3, 3, 1), (3, 4, 1)]), 5, 40, (Value.agg #[Value.bool false, Value.int IntKind.i64 0, Value.int IntKind.i64 0, Value.int IntKind.i64 0, Value.int IntKind.i64 0])⟩) := ⟨by kernel_rfl, by kernel_rfl⟩
theorem tg155 : tabGood Tryz.prog (155, ⟨(.struct [(151, 0, 1), (154, 1, 5), (3, 6, 1)]), 7, 56, (Value.agg #[Value.pointer none, Value.bool false, Value.int IntKind.i64 0, Value.int IntKind.i64 0, Value.int IntKind.i64 0, Value.int IntKind.i64 0, Value.int IntKind.i64 0])⟩) := ⟨by kernel_rfl, by kernel_rfl⟩
theorem tg156 : tabGood Tryz.prog (156, ⟨(.struct [(151, 0, 1), (154, 1, 5), (3, 6, 1)]), 7, 56, (Value.agg #[Value.pointer none, Value.bool false, Value.int IntKind.i64 0, Value.int IntKind.i64 0, Value.int IntKind.i64 0, Value.int IntKind.i64 0, Value.int IntKind.i64 0])⟩) := ⟨by kernel_rfl, by kernel_rfl⟩
theorem tg157 : tabGood Tryz.prog (157, ⟨.other, 1, 8, Value.nilFunc⟩) := ⟨by kernel_rfl, by kernel_rfl⟩
theorem tg158 : tabGood Tryz.prog (158, ⟨.other, 1, 8, Value.nilFunc⟩) := ⟨by kernel_rfl, by kernel_rfl⟩
theorem tg159 : tabGood Tryz.prog (159, ⟨(.slice 141), 1, 24, (Value.slice none 0 0)⟩) := ⟨by kernel_rfl, by kernel_rfl⟩
theorem tg160 : tabGood Tryz.prog (160, ⟨.other, 1, 8, Value.nilFunc⟩) := ⟨by kernel_rfl, by kernel_rfl⟩
theorem tg161 : tabGood Tryz.prog (161, ⟨.other, 1, 8, Value.nilFunc⟩) := ⟨by kernel_rfl, by kernel_rfl⟩
theorem tg162 : tabGood Tryz.prog (162, ⟨.other, 1, 8, Value.nilFunc⟩) := ⟨by kernel_rfl, by kernel_rfl⟩
theorem tg163 : tabGood Tryz.prog (163, ⟨(.array 3 3), 3, 24, (Value.agg #[Value.int IntKind.i64 0, Value.int IntKind.i64 0, Value.int IntKind.i64 0])⟩) := ⟨by kernel_rfl, by kernel_rfl⟩
theorem tg164 : tabGood Tryz.prog (164, ⟨(.struct [(36, 0, 25), (3, 25, 1), (65, 26, 1), (3, 27, 1), (163, 28, 3), (106, 31, 1)]), 32, 272, (Value.agg #[Value.int IntKind.i64 0, Value.int IntKind.i64 0, Value.int IntKind.i64 0, Value.int IntKind.i64 0, Value.int IntKind.i64 0, Value.int IntKind.i64 0, Value.int IntKind.i64 0, Value.int IntKind.i64 0, Value.int IntKind.i64 0, Value.int IntKind.i64 0, Value.int IntKind.i64 0, Value.int IntKind.i64 0, Value.int IntKind.i64 0, Value.int IntKind.i64 0, Value.int IntKind.i64 0, Value.int IntKind.i64 0, Value.int IntKind.i64 0, Value.int IntKind.i64 0, Value.int IntKind.i64 0, Value.int IntKind.i64 0, Value.int IntKind.i64 0, Value.int IntKind.i64 0, Value.int IntKind.i64 0, Value.int IntKind.i64 0, Value.int IntKind.i64 0, Value.int IntKind.i64 0, Value.slice none 0 0, Value.int IntKind.i64 0, Value.int IntKind.i64 0, Value.int IntKind.i64 0, Value.int IntKind.i64 0, Value.nilFunc])⟩) := ⟨by kernel_rfl, by kernel_rfl⟩
theorem tg165 : tabGood Tryz.prog (165, ⟨(.struct [(36, 0, 25), (3, 25, 1), (65, 26, 1), (3, 27, 1), (163, 28, 3), (106, 31, 1)]), 32, 272, (Value.agg #[Value.int IntKind.i64 0, Value.int IntKind.i64 0, Value.int IntKind.i64 0, Value.int IntKind.i64 0, Value.int IntKind.i64 0, Value.int IntKind.i64 0, Value.int IntKind.i64 0, Value.int IntKind.i64 0, Value.int IntKind.i64 0, Value.int IntKind.i64 0, Value.int IntKind.i64 0, Value.int IntKind.i64 0, Value.int IntKind.i64 0, Value.int IntKind.i64 0, Value.int IntKind.i64 0, Value.int IntKind.i64 0, Value.int IntKind.i64 0, Value.int IntKind.i64 0, Value.int IntKind.i64 0, Value.int IntKind.i64 0, Value.int IntKind.i64 0, Value.int IntKind.i64 0, Value.int IntKind.i64 0, Value.int IntKind.i64 0, Value.int IntKind.i64 0, Value.int IntKind.i64 0, Value.slice none 0 0, Value.int IntKind.i64 0, Value.int IntKind.i64 0, Value.int IntKind.i64 0, Value.int IntKind.i64 0, Value.nilFunc])⟩) := ⟨by kernel_rfl, by kernel_rfl⟩
theorem tg166 : tabGood Tryz.prog (166, ⟨(.struct [(64, 0, 4)]), 4, 32, (Value.agg #[Value.int IntKind.i64 0, Value.int IntKind.i64 0, Value.int IntKind.i64 0, Value.int IntKind.i64 0])⟩) := ⟨by kernel_rfl, by kernel_rfl⟩
theorem tg167 : tabGood Tryz.prog (167, ⟨(.struct [(64, 0, 4)]), 4, 32, (Value.agg #[Value.int IntKind.i64 0, Value.int IntKind.i64 0, Value.int IntKind.i64 0, Value.int IntKind.i64 0])⟩) := ⟨by kernel_rfl, by kernel_rfl⟩
theorem tg168 : tabGood Tryz.prog (168, ⟨.other, 1, 0, (Value.tuple #[Value.int IntKind.i64 0, Value.int IntKind.i64 0, Value.bool false])⟩) := ⟨by kernel_rfl, by kernel_rfl⟩
theorem tg169 : tabGood Tryz.prog (169, ⟨.other, 1, 8, Value.nilFunc⟩) := ⟨by kernel_rfl, by kernel_rfl⟩
theorem tg170 : tabGood Tryz.prog (170, ⟨.other, 1, 8, Value.nilFunc⟩) := ⟨by kernel_rfl, by kernel_rfl⟩
theorem tg171 : tabGood Tryz.prog (171, ⟨.other, 1, 0, (Value.tuple #[Value.int IntKind.i64 0, Value.int IntKind.i64 0])⟩) := ⟨by kernel_rfl, by kernel_rfl⟩
theorem tg172 : tabGood Tryz.prog (172, ⟨.other, 1, 8, Value.nilFunc⟩) := ⟨by kernel_rfl, by kernel_rfl⟩
theorem tg173 : tabGood Tryz.prog (173, ⟨.other, 1, 8, Value.nilFunc⟩) := ⟨by kernel_rfl, by kernel_rfl⟩
theorem tg174 : tabGood Tryz.prog (174, ⟨.other, 1, 8, Value.nilFunc⟩) := ⟨by kernel_rfl, by kernel_rfl⟩
theorem tg175 : tabGood Tryz.prog (175, ⟨.other, 1, 8, Value.nilFunc⟩) := ⟨by kernel_rfl, by kernel_rfl⟩
theorem tg176 : tabGood Tryz.prog (176, ⟨.other, 1, 8, Value.nilFunc⟩) := ⟨by kernel_rfl, by kernel_rfl⟩
theorem tg177 : tabGood Tryz.prog (177, ⟨(.struct [(17, 0, 1), (17, 1, 1), (17, 2, 1), (9, 3, 1)]), 4, 40, (Value.agg #[Value.pointer none, Value.pointer none, Value.pointer none, Value.string { data := #[] }])⟩) := ⟨by kernel_rfl, by kernel_rfl⟩
theorem tg178 : tabGood Tryz.prog (178, ⟨(.struct [(17, 0, 1), (17, 1, 1), (17, 2, 1), (9, 3, 1)]), 4, 40, (Value.agg #[Value.pointer none, Value.pointer none, Value.pointer none, Value.string { data := #[] }])⟩) := ⟨by kernel_rfl, by kernel_rfl⟩
theorem tg179 : tabGood Tryz.prog (179, ⟨(.array 0 16), 0, 0, (Value.agg #[])⟩) := ⟨by kernel_rfl, by kernel_rfl⟩
theorem tg180 : tabGood Tryz.prog (180, ⟨(.struct [(179, 0, 0)]), 0, 0, (Value.agg #[])⟩) := ⟨by kernel_rfl, by kernel_rfl⟩
theorem tg181 : tabGood Tryz.prog (181, ⟨(.struct [(179, 0, 0)]), 0, 0, (Value.agg #[])⟩) := ⟨by kernel_rfl, by kernel_rfl⟩
theorem tg182 : tabGood Tryz.prog (182, ⟨(.int .u8), 1, 1, (Value.int IntKind.u8 0)⟩) := ⟨by kernel_rfl, by kernel_rfl⟩
theorem tg183 : tabGood Tryz.prog (183, ⟨(.int .u8), 1, 1, (Value.int IntKind.u8 0)⟩) := ⟨by kernel_rfl, by kernel_rfl⟩
theorem tg184 : tabGood Tryz.prog (184, ⟨.other, 1, 8, Value.nilFunc⟩) := ⟨by kernel_rfl, by kernel_rfl⟩
theorem tg185 : tabGood Tryz.prog (185, ⟨.other, 1, 8, (Value.pointer none)⟩) := ⟨by kernel_rfl, by kernel_rfl⟩
theorem tg186 : tabGood Tryz.prog (186, ⟨(.int .i32), 1, 4, (Value.int IntKind.i32 0)⟩) := ⟨by kernel_rfl, by kernel_rfl⟩
theorem tg187 : tabGood Tryz.prog (187, ⟨(.int .i32), 1, 4, (Value.int IntKind.i32 0)⟩) := ⟨by kernel_rfl, by kernel_rfl⟩
theorem tg188 : tabGood Tryz.prog (188, ⟨(.struct [(12, 0, 1), (12, 1, 1), (115, 2, 1), (182, 3, 1), (5, 4, 1), (5, 5, 1), (183, 6, 1), (184, 7, 1), (185, 8, 1), (186, 9, 1), (187, 10, 1)]), 11, 48, (Value.agg #[Value.int IntKind.u64 0, Value.int IntKind.u64 0, Value.int IntKind.u32 0, Value.int IntKind.u8 0, Value.int IntKind.u8 0, Value.int IntKind.u8 0, Value.int IntKind.u8 0, Value.nilFunc, Value.pointer none, Value.int IntKind.i32 0, Value.int IntKind.i32 0])⟩) := ⟨by kernel_rfl, by kernel_rfl⟩
theorem tg189 : tabGood Tryz.prog (189, ⟨(.struct [(12, 0, 1), (12, 1, 1), (115, 2, 1), (182, 3, 1), (5, 4, 1), (5, 5, 1), (183, 6, 1), (184, 7, 1), (185, 8, 1), (186, 9, 1), (187, 10, 1)]), 11, 48, (Value.agg #[Value.int IntKind.u64 0, Value.int IntKind.u64 0, Value.int IntKind.u32 0, Value.int IntKind.u8 0, Value.int IntKind.u8 0, Value.int IntKind.u8 0, Value.int IntKind.u8 0, Value.nilFunc, Value.pointer none, Value.int IntKind.i32 0, Value.int IntKind.i32 0])⟩) := ⟨by kernel_rfl, by kernel_rfl⟩
theorem tg190 : tabGood Tryz.prog (190, ⟨.other, 1, 8, (Value.pointer none)⟩) := ⟨by kernel_rfl, by kernel_rfl⟩
theorem all_consT {q : Nat × TI → Prop} {a : Nat × TI} {l : List (Nat × TI)} (h : q a) (hl : ∀ p ∈ l, q p) : ∀ p ∈ a :: l, q p := fun p hp => by
  rcases List.mem_cons.1 hp with rfl | hp
  · exact h
  · exact hl p hp
set_option maxRecDepth 100000 in
theorem tabOk : TabOk Tryz.prog tb := tab_of (by
  unfold tab
  refine all_consT tg0 ?_
  refine all_consT tg1 ?_
  refine all_consT tg2 ?_
  refine all_consT tg3 ?_
  refine all_consT tg4 ?_
  refine all_consT tg5 ?_
  refine all_consT tg6 ?_
  refine all_consT tg7 ?_
  refine all_consT tg8 ?_
  refine all_consT tg9 ?_
  refine all_consT tg10 ?_
  refine all_consT tg11 ?_
  refine all_consT tg12 ?_
  refine all_consT tg13 ?_
  refine all_consT tg14 ?_
  refine all_consT tg15 ?_
  refine all_consT tg16 ?_
  refine all_consT tg17 ?_
  refine all_consT tg18 ?_
  refine all_consT tg19 ?_
  refine all_consT tg20 ?_
  refine all_consT tg21 ?_
  refine all_consT tg22 ?_
  refine all_consT tg23 ?_
  refine all_consT tg24 ?_
  refine all_consT tg25 ?_
  refine all_consT tg26 ?_
  refine all_consT tg27 ?_
  refine all_consT tg28 ?_
  refine all_consT tg29 ?_
  refine all_consT tg30 ?_
  refine all_consT tg31 ?_
  refine all_consT tg32 ?_
  refine all_consT tg33 ?_
  refine all_consT tg34 ?_
  refine all_consT tg35 ?_
  refine all_consT tg36 ?_
  refine all_consT tg37 ?_
  refine all_consT tg38 ?_
  refine all_consT tg39 ?_
  refine all_consT tg40 ?_
  refine all_consT tg41 ?_
  refine all_consT tg42 ?_
  refine all_consT tg43 ?_
  refine all_consT tg44 ?_
  refine all_consT tg45 ?_
  refine all_consT tg46 ?_
  refine all_consT tg47 ?_
  refine all_consT tg48 ?_
  refine all_consT tg49 ?_
  refine all_consT tg50 ?_
  refine all_consT tg51 ?_
  refine all_consT tg52 ?_
  refine all_consT tg53 ?_
  refine all_consT tg54 ?_
  refine all_consT tg55 ?_
  refine all_consT tg56 ?_
  refine all_consT tg57 ?_
  refine all_consT tg58 ?_
  refine all_consT tg59 ?_
  refine all_consT tg60 ?_
  refine all_consT tg61 ?_
  refine all_consT tg62 ?_
  refine all_consT tg63 ?_
  refine all_consT tg64 ?_
  refine all_consT tg65 ?_
  refine all_consT tg66 ?_
  refine all_consT tg67 ?_
  refine all_consT tg68 ?_
  refine all_consT tg69 ?_
  refine all_consT tg70 ?_
  refine all_consT tg71 ?_
  refine all_consT tg72 ?_
  refine all_consT tg73 ?_
  refine all_consT tg74 ?_
  refine all_consT tg75 ?_
  refine all_consT tg76 ?_
  refine all_consT tg77 ?_
  refine all_consT tg78 ?_
  refine all_consT tg79 ?_
  refine all_consT tg80 ?_
  refine all_consT tg81 ?_
  refine all_consT tg82 ?_
  refine all_consT tg83 ?_
  refine all_consT tg84 ?_
  refine all_consT tg85 ?_
  refine all_consT tg86 ?_
  refine all_consT tg87 ?_
  refine all_consT tg88 ?_
  refine all_consT tg89 ?_
  refine all_consT tg90 ?_
  refine all_consT tg91 ?_
  refine all_consT tg92 ?_
  refine all_consT tg93 ?_
  refine all_consT tg94 ?_
  refine all_consT tg95 ?_
  refine all_consT tg96 ?_
  refine all_consT tg97 ?_
  refine all_consT tg98 ?_
  refine all_consT tg99 ?_
  refine all_consT tg100 ?_
  refine all_consT tg101 ?_
  refine all_consT tg102 ?_
  refine all_consT tg103 ?_
  refine all_consT tg104 ?_
  refine all_consT tg105 ?_
  refine all_consT tg106 ?_
  refine all_consT tg107 ?_
  refine all_consT tg108 ?_
  refine all_consT tg109 ?_
  refine all_consT tg110 ?_
  refine all_consT tg111 ?_
  refine all_consT tg112 ?_
  refine all_consT tg113 ?_
  refine all_consT tg114 ?_
  refine all_consT tg115 ?_
  refine all_consT tg116 ?_
  refine all_consT tg117 ?_
  refine all_consT tg118 ?_
  refine all_consT tg119 ?_
  refine all_consT tg120 ?_
  refine all_consT tg121 ?_
  refine all_consT tg122 ?_
  refine all_consT tg123 ?_
  refine all_consT tg124 ?_
  refine all_consT tg125 ?_
  refine all_consT tg126 ?_
  refine all_consT tg127 ?_
  refine all_consT tg128 ?_
  refine all_consT tg129 ?_
  refine all_consT tg130 ?_
  refine all_consT tg131 ?_
  refine all_consT tg132 ?_
  refine all_consT tg133 ?_
  refine all_consT tg134 ?_
  refine all_consT tg135 ?_
  refine all_consT tg136 ?_
  refine all_consT tg137 ?_
  refine all_consT tg138 ?_
  refine all_consT tg139 ?_
  refine all_consT tg140 ?_
  refine all_consT tg141 ?_
  refine all_consT tg142 ?_
  refine all_consT tg143 ?_
  refine all_consT tg144 ?_
  refine all_consT tg145 ?_
  refine all_consT tg146 ?_
  refine all_consT tg147 ?_
  refine all_consT tg148 ?_
  refine all_consT tg149 ?_
  refine all_consT tg150 ?_
  refine all_consT tg151 ?_
  refine all_consT tg152 ?_
  refine all_consT tg153 ?_
  refine all_consT tg154 ?_
  refine all_consT tg155 ?_
  refine all_consT tg156 ?_
  refine all_consT tg157 ?_
  refine all_consT tg158 ?_
  refine all_consT tg159 ?_
  refine all_consT tg160 ?_
  refine all_consT tg161 ?_
  refine all_consT tg162 ?_
  refine all_consT tg163 ?_
  refine all_consT tg164 ?_
  refine all_consT tg165 ?_
  refine all_consT tg166 ?_
  refine all_consT tg167 ?_
  refine all_consT tg168 ?_
  refine all_consT tg169 ?_
  refine all_consT tg170 ?_
  refine all_consT tg171 ?_
  refine all_consT tg172 ?_
  refine all_consT tg173 ?_
  refine all_consT tg174 ?_
  refine all_consT tg175 ?_
  refine all_consT tg176 ?_
  refine all_consT tg177 ?_
  refine all_consT tg178 ?_
  refine all_consT tg179 ?_
  refine all_consT tg180 ?_
  refine all_consT tg181 ?_
  refine all_consT tg182 ?_
  refine all_consT tg183 ?_
  refine all_consT tg184 ?_
  refine all_consT tg185 ?_
  refine all_consT tg186 ?_
  refine all_consT tg187 ?_
  refine all_consT tg188 ?_
  refine all_consT tg189 ?_
  refine all_consT tg190 ?_
  exact fun p hp => absurd hp List.not_mem_nil)
end Go.Proofs.YtkkldicehapklaaGreat
