/- The program's types: kind, cells, bytes, zero value. -/
import Derived.Test.YtdmnjoidfjidbaaGreatRows
import Derived.Test.YtdmnjoidfjidbaaGreatLib2
namespace Go.Proofs.YtdmnjoidfjidbaaGreat
open Go.RowKit

def tab : List (Nat × TI) := [
  (0, ⟨.other, 1, 0, (Value.tuple #[])⟩),
  (1, ⟨.other, 1, 8, Value.nilFunc⟩),
  (2, ⟨(.int .i64), 1, 8, (Value.int IntKind.i64 0)⟩),
  (3, ⟨(.int .i64), 1, 8, (Value.int IntKind.i64 0)⟩),
  (4, ⟨.bool, 1, 1, (Value.bool false)⟩),
  (5, ⟨(.int .u8), 1, 1, (Value.int IntKind.u8 0)⟩),
  (6, ⟨(.int .u8), 1, 1, (Value.int IntKind.u8 0)⟩),
  (7, ⟨(.struct [(2, 0, 1), (3, 1, 1), (4, 2, 1), (6, 3, 1)]), 4, 24, (Value.agg #[Value.int IntKind.i64 0, Value.int IntKind.i64 0, Value.bool false, Value.int IntKind.u8 0])⟩),
  (8, ⟨(.struct [(2, 0, 1), (3, 1, 1), (4, 2, 1), (6, 3, 1)]), 4, 24, (Value.agg #[Value.int IntKind.i64 0, Value.int IntKind.i64 0, Value.bool false, Value.int IntKind.u8 0])⟩),
  (9, ⟨.str, 1, 16, (Value.string { data := #[] })⟩),
  (10, ⟨.str, 1, 16, (Value.string { data := #[] })⟩),
  (11, ⟨.str, 1, 16, (Value.string { data := #[] })⟩),
  (12, ⟨(.int .u64), 1, 8, (Value.int IntKind.u64 0)⟩),
  (13, ⟨(.struct [(9, 0, 1), (12, 1, 1)]), 2, 24, (Value.agg #[Value.string { data := #[] }, Value.int IntKind.u64 0])⟩),
  (14, ⟨(.struct [(9, 0, 1), (12, 1, 1)]), 2, 24, (Value.agg #[Value.string { data := #[] }, Value.int IntKind.u64 0])⟩),
  (15, ⟨.other, 1, 8, (Value.pointer none)⟩),
  (16, ⟨.other, 1, 8, (Value.pointer none)⟩),
  (17, ⟨.other, 1, 8, (Value.pointer none)⟩),
  (18, ⟨(.struct [(17, 0, 1)]), 1, 8, (Value.agg #[Value.pointer none])⟩),
  (19, ⟨(.struct [(17, 0, 1)]), 1, 8, (Value.agg #[Value.pointer none])⟩),
  (20, ⟨.other, 1, 16, Value.nilIface⟩),
  (21, ⟨(.int .i32), 1, 4, (Value.int IntKind.i32 0)⟩),
  (22, ⟨(.slice 53), 1, 24, (Value.slice none 0 0)⟩),
  (23, ⟨.other, 1, 8, Value.nilFunc⟩),
  (24, ⟨(.slice 22), 1, 24, (Value.slice none 0 0)⟩),
  (25, ⟨(.slice 5), 1, 24, (Value.slice none 0 0)⟩),
  (26, ⟨(.struct [(24, 0, 1), (25, 1, 1)]), 2, 48, (Value.agg #[Value.slice none 0 0, Value.slice none 0 0])⟩),
  (27, ⟨(.struct [(24, 0, 1), (25, 1, 1)]), 2, 48, (Value.agg #[Value.slice none 0 0, Value.slice none 0 0])⟩),
  (28, ⟨.other, 1, 8, Value.nilFunc⟩),
  (29, ⟨(.struct [(3, 0, 1), (3, 1, 1), (3, 2, 1), (3, 3, 1), (3, 4, 1), (3, 5, 1), (3, 6, 1), (3, 7, 1), (3, 8, 1)]), 9, 72, (Value.agg #[Value.int IntKind.i64 0, Value.int IntKind.i64 0, Value.int IntKind.i64 0, Value.int IntKind.i64 0, Value.int IntKind.i64 0, Value.int IntKind.i64 0, Value.int IntKind.i64 0, Value.int IntKind.i64 0, Value.int IntKind.i64 0])⟩),
  (30, ⟨(.struct [(3, 0, 1), (3, 1, 1), (3, 2, 1), (3, 3, 1), (3, 4, 1), (3, 5, 1), (3, 6, 1), (3, 7, 1), (3, 8, 1)]), 9, 72, (Value.agg #[Value.int IntKind.i64 0, Value.int IntKind.i64 0, Value.int IntKind.i64 0, Value.int IntKind.i64 0, Value.int IntKind.i64 0, Value.int IntKind.i64 0, Value.int IntKind.i64 0, Value.int IntKind.i64 0, Value.int IntKind.i64 0])⟩),
  (31, ⟨(.struct [(30, 0, 9), (3, 9, 1), (3, 10, 1), (3, 11, 1), (3, 12, 1), (3, 13, 1), (3, 14, 1), (3, 15, 1), (3, 16, 1), (3, 17, 1), (3, 18, 1), (3, 19, 1), (3, 20, 1), (3, 21, 1), (3, 22, 1), (3, 23, 1), (3, 24, 1)]), 25, 200, (Value.agg #[Value.int IntKind.i64 0, Value.int IntKind.i64 0, Value.int IntKind.i64 0, Value.int IntKind.i64 0, Value.int IntKind.i64 0, Value.int IntKind.i64 0, Value.int IntKind.i64 0, Value.int IntKind.i64 0, Value.int IntKind.i64 0, Value.int IntKind.i64 0, Value.int IntKind.i64 0, Value.int IntKind.i64 0, Value.int IntKind.i64 0, Value.int IntKind.i64 0, Value.int IntKind.i64 0, Value.int IntKind.i64 0, Value.int IntKind.i64 0, Value.int IntKind.i64 0, Value.int IntKind.i64 0, Value.int IntKind.i64 0, Value.int IntKind.i64 0, Value.int IntKind.i64 0, Value.int IntKind.i64 0, Value.int IntKind.i64 0, Value.int IntKind.i64 0])⟩),
  (32, ⟨(.struct [(30, 0, 9), (3, 9, 1), (3, 10, 1), (3, 11, 1), (3, 12, 1), (3, 13, 1), (3, 14, 1), (3, 15, 1), (3, 16, 1), (3, 17, 1), (3, 18, 1), (3, 19, 1), (3, 20, 1), (3, 21, 1), (3, 22, 1), (3, 23, 1), (3, 24, 1)]), 25, 200, (Value.agg #[Value.int IntKind.i64 0, Value.int IntKind.i64 0, Value.int IntKind.i64 0, Value.int IntKind.i64 0, Value.int IntKind.i64 0, Value.int IntKind.i64 0, Value.int IntKind.i64 0, Value.int IntKind.i64 0, Value.int IntKind.i64 0, Value.int IntKind.i64 0, Value.int IntKind.i64 0, Value.int IntKind.i64 0, Value.int IntKind.i64 0, Value.int IntKind.i64 0, Value.int IntKind.i64 0, Value.int IntKind.i64 0, Value.int IntKind.i64 0, Value.int IntKind.i64 0, Value.int IntKind.i64 0, Value.int IntKind.i64 0, Value.int IntKind.i64 0, Value.int IntKind.i64 0, Value.int IntKind.i64 0, Value.int IntKind.i64 0, Value.int IntKind.i64 0])⟩),
  (33, ⟨.other, 1, 8, Value.nilFunc⟩),
  (34, ⟨.other, 1, 8, (Value.pointer none)⟩),
  (35, ⟨.other, 1, 8, Value.nilFunc⟩),
  (36, ⟨(.slice 3), 1, 24, (Value.slice none 0 0)⟩),
  (37, ⟨(.struct [(3, 0, 1), (36, 1, 1), (36, 2, 1)]), 3, 56, (Value.agg #[Value.int IntKind.i64 0, Value.slice none 0 0, Value.slice none 0 0])⟩),
  (38, ⟨(.struct [(3, 0, 1), (36, 1, 1), (36, 2, 1)]), 3, 56, (Value.agg #[Value.int IntKind.i64 0, Value.slice none 0 0, Value.slice none 0 0])⟩),
  (39, ⟨.other, 1, 8, Value.nilFunc⟩),
  (40, ⟨(.struct [(36, 0, 1)]), 1, 24, (Value.agg #[Value.slice none 0 0])⟩),
  (41, ⟨(.struct [(36, 0, 1)]), 1, 24, (Value.agg #[Value.slice none 0 0])⟩),
  (42, ⟨(.slice 56), 1, 24, (Value.slice none 0 0)⟩),
  (43, ⟨(.slice 36), 1, 24, (Value.slice none 0 0)⟩),
  (44, ⟨(.slice 49), 1, 24, (Value.slice none 0 0)⟩),
  (45, ⟨(.slice 55), 1, 24, (Value.slice none 0 0)⟩),
  (46, ⟨(.struct [(41, 0, 1), (3, 1, 1), (22, 2, 1), (42, 3, 1), (43, 4, 1), (36, 5, 1), (44, 6, 1), (45, 7, 1), (3, 8, 1), (4, 9, 1), (4, 10, 1)]), 11, 192, (Value.agg #[Value.slice none 0 0, Value.int IntKind.i64 0, Value.slice none 0 0, Value.slice none 0 0, Value.slice none 0 0, Value.slice none 0 0, Value.slice none 0 0, Value.slice none 0 0, Value.int IntKind.i64 0, Value.bool false, Value.bool false])⟩),
  (47, ⟨(.struct [(41, 0, 1), (3, 1, 1), (22, 2, 1), (42, 3, 1), (43, 4, 1), (36, 5, 1), (44, 6, 1), (45, 7, 1), (3, 8, 1), (4, 9, 1), (4, 10, 1)]), 11, 192, (Value.agg #[Value.slice none 0 0, Value.int IntKind.i64 0, Value.slice none 0 0, Value.slice none 0 0, Value.slice none 0 0, Value.slice none 0 0, Value.slice none 0 0, Value.slice none 0 0, Value.int IntKind.i64 0, Value.bool false, Value.bool false])⟩),
  (48, ⟨.other, 1, 8, Value.nilFunc⟩),
  (49, ⟨(.slice 98), 1, 24, (Value.slice none 0 0)⟩),
  (50, ⟨.other, 1, 0, (Value.tuple #[Value.agg #[Value.int IntKind.i64 0, Value.slice none 0 0, Value.slice none 0 0], Value.int IntKind.i64 0, Value.bool false])⟩),
  (51, ⟨.other, 1, 8, Value.nilFunc⟩),
  (52, ⟨(.struct [(3, 0, 1), (3, 1, 1), (3, 2, 1), (3, 3, 1)]), 4, 32, (Value.agg #[Value.int IntKind.i64 0, Value.int IntKind.i64 0, Value.int IntKind.i64 0, Value.int IntKind.i64 0])⟩),
  (53, ⟨(.struct [(3, 0, 1), (3, 1, 1), (3, 2, 1), (3, 3, 1)]), 4, 32, (Value.agg #[Value.int IntKind.i64 0, Value.int IntKind.i64 0, Value.int IntKind.i64 0, Value.int IntKind.i64 0])⟩),
  (54, ⟨(.struct [(3, 0, 1), (53, 1, 4), (3, 5, 1), (4, 6, 1), (3, 7, 1), (3, 8, 1), (3, 9, 1)]), 10, 80, (Value.agg #[Value.int IntKind.i64 0, Value.int IntKind.i64 0, Value.int IntKind.i64 0, Value.int IntKind.i64 0, Value.int IntKind.i64 0, Value.int IntKind.i64 0, Value.bool false, Value.int IntKind.i64 0, Value.int IntKind.i64 0, Value.int IntKind.i64 0])⟩),
  (55, ⟨(.struct [(3, 0, 1), (53, 1, 4), (3, 5, 1), (4, 6, 1), (3, 7, 1), (3, 8, 1), (3, 9, 1)]), 10, 80, (Value.agg #[Value.int IntKind.i64 0, Value.int IntKind.i64 0, Value.int IntKind.i64 0, Value.int IntKind.i64 0, Value.int IntKind.i64 0, Value.int IntKind.i64 0, Value.bool false, Value.int IntKind.i64 0, Value.int IntKind.i64 0, Value.int IntKind.i64 0])⟩),
  (56, ⟨(.slice 65), 1, 24, (Value.slice none 0 0)⟩),
  (57, ⟨(.struct [(3, 0, 1), (3, 1, 1), (3, 2, 1), (3, 3, 1)]), 4, 32, (Value.agg #[Value.int IntKind.i64 0, Value.int IntKind.i64 0, Value.int IntKind.i64 0, Value.int IntKind.i64 0])⟩),
  (58, ⟨(.struct [(3, 0, 1), (3, 1, 1), (3, 2, 1), (3, 3, 1)]), 4, 32, (Value.agg #[Value.int IntKind.i64 0, Value.int IntKind.i64 0, Value.int IntKind.i64 0, Value.int IntKind.i64 0])⟩),
  (59, ⟨(.int .i64), 1, 8, (Value.int IntKind.i64 0)⟩),
  (60, ⟨(.struct [(3, 0, 1), (4, 1, 1), (59, 2, 1), (3, 3, 1), (49, 4, 1)]), 5, 56, (Value.agg #[Value.int IntKind.i64 0, Value.bool false, Value.int IntKind.i64 0, Value.int IntKind.i64 0, Value.slice none 0 0])⟩),
  (61, ⟨(.struct [(3, 0, 1), (4, 1, 1), (59, 2, 1), (3, 3, 1), (49, 4, 1)]), 5, 56, (Value.agg #[Value.int IntKind.i64 0, Value.bool false, Value.int IntKind.i64 0, Value.int IntKind.i64 0, Value.slice none 0 0])⟩),
  (62, ⟨.other, 1, 0, (Value.tuple #[Value.agg #[Value.int IntKind.i64 0, Value.int IntKind.i64 0, Value.int IntKind.i64 0, Value.int IntKind.i64 0], Value.agg #[Value.int IntKind.i64 0, Value.bool false, Value.int IntKind.i64 0, Value.int IntKind.i64 0, Value.slice none 0 0], Value.bool false])⟩),
  (63, ⟨.other, 1, 8, Value.nilFunc⟩),
  (64, ⟨(.struct [(3, 0, 1), (4, 1, 1)]), 2, 16, (Value.agg #[Value.int IntKind.i64 0, Value.bool false])⟩),
  (65, ⟨(.struct [(3, 0, 1), (4, 1, 1)]), 2, 16, (Value.agg #[Value.int IntKind.i64 0, Value.bool false])⟩),
  (66, ⟨.other, 1, 0, (Value.tuple #[Value.agg #[Value.slice none 0 0], Value.agg #[Value.int IntKind.i64 0, Value.bool false], Value.int IntKind.i64 0])⟩),
  (67, ⟨.other, 1, 8, Value.nilFunc⟩),
  (68, ⟨.other, 1, 8, Value.nilFunc⟩),
  (69, ⟨.other, 1, 8, Value.nilFunc⟩),
  (70, ⟨.other, 1, 8, Value.nilFunc⟩),
  (71, ⟨.other, 1, 8, Value.nilFunc⟩),
  (72, ⟨.other, 1, 8, Value.nilFunc⟩),
  (73, ⟨.other, 1, 8, Value.nilFunc⟩),
  (74, ⟨.other, 1, 0, (Value.tuple #[Value.agg #[Value.int IntKind.i64 0, Value.int IntKind.i64 0, Value.int IntKind.i64 0, Value.int IntKind.i64 0, Value.int IntKind.i64 0, Value.int IntKind.i64 0, Value.int IntKind.i64 0, Value.int IntKind.i64 0, Value.int IntKind.i64 0, Value.int IntKind.i64 0, Value.int IntKind.i64 0, Value.int IntKind.i64 0, Value.int IntKind.i64 0, Value.int IntKind.i64 0, Value.int IntKind.i64 0, Value.int IntKind.i64 0, Value.int IntKind.i64 0, Value.int IntKind.i64 0, Value.int IntKind.i64 0, Value.int IntKind.i64 0, Value.int IntKind.i64 0, Value.int IntKind.i64 0, Value.int IntKind.i64 0, Value.int IntKind.i64 0, Value.int IntKind.i64 0], Value.int IntKind.i64 0])⟩),
  (75, ⟨.other, 1, 8, Value.nilFunc⟩),
  (76, ⟨.other, 1, 8, Value.nilFunc⟩),
  (77, ⟨.other, 1, 0, (Value.tuple #[Value.agg #[Value.slice none 0 0], Value.slice none 0 0, Value.int IntKind.i64 0])⟩),
  (78, ⟨.other, 1, 8, Value.nilFunc⟩),
  (79, ⟨.other, 1, 8, Value.nilFunc⟩),
  (80, ⟨(.slice 58), 1, 24, (Value.slice none 0 0)⟩),
  (81, ⟨.other, 1, 8, Value.nilFunc⟩),
  (82, ⟨.other, 1, 8, Value.nilFunc⟩),
  (83, ⟨.other, 1, 8, Value.nilFunc⟩),
  (84, ⟨.other, 1, 8, Value.nilFunc⟩),
  (85, ⟨.other, 1, 8, Value.nilFunc⟩),
  (86, ⟨.other, 1, 8, Value.nilFunc⟩),
  (87, ⟨.other, 1, 8, Value.nilFunc⟩),
  (88, ⟨.other, 1, 8, (Value.pointer none)⟩),
  (89, ⟨.other, 1, 8, Value.nilFunc⟩),
  (90, ⟨.other, 1, 8, Value.nilFunc⟩),
  (91, ⟨.other, 1, 8, Value.nilFunc⟩),
  (92, ⟨.other, 1, 8, Value.nilFunc⟩),
  (93, ⟨.other, 1, 8, Value.nilFunc⟩),
  (94, ⟨.other, 1, 8, Value.nilFunc⟩),
  (95, ⟨.other, 1, 8, Value.nilFunc⟩),
  (96, ⟨.other, 1, 8, Value.nilFunc⟩),
  (97, ⟨.other, 1, 8, Value.nilFunc⟩),
  (98, ⟨(.array 2 3), 2, 16, (Value.agg #[Value.int IntKind.i64 0, Value.int IntKind.i64 0])⟩),
  (99, ⟨.other, 1, 8, (Value.pointer none)⟩),
  (100, ⟨.other, 1, 8, Value.nilFunc⟩),
  (101, ⟨.other, 1, 8, Value.nilFunc⟩),
  (102, ⟨.other, 1, 8, Value.nilFunc⟩),
  (103, ⟨.other, 1, 8, Value.nilFunc⟩),
  (104, ⟨.other, 1, 8, Value.nilFunc⟩),
  (105, ⟨.other, 1, 8, Value.nilFunc⟩),
  (106, ⟨.other, 1, 8, Value.nilFunc⟩),
  (107, ⟨.other, 1, 8, Value.nilFunc⟩),
  (108, ⟨.other, 1, 8, Value.nilFunc⟩),
  (109, ⟨.other, 1, 8, Value.nilFunc⟩),
  (110, ⟨(.array 3 3), 3, 24, (Value.agg #[Value.int IntKind.i64 0, Value.int IntKind.i64 0, Value.int IntKind.i64 0])⟩),
  (111, ⟨.other, 1, 8, Value.nilFunc⟩),
  (112, ⟨(.struct [(32, 0, 25), (3, 25, 1), (49, 26, 1), (3, 27, 1), (110, 28, 3), (111, 31, 1)]), 32, 272, (Value.agg #[Value.int IntKind.i64 0, Value.int IntKind.i64 0, Value.int IntKind.i64 0, Value.int IntKind.i64 0, Value.int IntKind.i64 0, Value.int IntKind.i64 0, Value.int IntKind.i64 0, Value.int IntKind.i64 0, Value.int IntKind.i64 0, Value.int IntKind.i64 0, Value.int IntKind.i64 0, Value.int IntKind.i64 0, Value.int IntKind.i64 0, Value.int IntKind.i64 0, Value.int IntKind.i64 0, Value.int IntKind.i64 0, Value.int IntKind.i64 0, Value.int IntKind.i64 0, Value.int IntKind.i64 0, Value.int IntKind.i64 0, Value.int IntKind.i64 0, Value.int IntKind.i64 0, Value.int IntKind.i64 0, Value.int IntKind.i64 0, Value.int IntKind.i64 0, Value.int IntKind.i64 0, Value.slice none 0 0, Value.int IntKind.i64 0, Value.int IntKind.i64 0, Value.int IntKind.i64 0, Value.int IntKind.i64 0, Value.nilFunc])⟩),
  (113, ⟨(.struct [(32, 0, 25), (3, 25, 1), (49, 26, 1), (3, 27, 1), (110, 28, 3), (111, 31, 1)]), 32, 272, (Value.agg #[Value.int IntKind.i64 0, Value.int IntKind.i64 0, Value.int IntKind.i64 0, Value.int IntKind.i64 0, Value.int IntKind.i64 0, Value.int IntKind.i64 0, Value.int IntKind.i64 0, Value.int IntKind.i64 0, Value.int IntKind.i64 0, Value.int IntKind.i64 0, Value.int IntKind.i64 0, Value.int IntKind.i64 0, Value.int IntKind.i64 0, Value.int IntKind.i64 0, Value.int IntKind.i64 0, Value.int IntKind.i64 0, Value.int IntKind.i64 0, Value.int IntKind.i64 0, Value.int IntKind.i64 0, Value.int IntKind.i64 0, Value.int IntKind.i64 0, Value.int IntKind.i64 0, Value.int IntKind.i64 0, Value.int IntKind.i64 0, Value.int IntKind.i64 0, Value.int IntKind.i64 0, Value.slice none 0 0, Value.int IntKind.i64 0, Value.int IntKind.i64 0, Value.int IntKind.i64 0, Value.int IntKind.i64 0, Value.nilFunc])⟩),
  (114, ⟨(.struct [(58, 0, 4)]), 4, 32, (Value.agg #[Value.int IntKind.i64 0, Value.int IntKind.i64 0, Value.int IntKind.i64 0, Value.int IntKind.i64 0])⟩),
  (115, ⟨(.struct [(58, 0, 4)]), 4, 32, (Value.agg #[Value.int IntKind.i64 0, Value.int IntKind.i64 0, Value.int IntKind.i64 0, Value.int IntKind.i64 0])⟩),
  (116, ⟨.other, 1, 0, (Value.tuple #[Value.int IntKind.i64 0, Value.int IntKind.i64 0, Value.bool false])⟩),
  (117, ⟨.other, 1, 8, Value.nilFunc⟩),
  (118, ⟨.other, 1, 8, Value.nilFunc⟩),
  (119, ⟨.other, 1, 8, Value.nilFunc⟩),
  (120, ⟨(.struct [(3, 0, 1), (4, 1, 1), (3, 2, 1)]), 3, 24, (Value.agg #[Value.int IntKind.i64 0, Value.bool false, Value.int IntKind.i64 0])⟩),
  (121, ⟨(.struct [(3, 0, 1), (4, 1, 1), (3, 2, 1)]), 3, 24, (Value.agg #[Value.int IntKind.i64 0, Value.bool false, Value.int IntKind.i64 0])⟩),
  (122, ⟨.other, 1, 8, Value.nilFunc⟩),
  (123, ⟨.other, 1, 8, Value.nilFunc⟩),
  (124, ⟨.other, 1, 8, Value.nilFunc⟩),
  (125, ⟨.other, 1, 8, Value.nilFunc⟩),
  (126, ⟨.other, 1, 0, (Value.tuple #[Value.int IntKind.i64 0, Value.int IntKind.i64 0])⟩),
  (127, ⟨.other, 1, 8, Value.nilFunc⟩),
  (128, ⟨.other, 1, 8, Value.nilFunc⟩),
  (129, ⟨.other, 1, 8, Value.nilFunc⟩),
  (130, ⟨.other, 1, 8, (Value.map none)⟩),
  (131, ⟨(.struct [(32, 0, 25), (3, 25, 1), (49, 26, 1), (3, 27, 1), (110, 28, 3), (111, 31, 1)]), 32, 272, (Value.agg #[Value.int IntKind.i64 0, Value.int IntKind.i64 0, Value.int IntKind.i64 0, Value.int IntKind.i64 0, Value.int IntKind.i64 0, Value.int IntKind.i64 0, Value.int IntKind.i64 0, Value.int IntKind.i64 0, Value.int IntKind.i64 0, Value.int IntKind.i64 0, Value.int IntKind.i64 0, Value.int IntKind.i64 0, Value.int IntKind.i64 0, Value.int IntKind.i64 0, Value.int IntKind.i64 0, Value.int IntKind.i64 0, Value.int IntKind.i64 0, Value.int IntKind.i64 0, Value.int IntKind.i64 0, Value.int IntKind.i64 0, Value.int IntKind.i64 0, Value.int IntKind.i64 0, Value.int IntKind.i64 0, Value.int IntKind.i64 0, Value.int IntKind.i64 0, Value.int IntKind.i64 0, Value.slice none 0 0, Value.int IntKind.i64 0, Value.int IntKind.i64 0, Value.int IntKind.i64 0, Value.int IntKind.i64 0, Value.nilFunc])⟩),
  (132, ⟨(.struct [(32, 0, 25), (3, 25, 1), (49, 26, 1), (3, 27, 1), (110, 28, 3), (111, 31, 1)]), 32, 272, (Value.agg #[Value.int IntKind.i64 0, Value.int IntKind.i64 0, Value.int IntKind.i64 0, Value.int IntKind.i64 0, Value.int IntKind.i64 0, Value.int IntKind.i64 0, Value.int IntKind.i64 0, Value.int IntKind.i64 0, Value.int IntKind.i64 0, Value.int IntKind.i64 0, Value.int IntKind.i64 0, Value.int IntKind.i64 0, Value.int IntKind.i64 0, Value.int IntKind.i64 0, Value.int IntKind.i64 0, Value.int IntKind.i64 0, Value.int IntKind.i64 0, Value.int IntKind.i64 0, Value.int IntKind.i64 0, Value.int IntKind.i64 0, Value.int IntKind.i64 0, Value.int IntKind.i64 0, Value.int IntKind.i64 0, Value.int IntKind.i64 0, Value.int IntKind.i64 0, Value.int IntKind.i64 0, Value.slice none 0 0, Value.int IntKind.i64 0, Value.int IntKind.i64 0, Value.int IntKind.i64 0, Value.int IntKind.i64 0, Value.nilFunc])⟩),
  (133, ⟨(.struct [(58, 0, 4)]), 4, 32, (Value.agg #[Value.int IntKind.i64 0, Value.int IntKind.i64 0, Value.int IntKind.i64 0, Value.int IntKind.i64 0])⟩),
  (134, ⟨(.struct [(58, 0, 4)]), 4, 32, (Value.agg #[Value.int IntKind.i64 0, Value.int IntKind.i64 0, Value.int IntKind.i64 0, Value.int IntKind.i64 0])⟩),
  (135, ⟨.other, 1, 8, Value.nilFunc⟩),
  (136, ⟨.other, 1, 0, (Value.tuple #[Value.int IntKind.i64 0, Value.int IntKind.i64 0, Value.int IntKind.i64 0])⟩),
  (137, ⟨.other, 1, 8, Value.nilFunc⟩),
  (138, ⟨.other, 1, 8, Value.nilFunc⟩),
  (139, ⟨.other, 1, 8, Value.nilFunc⟩),
  (140, ⟨.other, 1, 8, Value.nilFunc⟩),
  (141, ⟨.other, 1, 8, Value.nilFunc⟩),
  (142, ⟨(.int .u64), 1, 8, (Value.int IntKind.u64 0)⟩),
  (143, ⟨.other, 1, 8, Value.nilFunc⟩),
  (144, ⟨(.struct [(3, 0, 1), (3, 1, 1)]), 2, 16, (Value.agg #[Value.int IntKind.i64 0, Value.int IntKind.i64 0])⟩),
  (145, ⟨(.struct [(3, 0, 1), (3, 1, 1)]), 2, 16, (Value.agg #[Value.int IntKind.i64 0, Value.int IntKind.i64 0])⟩),
  (146, ⟨.other, 1, 8, Value.nilFunc⟩),
  (147, ⟨.other, 1, 8, Value.nilFunc⟩),
  (148, ⟨(.slice 145), 1, 24, (Value.slice none 0 0)⟩),
  (149, ⟨.other, 1, 8, Value.nilFunc⟩),
  (150, ⟨.other, 1, 8, Value.nilFunc⟩),
  (151, ⟨(.struct [(17, 0, 1), (17, 1, 1), (17, 2, 1), (9, 3, 1)]), 4, 40, (Value.agg #[Value.pointer none, Value.pointer none, Value.pointer none, Value.string { data := #[] }])⟩),
  (152, ⟨(.struct [(17, 0, 1), (17, 1, 1), (17, 2, 1), (9, 3, 1)]), 4, 40, (Value.agg #[Value.pointer none, Value.pointer none, Value.pointer none, Value.string { data := #[] }])⟩),
  (153, ⟨(.array 0 16), 0, 0, (Value.agg #[])⟩),
  (154, ⟨(.struct [(153, 0, 0)]), 0, 0, (Value.agg #[])⟩),
  (155, ⟨(.struct [(153, 0, 0)]), 0, 0, (Value.agg #[])⟩),
  (156, ⟨(.int .u32), 1, 4, (Value.int IntKind.u32 0)⟩),
  (157, ⟨(.int .u8), 1, 1, (Value.int IntKind.u8 0)⟩),
  (158, ⟨(.int .u8), 1, 1, (Value.int IntKind.u8 0)⟩),
  (159, ⟨.other, 1, 8, Value.nilFunc⟩),
  (160, ⟨.other, 1, 8, (Value.pointer none)⟩),
  (161, ⟨(.int .i32), 1, 4, (Value.int IntKind.i32 0)⟩),
  (162, ⟨(.int .i32), 1, 4, (Value.int IntKind.i32 0)⟩),
  (163, ⟨(.struct [(12, 0, 1), (12, 1, 1), (156, 2, 1), (157, 3, 1), (5, 4, 1), (5, 5, 1), (158, 6, 1), (159, 7, 1), (160, 8, 1), (161, 9, 1), (162, 10, 1)]), 11, 48, (Value.agg #[Value.int IntKind.u64 0, Value.int IntKind.u64 0, Value.int IntKind.u32 0, Value.int IntKind.u8 0, Value.int IntKind.u8 0, Value.int IntKind.u8 0, Value.int IntKind.u8 0, Value.nilFunc, Value.pointer none, Value.int IntKind.i32 0, Value.int IntKind.i32 0])⟩),
  (164, ⟨(.struct [(12, 0, 1), (12, 1, 1), (156, 2, 1), (157, 3, 1), (5, 4, 1), (5, 5, 1), (158, 6, 1), (159, 7, 1), (160, 8, 1), (161, 9, 1), (162, 10, 1)]), 11, 48, (Value.agg #[Value.int IntKind.u64 0, Value.int IntKind.u64 0, Value.int IntKind.u32 0, Value.int IntKind.u8 0, Value.int IntKind.u8 0, Value.int IntKind.u8 0, Value.int IntKind.u8 0, Value.nilFunc, Value.pointer none, Value.int IntKind.i32 0, Value.int IntKind.i32 0])⟩),
  (165, ⟨.other, 1, 8, (Value.pointer none)⟩)]
def tb : Nat → Option TI := kv tab

def tabGood (P : Program) (p : Nat × TI) : Prop := (P.underlying p.1).map (tkOf P) = some p.2.k ∧ (P.info? p.1).map (fun f => (f.size, f.bytes, f.zero)) = some (p.2.sz, p.2.bytes, some p.2.zero)
theorem tab_of {P : Program} : ∀ {l : List (Nat × TI)}, (∀ p ∈ l, tabGood P p) → TabOk P (kv l) := by
  intro l h
  have key : ∀ (l : List (Nat × TI)), (∀ p ∈ l, tabGood P p) → ∀ t i, kv l t = some i → tabGood P (t, i) := by
    intro l
    induction l with
    | nil => intro _ t i h; cases h
    | cons p l ih =>
      intro h t i hi
      obtain ⟨k, v⟩ := p
      rw [lk_cons] at hi
      split at hi
      · rename_i hk; subst hk; cases hi; exact h _ (by simp)
      · exact ih (fun q hq => h q (by simp [hq])) t i hi
  refine ⟨fun t i hi => ?_, fun t i hi => ?_⟩
  · obtain ⟨h1, _⟩ := key l h t i hi
    simp only [Option.map_eq_some_iff] at h1
    exact h1
  · obtain ⟨_, h2⟩ := key l h t i hi
    simp only [Option.map_eq_some_iff, Prod.mk.injEq] at h2
    obtain ⟨f, h3, h4, h5, h6⟩ := h2
    exact ⟨f, h3, h4, h5, h6⟩
theorem tg0 : tabGood Tryz.prog (0, ⟨.other, 1, 0, (Value.tuple #[])⟩) := ⟨by kernel_rfl, by kernel_rfl⟩
theorem tg1 : tabGood Tryz.prog (1, ⟨.other, 1, 8, Value.nilFunc⟩) := ⟨by kernel_rfl, by kernel_rfl⟩
theorem tg2 : tabGood Tryz.prog (2, ⟨(.int .i64), 1, 8, (Value.int IntKind.i64 0)⟩) := ⟨by kernel_rfl, by kernel_rfl⟩
theorem tg3 : tabGood Tryz.prog (3, ⟨(.int .i64), 1, 8, (Value.int IntKind.i64 0)⟩) := ⟨by kernel_rfl, by kernel_rfl⟩
theorem tg4 : tabGood Tryz.prog (4, ⟨.bool, 1, 1, (Value.bool false)⟩) := ⟨by kernel_rfl, by kernel_rfl⟩
theorem tg5 : tabGood Tryz.prog (5, ⟨(.int .u8), 1, 1, (Value.int IntKind.u8 0)⟩) := ⟨by kernel_rfl, by kernel_rfl⟩
theorem tg6 : tabGood Tryz.prog (6, ⟨(.int .u8), 1, 1, (Value.int IntKind.u8 0)⟩) := ⟨by kernel_rfl, by kernel_rfl⟩
theorem tg7 : tabGood Tryz.prog (7, ⟨(.struct [(2, 0, 1), (3, 1, 1), (4, 2, 1), (6, 3, 1)]), 4, 24, (Value.agg #[Value.int IntKind.i64 0, Value.int IntKind.i64 0, Value.bool false, Value.int IntKind.u8 0])⟩) := ⟨by kernel_rfl, by kernel_rfl⟩
theorem tg8 : tabGood Tryz.prog (8, ⟨(.struct [(2, 0, 1), (3, 1, 1), (4, 2, 1), (6, 3, 1)]), 4, 24, (Value.agg #[Value.int IntKind.i64 0, Value.int IntKind.i64 0, Value.bool false, Value.int IntKind.u8 0])⟩) := ⟨by kernel_rfl, by kernel_rfl⟩
theorem tg9 : tabGood Tryz.prog (9, ⟨.str, 1, 16, (Value.string { data := #[] })⟩) := ⟨by kernel_rfl, by kernel_rfl⟩
theorem tg10 : tabGood Tryz.prog (10, ⟨.str, 1, 16, (Value.string { data := #[] })⟩) := ⟨by kernel_rfl, by kernel_rfl⟩
theorem tg11 : tabGood Tryz.prog (11, ⟨.str, 1, 16, (Value.string { data := #[] })⟩) := ⟨by kernel_rfl, by kernel_rfl⟩
theorem tg12 : tabGood Tryz.prog (12, ⟨(.int .u64), 1, 8, (Value.int IntKind.u64 0)⟩) := ⟨by kernel_rfl, by kernel_rfl⟩
theorem tg13 : tabGood Tryz.prog (13, ⟨(.struct [(9, 0, 1), (12, 1, 1)]), 2, 24, (Value.agg #[Value.string { data := #[] }, Value.int IntKind.u64 0])⟩) := ⟨by kernel_rfl, by kernel_rfl⟩
theorem tg14 : tabGood Tryz.prog (14, ⟨(.struct [(9, 0, 1), (12, 1, 1)]), 2, 24, (Value.agg #[Value.string { data := #[] }, Value.int IntKind.u64 0])⟩) := ⟨by kernel_rfl, by kernel_rfl⟩
theorem tg15 : tabGood Tryz.prog (15, ⟨.other, 1, 8, (Value.pointer none)⟩) := ⟨by kernel_rfl, by kernel_rfl⟩
theorem tg16 : tabGood Tryz.prog (16, ⟨.other, 1, 8, (Value.pointer none)⟩) := ⟨by kernel_rfl, by kernel_rfl⟩
theorem tg17 : tabGood Tryz.prog (17, ⟨.other, 1, 8, (Value.pointer none)⟩) := ⟨by kernel_rfl, by kernel_rfl⟩
theorem tg18 : tabGood Tryz.prog (18, ⟨(.struct [(17, 0, 1)]), 1, 8, (Value.agg #[Value.pointer none])⟩) := ⟨by kernel_rfl, by kernel_rfl⟩
theorem tg19 : tabGood Tryz.prog (19, ⟨(.struct [(17, 0, 1)]), 1, 8, (Value.agg #[Value.pointer none])⟩) := ⟨by kernel_rfl, by kernel_rfl⟩
theorem tg20 : tabGood Tryz.prog (20, ⟨.other, 1, 16, Value.nilIface⟩) := ⟨by kernel_rfl, by kernel_rfl⟩
theorem tg21 : tabGood Tryz.prog (21, ⟨(.int .i32), 1, 4, (Value.int IntKind.i32 0)⟩) := ⟨by kernel_rfl, by kernel_rfl⟩
theorem tg22 : tabGood Tryz.prog (22, ⟨(.slice 53), 1, 24, (Value.slice none 0 0)⟩) := ⟨by kernel_rfl, by kernel_rfl⟩
theorem tg23 : tabGood Tryz.prog (23, ⟨.other, 1, 8, Value.nilFunc⟩) := ⟨by kernel_rfl, by kernel_rfl⟩
theorem tg24 : tabGood Tryz.prog (24, ⟨(.slice 22), 1, 24, (Value.slice none 0 0)⟩) := ⟨by kernel_rfl, by kernel_rfl⟩
theorem tg25 : tabGood Tryz.prog (25, ⟨(.slice 5), 1, 24, (Value.slice none 0 0)⟩) := ⟨by kernel_rfl, by kernel_rfl⟩
theorem tg26 : tabGood Tryz.prog (26, ⟨(.struct [(24, 0, 1), (25, 1, 1)]), 2, 48, (Value.agg #[Value.slice none 0 0, Value.slice none 0 0])⟩) := ⟨by kernel_rfl, by kernel_rfl⟩
theorem tg27 : tabGood Tryz.prog (27, ⟨(.struct [(24, 0, 1), (25, 1, 1)]), 2, 48, (Value.agg #[Value.slice none 0 0, Value.slice none 0 0])⟩) := ⟨by kernel_rfl, by kernel_rfl⟩
theorem tg28 : tabGood Tryz.prog (28, ⟨.other, 1, 8, Value.nilFunc⟩) := ⟨by kernel_rfl, by kernel_rfl⟩
theorem tg29 : tabGood Tryz.prog (29, ⟨(.struct [(3, 0, 1), (3, 1, 1), (3, 2, 1), (3, 3, 1), (3, 4, 1), (3, 5, 1), (3, 6, 1), (3, 7, 1), (3, 8, 1)]), 9, 72, (Value.agg #[Value.int IntKind.i64 0, Value.int IntKind.i64 0, Value.int IntKind.i64 0, Value.int IntKind.i64 0, Value.int IntKind.i64 0, Value.int IntKind.i64 0, Value.int IntKind.i64 0, Value.int IntKind.i64 0, Value.int IntKind.i64 0])⟩) := ⟨by kernel_rfl, by kernel_rfl⟩
theorem tg30 : tabGood Tryz.prog (30, ⟨(.struct [(3, 0, 1), (3, 1, 1), (3, 2, 1), (3, 3, 1), (3, 4, 1), (3, 5, 1), (3, 6, 1), (3, 7, 1), (3, 8, 1)]), 9, 72, (Value.agg #[Value.int IntKind.i64 0, Value.int IntKind.i64 0, Value.int IntKind.i64 0, Value.int IntKind.i64 0, Value.int IntKind.i64 0, Value.int IntKind.i64 0, Value.int IntKind.i64 0, Value.int IntKind.i64 0, Value.int IntKind.i64 0])⟩) := ⟨by kernel_rfl, by kernel_rfl⟩
theorem tg31 : tabGood Tryz.prog (31, ⟨(.struct [(30, 0, 9), (3, 9, 1), (3, 10, 1), (3, 11, 1), (3, 12, 1), (3, 13, 1), (3, 14, 1), (3, 15, 1), (3, 16, 1), (3, 17, 1), (3, 18, 1), (3, 19, 1), (3, 20, 1), (3, 21, 1), (3, 22, 1), (3, 23, 1), (3, 24, 1)]), 25, 200, (Value.agg #[Value.int IntKind.i64 0, Value.int IntKind.i64 0, Value.int IntKind.i64 0, Value.int IntKind.i64 0, Value.int IntKind.i64 0, Value.int IntKind.i64 0, Value.int IntKind.i64 0, Value.int IntKind.i64 0, Value.int IntKind.i64 0, Value.int IntKind.i64 0, Value.int IntKind.i64 0, Value.int IntKind.i64 0, Value.int IntKind.i64 0, Value.int IntKind.i64 0, Value.int IntKind.i64 0, Value.int IntKind.i64 0, Value.int IntKind.i64 0, Value.int IntKind.i64 0, Value.int IntKind.i64 0, Value.int IntKind.i64 0, Value.int IntKind.i64 0, Value.int IntKind.i64 0, Value.int IntKind.i64 0, Value.int IntKind.i64 0, Value.int IntKind.i64 0])⟩) := ⟨by kernel_rfl, by kernel_rfl⟩
theorem tg32 : tabGood Tryz.prog (32, ⟨(.struct [(30, 0, 9), (3, 9, 1), (3, 10, 1), (3, 11, 1), (3, 12, 1), (3, 13, 1), (3, 14, 1), (3, 15, 1), (3, 16, 1), (3, 17, 1), (3, 18, 1), (3, 19, 1), (3, 20, 1), (3, 21, 1), (3, 22, 1), (3, 23, 1), (3, 24, 1)]), 25, 200, (Value.agg #[Value.int IntKind.i64 0, Value.int IntKind.i64 0, Value.int IntKind.i64 0, Value.int IntKind.i64 0, Value.int IntKind.i64 0, Value.int IntKind.i64 0, Value.int IntKind.i64 0, Value.int IntKind.i64 0, Value.int IntKind.i64 0, Value.int IntKind.i64 0, Value.int IntKind.i64 0, Value.int IntKind.i64 0, Value.int IntKind.i64 0, Value.int IntKind.i64 0, Value.int IntKind.i64 0, Value.int IntKind.i64 0, Value.int IntKind.i64 0, Value.int IntKind.i64 0, Value.int IntKind.i64 0, Value.int IntKind.i64 0, Value.int IntKind.i64 0, Value.int IntKind.i64 0, Value.int IntKind.i64 0, Value.int IntKind.i64 0, Value.int IntKind.i64 0])⟩) := ⟨by kernel_rfl, by kernel_rfl⟩
theorem tg33 : tabGood Tryz.prog (33, ⟨.other, 1, 8, Value.nilFunc⟩) := ⟨by kernel_rfl, by kernel_rfl⟩
theorem tg34 : tabGood Tryz.prog (34, ⟨.other, 1, 8, (Value.pointer none)⟩) := ⟨by kernel_rfl, by kernel_rfl⟩
theorem tg35 : tabGood Tryz.prog (35, ⟨.other, 1, 8, Value.nilFunc⟩) := ⟨by kernel_rfl, by kernel_rfl⟩
theorem tg36 : tabGood Tryz.prog (36, ⟨(.slice 3), 1, 24, (Value.slice none 0 0)⟩) := ⟨by kernel_rfl, by kernel_rfl⟩
theorem tg37 : tabGood Tryz.prog (37, ⟨(.struct [(3, 0, 1), (36, 1, 1), (36, 2, 1)]), 3, 56, (Value.agg #[Value.int IntKind.i64 0, Value.slice none 0 0, Value.slice none 0 0])⟩) := ⟨by kernel_rfl, by kernel_rfl⟩
theorem tg38 : tabGood Tryz.prog (38, ⟨(.struct [(3, 0, 1), (36, 1, 1), (36, 2, 1)]), 3, 56, (Value.agg #[Value.int IntKind.i64 0, Value.slice none 0 0, Value.slice none 0 0])⟩) := ⟨by kernel_rfl, by kernel_rfl⟩
theorem tg39 : tabGood Tryz.prog (39, ⟨.other, 1, 8, Value.nilFunc⟩) := ⟨by kernel_rfl, by kernel_rfl⟩
theorem tg40 : tabGood Tryz.prog (40, ⟨(.struct [(36, 0, 1)]), 1, 24, (Value.agg #[Value.slice none 0 0])⟩) := ⟨by kernel_rfl, by kernel_rfl⟩
theorem tg41 : tabGood Tryz.prog (41, ⟨(.struct [(36, 0, 1)]), 1, 24, (Value.agg #[Value.slice none 0 0])⟩) := ⟨by kernel_rfl, by kernel_rfl⟩
theorem tg42 : tabGood Tryz.prog (42, ⟨(.slice 56), 1, 24, (Value.slice none 0 0)⟩) := ⟨by kernel_rfl, by kernel_rfl⟩
theorem tg43 : tabGood Tryz.prog (43, ⟨(.slice 36), 1, 24, (Value.slice none 0 0)⟩) := ⟨by kernel_rfl, by kernel_rfl⟩
theorem tg44 : tabGood Tryz.prog (44, ⟨(.slice 49), 1, 24, (Value.slice none 0 0)⟩) := ⟨by kernel_rfl, by kernel_rfl⟩
theorem tg45 : tabGood Tryz.prog (45, ⟨(.slice 55), 1, 24, (Value.slice none 0 0)⟩) := ⟨by kernel_rfl, by kernel_rfl⟩
theorem tg46 : tabGood Tryz.prog (46, ⟨(.struct [(41, 0, 1), (3, 1, 1), (22, 2, 1), (42, 3, 1), (43, 4, 1), (36, 5, 1), (44, 6, 1), (45, 7, 1), (3, 8, 1), (4, 9, 1), (4, 10, 1)]), 11, 192, (Value.agg #[Value.slice none 0 0, Value.int IntKind.i64 0, Value.slice none 0 0, Value.slice none 0 0, Value.slice none 0 0, Value.slice none 0 0, Value.slice none 0 0, Value.slice none 0 0, Value.int IntKind.i64 0, Value.bool false, Value.bool false])⟩) := ⟨by kernel_rfl, by kernel_rfl⟩
theorem tg47 : tabGood Tryz.prog (47, ⟨(.struct [(41, 0, 1), (3, 1, 1), (22, 2, 1), (42, 3, 1), (43, 4, 1), (36, 5, 1), (44, 6, 1), (45, 7, 1), (3, 8, 1), (4, 9, 1), (4, 10, 1)]), 11, 192, (Value.agg #[Value.slice none 0 0, Value.int IntKind.i64 0, Value.slice none 0 0, Value.slice none 0 0, Value.slice none 0 0, Value.slice none 0 0, Value.slice none 0 0, Value.slice none 0 0, Value.int IntKind.i64 0, Value.bool false, Value.bool false])⟩) := ⟨by kernel_rfl, by kernel_rfl⟩
theorem tg48 : tabGood Tryz.prog (48, ⟨.other, 1, 8, Value.nilFunc⟩) := ⟨by kernel_rfl, by kernel_rfl⟩
theorem tg49 : tabGood Tryz.prog (49, ⟨(.slice 98), 1, 24, (Value.slice none 0 0)⟩) := ⟨by kernel_rfl, by kernel_rfl⟩
theorem tg50 : tabGood Tryz.prog (50, ⟨.other, 1, 0, (Value.tuple #[Value.agg #[Value.int IntKind.i64 0, Value.slice none 0 0, Value.slice none 0 0], Value.int IntKind.i64 0, Value.bool false])⟩) := ⟨by kernel_rfl, by kernel_rfl⟩
theorem tg51 : tabGood Tryz.prog (51, ⟨.other, 1, 8, Value.nilFunc⟩) := ⟨by kernel_rfl, by kernel_rfl⟩
theorem tg52 : tabGood Tryz.prog (52, ⟨(.struct [(3, 0, 1), (3, 1, 1), (3, 2, 1), (3, 3, 1)]), 4, 32, (Value.agg #[Value.int IntKind.i64 0, Value.int IntKind.i64 0, Value.int IntKind.i64 0, Value.int IntKind.i64 0])⟩) := ⟨by kernel_rfl, by kernel_rfl⟩
theorem tg53 : tabGood Tryz.prog (53, ⟨(.struct [(3, 0, 1), (3, 1, 1), (3, 2, 1), (3, 3, 1)]), 4, 32, (Value.agg #[Value.int IntKind.i64 0, Value.int IntKind.i64 0, Value.int IntKind.i64 0, Value.int IntKind.i64 0])⟩) := ⟨by kernel_rfl, by kernel_rfl⟩
theorem tg54 : tabGood Tryz.prog (54, ⟨(.struct [(3, 0, 1), (53, 1, 4), (3, 5, 1), (4, 6, 1), (3, 7, 1), (3, 8, 1), (3, 9, 1)]), 10, 80, (Value.agg #[Value.int IntKind.i64 0, Value.int IntKind.i64 0, Value.int IntKind.i64 0, Value.int IntKind.i64 0, Value.int IntKind.i64 0, Value.int IntKind.i64 0, Value.bool false, Value.int IntKind.i64 0, Value.int IntKind.i64 0, Value.int IntKind.i64 0])⟩) := ⟨by kernel_rfl, by kernel_rfl⟩
theorem tg55 : tabGood Tryz.prog (55, ⟨(.struct [(3, 0, 1), (53, 1, 4), (3, 5, 1), (4, 6, 1), (3, 7, 1), (3, 8, 1), (3, 9, 1)]), 10, 80, (Value.agg #[Value.int IntKind.i64 0, Value.int IntKind.i64 0, Value.int IntKind.i64 0, Value.int IntKind.i64 0, Value.int IntKind.i64 0, Value.int IntKind.i64 0, Value.bool false, Value.int IntKind.i64 0, Value.int IntKind.i64 0, Value.int IntKind.i64 0])⟩) := ⟨by kernel_rfl, by kernel_rfl⟩
theorem tg56 : tabGood Tryz.prog (56, ⟨(.slice 65), 1, 24, (Value.slice none 0 0)⟩) := ⟨by kernel_rfl, by kernel_rfl⟩
theorem tg57 : tabGood Tryz.prog (57, ⟨(.struct [(3, 0, 1), (3, 1, 1), (3, 2, 1), (3, 3, 1)]), 4, 32, (Value.agg #[Value.int IntKind.i64 0, Value.int IntKind.i64 0, Value.int IntKind.i64 0, Value.int IntKind.i64 0])⟩) := ⟨by kernel_rfl, by kernel_rfl⟩
theorem tg58 : tabGood Tryz.prog (58, ⟨(.struct [(3, 0, 1), (3, 1, 1), (3, 2, 1), (3, 3, 1)]), 4, 32, (Value.agg #[Value.int IntKind.i64 0, Value.int IntKind.i64 0, Value.int IntKind.i64 0, Value.int IntKind.i64 0])⟩) := ⟨by kernel_rfl, by kernel_rfl⟩
theorem tg59 : tabGood Tryz.prog (59, ⟨(.int .i64), 1, 8, (Value.int IntKind.i64 0)⟩) := ⟨by kernel_rfl, by kernel_rfl⟩
theorem tg60 : tabGood Tryz.prog (60, ⟨(.struct [(3, 0, 1), (4, 1, 1), (59, 2, 1), (3, 3, 1), (49, 4, 1)]), 5, 56, (Value.agg #[Value.int IntKind.i64 0, Value.bool false, Value.int IntKind.i64 0, Value.int IntKind.i64 0, Value.slice none 0 0])⟩) := ⟨by kernel_rfl, by kernel_rfl⟩
theorem tg61 : tabGood Tryz.prog (61, ⟨(.struct [(3, 0, 1), (4, 1, 1), (59, 2, 1), (3, 3, 1), (49, 4, 1)]), 5, 56, (Value.agg #[Value.int IntKind.i64 0, Value.bool false, Value.int IntKind.i64 0, Value.int IntKind.i64 0, Value.slice none 0 0])⟩) := ⟨by kernel_rfl, by kernel_rfl⟩
theorem tg62 : tabGood Tryz.prog (62, ⟨.other, 1, 0, (Value.tuple #[Value.agg #[Value.int IntKind.i64 0, Value.int IntKind.i64 0, Value.int IntKind.i64 0, Value.int IntKind.i64 0], Value.agg #[Value.int IntKind.i64 0, Value.bool false, Value.int IntKind.i64 0, Value.int IntKind.i64 0, Value.slice none 0 0], Value.bool false])⟩) := ⟨by kernel_rfl, by kernel_rfl⟩
theorem tg63 : tabGood Tryz.prog (63, ⟨.other, 1, 8, Value.nilFunc⟩) := ⟨by kernel_rfl, by kernel_rfl⟩
theorem tg64 : tabGood Tryz.prog (64, ⟨(.struct [(3, 0, 1), (4, 1, 1)]), 2, 16, (Value.agg #[Value.int IntKind.i64 0, Value.bool false])⟩) := ⟨by kernel_rfl, by kernel_rfl⟩
theorem tg65 : tabGood Tryz.prog (65, ⟨(.struct [(3, 0, 1), (4, 1, 1)]), 2, 16, (Value.agg #[Value.int IntKind.i64 0, Value.bool false])⟩) := ⟨by kernel_rfl, by kernel_rfl⟩
theorem tg66 : tabGood Tryz.prog (66, ⟨.other, 1, 0, (Value.tuple #[Value.agg #[Value.slice none 0 0], Value.agg #[Value.int IntKind.i64 0, Value.bool false], Value.int IntKind.i64 0])⟩) := ⟨by kernel_rfl, by kernel_rfl⟩
theorem tg67 : tabGood Tryz.prog (67, ⟨.other, 1, 8, Value.nilFunc⟩) := ⟨by kernel_rfl, by kernel_rfl⟩
theorem tg68 : tabGood Tryz.prog (68, ⟨.other, 1, 8, Value.nilFunc⟩) := ⟨by kernel_rfl, by kernel_rfl⟩
theorem tg69 : tabGood Tryz.prog (69, ⟨.other, 1, 8, Value.nilFunc⟩) := ⟨by kernel_rfl, by kernel_rfl⟩
theorem tg70 : tabGood Tryz.prog (70, ⟨.other, 1, 8, Value.nilFunc⟩) := ⟨by kernel_rfl, by kernel_rfl⟩
theorem tg71 : tabGood Tryz.prog (71, ⟨.other, 1, 8, Value.nilFunc⟩) := ⟨by kernel_rfl, by kernel_rfl⟩
theorem tg72 : tabGood Tryz.prog (72, ⟨.other, 1, 8, Value.nilFunc⟩) := ⟨by kernel_rfl, by kernel_rfl⟩
theorem tg73 : tabGood Tryz.prog (73, ⟨.other, 1, 8, Value.nilFunc⟩) := ⟨by kernel_rfl, by kernel_rfl⟩
theorem tg74 : tabGood Tryz.prog (74, ⟨.other, 1, 0, (Value.tuple #[Value.agg #[Value.int IntKind.i64 0, Value.int IntKind.i64 0, Value.int IntKind.i64 0, Value.int IntKind.i64 0, Value.int IntKind.i64 0, Value.int IntKind.i64 0, Value.int IntKind.i64 0, Value.int IntKind.i64 0, Value.int IntKind.i64 0, Value.int IntKind.i64 0, Value.int IntKind.i64 0, Value.int IntKind.i64 0, Value.int IntKind.i64 0, Value.int IntKind.i64 0, Value.int IntKind.i64 0, Value.int IntKind.i64 0, Value.int IntKind.i64 0, Value.int IntKind.i64 0, Value.int IntKind.i64 0, Value.int IntKind.i64 0, Value.int IntKind.i64 0, Value.int IntKind.i64 0, Value.int IntKind.i64 0, Value.int IntKind.i64 0, Value.int IntKind.i64 0], Value.int IntKind.i64 0])⟩) := ⟨by kernel_rfl, by kernel_rfl⟩
theorem tg75 : tabGood Tryz.prog (75, ⟨.other, 1, 8, Value.nilFunc⟩) := ⟨by kernel_rfl, by kernel_rfl⟩
theorem tg76 : tabGood Tryz.prog (76, ⟨.other, 1, 8, Value.nilFunc⟩) := ⟨by kernel_rfl, by kernel_rfl⟩
theorem tg77 : tabGood Tryz.prog (77, ⟨.other, 1, 0, (Value.tuple #[Value.agg #[Value.slice none 0 0], Value.slice none 0 0, Value.int IntKind.i64 0])⟩) := ⟨by kernel_rfl, by kernel_rfl⟩
theorem tg78 : tabGood Tryz.prog (78, ⟨.other, 1, 8, Value.nilFunc⟩) := ⟨by kernel_rfl, by kernel_rfl⟩
theorem tg79 : tabGood Tryz.prog (79, ⟨.other, 1, 8, Value.nilFunc⟩) := ⟨by kernel_rfl, by kernel_rfl⟩
theorem tg80 : tabGood Tryz.prog (80, ⟨(.slice 58), 1, 24, (Value.slice none 0 0)⟩) := ⟨by kernel_rfl, by kernel_rfl⟩
theorem tg81 : tabGood Tryz.prog (81, ⟨.other, 1, 8, Value.nilFunc⟩) := ⟨by kernel_rfl, by kernel_rfl⟩
theorem tg82 : tabGood Tryz.prog (82, ⟨.other, 1, 8, Value.nilFunc⟩) := ⟨by kernel_rfl, by kernel_rfl⟩
theorem tg83 : tabGood Tryz.prog (83, ⟨.other, 1, 8, Value.nilFunc⟩) := ⟨by kernel_rfl, by kernel_rfl⟩
theorem tg84 : tabGood Tryz.prog (84, ⟨.other, 1, 8, Value.nilFunc⟩) := ⟨by kernel_rfl, by kernel_rfl⟩
theorem tg85 : tabGood Tryz.prog (85, ⟨.other, 1, 8, Value.nilFunc⟩) := ⟨by kernel_rfl, by kernel_rfl⟩
theorem tg86 : tabGood Tryz.prog (86, ⟨.other, 1, 8, Value.nilFunc⟩) := ⟨by kernel_rfl, by kernel_rfl⟩
theorem tg87 : tabGood Tryz.prog (87, ⟨.other, 1, 8, Value.nilFunc⟩) := ⟨by kernel_rfl, by kernel_rfl⟩
theorem tg88 : tabGood Tryz.prog (88, ⟨.other, 1, 8, (Value.pointer none)⟩) := ⟨by kernel_rfl, by kernel_rfl⟩
theorem tg89 : tabGood Tryz.prog (89, ⟨.other, 1, 8, Value.nilFunc⟩) := ⟨by kernel_rfl, by kernel_rfl⟩
theorem tg90 : tabGood Tryz.prog (90, ⟨.other, 1, 8, Value.nilFunc⟩) := ⟨by kernel_rfl, by kernel_rfl⟩
theorem tg91 : tabGood Tryz.prog (91, ⟨.other, 1, 8, Value.nilFunc⟩) := ⟨by kernel_rfl, by kernel_rfl⟩
theorem tg92 : tabGood Tryz.prog (92, ⟨.other, 1, 8, Value.nilFunc⟩) := ⟨by kernel_rfl, by kernel_rfl⟩
theorem tg93 : tabGood Tryz.prog (93, ⟨.other, 1, 8, Value.nilFunc⟩) := ⟨by kernel_rfl, by kernel_rfl⟩
theorem tg94 : tabGood Tryz.prog (94, ⟨.other, 1, 8, Value.nilFunc⟩) := ⟨by kernel_rfl, by kernel_rfl⟩
theorem tg95 : tabGood Tryz.prog (95, ⟨.other, 1, 8, Value.nilFunc⟩) := ⟨by kernel_rfl, by kernel_rfl⟩
theorem tg96 : tabGood Tryz.prog (96, ⟨.other, 1, 8, Value.nilFunc⟩) := ⟨by kernel_rfl, by kernel_rfl⟩
theorem tg97 : tabGood Tryz.prog (97, ⟨.other, 1, 8, Value.nilFunc⟩) := ⟨by kernel_rfl, by kernel_rfl⟩
theorem tg98 : tabGood Tryz.prog (98, ⟨(.array 2 3), 2, 16, (Value.agg #[Value.int IntKind.i64 0, Value.int IntKind.i64 0])⟩) := ⟨by kernel_rfl, by kernel_rfl⟩
theorem tg99 : tabGood Tryz.prog (99, ⟨.other, 1, 8, (Value.pointer none)⟩) := ⟨by kernel_rfl, by kernel_rfl⟩
theorem tg100 : tabGood Tryz.prog (100, ⟨.other, 1, 8, Value.nilFunc⟩) := ⟨by kernel_rfl, by kernel_rfl⟩
theorem tg101 : tabGood Tryz.prog (101, ⟨.other, 1, 8, Value.nilFunc⟩) := ⟨by kernel_rfl, by kernel_rfl⟩
theorem tg102 : tabGood Tryz.prog (102, ⟨.other, 1, 8, Value.nilFunc⟩) := ⟨by kernel_rfl, by kernel_rfl⟩
theorem tg103 : tabGood Tryz.prog (103, ⟨.other, 1, 8, Value.nilFunc⟩) := ⟨by kernel_rfl, by kernel_rfl⟩
theorem tg104 : tabGood Tryz.prog (104, ⟨.other, 1, 8, Value.nilFunc⟩) := ⟨by kernel_rfl, by kernel_rfl⟩
theorem tg105 : tabGood Tryz.prog (105, ⟨.other, 1, 8, Value.nilFunc⟩) := ⟨by kernel_rfl, by kernel_rfl⟩
theorem tg106 : tabGood Tryz.prog (106, ⟨.other, 1, 8, Value.nilFunc⟩) := ⟨by kernel_rfl, by kernel_rfl⟩
theorem tg107 : tabGood Tryz.prog (107, ⟨.other, 1, 8, Value.nilFunc⟩) := ⟨by kernel_rfl, by kernel_rfl⟩
theorem tg108 : tabGood Tryz.prog (108, ⟨.other, 1, 8, Value.nilFunc⟩) := ⟨by kernel_rfl, by kernel_rfl⟩
theorem tg109 : tabGood Tryz.prog (109, ⟨.other, 1, 8, Value.nilFunc⟩) := ⟨by kernel_rfl, by kernel_rfl⟩
theorem tg110 : tabGood Tryz.prog (110, ⟨(.array 3 3), 3, 24, (Value.agg #[Value.int IntKind.i64 0, Value.int IntKind.i64 0, Value.int IntKind.i64 0])⟩) := ⟨by kernel_rfl, by kernel_rfl⟩
theorem tg111 : tabGood Tryz.prog (111, ⟨.other, 1, 8, Value.nilFunc⟩) := ⟨by kernel_rfl, by kernel_rfl⟩
theorem tg112 : tabGood Tryz.prog (112, ⟨(.struct [(32, 0, 25), (3, 25, 1), (49, 26, 1), (3, 27, 1), (110, 28, 3), (111, 31, 1)]), 32, 272, (Value.agg #[Value.int IntKind.i64 0, Value.int IntKind.i64 0, Value.int IntKind.i64 0, Value.int IntKind.i64 0, Value.int IntKind.i64 0, Value.int IntKind.i64 0, Value.int IntKind.i64 0, Value.int IntKind.i64 0, Value.int IntKind.i64 0, Value.int IntKind.i64 0, Value.int IntKind.i64 0, Value.int IntKind.i64 0, Value.int IntKind.i64 0, Value.int IntKind.i64 0, Value.int IntKind.i64 0, Value.int IntKind.i64 0, Value.int IntKind.i64 0, Value.int IntKind.i64 0, Value.int IntKind.i64 0, Value.int IntKind.i64 0, Value.int IntKind.i64 0, Value.int IntKind.i64 0, Value.int IntKind.i64 0, Value.int IntKind.i64 0, Value.int IntKind.i64 0, Value.int IntKind.i64 0, Value.slice none 0 0, Value.int IntKind.i64 0, Value.int IntKind.i64 0, Value.int IntKind.i64 0, Value.int IntKind.i64 0, Value.nilFunc])⟩) := ⟨by kernel_rfl, by kernel_rfl⟩
theorem tg113 : tabGood Tryz.prog (113, ⟨(.struct [(32, 0, 25), (3, 25, 1), (49, 26, 1), (3, 27, 1), (110, 28, 3), (111, 31, 1)]), 32, 272, (Value.agg #[Value.int IntKind.i64 0, Value.int IntKind.i64 0, Value.int IntKind.i64 0, Value.int IntKind.i64 0, Value.int IntKind.i64 0, Value.int IntKind.i64 0, Value.int IntKind.i64 0, Value.int IntKind.i64 0, Value.int IntKind.i64 0, Value.int IntKind.i64 0, Value.int IntKind.i64 0, Value.int IntKind.i64 0, Value.int IntKind.i64 0, Value.int IntKind.i64 0, Value.int IntKind.i64 0, Value.int IntKind.i64 0, Value.int IntKind.i64 0, Value.int IntKind.i64 0, Value.int IntKind.i64 0, Value.int IntKind.i64 0, Value.int IntKind.i64 0, Value.int IntKind.i64 0, Value.int IntKind.i64 0, Value.int IntKind.i64 0, Value.int IntKind.i64 0, Value.int IntKind.i64 0, Value.slice none 0 0, Value.int IntKind.i64 0, Value.int IntKind.i64 0, Value.int IntKind.i64 0, Value.int IntKind.i64 0, Value.nilFunc])⟩) := ⟨by kernel_rfl, by kernel_rfl⟩
theorem tg114 : tabGood Tryz.prog (114, ⟨(.struct [(58, 0, 4)]), 4, 32, (Value.agg #[Value.int IntKind.i64 0, Value.int IntKind.i64 0, Value.int IntKind.i64 0, Value.int IntKind.i64 0])⟩) := ⟨by kernel_rfl, by kernel_rfl⟩
theorem tg115 : tabGood Tryz.prog (115, ⟨(.struct [(58, 0, 4)]), 4, 32, (Value.agg #[Value.int IntKind.i64 0, Value.int IntKind.i64 0, Value.int IntKind.i64 0, Value.int IntKind.i64 0])⟩) := ⟨by kernel_rfl, by kernel_rfl⟩
theorem tg116 : tabGood Tryz.prog (116, ⟨.other, 1, 0, (Value.tuple #[Value.int IntKind.i64 0, Value.int IntKind.i64 0, Value.bool false])⟩) := ⟨by kernel_rfl, by kernel_rfl⟩
theorem tg117 : tabGood Tryz.prog (117, ⟨.other, 1, 8, Value.nilFunc⟩) := ⟨by kernel_rfl, by kernel_rfl⟩
theorem tg118 : tabGood Tryz.prog (118, ⟨.other, 1, 8, Value.nilFunc⟩) := ⟨by kernel_rfl, by kernel_rfl⟩
theorem tg119 : tabGood Tryz.prog (119, ⟨.other, 1, 8, Value.nilFunc⟩) := ⟨by kernel_rfl, by kernel_rfl⟩
theorem tg120 : tabGood Tryz.prog (120, ⟨(.struct [(3, 0, 1), (4, 1, 1), (3, 2, 1)]), 3, 24, (Value.agg #[Value.int IntKind.i64 0, Value.bool false, Value.int IntKind.i64 0])⟩) := ⟨by kernel_rfl, by kernel_rfl⟩
theorem tg121 : tabGood Tryz.prog (121, ⟨(.struct [(3, 0, 1), (4, 1, 1), (3, 2, 1)]), 3, 24, (Value.agg #[Value.int IntKind.i64 0, Value.bool false, Value.int IntKind.i64 0])⟩) := ⟨by kernel_rfl, by kernel_rfl⟩
theorem tg122 : tabGood Tryz.prog (122, ⟨.other, 1, 8, Value.nilFunc⟩) := ⟨by kernel_rfl, by kernel_rfl⟩
theorem tg123 : tabGood Tryz.prog (123, ⟨.other, 1, 8, Value.nilFunc⟩) := ⟨by kernel_rfl, by kernel_rfl⟩
theorem tg124 : tabGood Tryz.prog (124, ⟨.other, 1, 8, Value.nilFunc⟩) := ⟨by kernel_rfl, by kernel_rfl⟩
theorem tg125 : tabGood Tryz.prog (125, ⟨.other, 1, 8, Value.nilFunc⟩) := ⟨by kernel_rfl, by kernel_rfl⟩
theorem tg126 : tabGood Tryz.prog (126, ⟨.other, 1, 0, (Value.tuple #[Value.int IntKind.i64 0, Value.int IntKind.i64 0])⟩) := ⟨by kernel_rfl, by kernel_rfl⟩
theorem tg127 : tabGood Tryz.prog (127, ⟨.other, 1, 8, Value.nilFunc⟩) := ⟨by kernel_rfl, by kernel_rfl⟩
theorem tg128 : tabGood Tryz.prog (128, ⟨.other, 1, 8, Value.nilFunc⟩) := ⟨by kernel_rfl, by kernel_rfl⟩
theorem tg129 : tabGood Tryz.prog (129, ⟨.other, 1, 8, Value.nilFunc⟩) := ⟨by kernel_rfl, by kernel_rfl⟩
theorem tg130 : tabGood Tryz.prog (130, ⟨.other, 1, 8, (Value.map none)⟩) := ⟨by kernel_rfl, by kernel_rfl⟩
theorem tg131 : tabGood Tryz.prog (131, ⟨(.struct [(32, 0, 25), (3, 25, 1), (49, 26, 1), (3, 27, 1), (110, 28, 3), (111, 31, 1)]), 32, 272, (Value.agg #[Value.int IntKind.i64 0, Value.int IntKind.i64 0, Value.int IntKind.i64 0, Value.int IntKind.i64 0, Value.int IntKind.i64 0, Value.int IntKind.i64 0, Value.int IntKind.i64 0, Value.int IntKind.i64 0, Value.int IntKind.i64 0, Value.int IntKind.i64 0, Value.int IntKind.i64 0, Value.int IntKind.i64 0, Value.int IntKind.i64 0, Value.int IntKind.i64 0, Value.int IntKind.i64 0, Value.int IntKind.i64 0, Value.int IntKind.i64 0, Value.int IntKind.i64 0, Value.int IntKind.i64 0, Value.int IntKind.i64 0, Value.int IntKind.i64 0, Value.int IntKind.i64 0, Value.int IntKind.i64 0, Value.int IntKind.i64 0, Value.int IntKind.i64 0, Value.int IntKind.i64 0, Value.slice none 0 0, Value.int IntKind.i64 0, Value.int IntKind.i64 0, Value.int IntKind.i64 0, Value.int IntKind.i64 0, Value.nilFunc])⟩) := ⟨by kernel_rfl, by kernel_rfl⟩
theorem tg132 : tabGood Tryz.prog (132, ⟨(.struct [(32, 0, 25), (3, 25, 1), (49, 26, 1), (3, 27, 1), (110, 28, 3), (111, 31, 1)]), 32, 272, (Value.agg #[Value.int IntKind.i64 0, Value.int IntKind.i64 0, Value.int IntKind.i64 0, Value.int IntKind.i64 0, Value.int IntKind.i64 0, Value.int IntKind.i64 0, Value.int IntKind.i64 0, Value.int IntKind.i64 0, Value.int IntKind.i64 0, Value.int IntKind.i64 0, Value.int IntKind.i64 0, Value.int IntKind.i64 0, Value.int IntKind.i64 0, Value.int IntKind.i64 0, Value.int IntKind.i64 0, Value.int IntKind.i64 0, Value.int IntKind.i64 0, Value.int IntKind.i64 0, Value.int IntKind.i64 0, Value.int IntKind.i64 0, Value.int IntKind.i64 0, Value.int IntKind.i64 0, Value.int IntKind.i64 0, Value.int IntKind.i64 0, Value.int IntKind.i64 0, Value.int IntKind.i64 0, Value.slice none 0 0, Value.int IntKind.i64 0, Value.int IntKind.i64 0, Value.int IntKind.i64 0, Value.int IntKind.i64 0, Value.nilFunc])⟩) := ⟨by kernel_rfl, by kernel_rfl⟩
theorem tg133 : tabGood Tryz.prog (133, ⟨(.struct [(58, 0, 4)]), 4, 32, (Value.agg #[Value.int IntKind.i64 0, Value.int IntKind.i64 0, Value.int IntKind.i64 0, Value.int IntKind.i64 0])⟩) := ⟨by kernel_rfl, by kernel_rfl⟩
theorem tg134 : tabGood Tryz.prog (134, ⟨(.struct [(58, 0, 4)]), 4, 32, (Value.agg #[Value.int IntKind.i64 0, Value.int IntKind.i64 0, Value.int IntKind.i64 0, Value.int IntKind.i64 0])⟩) := ⟨by kernel_rfl, by kernel_rfl⟩
theorem tg135 : tabGood Tryz.prog (135, ⟨.other, 1, 8, Value.nilFunc⟩) := ⟨by kernel_rfl, by kernel_rfl⟩
theorem tg136 : tabGood Tryz.prog (136, ⟨.other, 1, 0, (Value.tuple #[Value.int IntKind.i64 0, Value.int IntKind.i64 0, Value.int IntKind.i64 0])⟩) := ⟨by kernel_rfl, by kernel_rfl⟩
theorem tg137 : tabGood Tryz.prog (137, ⟨.other, 1, 8, Value.nilFunc⟩) := ⟨by kernel_rfl, by kernel_rfl⟩
theorem tg138 : tabGood Tryz.prog (138, ⟨.other, 1, 8, Value.nilFunc⟩) := ⟨by kernel_rfl, by kernel_rfl⟩
theorem tg139 : tabGood Tryz.prog (139, ⟨.other, 1, 8, Value.nilFunc⟩) := ⟨by kernel_rfl, by kernel_rfl⟩
theorem tg140 : tabGood Tryz.prog (140, ⟨.other, 1, 8, Value.nilFunc⟩) := ⟨by kernel_rfl, by kernel_rfl⟩
theorem tg141 : tabGood Tryz.prog (141, ⟨.other, 1, 8, Value.nilFunc⟩) := ⟨by kernel_rfl, by kernel_rfl⟩
theorem tg142 : tabGood Tryz.prog (142, ⟨(.int .u64), 1, 8, (Value.int IntKind.u64 0)⟩) := ⟨by kernel_rfl, by kernel_rfl⟩
theorem tg143 : tabGood Tryz.prog (143, ⟨.other, 1, 8, Value.nilFunc⟩) := ⟨by kernel_rfl, by kernel_rfl⟩
theorem tg144 : tabGood Tryz.prog (144, ⟨(.struct [(3, 0, 1), (3, 1, 1)]), 2, 16, (Value.agg #[Value.int IntKind.i64 0, Value.int IntKind.i64 0])⟩) := ⟨by kernel_rfl, by kernel_rfl⟩
theorem tg145 : tabGood Tryz.prog (145, ⟨(.struct [(3, 0, 1), (3, 1, 1)]), 2, 16, (Value.agg #[Value.int IntKind.i64 0, Value.int IntKind.i64 0])⟩) := ⟨by kernel_rfl, by kernel_rfl⟩
theorem tg146 : tabGood Tryz.prog (146, ⟨.other, 1, 8, Value.nilFunc⟩) := ⟨by kernel_rfl, by kernel_rfl⟩
theorem tg147 : tabGood Tryz.prog (147, ⟨.other, 1, 8, Value.nilFunc⟩) := ⟨by kernel_rfl, by kernel_rfl⟩
theorem tg148 : tabGood Tryz.prog (148, ⟨(.slice 145), 1, 24, (Value.slice none 0 0)⟩) := ⟨by kernel_rfl, by kernel_rfl⟩
theorem tg149 : tabGood Tryz.prog (149, ⟨.other, 1, 8, Value.nilFunc⟩) := ⟨by kernel_rfl, by kernel_rfl⟩
theorem tg150 : tabGood Tryz.prog (150, ⟨.other, 1, 8, Value.nilFunc⟩) := ⟨by kernel_rfl, by kernel_rfl⟩
theorem tg151 : tabGood Tryz.prog (151, ⟨(.struct [(17, 0, 1), (17, 1, 1), (17, 2, 1), (9, 3, 1)]), 4, 40, (Value.agg #[Value.pointer none, Value.pointer none, Value.pointer none, Value.string { data := #[] }])⟩) := ⟨by kernel_rfl, by kernel_rfl⟩
theorem tg152 : tabGood Tryz.prog (152, ⟨(.struct [(17, 0, 1), (17, 1, 1), (17, 2, 1), (9, 3, 1)]), 4, 40, (Value.agg #[Value.pointer none, Value.pointer none, Value.pointer none, Value.string { data := #[] }])⟩) := ⟨by kernel_rfl, by kernel_rfl⟩
theorem tg153 : tabGood Tryz.prog (153, ⟨(.array 0 16), 0, 0, (Value.agg #[])⟩) := ⟨by kernel_rfl, by kernel_rfl⟩
theorem tg154 : tabGood Tryz.prog (154, ⟨(.struct [(153, 0, 0)]), 0, 0, (Value.agg #[])⟩) := ⟨by kernel_rfl, by kernel_rfl⟩
theorem tg155 : tabGood Tryz.prog (155, ⟨(.struct [(153, 0, 0)]), 0, 0, (Value.agg #[])⟩) := ⟨by kernel_rfl, by kernel_rfl⟩
theorem tg156 : tabGood Tryz.prog (156, ⟨(.int .u32), 1, 4, (Value.int IntKind.u32 0)⟩) := ⟨by kernel_rfl, by kernel_rfl⟩
theorem tg157 : tabGood Tryz.prog (157, ⟨(.int .u8), 1, 1, (Value.int IntKind.u8 0)⟩) := ⟨by kernel_rfl, by kernel_rfl⟩
theorem tg158 : tabGood Tryz.prog (158, ⟨(.int .u8), 1, 1, (Value.int IntKind.u8 0)⟩) := ⟨by kernel_rfl, by kernel_rfl⟩
theorem tg159 : tabGood Tryz.prog (159, ⟨.other, 1, 8, Value.nilFunc⟩) := ⟨by kernel_rfl, by kernel_rfl⟩
theorem tg160 : tabGood Tryz.prog (160, ⟨.other, 1, 8, (Value.pointer none)⟩) := ⟨by kernel_rfl, by kernel_rfl⟩
theorem tg161 : tabGood Tryz.prog (161, ⟨(.int .i32), 1, 4, (Value.int IntKind.i32 0)⟩) := ⟨by kernel_rfl, by kernel_rfl⟩
theorem tg162 : tabGood Tryz.prog (162, ⟨(.int .i32), 1, 4, (Value.int IntKind.i32 0)⟩) := ⟨by kernel_rfl, by kernel_rfl⟩
theorem tg163 : tabGood Tryz.prog (163, ⟨(.struct [(12, 0, 1), (12, 1, 1), (156, 2, 1), (157, 3, 1), (5, 4, 1), (5, 5, 1), (158, 6, 1), (159, 7, 1), (160, 8, 1), (161, 9, 1), (162, 10, 1)]), 11, 48, (Value.agg #[Value.int IntKind.u64 0, Value.int IntKind.u64 0, Value.int IntKind.u32 0, Value.int IntKind.u8 0, Value.int IntKind.u8 0, Value.int IntKind.u8 0, Value.int IntKind.u8 0, Value.nilFunc, Value.pointer none, Value.int IntKind.i32 0, Value.int IntKind.i32 0])⟩) := ⟨by kernel_rfl, by kernel_rfl⟩
theorem tg164 : tabGood Tryz.prog (164, ⟨(.struct [(12, 0, 1), (12, 1, 1), (156, 2, 1), (157, 3, 1), (5, 4, 1), (5, 5, 1), (158, 6, 1), (159, 7, 1), (160, 8, 1), (161, 9, 1), (162, 10, 1)]), 11, 48, (Value.agg #[Value.int IntKind.u64 0, Value.int IntKind.u64 0, Value.int IntKind.u32 0, Value.int IntKind.u8 0, Value.int IntKind.u8 0, Value.int IntKind.u8 0, Value.int IntKind.u8 0, Value.nilFunc, Value.pointer none, Value.int IntKind.i32 0, Value.int IntKind.i32 0])⟩) := ⟨by kernel_rfl, by kernel_rfl⟩
theorem tg165 : tabGood Tryz.prog (165, ⟨.other, 1, 8, (Value.pointer none)⟩) := ⟨by kernel_rfl, by kernel_rfl⟩
theorem tabOk : TabOk Tryz.prog tb := tab_of fun p hp => by
  simp only [tab, List.mem_cons, List.not_mem_nil, or_false] at hp
  rcases hp with rfl | rfl | rfl | rfl | rfl | rfl | rfl | rfl | rfl | rfl | rfl | rfl | rfl | rfl | rfl | rfl | rfl | rfl | rfl | rfl | rfl | rfl | rfl | rfl | rfl | rfl | rfl | rfl | rfl | rfl | rfl | rfl | rfl | rfl | rfl | rfl | rfl | rfl | rfl | rfl | rfl | rfl | rfl | rfl | rfl | rfl | rfl | rfl | rfl | rfl | rfl | rfl | rfl | rfl | rfl | rfl | rfl | rfl | rfl | rfl | rfl | rfl | rfl | rfl | rfl | rfl | rfl | rfl | rfl | rfl | rfl | rfl | rfl | rfl | rfl | rfl | rfl | rfl | rfl | rfl | rfl | rfl | rfl | rfl | rfl | rfl | rfl | rfl | rfl | rfl | rfl | rfl | rfl | rfl | rfl | rfl | rfl | rfl | rfl | rfl | rfl | rfl | rfl | rfl | rfl | rfl | rfl | rfl | rfl | rfl | rfl | rfl | rfl | rfl | rfl | rfl | rfl | rfl | rfl | rfl | rfl | rfl | rfl | rfl | rfl | rfl | rfl | rfl | rfl | rfl | rfl | rfl | rfl | rfl | rfl | rfl | rfl | rfl | rfl | rfl | rfl | rfl | rfl | rfl | rfl | rfl | rfl | rfl | rfl | rfl | rfl | rfl | rfl | rfl | rfl | rfl | rfl | rfl | rfl | rfl | rfl | rfl | rfl | rfl | rfl | rfl
  · exact tg0
  · exact tg1
  · exact tg2
  · exact tg3
  · exact tg4
  · exact tg5
  · exact tg6
  · exact tg7
  · exact tg8
  · exact tg9
  · exact tg10
  · exact tg11
  · exact tg12
  · exact tg13
  · exact tg14
  · exact tg15
  · exact tg16
  · exact tg17
  · exact tg18
  · exact tg19
  · exact tg20
  · exact tg21
  · exact tg22
  · exact tg23
  · exact tg24
  · exact tg25
  · exact tg26
  · exact tg27
  · exact tg28
  · exact tg29
  · exact tg30
  · exact tg31
  · exact tg32
  · exact tg33
  · exact tg34
  · exact tg35
  · exact tg36
  · exact tg37
  · exact tg38
  · exact tg39
  · exact tg40
  · exact tg41
  · exact tg42
  · exact tg43
  · exact tg44
  · exact tg45
  · exact tg46
  · exact tg47
  · exact tg48
  · exact tg49
  · exact tg50
  · exact tg51
  · exact tg52
  · exact tg53
  · exact tg54
  · exact tg55
  · exact tg56
  · exact tg57
  · exact tg58
  · exact tg59
  · exact tg60
  · exact tg61
  · exact tg62
  · exact tg63
  · exact tg64
  · exact tg65
  · exact tg66
  · exact tg67
  · exact tg68
  · exact tg69
  · exact tg70
  · exact tg71
  · exact tg72
  · exact tg73
  · exact tg74
  · exact tg75
  · exact tg76
  · exact tg77
  · exact tg78
  · exact tg79
  · exact tg80
  · exact tg81
  · exact tg82
  · exact tg83
  · exact tg84
  · exact tg85
  · exact tg86
  · exact tg87
  · exact tg88
  · exact tg89
  · exact tg90
  · exact tg91
  · exact tg92
  · exact tg93
  · exact tg94
  · exact tg95
  · exact tg96
  · exact tg97
  · exact tg98
  · exact tg99
  · exact tg100
  · exact tg101
  · exact tg102
  · exact tg103
  · exact tg104
  · exact tg105
  · exact tg106
  · exact tg107
  · exact tg108
  · exact tg109
  · exact tg110
  · exact tg111
  · exact tg112
  · exact tg113
  · exact tg114
  · exact tg115
  · exact tg116
  · exact tg117
  · exact tg118
  · exact tg119
  · exact tg120
  · exact tg121
  · exact tg122
  · exact tg123
  · exact tg124
  · exact tg125
  · exact tg126
  · exact tg127
  · exact tg128
  · exact tg129
  · exact tg130
  · exact tg131
  · exact tg132
  · exact tg133
  · exact tg134
  · exact tg135
  · exact tg136
  · exact tg137
  · exact tg138
  · exact tg139
  · exact tg140
  · exact tg141
  · exact tg142
  · exact tg143
  · exact tg144
  · exact tg145
  · exact tg146
  · exact tg147
  · exact tg148
  · exact tg149
  · exact tg150
  · exact tg151
  · exact tg152
  · exact tg153
  · exact tg154
  · exact tg155
  · exact tg156
  · exact tg157
  · exact tg158
  · exact tg159
  · exact tg160
  · exact tg161
  · exact tg162
  · exact tg163
  · exact tg164
  · exact tg165
end Go.Proofs.YtdmnjoidfjidbaaGreat
