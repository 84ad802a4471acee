/- The program's types: kind, cells, bytes, zero value. -/
import Derived.Test.YtdmnjoidfjidbaaRows
import Derived.Test.YtdmnjoidfjidbaaLib2
namespace Go.Proofs.Ytdmnjoidfjidbaa
open Go.RowKit

def tab : List (Nat × TI) := [
  (0, ⟨.other, 1, 0, (Value.tuple #[])⟩),
  (1, ⟨.other, 1, 8, Value.nilFunc⟩),
  (2, ⟨(.int .i64), 1, 8, (Value.int IntKind.i64 0)⟩),
  (3, ⟨(.int .i64), 1, 8, (Value.int IntKind.i64 0)⟩),
  (4, ⟨.bool, 1, 1, (Value.bool false)⟩),
  (5, ⟨(.int .u8), 1, 1, (Value.int IntKind.u8 0)⟩),
  (6, ⟨(.int .u8), 1, 1, (Value.int IntKind.u8 0)⟩),
  (7, ⟨(.struct [(2, 0, 1), (3, 1, 1), (4, 2, 1), (6, 3, 1)]), 4, 24, (Value.agg #[Value.int IntKind.i64 0, Value.int IntKind.i64 0, Value.bool false, Value.int IntKind.u8 0])⟩),
  (8, ⟨(.struct [(2, 0, 1), (3, 1, 1), (4, 2, 1), (6, 3, 1)]), 4, 24, (Value.agg #[Value.int IntKind.i64 0, Value.int IntKind.i64 0, Value.bool false, Value.int IntKind.u8 0])⟩),
  (9, ⟨.str, 1, 16, (Value.string { data := #[] })⟩),
  (10, ⟨.str, 1, 16, (Value.string { data := #[] })⟩),
  (11, ⟨.str, 1, 16, (Value.string { data := #[] })⟩),
  (12, ⟨(.int .u64), 1, 8, (Value.int IntKind.u64 0)⟩),
  (13, ⟨(.struct [(9, 0, 1), (12, 1, 1)]), 2, 24, (Value.agg #[Value.string { data := #[] }, Value.int IntKind.u64 0])⟩),
  (14, ⟨(.struct [(9, 0, 1), (12, 1, 1)]), 2, 24, (Value.agg #[Value.string { data := #[] }, Value.int IntKind.u64 0])⟩),
  (15, ⟨.other, 1, 8, (Value.pointer none)⟩),
  (16, ⟨.other, 1, 8, (Value.pointer none)⟩),
  (17, ⟨.other, 1, 8, (Value.pointer none)⟩),
  (18, ⟨(.struct [(17, 0, 1)]), 1, 8, (Value.agg #[Value.pointer none])⟩),
  (19, ⟨(.struct [(17, 0, 1)]), 1, 8, (Value.agg #[Value.pointer none])⟩),
  (20, ⟨.other, 1, 16, Value.nilIface⟩),
  (21, ⟨(.int .i32), 1, 4, (Value.int IntKind.i32 0)⟩),
  (22, ⟨(.slice 38), 1, 24, (Value.slice none 0 0)⟩),
  (23, ⟨(.slice 5), 1, 24, (Value.slice none 0 0)⟩),
  (24, ⟨(.struct [(22, 0, 1), (23, 1, 1)]), 2, 48, (Value.agg #[Value.slice none 0 0, Value.slice none 0 0])⟩),
  (25, ⟨(.struct [(22, 0, 1), (23, 1, 1)]), 2, 48, (Value.agg #[Value.slice none 0 0, Value.slice none 0 0])⟩),
  (26, ⟨.other, 1, 8, Value.nilFunc⟩),
  (27, ⟨.other, 1, 8, Value.nilFunc⟩),
  (28, ⟨.other, 1, 8, (Value.pointer none)⟩),
  (29, ⟨.other, 1, 8, Value.nilFunc⟩),
  (30, ⟨(.struct [(3, 0, 1), (3, 1, 1), (3, 2, 1), (3, 3, 1), (3, 4, 1), (3, 5, 1), (3, 6, 1), (3, 7, 1), (3, 8, 1)]), 9, 72, (Value.agg #[Value.int IntKind.i64 0, Value.int IntKind.i64 0, Value.int IntKind.i64 0, Value.int IntKind.i64 0, Value.int IntKind.i64 0, Value.int IntKind.i64 0, Value.int IntKind.i64 0, Value.int IntKind.i64 0, Value.int IntKind.i64 0])⟩),
  (31, ⟨(.struct [(3, 0, 1), (3, 1, 1), (3, 2, 1), (3, 3, 1), (3, 4, 1), (3, 5, 1), (3, 6, 1), (3, 7, 1), (3, 8, 1)]), 9, 72, (Value.agg #[Value.int IntKind.i64 0, Value.int IntKind.i64 0, Value.int IntKind.i64 0, Value.int IntKind.i64 0, Value.int IntKind.i64 0, Value.int IntKind.i64 0, Value.int IntKind.i64 0, Value.int IntKind.i64 0, Value.int IntKind.i64 0])⟩),
  (32, ⟨(.struct [(31, 0, 9), (3, 9, 1), (3, 10, 1), (3, 11, 1), (3, 12, 1), (3, 13, 1), (3, 14, 1), (3, 15, 1), (3, 16, 1), (3, 17, 1), (3, 18, 1), (3, 19, 1), (3, 20, 1), (3, 21, 1), (3, 22, 1), (3, 23, 1), (3, 24, 1)]), 25, 200, (Value.agg #[Value.int IntKind.i64 0, Value.int IntKind.i64 0, Value.int IntKind.i64 0, Value.int IntKind.i64 0, Value.int IntKind.i64 0, Value.int IntKind.i64 0, Value.int IntKind.i64 0, Value.int IntKind.i64 0, Value.int IntKind.i64 0, Value.int IntKind.i64 0, Value.int IntKind.i64 0, Value.int IntKind.i64 0, Value.int IntKind.i64 0, Value.int IntKind.i64 0, Value.int IntKind.i64 0, Value.int IntKind.i64 0, Value.int IntKind.i64 0, Value.int IntKind.i64 0, Value.int IntKind.i64 0, Value.int IntKind.i64 0, Value.int IntKind.i64 0, Value.int IntKind.i64 0, Value.int IntKind.i64 0, Value.int IntKind.i64 0, Value.int IntKind.i64 0])⟩),
  (33, ⟨(.struct [(31, 0, 9), (3, 9, 1), (3, 10, 1), (3, 11, 1), (3, 12, 1), (3, 13, 1), (3, 14, 1), (3, 15, 1), (3, 16, 1), (3, 17, 1), (3, 18, 1), (3, 19, 1), (3, 20, 1), (3, 21, 1), (3, 22, 1), (3, 23, 1), (3, 24, 1)]), 25, 200, (Value.agg #[Value.int IntKind.i64 0, Value.int IntKind.i64 0, Value.int IntKind.i64 0, Value.int IntKind.i64 0, Value.int IntKind.i64 0, Value.int IntKind.i64 0, Value.int IntKind.i64 0, Value.int IntKind.i64 0, Value.int IntKind.i64 0, Value.int IntKind.i64 0, Value.int IntKind.i64 0, Value.int IntKind.i64 0, Value.int IntKind.i64 0, Value.int IntKind.i64 0, Value.int IntKind.i64 0, Value.int IntKind.i64 0, Value.int IntKind.i64 0, Value.int IntKind.i64 0, Value.int IntKind.i64 0, Value.int IntKind.i64 0, Value.int IntKind.i64 0, Value.int IntKind.i64 0, Value.int IntKind.i64 0, Value.int IntKind.i64 0, Value.int IntKind.i64 0])⟩),
  (34, ⟨.other, 1, 8, Value.nilFunc⟩),
  (35, ⟨(.slice 3), 1, 24, (Value.slice none 0 0)⟩),
  (36, ⟨(.struct [(35, 0, 1)]), 1, 24, (Value.agg #[Value.slice none 0 0])⟩),
  (37, ⟨(.struct [(35, 0, 1)]), 1, 24, (Value.agg #[Value.slice none 0 0])⟩),
  (38, ⟨(.slice 52), 1, 24, (Value.slice none 0 0)⟩),
  (39, ⟨(.slice 86), 1, 24, (Value.slice none 0 0)⟩),
  (40, ⟨(.slice 35), 1, 24, (Value.slice none 0 0)⟩),
  (41, ⟨(.slice 69), 1, 24, (Value.slice none 0 0)⟩),
  (42, ⟨(.slice 54), 1, 24, (Value.slice none 0 0)⟩),
  (43, ⟨(.struct [(37, 0, 1), (3, 1, 1), (38, 2, 1), (39, 3, 1), (40, 4, 1), (35, 5, 1), (41, 6, 1), (42, 7, 1), (3, 8, 1), (4, 9, 1), (4, 10, 1)]), 11, 192, (Value.agg #[Value.slice none 0 0, Value.int IntKind.i64 0, Value.slice none 0 0, Value.slice none 0 0, Value.slice none 0 0, Value.slice none 0 0, Value.slice none 0 0, Value.slice none 0 0, Value.int IntKind.i64 0, Value.bool false, Value.bool false])⟩),
  (44, ⟨(.struct [(37, 0, 1), (3, 1, 1), (38, 2, 1), (39, 3, 1), (40, 4, 1), (35, 5, 1), (41, 6, 1), (42, 7, 1), (3, 8, 1), (4, 9, 1), (4, 10, 1)]), 11, 192, (Value.agg #[Value.slice none 0 0, Value.int IntKind.i64 0, Value.slice none 0 0, Value.slice none 0 0, Value.slice none 0 0, Value.slice none 0 0, Value.slice none 0 0, Value.slice none 0 0, Value.int IntKind.i64 0, Value.bool false, Value.bool false])⟩),
  (45, ⟨.other, 1, 8, Value.nilFunc⟩),
  (46, ⟨(.struct [(3, 0, 1), (35, 1, 1), (35, 2, 1)]), 3, 56, (Value.agg #[Value.int IntKind.i64 0, Value.slice none 0 0, Value.slice none 0 0])⟩),
  (47, ⟨(.struct [(3, 0, 1), (35, 1, 1), (35, 2, 1)]), 3, 56, (Value.agg #[Value.int IntKind.i64 0, Value.slice none 0 0, Value.slice none 0 0])⟩),
  (48, ⟨.other, 1, 8, Value.nilFunc⟩),
  (49, ⟨.other, 1, 8, Value.nilFunc⟩),
  (50, ⟨.other, 1, 8, Value.nilFunc⟩),
  (51, ⟨(.struct [(3, 0, 1), (3, 1, 1), (3, 2, 1), (3, 3, 1)]), 4, 32, (Value.agg #[Value.int IntKind.i64 0, Value.int IntKind.i64 0, Value.int IntKind.i64 0, Value.int IntKind.i64 0])⟩),
  (52, ⟨(.struct [(3, 0, 1), (3, 1, 1), (3, 2, 1), (3, 3, 1)]), 4, 32, (Value.agg #[Value.int IntKind.i64 0, Value.int IntKind.i64 0, Value.int IntKind.i64 0, Value.int IntKind.i64 0])⟩),
  (53, ⟨(.struct [(3, 0, 1), (52, 1, 4), (3, 5, 1), (4, 6, 1), (3, 7, 1), (3, 8, 1), (3, 9, 1)]), 10, 80, (Value.agg #[Value.int IntKind.i64 0, Value.int IntKind.i64 0, Value.int IntKind.i64 0, Value.int IntKind.i64 0, Value.int IntKind.i64 0, Value.int IntKind.i64 0, Value.bool false, Value.int IntKind.i64 0, Value.int IntKind.i64 0, Value.int IntKind.i64 0])⟩),
  (54, ⟨(.struct [(3, 0, 1), (52, 1, 4), (3, 5, 1), (4, 6, 1), (3, 7, 1), (3, 8, 1), (3, 9, 1)]), 10, 80, (Value.agg #[Value.int IntKind.i64 0, Value.int IntKind.i64 0, Value.int IntKind.i64 0, Value.int IntKind.i64 0, Value.int IntKind.i64 0, Value.int IntKind.i64 0, Value.bool false, Value.int IntKind.i64 0, Value.int IntKind.i64 0, Value.int IntKind.i64 0])⟩),
  (55, ⟨(.int .u32), 1, 4, (Value.int IntKind.u32 0)⟩),
  (56, ⟨(.struct [(55, 0, 1), (55, 1, 1), (55, 2, 1), (55, 3, 1)]), 4, 16, (Value.agg #[Value.int IntKind.u32 0, Value.int IntKind.u32 0, Value.int IntKind.u32 0, Value.int IntKind.u32 0])⟩),
  (57, ⟨(.struct [(55, 0, 1), (55, 1, 1), (55, 2, 1), (55, 3, 1)]), 4, 16, (Value.agg #[Value.int IntKind.u32 0, Value.int IntKind.u32 0, Value.int IntKind.u32 0, Value.int IntKind.u32 0])⟩),
  (58, ⟨.other, 1, 8, Value.nilFunc⟩),
  (59, ⟨.other, 1, 8, Value.nilFunc⟩),
  (60, ⟨.other, 1, 8, Value.nilFunc⟩),
  (61, ⟨(.int .i64), 1, 8, (Value.int IntKind.i64 0)⟩),
  (62, ⟨.other, 1, 0, (Value.tuple #[Value.agg #[Value.int IntKind.i64 0, Value.int IntKind.i64 0, Value.int IntKind.i64 0, Value.int IntKind.i64 0, Value.int IntKind.i64 0, Value.int IntKind.i64 0, Value.int IntKind.i64 0, Value.int IntKind.i64 0, Value.int IntKind.i64 0, Value.int IntKind.i64 0, Value.int IntKind.i64 0, Value.int IntKind.i64 0, Value.int IntKind.i64 0, Value.int IntKind.i64 0, Value.int IntKind.i64 0, Value.int IntKind.i64 0, Value.int IntKind.i64 0, Value.int IntKind.i64 0, Value.int IntKind.i64 0, Value.int IntKind.i64 0, Value.int IntKind.i64 0, Value.int IntKind.i64 0, Value.int IntKind.i64 0, Value.int IntKind.i64 0, Value.int IntKind.i64 0], Value.int IntKind.i64 0])⟩),
  (63, ⟨.other, 1, 8, Value.nilFunc⟩),
  (64, ⟨.other, 1, 0, (Value.tuple #[Value.agg #[Value.int IntKind.i64 0, Value.slice none 0 0, Value.slice none 0 0], Value.int IntKind.i64 0, Value.bool false])⟩),
  (65, ⟨.other, 1, 8, Value.nilFunc⟩),
  (66, ⟨.other, 1, 8, Value.nilFunc⟩),
  (67, ⟨(.struct [(3, 0, 1), (3, 1, 1), (3, 2, 1), (3, 3, 1)]), 4, 32, (Value.agg #[Value.int IntKind.i64 0, Value.int IntKind.i64 0, Value.int IntKind.i64 0, Value.int IntKind.i64 0])⟩),
  (68, ⟨(.struct [(3, 0, 1), (3, 1, 1), (3, 2, 1), (3, 3, 1)]), 4, 32, (Value.agg #[Value.int IntKind.i64 0, Value.int IntKind.i64 0, Value.int IntKind.i64 0, Value.int IntKind.i64 0])⟩),
  (69, ⟨(.slice 78), 1, 24, (Value.slice none 0 0)⟩),
  (70, ⟨(.struct [(3, 0, 1), (4, 1, 1), (61, 2, 1), (3, 3, 1), (69, 4, 1)]), 5, 56, (Value.agg #[Value.int IntKind.i64 0, Value.bool false, Value.int IntKind.i64 0, Value.int IntKind.i64 0, Value.slice none 0 0])⟩),
  (71, ⟨(.struct [(3, 0, 1), (4, 1, 1), (61, 2, 1), (3, 3, 1), (69, 4, 1)]), 5, 56, (Value.agg #[Value.int IntKind.i64 0, Value.bool false, Value.int IntKind.i64 0, Value.int IntKind.i64 0, Value.slice none 0 0])⟩),
  (72, ⟨.other, 1, 0, (Value.tuple #[Value.agg #[Value.int IntKind.i64 0, Value.int IntKind.i64 0, Value.int IntKind.i64 0, Value.int IntKind.i64 0], Value.agg #[Value.int IntKind.i64 0, Value.bool false, Value.int IntKind.i64 0, Value.int IntKind.i64 0, Value.slice none 0 0], Value.bool false])⟩),
  (73, ⟨.other, 1, 8, Value.nilFunc⟩),
  (74, ⟨.other, 1, 8, Value.nilFunc⟩),
  (75, ⟨.other, 1, 8, Value.nilFunc⟩),
  (76, ⟨.other, 1, 8, Value.nilFunc⟩),
  (77, ⟨.other, 1, 8, Value.nilFunc⟩),
  (78, ⟨(.array 2 3), 2, 16, (Value.agg #[Value.int IntKind.i64 0, Value.int IntKind.i64 0])⟩),
  (79, ⟨.other, 1, 8, Value.nilFunc⟩),
  (80, ⟨.other, 1, 8, Value.nilFunc⟩),
  (81, ⟨.other, 1, 8, Value.nilFunc⟩),
  (82, ⟨.other, 1, 8, Value.nilFunc⟩),
  (83, ⟨.other, 1, 8, Value.nilFunc⟩),
  (84, ⟨.other, 1, 8, Value.nilFunc⟩),
  (85, ⟨.other, 1, 8, Value.nilFunc⟩),
  (86, ⟨(.slice 104), 1, 24, (Value.slice none 0 0)⟩),
  (87, ⟨.other, 1, 8, Value.nilFunc⟩),
  (88, ⟨.other, 1, 8, Value.nilFunc⟩),
  (89, ⟨.other, 1, 8, (Value.pointer none)⟩),
  (90, ⟨.other, 1, 8, Value.nilFunc⟩),
  (91, ⟨.other, 1, 8, Value.nilFunc⟩),
  (92, ⟨.other, 1, 8, Value.nilFunc⟩),
  (93, ⟨.other, 1, 8, Value.nilFunc⟩),
  (94, ⟨.other, 1, 8, Value.nilFunc⟩),
  (95, ⟨.other, 1, 8, Value.nilFunc⟩),
  (96, ⟨.other, 1, 0, (Value.tuple #[Value.agg #[Value.slice none 0 0], Value.slice none 0 0, Value.int IntKind.i64 0])⟩),
  (97, ⟨.other, 1, 8, Value.nilFunc⟩),
  (98, ⟨.other, 1, 8, Value.nilFunc⟩),
  (99, ⟨(.slice 68), 1, 24, (Value.slice none 0 0)⟩),
  (100, ⟨.other, 1, 8, Value.nilFunc⟩),
  (101, ⟨.other, 1, 8, Value.nilFunc⟩),
  (102, ⟨.other, 1, 8, Value.nilFunc⟩),
  (103, ⟨(.struct [(3, 0, 1), (4, 1, 1)]), 2, 16, (Value.agg #[Value.int IntKind.i64 0, Value.bool false])⟩),
  (104, ⟨(.struct [(3, 0, 1), (4, 1, 1)]), 2, 16, (Value.agg #[Value.int IntKind.i64 0, Value.bool false])⟩),
  (105, ⟨.other, 1, 0, (Value.tuple #[Value.agg #[Value.slice none 0 0], Value.agg #[Value.int IntKind.i64 0, Value.bool false], Value.int IntKind.i64 0])⟩),
  (106, ⟨.other, 1, 8, Value.nilFunc⟩),
  (107, ⟨(.struct [(3, 0, 1), (4, 1, 1), (3, 2, 1)]), 3, 24, (Value.agg #[Value.int IntKind.i64 0, Value.bool false, Value.int IntKind.i64 0])⟩),
  (108, ⟨(.struct [(3, 0, 1), (4, 1, 1), (3, 2, 1)]), 3, 24, (Value.agg #[Value.int IntKind.i64 0, Value.bool false, Value.int IntKind.i64 0])⟩),
  (109, ⟨.other, 1, 8, Value.nilFunc⟩),
  (110, ⟨.other, 1, 8, Value.nilFunc⟩),
  (111, ⟨.other, 1, 8, (Value.map none)⟩),
  (112, ⟨.other, 1, 8, Value.nilFunc⟩),
  (113, ⟨.other, 1, 8, Value.nilFunc⟩),
  (114, ⟨(.array 3 3), 3, 24, (Value.agg #[Value.int IntKind.i64 0, Value.int IntKind.i64 0, Value.int IntKind.i64 0])⟩),
  (115, ⟨.other, 1, 8, Value.nilFunc⟩),
  (116, ⟨(.struct [(33, 0, 25), (3, 25, 1), (69, 26, 1), (3, 27, 1), (114, 28, 3), (115, 31, 1)]), 32, 272, (Value.agg #[Value.int IntKind.i64 0, Value.int IntKind.i64 0, Value.int IntKind.i64 0, Value.int IntKind.i64 0, Value.int IntKind.i64 0, Value.int IntKind.i64 0, Value.int IntKind.i64 0, Value.int IntKind.i64 0, Value.int IntKind.i64 0, Value.int IntKind.i64 0, Value.int IntKind.i64 0, Value.int IntKind.i64 0, Value.int IntKind.i64 0, Value.int IntKind.i64 0, Value.int IntKind.i64 0, Value.int IntKind.i64 0, Value.int IntKind.i64 0, Value.int IntKind.i64 0, Value.int IntKind.i64 0, Value.int IntKind.i64 0, Value.int IntKind.i64 0, Value.int IntKind.i64 0, Value.int IntKind.i64 0, Value.int IntKind.i64 0, Value.int IntKind.i64 0, Value.int IntKind.i64 0, Value.slice none 0 0, Value.int IntKind.i64 0, Value.int IntKind.i64 0, Value.int IntKind.i64 0, Value.int IntKind.i64 0, Value.nilFunc])⟩),
  (117, ⟨(.struct [(33, 0, 25), (3, 25, 1), (69, 26, 1), (3, 27, 1), (114, 28, 3), (115, 31, 1)]), 32, 272, (Value.agg #[Value.int IntKind.i64 0, Value.int IntKind.i64 0, Value.int IntKind.i64 0, Value.int IntKind.i64 0, Value.int IntKind.i64 0, Value.int IntKind.i64 0, Value.int IntKind.i64 0, Value.int IntKind.i64 0, Value.int IntKind.i64 0, Value.int IntKind.i64 0, Value.int IntKind.i64 0, Value.int IntKind.i64 0, Value.int IntKind.i64 0, Value.int IntKind.i64 0, Value.int IntKind.i64 0, Value.int IntKind.i64 0, Value.int IntKind.i64 0, Value.int IntKind.i64 0, Value.int IntKind.i64 0, Value.int IntKind.i64 0, Value.int IntKind.i64 0, Value.int IntKind.i64 0, Value.int IntKind.i64 0, Value.int IntKind.i64 0, Value.int IntKind.i64 0, Value.int IntKind.i64 0, Value.slice none 0 0, Value.int IntKind.i64 0, Value.int IntKind.i64 0, Value.int IntKind.i64 0, Value.int IntKind.i64 0, Value.nilFunc])⟩),
  (118, ⟨(.struct [(68, 0, 4)]), 4, 32, (Value.agg #[Value.int IntKind.i64 0, Value.int IntKind.i64 0, Value.int IntKind.i64 0, Value.int IntKind.i64 0])⟩),
  (119, ⟨(.struct [(68, 0, 4)]), 4, 32, (Value.agg #[Value.int IntKind.i64 0, Value.int IntKind.i64 0, Value.int IntKind.i64 0, Value.int IntKind.i64 0])⟩),
  (120, ⟨.other, 1, 0, (Value.tuple #[Value.int IntKind.i64 0, Value.int IntKind.i64 0, Value.bool false])⟩),
  (121, ⟨.other, 1, 8, Value.nilFunc⟩),
  (122, ⟨.other, 1, 8, Value.nilFunc⟩),
  (123, ⟨.other, 1, 8, Value.nilFunc⟩),
  (124, ⟨.other, 1, 8, Value.nilFunc⟩),
  (125, ⟨.other, 1, 8, Value.nilFunc⟩),
  (126, ⟨.other, 1, 0, (Value.tuple #[Value.int IntKind.i64 0, Value.int IntKind.i64 0, Value.int IntKind.i64 0])⟩),
  (127, ⟨.other, 1, 8, Value.nilFunc⟩),
  (128, ⟨.other, 1, 8, Value.nilFunc⟩),
  (129, ⟨.other, 1, 8, Value.nilFunc⟩),
  (130, ⟨.other, 1, 8, Value.nilFunc⟩),
  (131, ⟨.other, 1, 8, Value.nilFunc⟩),
  (132, ⟨.other, 1, 8, Value.nilFunc⟩),
  (133, ⟨.other, 1, 8, Value.nilFunc⟩),
  (134, ⟨(.int .u64), 1, 8, (Value.int IntKind.u64 0)⟩),
  (135, ⟨.other, 1, 8, Value.nilFunc⟩),
  (136, ⟨.other, 1, 8, Value.nilFunc⟩),
  (137, ⟨.other, 1, 8, Value.nilFunc⟩),
  (138, ⟨(.struct [(3, 0, 1), (3, 1, 1)]), 2, 16, (Value.agg #[Value.int IntKind.i64 0, Value.int IntKind.i64 0])⟩),
  (139, ⟨(.struct [(3, 0, 1), (3, 1, 1)]), 2, 16, (Value.agg #[Value.int IntKind.i64 0, Value.int IntKind.i64 0])⟩),
  (140, ⟨.other, 1, 0, (Value.tuple #[Value.int IntKind.i64 0, Value.int IntKind.i64 0])⟩),
  (141, ⟨.other, 1, 8, Value.nilFunc⟩),
  (142, ⟨.other, 1, 8, Value.nilFunc⟩),
  (143, ⟨.other, 1, 8, Value.nilFunc⟩),
  (144, ⟨.other, 1, 8, Value.nilFunc⟩),
  (145, ⟨.other, 1, 8, Value.nilFunc⟩),
  (146, ⟨(.slice 139), 1, 24, (Value.slice none 0 0)⟩),
  (147, ⟨.other, 1, 8, Value.nilFunc⟩),
  (148, ⟨.other, 1, 8, Value.nilFunc⟩),
  (149, ⟨(.struct [(17, 0, 1), (17, 1, 1), (17, 2, 1), (9, 3, 1)]), 4, 40, (Value.agg #[Value.pointer none, Value.pointer none, Value.pointer none, Value.string { data := #[] }])⟩),
  (150, ⟨(.struct [(17, 0, 1), (17, 1, 1), (17, 2, 1), (9, 3, 1)]), 4, 40, (Value.agg #[Value.pointer none, Value.pointer none, Value.pointer none, Value.string { data := #[] }])⟩),
  (151, ⟨(.array 0 16), 0, 0, (Value.agg #[])⟩),
  (152, ⟨(.struct [(151, 0, 0)]), 0, 0, (Value.agg #[])⟩),
  (153, ⟨(.struct [(151, 0, 0)]), 0, 0, (Value.agg #[])⟩),
  (154, ⟨(.int .u8), 1, 1, (Value.int IntKind.u8 0)⟩),
  (155, ⟨(.int .u8), 1, 1, (Value.int IntKind.u8 0)⟩),
  (156, ⟨.other, 1, 8, Value.nilFunc⟩),
  (157, ⟨.other, 1, 8, (Value.pointer none)⟩),
  (158, ⟨(.int .i32), 1, 4, (Value.int IntKind.i32 0)⟩),
  (159, ⟨(.int .i32), 1, 4, (Value.int IntKind.i32 0)⟩),
  (160, ⟨(.struct [(12, 0, 1), (12, 1, 1), (55, 2, 1), (154, 3, 1), (5, 4, 1), (5, 5, 1), (155, 6, 1), (156, 7, 1), (157, 8, 1), (158, 9, 1), (159, 10, 1)]), 11, 48, (Value.agg #[Value.int IntKind.u64 0, Value.int IntKind.u64 0, Value.int IntKind.u32 0, Value.int IntKind.u8 0, Value.int IntKind.u8 0, Value.int IntKind.u8 0, Value.int IntKind.u8 0, Value.nilFunc, Value.pointer none, Value.int IntKind.i32 0, Value.int IntKind.i32 0])⟩),
  (161, ⟨(.struct [(12, 0, 1), (12, 1, 1), (55, 2, 1), (154, 3, 1), (5, 4, 1), (5, 5, 1), (155, 6, 1), (156, 7, 1), (157, 8, 1), (158, 9, 1), (159, 10, 1)]), 11, 48, (Value.agg #[Value.int IntKind.u64 0, Value.int IntKind.u64 0, Value.int IntKind.u32 0, Value.int IntKind.u8 0, Value.int IntKind.u8 0, Value.int IntKind.u8 0, Value.int IntKind.u8 0, Value.nilFunc, Value.pointer none, Value.int IntKind.i32 0, Value.int IntKind.i32 0])⟩),
  (162, ⟨.other, 1, 8, (Value.pointer none)⟩)]
def tb : Nat → Option TI := kv tab

def tabGood (P : Program) (p : Nat × TI) : Prop := (P.underlying p.1).map (tkOf P) = some p.2.k ∧ (P.info? p.1).map (fun f => (f.size, f.bytes, f.zero)) = some (p.2.sz, p.2.bytes, some p.2.zero)
theorem tab_of {P : Program} : ∀ {l : List (Nat × TI)}, (∀ p ∈ l, tabGood P p) → TabOk P (kv l) := by
  intro l h
  have key : ∀ (l : List (Nat × TI)), (∀ p ∈ l, tabGood P p) → ∀ t i, kv l t = some i → tabGood P (t, i) := by
    intro l
    induction l with
    | nil => intro _ t i h; cases h
    | cons p l ih =>
      intro h t i hi
      obtain ⟨k, v⟩ := p
      rw [lk_cons] at hi
      split at hi
      · rename_i hk; subst hk; cases hi; exact h _ (by simp)
      · exact ih (fun q hq => h q (by simp [hq])) t i hi
  refine ⟨fun t i hi => ?_, fun t i hi => ?_⟩
  · obtain ⟨h1, _⟩ := key l h t i hi
    simp only [Option.map_eq_some_iff] at h1
    exact h1
  · obtain ⟨_, h2⟩ := key l h t i hi
    simp only [Option.map_eq_some_iff, Prod.mk.injEq] at h2
    obtain ⟨f, h3, h4, h5, h6⟩ := h2
    exact ⟨f, h3, h4, h5, h6⟩
theorem tg0 : tabGood Try.prog (0, ⟨.other, 1, 0, (Value.tuple #[])⟩) := ⟨by kernel_rfl, by kernel_rfl⟩
theorem tg1 : tabGood Try.prog (1, ⟨.other, 1, 8, Value.nilFunc⟩) := ⟨by kernel_rfl, by kernel_rfl⟩
theorem tg2 : tabGood Try.prog (2, ⟨(.int .i64), 1, 8, (Value.int IntKind.i64 0)⟩) := ⟨by kernel_rfl, by kernel_rfl⟩
theorem tg3 : tabGood Try.prog (3, ⟨(.int .i64), 1, 8, (Value.int IntKind.i64 0)⟩) := ⟨by kernel_rfl, by kernel_rfl⟩
theorem tg4 : tabGood Try.prog (4, ⟨.bool, 1, 1, (Value.bool false)⟩) := ⟨by kernel_rfl, by kernel_rfl⟩
theorem tg5 : tabGood Try.prog (5, ⟨(.int .u8), 1, 1, (Value.int IntKind.u8 0)⟩) := ⟨by kernel_rfl, by kernel_rfl⟩
theorem tg6 : tabGood Try.prog (6, ⟨(.int .u8), 1, 1, (Value.int IntKind.u8 0)⟩) := ⟨by kernel_rfl, by kernel_rfl⟩
theorem tg7 : tabGood Try.prog (7, ⟨(.struct [(2, 0, 1), (3, 1, 1), (4, 2, 1), (6, 3, 1)]), 4, 24, (Value.agg #[Value.int IntKind.i64 0, Value.int IntKind.i64 0, Value.bool false, Value.int IntKind.u8 0])⟩) := ⟨by kernel_rfl, by kernel_rfl⟩
theorem tg8 : tabGood Try.prog (8, ⟨(.struct [(2, 0, 1), (3, 1, 1), (4, 2, 1), (6, 3, 1)]), 4, 24, (Value.agg #[Value.int IntKind.i64 0, Value.int IntKind.i64 0, Value.bool false, Value.int IntKind.u8 0])⟩) := ⟨by kernel_rfl, by kernel_rfl⟩
theorem tg9 : tabGood Try.prog (9, ⟨.str, 1, 16, (Value.string { data := #[] })⟩) := ⟨by kernel_rfl, by kernel_rfl⟩
theorem tg10 : tabGood Try.prog (10, ⟨.str, 1, 16, (Value.string { data := #[] })⟩) := ⟨by kernel_rfl, by kernel_rfl⟩
theorem tg11 : tabGood Try.prog (11, ⟨.str, 1, 16, (Value.string { data := #[] })⟩) := ⟨by kernel_rfl, by kernel_rfl⟩
theorem tg12 : tabGood Try.prog (12, ⟨(.int .u64), 1, 8, (Value.int IntKind.u64 0)⟩) := ⟨by kernel_rfl, by kernel_rfl⟩
theorem tg13 : tabGood Try.prog (13, ⟨(.struct [(9, 0, 1), (12, 1, 1)]), 2, 24, (Value.agg #[Value.string { data := #[] }, Value.int IntKind.u64 0])⟩) := ⟨by kernel_rfl, by kernel_rfl⟩
theorem tg14 : tabGood Try.prog (14, ⟨(.struct [(9, 0, 1), (12, 1, 1)]), 2, 24, (Value.agg #[Value.string { data := #[] }, Value.int IntKind.u64 0])⟩) := ⟨by kernel_rfl, by kernel_rfl⟩
theorem tg15 : tabGood Try.prog (15, ⟨.other, 1, 8, (Value.pointer none)⟩) := ⟨by kernel_rfl, by kernel_rfl⟩
theorem tg16 : tabGood Try.prog (16, ⟨.other, 1, 8, (Value.pointer none)⟩) := ⟨by kernel_rfl, by kernel_rfl⟩
theorem tg17 : tabGood Try.prog (17, ⟨.other, 1, 8, (Value.pointer none)⟩) := ⟨by kernel_rfl, by kernel_rfl⟩
theorem tg18 : tabGood Try.prog (18, ⟨(.struct [(17, 0, 1)]), 1, 8, (Value.agg #[Value.pointer none])⟩) := ⟨by kernel_rfl, by kernel_rfl⟩
theorem tg19 : tabGood Try.prog (19, ⟨(.struct [(17, 0, 1)]), 1, 8, (Value.agg #[Value.pointer none])⟩) := ⟨by kernel_rfl, by kernel_rfl⟩
theorem tg20 : tabGood Try.prog (20, ⟨.other, 1, 16, Value.nilIface⟩) := ⟨by kernel_rfl, by kernel_rfl⟩
theorem tg21 : tabGood Try.prog (21, ⟨(.int .i32), 1, 4, (Value.int IntKind.i32 0)⟩) := ⟨by kernel_rfl, by kernel_rfl⟩
theorem tg22 : tabGood Try.prog (22, ⟨(.slice 38), 1, 24, (Value.slice none 0 0)⟩) := ⟨by kernel_rfl, by kernel_rfl⟩
theorem tg23 : tabGood Try.prog (23, ⟨(.slice 5), 1, 24, (Value.slice none 0 0)⟩) := ⟨by kernel_rfl, by kernel_rfl⟩
theorem tg24 : tabGood Try.prog (24, ⟨(.struct [(22, 0, 1), (23, 1, 1)]), 2, 48, (Value.agg #[Value.slice none 0 0, Value.slice none 0 0])⟩) := ⟨by kernel_rfl, by kernel_rfl⟩
theorem tg25 : tabGood Try.prog (25, ⟨(.struct [(22, 0, 1), (23, 1, 1)]), 2, 48, (Value.agg #[Value.slice none 0 0, Value.slice none 0 0])⟩) := ⟨by kernel_rfl, by kernel_rfl⟩
theorem tg26 : tabGood Try.prog (26, ⟨.other, 1, 8, Value.nilFunc⟩) := ⟨by kernel_rfl, by kernel_rfl⟩
theorem tg27 : tabGood Try.prog (27, ⟨.other, 1, 8, Value.nilFunc⟩) := ⟨by kernel_rfl, by kernel_rfl⟩
theorem tg28 : tabGood Try.prog (28, ⟨.other, 1, 8, (Value.pointer none)⟩) := ⟨by kernel_rfl, by kernel_rfl⟩
theorem tg29 : tabGood Try.prog (29, ⟨.other, 1, 8, Value.nilFunc⟩) := ⟨by kernel_rfl, by kernel_rfl⟩
theorem tg30 : tabGood Try.prog (30, ⟨(.struct [(3, 0, 1), (3, 1, 1), (3, 2, 1), (3, 3, 1), (3, 4, 1), (3, 5, 1), (3, 6, 1), (3, 7, 1), (3, 8, 1)]), 9, 72, (Value.agg #[Value.int IntKind.i64 0, Value.int IntKind.i64 0, Value.int IntKind.i64 0, Value.int IntKind.i64 0, Value.int IntKind.i64 0, Value.int IntKind.i64 0, Value.int IntKind.i64 0, Value.int IntKind.i64 0, Value.int IntKind.i64 0])⟩) := ⟨by kernel_rfl, by kernel_rfl⟩
theorem tg31 : tabGood Try.prog (31, ⟨(.struct [(3, 0, 1), (3, 1, 1), (3, 2, 1), (3, 3, 1), (3, 4, 1), (3, 5, 1), (3, 6, 1), (3, 7, 1), (3, 8, 1)]), 9, 72, (Value.agg #[Value.int IntKind.i64 0, Value.int IntKind.i64 0, Value.int IntKind.i64 0, Value.int IntKind.i64 0, Value.int IntKind.i64 0, Value.int IntKind.i64 0, Value.int IntKind.i64 0, Value.int IntKind.i64 0, Value.int IntKind.i64 0])⟩) := ⟨by kernel_rfl, by kernel_rfl⟩
theorem tg32 : tabGood Try.prog (32, ⟨(.struct [(31, 0, 9), (3, 9, 1), (3, 10, 1), (3, 11, 1), (3, 12, 1), (3, 13, 1), (3, 14, 1), (3, 15, 1), (3, 16, 1), (3, 17, 1), (3, 18, 1), (3, 19, 1), (3, 20, 1), (3, 21, 1), (3, 22, 1), (3, 23, 1), (3, 24, 1)]), 25, 200, (Value.agg #[Value.int IntKind.i64 0, Value.int IntKind.i64 0, Value.int IntKind.i64 0, Value.int IntKind.i64 0, Value.int IntKind.i64 0, Value.int IntKind.i64 0, Value.int IntKind.i64 0, Value.int IntKind.i64 0, Value.int IntKind.i64 0, Value.int IntKind.i64 0, Value.int IntKind.i64 0, Value.int IntKind.i64 0, Value.int IntKind.i64 0, Value.int IntKind.i64 0, Value.int IntKind.i64 0, Value.int IntKind.i64 0, Value.int IntKind.i64 0, Value.int IntKind.i64 0, Value.int IntKind.i64 0, Value.int IntKind.i64 0, Value.int IntKind.i64 0, Value.int IntKind.i64 0, Value.int IntKind.i64 0, Value.int IntKind.i64 0, Value.int IntKind.i64 0])⟩) := ⟨by kernel_rfl, by kernel_rfl⟩
theorem tg33 : tabGood Try.prog (33, ⟨(.struct [(31, 0, 9), (3, 9, 1), (3, 10, 1), (3, 11, 1), (3, 12, 1), (3, 13, 1), (3, 14, 1), (3, 15, 1), (3, 16, 1), (3, 17, 1), (3, 18, 1), (3, 19, 1), (3, 20, 1), (3, 21, 1), (3, 22, 1), (3, 23, 1), (3, 24, 1)]), 25, 200, (Value.agg #[Value.int IntKind.i64 0, Value.int IntKind.i64 0, Value.int IntKind.i64 0, Value.int IntKind.i64 0, Value.int IntKind.i64 0, Value.int IntKind.i64 0, Value.int IntKind.i64 0, Value.int IntKind.i64 0, Value.int IntKind.i64 0, Value.int IntKind.i64 0, Value.int IntKind.i64 0, Value.int IntKind.i64 0, Value.int IntKind.i64 0, Value.int IntKind.i64 0, Value.int IntKind.i64 0, Value.int IntKind.i64 0, Value.int IntKind.i64 0, Value.int IntKind.i64 0, Value.int IntKind.i64 0, Value.int IntKind.i64 0, Value.int IntKind.i64 0, Value.int IntKind.i64 0, Value.int IntKind.i64 0, Value.int IntKind.i64 0, Value.int IntKind.i64 0])⟩) := ⟨by kernel_rfl, by kernel_rfl⟩
theorem tg34 : tabGood Try.prog (34, ⟨.other, 1, 8, Value.nilFunc⟩) := ⟨by kernel_rfl, by kernel_rfl⟩
theorem tg35 : tabGood Try.prog (35, ⟨(.slice 3), 1, 24, (Value.slice none 0 0)⟩) := ⟨by kernel_rfl, by kernel_rfl⟩
theorem tg36 : tabGood Try.prog (36, ⟨(.struct [(35, 0, 1)]), 1, 24, (Value.agg #[Value.slice none 0 0])⟩) := ⟨by kernel_rfl, by kernel_rfl⟩
theorem tg37 : tabGood Try.prog (37, ⟨(.struct [(35, 0, 1)]), 1, 24, (Value.agg #[Value.slice none 0 0])⟩) := ⟨by kernel_rfl, by kernel_rfl⟩
theorem tg38 : tabGood Try.prog (38, ⟨(.slice 52), 1, 24, (Value.slice none 0 0)⟩) := ⟨by kernel_rfl, by kernel_rfl⟩
theorem tg39 : tabGood Try.prog (39, ⟨(.slice 86), 1, 24, (Value.slice none 0 0)⟩) := ⟨by kernel_rfl, by kernel_rfl⟩
theorem tg40 : tabGood Try.prog (40, ⟨(.slice 35), 1, 24, (Value.slice none 0 0)⟩) := ⟨by kernel_rfl, by kernel_rfl⟩
theorem tg41 : tabGood Try.prog (41, ⟨(.slice 69), 1, 24, (Value.slice none 0 0)⟩) := ⟨by kernel_rfl, by kernel_rfl⟩
theorem tg42 : tabGood Try.prog (42, ⟨(.slice 54), 1, 24, (Value.slice none 0 0)⟩) := ⟨by kernel_rfl, by kernel_rfl⟩
theorem tg43 : tabGood Try.prog (43, ⟨(.struct [(37, 0, 1), (3, 1, 1), (38, 2, 1), (39, 3, 1), (40, 4, 1), (35, 5, 1), (41, 6, 1), (42, 7, 1), (3, 8, 1), (4, 9, 1), (4, 10, 1)]), 11, 192, (Value.agg #[Value.slice none 0 0, Value.int IntKind.i64 0, Value.slice none 0 0, Value.slice none 0 0, Value.slice none 0 0, Value.slice none 0 0, Value.slice none 0 0, Value.slice none 0 0, Value.int IntKind.i64 0, Value.bool false, Value.bool false])⟩) := ⟨by kernel_rfl, by kernel_rfl⟩
theorem tg44 : tabGood Try.prog (44, ⟨(.struct [(37, 0, 1), (3, 1, 1), (38, 2, 1), (39, 3, 1), (40, 4, 1), (35, 5, 1), (41, 6, 1), (42, 7, 1), (3, 8, 1), (4, 9, 1), (4, 10, 1)]), 11, 192, (Value.agg #[Value.slice none 0 0, Value.int IntKind.i64 0, Value.slice none 0 0, Value.slice none 0 0, Value.slice none 0 0, Value.slice none 0 0, Value.slice none 0 0, Value.slice none 0 0, Value.int IntKind.i64 0, Value.bool false, Value.bool false])⟩) := ⟨by kernel_rfl, by kernel_rfl⟩
theorem tg45 : tabGood Try.prog (45, ⟨.other, 1, 8, Value.nilFunc⟩) := ⟨by kernel_rfl, by kernel_rfl⟩
theorem tg46 : tabGood Try.prog (46, ⟨(.struct [(3, 0, 1), (35, 1, 1), (35, 2, 1)]), 3, 56, (Value.agg #[Value.int IntKind.i64 0, Value.slice none 0 0, Value.slice none 0 0])⟩) := ⟨by kernel_rfl, by kernel_rfl⟩
theorem tg47 : tabGood Try.prog (47, ⟨(.struct [(3, 0, 1), (35, 1, 1), (35, 2, 1)]), 3, 56, (Value.agg #[Value.int IntKind.i64 0, Value.slice none 0 0, Value.slice none 0 0])⟩) := ⟨by kernel_rfl, by kernel_rfl⟩
theorem tg48 : tabGood Try.prog (48, ⟨.other, 1, 8, Value.nilFunc⟩) := ⟨by kernel_rfl, by kernel_rfl⟩
theorem tg49 : tabGood Try.prog (49, ⟨.other, 1, 8, Value.nilFunc⟩) := ⟨by kernel_rfl, by kernel_rfl⟩
theorem tg50 : tabGood Try.prog (50, ⟨.other, 1, 8, Value.nilFunc⟩) := ⟨by kernel_rfl, by kernel_rfl⟩
theorem tg51 : tabGood Try.prog (51, ⟨(.struct [(3, 0, 1), (3, 1, 1), (3, 2, 1), (3, 3, 1)]), 4, 32, (Value.agg #[Value.int IntKind.i64 0, Value.int IntKind.i64 0, Value.int IntKind.i64 0, Value.int IntKind.i64 0])⟩) := ⟨by kernel_rfl, by kernel_rfl⟩
theorem tg52 : tabGood Try.prog (52, ⟨(.struct [(3, 0, 1), (3, 1, 1), (3, 2, 1), (3, 3, 1)]), 4, 32, (Value.agg #[Value.int IntKind.i64 0, Value.int IntKind.i64 0, Value.int IntKind.i64 0, Value.int IntKind.i64 0])⟩) := ⟨by kernel_rfl, by kernel_rfl⟩
theorem tg53 : tabGood Try.prog (53, ⟨(.struct [(3, 0, 1), (52, 1, 4), (3, 5, 1), (4, 6, 1), (3, 7, 1), (3, 8, 1), (3, 9, 1)]), 10, 80, (Value.agg #[Value.int IntKind.i64 0, Value.int IntKind.i64 0, Value.int IntKind.i64 0, Value.int IntKind.i64 0, Value.int IntKind.i64 0, Value.int IntKind.i64 0, Value.bool false, Value.int IntKind.i64 0, Value.int IntKind.i64 0, Value.int IntKind.i64 0])⟩) := ⟨by kernel_rfl, by kernel_rfl⟩
theorem tg54 : tabGood Try.prog (54, ⟨(.struct [(3, 0, 1), (52, 1, 4), (3, 5, 1), (4, 6, 1), (3, 7, 1), (3, 8, 1), (3, 9, 1)]), 10, 80, (Value.agg #[Value.int IntKind.i64 0, Value.int IntKind.i64 0, Value.int IntKind.i64 0, Value.int IntKind.i64 0, Value.int IntKind.i64 0, Value.int IntKind.i64 0, Value.bool false, Value.int IntKind.i64 0, Value.int IntKind.i64 0, Value.int IntKind.i64 0])⟩) := ⟨by kernel_rfl, by kernel_rfl⟩
theorem tg55 : tabGood Try.prog (55, ⟨(.int .u32), 1, 4, (Value.int IntKind.u32 0)⟩) := ⟨by kernel_rfl, by kernel_rfl⟩
theorem tg56 : tabGood Try.prog (56, ⟨(.struct [(55, 0, 1), (55, 1, 1), (55, 2, 1), (55, 3, 1)]), 4, 16, (Value.agg #[Value.int IntKind.u32 0, Value.int IntKind.u32 0, Value.int IntKind.u32 0, Value.int IntKind.u32 0])⟩) := ⟨by kernel_rfl, by kernel_rfl⟩
theorem tg57 : tabGood Try.prog (57, ⟨(.struct [(55, 0, 1), (55, 1, 1), (55, 2, 1), (55, 3, 1)]), 4, 16, (Value.agg #[Value.int IntKind.u32 0, Value.int IntKind.u32 0, Value.int IntKind.u32 0, Value.int IntKind.u32 0])⟩) := ⟨by kernel_rfl, by kernel_rfl⟩
theorem tg58 : tabGood Try.prog (58, ⟨.other, 1, 8, Value.nilFunc⟩) := ⟨by kernel_rfl, by kernel_rfl⟩
theorem tg59 : tabGood Try.prog (59, ⟨.other, 1, 8, Value.nilFunc⟩) := ⟨by kernel_rfl, by kernel_rfl⟩
theorem tg60 : tabGood Try.prog (60, ⟨.other, 1, 8, Value.nilFunc⟩) := ⟨by kernel_rfl, by kernel_rfl⟩
theorem tg61 : tabGood Try.prog (61, ⟨(.int .i64), 1, 8, (Value.int IntKind.i64 0)⟩) := ⟨by kernel_rfl, by kernel_rfl⟩
theorem tg62 : tabGood Try.prog (62, ⟨.other, 1, 0, (Value.tuple #[Value.agg #[Value.int IntKind.i64 0, Value.int IntKind.i64 0, Value.int IntKind.i64 0, Value.int IntKind.i64 0, Value.int IntKind.i64 0, Value.int IntKind.i64 0, Value.int IntKind.i64 0, Value.int IntKind.i64 0, Value.int IntKind.i64 0, Value.int IntKind.i64 0, Value.int IntKind.i64 0, Value.int IntKind.i64 0, Value.int IntKind.i64 0, Value.int IntKind.i64 0, Value.int IntKind.i64 0, Value.int IntKind.i64 0, Value.int IntKind.i64 0, Value.int IntKind.i64 0, Value.int IntKind.i64 0, Value.int IntKind.i64 0, Value.int IntKind.i64 0, Value.int IntKind.i64 0, Value.int IntKind.i64 0, Value.int IntKind.i64 0, Value.int IntKind.i64 0], Value.int IntKind.i64 0])⟩) := ⟨by kernel_rfl, by kernel_rfl⟩
theorem tg63 : tabGood Try.prog (63, ⟨.other, 1, 8, Value.nilFunc⟩) := ⟨by kernel_rfl, by kernel_rfl⟩
theorem tg64 : tabGood Try.prog (64, ⟨.other, 1, 0, (Value.tuple #[Value.agg #[Value.int IntKind.i64 0, Value.slice none 0 0, Value.slice none 0 0], Value.int IntKind.i64 0, Value.bool false])⟩) := ⟨by kernel_rfl, by kernel_rfl⟩
theorem tg65 : tabGood Try.prog (65, ⟨.other, 1, 8, Value.nilFunc⟩) := ⟨by kernel_rfl, by kernel_rfl⟩
theorem tg66 : tabGood Try.prog (66, ⟨.other, 1, 8, Value.nilFunc⟩) := ⟨by kernel_rfl, by kernel_rfl⟩
theorem tg67 : tabGood Try.prog (67, ⟨(.struct [(3, 0, 1), (3, 1, 1), (3, 2, 1), (3, 3, 1)]), 4, 32, (Value.agg #[Value.int IntKind.i64 0, Value.int IntKind.i64 0, Value.int IntKind.i64 0, Value.int IntKind.i64 0])⟩) := ⟨by kernel_rfl, by kernel_rfl⟩
theorem tg68 : tabGood Try.prog (68, ⟨(.struct [(3, 0, 1), (3, 1, 1), (3, 2, 1), (3, 3, 1)]), 4, 32, (Value.agg #[Value.int IntKind.i64 0, Value.int IntKind.i64 0, Value.int IntKind.i64 0, Value.int IntKind.i64 0])⟩) := ⟨by kernel_rfl, by kernel_rfl⟩
theorem tg69 : tabGood Try.prog (69, ⟨(.slice 78), 1, 24, (Value.slice none 0 0)⟩) := ⟨by kernel_rfl, by kernel_rfl⟩
theorem tg70 : tabGood Try.prog (70, ⟨(.struct [(3, 0, 1), (4, 1, 1), (61, 2, 1), (3, 3, 1), (69, 4, 1)]), 5, 56, (Value.agg #[Value.int IntKind.i64 0, Value.bool false, Value.int IntKind.i64 0, Value.int IntKind.i64 0, Value.slice none 0 0])⟩) := ⟨by kernel_rfl, by kernel_rfl⟩
theorem tg71 : tabGood Try.prog (71, ⟨(.struct [(3, 0, 1), (4, 1, 1), (61, 2, 1), (3, 3, 1), (69, 4, 1)]), 5, 56, (Value.agg #[Value.int IntKind.i64 0, Value.bool false, Value.int IntKind.i64 0, Value.int IntKind.i64 0, Value.slice none 0 0])⟩) := ⟨by kernel_rfl, by kernel_rfl⟩
theorem tg72 : tabGood Try.prog (72, ⟨.other, 1, 0, (Value.tuple #[Value.agg #[Value.int IntKind.i64 0, Value.int IntKind.i64 0, Value.int IntKind.i64 0, Value.int IntKind.i64 0], Value.agg #[Value.int IntKind.i64 0, Value.bool false, Value.int IntKind.i64 0, Value.int IntKind.i64 0, Value.slice none 0 0], Value.bool false])⟩) := ⟨by kernel_rfl, by kernel_rfl⟩
theorem tg73 : tabGood Try.prog (73, ⟨.other, 1, 8, Value.nilFunc⟩) := ⟨by kernel_rfl, by kernel_rfl⟩
theorem tg74 : tabGood Try.prog (74, ⟨.other, 1, 8, Value.nilFunc⟩) := ⟨by kernel_rfl, by kernel_rfl⟩
theorem tg75 : tabGood Try.prog (75, ⟨.other, 1, 8, Value.nilFunc⟩) := ⟨by kernel_rfl, by kernel_rfl⟩
theorem tg76 : tabGood Try.prog (76, ⟨.other, 1, 8, Value.nilFunc⟩) := ⟨by kernel_rfl, by kernel_rfl⟩
theorem tg77 : tabGood Try.prog (77, ⟨.other, 1, 8, Value.nilFunc⟩) := ⟨by kernel_rfl, by kernel_rfl⟩
theorem tg78 : tabGood Try.prog (78, ⟨(.array 2 3), 2, 16, (Value.agg #[Value.int IntKind.i64 0, Value.int IntKind.i64 0])⟩) := ⟨by kernel_rfl, by kernel_rfl⟩
theorem tg79 : tabGood Try.prog (79, ⟨.other, 1, 8, Value.nilFunc⟩) := ⟨by kernel_rfl, by kernel_rfl⟩
theorem tg80 : tabGood Try.prog (80, ⟨.other, 1, 8, Value.nilFunc⟩) := ⟨by kernel_rfl, by kernel_rfl⟩
theorem tg81 : tabGood Try.prog (81, ⟨.other, 1, 8, Value.nilFunc⟩) := ⟨by kernel_rfl, by kernel_rfl⟩
theorem tg82 : tabGood Try.prog (82, ⟨.other, 1, 8, Value.nilFunc⟩) := ⟨by kernel_rfl, by kernel_rfl⟩
theorem tg83 : tabGood Try.prog (83, ⟨.other, 1, 8, Value.nilFunc⟩) := ⟨by kernel_rfl, by kernel_rfl⟩
theorem tg84 : tabGood Try.prog (84, ⟨.other, 1, 8, Value.nilFunc⟩) := ⟨by kernel_rfl, by kernel_rfl⟩
theorem tg85 : tabGood Try.prog (85, ⟨.other, 1, 8, Value.nilFunc⟩) := ⟨by kernel_rfl, by kernel_rfl⟩
theorem tg86 : tabGood Try.prog (86, ⟨(.slice 104), 1, 24, (Value.slice none 0 0)⟩) := ⟨by kernel_rfl, by kernel_rfl⟩
theorem tg87 : tabGood Try.prog (87, ⟨.other, 1, 8, Value.nilFunc⟩) := ⟨by kernel_rfl, by kernel_rfl⟩
theorem tg88 : tabGood Try.prog (88, ⟨.other, 1, 8, Value.nilFunc⟩) := ⟨by kernel_rfl, by kernel_rfl⟩
theorem tg89 : tabGood Try.prog (89, ⟨.other, 1, 8, (Value.pointer none)⟩) := ⟨by kernel_rfl, by kernel_rfl⟩
theorem tg90 : tabGood Try.prog (90, ⟨.other, 1, 8, Value.nilFunc⟩) := ⟨by kernel_rfl, by kernel_rfl⟩
theorem tg91 : tabGood Try.prog (91, ⟨.other, 1, 8, Value.nilFunc⟩) := ⟨by kernel_rfl, by kernel_rfl⟩
theorem tg92 : tabGood Try.prog (92, ⟨.other, 1, 8, Value.nilFunc⟩) := ⟨by kernel_rfl, by kernel_rfl⟩
theorem tg93 : tabGood Try.prog (93, ⟨.other, 1, 8, Value.nilFunc⟩) := ⟨by kernel_rfl, by kernel_rfl⟩
theorem tg94 : tabGood Try.prog (94, ⟨.other, 1, 8, Value.nilFunc⟩) := ⟨by kernel_rfl, by kernel_rfl⟩
theorem tg95 : tabGood Try.prog (95, ⟨.other, 1, 8, Value.nilFunc⟩) := ⟨by kernel_rfl, by kernel_rfl⟩
theorem tg96 : tabGood Try.prog (96, ⟨.other, 1, 0, (Value.tuple #[Value.agg #[Value.slice none 0 0], Value.slice none 0 0, Value.int IntKind.i64 0])⟩) := ⟨by kernel_rfl, by kernel_rfl⟩
theorem tg97 : tabGood Try.prog (97, ⟨.other, 1, 8, Value.nilFunc⟩) := ⟨by kernel_rfl, by kernel_rfl⟩
theorem tg98 : tabGood Try.prog (98, ⟨.other, 1, 8, Value.nilFunc⟩) := ⟨by kernel_rfl, by kernel_rfl⟩
theorem tg99 : tabGood Try.prog (99, ⟨(.slice 68), 1, 24, (Value.slice none 0 0)⟩) := ⟨by kernel_rfl, by kernel_rfl⟩
theorem tg100 : tabGood Try.prog (100, ⟨.other, 1, 8, Value.nilFunc⟩) := ⟨by kernel_rfl, by kernel_rfl⟩
theorem tg101 : tabGood Try.prog (101, ⟨.other, 1, 8, Value.nilFunc⟩) := ⟨by kernel_rfl, by kernel_rfl⟩
theorem tg102 : tabGood Try.prog (102, ⟨.other, 1, 8, Value.nilFunc⟩) := ⟨by kernel_rfl, by kernel_rfl⟩
theorem tg103 : tabGood Try.prog (103, ⟨(.struct [(3, 0, 1), (4, 1, 1)]), 2, 16, (Value.agg #[Value.int IntKind.i64 0, Value.bool false])⟩) := ⟨by kernel_rfl, by kernel_rfl⟩
theorem tg104 : tabGood Try.prog (104, ⟨(.struct [(3, 0, 1), (4, 1, 1)]), 2, 16, (Value.agg #[Value.int IntKind.i64 0, Value.bool false])⟩) := ⟨by kernel_rfl, by kernel_rfl⟩
theorem tg105 : tabGood Try.prog (105, ⟨.other, 1, 0, (Value.tuple #[Value.agg #[Value.slice none 0 0], Value.agg #[Value.int IntKind.i64 0, Value.bool false], Value.int IntKind.i64 0])⟩) := ⟨by kernel_rfl, by kernel_rfl⟩
theorem tg106 : tabGood Try.prog (106, ⟨.other, 1, 8, Value.nilFunc⟩) := ⟨by kernel_rfl, by kernel_rfl⟩
theorem tg107 : tabGood Try.prog (107, ⟨(.struct [(3, 0, 1), (4, 1, 1), (3, 2, 1)]), 3, 24, (Value.agg #[Value.int IntKind.i64 0, Value.bool false, Value.int IntKind.i64 0])⟩) := ⟨by kernel_rfl, by kernel_rfl⟩
theorem tg108 : tabGood Try.prog (108, ⟨(.struct [(3, 0, 1), (4, 1, 1), (3, 2, 1)]), 3, 24, (Value.agg #[Value.int IntKind.i64 0, Value.bool false, Value.int IntKind.i64 0])⟩) := ⟨by kernel_rfl, by kernel_rfl⟩
theorem tg109 : tabGood Try.prog (109, ⟨.other, 1, 8, Value.nilFunc⟩) := ⟨by kernel_rfl, by kernel_rfl⟩
theorem tg110 : tabGood Try.prog (110, ⟨.other, 1, 8, Value.nilFunc⟩) := ⟨by kernel_rfl, by kernel_rfl⟩
theorem tg111 : tabGood Try.prog (111, ⟨.other, 1, 8, (Value.map none)⟩) := ⟨by kernel_rfl, by kernel_rfl⟩
theorem tg112 : tabGood Try.prog (112, ⟨.other, 1, 8, Value.nilFunc⟩) := ⟨by kernel_rfl, by kernel_rfl⟩
theorem tg113 : tabGood Try.prog (113, ⟨.other, 1, 8, Value.nilFunc⟩) := ⟨by kernel_rfl, by kernel_rfl⟩
theorem tg114 : tabGood Try.prog (114, ⟨(.array 3 3), 3, 24, (Value.agg #[Value.int IntKind.i64 0, Value.int IntKind.i64 0, Value.int IntKind.i64 0])⟩) := ⟨by kernel_rfl, by kernel_rfl⟩
theorem tg115 : tabGood Try.prog (115, ⟨.other, 1, 8, Value.nilFunc⟩) := ⟨by kernel_rfl, by kernel_rfl⟩
theorem tg116 : tabGood Try.prog (116, ⟨(.struct [(33, 0, 25), (3, 25, 1), (69, 26, 1), (3, 27, 1), (114, 28, 3), (115, 31, 1)]), 32, 272, (Value.agg #[Value.int IntKind.i64 0, Value.int IntKind.i64 0, Value.int IntKind.i64 0, Value.int IntKind.i64 0, Value.int IntKind.i64 0, Value.int IntKind.i64 0, Value.int IntKind.i64 0, Value.int IntKind.i64 0, Value.int IntKind.i64 0, Value.int IntKind.i64 0, Value.int IntKind.i64 0, Value.int IntKind.i64 0, Value.int IntKind.i64 0, Value.int IntKind.i64 0, Value.int IntKind.i64 0, Value.int IntKind.i64 0, Value.int IntKind.i64 0, Value.int IntKind.i64 0, Value.int IntKind.i64 0, Value.int IntKind.i64 0, Value.int IntKind.i64 0, Value.int IntKind.i64 0, Value.int IntKind.i64 0, Value.int IntKind.i64 0, Value.int IntKind.i64 0, Value.int IntKind.i64 0, Value.slice none 0 0, Value.int IntKind.i64 0, Value.int IntKind.i64 0, Value.int IntKind.i64 0, Value.int IntKind.i64 0, Value.nilFunc])⟩) := ⟨by kernel_rfl, by kernel_rfl⟩
theorem tg117 : tabGood Try.prog (117, ⟨(.struct [(33, 0, 25), (3, 25, 1), (69, 26, 1), (3, 27, 1), (114, 28, 3), (115, 31, 1)]), 32, 272, (Value.agg #[Value.int IntKind.i64 0, Value.int IntKind.i64 0, Value.int IntKind.i64 0, Value.int IntKind.i64 0, Value.int IntKind.i64 0, Value.int IntKind.i64 0, Value.int IntKind.i64 0, Value.int IntKind.i64 0, Value.int IntKind.i64 0, Value.int IntKind.i64 0, Value.int IntKind.i64 0, Value.int IntKind.i64 0, Value.int IntKind.i64 0, Value.int IntKind.i64 0, Value.int IntKind.i64 0, Value.int IntKind.i64 0, Value.int IntKind.i64 0, Value.int IntKind.i64 0, Value.int IntKind.i64 0, Value.int IntKind.i64 0, Value.int IntKind.i64 0, Value.int IntKind.i64 0, Value.int IntKind.i64 0, Value.int IntKind.i64 0, Value.int IntKind.i64 0, Value.int IntKind.i64 0, Value.slice none 0 0, Value.int IntKind.i64 0, Value.int IntKind.i64 0, Value.int IntKind.i64 0, Value.int IntKind.i64 0, Value.nilFunc])⟩) := ⟨by kernel_rfl, by kernel_rfl⟩
theorem tg118 : tabGood Try.prog (118, ⟨(.struct [(68, 0, 4)]), 4, 32, (Value.agg #[Value.int IntKind.i64 0, Value.int IntKind.i64 0, Value.int IntKind.i64 0, Value.int IntKind.i64 0])⟩) := ⟨by kernel_rfl, by kernel_rfl⟩
theorem tg119 : tabGood Try.prog (119, ⟨(.struct [(68, 0, 4)]), 4, 32, (Value.agg #[Value.int IntKind.i64 0, Value.int IntKind.i64 0, Value.int IntKind.i64 0, Value.int IntKind.i64 0])⟩) := ⟨by kernel_rfl, by kernel_rfl⟩
theorem tg120 : tabGood Try.prog (120, ⟨.other, 1, 0, (Value.tuple #[Value.int IntKind.i64 0, Value.int IntKind.i64 0, Value.bool false])⟩) := ⟨by kernel_rfl, by kernel_rfl⟩
theorem tg121 : tabGood Try.prog (121, ⟨.other, 1, 8, Value.nilFunc⟩) := ⟨by kernel_rfl, by kernel_rfl⟩
theorem tg122 : tabGood Try.prog (122, ⟨.other, 1, 8, Value.nilFunc⟩) := ⟨by kernel_rfl, by kernel_rfl⟩
theorem tg123 : tabGood Try.prog (123, ⟨.other, 1, 8, Value.nilFunc⟩) := ⟨by kernel_rfl, by kernel_rfl⟩
theorem tg124 : tabGood Try.prog (124, ⟨.other, 1, 8, Value.nilFunc⟩) := ⟨by kernel_rfl, by kernel_rfl⟩
theorem tg125 : tabGood Try.prog (125, ⟨.other, 1, 8, Value.nilFunc⟩) := ⟨by kernel_rfl, by kernel_rfl⟩
theorem tg126 : tabGood Try.prog (126, ⟨.other, 1, 0, (Value.tuple #[Value.int IntKind.i64 0, Value.int IntKind.i64 0, Value.int IntKind.i64 0])⟩) := ⟨by kernel_rfl, by kernel_rfl⟩
theorem tg127 : tabGood Try.prog (127, ⟨.other, 1, 8, Value.nilFunc⟩) := ⟨by kernel_rfl, by kernel_rfl⟩
theorem tg128 : tabGood Try.prog (128, ⟨.other, 1, 8, Value.nilFunc⟩) := ⟨by kernel_rfl, by kernel_rfl⟩
theorem tg129 : tabGood Try.prog (129, ⟨.other, 1, 8, Value.nilFunc⟩) := ⟨by kernel_rfl, by kernel_rfl⟩
theorem tg130 : tabGood Try.prog (130, ⟨.other, 1, 8, Value.nilFunc⟩) := ⟨by kernel_rfl, by kernel_rfl⟩
theorem tg131 : tabGood Try.prog (131, ⟨.other, 1, 8, Value.nilFunc⟩) := ⟨by kernel_rfl, by kernel_rfl⟩
theorem tg132 : tabGood Try.prog (132, ⟨.other, 1, 8, Value.nilFunc⟩) := ⟨by kernel_rfl, by kernel_rfl⟩
theorem tg133 : tabGood Try.prog (133, ⟨.other, 1, 8, Value.nilFunc⟩) := ⟨by kernel_rfl, by kernel_rfl⟩
theorem tg134 : tabGood Try.prog (134, ⟨(.int .u64), 1, 8, (Value.int IntKind.u64 0)⟩) := ⟨by kernel_rfl, by kernel_rfl⟩
theorem tg135 : tabGood Try.prog (135, ⟨.other, 1, 8, Value.nilFunc⟩) := ⟨by kernel_rfl, by kernel_rfl⟩
theorem tg136 : tabGood Try.prog (136, ⟨.other, 1, 8, Value.nilFunc⟩) := ⟨by kernel_rfl, by kernel_rfl⟩
theorem tg137 : tabGood Try.prog (137, ⟨.other, 1, 8, Value.nilFunc⟩) := ⟨by kernel_rfl, by kernel_rfl⟩
theorem tg138 : tabGood Try.prog (138, ⟨(.struct [(3, 0, 1), (3, 1, 1)]), 2, 16, (Value.agg #[Value.int IntKind.i64 0, Value.int IntKind.i64 0])⟩) := ⟨by kernel_rfl, by kernel_rfl⟩
theorem tg139 : tabGood Try.prog (139, ⟨(.struct [(3, 0, 1), (3, 1, 1)]), 2, 16, (Value.agg #[Value.int IntKind.i64 0, Value.int IntKind.i64 0])⟩) := ⟨by kernel_rfl, by kernel_rfl⟩
theorem tg140 : tabGood Try.prog (140, ⟨.other, 1, 0, (Value.tuple #[Value.int IntKind.i64 0, Value.int IntKind.i64 0])⟩) := ⟨by kernel_rfl, by kernel_rfl⟩
theorem tg141 : tabGood Try.prog (141, ⟨.other, 1, 8, Value.nilFunc⟩) := ⟨by kernel_rfl, by kernel_rfl⟩
theorem tg142 : tabGood Try.prog (142, ⟨.other, 1, 8, Value.nilFunc⟩) := ⟨by kernel_rfl, by kernel_rfl⟩
theorem tg143 : tabGood Try.prog (143, ⟨.other, 1, 8, Value.nilFunc⟩) := ⟨by kernel_rfl, by kernel_rfl⟩
theorem tg144 : tabGood Try.prog (144, ⟨.other, 1, 8, Value.nilFunc⟩) := ⟨by kernel_rfl, by kernel_rfl⟩
theorem tg145 : tabGood Try.prog (145, ⟨.other, 1, 8, Value.nilFunc⟩) := ⟨by kernel_rfl, by kernel_rfl⟩
theorem tg146 : tabGood Try.prog (146, ⟨(.slice 139), 1, 24, (Value.slice none 0 0)⟩) := ⟨by kernel_rfl, by kernel_rfl⟩
theorem tg147 : tabGood Try.prog (147, ⟨.other, 1, 8, Value.nilFunc⟩) := ⟨by kernel_rfl, by kernel_rfl⟩
theorem tg148 : tabGood Try.prog (148, ⟨.other, 1, 8, Value.nilFunc⟩) := ⟨by kernel_rfl, by kernel_rfl⟩
theorem tg149 : tabGood Try.prog (149, ⟨(.struct [(17, 0, 1), (17, 1, 1), (17, 2, 1), (9, 3, 1)]), 4, 40, (Value.agg #[Value.pointer none, Value.pointer none, Value.pointer none, Value.string { data := #[] }])⟩) := ⟨by kernel_rfl, by kernel_rfl⟩
theorem tg150 : tabGood Try.prog (150, ⟨(.struct [(17, 0, 1), (17, 1, 1), (17, 2, 1), (9, 3, 1)]), 4, 40, (Value.agg #[Value.pointer none, Value.pointer none, Value.pointer none, Value.string { data := #[] }])⟩) := ⟨by kernel_rfl, by kernel_rfl⟩
theorem tg151 : tabGood Try.prog (151, ⟨(.array 0 16), 0, 0, (Value.agg #[])⟩) := ⟨by kernel_rfl, by kernel_rfl⟩
theorem tg152 : tabGood Try.prog (152, ⟨(.struct [(151, 0, 0)]), 0, 0, (Value.agg #[])⟩) := ⟨by kernel_rfl, by kernel_rfl⟩
theorem tg153 : tabGood Try.prog (153, ⟨(.struct [(151, 0, 0)]), 0, 0, (Value.agg #[])⟩) := ⟨by kernel_rfl, by kernel_rfl⟩
theorem tg154 : tabGood Try.prog (154, ⟨(.int .u8), 1, 1, (Value.int IntKind.u8 0)⟩) := ⟨by kernel_rfl, by kernel_rfl⟩
theorem tg155 : tabGood Try.prog (155, ⟨(.int .u8), 1, 1, (Value.int IntKind.u8 0)⟩) := ⟨by kernel_rfl, by kernel_rfl⟩
theorem tg156 : tabGood Try.prog (156, ⟨.other, 1, 8, Value.nilFunc⟩) := ⟨by kernel_rfl, by kernel_rfl⟩
theorem tg157 : tabGood Try.prog (157, ⟨.other, 1, 8, (Value.pointer none)⟩) := ⟨by kernel_rfl, by kernel_rfl⟩
theorem tg158 : tabGood Try.prog (158, ⟨(.int .i32), 1, 4, (Value.int IntKind.i32 0)⟩) := ⟨by kernel_rfl, by kernel_rfl⟩
theorem tg159 : tabGood Try.prog (159, ⟨(.int .i32), 1, 4, (Value.int IntKind.i32 0)⟩) := ⟨by kernel_rfl, by kernel_rfl⟩
theorem tg160 : tabGood Try.prog (160, ⟨(.struct [(12, 0, 1), (12, 1, 1), (55, 2, 1), (154, 3, 1), (5, 4, 1), (5, 5, 1), (155, 6, 1), (156, 7, 1), (157, 8, 1), (158, 9, 1), (159, 10, 1)]), 11, 48, (Value.agg #[Value.int IntKind.u64 0, Value.int IntKind.u64 0, Value.int IntKind.u32 0, Value.int IntKind.u8 0, Value.int IntKind.u8 0, Value.int IntKind.u8 0, Value.int IntKind.u8 0, Value.nilFunc, Value.pointer none, Value.int IntKind.i32 0, Value.int IntKind.i32 0])⟩) := ⟨by kernel_rfl, by kernel_rfl⟩
theorem tg161 : tabGood Try.prog (161, ⟨(.struct [(12, 0, 1), (12, 1, 1), (55, 2, 1), (154, 3, 1), (5, 4, 1), (5, 5, 1), (155, 6, 1), (156, 7, 1), (157, 8, 1), (158, 9, 1), (159, 10, 1)]), 11, 48, (Value.agg #[Value.int IntKind.u64 0, Value.int IntKind.u64 0, Value.int IntKind.u32 0, Value.int IntKind.u8 0, Value.int IntKind.u8 0, Value.int IntKind.u8 0, Value.int IntKind.u8 0, Value.nilFunc, Value.pointer none, Value.int IntKind.i32 0, Value.int IntKind.i32 0])⟩) := ⟨by kernel_rfl, by kernel_rfl⟩
theorem tg162 : tabGood Try.prog (162, ⟨.other, 1, 8, (Value.pointer none)⟩) := ⟨by kernel_rfl, by kernel_rfl⟩
theorem tabOk : TabOk Try.prog tb := tab_of fun p hp => by
  simp only [tab, List.mem_cons, List.not_mem_nil, or_false] at hp
  rcases hp with rfl | rfl | rfl | rfl | rfl | rfl | rfl | rfl | rfl | rfl | rfl | rfl | rfl | rfl | rfl | rfl | rfl | rfl | rfl | rfl | rfl | rfl | rfl | rfl | rfl | rfl | rfl | rfl | rfl | rfl | rfl | rfl | rfl | rfl | rfl | rfl | rfl | rfl | rfl | rfl | rfl | rfl | rfl | rfl | rfl | rfl | rfl | rfl | rfl | rfl | rfl | rfl | rfl | rfl | rfl | rfl | rfl | rfl | rfl | rfl | rfl | rfl | rfl | rfl | rfl | rfl | rfl | rfl | rfl | rfl | rfl | rfl | rfl | rfl | rfl | rfl | rfl | rfl | rfl | rfl | rfl | rfl | rfl | rfl | rfl | rfl | rfl | rfl | rfl | rfl | rfl | rfl | rfl | rfl | rfl | rfl | rfl | rfl | rfl | rfl | rfl | rfl | rfl | rfl | rfl | rfl | rfl | rfl | rfl | rfl | rfl | rfl | rfl | rfl | rfl | rfl | rfl | rfl | rfl | rfl | rfl | rfl | rfl | rfl | rfl | rfl | rfl | rfl | rfl | rfl | rfl | rfl | rfl | rfl | rfl | rfl | rfl | rfl | rfl | rfl | rfl | rfl | rfl | rfl | rfl | rfl | rfl | rfl | rfl | rfl | rfl | rfl | rfl | rfl | rfl | rfl | rfl | rfl | rfl | rfl | rfl | rfl | rfl
  · exact tg0
  · exact tg1
  · exact tg2
  · exact tg3
  · exact tg4
  · exact tg5
  · exact tg6
  · exact tg7
  · exact tg8
  · exact tg9
  · exact tg10
  · exact tg11
  · exact tg12
  · exact tg13
  · exact tg14
  · exact tg15
  · exact tg16
  · exact tg17
  · exact tg18
  · exact tg19
  · exact tg20
  · exact tg21
  · exact tg22
  · exact tg23
  · exact tg24
  · exact tg25
  · exact tg26
  · exact tg27
  · exact tg28
  · exact tg29
  · exact tg30
  · exact tg31
  · exact tg32
  · exact tg33
  · exact tg34
  · exact tg35
  · exact tg36
  · exact tg37
  · exact tg38
  · exact tg39
  · exact tg40
  · exact tg41
  · exact tg42
  · exact tg43
  · exact tg44
  · exact tg45
  · exact tg46
  · exact tg47
  · exact tg48
  · exact tg49
  · exact tg50
  · exact tg51
  · exact tg52
  · exact tg53
  · exact tg54
  · exact tg55
  · exact tg56
  · exact tg57
  · exact tg58
  · exact tg59
  · exact tg60
  · exact tg61
  · exact tg62
  · exact tg63
  · exact tg64
  · exact tg65
  · exact tg66
  · exact tg67
  · exact tg68
  · exact tg69
  · exact tg70
  · exact tg71
  · exact tg72
  · exact tg73
  · exact tg74
  · exact tg75
  · exact tg76
  · exact tg77
  · exact tg78
  · exact tg79
  · exact tg80
  · exact tg81
  · exact tg82
  · exact tg83
  · exact tg84
  · exact tg85
  · exact tg86
  · exact tg87
  · exact tg88
  · exact tg89
  · exact tg90
  · exact tg91
  · exact tg92
  · exact tg93
  · exact tg94
  · exact tg95
  · exact tg96
  · exact tg97
  · exact tg98
  · exact tg99
  · exact tg100
  · exact tg101
  · exact tg102
  · exact tg103
  · exact tg104
  · exact tg105
  · exact tg106
  · exact tg107
  · exact tg108
  · exact tg109
  · exact tg110
  · exact tg111
  · exact tg112
  · exact tg113
  · exact tg114
  · exact tg115
  · exact tg116
  · exact tg117
  · exact tg118
  · exact tg119
  · exact tg120
  · exact tg121
  · exact tg122
  · exact tg123
  · exact tg124
  · exact tg125
  · exact tg126
  · exact tg127
  · exact tg128
  · exact tg129
  · exact tg130
  · exact tg131
  · exact tg132
  · exact tg133
  · exact tg134
  · exact tg135
  · exact tg136
  · exact tg137
  · exact tg138
  · exact tg139
  · exact tg140
  · exact tg141
  · exact tg142
  · exact tg143
  · exact tg144
  · exact tg145
  · exact tg146
  · exact tg147
  · exact tg148
  · exact tg149
  · exact tg150
  · exact tg151
  · exact tg152
  · exact tg153
  · exact tg154
  · exact tg155
  · exact tg156
  · exact tg157
  · exact tg158
  · exact tg159
  · exact tg160
  · exact tg161
  · exact tg162
end Go.Proofs.Ytdmnjoidfjidbaa
