/- The types of the program, as the abstract machine sees them. -/
import Derived.Test.YtcicjmhealkigaaProg
import Derived.Test.YtcicjmhealkigaaE6
set_option linter.unusedVariables false
namespace Go.Proofs.Hg
open Go.RowKit
theorem ti1 : TIOk Try.prog 1 ⟨.func, 1, 8, [.nilf]⟩ := ⟨by kernel_rfl, by kernel_rfl, by kernel_rfl, by kernel_rfl⟩
theorem ti2 : TIOk Try.prog 2 ⟨.int .i64, 1, 8, [.int .i64 0]⟩ := ⟨by kernel_rfl, by kernel_rfl, by kernel_rfl, by kernel_rfl⟩
theorem ti3 : TIOk Try.prog 3 ⟨.int .i64, 1, 8, [.int .i64 0]⟩ := ⟨by kernel_rfl, by kernel_rfl, by kernel_rfl, by kernel_rfl⟩
theorem ti4 : TIOk Try.prog 4 ⟨.bool, 1, 1, [.bool false]⟩ := ⟨by kernel_rfl, by kernel_rfl, by kernel_rfl, by kernel_rfl⟩
theorem ti5 : TIOk Try.prog 5 ⟨.int .u8, 1, 1, [.int .u8 0]⟩ := ⟨by kernel_rfl, by kernel_rfl, by kernel_rfl, by kernel_rfl⟩
theorem ti6 : TIOk Try.prog 6 ⟨.int .u8, 1, 1, [.int .u8 0]⟩ := ⟨by kernel_rfl, by kernel_rfl, by kernel_rfl, by kernel_rfl⟩
theorem ti7 : TIOk Try.prog 7 ⟨.struct [(0, 2), (1, 3), (2, 4), (3, 6)], 4, 24, [.int .i64 0, .int .i64 0, .bool false, .int .u8 0]⟩ := ⟨by kernel_rfl, by kernel_rfl, by kernel_rfl, by kernel_rfl⟩
theorem ti8 : TIOk Try.prog 8 ⟨.struct [(0, 2), (1, 3), (2, 4), (3, 6)], 4, 24, [.int .i64 0, .int .i64 0, .bool false, .int .u8 0]⟩ := ⟨by kernel_rfl, by kernel_rfl, by kernel_rfl, by kernel_rfl⟩
theorem ti9 : TIOk Try.prog 9 ⟨.str, 1, 16, [.str []]⟩ := ⟨by kernel_rfl, by kernel_rfl, by kernel_rfl, by kernel_rfl⟩
theorem ti10 : TIOk Try.prog 10 ⟨.str, 1, 16, [.str []]⟩ := ⟨by kernel_rfl, by kernel_rfl, by kernel_rfl, by kernel_rfl⟩
theorem ti11 : TIOk Try.prog 11 ⟨.str, 1, 16, [.str []]⟩ := ⟨by kernel_rfl, by kernel_rfl, by kernel_rfl, by kernel_rfl⟩
theorem ti12 : TIOk Try.prog 12 ⟨.int .u64, 1, 8, [.int .u64 0]⟩ := ⟨by kernel_rfl, by kernel_rfl, by kernel_rfl, by kernel_rfl⟩
theorem ti15 : TIOk Try.prog 15 ⟨.ptr 80, 1, 8, [.nilp]⟩ := ⟨by kernel_rfl, by kernel_rfl, by kernel_rfl, by kernel_rfl⟩
theorem ti16 : TIOk Try.prog 16 ⟨.ptr 83, 1, 8, [.nilp]⟩ := ⟨by kernel_rfl, by kernel_rfl, by kernel_rfl, by kernel_rfl⟩
theorem ti17 : TIOk Try.prog 17 ⟨.ptr 93, 1, 8, [.nilp]⟩ := ⟨by kernel_rfl, by kernel_rfl, by kernel_rfl, by kernel_rfl⟩
theorem ti20 : TIOk Try.prog 20 ⟨.other, 1, 16, [.nili]⟩ := ⟨by kernel_rfl, by kernel_rfl, by kernel_rfl, by kernel_rfl⟩
theorem ti21 : TIOk Try.prog 21 ⟨.int .i32, 1, 4, [.int .i32 0]⟩ := ⟨by kernel_rfl, by kernel_rfl, by kernel_rfl, by kernel_rfl⟩
theorem ti22 : TIOk Try.prog 22 ⟨.slice 54, 1, 24, [.slice (some true) 4 []]⟩ := ⟨by kernel_rfl, by kernel_rfl, by kernel_rfl, by kernel_rfl⟩
theorem ti23 : TIOk Try.prog 23 ⟨.slice 56, 1, 24, [.slice (some true) 3 []]⟩ := ⟨by kernel_rfl, by kernel_rfl, by kernel_rfl, by kernel_rfl⟩
theorem ti25 : TIOk Try.prog 25 ⟨.func, 1, 8, [.nilf]⟩ := ⟨by kernel_rfl, by kernel_rfl, by kernel_rfl, by kernel_rfl⟩
theorem ti26 : TIOk Try.prog 26 ⟨.func, 1, 8, [.nilf]⟩ := ⟨by kernel_rfl, by kernel_rfl, by kernel_rfl, by kernel_rfl⟩
theorem ti27 : TIOk Try.prog 27 ⟨.slice 38, 1, 24, [.slice (some true) 1 []]⟩ := ⟨by kernel_rfl, by kernel_rfl, by kernel_rfl, by kernel_rfl⟩
theorem ti28 : TIOk Try.prog 28 ⟨.int .i64, 1, 8, [.int .i64 0]⟩ := ⟨by kernel_rfl, by kernel_rfl, by kernel_rfl, by kernel_rfl⟩
theorem ti30 : TIOk Try.prog 30 ⟨.func, 1, 8, [.nilf]⟩ := ⟨by kernel_rfl, by kernel_rfl, by kernel_rfl, by kernel_rfl⟩
theorem ti31 : TIOk Try.prog 31 ⟨.struct [(0, 3), (1, 23)], 2, 32, [.int .i64 0, .slice (some true) 3 []]⟩ := ⟨by kernel_rfl, by kernel_rfl, by kernel_rfl, by kernel_rfl⟩
theorem ti32 : TIOk Try.prog 32 ⟨.struct [(0, 3), (1, 23)], 2, 32, [.int .i64 0, .slice (some true) 3 []]⟩ := ⟨by kernel_rfl, by kernel_rfl, by kernel_rfl, by kernel_rfl⟩
theorem ti33 : TIOk Try.prog 33 ⟨.func, 1, 8, [.nilf]⟩ := ⟨by kernel_rfl, by kernel_rfl, by kernel_rfl, by kernel_rfl⟩
theorem ti34 : TIOk Try.prog 34 ⟨.struct [(0, 3), (1, 23)], 2, 32, [.int .i64 0, .slice (some true) 3 []]⟩ := ⟨by kernel_rfl, by kernel_rfl, by kernel_rfl, by kernel_rfl⟩
theorem ti35 : TIOk Try.prog 35 ⟨.func, 1, 8, [.nilf]⟩ := ⟨by kernel_rfl, by kernel_rfl, by kernel_rfl, by kernel_rfl⟩
theorem ti36 : TIOk Try.prog 36 ⟨.func, 1, 8, [.nilf]⟩ := ⟨by kernel_rfl, by kernel_rfl, by kernel_rfl, by kernel_rfl⟩
theorem ti37 : TIOk Try.prog 37 ⟨.func, 1, 8, [.nilf]⟩ := ⟨by kernel_rfl, by kernel_rfl, by kernel_rfl, by kernel_rfl⟩
theorem ti38 : TIOk Try.prog 38 ⟨.slice 5, 1, 24, [.slice (some true) 1 []]⟩ := ⟨by kernel_rfl, by kernel_rfl, by kernel_rfl, by kernel_rfl⟩
theorem ti40 : TIOk Try.prog 40 ⟨.func, 1, 8, [.nilf]⟩ := ⟨by kernel_rfl, by kernel_rfl, by kernel_rfl, by kernel_rfl⟩
theorem ti42 : TIOk Try.prog 42 ⟨.func, 1, 8, [.nilf]⟩ := ⟨by kernel_rfl, by kernel_rfl, by kernel_rfl, by kernel_rfl⟩
theorem ti43 : TIOk Try.prog 43 ⟨.slice 32, 1, 24, [.slice (some true) 2 []]⟩ := ⟨by kernel_rfl, by kernel_rfl, by kernel_rfl, by kernel_rfl⟩
theorem ti44 : TIOk Try.prog 44 ⟨.func, 1, 8, [.nilf]⟩ := ⟨by kernel_rfl, by kernel_rfl, by kernel_rfl, by kernel_rfl⟩
theorem ti45 : TIOk Try.prog 45 ⟨.slice 34, 1, 24, [.slice (some true) 2 []]⟩ := ⟨by kernel_rfl, by kernel_rfl, by kernel_rfl, by kernel_rfl⟩
theorem ti46 : TIOk Try.prog 46 ⟨.func, 1, 8, [.nilf]⟩ := ⟨by kernel_rfl, by kernel_rfl, by kernel_rfl, by kernel_rfl⟩
theorem ti47 : TIOk Try.prog 47 ⟨.func, 1, 8, [.nilf]⟩ := ⟨by kernel_rfl, by kernel_rfl, by kernel_rfl, by kernel_rfl⟩
theorem ti48 : TIOk Try.prog 48 ⟨.func, 1, 8, [.nilf]⟩ := ⟨by kernel_rfl, by kernel_rfl, by kernel_rfl, by kernel_rfl⟩
theorem ti49 : TIOk Try.prog 49 ⟨.array 3 22, 3, 72, [.slice (some true) 4 [], .slice (some true) 4 [], .slice (some true) 4 []]⟩ := ⟨by kernel_rfl, by kernel_rfl, by kernel_rfl, by kernel_rfl⟩
theorem ti50 : TIOk Try.prog 50 ⟨.slice 3, 1, 24, [.slice (some true) 1 []]⟩ := ⟨by kernel_rfl, by kernel_rfl, by kernel_rfl, by kernel_rfl⟩
theorem ti51 : TIOk Try.prog 51 ⟨.slice 23, 1, 24, [.slice (some true) 1 []]⟩ := ⟨by kernel_rfl, by kernel_rfl, by kernel_rfl, by kernel_rfl⟩
theorem ti52 : TIOk Try.prog 52 ⟨.func, 1, 8, [.nilf]⟩ := ⟨by kernel_rfl, by kernel_rfl, by kernel_rfl, by kernel_rfl⟩
theorem ti53 : TIOk Try.prog 53 ⟨.struct [(0, 9), (1, 3), (2, 9), (3, 3)], 4, 48, [.str [], .int .i64 0, .str [], .int .i64 0]⟩ := ⟨by kernel_rfl, by kernel_rfl, by kernel_rfl, by kernel_rfl⟩
theorem ti54 : TIOk Try.prog 54 ⟨.struct [(0, 9), (1, 3), (2, 9), (3, 3)], 4, 48, [.str [], .int .i64 0, .str [], .int .i64 0]⟩ := ⟨by kernel_rfl, by kernel_rfl, by kernel_rfl, by kernel_rfl⟩
theorem ti55 : TIOk Try.prog 55 ⟨.struct [(0, 9), (1, 3), (2, 9)], 3, 40, [.str [], .int .i64 0, .str []]⟩ := ⟨by kernel_rfl, by kernel_rfl, by kernel_rfl, by kernel_rfl⟩
theorem ti56 : TIOk Try.prog 56 ⟨.struct [(0, 9), (1, 3), (2, 9)], 3, 40, [.str [], .int .i64 0, .str []]⟩ := ⟨by kernel_rfl, by kernel_rfl, by kernel_rfl, by kernel_rfl⟩
theorem ti57 : TIOk Try.prog 57 ⟨.func, 1, 8, [.nilf]⟩ := ⟨by kernel_rfl, by kernel_rfl, by kernel_rfl, by kernel_rfl⟩
theorem ti58 : TIOk Try.prog 58 ⟨.func, 1, 8, [.nilf]⟩ := ⟨by kernel_rfl, by kernel_rfl, by kernel_rfl, by kernel_rfl⟩
theorem ti59 : TIOk Try.prog 59 ⟨.func, 1, 8, [.nilf]⟩ := ⟨by kernel_rfl, by kernel_rfl, by kernel_rfl, by kernel_rfl⟩
theorem ti60 : TIOk Try.prog 60 ⟨.func, 1, 8, [.nilf]⟩ := ⟨by kernel_rfl, by kernel_rfl, by kernel_rfl, by kernel_rfl⟩
theorem ti61 : TIOk Try.prog 61 ⟨.func, 1, 8, [.nilf]⟩ := ⟨by kernel_rfl, by kernel_rfl, by kernel_rfl, by kernel_rfl⟩
theorem ti62 : TIOk Try.prog 62 ⟨.func, 1, 8, [.nilf]⟩ := ⟨by kernel_rfl, by kernel_rfl, by kernel_rfl, by kernel_rfl⟩
theorem ti63 : TIOk Try.prog 63 ⟨.int .u64, 1, 8, [.int .u64 0]⟩ := ⟨by kernel_rfl, by kernel_rfl, by kernel_rfl, by kernel_rfl⟩
theorem ti64 : TIOk Try.prog 64 ⟨.func, 1, 8, [.nilf]⟩ := ⟨by kernel_rfl, by kernel_rfl, by kernel_rfl, by kernel_rfl⟩
theorem ti65 : TIOk Try.prog 65 ⟨.func, 1, 8, [.nilf]⟩ := ⟨by kernel_rfl, by kernel_rfl, by kernel_rfl, by kernel_rfl⟩
theorem ti66 : TIOk Try.prog 66 ⟨.func, 1, 8, [.nilf]⟩ := ⟨by kernel_rfl, by kernel_rfl, by kernel_rfl, by kernel_rfl⟩
theorem ti67 : TIOk Try.prog 67 ⟨.func, 1, 8, [.nilf]⟩ := ⟨by kernel_rfl, by kernel_rfl, by kernel_rfl, by kernel_rfl⟩
theorem ti68 : TIOk Try.prog 68 ⟨.func, 1, 8, [.nilf]⟩ := ⟨by kernel_rfl, by kernel_rfl, by kernel_rfl, by kernel_rfl⟩
theorem ti69 : TIOk Try.prog 69 ⟨.func, 1, 8, [.nilf]⟩ := ⟨by kernel_rfl, by kernel_rfl, by kernel_rfl, by kernel_rfl⟩
theorem ti70 : TIOk Try.prog 70 ⟨.func, 1, 8, [.nilf]⟩ := ⟨by kernel_rfl, by kernel_rfl, by kernel_rfl, by kernel_rfl⟩
theorem ti71 : TIOk Try.prog 71 ⟨.func, 1, 8, [.nilf]⟩ := ⟨by kernel_rfl, by kernel_rfl, by kernel_rfl, by kernel_rfl⟩
theorem ti72 : TIOk Try.prog 72 ⟨.func, 1, 8, [.nilf]⟩ := ⟨by kernel_rfl, by kernel_rfl, by kernel_rfl, by kernel_rfl⟩
theorem ti73 : TIOk Try.prog 73 ⟨.func, 1, 8, [.nilf]⟩ := ⟨by kernel_rfl, by kernel_rfl, by kernel_rfl, by kernel_rfl⟩
theorem ti74 : TIOk Try.prog 74 ⟨.func, 1, 8, [.nilf]⟩ := ⟨by kernel_rfl, by kernel_rfl, by kernel_rfl, by kernel_rfl⟩
theorem ti75 : TIOk Try.prog 75 ⟨.int .u64, 1, 8, [.int .u64 0]⟩ := ⟨by kernel_rfl, by kernel_rfl, by kernel_rfl, by kernel_rfl⟩
theorem ti76 : TIOk Try.prog 76 ⟨.func, 1, 8, [.nilf]⟩ := ⟨by kernel_rfl, by kernel_rfl, by kernel_rfl, by kernel_rfl⟩
theorem ti77 : TIOk Try.prog 77 ⟨.func, 1, 8, [.nilf]⟩ := ⟨by kernel_rfl, by kernel_rfl, by kernel_rfl, by kernel_rfl⟩
theorem ti78 : TIOk Try.prog 78 ⟨.func, 1, 8, [.nilf]⟩ := ⟨by kernel_rfl, by kernel_rfl, by kernel_rfl, by kernel_rfl⟩
theorem ti81 : TIOk Try.prog 81 ⟨.array 0 16, 0, 0, []⟩ := ⟨by kernel_rfl, by kernel_rfl, by kernel_rfl, by kernel_rfl⟩
theorem ti84 : TIOk Try.prog 84 ⟨.func, 1, 8, [.nilf]⟩ := ⟨by kernel_rfl, by kernel_rfl, by kernel_rfl, by kernel_rfl⟩
theorem ti85 : TIOk Try.prog 85 ⟨.int .u32, 1, 4, [.int .u32 0]⟩ := ⟨by kernel_rfl, by kernel_rfl, by kernel_rfl, by kernel_rfl⟩
theorem ti86 : TIOk Try.prog 86 ⟨.int .u8, 1, 1, [.int .u8 0]⟩ := ⟨by kernel_rfl, by kernel_rfl, by kernel_rfl, by kernel_rfl⟩
theorem ti87 : TIOk Try.prog 87 ⟨.int .u8, 1, 1, [.int .u8 0]⟩ := ⟨by kernel_rfl, by kernel_rfl, by kernel_rfl, by kernel_rfl⟩
theorem ti88 : TIOk Try.prog 88 ⟨.func, 1, 8, [.nilf]⟩ := ⟨by kernel_rfl, by kernel_rfl, by kernel_rfl, by kernel_rfl⟩
theorem ti89 : TIOk Try.prog 89 ⟨.ptr 5, 1, 8, [.nilp]⟩ := ⟨by kernel_rfl, by kernel_rfl, by kernel_rfl, by kernel_rfl⟩
theorem ti90 : TIOk Try.prog 90 ⟨.int .i32, 1, 4, [.int .i32 0]⟩ := ⟨by kernel_rfl, by kernel_rfl, by kernel_rfl, by kernel_rfl⟩
theorem ti91 : TIOk Try.prog 91 ⟨.int .i32, 1, 4, [.int .i32 0]⟩ := ⟨by kernel_rfl, by kernel_rfl, by kernel_rfl, by kernel_rfl⟩
def tab : Tab := [
  (1, ⟨.func, 1, 8, [.nilf]⟩),
  (2, ⟨.int .i64, 1, 8, [.int .i64 0]⟩),
  (3, ⟨.int .i64, 1, 8, [.int .i64 0]⟩),
  (4, ⟨.bool, 1, 1, [.bool false]⟩),
  (5, ⟨.int .u8, 1, 1, [.int .u8 0]⟩),
  (6, ⟨.int .u8, 1, 1, [.int .u8 0]⟩),
  (7, ⟨.struct [(0, 2), (1, 3), (2, 4), (3, 6)], 4, 24, [.int .i64 0, .int .i64 0, .bool false, .int .u8 0]⟩),
  (8, ⟨.struct [(0, 2), (1, 3), (2, 4), (3, 6)], 4, 24, [.int .i64 0, .int .i64 0, .bool false, .int .u8 0]⟩),
  (9, ⟨.str, 1, 16, [.str []]⟩),
  (10, ⟨.str, 1, 16, [.str []]⟩),
  (11, ⟨.str, 1, 16, [.str []]⟩),
  (12, ⟨.int .u64, 1, 8, [.int .u64 0]⟩),
  (15, ⟨.ptr 80, 1, 8, [.nilp]⟩),
  (16, ⟨.ptr 83, 1, 8, [.nilp]⟩),
  (17, ⟨.ptr 93, 1, 8, [.nilp]⟩),
  (20, ⟨.other, 1, 16, [.nili]⟩),
  (21, ⟨.int .i32, 1, 4, [.int .i32 0]⟩),
  (22, ⟨.slice 54, 1, 24, [.slice (some true) 4 []]⟩),
  (23, ⟨.slice 56, 1, 24, [.slice (some true) 3 []]⟩),
  (25, ⟨.func, 1, 8, [.nilf]⟩),
  (26, ⟨.func, 1, 8, [.nilf]⟩),
  (27, ⟨.slice 38, 1, 24, [.slice (some true) 1 []]⟩),
  (28, ⟨.int .i64, 1, 8, [.int .i64 0]⟩),
  (30, ⟨.func, 1, 8, [.nilf]⟩),
  (31, ⟨.struct [(0, 3), (1, 23)], 2, 32, [.int .i64 0, .slice (some true) 3 []]⟩),
  (32, ⟨.struct [(0, 3), (1, 23)], 2, 32, [.int .i64 0, .slice (some true) 3 []]⟩),
  (33, ⟨.func, 1, 8, [.nilf]⟩),
  (34, ⟨.struct [(0, 3), (1, 23)], 2, 32, [.int .i64 0, .slice (some true) 3 []]⟩),
  (35, ⟨.func, 1, 8, [.nilf]⟩),
  (36, ⟨.func, 1, 8, [.nilf]⟩),
  (37, ⟨.func, 1, 8, [.nilf]⟩),
  (38, ⟨.slice 5, 1, 24, [.slice (some true) 1 []]⟩),
  (40, ⟨.func, 1, 8, [.nilf]⟩),
  (42, ⟨.func, 1, 8, [.nilf]⟩),
  (43, ⟨.slice 32, 1, 24, [.slice (some true) 2 []]⟩),
  (44, ⟨.func, 1, 8, [.nilf]⟩),
  (45, ⟨.slice 34, 1, 24, [.slice (some true) 2 []]⟩),
  (46, ⟨.func, 1, 8, [.nilf]⟩),
  (47, ⟨.func, 1, 8, [.nilf]⟩),
  (48, ⟨.func, 1, 8, [.nilf]⟩),
  (49, ⟨.array 3 22, 3, 72, [.slice (some true) 4 [], .slice (some true) 4 [], .slice (some true) 4 []]⟩),
  (50, ⟨.slice 3, 1, 24, [.slice (some true) 1 []]⟩),
  (51, ⟨.slice 23, 1, 24, [.slice (some true) 1 []]⟩),
  (52, ⟨.func, 1, 8, [.nilf]⟩),
  (53, ⟨.struct [(0, 9), (1, 3), (2, 9), (3, 3)], 4, 48, [.str [], .int .i64 0, .str [], .int .i64 0]⟩),
  (54, ⟨.struct [(0, 9), (1, 3), (2, 9), (3, 3)], 4, 48, [.str [], .int .i64 0, .str [], .int .i64 0]⟩),
  (55, ⟨.struct [(0, 9), (1, 3), (2, 9)], 3, 40, [.str [], .int .i64 0, .str []]⟩),
  (56, ⟨.struct [(0, 9), (1, 3), (2, 9)], 3, 40, [.str [], .int .i64 0, .str []]⟩),
  (57, ⟨.func, 1, 8, [.nilf]⟩),
  (58, ⟨.func, 1, 8, [.nilf]⟩),
  (59, ⟨.func, 1, 8, [.nilf]⟩),
  (60, ⟨.func, 1, 8, [.nilf]⟩),
  (61, ⟨.func, 1, 8, [.nilf]⟩),
  (62, ⟨.func, 1, 8, [.nilf]⟩),
  (63, ⟨.int .u64, 1, 8, [.int .u64 0]⟩),
  (64, ⟨.func, 1, 8, [.nilf]⟩),
  (65, ⟨.func, 1, 8, [.nilf]⟩),
  (66, ⟨.func, 1, 8, [.nilf]⟩),
  (67, ⟨.func, 1, 8, [.nilf]⟩),
  (68, ⟨.func, 1, 8, [.nilf]⟩),
  (69, ⟨.func, 1, 8, [.nilf]⟩),
  (70, ⟨.func, 1, 8, [.nilf]⟩),
  (71, ⟨.func, 1, 8, [.nilf]⟩),
  (72, ⟨.func, 1, 8, [.nilf]⟩),
  (73, ⟨.func, 1, 8, [.nilf]⟩),
  (74, ⟨.func, 1, 8, [.nilf]⟩),
  (75, ⟨.int .u64, 1, 8, [.int .u64 0]⟩),
  (76, ⟨.func, 1, 8, [.nilf]⟩),
  (77, ⟨.func, 1, 8, [.nilf]⟩),
  (78, ⟨.func, 1, 8, [.nilf]⟩),
  (81, ⟨.array 0 16, 0, 0, []⟩),
  (84, ⟨.func, 1, 8, [.nilf]⟩),
  (85, ⟨.int .u32, 1, 4, [.int .u32 0]⟩),
  (86, ⟨.int .u8, 1, 1, [.int .u8 0]⟩),
  (87, ⟨.int .u8, 1, 1, [.int .u8 0]⟩),
  (88, ⟨.func, 1, 8, [.nilf]⟩),
  (89, ⟨.ptr 5, 1, 8, [.nilp]⟩),
  (90, ⟨.int .i32, 1, 4, [.int .i32 0]⟩),
  (91, ⟨.int .i32, 1, 4, [.int .i32 0]⟩)]
theorem tab_ok : TabOk Try.prog tab := by
  intro p hp
  simp only [tab, List.mem_cons, List.not_mem_nil, or_false] at hp
  rcases hp with rfl | rfl | rfl | rfl | rfl | rfl | rfl | rfl | rfl | rfl | rfl | rfl | rfl | rfl | rfl | rfl | rfl | rfl | rfl | rfl | rfl | rfl | rfl | rfl | rfl | rfl | rfl | rfl | rfl | rfl | rfl | rfl | rfl | rfl | rfl | rfl | rfl | rfl | rfl | rfl | rfl | rfl | rfl | rfl | rfl | rfl | rfl | rfl | rfl | rfl | rfl | rfl | rfl | rfl | rfl | rfl | rfl | rfl | rfl | rfl | rfl | rfl | rfl | rfl | rfl | rfl | rfl | rfl | rfl | rfl | rfl | rfl | rfl | rfl | rfl | rfl | rfl | rfl | rfl
  · exact ti1
  · exact ti2
  · exact ti3
  · exact ti4
  · exact ti5
  · exact ti6
  · exact ti7
  · exact ti8
  · exact ti9
  · exact ti10
  · exact ti11
  · exact ti12
  · exact ti15
  · exact ti16
  · exact ti17
  · exact ti20
  · exact ti21
  · exact ti22
  · exact ti23
  · exact ti25
  · exact ti26
  · exact ti27
  · exact ti28
  · exact ti30
  · exact ti31
  · exact ti32
  · exact ti33
  · exact ti34
  · exact ti35
  · exact ti36
  · exact ti37
  · exact ti38
  · exact ti40
  · exact ti42
  · exact ti43
  · exact ti44
  · exact ti45
  · exact ti46
  · exact ti47
  · exact ti48
  · exact ti49
  · exact ti50
  · exact ti51
  · exact ti52
  · exact ti53
  · exact ti54
  · exact ti55
  · exact ti56
  · exact ti57
  · exact ti58
  · exact ti59
  · exact ti60
  · exact ti61
  · exact ti62
  · exact ti63
  · exact ti64
  · exact ti65
  · exact ti66
  · exact ti67
  · exact ti68
  · exact ti69
  · exact ti70
  · exact ti71
  · exact ti72
  · exact ti73
  · exact ti74
  · exact ti75
  · exact ti76
  · exact ti77
  · exact ti78
  · exact ti81
  · exact ti84
  · exact ti85
  · exact ti86
  · exact ti87
  · exact ti88
  · exact ti89
  · exact ti90
  · exact ti91
theorem tb1 : lookN 1 tab = some ⟨.func, 1, 8, [.nilf]⟩ := rfl
theorem tb2 : lookN 2 tab = some ⟨.int .i64, 1, 8, [.int .i64 0]⟩ := rfl
theorem tb3 : lookN 3 tab = some ⟨.int .i64, 1, 8, [.int .i64 0]⟩ := rfl
theorem tb4 : lookN 4 tab = some ⟨.bool, 1, 1, [.bool false]⟩ := rfl
theorem tb5 : lookN 5 tab = some ⟨.int .u8, 1, 1, [.int .u8 0]⟩ := rfl
theorem tb6 : lookN 6 tab = some ⟨.int .u8, 1, 1, [.int .u8 0]⟩ := rfl
theorem tb7 : lookN 7 tab = some ⟨.struct [(0, 2), (1, 3), (2, 4), (3, 6)], 4, 24, [.int .i64 0, .int .i64 0, .bool false, .int .u8 0]⟩ := rfl
theorem tb8 : lookN 8 tab = some ⟨.struct [(0, 2), (1, 3), (2, 4), (3, 6)], 4, 24, [.int .i64 0, .int .i64 0, .bool false, .int .u8 0]⟩ := rfl
theorem tb9 : lookN 9 tab = some ⟨.str, 1, 16, [.str []]⟩ := rfl
theorem tb10 : lookN 10 tab = some ⟨.str, 1, 16, [.str []]⟩ := rfl
theorem tb11 : lookN 11 tab = some ⟨.str, 1, 16, [.str []]⟩ := rfl
theorem tb12 : lookN 12 tab = some ⟨.int .u64, 1, 8, [.int .u64 0]⟩ := rfl
theorem tb15 : lookN 15 tab = some ⟨.ptr 80, 1, 8, [.nilp]⟩ := rfl
theorem tb16 : lookN 16 tab = some ⟨.ptr 83, 1, 8, [.nilp]⟩ := rfl
theorem tb17 : lookN 17 tab = some ⟨.ptr 93, 1, 8, [.nilp]⟩ := rfl
theorem tb20 : lookN 20 tab = some ⟨.other, 1, 16, [.nili]⟩ := rfl
theorem tb21 : lookN 21 tab = some ⟨.int .i32, 1, 4, [.int .i32 0]⟩ := rfl
theorem tb22 : lookN 22 tab = some ⟨.slice 54, 1, 24, [.slice (some true) 4 []]⟩ := rfl
theorem tb23 : lookN 23 tab = some ⟨.slice 56, 1, 24, [.slice (some true) 3 []]⟩ := rfl
theorem tb25 : lookN 25 tab = some ⟨.func, 1, 8, [.nilf]⟩ := rfl
theorem tb26 : lookN 26 tab = some ⟨.func, 1, 8, [.nilf]⟩ := rfl
theorem tb27 : lookN 27 tab = some ⟨.slice 38, 1, 24, [.slice (some true) 1 []]⟩ := rfl
theorem tb28 : lookN 28 tab = some ⟨.int .i64, 1, 8, [.int .i64 0]⟩ := rfl
theorem tb30 : lookN 30 tab = some ⟨.func, 1, 8, [.nilf]⟩ := rfl
theorem tb31 : lookN 31 tab = some ⟨.struct [(0, 3), (1, 23)], 2, 32, [.int .i64 0, .slice (some true) 3 []]⟩ := rfl
theorem tb32 : lookN 32 tab = some ⟨.struct [(0, 3), (1, 23)], 2, 32, [.int .i64 0, .slice (some true) 3 []]⟩ := rfl
theorem tb33 : lookN 33 tab = some ⟨.func, 1, 8, [.nilf]⟩ := rfl
theorem tb34 : lookN 34 tab = some ⟨.struct [(0, 3), (1, 23)], 2, 32, [.int .i64 0, .slice (some true) 3 []]⟩ := rfl
theorem tb35 : lookN 35 tab = some ⟨.func, 1, 8, [.nilf]⟩ := rfl
theorem tb36 : lookN 36 tab = some ⟨.func, 1, 8, [.nilf]⟩ := rfl
theorem tb37 : lookN 37 tab = some ⟨.func, 1, 8, [.nilf]⟩ := rfl
theorem tb38 : lookN 38 tab = some ⟨.slice 5, 1, 24, [.slice (some true) 1 []]⟩ := rfl
theorem tb40 : lookN 40 tab = some ⟨.func, 1, 8, [.nilf]⟩ := rfl
theorem tb42 : lookN 42 tab = some ⟨.func, 1, 8, [.nilf]⟩ := rfl
theorem tb43 : lookN 43 tab = some ⟨.slice 32, 1, 24, [.slice (some true) 2 []]⟩ := rfl
theorem tb44 : lookN 44 tab = some ⟨.func, 1, 8, [.nilf]⟩ := rfl
theorem tb45 : lookN 45 tab = some ⟨.slice 34, 1, 24, [.slice (some true) 2 []]⟩ := rfl
theorem tb46 : lookN 46 tab = some ⟨.func, 1, 8, [.nilf]⟩ := rfl
theorem tb47 : lookN 47 tab = some ⟨.func, 1, 8, [.nilf]⟩ := rfl
theorem tb48 : lookN 48 tab = some ⟨.func, 1, 8, [.nilf]⟩ := rfl
theorem tb49 : lookN 49 tab = some ⟨.array 3 22, 3, 72, [.slice (some true) 4 [], .slice (some true) 4 [], .slice (some true) 4 []]⟩ := rfl
theorem tb50 : lookN 50 tab = some ⟨.slice 3, 1, 24, [.slice (some true) 1 []]⟩ := rfl
theorem tb51 : lookN 51 tab = some ⟨.slice 23, 1, 24, [.slice (some true) 1 []]⟩ := rfl
theorem tb52 : lookN 52 tab = some ⟨.func, 1, 8, [.nilf]⟩ := rfl
theorem tb53 : lookN 53 tab = some ⟨.struct [(0, 9), (1, 3), (2, 9), (3, 3)], 4, 48, [.str [], .int .i64 0, .str [], .int .i64 0]⟩ := rfl
theorem tb54 : lookN 54 tab = some ⟨.struct [(0, 9), (1, 3), (2, 9), (3, 3)], 4, 48, [.str [], .int .i64 0, .str [], .int .i64 0]⟩ := rfl
theorem tb55 : lookN 55 tab = some ⟨.struct [(0, 9), (1, 3), (2, 9)], 3, 40, [.str [], .int .i64 0, .str []]⟩ := rfl
theorem tb56 : lookN 56 tab = some ⟨.struct [(0, 9), (1, 3), (2, 9)], 3, 40, [.str [], .int .i64 0, .str []]⟩ := rfl
theorem tb57 : lookN 57 tab = some ⟨.func, 1, 8, [.nilf]⟩ := rfl
theorem tb58 : lookN 58 tab = some ⟨.func, 1, 8, [.nilf]⟩ := rfl
theorem tb59 : lookN 59 tab = some ⟨.func, 1, 8, [.nilf]⟩ := rfl
theorem tb60 : lookN 60 tab = some ⟨.func, 1, 8, [.nilf]⟩ := rfl
theorem tb61 : lookN 61 tab = some ⟨.func, 1, 8, [.nilf]⟩ := rfl
theorem tb62 : lookN 62 tab = some ⟨.func, 1, 8, [.nilf]⟩ := rfl
theorem tb63 : lookN 63 tab = some ⟨.int .u64, 1, 8, [.int .u64 0]⟩ := rfl
theorem tb64 : lookN 64 tab = some ⟨.func, 1, 8, [.nilf]⟩ := rfl
theorem tb65 : lookN 65 tab = some ⟨.func, 1, 8, [.nilf]⟩ := rfl
theorem tb66 : lookN 66 tab = some ⟨.func, 1, 8, [.nilf]⟩ := rfl
theorem tb67 : lookN 67 tab = some ⟨.func, 1, 8, [.nilf]⟩ := rfl
theorem tb68 : lookN 68 tab = some ⟨.func, 1, 8, [.nilf]⟩ := rfl
theorem tb69 : lookN 69 tab = some ⟨.func, 1, 8, [.nilf]⟩ := rfl
theorem tb70 : lookN 70 tab = some ⟨.func, 1, 8, [.nilf]⟩ := rfl
theorem tb71 : lookN 71 tab = some ⟨.func, 1, 8, [.nilf]⟩ := rfl
theorem tb72 : lookN 72 tab = some ⟨.func, 1, 8, [.nilf]⟩ := rfl
theorem tb73 : lookN 73 tab = some ⟨.func, 1, 8, [.nilf]⟩ := rfl
theorem tb74 : lookN 74 tab = some ⟨.func, 1, 8, [.nilf]⟩ := rfl
theorem tb75 : lookN 75 tab = some ⟨.int .u64, 1, 8, [.int .u64 0]⟩ := rfl
theorem tb76 : lookN 76 tab = some ⟨.func, 1, 8, [.nilf]⟩ := rfl
theorem tb77 : lookN 77 tab = some ⟨.func, 1, 8, [.nilf]⟩ := rfl
theorem tb78 : lookN 78 tab = some ⟨.func, 1, 8, [.nilf]⟩ := rfl
theorem tb81 : lookN 81 tab = some ⟨.array 0 16, 0, 0, []⟩ := rfl
theorem tb84 : lookN 84 tab = some ⟨.func, 1, 8, [.nilf]⟩ := rfl
theorem tb85 : lookN 85 tab = some ⟨.int .u32, 1, 4, [.int .u32 0]⟩ := rfl
theorem tb86 : lookN 86 tab = some ⟨.int .u8, 1, 1, [.int .u8 0]⟩ := rfl
theorem tb87 : lookN 87 tab = some ⟨.int .u8, 1, 1, [.int .u8 0]⟩ := rfl
theorem tb88 : lookN 88 tab = some ⟨.func, 1, 8, [.nilf]⟩ := rfl
theorem tb89 : lookN 89 tab = some ⟨.ptr 5, 1, 8, [.nilp]⟩ := rfl
theorem tb90 : lookN 90 tab = some ⟨.int .i32, 1, 4, [.int .i32 0]⟩ := rfl
theorem tb91 : lookN 91 tab = some ⟨.int .i32, 1, 4, [.int .i32 0]⟩ := rfl
attribute [go_sem] tb1 tb2 tb3 tb4 tb5 tb6 tb7 tb8 tb9 tb10 tb11 tb12 tb15 tb16 tb17 tb20 tb21 tb22 tb23 tb25 tb26 tb27 tb28 tb30 tb31 tb32 tb33 tb34 tb35 tb36 tb37 tb38 tb40 tb42 tb43 tb44 tb45 tb46 tb47 tb48 tb49 tb50 tb51 tb52 tb53 tb54 tb55 tb56 tb57 tb58 tb59 tb60 tb61 tb62 tb63 tb64 tb65 tb66 tb67 tb68 tb69 tb70 tb71 tb72 tb73 tb74 tb75 tb76 tb77 tb78 tb81 tb84 tb85 tb86 tb87 tb88 tb89 tb90 tb91
theorem noKnow (P : Program) : KnowOk P (fun _ _ _ _ => none) := by intro g f H a r h; cases h
theorem mixed : Try.prog.follows .mixedOrders = true := by kernel_rfl
end Go.Proofs.Hg
