/- The table of the types of this program that the logic uses, checked against the program. -/
import Derived.Test.YtejdlelhlpnabaaDoorProg
import Derived.Test.YtejdlelhlpnabaaDoorKRLay
set_option linter.all false
namespace Go.Rad
open Go
def tbl : List TI := [
  ⟨.other, false, 0, 0, []⟩,
  ⟨.func, false, 1, 8, [.nilfn]⟩,
  ⟨.int .i64, false, 1, 8, [.int .i64 0]⟩,
  ⟨.int .i64, false, 1, 8, [.int .i64 0]⟩,
  ⟨.bool, false, 1, 1, [.bool false]⟩,
  ⟨.int .u8, false, 1, 1, [.int .u8 0]⟩,
  ⟨.int .u8, false, 1, 1, [.int .u8 0]⟩,
  ⟨.struct [(0, 2), (1, 3), (2, 4), (3, 6)], true, 4, 24, [.int .i64 0, .int .i64 0, .bool false, .int .u8 0]⟩,
  ⟨.struct [(0, 2), (1, 3), (2, 4), (3, 6)], true, 4, 24, [.int .i64 0, .int .i64 0, .bool false, .int .u8 0]⟩,
  ⟨.string, false, 1, 16, [.str ByteArray.empty]⟩,
  ⟨.string, false, 1, 16, [.str ByteArray.empty]⟩,
  ⟨.string, false, 1, 16, [.str ByteArray.empty]⟩,
  ⟨.int .u64, false, 1, 8, [.int .u64 0]⟩,
  ⟨.struct [(0, 9), (1, 12)], true, 2, 24, [.str ByteArray.empty, .int .u64 0]⟩,
  ⟨.struct [(0, 9), (1, 12)], true, 2, 24, [.str ByteArray.empty, .int .u64 0]⟩,
  ⟨.ptr, false, 1, 8, [.nil]⟩,
  ⟨.ptr, false, 1, 8, [.nil]⟩,
  ⟨.ptr, false, 1, 8, [.nil]⟩,
  ⟨.struct [(0, 17)], true, 1, 8, [.nil]⟩,
  ⟨.struct [(0, 17)], true, 1, 8, [.nil]⟩,
  ⟨.other, false, 0, 0, []⟩,
  ⟨.int .i32, false, 1, 4, [.int .i32 0]⟩,
  ⟨.slice 41, false, 1, 24, [.sl true true []]⟩,
  ⟨.slice 27, false, 1, 24, [.sl true true []]⟩,
  ⟨.func, false, 1, 8, [.nilfn]⟩,
  ⟨.func, false, 1, 8, [.nilfn]⟩,
  ⟨.struct [(0, 9), (1, 22)], true, 2, 40, [.str ByteArray.empty, .sl true true []]⟩,
  ⟨.struct [(0, 9), (1, 22)], true, 2, 40, [.str ByteArray.empty, .sl true true []]⟩,
  ⟨.func, false, 1, 8, [.nilfn]⟩,
  ⟨.int .i64, false, 1, 8, [.int .i64 0]⟩,
  ⟨.other, false, 0, 0, []⟩,
  ⟨.func, false, 1, 8, [.nilfn]⟩,
  ⟨.func, false, 1, 8, [.nilfn]⟩,
  ⟨.func, false, 1, 8, [.nilfn]⟩,
  ⟨.func, false, 1, 8, [.nilfn]⟩,
  ⟨.func, false, 1, 8, [.nilfn]⟩,
  ⟨.int .u64, false, 1, 8, [.int .u64 0]⟩,
  ⟨.array 4 36, true, 4, 32, [.int .u64 0, .int .u64 0, .int .u64 0, .int .u64 0]⟩,
  ⟨.array 4 36, true, 4, 32, [.int .u64 0, .int .u64 0, .int .u64 0, .int .u64 0]⟩,
  ⟨.slice 3, false, 1, 24, [.sl true true []]⟩,
  ⟨.struct [(0, 5), (1, 38), (5, 39), (6, 3), (7, 3), (8, 9)], true, 9, 96, [.int .u8 0, .int .u64 0, .int .u64 0, .int .u64 0, .int .u64 0, .sl true true [], .int .i64 0, .int .i64 0, .str ByteArray.empty]⟩,
  ⟨.struct [(0, 5), (1, 38), (5, 39), (6, 3), (7, 3), (8, 9)], true, 9, 96, [.int .u8 0, .int .u64 0, .int .u64 0, .int .u64 0, .int .u64 0, .sl true true [], .int .i64 0, .int .i64 0, .str ByteArray.empty]⟩,
  ⟨.other, false, 0, 0, []⟩,
  ⟨.func, false, 1, 8, [.nilfn]⟩,
  ⟨.func, false, 1, 8, [.nilfn]⟩,
  ⟨.func, false, 1, 8, [.nilfn]⟩,
  ⟨.ptr, false, 1, 8, [.nil]⟩,
  ⟨.map 9 22, false, 1, 8, [.nilmap]⟩,
  ⟨.map 9 4, false, 1, 8, [.nilmap]⟩,
  ⟨.struct [(0, 47), (1, 48), (2, 22)], true, 3, 40, [.nilmap, .nilmap, .sl true true []]⟩,
  ⟨.struct [(0, 47), (1, 48), (2, 22)], true, 3, 40, [.nilmap, .nilmap, .sl true true []]⟩,
  ⟨.other, false, 0, 0, []⟩,
  ⟨.func, false, 1, 8, [.nilfn]⟩,
  ⟨.ptr, false, 1, 8, [.nil]⟩,
  ⟨.slice 4, false, 1, 24, [.sl true true []]⟩,
  ⟨.struct [(0, 23), (1, 54), (2, 22), (3, 29)], true, 4, 80, [.sl true true [], .sl true true [], .sl true true [], .int .i64 0]⟩,
  ⟨.struct [(0, 23), (1, 54), (2, 22), (3, 29)], true, 4, 80, [.sl true true [], .sl true true [], .sl true true [], .int .i64 0]⟩,
  ⟨.func, false, 1, 8, [.nilfn]⟩,
  ⟨.func, false, 1, 8, [.nilfn]⟩,
  ⟨.func, false, 1, 8, [.nilfn]⟩,
  ⟨.func, false, 1, 8, [.nilfn]⟩,
  ⟨.func, false, 1, 8, [.nilfn]⟩,
  ⟨.func, false, 1, 8, [.nilfn]⟩,
  ⟨.other, false, 0, 0, []⟩,
  ⟨.func, false, 1, 8, [.nilfn]⟩,
  ⟨.ptr, false, 1, 8, [.nil]⟩,
  ⟨.struct [(0, 9), (1, 3), (2, 22), (3, 3), (4, 29), (5, 3)], true, 6, 72, [.str ByteArray.empty, .int .i64 0, .sl true true [], .int .i64 0, .int .i64 0, .int .i64 0]⟩,
  ⟨.struct [(0, 9), (1, 3), (2, 22), (3, 3), (4, 29), (5, 3)], true, 6, 72, [.str ByteArray.empty, .int .i64 0, .sl true true [], .int .i64 0, .int .i64 0, .int .i64 0]⟩,
  ⟨.func, false, 1, 8, [.nilfn]⟩,
  ⟨.func, false, 1, 8, [.nilfn]⟩,
  ⟨.func, false, 1, 8, [.nilfn]⟩,
  ⟨.slice 5, false, 1, 24, [.sl true true []]⟩,
  ⟨.func, false, 1, 8, [.nilfn]⟩,
  ⟨.func, false, 1, 8, [.nilfn]⟩,
  ⟨.func, false, 1, 8, [.nilfn]⟩,
  ⟨.func, false, 1, 8, [.nilfn]⟩,
  ⟨.func, false, 1, 8, [.nilfn]⟩,
  ⟨.func, false, 1, 8, [.nilfn]⟩,
  ⟨.func, false, 1, 8, [.nilfn]⟩,
  ⟨.func, false, 1, 8, [.nilfn]⟩,
  ⟨.func, false, 1, 8, [.nilfn]⟩,
  ⟨.func, false, 1, 8, [.nilfn]⟩,
  ⟨.func, false, 1, 8, [.nilfn]⟩,
  ⟨.func, false, 1, 8, [.nilfn]⟩,
  ⟨.func, false, 1, 8, [.nilfn]⟩,
  ⟨.slice 38, false, 1, 24, [.sl true true []]⟩,
  ⟨.other, false, 0, 0, []⟩,
  ⟨.array 64 5, true, 64, 64, (List.replicate 64 (.int .u8 0))⟩,
  ⟨.int .u64, false, 1, 8, [.int .u64 0]⟩,
  ⟨.other, false, 0, 0, []⟩,
  ⟨.func, false, 1, 8, [.nilfn]⟩,
  ⟨.func, false, 1, 8, [.nilfn]⟩,
  ⟨.func, false, 1, 8, [.nilfn]⟩,
  ⟨.func, false, 1, 8, [.nilfn]⟩,
  ⟨.func, false, 1, 8, [.nilfn]⟩,
  ⟨.func, false, 1, 8, [.nilfn]⟩,
  ⟨.func, false, 1, 8, [.nilfn]⟩,
  ⟨.struct [(0, 17), (1, 17), (2, 17), (3, 9)], true, 4, 40, [.nil, .nil, .nil, .str ByteArray.empty]⟩,
  ⟨.struct [(0, 17), (1, 17), (2, 17), (3, 9)], true, 4, 40, [.nil, .nil, .nil, .str ByteArray.empty]⟩,
  ⟨.array 0 16, true, 0, 0, []⟩,
  ⟨.other, false, 0, 0, []⟩,
  ⟨.other, false, 0, 0, []⟩,
  ⟨.int .u32, false, 1, 4, [.int .u32 0]⟩,
  ⟨.int .u8, false, 1, 1, [.int .u8 0]⟩,
  ⟨.int .u8, false, 1, 1, [.int .u8 0]⟩,
  ⟨.func, false, 1, 8, [.nilfn]⟩,
  ⟨.ptr, false, 1, 8, [.nil]⟩,
  ⟨.int .i32, false, 1, 4, [.int .i32 0]⟩,
  ⟨.int .i32, false, 1, 4, [.int .i32 0]⟩,
  ⟨.struct [(0, 12), (1, 12), (2, 102), (3, 103), (4, 5), (5, 5), (6, 104), (7, 105), (8, 106), (9, 107), (10, 108)], true, 11, 48, [.int .u64 0, .int .u64 0, .int .u32 0, .int .u8 0, .int .u8 0, .int .u8 0, .int .u8 0, .nilfn, .nil, .int .i32 0, .int .i32 0]⟩,
  ⟨.struct [(0, 12), (1, 12), (2, 102), (3, 103), (4, 5), (5, 5), (6, 104), (7, 105), (8, 106), (9, 107), (10, 108)], true, 11, 48, [.int .u64 0, .int .u64 0, .int .u32 0, .int .u8 0, .int .u8 0, .int .u8 0, .int .u8 0, .nilfn, .nil, .int .i32 0, .int .i32 0]⟩,
  ⟨.other, false, 0, 0, []⟩]
def LL : Lay := layOf tbl
theorem LL_ok : LOk Go.Proofs.Tryd.prog LL := layOk _ _ (by kernel_rfl)
theorem mixed : Go.Proofs.Tryd.prog.follows .mixedOrders = true := by decide
theorem LL_1 : LL 1 = ⟨.func, false, 1, 8, [.nilfn]⟩ := Eq.trans rfl rfl
theorem LL_2 : LL 2 = ⟨.int .i64, false, 1, 8, [.int .i64 0]⟩ := Eq.trans rfl rfl
theorem LL_3 : LL 3 = ⟨.int .i64, false, 1, 8, [.int .i64 0]⟩ := Eq.trans rfl rfl
theorem LL_4 : LL 4 = ⟨.bool, false, 1, 1, [.bool false]⟩ := Eq.trans rfl rfl
theorem LL_5 : LL 5 = ⟨.int .u8, false, 1, 1, [.int .u8 0]⟩ := Eq.trans rfl rfl
theorem LL_6 : LL 6 = ⟨.int .u8, false, 1, 1, [.int .u8 0]⟩ := Eq.trans rfl rfl
theorem LL_7 : LL 7 = ⟨.struct [(0, 2), (1, 3), (2, 4), (3, 6)], true, 4, 24, [.int .i64 0, .int .i64 0, .bool false, .int .u8 0]⟩ := Eq.trans rfl rfl
theorem LL_8 : LL 8 = ⟨.struct [(0, 2), (1, 3), (2, 4), (3, 6)], true, 4, 24, [.int .i64 0, .int .i64 0, .bool false, .int .u8 0]⟩ := Eq.trans rfl rfl
theorem LL_9 : LL 9 = ⟨.string, false, 1, 16, [.str ByteArray.empty]⟩ := Eq.trans rfl rfl
theorem LL_10 : LL 10 = ⟨.string, false, 1, 16, [.str ByteArray.empty]⟩ := Eq.trans rfl rfl
theorem LL_11 : LL 11 = ⟨.string, false, 1, 16, [.str ByteArray.empty]⟩ := Eq.trans rfl rfl
theorem LL_12 : LL 12 = ⟨.int .u64, false, 1, 8, [.int .u64 0]⟩ := Eq.trans rfl rfl
theorem LL_13 : LL 13 = ⟨.struct [(0, 9), (1, 12)], true, 2, 24, [.str ByteArray.empty, .int .u64 0]⟩ := Eq.trans rfl rfl
theorem LL_14 : LL 14 = ⟨.struct [(0, 9), (1, 12)], true, 2, 24, [.str ByteArray.empty, .int .u64 0]⟩ := Eq.trans rfl rfl
theorem LL_15 : LL 15 = ⟨.ptr, false, 1, 8, [.nil]⟩ := Eq.trans rfl rfl
theorem LL_16 : LL 16 = ⟨.ptr, false, 1, 8, [.nil]⟩ := Eq.trans rfl rfl
theorem LL_17 : LL 17 = ⟨.ptr, false, 1, 8, [.nil]⟩ := Eq.trans rfl rfl
theorem LL_18 : LL 18 = ⟨.struct [(0, 17)], true, 1, 8, [.nil]⟩ := Eq.trans rfl rfl
theorem LL_19 : LL 19 = ⟨.struct [(0, 17)], true, 1, 8, [.nil]⟩ := Eq.trans rfl rfl
theorem LL_21 : LL 21 = ⟨.int .i32, false, 1, 4, [.int .i32 0]⟩ := Eq.trans rfl rfl
theorem LL_22 : LL 22 = ⟨.slice 41, false, 1, 24, [.sl true true []]⟩ := Eq.trans rfl rfl
theorem LL_23 : LL 23 = ⟨.slice 27, false, 1, 24, [.sl true true []]⟩ := Eq.trans rfl rfl
theorem LL_24 : LL 24 = ⟨.func, false, 1, 8, [.nilfn]⟩ := Eq.trans rfl rfl
theorem LL_25 : LL 25 = ⟨.func, false, 1, 8, [.nilfn]⟩ := Eq.trans rfl rfl
theorem LL_26 : LL 26 = ⟨.struct [(0, 9), (1, 22)], true, 2, 40, [.str ByteArray.empty, .sl true true []]⟩ := Eq.trans rfl rfl
theorem LL_27 : LL 27 = ⟨.struct [(0, 9), (1, 22)], true, 2, 40, [.str ByteArray.empty, .sl true true []]⟩ := Eq.trans rfl rfl
theorem LL_28 : LL 28 = ⟨.func, false, 1, 8, [.nilfn]⟩ := Eq.trans rfl rfl
theorem LL_29 : LL 29 = ⟨.int .i64, false, 1, 8, [.int .i64 0]⟩ := Eq.trans rfl rfl
theorem LL_31 : LL 31 = ⟨.func, false, 1, 8, [.nilfn]⟩ := Eq.trans rfl rfl
theorem LL_32 : LL 32 = ⟨.func, false, 1, 8, [.nilfn]⟩ := Eq.trans rfl rfl
theorem LL_33 : LL 33 = ⟨.func, false, 1, 8, [.nilfn]⟩ := Eq.trans rfl rfl
theorem LL_34 : LL 34 = ⟨.func, false, 1, 8, [.nilfn]⟩ := Eq.trans rfl rfl
theorem LL_35 : LL 35 = ⟨.func, false, 1, 8, [.nilfn]⟩ := Eq.trans rfl rfl
theorem LL_36 : LL 36 = ⟨.int .u64, false, 1, 8, [.int .u64 0]⟩ := Eq.trans rfl rfl
theorem LL_37 : LL 37 = ⟨.array 4 36, true, 4, 32, [.int .u64 0, .int .u64 0, .int .u64 0, .int .u64 0]⟩ := Eq.trans rfl rfl
theorem LL_38 : LL 38 = ⟨.array 4 36, true, 4, 32, [.int .u64 0, .int .u64 0, .int .u64 0, .int .u64 0]⟩ := Eq.trans rfl rfl
theorem LL_39 : LL 39 = ⟨.slice 3, false, 1, 24, [.sl true true []]⟩ := Eq.trans rfl rfl
theorem LL_40 : LL 40 = ⟨.struct [(0, 5), (1, 38), (5, 39), (6, 3), (7, 3), (8, 9)], true, 9, 96, [.int .u8 0, .int .u64 0, .int .u64 0, .int .u64 0, .int .u64 0, .sl true true [], .int .i64 0, .int .i64 0, .str ByteArray.empty]⟩ := Eq.trans rfl rfl
theorem LL_41 : LL 41 = ⟨.struct [(0, 5), (1, 38), (5, 39), (6, 3), (7, 3), (8, 9)], true, 9, 96, [.int .u8 0, .int .u64 0, .int .u64 0, .int .u64 0, .int .u64 0, .sl true true [], .int .i64 0, .int .i64 0, .str ByteArray.empty]⟩ := Eq.trans rfl rfl
theorem LL_43 : LL 43 = ⟨.func, false, 1, 8, [.nilfn]⟩ := Eq.trans rfl rfl
theorem LL_44 : LL 44 = ⟨.func, false, 1, 8, [.nilfn]⟩ := Eq.trans rfl rfl
theorem LL_45 : LL 45 = ⟨.func, false, 1, 8, [.nilfn]⟩ := Eq.trans rfl rfl
theorem LL_46 : LL 46 = ⟨.ptr, false, 1, 8, [.nil]⟩ := Eq.trans rfl rfl
theorem LL_47 : LL 47 = ⟨.map 9 22, false, 1, 8, [.nilmap]⟩ := Eq.trans rfl rfl
theorem LL_48 : LL 48 = ⟨.map 9 4, false, 1, 8, [.nilmap]⟩ := Eq.trans rfl rfl
theorem LL_49 : LL 49 = ⟨.struct [(0, 47), (1, 48), (2, 22)], true, 3, 40, [.nilmap, .nilmap, .sl true true []]⟩ := Eq.trans rfl rfl
theorem LL_50 : LL 50 = ⟨.struct [(0, 47), (1, 48), (2, 22)], true, 3, 40, [.nilmap, .nilmap, .sl true true []]⟩ := Eq.trans rfl rfl
theorem LL_52 : LL 52 = ⟨.func, false, 1, 8, [.nilfn]⟩ := Eq.trans rfl rfl
theorem LL_53 : LL 53 = ⟨.ptr, false, 1, 8, [.nil]⟩ := Eq.trans rfl rfl
theorem LL_54 : LL 54 = ⟨.slice 4, false, 1, 24, [.sl true true []]⟩ := Eq.trans rfl rfl
theorem LL_55 : LL 55 = ⟨.struct [(0, 23), (1, 54), (2, 22), (3, 29)], true, 4, 80, [.sl true true [], .sl true true [], .sl true true [], .int .i64 0]⟩ := Eq.trans rfl rfl
theorem LL_56 : LL 56 = ⟨.struct [(0, 23), (1, 54), (2, 22), (3, 29)], true, 4, 80, [.sl true true [], .sl true true [], .sl true true [], .int .i64 0]⟩ := Eq.trans rfl rfl
theorem LL_57 : LL 57 = ⟨.func, false, 1, 8, [.nilfn]⟩ := Eq.trans rfl rfl
theorem LL_58 : LL 58 = ⟨.func, false, 1, 8, [.nilfn]⟩ := Eq.trans rfl rfl
theorem LL_59 : LL 59 = ⟨.func, false, 1, 8, [.nilfn]⟩ := Eq.trans rfl rfl
theorem LL_60 : LL 60 = ⟨.func, false, 1, 8, [.nilfn]⟩ := Eq.trans rfl rfl
theorem LL_61 : LL 61 = ⟨.func, false, 1, 8, [.nilfn]⟩ := Eq.trans rfl rfl
theorem LL_62 : LL 62 = ⟨.func, false, 1, 8, [.nilfn]⟩ := Eq.trans rfl rfl
theorem LL_64 : LL 64 = ⟨.func, false, 1, 8, [.nilfn]⟩ := Eq.trans rfl rfl
theorem LL_65 : LL 65 = ⟨.ptr, false, 1, 8, [.nil]⟩ := Eq.trans rfl rfl
theorem LL_66 : LL 66 = ⟨.struct [(0, 9), (1, 3), (2, 22), (3, 3), (4, 29), (5, 3)], true, 6, 72, [.str ByteArray.empty, .int .i64 0, .sl true true [], .int .i64 0, .int .i64 0, .int .i64 0]⟩ := Eq.trans rfl rfl
theorem LL_67 : LL 67 = ⟨.struct [(0, 9), (1, 3), (2, 22), (3, 3), (4, 29), (5, 3)], true, 6, 72, [.str ByteArray.empty, .int .i64 0, .sl true true [], .int .i64 0, .int .i64 0, .int .i64 0]⟩ := Eq.trans rfl rfl
theorem LL_68 : LL 68 = ⟨.func, false, 1, 8, [.nilfn]⟩ := Eq.trans rfl rfl
theorem LL_69 : LL 69 = ⟨.func, false, 1, 8, [.nilfn]⟩ := Eq.trans rfl rfl
theorem LL_70 : LL 70 = ⟨.func, false, 1, 8, [.nilfn]⟩ := Eq.trans rfl rfl
theorem LL_71 : LL 71 = ⟨.slice 5, false, 1, 24, [.sl true true []]⟩ := Eq.trans rfl rfl
theorem LL_72 : LL 72 = ⟨.func, false, 1, 8, [.nilfn]⟩ := Eq.trans rfl rfl
theorem LL_73 : LL 73 = ⟨.func, false, 1, 8, [.nilfn]⟩ := Eq.trans rfl rfl
theorem LL_74 : LL 74 = ⟨.func, false, 1, 8, [.nilfn]⟩ := Eq.trans rfl rfl
theorem LL_75 : LL 75 = ⟨.func, false, 1, 8, [.nilfn]⟩ := Eq.trans rfl rfl
theorem LL_76 : LL 76 = ⟨.func, false, 1, 8, [.nilfn]⟩ := Eq.trans rfl rfl
theorem LL_77 : LL 77 = ⟨.func, false, 1, 8, [.nilfn]⟩ := Eq.trans rfl rfl
theorem LL_78 : LL 78 = ⟨.func, false, 1, 8, [.nilfn]⟩ := Eq.trans rfl rfl
theorem LL_79 : LL 79 = ⟨.func, false, 1, 8, [.nilfn]⟩ := Eq.trans rfl rfl
theorem LL_80 : LL 80 = ⟨.func, false, 1, 8, [.nilfn]⟩ := Eq.trans rfl rfl
theorem LL_81 : LL 81 = ⟨.func, false, 1, 8, [.nilfn]⟩ := Eq.trans rfl rfl
theorem LL_82 : LL 82 = ⟨.func, false, 1, 8, [.nilfn]⟩ := Eq.trans rfl rfl
theorem LL_83 : LL 83 = ⟨.func, false, 1, 8, [.nilfn]⟩ := Eq.trans rfl rfl
theorem LL_84 : LL 84 = ⟨.func, false, 1, 8, [.nilfn]⟩ := Eq.trans rfl rfl
theorem LL_85 : LL 85 = ⟨.slice 38, false, 1, 24, [.sl true true []]⟩ := Eq.trans rfl rfl
theorem LL_87 : LL 87 = ⟨.array 64 5, true, 64, 64, (List.replicate 64 (.int .u8 0))⟩ := Eq.trans rfl rfl
theorem LL_88 : LL 88 = ⟨.int .u64, false, 1, 8, [.int .u64 0]⟩ := Eq.trans rfl rfl
theorem LL_90 : LL 90 = ⟨.func, false, 1, 8, [.nilfn]⟩ := Eq.trans rfl rfl
theorem LL_91 : LL 91 = ⟨.func, false, 1, 8, [.nilfn]⟩ := Eq.trans rfl rfl
theorem LL_92 : LL 92 = ⟨.func, false, 1, 8, [.nilfn]⟩ := Eq.trans rfl rfl
theorem LL_93 : LL 93 = ⟨.func, false, 1, 8, [.nilfn]⟩ := Eq.trans rfl rfl
theorem LL_94 : LL 94 = ⟨.func, false, 1, 8, [.nilfn]⟩ := Eq.trans rfl rfl
theorem LL_95 : LL 95 = ⟨.func, false, 1, 8, [.nilfn]⟩ := Eq.trans rfl rfl
theorem LL_96 : LL 96 = ⟨.func, false, 1, 8, [.nilfn]⟩ := Eq.trans rfl rfl
theorem LL_97 : LL 97 = ⟨.struct [(0, 17), (1, 17), (2, 17), (3, 9)], true, 4, 40, [.nil, .nil, .nil, .str ByteArray.empty]⟩ := Eq.trans rfl rfl
theorem LL_98 : LL 98 = ⟨.struct [(0, 17), (1, 17), (2, 17), (3, 9)], true, 4, 40, [.nil, .nil, .nil, .str ByteArray.empty]⟩ := Eq.trans rfl rfl
theorem LL_99 : LL 99 = ⟨.array 0 16, true, 0, 0, []⟩ := Eq.trans rfl rfl
theorem LL_102 : LL 102 = ⟨.int .u32, false, 1, 4, [.int .u32 0]⟩ := Eq.trans rfl rfl
theorem LL_103 : LL 103 = ⟨.int .u8, false, 1, 1, [.int .u8 0]⟩ := Eq.trans rfl rfl
theorem LL_104 : LL 104 = ⟨.int .u8, false, 1, 1, [.int .u8 0]⟩ := Eq.trans rfl rfl
theorem LL_105 : LL 105 = ⟨.func, false, 1, 8, [.nilfn]⟩ := Eq.trans rfl rfl
theorem LL_106 : LL 106 = ⟨.ptr, false, 1, 8, [.nil]⟩ := Eq.trans rfl rfl
theorem LL_107 : LL 107 = ⟨.int .i32, false, 1, 4, [.int .i32 0]⟩ := Eq.trans rfl rfl
theorem LL_108 : LL 108 = ⟨.int .i32, false, 1, 4, [.int .i32 0]⟩ := Eq.trans rfl rfl
theorem LL_109 : LL 109 = ⟨.struct [(0, 12), (1, 12), (2, 102), (3, 103), (4, 5), (5, 5), (6, 104), (7, 105), (8, 106), (9, 107), (10, 108)], true, 11, 48, [.int .u64 0, .int .u64 0, .int .u32 0, .int .u8 0, .int .u8 0, .int .u8 0, .int .u8 0, .nilfn, .nil, .int .i32 0, .int .i32 0]⟩ := Eq.trans rfl rfl
theorem LL_110 : LL 110 = ⟨.struct [(0, 12), (1, 12), (2, 102), (3, 103), (4, 5), (5, 5), (6, 104), (7, 105), (8, 106), (9, 107), (10, 108)], true, 11, 48, [.int .u64 0, .int .u64 0, .int .u32 0, .int .u8 0, .int .u8 0, .int .u8 0, .int .u8 0, .nilfn, .nil, .int .i32 0, .int .i32 0]⟩ := Eq.trans rfl rfl
end Go.Rad
