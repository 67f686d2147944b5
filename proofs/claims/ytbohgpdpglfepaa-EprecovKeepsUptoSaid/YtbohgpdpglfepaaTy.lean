import Derived.Test.YtbohgpdpglfepaaA22
import Derived.Test.YtbohgpdpglfepaaProg
import Derived.KernelRfl
namespace Go.Proofs.Ytbohgpdpglfepaa
open Go.AM
theorem tt2 : tinfo Try.prog 2 = some ⟨.int .i64, 1, 8, [.int .i64 0], false, false, []⟩ := by kernel_rfl
theorem tt3 : tinfo Try.prog 3 = some ⟨.int .i64, 1, 8, [.int .i64 0], false, false, []⟩ := by kernel_rfl
theorem tt4 : tinfo Try.prog 4 = some ⟨.bool, 1, 1, [.bool false], false, false, []⟩ := by kernel_rfl
theorem tt5 : tinfo Try.prog 5 = some ⟨.int .u8, 1, 1, [.int .u8 0], false, false, []⟩ := by kernel_rfl
theorem tt9 : tinfo Try.prog 9 = some ⟨.string, 1, 16, [.string ⟨#[]⟩], false, false, []⟩ := by kernel_rfl
theorem tt12 : tinfo Try.prog 12 = some ⟨.int .u64, 1, 8, [.int .u64 0], false, false, []⟩ := by kernel_rfl
theorem tt21 : tinfo Try.prog 21 = some ⟨.int .i32, 1, 4, [.int .i32 0], false, false, []⟩ := by kernel_rfl
theorem tt22 : tinfo Try.prog 22 = some ⟨.struct [(0, 3), (1, 3)], 2, 16, [.int .i64 0, .int .i64 0], true, true, [(0, 1), (1, 1)]⟩ := by kernel_rfl
theorem tt23 : tinfo Try.prog 23 = some ⟨.struct [(0, 3), (1, 3)], 2, 16, [.int .i64 0, .int .i64 0], true, true, [(0, 1), (1, 1)]⟩ := by kernel_rfl
theorem tt24 : tinfo Try.prog 24 = some ⟨.struct [(0, 3), (1, 3)], 2, 16, [.int .i64 0, .int .i64 0], true, true, [(0, 1), (1, 1)]⟩ := by kernel_rfl
theorem tt25 : tinfo Try.prog 25 = some ⟨.int .i64, 1, 8, [.int .i64 0], false, false, []⟩ := by kernel_rfl
theorem tt36 : tinfo Try.prog 36 = some ⟨.slice 3, 1, 24, [.slice none 0 0], false, false, []⟩ := by kernel_rfl
theorem tt37 : tinfo Try.prog 37 = some ⟨.slice 3, 1, 24, [.slice none 0 0], false, false, []⟩ := by kernel_rfl
theorem tt43 : tinfo Try.prog 43 = some ⟨.slice 36, 1, 24, [.slice none 0 0], false, false, []⟩ := by kernel_rfl
theorem tt44 : tinfo Try.prog 44 = some ⟨.slice 37, 1, 24, [.slice none 0 0], false, false, []⟩ := by kernel_rfl
theorem tt51 : tinfo Try.prog 51 = some ⟨.slice 53, 1, 24, [.slice none 0 0], false, false, []⟩ := by kernel_rfl
theorem tt52 : tinfo Try.prog 52 = some ⟨.struct [(0, 3), (1, 3)], 2, 16, [.int .i64 0, .int .i64 0], true, true, [(0, 1), (1, 1)]⟩ := by kernel_rfl
theorem tt53 : tinfo Try.prog 53 = some ⟨.struct [(0, 3), (1, 3)], 2, 16, [.int .i64 0, .int .i64 0], true, true, [(0, 1), (1, 1)]⟩ := by kernel_rfl
theorem tt59 : tinfo Try.prog 59 = some ⟨.slice 5, 1, 24, [.slice none 0 0], false, false, []⟩ := by kernel_rfl
theorem tt67 : tinfo Try.prog 67 = some ⟨.ptr 69, 1, 8, [.pointer none], false, false, []⟩ := by kernel_rfl
theorem tt68 : tinfo Try.prog 68 = some ⟨.struct [(0, 59), (1, 3), (2, 3)], 3, 40, [.slice none 0 0, .int .i64 0, .int .i64 0], true, true, [(0, 1), (1, 1), (2, 1)]⟩ := by kernel_rfl
theorem tt69 : tinfo Try.prog 69 = some ⟨.struct [(0, 59), (1, 3), (2, 3)], 3, 40, [.slice none 0 0, .int .i64 0, .int .i64 0], true, true, [(0, 1), (1, 1), (2, 1)]⟩ := by kernel_rfl
theorem tt74 : tinfo Try.prog 74 = some ⟨.slice 77, 1, 24, [.slice none 0 0], false, false, []⟩ := by kernel_rfl
theorem tt75 : tinfo Try.prog 75 = some ⟨.slice 79, 1, 24, [.slice none 0 0], false, false, []⟩ := by kernel_rfl
theorem tt76 : tinfo Try.prog 76 = some ⟨.struct [(0, 3), (1, 36)], 2, 32, [.int .i64 0, .slice none 0 0], true, true, [(0, 1), (1, 1)]⟩ := by kernel_rfl
theorem tt77 : tinfo Try.prog 77 = some ⟨.struct [(0, 3), (1, 36)], 2, 32, [.int .i64 0, .slice none 0 0], true, true, [(0, 1), (1, 1)]⟩ := by kernel_rfl
theorem tt78 : tinfo Try.prog 78 = some ⟨.struct [(0, 3), (1, 37)], 2, 32, [.int .i64 0, .slice none 0 0], true, true, [(0, 1), (1, 1)]⟩ := by kernel_rfl
theorem tt79 : tinfo Try.prog 79 = some ⟨.struct [(0, 3), (1, 37)], 2, 32, [.int .i64 0, .slice none 0 0], true, true, [(0, 1), (1, 1)]⟩ := by kernel_rfl
theorem tt89 : tinfo Try.prog 89 = some ⟨.ptr 165, 1, 8, [.pointer none], false, false, []⟩ := by kernel_rfl
theorem tt92 : tinfo Try.prog 92 = some ⟨.array 7 4, 7, 7, [.bool false, .bool false, .bool false, .bool false, .bool false, .bool false, .bool false], true, false, []⟩ := by kernel_rfl
theorem tt95 : tinfo Try.prog 95 = some ⟨.slice 103, 1, 24, [.slice none 0 0], false, false, []⟩ := by kernel_rfl
theorem tt96 : tinfo Try.prog 96 = some ⟨.struct [(0, 3), (1, 3), (2, 77), (4, 4), (5, 95)], 6, 80, [.int .i64 0, .int .i64 0, .int .i64 0, .slice none 0 0, .bool false, .slice none 0 0], true, true, [(0, 1), (1, 1), (2, 2), (4, 1), (5, 1)]⟩ := by kernel_rfl
theorem tt97 : tinfo Try.prog 97 = some ⟨.struct [(0, 3), (1, 3), (2, 77), (4, 4), (5, 95)], 6, 80, [.int .i64 0, .int .i64 0, .int .i64 0, .slice none 0 0, .bool false, .slice none 0 0], true, true, [(0, 1), (1, 1), (2, 2), (4, 1), (5, 1)]⟩ := by kernel_rfl
theorem tt98 : tinfo Try.prog 98 = some ⟨.ptr 97, 1, 8, [.pointer none], false, false, []⟩ := by kernel_rfl
theorem tt99 : tinfo Try.prog 99 = some ⟨.ptr 168, 1, 8, [.pointer none], false, false, []⟩ := by kernel_rfl
theorem tt102 : tinfo Try.prog 102 = some ⟨.struct [(0, 3), (1, 77), (3, 4)], 4, 48, [.int .i64 0, .int .i64 0, .slice none 0 0, .bool false], true, true, [(0, 1), (1, 2), (3, 1)]⟩ := by kernel_rfl
theorem tt103 : tinfo Try.prog 103 = some ⟨.struct [(0, 3), (1, 77), (3, 4)], 4, 48, [.int .i64 0, .int .i64 0, .slice none 0 0, .bool false], true, true, [(0, 1), (1, 2), (3, 1)]⟩ := by kernel_rfl
theorem tt106 : tinfo Try.prog 106 = some ⟨.slice 4, 1, 24, [.slice none 0 0], false, false, []⟩ := by kernel_rfl
theorem tt107 : tinfo Try.prog 107 = some ⟨.struct [(0, 3), (1, 79)], 3, 40, [.int .i64 0, .int .i64 0, .slice none 0 0], true, true, [(0, 1), (1, 2)]⟩ := by kernel_rfl
theorem tt108 : tinfo Try.prog 108 = some ⟨.struct [(0, 3), (1, 79)], 3, 40, [.int .i64 0, .int .i64 0, .slice none 0 0], true, true, [(0, 1), (1, 2)]⟩ := by kernel_rfl
theorem tt114 : tinfo Try.prog 114 = some ⟨.slice 127, 1, 24, [.slice none 0 0], false, false, []⟩ := by kernel_rfl
theorem tt115 : tinfo Try.prog 115 = some ⟨.struct [(0, 3), (1, 3), (2, 114), (3, 23)], 5, 56, [.int .i64 0, .int .i64 0, .slice none 0 0, .int .i64 0, .int .i64 0], true, true, [(0, 1), (1, 1), (2, 1), (3, 2)]⟩ := by kernel_rfl
theorem tt116 : tinfo Try.prog 116 = some ⟨.struct [(0, 3), (1, 3), (2, 114), (3, 23)], 5, 56, [.int .i64 0, .int .i64 0, .slice none 0 0, .int .i64 0, .int .i64 0], true, true, [(0, 1), (1, 1), (2, 1), (3, 2)]⟩ := by kernel_rfl
theorem tt117 : tinfo Try.prog 117 = some ⟨.struct [(0, 3), (1, 9), (2, 59)], 3, 48, [.int .i64 0, .string ⟨#[]⟩, .slice none 0 0], true, true, [(0, 1), (1, 1), (2, 1)]⟩ := by kernel_rfl
theorem tt118 : tinfo Try.prog 118 = some ⟨.struct [(0, 3), (1, 9), (2, 59)], 3, 48, [.int .i64 0, .string ⟨#[]⟩, .slice none 0 0], true, true, [(0, 1), (1, 1), (2, 1)]⟩ := by kernel_rfl
theorem tt119 : tinfo Try.prog 119 = some ⟨.struct [(0, 3), (1, 118), (4, 79)], 6, 88, [.int .i64 0, .int .i64 0, .string ⟨#[]⟩, .slice none 0 0, .int .i64 0, .slice none 0 0], true, true, [(0, 1), (1, 3), (4, 2)]⟩ := by kernel_rfl
theorem tt120 : tinfo Try.prog 120 = some ⟨.struct [(0, 3), (1, 118), (4, 79)], 6, 88, [.int .i64 0, .int .i64 0, .string ⟨#[]⟩, .slice none 0 0, .int .i64 0, .slice none 0 0], true, true, [(0, 1), (1, 3), (4, 2)]⟩ := by kernel_rfl
theorem tt122 : tinfo Try.prog 122 = some ⟨.slice 135, 1, 24, [.slice none 0 0], false, false, []⟩ := by kernel_rfl
theorem tt124 : tinfo Try.prog 124 = some ⟨.struct [(0, 53), (2, 3), (3, 24), (5, 24), (7, 118), (10, 77), (12, 4)], 13, 144, [.int .i64 0, .int .i64 0, .int .i64 0, .int .i64 0, .int .i64 0, .int .i64 0, .int .i64 0, .int .i64 0, .string ⟨#[]⟩, .slice none 0 0, .int .i64 0, .slice none 0 0, .bool false], true, true, [(0, 2), (2, 1), (3, 2), (5, 2), (7, 3), (10, 2), (12, 1)]⟩ := by kernel_rfl
theorem tt125 : tinfo Try.prog 125 = some ⟨.struct [(0, 53), (2, 3), (3, 24), (5, 24), (7, 118), (10, 77), (12, 4)], 13, 144, [.int .i64 0, .int .i64 0, .int .i64 0, .int .i64 0, .int .i64 0, .int .i64 0, .int .i64 0, .int .i64 0, .string ⟨#[]⟩, .slice none 0 0, .int .i64 0, .slice none 0 0, .bool false], true, true, [(0, 2), (2, 1), (3, 2), (5, 2), (7, 3), (10, 2), (12, 1)]⟩ := by kernel_rfl
theorem tt126 : tinfo Try.prog 126 = some ⟨.struct [(0, 3), (1, 125)], 14, 152, [.int .i64 0, .int .i64 0, .int .i64 0, .int .i64 0, .int .i64 0, .int .i64 0, .int .i64 0, .int .i64 0, .int .i64 0, .string ⟨#[]⟩, .slice none 0 0, .int .i64 0, .slice none 0 0, .bool false], true, true, [(0, 1), (1, 13)]⟩ := by kernel_rfl
theorem tt127 : tinfo Try.prog 127 = some ⟨.struct [(0, 3), (1, 125)], 14, 152, [.int .i64 0, .int .i64 0, .int .i64 0, .int .i64 0, .int .i64 0, .int .i64 0, .int .i64 0, .int .i64 0, .int .i64 0, .string ⟨#[]⟩, .slice none 0 0, .int .i64 0, .slice none 0 0, .bool false], true, true, [(0, 1), (1, 13)]⟩ := by kernel_rfl
theorem tt130 : tinfo Try.prog 130 = some ⟨.struct [(0, 3), (1, 3), (2, 36), (3, 3), (4, 118), (7, 77), (9, 4)], 10, 136, [.int .i64 0, .int .i64 0, .slice none 0 0, .int .i64 0, .int .i64 0, .string ⟨#[]⟩, .slice none 0 0, .int .i64 0, .slice none 0 0, .bool false], true, true, [(0, 1), (1, 1), (2, 1), (3, 1), (4, 3), (7, 2), (9, 1)]⟩ := by kernel_rfl
theorem tt131 : tinfo Try.prog 131 = some ⟨.struct [(0, 3), (1, 3), (2, 36), (3, 3), (4, 118), (7, 77), (9, 4)], 10, 136, [.int .i64 0, .int .i64 0, .slice none 0 0, .int .i64 0, .int .i64 0, .string ⟨#[]⟩, .slice none 0 0, .int .i64 0, .slice none 0 0, .bool false], true, true, [(0, 1), (1, 1), (2, 1), (3, 1), (4, 3), (7, 2), (9, 1)]⟩ := by kernel_rfl
theorem tt132 : tinfo Try.prog 132 = some ⟨.struct [(0, 53), (2, 3), (3, 23), (5, 23), (7, 118), (10, 79), (12, 4)], 13, 144, [.int .i64 0, .int .i64 0, .int .i64 0, .int .i64 0, .int .i64 0, .int .i64 0, .int .i64 0, .int .i64 0, .string ⟨#[]⟩, .slice none 0 0, .int .i64 0, .slice none 0 0, .bool false], true, true, [(0, 2), (2, 1), (3, 2), (5, 2), (7, 3), (10, 2), (12, 1)]⟩ := by kernel_rfl
theorem tt133 : tinfo Try.prog 133 = some ⟨.struct [(0, 53), (2, 3), (3, 23), (5, 23), (7, 118), (10, 79), (12, 4)], 13, 144, [.int .i64 0, .int .i64 0, .int .i64 0, .int .i64 0, .int .i64 0, .int .i64 0, .int .i64 0, .int .i64 0, .string ⟨#[]⟩, .slice none 0 0, .int .i64 0, .slice none 0 0, .bool false], true, true, [(0, 2), (2, 1), (3, 2), (5, 2), (7, 3), (10, 2), (12, 1)]⟩ := by kernel_rfl
theorem tt134 : tinfo Try.prog 134 = some ⟨.struct [(0, 3), (1, 133)], 14, 152, [.int .i64 0, .int .i64 0, .int .i64 0, .int .i64 0, .int .i64 0, .int .i64 0, .int .i64 0, .int .i64 0, .int .i64 0, .string ⟨#[]⟩, .slice none 0 0, .int .i64 0, .slice none 0 0, .bool false], true, true, [(0, 1), (1, 13)]⟩ := by kernel_rfl
theorem tt135 : tinfo Try.prog 135 = some ⟨.struct [(0, 3), (1, 133)], 14, 152, [.int .i64 0, .int .i64 0, .int .i64 0, .int .i64 0, .int .i64 0, .int .i64 0, .int .i64 0, .int .i64 0, .int .i64 0, .string ⟨#[]⟩, .slice none 0 0, .int .i64 0, .slice none 0 0, .bool false], true, true, [(0, 1), (1, 13)]⟩ := by kernel_rfl
theorem tt137 : tinfo Try.prog 137 = some ⟨.slice 139, 1, 24, [.slice none 0 0], false, false, []⟩ := by kernel_rfl
theorem tt138 : tinfo Try.prog 138 = some ⟨.struct [(0, 3), (1, 23), (3, 118), (6, 77), (8, 77)], 10, 136, [.int .i64 0, .int .i64 0, .int .i64 0, .int .i64 0, .string ⟨#[]⟩, .slice none 0 0, .int .i64 0, .slice none 0 0, .int .i64 0, .slice none 0 0], true, true, [(0, 1), (1, 2), (3, 3), (6, 2), (8, 2)]⟩ := by kernel_rfl
theorem tt139 : tinfo Try.prog 139 = some ⟨.struct [(0, 3), (1, 23), (3, 118), (6, 77), (8, 77)], 10, 136, [.int .i64 0, .int .i64 0, .int .i64 0, .int .i64 0, .string ⟨#[]⟩, .slice none 0 0, .int .i64 0, .slice none 0 0, .int .i64 0, .slice none 0 0], true, true, [(0, 1), (1, 2), (3, 3), (6, 2), (8, 2)]⟩ := by kernel_rfl
theorem tt147 : tinfo Try.prog 147 = some ⟨.struct [(0, 3), (1, 3), (2, 118), (5, 77), (7, 36), (8, 74), (9, 36), (10, 4)], 11, 176, [.int .i64 0, .int .i64 0, .int .i64 0, .string ⟨#[]⟩, .slice none 0 0, .int .i64 0, .slice none 0 0, .slice none 0 0, .slice none 0 0, .slice none 0 0, .bool false], true, true, [(0, 1), (1, 1), (2, 3), (5, 2), (7, 1), (8, 1), (9, 1), (10, 1)]⟩ := by kernel_rfl
theorem tt148 : tinfo Try.prog 148 = some ⟨.struct [(0, 3), (1, 3), (2, 118), (5, 77), (7, 36), (8, 74), (9, 36), (10, 4)], 11, 176, [.int .i64 0, .int .i64 0, .int .i64 0, .string ⟨#[]⟩, .slice none 0 0, .int .i64 0, .slice none 0 0, .slice none 0 0, .slice none 0 0, .slice none 0 0, .bool false], true, true, [(0, 1), (1, 1), (2, 3), (5, 2), (7, 1), (8, 1), (9, 1), (10, 1)]⟩ := by kernel_rfl
theorem tt149 : tinfo Try.prog 149 = some ⟨.slice 133, 1, 24, [.slice none 0 0], false, false, []⟩ := by kernel_rfl
theorem tt159 : tinfo Try.prog 159 = some ⟨.ptr 191, 1, 8, [.pointer none], false, false, []⟩ := by kernel_rfl
theorem tt164 : tinfo Try.prog 164 = some ⟨.struct [(0, 3), (1, 36)], 2, 32, [.int .i64 0, .slice none 0 0], true, true, [(0, 1), (1, 1)]⟩ := by kernel_rfl
theorem tt165 : tinfo Try.prog 165 = some ⟨.struct [(0, 3), (1, 36)], 2, 32, [.int .i64 0, .slice none 0 0], true, true, [(0, 1), (1, 1)]⟩ := by kernel_rfl
theorem tt167 : tinfo Try.prog 167 = some ⟨.struct [(0, 165), (2, 4), (3, 79), (5, 79), (7, 4)], 8, 112, [.int .i64 0, .slice none 0 0, .bool false, .int .i64 0, .slice none 0 0, .int .i64 0, .slice none 0 0, .bool false], true, true, [(0, 2), (2, 1), (3, 2), (5, 2), (7, 1)]⟩ := by kernel_rfl
theorem tt168 : tinfo Try.prog 168 = some ⟨.struct [(0, 165), (2, 4), (3, 79), (5, 79), (7, 4)], 8, 112, [.int .i64 0, .slice none 0 0, .bool false, .int .i64 0, .slice none 0 0, .int .i64 0, .slice none 0 0, .bool false], true, true, [(0, 2), (2, 1), (3, 2), (5, 2), (7, 1)]⟩ := by kernel_rfl
theorem tt169 : tinfo Try.prog 169 = some ⟨.slice 135, 1, 24, [.slice none 0 0], false, false, []⟩ := by kernel_rfl
theorem tt170 : tinfo Try.prog 170 = some ⟨.struct [(0, 169), (1, 3), (2, 3)], 3, 40, [.slice none 0 0, .int .i64 0, .int .i64 0], true, true, [(0, 1), (1, 1), (2, 1)]⟩ := by kernel_rfl
theorem tt171 : tinfo Try.prog 171 = some ⟨.struct [(0, 169), (1, 3), (2, 3)], 3, 40, [.slice none 0 0, .int .i64 0, .int .i64 0], true, true, [(0, 1), (1, 1), (2, 1)]⟩ := by kernel_rfl
theorem tt190 : tinfo Try.prog 190 = some ⟨.struct [(0, 59), (1, 25)], 2, 32, [.slice none 0 0, .int .i64 0], true, true, [(0, 1), (1, 1)]⟩ := by kernel_rfl
theorem tt191 : tinfo Try.prog 191 = some ⟨.struct [(0, 59), (1, 25)], 2, 32, [.slice none 0 0, .int .i64 0], true, true, [(0, 1), (1, 1)]⟩ := by kernel_rfl
theorem tt194 : tinfo Try.prog 194 = some ⟨.slice 59, 1, 24, [.slice none 0 0], false, false, []⟩ := by kernel_rfl
theorem tt200 : tinfo Try.prog 200 = some ⟨.int .u64, 1, 8, [.int .u64 0], false, false, []⟩ := by kernel_rfl
theorem tt208 : tinfo Try.prog 208 = some ⟨.int .u32, 1, 4, [.int .u32 0], false, false, []⟩ := by kernel_rfl
theorem tt212 : tinfo Try.prog 212 = some ⟨.ptr 5, 1, 8, [.pointer none], false, false, []⟩ := by kernel_rfl
theorem mixed : Try.prog.follows .mixedOrders = true := by kernel_rfl
end Go.Proofs.Ytbohgpdpglfepaa
