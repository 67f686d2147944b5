import Derived.Test.YtidnlnnobegniaaA22
import Derived.Test.YtidnlnnobegniaaProg
import Derived.KernelRfl
namespace Go.Proofs.Ytidnlnnobegniaa
open Go.AM
theorem tt2 : tinfo Try.prog 2 = some ⟨.int .i64, 1, 8, [.int .i64 0], false, false, []⟩ := by kernel_rfl
theorem tt3 : tinfo Try.prog 3 = some ⟨.int .i64, 1, 8, [.int .i64 0], false, false, []⟩ := by kernel_rfl
theorem tt4 : tinfo Try.prog 4 = some ⟨.bool, 1, 1, [.bool false], false, false, []⟩ := by kernel_rfl
theorem tt5 : tinfo Try.prog 5 = some ⟨.int .u8, 1, 1, [.int .u8 0], false, false, []⟩ := by kernel_rfl
theorem tt9 : tinfo Try.prog 9 = some ⟨.string, 1, 16, [.string ⟨#[]⟩], false, false, []⟩ := by kernel_rfl
theorem tt12 : tinfo Try.prog 12 = some ⟨.int .u64, 1, 8, [.int .u64 0], false, false, []⟩ := by kernel_rfl
theorem tt21 : tinfo Try.prog 21 = some ⟨.int .i32, 1, 4, [.int .i32 0], false, false, []⟩ := by kernel_rfl
theorem tt22 : tinfo Try.prog 22 = some ⟨.slice 30, 1, 24, [.slice none 0 0], false, false, []⟩ := by kernel_rfl
theorem tt23 : tinfo Try.prog 23 = some ⟨.ptr 63, 1, 8, [.pointer none], false, false, []⟩ := by kernel_rfl
theorem tt24 : tinfo Try.prog 24 = some ⟨.int .i64, 1, 8, [.int .i64 0], false, false, []⟩ := by kernel_rfl
theorem tt30 : tinfo Try.prog 30 = some ⟨.slice 5, 1, 24, [.slice none 0 0], false, false, []⟩ := by kernel_rfl
theorem tt39 : tinfo Try.prog 39 = some ⟨.slice 43, 1, 24, [.slice none 0 0], false, false, []⟩ := by kernel_rfl
theorem tt40 : tinfo Try.prog 40 = some ⟨.slice 45, 1, 24, [.slice none 0 0], false, false, []⟩ := by kernel_rfl
theorem tt41 : tinfo Try.prog 41 = some ⟨.slice 3, 1, 24, [.slice none 0 0], false, false, []⟩ := by kernel_rfl
theorem tt42 : tinfo Try.prog 42 = some ⟨.struct [(0, 3), (1, 3), (2, 3), (3, 3), (4, 22), (5, 41)], 6, 80, [.int .i64 0, .int .i64 0, .int .i64 0, .int .i64 0, .slice none 0 0, .slice none 0 0], true, true, [(0, 1), (1, 1), (2, 1), (3, 1), (4, 1), (5, 1)]⟩ := by kernel_rfl
theorem tt43 : tinfo Try.prog 43 = some ⟨.struct [(0, 3), (1, 3), (2, 3), (3, 3), (4, 22), (5, 41)], 6, 80, [.int .i64 0, .int .i64 0, .int .i64 0, .int .i64 0, .slice none 0 0, .slice none 0 0], true, true, [(0, 1), (1, 1), (2, 1), (3, 1), (4, 1), (5, 1)]⟩ := by kernel_rfl
theorem tt44 : tinfo Try.prog 44 = some ⟨.struct [(0, 3), (1, 3), (2, 30)], 3, 40, [.int .i64 0, .int .i64 0, .slice none 0 0], true, true, [(0, 1), (1, 1), (2, 1)]⟩ := by kernel_rfl
theorem tt45 : tinfo Try.prog 45 = some ⟨.struct [(0, 3), (1, 3), (2, 30)], 3, 40, [.int .i64 0, .int .i64 0, .slice none 0 0], true, true, [(0, 1), (1, 1), (2, 1)]⟩ := by kernel_rfl
theorem tt49 : tinfo Try.prog 49 = some ⟨.ptr 54, 1, 8, [.pointer none], false, false, []⟩ := by kernel_rfl
theorem tt59 : tinfo Try.prog 59 = some ⟨.slice 3, 1, 24, [.slice none 0 0], false, false, []⟩ := by kernel_rfl
theorem tt60 : tinfo Try.prog 60 = some ⟨.map 67 22, 1, 8, [.map none], false, false, []⟩ := by kernel_rfl
theorem tt61 : tinfo Try.prog 61 = some ⟨.map 67 3, 1, 8, [.map none], false, false, []⟩ := by kernel_rfl
theorem tt62 : tinfo Try.prog 62 = some ⟨.struct [(0, 59), (1, 3), (2, 60), (3, 61)], 4, 48, [.slice none 0 0, .int .i64 0, .map none, .map none], true, true, [(0, 1), (1, 1), (2, 1), (3, 1)]⟩ := by kernel_rfl
theorem tt63 : tinfo Try.prog 63 = some ⟨.struct [(0, 59), (1, 3), (2, 60), (3, 61)], 4, 48, [.slice none 0 0, .int .i64 0, .map none, .map none], true, true, [(0, 1), (1, 1), (2, 1), (3, 1)]⟩ := by kernel_rfl
theorem tt66 : tinfo Try.prog 66 = some ⟨.struct [(0, 3), (1, 3)], 2, 16, [.int .i64 0, .int .i64 0], true, true, [(0, 1), (1, 1)]⟩ := by kernel_rfl
theorem tt67 : tinfo Try.prog 67 = some ⟨.struct [(0, 3), (1, 3)], 2, 16, [.int .i64 0, .int .i64 0], true, true, [(0, 1), (1, 1)]⟩ := by kernel_rfl
theorem tt70 : tinfo Try.prog 70 = some ⟨.slice 67, 1, 24, [.slice none 0 0], false, false, []⟩ := by kernel_rfl
theorem tt94 : tinfo Try.prog 94 = some ⟨.int .u32, 1, 4, [.int .u32 0], false, false, []⟩ := by kernel_rfl
theorem tt98 : tinfo Try.prog 98 = some ⟨.ptr 5, 1, 8, [.pointer none], false, false, []⟩ := by kernel_rfl
theorem pt67 : pairT Try.prog 67 = true := by kernel_rfl
theorem zz22 : zeroOf Try.prog 22 = some (.slice none 0 0) := by kernel_rfl
theorem zz3 : zeroOf Try.prog 3 = some (.int .i64 0) := by kernel_rfl
theorem mo60 : mapOf Try.prog 60 = some 22 := by unfold mapOf; rw [tt60]; simp [pt67]
theorem mo61 : mapOf Try.prog 61 = some 3 := by unfold mapOf; rw [tt61]; simp [pt67]
theorem mg22 : mapTag Try.prog 22 = some (.qs 30 5 (fun _ _ => []) .none) := by unfold mapTag; rw [tt22]; simp [tt30]
theorem mg3 : mapTag Try.prog 3 = some (.cuts fun _ _ => 0) := by unfold mapTag; rw [tt3]
theorem bi50 : binfo Try.prog 50 = some ⟨32, [], some (1, 32), false⟩ := by kernel_rfl
theorem bi51 : binfo Try.prog 51 = some ⟨1024, [], some (32, 32), false⟩ := by kernel_rfl
theorem bi52 : binfo Try.prog 52 = some ⟨32, [], some (1, 32), false⟩ := by kernel_rfl
theorem bi54 : binfo Try.prog 54 = some ⟨1059, [0, 1, 2, 3, 1027], none, true⟩ := by kernel_rfl
theorem ho54 : holeT Try.prog 54 = some (2, 3, 45) := by kernel_rfl
theorem im60 : isMap Try.prog 60 = true := by kernel_rfl
theorem mixed : Try.prog.follows .mixedOrders = true := by kernel_rfl
end Go.Proofs.Ytidnlnnobegniaa
