
import Derived.Test.YthpoofohoancnaaBase

namespace Go.Proofs.Try
open Go.Ad

def args23 : List AV := [.slice (some ((0, 0))) 3 4, .int .i64 0]
def heap23 : Heap := [.cells [.str [65], .str [66], .int .i64 0, .int .i64 10, .int .i64 12, .str [66], .str [67], .int .i64 0, .int .i64 5, .int .i64 6, .str [65], .str [67], .int .i64 0, .int .i64 16, .int .i64 20, .str [65], .str [67], .int .i64 1, .int .i64 0, .int .i64 0] 5 true 39, .cells [.int .i64 10, .int .i64 12, .int .i64 5, .int .i64 6, .int .i64 16, .int .i64 20] 2 true 32, .cells [.int .i64 10, .int .i64 12] 0 true 32, .cells [.int .i64 5, .int .i64 6] 0 true 32, .cells [.int .i64 16, .int .i64 20] 0 true 32, .cells [.int .i64 0, .int .i64 0] 0 true 32]
def out23 : AV × Heap × List Nat := (.ptr (some ((7, 0))), ([.cells [.str [65], .str [66], .int .i64 0, .int .i64 10, .int .i64 12, .str [66], .str [67], .int .i64 0, .int .i64 5, .int .i64 6, .str [65], .str [67], .int .i64 0, .int .i64 16, .int .i64 20, .str [65], .str [67], .int .i64 1, .int .i64 0, .int .i64 0] 5 true 39, .cells [.int .i64 10, .int .i64 12, .int .i64 5, .int .i64 6, .int .i64 16, .int .i64 20] 2 true 32, .cells [.int .i64 10, .int .i64 12] 0 true 32, .cells [.int .i64 5, .int .i64 6] 0 true 32, .cells [.int .i64 16, .int .i64 20] 0 true 32, .cells [.int .i64 0, .int .i64 0] 0 true 32, .maps [(.str [65], .int .i64 0), (.str [66], .int .i64 1), (.str [67], .int .i64 2)], .cells [.slice (some ((22, 0))) 3 6, .map (some (6)), .slice (some ((20, 0))) 3 3, .slice (some ((0, 0))) 3 4] 0 true 80, .cells [.str [65], .str [66], .int .i64 0, .int .i64 10, .int .i64 12] 0 true 39, .cells [.int .i64 0] 1 true 3, .dead, .cells [.str [65], .str [66]] 1 true 9, .dead, .cells [.str [66], .str [67], .int .i64 0, .int .i64 5, .int .i64 6] 0 true 39, .cells [.int .i64 1] 1 true 3, .dead, .cells [.str [66], .str [67]] 1 true 9, .dead, .cells [.str [65], .str [67], .int .i64 0, .int .i64 16, .int .i64 20] 0 true 39, .cells [.int .i64 2] 1 true 3, .cells [.int .i64 0, .int .i64 1, .int .i64 2] 1 true 3, .cells [.str [65], .str [67]] 1 true 9, .cells [.str [65], .str [66], .str [67], .str [], .str [], .str []] 1 true 9], []))
set_option maxRecDepth 100000 in
theorem run23 : (runK prog lib 400).call 23 args23 heap23 fin = some out23 := by kernel_rfl
noncomputable def pin1 : Prims := lib.addh 23 (gPin args23 heap23 out23.1 out23.2.1 out23.2.2)
theorem pin1_ok {A : Amb} (hT : Tab A) : PrimOK prog A pin1 := PrimOK.pin hmix hnum (lib_ok hT) (lib_ok hT) func23 (by kernel_rfl) (Ca.of_fin run23)
end Go.Proofs.Try
