/- The fits and the stacks: the program. -/
import Derived.Test.YthpoofohoancnaaProg
import Derived.Test.YthpoofohoancnaaAdLoop
import Derived.KernelRfl

namespace Go.Proofs.Try
open Go.Ad

theorem hmix : prog.follows .mixedOrders = true := by kernel_rfl
theorem hnum : NoNum prog := by
  have h : (prog.funcs.all fun fn => decide (fn.name ≠ "runtime.NumGoroutine")) = true := by kernel_rfl
  intro f fn hf
  exact of_decide_eq_true (Array.all_eq_true_iff_forall_mem.1 h fn (Array.mem_of_getElem? hf))
theorem gsz : prog.globals.size = 0 := by kernel_rfl
theorem started : decide (prog.globals.size < (begin prog (fun _ _ => 0) default).world.heap.size) = true := by kernel_rfl

/-- Nothing is asked of the world. -/
def Tab (_ : Amb) : Prop := True
def lib : Prims := noPrims
theorem lib_ok {A : Amb} (_ : Tab A) : PrimOK prog A lib := PrimOK.none
end Go.Proofs.Try
