/- The grades' program: what the library's functions give, as known functions of the evaluator. -/
import Derived.Test.YtnkdndjhgoahgaaGreatDoorShelf
import Derived.Test.YtnkdndjhgoahgaaGreatDoorAdLoop
import Derived.Lib.SmallJoins
import Derived.IntWalk
import Derived.KernelRfl

namespace Go.Proofs.Tryz
open Go.Ad

theorem hmix : prog.follows .mixedOrders = true := by kernel_rfl
theorem hnum : NoNum prog := by
  have h : (prog.funcs.all fun fn => decide (fn.name ≠ "runtime.NumGoroutine")) = true := by kernel_rfl
  intro f fn hf
  exact of_decide_eq_true (Array.all_eq_true_iff_forall_mem.1 h fn (Array.mem_of_getElem? hf))
theorem gsz : prog.globals.size = 9 := by kernel_rfl
theorem started : decide (prog.globals.size < (begin prog (fun _ _ => 0) default).world.heap.size) = true := by kernel_rfl

/-- Nothing is asked of the world. -/
def Tab (_ : Amb) : Prop := True

def gUpper : List AV → Option AV
  | [.str s] => if decide (s.length ≤ 100) && s.all (fun b => decide (b.toNat < 128)) then some (.str (Lib.toUpperA s)) else none
  | _ => none

def lib : Prims := noPrims.add 33 gUpper

theorem lib_ok {A : Amb} (_ : Tab A) : PrimOK prog A lib := by
  refine PrimOK.lib PrimOK.none func33 (by kernel_rfl) ?_
  intro args v hg ι w xs _ _ hx
  unfold gUpper at hg
  split at hg
  · rename_i s
    split at hg
    · rename_i hc
      cases hg
      simp only [Bool.and_eq_true, decide_eq_true_eq, List.all_eq_true] at hc
      simp only [VRL, VR] at hx
      obtain ⟨_, _, hxs, ⟨b1, rfl, rfl⟩, rfl⟩ := hx
      have e1 : xs = #[.string b1] := by apply Array.ext'; simpa using hxs
      subst e1
      have hlen : b1.data.toList.length = b1.size := by simp
      refine (Tryz.strings_ToUpper_ascii b1 w (by omega) (fun j b hb => hc.2 b (List.mem_of_getElem? hb))).mono fun e w' ⟨h1, h2⟩ => ?_
      subst h1
      refine ⟨_, rfl, ?_, ⟨h2.size, h2.block, h2.tape, h2.os, h2.output⟩⟩
      simp only [VR]
      exact ⟨_, rfl, rfl⟩
    · cases hg
  · cases hg
end Go.Proofs.Tryz
