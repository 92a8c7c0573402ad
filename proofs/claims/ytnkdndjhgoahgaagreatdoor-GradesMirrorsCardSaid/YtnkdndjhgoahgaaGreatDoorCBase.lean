/- The grades' program: what the library's functions give, the chapter's examples, as known functions of the evaluator. -/
import Derived.Test.YtnkdndjhgoahgaaGreatDoorAcGlue
import Derived.Test.YtnkdndjhgoahgaaGreatDoorShelf
import Derived.KernelRfl
namespace Go.Proofs.Tryz
open Go.Ac

theorem hmix : prog.follows .mixedOrders = true := by kernel_rfl
theorem hnum : NoNum prog := by
  have h : (prog.funcs.all fun fn => decide (fn.name ≠ "runtime.NumGoroutine")) = true := by kernel_rfl
  intro f fn hf
  exact of_decide_eq_true (Array.all_eq_true_iff_forall_mem.1 h fn (Array.mem_of_getElem? hf))
theorem gsz : prog.globals.size = 9 := by kernel_rfl
theorem started : decide (prog.globals.size < (begin prog (fun _ _ => 0) default).world.heap.size) = true := by kernel_rfl

def gIndex : List AV → Option AV
  | [.str s, .str [c]] => some (.int .i64 (Lib.indexByte s c))
  | _ => none

def gUpper : List AV → Option AV
  | [.str s] => if decide (s.length ≤ 100) && s.all (fun b => decide (b.toNat < 128)) then some (.str (Lib.toUpperA s)) else none
  | _ => none

def gTrue : List AV → Option AV
  | [] => some (.bool true)
  | _ => none

def lib : Prims := Prims.add (Prims.add (fun _ => none) 32 gIndex) 33 gUpper

theorem lib_ok (A : Amb) : PrimOK prog A lib := by
  refine PrimOK.lib (PrimOK.lib PrimOK.none func32 (by kernel_rfl) ?_) func33 (by kernel_rfl) ?_
  · intro args v hg ι w xs _ _ hx
    unfold gIndex at hg
    split at hg
    · rename_i s c
      cases hg
      simp only [VRL, VR] at hx
      obtain ⟨_, _, hxs, ⟨b1, rfl, rfl⟩, _, _, rfl, ⟨b2, hb2, rfl⟩, rfl⟩ := hx
      have e1 : xs = #[.string b1, .string ⟨#[c]⟩] := by
        have : b2 = ⟨#[c]⟩ := by
          obtain ⟨⟨l⟩⟩ := b2
          simp at hb2; subst hb2; rfl
        subst this
        apply Array.ext'; simpa using hxs
      subst e1
      refine (strings_Index_one b1 c w).mono fun e w' ⟨h1, h2⟩ => ?_
      subst h1 h2
      exact ⟨_, rfl, by simp only [VR], Quiet.refl _⟩
    · cases hg
  · intro args v hg ι w xs _ _ hx
    unfold gUpper at hg
    split at hg
    · rename_i s
      split at hg
      · rename_i hc
        cases hg
        simp only [Bool.and_eq_true, decide_eq_true_eq, List.all_eq_true] at hc
        simp only [VRL, VR] at hx
        obtain ⟨_, _, hxs, ⟨b1, rfl, rfl⟩, rfl⟩ := hx
        have e1 : xs = #[.string b1] := by apply Array.ext'; simpa using hxs
        subst e1
        have hlen : b1.data.toList.length = b1.size := by simp
        refine (strings_ToUpper_ascii b1 w (by omega) (fun j b hb => hc.2 b (List.mem_of_getElem? hb))).mono fun e w' ⟨h1, h2⟩ => ?_
        subst h1
        refine ⟨_, rfl, ?_, ⟨h2.size, h2.block, h2.tape, h2.os, h2.output⟩⟩
        simp only [VR]
        exact ⟨_, rfl, rfl⟩
      · cases hg
    · cases hg

theorem awakeRun : good ((run prog lib 400).call 9 [] (Bg 9)) = true := by kernel_rfl

/-- With the chapter's examples as a known function. -/
def known : Prims := Prims.add lib 9 gTrue

theorem known_ok {A : Amb} (hG : prog.globals.size ≤ A.G) : PrimOK prog A known := by
  refine PrimOK.add hmix hnum (lib_ok A) hG func9 (by kernel_rfl) ?_
  intro args v hg
  unfold gTrue at hg
  split at hg
  · cases hg
    obtain ⟨B, h⟩ := good_eq awakeRun
    exact ⟨rfl, rfl, 400, B, by rw [gsz]; exact h⟩
  · cases hg

end Go.Proofs.Tryz
