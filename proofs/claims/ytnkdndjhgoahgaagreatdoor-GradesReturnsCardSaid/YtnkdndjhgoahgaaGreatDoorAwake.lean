/- The grades' program: the chapter's examples. -/
import Derived.Test.YtnkdndjhgoahgaaGreatDoorPrs

namespace Go.Proofs.Tryz
open Go.Ad

def gTrue : List AV → Option AV
  | [] => some (.bool true)
  | _ => none

theorem awakeRun : (runK prog (prs lib) 400).call 9 [] (Bg 9) finV = some (.bool true) := by kernel_rfl

def sTrue : List AV → Tr AV
  | [] => .leaf (.bool true)
  | _ => .fail

def known : Prims := (prs lib).addt 9 sTrue

theorem known_ok {A : Amb} (hT : Tab A) (hG : prog.globals.size ≤ A.G) : PrimOK prog A known := PrimOK.addt hmix hnum (prs_ok (lib_ok hT)) hG func9 (by kernel_rfl) fun args v hg => by
  unfold sTrue at hg
  split at hg
  · cases hg
    obtain ⟨B', hca⟩ := Ca.of_finV awakeRun
    exact ⟨_, _, B', fun _ _ h => h, fun _ _ h => h, rfl, rfl, by rw [gsz]; exact hca⟩
  · cases hg
end Go.Proofs.Tryz
