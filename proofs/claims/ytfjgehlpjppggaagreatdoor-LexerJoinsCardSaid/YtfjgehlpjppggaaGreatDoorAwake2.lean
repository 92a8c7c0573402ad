/- The lexer's program: the chapter's examples are right. -/
import Derived.Test.YtfjgehlpjppggaaGreatDoorAwake

namespace Go.Proofs.Tryz
open Go.Ad

theorem awakeRun : (runK prog pA 400).call 12 [] (Bg 8) finV = some (.bool true) := by kernel_rfl

/-- The chapter's examples are right: the law asks no more. -/
noncomputable def withAwake (prims : Prims) : Prims := prims.addt 12 (gTab [([], .bool true)])
theorem withAwake_ok {A : Amb} (hT : Tab A) (hG : prog.globals.size ≤ A.G) {prims : Prims} (hp : PrimOK prog A prims) : PrimOK prog A (withAwake prims) := by
  refine PrimOK.addtab hmix hnum (pA_ok hT hG) hp hG func12 (by kernel_rfl) fun p hp => ?_
  simp only [List.mem_cons, List.not_mem_nil, or_false] at hp
  subst hp
  exact ⟨rfl, rfl, 400, awakeRun⟩
end Go.Proofs.Tryz
