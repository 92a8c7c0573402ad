/- The lexer's program: the divisors that the chapter's examples ask for. -/
import Derived.Test.YtfjgehlpjppggaaGreatDoorLib

namespace Go.Proofs.Tryz
open Go.Ad

def aGcd (a b : List UInt8) : List AV := [.str a, .str b]
def vGcd (a : List UInt8) : AV := .tuple [.str a, .int .i64 0]
theorem gcd1 : (runK prog lib2 400).call 136 (aGcd [50, 53] [50]) (Bg 8) finV = some (vGcd [49]) := by kernel_rfl
theorem gcd2 : (runK prog lib2 400).call 136 (aGcd [45, 55] [52]) (Bg 8) finV = some (vGcd [49]) := by kernel_rfl
theorem gcd3 : (runK prog lib2 400).call 136 (aGcd [49] [51]) (Bg 8) finV = some (vGcd [49]) := by kernel_rfl
theorem gcd4 : (runK prog lib2 400).call 136 (aGcd [49, 50, 53, 48] [49, 48, 48]) (Bg 8) finV = some (vGcd [53, 48]) := by kernel_rfl
def tGcd : List (List AV × AV) := [(aGcd [50, 53] [50], vGcd [49]), (aGcd [45, 55] [52], vGcd [49]), (aGcd [49] [51], vGcd [49]), (aGcd [49, 50, 53, 48] [49, 48, 48], vGcd [53, 48])]
def pG : Prims := lib2.addt 136 (gTab tGcd)
theorem pG_ok {A : Amb} (hT : Tab A) (hG : prog.globals.size ≤ A.G) : PrimOK prog A pG := by
  refine PrimOK.addtab hmix hnum (lib2_ok hT) (lib2_ok hT) hG func136 (by kernel_rfl) fun p hp => ?_
  simp only [tGcd, List.mem_cons, List.not_mem_nil, or_false] at hp
  rcases hp with rfl | rfl | rfl | rfl
  · exact ⟨rfl, rfl, 400, gcd1⟩
  · exact ⟨rfl, rfl, 400, gcd2⟩
  · exact ⟨rfl, rfl, 400, gcd3⟩
  · exact ⟨rfl, rfl, 400, gcd4⟩
end Go.Proofs.Tryz
