/- The lexer's program: words and numbers at the beginning of a text. -/
import Derived.Test.YtfjgehlpjppggaaGreatDoorScan

namespace Go.Proofs.Tryz
open Go.Ad

def sp89 (cs : List Int) : SP := ⟨[.str, .is (.slice (some (8, 0)) cs.length cs.length)], dd8 ++ [.cells (cs.map fun c => .is (.int .i64 c)) 1 true 3]⟩
def sq89 : SP := ⟨[.int .i64], dd8 ++ [.any]⟩
def T89 (cs : List Int) : List Lf → Tr (SP × List Lf)
  | [.s s] => .br (szOK s) (.leaf (sq89, [.i (lenC cs s), .o (.cells (cs.map fun c => .int .i64 c) 1 true 3)])) .fail
  | _ => .fail

theorem run89 (cs : List Int) (hcs : cs = [1, 2, 3] ∨ cs = [2]) (s : List UInt8) (hs : szOK s = true) : (runK prog (pW162 cs) 60).call 89 ((sp89 cs).rho [.s s]) ((sp89 cs).heap [.s s]) (finP sq89 9 []) = some [.i (lenC cs s), .o (.cells (cs.map fun c => .int .i64 c) 1 true 3)] := by
  have key : (runK prog (pW162 cs) 60).call 89 ((sp89 cs).rho [.s s]) ((sp89 cs).heap [.s s]) (finP sq89 9 []) =
      brK (propB ((s.length : Int) = s.length ∧ (0 : Int) = 0 ∧ (0 : Int) = 0 ∧ s = s ∧ lp162 cs s = lp162 cs s)) (brK (szOK s) (brK (decide (lenC cs s < s.length)) (some [.i (lenC cs s), .o (.cells (cs.map fun c => .int .i64 c) 1 true 3)])
        (some [.i (lenC cs s), .o (.cells (cs.map fun c => .int .i64 c) 1 true 3)])) none) none := by
    rcases hcs with rfl | rfl <;> kernel_rfl
  rw [key, propB_true ⟨rfl, rfl, rfl, rfl, rfl⟩, hs, brT, brT]
  cases decide (lenC cs s < s.length) <;> rfl

noncomputable def pL : Prims := pB.addh 89 (liftG 8 (altP (sp89 [1, 2, 3]) (funP (sp89 [1, 2, 3]) 9 [] (T89 [1, 2, 3])) (funP (sp89 [2]) 9 [] (T89 [2]))))

section
variable {A : Amb} (hT : Tab A) (hG : prog.globals.size ≤ A.G)
include hT hG

theorem f89_ok (cs : List Int) (hcs : cs = [1, 2, 3] ∨ cs = [2]) : ∀ args B v B' D, (funP (sp89 cs) 9 [] (T89 cs) args B).get = some (v, B', D) → AFr B B' D ∧ CallT prog A 89 args B v B' D := by
  refine funP_ok hmix hnum (by rcases hcs with rfl | rfl <;> rfl) fun ls sq l h => ?_
  unfold T89 at h
  split at h
  · rename_i s
    obtain ⟨hs, hv⟩ := Tr.br1 h
    cases hv
    refine ⟨?_, rfl, rfl, pW162 cs, 60, pW162_ok hT hG cs hcs, run89 cs hcs s hs⟩
    rcases hcs with rfl | rfl <;> simp [frP, sp89, sq89, SP.heap, mkH, dd8, mkT, OP.mk, List.replicate, Pt.mk]
  · cases h

theorem pL_ok : PrimOK prog A pL :=
  (pB_ok hT hG).addl gsz func89 (by kernel_rfl) (altP_ok (f89_ok hT hG _ (.inl rfl)) (f89_ok hT hG _ (.inr rfl)))
end

end Go.Proofs.Tryz
