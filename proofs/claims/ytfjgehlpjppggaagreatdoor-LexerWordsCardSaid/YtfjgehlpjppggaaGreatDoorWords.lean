/- LexerWords: the errors of words and numbers are the reference's. -/
import Derived.Test.YtfjgehlpjppggaaGreatDoorOpen

namespace Go.Proofs.Tryz
open Go.Ad

theorem wordsTree (s : List UInt8) : (runK prog (withAwake pE) 60).call 3 [.sstr s] (Bg 8) goodK =
    brK (decide ((s.length : Int) > 200)) (some ()) (brK (szOK s) (brK (szOK s) (brK (errW s == errW s) (brK (szOK s) (brK (szOK s) (brK (errN s == errN s) (some ()) none) none) none) none) none) none) := by kernel_rfl

theorem lexerWords (b : ByteArray) (W : World) (hG : prog.globals.size ≤ W.heap.size) (hT : Tab (ambOf W)) :
    Calls prog 3 #[.string b] W fun e W' => e = .returned (.bool true) ∧ RowKit.Below W.heap.size W W' := by
  refine law_text b W hG (withAwake_ok hT hG (pE_ok hT hG)) ((wordsTree _).trans ?_)
  generalize b.data.toList = s
  by_cases h : s.length > 200
  · rw [decide_eq_true (show (s.length : Int) > 200 by omega)]; rfl
  · have hs : szOK s = true := decide_eq_true (by omega)
    rw [decide_eq_false (show ¬ (s.length : Int) > 200 by omega), hs]
    simp [brK]
#print axioms lexerWords
end Go.Proofs.Tryz
