/- LexerCovers: the law. -/
import Derived.Test.YtfjgehlpjppggaaGreatDoorCovers

namespace Go.Proofs.Tryz
open Go.Ad

def okC (s : List UInt8) : Prop := scB s = false ∧ s.length ≤ 4096 ∧ (scanR s).1.length = (scT s).length ∧ (0 : Int) = 0 ∧ (scanR s).1.length = (scanR s).1.length ∧ ((scanR s).1.length : Int) = (scanR s).1.length ∧ (0 : Int) = 0 ∧ (scanR s).1.length = (scanR s).1.length ∧ rowsT (scanR s).1 = rowsT (scT s)

noncomputable def innerC (s : List UInt8) : Option Unit := brK ((scanR s).2.2 != 0) (some ()) (brK (propB (okC s)) (brK (decide (((scanR s).1.length : Int) > 0)) (brK ((s.length : Int) == s.length) (some ()) none) none) none)
theorem coversTree (s : List UInt8) : (runK prog pC7 60).call 7 [.sstr s] (Bg 8) goodK =
    brK (decide ((s.length : Int) ≤ 500)) (innerC s) (brK (decide ((s.length : Int) > 4096)) (brK (!decide ((s.length : Int) ≤ 8192)) (some ()) (innerC s)) (some ())) := by kernel_rfl

theorem innerC_ok (s : List UInt8) : innerC s = some () := by
  unfold innerC
  by_cases hs : s.length ≤ 4096
  · cases hb : scB s with
    | true =>
      have h2 : (scanR s).2.2 = scE s := by simp [scanR, hs, hb]
      rw [h2]
      have := scE_ne s hb
      rw [show (scE s != 0) = true by simpa using this]; rfl
    | false =>
      have h1 : scanR s = (scT s, 0, 0) := by simp [scanR, hs, hb]
      rw [propB_true (p := okC s) ⟨hb, hs, by rw [h1], rfl, rfl, rfl, rfl, rfl, by rw [h1]⟩, h1]
      simp [brK, scT]
  · have h1 : scanR s = ([], 0, 17) := by simp [scanR, hs]
    rw [h1]; rfl

theorem lexerCovers (b : ByteArray) (W : World) (hG : prog.globals.size ≤ W.heap.size) (hT : Tab (ambOf W)) :
    Calls prog 7 #[.string b] W fun e W' => e = .returned (.bool true) ∧ RowKit.Below W.heap.size W W' := by
  refine law_text b W hG (pC7_ok hT hG) ((coversTree _).trans ?_)
  rw [innerC_ok]
  generalize b.data.toList = s
  cases decide ((s.length : Int) ≤ 500) <;> cases decide ((s.length : Int) > 4096) <;> cases decide ((s.length : Int) ≤ 8192) <;> rfl
#print axioms lexerCovers
end Go.Proofs.Tryz
