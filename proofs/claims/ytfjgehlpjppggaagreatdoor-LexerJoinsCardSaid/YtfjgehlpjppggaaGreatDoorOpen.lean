/- The lexer's laws: what they share. -/
import Derived.Test.YtfjgehlpjppggaaGreatDoorAwake2
import Derived.Test.YtfjgehlpjppggaaGreatDoorWord

namespace Go.Proofs.Tryz
open Go.Ad

theorem tab_laid {W : World} {a b : String × DataW Unit} {r : List (String × DataW Unit)} (h : laidMet prog (a :: b :: ("internal/strconv.uint64pow10", Lib.tabData .u64 Lib.pow10Tab) :: r) W) :
    Lib.TabIs prog W "internal/strconv.uint64pow10" .u64 Lib.pow10Tab :=
  Lib.tabIs_of_head (g := 5) (t := 228) (e := 169) (n := 20) (by kernel_rfl) (by kernel_rfl) (by kernel_rfl) (by kernel_rfl) (by kernel_rfl) (by kernel_rfl) (laidVars_tail (laidVars_tail h))

/-- A law of one text. -/
theorem law_text {prims : Prims} (b : ByteArray) (W : World) (hG : prog.globals.size ≤ W.heap.size) (hp : PrimOK prog (ambOf W) prims) {f : FuncId} {n : Nat} (h : (runK prog prims n).call f [.sstr b.data.toList] (Bg 8) goodK = some ()) :
    Calls prog f #[.string b] W fun e W' => e = .returned (.bool true) ∧ RowKit.Below W.heap.size W W' := by
  refine law_of_K hmix hnum hp hG (n := n) (args := [.sstr b.data.toList]) (by rw [gsz]; exact h) rfl (iotaG 8) _ ?_
  simp only [VRL, VR]
  exact ⟨_, _, rfl, ⟨b, rfl, rfl⟩, rfl⟩
end Go.Proofs.Tryz
