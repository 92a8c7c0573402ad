/- What limits are that a law is called with: two cells. -/
import Derived.Test.YtnkdndjhgoahgaaGreatDoorShelf
import Derived.Lib.SmallJoins
import Derived.Test.YtnkdndjhgoahgaaGreatDoorAdPrim

namespace Go.Proofs.Tryz
open Go.ChangeShapes Go.WideShapes Go.ChangeAt Go.RowKit Go.Lib Go.Joins

def I64 (n : Int) : Prop := -9223372036854775808 ≤ n ∧ n ≤ 9223372036854775807
theorem lit_i64 {n : Int} (h : (Lit.int IntKind.i64 n).wf) : I64 n := by simpa [I64, Lit.wf, IntKind.min, IntKind.max, IntKind.signed, IntKind.bits] using h
theorem array2 {α : Type} {cs : Array α} (h : cs.size = 2) : ∃ c0 c1, cs = #[c0, c1] := by
  obtain ⟨l⟩ := cs
  match l, h with
  | [c0, c1], _ => exact ⟨c0, c1, rfl⟩

set_option maxRecDepth 100000 in
theorem open_lim {H : Type} {enc : TypeId × Value → H} {W : World} {base : Nat} {spare : Nat → Bool} {held : Bool} {r : Reach} {b0 : Nat} {v : Value} {d : DataW H} {p : List MemPlace}
    (hv : Value.okWide prog W r b0 39 v) (h : DataW.Trod enc prog W base spare held 39 v d p) : ∃ (a b : Int), v = .agg #[.int .i64 a, .int .i64 b] ∧ I64 a ∧ I64 b := by
  obtain ⟨cs, rfl, hsz⟩ := Go.WideShapes.okWide_struct underlying39 hv
  obtain ⟨c0, c1, rfl⟩ := array2 (hsz.trans (by kernel_rfl))
  obtain ⟨fuel, hf⟩ := h
  obtain ⟨y0, y1, n, _, _, h0, h1⟩ := Go.ChangeShapes.trod_struct2 underlying39 hf
  have c3 : prog.cellsOf 3 = 1 := by kernel_rfl
  obtain ⟨a, e0, _, wa⟩ := DataW.trod_int underlying3 h0
  obtain ⟨b, e1, _, wb⟩ := DataW.trod_int underlying3 h1
  simp [c3, Value.cells] at e0 e1
  subst e0 e1
  exact ⟨a, b, rfl, lit_i64 wa, lit_i64 wb⟩
end Go.Proofs.Tryz
