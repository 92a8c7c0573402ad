/- What a fit is that a law is called with: seven cells. -/
import Derived.Test.YthpoofohoancnaaBase
import Derived.Lib.SmallJoins
import Derived.Test.YthpoofohoancnaaAdPrim

namespace Go.Proofs.Try
open Go.ChangeShapes Go.WideShapes Go.ChangeAt Go.RowKit Go.Lib Go.Joins

def I64 (n : Int) : Prop := -9223372036854775808 ≤ n ∧ n ≤ 9223372036854775807

theorem lit_i64 {n : Int} (h : (Lit.int IntKind.i64 n).wf) : I64 n := by simpa [I64, Lit.wf, IntKind.min, IntKind.max, IntKind.signed, IntKind.bits] using h

theorem array7 {α : Type} {cs : Array α} (h : cs.size = 7) : ∃ c0 c1 c2 c3 c4 c5 c6, cs = #[c0, c1, c2, c3, c4, c5, c6] := by
  obtain ⟨l⟩ := cs
  match l, h with
  | [c0, c1, c2, c3, c4, c5, c6], _ => exact ⟨c0, c1, c2, c3, c4, c5, c6, rfl⟩

set_option maxRecDepth 100000 in
theorem open_fit {H : Type} {enc : TypeId × Value → H} {W : World} {base : Nat} {spare : Nat → Bool} {held : Bool} {r : Reach} {b0 : Nat} {v : Value} {d : DataW H} {p : List MemPlace}
    (hv : Value.okWide prog W r b0 25 v) (h : DataW.Trod enc prog W base spare held 25 v d p) :
    ∃ (n hl hg sl sg : Int) (hh sh : Bool), v = .agg #[.int .i64 n, .bool hh, .int .i64 hl, .int .i64 hg, .bool sh, .int .i64 sl, .int .i64 sg] ∧ I64 n ∧ I64 hl ∧ I64 hg ∧ I64 sl ∧ I64 sg := by
  obtain ⟨cs, rfl, hsz⟩ := okWide_struct underlying25 hv
  obtain ⟨c0, c1, c2, c3, c4, c5, c6, rfl⟩ := array7 (hsz.trans (by kernel_rfl))
  obtain ⟨fuel, hf⟩ := h
  obtain ⟨y0, y1, y2, n, _, _, h0, h1, h2⟩ := Go.Deep.trod_struct3 underlying25 hf
  have c3 : prog.cellsOf 3 = 1 := by kernel_rfl
  have c4 : prog.cellsOf 4 = 1 := by kernel_rfl
  have c23 : prog.cellsOf 23 = 3 := by kernel_rfl
  obtain ⟨z0, z1, z2, n1, _, _, k0, k1, k2⟩ := Go.Deep.trod_struct3 underlying23 h1
  obtain ⟨x0, x1, x2, n2, _, _, l0, l1, l2⟩ := Go.Deep.trod_struct3 underlying23 h2
  obtain ⟨a, e0, _, wa⟩ := DataW.trod_int underlying3 h0
  obtain ⟨s1, e1, _⟩ := DataW.trod_bool underlying4 k0
  obtain ⟨b, e2, _, wb⟩ := DataW.trod_int underlying3 k1
  obtain ⟨c, e3, _, wc⟩ := DataW.trod_int underlying3 k2
  obtain ⟨s2, e4, _⟩ := DataW.trod_bool underlying4 l0
  obtain ⟨e, e5, _, we⟩ := DataW.trod_int underlying3 l1
  obtain ⟨f, e6, _, wf⟩ := DataW.trod_int underlying3 l2
  simp [c3, c4, c23, Value.cells] at e0 e1 e2 e3 e4 e5 e6
  subst e0 e1 e2 e3 e4 e5 e6
  exact ⟨a, b, c, e, f, s1, s2, rfl, lit_i64 wa, lit_i64 wb, lit_i64 wc, lit_i64 we, lit_i64 wf⟩
end Go.Proofs.Try
