/- For all fits the law TopStacksFit returns true, whatever the tape: the row. -/
import Derived.Test.YthpoofohoancnaaStacks
import Derived.Test.YthpoofohoancnaaOpen
import Derived.Test.YthpoofohoancnaaRows
import Derived.ProofKit
import Derived.WalkKit

namespace Go.Proofs.Ythpoofohoancnaa
open Go.ChangeShapes Go.WideShapes Go.ChangeAt Go.RowKit

namespace TopStacksFit
theorem own : ownKnob Try.prog.godebug = none := by kernel_rfl
theorem laidOut : laidOutB Try.prog = true := by kernel_rfl

set_option maxRecDepth 100000 in
theorem lifted (os : Os) (started : os.Started) (H : Type) (enc : TypeId × Value → H) :
    ReturnsInHanded {} Try.checked os 3 .any (Rows.topStacksFitSpec.pre6 enc Try.prog Try.f3 Rows.topStacksFitRow.domain false) (Rows.topStacksFitSpec.post enc Try.prog Try.f3 false true false false) := by
  refine returnsInHanded_of_change (C := Try.checked) own started (by kernel_rfl) Try.func3
    (ChangeSpec.witness6 (enc := enc) (C := Try.checked) false ⟨#[], #[.agg #[.int .i64 0, .bool false, .int .i64 0, .int .i64 0, .bool false, .int .i64 0, .int .i64 0]], []⟩ 8 (by kernel_rfl) (by kernel_rfl) (by kernel_rfl) (by kernel_rfl)) ?_
  intro W base args ds gs before hval0 hW hcnd _
  have hval : ∀ (j : Nat) t v, Try.f3.params[j]? = some t → args[j]? = some v → Value.okWide Try.prog W .any base t v := hval0
  have hW0 := hW
  obtain ⟨p, q, hA0, hV, rfl, _, _⟩ := hW
  have hA : DataW.TrodAll enc Try.prog W 0 (fun _ => true) true Try.f3.params.toList args.toList ds p := hA0
  rw [Try.params3] at hA hval
  have hG : Try.prog.globals.size ≤ W.heap.size := by rw [Try.gsz]; exact Nat.zero_le _
  have hT : Try.Tab (Ad.ambOf W) := trivial
  obtain ⟨v0, d0, rfl, rfl, h0⟩ := trodAll_one hA
  obtain ⟨n, hl, hg, sl, sg, hh, sh, rfl, bn, bhl, bhg, bsl, bsg⟩ := Try.open_fit (hval 0 25 v0 rfl rfl) h0
  refine (Try.topStacksFit n hl hg sl sg hh sh W hG hT bn bhl bhg bsl bsg).mono fun e W' ⟨he, hw⟩ => ?_
  subst he
  exact ⟨_, rfl, Ad.post_true (P := Try.prog) laidOut hW0 hw rfl rfl Try.underlying4 (by kernel_rfl) rfl⟩

theorem holds : Rows.TopStacksFitSaid :=
  OpenClaim.holds_of_wide 3 Try.f3 rfl rfl rfl rfl rfl rfl rfl ⟨rfl, rfl, rfl, rfl, rfl⟩ rfl rfl rfl rfl rfl (by kernel_rfl) Try.func3 (by kernel_rfl)
    (of_decide_eq_true (by kernel_rfl)) (by unfold Func.isWrapper; first | (rw [if_pos (by decide +kernel)]; kernel_rfl) | (rw [if_neg (by decide +kernel)]; exact ⟨rfl, rfl⟩))
    (fun os started H enc _ => lifted os started H enc)
#print axioms holds
end TopStacksFit
end Go.Proofs.Ythpoofohoancnaa
