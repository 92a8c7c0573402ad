/- For all sizes and classes the law GradesReturns returns true, whatever the tape: the row and its tied card. No condition but what the row itself lists (the tables of the library as the text lays them). -/
import Derived.Test.YtnkdndjhgoahgaaGreatDoorReturns2
import Derived.Test.YtnkdndjhgoahgaaGreatDoorCards
import Derived.Test.YtnkdndjhgoahgaaGreatDoorTie
import Derived.WalkKit
import Derived.Lay
import Derived.LaidOnce
import Derived.SevenTiedAt

namespace Go.Proofs.YtnkdndjhgoahgaaGreatDoor
open Go.ChangeShapes Go.WideShapes Go.ChangeAt Go.RowKit Go.Lib Go.Joins

namespace GradesReturns
theorem own : ownKnob Tryz.prog.godebug = none := by kernel_rfl
theorem laidOut : laidOutB Tryz.prog = true := by kernel_rfl

set_option maxRecDepth 100000 in
theorem lifted (os : Os) (started : os.Started) (H : Type) (enc : TypeId × Value → H) :
    ReturnsInHanded {} Tryz.checked os 8 .any (fun w args => (Rows.gradesReturnsSpec.pre enc Tryz.prog Tryz.f8 [] false w args ∧ laidMetH Tryz.prog Rows.gradesReturnsRow.laid w) ∧ sizedMet enc Tryz.prog Tryz.f8 (OpenSpec.ofChange Rows.gradesReturnsSpec) false w args)
      (Rows.gradesReturnsSpec.post enc Tryz.prog Tryz.f8 false true false false) := by
  refine Ad.returnsInHanded_of_law (C := Tryz.checked) own started (by kernel_rfl) Tryz.func8
    (ChangeSpec.witness_shaped (enc := enc) (C := Tryz.checked) (os := os) (X := fun w _ => laidMetH Tryz.prog Rows.gradesReturnsRow.laid w) false (World.laidAll Tryz.prog os Rows.gradesReturnsRow.laid) #[.int .i64 0, .agg #[.bool false, .int .i64 0, .int .i64 0]] 8 (World.laidAll_os _ _ _)
      (World.shaped_of_ZipB (by kernel_rfl) (by kernel_rfl)) (by kernel_rfl) (by kernel_rfl) (by kernel_rfl)
      (by rw [MakeChecks.laidMetH_plain _ _ _ (by kernel_rfl)]; exact laidMet_laidAll _ (by kernel_rfl) (by kernel_rfl))) ?_
  intro W base args ds gs before hval0 hW hL hsh
  have hval : ∀ (j : Nat) t v, Tryz.f8.params[j]? = some t → args[j]? = some v → Value.okWide Tryz.prog W .any base t v := hval0
  have hW0 := hW
  obtain ⟨p, q, hA0, hV, rfl, _, _⟩ := hW
  have hA : DataW.TrodAll enc Tryz.prog W 0 (fun _ => true) true Tryz.f8.params.toList args.toList ds p := hA0
  rw [Tryz.params8] at hA hval
  have hG := Ad.heap_of_shaped hsh Tryz.started
  obtain ⟨v0, v1, d0, d1, p0, p1, rfl, rfl, rfl, h0, h1⟩ := trodAll_two hA
  obtain ⟨n, rfl, rfl, rfl, wn⟩ := open_int Tryz.underlying3 (hval 0 3 v0 rfl rfl) h0
  obtain ⟨c0, c1, c2, y0, y1, y2, m, rfl, rfl, rfl, k0, k1, k2⟩ := open_agg3 Tryz.underlying23 (by kernel_rfl) (by kernel_rfl) (hval 1 23 v1 rfl rfl) h1
  obtain ⟨s, e0, rfl⟩ := DataW.trod_bool Tryz.underlying4 k0
  obtain ⟨l, e1, rfl, wl⟩ := DataW.trod_int Tryz.underlying3 k1
  obtain ⟨g, e2, rfl, wg⟩ := DataW.trod_int Tryz.underlying3 k2
  simp only [List.cons.injEq, and_true] at e0 e1 e2
  subst e0 e1 e2
  have bn : -9223372036854775808 ≤ n ∧ n ≤ 9223372036854775807 := by simpa [Lit.wf, IntKind.min, IntKind.max, IntKind.signed, IntKind.bits] using wn
  have bl : -9223372036854775808 ≤ l ∧ l ≤ 9223372036854775807 := by simpa [Lit.wf, IntKind.min, IntKind.max, IntKind.signed, IntKind.bits] using wl
  have bg : -9223372036854775808 ≤ g ∧ g ≤ 9223372036854775807 := by simpa [Lit.wf, IntKind.min, IntKind.max, IntKind.signed, IntKind.bits] using wg
  refine (Tryz.gradesReturns n l g s W hG bn bl bg).mono fun e W' ⟨he, hw⟩ => ?_
  subst he
  exact ⟨_, rfl, Ad.post_true (P := Tryz.prog) laidOut hW0 hw rfl rfl Tryz.underlying4 (by kernel_rfl) rfl⟩

theorem holds : Rows.GradesReturnsSaid :=
  OpenClaim.holds_of_wide 8 Tryz.f8 rfl rfl rfl rfl rfl rfl rfl ⟨rfl, rfl, rfl, rfl, rfl⟩ rfl rfl rfl rfl rfl (by kernel_rfl) Tryz.func8 (by kernel_rfl)
    (of_decide_eq_true (by kernel_rfl)) (by unfold Func.isWrapper; first | (rw [if_pos (by decide +kernel)]; kernel_rfl) | (rw [if_neg (by decide +kernel)]; exact ⟨rfl, rfl⟩))
    (fun os started H enc _ => lifted os started H enc)

theorem card : Rows.GradesReturnsCardSaid :=
  Claim7.holds_tied_plain_at .later [] [.data, .data, .data, .data, .sentinel, .sentinel, .pinned, .pinned] true (true, "3fb7fd4e28bc200ae2f9aa17cb1c0aae5d0a6a62a56c113a6807d8d862b85ccf") true
    holds (fun _ h => by cases h) (by kernel_rfl) (fun _ h => by cases h) gradesReturns_row_tie rfl ⟨rfl, rfl⟩ (by kernel_rfl) rfl
    (fun f fn hf hfn => by
      obtain rfl : f = 8 := Option.some.inj ((show Tryz.prog.funcNamed "metrolab/metrolablaw15.GradesReturns" = some 8 by kernel_rfl).symm.trans hf) |>.symm
      obtain rfl : fn = Tryz.f8 := (Option.some.inj (Tryz.func8.symm.trans hfn)).symm
      exact ⟨by kernel_rfl, fun j t ht => by
        have hall : (Tryz.f8.params.toList.all fun u => !Tryz.prog.wantsStandIn u) = true := by kernel_rfl
        have hm : t ∈ Tryz.f8.params.toList := by simpa using Array.mem_of_getElem? ht
        exact (show Tryz.prog.wantsStandIn t = false by simpa using List.all_eq_true.1 hall t hm)⟩)
    (by kernel_rfl)
#print axioms card
end GradesReturns
end Go.Proofs.YtnkdndjhgoahgaaGreatDoor
