/- For all sizes, limits and widths the law GradesFinds returns true, whatever the tape: the row and its tied card. No condition but what the row itself lists (the tables of the library as the text lays them). -/
import Derived.Test.YtnkdndjhgoahgaaGreatDoorFinds3
import Derived.Test.YtnkdndjhgoahgaaGreatDoorOpen
import Derived.Test.YtnkdndjhgoahgaaGreatDoorCards
import Derived.Test.YtnkdndjhgoahgaaGreatDoorTie
import Derived.WalkKit
import Derived.Lay
import Derived.LaidOnce
import Derived.SevenTiedAt

namespace Go.Proofs.YtnkdndjhgoahgaaGreatDoor
open Go.ChangeShapes Go.WideShapes Go.ChangeAt Go.RowKit Go.Lib Go.Joins

namespace GradesFinds
theorem own : ownKnob Tryz.prog.godebug = none := by kernel_rfl
theorem laidOut : laidOutB Tryz.prog = true := by kernel_rfl

set_option maxRecDepth 100000 in
theorem lifted (os : Os) (started : os.Started) (H : Type) (enc : TypeId × Value → H) :
    ReturnsInHanded {} Tryz.checked os 7 .any (fun w args => (Rows.gradesFindsSpec.pre enc Tryz.prog Tryz.f7 [] false w args ∧ laidMetH Tryz.prog Rows.gradesFindsRow.laid w) ∧ sizedMet enc Tryz.prog Tryz.f7 (OpenSpec.ofChange Rows.gradesFindsSpec) false w args)
      (Rows.gradesFindsSpec.post enc Tryz.prog Tryz.f7 false true false false) := by
  refine Ad.returnsInHanded_of_law (C := Tryz.checked) own started (by kernel_rfl) Tryz.func7
    (ChangeSpec.witness_shaped (enc := enc) (C := Tryz.checked) (os := os) (X := fun w _ => laidMetH Tryz.prog Rows.gradesFindsRow.laid w) false (World.laidAll Tryz.prog os Rows.gradesFindsRow.laid) #[.int .i64 0, .agg #[.int .i64 0, .int .i64 0], .int .i64 0] 8 (World.laidAll_os _ _ _)
      (World.shaped_of_ZipB (by kernel_rfl) (by kernel_rfl)) (by kernel_rfl) (by kernel_rfl) (by kernel_rfl)
      (by rw [MakeChecks.laidMetH_plain _ _ _ (by kernel_rfl)]; exact laidMet_laidAll _ (by kernel_rfl) (by kernel_rfl))) ?_
  intro W base args ds gs before hval0 hW hL hsh
  have hval : ∀ (j : Nat) t v, Tryz.f7.params[j]? = some t → args[j]? = some v → Value.okWide Tryz.prog W .any base t v := hval0
  have hW0 := hW
  obtain ⟨p, q, hA0, hV, rfl, _, _⟩ := hW
  have hA : DataW.TrodAll enc Tryz.prog W 0 (fun _ => true) true Tryz.f7.params.toList args.toList ds p := hA0
  rw [Tryz.params7] at hA hval
  have hG := Ad.heap_of_shaped hsh Tryz.started
  obtain ⟨v0, v1, v2, d0, d1, d2, p0, p1, p2, rfl, rfl, rfl, h0, h1, h2⟩ := trodAll_three hA
  obtain ⟨n, rfl, rfl, rfl, wn⟩ := open_int Tryz.underlying3 (hval 0 3 v0 rfl rfl) h0
  obtain ⟨a, b, rfl, ba, bb⟩ := Tryz.open_lim (hval 1 39 v1 rfl rfl) h1
  obtain ⟨w, rfl, rfl, rfl, ww⟩ := open_int Tryz.underlying3 (hval 2 3 v2 rfl rfl) h2
  refine (Tryz.gradesFinds n a b w W hG (Tryz.lit_i64 wn)).mono fun e W' ⟨he, hw⟩ => ?_
  subst he
  exact ⟨_, rfl, Ad.post_true (P := Tryz.prog) laidOut hW0 hw rfl rfl Tryz.underlying4 (by kernel_rfl) rfl⟩

theorem holds : Rows.GradesFindsSaid :=
  OpenClaim.holds_of_wide 7 Tryz.f7 rfl rfl rfl rfl rfl rfl rfl ⟨rfl, rfl, rfl, rfl, rfl⟩ rfl rfl rfl rfl rfl (by kernel_rfl) Tryz.func7 (by kernel_rfl)
    (of_decide_eq_true (by kernel_rfl)) (by unfold Func.isWrapper; first | (rw [if_pos (by decide +kernel)]; kernel_rfl) | (rw [if_neg (by decide +kernel)]; exact ⟨rfl, rfl⟩))
    (fun os started H enc _ => lifted os started H enc)

theorem card : Rows.GradesFindsCardSaid :=
  Claim7.holds_tied_plain_at .later [] [.data, .data, .data, .data, .sentinel, .sentinel, .pinned, .pinned] true (true, "3fb7fd4e28bc200ae2f9aa17cb1c0aae5d0a6a62a56c113a6807d8d862b85ccf") true
    holds (fun _ h => by cases h) (by kernel_rfl) (fun _ h => by cases h) gradesFinds_row_tie rfl ⟨rfl, rfl⟩ (by kernel_rfl) rfl
    (fun f fn hf hfn => by
      obtain rfl : f = 7 := Option.some.inj ((show Tryz.prog.funcNamed "metrolab/metrolablaw15.GradesFinds" = some 7 by kernel_rfl).symm.trans hf) |>.symm
      obtain rfl : fn = Tryz.f7 := (Option.some.inj (Tryz.func7.symm.trans hfn)).symm
      exact ⟨by kernel_rfl, fun j t ht => by
        have hall : (Tryz.f7.params.toList.all fun u => !Tryz.prog.wantsStandIn u) = true := by kernel_rfl
        have hm : t ∈ Tryz.f7.params.toList := by simpa using Array.mem_of_getElem? ht
        exact (show Tryz.prog.wantsStandIn t = false by simpa using List.all_eq_true.1 hall t hm)⟩)
    (by kernel_rfl)
#print axioms card
end GradesFinds
end Go.Proofs.YtnkdndjhgoahgaaGreatDoor
