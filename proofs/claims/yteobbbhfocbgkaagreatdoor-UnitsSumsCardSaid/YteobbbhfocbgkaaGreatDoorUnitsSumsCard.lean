/- For all lists of texts the law UnitsSums returns true, whatever the tape: the row and its tied card. No condition but what the row itself lists (the tables and errors of the library as the text lays them; no argument larger than a machine's memory). -/
import Derived.Test.YteobbbhfocbgkaaGreatDoorAw
import Derived.Test.YteobbbhfocbgkaaGreatDoorCards
import Derived.Test.YteobbbhfocbgkaaGreatDoorTie
import Derived.WalkKit
import Derived.ChangeMaps5
import Derived.Lay
import Derived.LaidOnce
import Derived.SevenTiedAt
namespace Go.Proofs.YteobbbhfocbgkaaGreatDoor
open Go.ChangeShapes Go.WideShapes Go.ChangeAt Go.RowKit Go.Lib Go.Joins
namespace UnitsSums
theorem own : ownKnob Tryz.prog.godebug = none := by kernel_rfl
theorem laidOut : laidOutB Tryz.prog = true := by kernel_rfl
set_option maxRecDepth 100000 in
theorem lifted (os : Os) (started : os.Started) (H : Type) (enc : TypeId × Value → H) :
  ReturnsInHanded {} Tryz.checked os 6 .any (fun w args => (Rows.unitsSumsSpec.pre enc Tryz.prog Tryz.f6 [] false w args ∧ laidMetH Tryz.prog Rows.unitsSumsRow.laid w) ∧ sizedMet enc Tryz.prog Tryz.f6 (OpenSpec.ofChange Rows.unitsSumsSpec) false w args)
   (Rows.unitsSumsSpec.post enc Tryz.prog Tryz.f6 false true false false) := by
 refine Ad.returnsInHanded_of_lawZ (C := Tryz.checked) own started (by kernel_rfl) Tryz.func6
  (ChangeSpec.witness_shaped (enc := enc) (C := Tryz.checked) (os := os) (X := fun w _ => laidMetH Tryz.prog Rows.unitsSumsRow.laid w) false (World.laidAll Tryz.prog os Rows.unitsSumsRow.laid) #[.slice none 0 0] 8 (World.laidAll_os _ _ _)
   (World.shaped_of_ZipB (by kernel_rfl) (by kernel_rfl)) (by kernel_rfl) (by kernel_rfl) (by kernel_rfl)
   (by rw [MakeChecks.laidMetH_plain _ _ _ (by kernel_rfl)]; exact laidMet_laidAll _ (by kernel_rfl) (by kernel_rfl))) ?_
 intro W base args ds gs before hval0 hW hZ hL hsh
 have hval : ∀ (j : Nat) t v, Tryz.f6.params[j]? = some t → args[j]? = some v → Value.okWide Tryz.prog W .any base t v := hval0
 have hW0 := hW
 obtain ⟨p, q, hA0, hV, rfl, _, _⟩ := hW
 have hA : DataW.TrodAll enc Tryz.prog W 0 (fun _ => true) true Tryz.f6.params.toList args.toList ds p := hA0
 rw [Tryz.params6] at hA hval
 have hG := Ad.heap_of_shaped hsh Tryz.started
 have hL2 : laidMet Tryz.prog Rows.unitsSumsRow.laid W := by rw [MakeChecks.laidMetH_plain _ _ _ (by kernel_rfl)] at hL; exact hL
 have hT : Tryz.Tab (Ad.ambOf W) := Tryz.tab_of hG (Tryz.tab_laid hL2)
 have hE : Tryz.TabE (Ad.ambOf W) := Tryz.tabE_of hG hL2
 have hR : Tryz.TabR (Ad.ambOf W) := Tryz.tabR_of hG hL2
 obtain ⟨v0, d0, rfl, rfl, h0⟩ := trodAll_one hA
 obtain ⟨rfl, rfl⟩ := ChangeShapes.trodVars_none hV
 have hZ1 : (d0.weights Tryz.checked.prog 42).all (· ≤ reachBytes) = true := by
  simpa [Tryz.params6, DataW.weightsEach] using hZ
 have ho := Tryz.open_strs (hval 0 42 v0 rfl rfl) h0 hZ1
 refine (Tryz.unitsSums W hG hT hE hR ho).mono fun e W' ⟨he, hw⟩ => ?_
 subst he
 exact ⟨_, rfl, Ad.post_true (P := Tryz.prog) laidOut hW0 hw rfl rfl Tryz.underlying4 (by kernel_rfl) rfl⟩
theorem holds : Rows.UnitsSumsSaid :=
 OpenClaim.holds_of_wide 6 Tryz.f6 rfl rfl rfl rfl rfl rfl rfl ⟨rfl, rfl, rfl, rfl, rfl⟩ rfl rfl rfl rfl rfl (by kernel_rfl) Tryz.func6 (by kernel_rfl)
  (of_decide_eq_true (by kernel_rfl)) (by unfold Func.isWrapper; first | (rw [if_pos (by decide +kernel)]; kernel_rfl) | (rw [if_neg (by decide +kernel)]; exact ⟨rfl, rfl⟩))
  (fun os started H enc _ => lifted os started H enc)
theorem card : Rows.UnitsSumsCardSaid :=
 Claim7.holds_tied_plain_at .later [] [.data, .data, .data, .data, .sentinel, .sentinel, .pinned] true (true, "12537375a9ed83f9f502f2eeb21283778c2d620f36871a86aa64515a960ebf7a") true
  holds (fun _ h => by cases h) (by kernel_rfl) (fun _ h => by cases h) unitsSums_row_tie rfl ⟨rfl, rfl⟩ (by kernel_rfl) rfl
  (fun f fn hf hfn => by
   obtain rfl : f = 6 := Option.some.inj ((show Tryz.prog.funcNamed "metrolab/metrolablaw13.UnitsSums" = some 6 by kernel_rfl).symm.trans hf) |>.symm
   obtain rfl : fn = Tryz.f6 := (Option.some.inj (Tryz.func6.symm.trans hfn)).symm
   exact ⟨by kernel_rfl, fun j t ht => by
    have hall : (Tryz.f6.params.toList.all fun u => !Tryz.prog.wantsStandIn u) = true := by kernel_rfl
    have hm : t ∈ Tryz.f6.params.toList := by simpa using Array.mem_of_getElem? ht
    exact (show Tryz.prog.wantsStandIn t = false by simpa using List.all_eq_true.1 hall t hm)⟩)
  (by kernel_rfl)
#print axioms card
end UnitsSums
end Go.Proofs.YteobbbhfocbgkaaGreatDoor
