/- For all tokens, indices and signs the law LexerSplits returns true, whatever the tape: the row and its tied card. No condition but what the row itself lists (the tables of the library as the text lays them). -/
import Derived.Test.YtfjgehlpjppggaaGreatDoorArg2
import Derived.Test.YtfjgehlpjppggaaGreatDoorCards
import Derived.Test.YtfjgehlpjppggaaGreatDoorTie
import Derived.WalkKit
import Derived.ChangeMaps5
import Derived.Lay
import Derived.LaidOnce
import Derived.SevenTiedAt
namespace Go.Proofs.YtfjgehlpjppggaaGreatDoor
open Go.ChangeShapes Go.WideShapes Go.ChangeAt Go.RowKit Go.Lib Go.Joins
namespace LexerSplits
theorem own : ownKnob Tryz.prog.godebug = none := by kernel_rfl
theorem laidOut : laidOutB Tryz.prog = true := by kernel_rfl
set_option maxRecDepth 100000 in
theorem lifted (os : Os) (started : os.Started) (H : Type) (enc : TypeId × Value -> H) :
  ReturnsInHanded {} Tryz.checked os 10 .any (fun w args => (Rows.lexerSplitsSpec.pre enc Tryz.prog Tryz.f10 [] false w args /\ laidMetH Tryz.prog Rows.lexerSplitsRow.laid w) /\ sizedMet enc Tryz.prog Tryz.f10 (OpenSpec.ofChange Rows.lexerSplitsSpec) false w args)
   (Rows.lexerSplitsSpec.post enc Tryz.prog Tryz.f10 false true false false) := by
 refine Ad.returnsInHanded_of_lawZ (C := Tryz.checked) own started (by kernel_rfl) Tryz.func10
  (ChangeSpec.witness_shaped (enc := enc) (C := Tryz.checked) (os := os) (X := fun w _ => laidMetH Tryz.prog Rows.lexerSplitsRow.laid w) false (World.laidAll Tryz.prog os Rows.lexerSplitsRow.laid) #[.slice none 0 0, .int .i64 0, .string ⟨#[]⟩] 8 (World.laidAll_os _ _ _)
   (World.shaped_of_ZipB (by kernel_rfl) (by kernel_rfl)) (by kernel_rfl) (by kernel_rfl) (by kernel_rfl)
   (by rw [MakeChecks.laidMetH_plain _ _ _ (by kernel_rfl)]; exact laidMet_laidAll _ (by kernel_rfl) (by kernel_rfl))) ?_
 intro W base args ds gs before hval0 hW hZ hL hsh
 have hval : ∀ (j : Nat) t v, Tryz.f10.params[j]? = some t -> args[j]? = some v -> Value.okWide Tryz.prog W .any base t v := hval0
 have hW0 := hW
 obtain ⟨p, q, hA0, hV, rfl, _, _⟩ := hW
 have hA : DataW.TrodAll enc Tryz.prog W 0 (fun _ => true) true Tryz.f10.params.toList args.toList ds p := hA0
 rw [Tryz.params10] at hA hval
 have hG := Ad.heap_of_shaped hsh Tryz.started
 have hL2 : laidMet Tryz.prog Rows.lexerSplitsRow.laid W := by rw [MakeChecks.laidMetH_plain _ _ _ (by kernel_rfl)] at hL; exact hL
 have hT : Tryz.Tab (Ad.ambOf W) := Tryz.tab_of hG (Tryz.tab_laid hL2)
 obtain ⟨v0, v1, v2, d0, d1, d2, p0, p1, p2, rfl, rfl, rfl, h0, h1, h2⟩ := trodAll_three hA
 obtain ⟨rfl, rfl⟩ := ChangeShapes.trodVars_none hV
 obtain ⟨a, rfl, rfl, rfl, wa⟩ := open_int Tryz.underlying3 (hval 1 3 v1 rfl rfl) h1
 obtain ⟨b, rfl, rfl, rfl, wb⟩ := Go.ChangeMaps.open_string Tryz.underlying9 (hval 2 9 v2 rfl rfl) h2
 have hZ1 : (d0.weights Tryz.checked.prog 27).all (· <= reachBytes) = true := by
  simp [Tryz.params10, DataW.weightsEach] at hZ ⊢
  exact hZ.1
 have ho := Tryz.open_toks2 (hval 0 27 v0 rfl rfl) h0 hZ1
 refine (Tryz.lexerSplits a b W hG hT ho).mono fun e W' ⟨he, hw⟩ => ?_
 subst he
 exact ⟨_, rfl, Ad.post_true (P := Tryz.prog) laidOut hW0 hw rfl rfl Tryz.underlying4 (by kernel_rfl) rfl⟩
theorem holds : Rows.LexerSplitsSaid :=
 OpenClaim.holds_of_wide 10 Tryz.f10 rfl rfl rfl rfl rfl rfl rfl ⟨rfl, rfl, rfl, rfl, rfl⟩ rfl rfl rfl rfl rfl (by kernel_rfl) Tryz.func10 (by kernel_rfl)
  (of_decide_eq_true (by kernel_rfl)) (by unfold Func.isWrapper; first | (rw [if_pos (by decide +kernel)]; kernel_rfl) | (rw [if_neg (by decide +kernel)]; exact ⟨rfl, rfl⟩))
  (fun os started H enc _ => lifted os started H enc)
theorem card : Rows.LexerSplitsCardSaid :=
 Claim7.holds_tied_plain_at .later [] [.data, .data, .data, .data, .sentinel, .sentinel, .pinned] true (true, "08a089a0dbaa55523887d198cf46f4c439181aaede2ff20b90b45caf19d7c27e") true
  holds (fun _ h => by cases h) (by kernel_rfl) (fun _ h => by cases h) lexerSplits_row_tie rfl ⟨rfl, rfl⟩ (by kernel_rfl) rfl
  (fun f fn hf hfn => by
   obtain rfl : f = 10 := Option.some.inj ((show Tryz.prog.funcNamed "metrolab/metrolablaw14.LexerSplits" = some 10 by kernel_rfl).symm.trans hf) |>.symm
   obtain rfl : fn = Tryz.f10 := (Option.some.inj (Tryz.func10.symm.trans hfn)).symm
   exact ⟨by kernel_rfl, fun j t ht => by
    have hall : (Tryz.f10.params.toList.all fun u => !Tryz.prog.wantsStandIn u) = true := by kernel_rfl
    have hm : t ∈ Tryz.f10.params.toList := by simpa using Array.mem_of_getElem? ht
    exact (show Tryz.prog.wantsStandIn t = false by simpa using List.all_eq_true.1 hall t hm)⟩)
  (by kernel_rfl)
#print axioms card
end LexerSplits
end Go.Proofs.YtfjgehlpjppggaaGreatDoor
