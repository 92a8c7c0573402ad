/- The fixed example, as a known function of the evaluator. -/
import Derived.Test.YthpoofohoancnaaPin4

namespace Go.Proofs.Try
open Go.Ad

theorem tT {β : Type} {p : Prop} {t f : Option β} (h : p) : brK (propB p) t f = t := by
  have : propB p = true := propB_true h
  rw [this]; rfl

theorem caseRun0 : (runK prog pin4 400).call 5 [] (Bg 0) finV = brK (propB (args23 = args23 ∧ heap23 = heap23)) (brK (propB (args24 = args24 ∧ heap24 = heap24)) (brK (propB (args25 = args25 ∧ heap25 = heap25)) (brK (propB (args26 = args26 ∧ heap26 = heap26)) (some (.bool true)) none) none) none) none := by kernel_rfl
theorem caseRun : (runK prog pin4 400).call 5 [] (Bg 0) finV = some (.bool true) := by
  rw [caseRun0, tT ⟨rfl, rfl⟩, tT ⟨rfl, rfl⟩, tT ⟨rfl, rfl⟩, tT ⟨rfl, rfl⟩]

def sTrue : List AV → Tr AV
  | [] => .leaf (.bool true)
  | _ => .fail

def known : Prims := lib.addt 5 sTrue

theorem known_ok {A : Amb} (hT : Tab A) (hG : prog.globals.size ≤ A.G) : PrimOK prog A known := PrimOK.addt2 hmix hnum (pin4_ok hT) (lib_ok hT) hG func5 (by kernel_rfl) fun args v hg => by
  unfold sTrue at hg
  split at hg
  · cases hg
    obtain ⟨B', hca⟩ := Ca.of_finV caseRun
    exact ⟨_, _, B', fun _ _ h => h, fun _ _ h => h, rfl, rfl, by rw [gsz]; exact hca⟩
  · cases hg
end Go.Proofs.Try
