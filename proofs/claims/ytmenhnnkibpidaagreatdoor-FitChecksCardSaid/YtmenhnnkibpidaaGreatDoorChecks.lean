/- FitChecks: the fit's check, limits, clearance and kind are those of the reference, at all fits. -/
import Derived.Test.YtmenhnnkibpidaaGreatDoorChk
namespace Go.Proofs.Tryz
open Go.Ad

theorem fitChecksE1 (n hl hg sl sg : Int) (hh sh : Bool) : (runK prog pLim 60).call 3 [.agg [.rng .i64 n (-9223372036854775808) 0, .sbool hh, .sint .i64 hl, .sint .i64 hg, .sbool sh, .sint .i64 sl, .sint .i64 sg]] (Bg 9) goodK = some () := by kernel_rfl
theorem fitChecksE2 (n hl hg sl sg : Int) (hh sh : Bool) : (runK prog pLim 60).call 3 [.agg [.rng .i64 n 100001 9223372036854775807, .sbool hh, .sint .i64 hl, .sint .i64 hg, .sbool sh, .sint .i64 sl, .sint .i64 sg]] (Bg 9) goodK = some () := by kernel_rfl
theorem fitChecksE3 (n hl hg sl sg : Int) (hh sh : Bool) : (runK prog pLim 60).call 3 [.agg [.rng .i64 n 1 100000, .sbool hh, .rng .i64 hl (-9223372036854775808) (-1), .sint .i64 hg, .sbool sh, .sint .i64 sl, .sint .i64 sg]] (Bg 9) goodK = some () := by kernel_rfl
theorem fitChecksE4 (n hl hg sl sg : Int) (hh sh : Bool) : (runK prog pLim 60).call 3 [.agg [.rng .i64 n 1 100000, .sbool hh, .rng .i64 hl 10 9223372036854775807, .sint .i64 hg, .sbool sh, .sint .i64 sl, .sint .i64 sg]] (Bg 9) goodK = some () := by kernel_rfl
theorem fitChecksE5 (n hl hg sl sg : Int) (hh sh : Bool) : (runK prog pLim 60).call 3 [.agg [.rng .i64 n 1 100000, .sbool hh, .rng .i64 hl 0 9, .rng .i64 hg (-9223372036854775808) 4, .sbool sh, .sint .i64 sl, .sint .i64 sg]] (Bg 9) goodK = some () := by kernel_rfl
theorem fitChecksE6 (n hl hg sl sg : Int) (hh sh : Bool) : (runK prog pLim 60).call 3 [.agg [.rng .i64 n 1 100000, .sbool hh, .rng .i64 hl 0 9, .rng .i64 hg 13 9223372036854775807, .sbool sh, .sint .i64 sl, .sint .i64 sg]] (Bg 9) goodK = some () := by kernel_rfl
theorem fitChecksE7 (n hl hg sl sg : Int) (hh sh : Bool) : (runK prog pLim 60).call 3 [.agg [.rng .i64 n 1 100000, .sbool hh, .rng .i64 hl 0 9, .rng .i64 hg 5 12, .sbool sh, .rng .i64 sl (-9223372036854775808) (-1), .sint .i64 sg]] (Bg 9) goodK = some () := by kernel_rfl
theorem fitChecksE8 (n hl hg sl sg : Int) (hh sh : Bool) : (runK prog pLim 60).call 3 [.agg [.rng .i64 n 1 100000, .sbool hh, .rng .i64 hl 0 9, .rng .i64 hg 5 12, .sbool sh, .rng .i64 sl 10 9223372036854775807, .sint .i64 sg]] (Bg 9) goodK = some () := by kernel_rfl
theorem fitChecksE9 (n hl hg sl sg : Int) (hh sh : Bool) : (runK prog pLim 60).call 3 [.agg [.rng .i64 n 1 100000, .sbool hh, .rng .i64 hl 0 9, .rng .i64 hg 5 12, .sbool sh, .rng .i64 sl 0 9, .rng .i64 sg (-9223372036854775808) 4]] (Bg 9) goodK = some () := by kernel_rfl
theorem fitChecksE10 (n hl hg sl sg : Int) (hh sh : Bool) : (runK prog pLim 60).call 3 [.agg [.rng .i64 n 1 100000, .sbool hh, .rng .i64 hl 0 9, .rng .i64 hg 5 12, .sbool sh, .rng .i64 sl 0 9, .rng .i64 sg 13 9223372036854775807]] (Bg 9) goodK = some () := by kernel_rfl
theorem fitChecksE11 (n hl hg sl sg : Int) (hh sh : Bool) : (runK prog pLim 60).call 3 [.agg [.rng .i64 n 1 100000, .bool false, .rng .i64 hl 0 9, .rng .i64 hg 5 12, .sbool sh, .rng .i64 sl 0 9, .rng .i64 sg 5 12]] (Bg 9) goodK = some () := by kernel_rfl
theorem fitChecksE12 (n hl hg sl sg : Int) (hh sh : Bool) : (runK prog pLim 60).call 3 [.agg [.rng .i64 n 1 100000, .bool true, .rng .i64 hl 0 9, .rng .i64 hg 5 12, .bool true, .rng .i64 sl 0 9, .rng .i64 sg 5 12]] (Bg 9) goodK = some () := by kernel_rfl

theorem fitChecksT (n m g m' g' : Int) : (runK prog (pLaw true true) 60).call 3 [.agg [.rng .i64 n 1 100000, .bool true, .rng .i64 m 0 9, .rng .i64 g 5 12, .bool false, .rng .i64 m' 0 9, .rng .i64 g' 5 12]] (Bg 9) goodK = brK (inV n m g && (inV n m' g' && okF n m g m' g')) (brK (inV n m g && (inV n m' g' && okF n m g m' g')) (brK (decide ((1 ≤ n ∧ n ≤ 100000) ∧ (0 ≤ m ∧ m ≤ 9) ∧ 5 ≤ g ∧ g ≤ 12)) (brK (decide ((1 ≤ n ∧ n ≤ 100000) ∧ (0 ≤ m' ∧ m' ≤ 9) ∧ 5 ≤ g' ∧ g' ≤ 12)) (brK (inV n m g && (inV n m' g' && okF n m g m' g')) (brK (inV n m g && (inV n m' g' && okF n m g m' g')) (brK (!(n + (devT (ixOf n) true m g).1 == n + (devT (ixOf n) true m g).1 && (n + (devT (ixOf n) true m g).2 == n + (devT (ixOf n) true m g).2 && true))) (none) (brK (!(n + (devT (ixOf n) false m' g').1 == n + (devT (ixOf n) false m' g').1 && (n + (devT (ixOf n) false m' g').2 == n + (devT (ixOf n) false m' g').2 && true))) (none) (brK (inV n m g && (inV n m' g' && okF n m g m' g')) (brK (inV n m g && (inV n m' g' && okF n m g m' g')) (brK (decide ((1 ≤ n ∧ n ≤ 100000) ∧ (0 ≤ m ∧ m ≤ 9) ∧ 5 ≤ g ∧ g ≤ 12)) (brK (decide ((1 ≤ n ∧ n ≤ 100000) ∧ (0 ≤ m' ∧ m' ≤ 9) ∧ 5 ≤ g' ∧ g' ≤ 12)) (brK (inV n m g && (inV n m' g' && okF n m g m' g')) (brK (decide (n + (devT (ixOf n) true m g).1 - (n + (devT (ixOf n) false m' g').2) ≥ 0)) (brK (inV n m g && (inV n m' g' && okF n m g m' g')) (brK (decide ((1 ≤ n ∧ n ≤ 100000) ∧ (0 ≤ m ∧ m ≤ 9) ∧ 5 ≤ g ∧ g ≤ 12)) (brK (decide ((1 ≤ n ∧ n ≤ 100000) ∧ (0 ≤ m' ∧ m' ≤ 9) ∧ 5 ≤ g' ∧ g' ≤ 12)) (brK (decide (n + (devT (ixOf n) true m g).1 - (n + (devT (ixOf n) false m' g').2) ≥ 0)) (brK (n + (devT (ixOf n) true m g).1 - (n + (devT (ixOf n) false m' g').2) == n + (devT (ixOf n) true m g).1 - (n + (devT (ixOf n) false m' g').2) && (n + (devT (ixOf n) true m g).2 - (n + (devT (ixOf n) false m' g').1) == n + (devT (ixOf n) true m g).2 - (n + (devT (ixOf n) false m' g').1) && true)) (some ()) (none)) (brK (decide (n + (devT (ixOf n) true m g).2 - (n + (devT (ixOf n) false m' g').1) ≤ 0)) (brK (n + (devT (ixOf n) true m g).1 - (n + (devT (ixOf n) false m' g').2) == n + (devT (ixOf n) true m g).1 - (n + (devT (ixOf n) false m' g').2) && (n + (devT (ixOf n) true m g).2 - (n + (devT (ixOf n) false m' g').1) == n + (devT (ixOf n) true m g).2 - (n + (devT (ixOf n) false m' g').1) && true)) (none) (none)) (brK (n + (devT (ixOf n) true m g).1 - (n + (devT (ixOf n) false m' g').2) == n + (devT (ixOf n) true m g).1 - (n + (devT (ixOf n) false m' g').2) && (n + (devT (ixOf n) true m g).2 - (n + (devT (ixOf n) false m' g').1) == n + (devT (ixOf n) true m g).2 - (n + (devT (ixOf n) false m' g').1) && true)) (none) (none)))) (none)) (none)) (none)) (brK (decide (n + (devT (ixOf n) true m g).2 - (n + (devT (ixOf n) false m' g').1) ≤ 0)) (brK (inV n m g && (inV n m' g' && okF n m g m' g')) (brK (decide ((1 ≤ n ∧ n ≤ 100000) ∧ (0 ≤ m ∧ m ≤ 9) ∧ 5 ≤ g ∧ g ≤ 12)) (brK (decide ((1 ≤ n ∧ n ≤ 100000) ∧ (0 ≤ m' ∧ m' ≤ 9) ∧ 5 ≤ g' ∧ g' ≤ 12)) (brK (decide (n + (devT (ixOf n) true m g).1 - (n + (devT (ixOf n) false m' g').2) ≥ 0)) (brK (n + (devT (ixOf n) true m g).1 - (n + (devT (ixOf n) false m' g').2) == n + (devT (ixOf n) true m g).1 - (n + (devT (ixOf n) false m' g').2) && (n + (devT (ixOf n) true m g).2 - (n + (devT (ixOf n) false m' g').1) == n + (devT (ixOf n) true m g).2 - (n + (devT (ixOf n) false m' g').1) && true)) (none) (none)) (brK (decide (n + (devT (ixOf n) true m g).2 - (n + (devT (ixOf n) false m' g').1) ≤ 0)) (brK (n + (devT (ixOf n) true m g).1 - (n + (devT (ixOf n) false m' g').2) == n + (devT (ixOf n) true m g).1 - (n + (devT (ixOf n) false m' g').2) && (n + (devT (ixOf n) true m g).2 - (n + (devT (ixOf n) false m' g').1) == n + (devT (ixOf n) true m g).2 - (n + (devT (ixOf n) false m' g').1) && true)) (some ()) (none)) (brK (n + (devT (ixOf n) true m g).1 - (n + (devT (ixOf n) false m' g').2) == n + (devT (ixOf n) true m g).1 - (n + (devT (ixOf n) false m' g').2) && (n + (devT (ixOf n) true m g).2 - (n + (devT (ixOf n) false m' g').1) == n + (devT (ixOf n) true m g).2 - (n + (devT (ixOf n) false m' g').1) && true)) (none) (none)))) (none)) (none)) (none)) (brK (inV n m g && (inV n m' g' && okF n m g m' g')) (brK (decide ((1 ≤ n ∧ n ≤ 100000) ∧ (0 ≤ m ∧ m ≤ 9) ∧ 5 ≤ g ∧ g ≤ 12)) (brK (decide ((1 ≤ n ∧ n ≤ 100000) ∧ (0 ≤ m' ∧ m' ≤ 9) ∧ 5 ≤ g' ∧ g' ≤ 12)) (brK (decide (n + (devT (ixOf n) true m g).1 - (n + (devT (ixOf n) false m' g').2) ≥ 0)) (brK (n + (devT (ixOf n) true m g).1 - (n + (devT (ixOf n) false m' g').2) == n + (devT (ixOf n) true m g).1 - (n + (devT (ixOf n) false m' g').2) && (n + (devT (ixOf n) true m g).2 - (n + (devT (ixOf n) false m' g').1) == n + (devT (ixOf n) true m g).2 - (n + (devT (ixOf n) false m' g').1) && true)) (none) (none)) (brK (decide (n + (devT (ixOf n) true m g).2 - (n + (devT (ixOf n) false m' g').1) ≤ 0)) (brK (n + (devT (ixOf n) true m g).1 - (n + (devT (ixOf n) false m' g').2) == n + (devT (ixOf n) true m g).1 - (n + (devT (ixOf n) false m' g').2) && (n + (devT (ixOf n) true m g).2 - (n + (devT (ixOf n) false m' g').1) == n + (devT (ixOf n) true m g).2 - (n + (devT (ixOf n) false m' g').1) && true)) (none) (none)) (brK (n + (devT (ixOf n) true m g).1 - (n + (devT (ixOf n) false m' g').2) == n + (devT (ixOf n) true m g).1 - (n + (devT (ixOf n) false m' g').2) && (n + (devT (ixOf n) true m g).2 - (n + (devT (ixOf n) false m' g').1) == n + (devT (ixOf n) true m g).2 - (n + (devT (ixOf n) false m' g').1) && true)) (some ()) (none)))) (none)) (none)) (none)))) (none)) (none)) (none)) (none)) (none)))) (none)) (none)) (none)) (none)) (none)) (none) := by kernel_rfl
theorem fitChecksF (n m g m' g' : Int) : (runK prog (pLaw false false) 60).call 3 [.agg [.rng .i64 n 1 100000, .bool true, .rng .i64 m 0 9, .rng .i64 g 5 12, .bool false, .rng .i64 m' 0 9, .rng .i64 g' 5 12]] (Bg 9) goodK = brK (inV n m g && (inV n m' g' && !okF n m g m' g')) (brK (inV n m g && (inV n m' g' && !okF n m g m' g')) (brK (inV n m g && (inV n m' g' && !okF n m g m' g')) (brK (inV n m g && (inV n m' g' && !okF n m g m' g')) (brK (inV n m g && (inV n m' g' && !okF n m g m' g')) (brK (inV n m g && (inV n m' g' && !okF n m g m' g')) (brK (inV n m g && (inV n m' g' && !okF n m g m' g')) (brK (inV n m g && (inV n m' g' && !okF n m g m' g')) (some ()) none) none) none) none) none) none) none) none := by kernel_rfl

theorem fitChecks_t (n m g m' g' : Int) (hv : inV n m g = true) (hv' : inV n m' g' = true) (ho : okF n m g m' g' = true) : (runK prog (pLaw true true) 60).call 3 [.agg [.rng .i64 n 1 100000, .bool true, .rng .i64 m 0 9, .rng .i64 g 5 12, .bool false, .rng .i64 m' 0 9, .rng .i64 g' 5 12]] (Bg 9) goodK = some () := by
  rw [fitChecksT]
  have V : decide ((1 ≤ n ∧ n ≤ 100000) ∧ (0 ≤ m ∧ m ≤ 9) ∧ 5 ≤ g ∧ g ≤ 12) = true := hv
  have V' : decide ((1 ≤ n ∧ n ≤ 100000) ∧ (0 ≤ m' ∧ m' ≤ 9) ∧ 5 ≤ g' ∧ g' ≤ 12) = true := hv'
  simp only [hv, hv', ho, V, V', beq_self_eq_true, Bool.and_self, Bool.not_true]
  generalize decide (n + (devT (ixOf n) true m g).1 - (n + (devT (ixOf n) false m' g').2) ≥ 0) = b1
  generalize decide (n + (devT (ixOf n) true m g).2 - (n + (devT (ixOf n) false m' g').1) ≤ 0) = b2
  cases b1 <;> cases b2 <;> rfl

theorem fitChecks_f (n m g m' g' : Int) (hv : inV n m g = true) (hv' : inV n m' g' = true) (ho : okF n m g m' g' = false) : (runK prog (pLaw false false) 60).call 3 [.agg [.rng .i64 n 1 100000, .bool true, .rng .i64 m 0 9, .rng .i64 g 5 12, .bool false, .rng .i64 m' 0 9, .rng .i64 g' 5 12]] (Bg 9) goodK = some () := by
  rw [fitChecksF, hv, hv', ho]; rfl

/-- The law, for all arguments. -/
theorem fitChecks (n hl hg sl sg : Int) (hh sh : Bool) (W : World) (hG : prog.globals.size ≤ W.heap.size) (hT : Tab (ambOf W)) (bn : -9223372036854775808 ≤ n ∧ n ≤ 9223372036854775807) (bhl : -9223372036854775808 ≤ hl ∧ hl ≤ 9223372036854775807) (bhg : -9223372036854775808 ≤ hg ∧ hg ≤ 9223372036854775807) (bsl : -9223372036854775808 ≤ sl ∧ sl ≤ 9223372036854775807) (bsg : -9223372036854775808 ≤ sg ∧ sg ≤ 9223372036854775807)  :
    Calls prog 3 #[.agg #[.int .i64 n, .bool hh, .int .i64 hl, .int .i64 hg, .bool sh, .int .i64 sl, .int .i64 sg]] W fun e W' => e = .returned (.bool true) ∧ RowKit.Below W.heap.size W W' := by
  have key : ∀ {prims : Prims}, PrimOK prog (ambOf W) prims → ∀ {a b c d e f g : AV} {xs : List AV}, (runK prog prims 60).call 3 (.agg [a, b, c, d, e, f, g] :: xs) (Bg 9) goodK = some () → belowL 0 (.agg [a, b, c, d, e, f, g] :: xs) = true →
      VR (iotaG 9) a (.int .i64 n) → VR (iotaG 9) b (.bool hh) → VR (iotaG 9) c (.int .i64 hl) → VR (iotaG 9) d (.int .i64 hg) → VR (iotaG 9) e (.bool sh) → VR (iotaG 9) f (.int .i64 sl) → VR (iotaG 9) g (.int .i64 sg) →
      VRL (iotaG 9) xs [] →
      Calls prog 3 #[.agg #[.int .i64 n, .bool hh, .int .i64 hl, .int .i64 hg, .bool sh, .int .i64 sl, .int .i64 sg]] W fun e W' => e = .returned (.bool true) ∧ RowKit.Below W.heap.size W W' := by
    intro prims hp a b c d e f g xs hk hbl ha hb hc hd he hf hg hxs
    refine law_of_K hmix hnum hp hG (n := 60) (args := .agg [a, b, c, d, e, f, g] :: xs) (by rw [gsz]; exact hk) hbl (iotaG 9) _ ?_
    simp only [VRL, VR]
    exact ⟨_, _, rfl, ⟨_, rfl, _, _, rfl, ha, _, _, rfl, hb, _, _, rfl, hc, _, _, rfl, hd, _, _, rfl, he, _, _, rfl, hf, _, _, rfl, hg, rfl⟩, hxs⟩
  have r : ∀ {x lo hi : Int}, lo ≤ x → x ≤ hi → VR (iotaG 9) (.rng .i64 x lo hi) (.int .i64 x) := fun p q => by simp only [VR]; exact ⟨trivial, p, q⟩
  have s : ∀ {k : IntKind} {x : Int}, VR (iotaG 9) (.sint k x) (.int k x) := by simp [VR]
  have sb : ∀ {x : Bool}, VR (iotaG 9) (.sbool x) (.bool x) := by simp [VR]
  have cb : ∀ {x : Bool}, VR (iotaG 9) (.bool x) (.bool x) := by simp [VR]
  have xs0 : VRL (iotaG 9) [] [] := by simp [VRL, VR]
  have hp := pLim_ok hT hG
  by_cases c1 : n ≤ 0
  · exact key hp (fitChecksE1 n hl hg sl sg hh sh) rfl (r (by omega) (by omega)) sb s s sb s s xs0
  by_cases c2 : 100001 ≤ n
  · exact key hp (fitChecksE2 n hl hg sl sg hh sh) rfl (r (by omega) (by omega)) sb s s sb s s xs0
  by_cases c3 : hl ≤ -1
  · exact key hp (fitChecksE3 n hl hg sl sg hh sh) rfl (r (by omega) (by omega)) sb (r (by omega) (by omega)) s sb s s xs0
  by_cases c4 : 10 ≤ hl
  · exact key hp (fitChecksE4 n hl hg sl sg hh sh) rfl (r (by omega) (by omega)) sb (r (by omega) (by omega)) s sb s s xs0
  by_cases c5 : hg ≤ 4
  · exact key hp (fitChecksE5 n hl hg sl sg hh sh) rfl (r (by omega) (by omega)) sb (r (by omega) (by omega)) (r (by omega) (by omega)) sb s s xs0
  by_cases c6 : 13 ≤ hg
  · exact key hp (fitChecksE6 n hl hg sl sg hh sh) rfl (r (by omega) (by omega)) sb (r (by omega) (by omega)) (r (by omega) (by omega)) sb s s xs0
  by_cases c7 : sl ≤ -1
  · exact key hp (fitChecksE7 n hl hg sl sg hh sh) rfl (r (by omega) (by omega)) sb (r (by omega) (by omega)) (r (by omega) (by omega)) sb (r (by omega) (by omega)) s xs0
  by_cases c8 : 10 ≤ sl
  · exact key hp (fitChecksE8 n hl hg sl sg hh sh) rfl (r (by omega) (by omega)) sb (r (by omega) (by omega)) (r (by omega) (by omega)) sb (r (by omega) (by omega)) s xs0
  by_cases c9 : sg ≤ 4
  · exact key hp (fitChecksE9 n hl hg sl sg hh sh) rfl (r (by omega) (by omega)) sb (r (by omega) (by omega)) (r (by omega) (by omega)) sb (r (by omega) (by omega)) (r (by omega) (by omega)) xs0
  by_cases c10 : 13 ≤ sg
  · exact key hp (fitChecksE10 n hl hg sl sg hh sh) rfl (r (by omega) (by omega)) sb (r (by omega) (by omega)) (r (by omega) (by omega)) sb (r (by omega) (by omega)) (r (by omega) (by omega)) xs0
  cases hh with
  | false => exact key hp (fitChecksE11 n hl hg sl sg false sh) rfl (r (by omega) (by omega)) cb (r (by omega) (by omega)) (r (by omega) (by omega)) sb (r (by omega) (by omega)) (r (by omega) (by omega)) xs0
  | true =>
  cases sh with
  | true => exact key hp (fitChecksE12 n hl hg sl sg true true) rfl (r (by omega) (by omega)) cb (r (by omega) (by omega)) (r (by omega) (by omega)) cb (r (by omega) (by omega)) (r (by omega) (by omega)) xs0
  | false =>
  have hv : inV n hl hg = true := decide_eq_true (by omega)
  have hv' : inV n sl sg = true := decide_eq_true (by omega)
  cases ho : okF n hl hg sl sg with
  | false => exact key (pLaw_ok hT hG false false) (fitChecks_f n hl hg sl sg hv hv' ho) rfl (r (by omega) (by omega)) cb (r (by omega) (by omega)) (r (by omega) (by omega)) cb (r (by omega) (by omega)) (r (by omega) (by omega)) xs0
  | true => exact key (pLaw_ok hT hG true true) (fitChecks_t n hl hg sl sg hv hv' ho) rfl (r (by omega) (by omega)) cb (r (by omega) (by omega)) (r (by omega) (by omega)) cb (r (by omega) (by omega)) (r (by omega) (by omega)) xs0
#print axioms fitChecks
end Go.Proofs.Tryz
