/- For every size and every class the law GradesDeviates returns true: by cases of size, letter and grade; where all of them are right, at numbers that are not known. -/
import Derived.Test.YtnkdndjhgoahgaaGreatDoorSym
namespace Go.Proofs.Tryz
open Go.Ac

theorem devTree (n l g : Int) (h : Bool) : (runK prog pSym (fun _ => noBP) 60).call 4 [.rng .i64 n 1 100000, .agg [.sbool h, .rng .i64 l 0 9, .rng .i64 g 5 12]] (Bg 9) goodK =
    let d := devT (ixOf n) h l g
    let V := decide ((1 ≤ n ∧ n ≤ 100000) ∧ (0 ≤ l ∧ l ≤ 9) ∧ 5 ≤ g ∧ g ≤ 12)
    brK V (brK V (brK V (brK (decide (n + d.1 < 1)) (brK V (brK (decide (n + d.1 < 1)) (brK (d.1 == d.1 && (d.2 == d.2 && true)) (some ()) (none)) (brK (decide (n + d.2 > 100000)) (brK (d.1 == d.1 && (d.2 == d.2 && true)) (some ()) (none)) (brK (d.1 == d.1 && (d.2 == d.2 && true)) (brK (0 == n + d.1 && (0 == n + d.2 && true)) (none) (none)) (none)))) (none)) (brK (decide (n + d.2 > 100000)) (brK V (brK (decide (n + d.1 < 1)) (brK (d.1 == d.1 && (d.2 == d.2 && true)) (some ()) (none)) (brK (decide (n + d.2 > 100000)) (brK (d.1 == d.1 && (d.2 == d.2 && true)) (some ()) (none)) (brK (d.1 == d.1 && (d.2 == d.2 && true)) (brK (0 == n + d.1 && (0 == n + d.2 && true)) (none) (none)) (none)))) (none)) (brK V (brK (decide (n + d.1 < 1)) (brK (d.1 == d.1 && (d.2 == d.2 && true)) (brK (n + d.1 == 0 && (n + d.2 == 0 && true)) (none) (none)) (none)) (brK (decide (n + d.2 > 100000)) (brK (d.1 == d.1 && (d.2 == d.2 && true)) (brK (n + d.1 == 0 && (n + d.2 == 0 && true)) (none) (none)) (none)) (brK (d.1 == d.1 && (d.2 == d.2 && true)) (brK (n + d.1 == n + d.1 && (n + d.2 == n + d.2 && true)) (some ()) (none)) (none)))) (none)))) (none)) (none)) (none) := by kernel_rfl

theorem devIn (n l g : Int) (h : Bool) (h1 : 1 ≤ n ∧ n ≤ 100000) (h2 : 0 ≤ l ∧ l ≤ 9) (h3 : 5 ≤ g ∧ g ≤ 12) :
    (runK prog pSym (fun _ => noBP) 60).call 4 [.rng .i64 n 1 100000, .agg [.sbool h, .rng .i64 l 0 9, .rng .i64 g 5 12]] (Bg 9) goodK = some () := by
  rw [devTree]
  have hV : decide ((1 ≤ n ∧ n ≤ 100000) ∧ (0 ≤ l ∧ l ≤ 9) ∧ 5 ≤ g ∧ g ≤ 12) = true := decide_eq_true ⟨h1, h2, h3⟩
  generalize devT (ixOf n) h l g = d
  simp only [hV, brK]
  by_cases c1 : n + d.1 < 1 <;> by_cases c2 : n + d.2 > 100000 <;> simp [c1, c2]

theorem dev1 (n l g : Int) (h : Bool) : (runK prog pSym (fun _ => noBP) 60).call 4 [.rng .i64 n (-9223372036854775808) 0, .agg [.sbool h, .sint .i64 l, .sint .i64 g]] (Bg 9) goodK = some () := by kernel_rfl
theorem dev2 (n l g : Int) (h : Bool) : (runK prog pSym (fun _ => noBP) 60).call 4 [.rng .i64 n 100001 9223372036854775807, .agg [.sbool h, .sint .i64 l, .sint .i64 g]] (Bg 9) goodK = some () := by kernel_rfl
theorem dev3 (n l g : Int) (h : Bool) : (runK prog pSym (fun _ => noBP) 60).call 4 [.rng .i64 n 1 100000, .agg [.sbool h, .rng .i64 l (-9223372036854775808) (-1), .sint .i64 g]] (Bg 9) goodK = some () := by kernel_rfl
theorem dev4 (n l g : Int) (h : Bool) : (runK prog pSym (fun _ => noBP) 60).call 4 [.rng .i64 n 1 100000, .agg [.sbool h, .rng .i64 l 10 9223372036854775807, .sint .i64 g]] (Bg 9) goodK = some () := by kernel_rfl
theorem dev5 (n l g : Int) (h : Bool) : (runK prog pSym (fun _ => noBP) 60).call 4 [.rng .i64 n 1 100000, .agg [.sbool h, .rng .i64 l 0 9, .rng .i64 g (-9223372036854775808) 4]] (Bg 9) goodK = some () := by kernel_rfl
theorem dev6 (n l g : Int) (h : Bool) : (runK prog pSym (fun _ => noBP) 60).call 4 [.rng .i64 n 1 100000, .agg [.sbool h, .rng .i64 l 0 9, .rng .i64 g 13 9223372036854775807]] (Bg 9) goodK = some () := by kernel_rfl

/-- The law, for all arguments. -/
theorem deviates (n l g : Int) (h : Bool) (W : World) (hG : prog.globals.size ≤ W.heap.size) (bn : -9223372036854775808 ≤ n ∧ n ≤ 9223372036854775807) (bl : -9223372036854775808 ≤ l ∧ l ≤ 9223372036854775807)
    (bg : -9223372036854775808 ≤ g ∧ g ≤ 9223372036854775807) :
    Calls prog 4 #[.int .i64 n, .agg #[.bool h, .int .i64 l, .int .i64 g]] W fun e W' => e = .returned (.bool true) ∧ RowKit.Below W.heap.size W W' := by
  have key : ∀ {a b c : AV}, (runK prog pSym (fun _ => noBP) 60).call 4 [a, .agg [.sbool h, b, c]] (Bg 9) goodK = some () → belowL 0 [a, .agg [.sbool h, b, c]] = true → VR (iotaG 9) a (.int .i64 n) → VR (iotaG 9) b (.int .i64 l) →
      VR (iotaG 9) c (.int .i64 g) → Calls prog 4 #[.int .i64 n, .agg #[.bool h, .int .i64 l, .int .i64 g]] W fun e W' => e = .returned (.bool true) ∧ RowKit.Below W.heap.size W W' := by
    intro a b c hk hbl ha hb hc
    refine law_of_K hmix hnum (pSym_ok (A := ambOf W) hG) hG noBps (n := 60) (args := [a, .agg [.sbool h, b, c]]) (by rw [gsz]; exact hk) hbl (iotaG 9) _ ?_
    simp only [VRL, VR]
    exact ⟨_, _, rfl, ha, _, _, rfl, ⟨_, rfl, _, _, rfl, rfl, _, _, rfl, hb, _, _, rfl, hc, rfl⟩, rfl⟩
  have r : ∀ (x lo hi : Int), lo ≤ x → x ≤ hi → VR (iotaG 9) (.rng .i64 x lo hi) (.int .i64 x) := fun x lo hi p q => by simp only [VR]; exact ⟨trivial, p, q⟩
  have s : ∀ (x : Int), VR (iotaG 9) (.sint .i64 x) (.int .i64 x) := fun x => by simp only [VR]
  by_cases c1 : n ≤ 0
  · exact key (dev1 n l g h) rfl (r _ _ _ (by omega) (by omega)) (s _) (s _)
  by_cases c2 : 100001 ≤ n
  · exact key (dev2 n l g h) rfl (r _ _ _ (by omega) (by omega)) (s _) (s _)
  by_cases c3 : l ≤ -1
  · exact key (dev3 n l g h) rfl (r _ _ _ (by omega) (by omega)) (r _ _ _ (by omega) (by omega)) (s _)
  by_cases c4 : 10 ≤ l
  · exact key (dev4 n l g h) rfl (r _ _ _ (by omega) (by omega)) (r _ _ _ (by omega) (by omega)) (s _)
  by_cases c5 : g ≤ 4
  · exact key (dev5 n l g h) rfl (r _ _ _ (by omega) (by omega)) (r _ _ _ (by omega) (by omega)) (r _ _ _ (by omega) (by omega))
  by_cases c6 : 13 ≤ g
  · exact key (dev6 n l g h) rfl (r _ _ _ (by omega) (by omega)) (r _ _ _ (by omega) (by omega)) (r _ _ _ (by omega) (by omega))
  · exact key (devIn n l g h (by omega) (by omega) (by omega)) rfl (r _ _ _ (by omega) (by omega)) (r _ _ _ (by omega) (by omega)) (r _ _ _ (by omega) (by omega))
end Go.Proofs.Tryz
