/- For all sizes and widths the law GradesBounds returns true: the greatest grade for a width has a tolerance of at most this, and the next one a greater one. -/
import Derived.Test.YtnkdndjhgoahgaaDoorSym
namespace Go.Proofs.Tryd
open Go.Ac

theorem boundTree (n w : Int) : (runK prog pSym (fun _ => noBP) 60).call 3 [.rng .i64 n 1 100000, .sint .i64 w] (Bg 9) goodK =
    let t12 := tolT (ixOf n) 12
    let t11 := tolT (ixOf n) 11
    let t10 := tolT (ixOf n) 10
    let t9 := tolT (ixOf n) 9
    let t8 := tolT (ixOf n) 8
    let t7 := tolT (ixOf n) 7
    let t6 := tolT (ixOf n) 6
    let t5 := tolT (ixOf n) 5
    brK (decide ((1 ≤ n ∧ n ≤ 100000) ∧ (5 : Int) ≤ 12 ∧ (12 : Int) ≤ 12)) (brK (decide (t12 ≤ w)) (brK (decide ((1 ≤ n ∧ n ≤ 100000) ∧ (5 : Int) ≤ 12 ∧ (12 : Int) ≤ 12)) (brK (decide (t12 > w)) (none) (some ())) (none)) (brK (decide ((1 ≤ n ∧ n ≤ 100000) ∧ (5 : Int) ≤ 11 ∧ (11 : Int) ≤ 12)) (brK (decide (t11 ≤ w)) (brK (decide ((1 ≤ n ∧ n ≤ 100000) ∧ (5 : Int) ≤ 11 ∧ (11 : Int) ≤ 12)) (brK (decide (t11 > w)) (none) (brK (decide ((1 ≤ n ∧ n ≤ 100000) ∧ (5 : Int) ≤ 12 ∧ (12 : Int) ≤ 12)) (brK (decide (t12 > w)) (some ()) (none)) (none))) (none)) (brK (decide ((1 ≤ n ∧ n ≤ 100000) ∧ (5 : Int) ≤ 10 ∧ (10 : Int) ≤ 12)) (brK (decide (t10 ≤ w)) (brK (decide ((1 ≤ n ∧ n ≤ 100000) ∧ (5 : Int) ≤ 10 ∧ (10 : Int) ≤ 12)) (brK (decide (t10 > w)) (none) (brK (decide ((1 ≤ n ∧ n ≤ 100000) ∧ (5 : Int) ≤ 11 ∧ (11 : Int) ≤ 12)) (brK (decide (t11 > w)) (some ()) (none)) (none))) (none)) (brK (decide ((1 ≤ n ∧ n ≤ 100000) ∧ (5 : Int) ≤ 9 ∧ (9 : Int) ≤ 12)) (brK (decide (t9 ≤ w)) (brK (decide ((1 ≤ n ∧ n ≤ 100000) ∧ (5 : Int) ≤ 9 ∧ (9 : Int) ≤ 12)) (brK (decide (t9 > w)) (none) (brK (decide ((1 ≤ n ∧ n ≤ 100000) ∧ (5 : Int) ≤ 10 ∧ (10 : Int) ≤ 12)) (brK (decide (t10 > w)) (some ()) (none)) (none))) (none)) (brK (decide ((1 ≤ n ∧ n ≤ 100000) ∧ (5 : Int) ≤ 8 ∧ (8 : Int) ≤ 12)) (brK (decide (t8 ≤ w)) (brK (decide ((1 ≤ n ∧ n ≤ 100000) ∧ (5 : Int) ≤ 8 ∧ (8 : Int) ≤ 12)) (brK (decide (t8 > w)) (none) (brK (decide ((1 ≤ n ∧ n ≤ 100000) ∧ (5 : Int) ≤ 9 ∧ (9 : Int) ≤ 12)) (brK (decide (t9 > w)) (some ()) (none)) (none))) (none)) (brK (decide ((1 ≤ n ∧ n ≤ 100000) ∧ (5 : Int) ≤ 7 ∧ (7 : Int) ≤ 12)) (brK (decide (t7 ≤ w)) (brK (decide ((1 ≤ n ∧ n ≤ 100000) ∧ (5 : Int) ≤ 7 ∧ (7 : Int) ≤ 12)) (brK (decide (t7 > w)) (none) (brK (decide ((1 ≤ n ∧ n ≤ 100000) ∧ (5 : Int) ≤ 8 ∧ (8 : Int) ≤ 12)) (brK (decide (t8 > w)) (some ()) (none)) (none))) (none)) (brK (decide ((1 ≤ n ∧ n ≤ 100000) ∧ (5 : Int) ≤ 6 ∧ (6 : Int) ≤ 12)) (brK (decide (t6 ≤ w)) (brK (decide ((1 ≤ n ∧ n ≤ 100000) ∧ (5 : Int) ≤ 6 ∧ (6 : Int) ≤ 12)) (brK (decide (t6 > w)) (none) (brK (decide ((1 ≤ n ∧ n ≤ 100000) ∧ (5 : Int) ≤ 7 ∧ (7 : Int) ≤ 12)) (brK (decide (t7 > w)) (some ()) (none)) (none))) (none)) (brK (decide ((1 ≤ n ∧ n ≤ 100000) ∧ (5 : Int) ≤ 5 ∧ (5 : Int) ≤ 12)) (brK (decide (t5 ≤ w)) (brK (decide ((1 ≤ n ∧ n ≤ 100000) ∧ (5 : Int) ≤ 5 ∧ (5 : Int) ≤ 12)) (brK (decide (t5 > w)) (none) (brK (decide ((1 ≤ n ∧ n ≤ 100000) ∧ (5 : Int) ≤ 6 ∧ (6 : Int) ≤ 12)) (brK (decide (t6 > w)) (some ()) (none)) (none))) (none)) (brK (decide ((1 ≤ n ∧ n ≤ 100000) ∧ (5 : Int) ≤ 5 ∧ (5 : Int) ≤ 12)) (brK (decide (t5 > w)) (some ()) (none)) (none))) (none))) (none))) (none))) (none))) (none))) (none))) (none))) (none) := by kernel_rfl

theorem boundIn (n w : Int) (h1 : 1 ≤ n ∧ n ≤ 100000) : (runK prog pSym (fun _ => noBP) 60).call 3 [.rng .i64 n 1 100000, .sint .i64 w] (Bg 9) goodK = some () := by
  rw [boundTree]
  generalize tolT (ixOf n) 12 = t12
  generalize tolT (ixOf n) 11 = t11
  generalize tolT (ixOf n) 10 = t10
  generalize tolT (ixOf n) 9 = t9
  generalize tolT (ixOf n) 8 = t8
  generalize tolT (ixOf n) 7 = t7
  generalize tolT (ixOf n) 6 = t6
  generalize tolT (ixOf n) 5 = t5
  simp only [h1, true_and]
  by_cases c12 : t12 ≤ w
  · have e12 : ¬ (t12 > w) := by omega
    simp [brK, c12, e12]
  by_cases c11 : t11 ≤ w
  · have e11 : ¬ (t11 > w) := by omega
    have d12 : t12 > w := by omega
    simp [brK, c12, c11, e11, d12]
  by_cases c10 : t10 ≤ w
  · have e10 : ¬ (t10 > w) := by omega
    have d11 : t11 > w := by omega
    simp [brK, c12, c11, c10, e10, d11]
  by_cases c9 : t9 ≤ w
  · have e9 : ¬ (t9 > w) := by omega
    have d10 : t10 > w := by omega
    simp [brK, c12, c11, c10, c9, e9, d10]
  by_cases c8 : t8 ≤ w
  · have e8 : ¬ (t8 > w) := by omega
    have d9 : t9 > w := by omega
    simp [brK, c12, c11, c10, c9, c8, e8, d9]
  by_cases c7 : t7 ≤ w
  · have e7 : ¬ (t7 > w) := by omega
    have d8 : t8 > w := by omega
    simp [brK, c12, c11, c10, c9, c8, c7, e7, d8]
  by_cases c6 : t6 ≤ w
  · have e6 : ¬ (t6 > w) := by omega
    have d7 : t7 > w := by omega
    simp [brK, c12, c11, c10, c9, c8, c7, c6, e6, d7]
  by_cases c5 : t5 ≤ w
  · have e5 : ¬ (t5 > w) := by omega
    have d6 : t6 > w := by omega
    simp [brK, c12, c11, c10, c9, c8, c7, c6, c5, e5, d6]
  have d5 : t5 > w := by omega
  simp [brK, c12, c11, c10, c9, c8, c7, c6, c5, d5]

theorem bound1 (n w : Int) : (runK prog pSym (fun _ => noBP) 60).call 3 [.rng .i64 n (-9223372036854775808) 0, .sint .i64 w] (Bg 9) goodK = some () := by kernel_rfl
theorem bound2 (n w : Int) : (runK prog pSym (fun _ => noBP) 60).call 3 [.rng .i64 n 100001 9223372036854775807, .sint .i64 w] (Bg 9) goodK = some () := by kernel_rfl

/-- The law, for all arguments. -/
theorem bounds (n w : Int) (W : World) (hG : prog.globals.size ≤ W.heap.size) (bn : -9223372036854775808 ≤ n ∧ n ≤ 9223372036854775807) :
    Calls prog 3 #[.int .i64 n, .int .i64 w] W fun e W' => e = .returned (.bool true) ∧ RowKit.Below W.heap.size W W' := by
  have key : ∀ {a : AV}, (runK prog pSym (fun _ => noBP) 60).call 3 [a, .sint .i64 w] (Bg 9) goodK = some () → belowL 0 [a, .sint .i64 w] = true → VR (iotaG 9) a (.int .i64 n) →
      Calls prog 3 #[.int .i64 n, .int .i64 w] W fun e W' => e = .returned (.bool true) ∧ RowKit.Below W.heap.size W W' := by
    intro a hk hbl ha
    refine law_of_K hmix hnum (pSym_ok (A := ambOf W) hG) hG noBps (n := 60) (args := [a, .sint .i64 w]) (by rw [gsz]; exact hk) hbl (iotaG 9) _ ?_
    simp only [VRL]
    exact ⟨_, _, rfl, ha, _, _, rfl, by simp only [VR], rfl⟩
  have r : ∀ (x lo hi : Int), lo ≤ x → x ≤ hi → VR (iotaG 9) (.rng .i64 x lo hi) (.int .i64 x) := fun x lo hi p q => by simp only [VR]; exact ⟨trivial, p, q⟩
  by_cases c1 : n ≤ 0
  · exact key (bound1 n w) rfl (r _ _ _ (by omega) (by omega))
  by_cases c2 : 100001 ≤ n
  · exact key (bound2 n w) rfl (r _ _ _ (by omega) (by omega))
  · exact key (boundIn n w (by omega)) rfl (r _ _ _ (by omega) (by omega))
end Go.Proofs.Tryd
