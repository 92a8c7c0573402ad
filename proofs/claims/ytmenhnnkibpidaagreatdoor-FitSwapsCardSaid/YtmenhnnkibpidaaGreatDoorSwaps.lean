/- FitSwaps: the swapped fit has the same clearance and the same kind, and swapped again it is the fit. -/
import Derived.Test.YtmenhnnkibpidaaGreatDoorPair
namespace Go.Proofs.Tryz
open Go.Ad

theorem brKt {b : Bool} {t f x : Option Unit} (h : b = true) (h' : t = x) : brK b t f = x := by rw [h]; exact h'
theorem brKf {b : Bool} {t f x : Option Unit} (h : b = false) (h' : f = x) : brK b t f = x := by rw [h]; exact h'

theorem dev_true (j : Nat) (l g : Int) : devT j true l g = (-(devT j false l g).2, -(devT j false l g).1) := rfl

/-- What a right fit says. -/
theorem okF_spec {n m g m' g' : Int} (hv : inV n m g = true) (hv' : inV n m' g' = true) (ho : okF n m g m' g' = true) :
    (1 ≤ n + (devT (ixOf n) true m g).1 ∧ n + (devT (ixOf n) true m g).2 ≤ 100000 ∧ (devT (ixOf n) true m g).1 ≤ (devT (ixOf n) true m g).2) ∧
    (1 ≤ n + (devT (ixOf n) false m' g').1 ∧ n + (devT (ixOf n) false m' g').2 ≤ 100000 ∧ (devT (ixOf n) false m' g').1 ≤ (devT (ixOf n) false m' g').2) := by
  have ord : ∀ (h : Bool) (m g : Int), inV n m g = true → (devT (ixOf n) h m g).1 ≤ (devT (ixOf n) h m g).2 := fun h m g hv => by
    obtain ⟨_, ⟨hl1, hl2⟩, hg1, hg2⟩ := of_decide_eq_true hv
    obtain ⟨k, rfl, hk'⟩ : ∃ k : Nat, g = ((5 + k : Nat) : Int) ∧ k < 8 := ⟨(g - 5).toNat, by omega, by omega⟩
    obtain ⟨m', rfl, hm'⟩ : ∃ m' : Nat, m = (m' : Int) ∧ m' < 10 := ⟨m.toNat, by omega, by omega⟩
    exact dev_ord _ m' k h (ix_lt n) hm' hk'
  rw [okF, Bool.and_eq_true] at ho
  obtain ⟨h1, h2⟩ := of_decide_eq_true ho.1
  obtain ⟨h3, h4⟩ := of_decide_eq_true ho.2
  exact ⟨⟨h1, h2, ord _ _ _ hv⟩, h3, h4, ord _ _ _ hv'⟩

theorem fitSwapsE1 (n hl hg sl sg : Int) (hh sh : Bool) : (runK prog pLim 60).call 7 [.agg [.rng .i64 n (-9223372036854775808) 0, .sbool hh, .sint .i64 hl, .sint .i64 hg, .sbool sh, .sint .i64 sl, .sint .i64 sg]] (Bg 9) goodK = some () := by kernel_rfl
theorem fitSwapsE2 (n hl hg sl sg : Int) (hh sh : Bool) : (runK prog pLim 60).call 7 [.agg [.rng .i64 n 100001 9223372036854775807, .sbool hh, .sint .i64 hl, .sint .i64 hg, .sbool sh, .sint .i64 sl, .sint .i64 sg]] (Bg 9) goodK = some () := by kernel_rfl
theorem fitSwapsE3 (n hl hg sl sg : Int) (hh sh : Bool) : (runK prog pLim 60).call 7 [.agg [.rng .i64 n 1 100000, .sbool hh, .rng .i64 hl (-9223372036854775808) (-1), .sint .i64 hg, .sbool sh, .sint .i64 sl, .sint .i64 sg]] (Bg 9) goodK = some () := by kernel_rfl
theorem fitSwapsE4 (n hl hg sl sg : Int) (hh sh : Bool) : (runK prog pLim 60).call 7 [.agg [.rng .i64 n 1 100000, .sbool hh, .rng .i64 hl 10 9223372036854775807, .sint .i64 hg, .sbool sh, .sint .i64 sl, .sint .i64 sg]] (Bg 9) goodK = some () := by kernel_rfl
theorem fitSwapsE5 (n hl hg sl sg : Int) (hh sh : Bool) : (runK prog pLim 60).call 7 [.agg [.rng .i64 n 1 100000, .sbool hh, .rng .i64 hl 0 9, .rng .i64 hg (-9223372036854775808) 4, .sbool sh, .sint .i64 sl, .sint .i64 sg]] (Bg 9) goodK = some () := by kernel_rfl
theorem fitSwapsE6 (n hl hg sl sg : Int) (hh sh : Bool) : (runK prog pLim 60).call 7 [.agg [.rng .i64 n 1 100000, .sbool hh, .rng .i64 hl 0 9, .rng .i64 hg 13 9223372036854775807, .sbool sh, .sint .i64 sl, .sint .i64 sg]] (Bg 9) goodK = some () := by kernel_rfl
theorem fitSwapsE7 (n hl hg sl sg : Int) (hh sh : Bool) : (runK prog pLim 60).call 7 [.agg [.rng .i64 n 1 100000, .sbool hh, .rng .i64 hl 0 9, .rng .i64 hg 5 12, .sbool sh, .rng .i64 sl (-9223372036854775808) (-1), .sint .i64 sg]] (Bg 9) goodK = some () := by kernel_rfl
theorem fitSwapsE8 (n hl hg sl sg : Int) (hh sh : Bool) : (runK prog pLim 60).call 7 [.agg [.rng .i64 n 1 100000, .sbool hh, .rng .i64 hl 0 9, .rng .i64 hg 5 12, .sbool sh, .rng .i64 sl 10 9223372036854775807, .sint .i64 sg]] (Bg 9) goodK = some () := by kernel_rfl
theorem fitSwapsE9 (n hl hg sl sg : Int) (hh sh : Bool) : (runK prog pLim 60).call 7 [.agg [.rng .i64 n 1 100000, .sbool hh, .rng .i64 hl 0 9, .rng .i64 hg 5 12, .sbool sh, .rng .i64 sl 0 9, .rng .i64 sg (-9223372036854775808) 4]] (Bg 9) goodK = some () := by kernel_rfl
theorem fitSwapsE10 (n hl hg sl sg : Int) (hh sh : Bool) : (runK prog pLim 60).call 7 [.agg [.rng .i64 n 1 100000, .sbool hh, .rng .i64 hl 0 9, .rng .i64 hg 5 12, .sbool sh, .rng .i64 sl 0 9, .rng .i64 sg 13 9223372036854775807]] (Bg 9) goodK = some () := by kernel_rfl
theorem fitSwapsE11 (n hl hg sl sg : Int) (_hh sh : Bool) : (runK prog pLim 60).call 7 [.agg [.rng .i64 n 1 100000, .bool false, .rng .i64 hl 0 9, .rng .i64 hg 5 12, .sbool sh, .rng .i64 sl 0 9, .rng .i64 sg 5 12]] (Bg 9) goodK = some () := by kernel_rfl
theorem fitSwapsE12 (n hl hg sl sg : Int) (_hh _sh : Bool) : (runK prog pLim 60).call 7 [.agg [.rng .i64 n 1 100000, .bool true, .rng .i64 hl 0 9, .rng .i64 hg 5 12, .bool true, .rng .i64 sl 0 9, .rng .i64 sg 5 12]] (Bg 9) goodK = some () := by kernel_rfl

theorem fitSwapsA_ff (n m g m' g' : Int) : (runK prog (pLaw false false) 60).call 7 [.agg [.rng .i64 n 1 100000, .bool true, .rng .i64 m 0 4, .rng .i64 g 5 12, .bool false, .rng .i64 m' 0 9, .rng .i64 g' 5 12]] (Bg 9) goodK = brK (inV n m g && (inV n m' g' && !okF n m g m' g')) (some ()) (none) := by kernel_rfl
theorem fitSwapsA_tf (n m g m' g' : Int) : (runK prog (pLaw true false) 60).call 7 [.agg [.rng .i64 n 1 100000, .bool true, .rng .i64 m 0 4, .rng .i64 g 5 12, .bool false, .rng .i64 m' 0 9, .rng .i64 g' 5 12]] (Bg 9) goodK = brK (inV n m g && (inV n m' g' && okF n m g m' g')) (brK (inV n m g && (inV n m' g' && okF n m g m' g')) (brK (inV n m' g' && (inV n m g && !okF n m' g' m g)) (some ()) (none)) (none)) (none) := by kernel_rfl
theorem fitSwapsA_tt (n m g m' g' : Int) : (runK prog (pLaw true true) 60).call 7 [.agg [.rng .i64 n 1 100000, .bool true, .rng .i64 m 0 4, .rng .i64 g 5 12, .bool false, .rng .i64 m' 0 9, .rng .i64 g' 5 12]] (Bg 9) goodK = brK (inV n m g && (inV n m' g' && okF n m g m' g')) (brK (inV n m g && (inV n m' g' && okF n m g m' g')) (brK (inV n m' g' && (inV n m g && okF n m' g' m g)) (brK (inV n m g && (inV n m' g' && okF n m g m' g')) (brK (inV n m' g' && (inV n m g && okF n m' g' m g)) (brK (inV n m g && (inV n m' g' && okF n m g m' g')) (brK (decide (n + (devT (ixOf n) true m g).1 - (n + (devT (ixOf n) false m' g').2) ≥ 0)) (brK (inV n m' g' && (inV n m g && okF n m' g' m g)) (brK (decide (n + (devT (ixOf n) true m' g').1 - (n + (devT (ixOf n) false m g).2) ≥ 0)) (brK (inV n m' g' && (inV n m g && okF n m' g' m g)) (brK (inV n m g && (inV n m' g' && okF n m g m' g')) (brK (n + (devT (ixOf n) true m g).1 - (n + (devT (ixOf n) false m' g').2) == n + (devT (ixOf n) true m' g').1 - (n + (devT (ixOf n) false m g).2) && (n + (devT (ixOf n) true m g).2 - (n + (devT (ixOf n) false m' g').1) == n + (devT (ixOf n) true m' g').2 - (n + (devT (ixOf n) false m g).1) && true)) (brK (n == n && (true == true && (m == m && (g == g && true)) && (false == false && (m' == m' && (g' == g' && true)) && true))) (some ()) (none)) (none)) (none)) (none)) (brK (decide (n + (devT (ixOf n) true m' g').2 - (n + (devT (ixOf n) false m g).1) ≤ 0)) (brK (inV n m' g' && (inV n m g && okF n m' g' m g)) (brK (inV n m g && (inV n m' g' && okF n m g m' g')) (brK (n + (devT (ixOf n) true m g).1 - (n + (devT (ixOf n) false m' g').2) == n + (devT (ixOf n) true m' g').1 - (n + (devT (ixOf n) false m g).2) && (n + (devT (ixOf n) true m g).2 - (n + (devT (ixOf n) false m' g').1) == n + (devT (ixOf n) true m' g').2 - (n + (devT (ixOf n) false m g).1) && true)) (none) (none)) (none)) (none)) (brK (inV n m' g' && (inV n m g && okF n m' g' m g)) (brK (inV n m g && (inV n m' g' && okF n m g m' g')) (brK (n + (devT (ixOf n) true m g).1 - (n + (devT (ixOf n) false m' g').2) == n + (devT (ixOf n) true m' g').1 - (n + (devT (ixOf n) false m g).2) && (n + (devT (ixOf n) true m g).2 - (n + (devT (ixOf n) false m' g').1) == n + (devT (ixOf n) true m' g').2 - (n + (devT (ixOf n) false m g).1) && true)) (none) (none)) (none)) (none)))) (none)) (brK (decide (n + (devT (ixOf n) true m g).2 - (n + (devT (ixOf n) false m' g').1) ≤ 0)) (brK (inV n m' g' && (inV n m g && okF n m' g' m g)) (brK (decide (n + (devT (ixOf n) true m' g').1 - (n + (devT (ixOf n) false m g).2) ≥ 0)) (brK (inV n m' g' && (inV n m g && okF n m' g' m g)) (brK (inV n m g && (inV n m' g' && okF n m g m' g')) (brK (n + (devT (ixOf n) true m g).1 - (n + (devT (ixOf n) false m' g').2) == n + (devT (ixOf n) true m' g').1 - (n + (devT (ixOf n) false m g).2) && (n + (devT (ixOf n) true m g).2 - (n + (devT (ixOf n) false m' g').1) == n + (devT (ixOf n) true m' g').2 - (n + (devT (ixOf n) false m g).1) && true)) (none) (none)) (none)) (none)) (brK (decide (n + (devT (ixOf n) true m' g').2 - (n + (devT (ixOf n) false m g).1) ≤ 0)) (brK (inV n m' g' && (inV n m g && okF n m' g' m g)) (brK (inV n m g && (inV n m' g' && okF n m g m' g')) (brK (n + (devT (ixOf n) true m g).1 - (n + (devT (ixOf n) false m' g').2) == n + (devT (ixOf n) true m' g').1 - (n + (devT (ixOf n) false m g).2) && (n + (devT (ixOf n) true m g).2 - (n + (devT (ixOf n) false m' g').1) == n + (devT (ixOf n) true m' g').2 - (n + (devT (ixOf n) false m g).1) && true)) (brK (n == n && (true == true && (m == m && (g == g && true)) && (false == false && (m' == m' && (g' == g' && true)) && true))) (some ()) (none)) (none)) (none)) (none)) (brK (inV n m' g' && (inV n m g && okF n m' g' m g)) (brK (inV n m g && (inV n m' g' && okF n m g m' g')) (brK (n + (devT (ixOf n) true m g).1 - (n + (devT (ixOf n) false m' g').2) == n + (devT (ixOf n) true m' g').1 - (n + (devT (ixOf n) false m g).2) && (n + (devT (ixOf n) true m g).2 - (n + (devT (ixOf n) false m' g').1) == n + (devT (ixOf n) true m' g').2 - (n + (devT (ixOf n) false m g).1) && true)) (none) (none)) (none)) (none)))) (none)) (brK (inV n m' g' && (inV n m g && okF n m' g' m g)) (brK (decide (n + (devT (ixOf n) true m' g').1 - (n + (devT (ixOf n) false m g).2) ≥ 0)) (brK (inV n m' g' && (inV n m g && okF n m' g' m g)) (brK (inV n m g && (inV n m' g' && okF n m g m' g')) (brK (n + (devT (ixOf n) true m g).1 - (n + (devT (ixOf n) false m' g').2) == n + (devT (ixOf n) true m' g').1 - (n + (devT (ixOf n) false m g).2) && (n + (devT (ixOf n) true m g).2 - (n + (devT (ixOf n) false m' g').1) == n + (devT (ixOf n) true m' g').2 - (n + (devT (ixOf n) false m g).1) && true)) (none) (none)) (none)) (none)) (brK (decide (n + (devT (ixOf n) true m' g').2 - (n + (devT (ixOf n) false m g).1) ≤ 0)) (brK (inV n m' g' && (inV n m g && okF n m' g' m g)) (brK (inV n m g && (inV n m' g' && okF n m g m' g')) (brK (n + (devT (ixOf n) true m g).1 - (n + (devT (ixOf n) false m' g').2) == n + (devT (ixOf n) true m' g').1 - (n + (devT (ixOf n) false m g).2) && (n + (devT (ixOf n) true m g).2 - (n + (devT (ixOf n) false m' g').1) == n + (devT (ixOf n) true m' g').2 - (n + (devT (ixOf n) false m g).1) && true)) (none) (none)) (none)) (none)) (brK (inV n m' g' && (inV n m g && okF n m' g' m g)) (brK (inV n m g && (inV n m' g' && okF n m g m' g')) (brK (n + (devT (ixOf n) true m g).1 - (n + (devT (ixOf n) false m' g').2) == n + (devT (ixOf n) true m' g').1 - (n + (devT (ixOf n) false m g).2) && (n + (devT (ixOf n) true m g).2 - (n + (devT (ixOf n) false m' g').1) == n + (devT (ixOf n) true m' g').2 - (n + (devT (ixOf n) false m g).1) && true)) (brK (n == n && (true == true && (m == m && (g == g && true)) && (false == false && (m' == m' && (g' == g' && true)) && true))) (some ()) (none)) (none)) (none)) (none)))) (none)))) (none)) (none)) (none)) (none)) (none)) (none) := by kernel_rfl
theorem fitSwapsB_ff (n m g m' g' : Int) : (runK prog (pLaw false false) 60).call 7 [.agg [.rng .i64 n 1 100000, .bool true, .rng .i64 m 5 9, .rng .i64 g 5 12, .bool false, .rng .i64 m' 0 9, .rng .i64 g' 5 12]] (Bg 9) goodK = brK (inV n m g && (inV n m' g' && !okF n m g m' g')) (some ()) (none) := by kernel_rfl
theorem fitSwapsB_tf (n m g m' g' : Int) : (runK prog (pLaw true false) 60).call 7 [.agg [.rng .i64 n 1 100000, .bool true, .rng .i64 m 5 9, .rng .i64 g 5 12, .bool false, .rng .i64 m' 0 9, .rng .i64 g' 5 12]] (Bg 9) goodK = brK (inV n m g && (inV n m' g' && okF n m g m' g')) (brK (inV n m g && (inV n m' g' && okF n m g m' g')) (brK (inV n m' g' && (inV n m g && !okF n m' g' m g)) (some ()) (none)) (none)) (none) := by kernel_rfl
theorem fitSwapsB_tt (n m g m' g' : Int) : (runK prog (pLaw true true) 60).call 7 [.agg [.rng .i64 n 1 100000, .bool true, .rng .i64 m 5 9, .rng .i64 g 5 12, .bool false, .rng .i64 m' 0 9, .rng .i64 g' 5 12]] (Bg 9) goodK = brK (inV n m g && (inV n m' g' && okF n m g m' g')) (brK (inV n m g && (inV n m' g' && okF n m g m' g')) (brK (inV n m' g' && (inV n m g && okF n m' g' m g)) (brK (inV n m g && (inV n m' g' && okF n m g m' g')) (brK (inV n m' g' && (inV n m g && okF n m' g' m g)) (brK (inV n m g && (inV n m' g' && okF n m g m' g')) (brK (decide (n + (devT (ixOf n) true m g).1 - (n + (devT (ixOf n) false m' g').2) ≥ 0)) (brK (inV n m' g' && (inV n m g && okF n m' g' m g)) (brK (decide (n + (devT (ixOf n) true m' g').1 - (n + (devT (ixOf n) false m g).2) ≥ 0)) (brK (inV n m' g' && (inV n m g && okF n m' g' m g)) (brK (inV n m g && (inV n m' g' && okF n m g m' g')) (brK (n + (devT (ixOf n) true m g).1 - (n + (devT (ixOf n) false m' g').2) == n + (devT (ixOf n) true m' g').1 - (n + (devT (ixOf n) false m g).2) && (n + (devT (ixOf n) true m g).2 - (n + (devT (ixOf n) false m' g').1) == n + (devT (ixOf n) true m' g').2 - (n + (devT (ixOf n) false m g).1) && true)) (brK (n == n && (true == true && (m == m && (g == g && true)) && (false == false && (m' == m' && (g' == g' && true)) && true))) (some ()) (none)) (none)) (none)) (none)) (brK (decide (n + (devT (ixOf n) true m' g').2 - (n + (devT (ixOf n) false m g).1) ≤ 0)) (brK (inV n m' g' && (inV n m g && okF n m' g' m g)) (brK (inV n m g && (inV n m' g' && okF n m g m' g')) (brK (n + (devT (ixOf n) true m g).1 - (n + (devT (ixOf n) false m' g').2) == n + (devT (ixOf n) true m' g').1 - (n + (devT (ixOf n) false m g).2) && (n + (devT (ixOf n) true m g).2 - (n + (devT (ixOf n) false m' g').1) == n + (devT (ixOf n) true m' g').2 - (n + (devT (ixOf n) false m g).1) && true)) (none) (none)) (none)) (none)) (brK (inV n m' g' && (inV n m g && okF n m' g' m g)) (brK (inV n m g && (inV n m' g' && okF n m g m' g')) (brK (n + (devT (ixOf n) true m g).1 - (n + (devT (ixOf n) false m' g').2) == n + (devT (ixOf n) true m' g').1 - (n + (devT (ixOf n) false m g).2) && (n + (devT (ixOf n) true m g).2 - (n + (devT (ixOf n) false m' g').1) == n + (devT (ixOf n) true m' g').2 - (n + (devT (ixOf n) false m g).1) && true)) (none) (none)) (none)) (none)))) (none)) (brK (decide (n + (devT (ixOf n) true m g).2 - (n + (devT (ixOf n) false m' g').1) ≤ 0)) (brK (inV n m' g' && (inV n m g && okF n m' g' m g)) (brK (decide (n + (devT (ixOf n) true m' g').1 - (n + (devT (ixOf n) false m g).2) ≥ 0)) (brK (inV n m' g' && (inV n m g && okF n m' g' m g)) (brK (inV n m g && (inV n m' g' && okF n m g m' g')) (brK (n + (devT (ixOf n) true m g).1 - (n + (devT (ixOf n) false m' g').2) == n + (devT (ixOf n) true m' g').1 - (n + (devT (ixOf n) false m g).2) && (n + (devT (ixOf n) true m g).2 - (n + (devT (ixOf n) false m' g').1) == n + (devT (ixOf n) true m' g').2 - (n + (devT (ixOf n) false m g).1) && true)) (none) (none)) (none)) (none)) (brK (decide (n + (devT (ixOf n) true m' g').2 - (n + (devT (ixOf n) false m g).1) ≤ 0)) (brK (inV n m' g' && (inV n m g && okF n m' g' m g)) (brK (inV n m g && (inV n m' g' && okF n m g m' g')) (brK (n + (devT (ixOf n) true m g).1 - (n + (devT (ixOf n) false m' g').2) == n + (devT (ixOf n) true m' g').1 - (n + (devT (ixOf n) false m g).2) && (n + (devT (ixOf n) true m g).2 - (n + (devT (ixOf n) false m' g').1) == n + (devT (ixOf n) true m' g').2 - (n + (devT (ixOf n) false m g).1) && true)) (brK (n == n && (true == true && (m == m && (g == g && true)) && (false == false && (m' == m' && (g' == g' && true)) && true))) (some ()) (none)) (none)) (none)) (none)) (brK (inV n m' g' && (inV n m g && okF n m' g' m g)) (brK (inV n m g && (inV n m' g' && okF n m g m' g')) (brK (n + (devT (ixOf n) true m g).1 - (n + (devT (ixOf n) false m' g').2) == n + (devT (ixOf n) true m' g').1 - (n + (devT (ixOf n) false m g).2) && (n + (devT (ixOf n) true m g).2 - (n + (devT (ixOf n) false m' g').1) == n + (devT (ixOf n) true m' g').2 - (n + (devT (ixOf n) false m g).1) && true)) (none) (none)) (none)) (none)))) (none)) (brK (inV n m' g' && (inV n m g && okF n m' g' m g)) (brK (decide (n + (devT (ixOf n) true m' g').1 - (n + (devT (ixOf n) false m g).2) ≥ 0)) (brK (inV n m' g' && (inV n m g && okF n m' g' m g)) (brK (inV n m g && (inV n m' g' && okF n m g m' g')) (brK (n + (devT (ixOf n) true m g).1 - (n + (devT (ixOf n) false m' g').2) == n + (devT (ixOf n) true m' g').1 - (n + (devT (ixOf n) false m g).2) && (n + (devT (ixOf n) true m g).2 - (n + (devT (ixOf n) false m' g').1) == n + (devT (ixOf n) true m' g').2 - (n + (devT (ixOf n) false m g).1) && true)) (none) (none)) (none)) (none)) (brK (decide (n + (devT (ixOf n) true m' g').2 - (n + (devT (ixOf n) false m g).1) ≤ 0)) (brK (inV n m' g' && (inV n m g && okF n m' g' m g)) (brK (inV n m g && (inV n m' g' && okF n m g m' g')) (brK (n + (devT (ixOf n) true m g).1 - (n + (devT (ixOf n) false m' g').2) == n + (devT (ixOf n) true m' g').1 - (n + (devT (ixOf n) false m g).2) && (n + (devT (ixOf n) true m g).2 - (n + (devT (ixOf n) false m' g').1) == n + (devT (ixOf n) true m' g').2 - (n + (devT (ixOf n) false m g).1) && true)) (none) (none)) (none)) (none)) (brK (inV n m' g' && (inV n m g && okF n m' g' m g)) (brK (inV n m g && (inV n m' g' && okF n m g m' g')) (brK (n + (devT (ixOf n) true m g).1 - (n + (devT (ixOf n) false m' g').2) == n + (devT (ixOf n) true m' g').1 - (n + (devT (ixOf n) false m g).2) && (n + (devT (ixOf n) true m g).2 - (n + (devT (ixOf n) false m' g').1) == n + (devT (ixOf n) true m' g').2 - (n + (devT (ixOf n) false m g).1) && true)) (brK (n == n && (true == true && (m == m && (g == g && true)) && (false == false && (m' == m' && (g' == g' && true)) && true))) (some ()) (none)) (none)) (none)) (none)))) (none)))) (none)) (none)) (none)) (none)) (none)) (none) := by kernel_rfl

theorem fitSwapsAff (n m g m' g' : Int) (hv : inV n m g = true) (hv' : inV n m' g' = true) (ho : okF n m g m' g' = false) : (runK prog (pLaw false false) 60).call 7 [.agg [.rng .i64 n 1 100000, .bool true, .rng .i64 m 0 4, .rng .i64 g 5 12, .bool false, .rng .i64 m' 0 9, .rng .i64 g' 5 12]] (Bg 9) goodK = some () := by
  rw [fitSwapsA_ff, hv, hv', ho]; rfl
theorem fitSwapsAtf (n m g m' g' : Int) (hv : inV n m g = true) (hv' : inV n m' g' = true) (ho : okF n m g m' g' = true) (hs : okF n m' g' m g = false) : (runK prog (pLaw true false) 60).call 7 [.agg [.rng .i64 n 1 100000, .bool true, .rng .i64 m 0 4, .rng .i64 g 5 12, .bool false, .rng .i64 m' 0 9, .rng .i64 g' 5 12]] (Bg 9) goodK = some () := by
  rw [fitSwapsA_tf, hv, hv', ho, hs]; rfl
theorem fitSwapsAtt (n m g m' g' : Int) (hv : inV n m g = true) (hv' : inV n m' g' = true) (ho : okF n m g m' g' = true) (hs : okF n m' g' m g = true) : (runK prog (pLaw true true) 60).call 7 [.agg [.rng .i64 n 1 100000, .bool true, .rng .i64 m 0 4, .rng .i64 g 5 12, .bool false, .rng .i64 m' 0 9, .rng .i64 g' 5 12]] (Bg 9) goodK = some () := by
  rw [fitSwapsA_tt]
  simp only [hv, hv', ho, hs, Bool.and_self]
  simp only [dev_true]
  obtain ⟨p, hp⟩ : ∃ p, p = devT (ixOf n) false m g := ⟨_, rfl⟩
  obtain ⟨q, hq⟩ : ∃ q, q = devT (ixOf n) false m' g' := ⟨_, rfl⟩
  simp only [← hp, ← hq]
  have e1 : n + -p.2 - (n + q.2) = -p.2 - q.2 := by omega
  have e2 : n + -q.2 - (n + p.2) = -p.2 - q.2 := by omega
  have e3 : n + -p.1 - (n + q.1) = -p.1 - q.1 := by omega
  have e4 : n + -q.1 - (n + p.1) = -p.1 - q.1 := by omega
  simp only [e1, e2, e3, e4, beq_self_eq_true, Bool.and_self]
  cases c1 : decide (-p.2 - q.2 ≥ 0) <;> cases c2 : decide (-p.1 - q.1 ≤ 0) <;> rfl

theorem fitSwapsBff (n m g m' g' : Int) (hv : inV n m g = true) (hv' : inV n m' g' = true) (ho : okF n m g m' g' = false) : (runK prog (pLaw false false) 60).call 7 [.agg [.rng .i64 n 1 100000, .bool true, .rng .i64 m 5 9, .rng .i64 g 5 12, .bool false, .rng .i64 m' 0 9, .rng .i64 g' 5 12]] (Bg 9) goodK = some () := by
  rw [fitSwapsB_ff, hv, hv', ho]; rfl
theorem fitSwapsBtf (n m g m' g' : Int) (hv : inV n m g = true) (hv' : inV n m' g' = true) (ho : okF n m g m' g' = true) (hs : okF n m' g' m g = false) : (runK prog (pLaw true false) 60).call 7 [.agg [.rng .i64 n 1 100000, .bool true, .rng .i64 m 5 9, .rng .i64 g 5 12, .bool false, .rng .i64 m' 0 9, .rng .i64 g' 5 12]] (Bg 9) goodK = some () := by
  rw [fitSwapsB_tf, hv, hv', ho, hs]; rfl
theorem fitSwapsBtt (n m g m' g' : Int) (hv : inV n m g = true) (hv' : inV n m' g' = true) (ho : okF n m g m' g' = true) (hs : okF n m' g' m g = true) : (runK prog (pLaw true true) 60).call 7 [.agg [.rng .i64 n 1 100000, .bool true, .rng .i64 m 5 9, .rng .i64 g 5 12, .bool false, .rng .i64 m' 0 9, .rng .i64 g' 5 12]] (Bg 9) goodK = some () := by
  rw [fitSwapsB_tt]
  simp only [hv, hv', ho, hs, Bool.and_self]
  simp only [dev_true]
  obtain ⟨p, hp⟩ : ∃ p, p = devT (ixOf n) false m g := ⟨_, rfl⟩
  obtain ⟨q, hq⟩ : ∃ q, q = devT (ixOf n) false m' g' := ⟨_, rfl⟩
  simp only [← hp, ← hq]
  have e1 : n + -p.2 - (n + q.2) = -p.2 - q.2 := by omega
  have e2 : n + -q.2 - (n + p.2) = -p.2 - q.2 := by omega
  have e3 : n + -p.1 - (n + q.1) = -p.1 - q.1 := by omega
  have e4 : n + -q.1 - (n + p.1) = -p.1 - q.1 := by omega
  simp only [e1, e2, e3, e4, beq_self_eq_true, Bool.and_self]
  cases c1 : decide (-p.2 - q.2 ≥ 0) <;> cases c2 : decide (-p.1 - q.1 ≤ 0) <;> rfl
/-- The law, for all arguments. -/
theorem fitSwaps (n hl hg sl sg : Int) (hh sh : Bool) (W : World) (hG : prog.globals.size ≤ W.heap.size) (hT : Tab (ambOf W)) (bn : -9223372036854775808 ≤ n ∧ n ≤ 9223372036854775807) (bhl : -9223372036854775808 ≤ hl ∧ hl ≤ 9223372036854775807) (bhg : -9223372036854775808 ≤ hg ∧ hg ≤ 9223372036854775807) (bsl : -9223372036854775808 ≤ sl ∧ sl ≤ 9223372036854775807) (bsg : -9223372036854775808 ≤ sg ∧ sg ≤ 9223372036854775807)  :
    Calls prog 7 #[.agg #[.int .i64 n, .bool hh, .int .i64 hl, .int .i64 hg, .bool sh, .int .i64 sl, .int .i64 sg]] W fun e W' => e = .returned (.bool true) ∧ RowKit.Below W.heap.size W W' := by
  have key : ∀ {prims : Prims}, PrimOK prog (ambOf W) prims → ∀ {a b c d e f g : AV} {xs : List AV}, (runK prog prims 60).call 7 (.agg [a, b, c, d, e, f, g] :: xs) (Bg 9) goodK = some () → belowL 0 (.agg [a, b, c, d, e, f, g] :: xs) = true →
      VR (iotaG 9) a (.int .i64 n) → VR (iotaG 9) b (.bool hh) → VR (iotaG 9) c (.int .i64 hl) → VR (iotaG 9) d (.int .i64 hg) → VR (iotaG 9) e (.bool sh) → VR (iotaG 9) f (.int .i64 sl) → VR (iotaG 9) g (.int .i64 sg) →
      VRL (iotaG 9) xs [] →
      Calls prog 7 #[.agg #[.int .i64 n, .bool hh, .int .i64 hl, .int .i64 hg, .bool sh, .int .i64 sl, .int .i64 sg]] W fun e W' => e = .returned (.bool true) ∧ RowKit.Below W.heap.size W W' := by
    intro prims hp a b c d e f g xs hk hbl ha hb hc hd he hf hg hxs
    refine law_of_K hmix hnum hp hG (n := 60) (args := .agg [a, b, c, d, e, f, g] :: xs) (by rw [gsz]; exact hk) hbl (iotaG 9) _ ?_
    simp only [VRL, VR]
    exact ⟨_, _, rfl, ⟨_, rfl, _, _, rfl, ha, _, _, rfl, hb, _, _, rfl, hc, _, _, rfl, hd, _, _, rfl, he, _, _, rfl, hf, _, _, rfl, hg, rfl⟩, hxs⟩
  have r : ∀ {x lo hi : Int}, lo ≤ x → x ≤ hi → VR (iotaG 9) (.rng .i64 x lo hi) (.int .i64 x) := fun p q => by simp only [VR]; exact ⟨trivial, p, q⟩
  have s : ∀ {k : IntKind} {x : Int}, VR (iotaG 9) (.sint k x) (.int k x) := by simp [VR]
  have sb : ∀ {x : Bool}, VR (iotaG 9) (.sbool x) (.bool x) := by simp [VR]
  have cb : ∀ {x : Bool}, VR (iotaG 9) (.bool x) (.bool x) := by simp [VR]
  have xs0 : VRL (iotaG 9) [] [] := by simp [VRL]
  have hp := pLim_ok hT hG
  by_cases c1 : n ≤ 0
  · exact key hp (fitSwapsE1 n hl hg sl sg hh sh) rfl (r (by omega) (by omega)) sb s s sb s s xs0
  by_cases c2 : 100001 ≤ n
  · exact key hp (fitSwapsE2 n hl hg sl sg hh sh) rfl (r (by omega) (by omega)) sb s s sb s s xs0
  by_cases c3 : hl ≤ -1
  · exact key hp (fitSwapsE3 n hl hg sl sg hh sh) rfl (r (by omega) (by omega)) sb (r (by omega) (by omega)) s sb s s xs0
  by_cases c4 : 10 ≤ hl
  · exact key hp (fitSwapsE4 n hl hg sl sg hh sh) rfl (r (by omega) (by omega)) sb (r (by omega) (by omega)) s sb s s xs0
  by_cases c5 : hg ≤ 4
  · exact key hp (fitSwapsE5 n hl hg sl sg hh sh) rfl (r (by omega) (by omega)) sb (r (by omega) (by omega)) (r (by omega) (by omega)) sb s s xs0
  by_cases c6 : 13 ≤ hg
  · exact key hp (fitSwapsE6 n hl hg sl sg hh sh) rfl (r (by omega) (by omega)) sb (r (by omega) (by omega)) (r (by omega) (by omega)) sb s s xs0
  by_cases c7 : sl ≤ -1
  · exact key hp (fitSwapsE7 n hl hg sl sg hh sh) rfl (r (by omega) (by omega)) sb (r (by omega) (by omega)) (r (by omega) (by omega)) sb (r (by omega) (by omega)) s xs0
  by_cases c8 : 10 ≤ sl
  · exact key hp (fitSwapsE8 n hl hg sl sg hh sh) rfl (r (by omega) (by omega)) sb (r (by omega) (by omega)) (r (by omega) (by omega)) sb (r (by omega) (by omega)) s xs0
  by_cases c9 : sg ≤ 4
  · exact key hp (fitSwapsE9 n hl hg sl sg hh sh) rfl (r (by omega) (by omega)) sb (r (by omega) (by omega)) (r (by omega) (by omega)) sb (r (by omega) (by omega)) (r (by omega) (by omega)) xs0
  by_cases c10 : 13 ≤ sg
  · exact key hp (fitSwapsE10 n hl hg sl sg hh sh) rfl (r (by omega) (by omega)) sb (r (by omega) (by omega)) (r (by omega) (by omega)) sb (r (by omega) (by omega)) (r (by omega) (by omega)) xs0
  cases hh with
  | false => exact key hp (fitSwapsE11 n hl hg sl sg false sh) rfl (r (by omega) (by omega)) cb (r (by omega) (by omega)) (r (by omega) (by omega)) sb (r (by omega) (by omega)) (r (by omega) (by omega)) xs0
  | true =>
  cases sh with
  | true => exact key hp (fitSwapsE12 n hl hg sl sg true true) rfl (r (by omega) (by omega)) cb (r (by omega) (by omega)) (r (by omega) (by omega)) cb (r (by omega) (by omega)) (r (by omega) (by omega)) xs0
  | false =>
  have hv : inV n hl hg = true := decide_eq_true (by omega)
  have hv' : inV n sl sg = true := decide_eq_true (by omega)
  by_cases hx : hl ≤ 4
  · cases ho : okF n hl hg sl sg with
    | false => exact key (pLaw_ok hT hG false false) (fitSwapsAff n hl hg sl sg hv hv' ho) rfl (r (by omega) (by omega)) cb (r (by omega) (by omega)) (r (by omega) (by omega)) cb (r (by omega) (by omega)) (r (by omega) (by omega)) xs0
    | true =>
      cases hs : okF n sl sg hl hg with
      | false => exact key (pLaw_ok hT hG true false) (fitSwapsAtf n hl hg sl sg hv hv' ho hs) rfl (r (by omega) (by omega)) cb (r (by omega) (by omega)) (r (by omega) (by omega)) cb (r (by omega) (by omega)) (r (by omega) (by omega)) xs0
      | true => exact key (pLaw_ok hT hG true true) (fitSwapsAtt n hl hg sl sg hv hv' ho hs) rfl (r (by omega) (by omega)) cb (r (by omega) (by omega)) (r (by omega) (by omega)) cb (r (by omega) (by omega)) (r (by omega) (by omega)) xs0
  · cases ho : okF n hl hg sl sg with
    | false => exact key (pLaw_ok hT hG false false) (fitSwapsBff n hl hg sl sg hv hv' ho) rfl (r (by omega) (by omega)) cb (r (by omega) (by omega)) (r (by omega) (by omega)) cb (r (by omega) (by omega)) (r (by omega) (by omega)) xs0
    | true =>
      cases hs : okF n sl sg hl hg with
      | false => exact key (pLaw_ok hT hG true false) (fitSwapsBtf n hl hg sl sg hv hv' ho hs) rfl (r (by omega) (by omega)) cb (r (by omega) (by omega)) (r (by omega) (by omega)) cb (r (by omega) (by omega)) (r (by omega) (by omega)) xs0
      | true => exact key (pLaw_ok hT hG true true) (fitSwapsBtt n hl hg sl sg hv hv' ho hs) rfl (r (by omega) (by omega)) cb (r (by omega) (by omega)) (r (by omega) (by omega)) cb (r (by omega) (by omega)) (r (by omega) (by omega)) xs0
#print axioms fitSwaps
end Go.Proofs.Tryz
