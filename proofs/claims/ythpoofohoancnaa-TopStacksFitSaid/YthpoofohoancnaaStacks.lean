/- TopStacksFit: the clearance of a fit is the stack of its hole and its shaft. -/
import Derived.Test.YthpoofohoancnaaOrd

namespace Go.Proofs.Try
open Go.Ad

theorem topStacksFitE1 (n hl hg sl sg : Int) (hh sh : Bool) : (runK prog pLim 100).call 3 [.agg [.rng .i64 n (-9223372036854775808) 0, .sbool hh, .sint .i64 hl, .sint .i64 hg, .sbool sh, .sint .i64 sl, .sint .i64 sg]] (Bg 0) goodK = some () := by kernel_rfl
theorem topStacksFitE2 (n hl hg sl sg : Int) (hh sh : Bool) : (runK prog pLim 100).call 3 [.agg [.rng .i64 n 100001 9223372036854775807, .sbool hh, .sint .i64 hl, .sint .i64 hg, .sbool sh, .sint .i64 sl, .sint .i64 sg]] (Bg 0) goodK = some () := by kernel_rfl
theorem topStacksFitE3 (n hl hg sl sg : Int) (hh sh : Bool) : (runK prog pLim 100).call 3 [.agg [.rng .i64 n 1 100000, .sbool hh, .rng .i64 hl (-9223372036854775808) (-1), .sint .i64 hg, .sbool sh, .sint .i64 sl, .sint .i64 sg]] (Bg 0) goodK = some () := by kernel_rfl
theorem topStacksFitE4 (n hl hg sl sg : Int) (hh sh : Bool) : (runK prog pLim 100).call 3 [.agg [.rng .i64 n 1 100000, .sbool hh, .rng .i64 hl 10 9223372036854775807, .sint .i64 hg, .sbool sh, .sint .i64 sl, .sint .i64 sg]] (Bg 0) goodK = some () := by kernel_rfl
theorem topStacksFitE5 (n hl hg sl sg : Int) (hh sh : Bool) : (runK prog pLim 100).call 3 [.agg [.rng .i64 n 1 100000, .sbool hh, .rng .i64 hl 0 9, .rng .i64 hg (-9223372036854775808) 4, .sbool sh, .sint .i64 sl, .sint .i64 sg]] (Bg 0) goodK = some () := by kernel_rfl
theorem topStacksFitE6 (n hl hg sl sg : Int) (hh sh : Bool) : (runK prog pLim 100).call 3 [.agg [.rng .i64 n 1 100000, .sbool hh, .rng .i64 hl 0 9, .rng .i64 hg 13 9223372036854775807, .sbool sh, .sint .i64 sl, .sint .i64 sg]] (Bg 0) goodK = some () := by kernel_rfl
theorem topStacksFitE7 (n hl hg sl sg : Int) (hh sh : Bool) : (runK prog pLim 100).call 3 [.agg [.rng .i64 n 1 100000, .sbool hh, .rng .i64 hl 0 9, .rng .i64 hg 5 12, .sbool sh, .rng .i64 sl (-9223372036854775808) (-1), .sint .i64 sg]] (Bg 0) goodK = some () := by kernel_rfl
theorem topStacksFitE8 (n hl hg sl sg : Int) (hh sh : Bool) : (runK prog pLim 100).call 3 [.agg [.rng .i64 n 1 100000, .sbool hh, .rng .i64 hl 0 9, .rng .i64 hg 5 12, .sbool sh, .rng .i64 sl 10 9223372036854775807, .sint .i64 sg]] (Bg 0) goodK = some () := by kernel_rfl
theorem topStacksFitE9 (n hl hg sl sg : Int) (hh sh : Bool) : (runK prog pLim 100).call 3 [.agg [.rng .i64 n 1 100000, .sbool hh, .rng .i64 hl 0 9, .rng .i64 hg 5 12, .sbool sh, .rng .i64 sl 0 9, .rng .i64 sg (-9223372036854775808) 4]] (Bg 0) goodK = some () := by kernel_rfl
theorem topStacksFitE10 (n hl hg sl sg : Int) (hh sh : Bool) : (runK prog pLim 100).call 3 [.agg [.rng .i64 n 1 100000, .sbool hh, .rng .i64 hl 0 9, .rng .i64 hg 5 12, .sbool sh, .rng .i64 sl 0 9, .rng .i64 sg 13 9223372036854775807]] (Bg 0) goodK = some () := by kernel_rfl
theorem topStacksFitE11 (n hl hg sl sg : Int) (hh sh : Bool) : (runK prog pLim 100).call 3 [.agg [.rng .i64 n 1 100000, .bool false, .rng .i64 hl 0 9, .rng .i64 hg 5 12, .sbool sh, .rng .i64 sl 0 9, .rng .i64 sg 5 12]] (Bg 0) goodK = some () := by kernel_rfl
theorem topStacksFitE12 (n hl hg sl sg : Int) (hh sh : Bool) : (runK prog pLim 100).call 3 [.agg [.rng .i64 n 1 100000, .bool true, .rng .i64 hl 0 9, .rng .i64 hg 5 12, .bool true, .rng .i64 sl 0 9, .rng .i64 sg 5 12]] (Bg 0) goodK = some () := by kernel_rfl


def tStacks (n m g m' g' a b c d : Int) : Option Unit :=
  brK (inV n m g && (inV n m' g' && okF n m g m' g')) (brK (inV n m g && (inV n m' g' && okF n m g m' g')) (brK (inV n m g && (inV n m' g' && okF n m g m' g'))
    (brK (decide (0 ≤ a ∧ a ≤ b ∧ b ≤ 100000)) (brK (decide (0 ≤ c ∧ c ≤ d ∧ d ≤ 100000)) (brK (decide (0 ≤ a ∧ a ≤ b ∧ b ≤ 100000)) (brK (decide (0 ≤ c ∧ c ≤ d ∧ d ≤ 100000)) (brK (decide (0 ≤ a ∧ a ≤ b ∧ b ≤ 100000)) (brK (decide (0 ≤ c ∧ c ≤ d ∧ d ≤ 100000))
      (brK (0 + 1 * a + -1 * d == a - d && (0 + 1 * b + -1 * c == b - c && true))
        (brK (a != a) none (brK (d != d) none (brK (b != b) none (brK (c != c) none (some ())))))
        none) none) none) none) none) none) none) none) none) none

theorem topStacksFitT (n m g m' g' : Int) : (runK prog (pOrd true true) 100).call 3 [.agg [.rng .i64 n 1 100000, .bool true, .rng .i64 m 0 9, .rng .i64 g 5 12, .bool false, .rng .i64 m' 0 9, .rng .i64 g' 5 12]] (Bg 0) goodK =
    tStacks n m g m' g' (n + (devT (ixOf n) true m g).1) (n + (devT (ixOf n) true m g).2) (n + (devT (ixOf n) false m' g').1) (n + (devT (ixOf n) false m' g').2) := by kernel_rfl
theorem topStacksFitF (n m g m' g' : Int) : (runK prog (pOrd false false) 100).call 3 [.agg [.rng .i64 n 1 100000, .bool true, .rng .i64 m 0 9, .rng .i64 g 5 12, .bool false, .rng .i64 m' 0 9, .rng .i64 g' 5 12]] (Bg 0) goodK = brK (inV n m g && (inV n m' g' && !okF n m g m' g')) (some ()) none := by kernel_rfl

theorem ord_of {n m g : Int} (h : Bool) (hc : (1 ≤ n ∧ n ≤ 100000) ∧ (0 ≤ m ∧ m ≤ 9) ∧ 5 ≤ g ∧ g ≤ 12) : (devT (ixOf n) h m g).1 ≤ (devT (ixOf n) h m g).2 := by
  obtain ⟨k, rfl, hk'⟩ : ∃ k : Nat, g = ((5 + k : Nat) : Int) ∧ k < 8 := ⟨(g - 5).toNat, by omega, by omega⟩
  obtain ⟨m', rfl, hm'⟩ : ∃ m' : Nat, m = (m' : Int) ∧ m' < 10 := ⟨m.toNat, by omega, by omega⟩
  exact dev_ord _ m' k h (ix_lt n) hm' hk'

theorem topStacksFit_t (n m g m' g' : Int) (hv : inV n m g = true) (hv' : inV n m' g' = true) (ho : okF n m g m' g' = true) : (runK prog (pOrd true true) 100).call 3 [.agg [.rng .i64 n 1 100000, .bool true, .rng .i64 m 0 9, .rng .i64 g 5 12, .bool false, .rng .i64 m' 0 9, .rng .i64 g' 5 12]] (Bg 0) goodK = some () := by
  rw [topStacksFitT]
  have V : decide ((1 ≤ n ∧ n ≤ 100000) ∧ (0 ≤ m ∧ m ≤ 9) ∧ 5 ≤ g ∧ g ≤ 12) = true := hv
  have V' : decide ((1 ≤ n ∧ n ≤ 100000) ∧ (0 ≤ m' ∧ m' ≤ 9) ∧ 5 ≤ g' ∧ g' ≤ 12) = true := hv'
  have o1 := ord_of true (of_decide_eq_true V)
  have o2 := ord_of false (of_decide_eq_true V')
  have ho' := ho
  rw [okF, Bool.and_eq_true] at ho'
  obtain ⟨l1, l2⟩ := ho'
  have l1 := of_decide_eq_true l1
  have l2 := of_decide_eq_true l2
  generalize devT (ixOf n) true m g = x at *
  generalize devT (ixOf n) false m' g' = y at *
  have d1 : decide (0 ≤ n + x.1 ∧ n + x.1 ≤ n + x.2 ∧ n + x.2 ≤ 100000) = true := decide_eq_true (by omega)
  have d2 : decide (0 ≤ n + y.1 ∧ n + y.1 ≤ n + y.2 ∧ n + y.2 ≤ 100000) = true := decide_eq_true (by omega)
  have d3 : (0 + 1 * (n + x.1) + -1 * (n + y.2) == n + x.1 - (n + y.2) && (0 + 1 * (n + x.2) + -1 * (n + y.1) == n + x.2 - (n + y.1) && true)) = true := by
    simp only [Bool.and_eq_true, beq_iff_eq, and_true]
    omega
  have ne : ∀ a : Int, (a != a) = false := fun a => by simp
  simp only [tStacks, hv, hv', ho, d1, d2, d3, ne, Bool.and_self, brT, brF]

theorem topStacksFit_f (n m g m' g' : Int) (hv : inV n m g = true) (hv' : inV n m' g' = true) (ho : okF n m g m' g' = false) : (runK prog (pOrd false false) 100).call 3 [.agg [.rng .i64 n 1 100000, .bool true, .rng .i64 m 0 9, .rng .i64 g 5 12, .bool false, .rng .i64 m' 0 9, .rng .i64 g' 5 12]] (Bg 0) goodK = some () := by
  rw [topStacksFitF, hv, hv', ho]; rfl

/-- The law, for all arguments. -/
theorem topStacksFit (n hl hg sl sg : Int) (hh sh : Bool) (W : World) (hG : prog.globals.size ≤ W.heap.size) (hT : Tab (ambOf W)) (bn : -9223372036854775808 ≤ n ∧ n ≤ 9223372036854775807) (bhl : -9223372036854775808 ≤ hl ∧ hl ≤ 9223372036854775807) (bhg : -9223372036854775808 ≤ hg ∧ hg ≤ 9223372036854775807) (bsl : -9223372036854775808 ≤ sl ∧ sl ≤ 9223372036854775807) (bsg : -9223372036854775808 ≤ sg ∧ sg ≤ 9223372036854775807)  :
    Calls prog 3 #[.agg #[.int .i64 n, .bool hh, .int .i64 hl, .int .i64 hg, .bool sh, .int .i64 sl, .int .i64 sg]] W fun e W' => e = .returned (.bool true) ∧ RowKit.Below W.heap.size W W' := by
  have key : ∀ {prims : Prims}, PrimOK prog (ambOf W) prims → ∀ {a b c d e f g : AV} {xs : List AV}, (runK prog prims 100).call 3 (.agg [a, b, c, d, e, f, g] :: xs) (Bg 0) goodK = some () → belowL 0 (.agg [a, b, c, d, e, f, g] :: xs) = true →
      VR (iotaG 0) a (.int .i64 n) → VR (iotaG 0) b (.bool hh) → VR (iotaG 0) c (.int .i64 hl) → VR (iotaG 0) d (.int .i64 hg) → VR (iotaG 0) e (.bool sh) → VR (iotaG 0) f (.int .i64 sl) → VR (iotaG 0) g (.int .i64 sg) →
      VRL (iotaG 0) xs [] →
      Calls prog 3 #[.agg #[.int .i64 n, .bool hh, .int .i64 hl, .int .i64 hg, .bool sh, .int .i64 sl, .int .i64 sg]] W fun e W' => e = .returned (.bool true) ∧ RowKit.Below W.heap.size W W' := by
    intro prims hp a b c d e f g xs hk hbl ha hb hc hd he hf hg hxs
    refine law_of_K hmix hnum hp hG (n := 100) (args := .agg [a, b, c, d, e, f, g] :: xs) (by rw [gsz]; exact hk) hbl (iotaG 0) _ ?_
    simp only [VRL, VR]
    exact ⟨_, _, rfl, ⟨_, rfl, _, _, rfl, ha, _, _, rfl, hb, _, _, rfl, hc, _, _, rfl, hd, _, _, rfl, he, _, _, rfl, hf, _, _, rfl, hg, rfl⟩, hxs⟩
  have r : ∀ {x lo hi : Int}, lo ≤ x → x ≤ hi → VR (iotaG 0) (.rng .i64 x lo hi) (.int .i64 x) := fun p q => by simp only [VR]; exact ⟨trivial, p, q⟩
  have s : ∀ {k : IntKind} {x : Int}, VR (iotaG 0) (.sint k x) (.int k x) := by simp [VR]
  have sb : ∀ {x : Bool}, VR (iotaG 0) (.sbool x) (.bool x) := by simp [VR]
  have cb : ∀ {x : Bool}, VR (iotaG 0) (.bool x) (.bool x) := by simp [VR]
  have xs0 : VRL (iotaG 0) [] [] := by simp [VRL, VR]
  have hp := pLim_ok hT hG
  by_cases c1 : n ≤ 0
  · exact key hp (topStacksFitE1 n hl hg sl sg hh sh) rfl (r (by omega) (by omega)) sb s s sb s s xs0
  by_cases c2 : 100001 ≤ n
  · exact key hp (topStacksFitE2 n hl hg sl sg hh sh) rfl (r (by omega) (by omega)) sb s s sb s s xs0
  by_cases c3 : hl ≤ -1
  · exact key hp (topStacksFitE3 n hl hg sl sg hh sh) rfl (r (by omega) (by omega)) sb (r (by omega) (by omega)) s sb s s xs0
  by_cases c4 : 10 ≤ hl
  · exact key hp (topStacksFitE4 n hl hg sl sg hh sh) rfl (r (by omega) (by omega)) sb (r (by omega) (by omega)) s sb s s xs0
  by_cases c5 : hg ≤ 4
  · exact key hp (topStacksFitE5 n hl hg sl sg hh sh) rfl (r (by omega) (by omega)) sb (r (by omega) (by omega)) (r (by omega) (by omega)) sb s s xs0
  by_cases c6 : 13 ≤ hg
  · exact key hp (topStacksFitE6 n hl hg sl sg hh sh) rfl (r (by omega) (by omega)) sb (r (by omega) (by omega)) (r (by omega) (by omega)) sb s s xs0
  by_cases c7 : sl ≤ -1
  · exact key hp (topStacksFitE7 n hl hg sl sg hh sh) rfl (r (by omega) (by omega)) sb (r (by omega) (by omega)) (r (by omega) (by omega)) sb (r (by omega) (by omega)) s xs0
  by_cases c8 : 10 ≤ sl
  · exact key hp (topStacksFitE8 n hl hg sl sg hh sh) rfl (r (by omega) (by omega)) sb (r (by omega) (by omega)) (r (by omega) (by omega)) sb (r (by omega) (by omega)) s xs0
  by_cases c9 : sg ≤ 4
  · exact key hp (topStacksFitE9 n hl hg sl sg hh sh) rfl (r (by omega) (by omega)) sb (r (by omega) (by omega)) (r (by omega) (by omega)) sb (r (by omega) (by omega)) (r (by omega) (by omega)) xs0
  by_cases c10 : 13 ≤ sg
  · exact key hp (topStacksFitE10 n hl hg sl sg hh sh) rfl (r (by omega) (by omega)) sb (r (by omega) (by omega)) (r (by omega) (by omega)) sb (r (by omega) (by omega)) (r (by omega) (by omega)) xs0
  cases hh with
  | false => exact key hp (topStacksFitE11 n hl hg sl sg false sh) rfl (r (by omega) (by omega)) cb (r (by omega) (by omega)) (r (by omega) (by omega)) sb (r (by omega) (by omega)) (r (by omega) (by omega)) xs0
  | true =>
  cases sh with
  | true => exact key hp (topStacksFitE12 n hl hg sl sg true true) rfl (r (by omega) (by omega)) cb (r (by omega) (by omega)) (r (by omega) (by omega)) cb (r (by omega) (by omega)) (r (by omega) (by omega)) xs0
  | false =>
  have hv : inV n hl hg = true := decide_eq_true (by omega)
  have hv' : inV n sl sg = true := decide_eq_true (by omega)

  cases ho : okF n hl hg sl sg with
  | false => exact key (pOrd_ok hT hG false false) (topStacksFit_f n hl hg sl sg hv hv' ho) rfl (r (by omega) (by omega)) cb (r (by omega) (by omega)) (r (by omega) (by omega)) cb (r (by omega) (by omega)) (r (by omega) (by omega)) xs0
  | true => exact key (pOrd_ok hT hG true true) (topStacksFit_t n hl hg sl sg hv hv' ho) rfl (r (by omega) (by omega)) cb (r (by omega) (by omega)) (r (by omega) (by omega)) cb (r (by omega) (by omega)) (r (by omega) (by omega)) xs0

end Go.Proofs.Try
