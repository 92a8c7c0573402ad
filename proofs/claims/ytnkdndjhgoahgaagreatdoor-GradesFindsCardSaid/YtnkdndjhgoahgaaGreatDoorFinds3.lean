/- The law GradesFinds, for all arguments. -/
import Derived.Test.YtnkdndjhgoahgaaGreatDoorFinds2

namespace Go.Proofs.Tryz
open Go.Ad

abbrev argsFnd (n a b w : Int) : List AV := [.rng .i64 n 1 100000, .agg [.sint .i64 a, .sint .i64 b], .sint .i64 w]
theorem fndA (n a b w : Int) (L : List Cl) : (runK prog (pFnd true L) 60).call 7 (argsFnd n a b w) (Bg 9) goodK =
    brK (inN n) (brK (propB (runA n a b = L ∧ L.isEmpty = true)) (brK (inN n) (brK (propB (runA n a b = L ∧ L.isEmpty = true)) (brK (inN n) (brK (inN n)
      (brK ((crs n w 8).1 == (crs n w 8).1) (brK ((crs n w 8).2 == (crs n w 8).2) (some ()) none) none) none) none) none) none) none) none := by kernel_rfl
theorem fndB (n a b w : Int) (L : List Cl) : (runK prog (pFndB a b L) 60).call 7 (argsFnd n a b w) (Bg 9) goodK =
    brK (inN n) (brK (propB (runA n a b = L ∧ L.isEmpty = false)) (brK (inN n) (brK (propB (runA n a b = L ∧ L.isEmpty = false)) (brK (inN n) (brK (inN n)
      (brK (propB (rho30 L.length (.slice none 0 0) (.int .i64 0) = rho30 L.length (.slice none 0 0) (.int .i64 0) ∧ heapN a b L = heapN a b L ∧ L.isEmpty = false ∧ L.length ≤ 160))
        (brK ((L.length : Int) != (L.length : Int)) none
          (brK (propB (rho29 L.length (.int .i64 0) = rho29 L.length (.int .i64 0) ∧ heapN a b L ++ [vecL rowF cl0 3 28 L] = heapN a b L ++ [vecL rowF cl0 3 28 L] ∧ L.length ≤ 160))
            (brK ((crs n w 8).1 == (crs n w 8).1) (brK ((crs n w 8).2 == (crs n w 8).2) (some ()) none) none) none)) none) none) none) none) none) none) none := by kernel_rfl
theorem fndE1 (n a b w : Int) : (runK prog pSym 60).call 7 [.rng .i64 n (-9223372036854775808) 0, .agg [.sint .i64 a, .sint .i64 b], .sint .i64 w] (Bg 9) goodK = some () := by kernel_rfl
theorem fndE2 (n a b w : Int) : (runK prog pSym 60).call 7 [.rng .i64 n 100001 9223372036854775807, .agg [.sint .i64 a, .sint .i64 b], .sint .i64 w] (Bg 9) goodK = some () := by kernel_rfl

/-- The law, for all arguments. -/
theorem gradesFinds (n a b w : Int) (W : World) (hG : prog.globals.size ≤ W.heap.size) (bn : -9223372036854775808 ≤ n ∧ n ≤ 9223372036854775807) :
    Calls prog 7 #[.int .i64 n, .agg #[.int .i64 a, .int .i64 b], .int .i64 w] W fun e W' => e = .returned (.bool true) ∧ RowKit.Below W.heap.size W W' := by
  have key : ∀ {prims : Prims}, PrimOK prog (ambOf W) prims → ∀ {x : AV}, (runK prog prims 60).call 7 [x, .agg [.sint .i64 a, .sint .i64 b], .sint .i64 w] (Bg 9) goodK = some () → belowL 0 [x, .agg [.sint .i64 a, .sint .i64 b], .sint .i64 w] = true →
      VR (iotaG 9) x (.int .i64 n) →
      Calls prog 7 #[.int .i64 n, .agg #[.int .i64 a, .int .i64 b], .int .i64 w] W fun e W' => e = .returned (.bool true) ∧ RowKit.Below W.heap.size W W' := by
    intro prims hp x hk hbl hx
    refine law_of_K hmix hnum hp hG (n := 60) (args := [x, .agg [.sint .i64 a, .sint .i64 b], .sint .i64 w]) (by rw [gsz]; exact hk) hbl (iotaG 9) _ ?_
    simp only [VRL, VR]
    exact ⟨_, _, rfl, hx, _, _, rfl, ⟨_, rfl, _, _, rfl, rfl, _, _, rfl, rfl, rfl⟩, _, _, rfl, rfl, rfl⟩
  have r : ∀ {lo hi : Int}, lo ≤ n → n ≤ hi → VR (iotaG 9) (.rng .i64 n lo hi) (.int .i64 n) := fun p q => by simp only [VR]; exact ⟨trivial, p, q⟩
  have hT : Tab (ambOf W) := trivial
  by_cases c1 : n ≤ 0
  · exact key (pSym_ok hT hG) (fndE1 n a b w) rfl (r (by omega) (by omega))
  by_cases c2 : 100001 ≤ n
  · exact key (pSym_ok hT hG) (fndE2 n a b w) rfl (r (by omega) (by omega))
  have e0 : inN n = true := decide_eq_true (by omega)
  have hlen := runA_len n a b
  cases he : (runA n a b).isEmpty with
  | true =>
    refine key (pFnd_ok hT hG true (runA n a b)) ((fndA n a b w (runA n a b)).trans ?_) rfl (r (by omega) (by omega))
    rw [e0, propB_true ⟨rfl, he⟩]
    simp [brK]
  | false =>
    refine key (pFndB_ok hT hG a b (runA n a b)) ((fndB n a b w (runA n a b)).trans ?_) rfl (r (by omega) (by omega))
    rw [e0, propB_true ⟨rfl, he⟩, propB_true ⟨rfl, rfl, he, hlen⟩, propB_true ⟨rfl, rfl, hlen⟩]
    simp [brK]
#print axioms gradesFinds
end Go.Proofs.Tryz
