/- The law FitChooses, for all arguments. -/
import Derived.Test.YtmenhnnkibpidaaGreatDoorChoose
import Derived.Test.YtmenhnnkibpidaaGreatDoorOpen

namespace Go.Proofs.Tryz
open Go.Ad

abbrev argsCho (n a b : Int) : List AV := [.rng .i64 n 1 100000, .agg [.rng .i64 a (-100000) 100000, .rng .i64 b (-100000) 100000]]

theorem chTree (n a b : Int) : (runK prog pCho 60).call 9 (argsCho n a b) (Bg 9) goodK =
    brK (in1 n && (inR a && inR b))
      (brK (decide (a > b)) (brK (in1 n && (inR a && inR b)) (brK (decide (a > b)) (some ()) (brK (decide ((bestF n a b).1 < 0)) none none)) none)
        (brK (decide ((bestF n a b).1 < 0))
          (brK (in1 n && (inR a && inR b)) (brK (decide (a > b)) none (brK (decide ((bestF n a b).1 < 0)) (some ()) none)) none)
          (brK (in1 n && (inR a && inR b)) (brK (decide (a > b)) none (brK (decide ((bestF n a b).1 < 0)) none
            (brK (n == n && (true == true && (true && ((bestF n a b).2.1 == (bestF n a b).2.1 && true)) && (false == false && ((bestF n a b).2.2.1 == (bestF n a b).2.2.1 && ((bestF n a b).2.2.2 == (bestF n a b).2.2.2 && true)) && true)))
              (some ()) none))) none))) none := by kernel_rfl

theorem chE1 (n a b : Int) : (runK prog pChB 60).call 9 [.rng .i64 n (-9223372036854775808) 0, .agg [.sint .i64 a, .sint .i64 b]] (Bg 9) goodK = some () := by kernel_rfl
theorem chE2 (n a b : Int) : (runK prog pChB 60).call 9 [.rng .i64 n 100001 9223372036854775807, .agg [.sint .i64 a, .sint .i64 b]] (Bg 9) goodK = some () := by kernel_rfl
theorem chE3 (n a b : Int) : (runK prog pChB 60).call 9 [.rng .i64 n 1 100000, .agg [.rng .i64 a (-9223372036854775808) (-100001), .sint .i64 b]] (Bg 9) goodK = some () := by kernel_rfl
theorem chE4 (n a b : Int) : (runK prog pChB 60).call 9 [.rng .i64 n 1 100000, .agg [.rng .i64 a 100001 9223372036854775807, .sint .i64 b]] (Bg 9) goodK = some () := by kernel_rfl
theorem chE5 (n a b : Int) : (runK prog pChB 60).call 9 [.rng .i64 n 1 100000, .agg [.rng .i64 a (-100000) 100000, .rng .i64 b (-9223372036854775808) (-100001)]] (Bg 9) goodK = some () := by kernel_rfl
theorem chE6 (n a b : Int) : (runK prog pChB 60).call 9 [.rng .i64 n 1 100000, .agg [.rng .i64 a (-100000) 100000, .rng .i64 b 100001 9223372036854775807]] (Bg 9) goodK = some () := by kernel_rfl

/-- The law, for all arguments. -/
theorem fitChooses (n a b : Int) (W : World) (hG : prog.globals.size ≤ W.heap.size) (hT : Tab (ambOf W)) (bn : I64 n) (ba : I64 a) (bb : I64 b) :
    Calls prog 9 #[.int .i64 n, .agg #[.int .i64 a, .int .i64 b]] W fun e W' => e = .returned (.bool true) ∧ RowKit.Below W.heap.size W W' := by
  have key : ∀ {prims : Prims}, PrimOK prog (ambOf W) prims → ∀ {x y z : AV}, (runK prog prims 60).call 9 [x, .agg [y, z]] (Bg 9) goodK = some () → belowL 0 [x, .agg [y, z]] = true →
      VR (iotaG 9) x (.int .i64 n) → VR (iotaG 9) y (.int .i64 a) → VR (iotaG 9) z (.int .i64 b) →
      Calls prog 9 #[.int .i64 n, .agg #[.int .i64 a, .int .i64 b]] W fun e W' => e = .returned (.bool true) ∧ RowKit.Below W.heap.size W W' := by
    intro prims hp x y z hk hbl hx hy hz
    refine law_of_K hmix hnum hp hG (n := 60) (args := [x, .agg [y, z]]) (by rw [gsz]; exact hk) hbl (iotaG 9) _ ?_
    simp only [VRL, VR]
    exact ⟨_, _, rfl, hx, _, _, rfl, ⟨_, rfl, _, _, rfl, hy, _, _, rfl, hz, rfl⟩, rfl⟩
  have r : ∀ {x lo hi : Int}, lo ≤ x → x ≤ hi → VR (iotaG 9) (.rng .i64 x lo hi) (.int .i64 x) := fun p q => by simp only [VR]; exact ⟨trivial, p, q⟩
  have s : ∀ {x : Int}, VR (iotaG 9) (.sint .i64 x) (.int .i64 x) := by simp [VR]
  have hp := pChB_ok hT hG
  unfold I64 at bn ba bb
  by_cases c1 : n ≤ 0
  · exact key hp (chE1 n a b) rfl (r (by omega) (by omega)) s s
  by_cases c2 : 100001 ≤ n
  · exact key hp (chE2 n a b) rfl (r (by omega) (by omega)) s s
  by_cases c3 : a ≤ -100001
  · exact key hp (chE3 n a b) rfl (r (by omega) (by omega)) (r (by omega) (by omega)) s
  by_cases c4 : 100001 ≤ a
  · exact key hp (chE4 n a b) rfl (r (by omega) (by omega)) (r (by omega) (by omega)) s
  by_cases c5 : b ≤ -100001
  · exact key hp (chE5 n a b) rfl (r (by omega) (by omega)) (r (by omega) (by omega)) (r (by omega) (by omega))
  by_cases c6 : 100001 ≤ b
  · exact key hp (chE6 n a b) rfl (r (by omega) (by omega)) (r (by omega) (by omega)) (r (by omega) (by omega))
  refine key (pCho_ok hT hG) (x := .rng .i64 n 1 100000) (y := .rng .i64 a (-100000) 100000) (z := .rng .i64 b (-100000) 100000) ?_ rfl (r (by omega) (by omega)) (r (by omega) (by omega)) (r (by omega) (by omega))
  refine (chTree n a b).trans ?_
  have e0 : (in1 n && (inR a && inR b)) = true := by simp only [in1, inR, Bool.and_eq_true, decide_eq_true_eq]; omega
  rw [e0]
  cases h1 : decide (a > b) <;> cases h2 : decide ((bestF n a b).1 < 0) <;> simp [brK]
#print axioms fitChooses

theorem array2 {α : Type} {cs : Array α} (h : cs.size = 2) : ∃ c0 c1, cs = #[c0, c1] := by
  obtain ⟨l⟩ := cs
  match l, h with
  | [c0, c1], _ => exact ⟨c0, c1, rfl⟩

set_option maxRecDepth 100000 in
theorem open_want {H : Type} {enc : TypeId × Value → H} {W : World} {base : Nat} {spare : Nat → Bool} {held : Bool} {r : Reach} {b0 : Nat} {v : Value} {d : DataW H} {p : List MemPlace}
    (hv : Value.okWide prog W r b0 27 v) (h : DataW.Trod enc prog W base spare held 27 v d p) : ∃ (a b : Int), v = .agg #[.int .i64 a, .int .i64 b] ∧ I64 a ∧ I64 b := by
  obtain ⟨cs, rfl, hsz⟩ := Go.WideShapes.okWide_struct underlying27 hv
  obtain ⟨c0, c1, rfl⟩ := array2 (hsz.trans (by kernel_rfl))
  obtain ⟨fuel, hf⟩ := h
  obtain ⟨y0, y1, n, _, _, h0, h1⟩ := Go.ChangeShapes.trod_struct2 underlying27 hf
  have c3 : prog.cellsOf 3 = 1 := by kernel_rfl
  obtain ⟨a, e0, _, wa⟩ := DataW.trod_int underlying3 h0
  obtain ⟨b, e1, _, wb⟩ := DataW.trod_int underlying3 h1
  simp [c3, Value.cells] at e0 e1
  subst e0 e1
  exact ⟨a, b, rfl, lit_i64 wa, lit_i64 wb⟩
end Go.Proofs.Tryz
