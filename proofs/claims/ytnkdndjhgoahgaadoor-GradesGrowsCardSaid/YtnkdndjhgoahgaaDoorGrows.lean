/- For all sizes and grades the law GradesGrows returns true: tolerances grow with the grade, and do not become less with the size. -/
import Derived.Test.YtnkdndjhgoahgaaDoorSym
namespace Go.Proofs.Tryd
open Go.Ac

theorem growTree (n m g : Int) : (runK prog pSym (fun _ => noBP) 60).call 4 [.rng .i64 n 1 100000, .rng .i64 m 0 99999, .rng .u8 g 0 255] (Bg 9) goodK =
    brK (decide (m > 100000 - n))
    (some ())
    (brK (decide ((1 ≤ n ∧ n ≤ 100000) ∧ 5 ≤ 5 + g.tmod 7 ∧ 5 + g.tmod 7 ≤ 12))
     (brK (decide ((1 ≤ n ∧ n ≤ 100000) ∧ 5 ≤ 5 + g.tmod 7 + 1 ∧ 5 + g.tmod 7 + 1 ≤ 12))
      (brK (decide (n + m > 100000))
       (brK (decide (1 ≤ n ∧ n ≤ 100000))
        (brK (decide (n + m > 100000))
         (none)
         (brK (decide (1 ≤ n + m ∧ n + m ≤ 100000))
          (none)
          (none)))
        (none))
       (brK (decide ((1 ≤ n + m ∧ n + m ≤ 100000) ∧ 5 ≤ 5 + g.tmod 7 ∧ 5 + g.tmod 7 ≤ 12))
        (brK (decide (1 ≤ n ∧ n ≤ 100000))
         (brK (decide (n + m > 100000))
          (none)
          (brK (decide (1 ≤ n + m ∧ n + m ≤ 100000))
           (brK (decide (tolT (ixOf n) (5 + g.tmod 7) < tolT (ixOf n) (5 + g.tmod 7 + 1)))
            (brK (decide (tolT (ixOf n) (5 + g.tmod 7) ≤ tolT (ixOf (n + m)) (5 + g.tmod 7)))
             (brK (decide (((ixOf n : Nat) : Int) ≤ ((ixOf (n + m) : Nat) : Int)))
              (some ())
              (none))
             (none))
            (none))
           (none)))
         (none))
        (none)))
      (none))
     (none)) := by kernel_rfl

theorem tol_grade (j k : Nat) (hj : j < 8) (hk : k < 7) : tolT j (5 + k : Nat) < tolT j (5 + (k + 1) : Nat) := by
  have h : ((List.range 8).all fun j => (List.range 7).all fun k => decide (tolT j (5 + k : Nat) < tolT j (5 + (k + 1) : Nat))) = true := by kernel_rfl
  exact of_decide_eq_true (List.all_eq_true.1 (List.all_eq_true.1 h j (List.mem_range.2 hj)) k (List.mem_range.2 hk))

theorem tol_size (i j k : Nat) (hj : j < 8) (hij : i ≤ j) (hk : k < 8) : tolT i (5 + k : Nat) ≤ tolT j (5 + k : Nat) := by
  have h : ((List.range 8).all fun j => (List.range 8).all fun i => (List.range 8).all fun k => decide (i ≤ j → tolT i (5 + k : Nat) ≤ tolT j (5 + k : Nat))) = true := by kernel_rfl
  exact of_decide_eq_true (List.all_eq_true.1 (List.all_eq_true.1 (List.all_eq_true.1 h j (List.mem_range.2 hj)) i (List.mem_range.2 (by omega))) k (List.mem_range.2 hk)) hij

theorem ix_mono (a b : Int) (h : a ≤ b) : ixOf a ≤ ixOf b := by
  unfold ixOf
  (repeat' split) <;> omega

theorem growIn (n m g : Int) (h1 : 1 ≤ n ∧ n ≤ 100000) (h2 : 0 ≤ m ∧ m ≤ 99999) (h3 : 0 ≤ g ∧ g ≤ 255) :
    (runK prog pSym (fun _ => noBP) 60).call 4 [.rng .i64 n 1 100000, .rng .i64 m 0 99999, .rng .u8 g 0 255] (Bg 9) goodK = some () := by
  rw [growTree]
  by_cases c : m > 100000 - n
  · simp only [decide_eq_true c, brK]
  have e1 : g.tmod 7 = g % 7 := Int.tmod_eq_emod_of_nonneg h3.1
  obtain ⟨k, hk, hk7⟩ : ∃ k : Nat, g.tmod 7 = (k : Int) ∧ k < 7 := ⟨(g % 7).toNat, by omega, by omega⟩
  rw [hk]
  have f1 := tol_grade (ixOf n) k (ix_lt n) hk7
  have f2 := tol_size (ixOf n) (ixOf (n + m)) k (ix_lt _) (ix_mono _ _ (by omega)) (by omega)
  have f3 := ix_mono n (n + m) (by omega)
  have g1 : ((5 + k : Nat) : Int) = 5 + (k : Int) := by omega
  have g2 : ((5 + (k + 1) : Nat) : Int) = 5 + (k : Int) + 1 := by omega
  rw [g1, g2] at f1
  rw [g1] at f2
  rw [decide_eq_false c, decide_eq_true (p := (1 ≤ n ∧ n ≤ 100000) ∧ 5 ≤ 5 + (k : Int) ∧ 5 + (k : Int) ≤ 12) (by omega),
    decide_eq_true (p := (1 ≤ n ∧ n ≤ 100000) ∧ 5 ≤ 5 + (k : Int) + 1 ∧ 5 + (k : Int) + 1 ≤ 12) (by omega), decide_eq_false (p := n + m > 100000) (by omega),
    decide_eq_true (p := (1 ≤ n + m ∧ n + m ≤ 100000) ∧ 5 ≤ 5 + (k : Int) ∧ 5 + (k : Int) ≤ 12) (by omega), decide_eq_true (p := 1 ≤ n ∧ n ≤ 100000) (by omega),
    decide_eq_true (p := 1 ≤ n + m ∧ n + m ≤ 100000) (by omega), decide_eq_true f1, decide_eq_true f2, decide_eq_true (p := ((ixOf n : Nat) : Int) ≤ ((ixOf (n + m) : Nat) : Int)) (by omega)]
  rfl

theorem grow1 (n m g : Int) : (runK prog pSym (fun _ => noBP) 60).call 4 [.rng .i64 n (-9223372036854775808) 0, .sint .i64 m, .sint .u8 g] (Bg 9) goodK = some () := by kernel_rfl
theorem grow2 (n m g : Int) : (runK prog pSym (fun _ => noBP) 60).call 4 [.rng .i64 n 100001 9223372036854775807, .sint .i64 m, .sint .u8 g] (Bg 9) goodK = some () := by kernel_rfl
theorem grow3 (n m g : Int) : (runK prog pSym (fun _ => noBP) 60).call 4 [.rng .i64 n 1 100000, .rng .i64 m (-9223372036854775808) (-1), .sint .u8 g] (Bg 9) goodK = some () := by kernel_rfl
theorem grow4 (n m g : Int) : (runK prog pSym (fun _ => noBP) 60).call 4 [.rng .i64 n 1 100000, .rng .i64 m 100000 9223372036854775807, .sint .u8 g] (Bg 9) goodK = some () := by kernel_rfl

/-- The law, for all arguments. -/
theorem grows (n m g : Int) (W : World) (hG : prog.globals.size ≤ W.heap.size) (bn : -9223372036854775808 ≤ n ∧ n ≤ 9223372036854775807) (bm : -9223372036854775808 ≤ m ∧ m ≤ 9223372036854775807)
    (bg : 0 ≤ g ∧ g ≤ 255) :
    Calls prog 4 #[.int .i64 n, .int .i64 m, .int .u8 g] W fun e W' => e = .returned (.bool true) ∧ RowKit.Below W.heap.size W W' := by
  have key : ∀ {a b c : AV}, (runK prog pSym (fun _ => noBP) 60).call 4 [a, b, c] (Bg 9) goodK = some () → belowL 0 [a, b, c] = true → VR (iotaG 9) a (.int .i64 n) → VR (iotaG 9) b (.int .i64 m) →
      VR (iotaG 9) c (.int .u8 g) → Calls prog 4 #[.int .i64 n, .int .i64 m, .int .u8 g] W fun e W' => e = .returned (.bool true) ∧ RowKit.Below W.heap.size W W' := by
    intro a b c hk hbl ha hb hc
    refine law_of_K hmix hnum (pSym_ok (A := ambOf W) hG) hG noBps (n := 60) (args := [a, b, c]) (by rw [gsz]; exact hk) hbl (iotaG 9) _ ?_
    simp only [VRL]
    exact ⟨_, _, rfl, ha, _, _, rfl, hb, _, _, rfl, hc, rfl⟩
  have r : ∀ (x lo hi : Int), lo ≤ x → x ≤ hi → VR (iotaG 9) (.rng .i64 x lo hi) (.int .i64 x) := fun x lo hi p q => by simp only [VR]; exact ⟨trivial, p, q⟩
  have s : ∀ (k : IntKind) (x : Int), VR (iotaG 9) (.sint k x) (.int k x) := fun k x => by simp only [VR]
  by_cases c1 : n ≤ 0
  · exact key (grow1 n m g) rfl (r _ _ _ (by omega) (by omega)) (s _ _) (s _ _)
  by_cases c2 : 100001 ≤ n
  · exact key (grow2 n m g) rfl (r _ _ _ (by omega) (by omega)) (s _ _) (s _ _)
  by_cases c3 : m ≤ -1
  · exact key (grow3 n m g) rfl (r _ _ _ (by omega) (by omega)) (r _ _ _ (by omega) (by omega)) (s _ _)
  by_cases c4 : 100000 ≤ m
  · exact key (grow4 n m g) rfl (r _ _ _ (by omega) (by omega)) (r _ _ _ (by omega) (by omega)) (s _ _)
  · exact key (growIn n m g (by omega) (by omega) (by omega)) rfl (r _ _ _ (by omega) (by omega)) (r _ _ _ (by omega) (by omega)) (by simp only [VR]; exact ⟨trivial, by omega, by omega⟩)
end Go.Proofs.Tryd
