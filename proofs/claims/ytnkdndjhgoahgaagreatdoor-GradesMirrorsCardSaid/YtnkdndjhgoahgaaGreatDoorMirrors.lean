/- For every size and every class the law GradesMirrors returns true: the deviations of a class are as far apart as its tolerance (but for j), those of the hole mirror those of the shaft, h ends at the size and H begins there. -/
import Derived.Test.YtnkdndjhgoahgaaGreatDoorSym
namespace Go.Proofs.Tryz
open Go.Ac

def lets10 : List UInt8 := [100, 101, 102, 103, 104, 106, 107, 109, 110, 112]

theorem mirTree (n l g : Int) (h : Bool) : (runK prog pSym (fun _ => noBP) 60).call 5 [.rng .i64 n 1 100000, .agg [.sbool h, .rng .i64 l 0 9, .rng .i64 g 5 12]] (Bg 9) goodK =
    let d := devT (ixOf n) h l g
    let d1 := devT (ixOf n) (!h) l g
    let tt := tolT (ixOf n) g
    brK (decide ((1 ≤ n ∧ n ≤ 100000) ∧ (0 ≤ l ∧ l ≤ 9) ∧ 5 ≤ g ∧ g ≤ 12)) (brK (decide ((1 ≤ n ∧ n ≤ 100000) ∧ (0 ≤ l ∧ l ≤ 9) ∧ 5 ≤ g ∧ g ≤ 12)) (brK (decide ((1 ≤ n ∧ n ≤ 100000) ∧ 5 ≤ g ∧ g ≤ 12)) (brK (d.1 != 0 - d1.2) (none) (brK (d.2 != 0 - d1.1) (none) (brK (decide (0 ≤ l ∧ l < ((lets10.length : Nat) : Int))) (brK ((((lets10.getD l.toNat 0).toNat : Nat) : Int) == 106) (brK (d.1 == 0 - d.2) (brK (d.2 == (tt).tdiv 2) (some ()) (none)) (none)) (brK (decide (0 ≤ l ∧ l < ((lets10.length : Nat) : Int))) (brK ((((lets10.getD l.toNat 0).toNat : Nat) : Int) == 104) (brK (h) (brK (d.1 != 0) (none) (brK (!h) (brK (d.2 != 0) (none) (brK (d.2 - d.1 == tt) (some ()) (none))) (brK (d.2 - d.1 == tt) (some ()) (none)))) (brK (!h) (brK (d.2 != 0) (none) (brK (d.2 - d.1 == tt) (some ()) (none))) (brK (d.2 - d.1 == tt) (some ()) (none)))) (brK (d.2 - d.1 == tt) (some ()) (none))) (none))) (none)))) (none)) (none)) (none) := by kernel_rfl

/-- What the tables say of a class. -/
def mirFacts (j m k : Nat) (h : Bool) : Prop :=
  let d := devT j h m (5 + k : Nat)
  let d1 := devT j (!h) m (5 + k : Nat)
  let tt := tolT j (5 + k : Nat)
  (d.1 = 0 - d1.2 ∧ d.2 = 0 - d1.1) ∧ (m = 5 → d.1 = 0 - d.2 ∧ d.2 = tt.tdiv 2) ∧ (m = 4 → (h = true → d.1 = 0) ∧ (h = false → d.2 = 0)) ∧ (m ≠ 5 → d.2 - d.1 = tt) ∧
    ((lets10.getD m 0).toNat = 106 ↔ m = 5) ∧ ((lets10.getD m 0).toNat = 104 ↔ m = 4)

instance (j m k : Nat) (h : Bool) : Decidable (mirFacts j m k h) := by unfold mirFacts; infer_instance

theorem mir_facts (j m k : Nat) (h : Bool) (hj : j < 8) (hm : m < 10) (hk : k < 8) : mirFacts j m k h := by
  have hh : ((List.range 8).all fun j => (List.range 10).all fun m => (List.range 8).all fun k => [false, true].all fun h => decide (mirFacts j m k h)) = true := by kernel_rfl
  exact of_decide_eq_true (List.all_eq_true.1 (List.all_eq_true.1 (List.all_eq_true.1 (List.all_eq_true.1 hh j (List.mem_range.2 hj)) m (List.mem_range.2 hm)) k (List.mem_range.2 hk)) h (by cases h <;> simp))

theorem mirIn (n l g : Int) (h : Bool) (h1 : 1 ≤ n ∧ n ≤ 100000) (h2 : 0 ≤ l ∧ l ≤ 9) (h3 : 5 ≤ g ∧ g ≤ 12) :
    (runK prog pSym (fun _ => noBP) 60).call 5 [.rng .i64 n 1 100000, .agg [.sbool h, .rng .i64 l 0 9, .rng .i64 g 5 12]] (Bg 9) goodK = some () := by
  rw [mirTree]
  obtain ⟨k, rfl, hk⟩ : ∃ k : Nat, g = ((5 + k : Nat) : Int) ∧ k < 8 := ⟨(g - 5).toNat, by omega, by omega⟩
  obtain ⟨m, rfl, hm⟩ : ∃ m : Nat, l = (m : Int) ∧ m < 10 := ⟨l.toNat, by omega, by omega⟩
  have hf := mir_facts (ixOf n) m k h (ix_lt n) hm hk
  unfold mirFacts at hf
  have V : decide ((1 ≤ n ∧ n ≤ 100000) ∧ (0 ≤ (m : Int) ∧ (m : Int) ≤ 9) ∧ 5 ≤ ((5 + k : Nat) : Int) ∧ ((5 + k : Nat) : Int) ≤ 12) = true := decide_eq_true ⟨h1, h2, h3⟩
  have T : decide ((1 ≤ n ∧ n ≤ 100000) ∧ 5 ≤ ((5 + k : Nat) : Int) ∧ ((5 + k : Nat) : Int) ≤ 12) = true := decide_eq_true ⟨h1, h3⟩
  have L : decide (0 ≤ (m : Int) ∧ (m : Int) < ((lets10.length : Nat) : Int)) = true := decide_eq_true ⟨by omega, by show (m : Int) < 10; omega⟩
  generalize devT (ixOf n) h m (5 + k : Nat) = d at hf ⊢
  generalize devT (ixOf n) (!h) m (5 + k : Nat) = d1 at hf ⊢
  generalize tolT (ixOf n) (5 + k : Nat) = tt at hf ⊢
  obtain ⟨⟨f1, f2⟩, f3, f4, f5, f6, f7⟩ := hf
  have c1 : (d.1 != 0 - d1.2) = false := by simp [f1]
  have c2 : (d.2 != 0 - d1.1) = false := by simp [f2]
  simp only [V, T, L, c1, c2, Int.toNat_natCast]
  by_cases hm5 : m = 5
  · have e1 : ((((lets10.getD m 0).toNat : Nat) : Int) == 106) = true := by
      have := f6.2 hm5
      rw [this]; rfl
    obtain ⟨g1, g2⟩ := f3 hm5
    have e2 : (d.1 == 0 - d.2) = true := by simpa using g1
    have e3 : (d.2 == tt.tdiv 2) = true := by simpa using g2
    rw [e1, e2, e3]; rfl
  · have e1 : ((((lets10.getD m 0).toNat : Nat) : Int) == 106) = false := by
      have : ¬ (lets10.getD m 0).toNat = 106 := fun h => hm5 (f6.1 h)
      simp only [beq_eq_false_iff_ne, ne_eq]; omega
    have e2 : (d.2 - d.1 == tt) = true := by simpa using f5 hm5
    rw [e1, e2]
    by_cases hm4 : m = 4
    · have e3 : ((((lets10.getD m 0).toNat : Nat) : Int) == 104) = true := by
        have := f7.2 hm4
        rw [this]; rfl
      rw [e3]
      cases h with
      | true =>
        have e4 : (d.1 != 0) = false := by simp [(f4 hm4).1 rfl]
        rw [e4]; rfl
      | false =>
        have e4 : (d.2 != 0) = false := by simp [(f4 hm4).2 rfl]
        rw [e4]; rfl
    · have e3 : ((((lets10.getD m 0).toNat : Nat) : Int) == 104) = false := by
        have : ¬ (lets10.getD m 0).toNat = 104 := fun h => hm4 (f7.1 h)
        simp only [beq_eq_false_iff_ne, ne_eq]; omega
      rw [e3]; rfl

theorem mir1 (n l g : Int) (h : Bool) : (runK prog pSym (fun _ => noBP) 60).call 5 [.rng .i64 n (-9223372036854775808) 0, .agg [.sbool h, .sint .i64 l, .sint .i64 g]] (Bg 9) goodK = some () := by kernel_rfl
theorem mir2 (n l g : Int) (h : Bool) : (runK prog pSym (fun _ => noBP) 60).call 5 [.rng .i64 n 100001 9223372036854775807, .agg [.sbool h, .sint .i64 l, .sint .i64 g]] (Bg 9) goodK = some () := by kernel_rfl
theorem mir3 (n l g : Int) (h : Bool) : (runK prog pSym (fun _ => noBP) 60).call 5 [.rng .i64 n 1 100000, .agg [.sbool h, .rng .i64 l (-9223372036854775808) (-1), .sint .i64 g]] (Bg 9) goodK = some () := by kernel_rfl
theorem mir4 (n l g : Int) (h : Bool) : (runK prog pSym (fun _ => noBP) 60).call 5 [.rng .i64 n 1 100000, .agg [.sbool h, .rng .i64 l 10 9223372036854775807, .sint .i64 g]] (Bg 9) goodK = some () := by kernel_rfl
theorem mir5 (n l g : Int) (h : Bool) : (runK prog pSym (fun _ => noBP) 60).call 5 [.rng .i64 n 1 100000, .agg [.sbool h, .rng .i64 l 0 9, .rng .i64 g (-9223372036854775808) 4]] (Bg 9) goodK = some () := by kernel_rfl
theorem mir6 (n l g : Int) (h : Bool) : (runK prog pSym (fun _ => noBP) 60).call 5 [.rng .i64 n 1 100000, .agg [.sbool h, .rng .i64 l 0 9, .rng .i64 g 13 9223372036854775807]] (Bg 9) goodK = some () := by kernel_rfl

/-- The law, for all arguments. -/
theorem mirrors (n l g : Int) (h : Bool) (W : World) (hG : prog.globals.size ≤ W.heap.size) (bn : -9223372036854775808 ≤ n ∧ n ≤ 9223372036854775807) (bl : -9223372036854775808 ≤ l ∧ l ≤ 9223372036854775807)
    (bg : -9223372036854775808 ≤ g ∧ g ≤ 9223372036854775807) :
    Calls prog 5 #[.int .i64 n, .agg #[.bool h, .int .i64 l, .int .i64 g]] W fun e W' => e = .returned (.bool true) ∧ RowKit.Below W.heap.size W W' := by
  have key : ∀ {a b c : AV}, (runK prog pSym (fun _ => noBP) 60).call 5 [a, .agg [.sbool h, b, c]] (Bg 9) goodK = some () → belowL 0 [a, .agg [.sbool h, b, c]] = true → VR (iotaG 9) a (.int .i64 n) → VR (iotaG 9) b (.int .i64 l) →
      VR (iotaG 9) c (.int .i64 g) → Calls prog 5 #[.int .i64 n, .agg #[.bool h, .int .i64 l, .int .i64 g]] W fun e W' => e = .returned (.bool true) ∧ RowKit.Below W.heap.size W W' := by
    intro a b c hk hbl ha hb hc
    refine law_of_K hmix hnum (pSym_ok (A := ambOf W) hG) hG noBps (n := 60) (args := [a, .agg [.sbool h, b, c]]) (by rw [gsz]; exact hk) hbl (iotaG 9) _ ?_
    simp only [VRL, VR]
    exact ⟨_, _, rfl, ha, _, _, rfl, ⟨_, rfl, _, _, rfl, rfl, _, _, rfl, hb, _, _, rfl, hc, rfl⟩, rfl⟩
  have r : ∀ (x lo hi : Int), lo ≤ x → x ≤ hi → VR (iotaG 9) (.rng .i64 x lo hi) (.int .i64 x) := fun x lo hi p q => by simp only [VR]; exact ⟨trivial, p, q⟩
  have s : ∀ (x : Int), VR (iotaG 9) (.sint .i64 x) (.int .i64 x) := fun x => by simp only [VR]
  by_cases c1 : n ≤ 0
  · exact key (mir1 n l g h) rfl (r _ _ _ (by omega) (by omega)) (s _) (s _)
  by_cases c2 : 100001 ≤ n
  · exact key (mir2 n l g h) rfl (r _ _ _ (by omega) (by omega)) (s _) (s _)
  by_cases c3 : l ≤ -1
  · exact key (mir3 n l g h) rfl (r _ _ _ (by omega) (by omega)) (r _ _ _ (by omega) (by omega)) (s _)
  by_cases c4 : 10 ≤ l
  · exact key (mir4 n l g h) rfl (r _ _ _ (by omega) (by omega)) (r _ _ _ (by omega) (by omega)) (s _)
  by_cases c5 : g ≤ 4
  · exact key (mir5 n l g h) rfl (r _ _ _ (by omega) (by omega)) (r _ _ _ (by omega) (by omega)) (r _ _ _ (by omega) (by omega))
  by_cases c6 : 13 ≤ g
  · exact key (mir6 n l g h) rfl (r _ _ _ (by omega) (by omega)) (r _ _ _ (by omega) (by omega)) (r _ _ _ (by omega) (by omega))
  · exact key (mirIn n l g h (by omega) (by omega) (by omega)) rfl (r _ _ _ (by omega) (by omega)) (r _ _ _ (by omega) (by omega)) (r _ _ _ (by omega) (by omega))
end Go.Proofs.Tryz
