/- FitAttains: both ends of the clearance are attained by pairs within their limits, all such pairs have a clearance within it, and others have a size that is not. -/
import Derived.Test.YtmenhnnkibpidaaGreatDoorPair
namespace Go.Proofs.Tryz
open Go.Ad

theorem brKt {b : Bool} {t f x : Option Unit} (h : b = true) (h' : t = x) : brK b t f = x := by rw [h]; exact h'
theorem brKf {b : Bool} {t f x : Option Unit} (h : b = false) (h' : f = x) : brK b t f = x := by rw [h]; exact h'

theorem dev_true (j : Nat) (l g : Int) : devT j true l g = (-(devT j false l g).2, -(devT j false l g).1) := rfl

/-- What a right fit says. -/
theorem okF_spec {n m g m' g' : Int} (hv : inV n m g = true) (hv' : inV n m' g' = true) (ho : okF n m g m' g' = true) :
    (1 ≤ n + (devT (ixOf n) true m g).1 ∧ n + (devT (ixOf n) true m g).2 ≤ 100000 ∧ (devT (ixOf n) true m g).1 ≤ (devT (ixOf n) true m g).2) ∧
    (1 ≤ n + (devT (ixOf n) false m' g').1 ∧ n + (devT (ixOf n) false m' g').2 ≤ 100000 ∧ (devT (ixOf n) false m' g').1 ≤ (devT (ixOf n) false m' g').2) := by
  have ord : ∀ (h : Bool) (m g : Int), inV n m g = true → (devT (ixOf n) h m g).1 ≤ (devT (ixOf n) h m g).2 := fun h m g hv => by
    obtain ⟨_, ⟨hl1, hl2⟩, hg1, hg2⟩ := of_decide_eq_true hv
    obtain ⟨k, rfl, hk'⟩ : ∃ k : Nat, g = ((5 + k : Nat) : Int) ∧ k < 8 := ⟨(g - 5).toNat, by omega, by omega⟩
    obtain ⟨m', rfl, hm'⟩ : ∃ m' : Nat, m = (m' : Int) ∧ m' < 10 := ⟨m.toNat, by omega, by omega⟩
    exact dev_ord _ m' k h (ix_lt n) hm' hk'
  rw [okF, Bool.and_eq_true] at ho
  obtain ⟨h1, h2⟩ := of_decide_eq_true ho.1
  obtain ⟨h3, h4⟩ := of_decide_eq_true ho.2
  exact ⟨⟨h1, h2, ord _ _ _ hv⟩, h3, h4, ord _ _ _ hv'⟩

theorem fitAttainsE1 (n hl hg sl sg u v : Int) (hh sh : Bool) : (runK prog pLim 60).call 6 [.agg [.rng .i64 n (-9223372036854775808) 0, .sbool hh, .sint .i64 hl, .sint .i64 hg, .sbool sh, .sint .i64 sl, .sint .i64 sg], .sint .u8 u, .sint .u8 v] (Bg 9) goodK = some () := by kernel_rfl
theorem fitAttainsE2 (n hl hg sl sg u v : Int) (hh sh : Bool) : (runK prog pLim 60).call 6 [.agg [.rng .i64 n 100001 9223372036854775807, .sbool hh, .sint .i64 hl, .sint .i64 hg, .sbool sh, .sint .i64 sl, .sint .i64 sg], .sint .u8 u, .sint .u8 v] (Bg 9) goodK = some () := by kernel_rfl
theorem fitAttainsE3 (n hl hg sl sg u v : Int) (hh sh : Bool) : (runK prog pLim 60).call 6 [.agg [.rng .i64 n 1 100000, .sbool hh, .rng .i64 hl (-9223372036854775808) (-1), .sint .i64 hg, .sbool sh, .sint .i64 sl, .sint .i64 sg], .sint .u8 u, .sint .u8 v] (Bg 9) goodK = some () := by kernel_rfl
theorem fitAttainsE4 (n hl hg sl sg u v : Int) (hh sh : Bool) : (runK prog pLim 60).call 6 [.agg [.rng .i64 n 1 100000, .sbool hh, .rng .i64 hl 10 9223372036854775807, .sint .i64 hg, .sbool sh, .sint .i64 sl, .sint .i64 sg], .sint .u8 u, .sint .u8 v] (Bg 9) goodK = some () := by kernel_rfl
theorem fitAttainsE5 (n hl hg sl sg u v : Int) (hh sh : Bool) : (runK prog pLim 60).call 6 [.agg [.rng .i64 n 1 100000, .sbool hh, .rng .i64 hl 0 9, .rng .i64 hg (-9223372036854775808) 4, .sbool sh, .sint .i64 sl, .sint .i64 sg], .sint .u8 u, .sint .u8 v] (Bg 9) goodK = some () := by kernel_rfl
theorem fitAttainsE6 (n hl hg sl sg u v : Int) (hh sh : Bool) : (runK prog pLim 60).call 6 [.agg [.rng .i64 n 1 100000, .sbool hh, .rng .i64 hl 0 9, .rng .i64 hg 13 9223372036854775807, .sbool sh, .sint .i64 sl, .sint .i64 sg], .sint .u8 u, .sint .u8 v] (Bg 9) goodK = some () := by kernel_rfl
theorem fitAttainsE7 (n hl hg sl sg u v : Int) (hh sh : Bool) : (runK prog pLim 60).call 6 [.agg [.rng .i64 n 1 100000, .sbool hh, .rng .i64 hl 0 9, .rng .i64 hg 5 12, .sbool sh, .rng .i64 sl (-9223372036854775808) (-1), .sint .i64 sg], .sint .u8 u, .sint .u8 v] (Bg 9) goodK = some () := by kernel_rfl
theorem fitAttainsE8 (n hl hg sl sg u v : Int) (hh sh : Bool) : (runK prog pLim 60).call 6 [.agg [.rng .i64 n 1 100000, .sbool hh, .rng .i64 hl 0 9, .rng .i64 hg 5 12, .sbool sh, .rng .i64 sl 10 9223372036854775807, .sint .i64 sg], .sint .u8 u, .sint .u8 v] (Bg 9) goodK = some () := by kernel_rfl
theorem fitAttainsE9 (n hl hg sl sg u v : Int) (hh sh : Bool) : (runK prog pLim 60).call 6 [.agg [.rng .i64 n 1 100000, .sbool hh, .rng .i64 hl 0 9, .rng .i64 hg 5 12, .sbool sh, .rng .i64 sl 0 9, .rng .i64 sg (-9223372036854775808) 4], .sint .u8 u, .sint .u8 v] (Bg 9) goodK = some () := by kernel_rfl
theorem fitAttainsE10 (n hl hg sl sg u v : Int) (hh sh : Bool) : (runK prog pLim 60).call 6 [.agg [.rng .i64 n 1 100000, .sbool hh, .rng .i64 hl 0 9, .rng .i64 hg 5 12, .sbool sh, .rng .i64 sl 0 9, .rng .i64 sg 13 9223372036854775807], .sint .u8 u, .sint .u8 v] (Bg 9) goodK = some () := by kernel_rfl
theorem fitAttainsE11 (n hl hg sl sg u v : Int) (_hh sh : Bool) : (runK prog pLim 60).call 6 [.agg [.rng .i64 n 1 100000, .bool false, .rng .i64 hl 0 9, .rng .i64 hg 5 12, .sbool sh, .rng .i64 sl 0 9, .rng .i64 sg 5 12], .sint .u8 u, .sint .u8 v] (Bg 9) goodK = some () := by kernel_rfl
theorem fitAttainsE12 (n hl hg sl sg u v : Int) (_hh _sh : Bool) : (runK prog pLim 60).call 6 [.agg [.rng .i64 n 1 100000, .bool true, .rng .i64 hl 0 9, .rng .i64 hg 5 12, .bool true, .rng .i64 sl 0 9, .rng .i64 sg 5 12], .sint .u8 u, .sint .u8 v] (Bg 9) goodK = some () := by kernel_rfl

theorem fitAttainsF (n m g m' g' a b : Int) : (runK prog (pLaw false false) 60).call 6 [.agg [.rng .i64 n 1 100000, .bool true, .rng .i64 m 0 9, .rng .i64 g 5 12, .bool false, .rng .i64 m' 0 9, .rng .i64 g' 5 12], .sint .u8 a, .sint .u8 b] (Bg 9) goodK = brK (inV n m g && (inV n m' g' && !okF n m g m' g')) (some ()) (none) := by kernel_rfl
theorem fitAttainsT (n m g m' g' a b : Int) : (runK prog pAtt 60).call 6 [.agg [.rng .i64 n 1 100000, .bool true, .rng .i64 m 0 9, .rng .i64 g 5 12, .bool false, .rng .i64 m' 0 9, .rng .i64 g' 5 12], .rng .u8 a 0 255, .rng .u8 b 0 255] (Bg 9) goodK = brK (inV n m g && (inV n m' g' && okF n m g m' g')) (brK (inV n m g && (inV n m' g' && okF n m g m' g')) (brK (inV n m g && (inV n m' g' && okF n m g m' g')) (brK (decide (n + (devT (ixOf n) true m g).1 > n + (devT (ixOf n) true m g).2)) (none) (brK (decide (n + (devT (ixOf n) false m' g').1 > n + (devT (ixOf n) false m' g').2)) (none) (brK (decide ¬n + (devT (ixOf n) true m g).2 - (n + (devT (ixOf n) true m g).1) + 1 = 0) (brK (decide ¬n + (devT (ixOf n) false m' g').2 - (n + (devT (ixOf n) false m' g').1) + 1 = 0) (brK (inV n m g && (inV n m' g' && okF n m g m' g') && decide ((0 ≤ n + (devT (ixOf n) true m g).1 ∧ n + (devT (ixOf n) true m g).1 ≤ 100000) ∧ 0 ≤ n + (devT (ixOf n) false m' g').2 ∧ n + (devT (ixOf n) false m' g').2 ≤ 100000)) (brK (inV n m g && (inV n m' g' && okF n m g m' g') && decide ((0 ≤ n + (devT (ixOf n) true m g).2 ∧ n + (devT (ixOf n) true m g).2 ≤ 100000) ∧ 0 ≤ n + (devT (ixOf n) false m' g').1 ∧ n + (devT (ixOf n) false m' g').1 ≤ 100000)) (brK (inV n m g && (inV n m' g' && okF n m g m' g') && decide ((0 ≤ IntKind.i64.wrap (n + (devT (ixOf n) true m g).1 + a.tmod (n + (devT (ixOf n) true m g).2 - (n + (devT (ixOf n) true m g).1) + 1)) ∧ IntKind.i64.wrap (n + (devT (ixOf n) true m g).1 + a.tmod (n + (devT (ixOf n) true m g).2 - (n + (devT (ixOf n) true m g).1) + 1)) ≤ 100000) ∧ 0 ≤ IntKind.i64.wrap (n + (devT (ixOf n) false m' g').1 + b.tmod (n + (devT (ixOf n) false m' g').2 - (n + (devT (ixOf n) false m' g').1) + 1)) ∧ IntKind.i64.wrap (n + (devT (ixOf n) false m' g').1 + b.tmod (n + (devT (ixOf n) false m' g').2 - (n + (devT (ixOf n) false m' g').1) + 1)) ≤ 100000)) (brK (!inW n m g m' g' (n + (devT (ixOf n) true m g).1) (n + (devT (ixOf n) false m' g').2)) (none) (brK (!inW n m g m' g' (n + (devT (ixOf n) true m g).2) (n + (devT (ixOf n) false m' g').1)) (none) (brK (!inW n m g m' g' (IntKind.i64.wrap (n + (devT (ixOf n) true m g).1 + a.tmod (n + (devT (ixOf n) true m g).2 - (n + (devT (ixOf n) true m g).1) + 1))) (IntKind.i64.wrap (n + (devT (ixOf n) false m' g').1 + b.tmod (n + (devT (ixOf n) false m' g').2 - (n + (devT (ixOf n) false m' g').1) + 1)))) (none) (brK (n + (devT (ixOf n) true m g).1 - (n + (devT (ixOf n) false m' g').2) != n + (devT (ixOf n) true m g).1 - (n + (devT (ixOf n) false m' g').2)) (none) (brK (n + (devT (ixOf n) true m g).2 - (n + (devT (ixOf n) false m' g').1) != n + (devT (ixOf n) true m g).2 - (n + (devT (ixOf n) false m' g').1)) (none) (brK (decide (IntKind.i64.wrap (n + (devT (ixOf n) true m g).1 + a.tmod (n + (devT (ixOf n) true m g).2 - (n + (devT (ixOf n) true m g).1) + 1)) - IntKind.i64.wrap (n + (devT (ixOf n) false m' g').1 + b.tmod (n + (devT (ixOf n) false m' g').2 - (n + (devT (ixOf n) false m' g').1) + 1)) < n + (devT (ixOf n) true m g).1 - (n + (devT (ixOf n) false m' g').2))) (none) (brK (decide (IntKind.i64.wrap (n + (devT (ixOf n) true m g).1 + a.tmod (n + (devT (ixOf n) true m g).2 - (n + (devT (ixOf n) true m g).1) + 1)) - IntKind.i64.wrap (n + (devT (ixOf n) false m' g').1 + b.tmod (n + (devT (ixOf n) false m' g').2 - (n + (devT (ixOf n) false m' g').1) + 1)) > n + (devT (ixOf n) true m g).2 - (n + (devT (ixOf n) false m' g').1))) (none) (brK (decide (n + (devT (ixOf n) true m g).2 < 100000)) (brK (inV n m g && (inV n m' g' && okF n m g m' g') && decide ((0 ≤ n + (devT (ixOf n) true m g).2 + 1 ∧ n + (devT (ixOf n) true m g).2 + 1 ≤ 100000) ∧ 0 ≤ IntKind.i64.wrap (n + (devT (ixOf n) false m' g').1 + b.tmod (n + (devT (ixOf n) false m' g').2 - (n + (devT (ixOf n) false m' g').1) + 1)) ∧ IntKind.i64.wrap (n + (devT (ixOf n) false m' g').1 + b.tmod (n + (devT (ixOf n) false m' g').2 - (n + (devT (ixOf n) false m' g').1) + 1)) ≤ 100000)) (brK (inW n m g m' g' (n + (devT (ixOf n) true m g).2 + 1) (IntKind.i64.wrap (n + (devT (ixOf n) false m' g').1 + b.tmod (n + (devT (ixOf n) false m' g').2 - (n + (devT (ixOf n) false m' g').1) + 1)))) (none) (brK (inV n m g && (inV n m' g' && okF n m g m' g') && decide ((0 ≤ IntKind.i64.wrap (n + (devT (ixOf n) true m g).1 + a.tmod (n + (devT (ixOf n) true m g).2 - (n + (devT (ixOf n) true m g).1) + 1)) ∧ IntKind.i64.wrap (n + (devT (ixOf n) true m g).1 + a.tmod (n + (devT (ixOf n) true m g).2 - (n + (devT (ixOf n) true m g).1) + 1)) ≤ 100000) ∧ 0 ≤ n + (devT (ixOf n) false m' g').1 - 1 ∧ n + (devT (ixOf n) false m' g').1 - 1 ≤ 100000)) (brK (!inW n m g m' g' (IntKind.i64.wrap (n + (devT (ixOf n) true m g).1 + a.tmod (n + (devT (ixOf n) true m g).2 - (n + (devT (ixOf n) true m g).1) + 1))) (n + (devT (ixOf n) false m' g').1 - 1)) (some ()) (none)) (none))) (none)) (brK (inV n m g && (inV n m' g' && okF n m g m' g') && decide ((0 ≤ IntKind.i64.wrap (n + (devT (ixOf n) true m g).1 + a.tmod (n + (devT (ixOf n) true m g).2 - (n + (devT (ixOf n) true m g).1) + 1)) ∧ IntKind.i64.wrap (n + (devT (ixOf n) true m g).1 + a.tmod (n + (devT (ixOf n) true m g).2 - (n + (devT (ixOf n) true m g).1) + 1)) ≤ 100000) ∧ 0 ≤ n + (devT (ixOf n) false m' g').1 - 1 ∧ n + (devT (ixOf n) false m' g').1 - 1 ≤ 100000)) (brK (!inW n m g m' g' (IntKind.i64.wrap (n + (devT (ixOf n) true m g).1 + a.tmod (n + (devT (ixOf n) true m g).2 - (n + (devT (ixOf n) true m g).1) + 1))) (n + (devT (ixOf n) false m' g').1 - 1)) (some ()) (none)) (none)))))))))) (none)) (none)) (none)) (none)) (none)))) (none)) (none)) (none) := by kernel_rfl

theorem fitAttains_f (n m g m' g' a b : Int) (hv : inV n m g = true) (hv' : inV n m' g' = true) (ho : okF n m g m' g' = false) : (runK prog (pLaw false false) 60).call 6 [.agg [.rng .i64 n 1 100000, .bool true, .rng .i64 m 0 9, .rng .i64 g 5 12, .bool false, .rng .i64 m' 0 9, .rng .i64 g' 5 12], .sint .u8 a, .sint .u8 b] (Bg 9) goodK = some () := by
  rw [fitAttainsF, hv, hv', ho]; rfl
theorem fitAttains_t (n m g m' g' a b : Int) (hv : inV n m g = true) (hv' : inV n m' g' = true) (ho : okF n m g m' g' = true) (ha : 0 ≤ a ∧ a ≤ 255) (hb : 0 ≤ b ∧ b ≤ 255) : (runK prog pAtt 60).call 6 [.agg [.rng .i64 n 1 100000, .bool true, .rng .i64 m 0 9, .rng .i64 g 5 12, .bool false, .rng .i64 m' 0 9, .rng .i64 g' 5 12], .rng .u8 a 0 255, .rng .u8 b 0 255] (Bg 9) goodK = some () := by
  rw [fitAttainsT]
  obtain ⟨⟨f1, f2, f3⟩, f4, f5, f6⟩ := okF_spec hv hv' ho
  simp only [hv, hv', ho, Bool.and_self, Bool.true_and]
  simp only [inW]
  obtain ⟨A, hA⟩ : ∃ A, A = n + (devT (ixOf n) true m g).1 := ⟨_, rfl⟩
  obtain ⟨A', hA'⟩ : ∃ A, A = n + (devT (ixOf n) true m g).2 := ⟨_, rfl⟩
  obtain ⟨C, hC⟩ : ∃ A, A = n + (devT (ixOf n) false m' g').1 := ⟨_, rfl⟩
  obtain ⟨C', hC'⟩ : ∃ A, A = n + (devT (ixOf n) false m' g').2 := ⟨_, rfl⟩
  have f3' : A ≤ A' := by omega
  have f6' : C ≤ C' := by omega
  rw [← hA] at f1; rw [← hA'] at f2; rw [← hC] at f4; rw [← hC'] at f5
  simp only [← hA, ← hA', ← hC, ← hC']
  have tm : ∀ (x lo hi : Int), 0 ≤ x → 1 ≤ lo → lo ≤ hi → hi ≤ 100000 → lo ≤ IntKind.i64.wrap (lo + x.tmod (hi - lo + 1)) ∧ IntKind.i64.wrap (lo + x.tmod (hi - lo + 1)) ≤ hi := by
    intro x lo hi h0 h1 h2 h3
    have e : x.tmod (hi - lo + 1) = x % (hi - lo + 1) := Int.tmod_eq_emod_of_nonneg h0
    have e1 := Int.emod_nonneg x (by omega : hi - lo + 1 ≠ 0)
    have e2 := Int.emod_lt_of_pos x (by omega : 0 < hi - lo + 1)
    have e3 : IntKind.i64.wrap (lo + x % (hi - lo + 1)) = lo + x % (hi - lo + 1) := by
      have : -9223372036854775808 ≤ lo + x % (hi - lo + 1) ∧ lo + x % (hi - lo + 1) ≤ 9223372036854775807 := by omega
      exact IntWalk.i64_in _ (by omega)
    rw [e, e3]; omega
  obtain ⟨q1, q2⟩ := tm a A A' ha.1 f1 f3' f2
  obtain ⟨q3, q4⟩ := tm b C C' hb.1 f4 f6' f5
  generalize IntKind.i64.wrap (A + a.tmod (A' - A + 1)) = M at q1 q2 ⊢
  generalize IntKind.i64.wrap (C + b.tmod (C' - C + 1)) = N at q3 q4 ⊢
  clear hA hA' hC hC' tm ho
  have last : brK (decide ((0 ≤ M ∧ M ≤ 100000) ∧ 0 ≤ C - 1 ∧ C - 1 ≤ 100000)) (brK (!(decide (M ≥ A) && (decide (M ≤ A') && (decide (C - 1 ≥ C) && decide (C - 1 ≤ C'))))) (some ()) none) none = some () :=
    brKt (decide_eq_true (by omega)) (brKt (by rw [decide_eq_false (by omega : ¬ C - 1 ≥ C)]; simp) rfl)
  refine brKt rfl (brKt rfl (brKt rfl (brKf (decide_eq_false (by omega)) (brKf (decide_eq_false (by omega)) (brKt (decide_eq_true (by omega)) (brKt (decide_eq_true (by omega)) (brKt (decide_eq_true (by omega)) (brKt (decide_eq_true (by omega)) (brKt (decide_eq_true (by omega)) (brKf (by simp only [Bool.not_eq_false', Bool.and_eq_true, decide_eq_true_eq]; omega) (brKf (by simp only [Bool.not_eq_false', Bool.and_eq_true, decide_eq_true_eq]; omega) (brKf (by simp only [Bool.not_eq_false', Bool.and_eq_true, decide_eq_true_eq]; omega) (brKf (by simp) (brKf (by simp) (brKf (decide_eq_false (by omega)) (brKf (decide_eq_false (by omega)) ?_))))))))))))))))
  by_cases hx : A' < 100000
  · exact brKt (decide_eq_true hx) (brKt (decide_eq_true (by omega)) (brKf (by rw [decide_eq_false (by omega : ¬ A' + 1 ≤ A')]; simp) last))
  · exact brKf (decide_eq_false hx) last

/-- The law, for all arguments. -/
theorem fitAttains (n hl hg sl sg u v : Int) (hh sh : Bool) (W : World) (hG : prog.globals.size ≤ W.heap.size) (hT : Tab (ambOf W)) (bn : -9223372036854775808 ≤ n ∧ n ≤ 9223372036854775807) (bhl : -9223372036854775808 ≤ hl ∧ hl ≤ 9223372036854775807) (bhg : -9223372036854775808 ≤ hg ∧ hg ≤ 9223372036854775807) (bsl : -9223372036854775808 ≤ sl ∧ sl ≤ 9223372036854775807) (bsg : -9223372036854775808 ≤ sg ∧ sg ≤ 9223372036854775807) (bu : 0 ≤ u ∧ u ≤ 255) (bv : 0 ≤ v ∧ v ≤ 255) :
    Calls prog 6 #[.agg #[.int .i64 n, .bool hh, .int .i64 hl, .int .i64 hg, .bool sh, .int .i64 sl, .int .i64 sg], .int .u8 u, .int .u8 v] W fun e W' => e = .returned (.bool true) ∧ RowKit.Below W.heap.size W W' := by
  have key : ∀ {prims : Prims}, PrimOK prog (ambOf W) prims → ∀ {a b c d e f g : AV} {xs : List AV}, (runK prog prims 60).call 6 (.agg [a, b, c, d, e, f, g] :: xs) (Bg 9) goodK = some () → belowL 0 (.agg [a, b, c, d, e, f, g] :: xs) = true →
      VR (iotaG 9) a (.int .i64 n) → VR (iotaG 9) b (.bool hh) → VR (iotaG 9) c (.int .i64 hl) → VR (iotaG 9) d (.int .i64 hg) → VR (iotaG 9) e (.bool sh) → VR (iotaG 9) f (.int .i64 sl) → VR (iotaG 9) g (.int .i64 sg) →
      VRL (iotaG 9) xs [.int .u8 u, .int .u8 v] →
      Calls prog 6 #[.agg #[.int .i64 n, .bool hh, .int .i64 hl, .int .i64 hg, .bool sh, .int .i64 sl, .int .i64 sg], .int .u8 u, .int .u8 v] W fun e W' => e = .returned (.bool true) ∧ RowKit.Below W.heap.size W W' := by
    intro prims hp a b c d e f g xs hk hbl ha hb hc hd he hf hg hxs
    refine law_of_K hmix hnum hp hG (n := 60) (args := .agg [a, b, c, d, e, f, g] :: xs) (by rw [gsz]; exact hk) hbl (iotaG 9) _ ?_
    simp only [VRL, VR]
    exact ⟨_, _, rfl, ⟨_, rfl, _, _, rfl, ha, _, _, rfl, hb, _, _, rfl, hc, _, _, rfl, hd, _, _, rfl, he, _, _, rfl, hf, _, _, rfl, hg, rfl⟩, hxs⟩
  have r : ∀ {x lo hi : Int}, lo ≤ x → x ≤ hi → VR (iotaG 9) (.rng .i64 x lo hi) (.int .i64 x) := fun p q => by simp only [VR]; exact ⟨trivial, p, q⟩
  have s : ∀ {k : IntKind} {x : Int}, VR (iotaG 9) (.sint k x) (.int k x) := by simp [VR]
  have sb : ∀ {x : Bool}, VR (iotaG 9) (.sbool x) (.bool x) := by simp [VR]
  have cb : ∀ {x : Bool}, VR (iotaG 9) (.bool x) (.bool x) := by simp [VR]
  have xs0 : VRL (iotaG 9) [.sint .u8 u, .sint .u8 v] [.int .u8 u, .int .u8 v] := by simp [VRL, VR]
  have hp := pLim_ok hT hG
  by_cases c1 : n ≤ 0
  · exact key hp (fitAttainsE1 n hl hg sl sg u v hh sh) rfl (r (by omega) (by omega)) sb s s sb s s xs0
  by_cases c2 : 100001 ≤ n
  · exact key hp (fitAttainsE2 n hl hg sl sg u v hh sh) rfl (r (by omega) (by omega)) sb s s sb s s xs0
  by_cases c3 : hl ≤ -1
  · exact key hp (fitAttainsE3 n hl hg sl sg u v hh sh) rfl (r (by omega) (by omega)) sb (r (by omega) (by omega)) s sb s s xs0
  by_cases c4 : 10 ≤ hl
  · exact key hp (fitAttainsE4 n hl hg sl sg u v hh sh) rfl (r (by omega) (by omega)) sb (r (by omega) (by omega)) s sb s s xs0
  by_cases c5 : hg ≤ 4
  · exact key hp (fitAttainsE5 n hl hg sl sg u v hh sh) rfl (r (by omega) (by omega)) sb (r (by omega) (by omega)) (r (by omega) (by omega)) sb s s xs0
  by_cases c6 : 13 ≤ hg
  · exact key hp (fitAttainsE6 n hl hg sl sg u v hh sh) rfl (r (by omega) (by omega)) sb (r (by omega) (by omega)) (r (by omega) (by omega)) sb s s xs0
  by_cases c7 : sl ≤ -1
  · exact key hp (fitAttainsE7 n hl hg sl sg u v hh sh) rfl (r (by omega) (by omega)) sb (r (by omega) (by omega)) (r (by omega) (by omega)) sb (r (by omega) (by omega)) s xs0
  by_cases c8 : 10 ≤ sl
  · exact key hp (fitAttainsE8 n hl hg sl sg u v hh sh) rfl (r (by omega) (by omega)) sb (r (by omega) (by omega)) (r (by omega) (by omega)) sb (r (by omega) (by omega)) s xs0
  by_cases c9 : sg ≤ 4
  · exact key hp (fitAttainsE9 n hl hg sl sg u v hh sh) rfl (r (by omega) (by omega)) sb (r (by omega) (by omega)) (r (by omega) (by omega)) sb (r (by omega) (by omega)) (r (by omega) (by omega)) xs0
  by_cases c10 : 13 ≤ sg
  · exact key hp (fitAttainsE10 n hl hg sl sg u v hh sh) rfl (r (by omega) (by omega)) sb (r (by omega) (by omega)) (r (by omega) (by omega)) sb (r (by omega) (by omega)) (r (by omega) (by omega)) xs0
  cases hh with
  | false => exact key hp (fitAttainsE11 n hl hg sl sg u v false sh) rfl (r (by omega) (by omega)) cb (r (by omega) (by omega)) (r (by omega) (by omega)) sb (r (by omega) (by omega)) (r (by omega) (by omega)) xs0
  | true =>
  cases sh with
  | true => exact key hp (fitAttainsE12 n hl hg sl sg u v true true) rfl (r (by omega) (by omega)) cb (r (by omega) (by omega)) (r (by omega) (by omega)) cb (r (by omega) (by omega)) (r (by omega) (by omega)) xs0
  | false =>
  have hv : inV n hl hg = true := decide_eq_true (by omega)
  have hv' : inV n sl sg = true := decide_eq_true (by omega)
  have x1 : VRL (iotaG 9) [.rng .u8 u 0 255, .rng .u8 v 0 255] [.int .u8 u, .int .u8 v] := by simp [VRL, VR, bu, bv]
  cases ho : okF n hl hg sl sg with
  | false => exact key (pLaw_ok hT hG false false) (fitAttains_f n hl hg sl sg u v hv hv' ho) rfl (r (by omega) (by omega)) cb (r (by omega) (by omega)) (r (by omega) (by omega)) cb (r (by omega) (by omega)) (r (by omega) (by omega)) xs0
  | true => exact key (pAtt_ok hT hG) (fitAttains_t n hl hg sl sg u v hv hv' ho bu bv) rfl (r (by omega) (by omega)) cb (r (by omega) (by omega)) (r (by omega) (by omega)) cb (r (by omega) (by omega)) (r (by omega) (by omega)) x1
#print axioms fitAttains
end Go.Proofs.Tryz
