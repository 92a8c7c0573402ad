/- The law GradesReturns, for all arguments. -/
import Derived.Test.YtnkdndjhgoahgaaGreatDoorReturns

namespace Go.Proofs.Tryz
open Go.Ad

def backF (h : Bool) (l g : Int) : Cl := (holeF (fmtF h l g), letF (fmtF h l g), gradF (fmtF h l g))
abbrev argsRet (n l g : Int) (h : Bool) : List AV := [.rng .i64 n 1 100000, .agg [.sbool h, .rng .i64 l 0 9, .rng .i64 g 5 12]]
theorem retTree (n l g : Int) (h : Bool) (L : List Cl) (k : Nat) : (runK prog (pRet (h, l, g) (backF h l g) (devT (ixOf n) h l g) L k) 60).call 8 (argsRet n l g h) (Bg 9) goodK =
    brK (inC l g) (brK (decide ((fmtF h l g).length ≤ 9223372036854775807)) (brK (okS (fmtF h l g)) (brK (okG (fmtF h l g))
      (brK (inCl n l g) (brK (inN n) (brK (propB (runA n (devT (ixOf n) h l g).1 (devT (ixOf n) h l g).2 = L ∧ L.isEmpty = false))
        (brK (eqC (backF h l g) (h, l, g))
          (brK (propB (rho50 L.length (.int .i64 0) = rho50 L.length (.int .i64 0) ∧ heapR (h, l, g) (backF h l g) (devT (ixOf n) h l g) L.length (fun i => L.getD i cl0) = heapR (h, l, g) (backF h l g) (devT (ixOf n) h l g) L.length (fun i => L.getD i cl0) ∧ L.length ≤ 160 ∧ k < L.length ∧ L.getD k cl0 = (h, l, g) ∧ ∀ j, j < k → L.getD j cl0 ≠ (h, l, g)))
            (some ()) none) none) none) none) none)
      (brK (inCl n l g) (brK (inN n) (brK (propB (runA n (devT (ixOf n) h l g).1 (devT (ixOf n) h l g).2 = L ∧ L.isEmpty = false)) none none) none) none))
      (brK (inCl n l g) (brK (inN n) (brK (propB (runA n (devT (ixOf n) h l g).1 (devT (ixOf n) h l g).2 = L ∧ L.isEmpty = false)) none none) none) none)) none) none := by kernel_rfl

theorem retE1 (n l g : Int) (h : Bool) : (runK prog known 60).call 8 [.rng .i64 n (-9223372036854775808) 0, .agg [.sbool h, .sint .i64 l, .sint .i64 g]] (Bg 9) goodK = some () := by kernel_rfl
theorem retE2 (n l g : Int) (h : Bool) : (runK prog known 60).call 8 [.rng .i64 n 100001 9223372036854775807, .agg [.sbool h, .sint .i64 l, .sint .i64 g]] (Bg 9) goodK = some () := by kernel_rfl
theorem retE3 (n l g : Int) (h : Bool) : (runK prog known 60).call 8 [.rng .i64 n 1 100000, .agg [.sbool h, .rng .i64 l (-9223372036854775808) (-1), .sint .i64 g]] (Bg 9) goodK = some () := by kernel_rfl
theorem retE4 (n l g : Int) (h : Bool) : (runK prog known 60).call 8 [.rng .i64 n 1 100000, .agg [.sbool h, .rng .i64 l 10 9223372036854775807, .sint .i64 g]] (Bg 9) goodK = some () := by kernel_rfl
theorem retE5 (n l g : Int) (h : Bool) : (runK prog known 60).call 8 [.rng .i64 n 1 100000, .agg [.sbool h, .rng .i64 l 0 9, .rng .i64 g (-9223372036854775808) 4]] (Bg 9) goodK = some () := by kernel_rfl
theorem retE6 (n l g : Int) (h : Bool) : (runK prog known 60).call 8 [.rng .i64 n 1 100000, .agg [.sbool h, .rng .i64 l 0 9, .rng .i64 g 13 9223372036854775807]] (Bg 9) goodK = some () := by kernel_rfl

/-- What the text of a class reads as, and where the class stands among all. -/
def retB (h : Bool) (m k : Nat) : Bool :=
  okS (fmtF h m (5 + k : Nat)) && (okG (fmtF h m (5 + k : Nat)) && (eqC (backF h m (5 + k : Nat)) (h, m, (5 + k : Nat)) && (decide ((fmtF h m (5 + k : Nat)).length ≤ 100) && eqC (clsAt ((bif h then 80 else 0) + 8 * m + k)) (h, m, (5 + k : Nat)))))
theorem retAll : ([false, true].all fun h => (List.range 10).all fun m => (List.range 8).all fun k => retB h m k) = true := by kernel_rfl

theorem runR_mono (n a b : Int) (x : Cl) : ∀ (i j : Nat), i ≤ j → x ∈ runR n a b i → x ∈ runR n a b j
  | i, 0, h, hx => by
    have : i = 0 := by omega
    subst this; exact hx
  | i, j + 1, h, hx => by
    by_cases e : i = j + 1
    · subst e; exact hx
    · have := runR_mono n a b x i j (by omega) hx
      simp only [runR, stepL]
      split
      · exact List.mem_append_left _ this
      · exact this

theorem mem_runA {n a b : Int} {i : Nat} (hi : i < 160) (hh : hit n a b (clsAt i) = true) : clsAt i ∈ runA n a b := by
  rw [← runAR]
  refine runR_mono n a b _ (i + 1) 160 (by omega) ?_
  simp [runR, stepL, hh]

theorem first_at {L : List Cl} {x : Cl} (hx : x ∈ L) : ∃ k, k < L.length ∧ L.getD k cl0 = x ∧ ∀ j, j < k → L.getD j cl0 ≠ x := by
  induction L with
  | nil => cases hx
  | cons y r ih =>
    by_cases e : y = x
    · exact ⟨0, by simp, by simpa using e, fun j hj => by omega⟩
    · have hr : x ∈ r := by
        rcases List.mem_cons.1 hx with h | h
        · exact (e h.symm).elim
        · exact h
      obtain ⟨k, h1, h2, h3⟩ := ih hr
      refine ⟨k + 1, by simpa using h1, by simpa using h2, fun j hj => ?_⟩
      cases j with
      | zero => simpa using e
      | succ j => simpa using h3 j (by omega)

/-- The law, for all arguments. -/
theorem gradesReturns (n l g : Int) (h : Bool) (W : World) (hG : prog.globals.size ≤ W.heap.size) (bn : -9223372036854775808 ≤ n ∧ n ≤ 9223372036854775807) (bl : -9223372036854775808 ≤ l ∧ l ≤ 9223372036854775807) (bg : -9223372036854775808 ≤ g ∧ g ≤ 9223372036854775807) :
    Calls prog 8 #[.int .i64 n, .agg #[.bool h, .int .i64 l, .int .i64 g]] W fun e W' => e = .returned (.bool true) ∧ RowKit.Below W.heap.size W W' := by
  have key : ∀ {prims : Prims}, PrimOK prog (ambOf W) prims → ∀ {x y z : AV}, (runK prog prims 60).call 8 [x, .agg [.sbool h, y, z]] (Bg 9) goodK = some () → belowL 0 [x, .agg [.sbool h, y, z]] = true →
      VR (iotaG 9) x (.int .i64 n) → VR (iotaG 9) y (.int .i64 l) → VR (iotaG 9) z (.int .i64 g) →
      Calls prog 8 #[.int .i64 n, .agg #[.bool h, .int .i64 l, .int .i64 g]] W fun e W' => e = .returned (.bool true) ∧ RowKit.Below W.heap.size W W' := by
    intro prims hp x y z hk hbl hx hy hz
    refine law_of_K hmix hnum hp hG (n := 60) (args := [x, .agg [.sbool h, y, z]]) (by rw [gsz]; exact hk) hbl (iotaG 9) _ ?_
    simp only [VRL, VR]
    exact ⟨_, _, rfl, hx, _, _, rfl, ⟨_, rfl, _, _, rfl, rfl, _, _, rfl, hy, _, _, rfl, hz, rfl⟩, rfl⟩
  have r : ∀ {x lo hi : Int}, lo ≤ x → x ≤ hi → VR (iotaG 9) (.rng .i64 x lo hi) (.int .i64 x) := fun p q => by simp only [VR]; exact ⟨trivial, p, q⟩
  have s : ∀ {x : Int}, VR (iotaG 9) (.sint .i64 x) (.int .i64 x) := by simp [VR]
  have hT : Tab (ambOf W) := trivial
  have hk := known_ok hT hG
  by_cases c1 : n ≤ 0
  · exact key hk (retE1 n l g h) rfl (r (by omega) (by omega)) s s
  by_cases c2 : 100001 ≤ n
  · exact key hk (retE2 n l g h) rfl (r (by omega) (by omega)) s s
  by_cases c3 : l ≤ -1
  · exact key hk (retE3 n l g h) rfl (r (by omega) (by omega)) (r (by omega) (by omega)) s
  by_cases c4 : 10 ≤ l
  · exact key hk (retE4 n l g h) rfl (r (by omega) (by omega)) (r (by omega) (by omega)) s
  by_cases c5 : g ≤ 4
  · exact key hk (retE5 n l g h) rfl (r (by omega) (by omega)) (r (by omega) (by omega)) (r (by omega) (by omega))
  by_cases c6 : 13 ≤ g
  · exact key hk (retE6 n l g h) rfl (r (by omega) (by omega)) (r (by omega) (by omega)) (r (by omega) (by omega))
  have e0 : inN n = true := decide_eq_true (by omega)
  have e1 : inC l g = true := by simp only [inC, Bool.and_eq_true, decide_eq_true_eq]; omega
  have e2 : inCl n l g = true := decide_eq_true (by omega)
  have hb : okS (fmtF h l g) = true ∧ okG (fmtF h l g) = true ∧ eqC (backF h l g) (h, l, g) = true ∧ (fmtF h l g).length ≤ 100 ∧ ∃ i, i < 160 ∧ clsAt i = (h, l, g) := by
    obtain ⟨k, rfl, hk⟩ : ∃ k : Nat, g = ((5 + k : Nat) : Int) ∧ k < 8 := ⟨(g - 5).toNat, by omega, by omega⟩
    obtain ⟨m, rfl, hm⟩ : ∃ m : Nat, l = (m : Int) ∧ m < 10 := ⟨l.toNat, by omega, by omega⟩
    have ha := List.all_eq_true.1 (List.all_eq_true.1 (List.all_eq_true.1 retAll h (by cases h <;> simp)) m (List.mem_range.2 hm)) k (List.mem_range.2 hk)
    simp only [retB, Bool.and_eq_true, decide_eq_true_eq] at ha
    exact ⟨ha.1, ha.2.1, ha.2.2.1, ha.2.2.2.1, _, by cases h <;> simp <;> omega, eqC_iff.1 ha.2.2.2.2⟩
  obtain ⟨b1, b2, b3, b4, i, hi, hci⟩ := hb
  have hmem : (h, l, g) ∈ runA n (devT (ixOf n) h l g).1 (devT (ixOf n) h l g).2 := by
    rw [← hci]
    exact mem_runA hi (by rw [hci]; simp [hit])
  obtain ⟨k, k1, k2, k3⟩ := first_at hmem
  have hlen := runA_lenR n (devT (ixOf n) h l g).1 (devT (ixOf n) h l g).2
  have hne : (runA n (devT (ixOf n) h l g).1 (devT (ixOf n) h l g).2).isEmpty = false := by
    cases he : runA n (devT (ixOf n) h l g).1 (devT (ixOf n) h l g).2 with
    | nil => rw [he] at hmem; cases hmem
    | cons _ _ => rfl
  refine key (pRet_ok hT hG (h, l, g) (backF h l g) (devT (ixOf n) h l g) _ k) ((retTree n l g h (runA n (devT (ixOf n) h l g).1 (devT (ixOf n) h l g).2) k).trans ?_) rfl (r (by omega) (by omega)) (r (by omega) (by omega)) (r (by omega) (by omega))
  rw [e0, e1, e2, b1, b2, b3, decide_eq_true (by omega : (fmtF h l g).length ≤ 9223372036854775807), propB_true ⟨rfl, hne⟩, propB_true ⟨rfl, rfl, hlen, k1, k2, k3⟩]
  simp [brK]
#print axioms gradesReturns
end Go.Proofs.Tryz
