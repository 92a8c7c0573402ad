/- The law GradesReads, for all classes and texts. -/
import Derived.Test.YtnkdndjhgoahgaaGreatDoorFmt
import Derived.Test.YtnkdndjhgoahgaaGreatDoorAdPrim

namespace Go.Proofs.Tryz
open Go.Ad

theorem rdTree (s : List UInt8) (l g : Int) (h : Bool) : (runK prog pRd 60).call 3 [.agg [.sbool h, .rng .i64 l 0 9, .rng .i64 g 5 12], .lstr s 0 60] (Bg 9) goodK = brK (decide (s.length ≤ 9223372036854775807)) (brK (okS s) (brK (okG s) (brK (decide (s.length ≤ 9223372036854775807)) (brK (okS s) (brK (okG s) (brK (inC l g) (brK (inC l g) (brK (holeF s == holeF s && (letF s == letF s && (gradF s == gradF s && true))) (brK (fmtF h l g == fmtF h l g) (some ()) none) none) none) none) (brK (inC l g) (brK (inC l g) (brK (holeF s == false && (letF s == 0 && (false && true))) none none) none) none)) (brK (inC l g) (brK (inC l g) (brK (holeF s == false && (letF s == 0 && (false && true))) none none) none) none)) none) (brK (decide (s.length ≤ 9223372036854775807)) (brK (okS s) (brK (okG s) (brK (inC l g) (brK (inC l g) (brK (false == holeF s && (0 == letF s && (false && true))) none none) none) none) (brK (inC l g) (brK (inC l g) (brK (fmtF h l g == fmtF h l g) (some ()) none) none) none)) (brK (inC l g) (brK (inC l g) none none) none)) none)) (brK (decide (s.length ≤ 9223372036854775807)) (brK (okS s) (brK (okG s) (brK (inC l g) (brK (inC l g) (brK (false == holeF s && (0 == letF s && (false && true))) none none) none) none) (brK (inC l g) (brK (inC l g) none none) none)) (brK (inC l g) (brK (inC l g) (brK (fmtF h l g == fmtF h l g) (some ()) none) none) none)) none)) none := by kernel_rfl
theorem rdE1 (s : List UInt8) (l g : Int) (h : Bool) : (runK prog (prs3 known) 60).call 3 [.agg [.sbool h, .rng .i64 l (-9223372036854775808) (-1), .sint .i64 g], .lstr s 0 60] (Bg 9) goodK = brK (decide (s.length ≤ 9223372036854775807)) (brK (okS s) (brK (okG s) (brK (decide (s.length ≤ 9223372036854775807)) (brK (okS s) (brK (okG s) (brK (holeF s == holeF s && (letF s == letF s && (gradF s == gradF s && true))) (some ()) none) (brK (holeF s == false && (letF s == 0 && (false && true))) none none)) (brK (holeF s == false && (letF s == 0 && (false && true))) none none)) none) (brK (decide (s.length ≤ 9223372036854775807)) (brK (okS s) (brK (okG s) (brK (false == holeF s && (0 == letF s && (false && true))) none none) (some ())) none) none)) (brK (decide (s.length ≤ 9223372036854775807)) (brK (okS s) (brK (okG s) (brK (false == holeF s && (0 == letF s && (false && true))) none none) none) (some ())) none)) none := by kernel_rfl
theorem rdE2 (s : List UInt8) (l g : Int) (h : Bool) : (runK prog (prs3 known) 60).call 3 [.agg [.sbool h, .rng .i64 l 10 9223372036854775807, .sint .i64 g], .lstr s 0 60] (Bg 9) goodK = brK (decide (s.length ≤ 9223372036854775807)) (brK (okS s) (brK (okG s) (brK (decide (s.length ≤ 9223372036854775807)) (brK (okS s) (brK (okG s) (brK (holeF s == holeF s && (letF s == letF s && (gradF s == gradF s && true))) (some ()) none) (brK (holeF s == false && (letF s == 0 && (false && true))) none none)) (brK (holeF s == false && (letF s == 0 && (false && true))) none none)) none) (brK (decide (s.length ≤ 9223372036854775807)) (brK (okS s) (brK (okG s) (brK (false == holeF s && (0 == letF s && (false && true))) none none) (some ())) none) none)) (brK (decide (s.length ≤ 9223372036854775807)) (brK (okS s) (brK (okG s) (brK (false == holeF s && (0 == letF s && (false && true))) none none) none) (some ())) none)) none := by kernel_rfl
theorem rdE3 (s : List UInt8) (l g : Int) (h : Bool) : (runK prog (prs3 known) 60).call 3 [.agg [.sbool h, .rng .i64 l 0 9, .rng .i64 g (-9223372036854775808) 4], .lstr s 0 60] (Bg 9) goodK = brK (decide (s.length ≤ 9223372036854775807)) (brK (okS s) (brK (okG s) (brK (decide (s.length ≤ 9223372036854775807)) (brK (okS s) (brK (okG s) (brK (holeF s == holeF s && (letF s == letF s && (gradF s == gradF s && true))) (some ()) none) (brK (holeF s == false && (letF s == 0 && (false && true))) none none)) (brK (holeF s == false && (letF s == 0 && (false && true))) none none)) none) (brK (decide (s.length ≤ 9223372036854775807)) (brK (okS s) (brK (okG s) (brK (false == holeF s && (0 == letF s && (false && true))) none none) (some ())) none) none)) (brK (decide (s.length ≤ 9223372036854775807)) (brK (okS s) (brK (okG s) (brK (false == holeF s && (0 == letF s && (false && true))) none none) none) (some ())) none)) none := by kernel_rfl
theorem rdE4 (s : List UInt8) (l g : Int) (h : Bool) : (runK prog (prs3 known) 60).call 3 [.agg [.sbool h, .rng .i64 l 0 9, .rng .i64 g 13 9223372036854775807], .lstr s 0 60] (Bg 9) goodK = brK (decide (s.length ≤ 9223372036854775807)) (brK (okS s) (brK (okG s) (brK (decide (s.length ≤ 9223372036854775807)) (brK (okS s) (brK (okG s) (brK (holeF s == holeF s && (letF s == letF s && (gradF s == gradF s && true))) (some ()) none) (brK (holeF s == false && (letF s == 0 && (false && true))) none none)) (brK (holeF s == false && (letF s == 0 && (false && true))) none none)) none) (brK (decide (s.length ≤ 9223372036854775807)) (brK (okS s) (brK (okG s) (brK (false == holeF s && (0 == letF s && (false && true))) none none) (some ())) none) none)) (brK (decide (s.length ≤ 9223372036854775807)) (brK (okS s) (brK (okG s) (brK (false == holeF s && (0 == letF s && (false && true))) none none) none) (some ())) none)) none := by kernel_rfl
theorem rdLong (s : List UInt8) (l g : Int) (h : Bool) : (runK prog known 60).call 3 [.agg [.sbool h, .sint .i64 l, .sint .i64 g], .lstr s 61 9223372036854775807] (Bg 9) goodK = some () := by kernel_rfl

/-- The law, for all arguments. -/
theorem gradesReads (l g : Int) (h : Bool) (b : ByteArray) (W : World) (hG : prog.globals.size ≤ W.heap.size) (bl : -9223372036854775808 ≤ l ∧ l ≤ 9223372036854775807) (bg : -9223372036854775808 ≤ g ∧ g ≤ 9223372036854775807) (bb : b.size ≤ 9223372036854775807) :
    Calls prog 3 #[.agg #[.bool h, .int .i64 l, .int .i64 g], .string b] W fun e W' => e = .returned (.bool true) ∧ RowKit.Below W.heap.size W W' := by
  have key : ∀ {prims : Prims}, PrimOK prog (ambOf W) prims → ∀ {x y z s : AV}, (runK prog prims 60).call 3 [.agg [x, y, z], s] (Bg 9) goodK = some () → belowL 0 [.agg [x, y, z], s] = true →
      VR (iotaG 9) x (.bool h) → VR (iotaG 9) y (.int .i64 l) → VR (iotaG 9) z (.int .i64 g) → VR (iotaG 9) s (.string b) →
      Calls prog 3 #[.agg #[.bool h, .int .i64 l, .int .i64 g], .string b] W fun e W' => e = .returned (.bool true) ∧ RowKit.Below W.heap.size W W' := by
    intro prims hp x y z s hk hbl hx hy hz hs
    refine law_of_K hmix hnum hp hG (n := 60) (args := [.agg [x, y, z], s]) (by rw [gsz]; exact hk) hbl (iotaG 9) _ ?_
    simp only [VRL, VR]
    exact ⟨_, _, rfl, ⟨_, rfl, _, _, rfl, hx, _, _, rfl, hy, _, _, rfl, hz, rfl⟩, _, _, rfl, hs, rfl⟩
  have r : ∀ {x lo hi : Int}, lo ≤ x → x ≤ hi → VR (iotaG 9) (.rng .i64 x lo hi) (.int .i64 x) := fun p q => by simp only [VR]; exact ⟨trivial, p, q⟩
  have s : ∀ {x : Int}, VR (iotaG 9) (.sint .i64 x) (.int .i64 x) := by simp [VR]
  have sb : VR (iotaG 9) (.sbool h) (.bool h) := by simp [VR]
  have st : ∀ {lo hi : Nat}, lo ≤ b.data.toList.length → b.data.toList.length ≤ hi → VR (iotaG 9) (.lstr b.data.toList lo hi) (.string b) := fun p q => by simp only [VR]; exact ⟨⟨b, rfl, rfl⟩, p, q⟩
  have hT : Tab (ambOf W) := trivial
  have hlen : b.data.toList.length = b.size := by simp
  by_cases c0 : 61 ≤ b.size
  · exact key (known_ok hT hG) (rdLong b.data.toList l g h) rfl sb s s (st (by omega) (by omega))
  have e1 : decide (b.data.toList.length ≤ 9223372036854775807) = true := decide_eq_true (by omega)
  have fin : ∀ (t : List UInt8) {o : Option Unit}, decide (t.length ≤ 9223372036854775807) = true → o = (brK (decide (t.length ≤ 9223372036854775807)) (brK (okS t) (brK (okG t) (brK (decide (t.length ≤ 9223372036854775807)) (brK (okS t) (brK (okG t) (brK (holeF t == holeF t && (letF t == letF t && (gradF t == gradF t && true))) (some ()) none) (brK (holeF t == false && (letF t == 0 && (false && true))) none none)) (brK (holeF t == false && (letF t == 0 && (false && true))) none none)) none) (brK (decide (t.length ≤ 9223372036854775807)) (brK (okS t) (brK (okG t) (brK (false == holeF t && (0 == letF t && (false && true))) none none) (some ())) none) none)) (brK (decide (t.length ≤ 9223372036854775807)) (brK (okS t) (brK (okG t) (brK (false == holeF t && (0 == letF t && (false && true))) none none) none) (some ())) none)) none) → o = some () := by
    intro t o e1 ho
    rw [ho, e1]
    cases okS t <;> cases okG t <;> simp [brK]
  by_cases c1 : l ≤ -1
  · exact key (prs3_ok hT hG (known_ok hT hG)) (fin _ e1 (rdE1 b.data.toList l g h)) rfl sb (r (by omega) (by omega)) s (st (by omega) (by omega))
  by_cases c2 : 10 ≤ l
  · exact key (prs3_ok hT hG (known_ok hT hG)) (fin _ e1 (rdE2 b.data.toList l g h)) rfl sb (r (by omega) (by omega)) s (st (by omega) (by omega))
  by_cases c3 : g ≤ 4
  · exact key (prs3_ok hT hG (known_ok hT hG)) (fin _ e1 (rdE3 b.data.toList l g h)) rfl sb (r (by omega) (by omega)) (r (by omega) (by omega)) (st (by omega) (by omega))
  by_cases c4 : 13 ≤ g
  · exact key (prs3_ok hT hG (known_ok hT hG)) (fin _ e1 (rdE4 b.data.toList l g h)) rfl sb (r (by omega) (by omega)) (r (by omega) (by omega)) (st (by omega) (by omega))
  refine key (pRd_ok hT hG) ((rdTree b.data.toList l g h).trans ?_) rfl sb (r (by omega) (by omega)) (r (by omega) (by omega)) (st (by omega) (by omega))
  have e2 : inC l g = true := by simp only [inC, Bool.and_eq_true, decide_eq_true_eq]; omega
  rw [e1, e2]
  cases okS b.data.toList <;> cases okG b.data.toList <;> simp [brK]
#print axioms gradesReads
end Go.Proofs.Tryz
