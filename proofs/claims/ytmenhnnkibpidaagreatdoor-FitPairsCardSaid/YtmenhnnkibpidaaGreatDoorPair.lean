/- What a pair of a right fit gives, as a known function of the evaluator. -/
import Derived.Test.YtmenhnnkibpidaaGreatDoorChk
namespace Go.Proofs.Tryz
open Go.Ad

/-- Are both within their limits? -/
def inW (n m g m' g' x y : Int) : Bool :=
  decide (x ≥ n + (devT (ixOf n) true m g).1) && (decide (x ≤ n + (devT (ixOf n) true m g).2) && (decide (y ≥ n + (devT (ixOf n) false m' g').1) && decide (y ≤ n + (devT (ixOf n) false m' g').2)))

def sPair : List AV → Tr AV
  | [.agg [a, .bool true, c, d, .bool false, c', d'], e, f] => match snum a, snum c, snum d, snum c', snum d', snum e, snum f with
    | some (.i64, n), some (.i64, m), some (.i64, g), some (.i64, m'), some (.i64, g'), some (.i64, x), some (.i64, y) =>
      .br ((inV n m g && (inV n m' g' && okF n m g m' g')) && decide ((0 ≤ x ∧ x ≤ 100000) ∧ 0 ≤ y ∧ y ≤ 100000)) (.leaf (.tuple [.rng .i64 (x - y) (-100000) 100000, .sbool (inW n m g m' g' x y), .int .i64 0])) .fail
    | _, _, _, _, _, _, _ => .fail
  | _ => .fail

theorem pairRun (n m g m' g' x y : Int) : (runK prog (pLaw true true) 60).call 23 [.agg [.rng .i64 n 1 100000, .bool true, .rng .i64 m 0 9, .rng .i64 g 5 12, .bool false, .rng .i64 m' 0 9, .rng .i64 g' 5 12], .rng .i64 x 0 100000, .rng .i64 y 0 100000] (Bg 9) finV =
    brK (inV n m g && (inV n m' g' && okF n m g m' g'))
      (brK (decide (x ≥ n + (devT (ixOf n) true m g).1))
        (brK (decide (x ≤ n + (devT (ixOf n) true m g).2))
          (brK (decide (y ≥ n + (devT (ixOf n) false m' g').1))
            (some (.tuple [.rng .i64 (x - y) (-100000) 100000, .sbool (decide (y ≤ n + (devT (ixOf n) false m' g').2)), .int .i64 0]))
            (some (.tuple [.rng .i64 (x - y) (-100000) 100000, .bool false, .int .i64 0])))
          (some (.tuple [.rng .i64 (x - y) (-100000) 100000, .bool false, .int .i64 0])))
        (some (.tuple [.rng .i64 (x - y) (-100000) 100000, .bool false, .int .i64 0]))) none := by kernel_rfl

theorem sPair_sound (args : List AV) (v : AV) (hg : (sPair args).get = some v) :
    ∃ args' v' B', (∀ (ι : Emb) (xs : List Value), VRL ι args xs → VRL ι args' xs) ∧ (∀ (ι : Emb) (x : Value), VR ι v' x → VR ι v x) ∧ belowL 0 args' = true ∧ below 0 v' = true ∧
      Ca prog (pLaw true true) 23 args' (Bg prog.globals.size) (v', B', []) := by
  unfold sPair at hg
  split at hg
  · rename_i a c d c' d' e f
    split at hg
    · rename_i n m g m' g' x y h1 h2 h3 h4 h5 h6 h7
      obtain ⟨hc0, hv⟩ := Tr.br_get hg
      cases hv
      rw [Bool.and_eq_true] at hc0
      obtain ⟨hc, hxy⟩ := hc0
      obtain ⟨⟨hx1, hx2⟩, hy1, hy2⟩ := of_decide_eq_true hxy
      have hr := pairRun n m g m' g' x y
      rw [hc] at hr
      rw [Bool.and_eq_true, Bool.and_eq_true] at hc
      obtain ⟨i1, i2, _⟩ := hc
      obtain ⟨⟨hs1, hs2⟩, ⟨hl1, hl2⟩, hg1, hg2⟩ := of_decide_eq_true i1
      obtain ⟨_, ⟨hl3, hl4⟩, hg3, hg4⟩ := of_decide_eq_true i2
      have fin : ∀ (w : AV), (runK prog (pLaw true true) 60).call 23 [.agg [.rng .i64 n 1 100000, .bool true, .rng .i64 m 0 9, .rng .i64 g 5 12, .bool false, .rng .i64 m' 0 9, .rng .i64 g' 5 12], .rng .i64 x 0 100000, .rng .i64 y 0 100000] (Bg 9) finV = some w →
          (∀ (ι : Emb) (z : Value), VR ι w z → VR ι (.tuple [.rng .i64 (x - y) (-100000) 100000, .sbool (inW n m g m' g' x y), .int .i64 0]) z) → below 0 w = true →
          ∃ args' v' B', (∀ (ι : Emb) (xs : List Value), VRL ι [.agg [a, .bool true, c, d, .bool false, c', d'], e, f] xs → VRL ι args' xs) ∧
            (∀ (ι : Emb) (z : Value), VR ι v' z → VR ι (.tuple [.rng .i64 (x - y) (-100000) 100000, .sbool (inW n m g m' g' x y), .int .i64 0]) z) ∧ belowL 0 args' = true ∧ below 0 v' = true ∧
            Ca prog (pLaw true true) 23 args' (Bg prog.globals.size) (v', B', []) := by
        intro w hw hwv hbw
        obtain ⟨B', hca⟩ := Ca.of_finV hw
        refine ⟨_, w, B', fun ι xs hx => ?_, hwv, rfl, hbw, by rw [gsz]; exact hca⟩
        simp only [VRL, VR] at hx ⊢
        obtain ⟨x, l, q1, ⟨ys, q2, y1, l1, q3, q4, y2, l2, q5, q6, y3, l3, q7, q8, y4, l4, q9, q10, y5, l5, q11, q12, y6, l6, q13, q14, y7, l7, q15, q16, q17⟩, x8, l8, q18, q19, x9, l9, q20, q21, q22⟩ := hx
        exact ⟨x, l, q1, ⟨ys, q2, y1, l1, q3, ⟨snum_VR h1 q4, hs1, hs2⟩, y2, l2, q5, q6, y3, l3, q7, ⟨snum_VR h2 q8, hl1, hl2⟩, y4, l4, q9, ⟨snum_VR h3 q10, hg1, hg2⟩, y5, l5, q11, q12, y6, l6, q13, ⟨snum_VR h4 q14, hl3, hl4⟩, y7, l7, q15,
          ⟨snum_VR h5 q16, hg3, hg4⟩, q17⟩, x8, l8, q18, ⟨snum_VR h6 q19, hx1, hx2⟩, x9, l9, q20, ⟨snum_VR h7 q21, hy1, hy2⟩, q22⟩
      have no : inW n m g m' g' x y = false → ∀ (ι : Emb) (z : Value), VR ι (.tuple [.rng .i64 (x - y) (-100000) 100000, .bool false, .int .i64 0]) z → VR ι (.tuple [.rng .i64 (x - y) (-100000) 100000, .sbool (inW n m g m' g' x y), .int .i64 0]) z := fun e ι z hz => by
        rw [e]
        simp only [VR, VRL] at hz ⊢
        exact hz
      cases b1 : decide (x ≥ n + (devT (ixOf n) true m g).1) with
      | false => rw [b1] at hr; exact fin _ hr (no (by simp only [inW, b1, Bool.false_and])) rfl
      | true =>
      cases b2 : decide (x ≤ n + (devT (ixOf n) true m g).2) with
      | false => rw [b1, b2] at hr; exact fin _ hr (no (by simp only [inW, b1, b2, Bool.false_and, Bool.true_and])) rfl
      | true =>
      cases b3 : decide (y ≥ n + (devT (ixOf n) false m' g').1) with
      | false => rw [b1, b2, b3] at hr; exact fin _ hr (no (by simp only [inW, b1, b2, b3, Bool.false_and, Bool.true_and])) rfl
      | true =>
        rw [b1, b2, b3] at hr
        refine fin _ hr (fun ι z hz => ?_) rfl
        have e : inW n m g m' g' x y = decide (y ≤ n + (devT (ixOf n) false m' g').2) := by simp only [inW, b1, b2, b3, Bool.true_and]
        rw [e]; exact hz
    · cases hg
  · cases hg

def pAtt : Prims := (pLaw true true).addt 23 sPair

theorem pAtt_ok {A : Amb} (hT : Tab A) (hG : prog.globals.size ≤ A.G) : PrimOK prog A pAtt := PrimOK.addt hmix hnum (pLaw_ok hT hG true true) hG func23 (by kernel_rfl) sPair_sound
#print axioms pAtt_ok
end Go.Proofs.Tryz
