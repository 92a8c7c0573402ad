/- The check of a fit, of both sides, as known functions of the evaluator. -/
import Derived.Test.YthpoofohoancnaaLim

namespace Go.Proofs.Try
open Go.Ad

/-- Are both limits of a fit within range? -/
def okF (n m g m' g' : Int) : Bool := okL n true m g && okL n false m' g'

def chkV (n m g m' g' : Int) : AV :=
  .tuple [.agg [.rng .i64 n 1 100000, .bool true, .rng .i64 m 0 9, .rng .i64 g 5 12, .bool false, .rng .i64 m' 0 9, .rng .i64 g' 5 12,
    .rng .i64 (n + (devT (ixOf n) true m g).1) 1 100000, .rng .i64 (n + (devT (ixOf n) true m g).2) 1 100000, .rng .i64 (n + (devT (ixOf n) false m' g').1) 1 100000, .rng .i64 (n + (devT (ixOf n) false m' g').2) 1 100000], .int .i64 0]
def chkE : AV :=
  .tuple [.agg [.int .i64 0, .bool false, .int .i64 0, .int .i64 0, .bool false, .int .i64 0, .int .i64 0, .int .i64 0, .int .i64 0, .int .i64 0, .int .i64 0], .int .i64 2]

/-- The letter of the fit that is asked about has other ends than that of the swapped one. -/
def full : AV → Bool
  | .rng _ _ lo hi => decide (lo = 0) && decide (hi = 9)
  | _ => false

def sChk (b1 b2 : Bool) (okv : Int → Int → Int → Int → Int → AV) (errv : AV) : List AV → Tr AV
  | [.agg [a, .bool true, c, d, .bool false, c', d']] => match snum a, snum c, snum d, snum c', snum d' with
    | some (.i64, n), some (.i64, m), some (.i64, g), some (.i64, m'), some (.i64, g') =>
      match (if full c then b2 else b1) with
      | true => .br (inV n m g && (inV n m' g' && okF n m g m' g')) (.leaf (okv n m g m' g')) .fail
      | false => .br (inV n m g && (inV n m' g' && !okF n m g m' g')) (.leaf errv) .fail
    | _, _, _, _, _ => .fail
  | _ => .fail

def chkTree (okv : Int → Int → Int → Int → Int → AV) (errv : AV) (n m g m' g' : Int) : Option AV :=
  brK (inV n m g) (brK (okL n true m g) (brK (inV n m' g') (brK (okL n false m' g') (some (okv n m g m' g')) (some errv)) none) (some errv)) none

theorem chkRun (n m g m' g' : Int) : (runK prog pLim 60).call 16 [.agg [.rng .i64 n 1 100000, .bool true, .rng .i64 m 0 9, .rng .i64 g 5 12, .bool false, .rng .i64 m' 0 9, .rng .i64 g' 5 12]] (Bg 0) finV = chkTree chkV chkE n m g m' g' := by kernel_rfl
theorem refRun (n m g m' g' : Int) : (runK prog pLim 60).call 4 [.agg [.rng .i64 n 1 100000, .bool true, .rng .i64 m 0 9, .rng .i64 g 5 12, .bool false, .rng .i64 m' 0 9, .rng .i64 g' 5 12]] (Bg 0) finV = chkTree (fun _ _ _ _ _ => .int .i64 0) (.int .i64 2) n m g m' g' := by kernel_rfl

theorem sChk_sound {b1 b2 : Bool} {okv : Int → Int → Int → Int → Int → AV} {errv : AV} (hb : ∀ n m g m' g', below 0 (okv n m g m' g') = true) (hb' : below 0 errv = true) {f : FuncId} {prims : Prims}
    (hrun : ∀ (n m g m' g' : Int), (runK prog prims 60).call f [.agg [.rng .i64 n 1 100000, .bool true, .rng .i64 m 0 9, .rng .i64 g 5 12, .bool false, .rng .i64 m' 0 9, .rng .i64 g' 5 12]] (Bg 0) finV = chkTree okv errv n m g m' g')
    (args : List AV) (v : AV) (hg : (sChk b1 b2 okv errv args).get = some v) :
    ∃ args' v' B', (∀ (ι : Emb) (xs : List Value), VRL ι args xs → VRL ι args' xs) ∧ (∀ (ι : Emb) (x : Value), VR ι v' x → VR ι v x) ∧ belowL 0 args' = true ∧ below 0 v' = true ∧
      Ca prog prims f args' (Bg prog.globals.size) (v', B', []) := by
  unfold sChk at hg
  split at hg
  · rename_i a c d c' d'
    split at hg
    · rename_i n m g m' g' h1 h2 h3 h4 h5
      have hr := hrun n m g m' g'
      unfold chkTree at hr
      have fin : ∀ (w : AV), inV n m g = true → inV n m' g' = true ∨ okL n true m g = false → (∃ B', Ca prog prims f [.agg [.rng .i64 n 1 100000, .bool true, .rng .i64 m 0 9, .rng .i64 g 5 12, .bool false, .rng .i64 m' 0 9, .rng .i64 g' 5 12]] (Bg 0) (w, B', [])) →
          inV n m' g' = true → below 0 w = true → w = v →
          ∃ args' v' B', (∀ (ι : Emb) (xs : List Value), VRL ι [.agg [a, .bool true, c, d, .bool false, c', d']] xs → VRL ι args' xs) ∧ (∀ (ι : Emb) (x : Value), VR ι v' x → VR ι v x) ∧ belowL 0 args' = true ∧ below 0 v' = true ∧
            Ca prog prims f args' (Bg prog.globals.size) (v', B', []) := by
        rintro w i1 _ ⟨B', hca⟩ i2 hbw rfl
        obtain ⟨⟨hs1, hs2⟩, ⟨hl1, hl2⟩, hg1, hg2⟩ := of_decide_eq_true i1
        obtain ⟨_, ⟨hl3, hl4⟩, hg3, hg4⟩ := of_decide_eq_true i2
        refine ⟨_, w, B', fun ι xs hx => ?_, fun _ _ h => h, rfl, hbw, by rw [gsz]; exact hca⟩
        simp only [VRL, VR] at hx ⊢
        obtain ⟨x, l, q1, ⟨ys, q2, y1, l1, q3, q4, y2, l2, q5, q6, y3, l3, q7, q8, y4, l4, q9, q10, y5, l5, q11, q12, y6, l6, q13, q14, y7, l7, q15, q16, q17⟩, q18⟩ := hx
        exact ⟨x, l, q1, ⟨ys, q2, y1, l1, q3, ⟨snum_VR h1 q4, hs1, hs2⟩, y2, l2, q5, q6, y3, l3, q7, ⟨snum_VR h2 q8, hl1, hl2⟩, y4, l4, q9, ⟨snum_VR h3 q10, hg1, hg2⟩, y5, l5, q11, q12, y6, l6, q13, ⟨snum_VR h4 q14, hl3, hl4⟩, y7, l7, q15,
          ⟨snum_VR h5 q16, hg3, hg4⟩, q17⟩, q18⟩
      split at hg
      · obtain ⟨hc, hv⟩ := Tr.br_get hg
        cases hv
        rw [Bool.and_eq_true, Bool.and_eq_true] at hc
        obtain ⟨i1, i2, i3⟩ := hc
        rw [okF, Bool.and_eq_true] at i3
        rw [i1, i3.1, i2, i3.2] at hr
        exact fin _ i1 (.inl i2) (Ca.of_finV hr) i2 (hb _ _ _ _ _) rfl
      · obtain ⟨hc, hv⟩ := Tr.br_get hg
        cases hv
        rw [Bool.and_eq_true, Bool.and_eq_true, Bool.not_eq_true', okF, Bool.and_eq_false_iff] at hc
        obtain ⟨i1, i2, i3⟩ := hc
        rw [i1] at hr
        cases i4 : okL n true m g with
        | false =>
          rw [i4] at hr
          exact fin _ i1 (.inl i2) (Ca.of_finV hr) i2 hb' rfl
        | true =>
          have i5 : okL n false m' g' = false := i3.resolve_left (by rw [i4]; exact Bool.noConfusion)
          rw [i4, i2, i5] at hr
          exact fin _ i1 (.inl i2) (Ca.of_finV hr) i2 hb' rfl
    · cases hg
  · cases hg

/-- What is known in a law: whether the fit is right, and whether the swapped one is. -/
def pLaw (b1 b2 : Bool) : Prims := (pLim.addt 16 (sChk b1 b2 chkV chkE)).addt 4 (sChk b1 b2 (fun _ _ _ _ _ => .int .i64 0) (.int .i64 2))

theorem pLaw_ok {A : Amb} (hT : Tab A) (hG : prog.globals.size ≤ A.G) (b1 b2 : Bool) : PrimOK prog A (pLaw b1 b2) :=
  PrimOK.over (PrimOK.addt hmix hnum (pLim_ok hT hG) hG func4 (by kernel_rfl) (sChk_sound (fun _ _ _ _ _ => rfl) rfl refRun))
    (PrimOK.addt hmix hnum (pLim_ok hT hG) hG func16 (by kernel_rfl) (sChk_sound (fun _ _ _ _ _ => rfl) rfl chkRun))
#print axioms pLaw_ok
end Go.Proofs.Try
