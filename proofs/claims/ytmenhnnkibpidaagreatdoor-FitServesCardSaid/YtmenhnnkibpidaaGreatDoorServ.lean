/- Contract for the check of a fit, of which a grade may be one too great. -/
import Derived.Test.YtmenhnnkibpidaaGreatDoorChoose

namespace Go.Proofs.Tryz
open Go.Ad

def sChkX : List AV → Tr AV
  | [.agg [a, .bool true, c, d, .bool false, c', d']] => match snum a, snum c, snum d, snum c', snum d' with
    | some (.i64, n), some (.i64, m), some (.i64, g), some (.i64, m'), some (.i64, g') =>
      .br (inV n m g && inV n m' g') (.br (okF n m g m' g') (.leaf (chkV n m g m' g')) (.leaf chkE))
        (.br (decide (g = 13) && (inV n m 5 && inV n m' g')) (.leaf chkE) (.br (decide (g' = 13) && (inV n m g && inV n m' 5)) (.leaf chkE) .fail))
    | _, _, _, _, _ => .fail
  | _ => .fail

theorem chk13a (n m g m' g' : Int) : (runK prog pLim 60).call 31 [.agg [.rng .i64 n 1 100000, .bool true, .rng .i64 m 0 9, .rng .i64 g 13 13, .bool false, .rng .i64 m' 0 9, .rng .i64 g' 5 12]] (Bg 9) finV = some chkE := by kernel_rfl
theorem chk13b (n m g m' g' : Int) : (runK prog pLim 60).call 31 [.agg [.rng .i64 n 1 100000, .bool true, .rng .i64 m 0 9, .rng .i64 g 5 12, .bool false, .rng .i64 m' 0 9, .rng .i64 g' 13 13]] (Bg 9) finV = some chkE := by kernel_rfl

theorem sChkX_sound (args : List AV) (v : AV) (hg : (sChkX args).get = some v) :
    ∃ args' v' B', (∀ (ι : Emb) (xs : List Value), VRL ι args xs → VRL ι args' xs) ∧ (∀ (ι : Emb) (x : Value), VR ι v' x → VR ι v x) ∧ belowL 0 args' = true ∧ below 0 v' = true ∧
      Ca prog pLim 31 args' (Bg prog.globals.size) (v', B', []) := by
  unfold sChkX at hg
  split at hg
  · rename_i a c d c' d'
    split at hg
    · rename_i n m g m' g' h1 h2 h3 h4 h5
      have wid : ∀ {lo hi lo' hi' : Int}, (1 ≤ n ∧ n ≤ 100000) → (0 ≤ m ∧ m ≤ 9) → (lo ≤ g ∧ g ≤ hi) → (0 ≤ m' ∧ m' ≤ 9) → (lo' ≤ g' ∧ g' ≤ hi') → ∀ (ι : Emb) (xs : List Value), VRL ι [.agg [a, .bool true, c, d, .bool false, c', d']] xs →
          VRL ι [.agg [.rng .i64 n 1 100000, .bool true, .rng .i64 m 0 9, .rng .i64 g lo hi, .bool false, .rng .i64 m' 0 9, .rng .i64 g' lo' hi']] xs := by
        intro lo hi lo' hi' b1 b2 b3 b4 b5 ι xs hx
        simp only [VRL, VR] at hx ⊢
        obtain ⟨x, l, q1, ⟨ys, q2, y1, l1, q3, q4, y2, l2, q5, q6, y3, l3, q7, q8, y4, l4, q9, q10, y5, l5, q11, q12, y6, l6, q13, q14, y7, l7, q15, q16, q17⟩, q18⟩ := hx
        exact ⟨x, l, q1, ⟨ys, q2, y1, l1, q3, ⟨snum_VR h1 q4, b1⟩, y2, l2, q5, q6, y3, l3, q7, ⟨snum_VR h2 q8, b2⟩, y4, l4, q9, ⟨snum_VR h3 q10, b3⟩, y5, l5, q11, q12, y6, l6, q13, ⟨snum_VR h4 q14, b4⟩, y7, l7, q15,
          ⟨snum_VR h5 q16, b5⟩, q17⟩, q18⟩
      cases hc : (inV n m g && inV n m' g') with
      | true =>
        refine sChkB_sound _ v ?_
        simp only [sChkB, h1, h2, h3, h4, h5, hc, Tr.get] at hg ⊢
        exact hg
      | false =>
        simp only [hc, Tr.get] at hg
        split at hg
        · rename_i hd
          cases hg
          simp only [Bool.and_eq_true, inV, decide_eq_true_eq] at hd
          obtain ⟨B', hca⟩ := Ca.of_finV (chk13a n m g m' g')
          exact ⟨_, _, B', wid (lo := 13) (hi := 13) (lo' := 5) (hi' := 12) hd.2.1.1 hd.2.1.2.1 ⟨by omega, by omega⟩ hd.2.2.2.1 hd.2.2.2.2, fun _ _ h => h, rfl, rfl, by rw [gsz]; exact hca⟩
        · split at hg
          · rename_i hd
            cases hg
            simp only [Bool.and_eq_true, inV, decide_eq_true_eq] at hd
            obtain ⟨B', hca⟩ := Ca.of_finV (chk13b n m g m' g')
            exact ⟨_, _, B', wid (lo := 5) (hi := 12) (lo' := 13) (hi' := 13) hd.2.1.1 hd.2.1.2.1 hd.2.1.2.2 hd.2.2.2.1 ⟨by omega, by omega⟩, fun _ _ h => h, rfl, rfl, by rw [gsz]; exact hca⟩
          · cases hg
    · cases hg
  · cases hg

def pSrv : Prims := pCho.addt 31 sChkX
theorem pSrv_ok {A : Amb} (hT : Tab A) (hG : prog.globals.size ≤ A.G) : PrimOK prog A pSrv := PrimOK.addt2 hmix hnum (pLim_ok hT hG) (pCho_ok hT hG) hG func31 (by kernel_rfl) sChkX_sound
end Go.Proofs.Tryz
