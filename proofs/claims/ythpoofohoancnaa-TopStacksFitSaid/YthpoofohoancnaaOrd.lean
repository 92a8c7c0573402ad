/- The check of limits, where they are right. -/
import Derived.Test.YthpoofohoancnaaChk

namespace Go.Proofs.Try
open Go.Ad

def sOrd : List AV → Tr AV
  | [.agg [a, b]] => match snum a, snum b with
    | some (.i64, x), some (.i64, y) => .br (decide (0 ≤ x ∧ x ≤ y ∧ y ≤ 100000)) (.leaf (.int .i64 0)) .fail
    | _, _ => .fail
  | _ => .fail

theorem ordRun (a b : Int) : (runK prog lib 60).call 44 [.agg [.rng .i64 a 0 100000, .rng .i64 b 0 100000]] (Bg 0) finV = brK (decide (a > b)) (some (.int .i64 9)) (some (.int .i64 0)) := by kernel_rfl

theorem sOrd_sound (args : List AV) (v : AV) (hg : (sOrd args).get = some v) :
    ∃ args' v' B', (∀ (ι : Emb) (xs : List Value), VRL ι args xs → VRL ι args' xs) ∧ (∀ (ι : Emb) (x : Value), VR ι v' x → VR ι v x) ∧ belowL 0 args' = true ∧ below 0 v' = true ∧
      Ca prog lib 44 args' (Bg prog.globals.size) (v', B', []) := by
  unfold sOrd at hg
  split at hg
  · rename_i a b
    split at hg
    · rename_i x y h1 h2
      obtain ⟨hc, hv⟩ := Tr.br_get hg
      cases hv
      obtain ⟨c1, c2, c3⟩ := of_decide_eq_true hc
      have hr := ordRun x y
      rw [decide_eq_false (by omega)] at hr
      obtain ⟨B', hca⟩ := Ca.of_finV hr
      refine ⟨_, _, B', fun ι xs hx => ?_, fun _ _ h => h, rfl, rfl, by rw [gsz]; exact hca⟩
      simp only [VRL, VR] at hx ⊢
      obtain ⟨z, l, q1, ⟨ys, q2, y1, l1, q3, q4, y2, l2, q5, q6, q7⟩, q8⟩ := hx
      exact ⟨z, l, q1, ⟨ys, q2, y1, l1, q3, ⟨snum_VR h1 q4, by omega, by omega⟩, y2, l2, q5, ⟨snum_VR h2 q6, by omega, by omega⟩, q7⟩, q8⟩
    · cases hg
  · cases hg

/-- What is known in the law of the stacks. -/
def pOrd (b1 b2 : Bool) : Prims := (pLaw b1 b2).addt 44 sOrd

theorem pOrd_ok {A : Amb} (hT : Tab A) (hG : prog.globals.size ≤ A.G) (b1 b2 : Bool) : PrimOK prog A (pOrd b1 b2) :=
  PrimOK.addt2 hmix hnum (lib_ok hT) (pLaw_ok hT hG b1 b2) hG func44 (by kernel_rfl) sOrd_sound
end Go.Proofs.Try
