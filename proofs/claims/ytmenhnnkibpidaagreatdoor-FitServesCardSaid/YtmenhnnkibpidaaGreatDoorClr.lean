/- Contracts for the choice of a fit: the check by cases, the clearance of a right fit. -/
import Derived.Test.YtmenhnnkibpidaaGreatDoorBasic

namespace Go.Proofs.Tryz
open Go.Ad

def loC (n m g m' g' : Int) : Int := n + (devT (ixOf n) true m g).1 - (n + (devT (ixOf n) false m' g').2)
def hiC (n m g m' g' : Int) : Int := n + (devT (ixOf n) true m g).2 - (n + (devT (ixOf n) false m' g').1)

def sChkB : List AV → Tr AV
  | [.agg [a, .bool true, c, d, .bool false, c', d']] => match snum a, snum c, snum d, snum c', snum d' with
    | some (.i64, n), some (.i64, m), some (.i64, g), some (.i64, m'), some (.i64, g') =>
      .br (inV n m g && inV n m' g') (.br (okF n m g m' g') (.leaf (chkV n m g m' g')) (.leaf chkE)) .fail
    | _, _, _, _, _ => .fail
  | _ => .fail

theorem sChkB_sound (args : List AV) (v : AV) (hg : (sChkB args).get = some v) :
    ∃ args' v' B', (∀ (ι : Emb) (xs : List Value), VRL ι args xs → VRL ι args' xs) ∧ (∀ (ι : Emb) (x : Value), VR ι v' x → VR ι v x) ∧ belowL 0 args' = true ∧ below 0 v' = true ∧
      Ca prog pLim 31 args' (Bg prog.globals.size) (v', B', []) := by
  unfold sChkB at hg
  split at hg
  · rename_i a c d c' d'
    split at hg
    · rename_i n m g m' g' h1 h2 h3 h4 h5
      obtain ⟨hc, hv⟩ := Tr.br_get hg
      rw [Bool.and_eq_true] at hc
      have full9 : ∀ {ok : Int → Int → Int → Int → Int → AV} {e : AV}, sChk (okF n m g m' g') (okF n m g m' g') ok e [.agg [a, .bool true, c, d, .bool false, c', d']] =
          (match okF n m g m' g' with
            | true => .br (inV n m g && (inV n m' g' && okF n m g m' g')) (.leaf (ok n m g m' g')) .fail
            | false => .br (inV n m g && (inV n m' g' && !okF n m g m' g')) (.leaf e) .fail) := by
        intro ok e
        simp only [sChk, h1, h2, h3, h4, h5, ite_self]
        cases okF n m g m' g' <;> rfl
      refine sChk_sound (b1 := okF n m g m' g') (b2 := okF n m g m' g') (okv := chkV) (errv := chkE) (fun _ _ _ _ _ => rfl) rfl chkRun _ v ?_
      rw [full9]
      cases ho : okF n m g m' g' with
      | true => rw [ho] at hv; simp only [hc.1, hc.2, Bool.and_self]; exact hv
      | false => rw [ho] at hv; simp only [hc.1, hc.2, Bool.and_self, Bool.not_false]; exact hv
    · cases hg
  · cases hg

theorem clrRun (n m g m' g' : Int) : (runK prog pLim 60).call 37 [.agg [.rng .i64 n 1 100000, .bool true, .rng .i64 m 0 9, .rng .i64 g 5 12, .bool false, .rng .i64 m' 0 9, .rng .i64 g' 5 12]] (Bg 9) finV =
    brK (inV n m g) (brK (inV n m' g') (some (.agg [.rng .i64 (loC n m g m' g') (-107999) 107999, .rng .i64 (hiC n m g m' g') (-107999) 107999])) none) none := by kernel_rfl

def sClr : List AV → Tr AV
  | [.agg [a, b, c, d, b', c', d']] => match snum a, sbool? b, snum c, snum d, sbool? b', snum c', snum d' with
    | some (.i64, n), some true, some (.i64, m), some (.i64, g), some false, some (.i64, m'), some (.i64, g') =>
      .br (inV n m g && inV n m' g') (.leaf (.agg [.rng .i64 (loC n m g m' g') (-107999) 107999, .rng .i64 (hiC n m g m' g') (-107999) 107999])) .fail
    | _, _, _, _, _, _, _ => .fail
  | _ => .fail

theorem sClr_sound (args : List AV) (v : AV) (hg : (sClr args).get = some v) :
    ∃ args' v' B', (∀ (ι : Emb) (xs : List Value), VRL ι args xs → VRL ι args' xs) ∧ (∀ (ι : Emb) (x : Value), VR ι v' x → VR ι v x) ∧ belowL 0 args' = true ∧ below 0 v' = true ∧
      Ca prog pLim 37 args' (Bg prog.globals.size) (v', B', []) := by
  unfold sClr at hg
  split at hg
  · rename_i a b c d b' c' d'
    split at hg
    · rename_i n m g m' g' h1 hb h2 h3 hb' h4 h5
      obtain ⟨hc, hv⟩ := Tr.br_get hg
      simp only [Tr.get, Option.some.injEq] at hv
      subst hv
      rw [Bool.and_eq_true] at hc
      have hr := clrRun n m g m' g'
      rw [hc.1, hc.2, brK_t, brK_t] at hr
      obtain ⟨B', hca⟩ := Ca.of_finV hr
      obtain ⟨⟨hs1, hs2⟩, ⟨hl1, hl2⟩, hg1, hg2⟩ := of_decide_eq_true hc.1
      obtain ⟨_, ⟨hl3, hl4⟩, hg3, hg4⟩ := of_decide_eq_true hc.2
      refine ⟨_, _, B', fun ι xs hx => ?_, fun _ _ h => h, rfl, rfl, by rw [gsz]; exact hca⟩
      simp only [VRL, VR] at hx ⊢
      obtain ⟨x, l, q1, ⟨ys, q2, y1, l1, q3, q4, y2, l2, q5, q6, y3, l3, q7, q8, y4, l4, q9, q10, y5, l5, q11, q12, y6, l6, q13, q14, y7, l7, q15, q16, q17⟩, q18⟩ := hx
      exact ⟨x, l, q1, ⟨ys, q2, y1, l1, q3, ⟨snum_VR h1 q4, hs1, hs2⟩, y2, l2, q5, sbool_VR hb q6, y3, l3, q7, ⟨snum_VR h2 q8, hl1, hl2⟩, y4, l4, q9, ⟨snum_VR h3 q10, hg1, hg2⟩, y5, l5, q11, sbool_VR hb' q12, y6, l6, q13, ⟨snum_VR h4 q14, hl3, hl4⟩, y7, l7, q15,
        ⟨snum_VR h5 q16, hg3, hg4⟩, q17⟩, q18⟩
    · cases hg
  · cases hg

def pClr : Prims := pLst.addt 37 sClr
def pChB : Prims := pLim.addt 31 sChkB

theorem pClr_ok {A : Amb} (hT : Tab A) (hG : prog.globals.size ≤ A.G) : PrimOK prog A pClr := PrimOK.addt2 hmix hnum (pLim_ok hT hG) (pLst_ok hT hG) hG func37 (by kernel_rfl) sClr_sound
theorem pChB_ok {A : Amb} (hT : Tab A) (hG : prog.globals.size ≤ A.G) : PrimOK prog A pChB := PrimOK.addt2 hmix hnum (pLim_ok hT hG) (pLim_ok hT hG) hG func31 (by kernel_rfl) sChkB_sound

/-- The best fit so far: how wide it is (less than 0: none yet), and its hole's grade, its shaft's letter and grade. -/
abbrev BS := Int × Int × Int × Int
def stepB (n a b h l g : Int) (s : BS) : BS := if okF n 4 h l g && (decide (a ≤ loC n 4 h l g) && (decide (hiC n 4 h l g ≤ b) && decide (s.1 < hiC n 4 h l g - loC n 4 h l g))) then (hiC n 4 h l g - loC n 4 h l g, h, l, g) else s
def bestC (n : Int) (s : BS) : List AV := [.sint .i64 (if s.1 < 0 then 0 else n), .sbool (decide (0 ≤ s.1)), .sint .i64 (if s.1 < 0 then 0 else 4), .sint .i64 s.2.1, .sbool false, .sint .i64 s.2.2.1, .sint .i64 s.2.2.2]
end Go.Proofs.Tryz
