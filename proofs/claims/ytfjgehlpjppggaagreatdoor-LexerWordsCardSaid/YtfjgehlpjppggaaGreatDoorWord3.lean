/- The lexer's program: what is wrong with words and numbers, by the program and by the reference. -/
import Derived.Test.YtfjgehlpjppggaaGreatDoorWord2

namespace Go.Proofs.Tryz
open Go.Ad

theorem run45 (s : List UInt8) (hs : szOK s = true) : (runK prog pN4 60).call 45 [.sstr s] (Bg 8) finV = some (.sint .i64 (numN s).1) := by
  have h : (runK prog pN4 60).call 45 [.sstr s] (Bg 8) finV = brK (decide ((0 : Int) ≤ 0 ∧ (0 : Int) ≤ (s.length : Int)) && szOK s) (brK (decide ((lenC [2] (s.drop 0) : Int) > 0))
    (brK (decide ((lenC [2] (s.drop 0) : Int) < (s.length : Int))) (brK (decide (0 ≤ (lenC [2] (s.drop 0) : Int) ∧ (lenC [2] (s.drop 0) : Int) < (s.length : Int))) (brK (bI s (lenC [2] (s.drop 0)) == 46)
      (brK (decide (0 ≤ W ((lenC [2] (s.drop 0) : Int) + 1) ∧ W ((lenC [2] (s.drop 0) : Int) + 1) ≤ (s.length : Int)) && szOK s)
        (brK (decide ((lenC [2] (s.drop (W ((lenC [2] (s.drop 0) : Int) + 1)).toNat) : Int) > 0))
          (brK (decide (0 ≤ W ((lenC [2] (s.drop 0) : Int) + 1) ∧ W ((lenC [2] (s.drop 0) : Int) + 1) ≤ (s.length : Int)) && szOK s)
            (some (.sint .i64 (W (W ((lenC [2] (s.drop 0) : Int) + 1) + (lenC [2] (s.drop (W ((lenC [2] (s.drop 0) : Int) + 1)).toNat) : Int))))) none)
          (some (.sint .i64 (lenC [2] (s.drop 0))))) none)
      (some (.sint .i64 (lenC [2] (s.drop 0))))) none)
      (some (.sint .i64 (lenC [2] (s.drop 0)))))
    (some (.sint .i64 (lenC [2] (s.drop 0))))) none := by kernel_rfl
  rw [h, hs, List.drop_zero, decide_eq_true (show (0 : Int) ≤ 0 ∧ (0 : Int) ≤ (s.length : Int) by omega), Bool.and_self, brT]
  have hs' := of_decide_eq_true hs
  have hl := lenC_le [2] s
  have hw : W ((lenC [2] s : Int) + 1) = ((lenC [2] s + 1 : Nat) : Int) := by rw [W, wrap64 (by omega) (by omega)]; omega
  rw [hw, Int.toNat_natCast]
  unfold numN
  generalize hd : lenC [2] s = d at hl ⊢
  have hb : bI s (d : Int) = bAt s d := by simp [bI, bAt]
  rw [hb]
  by_cases h0 : 0 < d
  case neg => rw [decide_eq_false (show ¬ ((d : Int) > 0) by omega), decide_eq_false h0]; rfl
  rw [decide_eq_true (show (d : Int) > 0 by omega), brT, decide_eq_true h0, Bool.true_and]
  by_cases h1 : d < s.length
  case neg => rw [decide_eq_false (show ¬ ((d : Int) < (s.length : Int)) by omega), decide_eq_false (show ¬ d + 1 < s.length by omega)]; rfl
  rw [decide_eq_true (show (d : Int) < (s.length : Int) by omega), brT, decide_eq_true (show 0 ≤ (d : Int) ∧ (d : Int) < (s.length : Int) by omega), brT]
  rw [decide_eq_true (show 0 ≤ ((d + 1 : Nat) : Int) ∧ ((d + 1 : Nat) : Int) ≤ (s.length : Int) by omega), Bool.and_self]
  cases hc : bAt s d == 46 with
  | false => simp only [brF, Bool.false_and, Bool.and_false, cond_false]
  | true =>
    simp only [brT, Bool.true_and]
    have hl2 := lenC_le [2] (s.drop (d + 1))
    rw [List.length_drop] at hl2
    generalize lenC [2] (s.drop (d + 1)) = m at hl2 ⊢
    by_cases hm : 0 < m
    · have e6 : W (((d + 1 : Nat) : Int) + (m : Int)) = ((d + 1 + m : Nat) : Int) := by rw [W, wrap64 (by omega) (by omega)]; omega
      rw [decide_eq_true (show (m : Int) > 0 by omega), brT, decide_eq_true hm, decide_eq_true (show d + 1 < s.length by omega), e6]; rfl
    · rw [decide_eq_false (show ¬ ((m : Int) > 0) by omega), decide_eq_false hm, brF]; simp

noncomputable def pN5 : Prims := pN4.addt 45 (gP [.str] fun | [.s s] => .br (szOK s) (.leaf (.sint .i64 (numN s).1)) .fail | _ => .fail)

/-- What is wrong with a word, and with a number. -/
def errW (s : List UInt8) : Int := if wordN s = 0 ∨ wordN s ≠ s.length then 3 else if s.length > 24 then 17 else 0
def errN (s : List UInt8) : Int := if (numN s).1 = 0 ∨ (numN s).1 ≠ s.length ∨ ((numN s).2 > 1 ∧ bAt s 0 = 48) then 3 else if s.length > 24 then 17 else 0

theorem numN_le (s : List UInt8) : (numN s).2 ≤ (numN s).1 ∧ (numN s).1 ≤ s.length ∧ ((numN s).1 = 0 ↔ (numN s).2 = 0) ∧ (numN s).2 = lenC [2] s := by
  have hl := lenC_le [2] s
  have hl2 := lenC_le [2] (s.drop (lenC [2] s + 1))
  rw [List.length_drop] at hl2
  unfold numN
  generalize lenC [2] (s.drop (lenC [2] s + 1)) = m at *
  generalize lenC [2] s = d at *
  cases h : (decide (0 < d) && (decide (d + 1 < s.length) && (bAt s d == 46 && decide (0 < m)))) with
  | true =>
    simp only [Bool.and_eq_true, decide_eq_true_eq] at h
    simp only [cond_true]
    refine ⟨?_, ?_, ?_, ?_⟩ <;> first | omega | trivial
  | false => simp only [cond_false]; exact ⟨Nat.le_refl _, hl, trivial, trivial⟩

theorem errW_tree (s : List UInt8) : brK (s == []) (some (AV.int .i64 3)) (brK true (brK ((wordN s : Int) != (s.length : Int)) (some (.int .i64 3)) (brK (decide ((s.length : Int) > 24)) (some (.int .i64 17)) (some (.int .i64 0)))) none) = some (.int .i64 (errW s)) := by
  unfold errW
  cases s with
  | nil => rfl
  | cons b r =>
    have e1 : ((b :: r) == ([] : List UInt8)) = false := rfl
    rw [e1, brF, brT]
    have hp : 0 < (b :: r).length := by simp
    generalize (b :: r).length = k at *
    simp only [brK_ite, bne_iff_ne, ne_eq, decide_eq_true_eq]
    repeat' split
    all_goals first | rfl | omega

theorem run13 (s : List UInt8) (hs : szOK s = true) : (runK prog pN5 60).call 13 [.sstr s] (Bg 8) finV = some (.int .i64 (errW s)) := by
  have h : (runK prog pN5 60).call 13 [.sstr s] (Bg 8) finV = brK (s == []) (some (.int .i64 3)) (brK (szOK s) (brK ((wordN s : Int) != (s.length : Int)) (some (.int .i64 3)) (brK (decide ((s.length : Int) > 24)) (some (.int .i64 17)) (some (.int .i64 0)))) none) := by kernel_rfl
  rw [h, hs, errW_tree]

theorem run14 (s : List UInt8) (hs : szOK s = true) : (runK prog pN5 60).call 14 [.sstr s] (Bg 8) finV = some (.int .i64 (errW s)) := by
  have h : (runK prog pN5 60).call 14 [.sstr s] (Bg 8) finV = brK (s == []) (some (.int .i64 3)) (brK (szOK s) (brK ((wordN s : Int) != (s.length : Int)) (some (.int .i64 3)) (brK (decide ((s.length : Int) > 24)) (some (.int .i64 17)) (some (.int .i64 0)))) none) := by kernel_rfl
  rw [h, hs, errW_tree]

theorem run15 (s : List UInt8) (hs : szOK s = true) : (runK prog pN5 60).call 15 [.sstr s] (Bg 8) finV = some (.int .i64 (errN s)) := by
  have h : (runK prog pN5 60).call 15 [.sstr s] (Bg 8) finV = brK (szOK s) (brK (((numN s).1 : Int) == 0) (some (.int .i64 3)) (brK (((numN s).1 : Int) != (s.length : Int)) (some (.int .i64 3))
      (brK (decide (((numN s).2 : Int) > 1)) (brK (decide ((0 : Int) ≤ 0 ∧ (0 : Int) < (s.length : Int))) (brK (bAt s 0 == 48) (some (.int .i64 3)) (brK (decide (((numN s).1 : Int) > 24)) (some (.int .i64 17)) (some (.int .i64 0)))) none)
        (brK (decide (((numN s).1 : Int) > 24)) (some (.int .i64 17)) (some (.int .i64 0)))))) none := by kernel_rfl
  rw [h, hs, brT]
  obtain ⟨h1, h2, h3, _⟩ := numN_le s
  unfold errN
  simp only [brK_ite, beq_iff_eq, bne_iff_ne, ne_eq, decide_eq_true_eq]
  repeat' split
  all_goals first | rfl | omega

theorem run16 (s : List UInt8) (hs : szOK s = true) : (runK prog pN5 60).call 16 [.sstr s] (Bg 8) finV = some (.int .i64 (errN s)) := by
  have h : (runK prog pN5 60).call 16 [.sstr s] (Bg 8) finV = brK (s == []) (some (.int .i64 3)) (brK (szOK s) (brK (((numN s).1 : Int) != (s.length : Int)) (some (.int .i64 3))
      (brK (decide ((0 : Int) ≤ 0 ∧ (0 : Int) ≤ (s.length : Int)) && szOK s) (brK (decide ((lenC [2] (s.drop 0) : Int) > 1)) (brK (decide ((0 : Int) ≤ 0 ∧ (0 : Int) < (s.length : Int))) (brK (bAt s 0 == 48) (some (.int .i64 3)) (brK (decide ((s.length : Int) > 24)) (some (.int .i64 17)) (some (.int .i64 0)))) none)
        (brK (decide ((s.length : Int) > 24)) (some (.int .i64 17)) (some (.int .i64 0)))) none)) none) := by kernel_rfl
  rw [h, hs, brT, List.drop_zero]
  obtain ⟨h1, h2, h3, h4⟩ := numN_le s
  rw [← h4]
  unfold errN
  cases s with
  | nil => rfl
  | cons b r =>
    have e1 : ((b :: r) == ([] : List UInt8)) = false := rfl
    rw [e1, brF]
    have hp : 0 < (b :: r).length := by simp
    generalize (b :: r).length = k at *
    simp only [brK_ite, beq_iff_eq, bne_iff_ne, ne_eq, decide_eq_true_eq, Bool.and_true]
    repeat' split
    all_goals first | rfl | omega

def gErr (g : List UInt8 → Int) : List Lf → Tr AV
  | [.s s] => .br (szOK s) (.leaf (.sint .i64 (g s))) .fail
  | _ => .fail
noncomputable def pE : Prims := (((pN5.addt 13 (gP [.str] (gErr errW))).addt 14 (gP [.str] (gErr errW))).addt 15 (gP [.str] (gErr errN))).addt 16 (gP [.str] (gErr errN))

section
variable {A : Amb} (hT : Tab A) (hG : prog.globals.size ≤ A.G)
include hT hG

theorem pN5_ok : PrimOK prog A pN5 := by
  refine PrimOK.addP hmix hnum (pN4_ok hT hG) (pN4_ok hT hG) hG func45 (by kernel_rfl) fun ls v h => ?_
  split at h
  · rename_i s
    obtain ⟨hs, hv⟩ := Tr.br1 h
    cases hv
    exact ⟨rfl, 60, _, by rw [gsz]; exact run45 s hs, rfl, fun ι x h => h⟩
  · cases h

theorem pE_ok : PrimOK prog A pE := by
  have h0 := pN5_ok hT hG
  have key : ∀ (f : FuncId) (g : List UInt8 → Int), (∀ s, szOK s = true → (runK prog pN5 60).call f [.sstr s] (Bg 8) finV = some (.int .i64 (g s))) → ∀ ls v, (gErr g ls).get = some v →
      belowL 0 (mkT [.str] ls).1 = true ∧ ∃ n v', (runK prog pN5 n).call f (mkT [.str] ls).1 (Bg prog.globals.size) finV = some v' ∧ below 0 v' = true ∧ ∀ ι x, VR ι v' x → VR ι v x := by
    intro f g hr ls v h
    unfold gErr at h
    split at h
    · rename_i s
      obtain ⟨hs, hv⟩ := Tr.br1 h
      cases hv
      exact ⟨rfl, 60, _, by rw [gsz]; exact hr s hs, rfl, fun ι x => vr_int rfl x⟩
    · cases h
  exact PrimOK.addP hmix hnum h0 (PrimOK.addP hmix hnum h0 (PrimOK.addP hmix hnum h0 (PrimOK.addP hmix hnum h0 h0 hG func13 (by kernel_rfl) (key _ _ run13)) hG func14 (by kernel_rfl) (key _ _ run14)) hG func15 (by kernel_rfl) (key _ _ run15)) hG func16 (by kernel_rfl) (key _ _ run16)
end
end Go.Proofs.Tryz
