/- The lexer's program: words and numbers, by the program and by the reference. -/
import Derived.Test.YtfjgehlpjppggaaGreatDoorWord

namespace Go.Proofs.Tryz
open Go.Ad

theorem cls1 (c : Int) : (clsI c == 1) = letB c := by
  unfold clsI letB
  repeat' split
  all_goals first
    | (rw [show ((1 : Int) == 1) = true from rfl]; symm; rw [decide_eq_true_eq]; assumption)
    | (rw [show (_ == (1 : Int)) = false from rfl]; symm; rw [decide_eq_false_iff_not]; omega)
theorem cls2 (c : Int) : (clsI c == 2) = digB c := by
  unfold clsI digB
  repeat' split
  all_goals first
    | (rw [show ((2 : Int) == 2) = true from rfl]; symm; rw [decide_eq_true_eq]; assumption)
    | (rw [show (_ == (2 : Int)) = false from rfl]; symm; rw [decide_eq_false_iff_not]; omega)
theorem cls3 (c : Int) : (clsI c == 3) = (c == 95) := by
  unfold clsI
  repeat' split
  all_goals first
    | (subst c; rfl)
    | (rw [show (_ == (3 : Int)) = false from rfl]; symm; rw [beq_eq_false_iff_ne]; omega)
theorem cls5 (c : Int) : (clsI c == 5) = (c == 32) := by
  unfold clsI
  repeat' split
  all_goals first
    | (subst c; rfl)
    | (rw [show (_ == (5 : Int)) = false from rfl]; symm; rw [beq_eq_false_iff_ne]; omega)
theorem sgn_all : ((List.range 256).all fun n => decide (0 ≤ sgnIx (n : Int)) == markB (n : Int)) = true := by kernel_rfl
theorem sgn_mark {c : Int} (h0 : 0 ≤ c) (h1 : c < 256) : decide (0 ≤ sgnIx c) = markB c := by
  obtain ⟨n, rfl⟩ : ∃ n : Nat, c = n := ⟨c.toNat, by omega⟩
  have := List.all_eq_true.1 sgn_all n (List.mem_range.2 (by omega))
  exact beq_iff_eq.1 this
theorem mark_plain : ((List.range 256).all fun n => !markB (n : Int) || (!letB (n : Int) && !digB (n : Int) && !((n : Int) == 95) && !((n : Int) == 32))) = true := by kernel_rfl
theorem cls4 {c : Int} (h0 : 0 ≤ c) (h1 : c < 256) : (clsI c == 4) = markB c := by
  have hm := sgn_mark h0 h1
  obtain ⟨n, rfl⟩ : ∃ n : Nat, c = n := ⟨c.toNat, by omega⟩
  have hp := List.all_eq_true.1 mark_plain n (List.mem_range.2 (by omega))
  unfold clsI
  cases hb : markB (n : Int) with
  | true =>
    rw [hb] at hm hp
    simp [letB, digB] at hp
    have := of_decide_eq_true hm
    rw [if_neg (by omega), if_neg (by omega), if_neg (by omega), if_neg (by omega), if_pos this]; rfl
  | false =>
    rw [hb] at hm
    have := of_decide_eq_false hm
    repeat' split
    all_goals first | rfl | contradiction

theorem bAt_range (s : List UInt8) (n : Nat) : 0 ≤ bAt s n ∧ bAt s n < 256 := by
  unfold bAt
  have := (s.getD n 0).toNat_lt
  omega

/-- How long the word at the beginning of a text is. -/
def wordN (s : List UInt8) : Nat := bif letB (bAt s 0) && !s.isEmpty then lenC [1, 2, 3] s else 0
/-- How long the number at the beginning of a text is, and its digits in front of the point. -/
def numN (s : List UInt8) : Nat × Nat :=
  bif decide (0 < lenC [2] s) && (decide (lenC [2] s + 1 < s.length) && (bAt s (lenC [2] s) == 46 && decide (0 < lenC [2] (s.drop (lenC [2] s + 1))))) then (lenC [2] s + 1 + lenC [2] (s.drop (lenC [2] s + 1)), lenC [2] s) else (lenC [2] s, lenC [2] s)

theorem lenC_le (cs : List Int) (s : List UInt8) : lenC cs s ≤ s.length := by
  have := (scanN_le (pCl cs s) s.length 0).2; simpa [lenC] using this

theorem wordly_eq (s : List UInt8) : wordlyN s = wordN s := by
  unfold wordlyN wordN
  cases s with
  | nil => simp [scanN]
  | cons b r =>
    cases h : letB (bAt (b :: r) 0) with
    | false =>
      simp only [Bool.false_and, cond_false, List.length_cons, scanN]
      have : pWd (b :: r) 0 = false := by simp [pWd, h]
      rw [this, cond_false]
    | true =>
      simp only [Bool.true_and, List.isEmpty_cons, Bool.not_false, cond_true]
      unfold lenC
      refine scanN_congr fun m _ _ => ?_
      unfold pWd pCl
      simp only [List.any_cons, List.any_nil, Bool.or_false, cls1, cls2, cls3]
      cases m with
      | zero => rw [h]; simp
      | succ m => simp

theorem digits0 (s : List UInt8) : digitsN s 0 = lenC [2] s := by
  unfold digitsN lenC
  rw [Nat.sub_zero]
  refine scanN_congr fun m _ _ => ?_
  simp [pDg, pCl, cls2]

theorem bAt_drop (s : List UInt8) (a n : Nat) : bAt (s.drop a) n = bAt s (a + n) := by
  unfold bAt
  simp [List.getD_eq_getElem?_getD, List.getElem?_drop]

theorem digits_drop (s : List UInt8) (a : Nat) : digitsN s a = lenC [2] (s.drop a) := by
  unfold digitsN lenC
  rw [List.length_drop]
  refine scanN_congr fun m _ _ => ?_
  simp [pDg, pCl, cls2, bAt_drop]

/-! The trees. -/
theorem run41 (s : List UInt8) (hs : szOK s = true) : (runK prog pL 60).call 41 [.sstr s] (Bg 8) finV = some (.int .i64 0) ∧ wordN s = 0 ∨ (runK prog pL 60).call 41 [.sstr s] (Bg 8) finV = some (.sint .i64 (wordN s)) := by
  have h : (runK prog pL 60).call 41 [.sstr s] (Bg 8) finV = brK (s == []) (some (.int .i64 0)) (brK (decide ((0 : Int) ≤ 0 ∧ (0 : Int) < (s.length : Int))) (brK (clsI (bAt s 0) != 1) (some (.int .i64 0)) (brK (szOK s) (some (.sint .i64 (lenC [1, 2, 3] s))) none)) none) := by kernel_rfl
  rw [h, hs]
  unfold wordN
  cases s with
  | nil => left; exact ⟨rfl, by simp⟩
  | cons b r =>
    have h1 : ((b :: r) == ([] : List UInt8)) = false := rfl
    have h2 : decide ((0 : Int) ≤ 0 ∧ (0 : Int) < ((b :: r).length : Int)) = true := decide_eq_true (by simp)
    rw [h1, h2, bne, cls1]
    cases letB (bAt (b :: r) 0) with
    | true => right; rfl
    | false => left; exact ⟨rfl, rfl⟩

theorem run44 (s : List UInt8) (hs : szOK s = true) : (runK prog pL 60).call 44 [.sstr s] (Bg 8) finV = some (.tuple [.sint .i64 (numN s).1, .sint .i64 (numN s).2]) := by
  have h : (runK prog pL 60).call 44 [.sstr s] (Bg 8) finV = brK (szOK s) (brK ((lenC [2] s : Int) == 0) (some (.tuple [.sint .i64 (lenC [2] s), .sint .i64 (lenC [2] s)]))
      (brK (decide (W ((lenC [2] s : Int) + 1) ≥ (s.length : Int))) (some (.tuple [.sint .i64 (lenC [2] s), .sint .i64 (lenC [2] s)]))
      (brK (decide (0 ≤ (lenC [2] s : Int) ∧ (lenC [2] s : Int) < (s.length : Int))) (brK (bI s (lenC [2] s) != 46) (some (.tuple [.sint .i64 (lenC [2] s), .sint .i64 (lenC [2] s)]))
      (brK (true && decide (0 ≤ W ((lenC [2] s : Int) + 1) ∧ W ((lenC [2] s : Int) + 1) ≤ (s.length : Int))) (brK (szOK (List.drop (W ((lenC [2] s : Int) + 1)).toNat (List.take s.length s)))
        (brK ((lenC [2] (List.drop (W ((lenC [2] s : Int) + 1)).toNat (List.take s.length s)) : Int) == 0) (some (.tuple [.sint .i64 (lenC [2] s), .sint .i64 (lenC [2] s)]))
          (some (.tuple [.sint .i64 (W (W ((lenC [2] s : Int) + 1) + (lenC [2] (List.drop (W ((lenC [2] s : Int) + 1)).toNat (List.take s.length s)) : Int))), .sint .i64 (lenC [2] s)]))) none) none)) none))) none := by kernel_rfl
  rw [h, hs, brT]
  have hs' := of_decide_eq_true hs
  have hl := lenC_le [2] s
  have hw : W ((lenC [2] s : Int) + 1) = ((lenC [2] s + 1 : Nat) : Int) := by rw [W, wrap64 (by omega) (by omega)]; omega
  rw [hw, Int.toNat_natCast, List.take_length]
  unfold numN
  generalize hd : lenC [2] s = d at hl ⊢
  have hb : bI s (d : Int) = bAt s d := by simp [bI, bAt]
  rw [hb]
  by_cases h0 : d = 0
  · subst h0; rfl
  have e0 : ((d : Int) == 0) = false := by rw [beq_eq_false_iff_ne]; omega
  rw [e0, brF, decide_eq_true (show 0 < d by omega), Bool.true_and]
  by_cases h1 : d + 1 < s.length
  case neg =>
    have e1 : decide (((d + 1 : Nat) : Int) ≥ (s.length : Int)) = true := decide_eq_true (by omega)
    rw [e1, brT, decide_eq_false h1]; rfl
  have e1 : decide (((d + 1 : Nat) : Int) ≥ (s.length : Int)) = false := decide_eq_false (by omega)
  have e2 : decide (0 ≤ (d : Int) ∧ (d : Int) < (s.length : Int)) = true := decide_eq_true (by omega)
  have e3 : decide (0 ≤ ((d + 1 : Nat) : Int) ∧ ((d + 1 : Nat) : Int) ≤ (s.length : Int)) = true := decide_eq_true (by omega)
  have e4 : szOK (s.drop (d + 1)) = true := decide_eq_true (by rw [List.length_drop]; omega)
  rw [e1, brF, e2, brT, decide_eq_true h1, Bool.true_and, e3, e4, bne]
  cases hc : bAt s d == 46 with
  | false => rfl
  | true =>
    simp only [Bool.not_true, brF, brT, Bool.true_and]
    have hl2 := lenC_le [2] (s.drop (d + 1))
    rw [List.length_drop] at hl2
    generalize lenC [2] (s.drop (d + 1)) = m at hl2 ⊢
    by_cases hm : m = 0
    · subst hm; rfl
    · have e5 : ((m : Int) == 0) = false := by rw [beq_eq_false_iff_ne]; omega
      have e6 : W (((d + 1 : Nat) : Int) + (m : Int)) = ((d + 1 + m : Nat) : Int) := by rw [W, wrap64 (by omega) (by omega)]; omega
      rw [e5, brF, e6, decide_eq_true (show 0 < m by omega)]; rfl

theorem run43 (s : List UInt8) (hs : szOK s = true) : (runK prog pW43 60).call 43 [.sstr s] (Bg 8) finV = some (.sint .i64 (wordN s)) := by
  have h : (runK prog pW43 60).call 43 [.sstr s] (Bg 8) finV = brK (decide ((0 : Int) = 0) && szOK s) (some (.sint .i64 (wordlyN s))) none := by kernel_rfl
  rw [h, hs, wordly_eq]; rfl

theorem run46 (s : List UInt8) (a : Nat) (ha : a ≤ s.length) (hs : szOK s = true) : (runK prog pW46 60).call 46 [.sstr s, .sint .i64 a] (Bg 8) finV = some (.sint .i64 (lenC [2] (s.drop a))) := by
  have h : (runK prog pW46 60).call 46 [.sstr s, .sint .i64 a] (Bg 8) finV = brK (decide ((0 : Int) = 0 ∧ 0 ≤ (a : Int) ∧ (a : Int) ≤ s.length) && szOK s) (some (.sint .i64 (digitsN s (a : Int).toNat))) none := by kernel_rfl
  rw [h, hs, decide_eq_true (show (0 : Int) = 0 ∧ 0 ≤ (a : Int) ∧ (a : Int) ≤ s.length by omega), Int.toNat_natCast, digits_drop]; rfl

noncomputable def pN1 : Prims := pL.addt 41 (gP [.str] fun | [.s s] => .br (szOK s) (.leaf (.sint .i64 (wordN s))) .fail | _ => .fail)
noncomputable def pN2 : Prims := pN1.addt 44 (gP [.str] fun | [.s s] => .br (szOK s) (.leaf (.tuple [.sint .i64 (numN s).1, .sint .i64 (numN s).2])) .fail | _ => .fail)
noncomputable def pN3 : Prims := pN2.addt 43 (gP [.str] fun | [.s s] => .br (szOK s) (.leaf (.sint .i64 (wordN s))) .fail | _ => .fail)
noncomputable def pN4 : Prims := pN3.addt 46 (gP [.str, .int .i64] fun | [.s s, .i a] => .br (decide (0 ≤ a ∧ a ≤ (s.length : Int)) && szOK s) (.leaf (.sint .i64 (lenC [2] (s.drop a.toNat)))) .fail | _ => .fail)

section
variable {A : Amb} (hT : Tab A) (hG : prog.globals.size ≤ A.G)
include hT hG

theorem pN4_ok : PrimOK prog A pN4 := by
  have h0 := pL_ok hT hG
  refine PrimOK.addP hmix hnum (pW46_ok hT hG) (PrimOK.addP hmix hnum (pW43_ok hT hG) (PrimOK.addP hmix hnum h0 (PrimOK.addP hmix hnum h0 h0 hG func41 (by kernel_rfl) ?_) hG func44 (by kernel_rfl) ?_) hG func43 (by kernel_rfl) ?_) hG func46 (by kernel_rfl) ?_
  · intro ls v h
    split at h
    · rename_i s
      obtain ⟨hs, hv⟩ := Tr.br1 h
      cases hv
      rcases run41 s hs with ⟨h1, h2⟩ | h1
      · exact ⟨rfl, 60, _, by rw [gsz]; exact h1, rfl, fun ι x => vr_int (by rw [h2]; rfl) x⟩
      · exact ⟨rfl, 60, _, by rw [gsz]; exact h1, rfl, fun ι x h => h⟩
    · cases h
  · intro ls v h
    split at h
    · rename_i s
      obtain ⟨hs, hv⟩ := Tr.br1 h
      cases hv
      exact ⟨rfl, 60, _, by rw [gsz]; exact run44 s hs, rfl, fun ι x h => h⟩
    · cases h
  · intro ls v h
    split at h
    · rename_i s
      obtain ⟨hs, hv⟩ := Tr.br1 h
      cases hv
      exact ⟨rfl, 60, _, by rw [gsz]; exact run43 s hs, rfl, fun ι x h => h⟩
    · cases h
  · intro ls v h
    split at h
    · rename_i s a
      obtain ⟨hs, hv⟩ := Tr.br1 h
      cases hv
      simp only [Bool.and_eq_true, decide_eq_true_eq] at hs
      obtain ⟨⟨ha0, ha1⟩, hs⟩ := hs
      obtain ⟨a, rfl⟩ : ∃ k : Nat, a = (k : Int) := ⟨a.toNat, by omega⟩
      exact ⟨rfl, 60, _, by rw [gsz]; exact run46 s a (by omega) hs, rfl, fun ι x h => by rw [Int.toNat_natCast]; exact h⟩
    · cases h
end
end Go.Proofs.Tryz
