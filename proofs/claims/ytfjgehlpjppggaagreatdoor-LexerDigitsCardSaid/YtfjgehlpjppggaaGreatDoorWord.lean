/- The lexer's program: words and numbers at the beginning of a text. -/
import Derived.Test.YtfjgehlpjppggaaGreatDoorBase
import Derived.Test.YtfjgehlpjppggaaGreatDoorAdPat
namespace Go.Proofs.Tryz
open Go.Ad
def sp89 (cs : List Int) : SP := ⟨[.str, .is (.slice (some (8, 0)) cs.length cs.length)], dd8 ++ [.cells (cs.map fun c => .is (.int .i64 c)) 1 true 3]⟩
def sq89 : SP := ⟨[.int .i64], dd8 ++ [.any]⟩
def T89 (cs : List Int) : List Lf → Tr (SP × List Lf)
 | [.s s] => .br (szOK s) (.leaf (sq89, [.i (lenC cs s), .o (.cells (cs.map fun c => .int .i64 c) 1 true 3)])) .fail
 | _ => .fail
theorem run89 (cs : List Int) (hcs : cs = [1, 2, 3] ∨ cs = [2]) (s : List UInt8) (hs : szOK s = true) : (runK prog (pW162 cs) 60).call 89 ((sp89 cs).rho [.s s]) ((sp89 cs).heap [.s s]) (finP sq89 9 []) = some [.i (lenC cs s), .o (.cells (cs.map fun c => .int .i64 c) 1 true 3)] := by
 have key : (runK prog (pW162 cs) 60).call 89 ((sp89 cs).rho [.s s]) ((sp89 cs).heap [.s s]) (finP sq89 9 []) =
   brK (propB ((s.length : Int) = s.length ∧ (0 : Int) = 0 ∧ (0 : Int) = 0 ∧ s = s ∧ lp162 cs s = lp162 cs s)) (brK (szOK s) (brK (decide (lenC cs s < s.length)) (some [.i (lenC cs s), .o (.cells (cs.map fun c => .int .i64 c) 1 true 3)])
    (some [.i (lenC cs s), .o (.cells (cs.map fun c => .int .i64 c) 1 true 3)])) none) none := by
  rcases hcs with rfl | rfl <;> kernel_rfl
 rw [key, propB_true ⟨rfl, rfl, rfl, rfl, rfl⟩, hs, brT, brT]
 cases decide (lenC cs s < s.length) <;> rfl
noncomputable def pL : Prims := pB.addh 89 (liftG 8 (altP (sp89 [1, 2, 3]) (funP (sp89 [1, 2, 3]) 9 [] (T89 [1, 2, 3])) (funP (sp89 [2]) 9 [] (T89 [2]))))
section
variable {A : Amb} (hT : Tab A) (hG : prog.globals.size ≤ A.G)
include hT hG
theorem f89_ok (cs : List Int) (hcs : cs = [1, 2, 3] ∨ cs = [2]) : ∀ args B v B' D, (funP (sp89 cs) 9 [] (T89 cs) args B).get = some (v, B', D) → AFr B B' D ∧ CallT prog A 89 args B v B' D := by
 refine funP_ok hmix hnum (by rcases hcs with rfl | rfl <;> rfl) fun ls sq l h => ?_
 unfold T89 at h
 split at h
 ·rename_i s
  obtain ⟨hs, hv⟩ := Tr.br1 h
  cases hv
  refine ⟨?_, rfl, rfl, pW162 cs, 60, pW162_ok hT hG cs hcs, run89 cs hcs s hs⟩
  rcases hcs with rfl | rfl <;> simp [frP, sp89, sq89, SP.heap, mkH, dd8, mkT, OP.mk, List.replicate, Pt.mk]
 ·cases h
theorem pL_ok : PrimOK prog A pL :=
 (pB_ok hT hG).addl gsz func89 (by kernel_rfl) (altP_ok (f89_ok hT hG _ (.inl rfl)) (f89_ok hT hG _ (.inr rfl)))
end
end Go.Proofs.Tryz
namespace Go.Proofs.Tryz
open Go.Ad
theorem cls1 (c : Int) : (clsI c == 1) = letB c := by
 unfold clsI letB
 repeat' split
 all_goals first
  | (rw [show ((1 : Int) == 1) = true from rfl]; symm; rw [decide_eq_true_eq]; assumption)
  | (rw [show (_ == (1 : Int)) = false from rfl]; symm; rw [decide_eq_false_iff_not]; omega)
theorem cls2 (c : Int) : (clsI c == 2) = digB c := by
 unfold clsI digB
 repeat' split
 all_goals first
  | (rw [show ((2 : Int) == 2) = true from rfl]; symm; rw [decide_eq_true_eq]; assumption)
  | (rw [show (_ == (2 : Int)) = false from rfl]; symm; rw [decide_eq_false_iff_not]; omega)
theorem cls3 (c : Int) : (clsI c == 3) = (c == 95) := by
 unfold clsI
 repeat' split
 all_goals first
  | (subst c; rfl)
  | (rw [show (_ == (3 : Int)) = false from rfl]; symm; rw [beq_eq_false_iff_ne]; omega)
theorem cls5 (c : Int) : (clsI c == 5) = (c == 32) := by
 unfold clsI
 repeat' split
 all_goals first
  | (subst c; rfl)
  | (rw [show (_ == (5 : Int)) = false from rfl]; symm; rw [beq_eq_false_iff_ne]; omega)
theorem sgn_all : ((List.range 256).all fun n => decide (0 ≤ sgnIx (n : Int)) == markB (n : Int)) = true := by kernel_rfl
theorem sgn_mark {c : Int} (h0 : 0 ≤ c) (h1 : c < 256) : decide (0 ≤ sgnIx c) = markB c := by
 obtain ⟨n, rfl⟩ : ∃ n : Nat, c = n := ⟨c.toNat, by omega⟩
 have := List.all_eq_true.1 sgn_all n (List.mem_range.2 (by omega))
 exact beq_iff_eq.1 this
theorem mark_plain : ((List.range 256).all fun n => !markB (n : Int) || (!letB (n : Int) && !digB (n : Int) && !((n : Int) == 95) && !((n : Int) == 32))) = true := by kernel_rfl
theorem cls4 {c : Int} (h0 : 0 ≤ c) (h1 : c < 256) : (clsI c == 4) = markB c := by
 have hm := sgn_mark h0 h1
 obtain ⟨n, rfl⟩ : ∃ n : Nat, c = n := ⟨c.toNat, by omega⟩
 have hp := List.all_eq_true.1 mark_plain n (List.mem_range.2 (by omega))
 unfold clsI
 cases hb : markB (n : Int) with
 | true =>
  rw [hb] at hm hp
  simp [letB, digB] at hp
  have := of_decide_eq_true hm
  rw [if_neg (by omega), if_neg (by omega), if_neg (by omega), if_neg (by omega), if_pos this]; rfl
 | false =>
  rw [hb] at hm
  have := of_decide_eq_false hm
  repeat' split
  all_goals first | rfl | contradiction
theorem bAt_range (s : List UInt8) (n : Nat) : 0 ≤ bAt s n ∧ bAt s n < 256 := by
 unfold bAt
 have := (s.getD n 0).toNat_lt
 omega
def wordN (s : List UInt8) : Nat := bif letB (bAt s 0) && !s.isEmpty then lenC [1, 2, 3] s else 0
def numN (s : List UInt8) : Nat × Nat :=
 bif decide (0 < lenC [2] s) && (decide (lenC [2] s + 1 < s.length) && (bAt s (lenC [2] s) == 46 && decide (0 < lenC [2] (s.drop (lenC [2] s + 1))))) then (lenC [2] s + 1 + lenC [2] (s.drop (lenC [2] s + 1)), lenC [2] s) else (lenC [2] s, lenC [2] s)
theorem lenC_le (cs : List Int) (s : List UInt8) : lenC cs s ≤ s.length := by
 have := (scanN_le (pCl cs s) s.length 0).2; simpa [lenC] using this
theorem wordly_eq (s : List UInt8) : wordlyN s = wordN s := by
 unfold wordlyN wordN
 cases s with
 | nil => simp [scanN]
 | cons b r =>
  cases h : letB (bAt (b :: r) 0) with
  | false =>
   simp only [Bool.false_and, cond_false, List.length_cons, scanN]
   have : pWd (b :: r) 0 = false := by simp [pWd, h]
   rw [this, cond_false]
  | true =>
   simp only [Bool.true_and, List.isEmpty_cons, Bool.not_false, cond_true]
   unfold lenC
   refine scanN_congr fun m _ _ => ?_
   unfold pWd pCl
   simp only [List.any_cons, List.any_nil, Bool.or_false, cls1, cls2, cls3]
   cases m with
   | zero => rw [h]; simp
   | succ m => simp
theorem bAt_drop (s : List UInt8) (a n : Nat) : bAt (s.drop a) n = bAt s (a + n) := by
 unfold bAt
 simp [List.getD_eq_getElem?_getD, List.getElem?_drop]
theorem digits_drop (s : List UInt8) (a : Nat) : digitsN s a = lenC [2] (s.drop a) := by
 unfold digitsN lenC
 rw [List.length_drop]
 refine scanN_congr fun m _ _ => ?_
 simp [pDg, pCl, cls2, bAt_drop]
theorem run41 (s : List UInt8) (hs : szOK s = true) : (runK prog pL 60).call 41 [.sstr s] (Bg 8) finV = some (.int .i64 0) ∧ wordN s = 0 ∨ (runK prog pL 60).call 41 [.sstr s] (Bg 8) finV = some (.sint .i64 (wordN s)) := by
 have h : (runK prog pL 60).call 41 [.sstr s] (Bg 8) finV = brK (s == []) (some (.int .i64 0)) (brK (decide ((0 : Int) ≤ 0 ∧ (0 : Int) < (s.length : Int))) (brK (clsI (bAt s 0) != 1) (some (.int .i64 0)) (brK (szOK s) (some (.sint .i64 (lenC [1, 2, 3] s))) none)) none) := by kernel_rfl
 rw [h, hs]
 unfold wordN
 cases s with
 | nil => left; exact ⟨rfl, by simp⟩
 | cons b r =>
  have h1 : ((b :: r) == ([] : List UInt8)) = false := rfl
  have h2 : decide ((0 : Int) ≤ 0 ∧ (0 : Int) < ((b :: r).length : Int)) = true := decide_eq_true (by simp)
  rw [h1, h2, bne, cls1]
  cases letB (bAt (b :: r) 0) with
  | true => right; rfl
  | false => left; exact ⟨rfl, rfl⟩
theorem run44 (s : List UInt8) (hs : szOK s = true) : (runK prog pL 60).call 44 [.sstr s] (Bg 8) finV = some (.tuple [.sint .i64 (numN s).1, .sint .i64 (numN s).2]) := by
 have h : (runK prog pL 60).call 44 [.sstr s] (Bg 8) finV = brK (szOK s) (brK ((lenC [2] s : Int) == 0) (some (.tuple [.sint .i64 (lenC [2] s), .sint .i64 (lenC [2] s)]))
   (brK (decide (W ((lenC [2] s : Int) + 1) ≥ (s.length : Int))) (some (.tuple [.sint .i64 (lenC [2] s), .sint .i64 (lenC [2] s)]))
   (brK (decide (0 ≤ (lenC [2] s : Int) ∧ (lenC [2] s : Int) < (s.length : Int))) (brK (bI s (lenC [2] s) != 46) (some (.tuple [.sint .i64 (lenC [2] s), .sint .i64 (lenC [2] s)]))
   (brK (true && decide (0 ≤ W ((lenC [2] s : Int) + 1) ∧ W ((lenC [2] s : Int) + 1) ≤ (s.length : Int))) (brK (szOK (List.drop (W ((lenC [2] s : Int) + 1)).toNat (List.take s.length s)))
    (brK ((lenC [2] (List.drop (W ((lenC [2] s : Int) + 1)).toNat (List.take s.length s)) : Int) == 0) (some (.tuple [.sint .i64 (lenC [2] s), .sint .i64 (lenC [2] s)]))
     (some (.tuple [.sint .i64 (W (W ((lenC [2] s : Int) + 1) + (lenC [2] (List.drop (W ((lenC [2] s : Int) + 1)).toNat (List.take s.length s)) : Int))), .sint .i64 (lenC [2] s)]))) none) none)) none))) none := by kernel_rfl
 rw [h, hs, brT]
 have hs' := of_decide_eq_true hs
 have hl := lenC_le [2] s
 have hw : W ((lenC [2] s : Int) + 1) = ((lenC [2] s + 1 : Nat) : Int) := by rw [W, wrap64 (by omega) (by omega)]; omega
 rw [hw, Int.toNat_natCast, List.take_length]
 unfold numN
 generalize hd : lenC [2] s = d at hl ⊢
 have hb : bI s (d : Int) = bAt s d := by simp [bI, bAt]
 rw [hb]
 by_cases h0 : d = 0
 ·subst h0; rfl
 have e0 : ((d : Int) == 0) = false := by rw [beq_eq_false_iff_ne]; omega
 rw [e0, brF, decide_eq_true (show 0 < d by omega), Bool.true_and]
 by_cases h1 : d + 1 < s.length
 case neg =>
  have e1 : decide (((d + 1 : Nat) : Int) ≥ (s.length : Int)) = true := decide_eq_true (by omega)
  rw [e1, brT, decide_eq_false h1]; rfl
 have e1 : decide (((d + 1 : Nat) : Int) ≥ (s.length : Int)) = false := decide_eq_false (by omega)
 have e2 : decide (0 ≤ (d : Int) ∧ (d : Int) < (s.length : Int)) = true := decide_eq_true (by omega)
 have e3 : decide (0 ≤ ((d + 1 : Nat) : Int) ∧ ((d + 1 : Nat) : Int) ≤ (s.length : Int)) = true := decide_eq_true (by omega)
 have e4 : szOK (s.drop (d + 1)) = true := decide_eq_true (by rw [List.length_drop]; omega)
 rw [e1, brF, e2, brT, decide_eq_true h1, Bool.true_and, e3, e4, bne]
 cases hc : bAt s d == 46 with
 | false => rfl
 | true =>
  simp only [Bool.not_true, brF, brT, Bool.true_and]
  have hl2 := lenC_le [2] (s.drop (d + 1))
  rw [List.length_drop] at hl2
  generalize lenC [2] (s.drop (d + 1)) = m at hl2 ⊢
  by_cases hm : m = 0
  ·subst hm; rfl
  ·have e5 : ((m : Int) == 0) = false := by rw [beq_eq_false_iff_ne]; omega
   have e6 : W (((d + 1 : Nat) : Int) + (m : Int)) = ((d + 1 + m : Nat) : Int) := by rw [W, wrap64 (by omega) (by omega)]; omega
   rw [e5, brF, e6, decide_eq_true (show 0 < m by omega)]; rfl
theorem run43 (s : List UInt8) (hs : szOK s = true) : (runK prog pW43 60).call 43 [.sstr s] (Bg 8) finV = some (.sint .i64 (wordN s)) := by
 have h : (runK prog pW43 60).call 43 [.sstr s] (Bg 8) finV = brK (decide ((0 : Int) = 0) && szOK s) (some (.sint .i64 (wordlyN s))) none := by kernel_rfl
 rw [h, hs, wordly_eq]; rfl
theorem run46 (s : List UInt8) (a : Nat) (ha : a ≤ s.length) (hs : szOK s = true) : (runK prog pW46 60).call 46 [.sstr s, .sint .i64 a] (Bg 8) finV = some (.sint .i64 (lenC [2] (s.drop a))) := by
 have h : (runK prog pW46 60).call 46 [.sstr s, .sint .i64 a] (Bg 8) finV = brK (decide ((0 : Int) = 0 ∧ 0 ≤ (a : Int) ∧ (a : Int) ≤ s.length) && szOK s) (some (.sint .i64 (digitsN s (a : Int).toNat))) none := by kernel_rfl
 rw [h, hs, decide_eq_true (show (0 : Int) = 0 ∧ 0 ≤ (a : Int) ∧ (a : Int) ≤ s.length by omega), Int.toNat_natCast, digits_drop]; rfl
noncomputable def pN1 : Prims := pL.addt 41 (gP [.str] fun | [.s s] => .br (szOK s) (.leaf (.sint .i64 (wordN s))) .fail | _ => .fail)
noncomputable def pN2 : Prims := pN1.addt 44 (gP [.str] fun | [.s s] => .br (szOK s) (.leaf (.tuple [.sint .i64 (numN s).1, .sint .i64 (numN s).2])) .fail | _ => .fail)
noncomputable def pN3 : Prims := pN2.addt 43 (gP [.str] fun | [.s s] => .br (szOK s) (.leaf (.sint .i64 (wordN s))) .fail | _ => .fail)
noncomputable def pN4 : Prims := pN3.addt 46 (gP [.str, .int .i64] fun | [.s s, .i a] => .br (decide (0 ≤ a ∧ a ≤ (s.length : Int)) && szOK s) (.leaf (.sint .i64 (lenC [2] (s.drop a.toNat)))) .fail | _ => .fail)
section
variable {A : Amb} (hT : Tab A) (hG : prog.globals.size ≤ A.G)
include hT hG
theorem pN4_ok : PrimOK prog A pN4 := by
 have h0 := pL_ok hT hG
 refine PrimOK.addP hmix hnum (pW46_ok hT hG) (PrimOK.addP hmix hnum (pW43_ok hT hG) (PrimOK.addP hmix hnum h0 (PrimOK.addP hmix hnum h0 h0 hG func41 (by kernel_rfl) ?_) hG func44 (by kernel_rfl) ?_) hG func43 (by kernel_rfl) ?_) hG func46 (by kernel_rfl) ?_
 ·intro ls v h
  split at h
  ·rename_i s
   obtain ⟨hs, hv⟩ := Tr.br1 h
   cases hv
   rcases run41 s hs with ⟨h1, h2⟩ | h1
   ·exact ⟨rfl, 60, _, by rw [gsz]; exact h1, rfl, fun ι x => vr_int (by rw [h2]; rfl) x⟩
   ·exact ⟨rfl, 60, _, by rw [gsz]; exact h1, rfl, fun ι x h => h⟩
  ·cases h
 ·intro ls v h
  split at h
  ·rename_i s
   obtain ⟨hs, hv⟩ := Tr.br1 h
   cases hv
   exact ⟨rfl, 60, _, by rw [gsz]; exact run44 s hs, rfl, fun ι x h => h⟩
  ·cases h
 ·intro ls v h
  split at h
  ·rename_i s
   obtain ⟨hs, hv⟩ := Tr.br1 h
   cases hv
   exact ⟨rfl, 60, _, by rw [gsz]; exact run43 s hs, rfl, fun ι x h => h⟩
  ·cases h
 ·intro ls v h
  split at h
  ·rename_i s a
   obtain ⟨hs, hv⟩ := Tr.br1 h
   cases hv
   simp only [Bool.and_eq_true, decide_eq_true_eq] at hs
   obtain ⟨⟨ha0, ha1⟩, hs⟩ := hs
   obtain ⟨a, rfl⟩ : ∃ k : Nat, a = (k : Int) := ⟨a.toNat, by omega⟩
   exact ⟨rfl, 60, _, by rw [gsz]; exact run46 s a (by omega) hs, rfl, fun ι x h => by rw [Int.toNat_natCast]; exact h⟩
  ·cases h
end
end Go.Proofs.Tryz
namespace Go.Proofs.Tryz
open Go.Ad
theorem run45 (s : List UInt8) (hs : szOK s = true) : (runK prog pN4 60).call 45 [.sstr s] (Bg 8) finV = some (.sint .i64 (numN s).1) := by
 have h : (runK prog pN4 60).call 45 [.sstr s] (Bg 8) finV = brK (decide ((0 : Int) ≤ 0 ∧ (0 : Int) ≤ (s.length : Int)) && szOK s) (brK (decide ((lenC [2] (s.drop 0) : Int) > 0))
  (brK (decide ((lenC [2] (s.drop 0) : Int) < (s.length : Int))) (brK (decide (0 ≤ (lenC [2] (s.drop 0) : Int) ∧ (lenC [2] (s.drop 0) : Int) < (s.length : Int))) (brK (bI s (lenC [2] (s.drop 0)) == 46)
   (brK (decide (0 ≤ W ((lenC [2] (s.drop 0) : Int) + 1) ∧ W ((lenC [2] (s.drop 0) : Int) + 1) ≤ (s.length : Int)) && szOK s)
    (brK (decide ((lenC [2] (s.drop (W ((lenC [2] (s.drop 0) : Int) + 1)).toNat) : Int) > 0))
     (brK (decide (0 ≤ W ((lenC [2] (s.drop 0) : Int) + 1) ∧ W ((lenC [2] (s.drop 0) : Int) + 1) ≤ (s.length : Int)) && szOK s)
      (some (.sint .i64 (W (W ((lenC [2] (s.drop 0) : Int) + 1) + (lenC [2] (s.drop (W ((lenC [2] (s.drop 0) : Int) + 1)).toNat) : Int))))) none)
     (some (.sint .i64 (lenC [2] (s.drop 0))))) none)
   (some (.sint .i64 (lenC [2] (s.drop 0))))) none)
   (some (.sint .i64 (lenC [2] (s.drop 0)))))
  (some (.sint .i64 (lenC [2] (s.drop 0))))) none := by kernel_rfl
 rw [h, hs, List.drop_zero, decide_eq_true (show (0 : Int) ≤ 0 ∧ (0 : Int) ≤ (s.length : Int) by omega), Bool.and_self, brT]
 have hs' := of_decide_eq_true hs
 have hl := lenC_le [2] s
 have hw : W ((lenC [2] s : Int) + 1) = ((lenC [2] s + 1 : Nat) : Int) := by rw [W, wrap64 (by omega) (by omega)]; omega
 rw [hw, Int.toNat_natCast]
 unfold numN
 generalize hd : lenC [2] s = d at hl ⊢
 have hb : bI s (d : Int) = bAt s d := by simp [bI, bAt]
 rw [hb]
 by_cases h0 : 0 < d
 case neg => rw [decide_eq_false (show ¬ ((d : Int) > 0) by omega), decide_eq_false h0]; rfl
 rw [decide_eq_true (show (d : Int) > 0 by omega), brT, decide_eq_true h0, Bool.true_and]
 by_cases h1 : d < s.length
 case neg => rw [decide_eq_false (show ¬ ((d : Int) < (s.length : Int)) by omega), decide_eq_false (show ¬ d + 1 < s.length by omega)]; rfl
 rw [decide_eq_true (show (d : Int) < (s.length : Int) by omega), brT, decide_eq_true (show 0 ≤ (d : Int) ∧ (d : Int) < (s.length : Int) by omega), brT]
 rw [decide_eq_true (show 0 ≤ ((d + 1 : Nat) : Int) ∧ ((d + 1 : Nat) : Int) ≤ (s.length : Int) by omega), Bool.and_self]
 cases hc : bAt s d == 46 with
 | false => simp only [brF, Bool.false_and, Bool.and_false, cond_false]
 | true =>
  simp only [brT, Bool.true_and]
  have hl2 := lenC_le [2] (s.drop (d + 1))
  rw [List.length_drop] at hl2
  generalize lenC [2] (s.drop (d + 1)) = m at hl2 ⊢
  by_cases hm : 0 < m
  ·have e6 : W (((d + 1 : Nat) : Int) + (m : Int)) = ((d + 1 + m : Nat) : Int) := by rw [W, wrap64 (by omega) (by omega)]; omega
   rw [decide_eq_true (show (m : Int) > 0 by omega), brT, decide_eq_true hm, decide_eq_true (show d + 1 < s.length by omega), e6]; rfl
  ·rw [decide_eq_false (show ¬ ((m : Int) > 0) by omega), decide_eq_false hm, brF]; simp
noncomputable def pN5 : Prims := pN4.addt 45 (gP [.str] fun | [.s s] => .br (szOK s) (.leaf (.sint .i64 (numN s).1)) .fail | _ => .fail)
def errW (s : List UInt8) : Int := if wordN s = 0 ∨ wordN s ≠ s.length then 3 else if s.length > 24 then 17 else 0
def errN (s : List UInt8) : Int := if (numN s).1 = 0 ∨ (numN s).1 ≠ s.length ∨ ((numN s).2 > 1 ∧ bAt s 0 = 48) then 3 else if s.length > 24 then 17 else 0
theorem numN_le (s : List UInt8) : (numN s).2 ≤ (numN s).1 ∧ (numN s).1 ≤ s.length ∧ ((numN s).1 = 0 ↔ (numN s).2 = 0) ∧ (numN s).2 = lenC [2] s := by
 have hl := lenC_le [2] s
 have hl2 := lenC_le [2] (s.drop (lenC [2] s + 1))
 rw [List.length_drop] at hl2
 unfold numN
 generalize lenC [2] (s.drop (lenC [2] s + 1)) = m at *
 generalize lenC [2] s = d at *
 cases h : (decide (0 < d) && (decide (d + 1 < s.length) && (bAt s d == 46 && decide (0 < m)))) with
 | true =>
  simp only [Bool.and_eq_true, decide_eq_true_eq] at h
  simp only [cond_true]
  refine ⟨?_, ?_, ?_, ?_⟩ <;> first | omega | trivial
 | false => simp only [cond_false]; exact ⟨Nat.le_refl _, hl, trivial, trivial⟩
theorem errW_tree (s : List UInt8) : brK (s == []) (some (AV.int .i64 3)) (brK true (brK ((wordN s : Int) != (s.length : Int)) (some (.int .i64 3)) (brK (decide ((s.length : Int) > 24)) (some (.int .i64 17)) (some (.int .i64 0)))) none) = some (.int .i64 (errW s)) := by
 unfold errW
 cases s with
 | nil => rfl
 | cons b r =>
  have e1 : ((b :: r) == ([] : List UInt8)) = false := rfl
  rw [e1, brF, brT]
  have hp : 0 < (b :: r).length := by simp
  generalize (b :: r).length = k at *
  simp only [brK_ite, bne_iff_ne, ne_eq, decide_eq_true_eq]
  repeat' split
  all_goals first | rfl | omega
theorem run13 (s : List UInt8) (hs : szOK s = true) : (runK prog pN5 60).call 13 [.sstr s] (Bg 8) finV = some (.int .i64 (errW s)) := by
 have h : (runK prog pN5 60).call 13 [.sstr s] (Bg 8) finV = brK (s == []) (some (.int .i64 3)) (brK (szOK s) (brK ((wordN s : Int) != (s.length : Int)) (some (.int .i64 3)) (brK (decide ((s.length : Int) > 24)) (some (.int .i64 17)) (some (.int .i64 0)))) none) := by kernel_rfl
 rw [h, hs, errW_tree]
theorem run14 (s : List UInt8) (hs : szOK s = true) : (runK prog pN5 60).call 14 [.sstr s] (Bg 8) finV = some (.int .i64 (errW s)) := by
 have h : (runK prog pN5 60).call 14 [.sstr s] (Bg 8) finV = brK (s == []) (some (.int .i64 3)) (brK (szOK s) (brK ((wordN s : Int) != (s.length : Int)) (some (.int .i64 3)) (brK (decide ((s.length : Int) > 24)) (some (.int .i64 17)) (some (.int .i64 0)))) none) := by kernel_rfl
 rw [h, hs, errW_tree]
theorem run15 (s : List UInt8) (hs : szOK s = true) : (runK prog pN5 60).call 15 [.sstr s] (Bg 8) finV = some (.int .i64 (errN s)) := by
 have h : (runK prog pN5 60).call 15 [.sstr s] (Bg 8) finV = brK (szOK s) (brK (((numN s).1 : Int) == 0) (some (.int .i64 3)) (brK (((numN s).1 : Int) != (s.length : Int)) (some (.int .i64 3))
   (brK (decide (((numN s).2 : Int) > 1)) (brK (decide ((0 : Int) ≤ 0 ∧ (0 : Int) < (s.length : Int))) (brK (bAt s 0 == 48) (some (.int .i64 3)) (brK (decide (((numN s).1 : Int) > 24)) (some (.int .i64 17)) (some (.int .i64 0)))) none)
    (brK (decide (((numN s).1 : Int) > 24)) (some (.int .i64 17)) (some (.int .i64 0)))))) none := by kernel_rfl
 rw [h, hs, brT]
 obtain ⟨h1, h2, h3, _⟩ := numN_le s
 unfold errN
 simp only [brK_ite, beq_iff_eq, bne_iff_ne, ne_eq, decide_eq_true_eq]
 repeat' split
 all_goals first | rfl | omega
theorem run16 (s : List UInt8) (hs : szOK s = true) : (runK prog pN5 60).call 16 [.sstr s] (Bg 8) finV = some (.int .i64 (errN s)) := by
 have h : (runK prog pN5 60).call 16 [.sstr s] (Bg 8) finV = brK (s == []) (some (.int .i64 3)) (brK (szOK s) (brK (((numN s).1 : Int) != (s.length : Int)) (some (.int .i64 3))
   (brK (decide ((0 : Int) ≤ 0 ∧ (0 : Int) ≤ (s.length : Int)) && szOK s) (brK (decide ((lenC [2] (s.drop 0) : Int) > 1)) (brK (decide ((0 : Int) ≤ 0 ∧ (0 : Int) < (s.length : Int))) (brK (bAt s 0 == 48) (some (.int .i64 3)) (brK (decide ((s.length : Int) > 24)) (some (.int .i64 17)) (some (.int .i64 0)))) none)
    (brK (decide ((s.length : Int) > 24)) (some (.int .i64 17)) (some (.int .i64 0)))) none)) none) := by kernel_rfl
 rw [h, hs, brT, List.drop_zero]
 obtain ⟨h1, h2, h3, h4⟩ := numN_le s
 rw [← h4]
 unfold errN
 cases s with
 | nil => rfl
 | cons b r =>
  have e1 : ((b :: r) == ([] : List UInt8)) = false := rfl
  rw [e1, brF]
  have hp : 0 < (b :: r).length := by simp
  generalize (b :: r).length = k at *
  simp only [brK_ite, beq_iff_eq, bne_iff_ne, ne_eq, decide_eq_true_eq, Bool.and_true]
  repeat' split
  all_goals first | rfl | omega
def gErr (g : List UInt8 → Int) : List Lf → Tr AV
 | [.s s] => .br (szOK s) (.leaf (.sint .i64 (g s))) .fail
 | _ => .fail
noncomputable def pE : Prims := (((pN5.addt 13 (gP [.str] (gErr errW))).addt 14 (gP [.str] (gErr errW))).addt 15 (gP [.str] (gErr errN))).addt 16 (gP [.str] (gErr errN))
section
variable {A : Amb} (hT : Tab A) (hG : prog.globals.size ≤ A.G)
include hT hG
theorem pN5_ok : PrimOK prog A pN5 := by
 refine PrimOK.addP hmix hnum (pN4_ok hT hG) (pN4_ok hT hG) hG func45 (by kernel_rfl) fun ls v h => ?_
 split at h
 ·rename_i s
  obtain ⟨hs, hv⟩ := Tr.br1 h
  cases hv
  exact ⟨rfl, 60, _, by rw [gsz]; exact run45 s hs, rfl, fun ι x h => h⟩
 ·cases h
theorem pE_ok : PrimOK prog A pE := by
 have h0 := pN5_ok hT hG
 have key : ∀ (f : FuncId) (g : List UInt8 → Int), (∀ s, szOK s = true → (runK prog pN5 60).call f [.sstr s] (Bg 8) finV = some (.int .i64 (g s))) → ∀ ls v, (gErr g ls).get = some v →
   belowL 0 (mkT [.str] ls).1 = true ∧ ∃ n v', (runK prog pN5 n).call f (mkT [.str] ls).1 (Bg prog.globals.size) finV = some v' ∧ below 0 v' = true ∧ ∀ ι x, VR ι v' x → VR ι v x := by
  intro f g hr ls v h
  unfold gErr at h
  split at h
  ·rename_i s
   obtain ⟨hs, hv⟩ := Tr.br1 h
   cases hv
   exact ⟨rfl, 60, _, by rw [gsz]; exact hr s hs, rfl, fun ι x => vr_int rfl x⟩
  ·cases h
 exact PrimOK.addP hmix hnum h0 (PrimOK.addP hmix hnum h0 (PrimOK.addP hmix hnum h0 (PrimOK.addP hmix hnum h0 h0 hG func13 (by kernel_rfl) (key _ _ run13)) hG func14 (by kernel_rfl) (key _ _ run14)) hG func15 (by kernel_rfl) (key _ _ run15)) hG func16 (by kernel_rfl) (key _ _ run16)
end
end Go.Proofs.Tryz
namespace Go.Proofs.Tryz
open Go.Ad
def tokK (s : List UInt8) : Int × Nat × Int :=
 bif letB (bAt s 0) then (0, wordN s, errW (s.take (wordN s))) else bif digB (bAt s 0) then (1, (numN s).1, errN (s.take (numN s).1)) else bif markB (bAt s 0) then (2, 1, 0) else (0, 0, 4)
def tokV (t : Int × Nat × Int) : AV := .tuple [.sint .i64 t.1, .sint .i64 t.2.1, .sint .i64 t.2.2]
theorem vr_tup3 {ι : Emb} {a b c a' b' c' : AV} (h1 : ∀ v, VR ι a v → VR ι a' v) (h2 : ∀ v, VR ι b v → VR ι b' v) (h3 : ∀ v, VR ι c v → VR ι c' v) (x : Value) (h : VR ι (.tuple [a, b, c]) x) : VR ι (.tuple [a', b', c']) x := by
 simp only [VR, VRL] at h ⊢
 obtain ⟨xs, rfl, x1, r1, e1, q1, x2, r2, e2, q2, x3, r3, e3, q3, q4⟩ := h
 exact ⟨xs, rfl, x1, r1, e1, h1 _ q1, x2, r2, e2, h2 _ q2, x3, r3, e3, h3 _ q3, q4⟩
theorem wordN_le (s : List UInt8) : wordN s ≤ s.length := by
 unfold wordN
 have := lenC_le [1, 2, 3] s
 cases letB (bAt s 0) && !s.isEmpty <;> simp [this]
theorem scan_pos {p : Nat → Bool} {k : Nat} (hk : 0 < k) (h : p 0 = true) : 0 < scanN p k 0 := by
 obtain ⟨j, rfl⟩ : ∃ j, k = j + 1 := ⟨k - 1, by omega⟩
 simp only [scanN, h, cond_true]
 have := (scanN_le p j (0 + 1)).1
 omega
theorem wordN_pos {s : List UInt8} (hne : s.isEmpty = false) : 0 < wordN s ↔ letB (bAt s 0) = true := by
 have hl : 0 < s.length := by cases s with | nil => simp at hne | cons => simp
 unfold wordN
 rw [hne]
 cases h : letB (bAt s 0) with
 | false => simp
 | true =>
  simp only [Bool.not_false, Bool.and_self, cond_true, iff_true]
  exact scan_pos hl (by simp [pCl, cls1, h])
theorem numN_pos {s : List UInt8} (hne : s.isEmpty = false) : 0 < (numN s).1 ↔ digB (bAt s 0) = true := by
 have hl : 0 < s.length := by cases s with | nil => simp at hne | cons => simp
 obtain ⟨h1, h2, h3, h4⟩ := numN_le s
 have e : 0 < (numN s).1 ↔ 0 < lenC [2] s := by omega
 rw [e]
 constructor
 ·intro h
  have := scanN_true (p := pCl [2] s) (k := s.length) (n := 0) (m := 0) (Nat.le_refl _) h
  simpa [pCl, cls2] using this
 ·intro h
  exact scan_pos hl (by simp [pCl, cls2, h])
theorem szOK_take {s : List UInt8} (hs : szOK s = true) (n : Nat) : szOK (s.take n) = true := by
 have := of_decide_eq_true hs
 exact decide_eq_true (by rw [List.length_take]; omega)
theorem run48 (s : List UInt8) (hs : szOK s = true) (hne : s.isEmpty = false) : ∃ v', (runK prog pE 60).call 48 [.sstr s] (Bg 8) finV = some v' ∧ below 0 v' = true ∧ ∀ ι x, VR ι v' x → VR ι (tokV (tokK s)) x := by
 have h : (runK prog pE 60).call 48 [.sstr s] (Bg 8) finV =
   brK (decide ((0 : Int) ≤ 0 ∧ (0 : Int) < (s.length : Int))) (brK (clsI (bAt s 0) == 1) (brK (szOK s) (brK (decide (0 ≤ (wordN s : Int) ∧ (wordN s : Int) ≤ (s.length : Int)) && true) (brK (szOK (List.drop 0 (List.take (wordN s) s)))
     (some (.tuple [.int .i64 0, .sint .i64 (wordN s), .sint .i64 (errW (List.drop 0 (List.take (wordN s) s)))])) none) none) none)
    (brK (clsI (bAt s 0) == 2) (brK (szOK s) (brK (decide (0 ≤ ((numN s).1 : Int) ∧ ((numN s).1 : Int) ≤ (s.length : Int)) && true) (brK (szOK (List.drop 0 (List.take (numN s).1 s)))
     (some (.tuple [.int .i64 1, .sint .i64 (numN s).1, .sint .i64 (errN (List.drop 0 (List.take (numN s).1 s)))])) none) none) none)
    (brK (clsI (bAt s 0) == 4) (some (.tuple [.int .i64 2, .int .i64 1, .int .i64 0])) (some (.tuple [.int .i64 0, .int .i64 0, .int .i64 4]))))) none := by kernel_rfl
 have hl : 0 < s.length := by cases s with | nil => simp at hne | cons => simp
 have hw := wordN_le s
 have hn := (numN_le s).2.1
 obtain ⟨b0, b1⟩ := bAt_range s 0
 rw [h, decide_eq_true (show (0 : Int) ≤ 0 ∧ (0 : Int) < (s.length : Int) by omega), brT, hs, cls1, cls2, cls4 b0 b1, List.drop_zero, List.drop_zero, szOK_take hs, szOK_take hs,
  decide_eq_true (show 0 ≤ (wordN s : Int) ∧ (wordN s : Int) ≤ (s.length : Int) by omega), decide_eq_true (show 0 ≤ ((numN s).1 : Int) ∧ ((numN s).1 : Int) ≤ (s.length : Int) by omega)]
 unfold tokK
 cases letB (bAt s 0) with
 | true => exact ⟨_, rfl, rfl, fun ι => vr_tup3 (vr_int rfl) (fun _ h => h) (fun _ h => h)⟩
 | false => cases digB (bAt s 0) with
  | true => exact ⟨_, rfl, rfl, fun ι => vr_tup3 (vr_int rfl) (fun _ h => h) (fun _ h => h)⟩
  | false => cases markB (bAt s 0) with
   | true => exact ⟨_, rfl, rfl, fun ι => vr_tup3 (vr_int rfl) (vr_int rfl) (vr_int rfl)⟩
   | false => exact ⟨_, rfl, rfl, fun ι => vr_tup3 (vr_int rfl) (vr_int rfl) (vr_int rfl)⟩
theorem run49 (s : List UInt8) (hs : szOK s = true) (hne : s.isEmpty = false) : ∃ v', (runK prog pE 60).call 49 [.sstr s] (Bg 8) finV = some v' ∧ below 0 v' = true ∧ ∀ ι x, VR ι v' x → VR ι (tokV (tokK s)) x := by
 have h : (runK prog pE 60).call 49 [.sstr s] (Bg 8) finV =
   brK (szOK s) (brK (decide ((wordN s : Int) > 0)) (brK (decide (0 ≤ (wordN s : Int) ∧ (wordN s : Int) ≤ (s.length : Int)) && true) (brK (szOK (List.drop 0 (List.take (wordN s) s)))
     (some (.tuple [.int .i64 0, .sint .i64 (wordN s), .sint .i64 (errW (List.drop 0 (List.take (wordN s) s)))])) none) none)
    (brK (szOK s) (brK (decide (((numN s).1 : Int) > 0)) (brK (decide (0 ≤ ((numN s).1 : Int) ∧ ((numN s).1 : Int) ≤ (s.length : Int)) && true) (brK (szOK (List.drop 0 (List.take (numN s).1 s)))
     (some (.tuple [.int .i64 1, .sint .i64 (numN s).1, .sint .i64 (errN (List.drop 0 (List.take (numN s).1 s)))])) none) none)
    (brK (decide ((0 : Int) ≤ 0 ∧ (0 : Int) < (s.length : Int))) (brK (markB (bAt s 0)) (some (.tuple [.int .i64 2, .int .i64 1, .int .i64 0])) (some (.tuple [.int .i64 0, .int .i64 0, .int .i64 4]))) none)) none)) none := by kernel_rfl
 have hl : 0 < s.length := by cases s with | nil => simp at hne | cons => simp
 have hw := wordN_le s
 have hn := (numN_le s).2.1
 have e1 : decide ((wordN s : Int) > 0) = letB (bAt s 0) := by
  have := wordN_pos hne
  cases hc : letB (bAt s 0) with
  | true => exact decide_eq_true (by rw [hc] at this; have := this.2 rfl; omega)
  | false => exact decide_eq_false (by rw [hc] at this; simp at this; omega)
 have e2 : decide (((numN s).1 : Int) > 0) = digB (bAt s 0) := by
  have := numN_pos hne
  cases hc : digB (bAt s 0) with
  | true => exact decide_eq_true (by rw [hc] at this; have := this.2 rfl; omega)
  | false => exact decide_eq_false (by rw [hc] at this; simp at this; omega)
 rw [h, hs, e1, e2, decide_eq_true (show (0 : Int) ≤ 0 ∧ (0 : Int) < (s.length : Int) by omega), List.drop_zero, List.drop_zero, szOK_take hs, szOK_take hs,
  decide_eq_true (show 0 ≤ (wordN s : Int) ∧ (wordN s : Int) ≤ (s.length : Int) by omega), decide_eq_true (show 0 ≤ ((numN s).1 : Int) ∧ ((numN s).1 : Int) ≤ (s.length : Int) by omega)]
 unfold tokK
 cases letB (bAt s 0) with
 | true => exact ⟨_, rfl, rfl, fun ι => vr_tup3 (vr_int rfl) (fun _ h => h) (fun _ h => h)⟩
 | false => cases digB (bAt s 0) with
  | true => exact ⟨_, rfl, rfl, fun ι => vr_tup3 (vr_int rfl) (fun _ h => h) (fun _ h => h)⟩
  | false => cases markB (bAt s 0) with
   | true => exact ⟨_, rfl, rfl, fun ι => vr_tup3 (vr_int rfl) (vr_int rfl) (vr_int rfl)⟩
   | false => exact ⟨_, rfl, rfl, fun ι => vr_tup3 (vr_int rfl) (vr_int rfl) (vr_int rfl)⟩
def gTok : List Lf → Tr AV
 | [.s s] => .br (szOK s && !s.isEmpty) (.leaf (tokV (tokK s))) .fail
 | _ => .fail
noncomputable def pT : Prims := (pE.addt 48 (gP [.str] gTok)).addt 49 (gP [.str] gTok)
theorem pT_ok {A : Amb} (hT : Tab A) (hG : prog.globals.size ≤ A.G) : PrimOK prog A pT := by
 have h0 := pE_ok hT hG
 have key : ∀ (f : FuncId), (∀ s, szOK s = true → s.isEmpty = false → ∃ v', (runK prog pE 60).call f [.sstr s] (Bg 8) finV = some v' ∧ below 0 v' = true ∧ ∀ ι x, VR ι v' x → VR ι (tokV (tokK s)) x) → ∀ ls v, (gTok ls).get = some v →
   belowL 0 (mkT [.str] ls).1 = true ∧ ∃ n v', (runK prog pE n).call f (mkT [.str] ls).1 (Bg prog.globals.size) finV = some v' ∧ below 0 v' = true ∧ ∀ ι x, VR ι v' x → VR ι v x := by
  intro f hr ls v h
  unfold gTok at h
  split at h
  ·rename_i s
   obtain ⟨hs, hv⟩ := Tr.br1 h
   cases hv
   simp only [Bool.and_eq_true, Bool.not_eq_true'] at hs
   obtain ⟨v', q1, q2, q3⟩ := hr s hs.1 hs.2
   exact ⟨rfl, 60, v', by rw [gsz]; exact q1, q2, q3⟩
  ·cases h
 exact PrimOK.addP hmix hnum h0 (PrimOK.addP hmix hnum h0 h0 hG func48 (by kernel_rfl) (key _ run48)) hG func49 (by kernel_rfl) (key _ run49)
theorem tokK_le (s : List UInt8) (hne : s.isEmpty = false) : (tokK s).2.1 ≤ s.length ∧ ((tokK s).2.2 = 0 → 0 < (tokK s).2.1) := by
 have hl : 0 < s.length := by cases s with | nil => simp at hne | cons => simp
 have hw := wordN_le s
 have hn := (numN_le s).2.1
 have p1 := wordN_pos hne
 have p2 := numN_pos hne
 unfold tokK
 cases h1 : letB (bAt s 0) with
 | true => exact ⟨hw, fun _ => p1.2 h1⟩
 | false => cases h2 : digB (bAt s 0) with
  | true => exact ⟨hn, fun _ => p2.2 h2⟩
  | false => cases markB (bAt s 0) with
   | true => exact ⟨hl, fun _ => Nat.one_pos⟩
   | false => exact ⟨Nat.zero_le _, fun h => by cases h⟩
end Go.Proofs.Tryz
