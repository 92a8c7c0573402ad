/- Texts of classes: the program's reading of a text, and the reference's, as known functions. -/
import Derived.Test.YtnkdndjhgoahgaaGreatDoorPrs2

namespace Go.Proofs.Tryz
open Go.Ad

def clsE (e : Int) : AV := .tuple [.agg [.bool false, .int .i64 0, .int .i64 0], .int .i64 e]
def s0 (s : List UInt8) : UInt8 := s.getD 0 0
def dgt (s : List UInt8) : List UInt8 := s.drop 1
def gradF (s : List UInt8) : Int := numF 0 (dgt s)
def holeF (s : List UInt8) : Bool := decide ((s0 s).toNat < 97)
def letF (s : List UInt8) : Int := if holeF s then Lib.indexByte capS (s0 s) else Lib.indexByte lettS (s0 s)
def okS (s : List UInt8) : Bool := (decide (2 ≤ s.length) && decide (s.length ≤ 4)) && (decide (0 ≤ letF s) && ((dgt s).all isDig && !(decide (s.getD 1 0 = 48) && decide (2 < s.length))))
def okG (s : List UInt8) : Bool := decide (5 ≤ gradF s) && decide (gradF s ≤ 12)
def clsV (s : List UInt8) : AV := .tuple [.agg [.sbool (holeF s), .rng .i64 (letF s) 0 9, .rng .i64 (gradF s) 5 12], .int .i64 0]

theorem lett_cap (b : UInt8) : (b.toNat < 97 → Lib.indexByte lettS b = -1) ∧ (¬ b.toNat < 97 → Lib.indexByte capS b = -1) := by
  have h : ((List.range 256).all fun n => (!(decide (n < 97)) || Lib.indexByte lettS n.toUInt8 == -1) && (decide (n < 97) || Lib.indexByte capS n.toUInt8 == -1)) = true := by kernel_rfl
  have hb := List.all_eq_true.1 h b.toNat (List.mem_range.2 b.toNat_lt)
  have e : b.toNat.toUInt8 = b := by simp
  rw [e] at hb
  simp only [Bool.and_eq_true, Bool.or_eq_true, Bool.not_eq_true', decide_eq_false_iff_not, decide_eq_true_eq, beq_iff_eq] at hb
  exact ⟨fun h => hb.1.resolve_left (fun g => g h), fun h => hb.2.resolve_left h⟩

/-! What is left when the program has a letter. -/
def prNum (s L : List UInt8) : Option AV :=
  brK (decide (0 < (List.drop 1 (List.take s.length s)).length) && (decide ((List.drop 1 (List.take s.length s)).length ≤ 3) && (List.drop 1 (List.take s.length s)).all isDig))
    (brK (decide (numF 0 (List.drop 1 (List.take s.length s)) < 5)) (some (clsE 2)) (brK (decide (numF 0 (List.drop 1 (List.take s.length s)) > 12)) (some (clsE 2))
      (some (.tuple [.agg [.sbool (decide (((s.getD 0 0).toNat : Int) < 97)), .rng .i64 (Lib.indexByte L ((List.drop 0 (List.take 1 s)).headD 0)) (-1) 9, .rng .i64 (numF 0 (List.drop 1 (List.take s.length s))) 0 999], .int .i64 0])))) none
def digsS : List UInt8 := [48, 49, 50, 51, 52, 53, 54, 55, 56, 57]
def prSec (s L : List UInt8) : Option AV :=
  brK (true && decide ((0 : Int) ≤ 1 ∧ (1 : Int) ≤ s.length)) (brK (decide (Lib.indexByte L ((List.drop 0 (List.take 1 s)).headD 0) < 0)) (some (clsE 4)) (brK (decide ((List.drop 1 (List.take s.length s)).length ≤ 9223372036854775807))
    (brK (!Lib.trimS (List.drop 1 (List.take s.length s)) digsS == []) (some (clsE 4)) (brK (decide ((0 : Int) ≤ 0 ∧ (0 : Int) < (List.drop 1 (List.take s.length s)).length))
      (brK (((List.drop 1 (List.take s.length s)).getD 0 0).toNat == (48 : Int)) (brK (decide (((List.drop 1 (List.take s.length s)).length : Int) > 1)) (some (clsE 4)) (prNum s L)) (prNum s L)) none)) none)) none
def prTree (s : List UInt8) : Option AV :=
  brK (decide ((0 : Int) ≤ 0 ∧ (0 : Int) < s.length)) (brK (decide ((0 : Int) ≤ 1 ∧ (1 : Int) ≤ s.length) && true) (brK (decide ((List.drop 0 (List.take 1 s)).length = 1))
    (brK (decide (((s.getD 0 0).toNat : Int) < 97)) (brK (decide ((0 : Int) ≤ 1 ∧ (1 : Int) ≤ s.length) && true) (brK (decide ((List.drop 0 (List.take 1 s)).length = 1)) (prSec s capS) none) none) (prSec s lettS)) none) none) none

theorem prRun (s : List UInt8) : (runK prog prs2 60).call 10 [.lstr s 2 4] (Bg 9) finV = prTree s := by kernel_rfl
theorem prRun1 (s : List UInt8) : (runK prog prs2 60).call 10 [.lstr s 0 1] (Bg 9) finV = some (clsE 4) := by kernel_rfl
theorem prRun5 (s : List UInt8) : (runK prog prs2 60).call 10 [.lstr s 5 9223372036854775807] (Bg 9) finV = some (clsE 4) := by kernel_rfl

def rfDig (s L : List UInt8) (h : Bool) : List Nat → Int → Int → Option AV
  | [], g, _ => brK (decide (plcF L ((s.getD 0 0).toNat : Int) < 0)) (some (clsE 1)) (brK (decide (g < 5)) (some (clsE 2)) (brK (decide (g > 12)) (some (clsE 2))
      (some (.tuple [.agg [.bool h, .rng .i64 (plcF L ((s.getD 0 0).toNat : Int)) (-1) 9, .sint .i64 g], .int .i64 0]))))
  | i :: r, _, t => brK (decide ((0 : Int) ≤ (i : Int) ∧ (i : Int) < s.length)) (brK (decide (((s.getD i 0).toNat : Int) < 48)) (some (clsE 4)) (brK (decide ((0 : Int) ≤ (i : Int) ∧ (i : Int) < s.length)) (brK (decide (((s.getD i 0).toNat : Int) > 57)) (some (clsE 4))
      (brK (decide ((0 : Int) ≤ (i : Int) ∧ (i : Int) < s.length)) (rfDig s L h r (IntKind.i64.wrap (t + IntKind.i64.wrap (IntKind.u8.wrap (((s.getD i 0).toNat : Int) - 48)))) (IntKind.i64.wrap (10 * IntKind.i64.wrap (t + IntKind.i64.wrap (IntKind.u8.wrap (((s.getD i 0).toNat : Int) - 48)))))) none)) none)) none
def rfSec (s L : List UInt8) (h two : Bool) (is : List Nat) : Option AV :=
  brK (decide ((0 : Int) ≤ 1 ∧ (1 : Int) < s.length)) (brK (((s.getD 1 0).toNat : Int) == 48) (if two then rfDig s L h is 0 0 else some (clsE 4)) (rfDig s L h is 0 0)) none
def rfTree (s : List UInt8) (two : Bool) (is : List Nat) : Option AV :=
  brK (decide ((0 : Int) ≤ 0 ∧ (0 : Int) < s.length)) (brK (decide ((0 : Int) ≤ ((s.getD 0 0).toNat : Int) ∧ ((s.getD 0 0).toNat : Int) ≤ 255)) (brK (decide (plcF lettS ((s.getD 0 0).toNat : Int) < 0))
    (brK (decide ((0 : Int) ≤ 0 ∧ (0 : Int) < s.length)) (brK (decide ((0 : Int) ≤ ((s.getD 0 0).toNat : Int) ∧ ((s.getD 0 0).toNat : Int) ≤ 255)) (brK (decide (plcF capS ((s.getD 0 0).toNat : Int) < 0)) (some (clsE 4)) (rfSec s capS true two is)) none) none)
    (brK (decide (plcF lettS ((s.getD 0 0).toNat : Int) < 0)) (some (clsE 4)) (rfSec s lettS false two is))) none) none

theorem rfRun2 (s : List UInt8) : (runK prog prs2 60).call 11 [.lstr s 2 2] (Bg 9) finV = rfTree s true [1] := by kernel_rfl
theorem rfRun3 (s : List UInt8) : (runK prog prs2 60).call 11 [.lstr s 3 3] (Bg 9) finV = rfTree s false [1, 2] := by kernel_rfl
theorem rfRun4 (s : List UInt8) : (runK prog prs2 60).call 11 [.lstr s 4 4] (Bg 9) finV = rfTree s false [1, 2, 3] := by kernel_rfl
theorem rfRun1 (s : List UInt8) : (runK prog prs2 60).call 11 [.lstr s 0 1] (Bg 9) finV = some (clsE 4) := by kernel_rfl
theorem rfRun5 (s : List UInt8) : (runK prog prs2 60).call 11 [.lstr s 5 9223372036854775807] (Bg 9) finV = some (clsE 4) := by kernel_rfl
end Go.Proofs.Tryz
