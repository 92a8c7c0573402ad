/- The lexer's program: what its functions of one byte give. -/
import Derived.Test.YtfjgehlpjppggaaGreatDoorBase

namespace Go.Proofs.Tryz
open Go.Ad

theorem brK_ite {β : Type} {b : Bool} {t f : Option β} : brK b t f = if b = true then t else f := by cases b <;> rfl

def sgnIx (c : Int) : Int := Lib.indexByte [44, 59, 58, 40, 41, 91, 93, 61, 43, 45, 42, 47, 60, 62, 124, 35] (byteOf c)
def tClass (c : Int) : Option AV := brK (decide (c ≥ 97)) (brK (decide (c ≤ 122)) (some (.int .i64 1)) (brK (decide (c ≥ 65)) (brK (decide (c ≤ 90)) (some (.int .i64 1)) (brK (decide (c ≥ 48)) (brK (decide (c ≤ 57)) (some (.int .i64 2)) (brK (c == 95) (some (.int .i64 3)) (brK (c == 32) (some (.int .i64 5)) (brK (decide (sgnIx c ≥ 0)) (some (.int .i64 4)) (some (.int .i64 0)))))) (brK (c == 95) (some (.int .i64 3)) (brK (c == 32) (some (.int .i64 5)) (brK (decide (sgnIx c ≥ 0)) (some (.int .i64 4)) (some (.int .i64 0))))))) (brK (decide (c ≥ 48)) (brK (decide (c ≤ 57)) (some (.int .i64 2)) (brK (c == 95) (some (.int .i64 3)) (brK (c == 32) (some (.int .i64 5)) (brK (decide (sgnIx c ≥ 0)) (some (.int .i64 4)) (some (.int .i64 0)))))) (brK (c == 95) (some (.int .i64 3)) (brK (c == 32) (some (.int .i64 5)) (brK (decide (sgnIx c ≥ 0)) (some (.int .i64 4)) (some (.int .i64 0)))))))) (brK (decide (c ≥ 65)) (brK (decide (c ≤ 90)) (some (.int .i64 1)) (brK (decide (c ≥ 48)) (brK (decide (c ≤ 57)) (some (.int .i64 2)) (brK (c == 95) (some (.int .i64 3)) (brK (c == 32) (some (.int .i64 5)) (brK (decide (sgnIx c ≥ 0)) (some (.int .i64 4)) (some (.int .i64 0)))))) (brK (c == 95) (some (.int .i64 3)) (brK (c == 32) (some (.int .i64 5)) (brK (decide (sgnIx c ≥ 0)) (some (.int .i64 4)) (some (.int .i64 0))))))) (brK (decide (c ≥ 48)) (brK (decide (c ≤ 57)) (some (.int .i64 2)) (brK (c == 95) (some (.int .i64 3)) (brK (c == 32) (some (.int .i64 5)) (brK (decide (sgnIx c ≥ 0)) (some (.int .i64 4)) (some (.int .i64 0)))))) (brK (c == 95) (some (.int .i64 3)) (brK (c == 32) (some (.int .i64 5)) (brK (decide (sgnIx c ≥ 0)) (some (.int .i64 4)) (some (.int .i64 0)))))))
theorem runClass (c : Int) : (runK prog lib 60).call 47 [.rng .u8 c 0 255] (Bg 8) finV = tClass c := by kernel_rfl

def tLetter (c : Int) : Option AV := brK (decide (c ≥ 97)) (brK (decide (c ≤ 122)) (some (.bool true)) (brK (decide (c ≥ 65)) (some (.sbool (decide (c ≤ 90)))) (some (.bool false)))) (brK (decide (c ≥ 65)) (some (.sbool (decide (c ≤ 90)))) (some (.bool false)))
theorem runLetter (c : Int) : (runK prog lib 60).call 90 [.rng .u8 c 0 255] (Bg 8) finV = tLetter c := by kernel_rfl

def tDigit (c : Int) : Option AV := brK (decide (c ≥ 48)) (some (.sbool (decide (c ≤ 57)))) (some (.bool false))
theorem runDigit (c : Int) : (runK prog lib 60).call 91 [.rng .u8 c 0 255] (Bg 8) finV = tDigit c := by kernel_rfl

def tMark (c : Int) : Option AV := brK (44 == c) (some (.bool true)) (brK (59 == c) (some (.bool true)) (brK (58 == c) (some (.bool true)) (brK (40 == c) (some (.bool true)) (brK (41 == c) (some (.bool true)) (brK (91 == c) (some (.bool true)) (brK (93 == c) (some (.bool true)) (brK (61 == c) (some (.bool true)) (brK (43 == c) (some (.bool true)) (brK (45 == c) (some (.bool true)) (brK (42 == c) (some (.bool true)) (brK (47 == c) (some (.bool true)) (brK (60 == c) (some (.bool true)) (brK (62 == c) (some (.bool true)) (brK (124 == c) (some (.bool true)) (brK (35 == c) (some (.bool true)) (some (.bool false)))))))))))))))))
theorem runMark (c : Int) : (runK prog lib 60).call 84 [.rng .u8 c 0 255] (Bg 8) finV = tMark c := by kernel_rfl


def clsI (c : Int) : Int := if (97 ≤ c ∧ c ≤ 122) ∨ (65 ≤ c ∧ c ≤ 90) then 1 else if 48 ≤ c ∧ c ≤ 57 then 2 else if c = 95 then 3 else if c = 32 then 5 else if 0 ≤ sgnIx c then 4 else 0
def letB (c : Int) : Bool := decide ((97 ≤ c ∧ c ≤ 122) ∨ (65 ≤ c ∧ c ≤ 90))
def digB (c : Int) : Bool := decide (48 ≤ c ∧ c ≤ 57)
def markB (c : Int) : Bool := [44, 59, 58, 40, 41, 91, 93, 61, 43, 45, 42, 47, 60, 62, 124, 35].any fun k => k == c

theorem vr_int {ι : Emb} {k : IntKind} {n m : Int} (e : n = m) (x : Value) (h : VR ι (.int k n) x) : VR ι (.sint k m) x := by subst e; simpa only [VR] using h
theorem vr_bool {ι : Emb} {n m : Bool} (e : n = m) (x : Value) (h : VR ι (.bool n) x) : VR ι (.sbool m) x := by subst e; simpa only [VR] using h
theorem vr_sbool {ι : Emb} {n m : Bool} (e : n = m) (x : Value) (h : VR ι (.sbool n) x) : VR ι (.sbool m) x := by subst e; exact h

theorem class_val (c : Int) : ∃ k, tClass c = some (.int .i64 k) ∧ k = clsI c := by
  unfold tClass clsI
  generalize sgnIx c = x
  simp only [brK_ite, decide_eq_true_eq, beq_iff_eq]
  repeat' split
  all_goals first | exact ⟨_, rfl, rfl⟩ | omega

theorem letter_val (c : Int) : (tLetter c = some (.bool (letB c))) ∨ (tLetter c = some (.sbool (letB c))) := by
  unfold tLetter letB
  simp only [brK_ite, decide_eq_true_eq]
  repeat' split
  all_goals first
    | (left; congr 2; symm; rw [decide_eq_true_eq]; omega)
    | (left; congr 2; symm; rw [decide_eq_false_iff_not]; omega)
    | (right; congr 2; rw [decide_eq_decide]; omega)

theorem digit_val (c : Int) : (tDigit c = some (.bool (digB c))) ∨ (tDigit c = some (.sbool (digB c))) := by
  unfold tDigit digB
  simp only [brK_ite, decide_eq_true_eq]
  repeat' split
  all_goals first
    | (left; congr 2; symm; rw [decide_eq_false_iff_not]; omega)
    | (right; congr 2; rw [decide_eq_decide]; omega)

theorem brK_tt (b x : Bool) : brK b (some (AV.bool true)) (some (AV.bool x)) = some (AV.bool (b || x)) := by cases b <;> rfl

theorem mark_val (c : Int) : tMark c = some (.bool (markB c)) := by
  simp only [tMark, brK_tt]
  rfl

def pB0 : Prims := lib.addt 47 (gP [.rng .u8 0 255] fun | [.i c] => .leaf (.sint .i64 (clsI c)) | _ => .fail)
def pB1 : Prims := pB0.addt 90 (gP [.rng .u8 0 255] fun | [.i c] => .leaf (.sbool (letB c)) | _ => .fail)
def pB2 : Prims := pB1.addt 91 (gP [.rng .u8 0 255] fun | [.i c] => .leaf (.sbool (digB c)) | _ => .fail)
def pB : Prims := pB2.addt 84 (gP [.rng .u8 0 255] fun | [.i c] => .leaf (.sbool (markB c)) | _ => .fail)

theorem pB_ok {A : Amb} (hT : Tab A) (hG : prog.globals.size ≤ A.G) : PrimOK prog A pB := by
  have h0 := lib_ok hT
  refine PrimOK.addP hmix hnum h0 (PrimOK.addP hmix hnum h0 (PrimOK.addP hmix hnum h0 (PrimOK.addP hmix hnum h0 h0 hG func47 (by kernel_rfl) ?_) hG func90 (by kernel_rfl) ?_) hG func91 (by kernel_rfl) ?_) hG func84 (by kernel_rfl) ?_
  · intro ls v h
    split at h
    · rename_i c
      cases h
      obtain ⟨k, h1, h2⟩ := class_val c
      exact ⟨rfl, 60, _, by rw [gsz]; exact (runClass c).trans h1, rfl, fun ι x => vr_int h2 x⟩
    · cases h
  · intro ls v h
    split at h
    · rename_i c
      cases h
      rcases letter_val c with h1 | h1
      · exact ⟨rfl, 60, _, by rw [gsz]; exact (runLetter c).trans h1, rfl, fun ι x => vr_bool rfl x⟩
      · exact ⟨rfl, 60, _, by rw [gsz]; exact (runLetter c).trans h1, rfl, fun ι x => vr_sbool rfl x⟩
    · cases h
  · intro ls v h
    split at h
    · rename_i c
      cases h
      rcases digit_val c with h1 | h1
      · exact ⟨rfl, 60, _, by rw [gsz]; exact (runDigit c).trans h1, rfl, fun ι x => vr_bool rfl x⟩
      · exact ⟨rfl, 60, _, by rw [gsz]; exact (runDigit c).trans h1, rfl, fun ι x => vr_sbool rfl x⟩
    · cases h
  · intro ls v h
    split at h
    · rename_i c
      cases h
      exact ⟨rfl, 60, _, by rw [gsz]; exact (runMark c).trans (mark_val c), rfl, fun ι x => vr_bool rfl x⟩
    · cases h

end Go.Proofs.Tryz
