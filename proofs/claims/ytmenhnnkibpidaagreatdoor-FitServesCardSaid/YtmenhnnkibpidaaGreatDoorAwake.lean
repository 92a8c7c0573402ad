/- The chapter's examples, as a known function of the evaluator. -/
import Derived.Test.YtmenhnnkibpidaaGreatDoorBase

namespace Go.Proofs.Tryz
open Go.Ad

theorem gsz : prog.globals.size = 9 := by kernel_rfl

def isOne (r : ARes) (s : List UInt8) : Bool :=
  match r with
  | some (.tuple [.str t, .int .i64 0], _, []) => decide (t = s)
  | _ => false

theorem isOne_eq {r : ARes} {s : List UInt8} (h : isOne r s = true) : ∃ B, r = some (.tuple [.str s, .int .i64 0], B, []) := by
  unfold isOne at h
  split at h
  · exact ⟨_, by rw [of_decide_eq_true h]⟩
  · cases h

theorem ofRun : isOne ((run prog lib 400).call 42 [.int .i64 25000, .int .i64 1000] (Bg 9)) [50, 53] = true := by kernel_rfl

def gOf : List AV → Option AV
  | [.int .i64 25000, .int .i64 1000] => some (.tuple [.str [50, 53], .int .i64 0])
  | _ => none
def gDec : List AV → Option AV
  | [.str [50, 53]] => some (.tuple [.str [50, 53], .int .i64 0])
  | _ => none
def gTrue : List AV → Option AV
  | [] => some (.bool true)
  | _ => none

def lib2 : Prims := (lib.add 42 gOf).add 43 gDec
theorem decRun : isOne ((run prog (lib.add 42 gOf) 400).call 43 [.str [50, 53]] (Bg 9)) [50, 53] = true := by kernel_rfl

theorem lib2_ok {A : Amb} (hT : Tab A) (hG : prog.globals.size ≤ A.G) : PrimOK prog A lib2 := by
  refine PrimOK.add hmix hnum (PrimOK.add hmix hnum (lib_ok hT) hG func42 (by kernel_rfl) ?_) hG func43 (by kernel_rfl) ?_
  · intro args v hg
    unfold gOf at hg
    split at hg
    · cases hg
      obtain ⟨B, h⟩ := isOne_eq ofRun
      exact ⟨rfl, rfl, 400, B, by rw [gsz]; exact h⟩
    · cases hg
  · intro args v hg
    unfold gDec at hg
    split at hg
    · cases hg
      obtain ⟨B, h⟩ := isOne_eq decRun
      exact ⟨rfl, rfl, 400, B, by rw [gsz]; exact h⟩
    · cases hg

def fitA : List AV := [.int .i64 25000, .bool true, .int .i64 4, .int .i64 7, .bool false, .int .i64 3, .int .i64 6]
def fitB : List AV := [.int .i64 25000, .bool true, .int .i64 4, .int .i64 7, .bool false, .int .i64 8, .int .i64 6]
def fitC : List AV := [.int .i64 25000, .bool true, .int .i64 3, .int .i64 6, .bool false, .int .i64 4, .int .i64 7]

def isIntL : List AV → List AV → Bool
  | [], [] => true
  | .int .i64 a :: r, .int .i64 b :: s => a == b && isIntL r s
  | .bool a :: r, .bool b :: s => a == b && isIntL r s
  | _, _ => false

theorem isIntL_eq : ∀ {l s : List AV}, isIntL l s = true → l = s
  | [], [], _ => rfl
  | .int .i64 a :: r, .int .i64 b :: s, h => by
    simp only [isIntL, Bool.and_eq_true, beq_iff_eq] at h
    rw [h.1, isIntL_eq h.2]
  | .bool a :: r, .bool b :: s, h => by
    simp only [isIntL, Bool.and_eq_true, beq_iff_eq] at h
    rw [h.1, isIntL_eq h.2]
  | [], _ :: _, h => by cases h
  | a :: r, [], h => by cases a <;> first | cases h | (rename_i k _; cases k <;> cases h)
  | a :: r, b :: s, h => by
    unfold isIntL at h
    split at h
    · rename_i h1 h2; cases h1
    · rename_i h1 h2; cases h1; cases h2; simp only [Bool.and_eq_true, beq_iff_eq] at h; rw [h.1, isIntL_eq h.2]
    · rename_i h1 h2; cases h1; cases h2; simp only [Bool.and_eq_true, beq_iff_eq] at h; rw [h.1, isIntL_eq h.2]
    · cases h

def isFit (r : ARes) (f : List AV) : Bool :=
  match r with
  | some (.tuple [.agg l, .int .i64 0], _, []) => isIntL l f
  | _ => false

theorem isFit_eq {r : ARes} {f : List AV} (h : isFit r f = true) : ∃ B, r = some (.tuple [.agg f, .int .i64 0], B, []) := by
  unfold isFit at h
  split at h
  · exact ⟨_, by rw [isIntL_eq h]⟩
  · cases h

def gText : List AV → Option AV
  | [.agg l] => if isIntL l fitA then some (.tuple [.str [50, 53, 32, 72, 55, 47, 103, 54], .int .i64 0])
    else if isIntL l fitB then some (.tuple [.str [50, 53, 32, 72, 55, 47, 110, 54], .int .i64 0])
    else if isIntL l fitC then some (.tuple [.str [50, 53, 32, 71, 54, 47, 104, 55], .int .i64 0]) else none
  | _ => none

theorem textRunA : isOne ((run prog lib2 400).call 25 [.agg fitA] (Bg 9)) [50, 53, 32, 72, 55, 47, 103, 54] = true := by kernel_rfl
theorem textRunB : isOne ((run prog lib2 400).call 25 [.agg fitB] (Bg 9)) [50, 53, 32, 72, 55, 47, 110, 54] = true := by kernel_rfl
theorem textRunC : isOne ((run prog lib2 400).call 25 [.agg fitC] (Bg 9)) [50, 53, 32, 71, 54, 47, 104, 55] = true := by kernel_rfl

def lib3 : Prims := lib2.add 25 gText

theorem lib3_ok {A : Amb} (hT : Tab A) (hG : prog.globals.size ≤ A.G) : PrimOK prog A lib3 := by
  refine PrimOK.add hmix hnum (lib2_ok hT hG) hG func25 (by kernel_rfl) ?_
  intro args v hg
  unfold gText at hg
  split at hg
  · rename_i l
    split at hg
    · rename_i h1; cases isIntL_eq h1; cases hg
      obtain ⟨B, h⟩ := isOne_eq textRunA
      exact ⟨rfl, rfl, 400, B, by rw [gsz]; exact h⟩
    split at hg
    · rename_i h1; cases isIntL_eq h1; cases hg
      obtain ⟨B, h⟩ := isOne_eq textRunB
      exact ⟨rfl, rfl, 400, B, by rw [gsz]; exact h⟩
    split at hg
    · rename_i h1; cases isIntL_eq h1; cases hg
      obtain ⟨B, h⟩ := isOne_eq textRunC
      exact ⟨rfl, rfl, 400, B, by rw [gsz]; exact h⟩
    · cases hg
  · cases hg

def gParse : List AV → Option AV
  | [.str [50, 53, 32, 72, 55, 47, 103, 54]] => some (.tuple [.agg fitA, .int .i64 0])
  | [.str [50, 53, 32, 72, 55, 47, 110, 54]] => some (.tuple [.agg fitB, .int .i64 0])
  | _ => none

theorem parseRunA : isFit ((run prog lib3 400).call 27 [.str [50, 53, 32, 72, 55, 47, 103, 54]] (Bg 9)) fitA = true := by kernel_rfl
theorem parseRunB : isFit ((run prog lib3 400).call 27 [.str [50, 53, 32, 72, 55, 47, 110, 54]] (Bg 9)) fitB = true := by kernel_rfl

def lib4 : Prims := lib3.add 27 gParse

theorem lib4_ok {A : Amb} (hT : Tab A) (hG : prog.globals.size ≤ A.G) : PrimOK prog A lib4 := by
  refine PrimOK.add hmix hnum (lib3_ok hT hG) hG func27 (by kernel_rfl) ?_
  intro args v hg
  unfold gParse at hg
  split at hg
  · cases hg
    obtain ⟨B, h⟩ := isFit_eq parseRunA
    exact ⟨rfl, rfl, 400, B, by rw [gsz]; exact h⟩
  · cases hg
    obtain ⟨B, h⟩ := isFit_eq parseRunB
    exact ⟨rfl, rfl, 400, B, by rw [gsz]; exact h⟩
  · cases hg

theorem awakeRun : good ((run prog lib4 400).call 20 [] (Bg 9)) = true := by kernel_rfl

/-- With the chapter's examples as a known function. -/
def known : Prims := lib4.add 20 gTrue

theorem known_ok {A : Amb} (hT : Tab A) (hG : prog.globals.size ≤ A.G) : PrimOK prog A known := by
  refine PrimOK.add hmix hnum (lib4_ok hT hG) hG func20 (by kernel_rfl) ?_
  intro args v hg
  unfold gTrue at hg
  split at hg
  · cases hg
    obtain ⟨B, h⟩ := good_eq awakeRun
    exact ⟨rfl, rfl, 400, B, by rw [gsz]; exact h⟩
  · cases hg

#print axioms known_ok
end Go.Proofs.Tryz
