/- The lexer's laws: a list of tokens among the arguments. -/
import Derived.Test.YtfjgehlpjppggaaGreatDoorAwk
import Derived.Test.YtfjgehlpjppggaaGreatDoorScanT
import Derived.Test.YtfjgehlpjppggaaGreatDoorAdPat
import Derived.Deep.Slices
import Derived.Test.YtfjgehlpjppggaaGreatDoorBase
import Derived.Test.YtfjgehlpjppggaaGreatDoorPt9
namespace Go.Proofs.Tryz
open Go.Ad Go.Deep Go.ChangeShapes
end Go.Proofs.Tryz
namespace Go.Proofs.Tryz
open Go.Ad Go.Deep Go.ChangeShapes
end Go.Proofs.Tryz
namespace Go.Proofs.Tryz
open Go.Ad
theorem tab_laid {W:World} {a b:String × DataW Unit} {r:List (String × DataW Unit)} (h:laidMet prog (a :: b :: ("internal/strconv.uint64pow10",Lib.tabData .u64 Lib.pow10Tab) :: r) W) :
  Lib.TabIs prog W "internal/strconv.uint64pow10" .u64 Lib.pow10Tab :=
 Lib.tabIs_of_head (g:=5) (t:=228) (e:=169) (n:=20) (by kernel_rfl) (by kernel_rfl) (by kernel_rfl) (by kernel_rfl) (by kernel_rfl) (by kernel_rfl) (laidVars_tail (laidVars_tail h))
end Go.Proofs.Tryz
namespace Go.Proofs.Tryz
open Go.Ad
theorem parts_small {s:List UInt8}:∀ {M:List Tok} {D D':List (List Tok)} {C C':List Tok} {O O':RO} {k:Nat},partsK s M (D,C,O)=some (D',C',O')→(∀ X,X ∈ D→X.length≤k)→C.length≤k →
  (∀ X,X ∈ D'→X.length≤k+M.length)∧C'.length≤k+M.length∧D'.length≤D.length+M.length
 | [],D,D',C,C',O,O',k,h,h1,h2=>by cases h; exact ⟨fun X hX=>h1 X hX,h2,Nat.le_refl _⟩
 | t :: M,D,D',C,C',O,O',k,h,h1,h2=>by
  simp only [partsK] at h
  cases h3:stepK s t (D,C,O) with
  | none=>rw [h3] at h; cases h
  | some y =>
   obtain ⟨D2,C2,O2⟩:=y
   rw [h3] at h
   have key:(∀ X,X ∈ D2→X.length≤k)∧C2.length≤k+1∧D2.length≤D.length+1:=by
    unfold stepK at h3
    simp only at h3
    cases g1:decide (lenO O=0) && isS t s with
    | true =>
     rw [g1] at h3; cases h3
     refine ⟨fun X hX=>?_,by simp,by simp⟩
     rcases List.mem_append.1 hX with q | q
     ·exact h1 X q
     ·rw [List.mem_singleton.1 q]; exact h2
    | false =>
     rw [g1,cond_false] at h3
     cases g2:isS t [40] with
     | true=>rw [g2] at h3; cases h3; exact ⟨h1,by simp; omega,by omega⟩
     | false =>
      rw [g2,cond_false] at h3
      cases g3:isS t [91] with
      | true=>rw [g3] at h3; cases h3; exact ⟨h1,by simp; omega,by omega⟩
      | false =>
       rw [g3,cond_false] at h3
       cases g4:isS t [41] || isS t [93] with
       | true =>
        rw [g4,cond_true] at h3
        cases g5:decide (lenO O=0) with
        | true=>rw [g5] at h3; cases h3
        | false =>
         rw [g5,cond_false] at h3
         cases g6:topO O == t.2.1 with
         | true=>rw [g6] at h3; cases h3; exact ⟨h1,by simp; omega,by omega⟩
         | false=>rw [g6] at h3; cases h3
       | false=>rw [g4] at h3; cases h3; exact ⟨h1,by simp; omega,by omega⟩
   obtain ⟨k1,k2,k3⟩:=key
   obtain ⟨q1,q2,q3⟩:=parts_small (k:=k+1) h (fun X hX=>Nat.le_succ_of_le (k1 X hX)) k2
   simp only [List.length_cons]
   exact ⟨fun X hX=>by have:=q1 X hX; omega,by omega,by omega⟩
theorem prtR_small (s:List UInt8) (L:List Tok):smallD (prtR s L).1∧(prtR s L).1.length≤5000:=by
 have nil:smallD []∧([]:List (List Tok)).length≤5000:=⟨fun i=>by simp,by simp⟩
 unfold prtR
 by_cases hn:L.length≤4097
 ·rw [decide_eq_true hn,cond_true]
  cases sgnB s with
  | false=>exact nil
  | true =>
   rw [cond_true]
   cases hp:partsK s (cutE L) init33 with
   | none=>exact nil
   | some y =>
    obtain ⟨D,C,O⟩:=y
    have hl:(cutE L).length≤4097:=by
     unfold cutE
     cases decide (0 < L.length) && (L.getD (L.length - 1) tok0).1 == 3
     ·exact hn
     ·rw [cond_true,List.length_take]; omega
    obtain ⟨q1,q2,q3⟩:=parts_small (k:=0) hp (fun X hX=>by cases hX) (Nat.le_refl _)
    unfold finR
    simp only
    cases decide (lenO O=0) with
    | false=>exact nil
    | true =>
     refine ⟨fun i=>?_,by simp only [cond_true,List.length_append,List.length_singleton]; simp at q3; omega⟩
     simp only [cond_true]
     rw [List.getD_eq_getElem?_getD]
     cases hg:(D++[C])[i]? with
     | none=>simp
     | some X =>
      have:=List.mem_of_getElem? hg
      rcases List.mem_append.1 this with q | q
      ·have:=q1 X q; simp only [Option.getD_some]; omega
      ·rw [List.mem_singleton.1 q]; simp only [Option.getD_some]; omega
 ·rw [decide_eq_false hn]; exact nil
end Go.Proofs.Tryz
