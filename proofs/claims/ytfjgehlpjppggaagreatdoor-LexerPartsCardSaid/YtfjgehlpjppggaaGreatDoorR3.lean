/- The reference's numbers: digits with zeros in front, columns, sums and differences on paper. -/
import Derived.Test.YtfjgehlpjppggaaGreatDoorVal1
import Derived.Test.YtfjgehlpjppggaaGreatDoorAdRat
namespace Go.Proofs.Tryz
open Go.Ad
open Go.Lib (decDigits itoa nDigits decFrom digitVal)
section
variable {A:Amb} (hT:Tab A) (hG:prog.globals.size≤A.G)
include hT hG
end
theorem vr_tup2 {ι:Emb} {a b a' b':AV} (h1:∀ v,VR ι a v→VR ι a' v) (h2:∀ v,VR ι b v→VR ι b' v) (x:Value) (h:VR ι (.tuple [a,b]) x):VR ι (.tuple [a',b']) x:=by
 simp only [VR] at h ⊢
 obtain ⟨ys,rfl,hv⟩:=h
 refine ⟨ys,rfl,VRL.weaken (show [a',b'].length=[a,b].length from rfl) (fun i a1 hi=>?_) hv⟩
 match i,hi with
 | 0,hi=>cases hi; exact ⟨_,rfl,h1⟩
 | 1,hi=>cases hi; exact ⟨_,rfl,h2⟩
 | i+2,hi=>simp at hi
end Go.Proofs.Tryz
namespace Go.Proofs.Tryz
open Go.Ad
open Go.Lib (decDigits itoa nDigits decFrom digitVal)
end Go.Proofs.Tryz
namespace Go.Proofs.Tryz
open Go.Ad
open Go.Lib (decDigits itoa nDigits decFrom digitVal)
section
variable {A:Amb} (hT:Tab A) (hG:prog.globals.size≤A.G)
include hT hG
end
end Go.Proofs.Tryz
namespace Go.Proofs.Tryz
open Go.Ad
open Go.Lib (decDigits itoa nDigits decFrom digitVal)
theorem len_mono {V U:Nat} (h:V≤U):(itoa (V:Int)).length≤(itoa (U:Int)).length:=by
 rw [itoaN,itoaN]; exact dec_len_mono h
end Go.Proofs.Tryz
namespace Go.Proofs.Tryz
open Go.Ad
open Go.Lib (decDigits itoa nDigits decFrom digitVal)
section
variable {A:Amb} (hT:Tab A) (hG:prog.globals.size≤A.G)
include hT hG
end
section
variable {A:Amb} (hT:Tab A) (hG:prog.globals.size≤A.G)
include hT hG
end
section
variable {A:Amb} (hT:Tab A) (hG:prog.globals.size≤A.G)
include hT hG
end
end Go.Proofs.Tryz
namespace Go.Proofs.Tryz
open Go.Ad
open Go.Lib (decDigits itoa nDigits decFrom digitVal)
end Go.Proofs.Tryz
namespace Go.Proofs.Tryz
open Go.Ad
open Go.Lib (decDigits itoa nDigits decFrom digitVal)
noncomputable def code115:Code:=f115.body.getD .skip
noncomputable def h1':Code:=fstC (sndC code115)
noncomputable def h2':Code:=fstC (sndC (sndC code115))
noncomputable def h3':Code:=sndC (sndC (sndC code115))
section
variable {A:Amb} (hT:Tab A) (hG:prog.globals.size≤A.G)
include hT hG
end
section
variable {A:Amb} (hT:Tab A) (hG:prog.globals.size≤A.G)
include hT hG
end
end Go.Proofs.Tryz
