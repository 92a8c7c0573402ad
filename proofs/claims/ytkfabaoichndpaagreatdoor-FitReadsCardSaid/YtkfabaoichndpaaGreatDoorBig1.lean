/- Numbers of any size, in the program's words: leading words of 0; comparison. -/
import Derived.Test.YtkfabaoichndpaaGreatDoorBase
import Derived.Test.YtkfabaoichndpaaGreatDoorPrs
import Derived.Test.YtkfabaoichndpaaGreatDoorAdPat
import Derived.Test.YtkfabaoichndpaaGreatDoorAdNum
noncomputable section
namespace Go.Proofs.Tryz
open Go.Ad
def opW:OP:=.arr [.sbool,.sint .i64] .i64 170
def pW (b:Nat):Pt:=.is (.ptr (some (b,0)))
def A0g:Nat->(Nat->Int)->Nat
 | 0,_=>0
 | n+1,f=>bif f n == 0 then A0g n f else n+1
theorem A7x (V:Nat):∀ n,wn V<=n->A0g n (wf V)=wn V
 | 0,h=>by simp only [A0g]; omega
 | n+1,h=>by
  simp only [A0g]
  by_cases h1:wn V=n+1
  ·have h0:V ≠ 0:=fun e=>by subst e; rw [Y9] at h1; omega
   have ht:=G0s h0
   rw [h1,Nat.add_sub_cancel] at ht
   have:(wf V n == 0)=false:=by simp [wf]; omega
   rw [this,h1]; rfl
  ·have hz:=A3k (V:=V) (i:=n) (by omega)
   have:(wf V n == 0)=true:=by simp [wf,hz]
   rw [this,cond_true]
   exact A7x V n (by omega)
def E0d:Code:=f116.body.getD .skip
def E8u:Code:=J3 (K6 0 E0d)
def spT:SP:=⟨[pW 8]++dr 28,dd8++[opW]⟩
def lfT (l:Bool) (n:Int) (f:Nat->Int):List Lf:=[.b l,.i n,.n 232,.f f]
theorem G0u (l:Bool) (n:Int) (f:Nat->Int):F3 prog (C9 prog lib2 60) F8 E8u (spT.rho (lfT l n f)) (spT.heap (lfT l n f)) (H5 (fun _=>spT) 9 [8]) =
  brK (decide (n > 0)) (brK (decide (0<=W (n - 1)/\W (n - 1) < 232)) (brK (decide ((W (n - 1)).toNat < 232)) (brK (f (W (n - 1)).toNat == 0)
   (some (.normal,lfT l (W (n - 1)) f)) (some (.exit 0,lfT l n f))) none) none) (some (.exit 0,lfT l n f)):=by kernel_rfl
theorem E0s (l:Bool) (n:Nat) (f:Nat->Int) (hn:n<=232):F3 prog (C9 prog lib2 60) F8 E8u (spT.rho (lfT l n f)) (spT.heap (lfT l n f)) (H5 (fun _=>spT) 9 [8]) =
  match n with
  | 0=>some (.exit 0,lfT l n f)
  | k+1=>bif f k == 0 then some (.normal,lfT l k f) else some (.exit 0,lfT l n f):=by
 rw [G0u]
 cases n with
 | zero=>rfl
 | succ k =>
  have e1:W (((k+1:Nat):Int) - 1)=(k:Int):=by rw [W,wrap64 (by omega) (by omega)]; omega
  rw [e1,Int.toNat_natCast,dT (show ((k+1:Nat):Int) > 0 by omega),dT (show 0<=(k:Int)/\(k:Int) < 232 by omega),dT (show k < 232 by omega)]
  cases h:f k == 0 <;> simp [brK,h]
def hookT:Blk:=hookP spT 9 [8] fun
 | [.b l,.i n,.n m,.f f]=>.br (A9 (0<=n/\n<=232/\m=232)) (.leaf (.normal,spT,lfT l (A0g n.toNat f) f)) .fail
 | _=>.fail
def E9v:Prims:=lib2.addb 116 0 hookT
section
variable {A:Amb} (hT:Tab A) (hG:gN prog<=A.G)
include hT hG
omit hG in
theorem E4k:PrimOK prog A E9v:=by
 have hp:=I8 hT
 refine PrimOK.addbP hp func116 (show f116.body=some E0d by kernel_rfl) (body:=.loop E8u) (by kernel_rfl) (by kernel_rfl) fun ls e sq l h=>?_
 split at h
 ·rename_i lb n m f
  obtain ⟨hc,hv⟩:=Tr.br1 h
  cases hv
  obtain ⟨h0,h1,rfl⟩:=D9 hc
  obtain ⟨k,rfl⟩:∃ k:Nat,n=k:=⟨n.toNat,by omega⟩
  rw [Int.toNat_natCast]
  refine ⟨by simp [frP,spT,SP.heap,mkH,dd8,dr,mkT,OP.mk,List.replicate,opW,lfT,pW,Pt.mk],fun Bb hB=>SEB.block_exit (id:=0) ?_⟩
  refine SEB.while (fun n:Nat=>n<=232/\A0g n f=A0g k f) (fun n=>n) (fun n=>⟨spT.rho (lfT lb n f),spT.heap (lfT lb n f),[8]⟩) (fun _=>(.exit 0,⟨spT.rho (lfT lb (A0g k f) f),spT.heap (lfT lb (A0g k f) f),[8]⟩)) (fun n hx=>?_) k ⟨by omega,rfl⟩
  obtain ⟨hn,ht⟩:=hx
  have hk:=E0s lb n f hn
  cases n with
  | zero =>
   right
   refine ⟨by simp,?_⟩
   simp only [A0g] at ht
   rw [<- ht]
   exact SEB.of_KP (e:=.exit 0) D6 D7 hp (.none _) hB hk rfl
  | succ n =>
   simp only [A0g] at ht
   cases hz:f n == 0 with
   | true =>
    left
    rw [hz,cond_true] at ht
    simp only [hz,cond_true] at hk
    exact ⟨n,⟨by omega,ht⟩,by omega,rfl,SEB.of_KP (e:=.normal) D6 D7 hp (.none _) hB hk rfl⟩
   | false =>
    right
    rw [hz,cond_false] at ht
    simp only [hz,cond_false] at hk
    refine ⟨by simp,?_⟩
    rw [<- ht]
    exact SEB.of_KP (e:=.exit 0) D6 D7 hp (.none _) hB hk rfl
 ·cases h
end
def spW1:SP:=⟨[pW 8],dd8++[opW]⟩
def G9w:List Lf->Tr (SP × List Lf)
 | [.b l,.i n,.n m,.f f]=>.br (A9 (0<=n/\n<=232/\m=232)) (.leaf (spW1,lfT l (A0g n.toNat f) f)) .fail
 | _=>.fail
theorem G4m (l:Bool) (n:Int) (f:Nat->Int):(C9 prog E9v 60).call 116 (spW1.rho (lfT l n f)) (spW1.heap (lfT l n f)) (A1j spW1 9 [8]) =
  brK (A9 (0<=n/\n<=232/\232=232)) (some (lfT l (A0g n.toNat f) f)) none:=by kernel_rfl
def pBig2:Prims:=lib2.addh 116 (H9 8 (funP spW1 9 [8] G9w))
theorem E5g {A:Amb} (hT:Tab A) (hG:gN prog<=A.G):PrimOK prog A pBig2:=by
 refine (I8 hT).addl gsz func116 (by kernel_rfl) (L8 D6 D7 rfl fun ls sq l h=>?_)
 unfold G9w at h
 split at h
 ·rename_i lb n m f
  obtain ⟨hc,hv⟩:=Tr.br1 h
  cases hv
  obtain ⟨h0,h1,rfl⟩:=D9 hc
  refine ⟨by simp [frP,spW1,SP.heap,mkH,dd8,mkT,OP.mk,List.replicate,opW,lfT,pW,Pt.mk],rfl,rfl,E9v,60,E4k hT,(G4m _ _ f).trans ?_⟩
  rw [A8 (show _/\_ from ⟨h0,h1,rfl⟩)]; rfl
 ·cases h
end Go.Proofs.Tryz
namespace Go.Proofs.Tryz
open Go.Ad
def bey:Nat->(Nat->Int)->(Nat->Int)->Int
 | 0,_,_=>0
 | k+1,f,g=>bif f k != g k then W (f k - g k) else bey k f g
def D4r (n n':Int) (f g:Nat->Int):Int:=bif n != n' then W (n - n') else bey n.toNat f g
theorem D7r (V U:Nat):∀ k,0<=bey k (wf V) (wf U) ↔ U % BB ^ k<=V % BB ^ k
 | 0=>by simp [bey,Nat.mod_one]
 | k+1=>by
  simp only [bey]
  rw [A3t V,A3t U]
  have hv:=A5d V k
  have hu:=A5d U k
  have h1:=Nat.mod_lt V (O5 k)
  have h2:=Nat.mod_lt U (O5 k)
  have hb:BB=1000000000:=rfl
  rcases Nat.lt_trichotomy (wd V k) (wd U k) with h | h | h
  ·have e:(wf V k != wf U k)=true:=by simp [wf]; omega
   rw [e,cond_true,W,wrap64 (by simp [wf]; omega) (by simp [wf]; omega)]
   have:(wd V k+1)*BB ^ k<=wd U k*BB ^ k:=Nat.mul_le_mul_right _ h
   rw [Nat.add_mul] at this
   simp only [wf]
   generalize V % BB ^ k=a at h1 ⊢
   generalize U % BB ^ k=b at h2 ⊢
   constructor
   ·intro h; omega
   ·intro h; omega
  ·have e:(wf V k != wf U k)=false:=by simp [wf,h]
   rw [e,cond_false,D7r V U k,h]
   omega
  ·have e:(wf V k != wf U k)=true:=by simp [wf]; omega
   rw [e,cond_true,W,wrap64 (by simp [wf]; omega) (by simp [wf]; omega)]
   have:(wd U k+1)*BB ^ k<=wd V k*BB ^ k:=Nat.mul_le_mul_right _ h
   rw [Nat.add_mul] at this
   simp only [wf]
   generalize V % BB ^ k=a at h1 ⊢
   generalize U % BB ^ k=b at h2 ⊢
   constructor
   ·intro h; omega
   ·intro h; omega
theorem C6u {V U:Nat} (hv:wn V<=232) (hu:wn U<=232):decide (D4r (wn V) (wn U) (wf V) (wf U) >= 0)=decide (U<=V):=by
 have h1:=A2r V
 have h2:=A2r U
 unfold D4r
 by_cases h:wn V=wn U
 ·have e:((wn V:Int) != (wn U:Int))=false:=by simp [h]
  rw [e,cond_false,Int.toNat_natCast]
  have:=D7r V U (wn V)
  rw [Nat.mod_eq_of_lt h1,Nat.mod_eq_of_lt (by rw [h]; exact h2)] at this
  exact decide_eq_decide.2 this
 ·have e:((wn V:Int) != (wn U:Int))=true:=by simp; omega
  rw [e,cond_true,W,wrap64 (by omega) (by omega)]
  refine decide_eq_decide.2 ?_
  rcases Nat.lt_or_ge (wn V) (wn U) with h' | h'
  ·have:=A6m h'
   constructor
   ·intro h; omega
   ·intro h; omega
  ·have:=A6m (V:=V) (n:=wn U) (by omega)
   constructor
   ·intro h; omega
   ·intro h; omega
def D7f:Code:=f167.body.getD .skip
def D8l:Code:=J3 (K6 0 D7f)
def spY:SP:=⟨[pW 8,pW 9,.drop,.drop,.int .i64,.int .i64]++dr 53,dd8++[opW,opW]⟩
def lf2 (l:Bool) (n:Int) (f:Nat->Int) (l':Bool) (n':Int) (g:Nat->Int):List Lf:=[.b l,.i n,.n 232,.f f,.b l',.i n',.n 232,.f g]
def lfY (r i:Int) (l:Bool) (n:Int) (f:Nat->Int) (l':Bool) (n':Int) (g:Nat->Int):List Lf:=.i r :: .i i :: lf2 l n f l' n' g
def spYr:SP:=⟨[pW 8,pW 9,.drop,.drop,.int .i64,.drop]++dr 53,dd8++[opW,opW]⟩
def E1t:AEx->SP
 | .ret=>spYr
 | _=>spY
def B0g (r:Int) (l:Bool) (n:Int) (f:Nat->Int) (l':Bool) (n':Int) (g:Nat->Int):List Lf:=.i r :: lf2 l n f l' n' g
theorem G0q (i:Int) (l:Bool) (n:Int) (f:Nat->Int) (l':Bool) (n':Int) (g:Nat->Int):F3 prog (C9 prog lib2 60) F8 D8l (spY.rho (lfY 0 i l n f l' n' g)) (spY.heap (lfY 0 i l n f l' n' g)) (H5 E1t 10 []) =
  brK (decide (i >= 0)) (brK (decide (0<=i/\i < 232)) (brK (decide (i.toNat < 232)) (brK (decide (0<=i/\i < 232)) (brK (decide (i.toNat < 232)) (brK (f i.toNat != g i.toNat)
   (brK (decide (0<=i/\i < 232)) (brK (decide (i.toNat < 232)) (brK (decide (0<=i/\i < 232)) (brK (decide (i.toNat < 232)) (some (.ret,B0g (W (f i.toNat - g i.toNat)) l n f l' n' g)) none) none) none) none)
   (some (.normal,lfY 0 (W (i - 1)) l n f l' n' g))) none) none) none) none) (some (.exit 0,lfY 0 i l n f l' n' g)):=by kernel_rfl
def B1w:Nat->(Nat->Int)->(Nat->Int)->Bool
 | 0,_,_=>false
 | k+1,f,g=>f k != g k || B1w k f g
theorem D7l {f g:Nat->Int}:∀ {k},B1w k f g=false->bey k f g=0
 | 0,_=>rfl
 | k+1,h=>by
  simp only [B1w,Bool.or_eq_false_iff] at h
  simp only [bey,h.1,cond_false]
  exact D7l h.2
theorem E3p (k:Nat) (hk:k<=232) (l:Bool) (n:Int) (f:Nat->Int) (l':Bool) (n':Int) (g:Nat->Int):F3 prog (C9 prog lib2 60) F8 D8l (spY.rho (lfY 0 ((k:Int) - 1) l n f l' n' g)) (spY.heap (lfY 0 ((k:Int) - 1) l n f l' n' g)) (H5 E1t 10 []) =
  match k with
  | 0=>some (.exit 0,lfY 0 (-1) l n f l' n' g)
  | j+1=>bif f j != g j then some (.ret,B0g (W (f j - g j)) l n f l' n' g) else some (.normal,lfY 0 ((j:Int) - 1) l n f l' n' g):=by
 rw [G0q]
 cases k with
 | zero=>rfl
 | succ j =>
  have e0:((j+1:Nat):Int) - 1=j:=by omega
  rw [e0,Int.toNat_natCast,dT (show (j:Int) >= 0 by omega),dT (show 0<=(j:Int)/\(j:Int) < 232 by omega),dT (show j < 232 by omega)]
  have e1:W ((j:Int) - 1)=(j:Int) - 1:=by rw [W,wrap64 (by omega) (by omega)]
  rw [e1]
  cases h:f j != g j <;> simp [h,brK]
def G4z:Blk:=hookP spY 10 [] fun
 | [.i r,.i i,.b l,.i n,.n m,.f f,.b l',.i n',.n m',.f g]=>.br (A9 (r=0/\-1<=i/\i < 232/\m=232/\m'=232))
  (.br (B1w (i+1).toNat f g) (.leaf (.ret,spYr,B0g (bey (i+1).toNat f g) l n f l' n' g)) (.leaf (.normal,spY,lfY 0 (-1) l n f l' n' g))) .fail
 | _=>.fail
def E5y:Prims:=lib2.addb 167 0 G4z
theorem E8d {A:Amb} (hT:Tab A):PrimOK prog A E5y:=by
 have hp:=I8 hT
 refine PrimOK.addbP hp func167 (show f167.body=some D7f by kernel_rfl) (body:=.loop D8l) (by kernel_rfl) (by kernel_rfl) fun ls e sq l h=>?_
 split at h
 ·rename_i r i lb n m f lb' n' m' g
  obtain ⟨hc,hv⟩:=Tr.br1 h
  obtain ⟨rfl,h0,h1,rfl,rfl⟩:=D9 hc
  obtain ⟨k,hk⟩:∃ k:Nat,i=(k:Int) - 1:=⟨(i+1).toNat,by omega⟩
  subst hk
  have e1:((k:Int) - 1+1).toNat=k:=by omega
  rw [e1] at hv
  have hok:∀ e,okD 10 [] 0 (E1t e).h=true:=fun e=>by cases e <;> rfl
  have key:∀ Bb:Heap,Bb.length=10->SEB prog A Bb (.loop D8l) ⟨spY.rho (lfY 0 ((k:Int) - 1) lb n f lb' n' g),spY.heap (lfY 0 ((k:Int) - 1) lb n f lb' n' g),[]⟩
    (bif B1w k f g then .ret else .exit 0) (bif B1w k f g then ⟨spYr.rho (B0g (bey k f g) lb n f lb' n' g),spYr.heap (B0g (bey k f g) lb n f lb' n' g),[]⟩ else ⟨spY.rho (lfY 0 (-1) lb n f lb' n' g),spY.heap (lfY 0 (-1) lb n f lb' n' g),[]⟩):=fun Bb hB=>by
   have hk2:k<=232:=by omega
   refine SEB.while (fun n:Nat=>n<=232/\B1w n f g=B1w k f g/\bey n f g=bey k f g) (fun n=>n) (fun j=>⟨spY.rho (lfY 0 ((j:Int) - 1) lb n f lb' n' g),spY.heap (lfY 0 ((j:Int) - 1) lb n f lb' n' g),[]⟩)
    (fun _=>(bif B1w k f g then .ret else .exit 0,bif B1w k f g then ⟨spYr.rho (B0g (bey k f g) lb n f lb' n' g),spYr.heap (B0g (bey k f g) lb n f lb' n' g),[]⟩ else ⟨spY.rho (lfY 0 (-1) lb n f lb' n' g),spY.heap (lfY 0 (-1) lb n f lb' n' g),[]⟩)) (fun j hx=>?_) k ⟨hk2,rfl,rfl⟩
   obtain ⟨hj,hb,hr⟩:=hx
   have hk:=E3p j hj lb n f lb' n' g
   cases j with
   | zero =>
    right
    simp only [B1w] at hb
    simp only [<- hb,cond_false]
    exact ⟨by simp,SEB.of_KP (e:=.exit 0) (sp:=E1t) D6 D7 hp (.none _) hB hk (hok _)⟩
   | succ j =>
    simp only [B1w] at hb
    simp only [bey] at hr
    cases hz:f j != g j with
    | true =>
     right
     rw [hz,Bool.true_or] at hb
     rw [hz,cond_true] at hr
     simp only [hz,cond_true] at hk
     simp only [<- hb,<- hr,cond_true]
     exact ⟨by simp,SEB.of_KP (e:=.ret) (sp:=E1t) D6 D7 hp (.none _) hB hk (hok _)⟩
    | false =>
     left
     rw [hz,Bool.false_or] at hb
     rw [hz,cond_false] at hr
     simp only [hz,cond_false] at hk
     exact ⟨j,⟨by omega,hb,hr⟩,by omega,rfl,SEB.of_KP (e:=.normal) (sp:=E1t) D6 D7 hp (.none _) hB hk (hok _)⟩
  cases hb:B1w k f g with
  | true =>
   rw [hb] at hv key
   cases hv
   refine ⟨⟨.inr rfl,.inr rfl,.inr rfl,.inr rfl,.inr rfl,.inr rfl,.inr rfl,.inr rfl,.inr rfl,.inr rfl,trivial⟩,fun Bb hB=>SEB.block_other (key Bb hB) (by simp)⟩
  | false =>
   rw [hb] at hv key
   cases hv
   refine ⟨⟨.inr rfl,.inr rfl,.inr rfl,.inr rfl,.inr rfl,.inr rfl,.inr rfl,.inr rfl,.inr rfl,.inr rfl,trivial⟩,fun Bb hB=>SEB.block_exit (key Bb hB)⟩
 ·cases h
def sp2:SP:=⟨[pW 8,pW 9],dd8++[opW,opW]⟩
def F2f:SP:=⟨[.int .i64],dd8++[opW,opW]⟩
def G6i:List Lf->Tr (SP × List Lf)
 | [.b l,.i n,.n m,.f f,.b l',.i n',.n m',.f g]=>.br (A9 (0<=n/\n<=232/\m=232/\m'=232)) (.leaf (F2f,B0g (D4r n n' f g) l n f l' n' g)) .fail
 | _=>.fail
theorem G3t (l:Bool) (n:Int) (f:Nat->Int) (l':Bool) (n':Int) (g:Nat->Int):(C9 prog E5y 60).call 167 (sp2.rho (lf2 l n f l' n' g)) (sp2.heap (lf2 l n f l' n' g)) (A1j F2f 10 []) =
  brK (n != n') (some (B0g (W (n - n')) l n f l' n' g)) (brK (A9 ((0:Int)=0/\-1<=W (n - 1)/\W (n - 1) < 232/\232=232/\232=232))
   (brK (B1w (W (n - 1)+1).toNat f g) (some (B0g (bey (W (n - 1)+1).toNat f g) l n f l' n' g)) (some (B0g 0 l n f l' n' g))) none):=by kernel_rfl
def pBig3:Prims:=pBig2.addh 167 (H9 8 (funP sp2 10 [] G6i))
theorem D2a {A:Amb} (hT:Tab A) (hG:gN prog<=A.G):PrimOK prog A pBig3:=by
 refine (E5g hT hG).addl gsz func167 (by kernel_rfl) (L8 D6 D7 rfl fun ls sq l h=>?_)
 unfold G6i at h
 split at h
 ·rename_i lb n m f lb' n' m' g
  obtain ⟨hc,hv⟩:=Tr.br1 h
  cases hv
  obtain ⟨h0,h1,rfl,rfl⟩:=D9 hc
  refine ⟨⟨.inr rfl,.inr rfl,.inr rfl,.inr rfl,.inr rfl,.inr rfl,.inr rfl,.inr rfl,.inr rfl,.inr rfl,trivial⟩,rfl,rfl,E5y,60,E8d hT,(G3t _ _ f _ _ g).trans ?_⟩
  have e1:W (n - 1)=n - 1:=by rw [W,wrap64 (by omega) (by omega)]
  have e2:(n - 1+1).toNat=n.toNat:=by omega
  rw [e1,e2,A8 (show _/\_ from ⟨rfl,by omega,by omega,rfl,rfl⟩)]
  unfold D4r
  cases hn:n != n' with
  | true=>rfl
  | false =>
   cases hb:B1w n.toNat f g with
   | true=>rfl
   | false=>rw [cond_false,D7l hb]; rfl
 ·cases h
end Go.Proofs.Tryz
namespace Go.Proofs.Tryz
open Go.Ad
def D9w:Code:=f117.body.getD .skip
def bodyC:Code:=J3 (K6 0 D9w)
def spC:SP:=⟨[pW 8,pW 9,.int .i64,.int .i64,.drop,.drop,.drop,.drop,.int .i64,.int .i64]++dr 73,dd8++[opW,opW]⟩
def lfC (fac up rest i:Int) (l:Bool) (n:Int) (f:Nat->Int) (l':Bool) (n':Int) (g:Nat->Int):List Lf:=.i fac :: .i up :: .i rest :: .i i :: lf2 l n f l' n' g
section
variable (fac up rest i:Int) (l:Bool) (n:Int) (f:Nat->Int) (l':Bool) (n':Int) (g:Nat->Int)
def cOut (r t:Int):Option (AEx × List Lf) :=
 brK (decide (0<=W (i+up)/\W (i+up) < 232)) (brK (decide ((W (i+up)).toNat < 232))
  (some (.normal,lfC fac up r (W (i+1)) l (if W (W (i+up)+1) > n then W (W (i+up)+1) else n) (Y4 f (W (i+up)).toNat t) l' n' g)) none) none
def F3z (s:Int):Option (AEx × List Lf) :=
 brK (decide (W (s - W (W (s.tdiv 1000000000)*1000000000)) < 0))
  (cOut fac up i l n f l' n' g (W (W (s.tdiv 1000000000) - 1)) (W (W (s - W (W (s.tdiv 1000000000)*1000000000))+1000000000)))
  (cOut fac up i l n f l' n' g (W (s.tdiv 1000000000)) (W (s - W (W (s.tdiv 1000000000)*1000000000))))
def F4l:Option (AEx × List Lf) :=
 brK (decide (0<=W (i+up)/\W (i+up) < 232)) (brK (decide ((W (i+up)).toNat < 232)) (brK (decide (i < n')) (brK (decide (0<=i/\i < 232)) (brK (decide (i.toNat < 232))
  (F3z fac up i l n f l' n' g (W (W (f (W (i+up)).toNat+rest)+W (fac*g i.toNat)))) none) none)
  (F3z fac up i l n f l' n' g (W (f (W (i+up)).toNat+rest)))) none) none
theorem E5l:F3 prog (C9 prog lib2 60) F8 bodyC (spC.rho (lfC fac up rest i l n f l' n' g)) (spC.heap (lfC fac up rest i l n f l' n' g)) (H5 (fun _=>spC) 10 [8]) =
  brK (decide (i < n')) (F4l fac up rest i l n f l' n' g) (brK (rest != 0) (F4l fac up rest i l n f l' n' g) (some (.exit 0,lfC fac up rest i l n f l' n' g))):=by kernel_rfl
end
theorem F9k (s:Int):s.tdiv 1000000000=if 0<=s then s / 1000000000 else -((-s) / 1000000000):=by
 split
 ·rename_i h; exact Int.tdiv_eq_ediv_of_nonneg h
 ·rename_i h
  have:=Int.neg_tdiv (-s) 1000000000
  rw [Int.neg_neg] at this
  rw [this,Int.tdiv_eq_ediv_of_nonneg (by omega)]
section
variable {fac up i:Int} {l:Bool} {n:Int} {f:Nat->Int} {l':Bool} {n':Int} {g:Nat->Int}
theorem D8v {s:Int} (h0:-4000000000000000000<=s) (h1:s<=4000000000000000000):F3z fac up i l n f l' n' g s=cOut fac up i l n f l' n' g (s / (BB:Int)) (s % (BB:Int)):=by
 have hB:(BB:Int)=1000000000:=rfl
 unfold F3z
 rw [hB,F9k]
 by_cases hs:0<=s
 ·rw [if_pos hs]
  have e1:W (s / 1000000000)=s / 1000000000:=by rw [W,wrap64 (by omega) (by omega)]
  have e2:W (s / 1000000000*1000000000)=s / 1000000000*1000000000:=by rw [W,wrap64 (by omega) (by omega)]
  have e3:W (s - s / 1000000000*1000000000)=s % 1000000000:=by rw [W,wrap64 (by omega) (by omega)]; omega
  rw [e1,e2,e3,dF (by omega)]
  rfl
 ·rw [if_neg hs]
  obtain ⟨a,ha⟩:∃ a,a=-((-s) / 1000000000):=⟨_,rfl⟩
  rw [<- ha]
  have e1:W a=a:=by rw [W,wrap64 (by omega) (by omega)]
  have e2:W (a*1000000000)=a*1000000000:=by rw [W,wrap64 (by omega) (by omega)]
  have e3:W (s - a*1000000000)=s - a*1000000000:=by rw [W,wrap64 (by omega) (by omega)]
  rw [e1,e2,e3]
  by_cases ht:s - a*1000000000 < 0
  ·rw [dT ht]
   have e4:W (a - 1)=s / 1000000000:=by rw [W,wrap64 (by omega) (by omega)]; omega
   have e5:W (s - a*1000000000+1000000000)=s % 1000000000:=by rw [W,wrap64 (by omega) (by omega)]; omega
   rw [e4,e5]
   rfl
  ·rw [dF ht]
   have e4:a=s / 1000000000:=by omega
   have e5:s - a*1000000000=s % 1000000000:=by omega
   rw [e5,e4]
   rfl
end
section
variable {X Y up S i:Nat} {fac:Int} {l l':Bool}
def lfS (X Y:Nat) (fac:Int) (up S:Nat) (l l':Bool) (i:Nat):List Lf:=lfC fac up (A1f X Y fac up i) i l (nI X up i:Nat) (fI X S up i) l' (wn Y) (wf Y)
def goC (X Y:Nat) (fac:Int) (up i:Nat):Bool:=decide (i < wn Y) || A1f X Y fac up i != 0
theorem A8m (hS:(S:Int)=X+fac*Y*(BB ^ up:Nat)) (hf:-1000000000<=fac/\fac<=1000000000) (hX:wn X<=232) (hSn:wn S<=232) (hYu:wn Y+up<=232) (hg:goC X Y fac up i=true) :
  i+up < 232/\F3 prog (C9 prog lib2 60) F8 bodyC (spC.rho (lfS X Y fac up S l l' i)) (spC.heap (lfS X Y fac up S l l' i)) (H5 (fun _=>spC) 10 [8])=some (.normal,lfS X Y fac up S l l' (i+1)):=by
 have hC:=C6r hS i
 have hr:=E1c hC hf
 have hlt:i+up < 232:=by
  by_cases h:i < wn Y
  ·omega
  ·have:A1f X Y fac up i ≠ 0:=by
    unfold goC at hg
    rw [dF h,Bool.false_or] at hg
    simpa using hg
   have:=E4d hS hC (by omega) this
   omega
 refine ⟨hlt,?_⟩
 have hst:=C4g hS hC
 have hq:=A5c hst.1
 have hxw:=A5d X (i+up)
 have hyw:=A5d Y i
 have hB:BB=1000000000:=rfl
 obtain ⟨z,hz⟩:∃ z,z=fac*(wd Y i:Int):=⟨_,rfl⟩
 have hz1:z<=1000000000000000000:=by
  rw [hz]
  refine Int.le_trans (Int.mul_le_mul_of_nonneg_right hf.2 (Int.natCast_nonneg _)) ?_
  omega
 have hz2:-1000000000000000000<=z:=by
  rw [hz]
  refine Int.le_trans ?_ (Int.mul_le_mul_of_nonneg_right hf.1 (Int.natCast_nonneg _))
  omega
 rw [<- hz] at hst hq
 have e0:W ((i:Int)+(up:Int))=((i+up:Nat):Int):=by rw [W,wrap64 (by omega) (by omega)]; omega
 have ef:fI X S up i (i+up)=(wd X (i+up):Int):=by unfold fI; rw [if_neg (by omega)]; rfl
 have eg:wf Y i=(wd Y i:Int):=rfl
 have en:(if W (((i+up:Nat):Int)+1) > ((nI X up i:Nat):Int) then W (((i+up:Nat):Int)+1) else ((nI X up i:Nat):Int))=((nI X up (i+1):Nat):Int):=by
  rw [<- F3n,W,wrap64 (by omega) (by omega)]
  split <;> omega
 have e1:W ((i:Int)+1)=((i+1:Nat):Int):=by rw [W,wrap64 (by omega) (by omega)]; omega
 have out:∀ s,s=A1f X Y fac up i+wd X (i+up)+z->cOut fac up i l (nI X up i:Nat) (fI X S up i) l' (wn Y) (wf Y) (s / (BB:Int)) (s % (BB:Int))=some (.normal,lfS X Y fac up S l l' (i+1)):=fun s hs=>by
  unfold cOut
  rw [e0,Int.toNat_natCast,dT (show 0<=((i+up:Nat):Int)/\((i+up:Nat):Int) < 232 by omega),dT hlt,en,e1,hs,hst.2,hq,F3k]
  rfl
 have mid:F4l fac up (A1f X Y fac up i) i l (nI X up i:Nat) (fI X S up i) l' (wn Y) (wf Y)=some (.normal,lfS X Y fac up S l l' (i+1)):=by
  unfold F4l
  rw [e0,Int.toNat_natCast,dT (show 0<=((i+up:Nat):Int)/\((i+up:Nat):Int) < 232 by omega),dT hlt,ef,Int.toNat_natCast,eg,<- hz]
  have w1:W ((wd X (i+up):Int)+A1f X Y fac up i)=A1f X Y fac up i+wd X (i+up):=by rw [W,wrap64 (by omega) (by omega)]; omega
  have w2:W z=z:=by rw [W,wrap64 (by omega) (by omega)]
  have w3:W (A1f X Y fac up i+wd X (i+up)+z)=A1f X Y fac up i+wd X (i+up)+z:=by rw [W,wrap64 (by omega) (by omega)]
  rw [w1,w2,w3]
  by_cases h:i < wn Y
  ·rw [dT (show (i:Int) < (wn Y:Int) by omega),dT (show 0<=(i:Int)/\(i:Int) < 232 by omega),dT (show i < 232 by omega),D8v (by omega) (by omega),out _ rfl]
   rfl
  ·have hy0:=A3k (V:=Y) (i:=i) (by omega)
   have hz0:z=0:=by rw [hz,hy0]; simp
   rw [dF (show ¬ (i:Int) < (wn Y:Int) by omega),D8v (s:=A1f X Y fac up i+wd X (i+up)) (by omega) (by omega),out (A1f X Y fac up i+wd X (i+up)) (by rw [hz0]; omega)]
   rfl
 rw [lfS,E5l,mid]
 unfold goC at hg
 by_cases h:i < wn Y
 ·rw [dT (show (i:Int) < (wn Y:Int) by omega)]; rfl
 ·rw [dF (show ¬ (i:Int) < (wn Y:Int) by omega)]
  rw [dF h,Bool.false_or] at hg
  rw [hg]; rfl
theorem C8j (hg:goC X Y fac up i=false) :
  F3 prog (C9 prog lib2 60) F8 bodyC (spC.rho (lfS X Y fac up S l l' i)) (spC.heap (lfS X Y fac up S l l' i)) (H5 (fun _=>spC) 10 [8])=some (.exit 0,lfS X Y fac up S l l' i):=by
 unfold goC at hg
 rw [Bool.or_eq_false_iff] at hg
 rw [lfS,E5l,dF (show ¬ (i:Int) < (wn Y:Int) by have:=of_decide_eq_false hg.1; omega),hg.2]
 rfl
def A7r (X Y:Nat) (fac:Int) (up:Nat):Nat:=N8 (goC X Y fac up) 233 0
end
def B0e (fac up:Int) (n:Int) (f:Nat->Int) (n':Int) (g:Nat->Int) (S:Nat):Prop :=
 isW n f/\isW n' g/\(-1000000000<=fac/\fac<=1000000000)/\0<=up/\n'+up<=232/\wn S<=232/\(S:Int)=(E9 n f:Int)+fac*(E9 n' g:Int)*((BB ^ up.toNat:Nat):Int)
def A0k (fac up:Int) (n:Int) (f:Nat->Int) (n':Int) (g:Nat->Int):Nat:=((E9 n f:Int)+fac*(E9 n' g:Int)*((BB ^ up.toNat:Nat):Int)).toNat
def G8m:Blk:=hookP spC 10 [8] fun
 | [.i fac,.i up,.i rest,.i i,.b l,.i n,.n m,.f f,.b l',.i n',.n m',.f g]=>.br (A9 (rest=0/\i=0/\m=232/\m'=232/\B0e fac up n f n' g (A0k fac up n f n' g)))
  (.leaf (.normal,spC,lfS (E9 n f) (E9 n' g) fac up.toNat (A0k fac up n f n' g) l l' (A7r (E9 n f) (E9 n' g) fac up.toNat))) .fail
 | _=>.fail
def F2r:Prims:=pBig3.addb 117 0 G8m
section
variable {A:Amb} (hT:Tab A) (hG:gN prog<=A.G)
include hT hG
theorem F2e:PrimOK prog A F2r:=by
 have hp:=I8 hT
 refine PrimOK.addbP (D2a hT hG) func117 (show f117.body=some D9w by kernel_rfl) (body:=.loop bodyC) (by kernel_rfl) (by kernel_rfl) fun ls e sq l h=>?_
 split at h
 ·rename_i fac up rest i lb n m f lb' n' m' g
  obtain ⟨hc,hv⟩:=Tr.br1 h
  cases hv
  obtain ⟨rfl,rfl,rfl,rfl,w1,w2,hf,hu,hnu,hSn,hS⟩:=D9 hc
  obtain ⟨a1,a2,a3⟩:=S9 w1
  obtain ⟨b1,b2,b3⟩:=S9 w2
  obtain ⟨u,rfl⟩:∃ u:Nat,up=u:=⟨up.toNat,by omega⟩
  generalize hX:E9 n f=X at *
  generalize hY:E9 n' g=Y at *
  generalize hSS:A0k fac u n f n' g=S at *
  subst a1 a2 b1 b2
  rw [Int.toNat_natCast] at hS ⊢
  have hgo:∀ i,goC X Y fac u i=true->i+u < 232:=fun i hi=>(A8m (l:=lb) (l':=lb') hS hf a3 hSn (by omega) hi).1
  refine ⟨⟨.inr rfl,.inr rfl,.inr rfl,.inr rfl,.inr rfl,.inr rfl,.inr rfl,.inr rfl,.inl rfl,.inr rfl,trivial⟩,fun Bb hB=>SEB.block_exit (id:=0) ?_⟩
  have e0:(⟨spC.rho [.i fac,.i (u:Int),.i 0,.i 0,.b lb,.i (wn X:Int),.n 232,.f (wf X),.b lb',.i (wn Y:Int),.n 232,.f (wf Y)],spC.heap [.i fac,.i (u:Int),.i 0,.i 0,.b lb,.i (wn X:Int),.n 232,.f (wf X),.b lb',.i (wn Y:Int),.n 232,.f (wf Y)],[8]⟩:St) =
    ⟨spC.rho (lfS X Y fac u S lb lb' 0),spC.heap (lfS X Y fac u S lb lb' 0),[8]⟩:=by
   have h1:A1f X Y fac u 0=0:=(A5c (B5i hS)).symm
   have h2:fI X S u 0=wf X:=F3b hS
   have h3:nI X u 0=wn X:=by simp [nI]
   unfold lfS lfC lf2
   rw [h1,h2,h3]
   rfl
  rw [e0]
  have key:=SEB.scan (A:=A) (B0:=Bb) (c:=bodyC) (S:=fun i=>⟨spC.rho (lfS X Y fac u S lb lb' i),spC.heap (lfS X Y fac u S lb lb' i),[8]⟩) (E:=fun i=>⟨spC.rho (lfS X Y fac u S lb lb' i),spC.heap (lfS X Y fac u S lb lb' i),[8]⟩)
   (e:=fun _=>.exit 0) (p:=goC X Y fac u) (N:=233) (fun _=>by simp)
   (fun i hi hg=>SEB.of_KP (e:=.normal) D6 D7 hp (.none _) hB (A8m hS hf a3 hSn (by omega) hg).2 rfl)
   (fun i hi hg=>SEB.of_KP (e:=.exit 0) D6 D7 hp (.none _) hB (C8j (by
    cases hq:goC X Y fac u i with
    | false=>rfl
    | true=>have:=hgo i hq; have h:=hg (by omega); rw [hq] at h; exact h)) rfl) 0 (Nat.zero_le _)
  exact key
 ·cases h
end
theorem D3v {X Y u S:Nat} {fac:Int} (hS:(S:Int)=X+fac*Y*(BB ^ u:Nat)) (hf:-1000000000<=fac/\fac<=1000000000) (hX:wn X<=232) (hSn:wn S<=232) (hYu:wn Y+u<=232) :
  nI X u (A7r X Y fac u)<=232/\fI X S u (A7r X Y fac u)=wf S/\A0g (nI X u (A7r X Y fac u)) (wf S)=wn S:=by
 have hgo:∀ i,goC X Y fac u i=true->i+u < 232:=fun i hi=>(A8m (l:=false) (l':=false) hS hf hX hSn hYu hi).1
 have hle:A7r X Y fac u+u<=232 \/ A7r X Y fac u=0:=by
  by_cases h0:A7r X Y fac u=0
  ·exact .inr h0
  ·left
   have:=B1o (p:=goC X Y fac u) (k:=233) (n:=0) (m:=A7r X Y fac u - 1) (Nat.zero_le _) (by unfold A7r at h0 ⊢; omega)
   have:=hgo _ this
   omega
 have hno:goC X Y fac u (A7r X Y fac u)=false:=B0z (by
  show A7r X Y fac u < _
  omega)
 unfold goC at hno
 rw [Bool.or_eq_false_iff] at hno
 have h1:wn Y<=A7r X Y fac u:=by have:=of_decide_eq_false hno.1; omega
 have h2:A1f X Y fac u (A7r X Y fac u)=0:=by simpa using hno.2
 refine ⟨?_,F9x hS h1 h2,A7x S _ (G0y hS h1 h2)⟩
 unfold nI
 split <;> omega
def sp4:SP:=⟨[pW 8,pW 9,.int .i64,.int .i64],dd8++[opW,opW]⟩
def F4s:SP:=⟨[.is (.tuple [])],dd8++[opW,opW]⟩
def H0f:List Lf->Tr (SP × List Lf)
 | [.i fac,.i up,.b l,.i n,.n m,.f f,.b l',.i n',.n m',.f g]=>.br (A9 (m=232/\m'=232/\B0e fac up n f n' g (A0k fac up n f n' g)))
  (.leaf (F4s,lf2 l (wn (A0k fac up n f n' g)) (wf (A0k fac up n f n' g)) l' n' g)) .fail
 | _=>.fail
def D7d (fac up:Int) (l:Bool) (n:Int) (f:Nat->Int) (l':Bool) (n':Int) (g:Nat->Int) (X Y S:Nat):Option (List Lf) :=
 brK (A9 ((0:Int)=0/\(0:Int)=0/\232=232/\232=232/\B0e fac up n f n' g S)) (brK (A9 (0<=((nI X up.toNat (A7r X Y fac up.toNat):Nat):Int)/\((nI X up.toNat (A7r X Y fac up.toNat):Nat):Int)<=232/\232=232))
  (some (lf2 l (A0g ((nI X up.toNat (A7r X Y fac up.toNat):Nat):Int).toNat (fI X S up.toNat (A7r X Y fac up.toNat))) (fI X S up.toNat (A7r X Y fac up.toNat)) l' (wn Y) (wf Y))) none) none
theorem G4x (fac up:Int) (l:Bool) (n:Int) (f:Nat->Int) (l':Bool) (n':Int) (g:Nat->Int):(C9 prog F2r 60).call 117 (sp4.rho (.i fac :: .i up :: lf2 l n f l' n' g)) (sp4.heap (.i fac :: .i up :: lf2 l n f l' n' g)) (A1j F4s 10 [8]) =
  D7d fac up l n f l' n' g (E9 n f) (E9 n' g) (A0k fac up n f n' g):=by kernel_rfl
def pBig4:Prims:=pBig3.addh 117 (H9 8 (funP sp4 10 [8] H0f))
theorem E7i {A:Amb} (hT:Tab A) (hG:gN prog<=A.G):PrimOK prog A pBig4:=by
 refine (D2a hT hG).addl gsz func117 (by kernel_rfl) (L8 D6 D7 rfl fun ls sq l h=>?_)
 unfold H0f at h
 split at h
 ·rename_i fac up lb n m f lb' n' m' g
  obtain ⟨hc,hv⟩:=Tr.br1 h
  cases hv
  obtain ⟨rfl,rfl,hok⟩:=D9 hc
  refine ⟨⟨.inr rfl,.inr rfl,.inr rfl,.inr rfl,.inr rfl,.inr rfl,.inr rfl,.inr rfl,.inl rfl,.inr rfl,trivial⟩,rfl,rfl,F2r,60,F2e hT hG,(G4x _ _ _ _ f _ _ g).trans ?_⟩
  unfold D7d
  rw [A8 (show _/\_ from ⟨rfl,rfl,rfl,rfl,hok⟩)]
  obtain ⟨w1,w2,hf,hu,hnu,hSn,hS⟩:=hok
  obtain ⟨a1,a2,a3⟩:=S9 w1
  obtain ⟨b1,b2,b3⟩:=S9 w2
  obtain ⟨u,rfl⟩:∃ u:Nat,up=u:=⟨up.toNat,by omega⟩
  generalize hX:E9 n f=X at *
  generalize hY:E9 n' g=Y at *
  generalize hSS:A0k fac u n f n' g=S at *
  subst a1 a2 b1 b2
  rw [Int.toNat_natCast] at hS ⊢
  obtain ⟨h1,h2,h3⟩:=D3v hS hf a3 hSn (by omega)
  rw [h2,Int.toNat_natCast,h3,A8 (show _/\_ from ⟨by omega,by omega,rfl⟩)]
  rfl
 ·cases h
end Go.Proofs.Tryz
namespace Go.Proofs.Tryz
open Go.Ad
def sp1i:SP:=⟨[pW 8,.int .i64],dd8++[opW]⟩
def H0j:SP:=⟨[.int .i64],dd8++[opW]⟩
def G7u:List Lf->Tr (SP × List Lf)
 | [.i i,.b l,.i n,.n m,.f f]=>.br (A9 (0<=n/\n<=232/\m=232)) (.leaf (H0j,.i (A2l n f i) :: lfT l n f)) .fail
 | _=>.fail
theorem G3h (i:Int) (l:Bool) (n:Int) (f:Nat->Int):(C9 prog lib2 60).call 199 (sp1i.rho (.i i :: lfT l n f)) (sp1i.heap (.i i :: lfT l n f)) (A1j H0j 9 []) =
  brK (decide (i < 0)) (some (.i 0 :: lfT l n f)) (brK (decide (i >= n)) (some (.i 0 :: lfT l n f)) (brK (decide (0<=i/\i < 232)) (brK (decide (i.toNat < 232)) (some (.i (f i.toNat) :: lfT l n f)) none) none)):=by kernel_rfl
def pBig5:Prims:=pBig4.addh 199 (H9 8 (funP sp1i 9 [] G7u))
theorem C9f {A:Amb} (hT:Tab A) (hG:gN prog<=A.G):PrimOK prog A pBig5:=by
 refine (E7i hT hG).addl gsz func199 (by kernel_rfl) (L8 D6 D7 rfl fun ls sq l h=>?_)
 unfold G7u at h
 split at h
 ·rename_i i lb n m f
  obtain ⟨hc,hv⟩:=Tr.br1 h
  cases hv
  obtain ⟨h0,h1,rfl⟩:=D9 hc
  refine ⟨⟨.inr rfl,.inr rfl,.inr rfl,.inr rfl,.inr rfl,.inr rfl,.inr rfl,.inr rfl,.inr rfl,trivial⟩,rfl,rfl,lib2,60,I8 hT,(G3h _ _ _ f).trans ?_⟩
  unfold A2l
  by_cases ha:i < 0
  ·rw [dT ha]; rfl
  ·rw [dF ha]
   by_cases hb:i >= n
   ·rw [dT hb]; rfl
   ·rw [dF hb,dT (show 0<=i/\i < 232 by omega),dT (show i.toNat < 232 by omega)]; rfl
 ·cases h
def okE (n:Int) (f:Nat->Int) (n':Int) (g:Nat->Int):Prop:=isW n f/\isW n' g/\0 < E9 n' g/\E9 n' g<=E9 n f/\E9 n f < E9 n' g*BB
section
variable (l:Bool) (n:Int) (f:Nat->Int) (l':Bool) (n':Int) (g:Nat->Int)
def F6y (b:Int):Option (List Lf) :=
 brK (decide (¬ b=0)) (brK (decide (W ((W (W (A2l n f n'*1000000000)+A2l n f (W (n' - 1)))).tdiv b) > 0))
  (some (B0g (if 999999999 < W ((W (W (A2l n f n'*1000000000)+A2l n f (W (n' - 1)))).tdiv b) then 999999999 else W ((W (W (A2l n f n'*1000000000)+A2l n f (W (n' - 1)))).tdiv b)) l n f l' n' g))
  (some (B0g 1 l n f l' n' g))) none
theorem G1j:(C9 prog pBig5 60).call 168 (sp2.rho (lf2 l n f l' n' g)) (sp2.heap (lf2 l n f l' n' g)) (A1j F2f 10 []) =
  brK (A9 (0<=n/\n<=232/\232=232)) (brK (A9 (0<=n/\n<=232/\232=232)) (brK (A9 (0<=n'/\n'<=232/\232=232)) (brK (decide (n' > 1))
   (F6y l n f l' n' g (W (A2l n' g (W (n' - 1))+1))) (F6y l n f l' n' g (A2l n' g (W (n' - 1))))) none) none) none:=by kernel_rfl
end
theorem E0m {l l':Bool} {n n':Int} {f g:Nat->Int} (h:okE n f n' g):(C9 prog pBig5 60).call 168 (sp2.rho (lf2 l n f l' n' g)) (sp2.heap (lf2 l n f l' n' g)) (A1j F2f 10 [])=some (B0g (B6k n f n' g) l n f l' n' g):=by
 obtain ⟨w1,w2,h0,h1,h2⟩:=h
 obtain ⟨a1,a2,a3⟩:=S9 w1
 obtain ⟨b1,b2,b3⟩:=S9 w2
 have key:=D6v h0 h1 h2
 rw [<- a1,<- a2,<- b1,<- b2] at key
 obtain ⟨k1,⟨k2,k3⟩,⟨k4,k5⟩,k,k6,k7,k8,_⟩:=key
 rw [G1j]
 have hn:0<=n/\n<=232:=by omega
 have hn':0<=n'/\n'<=232:=by omega
 rw [A8 (show _/\_ from ⟨hn.1,hn.2,rfl⟩),A8 (show _/\_ from ⟨hn'.1,hn'.2,rfl⟩)]
 have e1:W (n' - 1)=n' - 1:=by rw [W,wrap64 (by omega) (by omega)]
 have htop:∀ (V:Nat) (i:Int),0<=A2l (wn V) (wf V) i/\A2l (wn V) (wf V) i < 1000000000:=fun V i=>by
  unfold A2l
  cases decide (i < 0) || decide (i >= (wn V:Int)) with
  | true=>exact ⟨by simp,by simp⟩
  | false =>
   have:=A5d V i.toNat
   have hB:BB=1000000000:=rfl
   simp only [cond_false,wf]
   omega
 have t1:=htop (E9 n f) n'
 have t2:=htop (E9 n f) (n' - 1)
 have t3:=htop (E9 n' g) (n' - 1)
 rw [<- a1,<- a2] at t1 t2
 rw [<- b1,<- b2] at t3
 have e2:W (W (A2l n f n'*1000000000)+A2l n f (n' - 1))=B2q n f n':=by
  rw [W,W,wrap64 (n:=A2l n f n'*1000000000) (by omega) (by omega),wrap64 (by omega) (by omega)]; rfl
 have e3:W (A2l n' g (n' - 1)+1)=A2l n' g (n' - 1)+1:=by rw [W,wrap64 (by omega) (by omega)]
 rw [e1,e3]
 have hk:∀ b,b=B0d n' g->F6y l n f l' n' g b=some (B0g (B6k n f n' g) l n f l' n' g):=fun b hb=>by
  subst hb
  unfold F6y
  rw [e1,e2]
  have hq:W ((B2q n f n').tdiv (B0d n' g))=(B2q n f n').tdiv (B0d n' g):=by
   have q1:0<=(B2q n f n').tdiv (B0d n' g):=Int.tdiv_nonneg k2 k4
   have q2:(B2q n f n').tdiv (B0d n' g)<=B2q n f n':=by
    rw [Int.tdiv_eq_ediv_of_nonneg k2]
    exact Int.ediv_le_self _ k2
   rw [W,wrap64 (by omega) (by omega)]
  rw [hq,dT k1]
  unfold B6k
  by_cases hp:(B2q n f n').tdiv (B0d n' g) > 0
  ·rw [dT hp,if_pos hp]; rfl
  ·rw [dF hp,if_neg hp]; rfl
 by_cases hb:n' > 1
 ·rw [dT hb,hk _ (by unfold B0d; rw [if_pos hb])]; rfl
 ·rw [dF hb,hk (A2l n' g (n' - 1)) (by unfold B0d; rw [if_neg hb])]; rfl
def G8l:List Lf->Tr (SP × List Lf)
 | [.b l,.i n,.n m,.f f,.b l',.i n',.n m',.f g]=>.br (A9 (m=232/\m'=232/\okE n f n' g)) (.leaf (F2f,B0g (B6k n f n' g) l n f l' n' g)) .fail
 | _=>.fail
def pBig6:Prims:=pBig5.addh 168 (H9 8 (funP sp2 10 [] G8l))
theorem B8e {A:Amb} (hT:Tab A) (hG:gN prog<=A.G):PrimOK prog A pBig6:=by
 refine (C9f hT hG).addl gsz func168 (by kernel_rfl) (L8 D6 D7 rfl fun ls sq l h=>?_)
 unfold G8l at h
 split at h
 ·rename_i lb n m f lb' n' m' g
  obtain ⟨hc,hv⟩:=Tr.br1 h
  cases hv
  obtain ⟨rfl,rfl,hok⟩:=D9 hc
  exact ⟨⟨.inr rfl,.inr rfl,.inr rfl,.inr rfl,.inr rfl,.inr rfl,.inr rfl,.inr rfl,.inr rfl,.inr rfl,trivial⟩,rfl,rfl,pBig5,60,C9f hT hG,E0m hok⟩
 ·cases h
end Go.Proofs.Tryz
