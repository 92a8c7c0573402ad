/- Numbers of any size, in the program's words: leading words of 0; comparison. -/
import Derived.Test.YtfjgehlpjppggaaGreatDoorBase
import Derived.Test.YtfjgehlpjppggaaGreatDoorAdPat
import Derived.Test.YtfjgehlpjppggaaGreatDoorAdNum
noncomputable section
namespace Go.Proofs.Tryz
open Go.Ad
def opW:OP:=.arr [.sbool,.sint .i64] .i64 179
def pW (b:Nat):Pt:=.is (.ptr (some (b,0)))
def Z5:Nat->(Nat->Int)->Nat
 | 0,_=>0
 | n+1,f=>bif f n == 0 then Z5 n f else n+1
theorem A7y (V:Nat):∀ n,wn V<=n->Z5 n (wf V)=wn V
 | 0,h=>by simp only [Z5]; omega
 | n+1,h=>by
  simp only [Z5]
  by_cases h1:wn V=n+1
  ·have h0:V ≠ 0:=fun e=>by subst e; rw [Y3] at h1; omega
   have ht:=G0k h0
   rw [h1,Nat.add_sub_cancel] at ht
   have:(wf V n == 0)=false:=by simp [wf]; omega
   rw [this,h1]; rfl
  ·have hz:=A3e (V:=V) (i:=n) (by omega)
   have:(wf V n == 0)=true:=by simp [wf,hz]
   rw [this,cond_true]
   exact A7y V n (by omega)
def D8z:Code:=f147.body.getD .skip
def F3q:Code:=I7 (J7 0 D8z)
def spT:SP:=⟨[pW 8]++dr 28,dd8++[opW]⟩
def lfT (l:Bool) (n:Int) (f:Nat->Int):List Lf:=[.b l,.i n,.n 232,.f f]
theorem G4c (l:Bool) (n:Int) (f:Nat->Int):E9 prog (C8 prog lib2 60) F7 F3q (spT.rho (lfT l n f)) (spT.heap (lfT l n f)) (H6 (fun _=>spT) 9 [8]) =
  brK (decide (n > 0)) (brK (decide (0<=W (n - 1)/\W (n - 1) < 232)) (brK (decide ((W (n - 1)).toNat < 232)) (brK (f (W (n - 1)).toNat == 0)
   (some (.normal,lfT l (W (n - 1)) f)) (some (.exit 0,lfT l n f))) none) none) (some (.exit 0,lfT l n f)):=by kernel_rfl
theorem E2d (l:Bool) (n:Nat) (f:Nat->Int) (hn:n<=232):E9 prog (C8 prog lib2 60) F7 F3q (spT.rho (lfT l n f)) (spT.heap (lfT l n f)) (H6 (fun _=>spT) 9 [8]) =
  match n with
  | 0=>some (.exit 0,lfT l n f)
  | k+1=>bif f k == 0 then some (.normal,lfT l k f) else some (.exit 0,lfT l n f):=by
 rw [G4c]
 cases n with
 | zero=>rfl
 | succ k =>
  have e1:W (((k+1:Nat):Int) - 1)=(k:Int):=by rw [W,wrap64 (by omega) (by omega)]; omega
  rw [e1,Int.toNat_natCast,dT (show ((k+1:Nat):Int) > 0 by omega),dT (show 0<=(k:Int)/\(k:Int) < 232 by omega),dT (show k < 232 by omega)]
  cases h:f k == 0 <;> simp [brK,h]
def hookT:Blk:=hookP spT 9 [8] fun
 | [.b l,.i n,.n m,.f f]=>.br (A9 (0<=n/\n<=232/\m=232)) (.leaf (.normal,spT,lfT l (Z5 n.toNat f) f)) .fail
 | _=>.fail
def F0m:Prims:=lib2.addb 147 0 hookT
section
variable {A:Amb} (hT:Tab A) (hG:prog.globals.size<=A.G)
include hT hG
omit hG in
theorem E6r:PrimOK prog A F0m:=by
 have hp:=K5 hT
 refine PrimOK.addbP hp func147 (show f147.body=some D8z by kernel_rfl) (body:=.loop F3q) (by kernel_rfl) (by kernel_rfl) fun ls e sq l h=>?_
 split at h
 ·rename_i lb n m f
  obtain ⟨hc,hv⟩:=Tr.br1 h
  cases hv
  obtain ⟨h0,h1,rfl⟩:=D7 hc
  obtain ⟨k,rfl⟩:∃ k:Nat,n=k:=⟨n.toNat,by omega⟩
  rw [Int.toNat_natCast]
  refine ⟨by simp [frP,spT,SP.heap,mkH,dd8,dr,mkT,OP.mk,List.replicate,opW,lfT,pW,Pt.mk],fun Bb hB=>SEB.block_exit (id:=0) ?_⟩
  refine SEB.while (fun n:Nat=>n<=232/\Z5 n f=Z5 k f) (fun n=>n) (fun n=>⟨spT.rho (lfT lb n f),spT.heap (lfT lb n f),[8]⟩) (fun _=>(.exit 0,⟨spT.rho (lfT lb (Z5 k f) f),spT.heap (lfT lb (Z5 k f) f),[8]⟩)) (fun n hx=>?_) k ⟨by omega,rfl⟩
  obtain ⟨hn,ht⟩:=hx
  have hk:=E2d lb n f hn
  cases n with
  | zero =>
   right
   refine ⟨by simp,?_⟩
   simp only [Z5] at ht
   rw [<- ht]
   exact SEB.of_KP (e:=.exit 0) D5 D6 hp (.none _) hB hk rfl
  | succ n =>
   simp only [Z5] at ht
   cases hz:f n == 0 with
   | true =>
    left
    rw [hz,cond_true] at ht
    simp only [hz,cond_true] at hk
    exact ⟨n,⟨by omega,ht⟩,by omega,rfl,SEB.of_KP (e:=.normal) D5 D6 hp (.none _) hB hk rfl⟩
   | false =>
    right
    rw [hz,cond_false] at ht
    simp only [hz,cond_false] at hk
    refine ⟨by simp,?_⟩
    rw [<- ht]
    exact SEB.of_KP (e:=.exit 0) D5 D6 hp (.none _) hB hk rfl
 ·cases h
end
def spW1:SP:=⟨[pW 8],dd8++[opW]⟩
def G7s:List Lf->Tr (SP × List Lf)
 | [.b l,.i n,.n m,.f f]=>.br (A9 (0<=n/\n<=232/\m=232)) (.leaf (spW1,lfT l (Z5 n.toNat f) f)) .fail
 | _=>.fail
theorem G1i (l:Bool) (n:Int) (f:Nat->Int):(C8 prog F0m 60).call 147 (spW1.rho (lfT l n f)) (spW1.heap (lfT l n f)) (V8 spW1 9 [8]) =
  brK (A9 (0<=n/\n<=232/\232=232)) (some (lfT l (Z5 n.toNat f) f)) none:=by kernel_rfl
def pBig2:Prims:=lib2.addh 147 (G8 8 (funP spW1 9 [8] G7s))
theorem E8n {A:Amb} (hT:Tab A) (hG:prog.globals.size<=A.G):PrimOK prog A pBig2:=by
 refine (K5 hT).addl gsz func147 (by kernel_rfl) (K6 D5 D6 rfl fun ls sq l h=>?_)
 unfold G7s at h
 split at h
 ·rename_i lb n m f
  obtain ⟨hc,hv⟩:=Tr.br1 h
  cases hv
  obtain ⟨h0,h1,rfl⟩:=D7 hc
  refine ⟨by simp [frP,spW1,SP.heap,mkH,dd8,mkT,OP.mk,List.replicate,opW,lfT,pW,Pt.mk],rfl,rfl,F0m,60,E6r hT,(G1i _ _ f).trans ?_⟩
  rw [A8 (show _/\_ from ⟨h0,h1,rfl⟩)]; rfl
 ·cases h
end Go.Proofs.Tryz
namespace Go.Proofs.Tryz
open Go.Ad
def bey:Nat->(Nat->Int)->(Nat->Int)->Int
 | 0,_,_=>0
 | k+1,f,g=>bif f k != g k then W (f k - g k) else bey k f g
def D4z (n n':Int) (f g:Nat->Int):Int:=bif n != n' then W (n - n') else bey n.toNat f g
theorem E1k (V U:Nat):∀ k,0<=bey k (wf V) (wf U) ↔ U % BB ^ k<=V % BB ^ k
 | 0=>by simp [bey,Nat.mod_one]
 | k+1=>by
  simp only [bey]
  rw [A4i V,A4i U]
  have hv:=A4t V k
  have hu:=A4t U k
  have h1:=Nat.mod_lt V (O4 k)
  have h2:=Nat.mod_lt U (O4 k)
  have hb:BB=1000000000:=rfl
  rcases Nat.lt_trichotomy (wd V k) (wd U k) with h | h | h
  ·have e:(wf V k != wf U k)=true:=by simp [wf]; omega
   rw [e,cond_true,W,wrap64 (by simp [wf]; omega) (by simp [wf]; omega)]
   have:(wd V k+1)*BB ^ k<=wd U k*BB ^ k:=Nat.mul_le_mul_right _ h
   rw [Nat.add_mul] at this
   simp only [wf]
   generalize V % BB ^ k=a at h1 ⊢
   generalize U % BB ^ k=b at h2 ⊢
   constructor
   ·intro h; omega
   ·intro h; omega
  ·have e:(wf V k != wf U k)=false:=by simp [wf,h]
   rw [e,cond_false,E1k V U k,h]
   omega
  ·have e:(wf V k != wf U k)=true:=by simp [wf]; omega
   rw [e,cond_true,W,wrap64 (by simp [wf]; omega) (by simp [wf]; omega)]
   have:(wd U k+1)*BB ^ k<=wd V k*BB ^ k:=Nat.mul_le_mul_right _ h
   rw [Nat.add_mul] at this
   simp only [wf]
   generalize V % BB ^ k=a at h1 ⊢
   generalize U % BB ^ k=b at h2 ⊢
   constructor
   ·intro h; omega
   ·intro h; omega
theorem C8c {V U:Nat} (hv:wn V<=232) (hu:wn U<=232):decide (D4z (wn V) (wn U) (wf V) (wf U) >= 0)=decide (U<=V):=by
 have h1:=A2e V
 have h2:=A2e U
 unfold D4z
 by_cases h:wn V=wn U
 ·have e:((wn V:Int) != (wn U:Int))=false:=by simp [h]
  rw [e,cond_false,Int.toNat_natCast]
  have:=E1k V U (wn V)
  rw [Nat.mod_eq_of_lt h1,Nat.mod_eq_of_lt (by rw [h]; exact h2)] at this
  exact decide_eq_decide.2 this
 ·have e:((wn V:Int) != (wn U:Int))=true:=by simp; omega
  rw [e,cond_true,W,wrap64 (by omega) (by omega)]
  refine decide_eq_decide.2 ?_
  rcases Nat.lt_or_ge (wn V) (wn U) with h' | h'
  ·have:=A5i h'
   constructor
   ·intro h; omega
   ·intro h; omega
  ·have:=A5i (V:=V) (n:=wn U) (by omega)
   constructor
   ·intro h; omega
   ·intro h; omega
def E0z:Code:=f174.body.getD .skip
def E0h:Code:=I7 (J7 0 E0z)
def spY:SP:=⟨[pW 8,pW 9,.drop,.drop,.int .i64,.int .i64]++dr 53,dd8++[opW,opW]⟩
def lf2 (l:Bool) (n:Int) (f:Nat->Int) (l':Bool) (n':Int) (g:Nat->Int):List Lf:=[.b l,.i n,.n 232,.f f,.b l',.i n',.n 232,.f g]
def lfY (r i:Int) (l:Bool) (n:Int) (f:Nat->Int) (l':Bool) (n':Int) (g:Nat->Int):List Lf:=.i r :: .i i :: lf2 l n f l' n' g
def spYr:SP:=⟨[pW 8,pW 9,.drop,.drop,.int .i64,.drop]++dr 53,dd8++[opW,opW]⟩
def E3o:AEx->SP
 | .ret=>spYr
 | _=>spY
def B0r (r:Int) (l:Bool) (n:Int) (f:Nat->Int) (l':Bool) (n':Int) (g:Nat->Int):List Lf:=.i r :: lf2 l n f l' n' g
theorem G4u (i:Int) (l:Bool) (n:Int) (f:Nat->Int) (l':Bool) (n':Int) (g:Nat->Int):E9 prog (C8 prog lib2 60) F7 E0h (spY.rho (lfY 0 i l n f l' n' g)) (spY.heap (lfY 0 i l n f l' n' g)) (H6 E3o 10 []) =
  brK (decide (i >= 0)) (brK (decide (0<=i/\i < 232)) (brK (decide (i.toNat < 232)) (brK (decide (0<=i/\i < 232)) (brK (decide (i.toNat < 232)) (brK (f i.toNat != g i.toNat)
   (brK (decide (0<=i/\i < 232)) (brK (decide (i.toNat < 232)) (brK (decide (0<=i/\i < 232)) (brK (decide (i.toNat < 232)) (some (.ret,B0r (W (f i.toNat - g i.toNat)) l n f l' n' g)) none) none) none) none)
   (some (.normal,lfY 0 (W (i - 1)) l n f l' n' g))) none) none) none) none) (some (.exit 0,lfY 0 i l n f l' n' g)):=by kernel_rfl
def B1m:Nat->(Nat->Int)->(Nat->Int)->Bool
 | 0,_,_=>false
 | k+1,f,g=>f k != g k || B1m k f g
theorem D8p {f g:Nat->Int}:∀ {k},B1m k f g=false->bey k f g=0
 | 0,_=>rfl
 | k+1,h=>by
  simp only [B1m,Bool.or_eq_false_iff] at h
  simp only [bey,h.1,cond_false]
  exact D8p h.2
theorem E1x (k:Nat) (hk:k<=232) (l:Bool) (n:Int) (f:Nat->Int) (l':Bool) (n':Int) (g:Nat->Int):E9 prog (C8 prog lib2 60) F7 E0h (spY.rho (lfY 0 ((k:Int) - 1) l n f l' n' g)) (spY.heap (lfY 0 ((k:Int) - 1) l n f l' n' g)) (H6 E3o 10 []) =
  match k with
  | 0=>some (.exit 0,lfY 0 (-1) l n f l' n' g)
  | j+1=>bif f j != g j then some (.ret,B0r (W (f j - g j)) l n f l' n' g) else some (.normal,lfY 0 ((j:Int) - 1) l n f l' n' g):=by
 rw [G4u]
 cases k with
 | zero=>rfl
 | succ j =>
  have e0:((j+1:Nat):Int) - 1=j:=by omega
  rw [e0,Int.toNat_natCast,dT (show (j:Int) >= 0 by omega),dT (show 0<=(j:Int)/\(j:Int) < 232 by omega),dT (show j < 232 by omega)]
  have e1:W ((j:Int) - 1)=(j:Int) - 1:=by rw [W,wrap64 (by omega) (by omega)]
  rw [e1]
  cases h:f j != g j <;> simp [h,brK]
def G8d:Blk:=hookP spY 10 [] fun
 | [.i r,.i i,.b l,.i n,.n m,.f f,.b l',.i n',.n m',.f g]=>.br (A9 (r=0/\-1<=i/\i < 232/\m=232/\m'=232))
  (.br (B1m (i+1).toNat f g) (.leaf (.ret,spYr,B0r (bey (i+1).toNat f g) l n f l' n' g)) (.leaf (.normal,spY,lfY 0 (-1) l n f l' n' g))) .fail
 | _=>.fail
def E6n:Prims:=lib2.addb 174 0 G8d
theorem E6w {A:Amb} (hT:Tab A):PrimOK prog A E6n:=by
 have hp:=K5 hT
 refine PrimOK.addbP hp func174 (show f174.body=some E0z by kernel_rfl) (body:=.loop E0h) (by kernel_rfl) (by kernel_rfl) fun ls e sq l h=>?_
 split at h
 ·rename_i r i lb n m f lb' n' m' g
  obtain ⟨hc,hv⟩:=Tr.br1 h
  obtain ⟨rfl,h0,h1,rfl,rfl⟩:=D7 hc
  obtain ⟨k,hk⟩:∃ k:Nat,i=(k:Int) - 1:=⟨(i+1).toNat,by omega⟩
  subst hk
  have e1:((k:Int) - 1+1).toNat=k:=by omega
  rw [e1] at hv
  have hok:∀ e,okD 10 [] 0 (E3o e).h=true:=fun e=>by cases e <;> rfl
  have key:∀ Bb:Heap,Bb.length=10->SEB prog A Bb (.loop E0h) ⟨spY.rho (lfY 0 ((k:Int) - 1) lb n f lb' n' g),spY.heap (lfY 0 ((k:Int) - 1) lb n f lb' n' g),[]⟩
    (bif B1m k f g then .ret else .exit 0) (bif B1m k f g then ⟨spYr.rho (B0r (bey k f g) lb n f lb' n' g),spYr.heap (B0r (bey k f g) lb n f lb' n' g),[]⟩ else ⟨spY.rho (lfY 0 (-1) lb n f lb' n' g),spY.heap (lfY 0 (-1) lb n f lb' n' g),[]⟩):=fun Bb hB=>by
   have hk2:k<=232:=by omega
   refine SEB.while (fun n:Nat=>n<=232/\B1m n f g=B1m k f g/\bey n f g=bey k f g) (fun n=>n) (fun j=>⟨spY.rho (lfY 0 ((j:Int) - 1) lb n f lb' n' g),spY.heap (lfY 0 ((j:Int) - 1) lb n f lb' n' g),[]⟩)
    (fun _=>(bif B1m k f g then .ret else .exit 0,bif B1m k f g then ⟨spYr.rho (B0r (bey k f g) lb n f lb' n' g),spYr.heap (B0r (bey k f g) lb n f lb' n' g),[]⟩ else ⟨spY.rho (lfY 0 (-1) lb n f lb' n' g),spY.heap (lfY 0 (-1) lb n f lb' n' g),[]⟩)) (fun j hx=>?_) k ⟨hk2,rfl,rfl⟩
   obtain ⟨hj,hb,hr⟩:=hx
   have hk:=E1x j hj lb n f lb' n' g
   cases j with
   | zero =>
    right
    simp only [B1m] at hb
    simp only [<- hb,cond_false]
    exact ⟨by simp,SEB.of_KP (e:=.exit 0) (sp:=E3o) D5 D6 hp (.none _) hB hk (hok _)⟩
   | succ j =>
    simp only [B1m] at hb
    simp only [bey] at hr
    cases hz:f j != g j with
    | true =>
     right
     rw [hz,Bool.true_or] at hb
     rw [hz,cond_true] at hr
     simp only [hz,cond_true] at hk
     simp only [<- hb,<- hr,cond_true]
     exact ⟨by simp,SEB.of_KP (e:=.ret) (sp:=E3o) D5 D6 hp (.none _) hB hk (hok _)⟩
    | false =>
     left
     rw [hz,Bool.false_or] at hb
     rw [hz,cond_false] at hr
     simp only [hz,cond_false] at hk
     exact ⟨j,⟨by omega,hb,hr⟩,by omega,rfl,SEB.of_KP (e:=.normal) (sp:=E3o) D5 D6 hp (.none _) hB hk (hok _)⟩
  cases hb:B1m k f g with
  | true =>
   rw [hb] at hv key
   cases hv
   refine ⟨⟨.inr rfl,.inr rfl,.inr rfl,.inr rfl,.inr rfl,.inr rfl,.inr rfl,.inr rfl,.inr rfl,.inr rfl,trivial⟩,fun Bb hB=>SEB.block_other (key Bb hB) (by simp)⟩
  | false =>
   rw [hb] at hv key
   cases hv
   refine ⟨⟨.inr rfl,.inr rfl,.inr rfl,.inr rfl,.inr rfl,.inr rfl,.inr rfl,.inr rfl,.inr rfl,.inr rfl,trivial⟩,fun Bb hB=>SEB.block_exit (key Bb hB)⟩
 ·cases h
def sp2:SP:=⟨[pW 8,pW 9],dd8++[opW,opW]⟩
def F2f:SP:=⟨[.int .i64],dd8++[opW,opW]⟩
def H0e:List Lf->Tr (SP × List Lf)
 | [.b l,.i n,.n m,.f f,.b l',.i n',.n m',.f g]=>.br (A9 (0<=n/\n<=232/\m=232/\m'=232)) (.leaf (F2f,B0r (D4z n n' f g) l n f l' n' g)) .fail
 | _=>.fail
theorem G4l (l:Bool) (n:Int) (f:Nat->Int) (l':Bool) (n':Int) (g:Nat->Int):(C8 prog E6n 60).call 174 (sp2.rho (lf2 l n f l' n' g)) (sp2.heap (lf2 l n f l' n' g)) (V8 F2f 10 []) =
  brK (n != n') (some (B0r (W (n - n')) l n f l' n' g)) (brK (A9 ((0:Int)=0/\-1<=W (n - 1)/\W (n - 1) < 232/\232=232/\232=232))
   (brK (B1m (W (n - 1)+1).toNat f g) (some (B0r (bey (W (n - 1)+1).toNat f g) l n f l' n' g)) (some (B0r 0 l n f l' n' g))) none):=by kernel_rfl
def pBig3:Prims:=pBig2.addh 174 (G8 8 (funP sp2 10 [] H0e))
theorem C9y {A:Amb} (hT:Tab A) (hG:prog.globals.size<=A.G):PrimOK prog A pBig3:=by
 refine (E8n hT hG).addl gsz func174 (by kernel_rfl) (K6 D5 D6 rfl fun ls sq l h=>?_)
 unfold H0e at h
 split at h
 ·rename_i lb n m f lb' n' m' g
  obtain ⟨hc,hv⟩:=Tr.br1 h
  cases hv
  obtain ⟨h0,h1,rfl,rfl⟩:=D7 hc
  refine ⟨⟨.inr rfl,.inr rfl,.inr rfl,.inr rfl,.inr rfl,.inr rfl,.inr rfl,.inr rfl,.inr rfl,.inr rfl,trivial⟩,rfl,rfl,E6n,60,E6w hT,(G4l _ _ f _ _ g).trans ?_⟩
  have e1:W (n - 1)=n - 1:=by rw [W,wrap64 (by omega) (by omega)]
  have e2:(n - 1+1).toNat=n.toNat:=by omega
  rw [e1,e2,A8 (show _/\_ from ⟨rfl,by omega,by omega,rfl,rfl⟩)]
  unfold D4z
  cases hn:n != n' with
  | true=>rfl
  | false =>
   cases hb:B1m n.toNat f g with
   | true=>rfl
   | false=>rw [cond_false,D8p hb]; rfl
 ·cases h
end Go.Proofs.Tryz
namespace Go.Proofs.Tryz
open Go.Ad
def D9v:Code:=f148.body.getD .skip
def bodyC:Code:=I7 (J7 0 D9v)
def spC:SP:=⟨[pW 8,pW 9,.int .i64,.int .i64,.drop,.drop,.drop,.drop,.int .i64,.int .i64]++dr 73,dd8++[opW,opW]⟩
def lfC (fac up rest i:Int) (l:Bool) (n:Int) (f:Nat->Int) (l':Bool) (n':Int) (g:Nat->Int):List Lf:=.i fac :: .i up :: .i rest :: .i i :: lf2 l n f l' n' g
section
variable (fac up rest i:Int) (l:Bool) (n:Int) (f:Nat->Int) (l':Bool) (n':Int) (g:Nat->Int)
def cOut (r t:Int):Option (AEx × List Lf) :=
 brK (decide (0<=W (i+up)/\W (i+up) < 232)) (brK (decide ((W (i+up)).toNat < 232))
  (some (.normal,lfC fac up r (W (i+1)) l (if W (W (i+up)+1) > n then W (W (i+up)+1) else n) (X9 f (W (i+up)).toNat t) l' n' g)) none) none
def F7h (s:Int):Option (AEx × List Lf) :=
 brK (decide (W (s - W (W (s.tdiv 1000000000)*1000000000)) < 0))
  (cOut fac up i l n f l' n' g (W (W (s.tdiv 1000000000) - 1)) (W (W (s - W (W (s.tdiv 1000000000)*1000000000))+1000000000)))
  (cOut fac up i l n f l' n' g (W (s.tdiv 1000000000)) (W (s - W (W (s.tdiv 1000000000)*1000000000))))
def F4w:Option (AEx × List Lf) :=
 brK (decide (0<=W (i+up)/\W (i+up) < 232)) (brK (decide ((W (i+up)).toNat < 232)) (brK (decide (i < n')) (brK (decide (0<=i/\i < 232)) (brK (decide (i.toNat < 232))
  (F7h fac up i l n f l' n' g (W (W (f (W (i+up)).toNat+rest)+W (fac*g i.toNat)))) none) none)
  (F7h fac up i l n f l' n' g (W (f (W (i+up)).toNat+rest)))) none) none
theorem E7w:E9 prog (C8 prog lib2 60) F7 bodyC (spC.rho (lfC fac up rest i l n f l' n' g)) (spC.heap (lfC fac up rest i l n f l' n' g)) (H6 (fun _=>spC) 10 [8]) =
  brK (decide (i < n')) (F4w fac up rest i l n f l' n' g) (brK (rest != 0) (F4w fac up rest i l n f l' n' g) (some (.exit 0,lfC fac up rest i l n f l' n' g))):=by kernel_rfl
end
theorem G1t (s:Int):s.tdiv 1000000000=if 0<=s then s / 1000000000 else -((-s) / 1000000000):=by
 split
 ·rename_i h; exact Int.tdiv_eq_ediv_of_nonneg h
 ·rename_i h
  have:=Int.neg_tdiv (-s) 1000000000
  rw [Int.neg_neg] at this
  rw [this,Int.tdiv_eq_ediv_of_nonneg (by omega)]
section
variable {fac up i:Int} {l:Bool} {n:Int} {f:Nat->Int} {l':Bool} {n':Int} {g:Nat->Int}
theorem D9z {s:Int} (h0:-4000000000000000000<=s) (h1:s<=4000000000000000000):F7h fac up i l n f l' n' g s=cOut fac up i l n f l' n' g (s / (BB:Int)) (s % (BB:Int)):=by
 have hB:(BB:Int)=1000000000:=rfl
 unfold F7h
 rw [hB,G1t]
 by_cases hs:0<=s
 ·rw [if_pos hs]
  have e1:W (s / 1000000000)=s / 1000000000:=by rw [W,wrap64 (by omega) (by omega)]
  have e2:W (s / 1000000000*1000000000)=s / 1000000000*1000000000:=by rw [W,wrap64 (by omega) (by omega)]
  have e3:W (s - s / 1000000000*1000000000)=s % 1000000000:=by rw [W,wrap64 (by omega) (by omega)]; omega
  rw [e1,e2,e3,dF (by omega)]
  rfl
 ·rw [if_neg hs]
  obtain ⟨a,ha⟩:∃ a,a=-((-s) / 1000000000):=⟨_,rfl⟩
  rw [<- ha]
  have e1:W a=a:=by rw [W,wrap64 (by omega) (by omega)]
  have e2:W (a*1000000000)=a*1000000000:=by rw [W,wrap64 (by omega) (by omega)]
  have e3:W (s - a*1000000000)=s - a*1000000000:=by rw [W,wrap64 (by omega) (by omega)]
  rw [e1,e2,e3]
  by_cases ht:s - a*1000000000 < 0
  ·rw [dT ht]
   have e4:W (a - 1)=s / 1000000000:=by rw [W,wrap64 (by omega) (by omega)]; omega
   have e5:W (s - a*1000000000+1000000000)=s % 1000000000:=by rw [W,wrap64 (by omega) (by omega)]; omega
   rw [e4,e5]
   rfl
  ·rw [dF ht]
   have e4:a=s / 1000000000:=by omega
   have e5:s - a*1000000000=s % 1000000000:=by omega
   rw [e5,e4]
   rfl
end
section
variable {X Y up S i:Nat} {fac:Int} {l l':Bool}
def lfS (X Y:Nat) (fac:Int) (up S:Nat) (l l':Bool) (i:Nat):List Lf:=lfC fac up (A0y X Y fac up i) i l (nI X up i:Nat) (fI X S up i) l' (wn Y) (wf Y)
def goC (X Y:Nat) (fac:Int) (up i:Nat):Bool:=decide (i < wn Y) || A0y X Y fac up i != 0
theorem A9m (hS:(S:Int)=X+fac*Y*(BB ^ up:Nat)) (hf:-1000000000<=fac/\fac<=1000000000) (hX:wn X<=232) (hSn:wn S<=232) (hYu:wn Y+up<=232) (hg:goC X Y fac up i=true) :
  i+up < 232/\E9 prog (C8 prog lib2 60) F7 bodyC (spC.rho (lfS X Y fac up S l l' i)) (spC.heap (lfS X Y fac up S l l' i)) (H6 (fun _=>spC) 10 [8])=some (.normal,lfS X Y fac up S l l' (i+1)):=by
 have hC:=C8b hS i
 have hr:=E4p hC hf
 have hlt:i+up < 232:=by
  by_cases h:i < wn Y
  ·omega
  ·have:A0y X Y fac up i ≠ 0:=by
    unfold goC at hg
    rw [dF h,Bool.false_or] at hg
    simpa using hg
   have:=E4c hS hC (by omega) this
   omega
 refine ⟨hlt,?_⟩
 have hst:=C4g hS hC
 have hq:=A4m hst.1
 have hxw:=A4t X (i+up)
 have hyw:=A4t Y i
 have hB:BB=1000000000:=rfl
 obtain ⟨z,hz⟩:∃ z,z=fac*(wd Y i:Int):=⟨_,rfl⟩
 have hz1:z<=1000000000000000000:=by
  rw [hz]
  refine Int.le_trans (Int.mul_le_mul_of_nonneg_right hf.2 (Int.natCast_nonneg _)) ?_
  omega
 have hz2:-1000000000000000000<=z:=by
  rw [hz]
  refine Int.le_trans ?_ (Int.mul_le_mul_of_nonneg_right hf.1 (Int.natCast_nonneg _))
  omega
 rw [<- hz] at hst hq
 have e0:W ((i:Int)+(up:Int))=((i+up:Nat):Int):=by rw [W,wrap64 (by omega) (by omega)]; omega
 have ef:fI X S up i (i+up)=(wd X (i+up):Int):=by unfold fI; rw [if_neg (by omega)]; rfl
 have eg:wf Y i=(wd Y i:Int):=rfl
 have en:(if W (((i+up:Nat):Int)+1) > ((nI X up i:Nat):Int) then W (((i+up:Nat):Int)+1) else ((nI X up i:Nat):Int))=((nI X up (i+1):Nat):Int):=by
  rw [<- F6q,W,wrap64 (by omega) (by omega)]
  split <;> omega
 have e1:W ((i:Int)+1)=((i+1:Nat):Int):=by rw [W,wrap64 (by omega) (by omega)]; omega
 have out:∀ s,s=A0y X Y fac up i+wd X (i+up)+z->cOut fac up i l (nI X up i:Nat) (fI X S up i) l' (wn Y) (wf Y) (s / (BB:Int)) (s % (BB:Int))=some (.normal,lfS X Y fac up S l l' (i+1)):=fun s hs=>by
  unfold cOut
  rw [e0,Int.toNat_natCast,dT (show 0<=((i+up:Nat):Int)/\((i+up:Nat):Int) < 232 by omega),dT hlt,en,e1,hs,hst.2,hq,F6i]
  rfl
 have mid:F4w fac up (A0y X Y fac up i) i l (nI X up i:Nat) (fI X S up i) l' (wn Y) (wf Y)=some (.normal,lfS X Y fac up S l l' (i+1)):=by
  unfold F4w
  rw [e0,Int.toNat_natCast,dT (show 0<=((i+up:Nat):Int)/\((i+up:Nat):Int) < 232 by omega),dT hlt,ef,Int.toNat_natCast,eg,<- hz]
  have w1:W ((wd X (i+up):Int)+A0y X Y fac up i)=A0y X Y fac up i+wd X (i+up):=by rw [W,wrap64 (by omega) (by omega)]; omega
  have w2:W z=z:=by rw [W,wrap64 (by omega) (by omega)]
  have w3:W (A0y X Y fac up i+wd X (i+up)+z)=A0y X Y fac up i+wd X (i+up)+z:=by rw [W,wrap64 (by omega) (by omega)]
  rw [w1,w2,w3]
  by_cases h:i < wn Y
  ·rw [dT (show (i:Int) < (wn Y:Int) by omega),dT (show 0<=(i:Int)/\(i:Int) < 232 by omega),dT (show i < 232 by omega),D9z (by omega) (by omega),out _ rfl]
   rfl
  ·have hy0:=A3e (V:=Y) (i:=i) (by omega)
   have hz0:z=0:=by rw [hz,hy0]; simp
   rw [dF (show ¬ (i:Int) < (wn Y:Int) by omega),D9z (s:=A0y X Y fac up i+wd X (i+up)) (by omega) (by omega),out (A0y X Y fac up i+wd X (i+up)) (by rw [hz0]; omega)]
   rfl
 rw [lfS,E7w,mid]
 unfold goC at hg
 by_cases h:i < wn Y
 ·rw [dT (show (i:Int) < (wn Y:Int) by omega)]; rfl
 ·rw [dF (show ¬ (i:Int) < (wn Y:Int) by omega)]
  rw [dF h,Bool.false_or] at hg
  rw [hg]; rfl
theorem D0p (hg:goC X Y fac up i=false) :
  E9 prog (C8 prog lib2 60) F7 bodyC (spC.rho (lfS X Y fac up S l l' i)) (spC.heap (lfS X Y fac up S l l' i)) (H6 (fun _=>spC) 10 [8])=some (.exit 0,lfS X Y fac up S l l' i):=by
 unfold goC at hg
 rw [Bool.or_eq_false_iff] at hg
 rw [lfS,E7w,dF (show ¬ (i:Int) < (wn Y:Int) by have:=of_decide_eq_false hg.1; omega),hg.2]
 rfl
def A7p (X Y:Nat) (fac:Int) (up:Nat):Nat:=K4 (goC X Y fac up) 233 0
end
def B0u (fac up:Int) (n:Int) (f:Nat->Int) (n':Int) (g:Nat->Int) (S:Nat):Prop :=
 isW n f/\isW n' g/\(-1000000000<=fac/\fac<=1000000000)/\0<=up/\n'+up<=232/\wn S<=232/\(S:Int)=(F4 n f:Int)+fac*(F4 n' g:Int)*((BB ^ up.toNat:Nat):Int)
def A0f (fac up:Int) (n:Int) (f:Nat->Int) (n':Int) (g:Nat->Int):Nat:=((F4 n f:Int)+fac*(F4 n' g:Int)*((BB ^ up.toNat:Nat):Int)).toNat
def G8w:Blk:=hookP spC 10 [8] fun
 | [.i fac,.i up,.i rest,.i i,.b l,.i n,.n m,.f f,.b l',.i n',.n m',.f g]=>.br (A9 (rest=0/\i=0/\m=232/\m'=232/\B0u fac up n f n' g (A0f fac up n f n' g)))
  (.leaf (.normal,spC,lfS (F4 n f) (F4 n' g) fac up.toNat (A0f fac up n f n' g) l l' (A7p (F4 n f) (F4 n' g) fac up.toNat))) .fail
 | _=>.fail
def F1u:Prims:=pBig3.addb 148 0 G8w
section
variable {A:Amb} (hT:Tab A) (hG:prog.globals.size<=A.G)
include hT hG
theorem E9b:PrimOK prog A F1u:=by
 have hp:=K5 hT
 refine PrimOK.addbP (C9y hT hG) func148 (show f148.body=some D9v by kernel_rfl) (body:=.loop bodyC) (by kernel_rfl) (by kernel_rfl) fun ls e sq l h=>?_
 split at h
 ·rename_i fac up rest i lb n m f lb' n' m' g
  obtain ⟨hc,hv⟩:=Tr.br1 h
  cases hv
  obtain ⟨rfl,rfl,rfl,rfl,w1,w2,hf,hu,hnu,hSn,hS⟩:=D7 hc
  obtain ⟨a1,a2,a3⟩:=R6 w1
  obtain ⟨b1,b2,b3⟩:=R6 w2
  obtain ⟨u,rfl⟩:∃ u:Nat,up=u:=⟨up.toNat,by omega⟩
  generalize hX:F4 n f=X at *
  generalize hY:F4 n' g=Y at *
  generalize hSS:A0f fac u n f n' g=S at *
  subst a1 a2 b1 b2
  rw [Int.toNat_natCast] at hS ⊢
  have hgo:∀ i,goC X Y fac u i=true->i+u < 232:=fun i hi=>(A9m (l:=lb) (l':=lb') hS hf a3 hSn (by omega) hi).1
  refine ⟨⟨.inr rfl,.inr rfl,.inr rfl,.inr rfl,.inr rfl,.inr rfl,.inr rfl,.inr rfl,.inl rfl,.inr rfl,trivial⟩,fun Bb hB=>SEB.block_exit (id:=0) ?_⟩
  have e0:(⟨spC.rho [.i fac,.i (u:Int),.i 0,.i 0,.b lb,.i (wn X:Int),.n 232,.f (wf X),.b lb',.i (wn Y:Int),.n 232,.f (wf Y)],spC.heap [.i fac,.i (u:Int),.i 0,.i 0,.b lb,.i (wn X:Int),.n 232,.f (wf X),.b lb',.i (wn Y:Int),.n 232,.f (wf Y)],[8]⟩:St) =
    ⟨spC.rho (lfS X Y fac u S lb lb' 0),spC.heap (lfS X Y fac u S lb lb' 0),[8]⟩:=by
   have h1:A0y X Y fac u 0=0:=(A4m (B5o hS)).symm
   have h2:fI X S u 0=wf X:=F5z hS
   have h3:nI X u 0=wn X:=by simp [nI]
   unfold lfS lfC lf2
   rw [h1,h2,h3]
   rfl
  rw [e0]
  have key:=SEB.scan (A:=A) (B0:=Bb) (c:=bodyC) (S:=fun i=>⟨spC.rho (lfS X Y fac u S lb lb' i),spC.heap (lfS X Y fac u S lb lb' i),[8]⟩) (E:=fun i=>⟨spC.rho (lfS X Y fac u S lb lb' i),spC.heap (lfS X Y fac u S lb lb' i),[8]⟩)
   (e:=fun _=>.exit 0) (p:=goC X Y fac u) (N:=233) (fun _=>by simp)
   (fun i hi hg=>SEB.of_KP (e:=.normal) D5 D6 hp (.none _) hB (A9m hS hf a3 hSn (by omega) hg).2 rfl)
   (fun i hi hg=>SEB.of_KP (e:=.exit 0) D5 D6 hp (.none _) hB (D0p (by
    cases hq:goC X Y fac u i with
    | false=>rfl
    | true=>have:=hgo i hq; have h:=hg (by omega); rw [hq] at h; exact h)) rfl) 0 (Nat.zero_le _)
  exact key
 ·cases h
end
theorem D5x {X Y u S:Nat} {fac:Int} (hS:(S:Int)=X+fac*Y*(BB ^ u:Nat)) (hf:-1000000000<=fac/\fac<=1000000000) (hX:wn X<=232) (hSn:wn S<=232) (hYu:wn Y+u<=232) :
  nI X u (A7p X Y fac u)<=232/\fI X S u (A7p X Y fac u)=wf S/\Z5 (nI X u (A7p X Y fac u)) (wf S)=wn S:=by
 have hgo:∀ i,goC X Y fac u i=true->i+u < 232:=fun i hi=>(A9m (l:=false) (l':=false) hS hf hX hSn hYu hi).1
 have hle:A7p X Y fac u+u<=232 \/ A7p X Y fac u=0:=by
  by_cases h0:A7p X Y fac u=0
  ·exact .inr h0
  ·left
   have:=A6f (p:=goC X Y fac u) (k:=233) (n:=0) (m:=A7p X Y fac u - 1) (Nat.zero_le _) (by unfold A7p at h0 ⊢; omega)
   have:=hgo _ this
   omega
 have hno:goC X Y fac u (A7p X Y fac u)=false:=B2i (by
  show A7p X Y fac u < _
  omega)
 unfold goC at hno
 rw [Bool.or_eq_false_iff] at hno
 have h1:wn Y<=A7p X Y fac u:=by have:=of_decide_eq_false hno.1; omega
 have h2:A0y X Y fac u (A7p X Y fac u)=0:=by simpa using hno.2
 refine ⟨?_,G3m hS h1 h2,A7y S _ (G1e hS h1 h2)⟩
 unfold nI
 split <;> omega
def sp4:SP:=⟨[pW 8,pW 9,.int .i64,.int .i64],dd8++[opW,opW]⟩
def F8j:SP:=⟨[.is (.tuple [])],dd8++[opW,opW]⟩
def H1a:List Lf->Tr (SP × List Lf)
 | [.i fac,.i up,.b l,.i n,.n m,.f f,.b l',.i n',.n m',.f g]=>.br (A9 (m=232/\m'=232/\B0u fac up n f n' g (A0f fac up n f n' g)))
  (.leaf (F8j,lf2 l (wn (A0f fac up n f n' g)) (wf (A0f fac up n f n' g)) l' n' g)) .fail
 | _=>.fail
def D8s (fac up:Int) (l:Bool) (n:Int) (f:Nat->Int) (l':Bool) (n':Int) (g:Nat->Int) (X Y S:Nat):Option (List Lf) :=
 brK (A9 ((0:Int)=0/\(0:Int)=0/\232=232/\232=232/\B0u fac up n f n' g S)) (brK (A9 (0<=((nI X up.toNat (A7p X Y fac up.toNat):Nat):Int)/\((nI X up.toNat (A7p X Y fac up.toNat):Nat):Int)<=232/\232=232))
  (some (lf2 l (Z5 ((nI X up.toNat (A7p X Y fac up.toNat):Nat):Int).toNat (fI X S up.toNat (A7p X Y fac up.toNat))) (fI X S up.toNat (A7p X Y fac up.toNat)) l' (wn Y) (wf Y))) none) none
theorem G1f (fac up:Int) (l:Bool) (n:Int) (f:Nat->Int) (l':Bool) (n':Int) (g:Nat->Int):(C8 prog F1u 60).call 148 (sp4.rho (.i fac :: .i up :: lf2 l n f l' n' g)) (sp4.heap (.i fac :: .i up :: lf2 l n f l' n' g)) (V8 F8j 10 [8]) =
  D8s fac up l n f l' n' g (F4 n f) (F4 n' g) (A0f fac up n f n' g):=by kernel_rfl
def pBig4:Prims:=pBig3.addh 148 (G8 8 (funP sp4 10 [8] H1a))
theorem F0k {A:Amb} (hT:Tab A) (hG:prog.globals.size<=A.G):PrimOK prog A pBig4:=by
 refine (C9y hT hG).addl gsz func148 (by kernel_rfl) (K6 D5 D6 rfl fun ls sq l h=>?_)
 unfold H1a at h
 split at h
 ·rename_i fac up lb n m f lb' n' m' g
  obtain ⟨hc,hv⟩:=Tr.br1 h
  cases hv
  obtain ⟨rfl,rfl,hok⟩:=D7 hc
  refine ⟨⟨.inr rfl,.inr rfl,.inr rfl,.inr rfl,.inr rfl,.inr rfl,.inr rfl,.inr rfl,.inl rfl,.inr rfl,trivial⟩,rfl,rfl,F1u,60,E9b hT hG,(G1f _ _ _ _ f _ _ g).trans ?_⟩
  unfold D8s
  rw [A8 (show _/\_ from ⟨rfl,rfl,rfl,rfl,hok⟩)]
  obtain ⟨w1,w2,hf,hu,hnu,hSn,hS⟩:=hok
  obtain ⟨a1,a2,a3⟩:=R6 w1
  obtain ⟨b1,b2,b3⟩:=R6 w2
  obtain ⟨u,rfl⟩:∃ u:Nat,up=u:=⟨up.toNat,by omega⟩
  generalize hX:F4 n f=X at *
  generalize hY:F4 n' g=Y at *
  generalize hSS:A0f fac u n f n' g=S at *
  subst a1 a2 b1 b2
  rw [Int.toNat_natCast] at hS ⊢
  obtain ⟨h1,h2,h3⟩:=D5x hS hf a3 hSn (by omega)
  rw [h2,Int.toNat_natCast,h3,A8 (show _/\_ from ⟨by omega,by omega,rfl⟩)]
  rfl
 ·cases h
end Go.Proofs.Tryz
namespace Go.Proofs.Tryz
open Go.Ad
def sp1i:SP:=⟨[pW 8,.int .i64],dd8++[opW]⟩
def G6a:SP:=⟨[.int .i64],dd8++[opW]⟩
def G7b:List Lf->Tr (SP × List Lf)
 | [.i i,.b l,.i n,.n m,.f f]=>.br (A9 (0<=n/\n<=232/\m=232)) (.leaf (G6a,.i (A2m n f i) :: lfT l n f)) .fail
 | _=>.fail
theorem G1l (i:Int) (l:Bool) (n:Int) (f:Nat->Int):(C8 prog lib2 60).call 187 (sp1i.rho (.i i :: lfT l n f)) (sp1i.heap (.i i :: lfT l n f)) (V8 G6a 9 []) =
  brK (decide (i < 0)) (some (.i 0 :: lfT l n f)) (brK (decide (i >= n)) (some (.i 0 :: lfT l n f)) (brK (decide (0<=i/\i < 232)) (brK (decide (i.toNat < 232)) (some (.i (f i.toNat) :: lfT l n f)) none) none)):=by kernel_rfl
def pBig5:Prims:=pBig4.addh 187 (G8 8 (funP sp1i 9 [] G7b))
theorem C9k {A:Amb} (hT:Tab A) (hG:prog.globals.size<=A.G):PrimOK prog A pBig5:=by
 refine (F0k hT hG).addl gsz func187 (by kernel_rfl) (K6 D5 D6 rfl fun ls sq l h=>?_)
 unfold G7b at h
 split at h
 ·rename_i i lb n m f
  obtain ⟨hc,hv⟩:=Tr.br1 h
  cases hv
  obtain ⟨h0,h1,rfl⟩:=D7 hc
  refine ⟨⟨.inr rfl,.inr rfl,.inr rfl,.inr rfl,.inr rfl,.inr rfl,.inr rfl,.inr rfl,.inr rfl,trivial⟩,rfl,rfl,lib2,60,K5 hT,(G1l _ _ _ f).trans ?_⟩
  unfold A2m
  by_cases ha:i < 0
  ·rw [dT ha]; rfl
  ·rw [dF ha]
   by_cases hb:i >= n
   ·rw [dT hb]; rfl
   ·rw [dF hb,dT (show 0<=i/\i < 232 by omega),dT (show i.toNat < 232 by omega)]; rfl
 ·cases h
def okE (n:Int) (f:Nat->Int) (n':Int) (g:Nat->Int):Prop:=isW n f/\isW n' g/\0 < F4 n' g/\F4 n' g<=F4 n f/\F4 n f < F4 n' g*BB
section
variable (l:Bool) (n:Int) (f:Nat->Int) (l':Bool) (n':Int) (g:Nat->Int)
def F6f (b:Int):Option (List Lf) :=
 brK (decide (¬ b=0)) (brK (decide (W ((W (W (A2m n f n'*1000000000)+A2m n f (W (n' - 1)))).tdiv b) > 0))
  (some (B0r (if 999999999 < W ((W (W (A2m n f n'*1000000000)+A2m n f (W (n' - 1)))).tdiv b) then 999999999 else W ((W (W (A2m n f n'*1000000000)+A2m n f (W (n' - 1)))).tdiv b)) l n f l' n' g))
  (some (B0r 1 l n f l' n' g))) none
theorem G3g:(C8 prog pBig5 60).call 175 (sp2.rho (lf2 l n f l' n' g)) (sp2.heap (lf2 l n f l' n' g)) (V8 F2f 10 []) =
  brK (A9 (0<=n/\n<=232/\232=232)) (brK (A9 (0<=n/\n<=232/\232=232)) (brK (A9 (0<=n'/\n'<=232/\232=232)) (brK (decide (n' > 1))
   (F6f l n f l' n' g (W (A2m n' g (W (n' - 1))+1))) (F6f l n f l' n' g (A2m n' g (W (n' - 1))))) none) none) none:=by kernel_rfl
end
theorem E2k {l l':Bool} {n n':Int} {f g:Nat->Int} (h:okE n f n' g):(C8 prog pBig5 60).call 175 (sp2.rho (lf2 l n f l' n' g)) (sp2.heap (lf2 l n f l' n' g)) (V8 F2f 10 [])=some (B0r (B7f n f n' g) l n f l' n' g):=by
 obtain ⟨w1,w2,h0,h1,h2⟩:=h
 obtain ⟨a1,a2,a3⟩:=R6 w1
 obtain ⟨b1,b2,b3⟩:=R6 w2
 have key:=D8b h0 h1 h2
 rw [<- a1,<- a2,<- b1,<- b2] at key
 obtain ⟨k1,⟨k2,k3⟩,⟨k4,k5⟩,k,k6,k7,k8,_⟩:=key
 rw [G3g]
 have hn:0<=n/\n<=232:=by omega
 have hn':0<=n'/\n'<=232:=by omega
 rw [A8 (show _/\_ from ⟨hn.1,hn.2,rfl⟩),A8 (show _/\_ from ⟨hn'.1,hn'.2,rfl⟩)]
 have e1:W (n' - 1)=n' - 1:=by rw [W,wrap64 (by omega) (by omega)]
 have htop:∀ (V:Nat) (i:Int),0<=A2m (wn V) (wf V) i/\A2m (wn V) (wf V) i < 1000000000:=fun V i=>by
  unfold A2m
  cases decide (i < 0) || decide (i >= (wn V:Int)) with
  | true=>exact ⟨by simp,by simp⟩
  | false =>
   have:=A4t V i.toNat
   have hB:BB=1000000000:=rfl
   simp only [cond_false,wf]
   omega
 have t1:=htop (F4 n f) n'
 have t2:=htop (F4 n f) (n' - 1)
 have t3:=htop (F4 n' g) (n' - 1)
 rw [<- a1,<- a2] at t1 t2
 rw [<- b1,<- b2] at t3
 have e2:W (W (A2m n f n'*1000000000)+A2m n f (n' - 1))=B2t n f n':=by
  rw [W,W,wrap64 (n:=A2m n f n'*1000000000) (by omega) (by omega),wrap64 (by omega) (by omega)]; rfl
 have e3:W (A2m n' g (n' - 1)+1)=A2m n' g (n' - 1)+1:=by rw [W,wrap64 (by omega) (by omega)]
 rw [e1,e3]
 have hk:∀ b,b=B0q n' g->F6f l n f l' n' g b=some (B0r (B7f n f n' g) l n f l' n' g):=fun b hb=>by
  subst hb
  unfold F6f
  rw [e1,e2]
  have hq:W ((B2t n f n').tdiv (B0q n' g))=(B2t n f n').tdiv (B0q n' g):=by
   have q1:0<=(B2t n f n').tdiv (B0q n' g):=Int.tdiv_nonneg k2 k4
   have q2:(B2t n f n').tdiv (B0q n' g)<=B2t n f n':=by
    rw [Int.tdiv_eq_ediv_of_nonneg k2]
    exact Int.ediv_le_self _ k2
   rw [W,wrap64 (by omega) (by omega)]
  rw [hq,dT k1]
  unfold B7f
  by_cases hp:(B2t n f n').tdiv (B0q n' g) > 0
  ·rw [dT hp,if_pos hp]; rfl
  ·rw [dF hp,if_neg hp]; rfl
 by_cases hb:n' > 1
 ·rw [dT hb,hk _ (by unfold B0q; rw [if_pos hb])]; rfl
 ·rw [dF hb,hk (A2m n' g (n' - 1)) (by unfold B0q; rw [if_neg hb])]; rfl
def G9o:List Lf->Tr (SP × List Lf)
 | [.b l,.i n,.n m,.f f,.b l',.i n',.n m',.f g]=>.br (A9 (m=232/\m'=232/\okE n f n' g)) (.leaf (F2f,B0r (B7f n f n' g) l n f l' n' g)) .fail
 | _=>.fail
def pBig6:Prims:=pBig5.addh 175 (G8 8 (funP sp2 10 [] G9o))
theorem C1f {A:Amb} (hT:Tab A) (hG:prog.globals.size<=A.G):PrimOK prog A pBig6:=by
 refine (C9k hT hG).addl gsz func175 (by kernel_rfl) (K6 D5 D6 rfl fun ls sq l h=>?_)
 unfold G9o at h
 split at h
 ·rename_i lb n m f lb' n' m' g
  obtain ⟨hc,hv⟩:=Tr.br1 h
  cases hv
  obtain ⟨rfl,rfl,hok⟩:=D7 hc
  exact ⟨⟨.inr rfl,.inr rfl,.inr rfl,.inr rfl,.inr rfl,.inr rfl,.inr rfl,.inr rfl,.inr rfl,.inr rfl,trivial⟩,rfl,rfl,pBig5,60,C9k hT hG,E2k hok⟩
 ·cases h
end Go.Proofs.Tryz
