/- Numbers of any size, in the program's words: leading words of 0; comparison. -/
import Derived.Test.YtfjgehlpjppggaaGreatDoorBase
import Derived.Test.YtfjgehlpjppggaaGreatDoorAdPat
import Derived.Test.YtfjgehlpjppggaaGreatDoorAdNum
namespace Go.Proofs.Tryz
open Go.Ad
def opW:OP:=.arr [.sbool,.sint .i64] .i64 179
def pW (b:Nat):Pt:=.is (.ptr (some (b,0)))
def trimN:Nat→(Nat→Int)→Nat
 | 0,_=>0
 | n+1,f=>bif f n == 0 then trimN n f else n+1
theorem trimN_wf (V:Nat):∀ n,wn V≤n→trimN n (wf V)=wn V
 | 0,h=>by simp only [trimN]; omega
 | n+1,h=>by
  simp only [trimN]
  by_cases h1:wn V=n+1
  ·have h0:V ≠ 0:=fun e=>by subst e; rw [wn_zero] at h1; omega
   have ht:=wd_top h0
   rw [h1,Nat.add_sub_cancel] at ht
   have:(wf V n == 0)=false:=by simp [wf]; omega
   rw [this,h1]; rfl
  ·have hz:=wd_zero (V:=V) (i:=n) (by omega)
   have:(wf V n == 0)=true:=by simp [wf,hz]
   rw [this,cond_true]
   exact trimN_wf V n (by omega)
noncomputable def code147:Code:=f147.body.getD .skip
noncomputable def bodyT:Code:=unLoop (findB 0 code147)
def spT:SP:=⟨[pW 8]++dr 28,dd8++[opW]⟩
def lfT (l:Bool) (n:Int) (f:Nat→Int):List Lf:=[.b l,.i n,.n 232,.f f]
theorem roundT (l:Bool) (n:Int) (f:Nat→Int):execK prog (runK prog lib2 60) noBps bodyT (spT.rho (lfT l n f)) (spT.heap (lfT l n f)) (nrmP (fun _=>spT) 9 [8]) =
  brK (decide (n > 0)) (brK (decide (0≤W (n - 1)∧W (n - 1) < 232)) (brK (decide ((W (n - 1)).toNat < 232)) (brK (f (W (n - 1)).toNat == 0)
   (some (.normal,lfT l (W (n - 1)) f)) (some (.exit 0,lfT l n f))) none) none) (some (.exit 0,lfT l n f)):=by kernel_rfl
theorem roundT_eq (l:Bool) (n:Nat) (f:Nat→Int) (hn:n≤232):execK prog (runK prog lib2 60) noBps bodyT (spT.rho (lfT l n f)) (spT.heap (lfT l n f)) (nrmP (fun _=>spT) 9 [8]) =
  match n with
  | 0=>some (.exit 0,lfT l n f)
  | k+1=>bif f k == 0 then some (.normal,lfT l k f) else some (.exit 0,lfT l n f):=by
 rw [roundT]
 cases n with
 | zero=>rfl
 | succ k =>
  have e1:W (((k+1:Nat):Int) - 1)=(k:Int):=by rw [W,wrap64 (by omega) (by omega)]; omega
  rw [e1,Int.toNat_natCast,decide_eq_true (show ((k+1:Nat):Int) > 0 by omega),decide_eq_true (show 0≤(k:Int)∧(k:Int) < 232 by omega),decide_eq_true (show k < 232 by omega)]
  cases h:f k == 0 <;> simp [brK,h]
noncomputable def hookT:Blk:=hookP spT 9 [8] fun
 | [.b l,.i n,.n m,.f f]=>.br (propB (0≤n∧n≤232∧m=232)) (.leaf (.normal,spT,lfT l (trimN n.toNat f) f)) .fail
 | _=>.fail
noncomputable def pBig1:Prims:=lib2.addb 147 0 hookT
section
variable {A:Amb} (hT:Tab A) (hG:prog.globals.size≤A.G)
include hT hG
omit hG in
theorem pBig1_ok:PrimOK prog A pBig1:=by
 have hp:=lib2_ok hT
 refine PrimOK.addbP hp func147 (show f147.body=some code147 by kernel_rfl) (body:=.loop bodyT) (by kernel_rfl) (by kernel_rfl) fun ls e sq l h=>?_
 split at h
 ·rename_i lb n m f
  obtain ⟨hc,hv⟩:=Tr.br1 h
  cases hv
  obtain ⟨h0,h1,rfl⟩:=propB_eq hc
  obtain ⟨k,rfl⟩:∃ k:Nat,n=k:=⟨n.toNat,by omega⟩
  rw [Int.toNat_natCast]
  refine ⟨by simp [frP,spT,SP.heap,mkH,dd8,dr,mkT,OP.mk,List.replicate,opW,lfT,pW,Pt.mk],fun Bb hB=>SEB.block_exit (id:=0) ?_⟩
  refine SEB.while (fun n:Nat=>n≤232∧trimN n f=trimN k f) (fun n=>n) (fun n=>⟨spT.rho (lfT lb n f),spT.heap (lfT lb n f),[8]⟩) (fun _=>(.exit 0,⟨spT.rho (lfT lb (trimN k f) f),spT.heap (lfT lb (trimN k f) f),[8]⟩)) (fun n hx=>?_) k ⟨by omega,rfl⟩
  obtain ⟨hn,ht⟩:=hx
  have hk:=roundT_eq lb n f hn
  cases n with
  | zero =>
   right
   refine ⟨by simp,?_⟩
   simp only [trimN] at ht
   rw [← ht]
   exact SEB.of_KP (e:=.exit 0) hmix hnum hp (.none _) hB hk rfl
  | succ n =>
   simp only [trimN] at ht
   cases hz:f n == 0 with
   | true =>
    left
    rw [hz,cond_true] at ht
    simp only [hz,cond_true] at hk
    exact ⟨n,⟨by omega,ht⟩,by omega,rfl,SEB.of_KP (e:=.normal) hmix hnum hp (.none _) hB hk rfl⟩
   | false =>
    right
    rw [hz,cond_false] at ht
    simp only [hz,cond_false] at hk
    refine ⟨by simp,?_⟩
    rw [← ht]
    exact SEB.of_KP (e:=.exit 0) hmix hnum hp (.none _) hB hk rfl
 ·cases h
end
def spW1:SP:=⟨[pW 8],dd8++[opW]⟩
noncomputable def T147:List Lf→Tr (SP × List Lf)
 | [.b l,.i n,.n m,.f f]=>.br (propB (0≤n∧n≤232∧m=232)) (.leaf (spW1,lfT l (trimN n.toNat f) f)) .fail
 | _=>.fail
theorem run147 (l:Bool) (n:Int) (f:Nat→Int):(runK prog pBig1 60).call 147 (spW1.rho (lfT l n f)) (spW1.heap (lfT l n f)) (finP spW1 9 [8]) =
  brK (propB (0≤n∧n≤232∧232=232)) (some (lfT l (trimN n.toNat f) f)) none:=by kernel_rfl
noncomputable def pBig2:Prims:=lib2.addh 147 (liftG 8 (funP spW1 9 [8] T147))
theorem pBig2_ok {A:Amb} (hT:Tab A) (hG:prog.globals.size≤A.G):PrimOK prog A pBig2:=by
 refine (lib2_ok hT).addl gsz func147 (by kernel_rfl) (funP_ok hmix hnum rfl fun ls sq l h=>?_)
 unfold T147 at h
 split at h
 ·rename_i lb n m f
  obtain ⟨hc,hv⟩:=Tr.br1 h
  cases hv
  obtain ⟨h0,h1,rfl⟩:=propB_eq hc
  refine ⟨by simp [frP,spW1,SP.heap,mkH,dd8,mkT,OP.mk,List.replicate,opW,lfT,pW,Pt.mk],rfl,rfl,pBig1,60,pBig1_ok hT,(run147 _ _ f).trans ?_⟩
  rw [propB_true (show _∧_ from ⟨h0,h1,rfl⟩)]; rfl
 ·cases h
end Go.Proofs.Tryz
namespace Go.Proofs.Tryz
open Go.Ad
def bey:Nat→(Nat→Int)→(Nat→Int)→Int
 | 0,_,_=>0
 | k+1,f,g=>bif f k != g k then W (f k - g k) else bey k f g
def beyR (n n':Int) (f g:Nat→Int):Int:=bif n != n' then W (n - n') else bey n.toNat f g
theorem bey_mod (V U:Nat):∀ k,0≤bey k (wf V) (wf U) ↔ U % BB ^ k≤V % BB ^ k
 | 0=>by simp [bey,Nat.mod_one]
 | k+1=>by
  simp only [bey]
  rw [mod_succ V,mod_succ U]
  have hv:=wd_lt V k
  have hu:=wd_lt U k
  have h1:=Nat.mod_lt V (BB_pos k)
  have h2:=Nat.mod_lt U (BB_pos k)
  have hb:BB=1000000000:=rfl
  rcases Nat.lt_trichotomy (wd V k) (wd U k) with h | h | h
  ·have e:(wf V k != wf U k)=true:=by simp [wf]; omega
   rw [e,cond_true,W,wrap64 (by simp [wf]; omega) (by simp [wf]; omega)]
   have:(wd V k+1)*BB ^ k≤wd U k*BB ^ k:=Nat.mul_le_mul_right _ h
   rw [Nat.add_mul] at this
   simp only [wf]
   generalize V % BB ^ k=a at h1 ⊢
   generalize U % BB ^ k=b at h2 ⊢
   constructor
   ·intro h; omega
   ·intro h; omega
  ·have e:(wf V k != wf U k)=false:=by simp [wf,h]
   rw [e,cond_false,bey_mod V U k,h]
   omega
  ·have e:(wf V k != wf U k)=true:=by simp [wf]; omega
   rw [e,cond_true,W,wrap64 (by simp [wf]; omega) (by simp [wf]; omega)]
   have:(wd U k+1)*BB ^ k≤wd V k*BB ^ k:=Nat.mul_le_mul_right _ h
   rw [Nat.add_mul] at this
   simp only [wf]
   generalize V % BB ^ k=a at h1 ⊢
   generalize U % BB ^ k=b at h2 ⊢
   constructor
   ·intro h; omega
   ·intro h; omega
theorem beyR_ge {V U:Nat} (hv:wn V≤232) (hu:wn U≤232):decide (beyR (wn V) (wn U) (wf V) (wf U) ≥ 0)=decide (U≤V):=by
 have h1:=lt_wn V
 have h2:=lt_wn U
 unfold beyR
 by_cases h:wn V=wn U
 ·have e:((wn V:Int) != (wn U:Int))=false:=by simp [h]
  rw [e,cond_false,Int.toNat_natCast]
  have:=bey_mod V U (wn V)
  rw [Nat.mod_eq_of_lt h1,Nat.mod_eq_of_lt (by rw [h]; exact h2)] at this
  exact decide_eq_decide.2 this
 ·have e:((wn V:Int) != (wn U:Int))=true:=by simp; omega
  rw [e,cond_true,W,wrap64 (by omega) (by omega)]
  refine decide_eq_decide.2 ?_
  rcases Nat.lt_or_ge (wn V) (wn U) with h' | h'
  ·have:=le_of_wn h'
   constructor
   ·intro h; omega
   ·intro h; omega
  ·have:=le_of_wn (V:=V) (n:=wn U) (by omega)
   constructor
   ·intro h; omega
   ·intro h; omega
noncomputable def code174:Code:=f174.body.getD .skip
noncomputable def bodyY:Code:=unLoop (findB 0 code174)
def spY:SP:=⟨[pW 8,pW 9,.drop,.drop,.int .i64,.int .i64]++dr 53,dd8++[opW,opW]⟩
def lf2 (l:Bool) (n:Int) (f:Nat→Int) (l':Bool) (n':Int) (g:Nat→Int):List Lf:=[.b l,.i n,.n 232,.f f,.b l',.i n',.n 232,.f g]
def lfY (r i:Int) (l:Bool) (n:Int) (f:Nat→Int) (l':Bool) (n':Int) (g:Nat→Int):List Lf:=.i r :: .i i :: lf2 l n f l' n' g
def spYr:SP:=⟨[pW 8,pW 9,.drop,.drop,.int .i64,.drop]++dr 53,dd8++[opW,opW]⟩
def spYx:AEx→SP
 | .ret=>spYr
 | _=>spY
def lfYr (r:Int) (l:Bool) (n:Int) (f:Nat→Int) (l':Bool) (n':Int) (g:Nat→Int):List Lf:=.i r :: lf2 l n f l' n' g
theorem roundY (i:Int) (l:Bool) (n:Int) (f:Nat→Int) (l':Bool) (n':Int) (g:Nat→Int):execK prog (runK prog lib2 60) noBps bodyY (spY.rho (lfY 0 i l n f l' n' g)) (spY.heap (lfY 0 i l n f l' n' g)) (nrmP spYx 10 []) =
  brK (decide (i ≥ 0)) (brK (decide (0≤i∧i < 232)) (brK (decide (i.toNat < 232)) (brK (decide (0≤i∧i < 232)) (brK (decide (i.toNat < 232)) (brK (f i.toNat != g i.toNat)
   (brK (decide (0≤i∧i < 232)) (brK (decide (i.toNat < 232)) (brK (decide (0≤i∧i < 232)) (brK (decide (i.toNat < 232)) (some (.ret,lfYr (W (f i.toNat - g i.toNat)) l n f l' n' g)) none) none) none) none)
   (some (.normal,lfY 0 (W (i - 1)) l n f l' n' g))) none) none) none) none) (some (.exit 0,lfY 0 i l n f l' n' g)):=by kernel_rfl
def beyB:Nat→(Nat→Int)→(Nat→Int)→Bool
 | 0,_,_=>false
 | k+1,f,g=>f k != g k || beyB k f g
theorem beyB_no {f g:Nat→Int}:∀ {k},beyB k f g=false→bey k f g=0
 | 0,_=>rfl
 | k+1,h=>by
  simp only [beyB,Bool.or_eq_false_iff] at h
  simp only [bey,h.1,cond_false]
  exact beyB_no h.2
theorem roundY_eq (k:Nat) (hk:k≤232) (l:Bool) (n:Int) (f:Nat→Int) (l':Bool) (n':Int) (g:Nat→Int):execK prog (runK prog lib2 60) noBps bodyY (spY.rho (lfY 0 ((k:Int) - 1) l n f l' n' g)) (spY.heap (lfY 0 ((k:Int) - 1) l n f l' n' g)) (nrmP spYx 10 []) =
  match k with
  | 0=>some (.exit 0,lfY 0 (-1) l n f l' n' g)
  | j+1=>bif f j != g j then some (.ret,lfYr (W (f j - g j)) l n f l' n' g) else some (.normal,lfY 0 ((j:Int) - 1) l n f l' n' g):=by
 rw [roundY]
 cases k with
 | zero=>rfl
 | succ j =>
  have e0:((j+1:Nat):Int) - 1=j:=by omega
  rw [e0,Int.toNat_natCast,decide_eq_true (show (j:Int) ≥ 0 by omega),decide_eq_true (show 0≤(j:Int)∧(j:Int) < 232 by omega),decide_eq_true (show j < 232 by omega)]
  have e1:W ((j:Int) - 1)=(j:Int) - 1:=by rw [W,wrap64 (by omega) (by omega)]
  rw [e1]
  cases h:f j != g j <;> simp [h,brK]
noncomputable def hookY:Blk:=hookP spY 10 [] fun
 | [.i r,.i i,.b l,.i n,.n m,.f f,.b l',.i n',.n m',.f g]=>.br (propB (r=0∧-1≤i∧i < 232∧m=232∧m'=232))
  (.br (beyB (i+1).toNat f g) (.leaf (.ret,spYr,lfYr (bey (i+1).toNat f g) l n f l' n' g)) (.leaf (.normal,spY,lfY 0 (-1) l n f l' n' g))) .fail
 | _=>.fail
noncomputable def pBigY:Prims:=lib2.addb 174 0 hookY
theorem pBigY_ok {A:Amb} (hT:Tab A):PrimOK prog A pBigY:=by
 have hp:=lib2_ok hT
 refine PrimOK.addbP hp func174 (show f174.body=some code174 by kernel_rfl) (body:=.loop bodyY) (by kernel_rfl) (by kernel_rfl) fun ls e sq l h=>?_
 split at h
 ·rename_i r i lb n m f lb' n' m' g
  obtain ⟨hc,hv⟩:=Tr.br1 h
  obtain ⟨rfl,h0,h1,rfl,rfl⟩:=propB_eq hc
  obtain ⟨k,hk⟩:∃ k:Nat,i=(k:Int) - 1:=⟨(i+1).toNat,by omega⟩
  subst hk
  have e1:((k:Int) - 1+1).toNat=k:=by omega
  rw [e1] at hv
  have hok:∀ e,okD 10 [] 0 (spYx e).h=true:=fun e=>by cases e <;> rfl
  have key:∀ Bb:Heap,Bb.length=10→SEB prog A Bb (.loop bodyY) ⟨spY.rho (lfY 0 ((k:Int) - 1) lb n f lb' n' g),spY.heap (lfY 0 ((k:Int) - 1) lb n f lb' n' g),[]⟩
    (bif beyB k f g then .ret else .exit 0) (bif beyB k f g then ⟨spYr.rho (lfYr (bey k f g) lb n f lb' n' g),spYr.heap (lfYr (bey k f g) lb n f lb' n' g),[]⟩ else ⟨spY.rho (lfY 0 (-1) lb n f lb' n' g),spY.heap (lfY 0 (-1) lb n f lb' n' g),[]⟩):=fun Bb hB=>by
   have hk2:k≤232:=by omega
   refine SEB.while (fun n:Nat=>n≤232∧beyB n f g=beyB k f g∧bey n f g=bey k f g) (fun n=>n) (fun j=>⟨spY.rho (lfY 0 ((j:Int) - 1) lb n f lb' n' g),spY.heap (lfY 0 ((j:Int) - 1) lb n f lb' n' g),[]⟩)
    (fun _=>(bif beyB k f g then .ret else .exit 0,bif beyB k f g then ⟨spYr.rho (lfYr (bey k f g) lb n f lb' n' g),spYr.heap (lfYr (bey k f g) lb n f lb' n' g),[]⟩ else ⟨spY.rho (lfY 0 (-1) lb n f lb' n' g),spY.heap (lfY 0 (-1) lb n f lb' n' g),[]⟩)) (fun j hx=>?_) k ⟨hk2,rfl,rfl⟩
   obtain ⟨hj,hb,hr⟩:=hx
   have hk:=roundY_eq j hj lb n f lb' n' g
   cases j with
   | zero =>
    right
    simp only [beyB] at hb
    simp only [← hb,cond_false]
    exact ⟨by simp,SEB.of_KP (e:=.exit 0) (sp:=spYx) hmix hnum hp (.none _) hB hk (hok _)⟩
   | succ j =>
    simp only [beyB] at hb
    simp only [bey] at hr
    cases hz:f j != g j with
    | true =>
     right
     rw [hz,Bool.true_or] at hb
     rw [hz,cond_true] at hr
     simp only [hz,cond_true] at hk
     simp only [← hb,← hr,cond_true]
     exact ⟨by simp,SEB.of_KP (e:=.ret) (sp:=spYx) hmix hnum hp (.none _) hB hk (hok _)⟩
    | false =>
     left
     rw [hz,Bool.false_or] at hb
     rw [hz,cond_false] at hr
     simp only [hz,cond_false] at hk
     exact ⟨j,⟨by omega,hb,hr⟩,by omega,rfl,SEB.of_KP (e:=.normal) (sp:=spYx) hmix hnum hp (.none _) hB hk (hok _)⟩
  cases hb:beyB k f g with
  | true =>
   rw [hb] at hv key
   cases hv
   refine ⟨⟨.inr rfl,.inr rfl,.inr rfl,.inr rfl,.inr rfl,.inr rfl,.inr rfl,.inr rfl,.inr rfl,.inr rfl,trivial⟩,fun Bb hB=>SEB.block_other (key Bb hB) (by simp)⟩
  | false =>
   rw [hb] at hv key
   cases hv
   refine ⟨⟨.inr rfl,.inr rfl,.inr rfl,.inr rfl,.inr rfl,.inr rfl,.inr rfl,.inr rfl,.inr rfl,.inr rfl,trivial⟩,fun Bb hB=>SEB.block_exit (key Bb hB)⟩
 ·cases h
def sp2:SP:=⟨[pW 8,pW 9],dd8++[opW,opW]⟩
def sp2i:SP:=⟨[.int .i64],dd8++[opW,opW]⟩
noncomputable def T174:List Lf→Tr (SP × List Lf)
 | [.b l,.i n,.n m,.f f,.b l',.i n',.n m',.f g]=>.br (propB (0≤n∧n≤232∧m=232∧m'=232)) (.leaf (sp2i,lfYr (beyR n n' f g) l n f l' n' g)) .fail
 | _=>.fail
theorem run174 (l:Bool) (n:Int) (f:Nat→Int) (l':Bool) (n':Int) (g:Nat→Int):(runK prog pBigY 60).call 174 (sp2.rho (lf2 l n f l' n' g)) (sp2.heap (lf2 l n f l' n' g)) (finP sp2i 10 []) =
  brK (n != n') (some (lfYr (W (n - n')) l n f l' n' g)) (brK (propB ((0:Int)=0∧-1≤W (n - 1)∧W (n - 1) < 232∧232=232∧232=232))
   (brK (beyB (W (n - 1)+1).toNat f g) (some (lfYr (bey (W (n - 1)+1).toNat f g) l n f l' n' g)) (some (lfYr 0 l n f l' n' g))) none):=by kernel_rfl
noncomputable def pBig3:Prims:=pBig2.addh 174 (liftG 8 (funP sp2 10 [] T174))
theorem pBig3_ok {A:Amb} (hT:Tab A) (hG:prog.globals.size≤A.G):PrimOK prog A pBig3:=by
 refine (pBig2_ok hT hG).addl gsz func174 (by kernel_rfl) (funP_ok hmix hnum rfl fun ls sq l h=>?_)
 unfold T174 at h
 split at h
 ·rename_i lb n m f lb' n' m' g
  obtain ⟨hc,hv⟩:=Tr.br1 h
  cases hv
  obtain ⟨h0,h1,rfl,rfl⟩:=propB_eq hc
  refine ⟨⟨.inr rfl,.inr rfl,.inr rfl,.inr rfl,.inr rfl,.inr rfl,.inr rfl,.inr rfl,.inr rfl,.inr rfl,trivial⟩,rfl,rfl,pBigY,60,pBigY_ok hT,(run174 _ _ f _ _ g).trans ?_⟩
  have e1:W (n - 1)=n - 1:=by rw [W,wrap64 (by omega) (by omega)]
  have e2:(n - 1+1).toNat=n.toNat:=by omega
  rw [e1,e2,propB_true (show _∧_ from ⟨rfl,by omega,by omega,rfl,rfl⟩)]
  unfold beyR
  cases hn:n != n' with
  | true=>rfl
  | false =>
   cases hb:beyB n.toNat f g with
   | true=>rfl
   | false=>rw [cond_false,beyB_no hb]; rfl
 ·cases h
end Go.Proofs.Tryz
namespace Go.Proofs.Tryz
open Go.Ad
noncomputable def code148:Code:=f148.body.getD .skip
noncomputable def bodyC:Code:=unLoop (findB 0 code148)
def spC:SP:=⟨[pW 8,pW 9,.int .i64,.int .i64,.drop,.drop,.drop,.drop,.int .i64,.int .i64]++dr 73,dd8++[opW,opW]⟩
def lfC (fac up rest i:Int) (l:Bool) (n:Int) (f:Nat→Int) (l':Bool) (n':Int) (g:Nat→Int):List Lf:=.i fac :: .i up :: .i rest :: .i i :: lf2 l n f l' n' g
section
variable (fac up rest i:Int) (l:Bool) (n:Int) (f:Nat→Int) (l':Bool) (n':Int) (g:Nat→Int)
def cOut (r t:Int):Option (AEx × List Lf) :=
 brK (decide (0≤W (i+up)∧W (i+up) < 232)) (brK (decide ((W (i+up)).toNat < 232))
  (some (.normal,lfC fac up r (W (i+1)) l (if W (W (i+up)+1) > n then W (W (i+up)+1) else n) (updF f (W (i+up)).toNat t) l' n' g)) none) none
def cEnd (s:Int):Option (AEx × List Lf) :=
 brK (decide (W (s - W (W (s.tdiv 1000000000)*1000000000)) < 0))
  (cOut fac up i l n f l' n' g (W (W (s.tdiv 1000000000) - 1)) (W (W (s - W (W (s.tdiv 1000000000)*1000000000))+1000000000)))
  (cOut fac up i l n f l' n' g (W (s.tdiv 1000000000)) (W (s - W (W (s.tdiv 1000000000)*1000000000))))
def cMid:Option (AEx × List Lf) :=
 brK (decide (0≤W (i+up)∧W (i+up) < 232)) (brK (decide ((W (i+up)).toNat < 232)) (brK (decide (i < n')) (brK (decide (0≤i∧i < 232)) (brK (decide (i.toNat < 232))
  (cEnd fac up i l n f l' n' g (W (W (f (W (i+up)).toNat+rest)+W (fac*g i.toNat)))) none) none)
  (cEnd fac up i l n f l' n' g (W (f (W (i+up)).toNat+rest)))) none) none
theorem roundC:execK prog (runK prog lib2 60) noBps bodyC (spC.rho (lfC fac up rest i l n f l' n' g)) (spC.heap (lfC fac up rest i l n f l' n' g)) (nrmP (fun _=>spC) 10 [8]) =
  brK (decide (i < n')) (cMid fac up rest i l n f l' n' g) (brK (rest != 0) (cMid fac up rest i l n f l' n' g) (some (.exit 0,lfC fac up rest i l n f l' n' g))):=by kernel_rfl
end
theorem tdiv_B (s:Int):s.tdiv 1000000000=if 0≤s then s / 1000000000 else -((-s) / 1000000000):=by
 split
 ·rename_i h; exact Int.tdiv_eq_ediv_of_nonneg h
 ·rename_i h
  have:=Int.neg_tdiv (-s) 1000000000
  rw [Int.neg_neg] at this
  rw [this,Int.tdiv_eq_ediv_of_nonneg (by omega)]
section
variable {fac up i:Int} {l:Bool} {n:Int} {f:Nat→Int} {l':Bool} {n':Int} {g:Nat→Int}
theorem cEnd_eq {s:Int} (h0:-4000000000000000000≤s) (h1:s≤4000000000000000000):cEnd fac up i l n f l' n' g s=cOut fac up i l n f l' n' g (s / (BB:Int)) (s % (BB:Int)):=by
 have hB:(BB:Int)=1000000000:=rfl
 unfold cEnd
 rw [hB,tdiv_B]
 by_cases hs:0≤s
 ·rw [if_pos hs]
  have e1:W (s / 1000000000)=s / 1000000000:=by rw [W,wrap64 (by omega) (by omega)]
  have e2:W (s / 1000000000*1000000000)=s / 1000000000*1000000000:=by rw [W,wrap64 (by omega) (by omega)]
  have e3:W (s - s / 1000000000*1000000000)=s % 1000000000:=by rw [W,wrap64 (by omega) (by omega)]; omega
  rw [e1,e2,e3,decide_eq_false (by omega)]
  rfl
 ·rw [if_neg hs]
  obtain ⟨a,ha⟩:∃ a,a=-((-s) / 1000000000):=⟨_,rfl⟩
  rw [← ha]
  have e1:W a=a:=by rw [W,wrap64 (by omega) (by omega)]
  have e2:W (a*1000000000)=a*1000000000:=by rw [W,wrap64 (by omega) (by omega)]
  have e3:W (s - a*1000000000)=s - a*1000000000:=by rw [W,wrap64 (by omega) (by omega)]
  rw [e1,e2,e3]
  by_cases ht:s - a*1000000000 < 0
  ·rw [decide_eq_true ht]
   have e4:W (a - 1)=s / 1000000000:=by rw [W,wrap64 (by omega) (by omega)]; omega
   have e5:W (s - a*1000000000+1000000000)=s % 1000000000:=by rw [W,wrap64 (by omega) (by omega)]; omega
   rw [e4,e5]
   rfl
  ·rw [decide_eq_false ht]
   have e4:a=s / 1000000000:=by omega
   have e5:s - a*1000000000=s % 1000000000:=by omega
   rw [e5,e4]
   rfl
end
section
variable {X Y up S i:Nat} {fac:Int} {l l':Bool}
def lfS (X Y:Nat) (fac:Int) (up S:Nat) (l l':Bool) (i:Nat):List Lf:=lfC fac up (restC X Y fac up i) i l (nI X up i:Nat) (fI X S up i) l' (wn Y) (wf Y)
def goC (X Y:Nat) (fac:Int) (up i:Nat):Bool:=decide (i < wn Y) || restC X Y fac up i != 0
theorem roundC_step (hS:(S:Int)=X+fac*Y*(BB ^ up:Nat)) (hf:-1000000000≤fac∧fac≤1000000000) (hX:wn X≤232) (hSn:wn S≤232) (hYu:wn Y+up≤232) (hg:goC X Y fac up i=true) :
  i+up < 232∧execK prog (runK prog lib2 60) noBps bodyC (spC.rho (lfS X Y fac up S l l' i)) (spC.heap (lfS X Y fac up S l l' i)) (nrmP (fun _=>spC) 10 [8])=some (.normal,lfS X Y fac up S l l' (i+1)):=by
 have hC:=cinv_C hS i
 have hr:=cinv_rest hC hf
 have hlt:i+up < 232:=by
  by_cases h:i < wn Y
  ·omega
  ·have:restC X Y fac up i ≠ 0:=by
    unfold goC at hg
    rw [decide_eq_false h,Bool.false_or] at hg
    simpa using hg
   have:=cinv_more hS hC (by omega) this
   omega
 refine ⟨hlt,?_⟩
 have hst:=cinv_step hS hC
 have hq:=cinv_unique hst.1
 have hxw:=wd_lt X (i+up)
 have hyw:=wd_lt Y i
 have hB:BB=1000000000:=rfl
 obtain ⟨z,hz⟩:∃ z,z=fac*(wd Y i:Int):=⟨_,rfl⟩
 have hz1:z≤1000000000000000000:=by
  rw [hz]
  refine Int.le_trans (Int.mul_le_mul_of_nonneg_right hf.2 (Int.natCast_nonneg _)) ?_
  omega
 have hz2:-1000000000000000000≤z:=by
  rw [hz]
  refine Int.le_trans ?_ (Int.mul_le_mul_of_nonneg_right hf.1 (Int.natCast_nonneg _))
  omega
 rw [← hz] at hst hq
 have e0:W ((i:Int)+(up:Int))=((i+up:Nat):Int):=by rw [W,wrap64 (by omega) (by omega)]; omega
 have ef:fI X S up i (i+up)=(wd X (i+up):Int):=by unfold fI; rw [if_neg (by omega)]; rfl
 have eg:wf Y i=(wd Y i:Int):=rfl
 have en:(if W (((i+up:Nat):Int)+1) > ((nI X up i:Nat):Int) then W (((i+up:Nat):Int)+1) else ((nI X up i:Nat):Int))=((nI X up (i+1):Nat):Int):=by
  rw [← nI_succ,W,wrap64 (by omega) (by omega)]
  split <;> omega
 have e1:W ((i:Int)+1)=((i+1:Nat):Int):=by rw [W,wrap64 (by omega) (by omega)]; omega
 have out:∀ s,s=restC X Y fac up i+wd X (i+up)+z→cOut fac up i l (nI X up i:Nat) (fI X S up i) l' (wn Y) (wf Y) (s / (BB:Int)) (s % (BB:Int))=some (.normal,lfS X Y fac up S l l' (i+1)):=fun s hs=>by
  unfold cOut
  rw [e0,Int.toNat_natCast,decide_eq_true (show 0≤((i+up:Nat):Int)∧((i+up:Nat):Int) < 232 by omega),decide_eq_true hlt,en,e1,hs,hst.2,hq,fI_succ]
  rfl
 have mid:cMid fac up (restC X Y fac up i) i l (nI X up i:Nat) (fI X S up i) l' (wn Y) (wf Y)=some (.normal,lfS X Y fac up S l l' (i+1)):=by
  unfold cMid
  rw [e0,Int.toNat_natCast,decide_eq_true (show 0≤((i+up:Nat):Int)∧((i+up:Nat):Int) < 232 by omega),decide_eq_true hlt,ef,Int.toNat_natCast,eg,← hz]
  have w1:W ((wd X (i+up):Int)+restC X Y fac up i)=restC X Y fac up i+wd X (i+up):=by rw [W,wrap64 (by omega) (by omega)]; omega
  have w2:W z=z:=by rw [W,wrap64 (by omega) (by omega)]
  have w3:W (restC X Y fac up i+wd X (i+up)+z)=restC X Y fac up i+wd X (i+up)+z:=by rw [W,wrap64 (by omega) (by omega)]
  rw [w1,w2,w3]
  by_cases h:i < wn Y
  ·rw [decide_eq_true (show (i:Int) < (wn Y:Int) by omega),decide_eq_true (show 0≤(i:Int)∧(i:Int) < 232 by omega),decide_eq_true (show i < 232 by omega),cEnd_eq (by omega) (by omega),out _ rfl]
   rfl
  ·have hy0:=wd_zero (V:=Y) (i:=i) (by omega)
   have hz0:z=0:=by rw [hz,hy0]; simp
   rw [decide_eq_false (show ¬ (i:Int) < (wn Y:Int) by omega),cEnd_eq (s:=restC X Y fac up i+wd X (i+up)) (by omega) (by omega),out (restC X Y fac up i+wd X (i+up)) (by rw [hz0]; omega)]
   rfl
 rw [lfS,roundC,mid]
 unfold goC at hg
 by_cases h:i < wn Y
 ·rw [decide_eq_true (show (i:Int) < (wn Y:Int) by omega)]; rfl
 ·rw [decide_eq_false (show ¬ (i:Int) < (wn Y:Int) by omega)]
  rw [decide_eq_false h,Bool.false_or] at hg
  rw [hg]; rfl
theorem roundC_exit (hg:goC X Y fac up i=false) :
  execK prog (runK prog lib2 60) noBps bodyC (spC.rho (lfS X Y fac up S l l' i)) (spC.heap (lfS X Y fac up S l l' i)) (nrmP (fun _=>spC) 10 [8])=some (.exit 0,lfS X Y fac up S l l' i):=by
 unfold goC at hg
 rw [Bool.or_eq_false_iff] at hg
 rw [lfS,roundC,decide_eq_false (show ¬ (i:Int) < (wn Y:Int) by have:=of_decide_eq_false hg.1; omega),hg.2]
 rfl
def endC (X Y:Nat) (fac:Int) (up:Nat):Nat:=scanN (goC X Y fac up) 233 0
end
def okC2 (fac up:Int) (n:Int) (f:Nat→Int) (n':Int) (g:Nat→Int) (S:Nat):Prop :=
 isW n f∧isW n' g∧(-1000000000≤fac∧fac≤1000000000)∧0≤up∧n'+up≤232∧wn S≤232∧(S:Int)=(valW n f:Int)+fac*(valW n' g:Int)*((BB ^ up.toNat:Nat):Int)
def sumC (fac up:Int) (n:Int) (f:Nat→Int) (n':Int) (g:Nat→Int):Nat:=((valW n f:Int)+fac*(valW n' g:Int)*((BB ^ up.toNat:Nat):Int)).toNat
noncomputable def hookC:Blk:=hookP spC 10 [8] fun
 | [.i fac,.i up,.i rest,.i i,.b l,.i n,.n m,.f f,.b l',.i n',.n m',.f g]=>.br (propB (rest=0∧i=0∧m=232∧m'=232∧okC2 fac up n f n' g (sumC fac up n f n' g)))
  (.leaf (.normal,spC,lfS (valW n f) (valW n' g) fac up.toNat (sumC fac up n f n' g) l l' (endC (valW n f) (valW n' g) fac up.toNat))) .fail
 | _=>.fail
noncomputable def pBigC:Prims:=pBig3.addb 148 0 hookC
section
variable {A:Amb} (hT:Tab A) (hG:prog.globals.size≤A.G)
include hT hG
theorem pBigC_ok:PrimOK prog A pBigC:=by
 have hp:=lib2_ok hT
 refine PrimOK.addbP (pBig3_ok hT hG) func148 (show f148.body=some code148 by kernel_rfl) (body:=.loop bodyC) (by kernel_rfl) (by kernel_rfl) fun ls e sq l h=>?_
 split at h
 ·rename_i fac up rest i lb n m f lb' n' m' g
  obtain ⟨hc,hv⟩:=Tr.br1 h
  cases hv
  obtain ⟨rfl,rfl,rfl,rfl,w1,w2,hf,hu,hnu,hSn,hS⟩:=propB_eq hc
  obtain ⟨a1,a2,a3⟩:=isW_eq w1
  obtain ⟨b1,b2,b3⟩:=isW_eq w2
  obtain ⟨u,rfl⟩:∃ u:Nat,up=u:=⟨up.toNat,by omega⟩
  generalize hX:valW n f=X at *
  generalize hY:valW n' g=Y at *
  generalize hSS:sumC fac u n f n' g=S at *
  subst a1 a2 b1 b2
  rw [Int.toNat_natCast] at hS ⊢
  have hgo:∀ i,goC X Y fac u i=true→i+u < 232:=fun i hi=>(roundC_step (l:=lb) (l':=lb') hS hf a3 hSn (by omega) hi).1
  refine ⟨⟨.inr rfl,.inr rfl,.inr rfl,.inr rfl,.inr rfl,.inr rfl,.inr rfl,.inr rfl,.inl rfl,.inr rfl,trivial⟩,fun Bb hB=>SEB.block_exit (id:=0) ?_⟩
  have e0:(⟨spC.rho [.i fac,.i (u:Int),.i 0,.i 0,.b lb,.i (wn X:Int),.n 232,.f (wf X),.b lb',.i (wn Y:Int),.n 232,.f (wf Y)],spC.heap [.i fac,.i (u:Int),.i 0,.i 0,.b lb,.i (wn X:Int),.n 232,.f (wf X),.b lb',.i (wn Y:Int),.n 232,.f (wf Y)],[8]⟩:St) =
    ⟨spC.rho (lfS X Y fac u S lb lb' 0),spC.heap (lfS X Y fac u S lb lb' 0),[8]⟩:=by
   have h1:restC X Y fac u 0=0:=(cinv_unique (cinv_zero hS)).symm
   have h2:fI X S u 0=wf X:=fI_zero hS
   have h3:nI X u 0=wn X:=by simp [nI]
   unfold lfS lfC lf2
   rw [h1,h2,h3]
   rfl
  rw [e0]
  have key:=SEB.scan (A:=A) (B0:=Bb) (c:=bodyC) (S:=fun i=>⟨spC.rho (lfS X Y fac u S lb lb' i),spC.heap (lfS X Y fac u S lb lb' i),[8]⟩) (E:=fun i=>⟨spC.rho (lfS X Y fac u S lb lb' i),spC.heap (lfS X Y fac u S lb lb' i),[8]⟩)
   (e:=fun _=>.exit 0) (p:=goC X Y fac u) (N:=233) (fun _=>by simp)
   (fun i hi hg=>SEB.of_KP (e:=.normal) hmix hnum hp (.none _) hB (roundC_step hS hf a3 hSn (by omega) hg).2 rfl)
   (fun i hi hg=>SEB.of_KP (e:=.exit 0) hmix hnum hp (.none _) hB (roundC_exit (by
    cases hq:goC X Y fac u i with
    | false=>rfl
    | true=>have:=hgo i hq; have h:=hg (by omega); rw [hq] at h; exact h)) rfl) 0 (Nat.zero_le _)
  exact key
 ·cases h
end
theorem endC_facts {X Y u S:Nat} {fac:Int} (hS:(S:Int)=X+fac*Y*(BB ^ u:Nat)) (hf:-1000000000≤fac∧fac≤1000000000) (hX:wn X≤232) (hSn:wn S≤232) (hYu:wn Y+u≤232) :
  nI X u (endC X Y fac u)≤232∧fI X S u (endC X Y fac u)=wf S∧trimN (nI X u (endC X Y fac u)) (wf S)=wn S:=by
 have hgo:∀ i,goC X Y fac u i=true→i+u < 232:=fun i hi=>(roundC_step (l:=false) (l':=false) hS hf hX hSn hYu hi).1
 have hle:endC X Y fac u+u≤232 ∨ endC X Y fac u=0:=by
  by_cases h0:endC X Y fac u=0
  ·exact .inr h0
  ·left
   have:=scanN_true (p:=goC X Y fac u) (k:=233) (n:=0) (m:=endC X Y fac u - 1) (Nat.zero_le _) (by unfold endC at h0 ⊢; omega)
   have:=hgo _ this
   omega
 have hno:goC X Y fac u (endC X Y fac u)=false:=scanN_stop (by
  show endC X Y fac u < _
  omega)
 unfold goC at hno
 rw [Bool.or_eq_false_iff] at hno
 have h1:wn Y≤endC X Y fac u:=by have:=of_decide_eq_false hno.1; omega
 have h2:restC X Y fac u (endC X Y fac u)=0:=by simpa using hno.2
 refine ⟨?_,fI_end hS h1 h2,trimN_wf S _ (nI_end hS h1 h2)⟩
 unfold nI
 split <;> omega
def sp4:SP:=⟨[pW 8,pW 9,.int .i64,.int .i64],dd8++[opW,opW]⟩
def sp2v:SP:=⟨[.is (.tuple [])],dd8++[opW,opW]⟩
noncomputable def T148:List Lf→Tr (SP × List Lf)
 | [.i fac,.i up,.b l,.i n,.n m,.f f,.b l',.i n',.n m',.f g]=>.br (propB (m=232∧m'=232∧okC2 fac up n f n' g (sumC fac up n f n' g)))
  (.leaf (sp2v,lf2 l (wn (sumC fac up n f n' g)) (wf (sumC fac up n f n' g)) l' n' g)) .fail
 | _=>.fail
noncomputable def tree148 (fac up:Int) (l:Bool) (n:Int) (f:Nat→Int) (l':Bool) (n':Int) (g:Nat→Int) (X Y S:Nat):Option (List Lf) :=
 brK (propB ((0:Int)=0∧(0:Int)=0∧232=232∧232=232∧okC2 fac up n f n' g S)) (brK (propB (0≤((nI X up.toNat (endC X Y fac up.toNat):Nat):Int)∧((nI X up.toNat (endC X Y fac up.toNat):Nat):Int)≤232∧232=232))
  (some (lf2 l (trimN ((nI X up.toNat (endC X Y fac up.toNat):Nat):Int).toNat (fI X S up.toNat (endC X Y fac up.toNat))) (fI X S up.toNat (endC X Y fac up.toNat)) l' (wn Y) (wf Y))) none) none
theorem run148 (fac up:Int) (l:Bool) (n:Int) (f:Nat→Int) (l':Bool) (n':Int) (g:Nat→Int):(runK prog pBigC 60).call 148 (sp4.rho (.i fac :: .i up :: lf2 l n f l' n' g)) (sp4.heap (.i fac :: .i up :: lf2 l n f l' n' g)) (finP sp2v 10 [8]) =
  tree148 fac up l n f l' n' g (valW n f) (valW n' g) (sumC fac up n f n' g):=by kernel_rfl
noncomputable def pBig4:Prims:=pBig3.addh 148 (liftG 8 (funP sp4 10 [8] T148))
theorem pBig4_ok {A:Amb} (hT:Tab A) (hG:prog.globals.size≤A.G):PrimOK prog A pBig4:=by
 refine (pBig3_ok hT hG).addl gsz func148 (by kernel_rfl) (funP_ok hmix hnum rfl fun ls sq l h=>?_)
 unfold T148 at h
 split at h
 ·rename_i fac up lb n m f lb' n' m' g
  obtain ⟨hc,hv⟩:=Tr.br1 h
  cases hv
  obtain ⟨rfl,rfl,hok⟩:=propB_eq hc
  refine ⟨⟨.inr rfl,.inr rfl,.inr rfl,.inr rfl,.inr rfl,.inr rfl,.inr rfl,.inr rfl,.inl rfl,.inr rfl,trivial⟩,rfl,rfl,pBigC,60,pBigC_ok hT hG,(run148 _ _ _ _ f _ _ g).trans ?_⟩
  unfold tree148
  rw [propB_true (show _∧_ from ⟨rfl,rfl,rfl,rfl,hok⟩)]
  obtain ⟨w1,w2,hf,hu,hnu,hSn,hS⟩:=hok
  obtain ⟨a1,a2,a3⟩:=isW_eq w1
  obtain ⟨b1,b2,b3⟩:=isW_eq w2
  obtain ⟨u,rfl⟩:∃ u:Nat,up=u:=⟨up.toNat,by omega⟩
  generalize hX:valW n f=X at *
  generalize hY:valW n' g=Y at *
  generalize hSS:sumC fac u n f n' g=S at *
  subst a1 a2 b1 b2
  rw [Int.toNat_natCast] at hS ⊢
  obtain ⟨h1,h2,h3⟩:=endC_facts hS hf a3 hSn (by omega)
  rw [h2,Int.toNat_natCast,h3,propB_true (show _∧_ from ⟨by omega,by omega,rfl⟩)]
  rfl
 ·cases h
end Go.Proofs.Tryz
namespace Go.Proofs.Tryz
open Go.Ad
def sp1i:SP:=⟨[pW 8,.int .i64],dd8++[opW]⟩
def sp1o:SP:=⟨[.int .i64],dd8++[opW]⟩
noncomputable def T187:List Lf→Tr (SP × List Lf)
 | [.i i,.b l,.i n,.n m,.f f]=>.br (propB (0≤n∧n≤232∧m=232)) (.leaf (sp1o,.i (topR n f i) :: lfT l n f)) .fail
 | _=>.fail
theorem run187 (i:Int) (l:Bool) (n:Int) (f:Nat→Int):(runK prog lib2 60).call 187 (sp1i.rho (.i i :: lfT l n f)) (sp1i.heap (.i i :: lfT l n f)) (finP sp1o 9 []) =
  brK (decide (i < 0)) (some (.i 0 :: lfT l n f)) (brK (decide (i ≥ n)) (some (.i 0 :: lfT l n f)) (brK (decide (0≤i∧i < 232)) (brK (decide (i.toNat < 232)) (some (.i (f i.toNat) :: lfT l n f)) none) none)):=by kernel_rfl
noncomputable def pBig5:Prims:=pBig4.addh 187 (liftG 8 (funP sp1i 9 [] T187))
theorem pBig5_ok {A:Amb} (hT:Tab A) (hG:prog.globals.size≤A.G):PrimOK prog A pBig5:=by
 refine (pBig4_ok hT hG).addl gsz func187 (by kernel_rfl) (funP_ok hmix hnum rfl fun ls sq l h=>?_)
 unfold T187 at h
 split at h
 ·rename_i i lb n m f
  obtain ⟨hc,hv⟩:=Tr.br1 h
  cases hv
  obtain ⟨h0,h1,rfl⟩:=propB_eq hc
  refine ⟨⟨.inr rfl,.inr rfl,.inr rfl,.inr rfl,.inr rfl,.inr rfl,.inr rfl,.inr rfl,.inr rfl,trivial⟩,rfl,rfl,lib2,60,lib2_ok hT,(run187 _ _ _ f).trans ?_⟩
  unfold topR
  by_cases ha:i < 0
  ·rw [decide_eq_true ha]; rfl
  ·rw [decide_eq_false ha]
   by_cases hb:i ≥ n
   ·rw [decide_eq_true hb]; rfl
   ·rw [decide_eq_false hb,decide_eq_true (show 0≤i∧i < 232 by omega),decide_eq_true (show i.toNat < 232 by omega)]; rfl
 ·cases h
def okE (n:Int) (f:Nat→Int) (n':Int) (g:Nat→Int):Prop:=isW n f∧isW n' g∧0 < valW n' g∧valW n' g≤valW n f∧valW n f < valW n' g*BB
section
variable (l:Bool) (n:Int) (f:Nat→Int) (l':Bool) (n':Int) (g:Nat→Int)
def kmin (b:Int):Option (List Lf) :=
 brK (decide (¬ b=0)) (brK (decide (W ((W (W (topR n f n'*1000000000)+topR n f (W (n' - 1)))).tdiv b) > 0))
  (some (lfYr (if 999999999 < W ((W (W (topR n f n'*1000000000)+topR n f (W (n' - 1)))).tdiv b) then 999999999 else W ((W (W (topR n f n'*1000000000)+topR n f (W (n' - 1)))).tdiv b)) l n f l' n' g))
  (some (lfYr 1 l n f l' n' g))) none
theorem run175:(runK prog pBig5 60).call 175 (sp2.rho (lf2 l n f l' n' g)) (sp2.heap (lf2 l n f l' n' g)) (finP sp2i 10 []) =
  brK (propB (0≤n∧n≤232∧232=232)) (brK (propB (0≤n∧n≤232∧232=232)) (brK (propB (0≤n'∧n'≤232∧232=232)) (brK (decide (n' > 1))
   (kmin l n f l' n' g (W (topR n' g (W (n' - 1))+1))) (kmin l n f l' n' g (topR n' g (W (n' - 1))))) none) none) none:=by kernel_rfl
end
theorem run175_eq {l l':Bool} {n n':Int} {f g:Nat→Int} (h:okE n f n' g):(runK prog pBig5 60).call 175 (sp2.rho (lf2 l n f l' n' g)) (sp2.heap (lf2 l n f l' n' g)) (finP sp2i 10 [])=some (lfYr (estR n f n' g) l n f l' n' g):=by
 obtain ⟨w1,w2,h0,h1,h2⟩:=h
 obtain ⟨a1,a2,a3⟩:=isW_eq w1
 obtain ⟨b1,b2,b3⟩:=isW_eq w2
 have key:=estR_ok h0 h1 h2
 rw [← a1,← a2,← b1,← b2] at key
 obtain ⟨k1,⟨k2,k3⟩,⟨k4,k5⟩,k,k6,k7,k8,_⟩:=key
 rw [run175]
 have hn:0≤n∧n≤232:=by omega
 have hn':0≤n'∧n'≤232:=by omega
 rw [propB_true (show _∧_ from ⟨hn.1,hn.2,rfl⟩),propB_true (show _∧_ from ⟨hn'.1,hn'.2,rfl⟩)]
 have e1:W (n' - 1)=n' - 1:=by rw [W,wrap64 (by omega) (by omega)]
 have htop:∀ (V:Nat) (i:Int),0≤topR (wn V) (wf V) i∧topR (wn V) (wf V) i < 1000000000:=fun V i=>by
  unfold topR
  cases decide (i < 0) || decide (i ≥ (wn V:Int)) with
  | true=>exact ⟨by simp,by simp⟩
  | false =>
   have:=wd_lt V i.toNat
   have hB:BB=1000000000:=rfl
   simp only [cond_false,wf]
   omega
 have t1:=htop (valW n f) n'
 have t2:=htop (valW n f) (n' - 1)
 have t3:=htop (valW n' g) (n' - 1)
 rw [← a1,← a2] at t1 t2
 rw [← b1,← b2] at t3
 have e2:W (W (topR n f n'*1000000000)+topR n f (n' - 1))=estA n f n':=by
  rw [W,W,wrap64 (n:=topR n f n'*1000000000) (by omega) (by omega),wrap64 (by omega) (by omega)]; rfl
 have e3:W (topR n' g (n' - 1)+1)=topR n' g (n' - 1)+1:=by rw [W,wrap64 (by omega) (by omega)]
 rw [e1,e3]
 have hk:∀ b,b=estB n' g→kmin l n f l' n' g b=some (lfYr (estR n f n' g) l n f l' n' g):=fun b hb=>by
  subst hb
  unfold kmin
  rw [e1,e2]
  have hq:W ((estA n f n').tdiv (estB n' g))=(estA n f n').tdiv (estB n' g):=by
   have q1:0≤(estA n f n').tdiv (estB n' g):=Int.tdiv_nonneg k2 k4
   have q2:(estA n f n').tdiv (estB n' g)≤estA n f n':=by
    rw [Int.tdiv_eq_ediv_of_nonneg k2]
    exact Int.ediv_le_self _ k2
   rw [W,wrap64 (by omega) (by omega)]
  rw [hq,decide_eq_true k1]
  unfold estR
  by_cases hp:(estA n f n').tdiv (estB n' g) > 0
  ·rw [decide_eq_true hp,if_pos hp]; rfl
  ·rw [decide_eq_false hp,if_neg hp]; rfl
 by_cases hb:n' > 1
 ·rw [decide_eq_true hb,hk _ (by unfold estB; rw [if_pos hb])]; rfl
 ·rw [decide_eq_false hb,hk (topR n' g (n' - 1)) (by unfold estB; rw [if_neg hb])]; rfl
noncomputable def T175:List Lf→Tr (SP × List Lf)
 | [.b l,.i n,.n m,.f f,.b l',.i n',.n m',.f g]=>.br (propB (m=232∧m'=232∧okE n f n' g)) (.leaf (sp2i,lfYr (estR n f n' g) l n f l' n' g)) .fail
 | _=>.fail
noncomputable def pBig6:Prims:=pBig5.addh 175 (liftG 8 (funP sp2 10 [] T175))
theorem pBig6_ok {A:Amb} (hT:Tab A) (hG:prog.globals.size≤A.G):PrimOK prog A pBig6:=by
 refine (pBig5_ok hT hG).addl gsz func175 (by kernel_rfl) (funP_ok hmix hnum rfl fun ls sq l h=>?_)
 unfold T175 at h
 split at h
 ·rename_i lb n m f lb' n' m' g
  obtain ⟨hc,hv⟩:=Tr.br1 h
  cases hv
  obtain ⟨rfl,rfl,hok⟩:=propB_eq hc
  exact ⟨⟨.inr rfl,.inr rfl,.inr rfl,.inr rfl,.inr rfl,.inr rfl,.inr rfl,.inr rfl,.inr rfl,.inr rfl,trivial⟩,rfl,rfl,pBig5,60,pBig5_ok hT hG,run175_eq hok⟩
 ·cases h
end Go.Proofs.Tryz
