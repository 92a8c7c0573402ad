/- The reference's quotients: slash, Split. -/
import Derived.Test.YtfjgehlpjppggaaGreatDoorR3
import Derived.Test.YtfjgehlpjppggaaGreatDoorVal1
import Derived.Test.YtfjgehlpjppggaaGreatDoorAdRat
noncomputable section
namespace Go.Proofs.Tryz
open Go.Ad
open Go.Lib (decDigits itoa nDigits)
def E5l:Code:=f94.body.getD .skip
def C0i:Code:=I7 (J7 0 E5l)
def spSl:SP:=⟨[.str]++dr 1++[.is (.int .i64 0),.int .i64]++dr 11,dd8⟩
def spSlR:SP:=⟨dr 2++[.int .i64]++dr 12,dd8⟩
def G9l:AEx->SP
 | .ret=>spSlR
 | _=>spSl
theorem F6m (s:List UInt8) (i:Int):E9 prog (C8 prog lib2 60) F7 C0i (spSl.rho [.s s,.i i]) (spSl.heap [.s s,.i i]) (H6 G9l 8 []) =
  brK (decide (i < (s.length:Int))) (brK (decide (0<=i/\i < (s.length:Int))) (brK (((s.getD i.toNat 0).toNat:Int) == 47) (some (.ret,[.i i])) (some (.normal,[.s s,.i (W (i+1))]))) none) (some (.exit 0,[.s s,.i i])):=by kernel_rfl
def pSl (s:List UInt8) (n:Nat):Bool:=!((((s.getD n 0).toNat:Int)) == 47)
theorem E9j (s:List UInt8) (n:Nat) (hs:s.length < 2 ^ 62):E9 prog (C8 prog lib2 60) F7 C0i (spSl.rho [.s s,.i n]) (spSl.heap [.s s,.i n]) (H6 G9l 8 []) =
  if n < s.length then (bif pSl s n then some (.normal,[.s s,.i ((n+1:Nat):Int)]) else some (.ret,[.i n])) else some (.exit 0,[.s s,.i n]):=by
 rw [F6m]
 by_cases h:n < s.length
 ·rw [if_pos h,dT (show (n:Int) < (s.length:Int) by omega),dT (show 0<=(n:Int)/\(n:Int) < (s.length:Int) by omega),Int.toNat_natCast,V7 (by omega) (by omega)]
  unfold pSl
  cases ((((s.getD n 0).toNat:Int)) == 47) <;> rfl
 ·rw [if_neg h,dF (show ¬ (n:Int) < (s.length:Int) by omega)]; rfl
theorem F1e (s:List UInt8):(Lib.indexByte s 47=-1/\K4 (pSl s) (s.length - 0) 0=s.length) \/ (∃ i:Nat,i < s.length/\Lib.indexByte s 47=i/\K4 (pSl s) (s.length - 0) 0=i):=by
 have hne:∀ b:UInt8,b ≠ 47->(!((b.toNat:Int) == 47))=true:=fun b hb=>by
  have h2:b.toNat ≠ 47:=fun e=>hb (UInt8.toNat_inj.1 e)
  rw [show ((b.toNat:Int) == 47)=false by rw [beq_eq_false_iff_ne]; omega]; rfl
 rcases X8 47 s with ⟨e1,e2⟩ | ⟨i,e0,e1,e2⟩
 ·left
  refine ⟨e1,A6j (Nat.zero_le _) (by omega) (fun j _ hj=>?_) (fun h=>by omega)⟩
  have hm:=E8q.1 e2
  refine hne _ fun e=>hm ?_
  rw [<- e,List.getD_eq_getElem?_getD,List.getElem?_eq_getElem hj]
  exact List.getElem_mem hj
 ·right
  obtain ⟨h1,h2⟩:=B2k e2
  refine ⟨i,e0,e1,A6j (Nat.zero_le _) (by omega) (fun j _ hj=>?_) (fun _=>?_)⟩
  ·refine hne _ fun e=>h2 ?_
   have hj2:j < (s.take i).length:=by rw [List.length_take]; omega
   have:s.getD j 0=(s.take i)[j]:=by
    rw [List.getD_eq_getElem?_getD,List.getElem?_eq_getElem (by omega),Option.getD_some,List.getElem_take]
   rw [<- e,this]
   exact List.getElem_mem hj2
  ·unfold pSl
   have hl:(s.take i).length=i:=by rw [List.length_take]; omega
   have:s.getD i 0=47:=by
    rw [h1,List.getD_eq_getElem?_getD,List.getElem?_append_right (by omega),hl,Nat.sub_self]; rfl
   rw [this]; rfl
def G1p:Blk:=hookP spSl 8 [] fun
 | [.s s,.i i]=>.br (A9 (i=0) && D9 s) (.br (decide (Lib.indexByte s 47 < 0)) (.leaf (.normal,spSl,[.s s,.i s.length])) (.leaf (.ret,spSlR,[.i (Lib.indexByte s 47)]))) .fail
 | _=>.fail
def G9w:Prims:=pVal4.addb 94 0 G1p
section
variable {A:Amb} (hT:Tab A) (hG:prog.globals.size<=A.G)
include hT hG
theorem F7m:PrimOK prog A G9w:=by
 have hp:=K5 hT
 refine PrimOK.addbP (B7z hT hG) func94 (show f94.body=some E5l by kernel_rfl) (body:=.loop C0i) (by kernel_rfl) (by kernel_rfl) fun ls e sq l h=>?_
 split at h
 ·rename_i s i
  obtain ⟨hc,hv⟩:=Tr.br1 h
  rw [Bool.and_eq_true] at hc
  have hi:=D7 hc.1
  have hs:s.length < 2 ^ 62:=of_decide_eq_true hc.2
  subst hi
  have key:∀ Bb:Heap,Bb.length=8->SEB prog A Bb (.loop C0i) ⟨spSl.rho [.s s,.i 0],spSl.heap [.s s,.i 0],[]⟩ (if K4 (pSl s) (s.length - 0) 0 < s.length then .ret else .exit 0)
    (if K4 (pSl s) (s.length - 0) 0 < s.length then ⟨spSlR.rho [.i (K4 (pSl s) (s.length - 0) 0:Nat)],spSlR.heap [.i (K4 (pSl s) (s.length - 0) 0:Nat)],[]⟩ else ⟨spSl.rho [.s s,.i (K4 (pSl s) (s.length - 0) 0:Nat)],spSl.heap [.s s,.i (K4 (pSl s) (s.length - 0) 0:Nat)],[]⟩):=fun Bb hB =>
   SEB.scan (A:=A) (B0:=Bb) (c:=C0i) (S:=fun n=>⟨spSl.rho [.s s,.i (n:Nat)],spSl.heap [.s s,.i (n:Nat)],[]⟩) (E:=fun n=>if n < s.length then ⟨spSlR.rho [.i (n:Nat)],spSlR.heap [.i (n:Nat)],[]⟩ else ⟨spSl.rho [.s s,.i (n:Nat)],spSl.heap [.s s,.i (n:Nat)],[]⟩)
    (e:=fun n=>if n < s.length then .ret else .exit 0) (p:=pSl s) (N:=s.length) (fun n=>by by_cases h:n < s.length <;> simp [h])
    (fun n hn hp1=>by
     have hk:=E9j s n hs
     rw [if_pos hn,hp1,cond_true] at hk
     exact SEB.of_KP (A:=A) (B0:=Bb) (e:=.normal) D5 D6 hp (.none _) hB hk rfl)
    (fun n hn hp1=>by
     have hk:=E9j s n hs
     by_cases hlt:n < s.length
     ·rw [if_pos hlt,hp1 hlt,cond_false] at hk
      simp only [if_pos hlt]
      exact SEB.of_KP (A:=A) (B0:=Bb) (e:=.ret) D5 D6 hp (.none _) hB hk rfl
     ·rw [if_neg hlt] at hk
      simp only [if_neg hlt]
      exact SEB.of_KP (A:=A) (B0:=Bb) (e:=.exit 0) D5 D6 hp (.none _) hB hk rfl) 0 (Nat.zero_le _)
  rcases F1e s with ⟨e1,e2⟩ | ⟨i,e0,e1,e2⟩
  ·rw [e1,dT (show (-1:Int) < 0 by omega)] at hv
   cases hv
   refine ⟨⟨.inr rfl,.inr rfl,.inr rfl,.inr rfl,.inr rfl,.inr rfl,.inr rfl,.inr rfl,trivial⟩,fun Bb hB=>SEB.block_exit (id:=0) ?_⟩
   have:=key Bb hB
   rw [if_neg (by omega),if_neg (by omega),e2] at this
   exact this
  ·rw [e1,dF (show ¬ ((i:Nat):Int) < 0 by omega)] at hv
   cases hv
   refine ⟨⟨.inr rfl,.inr rfl,.inr rfl,.inr rfl,.inr rfl,.inr rfl,.inr rfl,.inr rfl,trivial⟩,fun Bb hB=>SEB.block_other (id:=0) ?_ (by simp)⟩
   have:=key Bb hB
   rw [if_pos (by omega),if_pos (by omega),e2] at this
   exact this
 ·cases h
end
theorem G5x (a:List UInt8):(C8 prog G9w 60).call 94 [.sstr a] (Bg 8) I4 =
  brK (A9 ((0:Int)=0) && D9 a) (brK (decide (Lib.indexByte a 47 < 0)) (some (.int .i64 (-1))) (some (.sint .i64 (Lib.indexByte a 47)))) none:=by kernel_rfl
def T94:List Lf->Tr AV
 | [.s a]=>.br (D9 a) (.leaf (.sint .i64 (Lib.indexByte a 47))) .fail
 | _=>.fail
def pQ0:Prims:=pVal4.addt 94 (gP [.str] T94)
theorem E7u {A:Amb} (hT:Tab A) (hG:prog.globals.size<=A.G):PrimOK prog A pQ0:=by
 refine PrimOK.addP D5 D6 (F7m hT hG) (B7z hT hG) hG func94 (by kernel_rfl) fun ls v h=>?_
 unfold T94 at h
 split at h
 ·rename_i a
  obtain ⟨hc,hv⟩:=Tr.br1 h
  cases hv
  have hr:=G5x a
  rw [hc,A8 rfl] at hr
  rcases X8 47 a with ⟨e1,e2⟩ | ⟨i,e0,e1,e2⟩
  ·rw [e1] at hr ⊢
   exact ⟨rfl,60,.int .i64 (-1),by rw [gsz]; exact hr,rfl,fun ι x h=>J4 rfl x h⟩
  ·rw [e1,dF (show ¬ ((i:Nat):Int) < 0 by omega)] at hr
   rw [e1]
   exact ⟨rfl,60,_,by rw [gsz]; exact hr,rfl,fun ι x h=>h⟩
 ·cases h
theorem G6g (a:List UInt8):(C8 prog pQ0 60).call 57 (spS1.rho [.s a]) (spS1.heap [.s a]) (O8 spSS 8 []) =
  brK (D9 a) (brK (decide (Lib.indexByte a 47 < 0)) (some [.s a,.s [49]]) (brK (decide (0<=Lib.indexByte a 47/\Lib.indexByte a 47<=(a.length:Int)) && true) (brK (true && decide (0<=W (Lib.indexByte a 47+1)/\W (Lib.indexByte a 47+1)<=(a.length:Int)))
   (some [.s ((a.take (Lib.indexByte a 47).toNat).drop 0),.s ((a.take a.length).drop (W (Lib.indexByte a 47+1)).toNat)]) none) none)) none:=by kernel_rfl
def T57:List Lf->Tr (SP × List Lf)
 | [.s a]=>.br (D9 a) (.leaf (spSS,[.s (H5 a).1,.s (H5 a).2.1])) .fail
 | _=>.fail
def pQ1:Prims:=pQ0.addh 57 (G8 8 (funQ spS1 8 [] T57))
theorem E6o {A:Amb} (hT:Tab A) (hG:prog.globals.size<=A.G):PrimOK prog A pQ1:=by
 refine (E7u hT hG).addl gsz func57 (by kernel_rfl) (I6 D5 D6 rfl fun ls sq l h=>?_)
 unfold T57 at h
 split at h
 ·rename_i a
  obtain ⟨hc,hv⟩:=Tr.br1 h
  cases hv
  refine ⟨⟨.inr rfl,.inr rfl,.inr rfl,.inr rfl,.inr rfl,.inr rfl,.inr rfl,.inr rfl,trivial⟩,rfl,pQ0,60,_,E7u hT hG,(G6g a).trans ?_,fun _ _=>.refl⟩
  have hsz:a.length < 2 ^ 62:=of_decide_eq_true hc
  rw [hc,E8]
  unfold H5
  rcases X8 47 a with ⟨e1,e2⟩ | ⟨i,e0,e1,e2⟩
  ·rw [e1,e2]; rfl
  ·have e3:W ((i:Int)+1)=((i+1:Nat):Int):=by rw [V7 (by omega) (by omega)]; omega
   rw [e1,e2,e3,dF (show ¬ (i:Int) < 0 by omega),dT (show 0<=(i:Int)/\(i:Int)<=(a.length:Int) by omega),dT (show 0<=((i+1:Nat):Int)/\((i+1:Nat):Int)<=(a.length:Int) by omega),
    Int.toNat_natCast,Int.toNat_natCast,List.take_length,List.drop_zero]
   rfl
 ·cases h
def E9u (a:List UInt8):Bool:=decide ((H5 a).1.length<=30) && decide ((H5 a).2.1.length<=30)
theorem G6u (a:List UInt8):(C8 prog pQ1 60).call 26 (spS1.rho [.s a]) (spS1.heap [.s a]) (V8 ⟨[.bool],dd8⟩ 8 []) =
  brK (D9 a) (brK (decide (((H5 a).1.length:Int)<=30)) (some [.b (decide (((H5 a).2.1.length:Int)<=30))]) (some [.b false])) none:=by kernel_rfl
def T26:List Lf->Tr (SP × List Lf)
 | [.s a]=>.br (D9 a) (.leaf (⟨[.bool],dd8⟩,[.b (E9u a)])) .fail
 | _=>.fail
def pQS:Prims:=pQ1.addh 26 (G8 8 (funP spS1 8 [] T26))
theorem F1f {A:Amb} (hT:Tab A) (hG:prog.globals.size<=A.G):PrimOK prog A pQS:=by
 refine (E6o hT hG).addl gsz func26 (by kernel_rfl) (K6 D5 D6 rfl fun ls sq l h=>?_)
 unfold T26 at h
 split at h
 ·rename_i a
  obtain ⟨hc,hv⟩:=Tr.br1 h
  cases hv
  refine ⟨⟨.inr rfl,.inr rfl,.inr rfl,.inr rfl,.inr rfl,.inr rfl,.inr rfl,.inr rfl,trivial⟩,rfl,rfl,pQ1,60,E6o hT hG,(G6u a).trans ?_⟩
  rw [hc,E8]
  unfold E9u
  by_cases h1:(H5 a).1.length<=30
  ·rw [dT (show ((H5 a).1.length:Int)<=30 by omega),dT h1]
   by_cases h2:(H5 a).2.1.length<=30
   ·rw [dT (show ((H5 a).2.1.length:Int)<=30 by omega),dT h2]; rfl
   ·rw [dF (show ¬ ((H5 a).2.1.length:Int)<=30 by omega),dF h2]; rfl
  ·rw [dF (show ¬ ((H5 a).1.length:Int)<=30 by omega),dF h1]; rfl
 ·cases h
end Go.Proofs.Tryz
namespace Go.Proofs.Tryz
open Go.Ad
open Go.Lib (decDigits itoa nDigits)
def pQ1r:Prims:=pR19.over pQS
theorem E0x {A:Amb} (hT:Tab A) (hG:prog.globals.size<=A.G):PrimOK prog A pQ1r:=(F5c hT hG).over (F1f hT hG)
abbrev ckQ (a n d:List UInt8):Option (List Lf) :=
 brK (D9 n) (brK (C9 n == 3) (some [.i 3]) (brK (D9 d) (brK (C9 d == 3) (some [.i 3]) (brK (D9 n) (brK (C9 n != 0) (some [.i 11]) (brK (D9 d) (brK (C9 d != 0) (some [.i 11])
  (brK (D9 a) (brK (decide (Lib.indexByte a 47 >= 0)) (brK (A9 (A2v d/\A2v [49])) (brK (decide (L9 (A7 d - A7 [49])<=0)) (some [.i 3]) (brK (A9 (Y2 n/\Y2 d))
   (brK (!(itoa ((Int.gcd (A7 n) (A7 d):Nat):Int) == [49])) (some [.i 3]) (some [.i 0])) none)) none) (some [.i 0])) none)) none)) none)) none)) none
theorem G6s (a:List UInt8):(C8 prog pQ1r 60).call 69 (spS1.rho [.s a]) (spS1.heap [.s a]) (V8 spI 8 [])=brK (D9 a) (ckQ a (H5 a).1 (H5 a).2.1) none:=by kernel_rfl
theorem A1o {a:List UInt8} (h:C9 a=0):Y2 a:=by
 have e:=X0 h
 have h2:C9 (itoa (A7 a))=0:=by rw [<- e]; exact h
 have:=A8b h2
 rw [<- e] at this
 exact ⟨e,by omega⟩
theorem E5e (a:List UInt8):decide (Lib.indexByte a 47 >= 0)=(H5 a).2.2:=by
 unfold H5
 rcases X8 47 a with ⟨e1,e2⟩ | ⟨i,e0,e1,e2⟩
 ·rw [e1,e2]; rfl
 ·rw [e1,e2,dT (by omega)]
theorem G2l {a:List UInt8} (h:a.length < 2 ^ 61):ckQ a (H5 a).1 (H5 a).2.1=some [.i (A0r a)]:=by
 obtain ⟨s1,s2⟩:=D9t h
 have s0:D9 a=true:=dT (by omega)
 unfold ckQ
 rw [E5e,s0]
 unfold A0r
 generalize (H5 a).1=n at *
 generalize (H5 a).2.1=d at *
 generalize (H5 a).2.2=w at *
 rw [s1,s2,E8,E8,E8,E8,E8]
 by_cases h1:C9 n=3
 ·rw [if_pos (show C9 n=3 \/ C9 d=3 from .inl h1),show (C9 n == 3)=true by simpa using h1]; rfl
 ·rw [show (C9 n == 3)=false by simpa using h1,I8]
  by_cases h2:C9 d=3
  ·rw [if_pos (show C9 n=3 \/ C9 d=3 from .inr h2),show (C9 d == 3)=true by simpa using h2]; rfl
  ·rw [if_neg (show ¬ (C9 n=3 \/ C9 d=3) by rw [not_or]; exact ⟨h1,h2⟩),show (C9 d == 3)=false by simpa using h2,I8]
   by_cases h3:C9 n=0
   ·rw [show (C9 n != 0)=false by simpa using h3,I8]
    by_cases h4:C9 d=0
    ·rw [if_neg (show ¬ (C9 n ≠ 0 \/ C9 d ≠ 0) by rw [not_or]; exact ⟨by simpa using h3,by simpa using h4⟩),show (C9 d != 0)=false by simpa using h4,I8]
     cases w with
     | false=>rfl
     | true =>
      have z1:=A1o h3
      have z2:=A1o h4
      rw [E8,A8 ⟨A1y z2,A1y (A1o B9b)⟩,A8 ⟨z1,z2⟩,E8,show A7 [49]=1 from rfl]
      have hg:∀ x:Int,(itoa x == [49])=decide (x=1):=fun x=>by
       by_cases hx:x=1
       ·rw [dT hx,hx,itoa_1]; rfl
       ·rw [dF hx,beq_eq_false_iff_ne]
        intro e
        rw [<- itoa_1] at e
        exact hx (A8v e)
      rw [hg]
      by_cases h5:1 < A7 d
      ·have h6:L9 (A7 d - 1)=1:=by unfold L9; rw [if_neg (by omega),if_neg (by omega)]
       rw [h6]
       by_cases h7:Int.gcd (A7 n) (A7 d)=1
       ·rw [dT (show ((Int.gcd (A7 n) (A7 d):Nat):Int)=1 by omega),if_neg (by simp [h5,h7])]; rfl
       ·rw [dF (show ¬ ((Int.gcd (A7 n) (A7 d):Nat):Int)=1 by omega),if_pos (by simp [h7])]; rfl
      ·have h6:decide (L9 (A7 d - 1)<=0)=true:=by
        refine dT ?_
        unfold L9
        by_cases h8:A7 d - 1=0
        ·rw [if_pos h8]; omega
        ·rw [if_neg h8,if_pos (by omega)]; omega
       rw [h6,if_pos (by simp [h5])]; rfl
    ·rw [if_pos (show C9 n ≠ 0 \/ C9 d ≠ 0 from .inr h4),show (C9 d != 0)=true by simpa using h4]; rfl
   ·rw [if_pos (show C9 n ≠ 0 \/ C9 d ≠ 0 from .inl h3),show (C9 n != 0)=true by simpa using h3]; rfl
def T69:List Lf->Tr (SP × List Lf)
 | [.s a]=>.br (szH a) (.leaf (spI,[.i (A0r a)])) .fail
 | _=>.fail
def pQ2:Prims:=pQ1r.addh 69 (G8 8 (funP spS1 8 [] T69))
theorem E8g {A:Amb} (hT:Tab A) (hG:prog.globals.size<=A.G):PrimOK prog A pQ2:=by
 refine (E0x hT hG).addl gsz func69 (by kernel_rfl) (K6 D5 D6 rfl fun ls sq l h=>?_)
 unfold T69 at h
 split at h
 ·rename_i a
  obtain ⟨hc,hv⟩:=Tr.br1 h
  cases hv
  refine ⟨⟨.inr rfl,.inr rfl,.inr rfl,.inr rfl,.inr rfl,.inr rfl,.inr rfl,.inr rfl,trivial⟩,rfl,rfl,pQ1r,60,E0x hT hG,(G6s a).trans ?_⟩
  rw [C7i hc,E8]
  exact G2l (of_decide_eq_true hc)
 ·cases h
theorem G7z (a:List UInt8):(C8 prog pQ2 60).call 70 (spS1.rho [.s a]) (spS1.heap [.s a]) (V8 spI 8 [])=brK (D9 a) (brK (A9 (A2v (H5 a).1/\A2v [48])) (some [.i (L9 (A7 (H5 a).1 - A7 [48]))]) none) none:=by kernel_rfl
def T70:List Lf->Tr (SP × List Lf)
 | [.s a]=>.br (A9 (D9 a=true/\A2v (H5 a).1)) (.leaf (spI,[.i (L9 (A7 (H5 a).1))])) .fail
 | _=>.fail
theorem E1s:C9 [48]=0:=by have:=E9o; rwa [itoa0] at this
def pQ3:Prims:=pQ2.addh 70 (G8 8 (funP spS1 8 [] T70))
theorem F2j {A:Amb} (hT:Tab A) (hG:prog.globals.size<=A.G):PrimOK prog A pQ3:=by
 refine (E8g hT hG).addl gsz func70 (by kernel_rfl) (K6 D5 D6 rfl fun ls sq l h=>?_)
 unfold T70 at h
 split at h
 ·rename_i a
  obtain ⟨hc,hv⟩:=Tr.br1 h
  cases hv
  obtain ⟨h1,h2⟩:=D7 hc
  refine ⟨⟨.inr rfl,.inr rfl,.inr rfl,.inr rfl,.inr rfl,.inr rfl,.inr rfl,.inr rfl,trivial⟩,rfl,rfl,pQ2,60,E8g hT hG,(G7z a).trans ?_⟩
  rw [h1,E8,A8 ⟨h2,A1y (A1o E1s)⟩,E8,show A7 [48]=0 from rfl,Int.sub_zero]
 ·cases h
abbrev F8q (n d:List UInt8):Option (List Lf) :=
 brK (d == [49]) (some [.s n]) (brK (decide (n.length+1 < 4611686018427387904)) (brK (decide ((n++[47]).length+d.length < 4611686018427387904)) (some [.s (n++[47]++d)]) none) none)
abbrev F7c (a b g:List UInt8):Option (List Lf) :=
 brK (A9 (Y2 a/\Y2 g/\¬ A7 g=0)) (brK (A9 (Y2 b/\Y2 g/\¬ A7 g=0)) (F8q (itoa ((A7 a).fdiv (A7 g))) (itoa ((A7 b).fdiv (A7 g)))) none) none
abbrev G4x (a b g:List UInt8):Option (List Lf) :=
 brK (A9 (isZ b)) (brK (decide (A7 b < 0)) (brK (A9 (zOK g)) (F7c a b (itoa (-A7 g))) none) (F7c a b g)) none
theorem G2h (a b:List UInt8):(C8 prog pQ3 60).call 102 (spSS.rho [.s a,.s b]) (spSS.heap [.s a,.s b]) (V8 spS1 8 []) =
  brK (A9 (Y2 a/\Y2 b)) (G4x a b (itoa (Int.gcd (A7 a) (A7 b):Nat))) none:=by kernel_rfl
theorem D2z {A G:Int} (hd:G ∣ A) (h0:G ≠ 0):(A.fdiv G).natAbs<=A.natAbs:=by
 obtain ⟨q,rfl⟩:=hd
 rw [Int.mul_fdiv_cancel_left _ h0,Int.natAbs_mul]
 have:1<=G.natAbs:=by omega
 exact Nat.le_mul_of_pos_left _ this
theorem C2t {A B:Int} (h:A.natAbs<=B.natAbs):(itoa A).length<=(itoa B).length+1:=by
 have h1:=A3u A
 have h2:=P5 h
 have h3:(decDigits B.natAbs).length<=(itoa B).length:=by
  have:=A9d B
  by_cases hb:B < 0
  ·rw [if_pos hb] at this
   rw [<- this,List.length_drop]; omega
  ·rw [if_neg hb] at this
   rw [this]; exact Nat.le_refl _
 omega
theorem D9c {a b:List UInt8} {G:Int} (ha:Y2 a) (hb:Y2 b) (h0:G ≠ 0) (h1:G ∣ A7 a) (h2:G ∣ A7 b) (hg:Y2 (itoa G)):F7c a b (itoa G)=some [.s (A3c ((A7 a).fdiv G) ((A7 b).fdiv G))]:=by
 have l1:=C2t (D2z h1 h0)
 have l2:=C2t (D2z h2 h0)
 have e1:itoa (A7 a)=a:=ha.1.symm
 have e2:itoa (A7 b)=b:=hb.1.symm
 rw [e1] at l1
 rw [e2] at l2
 have la:=ha.2
 have lb:=hb.2
 unfold F7c F8q A3c
 rw [D8,A8 ⟨ha,hg,h0⟩,A8 ⟨hb,hg,h0⟩,E8,E8]
 generalize itoa ((A7 a).fdiv G)=n at *
 generalize itoa ((A7 b).fdiv G)=d at *
 cases d == [49] with
 | true=>rfl
 | false =>
  have e3:(n++[47]).length+d.length < 4611686018427387904:=by rw [List.length_append]; simp only [List.length_cons,List.length_nil]; omega
  rw [dT (show n.length+1 < 4611686018427387904 by omega),dT e3]
  rfl
theorem F4t {a b:List UInt8} (ha:Y2 a) (hb:Y2 b) (h0:A7 b ≠ 0):G4x a b (itoa (Int.gcd (A7 a) (A7 b):Nat))=some [.s (A5g (A7 a) (A7 b))]:=by
 have hn:=E9r (A:=A7 a) h0
 have hd1:((Int.gcd (A7 a) (A7 b):Nat):Int) ∣ A7 a:=Int.gcd_dvd_left ..
 have hd2:((Int.gcd (A7 a) (A7 b):Nat):Int) ∣ A7 b:=Int.gcd_dvd_right ..
 have hle:Int.gcd (A7 a) (A7 b)<=(A7 b).natAbs:=by
  have:=Int.natAbs_dvd_natAbs.2 hd2
  rw [Int.natAbs_natCast] at this
  exact Nat.le_of_dvd (by omega) this
 have e2:itoa (A7 b)=b:=hb.1.symm
 have lb:=hb.2
 have lg:(itoa ((Int.gcd (A7 a) (A7 b):Nat):Int)).length<=b.length:=by
  have h1:=P5 hle
  rw [A1q]
  have h3:=A1f hb.1
  have h4:=(A0m b).1
  rw [h3,A1q] at h4
  omega
 unfold G4x A5g sgG
 rw [A8 hb.1,E8,D8]
 by_cases h:A7 b < 0
 ·rw [dT h,E8,if_pos h,A8 ⟨K8 _,by omega⟩,E8]
  refine D9c ha hb (by omega) (Int.neg_dvd.2 hd1) (Int.neg_dvd.2 hd2) ⟨K8 _,?_⟩
  have hl:(itoa (-((Int.gcd (A7 a) (A7 b):Nat):Int))).length=(decDigits (Int.gcd (A7 a) (A7 b))).length+1:=by
   unfold itoa
   rw [if_pos (by omega),List.length_cons,Int.natAbs_neg,Int.natAbs_natCast]
  rw [A1q] at lg
  have hb1:b.length=(decDigits (A7 b).natAbs).length+1:=by
   conv=>lhs; rw [<- e2]
   unfold itoa
   rw [if_pos h,List.length_cons]
  have:=P5 hle
  omega
 ·rw [dF h,I8,if_neg h]
  exact D9c ha hb hn hd1 hd2 ⟨K8 _,by omega⟩
def G7u:List Lf->Tr (SP × List Lf)
 | [.s a,.s b]=>.br (A9 (Y2 a/\Y2 b/\A7 b ≠ 0)) (.leaf (spS1,[.s (A5g (A7 a) (A7 b))])) .fail
 | _=>.fail
def pQ4:Prims:=pQ3.addh 102 (G8 8 (funP spSS 8 [] G7u))
theorem E7z {A:Amb} (hT:Tab A) (hG:prog.globals.size<=A.G):PrimOK prog A pQ4:=by
 refine (F2j hT hG).addl gsz func102 (by kernel_rfl) (K6 D5 D6 rfl fun ls sq l h=>?_)
 unfold G7u at h
 split at h
 ·rename_i a b
  obtain ⟨hc,hv⟩:=Tr.br1 h
  cases hv
  obtain ⟨ha,hb,h0⟩:=D7 hc
  refine ⟨⟨.inr rfl,.inr rfl,.inr rfl,.inr rfl,.inr rfl,.inr rfl,.inr rfl,.inr rfl,trivial⟩,rfl,rfl,pQ3,60,F2j hT hG,(G2h a b).trans ?_⟩
  rw [A8 ⟨ha,hb⟩,E8]
  exact F4t ha hb h0
 ·cases h
end Go.Proofs.Tryz
namespace Go.Proofs.Tryz
open Go.Ad
open Go.Lib (decDigits itoa nDigits)
theorem C7c {a:List UInt8} (h:A0r a=0):C9 (H5 a).1=0/\C9 (H5 a).2.1=0/\1<=A7 (H5 a).2.1/\Int.gcd (A7 (H5 a).1) (A7 (H5 a).2.1)=1:=by
 unfold A0r at h
 split at h
 ·cases h
 ·split at h
  ·cases h
  ·rename_i h1 h2
   split at h
   ·cases h
   ·rename_i h3
    rw [not_or] at h1 h2
    have e1:C9 (H5 a).1=0:=Decidable.not_not.1 h2.1
    have e2:C9 (H5 a).2.1=0:=Decidable.not_not.1 h2.2
    refine ⟨e1,e2,?_⟩
    cases hw:(H5 a).2.2 with
    | true =>
     have h4:1 < A7 (H5 a).2.1/\Int.gcd (A7 (H5 a).1) (A7 (H5 a).2.1)=1:=by
      by_cases hc:1 < A7 (H5 a).2.1/\Int.gcd (A7 (H5 a).1) (A7 (H5 a).2.1)=1
      ·exact hc
      ·exact (h3 ⟨hw,hc⟩).elim
     exact ⟨by omega,h4.2⟩
    | false =>
     have:(H5 a).2.1=[49]:=by
      unfold H5 at hw ⊢
      cases hc:cutAt 47 a with
      | none=>rfl
      | some p=>rw [hc] at hw; cases hw
     rw [this,show A7 [49]=1 from rfl]
     exact ⟨by omega,by rw [Int.gcd_one]⟩
theorem B8a (n:Int):(47:UInt8) ∉ itoa n:=fun hm=>by
 unfold itoa at hm
 have hd:∀ U:Nat,(47:UInt8) ∉ decDigits U:=fun U hm=>by
  have:=A0l U 47 hm
  exact absurd this.1 (by decide)
 split at hm
 ·cases hm with
  | tail _ hm=>exact hd _ hm
 ·exact hd _ hm
theorem E2g (N D:Int):(H5 (A3c N D)).1=itoa N/\(H5 (A3c N D)).2.1=itoa D:=by
 unfold A3c
 cases h:itoa D == [49] with
 | true =>
  have h:itoa D=[49]:=by simpa using h
  unfold H5
  rw [cond_true,A4j (B8a N),h]
  exact ⟨rfl,rfl⟩
 | false =>
  unfold H5
  rw [cond_false,List.append_assoc,show itoa N++([47]++itoa D)=itoa N++47 :: itoa D from rfl,B3g (B8a N)]
  exact ⟨rfl,rfl⟩
theorem G0r {N D:Int} (h:Int.gcd N D=1) (h0:0<=D):A5g N D=A3c N D:=by
 unfold A5g sgG
 rw [if_neg (by omega),h]
 show A3c (N.fdiv 1) (D.fdiv 1)=_
 rw [Int.fdiv_one,Int.fdiv_one]
abbrev F3x (n q:List UInt8):Option (List Lf) :=
 brK (A9 (zOK [48]/\zOK q)) (brK (A9 (zOK n/\zOK [49])) (brK (A9 (zOK [49]/\zOK q)) (brK (A9 (zOK [48]/\zOK n)) (brK (A9 (zOK [49]/\zOK n))
  (brK (A9 (A2v (itoa (A7 [48]*A7 q))/\A2v (itoa (A7 n*A7 [49]))))
   (brK (A9 (Y2 (itoa (A7 (itoa (A7 [48]*A7 q)) - A7 (itoa (A7 n*A7 [49]))))/\Y2 (itoa (A7 [49]*A7 q))/\¬ A7 (itoa (A7 [49]*A7 q))=0))
    (some [.s (A5g (A7 (itoa (A7 (itoa (A7 [48]*A7 q)) - A7 (itoa (A7 n*A7 [49]))))) (A7 (itoa (A7 [49]*A7 q))))]) none) none) none) none) none) none) none
theorem H1l (a:List UInt8):(C8 prog pQ4 60).call 71 (spS1.rho [.s a]) (spS1.heap [.s a]) (V8 spS1 8 [])=brK (D9 a) (F3x (H5 a).1 (H5 a).2.1) none:=by kernel_rfl
theorem A1w {a:List UInt8} (h:C9 a=0):zOK a:=A6u (A1y (A1o h))
theorem D0j {a:List UInt8} (h:C9 a=0):C9 (itoa (-A7 a))=0:=by
 have e:=X0 h
 refine Y6 (A:=A7 a) (by rw [<- e]; exact h) (by rw [Int.natAbs_neg]; exact Nat.le_refl _)
theorem F3n {n q:List UInt8} (hn:C9 n=0) (hq:C9 q=0) (h0:A7 q ≠ 0):F3x n q=some [.s (A5g (-A7 n) (A7 q))]:=by
 have e1:C9 [48]=0:=E1s
 unfold F3x
 rw [show A7 [48]=0 from rfl,show A7 [49]=1 from rfl,Int.zero_mul,Int.mul_one,Int.one_mul,D8,D8,D8,D8,Int.zero_sub,itoa0,<- X0 hn,<- X0 hq,
  A8 ⟨A1w e1,A1w hq⟩,A8 ⟨A1w hn,A1w B9b⟩,A8 ⟨A1w B9b,A1w hq⟩,A8 ⟨A1w e1,A1w hn⟩,A8 ⟨A1w B9b,A1w hn⟩,
  A8 ⟨A1y (A1o e1),A1y (A1o hn)⟩,A8 ⟨A1o (D0j hn),A1o hq,h0⟩]
 rfl
def T71:List Lf->Tr (SP × List Lf)
 | [.s a]=>.br (A9 (A0r a=0/\szH a=true)) (.leaf (spS1,[.s (A3c (-A7 (H5 a).1) (A7 (H5 a).2.1))])) .fail
 | _=>.fail
def pQ6:Prims:=pQ4.addh 71 (G8 8 (funP spS1 8 [] T71))
theorem E7g {A:Amb} (hT:Tab A) (hG:prog.globals.size<=A.G):PrimOK prog A pQ6:=by
 refine (E7z hT hG).addl gsz func71 (by kernel_rfl) (K6 D5 D6 rfl fun ls sq l h=>?_)
 unfold T71 at h
 split at h
 ·rename_i a
  obtain ⟨hc,hv⟩:=Tr.br1 h
  cases hv
  obtain ⟨h1,h2⟩:=D7 hc
  obtain ⟨e1,e2,e3,e4⟩:=C7c h1
  refine ⟨⟨.inr rfl,.inr rfl,.inr rfl,.inr rfl,.inr rfl,.inr rfl,.inr rfl,.inr rfl,trivial⟩,rfl,rfl,pQ4,60,E7z hT hG,(H1l a).trans ?_⟩
  rw [C7i h2,E8,F3n e1 e2 (by omega),G0r (by rw [Int.neg_gcd]; exact e4) (by omega)]
 ·cases h
end Go.Proofs.Tryz
namespace Go.Proofs.Tryz
open Go.Ad
open Go.Lib (decDigits itoa nDigits decFrom digitVal)
def F3w:Code:=f62.body.getD .skip
def D7k:Code:=I7 (J7 0 F3w)
def spWo:SP:=⟨[.str]++dr 2++[.str,.str,.bool,.int .i64]++dr 25,dd8⟩
def C0a (s w p:List UInt8) (b:Bool) (i:Int):List Lf:=[.s s,.s w,.s p,.b b,.i i]
def dgB (c:Int):Int:=IntKind.i64.wrap (IntKind.u8.wrap (c - 48))
theorem D8f (s w p:List UInt8) (b:Bool) (i:Int):E9 prog (C8 prog pQ6 60) F7 D7k (spWo.rho (C0a s w p b i)) (spWo.heap (C0a s w p b i)) (H6 (fun _=>spWo) 8 []) =
  brK (decide (i < (s.length:Int))) (brK (decide (0<=i/\i < (s.length:Int))) (brK (((s.getD i.toNat 0).toNat:Int) == 46) (some (.normal,C0a s w p true (W (i+1))))
   (brK (A9 (zOK w/\zOK [49,48])) (brK (decide (0<=i/\i < (s.length:Int))) (brK (A9 (IntKind.i64=.i64/\-(2 ^ 63) < dgB ((s.getD i.toNat 0).toNat:Int)/\dgB ((s.getD i.toNat 0).toNat:Int) < 2 ^ 63))
    (brK (A9 (zOK (itoa (A7 w*A7 [49,48]))/\zOK (itoa (dgB ((s.getD i.toNat 0).toNat:Int)))))
     (brK b (brK (A9 (zOK p/\zOK [49,48])) (some (.normal,C0a s (itoa (A7 (itoa (A7 w*A7 [49,48]))+A7 (itoa (dgB ((s.getD i.toNat 0).toNat:Int))))) (itoa (A7 p*A7 [49,48])) b (W (i+1)))) none)
      (some (.normal,C0a s (itoa (A7 (itoa (A7 w*A7 [49,48]))+A7 (itoa (dgB ((s.getD i.toNat 0).toNat:Int))))) p b (W (i+1))))) none) none) none) none)) none)
   (some (.exit 0,C0a s w p b i)):=by kernel_rfl
theorem G4n {c:Nat} (h1:48<=c) (h2:c<=57):dgB (c:Int)=((c - 48:Nat):Int):=by
 obtain ⟨k,rfl⟩:∃ k,c=48+k:=⟨c - 48,by omega⟩
 have hk:k<=9:=by omega
 have:∀ k:Fin 10,dgB ((48+k.val:Nat):Int)=((48+k.val - 48:Nat):Int):=by decide
 exact this ⟨k,by omega⟩
def stepW (st:Nat × Nat × Bool) (c:UInt8):Nat × Nat × Bool:=if c=46 then (st.1,st.2.1,true) else (st.1*10+(c.toNat - 48),bif st.2.2 then st.2.1*10 else st.2.1,st.2.2)
def woS (s:List UInt8):Nat × Nat × Bool:=s.foldl stepW (0,1,false)
theorem B0o:∀ (l:List UInt8) (w p:Nat) (h:Bool),l.all F8=true->l.foldl stepW (w,p,h)=(E5 w l,bif h then p*10 ^ l.length else p,h)
 | [],w,p,h,_=>by cases h <;> simp [E5]
 | c :: r,w,p,h,hl=>by
  rw [List.all_cons,Bool.and_eq_true] at hl
  have hc:c ≠ 46:=fun e=>by rw [e] at hl; exact absurd hl.1 (by decide)
  rw [List.foldl_cons]
  show r.foldl stepW (if c=46 then _ else _)=_
  rw [if_neg hc,B0o r _ _ _ hl.2]
  show (E5 (w*10+(c.toNat - 48)) r,_,h)=(E5 (w*10+(c.toNat - 48)) r,_,h)
  cases h with
  | false=>rfl
  | true=>simp only [cond_true,List.length_cons,Nat.pow_succ]; rw [Nat.mul_assoc,Nat.mul_comm 10]
theorem G0c {s f b:List UInt8} (h:NumS s f b):(woS s).1=E5 0 (f++b)/\(woS s).2.1=10 ^ b.length:=by
 unfold woS
 rcases h.shape with ⟨e1,e2⟩ | ⟨e1,_⟩
 ·rw [e2,e1,B0o f 0 1 false h.df,List.append_nil]
  exact ⟨rfl,rfl⟩
 ·rw [e1,List.foldl_append,B0o f 0 1 false h.df,List.foldl_cons]
  show (b.foldl stepW (E5 0 f,1,true)).1=_/\(b.foldl stepW (E5 0 f,1,true)).2.1=_
  rw [B0o b _ _ _ h.db,A0o]
  exact ⟨rfl,by simp⟩
theorem E8b:∀ (l:List UInt8) (st:Nat × Nat × Bool) (k:Nat),(∀ c ∈ l,c=46 \/ F8 c=true)->st.1 < 10 ^ k->st.2.1<=10 ^ k->(l.foldl stepW st).1 < 10 ^ (k+l.length)/\(l.foldl stepW st).2.1<=10 ^ (k+l.length)
 | [],_,_,_,h1,h2=>⟨h1,h2⟩
 | c :: r,st,k,hl,h1,h2=>by
  rw [List.foldl_cons,List.length_cons,show k+(r.length+1)=k+1+r.length by omega]
  have hp:10 ^ (k+1)=10 ^ k*10:=Nat.pow_succ ..
  refine E8b r _ (k+1) (fun c hc=>hl c (.tail _ hc)) ?_ ?_
  ·unfold stepW
   by_cases hc:c=46
   ·rw [if_pos hc]; simp only; omega
   ·rw [if_neg hc]
    have hd:F8 c=true:=(hl c (.head _)).resolve_left hc
    have h3:48<=c.toNat/\c.toNat<=57:=by simpa [F8] using hd
    simp only; omega
  ·unfold stepW
   by_cases hc:c=46
   ·rw [if_pos hc]; simp only; omega
   ·rw [if_neg hc]
    simp only
    cases st.2.2 <;> simp only [cond_true,cond_false] <;> omega
theorem C3y {s f b:List UInt8} (h:NumS s f b):∀ c ∈ s,c=46 \/ F8 c=true:=fun c hc=>by
 rcases h.shape with ⟨e1,_⟩ | ⟨e1,_⟩
 ·rw [e1] at hc
  exact .inr (List.all_eq_true.1 h.df _ hc)
 ·rw [e1] at hc
  rcases List.mem_append.1 hc with hc | hc
  ·exact .inr (List.all_eq_true.1 h.df _ hc)
  ·cases hc with
   | head=>exact .inl rfl
   | tail _ hc=>exact .inr (List.all_eq_true.1 h.db _ hc)
theorem A5j {n k:Nat} (h:n < 10 ^ k) (h1:1<=k) (h2:k<=1000):zOK (itoa (n:Int)):=by
 refine ⟨K8 _,?_⟩
 have:=A0p h h1
 have:(1000:Nat) < 2 ^ 26:=by decide
 omega
theorem E1w:itoa 10=[49,48]:=C1s 1
theorem C7t:A7 [49,48]=10:=by rw [<- E1w,D8]
def G2a:Blk:=hookP spWo 8 [] fun
 | [.s s,.s w,.s p,.b b,.i i]=>.br (A9 (w=itoa ((0:Nat):Int)/\p=itoa ((1:Nat):Int)/\b=false/\i=0/\A0s s=0)) (.leaf (.normal,spWo,C0a s (itoa ((woS s).1:Nat)) (itoa ((woS s).2.1:Nat)) (woS s).2.2 s.length)) .fail
 | _=>.fail
def G0f:Prims:=pQ6.addb 62 0 G2a
section
variable {A:Amb} (hT:Tab A) (hG:prog.globals.size<=A.G)
include hT hG
theorem F4c:PrimOK prog A G0f:=by
 have hp:=E7g hT hG
 refine PrimOK.addbP hp func62 (show f62.body=some F3w by kernel_rfl) (body:=.loop D7k) (by kernel_rfl) (by kernel_rfl) fun ls e sq l h=>?_
 split at h
 ·rename_i s w p b i
  obtain ⟨hc,hv⟩:=Tr.br1 h
  cases hv
  obtain ⟨rfl,rfl,rfl,rfl,hs⟩:=D7 hc
  obtain ⟨f,b,hn⟩:=B0p hs
  have hlen:=hn.len
  have hbytes:=C3y hn
  refine ⟨⟨.inr rfl,.inr rfl,.inr rfl,.inr rfl,.inr rfl,.inr rfl,.inr rfl,.inr rfl,trivial⟩,fun Bb hB=>SEB.block_exit (id:=0) ?_⟩
  refine SEB.loop_nat (P:=prog) (A:=A) (B0:=Bb) (c:=D7k) (I:=fun i=>⟨spWo.rho (C0a s (itoa ((woS (s.take i)).1:Nat)) (itoa ((woS (s.take i)).2.1:Nat)) (woS (s.take i)).2.2 i),spWo.heap (C0a s (itoa ((woS (s.take i)).1:Nat)) (itoa ((woS (s.take i)).2.1:Nat)) (woS (s.take i)).2.2 i),[]⟩) (N:=s.length) ?_ ?_ (by simp) (i:=0) (Nat.zero_le _)
   (s':=⟨spWo.rho (C0a s (itoa ((woS s).1:Nat)) (itoa ((woS s).2.1:Nat)) (woS s).2.2 s.length),spWo.heap (C0a s (itoa ((woS s).1:Nat)) (itoa ((woS s).2.1:Nat)) (woS s).2.2 s.length),[]⟩) (e:=.exit 0)
  ·intro i hi
   have hr:=D8f s (itoa ((woS (s.take i)).1:Nat)) (itoa ((woS (s.take i)).2.1:Nat)) (woS (s.take i)).2.2 i
   obtain ⟨b1,b2⟩:=E8b (s.take i) (0,1,false) 1 (fun c hc=>hbytes c (List.mem_of_mem_take hc)) (by decide) (by decide)
   have hti:(s.take i).length<=24:=by rw [List.length_take]; omega
   have hp1:10 ^ (1+(s.take i).length)<=10 ^ 25:=Nat.pow_le_pow_right (by decide) (by omega)
   have hstep:woS (s.take (i+1))=stepW (woS (s.take i)) (s.getD i 0):=by
    unfold woS
    rw [List.take_add_one,List.getD_eq_getElem?_getD,List.getElem?_eq_getElem hi,List.foldl_append]
    rfl
   have b1:(woS (s.take i)).1 < 10 ^ 25:=by show ((s.take i).foldl stepW (0,1,false)).1 < _; omega
   have b2:(woS (s.take i)).2.1<=10 ^ 25:=by show ((s.take i).foldl stepW (0,1,false)).2.1<=_; omega
   have hmem:s.getD i 0 ∈ s:=by rw [List.getD_eq_getElem?_getD,List.getElem?_eq_getElem hi]; exact List.getElem_mem hi
   rw [hstep]
   generalize woS (s.take i)=st at *
   obtain ⟨w,p,bb⟩:=st
   have hch:=hbytes _ hmem
   simp only at b1 b2 hr
   rw [dT (show (i:Int) < (s.length:Int) by omega),dT (show 0<=(i:Int)/\(i:Int) < (s.length:Int) by omega),Int.toNat_natCast,V7 (by omega) (by omega),E8,E8] at hr
   unfold stepW
   generalize s.getD i 0=c at *
   by_cases hc:c=46
   ·subst hc
    rw [if_pos rfl]
    rw [show (((46:UInt8).toNat:Int) == 46)=true from rfl,E8] at hr
    exact SEB.of_KP (A:=A) (B0:=Bb) (e:=.normal) D5 D6 hp (.none _) hB hr rfl
   ·rw [if_neg hc]
    have hd:F8 c=true:=hch.resolve_left hc
    have h3:48<=c.toNat/\c.toNat<=57:=by simpa [F8] using hd
    have hne:((c.toNat:Int) == 46)=false:=by rw [beq_eq_false_iff_ne]; omega
    have e1:(w:Int)*10=((w*10:Nat):Int):=by omega
    have e2:(p:Int)*10=((p*10:Nat):Int):=by omega
    have e3:((w*10:Nat):Int)+((c.toNat - 48:Nat):Int)=((w*10+(c.toNat - 48):Nat):Int):=by omega
    have z10:zOK [49,48]:=by rw [<- E1w]; exact A5j (n:=10) (k:=2) (by decide) (by decide) (by decide)
    have hdg:dgB (c.toNat:Int)=((c.toNat - 48:Nat):Int):=G4n h3.1 h3.2
    rw [hne,I8,hdg,C7t,D8,D8,e1,D8,e3,D8,e2,A8 ⟨A5j (k:=26) (by omega) (by decide) (by decide),z10⟩,E8,E8,A8 ⟨by trivial,by omega,by omega⟩,E8,
     A8 ⟨A5j (n:=w*10) (k:=27) (by omega) (by decide) (by decide),A5j (n:=c.toNat - 48) (k:=2) (by omega) (by decide) (by decide)⟩,E8,A8 ⟨A5j (n:=p) (k:=26) (by omega) (by decide) (by decide),z10⟩,E8] at hr
    cases bb with
    | true=>exact SEB.of_KP (A:=A) (B0:=Bb) (e:=.normal) D5 D6 hp (.none _) hB hr rfl
    | false=>exact SEB.of_KP (A:=A) (B0:=Bb) (e:=.normal) D5 D6 hp (.none _) hB hr rfl
  ·have hr:=D8f s (itoa ((woS s).1:Nat)) (itoa ((woS s).2.1:Nat)) (woS s).2.2 s.length
   rw [dF (show ¬ (s.length:Int) < (s.length:Int) by omega)] at hr
   simp only [List.take_length]
   exact SEB.of_KP (A:=A) (B0:=Bb) (e:=.exit 0) D5 D6 hp (.none _) hB hr rfl
 ·cases h
end
theorem G7x (s:List UInt8):(C8 prog G0f 60).call 62 (spS1.rho [.s s]) (spS1.heap [.s s]) (V8 spS1 8 []) =
  brK (A9 (([48]:List UInt8)=itoa ((0:Nat):Int)/\([49]:List UInt8)=itoa ((1:Nat):Int)/\false=false/\(0:Int)=0/\A0s s=0))
   (brK (A9 (Y2 (itoa ((woS s).1:Nat))/\Y2 (itoa ((woS s).2.1:Nat))/\¬ A7 (itoa ((woS s).2.1:Nat))=0)) (some [.s (A5g (A7 (itoa ((woS s).1:Nat))) (A7 (itoa ((woS s).2.1:Nat))))]) none) none:=by kernel_rfl
def T62:List Lf->Tr (SP × List Lf)
 | [.s a]=>.br (A9 (A0s a=0)) (.leaf (spS1,[.s (O6 a).1])) .fail
 | _=>.fail
def pV0:Prims:=pQ6.addh 62 (G8 8 (funP spS1 8 [] T62))
theorem C0x {n k:Nat} (h:n < 10 ^ k) (h1:1<=k) (h2:k<=1000):Y2 (itoa (n:Int)):=by
 refine ⟨K8 _,?_⟩
 have:=A0p h h1
 have:(1000:Nat) < 2 ^ 24:=by decide
 omega
theorem E9d {A:Amb} (hT:Tab A) (hG:prog.globals.size<=A.G):PrimOK prog A pV0:=by
 refine (E7g hT hG).addl gsz func62 (by kernel_rfl) (K6 D5 D6 rfl fun ls sq l h=>?_)
 unfold T62 at h
 split at h
 ·rename_i s
  obtain ⟨hc,hv⟩:=Tr.br1 h
  cases hv
  have hs:=D7 hc
  obtain ⟨f,b,hn⟩:=B0p hs
  obtain ⟨h1,h2⟩:=G0c hn
  obtain ⟨b1,b2⟩:=E8b s (0,1,false) 1 (C3y hn) (by decide) (by decide)
  have hlen:=hn.len
  have hp1:10 ^ (1+s.length)<=10 ^ 25:=Nat.pow_le_pow_right (by decide) (by omega)
  have b1:(woS s).1 < 10 ^ 25:=by show (s.foldl stepW (0,1,false)).1 < _; omega
  have b2:(woS s).2.1<=10 ^ 25:=by show (s.foldl stepW (0,1,false)).2.1<=_; omega
  have b3:0 < (woS s).2.1:=by rw [h2]; exact Nat.pow_pos (by decide)
  refine ⟨⟨.inr rfl,.inr rfl,.inr rfl,.inr rfl,.inr rfl,.inr rfl,.inr rfl,.inr rfl,trivial⟩,rfl,rfl,G0f,60,F4c hT hG,(G7x s).trans ?_⟩
  rw [A8 ⟨itoa0.symm,itoa_1.symm,rfl,rfl,hs⟩,E8,D8,D8,A8 ⟨C0x (k:=26) (by omega) (by decide) (by decide),C0x (k:=26) (by omega) (by decide) (by decide),by omega⟩,E8]
  unfold O6
  rw [if_neg (by rw [hs]; simp),hn.cut.1,hn.cut.2,h1,h2]
  rfl
 ·cases h
end Go.Proofs.Tryz
namespace Go.Proofs.Tryz
open Go.Ad
open Go.Lib (decDigits itoa nDigits decFrom digitVal)
theorem G9h (a:List UInt8):(C8 prog pV0 60).call 28 (spS1.rho [.s a]) (spS1.heap [.s a]) (O8 A1i 8 []) =
  brK (D9 a) (brK (A0s a != 0) (some [.s [],.i (A0s a)]) (brK (A9 (A0s a=0)) (some [.s (O6 a).1,.i 0]) none)) none:=by kernel_rfl
def pV1:Prims:=pV0.addh 28 (G8 8 (funQ spS1 8 [] T27))
theorem G4h {A:Amb} (hT:Tab A) (hG:prog.globals.size<=A.G):PrimOK prog A pV1:=by
 refine (E9d hT hG).addl gsz func28 (by kernel_rfl) (I6 D5 D6 rfl fun ls sq l h=>?_)
 unfold T27 at h
 split at h
 ·rename_i a
  obtain ⟨hc,hv⟩:=Tr.br1 h
  cases hv
  refine ⟨⟨.inr rfl,.inr rfl,.inr rfl,.inr rfl,.inr rfl,.inr rfl,.inr rfl,.inr rfl,trivial⟩,rfl,pV0,60,_,E9d hT hG,(G9h a).trans ?_,fun _ _=>.refl⟩
  rw [hc,E8]
  unfold O6
  by_cases h0:A0s a=0
  ·rw [if_neg (by simpa using h0),show (A0s a != 0)=false by simpa using h0,A8 h0]; rfl
  ·rw [if_pos h0,show (A0s a != 0)=true by simpa using h0]; rfl
 ·cases h
end Go.Proofs.Tryz
namespace Go.Proofs.Tryz
open Go.Ad
open Go.Lib (decDigits itoa nDigits decFrom digitVal)
def pN:Prims:=pQS.over pG0
theorem E1e {A:Amb} (hT:Tab A) (hG:prog.globals.size<=A.G):PrimOK prog A pN:=(F1f hT hG).over (F2q hT hG)
def F3j:Code:=f64.body.getD .skip
def C1y:Code:=I7 (J7 2 F3j)
def A6w (k:Int) (c:UInt8):SP:=⟨[.str]++dr 4++[.is (.str [c])]++dr 2++[.is (.slice (some (8,0)) 2 2),.is (.int .i64 2),.is (.int .i64 k)]++dr 26,dd8++[.cells [.is (.str [50]),.is (.str [53])] 1 true 90]⟩
abbrev E7k (a p:List UInt8):Option (AEx × List Lf) :=
 brK (A9 (C9 a=0/\C9 p=0/\A7 p ≠ 0/\C9 (itoa ((A7 a).fmod (A7 p)))=0)) (brK (!(itoa ((A7 a).fmod (A7 p)) == [48])) (some (.exit 2,[.s a]))
  (brK (A9 (C9 a=0/\C9 p=0/\A7 p ≠ 0/\C9 (itoa ((A7 a).fdiv (A7 p)))=0)) (some (.normal,[.s (itoa ((A7 a).fdiv (A7 p)))])) none)) none
theorem F2a (a:List UInt8):E9 prog (C8 prog pN 60) F7 C1y ((A6w 0 50).rho [.s a]) ((A6w 0 50).heap [.s a]) (H6 (fun _=>A6w 0 50) 9 [])=E7k a [50]:=by kernel_rfl
theorem F3t (a:List UInt8):E9 prog (C8 prog pN 60) F7 C1y ((A6w 1 53).rho [.s a]) ((A6w 1 53).heap [.s a]) (H6 (fun _=>A6w 1 53) 9 [])=E7k a [53]:=by kernel_rfl
theorem F5p {n q:Nat} {p:List UInt8} (hn:C9 (itoa (n:Int))=0) (hp:p=itoa (q:Int)) (hq:C9 p=0) (h2:2<=q) :
  E7k (itoa (n:Int)) p=if n % q=0 then some (.normal,[.s (itoa ((n / q:Nat):Int))]) else some (.exit 2,[.s (itoa (n:Int))]):=by
 have hd:A7 p=(q:Int):=by rw [hp,D8]
 have f1:(n:Int).fmod (q:Int)=((n % q:Nat):Int):=by rw [Int.fmod_eq_emod_of_nonneg _ (by omega)]; rfl
 have f2:(n:Int).fdiv (q:Int)=((n / q:Nat):Int):=by rw [Int.fdiv_eq_ediv_of_nonneg _ (by omega)]; rfl
 have l1:n % q<=n:=Nat.mod_le _ _
 have l2:n / q<=n:=Nat.div_le_self _ _
 unfold E7k
 rw [D8,hd,f1,f2,A8 ⟨hn,hq,by omega,Y6 hn (by rw [Int.natAbs_natCast,Int.natAbs_natCast]; exact l1)⟩,A8 ⟨hn,hq,by omega,Y6 hn (by rw [Int.natAbs_natCast,Int.natAbs_natCast]; exact l2)⟩,E8,Y0]
 by_cases h:n % q=0
 ·rw [if_pos h,dT (show ((n % q:Nat):Int)=0 by omega)]; rfl
 ·rw [if_neg h,dF (show ¬ ((n % q:Nat):Int)=0 by omega)]; rfl
def TFi (k:Int) (c:UInt8) (q:Nat):List Lf->Tr (AEx × SP × List Lf)
 | [.s a]=>.br (A9 (C9 a=0/\0 < A7 a)) (.leaf (.normal,A6w k c,[.s (itoa ((strip q (A7 a).toNat:Nat):Int))])) .fail
 | _=>.fail
def E8f:Blk:=fun ρ B=>match ρ.getD 10 .bad with
 | .int _ 0=>hookP (A6w 0 50) 9 [] (TFi 0 50 2) ρ B
 | _=>hookP (A6w 1 53) 9 [] (TFi 1 53 5) ρ B
theorem E6q {A:Amb} {k:Int} {c:UInt8} {q:Nat} {prims:Prims} (hp:PrimOK prog A prims) (h2:2<=q) (hc:[c]=itoa (q:Int)) (he:C9 [c]=0)
  (hr:∀ a:List UInt8,E9 prog (C8 prog prims 60) F7 C1y ((A6w k c).rho [.s a]) ((A6w k c).heap [.s a]) (H6 (fun _=>A6w k c) 9 [])=E7k a [c]) :
  ∀ ls e sq l,(TFi k c q ls).get=some (e,sq,l)->frP [] 0 ((A6w k c).heap ls) (sq.heap l)/\∀ Bb:Heap,Bb.length=9->SEB prog A Bb (.block 2 (.loop C1y)) ⟨(A6w k c).rho ls,(A6w k c).heap ls,[]⟩ e ⟨sq.rho l,sq.heap l,[]⟩:=fun ls e sq l h=>by
 unfold TFi at h
 split at h
 ·rename_i a
  obtain ⟨hcc,hv⟩:=Tr.br1 h
  cases hv
  obtain ⟨ha,h0⟩:=D7 hcc
  refine ⟨⟨.inr rfl,.inr rfl,.inr rfl,.inr rfl,.inr rfl,.inr rfl,.inr rfl,.inr rfl,.inr rfl,trivial⟩,fun Bb hB=>SEB.block_exit (id:=2) ?_⟩
  have ea:=X0 ha
  obtain ⟨n,hn⟩:∃ n:Nat,A7 a=n:=⟨(A7 a).toNat,by omega⟩
  rw [hn] at ea h0 ⊢
  subst ea
  rw [Int.toNat_natCast]
  refine SEB.while (fun n:Nat=>0 < n/\C9 (itoa (n:Int))=0) (fun n=>n) (fun n=>⟨(A6w k c).rho [.s (itoa (n:Int))],(A6w k c).heap [.s (itoa (n:Int))],[]⟩)
   (fun n=>(.exit 2,⟨(A6w k c).rho [.s (itoa ((strip q n:Nat):Int))],(A6w k c).heap [.s (itoa ((strip q n:Nat):Int))],[]⟩)) (fun n hn=>?_) n ⟨by omega,ha⟩
  obtain ⟨n0,n1⟩:=hn
  have hk:=(hr (itoa (n:Int))).trans (F5p n1 hc he h2)
  by_cases hm:n % q=0
  ·rw [if_pos hm] at hk
   left
   refine ⟨n / q,⟨A6q h2 n0 hm,Y6 n1 (by rw [Int.natAbs_natCast,Int.natAbs_natCast]; exact Nat.div_le_self _ _)⟩,B2s h2 n0,?_,SEB.of_KP (A:=A) (B0:=Bb) (e:=.normal) D5 D6 hp (.none _) hB hk rfl⟩
   simp only [B9q h2 n0 hm]
  ·rw [if_neg hm] at hk
   right
   refine ⟨by simp,?_⟩
   simp only [C3w hm]
   exact SEB.of_KP (A:=A) (B0:=Bb) (e:=.exit 2) D5 D6 hp (.none _) hB hk rfl
 ·cases h
theorem G2b:[50]=itoa ((2:Nat):Int):=by rw [A9n (by decide)]; rfl
theorem G4r:[53]=itoa ((5:Nat):Int):=by rw [A9n (by decide)]; rfl
theorem G5k:C9 [50]=0:=by decide
theorem G5q:C9 [53]=0:=by decide
def G3a:Prims:=pN.addb 64 2 E8f
theorem F5r {A:Amb} (hT:Tab A) (hG:prog.globals.size<=A.G):PrimOK prog A G3a:=by
 refine PrimOK.addb (E1e hT hG) func64 (show f64.body=some F3j by kernel_rfl) (body:=.loop C1y) (by kernel_rfl) fun ρ B e ρ' B' D h=>?_
 unfold E8f at h
 split at h
 ·exact M8 rfl (E6q (E1e hT hG) (by decide) G2b G5k F2a) ρ B e ρ' B' D h
 ·exact M8 rfl (E6q (E1e hT hG) (by decide) G4r G5q F3t) ρ B e ρ' B' D h
def G6f:SP:=⟨[.bool,.is (.int .i64 0)],dd8⟩
theorem G7l (a:List UInt8):(C8 prog G3a 60).call 64 (spS1.rho [.s a]) (spS1.heap [.s a]) (O8 G6f 8 []) =
  brK (A9 (C9 a=0/\0 < A7 a)) ((fun b:List UInt8=>brK (A9 (C9 b=0/\0 < A7 b)) (some [.b (itoa ((strip 5 (A7 b).toNat:Nat):Int) == [49])]) none) (itoa ((strip 2 (A7 a).toNat:Nat):Int))) none:=by kernel_rfl
def T64:List Lf->Tr (SP × List Lf)
 | [.s a]=>.br (A9 (C9 a=0/\0 < A7 a)) (.leaf (G6f,[.b (decide (strip 5 (strip 2 (A7 a).toNat)=1))])) .fail
 | _=>.fail
def pD1:Prims:=pN.addh 64 (G8 8 (funQ spS1 8 [] T64))
theorem E8l {A:Amb} (hT:Tab A) (hG:prog.globals.size<=A.G):PrimOK prog A pD1:=by
 refine (E1e hT hG).addl gsz func64 (by kernel_rfl) (I6 D5 D6 rfl fun ls sq l h=>?_)
 unfold T64 at h
 split at h
 ·rename_i a
  obtain ⟨hc,hv⟩:=Tr.br1 h
  cases hv
  obtain ⟨h1,h2⟩:=D7 hc
  refine ⟨⟨.inr rfl,.inr rfl,.inr rfl,.inr rfl,.inr rfl,.inr rfl,.inr rfl,.inr rfl,trivial⟩,rfl,G3a,60,_,F5r hT hG,(G7l a).trans ?_,fun _ _=>.refl⟩
  have ea:=X0 h1
  obtain ⟨n,hn⟩:∃ n:Nat,A7 a=n:=⟨(A7 a).toNat,by omega⟩
  rw [hn] at h2 ea ⊢
  subst ea
  obtain ⟨s1,s2,_⟩:=B5g (p:=2) (by decide) n (by omega)
  have e2:=Y6 (B:=(strip 2 n:Nat)) h1 (by rw [Int.natAbs_natCast,Int.natAbs_natCast]; exact s2)
  dsimp only
  rw [A8 ⟨h1,h2⟩,E8,Int.toNat_natCast,D8,A8 ⟨e2,by omega⟩,E8,Int.toNat_natCast]
  have hg:(itoa ((strip 5 (strip 2 n):Nat):Int) == [49])=decide (strip 5 (strip 2 n)=1):=by
   by_cases hx:strip 5 (strip 2 n)=1
   ·rw [dT hx,hx]
    show (itoa 1 == [49])=true
    rw [itoa_1]; rfl
   ·rw [dF hx,beq_eq_false_iff_ne]
    intro e
    rw [<- itoa_1] at e
    have:=A8v e
    omega
  rw [hg]
 ·cases h
end Go.Proofs.Tryz
