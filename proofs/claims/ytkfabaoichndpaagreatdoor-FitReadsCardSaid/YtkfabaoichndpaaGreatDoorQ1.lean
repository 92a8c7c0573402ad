/- The reference's quotients: slash, Split. -/
import Derived.Test.YtkfabaoichndpaaGreatDoorR3
import Derived.Test.YtkfabaoichndpaaGreatDoorVal1
import Derived.Test.YtkfabaoichndpaaGreatDoorAdRat
noncomputable section
namespace Go.Proofs.Tryz
open Go.Ad
open Go.Lib (decDigits itoa nDigits)
def F2y:Code:=f130.body.getD .skip
def B8r:Code:=J3 (K6 0 F2y)
def spSl:SP:=⟨[.str]++dr 1++[.is (.int .i64 0),.int .i64]++dr 11,dd8⟩
def spSlR:SP:=⟨dr 2++[.int .i64]++dr 12,dd8⟩
def H0v:AEx->SP
 | .ret=>spSlR
 | _=>spSl
theorem F4a (s:List UInt8) (i:Int):F3 prog (C9 prog lib2 60) F8 B8r (spSl.rho [.s s,.i i]) (spSl.heap [.s s,.i i]) (H5 H0v 8 []) =
  brK (decide (i < (s.length:Int))) (brK (decide (0<=i/\i < (s.length:Int))) (brK (((s.getD i.toNat 0).toNat:Int) == 47) (some (.ret,[.i i])) (some (.normal,[.s s,.i (W (i+1))]))) none) (some (.exit 0,[.s s,.i i])):=by kernel_rfl
def pSl (s:List UInt8) (n:Nat):Bool:=!((((s.getD n 0).toNat:Int)) == 47)
theorem E4g (s:List UInt8) (n:Nat) (hs:s.length < 2 ^ 62):F3 prog (C9 prog lib2 60) F8 B8r (spSl.rho [.s s,.i n]) (spSl.heap [.s s,.i n]) (H5 H0v 8 []) =
  if n < s.length then (bif pSl s n then some (.normal,[.s s,.i ((n+1:Nat):Int)]) else some (.ret,[.i n])) else some (.exit 0,[.s s,.i n]):=by
 rw [F4a]
 by_cases h:n < s.length
 ·rw [if_pos h,dT (show (n:Int) < (s.length:Int) by omega),dT (show 0<=(n:Int)/\(n:Int) < (s.length:Int) by omega),Int.toNat_natCast,R4 (by omega) (by omega)]
  unfold pSl
  cases ((((s.getD n 0).toNat:Int)) == 47) <;> rfl
 ·rw [if_neg h,dF (show ¬ (n:Int) < (s.length:Int) by omega)]; rfl
theorem E9a (s:List UInt8):(Lib.indexByte s 47=-1/\N8 (pSl s) (s.length - 0) 0=s.length) \/ (∃ i:Nat,i < s.length/\Lib.indexByte s 47=i/\N8 (pSl s) (s.length - 0) 0=i):=by
 have hne:∀ b:UInt8,b ≠ 47->(!((b.toNat:Int) == 47))=true:=fun b hb=>by
  have h2:b.toNat ≠ 47:=fun e=>hb (UInt8.toNat_inj.1 e)
  rw [show ((b.toNat:Int) == 47)=false by rw [beq_eq_false_iff_ne]; omega]; rfl
 rcases V4 47 s with ⟨e1,e2⟩ | ⟨i,e0,e1,e2⟩
 ·left
  refine ⟨e1,A6u (Nat.zero_le _) (by omega) (fun j _ hj=>?_) (fun h=>by omega)⟩
  have hm:=F1x.1 e2
  refine hne _ fun e=>hm ?_
  rw [<- e,List.getD_eq_getElem?_getD,List.getElem?_eq_getElem hj]
  exact List.getElem_mem hj
 ·right
  obtain ⟨h1,h2⟩:=A7i e2
  refine ⟨i,e0,e1,A6u (Nat.zero_le _) (by omega) (fun j _ hj=>?_) (fun _=>?_)⟩
  ·refine hne _ fun e=>h2 ?_
   have hj2:j < (s.take i).length:=by rw [List.length_take]; omega
   have:s.getD j 0=(s.take i)[j]:=by
    rw [List.getD_eq_getElem?_getD,List.getElem?_eq_getElem (by omega),Option.getD_some,List.getElem_take]
   rw [<- e,this]
   exact List.getElem_mem hj2
  ·unfold pSl
   have hl:(s.take i).length=i:=by rw [List.length_take]; omega
   have:s.getD i 0=47:=by
    rw [h1,List.getD_eq_getElem?_getD,List.getElem?_append_right (by omega),hl,Nat.sub_self]; rfl
   rw [this]; rfl
def G3i:Blk:=hookP spSl 8 [] fun
 | [.s s,.i i]=>.br (A9 (i=0) && F4 s) (.br (decide (Lib.indexByte s 47 < 0)) (.leaf (.normal,spSl,[.s s,.i s.length])) (.leaf (.ret,spSlR,[.i (Lib.indexByte s 47)]))) .fail
 | _=>.fail
def G5t:Prims:=pVal4.addb 130 0 G3i
section
variable {A:Amb} (hT:Tab A) (hG:gN prog<=A.G)
include hT hG
theorem F6k:PrimOK prog A G5t:=by
 have hp:=I8 hT
 refine PrimOK.addbP (B8n hT hG) func130 (show f130.body=some F2y by kernel_rfl) (body:=.loop B8r) (by kernel_rfl) (by kernel_rfl) fun ls e sq l h=>?_
 split at h
 ·rename_i s i
  obtain ⟨hc,hv⟩:=Tr.br1 h
  rw [Bool.and_eq_true] at hc
  have hi:=D9 hc.1
  have hs:s.length < 2 ^ 62:=of_decide_eq_true hc.2
  subst hi
  have key:∀ Bb:Heap,Bb.length=8->SEB prog A Bb (.loop B8r) ⟨spSl.rho [.s s,.i 0],spSl.heap [.s s,.i 0],[]⟩ (if N8 (pSl s) (s.length - 0) 0 < s.length then .ret else .exit 0)
    (if N8 (pSl s) (s.length - 0) 0 < s.length then ⟨spSlR.rho [.i (N8 (pSl s) (s.length - 0) 0:Nat)],spSlR.heap [.i (N8 (pSl s) (s.length - 0) 0:Nat)],[]⟩ else ⟨spSl.rho [.s s,.i (N8 (pSl s) (s.length - 0) 0:Nat)],spSl.heap [.s s,.i (N8 (pSl s) (s.length - 0) 0:Nat)],[]⟩):=fun Bb hB =>
   SEB.scan (A:=A) (B0:=Bb) (c:=B8r) (S:=fun n=>⟨spSl.rho [.s s,.i (n:Nat)],spSl.heap [.s s,.i (n:Nat)],[]⟩) (E:=fun n=>if n < s.length then ⟨spSlR.rho [.i (n:Nat)],spSlR.heap [.i (n:Nat)],[]⟩ else ⟨spSl.rho [.s s,.i (n:Nat)],spSl.heap [.s s,.i (n:Nat)],[]⟩)
    (e:=fun n=>if n < s.length then .ret else .exit 0) (p:=pSl s) (N:=s.length) (fun n=>by by_cases h:n < s.length <;> simp [h])
    (fun n hn hp1=>by
     have hk:=E4g s n hs
     rw [if_pos hn,hp1,cond_true] at hk
     exact SEB.of_KP (A:=A) (B0:=Bb) (e:=.normal) D6 D7 hp (.none _) hB hk rfl)
    (fun n hn hp1=>by
     have hk:=E4g s n hs
     by_cases hlt:n < s.length
     ·rw [if_pos hlt,hp1 hlt,cond_false] at hk
      simp only [if_pos hlt]
      exact SEB.of_KP (A:=A) (B0:=Bb) (e:=.ret) D6 D7 hp (.none _) hB hk rfl
     ·rw [if_neg hlt] at hk
      simp only [if_neg hlt]
      exact SEB.of_KP (A:=A) (B0:=Bb) (e:=.exit 0) D6 D7 hp (.none _) hB hk rfl) 0 (Nat.zero_le _)
  rcases E9a s with ⟨e1,e2⟩ | ⟨i,e0,e1,e2⟩
  ·rw [e1,dT (show (-1:Int) < 0 by omega)] at hv
   cases hv
   refine ⟨⟨.inr rfl,.inr rfl,.inr rfl,.inr rfl,.inr rfl,.inr rfl,.inr rfl,.inr rfl,trivial⟩,fun Bb hB=>SEB.block_exit (id:=0) ?_⟩
   have:=key Bb hB
   rw [if_neg (by omega),if_neg (by omega),e2] at this
   exact this
  ·rw [e1,dF (show ¬ ((i:Nat):Int) < 0 by omega)] at hv
   cases hv
   refine ⟨⟨.inr rfl,.inr rfl,.inr rfl,.inr rfl,.inr rfl,.inr rfl,.inr rfl,.inr rfl,trivial⟩,fun Bb hB=>SEB.block_other (id:=0) ?_ (by simp)⟩
   have:=key Bb hB
   rw [if_pos (by omega),if_pos (by omega),e2] at this
   exact this
 ·cases h
end
theorem G7y (a:List UInt8):(C9 prog G5t 60).call 130 [.sstr a] (Bg 8) G9 =
  brK (A9 ((0:Int)=0) && F4 a) (brK (decide (Lib.indexByte a 47 < 0)) (some (.int .i64 (-1))) (some (.sint .i64 (Lib.indexByte a 47)))) none:=by kernel_rfl
def T94:List Lf->Tr AV
 | [.s a]=>.br (F4 a) (.leaf (.sint .i64 (Lib.indexByte a 47))) .fail
 | _=>.fail
def pQ0:Prims:=pVal4.addt 130 (gP [.str] T94)
theorem F2k {A:Amb} (hT:Tab A) (hG:gN prog<=A.G):PrimOK prog A pQ0:=by
 refine PrimOK.addP D6 D7 (F6k hT hG) (B8n hT hG) hG func130 (by kernel_rfl) fun ls v h=>?_
 unfold T94 at h
 split at h
 ·rename_i a
  obtain ⟨hc,hv⟩:=Tr.br1 h
  cases hv
  have hr:=G7y a
  rw [hc,A8 rfl] at hr
  rcases V4 47 a with ⟨e1,e2⟩ | ⟨i,e0,e1,e2⟩
  ·rw [e1] at hr ⊢
   exact ⟨rfl,60,.int .i64 (-1),by rw [gsz]; exact hr,rfl,fun ι x h=>Q4 rfl x h⟩
  ·rw [e1,dF (show ¬ ((i:Nat):Int) < 0 by omega)] at hr
   rw [e1]
   exact ⟨rfl,60,_,by rw [gsz]; exact hr,rfl,fun ι x h=>h⟩
 ·cases h
theorem G9j (a:List UInt8):(C9 prog pQ0 60).call 84 (spS1.rho [.s a]) (spS1.heap [.s a]) (V7 spSS 8 []) =
  brK (F4 a) (brK (decide (Lib.indexByte a 47 < 0)) (some [.s a,.s [49]]) (brK (decide (0<=Lib.indexByte a 47/\Lib.indexByte a 47<=(a.length:Int)) && true) (brK (true && decide (0<=W (Lib.indexByte a 47+1)/\W (Lib.indexByte a 47+1)<=(a.length:Int)))
   (some [.s ((a.take (Lib.indexByte a 47).toNat).drop 0),.s ((a.take a.length).drop (W (Lib.indexByte a 47+1)).toNat)]) none) none)) none:=by kernel_rfl
def T57:List Lf->Tr (SP × List Lf)
 | [.s a]=>.br (F4 a) (.leaf (spSS,[.s (F9 a).1,.s (F9 a).2.1])) .fail
 | _=>.fail
def pQ1:Prims:=pQ0.addh 84 (H9 8 (funQ spS1 8 [] T57))
theorem G0w {A:Amb} (hT:Tab A) (hG:gN prog<=A.G):PrimOK prog A pQ1:=by
 refine (F2k hT hG).addl gsz func84 (by kernel_rfl) (J7 D6 D7 rfl fun ls sq l h=>?_)
 unfold T57 at h
 split at h
 ·rename_i a
  obtain ⟨hc,hv⟩:=Tr.br1 h
  cases hv
  refine ⟨⟨.inr rfl,.inr rfl,.inr rfl,.inr rfl,.inr rfl,.inr rfl,.inr rfl,.inr rfl,trivial⟩,rfl,pQ0,60,_,F2k hT hG,(G9j a).trans ?_,fun _ _=>.refl⟩
  have hsz:a.length < 2 ^ 62:=of_decide_eq_true hc
  rw [hc,E5]
  unfold F9
  rcases V4 47 a with ⟨e1,e2⟩ | ⟨i,e0,e1,e2⟩
  ·rw [e1,e2]; rfl
  ·have e3:W ((i:Int)+1)=((i+1:Nat):Int):=by rw [R4 (by omega) (by omega)]; omega
   rw [e1,e2,e3,dF (show ¬ (i:Int) < 0 by omega),dT (show 0<=(i:Int)/\(i:Int)<=(a.length:Int) by omega),dT (show 0<=((i+1:Nat):Int)/\((i+1:Nat):Int)<=(a.length:Int) by omega),
    Int.toNat_natCast,Int.toNat_natCast,List.take_length,List.drop_zero]
   rfl
 ·cases h
abbrev pQS:Prims:=pQ1
theorem E4m {A:Amb} (hT:Tab A) (hG:gN prog<=A.G):PrimOK prog A pQS:=G0w hT hG
end Go.Proofs.Tryz
namespace Go.Proofs.Tryz
open Go.Ad
open Go.Lib (decDigits itoa nDigits)
def pQ1r:Prims:=pR19.over pQS
theorem D6u {A:Amb} (hT:Tab A) (hG:gN prog<=A.G):PrimOK prog A pQ1r:=(F3j hT hG).over (E4m hT hG)
abbrev ckQ (a n d:List UInt8):Option (List Lf) :=
 brK (F4 n) (brK (D5 n == 3) (some [.i 3]) (brK (F4 d) (brK (D5 d == 3) (some [.i 3]) (brK (F4 n) (brK (D5 n != 0) (some [.i 11]) (brK (F4 d) (brK (D5 d != 0) (some [.i 11])
  (brK (F4 a) (brK (decide (Lib.indexByte a 47 >= 0)) (brK (A9 (A2y d/\A2y [49])) (brK (decide (K7 (A7 d - A7 [49])<=0)) (some [.i 3]) (brK (A9 (M0 n/\M0 d))
   (brK (!(itoa ((Int.gcd (A7 n) (A7 d):Nat):Int) == [49])) (some [.i 3]) (some [.i 0])) none)) none) (some [.i 0])) none)) none)) none)) none)) none
theorem G7e (a:List UInt8):(C9 prog pQ1r 60).call 81 (spS1.rho [.s a]) (spS1.heap [.s a]) (A1j spI 8 [])=brK (F4 a) (ckQ a (F9 a).1 (F9 a).2.1) none:=by kernel_rfl
theorem R7 {a:List UInt8} (h:D5 a=0):M0 a:=by
 have e:=O0 h
 have h2:D5 (itoa (A7 a))=0:=by rw [<- e]; exact h
 have:=A8l h2
 rw [<- e] at this
 exact ⟨e,by omega⟩
theorem E3s (a:List UInt8):decide (Lib.indexByte a 47 >= 0)=(F9 a).2.2:=by
 unfold F9
 rcases V4 47 a with ⟨e1,e2⟩ | ⟨i,e0,e1,e2⟩
 ·rw [e1,e2]; rfl
 ·rw [e1,e2,dT (by omega)]
theorem G1q {a:List UInt8} (h:a.length < 2 ^ 61):ckQ a (F9 a).1 (F9 a).2.1=some [.i (A0e a)]:=by
 obtain ⟨s1,s2⟩:=D8u h
 have s0:F4 a=true:=dT (by omega)
 unfold ckQ
 rw [E3s,s0]
 unfold A0e
 generalize (F9 a).1=n at *
 generalize (F9 a).2.1=d at *
 generalize (F9 a).2.2=w at *
 rw [s1,s2,E5,E5,E5,E5,E5]
 by_cases h1:D5 n=3
 ·rw [if_pos (show D5 n=3 \/ D5 d=3 from .inl h1),show (D5 n == 3)=true by simpa using h1]; rfl
 ·rw [show (D5 n == 3)=false by simpa using h1,I4]
  by_cases h2:D5 d=3
  ·rw [if_pos (show D5 n=3 \/ D5 d=3 from .inr h2),show (D5 d == 3)=true by simpa using h2]; rfl
  ·rw [if_neg (show ¬ (D5 n=3 \/ D5 d=3) by rw [not_or]; exact ⟨h1,h2⟩),show (D5 d == 3)=false by simpa using h2,I4]
   by_cases h3:D5 n=0
   ·rw [show (D5 n != 0)=false by simpa using h3,I4]
    by_cases h4:D5 d=0
    ·rw [if_neg (show ¬ (D5 n ≠ 0 \/ D5 d ≠ 0) by rw [not_or]; exact ⟨by simpa using h3,by simpa using h4⟩),show (D5 d != 0)=false by simpa using h4,I4]
     cases w with
     | false=>rfl
     | true =>
      have z1:=R7 h3
      have z2:=R7 h4
      rw [E5,A8 ⟨Y5 z2,Y5 (R7 C1t)⟩,A8 ⟨z1,z2⟩,E5,show A7 [49]=1 from rfl]
      have hg:∀ x:Int,(itoa x == [49])=decide (x=1):=fun x=>by
       by_cases hx:x=1
       ·rw [dT hx,hx,itoa_1]; rfl
       ·rw [dF hx,beq_eq_false_iff_ne]
        intro e
        rw [<- itoa_1] at e
        exact hx (A5n e)
      rw [hg]
      by_cases h5:1 < A7 d
      ·have h6:K7 (A7 d - 1)=1:=by unfold K7; rw [if_neg (by omega),if_neg (by omega)]
       rw [h6]
       by_cases h7:Int.gcd (A7 n) (A7 d)=1
       ·rw [dT (show ((Int.gcd (A7 n) (A7 d):Nat):Int)=1 by omega),if_neg (by simp [h5,h7])]; rfl
       ·rw [dF (show ¬ ((Int.gcd (A7 n) (A7 d):Nat):Int)=1 by omega),if_pos (by simp [h7])]; rfl
      ·have h6:decide (K7 (A7 d - 1)<=0)=true:=by
        refine dT ?_
        unfold K7
        by_cases h8:A7 d - 1=0
        ·rw [if_pos h8]; omega
        ·rw [if_neg h8,if_pos (by omega)]; omega
       rw [h6,if_pos (by simp [h5])]; rfl
    ·rw [if_pos (show D5 n ≠ 0 \/ D5 d ≠ 0 from .inr h4),show (D5 d != 0)=true by simpa using h4]; rfl
   ·rw [if_pos (show D5 n ≠ 0 \/ D5 d ≠ 0 from .inl h3),show (D5 n != 0)=true by simpa using h3]; rfl
def T69:List Lf->Tr (SP × List Lf)
 | [.s a]=>.br (szH a) (.leaf (spI,[.i (A0e a)])) .fail
 | _=>.fail
def pQ2:Prims:=pQ1r.addh 81 (H9 8 (funP spS1 8 [] T69))
theorem E5o {A:Amb} (hT:Tab A) (hG:gN prog<=A.G):PrimOK prog A pQ2:=by
 refine (D6u hT hG).addl gsz func81 (by kernel_rfl) (L8 D6 D7 rfl fun ls sq l h=>?_)
 unfold T69 at h
 split at h
 ·rename_i a
  obtain ⟨hc,hv⟩:=Tr.br1 h
  cases hv
  refine ⟨⟨.inr rfl,.inr rfl,.inr rfl,.inr rfl,.inr rfl,.inr rfl,.inr rfl,.inr rfl,trivial⟩,rfl,rfl,pQ1r,60,D6u hT hG,(G7e a).trans ?_⟩
  rw [B1j hc,E5]
  exact G1q (of_decide_eq_true hc)
 ·cases h
theorem H0n (a:List UInt8):(C9 prog pQ2 60).call 82 (spS1.rho [.s a]) (spS1.heap [.s a]) (A1j spI 8 [])=brK (F4 a) (brK (A9 (A2y (F9 a).1/\A2y [48])) (some [.i (K7 (A7 (F9 a).1 - A7 [48]))]) none) none:=by kernel_rfl
def T70:List Lf->Tr (SP × List Lf)
 | [.s a]=>.br (A9 (F4 a=true/\A2y (F9 a).1)) (.leaf (spI,[.i (K7 (A7 (F9 a).1))])) .fail
 | _=>.fail
theorem D9p:D5 [48]=0:=by have:=F1q; rwa [itoa0] at this
def pQ3:Prims:=pQ2.addh 82 (H9 8 (funP spS1 8 [] T70))
theorem F1y {A:Amb} (hT:Tab A) (hG:gN prog<=A.G):PrimOK prog A pQ3:=by
 refine (E5o hT hG).addl gsz func82 (by kernel_rfl) (L8 D6 D7 rfl fun ls sq l h=>?_)
 unfold T70 at h
 split at h
 ·rename_i a
  obtain ⟨hc,hv⟩:=Tr.br1 h
  cases hv
  obtain ⟨h1,h2⟩:=D9 hc
  refine ⟨⟨.inr rfl,.inr rfl,.inr rfl,.inr rfl,.inr rfl,.inr rfl,.inr rfl,.inr rfl,trivial⟩,rfl,rfl,pQ2,60,E5o hT hG,(H0n a).trans ?_⟩
  rw [h1,E5,A8 ⟨h2,Y5 (R7 D9p)⟩,E5,show A7 [48]=0 from rfl,Int.sub_zero]
 ·cases h
abbrev F7o (n d:List UInt8):Option (List Lf) :=
 brK (d == [49]) (some [.s n]) (brK (decide (n.length+1 < 4611686018427387904)) (brK (decide ((n++[47]).length+d.length < 4611686018427387904)) (some [.s (n++[47]++d)]) none) none)
abbrev F7j (a b g:List UInt8):Option (List Lf) :=
 brK (A9 (M0 a/\M0 g/\¬ A7 g=0)) (brK (A9 (M0 b/\M0 g/\¬ A7 g=0)) (F7o (itoa ((A7 a).fdiv (A7 g))) (itoa ((A7 b).fdiv (A7 g)))) none) none
abbrev G1i (a b g:List UInt8):Option (List Lf) :=
 brK (A9 (isZ b)) (brK (decide (A7 b < 0)) (brK (A9 (zOK g)) (F7j a b (itoa (-A7 g))) none) (F7j a b g)) none
theorem G0n (a b:List UInt8):(C9 prog pQ3 60).call 87 (spSS.rho [.s a,.s b]) (spSS.heap [.s a,.s b]) (A1j spS1 8 []) =
  brK (A9 (M0 a/\M0 b)) (G1i a b (itoa (Int.gcd (A7 a) (A7 b):Nat))) none:=by kernel_rfl
theorem D1a {A G:Int} (hd:G ∣ A) (h0:G ≠ 0):(A.fdiv G).natAbs<=A.natAbs:=by
 obtain ⟨q,rfl⟩:=hd
 rw [Int.mul_fdiv_cancel_left _ h0,Int.natAbs_mul]
 have:1<=G.natAbs:=by omega
 exact Nat.le_mul_of_pos_left _ this
theorem C4s {A B:Int} (h:A.natAbs<=B.natAbs):(itoa A).length<=(itoa B).length+1:=by
 have h1:=A3z A
 have h2:=Q3 h
 have h3:(decDigits B.natAbs).length<=(itoa B).length:=by
  have:=A8o B
  by_cases hb:B < 0
  ·rw [if_pos hb] at this
   rw [<- this,List.length_drop]; omega
  ·rw [if_neg hb] at this
   rw [this]; exact Nat.le_refl _
 omega
theorem D7a {a b:List UInt8} {G:Int} (ha:M0 a) (hb:M0 b) (h0:G ≠ 0) (h1:G ∣ A7 a) (h2:G ∣ A7 b) (hg:M0 (itoa G)):F7j a b (itoa G)=some [.s (Z9 ((A7 a).fdiv G) ((A7 b).fdiv G))]:=by
 have l1:=C4s (D1a h1 h0)
 have l2:=C4s (D1a h2 h0)
 have e1:itoa (A7 a)=a:=ha.1.symm
 have e2:itoa (A7 b)=b:=hb.1.symm
 rw [e1] at l1
 rw [e2] at l2
 have la:=ha.2
 have lb:=hb.2
 unfold F7j F7o Z9
 rw [C8,A8 ⟨ha,hg,h0⟩,A8 ⟨hb,hg,h0⟩,E5,E5]
 generalize itoa ((A7 a).fdiv G)=n at *
 generalize itoa ((A7 b).fdiv G)=d at *
 cases d == [49] with
 | true=>rfl
 | false =>
  have e3:(n++[47]).length+d.length < 4611686018427387904:=by rw [List.length_append]; simp only [List.length_cons,List.length_nil]; omega
  rw [dT (show n.length+1 < 4611686018427387904 by omega),dT e3]
  rfl
theorem F6h {a b:List UInt8} (ha:M0 a) (hb:M0 b) (h0:A7 b ≠ 0):G1i a b (itoa (Int.gcd (A7 a) (A7 b):Nat))=some [.s (R3 (A7 a) (A7 b))]:=by
 have hn:=E4p (A:=A7 a) h0
 have hd1:((Int.gcd (A7 a) (A7 b):Nat):Int) ∣ A7 a:=Int.gcd_dvd_left ..
 have hd2:((Int.gcd (A7 a) (A7 b):Nat):Int) ∣ A7 b:=Int.gcd_dvd_right ..
 have hle:Int.gcd (A7 a) (A7 b)<=(A7 b).natAbs:=by
  have:=Int.natAbs_dvd_natAbs.2 hd2
  rw [Int.natAbs_natCast] at this
  exact Nat.le_of_dvd (by omega) this
 have e2:itoa (A7 b)=b:=hb.1.symm
 have lb:=hb.2
 have lg:(itoa ((Int.gcd (A7 a) (A7 b):Nat):Int)).length<=b.length:=by
  have h1:=Q3 hle
  rw [A0t]
  have h3:=A1l hb.1
  have h4:=(A0v b).1
  rw [h3,A0t] at h4
  omega
 unfold G1i R3 sgG
 rw [A8 hb.1,E5,C8]
 by_cases h:A7 b < 0
 ·rw [dT h,E5,if_pos h,A8 ⟨I7 _,by omega⟩,E5]
  refine D7a ha hb (by omega) (Int.neg_dvd.2 hd1) (Int.neg_dvd.2 hd2) ⟨I7 _,?_⟩
  have hl:(itoa (-((Int.gcd (A7 a) (A7 b):Nat):Int))).length=(decDigits (Int.gcd (A7 a) (A7 b))).length+1:=by
   unfold itoa
   rw [if_pos (by omega),List.length_cons,Int.natAbs_neg,Int.natAbs_natCast]
  rw [A0t] at lg
  have hb1:b.length=(decDigits (A7 b).natAbs).length+1:=by
   conv=>lhs; rw [<- e2]
   unfold itoa
   rw [if_pos h,List.length_cons]
  have:=Q3 hle
  omega
 ·rw [dF h,I4,if_neg h]
  exact D7a ha hb hn hd1 hd2 ⟨I7 _,by omega⟩
def H0w:List Lf->Tr (SP × List Lf)
 | [.s a,.s b]=>.br (A9 (M0 a/\M0 b/\A7 b ≠ 0)) (.leaf (spS1,[.s (R3 (A7 a) (A7 b))])) .fail
 | _=>.fail
def pQ4:Prims:=pQ3.addh 87 (H9 8 (funP spSS 8 [] H0w))
theorem E9d {A:Amb} (hT:Tab A) (hG:gN prog<=A.G):PrimOK prog A pQ4:=by
 refine (F1y hT hG).addl gsz func87 (by kernel_rfl) (L8 D6 D7 rfl fun ls sq l h=>?_)
 unfold H0w at h
 split at h
 ·rename_i a b
  obtain ⟨hc,hv⟩:=Tr.br1 h
  cases hv
  obtain ⟨ha,hb,h0⟩:=D9 hc
  refine ⟨⟨.inr rfl,.inr rfl,.inr rfl,.inr rfl,.inr rfl,.inr rfl,.inr rfl,.inr rfl,trivial⟩,rfl,rfl,pQ3,60,F1y hT hG,(G0n a b).trans ?_⟩
  rw [A8 ⟨ha,hb⟩,E5]
  exact F6h ha hb h0
 ·cases h
end Go.Proofs.Tryz
namespace Go.Proofs.Tryz
open Go.Ad
open Go.Lib (decDigits itoa nDigits)
theorem B7p {a:List UInt8} (h:A0e a=0):D5 (F9 a).1=0/\D5 (F9 a).2.1=0/\1<=A7 (F9 a).2.1/\Int.gcd (A7 (F9 a).1) (A7 (F9 a).2.1)=1:=by
 unfold A0e at h
 split at h
 ·cases h
 ·split at h
  ·cases h
  ·rename_i h1 h2
   split at h
   ·cases h
   ·rename_i h3
    rw [not_or] at h1 h2
    have e1:D5 (F9 a).1=0:=Decidable.not_not.1 h2.1
    have e2:D5 (F9 a).2.1=0:=Decidable.not_not.1 h2.2
    refine ⟨e1,e2,?_⟩
    cases hw:(F9 a).2.2 with
    | true =>
     have h4:1 < A7 (F9 a).2.1/\Int.gcd (A7 (F9 a).1) (A7 (F9 a).2.1)=1:=by
      by_cases hc:1 < A7 (F9 a).2.1/\Int.gcd (A7 (F9 a).1) (A7 (F9 a).2.1)=1
      ·exact hc
      ·exact (h3 ⟨hw,hc⟩).elim
     exact ⟨by omega,h4.2⟩
    | false =>
     have:(F9 a).2.1=[49]:=by
      unfold F9 at hw ⊢
      cases hc:cutAt 47 a with
      | none=>rfl
      | some p=>rw [hc] at hw; cases hw
     rw [this,show A7 [49]=1 from rfl]
     exact ⟨by omega,by rw [Int.gcd_one]⟩
theorem B3m (n:Int):(47:UInt8) ∉ itoa n:=fun hm=>by
 unfold itoa at hm
 have hd:∀ U:Nat,(47:UInt8) ∉ decDigits U:=fun U hm=>by
  have:=A0u U 47 hm
  exact absurd this.1 (by decide)
 split at hm
 ·cases hm with
  | tail _ hm=>exact hd _ hm
 ·exact hd _ hm
theorem A1u (N D:Int):(F9 (Z9 N D)).1=itoa N/\(F9 (Z9 N D)).2.1=itoa D:=by
 unfold Z9
 cases h:itoa D == [49] with
 | true =>
  have h:itoa D=[49]:=by simpa using h
  unfold F9
  rw [cond_true,X8 (B3m N),h]
  exact ⟨rfl,rfl⟩
 | false =>
  unfold F9
  rw [cond_false,List.append_assoc,show itoa N++([47]++itoa D)=itoa N++47 :: itoa D from rfl,A5s (B3m N)]
  exact ⟨rfl,rfl⟩
theorem G4n {N D:Int} (h:Int.gcd N D=1) (h0:0<=D):R3 N D=Z9 N D:=by
 unfold R3 sgG
 rw [if_neg (by omega),h]
 show Z9 (N.fdiv 1) (D.fdiv 1)=_
 rw [Int.fdiv_one,Int.fdiv_one]
abbrev E4z (n q:List UInt8):Option (List Lf) :=
 brK (A9 (zOK [48]/\zOK q)) (brK (A9 (zOK n/\zOK [49])) (brK (A9 (zOK [49]/\zOK q)) (brK (A9 (zOK [48]/\zOK n)) (brK (A9 (zOK [49]/\zOK n))
  (brK (A9 (A2y (itoa (A7 [48]*A7 q))/\A2y (itoa (A7 n*A7 [49]))))
   (brK (A9 (M0 (itoa (A7 (itoa (A7 [48]*A7 q)) - A7 (itoa (A7 n*A7 [49]))))/\M0 (itoa (A7 [49]*A7 q))/\¬ A7 (itoa (A7 [49]*A7 q))=0))
    (some [.s (R3 (A7 (itoa (A7 (itoa (A7 [48]*A7 q)) - A7 (itoa (A7 n*A7 [49]))))) (A7 (itoa (A7 [49]*A7 q))))]) none) none) none) none) none) none) none
theorem G7j (a:List UInt8):(C9 prog pQ4 60).call 83 (spS1.rho [.s a]) (spS1.heap [.s a]) (A1j spS1 8 [])=brK (F4 a) (E4z (F9 a).1 (F9 a).2.1) none:=by kernel_rfl
theorem A2f {a:List UInt8} (h:D5 a=0):zOK a:=A3f (Y5 (R7 h))
theorem B9w {a:List UInt8} (h:D5 a=0):D5 (itoa (-A7 a))=0:=by
 have e:=O0 h
 refine Y7 (A:=A7 a) (by rw [<- e]; exact h) (by rw [Int.natAbs_neg]; exact Nat.le_refl _)
theorem F1z {n q:List UInt8} (hn:D5 n=0) (hq:D5 q=0) (h0:A7 q ≠ 0):E4z n q=some [.s (R3 (-A7 n) (A7 q))]:=by
 have e1:D5 [48]=0:=D9p
 unfold E4z
 rw [show A7 [48]=0 from rfl,show A7 [49]=1 from rfl,Int.zero_mul,Int.mul_one,Int.one_mul,C8,C8,C8,C8,Int.zero_sub,itoa0,<- O0 hn,<- O0 hq,
  A8 ⟨A2f e1,A2f hq⟩,A8 ⟨A2f hn,A2f C1t⟩,A8 ⟨A2f C1t,A2f hq⟩,A8 ⟨A2f e1,A2f hn⟩,A8 ⟨A2f C1t,A2f hn⟩,
  A8 ⟨Y5 (R7 e1),Y5 (R7 hn)⟩,A8 ⟨R7 (B9w hn),R7 hq,h0⟩]
 rfl
def T71:List Lf->Tr (SP × List Lf)
 | [.s a]=>.br (A9 (A0e a=0/\szH a=true)) (.leaf (spS1,[.s (Z9 (-A7 (F9 a).1) (A7 (F9 a).2.1))])) .fail
 | _=>.fail
def pQ6:Prims:=pQ4.addh 83 (H9 8 (funP spS1 8 [] T71))
theorem E6x {A:Amb} (hT:Tab A) (hG:gN prog<=A.G):PrimOK prog A pQ6:=by
 refine (E9d hT hG).addl gsz func83 (by kernel_rfl) (L8 D6 D7 rfl fun ls sq l h=>?_)
 unfold T71 at h
 split at h
 ·rename_i a
  obtain ⟨hc,hv⟩:=Tr.br1 h
  cases hv
  obtain ⟨h1,h2⟩:=D9 hc
  obtain ⟨e1,e2,e3,e4⟩:=B7p h1
  refine ⟨⟨.inr rfl,.inr rfl,.inr rfl,.inr rfl,.inr rfl,.inr rfl,.inr rfl,.inr rfl,trivial⟩,rfl,rfl,pQ4,60,E9d hT hG,(G7j a).trans ?_⟩
  rw [B1j h2,E5,F1z e1 e2 (by omega),G4n (by rw [Int.neg_gcd]; exact e4) (by omega)]
 ·cases h
end Go.Proofs.Tryz
namespace Go.Proofs.Tryz
open Go.Ad
open Go.Lib (decDigits itoa nDigits decFrom digitVal)
def F1r:Code:=f104.body.getD .skip
def D5q:Code:=J3 (K6 0 F1r)
def spWo:SP:=⟨[.str]++dr 2++[.str,.str,.bool,.int .i64]++dr 25,dd8⟩
def C0o (s w p:List UInt8) (b:Bool) (i:Int):List Lf:=[.s s,.s w,.s p,.b b,.i i]
def dgB (c:Int):Int:=IntKind.i64.wrap (IntKind.u8.wrap (c - 48))
theorem D9r (s w p:List UInt8) (b:Bool) (i:Int):F3 prog (C9 prog pQ6 60) F8 D5q (spWo.rho (C0o s w p b i)) (spWo.heap (C0o s w p b i)) (H5 (fun _=>spWo) 8 []) =
  brK (decide (i < (s.length:Int))) (brK (decide (0<=i/\i < (s.length:Int))) (brK (((s.getD i.toNat 0).toNat:Int) == 46) (some (.normal,C0o s w p true (W (i+1))))
   (brK (A9 (zOK w/\zOK [49,48])) (brK (decide (0<=i/\i < (s.length:Int))) (brK (A9 (IntKind.i64=.i64/\-(2 ^ 63) < dgB ((s.getD i.toNat 0).toNat:Int)/\dgB ((s.getD i.toNat 0).toNat:Int) < 2 ^ 63))
    (brK (A9 (zOK (itoa (A7 w*A7 [49,48]))/\zOK (itoa (dgB ((s.getD i.toNat 0).toNat:Int)))))
     (brK b (brK (A9 (zOK p/\zOK [49,48])) (some (.normal,C0o s (itoa (A7 (itoa (A7 w*A7 [49,48]))+A7 (itoa (dgB ((s.getD i.toNat 0).toNat:Int))))) (itoa (A7 p*A7 [49,48])) b (W (i+1)))) none)
      (some (.normal,C0o s (itoa (A7 (itoa (A7 w*A7 [49,48]))+A7 (itoa (dgB ((s.getD i.toNat 0).toNat:Int))))) p b (W (i+1))))) none) none) none) none)) none)
   (some (.exit 0,C0o s w p b i)):=by kernel_rfl
theorem G4e {c:Nat} (h1:48<=c) (h2:c<=57):dgB (c:Int)=((c - 48:Nat):Int):=by
 obtain ⟨k,rfl⟩:∃ k,c=48+k:=⟨c - 48,by omega⟩
 have hk:k<=9:=by omega
 have:∀ k:Fin 10,dgB ((48+k.val:Nat):Int)=((48+k.val - 48:Nat):Int):=by decide
 exact this ⟨k,by omega⟩
def stepW (st:Nat × Nat × Bool) (c:UInt8):Nat × Nat × Bool:=if c=46 then (st.1,st.2.1,true) else (st.1*10+(c.toNat - 48),bif st.2.2 then st.2.1*10 else st.2.1,st.2.2)
def woS (s:List UInt8):Nat × Nat × Bool:=s.foldl stepW (0,1,false)
theorem A9j:∀ (l:List UInt8) (w p:Nat) (h:Bool),l.all F5=true->l.foldl stepW (w,p,h)=(D8 w l,bif h then p*10 ^ l.length else p,h)
 | [],w,p,h,_=>by cases h <;> simp [D8]
 | c :: r,w,p,h,hl=>by
  rw [List.all_cons,Bool.and_eq_true] at hl
  have hc:c ≠ 46:=fun e=>by rw [e] at hl; exact absurd hl.1 (by decide)
  rw [List.foldl_cons]
  show r.foldl stepW (if c=46 then _ else _)=_
  rw [if_neg hc,A9j r _ _ _ hl.2]
  show (D8 (w*10+(c.toNat - 48)) r,_,h)=(D8 (w*10+(c.toNat - 48)) r,_,h)
  cases h with
  | false=>rfl
  | true=>simp only [cond_true,List.length_cons,Nat.pow_succ]; rw [Nat.mul_assoc,Nat.mul_comm 10]
theorem G0x {s f b:List UInt8} (h:NumS s f b):(woS s).1=D8 0 (f++b)/\(woS s).2.1=10 ^ b.length:=by
 unfold woS
 rcases h.shape with ⟨e1,e2⟩ | ⟨e1,_⟩
 ·rw [e2,e1,A9j f 0 1 false h.df,List.append_nil]
  exact ⟨rfl,rfl⟩
 ·rw [e1,List.foldl_append,A9j f 0 1 false h.df,List.foldl_cons]
  show (b.foldl stepW (D8 0 f,1,true)).1=_/\(b.foldl stepW (D8 0 f,1,true)).2.1=_
  rw [A9j b _ _ _ h.db,R8]
  exact ⟨rfl,by simp⟩
theorem F0t:∀ (l:List UInt8) (st:Nat × Nat × Bool) (k:Nat),(∀ c ∈ l,c=46 \/ F5 c=true)->st.1 < 10 ^ k->st.2.1<=10 ^ k->(l.foldl stepW st).1 < 10 ^ (k+l.length)/\(l.foldl stepW st).2.1<=10 ^ (k+l.length)
 | [],_,_,_,h1,h2=>⟨h1,h2⟩
 | c :: r,st,k,hl,h1,h2=>by
  rw [List.foldl_cons,List.length_cons,show k+(r.length+1)=k+1+r.length by omega]
  have hp:10 ^ (k+1)=10 ^ k*10:=Nat.pow_succ ..
  refine F0t r _ (k+1) (fun c hc=>hl c (.tail _ hc)) ?_ ?_
  ·unfold stepW
   by_cases hc:c=46
   ·rw [if_pos hc]; simp only; omega
   ·rw [if_neg hc]
    have hd:F5 c=true:=(hl c (.head _)).resolve_left hc
    have h3:48<=c.toNat/\c.toNat<=57:=by simpa [F5] using hd
    simp only; omega
  ·unfold stepW
   by_cases hc:c=46
   ·rw [if_pos hc]; simp only; omega
   ·rw [if_neg hc]
    simp only
    cases st.2.2 <;> simp only [cond_true,cond_false] <;> omega
theorem C4r {s f b:List UInt8} (h:NumS s f b):∀ c ∈ s,c=46 \/ F5 c=true:=fun c hc=>by
 rcases h.shape with ⟨e1,_⟩ | ⟨e1,_⟩
 ·rw [e1] at hc
  exact .inr (List.all_eq_true.1 h.df _ hc)
 ·rw [e1] at hc
  rcases List.mem_append.1 hc with hc | hc
  ·exact .inr (List.all_eq_true.1 h.df _ hc)
  ·cases hc with
   | head=>exact .inl rfl
   | tail _ hc=>exact .inr (List.all_eq_true.1 h.db _ hc)
theorem A3n {n k:Nat} (h:n < 10 ^ k) (h1:1<=k) (h2:k<=1000):zOK (itoa (n:Int)):=by
 refine ⟨I7 _,?_⟩
 have:=U3 h h1
 have:(1000:Nat) < 2 ^ 26:=by decide
 omega
theorem C6a:itoa 10=[49,48]:=D2f 1
theorem B7r:A7 [49,48]=10:=by rw [<- C6a,C8]
def G3u:Blk:=hookP spWo 8 [] fun
 | [.s s,.s w,.s p,.b b,.i i]=>.br (A9 (w=itoa ((0:Nat):Int)/\p=itoa ((1:Nat):Int)/\b=false/\i=0/\A3j s=0)) (.leaf (.normal,spWo,C0o s (itoa ((woS s).1:Nat)) (itoa ((woS s).2.1:Nat)) (woS s).2.2 s.length)) .fail
 | _=>.fail
def G0i:Prims:=pQ6.addb 104 0 G3u
section
variable {A:Amb} (hT:Tab A) (hG:gN prog<=A.G)
include hT hG
theorem F5h:PrimOK prog A G0i:=by
 have hp:=E6x hT hG
 refine PrimOK.addbP hp func104 (show f104.body=some F1r by kernel_rfl) (body:=.loop D5q) (by kernel_rfl) (by kernel_rfl) fun ls e sq l h=>?_
 split at h
 ·rename_i s w p b i
  obtain ⟨hc,hv⟩:=Tr.br1 h
  cases hv
  obtain ⟨rfl,rfl,rfl,rfl,hs⟩:=D9 hc
  obtain ⟨f,b,hn⟩:=A9i hs
  have hlen:=hn.len
  have hbytes:=C4r hn
  refine ⟨⟨.inr rfl,.inr rfl,.inr rfl,.inr rfl,.inr rfl,.inr rfl,.inr rfl,.inr rfl,trivial⟩,fun Bb hB=>SEB.block_exit (id:=0) ?_⟩
  refine SEB.loop_nat (P:=prog) (A:=A) (B0:=Bb) (c:=D5q) (I:=fun i=>⟨spWo.rho (C0o s (itoa ((woS (s.take i)).1:Nat)) (itoa ((woS (s.take i)).2.1:Nat)) (woS (s.take i)).2.2 i),spWo.heap (C0o s (itoa ((woS (s.take i)).1:Nat)) (itoa ((woS (s.take i)).2.1:Nat)) (woS (s.take i)).2.2 i),[]⟩) (N:=s.length) ?_ ?_ (by simp) (i:=0) (Nat.zero_le _)
   (s':=⟨spWo.rho (C0o s (itoa ((woS s).1:Nat)) (itoa ((woS s).2.1:Nat)) (woS s).2.2 s.length),spWo.heap (C0o s (itoa ((woS s).1:Nat)) (itoa ((woS s).2.1:Nat)) (woS s).2.2 s.length),[]⟩) (e:=.exit 0)
  ·intro i hi
   have hr:=D9r s (itoa ((woS (s.take i)).1:Nat)) (itoa ((woS (s.take i)).2.1:Nat)) (woS (s.take i)).2.2 i
   obtain ⟨b1,b2⟩:=F0t (s.take i) (0,1,false) 1 (fun c hc=>hbytes c (List.mem_of_mem_take hc)) (by decide) (by decide)
   have hti:(s.take i).length<=24:=by rw [List.length_take]; omega
   have hp1:10 ^ (1+(s.take i).length)<=10 ^ 25:=Nat.pow_le_pow_right (by decide) (by omega)
   have hstep:woS (s.take (i+1))=stepW (woS (s.take i)) (s.getD i 0):=by
    unfold woS
    rw [List.take_add_one,List.getD_eq_getElem?_getD,List.getElem?_eq_getElem hi,List.foldl_append]
    rfl
   have b1:(woS (s.take i)).1 < 10 ^ 25:=by show ((s.take i).foldl stepW (0,1,false)).1 < _; omega
   have b2:(woS (s.take i)).2.1<=10 ^ 25:=by show ((s.take i).foldl stepW (0,1,false)).2.1<=_; omega
   have hmem:s.getD i 0 ∈ s:=by rw [List.getD_eq_getElem?_getD,List.getElem?_eq_getElem hi]; exact List.getElem_mem hi
   rw [hstep]
   generalize woS (s.take i)=st at *
   obtain ⟨w,p,bb⟩:=st
   have hch:=hbytes _ hmem
   simp only at b1 b2 hr
   rw [dT (show (i:Int) < (s.length:Int) by omega),dT (show 0<=(i:Int)/\(i:Int) < (s.length:Int) by omega),Int.toNat_natCast,R4 (by omega) (by omega),E5,E5] at hr
   unfold stepW
   generalize s.getD i 0=c at *
   by_cases hc:c=46
   ·subst hc
    rw [if_pos rfl]
    rw [show (((46:UInt8).toNat:Int) == 46)=true from rfl,E5] at hr
    exact SEB.of_KP (A:=A) (B0:=Bb) (e:=.normal) D6 D7 hp (.none _) hB hr rfl
   ·rw [if_neg hc]
    have hd:F5 c=true:=hch.resolve_left hc
    have h3:48<=c.toNat/\c.toNat<=57:=by simpa [F5] using hd
    have hne:((c.toNat:Int) == 46)=false:=by rw [beq_eq_false_iff_ne]; omega
    have e1:(w:Int)*10=((w*10:Nat):Int):=by omega
    have e2:(p:Int)*10=((p*10:Nat):Int):=by omega
    have e3:((w*10:Nat):Int)+((c.toNat - 48:Nat):Int)=((w*10+(c.toNat - 48):Nat):Int):=by omega
    have z10:zOK [49,48]:=by rw [<- C6a]; exact A3n (n:=10) (k:=2) (by decide) (by decide) (by decide)
    have hdg:dgB (c.toNat:Int)=((c.toNat - 48:Nat):Int):=G4e h3.1 h3.2
    rw [hne,I4,hdg,B7r,C8,C8,e1,C8,e3,C8,e2,A8 ⟨A3n (k:=26) (by omega) (by decide) (by decide),z10⟩,E5,E5,A8 ⟨by trivial,by omega,by omega⟩,E5,
     A8 ⟨A3n (n:=w*10) (k:=27) (by omega) (by decide) (by decide),A3n (n:=c.toNat - 48) (k:=2) (by omega) (by decide) (by decide)⟩,E5,A8 ⟨A3n (n:=p) (k:=26) (by omega) (by decide) (by decide),z10⟩,E5] at hr
    cases bb with
    | true=>exact SEB.of_KP (A:=A) (B0:=Bb) (e:=.normal) D6 D7 hp (.none _) hB hr rfl
    | false=>exact SEB.of_KP (A:=A) (B0:=Bb) (e:=.normal) D6 D7 hp (.none _) hB hr rfl
  ·have hr:=D9r s (itoa ((woS s).1:Nat)) (itoa ((woS s).2.1:Nat)) (woS s).2.2 s.length
   rw [dF (show ¬ (s.length:Int) < (s.length:Int) by omega)] at hr
   simp only [List.take_length]
   exact SEB.of_KP (A:=A) (B0:=Bb) (e:=.exit 0) D6 D7 hp (.none _) hB hr rfl
 ·cases h
end
theorem G6h (s:List UInt8):(C9 prog G0i 60).call 104 (spS1.rho [.s s]) (spS1.heap [.s s]) (A1j spS1 8 []) =
  brK (A9 (([48]:List UInt8)=itoa ((0:Nat):Int)/\([49]:List UInt8)=itoa ((1:Nat):Int)/\false=false/\(0:Int)=0/\A3j s=0))
   (brK (A9 (M0 (itoa ((woS s).1:Nat))/\M0 (itoa ((woS s).2.1:Nat))/\¬ A7 (itoa ((woS s).2.1:Nat))=0)) (some [.s (R3 (A7 (itoa ((woS s).1:Nat))) (A7 (itoa ((woS s).2.1:Nat))))]) none) none:=by kernel_rfl
def T62:List Lf->Tr (SP × List Lf)
 | [.s a]=>.br (A9 (A3j a=0)) (.leaf (spS1,[.s (A1p a).1])) .fail
 | _=>.fail
def pV0:Prims:=pQ6.addh 104 (H9 8 (funP spS1 8 [] T62))
theorem C0a {n k:Nat} (h:n < 10 ^ k) (h1:1<=k) (h2:k<=1000):M0 (itoa (n:Int)):=by
 refine ⟨I7 _,?_⟩
 have:=U3 h h1
 have:(1000:Nat) < 2 ^ 24:=by decide
 omega
theorem F2m {A:Amb} (hT:Tab A) (hG:gN prog<=A.G):PrimOK prog A pV0:=by
 refine (E6x hT hG).addl gsz func104 (by kernel_rfl) (L8 D6 D7 rfl fun ls sq l h=>?_)
 unfold T62 at h
 split at h
 ·rename_i s
  obtain ⟨hc,hv⟩:=Tr.br1 h
  cases hv
  have hs:=D9 hc
  obtain ⟨f,b,hn⟩:=A9i hs
  obtain ⟨h1,h2⟩:=G0x hn
  obtain ⟨b1,b2⟩:=F0t s (0,1,false) 1 (C4r hn) (by decide) (by decide)
  have hlen:=hn.len
  have hp1:10 ^ (1+s.length)<=10 ^ 25:=Nat.pow_le_pow_right (by decide) (by omega)
  have b1:(woS s).1 < 10 ^ 25:=by show (s.foldl stepW (0,1,false)).1 < _; omega
  have b2:(woS s).2.1<=10 ^ 25:=by show (s.foldl stepW (0,1,false)).2.1<=_; omega
  have b3:0 < (woS s).2.1:=by rw [h2]; exact Nat.pow_pos (by decide)
  refine ⟨⟨.inr rfl,.inr rfl,.inr rfl,.inr rfl,.inr rfl,.inr rfl,.inr rfl,.inr rfl,trivial⟩,rfl,rfl,G0i,60,F5h hT hG,(G6h s).trans ?_⟩
  rw [A8 ⟨itoa0.symm,itoa_1.symm,rfl,rfl,hs⟩,E5,C8,C8,A8 ⟨C0a (k:=26) (by omega) (by decide) (by decide),C0a (k:=26) (by omega) (by decide) (by decide),by omega⟩,E5]
  unfold A1p
  rw [if_neg (by rw [hs]; simp),hn.cut.1,hn.cut.2,h1,h2]
  rfl
 ·cases h
end Go.Proofs.Tryz
namespace Go.Proofs.Tryz
open Go.Ad
open Go.Lib (decDigits itoa nDigits decFrom digitVal)
theorem G5d (a:List UInt8):(C9 prog pV0 60).call 59 (spS1.rho [.s a]) (spS1.heap [.s a]) (V7 A1s 8 []) =
  brK (F4 a) (brK (A3j a != 0) (some [.s [],.i (A3j a)]) (brK (A9 (A3j a=0)) (some [.s (A1p a).1,.i 0]) none)) none:=by kernel_rfl
def pV1:Prims:=pV0.addh 59 (H9 8 (funQ spS1 8 [] T27))
theorem G2f {A:Amb} (hT:Tab A) (hG:gN prog<=A.G):PrimOK prog A pV1:=by
 refine (F2m hT hG).addl gsz func59 (by kernel_rfl) (J7 D6 D7 rfl fun ls sq l h=>?_)
 unfold T27 at h
 split at h
 ·rename_i a
  obtain ⟨hc,hv⟩:=Tr.br1 h
  cases hv
  refine ⟨⟨.inr rfl,.inr rfl,.inr rfl,.inr rfl,.inr rfl,.inr rfl,.inr rfl,.inr rfl,trivial⟩,rfl,pV0,60,_,F2m hT hG,(G5d a).trans ?_,fun _ _=>.refl⟩
  rw [hc,E5]
  unfold A1p
  by_cases h0:A3j a=0
  ·rw [if_neg (by simpa using h0),show (A3j a != 0)=false by simpa using h0,A8 h0]; rfl
  ·rw [if_pos h0,show (A3j a != 0)=true by simpa using h0]; rfl
 ·cases h
end Go.Proofs.Tryz
namespace Go.Proofs.Tryz
open Go.Ad
open Go.Lib (decDigits itoa nDigits decFrom digitVal)
def pN:Prims:=pQS.over pG0
theorem D9h {A:Amb} (hT:Tab A) (hG:gN prog<=A.G):PrimOK prog A pN:=(E4m hT hG).over (E7d hT hG)
def E6o:Code:=f37.body.getD .skip
def B9t:Code:=J3 (K6 2 E6o)
def A7b (k:Int) (c:UInt8):SP:=⟨[.str]++dr 4++[.is (.str [c])]++dr 2++[.is (.slice (some (8,0)) 2 2),.is (.int .i64 2),.is (.int .i64 k)]++dr 26,dd8++[.cells [.is (.str [50]),.is (.str [53])] 1 true 83]⟩
abbrev E9n (a p:List UInt8):Option (AEx × List Lf) :=
 brK (A9 (D5 a=0/\D5 p=0/\A7 p ≠ 0/\D5 (itoa ((A7 a).fmod (A7 p)))=0)) (brK (!(itoa ((A7 a).fmod (A7 p)) == [48])) (some (.exit 2,[.s a]))
  (brK (A9 (D5 a=0/\D5 p=0/\A7 p ≠ 0/\D5 (itoa ((A7 a).fdiv (A7 p)))=0)) (some (.normal,[.s (itoa ((A7 a).fdiv (A7 p)))])) none)) none
theorem F0w (a:List UInt8):F3 prog (C9 prog pN 60) F8 B9t ((A7b 0 50).rho [.s a]) ((A7b 0 50).heap [.s a]) (H5 (fun _=>A7b 0 50) 9 [])=E9n a [50]:=by kernel_rfl
theorem E9r (a:List UInt8):F3 prog (C9 prog pN 60) F8 B9t ((A7b 1 53).rho [.s a]) ((A7b 1 53).heap [.s a]) (H5 (fun _=>A7b 1 53) 9 [])=E9n a [53]:=by kernel_rfl
theorem F5w {n q:Nat} {p:List UInt8} (hn:D5 (itoa (n:Int))=0) (hp:p=itoa (q:Int)) (hq:D5 p=0) (h2:2<=q) :
  E9n (itoa (n:Int)) p=if n % q=0 then some (.normal,[.s (itoa ((n / q:Nat):Int))]) else some (.exit 2,[.s (itoa (n:Int))]):=by
 have hd:A7 p=(q:Int):=by rw [hp,C8]
 have f1:(n:Int).fmod (q:Int)=((n % q:Nat):Int):=by rw [Int.fmod_eq_emod_of_nonneg _ (by omega)]; rfl
 have f2:(n:Int).fdiv (q:Int)=((n / q:Nat):Int):=by rw [Int.fdiv_eq_ediv_of_nonneg _ (by omega)]; rfl
 have l1:n % q<=n:=Nat.mod_le _ _
 have l2:n / q<=n:=Nat.div_le_self _ _
 unfold E9n
 rw [C8,hd,f1,f2,A8 ⟨hn,hq,by omega,Y7 hn (by rw [Int.natAbs_natCast,Int.natAbs_natCast]; exact l1)⟩,A8 ⟨hn,hq,by omega,Y7 hn (by rw [Int.natAbs_natCast,Int.natAbs_natCast]; exact l2)⟩,E5,Q9]
 by_cases h:n % q=0
 ·rw [if_pos h,dT (show ((n % q:Nat):Int)=0 by omega)]; rfl
 ·rw [if_neg h,dF (show ¬ ((n % q:Nat):Int)=0 by omega)]; rfl
def TFi (k:Int) (c:UInt8) (q:Nat):List Lf->Tr (AEx × SP × List Lf)
 | [.s a]=>.br (A9 (D5 a=0/\0 < A7 a)) (.leaf (.normal,A7b k c,[.s (itoa ((strip q (A7 a).toNat:Nat):Int))])) .fail
 | _=>.fail
def F0s:Blk:=fun ρ B=>match ρ.getD 10 .bad with
 | .int _ 0=>hookP (A7b 0 50) 9 [] (TFi 0 50 2) ρ B
 | _=>hookP (A7b 1 53) 9 [] (TFi 1 53 5) ρ B
theorem E7p {A:Amb} {k:Int} {c:UInt8} {q:Nat} {prims:Prims} (hp:PrimOK prog A prims) (h2:2<=q) (hc:[c]=itoa (q:Int)) (he:D5 [c]=0)
  (hr:∀ a:List UInt8,F3 prog (C9 prog prims 60) F8 B9t ((A7b k c).rho [.s a]) ((A7b k c).heap [.s a]) (H5 (fun _=>A7b k c) 9 [])=E9n a [c]) :
  ∀ ls e sq l,(TFi k c q ls).get=some (e,sq,l)->frP [] 0 ((A7b k c).heap ls) (sq.heap l)/\∀ Bb:Heap,Bb.length=9->SEB prog A Bb (.block 2 (.loop B9t)) ⟨(A7b k c).rho ls,(A7b k c).heap ls,[]⟩ e ⟨sq.rho l,sq.heap l,[]⟩:=fun ls e sq l h=>by
 unfold TFi at h
 split at h
 ·rename_i a
  obtain ⟨hcc,hv⟩:=Tr.br1 h
  cases hv
  obtain ⟨ha,h0⟩:=D9 hcc
  refine ⟨⟨.inr rfl,.inr rfl,.inr rfl,.inr rfl,.inr rfl,.inr rfl,.inr rfl,.inr rfl,.inr rfl,trivial⟩,fun Bb hB=>SEB.block_exit (id:=2) ?_⟩
  have ea:=O0 ha
  obtain ⟨n,hn⟩:∃ n:Nat,A7 a=n:=⟨(A7 a).toNat,by omega⟩
  rw [hn] at ea h0 ⊢
  subst ea
  rw [Int.toNat_natCast]
  refine SEB.while (fun n:Nat=>0 < n/\D5 (itoa (n:Int))=0) (fun n=>n) (fun n=>⟨(A7b k c).rho [.s (itoa (n:Int))],(A7b k c).heap [.s (itoa (n:Int))],[]⟩)
   (fun n=>(.exit 2,⟨(A7b k c).rho [.s (itoa ((strip q n:Nat):Int))],(A7b k c).heap [.s (itoa ((strip q n:Nat):Int))],[]⟩)) (fun n hn=>?_) n ⟨by omega,ha⟩
  obtain ⟨n0,n1⟩:=hn
  have hk:=(hr (itoa (n:Int))).trans (F5w n1 hc he h2)
  by_cases hm:n % q=0
  ·rw [if_pos hm] at hk
   left
   refine ⟨n / q,⟨A1r h2 n0 hm,Y7 n1 (by rw [Int.natAbs_natCast,Int.natAbs_natCast]; exact Nat.div_le_self _ _)⟩,A6b h2 n0,?_,SEB.of_KP (A:=A) (B0:=Bb) (e:=.normal) D6 D7 hp (.none _) hB hk rfl⟩
   simp only [A7a h2 n0 hm]
  ·rw [if_neg hm] at hk
   right
   refine ⟨by simp,?_⟩
   simp only [A9p hm]
   exact SEB.of_KP (A:=A) (B0:=Bb) (e:=.exit 2) D6 D7 hp (.none _) hB hk rfl
 ·cases h
theorem D3j:[50]=itoa ((2:Nat):Int):=by rw [A4l (by decide)]; rfl
theorem D6m:[53]=itoa ((5:Nat):Int):=by rw [A4l (by decide)]; rfl
theorem E5j:D5 [50]=0:=by decide
theorem E9l:D5 [53]=0:=by decide
def G3z:Prims:=pN.addb 37 2 F0s
theorem F6x {A:Amb} (hT:Tab A) (hG:gN prog<=A.G):PrimOK prog A G3z:=by
 refine PrimOK.addb (D9h hT hG) func37 (show f37.body=some E6o by kernel_rfl) (body:=.loop B9t) (by kernel_rfl) fun ρ B e ρ' B' D h=>?_
 unfold F0s at h
 split at h
 ·exact O8 rfl (E7p (D9h hT hG) (by decide) D3j E5j F0w) ρ B e ρ' B' D h
 ·exact O8 rfl (E7p (D9h hT hG) (by decide) D6m E9l E9r) ρ B e ρ' B' D h
def G9i:SP:=⟨[.bool,.is (.int .i64 0)],dd8⟩
theorem H0h (a:List UInt8):(C9 prog G3z 60).call 37 (spS1.rho [.s a]) (spS1.heap [.s a]) (V7 G9i 8 []) =
  brK (A9 (D5 a=0/\0 < A7 a)) ((fun b:List UInt8=>brK (A9 (D5 b=0/\0 < A7 b)) (some [.b (itoa ((strip 5 (A7 b).toNat:Nat):Int) == [49])]) none) (itoa ((strip 2 (A7 a).toNat:Nat):Int))) none:=by kernel_rfl
def T64:List Lf->Tr (SP × List Lf)
 | [.s a]=>.br (A9 (D5 a=0/\0 < A7 a)) (.leaf (G9i,[.b (decide (strip 5 (strip 2 (A7 a).toNat)=1))])) .fail
 | _=>.fail
def pD1:Prims:=pN.addh 37 (H9 8 (funQ spS1 8 [] T64))
theorem E4w {A:Amb} (hT:Tab A) (hG:gN prog<=A.G):PrimOK prog A pD1:=by
 refine (D9h hT hG).addl gsz func37 (by kernel_rfl) (J7 D6 D7 rfl fun ls sq l h=>?_)
 unfold T64 at h
 split at h
 ·rename_i a
  obtain ⟨hc,hv⟩:=Tr.br1 h
  cases hv
  obtain ⟨h1,h2⟩:=D9 hc
  refine ⟨⟨.inr rfl,.inr rfl,.inr rfl,.inr rfl,.inr rfl,.inr rfl,.inr rfl,.inr rfl,trivial⟩,rfl,G3z,60,_,F6x hT hG,(H0h a).trans ?_,fun _ _=>.refl⟩
  have ea:=O0 h1
  obtain ⟨n,hn⟩:∃ n:Nat,A7 a=n:=⟨(A7 a).toNat,by omega⟩
  rw [hn] at h2 ea ⊢
  subst ea
  obtain ⟨s1,s2,_⟩:=A3m (p:=2) (by decide) n (by omega)
  have e2:=Y7 (B:=(strip 2 n:Nat)) h1 (by rw [Int.natAbs_natCast,Int.natAbs_natCast]; exact s2)
  dsimp only
  rw [A8 ⟨h1,h2⟩,E5,Int.toNat_natCast,C8,A8 ⟨e2,by omega⟩,E5,Int.toNat_natCast]
  have hg:(itoa ((strip 5 (strip 2 n):Nat):Int) == [49])=decide (strip 5 (strip 2 n)=1):=by
   by_cases hx:strip 5 (strip 2 n)=1
   ·rw [dT hx,hx]
    show (itoa 1 == [49])=true
    rw [itoa_1]; rfl
   ·rw [dF hx,beq_eq_false_iff_ne]
    intro e
    rw [<- itoa_1] at e
    have:=A5n e
    omega
  rw [hg]
 ·cases h
end Go.Proofs.Tryz
