/- The reference's quotients: slash, Split. -/
import Derived.Test.YtfjgehlpjppggaaGreatDoorR3
import Derived.Test.YtfjgehlpjppggaaGreatDoorVal1
import Derived.Test.YtfjgehlpjppggaaGreatDoorAdRat
namespace Go.Proofs.Tryz
open Go.Ad
open Go.Lib (decDigits itoa nDigits)
noncomputable def code94:Code:=f94.body.getD .skip
noncomputable def bodySl:Code:=unLoop (findB 0 code94)
def spSl:SP:=⟨[.str]++dr 1++[.is (.int .i64 0),.int .i64]++dr 11,dd8⟩
def spSlR:SP:=⟨dr 2++[.int .i64]++dr 12,dd8⟩
def exSl:AEx→SP
 | .ret=>spSlR
 | _=>spSl
theorem roundSl (s:List UInt8) (i:Int):execK prog (runK prog lib2 60) noBps bodySl (spSl.rho [.s s,.i i]) (spSl.heap [.s s,.i i]) (nrmP exSl 8 []) =
  brK (decide (i < (s.length:Int))) (brK (decide (0≤i∧i < (s.length:Int))) (brK (((s.getD i.toNat 0).toNat:Int) == 47) (some (.ret,[.i i])) (some (.normal,[.s s,.i (W (i+1))]))) none) (some (.exit 0,[.s s,.i i])):=by kernel_rfl
def pSl (s:List UInt8) (n:Nat):Bool:=!((((s.getD n 0).toNat:Int)) == 47)
theorem stepSl (s:List UInt8) (n:Nat) (hs:s.length < 2 ^ 62):execK prog (runK prog lib2 60) noBps bodySl (spSl.rho [.s s,.i n]) (spSl.heap [.s s,.i n]) (nrmP exSl 8 []) =
  if n < s.length then (bif pSl s n then some (.normal,[.s s,.i ((n+1:Nat):Int)]) else some (.ret,[.i n])) else some (.exit 0,[.s s,.i n]):=by
 rw [roundSl]
 by_cases h:n < s.length
 ·rw [if_pos h,decide_eq_true (show (n:Int) < (s.length:Int) by omega),decide_eq_true (show 0≤(n:Int)∧(n:Int) < (s.length:Int) by omega),Int.toNat_natCast,W_id (by omega) (by omega)]
  unfold pSl
  cases ((((s.getD n 0).toNat:Int)) == 47) <;> rfl
 ·rw [if_neg h,decide_eq_false (show ¬ (n:Int) < (s.length:Int) by omega)]; rfl
theorem scan_cut (s:List UInt8):(Lib.indexByte s 47=-1∧scanN (pSl s) (s.length - 0) 0=s.length) ∨ (∃ i:Nat,i < s.length∧Lib.indexByte s 47=i∧scanN (pSl s) (s.length - 0) 0=i):=by
 have hne:∀ b:UInt8,b ≠ 47→(!((b.toNat:Int) == 47))=true:=fun b hb=>by
  have h2:b.toNat ≠ 47:=fun e=>hb (UInt8.toNat_inj.1 e)
  rw [show ((b.toNat:Int) == 47)=false by rw [beq_eq_false_iff_ne]; omega]; rfl
 rcases cutAt_index 47 s with ⟨e1,e2⟩ | ⟨i,e0,e1,e2⟩
 ·left
  refine ⟨e1,scanN_unique (Nat.zero_le _) (by omega) (fun j _ hj=>?_) (fun h=>by omega)⟩
  have hm:=cutAt_none_iff.1 e2
  refine hne _ fun e=>hm ?_
  rw [← e,List.getD_eq_getElem?_getD,List.getElem?_eq_getElem hj]
  exact List.getElem_mem hj
 ·right
  obtain ⟨h1,h2⟩:=cutAt_some e2
  refine ⟨i,e0,e1,scanN_unique (Nat.zero_le _) (by omega) (fun j _ hj=>?_) (fun _=>?_)⟩
  ·refine hne _ fun e=>h2 ?_
   have hj2:j < (s.take i).length:=by rw [List.length_take]; omega
   have:s.getD j 0=(s.take i)[j]:=by
    rw [List.getD_eq_getElem?_getD,List.getElem?_eq_getElem (by omega),Option.getD_some,List.getElem_take]
   rw [← e,this]
   exact List.getElem_mem hj2
  ·unfold pSl
   have hl:(s.take i).length=i:=by rw [List.length_take]; omega
   have:s.getD i 0=47:=by
    rw [h1,List.getD_eq_getElem?_getD,List.getElem?_append_right (by omega),hl,Nat.sub_self]; rfl
   rw [this]; rfl
noncomputable def hookSl:Blk:=hookP spSl 8 [] fun
 | [.s s,.i i]=>.br (propB (i=0) && szOK s) (.br (decide (Lib.indexByte s 47 < 0)) (.leaf (.normal,spSl,[.s s,.i s.length])) (.leaf (.ret,spSlR,[.i (Lib.indexByte s 47)]))) .fail
 | _=>.fail
noncomputable def pQ0b:Prims:=pVal4.addb 94 0 hookSl
section
variable {A:Amb} (hT:Tab A) (hG:prog.globals.size≤A.G)
include hT hG
theorem pQ0b_ok:PrimOK prog A pQ0b:=by
 have hp:=lib2_ok hT
 refine PrimOK.addbP (pVal4_ok hT hG) func94 (show f94.body=some code94 by kernel_rfl) (body:=.loop bodySl) (by kernel_rfl) (by kernel_rfl) fun ls e sq l h=>?_
 split at h
 ·rename_i s i
  obtain ⟨hc,hv⟩:=Tr.br1 h
  rw [Bool.and_eq_true] at hc
  have hi:=propB_eq hc.1
  have hs:s.length < 2 ^ 62:=of_decide_eq_true hc.2
  subst hi
  have key:∀ Bb:Heap,Bb.length=8→SEB prog A Bb (.loop bodySl) ⟨spSl.rho [.s s,.i 0],spSl.heap [.s s,.i 0],[]⟩ (if scanN (pSl s) (s.length - 0) 0 < s.length then .ret else .exit 0)
    (if scanN (pSl s) (s.length - 0) 0 < s.length then ⟨spSlR.rho [.i (scanN (pSl s) (s.length - 0) 0:Nat)],spSlR.heap [.i (scanN (pSl s) (s.length - 0) 0:Nat)],[]⟩ else ⟨spSl.rho [.s s,.i (scanN (pSl s) (s.length - 0) 0:Nat)],spSl.heap [.s s,.i (scanN (pSl s) (s.length - 0) 0:Nat)],[]⟩):=fun Bb hB =>
   SEB.scan (A:=A) (B0:=Bb) (c:=bodySl) (S:=fun n=>⟨spSl.rho [.s s,.i (n:Nat)],spSl.heap [.s s,.i (n:Nat)],[]⟩) (E:=fun n=>if n < s.length then ⟨spSlR.rho [.i (n:Nat)],spSlR.heap [.i (n:Nat)],[]⟩ else ⟨spSl.rho [.s s,.i (n:Nat)],spSl.heap [.s s,.i (n:Nat)],[]⟩)
    (e:=fun n=>if n < s.length then .ret else .exit 0) (p:=pSl s) (N:=s.length) (fun n=>by by_cases h:n < s.length <;> simp [h])
    (fun n hn hp1=>by
     have hk:=stepSl s n hs
     rw [if_pos hn,hp1,cond_true] at hk
     exact SEB.of_KP (A:=A) (B0:=Bb) (e:=.normal) hmix hnum hp (.none _) hB hk rfl)
    (fun n hn hp1=>by
     have hk:=stepSl s n hs
     by_cases hlt:n < s.length
     ·rw [if_pos hlt,hp1 hlt,cond_false] at hk
      simp only [if_pos hlt]
      exact SEB.of_KP (A:=A) (B0:=Bb) (e:=.ret) hmix hnum hp (.none _) hB hk rfl
     ·rw [if_neg hlt] at hk
      simp only [if_neg hlt]
      exact SEB.of_KP (A:=A) (B0:=Bb) (e:=.exit 0) hmix hnum hp (.none _) hB hk rfl) 0 (Nat.zero_le _)
  rcases scan_cut s with ⟨e1,e2⟩ | ⟨i,e0,e1,e2⟩
  ·rw [e1,decide_eq_true (show (-1:Int) < 0 by omega)] at hv
   cases hv
   refine ⟨⟨.inr rfl,.inr rfl,.inr rfl,.inr rfl,.inr rfl,.inr rfl,.inr rfl,.inr rfl,trivial⟩,fun Bb hB=>SEB.block_exit (id:=0) ?_⟩
   have:=key Bb hB
   rw [if_neg (by omega),if_neg (by omega),e2] at this
   exact this
  ·rw [e1,decide_eq_false (show ¬ ((i:Nat):Int) < 0 by omega)] at hv
   cases hv
   refine ⟨⟨.inr rfl,.inr rfl,.inr rfl,.inr rfl,.inr rfl,.inr rfl,.inr rfl,.inr rfl,trivial⟩,fun Bb hB=>SEB.block_other (id:=0) ?_ (by simp)⟩
   have:=key Bb hB
   rw [if_pos (by omega),if_pos (by omega),e2] at this
   exact this
 ·cases h
end
theorem run94 (a:List UInt8):(runK prog pQ0b 60).call 94 [.sstr a] (Bg 8) finV =
  brK (propB ((0:Int)=0) && szOK a) (brK (decide (Lib.indexByte a 47 < 0)) (some (.int .i64 (-1))) (some (.sint .i64 (Lib.indexByte a 47)))) none:=by kernel_rfl
noncomputable def T94:List Lf→Tr AV
 | [.s a]=>.br (szOK a) (.leaf (.sint .i64 (Lib.indexByte a 47))) .fail
 | _=>.fail
noncomputable def pQ0:Prims:=pVal4.addt 94 (gP [.str] T94)
theorem pQ0_ok {A:Amb} (hT:Tab A) (hG:prog.globals.size≤A.G):PrimOK prog A pQ0:=by
 refine PrimOK.addP hmix hnum (pQ0b_ok hT hG) (pVal4_ok hT hG) hG func94 (by kernel_rfl) fun ls v h=>?_
 unfold T94 at h
 split at h
 ·rename_i a
  obtain ⟨hc,hv⟩:=Tr.br1 h
  cases hv
  have hr:=run94 a
  rw [hc,propB_true rfl] at hr
  rcases cutAt_index 47 a with ⟨e1,e2⟩ | ⟨i,e0,e1,e2⟩
  ·rw [e1] at hr ⊢
   exact ⟨rfl,60,.int .i64 (-1),by rw [gsz]; exact hr,rfl,fun ι x h=>vr_int rfl x h⟩
  ·rw [e1,decide_eq_false (show ¬ ((i:Nat):Int) < 0 by omega)] at hr
   rw [e1]
   exact ⟨rfl,60,_,by rw [gsz]; exact hr,rfl,fun ι x h=>h⟩
 ·cases h
theorem run57 (a:List UInt8):(runK prog pQ0 60).call 57 (spS1.rho [.s a]) (spS1.heap [.s a]) (finQ spSS 8 []) =
  brK (szOK a) (brK (decide (Lib.indexByte a 47 < 0)) (some [.s a,.s [49]]) (brK (decide (0≤Lib.indexByte a 47∧Lib.indexByte a 47≤(a.length:Int)) && true) (brK (true && decide (0≤W (Lib.indexByte a 47+1)∧W (Lib.indexByte a 47+1)≤(a.length:Int)))
   (some [.s ((a.take (Lib.indexByte a 47).toNat).drop 0),.s ((a.take a.length).drop (W (Lib.indexByte a 47+1)).toNat)]) none) none)) none:=by kernel_rfl
noncomputable def T57:List Lf→Tr (SP × List Lf)
 | [.s a]=>.br (szOK a) (.leaf (spSS,[.s (cutR a).1,.s (cutR a).2.1])) .fail
 | _=>.fail
noncomputable def pQ1:Prims:=pQ0.addh 57 (liftG 8 (funQ spS1 8 [] T57))
theorem pQ1_ok {A:Amb} (hT:Tab A) (hG:prog.globals.size≤A.G):PrimOK prog A pQ1:=by
 refine (pQ0_ok hT hG).addl gsz func57 (by kernel_rfl) (funQ_ok hmix hnum rfl fun ls sq l h=>?_)
 unfold T57 at h
 split at h
 ·rename_i a
  obtain ⟨hc,hv⟩:=Tr.br1 h
  cases hv
  refine ⟨⟨.inr rfl,.inr rfl,.inr rfl,.inr rfl,.inr rfl,.inr rfl,.inr rfl,.inr rfl,trivial⟩,rfl,pQ0,60,_,pQ0_ok hT hG,(run57 a).trans ?_,fun _ _=>.refl⟩
  have hsz:a.length < 2 ^ 62:=of_decide_eq_true hc
  rw [hc,brK_t]
  unfold cutR
  rcases cutAt_index 47 a with ⟨e1,e2⟩ | ⟨i,e0,e1,e2⟩
  ·rw [e1,e2]; rfl
  ·have e3:W ((i:Int)+1)=((i+1:Nat):Int):=by rw [W_id (by omega) (by omega)]; omega
   rw [e1,e2,e3,decide_eq_false (show ¬ (i:Int) < 0 by omega),decide_eq_true (show 0≤(i:Int)∧(i:Int)≤(a.length:Int) by omega),decide_eq_true (show 0≤((i+1:Nat):Int)∧((i+1:Nat):Int)≤(a.length:Int) by omega),
    Int.toNat_natCast,Int.toNat_natCast,List.take_length,List.drop_zero]
   rfl
 ·cases h
def shortR (a:List UInt8):Bool:=decide ((cutR a).1.length≤30) && decide ((cutR a).2.1.length≤30)
theorem run26 (a:List UInt8):(runK prog pQ1 60).call 26 (spS1.rho [.s a]) (spS1.heap [.s a]) (finP ⟨[.bool],dd8⟩ 8 []) =
  brK (szOK a) (brK (decide (((cutR a).1.length:Int)≤30)) (some [.b (decide (((cutR a).2.1.length:Int)≤30))]) (some [.b false])) none:=by kernel_rfl
noncomputable def T26:List Lf→Tr (SP × List Lf)
 | [.s a]=>.br (szOK a) (.leaf (⟨[.bool],dd8⟩,[.b (shortR a)])) .fail
 | _=>.fail
noncomputable def pQS:Prims:=pQ1.addh 26 (liftG 8 (funP spS1 8 [] T26))
theorem pQS_ok {A:Amb} (hT:Tab A) (hG:prog.globals.size≤A.G):PrimOK prog A pQS:=by
 refine (pQ1_ok hT hG).addl gsz func26 (by kernel_rfl) (funP_ok hmix hnum rfl fun ls sq l h=>?_)
 unfold T26 at h
 split at h
 ·rename_i a
  obtain ⟨hc,hv⟩:=Tr.br1 h
  cases hv
  refine ⟨⟨.inr rfl,.inr rfl,.inr rfl,.inr rfl,.inr rfl,.inr rfl,.inr rfl,.inr rfl,trivial⟩,rfl,rfl,pQ1,60,pQ1_ok hT hG,(run26 a).trans ?_⟩
  rw [hc,brK_t]
  unfold shortR
  by_cases h1:(cutR a).1.length≤30
  ·rw [decide_eq_true (show ((cutR a).1.length:Int)≤30 by omega),decide_eq_true h1]
   by_cases h2:(cutR a).2.1.length≤30
   ·rw [decide_eq_true (show ((cutR a).2.1.length:Int)≤30 by omega),decide_eq_true h2]; rfl
   ·rw [decide_eq_false (show ¬ ((cutR a).2.1.length:Int)≤30 by omega),decide_eq_false h2]; rfl
  ·rw [decide_eq_false (show ¬ ((cutR a).1.length:Int)≤30 by omega),decide_eq_false h1]; rfl
 ·cases h
end Go.Proofs.Tryz
namespace Go.Proofs.Tryz
open Go.Ad
open Go.Lib (decDigits itoa nDigits)
end Go.Proofs.Tryz
namespace Go.Proofs.Tryz
open Go.Ad
open Go.Lib (decDigits itoa nDigits)
theorem errQ_ok {a:List UInt8} (h:errQ a=0):errI (cutR a).1=0∧errI (cutR a).2.1=0∧1≤dvalZ (cutR a).2.1∧Int.gcd (dvalZ (cutR a).1) (dvalZ (cutR a).2.1)=1:=by
 unfold errQ at h
 split at h
 ·cases h
 ·split at h
  ·cases h
  ·rename_i h1 h2
   split at h
   ·cases h
   ·rename_i h3
    rw [not_or] at h1 h2
    have e1:errI (cutR a).1=0:=Decidable.not_not.1 h2.1
    have e2:errI (cutR a).2.1=0:=Decidable.not_not.1 h2.2
    refine ⟨e1,e2,?_⟩
    cases hw:(cutR a).2.2 with
    | true =>
     have h4:1 < dvalZ (cutR a).2.1∧Int.gcd (dvalZ (cutR a).1) (dvalZ (cutR a).2.1)=1:=by
      by_cases hc:1 < dvalZ (cutR a).2.1∧Int.gcd (dvalZ (cutR a).1) (dvalZ (cutR a).2.1)=1
      ·exact hc
      ·exact (h3 ⟨hw,hc⟩).elim
     exact ⟨by omega,h4.2⟩
    | false =>
     have:(cutR a).2.1=[49]:=by
      unfold cutR at hw ⊢
      cases hc:cutAt 47 a with
      | none=>rfl
      | some p=>rw [hc] at hw; cases hw
     rw [this,show dvalZ [49]=1 from rfl]
     exact ⟨by omega,by rw [Int.gcd_one]⟩
end Go.Proofs.Tryz
namespace Go.Proofs.Tryz
open Go.Ad
open Go.Lib (decDigits itoa nDigits decFrom digitVal)
theorem itoa_10:itoa 10=[49,48]:=ten_itoa 1
theorem dval_10:dvalZ [49,48]=10:=by rw [← itoa_10,dvalZ_itoa]
section
variable {A:Amb} (hT:Tab A) (hG:prog.globals.size≤A.G)
include hT hG
end
end Go.Proofs.Tryz
namespace Go.Proofs.Tryz
open Go.Ad
open Go.Lib (decDigits itoa nDigits decFrom digitVal)
end Go.Proofs.Tryz
namespace Go.Proofs.Tryz
open Go.Ad
open Go.Lib (decDigits itoa nDigits decFrom digitVal)
noncomputable def pN:Prims:=pQS.over pG0
theorem pN_ok {A:Amb} (hT:Tab A) (hG:prog.globals.size≤A.G):PrimOK prog A pN:=(pQS_ok hT hG).over (pG0_ok hT hG)
noncomputable def code64:Code:=f64.body.getD .skip
noncomputable def bodyFi:Code:=unLoop (findB 2 code64)
def spFi (k:Int) (c:UInt8):SP:=⟨[.str]++dr 4++[.is (.str [c])]++dr 2++[.is (.slice (some (8,0)) 2 2),.is (.int .i64 2),.is (.int .i64 k)]++dr 26,dd8++[.cells [.is (.str [50]),.is (.str [53])] 1 true 90]⟩
noncomputable abbrev rdFi (a p:List UInt8):Option (AEx × List Lf) :=
 brK (propB (errI a=0∧errI p=0∧dvalZ p ≠ 0∧errI (itoa ((dvalZ a).fmod (dvalZ p)))=0)) (brK (!(itoa ((dvalZ a).fmod (dvalZ p)) == [48])) (some (.exit 2,[.s a]))
  (brK (propB (errI a=0∧errI p=0∧dvalZ p ≠ 0∧errI (itoa ((dvalZ a).fdiv (dvalZ p)))=0)) (some (.normal,[.s (itoa ((dvalZ a).fdiv (dvalZ p)))])) none)) none
theorem roundFi0 (a:List UInt8):execK prog (runK prog pN 60) noBps bodyFi ((spFi 0 50).rho [.s a]) ((spFi 0 50).heap [.s a]) (nrmP (fun _=>spFi 0 50) 9 [])=rdFi a [50]:=by kernel_rfl
theorem roundFi1 (a:List UInt8):execK prog (runK prog pN 60) noBps bodyFi ((spFi 1 53).rho [.s a]) ((spFi 1 53).heap [.s a]) (nrmP (fun _=>spFi 1 53) 9 [])=rdFi a [53]:=by kernel_rfl
theorem rdFi_eq {n q:Nat} {p:List UInt8} (hn:errI (itoa (n:Int))=0) (hp:p=itoa (q:Int)) (hq:errI p=0) (h2:2≤q) :
  rdFi (itoa (n:Int)) p=if n % q=0 then some (.normal,[.s (itoa ((n / q:Nat):Int))]) else some (.exit 2,[.s (itoa (n:Int))]):=by
 have hd:dvalZ p=(q:Int):=by rw [hp,dvalZ_itoa]
 have f1:(n:Int).fmod (q:Int)=((n % q:Nat):Int):=by rw [Int.fmod_eq_emod_of_nonneg _ (by omega)]; rfl
 have f2:(n:Int).fdiv (q:Int)=((n / q:Nat):Int):=by rw [Int.fdiv_eq_ediv_of_nonneg _ (by omega)]; rfl
 have l1:n % q≤n:=Nat.mod_le _ _
 have l2:n / q≤n:=Nat.div_le_self _ _
 unfold rdFi
 rw [dvalZ_itoa,hd,f1,f2,propB_true ⟨hn,hq,by omega,errI_le hn (by rw [Int.natAbs_natCast,Int.natAbs_natCast]; exact l1)⟩,propB_true ⟨hn,hq,by omega,errI_le hn (by rw [Int.natAbs_natCast,Int.natAbs_natCast]; exact l2)⟩,brK_t,itoa_is0]
 by_cases h:n % q=0
 ·rw [if_pos h,decide_eq_true (show ((n % q:Nat):Int)=0 by omega)]; rfl
 ·rw [if_neg h,decide_eq_false (show ¬ ((n % q:Nat):Int)=0 by omega)]; rfl
noncomputable def TFi (k:Int) (c:UInt8) (q:Nat):List Lf→Tr (AEx × SP × List Lf)
 | [.s a]=>.br (propB (errI a=0∧0 < dvalZ a)) (.leaf (.normal,spFi k c,[.s (itoa ((strip q (dvalZ a).toNat:Nat):Int))])) .fail
 | _=>.fail
noncomputable def hookFi:Blk:=fun ρ B=>match ρ.getD 10 .bad with
 | .int _ 0=>hookP (spFi 0 50) 9 [] (TFi 0 50 2) ρ B
 | _=>hookP (spFi 1 53) 9 [] (TFi 1 53 5) ρ B
theorem loopFi {A:Amb} {k:Int} {c:UInt8} {q:Nat} {prims:Prims} (hp:PrimOK prog A prims) (h2:2≤q) (hc:[c]=itoa (q:Int)) (he:errI [c]=0)
  (hr:∀ a:List UInt8,execK prog (runK prog prims 60) noBps bodyFi ((spFi k c).rho [.s a]) ((spFi k c).heap [.s a]) (nrmP (fun _=>spFi k c) 9 [])=rdFi a [c]) :
  ∀ ls e sq l,(TFi k c q ls).get=some (e,sq,l)→frP [] 0 ((spFi k c).heap ls) (sq.heap l)∧∀ Bb:Heap,Bb.length=9→SEB prog A Bb (.block 2 (.loop bodyFi)) ⟨(spFi k c).rho ls,(spFi k c).heap ls,[]⟩ e ⟨sq.rho l,sq.heap l,[]⟩:=fun ls e sq l h=>by
 unfold TFi at h
 split at h
 ·rename_i a
  obtain ⟨hcc,hv⟩:=Tr.br1 h
  cases hv
  obtain ⟨ha,h0⟩:=propB_eq hcc
  refine ⟨⟨.inr rfl,.inr rfl,.inr rfl,.inr rfl,.inr rfl,.inr rfl,.inr rfl,.inr rfl,.inr rfl,trivial⟩,fun Bb hB=>SEB.block_exit (id:=2) ?_⟩
  have ea:=itoa_of ha
  obtain ⟨n,hn⟩:∃ n:Nat,dvalZ a=n:=⟨(dvalZ a).toNat,by omega⟩
  rw [hn] at ea h0 ⊢
  subst ea
  rw [Int.toNat_natCast]
  refine SEB.while (fun n:Nat=>0 < n∧errI (itoa (n:Int))=0) (fun n=>n) (fun n=>⟨(spFi k c).rho [.s (itoa (n:Int))],(spFi k c).heap [.s (itoa (n:Int))],[]⟩)
   (fun n=>(.exit 2,⟨(spFi k c).rho [.s (itoa ((strip q n:Nat):Int))],(spFi k c).heap [.s (itoa ((strip q n:Nat):Int))],[]⟩)) (fun n hn=>?_) n ⟨by omega,ha⟩
  obtain ⟨n0,n1⟩:=hn
  have hk:=(hr (itoa (n:Int))).trans (rdFi_eq n1 hc he h2)
  by_cases hm:n % q=0
  ·rw [if_pos hm] at hk
   left
   refine ⟨n / q,⟨div_pos_of h2 n0 hm,errI_le n1 (by rw [Int.natAbs_natCast,Int.natAbs_natCast]; exact Nat.div_le_self _ _)⟩,div_less h2 n0,?_,SEB.of_KP (A:=A) (B0:=Bb) (e:=.normal) hmix hnum hp (.none _) hB hk rfl⟩
   simp only [strip_step h2 n0 hm]
  ·rw [if_neg hm] at hk
   right
   refine ⟨by simp,?_⟩
   simp only [strip_end hm]
   exact SEB.of_KP (A:=A) (B0:=Bb) (e:=.exit 2) hmix hnum hp (.none _) hB hk rfl
 ·cases h
theorem itoa_2:[50]=itoa ((2:Nat):Int):=by rw [itoa_dig (by decide)]; rfl
theorem itoa_5:[53]=itoa ((5:Nat):Int):=by rw [itoa_dig (by decide)]; rfl
theorem errI_2:errI [50]=0:=by decide
theorem errI_5:errI [53]=0:=by decide
noncomputable def pD1b:Prims:=pN.addb 64 2 hookFi
theorem pD1b_ok {A:Amb} (hT:Tab A) (hG:prog.globals.size≤A.G):PrimOK prog A pD1b:=by
 refine PrimOK.addb (pN_ok hT hG) func64 (show f64.body=some code64 by kernel_rfl) (body:=.loop bodyFi) (by kernel_rfl) fun ρ B e ρ' B' D h=>?_
 unfold hookFi at h
 split at h
 ·exact hookP_ok rfl (loopFi (pN_ok hT hG) (by decide) itoa_2 errI_2 roundFi0) ρ B e ρ' B' D h
 ·exact hookP_ok rfl (loopFi (pN_ok hT hG) (by decide) itoa_5 errI_5 roundFi1) ρ B e ρ' B' D h
def spBI:SP:=⟨[.bool,.is (.int .i64 0)],dd8⟩
theorem run64 (a:List UInt8):(runK prog pD1b 60).call 64 (spS1.rho [.s a]) (spS1.heap [.s a]) (finQ spBI 8 []) =
  brK (propB (errI a=0∧0 < dvalZ a)) ((fun b:List UInt8=>brK (propB (errI b=0∧0 < dvalZ b)) (some [.b (itoa ((strip 5 (dvalZ b).toNat:Nat):Int) == [49])]) none) (itoa ((strip 2 (dvalZ a).toNat:Nat):Int))) none:=by kernel_rfl
noncomputable def T64:List Lf→Tr (SP × List Lf)
 | [.s a]=>.br (propB (errI a=0∧0 < dvalZ a)) (.leaf (spBI,[.b (decide (strip 5 (strip 2 (dvalZ a).toNat)=1))])) .fail
 | _=>.fail
noncomputable def pD1:Prims:=pN.addh 64 (liftG 8 (funQ spS1 8 [] T64))
theorem pD1_ok {A:Amb} (hT:Tab A) (hG:prog.globals.size≤A.G):PrimOK prog A pD1:=by
 refine (pN_ok hT hG).addl gsz func64 (by kernel_rfl) (funQ_ok hmix hnum rfl fun ls sq l h=>?_)
 unfold T64 at h
 split at h
 ·rename_i a
  obtain ⟨hc,hv⟩:=Tr.br1 h
  cases hv
  obtain ⟨h1,h2⟩:=propB_eq hc
  refine ⟨⟨.inr rfl,.inr rfl,.inr rfl,.inr rfl,.inr rfl,.inr rfl,.inr rfl,.inr rfl,trivial⟩,rfl,pD1b,60,_,pD1b_ok hT hG,(run64 a).trans ?_,fun _ _=>.refl⟩
  have ea:=itoa_of h1
  obtain ⟨n,hn⟩:∃ n:Nat,dvalZ a=n:=⟨(dvalZ a).toNat,by omega⟩
  rw [hn] at h2 ea ⊢
  subst ea
  obtain ⟨s1,s2,_⟩:=strip_fac (p:=2) (by decide) n (by omega)
  have e2:=errI_le (B:=(strip 2 n:Nat)) h1 (by rw [Int.natAbs_natCast,Int.natAbs_natCast]; exact s2)
  dsimp only
  rw [propB_true ⟨h1,h2⟩,brK_t,Int.toNat_natCast,dvalZ_itoa,propB_true ⟨e2,by omega⟩,brK_t,Int.toNat_natCast]
  have hg:(itoa ((strip 5 (strip 2 n):Nat):Int) == [49])=decide (strip 5 (strip 2 n)=1):=by
   by_cases hx:strip 5 (strip 2 n)=1
   ·rw [decide_eq_true hx,hx]
    show (itoa 1 == [49])=true
    rw [itoa_1]; rfl
   ·rw [decide_eq_false hx,beq_eq_false_iff_ne]
    intro e
    rw [← itoa_1] at e
    have:=itoa_inj e
    omega
  rw [hg]
 ·cases h
end Go.Proofs.Tryz
