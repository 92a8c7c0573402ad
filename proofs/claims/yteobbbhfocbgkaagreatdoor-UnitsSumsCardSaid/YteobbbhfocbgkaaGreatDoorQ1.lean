/- The reference's quotients: slash, Split. -/
import Derived.Test.YteobbbhfocbgkaaGreatDoorR1
namespace Go.Proofs.Tryz
open Go.Ad
open Go.Lib (decDigits itoa nDigits)
noncomputable def code94:Code:=f111.body.getD .skip
noncomputable def bodySl:Code:=unLoop (findB 0 code94)
def spSl:SP:=⟨[.str]++dr 1++[.is (.int .i64 0),.int .i64]++dr 11,dd8⟩
def spSlR:SP:=⟨dr 2++[.int .i64]++dr 12,dd8⟩
def exSl:AEx→SP
 | .ret=>spSlR
 | _=>spSl
theorem roundSl (s:List UInt8) (i:Int):execK prog (runK prog lib2 60) noBps bodySl (spSl.rho [.s s,.i i]) (spSl.heap [.s s,.i i]) (nrmP exSl 8 []) =
  brK (decide (i < (s.length:Int))) (brK (decide (0≤i∧i < (s.length:Int))) (brK (((s.getD i.toNat 0).toNat:Int) == 47) (some (.ret,[.i i])) (some (.normal,[.s s,.i (W (i+1))]))) none) (some (.exit 0,[.s s,.i i])):=by kernel_rfl
def pSl (s:List UInt8) (n:Nat):Bool:=!((((s.getD n 0).toNat:Int)) == 47)
theorem stepSl (s:List UInt8) (n:Nat) (hs:s.length < 2 ^ 62):execK prog (runK prog lib2 60) noBps bodySl (spSl.rho [.s s,.i n]) (spSl.heap [.s s,.i n]) (nrmP exSl 8 []) =
  if n < s.length then (bif pSl s n then some (.normal,[.s s,.i ((n+1:Nat):Int)]) else some (.ret,[.i n])) else some (.exit 0,[.s s,.i n]):=by
 rw [roundSl]
 by_cases h:n < s.length
 ·rw [if_pos h,decide_eq_true (show (n:Int) < (s.length:Int) by omega),decide_eq_true (show 0≤(n:Int)∧(n:Int) < (s.length:Int) by omega),Int.toNat_natCast,W_id (by omega) (by omega)]
  unfold pSl
  cases ((((s.getD n 0).toNat:Int)) == 47) <;> rfl
 ·rw [if_neg h,decide_eq_false (show ¬ (n:Int) < (s.length:Int) by omega)]; rfl
theorem scan_cut (s:List UInt8):(Lib.indexByte s 47=-1∧scanN (pSl s) (s.length - 0) 0=s.length) ∨ (∃ i:Nat,i < s.length∧Lib.indexByte s 47=i∧scanN (pSl s) (s.length - 0) 0=i):=by
 have hne:∀ b:UInt8,b ≠ 47→(!((b.toNat:Int) == 47))=true:=fun b hb=>by
  have h2:b.toNat ≠ 47:=fun e=>hb (UInt8.toNat_inj.1 e)
  rw [show ((b.toNat:Int) == 47)=false by rw [beq_eq_false_iff_ne]; omega]; rfl
 rcases cutAt_index 47 s with ⟨e1,e2⟩ | ⟨i,e0,e1,e2⟩
 ·left
  refine ⟨e1,scanN_unique (Nat.zero_le _) (by omega) (fun j _ hj=>?_) (fun h=>by omega)⟩
  have hm:=cutAt_none_iff.1 e2
  refine hne _ fun e=>hm ?_
  rw [← e,List.getD_eq_getElem?_getD,List.getElem?_eq_getElem hj]
  exact List.getElem_mem hj
 ·right
  obtain ⟨h1,h2⟩:=cutAt_some e2
  refine ⟨i,e0,e1,scanN_unique (Nat.zero_le _) (by omega) (fun j _ hj=>?_) (fun _=>?_)⟩
  ·refine hne _ fun e=>h2 ?_
   have hj2:j < (s.take i).length:=by rw [List.length_take]; omega
   have:s.getD j 0=(s.take i)[j]:=by
    rw [List.getD_eq_getElem?_getD,List.getElem?_eq_getElem (by omega),Option.getD_some,List.getElem_take]
   rw [← e,this]
   exact List.getElem_mem hj2
  ·unfold pSl
   have hl:(s.take i).length=i:=by rw [List.length_take]; omega
   have:s.getD i 0=47:=by
    rw [h1,List.getD_eq_getElem?_getD,List.getElem?_append_right (by omega),hl,Nat.sub_self]; rfl
   rw [this]; rfl
noncomputable def hookSl:Blk:=hookP spSl 8 [] fun
 | [.s s,.i i]=>.br (propB (i=0) && szOK s) (.br (decide (Lib.indexByte s 47 < 0)) (.leaf (.normal,spSl,[.s s,.i s.length])) (.leaf (.ret,spSlR,[.i (Lib.indexByte s 47)]))) .fail
 | _=>.fail
noncomputable def pQ0b:Prims:=pR19.addb 111 0 hookSl
section
variable {A:Amb} (hT:Tab A) (hG:prog.globals.size≤A.G)
include hT hG
theorem pQ0b_ok:PrimOK prog A pQ0b:=by
 have hp:=lib2_ok hT
 refine PrimOK.addbP (pR19_ok hT hG) func111 (show f111.body=some code94 by kernel_rfl) (body:=.loop bodySl) (by kernel_rfl) (by kernel_rfl) fun ls e sq l h=>?_
 split at h
 ·rename_i s i
  obtain ⟨hc,hv⟩:=Tr.br1 h
  rw [Bool.and_eq_true] at hc
  have hi:=propB_eq hc.1
  have hs:s.length < 2 ^ 62:=of_decide_eq_true hc.2
  subst hi
  have key:∀ Bb:Heap,Bb.length=8→SEB prog A Bb (.loop bodySl) ⟨spSl.rho [.s s,.i 0],spSl.heap [.s s,.i 0],[]⟩ (if scanN (pSl s) (s.length - 0) 0 < s.length then .ret else .exit 0)
    (if scanN (pSl s) (s.length - 0) 0 < s.length then ⟨spSlR.rho [.i (scanN (pSl s) (s.length - 0) 0:Nat)],spSlR.heap [.i (scanN (pSl s) (s.length - 0) 0:Nat)],[]⟩ else ⟨spSl.rho [.s s,.i (scanN (pSl s) (s.length - 0) 0:Nat)],spSl.heap [.s s,.i (scanN (pSl s) (s.length - 0) 0:Nat)],[]⟩):=fun Bb hB =>
   SEB.scan (A:=A) (B0:=Bb) (c:=bodySl) (S:=fun n=>⟨spSl.rho [.s s,.i (n:Nat)],spSl.heap [.s s,.i (n:Nat)],[]⟩) (E:=fun n=>if n < s.length then ⟨spSlR.rho [.i (n:Nat)],spSlR.heap [.i (n:Nat)],[]⟩ else ⟨spSl.rho [.s s,.i (n:Nat)],spSl.heap [.s s,.i (n:Nat)],[]⟩)
    (e:=fun n=>if n < s.length then .ret else .exit 0) (p:=pSl s) (N:=s.length) (fun n=>by by_cases h:n < s.length <;> simp [h])
    (fun n hn hp1=>by
     have hk:=stepSl s n hs
     rw [if_pos hn,hp1,cond_true] at hk
     exact SEB.of_KP (A:=A) (B0:=Bb) (e:=.normal) hmix hnum hp (.none _) hB hk rfl)
    (fun n hn hp1=>by
     have hk:=stepSl s n hs
     by_cases hlt:n < s.length
     ·rw [if_pos hlt,hp1 hlt,cond_false] at hk
      simp only [if_pos hlt]
      exact SEB.of_KP (A:=A) (B0:=Bb) (e:=.ret) hmix hnum hp (.none _) hB hk rfl
     ·rw [if_neg hlt] at hk
      simp only [if_neg hlt]
      exact SEB.of_KP (A:=A) (B0:=Bb) (e:=.exit 0) hmix hnum hp (.none _) hB hk rfl) 0 (Nat.zero_le _)
  rcases scan_cut s with ⟨e1,e2⟩ | ⟨i,e0,e1,e2⟩
  ·rw [e1,decide_eq_true (show (-1:Int) < 0 by omega)] at hv
   cases hv
   refine ⟨⟨.inr rfl,.inr rfl,.inr rfl,.inr rfl,.inr rfl,.inr rfl,.inr rfl,.inr rfl,trivial⟩,fun Bb hB=>SEB.block_exit (id:=0) ?_⟩
   have:=key Bb hB
   rw [if_neg (by omega),if_neg (by omega),e2] at this
   exact this
  ·rw [e1,decide_eq_false (show ¬ ((i:Nat):Int) < 0 by omega)] at hv
   cases hv
   refine ⟨⟨.inr rfl,.inr rfl,.inr rfl,.inr rfl,.inr rfl,.inr rfl,.inr rfl,.inr rfl,trivial⟩,fun Bb hB=>SEB.block_other (id:=0) ?_ (by simp)⟩
   have:=key Bb hB
   rw [if_pos (by omega),if_pos (by omega),e2] at this
   exact this
 ·cases h
end
theorem run94 (a:List UInt8):(runK prog pQ0b 60).call 111 [.sstr a] (Bg 8) finV =
  brK (propB ((0:Int)=0) && szOK a) (brK (decide (Lib.indexByte a 47 < 0)) (some (.int .i64 (-1))) (some (.sint .i64 (Lib.indexByte a 47)))) none:=by kernel_rfl
noncomputable def T94:List Lf→Tr AV
 | [.s a]=>.br (szOK a) (.leaf (.sint .i64 (Lib.indexByte a 47))) .fail
 | _=>.fail
noncomputable def pQ0:Prims:=pR19.addt 111 (gP [.str] T94)
theorem pQ0_ok {A:Amb} (hT:Tab A) (hG:prog.globals.size≤A.G):PrimOK prog A pQ0:=by
 refine PrimOK.addP hmix hnum (pQ0b_ok hT hG) (pR19_ok hT hG) hG func111 (by kernel_rfl) fun ls v h=>?_
 unfold T94 at h
 split at h
 ·rename_i a
  obtain ⟨hc,hv⟩:=Tr.br1 h
  cases hv
  have hr:=run94 a
  rw [hc,propB_true rfl] at hr
  rcases cutAt_index 47 a with ⟨e1,e2⟩ | ⟨i,e0,e1,e2⟩
  ·rw [e1] at hr ⊢
   exact ⟨rfl,60,.int .i64 (-1),by rw [gsz]; exact hr,rfl,fun ι x h=>vr_int rfl x h⟩
  ·rw [e1,decide_eq_false (show ¬ ((i:Nat):Int) < 0 by omega)] at hr
   rw [e1]
   exact ⟨rfl,60,_,by rw [gsz]; exact hr,rfl,fun ι x h=>h⟩
 ·cases h
theorem run57 (a:List UInt8):(runK prog pQ0 60).call 72 (spS1.rho [.s a]) (spS1.heap [.s a]) (finQ spSS 8 []) =
  brK (szOK a) (brK (decide (Lib.indexByte a 47 < 0)) (some [.s a,.s [49]]) (brK (decide (0≤Lib.indexByte a 47∧Lib.indexByte a 47≤(a.length:Int)) && true) (brK (true && decide (0≤W (Lib.indexByte a 47+1)∧W (Lib.indexByte a 47+1)≤(a.length:Int)))
   (some [.s ((a.take (Lib.indexByte a 47).toNat).drop 0),.s ((a.take a.length).drop (W (Lib.indexByte a 47+1)).toNat)]) none) none)) none:=by kernel_rfl
noncomputable def T57:List Lf→Tr (SP × List Lf)
 | [.s a]=>.br (szOK a) (.leaf (spSS,[.s (cutR a).1,.s (cutR a).2.1])) .fail
 | _=>.fail
noncomputable def pQ1:Prims:=pQ0.addh 72 (liftG 8 (funQ spS1 8 [] T57))
theorem pQ1_ok {A:Amb} (hT:Tab A) (hG:prog.globals.size≤A.G):PrimOK prog A pQ1:=by
 refine (pQ0_ok hT hG).addl gsz func72 (by kernel_rfl) (funQ_ok hmix hnum rfl fun ls sq l h=>?_)
 unfold T57 at h
 split at h
 ·rename_i a
  obtain ⟨hc,hv⟩:=Tr.br1 h
  cases hv
  refine ⟨⟨.inr rfl,.inr rfl,.inr rfl,.inr rfl,.inr rfl,.inr rfl,.inr rfl,.inr rfl,trivial⟩,rfl,pQ0,60,_,pQ0_ok hT hG,(run57 a).trans ?_,fun _ _=>.refl⟩
  have hsz:a.length < 2 ^ 62:=of_decide_eq_true hc
  rw [hc,brK_t]
  unfold cutR
  rcases cutAt_index 47 a with ⟨e1,e2⟩ | ⟨i,e0,e1,e2⟩
  ·rw [e1,e2]; rfl
  ·have e3:W ((i:Int)+1)=((i+1:Nat):Int):=by rw [W_id (by omega) (by omega)]; omega
   rw [e1,e2,e3,decide_eq_false (show ¬ (i:Int) < 0 by omega),decide_eq_true (show 0≤(i:Int)∧(i:Int)≤(a.length:Int) by omega),decide_eq_true (show 0≤((i+1:Nat):Int)∧((i+1:Nat):Int)≤(a.length:Int) by omega),
    Int.toNat_natCast,Int.toNat_natCast,List.take_length,List.drop_zero]
   rfl
 ·cases h
end Go.Proofs.Tryz
namespace Go.Proofs.Tryz
open Go.Ad
open Go.Lib (decDigits itoa nDigits)
noncomputable abbrev joinQ (n d:List UInt8):Option (List Lf) :=
 brK (d == [49]) (some [.s n]) (brK (decide (n.length+1 < 4611686018427387904)) (brK (decide ((n++[47]).length+d.length < 4611686018427387904)) (some [.s (n++[47]++d)]) none) none)
noncomputable abbrev quoQ (a b g:List UInt8):Option (List Lf) :=
 brK (propB (zOKp a∧zOKp g∧¬ dvalZ g=0)) (brK (propB (zOKp b∧zOKp g∧¬ dvalZ g=0)) (joinQ (itoa ((dvalZ a).fdiv (dvalZ g))) (itoa ((dvalZ b).fdiv (dvalZ g)))) none) none
noncomputable abbrev lowQ (a b g:List UInt8):Option (List Lf) :=
 brK (propB (isZ b)) (brK (decide (dvalZ b < 0)) (brK (propB (zOK g)) (quoQ a b (itoa (-dvalZ g))) none) (quoQ a b g)) none
theorem run102 (a b:List UInt8):(runK prog pQ1 60).call 70 (spSS.rho [.s a,.s b]) (spSS.heap [.s a,.s b]) (finP spS1 8 []) =
  brK (propB (zOKp a∧zOKp b)) (lowQ a b (itoa (Int.gcd (dvalZ a) (dvalZ b):Nat))) none:=by kernel_rfl
theorem fdiv_abs {A G:Int} (hd:G ∣ A) (h0:G ≠ 0):(A.fdiv G).natAbs≤A.natAbs:=by
 obtain ⟨q,rfl⟩:=hd
 rw [Int.mul_fdiv_cancel_left _ h0,Int.natAbs_mul]
 have:1≤G.natAbs:=by omega
 exact Nat.le_mul_of_pos_left _ this
theorem itoa_mono {A B:Int} (h:A.natAbs≤B.natAbs):(itoa A).length≤(itoa B).length+1:=by
 have h1:=itoa_len A
 have h2:=dec_len_mono h
 have h3:(decDigits B.natAbs).length≤(itoa B).length:=by
  have:=itoa_abs B
  by_cases hb:B < 0
  ·rw [if_pos hb] at this
   rw [← this,List.length_drop]; omega
  ·rw [if_neg hb] at this
   rw [this]; exact Nat.le_refl _
 omega
theorem quoQ_eq {a b:List UInt8} {G:Int} (ha:zOKp a) (hb:zOKp b) (h0:G ≠ 0) (h1:G ∣ dvalZ a) (h2:G ∣ dvalZ b) (hg:zOKp (itoa G)):quoQ a b (itoa G)=some [.s (ratT ((dvalZ a).fdiv G) ((dvalZ b).fdiv G))]:=by
 have l1:=itoa_mono (fdiv_abs h1 h0)
 have l2:=itoa_mono (fdiv_abs h2 h0)
 have e1:itoa (dvalZ a)=a:=ha.1.symm
 have e2:itoa (dvalZ b)=b:=hb.1.symm
 rw [e1] at l1
 rw [e2] at l2
 have la:=ha.2
 have lb:=hb.2
 unfold quoQ joinQ ratT
 rw [dvalZ_itoa,propB_true ⟨ha,hg,h0⟩,propB_true ⟨hb,hg,h0⟩,brK_t,brK_t]
 generalize itoa ((dvalZ a).fdiv G)=n at *
 generalize itoa ((dvalZ b).fdiv G)=d at *
 cases d == [49] with
 | true=>rfl
 | false =>
  have e3:(n++[47]).length+d.length < 4611686018427387904:=by rw [List.length_append]; simp only [List.length_cons,List.length_nil]; omega
  rw [decide_eq_true (show n.length+1 < 4611686018427387904 by omega),decide_eq_true e3]
  rfl
theorem lowQ_eq {a b:List UInt8} (ha:zOKp a) (hb:zOKp b) (h0:dvalZ b ≠ 0):lowQ a b (itoa (Int.gcd (dvalZ a) (dvalZ b):Nat))=some [.s (lowT (dvalZ a) (dvalZ b))]:=by
 have hn:=gcd_ne (A:=dvalZ a) h0
 have hd1:((Int.gcd (dvalZ a) (dvalZ b):Nat):Int) ∣ dvalZ a:=Int.gcd_dvd_left ..
 have hd2:((Int.gcd (dvalZ a) (dvalZ b):Nat):Int) ∣ dvalZ b:=Int.gcd_dvd_right ..
 have hle:Int.gcd (dvalZ a) (dvalZ b)≤(dvalZ b).natAbs:=by
  have:=Int.natAbs_dvd_natAbs.2 hd2
  rw [Int.natAbs_natCast] at this
  exact Nat.le_of_dvd (by omega) this
 have e2:itoa (dvalZ b)=b:=hb.1.symm
 have lb:=hb.2
 have lg:(itoa ((Int.gcd (dvalZ a) (dvalZ b):Nat):Int)).length≤b.length:=by
  have h1:=dec_len_mono hle
  rw [itoaN]
  have h3:=isZ_abs hb.1
  have h4:=(absT_len1 b).1
  rw [h3,itoaN] at h4
  omega
 unfold lowQ lowT sgG
 rw [propB_true hb.1,brK_t,dvalZ_itoa]
 by_cases h:dvalZ b < 0
 ·rw [decide_eq_true h,brK_t,if_pos h,propB_true ⟨isZ_itoa _,by omega⟩,brK_t]
  refine quoQ_eq ha hb (by omega) (Int.neg_dvd.2 hd1) (Int.neg_dvd.2 hd2) ⟨isZ_itoa _,?_⟩
  have hl:(itoa (-((Int.gcd (dvalZ a) (dvalZ b):Nat):Int))).length=(decDigits (Int.gcd (dvalZ a) (dvalZ b))).length+1:=by
   unfold itoa
   rw [if_pos (by omega),List.length_cons,Int.natAbs_neg,Int.natAbs_natCast]
  rw [itoaN] at lg
  have hb1:b.length=(decDigits (dvalZ b).natAbs).length+1:=by
   conv=>lhs; rw [← e2]
   unfold itoa
   rw [if_pos h,List.length_cons]
  have:=dec_len_mono hle
  omega
 ·rw [decide_eq_false h,brK_f,if_neg h]
  exact quoQ_eq ha hb hn hd1 hd2 ⟨isZ_itoa _,by omega⟩
noncomputable def T102:List Lf→Tr (SP × List Lf)
 | [.s a,.s b]=>.br (propB (zOKp a∧zOKp b∧dvalZ b ≠ 0)) (.leaf (spS1,[.s (lowT (dvalZ a) (dvalZ b))])) .fail
 | _=>.fail
noncomputable def pQ4:Prims:=pQ1.addh 70 (liftG 8 (funP spSS 8 [] T102))
theorem pQ4_ok {A:Amb} (hT:Tab A) (hG:prog.globals.size≤A.G):PrimOK prog A pQ4:=by
 refine (pQ1_ok hT hG).addl gsz func70 (by kernel_rfl) (funP_ok hmix hnum rfl fun ls sq l h=>?_)
 unfold T102 at h
 split at h
 ·rename_i a b
  obtain ⟨hc,hv⟩:=Tr.br1 h
  cases hv
  obtain ⟨ha,hb,h0⟩:=propB_eq hc
  refine ⟨⟨.inr rfl,.inr rfl,.inr rfl,.inr rfl,.inr rfl,.inr rfl,.inr rfl,.inr rfl,trivial⟩,rfl,rfl,pQ1,60,pQ1_ok hT hG,(run102 a b).trans ?_⟩
  rw [propB_true ⟨ha,hb⟩,brK_t]
  exact lowQ_eq ha hb h0
 ·cases h
end Go.Proofs.Tryz
namespace Go.Proofs.Tryz
open Go.Ad
open Go.Lib (decDigits itoa nDigits)
theorem errQ_ok {a:List UInt8} (h:errQ a=0):errI (cutR a).1=0∧errI (cutR a).2.1=0∧1≤dvalZ (cutR a).2.1∧Int.gcd (dvalZ (cutR a).1) (dvalZ (cutR a).2.1)=1:=by
 unfold errQ at h
 split at h
 ·cases h
 ·split at h
  ·cases h
  ·rename_i h1 h2
   split at h
   ·cases h
   ·rename_i h3
    rw [not_or] at h1 h2
    have e1:errI (cutR a).1=0:=Decidable.not_not.1 h2.1
    have e2:errI (cutR a).2.1=0:=Decidable.not_not.1 h2.2
    refine ⟨e1,e2,?_⟩
    cases hw:(cutR a).2.2 with
    | true =>
     have h4:1 < dvalZ (cutR a).2.1∧Int.gcd (dvalZ (cutR a).1) (dvalZ (cutR a).2.1)=1:=by
      by_cases hc:1 < dvalZ (cutR a).2.1∧Int.gcd (dvalZ (cutR a).1) (dvalZ (cutR a).2.1)=1
      ·exact hc
      ·exact (h3 ⟨hw,hc⟩).elim
     exact ⟨by omega,h4.2⟩
    | false =>
     have:(cutR a).2.1=[49]:=by
      unfold cutR at hw ⊢
      cases hc:cutAt 47 a with
      | none=>rfl
      | some p=>rw [hc] at hw; cases hw
     rw [this,show dvalZ [49]=1 from rfl]
     exact ⟨by omega,by rw [Int.gcd_one]⟩
theorem no_slash (n:Int):(47:UInt8) ∉ itoa n:=fun hm=>by
 unfold itoa at hm
 have hd:∀ U:Nat,(47:UInt8) ∉ decDigits U:=fun U hm=>by
  have:=dec_digit U 47 hm
  exact absurd this.1 (by decide)
 split at hm
 ·cases hm with
  | tail _ hm=>exact hd _ hm
 ·exact hd _ hm
theorem cutR_ratT (N D:Int):(cutR (ratT N D)).1=itoa N∧(cutR (ratT N D)).2.1=itoa D:=by
 unfold ratT
 cases h:itoa D == [49] with
 | true =>
  have h:itoa D=[49]:=by simpa using h
  unfold cutR
  rw [cond_true,cutAt_none (no_slash N),h]
  exact ⟨rfl,rfl⟩
 | false =>
  unfold cutR
  rw [cond_false,List.append_assoc,show itoa N++([47]++itoa D)=itoa N++47 :: itoa D from rfl,cutAt_mk (no_slash N)]
  exact ⟨rfl,rfl⟩
end Go.Proofs.Tryz
namespace Go.Proofs.Tryz
open Go.Ad
open Go.Lib (decDigits itoa nDigits decFrom digitVal)
noncomputable def pH0:Prims:=pQ4.over pG0
theorem pH0_ok {A:Amb} (hT:Tab A) (hG:prog.globals.size≤A.G):PrimOK prog A pH0:=(pQ4_ok hT hG).over (pG0_ok hT hG)
theorem run85 (a:List UInt8):(runK prog pH0 60).call 85 [.sstr a] (Bg 8) finV=brK (szH a) (some (.sint .i64 (errQ a))) none:=by kernel_rfl
noncomputable def T85:List Lf→Tr AV
 | [.s a]=>.br (propB (errQ a=0∧szH a=true)) (.leaf (.int .i64 0)) .fail
 | _=>.fail
noncomputable def pH:Prims:=pH0.addt 85 (gP [.str] T85)
theorem pH_ok {A:Amb} (hT:Tab A) (hG:prog.globals.size≤A.G):PrimOK prog A pH:=by
 refine PrimOK.addP hmix hnum (pH0_ok hT hG) (pH0_ok hT hG) hG func85 (by kernel_rfl) fun ls v h=>?_
 unfold T85 at h
 split at h
 ·rename_i a
  obtain ⟨hc,hv⟩:=Tr.br1 h
  cases hv
  obtain ⟨h1,h2⟩:=propB_eq hc
  refine ⟨rfl,60,.sint .i64 (errQ a),?_,rfl,fun ι x h=>?_⟩
  ·rw [gsz]
   refine (run85 a).trans ?_
   rw [h2]; rfl
  ·rw [h1] at h
   simpa only [VR] using h
 ·cases h
noncomputable abbrev mK (x y:List UInt8) (k:List UInt8→Option (List Lf)):Option (List Lf) :=
 brK (propB (errI x=0∧errI y=0∧True∧errI (itoa (dvalZ x*dvalZ y))=0)) (k (itoa (dvalZ x*dvalZ y))) none
noncomputable abbrev aK (x y:List UInt8) (k:List UInt8→Option (List Lf)):Option (List Lf) :=
 brK (propB (errI x=0∧errI y=0∧True∧errI (itoa (dvalZ x+dvalZ y))=0)) (k (itoa (dvalZ x+dvalZ y))) none
noncomputable abbrev endK (num den:List UInt8):Option (List Lf) :=
 brK (den == [48]) (some [.s [],.i 10]) (brK (propB (errI num=0∧errI den=0∧dvalZ den ≠ 0)) (some [.s (lowT (dvalZ num) (dvalZ den)),.i 0]) none)
noncomputable abbrev preK (a b:List UInt8) (k:Option (List Lf)):Option (List Lf) :=
 brK (propB (errQ a=0∧szH a=true)) (brK (propB (errQ b=0∧szH b=true)) (brK (szOK a) (brK (szOK b) k none) none) none) none
noncomputable abbrev mulQ (n p m q:List UInt8):Option (List Lf):=mK [49] n fun x=>mK x m fun num=>mK [49] p fun y=>mK y q fun den=>endK num den
noncomputable abbrev addQ (n p m q:List UInt8):Option (List Lf):=mK [49] n fun x=>mK x q fun x2=>mK [49] m fun y=>mK y p fun y2=>aK x2 y2 fun num=>mK [49] p fun z=>mK z q fun den=>endK num den
noncomputable abbrev divQ (n p m q:List UInt8):Option (List Lf):=mK [49] n fun x=>mK x q fun num=>mK [49] p fun y=>mK y m fun den=>endK num den
theorem run25 (a b:List UInt8):(runK prog pH 60).call 25 (spSS.rho [.s a,.s b]) (spSS.heap [.s a,.s b]) (finQ spRI 8 [])=preK a b (mulQ (cutR a).1 (cutR a).2.1 (cutR b).1 (cutR b).2.1):=by kernel_rfl
theorem run48 (a b:List UInt8):(runK prog pH 60).call 48 (spSS.rho [.s a,.s b]) (spSS.heap [.s a,.s b]) (finQ spRI 8 [])=preK a b (addQ (cutR a).1 (cutR a).2.1 (cutR b).1 (cutR b).2.1):=by kernel_rfl
noncomputable abbrev cmpK2 (n p m q:List UInt8):Option (List Lf):=mK [49] n fun x=>mK x q fun x2=>mK [49] m fun y=>mK y p fun y2=>brK (szOK x2 && szOK y2) (some [.i (cmpR x2 y2).1,.i (cmpR x2 y2).2]) none
def spII2:SP:=⟨[.int .i64,.int .i64],dd8⟩
theorem run27 (a b:List UInt8):(runK prog pH 60).call 27 (spSS.rho [.s a,.s b]) (spSS.heap [.s a,.s b]) (finQ spII2 8 [])=preK a b (cmpK2 (cutR a).1 (cutR a).2.1 (cutR b).1 (cutR b).2.1):=by kernel_rfl
theorem run44 (a b:List UInt8):(runK prog pH 60).call 44 (spSS.rho [.s a,.s b]) (spSS.heap [.s a,.s b]) (finQ spRI 8 []) =
  brK (propB (errQ a=0∧szH a=true)) (brK (propB (errQ b=0∧szH b=true)) (brK (b == [48]) (some [.s [],.i 10]) (preK a b (divQ (cutR a).1 (cutR a).2.1 (cutR b).1 (cutR b).2.1))) none) none:=by kernel_rfl
theorem errI_lt {X:Int} {i:Nat} (h:X.natAbs < 10 ^ i) (hi:i≤1024) (h1:1≤i):errI (itoa X)=0:=by
 rw [errI_itoa,if_neg]
 have:=dec_len_lt h h1
 omega
theorem mul_lt {X Y:Int} {i j:Nat} (hX:X.natAbs < 10 ^ i) (hY:Y.natAbs < 10 ^ j):(X*Y).natAbs < 10 ^ (i+j):=by
 rw [Int.natAbs_mul,Nat.pow_add]
 exact Nat.mul_lt_mul'' hX hY
theorem mK_eq {X Y:Int} {i j:Nat} (k:List UInt8→Option (List Lf)) (hX:X.natAbs < 10 ^ i) (hY:Y.natAbs < 10 ^ j) (h1:1≤i) (h2:1≤j) (hij:i+j≤1024):mK (itoa X) (itoa Y) k=k (itoa (X*Y)):=by
 unfold mK
 rw [dvalZ_itoa,dvalZ_itoa,propB_true ⟨errI_lt hX (by omega) h1,errI_lt hY (by omega) h2,trivial,errI_lt (mul_lt hX hY) hij (by omega)⟩]
 rfl
theorem add_lt {X Y:Int} {i:Nat} (hX:X.natAbs < 10 ^ i) (hY:Y.natAbs < 10 ^ i):(X+Y).natAbs < 10 ^ (i+1):=by
 have h1:=Int.natAbs_add_le X Y
 have h2:=pow10_succ (i+1) i rfl
 omega
theorem aK_eq {X Y:Int} {i:Nat} (k:List UInt8→Option (List Lf)) (hX:X.natAbs < 10 ^ i) (hY:Y.natAbs < 10 ^ i) (h1:1≤i) (hij:i+1≤1024):aK (itoa X) (itoa Y) k=k (itoa (X+Y)):=by
 unfold aK
 rw [dvalZ_itoa,dvalZ_itoa,propB_true ⟨errI_lt hX (by omega) h1,errI_lt hY (by omega) h1,trivial,errI_lt (add_lt hX hY) hij (by omega)⟩]
 rfl
theorem endK_eq {X Y:Int} {i j:Nat} (hX:X.natAbs < 10 ^ i) (hY:Y.natAbs < 10 ^ j) (h1:1≤i) (h2:1≤j) (hi:i≤1024) (hj:j≤1024) (h0:Y ≠ 0):endK (itoa X) (itoa Y)=some [.s (lowT X Y),.i 0]:=by
 unfold endK
 rw [itoa_is0,decide_eq_false h0,dvalZ_itoa,dvalZ_itoa,propB_true ⟨errI_lt hX hi h1,errI_lt hY hj h2,h0⟩]
 rfl
def smQ (a:List UInt8):Prop:=errQ a=0∧szH a=true∧(dvalZ (cutR a).1).natAbs < 10 ^ 100∧(dvalZ (cutR a).2.1).natAbs < 10 ^ 100
theorem smQ_parts {a:List UInt8} (h:smQ a):(cutR a).1=itoa (dvalZ (cutR a).1)∧(cutR a).2.1=itoa (dvalZ (cutR a).2.1)∧1≤dvalZ (cutR a).2.1:=by
 obtain ⟨e1,e2,e3,_⟩:=errQ_ok h.1
 exact ⟨itoa_of e1,itoa_of e2,e3⟩
theorem preK_eq {a b:List UInt8} {k:Option (List Lf)} (ha:smQ a) (hb:smQ b):preK a b k=k:=by
 unfold preK
 rw [propB_true ⟨ha.1,ha.2.1⟩,propB_true ⟨hb.1,hb.2.1⟩,szH_sz ha.2.1,szH_sz hb.2.1]
 rfl
theorem one_lt:(1:Int).natAbs < 10 ^ 1:=by decide
section
variable {N P M Q:Int} (hN:N.natAbs < 10 ^ 100) (hP:P.natAbs < 10 ^ 100) (hM:M.natAbs < 10 ^ 100) (hQ:Q.natAbs < 10 ^ 100)
include hN hP hM hQ
theorem mulQ_eq (p0:1≤P) (q0:1≤Q):mulQ (itoa N) (itoa P) (itoa M) (itoa Q)=some [.s (lowT (N*M) (P*Q)),.i 0]:=by
 unfold mulQ
 rw [← itoa_1,mK_eq _ one_lt hN (by omega) (by omega) (by omega),Int.one_mul,mK_eq _ hN hM (by omega) (by omega) (by omega),mK_eq _ one_lt hP (by omega) (by omega) (by omega),Int.one_mul,mK_eq _ hP hQ (by omega) (by omega) (by omega)]
 exact endK_eq (mul_lt hN hM) (mul_lt hP hQ) (by omega) (by omega) (by omega) (by omega) (Int.ne_of_gt (Int.mul_pos (by omega) (by omega)))
theorem addQ_eq (p0:1≤P) (q0:1≤Q):addQ (itoa N) (itoa P) (itoa M) (itoa Q)=some [.s (lowT (N*Q+M*P) (P*Q)),.i 0]:=by
 unfold addQ
 rw [← itoa_1,mK_eq _ one_lt hN (by omega) (by omega) (by omega),Int.one_mul,mK_eq _ hN hQ (by omega) (by omega) (by omega),mK_eq _ one_lt hM (by omega) (by omega) (by omega),Int.one_mul,mK_eq _ hM hP (by omega) (by omega) (by omega),
  aK_eq _ (mul_lt hN hQ) (mul_lt hM hP) (by omega) (by omega),mK_eq _ one_lt hP (by omega) (by omega) (by omega),Int.one_mul,mK_eq _ hP hQ (by omega) (by omega) (by omega)]
 exact endK_eq (add_lt (mul_lt hN hQ) (mul_lt hM hP)) (mul_lt hP hQ) (by omega) (by omega) (by omega) (by omega) (Int.ne_of_gt (Int.mul_pos (by omega) (by omega)))
theorem divQ_eq (p0:1≤P) (m0:M ≠ 0):divQ (itoa N) (itoa P) (itoa M) (itoa Q)=some [.s (lowT (N*Q) (P*M)),.i 0]:=by
 unfold divQ
 rw [← itoa_1,mK_eq _ one_lt hN (by omega) (by omega) (by omega),Int.one_mul,mK_eq _ hN hQ (by omega) (by omega) (by omega),mK_eq _ one_lt hP (by omega) (by omega) (by omega),Int.one_mul,mK_eq _ hP hM (by omega) (by omega) (by omega)]
 exact endK_eq (mul_lt hN hQ) (mul_lt hP hM) (by omega) (by omega) (by omega) (by omega) (Int.mul_ne_zero (by omega) m0)
theorem cmpK2_eq:cmpK2 (itoa N) (itoa P) (itoa M) (itoa Q)=some [.i (sgnZ (N*Q - M*P)),.i 0]:=by
 unfold cmpK2
 have z1:=errI_lt (mul_lt hN hQ) (by omega) (by omega)
 have z2:=errI_lt (mul_lt hM hP) (by omega) (by omega)
 rw [← itoa_1,mK_eq _ one_lt hN (by omega) (by omega) (by omega),Int.one_mul,mK_eq _ hN hQ (by omega) (by omega) (by omega),mK_eq _ one_lt hM (by omega) (by omega) (by omega),Int.one_mul,mK_eq _ hM hP (by omega) (by omega) (by omega),
  errI_sz z1,errI_sz z2,cmpR_ok z1 z2,dvalZ_itoa,dvalZ_itoa]
 rfl
end
def ratN (a:List UInt8):Int:=dvalZ (cutR a).1
def ratD (a:List UInt8):Int:=dvalZ (cutR a).2.1
noncomputable def TQ2 (f:Int→Int→Int→Int→List UInt8) (c:Int→Prop):List Lf→Tr (SP × List Lf)
 | [.s a,.s b]=>.br (propB (smQ a∧smQ b∧c (ratN b))) (.leaf (spRI,[.s (f (ratN a) (ratD a) (ratN b) (ratD b)),.i 0])) .fail
 | _=>.fail
noncomputable def TCmp:List Lf→Tr (SP × List Lf)
 | [.s a,.s b]=>.br (propB (smQ a∧smQ b)) (.leaf (spII2,[.i (sgnZ (ratN a*ratD b - ratN b*ratD a)),.i 0])) .fail
 | _=>.fail
noncomputable def pU1:Prims:=(((pH.addh 25 (liftG 8 (funQ spSS 8 [] (TQ2 (fun n p m q=>lowT (n*m) (p*q)) fun _=>True)))).addh 48 (liftG 8 (funQ spSS 8 [] (TQ2 (fun n p m q=>lowT (n*q+m*p) (p*q)) fun _=>True)))).addh 44
 (liftG 8 (funQ spSS 8 [] (TQ2 (fun n p m q=>lowT (n*q) (p*m)) fun m=>m ≠ 0)))).addh 27 (liftG 8 (funQ spSS 8 [] TCmp))
theorem fr8 {ls l:List Lf} {sp sq:SP} (h1:sp.heap ls=Bg 8) (h2:sq.heap l=Bg 8):frP [] 0 (sp.heap ls) (sq.heap l):=by
 rw [h1,h2]
 exact ⟨.inr rfl,.inr rfl,.inr rfl,.inr rfl,.inr rfl,.inr rfl,.inr rfl,.inr rfl,trivial⟩
theorem pU1_ok {A:Amb} (hT:Tab A) (hG:prog.globals.size≤A.G):PrimOK prog A pU1:=by
 have hp:=pH_ok hT hG
 refine (((hp.addl gsz func25 (by kernel_rfl) (funQ_ok hmix hnum rfl fun ls sq l h=>?_)).addl gsz func48 (by kernel_rfl) (funQ_ok hmix hnum rfl fun ls sq l h=>?_)).addl gsz func44 (by kernel_rfl) (funQ_ok hmix hnum rfl fun ls sq l h=>?_)).addl gsz func27 (by kernel_rfl) (funQ_ok hmix hnum rfl fun ls sq l h=>?_)
 ·unfold TQ2 at h
  split at h
  ·rename_i a b
   obtain ⟨hc,hv⟩:=Tr.br1 h
   cases hv
   obtain ⟨h1,h2,_⟩:=propB_eq hc
   obtain ⟨z1,z2,z3⟩:=smQ_parts h1
   obtain ⟨y1,y2,y3⟩:=smQ_parts h2
   refine ⟨fr8 rfl rfl,rfl,pH,60,_,hp,(run25 a b).trans ?_,fun _ _=>.refl⟩
   rw [preK_eq h1 h2,z1,z2,y1,y2]
   exact mulQ_eq h1.2.2.1 h1.2.2.2 h2.2.2.1 h2.2.2.2 z3 y3
  ·cases h
 ·unfold TQ2 at h
  split at h
  ·rename_i a b
   obtain ⟨hc,hv⟩:=Tr.br1 h
   cases hv
   obtain ⟨h1,h2,_⟩:=propB_eq hc
   obtain ⟨z1,z2,z3⟩:=smQ_parts h1
   obtain ⟨y1,y2,y3⟩:=smQ_parts h2
   refine ⟨fr8 rfl rfl,rfl,pH,60,_,hp,(run48 a b).trans ?_,fun _ _=>.refl⟩
   rw [preK_eq h1 h2,z1,z2,y1,y2]
   exact addQ_eq h1.2.2.1 h1.2.2.2 h2.2.2.1 h2.2.2.2 z3 y3
  ·cases h
 ·unfold TQ2 at h
  split at h
  ·rename_i a b
   obtain ⟨hc,hv⟩:=Tr.br1 h
   cases hv
   obtain ⟨h1,h2,h3⟩:=propB_eq hc
   obtain ⟨z1,z2,z3⟩:=smQ_parts h1
   obtain ⟨y1,y2,y3⟩:=smQ_parts h2
   refine ⟨fr8 rfl rfl,rfl,pH,60,_,hp,(run44 a b).trans ?_,fun _ _=>.refl⟩
   have hb:(b == [48])=false:=by
    rw [beq_eq_false_iff_ne]
    intro e
    subst e
    exact h3 rfl
   rw [propB_true ⟨h1.1,h1.2.1⟩,propB_true ⟨h2.1,h2.2.1⟩,hb,preK_eq h1 h2,z1,z2,y1,y2]
   exact divQ_eq h1.2.2.1 h1.2.2.2 h2.2.2.1 h2.2.2.2 z3 h3
  ·cases h
 ·unfold TCmp at h
  split at h
  ·rename_i a b
   obtain ⟨hc,hv⟩:=Tr.br1 h
   cases hv
   obtain ⟨h1,h2⟩:=propB_eq hc
   obtain ⟨z1,z2,z3⟩:=smQ_parts h1
   obtain ⟨y1,y2,y3⟩:=smQ_parts h2
   refine ⟨fr8 rfl rfl,rfl,pH,60,_,hp,(run27 a b).trans ?_,fun _ _=>.refl⟩
   rw [preK_eq h1 h2,z1,z2,y1,y2]
   exact cmpK2_eq h1.2.2.1 h1.2.2.2 h2.2.2.1 h2.2.2.2
  ·cases h
end Go.Proofs.Tryz
namespace Go.Proofs.Tryz
open Go.Ad
open Go.Lib (decDigits itoa nDigits decFrom digitVal)
noncomputable abbrev crK (a b n p m q:List UInt8) (k:Option (List Lf)):Option (List Lf) :=
 brK (szOK a) (brK (szOK b) (brK (propB (zOK n∧zOK q)) (brK (propB (zOK m∧zOK p)) (brK (propB (zOK p∧zOK q)) (brK (propB (zOK n∧zOK m)) (brK (propB (zOK p∧zOK m)) k none) none) none) none) none) none) none
noncomputable abbrev lowK (x y:List UInt8):Option (List Lf):=brK (propB (zOKp x∧zOKp y∧dvalZ y ≠ 0)) (some [.s (lowT (dvalZ x) (dvalZ y))]) none
abbrev prT (x y:List UInt8):List UInt8:=itoa (dvalZ x*dvalZ y)
theorem run37 (a b:List UInt8):(runK prog pU1 60).call 37 (spSS.rho [.s a,.s b]) (spSS.heap [.s a,.s b]) (finP spS1 8 [])=crK a b (cutR a).1 (cutR a).2.1 (cutR b).1 (cutR b).2.1 (lowK (prT (cutR a).1 (cutR b).1) (prT (cutR a).2.1 (cutR b).2.1)):=by kernel_rfl
theorem run45 (a b:List UInt8):(runK prog pU1 60).call 45 (spSS.rho [.s a,.s b]) (spSS.heap [.s a,.s b]) (finP spS1 8 [])=crK a b (cutR a).1 (cutR a).2.1 (cutR b).1 (cutR b).2.1 (lowK (prT (cutR a).1 (cutR b).2.1) (prT (cutR a).2.1 (cutR b).1)):=by kernel_rfl
theorem run49 (a b:List UInt8):(runK prog pU1 60).call 49 (spSS.rho [.s a,.s b]) (spSS.heap [.s a,.s b]) (finP spS1 8 [])=crK a b (cutR a).1 (cutR a).2.1 (cutR b).1 (cutR b).2.1
  (brK (propB (zOK (prT (cutR a).1 (cutR b).2.1)∧zOK (prT (cutR b).1 (cutR a).2.1))) (lowK (itoa (dvalZ (prT (cutR a).1 (cutR b).2.1)+dvalZ (prT (cutR b).1 (cutR a).2.1))) (prT (cutR a).2.1 (cutR b).2.1)) none):=by kernel_rfl
theorem run71 (a b:List UInt8):(runK prog pU1 60).call 71 (spSS.rho [.s a,.s b]) (spSS.heap [.s a,.s b]) (finP spI 8 [])=crK a b (cutR a).1 (cutR a).2.1 (cutR b).1 (cutR b).2.1
  (brK (propB (zOK' (prT (cutR a).1 (cutR b).2.1)∧zOK' (prT (cutR b).1 (cutR a).2.1))) (some [.i (sgnZ (dvalZ (prT (cutR a).1 (cutR b).2.1) - dvalZ (prT (cutR b).1 (cutR a).2.1)))]) none):=by kernel_rfl
theorem zOKp_lt {X:Int} {i:Nat} (h:X.natAbs < 10 ^ i) (h1:1≤i) (h2:i≤1000):zOKp (itoa X):=by
 refine ⟨isZ_itoa _,?_⟩
 have:=itoa_len_le h h1
 have:(1001:Nat) < 2 ^ 24:=by decide
 omega
theorem zOK_lt {X:Int} {i:Nat} (h:X.natAbs < 10 ^ i) (h1:1≤i) (h2:i≤1000):zOK (itoa X):=zOK'_ok (zOKp_ok (zOKp_lt h h1 h2))
theorem lowK_eq {X Y:Int} {i j:Nat} (hX:X.natAbs < 10 ^ i) (hY:Y.natAbs < 10 ^ j) (h1:1≤i) (h2:1≤j) (hi:i≤1000) (hj:j≤1000) (h0:Y ≠ 0):lowK (itoa X) (itoa Y)=some [.s (lowT X Y)]:=by
 unfold lowK
 rw [dvalZ_itoa,dvalZ_itoa,propB_true ⟨zOKp_lt hX h1 hi,zOKp_lt hY h2 hj,h0⟩]
 rfl
section
variable {a b:List UInt8} {N P M Q:Int} (hN:N.natAbs < 10 ^ 100) (hP:P.natAbs < 10 ^ 100) (hM:M.natAbs < 10 ^ 100) (hQ:Q.natAbs < 10 ^ 100)
include hN hP hM hQ
theorem crK_eq {k:Option (List Lf)} (ha:szH a=true) (hb:szH b=true):crK a b (itoa N) (itoa P) (itoa M) (itoa Q) k=k:=by
 have n:=zOK_lt hN (by omega) (by omega)
 have p:=zOK_lt hP (by omega) (by omega)
 have m:=zOK_lt hM (by omega) (by omega)
 have q:=zOK_lt hQ (by omega) (by omega)
 unfold crK
 rw [szH_sz ha,szH_sz hb,propB_true ⟨n,q⟩,propB_true ⟨m,p⟩,propB_true ⟨p,q⟩,propB_true ⟨n,m⟩,propB_true ⟨p,m⟩]
 rfl
theorem times_eq (p0:1≤P) (q0:1≤Q):lowK (prT (itoa N) (itoa M)) (prT (itoa P) (itoa Q))=some [.s (lowT (N*M) (P*Q))]:=by
 unfold prT
 rw [dvalZ_itoa,dvalZ_itoa,dvalZ_itoa,dvalZ_itoa]
 exact lowK_eq (mul_lt hN hM) (mul_lt hP hQ) (by omega) (by omega) (by omega) (by omega) (Int.ne_of_gt (Int.mul_pos (by omega) (by omega)))
theorem by_eq (p0:1≤P) (m0:M ≠ 0):lowK (prT (itoa N) (itoa Q)) (prT (itoa P) (itoa M))=some [.s (lowT (N*Q) (P*M))]:=by
 unfold prT
 rw [dvalZ_itoa,dvalZ_itoa,dvalZ_itoa,dvalZ_itoa]
 exact lowK_eq (mul_lt hN hQ) (mul_lt hP hM) (by omega) (by omega) (by omega) (by omega) (Int.mul_ne_zero (by omega) m0)
theorem plus_eq (p0:1≤P) (q0:1≤Q):brK (propB (zOK (prT (itoa N) (itoa Q))∧zOK (prT (itoa M) (itoa P)))) (lowK (itoa (dvalZ (prT (itoa N) (itoa Q))+dvalZ (prT (itoa M) (itoa P)))) (prT (itoa P) (itoa Q))) none=some [.s (lowT (N*Q+M*P) (P*Q))]:=by
 unfold prT
 rw [dvalZ_itoa,dvalZ_itoa,dvalZ_itoa,dvalZ_itoa,dvalZ_itoa,dvalZ_itoa,propB_true ⟨zOK_lt (mul_lt hN hQ) (by omega) (by omega),zOK_lt (mul_lt hM hP) (by omega) (by omega)⟩]
 exact lowK_eq (add_lt (mul_lt hN hQ) (mul_lt hM hP)) (mul_lt hP hQ) (by omega) (by omega) (by omega) (by omega) (Int.ne_of_gt (Int.mul_pos (by omega) (by omega)))
theorem order_eq:brK (propB (zOK' (prT (itoa N) (itoa Q))∧zOK' (prT (itoa M) (itoa P)))) (some [Lf.i (sgnZ (dvalZ (prT (itoa N) (itoa Q)) - dvalZ (prT (itoa M) (itoa P))))]) none=some [.i (sgnZ (N*Q - M*P))]:=by
 unfold prT
 rw [dvalZ_itoa,dvalZ_itoa,dvalZ_itoa,dvalZ_itoa,dvalZ_itoa,dvalZ_itoa,propB_true ⟨zOKp_ok (zOKp_lt (mul_lt hN hQ) (by omega) (by omega)),zOKp_ok (zOKp_lt (mul_lt hM hP) (by omega) (by omega))⟩]
 rfl
end
noncomputable def TQ1 (f:Int→Int→Int→Int→List UInt8) (c:Int→Prop):List Lf→Tr (SP × List Lf)
 | [.s a,.s b]=>.br (propB (smQ a∧smQ b∧c (ratN b))) (.leaf (spS1,[.s (f (ratN a) (ratD a) (ratN b) (ratD b))])) .fail
 | _=>.fail
noncomputable def TOrd:List Lf→Tr (SP × List Lf)
 | [.s a,.s b]=>.br (propB (smQ a∧smQ b)) (.leaf (spI,[.i (sgnZ (ratN a*ratD b - ratN b*ratD a))])) .fail
 | _=>.fail
noncomputable def pU2:Prims:=(((pU1.addh 37 (liftG 8 (funP spSS 8 [] (TQ1 (fun n p m q=>lowT (n*m) (p*q)) fun _=>True)))).addh 49 (liftG 8 (funP spSS 8 [] (TQ1 (fun n p m q=>lowT (n*q+m*p) (p*q)) fun _=>True)))).addh 45
 (liftG 8 (funP spSS 8 [] (TQ1 (fun n p m q=>lowT (n*q) (p*m)) fun m=>m ≠ 0)))).addh 71 (liftG 8 (funP spSS 8 [] TOrd))
theorem pU2_ok {A:Amb} (hT:Tab A) (hG:prog.globals.size≤A.G):PrimOK prog A pU2:=by
 have hp:=pU1_ok hT hG
 refine (((hp.addl gsz func37 (by kernel_rfl) (funP_ok hmix hnum rfl fun ls sq l h=>?_)).addl gsz func49 (by kernel_rfl) (funP_ok hmix hnum rfl fun ls sq l h=>?_)).addl gsz func45 (by kernel_rfl) (funP_ok hmix hnum rfl fun ls sq l h=>?_)).addl gsz func71 (by kernel_rfl) (funP_ok hmix hnum rfl fun ls sq l h=>?_)
 ·unfold TQ1 at h
  split at h
  ·rename_i a b
   obtain ⟨hc,hv⟩:=Tr.br1 h
   cases hv
   obtain ⟨h1,h2,_⟩:=propB_eq hc
   obtain ⟨z1,z2,z3⟩:=smQ_parts h1
   obtain ⟨y1,y2,y3⟩:=smQ_parts h2
   refine ⟨fr8 rfl rfl,rfl,rfl,pU1,60,hp,(run37 a b).trans ?_⟩
   rw [z1,z2,y1,y2,crK_eq h1.2.2.1 h1.2.2.2 h2.2.2.1 h2.2.2.2 h1.2.1 h2.2.1]
   exact times_eq h1.2.2.1 h1.2.2.2 h2.2.2.1 h2.2.2.2 z3 y3
  ·cases h
 ·unfold TQ1 at h
  split at h
  ·rename_i a b
   obtain ⟨hc,hv⟩:=Tr.br1 h
   cases hv
   obtain ⟨h1,h2,_⟩:=propB_eq hc
   obtain ⟨z1,z2,z3⟩:=smQ_parts h1
   obtain ⟨y1,y2,y3⟩:=smQ_parts h2
   refine ⟨fr8 rfl rfl,rfl,rfl,pU1,60,hp,(run49 a b).trans ?_⟩
   rw [z1,z2,y1,y2,crK_eq h1.2.2.1 h1.2.2.2 h2.2.2.1 h2.2.2.2 h1.2.1 h2.2.1]
   exact plus_eq h1.2.2.1 h1.2.2.2 h2.2.2.1 h2.2.2.2 z3 y3
  ·cases h
 ·unfold TQ1 at h
  split at h
  ·rename_i a b
   obtain ⟨hc,hv⟩:=Tr.br1 h
   cases hv
   obtain ⟨h1,h2,h3⟩:=propB_eq hc
   obtain ⟨z1,z2,z3⟩:=smQ_parts h1
   obtain ⟨y1,y2,y3⟩:=smQ_parts h2
   refine ⟨fr8 rfl rfl,rfl,rfl,pU1,60,hp,(run45 a b).trans ?_⟩
   rw [z1,z2,y1,y2,crK_eq h1.2.2.1 h1.2.2.2 h2.2.2.1 h2.2.2.2 h1.2.1 h2.2.1]
   exact by_eq h1.2.2.1 h1.2.2.2 h2.2.2.1 h2.2.2.2 z3 h3
  ·cases h
 ·unfold TOrd at h
  split at h
  ·rename_i a b
   obtain ⟨hc,hv⟩:=Tr.br1 h
   cases hv
   obtain ⟨h1,h2⟩:=propB_eq hc
   obtain ⟨z1,z2,z3⟩:=smQ_parts h1
   obtain ⟨y1,y2,y3⟩:=smQ_parts h2
   refine ⟨fr8 rfl rfl,rfl,rfl,pU1,60,hp,(run71 a b).trans ?_⟩
   rw [z1,z2,y1,y2,crK_eq h1.2.2.1 h1.2.2.2 h2.2.2.1 h2.2.2.2 h1.2.1 h2.2.1]
   exact order_eq h1.2.2.1 h1.2.2.2 h2.2.2.1 h2.2.2.2
  ·cases h
end Go.Proofs.Tryz
namespace Go.Proofs.Tryz
open Go.Ad
open Go.Lib (decDigits itoa nDigits decFrom digitVal)
def spIN:SP:=⟨[.int .i64],dd8⟩
def spIN2:SP:=⟨[.int .i64,.int .i64],dd8⟩
noncomputable abbrev ofK (n:Int) (k:List UInt8→Option (List Lf)):Option (List Lf):=brK (decide (-9223372036854775808≤n∧n≤9223372036854775807)) (k (itoa n)) none
noncomputable abbrev ofR (n:Int) (k:List UInt8→Option (List Lf)):Option (List Lf):=brK (propB (IntKind.i64=.i64∧-(2 ^ 63) < n∧n < 2 ^ 63)) (k (itoa n)) none
theorem run26 (n:Int):(runK prog pU2 60).call 26 (spIN.rho [.i n]) (spIN.heap [.i n]) (finP spS1 8 [])=ofK n fun s=>some [.s s]:=by kernel_rfl
theorem run46 (n:Int):(runK prog pU2 60).call 46 (spIN.rho [.i n]) (spIN.heap [.i n]) (finP spS1 8 [])=ofR n fun s=>some [.s s]:=by kernel_rfl
theorem run32 (n d:Int):(runK prog pU2 60).call 32 (spIN2.rho [.i n,.i d]) (spIN2.heap [.i n,.i d]) (finQ spRI 8 [])=ofK n fun a=>ofK d fun b=>brK (szOK a && szOK b) (some [.s (makeR a b).1,.i (makeR a b).2]) none:=by kernel_rfl
theorem run68 (n d:Int):(runK prog pU2 60).call 68 (spIN2.rho [.i n,.i d]) (spIN2.heap [.i n,.i d]) (finP spS1 8 [])=ofR n fun a=>ofR d fun b=>lowK a b:=by kernel_rfl
def smN (n:Int):Prop:=-(2 ^ 62) < n∧n < 2 ^ 62
theorem smN_lt {n:Int} (h:smN n):n.natAbs < 10 ^ 19:=by
 have:=h.1
 have:=h.2
 omega
theorem ofK_eq {n:Int} {k:List UInt8→Option (List Lf)} (h:smN n):ofK n k=k (itoa n):=by
 have h1:=h.1
 have h2:=h.2
 unfold ofK
 rw [decide_eq_true (show -9223372036854775808≤n∧n≤9223372036854775807 by omega)]; rfl
theorem ofR_eq {n:Int} {k:List UInt8→Option (List Lf)} (h:smN n):ofR n k=k (itoa n):=by
 have h1:=h.1
 have h2:=h.2
 unfold ofR
 rw [propB_true ⟨rfl,by omega,by omega⟩]; rfl
noncomputable def TWh:List Lf→Tr (SP × List Lf)
 | [.i n]=>.br (propB (smN n)) (.leaf (spS1,[.s (itoa n)])) .fail
 | _=>.fail
noncomputable def TOf:List Lf→Tr (SP × List Lf)
 | [.i n,.i d]=>.br (propB (smN n∧smN d∧d ≠ 0)) (.leaf (spRI,[.s (lowT n d),.i 0])) .fail
 | _=>.fail
noncomputable def TOv:List Lf→Tr (SP × List Lf)
 | [.i n,.i d]=>.br (propB (smN n∧smN d∧d ≠ 0)) (.leaf (spS1,[.s (lowT n d)])) .fail
 | _=>.fail
noncomputable def pU3:Prims:=(((pU2.addh 26 (liftG 8 (funP spIN 8 [] TWh))).addh 46 (liftG 8 (funP spIN 8 [] TWh))).addh 32 (liftG 8 (funQ spIN2 8 [] TOf))).addh 68 (liftG 8 (funP spIN2 8 [] TOv))
theorem pU3_ok {A:Amb} (hT:Tab A) (hG:prog.globals.size≤A.G):PrimOK prog A pU3:=by
 have hp:=pU2_ok hT hG
 refine (((hp.addl gsz func26 (by kernel_rfl) (funP_ok hmix hnum rfl fun ls sq l h=>?_)).addl gsz func46 (by kernel_rfl) (funP_ok hmix hnum rfl fun ls sq l h=>?_)).addl gsz func32 (by kernel_rfl) (funQ_ok hmix hnum rfl fun ls sq l h=>?_)).addl gsz func68 (by kernel_rfl) (funP_ok hmix hnum rfl fun ls sq l h=>?_)
 ·unfold TWh at h
  split at h
  ·rename_i n
   obtain ⟨hc,hv⟩:=Tr.br1 h
   cases hv
   exact ⟨fr8 rfl rfl,rfl,rfl,pU2,60,hp,(run26 n).trans (ofK_eq (propB_eq hc))⟩
  ·cases h
 ·unfold TWh at h
  split at h
  ·rename_i n
   obtain ⟨hc,hv⟩:=Tr.br1 h
   cases hv
   exact ⟨fr8 rfl rfl,rfl,rfl,pU2,60,hp,(run46 n).trans (ofR_eq (propB_eq hc))⟩
  ·cases h
 ·unfold TOf at h
  split at h
  ·rename_i n d
   obtain ⟨hc,hv⟩:=Tr.br1 h
   cases hv
   obtain ⟨h1,h2,h3⟩:=propB_eq hc
   have e1:=errI_lt (smN_lt h1) (by omega) (by omega)
   have e2:=errI_lt (smN_lt h2) (by omega) (by omega)
   have h48:itoa d ≠ [48]:=fun e=>by
    rw [← itoa0] at e
    exact h3 (itoa_inj e)
   refine ⟨fr8 rfl rfl,rfl,pU2,60,_,hp,(run32 n d).trans ?_,fun _ _=>.refl⟩
   rw [ofK_eq h1,ofK_eq h2,errI_sz e1,errI_sz e2]
   unfold makeR
   rw [if_neg (by rw [e1]; simp),if_neg (by rw [e2]; simp),if_neg h48,dvalZ_itoa,dvalZ_itoa]
   rfl
  ·cases h
 ·unfold TOv at h
  split at h
  ·rename_i n d
   obtain ⟨hc,hv⟩:=Tr.br1 h
   cases hv
   obtain ⟨h1,h2,h3⟩:=propB_eq hc
   refine ⟨fr8 rfl rfl,rfl,rfl,pU2,60,hp,(run68 n d).trans ?_⟩
   rw [ofR_eq h1,ofR_eq h2]
   exact lowK_eq (smN_lt h1) (smN_lt h2) (by omega) (by omega) (by omega) (by omega) h3
  ·cases h
end Go.Proofs.Tryz
