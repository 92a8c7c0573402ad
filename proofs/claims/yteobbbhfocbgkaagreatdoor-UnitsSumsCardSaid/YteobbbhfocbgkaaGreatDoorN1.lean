/- Texts of lengths: strings.Cut, strings.Repeat of zeros, units.digits; ref13.cut. -/
import Derived.Test.YteobbbhfocbgkaaGreatDoorAt
namespace Go.Proofs.Tryz
open Go.Ad
open Go.Lib (decDigits itoa nDigits decFrom digitVal)
def cutC (c:UInt8) (a:List UInt8):List UInt8 × List UInt8 × Bool:=match cutAt c a with
 | some (n,d)=>(n,d,true)
 | none=>(a,[],false)
def spCt (c:UInt8):SP:=⟨[.str,.is (.str [c])],dd8⟩
noncomputable abbrev cutK (c:UInt8) (n:Int) (a:List UInt8):Option (List Lf) :=
  brK ([c] == a) (brK (true && decide ((0:Int)≤1∧(1:Int)≤(a.length:Int))) (some [.s [],.s ((a.take a.length).drop 1),.b true]) none)
   (brK (decide (Lib.indexByte a (byteOf n) ≥ 0)) (brK (decide (0≤Lib.indexByte a (byteOf n)∧Lib.indexByte a (byteOf n)≤(a.length:Int)) && true) (brK (true && decide (0≤W (Lib.indexByte a (byteOf n)+1)∧W (Lib.indexByte a (byteOf n)+1)≤(a.length:Int)))
    (some [.s ((a.take (Lib.indexByte a (byteOf n)).toNat).drop 0),.s ((a.take a.length).drop (W (Lib.indexByte a (byteOf n)+1)).toNat),.b true]) none) none) (some [.s a,.s [],.b false]))
theorem run29_46 (a:List UInt8):(runK prog pSm3 60).call 29 ((spCt 46).rho [.s a]) ((spCt 46).heap [.s a]) (finQ spSSB 8 [])=cutK 46 46 a:=by kernel_rfl
theorem run29_47 (a:List UInt8):(runK prog pSm3 60).call 29 ((spCt 47).rho [.s a]) ((spCt 47).heap [.s a]) (finQ spSSB 8 [])=cutK 47 47 a:=by kernel_rfl
theorem run29_32 (a:List UInt8):(runK prog pSm3 60).call 29 ((spCt 32).rho [.s a]) ((spCt 32).heap [.s a]) (finQ spSSB 8 [])=cutK 32 32 a:=by kernel_rfl
theorem cutK_eq {c:UInt8} {n:Int} {a:List UInt8} (hb:byteOf n=c) (hc:szOK a=true):cutK c n a=some [.s (cutC c a).1,.s (cutC c a).2.1,.b (cutC c a).2.2]:=by
 have hsz:a.length < 2 ^ 62:=of_decide_eq_true hc
 unfold cutK cutC
 rw [hb]
 by_cases h1:a=[c]
 ·subst h1
  have:cutAt c [c]=some ([],[]):=by unfold cutAt; rw [if_pos (beq_self_eq_true c)]
  rw [this,show ([c] == [c])=true from beq_self_eq_true _]; rfl
 ·rw [show ([c] == a)=false by rw [beq_eq_false_iff_ne]; exact fun e=>h1 e.symm,brK_f]
  rcases cutAt_index c a with ⟨e1,e2⟩ | ⟨i,e0,e1,e2⟩
  ·rw [e1,e2]; rfl
  ·have e3:W ((i:Int)+1)=((i+1:Nat):Int):=by rw [W_id (by omega) (by omega)]; omega
   rw [e1,e2,e3,decide_eq_true (show (i:Int) ≥ 0 by omega),decide_eq_true (show 0≤(i:Int)∧(i:Int)≤(a.length:Int) by omega),decide_eq_true (show 0≤((i+1:Nat):Int)∧((i+1:Nat):Int)≤(a.length:Int) by omega),
    Int.toNat_natCast,Int.toNat_natCast,List.take_length,List.drop_zero]
   rfl
noncomputable def TCt (c:UInt8):List Lf→Tr (SP × List Lf)
 | [.s a]=>.br (szOK a) (.leaf (spSSB,[.s (cutC c a).1,.s (cutC c a).2.1,.b (cutC c a).2.2])) .fail
 | _=>.fail
noncomputable def gCt:List AV→Heap→Tr (AV × Heap × List Nat):=gAlt (funQ (spCt 46) 8 [] (TCt 46)) (gAlt (funQ (spCt 47) 8 [] (TCt 47)) (funQ (spCt 32) 8 [] (TCt 32)))
noncomputable def pN1:Prims:=pSm3.addh 29 (liftG 8 gCt)
theorem runRep:(List.range 25).map (fun (n:Nat)=>(runK prog lib2 60).call 65 [.str [48],.int .i64 (n:Int)] (Bg 8) finV)=(List.range 25).map fun n=>some (.str (List.replicate n 48)):=by kernel_rfl
noncomputable def gRep:List AV→Tr AV
 | [x,a]=>match sstr? x,snum a with
  | some s,some (k,n)=>.br (propB (s=[48]∧k=.i64) && decide (0≤n∧n≤24)) (.leaf (.sstr (List.replicate n.toNat 48))) .fail
  | _,_=>.fail
 | _=>.fail
noncomputable def pN2:Prims:=pN1.addt 65 gRep
def digT (s:List UInt8):Bool:=!(s == []) && s.all isDg
def natT (s:List UInt8):Bool:=digT s && (decide (s.length=1) || !(s.headD 0 == 48))
theorem run63 (s:List UInt8) (n:Bool):(runK prog pN2 60).call 63 [.sstr s,.sbool n] (Bg 8) finV =
  brK (!(s == [])) (brK (decide (s.length≤9223372036854775807)) (brK (Lib.trimS s digs10 == [])
   (brK (!n) (some (.bool true)) (brK ((s.length:Int) == 1) (some (.bool true)) (brK (decide ((0:Int)≤0∧(0:Int) < (s.length:Int))) (some (.sbool (((s.getD 0 0).toNat:Int) != 48))) none)))
   (some (.bool false))) none) (some (.bool false)):=by kernel_rfl
noncomputable def T63:List Lf→Tr AV
 | [.s s,.b n]=>.br (szOK s) (.leaf (.sbool (bif n then natT s else digT s))) .fail
 | _=>.fail
noncomputable def pN3:Prims:=pN2.addt 63 (gP [.str,.bool] T63)
section
variable {A:Amb} (hT:Tab A) (hE:TabE A) (hG:prog.globals.size≤A.G)
include hT hE hG
theorem pN1_ok:PrimOK prog A pN1:=by
 have hp:=pSm3_ok hT hE hG
 refine hp.addl gsz func29 (by kernel_rfl) fun args B v B' D h=>?_
 have key:∀ {c:UInt8} {n:Int},byteOf n=c→(∀ a,(runK prog pSm3 60).call 29 ((spCt c).rho [.s a]) ((spCt c).heap [.s a]) (finQ spSSB 8 [])=cutK c n a)→(funQ (spCt c) 8 [] (TCt c) args B).get=some (v,B',D)→AFr B B' D∧CallT prog A 29 args B v B' D:=fun {c n} hb hrun h=>by
  refine funQ_ok hmix hnum rfl (fun ls sq l h=>?_) _ _ _ _ _ h
  unfold TCt at h
  split at h
  ·rename_i a
   obtain ⟨hc,hv⟩:=Tr.br1 h
   cases hv
   exact ⟨fr8 rfl rfl,rfl,pSm3,60,_,hp,(hrun a).trans (cutK_eq hb hc),fun _ _=>.refl⟩
  ·cases h
 rcases gAlt_get h with h | h
 ·exact key (by decide) run29_46 h
 ·rcases gAlt_get h with h | h
  ·exact key (by decide) run29_47 h
  ·exact key (by decide) run29_32 h
theorem pN2_ok:PrimOK prog A pN2:=by
 refine PrimOK.addt3 hmix hnum (pN1_ok hT hE hG) hG func65 (by kernel_rfl) fun args v hv=>?_
 unfold gRep at hv
 split at hv
 ·rename_i x a
  split at hv
  ·rename_i s k n hs hn
   obtain ⟨hc,hv⟩:=Tr.br1 hv
   cases hv
   rw [Bool.and_eq_true,decide_eq_true_eq] at hc
   obtain ⟨hc,h0,h1⟩:=hc
   obtain ⟨rfl,rfl⟩:=propB_eq hc
   obtain ⟨n,rfl⟩:=Int.eq_ofNat_of_zero_le h0
   have hlt:n < 25:=by omega
   have hk:(runK prog lib2 60).call 65 [.str [48],.int .i64 (n:Int)] (Bg 8) finV=some (.str (List.replicate n 48)):=by
    have:=congrArg (fun l=>l[n]?) runRep
    simpa [List.getElem?_map,List.getElem?_range hlt] using this
   obtain ⟨B',hca⟩:=Ca.of_finV hk
   refine ⟨lib2,[.str [48],.int .i64 (n:Int)],.str (List.replicate n 48),B',lib2_ok hT,fun ι xs hx=>?_,fun ι x hx=>?_,rfl,rfl,by rw [gsz]; exact hca⟩
   ·refine VRL.weaken (show ([.str [48],.int .i64 (n:Int)]:List AV).length=[x,a].length from rfl) (fun i a' hi=>?_) hx
    match i,hi with
    | 0,hi=>cases hi; exact ⟨_,rfl,fun v hv=>by have:=sstr_VR hs hv; simpa only [VR] using this⟩
    | 1,hi=>cases hi; exact ⟨_,rfl,fun v hv=>by have:=snum_VR hn hv; simpa only [VR] using this⟩
    | i+2,hi=>simp at hi
   ·rw [Int.toNat_natCast]; simpa only [VR] using hx
  ·cases hv
 ·cases hv
theorem pN3_ok:PrimOK prog A pN3:=by
 have hp:=pN2_ok hT hE hG
 refine PrimOK.addP hmix hnum hp hp hG func63 (by kernel_rfl) fun ls v h=>?_
 unfold T63 at h
 split at h
 ·rename_i s n
  obtain ⟨hc,hv⟩:=Tr.br1 h
  cases hv
  have hs:s.length < 2 ^ 62:=of_decide_eq_true hc
  have key:∃ v',(runK prog pN2 60).call 63 [.sstr s,.sbool n] (Bg 8) finV=some v'∧below 0 v'=true∧∀ ι x,VR ι v' x→VR ι (.sbool (bif n then natT s else digT s)) x:=by
   rw [run63,trimS_nilA,decide_eq_true (show s.length≤9223372036854775807 by omega)]
   unfold natT digT
   cases s with
   | nil=>exact ⟨_,rfl,rfl,fun ι x h=>vr_bool (by cases n <;> rfl) x h⟩
   | cons b r =>
    rw [show (!(b :: r == []))=true from rfl]
    cases hall:(b :: r).all isDg with
    | false=>exact ⟨_,rfl,rfl,fun ι x h=>vr_bool (by cases n <;> rfl) x h⟩
    | true =>
     cases n with
     | false=>exact ⟨_,rfl,rfl,fun ι x h=>vr_bool rfl x h⟩
     | true =>
      by_cases h1:(b :: r).length=1
      ·rw [show (((b :: r).length:Int) == 1)=true by rw [beq_iff_eq]; omega]
       exact ⟨_,rfl,rfl,fun ι x h=>vr_bool (by rw [decide_eq_true h1]; rfl) x h⟩
      ·rw [show (((b :: r).length:Int) == 1)=false by rw [beq_eq_false_iff_ne]; omega,decide_eq_true (show (0:Int)≤0∧(0:Int) < ((b :: r).length:Int) by rw [List.length_cons]; omega)]
       refine ⟨_,rfl,rfl,fun ι x h=>vr_sbool ?_ x h⟩
       rw [decide_eq_false h1]
       show (!((b.toNat:Int) == 48))=(true && true && (false || !(b == 48)))
       have:=byte_eq (b:=b) (n:=48) (c:=48) rfl
       rw [show ((b.toNat:Int) == 48)=(b == 48) from this]
       rfl
  obtain ⟨v',h1,h2,h3⟩:=key
  exact ⟨rfl,60,v',by rw [gsz]; exact h1,h2,h3⟩
 ·cases h
end
end Go.Proofs.Tryz
namespace Go.Proofs.Tryz
open Go.Ad
open Go.Lib (decDigits itoa nDigits decFrom digitVal parseUint10 parseMag atoiAll)
theorem atoiAll_dig {s:List UInt8} (h0:s ≠ []) (h:s.all isDg=true) (hl:s.length≤18):atoiAll s=.ok (digW 0 s):=by
 have h1:=digW_lt s h
 have h2:10 ^ s.length≤10 ^ 18:=Nat.pow_le_pow_right (by decide) hl
 have hm:parseMag s=.ok (digW 0 s):=by
  unfold parseMag
  rw [if_neg h0,par_dig _ _ h (by omega)]
 cases s with
 | nil=>exact (h0 rfl).elim
 | cons c r =>
  rw [List.all_cons,Bool.and_eq_true] at h
  have hc:48≤c.toNat∧c.toNat≤57:=by simpa [isDg] using h.1
  generalize digW 0 (c :: r)=X at *
  unfold atoiAll
  simp only
  rw [if_neg (by omega),hm]
  simp only
  rw [if_neg (by omega),if_neg (by omega),if_neg (by omega)]
theorem run61 (s:List UInt8):(runK prog pN3 60).call 61 [.sstr s] (Bg 8) finV =
  brK (decide (s.length≤1000000)) (brK (aOk s) (some (.sint .i64 (aVal s))) (brK (aSyn s) (some (.int .i64 0)) none)) none:=by kernel_rfl
noncomputable def T61:List Lf→Tr AV
 | [.s s]=>.br (propB (s ≠ []∧s.all isDg=true∧s.length≤18)) (.leaf (.sint .i64 (digW 0 s:Nat))) .fail
 | _=>.fail
noncomputable def pN4:Prims:=pN3.addt 61 (gP [.str] T61)
noncomputable def code35:Code:=f35.body.getD .skip
noncomputable def bodyCu:Code:=unLoop (findB 0 code35)
def spCu:SP:=⟨[.str,.int .u8]++dr 2++[.is (.str []),.is (.str []),.is (.bool false),.int .i64]++dr 19,dd8⟩
def spCuR:SP:=⟨dr 4++[.str,.str,.bool]++dr 20,dd8⟩
def exCu:AEx→SP
 | .ret=>spCuR
 | _=>spCu
theorem roundCu (s:List UInt8) (c i:Int):execK prog (runK prog lib2 60) noBps bodyCu (spCu.rho [.s s,.i c,.i i]) (spCu.heap [.s s,.i c,.i i]) (nrmP exCu 8 []) =
  brK (decide (i < (s.length:Int))) (brK (decide (0≤i∧i < (s.length:Int))) (brK (((s.getD i.toNat 0).toNat:Int) == c)
   (brK (decide (0≤i∧i≤(s.length:Int)) && true) (brK (true && decide (0≤W (i+1)∧W (i+1)≤(s.length:Int))) (some (.ret,[.s ((s.take i.toNat).drop 0),.s ((s.take s.length).drop (W (i+1)).toNat),.b true])) none) none)
   (some (.normal,[.s s,.i c,.i (W (i+1))]))) none) (some (.exit 0,[.s s,.i c,.i i])):=by kernel_rfl
def pCu (s:List UInt8) (c:Nat) (n:Nat):Bool:=!((((s.getD n 0).toNat:Int)) == (c:Int))
theorem stepCu (s:List UInt8) (c n:Nat) (hs:s.length < 2 ^ 62):execK prog (runK prog lib2 60) noBps bodyCu (spCu.rho [.s s,.i c,.i n]) (spCu.heap [.s s,.i c,.i n]) (nrmP exCu 8 []) =
  if n < s.length then (bif pCu s c n then some (.normal,[.s s,.i c,.i ((n+1:Nat):Int)]) else some (.ret,[.s (s.take n),.s (s.drop (n+1)),.b true])) else some (.exit 0,[.s s,.i c,.i n]):=by
 rw [roundCu]
 by_cases h:n < s.length
 ·have e3:W ((n:Int)+1)=((n+1:Nat):Int):=by rw [W_id (by omega) (by omega)]; omega
  rw [if_pos h,decide_eq_true (show (n:Int) < (s.length:Int) by omega),decide_eq_true (show 0≤(n:Int)∧(n:Int) < (s.length:Int) by omega),decide_eq_true (show 0≤(n:Int)∧(n:Int)≤(s.length:Int) by omega),e3,
   decide_eq_true (show 0≤((n+1:Nat):Int)∧((n+1:Nat):Int)≤(s.length:Int) by omega),Int.toNat_natCast,Int.toNat_natCast,List.take_length,List.drop_zero]
  unfold pCu
  cases ((((s.getD n 0).toNat:Int)) == (c:Int)) <;> rfl
 ·rw [if_neg h,decide_eq_false (show ¬ (n:Int) < (s.length:Int) by omega)]; rfl
theorem scan_cu (s:List UInt8) (c:UInt8):(cutAt c s=none∧scanN (pCu s c.toNat) (s.length - 0) 0=s.length) ∨ (∃ i:Nat,i < s.length∧cutAt c s=some (s.take i,s.drop (i+1))∧scanN (pCu s c.toNat) (s.length - 0) 0=i):=by
 have hne:∀ b:UInt8,b ≠ c→(!((b.toNat:Int) == (c.toNat:Int)))=true:=fun b hb=>by
  have h2:b.toNat ≠ c.toNat:=fun e=>hb (UInt8.toNat_inj.1 e)
  rw [show ((b.toNat:Int) == (c.toNat:Int))=false by rw [beq_eq_false_iff_ne]; omega]; rfl
 rcases cutAt_index c s with ⟨e1,e2⟩ | ⟨i,e0,e1,e2⟩
 ·left
  refine ⟨e2,scanN_unique (Nat.zero_le _) (by omega) (fun j _ hj=>?_) (fun h=>by omega)⟩
  have hm:=cutAt_none_iff.1 e2
  refine hne _ fun e=>hm ?_
  rw [← e,List.getD_eq_getElem?_getD,List.getElem?_eq_getElem hj]
  exact List.getElem_mem hj
 ·right
  obtain ⟨h1,h2⟩:=cutAt_some e2
  refine ⟨i,e0,e2,scanN_unique (Nat.zero_le _) (by omega) (fun j _ hj=>?_) (fun _=>?_)⟩
  ·refine hne _ fun e=>h2 ?_
   have hj2:j < (s.take i).length:=by rw [List.length_take]; omega
   have:s.getD j 0=(s.take i)[j]:=by
    rw [List.getD_eq_getElem?_getD,List.getElem?_eq_getElem (by omega),Option.getD_some,List.getElem_take]
   rw [← e,this]
   exact List.getElem_mem hj2
  ·unfold pCu
   have hl:(s.take i).length=i:=by rw [List.length_take]; omega
   have:s.getD i 0=c:=by
    rw [h1,List.getD_eq_getElem?_getD,List.getElem?_append_right (by omega),hl,Nat.sub_self]; rfl
   rw [this,beq_self_eq_true]; rfl
noncomputable def hookCu:Blk:=hookP spCu 8 [] fun
 | [.s s,.i c,.i i]=>.br (propB (i=0∧0≤c∧c < 256) && szOK s) (.br (cutC (byteOf c) s).2.2 (.leaf (.ret,spCuR,[.s (cutC (byteOf c) s).1,.s (cutC (byteOf c) s).2.1,.b true])) (.leaf (.normal,spCu,[.s s,.i c,.i s.length]))) .fail
 | _=>.fail
noncomputable def pN5b:Prims:=pN4.addb 35 0 hookCu
theorem run35 (s:List UInt8) (c:Int):(runK prog pN5b 60).call 35 ((⟨[.str,.int .u8],dd8⟩:SP).rho [.s s,.i c]) ((⟨[.str,.int .u8],dd8⟩:SP).heap [.s s,.i c]) (finQ spSSB 8 []) =
  brK (propB ((0:Int)=0∧0≤c∧c < 256) && szOK s) (brK (cutC (byteOf c) s).2.2 (some [.s (cutC (byteOf c) s).1,.s (cutC (byteOf c) s).2.1,.b true]) (some [.s s,.s [],.b false])) none:=by kernel_rfl
noncomputable def T35:List Lf→Tr (SP × List Lf)
 | [.s a,.i c]=>.br (propB (0≤c∧c < 256) && szOK a) (.leaf (spSSB,[.s (cutC (byteOf c) a).1,.s (cutC (byteOf c) a).2.1,.b (cutC (byteOf c) a).2.2])) .fail
 | _=>.fail
noncomputable def pN5:Prims:=pN4.addh 35 (liftG 8 (funQ ⟨[.str,.int .u8],dd8⟩ 8 [] T35))
noncomputable def code103:Code:=f103.body.getD .skip
noncomputable def body3:Code:=unLoop (findB 0 code103)
def sp3d:SP:=⟨[.str]++dr 1++[.is (.bool false),.int .i64]++dr 19,dd8⟩
theorem round3 (s:List UInt8) (i:Int):execK prog (runK prog lib2 60) noBps body3 (sp3d.rho [.s s,.i i]) (sp3d.heap [.s s,.i i]) (nrmP (fun _=>sp3d) 8 []) =
  brK (decide (i < (s.length:Int))) (brK (decide (0≤i∧i < (s.length:Int))) (brK (decide (((s.getD i.toNat 0).toNat:Int) < 48)) (some (.ret,[.s s,.i i])) (brK (decide (0≤i∧i < (s.length:Int))) (brK (decide (((s.getD i.toNat 0).toNat:Int) > 57)) (some (.ret,[.s s,.i i])) (some (.normal,[.s s,.i (W (i+1))]))) none)) none)
   (some (.exit 0,[.s s,.i i])):=by kernel_rfl
theorem step3 (s:List UInt8) (n:Nat) (hs:s.length < 2 ^ 62):execK prog (runK prog lib2 60) noBps body3 (sp3d.rho [.s s,.i n]) (sp3d.heap [.s s,.i n]) (nrmP (fun _=>sp3d) 8 []) =
  if n < s.length then (if isDg (s.getD n 0)=true then some (.normal,[.s s,.i ((n+1:Nat):Int)]) else some (.ret,[.s s,.i n])) else some (.exit 0,[.s s,.i n]):=by
 rw [round3]
 by_cases h:n < s.length
 ·rw [if_pos h,decide_eq_true (show (n:Int) < (s.length:Int) by omega),decide_eq_true (show 0≤(n:Int)∧(n:Int) < (s.length:Int) by omega),Int.toNat_natCast,W_id (by omega) (by omega)]
  unfold isDg
  by_cases h1:(s.getD n 0).toNat < 48
  ·rw [decide_eq_true (show (((s.getD n 0).toNat:Nat):Int) < 48 by omega),decide_eq_false (show ¬ 48≤(s.getD n 0).toNat by omega)]; rfl
  ·rw [decide_eq_false (show ¬ (((s.getD n 0).toNat:Nat):Int) < 48 by omega),decide_eq_true (show 48≤(s.getD n 0).toNat by omega)]
   by_cases h2:(s.getD n 0).toNat≤57
   ·rw [decide_eq_false (show ¬ (((s.getD n 0).toNat:Nat):Int) > 57 by omega),decide_eq_true h2]; rfl
   ·rw [decide_eq_true (show (((s.getD n 0).toNat:Nat):Int) > 57 by omega),decide_eq_false h2]; rfl
 ·rw [if_neg h,decide_eq_false (show ¬ (n:Int) < (s.length:Int) by omega)]; rfl
noncomputable def hook3:Blk:=hookP sp3d 8 [] fun
 | [.s s,.i i]=>.br (propB (i=0) && szOK s) (.br (s.all isDg) (.leaf (.normal,sp3d,[.s s,.i s.length])) (.leaf (.ret,sp3d,[.s s,.i (lenC [2] s:Nat)]))) .fail
 | _=>.fail
noncomputable def pN6b:Prims:=pN5.addb 103 0 hook3
theorem run103d (s:List UInt8):(runK prog pN6b 60).call 103 [.sstr s] (Bg 8) finV=brK (propB ((0:Int)=0) && szOK s) (brK (s.all isDg) (some (.sbool (decide ((s.length:Int) > 0)))) (some (.bool false))) none:=by kernel_rfl
noncomputable def TDg (g:List UInt8→Bool):List Lf→Tr AV
 | [.s s]=>.br (szOK s) (.leaf (.sbool (g s))) .fail
 | _=>.fail
noncomputable def pN6:Prims:=pN5.addt 103 (gP [.str] (TDg digT))
noncomputable def code104:Code:=f104.body.getD .skip
noncomputable def body4:Code:=unLoop (findB 0 code104)
def sp4d:SP:=⟨[.str]++dr 1++[.is (.int .i64 0),.int .i64,.int .i64]++dr 15,dd8⟩
theorem round4 (s:List UInt8) (n i:Int):execK prog (runK prog lib2 60) noBps body4 (sp4d.rho [.s s,.i n,.i i]) (sp4d.heap [.s s,.i n,.i i]) (nrmP (fun _=>sp4d) 8 []) =
  brK (decide (i < (s.length:Int))) (brK (decide (0≤i∧i < (s.length:Int))) (some (.normal,[.s s,.i (W (W (10*n)+W (IntKind.u8.wrap (((s.getD i.toNat 0).toNat:Int) - 48)))),.i (W (i+1))])) none) (some (.exit 0,[.s s,.i n,.i i])):=by kernel_rfl
theorem step4 {s:List UInt8} {i:Nat} (hs:s.all isDg=true) (ls:s.length≤18) (hi:i < s.length) :
  execK prog (runK prog lib2 60) noBps body4 (sp4d.rho [.s s,.i (digW 0 (s.take i):Nat),.i i]) (sp4d.heap [.s s,.i (digW 0 (s.take i):Nat),.i i]) (nrmP (fun _=>sp4d) 8 [])=some (.normal,[.s s,.i (digW 0 (s.take (i+1)):Nat),.i (i+1:Nat)]):=by
 have h1:=digW_take_lt hs i
 have h2:10 ^ i≤10 ^ 17:=Nat.pow_le_pow_right (by decide) (by omega)
 have h3:=dg_le hs i
 have e1:(10:Int)*((digW 0 (s.take i):Nat):Int)=((digW 0 (s.take i)*10:Nat):Int):=by omega
 rw [round4,Int.toNat_natCast,dgI hs hi,e1,W_nat (n:=digW 0 (s.take i)*10) (by omega),W_nat (n:=dg s i) (by omega),← Int.natCast_add,← take_step hi,W_nat (n:=digW 0 (s.take (i+1))) (by rw [take_step hi]; omega),
  W_id (by omega) (by omega),decide_eq_true (show (i:Int) < (s.length:Int) by omega),decide_eq_true (show 0≤(i:Int)∧(i:Int) < (s.length:Int) by omega)]
 rfl
noncomputable def hook4:Blk:=hookP sp4d 8 [] fun
 | [.s s,.i n,.i i]=>.br (propB (n=0∧i=0∧s.all isDg=true∧s.length≤18)) (.leaf (.normal,sp4d,[.s s,.i (digW 0 s:Nat),.i s.length])) .fail
 | _=>.fail
noncomputable def pN7b:Prims:=pN6.addb 104 0 hook4
theorem run104d (s:List UInt8):(runK prog pN7b 60).call 104 [.sstr s] (Bg 8) finV=brK (propB ((0:Int)=0∧(0:Int)=0∧s.all isDg=true∧s.length≤18)) (some (.sint .i64 (digW 0 s:Nat))) none:=by kernel_rfl
noncomputable def T104s:List Lf→Tr AV
 | [.s s]=>.br (propB (s.all isDg=true∧s.length≤18)) (.leaf (.sint .i64 (digW 0 s:Nat))) .fail
 | _=>.fail
noncomputable def pN7:Prims:=pN6.addt 104 (gP [.str] T104s)
section
variable {A:Amb} (hT:Tab A) (hE:TabE A) (hG:prog.globals.size≤A.G)
include hT hE hG
theorem pN4_ok:PrimOK prog A pN4:=by
 have hp:=pN3_ok hT hE hG
 refine PrimOK.addP hmix hnum hp hp hG func61 (by kernel_rfl) fun ls v h=>?_
 unfold T61 at h
 split at h
 ·rename_i s
  obtain ⟨hc,hv⟩:=Tr.br1 h
  cases hv
  obtain ⟨h0,h1,h2⟩:=propB_eq hc
  have ha:=atoiAll_dig h0 h1 h2
  refine ⟨rfl,60,.sint .i64 (digW 0 s:Nat),?_,rfl,fun ι x h=>h⟩
  rw [gsz]
  refine (run61 s).trans ?_
  unfold aOk aVal
  rw [ha,decide_eq_true (show s.length≤1000000 by omega)]; rfl
 ·cases h
theorem pN5b_ok:PrimOK prog A pN5b:=by
 have hp:=lib2_ok hT
 refine PrimOK.addbP (pN4_ok hT hE hG) func35 (show f35.body=some code35 by kernel_rfl) (body:=.loop bodyCu) (by kernel_rfl) (by kernel_rfl) fun ls e sq l h=>?_
 split at h
 ·rename_i s c i
  obtain ⟨hc,hv⟩:=Tr.br1 h
  rw [Bool.and_eq_true] at hc
  obtain ⟨hi,h0,h1⟩:=propB_eq hc.1
  have hs:s.length < 2 ^ 62:=of_decide_eq_true hc.2
  subst hi
  obtain ⟨c,rfl⟩:=Int.eq_ofNat_of_zero_le h0
  have hcn:(byteOf (c:Int)).toNat=c:=by
   show (Nat.toUInt8 _).toNat=c
   rw [Int.toNat_natCast]
   show c % 256=c
   omega
  have key:∀ Bb:Heap,Bb.length=8→SEB prog A Bb (.loop bodyCu) ⟨spCu.rho [.s s,.i c,.i 0],spCu.heap [.s s,.i c,.i 0],[]⟩ (if scanN (pCu s c) (s.length - 0) 0 < s.length then .ret else .exit 0)
    (if scanN (pCu s c) (s.length - 0) 0 < s.length then ⟨spCuR.rho [.s (s.take (scanN (pCu s c) (s.length - 0) 0)),.s (s.drop (scanN (pCu s c) (s.length - 0) 0+1)),.b true],spCuR.heap [.s (s.take (scanN (pCu s c) (s.length - 0) 0)),.s (s.drop (scanN (pCu s c) (s.length - 0) 0+1)),.b true],[]⟩
     else ⟨spCu.rho [.s s,.i c,.i (scanN (pCu s c) (s.length - 0) 0:Nat)],spCu.heap [.s s,.i c,.i (scanN (pCu s c) (s.length - 0) 0:Nat)],[]⟩):=fun Bb hB =>
   SEB.scan (A:=A) (B0:=Bb) (c:=bodyCu) (S:=fun n=>⟨spCu.rho [.s s,.i c,.i (n:Nat)],spCu.heap [.s s,.i c,.i (n:Nat)],[]⟩)
    (E:=fun n=>if n < s.length then ⟨spCuR.rho [.s (s.take n),.s (s.drop (n+1)),.b true],spCuR.heap [.s (s.take n),.s (s.drop (n+1)),.b true],[]⟩ else ⟨spCu.rho [.s s,.i c,.i (n:Nat)],spCu.heap [.s s,.i c,.i (n:Nat)],[]⟩)
    (e:=fun n=>if n < s.length then .ret else .exit 0) (p:=pCu s c) (N:=s.length) (fun n=>by by_cases h:n < s.length <;> simp [h])
    (fun n hn hp1=>by
     have hk:=stepCu s c n hs
     rw [if_pos hn,hp1] at hk
     exact SEB.of_KP (A:=A) (B0:=Bb) (e:=.normal) hmix hnum hp (.none _) hB hk rfl)
    (fun n hn hp1=>by
     have hk:=stepCu s c n hs
     by_cases hlt:n < s.length
     ·rw [if_pos hlt,hp1 hlt] at hk
      simp only [if_pos hlt]
      exact SEB.of_KP (A:=A) (B0:=Bb) (e:=.ret) hmix hnum hp (.none _) hB hk rfl
     ·rw [if_neg hlt] at hk
      simp only [if_neg hlt]
      exact SEB.of_KP (A:=A) (B0:=Bb) (e:=.exit 0) hmix hnum hp (.none _) hB hk rfl) 0 (Nat.zero_le _)
  have hsc:=scan_cu s (byteOf (c:Int))
  rw [hcn] at hsc
  unfold cutC at hv
  rcases hsc with ⟨h2,h3⟩ | ⟨j,h2,h3,h4⟩
  ·rw [h2] at hv
   cases hv
   refine ⟨⟨.inr rfl,.inr rfl,.inr rfl,.inr rfl,.inr rfl,.inr rfl,.inr rfl,.inr rfl,trivial⟩,fun Bb hB=>SEB.block_exit (id:=0) ?_⟩
   have:=key Bb hB
   rw [h3,if_neg (by omega),if_neg (by omega)] at this
   exact this
  ·rw [h3] at hv
   cases hv
   refine ⟨⟨.inr rfl,.inr rfl,.inr rfl,.inr rfl,.inr rfl,.inr rfl,.inr rfl,.inr rfl,trivial⟩,fun Bb hB=>SEB.block_other (id:=0) ?_ (by simp)⟩
   have:=key Bb hB
   rw [h4,if_pos h2,if_pos h2] at this
   exact this
 ·cases h
theorem pN5_ok:PrimOK prog A pN5:=by
 refine (pN4_ok hT hE hG).addl gsz func35 (by kernel_rfl) (funQ_ok hmix hnum rfl fun ls sq l h=>?_)
 unfold T35 at h
 split at h
 ·rename_i s c
  obtain ⟨hc,hv⟩:=Tr.br1 h
  cases hv
  rw [Bool.and_eq_true] at hc
  obtain ⟨h0,h1⟩:=propB_eq hc.1
  refine ⟨fr8 rfl rfl,rfl,pN5b,60,_,pN5b_ok hT hE hG,(run35 s c).trans ?_,fun _ _=>.refl⟩
  rw [propB_true ⟨rfl,h0,h1⟩,hc.2]
  unfold cutC
  cases cutAt (byteOf c) s <;> rfl
 ·cases h
theorem pN6b_ok:PrimOK prog A pN6b:=by
 have hp:=lib2_ok hT
 refine PrimOK.addbP (pN5_ok hT hE hG) func103 (show f103.body=some code103 by kernel_rfl) (body:=.loop body3) (by kernel_rfl) (by kernel_rfl) fun ls e sq l h=>?_
 split at h
 ·rename_i s i
  obtain ⟨hc,hv⟩:=Tr.br1 h
  rw [Bool.and_eq_true] at hc
  have hi:=propB_eq hc.1
  have hs:s.length < 2 ^ 62:=of_decide_eq_true hc.2
  subst hi
  have key:∀ Bb:Heap,Bb.length=8→SEB prog A Bb (.loop body3) ⟨sp3d.rho [.s s,.i 0],sp3d.heap [.s s,.i 0],[]⟩ (if lenC [2] s < s.length then .ret else .exit 0)
    ⟨sp3d.rho [.s s,.i (lenC [2] s:Nat)],sp3d.heap [.s s,.i (lenC [2] s:Nat)],[]⟩:=fun Bb hB =>
   SEB.scan (A:=A) (B0:=Bb) (c:=body3) (S:=fun n=>⟨sp3d.rho [.s s,.i (n:Nat)],sp3d.heap [.s s,.i (n:Nat)],[]⟩) (E:=fun n=>⟨sp3d.rho [.s s,.i (n:Nat)],sp3d.heap [.s s,.i (n:Nat)],[]⟩)
    (e:=fun n=>if n < s.length then .ret else .exit 0) (p:=pCl [2] s) (N:=s.length) (fun n=>by by_cases h:n < s.length <;> simp [h])
    (fun n hn hp1=>by
     have hk:=step3 s n hs
     rw [isDg_cls] at hp1
     rw [if_pos hn,if_pos hp1] at hk
     exact SEB.of_KP (A:=A) (B0:=Bb) (e:=.normal) hmix hnum hp (.none _) hB hk rfl)
    (fun n hn hp1=>by
     have hk:=step3 s n hs
     by_cases hlt:n < s.length
     ·have:=hp1 hlt
      rw [isDg_cls] at this
      rw [if_pos hlt,if_neg (by rw [this]; simp)] at hk
      simp only [if_pos hlt]
      exact SEB.of_KP (A:=A) (B0:=Bb) (e:=.ret) hmix hnum hp (.none _) hB hk rfl
     ·rw [if_neg hlt] at hk
      simp only [if_neg hlt]
      exact SEB.of_KP (A:=A) (B0:=Bb) (e:=.exit 0) hmix hnum hp (.none _) hB hk rfl) 0 (Nat.zero_le _)
  have hle:=lenC_le [2] s
  rw [all_iff] at hv
  by_cases hl:lenC [2] s=s.length
  ·rw [decide_eq_true hl] at hv
   cases hv
   refine ⟨⟨.inr rfl,.inr rfl,.inr rfl,.inr rfl,.inr rfl,.inr rfl,.inr rfl,.inr rfl,trivial⟩,fun Bb hB=>SEB.block_exit (id:=0) ?_⟩
   have:=key Bb hB
   rw [if_neg (by omega),hl] at this
   exact this
  ·rw [decide_eq_false hl] at hv
   cases hv
   refine ⟨⟨.inr rfl,.inr rfl,.inr rfl,.inr rfl,.inr rfl,.inr rfl,.inr rfl,.inr rfl,trivial⟩,fun Bb hB=>SEB.block_other (id:=0) ?_ (by simp)⟩
   have:=key Bb hB
   rw [if_pos (by omega)] at this
   exact this
 ·cases h
theorem pN6_ok:PrimOK prog A pN6:=by
 refine PrimOK.addP hmix hnum (pN6b_ok hT hE hG) (pN5_ok hT hE hG) hG func103 (by kernel_rfl) fun ls v h=>?_
 unfold TDg at h
 split at h
 ·rename_i s
  obtain ⟨hc,hv⟩:=Tr.br1 h
  cases hv
  have key:∃ v',(runK prog pN6b 60).call 103 [.sstr s] (Bg 8) finV=some v'∧below 0 v'=true∧∀ ι x,VR ι v' x→VR ι (.sbool (digT s)) x:=by
   rw [run103d,propB_true rfl,hc]
   unfold digT
   cases hall:s.all isDg with
   | false=>exact ⟨_,rfl,rfl,fun ι x h=>vr_bool (by cases s <;> rfl) x h⟩
   | true =>
    refine ⟨_,rfl,rfl,fun ι x h=>vr_sbool ?_ x h⟩
    cases s with
    | nil=>rfl
    | cons b r=>rw [decide_eq_true (show ((b :: r).length:Int) > 0 by rw [List.length_cons]; omega)]; rfl
  obtain ⟨v',h1,h2,h3⟩:=key
  exact ⟨rfl,60,v',by rw [gsz]; exact h1,h2,h3⟩
 ·cases h
theorem pN7b_ok:PrimOK prog A pN7b:=by
 have hp:=lib2_ok hT
 refine PrimOK.addbP (pN6_ok hT hE hG) func104 (show f104.body=some code104 by kernel_rfl) (body:=.loop body4) (by kernel_rfl) (by kernel_rfl) fun ls e sq l h=>?_
 split at h
 ·rename_i s n i
  obtain ⟨hc,hv⟩:=Tr.br1 h
  cases hv
  obtain ⟨rfl,rfl,hs,ls⟩:=propB_eq hc
  refine ⟨⟨.inr rfl,.inr rfl,.inr rfl,.inr rfl,.inr rfl,.inr rfl,.inr rfl,.inr rfl,trivial⟩,fun Bb hB=>SEB.block_exit (id:=0) ?_⟩
  have e0:([.s s,.i 0,.i 0]:List Lf)=[.s s,.i (digW 0 (s.take 0):Nat),.i (0:Nat)]:=rfl
  have e1:([.s s,.i (digW 0 s:Nat),.i s.length]:List Lf)=[.s s,.i (digW 0 (s.take s.length):Nat),.i s.length]:=by rw [List.take_length]
  rw [e0,e1]
  refine SEB.loop_nat (A:=A) (B0:=Bb) (c:=body4) (I:=fun j=>⟨sp4d.rho [.s s,.i (digW 0 (s.take j):Nat),.i j],sp4d.heap [.s s,.i (digW 0 (s.take j):Nat),.i j],[]⟩) (N:=s.length) (fun j hj=>SEB.of_KP (A:=A) (B0:=Bb) (e:=.normal) hmix hnum hp (.none _) hB (step4 hs ls hj) rfl) ?_ (by simp) (i:=0) (Nat.zero_le _)
  have hr:=round4 s (digW 0 (s.take s.length):Nat) s.length
  rw [decide_eq_false (show ¬ (s.length:Int) < (s.length:Int) by omega)] at hr
  exact SEB.of_KP (A:=A) (B0:=Bb) (e:=.exit 0) hmix hnum hp (.none _) hB hr rfl
 ·cases h
theorem pN7_ok:PrimOK prog A pN7:=by
 refine PrimOK.addP hmix hnum (pN7b_ok hT hE hG) (pN6_ok hT hE hG) hG func104 (by kernel_rfl) fun ls v h=>?_
 unfold T104s at h
 split at h
 ·rename_i s
  obtain ⟨hc,hv⟩:=Tr.br1 h
  cases hv
  obtain ⟨h1,h2⟩:=propB_eq hc
  refine ⟨rfl,60,_,?_,rfl,fun ι x h=>h⟩
  rw [gsz]
  refine (run104d s).trans ?_
  rw [propB_true ⟨rfl,rfl,h1,h2⟩]; rfl
 ·cases h
end
end Go.Proofs.Tryz
namespace Go.Proofs.Tryz
open Go.Ad
open Go.Lib (decDigits itoa nDigits decFrom digitVal)
theorem run102n (s:List UInt8):(runK prog pN7 60).call 102 [.sstr s] (Bg 8) finV =
  brK (szOK s) (brK (digT s) (brK ((s.length:Int) == 1) (some (.bool true)) (brK (decide ((0:Int)≤0∧(0:Int) < (s.length:Int))) (some (.sbool (((s.getD 0 0).toNat:Int) != 48))) none)) (some (.bool false))) none:=by kernel_rfl
noncomputable def pN8:Prims:=pN7.addt 102 (gP [.str] (TDg natT))
theorem pN8_ok {A:Amb} (hT:Tab A) (hE:TabE A) (hG:prog.globals.size≤A.G):PrimOK prog A pN8:=by
 have hp:=pN7_ok hT hE hG
 refine PrimOK.addP hmix hnum hp hp hG func102 (by kernel_rfl) fun ls v h=>?_
 unfold TDg at h
 split at h
 ·rename_i s
  obtain ⟨hc,hv⟩:=Tr.br1 h
  cases hv
  have key:∃ v',(runK prog pN7 60).call 102 [.sstr s] (Bg 8) finV=some v'∧below 0 v'=true∧∀ ι x,VR ι v' x→VR ι (.sbool (natT s)) x:=by
   rw [run102n,hc]
   unfold natT
   cases hd:digT s with
   | false=>exact ⟨_,rfl,rfl,fun ι x h=>vr_bool rfl x h⟩
   | true =>
    by_cases h1:s.length=1
    ·rw [show ((s.length:Int) == 1)=true by rw [beq_iff_eq]; omega]
     exact ⟨_,rfl,rfl,fun ι x h=>vr_bool (by rw [decide_eq_true h1]; rfl) x h⟩
    ·have hpos:0 < s.length:=by
      cases s with
      | nil=>cases hd
      | cons b r=>simp
     rw [show ((s.length:Int) == 1)=false by rw [beq_eq_false_iff_ne]; omega,decide_eq_true (show (0:Int)≤0∧(0:Int) < (s.length:Int) by omega)]
     refine ⟨_,rfl,rfl,fun ι x h=>vr_sbool ?_ x h⟩
     rw [decide_eq_false h1]
     cases s with
     | nil=>cases hd
     | cons b r =>
      show (!((b.toNat:Int) == 48))=(true && (false || !(b == 48)))
      rw [show ((b.toNat:Int) == 48)=(b == 48) from byte_eq (b:=b) (n:=48) (c:=48) rfl]; rfl
  obtain ⟨v',h1,h2,h3⟩:=key
  exact ⟨rfl,60,v',by rw [gsz]; exact h1,h2,h3⟩
 ·cases h
def numP (a b:List UInt8):Int × Int × Int:=if (natT a && digT b)=false then (0,0,4) else if a.length > 6 ∨ b.length > 6 then (0,0,11) else ((digW 0 a*10 ^ b.length+digW 0 b:Nat),(10 ^ b.length:Nat),0)
def numS (a b:List UInt8):Int × Int × Int:=if (natT a && natT b)=false then (0,0,4) else if a.length > 6 ∨ b.length > 6 then (0,0,11) else if b=[48] then (0,0,10) else ((digW 0 a:Nat),(digW 0 b:Nat),0)
def numR (s:List UInt8):Int × Int × Int:=bif (cutC 46 s).2.2 then numP (cutC 46 s).1 (cutC 46 s).2.1 else numS (cutC 47 s).1 (bif (cutC 47 s).2.2 then (cutC 47 s).2.1 else [49])
def spI3:SP:=⟨[.int .i64,.int .i64,.int .i64],dd8⟩
def e3 (n:Int):Option (List Lf):=some [.i 0,.i 0,.i n]
abbrev VOK (s:List UInt8):Prop:=s ≠ []∧s.all isDg=true∧s.length≤18
theorem natT_dig {a:List UInt8} (h:natT a=true):digT a=true:=by
 unfold natT at h
 rw [Bool.and_eq_true] at h
 exact h.1
theorem digT_vok {a:List UInt8} (h:digT a=true) (hl:¬ a.length > 6):VOK a:=by
 unfold digT at h
 rw [Bool.and_eq_true] at h
 refine ⟨?_,h.2,by omega⟩
 have:=h.1
 rintro rfl
 cases this
theorem digW_zs:∀ (n acc:Nat),digW acc (List.replicate n 48)=acc*10 ^ n
 | 0,acc=>by show acc=_; simp
 | n+1,acc=>by
  rw [List.replicate_succ]
  show digW (acc*10+0) (List.replicate n 48)=_
  rw [digW_zs n,Nat.pow_succ,Nat.add_zero,Nat.mul_assoc,Nat.mul_comm 10]
theorem digW_ten (n:Nat):digW 0 (49 :: List.replicate n 48)=10 ^ n:=by
 show digW 1 (List.replicate n 48)=_
 rw [digW_zs,Nat.one_mul]
theorem all_zeros (n:Nat):(List.replicate n (48:UInt8)).all isDg=true:=by
 rw [List.all_eq_true]
 intro b hb
 rw [List.eq_of_mem_replicate hb]; rfl
theorem digW_small {a:List UInt8} (h:VOK a) (hl:¬ a.length > 6):digW 0 a < 10 ^ 6 :=
 Nat.lt_of_lt_of_le (digW_lt a h.2.1) (Nat.pow_le_pow_right (by decide) (by omega))
noncomputable def pointK (a b:List UInt8):Option (List Lf) :=
 brK (szOK a) (brK (!natT a) (e3 4) (brK (szOK b) (brK (!digT b) (e3 4) (brK (decide ((a.length:Int) > 6)) (e3 11) (brK (decide ((b.length:Int) > 6)) (e3 11)
  (brK (propB (([48]:List UInt8)=[48]∧IntKind.i64=.i64) && decide (0≤(b.length:Int)∧(b.length:Int)≤24)) (brK (decide (1+(List.replicate b.length (48:UInt8)).length < 4611686018427387904))
   (brK (propB (VOK (49 :: List.replicate b.length 48))) (brK (propB (VOK a)) (brK (propB (VOK b))
    (some [.i (W (W ((digW 0 a:Nat)*(digW 0 (49 :: List.replicate b.length 48):Nat))+(digW 0 b:Nat))),.i (digW 0 (49 :: List.replicate b.length 48):Nat),.i 0]) none) none) none) none) none)))) none)) none
noncomputable def wholeK (a:List UInt8):Option (List Lf) :=
 brK (szOK a) (brK (!natT a) (e3 4) (brK (decide ((a.length:Int) > 6)) (e3 11) (brK (propB (VOK a)) (brK (propB (VOK [49])) (some [.i (digW 0 a:Nat),.i (digW 0 [49]:Nat),.i 0]) none) none))) none
noncomputable def slashK (a b:List UInt8):Option (List Lf) :=
 brK (szOK a) (brK (!natT a) (e3 4) (brK (szOK b) (brK (!natT b) (e3 4) (brK (decide ((a.length:Int) > 6)) (e3 11) (brK (decide ((b.length:Int) > 6)) (e3 11) (brK (b == [48]) (e3 10)
  (brK (propB (VOK a)) (brK (propB (VOK b)) (some [.i (digW 0 a:Nat),.i (digW 0 b:Nat),.i 0]) none) none))))) none)) none
theorem run31 (s:List UInt8):(runK prog pN8 60).call 31 (spS1.rho [.s s]) (spS1.heap [.s s]) (finQ spI3 8 []) =
  brK (szOK s) (brK (cutC 46 s).2.2 (pointK (cutC 46 s).1 (cutC 46 s).2.1) (brK (szOK s) (brK (!(cutC 47 s).2.2) (wholeK (cutC 47 s).1) (slashK (cutC 47 s).1 (cutC 47 s).2.1)) none)) none:=by kernel_rfl
def lfN3 (x:Int × Int × Int):List Lf:=[.i x.1,.i x.2.1,.i x.2.2]
theorem gt6 {a:List UInt8} (h:a.length > 6):decide ((a.length:Int) > 6)=true:=decide_eq_true (by omega)
theorem le6 {a:List UInt8} (h:¬ a.length > 6):decide ((a.length:Int) > 6)=false:=decide_eq_false (by omega)
theorem numP_bd {a b:List UInt8} (hA:VOK a) (hB:VOK b) (la:¬ a.length > 6) (lb:¬ b.length > 6):W (W ((digW 0 a:Nat)*(10 ^ b.length:Nat))+(digW 0 b:Nat))=(digW 0 a*10 ^ b.length+digW 0 b:Nat):=by
 have h1:=digW_small hA la
 have h2:=digW_small hB lb
 have h3:10 ^ b.length≤10 ^ 6:=Nat.pow_le_pow_right (by decide) (by omega)
 have h4:=Nat.mul_le_mul (Nat.le_of_lt h1) h3
 rw [← Int.natCast_mul,W_nat (n:=digW 0 a*10 ^ b.length) (by omega),← Int.natCast_add,W_nat (by omega)]
theorem pointK_eq {a b:List UInt8} (ha:szOK a=true) (hb:szOK b=true):pointK a b=some (lfN3 (numP a b)):=by
 unfold pointK numP e3
 rw [ha,hb]
 cases hA:natT a with
 | false=>rfl
 | true =>
  cases hB:digT b with
  | false=>rfl
  | true =>
   rw [if_neg (by decide)]
   by_cases la:a.length > 6
   ·rw [gt6 la,if_pos (.inl la)]; rfl
   ·by_cases lb:b.length > 6
    ·rw [le6 la,gt6 lb,if_pos (.inr lb)]; rfl
    ·have vA:=digT_vok (natT_dig hA) la
     have vB:=digT_vok hB lb
     have vT:VOK (49 :: List.replicate b.length 48):=⟨by simp,by rw [List.all_cons,all_zeros]; rfl,by rw [List.length_cons,List.length_replicate]; omega⟩
     rw [le6 la,le6 lb,if_neg (by omega),propB_true ⟨rfl,rfl⟩,decide_eq_true (show 0≤(b.length:Int)∧(b.length:Int)≤24 by omega),decide_eq_true (show 1+(List.replicate b.length (48:UInt8)).length < 4611686018427387904 by rw [List.length_replicate]; omega),
      propB_true vT,propB_true vA,propB_true vB,digW_ten,numP_bd vA vB la lb]
     rfl
theorem wholeK_eq {a:List UInt8} (ha:szOK a=true):wholeK a=some (lfN3 (numS a [49])):=by
 unfold wholeK numS e3
 rw [ha]
 cases hA:natT a with
 | false=>rfl
 | true =>
  rw [if_neg (by decide)]
  by_cases la:a.length > 6
  ·rw [gt6 la,if_pos (.inl la)]; rfl
  ·have vA:=digT_vok (natT_dig hA) la
   rw [le6 la,if_neg (by show ¬ (a.length > 6 ∨ 1 > 6); omega),propB_true vA,propB_true ⟨by simp,rfl,by decide⟩,if_neg (by decide)]; rfl
theorem slashK_eq {a b:List UInt8} (ha:szOK a=true) (hb:szOK b=true):slashK a b=some (lfN3 (numS a b)):=by
 unfold slashK numS e3
 rw [ha,hb]
 cases hA:natT a with
 | false=>rfl
 | true =>
  cases hB:natT b with
  | false=>rfl
  | true =>
   rw [if_neg (by decide)]
   by_cases la:a.length > 6
   ·rw [gt6 la,if_pos (.inl la)]; rfl
   ·by_cases lb:b.length > 6
    ·rw [le6 la,gt6 lb,if_pos (.inr lb)]; rfl
    ·have vA:=digT_vok (natT_dig hA) la
     have vB:=digT_vok (natT_dig hB) lb
     rw [le6 la,le6 lb,if_neg (by omega),propB_true vA,propB_true vB]
     by_cases hz:b=[48]
     ·rw [if_pos hz,show (b == [48])=true by rw [hz]; rfl]; rfl
     ·rw [if_neg hz,show (b == [48])=false by rw [beq_eq_false_iff_ne]; exact hz]; rfl
theorem cutC_sz {c:UInt8} {s:List UInt8} (h:szOK s=true):szOK (cutC c s).1=true∧szOK (cutC c s).2.1=true:=by
 have hs:s.length < 2 ^ 62:=of_decide_eq_true h
 unfold cutC
 cases hc:cutAt c s with
 | none=>exact ⟨h,rfl⟩
 | some p =>
  obtain ⟨x,y⟩:=p
  have:=congrArg List.length (cutAt_some hc).1
  rw [List.length_append,List.length_cons] at this
  exact ⟨decide_eq_true (by show x.length < _; omega),decide_eq_true (by show y.length < _; omega)⟩
noncomputable def TNu:List Lf→Tr (SP × List Lf)
 | [.s s]=>.br (szOK s) (.leaf (spI3,lfN3 (numR s))) .fail
 | _=>.fail
noncomputable def pN9:Prims:=pN8.addh 31 (liftG 8 (funQ spS1 8 [] TNu))
noncomputable def code67:Code:=f67.body.getD .skip
noncomputable def bodyDe:Code:=unLoop (findB 0 code67)
def spDe:SP:=⟨dr 5++[.str,.str]++dr 1++[.int .i64,.int .i64]++dr 70,dd8⟩
theorem roundDe (a b:List UInt8) (n i:Int):execK prog (runK prog lib2 60) noBps bodyDe (spDe.rho [.s a,.s b,.i n,.i i]) (spDe.heap [.s a,.s b,.i n,.i i]) (nrmP (fun _=>spDe) 8 []) =
  brK (decide (i < (b.length:Int))) (some (.normal,[.s a,.s b,.i (W (n*10)),.i (W (i+1))])) (some (.exit 0,[.s a,.s b,.i n,.i i])):=by kernel_rfl
noncomputable def hookDe:Blk:=hookP spDe 8 [] fun
 | [.s a,.s b,.i n,.i i]=>.br (propB (n=1∧i=0∧b.length≤18)) (.leaf (.normal,spDe,[.s a,.s b,.i (10 ^ b.length:Nat),.i b.length])) .fail
 | _=>.fail
noncomputable def pN9b:Prims:=pN9.addb 67 0 hookDe
noncomputable def pointR (a b:List UInt8):Option (List Lf) :=
 brK (szOK a) (brK (!natT a) (e3 4) (brK (szOK b) (brK (!digT b) (e3 4) (brK (decide ((a.length:Int) > 6)) (e3 11) (brK (decide ((b.length:Int) > 6)) (e3 11)
  (brK (propB ((1:Int)=1∧(0:Int)=0∧b.length≤18)) (brK (propB (a.all isDg=true∧a.length≤18)) (brK (propB (b.all isDg=true∧b.length≤18))
    (some [.i (W (W ((digW 0 a:Nat)*(10 ^ b.length:Nat))+(digW 0 b:Nat))),.i (10 ^ b.length:Nat),.i 0]) none) none) none)))) none)) none
noncomputable def wholeR (a:List UInt8):Option (List Lf) :=
 brK (szOK a) (brK (!natT a) (e3 4) (brK (szOK [49]) (brK (!natT [49]) (e3 4) (brK (decide ((a.length:Int) > 6)) (e3 11) (brK (propB (a.all isDg=true∧a.length≤18)) (brK (propB (([49]:List UInt8).all isDg=true∧([49]:List UInt8).length≤18)) (some [.i (digW 0 a:Nat),.i (digW 0 [49]:Nat),.i 0]) none) none))) none)) none
noncomputable def slashR (a b:List UInt8):Option (List Lf) :=
 brK (szOK a) (brK (!natT a) (e3 4) (brK (szOK b) (brK (!natT b) (e3 4) (brK (decide ((a.length:Int) > 6)) (e3 11) (brK (decide ((b.length:Int) > 6)) (e3 11) (brK (b == [48]) (e3 10)
  (brK (propB (a.all isDg=true∧a.length≤18)) (brK (propB (b.all isDg=true∧b.length≤18)) (some [.i (digW 0 a:Nat),.i (digW 0 b:Nat),.i 0]) none) none))))) none)) none
theorem run67r (s:List UInt8):(runK prog pN9b 60).call 67 (spS1.rho [.s s]) (spS1.heap [.s s]) (finQ spI3 8 []) =
  brK (propB ((0:Int)≤46∧(46:Int) < 256) && szOK s) (brK (cutC (byteOf 46) s).2.2 (pointR (cutC (byteOf 46) s).1 (cutC (byteOf 46) s).2.1)
   (brK (propB ((0:Int)≤47∧(47:Int) < 256) && szOK s) (brK (!(cutC (byteOf 47) s).2.2) (wholeR (cutC (byteOf 47) s).1) (slashR (cutC (byteOf 47) s).1 (cutC (byteOf 47) s).2.1)) none)) none:=by kernel_rfl
theorem pointR_eq {a b:List UInt8} (ha:szOK a=true) (hb:szOK b=true):pointR a b=some (lfN3 (numP a b)):=by
 unfold pointR numP e3
 rw [ha,hb]
 cases hA:natT a with
 | false=>rfl
 | true =>
  cases hB:digT b with
  | false=>rfl
  | true =>
   rw [if_neg (by decide)]
   by_cases la:a.length > 6
   ·rw [gt6 la,if_pos (.inl la)]; rfl
   ·by_cases lb:b.length > 6
    ·rw [le6 la,gt6 lb,if_pos (.inr lb)]; rfl
    ·have vA:=digT_vok (natT_dig hA) la
     have vB:=digT_vok hB lb
     rw [le6 la,le6 lb,if_neg (by omega),propB_true ⟨rfl,rfl,by omega⟩,propB_true vA.2,propB_true vB.2,numP_bd vA vB la lb]
     rfl
theorem wholeR_eq {a:List UInt8} (ha:szOK a=true):wholeR a=some (lfN3 (numS a [49])):=by
 unfold wholeR numS e3
 rw [ha]
 cases hA:natT a with
 | false=>rfl
 | true =>
  rw [if_neg (by decide)]
  by_cases la:a.length > 6
  ·rw [gt6 la,if_pos (.inl la)]; rfl
  ·have vA:=digT_vok (natT_dig hA) la
   rw [le6 la,if_neg (by show ¬ (a.length > 6 ∨ 1 > 6); omega),propB_true vA.2,propB_true ⟨rfl,by decide⟩,if_neg (by decide)]; rfl
theorem slashR_eq {a b:List UInt8} (ha:szOK a=true) (hb:szOK b=true):slashR a b=some (lfN3 (numS a b)):=by
 unfold slashR numS e3
 rw [ha,hb]
 cases hA:natT a with
 | false=>rfl
 | true =>
  cases hB:natT b with
  | false=>rfl
  | true =>
   rw [if_neg (by decide)]
   by_cases la:a.length > 6
   ·rw [gt6 la,if_pos (.inl la)]; rfl
   ·by_cases lb:b.length > 6
    ·rw [le6 la,gt6 lb,if_pos (.inr lb)]; rfl
    ·have vA:=digT_vok (natT_dig hA) la
     have vB:=digT_vok (natT_dig hB) lb
     rw [le6 la,le6 lb,if_neg (by omega),propB_true vA.2,propB_true vB.2]
     by_cases hz:b=[48]
     ·rw [if_pos hz,show (b == [48])=true by rw [hz]; rfl]; rfl
     ·rw [if_neg hz,show (b == [48])=false by rw [beq_eq_false_iff_ne]; exact hz]; rfl
noncomputable def pN10:Prims:=pN9.addh 67 (liftG 8 (funQ spS1 8 [] TNu))
section
variable {A:Amb} (hT:Tab A) (hE:TabE A) (hG:prog.globals.size≤A.G)
include hT hE hG
theorem pN9_ok:PrimOK prog A pN9:=by
 have hp:=pN8_ok hT hE hG
 refine hp.addl gsz func31 (by kernel_rfl) (funQ_ok hmix hnum rfl fun ls sq l h=>?_)
 unfold TNu at h
 split at h
 ·rename_i s
  obtain ⟨hc,hv⟩:=Tr.br1 h
  cases hv
  refine ⟨fr8 rfl rfl,rfl,pN8,60,_,hp,(run31 s).trans ?_,fun _ _=>.refl⟩
  obtain ⟨p1,p2⟩:=cutC_sz (c:=46) hc
  obtain ⟨q1,q2⟩:=cutC_sz (c:=47) hc
  rw [hc,brK_t]
  unfold numR
  cases (cutC 46 s).2.2 with
  | true=>rw [brK_t,pointK_eq p1 p2]; rfl
  | false =>
   cases (cutC 47 s).2.2 with
   | true=>rw [slashK_eq q1 q2]; rfl
   | false=>rw [wholeK_eq q1]; rfl
 ·cases h
theorem pN9b_ok:PrimOK prog A pN9b:=by
 have hp:=lib2_ok hT
 refine PrimOK.addbP (pN9_ok hT hE hG) func67 (show f67.body=some code67 by kernel_rfl) (body:=.loop bodyDe) (by kernel_rfl) (by kernel_rfl) fun ls e sq l h=>?_
 split at h
 ·rename_i a b n i
  obtain ⟨hc,hv⟩:=Tr.br1 h
  cases hv
  obtain ⟨rfl,rfl,ls⟩:=propB_eq hc
  refine ⟨⟨.inr rfl,.inr rfl,.inr rfl,.inr rfl,.inr rfl,.inr rfl,.inr rfl,.inr rfl,trivial⟩,fun Bb hB=>SEB.block_exit (id:=0) ?_⟩
  have e0:([.s a,.s b,.i 1,.i 0]:List Lf)=[.s a,.s b,.i (10 ^ 0:Nat),.i (0:Nat)]:=rfl
  rw [e0]
  refine SEB.loop_nat (A:=A) (B0:=Bb) (c:=bodyDe) (I:=fun j=>⟨spDe.rho [.s a,.s b,.i (10 ^ j:Nat),.i j],spDe.heap [.s a,.s b,.i (10 ^ j:Nat),.i j],[]⟩) (N:=b.length) (fun j hj=>?_) ?_ (by simp) (i:=0) (Nat.zero_le _)
  ·have h1:10 ^ j≤10 ^ 17:=Nat.pow_le_pow_right (by decide) (by omega)
   have hr:=roundDe a b (10 ^ j:Nat) j
   rw [decide_eq_true (show (j:Int) < (b.length:Int) by omega),W_id (n:=(j:Int)+1) (by omega) (by omega),show ((10 ^ j:Nat):Int)*10=((10 ^ (j+1):Nat):Int) by rw [Nat.pow_succ]; omega,W_nat (n:=10 ^ (j+1)) (by rw [Nat.pow_succ]; omega)] at hr
   exact SEB.of_KP (A:=A) (B0:=Bb) (e:=.normal) hmix hnum hp (.none _) hB hr rfl
  ·have hr:=roundDe a b (10 ^ b.length:Nat) b.length
   rw [decide_eq_false (show ¬ (b.length:Int) < (b.length:Int) by omega)] at hr
   exact SEB.of_KP (A:=A) (B0:=Bb) (e:=.exit 0) hmix hnum hp (.none _) hB hr rfl
 ·cases h
theorem pN10_ok:PrimOK prog A pN10:=by
 refine (pN9_ok hT hE hG).addl gsz func67 (by kernel_rfl) (funQ_ok hmix hnum rfl fun ls sq l h=>?_)
 unfold TNu at h
 split at h
 ·rename_i s
  obtain ⟨hc,hv⟩:=Tr.br1 h
  cases hv
  refine ⟨fr8 rfl rfl,rfl,pN9b,60,_,pN9b_ok hT hE hG,(run67r s).trans ?_,fun _ _=>.refl⟩
  obtain ⟨p1,p2⟩:=cutC_sz (c:=46) hc
  obtain ⟨q1,q2⟩:=cutC_sz (c:=47) hc
  rw [hc,show byteOf 46=46 by decide,show byteOf 47=47 by decide,propB_true ⟨by decide,by decide⟩,propB_true ⟨by decide,by decide⟩]
  unfold numR
  cases (cutC 46 s).2.2 with
  | true=>exact (pointR_eq p1 p2)
  | false =>
   cases (cutC 47 s).2.2 with
   | true=>exact (slashR_eq q1 q2)
   | false=>exact (wholeR_eq q1)
 ·cases h
end
end Go.Proofs.Tryz
namespace Go.Proofs.Tryz
open Go.Ad
open Go.Lib (decDigits itoa nDigits decFrom digitVal)
theorem natAbs_dvd_mul {D N E:Int} (h:D ∣ N*E):D.natAbs ∣ N.natAbs*E.natAbs:=by
 have:=Int.natAbs_dvd_natAbs.2 h
 rwa [Int.natAbs_mul] at this
theorem rat_unique {N D M E:Int} (hD:1≤D) (hE:1≤E) (hg:Int.gcd N D=1) (hh:Int.gcd M E=1) (h:N*E=M*D):N=M∧D=E:=by
 have h1:D.natAbs ∣ E.natAbs:=by
  refine Nat.Coprime.dvd_of_dvd_mul_left (m:=N.natAbs) ?_ (natAbs_dvd_mul ⟨M,by rw [h,Int.mul_comm]⟩)
  show Nat.gcd D.natAbs N.natAbs=1
  rw [Nat.gcd_comm]; exact hg
 have h2:E.natAbs ∣ D.natAbs:=by
  refine Nat.Coprime.dvd_of_dvd_mul_left (m:=M.natAbs) ?_ (natAbs_dvd_mul ⟨N,by rw [← h,Int.mul_comm]⟩)
  show Nat.gcd E.natAbs M.natAbs=1
  rw [Nat.gcd_comm]; exact hh
 have h3:=Nat.dvd_antisymm h1 h2
 have h4:D=E:=by omega
 subst h4
 exact ⟨Int.eq_of_mul_eq_mul_right (by omega) h,rfl⟩
theorem red_facts {A B:Int} (hB:B ≠ 0):∃ N D g:Int,lowT A B=ratT N D∧1≤D∧Int.gcd N D=1∧g ≠ 0∧A=g*N∧B=g*D:=by
 have hg0:Int.gcd A B ≠ 0:=fun e=>hB (Int.gcd_eq_zero_iff.1 e).2
 have hs:sgG A B ≠ 0∧(sgG A B).natAbs=Int.gcd A B∧(sgG A B < 0 ↔ B < 0):=by
  unfold sgG
  split <;> omega
 obtain ⟨s0,s1,s2⟩:=hs
 have dA:sgG A B ∣ A:=by
  rw [← Int.natAbs_dvd,s1]; exact Int.gcd_dvd_left ..
 have dB:sgG A B ∣ B:=by
  rw [← Int.natAbs_dvd,s1]; exact Int.gcd_dvd_right ..
 unfold lowT
 generalize sgG A B=g at *
 obtain ⟨x,rfl⟩:=dA
 obtain ⟨y,rfl⟩:=dB
 refine ⟨x,y,g,?_,?_,?_,s0,rfl,rfl⟩
 ·rw [Int.mul_fdiv_cancel_left _ s0,Int.mul_fdiv_cancel_left _ s0]
 ·by_cases h:0 < y
  ·omega
  ·exfalso
   have h:y≤0:=by omega
   by_cases h2:g < 0
   ·have:=s2.1 h2
    have h3:0≤g*y:=Int.mul_nonneg_of_nonpos_of_nonpos (by omega) h
    omega
   ·have h3:g*y≤0:=Int.mul_nonpos_of_nonneg_of_nonpos (by omega) h
    have h4:g*y ≠ 0:=hB
    have h5:g < 0:=s2.2 (by omega)
    omega
 ·rw [Int.gcd_mul_left] at s1
  have hgp:0 < g.natAbs:=by omega
  have:g.natAbs*Int.gcd x y=g.natAbs*1:=by rw [Nat.mul_one]; exact s1.symm
  exact Nat.eq_of_mul_eq_mul_left hgp this
def Rq (x:List UInt8) (N D:Int):Prop:=x=ratT N D∧1≤D∧Int.gcd N D=1
theorem Rq.n {x:List UInt8} {N D:Int} (h:Rq x N D):ratN x=N:=by
 unfold ratN
 rw [h.1,(cutR_ratT N D).1,dvalZ_itoa]
theorem Rq.d {x:List UInt8} {N D:Int} (h:Rq x N D):ratD x=D:=by
 unfold ratD
 rw [h.1,(cutR_ratT N D).2,dvalZ_itoa]
theorem Rq.low {N D A B:Int} (hB:B ≠ 0) (hD:1≤D) (hg:Int.gcd N D=1) (h:A*D=N*B):Rq (lowT A B) N D:=by
 obtain ⟨M,E,g,h1,h2,h3,h4,h5,h6⟩:=red_facts (A:=A) hB
 have h7:M*D=N*E:=by
  rw [h5,h6] at h
  have:g*(M*D)=g*(N*E):=by
   rw [← Int.mul_assoc,h,← Int.mul_assoc,Int.mul_comm N g,Int.mul_assoc]
  exact Int.eq_of_mul_eq_mul_left h4 this
 obtain ⟨e1,e2⟩:=rat_unique h2 hD h3 hg h7
 rw [e1,e2] at h1
 exact ⟨h1,hD,hg⟩
theorem low_ex {A B:Int} (hB:B ≠ 0):∃ N D,Rq (lowT A B) N D∧A*D=N*B∧N.natAbs≤A.natAbs∧D.natAbs≤B.natAbs∧D ∣ B:=by
 obtain ⟨N,D,g,h1,h2,h3,h4,h5,h6⟩:=red_facts (A:=A) hB
 have hgp:1≤g.natAbs:=by omega
 refine ⟨N,D,⟨h1,h2,h3⟩,?_,?_,?_,?_⟩
 ·rw [h5,h6,Int.mul_comm g N,Int.mul_assoc]
 ·rw [h5,Int.natAbs_mul]; exact Nat.le_mul_of_pos_left _ hgp
 ·rw [h6,Int.natAbs_mul]; exact Nat.le_mul_of_pos_left _ hgp
 ·exact ⟨g,by rw [h6,Int.mul_comm]⟩
theorem low_eq {A B C E:Int} (hB:B ≠ 0) (hE:E ≠ 0) (h:A*E=C*B):lowT A B=lowT C E:=by
 obtain ⟨N,D,h1,h2,_⟩:=low_ex (A:=C) hE
 have h3:A*D=N*B:=by
  have:E*(A*D)=E*(N*B):=by
   rw [← Int.mul_assoc,Int.mul_comm E A,h,Int.mul_assoc,Int.mul_comm B D,← Int.mul_assoc,h2,Int.mul_comm N E,Int.mul_assoc]
  exact Int.eq_of_mul_eq_mul_left hE this
 rw [(Rq.low hB h1.2.1 h1.2.2 h3).1,h1.1]
theorem errQ_rat {N D:Int} (h1:errI (itoa N)=0) (h2:errI (itoa D)=0) (hD:1≤D) (hg:Int.gcd N D=1):errQ (ratT N D)=0:=by
 have hc:=cutR_ratT N D
 have hw:(cutR (ratT N D)).2.2=true→1 < D:=fun hw=>by
  by_cases h:D=1
  ·subst h
   have:itoa 1 == [49]:=by rw [itoa_1]; rfl
   unfold ratT cutR at hw
   rw [this,cond_true,cutAt_none (no_slash N)] at hw
   cases hw
  ·omega
 unfold errQ
 rw [hc.1,hc.2,if_neg (by rw [h1,h2]; simp),if_neg (by rw [h1,h2]; simp),dvalZ_itoa,dvalZ_itoa,if_neg fun h=>h.2 ⟨hw h.1,hg⟩]
theorem ratT_len {N D:Int} (h1:N.natAbs < 10 ^ 100) (h2:D.natAbs < 10 ^ 100):(ratT N D).length≤300:=by
 have l1:=itoa_len_le (Z:=N) (k:=100) h1 (by omega)
 have l2:=itoa_len_le (Z:=D) (k:=100) h2 (by omega)
 unfold ratT
 cases itoa D == [49] with
 | true=>show (itoa N).length≤_; omega
 | false =>
  show (itoa N++[47]++itoa D).length≤_
  rw [List.length_append,List.length_append]
  show (itoa N).length+1+(itoa D).length≤_
  omega
theorem Rq.sm {x:List UInt8} {N D:Int} (h:Rq x N D) (h1:N.natAbs < 10 ^ 100) (h2:D.natAbs < 10 ^ 100):smQ x:=by
 have e1:=errI_lt h1 (by omega) (by omega)
 have e2:=errI_lt h2 (by omega) (by omega)
 obtain ⟨c1,c2⟩:=cutR_ratT N D
 have hl:=ratT_len h1 h2
 obtain ⟨rfl,hD,hg⟩:=h
 refine ⟨errQ_rat e1 e2 hD hg,decide_eq_true (by omega),?_,?_⟩
 ·rw [c1,dvalZ_itoa]; exact h1
 ·rw [c2,dvalZ_itoa]; exact h2
theorem Rq.itoa (n:Int):Rq (itoa n) n 1:=by
 refine ⟨?_,by omega,Int.gcd_one⟩
 unfold ratT
 rw [show (Lib.itoa 1 == [49])=true by rw [itoa_1]; rfl]; rfl
theorem smQ_itoa {n:Int} (h:n.natAbs < 10 ^ 100):smQ (itoa n):=(Rq.itoa n).sm h (by decide)
theorem Rq.of {x:List UInt8} (h:smQ x):Rq x (ratN x) (ratD x):=⟨ratT_of2 h,(errQ_ok h.1).2.2.1,(errQ_ok h.1).2.2.2⟩
def rangeB (x:List UInt8):Bool:=decide (-(100000*ratD x)≤ratN x∧ratN x≤100000*ratD x)
theorem sgn_pos {A:Int}:(decide (sgnZ A > 0)=decide (A > 0))∧(decide (sgnZ A≤0)=decide (A≤0))∧(decide (sgnZ A < 0)=decide (A < 0))∧(decide (sgnZ A ≥ 0)=decide (A ≥ 0)):=by
 unfold sgnZ
 by_cases h:A=0
 ·subst h; decide
 ·rw [if_neg h]
  by_cases h1:A < 0
  ·rw [if_pos h1]
   refine ⟨?_,?_,?_,?_⟩ <;> rw [decide_eq_decide] <;> omega
  ·rw [if_neg h1]
   refine ⟨?_,?_,?_,?_⟩ <;> rw [decide_eq_decide] <;> omega
end Go.Proofs.Tryz
namespace Go.Proofs.Tryz
open Go.Ad
open Go.Lib (decDigits itoa nDigits decFrom digitVal)
theorem run34 (x:List UInt8):(runK prog pN10 60).call 34 [.sstr x] (Bg 8) finV =
  brK (propB (smN 100000)) (brK (propB (smQ x∧smQ (itoa 100000))) (brK (propB (smN (-100000))) (brK (propB (smQ x∧smQ (itoa (-100000)))) (brK (decide (sgnZ (ratN x*ratD (itoa 100000) - ratN (itoa 100000)*ratD x) > 0)) (some (.bool true))
   (some (.sbool (decide (sgnZ (ratN x*ratD (itoa (-100000)) - ratN (itoa (-100000))*ratD x) < 0))))) none) none) none) none:=by kernel_rfl
theorem run39 (x:List UInt8):(runK prog pN10 60).call 39 [.sstr x] (Bg 8) finV =
  brK (propB (smN 100000)) (brK (propB (smQ x∧smQ (itoa 100000))) (brK (decide (sgnZ (ratN x*ratD (itoa 100000) - ratN (itoa 100000)*ratD x)≤0)) (brK (propB (smN (-100000))) (brK (propB (smQ x∧smQ (itoa (-100000))))
   (some (.sbool (decide (sgnZ (ratN x*ratD (itoa (-100000)) - ratN (itoa (-100000))*ratD x) ≥ 0)))) none) none) (some (.bool false))) none) none:=by kernel_rfl
noncomputable def TBe (f:Bool→Bool):List Lf→Tr AV
 | [.s a]=>.br (propB (smQ a)) (.leaf (.sbool (f (rangeB a)))) .fail
 | _=>.fail
noncomputable def pX1:Prims:=(pN10.addt 34 (gP [.str] (TBe not))).addt 39 (gP [.str] (TBe id))
theorem rng_itoa (n:Int):ratN (itoa n)=n∧ratD (itoa n)=1:=⟨(Rq.itoa n).n,(Rq.itoa n).d⟩
def cpS (s:List UInt8):List UInt8 × Bool:=(bif s.headD 0 == 45 then s.tail else s,s.headD 0 == 45)
def spSB:SP:=⟨[.str,.bool],dd8⟩
theorem run30 (s:List UInt8):(runK prog pX1 60).call 30 ((spCt 45).rho [.s s]) ((spCt 45).heap [.s s]) (finQ spSB 8 []) =
  brK (decide ((s.length:Int) ≥ 1)) (brK (decide ((0:Int)≤1∧(1:Int)≤(s.length:Int)) && true) (brK (!((s.take 1).drop 0 == [45])) (some [.s s,.b false]) (brK (true && decide ((0:Int)≤1∧(1:Int)≤(s.length:Int))) (some [.s ((s.take s.length).drop 1),.b true]) none)) none) (some [.s s,.b false]):=by kernel_rfl
noncomputable def TCp:List Lf→Tr (SP × List Lf)
 | [.s a]=>.br (szOK a) (.leaf (spSB,[.s (cpS a).1,.b (cpS a).2])) .fail
 | _=>.fail
noncomputable def pX2:Prims:=pX1.addh 30 (liftG 8 (funQ (spCt 45) 8 [] TCp))
def nbF (s:List UInt8) (m:Bool):List UInt8 × Int:=if (numR s).2.2 ≠ 0 then ([],(numR s).2.2) else (lowT (bif m then -(numR s).1 else (numR s).1) (numR s).2.1,0)
def nbR (a:List UInt8):List UInt8 × Int:=nbF (cpS a).1 (cpS a).2
noncomputable def ovK (n d:Int):Option (List Lf):=brK (propB (smN n∧smN d∧d ≠ 0)) (some [.s (lowT n d),.i 0]) none
theorem run36 (x:List UInt8):(runK prog pX2 60).call 36 (spS1.rho [.s x]) (spS1.heap [.s x]) (finQ spRI 8 []) =
  brK (decide ((x.length:Int) > 0)) (brK (decide ((0:Int)≤0∧(0:Int) < (x.length:Int))) (brK (((x.getD 0 0).toNat:Int) == 45)
   (brK (true && decide ((0:Int)≤1∧(1:Int)≤(x.length:Int))) (brK (szOK ((x.take x.length).drop 1)) (brK ((numR ((x.take x.length).drop 1)).2.2 != 0) (some [.s [],.i (numR ((x.take x.length).drop 1)).2.2])
    (brK (((x.getD 0 0).toNat:Int) == 45) (ovK (W (0 - (numR ((x.take x.length).drop 1)).1)) (numR ((x.take x.length).drop 1)).2.1) (ovK (numR ((x.take x.length).drop 1)).1 (numR ((x.take x.length).drop 1)).2.1))) none) none)
   (brK (szOK x) (brK ((numR x).2.2 != 0) (some [.s [],.i (numR x).2.2]) (brK (((x.getD 0 0).toNat:Int) == 45) (ovK (W (0 - (numR x).1)) (numR x).2.1) (ovK (numR x).1 (numR x).2.1))) none)) none)
   (brK (szOK x) (brK ((numR x).2.2 != 0) (some [.s [],.i (numR x).2.2]) (ovK (numR x).1 (numR x).2.1)) none):=by kernel_rfl
theorem numP_ok {a b:List UInt8} (h:(numP a b).2.2=0):0≤(numP a b).1∧(numP a b).1 < 10 ^ 13∧1≤(numP a b).2.1∧(numP a b).2.1≤10 ^ 6:=by
 unfold numP at h ⊢
 by_cases h1:(natT a && digT b)=false
 ·rw [if_pos h1] at h; cases h
 ·rw [if_neg h1] at h ⊢
  by_cases h2:a.length > 6 ∨ b.length > 6
  ·rw [if_pos h2] at h; cases h
  ·rw [if_neg h2]
   rw [Bool.not_eq_false,Bool.and_eq_true] at h1
   have v1:=digW_small (digT_vok (natT_dig h1.1) (by omega)) (show ¬ a.length > 6 by omega)
   have v2:=digW_small (digT_vok h1.2 (by omega)) (show ¬ b.length > 6 by omega)
   have h3:10 ^ b.length≤10 ^ 6:=Nat.pow_le_pow_right (by decide) (by omega)
   have h4:1≤10 ^ b.length:=Nat.one_le_pow _ _ (by decide)
   have h5:=Nat.mul_le_mul (Nat.le_of_lt v1) h3
   simp only
   omega
theorem numS_ok {a b:List UInt8} (h:(numS a b).2.2=0):0≤(numS a b).1∧(numS a b).1 < 10 ^ 13∧1≤(numS a b).2.1∧(numS a b).2.1≤10 ^ 6:=by
 unfold numS at h ⊢
 by_cases h1:(natT a && natT b)=false
 ·rw [if_pos h1] at h; cases h
 ·rw [if_neg h1] at h ⊢
  by_cases h2:a.length > 6 ∨ b.length > 6
  ·rw [if_pos h2] at h; cases h
  ·rw [if_neg h2] at h ⊢
   by_cases h3:b=[48]
   ·rw [if_pos h3] at h; cases h
   ·rw [if_neg h3]
    rw [Bool.not_eq_false,Bool.and_eq_true] at h1
    have v1:=digW_small (digT_vok (natT_dig h1.1) (by omega)) (show ¬ a.length > 6 by omega)
    have v2:=digW_small (digT_vok (natT_dig h1.2) (by omega)) (show ¬ b.length > 6 by omega)
    have hb:1≤digW 0 b:=by
     have hn:=h1.2
     unfold natT digT at hn
     cases b with
     | nil=>cases hn
     | cons c r =>
      simp only [Bool.and_eq_true,Bool.or_eq_true,decide_eq_true_eq,List.headD_cons] at hn
      obtain ⟨⟨_,hall⟩,h4⟩:=hn
      rw [List.all_cons,Bool.and_eq_true] at hall
      have hc:48≤c.toNat∧c.toNat≤57:=by simpa [isDg] using hall.1
      have hc2:c ≠ 48:=by
       rcases h4 with h4 | h4
       ·rw [List.length_cons] at h4
        have hr:r=[]:=List.eq_nil_of_length_eq_zero (by omega)
        subst hr
        exact fun e=>h3 (by rw [e])
       ·simpa using h4
      have hc3:c.toNat ≠ 48:=fun e=>hc2 (UInt8.toNat_inj.1 e)
      have:=digW_ge r (0*10+(c.toNat - 48))
      show 1≤digW (0*10+(c.toNat - 48)) r
      omega
    simp only
    omega
theorem numR_ok {s:List UInt8} (h:(numR s).2.2=0):0≤(numR s).1∧(numR s).1 < 10 ^ 13∧1≤(numR s).2.1∧(numR s).2.1≤10 ^ 6:=by
 unfold numR at h ⊢
 cases hc:(cutC 46 s).2.2 with
 | true=>rw [hc,cond_true] at h; rw [cond_true]; exact numP_ok h
 | false=>rw [hc,cond_false] at h; rw [cond_false]; exact numS_ok h
theorem ovK_eq {s:List UInt8} (h:(numR s).2.2=0):ovK (numR s).1 (numR s).2.1=some [.s (lowT (numR s).1 (numR s).2.1),.i 0]∧ovK (W (0 - (numR s).1)) (numR s).2.1=some [.s (lowT (-(numR s).1) (numR s).2.1),.i 0]:=by
 obtain ⟨h1,h2,h3,h4⟩:=numR_ok h
 unfold ovK
 rw [W_id (n:=0 - (numR s).1) (by omega) (by omega),Int.zero_sub]
 constructor
 ·rw [propB_true ⟨⟨by omega,by omega⟩,⟨by omega,by omega⟩,by omega⟩]; rfl
 ·rw [propB_true ⟨⟨by omega,by omega⟩,⟨by omega,by omega⟩,by omega⟩]; rfl
noncomputable def TNb:List Lf→Tr (SP × List Lf)
 | [.s a]=>.br (szOK a) (.leaf (spRI,[.s (nbR a).1,.i (nbR a).2])) .fail
 | _=>.fail
noncomputable def pX3:Prims:=pX2.addh 36 (liftG 8 (funQ spS1 8 [] TNb))
noncomputable def e2 (n:Int):Option (List Lf):=some [.s [],.i n]
def mulX (a v:List UInt8):List UInt8:=lowT (ratN a*ratN v) (ratD a*ratD v)
noncomputable def unitK (n d:Int) (v:List UInt8) (bl:Bool):Option (List Lf) :=
 brK (!bl) (e2 20) (brK (propB (smN n∧smN d∧d ≠ 0)) (brK (propB (smQ (lowT n d)∧smQ v∧True)) (brK (propB (smQ (mulX (lowT n d) v))) (brK (!(rangeB (mulX (lowT n d) v))) (e2 2) (some [.s (mulX (lowT n d) v),.i 0])) none) none) none)
noncomputable def unitsK (w:List UInt8) (k:List UInt8→Option (List Lf)) (z:Option (List Lf)):Option (List Lf) :=
 brK ([117,109] == w) (k [49]) (brK ([109,109] == w) (k [49,48,48,48]) (brK ([99,109] == w) (k [49,48,48,48,48]) (brK ([105,110] == w) (k [50,53,52,48,48]) (brK ([116,104,111,117] == w) (k [49,50,55,47,53]) z))))
theorem run11 (x:List UInt8):(runK prog pX3 60).call 11 (spS1.rho [.s x]) (spS1.heap [.s x]) (finQ spRI 8 []) =
  brK (decide ((x.length:Int) > 40)) (e2 17) (brK (szOK x) (brK (szOK (cutC 32 x).1) (brK (szOK (cpS (cutC 32 x).1).1) (brK ((numR (cpS (cutC 32 x).1).1).2.2 != 0) (some [.s [],.i (numR (cpS (cutC 32 x).1).1).2.2])
   (brK (cpS (cutC 32 x).1).2 (unitsK (cutC 32 x).2.1 (fun v=>unitK (W (0 - (numR (cpS (cutC 32 x).1).1).1)) (numR (cpS (cutC 32 x).1).1).2.1 v (cutC 32 x).2.2) (e2 20))
    (unitsK (cutC 32 x).2.1 (fun v=>unitK (numR (cpS (cutC 32 x).1).1).1 (numR (cpS (cutC 32 x).1).1).2.1 v (cutC 32 x).2.2) (e2 20)))) none) none) none):=by kernel_rfl
section
variable {A:Amb} (hT:Tab A) (hE:TabE A) (hG:prog.globals.size≤A.G)
include hT hE hG
theorem pX1_ok:PrimOK prog A pX1:=by
 have hp:=pN10_ok hT hE hG
 have i1:=rng_itoa 100000
 have i2:=rng_itoa (-100000)
 have q1:smQ (itoa 100000):=smQ_itoa (by decide)
 have q2:smQ (itoa (-100000)):=smQ_itoa (by decide)
 have n1:smN 100000:=⟨by omega,by omega⟩
 have n2:smN (-100000):=⟨by omega,by omega⟩
 refine PrimOK.addP hmix hnum hp (PrimOK.addP hmix hnum hp hp hG func34 (by kernel_rfl) fun ls v h=>?_) hG func39 (by kernel_rfl) fun ls v h=>?_
 ·unfold TBe at h
  split at h
  ·rename_i x
   obtain ⟨hc,hv⟩:=Tr.br1 h
   cases hv
   have hq:=propB_eq hc
   obtain ⟨s1,s2,s3,s4⟩:=@sgn_pos (ratN x*1 - 100000*ratD x)
   obtain ⟨t1,t2,t3,t4⟩:=@sgn_pos (ratN x*1 - -100000*ratD x)
   have key:∃ v',(runK prog pN10 60).call 34 [.sstr x] (Bg 8) finV=some v'∧below 0 v'=true∧∀ ι z,VR ι v' z→VR ι (.sbool (!(rangeB x))) z:=by
    rw [run34,propB_true n1,propB_true n2,propB_true ⟨hq,q1⟩,propB_true ⟨hq,q2⟩,i1.1,i1.2,i2.1,i2.2,s1,t3]
    unfold rangeB
    by_cases h1:ratN x*1 - 100000*ratD x > 0
    ·rw [decide_eq_true h1]
     refine ⟨_,rfl,rfl,fun ι z h=>vr_bool ?_ z h⟩
     rw [decide_eq_false (show ¬ (-(100000*ratD x)≤ratN x∧ratN x≤100000*ratD x) by omega)]; rfl
    ·rw [decide_eq_false h1]
     refine ⟨_,rfl,rfl,fun ι z h=>vr_sbool ?_ z h⟩
     rw [← decide_not,decide_eq_decide]; omega
   obtain ⟨v',h1,h2,h3⟩:=key
   exact ⟨rfl,60,v',by rw [gsz]; exact h1,h2,h3⟩
  ·cases h
 ·unfold TBe at h
  split at h
  ·rename_i x
   obtain ⟨hc,hv⟩:=Tr.br1 h
   cases hv
   have hq:=propB_eq hc
   obtain ⟨s1,s2,s3,s4⟩:=@sgn_pos (ratN x*1 - 100000*ratD x)
   obtain ⟨t1,t2,t3,t4⟩:=@sgn_pos (ratN x*1 - -100000*ratD x)
   have key:∃ v',(runK prog pN10 60).call 39 [.sstr x] (Bg 8) finV=some v'∧below 0 v'=true∧∀ ι z,VR ι v' z→VR ι (.sbool (rangeB x)) z:=by
    rw [run39,propB_true n1,propB_true n2,propB_true ⟨hq,q1⟩,propB_true ⟨hq,q2⟩,i1.1,i1.2,i2.1,i2.2,s2,t4]
    unfold rangeB
    by_cases h1:ratN x*1 - 100000*ratD x≤0
    ·rw [decide_eq_true h1]
     refine ⟨_,rfl,rfl,fun ι z h=>vr_sbool ?_ z h⟩
     rw [decide_eq_decide]; omega
    ·rw [decide_eq_false h1]
     refine ⟨_,rfl,rfl,fun ι z h=>vr_bool ?_ z h⟩
     rw [decide_eq_false]; omega
   obtain ⟨v',h1,h2,h3⟩:=key
   exact ⟨rfl,60,v',by rw [gsz]; exact h1,h2,h3⟩
  ·cases h
theorem pX2_ok:PrimOK prog A pX2:=by
 have hp:=pX1_ok hT hE hG
 refine hp.addl gsz func30 (by kernel_rfl) (funQ_ok hmix hnum rfl fun ls sq l h=>?_)
 unfold TCp at h
 split at h
 ·rename_i s
  obtain ⟨hc,hv⟩:=Tr.br1 h
  cases hv
  refine ⟨fr8 rfl rfl,rfl,pX1,60,_,hp,(run30 s).trans ?_,fun _ _=>.refl⟩
  unfold cpS
  cases s with
  | nil=>rfl
  | cons b r =>
   rw [decide_eq_true (show ((b :: r).length:Int) ≥ 1 by rw [List.length_cons]; omega),decide_eq_true (show (0:Int)≤1∧(1:Int)≤((b :: r).length:Int) by rw [List.length_cons]; omega),List.take_length]
   show brK true (brK true (brK (!([b] == [45])) _ _) _) _=some [Lf.s (bif b == 45 then r else b :: r),Lf.b (b == 45)]
   have:([b] == [45])=(b == 45):=by
    show (b == 45 && ([]:List UInt8) == [])=_
    rw [show (([]:List UInt8) == [])=true from rfl,Bool.and_true]
   rw [this]
   cases (b == 45) <;> rfl
 ·cases h
theorem pX3_ok:PrimOK prog A pX3:=by
 have hp:=pX2_ok hT hE hG
 refine hp.addl gsz func36 (by kernel_rfl) (funQ_ok hmix hnum rfl fun ls sq l h=>?_)
 unfold TNb at h
 split at h
 ·rename_i x
  obtain ⟨hc,hv⟩:=Tr.br1 h
  cases hv
  refine ⟨fr8 rfl rfl,rfl,pX2,60,_,hp,(run36 x).trans ?_,fun _ _=>.refl⟩
  have hl:x.length < 2 ^ 62:=of_decide_eq_true hc
  have tail:∀ (s:List UInt8) (m:Bool),brK ((numR s).2.2 != 0) (some [Lf.s [],Lf.i (numR s).2.2]) (brK m (ovK (W (0 - (numR s).1)) (numR s).2.1) (ovK (numR s).1 (numR s).2.1)) =
    some [Lf.s (nbF s m).1,Lf.i (nbF s m).2]:=fun s m=>by
   unfold nbF
   by_cases h:(numR s).2.2=0
   ·obtain ⟨o1,o2⟩:=ovK_eq h
    rw [o1,o2,h,if_neg (by simp)]
    cases m <;> rfl
   ·rw [show ((numR s).2.2 != 0)=true by simpa using h,if_pos h]; rfl
  unfold nbR cpS
  cases x with
  | nil=>exact tail [] false
  | cons b r =>
   rw [decide_eq_true (show ((b :: r).length:Int) > 0 by rw [List.length_cons]; omega),decide_eq_true (show (0:Int)≤1∧(1:Int)≤((b :: r).length:Int) by rw [List.length_cons]; omega),decide_eq_true (show (0:Int)≤0∧(0:Int) < ((b :: r).length:Int) by rw [List.length_cons]; omega),List.take_length]
   show brK true (brK true (brK ((b.toNat:Int) == 45) (brK true (brK (szOK r) (brK ((numR r).2.2 != 0) (some [Lf.s [],Lf.i (numR r).2.2]) (brK ((b.toNat:Int) == 45) (ovK (W (0 - (numR r).1)) (numR r).2.1) (ovK (numR r).1 (numR r).2.1))) none) none)
    (brK (szOK (b :: r)) (brK ((numR (b :: r)).2.2 != 0) (some [.s [],.i (numR (b :: r)).2.2]) (brK ((b.toNat:Int) == 45) (ovK (W (0 - (numR (b :: r)).1)) (numR (b :: r)).2.1) (ovK (numR (b :: r)).1 (numR (b :: r)).2.1))) none)) _) _=_
   rw [show ((b.toNat:Int) == 45)=(b == 45) from byte_eq (b:=b) (n:=45) (c:=45) rfl,hc,show szOK r=true from decide_eq_true (by rw [List.length_cons] at hl; omega)]
   simp only [List.headD_cons,List.tail_cons]
   cases (b == 45) with
   | true=>exact tail r true
   | false=>exact tail (b :: r) false
 ·cases h
end
end Go.Proofs.Tryz
namespace Go.Proofs.Tryz
open Go.Ad
open Go.Lib (decDigits itoa nDigits decFrom digitVal)
def unitV (w:List UInt8):Option (List UInt8) :=
 bif [117,109] == w then some [49] else bif [109,109] == w then some [49,48,48,48] else bif [99,109] == w then some [49,48,48,48,48] else bif [105,110] == w then some [50,53,52,48,48] else bif [116,104,111,117] == w then some [49,50,55,47,53] else none
theorem unitsK_eq (w:List UInt8) (k:List UInt8→Option (List Lf)) (z:Option (List Lf)):unitsK w k z=match unitV w with
  | some v=>k v
  | none=>z:=by
 unfold unitsK unitV
 cases ([117,109] == w) with
 | true=>rfl
 | false =>
  cases ([109,109] == w) with
  | true=>rfl
  | false =>
   cases ([99,109] == w) with
   | true=>rfl
   | false =>
    cases ([105,110] == w) with
    | true=>rfl
    | false=>cases ([116,104,111,117] == w) <;> rfl
theorem rq_um:Rq [49] 1 1:=⟨by kernel_rfl,by omega,by decide⟩
theorem rq_mm:Rq [49,48,48,48] 1000 1:=⟨by kernel_rfl,by omega,by decide⟩
theorem rq_cm:Rq [49,48,48,48,48] 10000 1:=⟨by kernel_rfl,by omega,by decide⟩
theorem rq_in:Rq [50,53,52,48,48] 25400 1:=⟨by kernel_rfl,by omega,by decide⟩
theorem rq_th:Rq [49,50,55,47,53] 127 5:=⟨by kernel_rfl,by omega,by decide⟩
theorem unitV_ok {w v:List UInt8} (h:unitV w=some v):smQ v∧1≤ratN v∧ratN v≤25400∧1≤ratD v∧ratD v≤5:=by
 have key:∀ {N D:Int},Rq v N D→1≤N→N≤25400→1≤D→D≤5→smQ v∧1≤ratN v∧ratN v≤25400∧1≤ratD v∧ratD v≤5:=fun {N D} hq h1 h2 h3 h4=>by
  rw [hq.n,hq.d]
  exact ⟨hq.sm (by omega) (by omega),h1,h2,h3,h4⟩
 unfold unitV at h
 cases h1:([117,109] == w) with
 | true=>rw [h1,cond_true] at h; cases h; exact key rq_um (by omega) (by omega) (by omega) (by omega)
 | false =>
  rw [h1,cond_false] at h
  cases h1:([109,109] == w) with
  | true=>rw [h1,cond_true] at h; cases h; exact key rq_mm (by omega) (by omega) (by omega) (by omega)
  | false =>
   rw [h1,cond_false] at h
   cases h1:([99,109] == w) with
   | true=>rw [h1,cond_true] at h; cases h; exact key rq_cm (by omega) (by omega) (by omega) (by omega)
   | false =>
    rw [h1,cond_false] at h
    cases h1:([105,110] == w) with
    | true=>rw [h1,cond_true] at h; cases h; exact key rq_in (by omega) (by omega) (by omega) (by omega)
    | false =>
     rw [h1,cond_false] at h
     cases h1:([116,104,111,117] == w) with
     | true=>rw [h1,cond_true] at h; cases h; exact key rq_th (by omega) (by omega) (by omega) (by omega)
     | false=>rw [h1,cond_false] at h; cases h
theorem low_sm {n d:Int} (h1:n.natAbs < 10 ^ 18) (h2:1≤d) (h3:d < 10 ^ 18):smQ (lowT n d)∧(ratN (lowT n d)).natAbs≤n.natAbs∧1≤ratD (lowT n d)∧ratD (lowT n d)≤d:=by
 obtain ⟨N,D,hq,_,h4,h5,_⟩:=low_ex (A:=n) (B:=d) (by omega)
 have hD:=hq.2.1
 rw [hq.n,hq.d]
 exact ⟨hq.sm (by omega) (by omega),h4,hD,by omega⟩
theorem mulX_sm {n d:Int} {v w:List UInt8} (h1:n.natAbs < 10 ^ 13) (h2:1≤d) (h3:d≤10 ^ 6) (hv:unitV w=some v):smQ (mulX (lowT n d) v)∧(ratN (mulX (lowT n d) v)).natAbs < 10 ^ 18∧1≤ratD (mulX (lowT n d) v)∧ratD (mulX (lowT n d) v) < 10 ^ 18:=by
 obtain ⟨_,v1,v2,v3,v4⟩:=unitV_ok hv
 obtain ⟨_,a1,a2,a3⟩:=low_sm (n:=n) (d:=d) (by omega) h2 (by omega)
 unfold mulX
 generalize ratN (lowT n d)=N at *
 generalize ratD (lowT n d)=D at *
 generalize ratN v=M at *
 generalize ratD v=E at *
 have h4:(N*M).natAbs < 10 ^ 18:=by
  rw [Int.natAbs_mul]
  have:=Nat.mul_le_mul (show N.natAbs≤10 ^ 13 by omega) (show M.natAbs≤25400 by omega)
  omega
 have h5:1≤D*E∧D*E < 10 ^ 18:=by
  obtain ⟨D,rfl⟩:=Int.eq_ofNat_of_zero_le (show 0≤D by omega)
  obtain ⟨E,rfl⟩:=Int.eq_ofNat_of_zero_le (show 0≤E by omega)
  have h6:=Nat.mul_le_mul (show D≤10 ^ 6 by omega) (show E≤5 by omega)
  have h7:=Nat.mul_le_mul (show 1≤D by omega) (show 1≤E by omega)
  rw [← Int.natCast_mul]
  omega
 obtain ⟨b0,b1,b2,b3⟩:=low_sm h4 h5.1 h5.2
 exact ⟨b0,by omega,b2,by omega⟩
def exR (s:List UInt8):List UInt8 × Int :=
 if s.length > 40 then ([],17) else if (nbR (cutC 32 s).1).2 ≠ 0 then ([],(nbR (cutC 32 s).1).2) else match unitV (cutC 32 s).2.1 with
  | none=>([],20)
  | some v=>bif (cutC 32 s).2.2 then (bif rangeB (mulX (nbR (cutC 32 s).1).1 v) then (mulX (nbR (cutC 32 s).1).1 v,0) else ([],2)) else ([],20)
theorem nbR_ok {a:List UInt8} (h:(nbR a).2=0):∃ n d:Int,(nbR a).1=lowT n d∧n.natAbs < 10 ^ 13∧1≤d∧d≤10 ^ 6∧(numR (cpS a).1).2.2=0∧n=(bif (cpS a).2 then -(numR (cpS a).1).1 else (numR (cpS a).1).1)∧d=(numR (cpS a).1).2.1:=by
 unfold nbR nbF at h ⊢
 by_cases h1:(numR (cpS a).1).2.2=0
 ·obtain ⟨o1,o2,o3,o4⟩:=numR_ok h1
  rw [if_neg (by simpa using h1)] at h ⊢
  refine ⟨_,_,rfl,?_,o3,o4,h1,rfl,rfl⟩
  cases (cpS a).2 with
  | true=>rw [cond_true]; omega
  | false=>rw [cond_false]; omega
 ·rw [if_pos h1] at h; exact (h1 h).elim
theorem exR_ok {s:List UInt8} (h:(exR s).2=0):smI (exR s).1∧rangeB (exR s).1=true∧ratD (exR s).1 < 10 ^ 18:=by
 unfold exR at h ⊢
 by_cases h1:s.length > 40
 ·rw [if_pos h1] at h; cases h
 ·rw [if_neg h1] at h ⊢
  by_cases h2:(nbR (cutC 32 s).1).2=0
  ·rw [if_neg (by simpa using h2)] at h ⊢
   cases hv:unitV (cutC 32 s).2.1 with
   | none=>rw [hv] at h; cases h
   | some v =>
    rw [hv] at h
    simp only at h ⊢
    cases hb:(cutC 32 s).2.2 with
    | false=>rw [hb] at h; cases h
    | true =>
     rw [hb,cond_true] at h
     rw [cond_true]
     cases hr:rangeB (mulX (nbR (cutC 32 s).1).1 v) with
     | false=>rw [hr] at h; cases h
     | true =>
      rw [cond_true]
      obtain ⟨n,d,e,b1,b2,b3,_⟩:=nbR_ok h2
      rw [e] at hr ⊢
      obtain ⟨c1,c2,c3,c4⟩:=mulX_sm b1 b2 b3 hv
      exact ⟨⟨c1,c2⟩,hr,c4⟩
  ·rw [if_pos h2] at h; exact (h2 h).elim
noncomputable def TEx:List Lf→Tr (SP × List Lf)
 | [.s a]=>.br (szOK a) (.leaf (spRI,[.s (exR a).1,.i (exR a).2])) .fail
 | _=>.fail
noncomputable def pX4:Prims:=pX3.addh 11 (liftG 8 (funQ spS1 8 [] TEx))
noncomputable def rxK (a v:List UInt8) (bl:Bool):Option (List Lf) :=
 brK (!bl) (e2 20) (brK (propB (smQ a∧smQ v∧True)) (brK (propB (smQ (mulX a v))) (brK (!(rangeB (mulX a v))) (e2 2) (some [.s (mulX a v),.i 0])) none) none)
theorem run12 (x:List UInt8):(runK prog pX4 60).call 12 (spS1.rho [.s x]) (spS1.heap [.s x]) (finQ spRI 8 []) =
  brK (decide ((x.length:Int) > 40)) (e2 17) (brK (propB ((0:Int)≤32∧(32:Int) < 256) && szOK x) (brK (szOK (cutC (byteOf 32) x).1) (brK ((nbR (cutC (byteOf 32) x).1).2 != 0) (some [.s [],.i (nbR (cutC (byteOf 32) x).1).2])
   (unitsK (cutC (byteOf 32) x).2.1 (fun v=>rxK (nbR (cutC (byteOf 32) x).1).1 v (cutC (byteOf 32) x).2.2) (e2 20))) none) none):=by kernel_rfl
noncomputable def pX5:Prims:=pX4.addh 12 (liftG 8 (funQ spS1 8 [] TEx))
def parR (s:List UInt8):Int × Int:=if (exR s).2 ≠ 0 then (0,(exR s).2) else intR (exR s).1
noncomputable abbrev parK (x:List UInt8):Option (List Lf):=brK (szOK x) (brK ((exR x).2 != 0) (some [.i 0,.i (exR x).2]) (brK (propB (smI (exR x).1)) (some [.i (intR (exR x).1).1,.i (intR (exR x).1).2]) none)) none
theorem run13 (x:List UInt8):(runK prog pX5 60).call 13 (spS1.rho [.s x]) (spS1.heap [.s x]) (finQ spI2 8 [])=parK x:=by kernel_rfl
theorem run14 (x:List UInt8):(runK prog pX5 60).call 14 (spS1.rho [.s x]) (spS1.heap [.s x]) (finQ spI2 8 [])=parK x:=by kernel_rfl
noncomputable def TPa:List Lf→Tr (SP × List Lf)
 | [.s a]=>.br (szOK a) (.leaf (spI2,[.i (parR a).1,.i (parR a).2])) .fail
 | _=>.fail
noncomputable def pX6:Prims:=(pX5.addh 13 (liftG 8 (funQ spS1 8 [] TPa))).addh 14 (liftG 8 (funQ spS1 8 [] TPa))
theorem parK_eq {x:List UInt8} (h:szOK x=true):parK x=some [.i (parR x).1,.i (parR x).2]:=by
 unfold parK parR
 rw [h]
 by_cases h1:(exR x).2=0
 ·rw [if_neg (by simpa using h1),h1,propB_true (exR_ok h1).1]; rfl
 ·rw [if_pos h1,show ((exR x).2 != 0)=true by simpa using h1]; rfl
theorem cpS_sz {s:List UInt8} (h:szOK s=true):szOK (cpS s).1=true:=by
 have hs:s.length < 2 ^ 62:=of_decide_eq_true h
 unfold cpS
 cases s with
 | nil=>rfl
 | cons b r =>
  rw [List.length_cons] at hs
  show szOK (bif b == 45 then r else b :: r)=true
  cases (b == 45) with
  | true=>exact decide_eq_true (show r.length < 2 ^ 62 by omega)
  | false=>exact h
theorem rxK_eq {n d:Int} {v w:List UInt8} {bl:Bool} (h1:n.natAbs < 10 ^ 13) (h2:1≤d) (h3:d≤10 ^ 6) (hv:unitV w=some v):rxK (lowT n d) v bl=some (match (bif bl then (bif rangeB (mulX (lowT n d) v) then (mulX (lowT n d) v,0) else ([],2)) else ([],20):List UInt8 × Int) with | (a,e)=>[Lf.s a,Lf.i e]) ∧
  unitK n d v bl=rxK (lowT n d) v bl:=by
 have q1:=(low_sm (n:=n) (d:=d) (by omega) h2 (by omega)).1
 have q2:=(mulX_sm h1 h2 h3 hv).1
 have q3:=(unitV_ok hv).1
 unfold unitK rxK e2
 rw [propB_true ⟨q1,q3,trivial⟩,propB_true q2,propB_true ⟨⟨by omega,by omega⟩,⟨by omega,by omega⟩,by omega⟩]
 cases bl with
 | false=>exact ⟨rfl,rfl⟩
 | true=>cases rangeB (mulX (lowT n d) v) <;> exact ⟨rfl,rfl⟩
section
variable {A:Amb} (hT:Tab A) (hE:TabE A) (hG:prog.globals.size≤A.G)
include hT hE hG
theorem pX4_ok:PrimOK prog A pX4:=by
 have hp:=pX3_ok hT hE hG
 refine hp.addl gsz func11 (by kernel_rfl) (funQ_ok hmix hnum rfl fun ls sq l h=>?_)
 unfold TEx at h
 split at h
 ·rename_i x
  obtain ⟨hc,hv⟩:=Tr.br1 h
  cases hv
  refine ⟨fr8 rfl rfl,rfl,pX3,60,_,hp,(run11 x).trans ?_,fun _ _=>.refl⟩
  obtain ⟨p1,p2⟩:=cutC_sz (c:=32) hc
  rw [hc,p1,cpS_sz p1,unitsK_eq,unitsK_eq]
  unfold exR
  by_cases h1:x.length > 40
  ·rw [decide_eq_true (show (x.length:Int) > 40 by omega),if_pos h1]; rfl
  ·rw [decide_eq_false (show ¬ (x.length:Int) > 40 by omega),if_neg h1]
   by_cases h2:(numR (cpS (cutC 32 x).1).1).2.2=0
   ·obtain ⟨o1,o2,o3,o4⟩:=numR_ok h2
    have hn:(nbR (cutC 32 x).1).2=0:=by
     unfold nbR nbF
     rw [if_neg (by simpa using h2)]
    obtain ⟨n,d,e,b1,b2,b3,_,b4,b5⟩:=nbR_ok hn
    rw [if_neg (by simpa using hn),h2,e,W_id (n:=0 - (numR (cpS (cutC 32 x).1).1).1) (by omega) (by omega),Int.zero_sub,← b5]
    have hm:brK (cpS (cutC 32 x).1).2 (match unitV (cutC 32 x).2.1 with | some v=>unitK (-(numR (cpS (cutC 32 x).1).1).1) d v (cutC 32 x).2.2 | none=>e2 20) (match unitV (cutC 32 x).2.1 with | some v=>unitK (numR (cpS (cutC 32 x).1).1).1 d v (cutC 32 x).2.2 | none=>e2 20) =
      (match unitV (cutC 32 x).2.1 with | some v=>unitK n d v (cutC 32 x).2.2 | none=>e2 20):=by
     rw [b4]
     cases (cpS (cutC 32 x).1).2 <;> rfl
    rw [brK_f,brK_t,brK_t,brK_t,show ((0:Int) != 0)=false from rfl,brK_f]
    refine hm.trans ?_
    cases hv:unitV (cutC 32 x).2.1 with
    | none=>rfl
    | some v =>
     obtain ⟨r1,r2⟩:=rxK_eq (bl:=(cutC 32 x).2.2) b1 b2 b3 hv
     exact r2.trans r1
   ·have hn:(nbR (cutC 32 x).1).2=(numR (cpS (cutC 32 x).1).1).2.2:=by
     unfold nbR nbF
     rw [if_pos h2]
    rw [hn,if_pos h2,show ((numR (cpS (cutC 32 x).1).1).2.2 != 0)=true by simpa using h2]; rfl
 ·cases h
theorem pX5_ok:PrimOK prog A pX5:=by
 have hp:=pX4_ok hT hE hG
 refine hp.addl gsz func12 (by kernel_rfl) (funQ_ok hmix hnum rfl fun ls sq l h=>?_)
 unfold TEx at h
 split at h
 ·rename_i x
  obtain ⟨hc,hv⟩:=Tr.br1 h
  cases hv
  refine ⟨fr8 rfl rfl,rfl,pX4,60,_,hp,(run12 x).trans ?_,fun _ _=>.refl⟩
  obtain ⟨p1,p2⟩:=cutC_sz (c:=32) hc
  rw [show byteOf 32=32 by decide,hc,p1,unitsK_eq,propB_true ⟨by omega,by omega⟩]
  unfold exR
  by_cases h1:x.length > 40
  ·rw [decide_eq_true (show (x.length:Int) > 40 by omega),if_pos h1]; rfl
  ·rw [decide_eq_false (show ¬ (x.length:Int) > 40 by omega),if_neg h1]
   by_cases h2:(nbR (cutC 32 x).1).2=0
   ·obtain ⟨n,d,e,b1,b2,b3,_⟩:=nbR_ok h2
    rw [if_neg (by simpa using h2),h2,e]
    cases hv:unitV (cutC 32 x).2.1 with
    | none=>rfl
    | some v=>exact (rxK_eq (bl:=(cutC 32 x).2.2) b1 b2 b3 hv).1
   ·rw [if_pos h2,show ((nbR (cutC 32 x).1).2 != 0)=true by simpa using h2]; rfl
 ·cases h
theorem pX6_ok:PrimOK prog A pX6:=by
 have hp:=pX5_ok hT hE hG
 refine (hp.addl gsz func13 (by kernel_rfl) (funQ_ok hmix hnum rfl fun ls sq l h=>?_)).addl gsz func14 (by kernel_rfl) (funQ_ok hmix hnum rfl fun ls sq l h=>?_)
 ·unfold TPa at h
  split at h
  ·rename_i x
   obtain ⟨hc,hv⟩:=Tr.br1 h
   cases hv
   exact ⟨fr8 rfl rfl,rfl,pX5,60,_,hp,(run13 x).trans (parK_eq hc),fun _ _=>.refl⟩
  ·cases h
 ·unfold TPa at h
  split at h
  ·rename_i x
   obtain ⟨hc,hv⟩:=Tr.br1 h
   cases hv
   exact ⟨fr8 rfl rfl,rfl,pX5,60,_,hp,(run14 x).trans (parK_eq hc),fun _ _=>.refl⟩
  ·cases h
end
end Go.Proofs.Tryz
