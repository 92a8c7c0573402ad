/- Values of numbers: Cut at a point, TrimLeft of zeros, Repeat of zeros. -/
import Derived.Test.YtfjgehlpjppggaaGreatDoorBig15
import Derived.Test.YtfjgehlpjppggaaGreatDoorAdPat
namespace Go.Proofs.Tryz
open Go.Ad
open Go.Lib (decDigits itoa nDigits)
def cutS (a:List UInt8):List UInt8 × List UInt8 × Bool:=match cutAt 46 a with
 | some (n,d)=>(n,d,true)
 | none=>(a,[],false)
def spSd:SP:=⟨[.str,.is (.str [46])],dd8⟩
theorem run58 (a:List UInt8):(runK prog pBig28 60).call 58 (spSd.rho [.s a]) (spSd.heap [.s a]) (finQ spSSB 8 []) =
  brK ([46] == a) (brK (true && decide ((0:Int)≤1∧(1:Int)≤(a.length:Int))) (some [.s [],.s ((a.take a.length).drop 1),.b true]) none)
   (brK (decide (Lib.indexByte a (byteOf 46) ≥ 0)) (brK (decide (0≤Lib.indexByte a (byteOf 46)∧Lib.indexByte a (byteOf 46)≤(a.length:Int)) && true) (brK (true && decide (0≤W (Lib.indexByte a (byteOf 46)+1)∧W (Lib.indexByte a (byteOf 46)+1)≤(a.length:Int)))
    (some [.s ((a.take (Lib.indexByte a (byteOf 46)).toNat).drop 0),.s ((a.take a.length).drop (W (Lib.indexByte a (byteOf 46)+1)).toNat),.b true]) none) none) (some [.s a,.s [],.b false])):=by kernel_rfl
noncomputable def T58:List Lf→Tr (SP × List Lf)
 | [.s a]=>.br (szOK a) (.leaf (spSSB,[.s (cutS a).1,.s (cutS a).2.1,.b (cutS a).2.2])) .fail
 | _=>.fail
noncomputable def pVal1:Prims:=pBig28.addh 58 (liftG 8 (funQ spSd 8 [] T58))
theorem pVal1_ok {A:Amb} (hT:Tab A) (hG:prog.globals.size≤A.G):PrimOK prog A pVal1:=by
 refine (pBig28_ok hT hG).addl gsz func58 (by kernel_rfl) (funQ_ok hmix hnum rfl fun ls sq l h=>?_)
 unfold T58 at h
 split at h
 ·rename_i a
  obtain ⟨hc,hv⟩:=Tr.br1 h
  cases hv
  refine ⟨⟨.inr rfl,.inr rfl,.inr rfl,.inr rfl,.inr rfl,.inr rfl,.inr rfl,.inr rfl,trivial⟩,rfl,pBig28,60,_,pBig28_ok hT hG,(run58 a).trans ?_,fun _ _=>.refl⟩
  have hsz:a.length < 2 ^ 62:=of_decide_eq_true hc
  have hb:byteOf 46=46:=by decide
  rw [hb]
  unfold cutS
  by_cases h1:a=[46]
  ·subst h1; rfl
  ·rw [show ([46] == a)=false by rw [beq_eq_false_iff_ne]; exact fun e=>h1 e.symm,brK_f]
   rcases cutAt_index 46 a with ⟨e1,e2⟩ | ⟨i,e0,e1,e2⟩
   ·rw [e1,e2]; rfl
   ·have e3:W ((i:Int)+1)=((i+1:Nat):Int):=by rw [W_id (by omega) (by omega)]; omega
    rw [e1,e2,e3,decide_eq_true (show (i:Int) ≥ 0 by omega),decide_eq_true (show 0≤(i:Int)∧(i:Int)≤(a.length:Int) by omega),decide_eq_true (show 0≤((i+1:Nat):Int)∧((i+1:Nat):Int)≤(a.length:Int) by omega),
     Int.toNat_natCast,Int.toNat_natCast,List.take_length,List.drop_zero]
    rfl
 ·cases h
noncomputable def code74:Code:=f74.body.getD .skip
noncomputable def bodyTL:Code:=unLoop (findB 0 code74)
def spTL:SP:=⟨[.str,.is (.int .u8 48)]++dr 15,dd8⟩
theorem roundTL (a:List UInt8):execK prog (runK prog pBig28 60) noBps bodyTL (spTL.rho [.s a]) (spTL.heap [.s a]) (nrmP (fun _=>spTL) 8 []) =
  brK (decide ((a.length:Int) > 0)) (brK (decide ((0:Int)≤0∧(0:Int) < (a.length:Int))) (brK (((a.getD 0 0).toNat:Int) == 48) (brK (true && decide ((0:Int)≤1∧(1:Int)≤(a.length:Int))) (some (.normal,[.s ((a.take a.length).drop 1)])) none) (some (.exit 0,[.s a]))) none) (some (.exit 0,[.s a])):=by kernel_rfl
def trimZ (a:List UInt8):List UInt8:=a.dropWhile (· == 48)
theorem stepTL (a:List UInt8):execK prog (runK prog pBig28 60) noBps bodyTL (spTL.rho [.s a]) (spTL.heap [.s a]) (nrmP (fun _=>spTL) 8 []) =
  match a with
  | b :: r=>if b=48 then some (.normal,[.s r]) else some (.exit 0,[.s (b :: r)])
  | []=>some (.exit 0,[.s []]):=by
 rw [roundTL]
 cases a with
 | nil=>rfl
 | cons b r =>
  rw [decide_eq_true (show ((List.length (b :: r):Nat):Int) > 0 by simp),decide_eq_true (show (0:Int)≤0∧(0:Int) < ((List.length (b :: r):Nat):Int) by simp),decide_eq_true (show (0:Int)≤1∧(1:Int)≤((List.length (b :: r):Nat):Int) by simp; omega),List.take_length]
  show brK true (brK true (brK ((b.toNat:Int) == 48) _ _) _) _=_
  by_cases h:b=48
  ·subst h; rfl
  ·have h2:b.toNat ≠ 48:=fun e=>h (UInt8.toNat_inj.1 e)
   rw [show ((b.toNat:Int) == 48)=false by rw [beq_eq_false_iff_ne]; omega]
   show _=if b=48 then _ else _
   rw [if_neg h]; rfl
noncomputable def hookTL:Blk:=hookP spTL 8 [] fun
 | [.s a]=>.leaf (.normal,spTL,[.s (trimZ a)])
 | _=>.fail
noncomputable def pVal2:Prims:=pVal1.addb 74 0 hookTL
theorem pVal2_ok {A:Amb} (hT:Tab A) (hG:prog.globals.size≤A.G):PrimOK prog A pVal2:=by
 have hp:=pBig28_ok hT hG
 refine PrimOK.addbP (pVal1_ok hT hG) func74 (show f74.body=some code74 by kernel_rfl) (body:=.loop bodyTL) (by kernel_rfl) (by kernel_rfl) fun ls e sq l h=>?_
 split at h
 ·rename_i a
  cases h
  refine ⟨⟨.inr rfl,.inr rfl,.inr rfl,.inr rfl,.inr rfl,.inr rfl,.inr rfl,.inr rfl,trivial⟩,fun Bb hB=>SEB.block_exit (id:=0) ?_⟩
  refine SEB.while (fun _:List UInt8=>True) List.length (fun a=>⟨spTL.rho [.s a],spTL.heap [.s a],[]⟩) (fun a=>(.exit 0,⟨spTL.rho [.s (trimZ a)],spTL.heap [.s (trimZ a)],[]⟩)) (fun a _=>?_) a trivial
  have hk:=stepTL a
  cases a with
  | nil=>exact .inr ⟨by simp,SEB.of_KP (A:=A) (B0:=Bb) (e:=.exit 0) hmix hnum hp (.none _) hB hk rfl⟩
  | cons b r =>
   simp only at hk
   by_cases hb:b=48
   ·rw [if_pos hb] at hk
    left
    refine ⟨r,trivial,by simp,?_,SEB.of_KP (A:=A) (B0:=Bb) (e:=.normal) hmix hnum hp (.none _) hB hk rfl⟩
    subst hb
    rfl
   ·rw [if_neg hb] at hk
    right
    refine ⟨by simp,?_⟩
    have:trimZ (b :: r)=b :: r:=by
     show (match (b == 48) with | true=>_ | false=>_)=_
     rw [show (b == 48)=false by simpa using hb]
    simp only [this]
    exact SEB.of_KP (A:=A) (B0:=Bb) (e:=.exit 0) hmix hnum hp (.none _) hB hk rfl
 ·cases h
theorem runRep:(List.range 25).map (fun (n:Nat)=>(runK prog lib2 60).call 61 [.str [48],.int .i64 (n:Int)] (Bg 8) finV)=(List.range 25).map fun n=>some (.str (List.replicate n 48)):=by kernel_rfl
noncomputable def gRep:List AV→Tr AV
 | [x,a]=>match sstr? x,snum a with
  | some s,some (k,n)=>.br (propB (s=[48]∧k=.i64) && decide (0≤n∧n≤24)) (.leaf (.sstr (List.replicate n.toNat 48))) .fail
  | _,_=>.fail
 | _=>.fail
noncomputable def pVal3:Prims:=pVal2.addt 61 gRep
theorem pVal3_ok {A:Amb} (hT:Tab A) (hG:prog.globals.size≤A.G):PrimOK prog A pVal3:=by
 refine PrimOK.addt3 hmix hnum (pVal2_ok hT hG) hG func61 (by kernel_rfl) fun args v hv=>?_
 unfold gRep at hv
 split at hv
 ·rename_i x a
  split at hv
  ·rename_i s k n hs hn
   obtain ⟨hc,hv⟩:=Tr.br1 hv
   cases hv
   rw [Bool.and_eq_true,decide_eq_true_eq] at hc
   obtain ⟨hc,h0,h1⟩:=hc
   obtain ⟨rfl,rfl⟩:=propB_eq hc
   obtain ⟨n,rfl⟩:=Int.eq_ofNat_of_zero_le h0
   have hlt:n < 25:=by omega
   have hk:(runK prog lib2 60).call 61 [.str [48],.int .i64 (n:Int)] (Bg 8) finV=some (.str (List.replicate n 48)):=by
    have:=congrArg (fun l=>l[n]?) runRep
    simpa [List.getElem?_map,List.getElem?_range hlt] using this
   obtain ⟨B',hca⟩:=Ca.of_finV hk
   refine ⟨lib2,[.str [48],.int .i64 (n:Int)],.str (List.replicate n 48),B',lib2_ok hT,fun ι xs hx=>?_,fun ι x hx=>?_,rfl,rfl,by rw [gsz]; exact hca⟩
   ·refine VRL.weaken (show ([.str [48],.int .i64 (n:Int)]:List AV).length=[x,a].length from rfl) (fun i a' hi=>?_) hx
    match i,hi with
    | 0,hi=>cases hi; exact ⟨_,rfl,fun v hv=>by have:=sstr_VR hs hv; simpa only [VR] using this⟩
    | 1,hi=>cases hi; exact ⟨_,rfl,fun v hv=>by have:=snum_VR hn hv; simpa only [VR] using this⟩
    | i+2,hi=>simp at hi
   ·rw [Int.toNat_natCast]; simpa only [VR] using hx
  ·cases hv
 ·cases hv
end Go.Proofs.Tryz
namespace Go.Proofs.Tryz
open Go.Ad
open Go.Lib (decDigits itoa nDigits decFrom digitVal)
def digV (acc:Nat) (s:List UInt8):Nat:=s.foldl (fun n b=>n*10+(b.toNat - 48)) acc
theorem decFrom_digV:∀ (s:List UInt8) (acc:Nat),s.all isDg=true→decFrom acc s=some (digV acc s)
 | [],_,_=>rfl
 | b :: r,acc,h=>by
  rw [List.all_cons,Bool.and_eq_true] at h
  have hb:48≤b.toNat∧b.toNat≤57:=by simpa [isDg] using h.1
  have hd:digitVal b=some (b.toNat - 48):=by unfold digitVal; rw [if_pos hb]
  simp only [decFrom,hd]
  exact decFrom_digV r _ h.2
theorem dvalN_digV {s:List UInt8} (h:s.all isDg=true):dvalN s=digV 0 s:=by
 unfold dvalN
 rw [decFrom_digV s 0 h]; rfl
theorem trimZ_cons (b:UInt8) (r:List UInt8):trimZ (b :: r)=if b=48 then trimZ r else b :: r:=by
 by_cases h:b=48
 ·subst h; rfl
 ·rw [if_neg h]
  show (match (b == 48) with | true=>_ | false=>_)=_
  rw [show (b == 48)=false by simpa using h]
theorem digV_trimZ:∀ s:List UInt8,digV 0 (trimZ s)=digV 0 s
 | []=>rfl
 | b :: r=>by
  rw [trimZ_cons]
  by_cases h:b=48
  ·rw [if_pos h,digV_trimZ r]
   subst h; rfl
  ·rw [if_neg h]
theorem trimZ_all:∀ {s:List UInt8},s.all isDg=true→(trimZ s).all isDg=true
 | [],_=>rfl
 | b :: r,h=>by
  rw [trimZ_cons]
  by_cases hb:b=48
  ·rw [if_pos hb]
   rw [List.all_cons,Bool.and_eq_true] at h
   exact trimZ_all h.2
  ·rw [if_neg hb]; exact h
theorem trimZ_head:∀ {s:List UInt8},(trimZ s).headD 0 ≠ 48
 | []=>by simp [trimZ]
 | b :: r=>by
  rw [trimZ_cons]
  by_cases hb:b=48
  ·rw [if_pos hb]; exact trimZ_head
  ·rw [if_neg hb]; exact hb
theorem trimZ_itoa {s:List UInt8} (h:s.all isDg=true):(if trimZ s=[] then [48] else trimZ s)=itoa (digV 0 s):=by
 by_cases h0:trimZ s=[]
 ·rw [if_pos h0]
  have:=digV_trimZ s
  rw [h0] at this
  rw [← this]
  exact itoa0.symm
 ·rw [if_neg h0,Lib.itoa_nonneg]
  have h1:=digits_dec _ (trimZ s) rfl h0 (trimZ_all h) (.inl trimZ_head)
  rw [dvalN_digV (trimZ_all h),digV_trimZ] at h1
  exact h1
theorem ten_itoa:∀ k:Nat,itoa ((10 ^ k:Nat):Int)=49 :: List.replicate k 48
 | 0=>itoa_1
 | k+1=>by
  have ih:=ten_itoa k
  rw [Lib.itoa_nonneg] at ih ⊢
  have h10:10≤10 ^ (k+1):=by rw [Nat.pow_succ]; have:=Nat.pow_pos (n:=k) (show 0 < 10 by decide); omega
  rw [dec_big (by omega),Nat.pow_succ,Nat.mul_div_cancel _ (by decide),ih,List.replicate_succ',List.cons_append]
  congr 2
  unfold dig
  rw [Nat.mul_mod_left]; rfl
theorem digV_lt:∀ (s:List UInt8) (acc:Nat),s.all isDg=true→digV acc s < (acc+1)*10 ^ s.length
 | [],acc,_=>by show acc < _; simp
 | b :: r,acc,h=>by
  rw [List.all_cons,Bool.and_eq_true] at h
  have hb:48≤b.toNat∧b.toNat≤57:=by simpa [isDg] using h.1
  have:=digV_lt r (acc*10+(b.toNat - 48)) h.2
  show digV (acc*10+(b.toNat - 48)) r < _
  rw [List.length_cons,Nat.pow_succ,Nat.mul_comm (10 ^ r.length) 10,← Nat.mul_assoc]
  exact Nat.lt_of_lt_of_le this (Nat.mul_le_mul_right _ (by omega))
theorem isDg_cls {s:List UInt8} {i:Nat}:pCl [2] s i=isDg (s.getD i 0):=by
 unfold pCl isDg
 simp only [List.any_cons,List.any_nil,Bool.or_false]
 unfold bAt clsI
 have hlt:=(s.getD i 0).toNat_lt
 by_cases h1:48≤(s.getD i 0).toNat∧(s.getD i 0).toNat≤57
 ·rw [if_neg (by omega),if_pos (by omega),decide_eq_true h1.1,decide_eq_true h1.2]; rfl
 ·have:(decide (48≤(s.getD i 0).toNat) && decide ((s.getD i 0).toNat≤57))=false:=by simpa using h1
  rw [this]
  split
  ·rfl
  ·rw [if_neg (by omega)]
   split
   ·rfl
   ·split
    ·rfl
    ·split <;> rfl
theorem lenC_tw (s:List UInt8):lenC [2] s=(s.takeWhile isDg).length:=by
 have hs:=List.takeWhile_append_dropWhile (p:=isDg) (l:=s)
 have hle:(s.takeWhile isDg).length≤s.length:=by
  have:=congrArg List.length hs
  rw [List.length_append] at this
  omega
 unfold lenC
 refine scanN_unique (Nat.zero_le _) (by omega) (fun j _ hj=>?_) (fun hl=>?_)
 ·rw [isDg_cls]
  have hg:s.getD j 0=(s.takeWhile isDg).getD j 0:=by
   conv=>lhs; rw [← hs]
   rw [List.getD_eq_getElem?_getD,List.getD_eq_getElem?_getD,List.getElem?_append_left hj]
  rw [hg]
  have hm:(s.takeWhile isDg).getD j 0 ∈ s.takeWhile isDg:=by
   rw [List.getD_eq_getElem?_getD,List.getElem?_eq_getElem hj]
   exact List.getElem_mem hj
  have hall:=List.all_takeWhile (p:=isDg) (l:=s)
  exact List.all_eq_true.1 hall _ hm
 ·rw [isDg_cls]
  cases hd:s.dropWhile isDg with
  | nil =>
   rw [hd,List.append_nil] at hs
   rw [hs] at hl; omega
  | cons b r =>
   have hg:s.getD (s.takeWhile isDg).length 0=b:=by
    generalize s.takeWhile isDg=f at *
    rw [← hs,hd,List.getD_eq_getElem?_getD,List.getElem?_append_right (Nat.le_refl _)]
    simp
   rw [hg]
   have:=List.head?_dropWhile_not (p:=isDg) (l:=s)
   rw [hd] at this
   simpa using this
theorem all_tw {s:List UInt8} (h:(s.takeWhile isDg).length=s.length):s.all isDg=true:=by
 have hs:=List.takeWhile_append_dropWhile (p:=isDg) (l:=s)
 have hd:s.dropWhile isDg=[]:=by
  have:=congrArg List.length hs
  rw [List.length_append] at this
  exact List.eq_nil_of_length_eq_zero (by omega)
 rw [hd,List.append_nil] at hs
 rw [← hs]
 exact List.all_takeWhile
theorem no_point {s:List UInt8} (h:s.all isDg=true):(46:UInt8) ∉ s:=fun hm=>by
 have:=List.all_eq_true.1 h _ hm
 exact absurd this (by decide)
structure NumS (s f b:List UInt8):Prop where
 cut:(cutS s).1=f∧(cutS s).2.1=b
 df:f.all isDg=true
 db:b.all isDg=true
 ne:f ≠ []
 len:s.length≤24
 head:1 < f.length→f.headD 0 ≠ 48
 shape:(s=f∧b=[]) ∨ (s=f++46 :: b∧b ≠ [])
theorem num_shape {s:List UInt8} (h:errN s=0):∃ f b,NumS s f b:=by
 have hs:=List.takeWhile_append_dropWhile (p:=isDg) (l:=s)
 have hfd:(s.takeWhile isDg).all isDg=true:=List.all_takeWhile
 unfold errN at h
 split at h
 ·cases h
 ·rename_i h1
  split at h
  ·cases h
  ·rename_i h2
   rw [not_or,not_or] at h1
   obtain ⟨a1,a2,a3⟩:=h1
   have a2:(numN s).1=s.length:=Decidable.not_not.1 a2
   unfold numN at a1 a2 a3
   rw [lenC_tw] at a1 a2 a3
   generalize hf:s.takeWhile isDg=f at *
   generalize hr:s.dropWhile isDg=r at *
   have hhead:∀ t:List UInt8,s=f++t→bAt s 0=((f++t).headD 0).toNat:=fun t e=>by
    rw [e]; unfold bAt; cases f++t <;> rfl
   cases hb:(decide (0 < f.length) && (decide (f.length+1 < s.length) && (bAt s f.length == 46 && decide (0 < lenC [2] (s.drop (f.length+1)))))) with
   | false =>
    rw [hb] at a1 a2 a3
    simp only [cond_false] at a1 a2 a3
    have hr0:r=[]:=by
     have:=congrArg List.length hs
     rw [List.length_append] at this
     exact List.eq_nil_of_length_eq_zero (by omega)
    subst hr0
    rw [List.append_nil] at hs
    subst hs
    have hne:f ≠ []:=fun e=>a1 (by rw [e]; rfl)
    refine ⟨f,[],⟨?_,hfd,rfl,hne,by omega,fun hl e=>a3 ⟨hl,?_⟩,.inl ⟨rfl,rfl⟩⟩⟩
    ·unfold cutS; rw [cutAt_none (no_point hfd)]; exact ⟨rfl,rfl⟩
    ·rw [hhead [] (List.append_nil _).symm,List.append_nil,e]; rfl
   | true =>
    rw [hb] at a1 a2 a3
    simp only [cond_true] at a1 a2 a3
    rw [Bool.and_eq_true,Bool.and_eq_true,Bool.and_eq_true,decide_eq_true_eq,decide_eq_true_eq,decide_eq_true_eq,beq_iff_eq] at hb
    obtain ⟨b1,b2,b3,b4⟩:=hb
    cases hrr:r with
    | nil=>rw [hrr,List.append_nil] at hs; rw [hs] at b2; omega
    | cons c t =>
     rw [hrr] at hs
     subst hs
     have hc:c=46:=by
      unfold bAt at b3
      rw [List.getD_eq_getElem?_getD,List.getElem?_append_right (Nat.le_refl _)] at b3
      simp at b3
      have:c.toNat=46:=by omega
      exact UInt8.toNat_inj.1 this
     subst hc
     have hdrop:(f++46 :: t).drop (f.length+1)=t:=by
      rw [List.drop_append,List.drop_eq_nil_of_le (by omega),show f.length+1 - f.length=1 by omega]; rfl
     rw [hdrop,lenC_tw] at a2 b4
     rw [List.length_append,List.length_cons] at a2
     have hdt:=all_tw (s:=t) (by omega)
     have hne:f ≠ []:=fun e=>by rw [e] at b1; simp at b1
     refine ⟨f,t,⟨?_,hfd,hdt,hne,by omega,fun hl e=>a3 ⟨hl,?_⟩,.inr ⟨rfl,fun e=>?_⟩⟩⟩
     ·unfold cutS; rw [cutAt_mk (no_point hfd)]; exact ⟨rfl,rfl⟩
     ·rw [hhead (46 :: t) rfl]
      cases f with
      | nil=>exact (hne rfl).elim
      | cons x y=>simp only [List.cons_append,List.headD_cons] at e ⊢; rw [e]; rfl
     ·rw [e] at b4; simp at b4
end Go.Proofs.Tryz
namespace Go.Proofs.Tryz
open Go.Ad
open Go.Lib (decDigits itoa nDigits decFrom digitVal)
noncomputable abbrev repT (x:List UInt8) (k:Nat):Option (List Lf) :=
 brK (propB (([48]:List UInt8)=[48]∧IntKind.i64=IntKind.i64) && decide (0≤(k:Int)∧(k:Int)≤24)) (brK (decide (1+(List.replicate k (48:UInt8)).length < 4611686018427387904)) (brK (szOK x && szOK (49 :: List.replicate k 48))
  (some [.s (makeR x (49 :: List.replicate k 48)).1,.i (makeR x (49 :: List.replicate k 48)).2]) none) none) none
noncomputable abbrev tree27 (a f b:List UInt8):Option (List Lf) :=
 brK (szOK a) (brK (errN a != 0) (some [.s [],.i (errN a)]) (brK (szOK a) (brK (decide (f.length+b.length < 4611686018427387904)) (brK (f++b == []) (brK (f++b == []) (repT [48] b.length) (repT (f++b) b.length)) (brK (trimZ (f++b) == []) (repT [48] b.length) (repT (trimZ (f++b)) b.length))) none) none)) none
theorem run27 (a:List UInt8):(runK prog (pVal3.over pE) 60).call 27 (spS1.rho [.s a]) (spS1.heap [.s a]) (finQ spRI 8 [])=tree27 a (cutS a).1 (cutS a).2.1:=by kernel_rfl
def valR (s:List UInt8):List UInt8 × Int:=if errN s ≠ 0 then ([],errN s) else (lowT (digV 0 ((cutS s).1++(cutS s).2.1):Nat) (10 ^ (cutS s).2.1.length:Nat),0)
theorem errI_small {n:Nat} (h:n < 10 ^ 1024):errI (itoa (n:Int))=0:=by
 rw [errI_itoa,Int.natAbs_natCast,if_neg]
 have:=dec_len_lt h (by omega)
 omega
theorem ten_mono {a:Nat} (b:Nat) (h:a < b):10 ^ a < 10 ^ b:=Nat.pow_lt_pow_right (by decide) h
theorem ten_lt {k:Nat} (h:k≤1023):10 ^ k < 10 ^ 1024:=ten_mono 1024 (by omega)
theorem repT_eq {x:List UInt8} {N k:Nat} (hx:x=itoa (N:Int)) (hN:N < 10 ^ 1024) (hk:k≤24):repT x k=some [.s (lowT (N:Nat) (10 ^ k:Nat)),.i 0]:=by
 unfold repT
 have e1:=errI_small hN
 have e2:=errI_small (ten_lt (k:=k) (by omega))
 rw [← ten_itoa,hx,propB_true ⟨rfl,rfl⟩,decide_eq_true (show 0≤(k:Int)∧(k:Int)≤24 by omega),decide_eq_true (show 1+(List.replicate k (48:UInt8)).length < 4611686018427387904 by rw [List.length_replicate]; omega),
  errI_sz e1,errI_sz e2]
 have h3:itoa ((10 ^ k:Nat):Int) ≠ [48]:=fun e=>by
  rw [← itoa0] at e
  have:=itoa_inj e
  have:=Nat.pow_pos (n:=k) (show 0 < 10 by decide)
  omega
 have hm:makeR (itoa (N:Int)) (itoa ((10 ^ k:Nat):Int))=(lowT (N:Nat) (10 ^ k:Nat),0):=by
  unfold makeR
  rw [if_neg (by rw [e1]; simp),if_neg (by rw [e2]; simp),if_neg h3,dvalZ_itoa,dvalZ_itoa]
 rw [hm]; rfl
theorem NumS.small {s f b:List UInt8} (h:NumS s f b):(f++b).all isDg=true∧(f++b).length≤24∧digV 0 (f++b) < 10 ^ 1024:=by
 have h1:(f++b).all isDg=true:=by rw [List.all_append,h.df,h.db]; rfl
 have h2:(f++b).length≤24:=by
  have:=h.len
  rcases h.shape with ⟨e1,e2⟩ | ⟨e1,e2⟩
  ·rw [e2,List.append_nil,← e1]; exact this
  ·rw [e1,List.length_append,List.length_cons] at this
   rw [List.length_append]; omega
 refine ⟨h1,h2,?_⟩
 have h3:=digV_lt (f++b) 0 h1
 rw [Nat.zero_add,Nat.one_mul] at h3
 exact Nat.lt_trans h3 (ten_lt (by omega))
theorem tree27_eq {a:List UInt8} (h:szOK a=true):tree27 a (cutS a).1 (cutS a).2.1=some [.s (valR a).1,.i (valR a).2]:=by
 unfold tree27 valR
 rw [h]
 by_cases h0:errN a=0
 ·obtain ⟨f,b,hs⟩:=num_shape h0
  rw [if_neg (by rw [h0]; simp),show (errN a != 0)=false by simpa using h0,hs.cut.1,hs.cut.2]
  obtain ⟨h1,h2,h3⟩:=hs.small
  have hne:(f++b == [])=false:=by
   rw [beq_eq_false_iff_ne]
   intro e
   exact hs.ne (List.append_eq_nil_iff.1 e).1
  have hl:f.length+b.length≤24:=by rw [← List.length_append]; exact h2
  rw [hne,decide_eq_true (show f.length+b.length < 4611686018427387904 by omega),brK_t,brK_f,brK_t,brK_t,brK_f]
  have ht:=trimZ_itoa h1
  by_cases hz:trimZ (f++b)=[]
  ·rw [if_pos hz] at ht
   rw [hz]
   exact repT_eq ht h3 (by omega)
  ·rw [if_neg hz] at ht
   rw [show (trimZ (f++b) == [])=false by simpa using hz]
   exact repT_eq ht h3 (by omega)
 ·rw [if_pos h0,show (errN a != 0)=true by simpa using h0]; rfl
noncomputable def T27:List Lf→Tr (SP × List Lf)
 | [.s a]=>.br (szOK a) (.leaf (spRI,[.s (valR a).1,.i (valR a).2])) .fail
 | _=>.fail
noncomputable def pVal4:Prims:=(pVal3.over pE).addh 27 (liftG 8 (funQ spS1 8 [] T27))
theorem pVal4_ok {A:Amb} (hT:Tab A) (hG:prog.globals.size≤A.G):PrimOK prog A pVal4:=by
 have hp:=(pVal3_ok hT hG).over (pE_ok hT hG)
 refine hp.addl gsz func27 (by kernel_rfl) (funQ_ok hmix hnum rfl fun ls sq l h=>?_)
 unfold T27 at h
 split at h
 ·rename_i a
  obtain ⟨hc,hv⟩:=Tr.br1 h
  cases hv
  exact ⟨⟨.inr rfl,.inr rfl,.inr rfl,.inr rfl,.inr rfl,.inr rfl,.inr rfl,.inr rfl,trivial⟩,rfl,pVal3.over pE,60,_,hp,(run27 a).trans (tree27_eq hc),fun _ _=>.refl⟩
 ·cases h
end Go.Proofs.Tryz
namespace Go.Proofs.Tryz
open Go.Ad
open Go.Lib (decDigits itoa nDigits decFrom digitVal)
section
variable {A:Amb} (hT:Tab A) (hG:prog.globals.size≤A.G)
include hT hG
end
section
variable {A:Amb} (hT:Tab A) (hG:prog.globals.size≤A.G)
include hT hG
end
end Go.Proofs.Tryz
namespace Go.Proofs.Tryz
open Go.Ad
open Go.Lib (decDigits itoa nDigits decFrom digitVal)
section
variable {A:Amb} (hT:Tab A) (hG:prog.globals.size≤A.G)
include hT hG
end
end Go.Proofs.Tryz
