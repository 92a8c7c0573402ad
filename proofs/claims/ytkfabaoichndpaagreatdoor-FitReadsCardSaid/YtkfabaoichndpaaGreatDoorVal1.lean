/- Values of numbers: Cut at a point, TrimLeft of zeros, Repeat of zeros. -/
import Derived.Test.YtkfabaoichndpaaGreatDoorBig15
import Derived.Test.YtkfabaoichndpaaGreatDoorAdPat
noncomputable section
namespace Go.Proofs.Tryz
open Go.Ad
open Go.Lib (decDigits itoa nDigits)
def B1k (a:List UInt8):List UInt8 × List UInt8 × Bool:=match cutAt 46 a with
 | some (n,d)=>(n,d,true)
 | none=>(a,[],false)
def spSd:SP:=⟨[.str,.is (.str [46])],dd8⟩
theorem G6s (a:List UInt8):(C9 prog pBig28 60).call 22 (spSd.rho [.s a]) (spSd.heap [.s a]) (V7 D9a 8 []) =
  brK ([46] == a) (brK (true && decide ((0:Int)<=1/\(1:Int)<=(a.length:Int))) (some [.s [],.s ((a.take a.length).drop 1),.b true]) none)
   (brK (decide (Lib.indexByte a (byteOf 46) >= 0)) (brK (decide (0<=Lib.indexByte a (byteOf 46)/\Lib.indexByte a (byteOf 46)<=(a.length:Int)) && true) (brK (true && decide (0<=W (Lib.indexByte a (byteOf 46)+1)/\W (Lib.indexByte a (byteOf 46)+1)<=(a.length:Int)))
    (some [.s ((a.take (Lib.indexByte a (byteOf 46)).toNat).drop 0),.s ((a.take a.length).drop (W (Lib.indexByte a (byteOf 46)+1)).toNat),.b true]) none) none) (some [.s a,.s [],.b false])):=by kernel_rfl
def T58:List Lf->Tr (SP × List Lf)
 | [.s a]=>.br (F4 a) (.leaf (D9a,[.s (B1k a).1,.s (B1k a).2.1,.b (B1k a).2.2])) .fail
 | _=>.fail
def pVal1:Prims:=pBig28.addh 22 (H9 8 (funQ spSd 8 [] T58))
theorem E4t {A:Amb} (hT:Tab A) (hG:gN prog<=A.G):PrimOK prog A pVal1:=by
 refine (B5n hT hG).addl gsz func22 (by kernel_rfl) (J7 D6 D7 rfl fun ls sq l h=>?_)
 unfold T58 at h
 split at h
 ·rename_i a
  obtain ⟨hc,hv⟩:=Tr.br1 h
  cases hv
  refine ⟨⟨.inr rfl,.inr rfl,.inr rfl,.inr rfl,.inr rfl,.inr rfl,.inr rfl,.inr rfl,trivial⟩,rfl,pBig28,60,_,B5n hT hG,(G6s a).trans ?_,fun _ _=>.refl⟩
  have hsz:a.length < 2 ^ 62:=of_decide_eq_true hc
  have hb:byteOf 46=46:=by decide
  rw [hb]
  unfold B1k
  by_cases h1:a=[46]
  ·subst h1; rfl
  ·rw [show ([46] == a)=false by rw [beq_eq_false_iff_ne]; exact fun e=>h1 e.symm,I4]
   rcases V4 46 a with ⟨e1,e2⟩ | ⟨i,e0,e1,e2⟩
   ·rw [e1,e2]; rfl
   ·have e3:W ((i:Int)+1)=((i+1:Nat):Int):=by rw [R4 (by omega) (by omega)]; omega
    rw [e1,e2,e3,dT (show (i:Int) >= 0 by omega),dT (show 0<=(i:Int)/\(i:Int)<=(a.length:Int) by omega),dT (show 0<=((i+1:Nat):Int)/\((i+1:Nat):Int)<=(a.length:Int) by omega),
     Int.toNat_natCast,Int.toNat_natCast,List.take_length,List.drop_zero]
    rfl
 ·cases h
def E4f:Code:=f96.body.getD .skip
def D2o:Code:=J3 (K6 0 E4f)
def spTL:SP:=⟨[.str,.is (.int .u8 48)]++dr 15,dd8⟩
theorem F3i (a:List UInt8):F3 prog (C9 prog pBig28 60) F8 D2o (spTL.rho [.s a]) (spTL.heap [.s a]) (H5 (fun _=>spTL) 8 []) =
  brK (decide ((a.length:Int) > 0)) (brK (decide ((0:Int)<=0/\(0:Int) < (a.length:Int))) (brK (((a.getD 0 0).toNat:Int) == 48) (brK (true && decide ((0:Int)<=1/\(1:Int)<=(a.length:Int))) (some (.normal,[.s ((a.take a.length).drop 1)])) none) (some (.exit 0,[.s a]))) none) (some (.exit 0,[.s a])):=by kernel_rfl
def A2z (a:List UInt8):List UInt8:=a.dropWhile (· == 48)
theorem G2u (a:List UInt8):F3 prog (C9 prog pBig28 60) F8 D2o (spTL.rho [.s a]) (spTL.heap [.s a]) (H5 (fun _=>spTL) 8 []) =
  match a with
  | b :: r=>if b=48 then some (.normal,[.s r]) else some (.exit 0,[.s (b :: r)])
  | []=>some (.exit 0,[.s []]):=by
 rw [F3i]
 cases a with
 | nil=>rfl
 | cons b r =>
  rw [dT (show ((List.length (b :: r):Nat):Int) > 0 by simp),dT (show (0:Int)<=0/\(0:Int) < ((List.length (b :: r):Nat):Int) by simp),dT (show (0:Int)<=1/\(1:Int)<=((List.length (b :: r):Nat):Int) by simp; omega),List.take_length]
  show brK true (brK true (brK ((b.toNat:Int) == 48) _ _) _) _=_
  by_cases h:b=48
  ·subst h; rfl
  ·have h2:b.toNat ≠ 48:=fun e=>h (UInt8.toNat_inj.1 e)
   rw [show ((b.toNat:Int) == 48)=false by rw [beq_eq_false_iff_ne]; omega]
   show _=if b=48 then _ else _
   rw [if_neg h]; rfl
def G0l:Blk:=hookP spTL 8 [] fun
 | [.s a]=>.leaf (.normal,spTL,[.s (A2z a)])
 | _=>.fail
def pVal2:Prims:=pVal1.addb 96 0 G0l
theorem E9p {A:Amb} (hT:Tab A) (hG:gN prog<=A.G):PrimOK prog A pVal2:=by
 have hp:=B5n hT hG
 refine PrimOK.addbP (E4t hT hG) func96 (show f96.body=some E4f by kernel_rfl) (body:=.loop D2o) (by kernel_rfl) (by kernel_rfl) fun ls e sq l h=>?_
 split at h
 ·rename_i a
  cases h
  refine ⟨⟨.inr rfl,.inr rfl,.inr rfl,.inr rfl,.inr rfl,.inr rfl,.inr rfl,.inr rfl,trivial⟩,fun Bb hB=>SEB.block_exit (id:=0) ?_⟩
  refine SEB.while (fun _:List UInt8=>True) List.length (fun a=>⟨spTL.rho [.s a],spTL.heap [.s a],[]⟩) (fun a=>(.exit 0,⟨spTL.rho [.s (A2z a)],spTL.heap [.s (A2z a)],[]⟩)) (fun a _=>?_) a trivial
  have hk:=G2u a
  cases a with
  | nil=>exact .inr ⟨by simp,SEB.of_KP (A:=A) (B0:=Bb) (e:=.exit 0) D6 D7 hp (.none _) hB hk rfl⟩
  | cons b r =>
   simp only at hk
   by_cases hb:b=48
   ·rw [if_pos hb] at hk
    left
    refine ⟨r,trivial,by simp,?_,SEB.of_KP (A:=A) (B0:=Bb) (e:=.normal) D6 D7 hp (.none _) hB hk rfl⟩
    subst hb
    rfl
   ·rw [if_neg hb] at hk
    right
    refine ⟨by simp,?_⟩
    have:A2z (b :: r)=b :: r:=by
     show (match (b == 48) with | true=>_ | false=>_)=_
     rw [show (b == 48)=false by simpa using hb]
    simp only [this]
    exact SEB.of_KP (A:=A) (B0:=Bb) (e:=.exit 0) D6 D7 hp (.none _) hB hk rfl
 ·cases h
theorem G4h:(List.range 25).map (fun (n:Nat)=>(C9 prog lib2 60).call 55 [.str [48],.int .i64 (n:Int)] (Bg 8) G9)=(List.range 25).map fun n=>some (.str (List.replicate n 48)):=by kernel_rfl
def G7w:List AV->Tr AV
 | [x,a]=>match sstr? x,H8 a with
  | some s,some (k,n)=>.br (A9 (s=[48]/\k=.i64) && decide (0<=n/\n<=24)) (.leaf (.sstr (List.replicate n.toNat 48))) .fail
  | _,_=>.fail
 | _=>.fail
def pVal3:Prims:=pVal2.addt 55 G7w
theorem E8b {A:Amb} (hT:Tab A) (hG:gN prog<=A.G):PrimOK prog A pVal3:=by
 refine PrimOK.addt3 D6 D7 (E9p hT hG) hG func55 (by kernel_rfl) fun args v hv=>?_
 unfold G7w at hv
 split at hv
 ·rename_i x a
  split at hv
  ·rename_i s k n hs hn
   obtain ⟨hc,hv⟩:=Tr.br1 hv
   cases hv
   rw [Bool.and_eq_true,decide_eq_true_eq] at hc
   obtain ⟨hc,h0,h1⟩:=hc
   obtain ⟨rfl,rfl⟩:=D9 hc
   obtain ⟨n,rfl⟩:=Int.eq_ofNat_of_zero_le h0
   have hlt:n < 25:=by omega
   have hk:(C9 prog lib2 60).call 55 [.str [48],.int .i64 (n:Int)] (Bg 8) G9=some (.str (List.replicate n 48)):=by
    have:=congrArg (fun l=>l[n]?) G4h
    simpa [List.getElem?_map,List.getElem?_range hlt] using this
   obtain ⟨B',hca⟩:=Ca.of_finV hk
   refine ⟨lib2,[.str [48],.int .i64 (n:Int)],.str (List.replicate n 48),B',I8 hT,fun ι xs hx=>?_,fun ι x hx=>?_,rfl,rfl,by rw [gsz]; exact hca⟩
   ·refine VRL.weaken (show ([.str [48],.int .i64 (n:Int)]:List AV).length=[x,a].length from rfl) (fun i a' hi=>?_) hx
    match i,hi with
    | 0,hi=>cases hi; exact ⟨_,rfl,fun v hv=>by have:=K5 hs hv; simpa only [VR] using this⟩
    | 1,hi=>cases hi; exact ⟨_,rfl,fun v hv=>by have:=F7 hn hv; simpa only [VR] using this⟩
    | i+2,hi=>simp at hi
   ·rw [Int.toNat_natCast]; simpa only [VR] using hx
  ·cases hv
 ·cases hv
end Go.Proofs.Tryz
namespace Go.Proofs.Tryz
open Go.Ad
open Go.Lib (decDigits itoa nDigits decFrom digitVal)
def B3l (acc:Nat) (s:List UInt8):Nat:=s.foldl (fun n b=>n*10+(b.toNat - 48)) acc
theorem B3r:∀ (s:List UInt8) (acc:Nat),s.all F5=true->decFrom acc s=some (B3l acc s)
 | [],_,_=>rfl
 | b :: r,acc,h=>by
  rw [List.all_cons,Bool.and_eq_true] at h
  have hb:48<=b.toNat/\b.toNat<=57:=by simpa [F5] using h.1
  have hd:digitVal b=some (b.toNat - 48):=by unfold digitVal; rw [if_pos hb]
  simp only [decFrom,hd]
  exact B3r r _ h.2
theorem B8a {s:List UInt8} (h:s.all F5=true):O7 s=B3l 0 s:=by
 unfold O7
 rw [B3r s 0 h]; rfl
theorem A3u (b:UInt8) (r:List UInt8):A2z (b :: r)=if b=48 then A2z r else b :: r:=by
 by_cases h:b=48
 ·subst h; rfl
 ·rw [if_neg h]
  show (match (b == 48) with | true=>_ | false=>_)=_
  rw [show (b == 48)=false by simpa using h]
theorem B1f:∀ s:List UInt8,B3l 0 (A2z s)=B3l 0 s
 | []=>rfl
 | b :: r=>by
  rw [A3u]
  by_cases h:b=48
  ·rw [if_pos h,B1f r]
   subst h; rfl
  ·rw [if_neg h]
theorem B5e:∀ {s:List UInt8},s.all F5=true->(A2z s).all F5=true
 | [],_=>rfl
 | b :: r,h=>by
  rw [A3u]
  by_cases hb:b=48
  ·rw [if_pos hb]
   rw [List.all_cons,Bool.and_eq_true] at h
   exact B5e h.2
  ·rw [if_neg hb]; exact h
theorem C0d:∀ {s:List UInt8},(A2z s).headD 0 ≠ 48
 | []=>by simp [A2z]
 | b :: r=>by
  rw [A3u]
  by_cases hb:b=48
  ·rw [if_pos hb]; exact C0d
  ·rw [if_neg hb]; exact hb
theorem D4u {s:List UInt8} (h:s.all F5=true):(if A2z s=[] then [48] else A2z s)=itoa (B3l 0 s):=by
 by_cases h0:A2z s=[]
 ·rw [if_pos h0]
  have:=B1f s
  rw [h0] at this
  rw [<- this]
  exact itoa0.symm
 ·rw [if_neg h0,Lib.itoa_nonneg]
  have h1:=A6r _ (A2z s) rfl h0 (B5e h) (.inl C0d)
  rw [B8a (B5e h),B1f] at h1
  exact h1
theorem D2f:∀ k:Nat,itoa ((10 ^ k:Nat):Int)=49 :: List.replicate k 48
 | 0=>itoa_1
 | k+1=>by
  have ih:=D2f k
  rw [Lib.itoa_nonneg] at ih ⊢
  have h10:10<=10 ^ (k+1):=by rw [Nat.pow_succ]; have:=Nat.pow_pos (n:=k) (show 0 < 10 by decide); omega
  rw [A0j (by omega),Nat.pow_succ,Nat.mul_div_cancel _ (by decide),ih,List.replicate_succ',List.cons_append]
  congr 2
  unfold dig
  rw [Nat.mul_mod_left]; rfl
theorem B3d:∀ (s:List UInt8) (acc:Nat),s.all F5=true->B3l acc s < (acc+1)*10 ^ s.length
 | [],acc,_=>by show acc < _; simp
 | b :: r,acc,h=>by
  rw [List.all_cons,Bool.and_eq_true] at h
  have hb:48<=b.toNat/\b.toNat<=57:=by simpa [F5] using h.1
  have:=B3d r (acc*10+(b.toNat - 48)) h.2
  show B3l (acc*10+(b.toNat - 48)) r < _
  rw [List.length_cons,Nat.pow_succ,Nat.mul_comm (10 ^ r.length) 10,<- Nat.mul_assoc]
  exact Nat.lt_of_lt_of_le this (Nat.mul_le_mul_right _ (by omega))
theorem B2a {s:List UInt8} {i:Nat}:pCl [2] s i=F5 (s.getD i 0):=by
 unfold pCl F5
 simp only [List.any_cons,List.any_nil,Bool.or_false]
 unfold bAt F3f
 have hlt:=(s.getD i 0).toNat_lt
 by_cases h1:48<=(s.getD i 0).toNat/\(s.getD i 0).toNat<=57
 ·rw [if_neg (by omega),if_pos (by omega),dT h1.1,dT h1.2]; rfl
 ·have:(decide (48<=(s.getD i 0).toNat) && decide ((s.getD i 0).toNat<=57))=false:=by simpa using h1
  rw [this]
  split
  ·rfl
  ·rw [if_neg (by omega)]
   split
   ·rfl
   ·split
    ·rfl
    ·split <;> rfl
theorem A9n (s:List UInt8):L6 [2] s=(s.takeWhile F5).length:=by
 have hs:=List.takeWhile_append_dropWhile (p:=F5) (l:=s)
 have hle:(s.takeWhile F5).length<=s.length:=by
  have:=congrArg List.length hs
  rw [List.length_append] at this
  omega
 unfold L6
 refine A6u (Nat.zero_le _) (by omega) (fun j _ hj=>?_) (fun hl=>?_)
 ·rw [B2a]
  have hg:s.getD j 0=(s.takeWhile F5).getD j 0:=by
   conv=>lhs; rw [<- hs]
   rw [List.getD_eq_getElem?_getD,List.getD_eq_getElem?_getD,List.getElem?_append_left hj]
  rw [hg]
  have hm:(s.takeWhile F5).getD j 0 ∈ s.takeWhile F5:=by
   rw [List.getD_eq_getElem?_getD,List.getElem?_eq_getElem hj]
   exact List.getElem_mem hj
  have hall:=List.all_takeWhile (p:=F5) (l:=s)
  exact List.all_eq_true.1 hall _ hm
 ·rw [B2a]
  cases hd:s.dropWhile F5 with
  | nil =>
   rw [hd,List.append_nil] at hs
   rw [hs] at hl; omega
  | cons b r =>
   have hg:s.getD (s.takeWhile F5).length 0=b:=by
    generalize s.takeWhile F5=f at *
    rw [<- hs,hd,List.getD_eq_getElem?_getD,List.getElem?_append_right (Nat.le_refl _)]
    simp
   rw [hg]
   have:=List.head?_dropWhile_not (p:=F5) (l:=s)
   rw [hd] at this
   simpa using this
theorem F0k {s:List UInt8} (h:(s.takeWhile F5).length=s.length):s.all F5=true:=by
 have hs:=List.takeWhile_append_dropWhile (p:=F5) (l:=s)
 have hd:s.dropWhile F5=[]:=by
  have:=congrArg List.length hs
  rw [List.length_append] at this
  exact List.eq_nil_of_length_eq_zero (by omega)
 rw [hd,List.append_nil] at hs
 rw [<- hs]
 exact List.all_takeWhile
theorem B3v {s:List UInt8} (h:s.all F5=true):(46:UInt8) ∉ s:=fun hm=>by
 have:=List.all_eq_true.1 h _ hm
 exact absurd this (by decide)
structure NumS (s f b:List UInt8):Prop where
 cut:(B1k s).1=f/\(B1k s).2.1=b
 df:f.all F5=true
 db:b.all F5=true
 ne:f ≠ []
 len:s.length<=24
 head:1 < f.length->f.headD 0 ≠ 48
 shape:(s=f/\b=[]) \/ (s=f++46 :: b/\b ≠ [])
theorem A9i {s:List UInt8} (h:A3j s=0):∃ f b,NumS s f b:=by
 have hs:=List.takeWhile_append_dropWhile (p:=F5) (l:=s)
 have hfd:(s.takeWhile F5).all F5=true:=List.all_takeWhile
 unfold A3j at h
 split at h
 ·cases h
 ·rename_i h1
  split at h
  ·cases h
  ·rename_i h2
   rw [not_or,not_or] at h1
   obtain ⟨a1,a2,a3⟩:=h1
   have a2:(A6d s).1=s.length:=Decidable.not_not.1 a2
   unfold A6d at a1 a2 a3
   rw [A9n] at a1 a2 a3
   generalize hf:s.takeWhile F5=f at *
   generalize hr:s.dropWhile F5=r at *
   have hhead:∀ t:List UInt8,s=f++t->bAt s 0=((f++t).headD 0).toNat:=fun t e=>by
    rw [e]; unfold bAt; cases f++t <;> rfl
   cases hb:(decide (0 < f.length) && (decide (f.length+1 < s.length) && (bAt s f.length == 46 && decide (0 < L6 [2] (s.drop (f.length+1)))))) with
   | false =>
    rw [hb] at a1 a2 a3
    simp only [cond_false] at a1 a2 a3
    have hr0:r=[]:=by
     have:=congrArg List.length hs
     rw [List.length_append] at this
     exact List.eq_nil_of_length_eq_zero (by omega)
    subst hr0
    rw [List.append_nil] at hs
    subst hs
    have hne:f ≠ []:=fun e=>a1 (by rw [e]; rfl)
    refine ⟨f,[],⟨?_,hfd,rfl,hne,by omega,fun hl e=>a3 ⟨hl,?_⟩,.inl ⟨rfl,rfl⟩⟩⟩
    ·unfold B1k; rw [X8 (B3v hfd)]; exact ⟨rfl,rfl⟩
    ·rw [hhead [] (List.append_nil _).symm,List.append_nil,e]; rfl
   | true =>
    rw [hb] at a1 a2 a3
    simp only [cond_true] at a1 a2 a3
    rw [Bool.and_eq_true,Bool.and_eq_true,Bool.and_eq_true,decide_eq_true_eq,decide_eq_true_eq,decide_eq_true_eq,beq_iff_eq] at hb
    obtain ⟨b1,b2,b3,b4⟩:=hb
    cases hrr:r with
    | nil=>rw [hrr,List.append_nil] at hs; rw [hs] at b2; omega
    | cons c t =>
     rw [hrr] at hs
     subst hs
     have hc:c=46:=by
      unfold bAt at b3
      rw [List.getD_eq_getElem?_getD,List.getElem?_append_right (Nat.le_refl _)] at b3
      simp at b3
      have:c.toNat=46:=by omega
      exact UInt8.toNat_inj.1 this
     subst hc
     have hdrop:(f++46 :: t).drop (f.length+1)=t:=by
      rw [List.drop_append,List.drop_eq_nil_of_le (by omega),show f.length+1 - f.length=1 by omega]; rfl
     rw [hdrop,A9n] at a2 b4
     rw [List.length_append,List.length_cons] at a2
     have hdt:=F0k (s:=t) (by omega)
     have hne:f ≠ []:=fun e=>by rw [e] at b1; simp at b1
     refine ⟨f,t,⟨?_,hfd,hdt,hne,by omega,fun hl e=>a3 ⟨hl,?_⟩,.inr ⟨rfl,fun e=>?_⟩⟩⟩
     ·unfold B1k; rw [A5s (B3v hfd)]; exact ⟨rfl,rfl⟩
     ·rw [hhead (46 :: t) rfl]
      cases f with
      | nil=>exact (hne rfl).elim
      | cons x y=>simp only [List.cons_append,List.headD_cons] at e ⊢; rw [e]; rfl
     ·rw [e] at b4; simp at b4
end Go.Proofs.Tryz
namespace Go.Proofs.Tryz
open Go.Ad
open Go.Lib (decDigits itoa nDigits decFrom digitVal)
def A1p (s:List UInt8):List UInt8 × Int:=if A3j s ≠ 0 then ([],A3j s) else (R3 (B3l 0 ((B1k s).1++(B1k s).2.1):Nat) (10 ^ (B1k s).2.1.length:Nat),0)
theorem Y3 {n:Nat} (h:n < 10 ^ 1024):D5 (itoa (n:Int))=0:=by
 rw [A5y,Int.natAbs_natCast,if_neg]
 have:=A1t h (by omega)
 omega
theorem F1k {a:Nat} (b:Nat) (h:a < b):10 ^ a < 10 ^ b:=Nat.pow_lt_pow_right (by decide) h
theorem E7m {k:Nat} (h:k<=1023):10 ^ k < 10 ^ 1024:=F1k 1024 (by omega)
theorem NumS.small {s f b:List UInt8} (h:NumS s f b):(f++b).all F5=true/\(f++b).length<=24/\B3l 0 (f++b) < 10 ^ 1024:=by
 have h1:(f++b).all F5=true:=by rw [List.all_append,h.df,h.db]; rfl
 have h2:(f++b).length<=24:=by
  have:=h.len
  rcases h.shape with ⟨e1,e2⟩ | ⟨e1,e2⟩
  ·rw [e2,List.append_nil,<- e1]; exact this
  ·rw [e1,List.length_append,List.length_cons] at this
   rw [List.length_append]; omega
 refine ⟨h1,h2,?_⟩
 have h3:=B3d (f++b) 0 h1
 rw [Nat.zero_add,Nat.one_mul] at h3
 exact Nat.lt_trans h3 (E7m (by omega))
def T27:List Lf->Tr (SP × List Lf)
 | [.s a]=>.br (F4 a) (.leaf (A1s,[.s (A1p a).1,.i (A1p a).2])) .fail
 | _=>.fail
def pVal4:Prims:=pVal3.over pE
theorem B8n {A:Amb} (hT:Tab A) (hG:gN prog<=A.G):PrimOK prog A pVal4:=(E8b hT hG).over (G7r hT hG)
end Go.Proofs.Tryz
namespace Go.Proofs.Tryz
open Go.Ad
open Go.Lib (decDigits itoa nDigits decFrom digitVal)
theorem G3b (a:List UInt8):(C9 prog lib2 60).call 136 [.sstr a] (Bg 8) G9 =
  brK (!(a == [])) (brK (decide ((0:Int)<=0/\(0:Int) < (a.length:Int))) (brK (((a.getD 0 0).toNat:Int) == 45) (brK (true && decide ((0:Int)<=1/\(1:Int)<=(a.length:Int))) (some (.sstr ((a.take a.length).drop 1))) none) (some (.sstr a))) none) (some (.sstr a)):=by kernel_rfl
theorem B5d (b:UInt8) (r:List UInt8):F6 (b :: r)=if b=45 then r else b :: r:=by
 by_cases h:b=45
 ·subst h; rfl
 ·rw [if_neg h]
  unfold F6
  split
  ·rename_i e; cases e; exact (h rfl).elim
  ·rfl
theorem C7r {b:UInt8} {n:Nat} {c:UInt8} (hc:c.toNat=n):((b.toNat:Int) == (n:Int))=(b == c):=by
 by_cases h:b=c
 ·subst h; rw [hc]; simp
 ·have:b.toNat ≠ n:=fun e=>h (UInt8.toNat_inj.1 (by omega))
  rw [show (b == c)=false by simpa using h,beq_eq_false_iff_ne]
  omega
theorem G0e (a:List UInt8):(C9 prog lib2 60).call 138 [.sstr a] (Bg 8) G9=brK (decide ((0:Int)<=0/\(0:Int) < (a.length:Int))) (some (.sbool (((a.getD 0 0).toNat:Int) == 45))) none:=by kernel_rfl
theorem G2i (s:List UInt8) (m:Bool):(C9 prog lib2 60).call 137 [.sstr s,.sbool m] (Bg 8) G9=brK m (brK (!(s == [48])) (brK (decide (1+s.length < 4611686018427387904)) (some (.sstr (45 :: s))) none) (some (.sstr s))) (some (.sstr s)):=by kernel_rfl
def B4r (s:List UInt8) (m:Bool):List UInt8:=bif m && !(s == [48]) then 45 :: s else s
def G9g:List Lf->Tr AV
 | [.s a]=>.leaf (.sstr (F6 a))
 | _=>.fail
def G6r:List Lf->Tr AV
 | [.s a]=>.br (A9 (isZ a)) (.leaf (.sbool (decide (A7 a < 0)))) .fail
 | _=>.fail
def G7n:List Lf->Tr AV
 | [.s a,.b m]=>.br (decide (1+a.length < 4611686018427387904)) (.leaf (.sstr (B4r a m))) .fail
 | _=>.fail
def pR1:Prims:=((pVal4.addt 136 (gP [.str] G9g)).addt 138 (gP [.str] G6r)).addt 137 (gP [.str,.bool] G7n)
section
variable {A:Amb} (hT:Tab A) (hG:gN prog<=A.G)
include hT hG
theorem F9j:PrimOK prog A pR1:=by
 refine PrimOK.addP D6 D7 (I8 hT) (PrimOK.addP D6 D7 (I8 hT) (PrimOK.addP D6 D7 (I8 hT) (B8n hT hG) hG func136 (by kernel_rfl) fun ls v h=>?_) hG func138 (by kernel_rfl) fun ls v h=>?_) hG func137 (by kernel_rfl) fun ls v h=>?_
 ·unfold G9g at h
  split at h
  ·rename_i a
   cases h
   refine ⟨rfl,60,.sstr (F6 a),?_,rfl,fun ι x h=>h⟩
   rw [gsz]
   refine (G3b a).trans ?_
   cases a with
   | nil=>rfl
   | cons b r =>
    rw [B5d,dT (show (0:Int)<=0/\(0:Int) < ((List.length (b :: r):Nat):Int) by simp only [List.length_cons]; omega),dT (show (0:Int)<=1/\(1:Int)<=((List.length (b :: r):Nat):Int) by simp only [List.length_cons]; omega)]
    show brK true (brK true (brK ((b.toNat:Int) == ((45:Nat):Int)) _ _) _) _=_
    rw [C7r (n:=45) (c:=45) rfl,List.take_length]
    by_cases hb:b=45
    ·subst hb; rfl
    ·rw [if_neg hb,show (b == 45)=false by simpa using hb]; rfl
  ·cases h
 ·unfold G6r at h
  split at h
  ·rename_i a
   obtain ⟨hc,hv⟩:=Tr.br1 h
   cases hv
   have hz:=D9 hc
   refine ⟨rfl,60,.sbool (decide (A7 a < 0)),?_,rfl,fun ι x h=>h⟩
   rw [gsz]
   refine (G0e a).trans ?_
   unfold isZ at hz
   generalize A7 a=Z at *
   subst hz
   rw [C0m,A3p]; rfl
  ·cases h
 ·unfold G7n at h
  split at h
  ·rename_i a m
   obtain ⟨hc,hv⟩:=Tr.br1 h
   cases hv
   refine ⟨rfl,60,.sstr (B4r a m),?_,rfl,fun ι x h=>h⟩
   rw [gsz]
   refine (G2i a m).trans ?_
   rw [hc]
   unfold B4r
   cases m <;> cases (a == [48]) <;> rfl
  ·cases h
end
def E0l:Code:=f179.body.getD .skip
def B7t:Code:=J3 (K6 0 E0l)
def spBare:SP:=⟨[.str]++dr 13,dd8⟩
theorem E3h (a:List UInt8):F3 prog (C9 prog lib2 60) F8 B7t (spBare.rho [.s a]) (spBare.heap [.s a]) (H5 (fun _=>spBare) 8 []) =
  brK (decide ((a.length:Int) > 1)) (brK (decide ((0:Int)<=0/\(0:Int) < (a.length:Int))) (brK (((a.getD 0 0).toNat:Int) == 48) (brK (true && decide ((0:Int)<=1/\(1:Int)<=(a.length:Int))) (some (.normal,[.s ((a.take a.length).drop 1)])) none) (some (.exit 0,[.s a]))) none) (some (.exit 0,[.s a])):=by kernel_rfl
def A0x:List UInt8->List UInt8
 | b :: c :: r=>if b=48 then A0x (c :: r) else b :: c :: r
 | s=>s
theorem E7w (a:List UInt8):F3 prog (C9 prog lib2 60) F8 B7t (spBare.rho [.s a]) (spBare.heap [.s a]) (H5 (fun _=>spBare) 8 []) =
  match a with
  | b :: c :: r=>if b=48 then some (.normal,[.s (c :: r)]) else some (.exit 0,[.s (b :: c :: r)])
  | s=>some (.exit 0,[.s s]):=by
 rw [E3h]
 match a with
 | []=>rfl
 | [b]=>rfl
 | b :: c :: r =>
  rw [dT (show ((List.length (b :: c :: r):Nat):Int) > 1 by simp only [List.length_cons]; omega),dT (show (0:Int)<=0/\(0:Int) < ((List.length (b :: c :: r):Nat):Int) by simp only [List.length_cons]; omega),dT (show (0:Int)<=1/\(1:Int)<=((List.length (b :: c :: r):Nat):Int) by simp only [List.length_cons]; omega),List.take_length]
  show brK true (brK true (brK ((b.toNat:Int) == ((48:Nat):Int)) _ _) _) _=if b=48 then _ else _
  rw [C7r (n:=48) (c:=48) rfl]
  by_cases h:b=48
  ·subst h; rfl
  ·rw [if_neg h,show (b == 48)=false by simpa using h]; rfl
theorem D1k:∀ {s:List UInt8},s ≠ []->A0x s=if A2z s=[] then [48] else A2z s
 | [],h=>(h rfl).elim
 | [b],_=>by
  rw [A3u]
  by_cases h:b=48
  ·subst h; rfl
  ·rw [if_neg h]; rfl
 | b :: c :: r,_=>by
  rw [A3u]
  show (if b=48 then A0x (c :: r) else b :: c :: r)=_
  by_cases h:b=48
  ·rw [if_pos h,if_pos h]; exact D1k (by simp)
  ·rw [if_neg h,if_neg h]; rfl
theorem A6w {s:List UInt8} (hn:s ≠ []) (h:s.all F5=true):A0x s=itoa (B3l 0 s):=by rw [D1k hn,D4u h]
def E7k:Blk:=hookP spBare 8 [] fun
 | [.s a]=>.leaf (.normal,spBare,[.s (A0x a)])
 | _=>.fail
def H0i:List Lf->Tr AV
 | [.s a]=>.leaf (.sstr (A0x a))
 | _=>.fail
def G5a:Prims:=lib2.addb 179 0 E7k
def pR2:Prims:=pR1.addt 179 (gP [.str] H0i)
theorem G1e (a:List UInt8):(C9 prog G5a 60).call 179 [.sstr a] (Bg 8) G9=some (.sstr (A0x a)):=by kernel_rfl
section
variable {A:Amb} (hT:Tab A) (hG:gN prog<=A.G)
include hT hG
omit hG in
theorem F6s:PrimOK prog A G5a:=by
 have hp:=I8 hT
 refine PrimOK.addbP hp func179 (show f179.body=some E0l by kernel_rfl) (body:=.loop B7t) (by kernel_rfl) (by kernel_rfl) fun ls e sq l h=>?_
 split at h
 ·rename_i a
  cases h
  refine ⟨⟨.inr rfl,.inr rfl,.inr rfl,.inr rfl,.inr rfl,.inr rfl,.inr rfl,.inr rfl,trivial⟩,fun Bb hB=>SEB.block_exit (id:=0) ?_⟩
  refine SEB.while (fun _:List UInt8=>True) List.length (fun a=>⟨spBare.rho [.s a],spBare.heap [.s a],[]⟩) (fun a=>(.exit 0,⟨spBare.rho [.s (A0x a)],spBare.heap [.s (A0x a)],[]⟩)) (fun a _=>?_) a trivial
  have hk:=E7w a
  cases a with
  | nil =>
   right
   refine ⟨by simp,?_⟩
   simp only [show A0x []=[] from rfl]
   exact SEB.of_KP (A:=A) (B0:=Bb) (e:=.exit 0) D6 D7 hp (.none _) hB hk rfl
  | cons b t =>
   cases t with
   | nil =>
    right
    refine ⟨by simp,?_⟩
    simp only [show A0x [b]=[b] from rfl]
    exact SEB.of_KP (A:=A) (B0:=Bb) (e:=.exit 0) D6 D7 hp (.none _) hB hk rfl
   | cons c r =>
    simp only at hk
    by_cases hb:b=48
    ·rw [if_pos hb] at hk
     left
     refine ⟨c :: r,trivial,by simp,?_,SEB.of_KP (A:=A) (B0:=Bb) (e:=.normal) D6 D7 hp (.none _) hB hk rfl⟩
     subst hb
     rfl
    ·rw [if_neg hb] at hk
     right
     refine ⟨by simp,?_⟩
     have:A0x (b :: c :: r)=b :: c :: r:=by
      show (if b=48 then _ else _)=_
      rw [if_neg hb]
     simp only [this]
     exact SEB.of_KP (A:=A) (B0:=Bb) (e:=.exit 0) D6 D7 hp (.none _) hB hk rfl
 ·cases h
theorem E5m:PrimOK prog A pR2:=by
 refine PrimOK.addP D6 D7 (F6s hT) (F9j hT hG) hG func179 (by kernel_rfl) fun ls v h=>?_
 unfold H0i at h
 split at h
 ·rename_i a
  cases h
  exact ⟨rfl,60,.sstr (A0x a),by rw [gsz]; exact G1e a,rfl,fun ι x h=>h⟩
 ·cases h
end
end Go.Proofs.Tryz
namespace Go.Proofs.Tryz
open Go.Ad
open Go.Lib (decDigits itoa nDigits decFrom digitVal)
def D9c:Code:=f129.body.getD .skip
def C0n:Code:=J3 (K6 0 D9c)
def spCk:SP:=⟨dr 3++[.str,.int .i64]++dr 38,dd8⟩
def spCkR:SP:=⟨dr 2++[.is (.int .i64 3)]++dr 40,dd8⟩
def G9z:AEx->SP
 | .ret=>spCkR
 | _=>spCk
theorem F5p (s:List UInt8) (i:Int):F3 prog (C9 prog lib2 60) F8 C0n (spCk.rho [.s s,.i i]) (spCk.heap [.s s,.i i]) (H5 G9z 8 []) =
  brK (decide (i < (s.length:Int))) (brK (decide (0<=i/\i < (s.length:Int))) (brK (decide (((s.getD i.toNat 0).toNat:Int) < 48)) (some (.ret,[])) (brK (decide (0<=i/\i < (s.length:Int))) (brK (decide (((s.getD i.toNat 0).toNat:Int) > 57)) (some (.ret,[])) (some (.normal,[.s s,.i (W (i+1))]))) none)) none)
   (some (.exit 0,[.s s,.i i])):=by kernel_rfl
theorem E6s (s:List UInt8) (n:Nat) (hs:s.length < 2 ^ 62):F3 prog (C9 prog lib2 60) F8 C0n (spCk.rho [.s s,.i n]) (spCk.heap [.s s,.i n]) (H5 G9z 8 []) =
  if n < s.length then (if F5 (s.getD n 0)=true then some (.normal,[.s s,.i ((n+1:Nat):Int)]) else some (.ret,[])) else some (.exit 0,[.s s,.i n]):=by
 rw [F5p]
 by_cases h:n < s.length
 ·rw [if_pos h,dT (show (n:Int) < (s.length:Int) by omega),dT (show 0<=(n:Int)/\(n:Int) < (s.length:Int) by omega),Int.toNat_natCast,R4 (by omega) (by omega)]
  unfold F5
  by_cases h1:(s.getD n 0).toNat < 48
  ·rw [dT (show (((s.getD n 0).toNat:Nat):Int) < 48 by omega),dF (show ¬ 48<=(s.getD n 0).toNat by omega)]; rfl
  ·rw [dF (show ¬ (((s.getD n 0).toNat:Nat):Int) < 48 by omega),dT (show 48<=(s.getD n 0).toNat by omega)]
   by_cases h2:(s.getD n 0).toNat<=57
   ·rw [dF (show ¬ (((s.getD n 0).toNat:Nat):Int) > 57 by omega),dT h2]; rfl
   ·rw [dT (show (((s.getD n 0).toNat:Nat):Int) > 57 by omega),dF h2]; rfl
 ·rw [if_neg h,dF (show ¬ (n:Int) < (s.length:Int) by omega)]; rfl
def F8o:Blk:=hookP spCk 8 [] fun
 | [.s s,.i i]=>.br (A9 (i=0) && F4 s) (.br (s.all F5) (.leaf (.normal,spCk,[.s s,.i s.length])) (.leaf (.ret,spCkR,[]))) .fail
 | _=>.fail
theorem C6f:∀ {s:List UInt8},s.all F5=true->s.takeWhile F5=s
 | [],_=>rfl
 | b :: r,h=>by
  rw [List.all_cons,Bool.and_eq_true] at h
  rw [List.takeWhile_cons_of_pos h.1,C6f h.2]
theorem F6q (s:List UInt8):s.all F5=decide (L6 [2] s=s.length):=by
 rw [A9n]
 by_cases h:(s.takeWhile F5).length=s.length
 ·rw [dT h,F0k h]
 ·rw [dF h,Bool.eq_false_iff]
  intro ha
  apply h
  rw [C6f ha]
def G9k:Prims:=pR2.addb 129 0 F8o
theorem G0a (a:List UInt8):(C9 prog G9k 60).call 129 [.sstr a] (Bg 8) G9 =
  brK (F6 a == []) (some (.int .i64 3)) (brK (decide ((0:Int)<=0/\(0:Int) < ((F6 a).length:Int))) (brK ((((F6 a).getD 0 0).toNat:Int) == 48) (brK (decide (((F6 a).length:Int) > 1)) (some (.int .i64 3)) (brK (decide ((a.length:Int) > 1)) (some (.int .i64 3))
   (brK (A9 ((0:Int)=0) && F4 (F6 a)) (brK ((F6 a).all F5) (brK (decide (((F6 a).length:Int) > 1024)) (some (.int .i64 11)) (some (.int .i64 0))) (some (.int .i64 3))) none)))
   (brK (A9 ((0:Int)=0) && F4 (F6 a)) (brK ((F6 a).all F5) (brK (decide (((F6 a).length:Int) > 1024)) (some (.int .i64 11)) (some (.int .i64 0))) (some (.int .i64 3))) none)) none):=by kernel_rfl
section
variable {A:Amb} (hT:Tab A) (hG:gN prog<=A.G)
include hT hG
theorem F5i:PrimOK prog A G9k:=by
 have hp:=I8 hT
 refine PrimOK.addbP (E5m hT hG) func129 (show f129.body=some D9c by kernel_rfl) (body:=.loop C0n) (by kernel_rfl) (by kernel_rfl) fun ls e sq l h=>?_
 split at h
 ·rename_i s i
  obtain ⟨hc,hv⟩:=Tr.br1 h
  rw [Bool.and_eq_true] at hc
  have hi:=D9 hc.1
  have hs:s.length < 2 ^ 62:=of_decide_eq_true hc.2
  subst hi
  have key:∀ Bb:Heap,Bb.length=8->SEB prog A Bb (.loop C0n) ⟨spCk.rho [.s s,.i 0],spCk.heap [.s s,.i 0],[]⟩ (if L6 [2] s < s.length then .ret else .exit 0)
    (if L6 [2] s < s.length then ⟨spCkR.rho [],spCkR.heap [],[]⟩ else ⟨spCk.rho [.s s,.i (L6 [2] s:Nat)],spCk.heap [.s s,.i (L6 [2] s:Nat)],[]⟩):=fun Bb hB =>
   SEB.scan (A:=A) (B0:=Bb) (c:=C0n) (S:=fun n=>⟨spCk.rho [.s s,.i (n:Nat)],spCk.heap [.s s,.i (n:Nat)],[]⟩) (E:=fun n=>if n < s.length then ⟨spCkR.rho [],spCkR.heap [],[]⟩ else ⟨spCk.rho [.s s,.i (n:Nat)],spCk.heap [.s s,.i (n:Nat)],[]⟩)
    (e:=fun n=>if n < s.length then .ret else .exit 0) (p:=pCl [2] s) (N:=s.length) (fun n=>by by_cases h:n < s.length <;> simp [h])
    (fun n hn hp1=>by
     have hk:=E6s s n hs
     rw [B2a] at hp1
     rw [if_pos hn,if_pos hp1] at hk
     exact SEB.of_KP (A:=A) (B0:=Bb) (e:=.normal) D6 D7 hp (.none _) hB hk rfl)
    (fun n hn hp1=>by
     have hk:=E6s s n hs
     by_cases hlt:n < s.length
     ·have:=hp1 hlt
      rw [B2a] at this
      rw [if_pos hlt,if_neg (by rw [this]; simp)] at hk
      simp only [if_pos hlt]
      exact SEB.of_KP (A:=A) (B0:=Bb) (e:=.ret) D6 D7 hp (.none _) hB hk rfl
     ·rw [if_neg hlt] at hk
      simp only [if_neg hlt]
      exact SEB.of_KP (A:=A) (B0:=Bb) (e:=.exit 0) D6 D7 hp (.none _) hB hk rfl) 0 (Nat.zero_le _)
  have hle:=B2r [2] s
  rw [F6q] at hv
  by_cases hl:L6 [2] s=s.length
  ·rw [dT hl] at hv
   cases hv
   refine ⟨⟨.inr rfl,.inr rfl,.inr rfl,.inr rfl,.inr rfl,.inr rfl,.inr rfl,.inr rfl,trivial⟩,fun Bb hB=>SEB.block_exit (id:=0) ?_⟩
   have:=key Bb hB
   rw [if_neg (by omega),if_neg (by omega),hl] at this
   exact this
  ·rw [dF hl] at hv
   cases hv
   refine ⟨⟨.inr rfl,.inr rfl,.inr rfl,.inr rfl,.inr rfl,.inr rfl,.inr rfl,.inr rfl,trivial⟩,fun Bb hB=>SEB.block_other (id:=0) ?_ (by simp)⟩
   have:=key Bb hB
   rw [if_pos (by omega),if_pos (by omega)] at this
   exact this
 ·cases h
def pR3:Prims:=pR2.addt 129 (gP [.str] (E1l D5))
omit hT hG in
theorem A0v (a:List UInt8):(F6 a).length<=a.length/\((F6 a).length < a.length->∃ r,a=45 :: r/\F6 a=r):=by
 cases a with
 | nil=>exact ⟨Nat.le_refl _,fun h=>by simp at h⟩
 | cons b r =>
  rw [B5d]
  by_cases h:b=45
  ·subst h; rw [if_pos rfl]; exact ⟨by simp,fun _=>⟨r,rfl,rfl⟩⟩
  ·rw [if_neg h]; exact ⟨Nat.le_refl _,fun h=>by omega⟩
theorem E7s:PrimOK prog A pR3:=by
 refine PrimOK.addP D6 D7 (F5i hT hG) (E5m hT hG) hG func129 (by kernel_rfl) fun ls v h=>?_
 unfold E1l at h
 split at h
 ·rename_i a
  obtain ⟨hc,hv⟩:=Tr.br1 h
  cases hv
  have hs:a.length < 2 ^ 62:=of_decide_eq_true hc
  refine ⟨rfl,60,.int .i64 (D5 a),?_,rfl,fun ι x h=>Q4 rfl x h⟩
  rw [gsz]
  refine (G0a a).trans ?_
  obtain ⟨h1,h2⟩:=A0v a
  have hsz:F4 (F6 a)=true:=dT (by omega)
  rw [A8 rfl,hsz]
  unfold D5
  by_cases h0:F6 a=[]
  ·rw [if_pos (show F6 a=[] \/ (F6 a).all F5=false from .inl h0),show (F6 a == [])=true by simpa using h0]; rfl
  ·have hpos:0 < (F6 a).length:=by cases hh:F6 a with | nil=>exact (h0 hh).elim | cons=>simp
   have hg:(F6 a).getD 0 0=(F6 a).headD 0:=by cases F6 a <;> rfl
   rw [show (F6 a == [])=false by simpa using h0,I4,dT (show (0:Int)<=0/\(0:Int) < ((F6 a).length:Int) by omega),E5,hg]
   have htail:brK (true && true) (brK ((F6 a).all F5) (brK (decide (((F6 a).length:Int) > 1024)) (some (AV.int .i64 11)) (some (.int .i64 0))) (some (.int .i64 3))) none =
     some (AV.int .i64 (if (F6 a).all F5=false then 3 else if (F6 a).length > 1024 then 11 else 0)):=by
    cases (F6 a).all F5 with
    | false=>rfl
    | true =>
     by_cases hh:(F6 a).length > 1024
     ·rw [dT (show ((F6 a).length:Int) > 1024 by omega)]; simp only [if_pos hh]; rfl
     ·rw [dF (show ¬ ((F6 a).length:Int) > 1024 by omega)]; simp only [if_neg hh]; rfl
   rw [htail]
   have hd:(((F6 a).headD 0).toNat:Int) == 48 ↔ (F6 a).headD 0=48:=by
    have:=C7r (b:=(F6 a).headD 0) (n:=48) (c:=48) rfl
    show ((((F6 a).headD 0).toNat:Int) == ((48:Nat):Int))=true ↔ _
    rw [this]; simp
   by_cases h3:(F6 a).headD 0=48
   ·rw [hd.2 h3,E5]
    by_cases h4:a=[48]
    ·subst h4; rfl
    ·have h5:(F6 a).length > 1 \/ a.length > 1:=by
      rcases Nat.lt_or_ge 1 (F6 a).length with h | h
      ·exact .inl h
      ·right
       rcases Nat.lt_or_ge (F6 a).length a.length with h6 | h6
       ·omega
       ·exfalso
        apply h4
        have h7:a.length=1:=by omega
        obtain ⟨b,rfl⟩:=List.length_eq_one_iff.1 h7
        rw [B5d] at h3 h0
        by_cases hb:b=45
        ·subst hb; exact (h0 rfl).elim
        ·rw [if_neg hb] at h3
         have h3:b=48:=h3
         rw [h3]
     have h8:(if F6 a=[] \/ (F6 a).all F5=false then (3:Int) else if (F6 a).headD 0=48/\a ≠ [48] then 3 else if (F6 a).length > 1024 then 11 else 0)=3:=by
      split
      ·rfl
      ·rw [if_pos ⟨h3,h4⟩]
     rw [h8]
     rcases h5 with h | h
     ·rw [dT (show ((F6 a).length:Int) > 1 by omega)]; rfl
     ·by_cases h9:(F6 a).length > 1
      ·rw [dT (show ((F6 a).length:Int) > 1 by omega)]; rfl
      ·rw [dF (show ¬ ((F6 a).length:Int) > 1 by omega),dT (show (a.length:Int) > 1 by omega)]; rfl
   ·rw [show ((((F6 a).headD 0).toNat:Int) == 48)=false by rw [Bool.eq_false_iff]; exact fun e=>h3 (hd.1 e),I4]
    simp only [h0,false_or,h3,false_and,if_false]
 ·cases h
end
end Go.Proofs.Tryz
