/- Values of numbers: Cut at a point, TrimLeft of zeros, Repeat of zeros. -/
import Derived.Test.YtfjgehlpjppggaaGreatDoorBig15
import Derived.Test.YtfjgehlpjppggaaGreatDoorAdPat
noncomputable section
namespace Go.Proofs.Tryz
open Go.Ad
open Go.Lib (decDigits itoa nDigits)
def A7l (a:List UInt8):List UInt8 × List UInt8 × Bool:=match cutAt 46 a with
 | some (n,d)=>(n,d,true)
 | none=>(a,[],false)
def spSd:SP:=⟨[.str,.is (.str [46])],dd8⟩
theorem G5w (a:List UInt8):(C8 prog pBig28 60).call 58 (spSd.rho [.s a]) (spSd.heap [.s a]) (O8 D9a 8 []) =
  brK ([46] == a) (brK (true && decide ((0:Int)<=1/\(1:Int)<=(a.length:Int))) (some [.s [],.s ((a.take a.length).drop 1),.b true]) none)
   (brK (decide (Lib.indexByte a (byteOf 46) >= 0)) (brK (decide (0<=Lib.indexByte a (byteOf 46)/\Lib.indexByte a (byteOf 46)<=(a.length:Int)) && true) (brK (true && decide (0<=W (Lib.indexByte a (byteOf 46)+1)/\W (Lib.indexByte a (byteOf 46)+1)<=(a.length:Int)))
    (some [.s ((a.take (Lib.indexByte a (byteOf 46)).toNat).drop 0),.s ((a.take a.length).drop (W (Lib.indexByte a (byteOf 46)+1)).toNat),.b true]) none) none) (some [.s a,.s [],.b false])):=by kernel_rfl
def T58:List Lf->Tr (SP × List Lf)
 | [.s a]=>.br (D9 a) (.leaf (D9a,[.s (A7l a).1,.s (A7l a).2.1,.b (A7l a).2.2])) .fail
 | _=>.fail
def pVal1:Prims:=pBig28.addh 58 (G8 8 (funQ spSd 8 [] T58))
theorem E7f {A:Amb} (hT:Tab A) (hG:prog.globals.size<=A.G):PrimOK prog A pVal1:=by
 refine (B5d hT hG).addl gsz func58 (by kernel_rfl) (I6 D5 D6 rfl fun ls sq l h=>?_)
 unfold T58 at h
 split at h
 ·rename_i a
  obtain ⟨hc,hv⟩:=Tr.br1 h
  cases hv
  refine ⟨⟨.inr rfl,.inr rfl,.inr rfl,.inr rfl,.inr rfl,.inr rfl,.inr rfl,.inr rfl,trivial⟩,rfl,pBig28,60,_,B5d hT hG,(G5w a).trans ?_,fun _ _=>.refl⟩
  have hsz:a.length < 2 ^ 62:=of_decide_eq_true hc
  have hb:byteOf 46=46:=by decide
  rw [hb]
  unfold A7l
  by_cases h1:a=[46]
  ·subst h1; rfl
  ·rw [show ([46] == a)=false by rw [beq_eq_false_iff_ne]; exact fun e=>h1 e.symm,I8]
   rcases X8 46 a with ⟨e1,e2⟩ | ⟨i,e0,e1,e2⟩
   ·rw [e1,e2]; rfl
   ·have e3:W ((i:Int)+1)=((i+1:Nat):Int):=by rw [V7 (by omega) (by omega)]; omega
    rw [e1,e2,e3,dT (show (i:Int) >= 0 by omega),dT (show 0<=(i:Int)/\(i:Int)<=(a.length:Int) by omega),dT (show 0<=((i+1:Nat):Int)/\((i+1:Nat):Int)<=(a.length:Int) by omega),
     Int.toNat_natCast,Int.toNat_natCast,List.take_length,List.drop_zero]
    rfl
 ·cases h
def F0c:Code:=f74.body.getD .skip
def D7w:Code:=I7 (J7 0 F0c)
def spTL:SP:=⟨[.str,.is (.int .u8 48)]++dr 15,dd8⟩
theorem F7q (a:List UInt8):E9 prog (C8 prog pBig28 60) F7 D7w (spTL.rho [.s a]) (spTL.heap [.s a]) (H6 (fun _=>spTL) 8 []) =
  brK (decide ((a.length:Int) > 0)) (brK (decide ((0:Int)<=0/\(0:Int) < (a.length:Int))) (brK (((a.getD 0 0).toNat:Int) == 48) (brK (true && decide ((0:Int)<=1/\(1:Int)<=(a.length:Int))) (some (.normal,[.s ((a.take a.length).drop 1)])) none) (some (.exit 0,[.s a]))) none) (some (.exit 0,[.s a])):=by kernel_rfl
def A0q (a:List UInt8):List UInt8:=a.dropWhile (· == 48)
theorem G5e (a:List UInt8):E9 prog (C8 prog pBig28 60) F7 D7w (spTL.rho [.s a]) (spTL.heap [.s a]) (H6 (fun _=>spTL) 8 []) =
  match a with
  | b :: r=>if b=48 then some (.normal,[.s r]) else some (.exit 0,[.s (b :: r)])
  | []=>some (.exit 0,[.s []]):=by
 rw [F7q]
 cases a with
 | nil=>rfl
 | cons b r =>
  rw [dT (show ((List.length (b :: r):Nat):Int) > 0 by simp),dT (show (0:Int)<=0/\(0:Int) < ((List.length (b :: r):Nat):Int) by simp),dT (show (0:Int)<=1/\(1:Int)<=((List.length (b :: r):Nat):Int) by simp; omega),List.take_length]
  show brK true (brK true (brK ((b.toNat:Int) == 48) _ _) _) _=_
  by_cases h:b=48
  ·subst h; rfl
  ·have h2:b.toNat ≠ 48:=fun e=>h (UInt8.toNat_inj.1 e)
   rw [show ((b.toNat:Int) == 48)=false by rw [beq_eq_false_iff_ne]; omega]
   show _=if b=48 then _ else _
   rw [if_neg h]; rfl
def G1x:Blk:=hookP spTL 8 [] fun
 | [.s a]=>.leaf (.normal,spTL,[.s (A0q a)])
 | _=>.fail
def pVal2:Prims:=pVal1.addb 74 0 G1x
theorem E7o {A:Amb} (hT:Tab A) (hG:prog.globals.size<=A.G):PrimOK prog A pVal2:=by
 have hp:=B5d hT hG
 refine PrimOK.addbP (E7f hT hG) func74 (show f74.body=some F0c by kernel_rfl) (body:=.loop D7w) (by kernel_rfl) (by kernel_rfl) fun ls e sq l h=>?_
 split at h
 ·rename_i a
  cases h
  refine ⟨⟨.inr rfl,.inr rfl,.inr rfl,.inr rfl,.inr rfl,.inr rfl,.inr rfl,.inr rfl,trivial⟩,fun Bb hB=>SEB.block_exit (id:=0) ?_⟩
  refine SEB.while (fun _:List UInt8=>True) List.length (fun a=>⟨spTL.rho [.s a],spTL.heap [.s a],[]⟩) (fun a=>(.exit 0,⟨spTL.rho [.s (A0q a)],spTL.heap [.s (A0q a)],[]⟩)) (fun a _=>?_) a trivial
  have hk:=G5e a
  cases a with
  | nil=>exact .inr ⟨by simp,SEB.of_KP (A:=A) (B0:=Bb) (e:=.exit 0) D5 D6 hp (.none _) hB hk rfl⟩
  | cons b r =>
   simp only at hk
   by_cases hb:b=48
   ·rw [if_pos hb] at hk
    left
    refine ⟨r,trivial,by simp,?_,SEB.of_KP (A:=A) (B0:=Bb) (e:=.normal) D5 D6 hp (.none _) hB hk rfl⟩
    subst hb
    rfl
   ·rw [if_neg hb] at hk
    right
    refine ⟨by simp,?_⟩
    have:A0q (b :: r)=b :: r:=by
     show (match (b == 48) with | true=>_ | false=>_)=_
     rw [show (b == 48)=false by simpa using hb]
    simp only [this]
    exact SEB.of_KP (A:=A) (B0:=Bb) (e:=.exit 0) D5 D6 hp (.none _) hB hk rfl
 ·cases h
theorem G3x:(List.range 25).map (fun (n:Nat)=>(C8 prog lib2 60).call 61 [.str [48],.int .i64 (n:Int)] (Bg 8) I4)=(List.range 25).map fun n=>some (.str (List.replicate n 48)):=by kernel_rfl
def G8z:List AV->Tr AV
 | [x,a]=>match sstr? x,J5 a with
  | some s,some (k,n)=>.br (A9 (s=[48]/\k=.i64) && decide (0<=n/\n<=24)) (.leaf (.sstr (List.replicate n.toNat 48))) .fail
  | _,_=>.fail
 | _=>.fail
def pVal3:Prims:=pVal2.addt 61 G8z
theorem F1n {A:Amb} (hT:Tab A) (hG:prog.globals.size<=A.G):PrimOK prog A pVal3:=by
 refine PrimOK.addt3 D5 D6 (E7o hT hG) hG func61 (by kernel_rfl) fun args v hv=>?_
 unfold G8z at hv
 split at hv
 ·rename_i x a
  split at hv
  ·rename_i s k n hs hn
   obtain ⟨hc,hv⟩:=Tr.br1 hv
   cases hv
   rw [Bool.and_eq_true,decide_eq_true_eq] at hc
   obtain ⟨hc,h0,h1⟩:=hc
   obtain ⟨rfl,rfl⟩:=D7 hc
   obtain ⟨n,rfl⟩:=Int.eq_ofNat_of_zero_le h0
   have hlt:n < 25:=by omega
   have hk:(C8 prog lib2 60).call 61 [.str [48],.int .i64 (n:Int)] (Bg 8) I4=some (.str (List.replicate n 48)):=by
    have:=congrArg (fun l=>l[n]?) G3x
    simpa [List.getElem?_map,List.getElem?_range hlt] using this
   obtain ⟨B',hca⟩:=Ca.of_finV hk
   refine ⟨lib2,[.str [48],.int .i64 (n:Int)],.str (List.replicate n 48),B',K5 hT,fun ι xs hx=>?_,fun ι x hx=>?_,rfl,rfl,by rw [gsz]; exact hca⟩
   ·refine VRL.weaken (show ([.str [48],.int .i64 (n:Int)]:List AV).length=[x,a].length from rfl) (fun i a' hi=>?_) hx
    match i,hi with
    | 0,hi=>cases hi; exact ⟨_,rfl,fun v hv=>by have:=M7 hs hv; simpa only [VR] using this⟩
    | 1,hi=>cases hi; exact ⟨_,rfl,fun v hv=>by have:=H9 hn hv; simpa only [VR] using this⟩
    | i+2,hi=>simp at hi
   ·rw [Int.toNat_natCast]; simpa only [VR] using hx
  ·cases hv
 ·cases hv
end Go.Proofs.Tryz
namespace Go.Proofs.Tryz
open Go.Ad
open Go.Lib (decDigits itoa nDigits decFrom digitVal)
def C0k (acc:Nat) (s:List UInt8):Nat:=s.foldl (fun n b=>n*10+(b.toNat - 48)) acc
theorem B4i:∀ (s:List UInt8) (acc:Nat),s.all F8=true->decFrom acc s=some (C0k acc s)
 | [],_,_=>rfl
 | b :: r,acc,h=>by
  rw [List.all_cons,Bool.and_eq_true] at h
  have hb:48<=b.toNat/\b.toNat<=57:=by simpa [F8] using h.1
  have hd:digitVal b=some (b.toNat - 48):=by unfold digitVal; rw [if_pos hb]
  simp only [decFrom,hd]
  exact B4i r _ h.2
theorem D6b {s:List UInt8} (h:s.all F8=true):O7 s=C0k 0 s:=by
 unfold O7
 rw [B4i s 0 h]; rfl
theorem A4d (b:UInt8) (r:List UInt8):A0q (b :: r)=if b=48 then A0q r else b :: r:=by
 by_cases h:b=48
 ·subst h; rfl
 ·rw [if_neg h]
  show (match (b == 48) with | true=>_ | false=>_)=_
  rw [show (b == 48)=false by simpa using h]
theorem B2e:∀ s:List UInt8,C0k 0 (A0q s)=C0k 0 s
 | []=>rfl
 | b :: r=>by
  rw [A4d]
  by_cases h:b=48
  ·rw [if_pos h,B2e r]
   subst h; rfl
  ·rw [if_neg h]
theorem B4q:∀ {s:List UInt8},s.all F8=true->(A0q s).all F8=true
 | [],_=>rfl
 | b :: r,h=>by
  rw [A4d]
  by_cases hb:b=48
  ·rw [if_pos hb]
   rw [List.all_cons,Bool.and_eq_true] at h
   exact B4q h.2
  ·rw [if_neg hb]; exact h
theorem B8y:∀ {s:List UInt8},(A0q s).headD 0 ≠ 48
 | []=>by simp [A0q]
 | b :: r=>by
  rw [A4d]
  by_cases hb:b=48
  ·rw [if_pos hb]; exact B8y
  ·rw [if_neg hb]; exact hb
theorem B8r {s:List UInt8} (h:s.all F8=true):(if A0q s=[] then [48] else A0q s)=itoa (C0k 0 s):=by
 by_cases h0:A0q s=[]
 ·rw [if_pos h0]
  have:=B2e s
  rw [h0] at this
  rw [<- this]
  exact itoa0.symm
 ·rw [if_neg h0,Lib.itoa_nonneg]
  have h1:=B1y _ (A0q s) rfl h0 (B4q h) (.inl B8y)
  rw [D6b (B4q h),B2e] at h1
  exact h1
theorem C1s:∀ k:Nat,itoa ((10 ^ k:Nat):Int)=49 :: List.replicate k 48
 | 0=>itoa_1
 | k+1=>by
  have ih:=C1s k
  rw [Lib.itoa_nonneg] at ih ⊢
  have h10:10<=10 ^ (k+1):=by rw [Nat.pow_succ]; have:=Nat.pow_pos (n:=k) (show 0 < 10 by decide); omega
  rw [A1k (by omega),Nat.pow_succ,Nat.mul_div_cancel _ (by decide),ih,List.replicate_succ',List.cons_append]
  congr 2
  unfold dig
  rw [Nat.mul_mod_left]; rfl
theorem C6p:∀ (s:List UInt8) (acc:Nat),s.all F8=true->C0k acc s < (acc+1)*10 ^ s.length
 | [],acc,_=>by show acc < _; simp
 | b :: r,acc,h=>by
  rw [List.all_cons,Bool.and_eq_true] at h
  have hb:48<=b.toNat/\b.toNat<=57:=by simpa [F8] using h.1
  have:=C6p r (acc*10+(b.toNat - 48)) h.2
  show C0k (acc*10+(b.toNat - 48)) r < _
  rw [List.length_cons,Nat.pow_succ,Nat.mul_comm (10 ^ r.length) 10,<- Nat.mul_assoc]
  exact Nat.lt_of_lt_of_le this (Nat.mul_le_mul_right _ (by omega))
theorem B2o {s:List UInt8} {i:Nat}:pCl [2] s i=F8 (s.getD i 0):=by
 unfold pCl F8
 simp only [List.any_cons,List.any_nil,Bool.or_false]
 unfold bAt A0u
 have hlt:=(s.getD i 0).toNat_lt
 by_cases h1:48<=(s.getD i 0).toNat/\(s.getD i 0).toNat<=57
 ·rw [if_neg (by omega),if_pos (by omega),dT h1.1,dT h1.2]; rfl
 ·have:(decide (48<=(s.getD i 0).toNat) && decide ((s.getD i 0).toNat<=57))=false:=by simpa using h1
  rw [this]
  split
  ·rfl
  ·rw [if_neg (by omega)]
   split
   ·rfl
   ·split
    ·rfl
    ·split <;> rfl
theorem C6f (s:List UInt8):H7 [2] s=(s.takeWhile F8).length:=by
 have hs:=List.takeWhile_append_dropWhile (p:=F8) (l:=s)
 have hle:(s.takeWhile F8).length<=s.length:=by
  have:=congrArg List.length hs
  rw [List.length_append] at this
  omega
 unfold H7
 refine A6j (Nat.zero_le _) (by omega) (fun j _ hj=>?_) (fun hl=>?_)
 ·rw [B2o]
  have hg:s.getD j 0=(s.takeWhile F8).getD j 0:=by
   conv=>lhs; rw [<- hs]
   rw [List.getD_eq_getElem?_getD,List.getD_eq_getElem?_getD,List.getElem?_append_left hj]
  rw [hg]
  have hm:(s.takeWhile F8).getD j 0 ∈ s.takeWhile F8:=by
   rw [List.getD_eq_getElem?_getD,List.getElem?_eq_getElem hj]
   exact List.getElem_mem hj
  have hall:=List.all_takeWhile (p:=F8) (l:=s)
  exact List.all_eq_true.1 hall _ hm
 ·rw [B2o]
  cases hd:s.dropWhile F8 with
  | nil =>
   rw [hd,List.append_nil] at hs
   rw [hs] at hl; omega
  | cons b r =>
   have hg:s.getD (s.takeWhile F8).length 0=b:=by
    generalize s.takeWhile F8=f at *
    rw [<- hs,hd,List.getD_eq_getElem?_getD,List.getElem?_append_right (Nat.le_refl _)]
    simp
   rw [hg]
   have:=List.head?_dropWhile_not (p:=F8) (l:=s)
   rw [hd] at this
   simpa using this
theorem E5y {s:List UInt8} (h:(s.takeWhile F8).length=s.length):s.all F8=true:=by
 have hs:=List.takeWhile_append_dropWhile (p:=F8) (l:=s)
 have hd:s.dropWhile F8=[]:=by
  have:=congrArg List.length hs
  rw [List.length_append] at this
  exact List.eq_nil_of_length_eq_zero (by omega)
 rw [hd,List.append_nil] at hs
 rw [<- hs]
 exact List.all_takeWhile
theorem D2a {s:List UInt8} (h:s.all F8=true):(46:UInt8) ∉ s:=fun hm=>by
 have:=List.all_eq_true.1 h _ hm
 exact absurd this (by decide)
structure NumS (s f b:List UInt8):Prop where
 cut:(A7l s).1=f/\(A7l s).2.1=b
 df:f.all F8=true
 db:b.all F8=true
 ne:f ≠ []
 len:s.length<=24
 head:1 < f.length->f.headD 0 ≠ 48
 shape:(s=f/\b=[]) \/ (s=f++46 :: b/\b ≠ [])
theorem B0p {s:List UInt8} (h:A0s s=0):∃ f b,NumS s f b:=by
 have hs:=List.takeWhile_append_dropWhile (p:=F8) (l:=s)
 have hfd:(s.takeWhile F8).all F8=true:=List.all_takeWhile
 unfold A0s at h
 split at h
 ·cases h
 ·rename_i h1
  split at h
  ·cases h
  ·rename_i h2
   rw [not_or,not_or] at h1
   obtain ⟨a1,a2,a3⟩:=h1
   have a2:(Q9 s).1=s.length:=Decidable.not_not.1 a2
   unfold Q9 at a1 a2 a3
   rw [C6f] at a1 a2 a3
   generalize hf:s.takeWhile F8=f at *
   generalize hr:s.dropWhile F8=r at *
   have hhead:∀ t:List UInt8,s=f++t->bAt s 0=((f++t).headD 0).toNat:=fun t e=>by
    rw [e]; unfold bAt; cases f++t <;> rfl
   cases hb:(decide (0 < f.length) && (decide (f.length+1 < s.length) && (bAt s f.length == 46 && decide (0 < H7 [2] (s.drop (f.length+1)))))) with
   | false =>
    rw [hb] at a1 a2 a3
    simp only [cond_false] at a1 a2 a3
    have hr0:r=[]:=by
     have:=congrArg List.length hs
     rw [List.length_append] at this
     exact List.eq_nil_of_length_eq_zero (by omega)
    subst hr0
    rw [List.append_nil] at hs
    subst hs
    have hne:f ≠ []:=fun e=>a1 (by rw [e]; rfl)
    refine ⟨f,[],⟨?_,hfd,rfl,hne,by omega,fun hl e=>a3 ⟨hl,?_⟩,.inl ⟨rfl,rfl⟩⟩⟩
    ·unfold A7l; rw [A4j (D2a hfd)]; exact ⟨rfl,rfl⟩
    ·rw [hhead [] (List.append_nil _).symm,List.append_nil,e]; rfl
   | true =>
    rw [hb] at a1 a2 a3
    simp only [cond_true] at a1 a2 a3
    rw [Bool.and_eq_true,Bool.and_eq_true,Bool.and_eq_true,decide_eq_true_eq,decide_eq_true_eq,decide_eq_true_eq,beq_iff_eq] at hb
    obtain ⟨b1,b2,b3,b4⟩:=hb
    cases hrr:r with
    | nil=>rw [hrr,List.append_nil] at hs; rw [hs] at b2; omega
    | cons c t =>
     rw [hrr] at hs
     subst hs
     have hc:c=46:=by
      unfold bAt at b3
      rw [List.getD_eq_getElem?_getD,List.getElem?_append_right (Nat.le_refl _)] at b3
      simp at b3
      have:c.toNat=46:=by omega
      exact UInt8.toNat_inj.1 this
     subst hc
     have hdrop:(f++46 :: t).drop (f.length+1)=t:=by
      rw [List.drop_append,List.drop_eq_nil_of_le (by omega),show f.length+1 - f.length=1 by omega]; rfl
     rw [hdrop,C6f] at a2 b4
     rw [List.length_append,List.length_cons] at a2
     have hdt:=E5y (s:=t) (by omega)
     have hne:f ≠ []:=fun e=>by rw [e] at b1; simp at b1
     refine ⟨f,t,⟨?_,hfd,hdt,hne,by omega,fun hl e=>a3 ⟨hl,?_⟩,.inr ⟨rfl,fun e=>?_⟩⟩⟩
     ·unfold A7l; rw [B3g (D2a hfd)]; exact ⟨rfl,rfl⟩
     ·rw [hhead (46 :: t) rfl]
      cases f with
      | nil=>exact (hne rfl).elim
      | cons x y=>simp only [List.cons_append,List.headD_cons] at e ⊢; rw [e]; rfl
     ·rw [e] at b4; simp at b4
end Go.Proofs.Tryz
namespace Go.Proofs.Tryz
open Go.Ad
open Go.Lib (decDigits itoa nDigits decFrom digitVal)
abbrev E4f (x:List UInt8) (k:Nat):Option (List Lf) :=
 brK (A9 (([48]:List UInt8)=[48]/\IntKind.i64=IntKind.i64) && decide (0<=(k:Int)/\(k:Int)<=24)) (brK (decide (1+(List.replicate k (48:UInt8)).length < 4611686018427387904)) (brK (D9 x && D9 (49 :: List.replicate k 48))
  (some [.s (B8z x (49 :: List.replicate k 48)).1,.i (B8z x (49 :: List.replicate k 48)).2]) none) none) none
abbrev D7d (a f b:List UInt8):Option (List Lf) :=
 brK (D9 a) (brK (A0s a != 0) (some [.s [],.i (A0s a)]) (brK (D9 a) (brK (decide (f.length+b.length < 4611686018427387904)) (brK (f++b == []) (brK (f++b == []) (E4f [48] b.length) (E4f (f++b) b.length)) (brK (A0q (f++b) == []) (E4f [48] b.length) (E4f (A0q (f++b)) b.length))) none) none)) none
theorem H1c (a:List UInt8):(C8 prog (pVal3.over pE) 60).call 27 (spS1.rho [.s a]) (spS1.heap [.s a]) (O8 A1i 8 [])=D7d a (A7l a).1 (A7l a).2.1:=by kernel_rfl
def O6 (s:List UInt8):List UInt8 × Int:=if A0s s ≠ 0 then ([],A0s s) else (A5g (C0k 0 ((A7l s).1++(A7l s).2.1):Nat) (10 ^ (A7l s).2.1.length:Nat),0)
theorem R7 {n:Nat} (h:n < 10 ^ 1024):C9 (itoa (n:Int))=0:=by
 rw [B0e,Int.natAbs_natCast,if_neg]
 have:=A3s h (by omega)
 omega
theorem E9q {a:Nat} (b:Nat) (h:a < b):10 ^ a < 10 ^ b:=Nat.pow_lt_pow_right (by decide) h
theorem D7p {k:Nat} (h:k<=1023):10 ^ k < 10 ^ 1024:=E9q 1024 (by omega)
theorem E0y {x:List UInt8} {N k:Nat} (hx:x=itoa (N:Int)) (hN:N < 10 ^ 1024) (hk:k<=24):E4f x k=some [.s (A5g (N:Nat) (10 ^ k:Nat)),.i 0]:=by
 unfold E4f
 have e1:=R7 hN
 have e2:=R7 (D7p (k:=k) (by omega))
 rw [<- C1s,hx,A8 ⟨rfl,rfl⟩,dT (show 0<=(k:Int)/\(k:Int)<=24 by omega),dT (show 1+(List.replicate k (48:UInt8)).length < 4611686018427387904 by rw [List.length_replicate]; omega),
  B3c e1,B3c e2]
 have h3:itoa ((10 ^ k:Nat):Int) ≠ [48]:=fun e=>by
  rw [<- itoa0] at e
  have:=A8v e
  have:=Nat.pow_pos (n:=k) (show 0 < 10 by decide)
  omega
 have hm:B8z (itoa (N:Int)) (itoa ((10 ^ k:Nat):Int))=(A5g (N:Nat) (10 ^ k:Nat),0):=by
  unfold B8z
  rw [if_neg (by rw [e1]; simp),if_neg (by rw [e2]; simp),if_neg h3,D8,D8]
 rw [hm]; rfl
theorem NumS.small {s f b:List UInt8} (h:NumS s f b):(f++b).all F8=true/\(f++b).length<=24/\C0k 0 (f++b) < 10 ^ 1024:=by
 have h1:(f++b).all F8=true:=by rw [List.all_append,h.df,h.db]; rfl
 have h2:(f++b).length<=24:=by
  have:=h.len
  rcases h.shape with ⟨e1,e2⟩ | ⟨e1,e2⟩
  ·rw [e2,List.append_nil,<- e1]; exact this
  ·rw [e1,List.length_append,List.length_cons] at this
   rw [List.length_append]; omega
 refine ⟨h1,h2,?_⟩
 have h3:=C6p (f++b) 0 h1
 rw [Nat.zero_add,Nat.one_mul] at h3
 exact Nat.lt_trans h3 (D7p (by omega))
theorem E3u {a:List UInt8} (h:D9 a=true):D7d a (A7l a).1 (A7l a).2.1=some [.s (O6 a).1,.i (O6 a).2]:=by
 unfold D7d O6
 rw [h]
 by_cases h0:A0s a=0
 ·obtain ⟨f,b,hs⟩:=B0p h0
  rw [if_neg (by rw [h0]; simp),show (A0s a != 0)=false by simpa using h0,hs.cut.1,hs.cut.2]
  obtain ⟨h1,h2,h3⟩:=hs.small
  have hne:(f++b == [])=false:=by
   rw [beq_eq_false_iff_ne]
   intro e
   exact hs.ne (List.append_eq_nil_iff.1 e).1
  have hl:f.length+b.length<=24:=by rw [<- List.length_append]; exact h2
  rw [hne,dT (show f.length+b.length < 4611686018427387904 by omega),E8,I8,E8,E8,I8]
  have ht:=B8r h1
  by_cases hz:A0q (f++b)=[]
  ·rw [if_pos hz] at ht
   rw [hz]
   exact E0y ht h3 (by omega)
  ·rw [if_neg hz] at ht
   rw [show (A0q (f++b) == [])=false by simpa using hz]
   exact E0y ht h3 (by omega)
 ·rw [if_pos h0,show (A0s a != 0)=true by simpa using h0]; rfl
def T27:List Lf->Tr (SP × List Lf)
 | [.s a]=>.br (D9 a) (.leaf (A1i,[.s (O6 a).1,.i (O6 a).2])) .fail
 | _=>.fail
def pVal4:Prims:=(pVal3.over pE).addh 27 (G8 8 (funQ spS1 8 [] T27))
theorem B7z {A:Amb} (hT:Tab A) (hG:prog.globals.size<=A.G):PrimOK prog A pVal4:=by
 have hp:=(F1n hT hG).over (F9n hT hG)
 refine hp.addl gsz func27 (by kernel_rfl) (I6 D5 D6 rfl fun ls sq l h=>?_)
 unfold T27 at h
 split at h
 ·rename_i a
  obtain ⟨hc,hv⟩:=Tr.br1 h
  cases hv
  exact ⟨⟨.inr rfl,.inr rfl,.inr rfl,.inr rfl,.inr rfl,.inr rfl,.inr rfl,.inr rfl,trivial⟩,rfl,pVal3.over pE,60,_,hp,(H1c a).trans (E3u hc),fun _ _=>.refl⟩
 ·cases h
end Go.Proofs.Tryz
namespace Go.Proofs.Tryz
open Go.Ad
open Go.Lib (decDigits itoa nDigits decFrom digitVal)
theorem G4a (a:List UInt8):(C8 prog lib2 60).call 119 [.sstr a] (Bg 8) I4 =
  brK (!(a == [])) (brK (decide ((0:Int)<=0/\(0:Int) < (a.length:Int))) (brK (((a.getD 0 0).toNat:Int) == 45) (brK (true && decide ((0:Int)<=1/\(1:Int)<=(a.length:Int))) (some (.sstr ((a.take a.length).drop 1))) none) (some (.sstr a))) none) (some (.sstr a)):=by kernel_rfl
theorem B4n (b:UInt8) (r:List UInt8):F6 (b :: r)=if b=45 then r else b :: r:=by
 by_cases h:b=45
 ·subst h; rfl
 ·rw [if_neg h]
  unfold F6
  split
  ·rename_i e; cases e; exact (h rfl).elim
  ·rfl
theorem C5v {b:UInt8} {n:Nat} {c:UInt8} (hc:c.toNat=n):((b.toNat:Int) == (n:Int))=(b == c):=by
 by_cases h:b=c
 ·subst h; rw [hc]; simp
 ·have:b.toNat ≠ n:=fun e=>h (UInt8.toNat_inj.1 (by omega))
  rw [show (b == c)=false by simpa using h,beq_eq_false_iff_ne]
  omega
theorem G0x (a:List UInt8):(C8 prog lib2 60).call 121 [.sstr a] (Bg 8) I4=brK (decide ((0:Int)<=0/\(0:Int) < (a.length:Int))) (some (.sbool (((a.getD 0 0).toNat:Int) == 45))) none:=by kernel_rfl
theorem G1q (s:List UInt8) (m:Bool):(C8 prog lib2 60).call 120 [.sstr s,.sbool m] (Bg 8) I4=brK m (brK (!(s == [48])) (brK (decide (1+s.length < 4611686018427387904)) (some (.sstr (45 :: s))) none) (some (.sstr s))) (some (.sstr s)):=by kernel_rfl
def B5n (s:List UInt8) (m:Bool):List UInt8:=bif m && !(s == [48]) then 45 :: s else s
def G9t:List Lf->Tr AV
 | [.s a]=>.leaf (.sstr (F6 a))
 | _=>.fail
def G9u:List Lf->Tr AV
 | [.s a]=>.br (A9 (isZ a)) (.leaf (.sbool (decide (A7 a < 0)))) .fail
 | _=>.fail
def G6h:List Lf->Tr AV
 | [.s a,.b m]=>.br (decide (1+a.length < 4611686018427387904)) (.leaf (.sstr (B5n a m))) .fail
 | _=>.fail
def pR1:Prims:=((pVal4.addt 119 (gP [.str] G9t)).addt 121 (gP [.str] G9u)).addt 120 (gP [.str,.bool] G6h)
section
variable {A:Amb} (hT:Tab A) (hG:prog.globals.size<=A.G)
include hT hG
theorem G1g:PrimOK prog A pR1:=by
 refine PrimOK.addP D5 D6 (K5 hT) (PrimOK.addP D5 D6 (K5 hT) (PrimOK.addP D5 D6 (K5 hT) (B7z hT hG) hG func119 (by kernel_rfl) fun ls v h=>?_) hG func121 (by kernel_rfl) fun ls v h=>?_) hG func120 (by kernel_rfl) fun ls v h=>?_
 ·unfold G9t at h
  split at h
  ·rename_i a
   cases h
   refine ⟨rfl,60,.sstr (F6 a),?_,rfl,fun ι x h=>h⟩
   rw [gsz]
   refine (G4a a).trans ?_
   cases a with
   | nil=>rfl
   | cons b r =>
    rw [B4n,dT (show (0:Int)<=0/\(0:Int) < ((List.length (b :: r):Nat):Int) by simp only [List.length_cons]; omega),dT (show (0:Int)<=1/\(1:Int)<=((List.length (b :: r):Nat):Int) by simp only [List.length_cons]; omega)]
    show brK true (brK true (brK ((b.toNat:Int) == ((45:Nat):Int)) _ _) _) _=_
    rw [C5v (n:=45) (c:=45) rfl,List.take_length]
    by_cases hb:b=45
    ·subst hb; rfl
    ·rw [if_neg hb,show (b == 45)=false by simpa using hb]; rfl
  ·cases h
 ·unfold G9u at h
  split at h
  ·rename_i a
   obtain ⟨hc,hv⟩:=Tr.br1 h
   cases hv
   have hz:=D7 hc
   refine ⟨rfl,60,.sbool (decide (A7 a < 0)),?_,rfl,fun ι x h=>h⟩
   rw [gsz]
   refine (G0x a).trans ?_
   unfold isZ at hz
   generalize A7 a=Z at *
   subst hz
   rw [C1i,A3l]; rfl
  ·cases h
 ·unfold G6h at h
  split at h
  ·rename_i a m
   obtain ⟨hc,hv⟩:=Tr.br1 h
   cases hv
   refine ⟨rfl,60,.sstr (B5n a m),?_,rfl,fun ι x h=>h⟩
   rw [gsz]
   refine (G1q a m).trans ?_
   rw [hc]
   unfold B5n
   cases m <;> cases (a == [48]) <;> rfl
  ·cases h
end
def D9j:Code:=f154.body.getD .skip
def B8f:Code:=I7 (J7 0 D9j)
def spBare:SP:=⟨[.str]++dr 13,dd8⟩
theorem E4n (a:List UInt8):E9 prog (C8 prog lib2 60) F7 B8f (spBare.rho [.s a]) (spBare.heap [.s a]) (H6 (fun _=>spBare) 8 []) =
  brK (decide ((a.length:Int) > 1)) (brK (decide ((0:Int)<=0/\(0:Int) < (a.length:Int))) (brK (((a.getD 0 0).toNat:Int) == 48) (brK (true && decide ((0:Int)<=1/\(1:Int)<=(a.length:Int))) (some (.normal,[.s ((a.take a.length).drop 1)])) none) (some (.exit 0,[.s a]))) none) (some (.exit 0,[.s a])):=by kernel_rfl
def A1g:List UInt8->List UInt8
 | b :: c :: r=>if b=48 then A1g (c :: r) else b :: c :: r
 | s=>s
theorem E5k (a:List UInt8):E9 prog (C8 prog lib2 60) F7 B8f (spBare.rho [.s a]) (spBare.heap [.s a]) (H6 (fun _=>spBare) 8 []) =
  match a with
  | b :: c :: r=>if b=48 then some (.normal,[.s (c :: r)]) else some (.exit 0,[.s (b :: c :: r)])
  | s=>some (.exit 0,[.s s]):=by
 rw [E4n]
 match a with
 | []=>rfl
 | [b]=>rfl
 | b :: c :: r =>
  rw [dT (show ((List.length (b :: c :: r):Nat):Int) > 1 by simp only [List.length_cons]; omega),dT (show (0:Int)<=0/\(0:Int) < ((List.length (b :: c :: r):Nat):Int) by simp only [List.length_cons]; omega),dT (show (0:Int)<=1/\(1:Int)<=((List.length (b :: c :: r):Nat):Int) by simp only [List.length_cons]; omega),List.take_length]
  show brK true (brK true (brK ((b.toNat:Int) == ((48:Nat):Int)) _ _) _) _=if b=48 then _ else _
  rw [C5v (n:=48) (c:=48) rfl]
  by_cases h:b=48
  ·subst h; rfl
  ·rw [if_neg h,show (b == 48)=false by simpa using h]; rfl
theorem D3a:∀ {s:List UInt8},s ≠ []->A1g s=if A0q s=[] then [48] else A0q s
 | [],h=>(h rfl).elim
 | [b],_=>by
  rw [A4d]
  by_cases h:b=48
  ·subst h; rfl
  ·rw [if_neg h]; rfl
 | b :: c :: r,_=>by
  rw [A4d]
  show (if b=48 then A1g (c :: r) else b :: c :: r)=_
  by_cases h:b=48
  ·rw [if_pos h,if_pos h]; exact D3a (by simp)
  ·rw [if_neg h,if_neg h]; rfl
theorem A6o {s:List UInt8} (hn:s ≠ []) (h:s.all F8=true):A1g s=itoa (C0k 0 s):=by rw [D3a hn,B8r h]
def F2o:Blk:=hookP spBare 8 [] fun
 | [.s a]=>.leaf (.normal,spBare,[.s (A1g a)])
 | _=>.fail
def G7g:List Lf->Tr AV
 | [.s a]=>.leaf (.sstr (A1g a))
 | _=>.fail
def G9r:Prims:=lib2.addb 154 0 F2o
def pR2:Prims:=pR1.addt 154 (gP [.str] G7g)
theorem G2k (a:List UInt8):(C8 prog G9r 60).call 154 [.sstr a] (Bg 8) I4=some (.sstr (A1g a)):=by kernel_rfl
section
variable {A:Amb} (hT:Tab A) (hG:prog.globals.size<=A.G)
include hT hG
omit hG in
theorem F7n:PrimOK prog A G9r:=by
 have hp:=K5 hT
 refine PrimOK.addbP hp func154 (show f154.body=some D9j by kernel_rfl) (body:=.loop B8f) (by kernel_rfl) (by kernel_rfl) fun ls e sq l h=>?_
 split at h
 ·rename_i a
  cases h
  refine ⟨⟨.inr rfl,.inr rfl,.inr rfl,.inr rfl,.inr rfl,.inr rfl,.inr rfl,.inr rfl,trivial⟩,fun Bb hB=>SEB.block_exit (id:=0) ?_⟩
  refine SEB.while (fun _:List UInt8=>True) List.length (fun a=>⟨spBare.rho [.s a],spBare.heap [.s a],[]⟩) (fun a=>(.exit 0,⟨spBare.rho [.s (A1g a)],spBare.heap [.s (A1g a)],[]⟩)) (fun a _=>?_) a trivial
  have hk:=E5k a
  cases a with
  | nil =>
   right
   refine ⟨by simp,?_⟩
   simp only [show A1g []=[] from rfl]
   exact SEB.of_KP (A:=A) (B0:=Bb) (e:=.exit 0) D5 D6 hp (.none _) hB hk rfl
  | cons b t =>
   cases t with
   | nil =>
    right
    refine ⟨by simp,?_⟩
    simp only [show A1g [b]=[b] from rfl]
    exact SEB.of_KP (A:=A) (B0:=Bb) (e:=.exit 0) D5 D6 hp (.none _) hB hk rfl
   | cons c r =>
    simp only at hk
    by_cases hb:b=48
    ·rw [if_pos hb] at hk
     left
     refine ⟨c :: r,trivial,by simp,?_,SEB.of_KP (A:=A) (B0:=Bb) (e:=.normal) D5 D6 hp (.none _) hB hk rfl⟩
     subst hb
     rfl
    ·rw [if_neg hb] at hk
     right
     refine ⟨by simp,?_⟩
     have:A1g (b :: c :: r)=b :: c :: r:=by
      show (if b=48 then _ else _)=_
      rw [if_neg hb]
     simp only [this]
     exact SEB.of_KP (A:=A) (B0:=Bb) (e:=.exit 0) D5 D6 hp (.none _) hB hk rfl
 ·cases h
theorem E5v:PrimOK prog A pR2:=by
 refine PrimOK.addP D5 D6 (F7n hT) (G1g hT hG) hG func154 (by kernel_rfl) fun ls v h=>?_
 unfold G7g at h
 split at h
 ·rename_i a
  cases h
  exact ⟨rfl,60,.sstr (A1g a),by rw [gsz]; exact G2k a,rfl,fun ι x h=>h⟩
 ·cases h
end
end Go.Proofs.Tryz
namespace Go.Proofs.Tryz
open Go.Ad
open Go.Lib (decDigits itoa nDigits decFrom digitVal)
def D8u:Code:=f113.body.getD .skip
def C0f:Code:=I7 (J7 0 D8u)
def spCk:SP:=⟨dr 3++[.str,.int .i64]++dr 38,dd8⟩
def spCkR:SP:=⟨dr 2++[.is (.int .i64 3)]++dr 40,dd8⟩
def H0t:AEx->SP
 | .ret=>spCkR
 | _=>spCk
theorem F7y (s:List UInt8) (i:Int):E9 prog (C8 prog lib2 60) F7 C0f (spCk.rho [.s s,.i i]) (spCk.heap [.s s,.i i]) (H6 H0t 8 []) =
  brK (decide (i < (s.length:Int))) (brK (decide (0<=i/\i < (s.length:Int))) (brK (decide (((s.getD i.toNat 0).toNat:Int) < 48)) (some (.ret,[])) (brK (decide (0<=i/\i < (s.length:Int))) (brK (decide (((s.getD i.toNat 0).toNat:Int) > 57)) (some (.ret,[])) (some (.normal,[.s s,.i (W (i+1))]))) none)) none)
   (some (.exit 0,[.s s,.i i])):=by kernel_rfl
theorem E9y (s:List UInt8) (n:Nat) (hs:s.length < 2 ^ 62):E9 prog (C8 prog lib2 60) F7 C0f (spCk.rho [.s s,.i n]) (spCk.heap [.s s,.i n]) (H6 H0t 8 []) =
  if n < s.length then (if F8 (s.getD n 0)=true then some (.normal,[.s s,.i ((n+1:Nat):Int)]) else some (.ret,[])) else some (.exit 0,[.s s,.i n]):=by
 rw [F7y]
 by_cases h:n < s.length
 ·rw [if_pos h,dT (show (n:Int) < (s.length:Int) by omega),dT (show 0<=(n:Int)/\(n:Int) < (s.length:Int) by omega),Int.toNat_natCast,V7 (by omega) (by omega)]
  unfold F8
  by_cases h1:(s.getD n 0).toNat < 48
  ·rw [dT (show (((s.getD n 0).toNat:Nat):Int) < 48 by omega),dF (show ¬ 48<=(s.getD n 0).toNat by omega)]; rfl
  ·rw [dF (show ¬ (((s.getD n 0).toNat:Nat):Int) < 48 by omega),dT (show 48<=(s.getD n 0).toNat by omega)]
   by_cases h2:(s.getD n 0).toNat<=57
   ·rw [dF (show ¬ (((s.getD n 0).toNat:Nat):Int) > 57 by omega),dT h2]; rfl
   ·rw [dT (show (((s.getD n 0).toNat:Nat):Int) > 57 by omega),dF h2]; rfl
 ·rw [if_neg h,dF (show ¬ (n:Int) < (s.length:Int) by omega)]; rfl
def G1b:Blk:=hookP spCk 8 [] fun
 | [.s s,.i i]=>.br (A9 (i=0) && D9 s) (.br (s.all F8) (.leaf (.normal,spCk,[.s s,.i s.length])) (.leaf (.ret,spCkR,[]))) .fail
 | _=>.fail
theorem E6z:∀ {s:List UInt8},s.all F8=true->s.takeWhile F8=s
 | [],_=>rfl
 | b :: r,h=>by
  rw [List.all_cons,Bool.and_eq_true] at h
  rw [List.takeWhile_cons_of_pos h.1,E6z h.2]
theorem F5e (s:List UInt8):s.all F8=decide (H7 [2] s=s.length):=by
 rw [C6f]
 by_cases h:(s.takeWhile F8).length=s.length
 ·rw [dT h,E5y h]
 ·rw [dF h,Bool.eq_false_iff]
  intro ha
  apply h
  rw [E6z ha]
def H0o:Prims:=pR2.addb 113 0 G1b
theorem G3f (a:List UInt8):(C8 prog H0o 60).call 113 [.sstr a] (Bg 8) I4 =
  brK (F6 a == []) (some (.int .i64 3)) (brK (decide ((0:Int)<=0/\(0:Int) < ((F6 a).length:Int))) (brK ((((F6 a).getD 0 0).toNat:Int) == 48) (brK (decide (((F6 a).length:Int) > 1)) (some (.int .i64 3)) (brK (decide ((a.length:Int) > 1)) (some (.int .i64 3))
   (brK (A9 ((0:Int)=0) && D9 (F6 a)) (brK ((F6 a).all F8) (brK (decide (((F6 a).length:Int) > 1024)) (some (.int .i64 11)) (some (.int .i64 0))) (some (.int .i64 3))) none)))
   (brK (A9 ((0:Int)=0) && D9 (F6 a)) (brK ((F6 a).all F8) (brK (decide (((F6 a).length:Int) > 1024)) (some (.int .i64 11)) (some (.int .i64 0))) (some (.int .i64 3))) none)) none):=by kernel_rfl
section
variable {A:Amb} (hT:Tab A) (hG:prog.globals.size<=A.G)
include hT hG
theorem F6c:PrimOK prog A H0o:=by
 have hp:=K5 hT
 refine PrimOK.addbP (E5v hT hG) func113 (show f113.body=some D8u by kernel_rfl) (body:=.loop C0f) (by kernel_rfl) (by kernel_rfl) fun ls e sq l h=>?_
 split at h
 ·rename_i s i
  obtain ⟨hc,hv⟩:=Tr.br1 h
  rw [Bool.and_eq_true] at hc
  have hi:=D7 hc.1
  have hs:s.length < 2 ^ 62:=of_decide_eq_true hc.2
  subst hi
  have key:∀ Bb:Heap,Bb.length=8->SEB prog A Bb (.loop C0f) ⟨spCk.rho [.s s,.i 0],spCk.heap [.s s,.i 0],[]⟩ (if H7 [2] s < s.length then .ret else .exit 0)
    (if H7 [2] s < s.length then ⟨spCkR.rho [],spCkR.heap [],[]⟩ else ⟨spCk.rho [.s s,.i (H7 [2] s:Nat)],spCk.heap [.s s,.i (H7 [2] s:Nat)],[]⟩):=fun Bb hB =>
   SEB.scan (A:=A) (B0:=Bb) (c:=C0f) (S:=fun n=>⟨spCk.rho [.s s,.i (n:Nat)],spCk.heap [.s s,.i (n:Nat)],[]⟩) (E:=fun n=>if n < s.length then ⟨spCkR.rho [],spCkR.heap [],[]⟩ else ⟨spCk.rho [.s s,.i (n:Nat)],spCk.heap [.s s,.i (n:Nat)],[]⟩)
    (e:=fun n=>if n < s.length then .ret else .exit 0) (p:=pCl [2] s) (N:=s.length) (fun n=>by by_cases h:n < s.length <;> simp [h])
    (fun n hn hp1=>by
     have hk:=E9y s n hs
     rw [B2o] at hp1
     rw [if_pos hn,if_pos hp1] at hk
     exact SEB.of_KP (A:=A) (B0:=Bb) (e:=.normal) D5 D6 hp (.none _) hB hk rfl)
    (fun n hn hp1=>by
     have hk:=E9y s n hs
     by_cases hlt:n < s.length
     ·have:=hp1 hlt
      rw [B2o] at this
      rw [if_pos hlt,if_neg (by rw [this]; simp)] at hk
      simp only [if_pos hlt]
      exact SEB.of_KP (A:=A) (B0:=Bb) (e:=.ret) D5 D6 hp (.none _) hB hk rfl
     ·rw [if_neg hlt] at hk
      simp only [if_neg hlt]
      exact SEB.of_KP (A:=A) (B0:=Bb) (e:=.exit 0) D5 D6 hp (.none _) hB hk rfl) 0 (Nat.zero_le _)
  have hle:=A4z [2] s
  rw [F5e] at hv
  by_cases hl:H7 [2] s=s.length
  ·rw [dT hl] at hv
   cases hv
   refine ⟨⟨.inr rfl,.inr rfl,.inr rfl,.inr rfl,.inr rfl,.inr rfl,.inr rfl,.inr rfl,trivial⟩,fun Bb hB=>SEB.block_exit (id:=0) ?_⟩
   have:=key Bb hB
   rw [if_neg (by omega),if_neg (by omega),hl] at this
   exact this
  ·rw [dF hl] at hv
   cases hv
   refine ⟨⟨.inr rfl,.inr rfl,.inr rfl,.inr rfl,.inr rfl,.inr rfl,.inr rfl,.inr rfl,trivial⟩,fun Bb hB=>SEB.block_other (id:=0) ?_ (by simp)⟩
   have:=key Bb hB
   rw [if_pos (by omega),if_pos (by omega)] at this
   exact this
 ·cases h
def pR3:Prims:=pR2.addt 113 (gP [.str] (C2b C9))
omit hT hG in
theorem A0m (a:List UInt8):(F6 a).length<=a.length/\((F6 a).length < a.length->∃ r,a=45 :: r/\F6 a=r):=by
 cases a with
 | nil=>exact ⟨Nat.le_refl _,fun h=>by simp at h⟩
 | cons b r =>
  rw [B4n]
  by_cases h:b=45
  ·subst h; rw [if_pos rfl]; exact ⟨by simp,fun _=>⟨r,rfl,rfl⟩⟩
  ·rw [if_neg h]; exact ⟨Nat.le_refl _,fun h=>by omega⟩
theorem E8d:PrimOK prog A pR3:=by
 refine PrimOK.addP D5 D6 (F6c hT hG) (E5v hT hG) hG func113 (by kernel_rfl) fun ls v h=>?_
 unfold C2b at h
 split at h
 ·rename_i a
  obtain ⟨hc,hv⟩:=Tr.br1 h
  cases hv
  have hs:a.length < 2 ^ 62:=of_decide_eq_true hc
  refine ⟨rfl,60,.int .i64 (C9 a),?_,rfl,fun ι x h=>J4 rfl x h⟩
  rw [gsz]
  refine (G3f a).trans ?_
  obtain ⟨h1,h2⟩:=A0m a
  have hsz:D9 (F6 a)=true:=dT (by omega)
  rw [A8 rfl,hsz]
  unfold C9
  by_cases h0:F6 a=[]
  ·rw [if_pos (show F6 a=[] \/ (F6 a).all F8=false from .inl h0),show (F6 a == [])=true by simpa using h0]; rfl
  ·have hpos:0 < (F6 a).length:=by cases hh:F6 a with | nil=>exact (h0 hh).elim | cons=>simp
   have hg:(F6 a).getD 0 0=(F6 a).headD 0:=by cases F6 a <;> rfl
   rw [show (F6 a == [])=false by simpa using h0,I8,dT (show (0:Int)<=0/\(0:Int) < ((F6 a).length:Int) by omega),E8,hg]
   have htail:brK (true && true) (brK ((F6 a).all F8) (brK (decide (((F6 a).length:Int) > 1024)) (some (AV.int .i64 11)) (some (.int .i64 0))) (some (.int .i64 3))) none =
     some (AV.int .i64 (if (F6 a).all F8=false then 3 else if (F6 a).length > 1024 then 11 else 0)):=by
    cases (F6 a).all F8 with
    | false=>rfl
    | true =>
     by_cases hh:(F6 a).length > 1024
     ·rw [dT (show ((F6 a).length:Int) > 1024 by omega)]; simp only [if_pos hh]; rfl
     ·rw [dF (show ¬ ((F6 a).length:Int) > 1024 by omega)]; simp only [if_neg hh]; rfl
   rw [htail]
   have hd:(((F6 a).headD 0).toNat:Int) == 48 ↔ (F6 a).headD 0=48:=by
    have:=C5v (b:=(F6 a).headD 0) (n:=48) (c:=48) rfl
    show ((((F6 a).headD 0).toNat:Int) == ((48:Nat):Int))=true ↔ _
    rw [this]; simp
   by_cases h3:(F6 a).headD 0=48
   ·rw [hd.2 h3,E8]
    by_cases h4:a=[48]
    ·subst h4; rfl
    ·have h5:(F6 a).length > 1 \/ a.length > 1:=by
      rcases Nat.lt_or_ge 1 (F6 a).length with h | h
      ·exact .inl h
      ·right
       rcases Nat.lt_or_ge (F6 a).length a.length with h6 | h6
       ·omega
       ·exfalso
        apply h4
        have h7:a.length=1:=by omega
        obtain ⟨b,rfl⟩:=List.length_eq_one_iff.1 h7
        rw [B4n] at h3 h0
        by_cases hb:b=45
        ·subst hb; exact (h0 rfl).elim
        ·rw [if_neg hb] at h3
         have h3:b=48:=h3
         rw [h3]
     have h8:(if F6 a=[] \/ (F6 a).all F8=false then (3:Int) else if (F6 a).headD 0=48/\a ≠ [48] then 3 else if (F6 a).length > 1024 then 11 else 0)=3:=by
      split
      ·rfl
      ·rw [if_pos ⟨h3,h4⟩]
     rw [h8]
     rcases h5 with h | h
     ·rw [dT (show ((F6 a).length:Int) > 1 by omega)]; rfl
     ·by_cases h9:(F6 a).length > 1
      ·rw [dT (show ((F6 a).length:Int) > 1 by omega)]; rfl
      ·rw [dF (show ¬ ((F6 a).length:Int) > 1 by omega),dT (show (a.length:Int) > 1 by omega)]; rfl
   ·rw [show ((((F6 a).headD 0).toNat:Int) == 48)=false by rw [Bool.eq_false_iff]; exact fun e=>h3 (hd.1 e),I8]
    simp only [h0,false_or,h3,false_and,if_false]
 ·cases h
end
end Go.Proofs.Tryz
