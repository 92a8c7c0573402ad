/- strconv.Atoi of texts that are no numbers, too. -/
import Derived.Test.YteobbbhfocbgkaaGreatDoorQ1
import Derived.Test.YteobbbhfocbgkaaGreatDoorShelf2
import Derived.Shelf.Strconv.AtoiAll
namespace Go.Proofs.Tryz
open Go.Ad
def TabE (A:Amb):Prop:=∀ w:World,(∀ c,c < A.G→w.heap[c]?=A.base c)→∃ tp p,w.cell? ⟨2,0,none⟩=some (.iface tp p)
def aOk (s:List UInt8):Bool:=match Lib.atoiAll s with
 | .ok _=>true
 | _=>false
def aSyn (s:List UInt8):Bool:=match Lib.atoiAll s with
 | .ok _=>false
 | .range=>false
 | _=>true
def aVal (s:List UInt8):Int:=match Lib.atoiAll s with
 | .ok v=>v
 | _=>0
def gAtoiE:List AV→Tr AV
 | [x]=>match sstr? x with
  | some s=>.br (decide (s.length≤1000000)) (.br (aOk s) (.leaf (.tuple [.sint .i64 (aVal s),.nilIface])) (.br (aSyn s) (.leaf (.tuple [.int .i64 0,.iface 165 .bad])) .fail)) .fail
  | none=>.fail
 | _=>.fail
noncomputable def pAt:Prims:=pU3.addt 62 gAtoiE
theorem pAt_ok {A:Amb} (hT:Tab A) (hE:TabE A) (hG:prog.globals.size≤A.G):PrimOK prog A pAt:=by
 refine PrimOK.libt (pU3_ok hT hG) func62 (by kernel_rfl) ?_
 intro args v hg ι w xs hamb _ hx
 have key:∀ (b1:ByteArray) (n:Int),b1.data.toList.length≤1000000→Lib.atoiAll b1.data.toList=.ok n→xs=#[.string b1] →
   Calls prog 62 xs w fun e w'=>∃ v',e=.returned v'∧v'=.tuple #[.int .i64 n,.nilIface]∧Quiet w w':=fun b1 n h1 h2 e1=>by
  subst e1
  have hl1:b1.data.toList.length=b1.size:=by simp
  refine (Any.strconv_Atoi_ok Tryz.laysC172 b1 (by omega) n h2 w).mono fun e w' ⟨h1',h2'⟩=>?_
  subst h1'
  refine ⟨_,rfl,rfl,?_⟩
  rcases h2' with rfl | ⟨t,rfl⟩
  ·exact Quiet.refl _
  ·have hb:=Go.Joins.below_bytesWorld w.heap.size w (Tryz.laysC172_ren.t 5) t (Nat.le_refl _)
   exact ⟨hb.size,hb.block,hb.tape,hb.os,hb.output⟩
 have keyE:∀ (b1:ByteArray),b1.data.toList.length≤1000000→aSyn b1.data.toList=true→xs=#[.string b1] →
   Calls prog 62 xs w fun e w'=>∃ v',e=.returned v'∧(∃ y,v'=.tuple #[.int .i64 0,.iface 165 y])∧Quiet w w':=fun b1 h1 h2 e1=>by
  subst e1
  have hl1:b1.data.toList.length=b1.size:=by simp
  obtain ⟨tp,p,hcell⟩:=hE w hamb
  unfold aSyn at h2
  split at h2
  ·cases h2
  ·cases h2
  rename_i g1 g2
  refine (Any.strconv_Atoi_syntax Tryz.laysC172 b1 (by omega) (by cases hh:Lib.atoiAll b1.data.toList <;> first | rfl | exact (g1 _ hh).elim | exact (g2 hh).elim) (.iface tp p) w hcell (.inr ⟨tp,p,rfl⟩)).mono fun e w' ⟨N,h1',_,_,hb⟩=>?_
  subst h1'
  exact ⟨_,rfl,⟨_,rfl⟩,⟨hb.size,hb.block,hb.tape,hb.os,hb.output⟩⟩
 unfold gAtoiE at hg
 split at hg
 ·rename_i x
  split at hg
  ·rename_i s hs
   obtain ⟨h1,h2⟩:=Tr.br_get0 hg
   rw [decide_eq_true_eq] at h1
   simp only [VRL] at hx
   obtain ⟨_,_,hxs,q1,rfl⟩:=hx
   obtain ⟨b1,rfl,rfl⟩:=sstr_VR hs q1
   have hsy:(∃ n,Lib.atoiAll b1.data.toList=.ok n∧aOk b1.data.toList=true∧aVal b1.data.toList=n) ∨ (aOk b1.data.toList=false∧aSyn b1.data.toList=false) ∨ (aOk b1.data.toList=false∧aSyn b1.data.toList=true):=by
    unfold aSyn aOk aVal
    cases Lib.atoiAll b1.data.toList <;> simp
   rcases hsy with ⟨n,hn,e1,e2⟩ | ⟨e1,e2⟩ | ⟨e1,e2⟩
   ·rw [e1,e2] at h2
    simp only [Tr.get,Option.some.injEq] at h2
    subst h2
    refine (key b1 n h1 hn (arr1 hxs)).mono fun e w' ⟨v',q1,q2,q3⟩=>⟨v',q1,?_,q3⟩
    subst q2
    simp only [VR,VRL]
    exact ⟨_,rfl,_,_,rfl,rfl,_,_,rfl,rfl,rfl⟩
   ·rw [e1,e2] at h2
    simp [Tr.get] at h2
   ·rw [e1,e2] at h2
    simp only [Tr.get,Option.some.injEq] at h2
    subst h2
    refine (keyE b1 h1 e2 (arr1 hxs)).mono fun e w' ⟨v',q1,q2,q3⟩=>⟨v',q1,?_,q3⟩
    obtain ⟨y,rfl⟩:=q2
    simp only [VR,VRL]
    exact ⟨_,rfl,_,_,rfl,rfl,_,_,rfl,⟨y,rfl,trivial⟩,rfl⟩
  ·cases hg
 ·cases hg
end Go.Proofs.Tryz
namespace Go.Proofs.Tryz
open Go.Ad
open Go.Lib (decDigits itoa nDigits decFrom digitVal parseUint10 parseMag atoiAll)
theorem digW_ge (s:List UInt8) (acc:Nat):acc≤digW acc s:=by
 rw [digW_acc]
 have:1≤10 ^ s.length:=Nat.one_le_pow _ _ (by decide)
 have:=Nat.le_mul_of_pos_right acc (show 0 < 10 ^ s.length by omega)
 omega
theorem par_dig:∀ (s:List UInt8) (acc:Nat),s.all isDg=true→digW acc s < 10 ^ 18→parseUint10 acc s=.ok (digW acc s)
 | [],_,_,_=>rfl
 | c :: r,acc,h,hl=>by
  rw [List.all_cons,Bool.and_eq_true] at h
  have hc:48≤c.toNat∧c.toNat≤57:=by simpa [isDg] using h.1
  have hd:digW acc (c :: r)=digW (acc*10+(c.toNat - 48)) r:=rfl
  rw [hd] at hl ⊢
  have h1:=digW_ge r (acc*10+(c.toNat - 48))
  unfold parseUint10
  rw [if_pos hc,if_neg (by omega),if_neg (by omega)]
  exact par_dig r _ h.2 hl
theorem par_slash:∀ (s r:List UInt8) (acc:Nat),s.all isDg=true→digW acc s < 10 ^ 18→parseUint10 acc (s++47 :: r)=parseMag []
 | [],r,_,_,_=>by
  show parseUint10 _ (47 :: r)=_
  unfold parseUint10
  rw [if_neg (by decide)]
  rfl
 | c :: s,r,acc,h,hl=>by
  rw [List.all_cons,Bool.and_eq_true] at h
  have hc:48≤c.toNat∧c.toNat≤57:=by simpa [isDg] using h.1
  have hd:digW acc (c :: s)=digW (acc*10+(c.toNat - 48)) s:=rfl
  rw [hd] at hl
  have h1:=digW_ge s (acc*10+(c.toNat - 48))
  show parseUint10 acc (c :: (s++47 :: r))=_
  unfold parseUint10
  rw [if_pos hc,if_neg (by omega),if_neg (by omega)]
  exact par_slash s r _ h.2 hl
theorem dec_par {U:Nat} (h:U < 10 ^ 18):(decDigits U).all isDg=true∧digW 0 (decDigits U) < 10 ^ 18∧digW 0 (decDigits U)=U:=⟨dec_all U,by rw [digW_dec]; exact h,digW_dec U⟩
theorem dec_cons (U:Nat):∃ c r,decDigits U=c :: r∧48≤c.toNat∧c.toNat≤57:=by
 cases h:decDigits U with
 | nil=>exact (dec_ne U h).elim
 | cons c r=>exact ⟨c,r,rfl,dec_digit U c (by rw [h]; exact .head _)⟩
theorem atoiAll_itoa {n:Int} (h:n.natAbs < 10 ^ 18):atoiAll (itoa n)=.ok n:=by
 obtain ⟨h1,h2,h3⟩:=dec_par h
 by_cases hn:n < 0
 ·have e:itoa n=45 :: decDigits n.natAbs:=by unfold itoa; rw [if_pos hn]
  rw [e]
  have hm:parseMag (decDigits n.natAbs)=.ok n.natAbs:=by
   unfold parseMag
   rw [if_neg (dec_ne _),par_dig _ _ h1 h2,h3]
  unfold atoiAll
  simp only [show (45:UInt8).toNat=45 from rfl]
  rw [if_pos (Or.inr trivial),hm]
  simp only
  rw [if_neg (by omega),if_neg (by omega),if_pos trivial]
  congr 1; omega
 ·have e:itoa n=decDigits n.natAbs:=by unfold itoa; rw [if_neg hn,show n.toNat=n.natAbs by omega]
  rw [e]
  obtain ⟨c,r,hcr,c1,c2⟩:=dec_cons n.natAbs
  have hm:parseMag (decDigits n.natAbs)=.ok n.natAbs:=by
   unfold parseMag
   rw [if_neg (dec_ne _),par_dig _ _ h1 h2,h3]
  rw [hcr] at hm ⊢
  unfold atoiAll
  simp only
  rw [if_neg (by omega),hm]
  simp only
  rw [if_neg (by omega),if_neg (by omega),if_neg (by omega)]
  congr 1; omega
theorem atoiAll_rat {n:Int} (r:List UInt8) (h:n.natAbs < 10 ^ 18):atoiAll (itoa n++47 :: r)=atoiAll []:=by
 obtain ⟨h1,h2,h3⟩:=dec_par h
 have hm:parseMag (decDigits n.natAbs++47 :: r)=parseMag []:=by
  have e:∀ x:List UInt8,x ≠ []→parseMag x=parseUint10 0 x:=fun x hx=>by
   unfold parseMag
   rw [if_neg hx]
  rw [e _ (by simp),par_slash _ _ _ h1 h2]
 by_cases hn:n < 0
 ·have e:itoa n=45 :: decDigits n.natAbs:=by unfold itoa; rw [if_pos hn]
  rw [e]
  show atoiAll (45 :: (decDigits n.natAbs++47 :: r))=_
  unfold atoiAll
  simp only [show (45:UInt8).toNat=45 from rfl]
  rw [if_pos (Or.inr trivial),hm]; rfl
 ·have e:itoa n=decDigits n.natAbs:=by unfold itoa; rw [if_neg hn,show n.toNat=n.natAbs by omega]
  rw [e]
  obtain ⟨c,q,hcr,c1,c2⟩:=dec_cons n.natAbs
  rw [hcr] at hm ⊢
  show atoiAll (c :: (q++47 :: r))=_
  unfold atoiAll
  simp only
  rw [if_neg (by omega)]
  rw [show c :: (q++47 :: r)=c :: q++47 :: r from rfl,hm]; rfl
def spI2:SP:=⟨[.int .i64,.int .i64],dd8⟩
theorem runIn40 (x:List UInt8):(runK prog pAt 60).call 40 (spS1.rho [.s x]) (spS1.heap [.s x]) (finQ spI2 8 []) =
  brK (decide (x.length≤1000000)) (brK (aOk x) (some [.i (aVal x),.i 0]) (brK (aSyn x) (some [.i 0,.i 14]) none)) none:=by kernel_rfl
def intR (x:List UInt8):Int × Int:=if ratD x=1 then (ratN x,0) else (0,14)
def smI (x:List UInt8):Prop:=smQ x∧(ratN x).natAbs < 10 ^ 18
noncomputable def TIn:List Lf→Tr (SP × List Lf)
 | [.s x]=>.br (propB (smI x)) (.leaf (spI2,[.i (intR x).1,.i (intR x).2])) .fail
 | _=>.fail
theorem ratT_of2 {x:List UInt8} (h:smQ x):x=ratT (ratN x) (ratD x):=by
 obtain ⟨e1,e2,e3,e4⟩:=errQ_ok h.1
 have z1:=itoa_of e1
 have z2:=itoa_of e2
 have h0:=h.1
 unfold ratT ratN ratD
 rw [← z1,← z2]
 unfold errQ at h0
 rw [if_neg (by rw [e1,e2]; simp),if_neg (by rw [e1,e2]; simp)] at h0
 cases hc:cutAt 47 x with
 | none =>
  have hx:cutR x=(x,[49],false):=by unfold cutR; rw [hc]
  rw [hx]; rfl
 | some p =>
  obtain ⟨n,d⟩:=p
  obtain ⟨hx,_⟩:=cutAt_some hc
  have hr:cutR x=(n,d,true):=by unfold cutR; rw [hc]
  rw [hr] at h0 ⊢
  simp only at h0 ⊢
  have h1:1 < dvalZ d∧Int.gcd (dvalZ n) (dvalZ d)=1:=by
   by_cases hh:1 < dvalZ d∧Int.gcd (dvalZ n) (dvalZ d)=1
   ·exact hh
   ·rw [if_pos ⟨trivial,hh⟩] at h0; cases h0
  have hne:(d == [49])=false:=by
   rw [beq_eq_false_iff_ne]
   intro e
   rw [e] at h1
   exact absurd h1.1 (by decide)
  rw [hne,cond_false,hx,List.append_assoc]; rfl
noncomputable def pIn:Prims:=pAt.addh 40 (liftG 8 (funQ spS1 8 [] TIn))
theorem pIn_ok {A:Amb} (hT:Tab A) (hE:TabE A) (hG:prog.globals.size≤A.G):PrimOK prog A pIn:=by
 refine (pAt_ok hT hE hG).addl gsz func40 (by kernel_rfl) (funQ_ok hmix hnum rfl fun ls sq l h=>?_)
 unfold TIn at h
 split at h
 ·rename_i x
  obtain ⟨hc,hv⟩:=Tr.br1 h
  cases hv
  obtain ⟨h1,h2⟩:=propB_eq hc
  refine ⟨fr8 rfl rfl,rfl,pAt,60,_,pAt_ok hT hE hG,(runIn40 x).trans ?_,fun _ _=>.refl⟩
  have hx:=ratT_of2 h1
  have l1:=itoa_len_le (k:=18) h2 (by omega)
  have l2:=itoa_len_le (Z:=ratD x) (k:=100) h1.2.2.2 (by omega)
  unfold intR
  by_cases hd:ratD x=1
  ·rw [if_pos hd]
   have e:x=itoa (ratN x):=by
    rw [hd] at hx
    unfold ratT at hx
    rw [show (itoa 1 == [49])=true by rw [itoa_1]; rfl,cond_true] at hx
    exact hx
   have ha:=atoiAll_itoa h2
   rw [← e] at ha l1
   unfold aOk aVal
   rw [ha,decide_eq_true (show x.length≤1000000 by omega)]; rfl
  ·rw [if_neg hd]
   have hne:(itoa (ratD x) == [49])=false:=by
    rw [beq_eq_false_iff_ne]
    intro e
    rw [← itoa_1] at e
    exact hd (itoa_inj e)
   have e:x=itoa (ratN x)++47 :: itoa (ratD x):=by
    unfold ratT at hx
    rw [hne,cond_false,List.append_assoc] at hx
    exact hx
   have ha:=atoiAll_rat (n:=ratN x) (itoa (ratD x)) h2
   have hl:x.length≤1000000:=by
    have:=congrArg List.length e
    rw [List.length_append,List.length_cons] at this
    omega
   rw [← e] at ha
   unfold aOk aSyn
   rw [ha,decide_eq_true hl]; rfl
 ·cases h
end Go.Proofs.Tryz
namespace Go.Proofs.Tryz
open Go.Ad
open Go.Lib (decDigits itoa nDigits decFrom digitVal)
def minT:List UInt8:=[45,57,50,50,51,51,55,50,48,51,54,56,53,52,55,55,53,56,48,56]
noncomputable def gO2:List AV→Tr AV
 | [.int .i64 n]=>if n=-9223372036854775808 then .leaf (.str minT) else gOf [.int .i64 n]
 | a=>gOf a
noncomputable def pSm1:Prims:=pIn.addt 76 gO2
theorem run76m:(runK prog pR11 400).call 76 [.int .i64 (-9223372036854775808)] (Bg 8) finV=some (.str minT):=by kernel_rfl
section
variable {A:Amb} (hT:Tab A) (hE:TabE A) (hG:prog.globals.size≤A.G)
include hT hG
theorem gOf_good {args:List AV} {v:AV} (hv:(gOf args).get=some v):∃ prims0 args' v' B',PrimOK prog A prims0∧(∀ (ι:Emb) (xs:List Value),VRL ι args xs→VRL ι args' xs)∧(∀ (ι:Emb) (x:Value),VR ι v' x→VR ι v x)∧belowL 0 args'=true∧below 0 v'=true ∧
   Ca prog prims0 76 args' (Bg prog.globals.size) (v',B',[]):=by
 unfold gOf at hv
 split at hv
 ·rename_i a
  split at hv
  ·rename_i k n hs
   obtain ⟨hc,hv⟩:=Tr.br1 hv
   cases hv
   obtain ⟨rfl,h0,h1⟩:=propB_eq hc
   by_cases hn:0≤n
   ·obtain ⟨B',hca⟩:=Ca.of_finV (run101_eq hn h1)
    exact ⟨pR12b,_,_,B',pR12b_ok hT hG,fun ι xs hx=>vrl_rng (lo:=0) (hi:=9223372036854775807) hs hn (by omega) hx,fun ι x hx=>hx,rfl,rfl,by rw [gsz]; exact hca⟩
   ·have hk:=runOn n
    rw [propB_true ⟨rfl,rfl⟩,brK_t] at hk
    obtain ⟨B',hca⟩:=Ca.of_finV hk
    exact ⟨pOn n,_,_,B',pOn_ok hT hG (by omega) h0,fun ι xs hx=>vrl_rng (lo:=-9223372036854775807) (hi:=-1) hs (by omega) (by omega) hx,fun ι x hx=>hx,rfl,rfl,by rw [gsz]; exact hca⟩
  ·cases hv
 ·cases hv
include hE
theorem pSm1_ok:PrimOK prog A pSm1:=by
 refine PrimOK.addt3 hmix hnum (pIn_ok hT hE hG) hG func76 (by kernel_rfl) fun args v hv=>?_
 unfold gO2 at hv
 split at hv
 ·rename_i n
  split at hv
  ·rename_i hn
   subst hn
   cases hv
   obtain ⟨B',hca⟩:=Ca.of_finV run76m
   exact ⟨pR11,_,_,B',pR11_ok hT hG,fun ι xs hx=>hx,fun ι x hx=>hx,rfl,rfl,by rw [gsz]; exact hca⟩
  ·exact gOf_good hT hG hv
 ·exact gOf_good hT hG hv
end
noncomputable def code73:Code:=f73.body.getD .skip
noncomputable def bodySm:Code:=unLoop (findB 0 code73)
def spSm:SP:=⟨[.str]++dr 4++[.int .i64,.str,.int .i64]++dr 42,dd8⟩
def lfSm (a:List UInt8) (n:Int) (s:List UInt8) (i:Int):List Lf:=[.s a,.i n,.s s,.i i]
end Go.Proofs.Tryz
namespace Go.Proofs.Tryz
open Go.Ad
open Go.Lib (decDigits itoa nDigits decFrom digitVal)
theorem roundSm (a:List UInt8) (n:Int) (s:List UInt8) (i:Int):execK prog (runK prog pSm1 60) noBps bodySm (spSm.rho (lfSm a n s i)) (spSm.heap (lfSm a n s i)) (nrmP (fun _=>spSm) 8 []) =
  brK (decide (i < (s.length:Int))) (brK (propB (isZ a)) (brK (decide (dvalZ a < 0))
   (brK (decide (0≤i∧i < (s.length:Int))) (some (.normal,lfSm a (W (W (10*n) - W (IntKind.u8.wrap (((s.getD i.toNat 0).toNat:Int) - 48)))) s (W (i+1)))) none)
   (brK (decide (0≤i∧i < (s.length:Int))) (some (.normal,lfSm a (W (W (10*n)+W (IntKind.u8.wrap (((s.getD i.toNat 0).toNat:Int) - 48)))) s (W (i+1)))) none)) none)
   (some (.exit 0,lfSm a n s i)):=by kernel_rfl
def sgD (a:List UInt8) (n:Nat):Int:=if dvalZ a < 0 then -(n:Int) else n
theorem stepSm {a s:List UInt8} {i:Nat} (ha:isZ a) (hs:s.all isDg=true) (ls:s.length≤18) (hi:i < s.length) :
  execK prog (runK prog pSm1 60) noBps bodySm (spSm.rho (lfSm a (sgD a (digW 0 (s.take i))) s i)) (spSm.heap (lfSm a (sgD a (digW 0 (s.take i))) s i)) (nrmP (fun _=>spSm) 8 [])=some (.normal,lfSm a (sgD a (digW 0 (s.take (i+1)))) s (i+1:Nat)):=by
 have h1:=digW_take_lt hs i
 have h2:10 ^ i≤10 ^ 17:=Nat.pow_le_pow_right (by decide) (by omega)
 have h3:=dg_le hs i
 rw [roundSm,Int.toNat_natCast,dgI hs hi,W_nat (n:=dg s i) (by omega),take_step hi,propB_true ha,
  W_id (n:=(i:Int)+1) (by omega) (by omega),decide_eq_true (show (i:Int) < (s.length:Int) by omega),decide_eq_true (show 0≤(i:Int)∧(i:Int) < (s.length:Int) by omega)]
 unfold sgD
 generalize digW 0 (s.take i)=X at *
 generalize dg s i=Y at *
 by_cases hz:dvalZ a < 0
 ·rw [decide_eq_true hz,if_pos hz,if_pos hz,W_id (n:=10*-(X:Int)) (by omega) (by omega),W_id (by omega) (by omega),show 10*-(X:Int) - (Y:Int)=-((X*10+Y:Nat):Int) by omega]
  rfl
 ·rw [decide_eq_false hz,if_neg hz,if_neg hz,W_id (n:=10*(X:Int)) (by omega) (by omega),W_id (n:=10*(X:Int)+(Y:Int)) (by omega) (by omega),show 10*(X:Int)+(Y:Int)=((X*10+Y:Nat):Int) by omega]
  rfl
noncomputable def hookSm:Blk:=hookP spSm 8 [] fun
 | [.s a,.i n,.s s,.i i]=>.br (propB (n=0∧i=0∧isZ a∧s.all isDg=true∧s.length≤18)) (.leaf (.normal,spSm,lfSm a (sgD a (digW 0 s)) s s.length)) .fail
 | _=>.fail
noncomputable def pSm1b:Prims:=pSm1.addb 73 0 hookSm
theorem runSm73 (a:List UInt8):(runK prog pSm1b 60).call 73 (spS1.rho [.s a]) (spS1.heap [.s a]) (finQ spI2 8 []) =
  brK (szOK a) (brK (errI a != 0) (some [.i 0,.i (errI a)]) (brK (propB (IntKind.i64=.i64∧-(2 ^ 63) < (9223372036854775807:Int)∧(9223372036854775807:Int) < 2 ^ 63))
   (brK (propB (zOK' a∧zOK' (itoa 9223372036854775807))) (brK (decide (sgnZ (dvalZ a - dvalZ (itoa 9223372036854775807)) > 0)) (some [.i 0,.i 2])
    (brK (propB (zOK' a∧zOK' minT)) (brK (decide (sgnZ (dvalZ a - dvalZ minT) < 0)) (some [.i 0,.i 2])
     (brK (propB ((0:Int)=0∧(0:Int)=0∧isZ a∧(absT a).all isDg=true∧(absT a).length≤18)) (some [.i (sgD a (digW 0 (absT a))),.i 0]) none)) none)) none) none)) none:=by kernel_rfl
noncomputable def TSm:List Lf→Tr (SP × List Lf)
 | [.s a]=>.br (propB (isZ a∧(dvalZ a).natAbs < 10 ^ 18)) (.leaf (spI2,[.i (dvalZ a),.i 0])) .fail
 | _=>.fail
noncomputable def pSm2:Prims:=pSm1.addh 73 (liftG 8 (funQ spS1 8 [] TSm))
theorem minT_val:dvalZ minT=-9223372036854775808∧minT=itoa (dvalZ minT):=by
 have h:dvalZ minT=-9223372036854775808:=by kernel_rfl
 refine ⟨h,?_⟩
 rw [h]
 kernel_rfl
section
variable {A:Amb} (hT:Tab A) (hE:TabE A) (hG:prog.globals.size≤A.G)
include hT hE hG
theorem pSm1b_ok:PrimOK prog A pSm1b:=by
 have hp:=pSm1_ok hT hE hG
 refine PrimOK.addbP hp func73 (show f73.body=some code73 by kernel_rfl) (body:=.loop bodySm) (by kernel_rfl) (by kernel_rfl) fun ls e sq l h=>?_
 split at h
 ·rename_i a n s i
  obtain ⟨hc,hv⟩:=Tr.br1 h
  cases hv
  obtain ⟨rfl,rfl,ha,hs,ls⟩:=propB_eq hc
  refine ⟨⟨.inr rfl,.inr rfl,.inr rfl,.inr rfl,.inr rfl,.inr rfl,.inr rfl,.inr rfl,trivial⟩,fun Bb hB=>SEB.block_exit (id:=0) ?_⟩
  have e0:([.s a,.i 0,.s s,.i 0]:List Lf)=lfSm a (sgD a (digW 0 (s.take 0))) s (0:Nat):=by
   unfold sgD
   rw [List.take_zero,show digW 0 []=0 from rfl,show -((0:Nat):Int)=0 from rfl]
   split <;> rfl
  have e1:lfSm a (sgD a (digW 0 s)) s s.length=lfSm a (sgD a (digW 0 (s.take s.length))) s s.length:=by rw [List.take_length]
  rw [e0,e1]
  refine SEB.loop_nat (A:=A) (B0:=Bb) (c:=bodySm) (I:=fun j=>⟨spSm.rho (lfSm a (sgD a (digW 0 (s.take j))) s j),spSm.heap (lfSm a (sgD a (digW 0 (s.take j))) s j),[]⟩) (N:=s.length) (fun j hj=>SEB.of_KP (A:=A) (B0:=Bb) (e:=.normal) hmix hnum hp (.none _) hB (stepSm ha hs ls hj) rfl) ?_ (by simp) (i:=0) (Nat.zero_le _)
  have hr:=roundSm a (sgD a (digW 0 (s.take s.length))) s s.length
  rw [decide_eq_false (show ¬ (s.length:Int) < (s.length:Int) by omega)] at hr
  exact SEB.of_KP (A:=A) (B0:=Bb) (e:=.exit 0) hmix hnum hp (.none _) hB hr rfl
 ·cases h
theorem pSm2_ok:PrimOK prog A pSm2:=by
 refine (pSm1_ok hT hE hG).addl gsz func73 (by kernel_rfl) (funQ_ok hmix hnum rfl fun ls sq l h=>?_)
 unfold TSm at h
 split at h
 ·rename_i a
  obtain ⟨hc,hv⟩:=Tr.br1 h
  cases hv
  obtain ⟨hz,hn⟩:=propB_eq hc
  refine ⟨fr8 rfl rfl,rfl,pSm1b,60,_,pSm1b_ok hT hE hG,(runSm73 a).trans ?_,fun _ _=>.refl⟩
  have he:errI a=0:=by
   have:=errI_lt hn (by omega) (by omega)
   have hz':=hz
   unfold isZ at hz'
   rwa [← hz'] at this
  have hab:=isZ_abs hz
  have hall:(absT a).all isDg=true:=by rw [hab]; exact itoaN_all _
  have hv:digW 0 (absT a)=(dvalZ a).natAbs:=by rw [hab,digW_itoa]
  have hlen:(absT a).length≤18:=by
   rw [hab,itoaN]
   exact dec_len_lt hn (by omega)
  have hla:a.length < 2 ^ 26 - 1:=by
   have h1:=(absT_len1 a).2
   by_cases h2:(absT a).length < a.length
   ·obtain ⟨r,h3,h4⟩:=h1 h2
    rw [h4] at hlen
    rw [h3,List.length_cons]; omega
   ·omega
  obtain ⟨m1,m2⟩:=minT_val
  have zm:zOK' minT:=⟨m2,by decide⟩
  have zx:zOK' (itoa 9223372036854775807):=⟨isZ_itoa _,by
   have:=itoa_len_le (Z:=9223372036854775807) (k:=19) (by decide) (by omega)
   omega⟩
  have s1:¬ sgnZ (dvalZ a - 9223372036854775807) > 0:=by
   unfold sgnZ
   rw [if_neg (by omega),if_pos (by omega)]; omega
  have s2:¬ sgnZ (dvalZ a - -9223372036854775808) < 0:=by
   unfold sgnZ
   rw [if_neg (by omega),if_neg (by omega)]; omega
  rw [errI_sz he,he,show ((0:Int) != 0)=false from rfl,propB_true ⟨rfl,by omega,by omega⟩,propB_true ⟨⟨hz,hla⟩,zx⟩,propB_true ⟨⟨hz,hla⟩,zm⟩,dvalZ_itoa,m1,decide_eq_false s1,decide_eq_false s2,propB_true ⟨rfl,rfl,hz,hall,hlen⟩,hv]
  have:sgD a (dvalZ a).natAbs=dvalZ a:=by unfold sgD; split <;> omega
  rw [this]; rfl
 ·cases h
end
theorem run41 (x:List UInt8):(runK prog pSm2 60).call 41 (spS1.rho [.s x]) (spS1.heap [.s x]) (finQ spI2 8 []) =
  brK (szOK x) (brK (!(cutR x).2.1 == [49]) (some [.i 0,.i 14]) (brK (propB (isZ (cutR x).1∧(dvalZ (cutR x).1).natAbs < 10 ^ 18)) (some [.i (dvalZ (cutR x).1),.i 0]) none)) none:=by kernel_rfl
noncomputable def pSm3:Prims:=pSm2.addh 41 (liftG 8 (funQ spS1 8 [] TIn))
theorem pSm3_ok {A:Amb} (hT:Tab A) (hE:TabE A) (hG:prog.globals.size≤A.G):PrimOK prog A pSm3:=by
 refine (pSm2_ok hT hE hG).addl gsz func41 (by kernel_rfl) (funQ_ok hmix hnum rfl fun ls sq l h=>?_)
 unfold TIn at h
 split at h
 ·rename_i x
  obtain ⟨hc,hv⟩:=Tr.br1 h
  cases hv
  obtain ⟨h1,h2⟩:=propB_eq hc
  refine ⟨fr8 rfl rfl,rfl,pSm2,60,_,pSm2_ok hT hE hG,(run41 x).trans ?_,fun _ _=>.refl⟩
  obtain ⟨z1,z2,z3⟩:=smQ_parts h1
  rw [szH_sz h1.2.1]
  unfold intR
  by_cases hd:ratD x=1
  ·have e:(cutR x).2.1=[49]:=by
    rw [z2,show dvalZ (cutR x).2.1=1 from hd,itoa_1]
   rw [if_pos hd,show (!(cutR x).2.1 == [49])=false by rw [e]; rfl,propB_true ⟨z1,h2⟩]; rfl
  ·have e:(cutR x).2.1 ≠ [49]:=fun e=>by
    rw [e] at z2
    apply hd
    unfold ratD
    rw [e]; decide
   rw [if_neg hd,show (!(cutR x).2.1 == [49])=true by simpa using e]; rfl
 ·cases h
end Go.Proofs.Tryz
