/- The chapter's examples (awake): tables of closed calls; the loops over maps. -/
import Derived.Test.YteobbbhfocbgkaaGreatDoorF0
import Derived.Test.YteobbbhfocbgkaaGreatDoorAdMapR
import Derived.Test.YteobbbhfocbgkaaGreatDoorAdPat
import Derived.Deep.Slices
namespace Go.Proofs.Tryz
open Go.Ad
open Go.Lib (decDigits itoa nDigits decFrom digitVal)
theorem PrimOK.addtab2 {A:Amb} {prims prims0:Prims} (hp0:PrimOK prog A prims0) (hp:PrimOK prog A prims) (hG:prog.globals.size≤A.G) {f:FuncId} {tab:List (List AV × AV)} {fn:Func}
  (hf:prog.funcs[f]?=some fn) (hc:fn.body.isSome=true)
  (h:∀ p,p ∈ tab→belowL 0 p.1=true∧∃ v',below 0 v'=true∧(∀ ι x,VR ι v' x→VR ι p.2 x)∧∃ n,(runK prog prims0 n).call f p.1 (Bg prog.globals.size) finV=some v'):PrimOK prog A (prims.addt f (gTab tab)):=by
 refine PrimOK.addt3 hmix hnum hp hG hf hc fun args v hv=>?_
 unfold gTab at hv
 split at hv
 ·rename_i p hfind
  cases hv
  obtain ⟨h1,v',h2,h4,n,h3⟩:=h p (List.mem_of_find?_eq_some hfind)
  have he:=sameL_eq (by simpa using List.find?_some hfind:sameL p.1 args=true)
  obtain ⟨B',hca⟩:=Ca.of_finV h3
  exact ⟨prims0,p.1,v',B',hp0,fun ι xs hx=>by rw [he]; exact hx,h4,h1,h2,hca⟩
 ·cases hv
def tPar:List (List UInt8 × Int × Int):=[([49,50,46,53,32,109,109],12500,0),([49,47,56,32,105,110],3175,0),([45,50,32,99,109],-20000,0),([48,46,51,32,117,109],0,14),([53],0,20),([48,53,32,109,109],0,4),([46,53,32,109,109],0,4),([52,32,105,110],0,2)]
theorem tPar_ok:∀ p ∈ tPar,parR p.1=(p.2.1,p.2.2):=by
 intro p hp
 simp only [tPar,List.mem_cons,List.not_mem_nil,or_false] at hp
 rcases hp with rfl | rfl | rfl | rfl | rfl | rfl | rfl | rfl <;> kernel_rfl
def tFmt:List (Int × List UInt8):=[(0,[51,49,55,53,32,117,109]),(1,[51,46,49,55,53,32,109,109]),(2,[48,46,51,49,55,53,32,99,109]),(3,[49,47,56,32,105,110]),(4,[49,50,53,32,116,104,111,117])]
theorem tFmt_ok:∀ p ∈ tFmt,fmR 3175 p.1=(p.2,0):=by
 intro p hp
 simp only [tFmt,List.mem_cons,List.not_mem_nil,or_false] at hp
 rcases hp with rfl | rfl | rfl | rfl | rfl <;> kernel_rfl
def tExa:List (List UInt8 × List UInt8):=[([48,46,51,32,117,109],[51,47,49,48]),([49,47,51,32,109,109],[49,48,48,48,47,51])]
theorem tExa_ok:∀ p ∈ tExa,exR p.1=(p.2,0):=by
 intro p hp
 simp only [tExa,List.mem_cons,List.not_mem_nil,or_false] at hp
 rcases hp with rfl | rfl <;> kernel_rfl
theorem vr_ii {ι:Emb} {a b c d:Int} (e:(a,b)=(c,d)) (x:Value) (h:VR ι (.tuple [.sint .i64 a,.sint .i64 b]) x):VR ι (.tuple [.int .i64 c,.int .i64 d]) x:=by
 cases e
 refine vr_tup2 (fun v h=>?_) (fun v h=>?_) x h
 ·simpa only [VR] using h
 ·simpa only [VR] using h
theorem vr_si {ι:Emb} {s t:List UInt8} {m n:Int} (e:(s,m)=(t,n)) (x:Value) (h:VR ι (.tuple [.sstr s,.sint .i64 m]) x):VR ι (.tuple [.str t,.int .i64 n]) x:=by
 cases e
 refine vr_tup2 (fun v h=>?_) (fun v h=>?_) x h
 ·simpa only [VR] using h
 ·simpa only [VR] using h
theorem kPar (s:List UInt8):(runK prog pX6 60).call 13 [.str s] (Bg 8) finV=brK (szOK s) (some (.tuple [.sint .i64 (parR s).1,.sint .i64 (parR s).2])) none:=by kernel_rfl
theorem kExa (s:List UInt8):(runK prog pX6 60).call 11 [.str s] (Bg 8) finV=brK (szOK s) (some (.tuple [.sstr (exR s).1,.sint .i64 (exR s).2])) none:=by kernel_rfl
theorem kFmt (n u:Int):(runK prog pF4 60).call 19 [.int .i64 n,.int .i64 u] (Bg 8) finV=some (.tuple [.sstr (fmR n u).1,.sint .i64 (fmR n u).2]):=by kernel_rfl
theorem kAdd (a b:List UInt8):(runK prog pX6 60).call 48 [.str a,.str b] (Bg 8) finV=brK (propB (smQ a∧smQ b∧True)) (some (.tuple [.sstr (lowT (ratN a*ratD b+ratN b*ratD a) (ratD a*ratD b)),.sint .i64 0])) none:=by kernel_rfl
theorem kBey (a:List UInt8):(runK prog pX6 60).call 34 [.str a] (Bg 8) finV=brK (propB (smQ a)) (some (.sbool (!(rangeB a)))) none:=by kernel_rfl
theorem kInt (a:List UInt8):(runK prog pX6 60).call 40 [.str a] (Bg 8) finV=brK (propB (smI a)) (some (.tuple [.sint .i64 (intR a).1,.sint .i64 (intR a).2])) none:=by kernel_rfl
def x0:List UInt8:=[48]
def x1:List UInt8:=[49,48,48,48,47,51]
def x2:List UInt8:=[50,48,48,48,47,51]
def x3:List UInt8:=[49,48,48,48]
theorem rq_x0:Rq x0 0 1:=⟨by kernel_rfl,by omega,by decide⟩
theorem rq_x1:Rq x1 1000 3:=⟨by kernel_rfl,by omega,by decide⟩
theorem rq_x2:Rq x2 2000 3:=⟨by kernel_rfl,by omega,by decide⟩
theorem rq_x3:Rq x3 1000 1:=⟨by kernel_rfl,by omega,by decide⟩
theorem sm_x0:smQ x0:=rq_x0.sm (by decide) (by decide)
theorem sm_x1:smQ x1:=rq_x1.sm (by decide) (by decide)
theorem sm_x2:smQ x2:=rq_x2.sm (by decide) (by decide)
theorem sm_x3:smQ x3:=rq_x3.sm (by decide) (by decide)
def tabPar:List (List AV × AV):=tPar.map fun p=>([.str p.1],.tuple [.int .i64 p.2.1,.int .i64 p.2.2])
def tabExa:List (List AV × AV):=tExa.map fun p=>([.str p.1],.tuple [.str p.2,.int .i64 0])
def tabFmt:List (List AV × AV):=tFmt.map fun p=>([.int .i64 3175,.int .i64 p.1],.tuple [.str p.2,.int .i64 0])
def tabAdd:List (List AV × AV):=[([.str x0,.str x1],.tuple [.str x1,.int .i64 0]),([.str x1,.str x1],.tuple [.str x2,.int .i64 0]),([.str x2,.str x1],.tuple [.str x3,.int .i64 0])]
def tabBey:List (List AV × AV):=[([.str x3],.bool false)]
def tabInt:List (List AV × AV):=[([.str x3],.tuple [.int .i64 1000,.int .i64 0])]
noncomputable def pAw:Prims:=(((((lib2.addt 13 (gTab tabPar)).addt 11 (gTab tabExa)).addt 19 (gTab tabFmt)).addt 48 (gTab tabAdd)).addt 34 (gTab tabBey)).addt 40 (gTab tabInt)
section
variable {A:Amb} (hT:Tab A) (hE:TabE A) (hG:prog.globals.size≤A.G)
include hT hE hG
theorem pAw_ok:PrimOK prog A pAw:=by
 have h0:=lib2_ok hT
 have hX:=pX6_ok hT hE hG
 have hF:=pF4_ok hT hE hG
 refine PrimOK.addtab2 hX (PrimOK.addtab2 hX (PrimOK.addtab2 hX (PrimOK.addtab2 hF (PrimOK.addtab2 hX (PrimOK.addtab2 hX h0 hG func13 (by kernel_rfl) ?_) hG func11 (by kernel_rfl) ?_) hG func19 (by kernel_rfl) ?_) hG func48 (by kernel_rfl) ?_) hG func34 (by kernel_rfl) ?_) hG func40 (by kernel_rfl) ?_
 ·intro p hp
  obtain ⟨q,hq,rfl⟩:=List.mem_map.1 hp
  have e:=tPar_ok q hq
  have hs:szOK q.1=true:=by
   simp only [tPar,List.mem_cons,List.not_mem_nil,or_false] at hq
   rcases hq with rfl | rfl | rfl | rfl | rfl | rfl | rfl | rfl <;> rfl
  exact ⟨rfl,_,rfl,fun ι x h=>vr_ii e x h,60,(kPar q.1).trans (by rw [hs]; rfl)⟩
 ·intro p hp
  obtain ⟨q,hq,rfl⟩:=List.mem_map.1 hp
  have e:=tExa_ok q hq
  have hs:szOK q.1=true:=by
   simp only [tExa,List.mem_cons,List.not_mem_nil,or_false] at hq
   rcases hq with rfl | rfl <;> rfl
  exact ⟨rfl,_,rfl,fun ι x h=>vr_si e x h,60,(kExa q.1).trans (by rw [hs]; rfl)⟩
 ·intro p hp
  obtain ⟨q,hq,rfl⟩:=List.mem_map.1 hp
  have e:=tFmt_ok q hq
  exact ⟨rfl,_,rfl,fun ι x h=>vr_si e x h,60,kFmt _ _⟩
 ·intro p hp
  simp only [tabAdd,List.mem_cons,List.not_mem_nil,or_false] at hp
  rcases hp with rfl | rfl | rfl
  ·exact ⟨rfl,_,rfl,fun ι x h=>vr_si (s:=lowT (ratN x0*ratD x1+ratN x1*ratD x0) (ratD x0*ratD x1)) (by kernel_rfl) x h,60,(kAdd x0 x1).trans (by rw [propB_true ⟨sm_x0,sm_x1,trivial⟩]; rfl)⟩
  ·exact ⟨rfl,_,rfl,fun ι x h=>vr_si (s:=lowT (ratN x1*ratD x1+ratN x1*ratD x1) (ratD x1*ratD x1)) (by kernel_rfl) x h,60,(kAdd x1 x1).trans (by rw [propB_true ⟨sm_x1,sm_x1,trivial⟩]; rfl)⟩
  ·exact ⟨rfl,_,rfl,fun ι x h=>vr_si (s:=lowT (ratN x2*ratD x1+ratN x1*ratD x2) (ratD x2*ratD x1)) (by kernel_rfl) x h,60,(kAdd x2 x1).trans (by rw [propB_true ⟨sm_x2,sm_x1,trivial⟩]; rfl)⟩
 ·intro p hp
  simp only [tabBey,List.mem_cons,List.not_mem_nil,or_false] at hp
  subst hp
  exact ⟨rfl,.sbool (!(rangeB x3)),rfl,fun ι x h=>(by rw [show (!(rangeB x3))=false by kernel_rfl] at h; simpa only [VR] using h),60,(kBey x3).trans (by rw [propB_true sm_x3]; rfl)⟩
 ·intro p hp
  simp only [tabInt,List.mem_cons,List.not_mem_nil,or_false] at hp
  subst hp
  exact ⟨rfl,_,rfl,fun ι x h=>vr_ii (a:=(intR x3).1) (b:=(intR x3).2) (by kernel_rfl) x h,60,(kInt x3).trans (by rw [propB_true ⟨sm_x3,by rw [rq_x3.n]; decide⟩]; rfl)⟩
end
noncomputable def code10:Code:=f10.body.getD .skip
noncomputable def a0:Code:=fstC code10
noncomputable def a1:Code:=fstC (sndC code10)
noncomputable def a2:Code:=fstC (sndC (sndC code10))
noncomputable def a3:Code:=sndC (sndC (sndC code10))
theorem code10_eq:code10=.seq a0 (.seq a1 (.seq a2 a3)):=by kernel_rfl
noncomputable def mF (c:Code):Code:=fstC c
noncomputable def mL (id:Nat) (c:Code):Code:=unLoop (findB id c)
noncomputable def mT (id:Nat) (c:Code):Code:=fstC (mL id c)
noncomputable def mB (id:Nat) (c:Code):Code:=((findB id c).getD .skip)
noncomputable def mE (id:Nat) (c:Code):Code:=fstC (mB id c)
noncomputable def mR (id:Nat) (c:Code):Code:=sndC (mB id c)
theorem a1_eq:a1=.seq (.region 1 (opsR (mF a1)) false) (.block 0 (.loop (.seq (.region 2 (opsR (mT 0 a1)) false) (.seq (.cond (.tmp 21) .skip (.exit 0)) (.block 1 (.seq (.region 3 (opsR (mE 1 a1)) false) (mR 1 a1))))))):=by kernel_rfl
theorem a2_eq:a2=.seq (.region 7 (opsR (mF a2)) false) (.block 2 (.loop (.seq (.region 8 (opsR (mT 2 a2)) false) (.seq (.cond (.tmp 41) .skip (.exit 2)) (.block 3 (.seq (.region 9 (opsR (mE 3 a2)) false) (mR 3 a2))))))):=by kernel_rfl
def spA:SP:=⟨[.is (.bool false)]++dr 93,dd8⟩
theorem run10_0:execK prog (runK prog pAw 60) noBps a0 (List.replicate 94 aundef) (Bg 8) (nrmP (fun _=>spA) 8 [])=some (.normal,[]):=by kernel_rfl
def spA1:SP:=⟨[.is (.bool true)]++dr 93,dd8⟩
theorem run10_3:execK prog (runK prog pAw 60) noBps a3 (spA.rho []) (spA.heap []) (nrmP (fun _=>spA1) 8 [])=some (.ret,[]):=by kernel_rfl
noncomputable def rA:List AV:=spA.rho []
noncomputable def stM (c:Code):List AV × Heap × List Nat:=((aops prog (run prog pAw 60) (opsR (mF c)) (opsR (mF c)).toList.dropLast rA (Bg 8)).getD ([],[],[]))
noncomputable def esM (c:Code):List (AV × AV):=match ((stM c).2.1:List AObj)[8]? with | some (AObj.maps es)=>es | _=>[]
noncomputable abbrev rIt (c:Code) (it:Tmp):List AV:=aput (stM c).1 (some it) (.ptr (some ((stM c).2.1.length,0)))
noncomputable def rN (c:Code) (l:Nat) (it tn:Tmp) (v:AV):List AV:=((aops prog (run prog pAw 60) (opsR (mT l c)) ((opsR (mT l c)).toList.drop 1) (aput (rIt c it) (some tn) v) ((stM c).2.1++[.miter])).getD ([],[],[])).1
noncomputable def rEn (c:Code) (l:Nat) (it tn te:Tmp) (e:AV × AV):List AV:=((aops prog (run prog pAw 60) (opsR (mE (l+1) c)) ((opsR (mE (l+1) c)).toList.drop 1) (aput (rN c l it tn (.tuple [.bool true,.bad,.bad])) (some te) (.tuple [e.1,e.2])) ((stM c).2.1++[.miter])).getD ([],[],[])).1
noncomputable abbrev entT (c:Code) (l:Nat) (it tn te:Tmp) (live:List Tmp) (e:AV × AV):Option (AEx × List AV × Heap × List Nat):=execK prog (runK prog pAw 60) noBps (mR (l+1) c) (rEn c l it tn te e) ((stM c).2.1++[.miter]) (keepK live)
theorem map1:(esM a1).map (entT a1 0 19 20 22 [0,17,18,19])=(esM a1).map fun _=>some (.normal,rIt a1 19,(stM a1).2.1++[.miter],[]):=by kernel_rfl
theorem map2:(esM a2).map (entT a2 2 39 40 42 [0,37,38,39])=(esM a2).map fun _=>some (.normal,rIt a2 39,(stM a2).2.1++[.miter],[]):=by kernel_rfl
theorem ent1:(esM a1).map (fun e=>aops prog (run prog pAw 60) (opsR (mE 1 a1)) ((opsR (mE 1 a1)).toList.drop 1) (aput (rN a1 0 19 20 (.tuple [.bool true,.bad,.bad])) (some 22) (.tuple [e.1,e.2])) ((stM a1).2.1++[.miter]))=(esM a1).map fun e=>some (rEn a1 0 19 20 22 e,(stM a1).2.1++[.miter],[]):=by kernel_rfl
theorem ent2:(esM a2).map (fun e=>aops prog (run prog pAw 60) (opsR (mE 3 a2)) ((opsR (mE 3 a2)).toList.drop 1) (aput (rN a2 2 39 40 (.tuple [.bool true,.bad,.bad])) (some 42) (.tuple [e.1,e.2])) ((stM a2).2.1++[.miter]))=(esM a2).map fun e=>some (rEn a2 2 39 40 42 e,(stM a2).2.1++[.miter],[]):=by kernel_rfl
theorem map_at {α β:Type} {l:List α} {f g:α→β} (h:l.map f=l.map g) {e:α} (he:e ∈ l):f e=g e:=List.map_inj_left.1 h e he
section
variable {A:Amb} (hT:Tab A) (hE:TabE A) (hG:prog.globals.size≤A.G)
include hT hE hG
theorem seb1:SEB prog A (Bg 8) a1 ⟨spA.rho [],spA.heap [],[]⟩ .normal ⟨spA.rho [],spA.heap [],[]⟩:=by
 have hp:=pAw_ok hT hE hG
 have h:=SEB.rangeMap (A:=A) (B0:=Bg 8) (prims:=pAw) (n:=60) hmix hnum hp (ρ0:=rA) (ρ1:=(stM a1).1) (Bs:=Bg 8) (B1:=(stM a1).2.1) (D0:=[]) (D1:=(stM a1).2.2) (mb:=8) (it:=19) (tn:=20) (te:=22) (tok:=21) (mt:=18) (i1:=1) (i2:=2) (i3:=3) (id0:=0) (id1:=1)
  (ops1:=opsR (mF a1)) (ops2:=opsR (mT 0 a1)) (ops3:=opsR (mE 1 a1)) (c4:=mR 1 a1) (es:=esM a1) (l1:=(opsR (mF a1)).toList.dropLast) (o1:=lastR (mF a1)) (ty:=57) (kt:=9) (et:=3)
  (by kernel_rfl) (by kernel_rfl) (by kernel_rfl) (by kernel_rfl) (by kernel_rfl) (by kernel_rfl) (by kernel_rfl) (by kernel_rfl) (by kernel_rfl)
  (o2:=headR (mT 0 a1)) (by kernel_rfl) (by kernel_rfl) (by kernel_rfl) (by kernel_rfl) (ρn:=rN a1 0 19 20 (.tuple [.bool true,.bad,.bad])) (ρe:=rN a1 0 19 20 (.tuple [.bool false])) (by kernel_rfl) (by kernel_rfl) (by kernel_rfl) (by kernel_rfl) (by kernel_rfl)
  (o3:=headR (mE 1 a1)) (by kernel_rfl) (by kernel_rfl) (by kernel_rfl) (by kernel_rfl) fun e he=>⟨rEn a1 0 19 20 22 e,map_at ent1 he,(by have h:=map_at map1 he; exact SEB.of_K0 hmix hnum hp (.none _) h)⟩
 rw [a1_eq]
 refine SEB.wk_out h ?_
 exact Wk.of_nrmP (e:=.normal) (e1:=.normal) (sp:=fun _=>spA) (ds:=[]) (m:=8) (ls:=[]) rfl (by kernel_rfl) rfl
theorem seb2:SEB prog A (Bg 8) a2 ⟨spA.rho [],spA.heap [],[]⟩ .normal ⟨spA.rho [],spA.heap [],[]⟩:=by
 have hp:=pAw_ok hT hE hG
 have h:=SEB.rangeMap (A:=A) (B0:=Bg 8) (prims:=pAw) (n:=60) hmix hnum hp (ρ0:=rA) (ρ1:=(stM a2).1) (Bs:=Bg 8) (B1:=(stM a2).2.1) (D0:=[]) (D1:=(stM a2).2.2) (mb:=8) (it:=39) (tn:=40) (te:=42) (tok:=41) (mt:=38) (i1:=7) (i2:=8) (i3:=9) (id0:=2) (id1:=3)
  (ops1:=opsR (mF a2)) (ops2:=opsR (mT 2 a2)) (ops3:=opsR (mE 3 a2)) (c4:=mR 3 a2) (es:=esM a2) (l1:=(opsR (mF a2)).toList.dropLast) (o1:=lastR (mF a2)) (ty:=58) (kt:=9) (et:=24)
  (by kernel_rfl) (by kernel_rfl) (by kernel_rfl) (by kernel_rfl) (by kernel_rfl) (by kernel_rfl) (by kernel_rfl) (by kernel_rfl) (by kernel_rfl)
  (o2:=headR (mT 2 a2)) (by kernel_rfl) (by kernel_rfl) (by kernel_rfl) (by kernel_rfl) (ρn:=rN a2 2 39 40 (.tuple [.bool true,.bad,.bad])) (ρe:=rN a2 2 39 40 (.tuple [.bool false])) (by kernel_rfl) (by kernel_rfl) (by kernel_rfl) (by kernel_rfl) (by kernel_rfl)
  (o3:=headR (mE 3 a2)) (by kernel_rfl) (by kernel_rfl) (by kernel_rfl) (by kernel_rfl) fun e he=>⟨rEn a2 2 39 40 42 e,map_at ent2 he,(by have h:=map_at map2 he; exact SEB.of_K0 hmix hnum hp (.none _) h)⟩
 rw [a2_eq]
 refine SEB.wk_out h ?_
 exact Wk.of_nrmP (e:=.normal) (e1:=.normal) (sp:=fun _=>spA) (ds:=[]) (m:=8) (ls:=[]) rfl (by kernel_rfl) rfl
theorem sebA:SEB prog A (Bg 8) code10 ⟨List.replicate 94 aundef,Bg 8,[]⟩ .ret ⟨spA1.rho [],spA1.heap [],[]⟩:=by
 have hp:=pAw_ok hT hE hG
 have hB:(Bg 8).length=8:=rfl
 rw [code10_eq]
 refine SEB.seq (SEB.of_KP (A:=A) (e:=.normal) hmix hnum hp (.none _) hB run10_0 rfl) ?_
 refine SEB.seq (seb1 hT hE hG) (SEB.seq (seb2 hT hE hG) ?_)
 exact SEB.of_KP (A:=A) (e:=.ret) hmix hnum hp (.none _) hB run10_3 rfl
end
noncomputable def withAwake (prims:Prims):Prims:=prims.addh 10 (gPin [] (Bg 8) (.bool true) (Bg 8) [])
theorem withAwake_ok {A:Amb} (hT:Tab A) (hE:TabE A) (hG:prog.globals.size≤A.G) {prims:Prims} (hp:PrimOK prog A prims):PrimOK prog A (withAwake prims):=by
 refine PrimOK.body hp func10 (show f10.body=some code10 by kernel_rfl) fun args B v B' D hq=>?_
 obtain ⟨hc1,hv⟩:=Tr.br_get0 hq
 obtain ⟨rfl,rfl⟩:=propB_eq hc1
 simp only [Tr.get,Option.some.injEq,Prod.mk.injEq] at hv
 obtain ⟨rfl,rfl,rfl⟩:=hv
 exact ⟨⟨Nat.le_refl _,fun _ _ _=>rfl⟩,[],.ret,_,[.bool true],fun _ _ h=>h,sebA hT hE hG,by simp,rfl,rfl,rfl,rfl⟩
end Go.Proofs.Tryz
namespace Go.Proofs.Tryz
open Go.Ad
open Go.Lib (decDigits itoa nDigits decFrom digitVal)
theorem tab_laid {W:World} {a b:String × DataW Unit} {r:List (String × DataW Unit)} (h:laidMet prog (a :: b :: ("internal/strconv.uint64pow10",Lib.tabData .u64 Lib.pow10Tab) :: r) W) :
  Lib.TabIs prog W "internal/strconv.uint64pow10" .u64 Lib.pow10Tab :=
 Lib.tabIs_of_head (g:=1) (t:=184) (e:=149) (n:=20) (by kernel_rfl) (by kernel_rfl) (by kernel_rfl) (by kernel_rfl) (by kernel_rfl) (by kernel_rfl) (laidVars_tail (laidVars_tail h))
theorem iface_of_head {P:Program} {W:World} {name n:String} {d:DataW Unit} {rest:List (String × DataW Unit)} {g:Nat} {t:TypeId} {ms}
  (hg:P.globalNamed name=some g) (hty:(P.globals[g]?).map (·.type)=some t) (ht:P.underlying t=some (.interface ms)) (h:laidMet P ((name,.iface n d) :: rest) W):∃ tp p,W.cell? ⟨g,0,none⟩=some (.iface tp p):=by
 obtain ⟨ps,⟨g',t',cs,fuel,p,q,hg',ht',hvar,hd,_,_⟩,_⟩:=h
 obtain rfl:=Option.some.inj (hg.symm.trans hg')
 obtain rfl:=Option.some.inj (hty.symm.trans ht')
 have hc:=World.var?_cell hg hvar 0
 cases fuel with
 | zero=>simp [DataW.trod] at hd
 | succ fuel =>
  unfold DataW.trod at hd
  rw [ht] at hd
  obtain ⟨l⟩:=cs
  match l,hd with
  | [.iface tp p],_=>exact ⟨tp,p,hc⟩
  | .nilIface :: r,hd=>cases r <;> simp at hd
theorem tabE_of {W:World} {a b c d e:String × DataW Unit} {n:String} {x:DataW Unit} {r:List (String × DataW Unit)} (hG:prog.globals.size≤W.heap.size) (h:laidMet prog (a :: b :: c :: d :: e :: ("strconv.ErrSyntax",.iface n x) :: r) W):TabE (ambOf W):=fun w hw=>by
 obtain ⟨tp,p,hc⟩:=iface_of_head (g:=2) (t:=90) (ms:=#[("Error",129)]) (by kernel_rfl) (by kernel_rfl) (by kernel_rfl) (laidVars_tail (laidVars_tail (laidVars_tail (laidVars_tail (laidVars_tail h)))))
 have h2:2 < W.heap.size:=Nat.lt_of_lt_of_le (by rw [gsz]; omega) hG
 refine ⟨tp,p,?_⟩
 have e2:w.heap[2]?=W.heap[2]?:=hw 2 h2
 unfold World.cell? at hc ⊢
 rw [← hc]
 simp only [e2]
end Go.Proofs.Tryz
namespace Go.Proofs.Tryz
open Go.Ad
open Go.Lib (decDigits itoa nDigits decFrom digitVal)
def unR (w:List UInt8):Int × Int :=
 bif [117,109] == w then (0,0) else bif [109,109] == w then (1,0) else bif [99,109] == w then (2,0) else bif [105,110] == w then (3,0) else bif [116,104,111,117] == w then (4,0) else (0,20)
def woR (u:Int):List UInt8 × Int:=if u < 0 ∨ u > 4 then ([],20) else (wT u.toNat,0)
noncomputable abbrev unK (w:List UInt8):Option (List Lf) :=
 brK ([117,109] == w) (some [.i 0,.i 0]) (brK ([109,109] == w) (some [.i 1,.i 0]) (brK ([99,109] == w) (some [.i 2,.i 0]) (brK ([105,110] == w) (some [.i 3,.i 0]) (brK ([116,104,111,117] == w) (some [.i 4,.i 0]) (some [.i 0,.i 20])))))
theorem unK_eq (w:List UInt8):unK w=some [.i (unR w).1,.i (unR w).2]:=by
 unfold unR
 show unK w=_
 unfold unK
 cases ([117,109] == w) with
 | true=>rfl
 | false =>
  cases ([109,109] == w) with
  | true=>rfl
  | false =>
   cases ([99,109] == w) with
   | true=>rfl
   | false =>
    cases ([105,110] == w) with
    | true=>rfl
    | false=>cases ([116,104,111,117] == w) <;> rfl
theorem run15 (w:List UInt8):(runK prog pF4 60).call 15 (spS1.rho [.s w]) (spS1.heap [.s w]) (finQ spI2 8 [])=unK w:=by kernel_rfl
theorem run16 (w:List UInt8):(runK prog pF4 60).call 16 (spS1.rho [.s w]) (spS1.heap [.s w]) (finQ spI2 8 [])=unK w:=by kernel_rfl
def spU1:SP:=⟨[.int .i64],dd8⟩
noncomputable abbrev woF (u:Int):Option (List Lf):=woK u fun w=>some [.s w,.i 0]
theorem run17 (u:Int):(runK prog pF4 60).call 17 (spU1.rho [.i u]) (spU1.heap [.i u]) (finQ spRI 8 [])=brK (decide (u < 0)) (e2 20) (brK (decide (u ≥ 5)) (e2 20) (woF u)):=by kernel_rfl
theorem run18 (u:Int):(runK prog pF4 60).call 18 (spU1.rho [.i u]) (spU1.heap [.i u]) (finQ spRI 8 [])=brK (decide (u < 0)) (e2 20) (brK (decide (u > 4)) (e2 20) (woF u)):=by kernel_rfl
theorem wo_gen {u:Int} {b:Bool} (hb:b=decide (u > 4)):brK (decide (u < 0)) (e2 20) (brK b (e2 20) (woF u))=some [.s (woR u).1,.i (woR u).2]:=by
 subst hb
 unfold woR
 by_cases h3:u < 0
 ·rw [decide_eq_true h3,if_pos (.inl h3)]; rfl
 ·rw [decide_eq_false h3,brK_f]
  by_cases h4:u > 4
  ·rw [decide_eq_true h4,if_pos (.inr h4)]; rfl
  ·rw [decide_eq_false h4,brK_f,if_neg (by omega)]
   obtain ⟨u,rfl⟩:=Int.eq_ofNat_of_zero_le (show 0≤u by omega)
   have hu:u≤4:=by omega
   match u,hu with
   | 0,_=>rfl
   | 1,_=>rfl
   | 2,_=>rfl
   | 3,_=>rfl
   | 4,_=>rfl
noncomputable def TUn:List Lf→Tr (SP × List Lf)
 | [.s w]=>.leaf (spI2,[.i (unR w).1,.i (unR w).2])
 | _=>.fail
noncomputable def TWo:List Lf→Tr (SP × List Lf)
 | [.i u]=>.leaf (spRI,[.s (woR u).1,.i (woR u).2])
 | _=>.fail
noncomputable def pL1:Prims:=(((pF4.addh 15 (liftG 8 (funQ spS1 8 [] TUn))).addh 16 (liftG 8 (funQ spS1 8 [] TUn))).addh 17 (liftG 8 (funQ spU1 8 [] TWo))).addh 18 (liftG 8 (funQ spU1 8 [] TWo))
noncomputable abbrev pLw:Prims:=withAwake pL1
section
variable {A:Amb} (hT:Tab A) (hE:TabE A) (hG:prog.globals.size≤A.G)
include hT hE hG
theorem pL1_ok:PrimOK prog A pL1:=by
 have hp:=pF4_ok hT hE hG
 have hw:∀ (ls:List Lf) (sq:SP) (l:List Lf),(TUn ls).get=some (sq,l)→∃ w,ls=[.s w]∧sq=spI2∧l=[.i (unR w).1,.i (unR w).2]:=fun ls sq l h=>by
  unfold TUn at h
  split at h
  ·cases h; exact ⟨_,rfl,rfl,rfl⟩
  ·cases h
 have hu:∀ (ls:List Lf) (sq:SP) (l:List Lf),(TWo ls).get=some (sq,l)→∃ u,ls=[.i u]∧sq=spRI∧l=[.s (woR u).1,.i (woR u).2]:=fun ls sq l h=>by
  unfold TWo at h
  split at h
  ·cases h; exact ⟨_,rfl,rfl,rfl⟩
  ·cases h
 refine (((hp.addl gsz func15 (by kernel_rfl) (funQ_ok hmix hnum rfl fun ls sq l h=>?_)).addl gsz func16 (by kernel_rfl) (funQ_ok hmix hnum rfl fun ls sq l h=>?_)).addl gsz func17 (by kernel_rfl) (funQ_ok hmix hnum rfl fun ls sq l h=>?_)).addl gsz func18 (by kernel_rfl) (funQ_ok hmix hnum rfl fun ls sq l h=>?_)
 ·obtain ⟨w,rfl,rfl,rfl⟩:=hw ls sq l h
  exact ⟨fr8 rfl rfl,rfl,pF4,60,_,hp,(run15 w).trans (unK_eq w),fun _ _=>.refl⟩
 ·obtain ⟨w,rfl,rfl,rfl⟩:=hw ls sq l h
  exact ⟨fr8 rfl rfl,rfl,pF4,60,_,hp,(run16 w).trans (unK_eq w),fun _ _=>.refl⟩
 ·obtain ⟨u,rfl,rfl,rfl⟩:=hu ls sq l h
  exact ⟨fr8 rfl rfl,rfl,pF4,60,_,hp,(run17 u).trans (wo_gen (by rw [decide_eq_decide]; omega)),fun _ _=>.refl⟩
 ·obtain ⟨u,rfl,rfl,rfl⟩:=hu ls sq l h
  exact ⟨fr8 rfl rfl,rfl,pF4,60,_,hp,(run18 u).trans (wo_gen rfl),fun _ _=>.refl⟩
theorem pLw_ok:PrimOK prog A pLw:=withAwake_ok hT hE hG (pL1_ok hT hE hG)
end
noncomputable abbrev awK:Option Unit:=brK (propB (([]:List AV)=[]∧Bg 8=Bg 8)) (some ()) none
theorem awK_eq:awK=some ():=by unfold awK; rw [propB_true ⟨rfl,rfl⟩]; rfl
theorem law3 (s:List UInt8):(runK prog pLw 60).call 3 [.sstr s] (Bg 8) goodK =
  brK (decide ((s.length:Int) > 100)) awK (brK (szOK s) (brK (szOK s) (brK (szOK s) (brK (szOK s) (brK (propB (([]:List AV)=[]∧Bg 8=Bg 8)) (brK ((exR s).1 == (exR s).1) (brK ((exR s).2 == (exR s).2) (brK ((parR s).1 == (parR s).1) (brK ((parR s).2 == (parR s).2) (some ()) none) none) none) none) none) none) none) none) none):=by kernel_rfl
theorem law4 (w:List UInt8) (u:Int):(runK prog pLw 60).call 4 [.sstr w,.sint .i64 u] (Bg 8) goodK =
  brK (decide ((w.length:Int) > 100)) awK (brK (propB (([]:List AV)=[]∧Bg 8=Bg 8)) (brK ((unR w).1 == (unR w).1) (brK ((unR w).2 == (unR w).2) (brK ((woR u).1 == (woR u).1) (brK ((woR u).2 == (woR u).2) (some ()) none) none) none) none) none):=by kernel_rfl
theorem law5 (n u:Int):(runK prog pLw 60).call 5 [.sint .i64 n,.sint .i64 u] (Bg 8) goodK =
  brK (propB (([]:List AV)=[]∧Bg 8=Bg 8)) (brK ((fmR n u).1 == (fmR n u).1) (brK ((fmR n u).2 == (fmR n u).2) (some ()) none) none) none:=by kernel_rfl
theorem unitsReads (b:ByteArray) (W:World) (hG:prog.globals.size≤W.heap.size) (hT:Tab (ambOf W)) (hE:TabE (ambOf W)) :
  Calls prog 3 #[.string b] W fun e W'=>e=.returned (.bool true)∧RowKit.Below W.heap.size W W':=by
 refine law_of_K hmix hnum (pLw_ok hT hE hG) hG (n:=60) (args:=[.sstr b.data.toList]) ?_ rfl (iotaG 8) _ ?_
 ·rw [gsz]
  refine (law3 _).trans ?_
  generalize b.data.toList=s
  by_cases h:s.length > 100
  ·rw [decide_eq_true (show (s.length:Int) > 100 by omega),brK_t]; exact awK_eq
  ·rw [decide_eq_false (show ¬ (s.length:Int) > 100 by omega),show szOK s=true from decide_eq_true (by omega),propB_true ⟨rfl,rfl⟩]
   simp [brK]
 ·simp only [VRL,VR]
  exact ⟨_,_,rfl,⟨b,rfl,rfl⟩,rfl⟩
theorem unitsWords (b:ByteArray) (u:Int) (W:World) (hG:prog.globals.size≤W.heap.size) (hT:Tab (ambOf W)) (hE:TabE (ambOf W)) :
  Calls prog 4 #[.string b,.int .i64 u] W fun e W'=>e=.returned (.bool true)∧RowKit.Below W.heap.size W W':=by
 refine law_of_K hmix hnum (pLw_ok hT hE hG) hG (n:=60) (args:=[.sstr b.data.toList,.sint .i64 u]) ?_ rfl (iotaG 8) _ ?_
 ·rw [gsz]
  refine (law4 _ _).trans ?_
  generalize b.data.toList=s
  by_cases h:s.length > 100
  ·rw [decide_eq_true (show (s.length:Int) > 100 by omega),brK_t]; exact awK_eq
  ·rw [decide_eq_false (show ¬ (s.length:Int) > 100 by omega),propB_true ⟨rfl,rfl⟩]
   simp [brK]
 ·simp only [VRL,VR]
  exact ⟨_,_,rfl,⟨b,rfl,rfl⟩,_,_,rfl,rfl,rfl⟩
theorem unitsWrites (n u:Int) (W:World) (hG:prog.globals.size≤W.heap.size) (hT:Tab (ambOf W)) (hE:TabE (ambOf W)) :
  Calls prog 5 #[.int .i64 n,.int .i64 u] W fun e W'=>e=.returned (.bool true)∧RowKit.Below W.heap.size W W':=by
 refine law_of_K hmix hnum (pLw_ok hT hE hG) hG (n:=60) (args:=[.sint .i64 n,.sint .i64 u]) ?_ rfl (iotaG 8) _ ?_
 ·rw [gsz]
  refine (law5 _ _).trans ?_
  rw [propB_true ⟨rfl,rfl⟩]
  simp [brK]
 ·simp only [VRL,VR]
  exact ⟨_,_,rfl,rfl,_,_,rfl,rfl,rfl⟩
end Go.Proofs.Tryz
namespace Go.Proofs.Tryz
open Go.Ad
open Go.Lib (decDigits itoa nDigits decFrom digitVal)
theorem dec_first:∀ u:Nat,1≤u→(decDigits u).headD 0 ≠ 48:=fun u=>by
 induction u using Nat.strongRecOn with
 | _ u ih =>
  intro h
  by_cases h1:u < 10
  ·rw [dec_small h1]
   show dig u ≠ 48
   intro e
   have:=dig_toNat u
   rw [e] at this
   have h48:(48:UInt8).toNat=48:=rfl
   omega
  ·rw [dec_big h1]
   have h2:=ih (u / 10) (by omega) (by omega)
   cases hd:decDigits (u / 10) with
   | nil=>exact (dec_ne _ hd).elim
   | cons b r =>
    rw [hd] at h2
    exact h2
theorem natT_itoa (m:Nat):natT (itoa (m:Int))=true:=by
 unfold natT digT
 have hne:(itoa (m:Int) == [])=false:=by
  cases h:itoa (m:Int) with
  | nil=>exact (itoa_ne _ h).elim
  | cons b r=>rfl
 rw [hne,itoaN_all]
 rw [itoaN]
 by_cases h:m=0
 ·subst h; rw [dec_small (u:=0) (by omega)]; rfl
 ·have:=dec_first m (by omega)
  rw [show ((decDigits m).headD 0 == 48)=false by simpa using this]
  simp
structure NumT (X:List UInt8) (a b:Int):Prop where
 num:numR X=(a,b,0)
 chars:∀ c,c ∈ X→c=46 ∨ c=47 ∨ isDg c=true
theorem NumT.not {X:List UInt8} {a b:Int} (h:NumT X a b) {c:UInt8} (h1:c ≠ 46) (h2:c ≠ 47) (h3:isDg c=false):c ∉ X:=fun hm=>by
 rcases h.chars c hm with e | e | e
 ·exact h1 e
 ·exact h2 e
 ·rw [h3] at e; cases e
theorem NumT.head {X:List UInt8} {a b:Int} (h:NumT X a b):(X.headD 0 == 45)=false:=by
 cases X with
 | nil=>rfl
 | cons c r =>
  have:=h.not (c:=45) (by decide) (by decide) (by decide)
  show (c == 45)=false
  rw [beq_eq_false_iff_ne]
  exact fun e=>this (by rw [← e]; exact List.mem_cons_self ..)
def mnT (m:Bool):List UInt8:=bif m then [45] else []
theorem NumT.cp {X:List UInt8} {a b:Int} (h:NumT X a b) (m:Bool):cpS (mnT m++X)=(X,m):=by
 unfold cpS mnT
 cases m with
 | true=>rfl
 | false =>
  show (bif X.headD 0 == 45 then X.tail else X,X.headD 0 == 45)=_
  rw [h.head]; rfl
theorem NumT.nb {X:List UInt8} {a b:Int} (h:NumT X a b) (m:Bool):nbR (mnT m++X)=(lowT (bif m then -a else a) b,0):=by
 unfold nbR nbF
 rw [h.cp m,h.num,if_neg (by simp)]
theorem cutC_mk {c:UInt8} {x y:List UInt8} (h:c ∉ x):cutC c (x++c :: y)=(x,y,true):=by
 unfold cutC
 rw [cutAt_mk h]
theorem cutC_no {c:UInt8} {x:List UInt8} (h:c ∉ x):cutC c x=(x,[],false):=by
 unfold cutC
 rw [cutAt_none h]
theorem exR_mk {X w v:List UInt8} {a b:Int} (h:NumT X a b) (m:Bool) (hv:unitV w=some v) (hl:(mnT m++X++[32]++w).length≤40) :
  exR (mnT m++X++[32]++w)=bif rangeB (mulX (lowT (bif m then -a else a) b) v) then (mulX (lowT (bif m then -a else a) b) v,0) else ([],2):=by
 have hn:(32:UInt8) ∉ mnT m++X:=fun hm=>by
  rcases List.mem_append.1 hm with hm | hm
  ·unfold mnT at hm
   cases m with
   | true=>simp at hm
   | false=>cases hm
  ·exact h.not (by decide) (by decide) (by decide) hm
 have hc:cutC 32 (mnT m++X++[32]++w)=(mnT m++X,w,true):=by
  rw [List.append_assoc _ [32] w]; exact cutC_mk hn
 unfold exR
 rw [if_neg (by omega),hc]
 simp only
 rw [h.nb m,hv]
 simp
theorem not_dg {l:List UInt8} (h:l.all isDg=true) {c:UInt8} (hc:isDg c=false):c ∉ l:=fun hm=>by
 have:=List.all_eq_true.1 h c hm
 rw [hc] at this; cases this
theorem numS_mk {p q:Nat} (hp:p < 10 ^ 6) (hq:1≤q) (hq2:q < 10 ^ 6):numS (itoa (p:Int)) (itoa (q:Int))=((p:Int),(q:Int),0):=by
 have l1:(itoa (p:Int)).length≤6:=itoaN_len hp (by omega)
 have l2:(itoa (q:Int)).length≤6:=itoaN_len hq2 (by omega)
 have hz:itoa (q:Int) ≠ [48]:=fun e=>by
  have:=digW_itoa q
  rw [e] at this
  have h0:digW 0 [48]=0:=rfl
  omega
 unfold numS
 rw [natT_itoa,natT_itoa,if_neg (by simp),if_neg (by omega),if_neg hz,digW_itoa,digW_itoa]
theorem NumT.nat {p:Nat} (hp:p < 10 ^ 6):NumT (itoa (p:Int)) p 1:=by
 have hd:=itoaN_all p
 refine ⟨?_,fun c hc=>.inr (.inr (List.all_eq_true.1 hd c hc))⟩
 unfold numR
 rw [cutC_no (not_dg hd (by decide)),cutC_no (not_dg hd (by decide))]
 have:=numS_mk hp (q:=1) (by omega) (by omega)
 rw [show itoa ((1:Nat):Int)=[49] from itoa_1] at this
 exact this
theorem NumT.quo {p q:Nat} (hp:p < 10 ^ 6) (hq:1≤q) (hq2:q < 10 ^ 6):NumT (itoa (p:Int)++[47]++itoa (q:Int)) p q:=by
 have hd:=itoaN_all p
 have he:=itoaN_all q
 refine ⟨?_,fun c hc=>?_⟩
 ·unfold numR
  have h46:(46:UInt8) ∉ itoa (p:Int)++[47]++itoa (q:Int):=fun hm=>by
   rcases List.mem_append.1 hm with hm | hm
   ·rcases List.mem_append.1 hm with hm | hm
    ·exact not_dg hd (by decide) hm
    ·simp at hm
   ·exact not_dg he (by decide) hm
  rw [cutC_no h46,List.append_assoc,show ([47]++itoa (q:Int):List UInt8)=47 :: itoa (q:Int) from rfl,cutC_mk (not_dg hd (by decide))]
  exact numS_mk hp hq hq2
 ·rcases List.mem_append.1 hc with hm | hm
  ·rcases List.mem_append.1 hm with hm | hm
   ·exact .inr (.inr (List.all_eq_true.1 hd c hm))
   ·right; left; simpa using hm
  ·exact .inr (.inr (List.all_eq_true.1 he c hm))
theorem NumT.pt {p:Nat} {d:List UInt8} (hp:p < 10 ^ 6) (hd:d.all isDg=true) (h0:d ≠ []) (hl:d.length≤6):NumT (itoa (p:Int)++46 :: d) ((p*10 ^ d.length+digW 0 d:Nat):Int) ((10 ^ d.length:Nat):Int):=by
 have hq:=itoaN_all p
 have l1:(itoa (p:Int)).length≤6:=itoaN_len hp (by omega)
 have hdt:digT d=true:=by
  unfold digT
  rw [hd,Bool.and_true]
  cases d with
  | nil=>exact (h0 rfl).elim
  | cons b r=>rfl
 refine ⟨?_,fun c hc=>?_⟩
 ·unfold numR
  rw [cutC_mk (not_dg hq (by decide))]
  show numP (itoa (p:Int)) d=_
  unfold numP
  rw [natT_itoa,hdt,if_neg (by simp),if_neg (by omega),digW_itoa]
 ·rcases List.mem_append.1 hc with hm | hm
  ·exact .inr (.inr (List.all_eq_true.1 hq c hm))
  ·rcases List.mem_cons.1 hm with e | hm
   ·exact .inl e
   ·exact .inr (.inr (List.all_eq_true.1 hd c hm))
theorem wT_unit (u:Nat) (hu:u≤4):unitV (wT u)=some (vT u):=by
 match u,hu with
 | 0,_=>rfl
 | 1,_=>rfl
 | 2,_=>rfl
 | 3,_=>rfl
 | 4,_=>rfl
theorem mulX_eq {a b N D:Int} {v:List UInt8} (hb:b ≠ 0) (hv:ratD v ≠ 0) (hD:1≤D) (hg:Int.gcd N D=1) (h:a*ratN v*D=N*(b*ratD v)):Rq (mulX (lowT a b) v) N D:=by
 obtain ⟨P,Q,r1,r2,_,_,_⟩:=low_ex (A:=a) hb
 unfold mulX
 rw [r1.n,r1.d]
 have hQ:=r1.2.1
 refine Rq.low (Int.mul_ne_zero (by omega) hv) hD hg ?_
 have e:b*(P*ratN v*D)=b*(N*(Q*ratD v)):=by
  calc b*(P*ratN v*D)=(P*b)*ratN v*D:=by ac_rfl
   _=(a*Q)*ratN v*D:=by rw [r2]
   _=Q*(a*ratN v*D):=by ac_rfl
   _=Q*(N*(b*ratD v)):=by rw [h]
   _=b*(N*(Q*ratD v)):=by ac_rfl
 exact Int.eq_of_mul_eq_mul_left hb e
end Go.Proofs.Tryz
namespace Go.Proofs.Tryz
open Go.Ad
open Go.Lib (decDigits itoa nDigits decFrom digitVal)
theorem vals:(ratN (vT 0)=1∧ratD (vT 0)=1)∧(ratN (vT 1)=1000∧ratD (vT 1)=1)∧(ratN (vT 2)=10000∧ratD (vT 2)=1)∧(ratN (vT 3)=25400∧ratD (vT 3)=1)∧(ratN (vT 4)=127∧ratD (vT 4)=5) :=
 ⟨⟨rq_um.n,rq_um.d⟩,⟨rq_mm.n,rq_mm.d⟩,⟨rq_cm.n,rq_cm.d⟩,⟨rq_in.n,rq_in.d⟩,⟨rq_th.n,rq_th.d⟩⟩
theorem pt_num {k m:Nat} (hk:k=3 ∨ k=4) (hm:m≤100000):∃ a b:Nat,NumT (ptR k m) (a:Int) (b:Int)∧1≤b∧a*10 ^ k=m*b∧(ptR k m).length≤11:=by
 have hq:m / 10 ^ k≤m:=Nat.div_le_self _ _
 have hq2:m / 10 ^ k < 10 ^ 6:=by omega
 have hl:(itoa ((m / 10 ^ k:Nat):Int)).length≤6:=itoaN_len hq2 (by omega)
 have hdm:=Nat.div_add_mod m (10 ^ k)
 unfold ptR
 by_cases h0:m % 10 ^ k=0
 ·rw [if_pos h0,List.append_nil]
  refine ⟨m / 10 ^ k,1,NumT.nat hq2,Nat.le_refl _,?_,by omega⟩
  rw [Nat.mul_comm,Nat.mul_one]; omega
 ·rw [if_neg h0]
  have:=dgOK_of hk (Nat.mod_lt m (Nat.pow_pos (n:=k) (by decide:0 < 10)))
  unfold dgOK at this
  rw [Bool.and_eq_true,Bool.and_eq_true,decide_eq_true_eq] at this
  obtain ⟨⟨_,h1⟩,h2,h3,h4⟩:=this
  generalize dgL k (m % 10 ^ k)=d at *
  have hd0:d ≠ []:=fun e=>h0 (h4.1 e)
  refine ⟨_,_,NumT.pt hq2 h1 hd0 (by omega),Nat.one_le_pow _ _ (by decide),?_,by rw [List.length_append,List.length_cons]; omega⟩
  have hkk:10 ^ d.length*10 ^ (k - d.length)=10 ^ k:=by rw [← Nat.pow_add,Nat.add_sub_cancel' h2]
  generalize m % 10 ^ k=r at *
  generalize m / 10 ^ k=q at *
  generalize digW 0 d=D at *
  generalize 10 ^ d.length=L at *
  generalize 10 ^ (k - d.length)=K at *
  generalize 10 ^ k=T at *
  calc (q*L+D)*T=T*q*L+D*(L*K):=by rw [hkk,Nat.add_mul]; ac_rfl
   _=T*q*L+(D*K)*L:=by ac_rfl
   _=m*L:=by rw [h3,← Nat.add_mul,hdm]
theorem quo_num {u m:Nat} (hu:u=3 ∨ u=4) (hm:m≤100000):∃ a b:Nat,NumT (lowT ((m:Int)*ratD (vT u)) (ratN (vT u))) (a:Int) (b:Int)∧1≤b∧(a:Int)*ratN (vT u)=m*((b:Int)*ratD (vT u))∧(lowT ((m:Int)*ratD (vT u)) (ratN (vT u))).length≤13:=by
 obtain ⟨_,h0,h1,h2,h3,h4⟩:=vT_ok u (by omega)
 obtain ⟨N,D,r1,r2,r3,r4,_⟩:=low_ex (A:=(m:Int)*ratD (vT u)) h0
 have hp:(m:Int)*ratD (vT u)≤100000*5:=Int.mul_le_mul (by omega) h4 (by omega) (by omega)
 have hp0:0≤(m:Int)*ratD (vT u):=Int.mul_nonneg (by omega) (by omega)
 have hD:=r1.2.1
 have hN:0≤N:=by
  refine Int.not_lt.1 fun hn=>?_
  have h5:N*ratN (vT u) < 0:=Int.mul_neg_of_neg_of_pos hn (by omega)
  have h6:0≤(m:Int)*ratD (vT u)*D:=Int.mul_nonneg hp0 (by omega)
  omega
 obtain ⟨p,rfl⟩:=Int.eq_ofNat_of_zero_le hN
 obtain ⟨q,rfl⟩:=Int.eq_ofNat_of_zero_le (show 0≤D by omega)
 have l1:(itoa (p:Int)).length≤6:=itoaN_len (k:=6) (by omega) (by omega)
 have l2:(itoa (q:Int)).length≤6:=itoaN_len (k:=6) (by omega) (by omega)
 rw [r1.1]
 unfold ratT
 cases hq:itoa (q:Int) == [49] with
 | true =>
  have hq1:q=1:=by
   have:=digW_itoa q
   rw [beq_iff_eq.1 hq] at this
   have h49:digW 0 [49]=1:=rfl
   omega
  subst hq1
  refine ⟨p,1,NumT.nat (by omega),Nat.le_refl _,?_,by show (itoa (p:Int)).length≤13; omega⟩
  rw [← r2]; simp [Int.mul_comm]
 | false =>
  refine ⟨p,q,NumT.quo (by omega) (by omega) (by omega),by omega,?_,?_⟩
  ·rw [← r2]; ac_rfl
  ·show (itoa (p:Int)++[47]++itoa (q:Int)).length≤13
   rw [List.length_append,List.length_append,List.length_singleton]; omega
theorem lenT_num {u m:Nat} (hu:u≤4) (hm:m≤100000):∃ a b:Nat,NumT (lenT u m) (a:Int) (b:Int)∧1≤b∧(a:Int)*ratN (vT u)=m*((b:Int)*ratD (vT u))∧(lenT u m).length≤13:=by
 obtain ⟨⟨v0,w0⟩,⟨v1,w1⟩,⟨v2,w2⟩,v3,v4⟩:=vals
 match u,hu with
 | 0,_ =>
  have l1:(itoa (m:Int)).length≤6:=itoaN_len (k:=6) (by omega) (by omega)
  refine ⟨m,1,NumT.nat (by omega),Nat.le_refl _,?_,by show (itoa (m:Int)).length≤13; omega⟩
  rw [v0,w0]; rfl
 | 1,_ =>
  obtain ⟨a,b,h1,h2,h3,h4⟩:=pt_num (k:=3) (.inl rfl) hm
  refine ⟨a,b,h1,h2,?_,by show (ptR 3 m).length≤13; omega⟩
  rw [v1,w1,Int.mul_one]
  have h5:a*1000=m*b:=h3
  have h6:((a*1000:Nat):Int)=((m*b:Nat):Int):=by rw [h5]
  rw [Int.natCast_mul,Int.natCast_mul] at h6
  exact h6
 | 2,_ =>
  obtain ⟨a,b,h1,h2,h3,h4⟩:=pt_num (k:=4) (.inr rfl) hm
  refine ⟨a,b,h1,h2,?_,by show (ptR 4 m).length≤13; omega⟩
  rw [v2,w2,Int.mul_one]
  have h5:a*10000=m*b:=h3
  have h6:((a*10000:Nat):Int)=((m*b:Nat):Int):=by rw [h5]
  rw [Int.natCast_mul,Int.natCast_mul] at h6
  exact h6
 | 3,_=>exact quo_num (.inl rfl) hm
 | 4,_=>exact quo_num (.inr rfl) hm
theorem sgT_mn (n:Int):sgT n=mnT (decide (n < 0)):=by
 unfold sgT mnT
 by_cases h:n < 0
 ·rw [if_pos h,decide_eq_true h]; rfl
 ·rw [if_neg h,decide_eq_false h]; rfl
theorem rng_small {n:Int} (h:-100000≤n∧n≤100000):rangeB (itoa n)=true:=by
 unfold rangeB
 rw [(rng_itoa n).1,(rng_itoa n).2]
 exact decide_eq_true (by omega)
theorem rq_eq_itoa {x:List UInt8} {n:Int} (h:Rq x n 1):x=itoa n:=h.1.trans (Rq.itoa n).1.symm
theorem read_back {n:Int} {u:Nat} (hu:u≤4) (h:-100000≤n∧n≤100000):parR (sgT n++lenT u n.natAbs++[32]++wT u)=(n,0)∧(sgT n++lenT u n.natAbs++[32]++wT u).length≤30:=by
 obtain ⟨a,b,h1,h2,h3,h4⟩:=lenT_num hu (m:=n.natAbs) (by omega)
 obtain ⟨_,_,_,_,hd,_⟩:=vT_ok u hu
 have hw:=wT_len u
 have hs:(sgT n).length≤1:=by
  unfold sgT
  split <;> simp
 have hl:(sgT n++lenT u n.natAbs++[32]++wT u).length≤30:=by
  rw [List.length_append,List.length_append,List.length_append,List.length_singleton]; omega
 refine ⟨?_,hl⟩
 have hx:Rq (mulX (lowT (bif decide (n < 0) then -(a:Int) else a) b) (vT u)) n 1:=by
  refine mulX_eq (by omega) (by omega) (by omega) Int.gcd_one ?_
  rw [Int.mul_one]
  by_cases hn:n < 0
  ·rw [decide_eq_true hn,cond_true,Int.neg_mul,h3,show ((n.natAbs:Nat):Int)=-n by omega,Int.neg_mul,Int.neg_neg]
  ·rw [decide_eq_false hn,cond_false,h3,show ((n.natAbs:Nat):Int)=n by omega]
 rw [sgT_mn] at hl ⊢
 have he:=exR_mk h1 (decide (n < 0)) (wT_unit u hu) (by omega)
 rw [rq_eq_itoa hx,rng_small h,cond_true] at he
 unfold parR
 rw [he,if_neg (by simp)]
 unfold intR
 rw [(rng_itoa n).2,(rng_itoa n).1,if_pos rfl]
noncomputable abbrev negK (F G:List UInt8) (n:Int):Option Unit:=brK (decide (n < 0)) (brK (decide (1+G.length < 4611686018427387904)) (brK (!(F == 45 :: G)) none awK) none) awK
noncomputable abbrev zerK (F G:List UInt8) (n:Int):Option Unit:=brK (n == 0) (brK (!(G == F)) none (negK F G n)) (negK F G n)
noncomputable abbrev posK (F G:List UInt8) (n:Int):Option Unit:=brK (decide (n > 0)) (brK (decide (1+F.length < 4611686018427387904)) (brK (!(G == 45 :: F)) none (zerK F G n)) none) (zerK F G n)
noncomputable abbrev retK (n:Int) (F:List UInt8) (e:Int) (P:Int × Int) (G:List UInt8) (f:Int) (w:List UInt8) (g:Int):Option Unit :=
 brK (szOK F) (brK (W (W (W (e+P.2)+f)+g) != 0) none (brK (P.1 != n) none (brK (decide (1+w.length < 4611686018427387904)) (brK (decide ((F.length:Int) ≥ (w.length:Int)+1))
  (brK (true && decide (0≤W ((F.length:Int) - ((w.length:Int)+1))∧W ((F.length:Int) - ((w.length:Int)+1))≤(F.length:Int))) (brK (!((F.take F.length).drop (W ((F.length:Int) - ((w.length:Int)+1))).toNat == 32 :: w)) none (posK F G n)) none) none) none))) none
theorem law9 (n u:Int):(runK prog pLw 60).call 9 [.sint .i64 n,.rng .u8 u 0 255] (Bg 8) goodK =
  brK (decide (n < -100000)) awK (brK (decide (n > 100000)) awK (retK n (fmR n (u.tmod 5)).1 (fmR n (u.tmod 5)).2 (parR (fmR n (u.tmod 5)).1) (fmR (W (0 - n)) (u.tmod 5)).1 (fmR (W (0 - n)) (u.tmod 5)).2 (woR (u.tmod 5)).1 (woR (u.tmod 5)).2)):=by kernel_rfl
theorem fm_mid {n:Int} {u:Nat} (hu:u≤4) (h:-100000≤n∧n≤100000):fmR n (u:Int)=(sgT n++lenT u n.natAbs++[32]++wT u,0):=by
 unfold fmR
 rw [if_neg (by omega),if_neg (by omega),Int.toNat_natCast]
theorem retK_eq {n:Int} {u:Nat} (hu:u≤4) (h:-100000≤n∧n≤100000) :
  retK n (fmR n u).1 (fmR n u).2 (parR (fmR n u).1) (fmR (W (0 - n)) u).1 (fmR (W (0 - n)) u).2 (woR u).1 (woR u).2=some ():=by
 have e0:W (0 - n)=-n:=by rw [W_id (by omega) (by omega)]; omega
 have hw:woR (u:Int)=(wT u,0):=by
  unfold woR
  rw [if_neg (by omega),Int.toNat_natCast]
 obtain ⟨r1,r2⟩:=read_back hu h
 obtain ⟨_,r3⟩:=read_back (n:=-n) hu (by omega)
 rw [e0,fm_mid hu h,fm_mid hu (n:=-n) (by omega),hw]
 dsimp only
 rw [r1]
 have hab:(-n).natAbs=n.natAbs:=Int.natAbs_neg n
 rw [hab] at r3 ⊢
 have hsplit:sgT n++lenT u n.natAbs++[32]++wT u=(sgT n++lenT u n.natAbs)++32 :: wT u:=by rw [List.append_assoc _ [32] (wT u)]; rfl
 have hlen:((sgT n++lenT u n.natAbs++[32]++wT u).length:Int) - (((wT u).length:Int)+1)=((sgT n++lenT u n.natAbs).length:Int):=by
  rw [hsplit,List.length_append,List.length_cons]; omega
 have hle:(sgT n++lenT u n.natAbs).length≤30:=by
  rw [hsplit,List.length_append] at r2; omega
 have hwl:=wT_len u
 have hd:((sgT n++lenT u n.natAbs++[32]++wT u).take (sgT n++lenT u n.natAbs++[32]++wT u).length).drop (sgT n++lenT u n.natAbs).length=32 :: wT u:=by
  rw [List.take_length,hsplit,List.drop_left' rfl]
 have hfin:posK (sgT n++lenT u n.natAbs++[32]++wT u) (sgT (-n)++lenT u n.natAbs++[32]++wT u) n=some ():=by
  unfold posK zerK negK
  rw [awK_eq,decide_eq_true (show 1+(sgT n++lenT u n.natAbs++[(32:UInt8)]++wT u).length < 4611686018427387904 by omega),decide_eq_true (show 1+(sgT (-n)++lenT u n.natAbs++[(32:UInt8)]++wT u).length < 4611686018427387904 by omega)]
  by_cases h1:n > 0
  ·have s1:sgT n=[]:=by unfold sgT; rw [if_neg (by omega)]
   have s2:sgT (-n)=[45]:=by unfold sgT; rw [if_pos (by omega)]
   rw [s1,s2,decide_eq_true h1,decide_eq_false (show ¬ n < 0 by omega),show (n == 0)=false by rw [beq_eq_false_iff_ne]; omega]
   simp [brK]
  ·by_cases h2:n=0
   ·subst h2
    rw [show sgT (-0)=sgT 0 from rfl]
    simp [brK]
   ·have s1:sgT n=[45]:=by unfold sgT; rw [if_pos (by omega)]
    have s2:sgT (-n)=[]:=by unfold sgT; rw [if_neg (by omega)]
    rw [s1,s2,decide_eq_false h1,decide_eq_true (show n < 0 by omega),show (n == 0)=false by rw [beq_eq_false_iff_ne]; exact h2]
    simp [brK]
 unfold retK
 rw [hlen,W_id (n:=((sgT n++lenT u n.natAbs).length:Int)) (by omega) (by omega),Int.toNat_natCast,hd,hfin,show szOK (sgT n++lenT u n.natAbs++[32]++wT u)=true from decide_eq_true (by omega),
  decide_eq_true (show 1+(wT u).length < 4611686018427387904 by omega),decide_eq_true (show ((sgT n++lenT u n.natAbs++[(32:UInt8)]++wT u).length:Int) ≥ ((wT u).length:Int)+1 by omega),decide_eq_true (show 0≤((sgT n++lenT u n.natAbs).length:Int)∧((sgT n++lenT u n.natAbs).length:Int)≤((sgT n++lenT u n.natAbs++[(32:UInt8)]++wT u).length:Int) by omega),
  show (W (W (W (0+0)+0)+0) != 0)=false from rfl,show (n != n)=false by simp]
 simp [brK]
theorem unitsReturns (n u:Int) (h0:0≤u) (h1:u≤255) (W:World) (hG:prog.globals.size≤W.heap.size) (hT:Tab (ambOf W)) (hE:TabE (ambOf W)) :
  Calls prog 9 #[.int .i64 n,.int .u8 u] W fun e W'=>e=.returned (.bool true)∧RowKit.Below W.heap.size W W':=by
 refine law_of_K hmix hnum (pLw_ok hT hE hG) hG (n:=60) (args:=[.sint .i64 n,.rng .u8 u 0 255]) ?_ rfl (iotaG 8) _ ?_
 ·rw [gsz]
  refine (law9 _ _).trans ?_
  by_cases h:n < -100000
  ·rw [decide_eq_true h,brK_t]; exact awK_eq
  ·rw [decide_eq_false h,brK_f]
   by_cases h2:n > 100000
   ·rw [decide_eq_true h2,brK_t]; exact awK_eq
   ·rw [decide_eq_false h2,brK_f]
    obtain ⟨v,rfl⟩:=Int.eq_ofNat_of_zero_le h0
    have e:((v:Nat):Int).tmod 5=((v % 5:Nat):Int):=rfl
    rw [e]
    exact retK_eq (by omega) (by omega)
 ·simp only [VRL,VR]
  exact ⟨_,_,rfl,rfl,_,_,rfl,⟨rfl,h0,h1⟩,rfl⟩
end Go.Proofs.Tryz
namespace Go.Proofs.Tryz
open Go.Ad
open Go.Lib (decDigits itoa nDigits decFrom digitVal parseUint10 parseMag atoiAll)
def TabR (A:Amb):Prop:=∀ w:World,(∀ c,c < A.G→w.heap[c]?=A.base c)→∃ tp p,w.cell? ⟨3,0,none⟩=some (.iface tp p)
theorem tabR_of {W:World} {a b c d:String × DataW Unit} {n:String} {x:DataW Unit} {r:List (String × DataW Unit)} (hG:prog.globals.size≤W.heap.size) (h:laidMet prog (a :: b :: c :: d :: ("strconv.ErrRange",.iface n x) :: r) W):TabR (ambOf W):=fun w hw=>by
 obtain ⟨tp,p,hc⟩:=iface_of_head (g:=3) (t:=90) (ms:=#[("Error",129)]) (by kernel_rfl) (by kernel_rfl) (by kernel_rfl) (laidVars_tail (laidVars_tail (laidVars_tail (laidVars_tail h))))
 have h2:3 < W.heap.size:=Nat.lt_of_lt_of_le (by rw [gsz]; omega) hG
 refine ⟨tp,p,?_⟩
 have e2:w.heap[3]?=W.heap[3]?:=hw 3 h2
 unfold World.cell? at hc ⊢
 rw [← hc]
 simp only [e2]
def gAtoiA:List AV→Tr AV
 | [x]=>match sstr? x with
  | some s=>.br (decide (s.length≤1000000)) (.br (aOk s) (.leaf (.tuple [.sint .i64 (aVal s),.nilIface])) (.leaf (.tuple [.bad,.iface 165 .bad]))) .fail
  | none=>.fail
 | _=>.fail
noncomputable def pS0:Prims:=pU3.addt 62 gAtoiA
theorem pS0_ok {A:Amb} (hT:Tab A) (hE:TabE A) (hR:TabR A) (hG:prog.globals.size≤A.G):PrimOK prog A pS0:=by
 refine PrimOK.libt (pU3_ok hT hG) func62 (by kernel_rfl) ?_
 intro args v hg ι w xs hamb _ hx
 have key:∀ (b1:ByteArray) (n:Int),b1.data.toList.length≤1000000→Lib.atoiAll b1.data.toList=.ok n→xs=#[.string b1] →
   Calls prog 62 xs w fun e w'=>∃ v',e=.returned v'∧v'=.tuple #[.int .i64 n,.nilIface]∧Quiet w w':=fun b1 n h1 h2 e1=>by
  subst e1
  have hl1:b1.data.toList.length=b1.size:=by simp
  refine (Any.strconv_Atoi_ok Tryz.laysC172 b1 (by omega) n h2 w).mono fun e w' ⟨h1',h2'⟩=>?_
  subst h1'
  refine ⟨_,rfl,rfl,?_⟩
  rcases h2' with rfl | ⟨t,rfl⟩
  ·exact Quiet.refl _
  ·have hb:=Go.Joins.below_bytesWorld w.heap.size w (Tryz.laysC172_ren.t 5) t (Nat.le_refl _)
   exact ⟨hb.size,hb.block,hb.tape,hb.os,hb.output⟩
 have keyE:∀ (b1:ByteArray),b1.data.toList.length≤1000000→aOk b1.data.toList=false→xs=#[.string b1] →
   Calls prog 62 xs w fun e w'=>∃ v',e=.returned v'∧(∃ x y,v'=.tuple #[x,.iface 165 y])∧Quiet w w':=fun b1 h1 h2 e1=>by
  subst e1
  have hl1:b1.data.toList.length=b1.size:=by simp
  unfold aOk at h2
  cases hh:Lib.atoiAll b1.data.toList with
  | ok v=>rw [hh] at h2; cases h2
  | range =>
   obtain ⟨tp,p,hcell⟩:=hR w hamb
   refine (Any.strconv_Atoi_range Tryz.laysC172 b1 (by omega) hh (.iface tp p) w hcell (.inr ⟨tp,p,rfl⟩)).mono fun e w' ⟨N,h1',_,_,hb⟩=>?_
   subst h1'
   exact ⟨_,rfl,⟨_,_,rfl⟩,⟨hb.size,hb.block,hb.tape,hb.os,hb.output⟩⟩
  | _ =>
   obtain ⟨tp,p,hcell⟩:=hE w hamb
   refine (Any.strconv_Atoi_syntax Tryz.laysC172 b1 (by omega) hh (.iface tp p) w hcell (.inr ⟨tp,p,rfl⟩)).mono fun e w' ⟨N,h1',_,_,hb⟩=>?_
   subst h1'
   exact ⟨_,rfl,⟨_,_,rfl⟩,⟨hb.size,hb.block,hb.tape,hb.os,hb.output⟩⟩
 unfold gAtoiA at hg
 split at hg
 ·rename_i x
  split at hg
  ·rename_i s hs
   obtain ⟨h1,h2⟩:=Tr.br_get0 hg
   rw [decide_eq_true_eq] at h1
   simp only [VRL] at hx
   obtain ⟨_,_,hxs,q1,rfl⟩:=hx
   obtain ⟨b1,rfl,rfl⟩:=sstr_VR hs q1
   have hsy:(∃ n,Lib.atoiAll b1.data.toList=.ok n∧aOk b1.data.toList=true∧aVal b1.data.toList=n) ∨ aOk b1.data.toList=false:=by
    unfold aOk aVal
    cases Lib.atoiAll b1.data.toList <;> simp
   rcases hsy with ⟨n,hn,e1,e2⟩ | e1
   ·rw [e1,e2] at h2
    simp only [Tr.get,Option.some.injEq] at h2
    subst h2
    refine (key b1 n h1 hn (arr1 hxs)).mono fun e w' ⟨v',q1,q2,q3⟩=>⟨v',q1,?_,q3⟩
    subst q2
    simp only [VR,VRL]
    exact ⟨_,rfl,_,_,rfl,rfl,_,_,rfl,rfl,rfl⟩
   ·rw [e1] at h2
    simp only [Tr.get,Option.some.injEq] at h2
    subst h2
    refine (keyE b1 h1 e1 (arr1 hxs)).mono fun e w' ⟨v',q1,q2,q3⟩=>⟨v',q1,?_,q3⟩
    obtain ⟨x,y,rfl⟩:=q2
    simp only [VR,VRL]
    exact ⟨_,rfl,_,_,rfl,trivial,_,_,rfl,⟨y,rfl,trivial⟩,rfl⟩
  ·cases hg
 ·cases hg
theorem runS40 (x:List UInt8):(runK prog pS0 60).call 40 (spS1.rho [.s x]) (spS1.heap [.s x]) (finQ spI2 8 []) =
  brK (decide (x.length≤1000000)) (brK (aOk x) (some [.i (aVal x),.i 0]) (some [.i 0,.i 14])) none:=by kernel_rfl
theorem runS41 (x:List UInt8):(runK prog pSm2 60).call 41 (spS1.rho [.s x]) (spS1.heap [.s x]) (finQ spI2 8 []) =
  brK (szOK x) (brK (!(cutR x).2.1 == [49]) (some [.i 0,.i 14]) (brK (propB (isZ (cutR x).1∧(dvalZ (cutR x).1).natAbs < 10 ^ 18)) (some [.i (dvalZ (cutR x).1),.i 0]) none)) none:=by kernel_rfl
theorem par_none:∀ (s r:List UInt8) (acc u:Nat),s.all isDg=true→parseUint10 acc (s++47 :: r) ≠ .ok u
 | [],r,acc,u,_=>fun h=>by
  change parseUint10 acc (47 :: r)=_ at h
  unfold parseUint10 at h
  rw [if_neg (by decide)] at h
  cases h
 | c :: s,r,acc,u,h=>fun h2=>by
  rw [List.all_cons,Bool.and_eq_true] at h
  change parseUint10 acc (c :: (s++47 :: r))=_ at h2
  unfold parseUint10 at h2
  split at h2
  ·split at h2
   ·cases h2
   ·split at h2
    ·cases h2
    ·exact par_none s r _ u h.2 h2
  ·cases h2
theorem aOk_rat (n:Int) (r:List UInt8):aOk (itoa n++47 :: r)=false:=by
 have hm:∀ u,parseMag (decDigits n.natAbs++47 :: r) ≠ .ok u:=fun u h=>by
  unfold parseMag at h
  rw [if_neg (by simp)] at h
  exact par_none _ _ _ _ (dec_all _) h
 have key:∀ v,atoiAll (itoa n++47 :: r) ≠ .ok v:=fun v h=>by
  by_cases hn:n < 0
  ·have e:itoa n=45 :: decDigits n.natAbs:=by unfold itoa; rw [if_pos hn]
   rw [e] at h
   change atoiAll (45 :: (decDigits n.natAbs++47 :: r))=_ at h
   unfold atoiAll at h
   simp only [show (45:UInt8).toNat=45 from rfl] at h
   rw [if_pos (Or.inr trivial)] at h
   split at h
   ·cases h
   ·cases h
   ·rename_i u hu
    exact hm u hu
  ·have e:itoa n=decDigits n.natAbs:=by unfold itoa; rw [if_neg hn,show n.toNat=n.natAbs by omega]
   rw [e] at h
   obtain ⟨c,q,hcr,c1,c2⟩:=dec_cons n.natAbs
   rw [hcr] at hm h
   change atoiAll (c :: (q++47 :: r))=_ at h
   unfold atoiAll at h
   simp only at h
   rw [if_neg (by omega)] at h
   split at h
   ·cases h
   ·cases h
   ·rename_i u hu
    exact hm u hu
 unfold aOk
 split
 ·rename_i v hv
  exact (key v hv).elim
 ·rfl
def smJ (x:List UInt8):Prop:=smQ x∧(ratD x=1→(ratN x).natAbs < 10 ^ 18)
noncomputable def TIJ:List Lf→Tr (SP × List Lf)
 | [.s x]=>.br (propB (smJ x)) (.leaf (spI2,[.i (intR x).1,.i (intR x).2])) .fail
 | _=>.fail
noncomputable def pS1:Prims:=(pL1.addh 40 (liftG 8 (funQ spS1 8 [] TIJ))).addh 41 (liftG 8 (funQ spS1 8 [] TIJ))
section
variable {A:Amb} (hT:Tab A) (hE:TabE A) (hR:TabR A) (hG:prog.globals.size≤A.G)
include hT hE hR hG
theorem pS1_ok:PrimOK prog A pS1:=by
 have hp:=pS0_ok hT hE hR hG
 refine ((pL1_ok hT hE hG).addl gsz func40 (by kernel_rfl) (funQ_ok hmix hnum rfl fun ls sq l h=>?_)).addl gsz func41 (by kernel_rfl) (funQ_ok hmix hnum rfl fun ls sq l h=>?_)
 ·unfold TIJ at h
  split at h
  ·rename_i x
   obtain ⟨hc,hv⟩:=Tr.br1 h
   cases hv
   obtain ⟨h1,h2⟩:=propB_eq hc
   refine ⟨fr8 rfl rfl,rfl,pS0,60,_,hp,(runS40 x).trans ?_,fun _ _=>.refl⟩
   have hlen:x.length≤1000000:=by
    have hr:=ratT_len (N:=ratN x) (D:=ratD x) h1.2.2.1 h1.2.2.2
    rw [← ratT_of2 h1] at hr
    omega
   rw [decide_eq_true hlen,brK_t]
   unfold intR
   by_cases hd:ratD x=1
   ·have hx:x=itoa (ratN x):=rq_eq_itoa (by have:=Rq.of h1; rwa [hd] at this)
    have ha:=atoiAll_itoa (h2 hd)
    rw [← hx] at ha
    rw [if_pos hd,show aOk x=true by unfold aOk; rw [ha],show aVal x=ratN x by unfold aVal; rw [ha]]
    rfl
   ·have hx:x=itoa (ratN x)++47 :: itoa (ratD x):=by
     have h3:=ratT_of2 h1
     unfold ratT at h3
     have hne:(itoa (ratD x) == [49])=false:=by
      rw [beq_eq_false_iff_ne,← itoa_1]
      exact fun e=>hd (itoa_inj e)
     rw [hne,cond_false,List.append_assoc] at h3
     exact h3
    rw [if_neg hd]
    have ha:=aOk_rat (ratN x) (itoa (ratD x))
    rw [← hx] at ha
    rw [ha]; rfl
  ·cases h
 ·unfold TIJ at h
  split at h
  ·rename_i x
   obtain ⟨hc,hv⟩:=Tr.br1 h
   cases hv
   obtain ⟨h1,h2⟩:=propB_eq hc
   refine ⟨fr8 rfl rfl,rfl,pSm2,60,_,pSm2_ok hT hE hG,(runS41 x).trans ?_,fun _ _=>.refl⟩
   obtain ⟨z1,z2,z3⟩:=smQ_parts h1
   rw [szH_sz h1.2.1]
   unfold intR
   by_cases hd:ratD x=1
   ·have e:(cutR x).2.1=[49]:=by
     rw [z2,show dvalZ (cutR x).2.1=1 from hd,itoa_1]
    rw [if_pos hd,show (!(cutR x).2.1 == [49])=false by rw [e]; rfl,propB_true ⟨z1,h2 hd⟩]; rfl
   ·have e:(cutR x).2.1 ≠ [49]:=fun e=>by
     rw [e] at z2
     apply hd
     unfold ratD
     rw [e]; decide
    rw [if_neg hd,show (!(cutR x).2.1 == [49])=true by simpa using e]; rfl
  ·cases h
end
end Go.Proofs.Tryz
namespace Go.Proofs.Tryz
open Go.Ad
open Go.Lib (decDigits itoa nDigits decFrom digitVal)
def rowS (s:List UInt8):List AV:=[.sstr s]
def rowsS (L:List (List UInt8)):Nat→List AV:=fun i=>rowS (L.getD i [])
def strOf:List AV→List UInt8
 | [.sstr s]=>s
 | _=>[]
def strsOf (n:Nat) (f:Nat→List AV):List (List UInt8):=(List.range n).map fun i=>strOf (f i)
def isStrs (n:Nat) (f:Nat→List AV):Prop:=f=rowsS (strsOf n f)∧∀ s,s ∈ strsOf n f→szOK s=true
theorem strsOf_len (n:Nat) (f:Nat→List AV):(strsOf n f).length=n:=by simp [strsOf]
theorem strsOf_rows (L:List (List UInt8)):strsOf L.length (rowsS L)=L:=by
 apply List.ext_getElem?
 intro i
 unfold strsOf
 by_cases h:i < L.length
 ·rw [List.getElem?_map,List.getElem?_range h,List.getElem?_eq_getElem h]
  show some (L.getD i [])=_
  rw [List.getD_eq_getElem?_getD,List.getElem?_eq_getElem h]; rfl
 ·rw [List.getElem?_eq_none (by simp; omega),List.getElem?_eq_none (by omega)]
theorem isStrs_rows {L:List (List UInt8)} (h:∀ s,s ∈ L→szOK s=true):isStrs L.length (rowsS L):=by
 unfold isStrs
 rw [strsOf_rows]
 exact ⟨rfl,h⟩
def addT (x y:List UInt8):List UInt8:=lowT (ratN x*ratD y+ratN y*ratD x) (ratD x*ratD y)
def sumL:List (List UInt8)→List UInt8→List UInt8 ⊕ Int
 | [],x=>.inl x
 | s :: r,x=>if (exR s).2 ≠ 0 then .inr (exR s).2 else sumL r (addT x (exR s).1)
def sumOK:List (List UInt8)→List UInt8→Prop
 | [],x=>smQ x
 | s :: r,x=>smQ x∧((exR s).2=0→smQ (exR s).1∧sumOK r (addT x (exR s).1))
theorem sumL_sm:∀ {L:List (List UInt8)} {x y:List UInt8},sumOK L x→sumL L x=.inl y→smQ y
 | [],x,y,h,h2=>by cases h2; exact h
 | s :: r,x,y,h,h2=>by
  unfold sumL at h2
  by_cases h0:(exR s).2=0
  ·rw [if_neg (by simpa using h0)] at h2
   exact sumL_sm (h.2 h0).2 h2
  ·rw [if_pos h0] at h2; cases h2
noncomputable def treeS (n:Nat) (i:Int) (s x:List UInt8) (lf:List UInt8→Int→List Lf) (lfe:List UInt8→List Lf) (lfr:Int→List Lf):Option (AEx × List Lf) :=
 brK (decide (i < (n:Int))) (brK (decide (0≤i∧i < (n:Int))) (brK (decide (0+i.toNat < n)) (brK (szOK s) (brK ((exR s).2 != 0) (some (.ret,lfr (exR s).2)) (brK (propB (smQ x∧smQ (exR s).1∧True)) (some (.normal,lf (addT x (exR s).1) (W (i+1)))) none)) none) none) none) (some (.exit 0,lfe x))
noncomputable def code22:Code:=f22.body.getD .skip
noncomputable def body22:Code:=unLoop (findB 0 code22)
noncomputable def code23:Code:=f23.body.getD .skip
noncomputable def body23:Code:=unLoop (findB 0 code23)
def sp22:SP:=⟨dr 4++[.str]++dr 7++[.list 8,.int .i64,.int .i64]++dr 27,dd8++[.vecT 1]⟩
def sp22e:SP:=⟨dr 4++[.str]++dr 37,dd8++[.vecT 1]⟩
def sp22r:SP:=⟨dr 2++[.int .i64,.int .i64]++dr 38,dd8++[.vecT 1]⟩
def spx22:AEx→SP
 | .ret=>sp22r
 | .normal=>sp22
 | .exit _=>sp22e
def sp23:SP:=⟨[.list 8]++dr 3++[.str,.int .i64]++dr 32,dd8++[.vecT 1]⟩
def sp23e:SP:=⟨dr 4++[.str]++dr 33,dd8++[.vecT 1]⟩
def sp23r:SP:=⟨dr 2++[.int .i64,.int .i64]++dr 34,dd8++[.vecT 1]⟩
def spx23:AEx→SP
 | .ret=>sp23r
 | .normal=>sp23
 | .exit _=>sp23e
def lf22 (n:Nat) (r:Nat→List AV) (ty:Nat) (x:List UInt8) (i:Int):List Lf:=[.s x,.n n,.i n,.i i,.n n,.r r,.n ty]
def lf23 (n:Nat) (r:Nat→List AV) (ty:Nat) (x:List UInt8) (i:Int):List Lf:=[.n n,.s x,.i i,.n n,.r r,.n ty]
def lfSe (n:Nat) (r:Nat→List AV) (ty:Nat) (x:List UInt8):List Lf:=[.s x,.n n,.r r,.n ty]
def lfSr (n:Nat) (r:Nat→List AV) (ty:Nat) (e:Int):List Lf:=[.i 0,.i e,.n n,.r r,.n ty]
theorem round22 (n ty:Nat) (r:Nat→List UInt8) (x:List UInt8) (i:Int):execK prog (runK prog pS1 60) noBps body22 (sp22.rho (lf22 n (fun i=>rowS (r i)) ty x i)) (sp22.heap (lf22 n (fun i=>rowS (r i)) ty x i)) (nrmP spx22 9 []) =
  treeS n i (r (0+i.toNat)) x (lf22 n (fun i=>rowS (r i)) ty) (lfSe n (fun i=>rowS (r i)) ty) (lfSr n (fun i=>rowS (r i)) ty):=by kernel_rfl
theorem round23 (n ty:Nat) (r:Nat→List UInt8) (x:List UInt8) (i:Int):execK prog (runK prog pS1 60) noBps body23 (sp23.rho (lf23 n (fun i=>rowS (r i)) ty x i)) (sp23.heap (lf23 n (fun i=>rowS (r i)) ty x i)) (nrmP spx23 9 []) =
  treeS n i (r (0+i.toNat)) x (lf23 n (fun i=>rowS (r i)) ty) (lfSe n (fun i=>rowS (r i)) ty) (lfSr n (fun i=>rowS (r i)) ty):=by kernel_rfl
theorem sum_loop {A:Amb} {prims:Prims} (hp:PrimOK prog A prims) {body:Code} {spx:AEx→SP} {lf:List UInt8→Int→List Lf} {lfe:List UInt8→List Lf} {lfr:Int→List Lf} {L:List (List UInt8)}
  (hr:∀ (x:List UInt8) (i:Int),execK prog (runK prog prims 60) noBps body ((spx .normal).rho (lf x i)) ((spx .normal).heap (lf x i)) (nrmP spx 9 [])=treeS L.length i (L.getD (0+i.toNat) []) x lf lfe lfr)
  (hok:∀ e,okD 9 [] 0 (spx e).h=true) (hn:L.length < 2 ^ 62) (hz:∀ s,s ∈ L→szOK s=true) (h:sumOK L [48]) {Bb:Heap} (hB:Bb.length=9) :
  (∀ y,sumL L [48]=.inl y→SEB prog A Bb (.loop body) ⟨(spx .normal).rho (lf [48] (0:Nat)),(spx .normal).heap (lf [48] (0:Nat)),[]⟩ (.exit 0) ⟨(spx (.exit 0)).rho (lfe y),(spx (.exit 0)).heap (lfe y),[]⟩) ∧
  ∀ e,sumL L [48]=.inr e→SEB prog A Bb (.loop body) ⟨(spx .normal).rho (lf [48] (0:Nat)),(spx .normal).heap (lf [48] (0:Nat)),[]⟩ .ret ⟨(spx .ret).rho (lfr e),(spx .ret).heap (lfr e),[]⟩:=by
 have main:∀ (k j:Nat) (x:List UInt8),L.length - j=k→j≤L.length→sumOK (L.drop j) x →
   (∀ y,sumL (L.drop j) x=.inl y→SEB prog A Bb (.loop body) ⟨(spx .normal).rho (lf x j),(spx .normal).heap (lf x j),[]⟩ (.exit 0) ⟨(spx (.exit 0)).rho (lfe y),(spx (.exit 0)).heap (lfe y),[]⟩) ∧
   ∀ e,sumL (L.drop j) x=.inr e→SEB prog A Bb (.loop body) ⟨(spx .normal).rho (lf x j),(spx .normal).heap (lf x j),[]⟩ .ret ⟨(spx .ret).rho (lfr e),(spx .ret).heap (lfr e),[]⟩:=by
  intro k
  induction k with
  | zero =>
   intro j x hk hj ho
   have hj2:j=L.length:=by omega
   subst hj2
   rw [List.drop_length]
   have hk:=hr x L.length
   unfold treeS at hk
   rw [decide_eq_false (show ¬ (L.length:Int) < (L.length:Int) by omega),brK_f] at hk
   refine ⟨fun y hy=>?_,fun e he=>by cases he⟩
   cases hy
   exact SEB.loop_exit (SEB.of_KP (A:=A) (B0:=Bb) (e:=.exit 0) hmix hnum hp (.none _) hB hk (hok _)) (by simp)
  | succ k ih =>
   intro j x hk hj ho
   have hlt:j < L.length:=by omega
   obtain ⟨t,M,hd⟩:∃ t M,L.drop j=t :: M:=⟨L[j],L.drop (j+1),List.drop_eq_getElem_cons hlt⟩
   have ht:L.getD (0+(j:Int).toNat) []=t:=by
    rw [Int.toNat_natCast,Nat.zero_add]
    have:L[j]?=some t:=by
     have h0:(L.drop j)[0]?=some t:=by rw [hd]; rfl
     rwa [List.getElem?_drop,Nat.add_zero] at h0
    rw [List.getD_eq_getElem?_getD,this]; rfl
   have hM:L.drop (j+1)=M:=by
    have:(L.drop j).drop 1=M:=by rw [hd]; rfl
    rwa [List.drop_drop] at this
   have htm:t ∈ L:=by
    have:t ∈ L.drop j:=by rw [hd]; exact List.mem_cons_self ..
    exact List.mem_of_mem_drop this
   have hk2:=hr x j
   rw [ht] at hk2
   rw [hd] at ho ⊢
   unfold treeS at hk2
   rw [Int.toNat_natCast,decide_eq_true (show (j:Int) < (L.length:Int) by omega),decide_eq_true (show 0≤(j:Int)∧(j:Int) < (L.length:Int) by omega),decide_eq_true (show 0+j < L.length by omega),hz t htm,brK_t,brK_t,brK_t,brK_t] at hk2
   unfold sumL
   by_cases h0:(exR t).2=0
   ·obtain ⟨o1,o2⟩:=ho.2 h0
    rw [if_neg (by simpa using h0)]
    rw [show ((exR t).2 != 0)=false by simpa using h0,brK_f,propB_true ⟨ho.1,o1,trivial⟩,brK_t,show W ((j:Int)+1)=((j+1:Nat):Int) by rw [W_id (by omega) (by omega)]; omega] at hk2
    have hs:=SEB.of_KP (A:=A) (B0:=Bb) (e:=.normal) hmix hnum hp (.none _) hB hk2 (hok _)
    have:=ih (j+1) (addT x (exR t).1) (by omega) (by omega) (by rw [hM]; exact o2)
    rw [hM] at this
    exact ⟨fun y hy=>SEB.loop_next hs (this.1 y hy),fun e he=>SEB.loop_next hs (this.2 e he)⟩
   ·rw [if_pos h0]
    rw [show ((exR t).2 != 0)=true by simpa using h0,brK_t] at hk2
    refine ⟨fun y hy=>(by cases hy),fun e he=>?_⟩
    cases he
    exact SEB.loop_exit (SEB.of_KP (A:=A) (B0:=Bb) (e:=.ret) hmix hnum hp (.none _) hB hk2 (hok _)) (by simp)
 exact main L.length 0 [48] (by omega) (by omega) h
def sumB (L:List (List UInt8)):Bool:=match sumL L [48] with | .inl _=>true | .inr _=>false
def sumX (L:List (List UInt8)):List UInt8:=match sumL L [48] with | .inl x=>x | .inr _=>[]
def sumE (L:List (List UInt8)):Int:=match sumL L [48] with | .inl _=>0 | .inr e=>e
noncomputable def trS (spx:AEx→SP) (n:Nat) (f:Nat→List AV) (ty:Nat) (L:List (List UInt8)):Tr (AEx × SP × List Lf) :=
 .br (sumB L) (.leaf (.normal,spx (.exit 0),lfSe n f ty (sumX L))) (.leaf (.ret,spx .ret,lfSr n f ty (sumE L)))
noncomputable def hook22:Blk:=hookP sp22 9 [] fun
 | [.s x,.n n,.i k,.i i,.n m,.r f,.n ty]=>.br (propB (x=[48]∧m=n∧k=(n:Int)∧i=0∧isStrs n f∧n < 2 ^ 62∧sumOK (strsOf n f) [48])) (trS spx22 n f ty (strsOf n f)) .fail
 | _=>.fail
noncomputable def hook23:Blk:=hookP sp23 9 [] fun
 | [.n n,.s x,.i i,.n m,.r f,.n ty]=>.br (propB (x=[48]∧m=n∧i=0∧isStrs n f∧n < 2 ^ 62∧sumOK (strsOf n f) [48])) (trS spx23 n f ty (strsOf n f)) .fail
 | _=>.fail
noncomputable def pS22:Prims:=pS1.addb 22 0 hook22
noncomputable def pS23:Prims:=pS1.addb 23 0 hook23
def sumR (L:List (List UInt8)):Int × Int:=if L.length > 256 then (0,5) else bif sumB L then (bif rangeB (sumX L) then intR (sumX L) else (0,2)) else (0,sumE L)
def okSum (L:List (List UInt8)):Prop:=L.length≤256→sumOK L [48]
def spL1:SP:=⟨[.list 8],dd8++[.vecT 1]⟩
def sqL1:SP:=⟨[.int .i64,.int .i64],dd8++[.vecT 1]⟩
def lfL (n:Nat) (f:Nat→List AV) (ty:Nat) (p:Int × Int):List Lf:=[.i p.1,.i p.2,.n n,.r f,.n ty]
noncomputable abbrev endS (n:Nat) (f:Nat→List AV) (ty:Nat) (L:List (List UInt8)):Option (List Lf) :=
 brK (sumB L) (brK (propB (smQ (sumX L))) (brK (!(rangeB (sumX L))) (some (lfL n f ty (0,2))) (brK (propB (smJ (sumX L))) (some (lfL n f ty (intR (sumX L)))) none)) none) (some (lfL n f ty (0,sumE L)))
theorem run22 (n ty:Nat) (f:Nat→List AV):(runK prog pS22 60).call 22 (spL1.rho [.n n,.n n,.r f,.n ty]) (spL1.heap [.n n,.n n,.r f,.n ty]) (finQ sqL1 9 []) =
  brK (decide ((n:Int) > 256)) (some (lfL n f ty (0,5))) (brK (propB (([48]:List UInt8)=[48]∧n=n∧(n:Int)=(n:Int)∧(0:Int)=0∧isStrs n f∧n < 2 ^ 62∧sumOK (strsOf n f) [48])) (endS n f ty (strsOf n f)) none):=by kernel_rfl
theorem run23 (n ty:Nat) (f:Nat→List AV):(runK prog pS23 60).call 23 (spL1.rho [.n n,.n n,.r f,.n ty]) (spL1.heap [.n n,.n n,.r f,.n ty]) (finQ sqL1 9 []) =
  brK (decide ((n:Int) > 256)) (some (lfL n f ty (0,5))) (brK (propB (([48]:List UInt8)=[48]∧n=n∧(0:Int)=0∧isStrs n f∧n < 2 ^ 62∧sumOK (strsOf n f) [48])) (endS n f ty (strsOf n f)) none):=by kernel_rfl
theorem endS_eq {n ty:Nat} {f:Nat→List AV} (hn:n≤256) (h:sumOK (strsOf n f) [48]):endS n f ty (strsOf n f)=some (lfL n f ty (sumR (strsOf n f))):=by
 unfold endS sumR
 rw [strsOf_len,if_neg (by omega)]
 cases hs:sumL (strsOf n f) [48] with
 | inr e =>
  have e1:sumB (strsOf n f)=false:=by unfold sumB; rw [hs]
  rw [e1]; rfl
 | inl x =>
  have e1:sumB (strsOf n f)=true:=by unfold sumB; rw [hs]
  have e2:sumX (strsOf n f)=x:=by unfold sumX; rw [hs]
  have hq:=sumL_sm h hs
  rw [e1,e2,propB_true hq,brK_t,brK_t,cond_true]
  cases hr:rangeB x with
  | false=>rfl
  | true =>
   have hj:smJ x:=⟨hq,fun hd=>by
    unfold rangeB at hr
    rw [decide_eq_true_eq,hd] at hr
    omega⟩
   rw [propB_true hj]; rfl
noncomputable def T22:List Lf→Tr (SP × List Lf)
 | [.n n,.n n',.r f,.n ty]=>.br (propB (n'=n∧isStrs n f∧n < 2 ^ 62∧okSum (strsOf n f))) (.leaf (sqL1,lfL n f ty (sumR (strsOf n f)))) .fail
 | _=>.fail
noncomputable def pS2:Prims:=(pS1.addh 22 (liftG 8 (funQ spL1 9 [] T22))).addh 23 (liftG 8 (funQ spL1 9 [] T22))
theorem frL (ty n:Nat) (f:Nat→List AV) (p:Int × Int):frP [] 0 (spL1.heap [.n n,.n n,.r f,.n ty]) (sqL1.heap (lfL n f ty p)):=⟨.inr rfl,.inr rfl,.inr rfl,.inr rfl,.inr rfl,.inr rfl,.inr rfl,.inr rfl,.inr rfl,trivial⟩
theorem trS_fr {spx:AEx→SP} {n:Nat} {f:Nat→List AV} {ty:Nat} {L:List (List UInt8)} {e:AEx} {sq:SP} {l:List Lf} (hv:(trS spx n f ty L).get=some (e,sq,l)) {P:AEx→SP→List Lf→Prop} (h1:∀ x,P .normal (spx (.exit 0)) (lfSe n f ty x)) (h2:∀ e,P .ret (spx .ret) (lfSr n f ty e)):P e sq l:=by
 unfold trS at hv
 cases hb:sumB L with
 | true =>
  rw [hb] at hv
  simp only [Tr.get,Option.some.injEq,Prod.mk.injEq] at hv
  obtain ⟨rfl,rfl,rfl⟩:=hv
  exact h1 _
 | false =>
  rw [hb] at hv
  simp only [Tr.get,Option.some.injEq,Prod.mk.injEq] at hv
  obtain ⟨rfl,rfl,rfl⟩:=hv
  exact h2 _
section
variable {A:Amb} (hT:Tab A) (hE:TabE A) (hR:TabR A) (hG:prog.globals.size≤A.G)
include hT hE hR hG
theorem hook_gen {body:Code} {spx:AEx→SP} {lf:List UInt8→Int→List Lf} {n:Nat} {f:Nat→List AV} {ty:Nat}
  (hr:∀ (r:Nat→List UInt8),f=(fun i=>rowS (r i))→∀ (x:List UInt8) (i:Int),execK prog (runK prog pS1 60) noBps body ((spx .normal).rho (lf x i)) ((spx .normal).heap (lf x i)) (nrmP spx 9 [])=treeS n i (r (0+i.toNat)) x lf (lfSe n f ty) (lfSr n f ty))
  (hok:∀ e,okD 9 [] 0 (spx e).h=true) (hs:isStrs n f) (hn:n < 2 ^ 62) (h:sumOK (strsOf n f) [48]) {e:AEx} {sq:SP} {l:List Lf} (hv:(trS spx n f ty (strsOf n f)).get=some (e,sq,l)) {Bb:Heap} (hB:Bb.length=9) :
  SEB prog A Bb (.block 0 (.loop body)) ⟨(spx .normal).rho (lf [48] (0:Nat)),(spx .normal).heap (lf [48] (0:Nat)),[]⟩ e ⟨sq.rho l,sq.heap l,[]⟩:=by
 have hm:=sum_loop (A:=A) (L:=strsOf n f) (lfe:=lfSe n f ty) (lfr:=lfSr n f ty) (pS1_ok hT hE hR hG) (fun x i=>by rw [strsOf_len]; exact hr (fun i=>(strsOf n f).getD i []) hs.1 x i) hok (by rw [strsOf_len]; exact hn) hs.2 h hB
 unfold trS at hv
 cases hx:sumL (strsOf n f) [48] with
 | inl x =>
  have e1:sumB (strsOf n f)=true:=by unfold sumB; rw [hx]
  have e2:sumX (strsOf n f)=x:=by unfold sumX; rw [hx]
  rw [e1,e2] at hv
  simp only [Tr.get,Option.some.injEq,Prod.mk.injEq] at hv
  obtain ⟨rfl,rfl,rfl⟩:=hv
  exact SEB.block_exit (hm.1 x hx)
 | inr e0 =>
  have e1:sumB (strsOf n f)=false:=by unfold sumB; rw [hx]
  have e2:sumE (strsOf n f)=e0:=by unfold sumE; rw [hx]
  rw [e1,e2] at hv
  simp only [Tr.get,Option.some.injEq,Prod.mk.injEq] at hv
  obtain ⟨rfl,rfl,rfl⟩:=hv
  exact SEB.block_other (hm.2 e0 hx) (by simp)
theorem pS22_ok:PrimOK prog A pS22:=by
 refine PrimOK.addbP (pS1_ok hT hE hR hG) func22 (show f22.body=some code22 by kernel_rfl) (body:=.loop body22) (by kernel_rfl) (by kernel_rfl) fun ls e sq l h=>?_
 split at h
 ·rename_i x n k i m f ty
  obtain ⟨hc,hv⟩:=Tr.br_get0 h
  obtain ⟨rfl,rfl,rfl,rfl,hs,hn,ho⟩:=propB_eq hc
  refine ⟨trS_fr hv (P:=fun _ sq l=>frP [] 0 _ (sq.heap l)) (fun _=>⟨.inr rfl,.inr rfl,.inr rfl,.inr rfl,.inr rfl,.inr rfl,.inr rfl,.inr rfl,.inr rfl,trivial⟩) fun _=>⟨.inr rfl,.inr rfl,.inr rfl,.inr rfl,.inr rfl,.inr rfl,.inr rfl,.inr rfl,.inr rfl,trivial⟩,fun Bb hB=>?_⟩
  exact hook_gen hT hE hR hG (spx:=spx22) (lf:=lf22 m f ty) (fun r hf x i=>by subst hf; exact round22 m ty r x i) (fun e=>by cases e <;> rfl) hs hn ho hv hB
 ·cases h
theorem pS23_ok:PrimOK prog A pS23:=by
 refine PrimOK.addbP (pS1_ok hT hE hR hG) func23 (show f23.body=some code23 by kernel_rfl) (body:=.loop body23) (by kernel_rfl) (by kernel_rfl) fun ls e sq l h=>?_
 split at h
 ·rename_i n x i m f ty
  obtain ⟨hc,hv⟩:=Tr.br_get0 h
  obtain ⟨rfl,rfl,rfl,hs,hn,ho⟩:=propB_eq hc
  refine ⟨trS_fr hv (P:=fun _ sq l=>frP [] 0 _ (sq.heap l)) (fun _=>⟨.inr rfl,.inr rfl,.inr rfl,.inr rfl,.inr rfl,.inr rfl,.inr rfl,.inr rfl,.inr rfl,trivial⟩) fun _=>⟨.inr rfl,.inr rfl,.inr rfl,.inr rfl,.inr rfl,.inr rfl,.inr rfl,.inr rfl,.inr rfl,trivial⟩,fun Bb hB=>?_⟩
  exact hook_gen hT hE hR hG (spx:=spx23) (lf:=lf23 m f ty) (fun r hf x i=>by subst hf; exact round23 m ty r x i) (fun e=>by cases e <;> rfl) hs hn ho hv hB
 ·cases h
theorem pS2_ok:PrimOK prog A pS2:=by
 have hx:∀ (ls:List Lf) (sq:SP) (l:List Lf),(T22 ls).get=some (sq,l)→∃ n f ty,ls=[.n n,.n n,.r f,.n ty]∧sq=sqL1∧l=lfL n f ty (sumR (strsOf n f))∧isStrs n f∧n < 2 ^ 62∧okSum (strsOf n f):=fun ls sq l h=>by
  unfold T22 at h
  split at h
  ·obtain ⟨hc,hv⟩:=Tr.br1 h
   obtain ⟨rfl,h1,h2,h3⟩:=propB_eq hc
   cases hv
   exact ⟨_,_,_,rfl,rfl,rfl,h1,h2,h3⟩
  ·cases h
 have hl:∀ n f ty,okSum (strsOf n f)→n≤256→endS n f ty (strsOf n f)=some (lfL n f ty (sumR (strsOf n f))):=fun n f ty ho hn=>endS_eq hn (ho (by rw [strsOf_len]; exact hn))
 have hg:∀ n f ty,256 < n→some (lfL n f ty (0,5))=some (lfL n f ty (sumR (strsOf n f))):=fun n f ty hn=>by
  unfold sumR
  rw [strsOf_len,if_pos hn]
 refine ((pS1_ok hT hE hR hG).addl gsz func22 (by kernel_rfl) (funQ_ok hmix hnum rfl fun ls sq l h=>?_)).addl gsz func23 (by kernel_rfl) (funQ_ok hmix hnum rfl fun ls sq l h=>?_)
 ·obtain ⟨n,f,ty,rfl,rfl,rfl,h1,h2,h3⟩:=hx ls sq l h
  refine ⟨frL _ _ _ _,rfl,pS22,60,_,pS22_ok hT hE hR hG,(run22 n ty f).trans ?_,fun _ _=>.refl⟩
  by_cases hn:n≤256
  ·rw [decide_eq_false (show ¬ (n:Int) > 256 by omega),brK_f,propB_true ⟨rfl,rfl,rfl,rfl,h1,h2,h3 (by rw [strsOf_len]; exact hn)⟩,brK_t]
   exact hl n f ty h3 hn
  ·rw [decide_eq_true (show (n:Int) > 256 by omega),brK_t]
   exact hg n f ty (by omega)
 ·obtain ⟨n,f,ty,rfl,rfl,rfl,h1,h2,h3⟩:=hx ls sq l h
  refine ⟨frL _ _ _ _,rfl,pS23,60,_,pS23_ok hT hE hR hG,(run23 n ty f).trans ?_,fun _ _=>.refl⟩
  by_cases hn:n≤256
  ·rw [decide_eq_false (show ¬ (n:Int) > 256 by omega),brK_f,propB_true ⟨rfl,rfl,rfl,h1,h2,h3 (by rw [strsOf_len]; exact hn)⟩,brK_t]
   exact hl n f ty h3 hn
  ·rw [decide_eq_true (show (n:Int) > 256 by omega),brK_t]
   exact hg n f ty (by omega)
end
end Go.Proofs.Tryz
namespace Go.Proofs.Tryz
open Go.Ad
open Go.Lib (decDigits itoa nDigits decFrom digitVal)
noncomputable def code21:Code:=f21.body.getD .skip
noncomputable def body21:Code:=unLoop (findB 0 code21)
def sp21:SP:=⟨[.list 8]++dr 2++[.int .i64]++dr 25,dd8++[.vecT 1]⟩
def sp21e:SP:=⟨dr 29,dd8++[.vecT 1]⟩
def sp21r:SP:=⟨dr 2++[.bool]++dr 26,dd8++[.vecT 1]⟩
def spx21:AEx→SP
 | .ret=>sp21r
 | .normal=>sp21
 | .exit _=>sp21e
def lf21 (n:Nat) (r:Nat→List AV) (ty:Nat) (i:Int):List Lf:=[.n n,.i i,.n n,.r r,.n ty]
noncomputable def treeFw (n:Nat) (i:Int) (s:List UInt8) (r:Nat→List AV) (ty:Nat):Option (AEx × List Lf) :=
 brK (decide (i < (n:Int))) (brK (decide (0≤i∧i < (n:Int))) (brK (decide (0+i.toNat < n)) (brK (decide ((s.length:Int) > 100)) (some (.ret,[.b false,.n n,.r r,.n ty])) (some (.normal,lf21 n r ty (W (i+1))))) none) none) (some (.exit 0,[.n n,.r r,.n ty]))
theorem round21 (n ty:Nat) (r:Nat→List UInt8) (i:Int):execK prog (runK prog pS2 60) noBps body21 (sp21.rho (lf21 n (fun i=>rowS (r i)) ty i)) (sp21.heap (lf21 n (fun i=>rowS (r i)) ty i)) (nrmP spx21 9 []) =
  treeFw n i (r (0+i.toNat)) (fun i=>rowS (r i)) ty:=by kernel_rfl
def shortL (L:List (List UInt8)):Bool:=L.all fun s=>decide (s.length≤100)
noncomputable def hook21:Blk:=hookP sp21 9 [] fun
 | [.n n,.i i,.n m,.r f,.n ty]=>.br (propB (m=n∧i=0∧isStrs n f∧n < 2 ^ 62)) (.br (shortL (strsOf n f)) (.leaf (.normal,sp21e,[.n n,.r f,.n ty])) (.leaf (.ret,sp21r,[.b false,.n n,.r f,.n ty]))) .fail
 | _=>.fail
noncomputable def pS21:Prims:=pS2.addb 21 0 hook21
def fewR (L:List (List UInt8)):Bool:=!(decide (12 < L.length∧L.length≤256 ∨ L.length > 512)) && shortL L
def sqB1:SP:=⟨[.bool],dd8++[.vecT 1]⟩
noncomputable abbrev fwK (n:Nat) (f:Nat→List AV) (ty:Nat) (b:Bool):Option (List Lf):=some [.b b,.n n,.r f,.n ty]
noncomputable abbrev fwE (n:Nat) (f:Nat→List AV) (ty:Nat) (L:List (List UInt8)):Option (List Lf) :=
 brK (propB (n=n∧(0:Int)=0∧isStrs n f∧n < 2 ^ 62)) (brK (shortL L) (fwK n f ty true) (fwK n f ty false)) none
theorem run21 (n ty:Nat) (f:Nat→List AV):(runK prog pS21 60).call 21 (spL1.rho [.n n,.n n,.r f,.n ty]) (spL1.heap [.n n,.n n,.r f,.n ty]) (finP sqB1 9 []) =
  brK (decide ((n:Int) > 12)) (brK (decide ((n:Int)≤256)) (fwK n f ty false) (brK (decide ((n:Int) > 512)) (fwK n f ty false) (fwE n f ty (strsOf n f)))) (brK (decide ((n:Int) > 512)) (fwK n f ty false) (fwE n f ty (strsOf n f))):=by kernel_rfl
noncomputable def T21:List Lf→Tr (SP × List Lf)
 | [.n n,.n n',.r f,.n ty]=>.br (propB (n'=n∧isStrs n f∧n < 2 ^ 62)) (.leaf (sqB1,[.b (fewR (strsOf n f)),.n n,.r f,.n ty])) .fail
 | _=>.fail
noncomputable def pS3:Prims:=pS2.addh 21 (liftG 8 (funP spL1 9 [] T21))
theorem few_loop {A:Amb} {prims:Prims} (hp:PrimOK prog A prims) {L:List (List UInt8)} {ty:Nat}
  (hr:∀ (i:Int),execK prog (runK prog prims 60) noBps body21 (sp21.rho (lf21 L.length (rowsS L) ty i)) (sp21.heap (lf21 L.length (rowsS L) ty i)) (nrmP spx21 9 [])=treeFw L.length i (L.getD (0+i.toNat) []) (rowsS L) ty)
  (hn:L.length < 2 ^ 62) {Bb:Heap} (hB:Bb.length=9):∀ (k j:Nat),L.length - j=k→j≤L.length →
  (shortL (L.drop j)=true→SEB prog A Bb (.loop body21) ⟨sp21.rho (lf21 L.length (rowsS L) ty j),sp21.heap (lf21 L.length (rowsS L) ty j),[]⟩ (.exit 0) ⟨sp21e.rho [.n L.length,.r (rowsS L),.n ty],sp21e.heap [.n L.length,.r (rowsS L),.n ty],[]⟩) ∧
  (shortL (L.drop j)=false→SEB prog A Bb (.loop body21) ⟨sp21.rho (lf21 L.length (rowsS L) ty j),sp21.heap (lf21 L.length (rowsS L) ty j),[]⟩ .ret ⟨sp21r.rho [.b false,.n L.length,.r (rowsS L),.n ty],sp21r.heap [.b false,.n L.length,.r (rowsS L),.n ty],[]⟩):=by
 intro k
 induction k with
 | zero =>
  intro j hk hj
  have hj2:j=L.length:=by omega
  subst hj2
  rw [List.drop_length]
  have hk:=hr L.length
  unfold treeFw at hk
  rw [decide_eq_false (show ¬ (L.length:Int) < (L.length:Int) by omega),brK_f] at hk
  exact ⟨fun _=>SEB.loop_exit (SEB.of_KP (A:=A) (B0:=Bb) (e:=.exit 0) hmix hnum hp (.none _) hB hk rfl) (by simp),fun h=>by cases h⟩
 | succ k ih =>
  intro j hk hj
  have hlt:j < L.length:=by omega
  obtain ⟨t,M,hd⟩:∃ t M,L.drop j=t :: M:=⟨L[j],L.drop (j+1),List.drop_eq_getElem_cons hlt⟩
  have ht:L.getD (0+(j:Int).toNat) []=t:=by
   rw [Int.toNat_natCast,Nat.zero_add]
   have:L[j]?=some t:=by
    have h0:(L.drop j)[0]?=some t:=by rw [hd]; rfl
    rwa [List.getElem?_drop,Nat.add_zero] at h0
   rw [List.getD_eq_getElem?_getD,this]; rfl
  have hM:L.drop (j+1)=M:=by
   have:(L.drop j).drop 1=M:=by rw [hd]; rfl
   rwa [List.drop_drop] at this
  have hk2:=hr j
  rw [ht] at hk2
  rw [hd]
  unfold treeFw at hk2
  rw [Int.toNat_natCast,decide_eq_true (show (j:Int) < (L.length:Int) by omega),decide_eq_true (show 0≤(j:Int)∧(j:Int) < (L.length:Int) by omega),decide_eq_true (show 0+j < L.length by omega),brK_t,brK_t,brK_t] at hk2
  unfold shortL
  rw [List.all_cons]
  by_cases h0:t.length≤100
  ·rw [decide_eq_false (show ¬ (t.length:Int) > 100 by omega),brK_f,show W ((j:Int)+1)=((j+1:Nat):Int) by rw [W_id (by omega) (by omega)]; omega] at hk2
   have hs:=SEB.of_KP (A:=A) (B0:=Bb) (e:=.normal) hmix hnum hp (.none _) hB hk2 rfl
   have:=ih (j+1) (by omega) (by omega)
   rw [hM] at this
   rw [decide_eq_true h0,Bool.true_and]
   exact ⟨fun hy=>SEB.loop_next hs (this.1 hy),fun hy=>SEB.loop_next hs (this.2 hy)⟩
  ·rw [decide_eq_true (show (t.length:Int) > 100 by omega),brK_t] at hk2
   rw [decide_eq_false h0,Bool.false_and]
   exact ⟨fun hy=>(by cases hy),fun _=>SEB.loop_exit (SEB.of_KP (A:=A) (B0:=Bb) (e:=.ret) hmix hnum hp (.none _) hB hk2 rfl) (by simp)⟩
section
variable {A:Amb} (hT:Tab A) (hE:TabE A) (hR:TabR A) (hG:prog.globals.size≤A.G)
include hT hE hR hG
theorem pS21_ok:PrimOK prog A pS21:=by
 have hp:=pS2_ok hT hE hR hG
 refine PrimOK.addbP hp func21 (show f21.body=some code21 by kernel_rfl) (body:=.loop body21) (by kernel_rfl) (by kernel_rfl) fun ls e sq l h=>?_
 split at h
 ·rename_i n i m f ty
  obtain ⟨hc,hv⟩:=Tr.br_get0 h
  obtain ⟨rfl,rfl,hs,hn⟩:=propB_eq hc
  have hm:∀ {Bb:Heap},Bb.length=9→_:=fun {Bb} hB=>few_loop (A:=A) (L:=strsOf m f) (ty:=ty) hp (fun i=>by rw [strsOf_len]; exact round21 m ty (fun i=>(strsOf m f).getD i []) i) (by rw [strsOf_len]; exact hn) hB m 0 (by rw [strsOf_len]; omega) (Nat.zero_le _)
  rw [strsOf_len,List.drop_zero,← hs.1] at hm
  cases hb:shortL (strsOf m f) with
  | true =>
   rw [hb] at hv
   simp only [Tr.get,Option.some.injEq,Prod.mk.injEq] at hv
   obtain ⟨rfl,rfl,rfl⟩:=hv
   exact ⟨⟨.inr rfl,.inr rfl,.inr rfl,.inr rfl,.inr rfl,.inr rfl,.inr rfl,.inr rfl,.inr rfl,trivial⟩,fun Bb hB=>SEB.block_exit ((hm hB).1 hb)⟩
  | false =>
   rw [hb] at hv
   simp only [Tr.get,Option.some.injEq,Prod.mk.injEq] at hv
   obtain ⟨rfl,rfl,rfl⟩:=hv
   exact ⟨⟨.inr rfl,.inr rfl,.inr rfl,.inr rfl,.inr rfl,.inr rfl,.inr rfl,.inr rfl,.inr rfl,trivial⟩,fun Bb hB=>SEB.block_other ((hm hB).2 hb) (by simp)⟩
 ·cases h
theorem pS3_ok:PrimOK prog A pS3:=by
 refine (pS2_ok hT hE hR hG).addl gsz func21 (by kernel_rfl) (funP_ok hmix hnum rfl fun ls sq l h=>?_)
 unfold T21 at h
 split at h
 ·rename_i n n' f ty
  obtain ⟨hc,hv⟩:=Tr.br1 h
  obtain ⟨rfl,h1,h2⟩:=propB_eq hc
  cases hv
  refine ⟨⟨.inr rfl,.inr rfl,.inr rfl,.inr rfl,.inr rfl,.inr rfl,.inr rfl,.inr rfl,.inr rfl,trivial⟩,rfl,rfl,pS21,60,pS21_ok hT hE hR hG,(run21 n' ty f).trans ?_⟩
  have he:fwE n' f ty (strsOf n' f)=fwK n' f ty (shortL (strsOf n' f)):=by
   unfold fwE
   rw [propB_true ⟨rfl,rfl,h1,h2⟩]
   cases shortL (strsOf n' f) <;> rfl
  rw [he]
  unfold fewR
  rw [strsOf_len]
  by_cases a1:n' > 512
  ·rw [decide_eq_true (show (n':Int) > 12 by omega),decide_eq_false (show ¬ (n':Int)≤256 by omega),decide_eq_true (show (n':Int) > 512 by omega),decide_eq_true (show 12 < n'∧n'≤256 ∨ n' > 512 by omega)]; rfl
  ·rw [decide_eq_false (show ¬ (n':Int) > 512 by omega)]
   by_cases a2:n'≤12
   ·rw [decide_eq_false (show ¬ (n':Int) > 12 by omega),decide_eq_false (show ¬ (12 < n'∧n'≤256 ∨ n' > 512) by omega)]; rfl
   ·rw [decide_eq_true (show (n':Int) > 12 by omega)]
    by_cases a3:n'≤256
    ·rw [decide_eq_true (show (n':Int)≤256 by omega),decide_eq_true (show 12 < n'∧n'≤256 ∨ n' > 512 by omega)]; rfl
    ·rw [decide_eq_false (show ¬ (n':Int)≤256 by omega),decide_eq_false (show ¬ (12 < n'∧n'≤256 ∨ n' > 512) by omega)]; rfl
 ·cases h
end
end Go.Proofs.Tryz
namespace Go.Proofs.Tryz
open Go.Ad Go.Deep Go.ChangeShapes
open Go.Lib (decDigits itoa nDigits decFrom digitVal)
theorem exR_den {s:List UInt8} (h:(exR s).2=0):smQ (exR s).1∧rangeB (exR s).1=true∧1≤ratD (exR s).1∧ratD (exR s).1≤5000000:=by
 obtain ⟨h1,h2,_⟩:=exR_ok h
 refine ⟨h1.1,h2,(Rq.of h1.1).2.1,?_⟩
 unfold exR at h ⊢
 by_cases h1:s.length > 40
 ·rw [if_pos h1] at h; cases h
 ·rw [if_neg h1] at h ⊢
  by_cases h2:(nbR (cutC 32 s).1).2=0
  ·rw [if_neg (by simpa using h2)] at h ⊢
   cases hv:unitV (cutC 32 s).2.1 with
   | none=>rw [hv] at h; cases h
   | some v =>
    rw [hv] at h
    simp only at h ⊢
    cases hb:(cutC 32 s).2.2 with
    | false=>rw [hb] at h; cases h
    | true =>
     rw [hb,cond_true] at h
     rw [cond_true]
     cases hr:rangeB (mulX (nbR (cutC 32 s).1).1 v) with
     | false=>rw [hr] at h; cases h
     | true =>
      rw [cond_true]
      obtain ⟨n,d,e,b1,b2,b3,_⟩:=nbR_ok h2
      rw [e]
      obtain ⟨_,_,_,u3,u4⟩:=unitV_ok hv
      obtain ⟨_,_,c3,c4⟩:=low_sm (n:=n) (d:=d) (by omega) b2 (by omega)
      have hB:ratD (lowT n d)*ratD v≤1000000*5:=Int.mul_le_mul (by omega) u4 (by omega) (by omega)
      have hB1:1≤ratD (lowT n d)*ratD v:=Int.mul_pos (by omega) (by omega)
      obtain ⟨N,D,r1,_,_,r4,_⟩:=low_ex (A:=ratN (lowT n d)*ratN v) (B:=ratD (lowT n d)*ratD v) (by omega)
      show ratD (lowT _ _)≤_
      rw [r1.d]
      omega
  ·rw [if_pos h2] at h; exact (h2 h).elim
structure SumI (j:Nat) (x:List UInt8):Prop where
 q:Rq x (ratN x) (ratD x)
 d:ratD x≤((5000000 ^ j:Nat):Int)
 lo:-(((100000*j:Nat):Int)*ratD x)≤ratN x
 hi:ratN x≤((100000*j:Nat):Int)*ratD x
theorem SumI.sm {j:Nat} {x:List UInt8} (h:SumI j x) (hj:j≤12):smQ x:=by
 have h1:5000000 ^ j≤5000000 ^ 12:=Nat.pow_le_pow_right (by decide) hj
 have h2:=h.q.2.1
 have h3:=h.d
 have h4:((100000*j:Nat):Int)*ratD x≤1200000*((5000000 ^ 12:Nat):Int):=Int.mul_le_mul (by omega) (by omega) (by omega) (by omega)
 have h5:=h.lo
 have h6:=h.hi
 have h7:(1200000*5000000 ^ 12:Nat) < 10 ^ 100:=by decide
 refine h.q.sm ?_ ?_ <;> omega
theorem SumI.add {j:Nat} {x y:List UInt8} (h:SumI j x) (hy:smQ y) (hr:rangeB y=true) (hd:ratD y≤5000000):SumI (j+1) (addT x y):=by
 have qy:=Rq.of hy
 have dx:=h.q.2.1
 have dy:=qy.2.1
 unfold rangeB at hr
 rw [decide_eq_true_eq] at hr
 have hB:1≤ratD x*ratD y:=Int.mul_pos (by omega) (by omega)
 obtain ⟨N,D,r1,r2,_,r4,_⟩:=low_ex (A:=ratN x*ratD y+ratN y*ratD x) (B:=ratD x*ratD y) (by omega)
 have hD:=r1.2.1
 have r0:Rq (addT x y) N D:=r1
 have e1:ratN (addT x y)=N:=r1.n
 have e2:ratD (addT x y)=D:=r1.d
 have u1:ratN x*ratD y≤(((100000*j:Nat):Int)*ratD x)*ratD y:=Int.mul_le_mul_of_nonneg_right h.hi (by omega)
 have u2:ratN y*ratD x≤(100000*ratD y)*ratD x:=Int.mul_le_mul_of_nonneg_right hr.2 (by omega)
 have l1:(-(((100000*j:Nat):Int)*ratD x))*ratD y≤ratN x*ratD y:=Int.mul_le_mul_of_nonneg_right h.lo (by omega)
 have l2:(-(100000*ratD y))*ratD x≤ratN y*ratD x:=Int.mul_le_mul_of_nonneg_right hr.1 (by omega)
 have hK:((100000*(j+1):Nat):Int)=((100000*j:Nat):Int)+100000:=by omega
 have f1:(((100000*j:Nat):Int)*ratD x)*ratD y=((100000*j:Nat):Int)*(ratD x*ratD y):=Int.mul_assoc ..
 have f2:(100000*ratD y)*ratD x=100000*(ratD x*ratD y):=by rw [Int.mul_assoc,Int.mul_comm (ratD y)]
 have f3:(-(((100000*j:Nat):Int)*ratD x))*ratD y=-(((100000*j:Nat):Int)*(ratD x*ratD y)):=by rw [Int.neg_mul,f1]
 have f4:(-(100000*ratD y))*ratD x=-(100000*(ratD x*ratD y)):=by rw [Int.neg_mul,f2]
 rw [f1] at u1
 rw [f2] at u2
 rw [f3] at l1
 rw [f4] at l2
 generalize hA:ratN x*ratD y+ratN y*ratD x=A at *
 generalize hBB:ratD x*ratD y=B at *
 have hu:A≤((100000*(j+1):Nat):Int)*B:=by rw [hK,Int.add_mul]; omega
 have hl:-(((100000*(j+1):Nat):Int)*B)≤A:=by rw [hK,Int.add_mul]; omega
 refine ⟨by rw [e1,e2]; exact r0,?_,?_,?_⟩
 ·rw [e2,Nat.pow_succ]
  have:ratD x*ratD y≤((5000000 ^ j:Nat):Int)*5000000:=Int.mul_le_mul h.d hd (by omega) (Int.natCast_nonneg _)
  rw [hBB] at this
  rw [Int.natCast_mul]
  omega
 ·rw [e1,e2]
  have h1:(-(((100000*(j+1):Nat):Int)*D))*B≤N*B:=by
   rw [← r2]
   have:=Int.mul_le_mul_of_nonneg_right hl (show 0≤D by omega)
   calc (-(((100000*(j+1):Nat):Int)*D))*B=(-(((100000*(j+1):Nat):Int)*B))*D:=by rw [Int.neg_mul,Int.neg_mul,Int.mul_assoc,Int.mul_comm D,← Int.mul_assoc]
    _≤A*D:=this
  exact Int.le_of_mul_le_mul_right h1 (by omega)
 ·rw [e1,e2]
  have h1:N*B≤(((100000*(j+1):Nat):Int)*D)*B:=by
   rw [← r2]
   have:=Int.mul_le_mul_of_nonneg_right hu (show 0≤D by omega)
   calc A*D≤(((100000*(j+1):Nat):Int)*B)*D:=this
    _=(((100000*(j+1):Nat):Int)*D)*B:=by rw [Int.mul_assoc,Int.mul_comm B,← Int.mul_assoc]
  exact Int.le_of_mul_le_mul_right h1 (by omega)
theorem sumOK_few:∀ (L:List (List UInt8)) (j:Nat) (x:List UInt8),j+L.length≤12→SumI j x→sumOK L x
 | [],j,x,hj,h=>h.sm (by simp at hj; omega)
 | s :: r,j,x,hj,h=>by
  rw [List.length_cons] at hj
  refine ⟨h.sm (by omega),fun h0=>?_⟩
  obtain ⟨d1,d2,d3,d4⟩:=exR_den h0
  exact ⟨d1,sumOK_few r (j+1) _ (by omega) (h.add d1 d2 d4)⟩
theorem sumI_0:SumI 0 [48]:=by
 have hn:ratN [48]=0:=rq_x0.n
 have hd:ratD [48]=1:=rq_x0.d
 refine ⟨by rw [hn,hd]; exact rq_x0,?_,?_,?_⟩
 ·rw [hd]; decide
 ·rw [hn,hd]; decide
 ·rw [hn,hd]; decide
theorem few_sum {L:List (List UInt8)} (h:fewR L=true):okSum L:=fun hl=>by
 unfold fewR at h
 rw [Bool.and_eq_true,Bool.not_eq_true',decide_eq_false_iff_not] at h
 exact sumOK_few L 0 [48] (by omega) sumI_0
noncomputable def withAw (prims:Prims):Prims:=prims.addh 10 (liftG 8 (funP ⟨[],dd8⟩ 8 [] fun _=>.leaf (⟨[.is (.bool true)],dd8⟩,[])))
theorem runAw:(runK prog (withAwake noPrims) 60).call 10 (SP.rho ⟨[],dd8⟩ []) (SP.heap ⟨[],dd8⟩ []) (finP ⟨[.is (.bool true)],dd8⟩ 8 [])=brK (propB (([]:List AV)=[]∧Bg 8=Bg 8)) (some []) none:=by kernel_rfl
theorem withAw_ok {A:Amb} (hT:Tab A) (hE:TabE A) (hG:prog.globals.size≤A.G) {prims:Prims} (hp:PrimOK prog A prims):PrimOK prog A (withAw prims):=by
 refine hp.addl gsz func10 (by kernel_rfl) (funP_ok hmix hnum rfl fun ls sq l h=>?_)
 cases h
 refine ⟨?_,rfl,rfl,withAwake noPrims,60,withAwake_ok hT hE hG PrimOK.none,?_⟩
 ·exact fr8 rfl rfl
 ·refine Eq.trans ?_ (runAw.trans (by rw [propB_true ⟨rfl,rfl⟩]; rfl))
  rfl
noncomputable abbrev pSw:Prims:=withAw pS3
noncomputable abbrev sumsK (n:Nat) (f:Nat→List AV) (L:List (List UInt8)):Option Unit :=
 brK (propB (n=n∧isStrs n f∧n < 2 ^ 62)) (brK (!(fewR L)) (some ()) (brK (propB (n=n∧isStrs n f∧n < 2 ^ 62∧okSum L)) (brK (propB (n=n∧isStrs n f∧n < 2 ^ 62∧okSum L)) (brK ((sumR L).1 == (sumR L).1) (brK ((sumR L).2 == (sumR L).2) (some ()) none) none) none) none)) none
theorem law6 (n:Nat) (f:Nat→List AV):(runK prog pSw 60).call 6 [.sslice 8 0 n] (Bg 8++[.vec n f 1 roT]) goodK=sumsK n f (strsOf n f):=by kernel_rfl
noncomputable abbrev pSn:Prims:=withAw pS1
end Go.Proofs.Tryz
namespace Go.Proofs.Tryz
open Go.Ad Go.Deep Go.ChangeShapes
theorem law6n:(runK prog pSn 60).call 6 [.slice (some (8,0)) 0 0] (Bg 8++[.dead]) goodK =
  brK (propB (smQ [48])) (brK (propB (smJ [48])) (brK (propB (smQ [48])) (brK (propB (smJ [48])) (some ()) none) none) none) none:=by kernel_rfl
theorem sumsK_ok {L:List (List UInt8)} (h:∀ s,s ∈ L→szOK s=true) (hn:L.length < 2 ^ 62):sumsK L.length (rowsS L) (strsOf L.length (rowsS L))=some ():=by
 have h1:=isStrs_rows h
 unfold sumsK
 rw [propB_true ⟨rfl,h1,hn⟩,strsOf_rows]
 cases hf:fewR L with
 | false=>rfl
 | true =>
  rw [propB_true ⟨rfl,h1,hn,few_sum hf⟩]
  simp [brK]
theorem unitsSums {v:Value} (W:World) (hG:prog.globals.size≤W.heap.size) (hT:Tab (ambOf W)) (hE:TabE (ambOf W)) (hR:TabR (ambOf W))
  (hv:(∃ (L:List (List UInt8)) (l:Option Ad.Loc),VR (iotaB 8 l) (.sslice 8 0 L.length) v∧(∀ l',l=some l'→l'.c < W.heap.size∧OR (iotaB 8 l) W.heap l' (.vec L.length (rowsS L) 1 roT))∧(∀ s,s ∈ L→szOK s=true)∧L.length < 2 ^ 62) ∨
   ∃ l:Ad.Loc,VR (iotaB 8 (some l)) (.slice (some (8,0)) 0 0) v∧l.c < W.heap.size) :
  Calls prog 6 #[v] W fun e W'=>e=.returned (.bool true)∧RowKit.Below W.heap.size W W':=by
 rcases hv with ⟨L,l,h1,h2,h3,h4⟩ | ⟨l,h1,h2⟩
 ·refine law_of_block (l:=l) (args:=[.sslice 8 0 L.length]) (o:=.vec L.length (rowsS L) 1 roT) (n:=60) hmix hnum (withAw_ok hT hE hG (pS3_ok hT hE hR hG)) hG ?_ rfl (fun l' hl=>by rw [gsz]; exact h2 l' hl) _ ?_
  ·rw [gsz]; exact (law6 _ _).trans (sumsK_ok h3 h4)
  ·rw [gsz]
   simp only [VRL]
   exact ⟨_,_,rfl,h1,rfl⟩
 ·refine law_of_block (l:=some l) (args:=[.slice (some (8,0)) 0 0]) (o:=.dead) (n:=60) hmix hnum (withAw_ok hT hE hG (pS1_ok hT hE hR hG)) hG ?_ rfl (fun l' hl=>by cases hl; exact ⟨h2,trivial⟩) _ ?_
  ·rw [gsz]
   refine law6n.trans ?_
   have hq:smQ [48]:=sm_x0
   have hj:smJ [48]:=⟨hq,fun _=>by rw [show ratN [48]=0 from rq_x0.n]; decide⟩
   rw [propB_true hq,propB_true hj]; rfl
  ·rw [gsz]
   simp only [VRL]
   exact ⟨_,_,rfl,h1,rfl⟩
set_option maxRecDepth 100000 in
theorem open_strs {H:Type} {enc:TypeId × Value→H} {W:World} {b0:Nat} {v:Value} {d:DataW H} {ps:List MemPlace} (hval:Value.okWide prog W .any b0 42 v) (h:DataW.Trod enc prog W 0 (fun _=>true) true 42 v d ps)
  (hw:(d.weights prog 42).all (·≤reachBytes)=true) :
  (∃ (L:List (List UInt8)) (l:Option Ad.Loc),VR (iotaB 8 l) (.sslice 8 0 L.length) v∧(∀ l',l=some l'→l'.c < W.heap.size∧OR (iotaB 8 l) W.heap l' (.vec L.length (rowsS L) 1 roT))∧(∀ s,s ∈ L→szOK s=true)∧L.length < 2 ^ 62) ∨
   ∃ l:Ad.Loc,VR (iotaB 8 (some l)) (.slice (some (8,0)) 0 0) v∧l.c < W.heap.size:=by
 obtain ⟨a0,len0,cap0,rfl⟩:=Go.WideShapes.okWide_slice underlying42 hval
 obtain ⟨fuel,hf⟩:=h
 rcases open_slice underlying42 hf with ⟨hc,_⟩ | ⟨a,len,cap,m,n,D,Pl,hc,hb,hl,hm,hmm,hx,hel⟩
 ·left
  simp [Value.cells] at hc
  obtain ⟨rfl,rfl,rfl⟩:=hc
  exact ⟨[],none,by simp [VR],fun l' h=>by (cases h),(fun t h=>by (cases h)),by simp⟩
 simp [Value.cells] at hc
 obtain ⟨rfl,rfl,rfl⟩:=hc
 rw [if_pos rfl] at hmm
 subst hmm
 obtain ⟨hd1,hd2⟩:=Prod.mk.inj hx
 subst hd1
 have hok:Cell.ok prog W .any b0 42 (.slice (some a) len0 m):=by
  simpa only [Value.okWide,Cell.okWide,underlying42] using hval
 simp only [Cell.ok,underlying42] at hok
 obtain ⟨_,_,_,hspot,row,cells,hsh,_⟩:=hok
 obtain ⟨c,off,spot⟩:=a
 simp only at hspot
 subst hspot
 have hcell:∃ arr e fz,W.heap[c]?=some (.cells arr e fz):=by
  unfold World.shape? at hsh
  split at hsh
  ·rename_i arr e fz hq; exact ⟨arr,e,fz,hq⟩
  ·cases hsh
 obtain ⟨arr,e,fz,hh⟩:=hcell
 have hlt:c < W.heap.size:=(Array.getElem?_eq_some_iff.1 hh).1
 by_cases h0:len0=0
 ·right
  subst h0
  refine ⟨⟨c,off,off+m*1,1⟩,?_,hlt⟩
  simp only [VR]
  exact ⟨⟨c,off,off+m*1,1⟩,m,off,by simp [iotaB],Nat.le_refl _,Nat.zero_le _,by simp,Nat.le_refl _,Nat.le_refl _,rfl⟩
 left
 have hq0:∀ k,W.cell? ⟨c,k,none⟩=arr[k]?:=fun k=>by simp [World.cell?,hh]
 have each:∀ i,i < m→∃ q:List UInt8,(∃ b:ByteArray,b.data.toList=q∧arr[off+i]?=some (.string b))∧D i=.lit (.string q):=by
  intro i hi
  obtain ⟨cs',h1,h2⟩:=hel i hi
  rw [show prog.cellsOf 9=1 by kernel_rfl] at h1
  obtain ⟨_,hlen,hce⟩:=World.cells?_some h1
  obtain ⟨b1,q1,hxy,_⟩:=DataW.trod_string underlying9 h2
  subst q1
  have e0:=hce 0 (by omega)
  rw [Go.WideShapes.add_plain,Go.WideShapes.add_plain,hq0] at e0
  simp at e0
  exact ⟨b1.data.toList,⟨b1,rfl,e0⟩,(Prod.mk.inj hxy).1⟩
 obtain ⟨q,hq⟩:=choose_lt each
 obtain ⟨L,hL⟩:∃ L,L=(List.range len0).map q:=⟨_,rfl⟩
 have hlen:L.length=len0:=by simp [hL]
 have hget:∀ i,i < len0→L.getD i []=q i:=fun i hi=>by simp [hL,List.getD,hi]
 have hfit:off+m*1≤arr.size:=by
  have hm0:0 < m:=by omega
  obtain ⟨⟨_,_,e2⟩,_⟩:=hq (m - 1) (by omega)
  have:=(Array.getElem?_eq_some_iff.1 e2).1
  omega
 simp only [DataW.weights,underlying42,List.all_cons,List.all_append,Bool.and_eq_true] at hw
 refine ⟨L,some ⟨c,off,arr.size,1⟩,?_,fun l' hl'=>?_,fun t ht=>?_,?_⟩
 ·simp only [VR]
  exact .inl ⟨by omega,⟨c,off,arr.size,1⟩,m,by simp [iotaB],by omega,by simpa using hfit,by simp [hlen]⟩
 ·cases hl'
  refine ⟨hlt,OR.ofCells (by omega) (fun i hi=>?_) hh rfl (by omega) fun i j a hi hj=>?_⟩
  ·exact ⟨rfl,rfl⟩
  ·rw [hlen] at hi
   have e:rowsS L i=[.sstr (q i)]:=by
    rw [← hget i hi]; rfl
   rw [e] at hj
   obtain ⟨⟨b,hb1,e1⟩,_⟩:=hq i (by omega)
   match j,hj with
   | 0,hj=>cases hj; exact ⟨_,by simpa using e1,by simp only [VR]; exact ⟨b,hb1,rfl⟩⟩
 ·rw [hL] at ht
  obtain ⟨i,hi,rfl⟩:=List.mem_map.1 ht
  have hi':i < len0:=List.mem_range.1 hi
  obtain ⟨_,e3⟩:=hq i (by omega)
  have key:∀ (l:List (DataW H)),(DataW.weightsAll prog 9 l).all (·≤reachBytes)=true→∀ y,y ∈ l→(y.weights prog 9).all (·≤reachBytes)=true:=by
   intro l
   induction l with
   | nil=>intro _ y hy; cases hy
   | cons z r ih =>
    intro h y hy
    simp only [DataW.weightsAll,List.all_append,Bool.and_eq_true] at h
    rcases List.mem_cons.1 hy with rfl | hy
    ·exact h.1
    ·exact ih h.2 y hy
  have:=key _ hw.2.1 (D i) (List.mem_map.2 ⟨i,hi,rfl⟩)
  rw [e3] at this
  simp [DataW.weights] at this
  exact decide_eq_true (by unfold reachBytes at this; omega)
 ·have h16:prog.bytesOf 9=16:=by kernel_rfl
  have:=hw.1
  rw [h16] at this
  simp at this
  unfold reachBytes at this
  omega
end Go.Proofs.Tryz
namespace Go.Proofs.Tryz
open Go.Ad
open Go.Lib (decDigits itoa nDigits decFrom digitVal)
noncomputable abbrev mulT (a:List UInt8) (t:Int):List UInt8:=lowT (ratN a*ratN (itoa t)) (ratD a*ratD (itoa t))
noncomputable def cmpC (e:Int) (C:List UInt8) (K:Option Unit):Option Unit :=
 brK (propB (smN 100000)) (brK (propB (smQ (itoa 100000)∧smQ C)) (brK (propB (smN (-100000))) (brK (propB (smQ C∧smQ (itoa (-100000)))) (brK (e != 2) none (brK (decide (sgnZ (ratN (itoa 100000)*ratD C - ratN C*ratD (itoa 100000)) ≥ 0)) (brK (decide (sgnZ (ratN C*ratD (itoa (-100000)) - ratN (itoa (-100000))*ratD C) ≥ 0)) none K) K)) none) none) none) none
noncomputable def scR (S sm gr:List UInt8) (t:Int) (K:Option Unit):Option Unit :=
 brK (decide (S.length+sm.length < 4611686018427387904)) (brK (szOK (S++sm)) (brK (decide (S.length+gr.length < 4611686018427387904)) (brK (szOK (S++gr)) (brK (propB (smN t)) (brK (propB (smQ (exR (S++sm)).1∧smQ (itoa t)∧True))
  (brK ((exR (S++sm)).2 != 0) none (brK ((exR (S++gr)).2 != 0) (cmpC (exR (S++gr)).2 (mulT (exR (S++sm)).1 t) K) (brK (!((exR (S++gr)).1 == mulT (exR (S++sm)).1 t)) none K))) none) none) none) none) none) none
noncomputable def scL (S:List UInt8):Option Unit:=scR S [32,109,109] [32,99,109] 10 (scR S [32,117,109] [32,109,109] 1000 (scR S [32,116,104,111,117] [32,105,110] 1000 (some ())))
noncomputable abbrev pLs:Prims:=withAw pL1
theorem law7 (w p:Int) (g:Bool):(runK prog pLs 60).call 7 [.rng .u16 w 0 65535,.rng .u16 p 0 65535,.sbool g] (Bg 8) goodK =
  brK (decide (-9223372036854775808≤w.tmod 100∧w.tmod 100≤9223372036854775807)) (brK (decide ((itoa (w.tmod 100)).length+1 < 4611686018427387904)) (brK (decide (-9223372036854775808≤p.tmod 10000∧p.tmod 10000≤9223372036854775807)) (brK (decide ((itoa (w.tmod 100)++[46]).length+(itoa (p.tmod 10000)).length < 4611686018427387904))
   (brK g (brK (decide (1+(itoa (w.tmod 100)++[46]++itoa (p.tmod 10000)).length < 4611686018427387904)) (scL ([45]++(itoa (w.tmod 100)++[46]++itoa (p.tmod 10000)))) none) (scL (itoa (w.tmod 100)++[46]++itoa (p.tmod 10000)))) none) none) none) none:=by kernel_rfl
end Go.Proofs.Tryz
namespace Go.Proofs.Tryz
open Go.Ad
open Go.Lib (decDigits itoa nDigits decFrom digitVal)
theorem range_mul {a b:Int} {v w:List UInt8} (hb:1≤b) (hv:unitV w=some v) (h1:a*ratN v≤100000*(b*ratD v)) (h2:-(100000*(b*ratD v))≤a*ratN v):rangeB (mulX (lowT a b) v)=true:=by
 obtain ⟨_,_,_,vd,_⟩:=unitV_ok hv
 obtain ⟨P,Q,r1,r2,_,_,_⟩:=low_ex (A:=a) (B:=b) (by omega)
 have hQ:=r1.2.1
 have hB:1≤Q*ratD v:=Int.mul_pos (by omega) (by omega)
 obtain ⟨N,D,s1,s2,_,_,_⟩:=low_ex (A:=P*ratN v) (B:=Q*ratD v) (by omega)
 have hD:=s1.2.1
 have e:mulX (lowT a b) v=lowT (P*ratN v) (Q*ratD v):=by unfold mulX; rw [r1.n,r1.d]
 have hb0:0 < b*ratD v:=Int.mul_pos (by omega) (by omega)
 have key:N*(b*ratD v)=a*ratN v*D:=by
  have:Q*(N*(b*ratD v))=Q*(a*ratN v*D):=by
   calc Q*(N*(b*ratD v))=b*(N*(Q*ratD v)):=by ac_rfl
    _=b*(P*ratN v*D):=by rw [s2]
    _=(P*b)*(ratN v*D):=by ac_rfl
    _=(a*Q)*(ratN v*D):=by rw [r2]
    _=Q*(a*ratN v*D):=by ac_rfl
  exact Int.eq_of_mul_eq_mul_left (by omega) this
 unfold rangeB
 rw [e,s1.n,s1.d]
 have g1:N*(b*ratD v)≤(100000*D)*(b*ratD v):=by
  rw [key]
  calc a*ratN v*D≤100000*(b*ratD v)*D:=Int.mul_le_mul_of_nonneg_right h1 (by omega)
   _=(100000*D)*(b*ratD v):=by ac_rfl
 have g2:(-(100000*D))*(b*ratD v)≤N*(b*ratD v):=by
  rw [key]
  calc (-(100000*D))*(b*ratD v)=-(100000*(b*ratD v))*D:=by rw [Int.neg_mul,Int.neg_mul]; congr 1; ac_rfl
   _≤a*ratN v*D:=Int.mul_le_mul_of_nonneg_right h2 (by omega)
 exact decide_eq_true ⟨Int.le_of_mul_le_mul_right g2 hb0,Int.le_of_mul_le_mul_right g1 hb0⟩
theorem mulX_times {a b t:Int} {v1 v2 w1 w2:List UInt8} (hb:1≤b) (u1:unitV w1=some v1) (u2:unitV w2=some v2) (ht:ratN v2*ratD v1=t*ratN v1*ratD v2):mulT (mulX (lowT a b) v1) t=mulX (lowT a b) v2:=by
 obtain ⟨_,_,_,d1,_⟩:=unitV_ok u1
 obtain ⟨_,_,_,d2,_⟩:=unitV_ok u2
 obtain ⟨P,Q,r1,r2,_,_,_⟩:=low_ex (A:=a) (B:=b) (by omega)
 have hQ:=r1.2.1
 have hB:1≤Q*ratD v1:=Int.mul_pos (by omega) (by omega)
 have hB2:1≤Q*ratD v2:=Int.mul_pos (by omega) (by omega)
 obtain ⟨N,D,s1,s2,_,_,_⟩:=low_ex (A:=P*ratN v1) (B:=Q*ratD v1) (by omega)
 have hD:=s1.2.1
 have e1:mulX (lowT a b) v1=lowT (P*ratN v1) (Q*ratD v1):=by unfold mulX; rw [r1.n,r1.d]
 have e2:mulX (lowT a b) v2=lowT (P*ratN v2) (Q*ratD v2):=by unfold mulX; rw [r1.n,r1.d]
 rw [e2]
 unfold mulT
 rw [e1,s1.n,s1.d,(rng_itoa t).1,(rng_itoa t).2,Int.mul_one]
 refine low_eq (by omega) (by omega) ?_
 have:ratD v1*(N*t*(Q*ratD v2))=ratD v1*(P*ratN v2*D):=by
  calc ratD v1*(N*t*(Q*ratD v2))=t*ratD v2*(N*(Q*ratD v1)):=by ac_rfl
   _=t*ratD v2*(P*ratN v1*D):=by rw [s2]
   _=(t*ratN v1*ratD v2)*(P*D):=by ac_rfl
   _=(ratN v2*ratD v1)*(P*D):=by rw [ht]
   _=ratD v1*(P*ratN v2*D):=by ac_rfl
 exact Int.eq_of_mul_eq_mul_left (by omega) this
theorem scR_eq {X w1 w2 v1 v2:List UInt8} {a b t:Int} {m:Bool} {K:Option Unit} (hX:NumT X a b) (hl:X.length≤20) (ha:a.natAbs < 10 ^ 13) (hb:1≤b) (hb6:b≤10 ^ 6) (u1:unitV w1=some v1) (u2:unitV w2=some v2) (l1:w1.length≤6) (l2:w2.length≤6)
  (ht:ratN v2*ratD v1=t*ratN v1*ratD v2) (ht0:smN t) (hr1:a*ratN v1≤100000*(b*ratD v1)) (hr2:0≤a):scR (mnT m++X) (32 :: w1) (32 :: w2) t K=K:=by
 have hs:(mnT m).length≤1:=by cases m <;> decide
 have c1:mnT m++X++(32 :: w1)=mnT m++X++[32]++w1:=by rw [List.append_assoc _ [32] w1]; rfl
 have c2:mnT m++X++(32 :: w2)=mnT m++X++[32]++w2:=by rw [List.append_assoc _ [32] w2]; rfl
 have z1:(mnT m++X++[32]++w1).length≤30:=by
  rw [List.length_append,List.length_append,List.length_append,List.length_singleton]; omega
 have z2:(mnT m++X++[32]++w2).length≤30:=by
  rw [List.length_append,List.length_append,List.length_append,List.length_singleton]; omega
 have z0:(mnT m++X).length≤21:=by rw [List.length_append]; omega
 obtain ⟨_,hn1,_,hd1,_⟩:=unitV_ok u1
 have hp1:0≤a*ratN v1:=Int.mul_nonneg hr2 (by omega)
 have hq1:0≤100000*(b*ratD v1):=Int.mul_nonneg (by omega) (Int.mul_nonneg (by omega) (by omega))
 have x1:=exR_mk hX m u1 (by omega)
 have x2:=exR_mk hX m u2 (by omega)
 generalize hA:(bif m then -a else a)=A at *
 have hA13:A.natAbs < 10 ^ 13:=by
  rw [← hA]
  cases m with
  | true=>rw [cond_true]; omega
  | false=>rw [cond_false]; exact ha
 have hr:rangeB (mulX (lowT A b) v1)=true:=by
  refine range_mul hb u1 ?_ ?_ <;> rw [← hA] <;> cases m <;> simp only [cond_true,cond_false,Int.neg_mul] <;> omega
 rw [hr,cond_true] at x1
 have q1:=(mulX_sm hA13 hb hb6 u1).1
 have q2:=(mulX_sm hA13 hb hb6 u2).1
 have ec:=mulX_times (a:=A) (t:=t) hb u1 u2 ht
 have qt:smQ (itoa t):=smQ_itoa (by have:=ht0.1; have:=ht0.2; omega)
 unfold scR
 rw [c1,c2,x1,x2]
 dsimp only
 rw [ec,decide_eq_true (show (mnT m++X).length+(32 :: w1).length < 4611686018427387904 by rw [List.length_cons]; omega),decide_eq_true (show (mnT m++X).length+(32 :: w2).length < 4611686018427387904 by rw [List.length_cons]; omega),
  show szOK (mnT m++X++[32]++w1)=true from decide_eq_true (by omega),show szOK (mnT m++X++[32]++w2)=true from decide_eq_true (by omega),propB_true ht0,propB_true ⟨q1,qt,trivial⟩,brK_t,brK_t,brK_t,brK_t,brK_t,brK_t,
  show ((0:Int) != 0)=false from rfl,brK_f]
 cases hr3:rangeB (mulX (lowT A b) v2) with
 | true =>
  rw [cond_true]
  simp [brK]
 | false =>
  rw [cond_false,show ((2:Int) != 0)=true from rfl,brK_t]
  unfold cmpC
  have n1:smN 100000:=⟨by omega,by omega⟩
  have n2:smN (-100000):=⟨by omega,by omega⟩
  have p1:smQ (itoa 100000):=smQ_itoa (by decide)
  have p2:smQ (itoa (-100000)):=smQ_itoa (by decide)
  obtain ⟨s1,s2,s3,s4⟩:=@sgn_pos (100000*ratD (mulX (lowT A b) v2) - ratN (mulX (lowT A b) v2)*1)
  obtain ⟨t1,t2,t3,t4⟩:=@sgn_pos (ratN (mulX (lowT A b) v2)*1 - -100000*ratD (mulX (lowT A b) v2))
  rw [propB_true n1,propB_true n2,propB_true ⟨p1,q2⟩,propB_true ⟨q2,p2⟩,(rng_itoa 100000).1,(rng_itoa 100000).2,(rng_itoa (-100000)).1,(rng_itoa (-100000)).2,s4,t4,show ((2:Int) != 2)=false from rfl,brK_t,brK_t,brK_t,brK_t,brK_f]
  unfold rangeB at hr3
  rw [decide_eq_false_iff_not] at hr3
  by_cases g1:100000*ratD (mulX (lowT A b) v2) - ratN (mulX (lowT A b) v2)*1 ≥ 0
  ·rw [decide_eq_true g1,brK_t,decide_eq_false (by omega),brK_f]
  ·rw [decide_eq_false g1,brK_f]
theorem scL_eq {X:List UInt8} {a b:Int} {m:Bool} (hX:NumT X a b) (hl:X.length≤20) (ha:a.natAbs < 10 ^ 13) (hb:1≤b) (hb6:b≤10 ^ 6) (h0:0≤a) (h:a≤100*b):scL (mnT m++X)=some ():=by
 unfold scL
 rw [scR_eq (v1:=vT 1) (v2:=vT 2) hX hl ha hb hb6 rfl rfl (by decide) (by decide) (by rw [vals.2.1.1,vals.2.1.2,vals.2.2.1.1,vals.2.2.1.2]; decide) ⟨by omega,by omega⟩ (by rw [vals.2.1.1,vals.2.1.2]; omega) h0,
  scR_eq (v1:=vT 0) (v2:=vT 1) hX hl ha hb hb6 rfl rfl (by decide) (by decide) (by rw [vals.2.1.1,vals.2.1.2,vals.1.1,vals.1.2]; decide) ⟨by omega,by omega⟩ (by rw [vals.1.1,vals.1.2]; omega) h0,
  scR_eq (v1:=vT 4) (v2:=vT 3) hX hl ha hb hb6 rfl rfl (by decide) (by decide) (by rw [vals.2.2.2.1.1,vals.2.2.2.1.2,vals.2.2.2.2.1,vals.2.2.2.2.2]; decide) ⟨by omega,by omega⟩ (by rw [vals.2.2.2.2.1,vals.2.2.2.2.2]; omega) h0]
theorem unitsScales (w p:Int) (g:Bool) (hw:0≤w∧w≤65535) (hp:0≤p∧p≤65535) (W:World) (hG:prog.globals.size≤W.heap.size) (hT:Tab (ambOf W)) (hE:TabE (ambOf W)) :
  Calls prog 7 #[.int .u16 w,.int .u16 p,.bool g] W fun e W'=>e=.returned (.bool true)∧RowKit.Below W.heap.size W W':=by
 refine law_of_K hmix hnum (withAw_ok hT hE hG (pL1_ok hT hE hG)) hG (n:=60) (args:=[.rng .u16 w 0 65535,.rng .u16 p 0 65535,.sbool g]) ?_ rfl (iotaG 8) _ ?_
 ·rw [gsz]
  refine (law7 w p g).trans ?_
  obtain ⟨w,rfl⟩:=Int.eq_ofNat_of_zero_le hw.1
  obtain ⟨p,rfl⟩:=Int.eq_ofNat_of_zero_le hp.1
  have e1:((w:Nat):Int).tmod 100=((w % 100:Nat):Int):=rfl
  have e2:((p:Nat):Int).tmod 10000=((p % 10000:Nat):Int):=rfl
  rw [e1,e2]
  have l1:(itoa ((w % 100:Nat):Int)).length≤2:=itoaN_len (by omega) (by omega)
  have l2:(itoa ((p % 10000:Nat):Int)).length≤4:=itoaN_len (by omega) (by omega)
  have hd:=itoaN_all (p % 10000)
  have hne:=itoa_ne ((p % 10000:Nat):Int)
  have hlt:=itoaN_lt (p % 10000)
  have hN:=NumT.pt (p:=w % 100) (d:=itoa ((p % 10000:Nat):Int)) (by omega) hd hne (by omega)
  rw [digW_itoa] at hN
  have h10:10 ^ (itoa ((p % 10000:Nat):Int)).length≤10 ^ 4:=Nat.pow_le_pow_right (by decide) l2
  have h11:1≤10 ^ (itoa ((p % 10000:Nat):Int)).length:=Nat.one_le_pow _ _ (by decide)
  have hX:itoa ((w % 100:Nat):Int)++[46]++itoa ((p % 10000:Nat):Int)=itoa ((w % 100:Nat):Int)++46 :: itoa ((p % 10000:Nat):Int):=by rw [List.append_assoc]; rfl
  have hlen:(itoa ((w % 100:Nat):Int)++46 :: itoa ((p % 10000:Nat):Int)).length≤20:=by
   rw [List.length_append,List.length_cons]; omega
  have hmul:w % 100*10 ^ (itoa ((p % 10000:Nat):Int)).length≤99*10 ^ (itoa ((p % 10000:Nat):Int)).length:=Nat.mul_le_mul_right _ (by omega)
  rw [decide_eq_true (show -9223372036854775808≤((w % 100:Nat):Int)∧((w % 100:Nat):Int)≤9223372036854775807 by omega),decide_eq_true (show -9223372036854775808≤((p % 10000:Nat):Int)∧((p % 10000:Nat):Int)≤9223372036854775807 by omega),
   decide_eq_true (show (itoa ((w % 100:Nat):Int)).length+1 < 4611686018427387904 by omega),decide_eq_true (show (itoa ((w % 100:Nat):Int)++[(46:UInt8)]).length+(itoa ((p % 10000:Nat):Int)).length < 4611686018427387904 by rw [List.length_append,List.length_singleton]; omega),
   decide_eq_true (show 1+(itoa ((w % 100:Nat):Int)++[(46:UInt8)]++itoa ((p % 10000:Nat):Int)).length < 4611686018427387904 by rw [hX]; omega),hX,brK_t,brK_t,brK_t,brK_t]
  generalize 10 ^ (itoa ((p % 10000:Nat):Int)).length=T at *
  generalize w % 100*T=M at *
  have hs:∀ m,scL (mnT m++(itoa ((w % 100:Nat):Int)++46 :: itoa ((p % 10000:Nat):Int)))=some ():=fun m=>scL_eq hN hlen (by omega) (by omega) (by omega) (by omega) (by omega)
  cases g with
  | true=>rw [brK_t,brK_t]; exact hs true
  | false=>rw [brK_f]; exact hs false
 ·simp only [VRL,VR]
  exact ⟨_,_,rfl,⟨rfl,hw.1,hw.2⟩,_,_,rfl,⟨rfl,hp.1,hp.2⟩,_,_,rfl,rfl,rfl⟩
end Go.Proofs.Tryz
namespace Go.Proofs.Tryz
open Go.Ad
open Go.Lib (decDigits itoa nDigits decFrom digitVal)
def isStrR (n:Nat) (f:Nat→List AV):Prop:=(∀ i,i < n→f i=rowS (strOf (f i)))∧∀ s,s ∈ strsOf n f→szOK s=true
noncomputable def T22r:List Lf→Tr (SP × List Lf)
 | [.n n,.n n',.r f,.n ty]=>.br (propB (n'=n∧isStrR n f∧n < 2 ^ 62∧okSum (strsOf n f))) (.leaf (sqL1,lfL n f ty (sumR (strsOf n f)))) .fail
 | _=>.fail
noncomputable def pP1:Prims:=(withAw pS2).addh 22 (liftG 8 (funQ spL1 9 [] T22r))
theorem runS22 (n ty:Nat) (f:Nat→List AV):(runK prog pS2 60).call 22 (spL1.rho [.n n,.n n,.r f,.n ty]) (spL1.heap [.n n,.n n,.r f,.n ty]) (finQ sqL1 9 []) =
  brK (propB (n=n∧isStrs n f∧n < 2 ^ 62∧okSum (strsOf n f))) (some (lfL n f ty (sumR (strsOf n f)))) none:=by kernel_rfl
theorem rows_at {n:Nat} {f:Nat→List AV} (h:∀ i,i < n→f i=rowS (strOf (f i))) (i:Nat) (hi:i < n):f i=rowsS (strsOf n f) i:=by
 unfold rowsS strsOf
 rw [List.getD_eq_getElem?_getD,List.getElem?_map,List.getElem?_range hi]
 exact h i hi
theorem strsOf_congr {n:Nat} {f g:Nat→List AV} (h:∀ i,i < n→f i=g i):strsOf n f=strsOf n g:=by
 unfold strsOf
 refine List.map_congr_left fun i hi=>?_
 rw [h i (List.mem_range.1 hi)]
theorem spL1_heap (n ty:Nat) (f:Nat→List AV):spL1.heap [.n n,.n n,.r f,.n ty]=Bg 8++[.vec n f 1 ty]:=rfl
section
variable {A:Amb} (hT:Tab A) (hE:TabE A) (hR:TabR A) (hG:prog.globals.size≤A.G)
include hT hE hR hG
theorem pP1_ok:PrimOK prog A pP1:=by
 refine (withAw_ok hT hE hG (pS2_ok hT hE hR hG)).addl gsz func22 (by kernel_rfl) (funQ_okC rfl fun ls sq l h=>?_)
 unfold T22r at h
 split at h
 ·rename_i n n' f ty
  obtain ⟨hc,hv⟩:=Tr.br1 h
  obtain ⟨rfl,h1,h2,h3⟩:=propB_eq hc
  cases hv
  refine ⟨frL _ _ _ _,?_⟩
  have hrow:∀ i,i < n'→rowsS (strsOf n' f) i=f i:=fun i hi=>(rows_at h1.1 i hi).symm
  have hss:strsOf n' (rowsS (strsOf n' f))=strsOf n' f:=strsOf_congr hrow
  have his:isStrs n' (rowsS (strsOf n' f)):=by
   unfold isStrs
   rw [hss]
   exact ⟨rfl,h1.2⟩
  have hk:=runS22 n' ty (rowsS (strsOf n' f))
  rw [hss,propB_true ⟨rfl,his,h2,h3⟩,brK_t] at hk
  have hcall:=CallT.of_KQ (A:=A) hmix hnum (pS2_ok hT hE hR hG) (args:=spL1.rho [.n n',.n n',.r (rowsS (strsOf n' f)),.n ty]) (B:=spL1.heap [.n n',.n n',.r (rowsS (strsOf n' f)),.n ty]) (m:=9) (ds:=[]) (sp:=spL1) (sq:=sqL1) rfl rfl rfl rfl hk
  refine CallT.same (B:=spL1.heap [.n n',.n n',.r (rowsS (strsOf n' f)),.n ty]) hcall ⟨rfl,fun b o hb=>?_⟩
  rw [spL1_heap] at hb ⊢
  match b,hb with
  | 0,hb=>exact ⟨_,hb,OSame.refl _⟩
  | 1,hb=>exact ⟨_,hb,OSame.refl _⟩
  | 2,hb=>exact ⟨_,hb,OSame.refl _⟩
  | 3,hb=>exact ⟨_,hb,OSame.refl _⟩
  | 4,hb=>exact ⟨_,hb,OSame.refl _⟩
  | 5,hb=>exact ⟨_,hb,OSame.refl _⟩
  | 6,hb=>exact ⟨_,hb,OSame.refl _⟩
  | 7,hb=>exact ⟨_,hb,OSame.refl _⟩
  | 8,hb=>cases hb; exact ⟨_,rfl,OSame.rows hrow⟩
  | b+9,hb=>simp [Bg] at hb
 ·cases h
end
noncomputable def code8:Code:=f8.body.getD .skip
noncomputable def body8:Code:=unLoop (findB 0 code8)
def spPt:SP:=⟨dr 5++[.int .i64]++dr 1++[.str]++dr 1++[.int .i64]++dr 1++[.list 8]++dr 27++[.int .i64,.int .i64]++dr 42,dd8++[.vec 1 9]⟩
def spPte:SP:=⟨dr 7++[.str]++dr 1++[.int .i64]++dr 1++[.list 8]++dr 71,dd8++[.vec 1 9]⟩
def spPx:AEx→SP
 | .exit _=>spPte
 | _=>spPt
def parT (k:Int) (w:List UInt8):List UInt8:=[49,47]++itoa k++[32]++w
def lfPt (k h:Int) (w:List UInt8) (i:Int) (n:Nat) (r:Nat→List AV):List Lf:=[.i k,.s w,.i h,.n n,.i k,.i i,.n n,.r r]
def lfPte (w:List UInt8) (h:Int) (n:Nat) (r:Nat→List AV):List Lf:=[.s w,.i h,.n n,.n n,.r r]
noncomputable def treePt (k h:Int) (w:List UInt8) (i:Int) (n:Nat) (r:Nat→List AV):Option (AEx × List Lf) :=
 brK (decide (i < k)) (brK (decide (-9223372036854775808≤k∧k≤9223372036854775807)) (brK (decide (2+(itoa k).length < 4611686018427387904)) (brK (decide (([49,47]++itoa k).length+1 < 4611686018427387904)) (brK (decide (([49,47]++itoa k++[32]).length+w.length < 4611686018427387904))
  (brK (decide (n+1 < 2147483648∧n=n)) (some (.normal,lfPt k h w (W (i+1)) (n+1) (addRow n r [.sstr (parT k w)]))) none) none) none) none) none) (some (.exit 0,lfPte w h n r))
theorem roundPt (k h:Int) (w:List UInt8) (i:Int) (n:Nat) (r:Nat→List UInt8):execK prog (runK prog pP1 60) noBps body8 (spPt.rho (lfPt k h w i n (fun i=>rowS (r i)))) (spPt.heap (lfPt k h w i n (fun i=>rowS (r i)))) (nrmP spPx 8 [8]) =
  treePt k h w i n (fun i=>rowS (r i)):=by kernel_rfl
noncomputable def hookPt:Blk:=hookP spPt 8 [8] fun
 | [.i k,.s w,.i h,.n n,.i k2,.i i,.n m,.r _]=>.br (propB (k=k2∧i=0∧n=0∧m=0∧w.length≤5∧0≤k∧k≤40)) (.leaf (.normal,spPte,lfPte w h k.toNat (rowsS (List.replicate k.toNat (parT k w))))) .fail
 | _=>.fail
noncomputable def pP2:Prims:=pP1.addb 8 0 hookPt
theorem rowS_tag:∀ y,tagL (rowS y)=some [.s]:=fun _=>rfl
section
variable {A:Amb} (hT:Tab A) (hE:TabE A) (hR:TabR A) (hG:prog.globals.size≤A.G)
include hT hE hR hG
theorem loopP {k:Nat} {h:Int} {w:List UInt8} (hk:k≤40) (hw:w.length≤5) {Bb:Heap} (hB:Bb.length=8) (r0:Nat→List AV) :
  SEB prog A Bb (.loop body8) ⟨spPt.rho (lfPt k h w (0:Nat) 0 r0),spPt.heap (lfPt k h w (0:Nat) 0 r0),[8]⟩ (.exit 0) ⟨spPte.rho (lfPte w h k (rowsS (List.replicate k (parT k w)))),spPte.heap (lfPte w h k (rowsS (List.replicate k (parT k w)))),[8]⟩:=by
 have hp:=pP1_ok hT hE hR hG
 have l0:(itoa (k:Int)).length≤2:=itoaN_len (by omega) (by omega)
 have hstart:Wk A Bb ⟨spPt.rho (lfPt k h w (0:Nat) 0 r0),spPt.heap (lfPt k h w (0:Nat) 0 r0),[8]⟩ ⟨spPt.rho (lfPt k h w (0:Nat) 0 (rowsS (List.replicate 0 (parT k w)))),spPt.heap (lfPt k h w (0:Nat) 0 (rowsS (List.replicate 0 (parT k w)))),[8]⟩ :=
  Wk.obj (b:=8) (o:=.vec 0 r0 1 9) (o':=.vec 0 (rowsS (List.replicate 0 (parT k w))) 1 9) rfl (fun h=>by rw [hB] at h; omega) (fun h=>h) (fun h=>h) fun ι hh l ho=>OR.rows (fun i hi=>by omega) ho
 refine SEB.wk_in hstart ?_
 refine SEB.loop_nat (A:=A) (B0:=Bb) (c:=body8) (I:=fun j=>⟨spPt.rho (lfPt k h w j j (rowsS (List.replicate j (parT k w)))),spPt.heap (lfPt k h w j j (rowsS (List.replicate j (parT k w)))),[8]⟩) (N:=k) (fun j hj=>?_) ?_ (by simp) (i:=0) (Nat.zero_le _)
 ·have hr:=roundPt k h w j j (fun i=>(List.replicate j (parT k w)).getD i [])
  unfold treePt at hr
  rw [decide_eq_true (show (j:Int) < (k:Int) by omega),decide_eq_true (show -9223372036854775808≤(k:Int)∧(k:Int)≤9223372036854775807 by omega),decide_eq_true (show 2+(itoa (k:Int)).length < 4611686018427387904 by omega),
   decide_eq_true (show ([(49:UInt8),47]++itoa (k:Int)).length+1 < 4611686018427387904 by rw [List.length_append]; simp only [List.length_cons,List.length_nil]; omega),decide_eq_true (show ([(49:UInt8),47]++itoa (k:Int)++[(32:UInt8)]).length+w.length < 4611686018427387904 by rw [List.length_append,List.length_append]; simp only [List.length_cons,List.length_nil]; omega),
   decide_eq_true (show j+1 < 2147483648∧j=j by omega),brK_t,brK_t,brK_t,brK_t,brK_t,brK_t,show W ((j:Int)+1)=((j+1:Nat):Int) by rw [W_id (by omega) (by omega)]; omega] at hr
  have h1:=SEB.of_KP (A:=A) (B0:=Bb) (e:=.normal) hmix hnum hp (.none _) hB hr rfl
  have e:List.replicate (j+1) (parT k w)=List.replicate j (parT k w)++[parT k w]:=by rw [List.replicate_succ']
  have hlen:(List.replicate j (parT k w)).length=j:=List.length_replicate
  have hw2:=Wk.addRow (A:=A) (B0:=Bb) (ρ:=spPt.rho (lfPt k h w ((j+1:Nat):Int) (j+1) (addRow j (rowsS (List.replicate j (parT k w))) [.sstr (parT k w)]))) (B:=spPt.heap (lfPt k h w ((j+1:Nat):Int) (j+1) (addRow j (rowsS (List.replicate j (parT k w))) [.sstr (parT k w)]))) (D:=[8]) (b:=8) (f:=rowS) (d:=[]) (es:=1) (ty:=9) (L:=List.replicate j (parT k w)) (x:=parT k w) (new:=[.sstr (parT k w)]) rowS_tag rfl (by rw [hlen]; rfl) (fun h=>by rw [hB] at h; omega)
  refine (h1.wk_out hw2).wk_out ?_
  rw [hlen,← e]
  exact .refl
 ·have hr:=roundPt k h w k k (fun i=>(List.replicate k (parT k w)).getD i [])
  unfold treePt at hr
  rw [decide_eq_false (show ¬ (k:Int) < (k:Int) by omega),brK_f] at hr
  exact SEB.of_KP (A:=A) (B0:=Bb) (e:=.exit 0) hmix hnum hp (.none _) hB hr rfl
theorem pP2_ok:PrimOK prog A pP2:=by
 refine PrimOK.addbP (pP1_ok hT hE hR hG) func8 (show f8.body=some code8 by kernel_rfl) (body:=.loop body8) (by kernel_rfl) (by kernel_rfl) fun ls e sq l h=>?_
 split at h
 ·rename_i k w h0 n k2 i m r
  obtain ⟨hc,hv⟩:=Tr.br1 h
  obtain ⟨rfl,rfl,rfl,rfl,hw,hk0,hk⟩:=propB_eq hc
  cases hv
  obtain ⟨k,rfl⟩:=Int.eq_ofNat_of_zero_le hk0
  rw [Int.toNat_natCast]
  exact ⟨⟨.inr rfl,.inr rfl,.inr rfl,.inr rfl,.inr rfl,.inr rfl,.inr rfl,.inr rfl,.inl rfl,trivial⟩,fun Bb hB=>SEB.block_exit (loopP hT hE hR hG (by omega) hw hB r)⟩
 ·cases h
end
end Go.Proofs.Tryz
namespace Go.Proofs.Tryz
open Go.Ad
open Go.Lib (decDigits itoa nDigits decFrom digitVal)
noncomputable abbrev sumCn (n:Nat) (f:Nat→List AV) (z:Option Unit):Option Unit:=brK (propB (n=n∧isStrR n f∧n < 2 ^ 62∧okSum (strsOf n f))) z none
noncomputable abbrev partEnd (n:Nat) (f:Nat→List AV):Option Unit:=sumCn n f (brK ((sumR (strsOf n f)).2 == 0) (brK ((sumR (strsOf n f)).1 == 0) (some ()) none) none)
noncomputable abbrev partMid (k:Nat) (w:List UInt8) (h:Int) (L:List (List UInt8)):Option Unit :=
 sumCn k (rowsS L) (brK ((sumR (strsOf k (rowsS L))).2 != 0) none (brK ((sumR (strsOf k (rowsS L))).1 != h) none (brK (decide (3+w.length < 4611686018427387904)) (brK (decide (k+1 < 2147483648∧k=k)) (partEnd (k+1) (addRow k (rowsS L) [.sstr ([45,49,32]++w)])) none) none)))
noncomputable abbrev partK (k:Int) (w:List UInt8) (e:Int) (P:Int × Int):Option Unit :=
 brK (W (e+P.2) != 0) none (brK (decide (P.1 < 1)) none (brK (propB (k=k∧(0:Int)=0∧(0:Nat)=0∧(0:Nat)=0∧w.length≤5∧0≤k∧k≤40)) (partMid k.toNat w P.1 (List.replicate k.toNat (parT k w))) none))
theorem law8 (n u:Int):(runK prog pP2 60).call 8 [.rng .u8 n 0 255,.rng .u8 u 0 255] (Bg 8) goodK =
  brK (decide (2+(woR (u.tmod 3)).1.length < 4611686018427387904)) (brK (szOK ([49,32]++(woR (u.tmod 3)).1)) (partK (1+n.tmod 40) (woR (u.tmod 3)).1 (woR (u.tmod 3)).2 (parR ([49,32]++(woR (u.tmod 3)).1))) none) none:=by kernel_rfl
theorem low_val {A B:Int} (hB:B ≠ 0):∃ N D,ratN (lowT A B)=N∧ratD (lowT A B)=D∧A*D=N*B∧1≤D:=by
 obtain ⟨N,D,r1,r2,_⟩:=low_ex (A:=A) hB
 exact ⟨N,D,r1.n,r1.d,r2,r1.2.1⟩
theorem add_low {a b k:Int} (hk:1≤k):addT (lowT a k) (lowT b k)=lowT (a+b) k:=by
 obtain ⟨N,D,e1,e2,e3,e4⟩:=low_val (A:=a) (B:=k) (by omega)
 obtain ⟨M,E,f1,f2,f3,f4⟩:=low_val (A:=b) (B:=k) (by omega)
 unfold addT
 rw [e1,e2,f1,f2]
 have hDE:1≤D*E:=Int.mul_pos (by omega) (by omega)
 refine low_eq (by omega) (by omega) ?_
 calc (N*E+M*D)*k=(N*k)*E+(M*k)*D:=by rw [Int.add_mul]; congr 1 <;> ac_rfl
  _=(a*D)*E+(b*E)*D:=by rw [e3,f3]
  _=(a+b)*(D*E):=by rw [Int.add_mul]; congr 1 <;> ac_rfl
theorem low_sm2 {a k:Int} (ha:a.natAbs < 10 ^ 18) (hk:1≤k) (hk2:k < 10 ^ 18):smQ (lowT a k):=(low_sm ha hk hk2).1
theorem parts_sum {T:List UInt8} {V k:Int} (hk:1≤k) (hk2:k < 10 ^ 18) (hT:exR T=(lowT V k,0)) (hV:V.natAbs≤10000):∀ (m j:Nat) (R:List (List UInt8)),j+m≤100 →
  sumL (List.replicate m T++R) (lowT (j*V) k)=sumL R (lowT (((j+m:Nat):Int)*V) k)∧(sumOK R (lowT (((j+m:Nat):Int)*V) k)→sumOK (List.replicate m T++R) (lowT (j*V) k))
 | 0,j,R,_=>⟨rfl,fun h=>h⟩
 | m+1,j,R,hj=>by
  obtain ⟨h1,h2⟩:=parts_sum hk hk2 hT hV m (j+1) R (by omega)
  have ea:addT (lowT (j*V) k) (lowT V k)=lowT (((j+1:Nat):Int)*V) k:=by
   rw [add_low hk,show (j:Int)*V+V=((j+1:Nat):Int)*V by rw [Int.natCast_add,Int.add_mul]; simp]
  have hjm:((j:Int)*V).natAbs < 10 ^ 18:=by
   rw [Int.natAbs_mul]
   have:(j:Int).natAbs*V.natAbs≤100*10000:=Nat.mul_le_mul (by omega) hV
   omega
  rw [show j+(m+1)=j+1+m by omega,List.replicate_succ,List.cons_append]
  constructor
  ·show (if (exR T).2 ≠ 0 then _ else _)=_
   rw [hT,if_neg (by simp)]
   dsimp only
   rw [ea]; exact h1
  ·intro h
   refine ⟨low_sm2 hjm hk hk2,fun _=>⟨?_,?_⟩⟩
   ·rw [hT]; exact low_sm2 (by omega) hk hk2
   ·rw [hT]
    dsimp only
    rw [ea]; exact h2 h
theorem low_0 {k:Int} (hk:1≤k):lowT 0 k=[48]:=(Rq.low (A:=0) (B:=k) (N:=0) (D:=1) (by omega) (by omega) Int.gcd_one (by simp)).1.trans rq_x0.1.symm
theorem low_whole {V k:Int} (hk:1≤k):lowT (k*V) k=itoa V:=rq_eq_itoa (Rq.low (by omega) (by omega) Int.gcd_one (by rw [Int.mul_one,Int.mul_comm]))
theorem sumR_of {L:List (List UInt8)} {n:Int} (hl:L.length≤256) (hs:sumL L [48]=.inl (itoa n)) (hr:-100000≤n∧n≤100000):sumR L=(n,0):=by
 unfold sumR
 have e1:sumB L=true:=by unfold sumB; rw [hs]
 have e2:sumX L=itoa n:=by unfold sumX; rw [hs]
 rw [if_neg (by omega),e1,e2,rng_small hr,cond_true,cond_true]
 unfold intR
 rw [(rng_itoa n).2,(rng_itoa n).1,if_pos rfl]
theorem part_text {k u:Nat} (hk:1≤k) (hk2:k≤40) (hu:u≤2):exR (parT (k:Int) (wT u))=(lowT (ratN (vT u)) k,0)∧szOK (parT (k:Int) (wT u))=true:=by
 have hX:=NumT.quo (p:=1) (q:=k) (by omega) hk (by omega)
 have l0:(itoa (k:Int)).length≤2:=itoaN_len (by omega) (by omega)
 have e:parT (k:Int) (wT u)=mnT false++(itoa ((1:Nat):Int)++[47]++itoa (k:Int))++[32]++wT u:=by
  rw [show itoa ((1:Nat):Int)=[49] from itoa_1]; rfl
 have hwl:=wT_len u
 have hl:(mnT false++(itoa ((1:Nat):Int)++[47]++itoa (k:Int))++[32]++wT u).length≤40:=by
  rw [← e]
  unfold parT
  rw [List.length_append,List.length_append,List.length_append]
  simp only [List.length_cons,List.length_nil]
  omega
 obtain ⟨⟨v0,w0⟩,⟨v1,w1⟩,⟨v2,w2⟩,_⟩:=vals
 have hv:1≤ratN (vT u)∧ratN (vT u)≤10000∧ratD (vT u)=1:=by
  match u,hu with
  | 0,_=>rw [v0,w0]; omega
  | 1,_=>rw [v1,w1]; omega
  | 2,_=>rw [v2,w2]; omega
 have he:=exR_mk hX false (wT_unit u (by omega)) hl
 rw [← e] at he hl
 refine ⟨?_,decide_eq_true (by omega)⟩
 rw [he,cond_false]
 have hr:rangeB (mulX (lowT ((1:Nat):Int) k) (vT u))=true:=range_mul (by omega) (wT_unit u (by omega)) (by rw [hv.2.2]; omega) (by rw [hv.2.2]; omega)
 rw [hr,cond_true]
 obtain ⟨N,D,e1,e2,e3,e4⟩:=low_val (A:=((1:Nat):Int)) (B:=(k:Int)) (by omega)
 unfold mulX
 rw [e1,e2,hv.2.2,Int.mul_one]
 have:lowT (N*ratN (vT u)) D=lowT (ratN (vT u)) (k:Int):=low_eq (by omega) (by omega) (by
  calc N*ratN (vT u)*(k:Int)=ratN (vT u)*(N*(k:Int)):=by ac_rfl
   _=ratN (vT u)*D:=by rw [← e3]; simp)
 rw [this]
theorem neg_text {u:Nat} (hu:u≤2):exR ([45,49,32]++wT u)=(lowT (-ratN (vT u)) 1,0)∧szOK ([45,49,32]++wT u)=true∧parR ([49,32]++wT u)=(ratN (vT u),0)∧szOK ([49,32]++wT u)=true:=by
 match u,hu with
 | 0,_=>refine ⟨?_,rfl,?_,rfl⟩ <;> kernel_rfl
 | 1,_=>refine ⟨?_,rfl,?_,rfl⟩ <;> kernel_rfl
 | 2,_=>refine ⟨?_,rfl,?_,rfl⟩ <;> kernel_rfl
theorem strsOf_add {L:List (List UInt8)} {x:List UInt8}:strsOf (L.length+1) (addRow L.length (rowsS L) [.sstr x])=L++[x]∧∀ i,i < L.length+1→addRow L.length (rowsS L) [.sstr x] i=rowsS (L++[x]) i:=by
 have hi:∀ i,i < L.length+1→addRow L.length (rowsS L) [.sstr x] i=rowsS (L++[x]) i:=fun i hi=>by
  rw [addRow_eq (row:=rowsS L) (new:=[.sstr x]) (new':=rowS x) (fun i=>rowS_tag _) rfl (rowS_tag x) i]
  unfold rowsS
  by_cases hlt:i < L.length
  ·rw [if_pos hlt,List.getD_eq_getElem?_getD,List.getD_eq_getElem?_getD,List.getElem?_append_left hlt]
  ·have e:i=L.length:=by omega
   rw [if_neg hlt,e,List.getD_eq_getElem?_getD,List.getElem?_append_right (Nat.le_refl _)]
   simp
 refine ⟨(strsOf_congr hi).trans ?_,hi⟩
 have:=strsOf_rows (L++[x])
 rwa [List.length_append,List.length_singleton] at this
theorem isStrR_of {L:List (List UInt8)} {f:Nat→List AV} (h:∀ i,i < L.length→f i=rowsS L i) (hz:∀ s,s ∈ L→szOK s=true):isStrR L.length f∧strsOf L.length f=L:=by
 have e:strsOf L.length f=L:=(strsOf_congr h).trans (strsOf_rows L)
 refine ⟨⟨fun i hi=>?_,by rw [e]; exact hz⟩,e⟩
 rw [h i hi]; rfl
theorem partK_eq {k u:Nat} (hk:1≤k) (hk2:k≤40) (hu:u≤2):partK (k:Int) (woR (u:Int)).1 (woR (u:Int)).2 (parR ([49,32]++(woR (u:Int)).1))=some ():=by
 have hw:woR (u:Int)=(wT u,0):=by
  unfold woR
  rw [if_neg (by omega),Int.toNat_natCast]
 obtain ⟨t1,t2⟩:=part_text hk hk2 hu
 obtain ⟨n1,n2,n3,n4⟩:=neg_text hu
 obtain ⟨⟨v0,w0⟩,⟨v1,w1⟩,⟨v2,w2⟩,_⟩:=vals
 have hv:1≤ratN (vT u)∧ratN (vT u)≤10000∧(wT u).length≤2:=by
  match u,hu with
  | 0,_=>rw [v0]; exact ⟨by omega,by omega,by decide⟩
  | 1,_=>rw [v1]; exact ⟨by omega,by omega,by decide⟩
  | 2,_=>rw [v2]; exact ⟨by omega,by omega,by decide⟩
 rw [hw]
 dsimp only
 rw [n3]
 generalize hV:ratN (vT u)=V at *
 generalize hL:List.replicate k (parT (k:Int) (wT u))=L
 have hlen:L.length=k:=by rw [← hL]; exact List.length_replicate
 have hmem:∀ s,s ∈ L→szOK s=true:=fun s hs=>by
  rw [← hL] at hs
  rw [List.eq_of_mem_replicate hs]; exact t2
 have h0:lowT (((0:Nat):Int)*V) (k:Int)=[48]:=by
  rw [show ((0:Nat):Int)*V=0 by simp]; exact low_0 (by omega)
 have hp:=fun R=>parts_sum (T:=parT (k:Int) (wT u)) (V:=V) (k:=(k:Int)) (by omega) (by omega) t1 (by omega) k 0 R (by omega)
 rw [h0,hL] at hp
 simp only [Nat.zero_add,low_whole (V:=V) (show 1≤(k:Int) by omega)] at hp
 have s1:sumL L [48]=.inl (itoa V):=by
  have:=(hp []).1
  rwa [List.append_nil] at this
 have q1:smQ (itoa V):=smQ_itoa (by omega)
 have o1:sumOK L [48]:=by
  have:=(hp []).2 q1
  rwa [List.append_nil] at this
 have r1:=sumR_of (by omega) s1 (by omega)
 have ex:addT (itoa V) (lowT (-V) 1)=[48]:=by
  have e:itoa V=lowT V 1:=by have:=low_whole (V:=V) (k:=1) (by omega); rw [Int.one_mul] at this; exact this.symm
  rw [e,add_low (by omega),show V+-V=0 by omega]; exact low_0 (by omega)
 have s2:sumL (L++[[45,49,32]++wT u]) [48]=.inl (itoa 0):=by
  rw [(hp _).1]
  show (if (exR ([45,49,32]++wT u)).2 ≠ 0 then _ else _)=_
  rw [n1,if_neg (by simp)]
  dsimp only
  rw [ex,show itoa 0=[48] from (rq_eq_itoa rq_x0).symm]; rfl
 have o2:sumOK (L++[[45,49,32]++wT u]) [48]:=(hp _).2 ⟨q1,fun _=>⟨by rw [n1]; exact low_sm2 (by omega) (by omega) (by omega),by rw [n1]; dsimp only; rw [ex]; exact sm_x0⟩⟩
 have r2:=sumR_of (by rw [List.length_append,List.length_singleton]; omega) s2 (by omega)
 obtain ⟨a1,a2⟩:=isStrR_of (L:=L) (f:=rowsS L) (fun i _=>rfl) hmem
 obtain ⟨b1,b2⟩:=strsOf_add (L:=L) (x:=[45,49,32]++wT u)
 have hmem2:∀ s,s ∈ L++[[45,49,32]++wT u]→szOK s=true:=fun s hs=>by
  rcases List.mem_append.1 hs with hs | hs
  ·exact hmem s hs
  ·rw [List.mem_singleton.1 hs]; exact n2
 have c1:=(isStrR_of (L:=L++[[45,49,32]++wT u]) (f:=addRow L.length (rowsS L) [.sstr ([45,49,32]++wT u)]) (fun i hi=>b2 i (by rwa [List.length_append,List.length_singleton] at hi)) hmem2).1
 rw [List.length_append,List.length_singleton] at c1
 unfold partK
 rw [show (W (0+0) != 0)=false from rfl,decide_eq_false (show ¬ V < 1 by omega),propB_true ⟨rfl,rfl,rfl,rfl,by omega,by omega,by omega⟩,brK_f,brK_f,brK_t,Int.toNat_natCast,hL]
 unfold partMid partEnd sumCn
 rw [← hlen,a2,b1,r1,r2,propB_true ⟨rfl,a1,by omega,fun _=>o1⟩,propB_true ⟨rfl,c1,by omega,fun _=>o2⟩,decide_eq_true (show 3+(wT u).length < 4611686018427387904 by omega),decide_eq_true (show L.length+1 < 2147483648∧L.length=L.length by omega)]
 simp [brK]
theorem unitsParts (n u:Int) (hn:0≤n∧n≤255) (hu:0≤u∧u≤255) (W:World) (hG:prog.globals.size≤W.heap.size) (hT:Tab (ambOf W)) (hE:TabE (ambOf W)) (hR:TabR (ambOf W)) :
  Calls prog 8 #[.int .u8 n,.int .u8 u] W fun e W'=>e=.returned (.bool true)∧RowKit.Below W.heap.size W W':=by
 refine law_of_K hmix hnum (pP2_ok hT hE hR hG) hG (n:=60) (args:=[.rng .u8 n 0 255,.rng .u8 u 0 255]) ?_ rfl (iotaG 8) _ ?_
 ·rw [gsz]
  refine (law8 n u).trans ?_
  obtain ⟨n,rfl⟩:=Int.eq_ofNat_of_zero_le hn.1
  obtain ⟨u,rfl⟩:=Int.eq_ofNat_of_zero_le hu.1
  have e1:1+((n:Nat):Int).tmod 40=((1+n % 40:Nat):Int):=by
   rw [Int.natCast_add]; rfl
  have e2:((u:Nat):Int).tmod 3=((u % 3:Nat):Int):=rfl
  rw [e1,e2]
  have hw:woR ((u % 3:Nat):Int)=(wT (u % 3),0):=by
   unfold woR
   rw [if_neg (by omega),Int.toNat_natCast]
  have hwl:=wT_len (u % 3)
  have hk:=partK_eq (k:=1+n % 40) (u:=u % 3) (by omega) (by omega) (by omega)
  rw [hk,hw]
  dsimp only
  rw [decide_eq_true (show 2+(wT (u % 3)).length < 4611686018427387904 by omega),(neg_text (u:=u % 3) (by omega)).2.2.2]
  rfl
 ·simp only [VRL,VR]
  exact ⟨_,_,rfl,⟨rfl,hn.1,hn.2⟩,_,_,rfl,⟨rfl,hu.1,hu.2⟩,rfl⟩
end Go.Proofs.Tryz
