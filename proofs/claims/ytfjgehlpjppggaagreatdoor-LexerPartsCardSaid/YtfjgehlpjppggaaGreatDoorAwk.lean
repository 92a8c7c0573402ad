/- The lexer's program: the chapter's examples are right, by the contracts of numbers. -/
import Derived.Test.YtfjgehlpjppggaaGreatDoorD4
import Derived.Test.YtfjgehlpjppggaaGreatDoorScanT
namespace Go.Proofs.Tryz
open Go.Ad
open Go.Lib (decDigits itoa nDigits decFrom digitVal)
def txA:List UInt8:=[104,111,108,101,32,65,32,50,53,32,72,55,47,103,54]
def txB:List UInt8:=[97,44,32,40,98,44,32,99,41,44,32,100]
def rVal:AV:=.tuple [.str [50,53,47,50],.int .i64 0]
def rDec1:AV:=.tuple [.str [49,50,46,53],.int .i64 0]
def rDec2:AV:=.tuple [.str [],.int .i64 14]
def rDec3:AV:=.tuple [.str [45,49,46,55,53],.int .i64 0]
def rNor:AV:=.tuple [.str [104,111,108,101,32,65,32,50,53,72,55,47,103,54],.int .i64 0,.int .i64 0]
theorem itoa_1d {n:Nat} (h:n < 10):itoa (n:Int)=[UInt8.ofNat (48+n)]:=itoa_dig h
theorem itoa_2d {n:Nat} (h:n < 100) (h2:10≤n):itoa (n:Int)=[UInt8.ofNat (48+n / 10),UInt8.ofNat (48+n % 10)]:=by
 rw [itoaN,dec_big (by omega),dec_small (by omega)]
 unfold dig
 rw [Nat.mod_eq_of_lt (show n / 10 < 10 by omega)]
 rfl
theorem valA:valR [49,50,46,53,48]=([50,53,47,50],0):=by
 unfold valR
 rw [if_neg (by decide),show ((cutS [49,50,46,53,48]).1++(cutS [49,50,46,53,48]).2.1:List UInt8)=[49,50,53,48] from rfl,show (cutS [49,50,46,53,48]).2.1=([53,48]:List UInt8) from rfl]
 show (lowT 1250 100,(0:Int))=_
 unfold lowT sgG ratT
 rw [if_neg (by decide),show Int.gcd 1250 100=50 from by decide]
 show ((bif itoa ((2:Nat):Int) == [49] then itoa ((25:Nat):Int) else itoa ((25:Nat):Int)++[47]++itoa ((2:Nat):Int)),(0:Int))=_
 rw [itoa_1d (n:=2) (by decide),itoa_2d (n:=25) (by decide) (by decide)]
 rfl
theorem decA1:decR [50,53,47,50]=([49,50,46,53],0):=by
 unfold decR
 rw [if_neg (by decide),if_neg (by decide)]
 show (decT 25 2,(0:Int))=_
 unfold decT fracT
 rw [if_neg (by decide)]
 show ([]++(itoa ((12:Nat):Int)++(if (1:Nat)=0 then [] else 46 :: digs 2 (4*(itoa ((2:Nat):Int)).length) 1)),(0:Int))=_
 rw [itoa_1d (n:=2) (by decide),itoa_2d (n:=12) (by decide) (by decide),if_neg (by decide)]
 show (_++(_++46 :: digs 2 (3+1) 1),(0:Int))=_
 rw [digs_next (by decide)]
 show (_++(_++46 :: (itoa ((5:Nat):Int)++digs 2 3 0)),(0:Int))=_
 rw [itoa_1d (n:=5) (by decide),digs_zero]
 rfl
theorem decA2:decR [49,47,51]=([],14):=by
 unfold decR
 rw [if_neg (by decide),if_pos (by decide)]
theorem decA3:decR [45,55,47,52]=([45,49,46,55,53],0):=by
 unfold decR
 rw [if_neg (by decide),if_neg (by decide)]
 show (decT (-7) 4,(0:Int))=_
 unfold decT fracT
 rw [if_pos (by decide)]
 show ([45]++(itoa ((1:Nat):Int)++(if (3:Nat)=0 then [] else 46 :: digs 4 (4*(itoa ((4:Nat):Int)).length) 3)),(0:Int))=_
 rw [itoa_1d (n:=4) (by decide),itoa_1d (n:=1) (by decide),if_neg (by decide)]
 show (_++(_++46 :: digs 4 (3+1) 3),(0:Int))=_
 rw [digs_next (by decide)]
 show (_++(_++46 :: (itoa ((7:Nat):Int)++digs 4 (2+1) 2)),(0:Int))=_
 rw [digs_next (by decide)]
 show (_++(_++46 :: (itoa ((7:Nat):Int)++(itoa ((5:Nat):Int)++digs 4 2 0))),(0:Int))=_
 rw [itoa_1d (n:=7) (by decide),itoa_1d (n:=5) (by decide),digs_zero]
 rfl
theorem kVal:(runK prog pD2 60).call 27 [.str [49,50,46,53,48]] (Bg 8) finV=some (.tuple [.sstr (valR [49,50,46,53,48]).1,.sint .i64 (valR [49,50,46,53,48]).2]):=by kernel_rfl
theorem kDec1:(runK prog pD2 60).call 29 [.str [50,53,47,50]] (Bg 8) finV=some (.tuple [.sstr (decR [50,53,47,50]).1,.sint .i64 (decR [50,53,47,50]).2]):=by kernel_rfl
theorem kDec2:(runK prog pD2 60).call 29 [.str [49,47,51]] (Bg 8) finV=some (.tuple [.sstr (decR [49,47,51]).1,.sint .i64 (decR [49,47,51]).2]):=by kernel_rfl
theorem kDec3:(runK prog pD2 60).call 29 [.str [45,55,47,52]] (Bg 8) finV=some (.tuple [.sstr (decR [45,55,47,52]).1,.sint .i64 (decR [45,55,47,52]).2]):=by kernel_rfl
theorem aw5:(runK prog lib2 400).call 21 [.str txA] (Bg 8) finV=some rNor:=by kernel_rfl
def tVal:List (List AV × AV):=[([.str [49,50,46,53,48]],rVal)]
def tDec:List (List AV × AV):=[([.str [50,53,47,50]],rDec1),([.str [49,47,51]],rDec2),([.str [45,55,47,52]],rDec3)]
def tNor:List (List AV × AV):=[([.str txA],rNor)]
def spS (t:List UInt8):SP:=⟨[.is (.str t)],List.replicate 8 .dead⟩
def sqS (n:Nat):SP:=⟨[.is (.tuple [.slice (some (8,0)) n n,.int .i64 0,.int .i64 0])],List.replicate 8 .dead++[.any]⟩
def cellsA:AObj:=.cells [.int .i64 0,.str [104,111,108,101],.int .i64 0,.int .i64 0,.str [65],.int .i64 5,.int .i64 1,.str [50,53],.int .i64 7,.int .i64 0,.str [72,55],.int .i64 10,.int .i64 2,.str [47],.int .i64 12,.int .i64 0,.str [103,54],.int .i64 13,.int .i64 3,.str [],.int .i64 15] 3 true 52
def cellsB:AObj:=.cells [.int .i64 0,.str [97],.int .i64 0,.int .i64 2,.str [44],.int .i64 1,.int .i64 2,.str [40],.int .i64 3,.int .i64 0,.str [98],.int .i64 4,.int .i64 2,.str [44],.int .i64 5,.int .i64 0,.str [99],.int .i64 7,.int .i64 2,.str [41],.int .i64 8,.int .i64 2,.str [44],.int .i64 9,.int .i64 0,.str [100],.int .i64 11,.int .i64 3,.str [],.int .i64 12] 3 true 52
theorem aw6:(runK prog lib2 400).call 18 [.str txA] (Bg 8) (finP (sqS 7) 8 [])=some [.o cellsA]:=by kernel_rfl
theorem aw7:(runK prog lib2 400).call 18 [.str txB] (Bg 8) (finP (sqS 10) 8 [])=some [.o cellsB]:=by kernel_rfl
def sqE (i e:Int):SP:=⟨[.is (.tuple [.slice none 0 0,.int .i64 i,.int .i64 e])],List.replicate 8 .dead⟩
theorem aw8:(runK prog lib2 400).call 18 [.str [97,32,48,49]] (Bg 8) (finP (sqE 2 3) 8 [])=some []:=by kernel_rfl
theorem aw9:(runK prog lib2 400).call 18 [.str [97,32,63]] (Bg 8) (finP (sqE 2 4) 8 [])=some []:=by kernel_rfl
theorem aw10:(runK prog lib2 400).call 18 [.str [51,46]] (Bg 8) (finP (sqE 1 4) 8 [])=some []:=by kernel_rfl
def tScan:List (SP × SP × List Lf):=[(spS txA,sqS 7,[.o cellsA]),(spS txB,sqS 10,[.o cellsB]),(spS [97,32,48,49],sqE 2 3,[]),(spS [97,32,63],sqE 2 4,[]),(spS [51,46],sqE 1 4,[])]
theorem vr_res {ι:Emb} {s t:List UInt8} {m n:Int} (e:(s,m)=(t,n)) (x:Value) (h:VR ι (.tuple [.sstr s,.sint .i64 m]) x):VR ι (.tuple [.str t,.int .i64 n]) x:=by
 cases e
 refine vr_tup2 (fun v h=>?_) (fun v h=>?_) x h
 ·simpa only [VR] using h
 ·simpa only [VR] using h
theorem PrimOK.addtab2 {A:Amb} {prims prims0:Prims} (hp0:PrimOK prog A prims0) (hp:PrimOK prog A prims) (hG:prog.globals.size≤A.G) {f:FuncId} {tab:List (List AV × AV)} {fn:Func}
  (hf:prog.funcs[f]?=some fn) (hc:fn.body.isSome=true)
  (h:∀ p,p ∈ tab→belowL 0 p.1=true∧∃ v',below 0 v'=true∧(∀ ι x,VR ι v' x→VR ι p.2 x)∧∃ n,(runK prog prims0 n).call f p.1 (Bg prog.globals.size) finV=some v'):PrimOK prog A (prims.addt f (gTab tab)):=by
 refine PrimOK.addt3 hmix hnum hp hG hf hc fun args v hv=>?_
 unfold gTab at hv
 split at hv
 ·rename_i p hfind
  cases hv
  obtain ⟨h1,v',h2,h4,n,h3⟩:=h p (List.mem_of_find?_eq_some hfind)
  have he:=sameL_eq (by simpa using List.find?_some hfind:sameL p.1 args=true)
  obtain ⟨B',hca⟩:=Ca.of_finV h3
  exact ⟨prims0,p.1,v',B',hp0,fun ι xs hx=>by rw [he]; exact hx,h4,h1,h2,hca⟩
 ·cases hv
def pA1:Prims:=((lib2.addt 27 (gTab tVal)).addt 29 (gTab tDec)).addt 21 (gTab tNor)
def pA:Prims:=pA1.addh 18 (liftG 8 (closedP 8 tScan))
section
variable {A:Amb} (hT:Tab A) (hG:prog.globals.size≤A.G)
include hT hG
theorem pA_ok:PrimOK prog A pA:=by
 have h0:=lib2_ok hT
 have hD:=pD2_ok hT hG
 refine PrimOK.addl (PrimOK.addtab hmix hnum h0 (PrimOK.addtab2 hD (PrimOK.addtab2 hD h0 hG func27 (by kernel_rfl) ?_) hG func29 (by kernel_rfl) ?_) hG func21 (by kernel_rfl) ?_) gsz func18 (by kernel_rfl) (closedP_ok hmix hnum h0 ?_)
 ·intro p hp
  simp only [tVal,List.mem_cons,List.not_mem_nil,or_false] at hp
  subst hp
  exact ⟨rfl,_,rfl,fun ι x h=>vr_res valA x h,60,kVal⟩
 ·intro p hp
  simp only [tDec,List.mem_cons,List.not_mem_nil,or_false] at hp
  rcases hp with rfl | rfl | rfl
  ·exact ⟨rfl,_,rfl,fun ι x h=>vr_res decA1 x h,60,kDec1⟩
  ·exact ⟨rfl,_,rfl,fun ι x h=>vr_res decA2 x h,60,kDec2⟩
  ·exact ⟨rfl,_,rfl,fun ι x h=>vr_res decA3 x h,60,kDec3⟩
 ·intro p hp
  simp only [tNor,List.mem_cons,List.not_mem_nil,or_false] at hp
  subst hp
  exact ⟨rfl,rfl,400,aw5⟩
 ·intro p hp
  simp only [tScan,List.mem_cons,List.not_mem_nil,or_false] at hp
  have fr:∀ (a b:SP) (l:List Lf),a.h=List.replicate 8 .dead→a.t=[.is (a.rho []).head!]→(∃ r,b.heap l=Bg 8++r)→frP [] 0 (a.heap []) (b.heap l):=fun a b l h1 h2 ⟨r,h3⟩=>by
   rw [h3]
   have:a.heap []=Bg 8:=by unfold SP.heap; rw [h1,h2]; rfl
   rw [this]
   simp [frP,Bg,List.replicate]
  rcases hp with rfl | rfl | rfl | rfl | rfl
  ·exact ⟨rfl,rfl,rfl,fr _ _ _ rfl rfl ⟨[cellsA],rfl⟩,400,aw6⟩
  ·exact ⟨rfl,rfl,rfl,fr _ _ _ rfl rfl ⟨[cellsB],rfl⟩,400,aw7⟩
  ·exact ⟨rfl,rfl,rfl,fr _ _ _ rfl rfl ⟨[],rfl⟩,400,aw8⟩
  ·exact ⟨rfl,rfl,rfl,fr _ _ _ rfl rfl ⟨[],rfl⟩,400,aw9⟩
  ·exact ⟨rfl,rfl,rfl,fr _ _ _ rfl rfl ⟨[],rfl⟩,400,aw10⟩
end
theorem awakeRun:(runK prog pA 400).call 12 [] (Bg 8) finV=some (.bool true):=by kernel_rfl
noncomputable def withAwake (prims:Prims):Prims:=prims.addt 12 (gTab [([],.bool true)])
theorem withAwake_ok {A:Amb} (hT:Tab A) (hG:prog.globals.size≤A.G) {prims:Prims} (hp:PrimOK prog A prims):PrimOK prog A (withAwake prims):=by
 refine PrimOK.addtab hmix hnum (pA_ok hT hG) hp hG func12 (by kernel_rfl) fun p hp=>?_
 simp only [List.mem_cons,List.not_mem_nil,or_false] at hp
 subst hp
 exact ⟨rfl,rfl,400,awakeRun⟩
end Go.Proofs.Tryz
namespace Go.Proofs.Tryz
open Go.Ad
open Go.Lib (decDigits itoa nDigits decFrom digitVal)
end Go.Proofs.Tryz
namespace Go.Proofs.Tryz
open Go.Ad
open Go.Lib (decDigits itoa nDigits decFrom digitVal)
end Go.Proofs.Tryz
namespace Go.Proofs.Tryz
open Go.Ad
open Go.Lib (decDigits itoa nDigits decFrom digitVal)
end Go.Proofs.Tryz
