/- Decimal digits are read again: ratio.Neg, strings.TrimRight of zeros. -/
import Derived.Test.YtfjgehlpjppggaaGreatDoorD4
import Derived.Test.YtfjgehlpjppggaaGreatDoorScanT
noncomputable section
namespace Go.Proofs.Tryz
open Go.Ad
open Go.Lib (decDigits itoa nDigits decFrom digitVal)
abbrev E9a (x d:List UInt8):Option (List Lf) :=
 brK (d == [49]) (some [.s x,.i 0]) (brK (decide (x.length+1 < 4611686018427387904)) (brK (decide ((x++[47]).length+d.length < 4611686018427387904)) (some [.s (x++[47]++d),.i 0]) none) none)
abbrev D4f (a n d:List UInt8) (e:Int):Option (List Lf) :=
 brK (szH a) (brK (e != 0) (some [.s [],.i e]) (brK (D9 n) (brK ((C9o n).2 != 0) (some [.s [],.i (C9o n).2]) (E9a (C9o n).1 d)) none)) none
theorem G7k (a:List UInt8):(C8 prog pD2 60).call 83 (spS1.rho [.s a]) (spS1.heap [.s a]) (O8 A1i 8 [])=D4f a (V9 a).1.1 (V9 a).1.2 (V9 a).2:=by kernel_rfl
def C6c (a:List UInt8):List UInt8 × Int:=if A0r a ≠ 0 then ([],A0r a) else (A3c (-A7 (H5 a).1) (A7 (H5 a).2.1),0)
theorem F3f {N D:Int} (h1:(itoa N).length<=5000) (h2:(itoa D).length<=5000):E9a (itoa N) (itoa D)=some [.s (A3c N D),.i 0]:=by
 unfold E9a A3c
 cases h:itoa D == [49] with
 | true=>rfl
 | false =>
  have e1:(itoa N++[47]).length+(itoa D).length < 4611686018427387904:=by rw [List.length_append]; simp only [List.length_singleton]; omega
  rw [dT (show (itoa N).length+1 < 4611686018427387904 by omega),dT e1]
  rfl
theorem E3h {a:List UInt8} (h:szH a=true):D4f a (V9 a).1.1 (V9 a).1.2 (V9 a).2=some [.s (C6c a).1,.i (C6c a).2]:=by
 unfold D4f C6c V9
 rw [h,E8]
 by_cases h0:A0r a=0
 ·rw [if_neg (by simpa using h0),if_neg (by simpa using h0)]
  obtain ⟨e1,e2,e3,e4⟩:=C7c h0
  dsimp only
  have hn:C9o (H5 a).1=(itoa (-A7 (H5 a).1),0):=by unfold C9o; rw [if_neg (by simpa using e1)]
  have zd:=X0 e2
  rw [hn,B3c e1,show ((0:Int) != 0)=false from rfl,I8,E8,I8]
  have:=F3f (A8b (D0j e1)) (A8b (N:=A7 (H5 a).2.1) (by rw [<- zd]; exact e2))
  rw [<- zd] at this
  exact this
 ·rw [if_pos h0,if_pos h0]
  dsimp only
  rw [show (A0r a != 0)=true by simpa using h0]; rfl
def T83:List Lf->Tr (SP × List Lf)
 | [.s a]=>.br (szH a) (.leaf (A1i,[.s (C6c a).1,.i (C6c a).2])) .fail
 | _=>.fail
def pE1:Prims:=pD2.addh 83 (G8 8 (funQ spS1 8 [] T83))
theorem G2f {A:Amb} (hT:Tab A) (hG:prog.globals.size<=A.G):PrimOK prog A pE1:=by
 refine (C6z hT hG).addl gsz func83 (by kernel_rfl) (I6 D5 D6 rfl fun ls sq l h=>?_)
 unfold T83 at h
 split at h
 ·rename_i a
  obtain ⟨hc,hv⟩:=Tr.br1 h
  cases hv
  exact ⟨⟨.inr rfl,.inr rfl,.inr rfl,.inr rfl,.inr rfl,.inr rfl,.inr rfl,.inr rfl,trivial⟩,rfl,pD2,60,_,C6z hT hG,(G7k a).trans (E3h hc),fun _ _=>.refl⟩
 ·cases h
end Go.Proofs.Tryz
namespace Go.Proofs.Tryz
open Go.Ad
open Go.Lib (decDigits itoa nDigits decFrom digitVal)
theorem F2h {A B N D:Nat} (hB:0 < B) (hD:0 < D) (hg:Nat.gcd N D=1) (h:A*D=N*B):A5g (A:Int) (B:Int)=A3c (N:Int) (D:Int):=by
 have hdb:D ∣ B:=by
  have h1:D ∣ N*B:=⟨A,by rw [Nat.mul_comm D A]; exact h.symm⟩
  exact Nat.Coprime.dvd_of_dvd_mul_left (show Nat.gcd D N=1 by rw [Nat.gcd_comm]; exact hg) h1
 obtain ⟨g,rfl⟩:=hdb
 have hg0:0 < g:=Nat.pos_of_ne_zero fun e=>by rw [e,Nat.mul_zero] at hB; omega
 have hA:A=N*g:=by
  have h2:D*A=D*(N*g):=by rw [Nat.mul_comm D A,h,<- Nat.mul_assoc,<- Nat.mul_assoc,Nat.mul_comm N D]
  exact Nat.eq_of_mul_eq_mul_left hD h2
 subst hA
 have hgcd:Int.gcd ((N*g:Nat):Int) ((D*g:Nat):Int)=g:=by
  rw [Int.gcd_natCast_natCast,Nat.gcd_mul_right,hg,Nat.one_mul]
 unfold A5g sgG
 rw [if_neg (by omega),hgcd,F8z,F8z,Nat.mul_div_cancel _ hg0,Nat.mul_div_cancel _ hg0]
theorem E2x {N D:Int} (h1:C9 (itoa N)=0) (h2:C9 (itoa D)=0) (hD:1<=D) (hg:Int.gcd N D=1):A0r (A3c N D)=0:=by
 have hc:=E2g N D
 have hw:(H5 (A3c N D)).2.2=true->1 < D:=fun hw=>by
  by_cases h:D=1
  ·subst h
   have:itoa 1 == [49]:=by rw [itoa_1]; rfl
   unfold A3c H5 at hw
   rw [this,cond_true,A4j (B8a N)] at hw
   cases hw
  ·omega
 unfold A0r
 rw [hc.1,hc.2,if_neg (by rw [h1,h2]; simp),if_neg (by rw [h1,h2]; simp),D8,D8,if_neg fun h=>h.2 ⟨hw h.1,hg⟩]
end Go.Proofs.Tryz
namespace Go.Proofs.Tryz
open Go.Ad
open Go.Lib (decDigits itoa nDigits decFrom digitVal)
theorem F6w {s f b:List UInt8} (h0:A0s s=0) (h:NumS s f b):∃ N D:Nat,O6 s=(A3c (N:Int) (D:Int),0)/\0 < D/\Nat.gcd N D=1/\E5 0 (f++b)*D=N*10 ^ b.length/\D ∣ 10 ^ b.length/\N<=E5 0 (f++b):=by
 have hB:0 < 10 ^ b.length:=Nat.pow_pos (by decide)
 have hv:O6 s=(A5g ((E5 0 (f++b):Nat):Int) ((10 ^ b.length:Nat):Int),0):=by
  unfold O6
  rw [if_neg (by rw [h0]; simp),h.cut.1,h.cut.2]; rfl
 generalize hA:E5 0 (f++b)=A at *
 generalize 10 ^ b.length=B at *
 have hg:0 < Nat.gcd A B:=Nat.gcd_pos_of_pos_right _ hB
 have hdA:Nat.gcd A B ∣ A:=Nat.gcd_dvd_left ..
 have hdB:Nat.gcd A B ∣ B:=Nat.gcd_dvd_right ..
 have hD:0 < B / Nat.gcd A B:=Nat.div_pos (Nat.le_of_dvd hB hdB) hg
 have hc:Nat.gcd (A / Nat.gcd A B) (B / Nat.gcd A B)=1:=Nat.coprime_div_gcd_div_gcd hg
 have he:A*(B / Nat.gcd A B)=A / Nat.gcd A B*B:=by
  rw [Nat.mul_comm (A / _),<- Nat.mul_div_assoc _ hdB,<- Nat.mul_div_assoc _ hdA,Nat.mul_comm A B]
 exact ⟨A / Nat.gcd A B,B / Nat.gcd A B,by rw [hv,F2h hB hD hc he],hD,hc,he,Nat.div_dvd_of_dvd hdB,Nat.div_le_self _ _⟩
theorem G2c {s f b:List UInt8} (h:NumS s f b):E5 0 (f++b) < 10 ^ 1024/\10 ^ b.length < 10 ^ 1024:=⟨h.small.2.2,D7p (by
 have:=h.small.2.1
 rw [List.length_append] at this
 omega)⟩
theorem E2i {t:List UInt8} (h0:A0s t=0):A0r (O6 t).1=0/\szH (O6 t).1=true/\D9 t=true/\(O6 t).2=0:=by
 obtain ⟨f,b,h⟩:=B0p h0
 obtain ⟨N,D,hv,hD,hg,he,hdv,hle⟩:=F6w h0 h
 obtain ⟨l1,l2⟩:=G2c h
 have hN:N < 10 ^ 1024:=Nat.lt_of_le_of_lt hle l1
 have hDl:D < 10 ^ 1024:=Nat.lt_of_le_of_lt (Nat.le_of_dvd (Nat.pow_pos (by decide)) hdv) l2
 have i1:=A0p hN (by decide)
 have i2:=A0p hDl (by decide)
 rw [hv]
 refine ⟨E2x (R7 hN) (R7 hDl) (by omega) (by rw [Int.gcd_natCast_natCast]; exact hg),?_,dT (by have:=h.len; omega),rfl⟩
 refine dT ?_
 unfold A3c
 cases itoa (D:Int) == [49] with
 | true=>show (itoa (N:Int)).length < _; omega
 | false =>
  show (itoa (N:Int)++[47]++itoa (D:Int)).length < _
  rw [List.length_append,List.length_append]; simp only [List.length_cons,List.length_nil]; omega
end Go.Proofs.Tryz
namespace Go.Proofs.Tryz
open Go.Ad
open Go.Lib (decDigits itoa nDigits decFrom digitVal)
def txA:List UInt8:=[104,111,108,101,32,65,32,50,53,32,72,55,47,103,54]
def txB:List UInt8:=[97,44,32,40,98,44,32,99,41,44,32,100]
def H2c:AV:=.tuple [.str [50,53,47,50],.int .i64 0]
def H1m:AV:=.tuple [.str [49,50,46,53],.int .i64 0]
def G8r:AV:=.tuple [.str [],.int .i64 14]
def G6t:AV:=.tuple [.str [45,49,46,55,53],.int .i64 0]
def G6b:AV:=.tuple [.str [104,111,108,101,32,65,32,50,53,72,55,47,103,54],.int .i64 0,.int .i64 0]
theorem A6l {n:Nat} (h:n < 10):itoa (n:Int)=[UInt8.ofNat (48+n)]:=A9n h
theorem E0a {n:Nat} (h:n < 100) (h2:10<=n):itoa (n:Int)=[UInt8.ofNat (48+n / 10),UInt8.ofNat (48+n % 10)]:=by
 rw [A1q,A1k (by omega),Q6 (by omega)]
 unfold dig
 rw [Nat.mod_eq_of_lt (show n / 10 < 10 by omega)]
 rfl
theorem H1q:O6 [49,50,46,53,48]=([50,53,47,50],0):=by
 unfold O6
 rw [if_neg (by decide),show ((A7l [49,50,46,53,48]).1++(A7l [49,50,46,53,48]).2.1:List UInt8)=[49,50,53,48] from rfl,show (A7l [49,50,46,53,48]).2.1=([53,48]:List UInt8) from rfl]
 show (A5g 1250 100,(0:Int))=_
 unfold A5g sgG A3c
 rw [if_neg (by decide),show Int.gcd 1250 100=50 from by decide]
 show ((bif itoa ((2:Nat):Int) == [49] then itoa ((25:Nat):Int) else itoa ((25:Nat):Int)++[47]++itoa ((2:Nat):Int)),(0:Int))=_
 rw [A6l (n:=2) (by decide),E0a (n:=25) (by decide) (by decide)]
 rfl
theorem G8v:A8l [50,53,47,50]=([49,50,46,53],0):=by
 unfold A8l
 rw [if_neg (by decide),if_neg (by decide)]
 show (D5l 25 2,(0:Int))=_
 unfold D5l B2w
 rw [if_neg (by decide)]
 show ([]++(itoa ((12:Nat):Int)++(if (1:Nat)=0 then [] else 46 :: A8j 2 (4*(itoa ((2:Nat):Int)).length) 1)),(0:Int))=_
 rw [A6l (n:=2) (by decide),E0a (n:=12) (by decide) (by decide),if_neg (by decide)]
 show (_++(_++46 :: A8j 2 (3+1) 1),(0:Int))=_
 rw [A3k (by decide)]
 show (_++(_++46 :: (itoa ((5:Nat):Int)++A8j 2 3 0)),(0:Int))=_
 rw [A6l (n:=5) (by decide),A5w]
 rfl
theorem G7h:A8l [49,47,51]=([],14):=by
 unfold A8l
 rw [if_neg (by decide),if_pos (by decide)]
theorem G6k:A8l [45,55,47,52]=([45,49,46,55,53],0):=by
 unfold A8l
 rw [if_neg (by decide),if_neg (by decide)]
 show (D5l (-7) 4,(0:Int))=_
 unfold D5l B2w
 rw [if_pos (by decide)]
 show ([45]++(itoa ((1:Nat):Int)++(if (3:Nat)=0 then [] else 46 :: A8j 4 (4*(itoa ((4:Nat):Int)).length) 3)),(0:Int))=_
 rw [A6l (n:=4) (by decide),A6l (n:=1) (by decide),if_neg (by decide)]
 show (_++(_++46 :: A8j 4 (3+1) 3),(0:Int))=_
 rw [A3k (by decide)]
 show (_++(_++46 :: (itoa ((7:Nat):Int)++A8j 4 (2+1) 2)),(0:Int))=_
 rw [A3k (by decide)]
 show (_++(_++46 :: (itoa ((7:Nat):Int)++(itoa ((5:Nat):Int)++A8j 4 2 0))),(0:Int))=_
 rw [A6l (n:=7) (by decide),A6l (n:=5) (by decide),A5w]
 rfl
theorem H1z:(C8 prog pD2 60).call 27 [.str [49,50,46,53,48]] (Bg 8) I4=some (.tuple [.sstr (O6 [49,50,46,53,48]).1,.sint .i64 (O6 [49,50,46,53,48]).2]):=by kernel_rfl
theorem G9p:(C8 prog pD2 60).call 29 [.str [50,53,47,50]] (Bg 8) I4=some (.tuple [.sstr (A8l [50,53,47,50]).1,.sint .i64 (A8l [50,53,47,50]).2]):=by kernel_rfl
theorem G9s:(C8 prog pD2 60).call 29 [.str [49,47,51]] (Bg 8) I4=some (.tuple [.sstr (A8l [49,47,51]).1,.sint .i64 (A8l [49,47,51]).2]):=by kernel_rfl
theorem G8u:(C8 prog pD2 60).call 29 [.str [45,55,47,52]] (Bg 8) I4=some (.tuple [.sstr (A8l [45,55,47,52]).1,.sint .i64 (A8l [45,55,47,52]).2]):=by kernel_rfl
theorem aw5:(C8 prog lib2 400).call 21 [.str txA] (Bg 8) I4=some G6b:=by kernel_rfl
def G9d:List (List AV × AV):=[([.str [49,50,46,53,48]],H2c)]
def G6x:List (List AV × AV):=[([.str [50,53,47,50]],H1m),([.str [49,47,51]],G8r),([.str [45,55,47,52]],G6t)]
def H0w:List (List AV × AV):=[([.str txA],G6b)]
def spS (t:List UInt8):SP:=⟨[.is (.str t)],List.replicate 8 .dead⟩
def sqS (n:Nat):SP:=⟨[.is (.tuple [.slice (some (8,0)) n n,.int .i64 0,.int .i64 0])],List.replicate 8 .dead++[.any]⟩
def D7q:AObj:=.cells [.int .i64 0,.str [104,111,108,101],.int .i64 0,.int .i64 0,.str [65],.int .i64 5,.int .i64 1,.str [50,53],.int .i64 7,.int .i64 0,.str [72,55],.int .i64 10,.int .i64 2,.str [47],.int .i64 12,.int .i64 0,.str [103,54],.int .i64 13,.int .i64 3,.str [],.int .i64 15] 3 true 52
def D6k:AObj:=.cells [.int .i64 0,.str [97],.int .i64 0,.int .i64 2,.str [44],.int .i64 1,.int .i64 2,.str [40],.int .i64 3,.int .i64 0,.str [98],.int .i64 4,.int .i64 2,.str [44],.int .i64 5,.int .i64 0,.str [99],.int .i64 7,.int .i64 2,.str [41],.int .i64 8,.int .i64 2,.str [44],.int .i64 9,.int .i64 0,.str [100],.int .i64 11,.int .i64 3,.str [],.int .i64 12] 3 true 52
theorem aw6:(C8 prog lib2 400).call 18 [.str txA] (Bg 8) (V8 (sqS 7) 8 [])=some [.o D7q]:=by kernel_rfl
theorem aw7:(C8 prog lib2 400).call 18 [.str txB] (Bg 8) (V8 (sqS 10) 8 [])=some [.o D6k]:=by kernel_rfl
def sqE (i e:Int):SP:=⟨[.is (.tuple [.slice none 0 0,.int .i64 i,.int .i64 e])],List.replicate 8 .dead⟩
theorem aw8:(C8 prog lib2 400).call 18 [.str [97,32,48,49]] (Bg 8) (V8 (sqE 2 3) 8 [])=some []:=by kernel_rfl
theorem aw9:(C8 prog lib2 400).call 18 [.str [97,32,63]] (Bg 8) (V8 (sqE 2 4) 8 [])=some []:=by kernel_rfl
theorem H1o:(C8 prog lib2 400).call 18 [.str [51,46]] (Bg 8) (V8 (sqE 1 4) 8 [])=some []:=by kernel_rfl
def F8v:List (SP × SP × List Lf):=[(spS txA,sqS 7,[.o D7q]),(spS txB,sqS 10,[.o D6k]),(spS [97,32,48,49],sqE 2 3,[]),(spS [97,32,63],sqE 2 4,[]),(spS [51,46],sqE 1 4,[])]
theorem C6r {ι:Emb} {s t:List UInt8} {m n:Int} (e:(s,m)=(t,n)) (x:Value) (h:VR ι (.tuple [.sstr s,.sint .i64 m]) x):VR ι (.tuple [.str t,.int .i64 n]) x:=by
 cases e
 refine B4a (fun v h=>?_) (fun v h=>?_) x h
 ·simpa only [VR] using h
 ·simpa only [VR] using h
theorem PrimOK.addtab2 {A:Amb} {prims prims0:Prims} (hp0:PrimOK prog A prims0) (hp:PrimOK prog A prims) (hG:prog.globals.size<=A.G) {f:FuncId} {tab:List (List AV × AV)} {fn:Func}
  (hf:prog.funcs[f]?=some fn) (hc:fn.body.isSome=true)
  (h:∀ p,p ∈ tab->J8 0 p.1=true/\∃ v',below 0 v'=true/\(∀ ι x,VR ι v' x->VR ι p.2 x)/\∃ n,(C8 prog prims0 n).call f p.1 (Bg prog.globals.size) I4=some v'):PrimOK prog A (prims.addt f (C9a tab)):=by
 refine PrimOK.addt3 D5 D6 hp hG hf hc fun args v hv=>?_
 unfold C9a at hv
 split at hv
 ·rename_i p hfind
  cases hv
  obtain ⟨h1,v',h2,h4,n,h3⟩:=h p (List.mem_of_find?_eq_some hfind)
  have he:=A4k (by simpa using List.find?_some hfind:A7k p.1 args=true)
  obtain ⟨B',hca⟩:=Ca.of_finV h3
  exact ⟨prims0,p.1,v',B',hp0,fun ι xs hx=>by rw [he]; exact hx,h4,h1,h2,hca⟩
 ·cases hv
def pA1:Prims:=((lib2.addt 27 (C9a G9d)).addt 29 (C9a G6x)).addt 21 (C9a H0w)
def pA:Prims:=pA1.addh 18 (G8 8 (C7k 8 F8v))
section
variable {A:Amb} (hT:Tab A) (hG:prog.globals.size<=A.G)
include hT hG
theorem G9z:PrimOK prog A pA:=by
 have h0:=K5 hT
 have hD:=C6z hT hG
 refine PrimOK.addl (PrimOK.addtab D5 D6 h0 (PrimOK.addtab2 hD (PrimOK.addtab2 hD h0 hG func27 (by kernel_rfl) ?_) hG func29 (by kernel_rfl) ?_) hG func21 (by kernel_rfl) ?_) gsz func18 (by kernel_rfl) (C1w D5 D6 h0 ?_)
 ·intro p hp
  simp only [G9d,List.mem_cons,List.not_mem_nil,or_false] at hp
  subst hp
  exact ⟨rfl,_,rfl,fun ι x h=>C6r H1q x h,60,H1z⟩
 ·intro p hp
  simp only [G6x,List.mem_cons,List.not_mem_nil,or_false] at hp
  rcases hp with rfl | rfl | rfl
  ·exact ⟨rfl,_,rfl,fun ι x h=>C6r G8v x h,60,G9p⟩
  ·exact ⟨rfl,_,rfl,fun ι x h=>C6r G7h x h,60,G9s⟩
  ·exact ⟨rfl,_,rfl,fun ι x h=>C6r G6k x h,60,G8u⟩
 ·intro p hp
  simp only [H0w,List.mem_cons,List.not_mem_nil,or_false] at hp
  subst hp
  exact ⟨rfl,rfl,400,aw5⟩
 ·intro p hp
  simp only [F8v,List.mem_cons,List.not_mem_nil,or_false] at hp
  have fr:∀ (a b:SP) (l:List Lf),a.h=List.replicate 8 .dead->a.t=[.is (a.rho []).head!]->(∃ r,b.heap l=Bg 8++r)->frP [] 0 (a.heap []) (b.heap l):=fun a b l h1 h2 ⟨r,h3⟩=>by
   rw [h3]
   have:a.heap []=Bg 8:=by unfold SP.heap; rw [h1,h2]; rfl
   rw [this]
   simp [frP,Bg,List.replicate]
  rcases hp with rfl | rfl | rfl | rfl | rfl
  ·exact ⟨rfl,rfl,rfl,fr _ _ _ rfl rfl ⟨[D7q],rfl⟩,400,aw6⟩
  ·exact ⟨rfl,rfl,rfl,fr _ _ _ rfl rfl ⟨[D6k],rfl⟩,400,aw7⟩
  ·exact ⟨rfl,rfl,rfl,fr _ _ _ rfl rfl ⟨[],rfl⟩,400,aw8⟩
  ·exact ⟨rfl,rfl,rfl,fr _ _ _ rfl rfl ⟨[],rfl⟩,400,aw9⟩
  ·exact ⟨rfl,rfl,rfl,fr _ _ _ rfl rfl ⟨[],rfl⟩,400,H1o⟩
end
theorem F2k:(C8 prog pA 400).call 12 [] (Bg 8) I4=some (.bool true):=by kernel_rfl
def B4l (prims:Prims):Prims:=prims.addt 12 (C9a [([],.bool true)])
theorem B4f {A:Amb} (hT:Tab A) (hG:prog.globals.size<=A.G) {prims:Prims} (hp:PrimOK prog A prims):PrimOK prog A (B4l prims):=by
 refine PrimOK.addtab D5 D6 (G9z hT hG) hp hG func12 (by kernel_rfl) fun p hp=>?_
 simp only [List.mem_cons,List.not_mem_nil,or_false] at hp
 subst hp
 exact ⟨rfl,rfl,400,F2k⟩
end Go.Proofs.Tryz
