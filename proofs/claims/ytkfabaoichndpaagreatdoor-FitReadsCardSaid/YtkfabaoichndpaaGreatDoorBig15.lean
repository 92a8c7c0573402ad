/- Numbers of any size: quotients that are rounded down, and their remainders. -/
import Derived.Test.YtkfabaoichndpaaGreatDoorBig10
import Derived.Test.YtkfabaoichndpaaGreatDoorAdNum
import Derived.Test.YtkfabaoichndpaaGreatDoorAdPat
import Derived.Test.YtkfabaoichndpaaGreatDoorAdRat
noncomputable section
namespace Go.Proofs.Tryz
open Go.Ad
open Go.Lib (decDigits itoa nDigits)
def D8k:SP:=⟨[.str,.str,.int .i64],dd8⟩
def M4 (a b:List UInt8):(List UInt8 × List UInt8) × Int :=
 if D5 a ≠ 0 then (([],[]),D5 a) else if D5 b ≠ 0 then (([],[]),D5 b) else if b=[48] then (([],[]),10) else ((itoa ((A7 a).fdiv (A7 b)),itoa ((A7 a).fmod (A7 b))),0)
theorem E3i {a b:List UInt8} (h:(A0n a b != 0)=true):M4 a b=(([],[]),A0n a b):=by
 unfold A0n at h ⊢
 unfold M4
 cases h1:D5 a != 0 with
 | true=>rw [if_pos (by simpa using h1)]; rfl
 | false =>
  rw [h1] at h; simp only [cond_false] at h
  rw [if_neg (by simpa using h1),if_pos (by simpa using h)]; rfl
theorem B9z {a b:List UInt8} (h1:D5 a=0) (h2:D5 b=0):M4 a b=if b=[48] then (([],[]),10) else ((itoa ((A7 a).fdiv (A7 b)),itoa ((A7 a).fmod (A7 b))),0):=by
 unfold M4
 rw [if_neg (by rw [h1]; simp),if_neg (by rw [h2]; simp)]
abbrev partT (a b:List UInt8) (small big:Option (List Lf)):Option (List Lf) :=
 brK (F4 a && F4 b) (brK (A0n a b != 0) (some [.s [],.s [],.i (A0n a b)]) (brK (b == [48]) (some [.s [],.s [],.i 10]) (brK (A9 (isZ a/\isZ b)) (brK (A1o a b) small big) none))) none
abbrev C7o (x y:Int):Option (List Lf) :=
 brK (rg (W (x.tdiv y))) (brK (rg (x.tmod y)) (some [.s (itoa (W (x.tdiv y))),.s (itoa (x.tmod y)),.i 0]) none) none
abbrev C1c (x y:Int):Option (List Lf) :=
 brK (decide ¬ y=0) (brK (decide ¬ y=0) (brK (x.tmod y != 0) (brK (!(decide (x.tmod y < 0) == decide (y < 0)))
  (brK (rg (W (W (x.tdiv y) - 1))) (brK (rg (W (x.tmod y+y))) (some [.s (itoa (W (W (x.tdiv y) - 1))),.s (itoa (W (x.tmod y+y))),.i 0]) none) none) (C7o x y)) (C7o x y)) none) none
abbrev A8t (q:Bool) (Q:Nat) (la:Bool) (R:Nat):Option (List Lf) :=
 brK (A9 (232=232/\isW (wn Q:Int) (wf Q))) (brK (A9 (232=232/\isW (wn R:Int) (wf R))) (some [.s (itoa (sv q (E9 (wn Q:Int) (wf Q)))),.s (itoa (sv la (E9 (wn R:Int) (wf R)))),.i 0]) none) none
abbrev E5c (U Q R:Nat) (p q:Bool × Nat):Option (List Lf) :=
 brK (A9 (232=232/\232=232/\isW (wn Q:Int) (wf Q)/\isW 1 (Y4 (fun _=>0) 0 1)/\wn (E9 (wn Q:Int) (wf Q)+E9 1 (Y4 (fun _=>0) 0 1))<=232))
  (brK (A9 (232=232/\232=232/\isW (wn R:Int) (wf R)/\isW (wn U:Int) (wf U)/\wn (E9 (wn R:Int) (wf R)+E9 (wn U:Int) (wf U))<=232))
   (A8t p.1 p.2 q.1 q.2) none) none
abbrev E8f (a b:List UInt8) (la lb:Bool) (V U Q R:Nat):Option (List Lf) :=
 brK (A9 (isZ a/\wn V<=232)) (brK (A9 (isZ b/\wn U<=232)) (brK (A9 (232=232/\232=232/\isW (wn V:Int) (wf V)/\isW (wn U:Int) (wf U)/\(wn U:Int)<=231/\0 < E9 (wn U:Int) (wf U)))
  (brK (decide ((wn R:Int) > 0)) (brK (!(la == lb)) (E5c U Q R (A0o true (E9 (wn Q:Int) (wf Q)) true (E9 1 (Y4 (fun _=>0) 0 1))) (A0o la (E9 (wn R:Int) (wf R)) lb (E9 (wn U:Int) (wf U)))) (A8t (!(la == lb)) Q la R)) (A8t (!(la == lb)) Q la R)) none) none) none
abbrev C4x (a b:List UInt8) (la lb:Bool) (V U:Nat):Option (List Lf) :=
 E8f a b la lb V U (E9 (wn V:Int) (wf V) / E9 (wn U:Int) (wf U)) (E9 (wn V:Int) (wf V) % E9 (wn U:Int) (wf U))
theorem F9f (a b:List UInt8):(C9 prog pBig20 60).call 75 (spSS.rho [.s a,.s b]) (spSS.heap [.s a,.s b]) (V7 D8k 8 []) =
  partT a b (C1c (bif A1o a b then A7 a else 0) (bif A1o a b then A7 b else 0)) (C4x a b (decide (A7 a < 0)) (decide (A7 b < 0)) (A7 a).natAbs (A7 b).natAbs):=by kernel_rfl
theorem A8k {A B q r:Int} (h:r+B*q=A) (h2:(0 < B/\0<=r/\r < B) \/ (B < 0/\B < r/\r<=0)):A.fdiv B=q/\A.fmod B=r:=by
 rcases h2 with ⟨hB,h1,h2⟩ | ⟨hB,h1,h2⟩
 ·exact (Int.fdiv_fmod_unique hB).2 ⟨h,h1,h2⟩
 ·exact (Int.fdiv_fmod_unique' hB).2 ⟨h,h1,h2⟩
theorem C8t {x y:Int} (hy:y ≠ 0) (x1:-1000000000 < x) (x2:x < 1000000000) (y1:-1000000000 < y) (y2:y < 1000000000) :
  C1c x y=some [.s (itoa (x.fdiv y)),.s (itoa (x.fmod y)),.i 0]:=by
 have h0:=Int.tmod_add_mul_tdiv x y
 have hr:(x.tmod y).natAbs < y.natAbs:=by
  rw [Int.natAbs_tmod]
  exact Nat.mod_lt _ (by omega)
 have hq:(x.tdiv y).natAbs<=x.natAbs:=by
  rw [Int.natAbs_tdiv]
  exact Nat.div_le_self _ _
 unfold C1c C7o
 generalize x.tmod y=r at *
 generalize x.tdiv y=q at *
 rw [R4 (n:=q) (by omega) (by omega),R4 (n:=q - 1) (by omega) (by omega),dT hy,E5,E5,R4 (n:=r+y) (by omega) (by omega)]
 have e1:rg (q - 1)=true:=dT ⟨by omega,by omega⟩
 have e2:rg (r+y)=true:=dT ⟨by omega,by omega⟩
 have e3:rg q=true:=dT ⟨by omega,by omega⟩
 have e4:rg r=true:=dT ⟨by omega,by omega⟩
 rw [e1,e2,e3,e4]
 by_cases hr0:r=0
 ·obtain ⟨f1,f2⟩:=A8k (A:=x) (B:=y) (q:=q) (r:=r) h0 (by omega)
  rw [f1,f2,show (r != 0)=false by simpa using hr0]; rfl
 ·rw [show (r != 0)=true by simpa using hr0]
  by_cases hs:(r < 0 ↔ y < 0)
  ·obtain ⟨f1,f2⟩:=A8k (A:=x) (B:=y) (q:=q) (r:=r) h0 (by omega)
   rw [f1,f2,show (decide (r < 0) == decide (y < 0))=true by rw [beq_iff_eq]; exact decide_eq_decide.2 hs]; rfl
  ·have hm:y*(q - 1)=y*q - y:=by rw [Int.mul_sub,Int.mul_one]
   obtain ⟨f1,f2⟩:=A8k (A:=x) (B:=y) (q:=q - 1) (r:=r+y) (by rw [hm]; omega) (by omega)
   rw [f1,f2,show (decide (r < 0) == decide (y < 0))=false by rw [beq_eq_false_iff_ne]; exact fun e=>hs (decide_eq_decide.1 e)]; rfl
theorem B6d {q la:Bool} {Q R:Nat} (hQ:wn Q<=232) (hR:wn R<=232):A8t q Q la R=some [.s (itoa (sv q Q)),.s (itoa (sv la R)),.i 0]:=by
 unfold A8t
 rw [G8,G8,A8 (show 232=232/\isW (wn Q:Int) (wf Q) from ⟨rfl,M9 hQ⟩),A8 (show 232=232/\isW (wn R:Int) (wf R) from ⟨rfl,M9 hR⟩)]
 rfl
theorem H0r:isW 1 (Y4 (fun _=>0) 0 1)/\E9 1 (Y4 (fun _=>0) 0 1)=1:=by
 have h1:wn 1=1:=by
  have a:=A0a (V:=1) (n:=1) (by decide)
  have b:=(C4j (V:=1) (n:=0)).1
  rcases Nat.lt_or_ge (wn 1) 1 with h | h
  ·have:=b (by omega); simp at this
  ·omega
 have h2:Y4 (fun _=>0) 0 1=wf 1:=by
  funext i
  unfold Y4 wf
  by_cases hi:i=0
  ·subst hi; rfl
  ·rw [A3k (by rw [h1]; omega)]
   simp [hi]
 rw [h2]
 have h3:=G8 1
 have h4:=M9 (V:=1) (by rw [h1]; omega)
 rw [h1] at h3 h4
 exact ⟨h4,h3⟩
theorem G9n {V:Nat}:wn V=0 ↔ V=0:=by
 constructor
 ·intro h
  have:=(C4j (V:=V) (n:=0)).1 (by omega)
  simpa using this
 ·intro h; subst h; exact Y9
theorem E2g {a b:List UInt8} {la lb:Bool} {V U:Nat} (ha:isZ a) (hb:isZ b) (hV:wn V<=114) (hU:wn U<=114) (h0:U ≠ 0) :
  C4x a b la lb V U=some [.s (itoa ((sv la V).fdiv (sv lb U))),.s (itoa ((sv la V).fmod (sv lb U))),.i 0]:=by
 unfold C4x
 rw [G8,G8]
 have hdm:=Nat.div_add_mod V U
 have hlt:=Nat.mod_lt V (Nat.pos_of_ne_zero h0)
 have hQ:wn (V / U)<=114:=Nat.le_trans (A3c (Nat.div_le_self _ _)) hV
 have hR:wn (V % U)<=114:=Nat.le_trans (A3c (Nat.mod_le _ _)) hV
 generalize V / U=Q at *
 generalize V % U=R at *
 unfold E8f
 obtain ⟨o1,o2⟩:=H0r
 have hZ:(V:Int)=(U:Int)*(Q:Int)+(R:Int):=by exact_mod_cast hdm.symm
 rw [G8,G8,G8,o2,A8 (show isZ a/\wn V<=232 from ⟨ha,by omega⟩),A8 (show isZ b/\wn U<=232 from ⟨hb,by omega⟩),
  A8 (show 232=232/\232=232/\isW (wn V:Int) (wf V)/\isW (wn U:Int) (wf U)/\(wn U:Int)<=231/\0 < U from ⟨rfl,rfl,M9 (by omega),M9 (by omega),by omega,by omega⟩),E5,E5,E5,
  B6d (by omega) (by omega)]
 have fl:=@A8k (sv la V) (sv lb U)
 generalize hm:(U:Int)*(Q:Int)=m at *
 have hm1:(U:Int)*-(Q:Int)=-m:=by rw [Int.mul_neg,hm]
 have hm2:-(U:Int)*(Q:Int)=-m:=by rw [Int.neg_mul,hm]
 have hm3:-(U:Int)*-(Q:Int)=m:=by rw [Int.neg_mul,Int.mul_neg,Int.neg_neg,hm]
 have hm4:(U:Int)*(-(Q:Int) - 1)=-m - U:=by rw [Int.mul_sub,Int.mul_one,hm1]
 have hm5:-(U:Int)*(-(Q:Int) - 1)=m+U:=by rw [Int.mul_sub,Int.mul_one,hm3]; omega
 by_cases hR0:R=0
 ·subst hR0
  rw [Y9,dF (show ¬ ((0:Nat):Int) > 0 by omega),I4]
  have:(sv la V).fdiv (sv lb U)=sv (!(la == lb)) Q/\(sv la V).fmod (sv lb U)=sv la 0:=by
   cases la <;> cases lb <;> (refine fl ?_ ?_) <;> simp only [show (!(true == true))=false from rfl,show (!(false == false))=false from rfl,show (!(true == false))=true from rfl,show (!(false == true))=true from rfl,B1d,B4x,hm,hm1,hm2,hm3] <;> omega
  rw [this.1,this.2]
 ·have hwR:wn R ≠ 0:=fun e=>hR0 (G9n.1 e)
  rw [dT (show ((wn R:Nat):Int) > 0 by omega),E5]
  cases hl:(la == lb) with
  | true =>
   have hle:la=lb:=by simpa using hl
   subst hle
   have:(sv la V).fdiv (sv la U)=sv false Q/\(sv la V).fmod (sv la U)=sv la R:=by
    cases la <;> (refine fl ?_ ?_) <;> simp only [B1d,B4x,hm,hm2] <;> omega
   rw [this.1,this.2]; rfl
  | false =>
   have hp:=B3o true Q true 1
   have hp2:=B3f true Q true 1
   have hq:=B3o la R lb U
   have hq2:=B3f la R lb U
   have w1:=D5b hQ (show wn 1<=114 by
    have:=A0a (V:=1) (n:=1) (by decide)
    omega)
   have w2:=D5b hR hU
   generalize A0o true Q true 1=p at *
   generalize A0o la R lb U=q at *
   unfold E5c
   rw [G8,G8,G8,o2,A8 (show 232=232/\232=232/\isW (wn Q:Int) (wf Q)/\isW 1 (Y4 (fun _=>0) 0 1)/\wn (Q+1)<=232 from ⟨rfl,rfl,M9 (by omega),o1,by omega⟩),
    A8 (show 232=232/\232=232/\isW (wn R:Int) (wf R)/\isW (wn U:Int) (wf U)/\wn (R+U)<=232 from ⟨rfl,rfl,M9 (by omega),M9 (by omega),by omega⟩),
    B6d (Nat.le_trans (A3c hp2) (by omega)) (Nat.le_trans (A3c hq2) (by omega)),hp,hq]
   have:(sv la V).fdiv (sv lb U)=sv true Q+sv true 1/\(sv la V).fmod (sv lb U)=sv la R+sv lb U:=by
    have e1:sv true Q+sv true 1=-(Q:Int) - 1:=by simp only [B1d]; omega
    rw [e1]
    cases la <;> cases lb <;> first | exact absurd hl (by decide) | ((refine fl ?_ ?_) <;> simp only [B1d,B4x,hm4,hm5] <;> omega)
   rw [this.1,this.2]
   rfl
def G5m:List Lf->Tr (SP × List Lf)
 | [.s a,.s b]=>.br (F4 a && F4 b) (.leaf (D8k,[.s (M4 a b).1.1,.s (M4 a b).1.2,.i (M4 a b).2])) .fail
 | _=>.fail
def pBig21:Prims:=pBig20.addh 75 (H9 8 (funQ spSS 8 [] G5m))
theorem A5t {A:Amb} (hT:Tab A) (hG:gN prog<=A.G):PrimOK prog A pBig21:=by
 refine (C2z hT hG).addl gsz func75 (by kernel_rfl) (J7 D6 D7 rfl fun ls sq l h=>?_)
 unfold G5m at h
 split at h
 ·rename_i a b
  obtain ⟨hc,hv⟩:=Tr.br1 h
  cases hv
  refine ⟨⟨.inr rfl,.inr rfl,.inr rfl,.inr rfl,.inr rfl,.inr rfl,.inr rfl,.inr rfl,trivial⟩,rfl,pBig20,60,_,C2z hT hG,(F9f a b).trans ?_,fun _ _=>.refl⟩
  unfold partT
  rw [hc,E5]
  cases h:A0n a b != 0 with
  | true=>rw [E3i h]; rfl
  | false =>
   obtain ⟨h1,h2⟩:=C1o h
   rw [B9z h1 h2,I4]
   have w1:=Q0 h1
   have w2:=Q0 h2
   by_cases hb:b=[48]
   ·subst hb; rfl
   ·have hB:A7 b ≠ 0:=fun e=>by
     have:=w2.1
     unfold isZ at this
     rw [e,itoa0] at this
     exact hb this
    rw [if_neg hb,show (b == [48])=false by simpa using hb,I4,A8 ⟨w1.1,w2.1⟩,E5]
    cases hm:A1o a b with
    | true =>
     obtain ⟨⟨a1,a2⟩,b1,b2⟩:=D7e w1.1 w2.1 hm
     rw [E5]
     exact C8t hB a1 a2 b1 b2
    | false =>
     rw [I4,E2g w1.1 w2.1 w1.2 w2.2 (by omega),B6i,B6i]
 ·cases h
end Go.Proofs.Tryz
namespace Go.Proofs.Tryz
open Go.Ad
open Go.Lib (decDigits itoa nDigits)
def G9v:SP:=⟨[.int .i64,.int .i64],dd8⟩
def C2o (a b:List UInt8):Int × Int:=if D5 a ≠ 0 then (0,D5 a) else if D5 b ≠ 0 then (0,D5 b) else (K7 (A7 a - A7 b),0)
theorem E5q {a b:List UInt8} (h:(A0n a b != 0)=true):C2o a b=(0,A0n a b):=by
 unfold A0n at h ⊢
 unfold C2o
 cases h1:D5 a != 0 with
 | true=>rw [if_pos (by simpa using h1)]; rfl
 | false =>
  rw [h1] at h; simp only [cond_false] at h
  rw [if_neg (by simpa using h1),if_pos (by simpa using h)]; rfl
theorem D8f {a b:List UInt8} (h1:D5 a=0) (h2:D5 b=0):C2o a b=(K7 (A7 a - A7 b),0):=by
 unfold C2o
 rw [if_neg (by rw [h1]; simp),if_neg (by rw [h2]; simp)]
theorem C3a {Z:Int} (h:wn Z.natAbs<=232):F4 (itoa Z)=true:=by
 refine dT ?_
 have h1:=A3z Z
 have h2:=B3p h
 omega
theorem H0p (a b:List UInt8):(C9 prog pBig21 60).call 41 (spSS.rho [.s a,.s b]) (spSS.heap [.s a,.s b]) (V7 A1s 8 []) =
  brK (F4 a && F4 b) (brK ((M4 a b).2 != 0) (some [.s [],.i (M4 a b).2]) (brK (F4 (M4 a b).1.1) (brK (D5 (M4 a b).1.1 != 0) (some [.s [],.i (D5 (M4 a b).1.1)]) (some [.s (M4 a b).1.1,.i 0])) none)) none:=by kernel_rfl
theorem H0o (a b:List UInt8):(C9 prog pBig21 60).call 43 (spSS.rho [.s a,.s b]) (spSS.heap [.s a,.s b]) (V7 A1s 8 []) =
  brK (F4 a && F4 b) (some [.s (M4 a b).1.2,.i (M4 a b).2]) none:=by kernel_rfl
theorem E3b (a b:List UInt8):((M4 a b).2 ≠ 0/\(M4 a b).1.1=[]) \/ ((M4 a b).2=0/\D5 (M4 a b).1.1=0/\F4 (M4 a b).1.1=true):=by
 unfold M4
 by_cases h1:D5 a=0
 ·rw [if_neg (by simpa using h1)]
  by_cases h2:D5 b=0
  ·rw [if_neg (by simpa using h2)]
   by_cases h3:b=[48]
   ·rw [if_pos h3]; exact .inl ⟨by simp,rfl⟩
   ·rw [if_neg h3]
    obtain ⟨z1,z2⟩:=Q0 h1
    have hle:=Int.natAbs_fdiv_le_natAbs (A7 a) (A7 b)
    have he:D5 (itoa (A7 a))=0:=by
     unfold isZ at z1
     rw [<- z1]; exact h1
    exact .inr ⟨rfl,Y7 he hle,C3a (Nat.le_trans (A3c hle) (by omega))⟩
  ·rw [if_pos h2]; exact .inl ⟨h2,rfl⟩
 ·rw [if_pos h1]; exact .inl ⟨h1,rfl⟩
abbrev D2j (s:Int) (c:Int) (p q:List UInt8):Option (List Lf) :=
 brK ((p.length:Int) != (q.length:Int)) (brK (decide ((p.length:Int) < (q.length:Int))) (some [.i (W (s*-1)),.i 0]) (some [.i (W (s*1)),.i 0])) (some [.i (W (s*c)),.i 0])
theorem F9y (a b:List UInt8):(C9 prog pBig21 60).call 113 (spSS.rho [.s a,.s b]) (spSS.heap [.s a,.s b]) (V7 G9v 8 []) =
  brK (F4 a && F4 b) (brK (A0n a b != 0) (some [.i 0,.i (A0n a b)]) (brK (A9 (isZ a)) (brK (A9 (isZ b)) (brK (decide (K7 (A7 a) < K7 (A7 b))) (some [.i (-1),.i 0])
   (brK (A9 (isZ b)) (brK (decide (K7 (A7 a) > K7 (A7 b))) (some [.i 1,.i 0]) (D2j (K7 (A7 a)) (Lib.compareBytes (F6 a) (F6 b)) (F6 a) (F6 b))) none)) none) none)) none:=by kernel_rfl
theorem E3t (V U:Nat) (s:Int) (h:-1<=s/\s<=1):D2j s (Lib.compareBytes (decDigits V) (decDigits U)) (decDigits V) (decDigits U)=some [.i (s*K7 ((V:Int) - U)),.i 0]:=by
 have h2:=E9c ((V:Int) - U)
 rw [<- E0w] at h2 ⊢
 unfold D2j
 have wi:∀ t:Int,-1<=t/\t<=1->W (s*t)=s*t:=fun t ht=>by
  have:s=-1 \/ s=0 \/ s=1:=by omega
  have:t=-1 \/ t=0 \/ t=1:=by omega
  apply R4 <;> rcases ‹s=-1 \/ s=0 \/ s=1› with rfl | rfl | rfl <;> omega
 by_cases hl:(decDigits V).length=(decDigits U).length
 ·rw [if_neg (by omega)] at h2 ⊢
  rw [hl,show (((decDigits U).length:Int) != ((decDigits U).length:Int))=false by simp,wi _ h2]
  rfl
 ·rw [if_pos hl,show (((decDigits V).length:Int) != ((decDigits U).length:Int))=true by simp; omega]
  by_cases hlt:(decDigits V).length < (decDigits U).length
  ·rw [if_pos hlt,dT (show ((decDigits V).length:Int) < ((decDigits U).length:Int) by omega),wi (-1) (by omega)]; rfl
  ·rw [if_neg hlt,dF (show ¬ ((decDigits V).length:Int) < ((decDigits U).length:Int) by omega),wi 1 (by omega)]; rfl
theorem G2g (a b:List UInt8):(C9 prog pBig21 60).call 164 (spSS.rho [.s a,.s b]) (spSS.heap [.s a,.s b]) (V7 A1s 8 []) =
  brK (F4 a && F4 b) (brK (A0n a b != 0) (some [.s [],.i (A0n a b)]) (brK (A9 (isZ b/\b.length<=1000000000)) (brK (F4 a && F4 (itoa (-(A7 b)))) (some [.s (B0f (·+·) a (itoa (-(A7 b)))).1,.i (B0f (·+·) a (itoa (-(A7 b)))).2]) none) none)) none:=by kernel_rfl
theorem C5c {a:List UInt8} (h:isZ a) (hw:wn (A7 a).natAbs<=232):a.length<=2089:=by
 unfold isZ at h
 rw [h]
 have h1:=A3z (A7 a)
 have h2:=B3p hw
 omega
def T67:List Lf->Tr (SP × List Lf)
 | [.s a,.s b]=>.br (F4 a && F4 b) (.leaf (A1s,[.s (M4 a b).1.1,.i (M4 a b).2])) .fail
 | _=>.fail
def T68:List Lf->Tr (SP × List Lf)
 | [.s a,.s b]=>.br (F4 a && F4 b) (.leaf (A1s,[.s (M4 a b).1.2,.i (M4 a b).2])) .fail
 | _=>.fail
def G8a:List Lf->Tr (SP × List Lf)
 | [.s a,.s b]=>.br (F4 a && F4 b) (.leaf (G9v,[.i (C2o a b).1,.i (C2o a b).2])) .fail
 | _=>.fail
def pBig22:Prims:=(((pBig21.addh 41 (H9 8 (funQ spSS 8 [] T67))).addh 43 (H9 8 (funQ spSS 8 [] T68))).addh 113 (H9 8 (funQ spSS 8 [] G8a))).addh 164 (H9 8 (funQ spSS 8 [] (E2i (· - ·))))
theorem A6h {A:Amb} (hT:Tab A) (hG:gN prog<=A.G):PrimOK prog A pBig22:=by
 refine PrimOK.addl (PrimOK.addl (PrimOK.addl ((A5t hT hG).addl gsz func41 (by kernel_rfl) (J7 D6 D7 rfl fun ls sq l h=>?_)) gsz func43 (by kernel_rfl) (J7 D6 D7 rfl fun ls sq l h=>?_))
  gsz func113 (by kernel_rfl) (J7 D6 D7 rfl fun ls sq l h=>?_)) gsz func164 (by kernel_rfl) (J7 D6 D7 rfl fun ls sq l h=>?_)
 ·unfold T67 at h
  split at h
  ·rename_i a b
   obtain ⟨hc,hv⟩:=Tr.br1 h
   cases hv
   refine ⟨⟨.inr rfl,.inr rfl,.inr rfl,.inr rfl,.inr rfl,.inr rfl,.inr rfl,.inr rfl,trivial⟩,rfl,pBig21,60,_,A5t hT hG,(H0p a b).trans ?_,fun _ _=>.refl⟩
   rw [hc,E5]
   rcases E3b a b with ⟨h1,h2⟩ | ⟨h1,h2,h3⟩
   ·rw [show ((M4 a b).2 != 0)=true by simpa using h1,h2]; rfl
   ·rw [show ((M4 a b).2 != 0)=false by simpa using h1,h3,h1,show (D5 (M4 a b).1.1 != 0)=false by simpa using h2]; rfl
  ·cases h
 ·unfold T68 at h
  split at h
  ·rename_i a b
   obtain ⟨hc,hv⟩:=Tr.br1 h
   cases hv
   refine ⟨⟨.inr rfl,.inr rfl,.inr rfl,.inr rfl,.inr rfl,.inr rfl,.inr rfl,.inr rfl,trivial⟩,rfl,pBig21,60,_,A5t hT hG,(H0o a b).trans ?_,fun _ _=>.refl⟩
   rw [hc]; rfl
  ·cases h
 ·unfold G8a at h
  split at h
  ·rename_i a b
   obtain ⟨hc,hv⟩:=Tr.br1 h
   cases hv
   refine ⟨⟨.inr rfl,.inr rfl,.inr rfl,.inr rfl,.inr rfl,.inr rfl,.inr rfl,.inr rfl,trivial⟩,rfl,pBig21,60,_,A5t hT hG,(F9y a b).trans ?_,fun _ _=>.refl⟩
   rw [hc,E5]
   cases h:A0n a b != 0 with
   | true=>rw [E5q h]; rfl
   | false =>
    obtain ⟨h1,h2⟩:=C1o h
    rw [D8f h1 h2,I4]
    obtain ⟨z1,w1⟩:=Q0 h1
    obtain ⟨z2,w2⟩:=Q0 h2
    rw [A8 z1,A8 z2,E5,E5,E5]
    by_cases hlt:K7 (A7 a) < K7 (A7 b)
    ·rw [dT hlt,G0p hlt]; rfl
    ·by_cases hgt:K7 (A7 a) > K7 (A7 b)
     ·rw [dF hlt,dT hgt,F8u hgt]; rfl
     ·have ea:F6 a=decDigits (A7 a).natAbs:=by
       have:=B4f (A7 a)
       unfold isZ at z1
       rwa [<- z1] at this
      have eb:F6 b=decDigits (A7 b).natAbs:=by
       have:=B4f (A7 b)
       unfold isZ at z2
       rwa [<- z2] at this
      rw [dF hlt,dF hgt,I4,I4,ea,eb,E3t _ _ _ (E9c _),F3s _ _ hlt hgt]
  ·cases h
 ·unfold E2i at h
  split at h
  ·rename_i a b
   obtain ⟨hc,hv⟩:=Tr.br1 h
   cases hv
   refine ⟨⟨.inr rfl,.inr rfl,.inr rfl,.inr rfl,.inr rfl,.inr rfl,.inr rfl,.inr rfl,trivial⟩,rfl,pBig21,60,_,A5t hT hG,(G2g a b).trans ?_,fun _ _=>.refl⟩
   rw [hc,E5]
   cases h:A0n a b != 0 with
   | true=>rw [D1e _ h]; rfl
   | false =>
    obtain ⟨h1,h2⟩:=C1o h
    rw [A9h _ h1 h2,I4]
    obtain ⟨z2,w2⟩:=Q0 h2
    have hl:=C5c z2 (by omega)
    have he:D5 (itoa (-(A7 b)))=0:=by
     refine Y7 (A:=A7 b) ?_ (by omega)
     unfold isZ at z2
     rw [<- z2]; exact h2
    rw [Bool.and_eq_true] at hc
    rw [A8 ⟨z2,by omega⟩,A9h _ h1 he,hc.1,C3a (by rw [Int.natAbs_neg]; omega),C8,Int.sub_eq_add_neg]
    rfl
  ·cases h
end Go.Proofs.Tryz
namespace Go.Proofs.Tryz
open Go.Ad
open Go.Lib (decDigits itoa nDigits)
def A2e:Code:=f110.body.getD .skip
def C3s:Code:=J3 (K6 0 A2e)
def D2r:Code:=J3 (K6 2 A2e)
def g0:Code:=D5p A2e
def g1:Code:=D5p (B0b A2e)
def g2:Code:=D5p (B0b (B0b A2e))
def g3:Code:=D5p (B0b (B0b (B0b A2e)))
def g4:Code:=B0b (B0b (B0b (B0b A2e)))
theorem D6s:A2e=.seq g0 (.seq g1 (.seq g2 (.seq g3 g4))):=by kernel_rfl
theorem H0u:g3=.block 0 (.loop C3s):=by kernel_rfl
def spGI:SP:=⟨dr 9++[.int .i64,.int .i64]++dr 61,dd8++[opW,opW]⟩
def spG:SP:=⟨dr 7++[pW 8,pW 9]++dr 63,dd8++[opW,opW]⟩
def spGA:SP:=⟨[.str,.str]++dr 70,dd8⟩
def spGE:SP:=⟨dr 4++[.str,.int .i64]++dr 66,dd8⟩
def exG (sp:SP):AEx->SP
 | .ret=>spGE
 | _=>sp
section
variable (lx:Bool) (nx:Int) (mx:Nat) (fx:Nat->Int) (ly:Bool) (ny:Int) (my:Nat) (fy:Nat->Int)
def C5p (m n:Int):List Lf:=[.i m,.i n,.b lx,.i nx,.n mx,.f fx,.b ly,.i ny,.n my,.f fy]
theorem D7n (m n:Int):F3 prog (C9 prog pBig22 60) F8 D2r (spGI.rho (C5p lx nx mx fx ly ny my fy m n)) (spGI.heap (C5p lx nx mx fx ly ny my fy m n)) (H5 (fun _=>spGI) 10 []) =
  brK (n != 0) (brK (decide ¬n=0) (some (.normal,C5p lx nx mx fx ly ny my fy n (m.tmod n))) none) (some (.exit 2,C5p lx nx mx fx ly ny my fy m n)):=by kernel_rfl
end
def C6e:Blk:=hookP spGI 10 [] fun
 | [.i m,.i n,.b lx,.i nx,.n mx,.f fx,.b ly,.i ny,.n my,.f fy]=>.br (A9 (0<=m/\0<=n)) (.leaf (.normal,spGI,C5p lx nx mx fx ly ny my fy (m.toNat.gcd n.toNat:Nat) 0)) .fail
 | _=>.fail
section
variable {A:Amb} (hT:Tab A) (hG:gN prog<=A.G)
include hT hG
theorem E1p:∀ ρ B e' ρ' B' D,(C6e ρ B).get=some (e',ρ',B',D)->AFr B B' D/\SEB prog A B (.block 2 (.loop D2r)) ⟨ρ,B,[]⟩ e' ⟨ρ',B',D⟩:=by
 have hp:=A6h hT hG
 refine O8 rfl fun ls e sq l h=>?_
 split at h
 ·rename_i m n lx nx mx fx ly ny my fy
  obtain ⟨hc,hv⟩:=Tr.br1 h
  cases hv
  obtain ⟨hm,hn⟩:=D9 hc
  obtain ⟨m,rfl⟩:=Int.eq_ofNat_of_zero_le hm
  obtain ⟨n,rfl⟩:=Int.eq_ofNat_of_zero_le hn
  rw [Int.toNat_natCast,Int.toNat_natCast]
  refine ⟨⟨.inr rfl,.inr rfl,.inr rfl,.inr rfl,.inr rfl,.inr rfl,.inr rfl,.inr rfl,.inr rfl,.inr rfl,trivial⟩,fun Bb hB=>SEB.block_exit (id:=2) ?_⟩
  refine SEB.while (fun _:Nat × Nat=>True) (fun s=>s.2) (fun s=>⟨spGI.rho (C5p lx nx mx fx ly ny my fy s.1 s.2),spGI.heap (C5p lx nx mx fx ly ny my fy s.1 s.2),[]⟩)
   (fun s=>(.exit 2,⟨spGI.rho (C5p lx nx mx fx ly ny my fy (s.1.gcd s.2:Nat) 0),spGI.heap (C5p lx nx mx fx ly ny my fy (s.1.gcd s.2:Nat) 0),[]⟩)) (fun s _=>?_) (m,n) trivial
  obtain ⟨m,n⟩:=s
  by_cases h0:n=0
  ·subst h0
   right
   refine ⟨by simp,?_⟩
   have hk:=D7n lx nx mx fx ly ny my fy (m:Int) ((0:Nat):Int)
   rw [show (((0:Nat):Int) != 0)=false from rfl] at hk
   have:=SEB.of_KP (A:=A) (B0:=Bb) (e:=.exit 2) D6 D7 hp (.none _) hB hk rfl
   simp only [Nat.gcd_zero_right]
   exact this
  ·left
   refine ⟨(n,m % n),trivial,Nat.mod_lt _ (Nat.pos_of_ne_zero h0),?_,?_⟩
   ·show ((AEx.exit 2,(_:St)):AEx × St)=_
    have:n.gcd (m % n)=m.gcd n:=by rw [Nat.gcd_comm,<- Nat.gcd_rec,Nat.gcd_comm]
    rw [this]
   ·have hk:=D7n lx nx mx fx ly ny my fy (m:Int) (n:Int)
    rw [show ((n:Int) != 0)=true by simpa using h0,dT (show ¬ (n:Int)=0 by simpa using h0)] at hk
    exact SEB.of_KP (A:=A) (B0:=Bb) (e:=.normal) D6 D7 hp (.none _) hB hk rfl
 ·cases h
end
def lfG (lx:Bool) (nx:Int) (fx:Nat->Int) (ly:Bool) (ny:Int) (fy:Nat->Int):List Lf:=[.b lx,.i nx,.n 232,.f fx,.b ly,.i ny,.n 232,.f fy]
abbrev E0k (nx:Int) (fx:Nat->Int) (ly:Bool) (ny:Int) (fy:Nat->Int) (X Y:Nat):Option (AEx × List Lf) :=
 brK (A9 (232=232/\232=232/\isW nx fx/\isW ny fy/\ny<=231/\0 < Y)) (some (.normal,lfG ly ny fy false (wn (X % Y)) (wf (X % Y)))) none
theorem G4o (lx:Bool) (nx:Int) (fx:Nat->Int) (ly:Bool) (ny:Int) (fy:Nat->Int) :
  F3 prog (C9 prog pBig22 60) (A8p 2 C6e) C3s (spG.rho (lfG lx nx fx ly ny fy)) (spG.heap (lfG lx nx fx ly ny fy)) (H5 (exG spG) 8 []) =
  brK (decide (ny > 0)) (brK (decide (nx<=1)) (brK (decide (ny<=1)) (brK (A9 (0<=fx 0/\0<=fy 0)) (brK (rg ((fx 0).toNat.gcd (fy 0).toNat:Nat)) (some (.ret,[.s (itoa ((fx 0).toNat.gcd (fy 0).toNat:Nat)),.i 0])) none) none)
   (E0k nx fx ly ny fy (E9 nx fx) (E9 ny fy))) (E0k nx fx ly ny fy (E9 nx fx) (E9 ny fy))) (some (.exit 0,lfG lx nx fx ly ny fy)):=by kernel_rfl
def D0h (lx:Bool) (X:Nat) (ly:Bool) (Y:Nat):List Lf:=lfG lx (wn X) (wf X) ly (wn Y) (wf Y)
def stG (lx:Bool) (X:Nat) (ly:Bool) (Y:Nat):St:=⟨spG.rho (D0h lx X ly Y),spG.heap (D0h lx X ly Y),[]⟩
def G3y (s:List UInt8) (e:Int):St:=⟨spGE.rho [.s s,.i e],spGE.heap [.s s,.i e],[]⟩
theorem F2z {X:Nat} (h:wn X<=1):wf X 0=X:=by
 have:=C4j.1 h
 rw [Nat.pow_one] at this
 show ((wd X 0:Nat):Int)=X
 unfold wd
 rw [Nat.pow_zero,Nat.div_one,Nat.mod_eq_of_lt this]
section
variable {A:Amb} (hT:Tab A) (hG:gN prog<=A.G)
include hT hG
theorem G8d {Bb:Heap} (hB:Bb.length=8):∀ (Y X:Nat) (lx ly:Bool),wn X<=114->wn Y<=114 ->
  ∃ e s',SEB prog A Bb (.loop C3s) (stG lx X ly Y) e s'/\((e=.ret/\s'=G3y (itoa (X.gcd Y:Nat)) 0) \/ (e=.exit 0/\∃ l l',s'=stG l (X.gcd Y) l' 0)):=by
 have hp:=A6h hT hG
 have hblk:BlkOK prog A (A8p 2 C6e) C3s:=BlkOK.one (body:=.loop D2r) (by kernel_rfl) fun ρ B e ρ' B' D hq=>(E1p hT hG ρ B e ρ' B' D hq).2
 intro Y
 induction Y using Nat.strongRecOn with
 | _ Y ih =>
  intro X lx ly hX hY
  have hk:=G4o lx (wn X) (wf X) ly (wn Y) (wf Y)
  by_cases h0:Y=0
  ·subst h0
   rw [show decide (((wn 0:Nat):Int) > 0)=false by rw [Y9]; rfl,I4] at hk
   have hs:=SEB.of_KP (A:=A) (B0:=Bb) (e:=.exit 0) D6 D7 hp hblk hB (ls:=D0h lx X ly 0) hk rfl
   rw [Nat.gcd_zero_right]
   exact ⟨.exit 0,_,SEB.loop_exit hs (by simp),.inr ⟨rfl,lx,ly,rfl⟩⟩
  ·have hpos:0 < wn Y:=by rw [A4k h0]; omega
   rw [dT (show ((wn Y:Nat):Int) > 0 by omega),E5,G8,G8] at hk
   have hnx:E0k (wn X) (wf X) ly (wn Y) (wf Y) X Y=some (.normal,D0h ly Y false (X % Y)):=by
    unfold E0k
    rw [A8 ⟨rfl,rfl,M9 (by omega),M9 (by omega),by omega,Nat.pos_of_ne_zero h0⟩]
    rfl
   have next:F3 prog (C9 prog pBig22 60) (A8p 2 C6e) C3s (spG.rho (D0h lx X ly Y)) (spG.heap (D0h lx X ly Y)) (H5 (exG spG) 8 [])=some (.normal,D0h ly Y false (X % Y)) ->
     ∃ e s',SEB prog A Bb (.loop C3s) (stG lx X ly Y) e s'/\((e=.ret/\s'=G3y (itoa (X.gcd Y:Nat)) 0) \/ (e=.exit 0/\∃ l l',s'=stG l (X.gcd Y) l' 0)):=fun hk=>by
    have hs:=SEB.of_KP (A:=A) (B0:=Bb) (e:=.normal) D6 D7 hp hblk hB hk rfl
    have hg:Y.gcd (X % Y)=X.gcd Y:=by rw [Nat.gcd_comm,<- Nat.gcd_rec,Nat.gcd_comm]
    obtain ⟨e,s',h1,h2⟩:=ih (X % Y) (Nat.mod_lt _ (Nat.pos_of_ne_zero h0)) Y ly false hY (Nat.le_trans (A3c (Nat.mod_le _ _)) hX)
    rw [hg] at h2
    exact ⟨e,s',SEB.loop_next hs h1,h2⟩
   rw [hnx] at hk
   by_cases hx1:wn X<=1
   ·by_cases hy1:wn Y<=1
    ·have xl:=C4j.1 hx1
     have yl:=C4j.1 hy1
     rw [Nat.pow_one] at xl yl
     have hBB:BB=1000000000:=rfl
     have hgl:X.gcd Y<=Y:=Nat.gcd_le_right _ (Nat.pos_of_ne_zero h0)
     rw [F2z hx1,F2z hy1,Int.toNat_natCast,Int.toNat_natCast,dT (show ((wn X:Nat):Int)<=1 by omega),dT (show ((wn Y:Nat):Int)<=1 by omega),A8 ⟨by omega,by omega⟩,
      show rg (X.gcd Y:Nat)=true from dT ⟨by omega,by omega⟩] at hk
     have hs:=SEB.of_KP (A:=A) (B0:=Bb) (e:=.ret) D6 D7 hp hblk hB hk rfl
     exact ⟨.ret,_,SEB.loop_exit hs (by simp),.inl ⟨rfl,rfl⟩⟩
    ·rw [dT (show ((wn X:Nat):Int)<=1 by omega),dF (show ¬ ((wn Y:Nat):Int)<=1 by omega)] at hk
     exact next hk
   ·rw [dF (show ¬ ((wn X:Nat):Int)<=1 by omega)] at hk
    exact next hk
end
theorem G7x (a b:List UInt8):F3 prog (C9 prog pBig22 60) F8 g0 ([.sstr a,.sstr b]++List.replicate 70 G7) (Bg 8) (H5 (exG spGA) 8 [])=some (.normal,[.s a,.s b]):=by kernel_rfl
theorem G9y (a b:List UInt8):F3 prog (C9 prog pBig22 60) F8 g1 (spGA.rho [.s a,.s b]) (spGA.heap [.s a,.s b]) (H5 (exG spGA) 8 []) =
  brK (F4 a && F4 b) (brK (A0n a b != 0) (some (.ret,[.s [],.i (A0n a b)])) (some (.normal,[.s a,.s b]))) none:=by kernel_rfl
theorem G8r (a b:List UInt8):F3 prog (C9 prog pBig22 60) F8 g2 (spGA.rho [.s a,.s b]) (spGA.heap [.s a,.s b]) (H5 (exG spG) 8 []) =
  brK (A9 (isZ a/\wn (A7 a).natAbs<=232)) (brK (A9 (isZ b/\wn (A7 b).natAbs<=232)) (some (.normal,D0h (decide (A7 a < 0)) (A7 a).natAbs (decide (A7 b < 0)) (A7 b).natAbs)) none) none:=by kernel_rfl
theorem G8c (lx:Bool) (nx:Int) (fx:Nat->Int) (ly:Bool) (ny:Int) (fy:Nat->Int):F3 prog (C9 prog pBig22 60) F8 g4 (spG.rho (lfG lx nx fx ly ny fy)) (spG.heap (lfG lx nx fx ly ny fy)) (H5 (exG spG) 8 []) =
  brK (A9 (232=232/\isW nx fx)) (some (.ret,[.s (itoa (sv false (E9 nx fx))),.i 0])) none:=by kernel_rfl
def A6g (a b:List UInt8):List UInt8 × Int:=if D5 a ≠ 0 then ([],D5 a) else if D5 b ≠ 0 then ([],D5 b) else (itoa (Int.gcd (A7 a) (A7 b):Nat),0)
theorem E5s {a b:List UInt8} (h:(A0n a b != 0)=true):A6g a b=([],A0n a b):=by
 unfold A0n at h ⊢
 unfold A6g
 cases h1:D5 a != 0 with
 | true=>rw [if_pos (by simpa using h1)]; rfl
 | false =>
  rw [h1] at h; simp only [cond_false] at h
  rw [if_neg (by simpa using h1),if_pos (by simpa using h)]; rfl
theorem B7m {a b:List UInt8} (h1:D5 a=0) (h2:D5 b=0):A6g a b=(itoa (Int.gcd (A7 a) (A7 b):Nat),0):=by
 unfold A6g
 rw [if_neg (by rw [h1]; simp),if_neg (by rw [h2]; simp)]
theorem F9z {X Y:Nat} (hX:wn X<=114) (hY:wn Y<=114):wn (X.gcd Y)<=114:=by
 rcases Nat.eq_zero_or_pos Y with h | h
 ·subst h; rw [Nat.gcd_zero_right]; exact hX
 ·exact Nat.le_trans (A3c (Nat.gcd_le_right _ h)) hY
section
variable {A:Amb} (hT:Tab A) (hG:gN prog<=A.G)
include hT hG
theorem H1a {a b:List UInt8} (hs:(F4 a && F4 b)=true):SEB prog A (Bg 8) A2e ⟨[.sstr a,.sstr b]++List.replicate 70 G7,Bg 8,[]⟩ .ret (G3y (A6g a b).1 (A6g a b).2):=by
 have hp:=A6h hT hG
 have hB:(Bg 8).length=8:=rfl
 rw [D6s]
 refine SEB.seq (SEB.of_KP (A:=A) (e:=.normal) D6 D7 hp (.none _) hB (G7x a b) rfl) ?_
 have k1:=G9y a b
 rw [hs,E5] at k1
 cases h:A0n a b != 0 with
 | true =>
  rw [h,E5] at k1
  rw [E5s h]
  exact SEB.seq_exit (SEB.of_KP (A:=A) (e:=.ret) D6 D7 hp (.none _) hB k1 rfl) (by simp)
 | false =>
  rw [h,I4] at k1
  obtain ⟨h1,h2⟩:=C1o h
  obtain ⟨z1,w1⟩:=Q0 h1
  obtain ⟨z2,w2⟩:=Q0 h2
  rw [B7m h1 h2]
  refine SEB.seq (SEB.of_KP (A:=A) (e:=.normal) D6 D7 hp (.none _) hB k1 rfl) ?_
  have k2:=G8r a b
  rw [A8 ⟨z1,by omega⟩,A8 ⟨z2,by omega⟩,E5,E5] at k2
  refine SEB.seq (SEB.of_KP (A:=A) (e:=.normal) D6 D7 hp (.none _) hB k2 rfl) ?_
  obtain ⟨e,s',l1,l2⟩:=G8d hT hG hB (A7 b).natAbs (A7 a).natAbs (decide (A7 a < 0)) (decide (A7 b < 0)) w1 w2
  rw [H0u]
  rcases l2 with ⟨rfl,rfl⟩ | ⟨rfl,l,l',rfl⟩
  ·exact SEB.seq_exit (SEB.block_other l1 (by simp)) (by simp)
  ·refine SEB.seq (SEB.block_exit l1) ?_
   have k4:=G8c l (wn ((A7 a).natAbs.gcd (A7 b).natAbs)) (wf ((A7 a).natAbs.gcd (A7 b).natAbs)) l' (wn 0) (wf 0)
   rw [G8,A8 ⟨rfl,M9 (Nat.le_trans (F9z w1 w2) (by omega))⟩,E5] at k4
   exact SEB.of_KP (A:=A) (e:=.ret) D6 D7 hp (.none _) hB k4 rfl
end
def H0q:List Lf->Tr (SP × List Lf)
 | [.s a,.s b]=>.br (F4 a && F4 b) (.leaf (A1s,[.s (A6g a b).1,.i (A6g a b).2])) .fail
 | _=>.fail
def pG (a b x:List UInt8) (e:Int):Prims:=pBig22.addh 110 (G4f [.sstr a,.sstr b] (Bg 8) (.tuple [.sstr x,.sint .i64 e]) (Bg 8) [])
theorem H1i (a b x:List UInt8) (e:Int):(C9 prog (pG a b x e) 60).call 110 (spSS.rho [.s a,.s b]) (spSS.heap [.s a,.s b]) (V7 A1s 8 []) =
  brK (A9 (([.sstr a,.sstr b]:List AV)=[.sstr a,.sstr b]/\Bg 8=Bg 8)) (some [.s x,.i e]) none:=by kernel_rfl
def pBig23:Prims:=pBig22.addh 110 (H9 8 (funQ spSS 8 [] H0q))
theorem B5a {A:Amb} (hT:Tab A) (hG:gN prog<=A.G):PrimOK prog A pBig23:=by
 refine (A6h hT hG).addl gsz func110 (by kernel_rfl) (J7 D6 D7 rfl fun ls sq l h=>?_)
 unfold H0q at h
 split at h
 ·rename_i a b
  obtain ⟨hc,hv⟩:=Tr.br1 h
  cases hv
  refine ⟨⟨.inr rfl,.inr rfl,.inr rfl,.inr rfl,.inr rfl,.inr rfl,.inr rfl,.inr rfl,trivial⟩,rfl,pG a b (A6g a b).1 (A6g a b).2,60,_,?_,(H1i a b _ _).trans ?_,fun _ _=>.refl⟩
  ·refine PrimOK.body (A6h hT hG) func110 (show f110.body=some A2e by kernel_rfl) fun args B v B' D hq=>?_
   obtain ⟨hc1,hv⟩:=Tr.br_get0 hq
   obtain ⟨rfl,rfl⟩:=D9 hc1
   simp only [Tr.get,sI,pI] at hv
   obtain ⟨rfl,rfl,rfl⟩:=hv
   exact ⟨⟨Nat.le_refl _,fun _ _ _=>rfl⟩,[.sstr a,.sstr b],.ret,_,[.sstr (A6g a b).1,.sint .i64 (A6g a b).2],fun _ _ h=>h,H1a hT hG hc,by simp,rfl,rfl,rfl,rfl⟩
  ·rw [A8 ⟨rfl,rfl⟩,E5]
 ·cases h
end Go.Proofs.Tryz
namespace Go.Proofs.Tryz
open Go.Ad
open Go.Lib (decDigits itoa nDigits)
def H1o:SP:=⟨[.str,.is (.int .i64 0)],dd8⟩
def TG (op:Int->Int->Int) (c:Int->Prop):List Lf->Tr (SP × List Lf)
 | [.s a,.s b]=>.br (A9 (D5 a=0/\D5 b=0/\c (A7 b)/\D5 (itoa (op (A7 a) (A7 b)))=0)) (.leaf (H1o,[.s (itoa (op (A7 a) (A7 b)))])) .fail
 | _=>.fail
theorem B6z {a:List UInt8} (h:D5 a=0):F4 a=true:=by
 obtain ⟨z,w⟩:=Q0 h
 have:=C5c z (by omega)
 exact dT (by omega)
theorem C5e {C:Int} (h:D5 (itoa C)=0):A4b C=(itoa C,0):=by
 have:=E0f C
 rw [if_neg (by rw [h]; simp)] at this
 exact this.symm
theorem G6v {ι:Emb} {s:List UInt8} {vs:List Value} (h:VRL ι [.sstr s,.sint .i64 0] vs):VRL ι [.sstr s,.int .i64 0] vs:=by
 refine VRL.weaken rfl (fun i a' hi=>?_) h
 match i,hi with
 | 0,hi=>cases hi; exact ⟨_,rfl,fun v hv=>hv⟩
 | 1,hi=>cases hi; exact ⟨_,rfl,fun v hv=>by simpa only [VR] using hv⟩
 | n+2,hi=>simp at hi
section
variable {A:Amb} (hT:Tab A) (hG:gN prog<=A.G)
include hT hG
theorem A9y {f:FuncId} {op:Int->Int->Int} {c:Int->Prop} {r:List UInt8->List UInt8->List UInt8 × Int}
  (hrun:∀ a b,(C9 prog pBig23 60).call f (spSS.rho [.s a,.s b]) (spSS.heap [.s a,.s b]) (V7 A1s 8 [])=brK (F4 a && F4 b) (some [.s (r a b).1,.i (r a b).2]) none)
  (hr:∀ a b,D5 a=0->D5 b=0->c (A7 b)->D5 (itoa (op (A7 a) (A7 b)))=0->r a b=(itoa (op (A7 a) (A7 b)),0)) :
  ∀ args B v B' D,(funQ spSS 8 [] (TG op c) args B).get=some (v,B',D)->AFr B B' D/\CallT prog A f args B v B' D:=by
 refine F1n D6 D7 rfl fun ls sq l h=>?_
 unfold TG at h
 split at h
 ·rename_i a b
  obtain ⟨hc,hv⟩:=Tr.br1 h
  cases hv
  obtain ⟨h1,h2,h3,h4⟩:=D9 hc
  have hk:=hrun a b
  rw [B6z h1,B6z h2,hr a b h1 h2 h3 h4] at hk
  exact ⟨⟨.inr rfl,.inr rfl,.inr rfl,.inr rfl,.inr rfl,.inr rfl,.inr rfl,.inr rfl,trivial⟩,pBig23,60,A1s,_,B5a hT hG,rfl,hk,fun _ _=>Wk.vals fun ι vs hv=>G6v hv⟩
 ·cases h
end
theorem H1d (a b:List UInt8):(C9 prog pBig23 60).call 196 (spSS.rho [.s a,.s b]) (spSS.heap [.s a,.s b]) (V7 A1s 8 [])=brK (F4 a && F4 b) (some [.s (B0f (·+·) a b).1,.i (B0f (·+·) a b).2]) none:=by kernel_rfl
theorem H1j (a b:List UInt8):(C9 prog pBig23 60).call 164 (spSS.rho [.s a,.s b]) (spSS.heap [.s a,.s b]) (V7 A1s 8 [])=brK (F4 a && F4 b) (some [.s (B0f (· - ·) a b).1,.i (B0f (· - ·) a b).2]) none:=by kernel_rfl
theorem g66 (a b:List UInt8):(C9 prog pBig23 60).call 40 (spSS.rho [.s a,.s b]) (spSS.heap [.s a,.s b]) (V7 A1s 8 [])=brK (F4 a && F4 b) (some [.s (B0f (·*·) a b).1,.i (B0f (·*·) a b).2]) none:=by kernel_rfl
theorem g67 (a b:List UInt8):(C9 prog pBig23 60).call 41 (spSS.rho [.s a,.s b]) (spSS.heap [.s a,.s b]) (V7 A1s 8 [])=brK (F4 a && F4 b) (some [.s (M4 a b).1.1,.i (M4 a b).2]) none:=by kernel_rfl
theorem g68 (a b:List UInt8):(C9 prog pBig23 60).call 43 (spSS.rho [.s a,.s b]) (spSS.heap [.s a,.s b]) (V7 A1s 8 [])=brK (F4 a && F4 b) (some [.s (M4 a b).1.2,.i (M4 a b).2]) none:=by kernel_rfl
theorem H1p (a b:List UInt8):(C9 prog pBig23 60).call 110 (spSS.rho [.s a,.s b]) (spSS.heap [.s a,.s b]) (V7 A1s 8 [])=brK (F4 a && F4 b) (some [.s (A6g a b).1,.i (A6g a b).2]) none:=by kernel_rfl
theorem C8f {b:List UInt8} (h:D5 b=0) (h0:A7 b ≠ 0):b ≠ [48]:=fun e=>by
 subst e
 exact h0 rfl
def pG0:Prims:=(((((pBig23.addh 196 (H9 8 (funQ spSS 8 [] (TG (·+·) fun _=>True)))).addh 164 (H9 8 (funQ spSS 8 [] (TG (· - ·) fun _=>True)))).addh 40 (H9 8 (funQ spSS 8 [] (TG (·*·) fun _=>True)))).addh 41 (H9 8 (funQ spSS 8 [] (TG Int.fdiv fun b=>b ≠ 0)))).addh 43
 (H9 8 (funQ spSS 8 [] (TG Int.fmod fun b=>b ≠ 0)))).addh 110 (H9 8 (funQ spSS 8 [] (TG (fun a b=>(Int.gcd a b:Nat)) fun _=>True)))
theorem E7d {A:Amb} (hT:Tab A) (hG:gN prog<=A.G):PrimOK prog A pG0:=by
 refine PrimOK.addl (PrimOK.addl (PrimOK.addl (PrimOK.addl (PrimOK.addl (PrimOK.addl (B5a hT hG) gsz func196 (by kernel_rfl) (A9y hT hG H1d fun a b h1 h2 _ h4=>?_)) gsz func164 (by kernel_rfl) (A9y hT hG H1j fun a b h1 h2 _ h4=>?_))
  gsz func40 (by kernel_rfl) (A9y hT hG g66 fun a b h1 h2 _ h4=>?_)) gsz func41 (by kernel_rfl) (A9y hT hG (r:=fun a b=>((M4 a b).1.1,(M4 a b).2)) g67 fun a b h1 h2 h3 h4=>?_)) gsz func43 (by kernel_rfl) (A9y hT hG (r:=fun a b=>((M4 a b).1.2,(M4 a b).2)) g68 fun a b h1 h2 h3 h4=>?_))
  gsz func110 (by kernel_rfl) (A9y hT hG H1p fun a b h1 h2 _ _=>?_)
 ·rw [A9h _ h1 h2,C5e h4]
 ·rw [A9h _ h1 h2,C5e h4]
 ·rw [A9h _ h1 h2,C5e h4]
 ·rw [B9z h1 h2,if_neg (C8f h2 h3)]
 ·rw [B9z h1 h2,if_neg (C8f h2 h3)]
 ·rw [B7m h1 h2]
end Go.Proofs.Tryz
namespace Go.Proofs.Tryz
open Go.Ad
open Go.Lib (decDigits itoa nDigits)
def Z9 (N D:Int):List UInt8:=bif itoa D == [49] then itoa N else itoa N++[47]++itoa D
def sgG (A B:Int):Int:=if B < 0 then -(Int.gcd A B:Int) else Int.gcd A B
def R3 (A B:Int):List UInt8:=Z9 (A.fdiv (sgG A B)) (B.fdiv (sgG A B))
def spLo:SP:=⟨[pW 8,.str,.str],dd8++[.cells [.is (.int .i64 0)] 0 true 123]⟩
def F8a:SP:=⟨[.str],dd8++[.cells [.is (.int .i64 0)] 0 true 123]⟩
abbrev F1i (n d:List UInt8):Option (List Lf) :=
 brK (d == [49]) (some [.s n]) (brK (decide (n.length+1 < 4611686018427387904)) (brK (decide ((n++[47]).length+d.length < 4611686018427387904)) (some [.s (n++[47]++d)]) none) none)
abbrev F2u (a b g:List UInt8):Option (List Lf) :=
 brK (A9 (D5 a=0/\D5 g=0/\A7 g ≠ 0/\D5 (itoa ((A7 a).fdiv (A7 g)))=0)) (brK (A9 (D5 b=0/\D5 g=0/\A7 g ≠ 0/\D5 (itoa ((A7 b).fdiv (A7 g)))=0))
  (F1i (itoa ((A7 a).fdiv (A7 g))) (itoa ((A7 b).fdiv (A7 g)))) none) none
abbrev D4e (a b g:List UInt8):Option (List Lf) :=
 brK (A9 (D5 a=0/\D5 b=0/\True/\D5 g=0)) (brK (decide ((b.length:Int) >= 1)) (brK (decide ((0:Int)<=1/\(1:Int)<=(b.length:Int)) && true) (brK ((b.take 1).drop 0 == [45])
  (brK (A9 (D5 [48]=0/\D5 g=0/\True/\D5 (itoa (A7 [48] - A7 g))=0)) (F2u a b (itoa (A7 [48] - A7 g))) none) (F2u a b g)) none) (F2u a b g)) none
theorem G8y (a b:List UInt8):(C9 prog pG0 60).call 64 (spLo.rho [.s a,.s b]) (spLo.heap [.s a,.s b]) (A1j F8a 9 [8])=D4e a b (itoa (Int.gcd (A7 a) (A7 b):Nat)):=by kernel_rfl
theorem E7x {N D:Int} (h1:(itoa N).length<=5000) (h2:(itoa D).length<=5000):F1i (itoa N) (itoa D)=some [.s (Z9 N D)]:=by
 unfold F1i Z9
 cases h:itoa D == [49] with
 | true=>rfl
 | false =>
  have e1:(itoa N++[47]).length+(itoa D).length < 4611686018427387904:=by rw [List.length_append]; simp only [List.length_singleton]; omega
  rw [dT (show (itoa N).length+1 < 4611686018427387904 by omega),dT e1]
  rfl
theorem A8l {N:Int} (h:D5 (itoa N)=0):(itoa N).length<=5000:=by
 obtain ⟨z,w⟩:=Q0 h
 have:=C5c z (by omega)
 omega
theorem F1q:D5 (itoa 0)=0:=by
 rw [A5y]
 have:=A1t (U:=(0:Int).natAbs) (n:=1) (by decide) (by omega)
 rw [if_neg (by omega)]
theorem O0 {a:List UInt8} (h:D5 a=0):a=itoa (A7 a):=(Q0 h).1
theorem D9y {a b:List UInt8} {G:Int} (ha:D5 a=0) (hb:D5 b=0) (hg:D5 (itoa G)=0) (h0:G ≠ 0):F2u a b (itoa G)=some [.s (Z9 ((A7 a).fdiv G) ((A7 b).fdiv G))]:=by
 unfold F2u
 have ha':=ha
 have hb':=hb
 rw [O0 ha] at ha'
 rw [O0 hb] at hb'
 have e1:=Y7 ha' (Int.natAbs_fdiv_le_natAbs (A7 a) G)
 have e2:=Y7 hb' (Int.natAbs_fdiv_le_natAbs (A7 b) G)
 rw [C8,A8 ⟨ha,hg,h0,e1⟩,A8 ⟨hb,hg,h0,e2⟩,E5,E5]
 exact E7x (A8l e1) (A8l e2)
theorem B8v {b:List UInt8} (hb:D5 b=0) {x y:Option (List Lf)} :
  brK (decide ((b.length:Int) >= 1)) (brK (decide ((0:Int)<=1/\(1:Int)<=(b.length:Int)) && true) (brK ((b.take 1).drop 0 == [45]) x y) none) y=if A7 b < 0 then x else y:=by
 have hz:=O0 hb
 generalize A7 b=B at hz
 subst hz
 have hh:=A3p B
 cases hc:itoa B with
 | nil=>exact (A2b B hc).elim
 | cons c r =>
  rw [hc] at hh
  rw [dT (show ((List.length (c :: r):Nat):Int) >= 1 by simp; omega),dT (show (0:Int)<=1/\(1:Int)<=((List.length (c :: r):Nat):Int) by simp; omega)]
  have ht:((List.take 1 (c :: r)).drop 0 == [45])=decide (B < 0):=by
   rw [<- hh]
   show ([c] == [45])=_
   simp only [List.getD_cons_zero]
   by_cases h:c=45
   ·subst h; rfl
   ·have h2:c.toNat ≠ 45:=fun e=>h (UInt8.toNat_inj.1 e)
    rw [show ((c.toNat:Int) == 45)=false by rw [beq_eq_false_iff_ne]; omega,beq_eq_false_iff_ne]
    simpa using h
  rw [ht]
  by_cases h:B < 0
  ·rw [if_pos h,dT h]; rfl
  ·rw [if_neg h,dF h]; rfl
theorem E4p {A B:Int} (h:B ≠ 0):(Int.gcd A B:Int) ≠ 0:=by
 have:=Nat.gcd_pos_of_pos_right A.natAbs (n:=B.natAbs) (by omega)
 show ((A.natAbs.gcd B.natAbs:Nat):Int) ≠ 0
 omega
theorem E4u {A B:Int} (hb:D5 (itoa B)=0) (h:B ≠ 0):D5 (itoa (Int.gcd A B:Nat))=0:=by
 refine Y7 hb ?_
 rw [Int.natAbs_natCast]
 exact Nat.gcd_le_right _ (by omega)
theorem E2r {a b:List UInt8} (ha:D5 a=0) (hb:D5 b=0) (h0:A7 b ≠ 0):D4e a b (itoa (Int.gcd (A7 a) (A7 b):Nat))=some [.s (R3 (A7 a) (A7 b))]:=by
 unfold D4e
 have hb':=hb
 rw [O0 hb] at hb'
 have hg:=E4u (A:=A7 a) hb' h0
 have hn:=E4p (A:=A7 a) h0
 rw [A8 ⟨ha,hb,trivial,hg⟩,E5,B8v hb,C8,show A7 [48]=0 from rfl,Int.zero_sub]
 have hg2:D5 (itoa (-(Int.gcd (A7 a) (A7 b):Nat)))=0:=Y7 hg (by rw [Int.natAbs_neg]; exact Nat.le_refl _)
 have h48:D5 [48]=0:=by have:=F1q; rwa [itoa0] at this
 unfold R3 sgG
 by_cases h:A7 b < 0
 ·rw [if_pos h,if_pos h,A8 ⟨h48,hg,trivial,hg2⟩,E5]
  exact D9y ha hb hg2 (by omega)
 ·rw [if_neg h,if_neg h]
  exact D9y ha hb hg hn
def T97:List Lf->Tr (SP × List Lf)
 | [.s a,.s b]=>.br (A9 (D5 a=0/\D5 b=0/\A7 b ≠ 0)) (.leaf (F8a,[.s (R3 (A7 a) (A7 b))])) .fail
 | _=>.fail
def pBig24:Prims:=pBig23.addh 64 (H9 8 (funP spLo 9 [8] T97))
theorem C3q {A:Amb} (hT:Tab A) (hG:gN prog<=A.G):PrimOK prog A pBig24:=by
 refine (B5a hT hG).addl gsz func64 (by kernel_rfl) (L8 D6 D7 rfl fun ls sq l h=>?_)
 unfold T97 at h
 split at h
 ·rename_i a b
  obtain ⟨hc,hv⟩:=Tr.br1 h
  cases hv
  obtain ⟨ha,hb,h0⟩:=D9 hc
  exact ⟨⟨.inr rfl,.inr rfl,.inr rfl,.inr rfl,.inr rfl,.inr rfl,.inr rfl,.inr rfl,.inr rfl,trivial⟩,rfl,rfl,pG0,60,E7d hT hG,(G8y a b).trans (E2r ha hb h0)⟩
 ·cases h
def C4p (a b:List UInt8):List UInt8 × Int:=if D5 a ≠ 0 then ([],D5 a) else if D5 b ≠ 0 then ([],D5 b) else if b=[48] then ([],10) else (R3 (A7 a) (A7 b),0)
theorem G6j (a b:List UInt8):(C9 prog pBig24 60).call 34 (spSS.rho [.s a,.s b]) (spSS.heap [.s a,.s b]) (V7 A1s 8 []) =
  brK (F4 a) (brK (D5 a != 0) (some [.s [],.i (D5 a)]) (brK (F4 b) (brK (D5 b != 0) (some [.s [],.i (D5 b)]) (brK (b == [48]) (some [.s [],.i 10]) (brK (A9 (D5 a=0/\D5 b=0/\A7 b ≠ 0)) (some [.s (R3 (A7 a) (A7 b)),.i 0]) none))) none)) none:=by kernel_rfl
def T60:List Lf->Tr (SP × List Lf)
 | [.s a,.s b]=>.br (F4 a && F4 b) (.leaf (A1s,[.s (C4p a b).1,.i (C4p a b).2])) .fail
 | _=>.fail
theorem F0g {b:List UInt8} (hb:D5 b=0) (h:b ≠ [48]):A7 b ≠ 0:=fun e=>by
 have:=O0 hb
 rw [e,itoa0] at this
 exact h this
def pBig25:Prims:=pBig24.addh 34 (H9 8 (funQ spSS 8 [] T60))
theorem C3c {A:Amb} (hT:Tab A) (hG:gN prog<=A.G):PrimOK prog A pBig25:=by
 refine (C3q hT hG).addl gsz func34 (by kernel_rfl) (J7 D6 D7 rfl fun ls sq l h=>?_)
 unfold T60 at h
 split at h
 ·rename_i a b
  obtain ⟨hc,hv⟩:=Tr.br1 h
  cases hv
  rw [Bool.and_eq_true] at hc
  refine ⟨⟨.inr rfl,.inr rfl,.inr rfl,.inr rfl,.inr rfl,.inr rfl,.inr rfl,.inr rfl,trivial⟩,rfl,pBig24,60,_,C3q hT hG,(G6j a b).trans ?_,fun _ _=>.refl⟩
  rw [hc.1,hc.2,E5]
  unfold C4p
  by_cases h1:D5 a=0
  ·rw [if_neg (by simpa using h1),show (D5 a != 0)=false by simpa using h1,I4,E5]
   by_cases h2:D5 b=0
   ·rw [if_neg (by simpa using h2),show (D5 b != 0)=false by simpa using h2,I4]
    by_cases h3:b=[48]
    ·rw [if_pos h3,show (b == [48])=true by simpa using h3]; rfl
    ·rw [if_neg h3,show (b == [48])=false by simpa using h3,I4,A8 ⟨h1,h2,F0g h2 h3⟩]; rfl
   ·rw [if_pos h2,show (D5 b != 0)=true by simpa using h2]; rfl
  ·rw [if_pos h1,show (D5 a != 0)=true by simpa using h1]; rfl
 ·cases h
end Go.Proofs.Tryz
namespace Go.Proofs.Tryz
open Go.Ad
open Go.Lib (decDigits itoa nDigits)
def D9a:SP:=⟨[.str,.str,.bool],dd8⟩
def spI:SP:=⟨[.int .i64],dd8⟩
theorem G3k (a:List UInt8):(C9 prog pBig25 60).call 66 (spS1.rho [.s a]) (spS1.heap [.s a]) (V7 D9a 8 []) =
  brK ([47] == a) (brK (true && decide ((0:Int)<=1/\(1:Int)<=(a.length:Int))) (some [.s [],.s ((a.take a.length).drop 1),.b true]) none)
   (brK (decide (Lib.indexByte a (byteOf 47) >= 0)) (brK (decide (0<=Lib.indexByte a (byteOf 47)/\Lib.indexByte a (byteOf 47)<=(a.length:Int)) && true) (brK (true && decide (0<=W (Lib.indexByte a (byteOf 47)+1)/\W (Lib.indexByte a (byteOf 47)+1)<=(a.length:Int)))
    (some [.s ((a.take (Lib.indexByte a (byteOf 47)).toNat).drop 0),.s ((a.take a.length).drop (W (Lib.indexByte a (byteOf 47)+1)).toNat),.b true]) none) none) (some [.s a,.s [49],.b false])):=by kernel_rfl
def G6o:List Lf->Tr (SP × List Lf)
 | [.s a]=>.br (F4 a) (.leaf (D9a,[.s (F9 a).1,.s (F9 a).2.1,.b (F9 a).2.2])) .fail
 | _=>.fail
def pBig26:Prims:=pBig25.addh 66 (H9 8 (funQ spS1 8 [] G6o))
theorem C4e {A:Amb} (hT:Tab A) (hG:gN prog<=A.G):PrimOK prog A pBig26:=by
 refine (C3c hT hG).addl gsz func66 (by kernel_rfl) (J7 D6 D7 rfl fun ls sq l h=>?_)
 unfold G6o at h
 split at h
 ·rename_i a
  obtain ⟨hc,hv⟩:=Tr.br1 h
  cases hv
  refine ⟨⟨.inr rfl,.inr rfl,.inr rfl,.inr rfl,.inr rfl,.inr rfl,.inr rfl,.inr rfl,trivial⟩,rfl,pBig25,60,_,C3c hT hG,(G3k a).trans ?_,fun _ _=>.refl⟩
  have hsz:a.length < 2 ^ 62:=of_decide_eq_true hc
  have hb:byteOf 47=47:=by decide
  rw [hb]
  unfold F9
  by_cases h1:a=[47]
  ·subst h1; rfl
  ·rw [show ([47] == a)=false by rw [beq_eq_false_iff_ne]; exact fun e=>h1 e.symm,I4]
   rcases V4 47 a with ⟨e1,e2⟩ | ⟨i,e0,e1,e2⟩
   ·rw [e1,e2]; rfl
   ·have e3:W ((i:Int)+1)=((i+1:Nat):Int):=by rw [R4 (by omega) (by omega)]; omega
    rw [e1,e2,e3,dT (show (i:Int) >= 0 by omega),dT (show 0<=(i:Int)/\(i:Int)<=(a.length:Int) by omega),dT (show 0<=((i+1:Nat):Int)/\((i+1:Nat):Int)<=(a.length:Int) by omega),
     Int.toNat_natCast,Int.toNat_natCast,List.take_length,List.drop_zero]
    rfl
 ·cases h
theorem G3o (a:List UInt8):(C9 prog pBig26 60).call 65 (spS1.rho [.s a]) (spS1.heap [.s a]) (A1j spI 8 []) =
  brK (F4 a) ((fun (n d:List UInt8) (w:Bool)=>brK (F4 n) (brK (F4 d) (brK (D5 n == 3) (some [.i 3]) (brK (D5 d == 3) (some [.i 3]) (brK (D5 n != 0) (some [.i (if D5 d > D5 n then D5 d else D5 n)]) (brK (D5 d != 0) (some [.i (if D5 d > D5 n then D5 d else D5 n)])
   (brK (!w) (some [.i 0]) (brK (F4 d && F4 [49]) (brK (F4 n && F4 d) (brK ((C2o d [49]).2 != 0) (some [.i 3]) (brK ((A6g n d).2 != 0) (some [.i 3]) (brK (decide ((C2o d [49]).1<=0)) (some [.i 3]) (brK (!((A6g n d).1 == [49])) (some [.i 3]) (some [.i 0]))))) none) none))))))
    none) none) (F9 a).1 (F9 a).2.1 (F9 a).2.2) none:=by kernel_rfl
theorem C1t:D5 [49]=0:=by decide
theorem itoa_1:itoa 1=[49]:=by
 show decDigits 1=[49]
 rw [M3 (by omega)]; rfl
theorem D8u {a:List UInt8} (h:a.length < 2 ^ 61):F4 (F9 a).1=true/\F4 (F9 a).2.1=true:=by
 obtain ⟨h1,h2⟩:=C0r a
 exact ⟨dT (by omega),dT (by omega)⟩
theorem E3x {n d:List UInt8} (hn:D5 n=0) (hd:D5 d=0):((A6g n d).1 == [49])=decide (Int.gcd (A7 n) (A7 d)=1):=by
 rw [B7m hn hd]
 by_cases h:Int.gcd (A7 n) (A7 d)=1
 ·rw [dT h,h]
  show (itoa ((1:Nat):Int) == [49])=true
  rw [show ((1:Nat):Int)=1 from rfl,itoa_1]; rfl
 ·rw [dF h,beq_eq_false_iff_ne]
  intro e
  rw [<- itoa_1] at e
  have e:itoa (Int.gcd (A7 n) (A7 d):Nat)=itoa 1:=e
  have:=A5n e
  omega
theorem F6t {a:List UInt8} (h:a.length < 2 ^ 61) :
  (fun (n d:List UInt8) (w:Bool)=>brK (F4 n) (brK (F4 d) (brK (D5 n == 3) (some [Lf.i 3]) (brK (D5 d == 3) (some [.i 3]) (brK (D5 n != 0) (some [.i (if D5 d > D5 n then D5 d else D5 n)]) (brK (D5 d != 0) (some [.i (if D5 d > D5 n then D5 d else D5 n)])
   (brK (!w) (some [.i 0]) (brK (F4 d && F4 [49]) (brK (F4 n && F4 d) (brK ((C2o d [49]).2 != 0) (some [.i 3]) (brK ((A6g n d).2 != 0) (some [.i 3]) (brK (decide ((C2o d [49]).1<=0)) (some [.i 3]) (brK (!((A6g n d).1 == [49])) (some [.i 3]) (some [.i 0]))))) none) none))))))
    none) none) (F9 a).1 (F9 a).2.1 (F9 a).2.2=some [.i (A0e a)]:=by
 obtain ⟨s1,s2⟩:=D8u h
 unfold A0e
 generalize (F9 a).1=n at *
 generalize (F9 a).2.1=d at *
 generalize (F9 a).2.2=w at *
 show brK (F4 n) _ _=_
 rw [s1,s2,E5,E5]
 by_cases h1:D5 n=3
 ·rw [if_pos (show D5 n=3 \/ D5 d=3 from .inl h1),show (D5 n == 3)=true by simpa using h1]; rfl
 ·rw [show (D5 n == 3)=false by simpa using h1,I4]
  by_cases h2:D5 d=3
  ·rw [if_pos (show D5 n=3 \/ D5 d=3 from .inr h2),show (D5 d == 3)=true by simpa using h2]; rfl
  ·rw [if_neg (show ¬ (D5 n=3 \/ D5 d=3) by rw [not_or]; exact ⟨h1,h2⟩),show (D5 d == 3)=false by simpa using h2,I4]
   have v1:=C9i n
   have v2:=C9i d
   by_cases h3:D5 n=0
   ·rw [show (D5 n != 0)=false by simpa using h3,I4]
    by_cases h4:D5 d=0
    ·rw [if_neg (show ¬ (D5 n ≠ 0 \/ D5 d ≠ 0) by rw [not_or]; exact ⟨by simpa using h3,by simpa using h4⟩),show (D5 d != 0)=false by simpa using h4,I4]
     cases w with
     | false=>rfl
     | true =>
      rw [D8f h4 C1t,E3x h3 h4,show (A6g n d).2=0 by rw [B7m h3 h4],show A7 [49]=1 from rfl,show F4 [49]=true from rfl]
      by_cases h5:1 < A7 d
      ·have h6:K7 (A7 d - 1)=1:=by unfold K7; rw [if_neg (by omega),if_neg (by omega)]
       rw [h6]
       by_cases h7:Int.gcd (A7 n) (A7 d)=1
       ·rw [dT h7,if_neg (by simp [h5,h7])]; rfl
       ·rw [dF h7,if_pos (by simp [h7])]; rfl
      ·have h6:decide (K7 (A7 d - 1)<=0)=true:=by
        refine dT ?_
        unfold K7
        by_cases h8:A7 d - 1=0
        ·rw [if_pos h8]; omega
        ·rw [if_neg h8,if_pos (by omega)]; omega
       rw [h6,if_pos (by simp [h5])]; rfl
    ·have e1:D5 d=11:=by omega
     rw [if_pos (show D5 n ≠ 0 \/ D5 d ≠ 0 from .inr h4),e1,h3]; rfl
   ·rw [if_pos (show D5 n ≠ 0 \/ D5 d ≠ 0 from .inl h3),show (D5 n != 0)=true by simpa using h3,E5]
    have e1:D5 n=11:=by omega
    rw [e1]
    rcases v2 with v | v | v
    ·rw [v]; rfl
    ·exact (h2 v).elim
    ·rw [v]; rfl
def szH (a:List UInt8):Bool:=decide (a.length < 2 ^ 61)
theorem B1j {a:List UInt8} (h:szH a=true):F4 a=true:=by
 have:=of_decide_eq_true h
 exact dT (by omega)
def G8x:List Lf->Tr (SP × List Lf)
 | [.s a]=>.br (szH a) (.leaf (spI,[.i (A0e a)])) .fail
 | _=>.fail
def pBig27:Prims:=pBig26.addh 65 (H9 8 (funP spS1 8 [] G8x))
theorem C3y {A:Amb} (hT:Tab A) (hG:gN prog<=A.G):PrimOK prog A pBig27:=by
 refine (C4e hT hG).addl gsz func65 (by kernel_rfl) (L8 D6 D7 rfl fun ls sq l h=>?_)
 unfold G8x at h
 split at h
 ·rename_i a
  obtain ⟨hc,hv⟩:=Tr.br1 h
  cases hv
  refine ⟨⟨.inr rfl,.inr rfl,.inr rfl,.inr rfl,.inr rfl,.inr rfl,.inr rfl,.inr rfl,trivial⟩,rfl,rfl,pBig26,60,C4e hT hG,(G3o a).trans ?_⟩
  rw [B1j hc,E5]
  exact F6t (of_decide_eq_true hc)
 ·cases h
def A4o (a:List UInt8):(List UInt8 × List UInt8) × Int:=if A0e a ≠ 0 then (([],[]),A0e a) else (((F9 a).1,(F9 a).2.1),0)
theorem G5p (a:List UInt8):(C9 prog pBig27 60).call 36 (spS1.rho [.s a]) (spS1.heap [.s a]) (V7 D8k 8 []) =
  brK (szH a) (brK (A0e a != 0) (some [.s [],.s [],.i (A0e a)]) (brK (F4 a) (some [.s (F9 a).1,.s (F9 a).2.1,.i 0]) none)) none:=by kernel_rfl
def T63:List Lf->Tr (SP × List Lf)
 | [.s a]=>.br (szH a) (.leaf (D8k,[.s (A4o a).1.1,.s (A4o a).1.2,.i (A4o a).2])) .fail
 | _=>.fail
def pBig28:Prims:=pBig27.addh 36 (H9 8 (funQ spS1 8 [] T63))
theorem B5n {A:Amb} (hT:Tab A) (hG:gN prog<=A.G):PrimOK prog A pBig28:=by
 refine (C3y hT hG).addl gsz func36 (by kernel_rfl) (J7 D6 D7 rfl fun ls sq l h=>?_)
 unfold T63 at h
 split at h
 ·rename_i a
  obtain ⟨hc,hv⟩:=Tr.br1 h
  cases hv
  refine ⟨⟨.inr rfl,.inr rfl,.inr rfl,.inr rfl,.inr rfl,.inr rfl,.inr rfl,.inr rfl,trivial⟩,rfl,pBig27,60,_,C3y hT hG,(G5p a).trans ?_,fun _ _=>.refl⟩
  rw [hc,B1j hc,E5,E5]
  unfold A4o
  by_cases h1:A0e a=0
  ·rw [if_neg (by simpa using h1),show (A0e a != 0)=false by simpa using h1]; rfl
  ·rw [if_pos h1,show (A0e a != 0)=true by simpa using h1]; rfl
 ·cases h
end Go.Proofs.Tryz
