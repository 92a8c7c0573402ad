/- Numbers of any size: quotients that are rounded down, and their remainders. -/
import Derived.Test.YtfjgehlpjppggaaGreatDoorBig10
import Derived.Test.YtfjgehlpjppggaaGreatDoorAdNum
import Derived.Test.YtfjgehlpjppggaaGreatDoorAdPat
import Derived.Test.YtfjgehlpjppggaaGreatDoorAdRat
noncomputable section
namespace Go.Proofs.Tryz
open Go.Ad
open Go.Lib (decDigits itoa nDigits)
def D7y:SP:=⟨[.str,.str,.int .i64],dd8⟩
def M0 (a b:List UInt8):(List UInt8 × List UInt8) × Int :=
 if C9 a ≠ 0 then (([],[]),C9 a) else if C9 b ≠ 0 then (([],[]),C9 b) else if b=[48] then (([],[]),10) else ((itoa ((A7 a).fdiv (A7 b)),itoa ((A7 a).fmod (A7 b))),0)
theorem E3y {a b:List UInt8} (h:(A0g a b != 0)=true):M0 a b=(([],[]),A0g a b):=by
 unfold A0g at h ⊢
 unfold M0
 cases h1:C9 a != 0 with
 | true=>rw [if_pos (by simpa using h1)]; rfl
 | false =>
  rw [h1] at h; simp only [cond_false] at h
  rw [if_neg (by simpa using h1),if_pos (by simpa using h)]; rfl
theorem B8e {a b:List UInt8} (h1:C9 a=0) (h2:C9 b=0):M0 a b=if b=[48] then (([],[]),10) else ((itoa ((A7 a).fdiv (A7 b)),itoa ((A7 a).fmod (A7 b))),0):=by
 unfold M0
 rw [if_neg (by rw [h1]; simp),if_neg (by rw [h2]; simp)]
abbrev partT (a b:List UInt8) (small big:Option (List Lf)):Option (List Lf) :=
 brK (D9 a && D9 b) (brK (A0g a b != 0) (some [.s [],.s [],.i (A0g a b)]) (brK (b == [48]) (some [.s [],.s [],.i 10]) (brK (A9 (isZ a/\isZ b)) (brK (A1p a b) small big) none))) none
abbrev C5s (x y:Int):Option (List Lf) :=
 brK (rg (W (x.tdiv y))) (brK (rg (x.tmod y)) (some [.s (itoa (W (x.tdiv y))),.s (itoa (x.tmod y)),.i 0]) none) none
abbrev C1j (x y:Int):Option (List Lf) :=
 brK (decide ¬ y=0) (brK (decide ¬ y=0) (brK (x.tmod y != 0) (brK (!(decide (x.tmod y < 0) == decide (y < 0)))
  (brK (rg (W (W (x.tdiv y) - 1))) (brK (rg (W (x.tmod y+y))) (some [.s (itoa (W (W (x.tdiv y) - 1))),.s (itoa (W (x.tmod y+y))),.i 0]) none) none) (C5s x y)) (C5s x y)) none) none
abbrev A7t (q:Bool) (Q:Nat) (la:Bool) (R:Nat):Option (List Lf) :=
 brK (A9 (232=232/\isW (wn Q:Int) (wf Q))) (brK (A9 (232=232/\isW (wn R:Int) (wf R))) (some [.s (itoa (sv q (F4 (wn Q:Int) (wf Q)))),.s (itoa (sv la (F4 (wn R:Int) (wf R)))),.i 0]) none) none
abbrev E6u (U Q R:Nat) (p q:Bool × Nat):Option (List Lf) :=
 brK (A9 (232=232/\232=232/\isW (wn Q:Int) (wf Q)/\isW 1 (X9 (fun _=>0) 0 1)/\wn (F4 (wn Q:Int) (wf Q)+F4 1 (X9 (fun _=>0) 0 1))<=232))
  (brK (A9 (232=232/\232=232/\isW (wn R:Int) (wf R)/\isW (wn U:Int) (wf U)/\wn (F4 (wn R:Int) (wf R)+F4 (wn U:Int) (wf U))<=232))
   (A7t p.1 p.2 q.1 q.2) none) none
abbrev F3c (a b:List UInt8) (la lb:Bool) (V U Q R:Nat):Option (List Lf) :=
 brK (A9 (isZ a/\wn V<=232)) (brK (A9 (isZ b/\wn U<=232)) (brK (A9 (232=232/\232=232/\isW (wn V:Int) (wf V)/\isW (wn U:Int) (wf U)/\(wn U:Int)<=231/\0 < F4 (wn U:Int) (wf U)))
  (brK (decide ((wn R:Int) > 0)) (brK (!(la == lb)) (E6u U Q R (A0k true (F4 (wn Q:Int) (wf Q)) true (F4 1 (X9 (fun _=>0) 0 1))) (A0k la (F4 (wn R:Int) (wf R)) lb (F4 (wn U:Int) (wf U)))) (A7t (!(la == lb)) Q la R)) (A7t (!(la == lb)) Q la R)) none) none) none
abbrev C8k (a b:List UInt8) (la lb:Bool) (V U:Nat):Option (List Lf) :=
 F3c a b la lb V U (F4 (wn V:Int) (wf V) / F4 (wn U:Int) (wf U)) (F4 (wn V:Int) (wf V) % F4 (wn U:Int) (wf U))
theorem G1a (a b:List UInt8):(C8 prog pBig20 60).call 112 (spSS.rho [.s a,.s b]) (spSS.heap [.s a,.s b]) (O8 D7y 8 []) =
  partT a b (C1j (bif A1p a b then A7 a else 0) (bif A1p a b then A7 b else 0)) (C8k a b (decide (A7 a < 0)) (decide (A7 b < 0)) (A7 a).natAbs (A7 b).natAbs):=by kernel_rfl
theorem A8s {A B q r:Int} (h:r+B*q=A) (h2:(0 < B/\0<=r/\r < B) \/ (B < 0/\B < r/\r<=0)):A.fdiv B=q/\A.fmod B=r:=by
 rcases h2 with ⟨hB,h1,h2⟩ | ⟨hB,h1,h2⟩
 ·exact (Int.fdiv_fmod_unique hB).2 ⟨h,h1,h2⟩
 ·exact (Int.fdiv_fmod_unique' hB).2 ⟨h,h1,h2⟩
theorem D0f {x y:Int} (hy:y ≠ 0) (x1:-1000000000 < x) (x2:x < 1000000000) (y1:-1000000000 < y) (y2:y < 1000000000) :
  C1j x y=some [.s (itoa (x.fdiv y)),.s (itoa (x.fmod y)),.i 0]:=by
 have h0:=Int.tmod_add_mul_tdiv x y
 have hr:(x.tmod y).natAbs < y.natAbs:=by
  rw [Int.natAbs_tmod]
  exact Nat.mod_lt _ (by omega)
 have hq:(x.tdiv y).natAbs<=x.natAbs:=by
  rw [Int.natAbs_tdiv]
  exact Nat.div_le_self _ _
 unfold C1j C5s
 generalize x.tmod y=r at *
 generalize x.tdiv y=q at *
 rw [V7 (n:=q) (by omega) (by omega),V7 (n:=q - 1) (by omega) (by omega),dT hy,E8,E8,V7 (n:=r+y) (by omega) (by omega)]
 have e1:rg (q - 1)=true:=dT ⟨by omega,by omega⟩
 have e2:rg (r+y)=true:=dT ⟨by omega,by omega⟩
 have e3:rg q=true:=dT ⟨by omega,by omega⟩
 have e4:rg r=true:=dT ⟨by omega,by omega⟩
 rw [e1,e2,e3,e4]
 by_cases hr0:r=0
 ·obtain ⟨f1,f2⟩:=A8s (A:=x) (B:=y) (q:=q) (r:=r) h0 (by omega)
  rw [f1,f2,show (r != 0)=false by simpa using hr0]; rfl
 ·rw [show (r != 0)=true by simpa using hr0]
  by_cases hs:(r < 0 ↔ y < 0)
  ·obtain ⟨f1,f2⟩:=A8s (A:=x) (B:=y) (q:=q) (r:=r) h0 (by omega)
   rw [f1,f2,show (decide (r < 0) == decide (y < 0))=true by rw [beq_iff_eq]; exact decide_eq_decide.2 hs]; rfl
  ·have hm:y*(q - 1)=y*q - y:=by rw [Int.mul_sub,Int.mul_one]
   obtain ⟨f1,f2⟩:=A8s (A:=x) (B:=y) (q:=q - 1) (r:=r+y) (by rw [hm]; omega) (by omega)
   rw [f1,f2,show (decide (r < 0) == decide (y < 0))=false by rw [beq_eq_false_iff_ne]; exact fun e=>hs (decide_eq_decide.1 e)]; rfl
theorem B5z {q la:Bool} {Q R:Nat} (hQ:wn Q<=232) (hR:wn R<=232):A7t q Q la R=some [.s (itoa (sv q Q)),.s (itoa (sv la R)),.i 0]:=by
 unfold A7t
 rw [G7,G7,A8 (show 232=232/\isW (wn Q:Int) (wf Q) from ⟨rfl,N8 hQ⟩),A8 (show 232=232/\isW (wn R:Int) (wf R) from ⟨rfl,N8 hR⟩)]
 rfl
theorem H0y:isW 1 (X9 (fun _=>0) 0 1)/\F4 1 (X9 (fun _=>0) 0 1)=1:=by
 have h1:wn 1=1:=by
  have a:=Z7 (V:=1) (n:=1) (by decide)
  have b:=(C4z (V:=1) (n:=0)).1
  rcases Nat.lt_or_ge (wn 1) 1 with h | h
  ·have:=b (by omega); simp at this
  ·omega
 have h2:X9 (fun _=>0) 0 1=wf 1:=by
  funext i
  unfold X9 wf
  by_cases hi:i=0
  ·subst hi; rfl
  ·rw [A3e (by rw [h1]; omega)]
   simp [hi]
 rw [h2]
 have h3:=G7 1
 have h4:=N8 (V:=1) (by rw [h1]; omega)
 rw [h1] at h3 h4
 exact ⟨h4,h3⟩
theorem H0z {V:Nat}:wn V=0 ↔ V=0:=by
 constructor
 ·intro h
  have:=(C4z (V:=V) (n:=0)).1 (by omega)
  simpa using this
 ·intro h; subst h; exact Y3
theorem E3t {a b:List UInt8} {la lb:Bool} {V U:Nat} (ha:isZ a) (hb:isZ b) (hV:wn V<=114) (hU:wn U<=114) (h0:U ≠ 0) :
  C8k a b la lb V U=some [.s (itoa ((sv la V).fdiv (sv lb U))),.s (itoa ((sv la V).fmod (sv lb U))),.i 0]:=by
 unfold C8k
 rw [G7,G7]
 have hdm:=Nat.div_add_mod V U
 have hlt:=Nat.mod_lt V (Nat.pos_of_ne_zero h0)
 have hQ:wn (V / U)<=114:=Nat.le_trans (A3a (Nat.div_le_self _ _)) hV
 have hR:wn (V % U)<=114:=Nat.le_trans (A3a (Nat.mod_le _ _)) hV
 generalize V / U=Q at *
 generalize V % U=R at *
 unfold F3c
 obtain ⟨o1,o2⟩:=H0y
 have hZ:(V:Int)=(U:Int)*(Q:Int)+(R:Int):=by exact_mod_cast hdm.symm
 rw [G7,G7,G7,o2,A8 (show isZ a/\wn V<=232 from ⟨ha,by omega⟩),A8 (show isZ b/\wn U<=232 from ⟨hb,by omega⟩),
  A8 (show 232=232/\232=232/\isW (wn V:Int) (wf V)/\isW (wn U:Int) (wf U)/\(wn U:Int)<=231/\0 < U from ⟨rfl,rfl,N8 (by omega),N8 (by omega),by omega,by omega⟩),E8,E8,E8,
  B5z (by omega) (by omega)]
 have fl:=@A8s (sv la V) (sv lb U)
 generalize hm:(U:Int)*(Q:Int)=m at *
 have hm1:(U:Int)*-(Q:Int)=-m:=by rw [Int.mul_neg,hm]
 have hm2:-(U:Int)*(Q:Int)=-m:=by rw [Int.neg_mul,hm]
 have hm3:-(U:Int)*-(Q:Int)=m:=by rw [Int.neg_mul,Int.mul_neg,Int.neg_neg,hm]
 have hm4:(U:Int)*(-(Q:Int) - 1)=-m - U:=by rw [Int.mul_sub,Int.mul_one,hm1]
 have hm5:-(U:Int)*(-(Q:Int) - 1)=m+U:=by rw [Int.mul_sub,Int.mul_one,hm3]; omega
 by_cases hR0:R=0
 ·subst hR0
  rw [Y3,dF (show ¬ ((0:Nat):Int) > 0 by omega),I8]
  have:(sv la V).fdiv (sv lb U)=sv (!(la == lb)) Q/\(sv la V).fmod (sv lb U)=sv la 0:=by
   cases la <;> cases lb <;> (refine fl ?_ ?_) <;> simp only [show (!(true == true))=false from rfl,show (!(false == false))=false from rfl,show (!(true == false))=true from rfl,show (!(false == true))=true from rfl,B1p,B5e,hm,hm1,hm2,hm3] <;> omega
  rw [this.1,this.2]
 ·have hwR:wn R ≠ 0:=fun e=>hR0 (H0z.1 e)
  rw [dT (show ((wn R:Nat):Int) > 0 by omega),E8]
  cases hl:(la == lb) with
  | true =>
   have hle:la=lb:=by simpa using hl
   subst hle
   have:(sv la V).fdiv (sv la U)=sv false Q/\(sv la V).fmod (sv la U)=sv la R:=by
    cases la <;> (refine fl ?_ ?_) <;> simp only [B1p,B5e,hm,hm2] <;> omega
   rw [this.1,this.2]; rfl
  | false =>
   have hp:=B4e true Q true 1
   have hp2:=B2q true Q true 1
   have hq:=B4e la R lb U
   have hq2:=B2q la R lb U
   have w1:=D7c hQ (show wn 1<=114 by
    have:=Z7 (V:=1) (n:=1) (by decide)
    omega)
   have w2:=D7c hR hU
   generalize A0k true Q true 1=p at *
   generalize A0k la R lb U=q at *
   unfold E6u
   rw [G7,G7,G7,o2,A8 (show 232=232/\232=232/\isW (wn Q:Int) (wf Q)/\isW 1 (X9 (fun _=>0) 0 1)/\wn (Q+1)<=232 from ⟨rfl,rfl,N8 (by omega),o1,by omega⟩),
    A8 (show 232=232/\232=232/\isW (wn R:Int) (wf R)/\isW (wn U:Int) (wf U)/\wn (R+U)<=232 from ⟨rfl,rfl,N8 (by omega),N8 (by omega),by omega⟩),
    B5z (Nat.le_trans (A3a hp2) (by omega)) (Nat.le_trans (A3a hq2) (by omega)),hp,hq]
   have:(sv la V).fdiv (sv lb U)=sv true Q+sv true 1/\(sv la V).fmod (sv lb U)=sv la R+sv lb U:=by
    have e1:sv true Q+sv true 1=-(Q:Int) - 1:=by simp only [B1p]; omega
    rw [e1]
    cases la <;> cases lb <;> first | exact absurd hl (by decide) | ((refine fl ?_ ?_) <;> simp only [B1p,B5e,hm4,hm5] <;> omega)
   rw [this.1,this.2]
   rfl
def G7e:List Lf->Tr (SP × List Lf)
 | [.s a,.s b]=>.br (D9 a && D9 b) (.leaf (D7y,[.s (M0 a b).1.1,.s (M0 a b).1.2,.i (M0 a b).2])) .fail
 | _=>.fail
def pBig21:Prims:=pBig20.addh 112 (G8 8 (funQ spSS 8 [] G7e))
theorem A3h {A:Amb} (hT:Tab A) (hG:prog.globals.size<=A.G):PrimOK prog A pBig21:=by
 refine (C3o hT hG).addl gsz func112 (by kernel_rfl) (I6 D5 D6 rfl fun ls sq l h=>?_)
 unfold G7e at h
 split at h
 ·rename_i a b
  obtain ⟨hc,hv⟩:=Tr.br1 h
  cases hv
  refine ⟨⟨.inr rfl,.inr rfl,.inr rfl,.inr rfl,.inr rfl,.inr rfl,.inr rfl,.inr rfl,trivial⟩,rfl,pBig20,60,_,C3o hT hG,(G1a a b).trans ?_,fun _ _=>.refl⟩
  unfold partT
  rw [hc,E8]
  cases h:A0g a b != 0 with
  | true=>rw [E3y h]; rfl
  | false =>
   obtain ⟨h1,h2⟩:=C0v h
   rw [B8e h1 h2,I8]
   have w1:=O0 h1
   have w2:=O0 h2
   by_cases hb:b=[48]
   ·subst hb; rfl
   ·have hB:A7 b ≠ 0:=fun e=>by
     have:=w2.1
     unfold isZ at this
     rw [e,itoa0] at this
     exact hb this
    rw [if_neg hb,show (b == [48])=false by simpa using hb,I8,A8 ⟨w1.1,w2.1⟩,E8]
    cases hm:A1p a b with
    | true =>
     obtain ⟨⟨a1,a2⟩,b1,b2⟩:=D8m w1.1 w2.1 hm
     rw [E8]
     exact D0f hB a1 a2 b1 b2
    | false =>
     rw [I8,E3t w1.1 w2.1 w1.2 w2.2 (by omega),B6a,B6a]
 ·cases h
end Go.Proofs.Tryz
namespace Go.Proofs.Tryz
open Go.Ad
open Go.Lib (decDigits itoa nDigits)
def H0m:SP:=⟨[.int .i64,.int .i64],dd8⟩
def C2h (a b:List UInt8):Int × Int:=if C9 a ≠ 0 then (0,C9 a) else if C9 b ≠ 0 then (0,C9 b) else (L9 (A7 a - A7 b),0)
theorem E7v {a b:List UInt8} (h:(A0g a b != 0)=true):C2h a b=(0,A0g a b):=by
 unfold A0g at h ⊢
 unfold C2h
 cases h1:C9 a != 0 with
 | true=>rw [if_pos (by simpa using h1)]; rfl
 | false =>
  rw [h1] at h; simp only [cond_false] at h
  rw [if_neg (by simpa using h1),if_pos (by simpa using h)]; rfl
theorem D9r {a b:List UInt8} (h1:C9 a=0) (h2:C9 b=0):C2h a b=(L9 (A7 a - A7 b),0):=by
 unfold C2h
 rw [if_neg (by rw [h1]; simp),if_neg (by rw [h2]; simp)]
def C9o (a:List UInt8):List UInt8 × Int:=if C9 a ≠ 0 then ([],C9 a) else (itoa (-(A7 a)),0)
theorem C4h {Z:Int} (h:wn Z.natAbs<=232):D9 (itoa Z)=true:=by
 refine dT ?_
 have h1:=A3u Z
 have h2:=B3m h
 omega
theorem G8c (a b:List UInt8):(C8 prog pBig21 60).call 67 (spSS.rho [.s a,.s b]) (spSS.heap [.s a,.s b]) (O8 A1i 8 []) =
  brK (D9 a && D9 b) (brK ((M0 a b).2 != 0) (some [.s [],.i (M0 a b).2]) (brK (D9 (M0 a b).1.1) (brK (C9 (M0 a b).1.1 != 0) (some [.s [],.i (C9 (M0 a b).1.1)]) (some [.s (M0 a b).1.1,.i 0])) none)) none:=by kernel_rfl
theorem H0s (a b:List UInt8):(C8 prog pBig21 60).call 68 (spSS.rho [.s a,.s b]) (spSS.heap [.s a,.s b]) (O8 A1i 8 []) =
  brK (D9 a && D9 b) (some [.s (M0 a b).1.2,.i (M0 a b).2]) none:=by kernel_rfl
theorem E5i (a b:List UInt8):((M0 a b).2 ≠ 0/\(M0 a b).1.1=[]) \/ ((M0 a b).2=0/\C9 (M0 a b).1.1=0/\D9 (M0 a b).1.1=true):=by
 unfold M0
 by_cases h1:C9 a=0
 ·rw [if_neg (by simpa using h1)]
  by_cases h2:C9 b=0
  ·rw [if_neg (by simpa using h2)]
   by_cases h3:b=[48]
   ·rw [if_pos h3]; exact .inl ⟨by simp,rfl⟩
   ·rw [if_neg h3]
    obtain ⟨z1,z2⟩:=O0 h1
    have hle:=Int.natAbs_fdiv_le_natAbs (A7 a) (A7 b)
    have he:C9 (itoa (A7 a))=0:=by
     unfold isZ at z1
     rw [<- z1]; exact h1
    exact .inr ⟨rfl,Y6 he hle,C4h (Nat.le_trans (A3a hle) (by omega))⟩
  ·rw [if_pos h2]; exact .inl ⟨h2,rfl⟩
 ·rw [if_pos h1]; exact .inl ⟨h1,rfl⟩
abbrev D4u (s:Int) (c:Int) (p q:List UInt8):Option (List Lf) :=
 brK ((p.length:Int) != (q.length:Int)) (brK (decide ((p.length:Int) < (q.length:Int))) (some [.i (W (s*-1)),.i 0]) (some [.i (W (s*1)),.i 0])) (some [.i (W (s*c)),.i 0])
theorem G5f (a b:List UInt8):(C8 prog pBig21 60).call 144 (spSS.rho [.s a,.s b]) (spSS.heap [.s a,.s b]) (O8 H0m 8 []) =
  brK (D9 a && D9 b) (brK (A0g a b != 0) (some [.i 0,.i (A0g a b)]) (brK (A9 (isZ a)) (brK (A9 (isZ b)) (brK (decide (L9 (A7 a) < L9 (A7 b))) (some [.i (-1),.i 0])
   (brK (A9 (isZ b)) (brK (decide (L9 (A7 a) > L9 (A7 b))) (some [.i 1,.i 0]) (D4u (L9 (A7 a)) (Lib.compareBytes (F6 a) (F6 b)) (F6 a) (F6 b))) none)) none) none)) none:=by kernel_rfl
theorem E2n (V U:Nat) (s:Int) (h:-1<=s/\s<=1):D4u s (Lib.compareBytes (decDigits V) (decDigits U)) (decDigits V) (decDigits U)=some [.i (s*L9 ((V:Int) - U)),.i 0]:=by
 have h2:=E5z ((V:Int) - U)
 rw [<- E3b] at h2 ⊢
 unfold D4u
 have wi:∀ t:Int,-1<=t/\t<=1->W (s*t)=s*t:=fun t ht=>by
  have:s=-1 \/ s=0 \/ s=1:=by omega
  have:t=-1 \/ t=0 \/ t=1:=by omega
  apply V7 <;> rcases ‹s=-1 \/ s=0 \/ s=1› with rfl | rfl | rfl <;> omega
 by_cases hl:(decDigits V).length=(decDigits U).length
 ·rw [if_neg (by omega)] at h2 ⊢
  rw [hl,show (((decDigits U).length:Int) != ((decDigits U).length:Int))=false by simp,wi _ h2]
  rfl
 ·rw [if_pos hl,show (((decDigits V).length:Int) != ((decDigits U).length:Int))=true by simp; omega]
  by_cases hlt:(decDigits V).length < (decDigits U).length
  ·rw [if_pos hlt,dT (show ((decDigits V).length:Int) < ((decDigits U).length:Int) by omega),wi (-1) (by omega)]; rfl
  ·rw [if_neg hlt,dF (show ¬ ((decDigits V).length:Int) < ((decDigits U).length:Int) by omega),wi 1 (by omega)]; rfl
theorem G5o (a b:List UInt8):(C8 prog pBig21 60).call 165 (spSS.rho [.s a,.s b]) (spSS.heap [.s a,.s b]) (O8 A1i 8 []) =
  brK (D9 a && D9 b) (brK (A0g a b != 0) (some [.s [],.i (A0g a b)]) (brK (A9 (isZ b/\b.length<=1000000000)) (brK (D9 a && D9 (itoa (-(A7 b)))) (some [.s (B0t (·+·) a (itoa (-(A7 b)))).1,.i (B0t (·+·) a (itoa (-(A7 b)))).2]) none) none)) none:=by kernel_rfl
theorem G1k (a:List UInt8):(C8 prog pBig21 60).call 128 (spS1.rho [.s a]) (spS1.heap [.s a]) (O8 A1i 8 []) =
  brK (D9 a) (brK (C9 a != 0) (some [.s [],.i (C9 a)]) (brK (A9 (isZ a/\a.length<=1000000000)) (some [.s (itoa (-(A7 a))),.i 0]) none)) none:=by kernel_rfl
theorem B7t {a:List UInt8} (h:isZ a) (hw:wn (A7 a).natAbs<=232):a.length<=2089:=by
 unfold isZ at h
 rw [h]
 have h1:=A3u (A7 a)
 have h2:=B3m hw
 omega
def T67:List Lf->Tr (SP × List Lf)
 | [.s a,.s b]=>.br (D9 a && D9 b) (.leaf (A1i,[.s (M0 a b).1.1,.i (M0 a b).2])) .fail
 | _=>.fail
def T68:List Lf->Tr (SP × List Lf)
 | [.s a,.s b]=>.br (D9 a && D9 b) (.leaf (A1i,[.s (M0 a b).1.2,.i (M0 a b).2])) .fail
 | _=>.fail
def G9a:List Lf->Tr (SP × List Lf)
 | [.s a,.s b]=>.br (D9 a && D9 b) (.leaf (H0m,[.i (C2h a b).1,.i (C2h a b).2])) .fail
 | _=>.fail
def G9k:List Lf->Tr (SP × List Lf)
 | [.s a]=>.br (D9 a) (.leaf (A1i,[.s (C9o a).1,.i (C9o a).2])) .fail
 | _=>.fail
def pBig22:Prims:=((((pBig21.addh 67 (G8 8 (funQ spSS 8 [] T67))).addh 68 (G8 8 (funQ spSS 8 [] T68))).addh 144 (G8 8 (funQ spSS 8 [] G9a))).addh 165 (G8 8 (funQ spSS 8 [] (E4x (· - ·))))).addh 128 (G8 8 (funQ spS1 8 [] G9k))
theorem A5u {A:Amb} (hT:Tab A) (hG:prog.globals.size<=A.G):PrimOK prog A pBig22:=by
 refine PrimOK.addl (PrimOK.addl (PrimOK.addl (PrimOK.addl ((A3h hT hG).addl gsz func67 (by kernel_rfl) (I6 D5 D6 rfl fun ls sq l h=>?_)) gsz func68 (by kernel_rfl) (I6 D5 D6 rfl fun ls sq l h=>?_))
  gsz func144 (by kernel_rfl) (I6 D5 D6 rfl fun ls sq l h=>?_)) gsz func165 (by kernel_rfl) (I6 D5 D6 rfl fun ls sq l h=>?_)) gsz func128 (by kernel_rfl) (I6 D5 D6 rfl fun ls sq l h=>?_)
 ·unfold T67 at h
  split at h
  ·rename_i a b
   obtain ⟨hc,hv⟩:=Tr.br1 h
   cases hv
   refine ⟨⟨.inr rfl,.inr rfl,.inr rfl,.inr rfl,.inr rfl,.inr rfl,.inr rfl,.inr rfl,trivial⟩,rfl,pBig21,60,_,A3h hT hG,(G8c a b).trans ?_,fun _ _=>.refl⟩
   rw [hc,E8]
   rcases E5i a b with ⟨h1,h2⟩ | ⟨h1,h2,h3⟩
   ·rw [show ((M0 a b).2 != 0)=true by simpa using h1,h2]; rfl
   ·rw [show ((M0 a b).2 != 0)=false by simpa using h1,h3,h1,show (C9 (M0 a b).1.1 != 0)=false by simpa using h2]; rfl
  ·cases h
 ·unfold T68 at h
  split at h
  ·rename_i a b
   obtain ⟨hc,hv⟩:=Tr.br1 h
   cases hv
   refine ⟨⟨.inr rfl,.inr rfl,.inr rfl,.inr rfl,.inr rfl,.inr rfl,.inr rfl,.inr rfl,trivial⟩,rfl,pBig21,60,_,A3h hT hG,(H0s a b).trans ?_,fun _ _=>.refl⟩
   rw [hc]; rfl
  ·cases h
 ·unfold G9a at h
  split at h
  ·rename_i a b
   obtain ⟨hc,hv⟩:=Tr.br1 h
   cases hv
   refine ⟨⟨.inr rfl,.inr rfl,.inr rfl,.inr rfl,.inr rfl,.inr rfl,.inr rfl,.inr rfl,trivial⟩,rfl,pBig21,60,_,A3h hT hG,(G5f a b).trans ?_,fun _ _=>.refl⟩
   rw [hc,E8]
   cases h:A0g a b != 0 with
   | true=>rw [E7v h]; rfl
   | false =>
    obtain ⟨h1,h2⟩:=C0v h
    rw [D9r h1 h2,I8]
    obtain ⟨z1,w1⟩:=O0 h1
    obtain ⟨z2,w2⟩:=O0 h2
    rw [A8 z1,A8 z2,E8,E8,E8]
    by_cases hlt:L9 (A7 a) < L9 (A7 b)
    ·rw [dT hlt,G3i hlt]; rfl
    ·by_cases hgt:L9 (A7 a) > L9 (A7 b)
     ·rw [dF hlt,dT hgt,F9x hgt]; rfl
     ·have ea:F6 a=decDigits (A7 a).natAbs:=by
       have:=B4t (A7 a)
       unfold isZ at z1
       rwa [<- z1] at this
      have eb:F6 b=decDigits (A7 b).natAbs:=by
       have:=B4t (A7 b)
       unfold isZ at z2
       rwa [<- z2] at this
      rw [dF hlt,dF hgt,I8,I8,ea,eb,E2n _ _ _ (E5z _),F8d _ _ hlt hgt]
  ·cases h
 ·unfold E4x at h
  split at h
  ·rename_i a b
   obtain ⟨hc,hv⟩:=Tr.br1 h
   cases hv
   refine ⟨⟨.inr rfl,.inr rfl,.inr rfl,.inr rfl,.inr rfl,.inr rfl,.inr rfl,.inr rfl,trivial⟩,rfl,pBig21,60,_,A3h hT hG,(G5o a b).trans ?_,fun _ _=>.refl⟩
   rw [hc,E8]
   cases h:A0g a b != 0 with
   | true=>rw [D2l _ h]; rfl
   | false =>
    obtain ⟨h1,h2⟩:=C0v h
    rw [B0k _ h1 h2,I8]
    obtain ⟨z2,w2⟩:=O0 h2
    have hl:=B7t z2 (by omega)
    have he:C9 (itoa (-(A7 b)))=0:=by
     refine Y6 (A:=A7 b) ?_ (by omega)
     unfold isZ at z2
     rw [<- z2]; exact h2
    rw [Bool.and_eq_true] at hc
    rw [A8 ⟨z2,by omega⟩,B0k _ h1 he,hc.1,C4h (by rw [Int.natAbs_neg]; omega),D8,Int.sub_eq_add_neg]
    rfl
  ·cases h
 ·unfold G9k at h
  split at h
  ·rename_i a
   obtain ⟨hc,hv⟩:=Tr.br1 h
   cases hv
   refine ⟨⟨.inr rfl,.inr rfl,.inr rfl,.inr rfl,.inr rfl,.inr rfl,.inr rfl,.inr rfl,trivial⟩,rfl,pBig21,60,_,A3h hT hG,(G1k a).trans ?_,fun _ _=>.refl⟩
   rw [hc,E8]
   unfold C9o
   by_cases h1:C9 a=0
   ·obtain ⟨z1,w1⟩:=O0 h1
    have hl:=B7t z1 (by omega)
    rw [if_neg (by simpa using h1),show (C9 a != 0)=false by simpa using h1,A8 ⟨z1,by omega⟩]; rfl
   ·rw [if_pos h1,show (C9 a != 0)=true by simpa using h1]; rfl
  ·cases h
end Go.Proofs.Tryz
namespace Go.Proofs.Tryz
open Go.Ad
open Go.Lib (decDigits itoa nDigits)
def A1x:Code:=f136.body.getD .skip
def C3b:Code:=I7 (J7 0 A1x)
def D4k:Code:=I7 (J7 2 A1x)
def g0:Code:=D6j A1x
def g1:Code:=D6j (B0s A1x)
def g2:Code:=D6j (B0s (B0s A1x))
def g3:Code:=D6j (B0s (B0s (B0s A1x)))
def g4:Code:=B0s (B0s (B0s (B0s A1x)))
theorem D7i:A1x=.seq g0 (.seq g1 (.seq g2 (.seq g3 g4))):=by kernel_rfl
theorem G7m:g3=.block 0 (.loop C3b):=by kernel_rfl
def spGI:SP:=⟨dr 9++[.int .i64,.int .i64]++dr 61,dd8++[opW,opW]⟩
def spG:SP:=⟨dr 7++[pW 8,pW 9]++dr 63,dd8++[opW,opW]⟩
def spGA:SP:=⟨[.str,.str]++dr 70,dd8⟩
def spGE:SP:=⟨dr 4++[.str,.int .i64]++dr 66,dd8⟩
def exG (sp:SP):AEx->SP
 | .ret=>spGE
 | _=>sp
section
variable (lx:Bool) (nx:Int) (mx:Nat) (fx:Nat->Int) (ly:Bool) (ny:Int) (my:Nat) (fy:Nat->Int)
def C5w (m n:Int):List Lf:=[.i m,.i n,.b lx,.i nx,.n mx,.f fx,.b ly,.i ny,.n my,.f fy]
theorem D9y (m n:Int):E9 prog (C8 prog pBig22 60) F7 D4k (spGI.rho (C5w lx nx mx fx ly ny my fy m n)) (spGI.heap (C5w lx nx mx fx ly ny my fy m n)) (H6 (fun _=>spGI) 10 []) =
  brK (n != 0) (brK (decide ¬n=0) (some (.normal,C5w lx nx mx fx ly ny my fy n (m.tmod n))) none) (some (.exit 2,C5w lx nx mx fx ly ny my fy m n)):=by kernel_rfl
end
def C8f:Blk:=hookP spGI 10 [] fun
 | [.i m,.i n,.b lx,.i nx,.n mx,.f fx,.b ly,.i ny,.n my,.f fy]=>.br (A9 (0<=m/\0<=n)) (.leaf (.normal,spGI,C5w lx nx mx fx ly ny my fy (m.toNat.gcd n.toNat:Nat) 0)) .fail
 | _=>.fail
section
variable {A:Amb} (hT:Tab A) (hG:prog.globals.size<=A.G)
include hT hG
theorem E3x:∀ ρ B e' ρ' B' D,(C8f ρ B).get=some (e',ρ',B',D)->AFr B B' D/\SEB prog A B (.block 2 (.loop D4k)) ⟨ρ,B,[]⟩ e' ⟨ρ',B',D⟩:=by
 have hp:=A5u hT hG
 refine M8 rfl fun ls e sq l h=>?_
 split at h
 ·rename_i m n lx nx mx fx ly ny my fy
  obtain ⟨hc,hv⟩:=Tr.br1 h
  cases hv
  obtain ⟨hm,hn⟩:=D7 hc
  obtain ⟨m,rfl⟩:=Int.eq_ofNat_of_zero_le hm
  obtain ⟨n,rfl⟩:=Int.eq_ofNat_of_zero_le hn
  rw [Int.toNat_natCast,Int.toNat_natCast]
  refine ⟨⟨.inr rfl,.inr rfl,.inr rfl,.inr rfl,.inr rfl,.inr rfl,.inr rfl,.inr rfl,.inr rfl,.inr rfl,trivial⟩,fun Bb hB=>SEB.block_exit (id:=2) ?_⟩
  refine SEB.while (fun _:Nat × Nat=>True) (fun s=>s.2) (fun s=>⟨spGI.rho (C5w lx nx mx fx ly ny my fy s.1 s.2),spGI.heap (C5w lx nx mx fx ly ny my fy s.1 s.2),[]⟩)
   (fun s=>(.exit 2,⟨spGI.rho (C5w lx nx mx fx ly ny my fy (s.1.gcd s.2:Nat) 0),spGI.heap (C5w lx nx mx fx ly ny my fy (s.1.gcd s.2:Nat) 0),[]⟩)) (fun s _=>?_) (m,n) trivial
  obtain ⟨m,n⟩:=s
  by_cases h0:n=0
  ·subst h0
   right
   refine ⟨by simp,?_⟩
   have hk:=D9y lx nx mx fx ly ny my fy (m:Int) ((0:Nat):Int)
   rw [show (((0:Nat):Int) != 0)=false from rfl] at hk
   have:=SEB.of_KP (A:=A) (B0:=Bb) (e:=.exit 2) D5 D6 hp (.none _) hB hk rfl
   simp only [Nat.gcd_zero_right]
   exact this
  ·left
   refine ⟨(n,m % n),trivial,Nat.mod_lt _ (Nat.pos_of_ne_zero h0),?_,?_⟩
   ·show ((AEx.exit 2,(_:St)):AEx × St)=_
    have:n.gcd (m % n)=m.gcd n:=by rw [Nat.gcd_comm,<- Nat.gcd_rec,Nat.gcd_comm]
    rw [this]
   ·have hk:=D9y lx nx mx fx ly ny my fy (m:Int) (n:Int)
    rw [show ((n:Int) != 0)=true by simpa using h0,dT (show ¬ (n:Int)=0 by simpa using h0)] at hk
    exact SEB.of_KP (A:=A) (B0:=Bb) (e:=.normal) D5 D6 hp (.none _) hB hk rfl
 ·cases h
end
def lfG (lx:Bool) (nx:Int) (fx:Nat->Int) (ly:Bool) (ny:Int) (fy:Nat->Int):List Lf:=[.b lx,.i nx,.n 232,.f fx,.b ly,.i ny,.n 232,.f fy]
abbrev D9f (nx:Int) (fx:Nat->Int) (ly:Bool) (ny:Int) (fy:Nat->Int) (X Y:Nat):Option (AEx × List Lf) :=
 brK (A9 (232=232/\232=232/\isW nx fx/\isW ny fy/\ny<=231/\0 < Y)) (some (.normal,lfG ly ny fy false (wn (X % Y)) (wf (X % Y)))) none
theorem G3z (lx:Bool) (nx:Int) (fx:Nat->Int) (ly:Bool) (ny:Int) (fy:Nat->Int) :
  E9 prog (C8 prog pBig22 60) (A8y 2 C8f) C3b (spG.rho (lfG lx nx fx ly ny fy)) (spG.heap (lfG lx nx fx ly ny fy)) (H6 (exG spG) 8 []) =
  brK (decide (ny > 0)) (brK (decide (nx<=1)) (brK (decide (ny<=1)) (brK (A9 (0<=fx 0/\0<=fy 0)) (brK (rg ((fx 0).toNat.gcd (fy 0).toNat:Nat)) (some (.ret,[.s (itoa ((fx 0).toNat.gcd (fy 0).toNat:Nat)),.i 0])) none) none)
   (D9f nx fx ly ny fy (F4 nx fx) (F4 ny fy))) (D9f nx fx ly ny fy (F4 nx fx) (F4 ny fy))) (some (.exit 0,lfG lx nx fx ly ny fy)):=by kernel_rfl
def D0y (lx:Bool) (X:Nat) (ly:Bool) (Y:Nat):List Lf:=lfG lx (wn X) (wf X) ly (wn Y) (wf Y)
def stG (lx:Bool) (X:Nat) (ly:Bool) (Y:Nat):St:=⟨spG.rho (D0y lx X ly Y),spG.heap (D0y lx X ly Y),[]⟩
def G2w (s:List UInt8) (e:Int):St:=⟨spGE.rho [.s s,.i e],spGE.heap [.s s,.i e],[]⟩
theorem E6i {X:Nat} (h:wn X<=1):wf X 0=X:=by
 have:=C4z.1 h
 rw [Nat.pow_one] at this
 show ((wd X 0:Nat):Int)=X
 unfold wd
 rw [Nat.pow_zero,Nat.div_one,Nat.mod_eq_of_lt this]
section
variable {A:Amb} (hT:Tab A) (hG:prog.globals.size<=A.G)
include hT hG
theorem G6e {Bb:Heap} (hB:Bb.length=8):∀ (Y X:Nat) (lx ly:Bool),wn X<=114->wn Y<=114 ->
  ∃ e s',SEB prog A Bb (.loop C3b) (stG lx X ly Y) e s'/\((e=.ret/\s'=G2w (itoa (X.gcd Y:Nat)) 0) \/ (e=.exit 0/\∃ l l',s'=stG l (X.gcd Y) l' 0)):=by
 have hp:=A5u hT hG
 have hblk:BlkOK prog A (A8y 2 C8f) C3b:=BlkOK.one (body:=.loop D4k) (by kernel_rfl) fun ρ B e ρ' B' D hq=>(E3x hT hG ρ B e ρ' B' D hq).2
 intro Y
 induction Y using Nat.strongRecOn with
 | _ Y ih =>
  intro X lx ly hX hY
  have hk:=G3z lx (wn X) (wf X) ly (wn Y) (wf Y)
  by_cases h0:Y=0
  ·subst h0
   rw [show decide (((wn 0:Nat):Int) > 0)=false by rw [Y3]; rfl,I8] at hk
   have hs:=SEB.of_KP (A:=A) (B0:=Bb) (e:=.exit 0) D5 D6 hp hblk hB (ls:=D0y lx X ly 0) hk rfl
   rw [Nat.gcd_zero_right]
   exact ⟨.exit 0,_,SEB.loop_exit hs (by simp),.inr ⟨rfl,lx,ly,rfl⟩⟩
  ·have hpos:0 < wn Y:=by rw [A3o h0]; omega
   rw [dT (show ((wn Y:Nat):Int) > 0 by omega),E8,G7,G7] at hk
   have hnx:D9f (wn X) (wf X) ly (wn Y) (wf Y) X Y=some (.normal,D0y ly Y false (X % Y)):=by
    unfold D9f
    rw [A8 ⟨rfl,rfl,N8 (by omega),N8 (by omega),by omega,Nat.pos_of_ne_zero h0⟩]
    rfl
   have next:E9 prog (C8 prog pBig22 60) (A8y 2 C8f) C3b (spG.rho (D0y lx X ly Y)) (spG.heap (D0y lx X ly Y)) (H6 (exG spG) 8 [])=some (.normal,D0y ly Y false (X % Y)) ->
     ∃ e s',SEB prog A Bb (.loop C3b) (stG lx X ly Y) e s'/\((e=.ret/\s'=G2w (itoa (X.gcd Y:Nat)) 0) \/ (e=.exit 0/\∃ l l',s'=stG l (X.gcd Y) l' 0)):=fun hk=>by
    have hs:=SEB.of_KP (A:=A) (B0:=Bb) (e:=.normal) D5 D6 hp hblk hB hk rfl
    have hg:Y.gcd (X % Y)=X.gcd Y:=by rw [Nat.gcd_comm,<- Nat.gcd_rec,Nat.gcd_comm]
    obtain ⟨e,s',h1,h2⟩:=ih (X % Y) (Nat.mod_lt _ (Nat.pos_of_ne_zero h0)) Y ly false hY (Nat.le_trans (A3a (Nat.mod_le _ _)) hX)
    rw [hg] at h2
    exact ⟨e,s',SEB.loop_next hs h1,h2⟩
   rw [hnx] at hk
   by_cases hx1:wn X<=1
   ·by_cases hy1:wn Y<=1
    ·have xl:=C4z.1 hx1
     have yl:=C4z.1 hy1
     rw [Nat.pow_one] at xl yl
     have hBB:BB=1000000000:=rfl
     have hgl:X.gcd Y<=Y:=Nat.gcd_le_right _ (Nat.pos_of_ne_zero h0)
     rw [E6i hx1,E6i hy1,Int.toNat_natCast,Int.toNat_natCast,dT (show ((wn X:Nat):Int)<=1 by omega),dT (show ((wn Y:Nat):Int)<=1 by omega),A8 ⟨by omega,by omega⟩,
      show rg (X.gcd Y:Nat)=true from dT ⟨by omega,by omega⟩] at hk
     have hs:=SEB.of_KP (A:=A) (B0:=Bb) (e:=.ret) D5 D6 hp hblk hB hk rfl
     exact ⟨.ret,_,SEB.loop_exit hs (by simp),.inl ⟨rfl,rfl⟩⟩
    ·rw [dT (show ((wn X:Nat):Int)<=1 by omega),dF (show ¬ ((wn Y:Nat):Int)<=1 by omega)] at hk
     exact next hk
   ·rw [dF (show ¬ ((wn X:Nat):Int)<=1 by omega)] at hk
    exact next hk
end
theorem G9c (a b:List UInt8):E9 prog (C8 prog pBig22 60) F7 g0 ([.sstr a,.sstr b]++List.replicate 70 G6) (Bg 8) (H6 (exG spGA) 8 [])=some (.normal,[.s a,.s b]):=by kernel_rfl
theorem G9e (a b:List UInt8):E9 prog (C8 prog pBig22 60) F7 g1 (spGA.rho [.s a,.s b]) (spGA.heap [.s a,.s b]) (H6 (exG spGA) 8 []) =
  brK (D9 a && D9 b) (brK (A0g a b != 0) (some (.ret,[.s [],.i (A0g a b)])) (some (.normal,[.s a,.s b]))) none:=by kernel_rfl
theorem G8i (a b:List UInt8):E9 prog (C8 prog pBig22 60) F7 g2 (spGA.rho [.s a,.s b]) (spGA.heap [.s a,.s b]) (H6 (exG spG) 8 []) =
  brK (A9 (isZ a/\wn (A7 a).natAbs<=232)) (brK (A9 (isZ b/\wn (A7 b).natAbs<=232)) (some (.normal,D0y (decide (A7 a < 0)) (A7 a).natAbs (decide (A7 b < 0)) (A7 b).natAbs)) none) none:=by kernel_rfl
theorem H0u (lx:Bool) (nx:Int) (fx:Nat->Int) (ly:Bool) (ny:Int) (fy:Nat->Int):E9 prog (C8 prog pBig22 60) F7 g4 (spG.rho (lfG lx nx fx ly ny fy)) (spG.heap (lfG lx nx fx ly ny fy)) (H6 (exG spG) 8 []) =
  brK (A9 (232=232/\isW nx fx)) (some (.ret,[.s (itoa (sv false (F4 nx fx))),.i 0])) none:=by kernel_rfl
def A6a (a b:List UInt8):List UInt8 × Int:=if C9 a ≠ 0 then ([],C9 a) else if C9 b ≠ 0 then ([],C9 b) else (itoa (Int.gcd (A7 a) (A7 b):Nat),0)
theorem E6x {a b:List UInt8} (h:(A0g a b != 0)=true):A6a a b=([],A0g a b):=by
 unfold A0g at h ⊢
 unfold A6a
 cases h1:C9 a != 0 with
 | true=>rw [if_pos (by simpa using h1)]; rfl
 | false =>
  rw [h1] at h; simp only [cond_false] at h
  rw [if_neg (by simpa using h1),if_pos (by simpa using h)]; rfl
theorem B7k {a b:List UInt8} (h1:C9 a=0) (h2:C9 b=0):A6a a b=(itoa (Int.gcd (A7 a) (A7 b):Nat),0):=by
 unfold A6a
 rw [if_neg (by rw [h1]; simp),if_neg (by rw [h2]; simp)]
theorem G4o {X Y:Nat} (hX:wn X<=114) (hY:wn Y<=114):wn (X.gcd Y)<=114:=by
 rcases Nat.eq_zero_or_pos Y with h | h
 ·subst h; rw [Nat.gcd_zero_right]; exact hX
 ·exact Nat.le_trans (A3a (Nat.gcd_le_right _ h)) hY
section
variable {A:Amb} (hT:Tab A) (hG:prog.globals.size<=A.G)
include hT hG
theorem H1x {a b:List UInt8} (hs:(D9 a && D9 b)=true):SEB prog A (Bg 8) A1x ⟨[.sstr a,.sstr b]++List.replicate 70 G6,Bg 8,[]⟩ .ret (G2w (A6a a b).1 (A6a a b).2):=by
 have hp:=A5u hT hG
 have hB:(Bg 8).length=8:=rfl
 rw [D7i]
 refine SEB.seq (SEB.of_KP (A:=A) (e:=.normal) D5 D6 hp (.none _) hB (G9c a b) rfl) ?_
 have k1:=G9e a b
 rw [hs,E8] at k1
 cases h:A0g a b != 0 with
 | true =>
  rw [h,E8] at k1
  rw [E6x h]
  exact SEB.seq_exit (SEB.of_KP (A:=A) (e:=.ret) D5 D6 hp (.none _) hB k1 rfl) (by simp)
 | false =>
  rw [h,I8] at k1
  obtain ⟨h1,h2⟩:=C0v h
  obtain ⟨z1,w1⟩:=O0 h1
  obtain ⟨z2,w2⟩:=O0 h2
  rw [B7k h1 h2]
  refine SEB.seq (SEB.of_KP (A:=A) (e:=.normal) D5 D6 hp (.none _) hB k1 rfl) ?_
  have k2:=G8i a b
  rw [A8 ⟨z1,by omega⟩,A8 ⟨z2,by omega⟩,E8,E8] at k2
  refine SEB.seq (SEB.of_KP (A:=A) (e:=.normal) D5 D6 hp (.none _) hB k2 rfl) ?_
  obtain ⟨e,s',l1,l2⟩:=G6e hT hG hB (A7 b).natAbs (A7 a).natAbs (decide (A7 a < 0)) (decide (A7 b < 0)) w1 w2
  rw [G7m]
  rcases l2 with ⟨rfl,rfl⟩ | ⟨rfl,l,l',rfl⟩
  ·exact SEB.seq_exit (SEB.block_other l1 (by simp)) (by simp)
  ·refine SEB.seq (SEB.block_exit l1) ?_
   have k4:=H0u l (wn ((A7 a).natAbs.gcd (A7 b).natAbs)) (wf ((A7 a).natAbs.gcd (A7 b).natAbs)) l' (wn 0) (wf 0)
   rw [G7,A8 ⟨rfl,N8 (Nat.le_trans (G4o w1 w2) (by omega))⟩,E8] at k4
   exact SEB.of_KP (A:=A) (e:=.ret) D5 D6 hp (.none _) hB k4 rfl
end
def H1e:List Lf->Tr (SP × List Lf)
 | [.s a,.s b]=>.br (D9 a && D9 b) (.leaf (A1i,[.s (A6a a b).1,.i (A6a a b).2])) .fail
 | _=>.fail
def pG (a b x:List UInt8) (e:Int):Prims:=pBig22.addh 136 (G0u [.sstr a,.sstr b] (Bg 8) (.tuple [.sstr x,.sint .i64 e]) (Bg 8) [])
theorem H1v (a b x:List UInt8) (e:Int):(C8 prog (pG a b x e) 60).call 136 (spSS.rho [.s a,.s b]) (spSS.heap [.s a,.s b]) (O8 A1i 8 []) =
  brK (A9 (([.sstr a,.sstr b]:List AV)=[.sstr a,.sstr b]/\Bg 8=Bg 8)) (some [.s x,.i e]) none:=by kernel_rfl
def pBig23:Prims:=pBig22.addh 136 (G8 8 (funQ spSS 8 [] H1e))
theorem B5l {A:Amb} (hT:Tab A) (hG:prog.globals.size<=A.G):PrimOK prog A pBig23:=by
 refine (A5u hT hG).addl gsz func136 (by kernel_rfl) (I6 D5 D6 rfl fun ls sq l h=>?_)
 unfold H1e at h
 split at h
 ·rename_i a b
  obtain ⟨hc,hv⟩:=Tr.br1 h
  cases hv
  refine ⟨⟨.inr rfl,.inr rfl,.inr rfl,.inr rfl,.inr rfl,.inr rfl,.inr rfl,.inr rfl,trivial⟩,rfl,pG a b (A6a a b).1 (A6a a b).2,60,_,?_,(H1v a b _ _).trans ?_,fun _ _=>.refl⟩
  ·refine PrimOK.body (A5u hT hG) func136 (show f136.body=some A1x by kernel_rfl) fun args B v B' D hq=>?_
   obtain ⟨hc1,hv⟩:=Tr.br_get0 hq
   obtain ⟨rfl,rfl⟩:=D7 hc1
   simp only [Tr.get,sI,pI] at hv
   obtain ⟨rfl,rfl,rfl⟩:=hv
   exact ⟨⟨Nat.le_refl _,fun _ _ _=>rfl⟩,[.sstr a,.sstr b],.ret,_,[.sstr (A6a a b).1,.sint .i64 (A6a a b).2],fun _ _ h=>h,H1x hT hG hc,by simp,rfl,rfl,rfl,rfl⟩
  ·rw [A8 ⟨rfl,rfl⟩,E8]
 ·cases h
end Go.Proofs.Tryz
namespace Go.Proofs.Tryz
open Go.Ad
open Go.Lib (decDigits itoa nDigits)
def H1t:SP:=⟨[.str,.is (.int .i64 0)],dd8⟩
def TG (op:Int->Int->Int) (c:Int->Prop):List Lf->Tr (SP × List Lf)
 | [.s a,.s b]=>.br (A9 (C9 a=0/\C9 b=0/\c (A7 b)/\C9 (itoa (op (A7 a) (A7 b)))=0)) (.leaf (H1t,[.s (itoa (op (A7 a) (A7 b)))])) .fail
 | _=>.fail
theorem B3c {a:List UInt8} (h:C9 a=0):D9 a=true:=by
 obtain ⟨z,w⟩:=O0 h
 have:=B7t z (by omega)
 exact dT (by omega)
theorem C6j {C:Int} (h:C9 (itoa C)=0):A1n C=(itoa C,0):=by
 have:=E0l C
 rw [if_neg (by rw [h]; simp)] at this
 exact this.symm
theorem G9b {ι:Emb} {s:List UInt8} {vs:List Value} (h:VRL ι [.sstr s,.sint .i64 0] vs):VRL ι [.sstr s,.int .i64 0] vs:=by
 refine VRL.weaken rfl (fun i a' hi=>?_) h
 match i,hi with
 | 0,hi=>cases hi; exact ⟨_,rfl,fun v hv=>hv⟩
 | 1,hi=>cases hi; exact ⟨_,rfl,fun v hv=>by simpa only [VR] using hv⟩
 | n+2,hi=>simp at hi
section
variable {A:Amb} (hT:Tab A) (hG:prog.globals.size<=A.G)
include hT hG
theorem B0n {f:FuncId} {op:Int->Int->Int} {c:Int->Prop} {r:List UInt8->List UInt8->List UInt8 × Int}
  (hrun:∀ a b,(C8 prog pBig23 60).call f (spSS.rho [.s a,.s b]) (spSS.heap [.s a,.s b]) (O8 A1i 8 [])=brK (D9 a && D9 b) (some [.s (r a b).1,.i (r a b).2]) none)
  (hr:∀ a b,C9 a=0->C9 b=0->c (A7 b)->C9 (itoa (op (A7 a) (A7 b)))=0->r a b=(itoa (op (A7 a) (A7 b)),0)) :
  ∀ args B v B' D,(funQ spSS 8 [] (TG op c) args B).get=some (v,B',D)->AFr B B' D/\CallT prog A f args B v B' D:=by
 refine E7b D5 D6 rfl fun ls sq l h=>?_
 unfold TG at h
 split at h
 ·rename_i a b
  obtain ⟨hc,hv⟩:=Tr.br1 h
  cases hv
  obtain ⟨h1,h2,h3,h4⟩:=D7 hc
  have hk:=hrun a b
  rw [B3c h1,B3c h2,hr a b h1 h2 h3 h4] at hk
  exact ⟨⟨.inr rfl,.inr rfl,.inr rfl,.inr rfl,.inr rfl,.inr rfl,.inr rfl,.inr rfl,trivial⟩,pBig23,60,A1i,_,B5l hT hG,rfl,hk,fun _ _=>Wk.vals fun ι vs hv=>G9b hv⟩
 ·cases h
end
theorem H1u (a b:List UInt8):(C8 prog pBig23 60).call 179 (spSS.rho [.s a,.s b]) (spSS.heap [.s a,.s b]) (O8 A1i 8 [])=brK (D9 a && D9 b) (some [.s (B0t (·+·) a b).1,.i (B0t (·+·) a b).2]) none:=by kernel_rfl
theorem H2b (a b:List UInt8):(C8 prog pBig23 60).call 165 (spSS.rho [.s a,.s b]) (spSS.heap [.s a,.s b]) (O8 A1i 8 [])=brK (D9 a && D9 b) (some [.s (B0t (· - ·) a b).1,.i (B0t (· - ·) a b).2]) none:=by kernel_rfl
theorem g66 (a b:List UInt8):(C8 prog pBig23 60).call 66 (spSS.rho [.s a,.s b]) (spSS.heap [.s a,.s b]) (O8 A1i 8 [])=brK (D9 a && D9 b) (some [.s (B0t (·*·) a b).1,.i (B0t (·*·) a b).2]) none:=by kernel_rfl
theorem g67 (a b:List UInt8):(C8 prog pBig23 60).call 67 (spSS.rho [.s a,.s b]) (spSS.heap [.s a,.s b]) (O8 A1i 8 [])=brK (D9 a && D9 b) (some [.s (M0 a b).1.1,.i (M0 a b).2]) none:=by kernel_rfl
theorem g68 (a b:List UInt8):(C8 prog pBig23 60).call 68 (spSS.rho [.s a,.s b]) (spSS.heap [.s a,.s b]) (O8 A1i 8 [])=brK (D9 a && D9 b) (some [.s (M0 a b).1.2,.i (M0 a b).2]) none:=by kernel_rfl
theorem H1w (a b:List UInt8):(C8 prog pBig23 60).call 136 (spSS.rho [.s a,.s b]) (spSS.heap [.s a,.s b]) (O8 A1i 8 [])=brK (D9 a && D9 b) (some [.s (A6a a b).1,.i (A6a a b).2]) none:=by kernel_rfl
theorem D1l {b:List UInt8} (h:C9 b=0) (h0:A7 b ≠ 0):b ≠ [48]:=fun e=>by
 subst e
 exact h0 rfl
def pG0:Prims:=(((((pBig23.addh 179 (G8 8 (funQ spSS 8 [] (TG (·+·) fun _=>True)))).addh 165 (G8 8 (funQ spSS 8 [] (TG (· - ·) fun _=>True)))).addh 66 (G8 8 (funQ spSS 8 [] (TG (·*·) fun _=>True)))).addh 67 (G8 8 (funQ spSS 8 [] (TG Int.fdiv fun b=>b ≠ 0)))).addh 68
 (G8 8 (funQ spSS 8 [] (TG Int.fmod fun b=>b ≠ 0)))).addh 136 (G8 8 (funQ spSS 8 [] (TG (fun a b=>(Int.gcd a b:Nat)) fun _=>True)))
theorem F2q {A:Amb} (hT:Tab A) (hG:prog.globals.size<=A.G):PrimOK prog A pG0:=by
 refine PrimOK.addl (PrimOK.addl (PrimOK.addl (PrimOK.addl (PrimOK.addl (PrimOK.addl (B5l hT hG) gsz func179 (by kernel_rfl) (B0n hT hG H1u fun a b h1 h2 _ h4=>?_)) gsz func165 (by kernel_rfl) (B0n hT hG H2b fun a b h1 h2 _ h4=>?_))
  gsz func66 (by kernel_rfl) (B0n hT hG g66 fun a b h1 h2 _ h4=>?_)) gsz func67 (by kernel_rfl) (B0n hT hG (r:=fun a b=>((M0 a b).1.1,(M0 a b).2)) g67 fun a b h1 h2 h3 h4=>?_)) gsz func68 (by kernel_rfl) (B0n hT hG (r:=fun a b=>((M0 a b).1.2,(M0 a b).2)) g68 fun a b h1 h2 h3 h4=>?_))
  gsz func136 (by kernel_rfl) (B0n hT hG H1w fun a b h1 h2 _ _=>?_)
 ·rw [B0k _ h1 h2,C6j h4]
 ·rw [B0k _ h1 h2,C6j h4]
 ·rw [B0k _ h1 h2,C6j h4]
 ·rw [B8e h1 h2,if_neg (D1l h2 h3)]
 ·rw [B8e h1 h2,if_neg (D1l h2 h3)]
 ·rw [B7k h1 h2]
end Go.Proofs.Tryz
namespace Go.Proofs.Tryz
open Go.Ad
open Go.Lib (decDigits itoa nDigits)
def A3c (N D:Int):List UInt8:=bif itoa D == [49] then itoa N else itoa N++[47]++itoa D
def sgG (A B:Int):Int:=if B < 0 then -(Int.gcd A B:Int) else Int.gcd A B
def A5g (A B:Int):List UInt8:=A3c (A.fdiv (sgG A B)) (B.fdiv (sgG A B))
def spLo:SP:=⟨[pW 8,.str,.str],dd8++[.cells [.is (.int .i64 0)] 0 true 128]⟩
def F9p:SP:=⟨[.str],dd8++[.cells [.is (.int .i64 0)] 0 true 128]⟩
abbrev F2m (n d:List UInt8):Option (List Lf) :=
 brK (d == [49]) (some [.s n]) (brK (decide (n.length+1 < 4611686018427387904)) (brK (decide ((n++[47]).length+d.length < 4611686018427387904)) (some [.s (n++[47]++d)]) none) none)
abbrev F1a (a b g:List UInt8):Option (List Lf) :=
 brK (A9 (C9 a=0/\C9 g=0/\A7 g ≠ 0/\C9 (itoa ((A7 a).fdiv (A7 g)))=0)) (brK (A9 (C9 b=0/\C9 g=0/\A7 g ≠ 0/\C9 (itoa ((A7 b).fdiv (A7 g)))=0))
  (F2m (itoa ((A7 a).fdiv (A7 g))) (itoa ((A7 b).fdiv (A7 g)))) none) none
abbrev D6f (a b g:List UInt8):Option (List Lf) :=
 brK (A9 (C9 a=0/\C9 b=0/\True/\C9 g=0)) (brK (decide ((b.length:Int) >= 1)) (brK (decide ((0:Int)<=1/\(1:Int)<=(b.length:Int)) && true) (brK ((b.take 1).drop 0 == [45])
  (brK (A9 (C9 [48]=0/\C9 g=0/\True/\C9 (itoa (A7 [48] - A7 g))=0)) (F1a a b (itoa (A7 [48] - A7 g))) none) (F1a a b g)) none) (F1a a b g)) none
theorem H1i (a b:List UInt8):(C8 prog pG0 60).call 97 (spLo.rho [.s a,.s b]) (spLo.heap [.s a,.s b]) (V8 F9p 9 [8])=D6f a b (itoa (Int.gcd (A7 a) (A7 b):Nat)):=by kernel_rfl
theorem F3p {N D:Int} (h1:(itoa N).length<=5000) (h2:(itoa D).length<=5000):F2m (itoa N) (itoa D)=some [.s (A3c N D)]:=by
 unfold F2m A3c
 cases h:itoa D == [49] with
 | true=>rfl
 | false =>
  have e1:(itoa N++[47]).length+(itoa D).length < 4611686018427387904:=by rw [List.length_append]; simp only [List.length_singleton]; omega
  rw [dT (show (itoa N).length+1 < 4611686018427387904 by omega),dT e1]
  rfl
theorem A8b {N:Int} (h:C9 (itoa N)=0):(itoa N).length<=5000:=by
 obtain ⟨z,w⟩:=O0 h
 have:=B7t z (by omega)
 omega
theorem E9o:C9 (itoa 0)=0:=by
 rw [B0e]
 have:=A3s (U:=(0:Int).natAbs) (n:=1) (by decide) (by omega)
 rw [if_neg (by omega)]
theorem X0 {a:List UInt8} (h:C9 a=0):a=itoa (A7 a):=(O0 h).1
theorem E0v {a b:List UInt8} {G:Int} (ha:C9 a=0) (hb:C9 b=0) (hg:C9 (itoa G)=0) (h0:G ≠ 0):F1a a b (itoa G)=some [.s (A3c ((A7 a).fdiv G) ((A7 b).fdiv G))]:=by
 unfold F1a
 have ha':=ha
 have hb':=hb
 rw [X0 ha] at ha'
 rw [X0 hb] at hb'
 have e1:=Y6 ha' (Int.natAbs_fdiv_le_natAbs (A7 a) G)
 have e2:=Y6 hb' (Int.natAbs_fdiv_le_natAbs (A7 b) G)
 rw [D8,A8 ⟨ha,hg,h0,e1⟩,A8 ⟨hb,hg,h0,e2⟩,E8,E8]
 exact F3p (A8b e1) (A8b e2)
theorem B7y {b:List UInt8} (hb:C9 b=0) {x y:Option (List Lf)} :
  brK (decide ((b.length:Int) >= 1)) (brK (decide ((0:Int)<=1/\(1:Int)<=(b.length:Int)) && true) (brK ((b.take 1).drop 0 == [45]) x y) none) y=if A7 b < 0 then x else y:=by
 have hz:=X0 hb
 generalize A7 b=B at hz
 subst hz
 have hh:=A3l B
 cases hc:itoa B with
 | nil=>exact (A3g B hc).elim
 | cons c r =>
  rw [hc] at hh
  rw [dT (show ((List.length (c :: r):Nat):Int) >= 1 by simp; omega),dT (show (0:Int)<=1/\(1:Int)<=((List.length (c :: r):Nat):Int) by simp; omega)]
  have ht:((List.take 1 (c :: r)).drop 0 == [45])=decide (B < 0):=by
   rw [<- hh]
   show ([c] == [45])=_
   simp only [List.getD_cons_zero]
   by_cases h:c=45
   ·subst h; rfl
   ·have h2:c.toNat ≠ 45:=fun e=>h (UInt8.toNat_inj.1 e)
    rw [show ((c.toNat:Int) == 45)=false by rw [beq_eq_false_iff_ne]; omega,beq_eq_false_iff_ne]
    simpa using h
  rw [ht]
  by_cases h:B < 0
  ·rw [if_pos h,dT h]; rfl
  ·rw [if_neg h,dF h]; rfl
theorem E9r {A B:Int} (h:B ≠ 0):(Int.gcd A B:Int) ≠ 0:=by
 have:=Nat.gcd_pos_of_pos_right A.natAbs (n:=B.natAbs) (by omega)
 show ((A.natAbs.gcd B.natAbs:Nat):Int) ≠ 0
 omega
theorem F3v {A B:Int} (hb:C9 (itoa B)=0) (h:B ≠ 0):C9 (itoa (Int.gcd A B:Nat))=0:=by
 refine Y6 hb ?_
 rw [Int.natAbs_natCast]
 exact Nat.gcd_le_right _ (by omega)
theorem E5g {a b:List UInt8} (ha:C9 a=0) (hb:C9 b=0) (h0:A7 b ≠ 0):D6f a b (itoa (Int.gcd (A7 a) (A7 b):Nat))=some [.s (A5g (A7 a) (A7 b))]:=by
 unfold D6f
 have hb':=hb
 rw [X0 hb] at hb'
 have hg:=F3v (A:=A7 a) hb' h0
 have hn:=E9r (A:=A7 a) h0
 rw [A8 ⟨ha,hb,trivial,hg⟩,E8,B7y hb,D8,show A7 [48]=0 from rfl,Int.zero_sub]
 have hg2:C9 (itoa (-(Int.gcd (A7 a) (A7 b):Nat)))=0:=Y6 hg (by rw [Int.natAbs_neg]; exact Nat.le_refl _)
 have h48:C9 [48]=0:=by have:=E9o; rwa [itoa0] at this
 unfold A5g sgG
 by_cases h:A7 b < 0
 ·rw [if_pos h,if_pos h,A8 ⟨h48,hg,trivial,hg2⟩,E8]
  exact E0v ha hb hg2 (by omega)
 ·rw [if_neg h,if_neg h]
  exact E0v ha hb hg hn
def T97:List Lf->Tr (SP × List Lf)
 | [.s a,.s b]=>.br (A9 (C9 a=0/\C9 b=0/\A7 b ≠ 0)) (.leaf (F9p,[.s (A5g (A7 a) (A7 b))])) .fail
 | _=>.fail
def pBig24:Prims:=pBig23.addh 97 (G8 8 (funP spLo 9 [8] T97))
theorem C2v {A:Amb} (hT:Tab A) (hG:prog.globals.size<=A.G):PrimOK prog A pBig24:=by
 refine (B5l hT hG).addl gsz func97 (by kernel_rfl) (K6 D5 D6 rfl fun ls sq l h=>?_)
 unfold T97 at h
 split at h
 ·rename_i a b
  obtain ⟨hc,hv⟩:=Tr.br1 h
  cases hv
  obtain ⟨ha,hb,h0⟩:=D7 hc
  exact ⟨⟨.inr rfl,.inr rfl,.inr rfl,.inr rfl,.inr rfl,.inr rfl,.inr rfl,.inr rfl,.inr rfl,trivial⟩,rfl,rfl,pG0,60,F2q hT hG,(H1i a b).trans (E5g ha hb h0)⟩
 ·cases h
def B8z (a b:List UInt8):List UInt8 × Int:=if C9 a ≠ 0 then ([],C9 a) else if C9 b ≠ 0 then ([],C9 b) else if b=[48] then ([],10) else (A5g (A7 a) (A7 b),0)
theorem H1g (a b:List UInt8):(C8 prog pBig24 60).call 60 (spSS.rho [.s a,.s b]) (spSS.heap [.s a,.s b]) (O8 A1i 8 []) =
  brK (D9 a) (brK (C9 a != 0) (some [.s [],.i (C9 a)]) (brK (D9 b) (brK (C9 b != 0) (some [.s [],.i (C9 b)]) (brK (b == [48]) (some [.s [],.i 10]) (brK (A9 (C9 a=0/\C9 b=0/\A7 b ≠ 0)) (some [.s (A5g (A7 a) (A7 b)),.i 0]) none))) none)) none:=by kernel_rfl
def T60:List Lf->Tr (SP × List Lf)
 | [.s a,.s b]=>.br (D9 a && D9 b) (.leaf (A1i,[.s (B8z a b).1,.i (B8z a b).2])) .fail
 | _=>.fail
theorem E9t {b:List UInt8} (hb:C9 b=0) (h:b ≠ [48]):A7 b ≠ 0:=fun e=>by
 have:=X0 hb
 rw [e,itoa0] at this
 exact h this
def pBig25:Prims:=pBig24.addh 60 (G8 8 (funQ spSS 8 [] T60))
theorem C3z {A:Amb} (hT:Tab A) (hG:prog.globals.size<=A.G):PrimOK prog A pBig25:=by
 refine (C2v hT hG).addl gsz func60 (by kernel_rfl) (I6 D5 D6 rfl fun ls sq l h=>?_)
 unfold T60 at h
 split at h
 ·rename_i a b
  obtain ⟨hc,hv⟩:=Tr.br1 h
  cases hv
  rw [Bool.and_eq_true] at hc
  refine ⟨⟨.inr rfl,.inr rfl,.inr rfl,.inr rfl,.inr rfl,.inr rfl,.inr rfl,.inr rfl,trivial⟩,rfl,pBig24,60,_,C2v hT hG,(H1g a b).trans ?_,fun _ _=>.refl⟩
  rw [hc.1,hc.2,E8]
  unfold B8z
  by_cases h1:C9 a=0
  ·rw [if_neg (by simpa using h1),show (C9 a != 0)=false by simpa using h1,I8,E8]
   by_cases h2:C9 b=0
   ·rw [if_neg (by simpa using h2),show (C9 b != 0)=false by simpa using h2,I8]
    by_cases h3:b=[48]
    ·rw [if_pos h3,show (b == [48])=true by simpa using h3]; rfl
    ·rw [if_neg h3,show (b == [48])=false by simpa using h3,I8,A8 ⟨h1,h2,E9t h2 h3⟩]; rfl
   ·rw [if_pos h2,show (C9 b != 0)=true by simpa using h2]; rfl
  ·rw [if_pos h1,show (C9 a != 0)=true by simpa using h1]; rfl
 ·cases h
end Go.Proofs.Tryz
namespace Go.Proofs.Tryz
open Go.Ad
open Go.Lib (decDigits itoa nDigits)
def D9a:SP:=⟨[.str,.str,.bool],dd8⟩
def spI:SP:=⟨[.int .i64],dd8⟩
theorem G4i (a:List UInt8):(C8 prog pBig25 60).call 104 (spS1.rho [.s a]) (spS1.heap [.s a]) (O8 D9a 8 []) =
  brK ([47] == a) (brK (true && decide ((0:Int)<=1/\(1:Int)<=(a.length:Int))) (some [.s [],.s ((a.take a.length).drop 1),.b true]) none)
   (brK (decide (Lib.indexByte a (byteOf 47) >= 0)) (brK (decide (0<=Lib.indexByte a (byteOf 47)/\Lib.indexByte a (byteOf 47)<=(a.length:Int)) && true) (brK (true && decide (0<=W (Lib.indexByte a (byteOf 47)+1)/\W (Lib.indexByte a (byteOf 47)+1)<=(a.length:Int)))
    (some [.s ((a.take (Lib.indexByte a (byteOf 47)).toNat).drop 0),.s ((a.take a.length).drop (W (Lib.indexByte a (byteOf 47)+1)).toNat),.b true]) none) none) (some [.s a,.s [49],.b false])):=by kernel_rfl
def G8q:List Lf->Tr (SP × List Lf)
 | [.s a]=>.br (D9 a) (.leaf (D9a,[.s (H5 a).1,.s (H5 a).2.1,.b (H5 a).2.2])) .fail
 | _=>.fail
def pBig26:Prims:=pBig25.addh 104 (G8 8 (funQ spS1 8 [] G8q))
theorem C4j {A:Amb} (hT:Tab A) (hG:prog.globals.size<=A.G):PrimOK prog A pBig26:=by
 refine (C3z hT hG).addl gsz func104 (by kernel_rfl) (I6 D5 D6 rfl fun ls sq l h=>?_)
 unfold G8q at h
 split at h
 ·rename_i a
  obtain ⟨hc,hv⟩:=Tr.br1 h
  cases hv
  refine ⟨⟨.inr rfl,.inr rfl,.inr rfl,.inr rfl,.inr rfl,.inr rfl,.inr rfl,.inr rfl,trivial⟩,rfl,pBig25,60,_,C3z hT hG,(G4i a).trans ?_,fun _ _=>.refl⟩
  have hsz:a.length < 2 ^ 62:=of_decide_eq_true hc
  have hb:byteOf 47=47:=by decide
  rw [hb]
  unfold H5
  by_cases h1:a=[47]
  ·subst h1; rfl
  ·rw [show ([47] == a)=false by rw [beq_eq_false_iff_ne]; exact fun e=>h1 e.symm,I8]
   rcases X8 47 a with ⟨e1,e2⟩ | ⟨i,e0,e1,e2⟩
   ·rw [e1,e2]; rfl
   ·have e3:W ((i:Int)+1)=((i+1:Nat):Int):=by rw [V7 (by omega) (by omega)]; omega
    rw [e1,e2,e3,dT (show (i:Int) >= 0 by omega),dT (show 0<=(i:Int)/\(i:Int)<=(a.length:Int) by omega),dT (show 0<=((i+1:Nat):Int)/\((i+1:Nat):Int)<=(a.length:Int) by omega),
     Int.toNat_natCast,Int.toNat_natCast,List.take_length,List.drop_zero]
    rfl
 ·cases h
theorem G2v (a:List UInt8):(C8 prog pBig26 60).call 103 (spS1.rho [.s a]) (spS1.heap [.s a]) (V8 spI 8 []) =
  brK (D9 a) ((fun (n d:List UInt8) (w:Bool)=>brK (D9 n) (brK (D9 d) (brK (C9 n == 3) (some [.i 3]) (brK (C9 d == 3) (some [.i 3]) (brK (C9 n != 0) (some [.i (if C9 d > C9 n then C9 d else C9 n)]) (brK (C9 d != 0) (some [.i (if C9 d > C9 n then C9 d else C9 n)])
   (brK (!w) (some [.i 0]) (brK (D9 d && D9 [49]) (brK (D9 n && D9 d) (brK ((C2h d [49]).2 != 0) (some [.i 3]) (brK ((A6a n d).2 != 0) (some [.i 3]) (brK (decide ((C2h d [49]).1<=0)) (some [.i 3]) (brK (!((A6a n d).1 == [49])) (some [.i 3]) (some [.i 0]))))) none) none))))))
    none) none) (H5 a).1 (H5 a).2.1 (H5 a).2.2) none:=by kernel_rfl
theorem B9b:C9 [49]=0:=by decide
theorem itoa_1:itoa 1=[49]:=by
 show decDigits 1=[49]
 rw [Q6 (by omega)]; rfl
theorem D9t {a:List UInt8} (h:a.length < 2 ^ 61):D9 (H5 a).1=true/\D9 (H5 a).2.1=true:=by
 obtain ⟨h1,h2⟩:=D1d a
 exact ⟨dT (by omega),dT (by omega)⟩
theorem E5d {n d:List UInt8} (hn:C9 n=0) (hd:C9 d=0):((A6a n d).1 == [49])=decide (Int.gcd (A7 n) (A7 d)=1):=by
 rw [B7k hn hd]
 by_cases h:Int.gcd (A7 n) (A7 d)=1
 ·rw [dT h,h]
  show (itoa ((1:Nat):Int) == [49])=true
  rw [show ((1:Nat):Int)=1 from rfl,itoa_1]; rfl
 ·rw [dF h,beq_eq_false_iff_ne]
  intro e
  rw [<- itoa_1] at e
  have e:itoa (Int.gcd (A7 n) (A7 d):Nat)=itoa 1:=e
  have:=A8v e
  omega
theorem F6a {a:List UInt8} (h:a.length < 2 ^ 61) :
  (fun (n d:List UInt8) (w:Bool)=>brK (D9 n) (brK (D9 d) (brK (C9 n == 3) (some [Lf.i 3]) (brK (C9 d == 3) (some [.i 3]) (brK (C9 n != 0) (some [.i (if C9 d > C9 n then C9 d else C9 n)]) (brK (C9 d != 0) (some [.i (if C9 d > C9 n then C9 d else C9 n)])
   (brK (!w) (some [.i 0]) (brK (D9 d && D9 [49]) (brK (D9 n && D9 d) (brK ((C2h d [49]).2 != 0) (some [.i 3]) (brK ((A6a n d).2 != 0) (some [.i 3]) (brK (decide ((C2h d [49]).1<=0)) (some [.i 3]) (brK (!((A6a n d).1 == [49])) (some [.i 3]) (some [.i 0]))))) none) none))))))
    none) none) (H5 a).1 (H5 a).2.1 (H5 a).2.2=some [.i (A0r a)]:=by
 obtain ⟨s1,s2⟩:=D9t h
 unfold A0r
 generalize (H5 a).1=n at *
 generalize (H5 a).2.1=d at *
 generalize (H5 a).2.2=w at *
 show brK (D9 n) _ _=_
 rw [s1,s2,E8,E8]
 by_cases h1:C9 n=3
 ·rw [if_pos (show C9 n=3 \/ C9 d=3 from .inl h1),show (C9 n == 3)=true by simpa using h1]; rfl
 ·rw [show (C9 n == 3)=false by simpa using h1,I8]
  by_cases h2:C9 d=3
  ·rw [if_pos (show C9 n=3 \/ C9 d=3 from .inr h2),show (C9 d == 3)=true by simpa using h2]; rfl
  ·rw [if_neg (show ¬ (C9 n=3 \/ C9 d=3) by rw [not_or]; exact ⟨h1,h2⟩),show (C9 d == 3)=false by simpa using h2,I8]
   have v1:=D3d n
   have v2:=D3d d
   by_cases h3:C9 n=0
   ·rw [show (C9 n != 0)=false by simpa using h3,I8]
    by_cases h4:C9 d=0
    ·rw [if_neg (show ¬ (C9 n ≠ 0 \/ C9 d ≠ 0) by rw [not_or]; exact ⟨by simpa using h3,by simpa using h4⟩),show (C9 d != 0)=false by simpa using h4,I8]
     cases w with
     | false=>rfl
     | true =>
      rw [D9r h4 B9b,E5d h3 h4,show (A6a n d).2=0 by rw [B7k h3 h4],show A7 [49]=1 from rfl,show D9 [49]=true from rfl]
      by_cases h5:1 < A7 d
      ·have h6:L9 (A7 d - 1)=1:=by unfold L9; rw [if_neg (by omega),if_neg (by omega)]
       rw [h6]
       by_cases h7:Int.gcd (A7 n) (A7 d)=1
       ·rw [dT h7,if_neg (by simp [h5,h7])]; rfl
       ·rw [dF h7,if_pos (by simp [h7])]; rfl
      ·have h6:decide (L9 (A7 d - 1)<=0)=true:=by
        refine dT ?_
        unfold L9
        by_cases h8:A7 d - 1=0
        ·rw [if_pos h8]; omega
        ·rw [if_neg h8,if_pos (by omega)]; omega
       rw [h6,if_pos (by simp [h5])]; rfl
    ·have e1:C9 d=11:=by omega
     rw [if_pos (show C9 n ≠ 0 \/ C9 d ≠ 0 from .inr h4),e1,h3]; rfl
   ·rw [if_pos (show C9 n ≠ 0 \/ C9 d ≠ 0 from .inl h3),show (C9 n != 0)=true by simpa using h3,E8]
    have e1:C9 n=11:=by omega
    rw [e1]
    rcases v2 with v | v | v
    ·rw [v]; rfl
    ·exact (h2 v).elim
    ·rw [v]; rfl
def szH (a:List UInt8):Bool:=decide (a.length < 2 ^ 61)
theorem C7i {a:List UInt8} (h:szH a=true):D9 a=true:=by
 have:=of_decide_eq_true h
 exact dT (by omega)
def G6l:List Lf->Tr (SP × List Lf)
 | [.s a]=>.br (szH a) (.leaf (spI,[.i (A0r a)])) .fail
 | _=>.fail
def pBig27:Prims:=pBig26.addh 103 (G8 8 (funP spS1 8 [] G6l))
theorem C3u {A:Amb} (hT:Tab A) (hG:prog.globals.size<=A.G):PrimOK prog A pBig27:=by
 refine (C4j hT hG).addl gsz func103 (by kernel_rfl) (K6 D5 D6 rfl fun ls sq l h=>?_)
 unfold G6l at h
 split at h
 ·rename_i a
  obtain ⟨hc,hv⟩:=Tr.br1 h
  cases hv
  refine ⟨⟨.inr rfl,.inr rfl,.inr rfl,.inr rfl,.inr rfl,.inr rfl,.inr rfl,.inr rfl,trivial⟩,rfl,rfl,pBig26,60,C4j hT hG,(G2v a).trans ?_⟩
  rw [C7i hc,E8]
  exact F6a (of_decide_eq_true hc)
 ·cases h
def V9 (a:List UInt8):(List UInt8 × List UInt8) × Int:=if A0r a ≠ 0 then (([],[]),A0r a) else (((H5 a).1,(H5 a).2.1),0)
theorem H0v (a:List UInt8):(C8 prog pBig27 60).call 63 (spS1.rho [.s a]) (spS1.heap [.s a]) (O8 D7y 8 []) =
  brK (szH a) (brK (A0r a != 0) (some [.s [],.s [],.i (A0r a)]) (brK (D9 a) (some [.s (H5 a).1,.s (H5 a).2.1,.i 0]) none)) none:=by kernel_rfl
def T63:List Lf->Tr (SP × List Lf)
 | [.s a]=>.br (szH a) (.leaf (D7y,[.s (V9 a).1.1,.s (V9 a).1.2,.i (V9 a).2])) .fail
 | _=>.fail
def pBig28:Prims:=pBig27.addh 63 (G8 8 (funQ spS1 8 [] T63))
theorem B5d {A:Amb} (hT:Tab A) (hG:prog.globals.size<=A.G):PrimOK prog A pBig28:=by
 refine (C3u hT hG).addl gsz func63 (by kernel_rfl) (I6 D5 D6 rfl fun ls sq l h=>?_)
 unfold T63 at h
 split at h
 ·rename_i a
  obtain ⟨hc,hv⟩:=Tr.br1 h
  cases hv
  refine ⟨⟨.inr rfl,.inr rfl,.inr rfl,.inr rfl,.inr rfl,.inr rfl,.inr rfl,.inr rfl,trivial⟩,rfl,pBig27,60,_,C3u hT hG,(H0v a).trans ?_,fun _ _=>.refl⟩
  rw [hc,C7i hc,E8,E8]
  unfold V9
  by_cases h1:A0r a=0
  ·rw [if_neg (by simpa using h1),show (A0r a != 0)=false by simpa using h1]; rfl
  ·rw [if_pos h1,show (A0r a != 0)=true by simpa using h1]; rfl
 ·cases h
end Go.Proofs.Tryz
