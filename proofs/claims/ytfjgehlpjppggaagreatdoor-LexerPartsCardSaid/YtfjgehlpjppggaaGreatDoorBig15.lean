/- Numbers of any size: quotients that are rounded down, and their remainders. -/
import Derived.Test.YtfjgehlpjppggaaGreatDoorBig10
import Derived.Test.YtfjgehlpjppggaaGreatDoorAdNum
import Derived.Test.YtfjgehlpjppggaaGreatDoorAdPat
import Derived.Test.YtfjgehlpjppggaaGreatDoorAdRat
namespace Go.Proofs.Tryz
open Go.Ad
open Go.Lib (decDigits itoa nDigits)
def spSSI:SP:=⟨[.str,.str,.int .i64],dd8⟩
def partR (a b:List UInt8):(List UInt8 × List UInt8) × Int :=
 if errI a ≠ 0 then (([],[]),errI a) else if errI b ≠ 0 then (([],[]),errI b) else if b=[48] then (([],[]),10) else ((itoa ((dvalZ a).fdiv (dvalZ b)),itoa ((dvalZ a).fmod (dvalZ b))),0)
theorem partR_err {a b:List UInt8} (h:(allR a b != 0)=true):partR a b=(([],[]),allR a b):=by
 unfold allR at h ⊢
 unfold partR
 cases h1:errI a != 0 with
 | true=>rw [if_pos (by simpa using h1)]; rfl
 | false =>
  rw [h1] at h; simp only [cond_false] at h
  rw [if_neg (by simpa using h1),if_pos (by simpa using h)]; rfl
theorem partR_ok {a b:List UInt8} (h1:errI a=0) (h2:errI b=0):partR a b=if b=[48] then (([],[]),10) else ((itoa ((dvalZ a).fdiv (dvalZ b)),itoa ((dvalZ a).fmod (dvalZ b))),0):=by
 unfold partR
 rw [if_neg (by rw [h1]; simp),if_neg (by rw [h2]; simp)]
noncomputable abbrev partT (a b:List UInt8) (small big:Option (List Lf)):Option (List Lf) :=
 brK (szOK a && szOK b) (brK (allR a b != 0) (some [.s [],.s [],.i (allR a b)]) (brK (b == [48]) (some [.s [],.s [],.i 10]) (brK (propB (isZ a∧isZ b)) (brK (smOK a b) small big) none))) none
noncomputable abbrev same112 (x y:Int):Option (List Lf) :=
 brK (rg (W (x.tdiv y))) (brK (rg (x.tmod y)) (some [.s (itoa (W (x.tdiv y))),.s (itoa (x.tmod y)),.i 0]) none) none
noncomputable abbrev small112 (x y:Int):Option (List Lf) :=
 brK (decide ¬ y=0) (brK (decide ¬ y=0) (brK (x.tmod y != 0) (brK (!(decide (x.tmod y < 0) == decide (y < 0)))
  (brK (rg (W (W (x.tdiv y) - 1))) (brK (rg (W (x.tmod y+y))) (some [.s (itoa (W (W (x.tdiv y) - 1))),.s (itoa (W (x.tmod y+y))),.i 0]) none) none) (same112 x y)) (same112 x y)) none) none
noncomputable abbrev plain112 (q:Bool) (Q:Nat) (la:Bool) (R:Nat):Option (List Lf) :=
 brK (propB (232=232∧isW (wn Q:Int) (wf Q))) (brK (propB (232=232∧isW (wn R:Int) (wf R))) (some [.s (itoa (sv q (valW (wn Q:Int) (wf Q)))),.s (itoa (sv la (valW (wn R:Int) (wf R)))),.i 0]) none) none
noncomputable abbrev fix112 (U Q R:Nat) (p q:Bool × Nat):Option (List Lf) :=
 brK (propB (232=232∧232=232∧isW (wn Q:Int) (wf Q)∧isW 1 (updF (fun _=>0) 0 1)∧wn (valW (wn Q:Int) (wf Q)+valW 1 (updF (fun _=>0) 0 1))≤232))
  (brK (propB (232=232∧232=232∧isW (wn R:Int) (wf R)∧isW (wn U:Int) (wf U)∧wn (valW (wn R:Int) (wf R)+valW (wn U:Int) (wf U))≤232))
   (plain112 p.1 p.2 q.1 q.2) none) none
noncomputable abbrev big112 (a b:List UInt8) (la lb:Bool) (V U Q R:Nat):Option (List Lf) :=
 brK (propB (isZ a∧wn V≤232)) (brK (propB (isZ b∧wn U≤232)) (brK (propB (232=232∧232=232∧isW (wn V:Int) (wf V)∧isW (wn U:Int) (wf U)∧(wn U:Int)≤231∧0 < valW (wn U:Int) (wf U)))
  (brK (decide ((wn R:Int) > 0)) (brK (!(la == lb)) (fix112 U Q R (plusR true (valW (wn Q:Int) (wf Q)) true (valW 1 (updF (fun _=>0) 0 1))) (plusR la (valW (wn R:Int) (wf R)) lb (valW (wn U:Int) (wf U)))) (plain112 (!(la == lb)) Q la R)) (plain112 (!(la == lb)) Q la R)) none) none) none
noncomputable abbrev big112' (a b:List UInt8) (la lb:Bool) (V U:Nat):Option (List Lf) :=
 big112 a b la lb V U (valW (wn V:Int) (wf V) / valW (wn U:Int) (wf U)) (valW (wn V:Int) (wf V) % valW (wn U:Int) (wf U))
theorem run112 (a b:List UInt8):(runK prog pBig20 60).call 112 (spSS.rho [.s a,.s b]) (spSS.heap [.s a,.s b]) (finQ spSSI 8 []) =
  partT a b (small112 (bif smOK a b then dvalZ a else 0) (bif smOK a b then dvalZ b else 0)) (big112' a b (decide (dvalZ a < 0)) (decide (dvalZ b < 0)) (dvalZ a).natAbs (dvalZ b).natAbs):=by kernel_rfl
theorem floorZ {A B q r:Int} (h:r+B*q=A) (h2:(0 < B∧0≤r∧r < B) ∨ (B < 0∧B < r∧r≤0)):A.fdiv B=q∧A.fmod B=r:=by
 rcases h2 with ⟨hB,h1,h2⟩ | ⟨hB,h1,h2⟩
 ·exact (Int.fdiv_fmod_unique hB).2 ⟨h,h1,h2⟩
 ·exact (Int.fdiv_fmod_unique' hB).2 ⟨h,h1,h2⟩
theorem small112_eq {x y:Int} (hy:y ≠ 0) (x1:-1000000000 < x) (x2:x < 1000000000) (y1:-1000000000 < y) (y2:y < 1000000000) :
  small112 x y=some [.s (itoa (x.fdiv y)),.s (itoa (x.fmod y)),.i 0]:=by
 have h0:=Int.tmod_add_mul_tdiv x y
 have hr:(x.tmod y).natAbs < y.natAbs:=by
  rw [Int.natAbs_tmod]
  exact Nat.mod_lt _ (by omega)
 have hq:(x.tdiv y).natAbs≤x.natAbs:=by
  rw [Int.natAbs_tdiv]
  exact Nat.div_le_self _ _
 unfold small112 same112
 generalize x.tmod y=r at *
 generalize x.tdiv y=q at *
 rw [W_id (n:=q) (by omega) (by omega),W_id (n:=q - 1) (by omega) (by omega),decide_eq_true hy,brK_t,brK_t,W_id (n:=r+y) (by omega) (by omega)]
 have e1:rg (q - 1)=true:=decide_eq_true ⟨by omega,by omega⟩
 have e2:rg (r+y)=true:=decide_eq_true ⟨by omega,by omega⟩
 have e3:rg q=true:=decide_eq_true ⟨by omega,by omega⟩
 have e4:rg r=true:=decide_eq_true ⟨by omega,by omega⟩
 rw [e1,e2,e3,e4]
 by_cases hr0:r=0
 ·obtain ⟨f1,f2⟩:=floorZ (A:=x) (B:=y) (q:=q) (r:=r) h0 (by omega)
  rw [f1,f2,show (r != 0)=false by simpa using hr0]; rfl
 ·rw [show (r != 0)=true by simpa using hr0]
  by_cases hs:(r < 0 ↔ y < 0)
  ·obtain ⟨f1,f2⟩:=floorZ (A:=x) (B:=y) (q:=q) (r:=r) h0 (by omega)
   rw [f1,f2,show (decide (r < 0) == decide (y < 0))=true by rw [beq_iff_eq]; exact decide_eq_decide.2 hs]; rfl
  ·have hm:y*(q - 1)=y*q - y:=by rw [Int.mul_sub,Int.mul_one]
   obtain ⟨f1,f2⟩:=floorZ (A:=x) (B:=y) (q:=q - 1) (r:=r+y) (by rw [hm]; omega) (by omega)
   rw [f1,f2,show (decide (r < 0) == decide (y < 0))=false by rw [beq_eq_false_iff_ne]; exact fun e=>hs (decide_eq_decide.1 e)]; rfl
theorem plain112_eq {q la:Bool} {Q R:Nat} (hQ:wn Q≤232) (hR:wn R≤232):plain112 q Q la R=some [.s (itoa (sv q Q)),.s (itoa (sv la R)),.i 0]:=by
 unfold plain112
 rw [valW_wf,valW_wf,propB_true (show 232=232∧isW (wn Q:Int) (wf Q) from ⟨rfl,isW_wf hQ⟩),propB_true (show 232=232∧isW (wn R:Int) (wf R) from ⟨rfl,isW_wf hR⟩)]
 rfl
theorem one_w:isW 1 (updF (fun _=>0) 0 1)∧valW 1 (updF (fun _=>0) 0 1)=1:=by
 have h1:wn 1=1:=by
  have a:=wn_le (V:=1) (n:=1) (by decide)
  have b:=(wn_lt_iff (V:=1) (n:=0)).1
  rcases Nat.lt_or_ge (wn 1) 1 with h | h
  ·have:=b (by omega); simp at this
  ·omega
 have h2:updF (fun _=>0) 0 1=wf 1:=by
  funext i
  unfold updF wf
  by_cases hi:i=0
  ·subst hi; rfl
  ·rw [wd_zero (by rw [h1]; omega)]
   simp [hi]
 rw [h2]
 have h3:=valW_wf 1
 have h4:=isW_wf (V:=1) (by rw [h1]; omega)
 rw [h1] at h3 h4
 exact ⟨h4,h3⟩
theorem wn_0_iff {V:Nat}:wn V=0 ↔ V=0:=by
 constructor
 ·intro h
  have:=(wn_lt_iff (V:=V) (n:=0)).1 (by omega)
  simpa using this
 ·intro h; subst h; exact wn_zero
theorem big112_eq {a b:List UInt8} {la lb:Bool} {V U:Nat} (ha:isZ a) (hb:isZ b) (hV:wn V≤114) (hU:wn U≤114) (h0:U ≠ 0) :
  big112' a b la lb V U=some [.s (itoa ((sv la V).fdiv (sv lb U))),.s (itoa ((sv la V).fmod (sv lb U))),.i 0]:=by
 unfold big112'
 rw [valW_wf,valW_wf]
 have hdm:=Nat.div_add_mod V U
 have hlt:=Nat.mod_lt V (Nat.pos_of_ne_zero h0)
 have hQ:wn (V / U)≤114:=Nat.le_trans (wn_mono (Nat.div_le_self _ _)) hV
 have hR:wn (V % U)≤114:=Nat.le_trans (wn_mono (Nat.mod_le _ _)) hV
 generalize V / U=Q at *
 generalize V % U=R at *
 unfold big112
 obtain ⟨o1,o2⟩:=one_w
 have hZ:(V:Int)=(U:Int)*(Q:Int)+(R:Int):=by exact_mod_cast hdm.symm
 rw [valW_wf,valW_wf,valW_wf,o2,propB_true (show isZ a∧wn V≤232 from ⟨ha,by omega⟩),propB_true (show isZ b∧wn U≤232 from ⟨hb,by omega⟩),
  propB_true (show 232=232∧232=232∧isW (wn V:Int) (wf V)∧isW (wn U:Int) (wf U)∧(wn U:Int)≤231∧0 < U from ⟨rfl,rfl,isW_wf (by omega),isW_wf (by omega),by omega,by omega⟩),brK_t,brK_t,brK_t,
  plain112_eq (by omega) (by omega)]
 have fl:=@floorZ (sv la V) (sv lb U)
 generalize hm:(U:Int)*(Q:Int)=m at *
 have hm1:(U:Int)*-(Q:Int)=-m:=by rw [Int.mul_neg,hm]
 have hm2:-(U:Int)*(Q:Int)=-m:=by rw [Int.neg_mul,hm]
 have hm3:-(U:Int)*-(Q:Int)=m:=by rw [Int.neg_mul,Int.mul_neg,Int.neg_neg,hm]
 have hm4:(U:Int)*(-(Q:Int) - 1)=-m - U:=by rw [Int.mul_sub,Int.mul_one,hm1]
 have hm5:-(U:Int)*(-(Q:Int) - 1)=m+U:=by rw [Int.mul_sub,Int.mul_one,hm3]; omega
 by_cases hR0:R=0
 ·subst hR0
  rw [wn_zero,decide_eq_false (show ¬ ((0:Nat):Int) > 0 by omega),brK_f]
  have:(sv la V).fdiv (sv lb U)=sv (!(la == lb)) Q∧(sv la V).fmod (sv lb U)=sv la 0:=by
   cases la <;> cases lb <;> (refine fl ?_ ?_) <;> simp only [show (!(true == true))=false from rfl,show (!(false == false))=false from rfl,show (!(true == false))=true from rfl,show (!(false == true))=true from rfl,sv_t,sv_f,hm,hm1,hm2,hm3] <;> omega
  rw [this.1,this.2]
 ·have hwR:wn R ≠ 0:=fun e=>hR0 (wn_0_iff.1 e)
  rw [decide_eq_true (show ((wn R:Nat):Int) > 0 by omega),brK_t]
  cases hl:(la == lb) with
  | true =>
   have hle:la=lb:=by simpa using hl
   subst hle
   have:(sv la V).fdiv (sv la U)=sv false Q∧(sv la V).fmod (sv la U)=sv la R:=by
    cases la <;> (refine fl ?_ ?_) <;> simp only [sv_t,sv_f,hm,hm2] <;> omega
   rw [this.1,this.2]; rfl
  | false =>
   have hp:=plusR_sv true Q true 1
   have hp2:=plusR_le true Q true 1
   have hq:=plusR_sv la R lb U
   have hq2:=plusR_le la R lb U
   have w1:=wn_add hQ (show wn 1≤114 by
    have:=wn_le (V:=1) (n:=1) (by decide)
    omega)
   have w2:=wn_add hR hU
   generalize plusR true Q true 1=p at *
   generalize plusR la R lb U=q at *
   unfold fix112
   rw [valW_wf,valW_wf,valW_wf,o2,propB_true (show 232=232∧232=232∧isW (wn Q:Int) (wf Q)∧isW 1 (updF (fun _=>0) 0 1)∧wn (Q+1)≤232 from ⟨rfl,rfl,isW_wf (by omega),o1,by omega⟩),
    propB_true (show 232=232∧232=232∧isW (wn R:Int) (wf R)∧isW (wn U:Int) (wf U)∧wn (R+U)≤232 from ⟨rfl,rfl,isW_wf (by omega),isW_wf (by omega),by omega⟩),
    plain112_eq (Nat.le_trans (wn_mono hp2) (by omega)) (Nat.le_trans (wn_mono hq2) (by omega)),hp,hq]
   have:(sv la V).fdiv (sv lb U)=sv true Q+sv true 1∧(sv la V).fmod (sv lb U)=sv la R+sv lb U:=by
    have e1:sv true Q+sv true 1=-(Q:Int) - 1:=by simp only [sv_t]; omega
    rw [e1]
    cases la <;> cases lb <;> first | exact absurd hl (by decide) | ((refine fl ?_ ?_) <;> simp only [sv_t,sv_f,hm4,hm5] <;> omega)
   rw [this.1,this.2]
   rfl
noncomputable def T112:List Lf→Tr (SP × List Lf)
 | [.s a,.s b]=>.br (szOK a && szOK b) (.leaf (spSSI,[.s (partR a b).1.1,.s (partR a b).1.2,.i (partR a b).2])) .fail
 | _=>.fail
noncomputable def pBig21:Prims:=pBig20.addh 112 (liftG 8 (funQ spSS 8 [] T112))
theorem pBig21_ok {A:Amb} (hT:Tab A) (hG:prog.globals.size≤A.G):PrimOK prog A pBig21:=by
 refine (pBig20_ok hT hG).addl gsz func112 (by kernel_rfl) (funQ_ok hmix hnum rfl fun ls sq l h=>?_)
 unfold T112 at h
 split at h
 ·rename_i a b
  obtain ⟨hc,hv⟩:=Tr.br1 h
  cases hv
  refine ⟨⟨.inr rfl,.inr rfl,.inr rfl,.inr rfl,.inr rfl,.inr rfl,.inr rfl,.inr rfl,trivial⟩,rfl,pBig20,60,_,pBig20_ok hT hG,(run112 a b).trans ?_,fun _ _=>.refl⟩
  unfold partT
  rw [hc,brK_t]
  cases h:allR a b != 0 with
  | true=>rw [partR_err h]; rfl
  | false =>
   obtain ⟨h1,h2⟩:=allR_0 h
   rw [partR_ok h1 h2,brK_f]
   have w1:=errI_wn h1
   have w2:=errI_wn h2
   by_cases hb:b=[48]
   ·subst hb; rfl
   ·have hB:dvalZ b ≠ 0:=fun e=>by
     have:=w2.1
     unfold isZ at this
     rw [e,itoa0] at this
     exact hb this
    rw [if_neg hb,show (b == [48])=false by simpa using hb,brK_f,propB_true ⟨w1.1,w2.1⟩,brK_t]
    cases hm:smOK a b with
    | true =>
     obtain ⟨⟨a1,a2⟩,b1,b2⟩:=smOK_lt w1.1 w2.1 hm
     rw [brK_t]
     exact small112_eq hB a1 a2 b1 b2
    | false =>
     rw [brK_f,big112_eq w1.1 w2.1 w1.2 w2.2 (by omega),sv_of,sv_of]
 ·cases h
end Go.Proofs.Tryz
namespace Go.Proofs.Tryz
open Go.Ad
open Go.Lib (decDigits itoa nDigits)
def spII:SP:=⟨[.int .i64,.int .i64],dd8⟩
def cmpR (a b:List UInt8):Int × Int:=if errI a ≠ 0 then (0,errI a) else if errI b ≠ 0 then (0,errI b) else (sgnZ (dvalZ a - dvalZ b),0)
theorem cmpR_err {a b:List UInt8} (h:(allR a b != 0)=true):cmpR a b=(0,allR a b):=by
 unfold allR at h ⊢
 unfold cmpR
 cases h1:errI a != 0 with
 | true=>rw [if_pos (by simpa using h1)]; rfl
 | false =>
  rw [h1] at h; simp only [cond_false] at h
  rw [if_neg (by simpa using h1),if_pos (by simpa using h)]; rfl
theorem cmpR_ok {a b:List UInt8} (h1:errI a=0) (h2:errI b=0):cmpR a b=(sgnZ (dvalZ a - dvalZ b),0):=by
 unfold cmpR
 rw [if_neg (by rw [h1]; simp),if_neg (by rw [h2]; simp)]
def negR (a:List UInt8):List UInt8 × Int:=if errI a ≠ 0 then ([],errI a) else (itoa (-(dvalZ a)),0)
theorem szOK_itoa {Z:Int} (h:wn Z.natAbs≤232):szOK (itoa Z)=true:=by
 refine decide_eq_true ?_
 have h1:=itoa_len Z
 have h2:=dec_len h
 omega
theorem run67 (a b:List UInt8):(runK prog pBig21 60).call 67 (spSS.rho [.s a,.s b]) (spSS.heap [.s a,.s b]) (finQ spRI 8 []) =
  brK (szOK a && szOK b) (brK ((partR a b).2 != 0) (some [.s [],.i (partR a b).2]) (brK (szOK (partR a b).1.1) (brK (errI (partR a b).1.1 != 0) (some [.s [],.i (errI (partR a b).1.1)]) (some [.s (partR a b).1.1,.i 0])) none)) none:=by kernel_rfl
theorem run68 (a b:List UInt8):(runK prog pBig21 60).call 68 (spSS.rho [.s a,.s b]) (spSS.heap [.s a,.s b]) (finQ spRI 8 []) =
  brK (szOK a && szOK b) (some [.s (partR a b).1.2,.i (partR a b).2]) none:=by kernel_rfl
theorem partR_quo (a b:List UInt8):((partR a b).2 ≠ 0∧(partR a b).1.1=[]) ∨ ((partR a b).2=0∧errI (partR a b).1.1=0∧szOK (partR a b).1.1=true):=by
 unfold partR
 by_cases h1:errI a=0
 ·rw [if_neg (by simpa using h1)]
  by_cases h2:errI b=0
  ·rw [if_neg (by simpa using h2)]
   by_cases h3:b=[48]
   ·rw [if_pos h3]; exact .inl ⟨by simp,rfl⟩
   ·rw [if_neg h3]
    obtain ⟨z1,z2⟩:=errI_wn h1
    have hle:=Int.natAbs_fdiv_le_natAbs (dvalZ a) (dvalZ b)
    have he:errI (itoa (dvalZ a))=0:=by
     unfold isZ at z1
     rw [← z1]; exact h1
    exact .inr ⟨rfl,errI_le he hle,szOK_itoa (Nat.le_trans (wn_mono hle) (by omega))⟩
  ·rw [if_pos h2]; exact .inl ⟨h2,rfl⟩
 ·rw [if_pos h1]; exact .inl ⟨h1,rfl⟩
noncomputable abbrev ord144 (s:Int) (c:Int) (p q:List UInt8):Option (List Lf) :=
 brK ((p.length:Int) != (q.length:Int)) (brK (decide ((p.length:Int) < (q.length:Int))) (some [.i (W (s*-1)),.i 0]) (some [.i (W (s*1)),.i 0])) (some [.i (W (s*c)),.i 0])
theorem run144 (a b:List UInt8):(runK prog pBig21 60).call 144 (spSS.rho [.s a,.s b]) (spSS.heap [.s a,.s b]) (finQ spII 8 []) =
  brK (szOK a && szOK b) (brK (allR a b != 0) (some [.i 0,.i (allR a b)]) (brK (propB (isZ a)) (brK (propB (isZ b)) (brK (decide (sgnZ (dvalZ a) < sgnZ (dvalZ b))) (some [.i (-1),.i 0])
   (brK (propB (isZ b)) (brK (decide (sgnZ (dvalZ a) > sgnZ (dvalZ b))) (some [.i 1,.i 0]) (ord144 (sgnZ (dvalZ a)) (Lib.compareBytes (absT a) (absT b)) (absT a) (absT b))) none)) none) none)) none:=by kernel_rfl
theorem ord144_eq (V U:Nat) (s:Int) (h:-1≤s∧s≤1):ord144 s (Lib.compareBytes (decDigits V) (decDigits U)) (decDigits V) (decDigits U)=some [.i (s*sgnZ ((V:Int) - U)),.i 0]:=by
 have h2:=sgn_rg ((V:Int) - U)
 rw [← order_dec] at h2 ⊢
 unfold ord144
 have wi:∀ t:Int,-1≤t∧t≤1→W (s*t)=s*t:=fun t ht=>by
  have:s=-1 ∨ s=0 ∨ s=1:=by omega
  have:t=-1 ∨ t=0 ∨ t=1:=by omega
  apply W_id <;> rcases ‹s=-1 ∨ s=0 ∨ s=1› with rfl | rfl | rfl <;> omega
 by_cases hl:(decDigits V).length=(decDigits U).length
 ·rw [if_neg (by omega)] at h2 ⊢
  rw [hl,show (((decDigits U).length:Int) != ((decDigits U).length:Int))=false by simp,wi _ h2]
  rfl
 ·rw [if_pos hl,show (((decDigits V).length:Int) != ((decDigits U).length:Int))=true by simp; omega]
  by_cases hlt:(decDigits V).length < (decDigits U).length
  ·rw [if_pos hlt,decide_eq_true (show ((decDigits V).length:Int) < ((decDigits U).length:Int) by omega),wi (-1) (by omega)]; rfl
  ·rw [if_neg hlt,decide_eq_false (show ¬ ((decDigits V).length:Int) < ((decDigits U).length:Int) by omega),wi 1 (by omega)]; rfl
theorem run165 (a b:List UInt8):(runK prog pBig21 60).call 165 (spSS.rho [.s a,.s b]) (spSS.heap [.s a,.s b]) (finQ spRI 8 []) =
  brK (szOK a && szOK b) (brK (allR a b != 0) (some [.s [],.i (allR a b)]) (brK (propB (isZ b∧b.length≤1000000000)) (brK (szOK a && szOK (itoa (-(dvalZ b)))) (some [.s (binR (·+·) a (itoa (-(dvalZ b)))).1,.i (binR (·+·) a (itoa (-(dvalZ b)))).2]) none) none)) none:=by kernel_rfl
theorem run128 (a:List UInt8):(runK prog pBig21 60).call 128 (spS1.rho [.s a]) (spS1.heap [.s a]) (finQ spRI 8 []) =
  brK (szOK a) (brK (errI a != 0) (some [.s [],.i (errI a)]) (brK (propB (isZ a∧a.length≤1000000000)) (some [.s (itoa (-(dvalZ a))),.i 0]) none)) none:=by kernel_rfl
theorem isZ_len {a:List UInt8} (h:isZ a) (hw:wn (dvalZ a).natAbs≤232):a.length≤2089:=by
 unfold isZ at h
 rw [h]
 have h1:=itoa_len (dvalZ a)
 have h2:=dec_len hw
 omega
noncomputable def T67:List Lf→Tr (SP × List Lf)
 | [.s a,.s b]=>.br (szOK a && szOK b) (.leaf (spRI,[.s (partR a b).1.1,.i (partR a b).2])) .fail
 | _=>.fail
noncomputable def T68:List Lf→Tr (SP × List Lf)
 | [.s a,.s b]=>.br (szOK a && szOK b) (.leaf (spRI,[.s (partR a b).1.2,.i (partR a b).2])) .fail
 | _=>.fail
noncomputable def T144:List Lf→Tr (SP × List Lf)
 | [.s a,.s b]=>.br (szOK a && szOK b) (.leaf (spII,[.i (cmpR a b).1,.i (cmpR a b).2])) .fail
 | _=>.fail
noncomputable def T128:List Lf→Tr (SP × List Lf)
 | [.s a]=>.br (szOK a) (.leaf (spRI,[.s (negR a).1,.i (negR a).2])) .fail
 | _=>.fail
noncomputable def pBig22:Prims:=((((pBig21.addh 67 (liftG 8 (funQ spSS 8 [] T67))).addh 68 (liftG 8 (funQ spSS 8 [] T68))).addh 144 (liftG 8 (funQ spSS 8 [] T144))).addh 165 (liftG 8 (funQ spSS 8 [] (TBin (· - ·))))).addh 128 (liftG 8 (funQ spS1 8 [] T128))
theorem pBig22_ok {A:Amb} (hT:Tab A) (hG:prog.globals.size≤A.G):PrimOK prog A pBig22:=by
 refine PrimOK.addl (PrimOK.addl (PrimOK.addl (PrimOK.addl ((pBig21_ok hT hG).addl gsz func67 (by kernel_rfl) (funQ_ok hmix hnum rfl fun ls sq l h=>?_)) gsz func68 (by kernel_rfl) (funQ_ok hmix hnum rfl fun ls sq l h=>?_))
  gsz func144 (by kernel_rfl) (funQ_ok hmix hnum rfl fun ls sq l h=>?_)) gsz func165 (by kernel_rfl) (funQ_ok hmix hnum rfl fun ls sq l h=>?_)) gsz func128 (by kernel_rfl) (funQ_ok hmix hnum rfl fun ls sq l h=>?_)
 ·unfold T67 at h
  split at h
  ·rename_i a b
   obtain ⟨hc,hv⟩:=Tr.br1 h
   cases hv
   refine ⟨⟨.inr rfl,.inr rfl,.inr rfl,.inr rfl,.inr rfl,.inr rfl,.inr rfl,.inr rfl,trivial⟩,rfl,pBig21,60,_,pBig21_ok hT hG,(run67 a b).trans ?_,fun _ _=>.refl⟩
   rw [hc,brK_t]
   rcases partR_quo a b with ⟨h1,h2⟩ | ⟨h1,h2,h3⟩
   ·rw [show ((partR a b).2 != 0)=true by simpa using h1,h2]; rfl
   ·rw [show ((partR a b).2 != 0)=false by simpa using h1,h3,h1,show (errI (partR a b).1.1 != 0)=false by simpa using h2]; rfl
  ·cases h
 ·unfold T68 at h
  split at h
  ·rename_i a b
   obtain ⟨hc,hv⟩:=Tr.br1 h
   cases hv
   refine ⟨⟨.inr rfl,.inr rfl,.inr rfl,.inr rfl,.inr rfl,.inr rfl,.inr rfl,.inr rfl,trivial⟩,rfl,pBig21,60,_,pBig21_ok hT hG,(run68 a b).trans ?_,fun _ _=>.refl⟩
   rw [hc]; rfl
  ·cases h
 ·unfold T144 at h
  split at h
  ·rename_i a b
   obtain ⟨hc,hv⟩:=Tr.br1 h
   cases hv
   refine ⟨⟨.inr rfl,.inr rfl,.inr rfl,.inr rfl,.inr rfl,.inr rfl,.inr rfl,.inr rfl,trivial⟩,rfl,pBig21,60,_,pBig21_ok hT hG,(run144 a b).trans ?_,fun _ _=>.refl⟩
   rw [hc,brK_t]
   cases h:allR a b != 0 with
   | true=>rw [cmpR_err h]; rfl
   | false =>
    obtain ⟨h1,h2⟩:=allR_0 h
    rw [cmpR_ok h1 h2,brK_f]
    obtain ⟨z1,w1⟩:=errI_wn h1
    obtain ⟨z2,w2⟩:=errI_wn h2
    rw [propB_true z1,propB_true z2,brK_t,brK_t,brK_t]
    by_cases hlt:sgnZ (dvalZ a) < sgnZ (dvalZ b)
    ·rw [decide_eq_true hlt,sgn_lt hlt]; rfl
    ·by_cases hgt:sgnZ (dvalZ a) > sgnZ (dvalZ b)
     ·rw [decide_eq_false hlt,decide_eq_true hgt,sgn_gt hgt]; rfl
     ·have ea:absT a=decDigits (dvalZ a).natAbs:=by
       have:=absT_itoa (dvalZ a)
       unfold isZ at z1
       rwa [← z1] at this
      have eb:absT b=decDigits (dvalZ b).natAbs:=by
       have:=absT_itoa (dvalZ b)
       unfold isZ at z2
       rwa [← z2] at this
      rw [decide_eq_false hlt,decide_eq_false hgt,brK_f,brK_f,ea,eb,ord144_eq _ _ _ (sgn_rg _),sgn_cmp _ _ hlt hgt]
  ·cases h
 ·unfold TBin at h
  split at h
  ·rename_i a b
   obtain ⟨hc,hv⟩:=Tr.br1 h
   cases hv
   refine ⟨⟨.inr rfl,.inr rfl,.inr rfl,.inr rfl,.inr rfl,.inr rfl,.inr rfl,.inr rfl,trivial⟩,rfl,pBig21,60,_,pBig21_ok hT hG,(run165 a b).trans ?_,fun _ _=>.refl⟩
   rw [hc,brK_t]
   cases h:allR a b != 0 with
   | true=>rw [binR_err _ h]; rfl
   | false =>
    obtain ⟨h1,h2⟩:=allR_0 h
    rw [binR_ok _ h1 h2,brK_f]
    obtain ⟨z2,w2⟩:=errI_wn h2
    have hl:=isZ_len z2 (by omega)
    have he:errI (itoa (-(dvalZ b)))=0:=by
     refine errI_le (A:=dvalZ b) ?_ (by omega)
     unfold isZ at z2
     rw [← z2]; exact h2
    rw [Bool.and_eq_true] at hc
    rw [propB_true ⟨z2,by omega⟩,binR_ok _ h1 he,hc.1,szOK_itoa (by rw [Int.natAbs_neg]; omega),dvalZ_itoa,Int.sub_eq_add_neg]
    rfl
  ·cases h
 ·unfold T128 at h
  split at h
  ·rename_i a
   obtain ⟨hc,hv⟩:=Tr.br1 h
   cases hv
   refine ⟨⟨.inr rfl,.inr rfl,.inr rfl,.inr rfl,.inr rfl,.inr rfl,.inr rfl,.inr rfl,trivial⟩,rfl,pBig21,60,_,pBig21_ok hT hG,(run128 a).trans ?_,fun _ _=>.refl⟩
   rw [hc,brK_t]
   unfold negR
   by_cases h1:errI a=0
   ·obtain ⟨z1,w1⟩:=errI_wn h1
    have hl:=isZ_len z1 (by omega)
    rw [if_neg (by simpa using h1),show (errI a != 0)=false by simpa using h1,propB_true ⟨z1,by omega⟩]; rfl
   ·rw [if_pos h1,show (errI a != 0)=true by simpa using h1]; rfl
  ·cases h
end Go.Proofs.Tryz
namespace Go.Proofs.Tryz
open Go.Ad
open Go.Lib (decDigits itoa nDigits)
noncomputable def code136:Code:=f136.body.getD .skip
noncomputable def bodyG:Code:=unLoop (findB 0 code136)
noncomputable def bodyGI:Code:=unLoop (findB 2 code136)
noncomputable def g0:Code:=fstC code136
noncomputable def g1:Code:=fstC (sndC code136)
noncomputable def g2:Code:=fstC (sndC (sndC code136))
noncomputable def g3:Code:=fstC (sndC (sndC (sndC code136)))
noncomputable def g4:Code:=sndC (sndC (sndC (sndC code136)))
theorem code136_eq:code136=.seq g0 (.seq g1 (.seq g2 (.seq g3 g4))):=by kernel_rfl
theorem g3_eq:g3=.block 0 (.loop bodyG):=by kernel_rfl
def spGI:SP:=⟨dr 9++[.int .i64,.int .i64]++dr 61,dd8++[opW,opW]⟩
def spG:SP:=⟨dr 7++[pW 8,pW 9]++dr 63,dd8++[opW,opW]⟩
def spGA:SP:=⟨[.str,.str]++dr 70,dd8⟩
def spGE:SP:=⟨dr 4++[.str,.int .i64]++dr 66,dd8⟩
def exG (sp:SP):AEx→SP
 | .ret=>spGE
 | _=>sp
section
variable (lx:Bool) (nx:Int) (mx:Nat) (fx:Nat→Int) (ly:Bool) (ny:Int) (my:Nat) (fy:Nat→Int)
def lfGI (m n:Int):List Lf:=[.i m,.i n,.b lx,.i nx,.n mx,.f fx,.b ly,.i ny,.n my,.f fy]
theorem roundGI (m n:Int):execK prog (runK prog pBig22 60) noBps bodyGI (spGI.rho (lfGI lx nx mx fx ly ny my fy m n)) (spGI.heap (lfGI lx nx mx fx ly ny my fy m n)) (nrmP (fun _=>spGI) 10 []) =
  brK (n != 0) (brK (decide ¬n=0) (some (.normal,lfGI lx nx mx fx ly ny my fy n (m.tmod n))) none) (some (.exit 2,lfGI lx nx mx fx ly ny my fy m n)):=by kernel_rfl
end
noncomputable def hookGI:Blk:=hookP spGI 10 [] fun
 | [.i m,.i n,.b lx,.i nx,.n mx,.f fx,.b ly,.i ny,.n my,.f fy]=>.br (propB (0≤m∧0≤n)) (.leaf (.normal,spGI,lfGI lx nx mx fx ly ny my fy (m.toNat.gcd n.toNat:Nat) 0)) .fail
 | _=>.fail
section
variable {A:Amb} (hT:Tab A) (hG:prog.globals.size≤A.G)
include hT hG
theorem hookGI_ok:∀ ρ B e' ρ' B' D,(hookGI ρ B).get=some (e',ρ',B',D)→AFr B B' D∧SEB prog A B (.block 2 (.loop bodyGI)) ⟨ρ,B,[]⟩ e' ⟨ρ',B',D⟩:=by
 have hp:=pBig22_ok hT hG
 refine hookP_ok rfl fun ls e sq l h=>?_
 split at h
 ·rename_i m n lx nx mx fx ly ny my fy
  obtain ⟨hc,hv⟩:=Tr.br1 h
  cases hv
  obtain ⟨hm,hn⟩:=propB_eq hc
  obtain ⟨m,rfl⟩:=Int.eq_ofNat_of_zero_le hm
  obtain ⟨n,rfl⟩:=Int.eq_ofNat_of_zero_le hn
  rw [Int.toNat_natCast,Int.toNat_natCast]
  refine ⟨⟨.inr rfl,.inr rfl,.inr rfl,.inr rfl,.inr rfl,.inr rfl,.inr rfl,.inr rfl,.inr rfl,.inr rfl,trivial⟩,fun Bb hB=>SEB.block_exit (id:=2) ?_⟩
  refine SEB.while (fun _:Nat × Nat=>True) (fun s=>s.2) (fun s=>⟨spGI.rho (lfGI lx nx mx fx ly ny my fy s.1 s.2),spGI.heap (lfGI lx nx mx fx ly ny my fy s.1 s.2),[]⟩)
   (fun s=>(.exit 2,⟨spGI.rho (lfGI lx nx mx fx ly ny my fy (s.1.gcd s.2:Nat) 0),spGI.heap (lfGI lx nx mx fx ly ny my fy (s.1.gcd s.2:Nat) 0),[]⟩)) (fun s _=>?_) (m,n) trivial
  obtain ⟨m,n⟩:=s
  by_cases h0:n=0
  ·subst h0
   right
   refine ⟨by simp,?_⟩
   have hk:=roundGI lx nx mx fx ly ny my fy (m:Int) ((0:Nat):Int)
   rw [show (((0:Nat):Int) != 0)=false from rfl] at hk
   have:=SEB.of_KP (A:=A) (B0:=Bb) (e:=.exit 2) hmix hnum hp (.none _) hB hk rfl
   simp only [Nat.gcd_zero_right]
   exact this
  ·left
   refine ⟨(n,m % n),trivial,Nat.mod_lt _ (Nat.pos_of_ne_zero h0),?_,?_⟩
   ·show ((AEx.exit 2,(_:St)):AEx × St)=_
    have:n.gcd (m % n)=m.gcd n:=by rw [Nat.gcd_comm,← Nat.gcd_rec,Nat.gcd_comm]
    rw [this]
   ·have hk:=roundGI lx nx mx fx ly ny my fy (m:Int) (n:Int)
    rw [show ((n:Int) != 0)=true by simpa using h0,decide_eq_true (show ¬ (n:Int)=0 by simpa using h0)] at hk
    exact SEB.of_KP (A:=A) (B0:=Bb) (e:=.normal) hmix hnum hp (.none _) hB hk rfl
 ·cases h
end
def lfG (lx:Bool) (nx:Int) (fx:Nat→Int) (ly:Bool) (ny:Int) (fy:Nat→Int):List Lf:=[.b lx,.i nx,.n 232,.f fx,.b ly,.i ny,.n 232,.f fy]
noncomputable abbrev nextG (nx:Int) (fx:Nat→Int) (ly:Bool) (ny:Int) (fy:Nat→Int) (X Y:Nat):Option (AEx × List Lf) :=
 brK (propB (232=232∧232=232∧isW nx fx∧isW ny fy∧ny≤231∧0 < Y)) (some (.normal,lfG ly ny fy false (wn (X % Y)) (wf (X % Y)))) none
theorem roundG (lx:Bool) (nx:Int) (fx:Nat→Int) (ly:Bool) (ny:Int) (fy:Nat→Int) :
  execK prog (runK prog pBig22 60) (oneB 2 hookGI) bodyG (spG.rho (lfG lx nx fx ly ny fy)) (spG.heap (lfG lx nx fx ly ny fy)) (nrmP (exG spG) 8 []) =
  brK (decide (ny > 0)) (brK (decide (nx≤1)) (brK (decide (ny≤1)) (brK (propB (0≤fx 0∧0≤fy 0)) (brK (rg ((fx 0).toNat.gcd (fy 0).toNat:Nat)) (some (.ret,[.s (itoa ((fx 0).toNat.gcd (fy 0).toNat:Nat)),.i 0])) none) none)
   (nextG nx fx ly ny fy (valW nx fx) (valW ny fy))) (nextG nx fx ly ny fy (valW nx fx) (valW ny fy))) (some (.exit 0,lfG lx nx fx ly ny fy)):=by kernel_rfl
def lfGN (lx:Bool) (X:Nat) (ly:Bool) (Y:Nat):List Lf:=lfG lx (wn X) (wf X) ly (wn Y) (wf Y)
noncomputable def stG (lx:Bool) (X:Nat) (ly:Bool) (Y:Nat):St:=⟨spG.rho (lfGN lx X ly Y),spG.heap (lfGN lx X ly Y),[]⟩
def stGE (s:List UInt8) (e:Int):St:=⟨spGE.rho [.s s,.i e],spGE.heap [.s s,.i e],[]⟩
theorem wf_low {X:Nat} (h:wn X≤1):wf X 0=X:=by
 have:=wn_lt_iff.1 h
 rw [Nat.pow_one] at this
 show ((wd X 0:Nat):Int)=X
 unfold wd
 rw [Nat.pow_zero,Nat.div_one,Nat.mod_eq_of_lt this]
section
variable {A:Amb} (hT:Tab A) (hG:prog.globals.size≤A.G)
include hT hG
theorem loopG {Bb:Heap} (hB:Bb.length=8):∀ (Y X:Nat) (lx ly:Bool),wn X≤114→wn Y≤114 →
  ∃ e s',SEB prog A Bb (.loop bodyG) (stG lx X ly Y) e s'∧((e=.ret∧s'=stGE (itoa (X.gcd Y:Nat)) 0) ∨ (e=.exit 0∧∃ l l',s'=stG l (X.gcd Y) l' 0)):=by
 have hp:=pBig22_ok hT hG
 have hblk:BlkOK prog A (oneB 2 hookGI) bodyG:=BlkOK.one (body:=.loop bodyGI) (by kernel_rfl) fun ρ B e ρ' B' D hq=>(hookGI_ok hT hG ρ B e ρ' B' D hq).2
 intro Y
 induction Y using Nat.strongRecOn with
 | _ Y ih =>
  intro X lx ly hX hY
  have hk:=roundG lx (wn X) (wf X) ly (wn Y) (wf Y)
  by_cases h0:Y=0
  ·subst h0
   rw [show decide (((wn 0:Nat):Int) > 0)=false by rw [wn_zero]; rfl,brK_f] at hk
   have hs:=SEB.of_KP (A:=A) (B0:=Bb) (e:=.exit 0) hmix hnum hp hblk hB (ls:=lfGN lx X ly 0) hk rfl
   rw [Nat.gcd_zero_right]
   exact ⟨.exit 0,_,SEB.loop_exit hs (by simp),.inr ⟨rfl,lx,ly,rfl⟩⟩
  ·have hpos:0 < wn Y:=by rw [wn_pos h0]; omega
   rw [decide_eq_true (show ((wn Y:Nat):Int) > 0 by omega),brK_t,valW_wf,valW_wf] at hk
   have hnx:nextG (wn X) (wf X) ly (wn Y) (wf Y) X Y=some (.normal,lfGN ly Y false (X % Y)):=by
    unfold nextG
    rw [propB_true ⟨rfl,rfl,isW_wf (by omega),isW_wf (by omega),by omega,Nat.pos_of_ne_zero h0⟩]
    rfl
   have next:execK prog (runK prog pBig22 60) (oneB 2 hookGI) bodyG (spG.rho (lfGN lx X ly Y)) (spG.heap (lfGN lx X ly Y)) (nrmP (exG spG) 8 [])=some (.normal,lfGN ly Y false (X % Y)) →
     ∃ e s',SEB prog A Bb (.loop bodyG) (stG lx X ly Y) e s'∧((e=.ret∧s'=stGE (itoa (X.gcd Y:Nat)) 0) ∨ (e=.exit 0∧∃ l l',s'=stG l (X.gcd Y) l' 0)):=fun hk=>by
    have hs:=SEB.of_KP (A:=A) (B0:=Bb) (e:=.normal) hmix hnum hp hblk hB hk rfl
    have hg:Y.gcd (X % Y)=X.gcd Y:=by rw [Nat.gcd_comm,← Nat.gcd_rec,Nat.gcd_comm]
    obtain ⟨e,s',h1,h2⟩:=ih (X % Y) (Nat.mod_lt _ (Nat.pos_of_ne_zero h0)) Y ly false hY (Nat.le_trans (wn_mono (Nat.mod_le _ _)) hX)
    rw [hg] at h2
    exact ⟨e,s',SEB.loop_next hs h1,h2⟩
   rw [hnx] at hk
   by_cases hx1:wn X≤1
   ·by_cases hy1:wn Y≤1
    ·have xl:=wn_lt_iff.1 hx1
     have yl:=wn_lt_iff.1 hy1
     rw [Nat.pow_one] at xl yl
     have hBB:BB=1000000000:=rfl
     have hgl:X.gcd Y≤Y:=Nat.gcd_le_right _ (Nat.pos_of_ne_zero h0)
     rw [wf_low hx1,wf_low hy1,Int.toNat_natCast,Int.toNat_natCast,decide_eq_true (show ((wn X:Nat):Int)≤1 by omega),decide_eq_true (show ((wn Y:Nat):Int)≤1 by omega),propB_true ⟨by omega,by omega⟩,
      show rg (X.gcd Y:Nat)=true from decide_eq_true ⟨by omega,by omega⟩] at hk
     have hs:=SEB.of_KP (A:=A) (B0:=Bb) (e:=.ret) hmix hnum hp hblk hB hk rfl
     exact ⟨.ret,_,SEB.loop_exit hs (by simp),.inl ⟨rfl,rfl⟩⟩
    ·rw [decide_eq_true (show ((wn X:Nat):Int)≤1 by omega),decide_eq_false (show ¬ ((wn Y:Nat):Int)≤1 by omega)] at hk
     exact next hk
   ·rw [decide_eq_false (show ¬ ((wn X:Nat):Int)≤1 by omega)] at hk
    exact next hk
end
theorem runG0 (a b:List UInt8):execK prog (runK prog pBig22 60) noBps g0 ([.sstr a,.sstr b]++List.replicate 70 aundef) (Bg 8) (nrmP (exG spGA) 8 [])=some (.normal,[.s a,.s b]):=by kernel_rfl
theorem runG1 (a b:List UInt8):execK prog (runK prog pBig22 60) noBps g1 (spGA.rho [.s a,.s b]) (spGA.heap [.s a,.s b]) (nrmP (exG spGA) 8 []) =
  brK (szOK a && szOK b) (brK (allR a b != 0) (some (.ret,[.s [],.i (allR a b)])) (some (.normal,[.s a,.s b]))) none:=by kernel_rfl
theorem runG2 (a b:List UInt8):execK prog (runK prog pBig22 60) noBps g2 (spGA.rho [.s a,.s b]) (spGA.heap [.s a,.s b]) (nrmP (exG spG) 8 []) =
  brK (propB (isZ a∧wn (dvalZ a).natAbs≤232)) (brK (propB (isZ b∧wn (dvalZ b).natAbs≤232)) (some (.normal,lfGN (decide (dvalZ a < 0)) (dvalZ a).natAbs (decide (dvalZ b < 0)) (dvalZ b).natAbs)) none) none:=by kernel_rfl
theorem runG4 (lx:Bool) (nx:Int) (fx:Nat→Int) (ly:Bool) (ny:Int) (fy:Nat→Int):execK prog (runK prog pBig22 60) noBps g4 (spG.rho (lfG lx nx fx ly ny fy)) (spG.heap (lfG lx nx fx ly ny fy)) (nrmP (exG spG) 8 []) =
  brK (propB (232=232∧isW nx fx)) (some (.ret,[.s (itoa (sv false (valW nx fx))),.i 0])) none:=by kernel_rfl
def gcdR (a b:List UInt8):List UInt8 × Int:=if errI a ≠ 0 then ([],errI a) else if errI b ≠ 0 then ([],errI b) else (itoa (Int.gcd (dvalZ a) (dvalZ b):Nat),0)
theorem gcdR_err {a b:List UInt8} (h:(allR a b != 0)=true):gcdR a b=([],allR a b):=by
 unfold allR at h ⊢
 unfold gcdR
 cases h1:errI a != 0 with
 | true=>rw [if_pos (by simpa using h1)]; rfl
 | false =>
  rw [h1] at h; simp only [cond_false] at h
  rw [if_neg (by simpa using h1),if_pos (by simpa using h)]; rfl
theorem gcdR_ok {a b:List UInt8} (h1:errI a=0) (h2:errI b=0):gcdR a b=(itoa (Int.gcd (dvalZ a) (dvalZ b):Nat),0):=by
 unfold gcdR
 rw [if_neg (by rw [h1]; simp),if_neg (by rw [h2]; simp)]
theorem wn_gcd {X Y:Nat} (hX:wn X≤114) (hY:wn Y≤114):wn (X.gcd Y)≤114:=by
 rcases Nat.eq_zero_or_pos Y with h | h
 ·subst h; rw [Nat.gcd_zero_right]; exact hX
 ·exact Nat.le_trans (wn_mono (Nat.gcd_le_right _ h)) hY
section
variable {A:Amb} (hT:Tab A) (hG:prog.globals.size≤A.G)
include hT hG
theorem sebG {a b:List UInt8} (hs:(szOK a && szOK b)=true):SEB prog A (Bg 8) code136 ⟨[.sstr a,.sstr b]++List.replicate 70 aundef,Bg 8,[]⟩ .ret (stGE (gcdR a b).1 (gcdR a b).2):=by
 have hp:=pBig22_ok hT hG
 have hB:(Bg 8).length=8:=rfl
 rw [code136_eq]
 refine SEB.seq (SEB.of_KP (A:=A) (e:=.normal) hmix hnum hp (.none _) hB (runG0 a b) rfl) ?_
 have k1:=runG1 a b
 rw [hs,brK_t] at k1
 cases h:allR a b != 0 with
 | true =>
  rw [h,brK_t] at k1
  rw [gcdR_err h]
  exact SEB.seq_exit (SEB.of_KP (A:=A) (e:=.ret) hmix hnum hp (.none _) hB k1 rfl) (by simp)
 | false =>
  rw [h,brK_f] at k1
  obtain ⟨h1,h2⟩:=allR_0 h
  obtain ⟨z1,w1⟩:=errI_wn h1
  obtain ⟨z2,w2⟩:=errI_wn h2
  rw [gcdR_ok h1 h2]
  refine SEB.seq (SEB.of_KP (A:=A) (e:=.normal) hmix hnum hp (.none _) hB k1 rfl) ?_
  have k2:=runG2 a b
  rw [propB_true ⟨z1,by omega⟩,propB_true ⟨z2,by omega⟩,brK_t,brK_t] at k2
  refine SEB.seq (SEB.of_KP (A:=A) (e:=.normal) hmix hnum hp (.none _) hB k2 rfl) ?_
  obtain ⟨e,s',l1,l2⟩:=loopG hT hG hB (dvalZ b).natAbs (dvalZ a).natAbs (decide (dvalZ a < 0)) (decide (dvalZ b < 0)) w1 w2
  rw [g3_eq]
  rcases l2 with ⟨rfl,rfl⟩ | ⟨rfl,l,l',rfl⟩
  ·exact SEB.seq_exit (SEB.block_other l1 (by simp)) (by simp)
  ·refine SEB.seq (SEB.block_exit l1) ?_
   have k4:=runG4 l (wn ((dvalZ a).natAbs.gcd (dvalZ b).natAbs)) (wf ((dvalZ a).natAbs.gcd (dvalZ b).natAbs)) l' (wn 0) (wf 0)
   rw [valW_wf,propB_true ⟨rfl,isW_wf (Nat.le_trans (wn_gcd w1 w2) (by omega))⟩,brK_t] at k4
   exact SEB.of_KP (A:=A) (e:=.ret) hmix hnum hp (.none _) hB k4 rfl
end
noncomputable def T136:List Lf→Tr (SP × List Lf)
 | [.s a,.s b]=>.br (szOK a && szOK b) (.leaf (spRI,[.s (gcdR a b).1,.i (gcdR a b).2])) .fail
 | _=>.fail
noncomputable def pG (a b x:List UInt8) (e:Int):Prims:=pBig22.addh 136 (gPin [.sstr a,.sstr b] (Bg 8) (.tuple [.sstr x,.sint .i64 e]) (Bg 8) [])
theorem runG (a b x:List UInt8) (e:Int):(runK prog (pG a b x e) 60).call 136 (spSS.rho [.s a,.s b]) (spSS.heap [.s a,.s b]) (finQ spRI 8 []) =
  brK (propB (([.sstr a,.sstr b]:List AV)=[.sstr a,.sstr b]∧Bg 8=Bg 8)) (some [.s x,.i e]) none:=by kernel_rfl
noncomputable def pBig23:Prims:=pBig22.addh 136 (liftG 8 (funQ spSS 8 [] T136))
theorem pBig23_ok {A:Amb} (hT:Tab A) (hG:prog.globals.size≤A.G):PrimOK prog A pBig23:=by
 refine (pBig22_ok hT hG).addl gsz func136 (by kernel_rfl) (funQ_ok hmix hnum rfl fun ls sq l h=>?_)
 unfold T136 at h
 split at h
 ·rename_i a b
  obtain ⟨hc,hv⟩:=Tr.br1 h
  cases hv
  refine ⟨⟨.inr rfl,.inr rfl,.inr rfl,.inr rfl,.inr rfl,.inr rfl,.inr rfl,.inr rfl,trivial⟩,rfl,pG a b (gcdR a b).1 (gcdR a b).2,60,_,?_,(runG a b _ _).trans ?_,fun _ _=>.refl⟩
  ·refine PrimOK.body (pBig22_ok hT hG) func136 (show f136.body=some code136 by kernel_rfl) fun args B v B' D hq=>?_
   obtain ⟨hc1,hv⟩:=Tr.br_get0 hq
   obtain ⟨rfl,rfl⟩:=propB_eq hc1
   simp only [Tr.get,Option.some.injEq,Prod.mk.injEq] at hv
   obtain ⟨rfl,rfl,rfl⟩:=hv
   exact ⟨⟨Nat.le_refl _,fun _ _ _=>rfl⟩,[.sstr a,.sstr b],.ret,_,[.sstr (gcdR a b).1,.sint .i64 (gcdR a b).2],fun _ _ h=>h,sebG hT hG hc,by simp,rfl,rfl,rfl,rfl⟩
  ·rw [propB_true ⟨rfl,rfl⟩,brK_t]
 ·cases h
end Go.Proofs.Tryz
namespace Go.Proofs.Tryz
open Go.Ad
open Go.Lib (decDigits itoa nDigits)
def spR0:SP:=⟨[.str,.is (.int .i64 0)],dd8⟩
noncomputable def TG (op:Int→Int→Int) (c:Int→Prop):List Lf→Tr (SP × List Lf)
 | [.s a,.s b]=>.br (propB (errI a=0∧errI b=0∧c (dvalZ b)∧errI (itoa (op (dvalZ a) (dvalZ b)))=0)) (.leaf (spR0,[.s (itoa (op (dvalZ a) (dvalZ b)))])) .fail
 | _=>.fail
theorem errI_sz {a:List UInt8} (h:errI a=0):szOK a=true:=by
 obtain ⟨z,w⟩:=errI_wn h
 have:=isZ_len z (by omega)
 exact decide_eq_true (by omega)
theorem resI_ok {C:Int} (h:errI (itoa C)=0):resI C=(itoa C,0):=by
 have:=resI_eq C
 rw [if_neg (by rw [h]; simp)] at this
 exact this.symm
theorem vrl_0 {ι:Emb} {s:List UInt8} {vs:List Value} (h:VRL ι [.sstr s,.sint .i64 0] vs):VRL ι [.sstr s,.int .i64 0] vs:=by
 refine VRL.weaken rfl (fun i a' hi=>?_) h
 match i,hi with
 | 0,hi=>cases hi; exact ⟨_,rfl,fun v hv=>hv⟩
 | 1,hi=>cases hi; exact ⟨_,rfl,fun v hv=>by simpa only [VR] using hv⟩
 | n+2,hi=>simp at hi
section
variable {A:Amb} (hT:Tab A) (hG:prog.globals.size≤A.G)
include hT hG
theorem good_ok {f:FuncId} {op:Int→Int→Int} {c:Int→Prop} {r:List UInt8→List UInt8→List UInt8 × Int}
  (hrun:∀ a b,(runK prog pBig23 60).call f (spSS.rho [.s a,.s b]) (spSS.heap [.s a,.s b]) (finQ spRI 8 [])=brK (szOK a && szOK b) (some [.s (r a b).1,.i (r a b).2]) none)
  (hr:∀ a b,errI a=0→errI b=0→c (dvalZ b)→errI (itoa (op (dvalZ a) (dvalZ b)))=0→r a b=(itoa (op (dvalZ a) (dvalZ b)),0)) :
  ∀ args B v B' D,(funQ spSS 8 [] (TG op c) args B).get=some (v,B',D)→AFr B B' D∧CallT prog A f args B v B' D:=by
 refine funQ_ok2 hmix hnum rfl fun ls sq l h=>?_
 unfold TG at h
 split at h
 ·rename_i a b
  obtain ⟨hc,hv⟩:=Tr.br1 h
  cases hv
  obtain ⟨h1,h2,h3,h4⟩:=propB_eq hc
  have hk:=hrun a b
  rw [errI_sz h1,errI_sz h2,hr a b h1 h2 h3 h4] at hk
  exact ⟨⟨.inr rfl,.inr rfl,.inr rfl,.inr rfl,.inr rfl,.inr rfl,.inr rfl,.inr rfl,trivial⟩,pBig23,60,spRI,_,pBig23_ok hT hG,rfl,hk,fun _ _=>Wk.vals fun ι vs hv=>vrl_0 hv⟩
 ·cases h
end
theorem g179 (a b:List UInt8):(runK prog pBig23 60).call 179 (spSS.rho [.s a,.s b]) (spSS.heap [.s a,.s b]) (finQ spRI 8 [])=brK (szOK a && szOK b) (some [.s (binR (·+·) a b).1,.i (binR (·+·) a b).2]) none:=by kernel_rfl
theorem g165 (a b:List UInt8):(runK prog pBig23 60).call 165 (spSS.rho [.s a,.s b]) (spSS.heap [.s a,.s b]) (finQ spRI 8 [])=brK (szOK a && szOK b) (some [.s (binR (· - ·) a b).1,.i (binR (· - ·) a b).2]) none:=by kernel_rfl
theorem g66 (a b:List UInt8):(runK prog pBig23 60).call 66 (spSS.rho [.s a,.s b]) (spSS.heap [.s a,.s b]) (finQ spRI 8 [])=brK (szOK a && szOK b) (some [.s (binR (·*·) a b).1,.i (binR (·*·) a b).2]) none:=by kernel_rfl
theorem g67 (a b:List UInt8):(runK prog pBig23 60).call 67 (spSS.rho [.s a,.s b]) (spSS.heap [.s a,.s b]) (finQ spRI 8 [])=brK (szOK a && szOK b) (some [.s (partR a b).1.1,.i (partR a b).2]) none:=by kernel_rfl
theorem g68 (a b:List UInt8):(runK prog pBig23 60).call 68 (spSS.rho [.s a,.s b]) (spSS.heap [.s a,.s b]) (finQ spRI 8 [])=brK (szOK a && szOK b) (some [.s (partR a b).1.2,.i (partR a b).2]) none:=by kernel_rfl
theorem g136 (a b:List UInt8):(runK prog pBig23 60).call 136 (spSS.rho [.s a,.s b]) (spSS.heap [.s a,.s b]) (finQ spRI 8 [])=brK (szOK a && szOK b) (some [.s (gcdR a b).1,.i (gcdR a b).2]) none:=by kernel_rfl
theorem ne0_text {b:List UInt8} (h:errI b=0) (h0:dvalZ b ≠ 0):b ≠ [48]:=fun e=>by
 subst e
 exact h0 rfl
noncomputable def pG0:Prims:=(((((pBig23.addh 179 (liftG 8 (funQ spSS 8 [] (TG (·+·) fun _=>True)))).addh 165 (liftG 8 (funQ spSS 8 [] (TG (· - ·) fun _=>True)))).addh 66 (liftG 8 (funQ spSS 8 [] (TG (·*·) fun _=>True)))).addh 67 (liftG 8 (funQ spSS 8 [] (TG Int.fdiv fun b=>b ≠ 0)))).addh 68
 (liftG 8 (funQ spSS 8 [] (TG Int.fmod fun b=>b ≠ 0)))).addh 136 (liftG 8 (funQ spSS 8 [] (TG (fun a b=>(Int.gcd a b:Nat)) fun _=>True)))
theorem pG0_ok {A:Amb} (hT:Tab A) (hG:prog.globals.size≤A.G):PrimOK prog A pG0:=by
 refine PrimOK.addl (PrimOK.addl (PrimOK.addl (PrimOK.addl (PrimOK.addl (PrimOK.addl (pBig23_ok hT hG) gsz func179 (by kernel_rfl) (good_ok hT hG g179 fun a b h1 h2 _ h4=>?_)) gsz func165 (by kernel_rfl) (good_ok hT hG g165 fun a b h1 h2 _ h4=>?_))
  gsz func66 (by kernel_rfl) (good_ok hT hG g66 fun a b h1 h2 _ h4=>?_)) gsz func67 (by kernel_rfl) (good_ok hT hG (r:=fun a b=>((partR a b).1.1,(partR a b).2)) g67 fun a b h1 h2 h3 h4=>?_)) gsz func68 (by kernel_rfl) (good_ok hT hG (r:=fun a b=>((partR a b).1.2,(partR a b).2)) g68 fun a b h1 h2 h3 h4=>?_))
  gsz func136 (by kernel_rfl) (good_ok hT hG g136 fun a b h1 h2 _ _=>?_)
 ·rw [binR_ok _ h1 h2,resI_ok h4]
 ·rw [binR_ok _ h1 h2,resI_ok h4]
 ·rw [binR_ok _ h1 h2,resI_ok h4]
 ·rw [partR_ok h1 h2,if_neg (ne0_text h2 h3)]
 ·rw [partR_ok h1 h2,if_neg (ne0_text h2 h3)]
 ·rw [gcdR_ok h1 h2]
end Go.Proofs.Tryz
namespace Go.Proofs.Tryz
open Go.Ad
open Go.Lib (decDigits itoa nDigits)
def ratT (N D:Int):List UInt8:=bif itoa D == [49] then itoa N else itoa N++[47]++itoa D
def sgG (A B:Int):Int:=if B < 0 then -(Int.gcd A B:Int) else Int.gcd A B
def lowT (A B:Int):List UInt8:=ratT (A.fdiv (sgG A B)) (B.fdiv (sgG A B))
def spLo:SP:=⟨[pW 8,.str,.str],dd8++[.cells [.is (.int .i64 0)] 0 true 128]⟩
def spLoR:SP:=⟨[.str],dd8++[.cells [.is (.int .i64 0)] 0 true 128]⟩
noncomputable abbrev joinT (n d:List UInt8):Option (List Lf) :=
 brK (d == [49]) (some [.s n]) (brK (decide (n.length+1 < 4611686018427387904)) (brK (decide ((n++[47]).length+d.length < 4611686018427387904)) (some [.s (n++[47]++d)]) none) none)
noncomputable abbrev quoT (a b g:List UInt8):Option (List Lf) :=
 brK (propB (errI a=0∧errI g=0∧dvalZ g ≠ 0∧errI (itoa ((dvalZ a).fdiv (dvalZ g)))=0)) (brK (propB (errI b=0∧errI g=0∧dvalZ g ≠ 0∧errI (itoa ((dvalZ b).fdiv (dvalZ g)))=0))
  (joinT (itoa ((dvalZ a).fdiv (dvalZ g))) (itoa ((dvalZ b).fdiv (dvalZ g)))) none) none
noncomputable abbrev tree97 (a b g:List UInt8):Option (List Lf) :=
 brK (propB (errI a=0∧errI b=0∧True∧errI g=0)) (brK (decide ((b.length:Int) ≥ 1)) (brK (decide ((0:Int)≤1∧(1:Int)≤(b.length:Int)) && true) (brK ((b.take 1).drop 0 == [45])
  (brK (propB (errI [48]=0∧errI g=0∧True∧errI (itoa (dvalZ [48] - dvalZ g))=0)) (quoT a b (itoa (dvalZ [48] - dvalZ g))) none) (quoT a b g)) none) (quoT a b g)) none
theorem run97 (a b:List UInt8):(runK prog pG0 60).call 97 (spLo.rho [.s a,.s b]) (spLo.heap [.s a,.s b]) (finP spLoR 9 [8])=tree97 a b (itoa (Int.gcd (dvalZ a) (dvalZ b):Nat)):=by kernel_rfl
theorem joinT_eq {N D:Int} (h1:(itoa N).length≤5000) (h2:(itoa D).length≤5000):joinT (itoa N) (itoa D)=some [.s (ratT N D)]:=by
 unfold joinT ratT
 cases h:itoa D == [49] with
 | true=>rfl
 | false =>
  have e1:(itoa N++[47]).length+(itoa D).length < 4611686018427387904:=by rw [List.length_append]; simp only [List.length_singleton]; omega
  rw [decide_eq_true (show (itoa N).length+1 < 4611686018427387904 by omega),decide_eq_true e1]
  rfl
theorem errI_len {N:Int} (h:errI (itoa N)=0):(itoa N).length≤5000:=by
 obtain ⟨z,w⟩:=errI_wn h
 have:=isZ_len z (by omega)
 omega
theorem errI_0:errI (itoa 0)=0:=by
 rw [errI_itoa]
 have:=dec_len_lt (U:=(0:Int).natAbs) (n:=1) (by decide) (by omega)
 rw [if_neg (by omega)]
theorem itoa_of {a:List UInt8} (h:errI a=0):a=itoa (dvalZ a):=(errI_wn h).1
theorem quoT_eq {a b:List UInt8} {G:Int} (ha:errI a=0) (hb:errI b=0) (hg:errI (itoa G)=0) (h0:G ≠ 0):quoT a b (itoa G)=some [.s (ratT ((dvalZ a).fdiv G) ((dvalZ b).fdiv G))]:=by
 unfold quoT
 have ha':=ha
 have hb':=hb
 rw [itoa_of ha] at ha'
 rw [itoa_of hb] at hb'
 have e1:=errI_le ha' (Int.natAbs_fdiv_le_natAbs (dvalZ a) G)
 have e2:=errI_le hb' (Int.natAbs_fdiv_le_natAbs (dvalZ b) G)
 rw [dvalZ_itoa,propB_true ⟨ha,hg,h0,e1⟩,propB_true ⟨hb,hg,h0,e2⟩,brK_t,brK_t]
 exact joinT_eq (errI_len e1) (errI_len e2)
theorem minus_test {b:List UInt8} (hb:errI b=0) {x y:Option (List Lf)} :
  brK (decide ((b.length:Int) ≥ 1)) (brK (decide ((0:Int)≤1∧(1:Int)≤(b.length:Int)) && true) (brK ((b.take 1).drop 0 == [45]) x y) none) y=if dvalZ b < 0 then x else y:=by
 have hz:=itoa_of hb
 generalize dvalZ b=B at hz
 subst hz
 have hh:=itoa_head B
 cases hc:itoa B with
 | nil=>exact (itoa_ne B hc).elim
 | cons c r =>
  rw [hc] at hh
  rw [decide_eq_true (show ((List.length (c :: r):Nat):Int) ≥ 1 by simp; omega),decide_eq_true (show (0:Int)≤1∧(1:Int)≤((List.length (c :: r):Nat):Int) by simp; omega)]
  have ht:((List.take 1 (c :: r)).drop 0 == [45])=decide (B < 0):=by
   rw [← hh]
   show ([c] == [45])=_
   simp only [List.getD_cons_zero]
   by_cases h:c=45
   ·subst h; rfl
   ·have h2:c.toNat ≠ 45:=fun e=>h (UInt8.toNat_inj.1 e)
    rw [show ((c.toNat:Int) == 45)=false by rw [beq_eq_false_iff_ne]; omega,beq_eq_false_iff_ne]
    simpa using h
  rw [ht]
  by_cases h:B < 0
  ·rw [if_pos h,decide_eq_true h]; rfl
  ·rw [if_neg h,decide_eq_false h]; rfl
theorem gcd_ne {A B:Int} (h:B ≠ 0):(Int.gcd A B:Int) ≠ 0:=by
 have:=Nat.gcd_pos_of_pos_right A.natAbs (n:=B.natAbs) (by omega)
 show ((A.natAbs.gcd B.natAbs:Nat):Int) ≠ 0
 omega
theorem errI_gcd {A B:Int} (hb:errI (itoa B)=0) (h:B ≠ 0):errI (itoa (Int.gcd A B:Nat))=0:=by
 refine errI_le hb ?_
 rw [Int.natAbs_natCast]
 exact Nat.gcd_le_right _ (by omega)
theorem tree97_eq {a b:List UInt8} (ha:errI a=0) (hb:errI b=0) (h0:dvalZ b ≠ 0):tree97 a b (itoa (Int.gcd (dvalZ a) (dvalZ b):Nat))=some [.s (lowT (dvalZ a) (dvalZ b))]:=by
 unfold tree97
 have hb':=hb
 rw [itoa_of hb] at hb'
 have hg:=errI_gcd (A:=dvalZ a) hb' h0
 have hn:=gcd_ne (A:=dvalZ a) h0
 rw [propB_true ⟨ha,hb,trivial,hg⟩,brK_t,minus_test hb,dvalZ_itoa,show dvalZ [48]=0 from rfl,Int.zero_sub]
 have hg2:errI (itoa (-(Int.gcd (dvalZ a) (dvalZ b):Nat)))=0:=errI_le hg (by rw [Int.natAbs_neg]; exact Nat.le_refl _)
 have h48:errI [48]=0:=by have:=errI_0; rwa [itoa0] at this
 unfold lowT sgG
 by_cases h:dvalZ b < 0
 ·rw [if_pos h,if_pos h,propB_true ⟨h48,hg,trivial,hg2⟩,brK_t]
  exact quoT_eq ha hb hg2 (by omega)
 ·rw [if_neg h,if_neg h]
  exact quoT_eq ha hb hg hn
noncomputable def T97:List Lf→Tr (SP × List Lf)
 | [.s a,.s b]=>.br (propB (errI a=0∧errI b=0∧dvalZ b ≠ 0)) (.leaf (spLoR,[.s (lowT (dvalZ a) (dvalZ b))])) .fail
 | _=>.fail
noncomputable def pBig24:Prims:=pBig23.addh 97 (liftG 8 (funP spLo 9 [8] T97))
theorem pBig24_ok {A:Amb} (hT:Tab A) (hG:prog.globals.size≤A.G):PrimOK prog A pBig24:=by
 refine (pBig23_ok hT hG).addl gsz func97 (by kernel_rfl) (funP_ok hmix hnum rfl fun ls sq l h=>?_)
 unfold T97 at h
 split at h
 ·rename_i a b
  obtain ⟨hc,hv⟩:=Tr.br1 h
  cases hv
  obtain ⟨ha,hb,h0⟩:=propB_eq hc
  exact ⟨⟨.inr rfl,.inr rfl,.inr rfl,.inr rfl,.inr rfl,.inr rfl,.inr rfl,.inr rfl,.inr rfl,trivial⟩,rfl,rfl,pG0,60,pG0_ok hT hG,(run97 a b).trans (tree97_eq ha hb h0)⟩
 ·cases h
def makeR (a b:List UInt8):List UInt8 × Int:=if errI a ≠ 0 then ([],errI a) else if errI b ≠ 0 then ([],errI b) else if b=[48] then ([],10) else (lowT (dvalZ a) (dvalZ b),0)
theorem run60 (a b:List UInt8):(runK prog pBig24 60).call 60 (spSS.rho [.s a,.s b]) (spSS.heap [.s a,.s b]) (finQ spRI 8 []) =
  brK (szOK a) (brK (errI a != 0) (some [.s [],.i (errI a)]) (brK (szOK b) (brK (errI b != 0) (some [.s [],.i (errI b)]) (brK (b == [48]) (some [.s [],.i 10]) (brK (propB (errI a=0∧errI b=0∧dvalZ b ≠ 0)) (some [.s (lowT (dvalZ a) (dvalZ b)),.i 0]) none))) none)) none:=by kernel_rfl
noncomputable def T60:List Lf→Tr (SP × List Lf)
 | [.s a,.s b]=>.br (szOK a && szOK b) (.leaf (spRI,[.s (makeR a b).1,.i (makeR a b).2])) .fail
 | _=>.fail
theorem dval_ne0 {b:List UInt8} (hb:errI b=0) (h:b ≠ [48]):dvalZ b ≠ 0:=fun e=>by
 have:=itoa_of hb
 rw [e,itoa0] at this
 exact h this
noncomputable def pBig25:Prims:=pBig24.addh 60 (liftG 8 (funQ spSS 8 [] T60))
theorem pBig25_ok {A:Amb} (hT:Tab A) (hG:prog.globals.size≤A.G):PrimOK prog A pBig25:=by
 refine (pBig24_ok hT hG).addl gsz func60 (by kernel_rfl) (funQ_ok hmix hnum rfl fun ls sq l h=>?_)
 unfold T60 at h
 split at h
 ·rename_i a b
  obtain ⟨hc,hv⟩:=Tr.br1 h
  cases hv
  rw [Bool.and_eq_true] at hc
  refine ⟨⟨.inr rfl,.inr rfl,.inr rfl,.inr rfl,.inr rfl,.inr rfl,.inr rfl,.inr rfl,trivial⟩,rfl,pBig24,60,_,pBig24_ok hT hG,(run60 a b).trans ?_,fun _ _=>.refl⟩
  rw [hc.1,hc.2,brK_t]
  unfold makeR
  by_cases h1:errI a=0
  ·rw [if_neg (by simpa using h1),show (errI a != 0)=false by simpa using h1,brK_f,brK_t]
   by_cases h2:errI b=0
   ·rw [if_neg (by simpa using h2),show (errI b != 0)=false by simpa using h2,brK_f]
    by_cases h3:b=[48]
    ·rw [if_pos h3,show (b == [48])=true by simpa using h3]; rfl
    ·rw [if_neg h3,show (b == [48])=false by simpa using h3,brK_f,propB_true ⟨h1,h2,dval_ne0 h2 h3⟩]; rfl
   ·rw [if_pos h2,show (errI b != 0)=true by simpa using h2]; rfl
  ·rw [if_pos h1,show (errI a != 0)=true by simpa using h1]; rfl
 ·cases h
end Go.Proofs.Tryz
namespace Go.Proofs.Tryz
open Go.Ad
open Go.Lib (decDigits itoa nDigits)
def spSSB:SP:=⟨[.str,.str,.bool],dd8⟩
def spI:SP:=⟨[.int .i64],dd8⟩
theorem run104 (a:List UInt8):(runK prog pBig25 60).call 104 (spS1.rho [.s a]) (spS1.heap [.s a]) (finQ spSSB 8 []) =
  brK ([47] == a) (brK (true && decide ((0:Int)≤1∧(1:Int)≤(a.length:Int))) (some [.s [],.s ((a.take a.length).drop 1),.b true]) none)
   (brK (decide (Lib.indexByte a (byteOf 47) ≥ 0)) (brK (decide (0≤Lib.indexByte a (byteOf 47)∧Lib.indexByte a (byteOf 47)≤(a.length:Int)) && true) (brK (true && decide (0≤W (Lib.indexByte a (byteOf 47)+1)∧W (Lib.indexByte a (byteOf 47)+1)≤(a.length:Int)))
    (some [.s ((a.take (Lib.indexByte a (byteOf 47)).toNat).drop 0),.s ((a.take a.length).drop (W (Lib.indexByte a (byteOf 47)+1)).toNat),.b true]) none) none) (some [.s a,.s [49],.b false])):=by kernel_rfl
noncomputable def T104:List Lf→Tr (SP × List Lf)
 | [.s a]=>.br (szOK a) (.leaf (spSSB,[.s (cutR a).1,.s (cutR a).2.1,.b (cutR a).2.2])) .fail
 | _=>.fail
noncomputable def pBig26:Prims:=pBig25.addh 104 (liftG 8 (funQ spS1 8 [] T104))
theorem pBig26_ok {A:Amb} (hT:Tab A) (hG:prog.globals.size≤A.G):PrimOK prog A pBig26:=by
 refine (pBig25_ok hT hG).addl gsz func104 (by kernel_rfl) (funQ_ok hmix hnum rfl fun ls sq l h=>?_)
 unfold T104 at h
 split at h
 ·rename_i a
  obtain ⟨hc,hv⟩:=Tr.br1 h
  cases hv
  refine ⟨⟨.inr rfl,.inr rfl,.inr rfl,.inr rfl,.inr rfl,.inr rfl,.inr rfl,.inr rfl,trivial⟩,rfl,pBig25,60,_,pBig25_ok hT hG,(run104 a).trans ?_,fun _ _=>.refl⟩
  have hsz:a.length < 2 ^ 62:=of_decide_eq_true hc
  have hb:byteOf 47=47:=by decide
  rw [hb]
  unfold cutR
  by_cases h1:a=[47]
  ·subst h1; rfl
  ·rw [show ([47] == a)=false by rw [beq_eq_false_iff_ne]; exact fun e=>h1 e.symm,brK_f]
   rcases cutAt_index 47 a with ⟨e1,e2⟩ | ⟨i,e0,e1,e2⟩
   ·rw [e1,e2]; rfl
   ·have e3:W ((i:Int)+1)=((i+1:Nat):Int):=by rw [W_id (by omega) (by omega)]; omega
    rw [e1,e2,e3,decide_eq_true (show (i:Int) ≥ 0 by omega),decide_eq_true (show 0≤(i:Int)∧(i:Int)≤(a.length:Int) by omega),decide_eq_true (show 0≤((i+1:Nat):Int)∧((i+1:Nat):Int)≤(a.length:Int) by omega),
     Int.toNat_natCast,Int.toNat_natCast,List.take_length,List.drop_zero]
    rfl
 ·cases h
theorem run103 (a:List UInt8):(runK prog pBig26 60).call 103 (spS1.rho [.s a]) (spS1.heap [.s a]) (finP spI 8 []) =
  brK (szOK a) ((fun (n d:List UInt8) (w:Bool)=>brK (szOK n) (brK (szOK d) (brK (errI n == 3) (some [.i 3]) (brK (errI d == 3) (some [.i 3]) (brK (errI n != 0) (some [.i (if errI d > errI n then errI d else errI n)]) (brK (errI d != 0) (some [.i (if errI d > errI n then errI d else errI n)])
   (brK (!w) (some [.i 0]) (brK (szOK d && szOK [49]) (brK (szOK n && szOK d) (brK ((cmpR d [49]).2 != 0) (some [.i 3]) (brK ((gcdR n d).2 != 0) (some [.i 3]) (brK (decide ((cmpR d [49]).1≤0)) (some [.i 3]) (brK (!((gcdR n d).1 == [49])) (some [.i 3]) (some [.i 0]))))) none) none))))))
    none) none) (cutR a).1 (cutR a).2.1 (cutR a).2.2) none:=by kernel_rfl
theorem errI_1:errI [49]=0:=by decide
theorem itoa_1:itoa 1=[49]:=by
 show decDigits 1=[49]
 rw [dec_small (by omega)]; rfl
theorem cutR_sz {a:List UInt8} (h:a.length < 2 ^ 61):szOK (cutR a).1=true∧szOK (cutR a).2.1=true:=by
 obtain ⟨h1,h2⟩:=cutR_len a
 exact ⟨decide_eq_true (by omega),decide_eq_true (by omega)⟩
theorem gcd1_text {n d:List UInt8} (hn:errI n=0) (hd:errI d=0):((gcdR n d).1 == [49])=decide (Int.gcd (dvalZ n) (dvalZ d)=1):=by
 rw [gcdR_ok hn hd]
 by_cases h:Int.gcd (dvalZ n) (dvalZ d)=1
 ·rw [decide_eq_true h,h]
  show (itoa ((1:Nat):Int) == [49])=true
  rw [show ((1:Nat):Int)=1 from rfl,itoa_1]; rfl
 ·rw [decide_eq_false h,beq_eq_false_iff_ne]
  intro e
  rw [← itoa_1] at e
  have e:itoa (Int.gcd (dvalZ n) (dvalZ d):Nat)=itoa 1:=e
  have:=itoa_inj e
  omega
theorem tree103 {a:List UInt8} (h:a.length < 2 ^ 61) :
  (fun (n d:List UInt8) (w:Bool)=>brK (szOK n) (brK (szOK d) (brK (errI n == 3) (some [Lf.i 3]) (brK (errI d == 3) (some [.i 3]) (brK (errI n != 0) (some [.i (if errI d > errI n then errI d else errI n)]) (brK (errI d != 0) (some [.i (if errI d > errI n then errI d else errI n)])
   (brK (!w) (some [.i 0]) (brK (szOK d && szOK [49]) (brK (szOK n && szOK d) (brK ((cmpR d [49]).2 != 0) (some [.i 3]) (brK ((gcdR n d).2 != 0) (some [.i 3]) (brK (decide ((cmpR d [49]).1≤0)) (some [.i 3]) (brK (!((gcdR n d).1 == [49])) (some [.i 3]) (some [.i 0]))))) none) none))))))
    none) none) (cutR a).1 (cutR a).2.1 (cutR a).2.2=some [.i (errQ a)]:=by
 obtain ⟨s1,s2⟩:=cutR_sz h
 unfold errQ
 generalize (cutR a).1=n at *
 generalize (cutR a).2.1=d at *
 generalize (cutR a).2.2=w at *
 show brK (szOK n) _ _=_
 rw [s1,s2,brK_t,brK_t]
 by_cases h1:errI n=3
 ·rw [if_pos (show errI n=3 ∨ errI d=3 from .inl h1),show (errI n == 3)=true by simpa using h1]; rfl
 ·rw [show (errI n == 3)=false by simpa using h1,brK_f]
  by_cases h2:errI d=3
  ·rw [if_pos (show errI n=3 ∨ errI d=3 from .inr h2),show (errI d == 3)=true by simpa using h2]; rfl
  ·rw [if_neg (show ¬ (errI n=3 ∨ errI d=3) by rw [not_or]; exact ⟨h1,h2⟩),show (errI d == 3)=false by simpa using h2,brK_f]
   have v1:=errI_val n
   have v2:=errI_val d
   by_cases h3:errI n=0
   ·rw [show (errI n != 0)=false by simpa using h3,brK_f]
    by_cases h4:errI d=0
    ·rw [if_neg (show ¬ (errI n ≠ 0 ∨ errI d ≠ 0) by rw [not_or]; exact ⟨by simpa using h3,by simpa using h4⟩),show (errI d != 0)=false by simpa using h4,brK_f]
     cases w with
     | false=>rfl
     | true =>
      rw [cmpR_ok h4 errI_1,gcd1_text h3 h4,show (gcdR n d).2=0 by rw [gcdR_ok h3 h4],show dvalZ [49]=1 from rfl,show szOK [49]=true from rfl]
      by_cases h5:1 < dvalZ d
      ·have h6:sgnZ (dvalZ d - 1)=1:=by unfold sgnZ; rw [if_neg (by omega),if_neg (by omega)]
       rw [h6]
       by_cases h7:Int.gcd (dvalZ n) (dvalZ d)=1
       ·rw [decide_eq_true h7,if_neg (by simp [h5,h7])]; rfl
       ·rw [decide_eq_false h7,if_pos (by simp [h7])]; rfl
      ·have h6:decide (sgnZ (dvalZ d - 1)≤0)=true:=by
        refine decide_eq_true ?_
        unfold sgnZ
        by_cases h8:dvalZ d - 1=0
        ·rw [if_pos h8]; omega
        ·rw [if_neg h8,if_pos (by omega)]; omega
       rw [h6,if_pos (by simp [h5])]; rfl
    ·have e1:errI d=11:=by omega
     rw [if_pos (show errI n ≠ 0 ∨ errI d ≠ 0 from .inr h4),e1,h3]; rfl
   ·rw [if_pos (show errI n ≠ 0 ∨ errI d ≠ 0 from .inl h3),show (errI n != 0)=true by simpa using h3,brK_t]
    have e1:errI n=11:=by omega
    rw [e1]
    rcases v2 with v | v | v
    ·rw [v]; rfl
    ·exact (h2 v).elim
    ·rw [v]; rfl
def szH (a:List UInt8):Bool:=decide (a.length < 2 ^ 61)
theorem szH_sz {a:List UInt8} (h:szH a=true):szOK a=true:=by
 have:=of_decide_eq_true h
 exact decide_eq_true (by omega)
noncomputable def T103:List Lf→Tr (SP × List Lf)
 | [.s a]=>.br (szH a) (.leaf (spI,[.i (errQ a)])) .fail
 | _=>.fail
noncomputable def pBig27:Prims:=pBig26.addh 103 (liftG 8 (funP spS1 8 [] T103))
theorem pBig27_ok {A:Amb} (hT:Tab A) (hG:prog.globals.size≤A.G):PrimOK prog A pBig27:=by
 refine (pBig26_ok hT hG).addl gsz func103 (by kernel_rfl) (funP_ok hmix hnum rfl fun ls sq l h=>?_)
 unfold T103 at h
 split at h
 ·rename_i a
  obtain ⟨hc,hv⟩:=Tr.br1 h
  cases hv
  refine ⟨⟨.inr rfl,.inr rfl,.inr rfl,.inr rfl,.inr rfl,.inr rfl,.inr rfl,.inr rfl,trivial⟩,rfl,rfl,pBig26,60,pBig26_ok hT hG,(run103 a).trans ?_⟩
  rw [szH_sz hc,brK_t]
  exact tree103 (of_decide_eq_true hc)
 ·cases h
def partsR (a:List UInt8):(List UInt8 × List UInt8) × Int:=if errQ a ≠ 0 then (([],[]),errQ a) else (((cutR a).1,(cutR a).2.1),0)
theorem run63 (a:List UInt8):(runK prog pBig27 60).call 63 (spS1.rho [.s a]) (spS1.heap [.s a]) (finQ spSSI 8 []) =
  brK (szH a) (brK (errQ a != 0) (some [.s [],.s [],.i (errQ a)]) (brK (szOK a) (some [.s (cutR a).1,.s (cutR a).2.1,.i 0]) none)) none:=by kernel_rfl
noncomputable def T63:List Lf→Tr (SP × List Lf)
 | [.s a]=>.br (szH a) (.leaf (spSSI,[.s (partsR a).1.1,.s (partsR a).1.2,.i (partsR a).2])) .fail
 | _=>.fail
noncomputable def pBig28:Prims:=pBig27.addh 63 (liftG 8 (funQ spS1 8 [] T63))
theorem pBig28_ok {A:Amb} (hT:Tab A) (hG:prog.globals.size≤A.G):PrimOK prog A pBig28:=by
 refine (pBig27_ok hT hG).addl gsz func63 (by kernel_rfl) (funQ_ok hmix hnum rfl fun ls sq l h=>?_)
 unfold T63 at h
 split at h
 ·rename_i a
  obtain ⟨hc,hv⟩:=Tr.br1 h
  cases hv
  refine ⟨⟨.inr rfl,.inr rfl,.inr rfl,.inr rfl,.inr rfl,.inr rfl,.inr rfl,.inr rfl,trivial⟩,rfl,pBig27,60,_,pBig27_ok hT hG,(run63 a).trans ?_,fun _ _=>.refl⟩
  rw [hc,szH_sz hc,brK_t,brK_t]
  unfold partsR
  by_cases h1:errQ a=0
  ·rw [if_neg (by simpa using h1),show (errQ a != 0)=false by simpa using h1]; rfl
  ·rw [if_pos h1,show (errQ a != 0)=true by simpa using h1]; rfl
 ·cases h
end Go.Proofs.Tryz
