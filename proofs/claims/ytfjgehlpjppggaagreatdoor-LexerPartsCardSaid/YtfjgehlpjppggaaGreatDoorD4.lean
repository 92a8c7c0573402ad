/- Decimal digits: the loop of lexer.Decimal. -/
import Derived.Test.YtfjgehlpjppggaaGreatDoorQ1
namespace Go.Proofs.Tryz
open Go.Ad
open Go.Lib (decDigits itoa nDigits decFrom digitVal)
noncomputable def code29:Code:=f29.body.getD .skip
noncomputable def bodyDc:Code:=unLoop (findB 1 code29)
def tD (i:Pt):List Pt:=dr 4++[.str,.str]++dr 2++[pW 8]++dr 2++[i]++dr 73
def tDE:List Pt:=dr 8++[pW 8]++dr 76
def pi0:Pt:=.is (.int .i64 0)
def sA0:SP:=⟨tD pi0,dd8++[.cells [.is (.ptr none),.is (.slice none 0 0)] 0 true 79]⟩
def sA1:SP:=⟨tD (.int .i64),dd8++[opB (selfB 8) 9,.text 5]⟩
def sAE:SP:=⟨tDE,dd8++[opB (selfB 8) 9,.text 5]⟩
def sB0:SP:=⟨tD pi0,dd8++[opB (selfB 8) 9,.text 5]⟩
def sB1:SP:=⟨tD (.int .i64),dd8++[opB (selfB 8) 10,.dead,.text 5]⟩
def sBE:SP:=⟨tDE,dd8++[opB (selfB 8) 10,.dead,.text 5]⟩
def onX (a b:SP):AEx→SP
 | .exit 1=>b
 | _=>a
noncomputable abbrev remS (n d:List UInt8) (i:Int) (k:Nat) (t:List UInt8):Option (AEx × List Lf) :=
 brK (propB (errI n=0∧errI d=0∧dvalZ d ≠ 0∧errI (itoa ((dvalZ n).fmod (dvalZ d)))=0)) (some (.normal,[.s (itoa ((dvalZ n).fmod (dvalZ d))),.s d,.i i,.n k,.s t])) none
noncomputable abbrev wrS (n d:List UInt8) (i:Int) (k:Nat) (t:List UInt8):Option (AEx × List Lf) :=
 brK (propB (errI n=0∧errI d=0∧dvalZ d ≠ 0∧errI (itoa ((dvalZ n).fdiv (dvalZ d)))=0)) (brK (decide (k=t.length) && decide (k+(itoa ((dvalZ n).fdiv (dvalZ d))).length < 2147483648))
  (remS n d i (k+(itoa ((dvalZ n).fdiv (dvalZ d))).length) (t++itoa ((dvalZ n).fdiv (dvalZ d)))) none) none
noncomputable abbrev mulS (n d:List UInt8) (i:Int) (k:Nat) (t:List UInt8):Option (AEx × List Lf) :=
 brK (propB (errI n=0∧errI [49,48]=0∧True∧errI (itoa (dvalZ n*dvalZ [49,48]))=0)) (wrS (itoa (dvalZ n*dvalZ [49,48])) d i k t) none
noncomputable abbrev bdDc (n d:List UInt8) (i:Int) (k:Nat) (t:List UInt8):Option (AEx × List Lf) :=
 brK (i == 1) (brK ((decide ((0:Int)≤46) && decide ((46:Int) < 256)) && (decide (k=t.length) && decide (k+1 < 2147483648))) (brK (decide (i > 0)) (mulS n d (W (i+1)) (k+1) (t++[Nat.toUInt8 46])) (wrS n d (W (i+1)) (k+1) (t++[Nat.toUInt8 46]))) none)
  (brK (decide (i > 0)) (mulS n d (W (i+1)) k t) (wrS n d (W (i+1)) k t))
noncomputable abbrev rdDc (n d:List UInt8) (i:Int) (k:Nat) (t:List UInt8):Option (AEx × List Lf) :=
 brK (i == 0) (bdDc n d i k t) (brK (!(n == [48])) (bdDc n d i k t) (some (.exit 1,[.n k,.s t])))
theorem rA0 (n d:List UInt8):execK prog (runK prog pD1 60) noBps bodyDc (sA0.rho [.s n,.s d]) (sA0.heap [.s n,.s d]) (nrmP (onX sA1 sAE) 9 [8])=wrS n d 1 0 []:=by kernel_rfl
theorem rA1 (n d:List UInt8) (i:Int) (k:Nat) (t:List UInt8):execK prog (runK prog pD1 60) noBps bodyDc (sA1.rho [.s n,.s d,.i i,.n k,.s t]) (sA1.heap [.s n,.s d,.i i,.n k,.s t]) (nrmP (onX sA1 sAE) 9 [8])=rdDc n d i k t:=by kernel_rfl
theorem rB0 (n d t:List UInt8) (k:Nat):execK prog (runK prog pD1 60) noBps bodyDc (sB0.rho [.s n,.s d,.n k,.s t]) (sB0.heap [.s n,.s d,.n k,.s t]) (nrmP (onX sB1 sBE) 10 [8,9])=wrS n d 1 k t:=by kernel_rfl
theorem rB1 (n d:List UInt8) (i:Int) (k:Nat) (t:List UInt8):execK prog (runK prog pD1 60) noBps bodyDc (sB1.rho [.s n,.s d,.i i,.n k,.s t]) (sB1.heap [.s n,.s d,.i i,.n k,.s t]) (nrmP (onX sB1 sBE) 10 [8,9])=rdDc n d i k t:=by kernel_rfl
theorem wrS_eq {N d k:Nat} {i:Int} {t:List UInt8} (hN:N < 10 ^ 1024) (hd:0 < d) (hD:d < 10 ^ 1024) (hk:k=t.length) (hl:t.length+(itoa ((N / d:Nat):Int)).length < 2147483648) :
  wrS (itoa (N:Int)) (itoa (d:Int)) i k t=some (.normal,[.s (itoa ((N % d:Nat):Int)),.s (itoa (d:Int)),.i i,.n (t++itoa ((N / d:Nat):Int)).length,.s (t++itoa ((N / d:Nat):Int))]):=by
 subst hk
 have e1:=errI_small hN
 have e2:=errI_small hD
 have f1:(N:Int).fmod (d:Int)=((N % d:Nat):Int):=by rw [Int.fmod_eq_emod_of_nonneg _ (Int.natCast_nonneg _)]; rfl
 have f2:(N:Int).fdiv (d:Int)=((N / d:Nat):Int):=by rw [Int.fdiv_eq_ediv_of_nonneg _ (Int.natCast_nonneg _)]; rfl
 have l1:N % d≤N:=Nat.mod_le _ _
 have l2:N / d≤N:=Nat.div_le_self _ _
 have e3:errI (itoa ((N % d:Nat):Int))=0:=errI_le e1 (by rw [Int.natAbs_natCast,Int.natAbs_natCast]; exact l1)
 have e4:errI (itoa ((N / d:Nat):Int))=0:=errI_le e1 (by rw [Int.natAbs_natCast,Int.natAbs_natCast]; exact l2)
 have hd0:((d:Nat):Int) ≠ 0:=by omega
 unfold wrS remS
 rw [dvalZ_itoa,dvalZ_itoa,f1,f2]
 generalize N % d=r at *
 generalize N / d=q at *
 rw [propB_true ⟨e1,e2,hd0,e4⟩,propB_true ⟨e1,e2,hd0,e3⟩,decide_eq_true (show t.length=t.length from rfl),decide_eq_true hl,List.length_append]
 rfl
theorem errI_10:errI [49,48]=0:=by decide
def restT (i:Nat) (d K r:Nat):List UInt8:=(if i=1∧r ≠ 0 then [46] else [])++digs d K r
theorem loopDc {A:Amb} {s1 sE:SP} {m:Nat} {ds:List Nat} {prims:Prims} (hp:PrimOK prog A prims) (ok1:okD m ds 0 s1.h=true) (okE:okD m ds 0 sE.h=true)
  (hr:∀ n d i k t,execK prog (runK prog prims 60) noBps bodyDc (s1.rho [.s n,.s d,.i i,.n k,.s t]) (s1.heap [.s n,.s d,.i i,.n k,.s t]) (nrmP (onX s1 sE) m ds)=rdDc n d i k t)
  {Bb:Heap} (hB:Bb.length=m) {d:Nat} (hd:0 < d) (hD:d < 10 ^ 1000) :
  ∀ (K r i:Nat) (t:List UInt8),r < d→d ∣ r*10 ^ K→1≤i→i+K < 100000→t.length+2*K < 100000 →
   SEB prog A Bb (.loop bodyDc) ⟨s1.rho [.s (itoa (r:Int)),.s (itoa (d:Int)),.i i,.n t.length,.s t],s1.heap [.s (itoa (r:Int)),.s (itoa (d:Int)),.i i,.n t.length,.s t],ds⟩ (.exit 1)
    ⟨sE.rho [.n (t++restT i d K r).length,.s (t++restT i d K r)],sE.heap [.n (t++restT i d K r).length,.s (t++restT i d K r)],ds⟩:=by
 intro K
 have okx:∀ e,okD m ds 0 (onX s1 sE e).h=true:=fun e=>by unfold onX; split <;> assumption
 induction K with
 | zero =>
  intro r i t hr0 hdv hi hi2 ht
  have h0:=dvd_small hdv hr0
  subst h0
  have hk:=hr (itoa ((0:Nat):Int)) (itoa (d:Int)) i t.length t
  have e0:(!(itoa ((0:Nat):Int) == [48]))=false:=by rw [itoa_is0]; rfl
  have ei:((i:Int) == 0)=false:=by rw [beq_eq_false_iff_ne]; omega
  unfold rdDc at hk
  rw [ei,e0,brK_f,brK_f] at hk
  have et:restT i d 0 0=[]:=by unfold restT digs; rw [if_neg (by simp)]; rfl
  rw [et,List.append_nil]
  exact SEB.loop_exit (SEB.of_KP (A:=A) (B0:=Bb) (e:=.exit 1) (sp:=onX s1 sE) hmix hnum hp (.none _) hB hk (okx _)) (by simp)
 | succ K ih =>
  intro r i t hr0 hdv hi hi2 ht
  have hk:=hr (itoa (r:Int)) (itoa (d:Int)) i t.length t
  have ei:((i:Int) == 0)=false:=by rw [beq_eq_false_iff_ne]; omega
  unfold rdDc at hk
  by_cases h0:r=0
  ·subst h0
   have e0:(!(itoa ((0:Nat):Int) == [48]))=false:=by rw [itoa_is0]; rfl
   rw [ei,e0,brK_f,brK_f] at hk
   have et:restT i d (K+1) 0=[]:=by unfold restT; rw [digs_zero,if_neg (by simp)]; rfl
   rw [et,List.append_nil]
   exact SEB.loop_exit (SEB.of_KP (A:=A) (B0:=Bb) (e:=.exit 1) (sp:=onX s1 sE) hmix hnum hp (.none _) hB hk (okx _)) (by simp)
  ·have e0:(!(itoa (r:Int) == [48]))=true:=by rw [itoa_is0,decide_eq_false (by omega)]; rfl
   have hp10:=pow10_succ 1001 1000 rfl
   have hb1:d < 10 ^ 1024:=lt_pow10 1024 hD (by decide)
   have hb2:r*10 < 10 ^ 1024:=by
    refine Nat.lt_of_lt_of_le (m:=10 ^ 1001) ?_ (Nat.le_of_lt (pow10_lt 1024 (by decide)))
    rw [hp10]
    generalize (10:Nat) ^ 1000=Z at *
    omega
   have hb3:r < 10 ^ 1024:=Nat.lt_trans hr0 hb1
   have hq:=digit_small hd hr0
   have hq1:(itoa ((r*10 / d:Nat):Int)).length=1:=by rw [itoa_dig hq]; rfl
   have em:mulS (itoa (r:Int)) (itoa (d:Int)) (W ((i:Int)+1)) t.length t=wrS (itoa ((r*10:Nat):Int)) (itoa (d:Int)) (W ((i:Int)+1)) t.length t:=by
    unfold mulS
    rw [dvalZ_itoa,dval_10,show (r:Int)*10=((r*10:Nat):Int) by omega,propB_true ⟨errI_small hb3,errI_10,trivial,errI_small hb2⟩]; rfl
   have em2:∀ u:List UInt8,mulS (itoa (r:Int)) (itoa (d:Int)) (W ((i:Int)+1)) u.length u=wrS (itoa ((r*10:Nat):Int)) (itoa (d:Int)) (W ((i:Int)+1)) u.length u:=fun u=>by
    unfold mulS
    rw [dvalZ_itoa,dval_10,show (r:Int)*10=((r*10:Nat):Int) by omega,propB_true ⟨errI_small hb3,errI_10,trivial,errI_small hb2⟩]; rfl
   have hW:W ((i:Int)+1)=((i+1:Nat):Int):=by rw [W_id (by omega) (by omega)]; omega
   rw [ei,e0,brK_f,brK_t] at hk
   unfold bdDc at hk
   have hgt:decide ((i:Int) > 0)=true:=decide_eq_true (by omega)
   by_cases hi1:i=1
   ·have e1:((i:Int) == 1)=true:=by rw [beq_iff_eq]; omega
    have hl1:t.length+1=(t++[Nat.toUInt8 46]).length:=by rw [List.length_append]; rfl
    rw [e1,brK_t,hgt,brK_t,hl1,em2,wrS_eq hb2 hd hb1 rfl (by rw [hq1,← hl1]; omega),hW,decide_eq_true (show t.length=t.length from rfl),decide_eq_true (show (t++[Nat.toUInt8 46]).length < 2147483648 by rw [← hl1]; omega)] at hk
    have hs:=SEB.of_KP (A:=A) (B0:=Bb) (e:=.normal) (sp:=onX s1 sE) hmix hnum hp (.none _) hB hk (okx _)
    have hn:=ih (r*10 % d) (i+1) (t++[Nat.toUInt8 46]++itoa ((r*10 / d:Nat):Int)) (Nat.mod_lt _ hd) (dvd_next hdv) (by omega) (by omega) (by rw [List.length_append,hq1,← hl1]; omega)
    have et:t++restT i d (K+1) r=t++[Nat.toUInt8 46]++itoa ((r*10 / d:Nat):Int)++restT (i+1) d K (r*10 % d):=by
     unfold restT
     rw [if_pos ⟨hi1,h0⟩,if_neg (by omega),digs_next h0,List.nil_append]
     simp only [List.append_assoc]
     rfl
    rw [et]
    exact SEB.loop_next hs hn
   ·have e1:((i:Int) == 1)=false:=by rw [beq_eq_false_iff_ne]; omega
    rw [e1,brK_f,hgt,brK_t,em2,wrS_eq hb2 hd hb1 rfl (by rw [hq1]; omega),hW] at hk
    have hs:=SEB.of_KP (A:=A) (B0:=Bb) (e:=.normal) (sp:=onX s1 sE) hmix hnum hp (.none _) hB hk (okx _)
    have hn:=ih (r*10 % d) (i+1) (t++itoa ((r*10 / d:Nat):Int)) (Nat.mod_lt _ hd) (dvd_next hdv) (by omega) (by omega) (by rw [List.length_append,hq1]; omega)
    have et:t++restT i d (K+1) r=t++itoa ((r*10 / d:Nat):Int)++restT (i+1) d K (r*10 % d):=by
     unfold restT
     rw [if_neg (by omega),if_neg (by omega),digs_next h0,List.nil_append,List.nil_append]
     simp only [List.append_assoc]
    rw [et]
    exact SEB.loop_next hs hn
end Go.Proofs.Tryz
namespace Go.Proofs.Tryz
open Go.Ad
open Go.Lib (decDigits itoa nDigits decFrom digitVal)
def txD (g n d:List UInt8):List UInt8:=g++(itoa (((dvalZ n).toNat / (dvalZ d).toNat:Nat):Int)++fracT (dvalZ d).toNat ((dvalZ n).toNat % (dvalZ d).toNat))
def okD2 (n d:List UInt8):Prop:=isZ n∧isZ d∧0≤dvalZ n∧0 < dvalZ d∧n.length≤1000∧d.length≤1000∧strip 5 (strip 2 (dvalZ d).toNat)=1
noncomputable def TDcA:List Lf→Tr (AEx × SP × List Lf)
 | [.s n,.s d]=>.br (propB (okD2 n d)) (.leaf (.normal,sAE,[.n (txD [] n d).length,.s (txD [] n d)])) .fail
 | _=>.fail
noncomputable def TDcB:List Lf→Tr (AEx × SP × List Lf)
 | [.s n,.s d,.n k,.s t]=>.br (propB (okD2 n d∧k=t.length∧t.length≤1)) (.leaf (.normal,sBE,[.n (txD t n d).length,.s (txD t n d)])) .fail
 | _=>.fail
theorem okD2_bd {n d:List UInt8} (h:okD2 n d):∃ N D:Nat,n=itoa (N:Int)∧d=itoa (D:Int)∧N < 10 ^ 1000∧D < 10 ^ 1000∧0 < D∧D ∣ 10 ^ (4*(itoa (D:Int)).length)∧(itoa (D:Int)).length≤1000∧(itoa (N:Int)).length≤1000:=by
 obtain ⟨z1,z2,h1,h2,h3,h4,h5⟩:=h
 obtain ⟨N,hN⟩:∃ N:Nat,dvalZ n=N:=⟨(dvalZ n).toNat,by omega⟩
 obtain ⟨D,hD⟩:∃ D:Nat,dvalZ d=D:=⟨(dvalZ d).toNat,by omega⟩
 unfold isZ at z1 z2
 rw [hN] at z1
 rw [hD] at z2 h2 h5
 rw [Int.toNat_natCast] at h5
 have l1:=itoaN_lt N
 have l2:=itoaN_lt D
 rw [← z1] at l1
 rw [← z2] at l2
 refine ⟨N,D,z1,z2,lt_pow10 1000 l1 h3,lt_pow10 1000 l2 h4,by omega,fin_dvd (by omega) h5,by rw [← z2]; exact h4,by rw [← z1]; exact h3⟩
theorem rest_frac (d r:Nat):restT 1 d (4*(itoa (d:Int)).length) r=fracT d r:=by
 unfold restT fracT
 by_cases h:r=0
 ·rw [if_neg (by simp [h]),if_pos h,h,digs_zero]; rfl
 ·rw [if_pos ⟨rfl,h⟩,if_neg h]; rfl
theorem sebDc {A:Amb} {s0 s1 sE:SP} {m:Nat} {ds:List Nat} {prims:Prims} {l0:List UInt8→List UInt8→List Lf} {t:List UInt8} (ht:t.length≤1) (hp:PrimOK prog A prims) (ok1:okD m ds 0 s1.h=true) (okE:okD m ds 0 sE.h=true)
  (h0:∀ n d,execK prog (runK prog prims 60) noBps bodyDc (s0.rho (l0 n d)) (s0.heap (l0 n d)) (nrmP (onX s1 sE) m ds)=wrS n d 1 t.length t)
  (hr:∀ n d i k t,execK prog (runK prog prims 60) noBps bodyDc (s1.rho [.s n,.s d,.i i,.n k,.s t]) (s1.heap [.s n,.s d,.i i,.n k,.s t]) (nrmP (onX s1 sE) m ds)=rdDc n d i k t)
  {Bb:Heap} (hB:Bb.length=m) {n d:List UInt8} (h:okD2 n d) :
  SEB prog A Bb (.loop bodyDc) ⟨s0.rho (l0 n d),s0.heap (l0 n d),ds⟩ (.exit 1) ⟨sE.rho [.n (txD t n d).length,.s (txD t n d)],sE.heap [.n (txD t n d).length,.s (txD t n d)],ds⟩:=by
 have okx:∀ e,okD m ds 0 (onX s1 sE e).h=true:=fun e=>by unfold onX; split <;> assumption
 obtain ⟨N,D,rfl,rfl,h1,h2,h3,h4,h5,h6⟩:=okD2_bd h
 have hk:=h0 (itoa (N:Int)) (itoa (D:Int))
 have hle:(itoa ((N / D:Nat):Int)).length≤1000:=Nat.le_trans (len_mono (Nat.div_le_self _ _)) h6
 rw [wrS_eq (lt_pow10 1024 h1 (by decide)) h3 (lt_pow10 1024 h2 (by decide)) rfl (by omega)] at hk
 have hs:=SEB.of_KP (A:=A) (B0:=Bb) (e:=.normal) (sp:=onX s1 sE) hmix hnum hp (.none _) hB hk (okx _)
 have hn:=loopDc (A:=A) hp ok1 okE hr hB h3 h2 (4*(itoa (D:Int)).length) (N % D) 1 (t++itoa ((N / D:Nat):Int)) (Nat.mod_lt _ h3) (Nat.dvd_trans h4 (Nat.dvd_mul_left _ _)) (by omega) (by omega) (by rw [List.length_append]; omega)
 rw [rest_frac] at hn
 have et:txD t (itoa (N:Int)) (itoa (D:Int))=t++itoa ((N / D:Nat):Int)++fracT D (N % D):=by
  unfold txD
  rw [dvalZ_itoa,dvalZ_itoa,Int.toNat_natCast,Int.toNat_natCast,List.append_assoc]
 rw [et]
 exact SEB.loop_next hs hn
noncomputable def hookDc:Blk:=fun ρ B=>match hookP sA0 9 [8] TDcA ρ B with
 | .fail=>hookP sB0 10 [8,9] TDcB ρ B
 | t=>t
noncomputable def pD2b:Prims:=pD1.addb 29 1 hookDc
theorem pD2b_ok {A:Amb} (hT:Tab A) (hG:prog.globals.size≤A.G):PrimOK prog A pD2b:=by
 have hp:=pD1_ok hT hG
 refine PrimOK.addb hp func29 (show f29.body=some code29 by kernel_rfl) (body:=.loop bodyDc) (by kernel_rfl) fun ρ B e ρ' B' D h=>?_
 unfold hookDc at h
 split at h
 ·refine hookP_ok rfl (fun ls e sq l h=>?_) ρ B e ρ' B' D h
  unfold TDcB at h
  split at h
  ·rename_i n d k t
   obtain ⟨hc,hv⟩:=Tr.br1 h
   cases hv
   obtain ⟨h1,rfl,h2⟩:=propB_eq hc
   exact ⟨⟨.inr rfl,.inr rfl,.inr rfl,.inr rfl,.inr rfl,.inr rfl,.inr rfl,.inr rfl,.inl rfl,.inl rfl,trivial⟩,fun Bb hB=>SEB.block_exit (id:=1) (sebDc (s0:=sB0) (l0:=fun n d=>[.s n,.s d,.n t.length,.s t]) h2 hp rfl rfl (fun n d=>rB0 n d t t.length) rB1 hB h1)⟩
  ·cases h
 ·refine hookP_ok rfl (fun ls e sq l h=>?_) ρ B e ρ' B' D h
  unfold TDcA at h
  split at h
  ·rename_i n d
   obtain ⟨hc,hv⟩:=Tr.br1 h
   cases hv
   exact ⟨⟨.inr rfl,.inr rfl,.inr rfl,.inr rfl,.inr rfl,.inr rfl,.inr rfl,.inr rfl,.inl rfl,trivial⟩,fun Bb hB=>SEB.block_exit (id:=1) (sebDc (s0:=sA0) (l0:=fun n d=>[.s n,.s d]) (t:=[]) (by simp) hp rfl rfl rA0 rA1 hB (propB_eq hc))⟩
  ·cases h
noncomputable abbrev strS (t:List UInt8):Option (List Lf):=brK (decide ((t.length:Int)=(t.length:Int)∧t.length=t.length∧t.length < 2147483648)) (some [.s t,.i 0]) none
noncomputable abbrev endA (n d:List UInt8):Option (List Lf):=brK (propB (okD2 n d)) (strS (txD [] n d)) none
noncomputable abbrev endB (n d:List UInt8):Option (List Lf):=brK (propB (okD2 n d∧1=([45]:List UInt8).length∧([45]:List UInt8).length≤1)) (strS (txD [45] n d)) none
noncomputable abbrev tree29 (a n d:List UInt8) (e:Int):Option (List Lf) :=
 brK (szH a) (brK (e != 0) (some [.s [],.i e]) (brK (propB (errI d=0∧0 < dvalZ d)) (brK (!decide (strip 5 (strip 2 (dvalZ d).toNat)=1)) (some [.s [],.i 14])
  (brK (decide ((n.length:Int) ≥ 1)) (brK (decide ((0:Int)≤1∧(1:Int)≤(n.length:Int)) && true) (brK (!((n.take 1).drop 0 == [45])) (endA n d)
   (brK (true && decide ((0:Int)≤1∧(1:Int)≤(n.length:Int))) (endB ((n.take n.length).drop 1) d) none)) none) (endA n d))) none)) none
theorem run29 (a:List UInt8):(runK prog pD2b 60).call 29 (spS1.rho [.s a]) (spS1.heap [.s a]) (finQ spRI 8 [])=tree29 a (partsR a).1.1 (partsR a).1.2 (partsR a).2:=by kernel_rfl
theorem brK_not {α:Type} {c:Bool} {x y:Option α}:brK (!c) x y=brK c y x:=by cases c <;> rfl
theorem strS_eq {t:List UInt8} (h:t.length < 100000):strS t=some [.s t,.i 0]:=by
 unfold strS
 rw [decide_eq_true (show (t.length:Int)=(t.length:Int)∧t.length=t.length∧t.length < 2147483648 from ⟨rfl,rfl,by omega⟩)]; rfl
theorem txD_len {g n d:List UInt8} (hg:g.length≤1) (h:okD2 n d):(txD g n d).length < 100000:=by
 obtain ⟨N,D,rfl,rfl,h1,h2,h3,h4,h5,h6⟩:=okD2_bd h
 have hle:(itoa ((N / D:Nat):Int)).length≤1000:=Nat.le_trans (len_mono (Nat.div_le_self _ _)) h6
 have hf:(fracT D (N % D)).length≤4001:=by
  unfold fracT
  split
  ·simp
  ·have:=digs_len h3 (4*(itoa (D:Int)).length) (N % D) (Nat.mod_lt _ h3)
   rw [List.length_cons]; omega
 unfold txD
 rw [dvalZ_itoa,dvalZ_itoa,Int.toNat_natCast,Int.toNat_natCast,List.length_append,List.length_append]
 omega
theorem itoa_neg_drop {N:Int} (h:N < 0):((itoa N).take (itoa N).length).drop 1=itoa ((N.natAbs:Nat):Int):=by
 rw [List.take_length]
 unfold itoa
 rw [if_pos h,if_neg (by omega)]
 rfl
theorem tree29_eq {a:List UInt8} (h:a.length≤900):tree29 a (partsR a).1.1 (partsR a).1.2 (partsR a).2=some [.s (decR a).1,.i (decR a).2]:=by
 unfold tree29 decR partsR
 have hz:szH a=true:=decide_eq_true (by omega)
 rw [hz,brK_t]
 by_cases h0:errQ a=0
 ·rw [if_neg (by simpa using h0),if_neg (by simpa using h0)]
  obtain ⟨e1,e2,e3,e4⟩:=errQ_ok h0
  obtain ⟨l1,l2⟩:=cutR_len a
  generalize (cutR a).1=n at *
  generalize (cutR a).2.1=d at *
  dsimp only
  rw [show ((0:Int) != 0)=false from rfl,brK_f,propB_true ⟨e2,by omega⟩,brK_t]
  by_cases hs:strip 5 (strip 2 (dvalZ d).toNat)=1
  ·rw [if_neg (by simpa using hs),decide_eq_true hs,show (!true)=false from rfl,brK_f,brK_not,minus_test e1]
   have zd:=itoa_of e2
   have zn:=itoa_of e1
   have hbt:(true && decide ((0:Int)≤1∧(1:Int)≤(n.length:Int)))=true ∨ n=[]:=by
    cases n with
    | nil=>exact .inr rfl
    | cons b r=>exact .inl (by rw [decide_eq_true (show (0:Int)≤1∧(1:Int)≤((List.length (b :: r):Nat):Int) by simp; omega)]; rfl)
   have hne:n ≠ []:=fun e=>by rw [e] at e1; revert e1; decide
   have hbt:=hbt.resolve_right hne
   by_cases hm:dvalZ n < 0
   ·rw [if_pos hm,hbt,brK_t]
    have hdr:(n.take n.length).drop 1=itoa (((dvalZ n).natAbs:Nat):Int):=by
     have:=itoa_neg_drop hm
     rwa [← zn] at this
    rw [hdr]
    have hln:(itoa (((dvalZ n).natAbs:Nat):Int)).length≤1000:=by
     rw [← hdr,List.length_drop,List.take_length]; omega
    have hok:okD2 (itoa (((dvalZ n).natAbs:Nat):Int)) d:=⟨isZ_itoa _,zd,by rw [dvalZ_itoa]; exact Int.natCast_nonneg _,by omega,hln,by omega,hs⟩
    unfold endB
    rw [propB_true ⟨hok,rfl,by decide⟩,brK_t,strS_eq (txD_len (by decide) hok)]
    unfold txD decT
    rw [if_pos hm,dvalZ_itoa,Int.toNat_natCast]
   ·rw [if_neg hm]
    have hok:okD2 n d:=⟨zn,zd,by omega,by omega,by omega,by omega,hs⟩
    unfold endA
    rw [propB_true hok,brK_t,strS_eq (txD_len (by decide) hok)]
    unfold txD decT
    rw [if_neg hm,show (dvalZ n).natAbs=(dvalZ n).toNat by omega]
  ·rw [if_pos hs,decide_eq_false hs]; rfl
 ·rw [if_pos h0,if_pos h0]
  dsimp only
  rw [show (errQ a != 0)=true by simpa using h0]; rfl
noncomputable def T29:List Lf→Tr (SP × List Lf)
 | [.s a]=>.br (decide (a.length≤900)) (.leaf (spRI,[.s (decR a).1,.i (decR a).2])) .fail
 | _=>.fail
noncomputable def pD2:Prims:=pD1.addh 29 (liftG 8 (funQ spS1 8 [] T29))
theorem pD2_ok {A:Amb} (hT:Tab A) (hG:prog.globals.size≤A.G):PrimOK prog A pD2:=by
 refine (pD1_ok hT hG).addl gsz func29 (by kernel_rfl) (funQ_ok hmix hnum rfl fun ls sq l h=>?_)
 unfold T29 at h
 split at h
 ·rename_i a
  obtain ⟨hc,hv⟩:=Tr.br1 h
  cases hv
  exact ⟨⟨.inr rfl,.inr rfl,.inr rfl,.inr rfl,.inr rfl,.inr rfl,.inr rfl,.inr rfl,trivial⟩,rfl,pD2b,60,_,pD2b_ok hT hG,(run29 a).trans (tree29_eq (of_decide_eq_true hc)),fun _ _=>.refl⟩
 ·cases h
end Go.Proofs.Tryz
namespace Go.Proofs.Tryz
open Go.Ad
open Go.Lib (decDigits itoa nDigits decFrom digitVal)
end Go.Proofs.Tryz
namespace Go.Proofs.Tryz
open Go.Ad
open Go.Lib (decDigits itoa nDigits decFrom digitVal)
end Go.Proofs.Tryz
