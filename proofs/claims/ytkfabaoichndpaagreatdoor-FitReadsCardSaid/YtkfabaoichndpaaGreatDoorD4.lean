/- Decimal digits: the loop of lexer.Decimal. -/
import Derived.Test.YtkfabaoichndpaaGreatDoorQ1
import Derived.Test.YtkfabaoichndpaaGreatDoorPrs
noncomputable section
namespace Go.Proofs.Tryz
open Go.Ad
open Go.Lib (decDigits itoa nDigits decFrom digitVal)
def E6n:Code:=f18.body.getD .skip
def A5g:Code:=J3 (K6 1 E6n)
def tD (i:Pt):List Pt:=dr 4++[.str,.str]++dr 2++[pW 8]++dr 2++[i]++dr 73
def tDE:List Pt:=dr 8++[pW 8]++dr 76
def pi0:Pt:=.is (.int .i64 0)
def sA0:SP:=⟨tD pi0,dd8++[.cells [.is (.ptr none),.is (.slice none 0 0)] 0 true 92]⟩
def sA1:SP:=⟨tD (.int .i64),dd8++[opB (T9 8) 9,.text 5]⟩
def sAE:SP:=⟨tDE,dd8++[opB (T9 8) 9,.text 5]⟩
def sB0:SP:=⟨tD pi0,dd8++[opB (T9 8) 9,.text 5]⟩
def sB1:SP:=⟨tD (.int .i64),dd8++[opB (T9 8) 10,.dead,.text 5]⟩
def sBE:SP:=⟨tDE,dd8++[opB (T9 8) 10,.dead,.text 5]⟩
def onX (a b:SP):AEx->SP
 | .exit 1=>b
 | _=>a
abbrev G6q (n d:List UInt8) (i:Int) (k:Nat) (t:List UInt8):Option (AEx × List Lf) :=
 brK (A9 (D5 n=0/\D5 d=0/\A7 d ≠ 0/\D5 (itoa ((A7 n).fmod (A7 d)))=0)) (some (.normal,[.s (itoa ((A7 n).fmod (A7 d))),.s d,.i i,.n k,.s t])) none
abbrev wrS (n d:List UInt8) (i:Int) (k:Nat) (t:List UInt8):Option (AEx × List Lf) :=
 brK (A9 (D5 n=0/\D5 d=0/\A7 d ≠ 0/\D5 (itoa ((A7 n).fdiv (A7 d)))=0)) (brK (decide (k=t.length) && decide (k+(itoa ((A7 n).fdiv (A7 d))).length < 2147483648))
  (G6q n d i (k+(itoa ((A7 n).fdiv (A7 d))).length) (t++itoa ((A7 n).fdiv (A7 d)))) none) none
abbrev E2z (n d:List UInt8) (i:Int) (k:Nat) (t:List UInt8):Option (AEx × List Lf) :=
 brK (A9 (D5 n=0/\D5 [49,48]=0/\True/\D5 (itoa (A7 n*A7 [49,48]))=0)) (wrS (itoa (A7 n*A7 [49,48])) d i k t) none
abbrev G0g (n d:List UInt8) (i:Int) (k:Nat) (t:List UInt8):Option (AEx × List Lf) :=
 brK (i == 1) (brK ((decide ((0:Int)<=46) && decide ((46:Int) < 256)) && (decide (k=t.length) && decide (k+1 < 2147483648))) (brK (decide (i > 0)) (E2z n d (W (i+1)) (k+1) (t++[Nat.toUInt8 46])) (wrS n d (W (i+1)) (k+1) (t++[Nat.toUInt8 46]))) none)
  (brK (decide (i > 0)) (E2z n d (W (i+1)) k t) (wrS n d (W (i+1)) k t))
abbrev E3j (n d:List UInt8) (i:Int) (k:Nat) (t:List UInt8):Option (AEx × List Lf) :=
 brK (i == 0) (G0g n d i k t) (brK (!(n == [48])) (G0g n d i k t) (some (.exit 1,[.n k,.s t])))
theorem rA0 (n d:List UInt8):F3 prog (C9 prog pD1 60) F8 A5g (sA0.rho [.s n,.s d]) (sA0.heap [.s n,.s d]) (H5 (onX sA1 sAE) 9 [8])=wrS n d 1 0 []:=by kernel_rfl
theorem rA1 (n d:List UInt8) (i:Int) (k:Nat) (t:List UInt8):F3 prog (C9 prog pD1 60) F8 A5g (sA1.rho [.s n,.s d,.i i,.n k,.s t]) (sA1.heap [.s n,.s d,.i i,.n k,.s t]) (H5 (onX sA1 sAE) 9 [8])=E3j n d i k t:=by kernel_rfl
theorem rB0 (n d t:List UInt8) (k:Nat):F3 prog (C9 prog pD1 60) F8 A5g (sB0.rho [.s n,.s d,.n k,.s t]) (sB0.heap [.s n,.s d,.n k,.s t]) (H5 (onX sB1 sBE) 10 [8,9])=wrS n d 1 k t:=by kernel_rfl
theorem rB1 (n d:List UInt8) (i:Int) (k:Nat) (t:List UInt8):F3 prog (C9 prog pD1 60) F8 A5g (sB1.rho [.s n,.s d,.i i,.n k,.s t]) (sB1.heap [.s n,.s d,.i i,.n k,.s t]) (H5 (onX sB1 sBE) 10 [8,9])=E3j n d i k t:=by kernel_rfl
theorem D4j {N d k:Nat} {i:Int} {t:List UInt8} (hN:N < 10 ^ 1024) (hd:0 < d) (hD:d < 10 ^ 1024) (hk:k=t.length) (hl:t.length+(itoa ((N / d:Nat):Int)).length < 2147483648) :
  wrS (itoa (N:Int)) (itoa (d:Int)) i k t=some (.normal,[.s (itoa ((N % d:Nat):Int)),.s (itoa (d:Int)),.i i,.n (t++itoa ((N / d:Nat):Int)).length,.s (t++itoa ((N / d:Nat):Int))]):=by
 subst hk
 have e1:=Y3 hN
 have e2:=Y3 hD
 have f1:(N:Int).fmod (d:Int)=((N % d:Nat):Int):=by rw [Int.fmod_eq_emod_of_nonneg _ (Int.natCast_nonneg _)]; rfl
 have f2:(N:Int).fdiv (d:Int)=((N / d:Nat):Int):=by rw [Int.fdiv_eq_ediv_of_nonneg _ (Int.natCast_nonneg _)]; rfl
 have l1:N % d<=N:=Nat.mod_le _ _
 have l2:N / d<=N:=Nat.div_le_self _ _
 have e3:D5 (itoa ((N % d:Nat):Int))=0:=Y7 e1 (by rw [Int.natAbs_natCast,Int.natAbs_natCast]; exact l1)
 have e4:D5 (itoa ((N / d:Nat):Int))=0:=Y7 e1 (by rw [Int.natAbs_natCast,Int.natAbs_natCast]; exact l2)
 have hd0:((d:Nat):Int) ≠ 0:=by omega
 unfold wrS G6q
 rw [C8,C8,f1,f2]
 generalize N % d=r at *
 generalize N / d=q at *
 rw [A8 ⟨e1,e2,hd0,e4⟩,A8 ⟨e1,e2,hd0,e3⟩,dT (show t.length=t.length from rfl),dT hl,List.length_append]
 rfl
theorem D9v:D5 [49,48]=0:=by decide
def U1 (i:Nat) (d K r:Nat):List UInt8:=(if i=1/\r ≠ 0 then [46] else [])++A3y d K r
theorem G3x {A:Amb} {s1 sE:SP} {m:Nat} {ds:List Nat} {prims:Prims} (hp:PrimOK prog A prims) (ok1:okD m ds 0 s1.h=true) (okE:okD m ds 0 sE.h=true)
  (hr:∀ n d i k t,F3 prog (C9 prog prims 60) F8 A5g (s1.rho [.s n,.s d,.i i,.n k,.s t]) (s1.heap [.s n,.s d,.i i,.n k,.s t]) (H5 (onX s1 sE) m ds)=E3j n d i k t)
  {Bb:Heap} (hB:Bb.length=m) {d:Nat} (hd:0 < d) (hD:d < 10 ^ 1000) :
  ∀ (K r i:Nat) (t:List UInt8),r < d->d ∣ r*10 ^ K->1<=i->i+K < 100000->t.length+2*K < 100000 ->
   SEB prog A Bb (.loop A5g) ⟨s1.rho [.s (itoa (r:Int)),.s (itoa (d:Int)),.i i,.n t.length,.s t],s1.heap [.s (itoa (r:Int)),.s (itoa (d:Int)),.i i,.n t.length,.s t],ds⟩ (.exit 1)
    ⟨sE.rho [.n (t++U1 i d K r).length,.s (t++U1 i d K r)],sE.heap [.n (t++U1 i d K r).length,.s (t++U1 i d K r)],ds⟩:=by
 intro K
 have okx:∀ e,okD m ds 0 (onX s1 sE e).h=true:=fun e=>by unfold onX; split <;> assumption
 induction K with
 | zero =>
  intro r i t hr0 hdv hi hi2 ht
  have h0:=B4p hdv hr0
  subst h0
  have hk:=hr (itoa ((0:Nat):Int)) (itoa (d:Int)) i t.length t
  have e0:(!(itoa ((0:Nat):Int) == [48]))=false:=by rw [Q9]; rfl
  have ei:((i:Int) == 0)=false:=by rw [beq_eq_false_iff_ne]; omega
  unfold E3j at hk
  rw [ei,e0,I4,I4] at hk
  have et:U1 i d 0 0=[]:=by unfold U1 A3y; rw [if_neg (by simp)]; rfl
  rw [et,List.append_nil]
  exact SEB.loop_exit (SEB.of_KP (A:=A) (B0:=Bb) (e:=.exit 1) (sp:=onX s1 sE) D6 D7 hp (.none _) hB hk (okx _)) (by simp)
 | succ K ih =>
  intro r i t hr0 hdv hi hi2 ht
  have hk:=hr (itoa (r:Int)) (itoa (d:Int)) i t.length t
  have ei:((i:Int) == 0)=false:=by rw [beq_eq_false_iff_ne]; omega
  unfold E3j at hk
  by_cases h0:r=0
  ·subst h0
   have e0:(!(itoa ((0:Nat):Int) == [48]))=false:=by rw [Q9]; rfl
   rw [ei,e0,I4,I4] at hk
   have et:U1 i d (K+1) 0=[]:=by unfold U1; rw [A0q,if_neg (by simp)]; rfl
   rw [et,List.append_nil]
   exact SEB.loop_exit (SEB.of_KP (A:=A) (B0:=Bb) (e:=.exit 1) (sp:=onX s1 sE) D6 D7 hp (.none _) hB hk (okx _)) (by simp)
  ·have e0:(!(itoa (r:Int) == [48]))=true:=by rw [Q9,dF (by omega)]; rfl
   have hp10:=C1u 1001 1000 rfl
   have hb1:d < 10 ^ 1024:=A2g 1024 hD (by decide)
   have hb2:r*10 < 10 ^ 1024:=by
    refine Nat.lt_of_lt_of_le (m:=10 ^ 1001) ?_ (Nat.le_of_lt (C1p 1024 (by decide)))
    rw [hp10]
    generalize (10:Nat) ^ 1000=Z at *
    omega
   have hb3:r < 10 ^ 1024:=Nat.lt_trans hr0 hb1
   have hq:=X9 hd hr0
   have hq1:(itoa ((r*10 / d:Nat):Int)).length=1:=by rw [A4l hq]; rfl
   have em:E2z (itoa (r:Int)) (itoa (d:Int)) (W ((i:Int)+1)) t.length t=wrS (itoa ((r*10:Nat):Int)) (itoa (d:Int)) (W ((i:Int)+1)) t.length t:=by
    unfold E2z
    rw [C8,B7r,show (r:Int)*10=((r*10:Nat):Int) by omega,A8 ⟨Y3 hb3,D9v,trivial,Y3 hb2⟩]; rfl
   have em2:∀ u:List UInt8,E2z (itoa (r:Int)) (itoa (d:Int)) (W ((i:Int)+1)) u.length u=wrS (itoa ((r*10:Nat):Int)) (itoa (d:Int)) (W ((i:Int)+1)) u.length u:=fun u=>by
    unfold E2z
    rw [C8,B7r,show (r:Int)*10=((r*10:Nat):Int) by omega,A8 ⟨Y3 hb3,D9v,trivial,Y3 hb2⟩]; rfl
   have hW:W ((i:Int)+1)=((i+1:Nat):Int):=by rw [R4 (by omega) (by omega)]; omega
   rw [ei,e0,I4,E5] at hk
   unfold G0g at hk
   have hgt:decide ((i:Int) > 0)=true:=dT (by omega)
   by_cases hi1:i=1
   ·have e1:((i:Int) == 1)=true:=by rw [beq_iff_eq]; omega
    have hl1:t.length+1=(t++[Nat.toUInt8 46]).length:=by rw [List.length_append]; rfl
    rw [e1,E5,hgt,E5,hl1,em2,D4j hb2 hd hb1 rfl (by rw [hq1,<- hl1]; omega),hW,dT (show t.length=t.length from rfl),dT (show (t++[Nat.toUInt8 46]).length < 2147483648 by rw [<- hl1]; omega)] at hk
    have hs:=SEB.of_KP (A:=A) (B0:=Bb) (e:=.normal) (sp:=onX s1 sE) D6 D7 hp (.none _) hB hk (okx _)
    have hn:=ih (r*10 % d) (i+1) (t++[Nat.toUInt8 46]++itoa ((r*10 / d:Nat):Int)) (Nat.mod_lt _ hd) (A4c hdv) (by omega) (by omega) (by rw [List.length_append,hq1,<- hl1]; omega)
    have et:t++U1 i d (K+1) r=t++[Nat.toUInt8 46]++itoa ((r*10 / d:Nat):Int)++U1 (i+1) d K (r*10 % d):=by
     unfold U1
     rw [if_pos ⟨hi1,h0⟩,if_neg (by omega),A0s h0,List.nil_append]
     simp only [List.append_assoc]
     rfl
    rw [et]
    exact SEB.loop_next hs hn
   ·have e1:((i:Int) == 1)=false:=by rw [beq_eq_false_iff_ne]; omega
    rw [e1,I4,hgt,E5,em2,D4j hb2 hd hb1 rfl (by rw [hq1]; omega),hW] at hk
    have hs:=SEB.of_KP (A:=A) (B0:=Bb) (e:=.normal) (sp:=onX s1 sE) D6 D7 hp (.none _) hB hk (okx _)
    have hn:=ih (r*10 % d) (i+1) (t++itoa ((r*10 / d:Nat):Int)) (Nat.mod_lt _ hd) (A4c hdv) (by omega) (by omega) (by rw [List.length_append,hq1]; omega)
    have et:t++U1 i d (K+1) r=t++itoa ((r*10 / d:Nat):Int)++U1 (i+1) d K (r*10 % d):=by
     unfold U1
     rw [if_neg (by omega),if_neg (by omega),A0s h0,List.nil_append,List.nil_append]
     simp only [List.append_assoc]
    rw [et]
    exact SEB.loop_next hs hn
end Go.Proofs.Tryz
namespace Go.Proofs.Tryz
open Go.Ad
open Go.Lib (decDigits itoa nDigits decFrom digitVal)
def txD (g n d:List UInt8):List UInt8:=g++(itoa (((A7 n).toNat / (A7 d).toNat:Nat):Int)++B0m (A7 d).toNat ((A7 n).toNat % (A7 d).toNat))
def C6t (n d:List UInt8):Prop:=isZ n/\isZ d/\0<=A7 n/\0 < A7 d/\n.length<=1000/\d.length<=1000/\strip 5 (strip 2 (A7 d).toNat)=1
def G8e:List Lf->Tr (AEx × SP × List Lf)
 | [.s n,.s d]=>.br (A9 (C6t n d)) (.leaf (.normal,sAE,[.n (txD [] n d).length,.s (txD [] n d)])) .fail
 | _=>.fail
def G5f:List Lf->Tr (AEx × SP × List Lf)
 | [.s n,.s d,.n k,.s t]=>.br (A9 (C6t n d/\k=t.length/\t.length<=1)) (.leaf (.normal,sBE,[.n (txD t n d).length,.s (txD t n d)])) .fail
 | _=>.fail
theorem D9u {n d:List UInt8} (h:C6t n d):∃ N D:Nat,n=itoa (N:Int)/\d=itoa (D:Int)/\N < 10 ^ 1000/\D < 10 ^ 1000/\0 < D/\D ∣ 10 ^ (4*(itoa (D:Int)).length)/\(itoa (D:Int)).length<=1000/\(itoa (N:Int)).length<=1000:=by
 obtain ⟨z1,z2,h1,h2,h3,h4,h5⟩:=h
 obtain ⟨N,hN⟩:∃ N:Nat,A7 n=N:=⟨(A7 n).toNat,by omega⟩
 obtain ⟨D,hD⟩:∃ D:Nat,A7 d=D:=⟨(A7 d).toNat,by omega⟩
 unfold isZ at z1 z2
 rw [hN] at z1
 rw [hD] at z2 h2 h5
 rw [Int.toNat_natCast] at h5
 have l1:=V9 N
 have l2:=V9 D
 rw [<- z1] at l1
 rw [<- z2] at l2
 refine ⟨N,D,z1,z2,A2g 1000 l1 h3,A2g 1000 l2 h4,by omega,C5x (by omega) h5,by rw [<- z2]; exact h4,by rw [<- z1]; exact h3⟩
theorem C2w (d r:Nat):U1 1 d (4*(itoa (d:Int)).length) r=B0m d r:=by
 unfold U1 B0m
 by_cases h:r=0
 ·rw [if_neg (by simp [h]),if_pos h,h,A0q]; rfl
 ·rw [if_pos ⟨rfl,h⟩,if_neg h]; rfl
theorem F8g {A:Amb} {s0 s1 sE:SP} {m:Nat} {ds:List Nat} {prims:Prims} {l0:List UInt8->List UInt8->List Lf} {t:List UInt8} (ht:t.length<=1) (hp:PrimOK prog A prims) (ok1:okD m ds 0 s1.h=true) (okE:okD m ds 0 sE.h=true)
  (h0:∀ n d,F3 prog (C9 prog prims 60) F8 A5g (s0.rho (l0 n d)) (s0.heap (l0 n d)) (H5 (onX s1 sE) m ds)=wrS n d 1 t.length t)
  (hr:∀ n d i k t,F3 prog (C9 prog prims 60) F8 A5g (s1.rho [.s n,.s d,.i i,.n k,.s t]) (s1.heap [.s n,.s d,.i i,.n k,.s t]) (H5 (onX s1 sE) m ds)=E3j n d i k t)
  {Bb:Heap} (hB:Bb.length=m) {n d:List UInt8} (h:C6t n d) :
  SEB prog A Bb (.loop A5g) ⟨s0.rho (l0 n d),s0.heap (l0 n d),ds⟩ (.exit 1) ⟨sE.rho [.n (txD t n d).length,.s (txD t n d)],sE.heap [.n (txD t n d).length,.s (txD t n d)],ds⟩:=by
 have okx:∀ e,okD m ds 0 (onX s1 sE e).h=true:=fun e=>by unfold onX; split <;> assumption
 obtain ⟨N,D,rfl,rfl,h1,h2,h3,h4,h5,h6⟩:=D9u h
 have hk:=h0 (itoa (N:Int)) (itoa (D:Int))
 have hle:(itoa ((N / D:Nat):Int)).length<=1000:=Nat.le_trans (A2p (Nat.div_le_self _ _)) h6
 rw [D4j (A2g 1024 h1 (by decide)) h3 (A2g 1024 h2 (by decide)) rfl (by omega)] at hk
 have hs:=SEB.of_KP (A:=A) (B0:=Bb) (e:=.normal) (sp:=onX s1 sE) D6 D7 hp (.none _) hB hk (okx _)
 have hn:=G3x (A:=A) hp ok1 okE hr hB h3 h2 (4*(itoa (D:Int)).length) (N % D) 1 (t++itoa ((N / D:Nat):Int)) (Nat.mod_lt _ h3) (Nat.dvd_trans h4 (Nat.dvd_mul_left _ _)) (by omega) (by omega) (by rw [List.length_append]; omega)
 rw [C2w] at hn
 have et:txD t (itoa (N:Int)) (itoa (D:Int))=t++itoa ((N / D:Nat):Int)++B0m D (N % D):=by
  unfold txD
  rw [C8,C8,Int.toNat_natCast,Int.toNat_natCast,List.append_assoc]
 rw [et]
 exact SEB.loop_next hs hn
def F2p:Blk:=fun ρ B=>match hookP sA0 9 [8] G8e ρ B with
 | .fail=>hookP sB0 10 [8,9] G5f ρ B
 | t=>t
def G2o:Prims:=pD1.addb 18 1 F2p
theorem F7h {A:Amb} (hT:Tab A) (hG:gN prog<=A.G):PrimOK prog A G2o:=by
 have hp:=E4w hT hG
 refine PrimOK.addb hp func18 (show f18.body=some E6n by kernel_rfl) (body:=.loop A5g) (by kernel_rfl) fun ρ B e ρ' B' D h=>?_
 unfold F2p at h
 split at h
 ·refine O8 rfl (fun ls e sq l h=>?_) ρ B e ρ' B' D h
  unfold G5f at h
  split at h
  ·rename_i n d k t
   obtain ⟨hc,hv⟩:=Tr.br1 h
   cases hv
   obtain ⟨h1,rfl,h2⟩:=D9 hc
   exact ⟨⟨.inr rfl,.inr rfl,.inr rfl,.inr rfl,.inr rfl,.inr rfl,.inr rfl,.inr rfl,.inl rfl,.inl rfl,trivial⟩,fun Bb hB=>SEB.block_exit (id:=1) (F8g (s0:=sB0) (l0:=fun n d=>[.s n,.s d,.n t.length,.s t]) h2 hp rfl rfl (fun n d=>rB0 n d t t.length) rB1 hB h1)⟩
  ·cases h
 ·refine O8 rfl (fun ls e sq l h=>?_) ρ B e ρ' B' D h
  unfold G8e at h
  split at h
  ·rename_i n d
   obtain ⟨hc,hv⟩:=Tr.br1 h
   cases hv
   exact ⟨⟨.inr rfl,.inr rfl,.inr rfl,.inr rfl,.inr rfl,.inr rfl,.inr rfl,.inr rfl,.inl rfl,trivial⟩,fun Bb hB=>SEB.block_exit (id:=1) (F8g (s0:=sA0) (l0:=fun n d=>[.s n,.s d]) (t:=[]) (by simp) hp rfl rfl rA0 rA1 hB (D9 hc))⟩
  ·cases h
abbrev F6f (t:List UInt8):Option (List Lf):=brK (decide ((t.length:Int)=(t.length:Int)/\t.length=t.length/\t.length < 2147483648)) (some [.s t,.i 0]) none
abbrev G0z (n d:List UInt8):Option (List Lf):=brK (A9 (C6t n d)) (F6f (txD [] n d)) none
abbrev G5w (n d:List UInt8):Option (List Lf):=brK (A9 (C6t n d/\1=([45]:List UInt8).length/\([45]:List UInt8).length<=1)) (F6f (txD [45] n d)) none
abbrev D4z (a n d:List UInt8) (e:Int):Option (List Lf) :=
 brK (szH a) (brK (e != 0) (some [.s [],.i e]) (brK (A9 (D5 d=0/\0 < A7 d)) (brK (!decide (strip 5 (strip 2 (A7 d).toNat)=1)) (some [.s [],.i 14])
  (brK (decide ((n.length:Int) >= 1)) (brK (decide ((0:Int)<=1/\(1:Int)<=(n.length:Int)) && true) (brK (!((n.take 1).drop 0 == [45])) (G0z n d)
   (brK (true && decide ((0:Int)<=1/\(1:Int)<=(n.length:Int))) (G5w ((n.take n.length).drop 1) d) none)) none) (G0z n d))) none)) none
theorem G7m (a:List UInt8):(C9 prog G2o 60).call 18 (spS1.rho [.s a]) (spS1.heap [.s a]) (V7 A1s 8 [])=D4z a (A4o a).1.1 (A4o a).1.2 (A4o a).2:=by kernel_rfl
theorem F4x {α:Type} {c:Bool} {x y:Option α}:brK (!c) x y=brK c y x:=by cases c <;> rfl
theorem D7b {t:List UInt8} (h:t.length < 100000):F6f t=some [.s t,.i 0]:=by
 unfold F6f
 rw [dT (show (t.length:Int)=(t.length:Int)/\t.length=t.length/\t.length < 2147483648 from ⟨rfl,rfl,by omega⟩)]; rfl
theorem D8w {g n d:List UInt8} (hg:g.length<=1) (h:C6t n d):(txD g n d).length < 100000:=by
 obtain ⟨N,D,rfl,rfl,h1,h2,h3,h4,h5,h6⟩:=D9u h
 have hle:(itoa ((N / D:Nat):Int)).length<=1000:=Nat.le_trans (A2p (Nat.div_le_self _ _)) h6
 have hf:(B0m D (N % D)).length<=4001:=by
  unfold B0m
  split
  ·simp
  ·have:=C9w h3 (4*(itoa (D:Int)).length) (N % D) (Nat.mod_lt _ h3)
   rw [List.length_cons]; omega
 unfold txD
 rw [C8,C8,Int.toNat_natCast,Int.toNat_natCast,List.length_append,List.length_append]
 omega
theorem C2p {N:Int} (h:N < 0):((itoa N).take (itoa N).length).drop 1=itoa ((N.natAbs:Nat):Int):=by
 rw [List.take_length]
 unfold itoa
 rw [if_pos h,if_neg (by omega)]
 rfl
theorem E3e {a:List UInt8} (h:a.length<=900):D4z a (A4o a).1.1 (A4o a).1.2 (A4o a).2=some [.s (A5o a).1,.i (A5o a).2]:=by
 unfold D4z A5o A4o
 have hz:szH a=true:=dT (by omega)
 rw [hz,E5]
 by_cases h0:A0e a=0
 ·rw [if_neg (by simpa using h0),if_neg (by simpa using h0)]
  obtain ⟨e1,e2,e3,e4⟩:=B7p h0
  obtain ⟨l1,l2⟩:=C0r a
  generalize (F9 a).1=n at *
  generalize (F9 a).2.1=d at *
  dsimp only
  rw [show ((0:Int) != 0)=false from rfl,I4,A8 ⟨e2,by omega⟩,E5]
  by_cases hs:strip 5 (strip 2 (A7 d).toNat)=1
  ·rw [if_neg (by simpa using hs),dT hs,show (!true)=false from rfl,I4,F4x,B8v e1]
   have zd:=O0 e2
   have zn:=O0 e1
   have hbt:(true && decide ((0:Int)<=1/\(1:Int)<=(n.length:Int)))=true \/ n=[]:=by
    cases n with
    | nil=>exact .inr rfl
    | cons b r=>exact .inl (by rw [dT (show (0:Int)<=1/\(1:Int)<=((List.length (b :: r):Nat):Int) by simp; omega)]; rfl)
   have hne:n ≠ []:=fun e=>by rw [e] at e1; revert e1; decide
   have hbt:=hbt.resolve_right hne
   by_cases hm:A7 n < 0
   ·rw [if_pos hm,hbt,E5]
    have hdr:(n.take n.length).drop 1=itoa (((A7 n).natAbs:Nat):Int):=by
     have:=C2p hm
     rwa [<- zn] at this
    rw [hdr]
    have hln:(itoa (((A7 n).natAbs:Nat):Int)).length<=1000:=by
     rw [<- hdr,List.length_drop,List.take_length]; omega
    have hok:C6t (itoa (((A7 n).natAbs:Nat):Int)) d:=⟨I7 _,zd,by rw [C8]; exact Int.natCast_nonneg _,by omega,hln,by omega,hs⟩
    unfold G5w
    rw [A8 ⟨hok,rfl,by decide⟩,E5,D7b (D8w (by decide) hok)]
    unfold txD D6g
    rw [if_pos hm,C8,Int.toNat_natCast]
   ·rw [if_neg hm]
    have hok:C6t n d:=⟨zn,zd,by omega,by omega,by omega,by omega,hs⟩
    unfold G0z
    rw [A8 hok,E5,D7b (D8w (by decide) hok)]
    unfold txD D6g
    rw [if_neg hm,show (A7 n).natAbs=(A7 n).toNat by omega]
  ·rw [if_pos hs,dF hs]; rfl
 ·rw [if_pos h0,if_pos h0]
  dsimp only
  rw [show (A0e a != 0)=true by simpa using h0]; rfl
def T29:List Lf->Tr (SP × List Lf)
 | [.s a]=>.br (decide (a.length<=900)) (.leaf (A1s,[.s (A5o a).1,.i (A5o a).2])) .fail
 | _=>.fail
def pD2:Prims:=pD1.addh 18 (H9 8 (funQ spS1 8 [] T29))
theorem G2n {A:Amb} (hT:Tab A) (hG:gN prog<=A.G):PrimOK prog A pD2:=by
 refine (E4w hT hG).addl gsz func18 (by kernel_rfl) (J7 D6 D7 rfl fun ls sq l h=>?_)
 unfold T29 at h
 split at h
 ·rename_i a
  obtain ⟨hc,hv⟩:=Tr.br1 h
  cases hv
  exact ⟨⟨.inr rfl,.inr rfl,.inr rfl,.inr rfl,.inr rfl,.inr rfl,.inr rfl,.inr rfl,trivial⟩,rfl,G2o,60,_,F7h hT hG,(G7m a).trans (E3e (of_decide_eq_true hc)),fun _ _=>.refl⟩
 ·cases h
end Go.Proofs.Tryz
namespace Go.Proofs.Tryz
open Go.Ad
open Go.Lib (decDigits itoa nDigits decFrom digitVal)
def pDr:Prims:=pV1.over pD2
theorem D5n {A:Amb} (hT:Tab A) (hG:gN prog<=A.G):PrimOK prog A pDr:=(G2f hT hG).over (G2n hT hG)
def C5b:Code:=f50.body.getD .skip
def C1s:Code:=J3 (K6 2 C5b)
def D3o:Code:=J3 (K6 4 C5b)
def D7x:OP:=.cells [.is (.str [50]),.is (.str [53])] 1 true 83
def tFj (k:Int) (c:UInt8) (x:Pt):List Pt:=dr 5++[.str,.str,.str,.str]++dr 1++[.is (.str [c]),x,x]++dr 20++[.is (.slice (some (8,0)) 2 2),.is (.int .i64 2),.is (.int .i64 k)]++dr 49
def B2o (k:Int) (c:UInt8):SP:=⟨tFj k c .str,dd8++[D7x]⟩
def D9l (k:Int) (c:UInt8):SP:=⟨tFj k c .drop,dd8++[D7x]⟩
def G4d (k:Int) (c:UInt8):AEx->SP
 | .exit 2=>D9l k c
 | _=>B2o k c
abbrev F5m (g n d l q r p:List UInt8):Option (AEx × List Lf) :=
 brK (r == [48]) (brK (A9 (M0 q/\M0 p/\A7 p ≠ 0)) (some (.normal,[.s g,.s n,.s d,.s q,.s (itoa ((A7 q).fdiv (A7 p))),.s (itoa ((A7 q).fmod (A7 p)))])) none) (some (.exit 2,[.s g,.s n,.s d,.s l]))
theorem E9y (g n d l q r:List UInt8):F3 prog (C9 prog pDr 60) F8 C1s ((B2o 0 50).rho [.s g,.s n,.s d,.s l,.s q,.s r]) ((B2o 0 50).heap [.s g,.s n,.s d,.s l,.s q,.s r]) (H5 (G4d 0 50) 9 [])=F5m g n d l q r [50]:=by kernel_rfl
theorem F1w (g n d l q r:List UInt8):F3 prog (C9 prog pDr 60) F8 C1s ((B2o 1 53).rho [.s g,.s n,.s d,.s l,.s q,.s r]) ((B2o 1 53).heap [.s g,.s n,.s d,.s l,.s q,.s r]) (H5 (G4d 1 53) 9 [])=F5m g n d l q r [53]:=by kernel_rfl
def spDj:SP:=⟨dr 7++[.str]++dr 6++[.str,.str,.int .i64]++dr 68,dd8++[D7x]⟩
def spDjE:SP:=⟨dr 15++[.str]++dr 69,dd8++[D7x]⟩
def F9t:AEx->SP
 | .exit 4=>spDjE
 | _=>spDj
abbrev F4q (d r u:List UInt8) (i:Int):Option (AEx × List Lf) :=
 brK (A9 (zOK r/\zOK [49,48])) (brK (A9 (M0 (itoa (A7 r*A7 [49,48]))/\M0 d/\A7 d ≠ 0)) (brK (decide (u.length+(itoa ((A7 (itoa (A7 r*A7 [49,48]))).fdiv (A7 d))).length < 4611686018427387904))
  (some (.normal,[.s d,.s (itoa ((A7 (itoa (A7 r*A7 [49,48]))).fmod (A7 d))),.s (u++itoa ((A7 (itoa (A7 r*A7 [49,48]))).fdiv (A7 d))),.i (W (i+1))])) none) none) none
abbrev G1h (d r s:List UInt8) (i:Int):Option (AEx × List Lf) :=
 brK (!(r == [48])) (brK (i == 0) (brK (decide (s.length+1 < 4611686018427387904)) (F4q d r (s++[46]) i) none) (F4q d r s i)) (some (.exit 4,[.s s]))
theorem D9m (d r s:List UInt8) (i:Int):F3 prog (C9 prog pDr 60) F8 D3o (spDj.rho [.s d,.s r,.s s,.i i]) (spDj.heap [.s d,.s r,.s s,.i i]) (H5 F9t 9 [])=G1h d r s i:=by kernel_rfl
theorem C3z (n q:Nat):(n:Int).fdiv (q:Int)=((n / q:Nat):Int):=by rw [Int.fdiv_eq_ediv_of_nonneg _ (Int.natCast_nonneg _)]; rfl
theorem D8b (n q:Nat):(n:Int).fmod (q:Int)=((n % q:Nat):Int):=by rw [Int.fmod_eq_emod_of_nonneg _ (Int.natCast_nonneg _)]; rfl
theorem C7t {n m:Nat} (h:M0 (itoa (n:Int))) (hm:m<=n):M0 (itoa (m:Int)):=⟨I7 _,Nat.lt_of_le_of_lt (A2p hm) h.2⟩
def TFj (k:Int) (c:UInt8) (q:Nat):List Lf->Tr (AEx × SP × List Lf)
 | [.s g,.s n,.s d,.s l,.s x,.s r]=>.br (A9 (M0 l/\0 < A7 l/\x=itoa ((A7 l).fdiv (q:Int))/\r=itoa ((A7 l).fmod (q:Int)))) (.leaf (.normal,D9l k c,[.s g,.s n,.s d,.s (itoa ((strip q (A7 l).toNat:Nat):Int))])) .fail
 | _=>.fail
theorem F2o {A:Amb} {k:Int} {c:UInt8} {q:Nat} {prims:Prims} (hp:PrimOK prog A prims) (h2:2<=q) (hc:[c]=itoa (q:Int))
  (hr:∀ g n d l x r:List UInt8,F3 prog (C9 prog prims 60) F8 C1s ((B2o k c).rho [.s g,.s n,.s d,.s l,.s x,.s r]) ((B2o k c).heap [.s g,.s n,.s d,.s l,.s x,.s r]) (H5 (G4d k c) 9 [])=F5m g n d l x r [c]) :
  ∀ ls e sq l,(TFj k c q ls).get=some (e,sq,l)->frP [] 0 ((B2o k c).heap ls) (sq.heap l)/\∀ Bb:Heap,Bb.length=9->SEB prog A Bb (.block 2 (.loop C1s)) ⟨(B2o k c).rho ls,(B2o k c).heap ls,[]⟩ e ⟨sq.rho l,sq.heap l,[]⟩:=fun ls e sq l h=>by
 unfold TFj at h
 split at h
 ·rename_i g n d l x r
  obtain ⟨hcc,hv⟩:=Tr.br1 h
  cases hv
  obtain ⟨ha,h0,rfl,rfl⟩:=D9 hcc
  refine ⟨⟨.inr rfl,.inr rfl,.inr rfl,.inr rfl,.inr rfl,.inr rfl,.inr rfl,.inr rfl,.inr rfl,trivial⟩,fun Bb hB=>SEB.block_exit (id:=2) ?_⟩
  have ea:=ha.1
  unfold isZ at ea
  obtain ⟨m,hm⟩:∃ m:Nat,A7 l=m:=⟨(A7 l).toNat,by omega⟩
  rw [hm] at ea h0 ⊢
  subst ea
  rw [Int.toNat_natCast,C3z,D8b]
  refine SEB.while (fun m:Nat=>0 < m/\M0 (itoa (m:Int))) (fun m=>m) (fun m=>⟨(B2o k c).rho [.s g,.s n,.s d,.s (itoa (m:Int)),.s (itoa ((m / q:Nat):Int)),.s (itoa ((m % q:Nat):Int))],(B2o k c).heap [.s g,.s n,.s d,.s (itoa (m:Int)),.s (itoa ((m / q:Nat):Int)),.s (itoa ((m % q:Nat):Int))],[]⟩)
   (fun m=>(.exit 2,⟨(D9l k c).rho [.s g,.s n,.s d,.s (itoa ((strip q m:Nat):Int))],(D9l k c).heap [.s g,.s n,.s d,.s (itoa ((strip q m:Nat):Int))],[]⟩)) (fun m hm=>?_) m ⟨by omega,ha⟩
  obtain ⟨n0,n1⟩:=hm
  have hk:=hr g n d (itoa (m:Int)) (itoa ((m / q:Nat):Int)) (itoa ((m % q:Nat):Int))
  unfold F5m at hk
  rw [Q9] at hk
  by_cases hm:m % q=0
  ·have hz:M0 [c]:=by rw [hc]; exact ⟨I7 _,by rw [<- hc]; exact (by decide:(1:Nat) < 2 ^ 24)⟩
   rw [dT (show ((m % q:Nat):Int)=0 by omega),E5,hc,C8,C8,C3z,D8b,<- hc,A8 ⟨C7t n1 (Nat.div_le_self _ _),hz,by omega⟩] at hk
   left
   refine ⟨m / q,⟨A1r h2 n0 hm,C7t n1 (Nat.div_le_self _ _)⟩,A6b h2 n0,?_,SEB.of_KP (A:=A) (B0:=Bb) (e:=.normal) D6 D7 hp (.none _) hB hk rfl⟩
   simp only [A7a h2 n0 hm]
  ·rw [dF (show ¬ ((m % q:Nat):Int)=0 by omega),I4] at hk
   right
   refine ⟨by simp,?_⟩
   simp only [A9p hm]
   exact SEB.of_KP (A:=A) (B0:=Bb) (e:=.exit 2) D6 D7 hp (.none _) hB hk rfl
 ·cases h
def E8h:Blk:=fun ρ B=>match ρ.getD 35 .bad with
 | .int _ 0=>hookP (B2o 0 50) 9 [] (TFj 0 50 2) ρ B
 | _=>hookP (B2o 1 53) 9 [] (TFj 1 53 5) ρ B
theorem F9r {A:Amb} (hT:Tab A) (hG:gN prog<=A.G) {Bb:Heap} (hB:Bb.length=9) {d:Nat} (hd:0 < d) (hD:d < 10 ^ 1000) :
  ∀ (K r i:Nat) (t:List UInt8),r < d->d ∣ r*10 ^ K->i+K < 100000->t.length+2*K < 100000 ->
   SEB prog A Bb (.loop D3o) ⟨spDj.rho [.s (itoa (d:Int)),.s (itoa (r:Int)),.s t,.i i],spDj.heap [.s (itoa (d:Int)),.s (itoa (r:Int)),.s t,.i i],[]⟩ (.exit 4)
    ⟨spDjE.rho [.s (t++U1 (i+1) d K r)],spDjE.heap [.s (t++U1 (i+1) d K r)],[]⟩:=by
 have hp:=D5n hT hG
 intro K
 induction K with
 | zero =>
  intro r i t hr0 hdv hi2 ht
  have h0:=B4p hdv hr0
  subst h0
  have hk:=D9m (itoa (d:Int)) (itoa ((0:Nat):Int)) t i
  have e0:(!(itoa ((0:Nat):Int) == [48]))=false:=by rw [Q9]; rfl
  unfold G1h at hk
  rw [e0,I4] at hk
  have et:U1 (i+1) d 0 0=[]:=by unfold U1 A3y; rw [if_neg (by simp)]; rfl
  rw [et,List.append_nil]
  exact SEB.loop_exit (SEB.of_KP (A:=A) (B0:=Bb) (e:=.exit 4) D6 D7 hp (.none _) hB hk rfl) (by simp)
 | succ K ih =>
  intro r i t hr0 hdv hi2 ht
  have hk:=D9m (itoa (d:Int)) (itoa (r:Int)) t i
  unfold G1h at hk
  by_cases h0:r=0
  ·subst h0
   have e0:(!(itoa ((0:Nat):Int) == [48]))=false:=by rw [Q9]; rfl
   rw [e0,I4] at hk
   have et:U1 (i+1) d (K+1) 0=[]:=by unfold U1; rw [A0q,if_neg (by simp)]; rfl
   rw [et,List.append_nil]
   exact SEB.loop_exit (SEB.of_KP (A:=A) (B0:=Bb) (e:=.exit 4) D6 D7 hp (.none _) hB hk rfl) (by simp)
  ·have e0:(!(itoa (r:Int) == [48]))=true:=by rw [Q9,dF (by omega)]; rfl
   have hp10:=C1u 1001 1000 rfl
   have hb2:r*10 < 10 ^ 1001:=by
    rw [hp10]
    generalize (10:Nat) ^ 1000=Z at *
    omega
   have hz:∀ {n:Nat} {k:Nat},n < 10 ^ k->1<=k->k<=1001->M0 (itoa (n:Int)):=fun {n k} h h1 h2=>⟨I7 _,Nat.lt_of_le_of_lt (U3 h h1) (Nat.lt_of_le_of_lt h2 (by decide))⟩
   have zr:=hz (Nat.lt_trans hr0 hD) (by decide) (by decide)
   have zd:=hz hD (by decide) (by decide)
   have zr10:=hz hb2 (by decide) (by decide)
   have z10:zOK [49,48]:=by rw [<- C6a]; exact A3n (n:=10) (k:=2) (by decide) (by decide) (by decide)
   have hq:=X9 hd hr0
   have hq1:(itoa ((r*10 / d:Nat):Int)).length=1:=by rw [A4l hq]; rfl
   have hW:W ((i:Int)+1)=((i+1:Nat):Int):=by rw [R4 (by omega) (by omega)]; omega
   have hd0:((d:Nat):Int) ≠ 0:=by omega
   have tl:∀ u:List UInt8,u.length < 200000->F4q (itoa (d:Int)) (itoa (r:Int)) u i=some (.normal,[.s (itoa (d:Int)),.s (itoa ((r*10 % d:Nat):Int)),.s (u++itoa ((r*10 / d:Nat):Int)),.i ((i+1:Nat):Int)]):=fun u hu=>by
    unfold F4q
    rw [C8,B7r,show (r:Int)*10=((r*10:Nat):Int) by omega,C8,C8,C3z,D8b,hW,A8 ⟨A3f (Y5 zr),z10⟩,A8 ⟨zr10,zd,hd0⟩,hq1,dT (show u.length+1 < 4611686018427387904 by omega)]
    rfl
   rw [e0,E5] at hk
   by_cases hi1:i=0
   ·have e1:((i:Int) == 0)=true:=by rw [beq_iff_eq]; omega
    have hl1:(t++[46]).length=t.length+1:=by rw [List.length_append]; rfl
    rw [e1,E5,dT (show t.length+1 < 4611686018427387904 by omega),E5,tl _ (by omega)] at hk
    have hs:=SEB.of_KP (A:=A) (B0:=Bb) (e:=.normal) (sp:=F9t) D6 D7 hp (.none _) hB hk rfl
    have hn:=ih (r*10 % d) (i+1) (t++[46]++itoa ((r*10 / d:Nat):Int)) (Nat.mod_lt _ hd) (A4c hdv) (by omega) (by rw [List.length_append,hq1,hl1]; omega)
    have et:t++U1 (i+1) d (K+1) r=t++[46]++itoa ((r*10 / d:Nat):Int)++U1 (i+1+1) d K (r*10 % d):=by
     unfold U1
     rw [if_pos ⟨by omega,h0⟩,if_neg (by omega),A0s h0,List.nil_append]
     simp only [List.append_assoc]
    rw [et]
    exact SEB.loop_next hs hn
   ·have e1:((i:Int) == 0)=false:=by rw [beq_eq_false_iff_ne]; omega
    rw [e1,I4,tl _ (by omega)] at hk
    have hs:=SEB.of_KP (A:=A) (B0:=Bb) (e:=.normal) (sp:=F9t) D6 D7 hp (.none _) hB hk rfl
    have hn:=ih (r*10 % d) (i+1) (t++itoa ((r*10 / d:Nat):Int)) (Nat.mod_lt _ hd) (A4c hdv) (by omega) (by rw [List.length_append,hq1]; omega)
    have et:t++U1 (i+1) d (K+1) r=t++itoa ((r*10 / d:Nat):Int)++U1 (i+1+1) d K (r*10 % d):=by
     unfold U1
     rw [if_neg (by omega),if_neg (by omega),A0s h0,List.nil_append,List.nil_append]
     simp only [List.append_assoc]
    rw [et]
    exact SEB.loop_next hs hn
def F9p:Blk:=hookP spDj 9 [] fun
 | [.s d,.s r,.s s,.i i]=>.br (A9 (i=0/\isZ d/\isZ r/\0<=A7 r/\A7 r < A7 d/\d.length<=1000/\s.length<=1001/\strip 5 (strip 2 (A7 d).toNat)=1)) (.leaf (.normal,spDjE,[.s (s++B0m (A7 d).toNat (A7 r).toNat)])) .fail
 | _=>.fail
def G1n:Prims:=(pDr.addb 50 2 E8h).addb 50 4 F9p
theorem F4v {A:Amb} (hT:Tab A) (hG:gN prog<=A.G):PrimOK prog A G1n:=by
 have hp:=D5n hT hG
 refine PrimOK.addbP (PrimOK.addb hp func50 (show f50.body=some C5b by kernel_rfl) (body:=.loop C1s) (by kernel_rfl) fun ρ B e ρ' B' D h=>?_) func50 (show f50.body=some C5b by kernel_rfl) (body:=.loop D3o) (by kernel_rfl) (by kernel_rfl) fun ls e sq l h=>?_
 ·unfold E8h at h
  split at h
  ·exact O8 rfl (F2o hp (by decide) D3j E9y) ρ B e ρ' B' D h
  ·exact O8 rfl (F2o hp (by decide) D6m F1w) ρ B e ρ' B' D h
 ·split at h
  ·rename_i d r s i
   obtain ⟨hc,hv⟩:=Tr.br1 h
   cases hv
   obtain ⟨rfl,z1,z2,h1,h2,h3,h4,h5⟩:=D9 hc
   obtain ⟨D,hD⟩:∃ D:Nat,A7 d=D:=⟨(A7 d).toNat,by omega⟩
   obtain ⟨R,hR⟩:∃ R:Nat,A7 r=R:=⟨(A7 r).toNat,by omega⟩
   unfold isZ at z1 z2
   rw [hD] at z1 h2 h5 ⊢
   rw [hR] at z2 h1 h2 ⊢
   rw [Int.toNat_natCast] at h5
   rw [Int.toNat_natCast,Int.toNat_natCast]
   subst z1 z2
   have hlt:D < 10 ^ 1000:=A2g 1000 (V9 D) h3
   refine ⟨⟨.inr rfl,.inr rfl,.inr rfl,.inr rfl,.inr rfl,.inr rfl,.inr rfl,.inr rfl,.inr rfl,trivial⟩,fun Bb hB=>SEB.block_exit (id:=4) ?_⟩
   have:=F9r hT hG hB (d:=D) (by omega) hlt (4*(itoa (D:Int)).length) R 0 s (by omega) (Nat.dvd_trans (C5x (by omega) h5) (Nat.dvd_mul_left _ _)) (by omega) (by omega)
   rw [C2w] at this
   exact this
  ·cases h
end Go.Proofs.Tryz
namespace Go.Proofs.Tryz
open Go.Ad
open Go.Lib (decDigits itoa nDigits decFrom digitVal)
abbrev H0a (g n d:List UInt8):Option (List Lf) :=
 brK (A9 (M0 n/\M0 d/\A7 d ≠ 0)) (brK (decide (g.length+(itoa ((A7 n).fdiv (A7 d))).length < 4611686018427387904))
  (brK (A9 ((0:Int)=0/\isZ d/\isZ (itoa ((A7 n).fmod (A7 d)))/\0<=A7 (itoa ((A7 n).fmod (A7 d)))/\A7 (itoa ((A7 n).fmod (A7 d))) < A7 d/\d.length<=1000/\(g++itoa ((A7 n).fdiv (A7 d))).length<=1001/\strip 5 (strip 2 (A7 d).toNat)=1))
   (some [.s (g++itoa ((A7 n).fdiv (A7 d))++B0m (A7 d).toNat (A7 (itoa ((A7 n).fmod (A7 d)))).toNat),.i 0]) none) none) none
abbrev F7g (d p:List UInt8) (q:Nat) (k:Option (List Lf)):Option (List Lf) :=
 brK (A9 (M0 d/\M0 p/\A7 p ≠ 0)) (brK (A9 (M0 d/\0 < A7 d/\itoa ((A7 d).fdiv (A7 p))=itoa ((A7 d).fdiv (q:Int))/\itoa ((A7 d).fmod (A7 p))=itoa ((A7 d).fmod (q:Int)))) k none) none
abbrev F6c (g n d:List UInt8):Option (List Lf) :=
 F7g d [50] 2 (F7g (itoa ((strip 2 (A7 d).toNat:Nat):Int)) [53] 5 (brK (!(itoa ((strip 5 (A7 (itoa ((strip 2 (A7 d).toNat:Nat):Int))).toNat:Nat):Int) == [49])) (some [.s [],.i 14]) (H0a g n d)))
abbrev D4a (a:List UInt8):Option (List Lf) :=
 brK (szH a) (brK (A0e a != 0) (some [.s [],.i (A0e a)]) (brK (A9 (F4 a=true/\A2y (F9 a).1)) (brK (decide (K7 (A7 (F9 a).1) < 0))
  (brK (A9 (A0e a=0/\szH a=true)) (brK (F4 (Z9 (-A7 (F9 a).1) (A7 (F9 a).2.1))) (F6c [45] (F9 (Z9 (-A7 (F9 a).1) (A7 (F9 a).2.1))).1 (F9 (Z9 (-A7 (F9 a).1) (A7 (F9 a).2.1))).2.1) none) none)
  (brK (F4 a) (F6c [] (F9 a).1 (F9 a).2.1) none)) none)) none
theorem G9e (a:List UInt8):(C9 prog G1n 60).call 50 (spS1.rho [.s a]) (spS1.heap [.s a]) (V7 A1s 8 [])=D4a a:=by kernel_rfl
theorem G1l:A7 [50]=((2:Nat):Int):=by rw [D3j,C8]
theorem G2j:A7 [53]=((5:Nat):Int):=by rw [D6m,C8]
theorem D7i {d p:List UInt8} {q:Nat} {k:Option (List Lf)} (hd:M0 d) (h0:0 < A7 d) (hp:M0 p) (hq:A7 p=(q:Int)) (h2:q ≠ 0):F7g d p q k=k:=by
 unfold F7g
 rw [hq,A8 ⟨hd,hp,by omega⟩,A8 ⟨hd,h0,rfl,rfl⟩]; rfl
theorem D8x {g n d:List UInt8} (hg:g.length<=1) (en:D5 n=0) (ed:D5 d=0) (h0:0<=A7 n) (h1:1<=A7 d) (ln:n.length<=1000) (ld:d.length<=1000) :
  F6c g n d=if strip 5 (strip 2 (A7 d).toNat)=1 then some [.s (txD g n d),.i 0] else some [.s [],.i 14]:=by
 have zn:=O0 en
 have zd:=O0 ed
 have pn:=R7 en
 have pd:=R7 ed
 obtain ⟨D,hD⟩:∃ D:Nat,A7 d=D:=⟨(A7 d).toNat,by omega⟩
 obtain ⟨N,hN⟩:∃ N:Nat,A7 n=N:=⟨(A7 n).toNat,by omega⟩
 obtain ⟨s1,s2,_⟩:=A3m (p:=2) (by decide) D (by omega)
 have pl:M0 (itoa ((strip 2 D:Nat):Int)):=C7t (n:=D) (by rw [<- hD,<- zd]; exact pd) s2
 unfold F6c
 rw [D7i pd (by omega) (R7 E5j) G1l (by decide),hD,Int.toNat_natCast,D7i pl (by rw [C8]; omega) (R7 E9l) G2j (by decide),C8,Int.toNat_natCast]
 have hge:(itoa ((strip 5 (strip 2 D):Nat):Int) == [49])=decide (strip 5 (strip 2 D)=1):=by
  by_cases hx:strip 5 (strip 2 D)=1
  ·rw [dT hx,hx]
   show (itoa 1 == [49])=true
   rw [itoa_1]; rfl
  ·rw [dF hx,beq_eq_false_iff_ne]
   intro e
   rw [<- itoa_1] at e
   have:=A5n e
   omega
 rw [hge]
 by_cases hs:strip 5 (strip 2 D)=1
 ·rw [dT hs,if_pos hs,show (!true)=false from rfl,I4]
  have hm:=Nat.mod_lt N (show 0 < D by omega)
  have hq:(itoa ((N / D:Nat):Int)).length<=1000:=Nat.le_trans (A2p (Nat.div_le_self N D)) (by rw [<- hN,<- zn]; exact ln)
  have hf:A7 d ≠ 0:=by omega
  unfold H0a
  rw [hN,hD,C3z,D8b,C8,Int.toNat_natCast,Int.toNat_natCast,A8 ⟨pn,pd,by omega⟩,dT (show g.length+(itoa ((N / D:Nat):Int)).length < 4611686018427387904 by omega),E5,E5,
   A8 ⟨rfl,zd,I7 _,Int.natCast_nonneg _,by omega,ld,by rw [List.length_append]; omega,hs⟩,E5]
  unfold txD
  rw [hN,hD,Int.toNat_natCast,Int.toNat_natCast,List.append_assoc]
 ·rw [dF hs,if_neg hs]; rfl
theorem F4n {N:Int}:N < 0->(itoa (-N)).length<=(itoa N).length:=fun h=>by
 unfold itoa
 rw [if_pos h,if_neg (by omega),List.length_cons,show (-N).toNat=N.natAbs by omega]
 omega
theorem E2u {a:List UInt8} (h:a.length<=900):D4a a=some [.s (A5o a).1,.i (A5o a).2]:=by
 unfold D4a A5o
 have hz:szH a=true:=dT (by omega)
 have hsz:F4 a=true:=B1j hz
 rw [hz,E5]
 by_cases h0:A0e a=0
 ·rw [if_neg (by simpa using h0),show (A0e a != 0)=false by simpa using h0,I4]
  obtain ⟨e1,e2,e3,e4⟩:=B7p h0
  obtain ⟨l1,l2⟩:=C0r a
  have hcr:=A1u (-A7 (F9 a).1) (A7 (F9 a).2.1)
  have hlr:F4 (Z9 (-A7 (F9 a).1) (A7 (F9 a).2.1))=true:=by
   have m1:=A8l (B9w e1)
   have m2:=A8l (N:=A7 (F9 a).2.1) (by rw [<- O0 e2]; exact e2)
   refine dT ?_
   unfold Z9
   cases itoa (A7 (F9 a).2.1) == [49] with
   | true=>rw [cond_true]; omega
   | false=>rw [cond_false,List.length_append,List.length_append]; simp only [List.length_cons,List.length_nil]; omega
  rw [hcr.1,hcr.2,A8 ⟨hsz,Y5 (R7 e1)⟩,A8 ⟨h0,rfl⟩,hsz,hlr,E5,E5,E5,E5]
  generalize (F9 a).1=n at *
  generalize (F9 a).2.1=d at *
  have zn:=O0 e1
  have zd:=O0 e2
  by_cases hm:A7 n < 0
  ·have hsg:decide (K7 (A7 n) < 0)=true:=by
    refine dT ?_
    unfold K7
    rw [if_neg (by omega),if_pos hm]; omega
   have hnl:=F4n hm
   rw [<- zn] at hnl
   rw [hsg,E5,D8x (by decide) (B9w e1) (by rw [<- zd]; exact e2) (by rw [C8]; omega) (by rw [C8]; omega) (by omega) (by rw [<- zd]; omega),C8]
   by_cases hs:strip 5 (strip 2 (A7 d).toNat)=1
   ·rw [if_pos hs,if_neg (by simpa using hs)]
    unfold txD D6g
    rw [if_pos hm,C8,C8,show (-A7 n).toNat=(A7 n).natAbs by omega]
   ·rw [if_neg hs,if_pos hs]
  ·have hsg:decide (K7 (A7 n) < 0)=false:=by
    refine dF ?_
    unfold K7
    split
    ·omega
    ·omega
   rw [hsg,I4,D8x (by decide) e1 e2 (by omega) e3 (by omega) (by omega)]
   by_cases hs:strip 5 (strip 2 (A7 d).toNat)=1
   ·rw [if_pos hs,if_neg (by simpa using hs)]
    unfold txD D6g
    rw [if_neg hm,show (A7 n).toNat=(A7 n).natAbs by omega]
   ·rw [if_neg hs,if_pos hs]
 ·rw [if_pos h0,show (A0e a != 0)=true by simpa using h0]; rfl
def pD3:Prims:=pDr.addh 50 (H9 8 (funQ spS1 8 [] T29))
theorem G1a {A:Amb} (hT:Tab A) (hG:gN prog<=A.G):PrimOK prog A pD3:=by
 refine (D5n hT hG).addl gsz func50 (by kernel_rfl) (J7 D6 D7 rfl fun ls sq l h=>?_)
 unfold T29 at h
 split at h
 ·rename_i a
  obtain ⟨hc,hv⟩:=Tr.br1 h
  cases hv
  exact ⟨⟨.inr rfl,.inr rfl,.inr rfl,.inr rfl,.inr rfl,.inr rfl,.inr rfl,.inr rfl,trivial⟩,rfl,G1n,60,_,F4v hT hG,(G9e a).trans (E2u (of_decide_eq_true hc)),fun _ _=>.refl⟩
 ·cases h
end Go.Proofs.Tryz
namespace Go.Proofs.Tryz
open Go.Ad
open Go.Lib (decDigits itoa nDigits decFrom digitVal)
theorem B7o {X:Int} {i:Nat} (h:X.natAbs < 10 ^ i) (hi:i<=1024) (h1:1<=i):D5 (itoa X)=0:=by
 rw [A5y,if_neg]
 have:=A1t h h1
 omega
theorem mul_lt {X Y:Int} {i j:Nat} (hX:X.natAbs < 10 ^ i) (hY:Y.natAbs < 10 ^ j):(X*Y).natAbs < 10 ^ (i+j):=by
 rw [Int.natAbs_mul,Nat.pow_add]
 exact Nat.mul_lt_mul'' hX hY
def smQ (a:List UInt8):Prop:=A0e a=0/\szH a=true/\(A7 (F9 a).1).natAbs < 10 ^ 100/\(A7 (F9 a).2.1).natAbs < 10 ^ 100
theorem C4b {a:List UInt8} (h:smQ a):(F9 a).1=itoa (A7 (F9 a).1)/\(F9 a).2.1=itoa (A7 (F9 a).2.1)/\1<=A7 (F9 a).2.1:=by
 obtain ⟨e1,e2,e3,_⟩:=B7p h.1
 exact ⟨O0 e1,O0 e2,e3⟩
def D5o (a:List UInt8):Int:=A7 (F9 a).1
def D4s (a:List UInt8):Int:=A7 (F9 a).2.1
theorem fr8 {ls l:List Lf} {sp sq:SP} (h1:sp.heap ls=Bg 8) (h2:sq.heap l=Bg 8):frP [] 0 (sp.heap ls) (sq.heap l):=by
 rw [h1,h2]
 exact ⟨.inr rfl,.inr rfl,.inr rfl,.inr rfl,.inr rfl,.inr rfl,.inr rfl,.inr rfl,trivial⟩
abbrev crK (a b n p m q:List UInt8) (k:Option (List Lf)):Option (List Lf) :=
 brK (F4 a) (brK (F4 b) (brK (A9 (zOK n/\zOK q)) (brK (A9 (zOK m/\zOK p)) (brK (A9 (zOK p/\zOK q)) (brK (A9 (zOK n/\zOK m)) (brK (A9 (zOK p/\zOK m)) k none) none) none) none) none) none) none
abbrev E8s (x y:List UInt8):Option (List Lf):=brK (A9 (M0 x/\M0 y/\A7 y ≠ 0)) (some [.s (R3 (A7 x) (A7 y))]) none
abbrev prT (x y:List UInt8):List UInt8:=itoa (A7 x*A7 y)
theorem C5d {X:Int} {i:Nat} (h:X.natAbs < 10 ^ i) (h1:1<=i) (h2:i<=1000):M0 (itoa X):=by
 refine ⟨I7 _,?_⟩
 have:=Y2 h h1
 have:(1001:Nat) < 2 ^ 24:=by decide
 omega
theorem C7v {X:Int} {i:Nat} (h:X.natAbs < 10 ^ i) (h1:1<=i) (h2:i<=1000):zOK (itoa X):=A3f (Y5 (C5d h h1 h2))
theorem D9b {X Y:Int} {i j:Nat} (hX:X.natAbs < 10 ^ i) (hY:Y.natAbs < 10 ^ j) (h1:1<=i) (h2:1<=j) (hi:i<=1000) (hj:j<=1000) (h0:Y ≠ 0):E8s (itoa X) (itoa Y)=some [.s (R3 X Y)]:=by
 unfold E8s
 rw [C8,C8,A8 ⟨C5d hX h1 hi,C5d hY h2 hj,h0⟩]
 rfl
theorem G8f (a b:List UInt8):(C9 prog pD3 60).call 60 (spSS.rho [.s a,.s b]) (spSS.heap [.s a,.s b]) (A1j spS1 8 [])=crK a b (F9 a).1 (F9 a).2.1 (F9 b).1 (F9 b).2.1 (E8s (prT (F9 a).1 (F9 b).1) (prT (F9 a).2.1 (F9 b).2.1)):=by kernel_rfl
section
variable {a b:List UInt8} {N P M Q:Int} (hN:N.natAbs < 10 ^ 100) (hP:P.natAbs < 10 ^ 100) (hM:M.natAbs < 10 ^ 100) (hQ:Q.natAbs < 10 ^ 100)
include hN hP hM hQ
theorem G2d {k:Option (List Lf)} (ha:szH a=true) (hb:szH b=true):crK a b (itoa N) (itoa P) (itoa M) (itoa Q) k=k:=by
 have n:=C7v hN (by omega) (by omega)
 have p:=C7v hP (by omega) (by omega)
 have m:=C7v hM (by omega) (by omega)
 have q:=C7v hQ (by omega) (by omega)
 unfold crK
 rw [B1j ha,B1j hb,A8 ⟨n,q⟩,A8 ⟨m,p⟩,A8 ⟨p,q⟩,A8 ⟨n,m⟩,A8 ⟨p,m⟩]
 rfl
theorem F0n (p0:1<=P) (q0:1<=Q):E8s (prT (itoa N) (itoa M)) (prT (itoa P) (itoa Q))=some [.s (R3 (N*M) (P*Q))]:=by
 unfold prT
 rw [C8,C8,C8,C8]
 exact D9b (mul_lt hN hM) (mul_lt hP hQ) (by omega) (by omega) (by omega) (by omega) (Int.ne_of_gt (Int.mul_pos (by omega) (by omega)))
end
def spIN2:SP:=⟨[.int .i64,.int .i64],dd8⟩
abbrev ofK (n:Int) (k:List UInt8->Option (List Lf)):Option (List Lf):=brK (decide (-9223372036854775808<=n/\n<=9223372036854775807)) (k (itoa n)) none
abbrev ofR (n:Int) (k:List UInt8->Option (List Lf)):Option (List Lf):=brK (A9 (IntKind.i64=.i64/\-(2 ^ 63) < n/\n < 2 ^ 63)) (k (itoa n)) none
theorem G6c (n d:Int):(C9 prog pD3 60).call 17 (spIN2.rho [.i n,.i d]) (spIN2.heap [.i n,.i d]) (V7 A1s 8 [])=ofK n fun a=>ofK d fun b=>brK (F4 a && F4 b) (some [.s (C4p a b).1,.i (C4p a b).2]) none:=by kernel_rfl
theorem G6l (n d:Int):(C9 prog pD3 60).call 51 (spIN2.rho [.i n,.i d]) (spIN2.heap [.i n,.i d]) (A1j spS1 8 [])=ofR n fun a=>ofR d fun b=>E8s a b:=by kernel_rfl
def smN (n:Int):Prop:=-(2 ^ 62) < n/\n < 2 ^ 62
theorem C6z {n:Int} (h:smN n):n.natAbs < 10 ^ 19:=by
 have:=h.1
 have:=h.2
 omega
theorem E4s {n:Int} {k:List UInt8->Option (List Lf)} (h:smN n):ofK n k=k (itoa n):=by
 have h1:=h.1
 have h2:=h.2
 unfold ofK
 rw [dT (show -9223372036854775808<=n/\n<=9223372036854775807 by omega)]; rfl
theorem E6u {n:Int} {k:List UInt8->Option (List Lf)} (h:smN n):ofR n k=k (itoa n):=by
 have h1:=h.1
 have h2:=h.2
 unfold ofR
 rw [A8 ⟨rfl,by omega,by omega⟩]; rfl
def TOf:List Lf->Tr (SP × List Lf)
 | [.i n,.i d]=>.br (A9 (smN n/\smN d/\d ≠ 0)) (.leaf (A1s,[.s (R3 n d),.i 0])) .fail
 | _=>.fail
def TOv:List Lf->Tr (SP × List Lf)
 | [.i n,.i d]=>.br (A9 (smN n/\smN d/\d ≠ 0)) (.leaf (spS1,[.s (R3 n d)])) .fail
 | _=>.fail
def TTi:List Lf->Tr (SP × List Lf)
 | [.s a,.s b]=>.br (A9 (smQ a/\smQ b)) (.leaf (spS1,[.s (R3 (D5o a*D5o b) (D4s a*D4s b))])) .fail
 | _=>.fail
def pC2:Prims:=((pD3.addh 17 (H9 8 (funQ spIN2 8 [] TOf))).addh 51 (H9 8 (funP spIN2 8 [] TOv))).addh 60 (H9 8 (funP spSS 8 [] TTi))
theorem G1o {A:Amb} (hT:Tab A) (hG:gN prog<=A.G):PrimOK prog A pC2:=by
 have hp:=G1a hT hG
 refine ((hp.addl gsz func17 (by kernel_rfl) (J7 D6 D7 rfl fun ls sq l h=>?_)).addl gsz func51 (by kernel_rfl) (L8 D6 D7 rfl fun ls sq l h=>?_)).addl gsz func60 (by kernel_rfl) (L8 D6 D7 rfl fun ls sq l h=>?_)
 ·unfold TOf at h
  split at h
  ·rename_i n d
   obtain ⟨hc,hv⟩:=Tr.br1 h
   cases hv
   obtain ⟨h1,h2,h3⟩:=D9 hc
   have e1:=B7o (C6z h1) (by omega) (by omega)
   have e2:=B7o (C6z h2) (by omega) (by omega)
   have h48:itoa d ≠ [48]:=fun e=>by
    rw [<- itoa0] at e
    exact h3 (A5n e)
   refine ⟨fr8 rfl rfl,rfl,pD3,60,_,hp,(G6c n d).trans ?_,fun _ _=>.refl⟩
   rw [E4s h1,E4s h2,B6z e1,B6z e2]
   unfold C4p
   rw [if_neg (by rw [e1]; simp),if_neg (by rw [e2]; simp),if_neg h48,C8,C8]
   rfl
  ·cases h
 ·unfold TOv at h
  split at h
  ·rename_i n d
   obtain ⟨hc,hv⟩:=Tr.br1 h
   cases hv
   obtain ⟨h1,h2,h3⟩:=D9 hc
   refine ⟨fr8 rfl rfl,rfl,rfl,pD3,60,hp,(G6l n d).trans ?_⟩
   rw [E6u h1,E6u h2]
   exact D9b (C6z h1) (C6z h2) (by omega) (by omega) (by omega) (by omega) h3
  ·cases h
 ·unfold TTi at h
  split at h
  ·rename_i a b
   obtain ⟨hc,hv⟩:=Tr.br1 h
   cases hv
   obtain ⟨h1,h2⟩:=D9 hc
   obtain ⟨z1,z2,z3⟩:=C4b h1
   obtain ⟨y1,y2,y3⟩:=C4b h2
   refine ⟨fr8 rfl rfl,rfl,rfl,pD3,60,hp,(G8f a b).trans ?_⟩
   rw [z1,z2,y1,y2,G2d h1.2.2.1 h1.2.2.2 h2.2.2.1 h2.2.2.2 h1.2.1 h2.2.1]
   exact F0n h1.2.2.1 h1.2.2.2 h2.2.2.1 h2.2.2.2 z3 y3
  ·cases h
end Go.Proofs.Tryz
namespace Go.Proofs.Tryz
open Go.Ad
open Go.Lib (decDigits itoa nDigits decFrom digitVal)
def U6 (a:List UInt8):List UInt8:=(a.reverse.dropWhile (· == 48)).reverse
theorem C3t {p:Nat} (hp:2<=p):∀ n:Nat,0 < n->¬ p ∣ strip p n:=fun n=>by
 induction n using Nat.strongRecOn with
 | _ n ih =>
  intro hn
  by_cases h:n % p=0
  ·rw [<- A7a hp hn h]
   exact ih (n / p) (A6b hp hn) (A1r hp hn h)
  ·rw [A9p h]
   exact fun hd=>h (Nat.mod_eq_zero_of_dvd hd)
theorem C3w {p n:Nat} (hp:2<=p) (hn:0 < n):strip p n ∣ n:=by
 obtain ⟨_,_,k,hk⟩:=A3m hp n hn
 exact ⟨p ^ k,hk⟩
theorem H1h {m:Nat} (h:¬ 2 ∣ m):Nat.Coprime m 2:=by
 have h1:=Nat.gcd_dvd_left m 2
 have h2:=Nat.gcd_dvd_right m 2
 have h3:=Nat.le_of_dvd (by decide) h2
 have h4:Nat.gcd m 2 ≠ 0:=fun e=>by rw [e] at h2; omega
 have h5:Nat.gcd m 2 ≠ 2:=fun e=>h (by rw [e] at h1; exact h1)
 show Nat.gcd m 2=1
 omega
theorem H1g {m:Nat} (h:¬ 5 ∣ m):Nat.Coprime m 5:=by
 have h1:=Nat.gcd_dvd_left m 5
 have h2:=Nat.gcd_dvd_right m 5
 have h3:=Nat.le_of_dvd (by decide) h2
 have h4:Nat.gcd m 5 ≠ 0:=fun e=>by rw [e] at h2; omega
 have h5:Nat.gcd m 5 ≠ 5:=fun e=>h (by rw [e] at h1; exact h1)
 have h6:Nat.gcd m 5 ≠ 2/\Nat.gcd m 5 ≠ 3/\Nat.gcd m 5 ≠ 4:=⟨fun e=>by rw [e] at h2; omega,fun e=>by rw [e] at h2; omega,fun e=>by rw [e] at h2; omega⟩
 show Nat.gcd m 5=1
 omega
theorem E0n {D k:Nat} (h0:0 < D) (h:D ∣ 10 ^ k):strip 5 (strip 2 D)=1:=by
 obtain ⟨p1,_,_⟩:=A3m (p:=2) (by decide) D h0
 have hm:strip 2 D ∣ 2 ^ k*5 ^ k:=by
  rw [<- Nat.mul_pow]
  exact Nat.dvd_trans (C3w (by decide) h0) h
 have h1:=Nat.Coprime.dvd_of_dvd_mul_left (Nat.Coprime.pow_right k (H1h (C3t (by decide) D h0))) hm
 have hm2:strip 5 (strip 2 D) ∣ 5 ^ k*1:=by
  rw [Nat.mul_one]
  exact Nat.dvd_trans (C3w (by decide) p1) h1
 exact Nat.dvd_one.1 (Nat.Coprime.dvd_of_dvd_mul_left (Nat.Coprime.pow_right k (H1g (C3t (by decide) _ p1))) hm2)
theorem F1b {A B N D:Nat} (hB:0 < B) (hD:0 < D) (hg:Nat.gcd N D=1) (h:A*D=N*B):R3 (A:Int) (B:Int)=Z9 (N:Int) (D:Int):=by
 have hdb:D ∣ B:=by
  have h1:D ∣ N*B:=⟨A,by rw [Nat.mul_comm D A]; exact h.symm⟩
  exact Nat.Coprime.dvd_of_dvd_mul_left (show Nat.gcd D N=1 by rw [Nat.gcd_comm]; exact hg) h1
 obtain ⟨g,rfl⟩:=hdb
 have hg0:0 < g:=Nat.pos_of_ne_zero fun e=>by rw [e,Nat.mul_zero] at hB; omega
 have hA:A=N*g:=by
  have h2:D*A=D*(N*g):=by rw [Nat.mul_comm D A,h,<- Nat.mul_assoc,<- Nat.mul_assoc,Nat.mul_comm N D]
  exact Nat.eq_of_mul_eq_mul_left hD h2
 subst hA
 have hgcd:Int.gcd ((N*g:Nat):Int) ((D*g:Nat):Int)=g:=by
  rw [Int.gcd_natCast_natCast,Nat.gcd_mul_right,hg,Nat.one_mul]
 unfold R3 sgG
 rw [if_neg (by omega),hgcd,C3z,C3z,Nat.mul_div_cancel _ hg0,Nat.mul_div_cancel _ hg0]
theorem E1o {N D:Int} (h1:D5 (itoa N)=0) (h2:D5 (itoa D)=0) (hD:1<=D) (hg:Int.gcd N D=1):A0e (Z9 N D)=0:=by
 have hc:=A1u N D
 have hw:(F9 (Z9 N D)).2.2=true->1 < D:=fun hw=>by
  by_cases h:D=1
  ·subst h
   have:itoa 1 == [49]:=by rw [itoa_1]; rfl
   unfold Z9 F9 at hw
   rw [this,cond_true,X8 (B3m N)] at hw
   cases hw
  ·omega
 unfold A0e
 rw [hc.1,hc.2,if_neg (by rw [h1,h2]; simp),if_neg (by rw [h1,h2]; simp),C8,C8,if_neg fun h=>h.2 ⟨hw h.1,hg⟩]
theorem D9d {s f b:List UInt8} (h0:A3j s=0) (h:NumS s f b):∃ N D:Nat,A1p s=(Z9 (N:Int) (D:Int),0)/\0 < D/\Nat.gcd N D=1/\D8 0 (f++b)*D=N*10 ^ b.length/\D ∣ 10 ^ b.length/\N<=D8 0 (f++b):=by
 have hB:0 < 10 ^ b.length:=Nat.pow_pos (by decide)
 have hv:A1p s=(R3 ((D8 0 (f++b):Nat):Int) ((10 ^ b.length:Nat):Int),0):=by
  unfold A1p
  rw [if_neg (by rw [h0]; simp),h.cut.1,h.cut.2]; rfl
 generalize hA:D8 0 (f++b)=A at *
 generalize 10 ^ b.length=B at *
 have hg:0 < Nat.gcd A B:=Nat.gcd_pos_of_pos_right _ hB
 have hdA:Nat.gcd A B ∣ A:=Nat.gcd_dvd_left ..
 have hdB:Nat.gcd A B ∣ B:=Nat.gcd_dvd_right ..
 have hD:0 < B / Nat.gcd A B:=Nat.div_pos (Nat.le_of_dvd hB hdB) hg
 have hc:Nat.gcd (A / Nat.gcd A B) (B / Nat.gcd A B)=1:=Nat.coprime_div_gcd_div_gcd hg
 have he:A*(B / Nat.gcd A B)=A / Nat.gcd A B*B:=by
  rw [Nat.mul_comm (A / _),<- Nat.mul_div_assoc _ hdB,<- Nat.mul_div_assoc _ hdA,Nat.mul_comm A B]
 exact ⟨A / Nat.gcd A B,B / Nat.gcd A B,by rw [hv,F1b hB hD hc he],hD,hc,he,Nat.div_dvd_of_dvd hdB,Nat.div_le_self _ _⟩
theorem F8t {s f b:List UInt8} (h:NumS s f b):D8 0 (f++b) < 10 ^ 1024/\10 ^ b.length < 10 ^ 1024:=⟨h.small.2.2,E7m (by
 have:=h.small.2.1
 rw [List.length_append] at this
 omega)⟩
theorem A2o (b:List UInt8):∃ j,b=U6 b++List.replicate j 48:=by
 refine ⟨(b.reverse.takeWhile (· == 48)).length,?_⟩
 have h1:=List.takeWhile_append_dropWhile (p:=(· == (48:UInt8))) (l:=b.reverse)
 have h2:b.reverse.takeWhile (· == 48)=List.replicate (b.reverse.takeWhile (· == 48)).length 48:=by
  refine List.eq_replicate_iff.2 ⟨rfl,fun c hc=>?_⟩
  have:=List.all_eq_true.1 (List.all_takeWhile (p:=(· == (48:UInt8))) (l:=b.reverse)) c hc
  simpa using this
 have h3:=congrArg List.reverse h1
 rw [List.reverse_append,List.reverse_reverse] at h3
 unfold U6
 conv=>lhs; rw [<- h3]
 congr 1
 conv=>lhs; rw [h2]
 rw [List.reverse_replicate]
theorem D6b {b:List UInt8} (h:U6 b ≠ []):(U6 b).getLast h ≠ 48:=by
 unfold U6 at h ⊢
 rw [List.getLast_reverse]
 have h1:=List.head?_dropWhile_not (p:=(· == (48:UInt8))) (l:=b.reverse)
 have h2:∀ x,(b.reverse.dropWhile (· == 48)).head?=some x->(x == 48)=false:=fun x hx=>by rw [hx] at h1; exact h1
 have key:∀ (l:List UInt8) (h:l ≠ []),(∀ x,l.head?=some x->(x == 48)=false)->l.head h ≠ 48:=fun l h h1=>by
  cases l with
  | nil=>exact (h rfl).elim
  | cons c r=>simpa using h1 c rfl
 exact key _ _ h2
theorem B4k {b:List UInt8} (h:b.all F5=true):(U6 b).all F5=true:=by
 obtain ⟨j,hj⟩:=A2o b
 rw [hj,List.all_append,Bool.and_eq_true] at h
 exact h.1
theorem B8u (q:Nat):∀ j:Nat,D8 q (List.replicate j 48)=q*10 ^ j
 | 0=>by simp [D8]
 | j+1=>by
  rw [List.replicate_succ]
  show D8 (q*10+((48:UInt8).toNat - 48)) (List.replicate j 48)=_
  rw [show (48:UInt8).toNat - 48=0 from rfl,Nat.add_zero,B8u,Nat.pow_succ,Nat.mul_assoc,Nat.mul_comm 10]
theorem D5c {f:List UInt8} (h1:f.all F5=true) (h2:f ≠ []) (h3:1 < f.length->f.headD 0 ≠ 48):f=itoa ((D8 0 f:Nat):Int):=by
 rw [A0t]
 have hd:=A6r _ f rfl h2 h1 (by
  rcases Nat.lt_or_ge 1 f.length with h | h
  ·exact .inl (h3 h)
  ·right
   cases f with
   | nil=>exact (h2 rfl).elim
   | cons c r=>simp at h ⊢; exact h)
 rw [B8a h1] at hd
 exact hd
theorem E0i {s f b:List UInt8} (h:NumS s f b):f.length+b.length<=24:=by
 have:=h.small.2.1
 rwa [List.length_append] at this
theorem F3h {N D:Nat} (hN:N < 10 ^ 1024) (hD:0 < D) (hD2:D < 10 ^ 1024) (hg:Nat.gcd N D=1) (hs:strip 5 (strip 2 D)=1):A5o (Z9 (N:Int) (D:Int))=(D6g (N:Int) D,0)/\A0e (Z9 (N:Int) (D:Int))=0:=by
 have hc:=A1u (N:Int) (D:Int)
 have he:=E1o (N:=(N:Int)) (D:=(D:Int)) (Y3 hN) (Y3 hD2) (by omega) (by rw [Int.gcd_natCast_natCast]; exact hg)
 refine ⟨?_,he⟩
 unfold A5o
 rw [if_neg (by rw [he]; simp),hc.1,hc.2,C8,C8,Int.toNat_natCast,if_neg (by rw [hs]; simp)]
theorem D2k {s f b:List UInt8} (h0:A3j s=0) (h:NumS s f b):(A5o (A1p s).1)=(f++(if U6 b=[] then [] else 46 :: U6 b),0)/\(A1p s).1.length<=900:=by
 obtain ⟨N,D,hv,hD,hg,he,hdv,hle⟩:=D9d h0 h
 obtain ⟨l1,l2⟩:=F8t h
 have hDl:D < 10 ^ 1024:=Nat.lt_of_le_of_lt (Nat.le_of_dvd (Nat.pow_pos (by decide)) hdv) l2
 have hs:=E0n hD hdv
 have hlen:=E0i h
 obtain ⟨hd,hq⟩:=F3h (Nat.lt_of_le_of_lt hle l1) hD hDl hg hs
 rw [hv]
 have hN24:N < 10 ^ 24:=by
  refine Nat.lt_of_le_of_lt hle ?_
  have h3:=B3d (f++b) 0 h.small.1
  rw [Nat.zero_add,Nat.one_mul] at h3
  exact A2g 24 h3 h.small.2.1
 have hD24:D < 10 ^ 25:=Nat.lt_of_le_of_lt (Nat.le_of_dvd (Nat.pow_pos (by decide)) hdv) (C1p 25 (by omega))
 refine ⟨?_,?_⟩
 ·rw [hd]
  refine Prod.ext ?_ rfl
  have hr:N % D < D:=Nat.mod_lt _ hD
  have hdr:D ∣ (N % D)*10 ^ (4*(itoa (D:Int)).length):=Nat.dvd_trans (C5x hD hs) (Nat.dvd_mul_left _ _)
  have hw:=B4a hD (4*(itoa (D:Int)).length) (N % D) (N / D) hr hdr
  have hdm:N / D*D+N % D=N:=by rw [Nat.mul_comm]; exact Nat.div_add_mod N D
  rw [hdm] at hw
  obtain ⟨j,hj⟩:=A2o b
  have hb0:D8 0 (f++b)=D8 (D8 0 f) (U6 b)*10 ^ j:=by
   rw [R8]
   conv=>lhs; rw [hj]
   rw [R8,B8u]
  have hbl:b.length=(U6 b).length+j:=by
   have:=congrArg List.length hj
   rwa [List.length_append,List.length_replicate] at this
  rw [hb0,hbl,Nat.pow_add] at he
  have he2:D8 (D8 0 f) (U6 b)*D=N*10 ^ (U6 b).length:=by
   refine Nat.eq_of_mul_eq_mul_right (Nat.pow_pos (n:=j) (show 0 < 10 by decide)) ?_
   rw [Nat.mul_right_comm,he,Nat.mul_assoc]
  generalize hdb:A3y D (4*(itoa (D:Int)).length) (N % D)=db at hw
  have hdl:∀ h:db ≠ [],db.getLast h ≠ 48:=by rw [<- hdb]; exact C4k hD _ _ hr hdr
  have hda:db.all F5=true:=by rw [<- hdb]; exact C9e _ _
  have key:=C7d (n:=D8 0 f) (n':=N / D) (B4k h.db) hda (fun h=>D6b h) hdl (by
   refine Nat.eq_of_mul_eq_mul_right hD ?_
   rw [Nat.mul_right_comm,he2,Nat.mul_right_comm (D8 (N / D) db),hw,Nat.mul_right_comm])
  obtain ⟨k1,k2⟩:=key
  unfold D6g
  rw [if_neg (by omega),List.nil_append,Int.natAbs_natCast,<- k1,<- D5c h.df h.ne h.head]
  congr 1
  unfold B0m
  rw [hdb,k2]
  by_cases h0:N % D=0
  ·rw [h0,A0q] at hdb
   rw [if_pos h0,if_pos hdb.symm]
  ·have:db ≠ []:=fun e=>by
    rw [e] at hw
    have hw:N / D*D=N*10 ^ 0:=hw
    rw [Nat.pow_zero,Nat.mul_one] at hw
    omega
   rw [if_neg h0,if_neg this]
 ·have i1:=U3 hN24 (by decide)
  have i2:=U3 hD24 (by decide)
  unfold Z9
  cases itoa (D:Int) == [49] with
  | true=>show (itoa (N:Int)).length<=900; omega
  | false =>
   show (itoa (N:Int)++[47]++itoa (D:Int)).length<=900
   rw [List.length_append,List.length_append]; simp only [List.length_cons,List.length_nil]; omega
theorem D2x:∀ q:Nat,10<=q->(decDigits q).headD 0 ≠ 48:=fun q=>by
 induction q using Nat.strongRecOn with
 | _ q ih =>
  intro hq
  rw [A0j (by omega)]
  have hne:=A1b (q / 10)
  have hh:(decDigits (q / 10)++[dig q]).headD 0=(decDigits (q / 10)).headD 0:=by
   cases h:decDigits (q / 10) with
   | nil=>exact (hne h).elim
   | cons c r=>rfl
  rw [hh]
  by_cases h:q / 10 < 10
  ·rw [M3 h]
   intro e
   have e:=congrArg UInt8.toNat (show dig (q / 10)=48 from e)
   rw [A6l] at e
   have e:48+q / 10 % 10=48:=e
   omega
  ·exact ih (q / 10) (by omega) (by omega)
theorem D2q {q:Nat} (h:1 < (itoa (q:Int)).length):(itoa (q:Int)).headD 0 ≠ 48:=by
 rw [A0t] at h ⊢
 by_cases hq:q < 10
 ·rw [M3 hq] at h; simp at h
 ·exact D2x q (by omega)
theorem E7t (s:List UInt8):bAt s 0=((s.headD 0).toNat:Int):=by unfold bAt; cases s <;> rfl
theorem E5d {f b:List UInt8} (hf:f.all F5=true):(f++46 :: b).takeWhile F5=f:=by
 rw [List.takeWhile_append_of_pos (fun a ha=>List.all_eq_true.1 hf a ha),List.takeWhile_cons_of_neg (by decide),List.append_nil]
theorem E8e {q:Nat} {b u:List UInt8} (hb:b.all F5=true) (hu:u=itoa (q:Int)++(if b=[] then [] else 46 :: b)) (hl:u.length<=24):A3j u=0/\(B1k u).1=itoa (q:Int)/\(B1k u).2.1=b:=by
 have hf:=O1 q
 have hne:=A2b (q:Int)
 have hfh:=D2q (q:=q)
 generalize itoa (q:Int)=f at *
 have hpos:0 < f.length:=by cases f with | nil=>exact (hne rfl).elim | cons=>simp
 have h48:∀ r:List UInt8,1 < f.length->bAt (f++r) 0 ≠ 48:=fun r h e=>by
  rw [E7t] at e
  have hh:(f++r).headD 0=f.headD 0:=by cases f with | nil=>exact (hne rfl).elim | cons=>rfl
  rw [hh] at e
  exact hfh h (UInt8.toNat_inj.1 (by show (f.headD 0).toNat=48; omega))
 by_cases h:b=[]
 ·rw [if_pos h,List.append_nil] at hu
  subst hu h
  have hlc:L6 [2] u=u.length:=by rw [A9n,C6f hf]
  have hn:A6d u=(u.length,u.length):=by
   unfold A6d
   rw [hlc,dF (show ¬ u.length+1 < u.length by omega),Bool.false_and,Bool.and_false]; rfl
  refine ⟨?_,?_⟩
  ·unfold A3j
   rw [hn,if_neg,if_neg (by omega)]
   intro hx
   rcases hx with hx | hx | ⟨hx,hy⟩
   ·simp only at hx; omega
   ·exact hx rfl
   ·have:=h48 [] hx
    rw [List.append_nil] at this
    exact this hy
  ·unfold B1k; rw [X8 (B3v hf)]; exact ⟨rfl,rfl⟩
 ·rw [if_neg h] at hu
  subst hu
  have hbp:0 < b.length:=by cases b with | nil=>exact (h rfl).elim | cons=>simp
  have hlc:L6 [2] (f++46 :: b)=f.length:=by rw [A9n,E5d hf]
  have hdrop:(f++46 :: b).drop (f.length+1)=b:=by
   rw [List.drop_append,List.drop_eq_nil_of_le (by omega),show f.length+1 - f.length=1 by omega]; rfl
  have hlb:L6 [2] b=b.length:=by rw [A9n,C6f hb]
  have hlen:(f++46 :: b).length=f.length+1+b.length:=by rw [List.length_append,List.length_cons]; omega
  have hpt:(bAt (f++46 :: b) f.length == 46)=true:=by
   unfold bAt
   rw [List.getD_eq_getElem?_getD,List.getElem?_append_right (Nat.le_refl _)]
   simp
  have hn:A6d (f++46 :: b)=(f.length+1+b.length,f.length):=by
   unfold A6d
   rw [hlc,hdrop,hlb,hpt,hlen,dT hpos,dT hbp,dT (show f.length+1 < f.length+1+b.length by omega)]; rfl
  refine ⟨?_,?_⟩
  ·unfold A3j
   rw [hn,if_neg,if_neg (by omega)]
   intro hx
   rcases hx with hx | hx | ⟨hx,hy⟩
   ·simp only at hx; omega
   ·exact hx hlen.symm
   ·exact h48 _ hx hy
  ·unfold B1k; rw [A5s (B3v hf)]; exact ⟨rfl,rfl⟩
end Go.Proofs.Tryz
namespace Go.Proofs.Tryz
open Go.Ad
open Go.Lib (decDigits itoa nDigits decFrom digitVal)
def dg (k:Nat):UInt8:=UInt8.ofNat (48+k)
def b3 (r:Nat):List UInt8:=[dg (r / 100),dg (r / 10 % 10),dg (r % 10)]
def A4t (n:Nat):List UInt8:=itoa ((n / 1000:Nat):Int)++(if U6 (b3 (n % 1000))=[] then [] else 46 :: U6 (b3 (n % 1000)))
theorem C5v {k:Nat} (h:k < 10):(dg k).toNat=48+k:=C7n h
theorem D4m {k:Nat} (h:k < 10):F5 (dg k)=true:=by
 unfold F5
 rw [C5v h]
 simp; omega
theorem C7y {r:Nat} (h:r < 1000):(b3 r).all F5=true:=by
 unfold b3
 simp only [List.all_cons,List.all_nil,Bool.and_true,Bool.and_eq_true]
 exact ⟨D4m (by omega),D4m (by omega),D4m (by omega)⟩
theorem E8n {q r:Nat} (h:r < 1000):D8 q (b3 r)=q*1000+r:=by
 unfold b3 D8
 simp only [List.foldl_cons,List.foldl_nil]
 rw [C5v (by omega),C5v (by omega),C5v (by omega)]
 omega
theorem C1g {q:Nat} (h:q < 1000):(itoa (q:Int)).length<=3:=by
 have:=U3 (show q < 10 ^ 3 by omega) (by decide)
 omega
theorem G8t {n:Nat} (hn:n < 1000000):∃ s,A3j s=0/\NumS s (itoa ((n / 1000:Nat):Int)) (b3 (n % 1000))/\(A1p s).1=R3 (n:Int) 1000:=by
 have hr:n % 1000 < 1000:=Nat.mod_lt _ (by decide)
 have hq:n / 1000 < 1000:=by omega
 have hl:=C1g hq
 have hb:=C7y hr
 obtain ⟨h1,h2,h3⟩:=E8e (q:=n / 1000) (b:=b3 (n % 1000)) (u:=itoa ((n / 1000:Nat):Int)++(if b3 (n % 1000)=[] then [] else 46 :: b3 (n % 1000))) hb rfl (by
  rw [if_neg (by simp [b3]),List.length_append]
  show _+4<=24
  omega)
 obtain ⟨f,b,hN⟩:=A9i h1
 have ef:f=itoa ((n / 1000:Nat):Int):=by rw [<- hN.cut.1,h2]
 have eb:b=b3 (n % 1000):=by rw [<- hN.cut.2,h3]
 subst ef eb
 refine ⟨_,h1,hN,?_⟩
 unfold A1p
 rw [if_neg (by rw [h1]; simp),hN.cut.1,hN.cut.2]
 have e1:B3l 0 (itoa ((n / 1000:Nat):Int)++b3 (n % 1000))=n:=by
  have:B3l 0 (itoa ((n / 1000:Nat):Int)++b3 (n % 1000))=D8 (D8 0 (itoa ((n / 1000:Nat):Int))) (b3 (n % 1000)):=by
   unfold B3l D8
   rw [List.foldl_append]
  rw [this,K3,E8n hr]
  omega
 rw [e1]
 show R3 (n:Int) ((10 ^ 3:Nat):Int)=R3 (n:Int) 1000
 rw [show ((10 ^ 3:Nat):Int)=1000 by decide]
theorem F8s {n:Nat} (hn:n < 1000000):A5o (R3 (n:Int) 1000)=(A4t n,0)/\(R3 (n:Int) 1000).length<=900:=by
 obtain ⟨s,h1,h2,h3⟩:=G8t hn
 have h4:=D2k h1 h2
 rw [h3] at h4
 exact h4
theorem C0l (b:List UInt8):(U6 b).length<=b.length:=by
 obtain ⟨j,h⟩:=A2o b
 have:=congrArg List.length h
 rw [List.length_append] at this
 omega
theorem C0u {n:Nat} (hn:n < 1000000):(A4t n).length<=7:=by
 have hl:=C1g (q:=n / 1000) (by omega)
 have ht:=C0l (b3 (n % 1000))
 unfold A4t
 rw [List.length_append]
 have:(b3 (n % 1000)).length=3:=rfl
 by_cases h:U6 (b3 (n % 1000))=[]
 ·rw [if_pos h,List.length_nil]; omega
 ·rw [if_neg h,List.length_cons]; omega
def J8 (x:Ft):List UInt8:=A4t x.n.toNat++[32]++X4 x.h x.m x.g++[47]++X4 x.h' x.m' x.g'
theorem B7e (h:Bool) (l g:Int):(X4 h l g).length<=3:=by
 unfold X4 G5c
 split <;> simp
theorem B6y {x:Ft} (h:I6 x=0):(1<=x.n/\x.n<=100000)/\inC x.m x.g=true/\inC x.m' x.g'=true/\x.h=true/\x.h'=false:=by
 unfold I6 at h
 repeat' split at h
 all_goals first | (exfalso; omega) | skip
 rename_i h1 h2 h3 h4 h5 h6 h7
 refine ⟨by omega,?_,?_,?_⟩
 ·unfold inC; rw [Bool.and_eq_true]; exact ⟨dT (by omega),dT (by omega)⟩
 ·unfold inC; rw [Bool.and_eq_true]; exact ⟨dT (by omega),dT (by omega)⟩
 ·cases hh:x.h <;> cases hh':x.h' <;> simp_all
def pC3b:Prims:=pC2.over pC1
theorem D7z {A:Amb} (hT:Tab A) (hG:gN prog<=A.G):PrimOK prog A pC3b:=(G1o hT hG).over (F9d hT hG)
abbrev F4g (x:Ft):Option AV :=
 brK (inC x.m x.g) (brK (inC x.m' x.g') (brK (decide ((A5o (R3 x.n 1000)).1.length+1 < 4611686018427387904)) (brK (decide (((A5o (R3 x.n 1000)).1++[32]).length+(X4 x.h x.m x.g).length < 4611686018427387904))
  (brK (decide (((A5o (R3 x.n 1000)).1++[32]++X4 x.h x.m x.g).length+1 < 4611686018427387904)) (brK (decide (((A5o (R3 x.n 1000)).1++[32]++X4 x.h x.m x.g++[47]).length+(X4 x.h' x.m' x.g').length < 4611686018427387904))
   (some (.tuple [.sstr ((A5o (R3 x.n 1000)).1++[32]++X4 x.h x.m x.g++[47]++X4 x.h' x.m' x.g'),.int .i64 0])) none) none) none) none) none) none
abbrev G4s (x:Ft):AV:=.tuple [.str [],.sint .i64 (I6 x)]
theorem F7y (x:Ft):(C9 prog pC3b 60).call 6 [.agg x.av] (Bg 8) G9 =
  brK (decide (I6 x=0)) (brK (A9 (smN x.n/\smN 1000/\(1000:Int) ≠ 0)) (brK (decide ((R3 x.n 1000).length<=900)) (brK ((A5o (R3 x.n 1000)).2 != 0) (some (.tuple [.str [],.sint .i64 (A5o (R3 x.n 1000)).2])) (F4g x)) none) none)
   (brK (I6 x != 0) (some (G4s x)) (brK (A9 (smN 0/\smN 1000/\(1000:Int) ≠ 0)) none none)):=by kernel_rfl
theorem G5h (x:Ft):(C9 prog pC3b 60).call 7 [.agg x.av] (Bg 8) G9 =
  brK (I6 x != 0) (some (G4s x)) (brK (A9 (smN x.n/\smN 1000/\(1000:Int) ≠ 0)) (brK (decide ((R3 x.n 1000).length<=900)) (F4g x) none) none):=by kernel_rfl
theorem C7k {x:Ft} (h:I6 x=0):F4g x=some (.tuple [.sstr (J8 x),.int .i64 0])/\smN x.n/\(R3 x.n 1000).length<=900/\(A5o (R3 x.n 1000)).2=0:=by
 obtain ⟨hn,i1,i2,_⟩:=B6y h
 obtain ⟨n,hx⟩:∃ n:Nat,x.n=n:=⟨x.n.toNat,by omega⟩
 have hb:n < 1000000:=by omega
 obtain ⟨d1,d2⟩:=F8s hb
 have dl:=C0u hb
 have f1:=B7e x.h x.m x.g
 have f2:=B7e x.h' x.m' x.g'
 have e:J8 x=A4t n++[32]++X4 x.h x.m x.g++[47]++X4 x.h' x.m' x.g':=by unfold J8; rw [hx,Int.toNat_natCast]
 unfold F4g
 rw [i1,i2,e,hx,d1]
 simp only
 generalize A4t n=u at *
 generalize X4 x.h x.m x.g=v at *
 generalize X4 x.h' x.m' x.g'=w at *
 have g1:u.length+1 < 4611686018427387904:=by omega
 have g2:(u++[32]).length+v.length < 4611686018427387904:=by rw [List.length_append,List.length_singleton]; omega
 have g3:(u++[32]++v).length+1 < 4611686018427387904:=by rw [List.length_append,List.length_append,List.length_singleton]; omega
 have g4:(u++[32]++v++[47]).length+w.length < 4611686018427387904:=by rw [List.length_append,List.length_append,List.length_append,List.length_singleton,List.length_singleton]; omega
 rw [dT g1,dT g2,dT g3,dT g4]
 exact ⟨rfl,⟨by omega,by omega⟩,d2,trivial⟩
def D9n:List AV->Tr AV
 | [.agg l]=>match F1u l with
  | some x=>.br (decide (I6 x=0)) (.leaf (.tuple [.sstr (J8 x),.int .i64 0])) (.leaf (.tuple [.str [],.sint .i64 (I6 x)]))
  | none=>.fail
 | _=>.fail
def pC3:Prims:=(pC3b.addt 6 D9n).addt 7 D9n
theorem G2z {A:Amb} (hT:Tab A) (hG:gN prog<=A.G):PrimOK prog A pC3:=by
 have h0:=D7z hT hG
 have key:∀ f:FuncId,(∀ x:Ft,(C9 prog pC3b 60).call f [.agg x.av] (Bg 8) G9=some (if I6 x=0 then .tuple [.sstr (J8 x),.int .i64 0] else G4s x)) ->
   ∀ args v,(D9n args).get=some v->∃ prims0 args' v' B',PrimOK prog A prims0/\(∀ (ι:Emb) (xs:List Value),VRL ι args xs->VRL ι args' xs)/\(∀ (ι:Emb) (x:Value),VR ι v' x->VR ι v x)/\H6 0 args'=true/\below 0 v'=true /\
    Ca prog prims0 f args' (Bg (gN prog)) (v',B',[]):=by
  intro f hr args v hv
  unfold D9n at hv
  split at hv
  ·rename_i l
   split at hv
   ·rename_i x hx
    have hargs:∀ (ι:Emb) (xs:List Value),VRL ι [.agg l] xs->VRL ι [.agg x.av] xs:=fun ι xs hx2=>by
     simp only [VRL,VR] at hx2 ⊢
     obtain ⟨y,r,e1,⟨ys,e2,h2⟩,h3⟩:=hx2
     exact ⟨y,r,e1,⟨ys,e2,C5q hx h2⟩,h3⟩
    have hr:=hr x
    by_cases he:I6 x=0
    ·rw [if_pos he,<- gsz] at hr
     obtain ⟨B',hca⟩:=Ca.of_finV hr
     rw [dT he] at hv; cases hv
     exact ⟨pC3b,_,_,B',h0,hargs,fun ι y hy=>hy,rfl,rfl,hca⟩
    ·rw [if_neg he,<- gsz] at hr
     obtain ⟨B',hca⟩:=Ca.of_finV hr
     rw [dF he] at hv; cases hv
     exact ⟨pC3b,_,_,B',h0,hargs,fun ι y hy=>hy,rfl,rfl,hca⟩
   ·cases hv
  ·cases hv
 refine PrimOK.addt3 D6 D7 (PrimOK.addt3 D6 D7 h0 hG func6 (by kernel_rfl) (key 6 fun x=>?_)) hG func7 (by kernel_rfl) (key 7 fun x=>?_)
 ·rw [F7y]
  by_cases he:I6 x=0
  ·obtain ⟨c1,c2,c3,c4⟩:=C7k he
   rw [dT he,if_pos he,A8 ⟨c2,⟨by omega,by omega⟩,by omega⟩,dT c3,c4,c1]; rfl
  ·rw [dF he,if_neg he,show (I6 x != 0)=true by rw [bne_iff_ne]; exact he]; rfl
 ·rw [G5h]
  by_cases he:I6 x=0
  ·obtain ⟨c1,c2,c3,c4⟩:=C7k he
   rw [if_pos he,show (I6 x != 0)=false by rw [he]; rfl,A8 ⟨c2,⟨by omega,by omega⟩,by omega⟩,dT c3,c1]; rfl
  ·rw [if_neg he,show (I6 x != 0)=true by rw [bne_iff_ne]; exact he]; rfl
end Go.Proofs.Tryz
