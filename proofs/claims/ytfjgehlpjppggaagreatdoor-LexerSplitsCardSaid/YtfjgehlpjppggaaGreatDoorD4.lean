/- Decimal digits: the loop of lexer.Decimal. -/
import Derived.Test.YtfjgehlpjppggaaGreatDoorQ1
noncomputable section
namespace Go.Proofs.Tryz
open Go.Ad
open Go.Lib (decDigits itoa nDigits decFrom digitVal)
def F2n:Code:=f29.body.getD .skip
def A5a:Code:=I7 (J7 1 F2n)
def tD (i:Pt):List Pt:=dr 4++[.str,.str]++dr 2++[pW 8]++dr 2++[i]++dr 73
def tDE:List Pt:=dr 8++[pW 8]++dr 76
def pi0:Pt:=.is (.int .i64 0)
def sA0:SP:=⟨tD pi0,dd8++[.cells [.is (.ptr none),.is (.slice none 0 0)] 0 true 79]⟩
def sA1:SP:=⟨tD (.int .i64),dd8++[opB (T9 8) 9,.text 5]⟩
def sAE:SP:=⟨tDE,dd8++[opB (T9 8) 9,.text 5]⟩
def sB0:SP:=⟨tD pi0,dd8++[opB (T9 8) 9,.text 5]⟩
def sB1:SP:=⟨tD (.int .i64),dd8++[opB (T9 8) 10,.dead,.text 5]⟩
def sBE:SP:=⟨tDE,dd8++[opB (T9 8) 10,.dead,.text 5]⟩
def onX (a b:SP):AEx->SP
 | .exit 1=>b
 | _=>a
abbrev G8k (n d:List UInt8) (i:Int) (k:Nat) (t:List UInt8):Option (AEx × List Lf) :=
 brK (A9 (C9 n=0/\C9 d=0/\A7 d ≠ 0/\C9 (itoa ((A7 n).fmod (A7 d)))=0)) (some (.normal,[.s (itoa ((A7 n).fmod (A7 d))),.s d,.i i,.n k,.s t])) none
abbrev wrS (n d:List UInt8) (i:Int) (k:Nat) (t:List UInt8):Option (AEx × List Lf) :=
 brK (A9 (C9 n=0/\C9 d=0/\A7 d ≠ 0/\C9 (itoa ((A7 n).fdiv (A7 d)))=0)) (brK (decide (k=t.length) && decide (k+(itoa ((A7 n).fdiv (A7 d))).length < 2147483648))
  (G8k n d i (k+(itoa ((A7 n).fdiv (A7 d))).length) (t++itoa ((A7 n).fdiv (A7 d)))) none) none
abbrev E3f (n d:List UInt8) (i:Int) (k:Nat) (t:List UInt8):Option (AEx × List Lf) :=
 brK (A9 (C9 n=0/\C9 [49,48]=0/\True/\C9 (itoa (A7 n*A7 [49,48]))=0)) (wrS (itoa (A7 n*A7 [49,48])) d i k t) none
abbrev G4y (n d:List UInt8) (i:Int) (k:Nat) (t:List UInt8):Option (AEx × List Lf) :=
 brK (i == 1) (brK ((decide ((0:Int)<=46) && decide ((46:Int) < 256)) && (decide (k=t.length) && decide (k+1 < 2147483648))) (brK (decide (i > 0)) (E3f n d (W (i+1)) (k+1) (t++[Nat.toUInt8 46])) (wrS n d (W (i+1)) (k+1) (t++[Nat.toUInt8 46]))) none)
  (brK (decide (i > 0)) (E3f n d (W (i+1)) k t) (wrS n d (W (i+1)) k t))
abbrev E2v (n d:List UInt8) (i:Int) (k:Nat) (t:List UInt8):Option (AEx × List Lf) :=
 brK (i == 0) (G4y n d i k t) (brK (!(n == [48])) (G4y n d i k t) (some (.exit 1,[.n k,.s t])))
theorem rA0 (n d:List UInt8):E9 prog (C8 prog pD1 60) F7 A5a (sA0.rho [.s n,.s d]) (sA0.heap [.s n,.s d]) (H6 (onX sA1 sAE) 9 [8])=wrS n d 1 0 []:=by kernel_rfl
theorem rA1 (n d:List UInt8) (i:Int) (k:Nat) (t:List UInt8):E9 prog (C8 prog pD1 60) F7 A5a (sA1.rho [.s n,.s d,.i i,.n k,.s t]) (sA1.heap [.s n,.s d,.i i,.n k,.s t]) (H6 (onX sA1 sAE) 9 [8])=E2v n d i k t:=by kernel_rfl
theorem rB0 (n d t:List UInt8) (k:Nat):E9 prog (C8 prog pD1 60) F7 A5a (sB0.rho [.s n,.s d,.n k,.s t]) (sB0.heap [.s n,.s d,.n k,.s t]) (H6 (onX sB1 sBE) 10 [8,9])=wrS n d 1 k t:=by kernel_rfl
theorem rB1 (n d:List UInt8) (i:Int) (k:Nat) (t:List UInt8):E9 prog (C8 prog pD1 60) F7 A5a (sB1.rho [.s n,.s d,.i i,.n k,.s t]) (sB1.heap [.s n,.s d,.i i,.n k,.s t]) (H6 (onX sB1 sBE) 10 [8,9])=E2v n d i k t:=by kernel_rfl
theorem D3w {N d k:Nat} {i:Int} {t:List UInt8} (hN:N < 10 ^ 1024) (hd:0 < d) (hD:d < 10 ^ 1024) (hk:k=t.length) (hl:t.length+(itoa ((N / d:Nat):Int)).length < 2147483648) :
  wrS (itoa (N:Int)) (itoa (d:Int)) i k t=some (.normal,[.s (itoa ((N % d:Nat):Int)),.s (itoa (d:Int)),.i i,.n (t++itoa ((N / d:Nat):Int)).length,.s (t++itoa ((N / d:Nat):Int))]):=by
 subst hk
 have e1:=R7 hN
 have e2:=R7 hD
 have f1:(N:Int).fmod (d:Int)=((N % d:Nat):Int):=by rw [Int.fmod_eq_emod_of_nonneg _ (Int.natCast_nonneg _)]; rfl
 have f2:(N:Int).fdiv (d:Int)=((N / d:Nat):Int):=by rw [Int.fdiv_eq_ediv_of_nonneg _ (Int.natCast_nonneg _)]; rfl
 have l1:N % d<=N:=Nat.mod_le _ _
 have l2:N / d<=N:=Nat.div_le_self _ _
 have e3:C9 (itoa ((N % d:Nat):Int))=0:=Y6 e1 (by rw [Int.natAbs_natCast,Int.natAbs_natCast]; exact l1)
 have e4:C9 (itoa ((N / d:Nat):Int))=0:=Y6 e1 (by rw [Int.natAbs_natCast,Int.natAbs_natCast]; exact l2)
 have hd0:((d:Nat):Int) ≠ 0:=by omega
 unfold wrS G8k
 rw [D8,D8,f1,f2]
 generalize N % d=r at *
 generalize N / d=q at *
 rw [A8 ⟨e1,e2,hd0,e4⟩,A8 ⟨e1,e2,hd0,e3⟩,dT (show t.length=t.length from rfl),dT hl,List.length_append]
 rfl
theorem D8t:C9 [49,48]=0:=by decide
def A2u (i:Nat) (d K r:Nat):List UInt8:=(if i=1/\r ≠ 0 then [46] else [])++A8j d K r
theorem G0z {A:Amb} {s1 sE:SP} {m:Nat} {ds:List Nat} {prims:Prims} (hp:PrimOK prog A prims) (ok1:okD m ds 0 s1.h=true) (okE:okD m ds 0 sE.h=true)
  (hr:∀ n d i k t,E9 prog (C8 prog prims 60) F7 A5a (s1.rho [.s n,.s d,.i i,.n k,.s t]) (s1.heap [.s n,.s d,.i i,.n k,.s t]) (H6 (onX s1 sE) m ds)=E2v n d i k t)
  {Bb:Heap} (hB:Bb.length=m) {d:Nat} (hd:0 < d) (hD:d < 10 ^ 1000) :
  ∀ (K r i:Nat) (t:List UInt8),r < d->d ∣ r*10 ^ K->1<=i->i+K < 100000->t.length+2*K < 100000 ->
   SEB prog A Bb (.loop A5a) ⟨s1.rho [.s (itoa (r:Int)),.s (itoa (d:Int)),.i i,.n t.length,.s t],s1.heap [.s (itoa (r:Int)),.s (itoa (d:Int)),.i i,.n t.length,.s t],ds⟩ (.exit 1)
    ⟨sE.rho [.n (t++A2u i d K r).length,.s (t++A2u i d K r)],sE.heap [.n (t++A2u i d K r).length,.s (t++A2u i d K r)],ds⟩:=by
 intro K
 have okx:∀ e,okD m ds 0 (onX s1 sE e).h=true:=fun e=>by unfold onX; split <;> assumption
 induction K with
 | zero =>
  intro r i t hr0 hdv hi hi2 ht
  have h0:=E4g hdv hr0
  subst h0
  have hk:=hr (itoa ((0:Nat):Int)) (itoa (d:Int)) i t.length t
  have e0:(!(itoa ((0:Nat):Int) == [48]))=false:=by rw [Y0]; rfl
  have ei:((i:Int) == 0)=false:=by rw [beq_eq_false_iff_ne]; omega
  unfold E2v at hk
  rw [ei,e0,I8,I8] at hk
  have et:A2u i d 0 0=[]:=by unfold A2u A8j; rw [if_neg (by simp)]; rfl
  rw [et,List.append_nil]
  exact SEB.loop_exit (SEB.of_KP (A:=A) (B0:=Bb) (e:=.exit 1) (sp:=onX s1 sE) D5 D6 hp (.none _) hB hk (okx _)) (by simp)
 | succ K ih =>
  intro r i t hr0 hdv hi hi2 ht
  have hk:=hr (itoa (r:Int)) (itoa (d:Int)) i t.length t
  have ei:((i:Int) == 0)=false:=by rw [beq_eq_false_iff_ne]; omega
  unfold E2v at hk
  by_cases h0:r=0
  ·subst h0
   have e0:(!(itoa ((0:Nat):Int) == [48]))=false:=by rw [Y0]; rfl
   rw [ei,e0,I8,I8] at hk
   have et:A2u i d (K+1) 0=[]:=by unfold A2u; rw [A5w,if_neg (by simp)]; rfl
   rw [et,List.append_nil]
   exact SEB.loop_exit (SEB.of_KP (A:=A) (B0:=Bb) (e:=.exit 1) (sp:=onX s1 sE) D5 D6 hp (.none _) hB hk (okx _)) (by simp)
  ·have e0:(!(itoa (r:Int) == [48]))=true:=by rw [Y0,dF (by omega)]; rfl
   have hp10:=D6o 1001 1000 rfl
   have hb1:d < 10 ^ 1024:=A7z 1024 hD (by decide)
   have hb2:r*10 < 10 ^ 1024:=by
    refine Nat.lt_of_lt_of_le (m:=10 ^ 1001) ?_ (Nat.le_of_lt (F3u 1024 (by decide)))
    rw [hp10]
    generalize (10:Nat) ^ 1000=Z at *
    omega
   have hb3:r < 10 ^ 1024:=Nat.lt_trans hr0 hb1
   have hq:=B5y hd hr0
   have hq1:(itoa ((r*10 / d:Nat):Int)).length=1:=by rw [A9n hq]; rfl
   have em:E3f (itoa (r:Int)) (itoa (d:Int)) (W ((i:Int)+1)) t.length t=wrS (itoa ((r*10:Nat):Int)) (itoa (d:Int)) (W ((i:Int)+1)) t.length t:=by
    unfold E3f
    rw [D8,C7t,show (r:Int)*10=((r*10:Nat):Int) by omega,A8 ⟨R7 hb3,D8t,trivial,R7 hb2⟩]; rfl
   have em2:∀ u:List UInt8,E3f (itoa (r:Int)) (itoa (d:Int)) (W ((i:Int)+1)) u.length u=wrS (itoa ((r*10:Nat):Int)) (itoa (d:Int)) (W ((i:Int)+1)) u.length u:=fun u=>by
    unfold E3f
    rw [D8,C7t,show (r:Int)*10=((r*10:Nat):Int) by omega,A8 ⟨R7 hb3,D8t,trivial,R7 hb2⟩]; rfl
   have hW:W ((i:Int)+1)=((i+1:Nat):Int):=by rw [V7 (by omega) (by omega)]; omega
   rw [ei,e0,I8,E8] at hk
   unfold G4y at hk
   have hgt:decide ((i:Int) > 0)=true:=dT (by omega)
   by_cases hi1:i=1
   ·have e1:((i:Int) == 1)=true:=by rw [beq_iff_eq]; omega
    have hl1:t.length+1=(t++[Nat.toUInt8 46]).length:=by rw [List.length_append]; rfl
    rw [e1,E8,hgt,E8,hl1,em2,D3w hb2 hd hb1 rfl (by rw [hq1,<- hl1]; omega),hW,dT (show t.length=t.length from rfl),dT (show (t++[Nat.toUInt8 46]).length < 2147483648 by rw [<- hl1]; omega)] at hk
    have hs:=SEB.of_KP (A:=A) (B0:=Bb) (e:=.normal) (sp:=onX s1 sE) D5 D6 hp (.none _) hB hk (okx _)
    have hn:=ih (r*10 % d) (i+1) (t++[Nat.toUInt8 46]++itoa ((r*10 / d:Nat):Int)) (Nat.mod_lt _ hd) (C8r hdv) (by omega) (by omega) (by rw [List.length_append,hq1,<- hl1]; omega)
    have et:t++A2u i d (K+1) r=t++[Nat.toUInt8 46]++itoa ((r*10 / d:Nat):Int)++A2u (i+1) d K (r*10 % d):=by
     unfold A2u
     rw [if_pos ⟨hi1,h0⟩,if_neg (by omega),A3k h0,List.nil_append]
     simp only [List.append_assoc]
     rfl
    rw [et]
    exact SEB.loop_next hs hn
   ·have e1:((i:Int) == 1)=false:=by rw [beq_eq_false_iff_ne]; omega
    rw [e1,I8,hgt,E8,em2,D3w hb2 hd hb1 rfl (by rw [hq1]; omega),hW] at hk
    have hs:=SEB.of_KP (A:=A) (B0:=Bb) (e:=.normal) (sp:=onX s1 sE) D5 D6 hp (.none _) hB hk (okx _)
    have hn:=ih (r*10 % d) (i+1) (t++itoa ((r*10 / d:Nat):Int)) (Nat.mod_lt _ hd) (C8r hdv) (by omega) (by omega) (by rw [List.length_append,hq1]; omega)
    have et:t++A2u i d (K+1) r=t++itoa ((r*10 / d:Nat):Int)++A2u (i+1) d K (r*10 % d):=by
     unfold A2u
     rw [if_neg (by omega),if_neg (by omega),A3k h0,List.nil_append,List.nil_append]
     simp only [List.append_assoc]
    rw [et]
    exact SEB.loop_next hs hn
end Go.Proofs.Tryz
namespace Go.Proofs.Tryz
open Go.Ad
open Go.Lib (decDigits itoa nDigits decFrom digitVal)
def txD (g n d:List UInt8):List UInt8:=g++(itoa (((A7 n).toNat / (A7 d).toNat:Nat):Int)++B2w (A7 d).toNat ((A7 n).toNat % (A7 d).toNat))
def C5p (n d:List UInt8):Prop:=isZ n/\isZ d/\0<=A7 n/\0 < A7 d/\n.length<=1000/\d.length<=1000/\strip 5 (strip 2 (A7 d).toNat)=1
def G5t:List Lf->Tr (AEx × SP × List Lf)
 | [.s n,.s d]=>.br (A9 (C5p n d)) (.leaf (.normal,sAE,[.n (txD [] n d).length,.s (txD [] n d)])) .fail
 | _=>.fail
def G9q:List Lf->Tr (AEx × SP × List Lf)
 | [.s n,.s d,.n k,.s t]=>.br (A9 (C5p n d/\k=t.length/\t.length<=1)) (.leaf (.normal,sBE,[.n (txD t n d).length,.s (txD t n d)])) .fail
 | _=>.fail
theorem E1v {n d:List UInt8} (h:C5p n d):∃ N D:Nat,n=itoa (N:Int)/\d=itoa (D:Int)/\N < 10 ^ 1000/\D < 10 ^ 1000/\0 < D/\D ∣ 10 ^ (4*(itoa (D:Int)).length)/\(itoa (D:Int)).length<=1000/\(itoa (N:Int)).length<=1000:=by
 obtain ⟨z1,z2,h1,h2,h3,h4,h5⟩:=h
 obtain ⟨N,hN⟩:∃ N:Nat,A7 n=N:=⟨(A7 n).toNat,by omega⟩
 obtain ⟨D,hD⟩:∃ D:Nat,A7 d=D:=⟨(A7 d).toNat,by omega⟩
 unfold isZ at z1 z2
 rw [hN] at z1
 rw [hD] at z2 h2 h5
 rw [Int.toNat_natCast] at h5
 have l1:=X5 N
 have l2:=X5 D
 rw [<- z1] at l1
 rw [<- z2] at l2
 refine ⟨N,D,z1,z2,A7z 1000 l1 h3,A7z 1000 l2 h4,by omega,F4y (by omega) h5,by rw [<- z2]; exact h4,by rw [<- z1]; exact h3⟩
theorem E4l (d r:Nat):A2u 1 d (4*(itoa (d:Int)).length) r=B2w d r:=by
 unfold A2u B2w
 by_cases h:r=0
 ·rw [if_neg (by simp [h]),if_pos h,h,A5w]; rfl
 ·rw [if_pos ⟨rfl,h⟩,if_neg h]; rfl
theorem F8o {A:Amb} {s0 s1 sE:SP} {m:Nat} {ds:List Nat} {prims:Prims} {l0:List UInt8->List UInt8->List Lf} {t:List UInt8} (ht:t.length<=1) (hp:PrimOK prog A prims) (ok1:okD m ds 0 s1.h=true) (okE:okD m ds 0 sE.h=true)
  (h0:∀ n d,E9 prog (C8 prog prims 60) F7 A5a (s0.rho (l0 n d)) (s0.heap (l0 n d)) (H6 (onX s1 sE) m ds)=wrS n d 1 t.length t)
  (hr:∀ n d i k t,E9 prog (C8 prog prims 60) F7 A5a (s1.rho [.s n,.s d,.i i,.n k,.s t]) (s1.heap [.s n,.s d,.i i,.n k,.s t]) (H6 (onX s1 sE) m ds)=E2v n d i k t)
  {Bb:Heap} (hB:Bb.length=m) {n d:List UInt8} (h:C5p n d) :
  SEB prog A Bb (.loop A5a) ⟨s0.rho (l0 n d),s0.heap (l0 n d),ds⟩ (.exit 1) ⟨sE.rho [.n (txD t n d).length,.s (txD t n d)],sE.heap [.n (txD t n d).length,.s (txD t n d)],ds⟩:=by
 have okx:∀ e,okD m ds 0 (onX s1 sE e).h=true:=fun e=>by unfold onX; split <;> assumption
 obtain ⟨N,D,rfl,rfl,h1,h2,h3,h4,h5,h6⟩:=E1v h
 have hk:=h0 (itoa (N:Int)) (itoa (D:Int))
 have hle:(itoa ((N / D:Nat):Int)).length<=1000:=Nat.le_trans (A5p (Nat.div_le_self _ _)) h6
 rw [D3w (A7z 1024 h1 (by decide)) h3 (A7z 1024 h2 (by decide)) rfl (by omega)] at hk
 have hs:=SEB.of_KP (A:=A) (B0:=Bb) (e:=.normal) (sp:=onX s1 sE) D5 D6 hp (.none _) hB hk (okx _)
 have hn:=G0z (A:=A) hp ok1 okE hr hB h3 h2 (4*(itoa (D:Int)).length) (N % D) 1 (t++itoa ((N / D:Nat):Int)) (Nat.mod_lt _ h3) (Nat.dvd_trans h4 (Nat.dvd_mul_left _ _)) (by omega) (by omega) (by rw [List.length_append]; omega)
 rw [E4l] at hn
 have et:txD t (itoa (N:Int)) (itoa (D:Int))=t++itoa ((N / D:Nat):Int)++B2w D (N % D):=by
  unfold txD
  rw [D8,D8,Int.toNat_natCast,Int.toNat_natCast,List.append_assoc]
 rw [et]
 exact SEB.loop_next hs hn
def E8i:Blk:=fun ρ B=>match hookP sA0 9 [8] G5t ρ B with
 | .fail=>hookP sB0 10 [8,9] G9q ρ B
 | t=>t
def G1s:Prims:=pD1.addb 29 1 E8i
theorem F4r {A:Amb} (hT:Tab A) (hG:prog.globals.size<=A.G):PrimOK prog A G1s:=by
 have hp:=E8l hT hG
 refine PrimOK.addb hp func29 (show f29.body=some F2n by kernel_rfl) (body:=.loop A5a) (by kernel_rfl) fun ρ B e ρ' B' D h=>?_
 unfold E8i at h
 split at h
 ·refine M8 rfl (fun ls e sq l h=>?_) ρ B e ρ' B' D h
  unfold G9q at h
  split at h
  ·rename_i n d k t
   obtain ⟨hc,hv⟩:=Tr.br1 h
   cases hv
   obtain ⟨h1,rfl,h2⟩:=D7 hc
   exact ⟨⟨.inr rfl,.inr rfl,.inr rfl,.inr rfl,.inr rfl,.inr rfl,.inr rfl,.inr rfl,.inl rfl,.inl rfl,trivial⟩,fun Bb hB=>SEB.block_exit (id:=1) (F8o (s0:=sB0) (l0:=fun n d=>[.s n,.s d,.n t.length,.s t]) h2 hp rfl rfl (fun n d=>rB0 n d t t.length) rB1 hB h1)⟩
  ·cases h
 ·refine M8 rfl (fun ls e sq l h=>?_) ρ B e ρ' B' D h
  unfold G5t at h
  split at h
  ·rename_i n d
   obtain ⟨hc,hv⟩:=Tr.br1 h
   cases hv
   exact ⟨⟨.inr rfl,.inr rfl,.inr rfl,.inr rfl,.inr rfl,.inr rfl,.inr rfl,.inr rfl,.inl rfl,trivial⟩,fun Bb hB=>SEB.block_exit (id:=1) (F8o (s0:=sA0) (l0:=fun n d=>[.s n,.s d]) (t:=[]) (by simp) hp rfl rfl rA0 rA1 hB (D7 hc))⟩
  ·cases h
abbrev F6n (t:List UInt8):Option (List Lf):=brK (decide ((t.length:Int)=(t.length:Int)/\t.length=t.length/\t.length < 2147483648)) (some [.s t,.i 0]) none
abbrev G0m (n d:List UInt8):Option (List Lf):=brK (A9 (C5p n d)) (F6n (txD [] n d)) none
abbrev H1h (n d:List UInt8):Option (List Lf):=brK (A9 (C5p n d/\1=([45]:List UInt8).length/\([45]:List UInt8).length<=1)) (F6n (txD [45] n d)) none
abbrev D5f (a n d:List UInt8) (e:Int):Option (List Lf) :=
 brK (szH a) (brK (e != 0) (some [.s [],.i e]) (brK (A9 (C9 d=0/\0 < A7 d)) (brK (!decide (strip 5 (strip 2 (A7 d).toNat)=1)) (some [.s [],.i 14])
  (brK (decide ((n.length:Int) >= 1)) (brK (decide ((0:Int)<=1/\(1:Int)<=(n.length:Int)) && true) (brK (!((n.take 1).drop 0 == [45])) (G0m n d)
   (brK (true && decide ((0:Int)<=1/\(1:Int)<=(n.length:Int))) (H1h ((n.take n.length).drop 1) d) none)) none) (G0m n d))) none)) none
theorem H0l (a:List UInt8):(C8 prog G1s 60).call 29 (spS1.rho [.s a]) (spS1.heap [.s a]) (O8 A1i 8 [])=D5f a (V9 a).1.1 (V9 a).1.2 (V9 a).2:=by kernel_rfl
theorem F7e {α:Type} {c:Bool} {x y:Option α}:brK (!c) x y=brK c y x:=by cases c <;> rfl
theorem E0j {t:List UInt8} (h:t.length < 100000):F6n t=some [.s t,.i 0]:=by
 unfold F6n
 rw [dT (show (t.length:Int)=(t.length:Int)/\t.length=t.length/\t.length < 2147483648 from ⟨rfl,rfl,by omega⟩)]; rfl
theorem D9b {g n d:List UInt8} (hg:g.length<=1) (h:C5p n d):(txD g n d).length < 100000:=by
 obtain ⟨N,D,rfl,rfl,h1,h2,h3,h4,h5,h6⟩:=E1v h
 have hle:(itoa ((N / D:Nat):Int)).length<=1000:=Nat.le_trans (A5p (Nat.div_le_self _ _)) h6
 have hf:(B2w D (N % D)).length<=4001:=by
  unfold B2w
  split
  ·simp
  ·have:=D1c h3 (4*(itoa (D:Int)).length) (N % D) (Nat.mod_lt _ h3)
   rw [List.length_cons]; omega
 unfold txD
 rw [D8,D8,Int.toNat_natCast,Int.toNat_natCast,List.length_append,List.length_append]
 omega
theorem C2o {N:Int} (h:N < 0):((itoa N).take (itoa N).length).drop 1=itoa ((N.natAbs:Nat):Int):=by
 rw [List.take_length]
 unfold itoa
 rw [if_pos h,if_neg (by omega)]
 rfl
theorem E5h {a:List UInt8} (h:a.length<=900):D5f a (V9 a).1.1 (V9 a).1.2 (V9 a).2=some [.s (A8l a).1,.i (A8l a).2]:=by
 unfold D5f A8l V9
 have hz:szH a=true:=dT (by omega)
 rw [hz,E8]
 by_cases h0:A0r a=0
 ·rw [if_neg (by simpa using h0),if_neg (by simpa using h0)]
  obtain ⟨e1,e2,e3,e4⟩:=C7c h0
  obtain ⟨l1,l2⟩:=D1d a
  generalize (H5 a).1=n at *
  generalize (H5 a).2.1=d at *
  dsimp only
  rw [show ((0:Int) != 0)=false from rfl,I8,A8 ⟨e2,by omega⟩,E8]
  by_cases hs:strip 5 (strip 2 (A7 d).toNat)=1
  ·rw [if_neg (by simpa using hs),dT hs,show (!true)=false from rfl,I8,F7e,B7y e1]
   have zd:=X0 e2
   have zn:=X0 e1
   have hbt:(true && decide ((0:Int)<=1/\(1:Int)<=(n.length:Int)))=true \/ n=[]:=by
    cases n with
    | nil=>exact .inr rfl
    | cons b r=>exact .inl (by rw [dT (show (0:Int)<=1/\(1:Int)<=((List.length (b :: r):Nat):Int) by simp; omega)]; rfl)
   have hne:n ≠ []:=fun e=>by rw [e] at e1; revert e1; decide
   have hbt:=hbt.resolve_right hne
   by_cases hm:A7 n < 0
   ·rw [if_pos hm,hbt,E8]
    have hdr:(n.take n.length).drop 1=itoa (((A7 n).natAbs:Nat):Int):=by
     have:=C2o hm
     rwa [<- zn] at this
    rw [hdr]
    have hln:(itoa (((A7 n).natAbs:Nat):Int)).length<=1000:=by
     rw [<- hdr,List.length_drop,List.take_length]; omega
    have hok:C5p (itoa (((A7 n).natAbs:Nat):Int)) d:=⟨K8 _,zd,by rw [D8]; exact Int.natCast_nonneg _,by omega,hln,by omega,hs⟩
    unfold H1h
    rw [A8 ⟨hok,rfl,by decide⟩,E8,E0j (D9b (by decide) hok)]
    unfold txD D5l
    rw [if_pos hm,D8,Int.toNat_natCast]
   ·rw [if_neg hm]
    have hok:C5p n d:=⟨zn,zd,by omega,by omega,by omega,by omega,hs⟩
    unfold G0m
    rw [A8 hok,E8,E0j (D9b (by decide) hok)]
    unfold txD D5l
    rw [if_neg hm,show (A7 n).natAbs=(A7 n).toNat by omega]
  ·rw [if_pos hs,dF hs]; rfl
 ·rw [if_pos h0,if_pos h0]
  dsimp only
  rw [show (A0r a != 0)=true by simpa using h0]; rfl
def T29:List Lf->Tr (SP × List Lf)
 | [.s a]=>.br (decide (a.length<=900)) (.leaf (A1i,[.s (A8l a).1,.i (A8l a).2])) .fail
 | _=>.fail
def pD2:Prims:=pD1.addh 29 (G8 8 (funQ spS1 8 [] T29))
theorem C6z {A:Amb} (hT:Tab A) (hG:prog.globals.size<=A.G):PrimOK prog A pD2:=by
 refine (E8l hT hG).addl gsz func29 (by kernel_rfl) (I6 D5 D6 rfl fun ls sq l h=>?_)
 unfold T29 at h
 split at h
 ·rename_i a
  obtain ⟨hc,hv⟩:=Tr.br1 h
  cases hv
  exact ⟨⟨.inr rfl,.inr rfl,.inr rfl,.inr rfl,.inr rfl,.inr rfl,.inr rfl,.inr rfl,trivial⟩,rfl,G1s,60,_,F4r hT hG,(H0l a).trans (E5h (of_decide_eq_true hc)),fun _ _=>.refl⟩
 ·cases h
end Go.Proofs.Tryz
namespace Go.Proofs.Tryz
open Go.Ad
open Go.Lib (decDigits itoa nDigits decFrom digitVal)
def pDr:Prims:=pV1.over pD2
theorem G0i {A:Amb} (hT:Tab A) (hG:prog.globals.size<=A.G):PrimOK prog A pDr:=(G4h hT hG).over (C6z hT hG)
theorem F8z (n q:Nat):(n:Int).fdiv (q:Int)=((n / q:Nat):Int):=by rw [Int.fdiv_eq_ediv_of_nonneg _ (Int.natCast_nonneg _)]; rfl
end Go.Proofs.Tryz
namespace Go.Proofs.Tryz
open Go.Ad
open Go.Lib (decDigits itoa nDigits decFrom digitVal)
end Go.Proofs.Tryz
