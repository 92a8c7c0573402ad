/- Numbers of any size, written as texts. -/
import Derived.Test.YtkfabaoichndpaaGreatDoorBig5
import Derived.Test.YtkfabaoichndpaaGreatDoorAdNum
noncomputable section
namespace Go.Proofs.Tryz
open Go.Ad
open Go.Lib (decDigits itoa)
def D7u:Code:=f118.body.getD .skip
def A7l:Code:=J3 (K6 0 D7u)
def tX0:List Pt:=[pW 8,.drop,.drop,pW 9,.int .i64]++dr 46
def sX10:SP:=⟨tX0,dd8++[opW,opB (T9 9) 10,.text 5]⟩
def sX11:SP:=⟨tX0,dd8++[opW,opB (T9 9) 11,.dead,.text 5]⟩
def sX12:SP:=⟨tX0,dd8++[opW,opB (T9 9) 12,.dead,.dead,.text 5]⟩
def onN (a b:SP):AEx->SP
 | .normal=>a
 | _=>b
def A5i (i:Int) (l:Bool) (n:Int) (f:Nat->Int) (k:Nat) (s:List UInt8):List Lf:=[.i i,.b l,.i n,.n 232,.f f,.n k,.s s]
def z9:List UInt8:=[48,48,48,48,48,48,48,48,48]
abbrev itF (f:Nat->Int) (i:Int):List UInt8:=itoa (f i.toNat)
abbrev A2u (i:Int) (l:Bool) (n:Int) (f:Nat->Int) (k:Nat) (s u:List UInt8):Option (AEx × List Lf) :=
 brK (decide (i >= 0)) (brK (decide (0<=i/\i < 232)) (brK (decide (i.toNat < 232)) (brK (decide (-9223372036854775808<=f i.toNat/\f i.toNat<=9223372036854775807)) (brK (true && decide (0<=(u.length:Int)/\(u.length:Int)<=9))
  (brK (decide (((z9.take 9).drop u.length).length+u.length < 4611686018427387904)) (brK (decide (k=s.length) && decide (k+((z9.take 9).drop u.length++u).length < 2147483648))
   (some (.normal,[.i (W (i - 1)),.b l,.i n,.n 232,.f f,.n (k+((z9.take 9).drop u.length++u).length),.s (s++((z9.take 9).drop u.length++u))])) none) none) none) none) none) none)
  (some (.exit 0,[.i i,.b l,.i n,.n 232,.f f,.n k,.s s]))
section
variable (i:Int) (l:Bool) (n:Int) (f:Nat->Int) (k:Nat) (s:List UInt8)
theorem H0t:F3 prog (C9 prog pBig11 60) F8 A7l (sX10.rho (A5i i l n f k s)) (sX10.heap (A5i i l n f k s)) (H5 (onN sX11 sX10) 11 [9,10])=A2u i l n f k s (itF f i):=by kernel_rfl
theorem G6b:F3 prog (C9 prog pBig11 60) F8 A7l (sX11.rho (A5i i l n f k s)) (sX11.heap (A5i i l n f k s)) (H5 (onN sX11 sX11) 11 [9,10])=A2u i l n f k s (itF f i):=by kernel_rfl
theorem G9t:F3 prog (C9 prog pBig11 60) F8 A7l (sX11.rho (A5i i l n f k s)) (sX11.heap (A5i i l n f k s)) (H5 (onN sX12 sX11) 12 [9,11])=A2u i l n f k s (itF f i):=by kernel_rfl
theorem G5v:F3 prog (C9 prog pBig11 60) F8 A7l (sX12.rho (A5i i l n f k s)) (sX12.heap (A5i i l n f k s)) (H5 (onN sX12 sX12) 12 [9,11])=A2u i l n f k s (itF f i):=by kernel_rfl
end
def txI (g:List UInt8) (V i:Nat):List UInt8:=g++decDigits (V / BB ^ i)
def A7q (g:List UInt8) (l:Bool) (V i:Nat):List Lf:=A5i ((i:Int) - 1) l (wn V) (wf V) (txI g V i).length (txI g V i)
theorem C6w {g:List UInt8} {V i:Nat} (hg:g.length<=1) (hV:wn V<=232):(txI g V i).length<=2089:=by
 unfold txI
 rw [List.length_append]
 have:=B3p (U:=V / BB ^ i) (A0a (Nat.lt_of_le_of_lt (Nat.div_le_self _ _) (C4j.1 hV)))
 omega
theorem B5q {g:List UInt8} {l:Bool} {V i:Nat} (hg:g.length<=1) (hV:wn V<=232) (hi:i+1 < wn V) :
  A2u (((i+1:Nat):Int) - 1) l (wn V) (wf V) (txI g V (i+1)).length (txI g V (i+1)) (itF (wf V) (((i+1:Nat):Int) - 1))=some (.normal,A7q g l V i):=by
 have e0:((i+1:Nat):Int) - 1=i:=by omega
 obtain ⟨t1,t2⟩:=E7u (V:=V) (i:=i) hi
 have hu:itF (wf V) ((i:Nat):Int)=decDigits (wd V i):=by
  show itoa (wf V ((i:Nat):Int).toNat)=_
  rw [Int.toNat_natCast]
  exact Lib.itoa_nonneg (wd V i)
 have hw:=A5d V i
 have hB:BB=1000000000:=rfl
 have hz:(z9.take 9).drop (decDigits (wd V i)).length=List.replicate (9 - (decDigits (wd V i)).length) 48:=by
  have:z9.take 9=List.replicate 9 48:=rfl
  rw [this,List.drop_replicate]
 have hlen:=C6w (g:=g) (V:=V) (i:=i) hg hV
 have hnext:txI g V (i+1)++(List.replicate (9 - (decDigits (wd V i)).length) 48++decDigits (wd V i))=txI g V i:=by
  unfold txI
  rw [List.append_assoc,t1]
 have hl2:(txI g V (i+1)).length+(List.replicate (9 - (decDigits (wd V i)).length) (48:UInt8)++decDigits (wd V i)).length=(txI g V i).length:=by rw [<- List.length_append,hnext]
 have hl3:(List.replicate (9 - (decDigits (wd V i)).length) (48:UInt8)).length+(decDigits (wd V i)).length<=9:=by simp; omega
 unfold A2u
 rw [e0,hu,hz,hl2,hnext,Int.toNat_natCast]
 have e2:W ((i:Int) - 1)=(i:Int) - 1:=by rw [W,wrap64 (by omega) (by omega)]
 have hwf:wf V i=(wd V i:Int):=rfl
 rw [e2,hwf,dT (show (i:Int) >= 0 by omega),dT (show 0<=(i:Int)/\(i:Int) < 232 by omega),dT (show i < 232 by omega),dT (show -9223372036854775808<=(wd V i:Int)/\(wd V i:Int)<=9223372036854775807 by omega),
  dT (show 0<=((decDigits (wd V i)).length:Int)/\((decDigits (wd V i)).length:Int)<=9 by omega),dT (show (List.replicate (9 - (decDigits (wd V i)).length) (48:UInt8)).length+(decDigits (wd V i)).length < 4611686018427387904 by omega),
  dT (show (txI g V (i+1)).length=(txI g V (i+1)).length from rfl),dT (show (txI g V i).length < 2147483648 by omega)]
 simp only [B7i,Bool.and_self,if_true]
 rfl
theorem C0i {g:List UInt8} {l:Bool} {V:Nat} {u:List UInt8}:A2u (((0:Nat):Int) - 1) l (wn V) (wf V) (txI g V 0).length (txI g V 0) u=some (.exit 0,A7q g l V 0):=by
 unfold A2u
 rw [dF (show ¬ ((0:Nat):Int) - 1 >= 0 by omega)]
 rfl
def TX (sp0 sp1:SP) (g:List UInt8):List Lf->Tr (AEx × SP × List Lf)
 | [.i i,.b l,.i n,.n m,.f f,.n k,.s s]=>.br (A9 (m=232/\isW n f/\E9 n f ≠ 0/\i=n - 2/\s=txI g (E9 n f) (n - 1).toNat/\k=s.length))
  (.br (decide (n >= 2)) (.leaf (.normal,sp1,A7q g l (E9 n f) 0)) (.leaf (.normal,sp0,A7q g l (E9 n f) 0))) .fail
 | _=>.fail
section
variable {A:Amb} (hT:Tab A) (hG:gN prog<=A.G)
include hT hG
theorem G8v {sp0 sp1:SP} {m:Nat} {ds:List Nat} {g:List UInt8} (hg:g.length<=1) (ok0:okD m ds 0 sp0.h=true) (ok1:okD m ds 0 sp1.h=true)
  (ra:∀ i l n f k s,F3 prog (C9 prog pBig11 60) F8 A7l (sp0.rho (A5i i l n f k s)) (sp0.heap (A5i i l n f k s)) (H5 (onN sp1 sp0) m ds)=A2u i l n f k s (itF f i))
  (rb:∀ i l n f k s,F3 prog (C9 prog pBig11 60) F8 A7l (sp1.rho (A5i i l n f k s)) (sp1.heap (A5i i l n f k s)) (H5 (onN sp1 sp1) m ds)=A2u i l n f k s (itF f i))
  {l:Bool} {V:Nat} (hV:wn V<=232) (h0:V ≠ 0) {Bb:Heap} (hB:Bb.length=m) :
  SEB prog A Bb (.loop A7l) ⟨sp0.rho (A7q g l V (wn V - 1)),sp0.heap (A7q g l V (wn V - 1)),ds⟩ (.exit 0)
   (bif decide ((wn V:Int) >= 2) then ⟨sp1.rho (A7q g l V 0),sp1.heap (A7q g l V 0),ds⟩ else ⟨sp0.rho (A7q g l V 0),sp0.heap (A7q g l V 0),ds⟩):=by
 have hp:=B3x hT hG
 have okx:∀ (a b:SP),okD m ds 0 a.h=true->okD m ds 0 b.h=true->∀ e,okD m ds 0 (onN a b e).h=true:=fun a b ha hb e=>by cases e <;> assumption
 have hpos:0 < wn V:=by rw [A4k h0]; omega
 have rest:∀ i,i+1<=wn V->SEB prog A Bb (.loop A7l) ⟨sp1.rho (A7q g l V i),sp1.heap (A7q g l V i),ds⟩ (.exit 0) ⟨sp1.rho (A7q g l V 0),sp1.heap (A7q g l V 0),ds⟩:=by
  intro i hi
  refine SEB.while (fun i:Nat=>i+1<=wn V) (fun i=>i) (fun i=>⟨sp1.rho (A7q g l V i),sp1.heap (A7q g l V i),ds⟩) (fun _=>(.exit 0,⟨sp1.rho (A7q g l V 0),sp1.heap (A7q g l V 0),ds⟩)) (fun i hi=>?_) i hi
  cases i with
  | zero=>right; exact ⟨by simp,SEB.of_KP (e:=.exit 0) (sp:=onN sp1 sp1) D6 D7 hp (.none _) hB ((rb _ _ _ _ _ _).trans C0i) (okx _ _ ok1 ok1 _)⟩
  | succ i=>left; exact ⟨i,by omega,by omega,rfl,SEB.of_KP (e:=.normal) (sp:=onN sp1 sp1) D6 D7 hp (.none _) hB ((rb _ _ _ _ _ _).trans (B5q hg hV (by omega))) (okx _ _ ok1 ok1 _)⟩
 by_cases h2:(wn V:Int) >= 2
 ·rw [dT h2,cond_true]
  obtain ⟨j,hj⟩:∃ j,wn V - 1=j+1:=⟨wn V - 2,by omega⟩
  rw [hj]
  exact SEB.loop_next (SEB.of_KP (e:=.normal) (sp:=onN sp1 sp0) D6 D7 hp (.none _) hB ((ra _ _ _ _ _ _).trans (B5q hg hV (by omega))) (okx _ _ ok1 ok0 _)) (rest j (by omega))
 ·rw [dF h2,cond_false]
  have hj:wn V - 1=0:=by omega
  rw [hj]
  exact SEB.loop_exit (SEB.of_KP (e:=.exit 0) (sp:=onN sp1 sp0) D6 D7 hp (.none _) hB ((ra _ _ _ _ _ _).trans C0i) (okx _ _ ok1 ok0 _)) (by simp)
theorem D1y {sp0 sp1:SP} {m:Nat} {ds:List Nat} {g:List UInt8} (hg:g.length<=1) (ok0:okD m ds 0 sp0.h=true) (ok1:okD m ds 0 sp1.h=true)
  (ra:∀ i l n f k s,F3 prog (C9 prog pBig11 60) F8 A7l (sp0.rho (A5i i l n f k s)) (sp0.heap (A5i i l n f k s)) (H5 (onN sp1 sp0) m ds)=A2u i l n f k s (itF f i))
  (rb:∀ i l n f k s,F3 prog (C9 prog pBig11 60) F8 A7l (sp1.rho (A5i i l n f k s)) (sp1.heap (A5i i l n f k s)) (H5 (onN sp1 sp1) m ds)=A2u i l n f k s (itF f i))
  (f0:∀ i l n f k s i' k' s',frP ds 0 (sp0.heap (A5i i l n f k s)) (sp0.heap (A5i i' l n f k' s'))) (f1:∀ i l n f k s i' k' s',frP ds 0 (sp0.heap (A5i i l n f k s)) (sp1.heap (A5i i' l n f k' s'))) :
  ∀ ρ B e' ρ' B' D,(hookP sp0 m ds (TX sp0 sp1 g) ρ B).get=some (e',ρ',B',D)->AFr B B' D/\SEB prog A B (.block 0 (.loop A7l)) ⟨ρ,B,[]⟩ e' ⟨ρ',B',D⟩:=by
 refine O8 ok0 fun ls e sq l h=>?_
 unfold TX at h
 split at h
 ·rename_i i lb n m' f k s
  obtain ⟨hc,hv⟩:=Tr.br1 h
  obtain ⟨rfl,w,hV0,hi,hs,hk⟩:=D9 hc
  obtain ⟨a1,a2,a3⟩:=S9 w
  generalize hV:E9 n f=V at *
  subst a1 a2
  have hpos:0 < wn V:=by rw [A4k hV0]; omega
  have e1:((wn V:Int) - 1).toNat=wn V - 1:=by omega
  have e2:i=((wn V - 1:Nat):Int) - 1:=by omega
  rw [e1] at hs
  subst hs hk e2
  have key:=fun (Bb:Heap) (hB:Bb.length=m)=>G8v hT hG hg ok0 ok1 ra rb (l:=lb) a3 hV0 hB
  by_cases h2:(wn V:Int) >= 2
  ·rw [dT h2] at hv
   cases hv
   refine ⟨f1 _ _ _ _ _ _ _ _ _,fun Bb hB=>SEB.block_exit (id:=0) ?_⟩
   have:=key Bb hB
   rwa [dT h2,cond_true] at this
  ·rw [dF h2] at hv
   cases hv
   refine ⟨f0 _ _ _ _ _ _ _ _ _,fun Bb hB=>SEB.block_exit (id:=0) ?_⟩
   have:=key Bb hB
   rwa [dF h2,cond_false] at this
 ·cases h
end
def F8k:Blk:=fun ρ B=>match hookP sX10 11 [9,10] (TX sX10 sX11 []) ρ B with
 | .fail=>hookP sX11 12 [9,11] (TX sX11 sX12 [45]) ρ B
 | t=>t
def F0b:Prims:=pBig11.addb 118 0 F8k
theorem F1f {A:Amb} (hT:Tab A) (hG:gN prog<=A.G):PrimOK prog A F0b:=by
 refine PrimOK.addb (B3x hT hG) func118 (show f118.body=some D7u by kernel_rfl) (body:=.loop A7l) (by kernel_rfl) fun ρ B e ρ' B' D h=>?_
 unfold F8k at h
 split at h
 ·exact D1y hT hG (g:=[45]) (by simp) rfl rfl G9t G5v (fun _ _ _ _ _ _ _ _ _=>⟨.inr rfl,.inr rfl,.inr rfl,.inr rfl,.inr rfl,.inr rfl,.inr rfl,.inr rfl,.inr rfl,.inl rfl,.inr rfl,.inl rfl,trivial⟩)
   (fun _ _ _ _ _ _ _ _ _=>⟨.inr rfl,.inr rfl,.inr rfl,.inr rfl,.inr rfl,.inr rfl,.inr rfl,.inr rfl,.inr rfl,.inl rfl,.inr rfl,.inl rfl,trivial⟩) _ _ _ _ _ _ h
 ·exact D1y hT hG (g:=[]) (by simp) rfl rfl H0t G6b (fun _ _ _ _ _ _ _ _ _=>⟨.inr rfl,.inr rfl,.inr rfl,.inr rfl,.inr rfl,.inr rfl,.inr rfl,.inr rfl,.inr rfl,.inl rfl,.inl rfl,trivial⟩)
   (fun _ _ _ _ _ _ _ _ _=>⟨.inr rfl,.inr rfl,.inr rfl,.inr rfl,.inr rfl,.inr rfl,.inr rfl,.inr rfl,.inr rfl,.inl rfl,.inl rfl,trivial⟩) _ _ _ _ _ _ h
def G5k:SP:=⟨[.str],dd8++[opW]⟩
abbrev G4w (g:List UInt8) (V:Nat) (l:Bool) (n:Int) (f:Nat->Int):Option (List Lf) :=
 brK (decide (((txI g V 0).length:Int)=((txI g V 0).length:Int)/\(txI g V 0).length=(txI g V 0).length/\(txI g V 0).length < 2147483648)) (some [.s (txI g V 0),.b l,.i n,.n 232,.f f]) none
abbrev F5u (g s0:List UInt8) (c:Nat) (l:Bool) (n:Int) (f:Nat->Int) (u:List UInt8) (V:Nat):Option (List Lf) :=
 brK (decide (0<=W (n - 1)/\W (n - 1) < 232)) (brK (decide ((W (n - 1)).toNat < 232)) (brK (decide (-9223372036854775808<=f (W (n - 1)).toNat/\f (W (n - 1)).toNat<=9223372036854775807)) (brK (decide (c=s0.length) && decide (c+u.length < 2147483648))
  (brK (A9 (232=232/\isW n f/\V ≠ 0/\W (n - 2)=n - 2/\s0++u=txI g V (n - 1).toNat/\c+u.length=(s0++u).length)) (brK (decide (n >= 2)) (G4w g V l n f) (G4w g V l n f)) none) none) none) none) none
theorem G3f (l:Bool) (n:Int) (f:Nat->Int):(C9 prog F0b 60).call 118 (spW1.rho (lfT l n f)) (spW1.heap (lfT l n f)) (A1j G5k 9 []) =
  brK (n == 0) (some [.s [48],.b l,.i n,.n 232,.f f]) (brK l (F5u [45] [45] 1 l n f (itF f (W (n - 1))) (E9 n f)) (F5u [] [] 0 l n f (itF f (W (n - 1))) (E9 n f))):=by kernel_rfl
theorem D8c {g:List UInt8} {l:Bool} {V:Nat} (hg:g.length<=1) (hV:wn V<=232) (h0:V ≠ 0):F5u g g g.length l (wn V) (wf V) (itF (wf V) (W ((wn V:Int) - 1))) V=some (.s (g++decDigits V) :: lfT l (wn V) (wf V)):=by
 have hpos:0 < wn V:=by rw [A4k h0]; omega
 have hB:BB=1000000000:=rfl
 have hw:=A5d V (wn V - 1)
 have e1:W ((wn V:Int) - 1)=((wn V - 1:Nat):Int):=by rw [W,wrap64 (by omega) (by omega)]; omega
 have e2:W ((wn V:Int) - 2)=(wn V:Int) - 2:=by rw [W,wrap64 (by omega) (by omega)]
 have e3:((wn V:Int) - 1).toNat=wn V - 1:=by omega
 have hu:itF (wf V) ((wn V - 1:Nat):Int)=decDigits (wd V (wn V - 1)):=by
  show itoa (wf V ((wn V - 1:Nat):Int).toNat)=_
  rw [Int.toNat_natCast]
  exact Lib.itoa_nonneg _
 have ht:g++decDigits (wd V (wn V - 1))=txI g V (wn V - 1):=by unfold txI; rw [F6b h0]
 have hl:=C6w (g:=g) (V:=V) (i:=wn V - 1) hg hV
 have hl0:=C6w (g:=g) (V:=V) (i:=0) hg hV
 have hl2:g.length+(decDigits (wd V (wn V - 1))).length=(txI g V (wn V - 1)).length:=by rw [<- ht,List.length_append]
 unfold F5u
 rw [e1,e2,e3,hu,ht,Int.toNat_natCast]
 have hwf:wf V (wn V - 1)=(wd V (wn V - 1):Int):=rfl
 rw [hwf,dT (show 0<=((wn V - 1:Nat):Int)/\((wn V - 1:Nat):Int) < 232 by omega),dT (show wn V - 1 < 232 by omega),dT (show -9223372036854775808<=(wd V (wn V - 1):Int)/\(wd V (wn V - 1):Int)<=9223372036854775807 by omega),
  dT (show g.length=g.length from rfl),hl2,dT (show (txI g V (wn V - 1)).length < 2147483648 by omega),
  A8 (show _/\_ from ⟨rfl,M9 hV,h0,rfl,rfl,rfl⟩)]
 unfold G4w
 rw [dT (show ((txI g V 0).length:Int)=((txI g V 0).length:Int)/\(txI g V 0).length=(txI g V 0).length/\(txI g V 0).length < 2147483648 from ⟨rfl,rfl,by omega⟩)]
 have hz:txI g V 0=g++decDigits V:=by unfold txI; rw [Nat.pow_zero,Nat.div_one]
 rw [hz]
 simp only [B7i,Bool.and_self,if_true,ite_self]
 rfl
def G6n:List Lf->Tr (SP × List Lf)
 | [.b l,.i n,.n m,.f f]=>.br (A9 (m=232/\isW n f)) (.leaf (G5k,.s (itoa (sv l (E9 n f))) :: lfT l n f)) .fail
 | _=>.fail
def pBig12:Prims:=pBig11.addh 118 (H9 8 (funP spW1 9 [] G6n))
theorem E2v {A:Amb} (hT:Tab A) (hG:gN prog<=A.G):PrimOK prog A pBig12:=by
 refine (B3x hT hG).addl gsz func118 (by kernel_rfl) (L8 D6 D7 rfl fun ls sq l h=>?_)
 unfold G6n at h
 split at h
 ·rename_i lb n m f
  obtain ⟨hc,hv⟩:=Tr.br1 h
  cases hv
  obtain ⟨rfl,w⟩:=D9 hc
  refine ⟨⟨.inr rfl,.inr rfl,.inr rfl,.inr rfl,.inr rfl,.inr rfl,.inr rfl,.inr rfl,.inr rfl,trivial⟩,rfl,rfl,F0b,60,F1f hT hG,(G3f _ _ f).trans ?_⟩
  obtain ⟨a1,a2,a3⟩:=S9 w
  generalize hV:E9 n f=V at *
  subst a1 a2
  by_cases h0:V=0
  ·subst h0
   rw [E1v,Y9]
   rfl
  ·have hpos:0 < wn V:=by rw [A4k h0]; omega
   have:(((wn V:Nat):Int) == 0)=false:=by rw [beq_eq_false_iff_ne]; omega
   rw [this,F5b h0]
   cases lb with
   | true=>exact D8c (g:=[45]) (by simp) a3 h0
   | false=>exact D8c (g:=[]) (by simp) a3 h0
 ·cases h
end Go.Proofs.Tryz
namespace Go.Proofs.Tryz
open Go.Ad
open Go.Lib (decDigits itoa)
def T40:List Lf->Tr AV
 | [.s a]=>.leaf (.sstr (F6 a))
 | _=>.fail
theorem G8o (a:List UInt8):(C9 prog lib2 60).call 108 [.sstr a,.str [45]] (Bg 8) G9 =
  brK (decide ((a.length:Int) >= 1)) (brK (decide ((0:Int)<=1/\(1:Int)<=(a.length:Int)) && true) (brK ((a.take 1).drop 0 == [45]) (brK (true && decide ((0:Int)<=1/\(1:Int)<=(a.length:Int))) (some (.sstr ((a.take a.length).drop 1))) none) (some (.sstr a))) none) (some (.sstr a)):=by kernel_rfl
theorem F1s (a:List UInt8):(C9 prog lib2 60).call 108 [.sstr a,.str [45]] (Bg 8) G9=some (.sstr (F6 a)):=by
 rw [G8o]
 cases a with
 | nil=>rfl
 | cons b r =>
  have h1:decide (((b :: r).length:Int) >= 1)=true:=dT (by simp; omega)
  have h2:decide ((0:Int)<=1/\(1:Int)<=((b :: r).length:Int))=true:=dT ⟨by omega,by simp; omega⟩
  rw [h1,h2,List.take_length]
  simp only [List.take_succ_cons,List.take_zero,List.drop_zero,List.drop_succ_cons]
  by_cases hb:b=45
  ·subst hb
   rw [show ([(45:UInt8)] == [45])=true from rfl]
   rfl
  ·have:([b] == [(45:UInt8)])=false:=by rw [beq_eq_false_iff_ne]; intro e; cases e; exact hb rfl
   have ha:F6 (b :: r)=b :: r:=by
    unfold F6
    split
    ·rename_i e; cases e; exact (hb rfl).elim
    ·rfl
   rw [this,ha]
   rfl
def pBig13:Prims:=pBig12.addt 108 (gP [.str,.is (.str [45])] T40)
theorem C2r {A:Amb} (hT:Tab A) (hG:gN prog<=A.G):PrimOK prog A pBig13:=by
 refine PrimOK.addP D6 D7 (I8 hT) (E2v hT hG) hG func108 (by kernel_rfl) fun ls v h=>?_
 unfold T40 at h
 split at h
 ·rename_i a
  cases h
  exact ⟨rfl,60,_,by rw [gsz]; exact F1s a,rfl,fun _ _ h=>h⟩
 ·cases h
abbrev G0d (a d:List UInt8):Option AV :=
 brK (d == []) (some (.int .i64 3)) (brK (decide (d.length<=9223372036854775807)) (brK (!(Lib.trimS d [48,49,50,51,52,53,54,55,56,57] == [])) (some (.int .i64 3))
  (brK (decide ((0:Int)<=0/\(0:Int) < (d.length:Int))) (brK (((d.getD 0 0).toNat:Int) == 48) (brK (!(a == [48])) (some (.int .i64 3)) (brK (decide ((d.length:Int) > 1024)) (some (.int .i64 11)) (some (.int .i64 0))))
   (brK (decide ((d.length:Int) > 1024)) (some (.int .i64 11)) (some (.int .i64 0)))) none)) none)
theorem G9b (a:List UInt8):(C9 prog pBig13 60).call 63 [.sstr a] (Bg 8) G9=G0d a (F6 a):=by kernel_rfl
theorem F2i (a:List UInt8):(F6 a).length<=a.length:=by
 unfold F6
 split
 ·simp
 ·exact Nat.le_refl _
theorem F6a {a:List UInt8} (hs:F4 a=true):G0d a (F6 a)=some (.int .i64 (D5 a)):=by
 have hs:=of_decide_eq_true hs
 have hl:=F2i a
 have e1:(Lib.trimS (F6 a) [48,49,50,51,52,53,54,55,56,57] == [])=(F6 a).all F5:=D3h (F6 a)
 unfold G0d D5
 rw [e1,dT (show (F6 a).length<=9223372036854775807 by omega)]
 by_cases h0:F6 a=[]
 ·rw [if_pos (.inl h0),h0]; rfl
 ·have hb:(F6 a == [])=false:=by rw [beq_eq_false_iff_ne]; exact h0
  have hpos:0 < (F6 a).length:=by
   cases hh:F6 a with
   | nil=>exact (h0 hh).elim
   | cons=>simp
  rw [hb,dT (show (0:Int)<=0/\(0:Int) < ((F6 a).length:Int) by omega)]
  cases hd:(F6 a).all F5 with
  | false=>rw [if_pos (.inr rfl)]; rfl
  | true =>
   rw [if_neg (by simp [h0])]
   have hh:((((F6 a).getD 0 0).toNat:Int) == 48)=decide ((F6 a).headD 0=48):=by
    by_cases hx:(F6 a).headD 0=48
    ·rw [dT hx,beq_iff_eq]
     cases hy:F6 a with
     | nil=>exact (h0 hy).elim
     | cons b r=>rw [hy] at hx; simp only [List.headD_cons] at hx; subst hx; rfl
    ·rw [dF hx,beq_eq_false_iff_ne]
     cases hy:F6 a with
     | nil=>exact (h0 hy).elim
     | cons b r =>
      rw [hy] at hx
      simp only [List.headD_cons] at hx
      simp only [List.getD_eq_getElem?_getD,List.getElem?_cons_zero,Option.getD_some]
      intro h
      exact hx (UInt8.toNat_inj.1 (show b.toNat=48 by omega))
   rw [hh]
   have hgt:(decide (((F6 a).length:Int) > 1024))=decide ((F6 a).length > 1024):=decide_eq_decide.2 (by omega)
   rw [hgt]
   by_cases h1:(F6 a).headD 0=48
   ·rw [dT h1]
    by_cases h2:a=[48]
    ·have:(a == [48])=true:=by rw [beq_iff_eq]; exact h2
     rw [this,if_neg (by rintro ⟨_,h⟩; exact h h2)]
     by_cases h3:(F6 a).length > 1024
     ·rw [dT h3,if_pos h3]; rfl
     ·rw [dF h3,if_neg h3]; rfl
    ·have:(a == [48])=false:=by rw [beq_eq_false_iff_ne]; exact h2
     rw [this,if_pos ⟨h1,h2⟩]; rfl
   ·rw [dF h1,if_neg (by rintro ⟨h,_⟩; exact h1 h)]
    by_cases h3:(F6 a).length > 1024
    ·rw [dT h3,if_pos h3]; rfl
    ·rw [dF h3,if_neg h3]; rfl
def pBig14:Prims:=pBig13.addt 63 (gP [.str] (E1l D5))
theorem C4q {A:Amb} (hT:Tab A) (hG:gN prog<=A.G):PrimOK prog A pBig14:=by
 refine PrimOK.addP D6 D7 (C2r hT hG) (C2r hT hG) hG func63 (by kernel_rfl) fun ls v h=>?_
 unfold E1l at h
 split at h
 ·rename_i a
  obtain ⟨hs,hv⟩:=Tr.br1 h
  cases hv
  exact ⟨rfl,60,_,by rw [gsz]; exact (G9b a).trans (F6a hs),rfl,fun ι x=>Q4 rfl x⟩
 ·cases h
end Go.Proofs.Tryz
namespace Go.Proofs.Tryz
open Go.Ad
open Go.Lib (decDigits itoa)
def G6t:SP:=⟨[.str,.int .i64],dd8++[opW]⟩
def G8b:List Lf->Tr (SP × List Lf)
 | [.b l,.i n,.n m,.f f]=>.br (A9 (m=232/\isW n f)) (.leaf (G6t,.s (A4b (sv l (E9 n f))).1 :: .i (A4b (sv l (E9 n f))).2 :: lfT l n f)) .fail
 | _=>.fail
theorem G1g (l:Bool) (n:Int) (f:Nat->Int):(C9 prog pBig14 60).call 74 (spW1.rho (lfT l n f)) (spW1.heap (lfT l n f)) (V7 G6t 9 []) =
  brK (A9 (232=232/\isW n f)) (brK (F4 (itoa (sv l (E9 n f)))) (brK (D5 (itoa (sv l (E9 n f))) != 0)
   (some [.s [],.i (D5 (itoa (sv l (E9 n f)))),.b l,.i n,.n 232,.f f]) (some [.s (itoa (sv l (E9 n f))),.i 0,.b l,.i n,.n 232,.f f])) none) none:=by kernel_rfl
theorem G3p (l:Bool) (V:Nat):(sv l V).natAbs=V:=by cases l <;> simp [sv]
def pBig15:Prims:=pBig14.addh 74 (H9 8 (funQ spW1 9 [] G8b))
theorem E2a {A:Amb} (hT:Tab A) (hG:gN prog<=A.G):PrimOK prog A pBig15:=by
 refine (C4q hT hG).addl gsz func74 (by kernel_rfl) (J7 D6 D7 rfl fun ls sq l h=>?_)
 unfold G8b at h
 split at h
 ·rename_i lb n m f
  obtain ⟨hc,hv⟩:=Tr.br1 h
  cases hv
  obtain ⟨rfl,w⟩:=D9 hc
  refine ⟨⟨.inr rfl,.inr rfl,.inr rfl,.inr rfl,.inr rfl,.inr rfl,.inr rfl,.inr rfl,.inr rfl,trivial⟩,rfl,pBig14,60,_,C4q hT hG,(G1g _ _ f).trans ?_,fun _ _=>.refl⟩
  obtain ⟨a1,a2,a3⟩:=S9 w
  rw [A8 (show _/\_ from ⟨rfl,w⟩)]
  generalize E9 n f=V at *
  have hsz:F4 (itoa (sv lb V))=true:=by
   refine dT ?_
   have h1:=A3z (sv lb V)
   rw [G3p] at h1
   have h2:=B3p a3
   omega
  rw [hsz]
  have hr:=E0f (sv lb V)
  generalize itoa (sv lb V)=s at hr
  rw [<- hr]
  by_cases he:D5 s ≠ 0
  ·rw [if_pos he,show (D5 s != 0)=true by simpa using he]; rfl
  ·rw [if_neg he,show (D5 s != 0)=false by simpa using he]; rfl
 ·cases h
def A1o (a b:List UInt8):Bool:=decide (a.length<=9) && decide (b.length<=9)
def G8k:List Lf->Tr AV
 | [.s a,.s b]=>.br (A9 (isZ a/\isZ b)) (.leaf (.tuple [.sint .i64 (bif A1o a b then A7 a else 0),.sint .i64 (bif A1o a b then A7 b else 0),.sbool (A1o a b)])) .fail
 | _=>.fail
theorem D4l (a b:List UInt8):(C9 prog lib2 60).call 70 [.sstr a,.sstr b] (Bg 8) G9 =
  brK (decide ((a.length:Int) > 9)) (some (.tuple [.int .i64 0,.int .i64 0,.bool false])) (brK (decide ((b.length:Int) > 9)) (some (.tuple [.int .i64 0,.int .i64 0,.bool false]))
   (brK (decide (a.length<=18) && (Lib.atoi a).isSome) (brK (decide (b.length<=18) && (Lib.atoi b).isSome) (some (.tuple [.sint .i64 ((Lib.atoi a).getD 0),.sint .i64 ((Lib.atoi b).getD 0),.bool true])) none) none)):=by kernel_rfl
def pBig16:Prims:=pBig15.addt 70 (gP [.str,.str] G8k)
theorem C3m {A:Amb} (hT:Tab A) (hG:gN prog<=A.G):PrimOK prog A pBig16:=by
 refine PrimOK.addP D6 D7 (I8 hT) (E2a hT hG) hG func70 (by kernel_rfl) fun ls v h=>?_
 unfold G8k at h
 split at h
 ·rename_i a b
  obtain ⟨hc,hv⟩:=Tr.br1 h
  cases hv
  obtain ⟨ha,hb⟩:=D9 hc
  have fin:∀ v',(C9 prog lib2 60).call 70 [.sstr a,.sstr b] (Bg 8) G9=some v'->below 0 v'=true->(∀ ι x,VR ι v' x->VR ι (.tuple [.sint .i64 (bif A1o a b then A7 a else 0),.sint .i64 (bif A1o a b then A7 b else 0),.sbool (A1o a b)]) x) ->
    H6 0 (mkT [.str,.str] [.s a,.s b]).1=true/\∃ n v',(C9 prog lib2 n).call 70 (mkT [.str,.str] [.s a,.s b]).1 (Bg (gN prog)) G9=some v'/\below 0 v'=true/\∀ ι x,VR ι v' x->VR ι (.tuple [.sint .i64 (bif A1o a b then A7 a else 0),.sint .i64 (bif A1o a b then A7 b else 0),.sbool (A1o a b)]) x:=fun v' h1 h2 h3 =>
   ⟨rfl,60,v',by rw [gsz]; exact h1,h2,h3⟩
  by_cases h1:a.length<=9
  ·by_cases h2:b.length<=9
   ·have hs:A1o a b=true:=by unfold A1o; rw [dT h1,dT h2]; rfl
    have za:Lib.atoi a=some (A7 a):=by
     unfold isZ at ha
     have:=C3n (A7 a)
     rwa [<- ha] at this
    have zb:Lib.atoi b=some (A7 b):=by
     unfold isZ at hb
     have:=C3n (A7 b)
     rwa [<- hb] at this
    refine fin (.tuple [.sint .i64 (A7 a),.sint .i64 (A7 b),.bool true]) ?_ rfl fun ι x hx=>?_
    ·rw [D4l,za,zb,dF (show ¬ (a.length:Int) > 9 by omega),dF (show ¬ (b.length:Int) > 9 by omega),dT (show a.length<=18 by omega),dT (show b.length<=18 by omega)]
     rfl
    ·rw [hs]; exact A3i (fun _ h=>h) (fun _ h=>h) (fun _ h=>A0i rfl _ h) x hx
   ·have hs:A1o a b=false:=by unfold A1o; rw [dF h2,Bool.and_false]
    refine fin (.tuple [.int .i64 0,.int .i64 0,.bool false]) ?_ rfl fun ι x hx=>?_
    ·rw [D4l,dF (show ¬ (a.length:Int) > 9 by omega),dT (show (b.length:Int) > 9 by omega)]; rfl
    ·rw [hs]; exact A3i (fun _ h=>Q4 rfl _ h) (fun _ h=>Q4 rfl _ h) (fun _ h=>A0i rfl _ h) x hx
  ·have hs:A1o a b=false:=by unfold A1o; rw [dF h1,Bool.false_and]
   refine fin (.tuple [.int .i64 0,.int .i64 0,.bool false]) ?_ rfl fun ι x hx=>?_
   ·rw [D4l,dT (show (a.length:Int) > 9 by omega)]; rfl
   ·rw [hs]; exact A3i (fun _ h=>Q4 rfl _ h) (fun _ h=>Q4 rfl _ h) (fun _ h=>A0i rfl _ h) x hx
 ·cases h
def G6p:List Lf->Tr AV
 | [.s a]=>.br (A9 (isZ a)) (.leaf (.sint .i64 (K7 (A7 a)))) .fail
 | _=>.fail
theorem G1s (a:List UInt8):(C9 prog lib2 60).call 165 [.sstr a] (Bg 8) G9 =
  brK (a == [48]) (some (.int .i64 0)) (brK (decide ((0:Int)<=0/\(0:Int) < (a.length:Int))) (brK (((a.getD 0 0).toNat:Int) == 45) (some (.int .i64 (-1))) (some (.int .i64 1))) none):=by kernel_rfl
def G5i:List Lf->Tr AV
 | [.s a]=>.br (A9 (isZ a/\a.length<=1000000000)) (.leaf (.sstr (itoa (-(A7 a))))) .fail
 | _=>.fail
theorem G1c (a:List UInt8):(C9 prog pBig16 60).call 197 [.sstr a] (Bg 8) G9 =
  brK (a == [48]) (some (.sstr a)) (brK (decide ((0:Int)<=0/\(0:Int) < (a.length:Int))) (brK (((a.getD 0 0).toNat:Int) == 45) (brK (true && decide ((0:Int)<=1/\(1:Int)<=(a.length:Int))) (some (.sstr ((a.take a.length).drop 1))) none)
   (brK (decide (1+a.length < 4611686018427387904)) (some (.sstr (45 :: a))) none)) none):=by kernel_rfl
theorem Q9 (n:Int):(itoa n == [48])=decide (n=0):=by
 by_cases h:n=0
 ·subst h; rw [itoa0,dT rfl]; rfl
 ·rw [dF h,beq_eq_false_iff_ne]
  intro e
  rw [<- itoa0] at e
  exact h (A5n e)
theorem C0m (n:Int):decide ((0:Int)<=0/\(0:Int) < ((itoa n).length:Int))=true:=by
 refine dT ⟨Int.le_refl _,?_⟩
 cases hh:itoa n with
 | nil=>exact (A2b n hh).elim
 | cons=>simp
def pBig17:Prims:=(pBig16.addt 165 (gP [.str] G6p)).addt 197 (gP [.str] G5i)
theorem C3b {A:Amb} (hT:Tab A) (hG:gN prog<=A.G):PrimOK prog A pBig17:=by
 refine PrimOK.addP D6 D7 (C3m hT hG) (PrimOK.addP D6 D7 (I8 hT) (C3m hT hG) hG func165 (by kernel_rfl) fun ls v h=>?_) hG func197 (by kernel_rfl) fun ls v h=>?_
 ·unfold G6p at h
  split at h
  ·rename_i a
   obtain ⟨hc,hv⟩:=Tr.br1 h
   cases hv
   have hz:=D9 hc
   refine ⟨rfl,60,.int .i64 (K7 (A7 a)),?_,rfl,fun ι x=>Q4 rfl x⟩
   rw [gsz]
   refine (G1s a).trans ?_
   unfold isZ at hz
   generalize A7 a=Z at *
   subst hz
   rw [Q9,C0m,A3p]
   unfold K7
   by_cases h0:Z=0
   ·rw [dT h0,if_pos h0]; rfl
   ·rw [dF h0,if_neg h0]
    by_cases h1:Z < 0
    ·rw [dT h1,if_pos h1]; rfl
    ·rw [dF h1,if_neg h1]; rfl
  ·cases h
 ·unfold G5i at h
  split at h
  ·rename_i a
   obtain ⟨hc,hv⟩:=Tr.br1 h
   cases hv
   obtain ⟨hz,hs⟩:=D9 hc
   refine ⟨rfl,60,.sstr (itoa (-(A7 a))),?_,rfl,fun ι x h=>h⟩
   rw [gsz]
   refine (G1c a).trans ?_
   unfold isZ at hz
   generalize A7 a=Z at *
   subst hz
   have hl1:1<=(itoa Z).length:=by
    cases hh:itoa Z with
    | nil=>exact (A2b Z hh).elim
    | cons=>simp
   rw [Q9,C0m,A3p,List.take_length,dT (show (0:Int)<=1/\(1:Int)<=((itoa Z).length:Int) by omega),dT (show 1+(itoa Z).length < 4611686018427387904 by omega)]
   by_cases h0:Z=0
   ·subst h0; rfl
   ·rw [dF h0]
    by_cases h1:Z < 0
    ·rw [dT h1]
     have h2:=A8o Z
     rw [if_pos h1] at h2
     have h3:itoa (-Z)=decDigits Z.natAbs:=by
      unfold itoa
      rw [if_neg (by omega)]
      congr 1; omega
     rw [h2,h3]; rfl
    ·rw [dF h1]
     have h3:itoa (-Z)=45 :: itoa Z:=by
      unfold itoa
      rw [if_pos (by omega),if_neg h1]
      congr 2; omega
     rw [h3]; rfl
  ·cases h
end Go.Proofs.Tryz
namespace Go.Proofs.Tryz
open Go.Ad
open Go.Lib (decDigits itoa)
def spL2:SP:=⟨[.is (.slice (some (8,0)) 2 2)],dd8++[.cells [.str,.str] 1 true 83]⟩
def F8l:SP:=⟨[.int .i64],dd8++[.cells [.str,.str] 1 true 83]⟩
def A0n (a b:List UInt8):Int:=bif D5 a != 0 then D5 a else D5 b
theorem G3w (a b:List UInt8):(C9 prog pBig17 60).call 69 (spL2.rho [.s a,.s b]) (spL2.heap [.s a,.s b]) (A1j F8l 9 [8]) =
  brK (F4 a) (brK (D5 a != 0) (some [.i (D5 a),.s a,.s b]) (brK (F4 b) (brK (D5 b != 0) (some [.i (D5 b),.s a,.s b]) (some [.i 0,.s a,.s b])) none)) none:=by kernel_rfl
def G9m:List Lf->Tr (SP × List Lf)
 | [.s a,.s b]=>.br (F4 a && F4 b) (.leaf (F8l,[.i (A0n a b),.s a,.s b])) .fail
 | _=>.fail
def pBig18:Prims:=pBig17.addh 69 (H9 8 (funP spL2 9 [8] G9m))
theorem C2y {A:Amb} (hT:Tab A) (hG:gN prog<=A.G):PrimOK prog A pBig18:=by
 refine (C3b hT hG).addl gsz func69 (by kernel_rfl) (L8 D6 D7 rfl fun ls sq l h=>?_)
 unfold G9m at h
 split at h
 ·rename_i a b
  obtain ⟨hc,hv⟩:=Tr.br1 h
  cases hv
  rw [Bool.and_eq_true] at hc
  obtain ⟨ha,hb⟩:=hc
  refine ⟨⟨.inr rfl,.inr rfl,.inr rfl,.inr rfl,.inr rfl,.inr rfl,.inr rfl,.inr rfl,.inr rfl,trivial⟩,rfl,rfl,pBig17,60,C3b hT hG,(G3w a b).trans ?_⟩
  rw [ha,hb]
  unfold A0n
  cases h1:D5 a != 0 with
  | true=>rfl
  | false =>
   cases h2:D5 b != 0 with
   | true=>rfl
   | false =>
    have:D5 b=0:=by simpa using h2
    rw [this]; rfl
 ·cases h
def F7r:SP:=⟨[.str,.int .i64],dd8++[.cells [.str,.str] 1 true 83]⟩
theorem E5 {β:Type} {t f:Option β}:brK true t f=t:=rfl
theorem I4 {β:Type} {t f:Option β}:brK false t f=f:=rfl
theorem H1c:E9 0 (fun _=>0)=0:=rfl
theorem B1d (V:Nat):sv true V=-(V:Int):=rfl
theorem B4x (V:Nat):sv false V=V:=rfl
theorem B3o (l:Bool) (V:Nat) (l':Bool) (U:Nat):sv (A0o l V l' U).1 (A0o l V l' U).2=sv l V+sv l' U:=by
 have e1:(A0o true V false U)=bif decide (U<=V) then (true,V - U) else (false,U - V):=rfl
 have e2:(A0o false V true U)=bif decide (U<=V) then (false,V - U) else (true,U - V):=rfl
 have e3:(A0o true V true U)=(true,V+U):=rfl
 have e4:(A0o false V false U)=(false,V+U):=rfl
 by_cases h:U<=V
 ·rw [dT h] at e1 e2
  cases l <;> cases l' <;> simp only [e1,e2,e3,e4,cond_true,B1d,B4x] <;> omega
 ·rw [dF h] at e1 e2
  cases l <;> cases l' <;> simp only [e1,e2,e3,e4,cond_false,B1d,B4x] <;> omega
theorem B3f (l:Bool) (V:Nat) (l':Bool) (U:Nat):(A0o l V l' U).2<=V+U:=by
 unfold A0o
 cases (l == l') with
 | true=>exact Nat.le_refl _
 | false =>
  by_cases h:U<=V
  ·rw [dT h]; exact Nat.le_trans (Nat.sub_le _ _) (Nat.le_add_right _ _)
  ·rw [dF h]; exact Nat.le_trans (Nat.sub_le _ _) (Nat.le_add_left _ _)
theorem B6i (Z:Int):sv (decide (Z < 0)) Z.natAbs=Z:=by
 unfold sv
 by_cases h:Z < 0
 ·rw [dT h]; simp only [cond_true]; omega
 ·rw [dF h]; simp only [cond_false]; omega
theorem A3c {V U:Nat} (h:V<=U):wn V<=wn U:=A0a (Nat.lt_of_le_of_lt h (A2r U))
theorem D5b {V U n:Nat} (h1:wn V<=n) (h2:wn U<=n):wn (V+U)<=n+1:=by
 have a:=C4j.1 h1
 have b:=C4j.1 h2
 refine A0a ?_
 rw [Nat.pow_succ]
 have hB:2<=BB:=by decide
 have:=Nat.mul_le_mul_left (BB ^ n) hB
 omega
abbrev E7y (a b:List UInt8) (q:Bool × Nat):Option (List Lf) :=
 brK (A9 (232=232/\isW (wn q.2:Int) (wf q.2))) (some [.s (A4b (sv q.1 (E9 (wn q.2:Int) (wf q.2)))).1,.i (A4b (sv q.1 (E9 (wn q.2:Int) (wf q.2)))).2,.s a,.s b]) none
abbrev E5r (a b:List UInt8) (p:Bool × Nat) (lb:Bool) (U:Nat):Option (List Lf) :=
 brK (A9 (232=232/\232=232/\isW (wn p.2:Int) (wf p.2)/\isW (wn U:Int) (wf U)/\wn (E9 (wn p.2:Int) (wf p.2)+E9 (wn U:Int) (wf U))<=232))
  (E7y a b (A0o p.1 (E9 (wn p.2:Int) (wf p.2)) lb (E9 (wn U:Int) (wf U)))) none
abbrev C6v (a b:List UInt8) (la:Bool) (V:Nat) (lb:Bool) (U:Nat):Option (List Lf) :=
 brK (A9 (isZ a/\wn V<=232)) (brK (A9 (232=232/\232=232/\isW 0 (fun _=>0)/\isW (wn V:Int) (wf V)/\wn (E9 0 (fun _=>0)+E9 (wn V:Int) (wf V))<=232))
  (brK (A9 (isZ b/\wn U<=232)) (E5r a b (A0o false (E9 0 fun _=>0) la (E9 (wn V:Int) (wf V))) lb U) none) none) none
theorem F9c (a b:List UInt8):(C9 prog pBig18 60).call 216 (spL2.rho [.s a,.s b]) (spL2.heap [.s a,.s b]) (V7 F7r 9 [8]) =
  C6v a b (decide (A7 a < 0)) (A7 a).natAbs (decide (A7 b < 0)) (A7 b).natAbs:=by kernel_rfl
theorem D4i {a b:List UInt8} {la lb:Bool} {V U:Nat} (ha:isZ a) (hb:isZ b) (hV:wn V<=231) (hU:wn U<=231) :
  C6v a b la V lb U=some [.s (A4b (sv la V+sv lb U)).1,.i (A4b (sv la V+sv lb U)).2,.s a,.s b]:=by
 unfold C6v
 have w0:isW 0 (fun _=>0):=by
  have:=M9 (V:=0) (by rw [Y9]; omega)
  rwa [Y9,C7a] at this
 have hs:=B3o false 0 la V
 have hl:=B3f false 0 la V
 rw [H1c,G8,A8 (show isZ a/\wn V<=232 from ⟨ha,by omega⟩),Nat.zero_add,
  A8 (show 232=232/\232=232/\isW 0 (fun _=>0)/\isW (wn V:Int) (wf V)/\wn V<=232 from ⟨rfl,rfl,w0,M9 (by omega),by omega⟩),A8 (show isZ b/\wn U<=232 from ⟨hb,by omega⟩)]
 simp only [E5]
 generalize A0o false 0 la V=p at *
 unfold E5r
 rw [G8,G8]
 have hp:wn p.2<=231:=Nat.le_trans (A3c (by omega)) hV
 have hpu:=D5b hp hU
 rw [A8 (show 232=232/\232=232/\isW (wn p.2:Int) (wf p.2)/\isW (wn U:Int) (wf U)/\wn (p.2+U)<=232 from ⟨rfl,rfl,M9 (by omega),M9 (by omega),hpu⟩)]
 have hs2:=B3o p.1 p.2 lb U
 have hl2:=B3f p.1 p.2 lb U
 simp only [E5]
 generalize A0o p.1 p.2 lb U=q at *
 unfold E7y
 rw [G8,A8 (show 232=232/\isW (wn q.2:Int) (wf q.2) from ⟨rfl,M9 (Nat.le_trans (A3c hl2) hpu)⟩),hs2,hs]
 have h0:sv false 0=0:=rfl
 rw [h0,Int.zero_add]
 rfl
def G8h:List Lf->Tr (SP × List Lf)
 | [.s a,.s b]=>.br (A9 (isZ a/\isZ b/\wn (A7 a).natAbs<=231/\wn (A7 b).natAbs<=231)) (.leaf (F7r,[.s (A4b (A7 a+A7 b)).1,.i (A4b (A7 a+A7 b)).2,.s a,.s b])) .fail
 | _=>.fail
def pBig19:Prims:=pBig18.addh 216 (H9 8 (funQ spL2 9 [8] G8h))
theorem B4t {A:Amb} (hT:Tab A) (hG:gN prog<=A.G):PrimOK prog A pBig19:=by
 refine (C2y hT hG).addl gsz func216 (by kernel_rfl) (J7 D6 D7 rfl fun ls sq l h=>?_)
 unfold G8h at h
 split at h
 ·rename_i a b
  obtain ⟨hc,hv⟩:=Tr.br1 h
  cases hv
  obtain ⟨ha,hb,h1,h2⟩:=D9 hc
  refine ⟨⟨.inr rfl,.inr rfl,.inr rfl,.inr rfl,.inr rfl,.inr rfl,.inr rfl,.inr rfl,.inr rfl,trivial⟩,rfl,pBig18,60,_,C2y hT hG,(F9c a b).trans ?_,fun _ _=>.refl⟩
  rw [D4i ha hb h1 h2,B6i,B6i]
 ·cases h
end Go.Proofs.Tryz
namespace Go.Proofs.Tryz
open Go.Ad
open Go.Lib (decDigits itoa nDigits)
def spSS:SP:=⟨[.str,.str],dd8⟩
def A1s:SP:=⟨[.str,.int .i64],dd8⟩
theorem D7e {a b:List UInt8} (ha:isZ a) (hb:isZ b) (h:A1o a b=true) :
  (-1000000000 < A7 a/\A7 a < 1000000000)/\(-1000000000 < A7 b/\A7 b < 1000000000):=by
 unfold A1o at h
 rw [Bool.and_eq_true,decide_eq_true_eq,decide_eq_true_eq] at h
 unfold isZ at ha hb
 exact ⟨B9p (by rw [<- ha]; exact h.1),B9p (by rw [<- hb]; exact h.2)⟩
theorem A1t {U n:Nat} (h:U < 10 ^ n) (hn:1<=n):(decDigits U).length<=n:=by
 rw [Lib.decDigits_length]
 obtain ⟨m,rfl⟩:∃ m,n=m+1:=⟨n - 1,by omega⟩
 exact A4f m U h
theorem D5h {C:Int} (h1:-1000000000000000000 < C) (h2:C < 1000000000000000000):A4b C=(itoa C,0):=by
 unfold A4b
 have:=A1t (U:=C.natAbs) (n:=18) (by omega) (by omega)
 rw [if_neg (by omega)]
theorem C1o {a b:List UInt8} (h:(A0n a b != 0)=false):D5 a=0/\D5 b=0:=by
 unfold A0n at h
 cases h1:D5 a != 0 with
 | true=>rw [h1] at h; simp only [cond_true] at h; rw [h1] at h; cases h
 | false=>rw [h1] at h; simp only [cond_false] at h; exact ⟨by simpa using h1,by simpa using h⟩
theorem D1e {a b:List UInt8} (op:Int->Int->Int) (h:(A0n a b != 0)=true):B0f op a b=([],A0n a b):=by
 unfold A0n at h ⊢
 unfold B0f
 cases h1:D5 a != 0 with
 | true=>rw [if_pos (by simpa using h1)]; rfl
 | false =>
  rw [h1] at h; simp only [cond_false] at h
  rw [if_neg (by simpa using h1),if_pos (by simpa using h)]; rfl
theorem A9h {a b:List UInt8} (op:Int->Int->Int) (h1:D5 a=0) (h2:D5 b=0):B0f op a b=A4b (op (A7 a) (A7 b)):=by
 unfold B0f
 rw [if_neg (by rw [h1]; simp),if_neg (by rw [h2]; simp)]
theorem Q0 {a:List UInt8} (h:D5 a=0):isZ a/\wn (A7 a).natAbs<=114:=by
 have:=F3m h
 exact ⟨this.1,G0k this.2⟩
abbrev rg (n:Int):Bool:=decide (-9223372036854775808<=n/\n<=9223372036854775807)
theorem R4 {n:Int} (h1:-9223372036854775808<=n) (h2:n<=9223372036854775807):W n=n:=wrap64 h1 (by omega)
abbrev F7f (a b:List UInt8) (x:Int) (big:Option (List Lf)):Option (List Lf) :=
 brK (F4 a && F4 b) (brK (A0n a b != 0) (some [.s [],.i (A0n a b)]) (brK (A9 (isZ a/\isZ b)) (brK (A1o a b) (brK (rg (W x)) (some [.s (itoa (W x)),.i 0]) none) big) none)) none
theorem D8d {a b:List UInt8} {op:Int->Int->Int} {x:Int} {big:Option (List Lf)} (hs:(F4 a && F4 b)=true)
  (hx:A1o a b=true->x=op (A7 a) (A7 b)) (hr:∀ A B,-1000000000 < A->A < 1000000000->-1000000000 < B->B < 1000000000->-1000000000000000000 < op A B/\op A B < 1000000000000000000)
  (hb:D5 a=0->D5 b=0->big=some [.s (A4b (op (A7 a) (A7 b))).1,.i (A4b (op (A7 a) (A7 b))).2]) :
  F7f a b x big=some [.s (B0f op a b).1,.i (B0f op a b).2]:=by
 unfold F7f
 rw [hs,E5]
 cases h:A0n a b != 0 with
 | true=>rw [D1e op h]; rfl
 | false =>
  obtain ⟨h1,h2⟩:=C1o h
  rw [A9h op h1 h2,I4,A8 ⟨(Q0 h1).1,(Q0 h2).1⟩,E5]
  cases hm:A1o a b with
  | false=>rw [I4]; exact hb h1 h2
  | true =>
   obtain ⟨⟨a1,a2⟩,b1,b2⟩:=D7e (Q0 h1).1 (Q0 h2).1 hm
   rw [hx hm]
   obtain ⟨r1,r2⟩:=hr _ _ a1 a2 b1 b2
   rw [D5h r1 r2,R4 (by omega) (by omega),E5]
   unfold rg
   rw [dT ⟨by omega,by omega⟩]
   rfl
theorem F9w (a b:List UInt8):(C9 prog pBig19 60).call 196 (spSS.rho [.s a,.s b]) (spSS.heap [.s a,.s b]) (V7 A1s 8 []) =
  F7f a b ((bif A1o a b then A7 a else 0)+bif A1o a b then A7 b else 0)
   (brK (A9 (isZ a/\isZ b/\wn (A7 a).natAbs<=231/\wn (A7 b).natAbs<=231)) (some [.s (A4b (A7 a+A7 b)).1,.i (A4b (A7 a+A7 b)).2]) none):=by kernel_rfl
abbrev F1p (a b:List UInt8) (la lb:Bool) (V U:Nat) (X:Nat):Option (List Lf) :=
 brK (A9 (isZ a/\wn V<=232)) (brK (A9 (isZ b/\wn U<=232)) (brK (A9 (232=232/\232=232/\isW (wn V:Int) (wf V)/\isW (wn U:Int) (wf U)/\(wn V:Int)+(wn U:Int)<=232))
  (brK (A9 (232=232/\isW (wn X:Int) (wf X))) (some [.s (A4b (sv (la != lb) (E9 (wn X:Int) (wf X)))).1,.i (A4b (sv (la != lb) (E9 (wn X:Int) (wf X)))).2]) none) none) none) none
theorem G6z (a b:List UInt8):(C9 prog pBig19 60).call 40 (spSS.rho [.s a,.s b]) (spSS.heap [.s a,.s b]) (V7 A1s 8 []) =
  F7f a b ((bif A1o a b then A7 a else 0)*bif A1o a b then A7 b else 0)
   (F1p a b (decide (A7 a < 0)) (decide (A7 b < 0)) (A7 a).natAbs (A7 b).natAbs (E9 (wn (A7 a).natAbs:Int) (wf (A7 a).natAbs)*E9 (wn (A7 b).natAbs:Int) (wf (A7 b).natAbs))):=by kernel_rfl
theorem F1t (l l':Bool) (V U:Nat):sv (l != l') (V*U)=sv l V*sv l' U:=by
 have e:=Int.natCast_mul V U
 cases l <;> cases l' <;> simp only [show (true != true)=false from rfl,show (false != false)=false from rfl,show (true != false)=true from rfl,show (false != true)=true from rfl,B1d,B4x,e,Int.neg_mul,Int.mul_neg,Int.neg_neg]
theorem G1p {V U n m:Nat} (h1:wn V<=n) (h2:wn U<=m):wn (V*U)<=n+m:=by
 have a:=C4j.1 h1
 have b:=C4j.1 h2
 refine A0a ?_
 rw [Nat.pow_add]
 exact Nat.mul_lt_mul'' a b
theorem E9m {a b:List UInt8} {la lb:Bool} {V U:Nat} (ha:isZ a) (hb:isZ b) (hV:wn V<=114) (hU:wn U<=114) :
  F1p a b la lb V U (E9 (wn V:Int) (wf V)*E9 (wn U:Int) (wf U))=some [.s (A4b (sv la V*sv lb U)).1,.i (A4b (sv la V*sv lb U)).2]:=by
 unfold F1p
 rw [G8,G8,G8]
 have h3:=G1p hV hU
 generalize hX:V*U=X at *
 rw [A8 (show isZ a/\wn V<=232 from ⟨ha,by omega⟩),A8 (show isZ b/\wn U<=232 from ⟨hb,by omega⟩),
  A8 (show 232=232/\232=232/\isW (wn V:Int) (wf V)/\isW (wn U:Int) (wf U)/\(wn V:Int)+(wn U:Int)<=232 from ⟨rfl,rfl,M9 (by omega),M9 (by omega),by omega⟩),
  A8 (show 232=232/\isW (wn X:Int) (wf X) from ⟨rfl,M9 (by omega)⟩)]
 rw [<- hX,F1t]
 rfl
theorem F9g {A B:Int} (a1:-1000000000 < A) (a2:A < 1000000000) (b1:-1000000000 < B) (b2:B < 1000000000):-1000000000000000000 < A*B/\A*B < 1000000000000000000:=by
 have h:(A*B).natAbs<=999999999*999999999:=by
  rw [Int.natAbs_mul]
  exact Nat.mul_le_mul (by omega) (by omega)
 omega
def E2i (op:Int->Int->Int):List Lf->Tr (SP × List Lf)
 | [.s a,.s b]=>.br (F4 a && F4 b) (.leaf (A1s,[.s (B0f op a b).1,.i (B0f op a b).2])) .fail
 | _=>.fail
def pBig20:Prims:=(pBig19.addh 196 (H9 8 (funQ spSS 8 [] (E2i (·+·))))).addh 40 (H9 8 (funQ spSS 8 [] (E2i (·*·))))
theorem C2z {A:Amb} (hT:Tab A) (hG:gN prog<=A.G):PrimOK prog A pBig20:=by
 refine PrimOK.addl ((B4t hT hG).addl gsz func196 (by kernel_rfl) (J7 D6 D7 rfl fun ls sq l h=>?_)) gsz func40 (by kernel_rfl) (J7 D6 D7 rfl fun ls sq l h=>?_)
 ·unfold E2i at h
  split at h
  ·rename_i a b
   obtain ⟨hc,hv⟩:=Tr.br1 h
   cases hv
   refine ⟨⟨.inr rfl,.inr rfl,.inr rfl,.inr rfl,.inr rfl,.inr rfl,.inr rfl,.inr rfl,trivial⟩,rfl,pBig19,60,_,B4t hT hG,(F9w a b).trans ?_,fun _ _=>.refl⟩
   refine D8d hc (fun h=>by rw [h]; rfl) (fun A B _ _ _ _=>by omega) fun h1 h2=>?_
   have w1:=Q0 h1
   have w2:=Q0 h2
   rw [A8 ⟨w1.1,w2.1,by omega,by omega⟩]
   rfl
  ·cases h
 ·unfold E2i at h
  split at h
  ·rename_i a b
   obtain ⟨hc,hv⟩:=Tr.br1 h
   cases hv
   refine ⟨⟨.inr rfl,.inr rfl,.inr rfl,.inr rfl,.inr rfl,.inr rfl,.inr rfl,.inr rfl,trivial⟩,rfl,pBig19,60,_,B4t hT hG,(G6z a b).trans ?_,fun _ _=>.refl⟩
   refine D8d hc (fun h=>by rw [h]; rfl) (fun A B=>F9g) fun h1 h2=>?_
   have w1:=Q0 h1
   have w2:=Q0 h2
   rw [E9m w1.1 w2.1 w1.2 w2.2,B6i,B6i]
  ·cases h
end Go.Proofs.Tryz
