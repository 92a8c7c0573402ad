/- Numbers of any size, written as texts. -/
import Derived.Test.YtfjgehlpjppggaaGreatDoorBig5
import Derived.Test.YtfjgehlpjppggaaGreatDoorAdNum
import Derived.Test.YtfjgehlpjppggaaGreatDoorBase
noncomputable section
namespace Go.Proofs.Tryz
open Go.Ad
open Go.Lib (decDigits itoa)
def D8a:Code:=f149.body.getD .skip
def A7f:Code:=I7 (J7 0 D8a)
def tX0:List Pt:=[pW 8,.drop,.drop,pW 9,.int .i64]++dr 46
def sX10:SP:=⟨tX0,dd8++[opW,opB (T9 9) 10,.text 5]⟩
def sX11:SP:=⟨tX0,dd8++[opW,opB (T9 9) 11,.dead,.text 5]⟩
def sX12:SP:=⟨tX0,dd8++[opW,opB (T9 9) 12,.dead,.dead,.text 5]⟩
def onN (a b:SP):AEx->SP
 | .normal=>a
 | _=>b
def A5c (i:Int) (l:Bool) (n:Int) (f:Nat->Int) (k:Nat) (s:List UInt8):List Lf:=[.i i,.b l,.i n,.n 232,.f f,.n k,.s s]
def z9:List UInt8:=[48,48,48,48,48,48,48,48,48]
abbrev itF (f:Nat->Int) (i:Int):List UInt8:=itoa (f i.toNat)
abbrev A2r (i:Int) (l:Bool) (n:Int) (f:Nat->Int) (k:Nat) (s u:List UInt8):Option (AEx × List Lf) :=
 brK (decide (i >= 0)) (brK (decide (0<=i/\i < 232)) (brK (decide (i.toNat < 232)) (brK (decide (-9223372036854775808<=f i.toNat/\f i.toNat<=9223372036854775807)) (brK (true && decide (0<=(u.length:Int)/\(u.length:Int)<=9))
  (brK (decide (((z9.take 9).drop u.length).length+u.length < 4611686018427387904)) (brK (decide (k=s.length) && decide (k+((z9.take 9).drop u.length++u).length < 2147483648))
   (some (.normal,[.i (W (i - 1)),.b l,.i n,.n 232,.f f,.n (k+((z9.take 9).drop u.length++u).length),.s (s++((z9.take 9).drop u.length++u))])) none) none) none) none) none) none)
  (some (.exit 0,[.i i,.b l,.i n,.n 232,.f f,.n k,.s s]))
section
variable (i:Int) (l:Bool) (n:Int) (f:Nat->Int) (k:Nat) (s:List UInt8)
theorem G5v:E9 prog (C8 prog pBig11 60) F7 A7f (sX10.rho (A5c i l n f k s)) (sX10.heap (A5c i l n f k s)) (H6 (onN sX11 sX10) 11 [9,10])=A2r i l n f k s (itF f i):=by kernel_rfl
theorem G6z:E9 prog (C8 prog pBig11 60) F7 A7f (sX11.rho (A5c i l n f k s)) (sX11.heap (A5c i l n f k s)) (H6 (onN sX11 sX11) 11 [9,10])=A2r i l n f k s (itF f i):=by kernel_rfl
theorem G8y:E9 prog (C8 prog pBig11 60) F7 A7f (sX11.rho (A5c i l n f k s)) (sX11.heap (A5c i l n f k s)) (H6 (onN sX12 sX11) 12 [9,11])=A2r i l n f k s (itF f i):=by kernel_rfl
theorem H0j:E9 prog (C8 prog pBig11 60) F7 A7f (sX12.rho (A5c i l n f k s)) (sX12.heap (A5c i l n f k s)) (H6 (onN sX12 sX12) 12 [9,11])=A2r i l n f k s (itF f i):=by kernel_rfl
end
def txI (g:List UInt8) (V i:Nat):List UInt8:=g++decDigits (V / BB ^ i)
def A7q (g:List UInt8) (l:Bool) (V i:Nat):List Lf:=A5c ((i:Int) - 1) l (wn V) (wf V) (txI g V i).length (txI g V i)
theorem C7y {g:List UInt8} {V i:Nat} (hg:g.length<=1) (hV:wn V<=232):(txI g V i).length<=2089:=by
 unfold txI
 rw [List.length_append]
 have:=B3m (U:=V / BB ^ i) (Z7 (Nat.lt_of_le_of_lt (Nat.div_le_self _ _) (C4z.1 hV)))
 omega
theorem B6n {g:List UInt8} {l:Bool} {V i:Nat} (hg:g.length<=1) (hV:wn V<=232) (hi:i+1 < wn V) :
  A2r (((i+1:Nat):Int) - 1) l (wn V) (wf V) (txI g V (i+1)).length (txI g V (i+1)) (itF (wf V) (((i+1:Nat):Int) - 1))=some (.normal,A7q g l V i):=by
 have e0:((i+1:Nat):Int) - 1=i:=by omega
 obtain ⟨t1,t2⟩:=E9z (V:=V) (i:=i) hi
 have hu:itF (wf V) ((i:Nat):Int)=decDigits (wd V i):=by
  show itoa (wf V ((i:Nat):Int).toNat)=_
  rw [Int.toNat_natCast]
  exact Lib.itoa_nonneg (wd V i)
 have hw:=A4t V i
 have hB:BB=1000000000:=rfl
 have hz:(z9.take 9).drop (decDigits (wd V i)).length=List.replicate (9 - (decDigits (wd V i)).length) 48:=by
  have:z9.take 9=List.replicate 9 48:=rfl
  rw [this,List.drop_replicate]
 have hlen:=C7y (g:=g) (V:=V) (i:=i) hg hV
 have hnext:txI g V (i+1)++(List.replicate (9 - (decDigits (wd V i)).length) 48++decDigits (wd V i))=txI g V i:=by
  unfold txI
  rw [List.append_assoc,t1]
 have hl2:(txI g V (i+1)).length+(List.replicate (9 - (decDigits (wd V i)).length) (48:UInt8)++decDigits (wd V i)).length=(txI g V i).length:=by rw [<- List.length_append,hnext]
 have hl3:(List.replicate (9 - (decDigits (wd V i)).length) (48:UInt8)).length+(decDigits (wd V i)).length<=9:=by simp; omega
 unfold A2r
 rw [e0,hu,hz,hl2,hnext,Int.toNat_natCast]
 have e2:W ((i:Int) - 1)=(i:Int) - 1:=by rw [W,wrap64 (by omega) (by omega)]
 have hwf:wf V i=(wd V i:Int):=rfl
 rw [e2,hwf,dT (show (i:Int) >= 0 by omega),dT (show 0<=(i:Int)/\(i:Int) < 232 by omega),dT (show i < 232 by omega),dT (show -9223372036854775808<=(wd V i:Int)/\(wd V i:Int)<=9223372036854775807 by omega),
  dT (show 0<=((decDigits (wd V i)).length:Int)/\((decDigits (wd V i)).length:Int)<=9 by omega),dT (show (List.replicate (9 - (decDigits (wd V i)).length) (48:UInt8)).length+(decDigits (wd V i)).length < 4611686018427387904 by omega),
  dT (show (txI g V (i+1)).length=(txI g V (i+1)).length from rfl),dT (show (txI g V i).length < 2147483648 by omega)]
 simp only [A2a,Bool.and_self,if_true]
 rfl
theorem C1u {g:List UInt8} {l:Bool} {V:Nat} {u:List UInt8}:A2r (((0:Nat):Int) - 1) l (wn V) (wf V) (txI g V 0).length (txI g V 0) u=some (.exit 0,A7q g l V 0):=by
 unfold A2r
 rw [dF (show ¬ ((0:Nat):Int) - 1 >= 0 by omega)]
 rfl
def TX (sp0 sp1:SP) (g:List UInt8):List Lf->Tr (AEx × SP × List Lf)
 | [.i i,.b l,.i n,.n m,.f f,.n k,.s s]=>.br (A9 (m=232/\isW n f/\F4 n f ≠ 0/\i=n - 2/\s=txI g (F4 n f) (n - 1).toNat/\k=s.length))
  (.br (decide (n >= 2)) (.leaf (.normal,sp1,A7q g l (F4 n f) 0)) (.leaf (.normal,sp0,A7q g l (F4 n f) 0))) .fail
 | _=>.fail
section
variable {A:Amb} (hT:Tab A) (hG:prog.globals.size<=A.G)
include hT hG
theorem G6n {sp0 sp1:SP} {m:Nat} {ds:List Nat} {g:List UInt8} (hg:g.length<=1) (ok0:okD m ds 0 sp0.h=true) (ok1:okD m ds 0 sp1.h=true)
  (ra:∀ i l n f k s,E9 prog (C8 prog pBig11 60) F7 A7f (sp0.rho (A5c i l n f k s)) (sp0.heap (A5c i l n f k s)) (H6 (onN sp1 sp0) m ds)=A2r i l n f k s (itF f i))
  (rb:∀ i l n f k s,E9 prog (C8 prog pBig11 60) F7 A7f (sp1.rho (A5c i l n f k s)) (sp1.heap (A5c i l n f k s)) (H6 (onN sp1 sp1) m ds)=A2r i l n f k s (itF f i))
  {l:Bool} {V:Nat} (hV:wn V<=232) (h0:V ≠ 0) {Bb:Heap} (hB:Bb.length=m) :
  SEB prog A Bb (.loop A7f) ⟨sp0.rho (A7q g l V (wn V - 1)),sp0.heap (A7q g l V (wn V - 1)),ds⟩ (.exit 0)
   (bif decide ((wn V:Int) >= 2) then ⟨sp1.rho (A7q g l V 0),sp1.heap (A7q g l V 0),ds⟩ else ⟨sp0.rho (A7q g l V 0),sp0.heap (A7q g l V 0),ds⟩):=by
 have hp:=B5x hT hG
 have okx:∀ (a b:SP),okD m ds 0 a.h=true->okD m ds 0 b.h=true->∀ e,okD m ds 0 (onN a b e).h=true:=fun a b ha hb e=>by cases e <;> assumption
 have hpos:0 < wn V:=by rw [A3o h0]; omega
 have rest:∀ i,i+1<=wn V->SEB prog A Bb (.loop A7f) ⟨sp1.rho (A7q g l V i),sp1.heap (A7q g l V i),ds⟩ (.exit 0) ⟨sp1.rho (A7q g l V 0),sp1.heap (A7q g l V 0),ds⟩:=by
  intro i hi
  refine SEB.while (fun i:Nat=>i+1<=wn V) (fun i=>i) (fun i=>⟨sp1.rho (A7q g l V i),sp1.heap (A7q g l V i),ds⟩) (fun _=>(.exit 0,⟨sp1.rho (A7q g l V 0),sp1.heap (A7q g l V 0),ds⟩)) (fun i hi=>?_) i hi
  cases i with
  | zero=>right; exact ⟨by simp,SEB.of_KP (e:=.exit 0) (sp:=onN sp1 sp1) D5 D6 hp (.none _) hB ((rb _ _ _ _ _ _).trans C1u) (okx _ _ ok1 ok1 _)⟩
  | succ i=>left; exact ⟨i,by omega,by omega,rfl,SEB.of_KP (e:=.normal) (sp:=onN sp1 sp1) D5 D6 hp (.none _) hB ((rb _ _ _ _ _ _).trans (B6n hg hV (by omega))) (okx _ _ ok1 ok1 _)⟩
 by_cases h2:(wn V:Int) >= 2
 ·rw [dT h2,cond_true]
  obtain ⟨j,hj⟩:∃ j,wn V - 1=j+1:=⟨wn V - 2,by omega⟩
  rw [hj]
  exact SEB.loop_next (SEB.of_KP (e:=.normal) (sp:=onN sp1 sp0) D5 D6 hp (.none _) hB ((ra _ _ _ _ _ _).trans (B6n hg hV (by omega))) (okx _ _ ok1 ok0 _)) (rest j (by omega))
 ·rw [dF h2,cond_false]
  have hj:wn V - 1=0:=by omega
  rw [hj]
  exact SEB.loop_exit (SEB.of_KP (e:=.exit 0) (sp:=onN sp1 sp0) D5 D6 hp (.none _) hB ((ra _ _ _ _ _ _).trans C1u) (okx _ _ ok1 ok0 _)) (by simp)
theorem D1y {sp0 sp1:SP} {m:Nat} {ds:List Nat} {g:List UInt8} (hg:g.length<=1) (ok0:okD m ds 0 sp0.h=true) (ok1:okD m ds 0 sp1.h=true)
  (ra:∀ i l n f k s,E9 prog (C8 prog pBig11 60) F7 A7f (sp0.rho (A5c i l n f k s)) (sp0.heap (A5c i l n f k s)) (H6 (onN sp1 sp0) m ds)=A2r i l n f k s (itF f i))
  (rb:∀ i l n f k s,E9 prog (C8 prog pBig11 60) F7 A7f (sp1.rho (A5c i l n f k s)) (sp1.heap (A5c i l n f k s)) (H6 (onN sp1 sp1) m ds)=A2r i l n f k s (itF f i))
  (f0:∀ i l n f k s i' k' s',frP ds 0 (sp0.heap (A5c i l n f k s)) (sp0.heap (A5c i' l n f k' s'))) (f1:∀ i l n f k s i' k' s',frP ds 0 (sp0.heap (A5c i l n f k s)) (sp1.heap (A5c i' l n f k' s'))) :
  ∀ ρ B e' ρ' B' D,(hookP sp0 m ds (TX sp0 sp1 g) ρ B).get=some (e',ρ',B',D)->AFr B B' D/\SEB prog A B (.block 0 (.loop A7f)) ⟨ρ,B,[]⟩ e' ⟨ρ',B',D⟩:=by
 refine M8 ok0 fun ls e sq l h=>?_
 unfold TX at h
 split at h
 ·rename_i i lb n m' f k s
  obtain ⟨hc,hv⟩:=Tr.br1 h
  obtain ⟨rfl,w,hV0,hi,hs,hk⟩:=D7 hc
  obtain ⟨a1,a2,a3⟩:=R6 w
  generalize hV:F4 n f=V at *
  subst a1 a2
  have hpos:0 < wn V:=by rw [A3o hV0]; omega
  have e1:((wn V:Int) - 1).toNat=wn V - 1:=by omega
  have e2:i=((wn V - 1:Nat):Int) - 1:=by omega
  rw [e1] at hs
  subst hs hk e2
  have key:=fun (Bb:Heap) (hB:Bb.length=m)=>G6n hT hG hg ok0 ok1 ra rb (l:=lb) a3 hV0 hB
  by_cases h2:(wn V:Int) >= 2
  ·rw [dT h2] at hv
   cases hv
   refine ⟨f1 _ _ _ _ _ _ _ _ _,fun Bb hB=>SEB.block_exit (id:=0) ?_⟩
   have:=key Bb hB
   rwa [dT h2,cond_true] at this
  ·rw [dF h2] at hv
   cases hv
   refine ⟨f0 _ _ _ _ _ _ _ _ _,fun Bb hB=>SEB.block_exit (id:=0) ?_⟩
   have:=key Bb hB
   rwa [dF h2,cond_false] at this
 ·cases h
end
def F9u:Blk:=fun ρ B=>match hookP sX10 11 [9,10] (TX sX10 sX11 []) ρ B with
 | .fail=>hookP sX11 12 [9,11] (TX sX11 sX12 [45]) ρ B
 | t=>t
def E6t:Prims:=pBig11.addb 149 0 F9u
theorem F0q {A:Amb} (hT:Tab A) (hG:prog.globals.size<=A.G):PrimOK prog A E6t:=by
 refine PrimOK.addb (B5x hT hG) func149 (show f149.body=some D8a by kernel_rfl) (body:=.loop A7f) (by kernel_rfl) fun ρ B e ρ' B' D h=>?_
 unfold F9u at h
 split at h
 ·exact D1y hT hG (g:=[45]) (by simp) rfl rfl G8y H0j (fun _ _ _ _ _ _ _ _ _=>⟨.inr rfl,.inr rfl,.inr rfl,.inr rfl,.inr rfl,.inr rfl,.inr rfl,.inr rfl,.inr rfl,.inl rfl,.inr rfl,.inl rfl,trivial⟩)
   (fun _ _ _ _ _ _ _ _ _=>⟨.inr rfl,.inr rfl,.inr rfl,.inr rfl,.inr rfl,.inr rfl,.inr rfl,.inr rfl,.inr rfl,.inl rfl,.inr rfl,.inl rfl,trivial⟩) _ _ _ _ _ _ h
 ·exact D1y hT hG (g:=[]) (by simp) rfl rfl G5v G6z (fun _ _ _ _ _ _ _ _ _=>⟨.inr rfl,.inr rfl,.inr rfl,.inr rfl,.inr rfl,.inr rfl,.inr rfl,.inr rfl,.inr rfl,.inl rfl,.inl rfl,trivial⟩)
   (fun _ _ _ _ _ _ _ _ _=>⟨.inr rfl,.inr rfl,.inr rfl,.inr rfl,.inr rfl,.inr rfl,.inr rfl,.inr rfl,.inr rfl,.inl rfl,.inl rfl,trivial⟩) _ _ _ _ _ _ h
def G9m:SP:=⟨[.str],dd8++[opW]⟩
abbrev G2d (g:List UInt8) (V:Nat) (l:Bool) (n:Int) (f:Nat->Int):Option (List Lf) :=
 brK (decide (((txI g V 0).length:Int)=((txI g V 0).length:Int)/\(txI g V 0).length=(txI g V 0).length/\(txI g V 0).length < 2147483648)) (some [.s (txI g V 0),.b l,.i n,.n 232,.f f]) none
abbrev F5x (g s0:List UInt8) (c:Nat) (l:Bool) (n:Int) (f:Nat->Int) (u:List UInt8) (V:Nat):Option (List Lf) :=
 brK (decide (0<=W (n - 1)/\W (n - 1) < 232)) (brK (decide ((W (n - 1)).toNat < 232)) (brK (decide (-9223372036854775808<=f (W (n - 1)).toNat/\f (W (n - 1)).toNat<=9223372036854775807)) (brK (decide (c=s0.length) && decide (c+u.length < 2147483648))
  (brK (A9 (232=232/\isW n f/\V ≠ 0/\W (n - 2)=n - 2/\s0++u=txI g V (n - 1).toNat/\c+u.length=(s0++u).length)) (brK (decide (n >= 2)) (G2d g V l n f) (G2d g V l n f)) none) none) none) none) none
theorem G1z (l:Bool) (n:Int) (f:Nat->Int):(C8 prog E6t 60).call 149 (spW1.rho (lfT l n f)) (spW1.heap (lfT l n f)) (V8 G9m 9 []) =
  brK (n == 0) (some [.s [48],.b l,.i n,.n 232,.f f]) (brK l (F5x [45] [45] 1 l n f (itF f (W (n - 1))) (F4 n f)) (F5x [] [] 0 l n f (itF f (W (n - 1))) (F4 n f))):=by kernel_rfl
theorem E1c {g:List UInt8} {l:Bool} {V:Nat} (hg:g.length<=1) (hV:wn V<=232) (h0:V ≠ 0):F5x g g g.length l (wn V) (wf V) (itF (wf V) (W ((wn V:Int) - 1))) V=some (.s (g++decDigits V) :: lfT l (wn V) (wf V)):=by
 have hpos:0 < wn V:=by rw [A3o h0]; omega
 have hB:BB=1000000000:=rfl
 have hw:=A4t V (wn V - 1)
 have e1:W ((wn V:Int) - 1)=((wn V - 1:Nat):Int):=by rw [W,wrap64 (by omega) (by omega)]; omega
 have e2:W ((wn V:Int) - 2)=(wn V:Int) - 2:=by rw [W,wrap64 (by omega) (by omega)]
 have e3:((wn V:Int) - 1).toNat=wn V - 1:=by omega
 have hu:itF (wf V) ((wn V - 1:Nat):Int)=decDigits (wd V (wn V - 1)):=by
  show itoa (wf V ((wn V - 1:Nat):Int).toNat)=_
  rw [Int.toNat_natCast]
  exact Lib.itoa_nonneg _
 have ht:g++decDigits (wd V (wn V - 1))=txI g V (wn V - 1):=by unfold txI; rw [F6g h0]
 have hl:=C7y (g:=g) (V:=V) (i:=wn V - 1) hg hV
 have hl0:=C7y (g:=g) (V:=V) (i:=0) hg hV
 have hl2:g.length+(decDigits (wd V (wn V - 1))).length=(txI g V (wn V - 1)).length:=by rw [<- ht,List.length_append]
 unfold F5x
 rw [e1,e2,e3,hu,ht,Int.toNat_natCast]
 have hwf:wf V (wn V - 1)=(wd V (wn V - 1):Int):=rfl
 rw [hwf,dT (show 0<=((wn V - 1:Nat):Int)/\((wn V - 1:Nat):Int) < 232 by omega),dT (show wn V - 1 < 232 by omega),dT (show -9223372036854775808<=(wd V (wn V - 1):Int)/\(wd V (wn V - 1):Int)<=9223372036854775807 by omega),
  dT (show g.length=g.length from rfl),hl2,dT (show (txI g V (wn V - 1)).length < 2147483648 by omega),
  A8 (show _/\_ from ⟨rfl,N8 hV,h0,rfl,rfl,rfl⟩)]
 unfold G2d
 rw [dT (show ((txI g V 0).length:Int)=((txI g V 0).length:Int)/\(txI g V 0).length=(txI g V 0).length/\(txI g V 0).length < 2147483648 from ⟨rfl,rfl,by omega⟩)]
 have hz:txI g V 0=g++decDigits V:=by unfold txI; rw [Nat.pow_zero,Nat.div_one]
 rw [hz]
 simp only [A2a,Bool.and_self,if_true,ite_self]
 rfl
def G8x:List Lf->Tr (SP × List Lf)
 | [.b l,.i n,.n m,.f f]=>.br (A9 (m=232/\isW n f)) (.leaf (G9m,.s (itoa (sv l (F4 n f))) :: lfT l n f)) .fail
 | _=>.fail
def pBig12:Prims:=pBig11.addh 149 (G8 8 (funP spW1 9 [] G8x))
theorem E2h {A:Amb} (hT:Tab A) (hG:prog.globals.size<=A.G):PrimOK prog A pBig12:=by
 refine (B5x hT hG).addl gsz func149 (by kernel_rfl) (K6 D5 D6 rfl fun ls sq l h=>?_)
 unfold G8x at h
 split at h
 ·rename_i lb n m f
  obtain ⟨hc,hv⟩:=Tr.br1 h
  cases hv
  obtain ⟨rfl,w⟩:=D7 hc
  refine ⟨⟨.inr rfl,.inr rfl,.inr rfl,.inr rfl,.inr rfl,.inr rfl,.inr rfl,.inr rfl,.inr rfl,trivial⟩,rfl,rfl,E6t,60,F0q hT hG,(G1z _ _ f).trans ?_⟩
  obtain ⟨a1,a2,a3⟩:=R6 w
  generalize hV:F4 n f=V at *
  subst a1 a2
  by_cases h0:V=0
  ·subst h0
   rw [E2u,Y3]
   rfl
  ·have hpos:0 < wn V:=by rw [A3o h0]; omega
   have:(((wn V:Nat):Int) == 0)=false:=by rw [beq_eq_false_iff_ne]; omega
   rw [this,F5g h0]
   cases lb with
   | true=>exact E1c (g:=[45]) (by simp) a3 h0
   | false=>exact E1c (g:=[]) (by simp) a3 h0
 ·cases h
end Go.Proofs.Tryz
namespace Go.Proofs.Tryz
open Go.Ad
open Go.Lib (decDigits itoa)
def T40:List Lf->Tr AV
 | [.s a]=>.leaf (.sstr (F6 a))
 | _=>.fail
theorem G8n (a:List UInt8):(C8 prog lib2 60).call 40 [.sstr a,.str [45]] (Bg 8) I4 =
  brK (decide ((a.length:Int) >= 1)) (brK (decide ((0:Int)<=1/\(1:Int)<=(a.length:Int)) && true) (brK ((a.take 1).drop 0 == [45]) (brK (true && decide ((0:Int)<=1/\(1:Int)<=(a.length:Int))) (some (.sstr ((a.take a.length).drop 1))) none) (some (.sstr a))) none) (some (.sstr a)):=by kernel_rfl
theorem E7c (a:List UInt8):(C8 prog lib2 60).call 40 [.sstr a,.str [45]] (Bg 8) I4=some (.sstr (F6 a)):=by
 rw [G8n]
 cases a with
 | nil=>rfl
 | cons b r =>
  have h1:decide (((b :: r).length:Int) >= 1)=true:=dT (by simp; omega)
  have h2:decide ((0:Int)<=1/\(1:Int)<=((b :: r).length:Int))=true:=dT ⟨by omega,by simp; omega⟩
  rw [h1,h2,List.take_length]
  simp only [List.take_succ_cons,List.take_zero,List.drop_zero,List.drop_succ_cons]
  by_cases hb:b=45
  ·subst hb
   rw [show ([(45:UInt8)] == [45])=true from rfl]
   rfl
  ·have:([b] == [(45:UInt8)])=false:=by rw [beq_eq_false_iff_ne]; intro e; cases e; exact hb rfl
   have ha:F6 (b :: r)=b :: r:=by
    unfold F6
    split
    ·rename_i e; cases e; exact (hb rfl).elim
    ·rfl
   rw [this,ha]
   rfl
def pBig13:Prims:=pBig12.addt 40 (gP [.str,.is (.str [45])] T40)
theorem C4w {A:Amb} (hT:Tab A) (hG:prog.globals.size<=A.G):PrimOK prog A pBig13:=by
 refine PrimOK.addP D5 D6 (K5 hT) (E2h hT hG) hG func40 (by kernel_rfl) fun ls v h=>?_
 unfold T40 at h
 split at h
 ·rename_i a
  cases h
  exact ⟨rfl,60,_,by rw [gsz]; exact E7c a,rfl,fun _ _ h=>h⟩
 ·cases h
abbrev G1n (a d:List UInt8):Option AV :=
 brK (d == []) (some (.int .i64 3)) (brK (decide (d.length<=9223372036854775807)) (brK (!(Lib.trimS d [48,49,50,51,52,53,54,55,56,57] == [])) (some (.int .i64 3))
  (brK (decide ((0:Int)<=0/\(0:Int) < (d.length:Int))) (brK (((d.getD 0 0).toNat:Int) == 48) (brK (!(a == [48])) (some (.int .i64 3)) (brK (decide ((d.length:Int) > 1024)) (some (.int .i64 11)) (some (.int .i64 0))))
   (brK (decide ((d.length:Int) > 1024)) (some (.int .i64 11)) (some (.int .i64 0)))) none)) none)
theorem G8h (a:List UInt8):(C8 prog pBig13 60).call 96 [.sstr a] (Bg 8) I4=G1n a (F6 a):=by kernel_rfl
theorem E9l (a:List UInt8):(F6 a).length<=a.length:=by
 unfold F6
 split
 ·simp
 ·exact Nat.le_refl _
theorem F7x {a:List UInt8} (hs:D9 a=true):G1n a (F6 a)=some (.int .i64 (C9 a)):=by
 have hs:=of_decide_eq_true hs
 have hl:=E9l a
 have e1:(Lib.trimS (F6 a) [48,49,50,51,52,53,54,55,56,57] == [])=(F6 a).all F8:=D3k (F6 a)
 unfold G1n C9
 rw [e1,dT (show (F6 a).length<=9223372036854775807 by omega)]
 by_cases h0:F6 a=[]
 ·rw [if_pos (.inl h0),h0]; rfl
 ·have hb:(F6 a == [])=false:=by rw [beq_eq_false_iff_ne]; exact h0
  have hpos:0 < (F6 a).length:=by
   cases hh:F6 a with
   | nil=>exact (h0 hh).elim
   | cons=>simp
  rw [hb,dT (show (0:Int)<=0/\(0:Int) < ((F6 a).length:Int) by omega)]
  cases hd:(F6 a).all F8 with
  | false=>rw [if_pos (.inr rfl)]; rfl
  | true =>
   rw [if_neg (by simp [h0])]
   have hh:((((F6 a).getD 0 0).toNat:Int) == 48)=decide ((F6 a).headD 0=48):=by
    by_cases hx:(F6 a).headD 0=48
    ·rw [dT hx,beq_iff_eq]
     cases hy:F6 a with
     | nil=>exact (h0 hy).elim
     | cons b r=>rw [hy] at hx; simp only [List.headD_cons] at hx; subst hx; rfl
    ·rw [dF hx,beq_eq_false_iff_ne]
     cases hy:F6 a with
     | nil=>exact (h0 hy).elim
     | cons b r =>
      rw [hy] at hx
      simp only [List.headD_cons] at hx
      simp only [List.getD_eq_getElem?_getD,List.getElem?_cons_zero,Option.getD_some]
      intro h
      exact hx (UInt8.toNat_inj.1 (show b.toNat=48 by omega))
   rw [hh]
   have hgt:(decide (((F6 a).length:Int) > 1024))=decide ((F6 a).length > 1024):=decide_eq_decide.2 (by omega)
   rw [hgt]
   by_cases h1:(F6 a).headD 0=48
   ·rw [dT h1]
    by_cases h2:a=[48]
    ·have:(a == [48])=true:=by rw [beq_iff_eq]; exact h2
     rw [this,if_neg (by rintro ⟨_,h⟩; exact h h2)]
     by_cases h3:(F6 a).length > 1024
     ·rw [dT h3,if_pos h3]; rfl
     ·rw [dF h3,if_neg h3]; rfl
    ·have:(a == [48])=false:=by rw [beq_eq_false_iff_ne]; exact h2
     rw [this,if_pos ⟨h1,h2⟩]; rfl
   ·rw [dF h1,if_neg (by rintro ⟨h,_⟩; exact h1 h)]
    by_cases h3:(F6 a).length > 1024
    ·rw [dT h3,if_pos h3]; rfl
    ·rw [dF h3,if_neg h3]; rfl
def pBig14:Prims:=pBig13.addt 96 (gP [.str] (C2b C9))
theorem C4p {A:Amb} (hT:Tab A) (hG:prog.globals.size<=A.G):PrimOK prog A pBig14:=by
 refine PrimOK.addP D5 D6 (C4w hT hG) (C4w hT hG) hG func96 (by kernel_rfl) fun ls v h=>?_
 unfold C2b at h
 split at h
 ·rename_i a
  obtain ⟨hs,hv⟩:=Tr.br1 h
  cases hv
  exact ⟨rfl,60,_,by rw [gsz]; exact (G8h a).trans (F7x hs),rfl,fun ι x=>J4 rfl x⟩
 ·cases h
end Go.Proofs.Tryz
namespace Go.Proofs.Tryz
open Go.Ad
open Go.Lib (decDigits itoa)
def G8g:SP:=⟨[.str,.int .i64],dd8++[opW]⟩
def G6q:List Lf->Tr (SP × List Lf)
 | [.b l,.i n,.n m,.f f]=>.br (A9 (m=232/\isW n f)) (.leaf (G8g,.s (A1n (sv l (F4 n f))).1 :: .i (A1n (sv l (F4 n f))).2 :: lfT l n f)) .fail
 | _=>.fail
theorem F9z (l:Bool) (n:Int) (f:Nat->Int):(C8 prog pBig14 60).call 111 (spW1.rho (lfT l n f)) (spW1.heap (lfT l n f)) (O8 G8g 9 []) =
  brK (A9 (232=232/\isW n f)) (brK (D9 (itoa (sv l (F4 n f)))) (brK (C9 (itoa (sv l (F4 n f))) != 0)
   (some [.s [],.i (C9 (itoa (sv l (F4 n f)))),.b l,.i n,.n 232,.f f]) (some [.s (itoa (sv l (F4 n f))),.i 0,.b l,.i n,.n 232,.f f])) none) none:=by kernel_rfl
theorem G0v (l:Bool) (V:Nat):(sv l V).natAbs=V:=by cases l <;> simp [sv]
def pBig15:Prims:=pBig14.addh 111 (G8 8 (funQ spW1 9 [] G6q))
theorem E5a {A:Amb} (hT:Tab A) (hG:prog.globals.size<=A.G):PrimOK prog A pBig15:=by
 refine (C4p hT hG).addl gsz func111 (by kernel_rfl) (I6 D5 D6 rfl fun ls sq l h=>?_)
 unfold G6q at h
 split at h
 ·rename_i lb n m f
  obtain ⟨hc,hv⟩:=Tr.br1 h
  cases hv
  obtain ⟨rfl,w⟩:=D7 hc
  refine ⟨⟨.inr rfl,.inr rfl,.inr rfl,.inr rfl,.inr rfl,.inr rfl,.inr rfl,.inr rfl,.inr rfl,trivial⟩,rfl,pBig14,60,_,C4p hT hG,(F9z _ _ f).trans ?_,fun _ _=>.refl⟩
  obtain ⟨a1,a2,a3⟩:=R6 w
  rw [A8 (show _/\_ from ⟨rfl,w⟩)]
  generalize F4 n f=V at *
  have hsz:D9 (itoa (sv lb V))=true:=by
   refine dT ?_
   have h1:=A3u (sv lb V)
   rw [G0v] at h1
   have h2:=B3m a3
   omega
  rw [hsz]
  have hr:=E0l (sv lb V)
  generalize itoa (sv lb V)=s at hr
  rw [<- hr]
  by_cases he:C9 s ≠ 0
  ·rw [if_pos he,show (C9 s != 0)=true by simpa using he]; rfl
  ·rw [if_neg he,show (C9 s != 0)=false by simpa using he]; rfl
 ·cases h
def A1p (a b:List UInt8):Bool:=decide (a.length<=9) && decide (b.length<=9)
def G6i:List Lf->Tr AV
 | [.s a,.s b]=>.br (A9 (isZ a/\isZ b)) (.leaf (.tuple [.sint .i64 (bif A1p a b then A7 a else 0),.sint .i64 (bif A1p a b then A7 b else 0),.sbool (A1p a b)])) .fail
 | _=>.fail
theorem D7t (a b:List UInt8):(C8 prog lib2 60).call 107 [.sstr a,.sstr b] (Bg 8) I4 =
  brK (decide ((a.length:Int) > 9)) (some (.tuple [.int .i64 0,.int .i64 0,.bool false])) (brK (decide ((b.length:Int) > 9)) (some (.tuple [.int .i64 0,.int .i64 0,.bool false]))
   (brK (decide (a.length<=18) && (Lib.atoi a).isSome) (brK (decide (b.length<=18) && (Lib.atoi b).isSome) (some (.tuple [.sint .i64 ((Lib.atoi a).getD 0),.sint .i64 ((Lib.atoi b).getD 0),.bool true])) none) none)):=by kernel_rfl
def pBig16:Prims:=pBig15.addt 107 (gP [.str,.str] G6i)
theorem C3p {A:Amb} (hT:Tab A) (hG:prog.globals.size<=A.G):PrimOK prog A pBig16:=by
 refine PrimOK.addP D5 D6 (K5 hT) (E5a hT hG) hG func107 (by kernel_rfl) fun ls v h=>?_
 unfold G6i at h
 split at h
 ·rename_i a b
  obtain ⟨hc,hv⟩:=Tr.br1 h
  cases hv
  obtain ⟨ha,hb⟩:=D7 hc
  have fin:∀ v',(C8 prog lib2 60).call 107 [.sstr a,.sstr b] (Bg 8) I4=some v'->below 0 v'=true->(∀ ι x,VR ι v' x->VR ι (.tuple [.sint .i64 (bif A1p a b then A7 a else 0),.sint .i64 (bif A1p a b then A7 b else 0),.sbool (A1p a b)]) x) ->
    J8 0 (mkT [.str,.str] [.s a,.s b]).1=true/\∃ n v',(C8 prog lib2 n).call 107 (mkT [.str,.str] [.s a,.s b]).1 (Bg prog.globals.size) I4=some v'/\below 0 v'=true/\∀ ι x,VR ι v' x->VR ι (.tuple [.sint .i64 (bif A1p a b then A7 a else 0),.sint .i64 (bif A1p a b then A7 b else 0),.sbool (A1p a b)]) x:=fun v' h1 h2 h3 =>
   ⟨rfl,60,v',by rw [gsz]; exact h1,h2,h3⟩
  by_cases h1:a.length<=9
  ·by_cases h2:b.length<=9
   ·have hs:A1p a b=true:=by unfold A1p; rw [dT h1,dT h2]; rfl
    have za:Lib.atoi a=some (A7 a):=by
     unfold isZ at ha
     have:=C3s (A7 a)
     rwa [<- ha] at this
    have zb:Lib.atoi b=some (A7 b):=by
     unfold isZ at hb
     have:=C3s (A7 b)
     rwa [<- hb] at this
    refine fin (.tuple [.sint .i64 (A7 a),.sint .i64 (A7 b),.bool true]) ?_ rfl fun ι x hx=>?_
    ·rw [D7t,za,zb,dF (show ¬ (a.length:Int) > 9 by omega),dF (show ¬ (b.length:Int) > 9 by omega),dT (show a.length<=18 by omega),dT (show b.length<=18 by omega)]
     rfl
    ·rw [hs]; exact W9 (fun _ h=>h) (fun _ h=>h) (fun _ h=>A0e rfl _ h) x hx
   ·have hs:A1p a b=false:=by unfold A1p; rw [dF h2,Bool.and_false]
    refine fin (.tuple [.int .i64 0,.int .i64 0,.bool false]) ?_ rfl fun ι x hx=>?_
    ·rw [D7t,dF (show ¬ (a.length:Int) > 9 by omega),dT (show (b.length:Int) > 9 by omega)]; rfl
    ·rw [hs]; exact W9 (fun _ h=>J4 rfl _ h) (fun _ h=>J4 rfl _ h) (fun _ h=>A0e rfl _ h) x hx
  ·have hs:A1p a b=false:=by unfold A1p; rw [dF h1,Bool.false_and]
   refine fin (.tuple [.int .i64 0,.int .i64 0,.bool false]) ?_ rfl fun ι x hx=>?_
   ·rw [D7t,dT (show (a.length:Int) > 9 by omega)]; rfl
   ·rw [hs]; exact W9 (fun _ h=>J4 rfl _ h) (fun _ h=>J4 rfl _ h) (fun _ h=>A0e rfl _ h) x hx
 ·cases h
def G9g:List Lf->Tr AV
 | [.s a]=>.br (A9 (isZ a)) (.leaf (.sint .i64 (L9 (A7 a)))) .fail
 | _=>.fail
theorem G3c (a:List UInt8):(C8 prog lib2 60).call 169 [.sstr a] (Bg 8) I4 =
  brK (a == [48]) (some (.int .i64 0)) (brK (decide ((0:Int)<=0/\(0:Int) < (a.length:Int))) (brK (((a.getD 0 0).toNat:Int) == 45) (some (.int .i64 (-1))) (some (.int .i64 1))) none):=by kernel_rfl
def H1d:List Lf->Tr AV
 | [.s a]=>.br (A9 (isZ a/\a.length<=1000000000)) (.leaf (.sstr (itoa (-(A7 a))))) .fail
 | _=>.fail
theorem G0b (a:List UInt8):(C8 prog pBig16 60).call 158 [.sstr a] (Bg 8) I4 =
  brK (a == [48]) (some (.sstr a)) (brK (decide ((0:Int)<=0/\(0:Int) < (a.length:Int))) (brK (((a.getD 0 0).toNat:Int) == 45) (brK (true && decide ((0:Int)<=1/\(1:Int)<=(a.length:Int))) (some (.sstr ((a.take a.length).drop 1))) none)
   (brK (decide (1+a.length < 4611686018427387904)) (some (.sstr (45 :: a))) none)) none):=by kernel_rfl
theorem Y0 (n:Int):(itoa n == [48])=decide (n=0):=by
 by_cases h:n=0
 ·subst h; rw [itoa0,dT rfl]; rfl
 ·rw [dF h,beq_eq_false_iff_ne]
  intro e
  rw [<- itoa0] at e
  exact h (A8v e)
theorem C1i (n:Int):decide ((0:Int)<=0/\(0:Int) < ((itoa n).length:Int))=true:=by
 refine dT ⟨Int.le_refl _,?_⟩
 cases hh:itoa n with
 | nil=>exact (A3g n hh).elim
 | cons=>simp
def pBig17:Prims:=(pBig16.addt 169 (gP [.str] G9g)).addt 158 (gP [.str] H1d)
theorem C4x {A:Amb} (hT:Tab A) (hG:prog.globals.size<=A.G):PrimOK prog A pBig17:=by
 refine PrimOK.addP D5 D6 (C3p hT hG) (PrimOK.addP D5 D6 (K5 hT) (C3p hT hG) hG func169 (by kernel_rfl) fun ls v h=>?_) hG func158 (by kernel_rfl) fun ls v h=>?_
 ·unfold G9g at h
  split at h
  ·rename_i a
   obtain ⟨hc,hv⟩:=Tr.br1 h
   cases hv
   have hz:=D7 hc
   refine ⟨rfl,60,.int .i64 (L9 (A7 a)),?_,rfl,fun ι x=>J4 rfl x⟩
   rw [gsz]
   refine (G3c a).trans ?_
   unfold isZ at hz
   generalize A7 a=Z at *
   subst hz
   rw [Y0,C1i,A3l]
   unfold L9
   by_cases h0:Z=0
   ·rw [dT h0,if_pos h0]; rfl
   ·rw [dF h0,if_neg h0]
    by_cases h1:Z < 0
    ·rw [dT h1,if_pos h1]; rfl
    ·rw [dF h1,if_neg h1]; rfl
  ·cases h
 ·unfold H1d at h
  split at h
  ·rename_i a
   obtain ⟨hc,hv⟩:=Tr.br1 h
   cases hv
   obtain ⟨hz,hs⟩:=D7 hc
   refine ⟨rfl,60,.sstr (itoa (-(A7 a))),?_,rfl,fun ι x h=>h⟩
   rw [gsz]
   refine (G0b a).trans ?_
   unfold isZ at hz
   generalize A7 a=Z at *
   subst hz
   have hl1:1<=(itoa Z).length:=by
    cases hh:itoa Z with
    | nil=>exact (A3g Z hh).elim
    | cons=>simp
   rw [Y0,C1i,A3l,List.take_length,dT (show (0:Int)<=1/\(1:Int)<=((itoa Z).length:Int) by omega),dT (show 1+(itoa Z).length < 4611686018427387904 by omega)]
   by_cases h0:Z=0
   ·subst h0; rfl
   ·rw [dF h0]
    by_cases h1:Z < 0
    ·rw [dT h1]
     have h2:=A9d Z
     rw [if_pos h1] at h2
     have h3:itoa (-Z)=decDigits Z.natAbs:=by
      unfold itoa
      rw [if_neg (by omega)]
      congr 1; omega
     rw [h2,h3]; rfl
    ·rw [dF h1]
     have h3:itoa (-Z)=45 :: itoa Z:=by
      unfold itoa
      rw [if_pos (by omega),if_neg h1]
      congr 2; omega
     rw [h3]; rfl
  ·cases h
end Go.Proofs.Tryz
namespace Go.Proofs.Tryz
open Go.Ad
open Go.Lib (decDigits itoa)
def spL2:SP:=⟨[.is (.slice (some (8,0)) 2 2)],dd8++[.cells [.str,.str] 1 true 90]⟩
def F8x:SP:=⟨[.int .i64],dd8++[.cells [.str,.str] 1 true 90]⟩
def A0g (a b:List UInt8):Int:=bif C9 a != 0 then C9 a else C9 b
theorem F9w (a b:List UInt8):(C8 prog pBig17 60).call 106 (spL2.rho [.s a,.s b]) (spL2.heap [.s a,.s b]) (V8 F8x 9 [8]) =
  brK (D9 a) (brK (C9 a != 0) (some [.i (C9 a),.s a,.s b]) (brK (D9 b) (brK (C9 b != 0) (some [.i (C9 b),.s a,.s b]) (some [.i 0,.s a,.s b])) none)) none:=by kernel_rfl
def H0p:List Lf->Tr (SP × List Lf)
 | [.s a,.s b]=>.br (D9 a && D9 b) (.leaf (F8x,[.i (A0g a b),.s a,.s b])) .fail
 | _=>.fail
def pBig18:Prims:=pBig17.addh 106 (G8 8 (funP spL2 9 [8] H0p))
theorem C2x {A:Amb} (hT:Tab A) (hG:prog.globals.size<=A.G):PrimOK prog A pBig18:=by
 refine (C4x hT hG).addl gsz func106 (by kernel_rfl) (K6 D5 D6 rfl fun ls sq l h=>?_)
 unfold H0p at h
 split at h
 ·rename_i a b
  obtain ⟨hc,hv⟩:=Tr.br1 h
  cases hv
  rw [Bool.and_eq_true] at hc
  obtain ⟨ha,hb⟩:=hc
  refine ⟨⟨.inr rfl,.inr rfl,.inr rfl,.inr rfl,.inr rfl,.inr rfl,.inr rfl,.inr rfl,.inr rfl,trivial⟩,rfl,rfl,pBig17,60,C4x hT hG,(F9w a b).trans ?_⟩
  rw [ha,hb]
  unfold A0g
  cases h1:C9 a != 0 with
  | true=>rfl
  | false =>
   cases h2:C9 b != 0 with
   | true=>rfl
   | false =>
    have:C9 b=0:=by simpa using h2
    rw [this]; rfl
 ·cases h
def F9o:SP:=⟨[.str,.int .i64],dd8++[.cells [.str,.str] 1 true 90]⟩
theorem E8 {β:Type} {t f:Option β}:brK true t f=t:=rfl
theorem I8 {β:Type} {t f:Option β}:brK false t f=f:=rfl
theorem H2a:F4 0 (fun _=>0)=0:=rfl
theorem B1p (V:Nat):sv true V=-(V:Int):=rfl
theorem B5e (V:Nat):sv false V=V:=rfl
theorem B4e (l:Bool) (V:Nat) (l':Bool) (U:Nat):sv (A0k l V l' U).1 (A0k l V l' U).2=sv l V+sv l' U:=by
 have e1:(A0k true V false U)=bif decide (U<=V) then (true,V - U) else (false,U - V):=rfl
 have e2:(A0k false V true U)=bif decide (U<=V) then (false,V - U) else (true,U - V):=rfl
 have e3:(A0k true V true U)=(true,V+U):=rfl
 have e4:(A0k false V false U)=(false,V+U):=rfl
 by_cases h:U<=V
 ·rw [dT h] at e1 e2
  cases l <;> cases l' <;> simp only [e1,e2,e3,e4,cond_true,B1p,B5e] <;> omega
 ·rw [dF h] at e1 e2
  cases l <;> cases l' <;> simp only [e1,e2,e3,e4,cond_false,B1p,B5e] <;> omega
theorem B2q (l:Bool) (V:Nat) (l':Bool) (U:Nat):(A0k l V l' U).2<=V+U:=by
 unfold A0k
 cases (l == l') with
 | true=>exact Nat.le_refl _
 | false =>
  by_cases h:U<=V
  ·rw [dT h]; exact Nat.le_trans (Nat.sub_le _ _) (Nat.le_add_right _ _)
  ·rw [dF h]; exact Nat.le_trans (Nat.sub_le _ _) (Nat.le_add_left _ _)
theorem B6a (Z:Int):sv (decide (Z < 0)) Z.natAbs=Z:=by
 unfold sv
 by_cases h:Z < 0
 ·rw [dT h]; simp only [cond_true]; omega
 ·rw [dF h]; simp only [cond_false]; omega
theorem A3a {V U:Nat} (h:V<=U):wn V<=wn U:=Z7 (Nat.lt_of_le_of_lt h (A2e U))
theorem D7c {V U n:Nat} (h1:wn V<=n) (h2:wn U<=n):wn (V+U)<=n+1:=by
 have a:=C4z.1 h1
 have b:=C4z.1 h2
 refine Z7 ?_
 rw [Nat.pow_succ]
 have hB:2<=BB:=by decide
 have:=Nat.mul_le_mul_left (BB ^ n) hB
 omega
abbrev E6m (a b:List UInt8) (q:Bool × Nat):Option (List Lf) :=
 brK (A9 (232=232/\isW (wn q.2:Int) (wf q.2))) (some [.s (A1n (sv q.1 (F4 (wn q.2:Int) (wf q.2)))).1,.i (A1n (sv q.1 (F4 (wn q.2:Int) (wf q.2)))).2,.s a,.s b]) none
abbrev E8m (a b:List UInt8) (p:Bool × Nat) (lb:Bool) (U:Nat):Option (List Lf) :=
 brK (A9 (232=232/\232=232/\isW (wn p.2:Int) (wf p.2)/\isW (wn U:Int) (wf U)/\wn (F4 (wn p.2:Int) (wf p.2)+F4 (wn U:Int) (wf U))<=232))
  (E6m a b (A0k p.1 (F4 (wn p.2:Int) (wf p.2)) lb (F4 (wn U:Int) (wf U)))) none
abbrev C5g (a b:List UInt8) (la:Bool) (V:Nat) (lb:Bool) (U:Nat):Option (List Lf) :=
 brK (A9 (isZ a/\wn V<=232)) (brK (A9 (232=232/\232=232/\isW 0 (fun _=>0)/\isW (wn V:Int) (wf V)/\wn (F4 0 (fun _=>0)+F4 (wn V:Int) (wf V))<=232))
  (brK (A9 (isZ b/\wn U<=232)) (E8m a b (A0k false (F4 0 fun _=>0) la (F4 (wn V:Int) (wf V))) lb U) none) none) none
theorem G2y (a b:List UInt8):(C8 prog pBig18 60).call 188 (spL2.rho [.s a,.s b]) (spL2.heap [.s a,.s b]) (O8 F9o 9 [8]) =
  C5g a b (decide (A7 a < 0)) (A7 a).natAbs (decide (A7 b < 0)) (A7 b).natAbs:=by kernel_rfl
theorem D7o {a b:List UInt8} {la lb:Bool} {V U:Nat} (ha:isZ a) (hb:isZ b) (hV:wn V<=231) (hU:wn U<=231) :
  C5g a b la V lb U=some [.s (A1n (sv la V+sv lb U)).1,.i (A1n (sv la V+sv lb U)).2,.s a,.s b]:=by
 unfold C5g
 have w0:isW 0 (fun _=>0):=by
  have:=N8 (V:=0) (by rw [Y3]; omega)
  rwa [Y3,C7v] at this
 have hs:=B4e false 0 la V
 have hl:=B2q false 0 la V
 rw [H2a,G7,A8 (show isZ a/\wn V<=232 from ⟨ha,by omega⟩),Nat.zero_add,
  A8 (show 232=232/\232=232/\isW 0 (fun _=>0)/\isW (wn V:Int) (wf V)/\wn V<=232 from ⟨rfl,rfl,w0,N8 (by omega),by omega⟩),A8 (show isZ b/\wn U<=232 from ⟨hb,by omega⟩)]
 simp only [E8]
 generalize A0k false 0 la V=p at *
 unfold E8m
 rw [G7,G7]
 have hp:wn p.2<=231:=Nat.le_trans (A3a (by omega)) hV
 have hpu:=D7c hp hU
 rw [A8 (show 232=232/\232=232/\isW (wn p.2:Int) (wf p.2)/\isW (wn U:Int) (wf U)/\wn (p.2+U)<=232 from ⟨rfl,rfl,N8 (by omega),N8 (by omega),hpu⟩)]
 have hs2:=B4e p.1 p.2 lb U
 have hl2:=B2q p.1 p.2 lb U
 simp only [E8]
 generalize A0k p.1 p.2 lb U=q at *
 unfold E6m
 rw [G7,A8 (show 232=232/\isW (wn q.2:Int) (wf q.2) from ⟨rfl,N8 (Nat.le_trans (A3a hl2) hpu)⟩),hs2,hs]
 have h0:sv false 0=0:=rfl
 rw [h0,Int.zero_add]
 rfl
def G8b:List Lf->Tr (SP × List Lf)
 | [.s a,.s b]=>.br (A9 (isZ a/\isZ b/\wn (A7 a).natAbs<=231/\wn (A7 b).natAbs<=231)) (.leaf (F9o,[.s (A1n (A7 a+A7 b)).1,.i (A1n (A7 a+A7 b)).2,.s a,.s b])) .fail
 | _=>.fail
def pBig19:Prims:=pBig18.addh 188 (G8 8 (funQ spL2 9 [8] G8b))
theorem B5w {A:Amb} (hT:Tab A) (hG:prog.globals.size<=A.G):PrimOK prog A pBig19:=by
 refine (C2x hT hG).addl gsz func188 (by kernel_rfl) (I6 D5 D6 rfl fun ls sq l h=>?_)
 unfold G8b at h
 split at h
 ·rename_i a b
  obtain ⟨hc,hv⟩:=Tr.br1 h
  cases hv
  obtain ⟨ha,hb,h1,h2⟩:=D7 hc
  refine ⟨⟨.inr rfl,.inr rfl,.inr rfl,.inr rfl,.inr rfl,.inr rfl,.inr rfl,.inr rfl,.inr rfl,trivial⟩,rfl,pBig18,60,_,C2x hT hG,(G2y a b).trans ?_,fun _ _=>.refl⟩
  rw [D7o ha hb h1 h2,B6a,B6a]
 ·cases h
end Go.Proofs.Tryz
namespace Go.Proofs.Tryz
open Go.Ad
open Go.Lib (decDigits itoa nDigits)
def spSS:SP:=⟨[.str,.str],dd8⟩
def A1i:SP:=⟨[.str,.int .i64],dd8⟩
theorem D8m {a b:List UInt8} (ha:isZ a) (hb:isZ b) (h:A1p a b=true) :
  (-1000000000 < A7 a/\A7 a < 1000000000)/\(-1000000000 < A7 b/\A7 b < 1000000000):=by
 unfold A1p at h
 rw [Bool.and_eq_true,decide_eq_true_eq,decide_eq_true_eq] at h
 unfold isZ at ha hb
 exact ⟨B8p (by rw [<- ha]; exact h.1),B8p (by rw [<- hb]; exact h.2)⟩
theorem A3s {U n:Nat} (h:U < 10 ^ n) (hn:1<=n):(decDigits U).length<=n:=by
 rw [Lib.decDigits_length]
 obtain ⟨m,rfl⟩:∃ m,n=m+1:=⟨n - 1,by omega⟩
 exact A4b m U h
theorem D7r {C:Int} (h1:-1000000000000000000 < C) (h2:C < 1000000000000000000):A1n C=(itoa C,0):=by
 unfold A1n
 have:=A3s (U:=C.natAbs) (n:=18) (by omega) (by omega)
 rw [if_neg (by omega)]
theorem C0v {a b:List UInt8} (h:(A0g a b != 0)=false):C9 a=0/\C9 b=0:=by
 unfold A0g at h
 cases h1:C9 a != 0 with
 | true=>rw [h1] at h; simp only [cond_true] at h; rw [h1] at h; cases h
 | false=>rw [h1] at h; simp only [cond_false] at h; exact ⟨by simpa using h1,by simpa using h⟩
theorem D2l {a b:List UInt8} (op:Int->Int->Int) (h:(A0g a b != 0)=true):B0t op a b=([],A0g a b):=by
 unfold A0g at h ⊢
 unfold B0t
 cases h1:C9 a != 0 with
 | true=>rw [if_pos (by simpa using h1)]; rfl
 | false =>
  rw [h1] at h; simp only [cond_false] at h
  rw [if_neg (by simpa using h1),if_pos (by simpa using h)]; rfl
theorem B0k {a b:List UInt8} (op:Int->Int->Int) (h1:C9 a=0) (h2:C9 b=0):B0t op a b=A1n (op (A7 a) (A7 b)):=by
 unfold B0t
 rw [if_neg (by rw [h1]; simp),if_neg (by rw [h2]; simp)]
theorem O0 {a:List UInt8} (h:C9 a=0):isZ a/\wn (A7 a).natAbs<=114:=by
 have:=F7g h
 exact ⟨this.1,G4t this.2⟩
abbrev rg (n:Int):Bool:=decide (-9223372036854775808<=n/\n<=9223372036854775807)
theorem V7 {n:Int} (h1:-9223372036854775808<=n) (h2:n<=9223372036854775807):W n=n:=wrap64 h1 (by omega)
abbrev F7j (a b:List UInt8) (x:Int) (big:Option (List Lf)):Option (List Lf) :=
 brK (D9 a && D9 b) (brK (A0g a b != 0) (some [.s [],.i (A0g a b)]) (brK (A9 (isZ a/\isZ b)) (brK (A1p a b) (brK (rg (W x)) (some [.s (itoa (W x)),.i 0]) none) big) none)) none
theorem D9d {a b:List UInt8} {op:Int->Int->Int} {x:Int} {big:Option (List Lf)} (hs:(D9 a && D9 b)=true)
  (hx:A1p a b=true->x=op (A7 a) (A7 b)) (hr:∀ A B,-1000000000 < A->A < 1000000000->-1000000000 < B->B < 1000000000->-1000000000000000000 < op A B/\op A B < 1000000000000000000)
  (hb:C9 a=0->C9 b=0->big=some [.s (A1n (op (A7 a) (A7 b))).1,.i (A1n (op (A7 a) (A7 b))).2]) :
  F7j a b x big=some [.s (B0t op a b).1,.i (B0t op a b).2]:=by
 unfold F7j
 rw [hs,E8]
 cases h:A0g a b != 0 with
 | true=>rw [D2l op h]; rfl
 | false =>
  obtain ⟨h1,h2⟩:=C0v h
  rw [B0k op h1 h2,I8,A8 ⟨(O0 h1).1,(O0 h2).1⟩,E8]
  cases hm:A1p a b with
  | false=>rw [I8]; exact hb h1 h2
  | true =>
   obtain ⟨⟨a1,a2⟩,b1,b2⟩:=D8m (O0 h1).1 (O0 h2).1 hm
   rw [hx hm]
   obtain ⟨r1,r2⟩:=hr _ _ a1 a2 b1 b2
   rw [D7r r1 r2,V7 (by omega) (by omega),E8]
   unfold rg
   rw [dT ⟨by omega,by omega⟩]
   rfl
theorem G5a (a b:List UInt8):(C8 prog pBig19 60).call 179 (spSS.rho [.s a,.s b]) (spSS.heap [.s a,.s b]) (O8 A1i 8 []) =
  F7j a b ((bif A1p a b then A7 a else 0)+bif A1p a b then A7 b else 0)
   (brK (A9 (isZ a/\isZ b/\wn (A7 a).natAbs<=231/\wn (A7 b).natAbs<=231)) (some [.s (A1n (A7 a+A7 b)).1,.i (A1n (A7 a+A7 b)).2]) none):=by kernel_rfl
abbrev E9c (a b:List UInt8) (la lb:Bool) (V U:Nat) (X:Nat):Option (List Lf) :=
 brK (A9 (isZ a/\wn V<=232)) (brK (A9 (isZ b/\wn U<=232)) (brK (A9 (232=232/\232=232/\isW (wn V:Int) (wf V)/\isW (wn U:Int) (wf U)/\(wn V:Int)+(wn U:Int)<=232))
  (brK (A9 (232=232/\isW (wn X:Int) (wf X))) (some [.s (A1n (sv (la != lb) (F4 (wn X:Int) (wf X)))).1,.i (A1n (sv (la != lb) (F4 (wn X:Int) (wf X)))).2]) none) none) none) none
theorem G6c (a b:List UInt8):(C8 prog pBig19 60).call 66 (spSS.rho [.s a,.s b]) (spSS.heap [.s a,.s b]) (O8 A1i 8 []) =
  F7j a b ((bif A1p a b then A7 a else 0)*bif A1p a b then A7 b else 0)
   (E9c a b (decide (A7 a < 0)) (decide (A7 b < 0)) (A7 a).natAbs (A7 b).natAbs (F4 (wn (A7 a).natAbs:Int) (wf (A7 a).natAbs)*F4 (wn (A7 b).natAbs:Int) (wf (A7 b).natAbs))):=by kernel_rfl
theorem E6d (l l':Bool) (V U:Nat):sv (l != l') (V*U)=sv l V*sv l' U:=by
 have e:=Int.natCast_mul V U
 cases l <;> cases l' <;> simp only [show (true != true)=false from rfl,show (false != false)=false from rfl,show (true != false)=true from rfl,show (false != true)=true from rfl,B1p,B5e,e,Int.neg_mul,Int.mul_neg,Int.neg_neg]
theorem G3n {V U n m:Nat} (h1:wn V<=n) (h2:wn U<=m):wn (V*U)<=n+m:=by
 have a:=C4z.1 h1
 have b:=C4z.1 h2
 refine Z7 ?_
 rw [Nat.pow_add]
 exact Nat.mul_lt_mul'' a b
theorem E6v {a b:List UInt8} {la lb:Bool} {V U:Nat} (ha:isZ a) (hb:isZ b) (hV:wn V<=114) (hU:wn U<=114) :
  E9c a b la lb V U (F4 (wn V:Int) (wf V)*F4 (wn U:Int) (wf U))=some [.s (A1n (sv la V*sv lb U)).1,.i (A1n (sv la V*sv lb U)).2]:=by
 unfold E9c
 rw [G7,G7,G7]
 have h3:=G3n hV hU
 generalize hX:V*U=X at *
 rw [A8 (show isZ a/\wn V<=232 from ⟨ha,by omega⟩),A8 (show isZ b/\wn U<=232 from ⟨hb,by omega⟩),
  A8 (show 232=232/\232=232/\isW (wn V:Int) (wf V)/\isW (wn U:Int) (wf U)/\(wn V:Int)+(wn U:Int)<=232 from ⟨rfl,rfl,N8 (by omega),N8 (by omega),by omega⟩),
  A8 (show 232=232/\isW (wn X:Int) (wf X) from ⟨rfl,N8 (by omega)⟩)]
 rw [<- hX,E6d]
 rfl
theorem G5n {A B:Int} (a1:-1000000000 < A) (a2:A < 1000000000) (b1:-1000000000 < B) (b2:B < 1000000000):-1000000000000000000 < A*B/\A*B < 1000000000000000000:=by
 have h:(A*B).natAbs<=999999999*999999999:=by
  rw [Int.natAbs_mul]
  exact Nat.mul_le_mul (by omega) (by omega)
 omega
def E4x (op:Int->Int->Int):List Lf->Tr (SP × List Lf)
 | [.s a,.s b]=>.br (D9 a && D9 b) (.leaf (A1i,[.s (B0t op a b).1,.i (B0t op a b).2])) .fail
 | _=>.fail
def pBig20:Prims:=(pBig19.addh 179 (G8 8 (funQ spSS 8 [] (E4x (·+·))))).addh 66 (G8 8 (funQ spSS 8 [] (E4x (·*·))))
theorem C3o {A:Amb} (hT:Tab A) (hG:prog.globals.size<=A.G):PrimOK prog A pBig20:=by
 refine PrimOK.addl ((B5w hT hG).addl gsz func179 (by kernel_rfl) (I6 D5 D6 rfl fun ls sq l h=>?_)) gsz func66 (by kernel_rfl) (I6 D5 D6 rfl fun ls sq l h=>?_)
 ·unfold E4x at h
  split at h
  ·rename_i a b
   obtain ⟨hc,hv⟩:=Tr.br1 h
   cases hv
   refine ⟨⟨.inr rfl,.inr rfl,.inr rfl,.inr rfl,.inr rfl,.inr rfl,.inr rfl,.inr rfl,trivial⟩,rfl,pBig19,60,_,B5w hT hG,(G5a a b).trans ?_,fun _ _=>.refl⟩
   refine D9d hc (fun h=>by rw [h]; rfl) (fun A B _ _ _ _=>by omega) fun h1 h2=>?_
   have w1:=O0 h1
   have w2:=O0 h2
   rw [A8 ⟨w1.1,w2.1,by omega,by omega⟩]
   rfl
  ·cases h
 ·unfold E4x at h
  split at h
  ·rename_i a b
   obtain ⟨hc,hv⟩:=Tr.br1 h
   cases hv
   refine ⟨⟨.inr rfl,.inr rfl,.inr rfl,.inr rfl,.inr rfl,.inr rfl,.inr rfl,.inr rfl,trivial⟩,rfl,pBig19,60,_,B5w hT hG,(G6c a b).trans ?_,fun _ _=>.refl⟩
   refine D9d hc (fun h=>by rw [h]; rfl) (fun A B=>G5n) fun h1 h2=>?_
   have w1:=O0 h1
   have w2:=O0 h2
   rw [E6v w1.1 w2.1 w1.2 w2.2,B6a,B6a]
  ·cases h
end Go.Proofs.Tryz
