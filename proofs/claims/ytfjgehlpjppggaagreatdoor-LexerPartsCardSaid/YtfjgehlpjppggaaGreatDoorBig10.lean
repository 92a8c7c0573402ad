/- Numbers of any size, written as texts. -/
import Derived.Test.YtfjgehlpjppggaaGreatDoorBig5
import Derived.Test.YtfjgehlpjppggaaGreatDoorAdNum
import Derived.Test.YtfjgehlpjppggaaGreatDoorBase
namespace Go.Proofs.Tryz
open Go.Ad
open Go.Lib (decDigits itoa)
noncomputable def code149:Code:=f149.body.getD .skip
noncomputable def bodyX:Code:=unLoop (findB 0 code149)
def tX0:List Pt:=[pW 8,.drop,.drop,pW 9,.int .i64]++dr 46
def sX10:SP:=⟨tX0,dd8++[opW,opB (selfB 9) 10,.text 5]⟩
def sX11:SP:=⟨tX0,dd8++[opW,opB (selfB 9) 11,.dead,.text 5]⟩
def sX12:SP:=⟨tX0,dd8++[opW,opB (selfB 9) 12,.dead,.dead,.text 5]⟩
def onN (a b:SP):AEx→SP
 | .normal=>a
 | _=>b
def lfXt (i:Int) (l:Bool) (n:Int) (f:Nat→Int) (k:Nat) (s:List UInt8):List Lf:=[.i i,.b l,.i n,.n 232,.f f,.n k,.s s]
def z9:List UInt8:=[48,48,48,48,48,48,48,48,48]
abbrev itF (f:Nat→Int) (i:Int):List UInt8:=itoa (f i.toNat)
noncomputable abbrev treeXt (i:Int) (l:Bool) (n:Int) (f:Nat→Int) (k:Nat) (s u:List UInt8):Option (AEx × List Lf) :=
 brK (decide (i ≥ 0)) (brK (decide (0≤i∧i < 232)) (brK (decide (i.toNat < 232)) (brK (decide (-9223372036854775808≤f i.toNat∧f i.toNat≤9223372036854775807)) (brK (true && decide (0≤(u.length:Int)∧(u.length:Int)≤9))
  (brK (decide (((z9.take 9).drop u.length).length+u.length < 4611686018427387904)) (brK (decide (k=s.length) && decide (k+((z9.take 9).drop u.length++u).length < 2147483648))
   (some (.normal,[.i (W (i - 1)),.b l,.i n,.n 232,.f f,.n (k+((z9.take 9).drop u.length++u).length),.s (s++((z9.take 9).drop u.length++u))])) none) none) none) none) none) none)
  (some (.exit 0,[.i i,.b l,.i n,.n 232,.f f,.n k,.s s]))
section
variable (i:Int) (l:Bool) (n:Int) (f:Nat→Int) (k:Nat) (s:List UInt8)
theorem rX11a:execK prog (runK prog pBig11 60) noBps bodyX (sX10.rho (lfXt i l n f k s)) (sX10.heap (lfXt i l n f k s)) (nrmP (onN sX11 sX10) 11 [9,10])=treeXt i l n f k s (itF f i):=by kernel_rfl
theorem rX11b:execK prog (runK prog pBig11 60) noBps bodyX (sX11.rho (lfXt i l n f k s)) (sX11.heap (lfXt i l n f k s)) (nrmP (onN sX11 sX11) 11 [9,10])=treeXt i l n f k s (itF f i):=by kernel_rfl
theorem rX12a:execK prog (runK prog pBig11 60) noBps bodyX (sX11.rho (lfXt i l n f k s)) (sX11.heap (lfXt i l n f k s)) (nrmP (onN sX12 sX11) 12 [9,11])=treeXt i l n f k s (itF f i):=by kernel_rfl
theorem rX12b:execK prog (runK prog pBig11 60) noBps bodyX (sX12.rho (lfXt i l n f k s)) (sX12.heap (lfXt i l n f k s)) (nrmP (onN sX12 sX12) 12 [9,11])=treeXt i l n f k s (itF f i):=by kernel_rfl
end
def txI (g:List UInt8) (V i:Nat):List UInt8:=g++decDigits (V / BB ^ i)
def lfY1 (g:List UInt8) (l:Bool) (V i:Nat):List Lf:=lfXt ((i:Int) - 1) l (wn V) (wf V) (txI g V i).length (txI g V i)
theorem txI_len {g:List UInt8} {V i:Nat} (hg:g.length≤1) (hV:wn V≤232):(txI g V i).length≤2089:=by
 unfold txI
 rw [List.length_append]
 have:=dec_len (U:=V / BB ^ i) (wn_le (Nat.lt_of_le_of_lt (Nat.div_le_self _ _) (wn_lt_iff.1 hV)))
 omega
theorem treeXt_step {g:List UInt8} {l:Bool} {V i:Nat} (hg:g.length≤1) (hV:wn V≤232) (hi:i+1 < wn V) :
  treeXt (((i+1:Nat):Int) - 1) l (wn V) (wf V) (txI g V (i+1)).length (txI g V (i+1)) (itF (wf V) (((i+1:Nat):Int) - 1))=some (.normal,lfY1 g l V i):=by
 have e0:((i+1:Nat):Int) - 1=i:=by omega
 obtain ⟨t1,t2⟩:=txt_step (V:=V) (i:=i) hi
 have hu:itF (wf V) ((i:Nat):Int)=decDigits (wd V i):=by
  show itoa (wf V ((i:Nat):Int).toNat)=_
  rw [Int.toNat_natCast]
  exact Lib.itoa_nonneg (wd V i)
 have hw:=wd_lt V i
 have hB:BB=1000000000:=rfl
 have hz:(z9.take 9).drop (decDigits (wd V i)).length=List.replicate (9 - (decDigits (wd V i)).length) 48:=by
  have:z9.take 9=List.replicate 9 48:=rfl
  rw [this,List.drop_replicate]
 have hlen:=txI_len (g:=g) (V:=V) (i:=i) hg hV
 have hnext:txI g V (i+1)++(List.replicate (9 - (decDigits (wd V i)).length) 48++decDigits (wd V i))=txI g V i:=by
  unfold txI
  rw [List.append_assoc,t1]
 have hl2:(txI g V (i+1)).length+(List.replicate (9 - (decDigits (wd V i)).length) (48:UInt8)++decDigits (wd V i)).length=(txI g V i).length:=by rw [← List.length_append,hnext]
 have hl3:(List.replicate (9 - (decDigits (wd V i)).length) (48:UInt8)).length+(decDigits (wd V i)).length≤9:=by simp; omega
 unfold treeXt
 rw [e0,hu,hz,hl2,hnext,Int.toNat_natCast]
 have e2:W ((i:Int) - 1)=(i:Int) - 1:=by rw [W,wrap64 (by omega) (by omega)]
 have hwf:wf V i=(wd V i:Int):=rfl
 rw [e2,hwf,decide_eq_true (show (i:Int) ≥ 0 by omega),decide_eq_true (show 0≤(i:Int)∧(i:Int) < 232 by omega),decide_eq_true (show i < 232 by omega),decide_eq_true (show -9223372036854775808≤(wd V i:Int)∧(wd V i:Int)≤9223372036854775807 by omega),
  decide_eq_true (show 0≤((decDigits (wd V i)).length:Int)∧((decDigits (wd V i)).length:Int)≤9 by omega),decide_eq_true (show (List.replicate (9 - (decDigits (wd V i)).length) (48:UInt8)).length+(decDigits (wd V i)).length < 4611686018427387904 by omega),
  decide_eq_true (show (txI g V (i+1)).length=(txI g V (i+1)).length from rfl),decide_eq_true (show (txI g V i).length < 2147483648 by omega)]
 simp only [brK_ite,Bool.and_self,if_true]
 rfl
theorem treeXt_end {g:List UInt8} {l:Bool} {V:Nat} {u:List UInt8}:treeXt (((0:Nat):Int) - 1) l (wn V) (wf V) (txI g V 0).length (txI g V 0) u=some (.exit 0,lfY1 g l V 0):=by
 unfold treeXt
 rw [decide_eq_false (show ¬ ((0:Nat):Int) - 1 ≥ 0 by omega)]
 rfl
noncomputable def TX (sp0 sp1:SP) (g:List UInt8):List Lf→Tr (AEx × SP × List Lf)
 | [.i i,.b l,.i n,.n m,.f f,.n k,.s s]=>.br (propB (m=232∧isW n f∧valW n f ≠ 0∧i=n - 2∧s=txI g (valW n f) (n - 1).toNat∧k=s.length))
  (.br (decide (n ≥ 2)) (.leaf (.normal,sp1,lfY1 g l (valW n f) 0)) (.leaf (.normal,sp0,lfY1 g l (valW n f) 0))) .fail
 | _=>.fail
section
variable {A:Amb} (hT:Tab A) (hG:prog.globals.size≤A.G)
include hT hG
theorem loopX {sp0 sp1:SP} {m:Nat} {ds:List Nat} {g:List UInt8} (hg:g.length≤1) (ok0:okD m ds 0 sp0.h=true) (ok1:okD m ds 0 sp1.h=true)
  (ra:∀ i l n f k s,execK prog (runK prog pBig11 60) noBps bodyX (sp0.rho (lfXt i l n f k s)) (sp0.heap (lfXt i l n f k s)) (nrmP (onN sp1 sp0) m ds)=treeXt i l n f k s (itF f i))
  (rb:∀ i l n f k s,execK prog (runK prog pBig11 60) noBps bodyX (sp1.rho (lfXt i l n f k s)) (sp1.heap (lfXt i l n f k s)) (nrmP (onN sp1 sp1) m ds)=treeXt i l n f k s (itF f i))
  {l:Bool} {V:Nat} (hV:wn V≤232) (h0:V ≠ 0) {Bb:Heap} (hB:Bb.length=m) :
  SEB prog A Bb (.loop bodyX) ⟨sp0.rho (lfY1 g l V (wn V - 1)),sp0.heap (lfY1 g l V (wn V - 1)),ds⟩ (.exit 0)
   (bif decide ((wn V:Int) ≥ 2) then ⟨sp1.rho (lfY1 g l V 0),sp1.heap (lfY1 g l V 0),ds⟩ else ⟨sp0.rho (lfY1 g l V 0),sp0.heap (lfY1 g l V 0),ds⟩):=by
 have hp:=pBig11_ok hT hG
 have okx:∀ (a b:SP),okD m ds 0 a.h=true→okD m ds 0 b.h=true→∀ e,okD m ds 0 (onN a b e).h=true:=fun a b ha hb e=>by cases e <;> assumption
 have hpos:0 < wn V:=by rw [wn_pos h0]; omega
 have rest:∀ i,i+1≤wn V→SEB prog A Bb (.loop bodyX) ⟨sp1.rho (lfY1 g l V i),sp1.heap (lfY1 g l V i),ds⟩ (.exit 0) ⟨sp1.rho (lfY1 g l V 0),sp1.heap (lfY1 g l V 0),ds⟩:=by
  intro i hi
  refine SEB.while (fun i:Nat=>i+1≤wn V) (fun i=>i) (fun i=>⟨sp1.rho (lfY1 g l V i),sp1.heap (lfY1 g l V i),ds⟩) (fun _=>(.exit 0,⟨sp1.rho (lfY1 g l V 0),sp1.heap (lfY1 g l V 0),ds⟩)) (fun i hi=>?_) i hi
  cases i with
  | zero=>right; exact ⟨by simp,SEB.of_KP (e:=.exit 0) (sp:=onN sp1 sp1) hmix hnum hp (.none _) hB ((rb _ _ _ _ _ _).trans treeXt_end) (okx _ _ ok1 ok1 _)⟩
  | succ i=>left; exact ⟨i,by omega,by omega,rfl,SEB.of_KP (e:=.normal) (sp:=onN sp1 sp1) hmix hnum hp (.none _) hB ((rb _ _ _ _ _ _).trans (treeXt_step hg hV (by omega))) (okx _ _ ok1 ok1 _)⟩
 by_cases h2:(wn V:Int) ≥ 2
 ·rw [decide_eq_true h2,cond_true]
  obtain ⟨j,hj⟩:∃ j,wn V - 1=j+1:=⟨wn V - 2,by omega⟩
  rw [hj]
  exact SEB.loop_next (SEB.of_KP (e:=.normal) (sp:=onN sp1 sp0) hmix hnum hp (.none _) hB ((ra _ _ _ _ _ _).trans (treeXt_step hg hV (by omega))) (okx _ _ ok1 ok0 _)) (rest j (by omega))
 ·rw [decide_eq_false h2,cond_false]
  have hj:wn V - 1=0:=by omega
  rw [hj]
  exact SEB.loop_exit (SEB.of_KP (e:=.exit 0) (sp:=onN sp1 sp0) hmix hnum hp (.none _) hB ((ra _ _ _ _ _ _).trans treeXt_end) (okx _ _ ok1 ok0 _)) (by simp)
theorem hookX_ok {sp0 sp1:SP} {m:Nat} {ds:List Nat} {g:List UInt8} (hg:g.length≤1) (ok0:okD m ds 0 sp0.h=true) (ok1:okD m ds 0 sp1.h=true)
  (ra:∀ i l n f k s,execK prog (runK prog pBig11 60) noBps bodyX (sp0.rho (lfXt i l n f k s)) (sp0.heap (lfXt i l n f k s)) (nrmP (onN sp1 sp0) m ds)=treeXt i l n f k s (itF f i))
  (rb:∀ i l n f k s,execK prog (runK prog pBig11 60) noBps bodyX (sp1.rho (lfXt i l n f k s)) (sp1.heap (lfXt i l n f k s)) (nrmP (onN sp1 sp1) m ds)=treeXt i l n f k s (itF f i))
  (f0:∀ i l n f k s i' k' s',frP ds 0 (sp0.heap (lfXt i l n f k s)) (sp0.heap (lfXt i' l n f k' s'))) (f1:∀ i l n f k s i' k' s',frP ds 0 (sp0.heap (lfXt i l n f k s)) (sp1.heap (lfXt i' l n f k' s'))) :
  ∀ ρ B e' ρ' B' D,(hookP sp0 m ds (TX sp0 sp1 g) ρ B).get=some (e',ρ',B',D)→AFr B B' D∧SEB prog A B (.block 0 (.loop bodyX)) ⟨ρ,B,[]⟩ e' ⟨ρ',B',D⟩:=by
 refine hookP_ok ok0 fun ls e sq l h=>?_
 unfold TX at h
 split at h
 ·rename_i i lb n m' f k s
  obtain ⟨hc,hv⟩:=Tr.br1 h
  obtain ⟨rfl,w,hV0,hi,hs,hk⟩:=propB_eq hc
  obtain ⟨a1,a2,a3⟩:=isW_eq w
  generalize hV:valW n f=V at *
  subst a1 a2
  have hpos:0 < wn V:=by rw [wn_pos hV0]; omega
  have e1:((wn V:Int) - 1).toNat=wn V - 1:=by omega
  have e2:i=((wn V - 1:Nat):Int) - 1:=by omega
  rw [e1] at hs
  subst hs hk e2
  have key:=fun (Bb:Heap) (hB:Bb.length=m)=>loopX hT hG hg ok0 ok1 ra rb (l:=lb) a3 hV0 hB
  by_cases h2:(wn V:Int) ≥ 2
  ·rw [decide_eq_true h2] at hv
   cases hv
   refine ⟨f1 _ _ _ _ _ _ _ _ _,fun Bb hB=>SEB.block_exit (id:=0) ?_⟩
   have:=key Bb hB
   rwa [decide_eq_true h2,cond_true] at this
  ·rw [decide_eq_false h2] at hv
   cases hv
   refine ⟨f0 _ _ _ _ _ _ _ _ _,fun Bb hB=>SEB.block_exit (id:=0) ?_⟩
   have:=key Bb hB
   rwa [decide_eq_false h2,cond_false] at this
 ·cases h
end
noncomputable def hookX:Blk:=fun ρ B=>match hookP sX10 11 [9,10] (TX sX10 sX11 []) ρ B with
 | .fail=>hookP sX11 12 [9,11] (TX sX11 sX12 [45]) ρ B
 | t=>t
noncomputable def pBigX:Prims:=pBig11.addb 149 0 hookX
theorem pBigX_ok {A:Amb} (hT:Tab A) (hG:prog.globals.size≤A.G):PrimOK prog A pBigX:=by
 refine PrimOK.addb (pBig11_ok hT hG) func149 (show f149.body=some code149 by kernel_rfl) (body:=.loop bodyX) (by kernel_rfl) fun ρ B e ρ' B' D h=>?_
 unfold hookX at h
 split at h
 ·exact hookX_ok hT hG (g:=[45]) (by simp) rfl rfl rX12a rX12b (fun _ _ _ _ _ _ _ _ _=>⟨.inr rfl,.inr rfl,.inr rfl,.inr rfl,.inr rfl,.inr rfl,.inr rfl,.inr rfl,.inr rfl,.inl rfl,.inr rfl,.inl rfl,trivial⟩)
   (fun _ _ _ _ _ _ _ _ _=>⟨.inr rfl,.inr rfl,.inr rfl,.inr rfl,.inr rfl,.inr rfl,.inr rfl,.inr rfl,.inr rfl,.inl rfl,.inr rfl,.inl rfl,trivial⟩) _ _ _ _ _ _ h
 ·exact hookX_ok hT hG (g:=[]) (by simp) rfl rfl rX11a rX11b (fun _ _ _ _ _ _ _ _ _=>⟨.inr rfl,.inr rfl,.inr rfl,.inr rfl,.inr rfl,.inr rfl,.inr rfl,.inr rfl,.inr rfl,.inl rfl,.inl rfl,trivial⟩)
   (fun _ _ _ _ _ _ _ _ _=>⟨.inr rfl,.inr rfl,.inr rfl,.inr rfl,.inr rfl,.inr rfl,.inr rfl,.inr rfl,.inr rfl,.inl rfl,.inl rfl,trivial⟩) _ _ _ _ _ _ h
def sp1s:SP:=⟨[.str],dd8++[opW]⟩
noncomputable abbrev aftX (g:List UInt8) (V:Nat) (l:Bool) (n:Int) (f:Nat→Int):Option (List Lf) :=
 brK (decide (((txI g V 0).length:Int)=((txI g V 0).length:Int)∧(txI g V 0).length=(txI g V 0).length∧(txI g V 0).length < 2147483648)) (some [.s (txI g V 0),.b l,.i n,.n 232,.f f]) none
noncomputable abbrev begX (g s0:List UInt8) (c:Nat) (l:Bool) (n:Int) (f:Nat→Int) (u:List UInt8) (V:Nat):Option (List Lf) :=
 brK (decide (0≤W (n - 1)∧W (n - 1) < 232)) (brK (decide ((W (n - 1)).toNat < 232)) (brK (decide (-9223372036854775808≤f (W (n - 1)).toNat∧f (W (n - 1)).toNat≤9223372036854775807)) (brK (decide (c=s0.length) && decide (c+u.length < 2147483648))
  (brK (propB (232=232∧isW n f∧V ≠ 0∧W (n - 2)=n - 2∧s0++u=txI g V (n - 1).toNat∧c+u.length=(s0++u).length)) (brK (decide (n ≥ 2)) (aftX g V l n f) (aftX g V l n f)) none) none) none) none) none
theorem run149 (l:Bool) (n:Int) (f:Nat→Int):(runK prog pBigX 60).call 149 (spW1.rho (lfT l n f)) (spW1.heap (lfT l n f)) (finP sp1s 9 []) =
  brK (n == 0) (some [.s [48],.b l,.i n,.n 232,.f f]) (brK l (begX [45] [45] 1 l n f (itF f (W (n - 1))) (valW n f)) (begX [] [] 0 l n f (itF f (W (n - 1))) (valW n f))):=by kernel_rfl
theorem begX_eq {g:List UInt8} {l:Bool} {V:Nat} (hg:g.length≤1) (hV:wn V≤232) (h0:V ≠ 0):begX g g g.length l (wn V) (wf V) (itF (wf V) (W ((wn V:Int) - 1))) V=some (.s (g++decDigits V) :: lfT l (wn V) (wf V)):=by
 have hpos:0 < wn V:=by rw [wn_pos h0]; omega
 have hB:BB=1000000000:=rfl
 have hw:=wd_lt V (wn V - 1)
 have e1:W ((wn V:Int) - 1)=((wn V - 1:Nat):Int):=by rw [W,wrap64 (by omega) (by omega)]; omega
 have e2:W ((wn V:Int) - 2)=(wn V:Int) - 2:=by rw [W,wrap64 (by omega) (by omega)]
 have e3:((wn V:Int) - 1).toNat=wn V - 1:=by omega
 have hu:itF (wf V) ((wn V - 1:Nat):Int)=decDigits (wd V (wn V - 1)):=by
  show itoa (wf V ((wn V - 1:Nat):Int).toNat)=_
  rw [Int.toNat_natCast]
  exact Lib.itoa_nonneg _
 have ht:g++decDigits (wd V (wn V - 1))=txI g V (wn V - 1):=by unfold txI; rw [dec_top h0]
 have hl:=txI_len (g:=g) (V:=V) (i:=wn V - 1) hg hV
 have hl0:=txI_len (g:=g) (V:=V) (i:=0) hg hV
 have hl2:g.length+(decDigits (wd V (wn V - 1))).length=(txI g V (wn V - 1)).length:=by rw [← ht,List.length_append]
 unfold begX
 rw [e1,e2,e3,hu,ht,Int.toNat_natCast]
 have hwf:wf V (wn V - 1)=(wd V (wn V - 1):Int):=rfl
 rw [hwf,decide_eq_true (show 0≤((wn V - 1:Nat):Int)∧((wn V - 1:Nat):Int) < 232 by omega),decide_eq_true (show wn V - 1 < 232 by omega),decide_eq_true (show -9223372036854775808≤(wd V (wn V - 1):Int)∧(wd V (wn V - 1):Int)≤9223372036854775807 by omega),
  decide_eq_true (show g.length=g.length from rfl),hl2,decide_eq_true (show (txI g V (wn V - 1)).length < 2147483648 by omega),
  propB_true (show _∧_ from ⟨rfl,isW_wf hV,h0,rfl,rfl,rfl⟩)]
 unfold aftX
 rw [decide_eq_true (show ((txI g V 0).length:Int)=((txI g V 0).length:Int)∧(txI g V 0).length=(txI g V 0).length∧(txI g V 0).length < 2147483648 from ⟨rfl,rfl,by omega⟩)]
 have hz:txI g V 0=g++decDigits V:=by unfold txI; rw [Nat.pow_zero,Nat.div_one]
 rw [hz]
 simp only [brK_ite,Bool.and_self,if_true,ite_self]
 rfl
noncomputable def T149:List Lf→Tr (SP × List Lf)
 | [.b l,.i n,.n m,.f f]=>.br (propB (m=232∧isW n f)) (.leaf (sp1s,.s (itoa (sv l (valW n f))) :: lfT l n f)) .fail
 | _=>.fail
noncomputable def pBig12:Prims:=pBig11.addh 149 (liftG 8 (funP spW1 9 [] T149))
theorem pBig12_ok {A:Amb} (hT:Tab A) (hG:prog.globals.size≤A.G):PrimOK prog A pBig12:=by
 refine (pBig11_ok hT hG).addl gsz func149 (by kernel_rfl) (funP_ok hmix hnum rfl fun ls sq l h=>?_)
 unfold T149 at h
 split at h
 ·rename_i lb n m f
  obtain ⟨hc,hv⟩:=Tr.br1 h
  cases hv
  obtain ⟨rfl,w⟩:=propB_eq hc
  refine ⟨⟨.inr rfl,.inr rfl,.inr rfl,.inr rfl,.inr rfl,.inr rfl,.inr rfl,.inr rfl,.inr rfl,trivial⟩,rfl,rfl,pBigX,60,pBigX_ok hT hG,(run149 _ _ f).trans ?_⟩
  obtain ⟨a1,a2,a3⟩:=isW_eq w
  generalize hV:valW n f=V at *
  subst a1 a2
  by_cases h0:V=0
  ·subst h0
   rw [itoa_zero,wn_zero]
   rfl
  ·have hpos:0 < wn V:=by rw [wn_pos h0]; omega
   have:(((wn V:Nat):Int) == 0)=false:=by rw [beq_eq_false_iff_ne]; omega
   rw [this,itoa_sv h0]
   cases lb with
   | true=>exact begX_eq (g:=[45]) (by simp) a3 h0
   | false=>exact begX_eq (g:=[]) (by simp) a3 h0
 ·cases h
end Go.Proofs.Tryz
namespace Go.Proofs.Tryz
open Go.Ad
open Go.Lib (decDigits itoa)
noncomputable def T40:List Lf→Tr AV
 | [.s a]=>.leaf (.sstr (absT a))
 | _=>.fail
theorem run40 (a:List UInt8):(runK prog lib2 60).call 40 [.sstr a,.str [45]] (Bg 8) finV =
  brK (decide ((a.length:Int) ≥ 1)) (brK (decide ((0:Int)≤1∧(1:Int)≤(a.length:Int)) && true) (brK ((a.take 1).drop 0 == [45]) (brK (true && decide ((0:Int)≤1∧(1:Int)≤(a.length:Int))) (some (.sstr ((a.take a.length).drop 1))) none) (some (.sstr a))) none) (some (.sstr a)):=by kernel_rfl
theorem run40_eq (a:List UInt8):(runK prog lib2 60).call 40 [.sstr a,.str [45]] (Bg 8) finV=some (.sstr (absT a)):=by
 rw [run40]
 cases a with
 | nil=>rfl
 | cons b r =>
  have h1:decide (((b :: r).length:Int) ≥ 1)=true:=decide_eq_true (by simp; omega)
  have h2:decide ((0:Int)≤1∧(1:Int)≤((b :: r).length:Int))=true:=decide_eq_true ⟨by omega,by simp; omega⟩
  rw [h1,h2,List.take_length]
  simp only [List.take_succ_cons,List.take_zero,List.drop_zero,List.drop_succ_cons]
  by_cases hb:b=45
  ·subst hb
   rw [show ([(45:UInt8)] == [45])=true from rfl]
   rfl
  ·have:([b] == [(45:UInt8)])=false:=by rw [beq_eq_false_iff_ne]; intro e; cases e; exact hb rfl
   have ha:absT (b :: r)=b :: r:=by
    unfold absT
    split
    ·rename_i e; cases e; exact (hb rfl).elim
    ·rfl
   rw [this,ha]
   rfl
noncomputable def pBig13:Prims:=pBig12.addt 40 (gP [.str,.is (.str [45])] T40)
theorem pBig13_ok {A:Amb} (hT:Tab A) (hG:prog.globals.size≤A.G):PrimOK prog A pBig13:=by
 refine PrimOK.addP hmix hnum (lib2_ok hT) (pBig12_ok hT hG) hG func40 (by kernel_rfl) fun ls v h=>?_
 unfold T40 at h
 split at h
 ·rename_i a
  cases h
  exact ⟨rfl,60,_,by rw [gsz]; exact run40_eq a,rfl,fun _ _ h=>h⟩
 ·cases h
noncomputable abbrev chkX (a d:List UInt8):Option AV :=
 brK (d == []) (some (.int .i64 3)) (brK (decide (d.length≤9223372036854775807)) (brK (!(Lib.trimS d [48,49,50,51,52,53,54,55,56,57] == [])) (some (.int .i64 3))
  (brK (decide ((0:Int)≤0∧(0:Int) < (d.length:Int))) (brK (((d.getD 0 0).toNat:Int) == 48) (brK (!(a == [48])) (some (.int .i64 3)) (brK (decide ((d.length:Int) > 1024)) (some (.int .i64 11)) (some (.int .i64 0))))
   (brK (decide ((d.length:Int) > 1024)) (some (.int .i64 11)) (some (.int .i64 0)))) none)) none)
theorem run96 (a:List UInt8):(runK prog pBig13 60).call 96 [.sstr a] (Bg 8) finV=chkX a (absT a):=by kernel_rfl
theorem absT_len (a:List UInt8):(absT a).length≤a.length:=by
 unfold absT
 split
 ·simp
 ·exact Nat.le_refl _
theorem chkX_eq {a:List UInt8} (hs:szOK a=true):chkX a (absT a)=some (.int .i64 (errI a)):=by
 have hs:=of_decide_eq_true hs
 have hl:=absT_len a
 have e1:(Lib.trimS (absT a) [48,49,50,51,52,53,54,55,56,57] == [])=(absT a).all isDg:=trimS_nilA (absT a)
 unfold chkX errI
 rw [e1,decide_eq_true (show (absT a).length≤9223372036854775807 by omega)]
 by_cases h0:absT a=[]
 ·rw [if_pos (.inl h0),h0]; rfl
 ·have hb:(absT a == [])=false:=by rw [beq_eq_false_iff_ne]; exact h0
  have hpos:0 < (absT a).length:=by
   cases hh:absT a with
   | nil=>exact (h0 hh).elim
   | cons=>simp
  rw [hb,decide_eq_true (show (0:Int)≤0∧(0:Int) < ((absT a).length:Int) by omega)]
  cases hd:(absT a).all isDg with
  | false=>rw [if_pos (.inr rfl)]; rfl
  | true =>
   rw [if_neg (by simp [h0])]
   have hh:((((absT a).getD 0 0).toNat:Int) == 48)=decide ((absT a).headD 0=48):=by
    by_cases hx:(absT a).headD 0=48
    ·rw [decide_eq_true hx,beq_iff_eq]
     cases hy:absT a with
     | nil=>exact (h0 hy).elim
     | cons b r=>rw [hy] at hx; simp only [List.headD_cons] at hx; subst hx; rfl
    ·rw [decide_eq_false hx,beq_eq_false_iff_ne]
     cases hy:absT a with
     | nil=>exact (h0 hy).elim
     | cons b r =>
      rw [hy] at hx
      simp only [List.headD_cons] at hx
      simp only [List.getD_eq_getElem?_getD,List.getElem?_cons_zero,Option.getD_some]
      intro h
      exact hx (UInt8.toNat_inj.1 (show b.toNat=48 by omega))
   rw [hh]
   have hgt:(decide (((absT a).length:Int) > 1024))=decide ((absT a).length > 1024):=decide_eq_decide.2 (by omega)
   rw [hgt]
   by_cases h1:(absT a).headD 0=48
   ·rw [decide_eq_true h1]
    by_cases h2:a=[48]
    ·have:(a == [48])=true:=by rw [beq_iff_eq]; exact h2
     rw [this,if_neg (by rintro ⟨_,h⟩; exact h h2)]
     by_cases h3:(absT a).length > 1024
     ·rw [decide_eq_true h3,if_pos h3]; rfl
     ·rw [decide_eq_false h3,if_neg h3]; rfl
    ·have:(a == [48])=false:=by rw [beq_eq_false_iff_ne]; exact h2
     rw [this,if_pos ⟨h1,h2⟩]; rfl
   ·rw [decide_eq_false h1,if_neg (by rintro ⟨h,_⟩; exact h1 h)]
    by_cases h3:(absT a).length > 1024
    ·rw [decide_eq_true h3,if_pos h3]; rfl
    ·rw [decide_eq_false h3,if_neg h3]; rfl
noncomputable def pBig14:Prims:=pBig13.addt 96 (gP [.str] (gErr errI))
theorem pBig14_ok {A:Amb} (hT:Tab A) (hG:prog.globals.size≤A.G):PrimOK prog A pBig14:=by
 refine PrimOK.addP hmix hnum (pBig13_ok hT hG) (pBig13_ok hT hG) hG func96 (by kernel_rfl) fun ls v h=>?_
 unfold gErr at h
 split at h
 ·rename_i a
  obtain ⟨hs,hv⟩:=Tr.br1 h
  cases hv
  exact ⟨rfl,60,_,by rw [gsz]; exact (run96 a).trans (chkX_eq hs),rfl,fun ι x=>vr_int rfl x⟩
 ·cases h
end Go.Proofs.Tryz
namespace Go.Proofs.Tryz
open Go.Ad
open Go.Lib (decDigits itoa)
def sp2o:SP:=⟨[.str,.int .i64],dd8++[opW]⟩
noncomputable def T111:List Lf→Tr (SP × List Lf)
 | [.b l,.i n,.n m,.f f]=>.br (propB (m=232∧isW n f)) (.leaf (sp2o,.s (resI (sv l (valW n f))).1 :: .i (resI (sv l (valW n f))).2 :: lfT l n f)) .fail
 | _=>.fail
theorem run111 (l:Bool) (n:Int) (f:Nat→Int):(runK prog pBig14 60).call 111 (spW1.rho (lfT l n f)) (spW1.heap (lfT l n f)) (finQ sp2o 9 []) =
  brK (propB (232=232∧isW n f)) (brK (szOK (itoa (sv l (valW n f)))) (brK (errI (itoa (sv l (valW n f))) != 0)
   (some [.s [],.i (errI (itoa (sv l (valW n f)))),.b l,.i n,.n 232,.f f]) (some [.s (itoa (sv l (valW n f))),.i 0,.b l,.i n,.n 232,.f f])) none) none:=by kernel_rfl
theorem sv_abs (l:Bool) (V:Nat):(sv l V).natAbs=V:=by cases l <;> simp [sv]
noncomputable def pBig15:Prims:=pBig14.addh 111 (liftG 8 (funQ spW1 9 [] T111))
theorem pBig15_ok {A:Amb} (hT:Tab A) (hG:prog.globals.size≤A.G):PrimOK prog A pBig15:=by
 refine (pBig14_ok hT hG).addl gsz func111 (by kernel_rfl) (funQ_ok hmix hnum rfl fun ls sq l h=>?_)
 unfold T111 at h
 split at h
 ·rename_i lb n m f
  obtain ⟨hc,hv⟩:=Tr.br1 h
  cases hv
  obtain ⟨rfl,w⟩:=propB_eq hc
  refine ⟨⟨.inr rfl,.inr rfl,.inr rfl,.inr rfl,.inr rfl,.inr rfl,.inr rfl,.inr rfl,.inr rfl,trivial⟩,rfl,pBig14,60,_,pBig14_ok hT hG,(run111 _ _ f).trans ?_,fun _ _=>.refl⟩
  obtain ⟨a1,a2,a3⟩:=isW_eq w
  rw [propB_true (show _∧_ from ⟨rfl,w⟩)]
  generalize valW n f=V at *
  have hsz:szOK (itoa (sv lb V))=true:=by
   refine decide_eq_true ?_
   have h1:=itoa_len (sv lb V)
   rw [sv_abs] at h1
   have h2:=dec_len a3
   omega
  rw [hsz]
  have hr:=resI_eq (sv lb V)
  generalize itoa (sv lb V)=s at hr
  rw [← hr]
  by_cases he:errI s ≠ 0
  ·rw [if_pos he,show (errI s != 0)=true by simpa using he]; rfl
  ·rw [if_neg he,show (errI s != 0)=false by simpa using he]; rfl
 ·cases h
def smOK (a b:List UInt8):Bool:=decide (a.length≤9) && decide (b.length≤9)
noncomputable def T107:List Lf→Tr AV
 | [.s a,.s b]=>.br (propB (isZ a∧isZ b)) (.leaf (.tuple [.sint .i64 (bif smOK a b then dvalZ a else 0),.sint .i64 (bif smOK a b then dvalZ b else 0),.sbool (smOK a b)])) .fail
 | _=>.fail
theorem run107 (a b:List UInt8):(runK prog lib2 60).call 107 [.sstr a,.sstr b] (Bg 8) finV =
  brK (decide ((a.length:Int) > 9)) (some (.tuple [.int .i64 0,.int .i64 0,.bool false])) (brK (decide ((b.length:Int) > 9)) (some (.tuple [.int .i64 0,.int .i64 0,.bool false]))
   (brK (decide (a.length≤18) && (Lib.atoi a).isSome) (brK (decide (b.length≤18) && (Lib.atoi b).isSome) (some (.tuple [.sint .i64 ((Lib.atoi a).getD 0),.sint .i64 ((Lib.atoi b).getD 0),.bool true])) none) none)):=by kernel_rfl
noncomputable def pBig16:Prims:=pBig15.addt 107 (gP [.str,.str] T107)
theorem pBig16_ok {A:Amb} (hT:Tab A) (hG:prog.globals.size≤A.G):PrimOK prog A pBig16:=by
 refine PrimOK.addP hmix hnum (lib2_ok hT) (pBig15_ok hT hG) hG func107 (by kernel_rfl) fun ls v h=>?_
 unfold T107 at h
 split at h
 ·rename_i a b
  obtain ⟨hc,hv⟩:=Tr.br1 h
  cases hv
  obtain ⟨ha,hb⟩:=propB_eq hc
  have fin:∀ v',(runK prog lib2 60).call 107 [.sstr a,.sstr b] (Bg 8) finV=some v'→below 0 v'=true→(∀ ι x,VR ι v' x→VR ι (.tuple [.sint .i64 (bif smOK a b then dvalZ a else 0),.sint .i64 (bif smOK a b then dvalZ b else 0),.sbool (smOK a b)]) x) →
    belowL 0 (mkT [.str,.str] [.s a,.s b]).1=true∧∃ n v',(runK prog lib2 n).call 107 (mkT [.str,.str] [.s a,.s b]).1 (Bg prog.globals.size) finV=some v'∧below 0 v'=true∧∀ ι x,VR ι v' x→VR ι (.tuple [.sint .i64 (bif smOK a b then dvalZ a else 0),.sint .i64 (bif smOK a b then dvalZ b else 0),.sbool (smOK a b)]) x:=fun v' h1 h2 h3 =>
   ⟨rfl,60,v',by rw [gsz]; exact h1,h2,h3⟩
  by_cases h1:a.length≤9
  ·by_cases h2:b.length≤9
   ·have hs:smOK a b=true:=by unfold smOK; rw [decide_eq_true h1,decide_eq_true h2]; rfl
    have za:Lib.atoi a=some (dvalZ a):=by
     unfold isZ at ha
     have:=atoi_itoa (dvalZ a)
     rwa [← ha] at this
    have zb:Lib.atoi b=some (dvalZ b):=by
     unfold isZ at hb
     have:=atoi_itoa (dvalZ b)
     rwa [← hb] at this
    refine fin (.tuple [.sint .i64 (dvalZ a),.sint .i64 (dvalZ b),.bool true]) ?_ rfl fun ι x hx=>?_
    ·rw [run107,za,zb,decide_eq_false (show ¬ (a.length:Int) > 9 by omega),decide_eq_false (show ¬ (b.length:Int) > 9 by omega),decide_eq_true (show a.length≤18 by omega),decide_eq_true (show b.length≤18 by omega)]
     rfl
    ·rw [hs]; exact vr_tup3 (fun _ h=>h) (fun _ h=>h) (fun _ h=>vr_bool rfl _ h) x hx
   ·have hs:smOK a b=false:=by unfold smOK; rw [decide_eq_false h2,Bool.and_false]
    refine fin (.tuple [.int .i64 0,.int .i64 0,.bool false]) ?_ rfl fun ι x hx=>?_
    ·rw [run107,decide_eq_false (show ¬ (a.length:Int) > 9 by omega),decide_eq_true (show (b.length:Int) > 9 by omega)]; rfl
    ·rw [hs]; exact vr_tup3 (fun _ h=>vr_int rfl _ h) (fun _ h=>vr_int rfl _ h) (fun _ h=>vr_bool rfl _ h) x hx
  ·have hs:smOK a b=false:=by unfold smOK; rw [decide_eq_false h1,Bool.false_and]
   refine fin (.tuple [.int .i64 0,.int .i64 0,.bool false]) ?_ rfl fun ι x hx=>?_
   ·rw [run107,decide_eq_true (show (a.length:Int) > 9 by omega)]; rfl
   ·rw [hs]; exact vr_tup3 (fun _ h=>vr_int rfl _ h) (fun _ h=>vr_int rfl _ h) (fun _ h=>vr_bool rfl _ h) x hx
 ·cases h
noncomputable def T169:List Lf→Tr AV
 | [.s a]=>.br (propB (isZ a)) (.leaf (.sint .i64 (sgnZ (dvalZ a)))) .fail
 | _=>.fail
theorem run169 (a:List UInt8):(runK prog lib2 60).call 169 [.sstr a] (Bg 8) finV =
  brK (a == [48]) (some (.int .i64 0)) (brK (decide ((0:Int)≤0∧(0:Int) < (a.length:Int))) (brK (((a.getD 0 0).toNat:Int) == 45) (some (.int .i64 (-1))) (some (.int .i64 1))) none):=by kernel_rfl
noncomputable def T158:List Lf→Tr AV
 | [.s a]=>.br (propB (isZ a∧a.length≤1000000000)) (.leaf (.sstr (itoa (-(dvalZ a))))) .fail
 | _=>.fail
theorem run158 (a:List UInt8):(runK prog pBig16 60).call 158 [.sstr a] (Bg 8) finV =
  brK (a == [48]) (some (.sstr a)) (brK (decide ((0:Int)≤0∧(0:Int) < (a.length:Int))) (brK (((a.getD 0 0).toNat:Int) == 45) (brK (true && decide ((0:Int)≤1∧(1:Int)≤(a.length:Int))) (some (.sstr ((a.take a.length).drop 1))) none)
   (brK (decide (1+a.length < 4611686018427387904)) (some (.sstr (45 :: a))) none)) none):=by kernel_rfl
theorem itoa_is0 (n:Int):(itoa n == [48])=decide (n=0):=by
 by_cases h:n=0
 ·subst h; rw [itoa0,decide_eq_true rfl]; rfl
 ·rw [decide_eq_false h,beq_eq_false_iff_ne]
  intro e
  rw [← itoa0] at e
  exact h (itoa_inj e)
theorem itoa_pos (n:Int):decide ((0:Int)≤0∧(0:Int) < ((itoa n).length:Int))=true:=by
 refine decide_eq_true ⟨Int.le_refl _,?_⟩
 cases hh:itoa n with
 | nil=>exact (itoa_ne n hh).elim
 | cons=>simp
noncomputable def pBig17:Prims:=(pBig16.addt 169 (gP [.str] T169)).addt 158 (gP [.str] T158)
theorem pBig17_ok {A:Amb} (hT:Tab A) (hG:prog.globals.size≤A.G):PrimOK prog A pBig17:=by
 refine PrimOK.addP hmix hnum (pBig16_ok hT hG) (PrimOK.addP hmix hnum (lib2_ok hT) (pBig16_ok hT hG) hG func169 (by kernel_rfl) fun ls v h=>?_) hG func158 (by kernel_rfl) fun ls v h=>?_
 ·unfold T169 at h
  split at h
  ·rename_i a
   obtain ⟨hc,hv⟩:=Tr.br1 h
   cases hv
   have hz:=propB_eq hc
   refine ⟨rfl,60,.int .i64 (sgnZ (dvalZ a)),?_,rfl,fun ι x=>vr_int rfl x⟩
   rw [gsz]
   refine (run169 a).trans ?_
   unfold isZ at hz
   generalize dvalZ a=Z at *
   subst hz
   rw [itoa_is0,itoa_pos,itoa_head]
   unfold sgnZ
   by_cases h0:Z=0
   ·rw [decide_eq_true h0,if_pos h0]; rfl
   ·rw [decide_eq_false h0,if_neg h0]
    by_cases h1:Z < 0
    ·rw [decide_eq_true h1,if_pos h1]; rfl
    ·rw [decide_eq_false h1,if_neg h1]; rfl
  ·cases h
 ·unfold T158 at h
  split at h
  ·rename_i a
   obtain ⟨hc,hv⟩:=Tr.br1 h
   cases hv
   obtain ⟨hz,hs⟩:=propB_eq hc
   refine ⟨rfl,60,.sstr (itoa (-(dvalZ a))),?_,rfl,fun ι x h=>h⟩
   rw [gsz]
   refine (run158 a).trans ?_
   unfold isZ at hz
   generalize dvalZ a=Z at *
   subst hz
   have hl1:1≤(itoa Z).length:=by
    cases hh:itoa Z with
    | nil=>exact (itoa_ne Z hh).elim
    | cons=>simp
   rw [itoa_is0,itoa_pos,itoa_head,List.take_length,decide_eq_true (show (0:Int)≤1∧(1:Int)≤((itoa Z).length:Int) by omega),decide_eq_true (show 1+(itoa Z).length < 4611686018427387904 by omega)]
   by_cases h0:Z=0
   ·subst h0; rfl
   ·rw [decide_eq_false h0]
    by_cases h1:Z < 0
    ·rw [decide_eq_true h1]
     have h2:=itoa_abs Z
     rw [if_pos h1] at h2
     have h3:itoa (-Z)=decDigits Z.natAbs:=by
      unfold itoa
      rw [if_neg (by omega)]
      congr 1; omega
     rw [h2,h3]; rfl
    ·rw [decide_eq_false h1]
     have h3:itoa (-Z)=45 :: itoa Z:=by
      unfold itoa
      rw [if_pos (by omega),if_neg h1]
      congr 2; omega
     rw [h3]; rfl
  ·cases h
end Go.Proofs.Tryz
namespace Go.Proofs.Tryz
open Go.Ad
open Go.Lib (decDigits itoa)
def spL2:SP:=⟨[.is (.slice (some (8,0)) 2 2)],dd8++[.cells [.str,.str] 1 true 90]⟩
def spL2i:SP:=⟨[.int .i64],dd8++[.cells [.str,.str] 1 true 90]⟩
def allR (a b:List UInt8):Int:=bif errI a != 0 then errI a else errI b
theorem run106 (a b:List UInt8):(runK prog pBig17 60).call 106 (spL2.rho [.s a,.s b]) (spL2.heap [.s a,.s b]) (finP spL2i 9 [8]) =
  brK (szOK a) (brK (errI a != 0) (some [.i (errI a),.s a,.s b]) (brK (szOK b) (brK (errI b != 0) (some [.i (errI b),.s a,.s b]) (some [.i 0,.s a,.s b])) none)) none:=by kernel_rfl
noncomputable def T106:List Lf→Tr (SP × List Lf)
 | [.s a,.s b]=>.br (szOK a && szOK b) (.leaf (spL2i,[.i (allR a b),.s a,.s b])) .fail
 | _=>.fail
noncomputable def pBig18:Prims:=pBig17.addh 106 (liftG 8 (funP spL2 9 [8] T106))
theorem pBig18_ok {A:Amb} (hT:Tab A) (hG:prog.globals.size≤A.G):PrimOK prog A pBig18:=by
 refine (pBig17_ok hT hG).addl gsz func106 (by kernel_rfl) (funP_ok hmix hnum rfl fun ls sq l h=>?_)
 unfold T106 at h
 split at h
 ·rename_i a b
  obtain ⟨hc,hv⟩:=Tr.br1 h
  cases hv
  rw [Bool.and_eq_true] at hc
  obtain ⟨ha,hb⟩:=hc
  refine ⟨⟨.inr rfl,.inr rfl,.inr rfl,.inr rfl,.inr rfl,.inr rfl,.inr rfl,.inr rfl,.inr rfl,trivial⟩,rfl,rfl,pBig17,60,pBig17_ok hT hG,(run106 a b).trans ?_⟩
  rw [ha,hb]
  unfold allR
  cases h1:errI a != 0 with
  | true=>rfl
  | false =>
   cases h2:errI b != 0 with
   | true=>rfl
   | false =>
    have:errI b=0:=by simpa using h2
    rw [this]; rfl
 ·cases h
def spL2o:SP:=⟨[.str,.int .i64],dd8++[.cells [.str,.str] 1 true 90]⟩
theorem brK_t {β:Type} {t f:Option β}:brK true t f=t:=rfl
theorem brK_f {β:Type} {t f:Option β}:brK false t f=f:=rfl
theorem numZ:valW 0 (fun _=>0)=0:=rfl
theorem sv_t (V:Nat):sv true V=-(V:Int):=rfl
theorem sv_f (V:Nat):sv false V=V:=rfl
theorem plusR_sv (l:Bool) (V:Nat) (l':Bool) (U:Nat):sv (plusR l V l' U).1 (plusR l V l' U).2=sv l V+sv l' U:=by
 have e1:(plusR true V false U)=bif decide (U≤V) then (true,V - U) else (false,U - V):=rfl
 have e2:(plusR false V true U)=bif decide (U≤V) then (false,V - U) else (true,U - V):=rfl
 have e3:(plusR true V true U)=(true,V+U):=rfl
 have e4:(plusR false V false U)=(false,V+U):=rfl
 by_cases h:U≤V
 ·rw [decide_eq_true h] at e1 e2
  cases l <;> cases l' <;> simp only [e1,e2,e3,e4,cond_true,sv_t,sv_f] <;> omega
 ·rw [decide_eq_false h] at e1 e2
  cases l <;> cases l' <;> simp only [e1,e2,e3,e4,cond_false,sv_t,sv_f] <;> omega
theorem plusR_le (l:Bool) (V:Nat) (l':Bool) (U:Nat):(plusR l V l' U).2≤V+U:=by
 unfold plusR
 cases (l == l') with
 | true=>exact Nat.le_refl _
 | false =>
  by_cases h:U≤V
  ·rw [decide_eq_true h]; exact Nat.le_trans (Nat.sub_le _ _) (Nat.le_add_right _ _)
  ·rw [decide_eq_false h]; exact Nat.le_trans (Nat.sub_le _ _) (Nat.le_add_left _ _)
theorem sv_of (Z:Int):sv (decide (Z < 0)) Z.natAbs=Z:=by
 unfold sv
 by_cases h:Z < 0
 ·rw [decide_eq_true h]; simp only [cond_true]; omega
 ·rw [decide_eq_false h]; simp only [cond_false]; omega
theorem wn_mono {V U:Nat} (h:V≤U):wn V≤wn U:=wn_le (Nat.lt_of_le_of_lt h (lt_wn U))
theorem wn_add {V U n:Nat} (h1:wn V≤n) (h2:wn U≤n):wn (V+U)≤n+1:=by
 have a:=wn_lt_iff.1 h1
 have b:=wn_lt_iff.1 h2
 refine wn_le ?_
 rw [Nat.pow_succ]
 have hB:2≤BB:=by decide
 have:=Nat.mul_le_mul_left (BB ^ n) hB
 omega
noncomputable abbrev end188 (a b:List UInt8) (q:Bool × Nat):Option (List Lf) :=
 brK (propB (232=232∧isW (wn q.2:Int) (wf q.2))) (some [.s (resI (sv q.1 (valW (wn q.2:Int) (wf q.2)))).1,.i (resI (sv q.1 (valW (wn q.2:Int) (wf q.2)))).2,.s a,.s b]) none
noncomputable abbrev mid188 (a b:List UInt8) (p:Bool × Nat) (lb:Bool) (U:Nat):Option (List Lf) :=
 brK (propB (232=232∧232=232∧isW (wn p.2:Int) (wf p.2)∧isW (wn U:Int) (wf U)∧wn (valW (wn p.2:Int) (wf p.2)+valW (wn U:Int) (wf U))≤232))
  (end188 a b (plusR p.1 (valW (wn p.2:Int) (wf p.2)) lb (valW (wn U:Int) (wf U)))) none
noncomputable abbrev tree188 (a b:List UInt8) (la:Bool) (V:Nat) (lb:Bool) (U:Nat):Option (List Lf) :=
 brK (propB (isZ a∧wn V≤232)) (brK (propB (232=232∧232=232∧isW 0 (fun _=>0)∧isW (wn V:Int) (wf V)∧wn (valW 0 (fun _=>0)+valW (wn V:Int) (wf V))≤232))
  (brK (propB (isZ b∧wn U≤232)) (mid188 a b (plusR false (valW 0 fun _=>0) la (valW (wn V:Int) (wf V))) lb U) none) none) none
theorem run188 (a b:List UInt8):(runK prog pBig18 60).call 188 (spL2.rho [.s a,.s b]) (spL2.heap [.s a,.s b]) (finQ spL2o 9 [8]) =
  tree188 a b (decide (dvalZ a < 0)) (dvalZ a).natAbs (decide (dvalZ b < 0)) (dvalZ b).natAbs:=by kernel_rfl
theorem tree188_eq {a b:List UInt8} {la lb:Bool} {V U:Nat} (ha:isZ a) (hb:isZ b) (hV:wn V≤231) (hU:wn U≤231) :
  tree188 a b la V lb U=some [.s (resI (sv la V+sv lb U)).1,.i (resI (sv la V+sv lb U)).2,.s a,.s b]:=by
 unfold tree188
 have w0:isW 0 (fun _=>0):=by
  have:=isW_wf (V:=0) (by rw [wn_zero]; omega)
  rwa [wn_zero,wf_zero] at this
 have hs:=plusR_sv false 0 la V
 have hl:=plusR_le false 0 la V
 rw [numZ,valW_wf,propB_true (show isZ a∧wn V≤232 from ⟨ha,by omega⟩),Nat.zero_add,
  propB_true (show 232=232∧232=232∧isW 0 (fun _=>0)∧isW (wn V:Int) (wf V)∧wn V≤232 from ⟨rfl,rfl,w0,isW_wf (by omega),by omega⟩),propB_true (show isZ b∧wn U≤232 from ⟨hb,by omega⟩)]
 simp only [brK_t]
 generalize plusR false 0 la V=p at *
 unfold mid188
 rw [valW_wf,valW_wf]
 have hp:wn p.2≤231:=Nat.le_trans (wn_mono (by omega)) hV
 have hpu:=wn_add hp hU
 rw [propB_true (show 232=232∧232=232∧isW (wn p.2:Int) (wf p.2)∧isW (wn U:Int) (wf U)∧wn (p.2+U)≤232 from ⟨rfl,rfl,isW_wf (by omega),isW_wf (by omega),hpu⟩)]
 have hs2:=plusR_sv p.1 p.2 lb U
 have hl2:=plusR_le p.1 p.2 lb U
 simp only [brK_t]
 generalize plusR p.1 p.2 lb U=q at *
 unfold end188
 rw [valW_wf,propB_true (show 232=232∧isW (wn q.2:Int) (wf q.2) from ⟨rfl,isW_wf (Nat.le_trans (wn_mono hl2) hpu)⟩),hs2,hs]
 have h0:sv false 0=0:=rfl
 rw [h0,Int.zero_add]
 rfl
noncomputable def T188:List Lf→Tr (SP × List Lf)
 | [.s a,.s b]=>.br (propB (isZ a∧isZ b∧wn (dvalZ a).natAbs≤231∧wn (dvalZ b).natAbs≤231)) (.leaf (spL2o,[.s (resI (dvalZ a+dvalZ b)).1,.i (resI (dvalZ a+dvalZ b)).2,.s a,.s b])) .fail
 | _=>.fail
noncomputable def pBig19:Prims:=pBig18.addh 188 (liftG 8 (funQ spL2 9 [8] T188))
theorem pBig19_ok {A:Amb} (hT:Tab A) (hG:prog.globals.size≤A.G):PrimOK prog A pBig19:=by
 refine (pBig18_ok hT hG).addl gsz func188 (by kernel_rfl) (funQ_ok hmix hnum rfl fun ls sq l h=>?_)
 unfold T188 at h
 split at h
 ·rename_i a b
  obtain ⟨hc,hv⟩:=Tr.br1 h
  cases hv
  obtain ⟨ha,hb,h1,h2⟩:=propB_eq hc
  refine ⟨⟨.inr rfl,.inr rfl,.inr rfl,.inr rfl,.inr rfl,.inr rfl,.inr rfl,.inr rfl,.inr rfl,trivial⟩,rfl,pBig18,60,_,pBig18_ok hT hG,(run188 a b).trans ?_,fun _ _=>.refl⟩
  rw [tree188_eq ha hb h1 h2,sv_of,sv_of]
 ·cases h
end Go.Proofs.Tryz
namespace Go.Proofs.Tryz
open Go.Ad
open Go.Lib (decDigits itoa nDigits)
def spSS:SP:=⟨[.str,.str],dd8⟩
def spRI:SP:=⟨[.str,.int .i64],dd8⟩
theorem smOK_lt {a b:List UInt8} (ha:isZ a) (hb:isZ b) (h:smOK a b=true) :
  (-1000000000 < dvalZ a∧dvalZ a < 1000000000)∧(-1000000000 < dvalZ b∧dvalZ b < 1000000000):=by
 unfold smOK at h
 rw [Bool.and_eq_true,decide_eq_true_eq,decide_eq_true_eq] at h
 unfold isZ at ha hb
 exact ⟨itoa_small (by rw [← ha]; exact h.1),itoa_small (by rw [← hb]; exact h.2)⟩
theorem dec_len_lt {U n:Nat} (h:U < 10 ^ n) (hn:1≤n):(decDigits U).length≤n:=by
 rw [Lib.decDigits_length]
 obtain ⟨m,rfl⟩:∃ m,n=m+1:=⟨n - 1,by omega⟩
 exact nDigits_le m U h
theorem resI_small {C:Int} (h1:-1000000000000000000 < C) (h2:C < 1000000000000000000):resI C=(itoa C,0):=by
 unfold resI
 have:=dec_len_lt (U:=C.natAbs) (n:=18) (by omega) (by omega)
 rw [if_neg (by omega)]
theorem allR_0 {a b:List UInt8} (h:(allR a b != 0)=false):errI a=0∧errI b=0:=by
 unfold allR at h
 cases h1:errI a != 0 with
 | true=>rw [h1] at h; simp only [cond_true] at h; rw [h1] at h; cases h
 | false=>rw [h1] at h; simp only [cond_false] at h; exact ⟨by simpa using h1,by simpa using h⟩
theorem binR_err {a b:List UInt8} (op:Int→Int→Int) (h:(allR a b != 0)=true):binR op a b=([],allR a b):=by
 unfold allR at h ⊢
 unfold binR
 cases h1:errI a != 0 with
 | true=>rw [if_pos (by simpa using h1)]; rfl
 | false =>
  rw [h1] at h; simp only [cond_false] at h
  rw [if_neg (by simpa using h1),if_pos (by simpa using h)]; rfl
theorem binR_ok {a b:List UInt8} (op:Int→Int→Int) (h1:errI a=0) (h2:errI b=0):binR op a b=resI (op (dvalZ a) (dvalZ b)):=by
 unfold binR
 rw [if_neg (by rw [h1]; simp),if_neg (by rw [h2]; simp)]
theorem errI_wn {a:List UInt8} (h:errI a=0):isZ a∧wn (dvalZ a).natAbs≤114:=by
 have:=errI_ok h
 exact ⟨this.1,wn_len this.2⟩
abbrev rg (n:Int):Bool:=decide (-9223372036854775808≤n∧n≤9223372036854775807)
theorem W_id {n:Int} (h1:-9223372036854775808≤n) (h2:n≤9223372036854775807):W n=n:=wrap64 h1 (by omega)
noncomputable abbrev binT (a b:List UInt8) (x:Int) (big:Option (List Lf)):Option (List Lf) :=
 brK (szOK a && szOK b) (brK (allR a b != 0) (some [.s [],.i (allR a b)]) (brK (propB (isZ a∧isZ b)) (brK (smOK a b) (brK (rg (W x)) (some [.s (itoa (W x)),.i 0]) none) big) none)) none
theorem binT_eq {a b:List UInt8} {op:Int→Int→Int} {x:Int} {big:Option (List Lf)} (hs:(szOK a && szOK b)=true)
  (hx:smOK a b=true→x=op (dvalZ a) (dvalZ b)) (hr:∀ A B,-1000000000 < A→A < 1000000000→-1000000000 < B→B < 1000000000→-1000000000000000000 < op A B∧op A B < 1000000000000000000)
  (hb:errI a=0→errI b=0→big=some [.s (resI (op (dvalZ a) (dvalZ b))).1,.i (resI (op (dvalZ a) (dvalZ b))).2]) :
  binT a b x big=some [.s (binR op a b).1,.i (binR op a b).2]:=by
 unfold binT
 rw [hs,brK_t]
 cases h:allR a b != 0 with
 | true=>rw [binR_err op h]; rfl
 | false =>
  obtain ⟨h1,h2⟩:=allR_0 h
  rw [binR_ok op h1 h2,brK_f,propB_true ⟨(errI_wn h1).1,(errI_wn h2).1⟩,brK_t]
  cases hm:smOK a b with
  | false=>rw [brK_f]; exact hb h1 h2
  | true =>
   obtain ⟨⟨a1,a2⟩,b1,b2⟩:=smOK_lt (errI_wn h1).1 (errI_wn h2).1 hm
   rw [hx hm]
   obtain ⟨r1,r2⟩:=hr _ _ a1 a2 b1 b2
   rw [resI_small r1 r2,W_id (by omega) (by omega),brK_t]
   unfold rg
   rw [decide_eq_true ⟨by omega,by omega⟩]
   rfl
theorem run179 (a b:List UInt8):(runK prog pBig19 60).call 179 (spSS.rho [.s a,.s b]) (spSS.heap [.s a,.s b]) (finQ spRI 8 []) =
  binT a b ((bif smOK a b then dvalZ a else 0)+bif smOK a b then dvalZ b else 0)
   (brK (propB (isZ a∧isZ b∧wn (dvalZ a).natAbs≤231∧wn (dvalZ b).natAbs≤231)) (some [.s (resI (dvalZ a+dvalZ b)).1,.i (resI (dvalZ a+dvalZ b)).2]) none):=by kernel_rfl
noncomputable abbrev big66 (a b:List UInt8) (la lb:Bool) (V U:Nat) (X:Nat):Option (List Lf) :=
 brK (propB (isZ a∧wn V≤232)) (brK (propB (isZ b∧wn U≤232)) (brK (propB (232=232∧232=232∧isW (wn V:Int) (wf V)∧isW (wn U:Int) (wf U)∧(wn V:Int)+(wn U:Int)≤232))
  (brK (propB (232=232∧isW (wn X:Int) (wf X))) (some [.s (resI (sv (la != lb) (valW (wn X:Int) (wf X)))).1,.i (resI (sv (la != lb) (valW (wn X:Int) (wf X)))).2]) none) none) none) none
theorem run66 (a b:List UInt8):(runK prog pBig19 60).call 66 (spSS.rho [.s a,.s b]) (spSS.heap [.s a,.s b]) (finQ spRI 8 []) =
  binT a b ((bif smOK a b then dvalZ a else 0)*bif smOK a b then dvalZ b else 0)
   (big66 a b (decide (dvalZ a < 0)) (decide (dvalZ b < 0)) (dvalZ a).natAbs (dvalZ b).natAbs (valW (wn (dvalZ a).natAbs:Int) (wf (dvalZ a).natAbs)*valW (wn (dvalZ b).natAbs:Int) (wf (dvalZ b).natAbs))):=by kernel_rfl
theorem sv_mul (l l':Bool) (V U:Nat):sv (l != l') (V*U)=sv l V*sv l' U:=by
 have e:=Int.natCast_mul V U
 cases l <;> cases l' <;> simp only [show (true != true)=false from rfl,show (false != false)=false from rfl,show (true != false)=true from rfl,show (false != true)=true from rfl,sv_t,sv_f,e,Int.neg_mul,Int.mul_neg,Int.neg_neg]
theorem wn_mul {V U n m:Nat} (h1:wn V≤n) (h2:wn U≤m):wn (V*U)≤n+m:=by
 have a:=wn_lt_iff.1 h1
 have b:=wn_lt_iff.1 h2
 refine wn_le ?_
 rw [Nat.pow_add]
 exact Nat.mul_lt_mul'' a b
theorem big66_eq {a b:List UInt8} {la lb:Bool} {V U:Nat} (ha:isZ a) (hb:isZ b) (hV:wn V≤114) (hU:wn U≤114) :
  big66 a b la lb V U (valW (wn V:Int) (wf V)*valW (wn U:Int) (wf U))=some [.s (resI (sv la V*sv lb U)).1,.i (resI (sv la V*sv lb U)).2]:=by
 unfold big66
 rw [valW_wf,valW_wf,valW_wf]
 have h3:=wn_mul hV hU
 generalize hX:V*U=X at *
 rw [propB_true (show isZ a∧wn V≤232 from ⟨ha,by omega⟩),propB_true (show isZ b∧wn U≤232 from ⟨hb,by omega⟩),
  propB_true (show 232=232∧232=232∧isW (wn V:Int) (wf V)∧isW (wn U:Int) (wf U)∧(wn V:Int)+(wn U:Int)≤232 from ⟨rfl,rfl,isW_wf (by omega),isW_wf (by omega),by omega⟩),
  propB_true (show 232=232∧isW (wn X:Int) (wf X) from ⟨rfl,isW_wf (by omega)⟩)]
 rw [← hX,sv_mul]
 rfl
theorem mul_rg {A B:Int} (a1:-1000000000 < A) (a2:A < 1000000000) (b1:-1000000000 < B) (b2:B < 1000000000):-1000000000000000000 < A*B∧A*B < 1000000000000000000:=by
 have h:(A*B).natAbs≤999999999*999999999:=by
  rw [Int.natAbs_mul]
  exact Nat.mul_le_mul (by omega) (by omega)
 omega
noncomputable def TBin (op:Int→Int→Int):List Lf→Tr (SP × List Lf)
 | [.s a,.s b]=>.br (szOK a && szOK b) (.leaf (spRI,[.s (binR op a b).1,.i (binR op a b).2])) .fail
 | _=>.fail
noncomputable def pBig20:Prims:=(pBig19.addh 179 (liftG 8 (funQ spSS 8 [] (TBin (·+·))))).addh 66 (liftG 8 (funQ spSS 8 [] (TBin (·*·))))
theorem pBig20_ok {A:Amb} (hT:Tab A) (hG:prog.globals.size≤A.G):PrimOK prog A pBig20:=by
 refine PrimOK.addl ((pBig19_ok hT hG).addl gsz func179 (by kernel_rfl) (funQ_ok hmix hnum rfl fun ls sq l h=>?_)) gsz func66 (by kernel_rfl) (funQ_ok hmix hnum rfl fun ls sq l h=>?_)
 ·unfold TBin at h
  split at h
  ·rename_i a b
   obtain ⟨hc,hv⟩:=Tr.br1 h
   cases hv
   refine ⟨⟨.inr rfl,.inr rfl,.inr rfl,.inr rfl,.inr rfl,.inr rfl,.inr rfl,.inr rfl,trivial⟩,rfl,pBig19,60,_,pBig19_ok hT hG,(run179 a b).trans ?_,fun _ _=>.refl⟩
   refine binT_eq hc (fun h=>by rw [h]; rfl) (fun A B _ _ _ _=>by omega) fun h1 h2=>?_
   have w1:=errI_wn h1
   have w2:=errI_wn h2
   rw [propB_true ⟨w1.1,w2.1,by omega,by omega⟩]
   rfl
  ·cases h
 ·unfold TBin at h
  split at h
  ·rename_i a b
   obtain ⟨hc,hv⟩:=Tr.br1 h
   cases hv
   refine ⟨⟨.inr rfl,.inr rfl,.inr rfl,.inr rfl,.inr rfl,.inr rfl,.inr rfl,.inr rfl,trivial⟩,rfl,pBig19,60,_,pBig19_ok hT hG,(run66 a b).trans ?_,fun _ _=>.refl⟩
   refine binT_eq hc (fun h=>by rw [h]; rfl) (fun A B=>mul_rg) fun h1 h2=>?_
   have w1:=errI_wn h1
   have w2:=errI_wn h2
   rw [big66_eq w1.1 w2.1 w1.2 w2.2,sv_of,sv_of]
  ·cases h
end Go.Proofs.Tryz
