/- Numbers of any size: quotient and remainder. -/
import Derived.Test.YtfjgehlpjppggaaGreatDoorBig1
import Derived.Test.YtfjgehlpjppggaaGreatDoorAdNum
namespace Go.Proofs.Tryz
open Go.Ad
noncomputable def code150:Code:=f150.body.getD .skip
noncomputable def bodyV:Code:=unLoop (findB 2 code150)
noncomputable def bodyU:Code:=unLoop (findB 0 code150)
def spV:SP:=⟨[pW 8,pW 9,.drop,.drop,.drop,.drop,pW 10,pW 11,.int .i64,.int .i64]++dr 80,dd8++[opW,opW,opW,opW]⟩
def spU:SP:=⟨[pW 8,pW 9,.drop,.drop,.drop,.drop,pW 10,pW 11,.int .i64]++dr 81,dd8++[opW,opW,opW,opW]⟩
def lf4 (l:Bool) (n:Int) (f:Nat→Int) (l':Bool) (n':Int) (g:Nat→Int) (lq:Bool) (nq:Int) (fq:Nat→Int) (lr:Bool) (nr:Int) (fr:Nat→Int):List Lf :=
 [.b l,.i n,.n 232,.f f,.b l',.i n',.n 232,.f g,.b lq,.i nq,.n 232,.f fq,.b lr,.i nr,.n 232,.f fr]
section
variable (i d:Int) (l:Bool) (n:Int) (f:Nat→Int) (l':Bool) (n':Int) (g:Nat→Int) (lq:Bool) (nq:Int) (fq:Nat→Int) (lr:Bool) (nr:Int) (fr:Nat→Int)
def lfV:List Lf:=.i i :: .i d :: lf4 l n f l' n' g lq nq fq lr nr fr
def lfU:List Lf:=.i i :: lf4 l n f l' n' g lq nq fq lr nr fr
theorem roundV:execK prog (runK prog pBig6 60) noBps bodyV (spV.rho (lfV i d l n f l' n' g lq nq fq lr nr fr)) (spV.heap (lfV i d l n f l' n' g lq nq fq lr nr fr)) (nrmP (fun _=>spV) 12 [11]) =
  brK (propB (0≤nr∧nr≤232∧232=232∧232=232)) (brK (decide (beyR nr n' fr g ≥ 0)) (brK (propB (232=232∧232=232∧okE nr fr n' g))
   (brK (propB (232=232∧232=232∧okC2 (W (0 - estR nr fr n' g)) 0 nr fr n' g (sumC (W (0 - estR nr fr n' g)) 0 nr fr n' g)))
    (some (.normal,lfV i (W (d+estR nr fr n' g)) l n f l' n' g lq nq fq lr (wn (sumC (W (0 - estR nr fr n' g)) 0 nr fr n' g)) (wf (sumC (W (0 - estR nr fr n' g)) 0 nr fr n' g)))) none) none)
   (some (.exit 2,lfV i d l n f l' n' g lq nq fq lr nr fr))) none:=by kernel_rfl
end
section
variable {i:Int} {l:Bool} {n:Int} {f:Nat→Int} {l':Bool} {lq:Bool} {nq:Int} {fq:Nat→Int} {lr:Bool} {Y T d:Nat}
theorem roundV_more (hY:0 < Y) (hYn:wn Y≤231) (hle:Y≤T) (hlt:T < Y*BB) (hd:d+T / Y < BB):∃ k:Nat,1≤k∧k*Y≤T ∧
  execK prog (runK prog pBig6 60) noBps bodyV (spV.rho (lfV i d l n f l' (wn Y) (wf Y) lq nq fq lr (wn T) (wf T))) (spV.heap (lfV i d l n f l' (wn Y) (wf Y) lq nq fq lr (wn T) (wf T))) (nrmP (fun _=>spV) 12 [11]) =
   some (.normal,lfV i ((d+k:Nat):Int) l n f l' (wn Y) (wf Y) lq nq fq lr (wn (T - k*Y)) (wf (T - k*Y))):=by
 obtain ⟨_,_,_,k,hk,k1,k2,k3⟩:=estR_ok hY hle hlt
 refine ⟨k,k1,k3,?_⟩
 have hB:BB=1000000000:=rfl
 have hTn:wn T≤232:=by
  refine wn_le (Nat.lt_of_lt_of_le hlt ?_)
  have h1:Y*BB≤BB ^ 231*BB:=Nat.mul_le_mul_right _ (Nat.le_of_lt (wn_lt_iff.1 hYn))
  exact h1
 have hkd:k≤T / Y:=(Nat.le_div_iff_mul_le hY).2 k3
 rw [roundV,hk]
 have wT:=isW_wf hTn
 have wY:=isW_wf (V:=Y) (by omega)
 have e1:W (0 - (k:Int))=-(k:Int):=by rw [W,wrap64 (by omega) (by omega)]; omega
 have e2:W ((d:Int)+k)=((d+k:Nat):Int):=by rw [W,wrap64 (by omega) (by omega)]; omega
 have hsub:((T - k*Y:Nat):Int)=(T:Int)+-(k:Int)*(Y:Int)*((BB ^ 0:Nat):Int):=by
  rw [Int.ofNat_sub k3]
  push_cast
  rw [Int.neg_mul]
  simp only [Int.pow_zero,Int.mul_one]
  omega
 have hsum:sumC (-(k:Int)) 0 (wn T) (wf T) (wn Y) (wf Y)=T - k*Y:=by
  unfold sumC
  rw [valW_wf,valW_wf,show (0:Int).toNat=0 from rfl,← hsub,Int.toNat_natCast]
 rw [e1,e2,hsum,beyR_ge hTn (by omega),decide_eq_true hle]
 rw [propB_true (show _∧_ from ⟨by omega,by omega,rfl,rfl⟩),propB_true (show _∧_ from ⟨rfl,rfl,wT,wY,by rw [valW_wf]; exact hY,by rw [valW_wf,valW_wf]; exact hle,by rw [valW_wf,valW_wf]; exact hlt⟩),
  propB_true (show _∧_ from ⟨rfl,rfl,wT,wY,⟨by omega,by omega⟩,Int.le_refl _,by omega,wn_le (Nat.lt_of_le_of_lt (Nat.sub_le _ _) (wn_lt_iff.1 hTn)),by rw [valW_wf,valW_wf]; exact hsub⟩)]
 rfl
theorem roundV_stop (hYn:wn Y≤231) (hT:T < Y) :
  execK prog (runK prog pBig6 60) noBps bodyV (spV.rho (lfV i d l n f l' (wn Y) (wf Y) lq nq fq lr (wn T) (wf T))) (spV.heap (lfV i d l n f l' (wn Y) (wf Y) lq nq fq lr (wn T) (wf T))) (nrmP (fun _=>spV) 12 [11]) =
   some (.exit 2,lfV i d l n f l' (wn Y) (wf Y) lq nq fq lr (wn T) (wf T)):=by
 have hTn:wn T≤231:=wn_le (Nat.lt_trans hT (wn_lt_iff.1 hYn))
 rw [roundV,beyR_ge (by omega) (by omega),decide_eq_false (show ¬ Y≤T by omega),propB_true (show _∧_ from ⟨by omega,by omega,rfl,rfl⟩)]
 rfl
end
noncomputable def hookV:Blk:=hookP spV 12 [11] fun
 | [.i i,.i d,.b l,.i n,.n m,.f f,.b l',.i n',.n m',.f g,.b lq,.i nq,.n mq,.f fq,.b lr,.i nr,.n mr,.f fr] =>
  .br (propB (m=232∧m'=232∧mq=232∧mr=232∧d=0∧isW nr fr∧isW n' g∧n'≤231∧0 < valW n' g∧valW nr fr < valW n' g*BB))
   (.leaf (.normal,spV,lfV i ((valW nr fr / valW n' g:Nat):Int) l n f l' n' g lq nq fq lr (wn (valW nr fr % valW n' g)) (wf (valW nr fr % valW n' g)))) .fail
 | _=>.fail
section
variable {A:Amb} (hT:Tab A) (hG:prog.globals.size≤A.G)
include hT hG
theorem hookV_ok:∀ ρ B e' ρ' B' D,(hookV ρ B).get=some (e',ρ',B',D)→AFr B B' D∧SEB prog A B (.block 2 (.loop bodyV)) ⟨ρ,B,[]⟩ e' ⟨ρ',B',D⟩:=by
 have hp:=pBig6_ok hT hG
 refine hookP_ok rfl fun ls e sq l h=>?_
 split at h
 ·rename_i i d lb n m f lb' n' m' g lq nq mq fq lr nr mr fr
  obtain ⟨hc,hv⟩:=Tr.br1 h
  cases hv
  obtain ⟨rfl,rfl,rfl,rfl,rfl,w1,w2,hYn,hY,hlt⟩:=propB_eq hc
  obtain ⟨a1,a2,a3⟩:=isW_eq w1
  obtain ⟨b1,b2,b3⟩:=isW_eq w2
  generalize hX:valW nr fr=R at *
  generalize hYY:valW n' g=Y at *
  subst a1 a2 b1 b2
  have hYn:wn Y≤231:=by omega
  refine ⟨⟨.inr rfl,.inr rfl,.inr rfl,.inr rfl,.inr rfl,.inr rfl,.inr rfl,.inr rfl,.inr rfl,.inr rfl,.inr rfl,.inl rfl,trivial⟩,fun Bb hB=>SEB.block_exit (id:=2) ?_⟩
  refine SEB.while (fun x:Nat × Nat=>x.1+x.2*Y=R) (fun x=>x.1) (fun x=>⟨spV.rho (lfV i (x.2:Int) lb n f lb' (wn Y) (wf Y) lq nq fq lr (wn x.1) (wf x.1)),spV.heap (lfV i (x.2:Int) lb n f lb' (wn Y) (wf Y) lq nq fq lr (wn x.1) (wf x.1)),[11]⟩)
   (fun _=>(.exit 2,⟨spV.rho (lfV i ((R / Y:Nat):Int) lb n f lb' (wn Y) (wf Y) lq nq fq lr (wn (R % Y)) (wf (R % Y))),spV.heap (lfV i ((R / Y:Nat):Int) lb n f lb' (wn Y) (wf Y) lq nq fq lr (wn (R % Y)) (wf (R % Y))),[11]⟩)) (fun x hx=>?_) (R,0) (by simp)
  obtain ⟨T,d⟩:=x
  simp only at hx ⊢
  have hdR:R / Y=d+T / Y:=by rw [← hx,Nat.add_comm,Nat.mul_comm,Nat.mul_add_div hY]
  have hmR:R % Y=T % Y:=by rw [← hx,Nat.add_comm,Nat.mul_comm,Nat.mul_add_mod]
  have hRB:R / Y < BB:=by rw [Nat.div_lt_iff_lt_mul hY,Nat.mul_comm]; exact hlt
  by_cases hle:Y≤T
  ·left
   have hTl:T < Y*BB:=by omega
   obtain ⟨k,k1,k2,hk⟩:=roundV_more (i:=i) (l:=lb) (n:=n) (f:=f) (l':=lb') (lq:=lq) (nq:=nq) (fq:=fq) (lr:=lr) (d:=d) hY hYn hle hTl (by omega)
   have hkY:0 < k*Y:=Nat.mul_pos k1 hY
   refine ⟨(T - k*Y,d+k),?_,?_,trivial,SEB.of_KP (e:=.normal) hmix hnum hp (.none _) hB hk rfl⟩
   ·simp only [Nat.add_mul]; omega
   ·simp only; omega
  ·right
   have hk:=roundV_stop (i:=i) (l:=lb) (n:=n) (f:=f) (l':=lb') (lq:=lq) (nq:=nq) (fq:=fq) (lr:=lr) (d:=d) (T:=T) hYn (by omega)
   rw [hdR,hmR,Nat.div_eq_of_lt (show T < Y by omega),Nat.mod_eq_of_lt (show T < Y by omega),Nat.add_zero]
   exact ⟨by simp,SEB.of_KP (e:=.exit 2) hmix hnum hp (.none _) hB hk rfl⟩
 ·cases h
end
end Go.Proofs.Tryz
namespace Go.Proofs.Tryz
open Go.Ad
section
variable (i:Int) (l:Bool) (n:Int) (f:Nat→Int) (l':Bool) (n':Int) (g:Nat→Int) (lq:Bool) (nq:Int) (fq:Nat→Int) (lr:Bool) (nr:Int) (fr:Nat→Int)
noncomputable def treeU (f1:Nat→Int) (n1:Int) (dd:Int) (nr2:Int) (fr2:Nat→Int):Option (AEx × List Lf) :=
 brK (decide (i ≥ 0)) (brK (decide (0≤nr∧nr≤232) && true) (brK (decide (2≤2) && decide (0+nr.toNat≤232) && (decide (2≤3) && decide (232≤232)))
  (brK (decide (0≤i∧i < 232)) (brK (decide (i.toNat < 232)) (brK (propB (0≤W (nr+1)∧W (nr+1)≤232∧232=232))
   (brK (propB (232=232∧232=232∧232=232∧232=232∧(0:Int)=0∧isW n1 f1∧isW n' g∧n'≤231∧0 < valW n' g∧valW n1 f1 < valW n' g*BB))
    (brK (decide (0≤i∧i < 232)) (brK (decide (i.toNat < 232)) (some (.normal,lfU (W (i - 1)) l n f l' n' g lq (if W (i+1) > nq then W (i+1) else nq) (updF fq i.toNat dd) lr nr2 fr2)) none) none) none) none) none) none) none) none)
  (some (.exit 0,lfU i l n f l' n' g lq nq fq lr nr fr))
def shF (fr:Nat→Int) (k:Nat) (v:Int):Nat→Int:=updF (copyF fr 1 (min k 231) fun x=>fr (0+x)) 0 v
theorem roundU:execK prog (runK prog pBig6 60) (oneB 2 hookV) bodyU (spU.rho (lfU i l n f l' n' g lq nq fq lr nr fr)) (spU.heap (lfU i l n f l' n' g lq nq fq lr nr fr)) (nrmP (fun _=>spU) 12 [10,11]) =
  treeU i l n f l' n' g lq nq fq lr nr fr (shF fr nr.toNat (f i.toNat)) (trimN (W (nr+1)).toNat (shF fr nr.toNat (f i.toNat)))
   ((valW (trimN (W (nr+1)).toNat (shF fr nr.toNat (f i.toNat))) (shF fr nr.toNat (f i.toNat)) / valW n' g:Nat):Int)
   (wn (valW (trimN (W (nr+1)).toNat (shF fr nr.toNat (f i.toNat))) (shF fr nr.toNat (f i.toNat)) % valW n' g))
   (wf (valW (trimN (W (nr+1)).toNat (shF fr nr.toNat (f i.toNat))) (shF fr nr.toNat (f i.toNat)) % valW n' g)):=by kernel_rfl
end
def nqI (X i:Nat):Nat:=if i=wn X then 0 else wn X
def lfX (l l':Bool) (X Y i:Nat):List Lf:=lfU ((i:Int) - 1) l (wn X) (wf X) l' (wn Y) (wf Y) false (nqI X i) (fqI (X / Y) i) false (wn (X / BB ^ i % Y)) (wf (X / BB ^ i % Y))
theorem roundU_step {l l':Bool} {X Y i:Nat} (hX:wn X≤232) (hY:0 < Y) (hYn:wn Y≤231) (hi:i+1≤wn X) :
  execK prog (runK prog pBig6 60) (oneB 2 hookV) bodyU (spU.rho (lfX l l' X Y (i+1))) (spU.heap (lfX l l' X Y (i+1))) (nrmP (fun _=>spU) 12 [10,11])=some (.normal,lfX l l' X Y i):=by
 have e0:((i+1:Nat):Int) - 1=i:=by omega
 obtain ⟨d1,d2,d3⟩:=div_step (X:=X) (Y:=Y) (i:=i) hY
 unfold lfX
 rw [roundU,e0]
 generalize hR:X / BB ^ (i+1) % Y=R at *
 have hRY:R < Y:=by rw [← hR]; exact Nat.mod_lt _ hY
 have hRn:wn R≤231:=wn_le (Nat.lt_trans hRY (wn_lt_iff.1 hYn))
 have hw:=wd_lt X i
 have hsh:shF (wf R) ((wn R:Nat):Int).toNat (wf X ((i:Nat):Int).toNat)=wf (R*BB+wd X i):=by
  unfold shF
  rw [Int.toNat_natCast,Int.toNat_natCast]
  simp only [Nat.zero_add]
  exact shiftW hw hRn
 have e1:W (((wn R:Nat):Int)+1)=((wn R+1:Nat):Int):=by rw [W,wrap64 (by omega) (by omega)]; omega
 rw [hsh,e1,Int.toNat_natCast,trimN_wf _ _ (wn_shift hw),valW_wf,valW_wf,d1,d2]
 have hTn:wn (R*BB+wd X i)≤232:=Nat.le_trans (wn_shift hw) (by omega)
 unfold treeU
 have e2:W ((i:Int) - 1)=(i:Int) - 1:=by rw [W,wrap64 (by omega) (by omega)]
 have e3:W ((i:Int)+1)=((i+1:Nat):Int):=by rw [W,wrap64 (by omega) (by omega)]; omega
 rw [e1,e2,e3,Int.toNat_natCast,Int.toNat_natCast,fqI_succ]
 have e4:(if ((i+1:Nat):Int) > ((nqI X (i+1):Nat):Int) then ((i+1:Nat):Int) else ((nqI X (i+1):Nat):Int))=((nqI X i:Nat):Int):=by
  unfold nqI
  rw [if_neg (show ¬ i=wn X by omega)]
  by_cases h:i+1=wn X
  ·rw [if_pos h,if_pos (by omega),h]
  ·rw [if_neg h,if_neg (by omega)]
 rw [e4,decide_eq_true (show (i:Int) ≥ 0 by omega),decide_eq_true (show 0≤((wn R:Nat):Int)∧((wn R:Nat):Int)≤232 by omega),decide_eq_true (show 0+wn R≤232 by omega),decide_eq_true (show 0≤(i:Int)∧(i:Int) < 232 by omega),decide_eq_true (show i < 232 by omega),
  propB_true (show _∧_ from ⟨by omega,by omega,rfl⟩),propB_true (show _∧_ from ⟨rfl,rfl,rfl,rfl,rfl,isW_wf hTn,isW_wf (by omega),by omega,by rw [valW_wf]; exact hY,by rw [valW_wf,valW_wf]; exact d3⟩)]
 rfl
theorem roundU_end {l l':Bool} {X Y:Nat} :
  execK prog (runK prog pBig6 60) (oneB 2 hookV) bodyU (spU.rho (lfX l l' X Y 0)) (spU.heap (lfX l l' X Y 0)) (nrmP (fun _=>spU) 12 [10,11])=some (.exit 0,lfX l l' X Y 0):=by
 unfold lfX
 rw [roundU]
 rfl
noncomputable def hookU:Blk:=hookP spU 12 [10,11] fun
 | [.i i,.b l,.i n,.n m,.f f,.b l',.i n',.n m',.f g,.b lq,.i nq,.n mq,.f fq,.b lr,.i nr,.n mr,.f fr] =>
  .br (propB (m=232∧m'=232∧mq=232∧mr=232∧i=n - 1∧lq=false∧nq=0∧(fq=fun _=>0)∧lr=false∧nr=0∧(fr=fun _=>0)∧isW n f∧isW n' g∧n'≤231∧0 < valW n' g))
   (.leaf (.normal,spU,lfX l l' (valW n f) (valW n' g) 0)) .fail
 | _=>.fail
noncomputable def pBigU:Prims:=pBig6.addb 150 0 hookU
section
variable {A:Amb} (hT:Tab A) (hG:prog.globals.size≤A.G)
include hT hG
theorem pBigU_ok:PrimOK prog A pBigU:=by
 have hp:=pBig6_ok hT hG
 refine PrimOK.addbP hp func150 (show f150.body=some code150 by kernel_rfl) (body:=.loop bodyU) (by kernel_rfl) (by kernel_rfl) fun ls e sq l h=>?_
 split at h
 ·rename_i i lb n m f lb' n' m' g lq nq mq fq lr nr mr fr
  obtain ⟨hc,hv⟩:=Tr.br1 h
  cases hv
  obtain ⟨rfl,rfl,rfl,rfl,rfl,rfl,rfl,rfl,rfl,rfl,rfl,w1,w2,hYn,hY⟩:=propB_eq hc
  obtain ⟨a1,a2,a3⟩:=isW_eq w1
  obtain ⟨b1,b2,b3⟩:=isW_eq w2
  generalize hX:valW n f=X at *
  generalize hYY:valW n' g=Y at *
  subst a1 a2 b1 b2
  have hYn:wn Y≤231:=by omega
  have hblk:BlkOK prog A (oneB 2 hookV) bodyU:=BlkOK.one (body:=.loop bodyV) (by kernel_rfl) fun ρ B e ρ' B' D hq=>(hookV_ok hT hG ρ B e ρ' B' D hq).2
  refine ⟨⟨.inr rfl,.inr rfl,.inr rfl,.inr rfl,.inr rfl,.inr rfl,.inr rfl,.inr rfl,.inr rfl,.inr rfl,.inl rfl,.inl rfl,trivial⟩,fun Bb hB=>SEB.block_exit (id:=0) ?_⟩
  have e0:(⟨spU.rho [.i ((wn X:Int) - 1),.b lb,.i (wn X:Int),.n 232,.f (wf X),.b lb',.i (wn Y:Int),.n 232,.f (wf Y),.b false,.i 0,.n 232,.f fun _=>0,.b false,.i 0,.n 232,.f fun _=>0],
    spU.heap [.i ((wn X:Int) - 1),.b lb,.i (wn X:Int),.n 232,.f (wf X),.b lb',.i (wn Y:Int),.n 232,.f (wf Y),.b false,.i 0,.n 232,.f fun _=>0,.b false,.i 0,.n 232,.f fun _=>0],[10,11]⟩:St) =
    ⟨spU.rho (lfX lb lb' X Y (wn X)),spU.heap (lfX lb lb' X Y (wn X)),[10,11]⟩:=by
   have h1:X / BB ^ wn X % Y=0:=by rw [Nat.div_eq_of_lt (lt_wn X),Nat.zero_mod]
   have h2:nqI X (wn X)=0:=by simp [nqI]
   unfold lfX lfU lf4
   rw [h1,h2,fqI_top,wf_zero,wn_zero]
   rfl
  rw [e0]
  refine SEB.while (fun i:Nat=>i≤wn X) (fun i=>i) (fun i=>⟨spU.rho (lfX lb lb' X Y i),spU.heap (lfX lb lb' X Y i),[10,11]⟩) (fun _=>(.exit 0,⟨spU.rho (lfX lb lb' X Y 0),spU.heap (lfX lb lb' X Y 0),[10,11]⟩)) (fun i hi=>?_) (wn X) (Nat.le_refl _)
  cases i with
  | zero=>right; exact ⟨by simp,SEB.of_KP (e:=.exit 0) hmix hnum hp hblk hB roundU_end rfl⟩
  | succ i=>left; exact ⟨i,by omega,by omega,rfl,SEB.of_KP (e:=.normal) hmix hnum hp hblk hB (roundU_step a3 hY hYn hi) rfl⟩
 ·cases h
end
def sp2d:SP:=⟨[pW 10,pW 11],dd8++[opW,opW,opW,opW]⟩
noncomputable def T150:List Lf→Tr (SP × List Lf)
 | [.b l,.i n,.n m,.f f,.b l',.i n',.n m',.f g]=>.br (propB (m=232∧m'=232∧isW n f∧isW n' g∧n'≤231∧0 < valW n' g))
  (.leaf (sp2d,lf4 l n f l' n' g false (wn (valW n f / valW n' g)) (wf (valW n f / valW n' g)) false (wn (valW n f % valW n' g)) (wf (valW n f % valW n' g)))) .fail
 | _=>.fail
noncomputable def tree150 (l:Bool) (n:Int) (f:Nat→Int) (l':Bool) (n':Int) (g:Nat→Int) (X Y:Nat):Option (List Lf) :=
 brK (propB (232=232∧232=232∧232=232∧232=232∧W (n - 1)=n - 1∧false=false∧(0:Int)=0∧((fun _=>0:Nat→Int)=fun _=>0)∧false=false∧(0:Int)=0∧((fun _=>0:Nat→Int)=fun _=>0)∧isW n f∧isW n' g∧n'≤231∧0 < Y))
  (brK (propB (0≤((nqI X 0:Nat):Int)∧((nqI X 0:Nat):Int)≤232∧232=232))
   (some (lf4 l (wn X) (wf X) l' (wn Y) (wf Y) false (trimN ((nqI X 0:Nat):Int).toNat (fqI (X / Y) 0)) (fqI (X / Y) 0) false (wn (X / BB ^ 0 % Y)) (wf (X / BB ^ 0 % Y)))) none) none
theorem run150 (l:Bool) (n:Int) (f:Nat→Int) (l':Bool) (n':Int) (g:Nat→Int):(runK prog pBigU 60).call 150 (sp2.rho (lf2 l n f l' n' g)) (sp2.heap (lf2 l n f l' n' g)) (finQ sp2d 10 []) =
  tree150 l n f l' n' g (valW n f) (valW n' g):=by kernel_rfl
noncomputable def pBig7:Prims:=pBig6.addh 150 (liftG 8 (funQ sp2 10 [] T150))
theorem pBig7_ok {A:Amb} (hT:Tab A) (hG:prog.globals.size≤A.G):PrimOK prog A pBig7:=by
 refine (pBig6_ok hT hG).addl gsz func150 (by kernel_rfl) (funQ_ok hmix hnum rfl fun ls sq l h=>?_)
 unfold T150 at h
 split at h
 ·rename_i lb n m f lb' n' m' g
  obtain ⟨hc,hv⟩:=Tr.br1 h
  cases hv
  obtain ⟨rfl,rfl,w1,w2,hYn,hY⟩:=propB_eq hc
  refine ⟨⟨.inr rfl,.inr rfl,.inr rfl,.inr rfl,.inr rfl,.inr rfl,.inr rfl,.inr rfl,.inr rfl,.inr rfl,trivial⟩,rfl,pBigU,60,_,pBigU_ok hT hG,(run150 _ _ f _ _ g).trans ?_,fun _ _=>.refl⟩
  unfold tree150
  obtain ⟨a1,a2,a3⟩:=isW_eq w1
  obtain ⟨b1,b2,b3⟩:=isW_eq w2
  have hw:W (n - 1)=n - 1:=by rw [W,wrap64 (by omega) (by omega)]
  rw [propB_true (show _∧_ from ⟨rfl,rfl,rfl,rfl,hw,rfl,rfl,rfl,rfl,rfl,rfl,w1,w2,hYn,hY⟩)]
  generalize hX:valW n f=X at *
  generalize hYY:valW n' g=Y at *
  subst a1 a2 b1 b2
  have hq:wn (X / Y)≤nqI X 0:=by
   have h1:wn (X / Y)≤wn X:=wn_le (Nat.lt_of_le_of_lt (Nat.div_le_self _ _) (lt_wn X))
   unfold nqI
   split <;> omega
  have hq2:nqI X 0≤232:=by unfold nqI; split <;> omega
  rw [propB_true (show _∧_ from ⟨by omega,by omega,rfl⟩),Int.toNat_natCast,fqI_zero,trimN_wf _ _ hq,Nat.pow_zero,Nat.div_one]
  rfl
 ·cases h
end Go.Proofs.Tryz
namespace Go.Proofs.Tryz
open Go.Ad
def numF (f:Nat→Int):Nat→Int:=numAt ((List.range 232).map fun i=>.sint .i64 (f i))
theorem numF_eq {f:Nat→Int} (h:∀ i,232≤i→f i=0):numF f=f:=by
 funext i
 unfold numF numAt
 rw [List.getD_eq_getElem?_getD,List.getElem?_map]
 by_cases hi:i < 232
 ·rw [List.getElem?_range hi]; rfl
 ·rw [List.getElem?_eq_none (by simp; omega),h i (by omega)]; rfl
theorem numF_wf {V:Nat} (h:wn V≤232):numF (wf V)=wf V:=numF_eq fun i hi=>by simp [wf,wd_zero (V:=V) (i:=i) (by omega)]
section
variable (l:Bool) (n:Int) (f:Nat→Int) (l':Bool) (n':Int) (g:Nat→Int)
noncomputable def tree151:Option (List Lf) :=
 brK (l == l') (brK (propB (232=232∧232=232∧okC2 1 0 n f n' g (sumC 1 0 n f n' g))) (some (lf2 l (wn (sumC 1 0 n f n' g)) (wf (sumC 1 0 n f n' g)) l' n' g)) none)
  (brK (propB (0≤n∧n≤232∧232=232∧232=232)) (brK (decide (beyR n n' f g ≥ 0)) (brK (propB (232=232∧232=232∧okC2 (-1) 0 n f n' g (sumC (-1) 0 n f n' g))) (some (lf2 l (wn (sumC (-1) 0 n f n' g)) (wf (sumC (-1) 0 n f n' g)) l' n' g)) none)
   (brK (propB (232=232∧232=232∧okC2 (-1) 0 n' (numF g) n f (sumC (-1) 0 n' (numF g) n f))) (some (lf2 l' (wn (sumC (-1) 0 n' (numF g) n f)) (numF (wf (sumC (-1) 0 n' (numF g) n f))) l' n' g)) none)) none)
theorem run151:(runK prog pBig7 60).call 151 (sp2.rho (lf2 l n f l' n' g)) (sp2.heap (lf2 l n f l' n' g)) (finP sp2v 10 [8])=tree151 l n f l' n' g:=by kernel_rfl
end
def plusR (l:Bool) (V:Nat) (l':Bool) (U:Nat):Bool × Nat:=bif l == l' then (l,V+U) else bif decide (U≤V) then (l,V - U) else (l',U - V)
theorem sumC_add {n n':Int} {f g:Nat→Int}:sumC 1 0 n f n' g=valW n f+valW n' g:=by
 unfold sumC
 rw [show (0:Int).toNat=0 from rfl,Nat.pow_zero]
 omega
theorem sumC_sub {n n':Int} {f g:Nat→Int}:sumC (-1) 0 n f n' g=valW n f - valW n' g:=by
 unfold sumC
 rw [show (0:Int).toNat=0 from rfl,Nat.pow_zero]
 omega
noncomputable def T151:List Lf→Tr (SP × List Lf)
 | [.b l,.i n,.n m,.f f,.b l',.i n',.n m',.f g]=>.br (propB (m=232∧m'=232∧isW n f∧isW n' g∧wn (valW n f+valW n' g)≤232))
  (.leaf (sp2v,lf2 (plusR l (valW n f) l' (valW n' g)).1 (wn (plusR l (valW n f) l' (valW n' g)).2) (wf (plusR l (valW n f) l' (valW n' g)).2) l' n' g)) .fail
 | _=>.fail
noncomputable def pBig8:Prims:=pBig7.addh 151 (liftG 8 (funP sp2 10 [8] T151))
theorem pBig8_ok {A:Amb} (hT:Tab A) (hG:prog.globals.size≤A.G):PrimOK prog A pBig8:=by
 refine (pBig7_ok hT hG).addl gsz func151 (by kernel_rfl) (funP_ok hmix hnum rfl fun ls sq l h=>?_)
 unfold T151 at h
 split at h
 ·rename_i lb n m f lb' n' m' g
  obtain ⟨hc,hv⟩:=Tr.br1 h
  cases hv
  obtain ⟨rfl,rfl,w1,w2,hs⟩:=propB_eq hc
  refine ⟨⟨.inr rfl,.inr rfl,.inr rfl,.inr rfl,.inr rfl,.inr rfl,.inr rfl,.inr rfl,.inl rfl,.inr rfl,trivial⟩,rfl,rfl,pBig7,60,pBig7_ok hT hG,(run151 _ _ f _ _ g).trans ?_⟩
  unfold tree151
  obtain ⟨a1,a2,a3⟩:=isW_eq w1
  obtain ⟨b1,b2,b3⟩:=isW_eq w2
  have hg:numF g=g:=by rw [b2]; exact numF_wf b3
  rw [hg,sumC_add,sumC_sub,sumC_sub]
  unfold plusR
  have hle:∀ a b:Nat,wn b≤232→a≤b→wn a≤232:=fun a b h1 h2=>wn_le (Nat.lt_of_le_of_lt h2 (wn_lt_iff.1 h1))
  have hb:decide (beyR n n' f g ≥ 0)=decide (valW n' g≤valW n f):=by
   have:=beyR_ge a3 b3
   rwa [← a1,← a2,← b1,← b2] at this
  have q1:okC2 1 0 n f n' g (valW n f+valW n' g):=⟨w1,w2,⟨by omega,by omega⟩,Int.le_refl _,by omega,hs,by rw [show (0:Int).toNat=0 from rfl,Nat.pow_zero]; omega⟩
  rw [show propB (232=232∧232=232∧okC2 1 0 n f n' g (valW n f+valW n' g))=true from propB_true ⟨rfl,rfl,q1⟩,show propB (0≤n∧n≤232∧232=232∧232=232)=true from propB_true ⟨by omega,by omega,rfl,rfl⟩,hb]
  have h3:wn (valW n' g - valW n f)≤232:=hle _ _ b3 (Nat.sub_le _ _)
  rw [numF_wf h3]
  cases hl:lb == lb' with
  | true=>rfl
  | false =>
   by_cases hle2:valW n' g≤valW n f
   ·have q2:okC2 (-1) 0 n f n' g (valW n f - valW n' g):=⟨w1,w2,⟨by omega,by omega⟩,Int.le_refl _,by omega,hle _ _ a3 (Nat.sub_le _ _),by rw [show (0:Int).toNat=0 from rfl,Nat.pow_zero]; omega⟩
    rw [decide_eq_true hle2,show propB (232=232∧232=232∧okC2 (-1) 0 n f n' g (valW n f - valW n' g))=true from propB_true ⟨rfl,rfl,q2⟩]
    rfl
   ·have q3:okC2 (-1) 0 n' g n f (valW n' g - valW n f):=⟨w2,w1,⟨by omega,by omega⟩,Int.le_refl _,by omega,h3,by rw [show (0:Int).toNat=0 from rfl,Nat.pow_zero]; omega⟩
    rw [decide_eq_false hle2,show propB (232=232∧232=232∧okC2 (-1) 0 n' g n f (valW n' g - valW n f))=true from propB_true ⟨rfl,rfl,q3⟩]
    rfl
 ·cases h
noncomputable def code110:Code:=f110.body.getD .skip
noncomputable def bodyP:Code:=unLoop (findB 0 code110)
def spP:SP:=⟨[pW 8,pW 9,.drop,.drop,.drop,pW 10]++dr 15++[.int .i64,.int .i64]++dr 14,dd8++[opW,opW,opW]⟩
def lf3 (l:Bool) (n:Int) (f:Nat→Int) (l':Bool) (n':Int) (g:Nat→Int) (lq:Bool) (nq:Int) (fq:Nat→Int):List Lf :=
 [.b l,.i n,.n 232,.f f,.b l',.i n',.n 232,.f g,.b lq,.i nq,.n 232,.f fq]
section
variable (c i:Int) (l:Bool) (n:Int) (f:Nat→Int) (l':Bool) (n':Int) (g:Nat→Int) (lq:Bool) (nq:Int) (fq:Nat→Int)
def lfP:List Lf:=.i c :: .i i :: lf3 l n f l' n' g lq nq fq
theorem roundP:execK prog (runK prog pBig7 60) noBps bodyP (spP.rho (lfP c i l n f l' n' g lq nq fq)) (spP.heap (lfP c i l n f l' n' g lq nq fq)) (nrmP (fun _=>spP) 11 [10]) =
  brK (decide (i < c)) (brK (decide (0≤i∧i < 232)) (brK (decide (i.toNat < 232)) (brK (propB (232=232∧232=232∧okC2 (g i.toNat) i nq fq n f (sumC (g i.toNat) i nq fq n f)))
   (some (.normal,lfP c (W (i+1)) l n f l' n' g lq (wn (sumC (g i.toNat) i nq fq n f)) (wf (sumC (g i.toNat) i nq fq n f)))) none) none) none)
   (some (.exit 0,lfP c i l n f l' n' g lq nq fq)):=by kernel_rfl
end
def lfM (l l':Bool) (X Y i:Nat):List Lf:=lfP (wn Y) i l (wn X) (wf X) l' (wn Y) (wf Y) (l != l') (wn (X*(Y % BB ^ i))) (wf (X*(Y % BB ^ i)))
theorem roundP_step {l l':Bool} {X Y i:Nat} (hXY:wn X+wn Y≤232) (hi:i < wn Y) :
  execK prog (runK prog pBig7 60) noBps bodyP (spP.rho (lfM l l' X Y i)) (spP.heap (lfM l l' X Y i)) (nrmP (fun _=>spP) 11 [10])=some (.normal,lfM l l' X Y (i+1)):=by
 have hB:BB=1000000000:=rfl
 have hw:=wd_lt Y i
 have hprod:∀ k,wn (X*(Y % BB ^ k))≤232:=fun k=>by
  refine wn_le ?_
  have h1:X*(Y % BB ^ k)≤X*Y:=Nat.mul_le_mul_left _ (Nat.mod_le _ _)
  have h2:X*Y < BB ^ (wn X+wn Y):=by
   rw [Nat.pow_add]
   exact Nat.mul_lt_mul'' (lt_wn X) (lt_wn Y)
  have h3:BB ^ (wn X+wn Y)≤BB ^ 232:=Nat.pow_le_pow_right (by decide) hXY
  exact Nat.lt_of_le_of_lt h1 (Nat.lt_of_lt_of_le h2 h3)
 have hstep:X*(Y % BB ^ (i+1))=X*(Y % BB ^ i)+wd Y i*X*BB ^ i:=by
  rw [mod_succ,Nat.mul_add]
  congr 1
  rw [← Nat.mul_assoc,Nat.mul_comm X]
 have hS:((X*(Y % BB ^ (i+1)):Nat):Int)=((X*(Y % BB ^ i):Nat):Int)+(wd Y i:Int)*(X:Int)*((BB ^ i:Nat):Int):=by
  rw [hstep]; push_cast; rfl
 have hsum:sumC (wf Y ((i:Nat):Int).toNat) (i:Int) (wn (X*(Y % BB ^ i))) (wf (X*(Y % BB ^ i))) (wn X) (wf X)=X*(Y % BB ^ (i+1)):=by
  unfold sumC
  rw [valW_wf,valW_wf,Int.toNat_natCast]
  show (((X*(Y % BB ^ i):Nat):Int)+(wd Y i:Int)*(X:Int)*((BB ^ i:Nat):Int)).toNat=_
  rw [← hS,Int.toNat_natCast]
 unfold lfM
 rw [roundP,hsum]
 have e1:W ((i:Int)+1)=((i+1:Nat):Int):=by rw [W,wrap64 (by omega) (by omega)]; omega
 have q:okC2 (wf Y ((i:Nat):Int).toNat) i (wn (X*(Y % BB ^ i))) (wf (X*(Y % BB ^ i))) (wn X) (wf X) (X*(Y % BB ^ (i+1))):=by
  refine ⟨isW_wf (hprod i),isW_wf (by omega),?_,by omega,by omega,hprod _,?_⟩
  ·rw [Int.toNat_natCast]; simp only [wf]; omega
  ·rw [valW_wf,valW_wf,Int.toNat_natCast]; exact hS
 rw [show propB (232=232∧232=232∧okC2 (wf Y ((i:Nat):Int).toNat) i (wn (X*(Y % BB ^ i))) (wf (X*(Y % BB ^ i))) (wn X) (wf X) (X*(Y % BB ^ (i+1))))=true from propB_true ⟨rfl,rfl,q⟩,
  e1,decide_eq_true (show (i:Int) < (wn Y:Int) by omega),decide_eq_true (show 0≤(i:Int)∧(i:Int) < 232 by omega),Int.toNat_natCast,decide_eq_true (show i < 232 by omega)]
 rfl
noncomputable def hookQ:Blk:=hookP spP 11 [10] fun
 | [.i c,.i i,.b l,.i n,.n m,.f f,.b l',.i n',.n m',.f g,.b lq,.i nq,.n mq,.f fq] =>
  .br (propB (m=232∧m'=232∧mq=232∧c=n'∧i=0∧lq=(l != l')∧nq=0∧(fq=fun _=>0)∧isW n f∧isW n' g∧n+n'≤232)) (.leaf (.normal,spP,lfM l l' (valW n f) (valW n' g) (wn (valW n' g)))) .fail
 | _=>.fail
noncomputable def pBigQ:Prims:=pBig8.addb 110 0 hookQ
theorem pBigQ_ok {A:Amb} (hT:Tab A) (hG:prog.globals.size≤A.G):PrimOK prog A pBigQ:=by
 have hp:=pBig7_ok hT hG
 refine PrimOK.addbP (pBig8_ok hT hG) func110 (show f110.body=some code110 by kernel_rfl) (body:=.loop bodyP) (by kernel_rfl) (by kernel_rfl) fun ls e sq l h=>?_
 split at h
 ·rename_i c i lb n m f lb' n' m' g lq nq mq fq
  obtain ⟨hc,hv⟩:=Tr.br1 h
  cases hv
  obtain ⟨rfl,rfl,rfl,rfl,rfl,rfl,rfl,rfl,w1,w2,hn⟩:=propB_eq hc
  obtain ⟨a1,a2,a3⟩:=isW_eq w1
  obtain ⟨b1,b2,b3⟩:=isW_eq w2
  generalize hX:valW n f=X at *
  generalize hYY:valW c g=Y at *
  subst a1 a2 b1 b2
  refine ⟨⟨.inr rfl,.inr rfl,.inr rfl,.inr rfl,.inr rfl,.inr rfl,.inr rfl,.inr rfl,.inr rfl,.inr rfl,.inl rfl,trivial⟩,fun Bb hB=>SEB.block_exit (id:=0) ?_⟩
  have e0:(⟨spP.rho [.i (wn Y:Int),.i 0,.b lb,.i (wn X:Int),.n 232,.f (wf X),.b lb',.i (wn Y:Int),.n 232,.f (wf Y),.b (lb != lb'),.i 0,.n 232,.f fun _=>0],
    spP.heap [.i (wn Y:Int),.i 0,.b lb,.i (wn X:Int),.n 232,.f (wf X),.b lb',.i (wn Y:Int),.n 232,.f (wf Y),.b (lb != lb'),.i 0,.n 232,.f fun _=>0],[10]⟩:St) =
    ⟨spP.rho (lfM lb lb' X Y 0),spP.heap (lfM lb lb' X Y 0),[10]⟩:=by
   unfold lfM lfP lf3
   rw [Nat.pow_zero,Nat.mod_one,Nat.mul_zero,wf_zero,wn_zero]
   rfl
  rw [e0]
  refine SEB.loop_nat (A:=A) (B0:=Bb) (c:=bodyP) (I:=fun i=>⟨spP.rho (lfM lb lb' X Y i),spP.heap (lfM lb lb' X Y i),[10]⟩) (N:=wn Y)
   (fun i hi=>SEB.of_KP (e:=.normal) hmix hnum hp (.none _) hB (roundP_step (by omega) hi) rfl) ?_ (by simp) (i:=0) (Nat.zero_le _)
  have hk:execK prog (runK prog pBig7 60) noBps bodyP (spP.rho (lfM lb lb' X Y (wn Y))) (spP.heap (lfM lb lb' X Y (wn Y))) (nrmP (fun _=>spP) 11 [10])=some (.exit 0,lfM lb lb' X Y (wn Y)):=by
   unfold lfM
   rw [roundP,decide_eq_false (show ¬ (wn Y:Int) < (wn Y:Int) by omega)]
   rfl
  exact SEB.of_KP (e:=.exit 0) hmix hnum hp (.none _) hB hk rfl
 ·cases h
def sp3p:SP:=⟨[pW 10],dd8++[opW,opW,opW]⟩
noncomputable def T110:List Lf→Tr (SP × List Lf)
 | [.b l,.i n,.n m,.f f,.b l',.i n',.n m',.f g]=>.br (propB (m=232∧m'=232∧isW n f∧isW n' g∧n+n'≤232))
  (.leaf (sp3p,lf3 l n f l' n' g (l != l') (wn (valW n f*valW n' g)) (wf (valW n f*valW n' g)))) .fail
 | _=>.fail
noncomputable def tree110 (l:Bool) (n:Int) (f:Nat→Int) (l':Bool) (n':Int) (g:Nat→Int) (X Y:Nat):Option (List Lf) :=
 brK (propB (232=232∧232=232∧232=232∧n'=n'∧(0:Int)=0∧(l != l')=(l != l')∧(0:Int)=0∧((fun _=>0:Nat→Int)=fun _=>0)∧isW n f∧isW n' g∧n+n'≤232))
  (some (lf3 l (wn X) (wf X) l' (wn Y) (wf Y) (l != l') (wn (X*(Y % BB ^ wn Y))) (wf (X*(Y % BB ^ wn Y))))) none
theorem run110 (l:Bool) (n:Int) (f:Nat→Int) (l':Bool) (n':Int) (g:Nat→Int):(runK prog pBigQ 60).call 110 (sp2.rho (lf2 l n f l' n' g)) (sp2.heap (lf2 l n f l' n' g)) (finP sp3p 10 []) =
  tree110 l n f l' n' g (valW n f) (valW n' g):=by kernel_rfl
noncomputable def pBig9:Prims:=pBig8.addh 110 (liftG 8 (funP sp2 10 [] T110))
theorem pBig9_ok {A:Amb} (hT:Tab A) (hG:prog.globals.size≤A.G):PrimOK prog A pBig9:=by
 refine (pBig8_ok hT hG).addl gsz func110 (by kernel_rfl) (funP_ok hmix hnum rfl fun ls sq l h=>?_)
 unfold T110 at h
 split at h
 ·rename_i lb n m f lb' n' m' g
  obtain ⟨hc,hv⟩:=Tr.br1 h
  cases hv
  obtain ⟨rfl,rfl,w1,w2,hn⟩:=propB_eq hc
  refine ⟨⟨.inr rfl,.inr rfl,.inr rfl,.inr rfl,.inr rfl,.inr rfl,.inr rfl,.inr rfl,.inr rfl,.inr rfl,trivial⟩,rfl,rfl,pBigQ,60,pBigQ_ok hT hG,(run110 _ _ f _ _ g).trans ?_⟩
  unfold tree110
  obtain ⟨a1,a2,a3⟩:=isW_eq w1
  obtain ⟨b1,b2,b3⟩:=isW_eq w2
  rw [propB_true (show _∧_ from ⟨rfl,rfl,rfl,rfl,rfl,rfl,rfl,rfl,w1,w2,hn⟩),← a1,← a2,← b1,← b2]
  rw [show valW n' g % BB ^ wn (valW n' g)=valW n' g from Nat.mod_eq_of_lt (lt_wn _)]
  rfl
 ·cases h
end Go.Proofs.Tryz
namespace Go.Proofs.Tryz
open Go.Ad
open Go.Lib (decDigits itoa)
noncomputable def code109:Code:=f109.body.getD .skip
noncomputable def bodyR:Code:=unLoop (findB 0 code109)
def spR:SP:=⟨[.drop,.drop,.drop,.str,pW 8]++dr 43,dd8++[opW]⟩
def lfR (s:List UInt8) (l:Bool) (n:Int) (f:Nat→Int):List Lf:=[.s s,.b l,.i n,.n 232,.f f]
abbrev frR (s:List UInt8):Int:=if W ((s.length:Int) - 9) > 0 then W ((s.length:Int) - 9) else 0
theorem roundR0 (s:List UInt8) (l:Bool) (n:Int) (f:Nat→Int):execK prog (runK prog lib2 60) noBps bodyR (spR.rho (lfR s l n f)) (spR.heap (lfR s l n f)) (nrmP (fun _=>spR) 9 [8]) =
  brK (decide ((s.length:Int) > 0)) (brK (true && decide (0≤frR s∧frR s≤(s.length:Int))) (brK (decide (((s.take s.length).drop (frR s).toNat).length≤18) && (Lib.atoi ((s.take s.length).drop (frR s).toNat)).isSome) (brK (decide (0≤n∧n < 232)) (brK (decide (n.toNat < 232)) (brK (decide (0≤frR s∧frR s≤(s.length:Int)) && true)
  (some (.normal,[.s ((s.take (frR s).toNat).drop 0),.b l,.i (W (n+1)),.n 232,.f (updF f n.toNat ((Lib.atoi ((s.take s.length).drop (frR s).toNat)).getD 0))])) none) none) none) none) none) (some (.exit 0,[.s s,.b l,.i n,.n 232,.f f])):=by kernel_rfl
theorem roundR_step {V k:Nat} {l:Bool} (hV:wn V≤232) (h:k < kEnd V):execK prog (runK prog lib2 60) noBps bodyR (spR.rho (lfR (sR V k) l k (gI V k))) (spR.heap (lfR (sR V k) l k (gI V k))) (nrmP (fun _=>spR) 9 [8]) =
  some (.normal,lfR (sR V (k+1)) l ((k+1:Nat):Int) (gI V (k+1))):=by
 obtain ⟨c,c1,c2,c3,c4,c5⟩:=sR_step h
 have hk:k < 232:=by
  unfold kEnd at h
  split at h
  ·omega
  ·omega
 have hne:0 < (sR V k).length:=by
  rw [sR_more h]
  have:=dec_ne (V / BB ^ k)
  cases hh:decDigits (V / BB ^ k) with
  | nil=>exact (this hh).elim
  | cons a b=>simp
 have hlen:(sR V k).length≤2088:=by
  rw [sR_more h]
  exact dec_len (wn_le (Nat.lt_of_le_of_lt (Nat.div_le_self _ _) (wn_lt_iff.1 hV)))
 have hf:frR (sR V k)=(c:Int):=by
  unfold frR
  rw [W,wrap64 (by omega) (by omega)]
  split <;> omega
 have e1:W ((k:Int)+1)=((k+1:Nat):Int):=by rw [W,wrap64 (by omega) (by omega)]; omega
 show execK prog (runK prog lib2 60) noBps bodyR (spR.rho (lfR (sR V k) l ((k:Nat):Int) (gI V k))) (spR.heap (lfR (sR V k) l ((k:Nat):Int) (gI V k))) (nrmP (fun _=>spR) 9 [8])=_
 rw [roundR0,hf,Int.toNat_natCast,List.take_length]
 rw [c5,Int.toNat_natCast,c3,e1,decide_eq_true (show ((sR V k).length:Int) > 0 by omega),decide_eq_true (show 0≤(c:Int)∧(c:Int)≤((sR V k).length:Int) by omega),decide_eq_true (show ((sR V k).drop c).length≤18 by omega),decide_eq_true (show 0≤(k:Int)∧(k:Int) < 232 by omega),decide_eq_true hk]
 simp only [Option.getD_some,List.drop_zero]
 rw [gI_succ]
 rfl
noncomputable def hookR:Blk:=hookP spR 9 [8] fun
 | [.s s,.b l,.i n,.n m,.f f]=>.br (propB (n=0∧m=232∧(f=fun _=>0)∧s=decDigits (dvalN s)∧wn (dvalN s)≤232)) (.leaf (.normal,spR,lfR [] l (kEnd (dvalN s)) (wf (dvalN s)))) .fail
 | _=>.fail
noncomputable def pBigR:Prims:=pBig9.addb 109 0 hookR
theorem pBigR_ok {A:Amb} (hT:Tab A) (hG:prog.globals.size≤A.G):PrimOK prog A pBigR:=by
 have hp:=lib2_ok hT
 refine PrimOK.addbP (pBig9_ok hT hG) func109 (show f109.body=some code109 by kernel_rfl) (body:=.loop bodyR) (by kernel_rfl) (by kernel_rfl) fun ls e sq l h=>?_
 split at h
 ·rename_i s lb n m f
  obtain ⟨hc,hv⟩:=Tr.br1 h
  cases hv
  obtain ⟨rfl,rfl,rfl,hs,hn⟩:=propB_eq hc
  generalize hV:dvalN s=V at *
  subst hs
  refine ⟨⟨.inr rfl,.inr rfl,.inr rfl,.inr rfl,.inr rfl,.inr rfl,.inr rfl,.inr rfl,.inl rfl,trivial⟩,fun Bb hB=>SEB.block_exit (id:=0) ?_⟩
  have e0:(⟨spR.rho [.s (decDigits V),.b lb,.i 0,.n 232,.f fun _=>0],spR.heap [.s (decDigits V),.b lb,.i 0,.n 232,.f fun _=>0],[8]⟩:St)=⟨spR.rho (lfR (sR V 0) lb (0:Nat) (gI V 0)),spR.heap (lfR (sR V 0) lb (0:Nat) (gI V 0)),[8]⟩:=by
   rw [gI_zero]; rfl
  have e1:(⟨spR.rho (lfR [] lb (kEnd V) (wf V)),spR.heap (lfR [] lb (kEnd V) (wf V)),[8]⟩:St)=⟨spR.rho (lfR (sR V (kEnd V)) lb (kEnd V) (gI V (kEnd V))),spR.heap (lfR (sR V (kEnd V)) lb (kEnd V) (gI V (kEnd V))),[8]⟩:=by
   rw [gI_end (kEnd_ge V),sR_end]
  rw [e0,e1]
  have hk:execK prog (runK prog lib2 60) noBps bodyR (spR.rho (lfR (sR V (kEnd V)) lb (kEnd V) (gI V (kEnd V)))) (spR.heap (lfR (sR V (kEnd V)) lb (kEnd V) (gI V (kEnd V)))) (nrmP (fun _=>spR) 9 [8])=some (.exit 0,lfR (sR V (kEnd V)) lb (kEnd V) (gI V (kEnd V))):=by
   rw [sR_end,roundR0]; rfl
  exact SEB.loop_nat (A:=A) (B0:=Bb) (c:=bodyR) (I:=fun i=>⟨spR.rho (lfR (sR V i) lb i (gI V i)),spR.heap (lfR (sR V i) lb i (gI V i)),[8]⟩) (N:=kEnd V)
   (fun i hi=>SEB.of_KP (e:=.normal) hmix hnum hp (.none _) hB (roundR_step hn hi) rfl) (SEB.of_KP (e:=.exit 0) hmix hnum hp (.none _) hB hk rfl) (by simp) (i:=0) (Nat.zero_le _)
 ·cases h
def spS1:SP:=⟨[.str],dd8⟩
noncomputable def T109:List Lf→Tr (SP × List Lf)
 | [.s a]=>.br (propB (isZ a∧wn (dvalZ a).natAbs≤232)) (.leaf (spW1,lfT (decide (dvalZ a < 0)) (wn (dvalZ a).natAbs) (wf (dvalZ a).natAbs))) .fail
 | _=>.fail
noncomputable def endR (l:Bool) (s:List UInt8):Option (List Lf) :=
 brK (propB ((0:Int)=0∧232=232∧((fun _=>0:Nat→Int)=fun _=>0)∧s=decDigits (dvalN s)∧wn (dvalN s)≤232))
  (brK (propB (0≤(kEnd (dvalN s):Int)∧(kEnd (dvalN s):Int)≤232∧232=232)) (some (lfT l (trimN (kEnd (dvalN s):Int).toNat (wf (dvalN s))) (wf (dvalN s)))) none) none
noncomputable def tree109 (a:List UInt8) (l:Bool):Option (List Lf) :=
 brK (decide ((0:Int)≤0∧(0:Int) < (a.length:Int))) (brK (decide ((a.length:Int) ≥ 1)) (brK (decide ((0:Int)≤1∧(1:Int)≤(a.length:Int)) && true) (brK ((a.take 1).drop 0 == [45])
  (brK (true && decide ((0:Int)≤1∧(1:Int)≤(a.length:Int))) (endR l ((a.take a.length).drop 1)) none) (endR l a)) none) (endR l a)) none
theorem run109 (a:List UInt8):(runK prog pBigR 60).call 109 (spS1.rho [.s a]) (spS1.heap [.s a]) (finP spW1 8 [])=tree109 a (((a.getD 0 0).toNat:Int) == 45):=by kernel_rfl
theorem endR_eq {l:Bool} {V:Nat} (h:wn V≤232):endR l (decDigits V)=some (lfT l (wn V) (wf V)):=by
 unfold endR
 rw [dvalN_dec,propB_true (show _∧_ from ⟨rfl,rfl,rfl,rfl,h⟩),Int.toNat_natCast,trimN_wf _ _ (kEnd_ge V)]
 have hk:kEnd V≤232:=by unfold kEnd; split <;> omega
 rw [propB_true (show _∧_ from ⟨by omega,by omega,rfl⟩)]
 rfl
noncomputable def pBig10:Prims:=pBig9.addh 109 (liftG 8 (funP spS1 8 [] T109))
theorem pBig10_ok {A:Amb} (hT:Tab A) (hG:prog.globals.size≤A.G):PrimOK prog A pBig10:=by
 refine (pBig9_ok hT hG).addl gsz func109 (by kernel_rfl) (funP_ok hmix hnum rfl fun ls sq l h=>?_)
 unfold T109 at h
 split at h
 ·rename_i a
  obtain ⟨hc,hv⟩:=Tr.br1 h
  cases hv
  obtain ⟨hz,hn⟩:=propB_eq hc
  refine ⟨⟨.inr rfl,.inr rfl,.inr rfl,.inr rfl,.inr rfl,.inr rfl,.inr rfl,.inr rfl,trivial⟩,rfl,rfl,pBigR,60,pBigR_ok hT hG,(run109 a).trans ?_⟩
  unfold isZ at hz
  generalize hZ:dvalZ a=Z at *
  subst hz
  have hl:0 < (itoa Z).length:=by
   cases hh:itoa Z with
   | nil=>exact (itoa_ne Z hh).elim
   | cons x y=>simp
  rw [itoa_head]
  unfold tree109
  rw [decide_eq_true (show (0:Int)≤0∧(0:Int) < ((itoa Z).length:Int) by omega),decide_eq_true (show ((itoa Z).length:Int) ≥ 1 by omega),decide_eq_true (show (0:Int)≤1∧(1:Int)≤((itoa Z).length:Int) by omega),List.take_length]
  have habs:=itoa_abs Z
  by_cases h0:Z < 0
  ·rw [if_pos h0] at habs
   have:((itoa Z).take 1).drop 0=[45]:=by unfold itoa; rw [if_pos h0]; rfl
   rw [this,habs,endR_eq hn]
   rfl
  ·rw [if_neg h0] at habs
   have:(((itoa Z).take 1).drop 0 == [45])=false:=by
    have hh:=itoa_head Z
    rw [decide_eq_false h0] at hh
    cases hi:itoa Z with
    | nil=>exact (itoa_ne Z hi).elim
    | cons x y =>
     rw [hi] at hh
     simp only [List.take_succ_cons,List.take_zero,List.drop_zero]
     rw [beq_eq_false_iff_ne] at hh ⊢
     intro e
     cases e
     exact hh rfl
   rw [this,habs,endR_eq hn]
   rfl
 ·cases h
end Go.Proofs.Tryz
namespace Go.Proofs.Tryz
open Go.Ad
open Go.Lib (decDigits itoa)
def gAlt (g1 g2:List AV→Heap→Tr (AV × Heap × List Nat)):List AV→Heap→Tr (AV × Heap × List Nat):=fun args B =>
 match g1 args B with
 | .fail=>g2 args B
 | t=>t
theorem gAlt_get {g1 g2:List AV→Heap→Tr (AV × Heap × List Nat)} {args:List AV} {B:Heap} {y:AV × Heap × List Nat} (h:(gAlt g1 g2 args B).get=some y):(g1 args B).get=some y ∨ (g2 args B).get=some y:=by
 unfold gAlt at h
 split at h
 ·exact .inr h
 ·exact .inl h
def selfB (b:Nat):AV:=.ptr (some (b,0))
def opB (ad:AV) (b:Nat):OP:=.cells [.is ad,.list b] 0 true 79
def spWS (ad:AV):SP:=⟨[pW 8,.str],dd8++[opB ad 9,.text 5]⟩
def sqWS:SP:=⟨[.int .i64,.is .nilIface],dd8++[opB (selfB 8) 9,.text 5]⟩
def sqWS2:SP:=⟨[.int .i64,.is .nilIface],dd8++[opB (selfB 8) 10,.dead,.text 5]⟩
def TWS (sq:SP):List Lf→Tr (SP × List Lf)
 | [.s u,.n n,.s s]=>.br (decide (n=s.length) && decide (n+u.length < 2147483648)) (.leaf (sq,[.i u.length,.n (n+u.length),.s (s++u)])) .fail
 | _=>.fail
theorem runWS9a (u s:List UInt8) (n:Nat):(runK prog lib2 60).call 53 ((spWS (.ptr none)).rho [.s u,.n n,.s s]) ((spWS (.ptr none)).heap [.s u,.n n,.s s]) (finQ sqWS 9 [8,9]) =
  brK (true && decide (n=s.length∧n+u.length < 2147483648)) (some [.i u.length,.n (n+u.length),.s (s++u)]) none:=by kernel_rfl
theorem runWS9b (u s:List UInt8) (n:Nat):(runK prog lib2 60).call 53 ((spWS (selfB 8)).rho [.s u,.n n,.s s]) ((spWS (selfB 8)).heap [.s u,.n n,.s s]) (finQ sqWS 9 [8,9]) =
  brK (true && decide (n=s.length∧n+u.length < 2147483648)) (some [.i u.length,.n (n+u.length),.s (s++u)]) none:=by kernel_rfl
theorem runWS10 (u s:List UInt8) (n:Nat):(runK prog lib2 60).call 53 ((spWS (selfB 8)).rho [.s u,.n n,.s s]) ((spWS (selfB 8)).heap [.s u,.n n,.s s]) (finQ sqWS2 10 [8,9]) =
  brK (true && decide (n=s.length∧n+u.length < 2147483648)) (some [.i u.length,.n (n+u.length),.s (s++u)]) none:=by kernel_rfl
def spWB (ad:AV):SP:=⟨[pW 8,.int .u8],dd8++[opB ad 9,.text 5]⟩
def sqWB:SP:=⟨[.is .nilIface],dd8++[opB (selfB 8) 9,.text 5]⟩
def sqWB2:SP:=⟨[.is .nilIface],dd8++[opB (selfB 8) 10,.dead,.text 5]⟩
def TWB (sq:SP):List Lf→Tr (SP × List Lf)
 | [.i c,.n n,.s s]=>.br ((decide (0≤c) && decide (c < 256)) && (decide (n=s.length) && decide (n+1 < 2147483648))) (.leaf (sq,[.n (n+1),.s (s++[Nat.toUInt8 c.toNat])])) .fail
 | _=>.fail
theorem runWB9a (c:Int) (s:List UInt8) (n:Nat):(runK prog lib2 60).call 52 ((spWB (.ptr none)).rho [.i c,.n n,.s s]) ((spWB (.ptr none)).heap [.i c,.n n,.s s]) (finP sqWB 9 [8,9]) =
  brK (decide (0≤c∧c < 256) && decide (n=s.length∧n+1 < 2147483648)) (some [.n (n+1),.s (s++[Nat.toUInt8 c.toNat])]) none:=by kernel_rfl
theorem runWB9b (c:Int) (s:List UInt8) (n:Nat):(runK prog lib2 60).call 52 ((spWB (selfB 8)).rho [.i c,.n n,.s s]) ((spWB (selfB 8)).heap [.i c,.n n,.s s]) (finP sqWB 9 [8,9]) =
  brK (decide (0≤c∧c < 256) && decide (n=s.length∧n+1 < 2147483648)) (some [.n (n+1),.s (s++[Nat.toUInt8 c.toNat])]) none:=by kernel_rfl
theorem runWB10 (c:Int) (s:List UInt8) (n:Nat):(runK prog lib2 60).call 52 ((spWB (selfB 8)).rho [.i c,.n n,.s s]) ((spWB (selfB 8)).heap [.i c,.n n,.s s]) (finP sqWB2 10 [8,9]) =
  brK (decide (0≤c∧c < 256) && decide (n=s.length∧n+1 < 2147483648)) (some [.n (n+1),.s (s++[Nat.toUInt8 c.toNat])]) none:=by kernel_rfl
def gWS:List AV→Heap→Tr (AV × Heap × List Nat):=gAlt (funQ (spWS (.ptr none)) 9 [8,9] (TWS sqWS)) (gAlt (funQ (spWS (selfB 8)) 9 [8,9] (TWS sqWS)) (funQ (spWS (selfB 8)) 10 [8,9] (TWS sqWS2)))
def gWB:List AV→Heap→Tr (AV × Heap × List Nat):=gAlt (funP (spWB (.ptr none)) 9 [8,9] (TWB sqWB)) (gAlt (funP (spWB (selfB 8)) 9 [8,9] (TWB sqWB)) (funP (spWB (selfB 8)) 10 [8,9] (TWB sqWB2)))
noncomputable def pBig11:Prims:=(pBig10.addh 53 (liftG 8 gWS)).addh 52 (liftG 8 gWB)
section
variable {A:Amb} (hT:Tab A) (hG:prog.globals.size≤A.G)
include hT hG
theorem pBig11_ok:PrimOK prog A pBig11:=by
 have hp:=lib2_ok hT
 have ws:∀ ad m sq0,okD m [8,9] 0 (spWS ad).h=true→okD m [8,9] 0 sq0.h=true→(∀ s n u k,frP [8,9] 0 ((spWS ad).heap [.s u,.n n,.s s]) (sq0.heap [.i (u.length:Int),.n k,.s (s++u)]))→(∀ u s n,(runK prog lib2 60).call 53 ((spWS ad).rho [.s u,.n n,.s s]) ((spWS ad).heap [.s u,.n n,.s s]) (finQ sq0 m [8,9])=brK (true && decide (n=s.length∧n+u.length < 2147483648)) (some [.i u.length,.n (n+u.length),.s (s++u)]) none) →
   ∀ args B v B' D,(funQ (spWS ad) m [8,9] (TWS sq0) args B).get=some (v,B',D)→AFr B B' D∧CallT prog A 53 args B v B' D:=fun ad m sq0 ok1 ok2 hfr hr=>funQ_ok hmix hnum ok1 fun ls sq l h=>by
  unfold TWS at h
  split at h
  ·rename_i u n s
   obtain ⟨hc,hv⟩:=Tr.br1 h
   cases hv
   rw [Bool.and_eq_true,decide_eq_true_eq,decide_eq_true_eq] at hc
   refine ⟨hfr _ _ _ _,ok2,lib2,60,_,hp,(hr u s n).trans ?_,fun _ _=>.refl⟩
   rw [decide_eq_true (show n=s.length∧n+u.length < 2147483648 from hc)]; rfl
  ·cases h
 have wb:∀ ad m sq0,okD m [8,9] 0 (spWB ad).h=true→okD m [8,9] 0 sq0.h=true→sq0.t.length=1→(∀ s n (c:Int) k,frP [8,9] 0 ((spWB ad).heap [.i c,.n n,.s s]) (sq0.heap [.n k,.s (s++[Nat.toUInt8 c.toNat])]))→(∀ c s n,(runK prog lib2 60).call 52 ((spWB ad).rho [.i c,.n n,.s s]) ((spWB ad).heap [.i c,.n n,.s s]) (finP sq0 m [8,9])=brK (decide (0≤c∧c < 256) && decide (n=s.length∧n+1 < 2147483648)) (some [.n (n+1),.s (s++[Nat.toUInt8 c.toNat])]) none) →
   ∀ args B v B' D,(funP (spWB ad) m [8,9] (TWB sq0) args B).get=some (v,B',D)→AFr B B' D∧CallT prog A 52 args B v B' D:=fun ad m sq0 ok1 ok2 hl hfr hr=>funP_ok hmix hnum ok1 fun ls sq l h=>by
  unfold TWB at h
  split at h
  ·rename_i c n s
   obtain ⟨hc,hv⟩:=Tr.br1 h
   cases hv
   simp only [Bool.and_eq_true,decide_eq_true_eq] at hc
   refine ⟨hfr _ _ _ _,ok2,hl,lib2,60,hp,(hr c s n).trans ?_⟩
   rw [decide_eq_true (show 0≤c∧c < 256 from hc.1),decide_eq_true (show n=s.length∧n+1 < 2147483648 from hc.2)]; rfl
  ·cases h
 refine ((pBig10_ok hT hG).addl gsz func53 (by kernel_rfl) fun args B v B' D h=>?_).addl gsz func52 (by kernel_rfl) fun args B v B' D h=>?_
 ·rcases gAlt_get h with h | h
  ·exact ws (.ptr none) 9 sqWS rfl rfl (fun _ _ _ _=>⟨.inr rfl,.inr rfl,.inr rfl,.inr rfl,.inr rfl,.inr rfl,.inr rfl,.inr rfl,.inl rfl,.inl rfl,trivial⟩) runWS9a _ _ _ _ _ h
  ·rcases gAlt_get h with h | h
   ·exact ws (selfB 8) 9 sqWS rfl rfl (fun _ _ _ _=>⟨.inr rfl,.inr rfl,.inr rfl,.inr rfl,.inr rfl,.inr rfl,.inr rfl,.inr rfl,.inl rfl,.inl rfl,trivial⟩) runWS9b _ _ _ _ _ h
   ·exact ws (selfB 8) 10 sqWS2 rfl rfl (fun _ _ _ _=>⟨.inr rfl,.inr rfl,.inr rfl,.inr rfl,.inr rfl,.inr rfl,.inr rfl,.inr rfl,.inl rfl,.inl rfl,trivial⟩) runWS10 _ _ _ _ _ h
 ·rcases gAlt_get h with h | h
  ·exact wb (.ptr none) 9 sqWB rfl rfl rfl (fun _ _ _ _=>⟨.inr rfl,.inr rfl,.inr rfl,.inr rfl,.inr rfl,.inr rfl,.inr rfl,.inr rfl,.inl rfl,.inl rfl,trivial⟩) runWB9a _ _ _ _ _ h
  ·rcases gAlt_get h with h | h
   ·exact wb (selfB 8) 9 sqWB rfl rfl rfl (fun _ _ _ _=>⟨.inr rfl,.inr rfl,.inr rfl,.inr rfl,.inr rfl,.inr rfl,.inr rfl,.inr rfl,.inl rfl,.inl rfl,trivial⟩) runWB9b _ _ _ _ _ h
   ·exact wb (selfB 8) 10 sqWB2 rfl rfl rfl (fun _ _ _ _=>⟨.inr rfl,.inr rfl,.inr rfl,.inr rfl,.inr rfl,.inr rfl,.inr rfl,.inr rfl,.inl rfl,.inl rfl,trivial⟩) runWB10 _ _ _ _ _ h
end
end Go.Proofs.Tryz
