/- Numbers of any size: quotient and remainder. -/
import Derived.Test.YtkfabaoichndpaaGreatDoorBig1
import Derived.Test.YtkfabaoichndpaaGreatDoorAdNum
noncomputable section
namespace Go.Proofs.Tryz
open Go.Ad
def C7q:Code:=f119.body.getD .skip
def D0t:Code:=J3 (K6 2 C7q)
def C8y:Code:=J3 (K6 0 C7q)
def spV:SP:=⟨[pW 8,pW 9,.drop,.drop,.drop,.drop,pW 10,pW 11,.int .i64,.int .i64]++dr 80,dd8++[opW,opW,opW,opW]⟩
def spU:SP:=⟨[pW 8,pW 9,.drop,.drop,.drop,.drop,pW 10,pW 11,.int .i64]++dr 81,dd8++[opW,opW,opW,opW]⟩
def lf4 (l:Bool) (n:Int) (f:Nat->Int) (l':Bool) (n':Int) (g:Nat->Int) (lq:Bool) (nq:Int) (fq:Nat->Int) (lr:Bool) (nr:Int) (fr:Nat->Int):List Lf :=
 [.b l,.i n,.n 232,.f f,.b l',.i n',.n 232,.f g,.b lq,.i nq,.n 232,.f fq,.b lr,.i nr,.n 232,.f fr]
section
variable (i d:Int) (l:Bool) (n:Int) (f:Nat->Int) (l':Bool) (n':Int) (g:Nat->Int) (lq:Bool) (nq:Int) (fq:Nat->Int) (lr:Bool) (nr:Int) (fr:Nat->Int)
def lfV:List Lf:=.i i :: .i d :: lf4 l n f l' n' g lq nq fq lr nr fr
def lfU:List Lf:=.i i :: lf4 l n f l' n' g lq nq fq lr nr fr
theorem E9j:F3 prog (C9 prog pBig6 60) F8 D0t (spV.rho (lfV i d l n f l' n' g lq nq fq lr nr fr)) (spV.heap (lfV i d l n f l' n' g lq nq fq lr nr fr)) (H5 (fun _=>spV) 12 [11]) =
  brK (A9 (0<=nr/\nr<=232/\232=232/\232=232)) (brK (decide (D4r nr n' fr g >= 0)) (brK (A9 (232=232/\232=232/\okE nr fr n' g))
   (brK (A9 (232=232/\232=232/\B0e (W (0 - B6k nr fr n' g)) 0 nr fr n' g (A0k (W (0 - B6k nr fr n' g)) 0 nr fr n' g)))
    (some (.normal,lfV i (W (d+B6k nr fr n' g)) l n f l' n' g lq nq fq lr (wn (A0k (W (0 - B6k nr fr n' g)) 0 nr fr n' g)) (wf (A0k (W (0 - B6k nr fr n' g)) 0 nr fr n' g)))) none) none)
   (some (.exit 2,lfV i d l n f l' n' g lq nq fq lr nr fr))) none:=by kernel_rfl
end
section
variable {i:Int} {l:Bool} {n:Int} {f:Nat->Int} {l':Bool} {lq:Bool} {nq:Int} {fq:Nat->Int} {lr:Bool} {Y T d:Nat}
theorem D0a (hY:0 < Y) (hYn:wn Y<=231) (hle:Y<=T) (hlt:T < Y*BB) (hd:d+T / Y < BB):∃ k:Nat,1<=k/\k*Y<=T /\
  F3 prog (C9 prog pBig6 60) F8 D0t (spV.rho (lfV i d l n f l' (wn Y) (wf Y) lq nq fq lr (wn T) (wf T))) (spV.heap (lfV i d l n f l' (wn Y) (wf Y) lq nq fq lr (wn T) (wf T))) (H5 (fun _=>spV) 12 [11]) =
   some (.normal,lfV i ((d+k:Nat):Int) l n f l' (wn Y) (wf Y) lq nq fq lr (wn (T - k*Y)) (wf (T - k*Y))):=by
 obtain ⟨_,_,_,k,hk,k1,k2,k3⟩:=D6v hY hle hlt
 refine ⟨k,k1,k3,?_⟩
 have hB:BB=1000000000:=rfl
 have hTn:wn T<=232:=by
  refine A0a (Nat.lt_of_lt_of_le hlt ?_)
  have h1:Y*BB<=BB ^ 231*BB:=Nat.mul_le_mul_right _ (Nat.le_of_lt (C4j.1 hYn))
  exact h1
 have hkd:k<=T / Y:=(Nat.le_div_iff_mul_le hY).2 k3
 rw [E9j,hk]
 have wT:=M9 hTn
 have wY:=M9 (V:=Y) (by omega)
 have e1:W (0 - (k:Int))=-(k:Int):=by rw [W,wrap64 (by omega) (by omega)]; omega
 have e2:W ((d:Int)+k)=((d+k:Nat):Int):=by rw [W,wrap64 (by omega) (by omega)]; omega
 have hsub:((T - k*Y:Nat):Int)=(T:Int)+-(k:Int)*(Y:Int)*((BB ^ 0:Nat):Int):=by
  rw [Int.ofNat_sub k3]
  push_cast
  rw [Int.neg_mul]
  simp only [Int.pow_zero,Int.mul_one]
  omega
 have hsum:A0k (-(k:Int)) 0 (wn T) (wf T) (wn Y) (wf Y)=T - k*Y:=by
  unfold A0k
  rw [G8,G8,show (0:Int).toNat=0 from rfl,<- hsub,Int.toNat_natCast]
 rw [e1,e2,hsum,C6u hTn (by omega),dT hle]
 rw [A8 (show _/\_ from ⟨by omega,by omega,rfl,rfl⟩),A8 (show _/\_ from ⟨rfl,rfl,wT,wY,by rw [G8]; exact hY,by rw [G8,G8]; exact hle,by rw [G8,G8]; exact hlt⟩),
  A8 (show _/\_ from ⟨rfl,rfl,wT,wY,⟨by omega,by omega⟩,Int.le_refl _,by omega,A0a (Nat.lt_of_le_of_lt (Nat.sub_le _ _) (C4j.1 hTn)),by rw [G8,G8]; exact hsub⟩)]
 rfl
theorem C9b (hYn:wn Y<=231) (hT:T < Y) :
  F3 prog (C9 prog pBig6 60) F8 D0t (spV.rho (lfV i d l n f l' (wn Y) (wf Y) lq nq fq lr (wn T) (wf T))) (spV.heap (lfV i d l n f l' (wn Y) (wf Y) lq nq fq lr (wn T) (wf T))) (H5 (fun _=>spV) 12 [11]) =
   some (.exit 2,lfV i d l n f l' (wn Y) (wf Y) lq nq fq lr (wn T) (wf T)):=by
 have hTn:wn T<=231:=A0a (Nat.lt_trans hT (C4j.1 hYn))
 rw [E9j,C6u (by omega) (by omega),dF (show ¬ Y<=T by omega),A8 (show _/\_ from ⟨by omega,by omega,rfl,rfl⟩)]
 rfl
end
def C8q:Blk:=hookP spV 12 [11] fun
 | [.i i,.i d,.b l,.i n,.n m,.f f,.b l',.i n',.n m',.f g,.b lq,.i nq,.n mq,.f fq,.b lr,.i nr,.n mr,.f fr] =>
  .br (A9 (m=232/\m'=232/\mq=232/\mr=232/\d=0/\isW nr fr/\isW n' g/\n'<=231/\0 < E9 n' g/\E9 nr fr < E9 n' g*BB))
   (.leaf (.normal,spV,lfV i ((E9 nr fr / E9 n' g:Nat):Int) l n f l' n' g lq nq fq lr (wn (E9 nr fr % E9 n' g)) (wf (E9 nr fr % E9 n' g)))) .fail
 | _=>.fail
section
variable {A:Amb} (hT:Tab A) (hG:gN prog<=A.G)
include hT hG
theorem E4q:∀ ρ B e' ρ' B' D,(C8q ρ B).get=some (e',ρ',B',D)->AFr B B' D/\SEB prog A B (.block 2 (.loop D0t)) ⟨ρ,B,[]⟩ e' ⟨ρ',B',D⟩:=by
 have hp:=B8e hT hG
 refine O8 rfl fun ls e sq l h=>?_
 split at h
 ·rename_i i d lb n m f lb' n' m' g lq nq mq fq lr nr mr fr
  obtain ⟨hc,hv⟩:=Tr.br1 h
  cases hv
  obtain ⟨rfl,rfl,rfl,rfl,rfl,w1,w2,hYn,hY,hlt⟩:=D9 hc
  obtain ⟨a1,a2,a3⟩:=S9 w1
  obtain ⟨b1,b2,b3⟩:=S9 w2
  generalize hX:E9 nr fr=R at *
  generalize hYY:E9 n' g=Y at *
  subst a1 a2 b1 b2
  have hYn:wn Y<=231:=by omega
  refine ⟨⟨.inr rfl,.inr rfl,.inr rfl,.inr rfl,.inr rfl,.inr rfl,.inr rfl,.inr rfl,.inr rfl,.inr rfl,.inr rfl,.inl rfl,trivial⟩,fun Bb hB=>SEB.block_exit (id:=2) ?_⟩
  refine SEB.while (fun x:Nat × Nat=>x.1+x.2*Y=R) (fun x=>x.1) (fun x=>⟨spV.rho (lfV i (x.2:Int) lb n f lb' (wn Y) (wf Y) lq nq fq lr (wn x.1) (wf x.1)),spV.heap (lfV i (x.2:Int) lb n f lb' (wn Y) (wf Y) lq nq fq lr (wn x.1) (wf x.1)),[11]⟩)
   (fun _=>(.exit 2,⟨spV.rho (lfV i ((R / Y:Nat):Int) lb n f lb' (wn Y) (wf Y) lq nq fq lr (wn (R % Y)) (wf (R % Y))),spV.heap (lfV i ((R / Y:Nat):Int) lb n f lb' (wn Y) (wf Y) lq nq fq lr (wn (R % Y)) (wf (R % Y))),[11]⟩)) (fun x hx=>?_) (R,0) (by simp)
  obtain ⟨T,d⟩:=x
  simp only at hx ⊢
  have hdR:R / Y=d+T / Y:=by rw [<- hx,Nat.add_comm,Nat.mul_comm,Nat.mul_add_div hY]
  have hmR:R % Y=T % Y:=by rw [<- hx,Nat.add_comm,Nat.mul_comm,Nat.mul_add_mod]
  have hRB:R / Y < BB:=by rw [Nat.div_lt_iff_lt_mul hY,Nat.mul_comm]; exact hlt
  by_cases hle:Y<=T
  ·left
   have hTl:T < Y*BB:=by omega
   obtain ⟨k,k1,k2,hk⟩:=D0a (i:=i) (l:=lb) (n:=n) (f:=f) (l':=lb') (lq:=lq) (nq:=nq) (fq:=fq) (lr:=lr) (d:=d) hY hYn hle hTl (by omega)
   have hkY:0 < k*Y:=Nat.mul_pos k1 hY
   refine ⟨(T - k*Y,d+k),?_,?_,trivial,SEB.of_KP (e:=.normal) D6 D7 hp (.none _) hB hk rfl⟩
   ·simp only [Nat.add_mul]; omega
   ·simp only; omega
  ·right
   have hk:=C9b (i:=i) (l:=lb) (n:=n) (f:=f) (l':=lb') (lq:=lq) (nq:=nq) (fq:=fq) (lr:=lr) (d:=d) (T:=T) hYn (by omega)
   rw [hdR,hmR,Nat.div_eq_of_lt (show T < Y by omega),Nat.mod_eq_of_lt (show T < Y by omega),Nat.add_zero]
   exact ⟨by simp,SEB.of_KP (e:=.exit 2) D6 D7 hp (.none _) hB hk rfl⟩
 ·cases h
end
end Go.Proofs.Tryz
namespace Go.Proofs.Tryz
open Go.Ad
section
variable (i:Int) (l:Bool) (n:Int) (f:Nat->Int) (l':Bool) (n':Int) (g:Nat->Int) (lq:Bool) (nq:Int) (fq:Nat->Int) (lr:Bool) (nr:Int) (fr:Nat->Int)
def F7m (f1:Nat->Int) (n1:Int) (dd:Int) (nr2:Int) (fr2:Nat->Int):Option (AEx × List Lf) :=
 brK (decide (i >= 0)) (brK (decide (0<=nr/\nr<=232) && true) (brK (decide (2<=2) && decide (0+nr.toNat<=232) && (decide (2<=3) && decide (232<=232)))
  (brK (decide (0<=i/\i < 232)) (brK (decide (i.toNat < 232)) (brK (A9 (0<=W (nr+1)/\W (nr+1)<=232/\232=232))
   (brK (A9 (232=232/\232=232/\232=232/\232=232/\(0:Int)=0/\isW n1 f1/\isW n' g/\n'<=231/\0 < E9 n' g/\E9 n1 f1 < E9 n' g*BB))
    (brK (decide (0<=i/\i < 232)) (brK (decide (i.toNat < 232)) (some (.normal,lfU (W (i - 1)) l n f l' n' g lq (if W (i+1) > nq then W (i+1) else nq) (Y4 fq i.toNat dd) lr nr2 fr2)) none) none) none) none) none) none) none) none)
  (some (.exit 0,lfU i l n f l' n' g lq nq fq lr nr fr))
def shF (fr:Nat->Int) (k:Nat) (v:Int):Nat->Int:=Y4 (A8c fr 1 (min k 231) fun x=>fr (0+x)) 0 v
theorem E8m:F3 prog (C9 prog pBig6 60) (A8p 2 C8q) C8y (spU.rho (lfU i l n f l' n' g lq nq fq lr nr fr)) (spU.heap (lfU i l n f l' n' g lq nq fq lr nr fr)) (H5 (fun _=>spU) 12 [10,11]) =
  F7m i l n f l' n' g lq nq fq lr nr fr (shF fr nr.toNat (f i.toNat)) (A0g (W (nr+1)).toNat (shF fr nr.toNat (f i.toNat)))
   ((E9 (A0g (W (nr+1)).toNat (shF fr nr.toNat (f i.toNat))) (shF fr nr.toNat (f i.toNat)) / E9 n' g:Nat):Int)
   (wn (E9 (A0g (W (nr+1)).toNat (shF fr nr.toNat (f i.toNat))) (shF fr nr.toNat (f i.toNat)) % E9 n' g))
   (wf (E9 (A0g (W (nr+1)).toNat (shF fr nr.toNat (f i.toNat))) (shF fr nr.toNat (f i.toNat)) % E9 n' g)):=by kernel_rfl
end
def nqI (X i:Nat):Nat:=if i=wn X then 0 else wn X
def lfX (l l':Bool) (X Y i:Nat):List Lf:=lfU ((i:Int) - 1) l (wn X) (wf X) l' (wn Y) (wf Y) false (nqI X i) (fqI (X / Y) i) false (wn (X / BB ^ i % Y)) (wf (X / BB ^ i % Y))
theorem C8k {l l':Bool} {X Y i:Nat} (hX:wn X<=232) (hY:0 < Y) (hYn:wn Y<=231) (hi:i+1<=wn X) :
  F3 prog (C9 prog pBig6 60) (A8p 2 C8q) C8y (spU.rho (lfX l l' X Y (i+1))) (spU.heap (lfX l l' X Y (i+1))) (H5 (fun _=>spU) 12 [10,11])=some (.normal,lfX l l' X Y i):=by
 have e0:((i+1:Nat):Int) - 1=i:=by omega
 obtain ⟨d1,d2,d3⟩:=F0y (X:=X) (Y:=Y) (i:=i) hY
 unfold lfX
 rw [E8m,e0]
 generalize hR:X / BB ^ (i+1) % Y=R at *
 have hRY:R < Y:=by rw [<- hR]; exact Nat.mod_lt _ hY
 have hRn:wn R<=231:=A0a (Nat.lt_trans hRY (C4j.1 hYn))
 have hw:=A5d X i
 have hsh:shF (wf R) ((wn R:Nat):Int).toNat (wf X ((i:Nat):Int).toNat)=wf (R*BB+wd X i):=by
  unfold shF
  rw [Int.toNat_natCast,Int.toNat_natCast]
  simp only [Nat.zero_add]
  exact G4r hw hRn
 have e1:W (((wn R:Nat):Int)+1)=((wn R+1:Nat):Int):=by rw [W,wrap64 (by omega) (by omega)]; omega
 rw [hsh,e1,Int.toNat_natCast,A7x _ _ (D1x hw),G8,G8,d1,d2]
 have hTn:wn (R*BB+wd X i)<=232:=Nat.le_trans (D1x hw) (by omega)
 unfold F7m
 have e2:W ((i:Int) - 1)=(i:Int) - 1:=by rw [W,wrap64 (by omega) (by omega)]
 have e3:W ((i:Int)+1)=((i+1:Nat):Int):=by rw [W,wrap64 (by omega) (by omega)]; omega
 rw [e1,e2,e3,Int.toNat_natCast,Int.toNat_natCast,E6w]
 have e4:(if ((i+1:Nat):Int) > ((nqI X (i+1):Nat):Int) then ((i+1:Nat):Int) else ((nqI X (i+1):Nat):Int))=((nqI X i:Nat):Int):=by
  unfold nqI
  rw [if_neg (show ¬ i=wn X by omega)]
  by_cases h:i+1=wn X
  ·rw [if_pos h,if_pos (by omega),h]
  ·rw [if_neg h,if_neg (by omega)]
 rw [e4,dT (show (i:Int) >= 0 by omega),dT (show 0<=((wn R:Nat):Int)/\((wn R:Nat):Int)<=232 by omega),dT (show 0+wn R<=232 by omega),dT (show 0<=(i:Int)/\(i:Int) < 232 by omega),dT (show i < 232 by omega),
  A8 (show _/\_ from ⟨by omega,by omega,rfl⟩),A8 (show _/\_ from ⟨rfl,rfl,rfl,rfl,rfl,M9 hTn,M9 (by omega),by omega,by rw [G8]; exact hY,by rw [G8,G8]; exact d3⟩)]
 rfl
theorem D3f {l l':Bool} {X Y:Nat} :
  F3 prog (C9 prog pBig6 60) (A8p 2 C8q) C8y (spU.rho (lfX l l' X Y 0)) (spU.heap (lfX l l' X Y 0)) (H5 (fun _=>spU) 12 [10,11])=some (.exit 0,lfX l l' X Y 0):=by
 unfold lfX
 rw [E8m]
 rfl
def G7t:Blk:=hookP spU 12 [10,11] fun
 | [.i i,.b l,.i n,.n m,.f f,.b l',.i n',.n m',.f g,.b lq,.i nq,.n mq,.f fq,.b lr,.i nr,.n mr,.f fr] =>
  .br (A9 (m=232/\m'=232/\mq=232/\mr=232/\i=n - 1/\lq=false/\nq=0/\(fq=fun _=>0)/\lr=false/\nr=0/\(fr=fun _=>0)/\isW n f/\isW n' g/\n'<=231/\0 < E9 n' g))
   (.leaf (.normal,spU,lfX l l' (E9 n f) (E9 n' g) 0)) .fail
 | _=>.fail
def F2x:Prims:=pBig6.addb 119 0 G7t
section
variable {A:Amb} (hT:Tab A) (hG:gN prog<=A.G)
include hT hG
theorem F0a:PrimOK prog A F2x:=by
 have hp:=B8e hT hG
 refine PrimOK.addbP hp func119 (show f119.body=some C7q by kernel_rfl) (body:=.loop C8y) (by kernel_rfl) (by kernel_rfl) fun ls e sq l h=>?_
 split at h
 ·rename_i i lb n m f lb' n' m' g lq nq mq fq lr nr mr fr
  obtain ⟨hc,hv⟩:=Tr.br1 h
  cases hv
  obtain ⟨rfl,rfl,rfl,rfl,rfl,rfl,rfl,rfl,rfl,rfl,rfl,w1,w2,hYn,hY⟩:=D9 hc
  obtain ⟨a1,a2,a3⟩:=S9 w1
  obtain ⟨b1,b2,b3⟩:=S9 w2
  generalize hX:E9 n f=X at *
  generalize hYY:E9 n' g=Y at *
  subst a1 a2 b1 b2
  have hYn:wn Y<=231:=by omega
  have hblk:BlkOK prog A (A8p 2 C8q) C8y:=BlkOK.one (body:=.loop D0t) (by kernel_rfl) fun ρ B e ρ' B' D hq=>(E4q hT hG ρ B e ρ' B' D hq).2
  refine ⟨⟨.inr rfl,.inr rfl,.inr rfl,.inr rfl,.inr rfl,.inr rfl,.inr rfl,.inr rfl,.inr rfl,.inr rfl,.inl rfl,.inl rfl,trivial⟩,fun Bb hB=>SEB.block_exit (id:=0) ?_⟩
  have e0:(⟨spU.rho [.i ((wn X:Int) - 1),.b lb,.i (wn X:Int),.n 232,.f (wf X),.b lb',.i (wn Y:Int),.n 232,.f (wf Y),.b false,.i 0,.n 232,.f fun _=>0,.b false,.i 0,.n 232,.f fun _=>0],
    spU.heap [.i ((wn X:Int) - 1),.b lb,.i (wn X:Int),.n 232,.f (wf X),.b lb',.i (wn Y:Int),.n 232,.f (wf Y),.b false,.i 0,.n 232,.f fun _=>0,.b false,.i 0,.n 232,.f fun _=>0],[10,11]⟩:St) =
    ⟨spU.rho (lfX lb lb' X Y (wn X)),spU.heap (lfX lb lb' X Y (wn X)),[10,11]⟩:=by
   have h1:X / BB ^ wn X % Y=0:=by rw [Nat.div_eq_of_lt (A2r X),Nat.zero_mod]
   have h2:nqI X (wn X)=0:=by simp [nqI]
   unfold lfX lfU lf4
   rw [h1,h2,F3p,C7a,Y9]
   rfl
  rw [e0]
  refine SEB.while (fun i:Nat=>i<=wn X) (fun i=>i) (fun i=>⟨spU.rho (lfX lb lb' X Y i),spU.heap (lfX lb lb' X Y i),[10,11]⟩) (fun _=>(.exit 0,⟨spU.rho (lfX lb lb' X Y 0),spU.heap (lfX lb lb' X Y 0),[10,11]⟩)) (fun i hi=>?_) (wn X) (Nat.le_refl _)
  cases i with
  | zero=>right; exact ⟨by simp,SEB.of_KP (e:=.exit 0) D6 D7 hp hblk hB D3f rfl⟩
  | succ i=>left; exact ⟨i,by omega,by omega,rfl,SEB.of_KP (e:=.normal) D6 D7 hp hblk hB (C8k a3 hY hYn hi) rfl⟩
 ·cases h
end
def H0x:SP:=⟨[pW 10,pW 11],dd8++[opW,opW,opW,opW]⟩
def G8i:List Lf->Tr (SP × List Lf)
 | [.b l,.i n,.n m,.f f,.b l',.i n',.n m',.f g]=>.br (A9 (m=232/\m'=232/\isW n f/\isW n' g/\n'<=231/\0 < E9 n' g))
  (.leaf (H0x,lf4 l n f l' n' g false (wn (E9 n f / E9 n' g)) (wf (E9 n f / E9 n' g)) false (wn (E9 n f % E9 n' g)) (wf (E9 n f % E9 n' g)))) .fail
 | _=>.fail
def D6w (l:Bool) (n:Int) (f:Nat->Int) (l':Bool) (n':Int) (g:Nat->Int) (X Y:Nat):Option (List Lf) :=
 brK (A9 (232=232/\232=232/\232=232/\232=232/\W (n - 1)=n - 1/\false=false/\(0:Int)=0/\((fun _=>0:Nat->Int)=fun _=>0)/\false=false/\(0:Int)=0/\((fun _=>0:Nat->Int)=fun _=>0)/\isW n f/\isW n' g/\n'<=231/\0 < Y))
  (brK (A9 (0<=((nqI X 0:Nat):Int)/\((nqI X 0:Nat):Int)<=232/\232=232))
   (some (lf4 l (wn X) (wf X) l' (wn Y) (wf Y) false (A0g ((nqI X 0:Nat):Int).toNat (fqI (X / Y) 0)) (fqI (X / Y) 0) false (wn (X / BB ^ 0 % Y)) (wf (X / BB ^ 0 % Y)))) none) none
theorem G2r (l:Bool) (n:Int) (f:Nat->Int) (l':Bool) (n':Int) (g:Nat->Int):(C9 prog F2x 60).call 119 (sp2.rho (lf2 l n f l' n' g)) (sp2.heap (lf2 l n f l' n' g)) (V7 H0x 10 []) =
  D6w l n f l' n' g (E9 n f) (E9 n' g):=by kernel_rfl
def pBig7:Prims:=pBig6.addh 119 (H9 8 (funQ sp2 10 [] G8i))
theorem B9e {A:Amb} (hT:Tab A) (hG:gN prog<=A.G):PrimOK prog A pBig7:=by
 refine (B8e hT hG).addl gsz func119 (by kernel_rfl) (J7 D6 D7 rfl fun ls sq l h=>?_)
 unfold G8i at h
 split at h
 ·rename_i lb n m f lb' n' m' g
  obtain ⟨hc,hv⟩:=Tr.br1 h
  cases hv
  obtain ⟨rfl,rfl,w1,w2,hYn,hY⟩:=D9 hc
  refine ⟨⟨.inr rfl,.inr rfl,.inr rfl,.inr rfl,.inr rfl,.inr rfl,.inr rfl,.inr rfl,.inr rfl,.inr rfl,trivial⟩,rfl,F2x,60,_,F0a hT hG,(G2r _ _ f _ _ g).trans ?_,fun _ _=>.refl⟩
  unfold D6w
  obtain ⟨a1,a2,a3⟩:=S9 w1
  obtain ⟨b1,b2,b3⟩:=S9 w2
  have hw:W (n - 1)=n - 1:=by rw [W,wrap64 (by omega) (by omega)]
  rw [A8 (show _/\_ from ⟨rfl,rfl,rfl,rfl,hw,rfl,rfl,rfl,rfl,rfl,rfl,w1,w2,hYn,hY⟩)]
  generalize hX:E9 n f=X at *
  generalize hYY:E9 n' g=Y at *
  subst a1 a2 b1 b2
  have hq:wn (X / Y)<=nqI X 0:=by
   have h1:wn (X / Y)<=wn X:=A0a (Nat.lt_of_le_of_lt (Nat.div_le_self _ _) (A2r X))
   unfold nqI
   split <;> omega
  have hq2:nqI X 0<=232:=by unfold nqI; split <;> omega
  rw [A8 (show _/\_ from ⟨by omega,by omega,rfl⟩),Int.toNat_natCast,E9q,A7x _ _ hq,Nat.pow_zero,Nat.div_one]
  rfl
 ·cases h
end Go.Proofs.Tryz
namespace Go.Proofs.Tryz
open Go.Ad
def C6d (f:Nat->Int):Nat->Int:=D9o ((List.range 232).map fun i=>.sint .i64 (f i))
theorem F5o {f:Nat->Int} (h:∀ i,232<=i->f i=0):C6d f=f:=by
 funext i
 unfold C6d D9o
 rw [List.getD_eq_getElem?_getD,List.getElem?_map]
 by_cases hi:i < 232
 ·rw [List.getElem?_range hi]; rfl
 ·rw [List.getElem?_eq_none (by simp; omega),h i (by omega)]; rfl
theorem D7h {V:Nat} (h:wn V<=232):C6d (wf V)=wf V:=F5o fun i hi=>by simp [wf,A3k (V:=V) (i:=i) (by omega)]
section
variable (l:Bool) (n:Int) (f:Nat->Int) (l':Bool) (n':Int) (g:Nat->Int)
def D7t:Option (List Lf) :=
 brK (l == l') (brK (A9 (232=232/\232=232/\B0e 1 0 n f n' g (A0k 1 0 n f n' g))) (some (lf2 l (wn (A0k 1 0 n f n' g)) (wf (A0k 1 0 n f n' g)) l' n' g)) none)
  (brK (A9 (0<=n/\n<=232/\232=232/\232=232)) (brK (decide (D4r n n' f g >= 0)) (brK (A9 (232=232/\232=232/\B0e (-1) 0 n f n' g (A0k (-1) 0 n f n' g))) (some (lf2 l (wn (A0k (-1) 0 n f n' g)) (wf (A0k (-1) 0 n f n' g)) l' n' g)) none)
   (brK (A9 (232=232/\232=232/\B0e (-1) 0 n' (C6d g) n f (A0k (-1) 0 n' (C6d g) n f))) (some (lf2 l' (wn (A0k (-1) 0 n' (C6d g) n f)) (C6d (wf (A0k (-1) 0 n' (C6d g) n f))) l' n' g)) none)) none)
theorem F8p:(C9 prog pBig7 60).call 120 (sp2.rho (lf2 l n f l' n' g)) (sp2.heap (lf2 l n f l' n' g)) (A1j F4s 10 [8])=D7t l n f l' n' g:=by kernel_rfl
end
def A0o (l:Bool) (V:Nat) (l':Bool) (U:Nat):Bool × Nat:=bif l == l' then (l,V+U) else bif decide (U<=V) then (l,V - U) else (l',U - V)
theorem F2n {n n':Int} {f g:Nat->Int}:A0k 1 0 n f n' g=E9 n f+E9 n' g:=by
 unfold A0k
 rw [show (0:Int).toNat=0 from rfl,Nat.pow_zero]
 omega
theorem C8r {n n':Int} {f g:Nat->Int}:A0k (-1) 0 n f n' g=E9 n f - E9 n' g:=by
 unfold A0k
 rw [show (0:Int).toNat=0 from rfl,Nat.pow_zero]
 omega
def G8w:List Lf->Tr (SP × List Lf)
 | [.b l,.i n,.n m,.f f,.b l',.i n',.n m',.f g]=>.br (A9 (m=232/\m'=232/\isW n f/\isW n' g/\wn (E9 n f+E9 n' g)<=232))
  (.leaf (F4s,lf2 (A0o l (E9 n f) l' (E9 n' g)).1 (wn (A0o l (E9 n f) l' (E9 n' g)).2) (wf (A0o l (E9 n f) l' (E9 n' g)).2) l' n' g)) .fail
 | _=>.fail
def pBig8:Prims:=pBig7.addh 120 (H9 8 (funP sp2 10 [8] G8w))
theorem D1m {A:Amb} (hT:Tab A) (hG:gN prog<=A.G):PrimOK prog A pBig8:=by
 refine (B9e hT hG).addl gsz func120 (by kernel_rfl) (L8 D6 D7 rfl fun ls sq l h=>?_)
 unfold G8w at h
 split at h
 ·rename_i lb n m f lb' n' m' g
  obtain ⟨hc,hv⟩:=Tr.br1 h
  cases hv
  obtain ⟨rfl,rfl,w1,w2,hs⟩:=D9 hc
  refine ⟨⟨.inr rfl,.inr rfl,.inr rfl,.inr rfl,.inr rfl,.inr rfl,.inr rfl,.inr rfl,.inl rfl,.inr rfl,trivial⟩,rfl,rfl,pBig7,60,B9e hT hG,(F8p _ _ f _ _ g).trans ?_⟩
  unfold D7t
  obtain ⟨a1,a2,a3⟩:=S9 w1
  obtain ⟨b1,b2,b3⟩:=S9 w2
  have hg:C6d g=g:=by rw [b2]; exact D7h b3
  rw [hg,F2n,C8r,C8r]
  unfold A0o
  have hle:∀ a b:Nat,wn b<=232->a<=b->wn a<=232:=fun a b h1 h2=>A0a (Nat.lt_of_le_of_lt h2 (C4j.1 h1))
  have hb:decide (D4r n n' f g >= 0)=decide (E9 n' g<=E9 n f):=by
   have:=C6u a3 b3
   rwa [<- a1,<- a2,<- b1,<- b2] at this
  have q1:B0e 1 0 n f n' g (E9 n f+E9 n' g):=⟨w1,w2,⟨by omega,by omega⟩,Int.le_refl _,by omega,hs,by rw [show (0:Int).toNat=0 from rfl,Nat.pow_zero]; omega⟩
  rw [show A9 (232=232/\232=232/\B0e 1 0 n f n' g (E9 n f+E9 n' g))=true from A8 ⟨rfl,rfl,q1⟩,show A9 (0<=n/\n<=232/\232=232/\232=232)=true from A8 ⟨by omega,by omega,rfl,rfl⟩,hb]
  have h3:wn (E9 n' g - E9 n f)<=232:=hle _ _ b3 (Nat.sub_le _ _)
  rw [D7h h3]
  cases hl:lb == lb' with
  | true=>rfl
  | false =>
   by_cases hle2:E9 n' g<=E9 n f
   ·have q2:B0e (-1) 0 n f n' g (E9 n f - E9 n' g):=⟨w1,w2,⟨by omega,by omega⟩,Int.le_refl _,by omega,hle _ _ a3 (Nat.sub_le _ _),by rw [show (0:Int).toNat=0 from rfl,Nat.pow_zero]; omega⟩
    rw [dT hle2,show A9 (232=232/\232=232/\B0e (-1) 0 n f n' g (E9 n f - E9 n' g))=true from A8 ⟨rfl,rfl,q2⟩]
    rfl
   ·have q3:B0e (-1) 0 n' g n f (E9 n' g - E9 n f):=⟨w2,w1,⟨by omega,by omega⟩,Int.le_refl _,by omega,h3,by rw [show (0:Int).toNat=0 from rfl,Nat.pow_zero]; omega⟩
    rw [dF hle2,show A9 (232=232/\232=232/\B0e (-1) 0 n' g n f (E9 n' g - E9 n f))=true from A8 ⟨rfl,rfl,q3⟩]
    rfl
 ·cases h
def D8y:Code:=f73.body.getD .skip
def D1l:Code:=J3 (K6 0 D8y)
def spP:SP:=⟨[pW 8,pW 9,.drop,.drop,.drop,pW 10]++dr 15++[.int .i64,.int .i64]++dr 14,dd8++[opW,opW,opW]⟩
def lf3 (l:Bool) (n:Int) (f:Nat->Int) (l':Bool) (n':Int) (g:Nat->Int) (lq:Bool) (nq:Int) (fq:Nat->Int):List Lf :=
 [.b l,.i n,.n 232,.f f,.b l',.i n',.n 232,.f g,.b lq,.i nq,.n 232,.f fq]
section
variable (c i:Int) (l:Bool) (n:Int) (f:Nat->Int) (l':Bool) (n':Int) (g:Nat->Int) (lq:Bool) (nq:Int) (fq:Nat->Int)
def lfP:List Lf:=.i c :: .i i :: lf3 l n f l' n' g lq nq fq
theorem F0m:F3 prog (C9 prog pBig7 60) F8 D1l (spP.rho (lfP c i l n f l' n' g lq nq fq)) (spP.heap (lfP c i l n f l' n' g lq nq fq)) (H5 (fun _=>spP) 11 [10]) =
  brK (decide (i < c)) (brK (decide (0<=i/\i < 232)) (brK (decide (i.toNat < 232)) (brK (A9 (232=232/\232=232/\B0e (g i.toNat) i nq fq n f (A0k (g i.toNat) i nq fq n f)))
   (some (.normal,lfP c (W (i+1)) l n f l' n' g lq (wn (A0k (g i.toNat) i nq fq n f)) (wf (A0k (g i.toNat) i nq fq n f)))) none) none) none)
   (some (.exit 0,lfP c i l n f l' n' g lq nq fq)):=by kernel_rfl
end
def lfM (l l':Bool) (X Y i:Nat):List Lf:=lfP (wn Y) i l (wn X) (wf X) l' (wn Y) (wf Y) (l != l') (wn (X*(Y % BB ^ i))) (wf (X*(Y % BB ^ i)))
theorem D1c {l l':Bool} {X Y i:Nat} (hXY:wn X+wn Y<=232) (hi:i < wn Y) :
  F3 prog (C9 prog pBig7 60) F8 D1l (spP.rho (lfM l l' X Y i)) (spP.heap (lfM l l' X Y i)) (H5 (fun _=>spP) 11 [10])=some (.normal,lfM l l' X Y (i+1)):=by
 have hB:BB=1000000000:=rfl
 have hw:=A5d Y i
 have hprod:∀ k,wn (X*(Y % BB ^ k))<=232:=fun k=>by
  refine A0a ?_
  have h1:X*(Y % BB ^ k)<=X*Y:=Nat.mul_le_mul_left _ (Nat.mod_le _ _)
  have h2:X*Y < BB ^ (wn X+wn Y):=by
   rw [Nat.pow_add]
   exact Nat.mul_lt_mul'' (A2r X) (A2r Y)
  have h3:BB ^ (wn X+wn Y)<=BB ^ 232:=Nat.pow_le_pow_right (by decide) hXY
  exact Nat.lt_of_le_of_lt h1 (Nat.lt_of_lt_of_le h2 h3)
 have hstep:X*(Y % BB ^ (i+1))=X*(Y % BB ^ i)+wd Y i*X*BB ^ i:=by
  rw [A3t,Nat.mul_add]
  congr 1
  rw [<- Nat.mul_assoc,Nat.mul_comm X]
 have hS:((X*(Y % BB ^ (i+1)):Nat):Int)=((X*(Y % BB ^ i):Nat):Int)+(wd Y i:Int)*(X:Int)*((BB ^ i:Nat):Int):=by
  rw [hstep]; push_cast; rfl
 have hsum:A0k (wf Y ((i:Nat):Int).toNat) (i:Int) (wn (X*(Y % BB ^ i))) (wf (X*(Y % BB ^ i))) (wn X) (wf X)=X*(Y % BB ^ (i+1)):=by
  unfold A0k
  rw [G8,G8,Int.toNat_natCast]
  show (((X*(Y % BB ^ i):Nat):Int)+(wd Y i:Int)*(X:Int)*((BB ^ i:Nat):Int)).toNat=_
  rw [<- hS,Int.toNat_natCast]
 unfold lfM
 rw [F0m,hsum]
 have e1:W ((i:Int)+1)=((i+1:Nat):Int):=by rw [W,wrap64 (by omega) (by omega)]; omega
 have q:B0e (wf Y ((i:Nat):Int).toNat) i (wn (X*(Y % BB ^ i))) (wf (X*(Y % BB ^ i))) (wn X) (wf X) (X*(Y % BB ^ (i+1))):=by
  refine ⟨M9 (hprod i),M9 (by omega),?_,by omega,by omega,hprod _,?_⟩
  ·rw [Int.toNat_natCast]; simp only [wf]; omega
  ·rw [G8,G8,Int.toNat_natCast]; exact hS
 rw [show A9 (232=232/\232=232/\B0e (wf Y ((i:Nat):Int).toNat) i (wn (X*(Y % BB ^ i))) (wf (X*(Y % BB ^ i))) (wn X) (wf X) (X*(Y % BB ^ (i+1))))=true from A8 ⟨rfl,rfl,q⟩,
  e1,dT (show (i:Int) < (wn Y:Int) by omega),dT (show 0<=(i:Int)/\(i:Int) < 232 by omega),Int.toNat_natCast,dT (show i < 232 by omega)]
 rfl
def G6u:Blk:=hookP spP 11 [10] fun
 | [.i c,.i i,.b l,.i n,.n m,.f f,.b l',.i n',.n m',.f g,.b lq,.i nq,.n mq,.f fq] =>
  .br (A9 (m=232/\m'=232/\mq=232/\c=n'/\i=0/\lq=(l != l')/\nq=0/\(fq=fun _=>0)/\isW n f/\isW n' g/\n+n'<=232)) (.leaf (.normal,spP,lfM l l' (E9 n f) (E9 n' g) (wn (E9 n' g)))) .fail
 | _=>.fail
def E7o:Prims:=pBig8.addb 73 0 G6u
theorem F3a {A:Amb} (hT:Tab A) (hG:gN prog<=A.G):PrimOK prog A E7o:=by
 have hp:=B9e hT hG
 refine PrimOK.addbP (D1m hT hG) func73 (show f73.body=some D8y by kernel_rfl) (body:=.loop D1l) (by kernel_rfl) (by kernel_rfl) fun ls e sq l h=>?_
 split at h
 ·rename_i c i lb n m f lb' n' m' g lq nq mq fq
  obtain ⟨hc,hv⟩:=Tr.br1 h
  cases hv
  obtain ⟨rfl,rfl,rfl,rfl,rfl,rfl,rfl,rfl,w1,w2,hn⟩:=D9 hc
  obtain ⟨a1,a2,a3⟩:=S9 w1
  obtain ⟨b1,b2,b3⟩:=S9 w2
  generalize hX:E9 n f=X at *
  generalize hYY:E9 c g=Y at *
  subst a1 a2 b1 b2
  refine ⟨⟨.inr rfl,.inr rfl,.inr rfl,.inr rfl,.inr rfl,.inr rfl,.inr rfl,.inr rfl,.inr rfl,.inr rfl,.inl rfl,trivial⟩,fun Bb hB=>SEB.block_exit (id:=0) ?_⟩
  have e0:(⟨spP.rho [.i (wn Y:Int),.i 0,.b lb,.i (wn X:Int),.n 232,.f (wf X),.b lb',.i (wn Y:Int),.n 232,.f (wf Y),.b (lb != lb'),.i 0,.n 232,.f fun _=>0],
    spP.heap [.i (wn Y:Int),.i 0,.b lb,.i (wn X:Int),.n 232,.f (wf X),.b lb',.i (wn Y:Int),.n 232,.f (wf Y),.b (lb != lb'),.i 0,.n 232,.f fun _=>0],[10]⟩:St) =
    ⟨spP.rho (lfM lb lb' X Y 0),spP.heap (lfM lb lb' X Y 0),[10]⟩:=by
   unfold lfM lfP lf3
   rw [Nat.pow_zero,Nat.mod_one,Nat.mul_zero,C7a,Y9]
   rfl
  rw [e0]
  refine SEB.loop_nat (A:=A) (B0:=Bb) (c:=D1l) (I:=fun i=>⟨spP.rho (lfM lb lb' X Y i),spP.heap (lfM lb lb' X Y i),[10]⟩) (N:=wn Y)
   (fun i hi=>SEB.of_KP (e:=.normal) D6 D7 hp (.none _) hB (D1c (by omega) hi) rfl) ?_ (by simp) (i:=0) (Nat.zero_le _)
  have hk:F3 prog (C9 prog pBig7 60) F8 D1l (spP.rho (lfM lb lb' X Y (wn Y))) (spP.heap (lfM lb lb' X Y (wn Y))) (H5 (fun _=>spP) 11 [10])=some (.exit 0,lfM lb lb' X Y (wn Y)):=by
   unfold lfM
   rw [F0m,dF (show ¬ (wn Y:Int) < (wn Y:Int) by omega)]
   rfl
  exact SEB.of_KP (e:=.exit 0) D6 D7 hp (.none _) hB hk rfl
 ·cases h
def G9l:SP:=⟨[pW 10],dd8++[opW,opW,opW]⟩
def G6f:List Lf->Tr (SP × List Lf)
 | [.b l,.i n,.n m,.f f,.b l',.i n',.n m',.f g]=>.br (A9 (m=232/\m'=232/\isW n f/\isW n' g/\n+n'<=232))
  (.leaf (G9l,lf3 l n f l' n' g (l != l') (wn (E9 n f*E9 n' g)) (wf (E9 n f*E9 n' g)))) .fail
 | _=>.fail
def D8n (l:Bool) (n:Int) (f:Nat->Int) (l':Bool) (n':Int) (g:Nat->Int) (X Y:Nat):Option (List Lf) :=
 brK (A9 (232=232/\232=232/\232=232/\n'=n'/\(0:Int)=0/\(l != l')=(l != l')/\(0:Int)=0/\((fun _=>0:Nat->Int)=fun _=>0)/\isW n f/\isW n' g/\n+n'<=232))
  (some (lf3 l (wn X) (wf X) l' (wn Y) (wf Y) (l != l') (wn (X*(Y % BB ^ wn Y))) (wf (X*(Y % BB ^ wn Y))))) none
theorem G1b (l:Bool) (n:Int) (f:Nat->Int) (l':Bool) (n':Int) (g:Nat->Int):(C9 prog E7o 60).call 73 (sp2.rho (lf2 l n f l' n' g)) (sp2.heap (lf2 l n f l' n' g)) (A1j G9l 10 []) =
  D8n l n f l' n' g (E9 n f) (E9 n' g):=by kernel_rfl
def pBig9:Prims:=pBig8.addh 73 (H9 8 (funP sp2 10 [] G6f))
theorem C8e {A:Amb} (hT:Tab A) (hG:gN prog<=A.G):PrimOK prog A pBig9:=by
 refine (D1m hT hG).addl gsz func73 (by kernel_rfl) (L8 D6 D7 rfl fun ls sq l h=>?_)
 unfold G6f at h
 split at h
 ·rename_i lb n m f lb' n' m' g
  obtain ⟨hc,hv⟩:=Tr.br1 h
  cases hv
  obtain ⟨rfl,rfl,w1,w2,hn⟩:=D9 hc
  refine ⟨⟨.inr rfl,.inr rfl,.inr rfl,.inr rfl,.inr rfl,.inr rfl,.inr rfl,.inr rfl,.inr rfl,.inr rfl,trivial⟩,rfl,rfl,E7o,60,F3a hT hG,(G1b _ _ f _ _ g).trans ?_⟩
  unfold D8n
  obtain ⟨a1,a2,a3⟩:=S9 w1
  obtain ⟨b1,b2,b3⟩:=S9 w2
  rw [A8 (show _/\_ from ⟨rfl,rfl,rfl,rfl,rfl,rfl,rfl,rfl,w1,w2,hn⟩),<- a1,<- a2,<- b1,<- b2]
  rw [show E9 n' g % BB ^ wn (E9 n' g)=E9 n' g from Nat.mod_eq_of_lt (A2r _)]
  rfl
 ·cases h
end Go.Proofs.Tryz
namespace Go.Proofs.Tryz
open Go.Ad
open Go.Lib (decDigits itoa)
def D8z:Code:=f72.body.getD .skip
def C2t:Code:=J3 (K6 0 D8z)
def spR:SP:=⟨[.drop,.drop,.drop,.str,pW 8]++dr 43,dd8++[opW]⟩
def lfR (s:List UInt8) (l:Bool) (n:Int) (f:Nat->Int):List Lf:=[.s s,.b l,.i n,.n 232,.f f]
abbrev frR (s:List UInt8):Int:=if W ((s.length:Int) - 9) > 0 then W ((s.length:Int) - 9) else 0
theorem D8q (s:List UInt8) (l:Bool) (n:Int) (f:Nat->Int):F3 prog (C9 prog lib2 60) F8 C2t (spR.rho (lfR s l n f)) (spR.heap (lfR s l n f)) (H5 (fun _=>spR) 9 [8]) =
  brK (decide ((s.length:Int) > 0)) (brK (true && decide (0<=frR s/\frR s<=(s.length:Int))) (brK (decide (((s.take s.length).drop (frR s).toNat).length<=18) && (Lib.atoi ((s.take s.length).drop (frR s).toNat)).isSome) (brK (decide (0<=n/\n < 232)) (brK (decide (n.toNat < 232)) (brK (decide (0<=frR s/\frR s<=(s.length:Int)) && true)
  (some (.normal,[.s ((s.take (frR s).toNat).drop 0),.b l,.i (W (n+1)),.n 232,.f (Y4 f n.toNat ((Lib.atoi ((s.take s.length).drop (frR s).toNat)).getD 0))])) none) none) none) none) none) (some (.exit 0,[.s s,.b l,.i n,.n 232,.f f])):=by kernel_rfl
theorem C8o {V k:Nat} {l:Bool} (hV:wn V<=232) (h:k < Z0 V):F3 prog (C9 prog lib2 60) F8 C2t (spR.rho (lfR (sR V k) l k (gI V k))) (spR.heap (lfR (sR V k) l k (gI V k))) (H5 (fun _=>spR) 9 [8]) =
  some (.normal,lfR (sR V (k+1)) l ((k+1:Nat):Int) (gI V (k+1))):=by
 obtain ⟨c,c1,c2,c3,c4,c5⟩:=F6g h
 have hk:k < 232:=by
  unfold Z0 at h
  split at h
  ·omega
  ·omega
 have hne:0 < (sR V k).length:=by
  rw [C7e h]
  have:=A1b (V / BB ^ k)
  cases hh:decDigits (V / BB ^ k) with
  | nil=>exact (this hh).elim
  | cons a b=>simp
 have hlen:(sR V k).length<=2088:=by
  rw [C7e h]
  exact B3p (A0a (Nat.lt_of_le_of_lt (Nat.div_le_self _ _) (C4j.1 hV)))
 have hf:frR (sR V k)=(c:Int):=by
  unfold frR
  rw [W,wrap64 (by omega) (by omega)]
  split <;> omega
 have e1:W ((k:Int)+1)=((k+1:Nat):Int):=by rw [W,wrap64 (by omega) (by omega)]; omega
 show F3 prog (C9 prog lib2 60) F8 C2t (spR.rho (lfR (sR V k) l ((k:Nat):Int) (gI V k))) (spR.heap (lfR (sR V k) l ((k:Nat):Int) (gI V k))) (H5 (fun _=>spR) 9 [8])=_
 rw [D8q,hf,Int.toNat_natCast,List.take_length]
 rw [c5,Int.toNat_natCast,c3,e1,dT (show ((sR V k).length:Int) > 0 by omega),dT (show 0<=(c:Int)/\(c:Int)<=((sR V k).length:Int) by omega),dT (show ((sR V k).drop c).length<=18 by omega),dT (show 0<=(k:Int)/\(k:Int) < 232 by omega),dT hk]
 simp only [Option.getD_some,List.drop_zero]
 rw [F5e]
 rfl
def H0k:Blk:=hookP spR 9 [8] fun
 | [.s s,.b l,.i n,.n m,.f f]=>.br (A9 (n=0/\m=232/\(f=fun _=>0)/\s=decDigits (O7 s)/\wn (O7 s)<=232)) (.leaf (.normal,spR,lfR [] l (Z0 (O7 s)) (wf (O7 s)))) .fail
 | _=>.fail
def F2q:Prims:=pBig9.addb 72 0 H0k
theorem F0i {A:Amb} (hT:Tab A) (hG:gN prog<=A.G):PrimOK prog A F2q:=by
 have hp:=I8 hT
 refine PrimOK.addbP (C8e hT hG) func72 (show f72.body=some D8z by kernel_rfl) (body:=.loop C2t) (by kernel_rfl) (by kernel_rfl) fun ls e sq l h=>?_
 split at h
 ·rename_i s lb n m f
  obtain ⟨hc,hv⟩:=Tr.br1 h
  cases hv
  obtain ⟨rfl,rfl,rfl,hs,hn⟩:=D9 hc
  generalize hV:O7 s=V at *
  subst hs
  refine ⟨⟨.inr rfl,.inr rfl,.inr rfl,.inr rfl,.inr rfl,.inr rfl,.inr rfl,.inr rfl,.inl rfl,trivial⟩,fun Bb hB=>SEB.block_exit (id:=0) ?_⟩
  have e0:(⟨spR.rho [.s (decDigits V),.b lb,.i 0,.n 232,.f fun _=>0],spR.heap [.s (decDigits V),.b lb,.i 0,.n 232,.f fun _=>0],[8]⟩:St)=⟨spR.rho (lfR (sR V 0) lb (0:Nat) (gI V 0)),spR.heap (lfR (sR V 0) lb (0:Nat) (gI V 0)),[8]⟩:=by
   rw [F7d]; rfl
  have e1:(⟨spR.rho (lfR [] lb (Z0 V) (wf V)),spR.heap (lfR [] lb (Z0 V) (wf V)),[8]⟩:St)=⟨spR.rho (lfR (sR V (Z0 V)) lb (Z0 V) (gI V (Z0 V))),spR.heap (lfR (sR V (Z0 V)) lb (Z0 V) (gI V (Z0 V))),[8]⟩:=by
   rw [G2b (D8t V),F2h]
  rw [e0,e1]
  have hk:F3 prog (C9 prog lib2 60) F8 C2t (spR.rho (lfR (sR V (Z0 V)) lb (Z0 V) (gI V (Z0 V)))) (spR.heap (lfR (sR V (Z0 V)) lb (Z0 V) (gI V (Z0 V)))) (H5 (fun _=>spR) 9 [8])=some (.exit 0,lfR (sR V (Z0 V)) lb (Z0 V) (gI V (Z0 V))):=by
   rw [F2h,D8q]; rfl
  exact SEB.loop_nat (A:=A) (B0:=Bb) (c:=C2t) (I:=fun i=>⟨spR.rho (lfR (sR V i) lb i (gI V i)),spR.heap (lfR (sR V i) lb i (gI V i)),[8]⟩) (N:=Z0 V)
   (fun i hi=>SEB.of_KP (e:=.normal) D6 D7 hp (.none _) hB (C8o hn hi) rfl) (SEB.of_KP (e:=.exit 0) D6 D7 hp (.none _) hB hk rfl) (by simp) (i:=0) (Nat.zero_le _)
 ·cases h
def spS1:SP:=⟨[.str],dd8⟩
def G9h:List Lf->Tr (SP × List Lf)
 | [.s a]=>.br (A9 (isZ a/\wn (A7 a).natAbs<=232)) (.leaf (spW1,lfT (decide (A7 a < 0)) (wn (A7 a).natAbs) (wf (A7 a).natAbs))) .fail
 | _=>.fail
def F0p (l:Bool) (s:List UInt8):Option (List Lf) :=
 brK (A9 ((0:Int)=0/\232=232/\((fun _=>0:Nat->Int)=fun _=>0)/\s=decDigits (O7 s)/\wn (O7 s)<=232))
  (brK (A9 (0<=(Z0 (O7 s):Int)/\(Z0 (O7 s):Int)<=232/\232=232)) (some (lfT l (A0g (Z0 (O7 s):Int).toNat (wf (O7 s))) (wf (O7 s)))) none) none
def D9t (a:List UInt8) (l:Bool):Option (List Lf) :=
 brK (decide ((0:Int)<=0/\(0:Int) < (a.length:Int))) (brK (decide ((a.length:Int) >= 1)) (brK (decide ((0:Int)<=1/\(1:Int)<=(a.length:Int)) && true) (brK ((a.take 1).drop 0 == [45])
  (brK (true && decide ((0:Int)<=1/\(1:Int)<=(a.length:Int))) (F0p l ((a.take a.length).drop 1)) none) (F0p l a)) none) (F0p l a)) none
theorem G4k (a:List UInt8):(C9 prog F2q 60).call 72 (spS1.rho [.s a]) (spS1.heap [.s a]) (A1j spW1 8 [])=D9t a (((a.getD 0 0).toNat:Int) == 45):=by kernel_rfl
theorem D9s {l:Bool} {V:Nat} (h:wn V<=232):F0p l (decDigits V)=some (lfT l (wn V) (wf V)):=by
 unfold F0p
 rw [B5h,A8 (show _/\_ from ⟨rfl,rfl,rfl,rfl,h⟩),Int.toNat_natCast,A7x _ _ (D8t V)]
 have hk:Z0 V<=232:=by unfold Z0; split <;> omega
 rw [A8 (show _/\_ from ⟨by omega,by omega,rfl⟩)]
 rfl
def pBig10:Prims:=pBig9.addh 72 (H9 8 (funP spS1 8 [] G9h))
theorem E1j {A:Amb} (hT:Tab A) (hG:gN prog<=A.G):PrimOK prog A pBig10:=by
 refine (C8e hT hG).addl gsz func72 (by kernel_rfl) (L8 D6 D7 rfl fun ls sq l h=>?_)
 unfold G9h at h
 split at h
 ·rename_i a
  obtain ⟨hc,hv⟩:=Tr.br1 h
  cases hv
  obtain ⟨hz,hn⟩:=D9 hc
  refine ⟨⟨.inr rfl,.inr rfl,.inr rfl,.inr rfl,.inr rfl,.inr rfl,.inr rfl,.inr rfl,trivial⟩,rfl,rfl,F2q,60,F0i hT hG,(G4k a).trans ?_⟩
  unfold isZ at hz
  generalize hZ:A7 a=Z at *
  subst hz
  have hl:0 < (itoa Z).length:=by
   cases hh:itoa Z with
   | nil=>exact (A2b Z hh).elim
   | cons x y=>simp
  rw [A3p]
  unfold D9t
  rw [dT (show (0:Int)<=0/\(0:Int) < ((itoa Z).length:Int) by omega),dT (show ((itoa Z).length:Int) >= 1 by omega),dT (show (0:Int)<=1/\(1:Int)<=((itoa Z).length:Int) by omega),List.take_length]
  have habs:=A8o Z
  by_cases h0:Z < 0
  ·rw [if_pos h0] at habs
   have:((itoa Z).take 1).drop 0=[45]:=by unfold itoa; rw [if_pos h0]; rfl
   rw [this,habs,D9s hn]
   rfl
  ·rw [if_neg h0] at habs
   have:(((itoa Z).take 1).drop 0 == [45])=false:=by
    have hh:=A3p Z
    rw [dF h0] at hh
    cases hi:itoa Z with
    | nil=>exact (A2b Z hi).elim
    | cons x y =>
     rw [hi] at hh
     simp only [List.take_succ_cons,List.take_zero,List.drop_zero]
     rw [beq_eq_false_iff_ne] at hh ⊢
     intro e
     cases e
     exact hh rfl
   rw [this,habs,D9s hn]
   rfl
 ·cases h
end Go.Proofs.Tryz
namespace Go.Proofs.Tryz
open Go.Ad
open Go.Lib (decDigits itoa)
def E3w (g1 g2:List AV->Heap->Tr (AV × Heap × List Nat)):List AV->Heap->Tr (AV × Heap × List Nat):=fun args B =>
 match g1 args B with
 | .fail=>g2 args B
 | t=>t
theorem B2k {g1 g2:List AV->Heap->Tr (AV × Heap × List Nat)} {args:List AV} {B:Heap} {y:AV × Heap × List Nat} (h:(E3w g1 g2 args B).get=some y):(g1 args B).get=some y \/ (g2 args B).get=some y:=by
 unfold E3w at h
 split at h
 ·exact .inr h
 ·exact .inl h
def T9 (b:Nat):AV:=.ptr (some (b,0))
def opB (ad:AV) (b:Nat):OP:=.cells [.is ad,.list b] 0 true 92
def B3q (ad:AV):SP:=⟨[pW 8,.str],dd8++[opB ad 9,.text 5]⟩
def E2t:SP:=⟨[.int .i64,.is .nilIface],dd8++[opB (T9 8) 9,.text 5]⟩
def F2b:SP:=⟨[.int .i64,.is .nilIface],dd8++[opB (T9 8) 10,.dead,.text 5]⟩
def TWS (sq:SP):List Lf->Tr (SP × List Lf)
 | [.s u,.n n,.s s]=>.br (decide (n=s.length) && decide (n+u.length < 2147483648)) (.leaf (sq,[.i u.length,.n (n+u.length),.s (s++u)])) .fail
 | _=>.fail
theorem F6p (u s:List UInt8) (n:Nat):(C9 prog lib2 60).call 42 ((B3q (.ptr none)).rho [.s u,.n n,.s s]) ((B3q (.ptr none)).heap [.s u,.n n,.s s]) (V7 E2t 9 [8,9]) =
  brK (true && decide (n=s.length/\n+u.length < 2147483648)) (some [.i u.length,.n (n+u.length),.s (s++u)]) none:=by kernel_rfl
theorem F4c (u s:List UInt8) (n:Nat):(C9 prog lib2 60).call 42 ((B3q (T9 8)).rho [.s u,.n n,.s s]) ((B3q (T9 8)).heap [.s u,.n n,.s s]) (V7 E2t 9 [8,9]) =
  brK (true && decide (n=s.length/\n+u.length < 2147483648)) (some [.i u.length,.n (n+u.length),.s (s++u)]) none:=by kernel_rfl
theorem F6v (u s:List UInt8) (n:Nat):(C9 prog lib2 60).call 42 ((B3q (T9 8)).rho [.s u,.n n,.s s]) ((B3q (T9 8)).heap [.s u,.n n,.s s]) (V7 F2b 10 [8,9]) =
  brK (true && decide (n=s.length/\n+u.length < 2147483648)) (some [.i u.length,.n (n+u.length),.s (s++u)]) none:=by kernel_rfl
def B2e (ad:AV):SP:=⟨[pW 8,.int .u8],dd8++[opB ad 9,.text 5]⟩
def E2o:SP:=⟨[.is .nilIface],dd8++[opB (T9 8) 9,.text 5]⟩
def F0e:SP:=⟨[.is .nilIface],dd8++[opB (T9 8) 10,.dead,.text 5]⟩
def TWB (sq:SP):List Lf->Tr (SP × List Lf)
 | [.i c,.n n,.s s]=>.br ((decide (0<=c) && decide (c < 256)) && (decide (n=s.length) && decide (n+1 < 2147483648))) (.leaf (sq,[.n (n+1),.s (s++[Nat.toUInt8 c.toNat])])) .fail
 | _=>.fail
theorem F6i (c:Int) (s:List UInt8) (n:Nat):(C9 prog lib2 60).call 39 ((B2e (.ptr none)).rho [.i c,.n n,.s s]) ((B2e (.ptr none)).heap [.i c,.n n,.s s]) (A1j E2o 9 [8,9]) =
  brK (decide (0<=c/\c < 256) && decide (n=s.length/\n+1 < 2147483648)) (some [.n (n+1),.s (s++[Nat.toUInt8 c.toNat])]) none:=by kernel_rfl
theorem F6n (c:Int) (s:List UInt8) (n:Nat):(C9 prog lib2 60).call 39 ((B2e (T9 8)).rho [.i c,.n n,.s s]) ((B2e (T9 8)).heap [.i c,.n n,.s s]) (A1j E2o 9 [8,9]) =
  brK (decide (0<=c/\c < 256) && decide (n=s.length/\n+1 < 2147483648)) (some [.n (n+1),.s (s++[Nat.toUInt8 c.toNat])]) none:=by kernel_rfl
theorem F5f (c:Int) (s:List UInt8) (n:Nat):(C9 prog lib2 60).call 39 ((B2e (T9 8)).rho [.i c,.n n,.s s]) ((B2e (T9 8)).heap [.i c,.n n,.s s]) (A1j F0e 10 [8,9]) =
  brK (decide (0<=c/\c < 256) && decide (n=s.length/\n+1 < 2147483648)) (some [.n (n+1),.s (s++[Nat.toUInt8 c.toNat])]) none:=by kernel_rfl
def gWS:List AV->Heap->Tr (AV × Heap × List Nat):=E3w (funQ (B3q (.ptr none)) 9 [8,9] (TWS E2t)) (E3w (funQ (B3q (T9 8)) 9 [8,9] (TWS E2t)) (funQ (B3q (T9 8)) 10 [8,9] (TWS F2b)))
def gWB:List AV->Heap->Tr (AV × Heap × List Nat):=E3w (funP (B2e (.ptr none)) 9 [8,9] (TWB E2o)) (E3w (funP (B2e (T9 8)) 9 [8,9] (TWB E2o)) (funP (B2e (T9 8)) 10 [8,9] (TWB F0e)))
def pBig11:Prims:=(pBig10.addh 42 (H9 8 gWS)).addh 39 (H9 8 gWB)
section
variable {A:Amb} (hT:Tab A) (hG:gN prog<=A.G)
include hT hG
theorem B3x:PrimOK prog A pBig11:=by
 have hp:=I8 hT
 have ws:∀ ad m sq0,okD m [8,9] 0 (B3q ad).h=true->okD m [8,9] 0 sq0.h=true->(∀ s n u k,frP [8,9] 0 ((B3q ad).heap [.s u,.n n,.s s]) (sq0.heap [.i (u.length:Int),.n k,.s (s++u)]))->(∀ u s n,(C9 prog lib2 60).call 42 ((B3q ad).rho [.s u,.n n,.s s]) ((B3q ad).heap [.s u,.n n,.s s]) (V7 sq0 m [8,9])=brK (true && decide (n=s.length/\n+u.length < 2147483648)) (some [.i u.length,.n (n+u.length),.s (s++u)]) none) ->
   ∀ args B v B' D,(funQ (B3q ad) m [8,9] (TWS sq0) args B).get=some (v,B',D)->AFr B B' D/\CallT prog A 42 args B v B' D:=fun ad m sq0 ok1 ok2 hfr hr=>J7 D6 D7 ok1 fun ls sq l h=>by
  unfold TWS at h
  split at h
  ·rename_i u n s
   obtain ⟨hc,hv⟩:=Tr.br1 h
   cases hv
   rw [Bool.and_eq_true,decide_eq_true_eq,decide_eq_true_eq] at hc
   refine ⟨hfr _ _ _ _,ok2,lib2,60,_,hp,(hr u s n).trans ?_,fun _ _=>.refl⟩
   rw [dT (show n=s.length/\n+u.length < 2147483648 from hc)]; rfl
  ·cases h
 have wb:∀ ad m sq0,okD m [8,9] 0 (B2e ad).h=true->okD m [8,9] 0 sq0.h=true->sq0.t.length=1->(∀ s n (c:Int) k,frP [8,9] 0 ((B2e ad).heap [.i c,.n n,.s s]) (sq0.heap [.n k,.s (s++[Nat.toUInt8 c.toNat])]))->(∀ c s n,(C9 prog lib2 60).call 39 ((B2e ad).rho [.i c,.n n,.s s]) ((B2e ad).heap [.i c,.n n,.s s]) (A1j sq0 m [8,9])=brK (decide (0<=c/\c < 256) && decide (n=s.length/\n+1 < 2147483648)) (some [.n (n+1),.s (s++[Nat.toUInt8 c.toNat])]) none) ->
   ∀ args B v B' D,(funP (B2e ad) m [8,9] (TWB sq0) args B).get=some (v,B',D)->AFr B B' D/\CallT prog A 39 args B v B' D:=fun ad m sq0 ok1 ok2 hl hfr hr=>L8 D6 D7 ok1 fun ls sq l h=>by
  unfold TWB at h
  split at h
  ·rename_i c n s
   obtain ⟨hc,hv⟩:=Tr.br1 h
   cases hv
   simp only [Bool.and_eq_true,decide_eq_true_eq] at hc
   refine ⟨hfr _ _ _ _,ok2,hl,lib2,60,hp,(hr c s n).trans ?_⟩
   rw [dT (show 0<=c/\c < 256 from hc.1),dT (show n=s.length/\n+1 < 2147483648 from hc.2)]; rfl
  ·cases h
 refine ((E1j hT hG).addl gsz func42 (by kernel_rfl) fun args B v B' D h=>?_).addl gsz func39 (by kernel_rfl) fun args B v B' D h=>?_
 ·rcases B2k h with h | h
  ·exact ws (.ptr none) 9 E2t rfl rfl (fun _ _ _ _=>⟨.inr rfl,.inr rfl,.inr rfl,.inr rfl,.inr rfl,.inr rfl,.inr rfl,.inr rfl,.inl rfl,.inl rfl,trivial⟩) F6p _ _ _ _ _ h
  ·rcases B2k h with h | h
   ·exact ws (T9 8) 9 E2t rfl rfl (fun _ _ _ _=>⟨.inr rfl,.inr rfl,.inr rfl,.inr rfl,.inr rfl,.inr rfl,.inr rfl,.inr rfl,.inl rfl,.inl rfl,trivial⟩) F4c _ _ _ _ _ h
   ·exact ws (T9 8) 10 F2b rfl rfl (fun _ _ _ _=>⟨.inr rfl,.inr rfl,.inr rfl,.inr rfl,.inr rfl,.inr rfl,.inr rfl,.inr rfl,.inl rfl,.inl rfl,trivial⟩) F6v _ _ _ _ _ h
 ·rcases B2k h with h | h
  ·exact wb (.ptr none) 9 E2o rfl rfl rfl (fun _ _ _ _=>⟨.inr rfl,.inr rfl,.inr rfl,.inr rfl,.inr rfl,.inr rfl,.inr rfl,.inr rfl,.inl rfl,.inl rfl,trivial⟩) F6i _ _ _ _ _ h
  ·rcases B2k h with h | h
   ·exact wb (T9 8) 9 E2o rfl rfl rfl (fun _ _ _ _=>⟨.inr rfl,.inr rfl,.inr rfl,.inr rfl,.inr rfl,.inr rfl,.inr rfl,.inr rfl,.inl rfl,.inl rfl,trivial⟩) F6n _ _ _ _ _ h
   ·exact wb (T9 8) 10 F0e rfl rfl rfl (fun _ _ _ _=>⟨.inr rfl,.inr rfl,.inr rfl,.inr rfl,.inr rfl,.inr rfl,.inr rfl,.inr rfl,.inl rfl,.inl rfl,trivial⟩) F5f _ _ _ _ _ h
end
end Go.Proofs.Tryz
