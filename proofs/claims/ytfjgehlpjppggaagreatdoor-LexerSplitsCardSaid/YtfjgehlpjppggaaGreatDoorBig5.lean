/- Numbers of any size: quotient and remainder. -/
import Derived.Test.YtfjgehlpjppggaaGreatDoorBig1
import Derived.Test.YtfjgehlpjppggaaGreatDoorAdNum
noncomputable section
namespace Go.Proofs.Tryz
open Go.Ad
def C7p:Code:=f150.body.getD .skip
def C8q:Code:=I7 (J7 2 C7p)
def D2v:Code:=I7 (J7 0 C7p)
def spV:SP:=⟨[pW 8,pW 9,.drop,.drop,.drop,.drop,pW 10,pW 11,.int .i64,.int .i64]++dr 80,dd8++[opW,opW,opW,opW]⟩
def spU:SP:=⟨[pW 8,pW 9,.drop,.drop,.drop,.drop,pW 10,pW 11,.int .i64]++dr 81,dd8++[opW,opW,opW,opW]⟩
def lf4 (l:Bool) (n:Int) (f:Nat->Int) (l':Bool) (n':Int) (g:Nat->Int) (lq:Bool) (nq:Int) (fq:Nat->Int) (lr:Bool) (nr:Int) (fr:Nat->Int):List Lf :=
 [.b l,.i n,.n 232,.f f,.b l',.i n',.n 232,.f g,.b lq,.i nq,.n 232,.f fq,.b lr,.i nr,.n 232,.f fr]
section
variable (i d:Int) (l:Bool) (n:Int) (f:Nat->Int) (l':Bool) (n':Int) (g:Nat->Int) (lq:Bool) (nq:Int) (fq:Nat->Int) (lr:Bool) (nr:Int) (fr:Nat->Int)
def lfV:List Lf:=.i i :: .i d :: lf4 l n f l' n' g lq nq fq lr nr fr
def lfU:List Lf:=.i i :: lf4 l n f l' n' g lq nq fq lr nr fr
theorem E5s:E9 prog (C8 prog pBig6 60) F7 C8q (spV.rho (lfV i d l n f l' n' g lq nq fq lr nr fr)) (spV.heap (lfV i d l n f l' n' g lq nq fq lr nr fr)) (H6 (fun _=>spV) 12 [11]) =
  brK (A9 (0<=nr/\nr<=232/\232=232/\232=232)) (brK (decide (D4z nr n' fr g >= 0)) (brK (A9 (232=232/\232=232/\okE nr fr n' g))
   (brK (A9 (232=232/\232=232/\B0u (W (0 - B7f nr fr n' g)) 0 nr fr n' g (A0f (W (0 - B7f nr fr n' g)) 0 nr fr n' g)))
    (some (.normal,lfV i (W (d+B7f nr fr n' g)) l n f l' n' g lq nq fq lr (wn (A0f (W (0 - B7f nr fr n' g)) 0 nr fr n' g)) (wf (A0f (W (0 - B7f nr fr n' g)) 0 nr fr n' g)))) none) none)
   (some (.exit 2,lfV i d l n f l' n' g lq nq fq lr nr fr))) none:=by kernel_rfl
end
section
variable {i:Int} {l:Bool} {n:Int} {f:Nat->Int} {l':Bool} {lq:Bool} {nq:Int} {fq:Nat->Int} {lr:Bool} {Y T d:Nat}
theorem D1f (hY:0 < Y) (hYn:wn Y<=231) (hle:Y<=T) (hlt:T < Y*BB) (hd:d+T / Y < BB):∃ k:Nat,1<=k/\k*Y<=T /\
  E9 prog (C8 prog pBig6 60) F7 C8q (spV.rho (lfV i d l n f l' (wn Y) (wf Y) lq nq fq lr (wn T) (wf T))) (spV.heap (lfV i d l n f l' (wn Y) (wf Y) lq nq fq lr (wn T) (wf T))) (H6 (fun _=>spV) 12 [11]) =
   some (.normal,lfV i ((d+k:Nat):Int) l n f l' (wn Y) (wf Y) lq nq fq lr (wn (T - k*Y)) (wf (T - k*Y))):=by
 obtain ⟨_,_,_,k,hk,k1,k2,k3⟩:=D8b hY hle hlt
 refine ⟨k,k1,k3,?_⟩
 have hB:BB=1000000000:=rfl
 have hTn:wn T<=232:=by
  refine Z7 (Nat.lt_of_lt_of_le hlt ?_)
  have h1:Y*BB<=BB ^ 231*BB:=Nat.mul_le_mul_right _ (Nat.le_of_lt (C4z.1 hYn))
  exact h1
 have hkd:k<=T / Y:=(Nat.le_div_iff_mul_le hY).2 k3
 rw [E5s,hk]
 have wT:=N8 hTn
 have wY:=N8 (V:=Y) (by omega)
 have e1:W (0 - (k:Int))=-(k:Int):=by rw [W,wrap64 (by omega) (by omega)]; omega
 have e2:W ((d:Int)+k)=((d+k:Nat):Int):=by rw [W,wrap64 (by omega) (by omega)]; omega
 have hsub:((T - k*Y:Nat):Int)=(T:Int)+-(k:Int)*(Y:Int)*((BB ^ 0:Nat):Int):=by
  rw [Int.ofNat_sub k3]
  push_cast
  rw [Int.neg_mul]
  simp only [Int.pow_zero,Int.mul_one]
  omega
 have hsum:A0f (-(k:Int)) 0 (wn T) (wf T) (wn Y) (wf Y)=T - k*Y:=by
  unfold A0f
  rw [G7,G7,show (0:Int).toNat=0 from rfl,<- hsub,Int.toNat_natCast]
 rw [e1,e2,hsum,C8c hTn (by omega),dT hle]
 rw [A8 (show _/\_ from ⟨by omega,by omega,rfl,rfl⟩),A8 (show _/\_ from ⟨rfl,rfl,wT,wY,by rw [G7]; exact hY,by rw [G7,G7]; exact hle,by rw [G7,G7]; exact hlt⟩),
  A8 (show _/\_ from ⟨rfl,rfl,wT,wY,⟨by omega,by omega⟩,Int.le_refl _,by omega,Z7 (Nat.lt_of_le_of_lt (Nat.sub_le _ _) (C4z.1 hTn)),by rw [G7,G7]; exact hsub⟩)]
 rfl
theorem C8l (hYn:wn Y<=231) (hT:T < Y) :
  E9 prog (C8 prog pBig6 60) F7 C8q (spV.rho (lfV i d l n f l' (wn Y) (wf Y) lq nq fq lr (wn T) (wf T))) (spV.heap (lfV i d l n f l' (wn Y) (wf Y) lq nq fq lr (wn T) (wf T))) (H6 (fun _=>spV) 12 [11]) =
   some (.exit 2,lfV i d l n f l' (wn Y) (wf Y) lq nq fq lr (wn T) (wf T)):=by
 have hTn:wn T<=231:=Z7 (Nat.lt_trans hT (C4z.1 hYn))
 rw [E5s,C8c (by omega) (by omega),dF (show ¬ Y<=T by omega),A8 (show _/\_ from ⟨by omega,by omega,rfl,rfl⟩)]
 rfl
end
def C8o:Blk:=hookP spV 12 [11] fun
 | [.i i,.i d,.b l,.i n,.n m,.f f,.b l',.i n',.n m',.f g,.b lq,.i nq,.n mq,.f fq,.b lr,.i nr,.n mr,.f fr] =>
  .br (A9 (m=232/\m'=232/\mq=232/\mr=232/\d=0/\isW nr fr/\isW n' g/\n'<=231/\0 < F4 n' g/\F4 nr fr < F4 n' g*BB))
   (.leaf (.normal,spV,lfV i ((F4 nr fr / F4 n' g:Nat):Int) l n f l' n' g lq nq fq lr (wn (F4 nr fr % F4 n' g)) (wf (F4 nr fr % F4 n' g)))) .fail
 | _=>.fail
section
variable {A:Amb} (hT:Tab A) (hG:prog.globals.size<=A.G)
include hT hG
theorem E5r:∀ ρ B e' ρ' B' D,(C8o ρ B).get=some (e',ρ',B',D)->AFr B B' D/\SEB prog A B (.block 2 (.loop C8q)) ⟨ρ,B,[]⟩ e' ⟨ρ',B',D⟩:=by
 have hp:=C1f hT hG
 refine M8 rfl fun ls e sq l h=>?_
 split at h
 ·rename_i i d lb n m f lb' n' m' g lq nq mq fq lr nr mr fr
  obtain ⟨hc,hv⟩:=Tr.br1 h
  cases hv
  obtain ⟨rfl,rfl,rfl,rfl,rfl,w1,w2,hYn,hY,hlt⟩:=D7 hc
  obtain ⟨a1,a2,a3⟩:=R6 w1
  obtain ⟨b1,b2,b3⟩:=R6 w2
  generalize hX:F4 nr fr=R at *
  generalize hYY:F4 n' g=Y at *
  subst a1 a2 b1 b2
  have hYn:wn Y<=231:=by omega
  refine ⟨⟨.inr rfl,.inr rfl,.inr rfl,.inr rfl,.inr rfl,.inr rfl,.inr rfl,.inr rfl,.inr rfl,.inr rfl,.inr rfl,.inl rfl,trivial⟩,fun Bb hB=>SEB.block_exit (id:=2) ?_⟩
  refine SEB.while (fun x:Nat × Nat=>x.1+x.2*Y=R) (fun x=>x.1) (fun x=>⟨spV.rho (lfV i (x.2:Int) lb n f lb' (wn Y) (wf Y) lq nq fq lr (wn x.1) (wf x.1)),spV.heap (lfV i (x.2:Int) lb n f lb' (wn Y) (wf Y) lq nq fq lr (wn x.1) (wf x.1)),[11]⟩)
   (fun _=>(.exit 2,⟨spV.rho (lfV i ((R / Y:Nat):Int) lb n f lb' (wn Y) (wf Y) lq nq fq lr (wn (R % Y)) (wf (R % Y))),spV.heap (lfV i ((R / Y:Nat):Int) lb n f lb' (wn Y) (wf Y) lq nq fq lr (wn (R % Y)) (wf (R % Y))),[11]⟩)) (fun x hx=>?_) (R,0) (by simp)
  obtain ⟨T,d⟩:=x
  simp only at hx ⊢
  have hdR:R / Y=d+T / Y:=by rw [<- hx,Nat.add_comm,Nat.mul_comm,Nat.mul_add_div hY]
  have hmR:R % Y=T % Y:=by rw [<- hx,Nat.add_comm,Nat.mul_comm,Nat.mul_add_mod]
  have hRB:R / Y < BB:=by rw [Nat.div_lt_iff_lt_mul hY,Nat.mul_comm]; exact hlt
  by_cases hle:Y<=T
  ·left
   have hTl:T < Y*BB:=by omega
   obtain ⟨k,k1,k2,hk⟩:=D1f (i:=i) (l:=lb) (n:=n) (f:=f) (l':=lb') (lq:=lq) (nq:=nq) (fq:=fq) (lr:=lr) (d:=d) hY hYn hle hTl (by omega)
   have hkY:0 < k*Y:=Nat.mul_pos k1 hY
   refine ⟨(T - k*Y,d+k),?_,?_,trivial,SEB.of_KP (e:=.normal) D5 D6 hp (.none _) hB hk rfl⟩
   ·simp only [Nat.add_mul]; omega
   ·simp only; omega
  ·right
   have hk:=C8l (i:=i) (l:=lb) (n:=n) (f:=f) (l':=lb') (lq:=lq) (nq:=nq) (fq:=fq) (lr:=lr) (d:=d) (T:=T) hYn (by omega)
   rw [hdR,hmR,Nat.div_eq_of_lt (show T < Y by omega),Nat.mod_eq_of_lt (show T < Y by omega),Nat.add_zero]
   exact ⟨by simp,SEB.of_KP (e:=.exit 2) D5 D6 hp (.none _) hB hk rfl⟩
 ·cases h
end
end Go.Proofs.Tryz
namespace Go.Proofs.Tryz
open Go.Ad
section
variable (i:Int) (l:Bool) (n:Int) (f:Nat->Int) (l':Bool) (n':Int) (g:Nat->Int) (lq:Bool) (nq:Int) (fq:Nat->Int) (lr:Bool) (nr:Int) (fr:Nat->Int)
def F9s (f1:Nat->Int) (n1:Int) (dd:Int) (nr2:Int) (fr2:Nat->Int):Option (AEx × List Lf) :=
 brK (decide (i >= 0)) (brK (decide (0<=nr/\nr<=232) && true) (brK (decide (2<=2) && decide (0+nr.toNat<=232) && (decide (2<=3) && decide (232<=232)))
  (brK (decide (0<=i/\i < 232)) (brK (decide (i.toNat < 232)) (brK (A9 (0<=W (nr+1)/\W (nr+1)<=232/\232=232))
   (brK (A9 (232=232/\232=232/\232=232/\232=232/\(0:Int)=0/\isW n1 f1/\isW n' g/\n'<=231/\0 < F4 n' g/\F4 n1 f1 < F4 n' g*BB))
    (brK (decide (0<=i/\i < 232)) (brK (decide (i.toNat < 232)) (some (.normal,lfU (W (i - 1)) l n f l' n' g lq (if W (i+1) > nq then W (i+1) else nq) (X9 fq i.toNat dd) lr nr2 fr2)) none) none) none) none) none) none) none) none)
  (some (.exit 0,lfU i l n f l' n' g lq nq fq lr nr fr))
def shF (fr:Nat->Int) (k:Nat) (v:Int):Nat->Int:=X9 (A9p fr 1 (min k 231) fun x=>fr (0+x)) 0 v
theorem E5u:E9 prog (C8 prog pBig6 60) (A8y 2 C8o) D2v (spU.rho (lfU i l n f l' n' g lq nq fq lr nr fr)) (spU.heap (lfU i l n f l' n' g lq nq fq lr nr fr)) (H6 (fun _=>spU) 12 [10,11]) =
  F9s i l n f l' n' g lq nq fq lr nr fr (shF fr nr.toNat (f i.toNat)) (Z5 (W (nr+1)).toNat (shF fr nr.toNat (f i.toNat)))
   ((F4 (Z5 (W (nr+1)).toNat (shF fr nr.toNat (f i.toNat))) (shF fr nr.toNat (f i.toNat)) / F4 n' g:Nat):Int)
   (wn (F4 (Z5 (W (nr+1)).toNat (shF fr nr.toNat (f i.toNat))) (shF fr nr.toNat (f i.toNat)) % F4 n' g))
   (wf (F4 (Z5 (W (nr+1)).toNat (shF fr nr.toNat (f i.toNat))) (shF fr nr.toNat (f i.toNat)) % F4 n' g)):=by kernel_rfl
end
def nqI (X i:Nat):Nat:=if i=wn X then 0 else wn X
def lfX (l l':Bool) (X Y i:Nat):List Lf:=lfU ((i:Int) - 1) l (wn X) (wf X) l' (wn Y) (wf Y) false (nqI X i) (fqI (X / Y) i) false (wn (X / BB ^ i % Y)) (wf (X / BB ^ i % Y))
theorem C9p {l l':Bool} {X Y i:Nat} (hX:wn X<=232) (hY:0 < Y) (hYn:wn Y<=231) (hi:i+1<=wn X) :
  E9 prog (C8 prog pBig6 60) (A8y 2 C8o) D2v (spU.rho (lfX l l' X Y (i+1))) (spU.heap (lfX l l' X Y (i+1))) (H6 (fun _=>spU) 12 [10,11])=some (.normal,lfX l l' X Y i):=by
 have e0:((i+1:Nat):Int) - 1=i:=by omega
 obtain ⟨d1,d2,d3⟩:=E9e (X:=X) (Y:=Y) (i:=i) hY
 unfold lfX
 rw [E5u,e0]
 generalize hR:X / BB ^ (i+1) % Y=R at *
 have hRY:R < Y:=by rw [<- hR]; exact Nat.mod_lt _ hY
 have hRn:wn R<=231:=Z7 (Nat.lt_trans hRY (C4z.1 hYn))
 have hw:=A4t X i
 have hsh:shF (wf R) ((wn R:Nat):Int).toNat (wf X ((i:Nat):Int).toNat)=wf (R*BB+wd X i):=by
  unfold shF
  rw [Int.toNat_natCast,Int.toNat_natCast]
  simp only [Nat.zero_add]
  exact G0n hw hRn
 have e1:W (((wn R:Nat):Int)+1)=((wn R+1:Nat):Int):=by rw [W,wrap64 (by omega) (by omega)]; omega
 rw [hsh,e1,Int.toNat_natCast,A7y _ _ (D0e hw),G7,G7,d1,d2]
 have hTn:wn (R*BB+wd X i)<=232:=Nat.le_trans (D0e hw) (by omega)
 unfold F9s
 have e2:W ((i:Int) - 1)=(i:Int) - 1:=by rw [W,wrap64 (by omega) (by omega)]
 have e3:W ((i:Int)+1)=((i+1:Nat):Int):=by rw [W,wrap64 (by omega) (by omega)]; omega
 rw [e1,e2,e3,Int.toNat_natCast,Int.toNat_natCast,F2v]
 have e4:(if ((i+1:Nat):Int) > ((nqI X (i+1):Nat):Int) then ((i+1:Nat):Int) else ((nqI X (i+1):Nat):Int))=((nqI X i:Nat):Int):=by
  unfold nqI
  rw [if_neg (show ¬ i=wn X by omega)]
  by_cases h:i+1=wn X
  ·rw [if_pos h,if_pos (by omega),h]
  ·rw [if_neg h,if_neg (by omega)]
 rw [e4,dT (show (i:Int) >= 0 by omega),dT (show 0<=((wn R:Nat):Int)/\((wn R:Nat):Int)<=232 by omega),dT (show 0+wn R<=232 by omega),dT (show 0<=(i:Int)/\(i:Int) < 232 by omega),dT (show i < 232 by omega),
  A8 (show _/\_ from ⟨by omega,by omega,rfl⟩),A8 (show _/\_ from ⟨rfl,rfl,rfl,rfl,rfl,N8 hTn,N8 (by omega),by omega,by rw [G7]; exact hY,by rw [G7,G7]; exact d3⟩)]
 rfl
theorem D7s {l l':Bool} {X Y:Nat} :
  E9 prog (C8 prog pBig6 60) (A8y 2 C8o) D2v (spU.rho (lfX l l' X Y 0)) (spU.heap (lfX l l' X Y 0)) (H6 (fun _=>spU) 12 [10,11])=some (.exit 0,lfX l l' X Y 0):=by
 unfold lfX
 rw [E5u]
 rfl
def G9x:Blk:=hookP spU 12 [10,11] fun
 | [.i i,.b l,.i n,.n m,.f f,.b l',.i n',.n m',.f g,.b lq,.i nq,.n mq,.f fq,.b lr,.i nr,.n mr,.f fr] =>
  .br (A9 (m=232/\m'=232/\mq=232/\mr=232/\i=n - 1/\lq=false/\nq=0/\(fq=fun _=>0)/\lr=false/\nr=0/\(fr=fun _=>0)/\isW n f/\isW n' g/\n'<=231/\0 < F4 n' g))
   (.leaf (.normal,spU,lfX l l' (F4 n f) (F4 n' g) 0)) .fail
 | _=>.fail
def E8c:Prims:=pBig6.addb 150 0 G9x
section
variable {A:Amb} (hT:Tab A) (hG:prog.globals.size<=A.G)
include hT hG
theorem E7x:PrimOK prog A E8c:=by
 have hp:=C1f hT hG
 refine PrimOK.addbP hp func150 (show f150.body=some C7p by kernel_rfl) (body:=.loop D2v) (by kernel_rfl) (by kernel_rfl) fun ls e sq l h=>?_
 split at h
 ·rename_i i lb n m f lb' n' m' g lq nq mq fq lr nr mr fr
  obtain ⟨hc,hv⟩:=Tr.br1 h
  cases hv
  obtain ⟨rfl,rfl,rfl,rfl,rfl,rfl,rfl,rfl,rfl,rfl,rfl,w1,w2,hYn,hY⟩:=D7 hc
  obtain ⟨a1,a2,a3⟩:=R6 w1
  obtain ⟨b1,b2,b3⟩:=R6 w2
  generalize hX:F4 n f=X at *
  generalize hYY:F4 n' g=Y at *
  subst a1 a2 b1 b2
  have hYn:wn Y<=231:=by omega
  have hblk:BlkOK prog A (A8y 2 C8o) D2v:=BlkOK.one (body:=.loop C8q) (by kernel_rfl) fun ρ B e ρ' B' D hq=>(E5r hT hG ρ B e ρ' B' D hq).2
  refine ⟨⟨.inr rfl,.inr rfl,.inr rfl,.inr rfl,.inr rfl,.inr rfl,.inr rfl,.inr rfl,.inr rfl,.inr rfl,.inl rfl,.inl rfl,trivial⟩,fun Bb hB=>SEB.block_exit (id:=0) ?_⟩
  have e0:(⟨spU.rho [.i ((wn X:Int) - 1),.b lb,.i (wn X:Int),.n 232,.f (wf X),.b lb',.i (wn Y:Int),.n 232,.f (wf Y),.b false,.i 0,.n 232,.f fun _=>0,.b false,.i 0,.n 232,.f fun _=>0],
    spU.heap [.i ((wn X:Int) - 1),.b lb,.i (wn X:Int),.n 232,.f (wf X),.b lb',.i (wn Y:Int),.n 232,.f (wf Y),.b false,.i 0,.n 232,.f fun _=>0,.b false,.i 0,.n 232,.f fun _=>0],[10,11]⟩:St) =
    ⟨spU.rho (lfX lb lb' X Y (wn X)),spU.heap (lfX lb lb' X Y (wn X)),[10,11]⟩:=by
   have h1:X / BB ^ wn X % Y=0:=by rw [Nat.div_eq_of_lt (A2e X),Nat.zero_mod]
   have h2:nqI X (wn X)=0:=by simp [nqI]
   unfold lfX lfU lf4
   rw [h1,h2,F8c,C7v,Y3]
   rfl
  rw [e0]
  refine SEB.while (fun i:Nat=>i<=wn X) (fun i=>i) (fun i=>⟨spU.rho (lfX lb lb' X Y i),spU.heap (lfX lb lb' X Y i),[10,11]⟩) (fun _=>(.exit 0,⟨spU.rho (lfX lb lb' X Y 0),spU.heap (lfX lb lb' X Y 0),[10,11]⟩)) (fun i hi=>?_) (wn X) (Nat.le_refl _)
  cases i with
  | zero=>right; exact ⟨by simp,SEB.of_KP (e:=.exit 0) D5 D6 hp hblk hB D7s rfl⟩
  | succ i=>left; exact ⟨i,by omega,by omega,rfl,SEB.of_KP (e:=.normal) D5 D6 hp hblk hB (C9p a3 hY hYn hi) rfl⟩
 ·cases h
end
def H0k:SP:=⟨[pW 10,pW 11],dd8++[opW,opW,opW,opW]⟩
def G6d:List Lf->Tr (SP × List Lf)
 | [.b l,.i n,.n m,.f f,.b l',.i n',.n m',.f g]=>.br (A9 (m=232/\m'=232/\isW n f/\isW n' g/\n'<=231/\0 < F4 n' g))
  (.leaf (H0k,lf4 l n f l' n' g false (wn (F4 n f / F4 n' g)) (wf (F4 n f / F4 n' g)) false (wn (F4 n f % F4 n' g)) (wf (F4 n f % F4 n' g)))) .fail
 | _=>.fail
def D9p (l:Bool) (n:Int) (f:Nat->Int) (l':Bool) (n':Int) (g:Nat->Int) (X Y:Nat):Option (List Lf) :=
 brK (A9 (232=232/\232=232/\232=232/\232=232/\W (n - 1)=n - 1/\false=false/\(0:Int)=0/\((fun _=>0:Nat->Int)=fun _=>0)/\false=false/\(0:Int)=0/\((fun _=>0:Nat->Int)=fun _=>0)/\isW n f/\isW n' g/\n'<=231/\0 < Y))
  (brK (A9 (0<=((nqI X 0:Nat):Int)/\((nqI X 0:Nat):Int)<=232/\232=232))
   (some (lf4 l (wn X) (wf X) l' (wn Y) (wf Y) false (Z5 ((nqI X 0:Nat):Int).toNat (fqI (X / Y) 0)) (fqI (X / Y) 0) false (wn (X / BB ^ 0 % Y)) (wf (X / BB ^ 0 % Y)))) none) none
theorem G5h (l:Bool) (n:Int) (f:Nat->Int) (l':Bool) (n':Int) (g:Nat->Int):(C8 prog E8c 60).call 150 (sp2.rho (lf2 l n f l' n' g)) (sp2.heap (lf2 l n f l' n' g)) (O8 H0k 10 []) =
  D9p l n f l' n' g (F4 n f) (F4 n' g):=by kernel_rfl
def pBig7:Prims:=pBig6.addh 150 (G8 8 (funQ sp2 10 [] G6d))
theorem B8i {A:Amb} (hT:Tab A) (hG:prog.globals.size<=A.G):PrimOK prog A pBig7:=by
 refine (C1f hT hG).addl gsz func150 (by kernel_rfl) (I6 D5 D6 rfl fun ls sq l h=>?_)
 unfold G6d at h
 split at h
 ·rename_i lb n m f lb' n' m' g
  obtain ⟨hc,hv⟩:=Tr.br1 h
  cases hv
  obtain ⟨rfl,rfl,w1,w2,hYn,hY⟩:=D7 hc
  refine ⟨⟨.inr rfl,.inr rfl,.inr rfl,.inr rfl,.inr rfl,.inr rfl,.inr rfl,.inr rfl,.inr rfl,.inr rfl,trivial⟩,rfl,E8c,60,_,E7x hT hG,(G5h _ _ f _ _ g).trans ?_,fun _ _=>.refl⟩
  unfold D9p
  obtain ⟨a1,a2,a3⟩:=R6 w1
  obtain ⟨b1,b2,b3⟩:=R6 w2
  have hw:W (n - 1)=n - 1:=by rw [W,wrap64 (by omega) (by omega)]
  rw [A8 (show _/\_ from ⟨rfl,rfl,rfl,rfl,hw,rfl,rfl,rfl,rfl,rfl,rfl,w1,w2,hYn,hY⟩)]
  generalize hX:F4 n f=X at *
  generalize hYY:F4 n' g=Y at *
  subst a1 a2 b1 b2
  have hq:wn (X / Y)<=nqI X 0:=by
   have h1:wn (X / Y)<=wn X:=Z7 (Nat.lt_of_le_of_lt (Nat.div_le_self _ _) (A2e X))
   unfold nqI
   split <;> omega
  have hq2:nqI X 0<=232:=by unfold nqI; split <;> omega
  rw [A8 (show _/\_ from ⟨by omega,by omega,rfl⟩),Int.toNat_natCast,F0n,A7y _ _ hq,Nat.pow_zero,Nat.div_one]
  rfl
 ·cases h
end Go.Proofs.Tryz
namespace Go.Proofs.Tryz
open Go.Ad
def C8a (f:Nat->Int):Nat->Int:=E1p ((List.range 232).map fun i=>.sint .i64 (f i))
theorem F5n {f:Nat->Int} (h:∀ i,232<=i->f i=0):C8a f=f:=by
 funext i
 unfold C8a E1p
 rw [List.getD_eq_getElem?_getD,List.getElem?_map]
 by_cases hi:i < 232
 ·rw [List.getElem?_range hi]; rfl
 ·rw [List.getElem?_eq_none (by simp; omega),h i (by omega)]; rfl
theorem D8x {V:Nat} (h:wn V<=232):C8a (wf V)=wf V:=F5n fun i hi=>by simp [wf,A3e (V:=V) (i:=i) (by omega)]
section
variable (l:Bool) (n:Int) (f:Nat->Int) (l':Bool) (n':Int) (g:Nat->Int)
def D9o:Option (List Lf) :=
 brK (l == l') (brK (A9 (232=232/\232=232/\B0u 1 0 n f n' g (A0f 1 0 n f n' g))) (some (lf2 l (wn (A0f 1 0 n f n' g)) (wf (A0f 1 0 n f n' g)) l' n' g)) none)
  (brK (A9 (0<=n/\n<=232/\232=232/\232=232)) (brK (decide (D4z n n' f g >= 0)) (brK (A9 (232=232/\232=232/\B0u (-1) 0 n f n' g (A0f (-1) 0 n f n' g))) (some (lf2 l (wn (A0f (-1) 0 n f n' g)) (wf (A0f (-1) 0 n f n' g)) l' n' g)) none)
   (brK (A9 (232=232/\232=232/\B0u (-1) 0 n' (C8a g) n f (A0f (-1) 0 n' (C8a g) n f))) (some (lf2 l' (wn (A0f (-1) 0 n' (C8a g) n f)) (C8a (wf (A0f (-1) 0 n' (C8a g) n f))) l' n' g)) none)) none)
theorem G0l:(C8 prog pBig7 60).call 151 (sp2.rho (lf2 l n f l' n' g)) (sp2.heap (lf2 l n f l' n' g)) (V8 F8j 10 [8])=D9o l n f l' n' g:=by kernel_rfl
end
def A0k (l:Bool) (V:Nat) (l':Bool) (U:Nat):Bool × Nat:=bif l == l' then (l,V+U) else bif decide (U<=V) then (l,V - U) else (l',U - V)
theorem E7r {n n':Int} {f g:Nat->Int}:A0f 1 0 n f n' g=F4 n f+F4 n' g:=by
 unfold A0f
 rw [show (0:Int).toNat=0 from rfl,Nat.pow_zero]
 omega
theorem C8w {n n':Int} {f g:Nat->Int}:A0f (-1) 0 n f n' g=F4 n f - F4 n' g:=by
 unfold A0f
 rw [show (0:Int).toNat=0 from rfl,Nat.pow_zero]
 omega
def G7y:List Lf->Tr (SP × List Lf)
 | [.b l,.i n,.n m,.f f,.b l',.i n',.n m',.f g]=>.br (A9 (m=232/\m'=232/\isW n f/\isW n' g/\wn (F4 n f+F4 n' g)<=232))
  (.leaf (F8j,lf2 (A0k l (F4 n f) l' (F4 n' g)).1 (wn (A0k l (F4 n f) l' (F4 n' g)).2) (wf (A0k l (F4 n f) l' (F4 n' g)).2) l' n' g)) .fail
 | _=>.fail
def pBig8:Prims:=pBig7.addh 151 (G8 8 (funP sp2 10 [8] G7y))
theorem D1e {A:Amb} (hT:Tab A) (hG:prog.globals.size<=A.G):PrimOK prog A pBig8:=by
 refine (B8i hT hG).addl gsz func151 (by kernel_rfl) (K6 D5 D6 rfl fun ls sq l h=>?_)
 unfold G7y at h
 split at h
 ·rename_i lb n m f lb' n' m' g
  obtain ⟨hc,hv⟩:=Tr.br1 h
  cases hv
  obtain ⟨rfl,rfl,w1,w2,hs⟩:=D7 hc
  refine ⟨⟨.inr rfl,.inr rfl,.inr rfl,.inr rfl,.inr rfl,.inr rfl,.inr rfl,.inr rfl,.inl rfl,.inr rfl,trivial⟩,rfl,rfl,pBig7,60,B8i hT hG,(G0l _ _ f _ _ g).trans ?_⟩
  unfold D9o
  obtain ⟨a1,a2,a3⟩:=R6 w1
  obtain ⟨b1,b2,b3⟩:=R6 w2
  have hg:C8a g=g:=by rw [b2]; exact D8x b3
  rw [hg,E7r,C8w,C8w]
  unfold A0k
  have hle:∀ a b:Nat,wn b<=232->a<=b->wn a<=232:=fun a b h1 h2=>Z7 (Nat.lt_of_le_of_lt h2 (C4z.1 h1))
  have hb:decide (D4z n n' f g >= 0)=decide (F4 n' g<=F4 n f):=by
   have:=C8c a3 b3
   rwa [<- a1,<- a2,<- b1,<- b2] at this
  have q1:B0u 1 0 n f n' g (F4 n f+F4 n' g):=⟨w1,w2,⟨by omega,by omega⟩,Int.le_refl _,by omega,hs,by rw [show (0:Int).toNat=0 from rfl,Nat.pow_zero]; omega⟩
  rw [show A9 (232=232/\232=232/\B0u 1 0 n f n' g (F4 n f+F4 n' g))=true from A8 ⟨rfl,rfl,q1⟩,show A9 (0<=n/\n<=232/\232=232/\232=232)=true from A8 ⟨by omega,by omega,rfl,rfl⟩,hb]
  have h3:wn (F4 n' g - F4 n f)<=232:=hle _ _ b3 (Nat.sub_le _ _)
  rw [D8x h3]
  cases hl:lb == lb' with
  | true=>rfl
  | false =>
   by_cases hle2:F4 n' g<=F4 n f
   ·have q2:B0u (-1) 0 n f n' g (F4 n f - F4 n' g):=⟨w1,w2,⟨by omega,by omega⟩,Int.le_refl _,by omega,hle _ _ a3 (Nat.sub_le _ _),by rw [show (0:Int).toNat=0 from rfl,Nat.pow_zero]; omega⟩
    rw [dT hle2,show A9 (232=232/\232=232/\B0u (-1) 0 n f n' g (F4 n f - F4 n' g))=true from A8 ⟨rfl,rfl,q2⟩]
    rfl
   ·have q3:B0u (-1) 0 n' g n f (F4 n' g - F4 n f):=⟨w2,w1,⟨by omega,by omega⟩,Int.le_refl _,by omega,h3,by rw [show (0:Int).toNat=0 from rfl,Nat.pow_zero]; omega⟩
    rw [dF hle2,show A9 (232=232/\232=232/\B0u (-1) 0 n' g n f (F4 n' g - F4 n f))=true from A8 ⟨rfl,rfl,q3⟩]
    rfl
 ·cases h
def E0e:Code:=f110.body.getD .skip
def D2f:Code:=I7 (J7 0 E0e)
def spP:SP:=⟨[pW 8,pW 9,.drop,.drop,.drop,pW 10]++dr 15++[.int .i64,.int .i64]++dr 14,dd8++[opW,opW,opW]⟩
def lf3 (l:Bool) (n:Int) (f:Nat->Int) (l':Bool) (n':Int) (g:Nat->Int) (lq:Bool) (nq:Int) (fq:Nat->Int):List Lf :=
 [.b l,.i n,.n 232,.f f,.b l',.i n',.n 232,.f g,.b lq,.i nq,.n 232,.f fq]
section
variable (c i:Int) (l:Bool) (n:Int) (f:Nat->Int) (l':Bool) (n':Int) (g:Nat->Int) (lq:Bool) (nq:Int) (fq:Nat->Int)
def lfP:List Lf:=.i c :: .i i :: lf3 l n f l' n' g lq nq fq
theorem F2b:E9 prog (C8 prog pBig7 60) F7 D2f (spP.rho (lfP c i l n f l' n' g lq nq fq)) (spP.heap (lfP c i l n f l' n' g lq nq fq)) (H6 (fun _=>spP) 11 [10]) =
  brK (decide (i < c)) (brK (decide (0<=i/\i < 232)) (brK (decide (i.toNat < 232)) (brK (A9 (232=232/\232=232/\B0u (g i.toNat) i nq fq n f (A0f (g i.toNat) i nq fq n f)))
   (some (.normal,lfP c (W (i+1)) l n f l' n' g lq (wn (A0f (g i.toNat) i nq fq n f)) (wf (A0f (g i.toNat) i nq fq n f)))) none) none) none)
   (some (.exit 0,lfP c i l n f l' n' g lq nq fq)):=by kernel_rfl
end
def lfM (l l':Bool) (X Y i:Nat):List Lf:=lfP (wn Y) i l (wn X) (wf X) l' (wn Y) (wf Y) (l != l') (wn (X*(Y % BB ^ i))) (wf (X*(Y % BB ^ i)))
theorem D0l {l l':Bool} {X Y i:Nat} (hXY:wn X+wn Y<=232) (hi:i < wn Y) :
  E9 prog (C8 prog pBig7 60) F7 D2f (spP.rho (lfM l l' X Y i)) (spP.heap (lfM l l' X Y i)) (H6 (fun _=>spP) 11 [10])=some (.normal,lfM l l' X Y (i+1)):=by
 have hB:BB=1000000000:=rfl
 have hw:=A4t Y i
 have hprod:∀ k,wn (X*(Y % BB ^ k))<=232:=fun k=>by
  refine Z7 ?_
  have h1:X*(Y % BB ^ k)<=X*Y:=Nat.mul_le_mul_left _ (Nat.mod_le _ _)
  have h2:X*Y < BB ^ (wn X+wn Y):=by
   rw [Nat.pow_add]
   exact Nat.mul_lt_mul'' (A2e X) (A2e Y)
  have h3:BB ^ (wn X+wn Y)<=BB ^ 232:=Nat.pow_le_pow_right (by decide) hXY
  exact Nat.lt_of_le_of_lt h1 (Nat.lt_of_lt_of_le h2 h3)
 have hstep:X*(Y % BB ^ (i+1))=X*(Y % BB ^ i)+wd Y i*X*BB ^ i:=by
  rw [A4i,Nat.mul_add]
  congr 1
  rw [<- Nat.mul_assoc,Nat.mul_comm X]
 have hS:((X*(Y % BB ^ (i+1)):Nat):Int)=((X*(Y % BB ^ i):Nat):Int)+(wd Y i:Int)*(X:Int)*((BB ^ i:Nat):Int):=by
  rw [hstep]; push_cast; rfl
 have hsum:A0f (wf Y ((i:Nat):Int).toNat) (i:Int) (wn (X*(Y % BB ^ i))) (wf (X*(Y % BB ^ i))) (wn X) (wf X)=X*(Y % BB ^ (i+1)):=by
  unfold A0f
  rw [G7,G7,Int.toNat_natCast]
  show (((X*(Y % BB ^ i):Nat):Int)+(wd Y i:Int)*(X:Int)*((BB ^ i:Nat):Int)).toNat=_
  rw [<- hS,Int.toNat_natCast]
 unfold lfM
 rw [F2b,hsum]
 have e1:W ((i:Int)+1)=((i+1:Nat):Int):=by rw [W,wrap64 (by omega) (by omega)]; omega
 have q:B0u (wf Y ((i:Nat):Int).toNat) i (wn (X*(Y % BB ^ i))) (wf (X*(Y % BB ^ i))) (wn X) (wf X) (X*(Y % BB ^ (i+1))):=by
  refine ⟨N8 (hprod i),N8 (by omega),?_,by omega,by omega,hprod _,?_⟩
  ·rw [Int.toNat_natCast]; simp only [wf]; omega
  ·rw [G7,G7,Int.toNat_natCast]; exact hS
 rw [show A9 (232=232/\232=232/\B0u (wf Y ((i:Nat):Int).toNat) i (wn (X*(Y % BB ^ i))) (wf (X*(Y % BB ^ i))) (wn X) (wf X) (X*(Y % BB ^ (i+1))))=true from A8 ⟨rfl,rfl,q⟩,
  e1,dT (show (i:Int) < (wn Y:Int) by omega),dT (show 0<=(i:Int)/\(i:Int) < 232 by omega),Int.toNat_natCast,dT (show i < 232 by omega)]
 rfl
def G9i:Blk:=hookP spP 11 [10] fun
 | [.i c,.i i,.b l,.i n,.n m,.f f,.b l',.i n',.n m',.f g,.b lq,.i nq,.n mq,.f fq] =>
  .br (A9 (m=232/\m'=232/\mq=232/\c=n'/\i=0/\lq=(l != l')/\nq=0/\(fq=fun _=>0)/\isW n f/\isW n' g/\n+n'<=232)) (.leaf (.normal,spP,lfM l l' (F4 n f) (F4 n' g) (wn (F4 n' g)))) .fail
 | _=>.fail
def F1s:Prims:=pBig8.addb 110 0 G9i
theorem F0o {A:Amb} (hT:Tab A) (hG:prog.globals.size<=A.G):PrimOK prog A F1s:=by
 have hp:=B8i hT hG
 refine PrimOK.addbP (D1e hT hG) func110 (show f110.body=some E0e by kernel_rfl) (body:=.loop D2f) (by kernel_rfl) (by kernel_rfl) fun ls e sq l h=>?_
 split at h
 ·rename_i c i lb n m f lb' n' m' g lq nq mq fq
  obtain ⟨hc,hv⟩:=Tr.br1 h
  cases hv
  obtain ⟨rfl,rfl,rfl,rfl,rfl,rfl,rfl,rfl,w1,w2,hn⟩:=D7 hc
  obtain ⟨a1,a2,a3⟩:=R6 w1
  obtain ⟨b1,b2,b3⟩:=R6 w2
  generalize hX:F4 n f=X at *
  generalize hYY:F4 c g=Y at *
  subst a1 a2 b1 b2
  refine ⟨⟨.inr rfl,.inr rfl,.inr rfl,.inr rfl,.inr rfl,.inr rfl,.inr rfl,.inr rfl,.inr rfl,.inr rfl,.inl rfl,trivial⟩,fun Bb hB=>SEB.block_exit (id:=0) ?_⟩
  have e0:(⟨spP.rho [.i (wn Y:Int),.i 0,.b lb,.i (wn X:Int),.n 232,.f (wf X),.b lb',.i (wn Y:Int),.n 232,.f (wf Y),.b (lb != lb'),.i 0,.n 232,.f fun _=>0],
    spP.heap [.i (wn Y:Int),.i 0,.b lb,.i (wn X:Int),.n 232,.f (wf X),.b lb',.i (wn Y:Int),.n 232,.f (wf Y),.b (lb != lb'),.i 0,.n 232,.f fun _=>0],[10]⟩:St) =
    ⟨spP.rho (lfM lb lb' X Y 0),spP.heap (lfM lb lb' X Y 0),[10]⟩:=by
   unfold lfM lfP lf3
   rw [Nat.pow_zero,Nat.mod_one,Nat.mul_zero,C7v,Y3]
   rfl
  rw [e0]
  refine SEB.loop_nat (A:=A) (B0:=Bb) (c:=D2f) (I:=fun i=>⟨spP.rho (lfM lb lb' X Y i),spP.heap (lfM lb lb' X Y i),[10]⟩) (N:=wn Y)
   (fun i hi=>SEB.of_KP (e:=.normal) D5 D6 hp (.none _) hB (D0l (by omega) hi) rfl) ?_ (by simp) (i:=0) (Nat.zero_le _)
  have hk:E9 prog (C8 prog pBig7 60) F7 D2f (spP.rho (lfM lb lb' X Y (wn Y))) (spP.heap (lfM lb lb' X Y (wn Y))) (H6 (fun _=>spP) 11 [10])=some (.exit 0,lfM lb lb' X Y (wn Y)):=by
   unfold lfM
   rw [F2b,dF (show ¬ (wn Y:Int) < (wn Y:Int) by omega)]
   rfl
  exact SEB.of_KP (e:=.exit 0) D5 D6 hp (.none _) hB hk rfl
 ·cases h
def G8o:SP:=⟨[pW 10],dd8++[opW,opW,opW]⟩
def G9v:List Lf->Tr (SP × List Lf)
 | [.b l,.i n,.n m,.f f,.b l',.i n',.n m',.f g]=>.br (A9 (m=232/\m'=232/\isW n f/\isW n' g/\n+n'<=232))
  (.leaf (G8o,lf3 l n f l' n' g (l != l') (wn (F4 n f*F4 n' g)) (wf (F4 n f*F4 n' g)))) .fail
 | _=>.fail
def D9u (l:Bool) (n:Int) (f:Nat->Int) (l':Bool) (n':Int) (g:Nat->Int) (X Y:Nat):Option (List Lf) :=
 brK (A9 (232=232/\232=232/\232=232/\n'=n'/\(0:Int)=0/\(l != l')=(l != l')/\(0:Int)=0/\((fun _=>0:Nat->Int)=fun _=>0)/\isW n f/\isW n' g/\n+n'<=232))
  (some (lf3 l (wn X) (wf X) l' (wn Y) (wf Y) (l != l') (wn (X*(Y % BB ^ wn Y))) (wf (X*(Y % BB ^ wn Y))))) none
theorem G5b (l:Bool) (n:Int) (f:Nat->Int) (l':Bool) (n':Int) (g:Nat->Int):(C8 prog F1s 60).call 110 (sp2.rho (lf2 l n f l' n' g)) (sp2.heap (lf2 l n f l' n' g)) (V8 G8o 10 []) =
  D9u l n f l' n' g (F4 n f) (F4 n' g):=by kernel_rfl
def pBig9:Prims:=pBig8.addh 110 (G8 8 (funP sp2 10 [] G9v))
theorem C9c {A:Amb} (hT:Tab A) (hG:prog.globals.size<=A.G):PrimOK prog A pBig9:=by
 refine (D1e hT hG).addl gsz func110 (by kernel_rfl) (K6 D5 D6 rfl fun ls sq l h=>?_)
 unfold G9v at h
 split at h
 ·rename_i lb n m f lb' n' m' g
  obtain ⟨hc,hv⟩:=Tr.br1 h
  cases hv
  obtain ⟨rfl,rfl,w1,w2,hn⟩:=D7 hc
  refine ⟨⟨.inr rfl,.inr rfl,.inr rfl,.inr rfl,.inr rfl,.inr rfl,.inr rfl,.inr rfl,.inr rfl,.inr rfl,trivial⟩,rfl,rfl,F1s,60,F0o hT hG,(G5b _ _ f _ _ g).trans ?_⟩
  unfold D9u
  obtain ⟨a1,a2,a3⟩:=R6 w1
  obtain ⟨b1,b2,b3⟩:=R6 w2
  rw [A8 (show _/\_ from ⟨rfl,rfl,rfl,rfl,rfl,rfl,rfl,rfl,w1,w2,hn⟩),<- a1,<- a2,<- b1,<- b2]
  rw [show F4 n' g % BB ^ wn (F4 n' g)=F4 n' g from Nat.mod_eq_of_lt (A2e _)]
  rfl
 ·cases h
end Go.Proofs.Tryz
namespace Go.Proofs.Tryz
open Go.Ad
open Go.Lib (decDigits itoa)
def E0r:Code:=f109.body.getD .skip
def C4a:Code:=I7 (J7 0 E0r)
def spR:SP:=⟨[.drop,.drop,.drop,.str,pW 8]++dr 43,dd8++[opW]⟩
def lfR (s:List UInt8) (l:Bool) (n:Int) (f:Nat->Int):List Lf:=[.s s,.b l,.i n,.n 232,.f f]
abbrev frR (s:List UInt8):Int:=if W ((s.length:Int) - 9) > 0 then W ((s.length:Int) - 9) else 0
theorem E0t (s:List UInt8) (l:Bool) (n:Int) (f:Nat->Int):E9 prog (C8 prog lib2 60) F7 C4a (spR.rho (lfR s l n f)) (spR.heap (lfR s l n f)) (H6 (fun _=>spR) 9 [8]) =
  brK (decide ((s.length:Int) > 0)) (brK (true && decide (0<=frR s/\frR s<=(s.length:Int))) (brK (decide (((s.take s.length).drop (frR s).toNat).length<=18) && (Lib.atoi ((s.take s.length).drop (frR s).toNat)).isSome) (brK (decide (0<=n/\n < 232)) (brK (decide (n.toNat < 232)) (brK (decide (0<=frR s/\frR s<=(s.length:Int)) && true)
  (some (.normal,[.s ((s.take (frR s).toNat).drop 0),.b l,.i (W (n+1)),.n 232,.f (X9 f n.toNat ((Lib.atoi ((s.take s.length).drop (frR s).toNat)).getD 0))])) none) none) none) none) none) (some (.exit 0,[.s s,.b l,.i n,.n 232,.f f])):=by kernel_rfl
theorem D0b {V k:Nat} {l:Bool} (hV:wn V<=232) (h:k < Y8 V):E9 prog (C8 prog lib2 60) F7 C4a (spR.rho (lfR (sR V k) l k (gI V k))) (spR.heap (lfR (sR V k) l k (gI V k))) (H6 (fun _=>spR) 9 [8]) =
  some (.normal,lfR (sR V (k+1)) l ((k+1:Nat):Int) (gI V (k+1))):=by
 obtain ⟨c,c1,c2,c3,c4,c5⟩:=F4p h
 have hk:k < 232:=by
  unfold Y8 at h
  split at h
  ·omega
  ·omega
 have hne:0 < (sR V k).length:=by
  rw [C5y h]
  have:=A1r (V / BB ^ k)
  cases hh:decDigits (V / BB ^ k) with
  | nil=>exact (this hh).elim
  | cons a b=>simp
 have hlen:(sR V k).length<=2088:=by
  rw [C5y h]
  exact B3m (Z7 (Nat.lt_of_le_of_lt (Nat.div_le_self _ _) (C4z.1 hV)))
 have hf:frR (sR V k)=(c:Int):=by
  unfold frR
  rw [W,wrap64 (by omega) (by omega)]
  split <;> omega
 have e1:W ((k:Int)+1)=((k+1:Nat):Int):=by rw [W,wrap64 (by omega) (by omega)]; omega
 show E9 prog (C8 prog lib2 60) F7 C4a (spR.rho (lfR (sR V k) l ((k:Nat):Int) (gI V k))) (spR.heap (lfR (sR V k) l ((k:Nat):Int) (gI V k))) (H6 (fun _=>spR) 9 [8])=_
 rw [E0t,hf,Int.toNat_natCast,List.take_length]
 rw [c5,Int.toNat_natCast,c3,e1,dT (show ((sR V k).length:Int) > 0 by omega),dT (show 0<=(c:Int)/\(c:Int)<=((sR V k).length:Int) by omega),dT (show ((sR V k).drop c).length<=18 by omega),dT (show 0<=(k:Int)/\(k:Int) < 232 by omega),dT hk]
 simp only [Option.getD_some,List.drop_zero]
 rw [F5i]
 rfl
def G7i:Blk:=hookP spR 9 [8] fun
 | [.s s,.b l,.i n,.n m,.f f]=>.br (A9 (n=0/\m=232/\(f=fun _=>0)/\s=decDigits (O7 s)/\wn (O7 s)<=232)) (.leaf (.normal,spR,lfR [] l (Y8 (O7 s)) (wf (O7 s)))) .fail
 | _=>.fail
def F1o:Prims:=pBig9.addb 109 0 G7i
theorem E6y {A:Amb} (hT:Tab A) (hG:prog.globals.size<=A.G):PrimOK prog A F1o:=by
 have hp:=K5 hT
 refine PrimOK.addbP (C9c hT hG) func109 (show f109.body=some E0r by kernel_rfl) (body:=.loop C4a) (by kernel_rfl) (by kernel_rfl) fun ls e sq l h=>?_
 split at h
 ·rename_i s lb n m f
  obtain ⟨hc,hv⟩:=Tr.br1 h
  cases hv
  obtain ⟨rfl,rfl,rfl,hs,hn⟩:=D7 hc
  generalize hV:O7 s=V at *
  subst hs
  refine ⟨⟨.inr rfl,.inr rfl,.inr rfl,.inr rfl,.inr rfl,.inr rfl,.inr rfl,.inr rfl,.inl rfl,trivial⟩,fun Bb hB=>SEB.block_exit (id:=0) ?_⟩
  have e0:(⟨spR.rho [.s (decDigits V),.b lb,.i 0,.n 232,.f fun _=>0],spR.heap [.s (decDigits V),.b lb,.i 0,.n 232,.f fun _=>0],[8]⟩:St)=⟨spR.rho (lfR (sR V 0) lb (0:Nat) (gI V 0)),spR.heap (lfR (sR V 0) lb (0:Nat) (gI V 0)),[8]⟩:=by
   rw [F7a]; rfl
  have e1:(⟨spR.rho (lfR [] lb (Y8 V) (wf V)),spR.heap (lfR [] lb (Y8 V) (wf V)),[8]⟩:St)=⟨spR.rho (lfR (sR V (Y8 V)) lb (Y8 V) (gI V (Y8 V))),spR.heap (lfR (sR V (Y8 V)) lb (Y8 V) (gI V (Y8 V))),[8]⟩:=by
   rw [G1u (D8h V),F1d]
  rw [e0,e1]
  have hk:E9 prog (C8 prog lib2 60) F7 C4a (spR.rho (lfR (sR V (Y8 V)) lb (Y8 V) (gI V (Y8 V)))) (spR.heap (lfR (sR V (Y8 V)) lb (Y8 V) (gI V (Y8 V)))) (H6 (fun _=>spR) 9 [8])=some (.exit 0,lfR (sR V (Y8 V)) lb (Y8 V) (gI V (Y8 V))):=by
   rw [F1d,E0t]; rfl
  exact SEB.loop_nat (A:=A) (B0:=Bb) (c:=C4a) (I:=fun i=>⟨spR.rho (lfR (sR V i) lb i (gI V i)),spR.heap (lfR (sR V i) lb i (gI V i)),[8]⟩) (N:=Y8 V)
   (fun i hi=>SEB.of_KP (e:=.normal) D5 D6 hp (.none _) hB (D0b hn hi) rfl) (SEB.of_KP (e:=.exit 0) D5 D6 hp (.none _) hB hk rfl) (by simp) (i:=0) (Nat.zero_le _)
 ·cases h
def spS1:SP:=⟨[.str],dd8⟩
def G6w:List Lf->Tr (SP × List Lf)
 | [.s a]=>.br (A9 (isZ a/\wn (A7 a).natAbs<=232)) (.leaf (spW1,lfT (decide (A7 a < 0)) (wn (A7 a).natAbs) (wf (A7 a).natAbs))) .fail
 | _=>.fail
def F0e (l:Bool) (s:List UInt8):Option (List Lf) :=
 brK (A9 ((0:Int)=0/\232=232/\((fun _=>0:Nat->Int)=fun _=>0)/\s=decDigits (O7 s)/\wn (O7 s)<=232))
  (brK (A9 (0<=(Y8 (O7 s):Int)/\(Y8 (O7 s):Int)<=232/\232=232)) (some (lfT l (Z5 (Y8 (O7 s):Int).toNat (wf (O7 s))) (wf (O7 s)))) none) none
def D8d (a:List UInt8) (l:Bool):Option (List Lf) :=
 brK (decide ((0:Int)<=0/\(0:Int) < (a.length:Int))) (brK (decide ((a.length:Int) >= 1)) (brK (decide ((0:Int)<=1/\(1:Int)<=(a.length:Int)) && true) (brK ((a.take 1).drop 0 == [45])
  (brK (true && decide ((0:Int)<=1/\(1:Int)<=(a.length:Int))) (F0e l ((a.take a.length).drop 1)) none) (F0e l a)) none) (F0e l a)) none
theorem G4j (a:List UInt8):(C8 prog F1o 60).call 109 (spS1.rho [.s a]) (spS1.heap [.s a]) (V8 spW1 8 [])=D8d a (((a.getD 0 0).toNat:Int) == 45):=by kernel_rfl
theorem D9k {l:Bool} {V:Nat} (h:wn V<=232):F0e l (decDigits V)=some (lfT l (wn V) (wf V)):=by
 unfold F0e
 rw [B5t,A8 (show _/\_ from ⟨rfl,rfl,rfl,rfl,h⟩),Int.toNat_natCast,A7y _ _ (D8h V)]
 have hk:Y8 V<=232:=by unfold Y8; split <;> omega
 rw [A8 (show _/\_ from ⟨by omega,by omega,rfl⟩)]
 rfl
def pBig10:Prims:=pBig9.addh 109 (G8 8 (funP spS1 8 [] G6w))
theorem E4v {A:Amb} (hT:Tab A) (hG:prog.globals.size<=A.G):PrimOK prog A pBig10:=by
 refine (C9c hT hG).addl gsz func109 (by kernel_rfl) (K6 D5 D6 rfl fun ls sq l h=>?_)
 unfold G6w at h
 split at h
 ·rename_i a
  obtain ⟨hc,hv⟩:=Tr.br1 h
  cases hv
  obtain ⟨hz,hn⟩:=D7 hc
  refine ⟨⟨.inr rfl,.inr rfl,.inr rfl,.inr rfl,.inr rfl,.inr rfl,.inr rfl,.inr rfl,trivial⟩,rfl,rfl,F1o,60,E6y hT hG,(G4j a).trans ?_⟩
  unfold isZ at hz
  generalize hZ:A7 a=Z at *
  subst hz
  have hl:0 < (itoa Z).length:=by
   cases hh:itoa Z with
   | nil=>exact (A3g Z hh).elim
   | cons x y=>simp
  rw [A3l]
  unfold D8d
  rw [dT (show (0:Int)<=0/\(0:Int) < ((itoa Z).length:Int) by omega),dT (show ((itoa Z).length:Int) >= 1 by omega),dT (show (0:Int)<=1/\(1:Int)<=((itoa Z).length:Int) by omega),List.take_length]
  have habs:=A9d Z
  by_cases h0:Z < 0
  ·rw [if_pos h0] at habs
   have:((itoa Z).take 1).drop 0=[45]:=by unfold itoa; rw [if_pos h0]; rfl
   rw [this,habs,D9k hn]
   rfl
  ·rw [if_neg h0] at habs
   have:(((itoa Z).take 1).drop 0 == [45])=false:=by
    have hh:=A3l Z
    rw [dF h0] at hh
    cases hi:itoa Z with
    | nil=>exact (A3g Z hi).elim
    | cons x y =>
     rw [hi] at hh
     simp only [List.take_succ_cons,List.take_zero,List.drop_zero]
     rw [beq_eq_false_iff_ne] at hh ⊢
     intro e
     cases e
     exact hh rfl
   rw [this,habs,D9k hn]
   rfl
 ·cases h
end Go.Proofs.Tryz
namespace Go.Proofs.Tryz
open Go.Ad
open Go.Lib (decDigits itoa)
def E4k (g1 g2:List AV->Heap->Tr (AV × Heap × List Nat)):List AV->Heap->Tr (AV × Heap × List Nat):=fun args B =>
 match g1 args B with
 | .fail=>g2 args B
 | t=>t
theorem B3k {g1 g2:List AV->Heap->Tr (AV × Heap × List Nat)} {args:List AV} {B:Heap} {y:AV × Heap × List Nat} (h:(E4k g1 g2 args B).get=some y):(g1 args B).get=some y \/ (g2 args B).get=some y:=by
 unfold E4k at h
 split at h
 ·exact .inr h
 ·exact .inl h
def T9 (b:Nat):AV:=.ptr (some (b,0))
def opB (ad:AV) (b:Nat):OP:=.cells [.is ad,.list b] 0 true 79
def B4c (ad:AV):SP:=⟨[pW 8,.str],dd8++[opB ad 9,.text 5]⟩
def E4s:SP:=⟨[.int .i64,.is .nilIface],dd8++[opB (T9 8) 9,.text 5]⟩
def E6g:SP:=⟨[.int .i64,.is .nilIface],dd8++[opB (T9 8) 10,.dead,.text 5]⟩
def TWS (sq:SP):List Lf->Tr (SP × List Lf)
 | [.s u,.n n,.s s]=>.br (decide (n=s.length) && decide (n+u.length < 2147483648)) (.leaf (sq,[.i u.length,.n (n+u.length),.s (s++u)])) .fail
 | _=>.fail
theorem F6s (u s:List UInt8) (n:Nat):(C8 prog lib2 60).call 53 ((B4c (.ptr none)).rho [.s u,.n n,.s s]) ((B4c (.ptr none)).heap [.s u,.n n,.s s]) (O8 E4s 9 [8,9]) =
  brK (true && decide (n=s.length/\n+u.length < 2147483648)) (some [.i u.length,.n (n+u.length),.s (s++u)]) none:=by kernel_rfl
theorem F6u (u s:List UInt8) (n:Nat):(C8 prog lib2 60).call 53 ((B4c (T9 8)).rho [.s u,.n n,.s s]) ((B4c (T9 8)).heap [.s u,.n n,.s s]) (O8 E4s 9 [8,9]) =
  brK (true && decide (n=s.length/\n+u.length < 2147483648)) (some [.i u.length,.n (n+u.length),.s (s++u)]) none:=by kernel_rfl
theorem F7i (u s:List UInt8) (n:Nat):(C8 prog lib2 60).call 53 ((B4c (T9 8)).rho [.s u,.n n,.s s]) ((B4c (T9 8)).heap [.s u,.n n,.s s]) (O8 E6g 10 [8,9]) =
  brK (true && decide (n=s.length/\n+u.length < 2147483648)) (some [.i u.length,.n (n+u.length),.s (s++u)]) none:=by kernel_rfl
def B2v (ad:AV):SP:=⟨[pW 8,.int .u8],dd8++[opB ad 9,.text 5]⟩
def E2m:SP:=⟨[.is .nilIface],dd8++[opB (T9 8) 9,.text 5]⟩
def F0b:SP:=⟨[.is .nilIface],dd8++[opB (T9 8) 10,.dead,.text 5]⟩
def TWB (sq:SP):List Lf->Tr (SP × List Lf)
 | [.i c,.n n,.s s]=>.br ((decide (0<=c) && decide (c < 256)) && (decide (n=s.length) && decide (n+1 < 2147483648))) (.leaf (sq,[.n (n+1),.s (s++[Nat.toUInt8 c.toNat])])) .fail
 | _=>.fail
theorem F4n (c:Int) (s:List UInt8) (n:Nat):(C8 prog lib2 60).call 52 ((B2v (.ptr none)).rho [.i c,.n n,.s s]) ((B2v (.ptr none)).heap [.i c,.n n,.s s]) (V8 E2m 9 [8,9]) =
  brK (decide (0<=c/\c < 256) && decide (n=s.length/\n+1 < 2147483648)) (some [.n (n+1),.s (s++[Nat.toUInt8 c.toNat])]) none:=by kernel_rfl
theorem F5o (c:Int) (s:List UInt8) (n:Nat):(C8 prog lib2 60).call 52 ((B2v (T9 8)).rho [.i c,.n n,.s s]) ((B2v (T9 8)).heap [.i c,.n n,.s s]) (V8 E2m 9 [8,9]) =
  brK (decide (0<=c/\c < 256) && decide (n=s.length/\n+1 < 2147483648)) (some [.n (n+1),.s (s++[Nat.toUInt8 c.toNat])]) none:=by kernel_rfl
theorem F8l (c:Int) (s:List UInt8) (n:Nat):(C8 prog lib2 60).call 52 ((B2v (T9 8)).rho [.i c,.n n,.s s]) ((B2v (T9 8)).heap [.i c,.n n,.s s]) (V8 F0b 10 [8,9]) =
  brK (decide (0<=c/\c < 256) && decide (n=s.length/\n+1 < 2147483648)) (some [.n (n+1),.s (s++[Nat.toUInt8 c.toNat])]) none:=by kernel_rfl
def gWS:List AV->Heap->Tr (AV × Heap × List Nat):=E4k (funQ (B4c (.ptr none)) 9 [8,9] (TWS E4s)) (E4k (funQ (B4c (T9 8)) 9 [8,9] (TWS E4s)) (funQ (B4c (T9 8)) 10 [8,9] (TWS E6g)))
def gWB:List AV->Heap->Tr (AV × Heap × List Nat):=E4k (funP (B2v (.ptr none)) 9 [8,9] (TWB E2m)) (E4k (funP (B2v (T9 8)) 9 [8,9] (TWB E2m)) (funP (B2v (T9 8)) 10 [8,9] (TWB F0b)))
def pBig11:Prims:=(pBig10.addh 53 (G8 8 gWS)).addh 52 (G8 8 gWB)
section
variable {A:Amb} (hT:Tab A) (hG:prog.globals.size<=A.G)
include hT hG
theorem B5x:PrimOK prog A pBig11:=by
 have hp:=K5 hT
 have ws:∀ ad m sq0,okD m [8,9] 0 (B4c ad).h=true->okD m [8,9] 0 sq0.h=true->(∀ s n u k,frP [8,9] 0 ((B4c ad).heap [.s u,.n n,.s s]) (sq0.heap [.i (u.length:Int),.n k,.s (s++u)]))->(∀ u s n,(C8 prog lib2 60).call 53 ((B4c ad).rho [.s u,.n n,.s s]) ((B4c ad).heap [.s u,.n n,.s s]) (O8 sq0 m [8,9])=brK (true && decide (n=s.length/\n+u.length < 2147483648)) (some [.i u.length,.n (n+u.length),.s (s++u)]) none) ->
   ∀ args B v B' D,(funQ (B4c ad) m [8,9] (TWS sq0) args B).get=some (v,B',D)->AFr B B' D/\CallT prog A 53 args B v B' D:=fun ad m sq0 ok1 ok2 hfr hr=>I6 D5 D6 ok1 fun ls sq l h=>by
  unfold TWS at h
  split at h
  ·rename_i u n s
   obtain ⟨hc,hv⟩:=Tr.br1 h
   cases hv
   rw [Bool.and_eq_true,decide_eq_true_eq,decide_eq_true_eq] at hc
   refine ⟨hfr _ _ _ _,ok2,lib2,60,_,hp,(hr u s n).trans ?_,fun _ _=>.refl⟩
   rw [dT (show n=s.length/\n+u.length < 2147483648 from hc)]; rfl
  ·cases h
 have wb:∀ ad m sq0,okD m [8,9] 0 (B2v ad).h=true->okD m [8,9] 0 sq0.h=true->sq0.t.length=1->(∀ s n (c:Int) k,frP [8,9] 0 ((B2v ad).heap [.i c,.n n,.s s]) (sq0.heap [.n k,.s (s++[Nat.toUInt8 c.toNat])]))->(∀ c s n,(C8 prog lib2 60).call 52 ((B2v ad).rho [.i c,.n n,.s s]) ((B2v ad).heap [.i c,.n n,.s s]) (V8 sq0 m [8,9])=brK (decide (0<=c/\c < 256) && decide (n=s.length/\n+1 < 2147483648)) (some [.n (n+1),.s (s++[Nat.toUInt8 c.toNat])]) none) ->
   ∀ args B v B' D,(funP (B2v ad) m [8,9] (TWB sq0) args B).get=some (v,B',D)->AFr B B' D/\CallT prog A 52 args B v B' D:=fun ad m sq0 ok1 ok2 hl hfr hr=>K6 D5 D6 ok1 fun ls sq l h=>by
  unfold TWB at h
  split at h
  ·rename_i c n s
   obtain ⟨hc,hv⟩:=Tr.br1 h
   cases hv
   simp only [Bool.and_eq_true,decide_eq_true_eq] at hc
   refine ⟨hfr _ _ _ _,ok2,hl,lib2,60,hp,(hr c s n).trans ?_⟩
   rw [dT (show 0<=c/\c < 256 from hc.1),dT (show n=s.length/\n+1 < 2147483648 from hc.2)]; rfl
  ·cases h
 refine ((E4v hT hG).addl gsz func53 (by kernel_rfl) fun args B v B' D h=>?_).addl gsz func52 (by kernel_rfl) fun args B v B' D h=>?_
 ·rcases B3k h with h | h
  ·exact ws (.ptr none) 9 E4s rfl rfl (fun _ _ _ _=>⟨.inr rfl,.inr rfl,.inr rfl,.inr rfl,.inr rfl,.inr rfl,.inr rfl,.inr rfl,.inl rfl,.inl rfl,trivial⟩) F6s _ _ _ _ _ h
  ·rcases B3k h with h | h
   ·exact ws (T9 8) 9 E4s rfl rfl (fun _ _ _ _=>⟨.inr rfl,.inr rfl,.inr rfl,.inr rfl,.inr rfl,.inr rfl,.inr rfl,.inr rfl,.inl rfl,.inl rfl,trivial⟩) F6u _ _ _ _ _ h
   ·exact ws (T9 8) 10 E6g rfl rfl (fun _ _ _ _=>⟨.inr rfl,.inr rfl,.inr rfl,.inr rfl,.inr rfl,.inr rfl,.inr rfl,.inr rfl,.inl rfl,.inl rfl,trivial⟩) F7i _ _ _ _ _ h
 ·rcases B3k h with h | h
  ·exact wb (.ptr none) 9 E2m rfl rfl rfl (fun _ _ _ _=>⟨.inr rfl,.inr rfl,.inr rfl,.inr rfl,.inr rfl,.inr rfl,.inr rfl,.inr rfl,.inl rfl,.inl rfl,trivial⟩) F4n _ _ _ _ _ h
  ·rcases B3k h with h | h
   ·exact wb (T9 8) 9 E2m rfl rfl rfl (fun _ _ _ _=>⟨.inr rfl,.inr rfl,.inr rfl,.inr rfl,.inr rfl,.inr rfl,.inr rfl,.inr rfl,.inl rfl,.inl rfl,trivial⟩) F5o _ _ _ _ _ h
   ·exact wb (T9 8) 10 F0b rfl rfl rfl (fun _ _ _ _=>⟨.inr rfl,.inr rfl,.inr rfl,.inr rfl,.inr rfl,.inr rfl,.inr rfl,.inr rfl,.inl rfl,.inl rfl,trivial⟩) F8l _ _ _ _ _ h
end
end Go.Proofs.Tryz
