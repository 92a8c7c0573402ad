/- Numbers in words of nine digits, and in decimal digits: plain laws. -/
import Derived.Lib.ItoaNum
import Derived.Lib.Atoi
import Derived.Test.YtkfabaoichndpaaGreatDoorAdCore
import Derived.Lib.SlTrimSet
import Derived.KernelRfl
import Derived.Lib.Bytealg
namespace Go.Ad
def BB:Nat:=1000000000
theorem O5 (n:Nat):0 < BB ^ n:=Nat.pow_pos (by decide)
def wd (V i:Nat):Nat:=V / BB ^ i % BB
def wf (V:Nat):Nat->Int:=fun i=>(wd V i:Int)
def wn (V:Nat):Nat:=if h:V=0 then 0 else wn (V / BB)+1
termination_by V
decreasing_by exact Nat.div_lt_self (by omega) (by decide)
theorem Y9:wn 0=0:=by rw [wn]; simp
theorem A4k {V:Nat} (h:V ≠ 0):wn V=wn (V / BB)+1:=by rw [wn,dif_neg h]
theorem A2r (V:Nat):V < BB ^ wn V:=by
 induction V using Nat.strongRecOn with
 | ind V ih =>
  by_cases h:V=0
  ·subst h; rw [Y9]; decide
  ·rw [A4k h,Nat.pow_succ]
   have:=ih (V / BB) (Nat.div_lt_self (by omega) (by decide))
   exact (Nat.div_lt_iff_lt_mul (by decide)).1 this
theorem A0a {V : Nat} : ∀ {n : Nat}, V < BB ^ n -> wn V <= n
  | 0, h => by have : V = 0 := by simpa using h
               subst this; rw [Y9]; exact Nat.le_refl _
  | n + 1, h => by
    by_cases h0 : V = 0
    · subst h0; rw [Y9]; omega
    · rw [A4k h0]
      rw [Nat.pow_succ] at h
      have := A0a (V := V / BB) (n := n) ((Nat.div_lt_iff_lt_mul (by decide)).2 h)
      omega
theorem C4j {V n:Nat}:wn V<=n ↔ V < BB ^ n:=by
 refine ⟨fun h=>Nat.lt_of_lt_of_le (A2r V) (Nat.pow_le_pow_right (by decide) h),A0a⟩
theorem A6m {V n:Nat} (h:n < wn V):BB ^ n<=V:=by
 rcases Nat.lt_or_ge V (BB ^ n) with h' | h'
 ·have:=A0a h'; omega
 ·exact h'
theorem A5d (V i:Nat):wd V i < BB:=Nat.mod_lt _ (by decide)
theorem A3k {V i:Nat} (h:wn V<=i):wd V i=0:=by
 have:=C4j.1 h
 unfold wd
 rw [Nat.div_eq_of_lt this]; rfl
theorem G0s {V:Nat} (h:V ≠ 0):wd V (wn V - 1) ≠ 0:=by
 have hp:0 < wn V:=by rw [A4k h]; omega
 have h1:BB ^ (wn V - 1)<=V:=A6m (by omega)
 have h2:=A2r V
 have h3:V / BB ^ (wn V - 1) < BB:=by
  rw [Nat.div_lt_iff_lt_mul (O5 _)]
  have:BB*BB ^ (wn V - 1)=BB ^ wn V:=by rw [Nat.mul_comm,<- Nat.pow_succ]; congr 1; omega
  omega
 unfold wd
 rw [Nat.mod_eq_of_lt h3]
 have:=Nat.div_pos h1 (O5 _)
 omega
theorem A3t (V i:Nat):V % BB ^ (i+1)=V % BB ^ i+wd V i*BB ^ i:=by
 unfold wd
 rw [Nat.pow_succ,Nat.mod_mul,Nat.mul_comm (BB ^ i)]
theorem E6q {V i n:Nat} (h:i < n):wd (V % BB ^ n) i=wd V i:=by
 unfold wd
 obtain ⟨k,rfl⟩:∃ k,n=i+(k+1):=⟨n - i - 1,by omega⟩
 have e:BB ^ (i+(k+1))=BB ^ i*(BB*BB ^ k):=by rw [Nat.pow_add,Nat.pow_succ,Nat.mul_comm (BB ^ k)]
 rw [e,Nat.mod_mul_right_div_self,Nat.mod_mul_right_mod]
def wv:Nat->(Nat->Int)->Nat
 | 0,_=>0
 | n+1,f=>wv n f+(f n).toNat*BB ^ n
theorem F8d (V:Nat):∀ n,wv n (wf V)=V % BB ^ n
 | 0=>by simp [wv,Nat.mod_one]
 | n+1=>by
  rw [wv,F8d V n,A3t]
  simp [wf]
theorem G9p (V:Nat):wv (wn V) (wf V)=V:=by rw [F8d,Nat.mod_eq_of_lt (A2r V)]
def isW (n:Int) (f:Nat->Int):Prop:=n=(wn (wv n.toNat f):Int)/\f=wf (wv n.toNat f)/\n<=232
def E9 (n:Int) (f:Nat->Int):Nat:=wv n.toNat f
theorem G8 (V:Nat):E9 (wn V:Int) (wf V)=V:=by simp [E9,G9p]
theorem M9 {V:Nat} (h:wn V<=232):isW (wn V:Int) (wf V):=by
 have:=G8 V
 unfold E9 at this
 refine ⟨?_,?_,by omega⟩
 ·rw [this]
 ·rw [this]
theorem S9 {n:Int} {f:Nat->Int} (h:isW n f):n=(wn (E9 n f):Int)/\f=wf (E9 n f)/\wn (E9 n f)<=232:=by
 obtain ⟨h1,h2,h3⟩:=h
 exact ⟨h1,h2,by unfold E9; omega⟩
end Go.Ad
namespace Go.Ad
theorem A7z (V n:Nat):∃ k:Int,(V:Int)=k*(BB ^ n:Nat)+(V % BB ^ n:Nat) :=
 ⟨(V / BB ^ n:Nat),by
  have:=Nat.div_add_mod V (BB ^ n)
  rw [Nat.mul_comm] at this
  exact_mod_cast this.symm⟩
theorem C0c {S r n:Nat} {k:Int} (h:(S:Int)=k*(BB ^ n:Nat)+r) (hr:r < BB ^ n):S % BB ^ n=r:=by
 have hp:=O5 n
 have h1:((S % BB ^ n:Nat):Int)=(r:Int):=by
  rw [Int.natCast_emod,h,Int.add_comm,Int.add_mul_emod_self_right]
  exact Int.emod_eq_of_lt (by omega) (by exact_mod_cast hr)
 exact_mod_cast h1
def A9a (X Y:Nat) (fac:Int) (up S i:Nat) (rest:Int):Prop :=
 ((X % BB ^ (i+up):Nat):Int)+fac*(Y % BB ^ i:Nat)*(BB ^ up:Nat)=rest*(BB ^ (i+up):Nat)+(S % BB ^ (i+up):Nat)
section
variable {X Y up S i:Nat} {fac rest:Int} (hS:(S:Int)=X+fac*Y*(BB ^ up:Nat))
include hS
theorem B5i:A9a X Y fac up S 0 0:=by
 unfold A9a
 simp only [Nat.zero_add,Nat.pow_zero,Nat.mod_one,Int.zero_mul]
 obtain ⟨k,hk⟩:=A7z X up
 have:=C0c (S:=S) (r:=X % BB ^ up) (n:=up) (k:=k+fac*Y) (by rw [hS,Int.add_mul]; omega) (Nat.mod_lt _ (O5 _))
 rw [this]
 simp
theorem C4g (h:A9a X Y fac up S i rest):A9a X Y fac up S (i+1) ((rest+wd X (i+up)+fac*wd Y i) / (BB:Int))/\(rest+wd X (i+up)+fac*wd Y i) % (BB:Int)=(wd S (i+up):Int):=by
 have hBB:(0:Int) < (BB:Int):=by decide
 obtain ⟨s,hs⟩:∃ s,s=rest+wd X (i+up)+fac*wd Y i:=⟨_,rfl⟩
 rw [<- hs]
 obtain ⟨q,hq⟩:∃ q,q=s / (BB:Int):=⟨_,rfl⟩
 obtain ⟨t,ht⟩:∃ t,t=s % (BB:Int):=⟨_,rfl⟩
 have hqt:q*BB+t=s:=by rw [hq,ht]; have:=Int.mul_ediv_add_emod s BB; rw [Int.mul_comm] at this; exact this
 have t0:0<=t:=by rw [ht]; exact Int.emod_nonneg _ (by omega)
 have t1:t < BB:=by rw [ht]; exact Int.emod_lt_of_pos _ hBB
 rw [<- hq,<- ht]
 obtain ⟨tn,rfl⟩:∃ n:Nat,t=n:=⟨t.toNat,by omega⟩
 have e0:i+1+up=(i+up)+1:=by omega
 have px:((X % BB ^ (i+up+1):Nat):Int)=(X % BB ^ (i+up):Nat)+wd X (i+up)*(BB ^ (i+up):Nat):=by
  rw [A3t X (i+up)]; push_cast; rfl
 have py:((Y % BB ^ (i+1):Nat):Int)=(Y % BB ^ i:Nat)+wd Y i*(BB ^ i:Nat):=by
  rw [A3t Y i]; push_cast; rfl
 have pw:((BB ^ (i+up):Nat):Int)=(BB ^ i:Nat)*(BB ^ up:Nat):=by rw [Nat.pow_add]; push_cast; rfl
 have pw1:((BB ^ (i+up+1):Nat):Int)=(BB ^ (i+up):Nat)*BB:=by rw [Nat.pow_succ]; push_cast; rfl
 unfold A9a at h
 have hl:((X % BB ^ (i+up+1):Nat):Int)+fac*(Y % BB ^ (i+1):Nat)*(BB ^ up:Nat)=q*(BB ^ (i+up+1):Nat)+(tn*(BB ^ (i+up):Nat)+(S % BB ^ (i+up):Nat)):=by
  rw [px,py,pw1]
  have e1:fac*(((Y % BB ^ i:Nat):Int)+wd Y i*(BB ^ i:Nat))*(BB ^ up:Nat)=fac*(Y % BB ^ i:Nat)*(BB ^ up:Nat)+(fac*wd Y i)*(BB ^ (i+up):Nat):=by
   rw [pw,Int.mul_add,Int.add_mul]
   congr 1
   simp only [Int.mul_assoc]
  have e2:q*((BB ^ (i+up):Nat)*BB)+tn*(BB ^ (i+up):Nat)=s*(BB ^ (i+up):Nat):=by
   rw [<- hqt,Int.add_mul,Int.mul_assoc,Int.mul_comm ((BB ^ (i+up):Nat):Int)]
  have e3:s*((BB ^ (i+up):Nat):Int)=rest*(BB ^ (i+up):Nat)+wd X (i+up)*(BB ^ (i+up):Nat)+fac*wd Y i*(BB ^ (i+up):Nat):=by
   rw [hs,Int.add_mul,Int.add_mul]
  rw [e1]
  omega
 obtain ⟨kx,hx⟩:=A7z X (i+up+1)
 obtain ⟨ky,hy⟩:=A7z Y (i+1)
 have hr:tn*BB ^ (i+up)+S % BB ^ (i+up) < BB ^ (i+up+1):=by
  have h1:=Nat.mod_lt S (O5 (i+up))
  have h2:(tn+1)*BB ^ (i+up)<=BB*BB ^ (i+up):=Nat.mul_le_mul_right _ (by omega)
  rw [Nat.add_mul] at h2
  rw [Nat.pow_succ,Nat.mul_comm _ BB]
  omega
 have hmod:=C0c (S:=S) (r:=tn*BB ^ (i+up)+S % BB ^ (i+up)) (n:=i+up+1) (k:=kx+fac*ky+q) (by
  have e4:fac*(Y:Int)*(BB ^ up:Nat)=fac*ky*(BB ^ (i+up+1):Nat)+fac*(Y % BB ^ (i+1):Nat)*(BB ^ up:Nat):=by
   rw [hy,Int.mul_add,Int.add_mul]
   congr 1
   have pw2:((BB ^ (i+up+1):Nat):Int)=(BB ^ (i+1):Nat)*(BB ^ up:Nat):=by
    rw [show i+up+1=(i+1)+up by omega,Nat.pow_add]; push_cast; rfl
   rw [pw2]
   simp only [Int.mul_assoc]
  rw [hS,hx,e4,Int.add_mul,Int.add_mul]
  push_cast at hl ⊢
  omega) hr
 refine ⟨?_,?_⟩
 ·unfold A9a
  rw [e0,hl,hmod]
  push_cast
  rfl
 ·have:=A3t S (i+up)
  rw [hmod,Nat.add_comm] at this
  have h3:tn*BB ^ (i+up)=wd S (i+up)*BB ^ (i+up):=by omega
  have:=Nat.eq_of_mul_eq_mul_right (O5 _) h3
  exact_mod_cast this
theorem E4d (h:A9a X Y fac up S i rest) (hy:wn Y<=i) (hr:rest ≠ 0):i+up < max (wn X) (wn S):=by
 have hp:(0:Int) < (BB ^ (i+up):Nat):=by exact_mod_cast O5 (i+up)
 have hY:Y % BB ^ i=Y:=Nat.mod_eq_of_lt (C4j.1 hy)
 unfold A9a at h
 rw [hY] at h
 have h1:=Nat.mod_lt X (O5 (i+up))
 have h2:=Nat.mod_lt S (O5 (i+up))
 have h3:=Nat.mod_le X (BB ^ (i+up))
 have h4:=Nat.mod_le S (BB ^ (i+up))
 rcases Int.lt_or_gt_of_ne hr with hn | hn
 ·-- rest < 0
  have h5:rest*((BB ^ (i+up):Nat):Int)<=-1*((BB ^ (i+up):Nat):Int):=Int.mul_le_mul_of_nonneg_right (by omega) (by omega)
  have h6:BB ^ (i+up)<=X:=by
   rcases Nat.lt_or_ge X (BB ^ (i+up)) with h7 | h7
   ·rw [Nat.mod_eq_of_lt h7] at h
    generalize fac*(Y:Int)*(BB ^ up:Nat)=z at *
    generalize rest*((BB ^ (i+up):Nat):Int)=u at *
    omega
   ·exact h7
  have:i+up < wn X:=by
   rcases Nat.lt_or_ge (i+up) (wn X) with h7 | h7
   ·exact h7
   ·have:=C4j.1 h7; omega
  omega
 ·have h5:1*((BB ^ (i+up):Nat):Int)<=rest*((BB ^ (i+up):Nat):Int):=Int.mul_le_mul_of_nonneg_right (by omega) (by omega)
  have h6:BB ^ (i+up)<=S:=by
   generalize fac*(Y:Int)*(BB ^ up:Nat)=z at *
   generalize rest*((BB ^ (i+up):Nat):Int)=u at *
   generalize S % BB ^ (i+up)=d at *
   generalize X % BB ^ (i+up)=c at *
   omega
  have:i+up < wn S:=by
   rcases Nat.lt_or_ge (i+up) (wn S) with h7 | h7
   ·exact h7
   ·have:=C4j.1 h7; omega
  omega
theorem C9r (h:A9a X Y fac up S i 0) (hy:wn Y<=i):S / BB ^ (i+up)=X / BB ^ (i+up):=by
 have hY:Y % BB ^ i=Y:=Nat.mod_eq_of_lt (C4j.1 hy)
 unfold A9a at h
 rw [hY] at h
 have h1:=Nat.div_add_mod X (BB ^ (i+up))
 have h2:=Nat.div_add_mod S (BB ^ (i+up))
 have h3:BB ^ (i+up)*(S / BB ^ (i+up))=BB ^ (i+up)*(X / BB ^ (i+up)):=by
  generalize fac*(Y:Int)*(BB ^ up:Nat)=z at *
  generalize BB ^ (i+up)*(S / BB ^ (i+up))=a at *
  generalize BB ^ (i+up)*(X / BB ^ (i+up))=b at *
  generalize X % BB ^ (i+up)=c at *
  generalize S % BB ^ (i+up)=d at *
  omega
 exact Nat.eq_of_mul_eq_mul_left (O5 _) h3
end
theorem E1c {X Y up S i:Nat} {fac rest:Int} (h:A9a X Y fac up S i rest) (hf:-1000000000<=fac/\fac<=1000000000):-1000000001<=rest/\rest<=1000000001:=by
 have hp:(0:Int) < (BB ^ (i+up):Nat):=by exact_mod_cast O5 (i+up)
 have h1:=Nat.mod_lt X (O5 (i+up))
 have h2:=Nat.mod_lt S (O5 (i+up))
 have h3:=Nat.mod_lt Y (O5 i)
 have pw:((BB ^ (i+up):Nat):Int)=(BB ^ i:Nat)*(BB ^ up:Nat):=by rw [Nat.pow_add]; push_cast; rfl
 have hz:((Y % BB ^ i:Nat):Int)*(BB ^ up:Nat)<=(BB ^ (i+up):Nat):=by
  rw [pw]; exact Int.mul_le_mul_of_nonneg_right (by exact_mod_cast Nat.le_of_lt h3) (Int.natCast_nonneg _)
 have hz0:(0:Int)<=((Y % BB ^ i:Nat):Int)*(BB ^ up:Nat):=Int.mul_nonneg (Int.natCast_nonneg _) (Int.natCast_nonneg _)
 unfold A9a at h
 rw [Int.mul_assoc] at h
 have a1:fac*(((Y % BB ^ i:Nat):Int)*(BB ^ up:Nat))<=1000000000*(BB ^ (i+up):Nat):=by
  refine Int.le_trans (Int.mul_le_mul_of_nonneg_right hf.2 hz0) (Int.mul_le_mul_of_nonneg_left hz (by omega))
 have a2:-(1000000000*((BB ^ (i+up):Nat):Int))<=fac*(((Y % BB ^ i:Nat):Int)*(BB ^ up:Nat)):=by
  have b1:=Int.mul_le_mul_of_nonneg_right hf.1 hz0
  have b2:(1000000000:Int)*(((Y % BB ^ i:Nat):Int)*(BB ^ up:Nat))<=1000000000*(BB ^ (i+up):Nat):=Int.mul_le_mul_of_nonneg_left hz (by omega)
  rw [Int.neg_mul] at b1
  omega
 generalize fac*(((Y % BB ^ i:Nat):Int)*(BB ^ up:Nat))=z at *
 constructor
 ·rcases Int.lt_or_le rest (-1000000001) with hl | hl
  ·have:rest*((BB ^ (i+up):Nat):Int)<=-1000000002*((BB ^ (i+up):Nat):Int):=Int.mul_le_mul_of_nonneg_right (by omega) (by omega)
   generalize rest*((BB ^ (i+up):Nat):Int)=u at *
   generalize BB ^ (i+up)=w at *
   generalize X % w=c at *
   generalize S % w=d at *
   omega
  ·exact hl
 ·rcases Int.lt_or_le 1000000001 rest with hl | hl
  ·have:(1000000002:Int)*((BB ^ (i+up):Nat):Int)<=rest*((BB ^ (i+up):Nat):Int):=Int.mul_le_mul_of_nonneg_right (by omega) (by omega)
   generalize rest*((BB ^ (i+up):Nat):Int)=u at *
   generalize BB ^ (i+up)=w at *
   generalize X % w=c at *
   generalize S % w=d at *
   omega
  ·exact hl
end Go.Ad
namespace Go.Ad
def A1f (X Y:Nat) (fac:Int) (up i:Nat):Int:=(((X % BB ^ (i+up):Nat):Int)+fac*(Y % BB ^ i:Nat)*(BB ^ up:Nat)) / (BB ^ (i+up):Nat)
theorem A5c {X Y up S i:Nat} {fac rest:Int} (h:A9a X Y fac up S i rest):rest=A1f X Y fac up i:=by
 have hp:(0:Int) < (BB ^ (i+up):Nat):=by exact_mod_cast O5 (i+up)
 have h2:=Nat.mod_lt S (O5 (i+up))
 unfold A9a at h
 unfold A1f
 rw [h,Int.add_comm,Int.add_mul_ediv_right _ _ (by omega),Int.ediv_eq_zero_of_lt (Int.natCast_nonneg _) (by exact_mod_cast h2),Int.zero_add]
theorem D1t {X Y up S:Nat} {fac:Int} (hS:(S:Int)=X+fac*Y*(BB ^ up:Nat)):∀ i,∃ r,A9a X Y fac up S i r
 | 0=>⟨0,B5i hS⟩
 | i+1=>by
  obtain ⟨r,hr⟩:=D1t hS i
  exact ⟨_,(C4g hS hr).1⟩
theorem C6r {X Y up S:Nat} {fac:Int} (hS:(S:Int)=X+fac*Y*(BB ^ up:Nat)) (i:Nat):A9a X Y fac up S i (A1f X Y fac up i):=by
 obtain ⟨r,hr⟩:=D1t hS i
 rwa [<- A5c hr]
def fI (X S up i:Nat):Nat->Int:=fun j=>if j < i+up then wf S j else wf X j
def nI (X up i:Nat):Nat:=if i=0 then wn X else max (wn X) (i+up)
theorem F3b {X Y up S:Nat} {fac:Int} (hS:(S:Int)=X+fac*Y*(BB ^ up:Nat)):fI X S up 0=wf X:=by
 have h:=C6r hS 0
 have h0:A1f X Y fac up 0=0:=(A5c (B5i hS)).symm
 rw [h0] at h
 unfold A9a at h
 simp only [Nat.pow_zero,Nat.mod_one,Nat.zero_add] at h
 have hm:S % BB ^ up=X % BB ^ up:=by
  have:((X % BB ^ up:Nat):Int)=(S % BB ^ up:Nat):=by simpa using h
  exact_mod_cast this.symm
 funext j
 unfold fI
 split
 ·rename_i hj
  rw [Nat.zero_add] at hj
  simp only [wf]
  rw [<- E6q (V:=S) hj,<- E6q (V:=X) hj,hm]
 ·rfl
theorem F3k {X S up i:Nat}:Y4 (fI X S up i) (i+up) (wd S (i+up))=fI X S up (i+1):=by
 funext j
 unfold Y4 fI
 by_cases h:j=i+up
 ·subst h; rw [if_pos rfl,if_pos (by omega)]; rfl
 ·rw [if_neg h]
  by_cases h2:j < i+up
  ·rw [if_pos h2,if_pos (by omega)]
  ·rw [if_neg h2,if_neg (by omega)]
theorem F9x {X Y up S i:Nat} {fac:Int} (hS:(S:Int)=X+fac*Y*(BB ^ up:Nat)) (hy:wn Y<=i) (hr:A1f X Y fac up i=0):fI X S up i=wf S:=by
 have h:=C6r hS i
 rw [hr] at h
 have he:=C9r hS h hy
 funext j
 unfold fI
 split
 ·rfl
 ·rename_i hj
  simp only [wf,wd]
  obtain ⟨d,rfl⟩:∃ d,j=(i+up)+d:=⟨j - (i+up),by omega⟩
  rw [Nat.pow_add,<- Nat.div_div_eq_div_mul,<- Nat.div_div_eq_div_mul,he]
theorem G0y {X Y up S i:Nat} {fac:Int} (hS:(S:Int)=X+fac*Y*(BB ^ up:Nat)) (hy:wn Y<=i) (hr:A1f X Y fac up i=0):wn S<=nI X up i:=by
 have h:=C6r hS i
 rw [hr] at h
 have he:=C9r hS h hy
 unfold nI
 split
 ·rename_i h0
  subst h0
  have hY:Y=0:=by
   have:=A2r Y
   have h0:wn Y=0:=by omega
   rw [h0] at this; simpa using this
  subst hY
  have:(S:Int)=X:=by simpa using hS
  have:S=X:=by exact_mod_cast this
  rw [this]; exact Nat.le_refl _
 ·refine A0a ?_
  have h1:X / BB ^ (max (wn X) (i+up))=0:=Nat.div_eq_of_lt (C4j.1 (Nat.le_max_left _ _))
  have h2:S / BB ^ (max (wn X) (i+up))=X / BB ^ (max (wn X) (i+up)):=by
   obtain ⟨d,hd⟩:∃ d,max (wn X) (i+up)=(i+up)+d:=⟨max (wn X) (i+up) - (i+up),by omega⟩
   rw [hd,Nat.pow_add,<- Nat.div_div_eq_div_mul,<- Nat.div_div_eq_div_mul,he]
  rw [h1] at h2
  exact (Nat.div_eq_zero_iff_lt (O5 _)).1 h2
theorem F3n {X up i:Nat}:max (nI X up i) (i+up+1)=nI X up (i+1):=by
 unfold nI
 rw [if_neg (by omega:¬ i+1=0)]
 split <;> omega
end Go.Ad
namespace Go.Ad
def A2l (n:Int) (f:Nat->Int) (i:Int):Int:=bif decide (i < 0) || decide (i >= n) then 0 else f i.toNat
theorem C6q (V i:Nat):A2l (wn V) (wf V) (i:Int)=(wd V i:Int):=by
 unfold A2l
 rw [dF (show ¬ (i:Int) < 0 by omega),Bool.false_or]
 by_cases h:(i:Int) >= (wn V:Int)
 ·rw [dT h,cond_true,A3k (by omega)]; rfl
 ·rw [dF h,cond_false,Int.toNat_natCast]; rfl
def B2q (n:Int) (f:Nat->Int) (n':Int):Int:=A2l n f n'*1000000000+A2l n f (n' - 1)
def B0d (n':Int) (g:Nat->Int):Int:=if n' > 1 then A2l n' g (n' - 1)+1 else A2l n' g (n' - 1)
def B6k (n:Int) (f:Nat->Int) (n':Int) (g:Nat->Int):Int :=
 if (B2q n f n').tdiv (B0d n' g) > 0 then (if 999999999 < (B2q n f n').tdiv (B0d n' g) then 999999999 else (B2q n f n').tdiv (B0d n' g)) else 1
theorem F4b {X p:Nat} (h:X < BB ^ (p+2)):X / BB ^ p=wd X (p+1)*BB+wd X p:=by
 have h1:X / BB ^ (p+1) < BB:=by
  rw [Nat.div_lt_iff_lt_mul (O5 _)]
  have:BB*BB ^ (p+1)=BB ^ (p+2):=by rw [Nat.mul_comm,<- Nat.pow_succ]
  omega
 have h2:X / BB ^ (p+1)=X / BB ^ p / BB:=by rw [Nat.pow_succ,Nat.div_div_eq_div_mul]
 unfold wd
 rw [Nat.mod_eq_of_lt h1,h2]
 have:=Nat.div_add_mod (X / BB ^ p) BB
 rw [Nat.mul_comm] at this
 exact this.symm
theorem D6z {Y p:Nat} (h:Y < BB ^ (p+1)):Y / BB ^ p=wd Y p:=by
 have h1:Y / BB ^ p < BB:=by
  rw [Nat.div_lt_iff_lt_mul (O5 _)]
  have:BB*BB ^ p=BB ^ (p+1):=by rw [Nat.mul_comm,<- Nat.pow_succ]
  omega
 unfold wd
 rw [Nat.mod_eq_of_lt h1]
theorem D6v {X Y:Nat} (hY:0 < Y) (hle:Y<=X) (hlt:X < Y*BB) :
  B0d (wn Y) (wf Y) ≠ 0/\(0<=B2q (wn X) (wf X) (wn Y)/\B2q (wn X) (wf X) (wn Y)<=1000000000000000000)/\(0<=B0d (wn Y) (wf Y)/\B0d (wn Y) (wf Y)<=1000000000) /\
  ∃ k:Nat,B6k (wn X) (wf X) (wn Y) (wf Y)=k/\1<=k/\k<=999999999/\k*Y<=X:=by
 have hB:BB=1000000000:=rfl
 have hp:0 < wn Y:=by rw [A4k (by omega)]; omega
 obtain ⟨p,hp⟩:∃ p,wn Y=p+1:=⟨wn Y - 1,by omega⟩
 have hYlt:Y < BB ^ (p+1):=by have:=A2r Y; rwa [hp] at this
 have hXlt:X < BB ^ (p+2):=by
  have h1:Y*BB<=BB ^ (p+1)*BB:=Nat.mul_le_mul_right _ (by omega)
  rw [<- Nat.pow_succ] at h1
  exact Nat.lt_of_lt_of_le hlt h1
 have ha:=F4b hXlt
 have hb:=D6z hYlt
 have e1:(((p+1:Nat):Int) - 1)=(p:Int):=by omega
 have hA:B2q (wn X) (wf X) (wn Y)=(X / BB ^ p:Nat):=by
  unfold B2q
  rw [hp,e1,C6q,C6q,ha]
  push_cast
  rfl
 have hb0:A2l (wn Y) (wf Y) ((wn Y:Int) - 1)=(Y / BB ^ p:Nat):=by
  rw [show ((wn Y:Int) - 1)=(p:Int) by omega,C6q,hb]
 have hb1:1<=Y / BB ^ p:=by
  have:BB ^ p<=Y:=A6m (by omega)
  exact Nat.div_pos this (O5 _)
 have hwa:=A5d X (p+1)
 have hwb:=A5d X p
 have hwy:=A5d Y p
 have hdY:=Nat.div_add_mod Y (BB ^ p)
 have hmY:=Nat.mod_lt Y (O5 p)
 have hdX:=Nat.div_mul_le_self X (BB ^ p)
 obtain ⟨b,hbe,hbb,hbp,hbY⟩:∃ b:Nat,B0d (wn Y) (wf Y)=b/\1<=b/\b<=1000000000/\∀ k,k*b<=X / BB ^ p->k*Y<=X:=by
  unfold B0d
  rw [hb0]
  by_cases h1:(wn Y:Int) > 1
  ·rw [if_pos h1]
   refine ⟨Y / BB ^ p+1,by push_cast; rfl,by omega,by rw [hb]; omega,fun k hk=>?_⟩
   have h2:Y<=(Y / BB ^ p+1)*BB ^ p:=by rw [Nat.add_mul,Nat.mul_comm (Y / BB ^ p)]; omega
   calc k*Y<=k*((Y / BB ^ p+1)*BB ^ p):=Nat.mul_le_mul_left _ h2
    _=(k*(Y / BB ^ p+1))*BB ^ p:=by rw [Nat.mul_assoc]
    _<=X / BB ^ p*BB ^ p:=Nat.mul_le_mul_right _ hk
    _<=X:=hdX
  ·rw [if_neg h1]
   have h0:p=0:=by omega
   subst h0
   refine ⟨Y / BB ^ 0,rfl,hb1,by rw [hb]; omega,fun k hk=>?_⟩
   simpa using hk
 have hAle:X / BB ^ p<=1000000000000000000:=by rw [ha,hB]; omega
 generalize X / BB ^ p=D at hA hAle hbY
 have hDb:B6k (wn X) (wf X) (wn Y) (wf Y)=if ((D / b:Nat):Int) > 0 then (if 999999999 < ((D / b:Nat):Int) then 999999999 else ((D / b:Nat):Int)) else 1:=by
  unfold B6k
  rw [hA,hbe,<- Int.ofNat_tdiv]
 have hkb:D / b*b<=D:=Nat.div_mul_le_self _ _
 generalize D / b=q at hDb hkb
 refine ⟨by omega,⟨by omega,by omega⟩,⟨by omega,by omega⟩,?_⟩
 rw [hDb]
 by_cases hk:q > 0
 ·rw [if_pos (by omega)]
  by_cases hk2:999999999 < q
  ·rw [if_pos (by omega)]
   exact ⟨999999999,rfl,by omega,by omega,hbY _ (Nat.le_trans (Nat.mul_le_mul_right _ (by omega)) hkb)⟩
  ·rw [if_neg (by omega)]
   exact ⟨q,rfl,by omega,by omega,hbY _ hkb⟩
 ·rw [if_neg (by omega)]
  exact ⟨1,rfl,by omega,by omega,by omega⟩
theorem G4r {R v:Nat} (hv:v < BB) (hn:wn R<=231):Y4 (A8c (wf R) 1 (min (wn R) 231) (fun x=>wf R x)) 0 (v:Int)=wf (R*BB+v):=by
 have e:∀ x,wd (R*BB+v) (x+1)=wd R x:=fun x=>by
  unfold wd
  rw [Nat.pow_succ,Nat.mul_comm (BB ^ x),<- Nat.div_div_eq_div_mul]
  have:(R*BB+v) / BB=R:=by
   rw [Nat.mul_comm,Nat.mul_add_div (by decide),Nat.div_eq_of_lt hv,Nat.add_zero]
  rw [this]
 have e0:wd (R*BB+v) 0=v:=by
  unfold wd
  rw [Nat.pow_zero,Nat.div_one,Nat.mul_comm,Nat.mul_add_mod,Nat.mod_eq_of_lt hv]
 funext x
 unfold Y4 A8c
 cases x with
 | zero=>rw [if_pos rfl]; simp only [wf,e0]
 | succ x =>
  rw [if_neg (by omega),dT (show 1<=x+1 by omega),Bool.true_and]
  by_cases h:x+1 < 1+min (wn R) 231
  ·rw [dT h,cond_true]
   simp only [wf,e,Nat.add_sub_cancel]
  ·rw [dF h,cond_false]
   simp only [wf,e]
   rw [A3k (V:=R) (i:=x) (by omega),A3k (V:=R) (i:=x+1) (by omega)]
theorem D1x {R v:Nat} (hv:v < BB):wn (R*BB+v)<=wn R+1:=by
 refine A0a ?_
 have h:=A2r R
 rw [Nat.pow_succ]
 have:(R+1)*BB<=BB ^ wn R*BB:=Nat.mul_le_mul_right _ h
 rw [Nat.add_mul] at this
 omega
end Go.Ad
namespace Go.Ad
theorem C7a:wf 0=fun _=>0:=by
 funext i
 simp [wf,wd]
theorem E8t (X i:Nat):X / BB ^ i=X / BB ^ (i+1)*BB+wd X i:=by
 unfold wd
 rw [Nat.pow_succ,<- Nat.div_div_eq_div_mul]
 have:=Nat.div_add_mod (X / BB ^ i) BB
 rw [Nat.mul_comm] at this
 exact this.symm
theorem F0y {X Y i:Nat} (hY:0 < Y) :
  ((X / BB ^ (i+1) % Y)*BB+wd X i) % Y=X / BB ^ i % Y/\((X / BB ^ (i+1) % Y)*BB+wd X i) / Y=wd (X / Y) i/\(X / BB ^ (i+1) % Y)*BB+wd X i < Y*BB:=by
 have hw:=A5d X i
 have hR:=Nat.mod_lt (X / BB ^ (i+1)) hY
 have hdm:=Nat.div_add_mod (X / BB ^ (i+1)) Y
 generalize hq:X / BB ^ (i+1) / Y=q at hdm
 generalize hr:X / BB ^ (i+1) % Y=R at hdm hR ⊢
 have hX:X / BB ^ i=(q*BB)*Y+(R*BB+wd X i):=by
  rw [E8t,<- hdm,Nat.add_mul]
  have:Y*q*BB=q*BB*Y:=by rw [Nat.mul_comm Y q,Nat.mul_assoc,Nat.mul_assoc,Nat.mul_comm Y BB]
  omega
 have hlt:R*BB+wd X i < Y*BB:=by
  have:(R+1)*BB<=Y*BB:=Nat.mul_le_mul_right _ hR
  rw [Nat.add_mul] at this
  omega
 refine ⟨?_,?_,hlt⟩
 ·rw [hX,Nat.mul_comm (q*BB) Y,Nat.mul_add_mod]
 ·have h1:X / Y / BB ^ i=q*BB+(R*BB+wd X i) / Y:=by
   rw [Nat.div_div_eq_div_mul,Nat.mul_comm Y,<- Nat.div_div_eq_div_mul,hX,Nat.mul_comm (q*BB),Nat.mul_add_div hY]
  have h2:(R*BB+wd X i) / Y < BB:=by
   rw [Nat.div_lt_iff_lt_mul hY,Nat.mul_comm BB]
   exact hlt
  have:wd (X / Y) i=(X / Y / BB ^ i) % BB:=rfl
  rw [this,h1,Nat.mul_comm q,Nat.mul_add_mod,Nat.mod_eq_of_lt h2]
def fqI (Q i:Nat):Nat->Int:=fun j=>if i<=j then wf Q j else 0
theorem E6w {Q i:Nat}:Y4 (fqI Q (i+1)) i (wd Q i:Int)=fqI Q i:=by
 funext j
 unfold Y4 fqI
 by_cases h:j=i
 ·subst h; rw [if_pos rfl,if_pos (Nat.le_refl _)]; rfl
 ·rw [if_neg h]
  by_cases h2:i+1<=j
  ·rw [if_pos h2,if_pos (by omega)]
  ·rw [if_neg h2,if_neg (by omega)]
theorem F3p {X Y:Nat}:fqI (X / Y) (wn X)=fun _=>0:=by
 funext j
 unfold fqI
 split
 ·rename_i h
  have:wn (X / Y)<=wn X:=A0a (Nat.lt_of_le_of_lt (Nat.div_le_self _ _) (A2r X))
  simp [wf,A3k (V:=X / Y) (i:=j) (by omega)]
 ·rfl
theorem E9q {Q:Nat}:fqI Q 0=wf Q:=by
 funext j
 unfold fqI
 rw [if_pos (Nat.zero_le _)]
end Go.Ad
namespace Go.Ad
open Go.Lib (decDigits decFrom decNat digitVal nDigits itoa)
def dig (v:Nat):UInt8:=UInt8.ofNat (48+v % 10)
def pad:Nat->Nat->List UInt8
 | 0,_=>[]
 | k+1,v=>pad k (v / 10)++[dig v]
theorem L9:∀ (k v:Nat),(pad k v).length=k
 | 0,_=>rfl
 | k+1,v=>by simp [pad,L9 k]
theorem M3 {u:Nat} (h:u < 10):decDigits u=[dig u]:=by
 rw [decDigits,dif_pos h,dig,Nat.mod_eq_of_lt h]
theorem A0j {u:Nat} (h:¬ u < 10):decDigits u=decDigits (u / 10)++[dig u]:=by
 rw [decDigits,dif_neg h,dig]
theorem D6y:∀ (k v:Nat),pad k (v % 10 ^ k)=pad k v
 | 0,_=>rfl
 | k+1,v=>by
  simp only [pad]
  have h1:v % 10 ^ (k+1) / 10=v / 10 % 10 ^ k:=by rw [Nat.pow_succ,Nat.mul_comm,Nat.mod_mul_right_div_self]
  have h2:dig (v % 10 ^ (k+1))=dig v:=by
   unfold dig
   rw [Nat.pow_succ,Nat.mul_comm,Nat.mod_mul_right_mod]
  rw [h1,h2,D6y k]
theorem C3g:∀ (k U:Nat),10 ^ k<=U->decDigits U=decDigits (U / 10 ^ k)++pad k U
 | 0,U,_=>by simp [pad]
 | k+1,U,h=>by
  have hp:1<=10 ^ k:=Nat.one_le_pow _ _ (by decide)
  have h10:¬ U < 10:=by rw [Nat.pow_succ] at h; omega
  have hk:10 ^ k<=U / 10:=by rw [Nat.pow_succ] at h; exact (Nat.le_div_iff_mul_le (by decide)).2 h
  rw [A0j h10,C3g k (U / 10) hk]
  simp only [pad]
  rw [List.append_assoc,Nat.pow_succ,Nat.mul_comm,<- Nat.div_div_eq_div_mul]
theorem A0z:∀ (s t:List UInt8) (acc a:Nat),decFrom acc s=some a->decFrom acc (s++t)=decFrom a t
 | [],t,acc,a,h=>by simp only [decFrom,sI] at h; subst h; rfl
 | b :: s,t,acc,a,h=>by
  simp only [decFrom,List.cons_append] at h ⊢
  cases hd:digitVal b with
  | none=>rw [hd] at h; cases h
  | some d=>rw [hd] at h; exact A0z s t _ a h
theorem A6z (v:Nat):digitVal (dig v)=some (v % 10):=by
 have h:(dig v).toNat=48+v % 10:=by
  unfold dig
  exact UInt8.toNat_ofNat_of_lt' (show 48+v % 10 < 256 by omega)
 unfold digitVal
 rw [h,if_pos (by omega)]
 congr 1; omega
theorem B5y:∀ (k v acc:Nat),decFrom acc (pad k v)=some (acc*10 ^ k+v % 10 ^ k)
 | 0,v,acc=>by simp [pad,decFrom,Nat.mod_one]
 | k+1,v,acc=>by
  simp only [pad]
  rw [A0z _ _ _ _ (B5y k (v / 10) acc)]
  simp only [decFrom,A6z]
  congr 1
  rw [Nat.pow_succ,Nat.add_mul,<- Nat.mul_assoc]
  have h1:v % (10 ^ k*10)=v / 10 % 10 ^ k*10+v % 10:=by
   rw [Nat.mul_comm (10 ^ k),Nat.mod_mul]; omega
  omega
theorem U8 (U:Nat):decFrom 0 (decDigits U)=some U:=by
 induction U using Nat.strongRecOn with
 | ind U ih =>
  by_cases h:U < 10
  ·rw [M3 h]; simp only [decFrom,A6z]; congr 1; omega
  ·rw [A0j h,A0z _ _ _ _ (ih (U / 10) (by omega))]
   simp only [decFrom,A6z]
   congr 1; omega
theorem A1b (U:Nat):decDigits U ≠ []:=by
 by_cases h:U < 10
 ·rw [M3 h]; simp
 ·rw [A0j h]; simp
theorem A0u (U:Nat):∀ b,b ∈ decDigits U->48<=b.toNat/\b.toNat<=57:=by
 induction U using Nat.strongRecOn with
 | ind U ih =>
  have hd:∀ v:Nat,48<=(dig v).toNat/\(dig v).toNat<=57:=fun v=>by
   have h:(dig v).toNat=48+v % 10:=by
    unfold dig
    exact UInt8.toNat_ofNat_of_lt' (show 48+v % 10 < 256 by omega)
   omega
  intro b hb
  by_cases h:U < 10
  ·rw [M3 h] at hb
   rw [List.mem_singleton.1 hb]; exact hd U
  ·rw [A0j h] at hb
   rcases List.mem_append.1 hb with hb | hb
   ·exact ih (U / 10) (by omega) b hb
   ·rw [List.mem_singleton.1 hb]; exact hd U
theorem B4m:∀ (k v:Nat) (b:UInt8),b ∈ pad k v->48<=b.toNat/\b.toNat<=57
 | 0,_,_,h=>by cases h
 | k+1,v,b,h=>by
  simp only [pad] at h
  rcases List.mem_append.1 h with h | h
  ·exact B4m k _ b h
  ·rw [List.mem_singleton.1 h]
   exact A0u (v % 10) _ (by rw [M3 (by omega)]; simp [dig])
theorem B5r {s:List UInt8} {n:Nat} (h0:s ≠ []) (hd:∀ b,b ∈ s->48<=b.toNat/\b.toNat<=57) (h:decFrom 0 s=some n):Lib.atoi s=some (n:Int):=by
 cases s with
 | nil=>exact (h0 rfl).elim
 | cons b r =>
  have hb:=hd b (by simp)
  have e1:(b == 45)=false:=by
   rw [beq_eq_false_iff_ne]
   intro e; rw [e] at hb; simp at hb
  have e2:(b == 43)=false:=by
   rw [beq_eq_false_iff_ne]
   intro e; rw [e] at hb; simp at hb
  simp only [Lib.atoi,e1,e2]
  simp [decNat,h]
theorem D0c (U:Nat):Lib.atoi (decDigits U)=some (U:Int):=B5r (A1b U) (A0u U) (U8 U)
theorem F2t {k v:Nat} (hk:0 < k):Lib.atoi (pad k v)=some ((v % 10 ^ k:Nat):Int):=by
 refine B5r (fun e=>?_) (B4m k v) ?_
 ·have:=L9 k v; rw [e] at this; simp at this; omega
 ·rw [B5y]; simp
theorem B0w:BB=10 ^ 9:=by decide
theorem G0h {a:Nat} (b:Nat) (h:a<=b):10 ^ a<=10 ^ b:=Nat.pow_le_pow_right (by decide) h
theorem C9z (k:Nat):BB ^ k=10 ^ (9*k):=by rw [B0w,<- Nat.pow_mul]
theorem C2m {U:Nat} (h:U < BB):(decDigits U).length<=9:=by
 rw [Lib.decDigits_length]
 rcases Nat.lt_or_ge 9 (nDigits U) with h9 | h9
 ·exfalso
  have key:∀ (k u:Nat),u < 10 ^ (k+1)->nDigits u<=k+1:=fun k=>by
   induction k with
   | zero=>intro u hu; rw [Lib.nDigits_small (by simpa using hu)]; exact Nat.le_refl _
   | succ k ih =>
    intro u hu
    by_cases h10:u < 10
    ·rw [Lib.nDigits_small h10]; omega
    ·rw [Lib.nDigits_big h10]
     have:=ih (u / 10) (by rw [Nat.pow_succ] at hu; exact (Nat.div_lt_iff_lt_mul (by decide)).2 hu)
     omega
  have:=key 8 U (by rw [B0w] at h; exact h)
  omega
 ·exact h9
theorem C1e {U:Nat} (h:BB<=U):decDigits U=decDigits (U / BB)++pad 9 U/\U / BB ≠ 0:=by
 refine ⟨?_,?_⟩
 ·have:=C3g 9 U (by rw [<- B0w]; exact h)
  rwa [<- B0w] at this
 ·have:=Nat.div_pos h (show 0 < BB by decide)
  omega
theorem C3l:∀ (k v:Nat),v < 10 ^ k->0 < k->(List.replicate (k - (decDigits v).length) 48)++decDigits v=pad k v/\(decDigits v).length<=k
 | 0,_,_,h=>by omega
 | k+1,v,hv,_=>by
  by_cases h10:v < 10
  ·rw [M3 h10]
   refine ⟨?_,by simp⟩
   simp only [pad,List.length_singleton,Nat.add_sub_cancel]
   congr 1
   have h0:v / 10=0:=by omega
   rw [h0]
   have:∀ k,pad k 0=List.replicate k (48:UInt8):=fun k=>by
    induction k with
    | zero=>rfl
    | succ k ih=>simp only [pad,Nat.zero_div,ih]; rw [List.replicate_succ']; rfl
   exact (this k).symm
  ·have hk:0 < k:=by
    rcases Nat.eq_zero_or_pos k with h | h
    ·subst h; omega
    ·exact h
   have hv2:v / 10 < 10 ^ k:=by rw [Nat.pow_succ] at hv; exact (Nat.div_lt_iff_lt_mul (by decide)).2 hv
   obtain ⟨i1,i2⟩:=C3l k (v / 10) hv2 hk
   rw [A0j h10]
   simp only [pad]
   refine ⟨?_,by simp; exact i2⟩
   rw [<- i1]
   simp only [List.length_append,List.length_singleton]
   rw [show k+1 - ((decDigits (v / 10)).length+1)=k - (decDigits (v / 10)).length by omega,List.append_assoc]
def O7 (s:List UInt8):Nat:=(decFrom 0 s).getD 0
def A7:List UInt8->Int
 | 45 :: r=>-(O7 r:Int)
 | s=>(O7 s:Int)
theorem B5h (U:Nat):O7 (decDigits U)=U:=by simp [O7,U8]
theorem B8l {U:Nat} {b:UInt8} {r:List UInt8} (h:decDigits U=b :: r):b ≠ 45:=by
 have:=A0u U b (by rw [h]; simp)
 intro e; rw [e] at this; simp at this
theorem C8 (n:Int):A7 (itoa n)=n:=by
 unfold itoa
 by_cases h:n < 0
 ·rw [if_pos h]
  simp only [A7,B5h]
  omega
 ·rw [if_neg h]
  have hd:A7 (decDigits n.toNat)=(O7 (decDigits n.toNat):Int):=by
   cases hh:decDigits n.toNat with
   | nil=>exact (A1b _ hh).elim
   | cons b r =>
    have:=B8l hh
    unfold A7
    split
    ·rename_i e; cases e; exact (this rfl).elim
    ·rfl
  rw [hd,B5h]
  omega
def isZ (s:List UInt8):Prop:=s=itoa (A7 s)
theorem I7 (n:Int):isZ (itoa n):=by unfold isZ; rw [C8]
theorem A4f:∀ (k u:Nat),u < 10 ^ (k+1)->nDigits u<=k+1
 | 0,u,hu=>by rw [Lib.nDigits_small (by simpa using hu)]; exact Nat.le_refl _
 | k+1,u,hu=>by
  by_cases h10:u < 10
  ·rw [Lib.nDigits_small h10]; omega
  ·rw [Lib.nDigits_big h10]
   have:=A4f k (u / 10) (by rw [Nat.pow_succ] at hu; exact (Nat.div_lt_iff_lt_mul (by decide)).2 hu)
   omega
theorem B3p {U:Nat} (h:wn U<=232):(decDigits U).length<=2088:=by
 rw [Lib.decDigits_length]
 refine A4f 2087 U ?_
 have h1:=C4j.1 h
 rw [C9z,show 9*232=2087+1 from rfl] at h1
 exact h1
def gI (V k:Nat):Nat->Int:=fun j=>if j < k then wf V j else 0
theorem F7d {V:Nat}:gI V 0=fun _=>0:=by funext j; simp [gI]
theorem F5e {V k:Nat}:Y4 (gI V k) k (wd V k:Int)=gI V (k+1):=by
 funext j
 unfold Y4 gI
 by_cases h:j=k
 ·subst h; rw [if_pos rfl,if_pos (by omega)]; rfl
 ·rw [if_neg h]
  by_cases h2:j < k
  ·rw [if_pos h2,if_pos (by omega)]
  ·rw [if_neg h2,if_neg (by omega)]
theorem G2b {V k:Nat} (h:wn V<=k):gI V k=wf V:=by
 funext j
 unfold gI
 split
 ·rfl
 ·simp [wf,A3k (V:=V) (i:=j) (by omega)]
def sR (V k:Nat):List UInt8:=if k=0 then decDigits V else if V / BB ^ k=0 then [] else decDigits (V / BB ^ k)
def Z0 (V:Nat):Nat:=if V=0 then 1 else wn V
theorem D8t (V:Nat):wn V<=Z0 V:=by
 unfold Z0
 split
 ·rename_i h; subst h; rw [Y9]; omega
 ·exact Nat.le_refl _
theorem F2h (V:Nat):sR V (Z0 V)=[]:=by
 unfold sR Z0
 split
 ·rename_i h; subst h; simp
 ·rename_i h
  have hp:wn V ≠ 0:=by rw [A4k h]; omega
  rw [if_neg hp,if_pos (Nat.div_eq_of_lt (A2r V))]
theorem C7e {V k:Nat} (h:k < Z0 V):sR V k=decDigits (V / BB ^ k):=by
 unfold sR
 by_cases hk:k=0
 ·subst hk; simp
 ·rw [if_neg hk]
  have hV:V ≠ 0:=fun e=>by subst e; simp [Z0] at h; omega
  unfold Z0 at h
  rw [if_neg hV] at h
  have:=Nat.div_pos (A6m h) (O5 k)
  rw [if_neg (by omega)]
theorem F6g {V k:Nat} (h:k < Z0 V):∃ c,c<=(sR V k).length/\c=(sR V k).length - 9/\(sR V k).take c=sR V (k+1)/\((sR V k).drop c).length<=9/\Lib.atoi ((sR V k).drop c)=some (wd V k:Int):=by
 rw [C7e h]
 have hdiv:V / BB ^ k / BB=V / BB ^ (k+1):=by rw [Nat.pow_succ,Nat.div_div_eq_div_mul]
 have hwd:wd V k=V / BB ^ k % BB:=rfl
 generalize hU:V / BB ^ k=U at hdiv hwd ⊢
 have hs:sR V (k+1)=if U / BB=0 then [] else decDigits (U / BB):=by
  unfold sR
  rw [if_neg (by omega),<- hdiv]
 by_cases hb:U < BB
 ·have hl:=C2m hb
  refine ⟨0,Nat.zero_le _,by omega,?_,by simpa using hl,?_⟩
  ·rw [hs,Nat.div_eq_of_lt hb]; rfl
  ·rw [List.drop_zero,D0c,hwd,Nat.mod_eq_of_lt hb]
 ·obtain ⟨h1,h2⟩:=C1e (U:=U) (by omega)
  have hp:=L9 9 U
  have hlen:(decDigits U).length=(decDigits (U / BB)).length+9:=by rw [h1,List.length_append,hp]
  refine ⟨(decDigits (U / BB)).length,by omega,by omega,?_,?_,?_⟩
  ·rw [hs,if_neg h2,h1,List.take_left]
  ·rw [h1,List.drop_left,hp]; exact Nat.le_refl _
  ·rw [h1,List.drop_left,F2t (by omega),hwd,B0w]
theorem A3p (n:Int):((((itoa n).getD 0 0).toNat:Int) == 45)=decide (n < 0):=by
 unfold itoa
 by_cases h:n < 0
 ·rw [if_pos h,dT h]; rfl
 ·rw [if_neg h,dF h]
  cases hh:decDigits n.toNat with
  | nil=>exact (A1b _ hh).elim
  | cons b r =>
   have:=A0u n.toNat b (by rw [hh]; simp)
   rw [beq_eq_false_iff_ne]
   simp only [List.getD_eq_getElem?_getD,List.getElem?_cons_zero,Option.getD_some]
   omega
theorem A8o (n:Int):(if n < 0 then (itoa n).drop 1 else itoa n)=decDigits n.natAbs:=by
 unfold itoa
 by_cases h:n < 0
 ·rw [if_pos h,if_pos h]; rfl
 ·rw [if_neg h,if_neg h]
  congr 1; omega
theorem A2b (n:Int):itoa n ≠ []:=by
 unfold itoa
 split
 ·simp
 ·exact A1b _
end Go.Ad
namespace Go.Ad
open Go.Lib (decDigits decFrom decNat digitVal nDigits itoa)
theorem E7u {V i:Nat} (h:i+1 < wn V):decDigits (V / BB ^ (i+1))++(List.replicate (9 - (decDigits (wd V i)).length) 48++decDigits (wd V i))=decDigits (V / BB ^ i)/\(decDigits (wd V i)).length<=9:=by
 have hw:wd V i < 10 ^ 9:=by rw [<- B0w]; exact A5d V i
 obtain ⟨p1,p2⟩:=C3l 9 (wd V i) hw (by omega)
 refine ⟨?_,p2⟩
 rw [p1]
 have hU:BB<=V / BB ^ i:=by
  rw [Nat.le_div_iff_mul_le (O5 _),Nat.mul_comm,<- Nat.pow_succ]
  exact A6m h
 have:=(C1e hU).1
 rw [this]
 have hd:V / BB ^ i / BB=V / BB ^ (i+1):=by rw [Nat.pow_succ,Nat.div_div_eq_div_mul]
 rw [hd]
 congr 1
 have:wd V i=V / BB ^ i % 10 ^ 9:=by unfold wd; rw [B0w]
 rw [this,D6y]
theorem F6b {V:Nat} (h:V ≠ 0):V / BB ^ (wn V - 1)=wd V (wn V - 1):=by
 have hp:0 < wn V:=by rw [A4k h]; omega
 have:=A2r V
 rw [show wn V=(wn V - 1)+1 by omega] at this
 exact D6z this
def sv (l:Bool) (V:Nat):Int:=bif l then -(V:Int) else V
theorem F5b {l:Bool} {V:Nat} (h:V ≠ 0):itoa (sv l V)=(bif l then [45] else [])++decDigits V:=by
 unfold itoa sv
 cases l with
 | true =>
  simp only [cond_true]
  rw [if_pos (by omega)]
  simp
 | false =>
  simp only [cond_false]
  rw [if_neg (by omega)]
  simp
theorem F8z:decDigits 0=[48]:=by rw [M3 (by omega)]; rfl
theorem itoa0:itoa 0=[48]:=by unfold itoa; rw [if_neg (by omega)]; exact F8z
theorem E1v (l:Bool):itoa (sv l 0)=[48]:=by
 have:sv l 0=0:=by cases l <;> rfl
 rw [this,itoa0]
def F5 (b:UInt8):Bool:=decide (48<=b.toNat) && decide (b.toNat<=57)
def digs10:List UInt8:=[48,49,50,51,52,53,54,55,56,57]
theorem D6t (b:UInt8):digs10.contains b=F5 b:=by
 have h:((List.range 256).all fun n=>digs10.contains n.toUInt8 == F5 n.toUInt8)=true:=by kernel_rfl
 have hb:=List.all_eq_true.1 h b.toNat (List.mem_range.2 b.toNat_lt)
 have e:b.toNat.toUInt8=b:=by simp
 rw [e] at hb
 simpa using hb
theorem A1a {p:UInt8->Bool}:∀ {l:List UInt8},l.dropWhile p=[] ↔ l.all p=true
 | []=>by simp
 | b :: r=>by
  simp only [List.dropWhile_cons,List.all_cons,Bool.and_eq_true]
  cases h:p b with
  | true=>simp only [if_true,true_and]; exact A1a
  | false=>simp
theorem D3h (l:List UInt8):(Lib.trimS l digs10 == [])=l.all F5:=by
 have e:(fun b=>digs10.contains b)=F5:=funext D6t
 rw [Bool.eq_iff_iff,beq_iff_eq]
 simp only [Lib.trimS,Lib.trimLeftS,Lib.trimRightS,e]
 rw [A1a]
 constructor
 ·intro h
  cases ha:l.all F5 with
  | true=>rfl
  | false =>
   exfalso
   have hne:l.reverse.dropWhile F5 ≠ []:=by
    intro h2
    rw [A1a,List.all_reverse,ha] at h2; cases h2
   match hd:l.reverse.dropWhile F5,hne with
   | b :: r,_ =>
    have h1:F5 b=false:=by
     have:=List.head?_dropWhile_not F5 l.reverse
     rw [hd] at this
     simpa using this
    rw [hd,List.all_reverse,List.all_cons,h1] at h
    cases h
 ·intro h
  have:l.reverse.dropWhile F5=[]:=by rw [A1a,List.all_reverse]; exact h
  rw [this]; rfl
def F6:List UInt8->List UInt8
 | 45 :: r=>r
 | s=>s
def D5 (s:List UInt8):Int :=
 if F6 s=[] \/ (F6 s).all F5=false then 3 else if (F6 s).headD 0=48/\s ≠ [48] then 3 else if (F6 s).length > 1024 then 11 else 0
theorem A6r:∀ (k:Nat) (s:List UInt8),s.length=k->s ≠ []->s.all F5=true->(s.headD 0 ≠ 48 \/ s.length=1)->s=decDigits (O7 s)
 | 0,s,hl,hn,_,_=>(hn (List.eq_nil_of_length_eq_zero hl)).elim
 | k+1,s,hl,hn,hd,hh=>by
  obtain ⟨t,b,rfl⟩:∃ t b,s=t++[b]:=⟨s.dropLast,s.getLast hn,(List.dropLast_concat_getLast hn).symm⟩
  rw [List.all_append,Bool.and_eq_true] at hd
  have hb:F5 b=true:=by simpa using hd.2
  simp only [F5,Bool.and_eq_true,decide_eq_true_eq] at hb
  have hbv:digitVal b=some (b.toNat - 48):=by unfold digitVal; rw [if_pos (by omega)]
  have hbd:∀ v:Nat,v % 10=b.toNat - 48->dig v=b:=fun v hv=>by
   unfold dig
   rw [hv,show 48+(b.toNat - 48)=b.toNat by omega]
   exact UInt8.ofNat_toNat
  by_cases ht:t=[]
  ·subst ht
   have:O7 ([]++[b])=b.toNat - 48:=by simp [O7,decFrom,hbv]
   rw [this,M3 (by omega),hbd _ (by omega)]
   rfl
  ·have hlt:t.length=k:=by simpa using hl
   have hhd:t.headD 0 ≠ 48:=by
    rcases hh with hh | hh
    ·cases t with
     | nil=>exact (ht rfl).elim
     | cons x y=>simpa using hh
    ·have:0 < t.length:=by cases t with | nil=>exact (ht rfl).elim | cons=>simp
     rw [List.length_append,List.length_singleton] at hh; omega
   have ih:=A6r k t hlt ht hd.1 (.inl hhd)
   have hft:decFrom 0 t=some (O7 t):=by
    have:=U8 (O7 t)
    rwa [<- ih] at this
   have hv:O7 (t++[b])=O7 t*10+(b.toNat - 48):=by
    have h1:decFrom 0 (t++[b])=some (O7 t*10+(b.toNat - 48)):=by
     rw [A0z _ _ _ _ hft]; simp only [decFrom,hbv]
    show (decFrom 0 (t++[b])).getD 0=_
    rw [h1]; rfl
   have h0:O7 t ≠ 0:=fun e=>by
    rw [e] at ih
    rw [ih] at hhd
    exact hhd (by rw [F8z]; rfl)
   rw [hv,A0j (by omega),hbd _ (by omega),show (O7 t*10+(b.toNat - 48)) / 10=O7 t by omega,<- ih]
theorem F3m {s:List UInt8} (h:D5 s=0):isZ s/\(decDigits (A7 s).natAbs).length<=1024:=by
 unfold D5 at h
 split at h
 ·cases h
 ·rename_i h1
  split at h
  ·cases h
  ·rename_i h2
   split at h
   ·cases h
   ·rename_i h3
    rw [not_or] at h1
    have hall:(F6 s).all F5=true:=by simpa using h1.2
    have hhead:(F6 s).headD 0 ≠ 48 \/ (F6 s).length=1:=by
     by_cases e:(F6 s).headD 0=48
     ·right
      have:s=[48]:=by
       by_cases e2:s=[48]
       ·exact e2
       ·exact (h2 ⟨e,e2⟩).elim
      rw [this]; rfl
     ·exact .inl e
    have hd:=A6r _ (F6 s) rfl h1.1 hall hhead
    by_cases hm:∃ r,s=45 :: r
    ·obtain ⟨r,rfl⟩:=hm
     have ha:F6 (45 :: r)=r:=rfl
     rw [ha] at hd h1 h2 h3
     have hv:A7 (45 :: r)=-(O7 r:Int):=rfl
     have h0:O7 r ≠ 0:=fun e=>by
      rw [e] at hd
      exact h2 ⟨by rw [hd,F8z]; rfl,by simp⟩
     refine ⟨?_,?_⟩
     ·unfold isZ
      rw [hv]
      unfold itoa
      rw [if_pos (by omega)]
      simp only [Int.natAbs_neg,Int.natAbs_natCast]
      rw [<- hd]
     ·rw [hv]
      simp only [Int.natAbs_neg,Int.natAbs_natCast]
      rw [<- hd]; omega
    ·have ha:F6 s=s:=by
      unfold F6
      split
      ·rename_i r; exact (hm ⟨r,rfl⟩).elim
      ·rfl
     rw [ha] at hd h3
     have hv:A7 s=(O7 s:Int):=by
      unfold A7
      split
      ·rename_i r; exact (hm ⟨r,rfl⟩).elim
      ·rfl
     refine ⟨?_,?_⟩
     ·unfold isZ
      rw [hv]
      unfold itoa
      rw [if_neg (by omega)]
      simp only [Int.toNat_natCast]
      exact hd
     ·rw [hv,Int.natAbs_natCast,<- hd]; omega
theorem A5y (n:Int):D5 (itoa n)=if (decDigits n.natAbs).length > 1024 then 11 else 0:=by
 have ha:F6 (itoa n)=decDigits n.natAbs:=by
  have h:=A8o n
  by_cases h0:n < 0
  ·rw [if_pos h0] at h
   rw [<- h]
   unfold itoa
   rw [if_pos h0]
   rfl
  ·rw [if_neg h0] at h
   rw [h]
   cases hh:decDigits n.natAbs with
   | nil=>exact (A1b _ hh).elim
   | cons b r =>
    have:=B8l hh
    unfold F6
    split
    ·rename_i e; cases e; exact (this rfl).elim
    ·rfl
 unfold D5
 rw [ha]
 have hall:(decDigits n.natAbs).all F5=true:=by
  rw [List.all_eq_true]
  intro b hb
  have:=A0u _ b hb
  simp [F5,this]
 rw [if_neg (by rw [not_or]; exact ⟨A1b _,by rw [hall]; simp⟩)]
 have hz:¬ ((decDigits n.natAbs).headD 0=48/\itoa n ≠ [48]):=by
  rintro ⟨h1,h2⟩
  have h0:n.natAbs=0:=by
   have key:∀ U:Nat,U ≠ 0->(decDigits U).headD 0 ≠ 48:=by
    intro U
    induction U using Nat.strongRecOn with
    | ind U ih =>
     intro hU
     by_cases h10:U < 10
     ·rw [M3 h10]
      simp only [List.headD_cons]
      intro e
      have:(dig U).toNat=48+U % 10:=by
       unfold dig
       exact UInt8.toNat_ofNat_of_lt' (show 48+U % 10 < 256 by omega)
      rw [e] at this
      simp at this
      omega
     ·rw [A0j h10]
      have hne:=A1b (U / 10)
      have:=ih (U / 10) (by omega) (by omega)
      cases hh:decDigits (U / 10) with
      | nil=>exact (hne hh).elim
      | cons x y=>rw [hh] at this; simpa using this
   rcases Nat.eq_zero_or_pos n.natAbs with h | h
   ·exact h
   ·exact (key _ (by omega) h1).elim
  have:n=0:=by omega
  subst this
  exact h2 itoa0
 rw [if_neg hz]
theorem G0k {U:Nat} (h:(decDigits U).length<=1024):wn U<=114:=by
 refine A0a ?_
 rw [Lib.decDigits_length] at h
 have h1:=Lib.lt_pow_nDigits U
 have h2:=G0h (a:=nDigits U) (9*114) (by omega)
 have h3:=C9z 114
 rw [h3]
 exact Nat.lt_of_lt_of_le h1 h2
end Go.Ad
namespace Go.Ad
open Go.Lib (decDigits decFrom decNat digitVal nDigits itoa)
theorem C3n (n:Int):Lib.atoi (itoa n)=some n:=by
 unfold itoa
 by_cases h:n < 0
 ·rw [if_pos h]
  have hne:=A1b n.natAbs
  have hd:decNat (decDigits n.natAbs)=some n.natAbs:=by
   unfold decNat
   cases hh:decDigits n.natAbs with
   | nil=>exact (hne hh).elim
   | cons b r=>rw [<- hh,U8]; simp [hh]
  simp only [Lib.atoi]
  rw [show ((45:UInt8) == 45)=true from rfl,if_pos rfl,hd]
  simp only [Option.map_some]
  congr 1; omega
 ·rw [if_neg h,D0c]
  congr 1; omega
def A4b (C:Int):List UInt8 × Int:=if (decDigits C.natAbs).length > 1024 then ([],11) else (itoa C,0)
theorem E0f (C:Int):(if D5 (itoa C) ≠ 0 then (([],D5 (itoa C)):List UInt8 × Int) else (itoa C,0))=A4b C:=by
 unfold A4b
 rw [A5y]
 by_cases h:(decDigits C.natAbs).length > 1024
 ·rw [if_pos h,if_pos (by omega),if_pos h]
 ·rw [if_neg h,if_neg (by omega),if_neg h]
def B0f (op:Int->Int->Int) (a b:List UInt8):List UInt8 × Int :=
 if D5 a ≠ 0 then ([],D5 a) else if D5 b ≠ 0 then ([],D5 b) else A4b (op (A7 a) (A7 b))
def K7 (A:Int):Int:=if A=0 then 0 else if A < 0 then -1 else 1
theorem A3z (n:Int):(itoa n).length<=(decDigits n.natAbs).length+1:=by
 unfold itoa
 by_cases h:n < 0
 ·rw [if_pos h]; simp
 ·rw [if_neg h,show n.toNat=n.natAbs by omega]; omega
theorem B9p {n:Int} (h:(itoa n).length<=9):-1000000000 < n/\n < 1000000000:=by
 have key:∀ U:Nat,(decDigits U).length<=9->U < 1000000000:=fun U hU=>by
  rw [Lib.decDigits_length] at hU
  have h1:=Lib.lt_pow_nDigits U
  have h2:(10:Nat) ^ nDigits U<=10 ^ 9:=Nat.pow_le_pow_right (by decide) hU
  omega
 unfold itoa at h
 by_cases h0:n < 0
 ·rw [if_pos h0] at h
  simp only [List.length_cons] at h
  have:=key n.natAbs (by omega)
  omega
 ·rw [if_neg h0] at h
  have:=key n.toNat (by omega)
  omega
theorem A5n {m n:Int} (h:itoa m=itoa n):m=n:=by
 have:=C8 m
 rw [h,C8] at this
 exact this.symm
end Go.Ad
namespace Go.Ad
open Go.Lib (decDigits decFrom decNat digitVal nDigits itoa)
theorem A2a {b:UInt8} {d:Nat} (h:digitVal b=some d):d=b.toNat - 48/\d < 10/\48<=b.toNat:=by
 unfold digitVal at h
 split at h
 ·cases h; omega
 ·cases h
theorem C6n:∀ (s t:List UInt8) (p q v w:Nat),s.length=t.length->decFrom p s=some v->decFrom q t=some w->(p < q->v < w)/\(q < p->w < v)/\(p=q->Lib.compareBytes s t=K7 ((v:Int) - w))
 | [],[],p,q,v,w,_,h1,h2=>by
  simp only [decFrom,sI] at h1 h2
  subst h1 h2
  refine ⟨fun h=>h,fun h=>h,fun h=>?_⟩
  subst h
  simp [Lib.compareBytes,K7]
 | [],_ :: _,_,_,_,_,h,_,_=>by simp at h
 | _ :: _,[],_,_,_,_,h,_,_=>by simp at h
 | a :: s,b :: t,p,q,v,w,hl,h1,h2=>by
  simp only [decFrom] at h1 h2
  cases ha:digitVal a with
  | none=>rw [ha] at h1; cases h1
  | some d =>
   cases hb:digitVal b with
   | none=>rw [hb] at h2; cases h2
   | some e =>
    rw [ha] at h1
    rw [hb] at h2
    obtain ⟨i1,i2,i3⟩:=C6n s t _ _ v w (by simpa using hl) h1 h2
    obtain ⟨d1,d2,d3⟩:=A2a ha
    obtain ⟨e1,e2,e3⟩:=A2a hb
    refine ⟨fun h=>i1 (by omega),fun h=>i2 (by omega),fun h=>?_⟩
    subst h
    show (if a < b then -1 else if b < a then 1 else Lib.compareBytes s t)=_
    by_cases hab:a < b
    ·rw [if_pos hab]
     have:=UInt8.lt_iff_toNat_lt.1 hab
     have:=i1 (by omega)
     unfold K7
     rw [if_neg (by omega),if_pos (by omega)]
    ·rw [if_neg hab]
     have h3:¬ a.toNat < b.toNat:=fun h=>hab (UInt8.lt_iff_toNat_lt.2 h)
     by_cases hba:b < a
     ·rw [if_pos hba]
      have:=UInt8.lt_iff_toNat_lt.1 hba
      have:=i2 (by omega)
      unfold K7
      rw [if_neg (by omega),if_neg (by omega)]
     ·rw [if_neg hba]
      have h4:¬ b.toNat < a.toNat:=fun h=>hba (UInt8.lt_iff_toNat_lt.2 h)
      exact i3 (by omega)
theorem Q3 {V U:Nat} (h:V<=U):(decDigits V).length<=(decDigits U).length:=by
 have h1:=Lib.lt_pow_nDigits U
 have h2:1<=(decDigits U).length:=by
  cases hh:decDigits U with
  | nil=>exact (A1b _ hh).elim
  | cons=>simp
 rw [Lib.decDigits_length] at *
 rw [Lib.decDigits_length]
 obtain ⟨m,hm⟩:∃ m,nDigits U=m+1:=⟨nDigits U - 1,by omega⟩
 rw [hm] at h1 ⊢
 exact A4f m V (Nat.lt_of_le_of_lt h h1)
theorem E0w (V U:Nat):(if (decDigits V).length ≠ (decDigits U).length then (if (decDigits V).length < (decDigits U).length then -1 else 1) else Lib.compareBytes (decDigits V) (decDigits U))=K7 ((V:Int) - U):=by
 by_cases h:(decDigits V).length=(decDigits U).length
 ·rw [if_neg (by omega)]
  exact (C6n _ _ 0 0 V U h (U8 V) (U8 U)).2.2 rfl
 ·rw [if_pos h]
  by_cases hlt:(decDigits V).length < (decDigits U).length
  ·rw [if_pos hlt]
   have:V < U:=by
    rcases Nat.lt_or_ge V U with h1 | h1
    ·exact h1
    ·have:=Q3 h1; omega
   unfold K7
   rw [if_neg (by omega),if_pos (by omega)]
  ·rw [if_neg hlt]
   have:U < V:=by
    rcases Nat.lt_or_ge U V with h1 | h1
    ·exact h1
    ·have:=Q3 h1; omega
   unfold K7
   rw [if_neg (by omega),if_neg (by omega)]
theorem B4f (n:Int):F6 (itoa n)=decDigits n.natAbs:=by
 have h:=A8o n
 by_cases h0:n < 0
 ·rw [if_pos h0] at h
  rw [<- h]
  unfold itoa
  rw [if_pos h0]
  rfl
 ·rw [if_neg h0] at h
  rw [h]
  cases hh:decDigits n.natAbs with
  | nil=>exact (A1b _ hh).elim
  | cons b r =>
   have:=B8l hh
   unfold F6
   split
   ·rename_i e; cases e; exact (this rfl).elim
   ·rfl
theorem Y7 {A B:Int} (h:D5 (itoa A)=0) (hB:B.natAbs<=A.natAbs):D5 (itoa B)=0:=by
 rw [A5y] at h ⊢
 have:=Q3 hB
 split at h
 ·cases h
 ·rw [if_neg (by omega)]
theorem F3s (A B:Int) (h1:¬ K7 A < K7 B) (h2:¬ K7 A > K7 B):K7 A*K7 ((A.natAbs:Int) - B.natAbs)=K7 (A - B):=by
 unfold K7 at *
 by_cases a0:A=0
 ·subst a0
  simp at h1 h2 ⊢
  by_cases b0:B=0
  ·subst b0; simp
  ·rw [if_neg b0] at h1 h2
   split at h1 <;> simp_all
 ·by_cases a1:A < 0
  ·simp only [if_neg a0,if_pos a1] at *
   by_cases b0:B=0
   ·subst b0; simp at h1
   ·by_cases b1:B < 0
    ·rcases Int.lt_trichotomy A B with h | h | h
     ·rw [if_neg (by omega),if_neg (by omega),if_neg (by omega),if_pos (by omega)]; rfl
     ·subst h; simp
     ·rw [if_neg (by omega),if_pos (by omega),if_neg (by omega),if_neg (by omega)]; rfl
    ·simp [b0,b1] at h1
  ·simp only [if_neg a0,if_neg a1] at *
   by_cases b0:B=0
   ·subst b0; simp at h2
   ·by_cases b1:B < 0
    ·simp [b0,b1] at h2
    ·rcases Int.lt_trichotomy A B with h | h | h
     ·rw [if_neg (by omega),if_pos (by omega),if_neg (by omega),if_pos (by omega)]; rfl
     ·subst h; simp
     ·rw [if_neg (by omega),if_neg (by omega),if_neg (by omega),if_neg (by omega)]; rfl
theorem G0p {A B:Int} (h:K7 A < K7 B):K7 (A - B)=-1:=by
 unfold K7 at *
 by_cases a0:A=0 <;> by_cases b0:B=0 <;> by_cases a1:A < 0 <;> by_cases b1:B < 0 <;> simp only [a0,b0,a1,b1,if_true,if_false] at h <;> first | omega | (rw [if_neg (by omega),if_pos (by omega)])
theorem F8u {A B:Int} (h:K7 A > K7 B):K7 (A - B)=1:=by
 unfold K7 at *
 by_cases a0:A=0 <;> by_cases b0:B=0 <;> by_cases a1:A < 0 <;> by_cases b1:B < 0 <;> simp only [a0,b0,a1,b1,if_true,if_false] at h <;> first | omega | (rw [if_neg (by omega),if_neg (by omega)])
theorem E9c (A:Int):-1<=K7 A/\K7 A<=1:=by
 unfold K7
 by_cases h:A=0
 ·rw [if_pos h]; omega
 ·rw [if_neg h]
  by_cases h1:A < 0
  ·rw [if_pos h1]; omega
  ·rw [if_neg h1]; omega
end Go.Ad
