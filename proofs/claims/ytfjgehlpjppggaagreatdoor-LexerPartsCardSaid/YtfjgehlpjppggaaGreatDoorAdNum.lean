/- Numbers in words of nine digits, and in decimal digits: plain laws. -/
import Derived.Lib.ItoaNum
import Derived.Lib.Atoi
import Derived.Test.YtfjgehlpjppggaaGreatDoorAdCore
import Derived.Lib.SlTrimSet
import Derived.KernelRfl
import Derived.Lib.Bytealg
namespace Go.Ad
def BB:Nat:=1000000000
theorem BB_pos (n:Nat):0 < BB ^ n:=Nat.pow_pos (by decide)
def wd (V i:Nat):Nat:=V / BB ^ i % BB
def wf (V:Nat):Nat→Int:=fun i=>(wd V i:Int)
def wn (V:Nat):Nat:=if h:V=0 then 0 else wn (V / BB)+1
termination_by V
decreasing_by exact Nat.div_lt_self (by omega) (by decide)
theorem wn_zero:wn 0=0:=by rw [wn]; simp
theorem wn_pos {V:Nat} (h:V ≠ 0):wn V=wn (V / BB)+1:=by rw [wn,dif_neg h]
theorem lt_wn (V:Nat):V < BB ^ wn V:=by
 induction V using Nat.strongRecOn with
 | ind V ih =>
  by_cases h:V=0
  ·subst h; rw [wn_zero]; decide
  ·rw [wn_pos h,Nat.pow_succ]
   have:=ih (V / BB) (Nat.div_lt_self (by omega) (by decide))
   exact (Nat.div_lt_iff_lt_mul (by decide)).1 this
theorem wn_le {V : Nat} : ∀ {n : Nat}, V < BB ^ n → wn V ≤ n
  | 0, h => by have : V = 0 := by simpa using h
               subst this; rw [wn_zero]; exact Nat.le_refl _
  | n + 1, h => by
    by_cases h0 : V = 0
    · subst h0; rw [wn_zero]; omega
    · rw [wn_pos h0]
      rw [Nat.pow_succ] at h
      have := wn_le (V := V / BB) (n := n) ((Nat.div_lt_iff_lt_mul (by decide)).2 h)
      omega
theorem wn_lt_iff {V n:Nat}:wn V≤n ↔ V < BB ^ n:=by
 refine ⟨fun h=>Nat.lt_of_lt_of_le (lt_wn V) (Nat.pow_le_pow_right (by decide) h),wn_le⟩
theorem le_of_wn {V n:Nat} (h:n < wn V):BB ^ n≤V:=by
 rcases Nat.lt_or_ge V (BB ^ n) with h' | h'
 ·have:=wn_le h'; omega
 ·exact h'
theorem wd_lt (V i:Nat):wd V i < BB:=Nat.mod_lt _ (by decide)
theorem wd_zero {V i:Nat} (h:wn V≤i):wd V i=0:=by
 have:=wn_lt_iff.1 h
 unfold wd
 rw [Nat.div_eq_of_lt this]; rfl
theorem wd_top {V:Nat} (h:V ≠ 0):wd V (wn V - 1) ≠ 0:=by
 have hp:0 < wn V:=by rw [wn_pos h]; omega
 have h1:BB ^ (wn V - 1)≤V:=le_of_wn (by omega)
 have h2:=lt_wn V
 have h3:V / BB ^ (wn V - 1) < BB:=by
  rw [Nat.div_lt_iff_lt_mul (BB_pos _)]
  have:BB*BB ^ (wn V - 1)=BB ^ wn V:=by rw [Nat.mul_comm,← Nat.pow_succ]; congr 1; omega
  omega
 unfold wd
 rw [Nat.mod_eq_of_lt h3]
 have:=Nat.div_pos h1 (BB_pos _)
 omega
theorem mod_succ (V i:Nat):V % BB ^ (i+1)=V % BB ^ i+wd V i*BB ^ i:=by
 unfold wd
 rw [Nat.pow_succ,Nat.mod_mul,Nat.mul_comm (BB ^ i)]
theorem wd_mod {V i n:Nat} (h:i < n):wd (V % BB ^ n) i=wd V i:=by
 unfold wd
 obtain ⟨k,rfl⟩:∃ k,n=i+(k+1):=⟨n - i - 1,by omega⟩
 have e:BB ^ (i+(k+1))=BB ^ i*(BB*BB ^ k):=by rw [Nat.pow_add,Nat.pow_succ,Nat.mul_comm (BB ^ k)]
 rw [e,Nat.mod_mul_right_div_self,Nat.mod_mul_right_mod]
def wv:Nat→(Nat→Int)→Nat
 | 0,_=>0
 | n+1,f=>wv n f+(f n).toNat*BB ^ n
theorem wv_wf (V:Nat):∀ n,wv n (wf V)=V % BB ^ n
 | 0=>by simp [wv,Nat.mod_one]
 | n+1=>by
  rw [wv,wv_wf V n,mod_succ]
  simp [wf]
theorem wv_wn (V:Nat):wv (wn V) (wf V)=V:=by rw [wv_wf,Nat.mod_eq_of_lt (lt_wn V)]
def isW (n:Int) (f:Nat→Int):Prop:=n=(wn (wv n.toNat f):Int)∧f=wf (wv n.toNat f)∧n≤232
def valW (n:Int) (f:Nat→Int):Nat:=wv n.toNat f
theorem valW_wf (V:Nat):valW (wn V:Int) (wf V)=V:=by simp [valW,wv_wn]
theorem isW_wf {V:Nat} (h:wn V≤232):isW (wn V:Int) (wf V):=by
 have:=valW_wf V
 unfold valW at this
 refine ⟨?_,?_,by omega⟩
 ·rw [this]
 ·rw [this]
theorem isW_eq {n:Int} {f:Nat→Int} (h:isW n f):n=(wn (valW n f):Int)∧f=wf (valW n f)∧wn (valW n f)≤232:=by
 obtain ⟨h1,h2,h3⟩:=h
 exact ⟨h1,h2,by unfold valW; omega⟩
end Go.Ad
namespace Go.Ad
theorem dvd_sub_mod (V n:Nat):∃ k:Int,(V:Int)=k*(BB ^ n:Nat)+(V % BB ^ n:Nat) :=
 ⟨(V / BB ^ n:Nat),by
  have:=Nat.div_add_mod V (BB ^ n)
  rw [Nat.mul_comm] at this
  exact_mod_cast this.symm⟩
theorem mod_unique {S r n:Nat} {k:Int} (h:(S:Int)=k*(BB ^ n:Nat)+r) (hr:r < BB ^ n):S % BB ^ n=r:=by
 have hp:=BB_pos n
 have h1:((S % BB ^ n:Nat):Int)=(r:Int):=by
  rw [Int.natCast_emod,h,Int.add_comm,Int.add_mul_emod_self_right]
  exact Int.emod_eq_of_lt (by omega) (by exact_mod_cast hr)
 exact_mod_cast h1
def CInv (X Y:Nat) (fac:Int) (up S i:Nat) (rest:Int):Prop :=
 ((X % BB ^ (i+up):Nat):Int)+fac*(Y % BB ^ i:Nat)*(BB ^ up:Nat)=rest*(BB ^ (i+up):Nat)+(S % BB ^ (i+up):Nat)
section
variable {X Y up S i:Nat} {fac rest:Int} (hS:(S:Int)=X+fac*Y*(BB ^ up:Nat))
include hS
theorem cinv_zero:CInv X Y fac up S 0 0:=by
 unfold CInv
 simp only [Nat.zero_add,Nat.pow_zero,Nat.mod_one,Int.zero_mul]
 obtain ⟨k,hk⟩:=dvd_sub_mod X up
 have:=mod_unique (S:=S) (r:=X % BB ^ up) (n:=up) (k:=k+fac*Y) (by rw [hS,Int.add_mul]; omega) (Nat.mod_lt _ (BB_pos _))
 rw [this]
 simp
theorem cinv_step (h:CInv X Y fac up S i rest):CInv X Y fac up S (i+1) ((rest+wd X (i+up)+fac*wd Y i) / (BB:Int))∧(rest+wd X (i+up)+fac*wd Y i) % (BB:Int)=(wd S (i+up):Int):=by
 have hBB:(0:Int) < (BB:Int):=by decide
 obtain ⟨s,hs⟩:∃ s,s=rest+wd X (i+up)+fac*wd Y i:=⟨_,rfl⟩
 rw [← hs]
 obtain ⟨q,hq⟩:∃ q,q=s / (BB:Int):=⟨_,rfl⟩
 obtain ⟨t,ht⟩:∃ t,t=s % (BB:Int):=⟨_,rfl⟩
 have hqt:q*BB+t=s:=by rw [hq,ht]; have:=Int.mul_ediv_add_emod s BB; rw [Int.mul_comm] at this; exact this
 have t0:0≤t:=by rw [ht]; exact Int.emod_nonneg _ (by omega)
 have t1:t < BB:=by rw [ht]; exact Int.emod_lt_of_pos _ hBB
 rw [← hq,← ht]
 obtain ⟨tn,rfl⟩:∃ n:Nat,t=n:=⟨t.toNat,by omega⟩
 have e0:i+1+up=(i+up)+1:=by omega
 have px:((X % BB ^ (i+up+1):Nat):Int)=(X % BB ^ (i+up):Nat)+wd X (i+up)*(BB ^ (i+up):Nat):=by
  rw [mod_succ X (i+up)]; push_cast; rfl
 have py:((Y % BB ^ (i+1):Nat):Int)=(Y % BB ^ i:Nat)+wd Y i*(BB ^ i:Nat):=by
  rw [mod_succ Y i]; push_cast; rfl
 have pw:((BB ^ (i+up):Nat):Int)=(BB ^ i:Nat)*(BB ^ up:Nat):=by rw [Nat.pow_add]; push_cast; rfl
 have pw1:((BB ^ (i+up+1):Nat):Int)=(BB ^ (i+up):Nat)*BB:=by rw [Nat.pow_succ]; push_cast; rfl
 unfold CInv at h
 have hl:((X % BB ^ (i+up+1):Nat):Int)+fac*(Y % BB ^ (i+1):Nat)*(BB ^ up:Nat)=q*(BB ^ (i+up+1):Nat)+(tn*(BB ^ (i+up):Nat)+(S % BB ^ (i+up):Nat)):=by
  rw [px,py,pw1]
  have e1:fac*(((Y % BB ^ i:Nat):Int)+wd Y i*(BB ^ i:Nat))*(BB ^ up:Nat)=fac*(Y % BB ^ i:Nat)*(BB ^ up:Nat)+(fac*wd Y i)*(BB ^ (i+up):Nat):=by
   rw [pw,Int.mul_add,Int.add_mul]
   congr 1
   simp only [Int.mul_assoc]
  have e2:q*((BB ^ (i+up):Nat)*BB)+tn*(BB ^ (i+up):Nat)=s*(BB ^ (i+up):Nat):=by
   rw [← hqt,Int.add_mul,Int.mul_assoc,Int.mul_comm ((BB ^ (i+up):Nat):Int)]
  have e3:s*((BB ^ (i+up):Nat):Int)=rest*(BB ^ (i+up):Nat)+wd X (i+up)*(BB ^ (i+up):Nat)+fac*wd Y i*(BB ^ (i+up):Nat):=by
   rw [hs,Int.add_mul,Int.add_mul]
  rw [e1]
  omega
 obtain ⟨kx,hx⟩:=dvd_sub_mod X (i+up+1)
 obtain ⟨ky,hy⟩:=dvd_sub_mod Y (i+1)
 have hr:tn*BB ^ (i+up)+S % BB ^ (i+up) < BB ^ (i+up+1):=by
  have h1:=Nat.mod_lt S (BB_pos (i+up))
  have h2:(tn+1)*BB ^ (i+up)≤BB*BB ^ (i+up):=Nat.mul_le_mul_right _ (by omega)
  rw [Nat.add_mul] at h2
  rw [Nat.pow_succ,Nat.mul_comm _ BB]
  omega
 have hmod:=mod_unique (S:=S) (r:=tn*BB ^ (i+up)+S % BB ^ (i+up)) (n:=i+up+1) (k:=kx+fac*ky+q) (by
  have e4:fac*(Y:Int)*(BB ^ up:Nat)=fac*ky*(BB ^ (i+up+1):Nat)+fac*(Y % BB ^ (i+1):Nat)*(BB ^ up:Nat):=by
   rw [hy,Int.mul_add,Int.add_mul]
   congr 1
   have pw2:((BB ^ (i+up+1):Nat):Int)=(BB ^ (i+1):Nat)*(BB ^ up:Nat):=by
    rw [show i+up+1=(i+1)+up by omega,Nat.pow_add]; push_cast; rfl
   rw [pw2]
   simp only [Int.mul_assoc]
  rw [hS,hx,e4,Int.add_mul,Int.add_mul]
  push_cast at hl ⊢
  omega) hr
 refine ⟨?_,?_⟩
 ·unfold CInv
  rw [e0,hl,hmod]
  push_cast
  rfl
 ·have:=mod_succ S (i+up)
  rw [hmod,Nat.add_comm] at this
  have h3:tn*BB ^ (i+up)=wd S (i+up)*BB ^ (i+up):=by omega
  have:=Nat.eq_of_mul_eq_mul_right (BB_pos _) h3
  exact_mod_cast this
theorem cinv_more (h:CInv X Y fac up S i rest) (hy:wn Y≤i) (hr:rest ≠ 0):i+up < max (wn X) (wn S):=by
 have hp:(0:Int) < (BB ^ (i+up):Nat):=by exact_mod_cast BB_pos (i+up)
 have hY:Y % BB ^ i=Y:=Nat.mod_eq_of_lt (wn_lt_iff.1 hy)
 unfold CInv at h
 rw [hY] at h
 have h1:=Nat.mod_lt X (BB_pos (i+up))
 have h2:=Nat.mod_lt S (BB_pos (i+up))
 have h3:=Nat.mod_le X (BB ^ (i+up))
 have h4:=Nat.mod_le S (BB ^ (i+up))
 rcases Int.lt_or_gt_of_ne hr with hn | hn
 ·-- rest < 0
  have h5:rest*((BB ^ (i+up):Nat):Int)≤-1*((BB ^ (i+up):Nat):Int):=Int.mul_le_mul_of_nonneg_right (by omega) (by omega)
  have h6:BB ^ (i+up)≤X:=by
   rcases Nat.lt_or_ge X (BB ^ (i+up)) with h7 | h7
   ·rw [Nat.mod_eq_of_lt h7] at h
    generalize fac*(Y:Int)*(BB ^ up:Nat)=z at *
    generalize rest*((BB ^ (i+up):Nat):Int)=u at *
    omega
   ·exact h7
  have:i+up < wn X:=by
   rcases Nat.lt_or_ge (i+up) (wn X) with h7 | h7
   ·exact h7
   ·have:=wn_lt_iff.1 h7; omega
  omega
 ·have h5:1*((BB ^ (i+up):Nat):Int)≤rest*((BB ^ (i+up):Nat):Int):=Int.mul_le_mul_of_nonneg_right (by omega) (by omega)
  have h6:BB ^ (i+up)≤S:=by
   generalize fac*(Y:Int)*(BB ^ up:Nat)=z at *
   generalize rest*((BB ^ (i+up):Nat):Int)=u at *
   generalize S % BB ^ (i+up)=d at *
   generalize X % BB ^ (i+up)=c at *
   omega
  have:i+up < wn S:=by
   rcases Nat.lt_or_ge (i+up) (wn S) with h7 | h7
   ·exact h7
   ·have:=wn_lt_iff.1 h7; omega
  omega
theorem cinv_end (h:CInv X Y fac up S i 0) (hy:wn Y≤i):S / BB ^ (i+up)=X / BB ^ (i+up):=by
 have hY:Y % BB ^ i=Y:=Nat.mod_eq_of_lt (wn_lt_iff.1 hy)
 unfold CInv at h
 rw [hY] at h
 have h1:=Nat.div_add_mod X (BB ^ (i+up))
 have h2:=Nat.div_add_mod S (BB ^ (i+up))
 have h3:BB ^ (i+up)*(S / BB ^ (i+up))=BB ^ (i+up)*(X / BB ^ (i+up)):=by
  generalize fac*(Y:Int)*(BB ^ up:Nat)=z at *
  generalize BB ^ (i+up)*(S / BB ^ (i+up))=a at *
  generalize BB ^ (i+up)*(X / BB ^ (i+up))=b at *
  generalize X % BB ^ (i+up)=c at *
  generalize S % BB ^ (i+up)=d at *
  omega
 exact Nat.eq_of_mul_eq_mul_left (BB_pos _) h3
end
theorem cinv_rest {X Y up S i:Nat} {fac rest:Int} (h:CInv X Y fac up S i rest) (hf:-1000000000≤fac∧fac≤1000000000):-1000000001≤rest∧rest≤1000000001:=by
 have hp:(0:Int) < (BB ^ (i+up):Nat):=by exact_mod_cast BB_pos (i+up)
 have h1:=Nat.mod_lt X (BB_pos (i+up))
 have h2:=Nat.mod_lt S (BB_pos (i+up))
 have h3:=Nat.mod_lt Y (BB_pos i)
 have pw:((BB ^ (i+up):Nat):Int)=(BB ^ i:Nat)*(BB ^ up:Nat):=by rw [Nat.pow_add]; push_cast; rfl
 have hz:((Y % BB ^ i:Nat):Int)*(BB ^ up:Nat)≤(BB ^ (i+up):Nat):=by
  rw [pw]; exact Int.mul_le_mul_of_nonneg_right (by exact_mod_cast Nat.le_of_lt h3) (Int.natCast_nonneg _)
 have hz0:(0:Int)≤((Y % BB ^ i:Nat):Int)*(BB ^ up:Nat):=Int.mul_nonneg (Int.natCast_nonneg _) (Int.natCast_nonneg _)
 unfold CInv at h
 rw [Int.mul_assoc] at h
 have a1:fac*(((Y % BB ^ i:Nat):Int)*(BB ^ up:Nat))≤1000000000*(BB ^ (i+up):Nat):=by
  refine Int.le_trans (Int.mul_le_mul_of_nonneg_right hf.2 hz0) (Int.mul_le_mul_of_nonneg_left hz (by omega))
 have a2:-(1000000000*((BB ^ (i+up):Nat):Int))≤fac*(((Y % BB ^ i:Nat):Int)*(BB ^ up:Nat)):=by
  have b1:=Int.mul_le_mul_of_nonneg_right hf.1 hz0
  have b2:(1000000000:Int)*(((Y % BB ^ i:Nat):Int)*(BB ^ up:Nat))≤1000000000*(BB ^ (i+up):Nat):=Int.mul_le_mul_of_nonneg_left hz (by omega)
  rw [Int.neg_mul] at b1
  omega
 generalize fac*(((Y % BB ^ i:Nat):Int)*(BB ^ up:Nat))=z at *
 constructor
 ·rcases Int.lt_or_le rest (-1000000001) with hl | hl
  ·have:rest*((BB ^ (i+up):Nat):Int)≤-1000000002*((BB ^ (i+up):Nat):Int):=Int.mul_le_mul_of_nonneg_right (by omega) (by omega)
   generalize rest*((BB ^ (i+up):Nat):Int)=u at *
   generalize BB ^ (i+up)=w at *
   generalize X % w=c at *
   generalize S % w=d at *
   omega
  ·exact hl
 ·rcases Int.lt_or_le 1000000001 rest with hl | hl
  ·have:(1000000002:Int)*((BB ^ (i+up):Nat):Int)≤rest*((BB ^ (i+up):Nat):Int):=Int.mul_le_mul_of_nonneg_right (by omega) (by omega)
   generalize rest*((BB ^ (i+up):Nat):Int)=u at *
   generalize BB ^ (i+up)=w at *
   generalize X % w=c at *
   generalize S % w=d at *
   omega
  ·exact hl
end Go.Ad
namespace Go.Ad
def restC (X Y:Nat) (fac:Int) (up i:Nat):Int:=(((X % BB ^ (i+up):Nat):Int)+fac*(Y % BB ^ i:Nat)*(BB ^ up:Nat)) / (BB ^ (i+up):Nat)
theorem cinv_unique {X Y up S i:Nat} {fac rest:Int} (h:CInv X Y fac up S i rest):rest=restC X Y fac up i:=by
 have hp:(0:Int) < (BB ^ (i+up):Nat):=by exact_mod_cast BB_pos (i+up)
 have h2:=Nat.mod_lt S (BB_pos (i+up))
 unfold CInv at h
 unfold restC
 rw [h,Int.add_comm,Int.add_mul_ediv_right _ _ (by omega),Int.ediv_eq_zero_of_lt (Int.natCast_nonneg _) (by exact_mod_cast h2),Int.zero_add]
theorem cinv_all {X Y up S:Nat} {fac:Int} (hS:(S:Int)=X+fac*Y*(BB ^ up:Nat)):∀ i,∃ r,CInv X Y fac up S i r
 | 0=>⟨0,cinv_zero hS⟩
 | i+1=>by
  obtain ⟨r,hr⟩:=cinv_all hS i
  exact ⟨_,(cinv_step hS hr).1⟩
theorem cinv_C {X Y up S:Nat} {fac:Int} (hS:(S:Int)=X+fac*Y*(BB ^ up:Nat)) (i:Nat):CInv X Y fac up S i (restC X Y fac up i):=by
 obtain ⟨r,hr⟩:=cinv_all hS i
 rwa [← cinv_unique hr]
def fI (X S up i:Nat):Nat→Int:=fun j=>if j < i+up then wf S j else wf X j
def nI (X up i:Nat):Nat:=if i=0 then wn X else max (wn X) (i+up)
theorem fI_zero {X Y up S:Nat} {fac:Int} (hS:(S:Int)=X+fac*Y*(BB ^ up:Nat)):fI X S up 0=wf X:=by
 have h:=cinv_C hS 0
 have h0:restC X Y fac up 0=0:=(cinv_unique (cinv_zero hS)).symm
 rw [h0] at h
 unfold CInv at h
 simp only [Nat.pow_zero,Nat.mod_one,Nat.zero_add] at h
 have hm:S % BB ^ up=X % BB ^ up:=by
  have:((X % BB ^ up:Nat):Int)=(S % BB ^ up:Nat):=by simpa using h
  exact_mod_cast this.symm
 funext j
 unfold fI
 split
 ·rename_i hj
  rw [Nat.zero_add] at hj
  simp only [wf]
  rw [← wd_mod (V:=S) hj,← wd_mod (V:=X) hj,hm]
 ·rfl
theorem fI_succ {X S up i:Nat}:updF (fI X S up i) (i+up) (wd S (i+up))=fI X S up (i+1):=by
 funext j
 unfold updF fI
 by_cases h:j=i+up
 ·subst h; rw [if_pos rfl,if_pos (by omega)]; rfl
 ·rw [if_neg h]
  by_cases h2:j < i+up
  ·rw [if_pos h2,if_pos (by omega)]
  ·rw [if_neg h2,if_neg (by omega)]
theorem fI_end {X Y up S i:Nat} {fac:Int} (hS:(S:Int)=X+fac*Y*(BB ^ up:Nat)) (hy:wn Y≤i) (hr:restC X Y fac up i=0):fI X S up i=wf S:=by
 have h:=cinv_C hS i
 rw [hr] at h
 have he:=cinv_end hS h hy
 funext j
 unfold fI
 split
 ·rfl
 ·rename_i hj
  simp only [wf,wd]
  obtain ⟨d,rfl⟩:∃ d,j=(i+up)+d:=⟨j - (i+up),by omega⟩
  rw [Nat.pow_add,← Nat.div_div_eq_div_mul,← Nat.div_div_eq_div_mul,he]
theorem nI_end {X Y up S i:Nat} {fac:Int} (hS:(S:Int)=X+fac*Y*(BB ^ up:Nat)) (hy:wn Y≤i) (hr:restC X Y fac up i=0):wn S≤nI X up i:=by
 have h:=cinv_C hS i
 rw [hr] at h
 have he:=cinv_end hS h hy
 unfold nI
 split
 ·rename_i h0
  subst h0
  have hY:Y=0:=by
   have:=lt_wn Y
   have h0:wn Y=0:=by omega
   rw [h0] at this; simpa using this
  subst hY
  have:(S:Int)=X:=by simpa using hS
  have:S=X:=by exact_mod_cast this
  rw [this]; exact Nat.le_refl _
 ·refine wn_le ?_
  have h1:X / BB ^ (max (wn X) (i+up))=0:=Nat.div_eq_of_lt (wn_lt_iff.1 (Nat.le_max_left _ _))
  have h2:S / BB ^ (max (wn X) (i+up))=X / BB ^ (max (wn X) (i+up)):=by
   obtain ⟨d,hd⟩:∃ d,max (wn X) (i+up)=(i+up)+d:=⟨max (wn X) (i+up) - (i+up),by omega⟩
   rw [hd,Nat.pow_add,← Nat.div_div_eq_div_mul,← Nat.div_div_eq_div_mul,he]
  rw [h1] at h2
  exact (Nat.div_eq_zero_iff_lt (BB_pos _)).1 h2
theorem nI_succ {X up i:Nat}:max (nI X up i) (i+up+1)=nI X up (i+1):=by
 unfold nI
 rw [if_neg (by omega:¬ i+1=0)]
 split <;> omega
end Go.Ad
namespace Go.Ad
def topR (n:Int) (f:Nat→Int) (i:Int):Int:=bif decide (i < 0) || decide (i ≥ n) then 0 else f i.toNat
theorem topR_wf (V i:Nat):topR (wn V) (wf V) (i:Int)=(wd V i:Int):=by
 unfold topR
 rw [decide_eq_false (show ¬ (i:Int) < 0 by omega),Bool.false_or]
 by_cases h:(i:Int) ≥ (wn V:Int)
 ·rw [decide_eq_true h,cond_true,wd_zero (by omega)]; rfl
 ·rw [decide_eq_false h,cond_false,Int.toNat_natCast]; rfl
def estA (n:Int) (f:Nat→Int) (n':Int):Int:=topR n f n'*1000000000+topR n f (n' - 1)
def estB (n':Int) (g:Nat→Int):Int:=if n' > 1 then topR n' g (n' - 1)+1 else topR n' g (n' - 1)
def estR (n:Int) (f:Nat→Int) (n':Int) (g:Nat→Int):Int :=
 if (estA n f n').tdiv (estB n' g) > 0 then (if 999999999 < (estA n f n').tdiv (estB n' g) then 999999999 else (estA n f n').tdiv (estB n' g)) else 1
theorem top_two {X p:Nat} (h:X < BB ^ (p+2)):X / BB ^ p=wd X (p+1)*BB+wd X p:=by
 have h1:X / BB ^ (p+1) < BB:=by
  rw [Nat.div_lt_iff_lt_mul (BB_pos _)]
  have:BB*BB ^ (p+1)=BB ^ (p+2):=by rw [Nat.mul_comm,← Nat.pow_succ]
  omega
 have h2:X / BB ^ (p+1)=X / BB ^ p / BB:=by rw [Nat.pow_succ,Nat.div_div_eq_div_mul]
 unfold wd
 rw [Nat.mod_eq_of_lt h1,h2]
 have:=Nat.div_add_mod (X / BB ^ p) BB
 rw [Nat.mul_comm] at this
 exact this.symm
theorem top_one {Y p:Nat} (h:Y < BB ^ (p+1)):Y / BB ^ p=wd Y p:=by
 have h1:Y / BB ^ p < BB:=by
  rw [Nat.div_lt_iff_lt_mul (BB_pos _)]
  have:BB*BB ^ p=BB ^ (p+1):=by rw [Nat.mul_comm,← Nat.pow_succ]
  omega
 unfold wd
 rw [Nat.mod_eq_of_lt h1]
theorem estR_ok {X Y:Nat} (hY:0 < Y) (hle:Y≤X) (hlt:X < Y*BB) :
  estB (wn Y) (wf Y) ≠ 0∧(0≤estA (wn X) (wf X) (wn Y)∧estA (wn X) (wf X) (wn Y)≤1000000000000000000)∧(0≤estB (wn Y) (wf Y)∧estB (wn Y) (wf Y)≤1000000000) ∧
  ∃ k:Nat,estR (wn X) (wf X) (wn Y) (wf Y)=k∧1≤k∧k≤999999999∧k*Y≤X:=by
 have hB:BB=1000000000:=rfl
 have hp:0 < wn Y:=by rw [wn_pos (by omega)]; omega
 obtain ⟨p,hp⟩:∃ p,wn Y=p+1:=⟨wn Y - 1,by omega⟩
 have hYlt:Y < BB ^ (p+1):=by have:=lt_wn Y; rwa [hp] at this
 have hXlt:X < BB ^ (p+2):=by
  have h1:Y*BB≤BB ^ (p+1)*BB:=Nat.mul_le_mul_right _ (by omega)
  rw [← Nat.pow_succ] at h1
  exact Nat.lt_of_lt_of_le hlt h1
 have ha:=top_two hXlt
 have hb:=top_one hYlt
 have e1:(((p+1:Nat):Int) - 1)=(p:Int):=by omega
 have hA:estA (wn X) (wf X) (wn Y)=(X / BB ^ p:Nat):=by
  unfold estA
  rw [hp,e1,topR_wf,topR_wf,ha]
  push_cast
  rfl
 have hb0:topR (wn Y) (wf Y) ((wn Y:Int) - 1)=(Y / BB ^ p:Nat):=by
  rw [show ((wn Y:Int) - 1)=(p:Int) by omega,topR_wf,hb]
 have hb1:1≤Y / BB ^ p:=by
  have:BB ^ p≤Y:=le_of_wn (by omega)
  exact Nat.div_pos this (BB_pos _)
 have hwa:=wd_lt X (p+1)
 have hwb:=wd_lt X p
 have hwy:=wd_lt Y p
 have hdY:=Nat.div_add_mod Y (BB ^ p)
 have hmY:=Nat.mod_lt Y (BB_pos p)
 have hdX:=Nat.div_mul_le_self X (BB ^ p)
 obtain ⟨b,hbe,hbb,hbp,hbY⟩:∃ b:Nat,estB (wn Y) (wf Y)=b∧1≤b∧b≤1000000000∧∀ k,k*b≤X / BB ^ p→k*Y≤X:=by
  unfold estB
  rw [hb0]
  by_cases h1:(wn Y:Int) > 1
  ·rw [if_pos h1]
   refine ⟨Y / BB ^ p+1,by push_cast; rfl,by omega,by rw [hb]; omega,fun k hk=>?_⟩
   have h2:Y≤(Y / BB ^ p+1)*BB ^ p:=by rw [Nat.add_mul,Nat.mul_comm (Y / BB ^ p)]; omega
   calc k*Y≤k*((Y / BB ^ p+1)*BB ^ p):=Nat.mul_le_mul_left _ h2
    _=(k*(Y / BB ^ p+1))*BB ^ p:=by rw [Nat.mul_assoc]
    _≤X / BB ^ p*BB ^ p:=Nat.mul_le_mul_right _ hk
    _≤X:=hdX
  ·rw [if_neg h1]
   have h0:p=0:=by omega
   subst h0
   refine ⟨Y / BB ^ 0,rfl,hb1,by rw [hb]; omega,fun k hk=>?_⟩
   simpa using hk
 have hAle:X / BB ^ p≤1000000000000000000:=by rw [ha,hB]; omega
 generalize X / BB ^ p=D at hA hAle hbY
 have hDb:estR (wn X) (wf X) (wn Y) (wf Y)=if ((D / b:Nat):Int) > 0 then (if 999999999 < ((D / b:Nat):Int) then 999999999 else ((D / b:Nat):Int)) else 1:=by
  unfold estR
  rw [hA,hbe,← Int.ofNat_tdiv]
 have hkb:D / b*b≤D:=Nat.div_mul_le_self _ _
 generalize D / b=q at hDb hkb
 refine ⟨by omega,⟨by omega,by omega⟩,⟨by omega,by omega⟩,?_⟩
 rw [hDb]
 by_cases hk:q > 0
 ·rw [if_pos (by omega)]
  by_cases hk2:999999999 < q
  ·rw [if_pos (by omega)]
   exact ⟨999999999,rfl,by omega,by omega,hbY _ (Nat.le_trans (Nat.mul_le_mul_right _ (by omega)) hkb)⟩
  ·rw [if_neg (by omega)]
   exact ⟨q,rfl,by omega,by omega,hbY _ hkb⟩
 ·rw [if_neg (by omega)]
  exact ⟨1,rfl,by omega,by omega,by omega⟩
theorem shiftW {R v:Nat} (hv:v < BB) (hn:wn R≤231):updF (copyF (wf R) 1 (min (wn R) 231) (fun x=>wf R x)) 0 (v:Int)=wf (R*BB+v):=by
 have e:∀ x,wd (R*BB+v) (x+1)=wd R x:=fun x=>by
  unfold wd
  rw [Nat.pow_succ,Nat.mul_comm (BB ^ x),← Nat.div_div_eq_div_mul]
  have:(R*BB+v) / BB=R:=by
   rw [Nat.mul_comm,Nat.mul_add_div (by decide),Nat.div_eq_of_lt hv,Nat.add_zero]
  rw [this]
 have e0:wd (R*BB+v) 0=v:=by
  unfold wd
  rw [Nat.pow_zero,Nat.div_one,Nat.mul_comm,Nat.mul_add_mod,Nat.mod_eq_of_lt hv]
 funext x
 unfold updF copyF
 cases x with
 | zero=>rw [if_pos rfl]; simp only [wf,e0]
 | succ x =>
  rw [if_neg (by omega),decide_eq_true (show 1≤x+1 by omega),Bool.true_and]
  by_cases h:x+1 < 1+min (wn R) 231
  ·rw [decide_eq_true h,cond_true]
   simp only [wf,e,Nat.add_sub_cancel]
  ·rw [decide_eq_false h,cond_false]
   simp only [wf,e]
   rw [wd_zero (V:=R) (i:=x) (by omega),wd_zero (V:=R) (i:=x+1) (by omega)]
theorem wn_shift {R v:Nat} (hv:v < BB):wn (R*BB+v)≤wn R+1:=by
 refine wn_le ?_
 have h:=lt_wn R
 rw [Nat.pow_succ]
 have:(R+1)*BB≤BB ^ wn R*BB:=Nat.mul_le_mul_right _ h
 rw [Nat.add_mul] at this
 omega
end Go.Ad
namespace Go.Ad
theorem wf_zero:wf 0=fun _=>0:=by
 funext i
 simp [wf,wd]
theorem div_succ (X i:Nat):X / BB ^ i=X / BB ^ (i+1)*BB+wd X i:=by
 unfold wd
 rw [Nat.pow_succ,← Nat.div_div_eq_div_mul]
 have:=Nat.div_add_mod (X / BB ^ i) BB
 rw [Nat.mul_comm] at this
 exact this.symm
theorem div_step {X Y i:Nat} (hY:0 < Y) :
  ((X / BB ^ (i+1) % Y)*BB+wd X i) % Y=X / BB ^ i % Y∧((X / BB ^ (i+1) % Y)*BB+wd X i) / Y=wd (X / Y) i∧(X / BB ^ (i+1) % Y)*BB+wd X i < Y*BB:=by
 have hw:=wd_lt X i
 have hR:=Nat.mod_lt (X / BB ^ (i+1)) hY
 have hdm:=Nat.div_add_mod (X / BB ^ (i+1)) Y
 generalize hq:X / BB ^ (i+1) / Y=q at hdm
 generalize hr:X / BB ^ (i+1) % Y=R at hdm hR ⊢
 have hX:X / BB ^ i=(q*BB)*Y+(R*BB+wd X i):=by
  rw [div_succ,← hdm,Nat.add_mul]
  have:Y*q*BB=q*BB*Y:=by rw [Nat.mul_comm Y q,Nat.mul_assoc,Nat.mul_assoc,Nat.mul_comm Y BB]
  omega
 have hlt:R*BB+wd X i < Y*BB:=by
  have:(R+1)*BB≤Y*BB:=Nat.mul_le_mul_right _ hR
  rw [Nat.add_mul] at this
  omega
 refine ⟨?_,?_,hlt⟩
 ·rw [hX,Nat.mul_comm (q*BB) Y,Nat.mul_add_mod]
 ·have h1:X / Y / BB ^ i=q*BB+(R*BB+wd X i) / Y:=by
   rw [Nat.div_div_eq_div_mul,Nat.mul_comm Y,← Nat.div_div_eq_div_mul,hX,Nat.mul_comm (q*BB),Nat.mul_add_div hY]
  have h2:(R*BB+wd X i) / Y < BB:=by
   rw [Nat.div_lt_iff_lt_mul hY,Nat.mul_comm BB]
   exact hlt
  have:wd (X / Y) i=(X / Y / BB ^ i) % BB:=rfl
  rw [this,h1,Nat.mul_comm q,Nat.mul_add_mod,Nat.mod_eq_of_lt h2]
def fqI (Q i:Nat):Nat→Int:=fun j=>if i≤j then wf Q j else 0
theorem fqI_succ {Q i:Nat}:updF (fqI Q (i+1)) i (wd Q i:Int)=fqI Q i:=by
 funext j
 unfold updF fqI
 by_cases h:j=i
 ·subst h; rw [if_pos rfl,if_pos (Nat.le_refl _)]; rfl
 ·rw [if_neg h]
  by_cases h2:i+1≤j
  ·rw [if_pos h2,if_pos (by omega)]
  ·rw [if_neg h2,if_neg (by omega)]
theorem fqI_top {X Y:Nat}:fqI (X / Y) (wn X)=fun _=>0:=by
 funext j
 unfold fqI
 split
 ·rename_i h
  have:wn (X / Y)≤wn X:=wn_le (Nat.lt_of_le_of_lt (Nat.div_le_self _ _) (lt_wn X))
  simp [wf,wd_zero (V:=X / Y) (i:=j) (by omega)]
 ·rfl
theorem fqI_zero {Q:Nat}:fqI Q 0=wf Q:=by
 funext j
 unfold fqI
 rw [if_pos (Nat.zero_le _)]
end Go.Ad
namespace Go.Ad
open Go.Lib (decDigits decFrom decNat digitVal nDigits itoa)
def dig (v:Nat):UInt8:=UInt8.ofNat (48+v % 10)
def pad:Nat→Nat→List UInt8
 | 0,_=>[]
 | k+1,v=>pad k (v / 10)++[dig v]
theorem pad_length:∀ (k v:Nat),(pad k v).length=k
 | 0,_=>rfl
 | k+1,v=>by simp [pad,pad_length k]
theorem dec_small {u:Nat} (h:u < 10):decDigits u=[dig u]:=by
 rw [decDigits,dif_pos h,dig,Nat.mod_eq_of_lt h]
theorem dec_big {u:Nat} (h:¬ u < 10):decDigits u=decDigits (u / 10)++[dig u]:=by
 rw [decDigits,dif_neg h,dig]
theorem pad_mod:∀ (k v:Nat),pad k (v % 10 ^ k)=pad k v
 | 0,_=>rfl
 | k+1,v=>by
  simp only [pad]
  have h1:v % 10 ^ (k+1) / 10=v / 10 % 10 ^ k:=by rw [Nat.pow_succ,Nat.mul_comm,Nat.mod_mul_right_div_self]
  have h2:dig (v % 10 ^ (k+1))=dig v:=by
   unfold dig
   rw [Nat.pow_succ,Nat.mul_comm,Nat.mod_mul_right_mod]
  rw [h1,h2,pad_mod k]
theorem dec_split:∀ (k U:Nat),10 ^ k≤U→decDigits U=decDigits (U / 10 ^ k)++pad k U
 | 0,U,_=>by simp [pad]
 | k+1,U,h=>by
  have hp:1≤10 ^ k:=Nat.one_le_pow _ _ (by decide)
  have h10:¬ U < 10:=by rw [Nat.pow_succ] at h; omega
  have hk:10 ^ k≤U / 10:=by rw [Nat.pow_succ] at h; exact (Nat.le_div_iff_mul_le (by decide)).2 h
  rw [dec_big h10,dec_split k (U / 10) hk]
  simp only [pad]
  rw [List.append_assoc,Nat.pow_succ,Nat.mul_comm,← Nat.div_div_eq_div_mul]
theorem decFrom_append:∀ (s t:List UInt8) (acc a:Nat),decFrom acc s=some a→decFrom acc (s++t)=decFrom a t
 | [],t,acc,a,h=>by simp only [decFrom,Option.some.injEq] at h; subst h; rfl
 | b :: s,t,acc,a,h=>by
  simp only [decFrom,List.cons_append] at h ⊢
  cases hd:digitVal b with
  | none=>rw [hd] at h; cases h
  | some d=>rw [hd] at h; exact decFrom_append s t _ a h
theorem digitVal_dig (v:Nat):digitVal (dig v)=some (v % 10):=by
 have h:(dig v).toNat=48+v % 10:=by
  unfold dig
  exact UInt8.toNat_ofNat_of_lt' (show 48+v % 10 < 256 by omega)
 unfold digitVal
 rw [h,if_pos (by omega)]
 congr 1; omega
theorem decFrom_pad:∀ (k v acc:Nat),decFrom acc (pad k v)=some (acc*10 ^ k+v % 10 ^ k)
 | 0,v,acc=>by simp [pad,decFrom,Nat.mod_one]
 | k+1,v,acc=>by
  simp only [pad]
  rw [decFrom_append _ _ _ _ (decFrom_pad k (v / 10) acc)]
  simp only [decFrom,digitVal_dig]
  congr 1
  rw [Nat.pow_succ,Nat.add_mul,← Nat.mul_assoc]
  have h1:v % (10 ^ k*10)=v / 10 % 10 ^ k*10+v % 10:=by
   rw [Nat.mul_comm (10 ^ k),Nat.mod_mul]; omega
  omega
theorem decFrom_dec (U:Nat):decFrom 0 (decDigits U)=some U:=by
 induction U using Nat.strongRecOn with
 | ind U ih =>
  by_cases h:U < 10
  ·rw [dec_small h]; simp only [decFrom,digitVal_dig]; congr 1; omega
  ·rw [dec_big h,decFrom_append _ _ _ _ (ih (U / 10) (by omega))]
   simp only [decFrom,digitVal_dig]
   congr 1; omega
theorem dec_ne (U:Nat):decDigits U ≠ []:=by
 by_cases h:U < 10
 ·rw [dec_small h]; simp
 ·rw [dec_big h]; simp
theorem dec_digit (U:Nat):∀ b,b ∈ decDigits U→48≤b.toNat∧b.toNat≤57:=by
 induction U using Nat.strongRecOn with
 | ind U ih =>
  have hd:∀ v:Nat,48≤(dig v).toNat∧(dig v).toNat≤57:=fun v=>by
   have h:(dig v).toNat=48+v % 10:=by
    unfold dig
    exact UInt8.toNat_ofNat_of_lt' (show 48+v % 10 < 256 by omega)
   omega
  intro b hb
  by_cases h:U < 10
  ·rw [dec_small h] at hb
   rw [List.mem_singleton.1 hb]; exact hd U
  ·rw [dec_big h] at hb
   rcases List.mem_append.1 hb with hb | hb
   ·exact ih (U / 10) (by omega) b hb
   ·rw [List.mem_singleton.1 hb]; exact hd U
theorem pad_digit:∀ (k v:Nat) (b:UInt8),b ∈ pad k v→48≤b.toNat∧b.toNat≤57
 | 0,_,_,h=>by cases h
 | k+1,v,b,h=>by
  simp only [pad] at h
  rcases List.mem_append.1 h with h | h
  ·exact pad_digit k _ b h
  ·rw [List.mem_singleton.1 h]
   exact dec_digit (v % 10) _ (by rw [dec_small (by omega)]; simp [dig])
theorem atoi_digits {s:List UInt8} {n:Nat} (h0:s ≠ []) (hd:∀ b,b ∈ s→48≤b.toNat∧b.toNat≤57) (h:decFrom 0 s=some n):Lib.atoi s=some (n:Int):=by
 cases s with
 | nil=>exact (h0 rfl).elim
 | cons b r =>
  have hb:=hd b (by simp)
  have e1:(b == 45)=false:=by
   rw [beq_eq_false_iff_ne]
   intro e; rw [e] at hb; simp at hb
  have e2:(b == 43)=false:=by
   rw [beq_eq_false_iff_ne]
   intro e; rw [e] at hb; simp at hb
  simp only [Lib.atoi,e1,e2]
  simp [decNat,h]
theorem atoi_dec (U:Nat):Lib.atoi (decDigits U)=some (U:Int):=atoi_digits (dec_ne U) (dec_digit U) (decFrom_dec U)
theorem atoi_pad {k v:Nat} (hk:0 < k):Lib.atoi (pad k v)=some ((v % 10 ^ k:Nat):Int):=by
 refine atoi_digits (fun e=>?_) (pad_digit k v) ?_
 ·have:=pad_length k v; rw [e] at this; simp at this; omega
 ·rw [decFrom_pad]; simp
theorem BB_pow:BB=10 ^ 9:=by decide
theorem ten_le {a:Nat} (b:Nat) (h:a≤b):10 ^ a≤10 ^ b:=Nat.pow_le_pow_right (by decide) h
theorem BB_pow10 (k:Nat):BB ^ k=10 ^ (9*k):=by rw [BB_pow,← Nat.pow_mul]
theorem dec_len_small {U:Nat} (h:U < BB):(decDigits U).length≤9:=by
 rw [Lib.decDigits_length]
 rcases Nat.lt_or_ge 9 (nDigits U) with h9 | h9
 ·exfalso
  have key:∀ (k u:Nat),u < 10 ^ (k+1)→nDigits u≤k+1:=fun k=>by
   induction k with
   | zero=>intro u hu; rw [Lib.nDigits_small (by simpa using hu)]; exact Nat.le_refl _
   | succ k ih =>
    intro u hu
    by_cases h10:u < 10
    ·rw [Lib.nDigits_small h10]; omega
    ·rw [Lib.nDigits_big h10]
     have:=ih (u / 10) (by rw [Nat.pow_succ] at hu; exact (Nat.div_lt_iff_lt_mul (by decide)).2 hu)
     omega
  have:=key 8 U (by rw [BB_pow] at h; exact h)
  omega
 ·exact h9
theorem dec_split9 {U:Nat} (h:BB≤U):decDigits U=decDigits (U / BB)++pad 9 U∧U / BB ≠ 0:=by
 refine ⟨?_,?_⟩
 ·have:=dec_split 9 U (by rw [← BB_pow]; exact h)
  rwa [← BB_pow] at this
 ·have:=Nat.div_pos h (show 0 < BB by decide)
  omega
theorem pad_zeros:∀ (k v:Nat),v < 10 ^ k→0 < k→(List.replicate (k - (decDigits v).length) 48)++decDigits v=pad k v∧(decDigits v).length≤k
 | 0,_,_,h=>by omega
 | k+1,v,hv,_=>by
  by_cases h10:v < 10
  ·rw [dec_small h10]
   refine ⟨?_,by simp⟩
   simp only [pad,List.length_singleton,Nat.add_sub_cancel]
   congr 1
   have h0:v / 10=0:=by omega
   rw [h0]
   have:∀ k,pad k 0=List.replicate k (48:UInt8):=fun k=>by
    induction k with
    | zero=>rfl
    | succ k ih=>simp only [pad,Nat.zero_div,ih]; rw [List.replicate_succ']; rfl
   exact (this k).symm
  ·have hk:0 < k:=by
    rcases Nat.eq_zero_or_pos k with h | h
    ·subst h; omega
    ·exact h
   have hv2:v / 10 < 10 ^ k:=by rw [Nat.pow_succ] at hv; exact (Nat.div_lt_iff_lt_mul (by decide)).2 hv
   obtain ⟨i1,i2⟩:=pad_zeros k (v / 10) hv2 hk
   rw [dec_big h10]
   simp only [pad]
   refine ⟨?_,by simp; exact i2⟩
   rw [← i1]
   simp only [List.length_append,List.length_singleton]
   rw [show k+1 - ((decDigits (v / 10)).length+1)=k - (decDigits (v / 10)).length by omega,List.append_assoc]
def dvalN (s:List UInt8):Nat:=(decFrom 0 s).getD 0
def dvalZ:List UInt8→Int
 | 45 :: r=>-(dvalN r:Int)
 | s=>(dvalN s:Int)
theorem dvalN_dec (U:Nat):dvalN (decDigits U)=U:=by simp [dvalN,decFrom_dec]
theorem dec_head {U:Nat} {b:UInt8} {r:List UInt8} (h:decDigits U=b :: r):b ≠ 45:=by
 have:=dec_digit U b (by rw [h]; simp)
 intro e; rw [e] at this; simp at this
theorem dvalZ_itoa (n:Int):dvalZ (itoa n)=n:=by
 unfold itoa
 by_cases h:n < 0
 ·rw [if_pos h]
  simp only [dvalZ,dvalN_dec]
  omega
 ·rw [if_neg h]
  have hd:dvalZ (decDigits n.toNat)=(dvalN (decDigits n.toNat):Int):=by
   cases hh:decDigits n.toNat with
   | nil=>exact (dec_ne _ hh).elim
   | cons b r =>
    have:=dec_head hh
    unfold dvalZ
    split
    ·rename_i e; cases e; exact (this rfl).elim
    ·rfl
  rw [hd,dvalN_dec]
  omega
def isZ (s:List UInt8):Prop:=s=itoa (dvalZ s)
theorem isZ_itoa (n:Int):isZ (itoa n):=by unfold isZ; rw [dvalZ_itoa]
theorem nDigits_le:∀ (k u:Nat),u < 10 ^ (k+1)→nDigits u≤k+1
 | 0,u,hu=>by rw [Lib.nDigits_small (by simpa using hu)]; exact Nat.le_refl _
 | k+1,u,hu=>by
  by_cases h10:u < 10
  ·rw [Lib.nDigits_small h10]; omega
  ·rw [Lib.nDigits_big h10]
   have:=nDigits_le k (u / 10) (by rw [Nat.pow_succ] at hu; exact (Nat.div_lt_iff_lt_mul (by decide)).2 hu)
   omega
theorem dec_len {U:Nat} (h:wn U≤232):(decDigits U).length≤2088:=by
 rw [Lib.decDigits_length]
 refine nDigits_le 2087 U ?_
 have h1:=wn_lt_iff.1 h
 rw [BB_pow10,show 9*232=2087+1 from rfl] at h1
 exact h1
def gI (V k:Nat):Nat→Int:=fun j=>if j < k then wf V j else 0
theorem gI_zero {V:Nat}:gI V 0=fun _=>0:=by funext j; simp [gI]
theorem gI_succ {V k:Nat}:updF (gI V k) k (wd V k:Int)=gI V (k+1):=by
 funext j
 unfold updF gI
 by_cases h:j=k
 ·subst h; rw [if_pos rfl,if_pos (by omega)]; rfl
 ·rw [if_neg h]
  by_cases h2:j < k
  ·rw [if_pos h2,if_pos (by omega)]
  ·rw [if_neg h2,if_neg (by omega)]
theorem gI_end {V k:Nat} (h:wn V≤k):gI V k=wf V:=by
 funext j
 unfold gI
 split
 ·rfl
 ·simp [wf,wd_zero (V:=V) (i:=j) (by omega)]
def sR (V k:Nat):List UInt8:=if k=0 then decDigits V else if V / BB ^ k=0 then [] else decDigits (V / BB ^ k)
def kEnd (V:Nat):Nat:=if V=0 then 1 else wn V
theorem kEnd_ge (V:Nat):wn V≤kEnd V:=by
 unfold kEnd
 split
 ·rename_i h; subst h; rw [wn_zero]; omega
 ·exact Nat.le_refl _
theorem sR_end (V:Nat):sR V (kEnd V)=[]:=by
 unfold sR kEnd
 split
 ·rename_i h; subst h; simp
 ·rename_i h
  have hp:wn V ≠ 0:=by rw [wn_pos h]; omega
  rw [if_neg hp,if_pos (Nat.div_eq_of_lt (lt_wn V))]
theorem sR_more {V k:Nat} (h:k < kEnd V):sR V k=decDigits (V / BB ^ k):=by
 unfold sR
 by_cases hk:k=0
 ·subst hk; simp
 ·rw [if_neg hk]
  have hV:V ≠ 0:=fun e=>by subst e; simp [kEnd] at h; omega
  unfold kEnd at h
  rw [if_neg hV] at h
  have:=Nat.div_pos (le_of_wn h) (BB_pos k)
  rw [if_neg (by omega)]
theorem sR_step {V k:Nat} (h:k < kEnd V):∃ c,c≤(sR V k).length∧c=(sR V k).length - 9∧(sR V k).take c=sR V (k+1)∧((sR V k).drop c).length≤9∧Lib.atoi ((sR V k).drop c)=some (wd V k:Int):=by
 rw [sR_more h]
 have hdiv:V / BB ^ k / BB=V / BB ^ (k+1):=by rw [Nat.pow_succ,Nat.div_div_eq_div_mul]
 have hwd:wd V k=V / BB ^ k % BB:=rfl
 generalize hU:V / BB ^ k=U at hdiv hwd ⊢
 have hs:sR V (k+1)=if U / BB=0 then [] else decDigits (U / BB):=by
  unfold sR
  rw [if_neg (by omega),← hdiv]
 by_cases hb:U < BB
 ·have hl:=dec_len_small hb
  refine ⟨0,Nat.zero_le _,by omega,?_,by simpa using hl,?_⟩
  ·rw [hs,Nat.div_eq_of_lt hb]; rfl
  ·rw [List.drop_zero,atoi_dec,hwd,Nat.mod_eq_of_lt hb]
 ·obtain ⟨h1,h2⟩:=dec_split9 (U:=U) (by omega)
  have hp:=pad_length 9 U
  have hlen:(decDigits U).length=(decDigits (U / BB)).length+9:=by rw [h1,List.length_append,hp]
  refine ⟨(decDigits (U / BB)).length,by omega,by omega,?_,?_,?_⟩
  ·rw [hs,if_neg h2,h1,List.take_left]
  ·rw [h1,List.drop_left,hp]; exact Nat.le_refl _
  ·rw [h1,List.drop_left,atoi_pad (by omega),hwd,BB_pow]
theorem itoa_head (n:Int):((((itoa n).getD 0 0).toNat:Int) == 45)=decide (n < 0):=by
 unfold itoa
 by_cases h:n < 0
 ·rw [if_pos h,decide_eq_true h]; rfl
 ·rw [if_neg h,decide_eq_false h]
  cases hh:decDigits n.toNat with
  | nil=>exact (dec_ne _ hh).elim
  | cons b r =>
   have:=dec_digit n.toNat b (by rw [hh]; simp)
   rw [beq_eq_false_iff_ne]
   simp only [List.getD_eq_getElem?_getD,List.getElem?_cons_zero,Option.getD_some]
   omega
theorem itoa_abs (n:Int):(if n < 0 then (itoa n).drop 1 else itoa n)=decDigits n.natAbs:=by
 unfold itoa
 by_cases h:n < 0
 ·rw [if_pos h,if_pos h]; rfl
 ·rw [if_neg h,if_neg h]
  congr 1; omega
theorem itoa_ne (n:Int):itoa n ≠ []:=by
 unfold itoa
 split
 ·simp
 ·exact dec_ne _
end Go.Ad
namespace Go.Ad
open Go.Lib (decDigits decFrom decNat digitVal nDigits itoa)
theorem txt_step {V i:Nat} (h:i+1 < wn V):decDigits (V / BB ^ (i+1))++(List.replicate (9 - (decDigits (wd V i)).length) 48++decDigits (wd V i))=decDigits (V / BB ^ i)∧(decDigits (wd V i)).length≤9:=by
 have hw:wd V i < 10 ^ 9:=by rw [← BB_pow]; exact wd_lt V i
 obtain ⟨p1,p2⟩:=pad_zeros 9 (wd V i) hw (by omega)
 refine ⟨?_,p2⟩
 rw [p1]
 have hU:BB≤V / BB ^ i:=by
  rw [Nat.le_div_iff_mul_le (BB_pos _),Nat.mul_comm,← Nat.pow_succ]
  exact le_of_wn h
 have:=(dec_split9 hU).1
 rw [this]
 have hd:V / BB ^ i / BB=V / BB ^ (i+1):=by rw [Nat.pow_succ,Nat.div_div_eq_div_mul]
 rw [hd]
 congr 1
 have:wd V i=V / BB ^ i % 10 ^ 9:=by unfold wd; rw [BB_pow]
 rw [this,pad_mod]
theorem dec_top {V:Nat} (h:V ≠ 0):V / BB ^ (wn V - 1)=wd V (wn V - 1):=by
 have hp:0 < wn V:=by rw [wn_pos h]; omega
 have:=lt_wn V
 rw [show wn V=(wn V - 1)+1 by omega] at this
 exact top_one this
def sv (l:Bool) (V:Nat):Int:=bif l then -(V:Int) else V
theorem itoa_sv {l:Bool} {V:Nat} (h:V ≠ 0):itoa (sv l V)=(bif l then [45] else [])++decDigits V:=by
 unfold itoa sv
 cases l with
 | true =>
  simp only [cond_true]
  rw [if_pos (by omega)]
  simp
 | false =>
  simp only [cond_false]
  rw [if_neg (by omega)]
  simp
theorem dec0:decDigits 0=[48]:=by rw [dec_small (by omega)]; rfl
theorem itoa0:itoa 0=[48]:=by unfold itoa; rw [if_neg (by omega)]; exact dec0
theorem itoa_zero (l:Bool):itoa (sv l 0)=[48]:=by
 have:sv l 0=0:=by cases l <;> rfl
 rw [this,itoa0]
def isDg (b:UInt8):Bool:=decide (48≤b.toNat) && decide (b.toNat≤57)
def digs10:List UInt8:=[48,49,50,51,52,53,54,55,56,57]
theorem digs10_has (b:UInt8):digs10.contains b=isDg b:=by
 have h:((List.range 256).all fun n=>digs10.contains n.toUInt8 == isDg n.toUInt8)=true:=by kernel_rfl
 have hb:=List.all_eq_true.1 h b.toNat (List.mem_range.2 b.toNat_lt)
 have e:b.toNat.toUInt8=b:=by simp
 rw [e] at hb
 simpa using hb
theorem dropWhile_nilA {p:UInt8→Bool}:∀ {l:List UInt8},l.dropWhile p=[] ↔ l.all p=true
 | []=>by simp
 | b :: r=>by
  simp only [List.dropWhile_cons,List.all_cons,Bool.and_eq_true]
  cases h:p b with
  | true=>simp only [if_true,true_and]; exact dropWhile_nilA
  | false=>simp
theorem trimS_nilA (l:List UInt8):(Lib.trimS l digs10 == [])=l.all isDg:=by
 have e:(fun b=>digs10.contains b)=isDg:=funext digs10_has
 rw [Bool.eq_iff_iff,beq_iff_eq]
 simp only [Lib.trimS,Lib.trimLeftS,Lib.trimRightS,e]
 rw [dropWhile_nilA]
 constructor
 ·intro h
  cases ha:l.all isDg with
  | true=>rfl
  | false =>
   exfalso
   have hne:l.reverse.dropWhile isDg ≠ []:=by
    intro h2
    rw [dropWhile_nilA,List.all_reverse,ha] at h2; cases h2
   match hd:l.reverse.dropWhile isDg,hne with
   | b :: r,_ =>
    have h1:isDg b=false:=by
     have:=List.head?_dropWhile_not isDg l.reverse
     rw [hd] at this
     simpa using this
    rw [hd,List.all_reverse,List.all_cons,h1] at h
    cases h
 ·intro h
  have:l.reverse.dropWhile isDg=[]:=by rw [dropWhile_nilA,List.all_reverse]; exact h
  rw [this]; rfl
def absT:List UInt8→List UInt8
 | 45 :: r=>r
 | s=>s
def errI (s:List UInt8):Int :=
 if absT s=[] ∨ (absT s).all isDg=false then 3 else if (absT s).headD 0=48∧s ≠ [48] then 3 else if (absT s).length > 1024 then 11 else 0
theorem digits_dec:∀ (k:Nat) (s:List UInt8),s.length=k→s ≠ []→s.all isDg=true→(s.headD 0 ≠ 48 ∨ s.length=1)→s=decDigits (dvalN s)
 | 0,s,hl,hn,_,_=>(hn (List.eq_nil_of_length_eq_zero hl)).elim
 | k+1,s,hl,hn,hd,hh=>by
  obtain ⟨t,b,rfl⟩:∃ t b,s=t++[b]:=⟨s.dropLast,s.getLast hn,(List.dropLast_concat_getLast hn).symm⟩
  rw [List.all_append,Bool.and_eq_true] at hd
  have hb:isDg b=true:=by simpa using hd.2
  simp only [isDg,Bool.and_eq_true,decide_eq_true_eq] at hb
  have hbv:digitVal b=some (b.toNat - 48):=by unfold digitVal; rw [if_pos (by omega)]
  have hbd:∀ v:Nat,v % 10=b.toNat - 48→dig v=b:=fun v hv=>by
   unfold dig
   rw [hv,show 48+(b.toNat - 48)=b.toNat by omega]
   exact UInt8.ofNat_toNat
  by_cases ht:t=[]
  ·subst ht
   have:dvalN ([]++[b])=b.toNat - 48:=by simp [dvalN,decFrom,hbv]
   rw [this,dec_small (by omega),hbd _ (by omega)]
   rfl
  ·have hlt:t.length=k:=by simpa using hl
   have hhd:t.headD 0 ≠ 48:=by
    rcases hh with hh | hh
    ·cases t with
     | nil=>exact (ht rfl).elim
     | cons x y=>simpa using hh
    ·have:0 < t.length:=by cases t with | nil=>exact (ht rfl).elim | cons=>simp
     rw [List.length_append,List.length_singleton] at hh; omega
   have ih:=digits_dec k t hlt ht hd.1 (.inl hhd)
   have hft:decFrom 0 t=some (dvalN t):=by
    have:=decFrom_dec (dvalN t)
    rwa [← ih] at this
   have hv:dvalN (t++[b])=dvalN t*10+(b.toNat - 48):=by
    have h1:decFrom 0 (t++[b])=some (dvalN t*10+(b.toNat - 48)):=by
     rw [decFrom_append _ _ _ _ hft]; simp only [decFrom,hbv]
    show (decFrom 0 (t++[b])).getD 0=_
    rw [h1]; rfl
   have h0:dvalN t ≠ 0:=fun e=>by
    rw [e] at ih
    rw [ih] at hhd
    exact hhd (by rw [dec0]; rfl)
   rw [hv,dec_big (by omega),hbd _ (by omega),show (dvalN t*10+(b.toNat - 48)) / 10=dvalN t by omega,← ih]
theorem errI_ok {s:List UInt8} (h:errI s=0):isZ s∧(decDigits (dvalZ s).natAbs).length≤1024:=by
 unfold errI at h
 split at h
 ·cases h
 ·rename_i h1
  split at h
  ·cases h
  ·rename_i h2
   split at h
   ·cases h
   ·rename_i h3
    rw [not_or] at h1
    have hall:(absT s).all isDg=true:=by simpa using h1.2
    have hhead:(absT s).headD 0 ≠ 48 ∨ (absT s).length=1:=by
     by_cases e:(absT s).headD 0=48
     ·right
      have:s=[48]:=by
       by_cases e2:s=[48]
       ·exact e2
       ·exact (h2 ⟨e,e2⟩).elim
      rw [this]; rfl
     ·exact .inl e
    have hd:=digits_dec _ (absT s) rfl h1.1 hall hhead
    by_cases hm:∃ r,s=45 :: r
    ·obtain ⟨r,rfl⟩:=hm
     have ha:absT (45 :: r)=r:=rfl
     rw [ha] at hd h1 h2 h3
     have hv:dvalZ (45 :: r)=-(dvalN r:Int):=rfl
     have h0:dvalN r ≠ 0:=fun e=>by
      rw [e] at hd
      exact h2 ⟨by rw [hd,dec0]; rfl,by simp⟩
     refine ⟨?_,?_⟩
     ·unfold isZ
      rw [hv]
      unfold itoa
      rw [if_pos (by omega)]
      simp only [Int.natAbs_neg,Int.natAbs_natCast]
      rw [← hd]
     ·rw [hv]
      simp only [Int.natAbs_neg,Int.natAbs_natCast]
      rw [← hd]; omega
    ·have ha:absT s=s:=by
      unfold absT
      split
      ·rename_i r; exact (hm ⟨r,rfl⟩).elim
      ·rfl
     rw [ha] at hd h3
     have hv:dvalZ s=(dvalN s:Int):=by
      unfold dvalZ
      split
      ·rename_i r; exact (hm ⟨r,rfl⟩).elim
      ·rfl
     refine ⟨?_,?_⟩
     ·unfold isZ
      rw [hv]
      unfold itoa
      rw [if_neg (by omega)]
      simp only [Int.toNat_natCast]
      exact hd
     ·rw [hv,Int.natAbs_natCast,← hd]; omega
theorem errI_itoa (n:Int):errI (itoa n)=if (decDigits n.natAbs).length > 1024 then 11 else 0:=by
 have ha:absT (itoa n)=decDigits n.natAbs:=by
  have h:=itoa_abs n
  by_cases h0:n < 0
  ·rw [if_pos h0] at h
   rw [← h]
   unfold itoa
   rw [if_pos h0]
   rfl
  ·rw [if_neg h0] at h
   rw [h]
   cases hh:decDigits n.natAbs with
   | nil=>exact (dec_ne _ hh).elim
   | cons b r =>
    have:=dec_head hh
    unfold absT
    split
    ·rename_i e; cases e; exact (this rfl).elim
    ·rfl
 unfold errI
 rw [ha]
 have hall:(decDigits n.natAbs).all isDg=true:=by
  rw [List.all_eq_true]
  intro b hb
  have:=dec_digit _ b hb
  simp [isDg,this]
 rw [if_neg (by rw [not_or]; exact ⟨dec_ne _,by rw [hall]; simp⟩)]
 have hz:¬ ((decDigits n.natAbs).headD 0=48∧itoa n ≠ [48]):=by
  rintro ⟨h1,h2⟩
  have h0:n.natAbs=0:=by
   have key:∀ U:Nat,U ≠ 0→(decDigits U).headD 0 ≠ 48:=by
    intro U
    induction U using Nat.strongRecOn with
    | ind U ih =>
     intro hU
     by_cases h10:U < 10
     ·rw [dec_small h10]
      simp only [List.headD_cons]
      intro e
      have:(dig U).toNat=48+U % 10:=by
       unfold dig
       exact UInt8.toNat_ofNat_of_lt' (show 48+U % 10 < 256 by omega)
      rw [e] at this
      simp at this
      omega
     ·rw [dec_big h10]
      have hne:=dec_ne (U / 10)
      have:=ih (U / 10) (by omega) (by omega)
      cases hh:decDigits (U / 10) with
      | nil=>exact (hne hh).elim
      | cons x y=>rw [hh] at this; simpa using this
   rcases Nat.eq_zero_or_pos n.natAbs with h | h
   ·exact h
   ·exact (key _ (by omega) h1).elim
  have:n=0:=by omega
  subst this
  exact h2 itoa0
 rw [if_neg hz]
theorem wn_len {U:Nat} (h:(decDigits U).length≤1024):wn U≤114:=by
 refine wn_le ?_
 rw [Lib.decDigits_length] at h
 have h1:=Lib.lt_pow_nDigits U
 have h2:=ten_le (a:=nDigits U) (9*114) (by omega)
 have h3:=BB_pow10 114
 rw [h3]
 exact Nat.lt_of_lt_of_le h1 h2
end Go.Ad
namespace Go.Ad
open Go.Lib (decDigits decFrom decNat digitVal nDigits itoa)
theorem atoi_itoa (n:Int):Lib.atoi (itoa n)=some n:=by
 unfold itoa
 by_cases h:n < 0
 ·rw [if_pos h]
  have hne:=dec_ne n.natAbs
  have hd:decNat (decDigits n.natAbs)=some n.natAbs:=by
   unfold decNat
   cases hh:decDigits n.natAbs with
   | nil=>exact (hne hh).elim
   | cons b r=>rw [← hh,decFrom_dec]; simp [hh]
  simp only [Lib.atoi]
  rw [show ((45:UInt8) == 45)=true from rfl,if_pos rfl,hd]
  simp only [Option.map_some]
  congr 1; omega
 ·rw [if_neg h,atoi_dec]
  congr 1; omega
def resI (C:Int):List UInt8 × Int:=if (decDigits C.natAbs).length > 1024 then ([],11) else (itoa C,0)
theorem resI_eq (C:Int):(if errI (itoa C) ≠ 0 then (([],errI (itoa C)):List UInt8 × Int) else (itoa C,0))=resI C:=by
 unfold resI
 rw [errI_itoa]
 by_cases h:(decDigits C.natAbs).length > 1024
 ·rw [if_pos h,if_pos (by omega),if_pos h]
 ·rw [if_neg h,if_neg (by omega),if_neg h]
def binR (op:Int→Int→Int) (a b:List UInt8):List UInt8 × Int :=
 if errI a ≠ 0 then ([],errI a) else if errI b ≠ 0 then ([],errI b) else resI (op (dvalZ a) (dvalZ b))
def sgnZ (A:Int):Int:=if A=0 then 0 else if A < 0 then -1 else 1
theorem itoa_len (n:Int):(itoa n).length≤(decDigits n.natAbs).length+1:=by
 unfold itoa
 by_cases h:n < 0
 ·rw [if_pos h]; simp
 ·rw [if_neg h,show n.toNat=n.natAbs by omega]; omega
theorem itoa_small {n:Int} (h:(itoa n).length≤9):-1000000000 < n∧n < 1000000000:=by
 have key:∀ U:Nat,(decDigits U).length≤9→U < 1000000000:=fun U hU=>by
  rw [Lib.decDigits_length] at hU
  have h1:=Lib.lt_pow_nDigits U
  have h2:(10:Nat) ^ nDigits U≤10 ^ 9:=Nat.pow_le_pow_right (by decide) hU
  omega
 unfold itoa at h
 by_cases h0:n < 0
 ·rw [if_pos h0] at h
  simp only [List.length_cons] at h
  have:=key n.natAbs (by omega)
  omega
 ·rw [if_neg h0] at h
  have:=key n.toNat (by omega)
  omega
theorem itoa_inj {m n:Int} (h:itoa m=itoa n):m=n:=by
 have:=dvalZ_itoa m
 rw [h,dvalZ_itoa] at this
 exact this.symm
end Go.Ad
namespace Go.Ad
open Go.Lib (decDigits decFrom decNat digitVal nDigits itoa)
theorem digitVal_some {b:UInt8} {d:Nat} (h:digitVal b=some d):d=b.toNat - 48∧d < 10∧48≤b.toNat:=by
 unfold digitVal at h
 split at h
 ·cases h; omega
 ·cases h
theorem cmp_gen:∀ (s t:List UInt8) (p q v w:Nat),s.length=t.length→decFrom p s=some v→decFrom q t=some w→(p < q→v < w)∧(q < p→w < v)∧(p=q→Lib.compareBytes s t=sgnZ ((v:Int) - w))
 | [],[],p,q,v,w,_,h1,h2=>by
  simp only [decFrom,Option.some.injEq] at h1 h2
  subst h1 h2
  refine ⟨fun h=>h,fun h=>h,fun h=>?_⟩
  subst h
  simp [Lib.compareBytes,sgnZ]
 | [],_ :: _,_,_,_,_,h,_,_=>by simp at h
 | _ :: _,[],_,_,_,_,h,_,_=>by simp at h
 | a :: s,b :: t,p,q,v,w,hl,h1,h2=>by
  simp only [decFrom] at h1 h2
  cases ha:digitVal a with
  | none=>rw [ha] at h1; cases h1
  | some d =>
   cases hb:digitVal b with
   | none=>rw [hb] at h2; cases h2
   | some e =>
    rw [ha] at h1
    rw [hb] at h2
    obtain ⟨i1,i2,i3⟩:=cmp_gen s t _ _ v w (by simpa using hl) h1 h2
    obtain ⟨d1,d2,d3⟩:=digitVal_some ha
    obtain ⟨e1,e2,e3⟩:=digitVal_some hb
    refine ⟨fun h=>i1 (by omega),fun h=>i2 (by omega),fun h=>?_⟩
    subst h
    show (if a < b then -1 else if b < a then 1 else Lib.compareBytes s t)=_
    by_cases hab:a < b
    ·rw [if_pos hab]
     have:=UInt8.lt_iff_toNat_lt.1 hab
     have:=i1 (by omega)
     unfold sgnZ
     rw [if_neg (by omega),if_pos (by omega)]
    ·rw [if_neg hab]
     have h3:¬ a.toNat < b.toNat:=fun h=>hab (UInt8.lt_iff_toNat_lt.2 h)
     by_cases hba:b < a
     ·rw [if_pos hba]
      have:=UInt8.lt_iff_toNat_lt.1 hba
      have:=i2 (by omega)
      unfold sgnZ
      rw [if_neg (by omega),if_neg (by omega)]
     ·rw [if_neg hba]
      have h4:¬ b.toNat < a.toNat:=fun h=>hba (UInt8.lt_iff_toNat_lt.2 h)
      exact i3 (by omega)
theorem dec_len_mono {V U:Nat} (h:V≤U):(decDigits V).length≤(decDigits U).length:=by
 have h1:=Lib.lt_pow_nDigits U
 have h2:1≤(decDigits U).length:=by
  cases hh:decDigits U with
  | nil=>exact (dec_ne _ hh).elim
  | cons=>simp
 rw [Lib.decDigits_length] at *
 rw [Lib.decDigits_length]
 obtain ⟨m,hm⟩:∃ m,nDigits U=m+1:=⟨nDigits U - 1,by omega⟩
 rw [hm] at h1 ⊢
 exact nDigits_le m V (Nat.lt_of_le_of_lt h h1)
theorem order_dec (V U:Nat):(if (decDigits V).length ≠ (decDigits U).length then (if (decDigits V).length < (decDigits U).length then -1 else 1) else Lib.compareBytes (decDigits V) (decDigits U))=sgnZ ((V:Int) - U):=by
 by_cases h:(decDigits V).length=(decDigits U).length
 ·rw [if_neg (by omega)]
  exact (cmp_gen _ _ 0 0 V U h (decFrom_dec V) (decFrom_dec U)).2.2 rfl
 ·rw [if_pos h]
  by_cases hlt:(decDigits V).length < (decDigits U).length
  ·rw [if_pos hlt]
   have:V < U:=by
    rcases Nat.lt_or_ge V U with h1 | h1
    ·exact h1
    ·have:=dec_len_mono h1; omega
   unfold sgnZ
   rw [if_neg (by omega),if_pos (by omega)]
  ·rw [if_neg hlt]
   have:U < V:=by
    rcases Nat.lt_or_ge U V with h1 | h1
    ·exact h1
    ·have:=dec_len_mono h1; omega
   unfold sgnZ
   rw [if_neg (by omega),if_neg (by omega)]
theorem absT_itoa (n:Int):absT (itoa n)=decDigits n.natAbs:=by
 have h:=itoa_abs n
 by_cases h0:n < 0
 ·rw [if_pos h0] at h
  rw [← h]
  unfold itoa
  rw [if_pos h0]
  rfl
 ·rw [if_neg h0] at h
  rw [h]
  cases hh:decDigits n.natAbs with
  | nil=>exact (dec_ne _ hh).elim
  | cons b r =>
   have:=dec_head hh
   unfold absT
   split
   ·rename_i e; cases e; exact (this rfl).elim
   ·rfl
theorem errI_le {A B:Int} (h:errI (itoa A)=0) (hB:B.natAbs≤A.natAbs):errI (itoa B)=0:=by
 rw [errI_itoa] at h ⊢
 have:=dec_len_mono hB
 split at h
 ·cases h
 ·rw [if_neg (by omega)]
theorem sgn_cmp (A B:Int) (h1:¬ sgnZ A < sgnZ B) (h2:¬ sgnZ A > sgnZ B):sgnZ A*sgnZ ((A.natAbs:Int) - B.natAbs)=sgnZ (A - B):=by
 unfold sgnZ at *
 by_cases a0:A=0
 ·subst a0
  simp at h1 h2 ⊢
  by_cases b0:B=0
  ·subst b0; simp
  ·rw [if_neg b0] at h1 h2
   split at h1 <;> simp_all
 ·by_cases a1:A < 0
  ·simp only [if_neg a0,if_pos a1] at *
   by_cases b0:B=0
   ·subst b0; simp at h1
   ·by_cases b1:B < 0
    ·rcases Int.lt_trichotomy A B with h | h | h
     ·rw [if_neg (by omega),if_neg (by omega),if_neg (by omega),if_pos (by omega)]; rfl
     ·subst h; simp
     ·rw [if_neg (by omega),if_pos (by omega),if_neg (by omega),if_neg (by omega)]; rfl
    ·simp [b0,b1] at h1
  ·simp only [if_neg a0,if_neg a1] at *
   by_cases b0:B=0
   ·subst b0; simp at h2
   ·by_cases b1:B < 0
    ·simp [b0,b1] at h2
    ·rcases Int.lt_trichotomy A B with h | h | h
     ·rw [if_neg (by omega),if_pos (by omega),if_neg (by omega),if_pos (by omega)]; rfl
     ·subst h; simp
     ·rw [if_neg (by omega),if_neg (by omega),if_neg (by omega),if_neg (by omega)]; rfl
theorem sgn_lt {A B:Int} (h:sgnZ A < sgnZ B):sgnZ (A - B)=-1:=by
 unfold sgnZ at *
 by_cases a0:A=0 <;> by_cases b0:B=0 <;> by_cases a1:A < 0 <;> by_cases b1:B < 0 <;> simp only [a0,b0,a1,b1,if_true,if_false] at h <;> first | omega | (rw [if_neg (by omega),if_pos (by omega)])
theorem sgn_gt {A B:Int} (h:sgnZ A > sgnZ B):sgnZ (A - B)=1:=by
 unfold sgnZ at *
 by_cases a0:A=0 <;> by_cases b0:B=0 <;> by_cases a1:A < 0 <;> by_cases b1:B < 0 <;> simp only [a0,b0,a1,b1,if_true,if_false] at h <;> first | omega | (rw [if_neg (by omega),if_neg (by omega)])
theorem sgn_rg (A:Int):-1≤sgnZ A∧sgnZ A≤1:=by
 unfold sgnZ
 by_cases h:A=0
 ·rw [if_pos h]; omega
 ·rw [if_neg h]
  by_cases h1:A < 0
  ·rw [if_pos h1]; omega
  ·rw [if_neg h1]; omega
end Go.Ad
