/- Plain laws of quotients: a text is cut at a byte; the error of a quotient's text. -/
import Derived.Test.YtfjgehlpjppggaaGreatDoorAdNum
import Derived.Lib.IndexLaws
namespace Go.Ad
open Go.Lib (decDigits decFrom decNat digitVal nDigits itoa)
def cutAt (c:UInt8):List UInt8→Option (List UInt8 × List UInt8)
 | []=>none
 | b :: l=>if b == c then some ([],l) else (cutAt c l).map fun p=>(b :: p.1,p.2)
theorem cutAt_some {c:UInt8}:∀ {a x y:List UInt8},cutAt c a=some (x,y)→a=x++c :: y∧c ∉ x
 | [],_,_,h=>by cases h
 | b :: l,x,y,h=>by
  unfold cutAt at h
  cases hb:b == c with
  | true =>
   rw [hb,if_pos rfl] at h
   cases h
   have:b=c:=by simpa using hb
   subst this
   exact ⟨rfl,by simp⟩
  | false =>
   rw [hb,if_neg (by simp)] at h
   cases hl:cutAt c l with
   | none=>rw [hl] at h; cases h
   | some p =>
    rw [hl] at h
    obtain ⟨u,v⟩:=p
    cases h
    obtain ⟨h1,h2⟩:=cutAt_some hl
    have hbc:b ≠ c:=by simpa using hb
    exact ⟨by rw [h1]; rfl,fun hm=>by cases hm with | head=>exact hbc rfl | tail _ hm=>exact h2 hm⟩
theorem cutAt_mk {c:UInt8}:∀ {x y:List UInt8},c ∉ x→cutAt c (x++c :: y)=some (x,y)
 | [],y,_=>by simp [cutAt]
 | b :: x,y,h=>by
  have hb:(b == c)=false:=by rw [beq_eq_false_iff_ne]; exact fun e=>h (by subst e; exact .head _)
  show (if b == c then _ else (cutAt c (x++c :: y)).map fun p=>(b :: p.1,p.2))=_
  rw [hb,if_neg (by simp),cutAt_mk fun hm=>h (.tail _ hm)]
  rfl
theorem cutAt_none {c:UInt8}:∀ {a:List UInt8},c ∉ a→cutAt c a=none
 | [],_=>rfl
 | b :: l,h=>by
  have hb:(b == c)=false:=by rw [beq_eq_false_iff_ne]; exact fun e=>h (by subst e; exact .head _)
  show (if b == c then _ else _)=_
  rw [hb,if_neg (by simp),cutAt_none fun hm=>h (.tail _ hm)]
  rfl
theorem cutAt_none_iff {c:UInt8} {a:List UInt8}:cutAt c a=none ↔ c ∉ a:=by
 constructor
 ·intro h hm
  have key:∀ l:List UInt8,c ∈ l→∃ x y,l=x++c :: y∧c ∉ x:=fun l=>by
   induction l with
   | nil=>intro hm; cases hm
   | cons b l ih =>
    intro hm
    by_cases hb:b=c
    ·subst hb; exact ⟨[],l,rfl,by simp⟩
    ·cases hm with
     | head=>exact (hb rfl).elim
     | tail _ hm =>
      obtain ⟨x,y,e,hx⟩:=ih hm
      exact ⟨b :: x,y,by rw [e]; rfl,fun hh=>by cases hh with | head=>exact hb rfl | tail _ hh=>exact hx hh⟩
  obtain ⟨x,y,e,hx⟩:=key a hm
  rw [e,cutAt_mk hx] at h
  cases h
 ·exact cutAt_none
theorem cutAt_index (c:UInt8):∀ a:List UInt8,(Lib.indexByte a c=-1∧cutAt c a=none) ∨ (∃ i:Nat,i < a.length∧Lib.indexByte a c=i∧cutAt c a=some (a.take i,a.drop (i+1)))
 | []=>.inl ⟨rfl,rfl⟩
 | b :: l=>by
  unfold cutAt Lib.indexByte
  cases hb:b == c with
  | true=>exact .inr ⟨0,by simp,rfl,rfl⟩
  | false =>
   rw [if_neg (by simp)]
   rcases cutAt_index c l with ⟨h1,h2⟩ | ⟨i,h0,h1,h2⟩
   ·left
    rw [h1,h2]
    exact ⟨rfl,rfl⟩
   ·right
    refine ⟨i+1,by simp; omega,?_,by rw [h2]; rfl⟩
    rw [h1,if_neg (by rw [beq_iff_eq]; omega)]
    omega
def cutR (a:List UInt8):List UInt8 × List UInt8 × Bool:=match cutAt 47 a with
 | some (n,d)=>(n,d,true)
 | none=>(a,[49],false)
theorem cutR_len (a:List UInt8):(cutR a).1.length≤a.length∧(cutR a).2.1.length≤a.length+1:=by
 unfold cutR
 cases h:cutAt 47 a with
 | none=>exact ⟨Nat.le_refl _,by simp⟩
 | some p =>
  obtain ⟨x,y⟩:=p
  obtain ⟨h1,h2⟩:=cutAt_some h
  rw [h1,List.length_append,List.length_cons]
  simp only
  omega
theorem errI_val (s:List UInt8):errI s=0 ∨ errI s=3 ∨ errI s=11:=by
 unfold errI
 split
 ·exact .inr (.inl rfl)
 ·split
  ·exact .inr (.inl rfl)
  ·split
   ·exact .inr (.inr rfl)
   ·exact .inl rfl
def errQ (a:List UInt8):Int :=
 if errI (cutR a).1=3 ∨ errI (cutR a).2.1=3 then 3 else if errI (cutR a).1 ≠ 0 ∨ errI (cutR a).2.1 ≠ 0 then 11 else
  if (cutR a).2.2=true∧¬ (1 < dvalZ (cutR a).2.1∧Int.gcd (dvalZ (cutR a).1) (dvalZ (cutR a).2.1)=1) then 3 else 0
end Go.Ad
namespace Go.Ad
open Go.Lib (decDigits decFrom decNat digitVal nDigits itoa)
end Go.Ad
namespace Go.Ad
open Go.Lib (decDigits decFrom decNat digitVal nDigits itoa)
def hW (g:Nat→Nat):Nat→Nat
 | 0=>0
 | n+1=>hW g n*10+g n
end Go.Ad
namespace Go.Ad
open Go.Lib (decDigits decFrom decNat digitVal nDigits itoa)
theorem itoaN (n:Nat):itoa (n:Int)=decDigits n:=by
 unfold itoa
 rw [if_neg (by omega),Int.toNat_natCast]
theorem itoaN_lt (n:Nat):n < 10 ^ (itoa (n:Int)).length:=by
 rw [itoaN,Lib.decDigits_length]
 exact Lib.lt_pow_nDigits n
end Go.Ad
namespace Go.Ad
open Go.Lib (decDigits decFrom decNat digitVal nDigits itoa)
theorem pow10_lt {a:Nat} (b:Nat) (h:a < b):10 ^ a < 10 ^ b:=Nat.pow_lt_pow_right (by decide) h
theorem lt_pow10 {n a:Nat} (b:Nat) (h:n < 10 ^ a) (hb:a≤b):n < 10 ^ b:=Nat.lt_of_lt_of_le h (Nat.pow_le_pow_right (by decide) hb)
theorem pow10_succ (m k:Nat) (h:m=k+1):10 ^ m=10*10 ^ k:=by subst h; exact Nat.pow_succ'
def stripF (p:Nat):Nat→Nat→Nat
 | 0,n=>n
 | k+1,n=>if n % p=0 then stripF p k (n / p) else n
def strip (p n:Nat):Nat:=stripF p n n
theorem div_less {p n:Nat} (hp:2≤p) (hn:0 < n):n / p < n:=Nat.div_lt_self hn (by omega)
theorem div_pos_of {p n:Nat} (_:2≤p) (hn:0 < n) (h:n % p=0):0 < n / p:=by
 have h1:=Nat.div_add_mod n p
 rw [h,Nat.add_zero] at h1
 cases h0:n / p with
 | zero=>rw [h0,Nat.mul_zero] at h1; omega
 | succ k=>omega
theorem stripF_more {p:Nat} (hp:2≤p):∀ k j n:Nat,0 < n→n≤k→n≤j→stripF p k n=stripF p j n
 | 0,_,n,h0,h1,_=>by omega
 | _+1,0,n,h0,_,h2=>by omega
 | k+1,j+1,n,h0,h1,h2=>by
  unfold stripF
  by_cases h:n % p=0
  ·rw [if_pos h,if_pos h]
   have h3:=div_less hp h0
   exact stripF_more hp k j (n / p) (div_pos_of hp h0 h) (by omega) (by omega)
  ·rw [if_neg h,if_neg h]
theorem strip_step {p n:Nat} (hp:2≤p) (hn:0 < n) (h:n % p=0):strip p (n / p)=strip p n:=by
 unfold strip
 cases n with
 | zero=>omega
 | succ k =>
  conv=>rhs; unfold stripF
  rw [if_pos h]
  have h3:=div_less hp hn
  exact stripF_more hp _ _ _ (div_pos_of hp hn h) (Nat.le_refl _) (by omega)
theorem strip_end {p n:Nat} (h:n % p ≠ 0):strip p n=n:=by
 unfold strip
 cases n with
 | zero=>rfl
 | succ k=>unfold stripF; rw [if_neg h]
theorem strip_fac {p:Nat} (hp:2≤p):∀ n:Nat,0 < n→0 < strip p n∧strip p n≤n∧∃ k,n=strip p n*p ^ k:=fun n=>by
 induction n using Nat.strongRecOn with
 | _ n ih =>
  intro hn
  by_cases h:n % p=0
  ·have h3:=div_less hp hn
   obtain ⟨h4,h5,k,h6⟩:=ih (n / p) h3 (div_pos_of hp hn h)
   rw [strip_step hp hn h] at h4 h5 h6
   refine ⟨h4,by omega,k+1,?_⟩
   have h1:=Nat.div_add_mod n p
   rw [h,Nat.add_zero] at h1
   rw [Nat.pow_succ,← Nat.mul_assoc,← h6,Nat.mul_comm]
   exact h1.symm
  ·rw [strip_end h]
   exact ⟨hn,Nat.le_refl _,0,by simp⟩
theorem fin_dvd {d:Nat} (hd:0 < d) (h:strip 5 (strip 2 d)=1):d ∣ 10 ^ (4*(itoa (d:Int)).length):=by
 obtain ⟨h1,h2,a,ha⟩:=strip_fac (p:=2) (by omega) d hd
 obtain ⟨h3,h4,b,hb⟩:=strip_fac (p:=5) (by omega) (strip 2 d) h1
 rw [h,Nat.one_mul] at hb
 have hd2:d=5 ^ b*2 ^ a:=by rw [← hb]; exact ha
 have h5:2 ^ (a+b)≤d:=by
  rw [hd2,Nat.pow_add,Nat.mul_comm]
  exact Nat.mul_le_mul_right _ (Nat.pow_le_pow_left (by decide) _)
 have h6:=itoaN_lt d
 generalize (itoa (d:Int)).length=L at *
 have h7:2 ^ (a+b) < 2 ^ (4*L):=by
  refine Nat.lt_of_le_of_lt h5 (Nat.lt_of_lt_of_le h6 ?_)
  rw [Nat.pow_mul]
  exact Nat.pow_le_pow_left (by decide) _
 have h8:a+b < 4*L:=(Nat.pow_lt_pow_iff_right (by decide)).1 h7
 refine Nat.dvd_trans ?_ (Nat.pow_dvd_pow 10 (Nat.le_of_lt h8))
 rw [hd2,show (10:Nat)=5*2 from rfl,Nat.mul_pow]
 exact Nat.mul_dvd_mul (Nat.pow_dvd_pow _ (by omega)) (Nat.pow_dvd_pow _ (by omega))
def digs (d:Nat):Nat→Nat→List UInt8
 | 0,_=>[]
 | k+1,r=>if r=0 then [] else itoa ((r*10 / d:Nat):Int)++digs d k (r*10 % d)
theorem digs_zero (d:Nat):∀ k:Nat,digs d k 0=[]
 | 0=>rfl
 | k+1=>by unfold digs; rw [if_pos rfl]
theorem digs_next {d k r:Nat} (h:r ≠ 0):digs d (k+1) r=itoa ((r*10 / d:Nat):Int)++digs d k (r*10 % d):=by
 conv=>lhs; unfold digs
 rw [if_neg h]
theorem dvd_next {d k r:Nat} (h:d ∣ r*10 ^ (k+1)):d ∣ (r*10 % d)*10 ^ k:=by
 rw [Nat.pow_succ,Nat.mul_comm (10 ^ k) 10,← Nat.mul_assoc] at h
 have h1:=Nat.div_add_mod (r*10) d
 rw [← h1,Nat.add_mul,Nat.mul_assoc] at h
 exact (Nat.dvd_add_right (Nat.dvd_mul_right _ _)).1 h
theorem dvd_small {d r:Nat} (h:d ∣ r*10 ^ 0) (hr:r < d):r=0:=by
 rw [Nat.pow_zero,Nat.mul_one] at h
 exact Nat.eq_zero_of_dvd_of_lt h hr
theorem digit_small {d r:Nat} (hd:0 < d) (hr:r < d):r*10 / d < 10:=by
 rw [Nat.div_lt_iff_lt_mul hd]
 omega
theorem itoa_dig {c:Nat} (h:c < 10):itoa (c:Int)=[UInt8.ofNat (48+c)]:=by
 rw [itoaN,dec_small h]
 unfold dig
 rw [Nat.mod_eq_of_lt h]
theorem digs_len {d:Nat} (hd:0 < d):∀ k r:Nat,r < d→(digs d k r).length≤k
 | 0,_,_=>Nat.le_refl _
 | k+1,r,hr=>by
  by_cases h:r=0
  ·rw [h,digs_zero]; simp
  ·rw [digs_next h,itoa_dig (digit_small hd hr),List.length_append]
   have:=digs_len hd k (r*10 % d) (Nat.mod_lt _ hd)
   simp only [List.length_cons,List.length_nil]; omega
def fracT (d r:Nat):List UInt8:=if r=0 then [] else 46 :: digs d (4*(itoa (d:Int)).length) r
def decT (N:Int) (d:Nat):List UInt8:=(if N < 0 then [45] else [])++(itoa ((N.natAbs / d:Nat):Int)++fracT d (N.natAbs % d))
def decR (x:List UInt8):List UInt8 × Int :=
 if errQ x ≠ 0 then ([],errQ x) else if strip 5 (strip 2 (dvalZ (cutR x).2.1).toNat) ≠ 1 then ([],14) else (decT (dvalZ (cutR x).1) (dvalZ (cutR x).2.1).toNat,0)
end Go.Ad
