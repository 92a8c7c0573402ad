/- Plain laws of quotients: a text is cut at a byte; the error of a quotient's text. -/
import Derived.Test.YtkfabaoichndpaaGreatDoorAdNum
import Derived.Lib.IndexLaws
namespace Go.Ad
open Go.Lib (decDigits decFrom decNat digitVal nDigits itoa)
def cutAt (c:UInt8):List UInt8->Option (List UInt8 × List UInt8)
 | []=>none
 | b :: l=>if b == c then some ([],l) else (cutAt c l).map fun p=>(b :: p.1,p.2)
theorem A7i {c:UInt8}:∀ {a x y:List UInt8},cutAt c a=some (x,y)->a=x++c :: y/\c ∉ x
 | [],_,_,h=>by cases h
 | b :: l,x,y,h=>by
  unfold cutAt at h
  cases hb:b == c with
  | true =>
   rw [hb,if_pos rfl] at h
   cases h
   have:b=c:=by simpa using hb
   subst this
   exact ⟨rfl,by simp⟩
  | false =>
   rw [hb,if_neg (by simp)] at h
   cases hl:cutAt c l with
   | none=>rw [hl] at h; cases h
   | some p =>
    rw [hl] at h
    obtain ⟨u,v⟩:=p
    cases h
    obtain ⟨h1,h2⟩:=A7i hl
    have hbc:b ≠ c:=by simpa using hb
    exact ⟨by rw [h1]; rfl,fun hm=>by cases hm with | head=>exact hbc rfl | tail _ hm=>exact h2 hm⟩
theorem A5s {c:UInt8}:∀ {x y:List UInt8},c ∉ x->cutAt c (x++c :: y)=some (x,y)
 | [],y,_=>by simp [cutAt]
 | b :: x,y,h=>by
  have hb:(b == c)=false:=by rw [beq_eq_false_iff_ne]; exact fun e=>h (by subst e; exact .head _)
  show (if b == c then _ else (cutAt c (x++c :: y)).map fun p=>(b :: p.1,p.2))=_
  rw [hb,if_neg (by simp),A5s fun hm=>h (.tail _ hm)]
  rfl
theorem X8 {c:UInt8}:∀ {a:List UInt8},c ∉ a->cutAt c a=none
 | [],_=>rfl
 | b :: l,h=>by
  have hb:(b == c)=false:=by rw [beq_eq_false_iff_ne]; exact fun e=>h (by subst e; exact .head _)
  show (if b == c then _ else _)=_
  rw [hb,if_neg (by simp),X8 fun hm=>h (.tail _ hm)]
  rfl
theorem F1x {c:UInt8} {a:List UInt8}:cutAt c a=none ↔ c ∉ a:=by
 constructor
 ·intro h hm
  have key:∀ l:List UInt8,c ∈ l->∃ x y,l=x++c :: y/\c ∉ x:=fun l=>by
   induction l with
   | nil=>intro hm; cases hm
   | cons b l ih =>
    intro hm
    by_cases hb:b=c
    ·subst hb; exact ⟨[],l,rfl,by simp⟩
    ·cases hm with
     | head=>exact (hb rfl).elim
     | tail _ hm =>
      obtain ⟨x,y,e,hx⟩:=ih hm
      exact ⟨b :: x,y,by rw [e]; rfl,fun hh=>by cases hh with | head=>exact hb rfl | tail _ hh=>exact hx hh⟩
  obtain ⟨x,y,e,hx⟩:=key a hm
  rw [e,A5s hx] at h
  cases h
 ·exact X8
theorem V4 (c:UInt8):∀ a:List UInt8,(Lib.indexByte a c=-1/\cutAt c a=none) \/ (∃ i:Nat,i < a.length/\Lib.indexByte a c=i/\cutAt c a=some (a.take i,a.drop (i+1)))
 | []=>.inl ⟨rfl,rfl⟩
 | b :: l=>by
  unfold cutAt Lib.indexByte
  cases hb:b == c with
  | true=>exact .inr ⟨0,by simp,rfl,rfl⟩
  | false =>
   rw [if_neg (by simp)]
   rcases V4 c l with ⟨h1,h2⟩ | ⟨i,h0,h1,h2⟩
   ·left
    rw [h1,h2]
    exact ⟨rfl,rfl⟩
   ·right
    refine ⟨i+1,by simp; omega,?_,by rw [h2]; rfl⟩
    rw [h1,if_neg (by rw [beq_iff_eq]; omega)]
    omega
def F9 (a:List UInt8):List UInt8 × List UInt8 × Bool:=match cutAt 47 a with
 | some (n,d)=>(n,d,true)
 | none=>(a,[49],false)
theorem C0r (a:List UInt8):(F9 a).1.length<=a.length/\(F9 a).2.1.length<=a.length+1:=by
 unfold F9
 cases h:cutAt 47 a with
 | none=>exact ⟨Nat.le_refl _,by simp⟩
 | some p =>
  obtain ⟨x,y⟩:=p
  obtain ⟨h1,h2⟩:=A7i h
  rw [h1,List.length_append,List.length_cons]
  simp only
  omega
theorem C9i (s:List UInt8):D5 s=0 \/ D5 s=3 \/ D5 s=11:=by
 unfold D5
 split
 ·exact .inr (.inl rfl)
 ·split
  ·exact .inr (.inl rfl)
  ·split
   ·exact .inr (.inr rfl)
   ·exact .inl rfl
def A0e (a:List UInt8):Int :=
 if D5 (F9 a).1=3 \/ D5 (F9 a).2.1=3 then 3 else if D5 (F9 a).1 ≠ 0 \/ D5 (F9 a).2.1 ≠ 0 then 11 else
  if (F9 a).2.2=true/\¬ (1 < A7 (F9 a).2.1/\Int.gcd (A7 (F9 a).1) (A7 (F9 a).2.1)=1) then 3 else 0
end Go.Ad
namespace Go.Ad
open Go.Lib (decDigits decFrom decNat digitVal nDigits itoa)
def D8 (acc:Nat) (s:List UInt8):Nat:=s.foldl (fun n b=>n*10+(b.toNat - 48)) acc
theorem R8 (acc:Nat) (s t:List UInt8):D8 acc (s++t)=D8 (D8 acc s) t:=by unfold D8; rw [List.foldl_append]
theorem A8e:∀ (s:List UInt8) (acc:Nat),D8 acc s=acc*10 ^ s.length+D8 0 s
 | [],acc=>by simp [D8]
 | b :: r,acc=>by
  show D8 (acc*10+(b.toNat - 48)) r=_+D8 (0*10+(b.toNat - 48)) r
  rw [A8e r (acc*10+(b.toNat - 48)),A8e r (0*10+(b.toNat - 48)),List.length_cons,Nat.pow_succ,Nat.add_mul,Nat.add_mul]
  rw [Nat.mul_assoc acc 10,Nat.mul_comm 10]
  omega
theorem E4l (U:Nat):D8 0 (decDigits U)=U:=by
 induction U using Nat.strongRecOn with
 | ind U ih =>
  have hd:∀ v:Nat,(dig v).toNat - 48=v % 10:=fun v=>by
   unfold dig
   rw [UInt8.toNat_ofNat_of_lt' (show 48+v % 10 < 256 by omega)]; omega
  by_cases h:U < 10
  ·rw [M3 h]
   show 0*10+((dig U).toNat - 48)=U
   rw [hd]; omega
  ·rw [A0j h,R8,ih (U / 10) (by omega)]
   show U / 10*10+((dig U).toNat - 48)=U
   rw [hd]; omega
theorem A6l (v:Nat):(dig v).toNat=48+v % 10:=by
 unfold dig
 exact UInt8.toNat_ofNat_of_lt' (show 48+v % 10 < 256 by omega)
theorem A2i:∀ (k v:Nat),D8 0 (pad k v)=v % 10 ^ k
 | 0,v=>by simp [pad,D8,Nat.mod_one]
 | k+1,v=>by
  simp only [pad]
  rw [R8,A2i k]
  show v / 10 % 10 ^ k*10+((dig v).toNat - 48)=_
  rw [A6l,Nat.pow_succ,Nat.mul_comm (10 ^ k) 10,Nat.mod_mul]
  omega
theorem C5l (k v:Nat):(pad k v).all F5=true:=by
 rw [List.all_eq_true]
 intro b hb
 have:=B4m k v b hb
 simp [F5,this]
theorem F7a (U:Nat):(decDigits U).all F5=true:=by
 rw [List.all_eq_true]
 intro b hb
 have:=A0u U b hb
 simp [F5,this]
theorem C8c:∀ (k:Nat) (s:List UInt8),s.length=k->s.all F5=true->s=pad k (D8 0 s)
 | 0,s,hl,_=>by rw [List.eq_nil_of_length_eq_zero hl]; rfl
 | k+1,s,hl,hd=>by
  have hn:s ≠ []:=fun e=>by rw [e] at hl; simp at hl
  obtain ⟨t,b,rfl⟩:∃ t b,s=t++[b]:=⟨s.dropLast,s.getLast hn,(List.dropLast_concat_getLast hn).symm⟩
  rw [List.all_append,Bool.and_eq_true] at hd
  have hb:48<=b.toNat/\b.toNat<=57:=by simpa [F5] using hd.2
  have ih:=C8c k t (by simpa using hl) hd.1
  rw [R8]
  show _=pad (k+1) (D8 0 t*10+(b.toNat - 48))
  simp only [pad]
  rw [show (D8 0 t*10+(b.toNat - 48)) / 10=D8 0 t by omega,<- ih]
  congr 2
  apply UInt8.toNat_inj.1
  rw [A6l]; omega
theorem B7h:∀ (k v i:Nat),i < k->((pad k v).getD i 0).toNat=48+v / 10 ^ (k - 1 - i) % 10
 | 0,_,_,h=>by omega
 | k+1,v,i,h=>by
  simp only [pad]
  rw [List.getD_eq_getElem?_getD]
  by_cases hi:i < k
  ·rw [List.getElem?_append_left (by rw [L9]; exact hi),<- List.getD_eq_getElem?_getD,B7h k (v / 10) i hi,Nat.div_div_eq_div_mul]
   have:k+1 - 1 - i=(k - 1 - i)+1:=by omega
   rw [this,Nat.pow_succ,Nat.mul_comm 10]
  ·have:i=k:=by omega
   subst this
   rw [List.getElem?_append_right (by rw [L9]; exact Nat.le_refl _),L9,Nat.sub_self]
   show (dig v).toNat=_
   rw [A6l,show i+1 - 1 - i=0 by omega,Nat.pow_zero,Nat.div_one]
theorem F4k:∀ (k v:Nat),(List.range k).map (fun x=>UInt8.ofNat (48+v / 10 ^ (k - 1 - x) % 10))=pad k v:=fun k v=>by
 apply List.ext_getElem
 ·simp [L9]
 ·intro i h1 h2
  have hi:i < k:=by simpa using h1
  rw [List.getElem_map,List.getElem_range]
  have:=B7h k v i hi
  rw [List.getD_eq_getElem?_getD,List.getElem?_eq_getElem h2] at this
  apply UInt8.toNat_inj.1
  rw [UInt8.toNat_ofNat_of_lt' (show 48+v / 10 ^ (k - 1 - i) % 10 < 256 by omega)]
  exact this.symm
def B4s (n C j:Nat):Nat->Int:=fun x=>if n - j<=x/\x < n then ((48+C / 10 ^ (n - 1 - x) % 10:Nat):Int) else 0
theorem C4c (n C:Nat):B4s n C 0=fun _=>0:=by
 funext x
 unfold B4s
 rw [if_neg (by omega)]
theorem C4t {n C j:Nat} (h:j < n):Y4 (B4s n C j) (n - 1 - j) ((48+C / 10 ^ j % 10:Nat):Int)=B4s n C (j+1):=by
 funext x
 unfold Y4 B4s
 by_cases hx:x=n - 1 - j
 ·subst hx
  rw [if_pos rfl,if_pos (by omega),show n - 1 - (n - 1 - j)=j by omega]
 ·rw [if_neg hx]
  by_cases h2:n - j<=x/\x < n
  ·rw [if_pos h2,if_pos (by omega)]
  ·rw [if_neg h2,if_neg (by omega)]
theorem C4i (n C:Nat):(List.range n).map (fun x=>UInt8.ofNat (B4s n C n x).toNat)=pad n C:=by
 rw [<- F4k]
 apply List.map_congr_left
 intro x hx
 have:x < n:=List.mem_range.1 hx
 unfold B4s
 rw [if_pos (by omega),Int.toNat_natCast]
def cF (add:Bool) (A B j:Nat):Nat:=bif add then (A % 10 ^ j+B % 10 ^ j) / 10 ^ j else if A % 10 ^ j < B % 10 ^ j then 1 else 0
def A7e (add:Bool) (A B:Nat):Nat:=bif add then A+B else A - B
def B8d (c d e:Int) (add:Bool):Int × Int :=
 bif add then (if c - 48+(d - 48)+e > 9 then (48+(c - 48+(d - 48)+e) - 10,1) else (48+(c - 48+(d - 48)+e),0))
 else (if c - 48 - (d - 48) - e < 0 then (48+(c - 48 - (d - 48) - e)+10,1) else (48+(c - 48 - (d - 48) - e),0))
theorem F5t (add:Bool) (A B:Nat):cF add A B 0=0:=by
 unfold cF
 cases add
 ·simp [Nat.mod_one]
 ·simp [Nat.mod_one]
theorem F7x (add:Bool) (A B j:Nat):cF add A B j<=1:=by
 unfold cF
 have hp:0 < 10 ^ j:=Nat.pow_pos (by decide)
 have ha:=Nat.mod_lt A hp
 have hb:=Nat.mod_lt B hp
 cases add
 ·simp only [cond_false]; split <;> omega
 ·simp only [cond_true]
  have:=(Nat.div_lt_iff_lt_mul hp (x:=A % 10 ^ j+B % 10 ^ j) (y:=2)).2 (by omega)
  omega
theorem E9w {add:Bool} {A B:Nat} (h:add=false->B<=A) (j:Nat) :
  B8d ((48+A / 10 ^ j % 10:Nat):Int) ((48+B / 10 ^ j % 10:Nat):Int) (cF add A B j:Nat) add=(((48+A7e add A B / 10 ^ j % 10:Nat):Int),((cF add A B (j+1):Nat):Int)):=by
 have hc:=F7x add A B j
 unfold cF at hc ⊢
 have hp:0 < 10 ^ j:=Nat.pow_pos (by decide)
 rw [Nat.pow_succ,Nat.mod_mul,Nat.mod_mul]
 have ea:=Nat.div_add_mod A (10 ^ j)
 have eb:=Nat.div_add_mod B (10 ^ j)
 have ha:=Nat.mod_lt A hp
 have hb:=Nat.mod_lt B hp
 unfold A7e B8d
 generalize 10 ^ j=p at *
 generalize A % p=a0 at *
 generalize B % p=b0 at *
 generalize hX:A / p=X at *
 generalize hY:B / p=Y at *
 cases add with
 | true =>
  simp only [cond_true] at hc ⊢
  have e1:(A+B) / p=X+Y+(a0+b0) / p:=by
   have:A+B=(a0+b0)+p*(X+Y):=by rw [Nat.mul_add]; omega
   rw [this,Nat.add_mul_div_left _ _ hp,Nat.add_comm]
  have e2:(a0+p*(X % 10)+(b0+p*(Y % 10))) / (p*10)=((a0+b0) / p+X % 10+Y % 10) / 10:=by
   rw [<- Nat.div_div_eq_div_mul]
   have:a0+p*(X % 10)+(b0+p*(Y % 10))=(a0+b0)+p*(X % 10+Y % 10):=by rw [Nat.mul_add]; omega
   rw [this,Nat.add_mul_div_left _ _ hp,Nat.add_assoc]
  rw [e1,e2]
  generalize (a0+b0) / p=c at *
  split
  ·rw [pI]; omega
  ·rw [pI]; omega
 | false =>
  simp only [cond_false] at hc ⊢
  have hBA:=h rfl
  have hXY:p*Y+b0<=p*X+a0:=by omega
  have hle:Y<=X:=by rw [<- hX,<- hY]; exact Nat.div_le_div_right hBA
  have key:∀ u v:Nat,u+1<=v->p*u+p<=p*v:=fun u v huv=>by
   have:=Nat.mul_le_mul_left p huv
   rw [Nat.mul_add,Nat.mul_one] at this
   exact this
  by_cases hab:a0 < b0
  ·rw [if_pos hab]
   have hlt:Y+1<=X:=by
    rcases Nat.lt_or_ge Y X with h1 | h1
    ·exact h1
    ·have:X=Y:=by omega
     subst this; omega
   have e1:(A - B) / p=X - Y - 1:=by
    have h2:p*(X - Y - 1)=p*X - p*Y - p:=by rw [Nat.mul_sub,Nat.mul_sub,Nat.mul_one]
    have h3:=key _ _ hlt
    have:A - B=(a0+p - b0)+p*(X - Y - 1):=by rw [h2]; omega
    rw [this,Nat.add_mul_div_left _ _ hp,Nat.div_eq_of_lt (by omega)]; omega
   rw [e1]
   have hbor:(a0+p*(X % 10) < b0+p*(Y % 10)) ↔ X % 10<=Y % 10:=by
    constructor
    ·intro h1
     rcases Nat.lt_or_ge (Y % 10) (X % 10) with h2 | h2
     ·have:=key _ _ h2; omega
     ·exact h2
    ·intro h1
     have:=Nat.mul_le_mul_left p h1; omega
   by_cases hx:X % 10<=Y % 10
   ·rw [if_pos (hbor.2 hx),if_pos (by omega),pI]; omega
   ·rw [if_neg (fun e=>hx (hbor.1 e)),if_neg (by omega),pI]; omega
  ·rw [if_neg hab]
   have e1:(A - B) / p=X - Y:=by
    have h2:p*(X - Y)=p*X - p*Y:=Nat.mul_sub _ _ _
    have h3:=Nat.mul_le_mul_left p hle
    have:A - B=(a0 - b0)+p*(X - Y):=by rw [h2]; omega
    rw [this,Nat.add_mul_div_left _ _ hp,Nat.div_eq_of_lt (by omega)]; omega
   rw [e1]
   have hbor:(a0+p*(X % 10) < b0+p*(Y % 10)) ↔ X % 10 < Y % 10:=by
    constructor
    ·intro h1
     rcases Nat.lt_or_ge (X % 10) (Y % 10) with h2 | h2
     ·exact h2
     ·have:=Nat.mul_le_mul_left p h2; omega
    ·intro h1
     have:=key _ _ h1; omega
   by_cases hx:X % 10 < Y % 10
   ·rw [if_pos (hbor.2 hx),if_pos (by omega),pI]; omega
   ·rw [if_neg (fun e=>hx (hbor.1 e)),if_neg (by omega),pI]; omega
end Go.Ad
namespace Go.Ad
open Go.Lib (decDigits decFrom decNat digitVal nDigits itoa)
def hW (g:Nat->Nat):Nat->Nat
 | 0=>0
 | n+1=>hW g n*10+g n
def B6n (g:Nat->Nat) (i v:Nat):Nat->Nat:=fun x=>if x=i then g i+v else g x
theorem E6p (g:Nat->Nat) (i v:Nat):∀ n:Nat,hW (B6n g i v) n=hW g n+(if i < n then v*10 ^ (n - 1 - i) else 0)
 | 0=>by simp [hW]
 | n+1=>by
  show hW (B6n g i v) n*10+B6n g i v n=hW g n*10+g n+_
  rw [E6p g i v n]
  unfold B6n
  by_cases h:n=i
  ·subst h
   rw [if_neg (by omega),if_pos rfl,if_pos (by omega),show n+1 - 1 - n=0 by omega,Nat.pow_zero]; omega
  ·rw [if_neg h]
   by_cases h2:i < n
   ·rw [if_pos h2,if_pos (by omega),show n+1 - 1 - i=(n - 1 - i)+1 by omega,Nat.pow_succ,Nat.add_mul,Nat.mul_assoc]; omega
   ·rw [if_neg h2,if_neg (by omega)]; omega
def dg (s:List UInt8) (i:Nat):Nat:=(s.getD i 0).toNat - 48
def A7p (b:List UInt8) (d i:Nat) (g:Nat->Nat):Nat->Nat->Nat
 | 0=>g
 | k+1=>B6n (A7p b d i g k) (i+k+1) (d*dg b k)
def X7 (a b:List UInt8):Nat->Nat->Nat
 | 0=>fun _=>0
 | i+1=>A7p b (dg a i) i (X7 a b i) b.length
theorem A6j {s:List UInt8} {k:Nat} (h:k < s.length):D8 0 (s.take (k+1))=D8 0 (s.take k)*10+dg s k:=by
 have:s.take (k+1)=s.take k++[s.getD k 0]:=by
  rw [List.take_add_one,List.getD_eq_getElem?_getD,List.getElem?_eq_getElem h]; rfl
 rw [this,R8]; rfl
theorem E0a {b:List UInt8} {d i L:Nat} (g:Nat->Nat) (hL:i+b.length < L):∀ k:Nat,k<=b.length->hW (A7p b d i g k) L=hW g L+d*(D8 0 (b.take k)*10 ^ (L - 1 - i - k))
 | 0,_=>by
  have:D8 0 (b.take 0)=0:=rfl
  rw [this,Nat.zero_mul,Nat.mul_zero]; rfl
 | k+1,hk=>by
  have ih:=E0a g hL k (by omega) (d:=d)
  show hW (B6n (A7p b d i g k) (i+k+1) (d*dg b k)) L=_
  rw [E6p,if_pos (by omega),ih,A6j (by omega)]
  have e1:L - 1 - i - k=(L - 1 - i - (k+1))+1:=by omega
  have e2:L - 1 - (i+k+1)=L - 1 - i - (k+1):=by omega
  rw [e1,e2,Nat.pow_succ]
  generalize 10 ^ (L - 1 - i - (k+1))=p
  generalize D8 0 (b.take k)=u
  generalize dg b k=v
  rw [Nat.add_assoc,Nat.mul_assoc d v p,<- Nat.mul_add]
  congr 2
  rw [Nat.add_mul,Nat.mul_assoc,Nat.mul_comm p 10]
theorem D9i {a b:List UInt8}:∀ i:Nat,i<=a.length->hW (X7 a b i) (a.length+b.length)=D8 0 (a.take i)*10 ^ (a.length - i)*D8 0 b
 | 0,_=>by
  have:∀ n:Nat,hW (X7 a b 0) n=0:=fun n=>by
   induction n with
   | zero=>rfl
   | succ n ih=>show hW (X7 a b 0) n*10+0=0; rw [ih]
  rw [this]
  have:D8 0 (a.take 0)=0:=rfl
  rw [this]; simp
 | i+1,hi=>by
  have ih:=D9i (a:=a) (b:=b) i (by omega)
  show hW (A7p b (dg a i) i (X7 a b i) b.length) (a.length+b.length)=_
  rw [E0a _ (by omega) b.length (Nat.le_refl _),ih,A6j (by omega),List.take_length]
  have e1:a.length - i=(a.length - (i+1))+1:=by omega
  have e2:a.length+b.length - 1 - i - b.length=a.length - (i+1):=by omega
  rw [e1,e2,Nat.pow_succ]
  generalize 10 ^ (a.length - (i+1))=p
  generalize D8 0 (a.take i)=u
  generalize dg a i=v
  generalize D8 0 b=B
  have h1:u*(p*10)*B=u*10*p*B:=by rw [Nat.mul_comm p 10,<- Nat.mul_assoc]
  have h2:v*(B*p)=v*p*B:=by rw [Nat.mul_comm B p,<- Nat.mul_assoc]
  rw [Nat.add_mul,Nat.add_mul,h1,h2]
theorem E5f (a b:List UInt8):hW (X7 a b a.length) (a.length+b.length)=D8 0 a*D8 0 b:=by
 rw [D9i _ (Nat.le_refl _),List.take_length,Nat.sub_self,Nat.pow_zero,Nat.mul_one]
theorem C2u {s:List UInt8} (h:s.all F5=true) (i:Nat):dg s i<=9:=by
 unfold dg
 rw [List.getD_eq_getElem?_getD]
 cases hh:s[i]? with
 | none=>simp
 | some b =>
  have:=List.all_eq_true.1 h b (List.mem_of_getElem? hh)
  have hb:48<=b.toNat/\b.toNat<=57:=by simpa [F5] using this
  simp only [Option.getD_some]; omega
theorem D0q {b:List UInt8} {d i:Nat} (g:Nat->Nat):∀ (k x:Nat),(x<=i \/ i+k < x)->A7p b d i g k x=g x
 | 0,_,_=>rfl
 | k+1,x,h=>by
  show B6n (A7p b d i g k) (i+k+1) (d*dg b k) x=_
  unfold B6n
  rw [if_neg (by omega)]
  exact D0q g k x (by omega)
theorem D4d {b:List UInt8} {d i M:Nat} (hb:b.all F5=true) (hd:d<=9) {g:Nat->Nat} (hg:∀ x,g x<=M):∀ (k x:Nat),A7p b d i g k x<=M+81
 | 0,x=>by have:=hg x; show g x<=_; omega
 | k+1,x=>by
  show B6n (A7p b d i g k) (i+k+1) (d*dg b k) x<=_
  unfold B6n
  by_cases h:x=i+k+1
  ·rw [if_pos h,D0q g k _ (by omega)]
   have h1:=hg (i+k+1)
   have h2:=Nat.mul_le_mul hd (C2u hb k)
   omega
  ·rw [if_neg h]; exact D4d hb hd hg k x
theorem D3w {a b:List UInt8} (ha:a.all F5=true) (hb:b.all F5=true):∀ (i x:Nat),X7 a b i x<=81*i
 | 0,_=>Nat.le_refl _
 | i+1,x=>by
  have:=D4d (d:=dg a i) (i:=i) hb (C2u ha i) (g:=X7 a b i) (M:=81*i) (D3w ha hb i) b.length x
  show A7p b (dg a i) i (X7 a b i) b.length x<=_
  omega
def tW (g:Nat->Nat) (L:Nat):Nat->Nat
 | 0=>0
 | j+1=>tW g L j+g (L - 1 - j)*10 ^ j
theorem F7z (g:Nat->Nat) (L:Nat):∀ j:Nat,j<=L->hW g (L - j)*10 ^ j+tW g L j=hW g L
 | 0,_=>by simp [tW]
 | j+1,h=>by
  have ih:=F7z g L j (by omega)
  show hW g (L - (j+1))*10 ^ (j+1)+(tW g L j+g (L - 1 - j)*10 ^ j)=_
  rw [<- ih]
  have e:L - j=(L - (j+1))+1:=by omega
  rw [e]
  show _=(hW g (L - (j+1))*10+g (L - (j+1)))*10 ^ j+tW g L j
  rw [show L - 1 - j=L - (j+1) by omega,Nat.pow_succ,Nat.add_mul,Nat.mul_assoc,Nat.mul_comm 10]
  omega
theorem C9m (g:Nat->Nat) (L j:Nat):tW g L (j+1) / 10 ^ j=tW g L j / 10 ^ j+g (L - 1 - j):=by
 show (tW g L j+g (L - 1 - j)*10 ^ j) / 10 ^ j=_
 rw [Nat.add_mul_div_right _ _ (Nat.pow_pos (by decide))]
theorem F1d (g:Nat->Nat) (L j:Nat) (h:j < L):(tW g L j / 10 ^ j+g (L - 1 - j)) % 10=hW g L / 10 ^ j % 10:=by
 rw [<- C9m,<- F7z g L (j+1) h]
 have e:hW g (L - (j+1))*10 ^ (j+1)+tW g L (j+1)=tW g L (j+1)+hW g (L - (j+1))*10*10 ^ j:=by
  rw [Nat.pow_succ,Nat.mul_comm (10 ^ j) 10,<- Nat.mul_assoc]; omega
 rw [e,Nat.add_mul_div_right _ _ (Nat.pow_pos (by decide))]
 omega
theorem E0c (g:Nat->Nat) (L j:Nat):(tW g L j / 10 ^ j+g (L - 1 - j)) / 10=tW g L (j+1) / 10 ^ (j+1):=by
 rw [<- C9m,Nat.div_div_eq_div_mul,Nat.pow_succ]
theorem E7l {g:Nat->Nat} {L M:Nat} (hg:∀ x,g x<=M):∀ j:Nat,tW g L j / 10 ^ j<=M
 | 0=>by simp [tW]
 | j+1=>by
  rw [<- E0c]
  have:=E7l (L:=L) hg j
  have:=hg (L - 1 - j)
  omega
end Go.Ad
namespace Go.Ad
open Go.Lib (decDigits decFrom decNat digitVal nDigits itoa)
theorem E8p:∀ (s t:List UInt8) (p v w:Nat),s.length=t.length->decFrom p s=some v->decFrom p t=some w->Op.bytesLess s t=decide (v < w)
 | [],[],p,v,w,_,h1,h2=>by
  simp only [decFrom,sI] at h1 h2
  subst h1 h2
  simp [Op.bytesLess]
 | [],_ :: _,_,_,_,h,_,_=>by simp at h
 | _ :: _,[],_,_,_,h,_,_=>by simp at h
 | a :: s,b :: t,p,v,w,hl,h1,h2=>by
  simp only [decFrom] at h1 h2
  cases ha:digitVal a with
  | none=>rw [ha] at h1; cases h1
  | some d =>
   cases hb:digitVal b with
   | none=>rw [hb] at h2; cases h2
   | some e =>
    rw [ha] at h1
    rw [hb] at h2
    have hl':s.length=t.length:=by simpa using hl
    obtain ⟨i1,i2,_⟩:=C6n s t _ _ v w hl' h1 h2
    obtain ⟨d1,d2,d3⟩:=A2a ha
    obtain ⟨e1,e2,e3⟩:=A2a hb
    show (decide (a < b) || (a == b && Op.bytesLess s t))=_
    rcases Nat.lt_trichotomy a.toNat b.toNat with h | h | h
    ·rw [dT (UInt8.lt_iff_toNat_lt.2 h),dT (i1 (by omega))]; rfl
    ·have hab:a=b:=UInt8.toNat_inj.1 h
     subst hab
     have hde:d=e:=by omega
     subst hde
     rw [E8p s t _ v w hl' h1 h2]
     have:¬ a < a:=fun hh=>Nat.lt_irrefl _ (UInt8.lt_iff_toNat_lt.1 hh)
     rw [dF this]; simp
    ·have h3:¬ a < b:=fun hh=>by have:=UInt8.lt_iff_toNat_lt.1 hh; omega
     have h4:(a == b)=false:=by rw [beq_eq_false_iff_ne]; intro e; subst e; omega
     have h5:=i2 (by omega)
     rw [dF h3,h4,dF (show ¬ v < w by omega)]; rfl
theorem E6k (V U:Nat):(decide ((decDigits V).length < (decDigits U).length) || (decide ((decDigits V).length=(decDigits U).length) && Op.bytesLess (decDigits V) (decDigits U)))=decide (V < U):=by
 rcases Nat.lt_trichotomy (decDigits V).length (decDigits U).length with h | h | h
 ·have:V < U:=by
   rcases Nat.lt_or_ge V U with h1 | h1
   ·exact h1
   ·have:=Q3 h1; omega
  rw [dT h,dT this]; rfl
 ·rw [E8p _ _ 0 V U h (U8 V) (U8 U),dT h,dF (show ¬ (decDigits V).length < (decDigits U).length by omega)]; simp
 ·have:¬ V < U:=fun h1=>by have:=Q3 (Nat.le_of_lt h1); omega
  rw [dF (show ¬ (decDigits V).length < (decDigits U).length by omega),dF (show ¬ (decDigits V).length=(decDigits U).length by omega),dF this]; rfl
theorem A0t (n:Nat):itoa (n:Int)=decDigits n:=by
 unfold itoa
 rw [if_neg (by omega),Int.toNat_natCast]
theorem K3 (n:Nat):D8 0 (itoa (n:Int))=n:=by rw [A0t,E4l]
theorem O1 (n:Nat):(itoa (n:Int)).all F5=true:=by rw [A0t]; exact F7a n
theorem U3 {n k:Nat} (h:n < 10 ^ k) (hk:1<=k):(itoa (n:Int)).length<=k:=by
 rw [A0t,Lib.decDigits_length]
 obtain ⟨m,rfl⟩:∃ m,k=m+1:=⟨k - 1,by omega⟩
 exact A4f m n h
theorem V9 (n:Nat):n < 10 ^ (itoa (n:Int)).length:=by
 rw [A0t,Lib.decDigits_length]
 exact Lib.lt_pow_nDigits n
theorem E1m {A B d:Nat} (hB:0 < B) (hd:d < 10):(A*10+d) / B=A / B*10+(A % B*10+d) / B/\(A*10+d) % B=(A % B*10+d) % B/\(A % B*10+d) / B < 10:=by
 have h:=Nat.div_add_mod A B
 have e:A*10+d=(A % B*10+d)+B*(A / B*10):=by
  have:B*(A / B*10)=B*(A / B)*10:=by rw [Nat.mul_assoc]
  rw [this]; omega
 refine ⟨?_,?_,?_⟩
 ·rw [e,Nat.add_mul_div_left _ _ hB]; omega
 ·rw [e,Nat.add_mul_mod_self_left]
 ·have:=Nat.mod_lt A hB
  rw [Nat.div_lt_iff_lt_mul hB]
  omega
theorem E5z {k Q q:Nat} (hq:q < 10):pad k Q++[UInt8.ofNat (48+q)]=pad (k+1) (Q*10+q):=by
 simp only [pad]
 rw [show (Q*10+q) / 10=Q by omega]
 congr 2
 unfold dig
 rw [show (Q*10+q) % 10=q by omega]
end Go.Ad
namespace Go.Ad
open Go.Lib (decDigits decFrom decNat digitVal nDigits itoa)
theorem C1p {a:Nat} (b:Nat) (h:a < b):10 ^ a < 10 ^ b:=Nat.pow_lt_pow_right (by decide) h
theorem A2g {n a:Nat} (b:Nat) (h:n < 10 ^ a) (hb:a<=b):n < 10 ^ b:=Nat.lt_of_lt_of_le h (Nat.pow_le_pow_right (by decide) hb)
theorem C1u (m k:Nat) (h:m=k+1):10 ^ m=10*10 ^ k:=by subst h; exact Nat.pow_succ'
def B1m (p:Nat):Nat->Nat->Nat
 | 0,n=>n
 | k+1,n=>if n % p=0 then B1m p k (n / p) else n
def strip (p n:Nat):Nat:=B1m p n n
theorem A6b {p n:Nat} (hp:2<=p) (hn:0 < n):n / p < n:=Nat.div_lt_self hn (by omega)
theorem A1r {p n:Nat} (_:2<=p) (hn:0 < n) (h:n % p=0):0 < n / p:=by
 have h1:=Nat.div_add_mod n p
 rw [h,Nat.add_zero] at h1
 cases h0:n / p with
 | zero=>rw [h0,Nat.mul_zero] at h1; omega
 | succ k=>omega
theorem B5v {p:Nat} (hp:2<=p):∀ k j n:Nat,0 < n->n<=k->n<=j->B1m p k n=B1m p j n
 | 0,_,n,h0,h1,_=>by omega
 | _+1,0,n,h0,_,h2=>by omega
 | k+1,j+1,n,h0,h1,h2=>by
  unfold B1m
  by_cases h:n % p=0
  ·rw [if_pos h,if_pos h]
   have h3:=A6b hp h0
   exact B5v hp k j (n / p) (A1r hp h0 h) (by omega) (by omega)
  ·rw [if_neg h,if_neg h]
theorem A7a {p n:Nat} (hp:2<=p) (hn:0 < n) (h:n % p=0):strip p (n / p)=strip p n:=by
 unfold strip
 cases n with
 | zero=>omega
 | succ k =>
  conv=>rhs; unfold B1m
  rw [if_pos h]
  have h3:=A6b hp hn
  exact B5v hp _ _ _ (A1r hp hn h) (Nat.le_refl _) (by omega)
theorem A9p {p n:Nat} (h:n % p ≠ 0):strip p n=n:=by
 unfold strip
 cases n with
 | zero=>rfl
 | succ k=>unfold B1m; rw [if_neg h]
theorem A3m {p:Nat} (hp:2<=p):∀ n:Nat,0 < n->0 < strip p n/\strip p n<=n/\∃ k,n=strip p n*p ^ k:=fun n=>by
 induction n using Nat.strongRecOn with
 | _ n ih =>
  intro hn
  by_cases h:n % p=0
  ·have h3:=A6b hp hn
   obtain ⟨h4,h5,k,h6⟩:=ih (n / p) h3 (A1r hp hn h)
   rw [A7a hp hn h] at h4 h5 h6
   refine ⟨h4,by omega,k+1,?_⟩
   have h1:=Nat.div_add_mod n p
   rw [h,Nat.add_zero] at h1
   rw [Nat.pow_succ,<- Nat.mul_assoc,<- h6,Nat.mul_comm]
   exact h1.symm
  ·rw [A9p h]
   exact ⟨hn,Nat.le_refl _,0,by simp⟩
theorem C5x {d:Nat} (hd:0 < d) (h:strip 5 (strip 2 d)=1):d ∣ 10 ^ (4*(itoa (d:Int)).length):=by
 obtain ⟨h1,h2,a,ha⟩:=A3m (p:=2) (by omega) d hd
 obtain ⟨h3,h4,b,hb⟩:=A3m (p:=5) (by omega) (strip 2 d) h1
 rw [h,Nat.one_mul] at hb
 have hd2:d=5 ^ b*2 ^ a:=by rw [<- hb]; exact ha
 have h5:2 ^ (a+b)<=d:=by
  rw [hd2,Nat.pow_add,Nat.mul_comm]
  exact Nat.mul_le_mul_right _ (Nat.pow_le_pow_left (by decide) _)
 have h6:=V9 d
 generalize (itoa (d:Int)).length=L at *
 have h7:2 ^ (a+b) < 2 ^ (4*L):=by
  refine Nat.lt_of_le_of_lt h5 (Nat.lt_of_lt_of_le h6 ?_)
  rw [Nat.pow_mul]
  exact Nat.pow_le_pow_left (by decide) _
 have h8:a+b < 4*L:=(Nat.pow_lt_pow_iff_right (by decide)).1 h7
 refine Nat.dvd_trans ?_ (Nat.pow_dvd_pow 10 (Nat.le_of_lt h8))
 rw [hd2,show (10:Nat)=5*2 from rfl,Nat.mul_pow]
 exact Nat.mul_dvd_mul (Nat.pow_dvd_pow _ (by omega)) (Nat.pow_dvd_pow _ (by omega))
def A3y (d:Nat):Nat->Nat->List UInt8
 | 0,_=>[]
 | k+1,r=>if r=0 then [] else itoa ((r*10 / d:Nat):Int)++A3y d k (r*10 % d)
theorem A0q (d:Nat):∀ k:Nat,A3y d k 0=[]
 | 0=>rfl
 | k+1=>by unfold A3y; rw [if_pos rfl]
theorem A0s {d k r:Nat} (h:r ≠ 0):A3y d (k+1) r=itoa ((r*10 / d:Nat):Int)++A3y d k (r*10 % d):=by
 conv=>lhs; unfold A3y
 rw [if_neg h]
theorem A4c {d k r:Nat} (h:d ∣ r*10 ^ (k+1)):d ∣ (r*10 % d)*10 ^ k:=by
 rw [Nat.pow_succ,Nat.mul_comm (10 ^ k) 10,<- Nat.mul_assoc] at h
 have h1:=Nat.div_add_mod (r*10) d
 rw [<- h1,Nat.add_mul,Nat.mul_assoc] at h
 exact (Nat.dvd_add_right (Nat.dvd_mul_right _ _)).1 h
theorem B4p {d r:Nat} (h:d ∣ r*10 ^ 0) (hr:r < d):r=0:=by
 rw [Nat.pow_zero,Nat.mul_one] at h
 exact Nat.eq_zero_of_dvd_of_lt h hr
theorem X9 {d r:Nat} (hd:0 < d) (hr:r < d):r*10 / d < 10:=by
 rw [Nat.div_lt_iff_lt_mul hd]
 omega
theorem A4l {c:Nat} (h:c < 10):itoa (c:Int)=[UInt8.ofNat (48+c)]:=by
 rw [A0t,M3 h]
 unfold dig
 rw [Nat.mod_eq_of_lt h]
theorem C7n {c:Nat} (h:c < 10):(UInt8.ofNat (48+c)).toNat=48+c:=by
 rw [UInt8.toNat_ofNat']
 exact Nat.mod_eq_of_lt (by omega)
theorem C9w {d:Nat} (hd:0 < d):∀ k r:Nat,r < d->(A3y d k r).length<=k
 | 0,_,_=>Nat.le_refl _
 | k+1,r,hr=>by
  by_cases h:r=0
  ·rw [h,A0q]; simp
  ·rw [A0s h,A4l (X9 hd hr),List.length_append]
   have:=C9w hd k (r*10 % d) (Nat.mod_lt _ hd)
   simp only [List.length_cons,List.length_nil]; omega
theorem C9e {d:Nat}:∀ k r:Nat,(A3y d k r).all F5=true
 | 0,_=>rfl
 | k+1,r=>by
  by_cases h:r=0
  ·rw [h,A0q]; rfl
  ·rw [A0s h,List.all_append,O1,C9e]; rfl
theorem B4a {d:Nat} (hd:0 < d):∀ k r q:Nat,r < d->d ∣ r*10 ^ k->D8 q (A3y d k r)*d=(q*d+r)*10 ^ (A3y d k r).length
 | 0,r,q,hr,h=>by
  rw [B4p h hr]
  show q*d=(q*d+0)*10 ^ 0
  simp
 | k+1,r,q,hr,h=>by
  by_cases h0:r=0
  ·rw [h0,A0q]
   show q*d=(q*d+0)*10 ^ 0
   simp
  ·rw [A0s h0,A4l (X9 hd hr)]
   have ih:=B4a hd k (r*10 % d) (q*10+r*10 / d) (Nat.mod_lt _ hd) (A4c h)
   have hc:=X9 hd hr
   show D8 (q*10+((UInt8.ofNat (48+r*10 / d)).toNat - 48)) (A3y d k (r*10 % d))*d=_*10 ^ ((A3y d k (r*10 % d)).length+1)
   rw [C7n hc,Nat.add_sub_cancel_left,ih,Nat.pow_succ,Nat.mul_comm (10 ^ _) 10,<- Nat.mul_assoc]
   congr 1
   have h1:=Nat.div_add_mod (r*10) d
   generalize r*10 / d=c at *
   generalize r*10 % d=m at *
   rw [Nat.add_mul,Nat.add_mul,Nat.mul_assoc,Nat.mul_comm 10 d,<- Nat.mul_assoc,Nat.add_assoc,Nat.mul_comm c d,h1]
theorem C4k {d:Nat} (hd:0 < d):∀ k r:Nat,r < d->d ∣ r*10 ^ k->∀ h:A3y d k r ≠ [],(A3y d k r).getLast h ≠ 48
 | 0,_,_,_,h=>(h rfl).elim
 | k+1,r,hr,hdv,h=>by
  by_cases h0:r=0
  ·subst h0; exact (h (A0q _ _)).elim
  ·have hn:=A0s (d:=d) (k:=k) h0
   rw [A4l (X9 hd hr)] at hn
   have ih:=C4k hd k (r*10 % d) (Nat.mod_lt _ hd) (A4c hdv)
   by_cases h1:A3y d k (r*10 % d)=[]
   ·have h2:r*10 % d=0:=by
     have:=B4a hd k (r*10 % d) 0 (Nat.mod_lt _ hd) (A4c hdv)
     rw [h1,Nat.zero_mul,Nat.zero_add] at this
     have:0*d=r*10 % d*10 ^ 0:=this
     simp at this
     omega
    rw [h1] at hn
    have hl:(A3y d (k+1) r).getLast h=UInt8.ofNat (48+r*10 / d):=by
     simp only [hn]; rfl
    rw [hl]
    intro e
    have e:=congrArg UInt8.toNat e
    rw [C7n (X9 hd hr)] at e
    have e:48+r*10 / d=48:=e
    have h3:=Nat.div_add_mod (r*10) d
    rw [h2,show r*10 / d=0 by omega] at h3
    omega
   ·have hl:(A3y d (k+1) r).getLast h=(A3y d k (r*10 % d)).getLast h1:=by
     simp only [hn]
     rw [List.getLast_append_of_ne_nil _ h1]
    rw [hl]
    exact ih h1
theorem E2k (q:Nat) (b:List UInt8) (h:b ≠ []):D8 q b=D8 q b.dropLast*10+((b.getLast h).toNat - 48):=by
 conv=>lhs; rw [<- List.dropLast_concat_getLast h]
 rw [R8]; rfl
theorem E5p {q:Nat} {b:List UInt8} (hb:b.all F5=true) (h:b ≠ []) (hl:b.getLast h ≠ 48):D8 q b % 10 ≠ 0:=by
 rw [E2k q b h]
 have h1:F5 (b.getLast h)=true:=List.all_eq_true.1 hb _ (List.getLast_mem h)
 have h2:48<=(b.getLast h).toNat/\(b.getLast h).toNat<=57:=by simpa [F5] using h1
 have h3:(b.getLast h).toNat ≠ 48:=fun e=>hl (UInt8.toNat_inj.1 e)
 omega
theorem C7d {n n':Nat} {b b':List UInt8} (hb:b.all F5=true) (hb':b'.all F5=true) (hl:∀ h:b ≠ [],b.getLast h ≠ 48) (hl':∀ h:b' ≠ [],b'.getLast h ≠ 48)
  (h:D8 n b*10 ^ b'.length=D8 n' b'*10 ^ b.length):n=n'/\b=b':=by
 have key:∀ (n n':Nat) (b b':List UInt8),b'.all F5=true->(∀ h:b' ≠ [],b'.getLast h ≠ 48)->D8 n b*10 ^ b'.length=D8 n' b'*10 ^ b.length->¬ b.length < b'.length:=fun n n' b b' hb' hl' h hlt=>by
  have hne:b' ≠ []:=fun e=>by rw [e] at hlt; simp at hlt
  have h1:=E5p (q:=n') hb' hne (hl' hne)
  have h2:b'.length=(b'.length - b.length - 1)+1+b.length:=by omega
  rw [h2,Nat.pow_add,<- Nat.mul_assoc] at h
  have h3:=Nat.eq_of_mul_eq_mul_right (Nat.pow_pos (by decide)) h
  rw [Nat.pow_succ,<- Nat.mul_assoc] at h3
  rw [<- h3,Nat.mul_mod_left] at h1
  exact h1 rfl
 have h1:b.length=b'.length:=by
  have k1:=key n n' b b' hb' hl' h
  have k2:=key n' n b' b hb hl h.symm
  omega
 rw [h1] at h
 have h:=Nat.eq_of_mul_eq_mul_right (Nat.pow_pos (by decide)) h
 rw [A8e b n,A8e b' n'] at h
 have p1:=C8c _ b rfl hb
 have p2:=C8c _ b' rfl hb'
 have m1:D8 0 b < 10 ^ b.length:=by
  have:=A2i b.length (D8 0 b)
  rw [<- p1] at this
  rw [this]
  exact Nat.mod_lt _ (Nat.pow_pos (by decide))
 have m2:D8 0 b' < 10 ^ b'.length:=by
  have:=A2i b'.length (D8 0 b')
  rw [<- p2] at this
  rw [this]
  exact Nat.mod_lt _ (Nat.pow_pos (by decide))
 rw [h1] at h m1
 have h2:(n*10 ^ b'.length+D8 0 b) / 10 ^ b'.length=(n'*10 ^ b'.length+D8 0 b') / 10 ^ b'.length:=congrArg (· / 10 ^ b'.length) h
 have h3:(n*10 ^ b'.length+D8 0 b) % 10 ^ b'.length=(n'*10 ^ b'.length+D8 0 b') % 10 ^ b'.length:=congrArg (· % 10 ^ b'.length) h
 rw [Nat.add_comm,Nat.add_mul_div_right _ _ (Nat.pow_pos (by decide)),Nat.div_eq_of_lt m1,Nat.add_comm (n'*_),Nat.add_mul_div_right _ _ (Nat.pow_pos (by decide)),Nat.div_eq_of_lt m2] at h2
 rw [Nat.add_comm,Nat.add_mul_mod_self_right,Nat.mod_eq_of_lt m1,Nat.add_comm (n'*_),Nat.add_mul_mod_self_right,Nat.mod_eq_of_lt m2] at h3
 refine ⟨by omega,?_⟩
 rw [p1,p2,h1,h3]
def B0m (d r:Nat):List UInt8:=if r=0 then [] else 46 :: A3y d (4*(itoa (d:Int)).length) r
def D6g (N:Int) (d:Nat):List UInt8:=(if N < 0 then [45] else [])++(itoa ((N.natAbs / d:Nat):Int)++B0m d (N.natAbs % d))
def A5o (x:List UInt8):List UInt8 × Int :=
 if A0e x ≠ 0 then ([],A0e x) else if strip 5 (strip 2 (A7 (F9 x).2.1).toNat) ≠ 1 then ([],14) else (D6g (A7 (F9 x).1) (A7 (F9 x).2.1).toNat,0)
end Go.Ad
