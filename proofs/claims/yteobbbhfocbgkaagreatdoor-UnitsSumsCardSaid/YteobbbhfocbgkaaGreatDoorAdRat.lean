/- Plain laws of quotients: a text is cut at a byte; the error of a quotient's text. -/
import Derived.Test.YteobbbhfocbgkaaGreatDoorAdNum
import Derived.Lib.IndexLaws
namespace Go.Ad
open Go.Lib (decDigits decFrom decNat digitVal nDigits itoa)
def cutAt (c:UInt8):List UInt8→Option (List UInt8 × List UInt8)
 | []=>none
 | b :: l=>if b == c then some ([],l) else (cutAt c l).map fun p=>(b :: p.1,p.2)
theorem cutAt_some {c:UInt8}:∀ {a x y:List UInt8},cutAt c a=some (x,y)→a=x++c :: y∧c ∉ x
 | [],_,_,h=>by cases h
 | b :: l,x,y,h=>by
  unfold cutAt at h
  cases hb:b == c with
  | true =>
   rw [hb,if_pos rfl] at h
   cases h
   have:b=c:=by simpa using hb
   subst this
   exact ⟨rfl,by simp⟩
  | false =>
   rw [hb,if_neg (by simp)] at h
   cases hl:cutAt c l with
   | none=>rw [hl] at h; cases h
   | some p =>
    rw [hl] at h
    obtain ⟨u,v⟩:=p
    cases h
    obtain ⟨h1,h2⟩:=cutAt_some hl
    have hbc:b ≠ c:=by simpa using hb
    exact ⟨by rw [h1]; rfl,fun hm=>by cases hm with | head=>exact hbc rfl | tail _ hm=>exact h2 hm⟩
theorem cutAt_mk {c:UInt8}:∀ {x y:List UInt8},c ∉ x→cutAt c (x++c :: y)=some (x,y)
 | [],y,_=>by simp [cutAt]
 | b :: x,y,h=>by
  have hb:(b == c)=false:=by rw [beq_eq_false_iff_ne]; exact fun e=>h (by subst e; exact .head _)
  show (if b == c then _ else (cutAt c (x++c :: y)).map fun p=>(b :: p.1,p.2))=_
  rw [hb,if_neg (by simp),cutAt_mk fun hm=>h (.tail _ hm)]
  rfl
theorem cutAt_none {c:UInt8}:∀ {a:List UInt8},c ∉ a→cutAt c a=none
 | [],_=>rfl
 | b :: l,h=>by
  have hb:(b == c)=false:=by rw [beq_eq_false_iff_ne]; exact fun e=>h (by subst e; exact .head _)
  show (if b == c then _ else _)=_
  rw [hb,if_neg (by simp),cutAt_none fun hm=>h (.tail _ hm)]
  rfl
theorem cutAt_none_iff {c:UInt8} {a:List UInt8}:cutAt c a=none ↔ c ∉ a:=by
 constructor
 ·intro h hm
  have key:∀ l:List UInt8,c ∈ l→∃ x y,l=x++c :: y∧c ∉ x:=fun l=>by
   induction l with
   | nil=>intro hm; cases hm
   | cons b l ih =>
    intro hm
    by_cases hb:b=c
    ·subst hb; exact ⟨[],l,rfl,by simp⟩
    ·cases hm with
     | head=>exact (hb rfl).elim
     | tail _ hm =>
      obtain ⟨x,y,e,hx⟩:=ih hm
      exact ⟨b :: x,y,by rw [e]; rfl,fun hh=>by cases hh with | head=>exact hb rfl | tail _ hh=>exact hx hh⟩
  obtain ⟨x,y,e,hx⟩:=key a hm
  rw [e,cutAt_mk hx] at h
  cases h
 ·exact cutAt_none
theorem cutAt_index (c:UInt8):∀ a:List UInt8,(Lib.indexByte a c=-1∧cutAt c a=none) ∨ (∃ i:Nat,i < a.length∧Lib.indexByte a c=i∧cutAt c a=some (a.take i,a.drop (i+1)))
 | []=>.inl ⟨rfl,rfl⟩
 | b :: l=>by
  unfold cutAt Lib.indexByte
  cases hb:b == c with
  | true=>exact .inr ⟨0,by simp,rfl,rfl⟩
  | false =>
   rw [if_neg (by simp)]
   rcases cutAt_index c l with ⟨h1,h2⟩ | ⟨i,h0,h1,h2⟩
   ·left
    rw [h1,h2]
    exact ⟨rfl,rfl⟩
   ·right
    refine ⟨i+1,by simp; omega,?_,by rw [h2]; rfl⟩
    rw [h1,if_neg (by rw [beq_iff_eq]; omega)]
    omega
def cutR (a:List UInt8):List UInt8 × List UInt8 × Bool:=match cutAt 47 a with
 | some (n,d)=>(n,d,true)
 | none=>(a,[49],false)
theorem cutR_len (a:List UInt8):(cutR a).1.length≤a.length∧(cutR a).2.1.length≤a.length+1:=by
 unfold cutR
 cases h:cutAt 47 a with
 | none=>exact ⟨Nat.le_refl _,by simp⟩
 | some p =>
  obtain ⟨x,y⟩:=p
  obtain ⟨h1,h2⟩:=cutAt_some h
  rw [h1,List.length_append,List.length_cons]
  simp only
  omega
theorem errI_val (s:List UInt8):errI s=0 ∨ errI s=3 ∨ errI s=11:=by
 unfold errI
 split
 ·exact .inr (.inl rfl)
 ·split
  ·exact .inr (.inl rfl)
  ·split
   ·exact .inr (.inr rfl)
   ·exact .inl rfl
def errQ (a:List UInt8):Int :=
 if errI (cutR a).1=3 ∨ errI (cutR a).2.1=3 then 3 else if errI (cutR a).1 ≠ 0 ∨ errI (cutR a).2.1 ≠ 0 then 11 else
  if (cutR a).2.2=true∧¬ (1 < dvalZ (cutR a).2.1∧Int.gcd (dvalZ (cutR a).1) (dvalZ (cutR a).2.1)=1) then 3 else 0
end Go.Ad
namespace Go.Ad
open Go.Lib (decDigits decFrom decNat digitVal nDigits itoa)
def digW (acc:Nat) (s:List UInt8):Nat:=s.foldl (fun n b=>n*10+(b.toNat - 48)) acc
theorem digW_append (acc:Nat) (s t:List UInt8):digW acc (s++t)=digW (digW acc s) t:=by unfold digW; rw [List.foldl_append]
theorem digW_acc:∀ (s:List UInt8) (acc:Nat),digW acc s=acc*10 ^ s.length+digW 0 s
 | [],acc=>by simp [digW]
 | b :: r,acc=>by
  show digW (acc*10+(b.toNat - 48)) r=_+digW (0*10+(b.toNat - 48)) r
  rw [digW_acc r (acc*10+(b.toNat - 48)),digW_acc r (0*10+(b.toNat - 48)),List.length_cons,Nat.pow_succ,Nat.add_mul,Nat.add_mul]
  rw [Nat.mul_assoc acc 10,Nat.mul_comm 10]
  omega
theorem digW_dec (U:Nat):digW 0 (decDigits U)=U:=by
 induction U using Nat.strongRecOn with
 | ind U ih =>
  have hd:∀ v:Nat,(dig v).toNat - 48=v % 10:=fun v=>by
   unfold dig
   rw [UInt8.toNat_ofNat_of_lt' (show 48+v % 10 < 256 by omega)]; omega
  by_cases h:U < 10
  ·rw [dec_small h]
   show 0*10+((dig U).toNat - 48)=U
   rw [hd]; omega
  ·rw [dec_big h,digW_append,ih (U / 10) (by omega)]
   show U / 10*10+((dig U).toNat - 48)=U
   rw [hd]; omega
theorem dig_toNat (v:Nat):(dig v).toNat=48+v % 10:=by
 unfold dig
 exact UInt8.toNat_ofNat_of_lt' (show 48+v % 10 < 256 by omega)
theorem digW_pad:∀ (k v:Nat),digW 0 (pad k v)=v % 10 ^ k
 | 0,v=>by simp [pad,digW,Nat.mod_one]
 | k+1,v=>by
  simp only [pad]
  rw [digW_append,digW_pad k]
  show v / 10 % 10 ^ k*10+((dig v).toNat - 48)=_
  rw [dig_toNat,Nat.pow_succ,Nat.mul_comm (10 ^ k) 10,Nat.mod_mul]
  omega
theorem pad_all (k v:Nat):(pad k v).all isDg=true:=by
 rw [List.all_eq_true]
 intro b hb
 have:=pad_digit k v b hb
 simp [isDg,this]
theorem dec_all (U:Nat):(decDigits U).all isDg=true:=by
 rw [List.all_eq_true]
 intro b hb
 have:=dec_digit U b hb
 simp [isDg,this]
theorem pad_of:∀ (k:Nat) (s:List UInt8),s.length=k→s.all isDg=true→s=pad k (digW 0 s)
 | 0,s,hl,_=>by rw [List.eq_nil_of_length_eq_zero hl]; rfl
 | k+1,s,hl,hd=>by
  have hn:s ≠ []:=fun e=>by rw [e] at hl; simp at hl
  obtain ⟨t,b,rfl⟩:∃ t b,s=t++[b]:=⟨s.dropLast,s.getLast hn,(List.dropLast_concat_getLast hn).symm⟩
  rw [List.all_append,Bool.and_eq_true] at hd
  have hb:48≤b.toNat∧b.toNat≤57:=by simpa [isDg] using hd.2
  have ih:=pad_of k t (by simpa using hl) hd.1
  rw [digW_append]
  show _=pad (k+1) (digW 0 t*10+(b.toNat - 48))
  simp only [pad]
  rw [show (digW 0 t*10+(b.toNat - 48)) / 10=digW 0 t by omega,← ih]
  congr 2
  apply UInt8.toNat_inj.1
  rw [dig_toNat]; omega
theorem pad_get:∀ (k v i:Nat),i < k→((pad k v).getD i 0).toNat=48+v / 10 ^ (k - 1 - i) % 10
 | 0,_,_,h=>by omega
 | k+1,v,i,h=>by
  simp only [pad]
  rw [List.getD_eq_getElem?_getD]
  by_cases hi:i < k
  ·rw [List.getElem?_append_left (by rw [pad_length]; exact hi),← List.getD_eq_getElem?_getD,pad_get k (v / 10) i hi,Nat.div_div_eq_div_mul]
   have:k+1 - 1 - i=(k - 1 - i)+1:=by omega
   rw [this,Nat.pow_succ,Nat.mul_comm 10]
  ·have:i=k:=by omega
   subst this
   rw [List.getElem?_append_right (by rw [pad_length]; exact Nat.le_refl _),pad_length,Nat.sub_self]
   show (dig v).toNat=_
   rw [dig_toNat,show i+1 - 1 - i=0 by omega,Nat.pow_zero,Nat.div_one]
theorem pad_map:∀ (k v:Nat),(List.range k).map (fun x=>UInt8.ofNat (48+v / 10 ^ (k - 1 - x) % 10))=pad k v:=fun k v=>by
 apply List.ext_getElem
 ·simp [pad_length]
 ·intro i h1 h2
  have hi:i < k:=by simpa using h1
  rw [List.getElem_map,List.getElem_range]
  have:=pad_get k v i hi
  rw [List.getD_eq_getElem?_getD,List.getElem?_eq_getElem h2] at this
  apply UInt8.toNat_inj.1
  rw [UInt8.toNat_ofNat_of_lt' (show 48+v / 10 ^ (k - 1 - i) % 10 < 256 by omega)]
  exact this.symm
def outF (n C j:Nat):Nat→Int:=fun x=>if n - j≤x∧x < n then ((48+C / 10 ^ (n - 1 - x) % 10:Nat):Int) else 0
theorem outF_zero (n C:Nat):outF n C 0=fun _=>0:=by
 funext x
 unfold outF
 rw [if_neg (by omega)]
theorem outF_succ {n C j:Nat} (h:j < n):updF (outF n C j) (n - 1 - j) ((48+C / 10 ^ j % 10:Nat):Int)=outF n C (j+1):=by
 funext x
 unfold updF outF
 by_cases hx:x=n - 1 - j
 ·subst hx
  rw [if_pos rfl,if_pos (by omega),show n - 1 - (n - 1 - j)=j by omega]
 ·rw [if_neg hx]
  by_cases h2:n - j≤x∧x < n
  ·rw [if_pos h2,if_pos (by omega)]
  ·rw [if_neg h2,if_neg (by omega)]
theorem outF_text (n C:Nat):(List.range n).map (fun x=>UInt8.ofNat (outF n C n x).toNat)=pad n C:=by
 rw [← pad_map]
 apply List.map_congr_left
 intro x hx
 have:x < n:=List.mem_range.1 hx
 unfold outF
 rw [if_pos (by omega),Int.toNat_natCast]
def cF (add:Bool) (A B j:Nat):Nat:=bif add then (A % 10 ^ j+B % 10 ^ j) / 10 ^ j else if A % 10 ^ j < B % 10 ^ j then 1 else 0
def sumN (add:Bool) (A B:Nat):Nat:=bif add then A+B else A - B
def colR (c d e:Int) (add:Bool):Int × Int :=
 bif add then (if c - 48+(d - 48)+e > 9 then (48+(c - 48+(d - 48)+e) - 10,1) else (48+(c - 48+(d - 48)+e),0))
 else (if c - 48 - (d - 48) - e < 0 then (48+(c - 48 - (d - 48) - e)+10,1) else (48+(c - 48 - (d - 48) - e),0))
theorem cF_zero (add:Bool) (A B:Nat):cF add A B 0=0:=by
 unfold cF
 cases add
 ·simp [Nat.mod_one]
 ·simp [Nat.mod_one]
theorem cF_le (add:Bool) (A B j:Nat):cF add A B j≤1:=by
 unfold cF
 have hp:0 < 10 ^ j:=Nat.pow_pos (by decide)
 have ha:=Nat.mod_lt A hp
 have hb:=Nat.mod_lt B hp
 cases add
 ·simp only [cond_false]; split <;> omega
 ·simp only [cond_true]
  have:=(Nat.div_lt_iff_lt_mul hp (x:=A % 10 ^ j+B % 10 ^ j) (y:=2)).2 (by omega)
  omega
theorem col_step {add:Bool} {A B:Nat} (h:add=false→B≤A) (j:Nat) :
  colR ((48+A / 10 ^ j % 10:Nat):Int) ((48+B / 10 ^ j % 10:Nat):Int) (cF add A B j:Nat) add=(((48+sumN add A B / 10 ^ j % 10:Nat):Int),((cF add A B (j+1):Nat):Int)):=by
 have hc:=cF_le add A B j
 unfold cF at hc ⊢
 have hp:0 < 10 ^ j:=Nat.pow_pos (by decide)
 rw [Nat.pow_succ,Nat.mod_mul,Nat.mod_mul]
 have ea:=Nat.div_add_mod A (10 ^ j)
 have eb:=Nat.div_add_mod B (10 ^ j)
 have ha:=Nat.mod_lt A hp
 have hb:=Nat.mod_lt B hp
 unfold sumN colR
 generalize 10 ^ j=p at *
 generalize A % p=a0 at *
 generalize B % p=b0 at *
 generalize hX:A / p=X at *
 generalize hY:B / p=Y at *
 cases add with
 | true =>
  simp only [cond_true] at hc ⊢
  have e1:(A+B) / p=X+Y+(a0+b0) / p:=by
   have:A+B=(a0+b0)+p*(X+Y):=by rw [Nat.mul_add]; omega
   rw [this,Nat.add_mul_div_left _ _ hp,Nat.add_comm]
  have e2:(a0+p*(X % 10)+(b0+p*(Y % 10))) / (p*10)=((a0+b0) / p+X % 10+Y % 10) / 10:=by
   rw [← Nat.div_div_eq_div_mul]
   have:a0+p*(X % 10)+(b0+p*(Y % 10))=(a0+b0)+p*(X % 10+Y % 10):=by rw [Nat.mul_add]; omega
   rw [this,Nat.add_mul_div_left _ _ hp,Nat.add_assoc]
  rw [e1,e2]
  generalize (a0+b0) / p=c at *
  split
  ·rw [Prod.mk.injEq]; omega
  ·rw [Prod.mk.injEq]; omega
 | false =>
  simp only [cond_false] at hc ⊢
  have hBA:=h rfl
  have hXY:p*Y+b0≤p*X+a0:=by omega
  have hle:Y≤X:=by rw [← hX,← hY]; exact Nat.div_le_div_right hBA
  have key:∀ u v:Nat,u+1≤v→p*u+p≤p*v:=fun u v huv=>by
   have:=Nat.mul_le_mul_left p huv
   rw [Nat.mul_add,Nat.mul_one] at this
   exact this
  by_cases hab:a0 < b0
  ·rw [if_pos hab]
   have hlt:Y+1≤X:=by
    rcases Nat.lt_or_ge Y X with h1 | h1
    ·exact h1
    ·have:X=Y:=by omega
     subst this; omega
   have e1:(A - B) / p=X - Y - 1:=by
    have h2:p*(X - Y - 1)=p*X - p*Y - p:=by rw [Nat.mul_sub,Nat.mul_sub,Nat.mul_one]
    have h3:=key _ _ hlt
    have:A - B=(a0+p - b0)+p*(X - Y - 1):=by rw [h2]; omega
    rw [this,Nat.add_mul_div_left _ _ hp,Nat.div_eq_of_lt (by omega)]; omega
   rw [e1]
   have hbor:(a0+p*(X % 10) < b0+p*(Y % 10)) ↔ X % 10≤Y % 10:=by
    constructor
    ·intro h1
     rcases Nat.lt_or_ge (Y % 10) (X % 10) with h2 | h2
     ·have:=key _ _ h2; omega
     ·exact h2
    ·intro h1
     have:=Nat.mul_le_mul_left p h1; omega
   by_cases hx:X % 10≤Y % 10
   ·rw [if_pos (hbor.2 hx),if_pos (by omega),Prod.mk.injEq]; omega
   ·rw [if_neg (fun e=>hx (hbor.1 e)),if_neg (by omega),Prod.mk.injEq]; omega
  ·rw [if_neg hab]
   have e1:(A - B) / p=X - Y:=by
    have h2:p*(X - Y)=p*X - p*Y:=Nat.mul_sub _ _ _
    have h3:=Nat.mul_le_mul_left p hle
    have:A - B=(a0 - b0)+p*(X - Y):=by rw [h2]; omega
    rw [this,Nat.add_mul_div_left _ _ hp,Nat.div_eq_of_lt (by omega)]; omega
   rw [e1]
   have hbor:(a0+p*(X % 10) < b0+p*(Y % 10)) ↔ X % 10 < Y % 10:=by
    constructor
    ·intro h1
     rcases Nat.lt_or_ge (X % 10) (Y % 10) with h2 | h2
     ·exact h2
     ·have:=Nat.mul_le_mul_left p h2; omega
    ·intro h1
     have:=key _ _ h1; omega
   by_cases hx:X % 10 < Y % 10
   ·rw [if_pos (hbor.2 hx),if_pos (by omega),Prod.mk.injEq]; omega
   ·rw [if_neg (fun e=>hx (hbor.1 e)),if_neg (by omega),Prod.mk.injEq]; omega
end Go.Ad
namespace Go.Ad
open Go.Lib (decDigits decFrom decNat digitVal nDigits itoa)
def hW (g:Nat→Nat):Nat→Nat
 | 0=>0
 | n+1=>hW g n*10+g n
def addG (g:Nat→Nat) (i v:Nat):Nat→Nat:=fun x=>if x=i then g i+v else g x
theorem hW_add (g:Nat→Nat) (i v:Nat):∀ n:Nat,hW (addG g i v) n=hW g n+(if i < n then v*10 ^ (n - 1 - i) else 0)
 | 0=>by simp [hW]
 | n+1=>by
  show hW (addG g i v) n*10+addG g i v n=hW g n*10+g n+_
  rw [hW_add g i v n]
  unfold addG
  by_cases h:n=i
  ·subst h
   rw [if_neg (by omega),if_pos rfl,if_pos (by omega),show n+1 - 1 - n=0 by omega,Nat.pow_zero]; omega
  ·rw [if_neg h]
   by_cases h2:i < n
   ·rw [if_pos h2,if_pos (by omega),show n+1 - 1 - i=(n - 1 - i)+1 by omega,Nat.pow_succ,Nat.add_mul,Nat.mul_assoc]; omega
   ·rw [if_neg h2,if_neg (by omega)]; omega
def dg (s:List UInt8) (i:Nat):Nat:=(s.getD i 0).toNat - 48
def rowG (b:List UInt8) (d i:Nat) (g:Nat→Nat):Nat→Nat→Nat
 | 0=>g
 | k+1=>addG (rowG b d i g k) (i+k+1) (d*dg b k)
def colG (a b:List UInt8):Nat→Nat→Nat
 | 0=>fun _=>0
 | i+1=>rowG b (dg a i) i (colG a b i) b.length
theorem take_step {s:List UInt8} {k:Nat} (h:k < s.length):digW 0 (s.take (k+1))=digW 0 (s.take k)*10+dg s k:=by
 have:s.take (k+1)=s.take k++[s.getD k 0]:=by
  rw [List.take_add_one,List.getD_eq_getElem?_getD,List.getElem?_eq_getElem h]; rfl
 rw [this,digW_append]; rfl
theorem row_val {b:List UInt8} {d i L:Nat} (g:Nat→Nat) (hL:i+b.length < L):∀ k:Nat,k≤b.length→hW (rowG b d i g k) L=hW g L+d*(digW 0 (b.take k)*10 ^ (L - 1 - i - k))
 | 0,_=>by
  have:digW 0 (b.take 0)=0:=rfl
  rw [this,Nat.zero_mul,Nat.mul_zero]; rfl
 | k+1,hk=>by
  have ih:=row_val g hL k (by omega) (d:=d)
  show hW (addG (rowG b d i g k) (i+k+1) (d*dg b k)) L=_
  rw [hW_add,if_pos (by omega),ih,take_step (by omega)]
  have e1:L - 1 - i - k=(L - 1 - i - (k+1))+1:=by omega
  have e2:L - 1 - (i+k+1)=L - 1 - i - (k+1):=by omega
  rw [e1,e2,Nat.pow_succ]
  generalize 10 ^ (L - 1 - i - (k+1))=p
  generalize digW 0 (b.take k)=u
  generalize dg b k=v
  rw [Nat.add_assoc,Nat.mul_assoc d v p,← Nat.mul_add]
  congr 2
  rw [Nat.add_mul,Nat.mul_assoc,Nat.mul_comm p 10]
theorem col_val {a b:List UInt8}:∀ i:Nat,i≤a.length→hW (colG a b i) (a.length+b.length)=digW 0 (a.take i)*10 ^ (a.length - i)*digW 0 b
 | 0,_=>by
  have:∀ n:Nat,hW (colG a b 0) n=0:=fun n=>by
   induction n with
   | zero=>rfl
   | succ n ih=>show hW (colG a b 0) n*10+0=0; rw [ih]
  rw [this]
  have:digW 0 (a.take 0)=0:=rfl
  rw [this]; simp
 | i+1,hi=>by
  have ih:=col_val (a:=a) (b:=b) i (by omega)
  show hW (rowG b (dg a i) i (colG a b i) b.length) (a.length+b.length)=_
  rw [row_val _ (by omega) b.length (Nat.le_refl _),ih,take_step (by omega),List.take_length]
  have e1:a.length - i=(a.length - (i+1))+1:=by omega
  have e2:a.length+b.length - 1 - i - b.length=a.length - (i+1):=by omega
  rw [e1,e2,Nat.pow_succ]
  generalize 10 ^ (a.length - (i+1))=p
  generalize digW 0 (a.take i)=u
  generalize dg a i=v
  generalize digW 0 b=B
  have h1:u*(p*10)*B=u*10*p*B:=by rw [Nat.mul_comm p 10,← Nat.mul_assoc]
  have h2:v*(B*p)=v*p*B:=by rw [Nat.mul_comm B p,← Nat.mul_assoc]
  rw [Nat.add_mul,Nat.add_mul,h1,h2]
theorem col_prod (a b:List UInt8):hW (colG a b a.length) (a.length+b.length)=digW 0 a*digW 0 b:=by
 rw [col_val _ (Nat.le_refl _),List.take_length,Nat.sub_self,Nat.pow_zero,Nat.mul_one]
theorem dg_le {s:List UInt8} (h:s.all isDg=true) (i:Nat):dg s i≤9:=by
 unfold dg
 rw [List.getD_eq_getElem?_getD]
 cases hh:s[i]? with
 | none=>simp
 | some b =>
  have:=List.all_eq_true.1 h b (List.mem_of_getElem? hh)
  have hb:48≤b.toNat∧b.toNat≤57:=by simpa [isDg] using this
  simp only [Option.getD_some]; omega
theorem row_same {b:List UInt8} {d i:Nat} (g:Nat→Nat):∀ (k x:Nat),(x≤i ∨ i+k < x)→rowG b d i g k x=g x
 | 0,_,_=>rfl
 | k+1,x,h=>by
  show addG (rowG b d i g k) (i+k+1) (d*dg b k) x=_
  unfold addG
  rw [if_neg (by omega)]
  exact row_same g k x (by omega)
theorem row_le {b:List UInt8} {d i M:Nat} (hb:b.all isDg=true) (hd:d≤9) {g:Nat→Nat} (hg:∀ x,g x≤M):∀ (k x:Nat),rowG b d i g k x≤M+81
 | 0,x=>by have:=hg x; show g x≤_; omega
 | k+1,x=>by
  show addG (rowG b d i g k) (i+k+1) (d*dg b k) x≤_
  unfold addG
  by_cases h:x=i+k+1
  ·rw [if_pos h,row_same g k _ (by omega)]
   have h1:=hg (i+k+1)
   have h2:=Nat.mul_le_mul hd (dg_le hb k)
   omega
  ·rw [if_neg h]; exact row_le hb hd hg k x
theorem col_le {a b:List UInt8} (ha:a.all isDg=true) (hb:b.all isDg=true):∀ (i x:Nat),colG a b i x≤81*i
 | 0,_=>Nat.le_refl _
 | i+1,x=>by
  have:=row_le (d:=dg a i) (i:=i) hb (dg_le ha i) (g:=colG a b i) (M:=81*i) (col_le ha hb i) b.length x
  show rowG b (dg a i) i (colG a b i) b.length x≤_
  omega
def tW (g:Nat→Nat) (L:Nat):Nat→Nat
 | 0=>0
 | j+1=>tW g L j+g (L - 1 - j)*10 ^ j
theorem tW_hW (g:Nat→Nat) (L:Nat):∀ j:Nat,j≤L→hW g (L - j)*10 ^ j+tW g L j=hW g L
 | 0,_=>by simp [tW]
 | j+1,h=>by
  have ih:=tW_hW g L j (by omega)
  show hW g (L - (j+1))*10 ^ (j+1)+(tW g L j+g (L - 1 - j)*10 ^ j)=_
  rw [← ih]
  have e:L - j=(L - (j+1))+1:=by omega
  rw [e]
  show _=(hW g (L - (j+1))*10+g (L - (j+1)))*10 ^ j+tW g L j
  rw [show L - 1 - j=L - (j+1) by omega,Nat.pow_succ,Nat.add_mul,Nat.mul_assoc,Nat.mul_comm 10]
  omega
theorem tW_carry (g:Nat→Nat) (L j:Nat):tW g L (j+1) / 10 ^ j=tW g L j / 10 ^ j+g (L - 1 - j):=by
 show (tW g L j+g (L - 1 - j)*10 ^ j) / 10 ^ j=_
 rw [Nat.add_mul_div_right _ _ (Nat.pow_pos (by decide))]
theorem tW_digit (g:Nat→Nat) (L j:Nat) (h:j < L):(tW g L j / 10 ^ j+g (L - 1 - j)) % 10=hW g L / 10 ^ j % 10:=by
 rw [← tW_carry,← tW_hW g L (j+1) h]
 have e:hW g (L - (j+1))*10 ^ (j+1)+tW g L (j+1)=tW g L (j+1)+hW g (L - (j+1))*10*10 ^ j:=by
  rw [Nat.pow_succ,Nat.mul_comm (10 ^ j) 10,← Nat.mul_assoc]; omega
 rw [e,Nat.add_mul_div_right _ _ (Nat.pow_pos (by decide))]
 omega
theorem tW_next (g:Nat→Nat) (L j:Nat):(tW g L j / 10 ^ j+g (L - 1 - j)) / 10=tW g L (j+1) / 10 ^ (j+1):=by
 rw [← tW_carry,Nat.div_div_eq_div_mul,Nat.pow_succ]
theorem tW_le {g:Nat→Nat} {L M:Nat} (hg:∀ x,g x≤M):∀ j:Nat,tW g L j / 10 ^ j≤M
 | 0=>by simp [tW]
 | j+1=>by
  rw [← tW_next]
  have:=tW_le (L:=L) hg j
  have:=hg (L - 1 - j)
  omega
end Go.Ad
namespace Go.Ad
open Go.Lib (decDigits decFrom decNat digitVal nDigits itoa)
theorem bl_gen:∀ (s t:List UInt8) (p v w:Nat),s.length=t.length→decFrom p s=some v→decFrom p t=some w→Op.bytesLess s t=decide (v < w)
 | [],[],p,v,w,_,h1,h2=>by
  simp only [decFrom,Option.some.injEq] at h1 h2
  subst h1 h2
  simp [Op.bytesLess]
 | [],_ :: _,_,_,_,h,_,_=>by simp at h
 | _ :: _,[],_,_,_,h,_,_=>by simp at h
 | a :: s,b :: t,p,v,w,hl,h1,h2=>by
  simp only [decFrom] at h1 h2
  cases ha:digitVal a with
  | none=>rw [ha] at h1; cases h1
  | some d =>
   cases hb:digitVal b with
   | none=>rw [hb] at h2; cases h2
   | some e =>
    rw [ha] at h1
    rw [hb] at h2
    have hl':s.length=t.length:=by simpa using hl
    obtain ⟨i1,i2,_⟩:=cmp_gen s t _ _ v w hl' h1 h2
    obtain ⟨d1,d2,d3⟩:=digitVal_some ha
    obtain ⟨e1,e2,e3⟩:=digitVal_some hb
    show (decide (a < b) || (a == b && Op.bytesLess s t))=_
    rcases Nat.lt_trichotomy a.toNat b.toNat with h | h | h
    ·rw [decide_eq_true (UInt8.lt_iff_toNat_lt.2 h),decide_eq_true (i1 (by omega))]; rfl
    ·have hab:a=b:=UInt8.toNat_inj.1 h
     subst hab
     have hde:d=e:=by omega
     subst hde
     rw [bl_gen s t _ v w hl' h1 h2]
     have:¬ a < a:=fun hh=>Nat.lt_irrefl _ (UInt8.lt_iff_toNat_lt.1 hh)
     rw [decide_eq_false this]; simp
    ·have h3:¬ a < b:=fun hh=>by have:=UInt8.lt_iff_toNat_lt.1 hh; omega
     have h4:(a == b)=false:=by rw [beq_eq_false_iff_ne]; intro e; subst e; omega
     have h5:=i2 (by omega)
     rw [decide_eq_false h3,h4,decide_eq_false (show ¬ v < w by omega)]; rfl
theorem less_dec (V U:Nat):(decide ((decDigits V).length < (decDigits U).length) || (decide ((decDigits V).length=(decDigits U).length) && Op.bytesLess (decDigits V) (decDigits U)))=decide (V < U):=by
 rcases Nat.lt_trichotomy (decDigits V).length (decDigits U).length with h | h | h
 ·have:V < U:=by
   rcases Nat.lt_or_ge V U with h1 | h1
   ·exact h1
   ·have:=dec_len_mono h1; omega
  rw [decide_eq_true h,decide_eq_true this]; rfl
 ·rw [bl_gen _ _ 0 V U h (decFrom_dec V) (decFrom_dec U),decide_eq_true h,decide_eq_false (show ¬ (decDigits V).length < (decDigits U).length by omega)]; simp
 ·have:¬ V < U:=fun h1=>by have:=dec_len_mono (Nat.le_of_lt h1); omega
  rw [decide_eq_false (show ¬ (decDigits V).length < (decDigits U).length by omega),decide_eq_false (show ¬ (decDigits V).length=(decDigits U).length by omega),decide_eq_false this]; rfl
theorem itoaN (n:Nat):itoa (n:Int)=decDigits n:=by
 unfold itoa
 rw [if_neg (by omega),Int.toNat_natCast]
theorem digW_itoa (n:Nat):digW 0 (itoa (n:Int))=n:=by rw [itoaN,digW_dec]
theorem itoaN_all (n:Nat):(itoa (n:Int)).all isDg=true:=by rw [itoaN]; exact dec_all n
theorem itoaN_len {n k:Nat} (h:n < 10 ^ k) (hk:1≤k):(itoa (n:Int)).length≤k:=by
 rw [itoaN,Lib.decDigits_length]
 obtain ⟨m,rfl⟩:∃ m,k=m+1:=⟨k - 1,by omega⟩
 exact nDigits_le m n h
theorem itoaN_lt (n:Nat):n < 10 ^ (itoa (n:Int)).length:=by
 rw [itoaN,Lib.decDigits_length]
 exact Lib.lt_pow_nDigits n
theorem div_digit {A B d:Nat} (hB:0 < B) (hd:d < 10):(A*10+d) / B=A / B*10+(A % B*10+d) / B∧(A*10+d) % B=(A % B*10+d) % B∧(A % B*10+d) / B < 10:=by
 have h:=Nat.div_add_mod A B
 have e:A*10+d=(A % B*10+d)+B*(A / B*10):=by
  have:B*(A / B*10)=B*(A / B)*10:=by rw [Nat.mul_assoc]
  rw [this]; omega
 refine ⟨?_,?_,?_⟩
 ·rw [e,Nat.add_mul_div_left _ _ hB]; omega
 ·rw [e,Nat.add_mul_mod_self_left]
 ·have:=Nat.mod_lt A hB
  rw [Nat.div_lt_iff_lt_mul hB]
  omega
theorem pad_snoc {k Q q:Nat} (hq:q < 10):pad k Q++[UInt8.ofNat (48+q)]=pad (k+1) (Q*10+q):=by
 simp only [pad]
 rw [show (Q*10+q) / 10=Q by omega]
 congr 2
 unfold dig
 rw [show (Q*10+q) % 10=q by omega]
end Go.Ad
namespace Go.Ad
open Go.Lib (decDigits decFrom decNat digitVal nDigits itoa)
theorem pow10_succ (m k:Nat) (h:m=k+1):10 ^ m=10*10 ^ k:=by subst h; exact Nat.pow_succ'
theorem itoa_dig {c:Nat} (h:c < 10):itoa (c:Int)=[UInt8.ofNat (48+c)]:=by
 rw [itoaN,dec_small h]
 unfold dig
 rw [Nat.mod_eq_of_lt h]
end Go.Ad
