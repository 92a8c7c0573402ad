/- The fits' program: texts of fits are read back, plainly. -/
import Derived.Test.YtkfabaoichndpaaGreatDoorShelf2
import Derived.Lib.AtoiAll
import Derived.Lib.SmallJoins
import Derived.Test.YtkfabaoichndpaaGreatDoorShelf
import Derived.Test.YtkfabaoichndpaaGreatDoorAdPrim
noncomputable section
namespace Go.Proofs.Tryz
open Go.Ad
open Go.Lib (decDigits itoa nDigits decFrom digitVal atoiAll)
def G6m (h:Bool) (l g:Nat):Bool:=okS (X4 h l (5+g:Nat)) && (okG (X4 h l (5+g:Nat)) && ((A4i (X4 h l (5+g:Nat)) == h) && (decide (B0v (X4 h l (5+g:Nat))=l) && (decide (A1q (X4 h l (5+g:Nat))=(5+g:Nat)) &&
 (X4 h l (5+g:Nat)).all fun c=>!(c == 47) && !(c == 32)))))
theorem G4a:([false,true].all fun h=>(List.range 10).all fun l=>(List.range 8).all fun g=>G6m h l g)=true:=by kernel_rfl
theorem C8x {h:Bool} {l g:Int} (hc:inC l g=true):okS (X4 h l g)=true/\okG (X4 h l g)=true/\A4i (X4 h l g)=h/\B0v (X4 h l g)=l/\A1q (X4 h l g)=g/\(47:UInt8) ∉ X4 h l g/\(32:UInt8) ∉ X4 h l g:=by
 simp only [inC,Bool.and_eq_true,decide_eq_true_eq] at hc
 obtain ⟨k,rfl,hk⟩:∃ k:Nat,g=((5+k:Nat):Int)/\k < 8:=⟨(g - 5).toNat,by omega,by omega⟩
 obtain ⟨m,rfl,hm⟩:∃ m:Nat,l=(m:Int)/\m < 10:=⟨l.toNat,by omega,by omega⟩
 have hr:=List.all_eq_true.1 (List.all_eq_true.1 (List.all_eq_true.1 G4a h (by cases h <;> simp)) m (List.mem_range.2 hm)) k (List.mem_range.2 hk)
 unfold G6m at hr
 simp only [Bool.and_eq_true,beq_iff_eq,decide_eq_true_eq,List.all_eq_true,Bool.not_eq_true',beq_eq_false_iff_ne] at hr
 obtain ⟨a1,a2,a3,a4,a5,a6⟩:=hr
 exact ⟨a1,a2,a3,a4,a5,fun hm=>(a6 47 hm).1 rfl,fun hm=>(a6 32 hm).2 rfl⟩
end Go.Proofs.Tryz
namespace Go.Proofs.Tryz
open Go.Ad
open Go.Lib (decDigits itoa nDigits decFrom digitVal atoiAll parseUint10 parseMag)
theorem F4u (s:List UInt8) (acc:Nat):acc<=D8 acc s:=by
 rw [A8e]
 have:1<=10 ^ s.length:=Nat.one_le_pow _ _ (by decide)
 have:=Nat.le_mul_of_pos_right acc (show 0 < 10 ^ s.length by omega)
 omega
theorem E0j:∀ (s:List UInt8) (acc:Nat),s.all F5=true->D8 acc s < 10 ^ 18->parseUint10 acc s=.ok (D8 acc s)
 | [],_,_,_=>rfl
 | c :: r,acc,h,hl=>by
  rw [List.all_cons,Bool.and_eq_true] at h
  have hc:48<=c.toNat/\c.toNat<=57:=by simpa [F5] using h.1
  have hd:D8 acc (c :: r)=D8 (acc*10+(c.toNat - 48)) r:=rfl
  rw [hd] at hl ⊢
  have h1:=F4u r (acc*10+(c.toNat - 48))
  unfold parseUint10
  rw [if_pos hc,if_neg (by omega),if_neg (by omega)]
  exact E0j r _ h.2 hl
theorem C8z {s:List UInt8} (h0:s ≠ []) (h:s.all F5=true) (hl:s.length<=18):atoiAll s=.ok (D8 0 s):=by
 have h1:=A4u s h
 have h2:10 ^ s.length<=10 ^ 18:=Nat.pow_le_pow_right (by decide) hl
 have hm:parseMag s=.ok (D8 0 s):=by
  unfold parseMag
  rw [if_neg h0,E0j _ _ h (by omega)]
 cases s with
 | nil=>exact (h0 rfl).elim
 | cons c r =>
  rw [List.all_cons,Bool.and_eq_true] at h
  have hc:48<=c.toNat/\c.toNat<=57:=by simpa [F5] using h.1
  generalize D8 0 (c :: r)=X at *
  unfold atoiAll
  simp only
  rw [if_neg (by omega),hm]
  simp only
  rw [if_neg (by omega),if_neg (by omega),if_neg (by omega)]
theorem C1q {q:Nat} {c:UInt8} (h:F5 c=false):c ∉ itoa (q:Int):=fun hm=>by
 have:=List.all_eq_true.1 (O1 q) c hm
 rw [h] at this; cases this
theorem E7e {b:List UInt8} (hb:b.all F5=true) {c:UInt8} (h:F5 c=false):c ∉ b:=fun hm=>by
 have:=List.all_eq_true.1 hb c hm
 rw [h] at this; cases this
theorem E7j {n:Nat} {c:UInt8} (h:F5 c=false) (h2:c ≠ 46):c ∉ A4t n:=by
 have hb:=B4k (C7y (Nat.mod_lt n (show 0 < 1000 by decide)))
 unfold A4t
 intro hm
 rcases List.mem_append.1 hm with q | q
 ·exact C1q h q
 ·split at q
  ·cases q
  ·rcases List.mem_cons.1 q with e | e
   ·exact h2 e
   ·exact E7e hb h e
theorem E2x {c:UInt8} {s:List UInt8} (h:c ∉ s):J9 c s=(s,[],false):=by unfold J9; rw [X8 h]
theorem B2n {c:UInt8} {x y:List UInt8} (h:c ∉ x):J9 c (x++c :: y)=(x,y,true):=by unfold J9; rw [A5s h]
theorem E4y (n:Nat):(J9 46 (A4t n)).1=itoa ((n / 1000:Nat):Int)/\(J9 46 (A4t n)).2.1=U6 (b3 (n % 1000)):=by
 have hq:(46:UInt8) ∉ itoa ((n / 1000:Nat):Int):=C1q (by decide)
 unfold A4t
 by_cases h:U6 (b3 (n % 1000))=[]
 ·rw [if_pos h,List.append_nil,E2x hq,h]; exact ⟨rfl,rfl⟩
 ·rw [if_neg h,B2n hq]; exact ⟨rfl,rfl⟩
theorem D0v (a:Nat) (x y:List UInt8):D8 a (x++y)=D8 (D8 a x) y:=by unfold D8; rw [List.foldl_append]
theorem D0o (n:Nat):D8 0 (itoa ((n / 1000:Nat):Int)++b3 (n % 1000))=n:=by
 rw [D0v,K3,E8n (Nat.mod_lt n (by decide))]
 omega
theorem E3g (b:List UInt8):U6 b++List.replicate (b.length - (U6 b).length) 48=b:=by
 obtain ⟨j,h⟩:=A2o b
 have hl:=congrArg List.length h
 rw [List.length_append,List.length_replicate] at hl
 rw [show b.length - (U6 b).length=j by omega]
 exact h.symm
theorem E1g {n:Nat} (hn:n < 1000000):C3e (A4t n)=n:=by
 obtain ⟨e1,e2⟩:=E4y n
 have hl:=C1g (q:=n / 1000) (by omega)
 have ht:=C0l (b3 (n % 1000))
 have h3:(b3 (n % 1000)).length=3:=rfl
 have hf:=E3g (b3 (n % 1000))
 rw [h3] at hf
 have hall:(itoa ((n / 1000:Nat):Int)++b3 (n % 1000)).all F5=true:=by rw [List.all_append,O1,C7y (Nat.mod_lt n (by decide))]; rfl
 have ha:atoiAll (itoa ((n / 1000:Nat):Int)++b3 (n % 1000))=.ok (D8 0 (itoa ((n / 1000:Nat):Int)++b3 (n % 1000)):Nat):=C8z (by intro h; have:=congrArg List.length h; rw [List.length_append,h3] at this; simp at this) hall (by rw [List.length_append]; omega)
 rw [D0o] at ha
 unfold C3e
 rw [e1,e2,if_neg (by omega),if_neg (by omega),List.append_assoc,hf]
 have k1:aOk (itoa ((n / 1000:Nat):Int)++b3 (n % 1000))=true:=by unfold aOk; rw [ha]
 have k2:D5z (itoa ((n / 1000:Nat):Int)++b3 (n % 1000))=n:=by unfold D5z; rw [ha]
 rw [if_pos k1,k2]
theorem D7j:∀ (l:List UInt8) (i a:Nat),l.all F5=true->i+l.length<=9->whD l i a=some (D8 a l)
 | [],_,_,_,_=>rfl
 | c :: r,i,a,h,hl=>by
  rw [List.all_cons,Bool.and_eq_true] at h
  have hc:48<=c.toNat/\c.toNat<=57:=by simpa [F5] using h.1
  simp only [List.length_cons] at hl
  simp only [whD]
  rw [if_neg (by omega),D7j r (i+1) _ h.2 (by omega)]
  unfold D8
  rw [List.foldl_cons,Nat.mul_comm 10 a]
theorem F3x {n:Nat} (hn:n < 1000000):whZ (A4t n)=n:=by
 have hr:n % 1000 < 1000:=Nat.mod_lt _ (by decide)
 have hb:=C7y hr
 have hta:=B4k hb
 have htl:=C0l (b3 (n % 1000))
 have h3:(b3 (n % 1000)).length=3:=rfl
 have hdl:=C0u hn
 obtain ⟨h1,h2,h4⟩:=E8e (q:=n / 1000) (b:=U6 (b3 (n % 1000))) (u:=A4t n) hta rfl (by omega)
 have hv:A1p (A4t n)=(R3 ((D8 0 (itoa ((n / 1000:Nat):Int)++U6 (b3 (n % 1000))):Nat):Int) ((10 ^ (U6 (b3 (n % 1000))).length:Nat):Int),0):=by
  unfold A1p
  rw [if_neg (by rw [h1]; simp),h2,h4]; rfl
 obtain ⟨j,hj⟩:=A2o (b3 (n % 1000))
 generalize hA:D8 0 (itoa ((n / 1000:Nat):Int)++U6 (b3 (n % 1000)))=A at *
 have hlj:(U6 (b3 (n % 1000))).length+j=3:=by
  have:=congrArg List.length hj
  rw [List.length_append,List.length_replicate,h3] at this
  omega
 generalize (U6 (b3 (n % 1000))).length=k at *
 have hAj:A*10 ^ j=n:=by
  have h5:=D0o n
  rw [hj,<- List.append_assoc,D0v,hA,B8u] at h5
  exact h5
 have hBj:10 ^ k*10 ^ j=1000:=by rw [<- Nat.pow_add,hlj]
 have hg0:0 < Nat.gcd n 1000:=Nat.gcd_pos_of_pos_right _ (by decide)
 obtain ⟨N,hN⟩:=Nat.gcd_dvd_left n 1000
 obtain ⟨D,hD⟩:=Nat.gcd_dvd_right n 1000
 have hgc:Nat.gcd N D=1:=by
  have:=Nat.gcd_mul_left (Nat.gcd n 1000) N D
  rw [<- hN,<- hD] at this
  exact Nat.eq_of_mul_eq_mul_left hg0 (by rw [<- this,Nat.mul_one])
 generalize hG:Nat.gcd n 1000=G at *
 have hD0:0 < D:=Nat.pos_of_ne_zero fun h=>by subst h; omega
 have hAD:A*D=N*10 ^ k:=by
  have hp:0 < G*10 ^ j:=Nat.mul_pos hg0 (Nat.pow_pos (by decide))
  refine Nat.eq_of_mul_eq_mul_right hp ?_
  have e1:A*D*(G*10 ^ j)=A*10 ^ j*(G*D):=by
   rw [Nat.mul_assoc,Nat.mul_left_comm D,Nat.mul_comm D (10 ^ j),<- Nat.mul_assoc,<- Nat.mul_assoc,<- Nat.mul_assoc]
   rw [Nat.mul_right_comm A G (10 ^ j),Nat.mul_assoc]
  have e2:N*10 ^ k*(G*10 ^ j)=G*N*(10 ^ k*10 ^ j):=by
   rw [Nat.mul_mul_mul_comm,Nat.mul_comm N G]
  rw [e1,e2,hAj,hBj,<- hN,<- hD]
 have hq:Rq (A1p (A4t n)).1 N D:=by
  rw [hv]
  refine Rq.low ?_ (by omega) (by rw [Int.gcd_natCast_natCast]; exact hgc) ?_
  ·have:0 < 10 ^ k:=Nat.pow_pos (by decide)
   omega
  ·have:=congrArg (fun x:Nat=>(x:Int)) hAD
   simpa only [Int.natCast_mul] using this
 have ht:tms (A4t n)=itoa (n:Int):=by
  unfold tms
  rw [hq.n,hq.d,H1s.2.1,H1s.2.2,Int.mul_one]
  have hx:Rq (R3 ((N:Int)*1000) (D:Int)) (n:Int) 1:=by
   refine Rq.low (by omega) (by omega) Int.gcd_one ?_
   rw [Int.mul_one]
   have e3:N*1000=n*D:=by rw [hD,hN,Nat.mul_comm G N]; exact (Nat.mul_assoc N G D).symm
   have h6:((N*1000:Nat):Int)=((n*D:Nat):Int):=by rw [e3]
   rw [Int.natCast_mul,Int.natCast_mul] at h6
   exact h6
  rw [hx.1,<- (Rq.itoa (n:Int)).1]
 have hil:(itoa (n:Int)).length<=6:=by
  have:=U3 (show n < 10 ^ 6 by omega) (by decide)
  omega
 unfold whZ
 rw [if_neg (by rw [hv]; simp),ht,D7j _ _ _ (O1 n) (by omega),K3]; rfl
end Go.Proofs.Tryz
namespace Go.Proofs.Tryz
open Go.Ad
open Go.Lib (decDigits itoa nDigits decFrom digitVal)
section
variable (s:List UInt8)
def szT:List UInt8:=(J9 32 s).1
def reT:List UInt8:=(J9 32 s).2.1
def hoT:List UInt8:=(J9 47 (reT s)).1
def shT:List UInt8:=(J9 47 (reT s)).2.1
def ftT:Ft:=⟨C3e (szT s),A4i (hoT s),B0v (hoT s),A1q (hoT s),A4i (shT s),B0v (shT s),A1q (shT s)⟩
def B8m:Bool:=(okS (hoT s) && okG (hoT s)) && ((okS (shT s) && okG (shT s)) && (decide (I6 (ftT s)=0) && J8 (ftT s) == s))
end
def clC (s:List UInt8):List AV:=[.sbool (A4i s),.rng .i64 (B0v s) 0 9,.rng .i64 (A1q s) 5 12]
def zC:List AV:=[.bool false,.int .i64 0,.int .i64 0]
def eP (e:Int):Option AV:=some (.tuple [.agg (C8b 0),.int .i64 e])
abbrev B8c (s:List UInt8) (x:Ft) (cs:List AV):Option AV :=
 brK (decide (I6 x=0)) (brK (!(J8 x == s)) (eP 4) (some (.tuple [.agg (.sint .i64 x.n :: cs),.int .i64 0]))) (brK (I6 x != 0) (eP 4) (brK (!(([]:List UInt8) == s)) (eP 4) (some (.tuple [.agg (.sint .i64 x.n :: cs),.int .i64 0]))))
abbrev clK (t:List UInt8) (a b c:Option AV):Option AV:=brK (decide (t.length<=9223372036854775807)) (brK (okS t) (brK (okG t) a b) c) none
theorem G6a (s:List UInt8):(C9 prog pK3 60).call 9 [.sstr s] (Bg 8) G9 =
  brK (decide ((s.length:Int) > 4096)) (eP 17) (brK (F4 s) (brK (F4 (reT s)) (brK (F4 (szT s)) (clK (hoT s) (clK (shT s) (B8c s (ftT s) (clC (hoT s)++clC (shT s))) (eP 4) (eP 4)) (clK (shT s) (eP 4) (eP 4) (eP 4)) (clK (shT s) (eP 4) (eP 4) (eP 4))) none) none) none):=by kernel_rfl
def ftR (s:List UInt8) (a b:Bool):Ft :=
 ⟨whZ (szT s),bif a then A4i (hoT s) else false,bif a then B0v (hoT s) else 0,bif a then A1q (hoT s) else 0,bif b then A4i (shT s) else false,bif b then B0v (shT s) else 0,bif b then A1q (shT s) else 0⟩
def ceR (t:List UInt8) (a:Bool):List AV:=match a with
 | true=>clC t
 | false=>zC
abbrev shR (s:List UInt8) (a:Bool):Option AV:=clK (shT s) (B8c s (ftR s a true) (ceR (hoT s) a++ceR (shT s) true)) (B8c s (ftR s a false) (ceR (hoT s) a++ceR (shT s) false)) (B8c s (ftR s a false) (ceR (hoT s) a++ceR (shT s) false))
theorem G4v (s:List UInt8):(C9 prog pK3 60).call 10 [.sstr s] (Bg 8) G9 =
  brK (decide ((s.length:Int) > 4096)) (eP 17) (brK (A9 ((32:Int)=((byteOf 32).toNat:Int)/\F4 s=true)) (brK (A9 ((47:Int)=((byteOf 47).toNat:Int)/\F4 (reT s)=true)) (brK (F4 (szT s)) (clK (hoT s) (shR s true) (shR s false) (shR s false)) none) none) none):=by kernel_rfl
theorem B7a (c:UInt8) (s:List UInt8):(J9 c s).1.length<=s.length/\(J9 c s).2.1.length<=s.length:=by
 unfold J9
 cases h:cutAt c s with
 | none=>exact ⟨Nat.le_refl _,Nat.zero_le _⟩
 | some p =>
  obtain ⟨x,y⟩:=p
  have:=congrArg List.length (A7i h).1
  rw [List.length_append,List.length_cons] at this
  exact ⟨by simp only; omega,by simp only; omega⟩
structure Back (x:Ft) (s:List UInt8):Prop where
 ft:ftT s=x
 fr:ftR s true true=x
 ok:(okS (hoT s) && okG (hoT s))=true/\(okS (shT s) && okG (shT s))=true
theorem back {x:Ft} (h:I6 x=0):Back x (J8 x):=by
 obtain ⟨hn,i1,i2,_,_⟩:=B6y h
 obtain ⟨n,hx⟩:∃ n:Nat,x.n=n:=⟨x.n.toNat,by omega⟩
 obtain ⟨a1,a2,a3,a4,a5,a6,a7⟩:=C8x (h:=x.h) i1
 obtain ⟨c1,c2,c3,c4,c5,c6,c7⟩:=C8x (h:=x.h') i2
 have ht:J8 x=A4t n++32 :: (X4 x.h x.m x.g++47 :: X4 x.h' x.m' x.g'):=by
  unfold J8
  rw [hx,Int.toNat_natCast]
  simp
 have hd:(32:UInt8) ∉ A4t n:=E7j (by decide) (by decide)
 have e1:szT (J8 x)=A4t n:=by unfold szT; rw [ht,B2n hd]
 have e2:reT (J8 x)=X4 x.h x.m x.g++47 :: X4 x.h' x.m' x.g':=by unfold reT; rw [ht,B2n hd]
 have e3:hoT (J8 x)=X4 x.h x.m x.g:=by unfold hoT; rw [e2,B2n a6]
 have e4:shT (J8 x)=X4 x.h' x.m' x.g':=by unfold shT; rw [e2,B2n a6]
 refine ⟨?_,?_,?_⟩
 ·unfold ftT
  rw [e1,e3,e4,E1g (by omega),a3,a4,a5,c3,c4,c5,<- hx]
 ·unfold ftR
  simp only [cond_true]
  rw [e1,e3,e4,F3x (by omega),a3,a4,a5,c3,c4,c5,<- hx]
 ·rw [e3,e4,a1,a2,c1,c2]; exact ⟨rfl,rfl⟩
theorem B7n (s:List UInt8):B8m s=true ↔ ∃ x,I6 x=0/\J8 x=s:=by
 constructor
 ·intro h
  unfold B8m at h
  simp only [Bool.and_eq_true,decide_eq_true_eq,beq_iff_eq] at h
  exact ⟨_,h.2.2.1,h.2.2.2⟩
 ·rintro ⟨x,h1,rfl⟩
  obtain ⟨b1,_,b3,b4⟩:=back h1
  unfold B8m
  rw [b1,b3,b4,dT h1]
  simp
def B1z (s:List UInt8):Int:=if s.length > 4096 then 17 else 4
def D6a (s:List UInt8):AV:=.tuple [.agg (ftT s).av,.int .i64 0]
def A5p (s:List UInt8):Bool:=decide (s.length<=4096) && B8m s
theorem F8b {ι:Emb} {n:Int} {a b:List UInt8} (x:Value) (h:VR ι (.tuple [.agg (.sint .i64 n :: (clC a++clC b)),.int .i64 0]) x):VR ι (.tuple [.agg (Ft.av ⟨n,A4i a,B0v a,A1q a,A4i b,B0v b,A1q b⟩),.int .i64 0]) x:=by
 simp only [clC,Ft.av,List.cons_append,List.nil_append,VR,VRL] at h ⊢
 obtain ⟨ys,e1,z,zs,e2,⟨ws,e3,w1,l1,f1,r1,w2,l2,f2,r2,w3,l3,f3,r3,w4,l4,f4,r4,w5,l5,f5,r5,w6,l6,f6,r6,w7,l7,f7,r7,r12⟩,h4⟩:=h
 exact ⟨ys,e1,z,zs,e2,⟨ws,e3,w1,l1,f1,r1,w2,l2,f2,r2,w3,l3,f3,r3.1,w4,l4,f4,r4.1,w5,l5,f5,r5,w6,l6,f6,r6.1,w7,l7,f7,r7.1,r12⟩,h4⟩
theorem C5j {s:List UInt8} {x:Ft} {cs:List AV}:B8c s x cs=if I6 x=0/\J8 x=s then some (.tuple [.agg (.sint .i64 x.n :: cs),.int .i64 0]) else eP 4:=by
 unfold B8c
 by_cases h1:I6 x=0
 ·rw [dT h1]
  by_cases h2:J8 x=s
  ·rw [if_pos ⟨h1,h2⟩,show (J8 x == s)=true by rw [beq_iff_eq]; exact h2]; rfl
  ·rw [if_neg (fun h=>h2 h.2),show (J8 x == s)=false by rw [beq_eq_false_iff_ne]; exact h2]; rfl
 ·rw [dF h1,if_neg (fun h=>h1 h.1),show (I6 x != 0)=true by rw [bne_iff_ne]; exact h1]; rfl
theorem B5f {t:List UInt8} {a b c:Option AV} (h:t.length<=9223372036854775807):clK t a b c=bif okS t then (bif okG t then a else b) else c:=by
 unfold clK
 rw [dT h]
 cases okS t <;> cases okG t <;> rfl
theorem B9u {e:Int}:∃ v',eP e=some v'/\below 0 v'=true/\∀ (ι:Emb) x,VR ι v' x->VR ι (.tuple [.agg (C8b 0),.sint .i64 e]) x:=⟨_,rfl,rfl,fun _ _ h=>h⟩
theorem G6x {s:List UInt8} (hz:F4 s=true):∃ v',(C9 prog pK3 60).call 9 [.sstr s] (Bg 8) G9=some v'/\below 0 v'=true/\∀ ι x,VR ι v' x->VR ι (if A5p s=true then D6a s else .tuple [.agg (C8b 0),.sint .i64 (B1z s)]) x:=by
 have hs:s.length < 2 ^ 62:=of_decide_eq_true hz
 have l1:=B7a 32 s
 have l2:=B7a 47 (reT s)
 have z1:F4 (reT s)=true:=dT (Nat.lt_of_le_of_lt l1.2 hs)
 have z2:F4 (szT s)=true:=dT (Nat.lt_of_le_of_lt l1.1 hs)
 have l3:(reT s).length<=s.length:=l1.2
 have k1:(hoT s).length<=9223372036854775807:=Nat.le_trans l2.1 (by omega)
 have k2:(shT s).length<=9223372036854775807:=Nat.le_trans l2.2 (by omega)
 rw [G6a]
 unfold A5p B1z
 by_cases hl:s.length > 4096
 ·rw [dT (show (s.length:Int) > 4096 by omega),dF (show ¬ s.length<=4096 by omega),if_pos hl]
  exact ⟨_,rfl,rfl,fun ι x h=>h⟩
 rw [dF (show ¬ (s.length:Int) > 4096 by omega),dT (show s.length<=4096 by omega),if_neg hl,hz,z1,z2,brF,brT,brT,brT,B5f k1,B5f k2,B5f k2,C5j]
 unfold B8m
 cases okS (hoT s) <;> cases okG (hoT s) <;> cases okS (shT s) <;> cases okG (shT s)
 case true.true.true.true =>
  simp only [cond_true,Bool.true_and]
  by_cases hc:I6 (ftT s)=0/\J8 (ftT s)=s
  ·rw [if_pos hc,if_pos (by simp [hc.1,hc.2])]
   exact ⟨_,rfl,rfl,fun ι x h=>F8b x h⟩
  ·rw [if_neg hc,if_neg (by simp only [Bool.and_eq_true,decide_eq_true_eq,beq_iff_eq]; exact hc)]
   exact B9u
 all_goals exact B9u
theorem E6c {s:List UInt8} {a b:Bool} (h:a=false \/ b=false):I6 (ftR s a b) ≠ 0:=fun he=>by
 obtain ⟨_,i1,i2,_⟩:=B6y he
 rcases h with rfl | rfl
 ·have:inC (ftR s false b).m (ftR s false b).g=false:=rfl
  rw [this] at i1; cases i1
 ·have:inC (ftR s a false).m' (ftR s a false).g'=false:=rfl
  rw [this] at i2; cases i2
theorem H0s {s:List UInt8} (hz:F4 s=true):∃ v',(C9 prog pK3 60).call 10 [.sstr s] (Bg 8) G9=some v'/\below 0 v'=true/\∀ ι x,VR ι v' x->VR ι (if A5p s=true then D6a s else .tuple [.agg (C8b 0),.sint .i64 (B1z s)]) x:=by
 have hs:s.length < 2 ^ 62:=of_decide_eq_true hz
 have l1:=B7a 32 s
 have l2:=B7a 47 (reT s)
 have z1:F4 (reT s)=true:=dT (Nat.lt_of_le_of_lt l1.2 hs)
 have z2:F4 (szT s)=true:=dT (Nat.lt_of_le_of_lt l1.1 hs)
 have l3:(reT s).length<=s.length:=l1.2
 have k1:(hoT s).length<=9223372036854775807:=Nat.le_trans l2.1 (by omega)
 have k2:(shT s).length<=9223372036854775807:=Nat.le_trans l2.2 (by omega)
 rw [G4v]
 unfold A5p B1z
 by_cases hl:s.length > 4096
 ·rw [dT (show (s.length:Int) > 4096 by omega),dF (show ¬ s.length<=4096 by omega),if_pos hl]
  exact ⟨_,rfl,rfl,fun ι x h=>h⟩
 have bad:∀ (a b:Bool) (cs:List AV),(a=false \/ b=false)->B8c s (ftR s a b) cs=eP 4:=fun a b cs h=>by rw [C5j,if_neg (fun h2=>E6c h h2.1)]
 rw [dF (show ¬ (s.length:Int) > 4096 by omega),dT (show s.length<=4096 by omega),if_neg hl,A8 ⟨by decide,hz⟩,A8 ⟨by decide,z1⟩,z2,brF,brT,brT,brT,B5f k1]
 unfold shR
 rw [B5f k2,B5f k2,bad true false _ (.inr rfl),bad false true _ (.inl rfl),bad false false _ (.inl rfl)]
 have hacc:(okS (hoT s) && okG (hoT s))=false \/ (okS (shT s) && okG (shT s))=false->B8m s=false:=fun h=>by
  unfold B8m
  rcases h with h | h
  ·rw [h]; rfl
  ·rw [h]; simp
 cases h1:okS (hoT s) with
 | false=>rw [hacc (by rw [h1]; exact .inl rfl)]; cases okS (shT s) <;> cases okG (shT s) <;> exact B9u
 | true =>
  cases h2:okG (hoT s) with
  | false=>rw [hacc (by rw [h1,h2]; exact .inl rfl)]; cases okS (shT s) <;> cases okG (shT s) <;> exact B9u
  | true =>
   cases h3:okS (shT s) with
   | false=>rw [hacc (by rw [h3]; exact .inr rfl)]; cases okG (shT s) <;> exact B9u
   | true =>
    cases h4:okG (shT s) with
    | false=>rw [hacc (by rw [h3,h4]; exact .inr rfl)]; exact B9u
    | true =>
     simp only [cond_true,Bool.true_and]
     rw [C5j]
     by_cases hc:I6 (ftR s true true)=0/\J8 (ftR s true true)=s
     ·have hb:=back hc.1
      rw [hc.2] at hb
      have ha:B8m s=true:=(B7n s).2 ⟨_,hc⟩
      rw [if_pos hc,if_pos ha]
      refine ⟨_,rfl,rfl,fun ι x h=>?_⟩
      have h5:=F8b (ι:=ι) (n:=(ftR s true true).n) (a:=hoT s) (b:=shT s) x h
      unfold D6a
      rw [hb.ft]
      exact h5
     ·have ha:B8m s=false:=by
       cases hq:B8m s with
       | false=>rfl
       | true =>
        obtain ⟨y,y1,y2⟩:=(B7n s).1 hq
        have hb:=back y1
        rw [y2] at hb
        exact absurd (by rw [hb.fr]; exact ⟨y1,y2⟩) hc
      rw [if_neg hc,ha]
      exact B9u
def F3v:List AV->Tr AV
 | [x]=>match sstr? x with
  | some s=>.br (F4 s) (.br (A5p s) (.leaf (D6a s)) (.leaf (.tuple [.agg (C8b 0),.sint .i64 (B1z s)]))) .fail
  | none=>.fail
 | _=>.fail
def pK4:Prims:=(pK3.addt 9 F3v).addt 10 F3v
theorem E5w {A:Amb} (hT:Tab A) (hE:TabE A) (hR:TabR A) (hG:gN prog<=A.G):PrimOK prog A pK4:=by
 have h0:=E6l hT hE hR hG
 have key:∀ f:FuncId,(∀ s,F4 s=true->∃ v',(C9 prog pK3 60).call f [.sstr s] (Bg 8) G9=some v'/\below 0 v'=true/\∀ ι x,VR ι v' x->VR ι (if A5p s=true then D6a s else .tuple [.agg (C8b 0),.sint .i64 (B1z s)]) x) ->
   ∀ args v,(F3v args).get=some v->∃ prims0 args' v' B',PrimOK prog A prims0/\(∀ (ι:Emb) (xs:List Value),VRL ι args xs->VRL ι args' xs)/\(∀ (ι:Emb) (x:Value),VR ι v' x->VR ι v x)/\H6 0 args'=true/\below 0 v'=true /\
    Ca prog prims0 f args' (Bg (gN prog)) (v',B',[]):=by
  intro f hr args v hv
  unfold F3v at hv
  split at hv
  ·rename_i x
   split at hv
   ·rename_i s hs
    obtain ⟨hz,hv⟩:=Tr.br1 hv
    obtain ⟨v',q1,q2,q3⟩:=hr s hz
    have hvv:v=if A5p s=true then D6a s else .tuple [.agg (C8b 0),.sint .i64 (B1z s)]:=by
     cases hb:A5p s with
     | true=>rw [hb] at hv; cases hv; rfl
     | false=>rw [hb] at hv; cases hv; rfl
    rw [<- gsz] at q1
    obtain ⟨B',hca⟩:=Ca.of_finV q1
    refine ⟨pK3,_,v',B',h0,fun ι xs hx=>?_,fun ι x h=>by rw [hvv]; exact q3 ι x h,rfl,q2,hca⟩
    simp only [VRL] at hx ⊢
    obtain ⟨y,r,e1,h1,h2⟩:=hx
    exact ⟨y,r,e1,by simp only [VR]; exact K5 hs h1,h2⟩
   ·cases hv
  ·cases hv
 exact PrimOK.addt3 D6 D7 (PrimOK.addt3 D6 D7 h0 hG func9 (by kernel_rfl) (key 9 fun s hz=>G6x hz)) hG func10 (by kernel_rfl) (key 10 fun s hz=>H0s hz)
end Go.Proofs.Tryz
namespace Go.Proofs.Tryz
open Go.Ad
open Go.Lib (decDigits itoa nDigits decFrom digitVal)
def xA:Ft:=⟨25000,true,4,7,false,3,6⟩
def xB:Ft:=⟨25000,true,4,7,false,8,6⟩
def xC:Ft:=⟨25000,true,3,6,false,4,7⟩
def txA:List UInt8:=[50,53,32,72,55,47,103,54]
def txB:List UInt8:=[50,53,32,72,55,47,110,54]
def txC:List UInt8:=[50,53,32,71,54,47,104,55]
def B6q:List AV:=[.int .i64 25000,.bool true,.int .i64 4,.int .i64 7,.bool false,.int .i64 3,.int .i64 6]
def E1e:List AV:=[.int .i64 25000,.bool true,.int .i64 4,.int .i64 7,.bool false,.int .i64 8,.int .i64 6]
def F6e:List AV:=[.int .i64 25000,.bool true,.int .i64 3,.int .i64 6,.bool false,.int .i64 4,.int .i64 7]
theorem F5d {n:Nat} (h:n < 100) (h2:10<=n):itoa (n:Int)=[UInt8.ofNat (48+n / 10),UInt8.ofNat (48+n % 10)]:=by
 rw [A0t,A0j (by omega),M3 (by omega)]
 unfold dig
 rw [Nat.mod_eq_of_lt (show n / 10 < 10 by omega)]
 rfl
theorem F2a:A4t 25000=[50,53]:=by
 unfold A4t
 rw [if_pos (by decide)]
 show itoa ((25:Nat):Int)++[]=_
 rw [F5d (n:=25) (by decide) (by decide)]
 rfl
theorem H1f:I6 xA=0:=of_decide_eq_true (by kernel_rfl)
theorem H1k:I6 xB=0:=of_decide_eq_true (by kernel_rfl)
theorem G5e:I6 xC=0:=of_decide_eq_true (by kernel_rfl)
theorem G8q:J8 xA=txA:=by
 unfold J8
 rw [show xA.n.toNat=25000 from rfl,F2a]; rfl
theorem G6k:J8 xB=txB:=by
 unfold J8
 rw [show xB.n.toNat=25000 from rfl,F2a]; rfl
theorem G8g:J8 xC=txC:=by
 unfold J8
 rw [show xC.n.toNat=25000 from rfl,F2a]; rfl
theorem PrimOK.addtab3 {A:Amb} {prims:Prims} (hp:PrimOK prog A prims) (hG:gN prog<=A.G) {f:FuncId} {tab:List (List AV × AV)} {fn:Func}
  (hf:prog.funcs[f]?=some fn) (hc:fn.body.isSome=true)
  (h:∀ p,p ∈ tab->∃ prims0 args' v',PrimOK prog A prims0/\H6 0 args'=true/\below 0 v'=true/\(∀ (ι:Emb) xs,VRL ι p.1 xs->VRL ι args' xs)/\(∀ (ι:Emb) x,VR ι v' x->VR ι p.2 x)/\∃ n,(C9 prog prims0 n).call f args' (Bg (gN prog)) G9=some v'):PrimOK prog A (prims.addt f (B6l tab)):=by
 refine PrimOK.addt3 D6 D7 hp hG hf hc fun args v hv=>?_
 unfold B6l at hv
 split at hv
 ·rename_i p hfind
  cases hv
  obtain ⟨prims0,args',v',hp0,h1,h2,h5,h4,n,h3⟩:=h p (List.mem_of_find?_eq_some hfind)
  have he:=A2k (by simpa using List.find?_some hfind:A5r p.1 args=true)
  obtain ⟨B',hca⟩:=Ca.of_finV h3
  exact ⟨prims0,args',v',B',hp0,fun ι xs hx=>h5 ι xs (by rw [he]; exact hx),h4,h1,h2,hca⟩
 ·cases hv
def G9f:List (List AV × AV):=[([.str txA],.tuple [.agg B6q,.int .i64 0]),([.str txB],.tuple [.agg E1e,.int .i64 0])]
def G7s:List (List AV × AV):=[([.agg F6e],.tuple [.str txC,.int .i64 0])]
def G7g:AV:=.tuple [.agg [.int .i64 25000,.int .i64 25021],.agg [.int .i64 24980,.int .i64 24993],.int .i64 0]
def H0b:List (List AV × AV):=[([.agg B6q],G7g)]
def G9s:List (List AV × AV):=[([.agg B6q],.tuple [.agg [.int .i64 7,.int .i64 41],.int .i64 0]),([.agg E1e],.tuple [.agg [.int .i64 (-32),.int .i64 2],.int .i64 0])]
def G8j:List (List AV × AV):=[([.agg B6q],.tuple [.int .i64 0,.int .i64 0]),([.agg E1e],.tuple [.int .i64 1,.int .i64 0])]
def G7f:List (List AV × AV):=[([.agg B6q],.tuple [.agg F6e,.int .i64 0])]
def H0d:List (List AV × AV):=[([.agg B6q,.int .i64 25010,.int .i64 24990],.tuple [.int .i64 20,.bool true,.int .i64 0])]
def K4 (r:Option AV) (v:AV):Bool:=match r with
 | some x=>A5r [x] [v]
 | none=>false
theorem A9f {r:Option AV} {v:AV} (h:K4 r v=true):r=some v:=by
 unfold K4 at h
 split at h
 ·have:=A2k h
  cases this
  rfl
 ·cases h
theorem H1b:K4 ((C9 prog lib 400).call 11 [.agg B6q] (Bg 8) G9) G7g=true:=by kernel_rfl
theorem G9a:K4 ((C9 prog lib 400).call 12 [.agg B6q] (Bg 8) G9) (.tuple [.agg [.int .i64 7,.int .i64 41],.int .i64 0])=true:=by kernel_rfl
theorem G5n:K4 ((C9 prog lib 400).call 12 [.agg E1e] (Bg 8) G9) (.tuple [.agg [.int .i64 (-32),.int .i64 2],.int .i64 0])=true:=by kernel_rfl
theorem G9r:K4 ((C9 prog lib 400).call 13 [.agg B6q] (Bg 8) G9) (.tuple [.int .i64 0,.int .i64 0])=true:=by kernel_rfl
theorem G5z:K4 ((C9 prog lib 400).call 13 [.agg E1e] (Bg 8) G9) (.tuple [.int .i64 1,.int .i64 0])=true:=by kernel_rfl
theorem H1e:K4 ((C9 prog lib 400).call 14 [.agg B6q] (Bg 8) G9) (.tuple [.agg F6e,.int .i64 0])=true:=by kernel_rfl
theorem H0z:K4 ((C9 prog lib 400).call 15 [.agg B6q,.int .i64 25010,.int .i64 24990] (Bg 8) G9) (.tuple [.int .i64 20,.bool true,.int .i64 0])=true:=by kernel_rfl
theorem E9o {ι:Emb} {n:Int} {h:Bool} {m g:Int} {h':Bool} {m' g':Int} (x:Value) (hx:VR ι (.tuple [.agg (Ft.av ⟨n,h,m,g,h',m',g'⟩),.int .i64 0]) x) :
  VR ι (.tuple [.agg [.int .i64 n,.bool h,.int .i64 m,.int .i64 g,.bool h',.int .i64 m',.int .i64 g'],.int .i64 0]) x:=by
 simp only [Ft.av,VR,VRL] at hx ⊢
 exact hx
def pA:Prims:=((((((lib.addt 9 (B6l G9f)).addt 6 (B6l G7s)).addt 11 (B6l H0b)).addt 12 (B6l G9s)).addt 13 (B6l G8j)).addt 14 (B6l G7f)).addt 15 (B6l H0d)
theorem E6g:(C9 prog pA 400).call 5 [] (Bg 8) G9=some (.bool true):=by kernel_rfl
theorem G9q {s:List UInt8} {x:Ft} {v:AV} (he:I6 x=0) (ht:J8 x=s) (hz:F4 s=true) (hl:s.length<=4096) (hv:∀ ι y,VR ι (.tuple [.agg x.av,.int .i64 0]) y->VR ι v y) :
  ∃ v',(C9 prog pK3 60).call 9 [.sstr s] (Bg 8) G9=some v'/\below 0 v'=true/\∀ ι y,VR ι v' y->VR ι v y:=by
 obtain ⟨v',q1,q2,q3⟩:=G6x hz
 have hb:=back he
 rw [ht] at hb
 have hp:A5p s=true:=by
  unfold A5p
  rw [dT hl,(B7n s).2 ⟨x,he,ht⟩]; rfl
 refine ⟨v',q1,q2,fun ι y hy=>hv ι y ?_⟩
 have:=q3 ι y hy
 rw [if_pos hp] at this
 unfold D6a at this
 rw [hb.ft] at this
 exact this
theorem H0m {A:Amb} (hT:Tab A) (hE:TabE A) (hR:TabR A) (hG:gN prog<=A.G):PrimOK prog A pA:=by
 have h0:=D5u hT
 have hk:=E6l hT hE hR hG
 have hc:=D7z hT hG
 have nat:∀ {f:FuncId} {args:List AV} {v:AV},H6 0 args=true->below 0 v=true->K4 ((C9 prog lib 400).call f args (Bg 8) G9) v=true->∃ prims0 args' v',PrimOK prog A prims0/\H6 0 args'=true/\below 0 v'=true/\(∀ (ι:Emb) xs,VRL ι args xs->VRL ι args' xs)/\(∀ (ι:Emb) x,VR ι v' x->VR ι v x)/\∃ n,(C9 prog prims0 n).call f args' (Bg (gN prog)) G9=some v':=fun h1 h2 h3 =>
  ⟨lib,_,_,h0,h1,h2,fun _ _ h=>h,fun _ _ h=>h,400,by rw [gsz]; exact A9f h3⟩
 refine PrimOK.addtab3 (PrimOK.addtab3 (PrimOK.addtab3 (PrimOK.addtab3 (PrimOK.addtab3 (PrimOK.addtab3 (PrimOK.addtab3 h0 hG func9 (by kernel_rfl) ?_) hG func6 (by kernel_rfl) ?_) hG func11 (by kernel_rfl) ?_) hG func12 (by kernel_rfl) ?_) hG func13 (by kernel_rfl) ?_) hG func14 (by kernel_rfl) ?_) hG func15 (by kernel_rfl) ?_
 ·intro p hp
  simp only [G9f,List.mem_cons,List.not_mem_nil,or_false] at hp
  have vs:∀ (s:List UInt8) (ι:Emb) xs,VRL ι [.str s] xs->VRL ι [.sstr s] xs:=fun s ι xs h=>by simpa only [VRL,VR] using h
  rcases hp with rfl | rfl
  ·obtain ⟨v',q1,q2,q3⟩:=G9q (v:=.tuple [.agg B6q,.int .i64 0]) H1f G8q (by decide) (by decide) (fun ι y h=>E9o y h)
   exact ⟨pK3,[.sstr txA],v',hk,rfl,q2,vs _,q3,60,by rw [gsz]; exact q1⟩
  ·obtain ⟨v',q1,q2,q3⟩:=G9q (v:=.tuple [.agg E1e,.int .i64 0]) H1k G6k (by decide) (by decide) (fun ι y h=>E9o y h)
   exact ⟨pK3,[.sstr txB],v',hk,rfl,q2,vs _,q3,60,by rw [gsz]; exact q1⟩
 ·intro p hp
  simp only [G7s,List.mem_cons,List.not_mem_nil,or_false] at hp
  subst hp
  obtain ⟨c1,c2,c3,c4⟩:=C7k G5e
  refine ⟨pC3b,[.agg xC.av],.tuple [.sstr (J8 xC),.int .i64 0],hc,rfl,rfl,fun ι xs h=>?_,fun ι x h=>?_,60,?_⟩
  ·simp only [F6e,xC,Ft.av,VRL,VR] at h ⊢; exact h
  ·rw [G8g] at h; simpa only [VRL,VR] using h
  ·rw [gsz,F7y,dT G5e,A8 ⟨c2,⟨by omega,by omega⟩,by omega⟩,dT c3,c4,c1]; rfl
 ·intro p hp
  simp only [H0b,List.mem_cons,List.not_mem_nil,or_false] at hp
  subst hp
  exact nat rfl rfl H1b
 ·intro p hp
  simp only [G9s,List.mem_cons,List.not_mem_nil,or_false] at hp
  rcases hp with rfl | rfl
  ·exact nat rfl rfl G9a
  ·exact nat rfl rfl G5n
 ·intro p hp
  simp only [G8j,List.mem_cons,List.not_mem_nil,or_false] at hp
  rcases hp with rfl | rfl
  ·exact nat rfl rfl G9r
  ·exact nat rfl rfl G5z
 ·intro p hp
  simp only [G7f,List.mem_cons,List.not_mem_nil,or_false] at hp
  subst hp
  exact nat rfl rfl H1e
 ·intro p hp
  simp only [H0d,List.mem_cons,List.not_mem_nil,or_false] at hp
  subst hp
  exact nat rfl rfl H0z
def C4o (prims:Prims):Prims:=prims.addt 5 (B6l [([],.bool true)])
theorem B3u {A:Amb} (hT:Tab A) (hE:TabE A) (hR:TabR A) (hG:gN prog<=A.G) {prims:Prims} (hp:PrimOK prog A prims):PrimOK prog A (C4o prims):=by
 refine PrimOK.addtab D6 D7 (H0m hT hE hR hG) hp hG func5 (by kernel_rfl) fun p hp=>?_
 simp only [List.mem_cons,List.not_mem_nil,or_false] at hp
 subst hp
 exact ⟨rfl,rfl,400,by rw [gsz]; exact E6g⟩
end Go.Proofs.Tryz
namespace Go.Proofs.Tryz
open Go.Ad
open Go.Lib (decDigits itoa nDigits decFrom digitVal)
theorem tab_laid {W:World} {a b:String × DataW Unit} {r:List (String × DataW Unit)} (h:laidMet prog (a :: b :: ("internal/strconv.uint64pow10",Lib.tabData .u64 Lib.pow10Tab) :: r) W) :
  Lib.TabIs prog W "internal/strconv.uint64pow10" .u64 Lib.pow10Tab :=
 Lib.tabIs_of_head (g:=6) (t:=252) (e:=199) (n:=20) (by kernel_rfl) (by kernel_rfl) (by kernel_rfl) (by kernel_rfl) (by kernel_rfl) (by kernel_rfl) (J5 (J5 h))
theorem tabE_of {W:World} {a b c d e:String × DataW Unit} {n:String} {x:DataW Unit} {r:List (String × DataW Unit)} (hG:gN prog<=W.heap.size) (h:laidMet prog (a :: b :: c :: d :: e :: ("strconv.ErrSyntax",.iface n x) :: r) W):TabE (ambOf W):=fun w hw=>by
 obtain ⟨tp,p,hc⟩:=B0t (g:=2) (t:=96) (ms:=#[("Error",102)]) (by kernel_rfl) (by kernel_rfl) (by kernel_rfl) (J5 (J5 (J5 (J5 (J5 h)))))
 have h2:2 < W.heap.size:=Nat.lt_of_lt_of_le (by rw [gsz]; omega) hG
 refine ⟨tp,p,?_⟩
 have e2:w.heap[2]?=W.heap[2]?:=hw 2 h2
 unfold World.cell? at hc ⊢
 rw [<- hc]
 simp only [e2]
theorem tabR_of {W:World} {a b c d:String × DataW Unit} {n:String} {x:DataW Unit} {r:List (String × DataW Unit)} (hG:gN prog<=W.heap.size) (h:laidMet prog (a :: b :: c :: d :: ("strconv.ErrRange",.iface n x) :: r) W):TabR (ambOf W):=fun w hw=>by
 obtain ⟨tp,p,hc⟩:=B0t (g:=3) (t:=96) (ms:=#[("Error",102)]) (by kernel_rfl) (by kernel_rfl) (by kernel_rfl) (J5 (J5 (J5 (J5 h))))
 have h2:3 < W.heap.size:=Nat.lt_of_lt_of_le (by rw [gsz]; omega) hG
 refine ⟨tp,p,?_⟩
 have e2:w.heap[3]?=W.heap[3]?:=hw 3 h2
 unfold World.cell? at hc ⊢
 rw [<- hc]
 simp only [e2]
abbrev pLw:Prims:=C4o pK4
def eqF (a b:Ft):Bool:=a.n == b.n && ((a.h == b.h && (a.m == b.m && (a.g == b.g && true))) && ((a.h' == b.h' && (a.m' == b.m' && (a.g' == b.g' && true))) && true))
theorem B9o (a:Ft):eqF a a=true:=by simp [eqF]
def ftZ:Ft:=⟨0,false,0,0,false,0,0⟩
def qF (s:List UInt8) (a b:Bool):Option Unit:=match a,b with
 | true,true=>brK (eqF (ftT s) (ftT s)) (some ()) none
 | true,false=>brK (eqF (ftT s) ftZ) (brK (0 == B1z s) (some ()) none) none
 | false,true=>brK (eqF ftZ (ftT s)) (brK (B1z s == 0) (some ()) none) none
 | false,false=>brK (B1z s == B1z s) (some ()) none
def qX (x:Ft) (a b:Bool) (k:Option Unit):Option Unit:=match a,b with
 | true,true=>brK (J8 x == J8 x) k none
 | true,false=>brK (J8 x == []) (brK (0 == I6 x) k none) none
 | false,true=>brK ([] == J8 x) (brK (I6 x == 0) k none) none
 | false,false=>brK (I6 x == I6 x) k none
def qP (s:List UInt8) (x:Ft) (a b:Bool):Option Unit :=
 brK (F4 s) (brK (A5p s) (brK (F4 s) (brK (A5p s) (qX x a b (qF s true true)) (qX x a b (qF s true false))) none) (brK (F4 s) (brK (A5p s) (qX x a b (qF s false true)) (qX x a b (qF s false false))) none)) none
def qT (s:List UInt8) (x:Ft):Option Unit :=
 brK (decide (I6 x=0)) (brK (decide (I6 x=0)) (qP s x true true) (qP s x true false)) (brK (decide (I6 x=0)) (qP s x false true) (qP s x false false))
theorem E2n (s:List UInt8) (x:Ft):(C9 prog pLw 60).call 3 [.agg x.av,.sstr s] (Bg 8) C2b =
  brK (decide ((s.length:Int) > 200)) (brK (decide ((s.length:Int)<=4096)) (some ()) (brK (decide ((s.length:Int) > 8192)) (some ()) (qT s x))) (brK (decide ((s.length:Int) > 8192)) (some ()) (qT s x)):=by kernel_rfl
theorem F5c {s:List UInt8} (x:Ft) (hz:F4 s=true):qT s x=some ():=by
 unfold qT qP
 rw [hz]
 generalize hb:A5p s=b
 by_cases he:I6 x=0
 ·rw [dT he]
  cases b <;> simp [brK,qX,qF,B9o]
 ·rw [dF he]
  cases b <;> simp [brK,qX,qF,B9o]
theorem D3t (s:List UInt8) (x:Ft):(C9 prog pLw 60).call 3 [.agg x.av,.sstr s] (Bg 8) C2b=some ():=by
 refine (E2n s x).trans ?_
 by_cases hl:s.length > 8192
 ·rw [dT (show (s.length:Int) > 8192 by omega)]
  cases decide ((s.length:Int) > 200) <;> cases decide ((s.length:Int)<=4096) <;> rfl
 ·rw [F5c x (dT (by omega))]
  cases decide ((s.length:Int) > 200) <;> cases decide ((s.length:Int)<=4096) <;> cases decide ((s.length:Int) > 8192) <;> rfl
def rS (s:List UInt8):Option Unit :=
 brK (F4 s) (brK (A5p s) (brK (decide (I6 (ftT s)=0)) (brK (!(J8 (ftT s) == s)) none (some ())) (brK (I6 (ftT s) != 0) none (brK (!(([]:List UInt8) == s)) none (some ())))) (brK (B1z s == 0) none (some ()))) none
theorem E1y (s:List UInt8) (x:Ft):(C9 prog pLw 60).call 4 [.agg x.av,.sstr s] (Bg 8) C2b =
  brK (decide (I6 x=0)) (brK (F4 (J8 x)) (brK (A5p (J8 x)) (brK (!(eqF (ftT (J8 x)) x)) none (rS s)) (brK (B1z (J8 x) != 0) none (brK (!(eqF ftZ x)) none (rS s)))) none) (brK (I6 x == 0) none (rS s)):=by kernel_rfl
theorem F3u {s:List UInt8} (hz:F4 s=true):rS s=some ():=by
 unfold rS
 rw [hz]
 cases hb:A5p s with
 | false =>
  have:(B1z s == 0)=false:=by unfold B1z; split <;> rfl
  rw [this]; rfl
 | true =>
  unfold A5p B8m at hb
  simp only [Bool.and_eq_true,decide_eq_true_eq,beq_iff_eq] at hb
  rw [dT hb.2.2.2.1,hb.2.2.2.2]
  simp [brK]
theorem E2h {x:Ft} (h:I6 x=0):(J8 x).length<=15:=by
 obtain ⟨hn,_⟩:=B6y h
 have dl:=C0u (n:=x.n.toNat) (by omega)
 have f1:=B7e x.h x.m x.g
 have f2:=B7e x.h' x.m' x.g'
 unfold J8
 simp only [List.length_append,List.length_cons,List.length_nil]
 omega
theorem D4t {s:List UInt8} (x:Ft) (hz:F4 s=true):(C9 prog pLw 60).call 4 [.agg x.av,.sstr s] (Bg 8) C2b=some ():=by
 refine (E1y s x).trans ?_
 rw [F3u hz]
 by_cases he:I6 x=0
 ·have hl:=E2h he
  have hp:A5p (J8 x)=true:=by
   unfold A5p
   rw [dT (by omega),(B7n _).2 ⟨x,he,rfl⟩]; rfl
  rw [dT he,show F4 (J8 x)=true from dT (by omega),hp,(back he).ft,B9o]
  rfl
 ·rw [dF he,show (I6 x == 0)=false by rw [beq_eq_false_iff_ne]; exact he]; rfl
theorem F7l (n hl hg sl sg:Int) (hh sh:Bool) (b:ByteArray):VRL (B3s 8) [.agg (Ft.av ⟨n,hh,hl,hg,sh,sl,sg⟩),.sstr b.data.toList] [.agg #[.int .i64 n,.bool hh,.int .i64 hl,.int .i64 hg,.bool sh,.int .i64 sl,.int .i64 sg],.string b]:=by
 simp only [Ft.av,VRL,VR]
 exact ⟨_,_,rfl,⟨_,rfl,_,_,rfl,rfl,_,_,rfl,rfl,_,_,rfl,rfl,_,_,rfl,rfl,_,_,rfl,rfl,_,_,rfl,rfl,_,_,rfl,rfl,rfl⟩,_,_,rfl,⟨b,rfl,rfl⟩,rfl⟩
section
variable (n hl hg sl sg:Int) (hh sh:Bool) (b:ByteArray) (W:World) (hG:gN prog<=W.heap.size) (hT:Tab (ambOf W)) (hE:TabE (ambOf W)) (hR:TabR (ambOf W))
include hG hT hE hR
theorem fitTexts:Calls prog 3 #[.agg #[.int .i64 n,.bool hh,.int .i64 hl,.int .i64 hg,.bool sh,.int .i64 sl,.int .i64 sg],.string b] W fun e W'=>e=.returned (.bool true)/\RowKit.Below W.heap.size W W' :=
 D2c D6 D7 (B3u hT hE hR hG (E5w hT hE hR hG)) hG (n:=60) (by rw [gsz]; exact D3t _ _) rfl (B3s 8) _ (F7l n hl hg sl sg hh sh b)
theorem fitReads (hb:b.data.toList.length < 2 ^ 62):Calls prog 4 #[.agg #[.int .i64 n,.bool hh,.int .i64 hl,.int .i64 hg,.bool sh,.int .i64 sl,.int .i64 sg],.string b] W fun e W'=>e=.returned (.bool true)/\RowKit.Below W.heap.size W W' :=
 D2c D6 D7 (B3u hT hE hR hG (E5w hT hE hR hG)) hG (n:=60) (by rw [gsz]; exact D4t _ (dT hb)) rfl (B3s 8) _ (F7l n hl hg sl sg hh sh b)
end
end Go.Proofs.Tryz
namespace Go.Proofs.Tryz
open Go.ChangeShapes Go.WideShapes Go.ChangeAt Go.RowKit Go.Lib Go.Joins
def I64 (n:Int):Prop:=-9223372036854775808<=n/\n<=9223372036854775807
theorem B2c {n:Int} (h:(Lit.int IntKind.i64 n).wf):I64 n:=by simpa [I64,Lit.wf,IntKind.min,IntKind.max,IntKind.signed,IntKind.bits] using h
theorem F9m {α:Type} {cs:Array α} (h:cs.size=7):∃ c0 c1 c2 c3 c4 c5 c6,cs=#[c0,c1,c2,c3,c4,c5,c6]:=by
 obtain ⟨l⟩:=cs
 match l,h with
 | [c0,c1,c2,c3,c4,c5,c6],_=>exact ⟨c0,c1,c2,c3,c4,c5,c6,rfl⟩
set_option maxRecDepth 100000 in
theorem open_fit {H:Type} {enc:TypeId × Value->H} {W:World} {base:Nat} {spare:Nat->Bool} {held:Bool} {r:Reach} {b0:Nat} {v:Value} {d:DataW H} {p:List MemPlace}
  (hv:Value.okWide prog W r b0 25 v) (h:DataW.Trod enc prog W base spare held 25 v d p) :
  ∃ (n hl hg sl sg:Int) (hh sh:Bool),v=.agg #[.int .i64 n,.bool hh,.int .i64 hl,.int .i64 hg,.bool sh,.int .i64 sl,.int .i64 sg]/\I64 n/\I64 hl/\I64 hg/\I64 sl/\I64 sg:=by
 obtain ⟨cs,rfl,hsz⟩:=okWide_struct underlying25 hv
 obtain ⟨c0,c1,c2,c3,c4,c5,c6,rfl⟩:=F9m (hsz.trans (by kernel_rfl))
 obtain ⟨fuel,hf⟩:=h
 obtain ⟨y0,y1,y2,n,_,_,h0,h1,h2⟩:=Go.Deep.trod_struct3 underlying25 hf
 have c3:prog.cellsOf 3=1:=by kernel_rfl
 have c4:prog.cellsOf 4=1:=by kernel_rfl
 have c23:prog.cellsOf 23=3:=by kernel_rfl
 obtain ⟨z0,z1,z2,n1,_,_,k0,k1,k2⟩:=Go.Deep.trod_struct3 underlying23 h1
 obtain ⟨x0,x1,x2,n2,_,_,l0,l1,l2⟩:=Go.Deep.trod_struct3 underlying23 h2
 obtain ⟨a,e0,_,wa⟩:=DataW.trod_int underlying3 h0
 obtain ⟨s1,e1,_⟩:=DataW.trod_bool underlying4 k0
 obtain ⟨b,e2,_,wb⟩:=DataW.trod_int underlying3 k1
 obtain ⟨c,e3,_,wc⟩:=DataW.trod_int underlying3 k2
 obtain ⟨s2,e4,_⟩:=DataW.trod_bool underlying4 l0
 obtain ⟨e,e5,_,we⟩:=DataW.trod_int underlying3 l1
 obtain ⟨f,e6,_,wf⟩:=DataW.trod_int underlying3 l2
 simp [c3,c4,c23,Value.cells] at e0 e1 e2 e3 e4 e5 e6
 subst e0 e1 e2 e3 e4 e5 e6
 exact ⟨a,b,c,e,f,s1,s2,rfl,B2c wa,B2c wb,B2c wc,B2c we,B2c wf⟩
end Go.Proofs.Tryz
