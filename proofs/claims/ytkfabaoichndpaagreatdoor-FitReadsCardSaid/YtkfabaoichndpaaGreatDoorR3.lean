/- The reference's numbers: digits with zeros in front, columns, sums and differences on paper. -/
import Derived.Test.YtkfabaoichndpaaGreatDoorVal1
import Derived.Test.YtkfabaoichndpaaGreatDoorAdRat
noncomputable section
namespace Go.Proofs.Tryz
open Go.Ad
open Go.Lib (decDigits itoa nDigits decFrom digitVal)
theorem C6k (acc:Nat) (s:List UInt8):B3l acc s=D8 acc s:=rfl
def D9k:Code:=f210.body.getD .skip
def D4g:Code:=J3 (K6 0 D9k)
def spWd:SP:=⟨[.str,.int .i64]++dr 3++[.row 8,.int .i64]++dr 20,dd8++[.arr [] .u8 5]⟩
def D5k (s:List UInt8) (n:Int) (k:Nat) (i:Int) (m:Nat) (f:Nat->Int):List Lf:=[.s s,.i n,.n k,.i i,.n m,.f f]
theorem D7w (s:List UInt8) (n:Int) (k:Nat) (i:Int) (m:Nat) (f:Nat->Int):F3 prog (C9 prog lib2 60) F8 D4g (spWd.rho (D5k s n k i m f)) (spWd.heap (D5k s n k i m f)) (H5 (fun _=>spWd) 9 [8]) =
  brK (decide (i < n)) (brK (decide (0<=i/\i < (k:Int)) && decide (0<=0)) (brK (decide (0+i.toNat < m)) (some (.normal,D5k s n k (W (i+1)) m (Y4 f (0+i.toNat) 48))) none) none) (some (.exit 0,D5k s n k i m f)):=by kernel_rfl
def A6c (i:Nat):Nat->Int:=fun x=>if x < i then 48 else 0
theorem D4q (i:Nat):Y4 (A6c i) i 48=A6c (i+1):=by
 funext x
 unfold Y4 A6c
 by_cases h:x=i
 ·subst h; rw [if_pos rfl,if_pos (by omega)]
 ·rw [if_neg h]
  by_cases h2:x < i
  ·rw [if_pos h2,if_pos (by omega)]
  ·rw [if_neg h2,if_neg (by omega)]
def G1y:Blk:=hookP spWd 9 [8] fun
 | [.s s,.i n,.n k,.i i,.n m,.f f]=>.br (A9 (i=0/\n=(k:Int)/\m=k/\(f=fun _=>0)) && decide (k < 2147483648)) (.leaf (.normal,spWd,D5k s n k n m (A6c k))) .fail
 | _=>.fail
def G7b:Prims:=pR3.addb 210 0 G1y
abbrev C2q (k:Nat) (f:Nat->Int):List UInt8:=(List.range k).map fun x=>UInt8.ofNat (f (0+x)).toNat
theorem F8q (s:List UInt8) (n:Int):(C9 prog G7b 60).call 210 [.sstr s,.sint .i64 n] (Bg 8) G9 =
  brK (decide (0<=n/\n=n/\n < 2147483648)) (brK (A9 ((0:Int)=0/\n=(n.toNat:Int)/\n.toNat=n.toNat/\((fun _=>0:Nat->Int)=fun _=>0)) && decide (n.toNat < 2147483648))
   (brK (true && decide (0<=W (n - (s.length:Int))/\W (n - (s.length:Int))<=(n.toNat:Int))) (brK (true && (decide (0<=0+(W (n - (s.length:Int))).toNat) && decide (0+(W (n - (s.length:Int))).toNat+(n.toNat - (W (n - (s.length:Int))).toNat)<=n.toNat)))
    (brK (decide (0<=0) && decide (0+n.toNat<=n.toNat)) (some (.sstr (C2q n.toNat (A8c (A6c n.toNat) (0+(W (n - (s.length:Int))).toNat) (min s.length (n.toNat - (W (n - (s.length:Int))).toNat)) fun x=>((s.getD x 0).toNat:Int))))) none) none) none) none) none:=by kernel_rfl
theorem E2b {s:List UInt8} {k:Nat} (h:s.length<=k):C2q k (A8c (A6c k) (k - s.length) s.length fun x=>((s.getD x 0).toNat:Int))=List.replicate (k - s.length) 48++s:=by
 apply List.ext_getElem
 ·simp; omega
 ·intro i h1 h2
  have hi:i < k:=by simpa [C2q] using h1
  unfold C2q
  rw [List.getElem_map,List.getElem_range,Nat.zero_add]
  unfold A8c
  by_cases hlt:i < k - s.length
  ·rw [dF (show ¬ k - s.length<=i by omega),List.getElem_append_left (by simp; exact hlt)]
   simp [A6c,hi]
  ·rw [dT (show k - s.length<=i by omega),dT (show i < k - s.length+s.length by omega),List.getElem_append_right (by simp; omega)]
   simp only [Bool.and_self,cond_true,Int.toNat_natCast,List.length_replicate]
   rw [List.getD_eq_getElem?_getD,List.getElem?_eq_getElem (by omega)]
   apply UInt8.toNat_inj.1
   simp
def G7v:List Lf->Tr AV
 | [.s s,.i n]=>.br (decide (n < 2147483648) && decide ((s.length:Int)<=n)) (.leaf (.sstr (List.replicate (n.toNat - s.length) 48++s))) .fail
 | _=>.fail
def pR4:Prims:=pR3.addt 210 (gP [.str,.int .i64] G7v)
section
variable {A:Amb} (hT:Tab A) (hG:gN prog<=A.G)
include hT hG
theorem F7e:PrimOK prog A G7b:=by
 have hp:=I8 hT
 refine PrimOK.addbP (E7s hT hG) func210 (show f210.body=some D9k by kernel_rfl) (body:=.loop D4g) (by kernel_rfl) (by kernel_rfl) fun ls e sq l h=>?_
 split at h
 ·rename_i s n k i m f
  obtain ⟨hc,hv⟩:=Tr.br1 h
  cases hv
  rw [Bool.and_eq_true,decide_eq_true_eq] at hc
  obtain ⟨rfl,rfl,rfl,rfl⟩:=D9 hc.1
  have hk:=hc.2
  refine ⟨⟨.inr rfl,.inr rfl,.inr rfl,.inr rfl,.inr rfl,.inr rfl,.inr rfl,.inr rfl,.inl rfl,trivial⟩,fun Bb hB=>SEB.block_exit (id:=0) ?_⟩
  have e0:(fun _=>0:Nat->Int)=A6c 0:=by funext x; unfold A6c; rw [if_neg (by omega)]
  rw [e0]
  refine SEB.loop_nat (A:=A) (B0:=Bb) (c:=D4g) (I:=fun i=>⟨spWd.rho (D5k s m m i m (A6c i)),spWd.heap (D5k s m m i m (A6c i)),[8]⟩) (N:=m) (fun i hi=>?_) ?_ (by simp) (i:=0) (Nat.zero_le _)
  ·have hr:=D7w s m m i m (A6c i)
   rw [dT (show (i:Int) < (m:Int) by omega),dT (show 0<=(i:Int)/\(i:Int) < (m:Int) by omega),Int.toNat_natCast,Nat.zero_add,dT hi,D4q,R4 (by omega) (by omega)] at hr
   exact SEB.of_KP (A:=A) (B0:=Bb) (e:=.normal) D6 D7 hp (.none _) hB hr rfl
  ·have hr:=D7w s m m m m (A6c m)
   rw [dF (show ¬ (m:Int) < (m:Int) by omega)] at hr
   exact SEB.of_KP (A:=A) (B0:=Bb) (e:=.exit 0) D6 D7 hp (.none _) hB hr rfl
 ·cases h
theorem F9u:PrimOK prog A pR4:=by
 refine PrimOK.addP D6 D7 (F7e hT hG) (E7s hT hG) hG func210 (by kernel_rfl) fun ls v h=>?_
 unfold G7v at h
 split at h
 ·rename_i s n
  obtain ⟨hc,hv⟩:=Tr.br1 h
  cases hv
  rw [Bool.and_eq_true,decide_eq_true_eq,decide_eq_true_eq] at hc
  obtain ⟨h1,h2⟩:=hc
  refine ⟨rfl,60,.sstr (List.replicate (n.toNat - s.length) 48++s),?_,rfl,fun ι x h=>h⟩
  rw [gsz]
  refine (F8q s n).trans ?_
  obtain ⟨k,rfl⟩:∃ k:Nat,n=k:=⟨n.toNat,by omega⟩
  have e1:W ((k:Int) - (s.length:Int))=((k - s.length:Nat):Int):=by rw [R4 (by omega) (by omega)]; omega
  rw [e1,Int.toNat_natCast,Int.toNat_natCast,dT (show 0<=(k:Int)/\(k:Int)=(k:Int)/\(k:Int) < 2147483648 by omega),A8 ⟨rfl,rfl,rfl,rfl⟩,dT (show k < 2147483648 by omega),
   dT (show 0<=((k - s.length:Nat):Int)/\((k - s.length:Nat):Int)<=(k:Int) by omega),Nat.zero_add,dT (show 0<=k - s.length by omega),dT (show k - s.length+(k - (k - s.length))<=k by omega),
   Nat.zero_add,dT (show k<=k by omega),show min s.length (k - (k - s.length))=s.length by omega,E2b (by omega)]
  rfl
 ·cases h
end
theorem G2h (c d e:Int) (ad:Bool):(C9 prog lib2 60).call 211 [.rng .u8 c 48 57,.rng .u8 d 48 57,.rng .i64 e 0 1,.sbool ad] (Bg 8) G9 =
  brK ad (brK (decide (c - 48+(d - 48)+e > 9)) (some (.tuple [.rng .u8 (48+(c - 48+(d - 48)+e) - 10) 38 57,.int .i64 1])) (some (.tuple [.rng .u8 (48+(c - 48+(d - 48)+e)) 48 67,.int .i64 0])))
   (brK (decide (c - 48 - (d - 48) - e < 0)) (some (.tuple [.rng .u8 (48+(c - 48 - (d - 48) - e)+10) 48 67,.int .i64 1])) (some (.tuple [.rng .u8 (48+(c - 48 - (d - 48) - e)) 38 57,.int .i64 0]))):=by kernel_rfl
def G5j:List AV->Tr AV
 | [x,y,z,w]=>match H8 x,H8 y,H8 z,sbool? w with
  | some (k1,c),some (k2,d),some (k3,e),some b=>.br (A9 (k1=.u8/\k2=.u8/\k3=.i64) && decide ((48<=c/\c<=57)/\(48<=d/\d<=57)/\(0<=e/\e<=1))) (.leaf (.tuple [.sint .u8 (B8d c d e b).1,.sint .i64 (B8d c d e b).2])) .fail
  | _,_,_,_=>.fail
 | _=>.fail
theorem B7j {ι:Emb} {a b a' b':AV} (h1:∀ v,VR ι a v->VR ι a' v) (h2:∀ v,VR ι b v->VR ι b' v) (x:Value) (h:VR ι (.tuple [a,b]) x):VR ι (.tuple [a',b']) x:=by
 simp only [VR] at h ⊢
 obtain ⟨ys,rfl,hv⟩:=h
 refine ⟨ys,rfl,VRL.weaken (show [a',b'].length=[a,b].length from rfl) (fun i a1 hi=>?_) hv⟩
 match i,hi with
 | 0,hi=>cases hi; exact ⟨_,rfl,h1⟩
 | 1,hi=>cases hi; exact ⟨_,rfl,h2⟩
 | i+2,hi=>simp at hi
theorem B6w {ι:Emb} {k:IntKind} {n m lo hi:Int} (e:n=m) (x:Value) (h:VR ι (.rng k n lo hi) x):VR ι (.sint k m) x:=by
 subst e
 simp only [VR] at h ⊢
 exact h.1
def pR5:Prims:=pR4.addt 211 G5j
theorem E7b {A:Amb} (hT:Tab A) (hG:gN prog<=A.G):PrimOK prog A pR5:=by
 refine PrimOK.addt3 D6 D7 (F9u hT hG) hG func211 (by kernel_rfl) fun args v hv=>?_
 unfold G5j at hv
 split at hv
 ·rename_i x y z w
  split at hv
  ·rename_i k1 c k2 d k3 e b hx hy hz hw
   obtain ⟨hc,hv⟩:=Tr.br1 hv
   cases hv
   rw [Bool.and_eq_true,decide_eq_true_eq] at hc
   obtain ⟨rfl,rfl,rfl⟩:=D9 hc.1
   obtain ⟨b1,b2,b3⟩:=hc.2
   have harg:∀ (ι:Emb) (xs:List Value),VRL ι [x,y,z,w] xs->VRL ι [.rng .u8 c 48 57,.rng .u8 d 48 57,.rng .i64 e 0 1,.sbool b] xs:=fun ι xs hxs=>by
    refine VRL.weaken (show ([.rng .u8 c 48 57,.rng .u8 d 48 57,.rng .i64 e 0 1,.sbool b]:List AV).length=[x,y,z,w].length from rfl) (fun i a' hi=>?_) hxs
    match i,hi with
    | 0,hi=>cases hi; exact ⟨_,rfl,fun v hv=>by simp only [VR]; exact ⟨F7 hx hv,b1⟩⟩
    | 1,hi=>cases hi; exact ⟨_,rfl,fun v hv=>by simp only [VR]; exact ⟨F7 hy hv,b2⟩⟩
    | 2,hi=>cases hi; exact ⟨_,rfl,fun v hv=>by simp only [VR]; exact ⟨F7 hz hv,b3⟩⟩
    | 3,hi=>cases hi; exact ⟨_,rfl,fun v hv=>by simp only [VR]; exact Y1 hw hv⟩
    | i+4,hi=>simp at hi
   have fin:∀ v',(C9 prog lib2 60).call 211 [.rng .u8 c 48 57,.rng .u8 d 48 57,.rng .i64 e 0 1,.sbool b] (Bg 8) G9=some v'->below 0 v'=true->(∀ ι x,VR ι v' x->VR ι (.tuple [.sint .u8 (B8d c d e b).1,.sint .i64 (B8d c d e b).2]) x)->_:=fun v' g1 g2 g3 =>
    let ⟨B',hca⟩:=Ca.of_finV g1
    (⟨lib2,_,v',B',I8 hT,harg,g3,rfl,g2,by rw [gsz]; exact hca⟩:∃ prims0 args' v' B',PrimOK prog A prims0/\(∀ (ι:Emb) (xs:List Value),VRL ι [x,y,z,w] xs->VRL ι args' xs)/\(∀ (ι:Emb) (x:Value),VR ι v' x->VR ι (.tuple [.sint .u8 (B8d c d e b).1,.sint .i64 (B8d c d e b).2]) x)/\H6 0 args'=true/\below 0 v'=true/\Ca prog prims0 211 args' (Bg (gN prog)) (v',B',[]))
   have hk:=G2h c d e b
   unfold B8d at fin
   cases b with
   | true =>
    by_cases h1:c - 48+(d - 48)+e > 9
    ·rw [dT h1] at hk
     refine fin _ hk rfl fun ι x=>?_
     simp only [cond_true,if_pos h1]
     exact B7j (fun v=>B6w rfl v) (fun v=>Q4 rfl v) x
    ·rw [dF h1] at hk
     refine fin _ hk rfl fun ι x=>?_
     simp only [cond_true,if_neg h1]
     exact B7j (fun v=>B6w rfl v) (fun v=>Q4 rfl v) x
   | false =>
    by_cases h1:c - 48 - (d - 48) - e < 0
    ·rw [dT h1] at hk
     refine fin _ hk rfl fun ι x=>?_
     simp only [cond_false,if_pos h1]
     exact B7j (fun v=>B6w rfl v) (fun v=>Q4 rfl v) x
    ·rw [dF h1] at hk
     refine fin _ hk rfl fun ι x=>?_
     simp only [cond_false,if_neg h1]
     exact B7j (fun v=>B6w rfl v) (fun v=>Q4 rfl v) x
  ·cases hv
 ·cases hv
end Go.Proofs.Tryz
namespace Go.Proofs.Tryz
open Go.Ad
open Go.Lib (decDigits itoa nDigits decFrom digitVal)
def E0g:Code:=f181.body.getD .skip
def B9s:Code:=J3 (K6 0 E0g)
def spPp:SP:=⟨[.str,.str,.bool]++dr 4++[.int .i64,.row 8,.int .i64,.int .i64]++dr 38,dd8++[.arr [] .u8 5]⟩
def E1z (a b:List UInt8) (ad:Bool) (n:Int) (k:Nat) (c i:Int) (m:Nat) (f:Nat->Int):List Lf:=[.s a,.s b,.b ad,.i n,.n k,.i c,.i i,.n m,.f f]
theorem D7o (a b:List UInt8) (ad:Bool) (n:Int) (k:Nat) (c i:Int) (m:Nat) (f:Nat->Int) :
  F3 prog (C9 prog pR5 60) F8 B9s (spPp.rho (E1z a b ad n k c i m f)) (spPp.heap (E1z a b ad n k c i m f)) (H5 (fun _=>spPp) 9 [8]) =
  brK (decide (i >= 0)) (brK (decide (0<=i/\i < (a.length:Int))) (brK (decide (0<=i/\i < (b.length:Int)))
   (brK (A9 (IntKind.u8=.u8/\IntKind.u8=.u8/\IntKind.i64=.i64) && decide ((48<=((a.getD i.toNat 0).toNat:Int)/\((a.getD i.toNat 0).toNat:Int)<=57)/\(48<=((b.getD i.toNat 0).toNat:Int)/\((b.getD i.toNat 0).toNat:Int)<=57)/\(0<=c/\c<=1)))
    (brK (decide (0<=i/\i < (k:Int)) && decide (0<=0)) (brK (decide (0+i.toNat < m))
     (some (.normal,E1z a b ad n k (B8d ((a.getD i.toNat 0).toNat:Int) ((b.getD i.toNat 0).toNat:Int) c ad).2 (W (i - 1)) m (Y4 f (0+i.toNat) (B8d ((a.getD i.toNat 0).toNat:Int) ((b.getD i.toNat 0).toNat:Int) c ad).1))) none) none) none) none) none)
   (some (.exit 0,E1z a b ad n k c i m f)):=by kernel_rfl
def B3y (ad:Bool) (A B n j:Nat):List Lf:=E1z (pad n A) (pad n B) ad n n (cF ad A B j:Nat) ((n:Int) - 1 - j) n (B4s n (A7e ad A B) j)
theorem G2v {ad:Bool} {A B n j:Nat} (h:ad=false->B<=A) (hn:n < 2147483648) (hj:j < n) :
  F3 prog (C9 prog pR5 60) F8 B9s (spPp.rho (B3y ad A B n j)) (spPp.heap (B3y ad A B n j)) (H5 (fun _=>spPp) 9 [8])=some (.normal,B3y ad A B n (j+1)):=by
 unfold B3y
 have hi:(n:Int) - 1 - (j:Int)=((n - 1 - j:Nat):Int):=by omega
 have hc:=F7x ad A B j
 rw [D7o,hi,Int.toNat_natCast,L9,L9,B7h n A _ (by omega),B7h n B _ (by omega),show n - 1 - (n - 1 - j)=j by omega,E9w h,Nat.zero_add,C4t hj,
  dT (show ((n - 1 - j:Nat):Int) >= 0 by omega),dT (show 0<=((n - 1 - j:Nat):Int)/\((n - 1 - j:Nat):Int) < (n:Int) by omega),A8 ⟨rfl,rfl,rfl⟩,
  dT (show (48<=((48+A / 10 ^ j % 10:Nat):Int)/\((48+A / 10 ^ j % 10:Nat):Int)<=57)/\(48<=((48+B / 10 ^ j % 10:Nat):Int)/\((48+B / 10 ^ j % 10:Nat):Int)<=57)/\(0<=((cF ad A B j:Nat):Int)/\((cF ad A B j:Nat):Int)<=1) by omega),
  dT (show n - 1 - j < n by omega),R4 (by omega) (by omega)]
 have h2:((n - 1 - j:Nat):Int) - 1=(n:Int) - 1 - ((j+1:Nat):Int):=by omega
 rw [h2]
 rfl
def F9h:Blk:=hookP spPp 9 [8] fun
 | [.s a,.s b,.b ad,.i n,.n k,.i c,.i i,.n m,.f f] =>
  .br (A9 (n=(m:Int)/\k=m/\c=0/\i=(m:Int) - 1/\(f=fun _=>0)/\a=pad m (D8 0 a)/\b=pad m (D8 0 b)/\(ad=false->D8 0 b<=D8 0 a)) && decide (m < 2147483648)) (.leaf (.normal,spPp,B3y ad (D8 0 a) (D8 0 b) m m)) .fail
 | _=>.fail
def G7z:Prims:=pR5.addb 181 0 F9h
theorem F3t {A:Amb} (hT:Tab A) (hG:gN prog<=A.G):PrimOK prog A G7z:=by
 have hp:=E7b hT hG
 refine PrimOK.addbP hp func181 (show f181.body=some E0g by kernel_rfl) (body:=.loop B9s) (by kernel_rfl) (by kernel_rfl) fun ls e sq l h=>?_
 split at h
 ·rename_i a b ad n k c i m f
  obtain ⟨hc,hv⟩:=Tr.br1 h
  cases hv
  rw [Bool.and_eq_true,decide_eq_true_eq] at hc
  obtain ⟨rfl,rfl,rfl,rfl,rfl,ha,hb,hle⟩:=D9 hc.1
  have hm:=hc.2
  refine ⟨⟨.inr rfl,.inr rfl,.inr rfl,.inr rfl,.inr rfl,.inr rfl,.inr rfl,.inr rfl,.inl rfl,trivial⟩,fun Bb hB=>SEB.block_exit (id:=0) ?_⟩
  generalize D8 0 a=X at *
  generalize D8 0 b=Y at *
  subst ha hb
  have e0:([.s (pad k X),.s (pad k Y),.b ad,.i (k:Int),.n k,.i 0,.i ((k:Int) - 1),.n k,.f fun _=>0]:List Lf)=B3y ad X Y k 0:=by
   unfold B3y E1z
   rw [F5t,C4c]
   simp
  rw [e0]
  refine SEB.loop_nat (A:=A) (B0:=Bb) (c:=B9s) (I:=fun j=>⟨spPp.rho (B3y ad X Y k j),spPp.heap (B3y ad X Y k j),[8]⟩) (N:=k)
   (fun j hj=>SEB.of_KP (A:=A) (B0:=Bb) (e:=.normal) D6 D7 hp (.none _) hB (G2v hle hm hj) rfl) ?_ (by simp) (i:=0) (Nat.zero_le _)
  have hr:F3 prog (C9 prog pR5 60) F8 B9s (spPp.rho (B3y ad X Y k k)) (spPp.heap (B3y ad X Y k k)) (H5 (fun _=>spPp) 9 [8])=some (.exit 0,B3y ad X Y k k):=by
   unfold B3y
   rw [D7o,dF (show ¬ (k:Int) - 1 - (k:Int) >= 0 by omega)]
   rfl
  exact SEB.of_KP (A:=A) (B0:=Bb) (e:=.exit 0) D6 D7 hp (.none _) hB hr rfl
 ·cases h
abbrev C8d (a b:List UInt8) (ad:Bool) (n:Int) (a' b':List UInt8):Option AV :=
 brK (decide (n < 2147483648) && decide ((a.length:Int)<=n)) (brK (decide (n < 2147483648) && decide ((b.length:Int)<=n)) (brK (decide (0<=n/\n=n/\n < 2147483648))
  (brK (A9 (n=(n.toNat:Int)/\n.toNat=n.toNat/\(0:Int)=0/\W (n - 1)=(n.toNat:Int) - 1/\((fun _=>0:Nat->Int)=fun _=>0)/\a'=pad n.toNat (D8 0 a')/\b'=pad n.toNat (D8 0 b')/\(ad=false->D8 0 b'<=D8 0 a')) && decide (n.toNat < 2147483648))
   (brK (decide (0<=0) && decide (0+n.toNat<=n.toNat)) (some (.sstr (A0x (C2q n.toNat (B4s n.toNat (A7e ad (D8 0 a') (D8 0 b')) n.toNat))))) none) none) none) none) none
abbrev nPp (a b:List UInt8):Int:=W ((if (b.length:Int) > (a.length:Int) then (b.length:Int) else (a.length:Int))+1)
theorem F9e (a b:List UInt8) (ad:Bool):(C9 prog G7z 60).call 181 [.sstr a,.sstr b,.sbool ad] (Bg 8) G9 =
  C8d a b ad (nPp a b) (List.replicate ((nPp a b).toNat - a.length) 48++a) (List.replicate ((nPp a b).toNat - b.length) 48++b):=by kernel_rfl
theorem D5a (k:Nat) (s:List UInt8):D8 0 (List.replicate k 48++s)=D8 0 s:=by
 induction k with
 | zero=>rfl
 | succ k ih=>rw [List.replicate_succ,List.cons_append]; exact ih
theorem C9t {s:List UInt8} {n:Nat} (h:s.all F5=true) (hl:s.length<=n):List.replicate (n - s.length) 48++s=pad n (D8 0 s):=by
 have:=C8c n (List.replicate (n - s.length) 48++s) (by rw [List.length_append,List.length_replicate]; omega) (by
  rw [List.all_append,h,Bool.and_true,List.all_eq_true]
  intro b hb
  rw [List.eq_of_mem_replicate hb]; rfl)
 rw [D5a] at this
 exact this
def G9x:List Lf->Tr AV
 | [.s a,.s b,.b ad]=>.br (A9 (a.all F5=true/\b.all F5=true/\a.length < 2 ^ 30/\b.length < 2 ^ 30/\(ad=false->D8 0 b<=D8 0 a))) (.leaf (.sstr (itoa (A7e ad (D8 0 a) (D8 0 b):Nat)))) .fail
 | _=>.fail
def pR6:Prims:=pR5.addt 181 (gP [.str,.str,.bool] G9x)
theorem A4u (s:List UInt8) (h:s.all F5=true):D8 0 s < 10 ^ s.length:=by
 have:=B3d s 0 h
 rwa [Nat.zero_add,Nat.one_mul] at this
theorem D5r {a b:List UInt8} {ad:Bool} (ha:a.all F5=true) (hb:b.all F5=true) (la:a.length < 2 ^ 30) (lb:b.length < 2 ^ 30) (hle:ad=false->D8 0 b<=D8 0 a) :
  C8d a b ad (nPp a b) (List.replicate ((nPp a b).toNat - a.length) 48++a) (List.replicate ((nPp a b).toNat - b.length) 48++b)=some (.sstr (itoa (A7e ad (D8 0 a) (D8 0 b):Nat))):=by
 obtain ⟨k,hk,k1,k2⟩:∃ k:Nat,nPp a b=((k+1:Nat):Int)/\a.length<=k/\b.length<=k/\k < 2 ^ 30:=by
  refine ⟨max a.length b.length,?_,by omega,by omega,by omega⟩
  unfold nPp
  split <;> (rw [R4 (by omega) (by omega)]; omega)
 rw [hk,Int.toNat_natCast,C9t ha (by omega),C9t hb (by omega)]
 have lA:=Nat.lt_of_lt_of_le (A4u a ha) (Nat.pow_le_pow_right (n:=10) (by decide) k1)
 have lB:=Nat.lt_of_lt_of_le (A4u b hb) (Nat.pow_le_pow_right (n:=10) (by decide) k2.1)
 generalize D8 0 a=X at *
 generalize D8 0 b=Y at *
 have hX:X < 10 ^ (k+1):=by rw [Nat.pow_succ]; omega
 have hY:Y < 10 ^ (k+1):=by rw [Nat.pow_succ]; omega
 have hS:A7e ad X Y < 10 ^ (k+1):=by
  unfold A7e
  rw [Nat.pow_succ]
  cases ad <;> simp only [cond_true,cond_false] <;> omega
 unfold C8d
 rw [Int.toNat_natCast,A2i,A2i,Nat.mod_eq_of_lt hX,Nat.mod_eq_of_lt hY,dT (show ((k+1:Nat):Int) < 2147483648 by omega),dT (show (a.length:Int)<=((k+1:Nat):Int) by omega),dT (show (b.length:Int)<=((k+1:Nat):Int) by omega),
  dT (show 0<=((k+1:Nat):Int)/\((k+1:Nat):Int)=((k+1:Nat):Int)/\((k+1:Nat):Int) < 2147483648 by omega),dT (show k+1 < 2147483648 by omega),dT (show 0+(k+1)<=k+1 by omega),
  A8 ⟨rfl,rfl,rfl,by rw [R4 (by omega) (by omega)],rfl,rfl,rfl,hle⟩]
 have ht:C2q (k+1) (B4s (k+1) (A7e ad X Y) (k+1))=pad (k+1) (A7e ad X Y):=by
  rw [<- C4i]
  unfold C2q
  simp only [Nat.zero_add]
 rw [ht,A6w (by intro e; have:=L9 (k+1) (A7e ad X Y); rw [e] at this; simp at this) (C5l _ _),C6k,A2i,Nat.mod_eq_of_lt hS]
 rfl
theorem F0r {A:Amb} (hT:Tab A) (hG:gN prog<=A.G):PrimOK prog A pR6:=by
 refine PrimOK.addP D6 D7 (F3t hT hG) (E7b hT hG) hG func181 (by kernel_rfl) fun ls v h=>?_
 unfold G9x at h
 split at h
 ·rename_i a b ad
  obtain ⟨hc,hv⟩:=Tr.br1 h
  cases hv
  obtain ⟨ha,hb,la,lb,hle⟩:=D9 hc
  exact ⟨rfl,60,_,by rw [gsz]; exact (F9e a b ad).trans (D5r ha hb la lb hle),rfl,fun ι x h=>h⟩
 ·cases h
end Go.Proofs.Tryz
namespace Go.Proofs.Tryz
open Go.Ad
open Go.Lib (decDigits itoa nDigits decFrom digitVal)
theorem E7r {n:Int} (h0:0<=n) (h1:n<=255):IntKind.u8.wrap n=n:=by
 have e:(2:Int) ^ IntKind.u8.bits=256:=by decide
 unfold IntKind.wrap
 simp only [e,show IntKind.u8.signed=false from rfl,Bool.false_and,Bool.false_eq_true,if_false]
 omega
theorem B0h {n:Nat} (h:n<=2 ^ 62):W (n:Int)=n:=R4 (by omega) (by omega)
theorem A9r {n:Nat} (h:n<=255):IntKind.u8.wrap (n:Int)=n:=E7r (by omega) (by omega)
theorem dgI {s:List UInt8} (h:s.all F5=true) {i:Nat} (hi:i < s.length):IntKind.u8.wrap (((s.getD i 0).toNat:Int) - 48)=(dg s i:Nat):=by
 unfold dg
 rw [List.getD_eq_getElem?_getD,List.getElem?_eq_getElem hi]
 have:=List.all_eq_true.1 h _ (List.getElem_mem hi)
 have hb:48<=(s[i]).toNat/\(s[i]).toNat<=57:=by simpa [F5] using this
 simp only [Option.getD_some]
 rw [E7r (by omega) (by omega)]; omega
def B2g:Code:=f140.body.getD .skip
def B7z:Code:=J3 (K6 2 B2g)
def C6h:Code:=J3 (K6 0 B2g)
def C0w:Code:=J3 (K6 4 B2g)
def spPi:SP:=⟨[.str,.str]++dr 3++[.row 8,.int .i64,.int .i64]++dr 69,dd8++[.arr [] .i64 3]⟩
def spPo:SP:=⟨[.str,.str]++dr 3++[.row 8,.int .i64]++dr 70,dd8++[.arr [] .i64 3]⟩
def spPc:SP:=⟨dr 5++[.row 8]++dr 2++[.row 9,.int .i64,.int .i64]++dr 66,dd8++[.arr [] .i64 3,.arr [] .u8 5]⟩
def C2h (a b:List UInt8) (kk:Nat) (i k:Int) (m:Nat) (f:Nat->Int):List Lf:=[.s a,.s b,.n kk,.i i,.i k,.n m,.f f]
def D2m (a b:List UInt8) (kk:Nat) (i:Int) (m:Nat) (f:Nat->Int):List Lf:=[.s a,.s b,.n kk,.i i,.n m,.f f]
def E2l (kk k2:Nat) (c i:Int) (m:Nat) (f:Nat->Int) (m2:Nat) (g:Nat->Int):List Lf:=[.n kk,.n k2,.i c,.i i,.n m,.f f,.n m2,.f g]
abbrev plI (i k:Int):Int:=W (W (i+k)+1)
theorem D8g (a b:List UInt8) (kk:Nat) (i k:Int) (m:Nat) (f:Nat->Int):F3 prog (C9 prog lib2 60) F8 B7z (spPi.rho (C2h a b kk i k m f)) (spPi.heap (C2h a b kk i k m f)) (H5 (fun _=>spPi) 9 [8]) =
  brK (decide (k < (b.length:Int))) (brK (decide (0<=plI i k/\plI i k < (kk:Int)) && decide (0<=0)) (brK (decide (0+(plI i k).toNat < m)) (brK (decide (0<=i/\i < (a.length:Int))) (brK (decide (0<=k/\k < (b.length:Int))) (brK (decide (0<=plI i k/\plI i k < (kk:Int)) && decide (0<=0)) (brK (decide (0+(plI i k).toNat < m))
   (some (.normal,C2h a b kk i (W (k+1)) m (Y4 f (0+(plI i k).toNat) (W (f (0+(plI i k).toNat)+W (W (IntKind.u8.wrap (((a.getD i.toNat 0).toNat:Int) - 48))*W (IntKind.u8.wrap (((b.getD k.toNat 0).toNat:Int) - 48)))))))) none) none) none) none) none) none)
   (some (.exit 2,C2h a b kk i k m f)):=by kernel_rfl
def U0 (g:Nat->Nat):Nat->Int:=fun x=>((g x:Nat):Int)
theorem E1k (g:Nat->Nat) (i v:Nat):Y4 (U0 g) i (((g i+v:Nat):Int))=U0 (B6n g i v):=by
 funext x
 unfold Y4 U0 B6n
 by_cases h:x=i
 ·rw [if_pos h,if_pos h]
 ·rw [if_neg h,if_neg h]
theorem G1x {a b:List UInt8} {i k:Nat} (ha:a.all F5=true) (hb:b.all F5=true) (la:a.length < 2 ^ 29) (lb:b.length < 2 ^ 29) (hi:i < a.length) (hk:k < b.length) :
  F3 prog (C9 prog lib2 60) F8 B7z (spPi.rho (C2h a b (a.length+b.length) i k (a.length+b.length) (U0 (A7p b (dg a i) i (X7 a b i) k)))) (spPi.heap (C2h a b (a.length+b.length) i k (a.length+b.length) (U0 (A7p b (dg a i) i (X7 a b i) k)))) (H5 (fun _=>spPi) 9 [8]) =
  some (.normal,C2h a b (a.length+b.length) i (k+1:Nat) (a.length+b.length) (U0 (A7p b (dg a i) i (X7 a b i) (k+1)))):=by
 have e1:plI (i:Int) (k:Int)=((i+k+1:Nat):Int):=by unfold plI; rw [R4 (n:=(i:Int)+k) (by omega) (by omega),R4 (by omega) (by omega)]; omega
 have d1:=C2u ha i
 have d2:=C2u hb k
 have hm:=Nat.mul_le_mul d1 d2
 have hg:=D4d (d:=dg a i) (i:=i) hb d1 (g:=X7 a b i) (M:=81*i) (D3w ha hb i) k (i+k+1)
 rw [D8g,e1,Int.toNat_natCast,Int.toNat_natCast,Int.toNat_natCast,Nat.zero_add,dgI ha hi,dgI hb hk,R4 (n:=((dg a i:Nat):Int)) (by omega) (by omega),R4 (n:=((dg b k:Nat):Int)) (by omega) (by omega),<- Int.natCast_mul,
  R4 (n:=((dg a i*dg b k:Nat):Int)) (by omega) (by omega)]
 have e2:U0 (A7p b (dg a i) i (X7 a b i) k) (i+k+1)=((A7p b (dg a i) i (X7 a b i) k (i+k+1):Nat):Int):=rfl
 rw [e2,<- Int.natCast_add,B0h (n:=A7p b (dg a i) i (X7 a b i) k (i+k+1)+dg a i*dg b k) (by omega),E1k,R4 (by omega) (by omega),dT (show (k:Int) < (b.length:Int) by omega),dT (show 0<=((i+k+1:Nat):Int)/\((i+k+1:Nat):Int) < ((a.length+b.length:Nat):Int) by omega),
  dT (show i+k+1 < a.length+b.length by omega),dT (show 0<=(i:Int)/\(i:Int) < (a.length:Int) by omega),dT (show 0<=(k:Int)/\(k:Int) < (b.length:Int) by omega)]
 rfl
def D4x:Blk:=hookP spPi 9 [8] fun
 | [.s a,.s b,.n kk,.i i,.i k,.n m,.f f] =>
  .br (A9 (k=0/\0<=i/\i < (a.length:Int)/\kk=a.length+b.length/\m=a.length+b.length/\f=U0 (X7 a b i.toNat)/\a.all F5=true/\b.all F5=true/\a.length < 2 ^ 29/\b.length < 2 ^ 29)) (.leaf (.normal,spPi,C2h a b (a.length+b.length) i b.length (a.length+b.length) (U0 (X7 a b (i.toNat+1))))) .fail
 | _=>.fail
theorem D8r (a b:List UInt8) (kk:Nat) (i:Int) (m:Nat) (f:Nat->Int):F3 prog (C9 prog lib2 60) (A8p 2 D4x) C6h (spPo.rho (D2m a b kk i m f)) (spPo.heap (D2m a b kk i m f)) (H5 (fun _=>spPo) 9 [8]) =
  brK (decide (i < (a.length:Int))) (brK (A9 ((0:Int)=0/\0<=i/\i < (a.length:Int)/\kk=a.length+b.length/\m=a.length+b.length/\f=U0 (X7 a b i.toNat)/\a.all F5=true/\b.all F5=true/\a.length < 2 ^ 29/\b.length < 2 ^ 29))
   (some (.normal,D2m a b (a.length+b.length) (W (i+1)) (a.length+b.length) (U0 (X7 a b (i.toNat+1))))) none) (some (.exit 0,D2m a b kk i m f)):=by kernel_rfl
theorem D8p (kk k2:Nat) (c i:Int) (m:Nat) (f:Nat->Int) (m2:Nat) (g:Nat->Int):F3 prog (C9 prog lib2 60) F8 C0w (spPc.rho (E2l kk k2 c i m f m2 g)) (spPc.heap (E2l kk k2 c i m f m2 g)) (H5 (fun _=>spPc) 10 [9]) =
  brK (decide (i >= 0)) (brK (decide (0<=i/\i < (kk:Int)) && decide (0<=0)) (brK (decide (0+i.toNat < m)) (brK (decide (0<=i/\i < (k2:Int)) && decide (0<=0)) (brK (decide (0+i.toNat < m2))
   (some (.normal,E2l kk k2 (W ((W (c+f (0+i.toNat))).tdiv 10)) (W (i - 1)) m f m2 (Y4 g (0+i.toNat) (IntKind.u8.wrap (W (48+(W (c+f (0+i.toNat))).tmod 10)))))) none) none) none) none)
   (some (.exit 4,E2l kk k2 c i m f m2 g)):=by kernel_rfl
def A6n (g:Nat->Nat) (L j:Nat):List Lf:=E2l L L (tW g L j / 10 ^ j:Nat) ((L:Int) - 1 - j) L (U0 g) L (B4s L (hW g L) j)
theorem G2a {g:Nat->Nat} {L j:Nat} (hg:∀ x,g x<=2 ^ 40) (hL:L < 2147483648) (hj:j < L) :
  F3 prog (C9 prog lib2 60) F8 C0w (spPc.rho (A6n g L j)) (spPc.heap (A6n g L j)) (H5 (fun _=>spPc) 10 [9])=some (.normal,A6n g L (j+1)):=by
 unfold A6n
 have hi:(L:Int) - 1 - (j:Int)=((L - 1 - j:Nat):Int):=by omega
 have hc:=E7l (L:=L) hg j
 have hx:=hg (L - 1 - j)
 have hd:=F1d g L j hj
 have hn:=E0c g L j
 have e2:U0 g (L - 1 - j)=((g (L - 1 - j):Nat):Int):=rfl
 rw [D8p,hi,Int.toNat_natCast,Nat.zero_add,e2,<- Int.natCast_add,B0h (n:=tW g L j / 10 ^ j+g (L - 1 - j)) (by omega)]
 have e3:(((tW g L j / 10 ^ j+g (L - 1 - j):Nat):Int)).tdiv 10=(((tW g L j / 10 ^ j+g (L - 1 - j)) / 10:Nat):Int):=by
  rw [Int.tdiv_eq_ediv_of_nonneg (Int.natCast_nonneg _)]; rfl
 have e4:(((tW g L j / 10 ^ j+g (L - 1 - j):Nat):Int)).tmod 10=(((tW g L j / 10 ^ j+g (L - 1 - j)) % 10:Nat):Int):=by
  rw [Int.tmod_eq_emod_of_nonneg (Int.natCast_nonneg _)]; rfl
 rw [e3,e4,hd,hn]
 have hlt:hW g L / 10 ^ j % 10 < 10:=Nat.mod_lt _ (by decide)
 have hcn:=E7l (L:=L) hg (j+1)
 have e5:(48:Int)+((hW g L / 10 ^ j % 10:Nat):Int)=((48+hW g L / 10 ^ j % 10:Nat):Int):=by omega
 rw [e5,B0h (n:=48+hW g L / 10 ^ j % 10) (by omega),A9r (n:=48+hW g L / 10 ^ j % 10) (by omega),C4t hj,B0h (n:=tW g L (j+1) / 10 ^ (j+1)) (by omega),R4 (by omega) (by omega),
  dT (show ((L - 1 - j:Nat):Int) >= 0 by omega),dT (show 0<=((L - 1 - j:Nat):Int)/\((L - 1 - j:Nat):Int) < (L:Int) by omega),dT (show L - 1 - j < L by omega)]
 have h2:((L - 1 - j:Nat):Int) - 1=(L:Int) - 1 - ((j+1:Nat):Int):=by omega
 rw [h2]
 rfl
def F8x:Blk:=hookP spPo 9 [8] fun
 | [.s a,.s b,.n kk,.i i,.n m,.f f] =>
  .br (A9 (i=0/\kk=a.length+b.length/\m=a.length+b.length/\(f=fun _=>0)/\a.all F5=true/\b.all F5=true/\a.length < 2 ^ 29/\b.length < 2 ^ 29)) (.leaf (.normal,spPo,D2m a b (a.length+b.length) a.length (a.length+b.length) (U0 (X7 a b a.length)))) .fail
 | _=>.fail
def F9i (g:Nat->Nat):Blk:=hookP spPc 10 [9] fun
 | [.n kk,.n k2,.i c,.i i,.n m,.f f,.n m2,.f h] =>
  .br (A9 (kk=m/\k2=m/\c=0/\i=(m:Int) - 1/\m2=m/\f=U0 g/\(h=fun _=>0)/\m < 2147483648/\∀ x,g x<=2 ^ 40)) (.leaf (.normal,spPc,A6n g m m)) .fail
 | _=>.fail
def F9o (g:Nat->Nat):Prims:=(pR6.addb 140 0 F8x).addb 140 4 (F9i g)
section
variable {A:Amb} (hT:Tab A) (hG:gN prog<=A.G)
include hT hG
omit hG in
theorem E0q:∀ ρ B e' ρ' B' D,(D4x ρ B).get=some (e',ρ',B',D)->AFr B B' D/\SEB prog A B (.block 2 (.loop B7z)) ⟨ρ,B,[]⟩ e' ⟨ρ',B',D⟩:=by
 have hp:=I8 hT
 refine O8 rfl fun ls e sq l h=>?_
 split at h
 ·rename_i a b kk i k m f
  obtain ⟨hc,hv⟩:=Tr.br1 h
  cases hv
  obtain ⟨rfl,hi,hi2,rfl,rfl,rfl,ha,hb,la,lb⟩:=D9 hc
  obtain ⟨i,rfl⟩:=Int.eq_ofNat_of_zero_le hi
  rw [Int.toNat_natCast]
  refine ⟨⟨.inr rfl,.inr rfl,.inr rfl,.inr rfl,.inr rfl,.inr rfl,.inr rfl,.inr rfl,.inl rfl,trivial⟩,fun Bb hB=>SEB.block_exit (id:=2) ?_⟩
  refine SEB.loop_nat (A:=A) (B0:=Bb) (c:=B7z) (I:=fun k=>⟨spPi.rho (C2h a b (a.length+b.length) i k (a.length+b.length) (U0 (A7p b (dg a i) i (X7 a b i) k))),spPi.heap (C2h a b (a.length+b.length) i k (a.length+b.length) (U0 (A7p b (dg a i) i (X7 a b i) k))),[8]⟩) (N:=b.length)
   (fun k hk=>SEB.of_KP (A:=A) (B0:=Bb) (e:=.normal) D6 D7 hp (.none _) hB (G1x ha hb la lb (by omega) hk) rfl) ?_ (by simp) (i:=0) (Nat.zero_le _)
  have hr:=D8g a b (a.length+b.length) i b.length (a.length+b.length) (U0 (X7 a b (i+1)))
  rw [dF (show ¬ (b.length:Int) < (b.length:Int) by omega)] at hr
  exact SEB.of_KP (A:=A) (B0:=Bb) (e:=.exit 2) D6 D7 hp (.none _) hB hr rfl
 ·cases h
theorem F7c (g:Nat->Nat):PrimOK prog A (F9o g):=by
 have hp:=I8 hT
 have hblk:BlkOK prog A (A8p 2 D4x) C6h:=BlkOK.one (body:=.loop B7z) (by kernel_rfl) fun ρ B e ρ' B' D hq=>(E0q hT ρ B e ρ' B' D hq).2
 refine PrimOK.addbP (PrimOK.addbP (F0r hT hG) func140 (show f140.body=some B2g by kernel_rfl) (body:=.loop C6h) (by kernel_rfl) (by kernel_rfl) fun ls e sq l h=>?_) func140 (show f140.body=some B2g by kernel_rfl) (body:=.loop C0w) (by kernel_rfl) (by kernel_rfl) fun ls e sq l h=>?_
 ·split at h
  ·rename_i a b kk i m f
   obtain ⟨hc,hv⟩:=Tr.br1 h
   cases hv
   obtain ⟨rfl,rfl,rfl,rfl,ha,hb,la,lb⟩:=D9 hc
   refine ⟨⟨.inr rfl,.inr rfl,.inr rfl,.inr rfl,.inr rfl,.inr rfl,.inr rfl,.inr rfl,.inl rfl,trivial⟩,fun Bb hB=>SEB.block_exit (id:=0) ?_⟩
   have e0:(fun _=>0:Nat->Int)=U0 (X7 a b 0):=rfl
   rw [e0]
   refine SEB.loop_nat (A:=A) (B0:=Bb) (c:=C6h) (I:=fun i=>⟨spPo.rho (D2m a b (a.length+b.length) i (a.length+b.length) (U0 (X7 a b i))),spPo.heap (D2m a b (a.length+b.length) i (a.length+b.length) (U0 (X7 a b i))),[8]⟩) (N:=a.length) (fun i hi=>?_) ?_ (by simp) (i:=0) (Nat.zero_le _)
   ·have hr:=D8r a b (a.length+b.length) i (a.length+b.length) (U0 (X7 a b i))
    rw [Int.toNat_natCast,dT (show (i:Int) < (a.length:Int) by omega),A8 ⟨rfl,by omega,by omega,rfl,rfl,rfl,ha,hb,la,lb⟩,R4 (by omega) (by omega)] at hr
    exact SEB.of_KP (A:=A) (B0:=Bb) (e:=.normal) D6 D7 hp hblk hB hr rfl
   ·have hr:=D8r a b (a.length+b.length) a.length (a.length+b.length) (U0 (X7 a b a.length))
    rw [dF (show ¬ (a.length:Int) < (a.length:Int) by omega)] at hr
    exact SEB.of_KP (A:=A) (B0:=Bb) (e:=.exit 0) D6 D7 hp hblk hB hr rfl
  ·cases h
 ·split at h
  ·rename_i k1 k2 c i m f m2 g2
   obtain ⟨hc,hv⟩:=Tr.br1 h
   cases hv
   obtain ⟨rfl,rfl,rfl,rfl,rfl,rfl,rfl,hL,hg⟩:=D9 hc
   refine ⟨⟨.inr rfl,.inr rfl,.inr rfl,.inr rfl,.inr rfl,.inr rfl,.inr rfl,.inr rfl,.inr rfl,.inl rfl,trivial⟩,fun Bb hB=>SEB.block_exit (id:=4) ?_⟩
   have e0:∀ L:Nat,([.n L,.n L,.i 0,.i ((L:Int) - 1),.n L,.f (U0 g),.n L,.f fun _=>0]:List Lf)=A6n g L 0:=fun L=>by
    unfold A6n E2l
    rw [C4c]
    simp [tW]
   rw [e0]
   refine SEB.loop_nat (A:=A) (B0:=Bb) (c:=C0w) (I:=fun j=>⟨spPc.rho (A6n g m2 j),spPc.heap (A6n g m2 j),[9]⟩) (N:=m2) (fun j hj=>SEB.of_KP (A:=A) (B0:=Bb) (e:=.normal) D6 D7 hp (.none _) hB (G2a hg hL hj) rfl) ?_ (by simp) (i:=0) (Nat.zero_le _)
   have hr:F3 prog (C9 prog lib2 60) F8 C0w (spPc.rho (A6n g m2 m2)) (spPc.heap (A6n g m2 m2)) (H5 (fun _=>spPc) 10 [9])=some (.exit 4,A6n g m2 m2):=by
    unfold A6n
    rw [D8p,dF (show ¬ (m2:Int) - 1 - (m2:Int) >= 0 by omega)]
    rfl
   exact SEB.of_KP (A:=A) (B0:=Bb) (e:=.exit 4) D6 D7 hp (.none _) hB hr rfl
  ·cases h
end
abbrev D5i (a b:List UInt8) (g:Nat->Nat) (L:Int):Option (List Lf) :=
 brK (decide (0<=L/\L=L/\L < 2147483648)) (brK (A9 ((0:Int)=0/\L.toNat=a.length+b.length/\L.toNat=a.length+b.length/\((fun _=>0:Nat->Int)=fun _=>0)/\a.all F5=true/\b.all F5=true/\a.length < 2 ^ 29/\b.length < 2 ^ 29))
  (brK (decide (0<=((a.length+b.length:Nat):Int)/\((a.length+b.length:Nat):Int)=((a.length+b.length:Nat):Int)/\((a.length+b.length:Nat):Int) < 2147483648))
   (brK (A9 (a.length+b.length=a.length+b.length/\((a.length+b.length:Nat):Int).toNat=a.length+b.length/\(0:Int)=0/\W (((a.length+b.length:Nat):Int) - 1)=((a.length+b.length:Nat):Int) - 1/\((a.length+b.length:Nat):Int).toNat=a.length+b.length/\U0 (X7 a b a.length)=U0 g/\((fun _=>0:Nat->Int)=fun _=>0)/\a.length+b.length < 2147483648/\∀ x,g x<=2 ^ 40))
    (brK (decide (0<=0) && decide (0+(a.length+b.length)<=a.length+b.length)) (some [.s (A0x (C2q (a.length+b.length) (B4s (a.length+b.length) (hW g (a.length+b.length)) (a.length+b.length))))]) none) none) none) none) none
theorem G0j (a b:List UInt8) (g:Nat->Nat):(C9 prog (F9o g) 60).call 140 (spSS.rho [.s a,.s b]) (spSS.heap [.s a,.s b]) (A1j spS1 8 [])=D5i a b g (W ((a.length:Int)+(b.length:Int))):=by kernel_rfl
theorem E4c {a b:List UInt8} (ha:a.all F5=true) (hb:b.all F5=true) (hn:a ≠ []) (la:a.length < 2 ^ 29) (lb:b.length < 2 ^ 29) :
  D5i a b (X7 a b a.length) (W ((a.length:Int)+(b.length:Int)))=some [.s (itoa (D8 0 a*D8 0 b:Nat))]:=by
 have e1:W ((a.length:Int)+(b.length:Int))=((a.length+b.length:Nat):Int):=by rw [R4 (by omega) (by omega)]; omega
 have hg:∀ x,X7 a b a.length x<=2 ^ 40:=fun x=>by
  have:=D3w ha hb a.length x
  omega
 have hpos:0 < a.length:=by cases a with | nil=>exact (hn rfl).elim | cons=>simp
 have hlt:D8 0 a*D8 0 b < 10 ^ (a.length+b.length):=by
  rw [Nat.pow_add]
  exact Nat.mul_lt_mul'' (A4u a ha) (A4u b hb)
 have hbare:A0x (pad (a.length+b.length) (D8 0 a*D8 0 b))=itoa (D8 0 a*D8 0 b:Nat):=by
  rw [A6w (by intro e; have:=L9 (a.length+b.length) (D8 0 a*D8 0 b); rw [e] at this; simp at this; omega) (C5l _ _),C6k,A2i,Nat.mod_eq_of_lt hlt]
 unfold D5i
 rw [e1,Int.toNat_natCast,E5f]
 generalize hL:a.length+b.length=L at *
 have ht:C2q L (B4s L (D8 0 a*D8 0 b) L)=pad L (D8 0 a*D8 0 b):=by
  rw [<- C4i]
  unfold C2q
  simp only [Nat.zero_add]
 rw [ht,hbare,dT (show 0<=(L:Int)/\(L:Int)=(L:Int)/\(L:Int) < 2147483648 by omega),A8 (show (0:Int)=0/\L=L/\L=L/\((fun _=>0:Nat->Int)=fun _=>0)/\a.all F5=true/\b.all F5=true/\a.length < 2 ^ 29/\b.length < 2 ^ 29 from ⟨rfl,rfl,rfl,rfl,ha,hb,la,lb⟩),
  A8 (show L=L/\L=L/\(0:Int)=0/\W ((L:Int) - 1)=(L:Int) - 1/\L=L/\U0 (X7 a b a.length)=U0 (X7 a b a.length)/\((fun _=>0:Nat->Int)=fun _=>0)/\L < 2147483648/\∀ x,X7 a b a.length x<=2 ^ 40 from ⟨rfl,rfl,rfl,by rw [R4 (by omega) (by omega)],rfl,rfl,rfl,by omega,hg⟩),
  dT (show 0+L<=L by omega)]
 rfl
def G7o:List Lf->Tr (SP × List Lf)
 | [.s a,.s b]=>.br (A9 (a.all F5=true/\b.all F5=true/\a ≠ []/\a.length < 2 ^ 29/\b.length < 2 ^ 29)) (.leaf (spS1,[.s (itoa (D8 0 a*D8 0 b:Nat))])) .fail
 | _=>.fail
def pR7:Prims:=pR6.addh 140 (H9 8 (funP spSS 8 [] G7o))
theorem G1f {A:Amb} (hT:Tab A) (hG:gN prog<=A.G):PrimOK prog A pR7:=by
 refine (F0r hT hG).addl gsz func140 (by kernel_rfl) (L8 D6 D7 rfl fun ls sq l h=>?_)
 unfold G7o at h
 split at h
 ·rename_i a b
  obtain ⟨hc,hv⟩:=Tr.br1 h
  cases hv
  obtain ⟨ha,hb,hn,la,lb⟩:=D9 hc
  exact ⟨⟨.inr rfl,.inr rfl,.inr rfl,.inr rfl,.inr rfl,.inr rfl,.inr rfl,.inr rfl,trivial⟩,rfl,rfl,F9o (X7 a b a.length),60,F7c hT hG _,(G0j a b _).trans (E4c ha hb hn la lb)⟩
 ·cases h
end Go.Proofs.Tryz
namespace Go.Proofs.Tryz
open Go.Ad
open Go.Lib (decDigits itoa nDigits decFrom digitVal)
theorem F9l (a b:List UInt8):(C9 prog lib2 60).call 180 [.sstr a,.sstr b] (Bg 8) G9 =
  brK (decide ((a.length:Int) < (b.length:Int))) (some (.bool true)) (brK ((a.length:Int) == (b.length:Int)) (some (.sbool (Op.bytesLess a b))) (some (.bool false))):=by kernel_rfl
def H0y:List Lf->Tr AV
 | [.s a,.s b]=>.br (A9 (a=itoa (D8 0 a:Nat)/\b=itoa (D8 0 b:Nat))) (.leaf (.sbool (decide (D8 0 a < D8 0 b)))) .fail
 | _=>.fail
def pR8:Prims:=pR7.addt 180 (gP [.str,.str] H0y)
theorem D5w {A:Amb} (hT:Tab A) (hG:gN prog<=A.G):PrimOK prog A pR8:=by
 refine PrimOK.addP D6 D7 (I8 hT) (G1f hT hG) hG func180 (by kernel_rfl) fun ls v h=>?_
 unfold H0y at h
 split at h
 ·rename_i a b
  obtain ⟨hc,hv⟩:=Tr.br1 h
  cases hv
  obtain ⟨ha,hb⟩:=D9 hc
  have hl:=E6k (D8 0 a) (D8 0 b)
  rw [<- A0t,<- A0t,<- ha,<- hb] at hl
  have hk:=F9l a b
  have fin:∀ v',(C9 prog lib2 60).call 180 [.sstr a,.sstr b] (Bg 8) G9=some v'->below 0 v'=true->(∀ ι x,VR ι v' x->VR ι (.sbool (decide (D8 0 a < D8 0 b))) x) ->
    H6 0 (mkT [.str,.str] [.s a,.s b]).1=true/\∃ n v',(C9 prog lib2 n).call 180 (mkT [.str,.str] [.s a,.s b]).1 (Bg (gN prog)) G9=some v'/\below 0 v'=true/\∀ ι x,VR ι v' x->VR ι (.sbool (decide (D8 0 a < D8 0 b))) x:=fun v' h1 h2 h3 =>
   ⟨rfl,60,v',by rw [gsz]; exact h1,h2,h3⟩
  by_cases h1:a.length < b.length
  ·rw [dT (show (a.length:Int) < (b.length:Int) by omega)] at hk
   rw [dT h1] at hl
   exact fin _ hk rfl fun ι x=>A0i (by rw [<- hl]; rfl) x
  ·rw [dF (show ¬ (a.length:Int) < (b.length:Int) by omega)] at hk
   rw [dF h1] at hl
   by_cases h2:a.length=b.length
   ·rw [show ((a.length:Int) == (b.length:Int))=true by rw [beq_iff_eq]; omega] at hk
    rw [dT h2] at hl
    exact fin _ hk rfl fun ι x=>E5n (by rw [<- hl]; rfl) x
   ·rw [show ((a.length:Int) == (b.length:Int))=false by rw [beq_eq_false_iff_ne]; omega] at hk
    rw [dF h2] at hl
    exact fin _ hk rfl fun ι x=>A0i (by rw [<- hl]; rfl) x
 ·cases h
def C6y:Code:=f135.body.getD .skip
def C5a:Code:=J3 (K6 2 C6y)
def B3z:Code:=J3 (K6 0 C6y)
def spDi:SP:=⟨[.str,.str]++dr 4++[.str,.str,.int .i64,.int .u8]++dr 31,dd8⟩
def spDo:SP:=⟨[.str,.str]++dr 4++[.str,.str,.int .i64]++dr 32,dd8⟩
def B4u (a b q r:List UInt8) (i d:Int):List Lf:=[.s a,.s b,.s q,.s r,.i i,.i d]
def E3o (a b q r:List UInt8) (i:Int):List Lf:=[.s a,.s b,.s q,.s r,.i i]
theorem F3y (a b q r:List UInt8) (i d:Int):F3 prog (C9 prog pR8 60) F8 C5a (spDi.rho (B4u a b q r i d)) (spDi.heap (B4u a b q r i d)) (H5 (fun _=>spDi) 8 []) =
  brK (A9 (r=itoa (D8 0 r:Nat)/\b=itoa (D8 0 b:Nat))) (brK (!(decide (D8 0 r < D8 0 b))) (brK (A9 (r.all F5=true/\b.all F5=true/\r.length < 2 ^ 30/\b.length < 2 ^ 30/\(false=false->D8 0 b<=D8 0 r)))
   (some (.normal,B4u a b q (itoa (A7e false (D8 0 r) (D8 0 b):Nat)) i (IntKind.u8.wrap (d+1)))) none) (some (.exit 2,B4u a b q r i d))) none:=by kernel_rfl
theorem G3g {a q:List UInt8} {i:Int} {B R d:Nat} (hB:(itoa (B:Int)).length < 2 ^ 28) (hR:(itoa (R:Int)).length < 2 ^ 29) (hd:d < 100) :
  F3 prog (C9 prog pR8 60) F8 C5a (spDi.rho (B4u a (itoa (B:Nat)) q (itoa (R:Nat)) i (48+d:Nat))) (spDi.heap (B4u a (itoa (B:Nat)) q (itoa (R:Nat)) i (48+d:Nat))) (H5 (fun _=>spDi) 8 []) =
  if R < B then some (.exit 2,B4u a (itoa (B:Nat)) q (itoa (R:Nat)) i (48+d:Nat)) else some (.normal,B4u a (itoa (B:Nat)) q (itoa (R - B:Nat)) i (48+(d+1):Nat)):=by
 rw [F3y,K3,K3,A8 ⟨rfl,rfl⟩,E5]
 by_cases h:R < B
 ·rw [if_pos h,dT h]; rfl
 ·have e:((48+d:Nat):Int)+1=((48+(d+1):Nat):Int):=by omega
  rw [if_neg h,dF h,A8 ⟨O1 R,O1 B,by omega,by omega,fun _=>by omega⟩,e,A9r (by omega)]; rfl
def B9x:Blk:=hookP spDi 8 [] fun
 | [.s a,.s b,.s q,.s r,.i i,.i d]=>.br (A9 (d=48/\b=itoa (D8 0 b:Nat)/\r=itoa (D8 0 r:Nat)/\0 < D8 0 b/\D8 0 r / D8 0 b < 10/\b.length < 2 ^ 28/\r.length < 2 ^ 29))
  (.leaf (.normal,spDi,B4u a b q (itoa (D8 0 r % D8 0 b:Nat)) i (48+D8 0 r / D8 0 b:Nat))) .fail
 | _=>.fail
theorem A2p {V U:Nat} (h:V<=U):(itoa (V:Int)).length<=(itoa (U:Int)).length:=by
 rw [A0t,A0t]; exact Q3 h
theorem E1b {A:Amb} (hT:Tab A) (hG:gN prog<=A.G):∀ ρ B e' ρ' B' D,(B9x ρ B).get=some (e',ρ',B',D)->AFr B B' D/\SEB prog A B (.block 2 (.loop C5a)) ⟨ρ,B,[]⟩ e' ⟨ρ',B',D⟩:=by
 have hp:=D5w hT hG
 refine O8 rfl fun ls e sq l h=>?_
 split at h
 ·rename_i a b q r i d
  obtain ⟨hc,hv⟩:=Tr.br1 h
  cases hv
  obtain ⟨rfl,hb,hr,hB,hq,lb,lr⟩:=D9 hc
  generalize D8 0 b=B at *
  generalize D8 0 r=R at *
  subst hb hr
  refine ⟨⟨.inr rfl,.inr rfl,.inr rfl,.inr rfl,.inr rfl,.inr rfl,.inr rfl,.inr rfl,trivial⟩,fun Bb hBb=>SEB.block_exit (id:=2) ?_⟩
  refine SEB.while (fun s:Nat × Nat=>s.1<=R/\s.2+s.1 / B=R / B/\s.1 % B=R % B) (fun s=>s.1) (fun s=>⟨spDi.rho (B4u a (itoa (B:Nat)) q (itoa (s.1:Nat)) i (48+s.2:Nat)),spDi.heap (B4u a (itoa (B:Nat)) q (itoa (s.1:Nat)) i (48+s.2:Nat)),[]⟩)
   (fun _=>(.exit 2,⟨spDi.rho (B4u a (itoa (B:Nat)) q (itoa (R % B:Nat)) i (48+R / B:Nat)),spDi.heap (B4u a (itoa (B:Nat)) q (itoa (R % B:Nat)) i (48+R / B:Nat)),[]⟩)) (fun s hs=>?_) (R,0) ⟨Nat.le_refl _,Nat.zero_add _,rfl⟩
  obtain ⟨S,d⟩:=s
  obtain ⟨h1,h2,h3⟩:=hs
  simp only at h1 h2 h3
  have hdle:d<=R / B:=by rw [<- h2]; exact Nat.le_add_right _ _
  have hk:=G3g (a:=a) (q:=q) (i:=i) (B:=B) (R:=S) (d:=d) lb (Nat.lt_of_le_of_lt (A2p h1) lr) (by omega)
  by_cases hlt:S < B
  ·rw [if_pos hlt] at hk
   rw [Nat.div_eq_of_lt hlt,Nat.add_zero] at h2
   rw [Nat.mod_eq_of_lt hlt] at h3
   right
   refine ⟨by simp,?_⟩
   rw [<- h2,<- h3]
   exact SEB.of_KP (A:=A) (B0:=Bb) (e:=.exit 2) D6 D7 hp (.none _) hBb hk rfl
  ·rw [if_neg hlt] at hk
   left
   refine ⟨(S - B,d+1),⟨by simp only; omega,?_,?_⟩,by simp only; omega,rfl,SEB.of_KP (A:=A) (B0:=Bb) (e:=.normal) D6 D7 hp (.none _) hBb hk rfl⟩
   ·simp only
    have:=Nat.div_eq_sub_div hB (show B<=S by omega)
    omega
   ·simp only
    rw [<- h3,Nat.mod_eq_sub_mod (show B<=S by omega)]
 ·cases h
theorem D7p (a b q r:List UInt8) (i:Int):F3 prog (C9 prog pR8 60) (A8p 2 B9x) B3z (spDo.rho (E3o a b q r i)) (spDo.heap (E3o a b q r i)) (H5 (fun _=>spDo) 8 []) =
  brK (decide (i < (a.length:Int))) (brK (decide (0<=W (i+1)/\W (i+1)<=(a.length:Int)) && decide (0<=i/\i<=((W (i+1)).toNat:Int))) (brK (decide (r.length+((a.take (W (i+1)).toNat).drop i.toNat).length < 4611686018427387904))
   ((fun r':List UInt8=>brK (A9 ((48:Int)=48/\b=itoa (D8 0 b:Nat)/\r'=itoa (D8 0 r':Nat)/\0 < D8 0 b/\D8 0 r' / D8 0 b < 10/\b.length < 2 ^ 28/\r'.length < 2 ^ 29)) (brK (decide (q.length+1 < 4611686018427387904))
    (some (.normal,E3o a b (q++[UInt8.ofNat ((48+D8 0 r' / D8 0 b:Nat):Int).toNat]) (itoa (D8 0 r' % D8 0 b:Nat)) (W (i+1)))) none) none) (A0x (r++(a.take (W (i+1)).toNat).drop i.toNat))) none) none)
   (some (.exit 0,E3o a b q r i)):=by kernel_rfl
def B5k (a:List UInt8) (B i:Nat):List Lf:=E3o a (itoa (B:Nat)) (pad i (D8 0 (a.take i) / B)) (itoa (D8 0 (a.take i) % B:Nat)) i
theorem G3q {a:List UInt8} {B i:Nat} (ha:a.all F5=true) (hB:0 < B) (lB:(itoa (B:Int)).length < 2 ^ 28) (la:a.length < 2 ^ 28) (hi:i < a.length) :
  F3 prog (C9 prog pR8 60) (A8p 2 B9x) B3z (spDo.rho (B5k a B i)) (spDo.heap (B5k a B i)) (H5 (fun _=>spDo) 8 [])=some (.normal,B5k a B (i+1)):=by
 unfold B5k
 have e1:W ((i:Int)+1)=((i+1:Nat):Int):=by rw [R4 (by omega) (by omega)]; omega
 have hd:=C2u ha i
 have hmod:=Nat.mod_lt (D8 0 (a.take i)) hB
 have hsl:(a.take (i+1)).drop i=[a.getD i 0]:=by
  rw [List.take_add_one,List.getElem?_eq_getElem hi,List.drop_append,List.drop_eq_nil_of_le (by simp; omega),List.length_take,Nat.min_eq_left (by omega),Nat.sub_self,List.getD_eq_getElem?_getD,List.getElem?_eq_getElem hi]
  rfl
 have hdg:F5 (a.getD i 0)=true:=by
  rw [List.getD_eq_getElem?_getD,List.getElem?_eq_getElem hi]
  exact List.all_eq_true.1 ha _ (List.getElem_mem hi)
 obtain ⟨d1,d2,d3⟩:=E1m (A:=D8 0 (a.take i)) hB (show dg a i < 10 by omega)
 rw [D7p,e1,Int.toNat_natCast,Int.toNat_natCast,hsl,A6j hi]
 generalize hA:D8 0 (a.take i)=X at *
 have hr:A0x (itoa (X % B:Nat)++[a.getD i 0])=itoa (X % B*10+dg a i:Nat):=by
  rw [A6w (by simp) (by rw [List.all_append,O1]; simp only [List.all_cons,List.all_nil,hdg,Bool.and_self]),C6k,R8,K3]
  rfl
 have hlt:X % B*10+dg a i < 10 ^ ((itoa (B:Int)).length+1):=by
  have:=V9 B
  rw [Nat.pow_succ]
  omega
 have hlen:=U3 hlt (by omega)
 have hlr:(itoa ((X % B:Nat):Int)).length<=(itoa (B:Int)).length:=A2p (by omega)
 have e2:((48+(X % B*10+dg a i) / B:Nat):Int).toNat=48+(X % B*10+dg a i) / B:=Int.toNat_natCast _
 rw [hr]
 dsimp only
 rw [K3,K3,e2,E5z d3,<- d1,<- d2,L9,dT (show (i:Int) < (a.length:Int) by omega),dT (show 0<=((i+1:Nat):Int)/\((i+1:Nat):Int)<=(a.length:Int) by omega),dT (show 0<=(i:Int)/\(i:Int)<=((i+1:Nat):Int) by omega),
  dT (show (itoa ((X % B:Nat):Int)).length+[a.getD i 0].length < 4611686018427387904 by rw [List.length_singleton]; omega)]
 simp only [Bool.and_self,E5]
 rw [A8 ⟨trivial,trivial,trivial,hB,d3,lB,by omega⟩,dT (show i+1 < 4611686018427387904 by omega)]
 rfl
def G1t:Blk:=hookP spDo 8 [] fun
 | [.s a,.s b,.s q,.s r,.i i]=>.br (A9 (i=0/\q=[]/\r=[48]/\a.all F5=true/\b=itoa (D8 0 b:Nat)/\0 < D8 0 b/\a.length < 2 ^ 28/\b.length < 2 ^ 28)) (.leaf (.normal,spDo,B5k a (D8 0 b) a.length)) .fail
 | _=>.fail
def G2w:Prims:=pR8.addb 135 0 G1t
theorem F5j {A:Amb} (hT:Tab A) (hG:gN prog<=A.G):PrimOK prog A G2w:=by
 have hp:=D5w hT hG
 have hblk:BlkOK prog A (A8p 2 B9x) B3z:=BlkOK.one (body:=.loop C5a) (by kernel_rfl) fun ρ B e ρ' B' D hq=>(E1b hT hG ρ B e ρ' B' D hq).2
 refine PrimOK.addbP hp func135 (show f135.body=some C6y by kernel_rfl) (body:=.loop B3z) (by kernel_rfl) (by kernel_rfl) fun ls e sq l h=>?_
 split at h
 ·rename_i a b q r i
  obtain ⟨hc,hv⟩:=Tr.br1 h
  cases hv
  obtain ⟨rfl,rfl,rfl,ha,hb,hB,la,lb⟩:=D9 hc
  generalize D8 0 b=B at *
  subst hb
  refine ⟨⟨.inr rfl,.inr rfl,.inr rfl,.inr rfl,.inr rfl,.inr rfl,.inr rfl,.inr rfl,trivial⟩,fun Bb hBb=>SEB.block_exit (id:=0) ?_⟩
  have e0:([.s a,.s (itoa (B:Nat)),.s [],.s [48],.i 0]:List Lf)=B5k a B 0:=by
   unfold B5k E3o
   rw [show D8 0 (a.take 0)=0 from rfl,Nat.zero_mod,show ((0:Nat):Int)=0 from rfl,itoa0]; rfl
  rw [e0]
  refine SEB.loop_nat (A:=A) (B0:=Bb) (c:=B3z) (I:=fun j=>⟨spDo.rho (B5k a B j),spDo.heap (B5k a B j),[]⟩) (N:=a.length) (fun j hj=>SEB.of_KP (A:=A) (B0:=Bb) (e:=.normal) D6 D7 hp hblk hBb (G3q ha hB lb la hj) rfl) ?_ (by simp) (i:=0) (Nat.zero_le _)
  have hr:F3 prog (C9 prog pR8 60) (A8p 2 B9x) B3z (spDo.rho (B5k a B a.length)) (spDo.heap (B5k a B a.length)) (H5 (fun _=>spDo) 8 [])=some (.exit 0,B5k a B a.length):=by
   unfold B5k
   rw [D7p,dF (show ¬ (a.length:Int) < (a.length:Int) by omega)]
   rfl
  exact SEB.of_KP (A:=A) (B0:=Bb) (e:=.exit 0) D6 D7 hp hblk hBb hr rfl
 ·cases h
theorem F9n (a b:List UInt8):(C9 prog G2w 60).call 135 (spSS.rho [.s a,.s b]) (spSS.heap [.s a,.s b]) (V7 spSS 8 []) =
  brK (A9 ((0:Int)=0/\([]:List UInt8)=[]/\([48]:List UInt8)=[48]/\a.all F5=true/\b=itoa (D8 0 b:Nat)/\0 < D8 0 b/\a.length < 2 ^ 28/\b.length < 2 ^ 28))
   (some [.s (A0x (pad a.length (D8 0 (a.take a.length) / D8 0 b))),.s (itoa (D8 0 (a.take a.length) % D8 0 b:Nat))]) none:=by kernel_rfl
def G5b:List Lf->Tr (SP × List Lf)
 | [.s a,.s b]=>.br (A9 (a.all F5=true/\a ≠ []/\b=itoa (D8 0 b:Nat)/\0 < D8 0 b/\a.length < 2 ^ 28/\b.length < 2 ^ 28)) (.leaf (spSS,[.s (itoa (D8 0 a / D8 0 b:Nat)),.s (itoa (D8 0 a % D8 0 b:Nat))])) .fail
 | _=>.fail
def pR9:Prims:=pR8.addh 135 (H9 8 (funQ spSS 8 [] G5b))
theorem E4r {A:Amb} (hT:Tab A) (hG:gN prog<=A.G):PrimOK prog A pR9:=by
 refine (D5w hT hG).addl gsz func135 (by kernel_rfl) (J7 D6 D7 rfl fun ls sq l h=>?_)
 unfold G5b at h
 split at h
 ·rename_i a b
  obtain ⟨hc,hv⟩:=Tr.br1 h
  cases hv
  obtain ⟨ha,hn,hb,hB,la,lb⟩:=D9 hc
  refine ⟨⟨.inr rfl,.inr rfl,.inr rfl,.inr rfl,.inr rfl,.inr rfl,.inr rfl,.inr rfl,trivial⟩,rfl,G2w,60,_,F5j hT hG,(F9n a b).trans ?_,fun _ _=>.refl⟩
  have hpos:0 < a.length:=by cases a with | nil=>exact (hn rfl).elim | cons=>simp
  rw [A8 ⟨rfl,rfl,rfl,ha,hb,hB,la,lb⟩,E5,List.take_length,A6w (by intro e; have:=L9 a.length (D8 0 a / D8 0 b); rw [e] at this; simp at this; omega) (C5l _ _),C6k,A2i,
   Nat.mod_eq_of_lt (Nat.lt_of_le_of_lt (Nat.div_le_self _ _) (A4u a ha))]
 ·cases h
end Go.Proofs.Tryz
namespace Go.Proofs.Tryz
open Go.Ad
open Go.Lib (decDigits itoa nDigits decFrom digitVal)
def zOK (a:List UInt8):Prop:=isZ a/\a.length < 2 ^ 26
theorem F0j {Z:Int} {k:Nat} (h:Z.natAbs < 10 ^ k) (hk:k < 2 ^ 25) (h1:1<=k):zOK (itoa Z):=by
 refine ⟨I7 Z,?_⟩
 have h2:=A3z Z
 have h3:=A1t h h1
 omega
def D8s:Code:=f178.body.getD .skip
def C7f:Code:=J3 (K6 0 D8s)
def spNu:SP:=⟨[.str]++dr 2++[.int .i64,.str,.int .i64]++dr 21,dd8⟩
def B5j (a:List UInt8) (n:Int) (s:List UInt8) (i:Int):List Lf:=[.s a,.i n,.s s,.i i]
theorem D8a (a:List UInt8) (n:Int) (s:List UInt8) (i:Int):F3 prog (C9 prog lib2 60) F8 C7f (spNu.rho (B5j a n s i)) (spNu.heap (B5j a n s i)) (H5 (fun _=>spNu) 8 []) =
  brK (decide (i < (s.length:Int))) (brK (decide (0<=i/\i < (s.length:Int))) (some (.normal,B5j a (W (W (10*n)+W (IntKind.u8.wrap (((s.getD i.toNat 0).toNat:Int) - 48)))) s (W (i+1)))) none) (some (.exit 0,B5j a n s i)):=by kernel_rfl
theorem C6l {s:List UInt8} (h:s.all F5=true) (i:Nat):D8 0 (s.take i) < 10 ^ i:=by
 have h1:(s.take i).all F5=true:=by
  rw [List.all_eq_true] at h ⊢
  exact fun b hb=>h b (List.mem_of_mem_take hb)
 have:=A4u _ h1
 refine Nat.lt_of_lt_of_le this (Nat.pow_le_pow_right (by decide) ?_)
 rw [List.length_take]; omega
theorem F8r {a s:List UInt8} {i:Nat} (hs:s.all F5=true) (ls:s.length<=18) (hi:i < s.length) :
  F3 prog (C9 prog lib2 60) F8 C7f (spNu.rho (B5j a (D8 0 (s.take i):Nat) s i)) (spNu.heap (B5j a (D8 0 (s.take i):Nat) s i)) (H5 (fun _=>spNu) 8 [])=some (.normal,B5j a (D8 0 (s.take (i+1)):Nat) s (i+1:Nat)):=by
 have h1:=C6l hs i
 have h2:10 ^ i<=10 ^ 17:=Nat.pow_le_pow_right (by decide) (by omega)
 have h3:=C2u hs i
 have e1:(10:Int)*((D8 0 (s.take i):Nat):Int)=((D8 0 (s.take i)*10:Nat):Int):=by omega
 rw [D8a,Int.toNat_natCast,dgI hs hi,e1,B0h (n:=D8 0 (s.take i)*10) (by omega),B0h (n:=dg s i) (by omega),<- Int.natCast_add,<- A6j hi,B0h (n:=D8 0 (s.take (i+1))) (by rw [A6j hi]; omega),
  R4 (by omega) (by omega),dT (show (i:Int) < (s.length:Int) by omega),dT (show 0<=(i:Int)/\(i:Int) < (s.length:Int) by omega)]
 rfl
def G3l:Blk:=hookP spNu 8 [] fun
 | [.s a,.i n,.s s,.i i]=>.br (A9 (n=0/\i=0/\s.all F5=true/\s.length<=18)) (.leaf (.normal,spNu,B5j a (D8 0 s:Nat) s s.length)) .fail
 | _=>.fail
def F7u:Prims:=pR9.addb 178 0 G3l
theorem G1v (a:List UInt8):(C9 prog F7u 60).call 178 [.sstr a] (Bg 8) G9 =
  brK (A9 ((0:Int)=0/\(0:Int)=0/\(F6 a).all F5=true/\(F6 a).length<=18)) (brK (A9 (isZ a)) (brK (decide (A7 a < 0)) (some (.sint .i64 (W (0 - (D8 0 (F6 a):Nat))))) (some (.sint .i64 (D8 0 (F6 a):Nat)))) none) none:=by kernel_rfl
def G5y:List Lf->Tr AV
 | [.s a]=>.br (A9 (isZ a/\(F6 a).length<=18)) (.leaf (.sint .i64 (A7 a))) .fail
 | _=>.fail
def pR10:Prims:=pR9.addt 178 (gP [.str] G5y)
theorem A1l {a:List UInt8} (h:isZ a):F6 a=itoa ((A7 a).natAbs:Nat):=by
 unfold isZ at h
 have:=B4f (A7 a)
 rw [<- h] at this
 rw [A0t]; exact this
section
variable {A:Amb} (hT:Tab A) (hG:gN prog<=A.G)
include hT hG
theorem E7q:PrimOK prog A F7u:=by
 have hp:=I8 hT
 refine PrimOK.addbP (E4r hT hG) func178 (show f178.body=some D8s by kernel_rfl) (body:=.loop C7f) (by kernel_rfl) (by kernel_rfl) fun ls e sq l h=>?_
 split at h
 ·rename_i a n s i
  obtain ⟨hc,hv⟩:=Tr.br1 h
  cases hv
  obtain ⟨rfl,rfl,hs,ls⟩:=D9 hc
  refine ⟨⟨.inr rfl,.inr rfl,.inr rfl,.inr rfl,.inr rfl,.inr rfl,.inr rfl,.inr rfl,trivial⟩,fun Bb hB=>SEB.block_exit (id:=0) ?_⟩
  have e0:([.s a,.i 0,.s s,.i 0]:List Lf)=B5j a (D8 0 (s.take 0):Nat) s (0:Nat):=rfl
  have e1:B5j a (D8 0 s:Nat) s s.length=B5j a (D8 0 (s.take s.length):Nat) s s.length:=by rw [List.take_length]
  rw [e0,e1]
  refine SEB.loop_nat (A:=A) (B0:=Bb) (c:=C7f) (I:=fun j=>⟨spNu.rho (B5j a (D8 0 (s.take j):Nat) s j),spNu.heap (B5j a (D8 0 (s.take j):Nat) s j),[]⟩) (N:=s.length) (fun j hj=>SEB.of_KP (A:=A) (B0:=Bb) (e:=.normal) D6 D7 hp (.none _) hB (F8r hs ls hj) rfl) ?_ (by simp) (i:=0) (Nat.zero_le _)
  have hr:=D8a a (D8 0 (s.take s.length):Nat) s s.length
  rw [dF (show ¬ (s.length:Int) < (s.length:Int) by omega)] at hr
  exact SEB.of_KP (A:=A) (B0:=Bb) (e:=.exit 0) D6 D7 hp (.none _) hB hr rfl
 ·cases h
theorem D9z:PrimOK prog A pR10:=by
 refine PrimOK.addP D6 D7 (E7q hT hG) (E4r hT hG) hG func178 (by kernel_rfl) fun ls v h=>?_
 unfold G5y at h
 split at h
 ·rename_i a
  obtain ⟨hc,hv⟩:=Tr.br1 h
  cases hv
  obtain ⟨hz,hl⟩:=D9 hc
  refine ⟨rfl,60,.sint .i64 (A7 a),?_,rfl,fun ι x h=>h⟩
  rw [gsz]
  refine (G1v a).trans ?_
  have ha:=A1l hz
  have hall:(F6 a).all F5=true:=by rw [ha]; exact O1 _
  have hlt:=A4u _ hall
  have h18:10 ^ (F6 a).length<=10 ^ 18:=Nat.pow_le_pow_right (by decide) hl
  have hv:D8 0 (F6 a)=(A7 a).natAbs:=by rw [ha,K3]
  rw [A8 ⟨rfl,rfl,hall,hl⟩,A8 hz]
  rw [hv] at hlt ⊢
  by_cases h0:A7 a < 0
  ·rw [dT h0,R4 (by omega) (by omega),show (0:Int) - ((A7 a).natAbs:Nat)=A7 a by omega]; rfl
  ·rw [dF h0,show (((A7 a).natAbs:Nat):Int)=A7 a by omega]; rfl
 ·cases h
end
theorem G1m (a:List UInt8):(C9 prog pR10 60).call 141 [.sstr a] (Bg 8) G9=brK (A9 (isZ a)) (brK (decide (1+(F6 a).length < 4611686018427387904)) (some (.sstr (B4r (F6 a) (!(decide (A7 a < 0)))))) none) none:=by kernel_rfl
theorem B7s (V:Nat) (m:Bool):B4r (itoa (V:Int)) m=itoa (sv m V):=by
 unfold B4r
 cases m with
 | false=>rfl
 | true =>
  rw [Q9,Bool.true_and,B1d]
  by_cases h:(V:Int)=0
  ·rw [dT h,h]; rfl
  ·rw [dF h]
   show 45 :: itoa (V:Int)=itoa (-(V:Int))
   rw [A0t]
   unfold itoa
   rw [if_pos (by omega),Int.natAbs_neg,Int.natAbs_natCast]
def H0c:List Lf->Tr AV
 | [.s a]=>.br (A9 (zOK a)) (.leaf (.sstr (itoa (-(A7 a))))) .fail
 | _=>.fail
def pR11:Prims:=pR10.addt 141 (gP [.str] H0c)
theorem G3n (Z:Int):sv (!(decide (Z < 0))) Z.natAbs=-Z:=by
 by_cases h:Z < 0
 ·rw [dT h]; show ((Z.natAbs:Nat):Int)=_; omega
 ·rw [dF h]; show -((Z.natAbs:Nat):Int)=_; omega
theorem B2i {A:Amb} (hT:Tab A) (hG:gN prog<=A.G):PrimOK prog A pR11:=by
 refine PrimOK.addP D6 D7 (D9z hT hG) (D9z hT hG) hG func141 (by kernel_rfl) fun ls v h=>?_
 unfold H0c at h
 split at h
 ·rename_i a
  obtain ⟨hc,hv⟩:=Tr.br1 h
  cases hv
  obtain ⟨hz,hl⟩:=D9 hc
  refine ⟨rfl,60,.sstr (itoa (-(A7 a))),?_,rfl,fun ι x h=>h⟩
  rw [gsz]
  refine (G1m a).trans ?_
  have hle:=(A0v a).1
  rw [A8 hz,dT (show 1+(F6 a).length < 4611686018427387904 by omega),A1l hz,B7s,G3n]
  rfl
 ·cases h
def B6v:Code:=f88.body.getD .skip
def C6o:Code:=J3 (K6 0 B6v)
def spOf:SP:=⟨[.int .i64]++dr 2++[.str]++dr 33,dd8⟩
theorem roundOf (n:Int) (s:List UInt8):F3 prog (C9 prog pR11 60) F8 C6o (spOf.rho [.i n,.s s]) (spOf.heap [.i n,.s s]) (H5 (fun _=>spOf) 8 []) =
  brK (decide (n > 9)) (brK (decide (1+s.length < 4611686018427387904)) (some (.normal,[.i (W (n.tdiv 10)),.s (UInt8.ofNat (IntKind.u8.wrap (W (48+n.tmod 10))).toNat :: s)])) none) (some (.exit 0,[.i n,.s s])):=by kernel_rfl
theorem stepOf {n:Nat} {s:List UInt8} (hn:n < 2 ^ 63) (hs:n > 9->s.length < 100):F3 prog (C9 prog pR11 60) F8 C6o (spOf.rho [.i n,.s s]) (spOf.heap [.i n,.s s]) (H5 (fun _=>spOf) 8 []) =
  if n > 9 then some (.normal,[.i (n / 10:Nat),.s (dig n :: s)]) else some (.exit 0,[.i n,.s s]):=by
 rw [roundOf]
 by_cases h:n > 9
 ·have hs:=hs h
  have e3:((n:Int)).tdiv 10=((n / 10:Nat):Int):=by rw [Int.tdiv_eq_ediv_of_nonneg (Int.natCast_nonneg _)]; rfl
  have e4:((n:Int)).tmod 10=((n % 10:Nat):Int):=by rw [Int.tmod_eq_emod_of_nonneg (Int.natCast_nonneg _)]; rfl
  have e5:(48:Int)+((n % 10:Nat):Int)=((48+n % 10:Nat):Int):=by omega
  rw [if_pos h,dT (show (n:Int) > 9 by omega),dT (show 1+s.length < 4611686018427387904 by omega),e3,e4,e5,B0h (n:=n / 10) (by omega),B0h (n:=48+n % 10) (by omega),A9r (n:=48+n % 10) (by omega),Int.toNat_natCast]
  rfl
 ·rw [if_neg h,dF (show ¬ (n:Int) > 9 by omega)]; rfl
def A9e (n:Nat):Nat:=((decDigits n).headD 0).toNat - 48
def A8f (n:Nat):List UInt8:=(decDigits n).tail
def F1e:Blk:=hookP spOf 8 [] fun
 | [.i n,.s s]=>.br (A9 (0<=n/\n < 2 ^ 63/\s=[])) (.leaf (.normal,spOf,[.i (A9e n.toNat:Nat),.s (A8f n.toNat)])) .fail
 | _=>.fail
theorem E9i {n:Nat} (h:n > 9):A9e n=A9e (n / 10)/\A8f n=A8f (n / 10)++[dig n]:=by
 unfold A9e A8f
 rw [A0j (by omega)]
 have hne:=A1b (n / 10)
 cases hh:decDigits (n / 10) with
 | nil=>exact (hne hh).elim
 | cons b r=>exact ⟨rfl,rfl⟩
theorem D5f {n:Nat} (h:¬ n > 9):A9e n=n/\A8f n=[]:=by
 unfold A9e A8f
 rw [M3 (by omega)]
 refine ⟨?_,rfl⟩
 show (dig n).toNat - 48=n
 rw [A6l]; omega
theorem E1q (n:Nat):UInt8.ofNat (48+A9e n) :: A8f n=decDigits n/\A9e n<=9:=by
 unfold A9e A8f
 cases hh:decDigits n with
 | nil=>exact (A1b n hh).elim
 | cons b r =>
  have hb:=A0u n b (by rw [hh]; simp)
  have:48+(((b :: r).headD 0).toNat - 48)=b.toNat:=by show 48+(b.toNat - 48)=_; omega
  rw [this]
  refine ⟨by rw [UInt8.ofNat_toNat]; rfl,?_⟩
  show b.toNat - 48<=9
  omega
def C8i:Prims:=pR11.addb 88 0 F1e
section
variable {A:Amb} (hT:Tab A) (hG:gN prog<=A.G)
include hT hG
theorem E2e:∀ ρ B e' ρ' B' D,(F1e ρ B).get=some (e',ρ',B',D)->AFr B B' D/\SEB prog A B (.block 0 (.loop C6o)) ⟨ρ,B,[]⟩ e' ⟨ρ',B',D⟩:=by
 have hp:=B2i hT hG
 refine O8 rfl fun ls e sq l h=>?_
 split at h
 ·rename_i n s
  obtain ⟨hc,hv⟩:=Tr.br1 h
  cases hv
  obtain ⟨h0,h1,rfl⟩:=D9 hc
  obtain ⟨n,rfl⟩:=Int.eq_ofNat_of_zero_le h0
  rw [Int.toNat_natCast]
  refine ⟨⟨.inr rfl,.inr rfl,.inr rfl,.inr rfl,.inr rfl,.inr rfl,.inr rfl,.inr rfl,trivial⟩,fun Bb hB=>SEB.block_exit (id:=0) ?_⟩
  have key:=SEB.while (P:=prog) (A:=A) (B0:=Bb) (c:=C6o) (fun s:Nat × List UInt8=>s.1*10 ^ s.2.length < 2 ^ 63) (fun s=>s.1) (fun s=>⟨spOf.rho [.i s.1,.s s.2],spOf.heap [.i s.1,.s s.2],[]⟩)
   (fun s=>(.exit 0,⟨spOf.rho [.i (A9e s.1:Nat),.s (A8f s.1++s.2)],spOf.heap [.i (A9e s.1:Nat),.s (A8f s.1++s.2)],[]⟩)) (fun s hs=>?_) (n,[]) (by simp only [List.length_nil,Nat.pow_zero,Nat.mul_one]; omega)
  ·simp only [List.append_nil] at key
   exact key
  ·obtain ⟨m,t⟩:=s
   simp only at hs
   have hm:m < 2 ^ 63:=Nat.lt_of_le_of_lt (by have:=Nat.mul_le_mul_left m (Nat.pow_pos (n:=t.length) (show 0 < 10 by decide)); omega) hs
   have hlen:m > 9->t.length < 100:=fun hz=>by
    rcases Nat.lt_or_ge t.length 100 with h2 | h2
    ·exact h2
    ·exfalso
     have h3:10 ^ 20<=10 ^ t.length:=Nat.pow_le_pow_right (by decide) (by omega)
     have h4:=Nat.mul_le_mul (show 1<=m by omega) h3
     omega
   have hk:=stepOf hm hlen (s:=t)
   by_cases h9:m > 9
   ·rw [if_pos h9] at hk
    left
    refine ⟨(m / 10,dig m :: t),?_,by simp only; omega,?_,SEB.of_KP (A:=A) (B0:=Bb) (e:=.normal) D6 D7 hp (.none _) hB hk rfl⟩
    ·simp only [List.length_cons,Nat.pow_succ]
     refine Nat.lt_of_le_of_lt ?_ hs
     rw [Nat.mul_comm (10 ^ t.length) 10,<- Nat.mul_assoc]
     exact Nat.mul_le_mul_right _ (Nat.div_mul_le_self _ _)
    ·obtain ⟨t1,t2⟩:=E9i h9
     simp only [t1,t2,List.append_assoc,List.singleton_append]
   ·rw [if_neg h9] at hk
    obtain ⟨t1,t2⟩:=D5f h9
    right
    refine ⟨by simp,?_⟩
    simp only [t1,t2,List.nil_append]
    exact SEB.of_KP (A:=A) (B0:=Bb) (e:=.exit 0) D6 D7 hp (.none _) hB hk rfl
 ·cases h
theorem D1f:PrimOK prog A C8i :=
 (B2i hT hG).addb func88 (show f88.body=some B6v by kernel_rfl) (by kernel_rfl) (E2e hT hG)
end
theorem G2y (n:Int):(C9 prog C8i 60).call 88 [.rng .i64 n 0 9223372036854775807] (Bg 8) G9 =
  brK (n == 0 - n) (brK (n != 0) (some (.str [45,57,50,50,51,51,55,50,48,51,54,56,53,52,55,55,53,56,48,56])) (brK (A9 (0<=n/\n < 2 ^ 63/\([]:List UInt8)=[])) (brK (decide (1+(A8f n.toNat).length < 4611686018427387904))
   (some (.sstr (UInt8.ofNat (IntKind.u8.wrap (W (48+(A9e n.toNat:Nat)))).toNat :: A8f n.toNat))) none) none))
   (brK (A9 (0<=n/\n < 2 ^ 63/\([]:List UInt8)=[])) (brK (decide (1+(A8f n.toNat).length < 4611686018427387904))
   (some (.sstr (UInt8.ofNat (IntKind.u8.wrap (W (48+(A9e n.toNat:Nat)))).toNat :: A8f n.toNat))) none) none):=by kernel_rfl
theorem C4h {n:Int} (h0:0<=n) (h1:n < 2 ^ 63):(C9 prog C8i 60).call 88 [.rng .i64 n 0 9223372036854775807] (Bg 8) G9=some (.sstr (itoa n)):=by
 rw [G2y]
 obtain ⟨n,rfl⟩:=Int.eq_ofNat_of_zero_le h0
 obtain ⟨t1,t2⟩:=E1q n
 have hlen:(A8f n).length<=19:=by
  have h2:=U3 (n:=n) (k:=19) (by omega) (by omega)
  rw [A0t] at h2
  unfold A8f
  rw [List.length_tail]; omega
 have e5:(48:Int)+((A9e n:Nat):Int)=((48+A9e n:Nat):Int):=by omega
 rw [Int.toNat_natCast,A8 ⟨h0,h1,rfl⟩,dT (show 1+(A8f n).length < 4611686018427387904 by omega),e5,B0h (n:=48+A9e n) (by omega),A9r (n:=48+A9e n) (by omega),Int.toNat_natCast,t1,<- A0t]
 by_cases hz:n=0
 ·subst hz; rfl
 ·rw [show ((n:Int) == 0 - (n:Int))=false by rw [beq_eq_false_iff_ne]; omega]; rfl
def G7d:List AV->Tr AV
 | [a]=>match H8 a with
  | some (k,n)=>.br (A9 (k=.i64/\0<=n/\n < 2 ^ 63)) (.leaf (.sstr (itoa n))) .fail
  | none=>.fail
 | _=>.fail
def F7n:Prims:=pR11.addt 88 G7d
def gOf:List AV->Tr AV
 | [a]=>match H8 a with
  | some (k,n)=>.br (A9 (k=.i64/\-(2 ^ 63) < n/\n < 2 ^ 63)) (.leaf (.sstr (itoa n))) .fail
  | none=>.fail
 | _=>.fail
def pR12:Prims:=pR11.addt 88 gOf
theorem C7j {ι:Emb} {a:AV} {k:IntKind} {n lo hi:Int} {xs:List Value} (h:H8 a=some (k,n)) (h1:lo<=n) (h2:n<=hi) (hx:VRL ι [a] xs):VRL ι [.rng k n lo hi] xs:=by
 refine VRL.weaken (show ([.rng k n lo hi]:List AV).length=[a].length from rfl) (fun i a' hi=>?_) hx
 match i,hi with
 | 0,hi=>cases hi; exact ⟨_,rfl,fun v hv=>by simp only [VR]; exact ⟨F7 h hv,h1,h2⟩⟩
 | i+1,hi=>simp at hi
def H0l:SP:=⟨dr 2++[.str]++dr 34,dd8⟩
theorem F3d (n:Int):F3 prog (C9 prog F7n 60) F8 B6v ([.rng .i64 n (-9223372036854775807) (-1)]++List.replicate 36 G7) (Bg 8) (H5 (fun _=>H0l) 8 []) =
  brK (A9 (IntKind.i64=.i64/\0<=0 - n/\0 - n < 2 ^ 63)) (brK (A9 (zOK (itoa (0 - n)))) (some (.ret,[.s (itoa (-(A7 (itoa (0 - n)))))])) none) none:=by kernel_rfl
def pOn (n:Int):Prims:=pR11.addh 88 (G4f [.rng .i64 n (-9223372036854775807) (-1)] (Bg 8) (.sstr (itoa n)) (Bg 8) [])
theorem G9c (n:Int):(C9 prog (pOn n) 60).call 88 [.rng .i64 n (-9223372036854775807) (-1)] (Bg 8) G9 =
  brK (A9 (([.rng .i64 n (-9223372036854775807) (-1)]:List AV)=[.rng .i64 n (-9223372036854775807) (-1)]/\Bg 8=Bg 8)) (some (.sstr (itoa n))) none:=by kernel_rfl
section
variable {A:Amb} (hT:Tab A) (hG:gN prog<=A.G)
include hT hG
theorem F2d:PrimOK prog A F7n:=by
 refine PrimOK.addt3 D6 D7 (B2i hT hG) hG func88 (by kernel_rfl) fun args v hv=>?_
 unfold G7d at hv
 split at hv
 ·rename_i a
  split at hv
  ·rename_i k n hs
   obtain ⟨hc,hv⟩:=Tr.br1 hv
   cases hv
   obtain ⟨rfl,h0,h1⟩:=D9 hc
   obtain ⟨B',hca⟩:=Ca.of_finV (C4h h0 h1)
   exact ⟨C8i,_,_,B',D1f hT hG,fun ι xs hx=>C7j (lo:=0) (hi:=9223372036854775807) hs h0 (by omega) hx,fun ι x hx=>hx,rfl,rfl,by rw [gsz]; exact hca⟩
  ·cases hv
 ·cases hv
theorem G0t {n:Int} (h0:n < 0) (h1:-(2 ^ 63) < n):PrimOK prog A (pOn n):=by
 refine PrimOK.body (B2i hT hG) func88 (show f88.body=some B6v by kernel_rfl) fun args B v B' D hq=>?_
 obtain ⟨hc1,hv⟩:=Tr.br_get0 hq
 obtain ⟨rfl,rfl⟩:=D9 hc1
 simp only [Tr.get,sI,pI] at hv
 obtain ⟨rfl,rfl,rfl⟩:=hv
 have hk:=F3d n
 have hz:zOK (itoa (0 - n)):=F0j (k:=19) (by omega) (by omega) (by omega)
 rw [A8 ⟨rfl,by omega,by omega⟩,A8 hz,C8,show -(0 - n)=n by omega] at hk
 have hs:=SEB.of_KP (A:=A) (B0:=Bg 8) (e:=.ret) D6 D7 (F2d hT hG) (.none _) rfl hk rfl
 exact ⟨⟨Nat.le_refl _,fun _ _ _=>rfl⟩,[.rng .i64 n (-9223372036854775807) (-1)],.ret,_,[.sstr (itoa n)],fun _ _ h=>h,hs,by simp,rfl,rfl,rfl,rfl⟩
theorem D7c:PrimOK prog A pR12:=by
 refine PrimOK.addt3 D6 D7 (B2i hT hG) hG func88 (by kernel_rfl) fun args v hv=>?_
 unfold gOf at hv
 split at hv
 ·rename_i a
  split at hv
  ·rename_i k n hs
   obtain ⟨hc,hv⟩:=Tr.br1 hv
   cases hv
   obtain ⟨rfl,h0,h1⟩:=D9 hc
   by_cases hn:0<=n
   ·obtain ⟨B',hca⟩:=Ca.of_finV (C4h hn h1)
    exact ⟨C8i,_,_,B',D1f hT hG,fun ι xs hx=>C7j (lo:=0) (hi:=9223372036854775807) hs hn (by omega) hx,fun ι x hx=>hx,rfl,rfl,by rw [gsz]; exact hca⟩
   ·have hk:=G9c n
    rw [A8 ⟨rfl,rfl⟩,E5] at hk
    obtain ⟨B',hca⟩:=Ca.of_finV hk
    exact ⟨pOn n,_,_,B',G0t hT hG (by omega) h0,fun ι xs hx=>C7j (lo:=-9223372036854775807) (hi:=-1) hs (by omega) (by omega) hx,fun ι x hx=>hx,rfl,rfl,by rw [gsz]; exact hca⟩
  ·cases hv
 ·cases hv
end
end Go.Proofs.Tryz
namespace Go.Proofs.Tryz
open Go.Ad
open Go.Lib (decDigits itoa nDigits decFrom digitVal)
def V6 (a b:List UInt8):Bool:=decide ((F6 a).length<=18) && decide ((F6 b).length<=18)
theorem G4t (a b:List UInt8):(C9 prog pR12 60).call 134 [.sstr a,.sstr b] (Bg 8) G9 =
  brK (decide (((F6 a).length:Int) > 18)) (some (.tuple [.int .i64 0,.int .i64 0,.bool false])) (brK (decide (((F6 b).length:Int) > 18)) (some (.tuple [.int .i64 0,.int .i64 0,.bool false]))
   (brK (A9 (isZ a/\(F6 a).length<=18)) (brK (A9 (isZ b/\(F6 b).length<=18)) (some (.tuple [.sint .i64 (A7 a),.sint .i64 (A7 b),.bool true])) none) none)):=by kernel_rfl
def G6w:List Lf->Tr AV
 | [.s a,.s b]=>.br (A9 (isZ a/\isZ b)) (.leaf (.tuple [.sint .i64 (bif V6 a b then A7 a else 0),.sint .i64 (bif V6 a b then A7 b else 0),.sbool (V6 a b)])) .fail
 | _=>.fail
def pR13:Prims:=pR12.addt 134 (gP [.str,.str] G6w)
theorem D8m {A:Amb} (hT:Tab A) (hG:gN prog<=A.G):PrimOK prog A pR13:=by
 refine PrimOK.addP D6 D7 (D7c hT hG) (D7c hT hG) hG func134 (by kernel_rfl) fun ls v h=>?_
 unfold G6w at h
 split at h
 ·rename_i a b
  obtain ⟨hc,hv⟩:=Tr.br1 h
  cases hv
  obtain ⟨ha,hb⟩:=D9 hc
  have hk:=G4t a b
  have fin:∀ v',(C9 prog pR12 60).call 134 [.sstr a,.sstr b] (Bg 8) G9=some v'->below 0 v'=true->(∀ ι x,VR ι v' x->VR ι (.tuple [.sint .i64 (bif V6 a b then A7 a else 0),.sint .i64 (bif V6 a b then A7 b else 0),.sbool (V6 a b)]) x) ->
    H6 0 (mkT [.str,.str] [.s a,.s b]).1=true/\∃ n v',(C9 prog pR12 n).call 134 (mkT [.str,.str] [.s a,.s b]).1 (Bg (gN prog)) G9=some v'/\below 0 v'=true/\∀ ι x,VR ι v' x->VR ι (.tuple [.sint .i64 (bif V6 a b then A7 a else 0),.sint .i64 (bif V6 a b then A7 b else 0),.sbool (V6 a b)]) x:=fun v' h1 h2 h3 =>
   ⟨rfl,60,v',by rw [gsz]; exact h1,h2,h3⟩
  by_cases h1:(F6 a).length<=18
  ·rw [dF (show ¬ ((F6 a).length:Int) > 18 by omega)] at hk
   by_cases h2:(F6 b).length<=18
   ·have hs:V6 a b=true:=by unfold V6; rw [dT h1,dT h2]; rfl
    rw [dF (show ¬ ((F6 b).length:Int) > 18 by omega),A8 ⟨ha,h1⟩,A8 ⟨hb,h2⟩] at hk
    refine fin _ hk rfl fun ι x=>?_
    rw [hs]; exact A3i (fun _ h=>h) (fun _ h=>h) (fun _ h=>A0i rfl _ h) x
   ·have hs:V6 a b=false:=by unfold V6; rw [dF h2,Bool.and_false]
    rw [dT (show ((F6 b).length:Int) > 18 by omega)] at hk
    refine fin _ hk rfl fun ι x=>?_
    rw [hs]; exact A3i (fun _ h=>Q4 rfl _ h) (fun _ h=>Q4 rfl _ h) (fun _ h=>A0i rfl _ h) x
  ·have hs:V6 a b=false:=by unfold V6; rw [dF h1,Bool.false_and]
   rw [dT (show ((F6 a).length:Int) > 18 by omega)] at hk
   refine fin _ hk rfl fun ι x=>?_
   rw [hs]; exact A3i (fun _ h=>Q4 rfl _ h) (fun _ h=>Q4 rfl _ h) (fun _ h=>A0i rfl _ h) x
 ·cases h
theorem C5s {a b:List UInt8} (ha:isZ a) (hb:isZ b) (h:V6 a b=true):((A7 a).natAbs < 10 ^ 18/\(A7 b).natAbs < 10 ^ 18):=by
 unfold V6 at h
 rw [Bool.and_eq_true,decide_eq_true_eq,decide_eq_true_eq] at h
 have h1:=V9 (A7 a).natAbs
 have h2:=V9 (A7 b).natAbs
 rw [<- A1l ha] at h1
 rw [<- A1l hb] at h2
 exact ⟨Nat.lt_of_lt_of_le h1 (Nat.pow_le_pow_right (by decide) h.1),Nat.lt_of_lt_of_le h2 (Nat.pow_le_pow_right (by decide) h.2)⟩
abbrev D1i (a x y:List UInt8) (ad s:Bool):Option AV :=
 brK (A9 (x.all F5=true/\y.all F5=true/\x.length < 2 ^ 30/\y.length < 2 ^ 30/\(ad=false->D8 0 y<=D8 0 x))) (brK (A9 (isZ a)) (brK (decide (1+(itoa (A7e ad (D8 0 x) (D8 0 y):Nat)).length < 4611686018427387904))
  (some (.sstr (B4r (itoa (A7e ad (D8 0 x) (D8 0 y):Nat)) s))) none) none) none
abbrev C4v (a b x y:List UInt8) (la lb:Bool) (n:Int):Option AV :=
 brK (A9 (isZ a/\isZ b)) (brK (V6 a b) (brK (A9 (IntKind.i64=.i64/\-(2 ^ 63) < n/\n < 2 ^ 63)) (some (.sstr (itoa n))) none)
  (brK (A9 (isZ a)) (brK (A9 (isZ b)) (brK (la == lb) (D1i a x y true la) (brK (A9 (x=itoa (D8 0 x:Nat)/\y=itoa (D8 0 y:Nat))) (brK (decide (D8 0 x < D8 0 y)) (D1i b y x false lb) (D1i a x y false la)) none)) none) none)) none
theorem G4q (a b:List UInt8):(C9 prog pR13 60).call 158 [.sstr a,.sstr b] (Bg 8) G9 =
  C4v a b (F6 a) (F6 b) (decide (A7 a < 0)) (decide (A7 b < 0)) (W ((bif V6 a b then A7 a else 0)+(bif V6 a b then A7 b else 0))):=by kernel_rfl
theorem C1r {a:List UInt8} {X Y:Nat} {ad s:Bool} (ha:isZ a) (lx:(itoa (X:Int)).length < 2 ^ 27) (ly:(itoa (Y:Int)).length < 2 ^ 27) (hle:ad=false->Y<=X) :
  D1i a (itoa (X:Nat)) (itoa (Y:Nat)) ad s=some (.sstr (itoa (sv s (A7e ad X Y)))):=by
 unfold D1i
 have hlen:(itoa (A7e ad X Y:Nat)).length<=2 ^ 28:=by
  have hx:=V9 X
  have hy:=V9 Y
  have h2:(itoa (X:Int)).length<=max (itoa (X:Int)).length (itoa (Y:Int)).length:=by omega
  have h3:(itoa (Y:Int)).length<=max (itoa (X:Int)).length (itoa (Y:Int)).length:=by omega
  have h4:=Nat.lt_of_lt_of_le hx (Nat.pow_le_pow_right (n:=10) (by decide) h2)
  have h5:=Nat.lt_of_lt_of_le hy (Nat.pow_le_pow_right (n:=10) (by decide) h3)
  have h6:A7e ad X Y < 10 ^ (max (itoa (X:Int)).length (itoa (Y:Int)).length+1):=by
   rw [Nat.pow_succ]
   unfold A7e
   cases ad <;> simp only [cond_true,cond_false] <;> omega
  have:=U3 h6 (by omega)
  omega
 rw [K3,K3,A8 ⟨O1 X,O1 Y,by omega,by omega,hle⟩,A8 ha,dT (show 1+(itoa (A7e ad X Y:Nat)).length < 4611686018427387904 by omega),B7s]
 rfl
def TI (op:Int->Int->Int):List Lf->Tr AV
 | [.s a,.s b]=>.br (A9 (zOK a/\zOK b)) (.leaf (.sstr (itoa (op (A7 a) (A7 b))))) .fail
 | _=>.fail
def pR14:Prims:=pR13.addt 158 (gP [.str,.str] (TI (·+·)))
theorem A7g {a:List UInt8} (h:zOK a):F6 a=itoa ((A7 a).natAbs:Nat)/\(itoa ((A7 a).natAbs:Int)).length < 2 ^ 26:=by
 have h1:=A1l h.1
 have h2:=(A0v a).1
 have h3:=h.2
 rw [h1] at h2
 exact ⟨h1,by omega⟩
theorem F8w (A B:Int) (h:decide (A < 0)=decide (B < 0)):sv (decide (A < 0)) (A.natAbs+B.natAbs)=A+B:=by
 have:=decide_eq_decide.1 h
 by_cases h0:A < 0
 ·rw [dT h0,B1d]; omega
 ·rw [dF h0,B4x]; omega
theorem D3a {a b:List UInt8} (ha:zOK a) (hb:zOK b):C4v a b (F6 a) (F6 b) (decide (A7 a < 0)) (decide (A7 b < 0)) (W ((bif V6 a b then A7 a else 0)+(bif V6 a b then A7 b else 0)))=some (.sstr (itoa (A7 a+A7 b))):=by
 obtain ⟨a1,a2⟩:=A7g ha
 obtain ⟨b1,b2⟩:=A7g hb
 unfold C4v
 rw [A8 ⟨ha.1,hb.1⟩,E5]
 cases hbr:V6 a b with
 | true =>
  obtain ⟨h1,h2⟩:=C5s ha.1 hb.1 hbr
  rw [cond_true,cond_true,R4 (by omega) (by omega),A8 ⟨rfl,by omega,by omega⟩]; rfl
 | false =>
  rw [I4,A8 ha.1,A8 hb.1,E5,E5,a1,b1]
  cases hl:(decide (A7 a < 0) == decide (A7 b < 0)) with
  | true =>
   rw [E5,C1r ha.1 (by omega) (by omega) (fun h=>by cases h)]
   have:=F8w (A7 a) (A7 b) (by simpa using hl)
   show some (AV.sstr (itoa (sv (decide (A7 a < 0)) ((A7 a).natAbs+(A7 b).natAbs))))=_
   rw [this]
  | false =>
   have hne:decide (A7 a < 0) ≠ decide (A7 b < 0):=by simpa using hl
   have hiff:¬ (A7 a < 0 ↔ A7 b < 0):=fun e=>hne (decide_eq_decide.2 e)
   rw [I4,K3,K3,A8 ⟨rfl,rfl⟩,E5]
   by_cases hlt:(A7 a).natAbs < (A7 b).natAbs
   ·rw [dT hlt,E5,C1r hb.1 (by omega) (by omega) (fun _=>by omega)]
    congr 3
    show sv (decide (A7 b < 0)) ((A7 b).natAbs - (A7 a).natAbs)=_
    by_cases h0:A7 b < 0
    ·rw [dT h0,B1d]; omega
    ·rw [dF h0,B4x]; omega
   ·rw [dF hlt,I4,C1r ha.1 (by omega) (by omega) (fun _=>by omega)]
    congr 3
    show sv (decide (A7 a < 0)) ((A7 a).natAbs - (A7 b).natAbs)=_
    by_cases h0:A7 a < 0
    ·rw [dT h0,B1d]; omega
    ·rw [dF h0,B4x]; omega
theorem D8j {A:Amb} (hT:Tab A) (hG:gN prog<=A.G):PrimOK prog A pR14:=by
 refine PrimOK.addP D6 D7 (D8m hT hG) (D8m hT hG) hG func158 (by kernel_rfl) fun ls v h=>?_
 unfold TI at h
 split at h
 ·rename_i a b
  obtain ⟨hc,hv⟩:=Tr.br1 h
  cases hv
  obtain ⟨ha,hb⟩:=D9 hc
  exact ⟨rfl,60,_,by rw [gsz]; exact (G4q a b).trans (D3a ha hb),rfl,fun ι x h=>h⟩
 ·cases h
abbrev D8i (a b x y:List UInt8) (s:Bool):Option AV :=
 brK (A9 (x.all F5=true/\y.all F5=true/\x ≠ []/\x.length < 2 ^ 29/\y.length < 2 ^ 29)) (brK (A9 (isZ a)) (brK (A9 (isZ b)) (brK (decide (1+(itoa (D8 0 x*D8 0 y:Nat)).length < 4611686018427387904))
  (some (.sstr (B4r (itoa (D8 0 x*D8 0 y:Nat)) s))) none) none) none) none
abbrev D2t (a b x y:List UInt8) (la lb:Bool) (n:Int):Option AV :=
 brK (A9 (isZ a/\isZ b)) (brK (V6 a b) (brK (decide (W ((a.length:Int)+(b.length:Int))<=18)) (brK (A9 (IntKind.i64=.i64/\-(2 ^ 63) < n/\n < 2 ^ 63)) (some (.sstr (itoa n))) none) (D8i a b x y (!(la == lb)))) (D8i a b x y (!(la == lb)))) none
theorem G5l (a b:List UInt8):(C9 prog pR14 60).call 86 [.sstr a,.sstr b] (Bg 8) G9 =
  D2t a b (F6 a) (F6 b) (decide (A7 a < 0)) (decide (A7 b < 0)) (W ((bif V6 a b then A7 a else 0)*(bif V6 a b then A7 b else 0))):=by kernel_rfl
theorem F1j {a b:List UInt8} {X Y:Nat} {s:Bool} (ha:isZ a) (hb:isZ b) (lx:(itoa (X:Int)).length < 2 ^ 26) (ly:(itoa (Y:Int)).length < 2 ^ 26) :
  D8i a b (itoa (X:Nat)) (itoa (Y:Nat)) s=some (.sstr (itoa (sv s (X*Y)))):=by
 unfold D8i
 have hlen:(itoa ((X*Y:Nat):Int)).length<=2 ^ 28:=by
  have hx:=V9 X
  have hy:=V9 Y
  have h6:=Nat.mul_lt_mul'' hx hy
  rw [<- Nat.pow_add] at h6
  have hpos:0 < (itoa (X:Int)).length:=by cases hh:itoa (X:Int) with | nil=>exact (A2b _ hh).elim | cons=>simp
  have:=U3 h6 (by omega)
  omega
 rw [K3,K3,A8 ⟨O1 X,O1 Y,A2b _,by omega,by omega⟩,A8 ha,A8 hb,dT (show 1+(itoa ((X*Y:Nat):Int)).length < 4611686018427387904 by omega),B7s]
 rfl
theorem G3s (A B:Int):sv (!(decide (A < 0) == decide (B < 0))) (A.natAbs*B.natAbs)=A*B:=by
 have:=F1t (decide (A < 0)) (decide (B < 0)) A.natAbs B.natAbs
 rw [B6i,B6i] at this
 exact this
def pR15:Prims:=pR14.addt 86 (gP [.str,.str] (TI (·*·)))
theorem C7i {a:List UInt8} (h:isZ a):(A7 a).natAbs < 10 ^ a.length:=by
 have h1:=V9 (A7 a).natAbs
 rw [<- A1l h] at h1
 exact Nat.lt_of_lt_of_le h1 (Nat.pow_le_pow_right (by decide) (A0v a).1)
theorem E0t {a b:List UInt8} (ha:zOK a) (hb:zOK b):D2t a b (F6 a) (F6 b) (decide (A7 a < 0)) (decide (A7 b < 0)) (W ((bif V6 a b then A7 a else 0)*(bif V6 a b then A7 b else 0)))=some (.sstr (itoa (A7 a*A7 b))):=by
 obtain ⟨a1,a2⟩:=A7g ha
 obtain ⟨b1,b2⟩:=A7g hb
 have hlt:=F1j (s:=!(decide (A7 a < 0) == decide (A7 b < 0))) ha.1 hb.1 a2 b2
 rw [G3s] at hlt
 have ha2:=ha.2
 have hb2:=hb.2
 unfold D2t
 rw [A8 ⟨ha.1,hb.1⟩,E5,R4 (n:=(a.length:Int)+(b.length:Int)) (by omega) (by omega)]
 cases hbr:V6 a b with
 | true =>
  rw [E5]
  by_cases h18:a.length+b.length<=18
  ·have h1:=C7i ha.1
   have h2:=C7i hb.1
   have h3:=Nat.mul_lt_mul'' h1 h2
   rw [<- Nat.pow_add] at h3
   have h4:=Nat.lt_of_lt_of_le h3 (Nat.pow_le_pow_right (n:=10) (by decide) h18)
   have h5:(A7 a*A7 b).natAbs < 10 ^ 18:=by rw [Int.natAbs_mul]; exact h4
   rw [cond_true,cond_true,dT (show (a.length:Int)+(b.length:Int)<=18 by omega),E5,R4 (by omega) (by omega),A8 ⟨rfl,by omega,by omega⟩]; rfl
  ·rw [dF (show ¬ (a.length:Int)+(b.length:Int)<=18 by omega),I4,a1,b1]
   exact hlt
 | false=>rw [I4,a1,b1]; exact hlt
theorem D7m {A:Amb} (hT:Tab A) (hG:gN prog<=A.G):PrimOK prog A pR15:=by
 refine PrimOK.addP D6 D7 (D8j hT hG) (D8j hT hG) hG func86 (by kernel_rfl) fun ls v h=>?_
 unfold TI at h
 split at h
 ·rename_i a b
  obtain ⟨hc,hv⟩:=Tr.br1 h
  cases hv
  obtain ⟨ha,hb⟩:=D9 hc
  exact ⟨rfl,60,_,by rw [gsz]; exact (G5l a b).trans (E0t ha hb),rfl,fun ι x h=>h⟩
 ·cases h
theorem G0f (a b:List UInt8):(C9 prog pR15 60).call 139 [.sstr a,.sstr b] (Bg 8) G9 =
  brK (A9 (zOK b)) (brK (A9 (zOK a/\zOK (itoa (-(A7 b))))) (some (.sstr (itoa (A7 a+A7 (itoa (-(A7 b))))))) none) none:=by kernel_rfl
def A2y (a:List UInt8):Prop:=isZ a/\a.length < 2 ^ 26 - 1
theorem A3f {a:List UInt8} (h:A2y a):zOK a:=⟨h.1,by have:=h.2; omega⟩
theorem F0h {a:List UInt8} (h:A2y a):zOK (itoa (-(A7 a))):=by
 refine ⟨I7 _,?_⟩
 have h1:=A3z (-(A7 a))
 have h2:=(A7g (A3f h)).1
 have h3:=(A0v a).1
 have h4:=h.2
 rw [h2,A0t] at h3
 rw [Int.natAbs_neg] at h1
 omega
def TJ (op:Int->Int->Int):List Lf->Tr AV
 | [.s a,.s b]=>.br (A9 (A2y a/\A2y b)) (.leaf (.sstr (itoa (op (A7 a) (A7 b))))) .fail
 | _=>.fail
def pR16:Prims:=pR15.addt 139 (gP [.str,.str] (TJ (· - ·)))
theorem D8o {A:Amb} (hT:Tab A) (hG:gN prog<=A.G):PrimOK prog A pR16:=by
 refine PrimOK.addP D6 D7 (D7m hT hG) (D7m hT hG) hG func139 (by kernel_rfl) fun ls v h=>?_
 unfold TJ at h
 split at h
 ·rename_i a b
  obtain ⟨hc,hv⟩:=Tr.br1 h
  cases hv
  obtain ⟨ha,hb⟩:=D9 hc
  refine ⟨rfl,60,.sstr (itoa (A7 a - A7 b)),?_,rfl,fun ι x h=>h⟩
  rw [gsz]
  refine (G0f a b).trans ?_
  rw [A8 (A3f hb),A8 ⟨A3f ha,F0h hb⟩,C8,Int.sub_eq_add_neg]
  rfl
 ·cases h
theorem G2t (a b:List UInt8):(C9 prog pR16 60).call 131 [.sstr a,.sstr b] (Bg 8) G9 =
  brK (A9 (A2y a/\A2y b)) (brK (itoa (A7 a - A7 b) == [48]) (some (.int .i64 0)) (brK (A9 (isZ (itoa (A7 a - A7 b)))) (brK (decide (A7 (itoa (A7 a - A7 b)) < 0)) (some (.int .i64 (-1))) (some (.int .i64 1))) none)) none:=by kernel_rfl
def G8p:List Lf->Tr AV
 | [.s a,.s b]=>.br (A9 (A2y a/\A2y b)) (.leaf (.sint .i64 (K7 (A7 a - A7 b)))) .fail
 | _=>.fail
def pR17:Prims:=pR16.addt 131 (gP [.str,.str] G8p)
theorem D8e {A:Amb} (hT:Tab A) (hG:gN prog<=A.G):PrimOK prog A pR17:=by
 refine PrimOK.addP D6 D7 (D8o hT hG) (D8o hT hG) hG func131 (by kernel_rfl) fun ls v h=>?_
 unfold G8p at h
 split at h
 ·rename_i a b
  obtain ⟨hc,hv⟩:=Tr.br1 h
  cases hv
  have hab:=D9 hc
  have hk:=G2t a b
  refine ⟨rfl,60,.int .i64 (K7 (A7 a - A7 b)),?_,rfl,fun ι x=>Q4 rfl x⟩
  rw [gsz]
  refine hk.trans ?_
  rw [A8 hab,E5,Q9,A8 (I7 _),C8]
  unfold K7
  by_cases h0:A7 a - A7 b=0
  ·rw [dT h0,if_pos h0]; rfl
  ·rw [dF h0,if_neg h0]
   by_cases h1:A7 a - A7 b < 0
   ·rw [dT h1,if_pos h1]; rfl
   ·rw [dF h1,if_neg h1]; rfl
 ·cases h
end Go.Proofs.Tryz
namespace Go.Proofs.Tryz
open Go.Ad
open Go.Lib (decDigits itoa nDigits decFrom digitVal)
abbrev D0g (x y r:Int):Option (List Lf) :=
 brK (decide ¬ y=0) (brK (A9 (IntKind.i64=.i64/\-(2 ^ 63) < W ((W (x - r)).tdiv y)/\W ((W (x - r)).tdiv y) < 2 ^ 63)) (brK (A9 (IntKind.i64=.i64/\-(2 ^ 63) < r/\r < 2 ^ 63)) (some [.s (itoa (W ((W (x - r)).tdiv y))),.s (itoa r)]) none) none) none
abbrev G3r (x y:Int):Option (List Lf) :=
 brK (decide ¬ y=0) (brK (x.tmod y != 0) (brK (!(decide (x.tmod y < 0) == decide (y < 0))) (D0g x y (W (x.tmod y+y))) (D0g x y (x.tmod y))) (D0g x y (x.tmod y))) none
abbrev A8x (a b out:List UInt8):Option (List Lf) :=
 brK (A9 (zOK out/\zOK b)) (brK (A9 (A2y a/\A2y (itoa (A7 out*A7 b)))) (some [.s out,.s (itoa (A7 a - A7 (itoa (A7 out*A7 b))))]) none) none
abbrev q72 (a b:List UInt8) (la lb:Bool) (r q:List UInt8):Option (List Lf) :=
 brK (!(r == [48])) (brK (A9 (isZ a)) (brK (A9 (isZ b)) (brK (!(la == lb)) (brK (A9 (A2y q/\A2y [49])) (A8x a b (itoa (A7 q - A7 [49]))) none) (A8x a b q)) none) none) (A8x a b q)
abbrev F2w (a b x y:List UInt8) (la lb:Bool):Option (List Lf) :=
 brK (A9 (x.all F5=true/\x ≠ []/\y=itoa (D8 0 y:Nat)/\0 < D8 0 y/\x.length < 2 ^ 28/\y.length < 2 ^ 28)) (brK (A9 (isZ a)) (brK (A9 (isZ b)) (brK (decide (1+(itoa (D8 0 x / D8 0 y:Nat)).length < 4611686018427387904))
  (q72 a b la lb (itoa (D8 0 x % D8 0 y:Nat)) (B4r (itoa (D8 0 x / D8 0 y:Nat)) (!(la == lb)))) none) none) none) none
theorem H0e (a b:List UInt8):(C9 prog pR17 60).call 85 (spSS.rho [.s a,.s b]) (spSS.heap [.s a,.s b]) (V7 spSS 8 []) =
  brK (A9 (isZ a/\isZ b)) (brK (V6 a b) (G3r (bif V6 a b then A7 a else 0) (bif V6 a b then A7 b else 0)) (F2w a b (F6 a) (F6 b) (decide (A7 a < 0)) (decide (A7 b < 0)))) none:=by kernel_rfl
theorem D3s {x y q:Int} (h:x=y*q) (hy:y ≠ 0):x.tdiv y=q:=by
 subst h
 exact Int.mul_tdiv_cancel_left q hy
theorem B7v {x y q r:Int} (h:r+y*q=x) (hy:y ≠ 0) (x1:x.natAbs < 10 ^ 18) (r1:r.natAbs < 2 ^ 62) (q1:q.natAbs < 2 ^ 62):D0g x y r=some [.s (itoa q),.s (itoa r)]:=by
 have e:(x - r).tdiv y=q:=D3s (by omega) hy
 unfold D0g
 rw [R4 (n:=x - r) (by omega) (by omega),e,R4 (n:=q) (by omega) (by omega),dT hy,A8 ⟨rfl,by omega,by omega⟩,A8 ⟨rfl,by omega,by omega⟩]
 rfl
theorem F4e {x y:Int} (hy:y ≠ 0) (x1:x.natAbs < 10 ^ 18) (y1:y.natAbs < 10 ^ 18):G3r x y=some [.s (itoa (x.fdiv y)),.s (itoa (x.fmod y))]:=by
 have h0:=Int.tmod_add_mul_tdiv x y
 have hr:(x.tmod y).natAbs < y.natAbs:=by
  rw [Int.natAbs_tmod]
  exact Nat.mod_lt _ (by omega)
 have hq:(x.tdiv y).natAbs<=x.natAbs:=by
  rw [Int.natAbs_tdiv]
  exact Nat.div_le_self _ _
 unfold G3r
 generalize x.tmod y=r at *
 generalize x.tdiv y=q at *
 rw [dT hy,E5]
 by_cases hr0:r=0
 ·obtain ⟨f1,f2⟩:=A8k (A:=x) (B:=y) (q:=q) (r:=r) h0 (by omega)
  rw [f1,f2,show (r != 0)=false by simpa using hr0,I4]
  exact B7v h0 hy (by omega) (by omega) (by omega)
 ·rw [show (r != 0)=true by simpa using hr0,E5]
  by_cases hs:(r < 0 ↔ y < 0)
  ·obtain ⟨f1,f2⟩:=A8k (A:=x) (B:=y) (q:=q) (r:=r) h0 (by omega)
   rw [f1,f2,show (decide (r < 0) == decide (y < 0))=true by rw [beq_iff_eq]; exact decide_eq_decide.2 hs]
   exact B7v h0 hy (by omega) (by omega) (by omega)
  ·have hm:y*(q - 1)=y*q - y:=by rw [Int.mul_sub,Int.mul_one]
   have h1:r+y+y*(q - 1)=x:=by rw [hm]; omega
   obtain ⟨f1,f2⟩:=A8k (A:=x) (B:=y) (q:=q - 1) (r:=r+y) h1 (by omega)
   rw [f1,f2,show (decide (r < 0) == decide (y < 0))=false by rw [beq_eq_false_iff_ne]; exact fun e=>hs (decide_eq_decide.1 e),R4 (n:=r+y) (by omega) (by omega)]
   exact B7v h1 hy (by omega) (by omega) (by omega)
def M0 (a:List UInt8):Prop:=isZ a/\a.length < 2 ^ 24
theorem Y5 {a:List UInt8} (h:M0 a):A2y a:=⟨h.1,by have:=h.2; omega⟩
theorem Y2 {Z:Int} {k:Nat} (h:Z.natAbs < 10 ^ k) (h1:1<=k):(itoa Z).length<=k+1:=by
 have h2:=A3z Z
 have h3:=A1t h h1
 omega
theorem E9b {a b:List UInt8} {Q:Int} (ha:M0 a) (hb:M0 b) (hq:Q.natAbs < 10 ^ (a.length+1)):A8x a b (itoa Q)=some [.s (itoa Q),.s (itoa (A7 a - Q*A7 b))]:=by
 have h1:=ha.2
 have h2:=hb.2
 have hB:=C7i hb.1
 have hl:=Y2 hq (by omega)
 have h3:(Q*A7 b).natAbs < 10 ^ (a.length+1+b.length):=by
  rw [Int.natAbs_mul,Nat.pow_add]
  exact Nat.mul_lt_mul'' hq hB
 have hl2:=Y2 h3 (by omega)
 unfold A8x
 rw [C8,C8,A8 ⟨⟨I7 _,by omega⟩,A3f (Y5 hb)⟩,A8 ⟨Y5 ha,I7 _,by omega⟩]
 rfl
theorem G0o {a:List UInt8} (h:isZ a):a ≠ []:=by
 unfold isZ at h
 rw [h]; exact A2b _
theorem E8l {a b:List UInt8} (ha:M0 a) (hb:M0 b) (h0:A7 b ≠ 0) :
  F2w a b (F6 a) (F6 b) (decide (A7 a < 0)) (decide (A7 b < 0))=some [.s (itoa ((A7 a).fdiv (A7 b))),.s (itoa ((A7 a).fmod (A7 b)))]:=by
 obtain ⟨a1,a2⟩:=A7g (A3f (Y5 ha))
 obtain ⟨b1,b2⟩:=A7g (A3f (Y5 hb))
 have hA:=C7i ha.1
 have hne:=G0o ha.1
 have la:=ha.2
 unfold F2w
 rw [a1,b1,K3,K3]
 have hU:0 < (A7 b).natAbs:=by omega
 have hdm:=Nat.div_add_mod (A7 a).natAbs (A7 b).natAbs
 have hlt:=Nat.mod_lt (A7 a).natAbs hU
 have hQ:(A7 a).natAbs / (A7 b).natAbs<=(A7 a).natAbs:=Nat.div_le_self _ _
 have hlq:(itoa (((A7 a).natAbs / (A7 b).natAbs:Nat):Int)).length<=(itoa ((A7 a).natAbs:Int)).length:=A2p hQ
 rw [A8 ⟨O1 _,A2b _,rfl,hU,by omega,by omega⟩,A8 ha.1,A8 hb.1,E5,E5,E5,dT (show 1+(itoa (((A7 a).natAbs / (A7 b).natAbs:Nat):Int)).length < 4611686018427387904 by omega),E5,B7s]
 generalize hV:(A7 a).natAbs=V at *
 generalize hUU:(A7 b).natAbs=U at *
 generalize V / U=Q at *
 generalize V % U=R at *
 have hZ:(V:Int)=(U:Int)*(Q:Int)+(R:Int):=by exact_mod_cast hdm.symm
 have hQ10:Q < 10 ^ a.length:=by omega
 have hp10:1<=10 ^ a.length:=Nat.one_le_pow _ _ (by decide)
 have hsvQ:∀ s:Bool,(sv s Q).natAbs=Q:=fun s=>by cases s <;> simp [sv]
 have fl:=@A8k (A7 a) (A7 b)
 have hm1:(U:Int)*-(Q:Int)=-((U:Int)*Q):=Int.mul_neg _ _
 have hm2:-(U:Int)*(Q:Int)=-((U:Int)*Q):=Int.neg_mul _ _
 have hm3:-(U:Int)*-(Q:Int)=(U:Int)*Q:=by rw [Int.neg_mul,Int.mul_neg,Int.neg_neg]
 have hm4:(U:Int)*(-(Q:Int) - 1)=-((U:Int)*Q) - U:=by rw [Int.mul_sub,Int.mul_one,hm1]
 have hm5:-(U:Int)*(-(Q:Int) - 1)=(U:Int)*Q+U:=by rw [Int.mul_sub,Int.mul_one,hm3]; omega
 have key:∀ q r:Int,r+A7 b*q=A7 a->q.natAbs < 10 ^ (a.length+1)->((0 < A7 b/\0<=r/\r < A7 b) \/ (A7 b < 0/\A7 b < r/\r<=0)) ->
   A8x a b (itoa q)=some [.s (itoa ((A7 a).fdiv (A7 b))),.s (itoa ((A7 a).fmod (A7 b)))]:=fun q r h1 h2 h3=>by
  obtain ⟨f1,f2⟩:=fl h1 h3
  rw [E9b ha hb h2,f1,f2,show A7 a - q*A7 b=r by rw [Int.mul_comm]; omega]
 have hsz:∀ n:Nat,n<=Q+1->n < 10 ^ (a.length+1):=fun n hn=>by rw [Nat.pow_succ]; omega
 unfold q72
 by_cases hR:R=0
 ·subst hR
  rw [show (itoa ((0:Nat):Int) == [48])=true from by rw [show ((0:Nat):Int)=0 from rfl,itoa0]; rfl]
  show A8x a b _=_
  refine key (sv (!(decide (A7 a < 0) == decide (A7 b < 0))) Q) 0 ?_ (by rw [hsvQ]; exact hsz _ (by omega)) (by omega)
  by_cases ha0:A7 a < 0 <;> by_cases hb0:A7 b < 0
  ·rw [dT ha0,dT hb0,show (!(true == true))=false from rfl,B4x,show A7 b=-(U:Int) by omega,hm2]; omega
  ·rw [dT ha0,dF hb0,show (!(true == false))=true from rfl,B1d,show A7 b=(U:Int) by omega,hm1]; omega
  ·rw [dF ha0,dT hb0,show (!(false == true))=true from rfl,B1d,show A7 b=-(U:Int) by omega,hm3]; omega
  ·rw [dF ha0,dF hb0,show (!(false == false))=false from rfl,B4x,show A7 b=(U:Int) by omega]; omega
 ·rw [show (itoa ((R:Nat):Int) == [48])=false by rw [Q9]; exact dF (by omega),A8 ha.1,A8 hb.1]
  show brK (!(decide (A7 a < 0) == decide (A7 b < 0))) _ _=_
  by_cases ha0:A7 a < 0 <;> by_cases hb0:A7 b < 0
  ·rw [dT ha0,dT hb0]
   show A8x a b (itoa (sv false Q))=_
   rw [B4x]
   refine key Q (-(R:Int)) ?_ (hsz _ (by omega)) (by omega)
   rw [show A7 b=-(U:Int) by omega,hm2]; omega
  ·rw [dT ha0,dF hb0]
   show brK (A9 (A2y (itoa (sv true Q))/\A2y [49])) (A8x a b (itoa (A7 (itoa (sv true Q)) - 1))) none=_
   have hlen:=Y2 (Z:=sv true Q) (k:=a.length) (by rw [hsvQ]; exact hQ10) (by cases a with | nil=>exact (hne rfl).elim | cons=>simp)
   rw [C8,A8 ⟨⟨I7 _,by omega⟩,by unfold isZ; exact itoa_1.symm,by decide⟩,E5,B1d]
   refine key (-(Q:Int) - 1) ((U:Int) - R) ?_ (hsz _ (by omega)) (by omega)
   rw [show A7 b=(U:Int) by omega,hm4]; omega
  ·rw [dF ha0,dT hb0]
   show brK (A9 (A2y (itoa (sv true Q))/\A2y [49])) (A8x a b (itoa (A7 (itoa (sv true Q)) - 1))) none=_
   have hlen:=Y2 (Z:=sv true Q) (k:=a.length) (by rw [hsvQ]; exact hQ10) (by cases a with | nil=>exact (hne rfl).elim | cons=>simp)
   rw [C8,A8 ⟨⟨I7 _,by omega⟩,by unfold isZ; exact itoa_1.symm,by decide⟩,E5,B1d]
   refine key (-(Q:Int) - 1) ((R:Int) - U) ?_ (hsz _ (by omega)) (by omega)
   rw [show A7 b=-(U:Int) by omega,hm5]; omega
  ·rw [dF ha0,dF hb0]
   show A8x a b (itoa (sv false Q))=_
   rw [B4x]
   refine key Q R ?_ (hsz _ (by omega)) (by omega)
   rw [show A7 b=(U:Int) by omega]; omega
def T72:List Lf->Tr (SP × List Lf)
 | [.s a,.s b]=>.br (A9 (M0 a/\M0 b/\A7 b ≠ 0)) (.leaf (spSS,[.s (itoa ((A7 a).fdiv (A7 b))),.s (itoa ((A7 a).fmod (A7 b)))])) .fail
 | _=>.fail
def pR18:Prims:=pR17.addh 85 (H9 8 (funQ spSS 8 [] T72))
theorem B2j {A:Amb} (hT:Tab A) (hG:gN prog<=A.G):PrimOK prog A pR18:=by
 refine (D8e hT hG).addl gsz func85 (by kernel_rfl) (J7 D6 D7 rfl fun ls sq l h=>?_)
 unfold T72 at h
 split at h
 ·rename_i a b
  obtain ⟨hc,hv⟩:=Tr.br1 h
  cases hv
  obtain ⟨ha,hb,h0⟩:=D9 hc
  refine ⟨⟨.inr rfl,.inr rfl,.inr rfl,.inr rfl,.inr rfl,.inr rfl,.inr rfl,.inr rfl,trivial⟩,rfl,pR17,60,_,D8e hT hG,(H0e a b).trans ?_,fun _ _=>.refl⟩
  rw [A8 ⟨ha.1,hb.1⟩,E5]
  cases hbr:V6 a b with
  | true =>
   obtain ⟨h1,h2⟩:=C5s ha.1 hb.1 hbr
   rw [E5,cond_true,cond_true]
   exact F4e h0 h1 h2
  | false=>exact E8l ha hb h0
 ·cases h
def A3e:Code:=f132.body.getD .skip
def C5i:Code:=J3 (K6 0 A3e)
def C5f:Code:=J3 (K6 2 A3e)
def h0':Code:=D5p A3e
def h1':Code:=D5p (B0b A3e)
def h2':Code:=D5p (B0b (B0b A3e))
def h3':Code:=B0b (B0b (B0b A3e))
theorem D5e:A3e=.seq h0' (.seq h1' (.seq h2' h3')):=by kernel_rfl
theorem G5s:h2'=.block 0 (.loop C5i):=by kernel_rfl
def spShI:SP:=⟨dr 5++[.int .i64,.int .i64]++dr 36,dd8⟩
def spSh:SP:=⟨[.str,.str]++dr 41,dd8⟩
def spShE:SP:=⟨dr 4++[.str]++dr 38,dd8⟩
def F4i:AEx->SP
 | .ret=>spShE
 | _=>spSh
theorem C8v (m n:Int):F3 prog (C9 prog pR18 60) F8 C5f (spShI.rho [.i m,.i n]) (spShI.heap [.i m,.i n]) (H5 (fun _=>spShI) 8 []) =
  brK (decide (n > 0)) (brK (decide ¬n=0) (some (.normal,[.i n,.i (m.tmod n)])) none) (some (.exit 2,[.i m,.i n])):=by kernel_rfl
def C6j:Blk:=hookP spShI 8 [] fun
 | [.i m,.i n]=>.br (A9 (0<=m/\0<=n)) (.leaf (.normal,spShI,[.i (m.toNat.gcd n.toNat:Nat),.i 0])) .fail
 | _=>.fail
theorem F7b (a b:List UInt8):F3 prog (C9 prog pR18 60) (A8p 2 C6j) C5i (spSh.rho [.s a,.s b]) (spSh.heap [.s a,.s b]) (H5 F4i 8 []) =
  brK (!(b == [48])) (brK (A9 (isZ a/\isZ b)) (brK (V6 a b) (brK (A9 (0<=(bif V6 a b then A7 a else 0)/\0<=(bif V6 a b then A7 b else 0)))
   ((fun g:Nat=>brK (A9 (IntKind.i64=.i64/\-(2 ^ 63) < (g:Int)/\(g:Int) < 2 ^ 63)) (some (.ret,[.s (itoa (g:Int))])) none) ((bif V6 a b then A7 a else 0).toNat.gcd (bif V6 a b then A7 b else 0).toNat)) none)
   (brK (A9 (M0 a/\M0 b/\A7 b ≠ 0)) (some (.normal,[.s b,.s (itoa ((A7 a).fmod (A7 b)))])) none)) none) (some (.exit 0,[.s a,.s b])):=by kernel_rfl
def H0g (X Y:Nat):St:=⟨spSh.rho [.s (itoa (X:Nat)),.s (itoa (Y:Nat))],spSh.heap [.s (itoa (X:Nat)),.s (itoa (Y:Nat))],[]⟩
def F8c (s:List UInt8):St:=⟨spShE.rho [.s s],spShE.heap [.s s],[]⟩
section
variable {A:Amb} (hT:Tab A) (hG:gN prog<=A.G)
include hT hG
theorem D3u:∀ ρ B e' ρ' B' D,(C6j ρ B).get=some (e',ρ',B',D)->AFr B B' D/\SEB prog A B (.block 2 (.loop C5f)) ⟨ρ,B,[]⟩ e' ⟨ρ',B',D⟩:=by
 have hp:=B2j hT hG
 refine O8 rfl fun ls e sq l h=>?_
 split at h
 ·rename_i m n
  obtain ⟨hc,hv⟩:=Tr.br1 h
  cases hv
  obtain ⟨hm,hn⟩:=D9 hc
  obtain ⟨m,rfl⟩:=Int.eq_ofNat_of_zero_le hm
  obtain ⟨n,rfl⟩:=Int.eq_ofNat_of_zero_le hn
  rw [Int.toNat_natCast,Int.toNat_natCast]
  refine ⟨⟨.inr rfl,.inr rfl,.inr rfl,.inr rfl,.inr rfl,.inr rfl,.inr rfl,.inr rfl,trivial⟩,fun Bb hB=>SEB.block_exit (id:=2) ?_⟩
  refine SEB.while (fun _:Nat × Nat=>True) (fun s=>s.2) (fun s=>⟨spShI.rho [.i s.1,.i s.2],spShI.heap [.i s.1,.i s.2],[]⟩) (fun s=>(.exit 2,⟨spShI.rho [.i (s.1.gcd s.2:Nat),.i 0],spShI.heap [.i (s.1.gcd s.2:Nat),.i 0],[]⟩)) (fun s _=>?_) (m,n) trivial
  obtain ⟨m,n⟩:=s
  by_cases h0:n=0
  ·subst h0
   right
   refine ⟨by simp,?_⟩
   have hk:=C8v (m:Int) ((0:Nat):Int)
   rw [show decide (((0:Nat):Int) > 0)=false from rfl] at hk
   simp only [Nat.gcd_zero_right]
   exact SEB.of_KP (A:=A) (B0:=Bb) (e:=.exit 2) D6 D7 hp (.none _) hB hk rfl
  ·left
   refine ⟨(n,m % n),trivial,Nat.mod_lt _ (Nat.pos_of_ne_zero h0),?_,?_⟩
   ·show ((AEx.exit 2,(_:St)):AEx × St)=_
    have:n.gcd (m % n)=m.gcd n:=by rw [Nat.gcd_comm,<- Nat.gcd_rec,Nat.gcd_comm]
    rw [this]
   ·have hk:=C8v (m:Int) (n:Int)
    rw [dT (show (n:Int) > 0 by omega),dT (show ¬ (n:Int)=0 by omega)] at hk
    exact SEB.of_KP (A:=A) (B0:=Bb) (e:=.normal) D6 D7 hp (.none _) hB hk rfl
 ·cases h
theorem F9b {Bb:Heap} (hB:Bb.length=8):∀ (Y X:Nat),(itoa (X:Int)).length < 2 ^ 24->(itoa (Y:Int)).length < 2 ^ 24 ->
  ∃ e s',SEB prog A Bb (.loop C5i) (H0g X Y) e s'/\((e=.ret/\s'=F8c (itoa (X.gcd Y:Nat))) \/ (e=.exit 0/\s'=H0g (X.gcd Y) 0)):=by
 have hp:=B2j hT hG
 have hblk:BlkOK prog A (A8p 2 C6j) C5i:=BlkOK.one (body:=.loop C5f) (by kernel_rfl) fun ρ B e ρ' B' D hq=>(D3u hT hG ρ B e ρ' B' D hq).2
 intro Y
 induction Y using Nat.strongRecOn with
 | _ Y ih =>
  intro X hX hY
  have hk:=F7b (itoa (X:Nat)) (itoa (Y:Nat))
  by_cases h0:Y=0
  ·subst h0
   rw [show (!(itoa ((0:Nat):Int) == [48]))=false by rw [Q9]; rfl,I4] at hk
   rw [Nat.gcd_zero_right]
   exact ⟨.exit 0,_,SEB.loop_exit (SEB.of_KP (A:=A) (B0:=Bb) (e:=.exit 0) D6 D7 hp hblk hB hk rfl) (by simp),.inr ⟨rfl,rfl⟩⟩
  ·rw [show (!(itoa ((Y:Nat):Int) == [48]))=true by rw [Q9,dF (by omega)]; rfl,E5,A8 ⟨I7 _,I7 _⟩,E5] at hk
   have hg:Y.gcd (X % Y)=X.gcd Y:=by rw [Nat.gcd_comm,<- Nat.gcd_rec,Nat.gcd_comm]
   have hmod:=Nat.mod_lt X (Nat.pos_of_ne_zero h0)
   cases hbr:V6 (itoa (X:Nat)) (itoa (Y:Nat)) with
   | true =>
    obtain ⟨b1,b2⟩:=C5s (I7 _) (I7 _) hbr
    rw [C8,Int.natAbs_natCast] at b1 b2
    have hgl:X.gcd Y<=Y:=Nat.gcd_le_right _ (Nat.pos_of_ne_zero h0)
    rw [hbr,E5,cond_true,cond_true,C8,C8,A8 ⟨by omega,by omega⟩,E5,Int.toNat_natCast,Int.toNat_natCast] at hk
    dsimp only at hk
    rw [A8 ⟨rfl,by omega,by omega⟩] at hk
    exact ⟨.ret,_,SEB.loop_exit (SEB.of_KP (A:=A) (B0:=Bb) (e:=.ret) D6 D7 hp hblk hB hk rfl) (by simp),.inl ⟨rfl,rfl⟩⟩
   | false =>
    have hfm:((X:Int)).fmod (Y:Int)=((X % Y:Nat):Int):=by rw [Int.fmod_eq_emod_of_nonneg _ (by omega)]; rfl
    rw [hbr,I4,C8,C8,A8 ⟨⟨I7 _,hX⟩,⟨I7 _,hY⟩,by omega⟩,E5,hfm] at hk
    have hs:=SEB.of_KP (A:=A) (B0:=Bb) (e:=.normal) D6 D7 hp hblk hB hk rfl
    obtain ⟨e,s',l1,l2⟩:=ih (X % Y) hmod Y hY (Nat.lt_of_le_of_lt (A2p (Nat.mod_le _ _)) hX)
    rw [hg] at l2
    exact ⟨e,s',SEB.loop_next hs l1,l2⟩
end
theorem G2s (a b:List UInt8):F3 prog (C9 prog pR18 60) F8 h0' ([.sstr a,.sstr b]++List.replicate 41 G7) (Bg 8) (H5 F4i 8 [])=some (.normal,[.s a,.s b]):=by kernel_rfl
theorem G1k (a b:List UInt8):F3 prog (C9 prog pR18 60) F8 h1' (spSh.rho [.s a,.s b]) (spSh.heap [.s a,.s b]) (H5 F4i 8 []) =
  brK (decide (1+(F6 a).length < 4611686018427387904)) (brK (decide (1+(F6 b).length < 4611686018427387904)) (some (.normal,[.s (B4r (F6 a) false),.s (B4r (F6 b) false)])) none) none:=by kernel_rfl
theorem G2x (a b:List UInt8):F3 prog (C9 prog pR18 60) F8 h3' (spSh.rho [.s a,.s b]) (spSh.heap [.s a,.s b]) (H5 F4i 8 [])=some (.ret,[.s a]):=by kernel_rfl
section
variable {A:Amb} (hT:Tab A) (hG:gN prog<=A.G)
include hT hG
theorem G5q {a b:List UInt8} (ha:M0 a) (hb:M0 b):SEB prog A (Bg 8) A3e ⟨[.sstr a,.sstr b]++List.replicate 41 G7,Bg 8,[]⟩ .ret (F8c (itoa (Int.gcd (A7 a) (A7 b):Nat))):=by
 have hp:=B2j hT hG
 have hB:(Bg 8).length=8:=rfl
 rw [D5e]
 refine SEB.seq (SEB.of_KP (A:=A) (e:=.normal) D6 D7 hp (.none _) hB (G2s a b) rfl) ?_
 have k1:=G1k a b
 have la:=(A0v a).1
 have lb:=(A0v b).1
 have la2:=ha.2
 have lb2:=hb.2
 rw [dT (show 1+(F6 a).length < 4611686018427387904 by omega),dT (show 1+(F6 b).length < 4611686018427387904 by omega),show B4r (F6 a) false=F6 a from rfl,show B4r (F6 b) false=F6 b from rfl,
  A1l ha.1,A1l hb.1] at k1
 refine SEB.seq (SEB.of_KP (A:=A) (e:=.normal) D6 D7 hp (.none _) hB k1 rfl) ?_
 rw [A1l ha.1] at la
 rw [A1l hb.1] at lb
 obtain ⟨e,s',l1,l2⟩:=F9b hT hG hB (A7 b).natAbs (A7 a).natAbs (by omega) (by omega)
 rw [G5s]
 rcases l2 with ⟨rfl,rfl⟩ | ⟨rfl,rfl⟩
 ·exact SEB.seq_exit (SEB.block_other l1 (by simp)) (by simp)
 ·refine SEB.seq (SEB.block_exit l1) ?_
  exact SEB.of_KP (A:=A) (e:=.ret) D6 D7 hp (.none _) hB (G2x _ _) rfl
end
def G5o:List Lf->Tr (SP × List Lf)
 | [.s a,.s b]=>.br (A9 (M0 a/\M0 b)) (.leaf (spS1,[.s (itoa (Int.gcd (A7 a) (A7 b):Nat))])) .fail
 | _=>.fail
def pSh (a b x:List UInt8):Prims:=pR18.addh 132 (G4f [.sstr a,.sstr b] (Bg 8) (.sstr x) (Bg 8) [])
theorem G6y (a b x:List UInt8):(C9 prog (pSh a b x) 60).call 132 (spSS.rho [.s a,.s b]) (spSS.heap [.s a,.s b]) (A1j spS1 8 []) =
  brK (A9 (([.sstr a,.sstr b]:List AV)=[.sstr a,.sstr b]/\Bg 8=Bg 8)) (some [.s x]) none:=by kernel_rfl
def pR19:Prims:=pR18.addh 132 (H9 8 (funP spSS 8 [] G5o))
theorem F3j {A:Amb} (hT:Tab A) (hG:gN prog<=A.G):PrimOK prog A pR19:=by
 refine (B2j hT hG).addl gsz func132 (by kernel_rfl) (L8 D6 D7 rfl fun ls sq l h=>?_)
 unfold G5o at h
 split at h
 ·rename_i a b
  obtain ⟨hc,hv⟩:=Tr.br1 h
  cases hv
  obtain ⟨ha,hb⟩:=D9 hc
  refine ⟨⟨.inr rfl,.inr rfl,.inr rfl,.inr rfl,.inr rfl,.inr rfl,.inr rfl,.inr rfl,trivial⟩,rfl,rfl,pSh a b (itoa (Int.gcd (A7 a) (A7 b):Nat)),60,?_,(G6y a b _).trans ?_⟩
  ·refine PrimOK.body (B2j hT hG) func132 (show f132.body=some A3e by kernel_rfl) fun args B v B' D hq=>?_
   obtain ⟨hc1,hv⟩:=Tr.br_get0 hq
   obtain ⟨rfl,rfl⟩:=D9 hc1
   simp only [Tr.get,sI,pI] at hv
   obtain ⟨rfl,rfl,rfl⟩:=hv
   exact ⟨⟨Nat.le_refl _,fun _ _ _=>rfl⟩,[.sstr a,.sstr b],.ret,_,[.sstr (itoa (Int.gcd (A7 a) (A7 b):Nat))],fun _ _ h=>h,G5q hT hG ha hb,by simp,rfl,rfl,rfl,rfl⟩
  ·rw [A8 ⟨rfl,rfl⟩,E5]
 ·cases h
end Go.Proofs.Tryz
