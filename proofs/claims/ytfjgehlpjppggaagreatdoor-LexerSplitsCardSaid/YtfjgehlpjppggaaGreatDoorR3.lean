/- The reference's numbers: digits with zeros in front, columns, sums and differences on paper. -/
import Derived.Test.YtfjgehlpjppggaaGreatDoorVal1
import Derived.Test.YtfjgehlpjppggaaGreatDoorAdRat
noncomputable section
namespace Go.Proofs.Tryz
open Go.Ad
open Go.Lib (decDigits itoa nDigits decFrom digitVal)
theorem C5b (acc:Nat) (s:List UInt8):C0k acc s=E5 acc s:=rfl
def D8o:Code:=f167.body.getD .skip
def D3g:Code:=I7 (J7 0 D8o)
def spWd:SP:=⟨[.str,.int .i64]++dr 3++[.row 8,.int .i64]++dr 20,dd8++[.arr [] .u8 5]⟩
def D3s (s:List UInt8) (n:Int) (k:Nat) (i:Int) (m:Nat) (f:Nat->Int):List Lf:=[.s s,.i n,.n k,.i i,.n m,.f f]
theorem E0o (s:List UInt8) (n:Int) (k:Nat) (i:Int) (m:Nat) (f:Nat->Int):E9 prog (C8 prog lib2 60) F7 D3g (spWd.rho (D3s s n k i m f)) (spWd.heap (D3s s n k i m f)) (H6 (fun _=>spWd) 9 [8]) =
  brK (decide (i < n)) (brK (decide (0<=i/\i < (k:Int)) && decide (0<=0)) (brK (decide (0+i.toNat < m)) (some (.normal,D3s s n k (W (i+1)) m (X9 f (0+i.toNat) 48))) none) none) (some (.exit 0,D3s s n k i m f)):=by kernel_rfl
def A5v (i:Nat):Nat->Int:=fun x=>if x < i then 48 else 0
theorem D5g (i:Nat):X9 (A5v i) i 48=A5v (i+1):=by
 funext x
 unfold X9 A5v
 by_cases h:x=i
 ·subst h; rw [if_pos rfl,if_pos (by omega)]
 ·rw [if_neg h]
  by_cases h2:x < i
  ·rw [if_pos h2,if_pos (by omega)]
  ·rw [if_neg h2,if_neg (by omega)]
def G3j:Blk:=hookP spWd 9 [8] fun
 | [.s s,.i n,.n k,.i i,.n m,.f f]=>.br (A9 (i=0/\n=(k:Int)/\m=k/\(f=fun _=>0)) && decide (k < 2147483648)) (.leaf (.normal,spWd,D3s s n k n m (A5v k))) .fail
 | _=>.fail
def G5u:Prims:=pR3.addb 167 0 G3j
abbrev C1z (k:Nat) (f:Nat->Int):List UInt8:=(List.range k).map fun x=>UInt8.ofNat (f (0+x)).toNat
theorem G0t (s:List UInt8) (n:Int):(C8 prog G5u 60).call 167 [.sstr s,.sint .i64 n] (Bg 8) I4 =
  brK (decide (0<=n/\n=n/\n < 2147483648)) (brK (A9 ((0:Int)=0/\n=(n.toNat:Int)/\n.toNat=n.toNat/\((fun _=>0:Nat->Int)=fun _=>0)) && decide (n.toNat < 2147483648))
   (brK (true && decide (0<=W (n - (s.length:Int))/\W (n - (s.length:Int))<=(n.toNat:Int))) (brK (true && (decide (0<=0+(W (n - (s.length:Int))).toNat) && decide (0+(W (n - (s.length:Int))).toNat+(n.toNat - (W (n - (s.length:Int))).toNat)<=n.toNat)))
    (brK (decide (0<=0) && decide (0+n.toNat<=n.toNat)) (some (.sstr (C1z n.toNat (A9p (A5v n.toNat) (0+(W (n - (s.length:Int))).toNat) (min s.length (n.toNat - (W (n - (s.length:Int))).toNat)) fun x=>((s.getD x 0).toNat:Int))))) none) none) none) none) none:=by kernel_rfl
theorem E3k {s:List UInt8} {k:Nat} (h:s.length<=k):C1z k (A9p (A5v k) (k - s.length) s.length fun x=>((s.getD x 0).toNat:Int))=List.replicate (k - s.length) 48++s:=by
 apply List.ext_getElem
 ·simp; omega
 ·intro i h1 h2
  have hi:i < k:=by simpa [C1z] using h1
  unfold C1z
  rw [List.getElem_map,List.getElem_range,Nat.zero_add]
  unfold A9p
  by_cases hlt:i < k - s.length
  ·rw [dF (show ¬ k - s.length<=i by omega),List.getElem_append_left (by simp; exact hlt)]
   simp [A5v,hi]
  ·rw [dT (show k - s.length<=i by omega),dT (show i < k - s.length+s.length by omega),List.getElem_append_right (by simp; omega)]
   simp only [Bool.and_self,cond_true,Int.toNat_natCast,List.length_replicate]
   rw [List.getD_eq_getElem?_getD,List.getElem?_eq_getElem (by omega)]
   apply UInt8.toNat_inj.1
   simp
def G7r:List Lf->Tr AV
 | [.s s,.i n]=>.br (decide (n < 2147483648) && decide ((s.length:Int)<=n)) (.leaf (.sstr (List.replicate (n.toNat - s.length) 48++s))) .fail
 | _=>.fail
def pR4:Prims:=pR3.addt 167 (gP [.str,.int .i64] G7r)
section
variable {A:Amb} (hT:Tab A) (hG:prog.globals.size<=A.G)
include hT hG
theorem F5w:PrimOK prog A G5u:=by
 have hp:=K5 hT
 refine PrimOK.addbP (E8d hT hG) func167 (show f167.body=some D8o by kernel_rfl) (body:=.loop D3g) (by kernel_rfl) (by kernel_rfl) fun ls e sq l h=>?_
 split at h
 ·rename_i s n k i m f
  obtain ⟨hc,hv⟩:=Tr.br1 h
  cases hv
  rw [Bool.and_eq_true,decide_eq_true_eq] at hc
  obtain ⟨rfl,rfl,rfl,rfl⟩:=D7 hc.1
  have hk:=hc.2
  refine ⟨⟨.inr rfl,.inr rfl,.inr rfl,.inr rfl,.inr rfl,.inr rfl,.inr rfl,.inr rfl,.inl rfl,trivial⟩,fun Bb hB=>SEB.block_exit (id:=0) ?_⟩
  have e0:(fun _=>0:Nat->Int)=A5v 0:=by funext x; unfold A5v; rw [if_neg (by omega)]
  rw [e0]
  refine SEB.loop_nat (A:=A) (B0:=Bb) (c:=D3g) (I:=fun i=>⟨spWd.rho (D3s s m m i m (A5v i)),spWd.heap (D3s s m m i m (A5v i)),[8]⟩) (N:=m) (fun i hi=>?_) ?_ (by simp) (i:=0) (Nat.zero_le _)
  ·have hr:=E0o s m m i m (A5v i)
   rw [dT (show (i:Int) < (m:Int) by omega),dT (show 0<=(i:Int)/\(i:Int) < (m:Int) by omega),Int.toNat_natCast,Nat.zero_add,dT hi,D5g,V7 (by omega) (by omega)] at hr
   exact SEB.of_KP (A:=A) (B0:=Bb) (e:=.normal) D5 D6 hp (.none _) hB hr rfl
  ·have hr:=E0o s m m m m (A5v m)
   rw [dF (show ¬ (m:Int) < (m:Int) by omega)] at hr
   exact SEB.of_KP (A:=A) (B0:=Bb) (e:=.exit 0) D5 D6 hp (.none _) hB hr rfl
 ·cases h
theorem G2j:PrimOK prog A pR4:=by
 refine PrimOK.addP D5 D6 (F5w hT hG) (E8d hT hG) hG func167 (by kernel_rfl) fun ls v h=>?_
 unfold G7r at h
 split at h
 ·rename_i s n
  obtain ⟨hc,hv⟩:=Tr.br1 h
  cases hv
  rw [Bool.and_eq_true,decide_eq_true_eq,decide_eq_true_eq] at hc
  obtain ⟨h1,h2⟩:=hc
  refine ⟨rfl,60,.sstr (List.replicate (n.toNat - s.length) 48++s),?_,rfl,fun ι x h=>h⟩
  rw [gsz]
  refine (G0t s n).trans ?_
  obtain ⟨k,rfl⟩:∃ k:Nat,n=k:=⟨n.toNat,by omega⟩
  have e1:W ((k:Int) - (s.length:Int))=((k - s.length:Nat):Int):=by rw [V7 (by omega) (by omega)]; omega
  rw [e1,Int.toNat_natCast,Int.toNat_natCast,dT (show 0<=(k:Int)/\(k:Int)=(k:Int)/\(k:Int) < 2147483648 by omega),A8 ⟨rfl,rfl,rfl,rfl⟩,dT (show k < 2147483648 by omega),
   dT (show 0<=((k - s.length:Nat):Int)/\((k - s.length:Nat):Int)<=(k:Int) by omega),Nat.zero_add,dT (show 0<=k - s.length by omega),dT (show k - s.length+(k - (k - s.length))<=k by omega),
   Nat.zero_add,dT (show k<=k by omega),show min s.length (k - (k - s.length))=s.length by omega,E3k (by omega)]
  rfl
 ·cases h
end
theorem G3o (c d e:Int) (ad:Bool):(C8 prog lib2 60).call 168 [.rng .u8 c 48 57,.rng .u8 d 48 57,.rng .i64 e 0 1,.sbool ad] (Bg 8) I4 =
  brK ad (brK (decide (c - 48+(d - 48)+e > 9)) (some (.tuple [.rng .u8 (48+(c - 48+(d - 48)+e) - 10) 38 57,.int .i64 1])) (some (.tuple [.rng .u8 (48+(c - 48+(d - 48)+e)) 48 67,.int .i64 0])))
   (brK (decide (c - 48 - (d - 48) - e < 0)) (some (.tuple [.rng .u8 (48+(c - 48 - (d - 48) - e)+10) 48 67,.int .i64 1])) (some (.tuple [.rng .u8 (48+(c - 48 - (d - 48) - e)) 38 57,.int .i64 0]))):=by kernel_rfl
def G8s:List AV->Tr AV
 | [x,y,z,w]=>match J5 x,J5 y,J5 z,sbool? w with
  | some (k1,c),some (k2,d),some (k3,e),some b=>.br (A9 (k1=.u8/\k2=.u8/\k3=.i64) && decide ((48<=c/\c<=57)/\(48<=d/\d<=57)/\(0<=e/\e<=1))) (.leaf (.tuple [.sint .u8 (B9l c d e b).1,.sint .i64 (B9l c d e b).2])) .fail
  | _,_,_,_=>.fail
 | _=>.fail
theorem B4a {ι:Emb} {a b a' b':AV} (h1:∀ v,VR ι a v->VR ι a' v) (h2:∀ v,VR ι b v->VR ι b' v) (x:Value) (h:VR ι (.tuple [a,b]) x):VR ι (.tuple [a',b']) x:=by
 simp only [VR] at h ⊢
 obtain ⟨ys,rfl,hv⟩:=h
 refine ⟨ys,rfl,VRL.weaken (show [a',b'].length=[a,b].length from rfl) (fun i a1 hi=>?_) hv⟩
 match i,hi with
 | 0,hi=>cases hi; exact ⟨_,rfl,h1⟩
 | 1,hi=>cases hi; exact ⟨_,rfl,h2⟩
 | i+2,hi=>simp at hi
theorem B7q {ι:Emb} {k:IntKind} {n m lo hi:Int} (e:n=m) (x:Value) (h:VR ι (.rng k n lo hi) x):VR ι (.sint k m) x:=by
 subst e
 simp only [VR] at h ⊢
 exact h.1
def pR5:Prims:=pR4.addt 168 G8s
theorem F2w {A:Amb} (hT:Tab A) (hG:prog.globals.size<=A.G):PrimOK prog A pR5:=by
 refine PrimOK.addt3 D5 D6 (G2j hT hG) hG func168 (by kernel_rfl) fun args v hv=>?_
 unfold G8s at hv
 split at hv
 ·rename_i x y z w
  split at hv
  ·rename_i k1 c k2 d k3 e b hx hy hz hw
   obtain ⟨hc,hv⟩:=Tr.br1 hv
   cases hv
   rw [Bool.and_eq_true,decide_eq_true_eq] at hc
   obtain ⟨rfl,rfl,rfl⟩:=D7 hc.1
   obtain ⟨b1,b2,b3⟩:=hc.2
   have harg:∀ (ι:Emb) (xs:List Value),VRL ι [x,y,z,w] xs->VRL ι [.rng .u8 c 48 57,.rng .u8 d 48 57,.rng .i64 e 0 1,.sbool b] xs:=fun ι xs hxs=>by
    refine VRL.weaken (show ([.rng .u8 c 48 57,.rng .u8 d 48 57,.rng .i64 e 0 1,.sbool b]:List AV).length=[x,y,z,w].length from rfl) (fun i a' hi=>?_) hxs
    match i,hi with
    | 0,hi=>cases hi; exact ⟨_,rfl,fun v hv=>by simp only [VR]; exact ⟨H9 hx hv,b1⟩⟩
    | 1,hi=>cases hi; exact ⟨_,rfl,fun v hv=>by simp only [VR]; exact ⟨H9 hy hv,b2⟩⟩
    | 2,hi=>cases hi; exact ⟨_,rfl,fun v hv=>by simp only [VR]; exact ⟨H9 hz hv,b3⟩⟩
    | 3,hi=>cases hi; exact ⟨_,rfl,fun v hv=>by simp only [VR]; exact A5m hw hv⟩
    | i+4,hi=>simp at hi
   have fin:∀ v',(C8 prog lib2 60).call 168 [.rng .u8 c 48 57,.rng .u8 d 48 57,.rng .i64 e 0 1,.sbool b] (Bg 8) I4=some v'->below 0 v'=true->(∀ ι x,VR ι v' x->VR ι (.tuple [.sint .u8 (B9l c d e b).1,.sint .i64 (B9l c d e b).2]) x)->_:=fun v' g1 g2 g3 =>
    let ⟨B',hca⟩:=Ca.of_finV g1
    (⟨lib2,_,v',B',K5 hT,harg,g3,rfl,g2,by rw [gsz]; exact hca⟩:∃ prims0 args' v' B',PrimOK prog A prims0/\(∀ (ι:Emb) (xs:List Value),VRL ι [x,y,z,w] xs->VRL ι args' xs)/\(∀ (ι:Emb) (x:Value),VR ι v' x->VR ι (.tuple [.sint .u8 (B9l c d e b).1,.sint .i64 (B9l c d e b).2]) x)/\J8 0 args'=true/\below 0 v'=true/\Ca prog prims0 168 args' (Bg prog.globals.size) (v',B',[]))
   have hk:=G3o c d e b
   unfold B9l at fin
   cases b with
   | true =>
    by_cases h1:c - 48+(d - 48)+e > 9
    ·rw [dT h1] at hk
     refine fin _ hk rfl fun ι x=>?_
     simp only [cond_true,if_pos h1]
     exact B4a (fun v=>B7q rfl v) (fun v=>J4 rfl v) x
    ·rw [dF h1] at hk
     refine fin _ hk rfl fun ι x=>?_
     simp only [cond_true,if_neg h1]
     exact B4a (fun v=>B7q rfl v) (fun v=>J4 rfl v) x
   | false =>
    by_cases h1:c - 48 - (d - 48) - e < 0
    ·rw [dT h1] at hk
     refine fin _ hk rfl fun ι x=>?_
     simp only [cond_false,if_pos h1]
     exact B4a (fun v=>B7q rfl v) (fun v=>J4 rfl v) x
    ·rw [dF h1] at hk
     refine fin _ hk rfl fun ι x=>?_
     simp only [cond_false,if_neg h1]
     exact B4a (fun v=>B7q rfl v) (fun v=>J4 rfl v) x
  ·cases hv
 ·cases hv
end Go.Proofs.Tryz
namespace Go.Proofs.Tryz
open Go.Ad
open Go.Lib (decDigits itoa nDigits decFrom digitVal)
def E0i:Code:=f141.body.getD .skip
def C0t:Code:=I7 (J7 0 E0i)
def spPp:SP:=⟨[.str,.str,.bool]++dr 4++[.int .i64,.row 8,.int .i64,.int .i64]++dr 38,dd8++[.arr [] .u8 5]⟩
def E3z (a b:List UInt8) (ad:Bool) (n:Int) (k:Nat) (c i:Int) (m:Nat) (f:Nat->Int):List Lf:=[.s a,.s b,.b ad,.i n,.n k,.i c,.i i,.n m,.f f]
theorem D8g (a b:List UInt8) (ad:Bool) (n:Int) (k:Nat) (c i:Int) (m:Nat) (f:Nat->Int) :
  E9 prog (C8 prog pR5 60) F7 C0t (spPp.rho (E3z a b ad n k c i m f)) (spPp.heap (E3z a b ad n k c i m f)) (H6 (fun _=>spPp) 9 [8]) =
  brK (decide (i >= 0)) (brK (decide (0<=i/\i < (a.length:Int))) (brK (decide (0<=i/\i < (b.length:Int)))
   (brK (A9 (IntKind.u8=.u8/\IntKind.u8=.u8/\IntKind.i64=.i64) && decide ((48<=((a.getD i.toNat 0).toNat:Int)/\((a.getD i.toNat 0).toNat:Int)<=57)/\(48<=((b.getD i.toNat 0).toNat:Int)/\((b.getD i.toNat 0).toNat:Int)<=57)/\(0<=c/\c<=1)))
    (brK (decide (0<=i/\i < (k:Int)) && decide (0<=0)) (brK (decide (0+i.toNat < m))
     (some (.normal,E3z a b ad n k (B9l ((a.getD i.toNat 0).toNat:Int) ((b.getD i.toNat 0).toNat:Int) c ad).2 (W (i - 1)) m (X9 f (0+i.toNat) (B9l ((a.getD i.toNat 0).toNat:Int) ((b.getD i.toNat 0).toNat:Int) c ad).1))) none) none) none) none) none)
   (some (.exit 0,E3z a b ad n k c i m f)):=by kernel_rfl
def B5c (ad:Bool) (A B n j:Nat):List Lf:=E3z (pad n A) (pad n B) ad n n (cF ad A B j:Nat) ((n:Int) - 1 - j) n (B4y n (A6n ad A B) j)
theorem G4g {ad:Bool} {A B n j:Nat} (h:ad=false->B<=A) (hn:n < 2147483648) (hj:j < n) :
  E9 prog (C8 prog pR5 60) F7 C0t (spPp.rho (B5c ad A B n j)) (spPp.heap (B5c ad A B n j)) (H6 (fun _=>spPp) 9 [8])=some (.normal,B5c ad A B n (j+1)):=by
 unfold B5c
 have hi:(n:Int) - 1 - (j:Int)=((n - 1 - j:Nat):Int):=by omega
 have hc:=F8y ad A B j
 rw [D8g,hi,Int.toNat_natCast,L8,L8,B7j n A _ (by omega),B7j n B _ (by omega),show n - 1 - (n - 1 - j)=j by omega,F3h h,Nat.zero_add,C3c hj,
  dT (show ((n - 1 - j:Nat):Int) >= 0 by omega),dT (show 0<=((n - 1 - j:Nat):Int)/\((n - 1 - j:Nat):Int) < (n:Int) by omega),A8 ⟨rfl,rfl,rfl⟩,
  dT (show (48<=((48+A / 10 ^ j % 10:Nat):Int)/\((48+A / 10 ^ j % 10:Nat):Int)<=57)/\(48<=((48+B / 10 ^ j % 10:Nat):Int)/\((48+B / 10 ^ j % 10:Nat):Int)<=57)/\(0<=((cF ad A B j:Nat):Int)/\((cF ad A B j:Nat):Int)<=1) by omega),
  dT (show n - 1 - j < n by omega),V7 (by omega) (by omega)]
 have h2:((n - 1 - j:Nat):Int) - 1=(n:Int) - 1 - ((j+1:Nat):Int):=by omega
 rw [h2]
 rfl
def G2n:Blk:=hookP spPp 9 [8] fun
 | [.s a,.s b,.b ad,.i n,.n k,.i c,.i i,.n m,.f f] =>
  .br (A9 (n=(m:Int)/\k=m/\c=0/\i=(m:Int) - 1/\(f=fun _=>0)/\a=pad m (E5 0 a)/\b=pad m (E5 0 b)/\(ad=false->E5 0 b<=E5 0 a)) && decide (m < 2147483648)) (.leaf (.normal,spPp,B5c ad (E5 0 a) (E5 0 b) m m)) .fail
 | _=>.fail
def H0f:Prims:=pR5.addb 141 0 G2n
theorem F7s {A:Amb} (hT:Tab A) (hG:prog.globals.size<=A.G):PrimOK prog A H0f:=by
 have hp:=F2w hT hG
 refine PrimOK.addbP hp func141 (show f141.body=some E0i by kernel_rfl) (body:=.loop C0t) (by kernel_rfl) (by kernel_rfl) fun ls e sq l h=>?_
 split at h
 ·rename_i a b ad n k c i m f
  obtain ⟨hc,hv⟩:=Tr.br1 h
  cases hv
  rw [Bool.and_eq_true,decide_eq_true_eq] at hc
  obtain ⟨rfl,rfl,rfl,rfl,rfl,ha,hb,hle⟩:=D7 hc.1
  have hm:=hc.2
  refine ⟨⟨.inr rfl,.inr rfl,.inr rfl,.inr rfl,.inr rfl,.inr rfl,.inr rfl,.inr rfl,.inl rfl,trivial⟩,fun Bb hB=>SEB.block_exit (id:=0) ?_⟩
  generalize E5 0 a=X at *
  generalize E5 0 b=Y at *
  subst ha hb
  have e0:([.s (pad k X),.s (pad k Y),.b ad,.i (k:Int),.n k,.i 0,.i ((k:Int) - 1),.n k,.f fun _=>0]:List Lf)=B5c ad X Y k 0:=by
   unfold B5c E3z
   rw [F7z,C3n]
   simp
  rw [e0]
  refine SEB.loop_nat (A:=A) (B0:=Bb) (c:=C0t) (I:=fun j=>⟨spPp.rho (B5c ad X Y k j),spPp.heap (B5c ad X Y k j),[8]⟩) (N:=k)
   (fun j hj=>SEB.of_KP (A:=A) (B0:=Bb) (e:=.normal) D5 D6 hp (.none _) hB (G4g hle hm hj) rfl) ?_ (by simp) (i:=0) (Nat.zero_le _)
  have hr:E9 prog (C8 prog pR5 60) F7 C0t (spPp.rho (B5c ad X Y k k)) (spPp.heap (B5c ad X Y k k)) (H6 (fun _=>spPp) 9 [8])=some (.exit 0,B5c ad X Y k k):=by
   unfold B5c
   rw [D8g,dF (show ¬ (k:Int) - 1 - (k:Int) >= 0 by omega)]
   rfl
  exact SEB.of_KP (A:=A) (B0:=Bb) (e:=.exit 0) D5 D6 hp (.none _) hB hr rfl
 ·cases h
abbrev C5f (a b:List UInt8) (ad:Bool) (n:Int) (a' b':List UInt8):Option AV :=
 brK (decide (n < 2147483648) && decide ((a.length:Int)<=n)) (brK (decide (n < 2147483648) && decide ((b.length:Int)<=n)) (brK (decide (0<=n/\n=n/\n < 2147483648))
  (brK (A9 (n=(n.toNat:Int)/\n.toNat=n.toNat/\(0:Int)=0/\W (n - 1)=(n.toNat:Int) - 1/\((fun _=>0:Nat->Int)=fun _=>0)/\a'=pad n.toNat (E5 0 a')/\b'=pad n.toNat (E5 0 b')/\(ad=false->E5 0 b'<=E5 0 a')) && decide (n.toNat < 2147483648))
   (brK (decide (0<=0) && decide (0+n.toNat<=n.toNat)) (some (.sstr (A1g (C1z n.toNat (B4y n.toNat (A6n ad (E5 0 a') (E5 0 b')) n.toNat))))) none) none) none) none) none
abbrev nPp (a b:List UInt8):Int:=W ((if (b.length:Int) > (a.length:Int) then (b.length:Int) else (a.length:Int))+1)
theorem G2g (a b:List UInt8) (ad:Bool):(C8 prog H0f 60).call 141 [.sstr a,.sstr b,.sbool ad] (Bg 8) I4 =
  C5f a b ad (nPp a b) (List.replicate ((nPp a b).toNat - a.length) 48++a) (List.replicate ((nPp a b).toNat - b.length) 48++b):=by kernel_rfl
theorem D6p (k:Nat) (s:List UInt8):E5 0 (List.replicate k 48++s)=E5 0 s:=by
 induction k with
 | zero=>rfl
 | succ k ih=>rw [List.replicate_succ,List.cons_append]; exact ih
theorem D2c {s:List UInt8} {n:Nat} (h:s.all F8=true) (hl:s.length<=n):List.replicate (n - s.length) 48++s=pad n (E5 0 s):=by
 have:=F0y n (List.replicate (n - s.length) 48++s) (by rw [List.length_append,List.length_replicate]; omega) (by
  rw [List.all_append,h,Bool.and_true,List.all_eq_true]
  intro b hb
  rw [List.eq_of_mem_replicate hb]; rfl)
 rw [D6p] at this
 exact this
def G5r:List Lf->Tr AV
 | [.s a,.s b,.b ad]=>.br (A9 (a.all F8=true/\b.all F8=true/\a.length < 2 ^ 30/\b.length < 2 ^ 30/\(ad=false->E5 0 b<=E5 0 a))) (.leaf (.sstr (itoa (A6n ad (E5 0 a) (E5 0 b):Nat)))) .fail
 | _=>.fail
def pR6:Prims:=pR5.addt 141 (gP [.str,.str,.bool] G5r)
theorem A6i (s:List UInt8) (h:s.all F8=true):E5 0 s < 10 ^ s.length:=by
 have:=C6p s 0 h
 rwa [Nat.zero_add,Nat.one_mul] at this
theorem D5b {a b:List UInt8} {ad:Bool} (ha:a.all F8=true) (hb:b.all F8=true) (la:a.length < 2 ^ 30) (lb:b.length < 2 ^ 30) (hle:ad=false->E5 0 b<=E5 0 a) :
  C5f a b ad (nPp a b) (List.replicate ((nPp a b).toNat - a.length) 48++a) (List.replicate ((nPp a b).toNat - b.length) 48++b)=some (.sstr (itoa (A6n ad (E5 0 a) (E5 0 b):Nat))):=by
 obtain ⟨k,hk,k1,k2⟩:∃ k:Nat,nPp a b=((k+1:Nat):Int)/\a.length<=k/\b.length<=k/\k < 2 ^ 30:=by
  refine ⟨max a.length b.length,?_,by omega,by omega,by omega⟩
  unfold nPp
  split <;> (rw [V7 (by omega) (by omega)]; omega)
 rw [hk,Int.toNat_natCast,D2c ha (by omega),D2c hb (by omega)]
 have lA:=Nat.lt_of_lt_of_le (A6i a ha) (Nat.pow_le_pow_right (n:=10) (by decide) k1)
 have lB:=Nat.lt_of_lt_of_le (A6i b hb) (Nat.pow_le_pow_right (n:=10) (by decide) k2.1)
 generalize E5 0 a=X at *
 generalize E5 0 b=Y at *
 have hX:X < 10 ^ (k+1):=by rw [Nat.pow_succ]; omega
 have hY:Y < 10 ^ (k+1):=by rw [Nat.pow_succ]; omega
 have hS:A6n ad X Y < 10 ^ (k+1):=by
  unfold A6n
  rw [Nat.pow_succ]
  cases ad <;> simp only [cond_true,cond_false] <;> omega
 unfold C5f
 rw [Int.toNat_natCast,A5q,A5q,Nat.mod_eq_of_lt hX,Nat.mod_eq_of_lt hY,dT (show ((k+1:Nat):Int) < 2147483648 by omega),dT (show (a.length:Int)<=((k+1:Nat):Int) by omega),dT (show (b.length:Int)<=((k+1:Nat):Int) by omega),
  dT (show 0<=((k+1:Nat):Int)/\((k+1:Nat):Int)=((k+1:Nat):Int)/\((k+1:Nat):Int) < 2147483648 by omega),dT (show k+1 < 2147483648 by omega),dT (show 0+(k+1)<=k+1 by omega),
  A8 ⟨rfl,rfl,rfl,by rw [V7 (by omega) (by omega)],rfl,rfl,rfl,hle⟩]
 have ht:C1z (k+1) (B4y (k+1) (A6n ad X Y) (k+1))=pad (k+1) (A6n ad X Y):=by
  rw [<- C3k]
  unfold C1z
  simp only [Nat.zero_add]
 rw [ht,A6o (by intro e; have:=L8 (k+1) (A6n ad X Y); rw [e] at this; simp at this) (C6d _ _),C5b,A5q,Nat.mod_eq_of_lt hS]
 rfl
theorem F0u {A:Amb} (hT:Tab A) (hG:prog.globals.size<=A.G):PrimOK prog A pR6:=by
 refine PrimOK.addP D5 D6 (F7s hT hG) (F2w hT hG) hG func141 (by kernel_rfl) fun ls v h=>?_
 unfold G5r at h
 split at h
 ·rename_i a b ad
  obtain ⟨hc,hv⟩:=Tr.br1 h
  cases hv
  obtain ⟨ha,hb,la,lb,hle⟩:=D7 hc
  exact ⟨rfl,60,_,by rw [gsz]; exact (G2g a b ad).trans (D5b ha hb la lb hle),rfl,fun ι x h=>h⟩
 ·cases h
end Go.Proofs.Tryz
namespace Go.Proofs.Tryz
open Go.Ad
open Go.Lib (decDigits itoa nDigits decFrom digitVal)
theorem F9t {n:Int} (h0:0<=n) (h1:n<=255):IntKind.u8.wrap n=n:=by
 have e:(2:Int) ^ IntKind.u8.bits=256:=by decide
 unfold IntKind.wrap
 simp only [e,show IntKind.u8.signed=false from rfl,Bool.false_and,Bool.false_eq_true,if_false]
 omega
theorem B1b {n:Nat} (h:n<=2 ^ 62):W (n:Int)=n:=V7 (by omega) (by omega)
theorem B0m {n:Nat} (h:n<=255):IntKind.u8.wrap (n:Int)=n:=F9t (by omega) (by omega)
theorem dgI {s:List UInt8} (h:s.all F8=true) {i:Nat} (hi:i < s.length):IntKind.u8.wrap (((s.getD i 0).toNat:Int) - 48)=(dg s i:Nat):=by
 unfold dg
 rw [List.getD_eq_getElem?_getD,List.getElem?_eq_getElem hi]
 have:=List.all_eq_true.1 h _ (List.getElem_mem hi)
 have hb:48<=(s[i]).toNat/\(s[i]).toNat<=57:=by simpa [F8] using this
 simp only [Option.getD_some]
 rw [F9t (by omega) (by omega)]; omega
def B3u:Code:=f123.body.getD .skip
def C0s:Code:=I7 (J7 2 B3u)
def C5c:Code:=I7 (J7 0 B3u)
def C1g:Code:=I7 (J7 4 B3u)
def spPi:SP:=⟨[.str,.str]++dr 3++[.row 8,.int .i64,.int .i64]++dr 69,dd8++[.arr [] .i64 3]⟩
def spPo:SP:=⟨[.str,.str]++dr 3++[.row 8,.int .i64]++dr 70,dd8++[.arr [] .i64 3]⟩
def spPc:SP:=⟨dr 5++[.row 8]++dr 2++[.row 9,.int .i64,.int .i64]++dr 66,dd8++[.arr [] .i64 3,.arr [] .u8 5]⟩
def C2c (a b:List UInt8) (kk:Nat) (i k:Int) (m:Nat) (f:Nat->Int):List Lf:=[.s a,.s b,.n kk,.i i,.i k,.n m,.f f]
def D7a (a b:List UInt8) (kk:Nat) (i:Int) (m:Nat) (f:Nat->Int):List Lf:=[.s a,.s b,.n kk,.i i,.n m,.f f]
def E4b (kk k2:Nat) (c i:Int) (m:Nat) (f:Nat->Int) (m2:Nat) (g:Nat->Int):List Lf:=[.n kk,.n k2,.i c,.i i,.n m,.f f,.n m2,.f g]
abbrev plI (i k:Int):Int:=W (W (i+k)+1)
theorem D7z (a b:List UInt8) (kk:Nat) (i k:Int) (m:Nat) (f:Nat->Int):E9 prog (C8 prog lib2 60) F7 C0s (spPi.rho (C2c a b kk i k m f)) (spPi.heap (C2c a b kk i k m f)) (H6 (fun _=>spPi) 9 [8]) =
  brK (decide (k < (b.length:Int))) (brK (decide (0<=plI i k/\plI i k < (kk:Int)) && decide (0<=0)) (brK (decide (0+(plI i k).toNat < m)) (brK (decide (0<=i/\i < (a.length:Int))) (brK (decide (0<=k/\k < (b.length:Int))) (brK (decide (0<=plI i k/\plI i k < (kk:Int)) && decide (0<=0)) (brK (decide (0+(plI i k).toNat < m))
   (some (.normal,C2c a b kk i (W (k+1)) m (X9 f (0+(plI i k).toNat) (W (f (0+(plI i k).toNat)+W (W (IntKind.u8.wrap (((a.getD i.toNat 0).toNat:Int) - 48))*W (IntKind.u8.wrap (((b.getD k.toNat 0).toNat:Int) - 48)))))))) none) none) none) none) none) none)
   (some (.exit 2,C2c a b kk i k m f)):=by kernel_rfl
def S9 (g:Nat->Nat):Nat->Int:=fun x=>((g x:Nat):Int)
theorem E1y (g:Nat->Nat) (i v:Nat):X9 (S9 g) i (((g i+v:Nat):Int))=S9 (B7a g i v):=by
 funext x
 unfold X9 S9 B7a
 by_cases h:x=i
 ·rw [if_pos h,if_pos h]
 ·rw [if_neg h,if_neg h]
theorem G0a {a b:List UInt8} {i k:Nat} (ha:a.all F8=true) (hb:b.all F8=true) (la:a.length < 2 ^ 29) (lb:b.length < 2 ^ 29) (hi:i < a.length) (hk:k < b.length) :
  E9 prog (C8 prog lib2 60) F7 C0s (spPi.rho (C2c a b (a.length+b.length) i k (a.length+b.length) (S9 (A7n b (dg a i) i (X3 a b i) k)))) (spPi.heap (C2c a b (a.length+b.length) i k (a.length+b.length) (S9 (A7n b (dg a i) i (X3 a b i) k)))) (H6 (fun _=>spPi) 9 [8]) =
  some (.normal,C2c a b (a.length+b.length) i (k+1:Nat) (a.length+b.length) (S9 (A7n b (dg a i) i (X3 a b i) (k+1)))):=by
 have e1:plI (i:Int) (k:Int)=((i+k+1:Nat):Int):=by unfold plI; rw [V7 (n:=(i:Int)+k) (by omega) (by omega),V7 (by omega) (by omega)]; omega
 have d1:=C3j ha i
 have d2:=C3j hb k
 have hm:=Nat.mul_le_mul d1 d2
 have hg:=D4j (d:=dg a i) (i:=i) hb d1 (g:=X3 a b i) (M:=81*i) (D5z ha hb i) k (i+k+1)
 rw [D7z,e1,Int.toNat_natCast,Int.toNat_natCast,Int.toNat_natCast,Nat.zero_add,dgI ha hi,dgI hb hk,V7 (n:=((dg a i:Nat):Int)) (by omega) (by omega),V7 (n:=((dg b k:Nat):Int)) (by omega) (by omega),<- Int.natCast_mul,
  V7 (n:=((dg a i*dg b k:Nat):Int)) (by omega) (by omega)]
 have e2:S9 (A7n b (dg a i) i (X3 a b i) k) (i+k+1)=((A7n b (dg a i) i (X3 a b i) k (i+k+1):Nat):Int):=rfl
 rw [e2,<- Int.natCast_add,B1b (n:=A7n b (dg a i) i (X3 a b i) k (i+k+1)+dg a i*dg b k) (by omega),E1y,V7 (by omega) (by omega),dT (show (k:Int) < (b.length:Int) by omega),dT (show 0<=((i+k+1:Nat):Int)/\((i+k+1:Nat):Int) < ((a.length+b.length:Nat):Int) by omega),
  dT (show i+k+1 < a.length+b.length by omega),dT (show 0<=(i:Int)/\(i:Int) < (a.length:Int) by omega),dT (show 0<=(k:Int)/\(k:Int) < (b.length:Int) by omega)]
 rfl
def D3j:Blk:=hookP spPi 9 [8] fun
 | [.s a,.s b,.n kk,.i i,.i k,.n m,.f f] =>
  .br (A9 (k=0/\0<=i/\i < (a.length:Int)/\kk=a.length+b.length/\m=a.length+b.length/\f=S9 (X3 a b i.toNat)/\a.all F8=true/\b.all F8=true/\a.length < 2 ^ 29/\b.length < 2 ^ 29)) (.leaf (.normal,spPi,C2c a b (a.length+b.length) i b.length (a.length+b.length) (S9 (X3 a b (i.toNat+1))))) .fail
 | _=>.fail
theorem D9m (a b:List UInt8) (kk:Nat) (i:Int) (m:Nat) (f:Nat->Int):E9 prog (C8 prog lib2 60) (A8y 2 D3j) C5c (spPo.rho (D7a a b kk i m f)) (spPo.heap (D7a a b kk i m f)) (H6 (fun _=>spPo) 9 [8]) =
  brK (decide (i < (a.length:Int))) (brK (A9 ((0:Int)=0/\0<=i/\i < (a.length:Int)/\kk=a.length+b.length/\m=a.length+b.length/\f=S9 (X3 a b i.toNat)/\a.all F8=true/\b.all F8=true/\a.length < 2 ^ 29/\b.length < 2 ^ 29))
   (some (.normal,D7a a b (a.length+b.length) (W (i+1)) (a.length+b.length) (S9 (X3 a b (i.toNat+1))))) none) (some (.exit 0,D7a a b kk i m f)):=by kernel_rfl
theorem E0m (kk k2:Nat) (c i:Int) (m:Nat) (f:Nat->Int) (m2:Nat) (g:Nat->Int):E9 prog (C8 prog lib2 60) F7 C1g (spPc.rho (E4b kk k2 c i m f m2 g)) (spPc.heap (E4b kk k2 c i m f m2 g)) (H6 (fun _=>spPc) 10 [9]) =
  brK (decide (i >= 0)) (brK (decide (0<=i/\i < (kk:Int)) && decide (0<=0)) (brK (decide (0+i.toNat < m)) (brK (decide (0<=i/\i < (k2:Int)) && decide (0<=0)) (brK (decide (0+i.toNat < m2))
   (some (.normal,E4b kk k2 (W ((W (c+f (0+i.toNat))).tdiv 10)) (W (i - 1)) m f m2 (X9 g (0+i.toNat) (IntKind.u8.wrap (W (48+(W (c+f (0+i.toNat))).tmod 10)))))) none) none) none) none)
   (some (.exit 4,E4b kk k2 c i m f m2 g)):=by kernel_rfl
def A5o (g:Nat->Nat) (L j:Nat):List Lf:=E4b L L (tW g L j / 10 ^ j:Nat) ((L:Int) - 1 - j) L (S9 g) L (B4y L (hW g L) j)
theorem G4b {g:Nat->Nat} {L j:Nat} (hg:∀ x,g x<=2 ^ 40) (hL:L < 2147483648) (hj:j < L) :
  E9 prog (C8 prog lib2 60) F7 C1g (spPc.rho (A5o g L j)) (spPc.heap (A5o g L j)) (H6 (fun _=>spPc) 10 [9])=some (.normal,A5o g L (j+1)):=by
 unfold A5o
 have hi:(L:Int) - 1 - (j:Int)=((L - 1 - j:Nat):Int):=by omega
 have hc:=E8s (L:=L) hg j
 have hx:=hg (L - 1 - j)
 have hd:=F1b g L j hj
 have hn:=D8q g L j
 have e2:S9 g (L - 1 - j)=((g (L - 1 - j):Nat):Int):=rfl
 rw [E0m,hi,Int.toNat_natCast,Nat.zero_add,e2,<- Int.natCast_add,B1b (n:=tW g L j / 10 ^ j+g (L - 1 - j)) (by omega)]
 have e3:(((tW g L j / 10 ^ j+g (L - 1 - j):Nat):Int)).tdiv 10=(((tW g L j / 10 ^ j+g (L - 1 - j)) / 10:Nat):Int):=by
  rw [Int.tdiv_eq_ediv_of_nonneg (Int.natCast_nonneg _)]; rfl
 have e4:(((tW g L j / 10 ^ j+g (L - 1 - j):Nat):Int)).tmod 10=(((tW g L j / 10 ^ j+g (L - 1 - j)) % 10:Nat):Int):=by
  rw [Int.tmod_eq_emod_of_nonneg (Int.natCast_nonneg _)]; rfl
 rw [e3,e4,hd,hn]
 have hlt:hW g L / 10 ^ j % 10 < 10:=Nat.mod_lt _ (by decide)
 have hcn:=E8s (L:=L) hg (j+1)
 have e5:(48:Int)+((hW g L / 10 ^ j % 10:Nat):Int)=((48+hW g L / 10 ^ j % 10:Nat):Int):=by omega
 rw [e5,B1b (n:=48+hW g L / 10 ^ j % 10) (by omega),B0m (n:=48+hW g L / 10 ^ j % 10) (by omega),C3c hj,B1b (n:=tW g L (j+1) / 10 ^ (j+1)) (by omega),V7 (by omega) (by omega),
  dT (show ((L - 1 - j:Nat):Int) >= 0 by omega),dT (show 0<=((L - 1 - j:Nat):Int)/\((L - 1 - j:Nat):Int) < (L:Int) by omega),dT (show L - 1 - j < L by omega)]
 have h2:((L - 1 - j:Nat):Int) - 1=(L:Int) - 1 - ((j+1:Nat):Int):=by omega
 rw [h2]
 rfl
def G1w:Blk:=hookP spPo 9 [8] fun
 | [.s a,.s b,.n kk,.i i,.n m,.f f] =>
  .br (A9 (i=0/\kk=a.length+b.length/\m=a.length+b.length/\(f=fun _=>0)/\a.all F8=true/\b.all F8=true/\a.length < 2 ^ 29/\b.length < 2 ^ 29)) (.leaf (.normal,spPo,D7a a b (a.length+b.length) a.length (a.length+b.length) (S9 (X3 a b a.length)))) .fail
 | _=>.fail
def G3y (g:Nat->Nat):Blk:=hookP spPc 10 [9] fun
 | [.n kk,.n k2,.i c,.i i,.n m,.f f,.n m2,.f h] =>
  .br (A9 (kk=m/\k2=m/\c=0/\i=(m:Int) - 1/\m2=m/\f=S9 g/\(h=fun _=>0)/\m < 2147483648/\∀ x,g x<=2 ^ 40)) (.leaf (.normal,spPc,A5o g m m)) .fail
 | _=>.fail
def F9y (g:Nat->Nat):Prims:=(pR6.addb 123 0 G1w).addb 123 4 (G3y g)
section
variable {A:Amb} (hT:Tab A) (hG:prog.globals.size<=A.G)
include hT hG
omit hG in
theorem E4t:∀ ρ B e' ρ' B' D,(D3j ρ B).get=some (e',ρ',B',D)->AFr B B' D/\SEB prog A B (.block 2 (.loop C0s)) ⟨ρ,B,[]⟩ e' ⟨ρ',B',D⟩:=by
 have hp:=K5 hT
 refine M8 rfl fun ls e sq l h=>?_
 split at h
 ·rename_i a b kk i k m f
  obtain ⟨hc,hv⟩:=Tr.br1 h
  cases hv
  obtain ⟨rfl,hi,hi2,rfl,rfl,rfl,ha,hb,la,lb⟩:=D7 hc
  obtain ⟨i,rfl⟩:=Int.eq_ofNat_of_zero_le hi
  rw [Int.toNat_natCast]
  refine ⟨⟨.inr rfl,.inr rfl,.inr rfl,.inr rfl,.inr rfl,.inr rfl,.inr rfl,.inr rfl,.inl rfl,trivial⟩,fun Bb hB=>SEB.block_exit (id:=2) ?_⟩
  refine SEB.loop_nat (A:=A) (B0:=Bb) (c:=C0s) (I:=fun k=>⟨spPi.rho (C2c a b (a.length+b.length) i k (a.length+b.length) (S9 (A7n b (dg a i) i (X3 a b i) k))),spPi.heap (C2c a b (a.length+b.length) i k (a.length+b.length) (S9 (A7n b (dg a i) i (X3 a b i) k))),[8]⟩) (N:=b.length)
   (fun k hk=>SEB.of_KP (A:=A) (B0:=Bb) (e:=.normal) D5 D6 hp (.none _) hB (G0a ha hb la lb (by omega) hk) rfl) ?_ (by simp) (i:=0) (Nat.zero_le _)
  have hr:=D7z a b (a.length+b.length) i b.length (a.length+b.length) (S9 (X3 a b (i+1)))
  rw [dF (show ¬ (b.length:Int) < (b.length:Int) by omega)] at hr
  exact SEB.of_KP (A:=A) (B0:=Bb) (e:=.exit 2) D5 D6 hp (.none _) hB hr rfl
 ·cases h
theorem F6e (g:Nat->Nat):PrimOK prog A (F9y g):=by
 have hp:=K5 hT
 have hblk:BlkOK prog A (A8y 2 D3j) C5c:=BlkOK.one (body:=.loop C0s) (by kernel_rfl) fun ρ B e ρ' B' D hq=>(E4t hT ρ B e ρ' B' D hq).2
 refine PrimOK.addbP (PrimOK.addbP (F0u hT hG) func123 (show f123.body=some B3u by kernel_rfl) (body:=.loop C5c) (by kernel_rfl) (by kernel_rfl) fun ls e sq l h=>?_) func123 (show f123.body=some B3u by kernel_rfl) (body:=.loop C1g) (by kernel_rfl) (by kernel_rfl) fun ls e sq l h=>?_
 ·split at h
  ·rename_i a b kk i m f
   obtain ⟨hc,hv⟩:=Tr.br1 h
   cases hv
   obtain ⟨rfl,rfl,rfl,rfl,ha,hb,la,lb⟩:=D7 hc
   refine ⟨⟨.inr rfl,.inr rfl,.inr rfl,.inr rfl,.inr rfl,.inr rfl,.inr rfl,.inr rfl,.inl rfl,trivial⟩,fun Bb hB=>SEB.block_exit (id:=0) ?_⟩
   have e0:(fun _=>0:Nat->Int)=S9 (X3 a b 0):=rfl
   rw [e0]
   refine SEB.loop_nat (A:=A) (B0:=Bb) (c:=C5c) (I:=fun i=>⟨spPo.rho (D7a a b (a.length+b.length) i (a.length+b.length) (S9 (X3 a b i))),spPo.heap (D7a a b (a.length+b.length) i (a.length+b.length) (S9 (X3 a b i))),[8]⟩) (N:=a.length) (fun i hi=>?_) ?_ (by simp) (i:=0) (Nat.zero_le _)
   ·have hr:=D9m a b (a.length+b.length) i (a.length+b.length) (S9 (X3 a b i))
    rw [Int.toNat_natCast,dT (show (i:Int) < (a.length:Int) by omega),A8 ⟨rfl,by omega,by omega,rfl,rfl,rfl,ha,hb,la,lb⟩,V7 (by omega) (by omega)] at hr
    exact SEB.of_KP (A:=A) (B0:=Bb) (e:=.normal) D5 D6 hp hblk hB hr rfl
   ·have hr:=D9m a b (a.length+b.length) a.length (a.length+b.length) (S9 (X3 a b a.length))
    rw [dF (show ¬ (a.length:Int) < (a.length:Int) by omega)] at hr
    exact SEB.of_KP (A:=A) (B0:=Bb) (e:=.exit 0) D5 D6 hp hblk hB hr rfl
  ·cases h
 ·split at h
  ·rename_i k1 k2 c i m f m2 g2
   obtain ⟨hc,hv⟩:=Tr.br1 h
   cases hv
   obtain ⟨rfl,rfl,rfl,rfl,rfl,rfl,rfl,hL,hg⟩:=D7 hc
   refine ⟨⟨.inr rfl,.inr rfl,.inr rfl,.inr rfl,.inr rfl,.inr rfl,.inr rfl,.inr rfl,.inr rfl,.inl rfl,trivial⟩,fun Bb hB=>SEB.block_exit (id:=4) ?_⟩
   have e0:∀ L:Nat,([.n L,.n L,.i 0,.i ((L:Int) - 1),.n L,.f (S9 g),.n L,.f fun _=>0]:List Lf)=A5o g L 0:=fun L=>by
    unfold A5o E4b
    rw [C3n]
    simp [tW]
   rw [e0]
   refine SEB.loop_nat (A:=A) (B0:=Bb) (c:=C1g) (I:=fun j=>⟨spPc.rho (A5o g m2 j),spPc.heap (A5o g m2 j),[9]⟩) (N:=m2) (fun j hj=>SEB.of_KP (A:=A) (B0:=Bb) (e:=.normal) D5 D6 hp (.none _) hB (G4b hg hL hj) rfl) ?_ (by simp) (i:=0) (Nat.zero_le _)
   have hr:E9 prog (C8 prog lib2 60) F7 C1g (spPc.rho (A5o g m2 m2)) (spPc.heap (A5o g m2 m2)) (H6 (fun _=>spPc) 10 [9])=some (.exit 4,A5o g m2 m2):=by
    unfold A5o
    rw [E0m,dF (show ¬ (m2:Int) - 1 - (m2:Int) >= 0 by omega)]
    rfl
   exact SEB.of_KP (A:=A) (B0:=Bb) (e:=.exit 4) D5 D6 hp (.none _) hB hr rfl
  ·cases h
end
abbrev D7x (a b:List UInt8) (g:Nat->Nat) (L:Int):Option (List Lf) :=
 brK (decide (0<=L/\L=L/\L < 2147483648)) (brK (A9 ((0:Int)=0/\L.toNat=a.length+b.length/\L.toNat=a.length+b.length/\((fun _=>0:Nat->Int)=fun _=>0)/\a.all F8=true/\b.all F8=true/\a.length < 2 ^ 29/\b.length < 2 ^ 29))
  (brK (decide (0<=((a.length+b.length:Nat):Int)/\((a.length+b.length:Nat):Int)=((a.length+b.length:Nat):Int)/\((a.length+b.length:Nat):Int) < 2147483648))
   (brK (A9 (a.length+b.length=a.length+b.length/\((a.length+b.length:Nat):Int).toNat=a.length+b.length/\(0:Int)=0/\W (((a.length+b.length:Nat):Int) - 1)=((a.length+b.length:Nat):Int) - 1/\((a.length+b.length:Nat):Int).toNat=a.length+b.length/\S9 (X3 a b a.length)=S9 g/\((fun _=>0:Nat->Int)=fun _=>0)/\a.length+b.length < 2147483648/\∀ x,g x<=2 ^ 40))
    (brK (decide (0<=0) && decide (0+(a.length+b.length)<=a.length+b.length)) (some [.s (A1g (C1z (a.length+b.length) (B4y (a.length+b.length) (hW g (a.length+b.length)) (a.length+b.length))))]) none) none) none) none) none
theorem G2e (a b:List UInt8) (g:Nat->Nat):(C8 prog (F9y g) 60).call 123 (spSS.rho [.s a,.s b]) (spSS.heap [.s a,.s b]) (V8 spS1 8 [])=D7x a b g (W ((a.length:Int)+(b.length:Int))):=by kernel_rfl
theorem E4o {a b:List UInt8} (ha:a.all F8=true) (hb:b.all F8=true) (hn:a ≠ []) (la:a.length < 2 ^ 29) (lb:b.length < 2 ^ 29) :
  D7x a b (X3 a b a.length) (W ((a.length:Int)+(b.length:Int)))=some [.s (itoa (E5 0 a*E5 0 b:Nat))]:=by
 have e1:W ((a.length:Int)+(b.length:Int))=((a.length+b.length:Nat):Int):=by rw [V7 (by omega) (by omega)]; omega
 have hg:∀ x,X3 a b a.length x<=2 ^ 40:=fun x=>by
  have:=D5z ha hb a.length x
  omega
 have hpos:0 < a.length:=by cases a with | nil=>exact (hn rfl).elim | cons=>simp
 have hlt:E5 0 a*E5 0 b < 10 ^ (a.length+b.length):=by
  rw [Nat.pow_add]
  exact Nat.mul_lt_mul'' (A6i a ha) (A6i b hb)
 have hbare:A1g (pad (a.length+b.length) (E5 0 a*E5 0 b))=itoa (E5 0 a*E5 0 b:Nat):=by
  rw [A6o (by intro e; have:=L8 (a.length+b.length) (E5 0 a*E5 0 b); rw [e] at this; simp at this; omega) (C6d _ _),C5b,A5q,Nat.mod_eq_of_lt hlt]
 unfold D7x
 rw [e1,Int.toNat_natCast,F1t]
 generalize hL:a.length+b.length=L at *
 have ht:C1z L (B4y L (E5 0 a*E5 0 b) L)=pad L (E5 0 a*E5 0 b):=by
  rw [<- C3k]
  unfold C1z
  simp only [Nat.zero_add]
 rw [ht,hbare,dT (show 0<=(L:Int)/\(L:Int)=(L:Int)/\(L:Int) < 2147483648 by omega),A8 (show (0:Int)=0/\L=L/\L=L/\((fun _=>0:Nat->Int)=fun _=>0)/\a.all F8=true/\b.all F8=true/\a.length < 2 ^ 29/\b.length < 2 ^ 29 from ⟨rfl,rfl,rfl,rfl,ha,hb,la,lb⟩),
  A8 (show L=L/\L=L/\(0:Int)=0/\W ((L:Int) - 1)=(L:Int) - 1/\L=L/\S9 (X3 a b a.length)=S9 (X3 a b a.length)/\((fun _=>0:Nat->Int)=fun _=>0)/\L < 2147483648/\∀ x,X3 a b a.length x<=2 ^ 40 from ⟨rfl,rfl,rfl,by rw [V7 (by omega) (by omega)],rfl,rfl,rfl,by omega,hg⟩),
  dT (show 0+L<=L by omega)]
 rfl
def H0b:List Lf->Tr (SP × List Lf)
 | [.s a,.s b]=>.br (A9 (a.all F8=true/\b.all F8=true/\a ≠ []/\a.length < 2 ^ 29/\b.length < 2 ^ 29)) (.leaf (spS1,[.s (itoa (E5 0 a*E5 0 b:Nat))])) .fail
 | _=>.fail
def pR7:Prims:=pR6.addh 123 (G8 8 (funP spSS 8 [] H0b))
theorem G3v {A:Amb} (hT:Tab A) (hG:prog.globals.size<=A.G):PrimOK prog A pR7:=by
 refine (F0u hT hG).addl gsz func123 (by kernel_rfl) (K6 D5 D6 rfl fun ls sq l h=>?_)
 unfold H0b at h
 split at h
 ·rename_i a b
  obtain ⟨hc,hv⟩:=Tr.br1 h
  cases hv
  obtain ⟨ha,hb,hn,la,lb⟩:=D7 hc
  exact ⟨⟨.inr rfl,.inr rfl,.inr rfl,.inr rfl,.inr rfl,.inr rfl,.inr rfl,.inr rfl,trivial⟩,rfl,rfl,F9y (X3 a b a.length),60,F6e hT hG _,(G2e a b _).trans (E4o ha hb hn la lb)⟩
 ·cases h
end Go.Proofs.Tryz
namespace Go.Proofs.Tryz
open Go.Ad
open Go.Lib (decDigits itoa nDigits decFrom digitVal)
theorem G0h (a b:List UInt8):(C8 prog lib2 60).call 142 [.sstr a,.sstr b] (Bg 8) I4 =
  brK (decide ((a.length:Int) < (b.length:Int))) (some (.bool true)) (brK ((a.length:Int) == (b.length:Int)) (some (.sbool (Op.bytesLess a b))) (some (.bool false))):=by kernel_rfl
def G8f:List Lf->Tr AV
 | [.s a,.s b]=>.br (A9 (a=itoa (E5 0 a:Nat)/\b=itoa (E5 0 b:Nat))) (.leaf (.sbool (decide (E5 0 a < E5 0 b)))) .fail
 | _=>.fail
def pR8:Prims:=pR7.addt 142 (gP [.str,.str] G8f)
theorem D7e {A:Amb} (hT:Tab A) (hG:prog.globals.size<=A.G):PrimOK prog A pR8:=by
 refine PrimOK.addP D5 D6 (K5 hT) (G3v hT hG) hG func142 (by kernel_rfl) fun ls v h=>?_
 unfold G8f at h
 split at h
 ·rename_i a b
  obtain ⟨hc,hv⟩:=Tr.br1 h
  cases hv
  obtain ⟨ha,hb⟩:=D7 hc
  have hl:=E9w (E5 0 a) (E5 0 b)
  rw [<- A1q,<- A1q,<- ha,<- hb] at hl
  have hk:=G0h a b
  have fin:∀ v',(C8 prog lib2 60).call 142 [.sstr a,.sstr b] (Bg 8) I4=some v'->below 0 v'=true->(∀ ι x,VR ι v' x->VR ι (.sbool (decide (E5 0 a < E5 0 b))) x) ->
    J8 0 (mkT [.str,.str] [.s a,.s b]).1=true/\∃ n v',(C8 prog lib2 n).call 142 (mkT [.str,.str] [.s a,.s b]).1 (Bg prog.globals.size) I4=some v'/\below 0 v'=true/\∀ ι x,VR ι v' x->VR ι (.sbool (decide (E5 0 a < E5 0 b))) x:=fun v' h1 h2 h3 =>
   ⟨rfl,60,v',by rw [gsz]; exact h1,h2,h3⟩
  by_cases h1:a.length < b.length
  ·rw [dT (show (a.length:Int) < (b.length:Int) by omega)] at hk
   rw [dT h1] at hl
   exact fin _ hk rfl fun ι x=>A0e (by rw [<- hl]; rfl) x
  ·rw [dF (show ¬ (a.length:Int) < (b.length:Int) by omega)] at hk
   rw [dF h1] at hl
   by_cases h2:a.length=b.length
   ·rw [show ((a.length:Int) == (b.length:Int))=true by rw [beq_iff_eq]; omega] at hk
    rw [dT h2] at hl
    exact fin _ hk rfl fun ι x=>C1n (by rw [<- hl]; rfl) x
   ·rw [show ((a.length:Int) == (b.length:Int))=false by rw [beq_eq_false_iff_ne]; omega] at hk
    rw [dF h2] at hl
    exact fin _ hk rfl fun ι x=>A0e (by rw [<- hl]; rfl) x
 ·cases h
def C7n:Code:=f118.body.getD .skip
def C7s:Code:=I7 (J7 2 C7n)
def B4m:Code:=I7 (J7 0 C7n)
def spDi:SP:=⟨[.str,.str]++dr 4++[.str,.str,.int .i64,.int .u8]++dr 31,dd8⟩
def spDo:SP:=⟨[.str,.str]++dr 4++[.str,.str,.int .i64]++dr 32,dd8⟩
def B4r (a b q r:List UInt8) (i d:Int):List Lf:=[.s a,.s b,.s q,.s r,.i i,.i d]
def E4e (a b q r:List UInt8) (i:Int):List Lf:=[.s a,.s b,.s q,.s r,.i i]
theorem F6o (a b q r:List UInt8) (i d:Int):E9 prog (C8 prog pR8 60) F7 C7s (spDi.rho (B4r a b q r i d)) (spDi.heap (B4r a b q r i d)) (H6 (fun _=>spDi) 8 []) =
  brK (A9 (r=itoa (E5 0 r:Nat)/\b=itoa (E5 0 b:Nat))) (brK (!(decide (E5 0 r < E5 0 b))) (brK (A9 (r.all F8=true/\b.all F8=true/\r.length < 2 ^ 30/\b.length < 2 ^ 30/\(false=false->E5 0 b<=E5 0 r)))
   (some (.normal,B4r a b q (itoa (A6n false (E5 0 r) (E5 0 b):Nat)) i (IntKind.u8.wrap (d+1)))) none) (some (.exit 2,B4r a b q r i d))) none:=by kernel_rfl
theorem G2u {a q:List UInt8} {i:Int} {B R d:Nat} (hB:(itoa (B:Int)).length < 2 ^ 28) (hR:(itoa (R:Int)).length < 2 ^ 29) (hd:d < 100) :
  E9 prog (C8 prog pR8 60) F7 C7s (spDi.rho (B4r a (itoa (B:Nat)) q (itoa (R:Nat)) i (48+d:Nat))) (spDi.heap (B4r a (itoa (B:Nat)) q (itoa (R:Nat)) i (48+d:Nat))) (H6 (fun _=>spDi) 8 []) =
  if R < B then some (.exit 2,B4r a (itoa (B:Nat)) q (itoa (R:Nat)) i (48+d:Nat)) else some (.normal,B4r a (itoa (B:Nat)) q (itoa (R - B:Nat)) i (48+(d+1):Nat)):=by
 rw [F6o,O1,O1,A8 ⟨rfl,rfl⟩,E8]
 by_cases h:R < B
 ·rw [if_pos h,dT h]; rfl
 ·have e:((48+d:Nat):Int)+1=((48+(d+1):Nat):Int):=by omega
  rw [if_neg h,dF h,A8 ⟨Y7 R,Y7 B,by omega,by omega,fun _=>by omega⟩,e,B0m (by omega)]; rfl
def B9d:Blk:=hookP spDi 8 [] fun
 | [.s a,.s b,.s q,.s r,.i i,.i d]=>.br (A9 (d=48/\b=itoa (E5 0 b:Nat)/\r=itoa (E5 0 r:Nat)/\0 < E5 0 b/\E5 0 r / E5 0 b < 10/\b.length < 2 ^ 28/\r.length < 2 ^ 29))
  (.leaf (.normal,spDi,B4r a b q (itoa (E5 0 r % E5 0 b:Nat)) i (48+E5 0 r / E5 0 b:Nat))) .fail
 | _=>.fail
theorem A5p {V U:Nat} (h:V<=U):(itoa (V:Int)).length<=(itoa (U:Int)).length:=by
 rw [A1q,A1q]; exact P5 h
theorem E2r {A:Amb} (hT:Tab A) (hG:prog.globals.size<=A.G):∀ ρ B e' ρ' B' D,(B9d ρ B).get=some (e',ρ',B',D)->AFr B B' D/\SEB prog A B (.block 2 (.loop C7s)) ⟨ρ,B,[]⟩ e' ⟨ρ',B',D⟩:=by
 have hp:=D7e hT hG
 refine M8 rfl fun ls e sq l h=>?_
 split at h
 ·rename_i a b q r i d
  obtain ⟨hc,hv⟩:=Tr.br1 h
  cases hv
  obtain ⟨rfl,hb,hr,hB,hq,lb,lr⟩:=D7 hc
  generalize E5 0 b=B at *
  generalize E5 0 r=R at *
  subst hb hr
  refine ⟨⟨.inr rfl,.inr rfl,.inr rfl,.inr rfl,.inr rfl,.inr rfl,.inr rfl,.inr rfl,trivial⟩,fun Bb hBb=>SEB.block_exit (id:=2) ?_⟩
  refine SEB.while (fun s:Nat × Nat=>s.1<=R/\s.2+s.1 / B=R / B/\s.1 % B=R % B) (fun s=>s.1) (fun s=>⟨spDi.rho (B4r a (itoa (B:Nat)) q (itoa (s.1:Nat)) i (48+s.2:Nat)),spDi.heap (B4r a (itoa (B:Nat)) q (itoa (s.1:Nat)) i (48+s.2:Nat)),[]⟩)
   (fun _=>(.exit 2,⟨spDi.rho (B4r a (itoa (B:Nat)) q (itoa (R % B:Nat)) i (48+R / B:Nat)),spDi.heap (B4r a (itoa (B:Nat)) q (itoa (R % B:Nat)) i (48+R / B:Nat)),[]⟩)) (fun s hs=>?_) (R,0) ⟨Nat.le_refl _,Nat.zero_add _,rfl⟩
  obtain ⟨S,d⟩:=s
  obtain ⟨h1,h2,h3⟩:=hs
  simp only at h1 h2 h3
  have hdle:d<=R / B:=by rw [<- h2]; exact Nat.le_add_right _ _
  have hk:=G2u (a:=a) (q:=q) (i:=i) (B:=B) (R:=S) (d:=d) lb (Nat.lt_of_le_of_lt (A5p h1) lr) (by omega)
  by_cases hlt:S < B
  ·rw [if_pos hlt] at hk
   rw [Nat.div_eq_of_lt hlt,Nat.add_zero] at h2
   rw [Nat.mod_eq_of_lt hlt] at h3
   right
   refine ⟨by simp,?_⟩
   rw [<- h2,<- h3]
   exact SEB.of_KP (A:=A) (B0:=Bb) (e:=.exit 2) D5 D6 hp (.none _) hBb hk rfl
  ·rw [if_neg hlt] at hk
   left
   refine ⟨(S - B,d+1),⟨by simp only; omega,?_,?_⟩,by simp only; omega,rfl,SEB.of_KP (A:=A) (B0:=Bb) (e:=.normal) D5 D6 hp (.none _) hBb hk rfl⟩
   ·simp only
    have:=Nat.div_eq_sub_div hB (show B<=S by omega)
    omega
   ·simp only
    rw [<- h3,Nat.mod_eq_sub_mod (show B<=S by omega)]
 ·cases h
theorem E1i (a b q r:List UInt8) (i:Int):E9 prog (C8 prog pR8 60) (A8y 2 B9d) B4m (spDo.rho (E4e a b q r i)) (spDo.heap (E4e a b q r i)) (H6 (fun _=>spDo) 8 []) =
  brK (decide (i < (a.length:Int))) (brK (decide (0<=W (i+1)/\W (i+1)<=(a.length:Int)) && decide (0<=i/\i<=((W (i+1)).toNat:Int))) (brK (decide (r.length+((a.take (W (i+1)).toNat).drop i.toNat).length < 4611686018427387904))
   ((fun r':List UInt8=>brK (A9 ((48:Int)=48/\b=itoa (E5 0 b:Nat)/\r'=itoa (E5 0 r':Nat)/\0 < E5 0 b/\E5 0 r' / E5 0 b < 10/\b.length < 2 ^ 28/\r'.length < 2 ^ 29)) (brK (decide (q.length+1 < 4611686018427387904))
    (some (.normal,E4e a b (q++[UInt8.ofNat ((48+E5 0 r' / E5 0 b:Nat):Int).toNat]) (itoa (E5 0 r' % E5 0 b:Nat)) (W (i+1)))) none) none) (A1g (r++(a.take (W (i+1)).toNat).drop i.toNat))) none) none)
   (some (.exit 0,E4e a b q r i)):=by kernel_rfl
def B5f (a:List UInt8) (B i:Nat):List Lf:=E4e a (itoa (B:Nat)) (pad i (E5 0 (a.take i) / B)) (itoa (E5 0 (a.take i) % B:Nat)) i
theorem G4v {a:List UInt8} {B i:Nat} (ha:a.all F8=true) (hB:0 < B) (lB:(itoa (B:Int)).length < 2 ^ 28) (la:a.length < 2 ^ 28) (hi:i < a.length) :
  E9 prog (C8 prog pR8 60) (A8y 2 B9d) B4m (spDo.rho (B5f a B i)) (spDo.heap (B5f a B i)) (H6 (fun _=>spDo) 8 [])=some (.normal,B5f a B (i+1)):=by
 unfold B5f
 have e1:W ((i:Int)+1)=((i+1:Nat):Int):=by rw [V7 (by omega) (by omega)]; omega
 have hd:=C3j ha i
 have hmod:=Nat.mod_lt (E5 0 (a.take i)) hB
 have hsl:(a.take (i+1)).drop i=[a.getD i 0]:=by
  rw [List.take_add_one,List.getElem?_eq_getElem hi,List.drop_append,List.drop_eq_nil_of_le (by simp; omega),List.length_take,Nat.min_eq_left (by omega),Nat.sub_self,List.getD_eq_getElem?_getD,List.getElem?_eq_getElem hi]
  rfl
 have hdg:F8 (a.getD i 0)=true:=by
  rw [List.getD_eq_getElem?_getD,List.getElem?_eq_getElem hi]
  exact List.all_eq_true.1 ha _ (List.getElem_mem hi)
 obtain ⟨d1,d2,d3⟩:=E2c (A:=E5 0 (a.take i)) hB (show dg a i < 10 by omega)
 rw [E1i,e1,Int.toNat_natCast,Int.toNat_natCast,hsl,A5n hi]
 generalize hA:E5 0 (a.take i)=X at *
 have hr:A1g (itoa (X % B:Nat)++[a.getD i 0])=itoa (X % B*10+dg a i:Nat):=by
  rw [A6o (by simp) (by rw [List.all_append,Y7]; simp only [List.all_cons,List.all_nil,hdg,Bool.and_self]),C5b,A0o,O1]
  rfl
 have hlt:X % B*10+dg a i < 10 ^ ((itoa (B:Int)).length+1):=by
  have:=X5 B
  rw [Nat.pow_succ]
  omega
 have hlen:=A0p hlt (by omega)
 have hlr:(itoa ((X % B:Nat):Int)).length<=(itoa (B:Int)).length:=A5p (by omega)
 have e2:((48+(X % B*10+dg a i) / B:Nat):Int).toNat=48+(X % B*10+dg a i) / B:=Int.toNat_natCast _
 rw [hr]
 dsimp only
 rw [O1,O1,e2,E9f d3,<- d1,<- d2,L8,dT (show (i:Int) < (a.length:Int) by omega),dT (show 0<=((i+1:Nat):Int)/\((i+1:Nat):Int)<=(a.length:Int) by omega),dT (show 0<=(i:Int)/\(i:Int)<=((i+1:Nat):Int) by omega),
  dT (show (itoa ((X % B:Nat):Int)).length+[a.getD i 0].length < 4611686018427387904 by rw [List.length_singleton]; omega)]
 simp only [Bool.and_self,E8]
 rw [A8 ⟨trivial,trivial,trivial,hB,d3,lB,by omega⟩,dT (show i+1 < 4611686018427387904 by omega)]
 rfl
def G1c:Blk:=hookP spDo 8 [] fun
 | [.s a,.s b,.s q,.s r,.i i]=>.br (A9 (i=0/\q=[]/\r=[48]/\a.all F8=true/\b=itoa (E5 0 b:Nat)/\0 < E5 0 b/\a.length < 2 ^ 28/\b.length < 2 ^ 28)) (.leaf (.normal,spDo,B5f a (E5 0 b) a.length)) .fail
 | _=>.fail
def G1o:Prims:=pR8.addb 118 0 G1c
theorem F5q {A:Amb} (hT:Tab A) (hG:prog.globals.size<=A.G):PrimOK prog A G1o:=by
 have hp:=D7e hT hG
 have hblk:BlkOK prog A (A8y 2 B9d) B4m:=BlkOK.one (body:=.loop C7s) (by kernel_rfl) fun ρ B e ρ' B' D hq=>(E2r hT hG ρ B e ρ' B' D hq).2
 refine PrimOK.addbP hp func118 (show f118.body=some C7n by kernel_rfl) (body:=.loop B4m) (by kernel_rfl) (by kernel_rfl) fun ls e sq l h=>?_
 split at h
 ·rename_i a b q r i
  obtain ⟨hc,hv⟩:=Tr.br1 h
  cases hv
  obtain ⟨rfl,rfl,rfl,ha,hb,hB,la,lb⟩:=D7 hc
  generalize E5 0 b=B at *
  subst hb
  refine ⟨⟨.inr rfl,.inr rfl,.inr rfl,.inr rfl,.inr rfl,.inr rfl,.inr rfl,.inr rfl,trivial⟩,fun Bb hBb=>SEB.block_exit (id:=0) ?_⟩
  have e0:([.s a,.s (itoa (B:Nat)),.s [],.s [48],.i 0]:List Lf)=B5f a B 0:=by
   unfold B5f E4e
   rw [show E5 0 (a.take 0)=0 from rfl,Nat.zero_mod,show ((0:Nat):Int)=0 from rfl,itoa0]; rfl
  rw [e0]
  refine SEB.loop_nat (A:=A) (B0:=Bb) (c:=B4m) (I:=fun j=>⟨spDo.rho (B5f a B j),spDo.heap (B5f a B j),[]⟩) (N:=a.length) (fun j hj=>SEB.of_KP (A:=A) (B0:=Bb) (e:=.normal) D5 D6 hp hblk hBb (G4v ha hB lb la hj) rfl) ?_ (by simp) (i:=0) (Nat.zero_le _)
  have hr:E9 prog (C8 prog pR8 60) (A8y 2 B9d) B4m (spDo.rho (B5f a B a.length)) (spDo.heap (B5f a B a.length)) (H6 (fun _=>spDo) 8 [])=some (.exit 0,B5f a B a.length):=by
   unfold B5f
   rw [E1i,dF (show ¬ (a.length:Int) < (a.length:Int) by omega)]
   rfl
  exact SEB.of_KP (A:=A) (B0:=Bb) (e:=.exit 0) D5 D6 hp hblk hBb hr rfl
 ·cases h
theorem G5p (a b:List UInt8):(C8 prog G1o 60).call 118 (spSS.rho [.s a,.s b]) (spSS.heap [.s a,.s b]) (O8 spSS 8 []) =
  brK (A9 ((0:Int)=0/\([]:List UInt8)=[]/\([48]:List UInt8)=[48]/\a.all F8=true/\b=itoa (E5 0 b:Nat)/\0 < E5 0 b/\a.length < 2 ^ 28/\b.length < 2 ^ 28))
   (some [.s (A1g (pad a.length (E5 0 (a.take a.length) / E5 0 b))),.s (itoa (E5 0 (a.take a.length) % E5 0 b:Nat))]) none:=by kernel_rfl
def H0h:List Lf->Tr (SP × List Lf)
 | [.s a,.s b]=>.br (A9 (a.all F8=true/\a ≠ []/\b=itoa (E5 0 b:Nat)/\0 < E5 0 b/\a.length < 2 ^ 28/\b.length < 2 ^ 28)) (.leaf (spSS,[.s (itoa (E5 0 a / E5 0 b:Nat)),.s (itoa (E5 0 a % E5 0 b:Nat))])) .fail
 | _=>.fail
def pR9:Prims:=pR8.addh 118 (G8 8 (funQ spSS 8 [] H0h))
theorem F0a {A:Amb} (hT:Tab A) (hG:prog.globals.size<=A.G):PrimOK prog A pR9:=by
 refine (D7e hT hG).addl gsz func118 (by kernel_rfl) (I6 D5 D6 rfl fun ls sq l h=>?_)
 unfold H0h at h
 split at h
 ·rename_i a b
  obtain ⟨hc,hv⟩:=Tr.br1 h
  cases hv
  obtain ⟨ha,hn,hb,hB,la,lb⟩:=D7 hc
  refine ⟨⟨.inr rfl,.inr rfl,.inr rfl,.inr rfl,.inr rfl,.inr rfl,.inr rfl,.inr rfl,trivial⟩,rfl,G1o,60,_,F5q hT hG,(G5p a b).trans ?_,fun _ _=>.refl⟩
  have hpos:0 < a.length:=by cases a with | nil=>exact (hn rfl).elim | cons=>simp
  rw [A8 ⟨rfl,rfl,rfl,ha,hb,hB,la,lb⟩,E8,List.take_length,A6o (by intro e; have:=L8 a.length (E5 0 a / E5 0 b); rw [e] at this; simp at this; omega) (C6d _ _),C5b,A5q,
   Nat.mod_eq_of_lt (Nat.lt_of_le_of_lt (Nat.div_le_self _ _) (A6i a ha))]
 ·cases h
end Go.Proofs.Tryz
namespace Go.Proofs.Tryz
open Go.Ad
open Go.Lib (decDigits itoa nDigits decFrom digitVal)
def zOK (a:List UInt8):Prop:=isZ a/\a.length < 2 ^ 26
theorem E5p {Z:Int} {k:Nat} (h:Z.natAbs < 10 ^ k) (hk:k < 2 ^ 25) (h1:1<=k):zOK (itoa Z):=by
 refine ⟨K8 Z,?_⟩
 have h2:=A3u Z
 have h3:=A3s h h1
 omega
def E1b:Code:=f153.body.getD .skip
def C8j:Code:=I7 (J7 0 E1b)
def spNu:SP:=⟨[.str]++dr 2++[.int .i64,.str,.int .i64]++dr 21,dd8⟩
def B4z (a:List UInt8) (n:Int) (s:List UInt8) (i:Int):List Lf:=[.s a,.i n,.s s,.i i]
theorem D9x (a:List UInt8) (n:Int) (s:List UInt8) (i:Int):E9 prog (C8 prog lib2 60) F7 C8j (spNu.rho (B4z a n s i)) (spNu.heap (B4z a n s i)) (H6 (fun _=>spNu) 8 []) =
  brK (decide (i < (s.length:Int))) (brK (decide (0<=i/\i < (s.length:Int))) (some (.normal,B4z a (W (W (10*n)+W (IntKind.u8.wrap (((s.getD i.toNat 0).toNat:Int) - 48)))) s (W (i+1)))) none) (some (.exit 0,B4z a n s i)):=by kernel_rfl
theorem C5l {s:List UInt8} (h:s.all F8=true) (i:Nat):E5 0 (s.take i) < 10 ^ i:=by
 have h1:(s.take i).all F8=true:=by
  rw [List.all_eq_true] at h ⊢
  exact fun b hb=>h b (List.mem_of_mem_take hb)
 have:=A6i _ h1
 refine Nat.lt_of_lt_of_le this (Nat.pow_le_pow_right (by decide) ?_)
 rw [List.length_take]; omega
theorem G1v {a s:List UInt8} {i:Nat} (hs:s.all F8=true) (ls:s.length<=18) (hi:i < s.length) :
  E9 prog (C8 prog lib2 60) F7 C8j (spNu.rho (B4z a (E5 0 (s.take i):Nat) s i)) (spNu.heap (B4z a (E5 0 (s.take i):Nat) s i)) (H6 (fun _=>spNu) 8 [])=some (.normal,B4z a (E5 0 (s.take (i+1)):Nat) s (i+1:Nat)):=by
 have h1:=C5l hs i
 have h2:10 ^ i<=10 ^ 17:=Nat.pow_le_pow_right (by decide) (by omega)
 have h3:=C3j hs i
 have e1:(10:Int)*((E5 0 (s.take i):Nat):Int)=((E5 0 (s.take i)*10:Nat):Int):=by omega
 rw [D9x,Int.toNat_natCast,dgI hs hi,e1,B1b (n:=E5 0 (s.take i)*10) (by omega),B1b (n:=dg s i) (by omega),<- Int.natCast_add,<- A5n hi,B1b (n:=E5 0 (s.take (i+1))) (by rw [A5n hi]; omega),
  V7 (by omega) (by omega),dT (show (i:Int) < (s.length:Int) by omega),dT (show 0<=(i:Int)/\(i:Int) < (s.length:Int) by omega)]
 rfl
def G0p:Blk:=hookP spNu 8 [] fun
 | [.s a,.i n,.s s,.i i]=>.br (A9 (n=0/\i=0/\s.all F8=true/\s.length<=18)) (.leaf (.normal,spNu,B4z a (E5 0 s:Nat) s s.length)) .fail
 | _=>.fail
def F9j:Prims:=pR9.addb 153 0 G0p
theorem G1d (a:List UInt8):(C8 prog F9j 60).call 153 [.sstr a] (Bg 8) I4 =
  brK (A9 ((0:Int)=0/\(0:Int)=0/\(F6 a).all F8=true/\(F6 a).length<=18)) (brK (A9 (isZ a)) (brK (decide (A7 a < 0)) (some (.sint .i64 (W (0 - (E5 0 (F6 a):Nat))))) (some (.sint .i64 (E5 0 (F6 a):Nat)))) none) none:=by kernel_rfl
def H1f:List Lf->Tr AV
 | [.s a]=>.br (A9 (isZ a/\(F6 a).length<=18)) (.leaf (.sint .i64 (A7 a))) .fail
 | _=>.fail
def pR10:Prims:=pR9.addt 153 (gP [.str] H1f)
theorem A1f {a:List UInt8} (h:isZ a):F6 a=itoa ((A7 a).natAbs:Nat):=by
 unfold isZ at h
 have:=B4t (A7 a)
 rw [<- h] at this
 rw [A1q]; exact this
section
variable {A:Amb} (hT:Tab A) (hG:prog.globals.size<=A.G)
include hT hG
theorem E6j:PrimOK prog A F9j:=by
 have hp:=K5 hT
 refine PrimOK.addbP (F0a hT hG) func153 (show f153.body=some E1b by kernel_rfl) (body:=.loop C8j) (by kernel_rfl) (by kernel_rfl) fun ls e sq l h=>?_
 split at h
 ·rename_i a n s i
  obtain ⟨hc,hv⟩:=Tr.br1 h
  cases hv
  obtain ⟨rfl,rfl,hs,ls⟩:=D7 hc
  refine ⟨⟨.inr rfl,.inr rfl,.inr rfl,.inr rfl,.inr rfl,.inr rfl,.inr rfl,.inr rfl,trivial⟩,fun Bb hB=>SEB.block_exit (id:=0) ?_⟩
  have e0:([.s a,.i 0,.s s,.i 0]:List Lf)=B4z a (E5 0 (s.take 0):Nat) s (0:Nat):=rfl
  have e1:B4z a (E5 0 s:Nat) s s.length=B4z a (E5 0 (s.take s.length):Nat) s s.length:=by rw [List.take_length]
  rw [e0,e1]
  refine SEB.loop_nat (A:=A) (B0:=Bb) (c:=C8j) (I:=fun j=>⟨spNu.rho (B4z a (E5 0 (s.take j):Nat) s j),spNu.heap (B4z a (E5 0 (s.take j):Nat) s j),[]⟩) (N:=s.length) (fun j hj=>SEB.of_KP (A:=A) (B0:=Bb) (e:=.normal) D5 D6 hp (.none _) hB (G1v hs ls hj) rfl) ?_ (by simp) (i:=0) (Nat.zero_le _)
  have hr:=D9x a (E5 0 (s.take s.length):Nat) s s.length
  rw [dF (show ¬ (s.length:Int) < (s.length:Int) by omega)] at hr
  exact SEB.of_KP (A:=A) (B0:=Bb) (e:=.exit 0) D5 D6 hp (.none _) hB hr rfl
 ·cases h
theorem D8n:PrimOK prog A pR10:=by
 refine PrimOK.addP D5 D6 (E6j hT hG) (F0a hT hG) hG func153 (by kernel_rfl) fun ls v h=>?_
 unfold H1f at h
 split at h
 ·rename_i a
  obtain ⟨hc,hv⟩:=Tr.br1 h
  cases hv
  obtain ⟨hz,hl⟩:=D7 hc
  refine ⟨rfl,60,.sint .i64 (A7 a),?_,rfl,fun ι x h=>h⟩
  rw [gsz]
  refine (G1d a).trans ?_
  have ha:=A1f hz
  have hall:(F6 a).all F8=true:=by rw [ha]; exact Y7 _
  have hlt:=A6i _ hall
  have h18:10 ^ (F6 a).length<=10 ^ 18:=Nat.pow_le_pow_right (by decide) hl
  have hv:E5 0 (F6 a)=(A7 a).natAbs:=by rw [ha,O1]
  rw [A8 ⟨rfl,rfl,hall,hl⟩,A8 hz]
  rw [hv] at hlt ⊢
  by_cases h0:A7 a < 0
  ·rw [dT h0,V7 (by omega) (by omega),show (0:Int) - ((A7 a).natAbs:Nat)=A7 a by omega]; rfl
  ·rw [dF h0,show (((A7 a).natAbs:Nat):Int)=A7 a by omega]; rfl
 ·cases h
end
theorem G3s (a:List UInt8):(C8 prog pR10 60).call 143 [.sstr a] (Bg 8) I4=brK (A9 (isZ a)) (brK (decide (1+(F6 a).length < 4611686018427387904)) (some (.sstr (B5n (F6 a) (!(decide (A7 a < 0)))))) none) none:=by kernel_rfl
theorem B7i (V:Nat) (m:Bool):B5n (itoa (V:Int)) m=itoa (sv m V):=by
 unfold B5n
 cases m with
 | false=>rfl
 | true =>
  rw [Y0,Bool.true_and,B1p]
  by_cases h:(V:Int)=0
  ·rw [dT h,h]; rfl
  ·rw [dF h]
   show 45 :: itoa (V:Int)=itoa (-(V:Int))
   rw [A1q]
   unfold itoa
   rw [if_pos (by omega),Int.natAbs_neg,Int.natAbs_natCast]
def H0q:List Lf->Tr AV
 | [.s a]=>.br (A9 (zOK a)) (.leaf (.sstr (itoa (-(A7 a))))) .fail
 | _=>.fail
def pR11:Prims:=pR10.addt 143 (gP [.str] H0q)
theorem G3q (Z:Int):sv (!(decide (Z < 0))) Z.natAbs=-Z:=by
 by_cases h:Z < 0
 ·rw [dT h]; show ((Z.natAbs:Nat):Int)=_; omega
 ·rw [dF h]; show -((Z.natAbs:Nat):Int)=_; omega
theorem B4k {A:Amb} (hT:Tab A) (hG:prog.globals.size<=A.G):PrimOK prog A pR11:=by
 refine PrimOK.addP D5 D6 (D8n hT hG) (D8n hT hG) hG func143 (by kernel_rfl) fun ls v h=>?_
 unfold H0q at h
 split at h
 ·rename_i a
  obtain ⟨hc,hv⟩:=Tr.br1 h
  cases hv
  obtain ⟨hz,hl⟩:=D7 hc
  refine ⟨rfl,60,.sstr (itoa (-(A7 a))),?_,rfl,fun ι x h=>h⟩
  rw [gsz]
  refine (G3s a).trans ?_
  have hle:=(A0m a).1
  rw [A8 hz,dT (show 1+(F6 a).length < 4611686018427387904 by omega),A1f hz,B7i,G3q]
  rfl
 ·cases h
def B7n:Code:=f101.body.getD .skip
def C5d:Code:=I7 (J7 0 B7n)
def spOf:SP:=⟨[.int .i64]++dr 2++[.str]++dr 33,dd8⟩
theorem roundOf (n:Int) (s:List UInt8):E9 prog (C8 prog pR11 60) F7 C5d (spOf.rho [.i n,.s s]) (spOf.heap [.i n,.s s]) (H6 (fun _=>spOf) 8 []) =
  brK (decide (n > 9)) (brK (decide (1+s.length < 4611686018427387904)) (some (.normal,[.i (W (n.tdiv 10)),.s (UInt8.ofNat (IntKind.u8.wrap (W (48+n.tmod 10))).toNat :: s)])) none) (some (.exit 0,[.i n,.s s])):=by kernel_rfl
theorem stepOf {n:Nat} {s:List UInt8} (hn:n < 2 ^ 63) (hs:n > 9->s.length < 100):E9 prog (C8 prog pR11 60) F7 C5d (spOf.rho [.i n,.s s]) (spOf.heap [.i n,.s s]) (H6 (fun _=>spOf) 8 []) =
  if n > 9 then some (.normal,[.i (n / 10:Nat),.s (dig n :: s)]) else some (.exit 0,[.i n,.s s]):=by
 rw [roundOf]
 by_cases h:n > 9
 ·have hs:=hs h
  have e3:((n:Int)).tdiv 10=((n / 10:Nat):Int):=by rw [Int.tdiv_eq_ediv_of_nonneg (Int.natCast_nonneg _)]; rfl
  have e4:((n:Int)).tmod 10=((n % 10:Nat):Int):=by rw [Int.tmod_eq_emod_of_nonneg (Int.natCast_nonneg _)]; rfl
  have e5:(48:Int)+((n % 10:Nat):Int)=((48+n % 10:Nat):Int):=by omega
  rw [if_pos h,dT (show (n:Int) > 9 by omega),dT (show 1+s.length < 4611686018427387904 by omega),e3,e4,e5,B1b (n:=n / 10) (by omega),B1b (n:=48+n % 10) (by omega),B0m (n:=48+n % 10) (by omega),Int.toNat_natCast]
  rfl
 ·rw [if_neg h,dF (show ¬ (n:Int) > 9 by omega)]; rfl
def A9g (n:Nat):Nat:=((decDigits n).headD 0).toNat - 48
def A8w (n:Nat):List UInt8:=(decDigits n).tail
def F0p:Blk:=hookP spOf 8 [] fun
 | [.i n,.s s]=>.br (A9 (0<=n/\n < 2 ^ 63/\s=[])) (.leaf (.normal,spOf,[.i (A9g n.toNat:Nat),.s (A8w n.toNat)])) .fail
 | _=>.fail
theorem F2i {n:Nat} (h:n > 9):A9g n=A9g (n / 10)/\A8w n=A8w (n / 10)++[dig n]:=by
 unfold A9g A8w
 rw [A1k (by omega)]
 have hne:=A1r (n / 10)
 cases hh:decDigits (n / 10) with
 | nil=>exact (hne hh).elim
 | cons b r=>exact ⟨rfl,rfl⟩
theorem D4x {n:Nat} (h:¬ n > 9):A9g n=n/\A8w n=[]:=by
 unfold A9g A8w
 rw [Q6 (by omega)]
 refine ⟨?_,rfl⟩
 show (dig n).toNat - 48=n
 rw [A9t]; omega
theorem E2t (n:Nat):UInt8.ofNat (48+A9g n) :: A8w n=decDigits n/\A9g n<=9:=by
 unfold A9g A8w
 cases hh:decDigits n with
 | nil=>exact (A1r n hh).elim
 | cons b r =>
  have hb:=A0l n b (by rw [hh]; simp)
  have:48+(((b :: r).headD 0).toNat - 48)=b.toNat:=by show 48+(b.toNat - 48)=_; omega
  rw [this]
  refine ⟨by rw [UInt8.ofNat_toNat]; rfl,?_⟩
  show b.toNat - 48<=9
  omega
def D2o:Prims:=pR11.addb 101 0 F0p
section
variable {A:Amb} (hT:Tab A) (hG:prog.globals.size<=A.G)
include hT hG
theorem E3q:∀ ρ B e' ρ' B' D,(F0p ρ B).get=some (e',ρ',B',D)->AFr B B' D/\SEB prog A B (.block 0 (.loop C5d)) ⟨ρ,B,[]⟩ e' ⟨ρ',B',D⟩:=by
 have hp:=B4k hT hG
 refine M8 rfl fun ls e sq l h=>?_
 split at h
 ·rename_i n s
  obtain ⟨hc,hv⟩:=Tr.br1 h
  cases hv
  obtain ⟨h0,h1,rfl⟩:=D7 hc
  obtain ⟨n,rfl⟩:=Int.eq_ofNat_of_zero_le h0
  rw [Int.toNat_natCast]
  refine ⟨⟨.inr rfl,.inr rfl,.inr rfl,.inr rfl,.inr rfl,.inr rfl,.inr rfl,.inr rfl,trivial⟩,fun Bb hB=>SEB.block_exit (id:=0) ?_⟩
  have key:=SEB.while (P:=prog) (A:=A) (B0:=Bb) (c:=C5d) (fun s:Nat × List UInt8=>s.1*10 ^ s.2.length < 2 ^ 63) (fun s=>s.1) (fun s=>⟨spOf.rho [.i s.1,.s s.2],spOf.heap [.i s.1,.s s.2],[]⟩)
   (fun s=>(.exit 0,⟨spOf.rho [.i (A9g s.1:Nat),.s (A8w s.1++s.2)],spOf.heap [.i (A9g s.1:Nat),.s (A8w s.1++s.2)],[]⟩)) (fun s hs=>?_) (n,[]) (by simp only [List.length_nil,Nat.pow_zero,Nat.mul_one]; omega)
  ·simp only [List.append_nil] at key
   exact key
  ·obtain ⟨m,t⟩:=s
   simp only at hs
   have hm:m < 2 ^ 63:=Nat.lt_of_le_of_lt (by have:=Nat.mul_le_mul_left m (Nat.pow_pos (n:=t.length) (show 0 < 10 by decide)); omega) hs
   have hlen:m > 9->t.length < 100:=fun hz=>by
    rcases Nat.lt_or_ge t.length 100 with h2 | h2
    ·exact h2
    ·exfalso
     have h3:10 ^ 20<=10 ^ t.length:=Nat.pow_le_pow_right (by decide) (by omega)
     have h4:=Nat.mul_le_mul (show 1<=m by omega) h3
     omega
   have hk:=stepOf hm hlen (s:=t)
   by_cases h9:m > 9
   ·rw [if_pos h9] at hk
    left
    refine ⟨(m / 10,dig m :: t),?_,by simp only; omega,?_,SEB.of_KP (A:=A) (B0:=Bb) (e:=.normal) D5 D6 hp (.none _) hB hk rfl⟩
    ·simp only [List.length_cons,Nat.pow_succ]
     refine Nat.lt_of_le_of_lt ?_ hs
     rw [Nat.mul_comm (10 ^ t.length) 10,<- Nat.mul_assoc]
     exact Nat.mul_le_mul_right _ (Nat.div_mul_le_self _ _)
    ·obtain ⟨t1,t2⟩:=F2i h9
     simp only [t1,t2,List.append_assoc,List.singleton_append]
   ·rw [if_neg h9] at hk
    obtain ⟨t1,t2⟩:=D4x h9
    right
    refine ⟨by simp,?_⟩
    simp only [t1,t2,List.nil_append]
    exact SEB.of_KP (A:=A) (B0:=Bb) (e:=.exit 0) D5 D6 hp (.none _) hB hk rfl
 ·cases h
theorem D1t:PrimOK prog A D2o :=
 (B4k hT hG).addb func101 (show f101.body=some B7n by kernel_rfl) (by kernel_rfl) (E3q hT hG)
end
theorem G1r (n:Int):(C8 prog D2o 60).call 101 [.rng .i64 n 0 9223372036854775807] (Bg 8) I4 =
  brK (n == 0 - n) (brK (n != 0) (some (.str [45,57,50,50,51,51,55,50,48,51,54,56,53,52,55,55,53,56,48,56])) (brK (A9 (0<=n/\n < 2 ^ 63/\([]:List UInt8)=[])) (brK (decide (1+(A8w n.toNat).length < 4611686018427387904))
   (some (.sstr (UInt8.ofNat (IntKind.u8.wrap (W (48+(A9g n.toNat:Nat)))).toNat :: A8w n.toNat))) none) none))
   (brK (A9 (0<=n/\n < 2 ^ 63/\([]:List UInt8)=[])) (brK (decide (1+(A8w n.toNat).length < 4611686018427387904))
   (some (.sstr (UInt8.ofNat (IntKind.u8.wrap (W (48+(A9g n.toNat:Nat)))).toNat :: A8w n.toNat))) none) none):=by kernel_rfl
theorem C4e {n:Int} (h0:0<=n) (h1:n < 2 ^ 63):(C8 prog D2o 60).call 101 [.rng .i64 n 0 9223372036854775807] (Bg 8) I4=some (.sstr (itoa n)):=by
 rw [G1r]
 obtain ⟨n,rfl⟩:=Int.eq_ofNat_of_zero_le h0
 obtain ⟨t1,t2⟩:=E2t n
 have hlen:(A8w n).length<=19:=by
  have h2:=A0p (n:=n) (k:=19) (by omega) (by omega)
  rw [A1q] at h2
  unfold A8w
  rw [List.length_tail]; omega
 have e5:(48:Int)+((A9g n:Nat):Int)=((48+A9g n:Nat):Int):=by omega
 rw [Int.toNat_natCast,A8 ⟨h0,h1,rfl⟩,dT (show 1+(A8w n).length < 4611686018427387904 by omega),e5,B1b (n:=48+A9g n) (by omega),B0m (n:=48+A9g n) (by omega),Int.toNat_natCast,t1,<- A1q]
 by_cases hz:n=0
 ·subst hz; rfl
 ·rw [show ((n:Int) == 0 - (n:Int))=false by rw [beq_eq_false_iff_ne]; omega]; rfl
def G6y:List AV->Tr AV
 | [a]=>match J5 a with
  | some (k,n)=>.br (A9 (k=.i64/\0<=n/\n < 2 ^ 63)) (.leaf (.sstr (itoa n))) .fail
  | none=>.fail
 | _=>.fail
def F8w:Prims:=pR11.addt 101 G6y
def gOf:List AV->Tr AV
 | [a]=>match J5 a with
  | some (k,n)=>.br (A9 (k=.i64/\-(2 ^ 63) < n/\n < 2 ^ 63)) (.leaf (.sstr (itoa n))) .fail
  | none=>.fail
 | _=>.fail
def pR12:Prims:=pR11.addt 101 gOf
theorem C5n {ι:Emb} {a:AV} {k:IntKind} {n lo hi:Int} {xs:List Value} (h:J5 a=some (k,n)) (h1:lo<=n) (h2:n<=hi) (hx:VRL ι [a] xs):VRL ι [.rng k n lo hi] xs:=by
 refine VRL.weaken (show ([.rng k n lo hi]:List AV).length=[a].length from rfl) (fun i a' hi=>?_) hx
 match i,hi with
 | 0,hi=>cases hi; exact ⟨_,rfl,fun v hv=>by simp only [VR]; exact ⟨H9 h hv,h1,h2⟩⟩
 | i+1,hi=>simp at hi
def G8p:SP:=⟨dr 2++[.str]++dr 34,dd8⟩
theorem F7b (n:Int):E9 prog (C8 prog F8w 60) F7 B7n ([.rng .i64 n (-9223372036854775807) (-1)]++List.replicate 36 G6) (Bg 8) (H6 (fun _=>G8p) 8 []) =
  brK (A9 (IntKind.i64=.i64/\0<=0 - n/\0 - n < 2 ^ 63)) (brK (A9 (zOK (itoa (0 - n)))) (some (.ret,[.s (itoa (-(A7 (itoa (0 - n)))))])) none) none:=by kernel_rfl
def pOn (n:Int):Prims:=pR11.addh 101 (G0u [.rng .i64 n (-9223372036854775807) (-1)] (Bg 8) (.sstr (itoa n)) (Bg 8) [])
theorem H0i (n:Int):(C8 prog (pOn n) 60).call 101 [.rng .i64 n (-9223372036854775807) (-1)] (Bg 8) I4 =
  brK (A9 (([.rng .i64 n (-9223372036854775807) (-1)]:List AV)=[.rng .i64 n (-9223372036854775807) (-1)]/\Bg 8=Bg 8)) (some (.sstr (itoa n))) none:=by kernel_rfl
section
variable {A:Amb} (hT:Tab A) (hG:prog.globals.size<=A.G)
include hT hG
theorem F1h:PrimOK prog A F8w:=by
 refine PrimOK.addt3 D5 D6 (B4k hT hG) hG func101 (by kernel_rfl) fun args v hv=>?_
 unfold G6y at hv
 split at hv
 ·rename_i a
  split at hv
  ·rename_i k n hs
   obtain ⟨hc,hv⟩:=Tr.br1 hv
   cases hv
   obtain ⟨rfl,h0,h1⟩:=D7 hc
   obtain ⟨B',hca⟩:=Ca.of_finV (C4e h0 h1)
   exact ⟨D2o,_,_,B',D1t hT hG,fun ι xs hx=>C5n (lo:=0) (hi:=9223372036854775807) hs h0 (by omega) hx,fun ι x hx=>hx,rfl,rfl,by rw [gsz]; exact hca⟩
  ·cases hv
 ·cases hv
theorem G2z {n:Int} (h0:n < 0) (h1:-(2 ^ 63) < n):PrimOK prog A (pOn n):=by
 refine PrimOK.body (B4k hT hG) func101 (show f101.body=some B7n by kernel_rfl) fun args B v B' D hq=>?_
 obtain ⟨hc1,hv⟩:=Tr.br_get0 hq
 obtain ⟨rfl,rfl⟩:=D7 hc1
 simp only [Tr.get,sI,pI] at hv
 obtain ⟨rfl,rfl,rfl⟩:=hv
 have hk:=F7b n
 have hz:zOK (itoa (0 - n)):=E5p (k:=19) (by omega) (by omega) (by omega)
 rw [A8 ⟨rfl,by omega,by omega⟩,A8 hz,D8,show -(0 - n)=n by omega] at hk
 have hs:=SEB.of_KP (A:=A) (B0:=Bg 8) (e:=.ret) D5 D6 (F1h hT hG) (.none _) rfl hk rfl
 exact ⟨⟨Nat.le_refl _,fun _ _ _=>rfl⟩,[.rng .i64 n (-9223372036854775807) (-1)],.ret,_,[.sstr (itoa n)],fun _ _ h=>h,hs,by simp,rfl,rfl,rfl,rfl⟩
theorem D9s:PrimOK prog A pR12:=by
 refine PrimOK.addt3 D5 D6 (B4k hT hG) hG func101 (by kernel_rfl) fun args v hv=>?_
 unfold gOf at hv
 split at hv
 ·rename_i a
  split at hv
  ·rename_i k n hs
   obtain ⟨hc,hv⟩:=Tr.br1 hv
   cases hv
   obtain ⟨rfl,h0,h1⟩:=D7 hc
   by_cases hn:0<=n
   ·obtain ⟨B',hca⟩:=Ca.of_finV (C4e hn h1)
    exact ⟨D2o,_,_,B',D1t hT hG,fun ι xs hx=>C5n (lo:=0) (hi:=9223372036854775807) hs hn (by omega) hx,fun ι x hx=>hx,rfl,rfl,by rw [gsz]; exact hca⟩
   ·have hk:=H0i n
    rw [A8 ⟨rfl,rfl⟩,E8] at hk
    obtain ⟨B',hca⟩:=Ca.of_finV hk
    exact ⟨pOn n,_,_,B',G2z hT hG (by omega) h0,fun ι xs hx=>C5n (lo:=-9223372036854775807) (hi:=-1) hs (by omega) (by omega) hx,fun ι x hx=>hx,rfl,rfl,by rw [gsz]; exact hca⟩
  ·cases hv
 ·cases hv
end
end Go.Proofs.Tryz
namespace Go.Proofs.Tryz
open Go.Ad
open Go.Lib (decDigits itoa nDigits decFrom digitVal)
def U8 (a b:List UInt8):Bool:=decide ((F6 a).length<=18) && decide ((F6 b).length<=18)
theorem G5g (a b:List UInt8):(C8 prog pR12 60).call 117 [.sstr a,.sstr b] (Bg 8) I4 =
  brK (decide (((F6 a).length:Int) > 18)) (some (.tuple [.int .i64 0,.int .i64 0,.bool false])) (brK (decide (((F6 b).length:Int) > 18)) (some (.tuple [.int .i64 0,.int .i64 0,.bool false]))
   (brK (A9 (isZ a/\(F6 a).length<=18)) (brK (A9 (isZ b/\(F6 b).length<=18)) (some (.tuple [.sint .i64 (A7 a),.sint .i64 (A7 b),.bool true])) none) none)):=by kernel_rfl
def G5y:List Lf->Tr AV
 | [.s a,.s b]=>.br (A9 (isZ a/\isZ b)) (.leaf (.tuple [.sint .i64 (bif U8 a b then A7 a else 0),.sint .i64 (bif U8 a b then A7 b else 0),.sbool (U8 a b)])) .fail
 | _=>.fail
def pR13:Prims:=pR12.addt 117 (gP [.str,.str] G5y)
theorem D9l {A:Amb} (hT:Tab A) (hG:prog.globals.size<=A.G):PrimOK prog A pR13:=by
 refine PrimOK.addP D5 D6 (D9s hT hG) (D9s hT hG) hG func117 (by kernel_rfl) fun ls v h=>?_
 unfold G5y at h
 split at h
 ·rename_i a b
  obtain ⟨hc,hv⟩:=Tr.br1 h
  cases hv
  obtain ⟨ha,hb⟩:=D7 hc
  have hk:=G5g a b
  have fin:∀ v',(C8 prog pR12 60).call 117 [.sstr a,.sstr b] (Bg 8) I4=some v'->below 0 v'=true->(∀ ι x,VR ι v' x->VR ι (.tuple [.sint .i64 (bif U8 a b then A7 a else 0),.sint .i64 (bif U8 a b then A7 b else 0),.sbool (U8 a b)]) x) ->
    J8 0 (mkT [.str,.str] [.s a,.s b]).1=true/\∃ n v',(C8 prog pR12 n).call 117 (mkT [.str,.str] [.s a,.s b]).1 (Bg prog.globals.size) I4=some v'/\below 0 v'=true/\∀ ι x,VR ι v' x->VR ι (.tuple [.sint .i64 (bif U8 a b then A7 a else 0),.sint .i64 (bif U8 a b then A7 b else 0),.sbool (U8 a b)]) x:=fun v' h1 h2 h3 =>
   ⟨rfl,60,v',by rw [gsz]; exact h1,h2,h3⟩
  by_cases h1:(F6 a).length<=18
  ·rw [dF (show ¬ ((F6 a).length:Int) > 18 by omega)] at hk
   by_cases h2:(F6 b).length<=18
   ·have hs:U8 a b=true:=by unfold U8; rw [dT h1,dT h2]; rfl
    rw [dF (show ¬ ((F6 b).length:Int) > 18 by omega),A8 ⟨ha,h1⟩,A8 ⟨hb,h2⟩] at hk
    refine fin _ hk rfl fun ι x=>?_
    rw [hs]; exact W9 (fun _ h=>h) (fun _ h=>h) (fun _ h=>A0e rfl _ h) x
   ·have hs:U8 a b=false:=by unfold U8; rw [dF h2,Bool.and_false]
    rw [dT (show ((F6 b).length:Int) > 18 by omega)] at hk
    refine fin _ hk rfl fun ι x=>?_
    rw [hs]; exact W9 (fun _ h=>J4 rfl _ h) (fun _ h=>J4 rfl _ h) (fun _ h=>A0e rfl _ h) x
  ·have hs:U8 a b=false:=by unfold U8; rw [dF h1,Bool.false_and]
   rw [dT (show ((F6 a).length:Int) > 18 by omega)] at hk
   refine fin _ hk rfl fun ι x=>?_
   rw [hs]; exact W9 (fun _ h=>J4 rfl _ h) (fun _ h=>J4 rfl _ h) (fun _ h=>A0e rfl _ h) x
 ·cases h
theorem C7r {a b:List UInt8} (ha:isZ a) (hb:isZ b) (h:U8 a b=true):((A7 a).natAbs < 10 ^ 18/\(A7 b).natAbs < 10 ^ 18):=by
 unfold U8 at h
 rw [Bool.and_eq_true,decide_eq_true_eq,decide_eq_true_eq] at h
 have h1:=X5 (A7 a).natAbs
 have h2:=X5 (A7 b).natAbs
 rw [<- A1f ha] at h1
 rw [<- A1f hb] at h2
 exact ⟨Nat.lt_of_lt_of_le h1 (Nat.pow_le_pow_right (by decide) h.1),Nat.lt_of_lt_of_le h2 (Nat.pow_le_pow_right (by decide) h.2)⟩
abbrev D1r (a x y:List UInt8) (ad s:Bool):Option AV :=
 brK (A9 (x.all F8=true/\y.all F8=true/\x.length < 2 ^ 30/\y.length < 2 ^ 30/\(ad=false->E5 0 y<=E5 0 x))) (brK (A9 (isZ a)) (brK (decide (1+(itoa (A6n ad (E5 0 x) (E5 0 y):Nat)).length < 4611686018427387904))
  (some (.sstr (B5n (itoa (A6n ad (E5 0 x) (E5 0 y):Nat)) s))) none) none) none
abbrev C7f (a b x y:List UInt8) (la lb:Bool) (n:Int):Option AV :=
 brK (A9 (isZ a/\isZ b)) (brK (U8 a b) (brK (A9 (IntKind.i64=.i64/\-(2 ^ 63) < n/\n < 2 ^ 63)) (some (.sstr (itoa n))) none)
  (brK (A9 (isZ a)) (brK (A9 (isZ b)) (brK (la == lb) (D1r a x y true la) (brK (A9 (x=itoa (E5 0 x:Nat)/\y=itoa (E5 0 y:Nat))) (brK (decide (E5 0 x < E5 0 y)) (D1r b y x false lb) (D1r a x y false la)) none)) none) none)) none
theorem G5d (a b:List UInt8):(C8 prog pR13 60).call 100 [.sstr a,.sstr b] (Bg 8) I4 =
  C7f a b (F6 a) (F6 b) (decide (A7 a < 0)) (decide (A7 b < 0)) (W ((bif U8 a b then A7 a else 0)+(bif U8 a b then A7 b else 0))):=by kernel_rfl
theorem C1v {a:List UInt8} {X Y:Nat} {ad s:Bool} (ha:isZ a) (lx:(itoa (X:Int)).length < 2 ^ 27) (ly:(itoa (Y:Int)).length < 2 ^ 27) (hle:ad=false->Y<=X) :
  D1r a (itoa (X:Nat)) (itoa (Y:Nat)) ad s=some (.sstr (itoa (sv s (A6n ad X Y)))):=by
 unfold D1r
 have hlen:(itoa (A6n ad X Y:Nat)).length<=2 ^ 28:=by
  have hx:=X5 X
  have hy:=X5 Y
  have h2:(itoa (X:Int)).length<=max (itoa (X:Int)).length (itoa (Y:Int)).length:=by omega
  have h3:(itoa (Y:Int)).length<=max (itoa (X:Int)).length (itoa (Y:Int)).length:=by omega
  have h4:=Nat.lt_of_lt_of_le hx (Nat.pow_le_pow_right (n:=10) (by decide) h2)
  have h5:=Nat.lt_of_lt_of_le hy (Nat.pow_le_pow_right (n:=10) (by decide) h3)
  have h6:A6n ad X Y < 10 ^ (max (itoa (X:Int)).length (itoa (Y:Int)).length+1):=by
   rw [Nat.pow_succ]
   unfold A6n
   cases ad <;> simp only [cond_true,cond_false] <;> omega
  have:=A0p h6 (by omega)
  omega
 rw [O1,O1,A8 ⟨Y7 X,Y7 Y,by omega,by omega,hle⟩,A8 ha,dT (show 1+(itoa (A6n ad X Y:Nat)).length < 4611686018427387904 by omega),B7i]
 rfl
def TI (op:Int->Int->Int):List Lf->Tr AV
 | [.s a,.s b]=>.br (A9 (zOK a/\zOK b)) (.leaf (.sstr (itoa (op (A7 a) (A7 b))))) .fail
 | _=>.fail
def pR14:Prims:=pR13.addt 100 (gP [.str,.str] (TI (·+·)))
theorem A6p {a:List UInt8} (h:zOK a):F6 a=itoa ((A7 a).natAbs:Nat)/\(itoa ((A7 a).natAbs:Int)).length < 2 ^ 26:=by
 have h1:=A1f h.1
 have h2:=(A0m a).1
 have h3:=h.2
 rw [h1] at h2
 exact ⟨h1,by omega⟩
theorem G3k (A B:Int) (h:decide (A < 0)=decide (B < 0)):sv (decide (A < 0)) (A.natAbs+B.natAbs)=A+B:=by
 have:=decide_eq_decide.1 h
 by_cases h0:A < 0
 ·rw [dT h0,B1p]; omega
 ·rw [dF h0,B5e]; omega
theorem D4d {a b:List UInt8} (ha:zOK a) (hb:zOK b):C7f a b (F6 a) (F6 b) (decide (A7 a < 0)) (decide (A7 b < 0)) (W ((bif U8 a b then A7 a else 0)+(bif U8 a b then A7 b else 0)))=some (.sstr (itoa (A7 a+A7 b))):=by
 obtain ⟨a1,a2⟩:=A6p ha
 obtain ⟨b1,b2⟩:=A6p hb
 unfold C7f
 rw [A8 ⟨ha.1,hb.1⟩,E8]
 cases hbr:U8 a b with
 | true =>
  obtain ⟨h1,h2⟩:=C7r ha.1 hb.1 hbr
  rw [cond_true,cond_true,V7 (by omega) (by omega),A8 ⟨rfl,by omega,by omega⟩]; rfl
 | false =>
  rw [I8,A8 ha.1,A8 hb.1,E8,E8,a1,b1]
  cases hl:(decide (A7 a < 0) == decide (A7 b < 0)) with
  | true =>
   rw [E8,C1v ha.1 (by omega) (by omega) (fun h=>by cases h)]
   have:=G3k (A7 a) (A7 b) (by simpa using hl)
   show some (AV.sstr (itoa (sv (decide (A7 a < 0)) ((A7 a).natAbs+(A7 b).natAbs))))=_
   rw [this]
  | false =>
   have hne:decide (A7 a < 0) ≠ decide (A7 b < 0):=by simpa using hl
   have hiff:¬ (A7 a < 0 ↔ A7 b < 0):=fun e=>hne (decide_eq_decide.2 e)
   rw [I8,O1,O1,A8 ⟨rfl,rfl⟩,E8]
   by_cases hlt:(A7 a).natAbs < (A7 b).natAbs
   ·rw [dT hlt,E8,C1v hb.1 (by omega) (by omega) (fun _=>by omega)]
    congr 3
    show sv (decide (A7 b < 0)) ((A7 b).natAbs - (A7 a).natAbs)=_
    by_cases h0:A7 b < 0
    ·rw [dT h0,B1p]; omega
    ·rw [dF h0,B5e]; omega
   ·rw [dF hlt,I8,C1v ha.1 (by omega) (by omega) (fun _=>by omega)]
    congr 3
    show sv (decide (A7 a < 0)) ((A7 a).natAbs - (A7 b).natAbs)=_
    by_cases h0:A7 a < 0
    ·rw [dT h0,B1p]; omega
    ·rw [dF h0,B5e]; omega
theorem E1r {A:Amb} (hT:Tab A) (hG:prog.globals.size<=A.G):PrimOK prog A pR14:=by
 refine PrimOK.addP D5 D6 (D9l hT hG) (D9l hT hG) hG func100 (by kernel_rfl) fun ls v h=>?_
 unfold TI at h
 split at h
 ·rename_i a b
  obtain ⟨hc,hv⟩:=Tr.br1 h
  cases hv
  obtain ⟨ha,hb⟩:=D7 hc
  exact ⟨rfl,60,_,by rw [gsz]; exact (G5d a b).trans (D4d ha hb),rfl,fun ι x h=>h⟩
 ·cases h
abbrev E1h (a b x y:List UInt8) (s:Bool):Option AV :=
 brK (A9 (x.all F8=true/\y.all F8=true/\x ≠ []/\x.length < 2 ^ 29/\y.length < 2 ^ 29)) (brK (A9 (isZ a)) (brK (A9 (isZ b)) (brK (decide (1+(itoa (E5 0 x*E5 0 y:Nat)).length < 4611686018427387904))
  (some (.sstr (B5n (itoa (E5 0 x*E5 0 y:Nat)) s))) none) none) none) none
abbrev D5a (a b x y:List UInt8) (la lb:Bool) (n:Int):Option AV :=
 brK (A9 (isZ a/\isZ b)) (brK (U8 a b) (brK (decide (W ((a.length:Int)+(b.length:Int))<=18)) (brK (A9 (IntKind.i64=.i64/\-(2 ^ 63) < n/\n < 2 ^ 63)) (some (.sstr (itoa n))) none) (E1h a b x y (!(la == lb)))) (E1h a b x y (!(la == lb)))) none
theorem G7j (a b:List UInt8):(C8 prog pR14 60).call 73 [.sstr a,.sstr b] (Bg 8) I4 =
  D5a a b (F6 a) (F6 b) (decide (A7 a < 0)) (decide (A7 b < 0)) (W ((bif U8 a b then A7 a else 0)*(bif U8 a b then A7 b else 0))):=by kernel_rfl
theorem F2c {a b:List UInt8} {X Y:Nat} {s:Bool} (ha:isZ a) (hb:isZ b) (lx:(itoa (X:Int)).length < 2 ^ 26) (ly:(itoa (Y:Int)).length < 2 ^ 26) :
  E1h a b (itoa (X:Nat)) (itoa (Y:Nat)) s=some (.sstr (itoa (sv s (X*Y)))):=by
 unfold E1h
 have hlen:(itoa ((X*Y:Nat):Int)).length<=2 ^ 28:=by
  have hx:=X5 X
  have hy:=X5 Y
  have h6:=Nat.mul_lt_mul'' hx hy
  rw [<- Nat.pow_add] at h6
  have hpos:0 < (itoa (X:Int)).length:=by cases hh:itoa (X:Int) with | nil=>exact (A3g _ hh).elim | cons=>simp
  have:=A0p h6 (by omega)
  omega
 rw [O1,O1,A8 ⟨Y7 X,Y7 Y,A3g _,by omega,by omega⟩,A8 ha,A8 hb,dT (show 1+(itoa ((X*Y:Nat):Int)).length < 4611686018427387904 by omega),B7i]
 rfl
theorem G3r (A B:Int):sv (!(decide (A < 0) == decide (B < 0))) (A.natAbs*B.natAbs)=A*B:=by
 have:=E6d (decide (A < 0)) (decide (B < 0)) A.natAbs B.natAbs
 rw [B6a,B6a] at this
 exact this
def pR15:Prims:=pR14.addt 73 (gP [.str,.str] (TI (·*·)))
theorem C7u {a:List UInt8} (h:isZ a):(A7 a).natAbs < 10 ^ a.length:=by
 have h1:=X5 (A7 a).natAbs
 rw [<- A1f h] at h1
 exact Nat.lt_of_lt_of_le h1 (Nat.pow_le_pow_right (by decide) (A0m a).1)
theorem E2j {a b:List UInt8} (ha:zOK a) (hb:zOK b):D5a a b (F6 a) (F6 b) (decide (A7 a < 0)) (decide (A7 b < 0)) (W ((bif U8 a b then A7 a else 0)*(bif U8 a b then A7 b else 0)))=some (.sstr (itoa (A7 a*A7 b))):=by
 obtain ⟨a1,a2⟩:=A6p ha
 obtain ⟨b1,b2⟩:=A6p hb
 have hlt:=F2c (s:=!(decide (A7 a < 0) == decide (A7 b < 0))) ha.1 hb.1 a2 b2
 rw [G3r] at hlt
 have ha2:=ha.2
 have hb2:=hb.2
 unfold D5a
 rw [A8 ⟨ha.1,hb.1⟩,E8,V7 (n:=(a.length:Int)+(b.length:Int)) (by omega) (by omega)]
 cases hbr:U8 a b with
 | true =>
  rw [E8]
  by_cases h18:a.length+b.length<=18
  ·have h1:=C7u ha.1
   have h2:=C7u hb.1
   have h3:=Nat.mul_lt_mul'' h1 h2
   rw [<- Nat.pow_add] at h3
   have h4:=Nat.lt_of_lt_of_le h3 (Nat.pow_le_pow_right (n:=10) (by decide) h18)
   have h5:(A7 a*A7 b).natAbs < 10 ^ 18:=by rw [Int.natAbs_mul]; exact h4
   rw [cond_true,cond_true,dT (show (a.length:Int)+(b.length:Int)<=18 by omega),E8,V7 (by omega) (by omega),A8 ⟨rfl,by omega,by omega⟩]; rfl
  ·rw [dF (show ¬ (a.length:Int)+(b.length:Int)<=18 by omega),I8,a1,b1]
   exact hlt
 | false=>rw [I8,a1,b1]; exact hlt
theorem E1f {A:Amb} (hT:Tab A) (hG:prog.globals.size<=A.G):PrimOK prog A pR15:=by
 refine PrimOK.addP D5 D6 (E1r hT hG) (E1r hT hG) hG func73 (by kernel_rfl) fun ls v h=>?_
 unfold TI at h
 split at h
 ·rename_i a b
  obtain ⟨hc,hv⟩:=Tr.br1 h
  cases hv
  obtain ⟨ha,hb⟩:=D7 hc
  exact ⟨rfl,60,_,by rw [gsz]; exact (G7j a b).trans (E2j ha hb),rfl,fun ι x h=>h⟩
 ·cases h
theorem G3w (a b:List UInt8):(C8 prog pR15 60).call 122 [.sstr a,.sstr b] (Bg 8) I4 =
  brK (A9 (zOK b)) (brK (A9 (zOK a/\zOK (itoa (-(A7 b))))) (some (.sstr (itoa (A7 a+A7 (itoa (-(A7 b))))))) none) none:=by kernel_rfl
def A2v (a:List UInt8):Prop:=isZ a/\a.length < 2 ^ 26 - 1
theorem A6u {a:List UInt8} (h:A2v a):zOK a:=⟨h.1,by have:=h.2; omega⟩
theorem F3z {a:List UInt8} (h:A2v a):zOK (itoa (-(A7 a))):=by
 refine ⟨K8 _,?_⟩
 have h1:=A3u (-(A7 a))
 have h2:=(A6p (A6u h)).1
 have h3:=(A0m a).1
 have h4:=h.2
 rw [h2,A1q] at h3
 rw [Int.natAbs_neg] at h1
 omega
def TJ (op:Int->Int->Int):List Lf->Tr AV
 | [.s a,.s b]=>.br (A9 (A2v a/\A2v b)) (.leaf (.sstr (itoa (op (A7 a) (A7 b))))) .fail
 | _=>.fail
def pR16:Prims:=pR15.addt 122 (gP [.str,.str] (TJ (· - ·)))
theorem D9n {A:Amb} (hT:Tab A) (hG:prog.globals.size<=A.G):PrimOK prog A pR16:=by
 refine PrimOK.addP D5 D6 (E1f hT hG) (E1f hT hG) hG func122 (by kernel_rfl) fun ls v h=>?_
 unfold TJ at h
 split at h
 ·rename_i a b
  obtain ⟨hc,hv⟩:=Tr.br1 h
  cases hv
  obtain ⟨ha,hb⟩:=D7 hc
  refine ⟨rfl,60,.sstr (itoa (A7 a - A7 b)),?_,rfl,fun ι x h=>h⟩
  rw [gsz]
  refine (G3w a b).trans ?_
  rw [A8 (A6u hb),A8 ⟨A6u ha,F3z hb⟩,D8,Int.sub_eq_add_neg]
  rfl
 ·cases h
theorem G4s (a b:List UInt8):(C8 prog pR16 60).call 114 [.sstr a,.sstr b] (Bg 8) I4 =
  brK (A9 (A2v a/\A2v b)) (brK (itoa (A7 a - A7 b) == [48]) (some (.int .i64 0)) (brK (A9 (isZ (itoa (A7 a - A7 b)))) (brK (decide (A7 (itoa (A7 a - A7 b)) < 0)) (some (.int .i64 (-1))) (some (.int .i64 1))) none)) none:=by kernel_rfl
def H1j:List Lf->Tr AV
 | [.s a,.s b]=>.br (A9 (A2v a/\A2v b)) (.leaf (.sint .i64 (L9 (A7 a - A7 b)))) .fail
 | _=>.fail
def pR17:Prims:=pR16.addt 114 (gP [.str,.str] H1j)
theorem D9i {A:Amb} (hT:Tab A) (hG:prog.globals.size<=A.G):PrimOK prog A pR17:=by
 refine PrimOK.addP D5 D6 (D9n hT hG) (D9n hT hG) hG func114 (by kernel_rfl) fun ls v h=>?_
 unfold H1j at h
 split at h
 ·rename_i a b
  obtain ⟨hc,hv⟩:=Tr.br1 h
  cases hv
  have hab:=D7 hc
  have hk:=G4s a b
  refine ⟨rfl,60,.int .i64 (L9 (A7 a - A7 b)),?_,rfl,fun ι x=>J4 rfl x⟩
  rw [gsz]
  refine hk.trans ?_
  rw [A8 hab,E8,Y0,A8 (K8 _),D8]
  unfold L9
  by_cases h0:A7 a - A7 b=0
  ·rw [dT h0,if_pos h0]; rfl
  ·rw [dF h0,if_neg h0]
   by_cases h1:A7 a - A7 b < 0
   ·rw [dT h1,if_pos h1]; rfl
   ·rw [dF h1,if_neg h1]; rfl
 ·cases h
end Go.Proofs.Tryz
namespace Go.Proofs.Tryz
open Go.Ad
open Go.Lib (decDigits itoa nDigits decFrom digitVal)
abbrev C8m (x y r:Int):Option (List Lf) :=
 brK (decide ¬ y=0) (brK (A9 (IntKind.i64=.i64/\-(2 ^ 63) < W ((W (x - r)).tdiv y)/\W ((W (x - r)).tdiv y) < 2 ^ 63)) (brK (A9 (IntKind.i64=.i64/\-(2 ^ 63) < r/\r < 2 ^ 63)) (some [.s (itoa (W ((W (x - r)).tdiv y))),.s (itoa r)]) none) none) none
abbrev G1y (x y:Int):Option (List Lf) :=
 brK (decide ¬ y=0) (brK (x.tmod y != 0) (brK (!(decide (x.tmod y < 0) == decide (y < 0))) (C8m x y (W (x.tmod y+y))) (C8m x y (x.tmod y))) (C8m x y (x.tmod y))) none
abbrev A8z (a b out:List UInt8):Option (List Lf) :=
 brK (A9 (zOK out/\zOK b)) (brK (A9 (A2v a/\A2v (itoa (A7 out*A7 b)))) (some [.s out,.s (itoa (A7 a - A7 (itoa (A7 out*A7 b))))]) none) none
abbrev q72 (a b:List UInt8) (la lb:Bool) (r q:List UInt8):Option (List Lf) :=
 brK (!(r == [48])) (brK (A9 (isZ a)) (brK (A9 (isZ b)) (brK (!(la == lb)) (brK (A9 (A2v q/\A2v [49])) (A8z a b (itoa (A7 q - A7 [49]))) none) (A8z a b q)) none) none) (A8z a b q)
abbrev E5t (a b x y:List UInt8) (la lb:Bool):Option (List Lf) :=
 brK (A9 (x.all F8=true/\x ≠ []/\y=itoa (E5 0 y:Nat)/\0 < E5 0 y/\x.length < 2 ^ 28/\y.length < 2 ^ 28)) (brK (A9 (isZ a)) (brK (A9 (isZ b)) (brK (decide (1+(itoa (E5 0 x / E5 0 y:Nat)).length < 4611686018427387904))
  (q72 a b la lb (itoa (E5 0 x % E5 0 y:Nat)) (B5n (itoa (E5 0 x / E5 0 y:Nat)) (!(la == lb)))) none) none) none) none
theorem G7a (a b:List UInt8):(C8 prog pR17 60).call 72 (spSS.rho [.s a,.s b]) (spSS.heap [.s a,.s b]) (O8 spSS 8 []) =
  brK (A9 (isZ a/\isZ b)) (brK (U8 a b) (G1y (bif U8 a b then A7 a else 0) (bif U8 a b then A7 b else 0)) (E5t a b (F6 a) (F6 b) (decide (A7 a < 0)) (decide (A7 b < 0)))) none:=by kernel_rfl
theorem D6u {x y q:Int} (h:x=y*q) (hy:y ≠ 0):x.tdiv y=q:=by
 subst h
 exact Int.mul_tdiv_cancel_left q hy
theorem B9v {x y q r:Int} (h:r+y*q=x) (hy:y ≠ 0) (x1:x.natAbs < 10 ^ 18) (r1:r.natAbs < 2 ^ 62) (q1:q.natAbs < 2 ^ 62):C8m x y r=some [.s (itoa q),.s (itoa r)]:=by
 have e:(x - r).tdiv y=q:=D6u (by omega) hy
 unfold C8m
 rw [V7 (n:=x - r) (by omega) (by omega),e,V7 (n:=q) (by omega) (by omega),dT hy,A8 ⟨rfl,by omega,by omega⟩,A8 ⟨rfl,by omega,by omega⟩]
 rfl
theorem F7u {x y:Int} (hy:y ≠ 0) (x1:x.natAbs < 10 ^ 18) (y1:y.natAbs < 10 ^ 18):G1y x y=some [.s (itoa (x.fdiv y)),.s (itoa (x.fmod y))]:=by
 have h0:=Int.tmod_add_mul_tdiv x y
 have hr:(x.tmod y).natAbs < y.natAbs:=by
  rw [Int.natAbs_tmod]
  exact Nat.mod_lt _ (by omega)
 have hq:(x.tdiv y).natAbs<=x.natAbs:=by
  rw [Int.natAbs_tdiv]
  exact Nat.div_le_self _ _
 unfold G1y
 generalize x.tmod y=r at *
 generalize x.tdiv y=q at *
 rw [dT hy,E8]
 by_cases hr0:r=0
 ·obtain ⟨f1,f2⟩:=A8s (A:=x) (B:=y) (q:=q) (r:=r) h0 (by omega)
  rw [f1,f2,show (r != 0)=false by simpa using hr0,I8]
  exact B9v h0 hy (by omega) (by omega) (by omega)
 ·rw [show (r != 0)=true by simpa using hr0,E8]
  by_cases hs:(r < 0 ↔ y < 0)
  ·obtain ⟨f1,f2⟩:=A8s (A:=x) (B:=y) (q:=q) (r:=r) h0 (by omega)
   rw [f1,f2,show (decide (r < 0) == decide (y < 0))=true by rw [beq_iff_eq]; exact decide_eq_decide.2 hs]
   exact B9v h0 hy (by omega) (by omega) (by omega)
  ·have hm:y*(q - 1)=y*q - y:=by rw [Int.mul_sub,Int.mul_one]
   have h1:r+y+y*(q - 1)=x:=by rw [hm]; omega
   obtain ⟨f1,f2⟩:=A8s (A:=x) (B:=y) (q:=q - 1) (r:=r+y) h1 (by omega)
   rw [f1,f2,show (decide (r < 0) == decide (y < 0))=false by rw [beq_eq_false_iff_ne]; exact fun e=>hs (decide_eq_decide.1 e),V7 (n:=r+y) (by omega) (by omega)]
   exact B9v h1 hy (by omega) (by omega) (by omega)
def Y2 (a:List UInt8):Prop:=isZ a/\a.length < 2 ^ 24
theorem A1y {a:List UInt8} (h:Y2 a):A2v a:=⟨h.1,by have:=h.2; omega⟩
theorem A4s {Z:Int} {k:Nat} (h:Z.natAbs < 10 ^ k) (h1:1<=k):(itoa Z).length<=k+1:=by
 have h2:=A3u Z
 have h3:=A3s h h1
 omega
theorem F2l {a b:List UInt8} {Q:Int} (ha:Y2 a) (hb:Y2 b) (hq:Q.natAbs < 10 ^ (a.length+1)):A8z a b (itoa Q)=some [.s (itoa Q),.s (itoa (A7 a - Q*A7 b))]:=by
 have h1:=ha.2
 have h2:=hb.2
 have hB:=C7u hb.1
 have hl:=A4s hq (by omega)
 have h3:(Q*A7 b).natAbs < 10 ^ (a.length+1+b.length):=by
  rw [Int.natAbs_mul,Nat.pow_add]
  exact Nat.mul_lt_mul'' hq hB
 have hl2:=A4s h3 (by omega)
 unfold A8z
 rw [D8,D8,A8 ⟨⟨K8 _,by omega⟩,A6u (A1y hb)⟩,A8 ⟨A1y ha,K8 _,by omega⟩]
 rfl
theorem G3b {a:List UInt8} (h:isZ a):a ≠ []:=by
 unfold isZ at h
 rw [h]; exact A3g _
theorem E8u {a b:List UInt8} (ha:Y2 a) (hb:Y2 b) (h0:A7 b ≠ 0) :
  E5t a b (F6 a) (F6 b) (decide (A7 a < 0)) (decide (A7 b < 0))=some [.s (itoa ((A7 a).fdiv (A7 b))),.s (itoa ((A7 a).fmod (A7 b)))]:=by
 obtain ⟨a1,a2⟩:=A6p (A6u (A1y ha))
 obtain ⟨b1,b2⟩:=A6p (A6u (A1y hb))
 have hA:=C7u ha.1
 have hne:=G3b ha.1
 have la:=ha.2
 unfold E5t
 rw [a1,b1,O1,O1]
 have hU:0 < (A7 b).natAbs:=by omega
 have hdm:=Nat.div_add_mod (A7 a).natAbs (A7 b).natAbs
 have hlt:=Nat.mod_lt (A7 a).natAbs hU
 have hQ:(A7 a).natAbs / (A7 b).natAbs<=(A7 a).natAbs:=Nat.div_le_self _ _
 have hlq:(itoa (((A7 a).natAbs / (A7 b).natAbs:Nat):Int)).length<=(itoa ((A7 a).natAbs:Int)).length:=A5p hQ
 rw [A8 ⟨Y7 _,A3g _,rfl,hU,by omega,by omega⟩,A8 ha.1,A8 hb.1,E8,E8,E8,dT (show 1+(itoa (((A7 a).natAbs / (A7 b).natAbs:Nat):Int)).length < 4611686018427387904 by omega),E8,B7i]
 generalize hV:(A7 a).natAbs=V at *
 generalize hUU:(A7 b).natAbs=U at *
 generalize V / U=Q at *
 generalize V % U=R at *
 have hZ:(V:Int)=(U:Int)*(Q:Int)+(R:Int):=by exact_mod_cast hdm.symm
 have hQ10:Q < 10 ^ a.length:=by omega
 have hp10:1<=10 ^ a.length:=Nat.one_le_pow _ _ (by decide)
 have hsvQ:∀ s:Bool,(sv s Q).natAbs=Q:=fun s=>by cases s <;> simp [sv]
 have fl:=@A8s (A7 a) (A7 b)
 have hm1:(U:Int)*-(Q:Int)=-((U:Int)*Q):=Int.mul_neg _ _
 have hm2:-(U:Int)*(Q:Int)=-((U:Int)*Q):=Int.neg_mul _ _
 have hm3:-(U:Int)*-(Q:Int)=(U:Int)*Q:=by rw [Int.neg_mul,Int.mul_neg,Int.neg_neg]
 have hm4:(U:Int)*(-(Q:Int) - 1)=-((U:Int)*Q) - U:=by rw [Int.mul_sub,Int.mul_one,hm1]
 have hm5:-(U:Int)*(-(Q:Int) - 1)=(U:Int)*Q+U:=by rw [Int.mul_sub,Int.mul_one,hm3]; omega
 have key:∀ q r:Int,r+A7 b*q=A7 a->q.natAbs < 10 ^ (a.length+1)->((0 < A7 b/\0<=r/\r < A7 b) \/ (A7 b < 0/\A7 b < r/\r<=0)) ->
   A8z a b (itoa q)=some [.s (itoa ((A7 a).fdiv (A7 b))),.s (itoa ((A7 a).fmod (A7 b)))]:=fun q r h1 h2 h3=>by
  obtain ⟨f1,f2⟩:=fl h1 h3
  rw [F2l ha hb h2,f1,f2,show A7 a - q*A7 b=r by rw [Int.mul_comm]; omega]
 have hsz:∀ n:Nat,n<=Q+1->n < 10 ^ (a.length+1):=fun n hn=>by rw [Nat.pow_succ]; omega
 unfold q72
 by_cases hR:R=0
 ·subst hR
  rw [show (itoa ((0:Nat):Int) == [48])=true from by rw [show ((0:Nat):Int)=0 from rfl,itoa0]; rfl]
  show A8z a b _=_
  refine key (sv (!(decide (A7 a < 0) == decide (A7 b < 0))) Q) 0 ?_ (by rw [hsvQ]; exact hsz _ (by omega)) (by omega)
  by_cases ha0:A7 a < 0 <;> by_cases hb0:A7 b < 0
  ·rw [dT ha0,dT hb0,show (!(true == true))=false from rfl,B5e,show A7 b=-(U:Int) by omega,hm2]; omega
  ·rw [dT ha0,dF hb0,show (!(true == false))=true from rfl,B1p,show A7 b=(U:Int) by omega,hm1]; omega
  ·rw [dF ha0,dT hb0,show (!(false == true))=true from rfl,B1p,show A7 b=-(U:Int) by omega,hm3]; omega
  ·rw [dF ha0,dF hb0,show (!(false == false))=false from rfl,B5e,show A7 b=(U:Int) by omega]; omega
 ·rw [show (itoa ((R:Nat):Int) == [48])=false by rw [Y0]; exact dF (by omega),A8 ha.1,A8 hb.1]
  show brK (!(decide (A7 a < 0) == decide (A7 b < 0))) _ _=_
  by_cases ha0:A7 a < 0 <;> by_cases hb0:A7 b < 0
  ·rw [dT ha0,dT hb0]
   show A8z a b (itoa (sv false Q))=_
   rw [B5e]
   refine key Q (-(R:Int)) ?_ (hsz _ (by omega)) (by omega)
   rw [show A7 b=-(U:Int) by omega,hm2]; omega
  ·rw [dT ha0,dF hb0]
   show brK (A9 (A2v (itoa (sv true Q))/\A2v [49])) (A8z a b (itoa (A7 (itoa (sv true Q)) - 1))) none=_
   have hlen:=A4s (Z:=sv true Q) (k:=a.length) (by rw [hsvQ]; exact hQ10) (by cases a with | nil=>exact (hne rfl).elim | cons=>simp)
   rw [D8,A8 ⟨⟨K8 _,by omega⟩,by unfold isZ; exact itoa_1.symm,by decide⟩,E8,B1p]
   refine key (-(Q:Int) - 1) ((U:Int) - R) ?_ (hsz _ (by omega)) (by omega)
   rw [show A7 b=(U:Int) by omega,hm4]; omega
  ·rw [dF ha0,dT hb0]
   show brK (A9 (A2v (itoa (sv true Q))/\A2v [49])) (A8z a b (itoa (A7 (itoa (sv true Q)) - 1))) none=_
   have hlen:=A4s (Z:=sv true Q) (k:=a.length) (by rw [hsvQ]; exact hQ10) (by cases a with | nil=>exact (hne rfl).elim | cons=>simp)
   rw [D8,A8 ⟨⟨K8 _,by omega⟩,by unfold isZ; exact itoa_1.symm,by decide⟩,E8,B1p]
   refine key (-(Q:Int) - 1) ((R:Int) - U) ?_ (hsz _ (by omega)) (by omega)
   rw [show A7 b=-(U:Int) by omega,hm5]; omega
  ·rw [dF ha0,dF hb0]
   show A8z a b (itoa (sv false Q))=_
   rw [B5e]
   refine key Q R ?_ (hsz _ (by omega)) (by omega)
   rw [show A7 b=(U:Int) by omega]; omega
def T72:List Lf->Tr (SP × List Lf)
 | [.s a,.s b]=>.br (A9 (Y2 a/\Y2 b/\A7 b ≠ 0)) (.leaf (spSS,[.s (itoa ((A7 a).fdiv (A7 b))),.s (itoa ((A7 a).fmod (A7 b)))])) .fail
 | _=>.fail
def pR18:Prims:=pR17.addh 72 (G8 8 (funQ spSS 8 [] T72))
theorem B3i {A:Amb} (hT:Tab A) (hG:prog.globals.size<=A.G):PrimOK prog A pR18:=by
 refine (D9i hT hG).addl gsz func72 (by kernel_rfl) (I6 D5 D6 rfl fun ls sq l h=>?_)
 unfold T72 at h
 split at h
 ·rename_i a b
  obtain ⟨hc,hv⟩:=Tr.br1 h
  cases hv
  obtain ⟨ha,hb,h0⟩:=D7 hc
  refine ⟨⟨.inr rfl,.inr rfl,.inr rfl,.inr rfl,.inr rfl,.inr rfl,.inr rfl,.inr rfl,trivial⟩,rfl,pR17,60,_,D9i hT hG,(G7a a b).trans ?_,fun _ _=>.refl⟩
  rw [A8 ⟨ha.1,hb.1⟩,E8]
  cases hbr:U8 a b with
  | true =>
   obtain ⟨h1,h2⟩:=C7r ha.1 hb.1 hbr
   rw [E8,cond_true,cond_true]
   exact F7u h0 h1 h2
  | false=>exact E8u ha hb h0
 ·cases h
def A2x:Code:=f115.body.getD .skip
def C7q:Code:=I7 (J7 0 A2x)
def C6o:Code:=I7 (J7 2 A2x)
def h0':Code:=D6j A2x
def h1':Code:=D6j (B0s A2x)
def h2':Code:=D6j (B0s (B0s A2x))
def h3':Code:=B0s (B0s (B0s A2x))
theorem D5d:A2x=.seq h0' (.seq h1' (.seq h2' h3')):=by kernel_rfl
theorem G7t:h2'=.block 0 (.loop C7q):=by kernel_rfl
def spShI:SP:=⟨dr 5++[.int .i64,.int .i64]++dr 36,dd8⟩
def spSh:SP:=⟨[.str,.str]++dr 41,dd8⟩
def spShE:SP:=⟨dr 4++[.str]++dr 38,dd8⟩
def F4k:AEx->SP
 | .ret=>spShE
 | _=>spSh
theorem D1z (m n:Int):E9 prog (C8 prog pR18 60) F7 C6o (spShI.rho [.i m,.i n]) (spShI.heap [.i m,.i n]) (H6 (fun _=>spShI) 8 []) =
  brK (decide (n > 0)) (brK (decide ¬n=0) (some (.normal,[.i n,.i (m.tmod n)])) none) (some (.exit 2,[.i m,.i n])):=by kernel_rfl
def C7x:Blk:=hookP spShI 8 [] fun
 | [.i m,.i n]=>.br (A9 (0<=m/\0<=n)) (.leaf (.normal,spShI,[.i (m.toNat.gcd n.toNat:Nat),.i 0])) .fail
 | _=>.fail
theorem F8k (a b:List UInt8):E9 prog (C8 prog pR18 60) (A8y 2 C7x) C7q (spSh.rho [.s a,.s b]) (spSh.heap [.s a,.s b]) (H6 F4k 8 []) =
  brK (!(b == [48])) (brK (A9 (isZ a/\isZ b)) (brK (U8 a b) (brK (A9 (0<=(bif U8 a b then A7 a else 0)/\0<=(bif U8 a b then A7 b else 0)))
   ((fun g:Nat=>brK (A9 (IntKind.i64=.i64/\-(2 ^ 63) < (g:Int)/\(g:Int) < 2 ^ 63)) (some (.ret,[.s (itoa (g:Int))])) none) ((bif U8 a b then A7 a else 0).toNat.gcd (bif U8 a b then A7 b else 0).toNat)) none)
   (brK (A9 (Y2 a/\Y2 b/\A7 b ≠ 0)) (some (.normal,[.s b,.s (itoa ((A7 a).fmod (A7 b)))])) none)) none) (some (.exit 0,[.s a,.s b])):=by kernel_rfl
def G7c (X Y:Nat):St:=⟨spSh.rho [.s (itoa (X:Nat)),.s (itoa (Y:Nat))],spSh.heap [.s (itoa (X:Nat)),.s (itoa (Y:Nat))],[]⟩
def F9q (s:List UInt8):St:=⟨spShE.rho [.s s],spShE.heap [.s s],[]⟩
section
variable {A:Amb} (hT:Tab A) (hG:prog.globals.size<=A.G)
include hT hG
theorem D4y:∀ ρ B e' ρ' B' D,(C7x ρ B).get=some (e',ρ',B',D)->AFr B B' D/\SEB prog A B (.block 2 (.loop C6o)) ⟨ρ,B,[]⟩ e' ⟨ρ',B',D⟩:=by
 have hp:=B3i hT hG
 refine M8 rfl fun ls e sq l h=>?_
 split at h
 ·rename_i m n
  obtain ⟨hc,hv⟩:=Tr.br1 h
  cases hv
  obtain ⟨hm,hn⟩:=D7 hc
  obtain ⟨m,rfl⟩:=Int.eq_ofNat_of_zero_le hm
  obtain ⟨n,rfl⟩:=Int.eq_ofNat_of_zero_le hn
  rw [Int.toNat_natCast,Int.toNat_natCast]
  refine ⟨⟨.inr rfl,.inr rfl,.inr rfl,.inr rfl,.inr rfl,.inr rfl,.inr rfl,.inr rfl,trivial⟩,fun Bb hB=>SEB.block_exit (id:=2) ?_⟩
  refine SEB.while (fun _:Nat × Nat=>True) (fun s=>s.2) (fun s=>⟨spShI.rho [.i s.1,.i s.2],spShI.heap [.i s.1,.i s.2],[]⟩) (fun s=>(.exit 2,⟨spShI.rho [.i (s.1.gcd s.2:Nat),.i 0],spShI.heap [.i (s.1.gcd s.2:Nat),.i 0],[]⟩)) (fun s _=>?_) (m,n) trivial
  obtain ⟨m,n⟩:=s
  by_cases h0:n=0
  ·subst h0
   right
   refine ⟨by simp,?_⟩
   have hk:=D1z (m:Int) ((0:Nat):Int)
   rw [show decide (((0:Nat):Int) > 0)=false from rfl] at hk
   simp only [Nat.gcd_zero_right]
   exact SEB.of_KP (A:=A) (B0:=Bb) (e:=.exit 2) D5 D6 hp (.none _) hB hk rfl
  ·left
   refine ⟨(n,m % n),trivial,Nat.mod_lt _ (Nat.pos_of_ne_zero h0),?_,?_⟩
   ·show ((AEx.exit 2,(_:St)):AEx × St)=_
    have:n.gcd (m % n)=m.gcd n:=by rw [Nat.gcd_comm,<- Nat.gcd_rec,Nat.gcd_comm]
    rw [this]
   ·have hk:=D1z (m:Int) (n:Int)
    rw [dT (show (n:Int) > 0 by omega),dT (show ¬ (n:Int)=0 by omega)] at hk
    exact SEB.of_KP (A:=A) (B0:=Bb) (e:=.normal) D5 D6 hp (.none _) hB hk rfl
 ·cases h
theorem G4p {Bb:Heap} (hB:Bb.length=8):∀ (Y X:Nat),(itoa (X:Int)).length < 2 ^ 24->(itoa (Y:Int)).length < 2 ^ 24 ->
  ∃ e s',SEB prog A Bb (.loop C7q) (G7c X Y) e s'/\((e=.ret/\s'=F9q (itoa (X.gcd Y:Nat))) \/ (e=.exit 0/\s'=G7c (X.gcd Y) 0)):=by
 have hp:=B3i hT hG
 have hblk:BlkOK prog A (A8y 2 C7x) C7q:=BlkOK.one (body:=.loop C6o) (by kernel_rfl) fun ρ B e ρ' B' D hq=>(D4y hT hG ρ B e ρ' B' D hq).2
 intro Y
 induction Y using Nat.strongRecOn with
 | _ Y ih =>
  intro X hX hY
  have hk:=F8k (itoa (X:Nat)) (itoa (Y:Nat))
  by_cases h0:Y=0
  ·subst h0
   rw [show (!(itoa ((0:Nat):Int) == [48]))=false by rw [Y0]; rfl,I8] at hk
   rw [Nat.gcd_zero_right]
   exact ⟨.exit 0,_,SEB.loop_exit (SEB.of_KP (A:=A) (B0:=Bb) (e:=.exit 0) D5 D6 hp hblk hB hk rfl) (by simp),.inr ⟨rfl,rfl⟩⟩
  ·rw [show (!(itoa ((Y:Nat):Int) == [48]))=true by rw [Y0,dF (by omega)]; rfl,E8,A8 ⟨K8 _,K8 _⟩,E8] at hk
   have hg:Y.gcd (X % Y)=X.gcd Y:=by rw [Nat.gcd_comm,<- Nat.gcd_rec,Nat.gcd_comm]
   have hmod:=Nat.mod_lt X (Nat.pos_of_ne_zero h0)
   cases hbr:U8 (itoa (X:Nat)) (itoa (Y:Nat)) with
   | true =>
    obtain ⟨b1,b2⟩:=C7r (K8 _) (K8 _) hbr
    rw [D8,Int.natAbs_natCast] at b1 b2
    have hgl:X.gcd Y<=Y:=Nat.gcd_le_right _ (Nat.pos_of_ne_zero h0)
    rw [hbr,E8,cond_true,cond_true,D8,D8,A8 ⟨by omega,by omega⟩,E8,Int.toNat_natCast,Int.toNat_natCast] at hk
    dsimp only at hk
    rw [A8 ⟨rfl,by omega,by omega⟩] at hk
    exact ⟨.ret,_,SEB.loop_exit (SEB.of_KP (A:=A) (B0:=Bb) (e:=.ret) D5 D6 hp hblk hB hk rfl) (by simp),.inl ⟨rfl,rfl⟩⟩
   | false =>
    have hfm:((X:Int)).fmod (Y:Int)=((X % Y:Nat):Int):=by rw [Int.fmod_eq_emod_of_nonneg _ (by omega)]; rfl
    rw [hbr,I8,D8,D8,A8 ⟨⟨K8 _,hX⟩,⟨K8 _,hY⟩,by omega⟩,E8,hfm] at hk
    have hs:=SEB.of_KP (A:=A) (B0:=Bb) (e:=.normal) D5 D6 hp hblk hB hk rfl
    obtain ⟨e,s',l1,l2⟩:=ih (X % Y) hmod Y hY (Nat.lt_of_le_of_lt (A5p (Nat.mod_le _ _)) hX)
    rw [hg] at l2
    exact ⟨e,s',SEB.loop_next hs l1,l2⟩
end
theorem G5c (a b:List UInt8):E9 prog (C8 prog pR18 60) F7 h0' ([.sstr a,.sstr b]++List.replicate 41 G6) (Bg 8) (H6 F4k 8 [])=some (.normal,[.s a,.s b]):=by kernel_rfl
theorem G2m (a b:List UInt8):E9 prog (C8 prog pR18 60) F7 h1' (spSh.rho [.s a,.s b]) (spSh.heap [.s a,.s b]) (H6 F4k 8 []) =
  brK (decide (1+(F6 a).length < 4611686018427387904)) (brK (decide (1+(F6 b).length < 4611686018427387904)) (some (.normal,[.s (B5n (F6 a) false),.s (B5n (F6 b) false)])) none) none:=by kernel_rfl
theorem G4k (a b:List UInt8):E9 prog (C8 prog pR18 60) F7 h3' (spSh.rho [.s a,.s b]) (spSh.heap [.s a,.s b]) (H6 F4k 8 [])=some (.ret,[.s a]):=by kernel_rfl
section
variable {A:Amb} (hT:Tab A) (hG:prog.globals.size<=A.G)
include hT hG
theorem G7d {a b:List UInt8} (ha:Y2 a) (hb:Y2 b):SEB prog A (Bg 8) A2x ⟨[.sstr a,.sstr b]++List.replicate 41 G6,Bg 8,[]⟩ .ret (F9q (itoa (Int.gcd (A7 a) (A7 b):Nat))):=by
 have hp:=B3i hT hG
 have hB:(Bg 8).length=8:=rfl
 rw [D5d]
 refine SEB.seq (SEB.of_KP (A:=A) (e:=.normal) D5 D6 hp (.none _) hB (G5c a b) rfl) ?_
 have k1:=G2m a b
 have la:=(A0m a).1
 have lb:=(A0m b).1
 have la2:=ha.2
 have lb2:=hb.2
 rw [dT (show 1+(F6 a).length < 4611686018427387904 by omega),dT (show 1+(F6 b).length < 4611686018427387904 by omega),show B5n (F6 a) false=F6 a from rfl,show B5n (F6 b) false=F6 b from rfl,
  A1f ha.1,A1f hb.1] at k1
 refine SEB.seq (SEB.of_KP (A:=A) (e:=.normal) D5 D6 hp (.none _) hB k1 rfl) ?_
 rw [A1f ha.1] at la
 rw [A1f hb.1] at lb
 obtain ⟨e,s',l1,l2⟩:=G4p hT hG hB (A7 b).natAbs (A7 a).natAbs (by omega) (by omega)
 rw [G7t]
 rcases l2 with ⟨rfl,rfl⟩ | ⟨rfl,rfl⟩
 ·exact SEB.seq_exit (SEB.block_other l1 (by simp)) (by simp)
 ·refine SEB.seq (SEB.block_exit l1) ?_
  exact SEB.of_KP (A:=A) (e:=.ret) D5 D6 hp (.none _) hB (G4k _ _) rfl
end
def G9y:List Lf->Tr (SP × List Lf)
 | [.s a,.s b]=>.br (A9 (Y2 a/\Y2 b)) (.leaf (spS1,[.s (itoa (Int.gcd (A7 a) (A7 b):Nat))])) .fail
 | _=>.fail
def pSh (a b x:List UInt8):Prims:=pR18.addh 115 (G0u [.sstr a,.sstr b] (Bg 8) (.sstr x) (Bg 8) [])
theorem G6p (a b x:List UInt8):(C8 prog (pSh a b x) 60).call 115 (spSS.rho [.s a,.s b]) (spSS.heap [.s a,.s b]) (V8 spS1 8 []) =
  brK (A9 (([.sstr a,.sstr b]:List AV)=[.sstr a,.sstr b]/\Bg 8=Bg 8)) (some [.s x]) none:=by kernel_rfl
def pR19:Prims:=pR18.addh 115 (G8 8 (funP spSS 8 [] G9y))
theorem F5c {A:Amb} (hT:Tab A) (hG:prog.globals.size<=A.G):PrimOK prog A pR19:=by
 refine (B3i hT hG).addl gsz func115 (by kernel_rfl) (K6 D5 D6 rfl fun ls sq l h=>?_)
 unfold G9y at h
 split at h
 ·rename_i a b
  obtain ⟨hc,hv⟩:=Tr.br1 h
  cases hv
  obtain ⟨ha,hb⟩:=D7 hc
  refine ⟨⟨.inr rfl,.inr rfl,.inr rfl,.inr rfl,.inr rfl,.inr rfl,.inr rfl,.inr rfl,trivial⟩,rfl,rfl,pSh a b (itoa (Int.gcd (A7 a) (A7 b):Nat)),60,?_,(G6p a b _).trans ?_⟩
  ·refine PrimOK.body (B3i hT hG) func115 (show f115.body=some A2x by kernel_rfl) fun args B v B' D hq=>?_
   obtain ⟨hc1,hv⟩:=Tr.br_get0 hq
   obtain ⟨rfl,rfl⟩:=D7 hc1
   simp only [Tr.get,sI,pI] at hv
   obtain ⟨rfl,rfl,rfl⟩:=hv
   exact ⟨⟨Nat.le_refl _,fun _ _ _=>rfl⟩,[.sstr a,.sstr b],.ret,_,[.sstr (itoa (Int.gcd (A7 a) (A7 b):Nat))],fun _ _ h=>h,G7d hT hG ha hb,by simp,rfl,rfl,rfl,rfl⟩
  ·rw [A8 ⟨rfl,rfl⟩,E8]
 ·cases h
end Go.Proofs.Tryz
