/- The lexer's program: what the library's functions give, as known functions of the evaluator. -/
import Derived.Test.YtfjgehlpjppggaaGreatDoorAdPrim
import Derived.Test.YtfjgehlpjppggaaGreatDoorAdPat
import Derived.Test.YtfjgehlpjppggaaGreatDoorShelf
import Derived.Lib.LaidTab
import Derived.Lib.ItoaNum
import Derived.KernelRfl
import Derived.Lib.SmallJoins
noncomputable section
namespace Go.Proofs.Tryz
open Go.Ad
theorem D5:prog.follows .mixedOrders=true:=by kernel_rfl
theorem D6:A0v prog:=by
 have h:(prog.funcs.all fun fn=>decide (fn.name ≠ "runtime.NumGoroutine"))=true:=by kernel_rfl
 intro f fn hf
 exact of_decide_eq_true (Array.all_eq_true_iff_forall_mem.1 h fn (Array.mem_of_getElem? hf))
theorem started:decide (prog.globals.size < (begin prog (fun _ _=>0) default).world.heap.size)=true:=by kernel_rfl
theorem gsz:prog.globals.size=8:=by kernel_rfl
def byteOf (c:Int):UInt8:=c.toNat.toUInt8
def C0c:List AV->Tr AV
 | [.str s,.int .u8 c]=>.leaf (.int .i64 (Lib.indexByte s (byteOf c)))
 | [x,y]=>match sstr? x,J5 y with
  | some s,some (.u8,c)=>.leaf (.sint .i64 (Lib.indexByte s (byteOf c)))
  | _,_=>.fail
 | _=>.fail
def D2r:List AV->Option AV
 | [.str a,.str b]=>some (.int .i64 (Lib.compareBytes a b))
 | [x,y]=>match sstr? x,sstr? y with
  | some a,some b=>some (.sint .i64 (Lib.compareBytes a b))
  | _,_=>none
 | _=>none
def F9r:List AV->Tr AV
 | [.int .i64 n]=>if decide (-9223372036854775808<=n) && decide (n<=9223372036854775807) then .leaf (.str (Lib.itoa n)) else .fail
 | [x]=>match J5 x with
  | some (.i64,n)=>.br (decide (-9223372036854775808<=n/\n<=9223372036854775807)) (.leaf (.sstr (Lib.itoa n))) .fail
  | _=>.fail
 | _=>.fail
def Tab (A:Amb):Prop:=∀ w:World,(∀ c,c < A.G->w.heap[c]?=A.base c)->Lib.TabIs prog w "internal/strconv.uint64pow10" .u64 Lib.pow10Tab
theorem tab_of {W:World} (hG:prog.globals.size<=W.heap.size) (h:Lib.TabIs prog W "internal/strconv.uint64pow10" .u64 Lib.pow10Tab):Tab (ambOf W):=fun w hw=>by
 have hg:prog.globalNamed "internal/strconv.uint64pow10"=some 5:=by kernel_rfl
 have h6:5 < W.heap.size:=Nat.lt_of_lt_of_le (by rw [gsz]; omega) hG
 unfold Lib.TabIs World.var? at h ⊢
 rw [hg] at h ⊢
 simp only [Option.bind_some] at h ⊢
 rw [hw 5 h6]; exact h
theorem B0x {P:Program} {W:World} {x:String × DataW Unit} {r:List (String × DataW Unit)} (h:laidMet P (x :: r) W):laidMet P r W:=by
 obtain ⟨ps,⟨g,t,cs,fuel,p,q,h1,h2,h3,h4,h5,rfl⟩,hn,hc⟩:=h
 exact ⟨q,h5,(List.nodup_append.1 hn).2.1,fun b off hm=>hc b off (List.mem_append_right _ hm)⟩
theorem D7g (w:World) (k:Nat) (os:Array Obj):Quiet w (Go.Sort.grow (w.drewN k) os) :=
 ⟨by simp [Go.Sort.grow,World.drewN],fun c hc=>by simp [Go.Sort.grow,World.drewN,Array.getElem?_append,hc],rfl,rfl,rfl⟩
def lib:Prims:=(((noPrims.addt 133 C0c).add 180 D2r).addt 186 F9r).addx 134 E9g
theorem F7r {xs:Array Value} {a:Value} (h:xs.toList=[a]):xs=#[a]:=by apply Array.ext'; simpa using h
theorem D0n {xs:Array Value} {a b:Value} (h:xs.toList=[a,b]):xs=#[a,b]:=by apply Array.ext'; simpa using h
theorem E7n {A:Amb} (hT:Tab A):PrimOK prog A lib:=by
 refine PrimOK.noEscape (fn:=f134) (PrimOK.libt (PrimOK.lib (PrimOK.libt PrimOK.none func133 (by kernel_rfl) ?_) func180 (by kernel_rfl) ?_) func186 (by kernel_rfl) ?_) func134 (by kernel_rfl) (by kernel_rfl) (by rfl) (by rfl)
 ·intro args v hg ι w xs _ _ hx
  have key:∀ (b1:ByteArray) (c:Int),xs=#[.string b1,.int .u8 c]->Calls prog 133 xs w fun e w'=>∃ v',e=.returned v'/\v'=.int .i64 (Lib.indexByte b1.data.toList (byteOf c))/\Quiet w w':=fun b1 c e1=>by
   subst e1
   refine (stringslite_IndexByte b1 c w).mono fun e w' ⟨h1,h2⟩=>?_
   subst h1 h2
   exact ⟨_,rfl,rfl,Quiet.refl _⟩
  unfold C0c at hg
  split at hg
  ·rename_i s c
   cases hg
   simp only [VRL,VR] at hx
   obtain ⟨_,_,hxs,⟨b1,rfl,rfl⟩,_,_,rfl,rfl,rfl⟩:=hx
   exact (key b1 c (D0n hxs)).mono fun e w' ⟨v',q1,q2,q3⟩=>⟨v',q1,by simp only [VR]; exact q2,q3⟩
  ·rename_i x y _
   split at hg
   ·rename_i s c hs hc
    cases hg
    simp only [VRL] at hx
    obtain ⟨_,_,hxs,h1,_,_,rfl,h2,rfl⟩:=hx
    obtain ⟨b1,rfl,rfl⟩:=M7 hs h1
    have h2:=H9 hc h2
    subst h2
    exact (key b1 c (D0n hxs)).mono fun e w' ⟨v',q1,q2,q3⟩=>⟨v',q1,by simp only [VR]; exact q2,q3⟩
   ·cases hg
  ·cases hg
 ·intro args v hg ι w xs _ _ hx
  have key:∀ (b1 b2:ByteArray),xs=#[.string b1,.string b2]->Calls prog 180 xs w fun e w'=>∃ v',e=.returned v'/\v'=.int .i64 (Lib.compareBytes b1.data.toList b2.data.toList)/\Quiet w w':=fun b1 b2 e1=>by
   subst e1
   refine (strings_Compare b1 b2 w).mono fun e w' ⟨h1,h2⟩=>?_
   subst h1 h2
   exact ⟨_,rfl,rfl,Quiet.refl _⟩
  unfold D2r at hg
  split at hg
  ·rename_i s c
   cases hg
   simp only [VRL,VR] at hx
   obtain ⟨_,_,hxs,⟨b1,rfl,rfl⟩,_,_,rfl,⟨b2,rfl,rfl⟩,rfl⟩:=hx
   exact (key b1 b2 (D0n hxs)).mono fun e w' ⟨v',q1,q2,q3⟩=>⟨v',q1,by simp only [VR]; exact q2,q3⟩
  ·rename_i x y _
   split at hg
   ·rename_i s c hs hc
    cases hg
    simp only [VRL] at hx
    obtain ⟨_,_,hxs,h1,_,_,rfl,h2,rfl⟩:=hx
    obtain ⟨b1,rfl,rfl⟩:=M7 hs h1
    obtain ⟨b2,rfl,rfl⟩:=M7 hc h2
    exact (key b1 b2 (D0n hxs)).mono fun e w' ⟨v',q1,q2,q3⟩=>⟨v',q1,by simp only [VR]; exact q2,q3⟩
   ·cases hg
  ·cases hg
 ·intro args v hg ι w xs hamb _ hx
  have key:∀ n:Int,-9223372036854775808<=n->n<=9223372036854775807->xs=#[.int .i64 n]->Calls prog 186 xs w fun e w'=>∃ v',e=.returned v'/\(∃ b:ByteArray,b.data.toList=Lib.itoa n/\v'=.string b)/\Quiet w w':=fun n h0 h1 e1=>by
   subst e1
   refine (internal_strconv_Itoa n h0 h1 w (hT w hamb)).mono fun e w' ⟨h1,k,os,h2⟩=>?_
   subst h1 h2
   exact ⟨_,rfl,⟨_,rfl,rfl⟩,D7g _ _ _⟩
  unfold F9r at hg
  split at hg
  ·rename_i n
   split at hg
   ·rename_i hc
    cases hg
    simp only [Bool.and_eq_true,decide_eq_true_eq] at hc
    simp only [VRL,VR] at hx
    obtain ⟨_,_,hxs,rfl,rfl⟩:=hx
    exact (key n hc.1 hc.2 (F7r hxs)).mono fun e w' ⟨v',q1,q2,q3⟩=>⟨v',q1,by simp only [VR]; exact q2,q3⟩
   ·cases hg
  ·rename_i x _
   split at hg
   ·rename_i n hn
    obtain ⟨hc,hv⟩:=Tr.br_get0 hg
    cases hv
    have hc:=of_decide_eq_true hc
    simp only [VRL] at hx
    obtain ⟨_,_,hxs,h1,rfl⟩:=hx
    have h1:=H9 hn h1
    subst h1
    exact (key n hc.1 hc.2 (F7r hxs)).mono fun e w' ⟨v',q1,q2,q3⟩=>⟨v',q1,by simp only [VR]; exact q2,q3⟩
   ·cases hg
  ·cases hg
end Go.Proofs.Tryz
namespace Go.Proofs.Tryz
open Go.Ad
theorem A2a {β:Type} {b:Bool} {t f:Option β}:brK b t f=if b=true then t else f:=by cases b <;> rfl
def A7g (c:Int):Int:=Lib.indexByte [44,59,58,40,41,91,93,61,43,45,42,47,60,62,124,35] (byteOf c)
def D3x (c:Int):Option AV:=brK (decide (c >= 97)) (brK (decide (c<=122)) (some (.int .i64 1)) (brK (decide (c >= 65)) (brK (decide (c<=90)) (some (.int .i64 1)) (brK (decide (c >= 48)) (brK (decide (c<=57)) (some (.int .i64 2)) (brK (c == 95) (some (.int .i64 3)) (brK (c == 32) (some (.int .i64 5)) (brK (decide (A7g c >= 0)) (some (.int .i64 4)) (some (.int .i64 0)))))) (brK (c == 95) (some (.int .i64 3)) (brK (c == 32) (some (.int .i64 5)) (brK (decide (A7g c >= 0)) (some (.int .i64 4)) (some (.int .i64 0))))))) (brK (decide (c >= 48)) (brK (decide (c<=57)) (some (.int .i64 2)) (brK (c == 95) (some (.int .i64 3)) (brK (c == 32) (some (.int .i64 5)) (brK (decide (A7g c >= 0)) (some (.int .i64 4)) (some (.int .i64 0)))))) (brK (c == 95) (some (.int .i64 3)) (brK (c == 32) (some (.int .i64 5)) (brK (decide (A7g c >= 0)) (some (.int .i64 4)) (some (.int .i64 0)))))))) (brK (decide (c >= 65)) (brK (decide (c<=90)) (some (.int .i64 1)) (brK (decide (c >= 48)) (brK (decide (c<=57)) (some (.int .i64 2)) (brK (c == 95) (some (.int .i64 3)) (brK (c == 32) (some (.int .i64 5)) (brK (decide (A7g c >= 0)) (some (.int .i64 4)) (some (.int .i64 0)))))) (brK (c == 95) (some (.int .i64 3)) (brK (c == 32) (some (.int .i64 5)) (brK (decide (A7g c >= 0)) (some (.int .i64 4)) (some (.int .i64 0))))))) (brK (decide (c >= 48)) (brK (decide (c<=57)) (some (.int .i64 2)) (brK (c == 95) (some (.int .i64 3)) (brK (c == 32) (some (.int .i64 5)) (brK (decide (A7g c >= 0)) (some (.int .i64 4)) (some (.int .i64 0)))))) (brK (c == 95) (some (.int .i64 3)) (brK (c == 32) (some (.int .i64 5)) (brK (decide (A7g c >= 0)) (some (.int .i64 4)) (some (.int .i64 0)))))))
theorem E7s (c:Int):(C8 prog lib 60).call 47 [.rng .u8 c 0 255] (Bg 8) I4=D3x c:=by kernel_rfl
def B7w (c:Int):Option AV:=brK (decide (c >= 97)) (brK (decide (c<=122)) (some (.bool true)) (brK (decide (c >= 65)) (some (.sbool (decide (c<=90)))) (some (.bool false)))) (brK (decide (c >= 65)) (some (.sbool (decide (c<=90)))) (some (.bool false)))
theorem C4l (c:Int):(C8 prog lib 60).call 90 [.rng .u8 c 0 255] (Bg 8) I4=B7w c:=by kernel_rfl
def C6n (c:Int):Option AV:=brK (decide (c >= 48)) (some (.sbool (decide (c<=57)))) (some (.bool false))
theorem C9d (c:Int):(C8 prog lib 60).call 91 [.rng .u8 c 0 255] (Bg 8) I4=C6n c:=by kernel_rfl
def E9s (c:Int):Option AV:=brK (44 == c) (some (.bool true)) (brK (59 == c) (some (.bool true)) (brK (58 == c) (some (.bool true)) (brK (40 == c) (some (.bool true)) (brK (41 == c) (some (.bool true)) (brK (91 == c) (some (.bool true)) (brK (93 == c) (some (.bool true)) (brK (61 == c) (some (.bool true)) (brK (43 == c) (some (.bool true)) (brK (45 == c) (some (.bool true)) (brK (42 == c) (some (.bool true)) (brK (47 == c) (some (.bool true)) (brK (60 == c) (some (.bool true)) (brK (62 == c) (some (.bool true)) (brK (124 == c) (some (.bool true)) (brK (35 == c) (some (.bool true)) (some (.bool false)))))))))))))))))
theorem F6r (c:Int):(C8 prog lib 60).call 84 [.rng .u8 c 0 255] (Bg 8) I4=E9s c:=by kernel_rfl
def A0u (c:Int):Int:=if (97<=c/\c<=122) \/ (65<=c/\c<=90) then 1 else if 48<=c/\c<=57 then 2 else if c=95 then 3 else if c=32 then 5 else if 0<=A7g c then 4 else 0
def A4f (c:Int):Bool:=decide ((97<=c/\c<=122) \/ (65<=c/\c<=90))
def A5d (c:Int):Bool:=decide (48<=c/\c<=57)
def A2g (c:Int):Bool:=[44,59,58,40,41,91,93,61,43,45,42,47,60,62,124,35].any fun k=>k == c
theorem J4 {ι:Emb} {k:IntKind} {n m:Int} (e:n=m) (x:Value) (h:VR ι (.int k n) x):VR ι (.sint k m) x:=by subst e; simpa only [VR] using h
theorem A0e {ι:Emb} {n m:Bool} (e:n=m) (x:Value) (h:VR ι (.bool n) x):VR ι (.sbool m) x:=by subst e; simpa only [VR] using h
theorem C1n {ι:Emb} {n m:Bool} (e:n=m) (x:Value) (h:VR ι (.sbool n) x):VR ι (.sbool m) x:=by subst e; exact h
theorem E4w (c:Int):∃ k,D3x c=some (.int .i64 k)/\k=A0u c:=by
 unfold D3x A0u
 generalize A7g c=x
 simp only [A2a,decide_eq_true_eq,beq_iff_eq]
 repeat' split
 all_goals first | exact ⟨_,rfl,rfl⟩ | omega
theorem D7f (c:Int):(B7w c=some (.bool (A4f c))) \/ (B7w c=some (.sbool (A4f c))):=by
 unfold B7w A4f
 simp only [A2a,decide_eq_true_eq]
 repeat' split
 all_goals first
  | (left; congr 2; symm; rw [decide_eq_true_eq]; omega)
  | (left; congr 2; symm; rw [decide_eq_false_iff_not]; omega)
  | (right; congr 2; rw [decide_eq_decide]; omega)
theorem E2o (c:Int):(C6n c=some (.bool (A5d c))) \/ (C6n c=some (.sbool (A5d c))):=by
 unfold C6n A5d
 simp only [A2a,decide_eq_true_eq]
 repeat' split
 all_goals first
  | (left; congr 2; symm; rw [decide_eq_false_iff_not]; omega)
  | (right; congr 2; rw [decide_eq_decide]; omega)
theorem G3u (b x:Bool):brK b (some (AV.bool true)) (some (AV.bool x))=some (AV.bool (b || x)):=by cases b <;> rfl
theorem E7t (c:Int):E9s c=some (.bool (A2g c)):=by
 simp only [E9s,G3u]
 rfl
def pB0:Prims:=lib.addt 47 (gP [.rng .u8 0 255] fun | [.i c]=>.leaf (.sint .i64 (A0u c)) | _=>.fail)
def pB1:Prims:=pB0.addt 90 (gP [.rng .u8 0 255] fun | [.i c]=>.leaf (.sbool (A4f c)) | _=>.fail)
def pB2:Prims:=pB1.addt 91 (gP [.rng .u8 0 255] fun | [.i c]=>.leaf (.sbool (A5d c)) | _=>.fail)
def pB:Prims:=pB2.addt 84 (gP [.rng .u8 0 255] fun | [.i c]=>.leaf (.sbool (A2g c)) | _=>.fail)
theorem B1i {A:Amb} (hT:Tab A) (hG:prog.globals.size<=A.G):PrimOK prog A pB:=by
 have h0:=E7n hT
 refine PrimOK.addP D5 D6 h0 (PrimOK.addP D5 D6 h0 (PrimOK.addP D5 D6 h0 (PrimOK.addP D5 D6 h0 h0 hG func47 (by kernel_rfl) ?_) hG func90 (by kernel_rfl) ?_) hG func91 (by kernel_rfl) ?_) hG func84 (by kernel_rfl) ?_
 ·intro ls v h
  split at h
  ·rename_i c
   cases h
   obtain ⟨k,h1,h2⟩:=E4w c
   exact ⟨rfl,60,_,by rw [gsz]; exact (E7s c).trans h1,rfl,fun ι x=>J4 h2 x⟩
  ·cases h
 ·intro ls v h
  split at h
  ·rename_i c
   cases h
   rcases D7f c with h1 | h1
   ·exact ⟨rfl,60,_,by rw [gsz]; exact (C4l c).trans h1,rfl,fun ι x=>A0e rfl x⟩
   ·exact ⟨rfl,60,_,by rw [gsz]; exact (C4l c).trans h1,rfl,fun ι x=>C1n rfl x⟩
  ·cases h
 ·intro ls v h
  split at h
  ·rename_i c
   cases h
   rcases E2o c with h1 | h1
   ·exact ⟨rfl,60,_,by rw [gsz]; exact (C9d c).trans h1,rfl,fun ι x=>A0e rfl x⟩
   ·exact ⟨rfl,60,_,by rw [gsz]; exact (C9d c).trans h1,rfl,fun ι x=>C1n rfl x⟩
  ·cases h
 ·intro ls v h
  split at h
  ·rename_i c
   cases h
   exact ⟨rfl,60,_,by rw [gsz]; exact (F6r c).trans (E7t c),rfl,fun ι x=>A0e rfl x⟩
  ·cases h
end Go.Proofs.Tryz
namespace Go.Proofs.Tryz
open Go.Ad
def dr (n:Nat):List Pt:=List.replicate n .drop
def dd8:List OP:=List.replicate 8 .dead
abbrev W (n:Int):Int:=IntKind.i64.wrap n
def D9 (s:List UInt8):Bool:=decide (s.length < 2 ^ 62)
def F3y:Code:=f43.body.getD .skip
def E8v:Code:=f46.body.getD .skip
def E1q:Code:=f162.body.getD .skip
def C6b:Code:=I7 (J7 0 F3y)
def C6i:Code:=I7 (J7 0 E8v)
def C5o:Code:=I7 (J7 0 E1q)
def spW:SP:=⟨[.str,.drop,.drop,.int .i64]++dr 29,dd8⟩
abbrev bI (s:List UInt8) (i:Int):Int:=((s.getD i.toNat 0).toNat:Int)
theorem F7l (s:List UInt8) (i:Int):E9 prog (C8 prog pB 60) F7 C6b (spW.rho [.s s,.i i]) (spW.heap [.s s,.i i]) (H6 (fun _=>spW) 8 []) =
  brK (decide (i < (s.length:Int))) (brK (decide (0<=i/\i < (s.length:Int))) (brK (A4f (bI s i)) (some (.normal,[.s s,.i (W (i+1))]))
   (brK (decide (i > 0)) (brK (decide (0<=i/\i < (s.length:Int))) (brK (A5d (bI s i)) (some (.normal,[.s s,.i (W (i+1))]))
    (brK (decide (0<=i/\i < (s.length:Int))) (brK (bI s i == 95) (some (.normal,[.s s,.i (W (i+1))])) (some (.exit 0,[.s s,.i i]))) none)) none)
    (some (.exit 0,[.s s,.i i])))) none) (some (.exit 0,[.s s,.i i])):=by kernel_rfl
def pWd (s:List UInt8) (n:Nat):Bool:=A4f (bAt s n) || (decide (0 < n) && (A5d (bAt s n) || bAt s n == 95))
def B7h (s:List UInt8):Nat:=K4 (pWd s) s.length 0
theorem F3l (s:List UInt8) (n:Nat) (hs:s.length < 2 ^ 62) (hn:n<=s.length):E9 prog (C8 prog pB 60) F7 C6b (spW.rho [.s s,.i n]) (spW.heap [.s s,.i n]) (H6 (fun _=>spW) 8 []) =
  if n < s.length/\pWd s n=true then some (.normal,[.s s,.i ((n+1:Nat):Int)]) else some (.exit 0,[.s s,.i n]):=by
 rw [F7l]
 have e1:W ((n:Int)+1)=((n+1:Nat):Int):=by rw [W,wrap64 (by omega) (by omega)]; omega
 have e2:bI s (n:Int)=bAt s n:=by simp [bI,bAt]
 rw [e1,e2]
 unfold pWd
 by_cases h:n < s.length
 ·have h1:decide ((n:Int) < (s.length:Int))=true:=dT (by omega)
  have h2:decide (0<=(n:Int)/\(n:Int) < (s.length:Int))=true:=dT (by omega)
  rw [h1,h2]
  cases A4f (bAt s n) <;> cases A5d (bAt s n) <;> cases (bAt s n == 95) <;> by_cases h0:0 < n <;> simp [brK,h,h0]
 ·have h1:decide ((n:Int) < (s.length:Int))=false:=dF (by omega)
  rw [h1]
  simp [brK,h]
def G2i:Blk:=hookP spW 8 [] fun
 | [.s s,.i i]=>.br (decide (i=0) && D9 s) (.leaf (.normal,spW,[.s s,.i (B7h s)])) .fail
 | _=>.fail
def G5j:Prims:=pB.addb 43 0 G2i
section
variable {A:Amb} (hT:Tab A) (hG:prog.globals.size<=A.G)
include hT hG
theorem F6j:PrimOK prog A G5j:=by
 refine PrimOK.addbP (B1i hT hG) func43 (show f43.body=some F3y by kernel_rfl) (body:=.loop C6b) (by kernel_rfl) (by kernel_rfl) fun ls e sq l h=>?_
 split at h
 ·rename_i s i
  obtain ⟨hc,hv⟩:=Tr.br1 h
  cases hv
  simp only [Bool.and_eq_true,decide_eq_true_eq,D9] at hc
  obtain ⟨rfl,hs⟩:=hc
  refine ⟨by simp [frP,spW,SP.heap,mkH,dd8,dr,mkT,OP.mk,List.replicate],fun Bb hB=>SEB.block_exit (id:=0) ?_⟩
  have key:=SEB.scan (A:=A) (B0:=Bb) (c:=C6b) (S:=fun n=>⟨spW.rho [.s s,.i n],spW.heap [.s s,.i n],[]⟩) (E:=fun n=>⟨spW.rho [.s s,.i n],spW.heap [.s s,.i n],[]⟩) (e:=fun _=>.exit 0) (p:=pWd s) (N:=s.length)
   (fun _=>by simp) (fun n hn hp=>SEB.of_KP (e:=.normal) D5 D6 (B1i hT hG) (.none _) hB (by rw [F3l s n hs (by omega),if_pos ⟨hn,hp⟩]) rfl)
   (fun n hn hp=>SEB.of_KP (e:=.exit 0) D5 D6 (B1i hT hG) (.none _) hB (by rw [F3l s n hs hn,if_neg (fun h=>by rw [hp h.1] at h; exact absurd h.2 (by simp))]) rfl) 0 (Nat.zero_le _)
  exact key
 ·cases h
end
def spD:SP:=⟨[.str,.int .i64,.drop,.drop,.drop,.int .i64]++dr 17,dd8⟩
theorem F4u (s:List UInt8) (a i:Int):E9 prog (C8 prog pB 60) F7 C6i (spD.rho [.s s,.i a,.i i]) (spD.heap [.s s,.i a,.i i]) (H6 (fun _=>spD) 8 []) =
  brK (decide (W (a+i) < (s.length:Int))) (brK (decide (0<=W (a+i)/\W (a+i) < (s.length:Int))) (brK (A5d (bI s (W (a+i)))) (some (.normal,[.s s,.i a,.i (W (i+1))]))
   (some (.exit 0,[.s s,.i a,.i i]))) none) (some (.exit 0,[.s s,.i a,.i i])):=by kernel_rfl
def pDg (s:List UInt8) (a n:Nat):Bool:=A5d (bAt s (a+n))
def B7r (s:List UInt8) (a:Nat):Nat:=K4 (pDg s a) (s.length - a) 0
theorem E8o (s:List UInt8) (a n:Nat) (hs:s.length < 2 ^ 62) (ha:a<=s.length) (hn:n<=s.length - a):E9 prog (C8 prog pB 60) F7 C6i (spD.rho [.s s,.i a,.i n]) (spD.heap [.s s,.i a,.i n]) (H6 (fun _=>spD) 8 []) =
  if n < s.length - a/\pDg s a n=true then some (.normal,[.s s,.i a,.i ((n+1:Nat):Int)]) else some (.exit 0,[.s s,.i a,.i n]):=by
 rw [F4u]
 have e1:W ((n:Int)+1)=((n+1:Nat):Int):=by rw [W,wrap64 (by omega) (by omega)]; omega
 have e0:W ((a:Int)+n)=((a+n:Nat):Int):=by rw [W,wrap64 (by omega) (by omega)]; omega
 rw [e1,e0]
 have e2:bI s ((a+n:Nat):Int)=bAt s (a+n):=by simp only [bI,bAt,Int.toNat_natCast]
 rw [e2]
 unfold pDg
 by_cases h:n < s.length - a
 ·have h1:decide (((a+n:Nat):Int) < (s.length:Int))=true:=dT (by omega)
  have h2:decide (0<=((a+n:Nat):Int)/\((a+n:Nat):Int) < (s.length:Int))=true:=dT (by omega)
  rw [h1,h2]
  cases A5d (bAt s (a+n)) <;> simp [brK,h]
 ·have h1:decide (((a+n:Nat):Int) < (s.length:Int))=false:=dF (by omega)
  rw [h1]
  simp [brK,h]
def G3h:Blk:=hookP spD 8 [] fun
 | [.s s,.i a,.i i]=>.br (decide (i=0/\0<=a/\a<=(s.length:Int)) && D9 s) (.leaf (.normal,spD,[.s s,.i a,.i (B7r s a.toNat)])) .fail
 | _=>.fail
def F9v:Prims:=pB.addb 46 0 G3h
def G0g (cs:List Int):List OP:=dd8++[.cells (cs.map fun c=>.is (.int .i64 c)) 1 true 3,.cells [.int .i64] 0 true 3,.cells [.str] 0 true 9,.cells [.is (.slice (some (8,0)) cs.length cs.length)] 0 true 159,.any]
def B6d (cs:List Int):SP:=⟨[.is (.func (.yield 12) [] []),.is (.ptr (some (10,0))),.is (.ptr (some (11,0))),.drop,.drop,.str,.int .i64,.int .i64]++dr 18,G0g cs⟩
def A8c (cs:List Int):SP:=⟨dr 26,G0g cs⟩
def A1c (s:List UInt8) (i:Int) (lo:AObj):List Lf:=[.s s,.i s.length,.i i,.i i,.s s,.o lo]
def Z9 (cs:List Int) (s:List UInt8):AObj :=
 match f89.body with
 | some (.seq _ (.seq _ (.seq (.seq _ (.block _ (.rangeFunc _ ps a b))) _)))=>.loop ⟨.ready,none,[.sstr s,.slice (some (8,0)) cs.length cs.length,.tuple [],.tuple [],.int .i64 0,.ptr (some (9,0)),.sstr s,.slice (some (8,0)) cs.length cs.length,.func (.func 162) [] [.ptr (some (10,0)),.ptr (some (11,0))],.tuple [],.tuple [],.tuple [],.tuple []],ps,a,b⟩
 | _=>.dead
def spx (cs:List Int):AEx->SP
 | .normal=>B6d cs
 | _=>A8c cs
abbrev C1e (cs:List Int) (s:List UInt8) (i:Int):=E9 prog (C8 prog pB 60) F7 C5o ((B6d cs).rho (A1c s i (Z9 cs s))) ((B6d cs).heap (A1c s i (Z9 cs s))) (H6 (spx cs) 13 [9,10,11,12])
theorem E2y (s:List UInt8) (i:Int):C1e [1,2,3] s i =
  brK (decide (i < (s.length:Int))) (brK (decide (0<=i/\i < (s.length:Int)))
   (brK (A0u (bI s i) == 1) (brK (decide (0<=i/\i < (s.length:Int))) (some (.normal,A1c s (W (i+1)) (Z9 [1,2,3] s))) none)
   (brK (A0u (bI s i) == 2) (brK (decide (0<=i/\i < (s.length:Int))) (some (.normal,A1c s (W (i+1)) (Z9 [1,2,3] s))) none)
   (brK (A0u (bI s i) == 3) (brK (decide (0<=i/\i < (s.length:Int))) (some (.normal,A1c s (W (i+1)) (Z9 [1,2,3] s))) none)
    (some (.ret,[.i i,.s s,.o (Z9 [1,2,3] s)]))))) none) (some (.exit 0,[.i i,.s s,.o (Z9 [1,2,3] s)])):=by kernel_rfl
theorem E4y (s:List UInt8) (i:Int):C1e [2] s i =
  brK (decide (i < (s.length:Int))) (brK (decide (0<=i/\i < (s.length:Int)))
   (brK (A0u (bI s i) == 2) (brK (decide (0<=i/\i < (s.length:Int))) (some (.normal,A1c s (W (i+1)) (Z9 [2] s))) none)
    (some (.ret,[.i i,.s s,.o (Z9 [2] s)]))) none) (some (.exit 0,[.i i,.s s,.o (Z9 [2] s)])):=by kernel_rfl
def pCl (cs:List Int) (s:List UInt8) (n:Nat):Bool:=cs.any fun k=>A0u (bAt s n) == k
def H7 (cs:List Int) (s:List UInt8):Nat:=K4 (pCl cs s) s.length 0
def A4h (cs:List Int) (s:List UInt8) (n:Nat):AEx × List Lf:=(if n < s.length then .ret else .exit 0,[.i n,.s s,.o (Z9 cs s)])
theorem E0w (cs:List Int) (hcs:cs=[1,2,3] \/ cs=[2]) (s:List UInt8) (n:Nat) (hs:s.length < 2 ^ 62) (hn:n<=s.length):C1e cs s n =
  if n < s.length/\pCl cs s n=true then some (.normal,A1c s ((n+1:Nat):Int) (Z9 cs s)) else some (A4h cs s n):=by
 have e1:W ((n:Int)+1)=((n+1:Nat):Int):=by rw [W,wrap64 (by omega) (by omega)]; omega
 have e2:bI s (n:Int)=bAt s n:=by simp [bI,bAt]
 unfold pCl A4h
 rcases hcs with rfl | rfl
 ·rw [E2y,e1,e2]
  by_cases h:n < s.length
  ·have h1:decide ((n:Int) < (s.length:Int))=true:=dT (by omega)
   have h2:decide (0<=(n:Int)/\(n:Int) < (s.length:Int))=true:=dT (by omega)
   rw [h1,h2]
   simp only [List.any_cons,List.any_nil]
   by_cases x1:A0u (bAt s n)=1 <;> by_cases x2:A0u (bAt s n)=2 <;> by_cases x3:A0u (bAt s n)=3 <;> simp [A2a,h,x1,x2,x3]
  ·have h1:decide ((n:Int) < (s.length:Int))=false:=dF (by omega)
   rw [h1]
   simp [brK,h]
 ·rw [E4y,e1,e2]
  by_cases h:n < s.length
  ·have h1:decide ((n:Int) < (s.length:Int))=true:=dT (by omega)
   have h2:decide (0<=(n:Int)/\(n:Int) < (s.length:Int))=true:=dT (by omega)
   rw [h1,h2]
   simp only [List.any_cons,List.any_nil]
   by_cases x2:A0u (bAt s n)=2 <;> simp [A2a,h,x2]
  ·have h1:decide ((n:Int) < (s.length:Int))=false:=dF (by omega)
   rw [h1]
   simp [brK,h]
def F8e (cs:List Int):Blk:=hookP (B6d cs) 13 [9,10,11,12] fun
 | [.s s,.i l,.i i,.i n,.s s',.o lo]=>.br (A9 (l=s.length/\i=0/\n=0/\s'=s/\lo=Z9 cs s)) (.br (D9 s)
   (.br (decide (H7 cs s < s.length)) (.leaf (.ret,A8c cs,[.i (H7 cs s),.s s,.o (Z9 cs s)])) (.leaf (.normal,A8c cs,[.i (H7 cs s),.s s,.o (Z9 cs s)]))) .fail) .fail
 | _=>.fail
def E1n (cs:List Int):Prims:=pB.addb 162 0 (F8e cs)
section
variable {A:Amb} (hT:Tab A) (hG:prog.globals.size<=A.G)
include hT hG
theorem F8i:PrimOK prog A F9v:=by
 refine PrimOK.addbP (B1i hT hG) func46 (show f46.body=some E8v by kernel_rfl) (body:=.loop C6i) (by kernel_rfl) (by kernel_rfl) fun ls e sq l h=>?_
 split at h
 ·rename_i s a i
  obtain ⟨hc,hv⟩:=Tr.br1 h
  cases hv
  simp only [Bool.and_eq_true,decide_eq_true_eq,D9] at hc
  obtain ⟨⟨rfl,ha0,ha1⟩,hs⟩:=hc
  obtain ⟨a,rfl⟩:∃ k:Nat,a=(k:Int):=⟨a.toNat,by omega⟩
  refine ⟨by simp [frP,spD,SP.heap,mkH,dd8,dr,mkT,OP.mk,List.replicate],fun Bb hB=>SEB.block_exit (id:=0) ?_⟩
  rw [Int.toNat_natCast]
  have key:=SEB.scan (A:=A) (B0:=Bb) (c:=C6i) (S:=fun n=>⟨spD.rho [.s s,.i a,.i n],spD.heap [.s s,.i a,.i n],[]⟩) (E:=fun n=>⟨spD.rho [.s s,.i a,.i n],spD.heap [.s s,.i a,.i n],[]⟩) (e:=fun _=>.exit 0) (p:=pDg s a) (N:=s.length - a)
   (fun _=>by simp) (fun n hn hp=>SEB.of_KP (e:=.normal) D5 D6 (B1i hT hG) (.none _) hB (by rw [E8o s a n hs (by omega) (by omega),if_pos ⟨hn,hp⟩]) rfl)
   (fun n hn hp=>SEB.of_KP (e:=.exit 0) D5 D6 (B1i hT hG) (.none _) hB (by rw [E8o s a n hs (by omega) hn,if_neg (fun h=>by rw [hp h.1] at h; exact absurd h.2 (by simp))]) rfl) 0 (Nat.zero_le _)
  exact key
 ·cases h
theorem E5q (cs:List Int) (hcs:cs=[1,2,3] \/ cs=[2]):PrimOK prog A (E1n cs):=by
 have hokD:∀ e,okD 13 [9,10,11,12] 0 (spx cs e).h=true:=fun e=>by rcases hcs with rfl | rfl <;> cases e <;> rfl
 refine PrimOK.addbP (B1i hT hG) func162 (show f162.body=some E1q by kernel_rfl) (body:=.loop C5o) (by kernel_rfl) (hokD .normal) fun ls e sq l h=>?_
 split at h
 ·rename_i s l0 i n s' lo
  obtain ⟨hc,h1⟩:=Tr.br1 h
  obtain ⟨hs0,h2⟩:=Tr.br1 h1
  clear h h1
  obtain ⟨rfl,rfl,rfl,rfl,rfl⟩:=D7 hc
  have hs:=of_decide_eq_true hs0
  have h:=h2
  clear h2
  have key:∀ Bb:Heap,Bb.length=13->_:=fun Bb hB=>SEB.scan (A:=A) (B0:=Bb) (c:=C5o) (S:=fun n=>⟨(B6d cs).rho (A1c s' n (Z9 cs s')),(B6d cs).heap (A1c s' n (Z9 cs s')),[9,10,11,12]⟩)
   (E:=fun n=>⟨(A8c cs).rho (A4h cs s' n).2,(A8c cs).heap (A4h cs s' n).2,[9,10,11,12]⟩) (e:=fun n=>(A4h cs s' n).1) (p:=pCl cs s') (N:=s'.length)
   (fun n=>by unfold A4h; simp only; split <;> simp) (fun n hn hp=>SEB.of_KP (e:=.normal) (sp:=spx cs) D5 D6 (B1i hT hG) (.none _) hB (by rw [show E9 _ _ _ _ _ _ _=C1e cs s' n from rfl,E0w cs hcs s' n hs (by omega),if_pos ⟨hn,hp⟩]) (hokD _))
   (fun n hn hp=>by
    have:=SEB.of_KP (e:=(A4h cs s' n).1) (sp:=spx cs) D5 D6 (B1i hT hG) (.none _) hB (by rw [show E9 _ _ _ _ _ _ _=C1e cs s' n from rfl,E0w cs hcs s' n hs hn,if_neg (fun h=>by rw [hp h.1] at h; exact absurd h.2 (by simp))]) (hokD _)
    have e1:spx cs (A4h cs s' n).1=A8c cs:=by unfold A4h spx; simp only; split <;> rename_i h <;> split at h <;> simp_all
    rw [e1] at this
    exact this) 0 (Nat.zero_le _)
  have hfr:frP [9,10,11,12] 0 ((B6d cs).heap (A1c s' 0 (Z9 cs s'))) ((A8c cs).heap [.i (H7 cs s'),.s s',.o (Z9 cs s')]):=by
   rcases hcs with rfl | rfl <;> simp [frP,B6d,A8c,G0g,SP.heap,mkH,dd8,dr,mkT,OP.mk,List.replicate,Pt.mk,A1c]
  cases hlt:decide (H7 cs s' < s'.length) with
  | true =>
   rw [hlt] at h
   simp only [Tr.get,sI,pI] at h
   obtain ⟨rfl,rfl,rfl⟩:=h
   refine ⟨hfr,fun Bb hB=>SEB.block_other (id:=0) ?_ (by simp)⟩
   have:=key Bb hB
   simp only [A4h,Nat.sub_zero] at this
   rw [if_pos (show K4 (pCl cs s') s'.length 0 < s'.length from of_decide_eq_true hlt)] at this
   exact this
  | false =>
   rw [hlt] at h
   simp only [Tr.get,sI,pI] at h
   obtain ⟨rfl,rfl,rfl⟩:=h
   refine ⟨hfr,fun Bb hB=>SEB.block_exit (id:=0) ?_⟩
   have:=key Bb hB
   simp only [A4h,Nat.sub_zero] at this
   rw [if_neg (show ¬ K4 (pCl cs s') s'.length 0 < s'.length from of_decide_eq_false hlt)] at this
   exact this
 ·cases h
end
end Go.Proofs.Tryz
namespace Go.Proofs.Tryz
open Go.Ad
def C6v (cs:List Int):SP:=⟨[.str,.is (.slice (some (8,0)) cs.length cs.length)],dd8++[.cells (cs.map fun c=>.is (.int .i64 c)) 1 true 3]⟩
def F6b:SP:=⟨[.int .i64],dd8++[.any]⟩
def T89 (cs:List Int):List Lf->Tr (SP × List Lf)
 | [.s s]=>.br (D9 s) (.leaf (F6b,[.i (H7 cs s),.o (.cells (cs.map fun c=>.int .i64 c) 1 true 3)])) .fail
 | _=>.fail
theorem G8a (cs:List Int) (hcs:cs=[1,2,3] \/ cs=[2]) (s:List UInt8) (hs:D9 s=true):(C8 prog (E1n cs) 60).call 89 ((C6v cs).rho [.s s]) ((C6v cs).heap [.s s]) (V8 F6b 9 [])=some [.i (H7 cs s),.o (.cells (cs.map fun c=>.int .i64 c) 1 true 3)]:=by
 have key:(C8 prog (E1n cs) 60).call 89 ((C6v cs).rho [.s s]) ((C6v cs).heap [.s s]) (V8 F6b 9 []) =
   brK (A9 ((s.length:Int)=s.length/\(0:Int)=0/\(0:Int)=0/\s=s/\Z9 cs s=Z9 cs s)) (brK (D9 s) (brK (decide (H7 cs s < s.length)) (some [.i (H7 cs s),.o (.cells (cs.map fun c=>.int .i64 c) 1 true 3)])
    (some [.i (H7 cs s),.o (.cells (cs.map fun c=>.int .i64 c) 1 true 3)])) none) none:=by
  rcases hcs with rfl | rfl <;> kernel_rfl
 rw [key,A8 ⟨rfl,rfl,rfl,rfl,rfl⟩,hs,brT,brT]
 cases decide (H7 cs s < s.length) <;> rfl
def pL:Prims:=pB.addh 89 (G8 8 (F4v (C6v [1,2,3]) (funP (C6v [1,2,3]) 9 [] (T89 [1,2,3])) (funP (C6v [2]) 9 [] (T89 [2]))))
section
variable {A:Amb} (hT:Tab A) (hG:prog.globals.size<=A.G)
include hT hG
theorem F2x (cs:List Int) (hcs:cs=[1,2,3] \/ cs=[2]):∀ args B v B' D,(funP (C6v cs) 9 [] (T89 cs) args B).get=some (v,B',D)->AFr B B' D/\CallT prog A 89 args B v B' D:=by
 refine K6 D5 D6 (by rcases hcs with rfl | rfl <;> rfl) fun ls sq l h=>?_
 unfold T89 at h
 split at h
 ·rename_i s
  obtain ⟨hs,hv⟩:=Tr.br1 h
  cases hv
  refine ⟨?_,rfl,rfl,E1n cs,60,E5q hT hG cs hcs,G8a cs hcs s hs⟩
  rcases hcs with rfl | rfl <;> simp [frP,C6v,F6b,SP.heap,mkH,dd8,mkT,OP.mk,List.replicate,Pt.mk]
 ·cases h
theorem H0d:PrimOK prog A pL :=
 (B1i hT hG).addl gsz func89 (by kernel_rfl) (D9e (F2x hT hG _ (.inl rfl)) (F2x hT hG _ (.inr rfl)))
end
end Go.Proofs.Tryz
namespace Go.Proofs.Tryz
open Go.Ad
theorem F4z (c:Int):(A0u c == 1)=A4f c:=by
 unfold A0u A4f
 repeat' split
 all_goals first
  | (rw [show ((1:Int) == 1)=true from rfl]; symm; rw [decide_eq_true_eq]; assumption)
  | (rw [show (_ == (1:Int))=false from rfl]; symm; rw [decide_eq_false_iff_not]; omega)
theorem F1g (c:Int):(A0u c == 2)=A5d c:=by
 unfold A0u A5d
 repeat' split
 all_goals first
  | (rw [show ((2:Int) == 2)=true from rfl]; symm; rw [decide_eq_true_eq]; assumption)
  | (rw [show (_ == (2:Int))=false from rfl]; symm; rw [decide_eq_false_iff_not]; omega)
theorem H2d (c:Int):(A0u c == 3)=(c == 95):=by
 unfold A0u
 repeat' split
 all_goals first
  | (subst c; rfl)
  | (rw [show (_ == (3:Int))=false from rfl]; symm; rw [beq_eq_false_iff_ne]; omega)
theorem H1s (c:Int):(A0u c == 5)=(c == 32):=by
 unfold A0u
 repeat' split
 all_goals first
  | (subst c; rfl)
  | (rw [show (_ == (5:Int))=false from rfl]; symm; rw [beq_eq_false_iff_ne]; omega)
theorem F6h:((List.range 256).all fun n=>decide (0<=A7g (n:Int)) == A2g (n:Int))=true:=by kernel_rfl
theorem E9k {c:Int} (h0:0<=c) (h1:c < 256):decide (0<=A7g c)=A2g c:=by
 obtain ⟨n,rfl⟩:∃ n:Nat,c=n:=⟨c.toNat,by omega⟩
 have:=List.all_eq_true.1 F6h n (List.mem_range.2 (by omega))
 exact beq_iff_eq.1 this
theorem D5t:((List.range 256).all fun n=>!A2g (n:Int) || (!A4f (n:Int) && !A5d (n:Int) && !((n:Int) == 95) && !((n:Int) == 32)))=true:=by kernel_rfl
theorem G9f {c:Int} (h0:0<=c) (h1:c < 256):(A0u c == 4)=A2g c:=by
 have hm:=E9k h0 h1
 obtain ⟨n,rfl⟩:∃ n:Nat,c=n:=⟨c.toNat,by omega⟩
 have hp:=List.all_eq_true.1 D5t n (List.mem_range.2 (by omega))
 unfold A0u
 cases hb:A2g (n:Int) with
 | true =>
  rw [hb] at hm hp
  simp [A4f,A5d] at hp
  have:=of_decide_eq_true hm
  rw [if_neg (by omega),if_neg (by omega),if_neg (by omega),if_neg (by omega),if_pos this]; rfl
 | false =>
  rw [hb] at hm
  have:=of_decide_eq_false hm
  repeat' split
  all_goals first | rfl | contradiction
theorem C4d (s:List UInt8) (n:Nat):0<=bAt s n/\bAt s n < 256:=by
 unfold bAt
 have:=(s.getD n 0).toNat_lt
 omega
def N7 (s:List UInt8):Nat:=bif A4f (bAt s 0) && !s.isEmpty then H7 [1,2,3] s else 0
def Q9 (s:List UInt8):Nat × Nat :=
 bif decide (0 < H7 [2] s) && (decide (H7 [2] s+1 < s.length) && (bAt s (H7 [2] s) == 46 && decide (0 < H7 [2] (s.drop (H7 [2] s+1))))) then (H7 [2] s+1+H7 [2] (s.drop (H7 [2] s+1)),H7 [2] s) else (H7 [2] s,H7 [2] s)
theorem A4z (cs:List Int) (s:List UInt8):H7 cs s<=s.length:=by
 have:=(B2z (pCl cs s) s.length 0).2; simpa [H7] using this
theorem E5j (s:List UInt8):B7h s=N7 s:=by
 unfold B7h N7
 cases s with
 | nil=>simp [K4]
 | cons b r =>
  cases h:A4f (bAt (b :: r) 0) with
  | false =>
   simp only [Bool.false_and,cond_false,List.length_cons,K4]
   have:pWd (b :: r) 0=false:=by simp [pWd,h]
   rw [this,cond_false]
  | true =>
   simp only [Bool.true_and,List.isEmpty_cons,Bool.not_false,cond_true]
   unfold H7
   refine A8d fun m _ _=>?_
   unfold pWd pCl
   simp only [List.any_cons,List.any_nil,Bool.or_false,F4z,F1g,H2d]
   cases m with
   | zero=>rw [h]; simp
   | succ m=>simp
theorem E8t (s:List UInt8) (a n:Nat):bAt (s.drop a) n=bAt s (a+n):=by
 unfold bAt
 simp [List.getD_eq_getElem?_getD,List.getElem?_drop]
theorem D2w (s:List UInt8) (a:Nat):B7r s a=H7 [2] (s.drop a):=by
 unfold B7r H7
 rw [List.length_drop]
 refine A8d fun m _ _=>?_
 simp [pDg,pCl,F1g,E8t]
theorem G7w (s:List UInt8) (hs:D9 s=true):(C8 prog pL 60).call 41 [.sstr s] (Bg 8) I4=some (.int .i64 0)/\N7 s=0 \/ (C8 prog pL 60).call 41 [.sstr s] (Bg 8) I4=some (.sint .i64 (N7 s)):=by
 have h:(C8 prog pL 60).call 41 [.sstr s] (Bg 8) I4=brK (s == []) (some (.int .i64 0)) (brK (decide ((0:Int)<=0/\(0:Int) < (s.length:Int))) (brK (A0u (bAt s 0) != 1) (some (.int .i64 0)) (brK (D9 s) (some (.sint .i64 (H7 [1,2,3] s))) none)) none):=by kernel_rfl
 rw [h,hs]
 unfold N7
 cases s with
 | nil=>left; exact ⟨rfl,by simp⟩
 | cons b r =>
  have h1:((b :: r) == ([]:List UInt8))=false:=rfl
  have h2:decide ((0:Int)<=0/\(0:Int) < ((b :: r).length:Int))=true:=dT (by simp)
  rw [h1,h2,bne,F4z]
  cases A4f (bAt (b :: r) 0) with
  | true=>right; rfl
  | false=>left; exact ⟨rfl,rfl⟩
theorem G7q (s:List UInt8) (hs:D9 s=true):(C8 prog pL 60).call 44 [.sstr s] (Bg 8) I4=some (.tuple [.sint .i64 (Q9 s).1,.sint .i64 (Q9 s).2]):=by
 have h:(C8 prog pL 60).call 44 [.sstr s] (Bg 8) I4=brK (D9 s) (brK ((H7 [2] s:Int) == 0) (some (.tuple [.sint .i64 (H7 [2] s),.sint .i64 (H7 [2] s)]))
   (brK (decide (W ((H7 [2] s:Int)+1) >= (s.length:Int))) (some (.tuple [.sint .i64 (H7 [2] s),.sint .i64 (H7 [2] s)]))
   (brK (decide (0<=(H7 [2] s:Int)/\(H7 [2] s:Int) < (s.length:Int))) (brK (bI s (H7 [2] s) != 46) (some (.tuple [.sint .i64 (H7 [2] s),.sint .i64 (H7 [2] s)]))
   (brK (true && decide (0<=W ((H7 [2] s:Int)+1)/\W ((H7 [2] s:Int)+1)<=(s.length:Int))) (brK (D9 (List.drop (W ((H7 [2] s:Int)+1)).toNat (List.take s.length s)))
    (brK ((H7 [2] (List.drop (W ((H7 [2] s:Int)+1)).toNat (List.take s.length s)):Int) == 0) (some (.tuple [.sint .i64 (H7 [2] s),.sint .i64 (H7 [2] s)]))
     (some (.tuple [.sint .i64 (W (W ((H7 [2] s:Int)+1)+(H7 [2] (List.drop (W ((H7 [2] s:Int)+1)).toNat (List.take s.length s)):Int))),.sint .i64 (H7 [2] s)]))) none) none)) none))) none:=by kernel_rfl
 rw [h,hs,brT]
 have hs':=of_decide_eq_true hs
 have hl:=A4z [2] s
 have hw:W ((H7 [2] s:Int)+1)=((H7 [2] s+1:Nat):Int):=by rw [W,wrap64 (by omega) (by omega)]; omega
 rw [hw,Int.toNat_natCast,List.take_length]
 unfold Q9
 generalize hd:H7 [2] s=d at hl ⊢
 have hb:bI s (d:Int)=bAt s d:=by simp [bI,bAt]
 rw [hb]
 by_cases h0:d=0
 ·subst h0; rfl
 have e0:((d:Int) == 0)=false:=by rw [beq_eq_false_iff_ne]; omega
 rw [e0,brF,dT (show 0 < d by omega),Bool.true_and]
 by_cases h1:d+1 < s.length
 case neg =>
  have e1:decide (((d+1:Nat):Int) >= (s.length:Int))=true:=dT (by omega)
  rw [e1,brT,dF h1]; rfl
 have e1:decide (((d+1:Nat):Int) >= (s.length:Int))=false:=dF (by omega)
 have e2:decide (0<=(d:Int)/\(d:Int) < (s.length:Int))=true:=dT (by omega)
 have e3:decide (0<=((d+1:Nat):Int)/\((d+1:Nat):Int)<=(s.length:Int))=true:=dT (by omega)
 have e4:D9 (s.drop (d+1))=true:=dT (by rw [List.length_drop]; omega)
 rw [e1,brF,e2,brT,dT h1,Bool.true_and,e3,e4,bne]
 cases hc:bAt s d == 46 with
 | false=>rfl
 | true =>
  simp only [Bool.not_true,brF,brT,Bool.true_and]
  have hl2:=A4z [2] (s.drop (d+1))
  rw [List.length_drop] at hl2
  generalize H7 [2] (s.drop (d+1))=m at hl2 ⊢
  by_cases hm:m=0
  ·subst hm; rfl
  ·have e5:((m:Int) == 0)=false:=by rw [beq_eq_false_iff_ne]; omega
   have e6:W (((d+1:Nat):Int)+(m:Int))=((d+1+m:Nat):Int):=by rw [W,wrap64 (by omega) (by omega)]; omega
   rw [e5,brF,e6,dT (show 0 < m by omega)]; rfl
theorem G7n (s:List UInt8) (hs:D9 s=true):(C8 prog G5j 60).call 43 [.sstr s] (Bg 8) I4=some (.sint .i64 (N7 s)):=by
 have h:(C8 prog G5j 60).call 43 [.sstr s] (Bg 8) I4=brK (decide ((0:Int)=0) && D9 s) (some (.sint .i64 (B7h s))) none:=by kernel_rfl
 rw [h,hs,E5j]; rfl
theorem G8m (s:List UInt8) (a:Nat) (ha:a<=s.length) (hs:D9 s=true):(C8 prog F9v 60).call 46 [.sstr s,.sint .i64 a] (Bg 8) I4=some (.sint .i64 (H7 [2] (s.drop a))):=by
 have h:(C8 prog F9v 60).call 46 [.sstr s,.sint .i64 a] (Bg 8) I4=brK (decide ((0:Int)=0/\0<=(a:Int)/\(a:Int)<=s.length) && D9 s) (some (.sint .i64 (B7r s (a:Int).toNat))) none:=by kernel_rfl
 rw [h,hs,dT (show (0:Int)=0/\0<=(a:Int)/\(a:Int)<=s.length by omega),Int.toNat_natCast,D2w]; rfl
def pN1:Prims:=pL.addt 41 (gP [.str] fun | [.s s]=>.br (D9 s) (.leaf (.sint .i64 (N7 s))) .fail | _=>.fail)
def pN2:Prims:=pN1.addt 44 (gP [.str] fun | [.s s]=>.br (D9 s) (.leaf (.tuple [.sint .i64 (Q9 s).1,.sint .i64 (Q9 s).2])) .fail | _=>.fail)
def pN3:Prims:=pN2.addt 43 (gP [.str] fun | [.s s]=>.br (D9 s) (.leaf (.sint .i64 (N7 s))) .fail | _=>.fail)
def pN4:Prims:=pN3.addt 46 (gP [.str,.int .i64] fun | [.s s,.i a]=>.br (decide (0<=a/\a<=(s.length:Int)) && D9 s) (.leaf (.sint .i64 (H7 [2] (s.drop a.toNat)))) .fail | _=>.fail)
section
variable {A:Amb} (hT:Tab A) (hG:prog.globals.size<=A.G)
include hT hG
theorem F2u:PrimOK prog A pN4:=by
 have h0:=H0d hT hG
 refine PrimOK.addP D5 D6 (F8i hT hG) (PrimOK.addP D5 D6 (F6j hT hG) (PrimOK.addP D5 D6 h0 (PrimOK.addP D5 D6 h0 h0 hG func41 (by kernel_rfl) ?_) hG func44 (by kernel_rfl) ?_) hG func43 (by kernel_rfl) ?_) hG func46 (by kernel_rfl) ?_
 ·intro ls v h
  split at h
  ·rename_i s
   obtain ⟨hs,hv⟩:=Tr.br1 h
   cases hv
   rcases G7w s hs with ⟨h1,h2⟩ | h1
   ·exact ⟨rfl,60,_,by rw [gsz]; exact h1,rfl,fun ι x=>J4 (by rw [h2]; rfl) x⟩
   ·exact ⟨rfl,60,_,by rw [gsz]; exact h1,rfl,fun ι x h=>h⟩
  ·cases h
 ·intro ls v h
  split at h
  ·rename_i s
   obtain ⟨hs,hv⟩:=Tr.br1 h
   cases hv
   exact ⟨rfl,60,_,by rw [gsz]; exact G7q s hs,rfl,fun ι x h=>h⟩
  ·cases h
 ·intro ls v h
  split at h
  ·rename_i s
   obtain ⟨hs,hv⟩:=Tr.br1 h
   cases hv
   exact ⟨rfl,60,_,by rw [gsz]; exact G7n s hs,rfl,fun ι x h=>h⟩
  ·cases h
 ·intro ls v h
  split at h
  ·rename_i s a
   obtain ⟨hs,hv⟩:=Tr.br1 h
   cases hv
   simp only [Bool.and_eq_true,decide_eq_true_eq] at hs
   obtain ⟨⟨ha0,ha1⟩,hs⟩:=hs
   obtain ⟨a,rfl⟩:∃ k:Nat,a=(k:Int):=⟨a.toNat,by omega⟩
   exact ⟨rfl,60,_,by rw [gsz]; exact G8m s a (by omega) hs,rfl,fun ι x h=>by rw [Int.toNat_natCast]; exact h⟩
  ·cases h
end
end Go.Proofs.Tryz
namespace Go.Proofs.Tryz
open Go.Ad
theorem G6j (s:List UInt8) (hs:D9 s=true):(C8 prog pN4 60).call 45 [.sstr s] (Bg 8) I4=some (.sint .i64 (Q9 s).1):=by
 have h:(C8 prog pN4 60).call 45 [.sstr s] (Bg 8) I4=brK (decide ((0:Int)<=0/\(0:Int)<=(s.length:Int)) && D9 s) (brK (decide ((H7 [2] (s.drop 0):Int) > 0))
  (brK (decide ((H7 [2] (s.drop 0):Int) < (s.length:Int))) (brK (decide (0<=(H7 [2] (s.drop 0):Int)/\(H7 [2] (s.drop 0):Int) < (s.length:Int))) (brK (bI s (H7 [2] (s.drop 0)) == 46)
   (brK (decide (0<=W ((H7 [2] (s.drop 0):Int)+1)/\W ((H7 [2] (s.drop 0):Int)+1)<=(s.length:Int)) && D9 s)
    (brK (decide ((H7 [2] (s.drop (W ((H7 [2] (s.drop 0):Int)+1)).toNat):Int) > 0))
     (brK (decide (0<=W ((H7 [2] (s.drop 0):Int)+1)/\W ((H7 [2] (s.drop 0):Int)+1)<=(s.length:Int)) && D9 s)
      (some (.sint .i64 (W (W ((H7 [2] (s.drop 0):Int)+1)+(H7 [2] (s.drop (W ((H7 [2] (s.drop 0):Int)+1)).toNat):Int))))) none)
     (some (.sint .i64 (H7 [2] (s.drop 0))))) none)
   (some (.sint .i64 (H7 [2] (s.drop 0))))) none)
   (some (.sint .i64 (H7 [2] (s.drop 0)))))
  (some (.sint .i64 (H7 [2] (s.drop 0))))) none:=by kernel_rfl
 rw [h,hs,List.drop_zero,dT (show (0:Int)<=0/\(0:Int)<=(s.length:Int) by omega),Bool.and_self,brT]
 have hs':=of_decide_eq_true hs
 have hl:=A4z [2] s
 have hw:W ((H7 [2] s:Int)+1)=((H7 [2] s+1:Nat):Int):=by rw [W,wrap64 (by omega) (by omega)]; omega
 rw [hw,Int.toNat_natCast]
 unfold Q9
 generalize hd:H7 [2] s=d at hl ⊢
 have hb:bI s (d:Int)=bAt s d:=by simp [bI,bAt]
 rw [hb]
 by_cases h0:0 < d
 case neg=>rw [dF (show ¬ ((d:Int) > 0) by omega),dF h0]; rfl
 rw [dT (show (d:Int) > 0 by omega),brT,dT h0,Bool.true_and]
 by_cases h1:d < s.length
 case neg=>rw [dF (show ¬ ((d:Int) < (s.length:Int)) by omega),dF (show ¬ d+1 < s.length by omega)]; rfl
 rw [dT (show (d:Int) < (s.length:Int) by omega),brT,dT (show 0<=(d:Int)/\(d:Int) < (s.length:Int) by omega),brT]
 rw [dT (show 0<=((d+1:Nat):Int)/\((d+1:Nat):Int)<=(s.length:Int) by omega),Bool.and_self]
 cases hc:bAt s d == 46 with
 | false=>simp only [brF,Bool.false_and,Bool.and_false,cond_false]
 | true =>
  simp only [brT,Bool.true_and]
  have hl2:=A4z [2] (s.drop (d+1))
  rw [List.length_drop] at hl2
  generalize H7 [2] (s.drop (d+1))=m at hl2 ⊢
  by_cases hm:0 < m
  ·have e6:W (((d+1:Nat):Int)+(m:Int))=((d+1+m:Nat):Int):=by rw [W,wrap64 (by omega) (by omega)]; omega
   rw [dT (show (m:Int) > 0 by omega),brT,dT hm,dT (show d+1 < s.length by omega),e6]; rfl
  ·rw [dF (show ¬ ((m:Int) > 0) by omega),dF hm,brF]; simp
def pN5:Prims:=pN4.addt 45 (gP [.str] fun | [.s s]=>.br (D9 s) (.leaf (.sint .i64 (Q9 s).1)) .fail | _=>.fail)
def C6m (s:List UInt8):Int:=if N7 s=0 \/ N7 s ≠ s.length then 3 else if s.length > 24 then 17 else 0
def A0s (s:List UInt8):Int:=if (Q9 s).1=0 \/ (Q9 s).1 ≠ s.length \/ ((Q9 s).2 > 1/\bAt s 0=48) then 3 else if s.length > 24 then 17 else 0
theorem B0j (s:List UInt8):(Q9 s).2<=(Q9 s).1/\(Q9 s).1<=s.length/\((Q9 s).1=0 ↔ (Q9 s).2=0)/\(Q9 s).2=H7 [2] s:=by
 have hl:=A4z [2] s
 have hl2:=A4z [2] (s.drop (H7 [2] s+1))
 rw [List.length_drop] at hl2
 unfold Q9
 generalize H7 [2] (s.drop (H7 [2] s+1))=m at *
 generalize H7 [2] s=d at *
 cases h:(decide (0 < d) && (decide (d+1 < s.length) && (bAt s d == 46 && decide (0 < m)))) with
 | true =>
  simp only [Bool.and_eq_true,decide_eq_true_eq] at h
  simp only [cond_true]
  refine ⟨?_,?_,?_,?_⟩ <;> first | omega | trivial
 | false=>simp only [cond_false]; exact ⟨Nat.le_refl _,hl,trivial,trivial⟩
theorem C3x (s:List UInt8):brK (s == []) (some (AV.int .i64 3)) (brK true (brK ((N7 s:Int) != (s.length:Int)) (some (.int .i64 3)) (brK (decide ((s.length:Int) > 24)) (some (.int .i64 17)) (some (.int .i64 0)))) none)=some (.int .i64 (C6m s)):=by
 unfold C6m
 cases s with
 | nil=>rfl
 | cons b r =>
  have e1:((b :: r) == ([]:List UInt8))=false:=rfl
  rw [e1,brF,brT]
  have hp:0 < (b :: r).length:=by simp
  generalize (b :: r).length=k at *
  simp only [A2a,bne_iff_ne,ne_eq,decide_eq_true_eq]
  repeat' split
  all_goals first | rfl | omega
theorem G7f (s:List UInt8) (hs:D9 s=true):(C8 prog pN5 60).call 13 [.sstr s] (Bg 8) I4=some (.int .i64 (C6m s)):=by
 have h:(C8 prog pN5 60).call 13 [.sstr s] (Bg 8) I4=brK (s == []) (some (.int .i64 3)) (brK (D9 s) (brK ((N7 s:Int) != (s.length:Int)) (some (.int .i64 3)) (brK (decide ((s.length:Int) > 24)) (some (.int .i64 17)) (some (.int .i64 0)))) none):=by kernel_rfl
 rw [h,hs,C3x]
theorem H0c (s:List UInt8) (hs:D9 s=true):(C8 prog pN5 60).call 14 [.sstr s] (Bg 8) I4=some (.int .i64 (C6m s)):=by
 have h:(C8 prog pN5 60).call 14 [.sstr s] (Bg 8) I4=brK (s == []) (some (.int .i64 3)) (brK (D9 s) (brK ((N7 s:Int) != (s.length:Int)) (some (.int .i64 3)) (brK (decide ((s.length:Int) > 24)) (some (.int .i64 17)) (some (.int .i64 0)))) none):=by kernel_rfl
 rw [h,hs,C3x]
theorem G8j (s:List UInt8) (hs:D9 s=true):(C8 prog pN5 60).call 15 [.sstr s] (Bg 8) I4=some (.int .i64 (A0s s)):=by
 have h:(C8 prog pN5 60).call 15 [.sstr s] (Bg 8) I4=brK (D9 s) (brK (((Q9 s).1:Int) == 0) (some (.int .i64 3)) (brK (((Q9 s).1:Int) != (s.length:Int)) (some (.int .i64 3))
   (brK (decide (((Q9 s).2:Int) > 1)) (brK (decide ((0:Int)<=0/\(0:Int) < (s.length:Int))) (brK (bAt s 0 == 48) (some (.int .i64 3)) (brK (decide (((Q9 s).1:Int) > 24)) (some (.int .i64 17)) (some (.int .i64 0)))) none)
    (brK (decide (((Q9 s).1:Int) > 24)) (some (.int .i64 17)) (some (.int .i64 0)))))) none:=by kernel_rfl
 rw [h,hs,brT]
 obtain ⟨h1,h2,h3,_⟩:=B0j s
 unfold A0s
 simp only [A2a,beq_iff_eq,bne_iff_ne,ne_eq,decide_eq_true_eq]
 repeat' split
 all_goals first | rfl | omega
theorem G7v (s:List UInt8) (hs:D9 s=true):(C8 prog pN5 60).call 16 [.sstr s] (Bg 8) I4=some (.int .i64 (A0s s)):=by
 have h:(C8 prog pN5 60).call 16 [.sstr s] (Bg 8) I4=brK (s == []) (some (.int .i64 3)) (brK (D9 s) (brK (((Q9 s).1:Int) != (s.length:Int)) (some (.int .i64 3))
   (brK (decide ((0:Int)<=0/\(0:Int)<=(s.length:Int)) && D9 s) (brK (decide ((H7 [2] (s.drop 0):Int) > 1)) (brK (decide ((0:Int)<=0/\(0:Int) < (s.length:Int))) (brK (bAt s 0 == 48) (some (.int .i64 3)) (brK (decide ((s.length:Int) > 24)) (some (.int .i64 17)) (some (.int .i64 0)))) none)
    (brK (decide ((s.length:Int) > 24)) (some (.int .i64 17)) (some (.int .i64 0)))) none)) none):=by kernel_rfl
 rw [h,hs,brT,List.drop_zero]
 obtain ⟨h1,h2,h3,h4⟩:=B0j s
 rw [<- h4]
 unfold A0s
 cases s with
 | nil=>rfl
 | cons b r =>
  have e1:((b :: r) == ([]:List UInt8))=false:=rfl
  rw [e1,brF]
  have hp:0 < (b :: r).length:=by simp
  generalize (b :: r).length=k at *
  simp only [A2a,beq_iff_eq,bne_iff_ne,ne_eq,decide_eq_true_eq,Bool.and_true]
  repeat' split
  all_goals first | rfl | omega
def C2b (g:List UInt8->Int):List Lf->Tr AV
 | [.s s]=>.br (D9 s) (.leaf (.sint .i64 (g s))) .fail
 | _=>.fail
def pE:Prims:=(((pN5.addt 13 (gP [.str] (C2b C6m))).addt 14 (gP [.str] (C2b C6m))).addt 15 (gP [.str] (C2b A0s))).addt 16 (gP [.str] (C2b A0s))
section
variable {A:Amb} (hT:Tab A) (hG:prog.globals.size<=A.G)
include hT hG
theorem G0q:PrimOK prog A pN5:=by
 refine PrimOK.addP D5 D6 (F2u hT hG) (F2u hT hG) hG func45 (by kernel_rfl) fun ls v h=>?_
 split at h
 ·rename_i s
  obtain ⟨hs,hv⟩:=Tr.br1 h
  cases hv
  exact ⟨rfl,60,_,by rw [gsz]; exact G6j s hs,rfl,fun ι x h=>h⟩
 ·cases h
theorem F9n:PrimOK prog A pE:=by
 have h0:=G0q hT hG
 have key:∀ (f:FuncId) (g:List UInt8->Int),(∀ s,D9 s=true->(C8 prog pN5 60).call f [.sstr s] (Bg 8) I4=some (.int .i64 (g s)))->∀ ls v,(C2b g ls).get=some v ->
   J8 0 (mkT [.str] ls).1=true/\∃ n v',(C8 prog pN5 n).call f (mkT [.str] ls).1 (Bg prog.globals.size) I4=some v'/\below 0 v'=true/\∀ ι x,VR ι v' x->VR ι v x:=by
  intro f g hr ls v h
  unfold C2b at h
  split at h
  ·rename_i s
   obtain ⟨hs,hv⟩:=Tr.br1 h
   cases hv
   exact ⟨rfl,60,_,by rw [gsz]; exact hr s hs,rfl,fun ι x=>J4 rfl x⟩
  ·cases h
 exact PrimOK.addP D5 D6 h0 (PrimOK.addP D5 D6 h0 (PrimOK.addP D5 D6 h0 (PrimOK.addP D5 D6 h0 h0 hG func13 (by kernel_rfl) (key _ _ G7f)) hG func14 (by kernel_rfl) (key _ _ H0c)) hG func15 (by kernel_rfl) (key _ _ G8j)) hG func16 (by kernel_rfl) (key _ _ G7v)
end
end Go.Proofs.Tryz
namespace Go.Proofs.Tryz
open Go.Ad
def R9 (s:List UInt8):Int × Nat × Int :=
 bif A4f (bAt s 0) then (0,N7 s,C6m (s.take (N7 s))) else bif A5d (bAt s 0) then (1,(Q9 s).1,A0s (s.take (Q9 s).1)) else bif A2g (bAt s 0) then (2,1,0) else (0,0,4)
def F6x (t:Int × Nat × Int):AV:=.tuple [.sint .i64 t.1,.sint .i64 t.2.1,.sint .i64 t.2.2]
theorem W9 {ι:Emb} {a b c a' b' c':AV} (h1:∀ v,VR ι a v->VR ι a' v) (h2:∀ v,VR ι b v->VR ι b' v) (h3:∀ v,VR ι c v->VR ι c' v) (x:Value) (h:VR ι (.tuple [a,b,c]) x):VR ι (.tuple [a',b',c']) x:=by
 simp only [VR,VRL] at h ⊢
 obtain ⟨xs,rfl,x1,r1,e1,q1,x2,r2,e2,q2,x3,r3,e3,q3,q4⟩:=h
 exact ⟨xs,rfl,x1,r1,e1,h1 _ q1,x2,r2,e2,h2 _ q2,x3,r3,e3,h3 _ q3,q4⟩
theorem B8s (s:List UInt8):N7 s<=s.length:=by
 unfold N7
 have:=A4z [1,2,3] s
 cases A4f (bAt s 0) && !s.isEmpty <;> simp [this]
theorem D1p {p:Nat->Bool} {k:Nat} (hk:0 < k) (h:p 0=true):0 < K4 p k 0:=by
 obtain ⟨j,rfl⟩:∃ j,k=j+1:=⟨k - 1,by omega⟩
 simp only [K4,h,cond_true]
 have:=(B2z p j (0+1)).1
 omega
theorem C3a {s:List UInt8} (hne:s.isEmpty=false):0 < N7 s ↔ A4f (bAt s 0)=true:=by
 have hl:0 < s.length:=by cases s with | nil=>simp at hne | cons=>simp
 unfold N7
 rw [hne]
 cases h:A4f (bAt s 0) with
 | false=>simp
 | true =>
  simp only [Bool.not_false,Bool.and_self,cond_true,iff_true]
  exact D1p hl (by simp [pCl,F4z,h])
theorem D0c {s:List UInt8} (hne:s.isEmpty=false):0 < (Q9 s).1 ↔ A5d (bAt s 0)=true:=by
 have hl:0 < s.length:=by cases s with | nil=>simp at hne | cons=>simp
 obtain ⟨h1,h2,h3,h4⟩:=B0j s
 have e:0 < (Q9 s).1 ↔ 0 < H7 [2] s:=by omega
 rw [e]
 constructor
 ·intro h
  have:=A6f (p:=pCl [2] s) (k:=s.length) (n:=0) (m:=0) (Nat.le_refl _) h
  simpa [pCl,F1g] using this
 ·intro h
  exact D1p hl (by simp [pCl,F1g,h])
theorem A9s {s:List UInt8} (hs:D9 s=true) (n:Nat):D9 (s.take n)=true:=by
 have:=of_decide_eq_true hs
 exact dT (by rw [List.length_take]; omega)
theorem G5z (s:List UInt8) (hs:D9 s=true) (hne:s.isEmpty=false):∃ v',(C8 prog pE 60).call 48 [.sstr s] (Bg 8) I4=some v'/\below 0 v'=true/\∀ ι x,VR ι v' x->VR ι (F6x (R9 s)) x:=by
 have h:(C8 prog pE 60).call 48 [.sstr s] (Bg 8) I4 =
   brK (decide ((0:Int)<=0/\(0:Int) < (s.length:Int))) (brK (A0u (bAt s 0) == 1) (brK (D9 s) (brK (decide (0<=(N7 s:Int)/\(N7 s:Int)<=(s.length:Int)) && true) (brK (D9 (List.drop 0 (List.take (N7 s) s)))
     (some (.tuple [.int .i64 0,.sint .i64 (N7 s),.sint .i64 (C6m (List.drop 0 (List.take (N7 s) s)))])) none) none) none)
    (brK (A0u (bAt s 0) == 2) (brK (D9 s) (brK (decide (0<=((Q9 s).1:Int)/\((Q9 s).1:Int)<=(s.length:Int)) && true) (brK (D9 (List.drop 0 (List.take (Q9 s).1 s)))
     (some (.tuple [.int .i64 1,.sint .i64 (Q9 s).1,.sint .i64 (A0s (List.drop 0 (List.take (Q9 s).1 s)))])) none) none) none)
    (brK (A0u (bAt s 0) == 4) (some (.tuple [.int .i64 2,.int .i64 1,.int .i64 0])) (some (.tuple [.int .i64 0,.int .i64 0,.int .i64 4]))))) none:=by kernel_rfl
 have hl:0 < s.length:=by cases s with | nil=>simp at hne | cons=>simp
 have hw:=B8s s
 have hn:=(B0j s).2.1
 obtain ⟨b0,b1⟩:=C4d s 0
 rw [h,dT (show (0:Int)<=0/\(0:Int) < (s.length:Int) by omega),brT,hs,F4z,F1g,G9f b0 b1,List.drop_zero,List.drop_zero,A9s hs,A9s hs,
  dT (show 0<=(N7 s:Int)/\(N7 s:Int)<=(s.length:Int) by omega),dT (show 0<=((Q9 s).1:Int)/\((Q9 s).1:Int)<=(s.length:Int) by omega)]
 unfold R9
 cases A4f (bAt s 0) with
 | true=>exact ⟨_,rfl,rfl,fun ι=>W9 (J4 rfl) (fun _ h=>h) (fun _ h=>h)⟩
 | false=>cases A5d (bAt s 0) with
  | true=>exact ⟨_,rfl,rfl,fun ι=>W9 (J4 rfl) (fun _ h=>h) (fun _ h=>h)⟩
  | false=>cases A2g (bAt s 0) with
   | true=>exact ⟨_,rfl,rfl,fun ι=>W9 (J4 rfl) (J4 rfl) (J4 rfl)⟩
   | false=>exact ⟨_,rfl,rfl,fun ι=>W9 (J4 rfl) (J4 rfl) (J4 rfl)⟩
theorem G7p (s:List UInt8) (hs:D9 s=true) (hne:s.isEmpty=false):∃ v',(C8 prog pE 60).call 49 [.sstr s] (Bg 8) I4=some v'/\below 0 v'=true/\∀ ι x,VR ι v' x->VR ι (F6x (R9 s)) x:=by
 have h:(C8 prog pE 60).call 49 [.sstr s] (Bg 8) I4 =
   brK (D9 s) (brK (decide ((N7 s:Int) > 0)) (brK (decide (0<=(N7 s:Int)/\(N7 s:Int)<=(s.length:Int)) && true) (brK (D9 (List.drop 0 (List.take (N7 s) s)))
     (some (.tuple [.int .i64 0,.sint .i64 (N7 s),.sint .i64 (C6m (List.drop 0 (List.take (N7 s) s)))])) none) none)
    (brK (D9 s) (brK (decide (((Q9 s).1:Int) > 0)) (brK (decide (0<=((Q9 s).1:Int)/\((Q9 s).1:Int)<=(s.length:Int)) && true) (brK (D9 (List.drop 0 (List.take (Q9 s).1 s)))
     (some (.tuple [.int .i64 1,.sint .i64 (Q9 s).1,.sint .i64 (A0s (List.drop 0 (List.take (Q9 s).1 s)))])) none) none)
    (brK (decide ((0:Int)<=0/\(0:Int) < (s.length:Int))) (brK (A2g (bAt s 0)) (some (.tuple [.int .i64 2,.int .i64 1,.int .i64 0])) (some (.tuple [.int .i64 0,.int .i64 0,.int .i64 4]))) none)) none)) none:=by kernel_rfl
 have hl:0 < s.length:=by cases s with | nil=>simp at hne | cons=>simp
 have hw:=B8s s
 have hn:=(B0j s).2.1
 have e1:decide ((N7 s:Int) > 0)=A4f (bAt s 0):=by
  have:=C3a hne
  cases hc:A4f (bAt s 0) with
  | true=>exact dT (by rw [hc] at this; have:=this.2 rfl; omega)
  | false=>exact dF (by rw [hc] at this; simp at this; omega)
 have e2:decide (((Q9 s).1:Int) > 0)=A5d (bAt s 0):=by
  have:=D0c hne
  cases hc:A5d (bAt s 0) with
  | true=>exact dT (by rw [hc] at this; have:=this.2 rfl; omega)
  | false=>exact dF (by rw [hc] at this; simp at this; omega)
 rw [h,hs,e1,e2,dT (show (0:Int)<=0/\(0:Int) < (s.length:Int) by omega),List.drop_zero,List.drop_zero,A9s hs,A9s hs,
  dT (show 0<=(N7 s:Int)/\(N7 s:Int)<=(s.length:Int) by omega),dT (show 0<=((Q9 s).1:Int)/\((Q9 s).1:Int)<=(s.length:Int) by omega)]
 unfold R9
 cases A4f (bAt s 0) with
 | true=>exact ⟨_,rfl,rfl,fun ι=>W9 (J4 rfl) (fun _ h=>h) (fun _ h=>h)⟩
 | false=>cases A5d (bAt s 0) with
  | true=>exact ⟨_,rfl,rfl,fun ι=>W9 (J4 rfl) (fun _ h=>h) (fun _ h=>h)⟩
  | false=>cases A2g (bAt s 0) with
   | true=>exact ⟨_,rfl,rfl,fun ι=>W9 (J4 rfl) (J4 rfl) (J4 rfl)⟩
   | false=>exact ⟨_,rfl,rfl,fun ι=>W9 (J4 rfl) (J4 rfl) (J4 rfl)⟩
def F8f:List Lf->Tr AV
 | [.s s]=>.br (D9 s && !s.isEmpty) (.leaf (F6x (R9 s))) .fail
 | _=>.fail
def pT:Prims:=(pE.addt 48 (gP [.str] F8f)).addt 49 (gP [.str] F8f)
theorem D9g {A:Amb} (hT:Tab A) (hG:prog.globals.size<=A.G):PrimOK prog A pT:=by
 have h0:=F9n hT hG
 have key:∀ (f:FuncId),(∀ s,D9 s=true->s.isEmpty=false->∃ v',(C8 prog pE 60).call f [.sstr s] (Bg 8) I4=some v'/\below 0 v'=true/\∀ ι x,VR ι v' x->VR ι (F6x (R9 s)) x)->∀ ls v,(F8f ls).get=some v ->
   J8 0 (mkT [.str] ls).1=true/\∃ n v',(C8 prog pE n).call f (mkT [.str] ls).1 (Bg prog.globals.size) I4=some v'/\below 0 v'=true/\∀ ι x,VR ι v' x->VR ι v x:=by
  intro f hr ls v h
  unfold F8f at h
  split at h
  ·rename_i s
   obtain ⟨hs,hv⟩:=Tr.br1 h
   cases hv
   simp only [Bool.and_eq_true,Bool.not_eq_true'] at hs
   obtain ⟨v',q1,q2,q3⟩:=hr s hs.1 hs.2
   exact ⟨rfl,60,v',by rw [gsz]; exact q1,q2,q3⟩
  ·cases h
 exact PrimOK.addP D5 D6 h0 (PrimOK.addP D5 D6 h0 h0 hG func48 (by kernel_rfl) (key _ G5z)) hG func49 (by kernel_rfl) (key _ G7p)
theorem B7s (s:List UInt8) (hne:s.isEmpty=false):(R9 s).2.1<=s.length/\((R9 s).2.2=0->0 < (R9 s).2.1):=by
 have hl:0 < s.length:=by cases s with | nil=>simp at hne | cons=>simp
 have hw:=B8s s
 have hn:=(B0j s).2.1
 have p1:=C3a hne
 have p2:=D0c hne
 unfold R9
 cases h1:A4f (bAt s 0) with
 | true=>exact ⟨hw,fun _=>p1.2 h1⟩
 | false=>cases h2:A5d (bAt s 0) with
  | true=>exact ⟨hn,fun _=>p2.2 h2⟩
  | false=>cases A2g (bAt s 0) with
   | true=>exact ⟨hl,fun _=>Nat.one_pos⟩
   | false=>exact ⟨Nat.zero_le _,fun h=>by cases h⟩
end Go.Proofs.Tryz
namespace Go.Proofs.Tryz
open Go.Ad
def B5j (cs:List UInt8):Bool:=cs.all (fun b=>decide (b.toNat < 128)) && decide (cs.length<=1000)
def F9k:List AV->Tr AV
 | [.str s,.str cs]=>bif B5j cs && decide (s.length<=9223372036854775807) then .leaf (.str (Lib.trimS s cs)) else .fail
 | [x,.str cs]=>match sstr? x with
  | some s=>bif B5j cs then .br (decide (s.length<=9223372036854775807)) (.leaf (.sstr (Lib.trimS s cs))) .fail else .fail
  | none=>.fail
 | _=>.fail
def E7p:List AV->Tr AV
 | [.str s,.str [c]]=>.leaf (.int .i64 (Lib.indexByte s c))
 | [x,.str [c]]=>match sstr? x with
  | some s=>.leaf (.sint .i64 (Lib.indexByte s c))
  | none=>.fail
 | _=>.fail
def F9b:List AV->Tr AV
 | [.str s]=>match Lib.atoi s with
  | some n=>bif decide (s.length<=18) then .leaf (.tuple [.int .i64 n,.nilIface]) else .fail
  | none=>.fail
 | [x]=>match sstr? x with
  | some s=>.br (decide (s.length<=18) && (Lib.atoi s).isSome) (.leaf (.tuple [.sint .i64 ((Lib.atoi s).getD 0),.nilIface])) .fail
  | none=>.fail
 | _=>.fail
def lib2:Prims:=((lib.addt 31 F9k).addt 86 E7p).addt 145 F9b
theorem ascii_of_all {b:ByteArray} (h:b.data.toList.all (fun c=>decide (c.toNat < 128))=true):∀ (j:Nat) (c:UInt8),b.data.toList[j]?=some c->c.toNat < 128:=fun j c hc=>by
 have:=List.all_eq_true.1 h c (List.mem_of_getElem? hc)
 exact of_decide_eq_true this
theorem K5 {A:Amb} (hT:Tab A):PrimOK prog A lib2:=by
 refine PrimOK.libt (PrimOK.libt (PrimOK.libt (E7n hT) func31 (by kernel_rfl) ?_) func86 (by kernel_rfl) ?_) func145 (by kernel_rfl) ?_
 ·intro args v hg ι w xs _ _ hx
  have key:∀ (b1 b2:ByteArray),B5j b2.data.toList=true->b1.data.toList.length<=9223372036854775807->xs=#[.string b1,.string b2] ->
    Calls prog 31 xs w fun e w'=>∃ v',e=.returned v'/\(∃ b:ByteArray,b.data.toList=Lib.trimS b1.data.toList b2.data.toList/\v'=.string b)/\Quiet w w':=fun b1 b2 h1 h2 e1=>by
   subst e1
   simp only [B5j,Bool.and_eq_true,decide_eq_true_eq] at h1
   have hl1:b1.data.toList.length=b1.size:=by simp
   have hl2:b2.data.toList.length=b2.size:=by simp
   refine (Any.strings_Trim_laid Tryz.lays160 (by kernel_rfl) b1 b2 w (by omega) (by omega) (ascii_of_all h1.1)).mono fun e w' ⟨h1,h2⟩=>?_
   subst h1
   exact ⟨_,rfl,⟨_,by simp,rfl⟩,⟨h2.size,h2.block,h2.tape,h2.os,h2.output⟩⟩
  unfold F9k at hg
  split at hg
  ·rename_i s cs
   cases hb:(B5j cs && decide (s.length<=9223372036854775807)) with
   | false=>rw [hb] at hg; cases hg
   | true =>
    rw [hb] at hg
    cases hg
    simp only [Bool.and_eq_true,decide_eq_true_eq] at hb
    simp only [VRL,VR] at hx
    obtain ⟨_,_,hxs,⟨b1,rfl,rfl⟩,_,_,rfl,⟨b2,rfl,rfl⟩,rfl⟩:=hx
    exact (key b1 b2 hb.1 hb.2 (D0n hxs)).mono fun e w' ⟨v',q1,q2,q3⟩=>⟨v',q1,by simp only [VR]; exact q2,q3⟩
  ·rename_i x cs _
   split at hg
   ·rename_i s hs
    cases hb:B5j cs with
    | false=>rw [hb] at hg; cases hg
    | true =>
     rw [hb] at hg
     obtain ⟨h1,h2⟩:=Tr.br_get0 hg
     cases h2
     rw [decide_eq_true_eq] at h1
     simp only [VRL] at hx
     obtain ⟨_,_,hxs,q1,_,_,rfl,q2,rfl⟩:=hx
     obtain ⟨b1,rfl,rfl⟩:=M7 hs q1
     simp only [VR] at q2
     obtain ⟨b2,rfl,rfl⟩:=q2
     exact (key b1 b2 hb h1 (D0n hxs)).mono fun e w' ⟨v',q1,q2,q3⟩=>⟨v',q1,by simp only [VR]; exact q2,q3⟩
   ·cases hg
  ·cases hg
 ·intro args v hg ι w xs _ _ hx
  have key:∀ (b1 b2:ByteArray) (c:UInt8),b2.data.toList=[c]->xs=#[.string b1,.string b2] ->
    Calls prog 86 xs w fun e w'=>∃ v',e=.returned v'/\v'=.int .i64 (Lib.indexByte b1.data.toList c)/\Quiet w w':=fun b1 b2 c hc e1=>by
   subst e1
   obtain ⟨⟨l2⟩⟩:=b2
   simp only at hc
   subst hc
   refine (Tryz.strings_Index_one b1 c w).mono fun e w' ⟨h1,h2⟩=>?_
   subst h1 h2
   exact ⟨_,rfl,rfl,Quiet.refl _⟩
  unfold E7p at hg
  split at hg
  ·rename_i s c
   cases hg
   simp only [VRL,VR] at hx
   obtain ⟨_,_,hxs,⟨b1,rfl,rfl⟩,_,_,rfl,⟨b2,h2,rfl⟩,rfl⟩:=hx
   exact (key b1 b2 c h2 (D0n hxs)).mono fun e w' ⟨v',q1,q2,q3⟩=>⟨v',q1,by simp only [VR]; exact q2,q3⟩
  ·rename_i x c _
   split at hg
   ·rename_i s hs
    cases hg
    simp only [VRL] at hx
    obtain ⟨_,_,hxs,q1,_,_,rfl,q2,rfl⟩:=hx
    obtain ⟨b1,rfl,rfl⟩:=M7 hs q1
    simp only [VR] at q2
    obtain ⟨b2,h2,rfl⟩:=q2
    exact (key b1 b2 c h2 (D0n hxs)).mono fun e w' ⟨v',q1,q2,q3⟩=>⟨v',q1,by simp only [VR]; exact q2,q3⟩
   ·cases hg
  ·cases hg
 ·intro args v hg ι w xs _ _ hx
  have key:∀ (b1:ByteArray) (n:Int),b1.data.toList.length<=18->Lib.atoi b1.data.toList=some n->xs=#[.string b1] ->
    Calls prog 145 xs w fun e w'=>∃ v',e=.returned v'/\v'=.tuple #[.int .i64 n,.nilIface]/\Quiet w w':=fun b1 n h1 h2 e1=>by
   subst e1
   have hl1:b1.data.toList.length=b1.size:=by simp
   refine (Tryz.strconv_Atoi b1 n (by omega) h2 w).mono fun e w' ⟨h1',t,h2'⟩=>?_
   subst h1' h2'
   have hb:=Go.Joins.below_bytesWorld w.heap.size w 5 t (Nat.le_refl _)
   exact ⟨_,rfl,rfl,⟨hb.size,hb.block,hb.tape,hb.os,hb.output⟩⟩
  unfold F9b at hg
  split at hg
  ·rename_i s
   split at hg
   ·rename_i n hn
    cases hb:decide (s.length<=18) with
    | false=>rw [hb] at hg; cases hg
    | true =>
     rw [hb] at hg
     cases hg
     simp only [VRL,VR] at hx
     obtain ⟨_,_,hxs,⟨b1,rfl,rfl⟩,rfl⟩:=hx
     refine (key b1 n (of_decide_eq_true hb) hn (F7r hxs)).mono fun e w' ⟨v',q1,q2,q3⟩=>⟨v',q1,?_,q3⟩
     subst q2
     simp only [VR,VRL]
     exact ⟨_,rfl,_,_,rfl,rfl,_,_,rfl,rfl,rfl⟩
   ·cases hg
  ·rename_i x _
   split at hg
   ·rename_i s hs
    obtain ⟨h1,h2⟩:=Tr.br_get0 hg
    cases h2
    simp only [Bool.and_eq_true,decide_eq_true_eq] at h1
    simp only [VRL] at hx
    obtain ⟨_,_,hxs,q1,rfl⟩:=hx
    obtain ⟨b1,rfl,rfl⟩:=M7 hs q1
    obtain ⟨n,hn⟩:=Option.isSome_iff_exists.1 h1.2
    refine (key b1 n h1.1 hn (F7r hxs)).mono fun e w' ⟨v',q1,q2,q3⟩=>⟨v',q1,?_,q3⟩
    subst q2
    rw [hn]
    simp only [VR,VRL]
    exact ⟨_,rfl,_,_,rfl,rfl,_,_,rfl,rfl,rfl⟩
   ·cases hg
  ·cases hg
end Go.Proofs.Tryz
