/- The lexer's program: what the library's functions give, as known functions of the evaluator. -/
import Derived.Test.YtfjgehlpjppggaaGreatDoorAdPrim
import Derived.Test.YtfjgehlpjppggaaGreatDoorAdPat
import Derived.Test.YtfjgehlpjppggaaGreatDoorShelf
import Derived.Lib.LaidTab
import Derived.Lib.ItoaNum
import Derived.KernelRfl
import Derived.Lib.SmallJoins
namespace Go.Proofs.Tryz
open Go.Ad
theorem hmix:prog.follows .mixedOrders=true:=by kernel_rfl
theorem hnum:NoNum prog:=by
 have h:(prog.funcs.all fun fn=>decide (fn.name ≠ "runtime.NumGoroutine"))=true:=by kernel_rfl
 intro f fn hf
 exact of_decide_eq_true (Array.all_eq_true_iff_forall_mem.1 h fn (Array.mem_of_getElem? hf))
theorem started:decide (prog.globals.size < (begin prog (fun _ _=>0) default).world.heap.size)=true:=by kernel_rfl
theorem gsz:prog.globals.size=8:=by kernel_rfl
def byteOf (c:Int):UInt8:=c.toNat.toUInt8
def gIndexByte:List AV→Tr AV
 | [.str s,.int .u8 c]=>.leaf (.int .i64 (Lib.indexByte s (byteOf c)))
 | [x,y]=>match sstr? x,snum y with
  | some s,some (.u8,c)=>.leaf (.sint .i64 (Lib.indexByte s (byteOf c)))
  | _,_=>.fail
 | _=>.fail
def gCompare:List AV→Option AV
 | [.str a,.str b]=>some (.int .i64 (Lib.compareBytes a b))
 | [x,y]=>match sstr? x,sstr? y with
  | some a,some b=>some (.sint .i64 (Lib.compareBytes a b))
  | _,_=>none
 | _=>none
def gItoa:List AV→Tr AV
 | [.int .i64 n]=>if decide (-9223372036854775808≤n) && decide (n≤9223372036854775807) then .leaf (.str (Lib.itoa n)) else .fail
 | [x]=>match snum x with
  | some (.i64,n)=>.br (decide (-9223372036854775808≤n∧n≤9223372036854775807)) (.leaf (.sstr (Lib.itoa n))) .fail
  | _=>.fail
 | _=>.fail
def Tab (A:Amb):Prop:=∀ w:World,(∀ c,c < A.G→w.heap[c]?=A.base c)→Lib.TabIs prog w "internal/strconv.uint64pow10" .u64 Lib.pow10Tab
theorem tab_of {W:World} (hG:prog.globals.size≤W.heap.size) (h:Lib.TabIs prog W "internal/strconv.uint64pow10" .u64 Lib.pow10Tab):Tab (ambOf W):=fun w hw=>by
 have hg:prog.globalNamed "internal/strconv.uint64pow10"=some 5:=by kernel_rfl
 have h6:5 < W.heap.size:=Nat.lt_of_lt_of_le (by rw [gsz]; omega) hG
 unfold Lib.TabIs World.var? at h ⊢
 rw [hg] at h ⊢
 simp only [Option.bind_some] at h ⊢
 rw [hw 5 h6]; exact h
theorem laidVars_tail {P:Program} {W:World} {x:String × DataW Unit} {r:List (String × DataW Unit)} (h:laidMet P (x :: r) W):laidMet P r W:=by
 obtain ⟨ps,⟨g,t,cs,fuel,p,q,h1,h2,h3,h4,h5,rfl⟩,hn,hc⟩:=h
 exact ⟨q,h5,(List.nodup_append.1 hn).2.1,fun b off hm=>hc b off (List.mem_append_right _ hm)⟩
theorem grow_quiet (w:World) (k:Nat) (os:Array Obj):Quiet w (Go.Sort.grow (w.drewN k) os) :=
 ⟨by simp [Go.Sort.grow,World.drewN],fun c hc=>by simp [Go.Sort.grow,World.drewN,Array.getElem?_append,hc],rfl,rfl,rfl⟩
def lib:Prims:=(((noPrims.addt 133 gIndexByte).add 180 gCompare).addt 186 gItoa).addx 134 gSame
theorem arr1 {xs:Array Value} {a:Value} (h:xs.toList=[a]):xs=#[a]:=by apply Array.ext'; simpa using h
theorem arr2 {xs:Array Value} {a b:Value} (h:xs.toList=[a,b]):xs=#[a,b]:=by apply Array.ext'; simpa using h
theorem lib_ok {A:Amb} (hT:Tab A):PrimOK prog A lib:=by
 refine PrimOK.noEscape (fn:=f134) (PrimOK.libt (PrimOK.lib (PrimOK.libt PrimOK.none func133 (by kernel_rfl) ?_) func180 (by kernel_rfl) ?_) func186 (by kernel_rfl) ?_) func134 (by kernel_rfl) (by kernel_rfl) (by rfl) (by rfl)
 ·intro args v hg ι w xs _ _ hx
  have key:∀ (b1:ByteArray) (c:Int),xs=#[.string b1,.int .u8 c]→Calls prog 133 xs w fun e w'=>∃ v',e=.returned v'∧v'=.int .i64 (Lib.indexByte b1.data.toList (byteOf c))∧Quiet w w':=fun b1 c e1=>by
   subst e1
   refine (stringslite_IndexByte b1 c w).mono fun e w' ⟨h1,h2⟩=>?_
   subst h1 h2
   exact ⟨_,rfl,rfl,Quiet.refl _⟩
  unfold gIndexByte at hg
  split at hg
  ·rename_i s c
   cases hg
   simp only [VRL,VR] at hx
   obtain ⟨_,_,hxs,⟨b1,rfl,rfl⟩,_,_,rfl,rfl,rfl⟩:=hx
   exact (key b1 c (arr2 hxs)).mono fun e w' ⟨v',q1,q2,q3⟩=>⟨v',q1,by simp only [VR]; exact q2,q3⟩
  ·rename_i x y _
   split at hg
   ·rename_i s c hs hc
    cases hg
    simp only [VRL] at hx
    obtain ⟨_,_,hxs,h1,_,_,rfl,h2,rfl⟩:=hx
    obtain ⟨b1,rfl,rfl⟩:=sstr_VR hs h1
    have h2:=snum_VR hc h2
    subst h2
    exact (key b1 c (arr2 hxs)).mono fun e w' ⟨v',q1,q2,q3⟩=>⟨v',q1,by simp only [VR]; exact q2,q3⟩
   ·cases hg
  ·cases hg
 ·intro args v hg ι w xs _ _ hx
  have key:∀ (b1 b2:ByteArray),xs=#[.string b1,.string b2]→Calls prog 180 xs w fun e w'=>∃ v',e=.returned v'∧v'=.int .i64 (Lib.compareBytes b1.data.toList b2.data.toList)∧Quiet w w':=fun b1 b2 e1=>by
   subst e1
   refine (strings_Compare b1 b2 w).mono fun e w' ⟨h1,h2⟩=>?_
   subst h1 h2
   exact ⟨_,rfl,rfl,Quiet.refl _⟩
  unfold gCompare at hg
  split at hg
  ·rename_i s c
   cases hg
   simp only [VRL,VR] at hx
   obtain ⟨_,_,hxs,⟨b1,rfl,rfl⟩,_,_,rfl,⟨b2,rfl,rfl⟩,rfl⟩:=hx
   exact (key b1 b2 (arr2 hxs)).mono fun e w' ⟨v',q1,q2,q3⟩=>⟨v',q1,by simp only [VR]; exact q2,q3⟩
  ·rename_i x y _
   split at hg
   ·rename_i s c hs hc
    cases hg
    simp only [VRL] at hx
    obtain ⟨_,_,hxs,h1,_,_,rfl,h2,rfl⟩:=hx
    obtain ⟨b1,rfl,rfl⟩:=sstr_VR hs h1
    obtain ⟨b2,rfl,rfl⟩:=sstr_VR hc h2
    exact (key b1 b2 (arr2 hxs)).mono fun e w' ⟨v',q1,q2,q3⟩=>⟨v',q1,by simp only [VR]; exact q2,q3⟩
   ·cases hg
  ·cases hg
 ·intro args v hg ι w xs hamb _ hx
  have key:∀ n:Int,-9223372036854775808≤n→n≤9223372036854775807→xs=#[.int .i64 n]→Calls prog 186 xs w fun e w'=>∃ v',e=.returned v'∧(∃ b:ByteArray,b.data.toList=Lib.itoa n∧v'=.string b)∧Quiet w w':=fun n h0 h1 e1=>by
   subst e1
   refine (internal_strconv_Itoa n h0 h1 w (hT w hamb)).mono fun e w' ⟨h1,k,os,h2⟩=>?_
   subst h1 h2
   exact ⟨_,rfl,⟨_,rfl,rfl⟩,grow_quiet _ _ _⟩
  unfold gItoa at hg
  split at hg
  ·rename_i n
   split at hg
   ·rename_i hc
    cases hg
    simp only [Bool.and_eq_true,decide_eq_true_eq] at hc
    simp only [VRL,VR] at hx
    obtain ⟨_,_,hxs,rfl,rfl⟩:=hx
    exact (key n hc.1 hc.2 (arr1 hxs)).mono fun e w' ⟨v',q1,q2,q3⟩=>⟨v',q1,by simp only [VR]; exact q2,q3⟩
   ·cases hg
  ·rename_i x _
   split at hg
   ·rename_i n hn
    obtain ⟨hc,hv⟩:=Tr.br_get0 hg
    cases hv
    have hc:=of_decide_eq_true hc
    simp only [VRL] at hx
    obtain ⟨_,_,hxs,h1,rfl⟩:=hx
    have h1:=snum_VR hn h1
    subst h1
    exact (key n hc.1 hc.2 (arr1 hxs)).mono fun e w' ⟨v',q1,q2,q3⟩=>⟨v',q1,by simp only [VR]; exact q2,q3⟩
   ·cases hg
  ·cases hg
end Go.Proofs.Tryz
namespace Go.Proofs.Tryz
open Go.Ad
theorem brK_ite {β:Type} {b:Bool} {t f:Option β}:brK b t f=if b=true then t else f:=by cases b <;> rfl
def sgnIx (c:Int):Int:=Lib.indexByte [44,59,58,40,41,91,93,61,43,45,42,47,60,62,124,35] (byteOf c)
def tClass (c:Int):Option AV:=brK (decide (c ≥ 97)) (brK (decide (c≤122)) (some (.int .i64 1)) (brK (decide (c ≥ 65)) (brK (decide (c≤90)) (some (.int .i64 1)) (brK (decide (c ≥ 48)) (brK (decide (c≤57)) (some (.int .i64 2)) (brK (c == 95) (some (.int .i64 3)) (brK (c == 32) (some (.int .i64 5)) (brK (decide (sgnIx c ≥ 0)) (some (.int .i64 4)) (some (.int .i64 0)))))) (brK (c == 95) (some (.int .i64 3)) (brK (c == 32) (some (.int .i64 5)) (brK (decide (sgnIx c ≥ 0)) (some (.int .i64 4)) (some (.int .i64 0))))))) (brK (decide (c ≥ 48)) (brK (decide (c≤57)) (some (.int .i64 2)) (brK (c == 95) (some (.int .i64 3)) (brK (c == 32) (some (.int .i64 5)) (brK (decide (sgnIx c ≥ 0)) (some (.int .i64 4)) (some (.int .i64 0)))))) (brK (c == 95) (some (.int .i64 3)) (brK (c == 32) (some (.int .i64 5)) (brK (decide (sgnIx c ≥ 0)) (some (.int .i64 4)) (some (.int .i64 0)))))))) (brK (decide (c ≥ 65)) (brK (decide (c≤90)) (some (.int .i64 1)) (brK (decide (c ≥ 48)) (brK (decide (c≤57)) (some (.int .i64 2)) (brK (c == 95) (some (.int .i64 3)) (brK (c == 32) (some (.int .i64 5)) (brK (decide (sgnIx c ≥ 0)) (some (.int .i64 4)) (some (.int .i64 0)))))) (brK (c == 95) (some (.int .i64 3)) (brK (c == 32) (some (.int .i64 5)) (brK (decide (sgnIx c ≥ 0)) (some (.int .i64 4)) (some (.int .i64 0))))))) (brK (decide (c ≥ 48)) (brK (decide (c≤57)) (some (.int .i64 2)) (brK (c == 95) (some (.int .i64 3)) (brK (c == 32) (some (.int .i64 5)) (brK (decide (sgnIx c ≥ 0)) (some (.int .i64 4)) (some (.int .i64 0)))))) (brK (c == 95) (some (.int .i64 3)) (brK (c == 32) (some (.int .i64 5)) (brK (decide (sgnIx c ≥ 0)) (some (.int .i64 4)) (some (.int .i64 0)))))))
theorem runClass (c:Int):(runK prog lib 60).call 47 [.rng .u8 c 0 255] (Bg 8) finV=tClass c:=by kernel_rfl
def tLetter (c:Int):Option AV:=brK (decide (c ≥ 97)) (brK (decide (c≤122)) (some (.bool true)) (brK (decide (c ≥ 65)) (some (.sbool (decide (c≤90)))) (some (.bool false)))) (brK (decide (c ≥ 65)) (some (.sbool (decide (c≤90)))) (some (.bool false)))
theorem runLetter (c:Int):(runK prog lib 60).call 90 [.rng .u8 c 0 255] (Bg 8) finV=tLetter c:=by kernel_rfl
def tDigit (c:Int):Option AV:=brK (decide (c ≥ 48)) (some (.sbool (decide (c≤57)))) (some (.bool false))
theorem runDigit (c:Int):(runK prog lib 60).call 91 [.rng .u8 c 0 255] (Bg 8) finV=tDigit c:=by kernel_rfl
def tMark (c:Int):Option AV:=brK (44 == c) (some (.bool true)) (brK (59 == c) (some (.bool true)) (brK (58 == c) (some (.bool true)) (brK (40 == c) (some (.bool true)) (brK (41 == c) (some (.bool true)) (brK (91 == c) (some (.bool true)) (brK (93 == c) (some (.bool true)) (brK (61 == c) (some (.bool true)) (brK (43 == c) (some (.bool true)) (brK (45 == c) (some (.bool true)) (brK (42 == c) (some (.bool true)) (brK (47 == c) (some (.bool true)) (brK (60 == c) (some (.bool true)) (brK (62 == c) (some (.bool true)) (brK (124 == c) (some (.bool true)) (brK (35 == c) (some (.bool true)) (some (.bool false)))))))))))))))))
theorem runMark (c:Int):(runK prog lib 60).call 84 [.rng .u8 c 0 255] (Bg 8) finV=tMark c:=by kernel_rfl
def clsI (c:Int):Int:=if (97≤c∧c≤122) ∨ (65≤c∧c≤90) then 1 else if 48≤c∧c≤57 then 2 else if c=95 then 3 else if c=32 then 5 else if 0≤sgnIx c then 4 else 0
def letB (c:Int):Bool:=decide ((97≤c∧c≤122) ∨ (65≤c∧c≤90))
def digB (c:Int):Bool:=decide (48≤c∧c≤57)
def markB (c:Int):Bool:=[44,59,58,40,41,91,93,61,43,45,42,47,60,62,124,35].any fun k=>k == c
theorem vr_int {ι:Emb} {k:IntKind} {n m:Int} (e:n=m) (x:Value) (h:VR ι (.int k n) x):VR ι (.sint k m) x:=by subst e; simpa only [VR] using h
theorem vr_bool {ι:Emb} {n m:Bool} (e:n=m) (x:Value) (h:VR ι (.bool n) x):VR ι (.sbool m) x:=by subst e; simpa only [VR] using h
theorem vr_sbool {ι:Emb} {n m:Bool} (e:n=m) (x:Value) (h:VR ι (.sbool n) x):VR ι (.sbool m) x:=by subst e; exact h
theorem class_val (c:Int):∃ k,tClass c=some (.int .i64 k)∧k=clsI c:=by
 unfold tClass clsI
 generalize sgnIx c=x
 simp only [brK_ite,decide_eq_true_eq,beq_iff_eq]
 repeat' split
 all_goals first | exact ⟨_,rfl,rfl⟩ | omega
theorem letter_val (c:Int):(tLetter c=some (.bool (letB c))) ∨ (tLetter c=some (.sbool (letB c))):=by
 unfold tLetter letB
 simp only [brK_ite,decide_eq_true_eq]
 repeat' split
 all_goals first
  | (left; congr 2; symm; rw [decide_eq_true_eq]; omega)
  | (left; congr 2; symm; rw [decide_eq_false_iff_not]; omega)
  | (right; congr 2; rw [decide_eq_decide]; omega)
theorem digit_val (c:Int):(tDigit c=some (.bool (digB c))) ∨ (tDigit c=some (.sbool (digB c))):=by
 unfold tDigit digB
 simp only [brK_ite,decide_eq_true_eq]
 repeat' split
 all_goals first
  | (left; congr 2; symm; rw [decide_eq_false_iff_not]; omega)
  | (right; congr 2; rw [decide_eq_decide]; omega)
theorem brK_tt (b x:Bool):brK b (some (AV.bool true)) (some (AV.bool x))=some (AV.bool (b || x)):=by cases b <;> rfl
theorem mark_val (c:Int):tMark c=some (.bool (markB c)):=by
 simp only [tMark,brK_tt]
 rfl
def pB0:Prims:=lib.addt 47 (gP [.rng .u8 0 255] fun | [.i c]=>.leaf (.sint .i64 (clsI c)) | _=>.fail)
def pB1:Prims:=pB0.addt 90 (gP [.rng .u8 0 255] fun | [.i c]=>.leaf (.sbool (letB c)) | _=>.fail)
def pB2:Prims:=pB1.addt 91 (gP [.rng .u8 0 255] fun | [.i c]=>.leaf (.sbool (digB c)) | _=>.fail)
def pB:Prims:=pB2.addt 84 (gP [.rng .u8 0 255] fun | [.i c]=>.leaf (.sbool (markB c)) | _=>.fail)
theorem pB_ok {A:Amb} (hT:Tab A) (hG:prog.globals.size≤A.G):PrimOK prog A pB:=by
 have h0:=lib_ok hT
 refine PrimOK.addP hmix hnum h0 (PrimOK.addP hmix hnum h0 (PrimOK.addP hmix hnum h0 (PrimOK.addP hmix hnum h0 h0 hG func47 (by kernel_rfl) ?_) hG func90 (by kernel_rfl) ?_) hG func91 (by kernel_rfl) ?_) hG func84 (by kernel_rfl) ?_
 ·intro ls v h
  split at h
  ·rename_i c
   cases h
   obtain ⟨k,h1,h2⟩:=class_val c
   exact ⟨rfl,60,_,by rw [gsz]; exact (runClass c).trans h1,rfl,fun ι x=>vr_int h2 x⟩
  ·cases h
 ·intro ls v h
  split at h
  ·rename_i c
   cases h
   rcases letter_val c with h1 | h1
   ·exact ⟨rfl,60,_,by rw [gsz]; exact (runLetter c).trans h1,rfl,fun ι x=>vr_bool rfl x⟩
   ·exact ⟨rfl,60,_,by rw [gsz]; exact (runLetter c).trans h1,rfl,fun ι x=>vr_sbool rfl x⟩
  ·cases h
 ·intro ls v h
  split at h
  ·rename_i c
   cases h
   rcases digit_val c with h1 | h1
   ·exact ⟨rfl,60,_,by rw [gsz]; exact (runDigit c).trans h1,rfl,fun ι x=>vr_bool rfl x⟩
   ·exact ⟨rfl,60,_,by rw [gsz]; exact (runDigit c).trans h1,rfl,fun ι x=>vr_sbool rfl x⟩
  ·cases h
 ·intro ls v h
  split at h
  ·rename_i c
   cases h
   exact ⟨rfl,60,_,by rw [gsz]; exact (runMark c).trans (mark_val c),rfl,fun ι x=>vr_bool rfl x⟩
  ·cases h
end Go.Proofs.Tryz
namespace Go.Proofs.Tryz
open Go.Ad
def dr (n:Nat):List Pt:=List.replicate n .drop
def dd8:List OP:=List.replicate 8 .dead
abbrev W (n:Int):Int:=IntKind.i64.wrap n
def szOK (s:List UInt8):Bool:=decide (s.length < 2 ^ 62)
noncomputable def code43:Code:=f43.body.getD .skip
noncomputable def code46:Code:=f46.body.getD .skip
noncomputable def code162:Code:=f162.body.getD .skip
noncomputable def body43:Code:=unLoop (findB 0 code43)
noncomputable def body46:Code:=unLoop (findB 0 code46)
noncomputable def body162:Code:=unLoop (findB 0 code162)
def spW:SP:=⟨[.str,.drop,.drop,.int .i64]++dr 29,dd8⟩
abbrev bI (s:List UInt8) (i:Int):Int:=((s.getD i.toNat 0).toNat:Int)
theorem round43 (s:List UInt8) (i:Int):execK prog (runK prog pB 60) noBps body43 (spW.rho [.s s,.i i]) (spW.heap [.s s,.i i]) (nrmP (fun _=>spW) 8 []) =
  brK (decide (i < (s.length:Int))) (brK (decide (0≤i∧i < (s.length:Int))) (brK (letB (bI s i)) (some (.normal,[.s s,.i (W (i+1))]))
   (brK (decide (i > 0)) (brK (decide (0≤i∧i < (s.length:Int))) (brK (digB (bI s i)) (some (.normal,[.s s,.i (W (i+1))]))
    (brK (decide (0≤i∧i < (s.length:Int))) (brK (bI s i == 95) (some (.normal,[.s s,.i (W (i+1))])) (some (.exit 0,[.s s,.i i]))) none)) none)
    (some (.exit 0,[.s s,.i i])))) none) (some (.exit 0,[.s s,.i i])):=by kernel_rfl
def pWd (s:List UInt8) (n:Nat):Bool:=letB (bAt s n) || (decide (0 < n) && (digB (bAt s n) || bAt s n == 95))
def wordlyN (s:List UInt8):Nat:=scanN (pWd s) s.length 0
theorem step43 (s:List UInt8) (n:Nat) (hs:s.length < 2 ^ 62) (hn:n≤s.length):execK prog (runK prog pB 60) noBps body43 (spW.rho [.s s,.i n]) (spW.heap [.s s,.i n]) (nrmP (fun _=>spW) 8 []) =
  if n < s.length∧pWd s n=true then some (.normal,[.s s,.i ((n+1:Nat):Int)]) else some (.exit 0,[.s s,.i n]):=by
 rw [round43]
 have e1:W ((n:Int)+1)=((n+1:Nat):Int):=by rw [W,wrap64 (by omega) (by omega)]; omega
 have e2:bI s (n:Int)=bAt s n:=by simp [bI,bAt]
 rw [e1,e2]
 unfold pWd
 by_cases h:n < s.length
 ·have h1:decide ((n:Int) < (s.length:Int))=true:=decide_eq_true (by omega)
  have h2:decide (0≤(n:Int)∧(n:Int) < (s.length:Int))=true:=decide_eq_true (by omega)
  rw [h1,h2]
  cases letB (bAt s n) <;> cases digB (bAt s n) <;> cases (bAt s n == 95) <;> by_cases h0:0 < n <;> simp [brK,h,h0]
 ·have h1:decide ((n:Int) < (s.length:Int))=false:=decide_eq_false (by omega)
  rw [h1]
  simp [brK,h]
def hook43:Blk:=hookP spW 8 [] fun
 | [.s s,.i i]=>.br (decide (i=0) && szOK s) (.leaf (.normal,spW,[.s s,.i (wordlyN s)])) .fail
 | _=>.fail
def pW43:Prims:=pB.addb 43 0 hook43
section
variable {A:Amb} (hT:Tab A) (hG:prog.globals.size≤A.G)
include hT hG
theorem pW43_ok:PrimOK prog A pW43:=by
 refine PrimOK.addbP (pB_ok hT hG) func43 (show f43.body=some code43 by kernel_rfl) (body:=.loop body43) (by kernel_rfl) (by kernel_rfl) fun ls e sq l h=>?_
 split at h
 ·rename_i s i
  obtain ⟨hc,hv⟩:=Tr.br1 h
  cases hv
  simp only [Bool.and_eq_true,decide_eq_true_eq,szOK] at hc
  obtain ⟨rfl,hs⟩:=hc
  refine ⟨by simp [frP,spW,SP.heap,mkH,dd8,dr,mkT,OP.mk,List.replicate],fun Bb hB=>SEB.block_exit (id:=0) ?_⟩
  have key:=SEB.scan (A:=A) (B0:=Bb) (c:=body43) (S:=fun n=>⟨spW.rho [.s s,.i n],spW.heap [.s s,.i n],[]⟩) (E:=fun n=>⟨spW.rho [.s s,.i n],spW.heap [.s s,.i n],[]⟩) (e:=fun _=>.exit 0) (p:=pWd s) (N:=s.length)
   (fun _=>by simp) (fun n hn hp=>SEB.of_KP (e:=.normal) hmix hnum (pB_ok hT hG) (.none _) hB (by rw [step43 s n hs (by omega),if_pos ⟨hn,hp⟩]) rfl)
   (fun n hn hp=>SEB.of_KP (e:=.exit 0) hmix hnum (pB_ok hT hG) (.none _) hB (by rw [step43 s n hs hn,if_neg (fun h=>by rw [hp h.1] at h; exact absurd h.2 (by simp))]) rfl) 0 (Nat.zero_le _)
  exact key
 ·cases h
end
def spD:SP:=⟨[.str,.int .i64,.drop,.drop,.drop,.int .i64]++dr 17,dd8⟩
theorem round46 (s:List UInt8) (a i:Int):execK prog (runK prog pB 60) noBps body46 (spD.rho [.s s,.i a,.i i]) (spD.heap [.s s,.i a,.i i]) (nrmP (fun _=>spD) 8 []) =
  brK (decide (W (a+i) < (s.length:Int))) (brK (decide (0≤W (a+i)∧W (a+i) < (s.length:Int))) (brK (digB (bI s (W (a+i)))) (some (.normal,[.s s,.i a,.i (W (i+1))]))
   (some (.exit 0,[.s s,.i a,.i i]))) none) (some (.exit 0,[.s s,.i a,.i i])):=by kernel_rfl
def pDg (s:List UInt8) (a n:Nat):Bool:=digB (bAt s (a+n))
def digitsN (s:List UInt8) (a:Nat):Nat:=scanN (pDg s a) (s.length - a) 0
theorem step46 (s:List UInt8) (a n:Nat) (hs:s.length < 2 ^ 62) (ha:a≤s.length) (hn:n≤s.length - a):execK prog (runK prog pB 60) noBps body46 (spD.rho [.s s,.i a,.i n]) (spD.heap [.s s,.i a,.i n]) (nrmP (fun _=>spD) 8 []) =
  if n < s.length - a∧pDg s a n=true then some (.normal,[.s s,.i a,.i ((n+1:Nat):Int)]) else some (.exit 0,[.s s,.i a,.i n]):=by
 rw [round46]
 have e1:W ((n:Int)+1)=((n+1:Nat):Int):=by rw [W,wrap64 (by omega) (by omega)]; omega
 have e0:W ((a:Int)+n)=((a+n:Nat):Int):=by rw [W,wrap64 (by omega) (by omega)]; omega
 rw [e1,e0]
 have e2:bI s ((a+n:Nat):Int)=bAt s (a+n):=by simp only [bI,bAt,Int.toNat_natCast]
 rw [e2]
 unfold pDg
 by_cases h:n < s.length - a
 ·have h1:decide (((a+n:Nat):Int) < (s.length:Int))=true:=decide_eq_true (by omega)
  have h2:decide (0≤((a+n:Nat):Int)∧((a+n:Nat):Int) < (s.length:Int))=true:=decide_eq_true (by omega)
  rw [h1,h2]
  cases digB (bAt s (a+n)) <;> simp [brK,h]
 ·have h1:decide (((a+n:Nat):Int) < (s.length:Int))=false:=decide_eq_false (by omega)
  rw [h1]
  simp [brK,h]
def hook46:Blk:=hookP spD 8 [] fun
 | [.s s,.i a,.i i]=>.br (decide (i=0∧0≤a∧a≤(s.length:Int)) && szOK s) (.leaf (.normal,spD,[.s s,.i a,.i (digitsN s a.toNat)])) .fail
 | _=>.fail
def pW46:Prims:=pB.addb 46 0 hook46
def h162 (cs:List Int):List OP:=dd8++[.cells (cs.map fun c=>.is (.int .i64 c)) 1 true 3,.cells [.int .i64] 0 true 3,.cells [.str] 0 true 9,.cells [.is (.slice (some (8,0)) cs.length cs.length)] 0 true 159,.any]
def sp162 (cs:List Int):SP:=⟨[.is (.func (.yield 12) [] []),.is (.ptr (some (10,0))),.is (.ptr (some (11,0))),.drop,.drop,.str,.int .i64,.int .i64]++dr 18,h162 cs⟩
def sp162r (cs:List Int):SP:=⟨dr 26,h162 cs⟩
def leaf162 (s:List UInt8) (i:Int) (lo:AObj):List Lf:=[.s s,.i s.length,.i i,.i i,.s s,.o lo]
noncomputable def lp162 (cs:List Int) (s:List UInt8):AObj :=
 match f89.body with
 | some (.seq _ (.seq _ (.seq (.seq _ (.block _ (.rangeFunc _ ps a b))) _)))=>.loop ⟨.ready,none,[.sstr s,.slice (some (8,0)) cs.length cs.length,.tuple [],.tuple [],.int .i64 0,.ptr (some (9,0)),.sstr s,.slice (some (8,0)) cs.length cs.length,.func (.func 162) [] [.ptr (some (10,0)),.ptr (some (11,0))],.tuple [],.tuple [],.tuple [],.tuple []],ps,a,b⟩
 | _=>.dead
def spx (cs:List Int):AEx→SP
 | .normal=>sp162 cs
 | _=>sp162r cs
noncomputable abbrev run162 (cs:List Int) (s:List UInt8) (i:Int):=execK prog (runK prog pB 60) noBps body162 ((sp162 cs).rho (leaf162 s i (lp162 cs s))) ((sp162 cs).heap (leaf162 s i (lp162 cs s))) (nrmP (spx cs) 13 [9,10,11,12])
theorem round162a (s:List UInt8) (i:Int):run162 [1,2,3] s i =
  brK (decide (i < (s.length:Int))) (brK (decide (0≤i∧i < (s.length:Int)))
   (brK (clsI (bI s i) == 1) (brK (decide (0≤i∧i < (s.length:Int))) (some (.normal,leaf162 s (W (i+1)) (lp162 [1,2,3] s))) none)
   (brK (clsI (bI s i) == 2) (brK (decide (0≤i∧i < (s.length:Int))) (some (.normal,leaf162 s (W (i+1)) (lp162 [1,2,3] s))) none)
   (brK (clsI (bI s i) == 3) (brK (decide (0≤i∧i < (s.length:Int))) (some (.normal,leaf162 s (W (i+1)) (lp162 [1,2,3] s))) none)
    (some (.ret,[.i i,.s s,.o (lp162 [1,2,3] s)]))))) none) (some (.exit 0,[.i i,.s s,.o (lp162 [1,2,3] s)])):=by kernel_rfl
theorem round162b (s:List UInt8) (i:Int):run162 [2] s i =
  brK (decide (i < (s.length:Int))) (brK (decide (0≤i∧i < (s.length:Int)))
   (brK (clsI (bI s i) == 2) (brK (decide (0≤i∧i < (s.length:Int))) (some (.normal,leaf162 s (W (i+1)) (lp162 [2] s))) none)
    (some (.ret,[.i i,.s s,.o (lp162 [2] s)]))) none) (some (.exit 0,[.i i,.s s,.o (lp162 [2] s)])):=by kernel_rfl
def pCl (cs:List Int) (s:List UInt8) (n:Nat):Bool:=cs.any fun k=>clsI (bAt s n) == k
def lenC (cs:List Int) (s:List UInt8):Nat:=scanN (pCl cs s) s.length 0
noncomputable def out162 (cs:List Int) (s:List UInt8) (n:Nat):AEx × List Lf:=(if n < s.length then .ret else .exit 0,[.i n,.s s,.o (lp162 cs s)])
theorem step162 (cs:List Int) (hcs:cs=[1,2,3] ∨ cs=[2]) (s:List UInt8) (n:Nat) (hs:s.length < 2 ^ 62) (hn:n≤s.length):run162 cs s n =
  if n < s.length∧pCl cs s n=true then some (.normal,leaf162 s ((n+1:Nat):Int) (lp162 cs s)) else some (out162 cs s n):=by
 have e1:W ((n:Int)+1)=((n+1:Nat):Int):=by rw [W,wrap64 (by omega) (by omega)]; omega
 have e2:bI s (n:Int)=bAt s n:=by simp [bI,bAt]
 unfold pCl out162
 rcases hcs with rfl | rfl
 ·rw [round162a,e1,e2]
  by_cases h:n < s.length
  ·have h1:decide ((n:Int) < (s.length:Int))=true:=decide_eq_true (by omega)
   have h2:decide (0≤(n:Int)∧(n:Int) < (s.length:Int))=true:=decide_eq_true (by omega)
   rw [h1,h2]
   simp only [List.any_cons,List.any_nil]
   by_cases x1:clsI (bAt s n)=1 <;> by_cases x2:clsI (bAt s n)=2 <;> by_cases x3:clsI (bAt s n)=3 <;> simp [brK_ite,h,x1,x2,x3]
  ·have h1:decide ((n:Int) < (s.length:Int))=false:=decide_eq_false (by omega)
   rw [h1]
   simp [brK,h]
 ·rw [round162b,e1,e2]
  by_cases h:n < s.length
  ·have h1:decide ((n:Int) < (s.length:Int))=true:=decide_eq_true (by omega)
   have h2:decide (0≤(n:Int)∧(n:Int) < (s.length:Int))=true:=decide_eq_true (by omega)
   rw [h1,h2]
   simp only [List.any_cons,List.any_nil]
   by_cases x2:clsI (bAt s n)=2 <;> simp [brK_ite,h,x2]
  ·have h1:decide ((n:Int) < (s.length:Int))=false:=decide_eq_false (by omega)
   rw [h1]
   simp [brK,h]
noncomputable def hook162 (cs:List Int):Blk:=hookP (sp162 cs) 13 [9,10,11,12] fun
 | [.s s,.i l,.i i,.i n,.s s',.o lo]=>.br (propB (l=s.length∧i=0∧n=0∧s'=s∧lo=lp162 cs s)) (.br (szOK s)
   (.br (decide (lenC cs s < s.length)) (.leaf (.ret,sp162r cs,[.i (lenC cs s),.s s,.o (lp162 cs s)])) (.leaf (.normal,sp162r cs,[.i (lenC cs s),.s s,.o (lp162 cs s)]))) .fail) .fail
 | _=>.fail
noncomputable def pW162 (cs:List Int):Prims:=pB.addb 162 0 (hook162 cs)
section
variable {A:Amb} (hT:Tab A) (hG:prog.globals.size≤A.G)
include hT hG
theorem pW46_ok:PrimOK prog A pW46:=by
 refine PrimOK.addbP (pB_ok hT hG) func46 (show f46.body=some code46 by kernel_rfl) (body:=.loop body46) (by kernel_rfl) (by kernel_rfl) fun ls e sq l h=>?_
 split at h
 ·rename_i s a i
  obtain ⟨hc,hv⟩:=Tr.br1 h
  cases hv
  simp only [Bool.and_eq_true,decide_eq_true_eq,szOK] at hc
  obtain ⟨⟨rfl,ha0,ha1⟩,hs⟩:=hc
  obtain ⟨a,rfl⟩:∃ k:Nat,a=(k:Int):=⟨a.toNat,by omega⟩
  refine ⟨by simp [frP,spD,SP.heap,mkH,dd8,dr,mkT,OP.mk,List.replicate],fun Bb hB=>SEB.block_exit (id:=0) ?_⟩
  rw [Int.toNat_natCast]
  have key:=SEB.scan (A:=A) (B0:=Bb) (c:=body46) (S:=fun n=>⟨spD.rho [.s s,.i a,.i n],spD.heap [.s s,.i a,.i n],[]⟩) (E:=fun n=>⟨spD.rho [.s s,.i a,.i n],spD.heap [.s s,.i a,.i n],[]⟩) (e:=fun _=>.exit 0) (p:=pDg s a) (N:=s.length - a)
   (fun _=>by simp) (fun n hn hp=>SEB.of_KP (e:=.normal) hmix hnum (pB_ok hT hG) (.none _) hB (by rw [step46 s a n hs (by omega) (by omega),if_pos ⟨hn,hp⟩]) rfl)
   (fun n hn hp=>SEB.of_KP (e:=.exit 0) hmix hnum (pB_ok hT hG) (.none _) hB (by rw [step46 s a n hs (by omega) hn,if_neg (fun h=>by rw [hp h.1] at h; exact absurd h.2 (by simp))]) rfl) 0 (Nat.zero_le _)
  exact key
 ·cases h
theorem pW162_ok (cs:List Int) (hcs:cs=[1,2,3] ∨ cs=[2]):PrimOK prog A (pW162 cs):=by
 have hokD:∀ e,okD 13 [9,10,11,12] 0 (spx cs e).h=true:=fun e=>by rcases hcs with rfl | rfl <;> cases e <;> rfl
 refine PrimOK.addbP (pB_ok hT hG) func162 (show f162.body=some code162 by kernel_rfl) (body:=.loop body162) (by kernel_rfl) (hokD .normal) fun ls e sq l h=>?_
 split at h
 ·rename_i s l0 i n s' lo
  obtain ⟨hc,h1⟩:=Tr.br1 h
  obtain ⟨hs0,h2⟩:=Tr.br1 h1
  clear h h1
  obtain ⟨rfl,rfl,rfl,rfl,rfl⟩:=propB_eq hc
  have hs:=of_decide_eq_true hs0
  have h:=h2
  clear h2
  have key:∀ Bb:Heap,Bb.length=13→_:=fun Bb hB=>SEB.scan (A:=A) (B0:=Bb) (c:=body162) (S:=fun n=>⟨(sp162 cs).rho (leaf162 s' n (lp162 cs s')),(sp162 cs).heap (leaf162 s' n (lp162 cs s')),[9,10,11,12]⟩)
   (E:=fun n=>⟨(sp162r cs).rho (out162 cs s' n).2,(sp162r cs).heap (out162 cs s' n).2,[9,10,11,12]⟩) (e:=fun n=>(out162 cs s' n).1) (p:=pCl cs s') (N:=s'.length)
   (fun n=>by unfold out162; simp only; split <;> simp) (fun n hn hp=>SEB.of_KP (e:=.normal) (sp:=spx cs) hmix hnum (pB_ok hT hG) (.none _) hB (by rw [show execK _ _ _ _ _ _ _=run162 cs s' n from rfl,step162 cs hcs s' n hs (by omega),if_pos ⟨hn,hp⟩]) (hokD _))
   (fun n hn hp=>by
    have:=SEB.of_KP (e:=(out162 cs s' n).1) (sp:=spx cs) hmix hnum (pB_ok hT hG) (.none _) hB (by rw [show execK _ _ _ _ _ _ _=run162 cs s' n from rfl,step162 cs hcs s' n hs hn,if_neg (fun h=>by rw [hp h.1] at h; exact absurd h.2 (by simp))]) (hokD _)
    have e1:spx cs (out162 cs s' n).1=sp162r cs:=by unfold out162 spx; simp only; split <;> rename_i h <;> split at h <;> simp_all
    rw [e1] at this
    exact this) 0 (Nat.zero_le _)
  have hfr:frP [9,10,11,12] 0 ((sp162 cs).heap (leaf162 s' 0 (lp162 cs s'))) ((sp162r cs).heap [.i (lenC cs s'),.s s',.o (lp162 cs s')]):=by
   rcases hcs with rfl | rfl <;> simp [frP,sp162,sp162r,h162,SP.heap,mkH,dd8,dr,mkT,OP.mk,List.replicate,Pt.mk,leaf162]
  cases hlt:decide (lenC cs s' < s'.length) with
  | true =>
   rw [hlt] at h
   simp only [Tr.get,Option.some.injEq,Prod.mk.injEq] at h
   obtain ⟨rfl,rfl,rfl⟩:=h
   refine ⟨hfr,fun Bb hB=>SEB.block_other (id:=0) ?_ (by simp)⟩
   have:=key Bb hB
   simp only [out162,Nat.sub_zero] at this
   rw [if_pos (show scanN (pCl cs s') s'.length 0 < s'.length from of_decide_eq_true hlt)] at this
   exact this
  | false =>
   rw [hlt] at h
   simp only [Tr.get,Option.some.injEq,Prod.mk.injEq] at h
   obtain ⟨rfl,rfl,rfl⟩:=h
   refine ⟨hfr,fun Bb hB=>SEB.block_exit (id:=0) ?_⟩
   have:=key Bb hB
   simp only [out162,Nat.sub_zero] at this
   rw [if_neg (show ¬ scanN (pCl cs s') s'.length 0 < s'.length from of_decide_eq_false hlt)] at this
   exact this
 ·cases h
end
end Go.Proofs.Tryz
namespace Go.Proofs.Tryz
open Go.Ad
def sp89 (cs:List Int):SP:=⟨[.str,.is (.slice (some (8,0)) cs.length cs.length)],dd8++[.cells (cs.map fun c=>.is (.int .i64 c)) 1 true 3]⟩
def sq89:SP:=⟨[.int .i64],dd8++[.any]⟩
def T89 (cs:List Int):List Lf→Tr (SP × List Lf)
 | [.s s]=>.br (szOK s) (.leaf (sq89,[.i (lenC cs s),.o (.cells (cs.map fun c=>.int .i64 c) 1 true 3)])) .fail
 | _=>.fail
theorem run89 (cs:List Int) (hcs:cs=[1,2,3] ∨ cs=[2]) (s:List UInt8) (hs:szOK s=true):(runK prog (pW162 cs) 60).call 89 ((sp89 cs).rho [.s s]) ((sp89 cs).heap [.s s]) (finP sq89 9 [])=some [.i (lenC cs s),.o (.cells (cs.map fun c=>.int .i64 c) 1 true 3)]:=by
 have key:(runK prog (pW162 cs) 60).call 89 ((sp89 cs).rho [.s s]) ((sp89 cs).heap [.s s]) (finP sq89 9 []) =
   brK (propB ((s.length:Int)=s.length∧(0:Int)=0∧(0:Int)=0∧s=s∧lp162 cs s=lp162 cs s)) (brK (szOK s) (brK (decide (lenC cs s < s.length)) (some [.i (lenC cs s),.o (.cells (cs.map fun c=>.int .i64 c) 1 true 3)])
    (some [.i (lenC cs s),.o (.cells (cs.map fun c=>.int .i64 c) 1 true 3)])) none) none:=by
  rcases hcs with rfl | rfl <;> kernel_rfl
 rw [key,propB_true ⟨rfl,rfl,rfl,rfl,rfl⟩,hs,brT,brT]
 cases decide (lenC cs s < s.length) <;> rfl
noncomputable def pL:Prims:=pB.addh 89 (liftG 8 (altP (sp89 [1,2,3]) (funP (sp89 [1,2,3]) 9 [] (T89 [1,2,3])) (funP (sp89 [2]) 9 [] (T89 [2]))))
section
variable {A:Amb} (hT:Tab A) (hG:prog.globals.size≤A.G)
include hT hG
theorem f89_ok (cs:List Int) (hcs:cs=[1,2,3] ∨ cs=[2]):∀ args B v B' D,(funP (sp89 cs) 9 [] (T89 cs) args B).get=some (v,B',D)→AFr B B' D∧CallT prog A 89 args B v B' D:=by
 refine funP_ok hmix hnum (by rcases hcs with rfl | rfl <;> rfl) fun ls sq l h=>?_
 unfold T89 at h
 split at h
 ·rename_i s
  obtain ⟨hs,hv⟩:=Tr.br1 h
  cases hv
  refine ⟨?_,rfl,rfl,pW162 cs,60,pW162_ok hT hG cs hcs,run89 cs hcs s hs⟩
  rcases hcs with rfl | rfl <;> simp [frP,sp89,sq89,SP.heap,mkH,dd8,mkT,OP.mk,List.replicate,Pt.mk]
 ·cases h
theorem pL_ok:PrimOK prog A pL :=
 (pB_ok hT hG).addl gsz func89 (by kernel_rfl) (altP_ok (f89_ok hT hG _ (.inl rfl)) (f89_ok hT hG _ (.inr rfl)))
end
end Go.Proofs.Tryz
namespace Go.Proofs.Tryz
open Go.Ad
theorem cls1 (c:Int):(clsI c == 1)=letB c:=by
 unfold clsI letB
 repeat' split
 all_goals first
  | (rw [show ((1:Int) == 1)=true from rfl]; symm; rw [decide_eq_true_eq]; assumption)
  | (rw [show (_ == (1:Int))=false from rfl]; symm; rw [decide_eq_false_iff_not]; omega)
theorem cls2 (c:Int):(clsI c == 2)=digB c:=by
 unfold clsI digB
 repeat' split
 all_goals first
  | (rw [show ((2:Int) == 2)=true from rfl]; symm; rw [decide_eq_true_eq]; assumption)
  | (rw [show (_ == (2:Int))=false from rfl]; symm; rw [decide_eq_false_iff_not]; omega)
theorem cls3 (c:Int):(clsI c == 3)=(c == 95):=by
 unfold clsI
 repeat' split
 all_goals first
  | (subst c; rfl)
  | (rw [show (_ == (3:Int))=false from rfl]; symm; rw [beq_eq_false_iff_ne]; omega)
theorem cls5 (c:Int):(clsI c == 5)=(c == 32):=by
 unfold clsI
 repeat' split
 all_goals first
  | (subst c; rfl)
  | (rw [show (_ == (5:Int))=false from rfl]; symm; rw [beq_eq_false_iff_ne]; omega)
theorem sgn_all:((List.range 256).all fun n=>decide (0≤sgnIx (n:Int)) == markB (n:Int))=true:=by kernel_rfl
theorem sgn_mark {c:Int} (h0:0≤c) (h1:c < 256):decide (0≤sgnIx c)=markB c:=by
 obtain ⟨n,rfl⟩:∃ n:Nat,c=n:=⟨c.toNat,by omega⟩
 have:=List.all_eq_true.1 sgn_all n (List.mem_range.2 (by omega))
 exact beq_iff_eq.1 this
theorem mark_plain:((List.range 256).all fun n=>!markB (n:Int) || (!letB (n:Int) && !digB (n:Int) && !((n:Int) == 95) && !((n:Int) == 32)))=true:=by kernel_rfl
theorem cls4 {c:Int} (h0:0≤c) (h1:c < 256):(clsI c == 4)=markB c:=by
 have hm:=sgn_mark h0 h1
 obtain ⟨n,rfl⟩:∃ n:Nat,c=n:=⟨c.toNat,by omega⟩
 have hp:=List.all_eq_true.1 mark_plain n (List.mem_range.2 (by omega))
 unfold clsI
 cases hb:markB (n:Int) with
 | true =>
  rw [hb] at hm hp
  simp [letB,digB] at hp
  have:=of_decide_eq_true hm
  rw [if_neg (by omega),if_neg (by omega),if_neg (by omega),if_neg (by omega),if_pos this]; rfl
 | false =>
  rw [hb] at hm
  have:=of_decide_eq_false hm
  repeat' split
  all_goals first | rfl | contradiction
theorem bAt_range (s:List UInt8) (n:Nat):0≤bAt s n∧bAt s n < 256:=by
 unfold bAt
 have:=(s.getD n 0).toNat_lt
 omega
def wordN (s:List UInt8):Nat:=bif letB (bAt s 0) && !s.isEmpty then lenC [1,2,3] s else 0
def numN (s:List UInt8):Nat × Nat :=
 bif decide (0 < lenC [2] s) && (decide (lenC [2] s+1 < s.length) && (bAt s (lenC [2] s) == 46 && decide (0 < lenC [2] (s.drop (lenC [2] s+1))))) then (lenC [2] s+1+lenC [2] (s.drop (lenC [2] s+1)),lenC [2] s) else (lenC [2] s,lenC [2] s)
theorem lenC_le (cs:List Int) (s:List UInt8):lenC cs s≤s.length:=by
 have:=(scanN_le (pCl cs s) s.length 0).2; simpa [lenC] using this
theorem wordly_eq (s:List UInt8):wordlyN s=wordN s:=by
 unfold wordlyN wordN
 cases s with
 | nil=>simp [scanN]
 | cons b r =>
  cases h:letB (bAt (b :: r) 0) with
  | false =>
   simp only [Bool.false_and,cond_false,List.length_cons,scanN]
   have:pWd (b :: r) 0=false:=by simp [pWd,h]
   rw [this,cond_false]
  | true =>
   simp only [Bool.true_and,List.isEmpty_cons,Bool.not_false,cond_true]
   unfold lenC
   refine scanN_congr fun m _ _=>?_
   unfold pWd pCl
   simp only [List.any_cons,List.any_nil,Bool.or_false,cls1,cls2,cls3]
   cases m with
   | zero=>rw [h]; simp
   | succ m=>simp
theorem bAt_drop (s:List UInt8) (a n:Nat):bAt (s.drop a) n=bAt s (a+n):=by
 unfold bAt
 simp [List.getD_eq_getElem?_getD,List.getElem?_drop]
theorem digits_drop (s:List UInt8) (a:Nat):digitsN s a=lenC [2] (s.drop a):=by
 unfold digitsN lenC
 rw [List.length_drop]
 refine scanN_congr fun m _ _=>?_
 simp [pDg,pCl,cls2,bAt_drop]
theorem run41 (s:List UInt8) (hs:szOK s=true):(runK prog pL 60).call 41 [.sstr s] (Bg 8) finV=some (.int .i64 0)∧wordN s=0 ∨ (runK prog pL 60).call 41 [.sstr s] (Bg 8) finV=some (.sint .i64 (wordN s)):=by
 have h:(runK prog pL 60).call 41 [.sstr s] (Bg 8) finV=brK (s == []) (some (.int .i64 0)) (brK (decide ((0:Int)≤0∧(0:Int) < (s.length:Int))) (brK (clsI (bAt s 0) != 1) (some (.int .i64 0)) (brK (szOK s) (some (.sint .i64 (lenC [1,2,3] s))) none)) none):=by kernel_rfl
 rw [h,hs]
 unfold wordN
 cases s with
 | nil=>left; exact ⟨rfl,by simp⟩
 | cons b r =>
  have h1:((b :: r) == ([]:List UInt8))=false:=rfl
  have h2:decide ((0:Int)≤0∧(0:Int) < ((b :: r).length:Int))=true:=decide_eq_true (by simp)
  rw [h1,h2,bne,cls1]
  cases letB (bAt (b :: r) 0) with
  | true=>right; rfl
  | false=>left; exact ⟨rfl,rfl⟩
theorem run44 (s:List UInt8) (hs:szOK s=true):(runK prog pL 60).call 44 [.sstr s] (Bg 8) finV=some (.tuple [.sint .i64 (numN s).1,.sint .i64 (numN s).2]):=by
 have h:(runK prog pL 60).call 44 [.sstr s] (Bg 8) finV=brK (szOK s) (brK ((lenC [2] s:Int) == 0) (some (.tuple [.sint .i64 (lenC [2] s),.sint .i64 (lenC [2] s)]))
   (brK (decide (W ((lenC [2] s:Int)+1) ≥ (s.length:Int))) (some (.tuple [.sint .i64 (lenC [2] s),.sint .i64 (lenC [2] s)]))
   (brK (decide (0≤(lenC [2] s:Int)∧(lenC [2] s:Int) < (s.length:Int))) (brK (bI s (lenC [2] s) != 46) (some (.tuple [.sint .i64 (lenC [2] s),.sint .i64 (lenC [2] s)]))
   (brK (true && decide (0≤W ((lenC [2] s:Int)+1)∧W ((lenC [2] s:Int)+1)≤(s.length:Int))) (brK (szOK (List.drop (W ((lenC [2] s:Int)+1)).toNat (List.take s.length s)))
    (brK ((lenC [2] (List.drop (W ((lenC [2] s:Int)+1)).toNat (List.take s.length s)):Int) == 0) (some (.tuple [.sint .i64 (lenC [2] s),.sint .i64 (lenC [2] s)]))
     (some (.tuple [.sint .i64 (W (W ((lenC [2] s:Int)+1)+(lenC [2] (List.drop (W ((lenC [2] s:Int)+1)).toNat (List.take s.length s)):Int))),.sint .i64 (lenC [2] s)]))) none) none)) none))) none:=by kernel_rfl
 rw [h,hs,brT]
 have hs':=of_decide_eq_true hs
 have hl:=lenC_le [2] s
 have hw:W ((lenC [2] s:Int)+1)=((lenC [2] s+1:Nat):Int):=by rw [W,wrap64 (by omega) (by omega)]; omega
 rw [hw,Int.toNat_natCast,List.take_length]
 unfold numN
 generalize hd:lenC [2] s=d at hl ⊢
 have hb:bI s (d:Int)=bAt s d:=by simp [bI,bAt]
 rw [hb]
 by_cases h0:d=0
 ·subst h0; rfl
 have e0:((d:Int) == 0)=false:=by rw [beq_eq_false_iff_ne]; omega
 rw [e0,brF,decide_eq_true (show 0 < d by omega),Bool.true_and]
 by_cases h1:d+1 < s.length
 case neg =>
  have e1:decide (((d+1:Nat):Int) ≥ (s.length:Int))=true:=decide_eq_true (by omega)
  rw [e1,brT,decide_eq_false h1]; rfl
 have e1:decide (((d+1:Nat):Int) ≥ (s.length:Int))=false:=decide_eq_false (by omega)
 have e2:decide (0≤(d:Int)∧(d:Int) < (s.length:Int))=true:=decide_eq_true (by omega)
 have e3:decide (0≤((d+1:Nat):Int)∧((d+1:Nat):Int)≤(s.length:Int))=true:=decide_eq_true (by omega)
 have e4:szOK (s.drop (d+1))=true:=decide_eq_true (by rw [List.length_drop]; omega)
 rw [e1,brF,e2,brT,decide_eq_true h1,Bool.true_and,e3,e4,bne]
 cases hc:bAt s d == 46 with
 | false=>rfl
 | true =>
  simp only [Bool.not_true,brF,brT,Bool.true_and]
  have hl2:=lenC_le [2] (s.drop (d+1))
  rw [List.length_drop] at hl2
  generalize lenC [2] (s.drop (d+1))=m at hl2 ⊢
  by_cases hm:m=0
  ·subst hm; rfl
  ·have e5:((m:Int) == 0)=false:=by rw [beq_eq_false_iff_ne]; omega
   have e6:W (((d+1:Nat):Int)+(m:Int))=((d+1+m:Nat):Int):=by rw [W,wrap64 (by omega) (by omega)]; omega
   rw [e5,brF,e6,decide_eq_true (show 0 < m by omega)]; rfl
theorem run43 (s:List UInt8) (hs:szOK s=true):(runK prog pW43 60).call 43 [.sstr s] (Bg 8) finV=some (.sint .i64 (wordN s)):=by
 have h:(runK prog pW43 60).call 43 [.sstr s] (Bg 8) finV=brK (decide ((0:Int)=0) && szOK s) (some (.sint .i64 (wordlyN s))) none:=by kernel_rfl
 rw [h,hs,wordly_eq]; rfl
theorem run46 (s:List UInt8) (a:Nat) (ha:a≤s.length) (hs:szOK s=true):(runK prog pW46 60).call 46 [.sstr s,.sint .i64 a] (Bg 8) finV=some (.sint .i64 (lenC [2] (s.drop a))):=by
 have h:(runK prog pW46 60).call 46 [.sstr s,.sint .i64 a] (Bg 8) finV=brK (decide ((0:Int)=0∧0≤(a:Int)∧(a:Int)≤s.length) && szOK s) (some (.sint .i64 (digitsN s (a:Int).toNat))) none:=by kernel_rfl
 rw [h,hs,decide_eq_true (show (0:Int)=0∧0≤(a:Int)∧(a:Int)≤s.length by omega),Int.toNat_natCast,digits_drop]; rfl
noncomputable def pN1:Prims:=pL.addt 41 (gP [.str] fun | [.s s]=>.br (szOK s) (.leaf (.sint .i64 (wordN s))) .fail | _=>.fail)
noncomputable def pN2:Prims:=pN1.addt 44 (gP [.str] fun | [.s s]=>.br (szOK s) (.leaf (.tuple [.sint .i64 (numN s).1,.sint .i64 (numN s).2])) .fail | _=>.fail)
noncomputable def pN3:Prims:=pN2.addt 43 (gP [.str] fun | [.s s]=>.br (szOK s) (.leaf (.sint .i64 (wordN s))) .fail | _=>.fail)
noncomputable def pN4:Prims:=pN3.addt 46 (gP [.str,.int .i64] fun | [.s s,.i a]=>.br (decide (0≤a∧a≤(s.length:Int)) && szOK s) (.leaf (.sint .i64 (lenC [2] (s.drop a.toNat)))) .fail | _=>.fail)
section
variable {A:Amb} (hT:Tab A) (hG:prog.globals.size≤A.G)
include hT hG
theorem pN4_ok:PrimOK prog A pN4:=by
 have h0:=pL_ok hT hG
 refine PrimOK.addP hmix hnum (pW46_ok hT hG) (PrimOK.addP hmix hnum (pW43_ok hT hG) (PrimOK.addP hmix hnum h0 (PrimOK.addP hmix hnum h0 h0 hG func41 (by kernel_rfl) ?_) hG func44 (by kernel_rfl) ?_) hG func43 (by kernel_rfl) ?_) hG func46 (by kernel_rfl) ?_
 ·intro ls v h
  split at h
  ·rename_i s
   obtain ⟨hs,hv⟩:=Tr.br1 h
   cases hv
   rcases run41 s hs with ⟨h1,h2⟩ | h1
   ·exact ⟨rfl,60,_,by rw [gsz]; exact h1,rfl,fun ι x=>vr_int (by rw [h2]; rfl) x⟩
   ·exact ⟨rfl,60,_,by rw [gsz]; exact h1,rfl,fun ι x h=>h⟩
  ·cases h
 ·intro ls v h
  split at h
  ·rename_i s
   obtain ⟨hs,hv⟩:=Tr.br1 h
   cases hv
   exact ⟨rfl,60,_,by rw [gsz]; exact run44 s hs,rfl,fun ι x h=>h⟩
  ·cases h
 ·intro ls v h
  split at h
  ·rename_i s
   obtain ⟨hs,hv⟩:=Tr.br1 h
   cases hv
   exact ⟨rfl,60,_,by rw [gsz]; exact run43 s hs,rfl,fun ι x h=>h⟩
  ·cases h
 ·intro ls v h
  split at h
  ·rename_i s a
   obtain ⟨hs,hv⟩:=Tr.br1 h
   cases hv
   simp only [Bool.and_eq_true,decide_eq_true_eq] at hs
   obtain ⟨⟨ha0,ha1⟩,hs⟩:=hs
   obtain ⟨a,rfl⟩:∃ k:Nat,a=(k:Int):=⟨a.toNat,by omega⟩
   exact ⟨rfl,60,_,by rw [gsz]; exact run46 s a (by omega) hs,rfl,fun ι x h=>by rw [Int.toNat_natCast]; exact h⟩
  ·cases h
end
end Go.Proofs.Tryz
namespace Go.Proofs.Tryz
open Go.Ad
theorem run45 (s:List UInt8) (hs:szOK s=true):(runK prog pN4 60).call 45 [.sstr s] (Bg 8) finV=some (.sint .i64 (numN s).1):=by
 have h:(runK prog pN4 60).call 45 [.sstr s] (Bg 8) finV=brK (decide ((0:Int)≤0∧(0:Int)≤(s.length:Int)) && szOK s) (brK (decide ((lenC [2] (s.drop 0):Int) > 0))
  (brK (decide ((lenC [2] (s.drop 0):Int) < (s.length:Int))) (brK (decide (0≤(lenC [2] (s.drop 0):Int)∧(lenC [2] (s.drop 0):Int) < (s.length:Int))) (brK (bI s (lenC [2] (s.drop 0)) == 46)
   (brK (decide (0≤W ((lenC [2] (s.drop 0):Int)+1)∧W ((lenC [2] (s.drop 0):Int)+1)≤(s.length:Int)) && szOK s)
    (brK (decide ((lenC [2] (s.drop (W ((lenC [2] (s.drop 0):Int)+1)).toNat):Int) > 0))
     (brK (decide (0≤W ((lenC [2] (s.drop 0):Int)+1)∧W ((lenC [2] (s.drop 0):Int)+1)≤(s.length:Int)) && szOK s)
      (some (.sint .i64 (W (W ((lenC [2] (s.drop 0):Int)+1)+(lenC [2] (s.drop (W ((lenC [2] (s.drop 0):Int)+1)).toNat):Int))))) none)
     (some (.sint .i64 (lenC [2] (s.drop 0))))) none)
   (some (.sint .i64 (lenC [2] (s.drop 0))))) none)
   (some (.sint .i64 (lenC [2] (s.drop 0)))))
  (some (.sint .i64 (lenC [2] (s.drop 0))))) none:=by kernel_rfl
 rw [h,hs,List.drop_zero,decide_eq_true (show (0:Int)≤0∧(0:Int)≤(s.length:Int) by omega),Bool.and_self,brT]
 have hs':=of_decide_eq_true hs
 have hl:=lenC_le [2] s
 have hw:W ((lenC [2] s:Int)+1)=((lenC [2] s+1:Nat):Int):=by rw [W,wrap64 (by omega) (by omega)]; omega
 rw [hw,Int.toNat_natCast]
 unfold numN
 generalize hd:lenC [2] s=d at hl ⊢
 have hb:bI s (d:Int)=bAt s d:=by simp [bI,bAt]
 rw [hb]
 by_cases h0:0 < d
 case neg=>rw [decide_eq_false (show ¬ ((d:Int) > 0) by omega),decide_eq_false h0]; rfl
 rw [decide_eq_true (show (d:Int) > 0 by omega),brT,decide_eq_true h0,Bool.true_and]
 by_cases h1:d < s.length
 case neg=>rw [decide_eq_false (show ¬ ((d:Int) < (s.length:Int)) by omega),decide_eq_false (show ¬ d+1 < s.length by omega)]; rfl
 rw [decide_eq_true (show (d:Int) < (s.length:Int) by omega),brT,decide_eq_true (show 0≤(d:Int)∧(d:Int) < (s.length:Int) by omega),brT]
 rw [decide_eq_true (show 0≤((d+1:Nat):Int)∧((d+1:Nat):Int)≤(s.length:Int) by omega),Bool.and_self]
 cases hc:bAt s d == 46 with
 | false=>simp only [brF,Bool.false_and,Bool.and_false,cond_false]
 | true =>
  simp only [brT,Bool.true_and]
  have hl2:=lenC_le [2] (s.drop (d+1))
  rw [List.length_drop] at hl2
  generalize lenC [2] (s.drop (d+1))=m at hl2 ⊢
  by_cases hm:0 < m
  ·have e6:W (((d+1:Nat):Int)+(m:Int))=((d+1+m:Nat):Int):=by rw [W,wrap64 (by omega) (by omega)]; omega
   rw [decide_eq_true (show (m:Int) > 0 by omega),brT,decide_eq_true hm,decide_eq_true (show d+1 < s.length by omega),e6]; rfl
  ·rw [decide_eq_false (show ¬ ((m:Int) > 0) by omega),decide_eq_false hm,brF]; simp
noncomputable def pN5:Prims:=pN4.addt 45 (gP [.str] fun | [.s s]=>.br (szOK s) (.leaf (.sint .i64 (numN s).1)) .fail | _=>.fail)
def errW (s:List UInt8):Int:=if wordN s=0 ∨ wordN s ≠ s.length then 3 else if s.length > 24 then 17 else 0
def errN (s:List UInt8):Int:=if (numN s).1=0 ∨ (numN s).1 ≠ s.length ∨ ((numN s).2 > 1∧bAt s 0=48) then 3 else if s.length > 24 then 17 else 0
theorem numN_le (s:List UInt8):(numN s).2≤(numN s).1∧(numN s).1≤s.length∧((numN s).1=0 ↔ (numN s).2=0)∧(numN s).2=lenC [2] s:=by
 have hl:=lenC_le [2] s
 have hl2:=lenC_le [2] (s.drop (lenC [2] s+1))
 rw [List.length_drop] at hl2
 unfold numN
 generalize lenC [2] (s.drop (lenC [2] s+1))=m at *
 generalize lenC [2] s=d at *
 cases h:(decide (0 < d) && (decide (d+1 < s.length) && (bAt s d == 46 && decide (0 < m)))) with
 | true =>
  simp only [Bool.and_eq_true,decide_eq_true_eq] at h
  simp only [cond_true]
  refine ⟨?_,?_,?_,?_⟩ <;> first | omega | trivial
 | false=>simp only [cond_false]; exact ⟨Nat.le_refl _,hl,trivial,trivial⟩
theorem errW_tree (s:List UInt8):brK (s == []) (some (AV.int .i64 3)) (brK true (brK ((wordN s:Int) != (s.length:Int)) (some (.int .i64 3)) (brK (decide ((s.length:Int) > 24)) (some (.int .i64 17)) (some (.int .i64 0)))) none)=some (.int .i64 (errW s)):=by
 unfold errW
 cases s with
 | nil=>rfl
 | cons b r =>
  have e1:((b :: r) == ([]:List UInt8))=false:=rfl
  rw [e1,brF,brT]
  have hp:0 < (b :: r).length:=by simp
  generalize (b :: r).length=k at *
  simp only [brK_ite,bne_iff_ne,ne_eq,decide_eq_true_eq]
  repeat' split
  all_goals first | rfl | omega
theorem run13 (s:List UInt8) (hs:szOK s=true):(runK prog pN5 60).call 13 [.sstr s] (Bg 8) finV=some (.int .i64 (errW s)):=by
 have h:(runK prog pN5 60).call 13 [.sstr s] (Bg 8) finV=brK (s == []) (some (.int .i64 3)) (brK (szOK s) (brK ((wordN s:Int) != (s.length:Int)) (some (.int .i64 3)) (brK (decide ((s.length:Int) > 24)) (some (.int .i64 17)) (some (.int .i64 0)))) none):=by kernel_rfl
 rw [h,hs,errW_tree]
theorem run14 (s:List UInt8) (hs:szOK s=true):(runK prog pN5 60).call 14 [.sstr s] (Bg 8) finV=some (.int .i64 (errW s)):=by
 have h:(runK prog pN5 60).call 14 [.sstr s] (Bg 8) finV=brK (s == []) (some (.int .i64 3)) (brK (szOK s) (brK ((wordN s:Int) != (s.length:Int)) (some (.int .i64 3)) (brK (decide ((s.length:Int) > 24)) (some (.int .i64 17)) (some (.int .i64 0)))) none):=by kernel_rfl
 rw [h,hs,errW_tree]
theorem run15 (s:List UInt8) (hs:szOK s=true):(runK prog pN5 60).call 15 [.sstr s] (Bg 8) finV=some (.int .i64 (errN s)):=by
 have h:(runK prog pN5 60).call 15 [.sstr s] (Bg 8) finV=brK (szOK s) (brK (((numN s).1:Int) == 0) (some (.int .i64 3)) (brK (((numN s).1:Int) != (s.length:Int)) (some (.int .i64 3))
   (brK (decide (((numN s).2:Int) > 1)) (brK (decide ((0:Int)≤0∧(0:Int) < (s.length:Int))) (brK (bAt s 0 == 48) (some (.int .i64 3)) (brK (decide (((numN s).1:Int) > 24)) (some (.int .i64 17)) (some (.int .i64 0)))) none)
    (brK (decide (((numN s).1:Int) > 24)) (some (.int .i64 17)) (some (.int .i64 0)))))) none:=by kernel_rfl
 rw [h,hs,brT]
 obtain ⟨h1,h2,h3,_⟩:=numN_le s
 unfold errN
 simp only [brK_ite,beq_iff_eq,bne_iff_ne,ne_eq,decide_eq_true_eq]
 repeat' split
 all_goals first | rfl | omega
theorem run16 (s:List UInt8) (hs:szOK s=true):(runK prog pN5 60).call 16 [.sstr s] (Bg 8) finV=some (.int .i64 (errN s)):=by
 have h:(runK prog pN5 60).call 16 [.sstr s] (Bg 8) finV=brK (s == []) (some (.int .i64 3)) (brK (szOK s) (brK (((numN s).1:Int) != (s.length:Int)) (some (.int .i64 3))
   (brK (decide ((0:Int)≤0∧(0:Int)≤(s.length:Int)) && szOK s) (brK (decide ((lenC [2] (s.drop 0):Int) > 1)) (brK (decide ((0:Int)≤0∧(0:Int) < (s.length:Int))) (brK (bAt s 0 == 48) (some (.int .i64 3)) (brK (decide ((s.length:Int) > 24)) (some (.int .i64 17)) (some (.int .i64 0)))) none)
    (brK (decide ((s.length:Int) > 24)) (some (.int .i64 17)) (some (.int .i64 0)))) none)) none):=by kernel_rfl
 rw [h,hs,brT,List.drop_zero]
 obtain ⟨h1,h2,h3,h4⟩:=numN_le s
 rw [← h4]
 unfold errN
 cases s with
 | nil=>rfl
 | cons b r =>
  have e1:((b :: r) == ([]:List UInt8))=false:=rfl
  rw [e1,brF]
  have hp:0 < (b :: r).length:=by simp
  generalize (b :: r).length=k at *
  simp only [brK_ite,beq_iff_eq,bne_iff_ne,ne_eq,decide_eq_true_eq,Bool.and_true]
  repeat' split
  all_goals first | rfl | omega
def gErr (g:List UInt8→Int):List Lf→Tr AV
 | [.s s]=>.br (szOK s) (.leaf (.sint .i64 (g s))) .fail
 | _=>.fail
noncomputable def pE:Prims:=(((pN5.addt 13 (gP [.str] (gErr errW))).addt 14 (gP [.str] (gErr errW))).addt 15 (gP [.str] (gErr errN))).addt 16 (gP [.str] (gErr errN))
section
variable {A:Amb} (hT:Tab A) (hG:prog.globals.size≤A.G)
include hT hG
theorem pN5_ok:PrimOK prog A pN5:=by
 refine PrimOK.addP hmix hnum (pN4_ok hT hG) (pN4_ok hT hG) hG func45 (by kernel_rfl) fun ls v h=>?_
 split at h
 ·rename_i s
  obtain ⟨hs,hv⟩:=Tr.br1 h
  cases hv
  exact ⟨rfl,60,_,by rw [gsz]; exact run45 s hs,rfl,fun ι x h=>h⟩
 ·cases h
theorem pE_ok:PrimOK prog A pE:=by
 have h0:=pN5_ok hT hG
 have key:∀ (f:FuncId) (g:List UInt8→Int),(∀ s,szOK s=true→(runK prog pN5 60).call f [.sstr s] (Bg 8) finV=some (.int .i64 (g s)))→∀ ls v,(gErr g ls).get=some v →
   belowL 0 (mkT [.str] ls).1=true∧∃ n v',(runK prog pN5 n).call f (mkT [.str] ls).1 (Bg prog.globals.size) finV=some v'∧below 0 v'=true∧∀ ι x,VR ι v' x→VR ι v x:=by
  intro f g hr ls v h
  unfold gErr at h
  split at h
  ·rename_i s
   obtain ⟨hs,hv⟩:=Tr.br1 h
   cases hv
   exact ⟨rfl,60,_,by rw [gsz]; exact hr s hs,rfl,fun ι x=>vr_int rfl x⟩
  ·cases h
 exact PrimOK.addP hmix hnum h0 (PrimOK.addP hmix hnum h0 (PrimOK.addP hmix hnum h0 (PrimOK.addP hmix hnum h0 h0 hG func13 (by kernel_rfl) (key _ _ run13)) hG func14 (by kernel_rfl) (key _ _ run14)) hG func15 (by kernel_rfl) (key _ _ run15)) hG func16 (by kernel_rfl) (key _ _ run16)
end
end Go.Proofs.Tryz
namespace Go.Proofs.Tryz
open Go.Ad
def tokK (s:List UInt8):Int × Nat × Int :=
 bif letB (bAt s 0) then (0,wordN s,errW (s.take (wordN s))) else bif digB (bAt s 0) then (1,(numN s).1,errN (s.take (numN s).1)) else bif markB (bAt s 0) then (2,1,0) else (0,0,4)
def tokV (t:Int × Nat × Int):AV:=.tuple [.sint .i64 t.1,.sint .i64 t.2.1,.sint .i64 t.2.2]
theorem vr_tup3 {ι:Emb} {a b c a' b' c':AV} (h1:∀ v,VR ι a v→VR ι a' v) (h2:∀ v,VR ι b v→VR ι b' v) (h3:∀ v,VR ι c v→VR ι c' v) (x:Value) (h:VR ι (.tuple [a,b,c]) x):VR ι (.tuple [a',b',c']) x:=by
 simp only [VR,VRL] at h ⊢
 obtain ⟨xs,rfl,x1,r1,e1,q1,x2,r2,e2,q2,x3,r3,e3,q3,q4⟩:=h
 exact ⟨xs,rfl,x1,r1,e1,h1 _ q1,x2,r2,e2,h2 _ q2,x3,r3,e3,h3 _ q3,q4⟩
theorem wordN_le (s:List UInt8):wordN s≤s.length:=by
 unfold wordN
 have:=lenC_le [1,2,3] s
 cases letB (bAt s 0) && !s.isEmpty <;> simp [this]
theorem scan_pos {p:Nat→Bool} {k:Nat} (hk:0 < k) (h:p 0=true):0 < scanN p k 0:=by
 obtain ⟨j,rfl⟩:∃ j,k=j+1:=⟨k - 1,by omega⟩
 simp only [scanN,h,cond_true]
 have:=(scanN_le p j (0+1)).1
 omega
theorem wordN_pos {s:List UInt8} (hne:s.isEmpty=false):0 < wordN s ↔ letB (bAt s 0)=true:=by
 have hl:0 < s.length:=by cases s with | nil=>simp at hne | cons=>simp
 unfold wordN
 rw [hne]
 cases h:letB (bAt s 0) with
 | false=>simp
 | true =>
  simp only [Bool.not_false,Bool.and_self,cond_true,iff_true]
  exact scan_pos hl (by simp [pCl,cls1,h])
theorem numN_pos {s:List UInt8} (hne:s.isEmpty=false):0 < (numN s).1 ↔ digB (bAt s 0)=true:=by
 have hl:0 < s.length:=by cases s with | nil=>simp at hne | cons=>simp
 obtain ⟨h1,h2,h3,h4⟩:=numN_le s
 have e:0 < (numN s).1 ↔ 0 < lenC [2] s:=by omega
 rw [e]
 constructor
 ·intro h
  have:=scanN_true (p:=pCl [2] s) (k:=s.length) (n:=0) (m:=0) (Nat.le_refl _) h
  simpa [pCl,cls2] using this
 ·intro h
  exact scan_pos hl (by simp [pCl,cls2,h])
theorem szOK_take {s:List UInt8} (hs:szOK s=true) (n:Nat):szOK (s.take n)=true:=by
 have:=of_decide_eq_true hs
 exact decide_eq_true (by rw [List.length_take]; omega)
theorem run48 (s:List UInt8) (hs:szOK s=true) (hne:s.isEmpty=false):∃ v',(runK prog pE 60).call 48 [.sstr s] (Bg 8) finV=some v'∧below 0 v'=true∧∀ ι x,VR ι v' x→VR ι (tokV (tokK s)) x:=by
 have h:(runK prog pE 60).call 48 [.sstr s] (Bg 8) finV =
   brK (decide ((0:Int)≤0∧(0:Int) < (s.length:Int))) (brK (clsI (bAt s 0) == 1) (brK (szOK s) (brK (decide (0≤(wordN s:Int)∧(wordN s:Int)≤(s.length:Int)) && true) (brK (szOK (List.drop 0 (List.take (wordN s) s)))
     (some (.tuple [.int .i64 0,.sint .i64 (wordN s),.sint .i64 (errW (List.drop 0 (List.take (wordN s) s)))])) none) none) none)
    (brK (clsI (bAt s 0) == 2) (brK (szOK s) (brK (decide (0≤((numN s).1:Int)∧((numN s).1:Int)≤(s.length:Int)) && true) (brK (szOK (List.drop 0 (List.take (numN s).1 s)))
     (some (.tuple [.int .i64 1,.sint .i64 (numN s).1,.sint .i64 (errN (List.drop 0 (List.take (numN s).1 s)))])) none) none) none)
    (brK (clsI (bAt s 0) == 4) (some (.tuple [.int .i64 2,.int .i64 1,.int .i64 0])) (some (.tuple [.int .i64 0,.int .i64 0,.int .i64 4]))))) none:=by kernel_rfl
 have hl:0 < s.length:=by cases s with | nil=>simp at hne | cons=>simp
 have hw:=wordN_le s
 have hn:=(numN_le s).2.1
 obtain ⟨b0,b1⟩:=bAt_range s 0
 rw [h,decide_eq_true (show (0:Int)≤0∧(0:Int) < (s.length:Int) by omega),brT,hs,cls1,cls2,cls4 b0 b1,List.drop_zero,List.drop_zero,szOK_take hs,szOK_take hs,
  decide_eq_true (show 0≤(wordN s:Int)∧(wordN s:Int)≤(s.length:Int) by omega),decide_eq_true (show 0≤((numN s).1:Int)∧((numN s).1:Int)≤(s.length:Int) by omega)]
 unfold tokK
 cases letB (bAt s 0) with
 | true=>exact ⟨_,rfl,rfl,fun ι=>vr_tup3 (vr_int rfl) (fun _ h=>h) (fun _ h=>h)⟩
 | false=>cases digB (bAt s 0) with
  | true=>exact ⟨_,rfl,rfl,fun ι=>vr_tup3 (vr_int rfl) (fun _ h=>h) (fun _ h=>h)⟩
  | false=>cases markB (bAt s 0) with
   | true=>exact ⟨_,rfl,rfl,fun ι=>vr_tup3 (vr_int rfl) (vr_int rfl) (vr_int rfl)⟩
   | false=>exact ⟨_,rfl,rfl,fun ι=>vr_tup3 (vr_int rfl) (vr_int rfl) (vr_int rfl)⟩
theorem run49 (s:List UInt8) (hs:szOK s=true) (hne:s.isEmpty=false):∃ v',(runK prog pE 60).call 49 [.sstr s] (Bg 8) finV=some v'∧below 0 v'=true∧∀ ι x,VR ι v' x→VR ι (tokV (tokK s)) x:=by
 have h:(runK prog pE 60).call 49 [.sstr s] (Bg 8) finV =
   brK (szOK s) (brK (decide ((wordN s:Int) > 0)) (brK (decide (0≤(wordN s:Int)∧(wordN s:Int)≤(s.length:Int)) && true) (brK (szOK (List.drop 0 (List.take (wordN s) s)))
     (some (.tuple [.int .i64 0,.sint .i64 (wordN s),.sint .i64 (errW (List.drop 0 (List.take (wordN s) s)))])) none) none)
    (brK (szOK s) (brK (decide (((numN s).1:Int) > 0)) (brK (decide (0≤((numN s).1:Int)∧((numN s).1:Int)≤(s.length:Int)) && true) (brK (szOK (List.drop 0 (List.take (numN s).1 s)))
     (some (.tuple [.int .i64 1,.sint .i64 (numN s).1,.sint .i64 (errN (List.drop 0 (List.take (numN s).1 s)))])) none) none)
    (brK (decide ((0:Int)≤0∧(0:Int) < (s.length:Int))) (brK (markB (bAt s 0)) (some (.tuple [.int .i64 2,.int .i64 1,.int .i64 0])) (some (.tuple [.int .i64 0,.int .i64 0,.int .i64 4]))) none)) none)) none:=by kernel_rfl
 have hl:0 < s.length:=by cases s with | nil=>simp at hne | cons=>simp
 have hw:=wordN_le s
 have hn:=(numN_le s).2.1
 have e1:decide ((wordN s:Int) > 0)=letB (bAt s 0):=by
  have:=wordN_pos hne
  cases hc:letB (bAt s 0) with
  | true=>exact decide_eq_true (by rw [hc] at this; have:=this.2 rfl; omega)
  | false=>exact decide_eq_false (by rw [hc] at this; simp at this; omega)
 have e2:decide (((numN s).1:Int) > 0)=digB (bAt s 0):=by
  have:=numN_pos hne
  cases hc:digB (bAt s 0) with
  | true=>exact decide_eq_true (by rw [hc] at this; have:=this.2 rfl; omega)
  | false=>exact decide_eq_false (by rw [hc] at this; simp at this; omega)
 rw [h,hs,e1,e2,decide_eq_true (show (0:Int)≤0∧(0:Int) < (s.length:Int) by omega),List.drop_zero,List.drop_zero,szOK_take hs,szOK_take hs,
  decide_eq_true (show 0≤(wordN s:Int)∧(wordN s:Int)≤(s.length:Int) by omega),decide_eq_true (show 0≤((numN s).1:Int)∧((numN s).1:Int)≤(s.length:Int) by omega)]
 unfold tokK
 cases letB (bAt s 0) with
 | true=>exact ⟨_,rfl,rfl,fun ι=>vr_tup3 (vr_int rfl) (fun _ h=>h) (fun _ h=>h)⟩
 | false=>cases digB (bAt s 0) with
  | true=>exact ⟨_,rfl,rfl,fun ι=>vr_tup3 (vr_int rfl) (fun _ h=>h) (fun _ h=>h)⟩
  | false=>cases markB (bAt s 0) with
   | true=>exact ⟨_,rfl,rfl,fun ι=>vr_tup3 (vr_int rfl) (vr_int rfl) (vr_int rfl)⟩
   | false=>exact ⟨_,rfl,rfl,fun ι=>vr_tup3 (vr_int rfl) (vr_int rfl) (vr_int rfl)⟩
def gTok:List Lf→Tr AV
 | [.s s]=>.br (szOK s && !s.isEmpty) (.leaf (tokV (tokK s))) .fail
 | _=>.fail
noncomputable def pT:Prims:=(pE.addt 48 (gP [.str] gTok)).addt 49 (gP [.str] gTok)
theorem pT_ok {A:Amb} (hT:Tab A) (hG:prog.globals.size≤A.G):PrimOK prog A pT:=by
 have h0:=pE_ok hT hG
 have key:∀ (f:FuncId),(∀ s,szOK s=true→s.isEmpty=false→∃ v',(runK prog pE 60).call f [.sstr s] (Bg 8) finV=some v'∧below 0 v'=true∧∀ ι x,VR ι v' x→VR ι (tokV (tokK s)) x)→∀ ls v,(gTok ls).get=some v →
   belowL 0 (mkT [.str] ls).1=true∧∃ n v',(runK prog pE n).call f (mkT [.str] ls).1 (Bg prog.globals.size) finV=some v'∧below 0 v'=true∧∀ ι x,VR ι v' x→VR ι v x:=by
  intro f hr ls v h
  unfold gTok at h
  split at h
  ·rename_i s
   obtain ⟨hs,hv⟩:=Tr.br1 h
   cases hv
   simp only [Bool.and_eq_true,Bool.not_eq_true'] at hs
   obtain ⟨v',q1,q2,q3⟩:=hr s hs.1 hs.2
   exact ⟨rfl,60,v',by rw [gsz]; exact q1,q2,q3⟩
  ·cases h
 exact PrimOK.addP hmix hnum h0 (PrimOK.addP hmix hnum h0 h0 hG func48 (by kernel_rfl) (key _ run48)) hG func49 (by kernel_rfl) (key _ run49)
theorem tokK_le (s:List UInt8) (hne:s.isEmpty=false):(tokK s).2.1≤s.length∧((tokK s).2.2=0→0 < (tokK s).2.1):=by
 have hl:0 < s.length:=by cases s with | nil=>simp at hne | cons=>simp
 have hw:=wordN_le s
 have hn:=(numN_le s).2.1
 have p1:=wordN_pos hne
 have p2:=numN_pos hne
 unfold tokK
 cases h1:letB (bAt s 0) with
 | true=>exact ⟨hw,fun _=>p1.2 h1⟩
 | false=>cases h2:digB (bAt s 0) with
  | true=>exact ⟨hn,fun _=>p2.2 h2⟩
  | false=>cases markB (bAt s 0) with
   | true=>exact ⟨hl,fun _=>Nat.one_pos⟩
   | false=>exact ⟨Nat.zero_le _,fun h=>by cases h⟩
end Go.Proofs.Tryz
namespace Go.Proofs.Tryz
open Go.Ad
def trimOK (cs:List UInt8):Bool:=cs.all (fun b=>decide (b.toNat < 128)) && decide (cs.length≤1000)
def gTrim:List AV→Tr AV
 | [.str s,.str cs]=>bif trimOK cs && decide (s.length≤9223372036854775807) then .leaf (.str (Lib.trimS s cs)) else .fail
 | [x,.str cs]=>match sstr? x with
  | some s=>bif trimOK cs then .br (decide (s.length≤9223372036854775807)) (.leaf (.sstr (Lib.trimS s cs))) .fail else .fail
  | none=>.fail
 | _=>.fail
def gIndex:List AV→Tr AV
 | [.str s,.str [c]]=>.leaf (.int .i64 (Lib.indexByte s c))
 | [x,.str [c]]=>match sstr? x with
  | some s=>.leaf (.sint .i64 (Lib.indexByte s c))
  | none=>.fail
 | _=>.fail
def gAtoi:List AV→Tr AV
 | [.str s]=>match Lib.atoi s with
  | some n=>bif decide (s.length≤18) then .leaf (.tuple [.int .i64 n,.nilIface]) else .fail
  | none=>.fail
 | [x]=>match sstr? x with
  | some s=>.br (decide (s.length≤18) && (Lib.atoi s).isSome) (.leaf (.tuple [.sint .i64 ((Lib.atoi s).getD 0),.nilIface])) .fail
  | none=>.fail
 | _=>.fail
def lib2:Prims:=((lib.addt 31 gTrim).addt 86 gIndex).addt 145 gAtoi
theorem ascii_of_all {b:ByteArray} (h:b.data.toList.all (fun c=>decide (c.toNat < 128))=true):∀ (j:Nat) (c:UInt8),b.data.toList[j]?=some c→c.toNat < 128:=fun j c hc=>by
 have:=List.all_eq_true.1 h c (List.mem_of_getElem? hc)
 exact of_decide_eq_true this
theorem lib2_ok {A:Amb} (hT:Tab A):PrimOK prog A lib2:=by
 refine PrimOK.libt (PrimOK.libt (PrimOK.libt (lib_ok hT) func31 (by kernel_rfl) ?_) func86 (by kernel_rfl) ?_) func145 (by kernel_rfl) ?_
 ·intro args v hg ι w xs _ _ hx
  have key:∀ (b1 b2:ByteArray),trimOK b2.data.toList=true→b1.data.toList.length≤9223372036854775807→xs=#[.string b1,.string b2] →
    Calls prog 31 xs w fun e w'=>∃ v',e=.returned v'∧(∃ b:ByteArray,b.data.toList=Lib.trimS b1.data.toList b2.data.toList∧v'=.string b)∧Quiet w w':=fun b1 b2 h1 h2 e1=>by
   subst e1
   simp only [trimOK,Bool.and_eq_true,decide_eq_true_eq] at h1
   have hl1:b1.data.toList.length=b1.size:=by simp
   have hl2:b2.data.toList.length=b2.size:=by simp
   refine (Any.strings_Trim_laid Tryz.lays160 (by kernel_rfl) b1 b2 w (by omega) (by omega) (ascii_of_all h1.1)).mono fun e w' ⟨h1,h2⟩=>?_
   subst h1
   exact ⟨_,rfl,⟨_,by simp,rfl⟩,⟨h2.size,h2.block,h2.tape,h2.os,h2.output⟩⟩
  unfold gTrim at hg
  split at hg
  ·rename_i s cs
   cases hb:(trimOK cs && decide (s.length≤9223372036854775807)) with
   | false=>rw [hb] at hg; cases hg
   | true =>
    rw [hb] at hg
    cases hg
    simp only [Bool.and_eq_true,decide_eq_true_eq] at hb
    simp only [VRL,VR] at hx
    obtain ⟨_,_,hxs,⟨b1,rfl,rfl⟩,_,_,rfl,⟨b2,rfl,rfl⟩,rfl⟩:=hx
    exact (key b1 b2 hb.1 hb.2 (arr2 hxs)).mono fun e w' ⟨v',q1,q2,q3⟩=>⟨v',q1,by simp only [VR]; exact q2,q3⟩
  ·rename_i x cs _
   split at hg
   ·rename_i s hs
    cases hb:trimOK cs with
    | false=>rw [hb] at hg; cases hg
    | true =>
     rw [hb] at hg
     obtain ⟨h1,h2⟩:=Tr.br_get0 hg
     cases h2
     rw [decide_eq_true_eq] at h1
     simp only [VRL] at hx
     obtain ⟨_,_,hxs,q1,_,_,rfl,q2,rfl⟩:=hx
     obtain ⟨b1,rfl,rfl⟩:=sstr_VR hs q1
     simp only [VR] at q2
     obtain ⟨b2,rfl,rfl⟩:=q2
     exact (key b1 b2 hb h1 (arr2 hxs)).mono fun e w' ⟨v',q1,q2,q3⟩=>⟨v',q1,by simp only [VR]; exact q2,q3⟩
   ·cases hg
  ·cases hg
 ·intro args v hg ι w xs _ _ hx
  have key:∀ (b1 b2:ByteArray) (c:UInt8),b2.data.toList=[c]→xs=#[.string b1,.string b2] →
    Calls prog 86 xs w fun e w'=>∃ v',e=.returned v'∧v'=.int .i64 (Lib.indexByte b1.data.toList c)∧Quiet w w':=fun b1 b2 c hc e1=>by
   subst e1
   obtain ⟨⟨l2⟩⟩:=b2
   simp only at hc
   subst hc
   refine (Tryz.strings_Index_one b1 c w).mono fun e w' ⟨h1,h2⟩=>?_
   subst h1 h2
   exact ⟨_,rfl,rfl,Quiet.refl _⟩
  unfold gIndex at hg
  split at hg
  ·rename_i s c
   cases hg
   simp only [VRL,VR] at hx
   obtain ⟨_,_,hxs,⟨b1,rfl,rfl⟩,_,_,rfl,⟨b2,h2,rfl⟩,rfl⟩:=hx
   exact (key b1 b2 c h2 (arr2 hxs)).mono fun e w' ⟨v',q1,q2,q3⟩=>⟨v',q1,by simp only [VR]; exact q2,q3⟩
  ·rename_i x c _
   split at hg
   ·rename_i s hs
    cases hg
    simp only [VRL] at hx
    obtain ⟨_,_,hxs,q1,_,_,rfl,q2,rfl⟩:=hx
    obtain ⟨b1,rfl,rfl⟩:=sstr_VR hs q1
    simp only [VR] at q2
    obtain ⟨b2,h2,rfl⟩:=q2
    exact (key b1 b2 c h2 (arr2 hxs)).mono fun e w' ⟨v',q1,q2,q3⟩=>⟨v',q1,by simp only [VR]; exact q2,q3⟩
   ·cases hg
  ·cases hg
 ·intro args v hg ι w xs _ _ hx
  have key:∀ (b1:ByteArray) (n:Int),b1.data.toList.length≤18→Lib.atoi b1.data.toList=some n→xs=#[.string b1] →
    Calls prog 145 xs w fun e w'=>∃ v',e=.returned v'∧v'=.tuple #[.int .i64 n,.nilIface]∧Quiet w w':=fun b1 n h1 h2 e1=>by
   subst e1
   have hl1:b1.data.toList.length=b1.size:=by simp
   refine (Tryz.strconv_Atoi b1 n (by omega) h2 w).mono fun e w' ⟨h1',t,h2'⟩=>?_
   subst h1' h2'
   have hb:=Go.Joins.below_bytesWorld w.heap.size w 5 t (Nat.le_refl _)
   exact ⟨_,rfl,rfl,⟨hb.size,hb.block,hb.tape,hb.os,hb.output⟩⟩
  unfold gAtoi at hg
  split at hg
  ·rename_i s
   split at hg
   ·rename_i n hn
    cases hb:decide (s.length≤18) with
    | false=>rw [hb] at hg; cases hg
    | true =>
     rw [hb] at hg
     cases hg
     simp only [VRL,VR] at hx
     obtain ⟨_,_,hxs,⟨b1,rfl,rfl⟩,rfl⟩:=hx
     refine (key b1 n (of_decide_eq_true hb) hn (arr1 hxs)).mono fun e w' ⟨v',q1,q2,q3⟩=>⟨v',q1,?_,q3⟩
     subst q2
     simp only [VR,VRL]
     exact ⟨_,rfl,_,_,rfl,rfl,_,_,rfl,rfl,rfl⟩
   ·cases hg
  ·rename_i x _
   split at hg
   ·rename_i s hs
    obtain ⟨h1,h2⟩:=Tr.br_get0 hg
    cases h2
    simp only [Bool.and_eq_true,decide_eq_true_eq] at h1
    simp only [VRL] at hx
    obtain ⟨_,_,hxs,q1,rfl⟩:=hx
    obtain ⟨b1,rfl,rfl⟩:=sstr_VR hs q1
    obtain ⟨n,hn⟩:=Option.isSome_iff_exists.1 h1.2
    refine (key b1 n h1.1 hn (arr1 hxs)).mono fun e w' ⟨v',q1,q2,q3⟩=>⟨v',q1,?_,q3⟩
    subst q2
    rw [hn]
    simp only [VR,VRL]
    exact ⟨_,rfl,_,_,rfl,rfl,_,_,rfl,rfl,rfl⟩
   ·cases hg
  ·cases hg
end Go.Proofs.Tryz
