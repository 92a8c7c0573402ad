/- The lexer's program: what the library's functions give, as known functions of the evaluator. -/
import Derived.Test.YteobbbhfocbgkaaGreatDoorAdPrim
import Derived.Test.YteobbbhfocbgkaaGreatDoorAdPat
import Derived.Test.YteobbbhfocbgkaaGreatDoorShelf
import Derived.Lib.LaidTab
import Derived.Lib.ItoaNum
import Derived.KernelRfl
import Derived.Lib.SmallJoins
import Derived.Test.YteobbbhfocbgkaaGreatDoorAdRat
namespace Go.Proofs.Tryz
open Go.Ad
theorem hmix:prog.follows .mixedOrders=true:=by kernel_rfl
theorem hnum:NoNum prog:=by
 have h:(prog.funcs.all fun fn=>decide (fn.name ≠ "runtime.NumGoroutine"))=true:=by kernel_rfl
 intro f fn hf
 exact of_decide_eq_true (Array.all_eq_true_iff_forall_mem.1 h fn (Array.mem_of_getElem? hf))
theorem started:decide (prog.globals.size < (begin prog (fun _ _=>0) default).world.heap.size)=true:=by kernel_rfl
theorem gsz:prog.globals.size=8:=by kernel_rfl
def byteOf (c:Int):UInt8:=c.toNat.toUInt8
def gIndexByte:List AV→Tr AV
 | [.str s,.int .u8 c]=>.leaf (.int .i64 (Lib.indexByte s (byteOf c)))
 | [x,y]=>match sstr? x,snum y with
  | some s,some (.u8,c)=>.leaf (.sint .i64 (Lib.indexByte s (byteOf c)))
  | _,_=>.fail
 | _=>.fail
def gCompare:List AV→Option AV
 | [.str a,.str b]=>some (.int .i64 (Lib.compareBytes a b))
 | [x,y]=>match sstr? x,sstr? y with
  | some a,some b=>some (.sint .i64 (Lib.compareBytes a b))
  | _,_=>none
 | _=>none
def gItoa:List AV→Tr AV
 | [.int .i64 n]=>if decide (-9223372036854775808≤n) && decide (n≤9223372036854775807) then .leaf (.str (Lib.itoa n)) else .fail
 | [x]=>match snum x with
  | some (.i64,n)=>.br (decide (-9223372036854775808≤n∧n≤9223372036854775807)) (.leaf (.sstr (Lib.itoa n))) .fail
  | _=>.fail
 | _=>.fail
def Tab (A:Amb):Prop:=∀ w:World,(∀ c,c < A.G→w.heap[c]?=A.base c)→Lib.TabIs prog w "internal/strconv.uint64pow10" .u64 Lib.pow10Tab
theorem tab_of {W:World} (hG:prog.globals.size≤W.heap.size) (h:Lib.TabIs prog W "internal/strconv.uint64pow10" .u64 Lib.pow10Tab):Tab (ambOf W):=fun w hw=>by
 have hg:prog.globalNamed "internal/strconv.uint64pow10"=some 1:=by kernel_rfl
 have h6:1 < W.heap.size:=Nat.lt_of_lt_of_le (by rw [gsz]; omega) hG
 unfold Lib.TabIs World.var? at h ⊢
 rw [hg] at h ⊢
 simp only [Option.bind_some] at h ⊢
 rw [hw 1 h6]; exact h
theorem laidVars_tail {P:Program} {W:World} {x:String × DataW Unit} {r:List (String × DataW Unit)} (h:laidMet P (x :: r) W):laidMet P r W:=by
 obtain ⟨ps,⟨g,t,cs,fuel,p,q,h1,h2,h3,h4,h5,rfl⟩,hn,hc⟩:=h
 exact ⟨q,h5,(List.nodup_append.1 hn).2.1,fun b off hm=>hc b off (List.mem_append_right _ hm)⟩
theorem grow_quiet (w:World) (k:Nat) (os:Array Obj):Quiet w (Go.Sort.grow (w.drewN k) os) :=
 ⟨by simp [Go.Sort.grow,World.drewN],fun c hc=>by simp [Go.Sort.grow,World.drewN,Array.getElem?_append,hc],rfl,rfl,rfl⟩
def lib:Prims:=(((noPrims.addt 138 gIndexByte).add 136 gCompare).addt 50 gItoa).addx 183 gSame
theorem arr1 {xs:Array Value} {a:Value} (h:xs.toList=[a]):xs=#[a]:=by apply Array.ext'; simpa using h
theorem arr2 {xs:Array Value} {a b:Value} (h:xs.toList=[a,b]):xs=#[a,b]:=by apply Array.ext'; simpa using h
theorem lib_ok {A:Amb} (hT:Tab A):PrimOK prog A lib:=by
 refine PrimOK.noEscape (fn:=f183) (PrimOK.libt (PrimOK.lib (PrimOK.libt PrimOK.none func138 (by kernel_rfl) ?_) func136 (by kernel_rfl) ?_) func50 (by kernel_rfl) ?_) func183 (by kernel_rfl) (by kernel_rfl) (by rfl) (by rfl)
 ·intro args v hg ι w xs _ _ hx
  have key:∀ (b1:ByteArray) (c:Int),xs=#[.string b1,.int .u8 c]→Calls prog 138 xs w fun e w'=>∃ v',e=.returned v'∧v'=.int .i64 (Lib.indexByte b1.data.toList (byteOf c))∧Quiet w w':=fun b1 c e1=>by
   subst e1
   refine (stringslite_IndexByte b1 c w).mono fun e w' ⟨h1,h2⟩=>?_
   subst h1 h2
   exact ⟨_,rfl,rfl,Quiet.refl _⟩
  unfold gIndexByte at hg
  split at hg
  ·rename_i s c
   cases hg
   simp only [VRL,VR] at hx
   obtain ⟨_,_,hxs,⟨b1,rfl,rfl⟩,_,_,rfl,rfl,rfl⟩:=hx
   exact (key b1 c (arr2 hxs)).mono fun e w' ⟨v',q1,q2,q3⟩=>⟨v',q1,by simp only [VR]; exact q2,q3⟩
  ·rename_i x y _
   split at hg
   ·rename_i s c hs hc
    cases hg
    simp only [VRL] at hx
    obtain ⟨_,_,hxs,h1,_,_,rfl,h2,rfl⟩:=hx
    obtain ⟨b1,rfl,rfl⟩:=sstr_VR hs h1
    have h2:=snum_VR hc h2
    subst h2
    exact (key b1 c (arr2 hxs)).mono fun e w' ⟨v',q1,q2,q3⟩=>⟨v',q1,by simp only [VR]; exact q2,q3⟩
   ·cases hg
  ·cases hg
 ·intro args v hg ι w xs _ _ hx
  have key:∀ (b1 b2:ByteArray),xs=#[.string b1,.string b2]→Calls prog 136 xs w fun e w'=>∃ v',e=.returned v'∧v'=.int .i64 (Lib.compareBytes b1.data.toList b2.data.toList)∧Quiet w w':=fun b1 b2 e1=>by
   subst e1
   refine (strings_Compare b1 b2 w).mono fun e w' ⟨h1,h2⟩=>?_
   subst h1 h2
   exact ⟨_,rfl,rfl,Quiet.refl _⟩
  unfold gCompare at hg
  split at hg
  ·rename_i s c
   cases hg
   simp only [VRL,VR] at hx
   obtain ⟨_,_,hxs,⟨b1,rfl,rfl⟩,_,_,rfl,⟨b2,rfl,rfl⟩,rfl⟩:=hx
   exact (key b1 b2 (arr2 hxs)).mono fun e w' ⟨v',q1,q2,q3⟩=>⟨v',q1,by simp only [VR]; exact q2,q3⟩
  ·rename_i x y _
   split at hg
   ·rename_i s c hs hc
    cases hg
    simp only [VRL] at hx
    obtain ⟨_,_,hxs,h1,_,_,rfl,h2,rfl⟩:=hx
    obtain ⟨b1,rfl,rfl⟩:=sstr_VR hs h1
    obtain ⟨b2,rfl,rfl⟩:=sstr_VR hc h2
    exact (key b1 b2 (arr2 hxs)).mono fun e w' ⟨v',q1,q2,q3⟩=>⟨v',q1,by simp only [VR]; exact q2,q3⟩
   ·cases hg
  ·cases hg
 ·intro args v hg ι w xs hamb _ hx
  have key:∀ n:Int,-9223372036854775808≤n→n≤9223372036854775807→xs=#[.int .i64 n]→Calls prog 50 xs w fun e w'=>∃ v',e=.returned v'∧(∃ b:ByteArray,b.data.toList=Lib.itoa n∧v'=.string b)∧Quiet w w':=fun n h0 h1 e1=>by
   subst e1
   refine (internal_strconv_Itoa n h0 h1 w (hT w hamb)).mono fun e w' ⟨h1,k,os,h2⟩=>?_
   subst h1 h2
   exact ⟨_,rfl,⟨_,rfl,rfl⟩,grow_quiet _ _ _⟩
  unfold gItoa at hg
  split at hg
  ·rename_i n
   split at hg
   ·rename_i hc
    cases hg
    simp only [Bool.and_eq_true,decide_eq_true_eq] at hc
    simp only [VRL,VR] at hx
    obtain ⟨_,_,hxs,rfl,rfl⟩:=hx
    exact (key n hc.1 hc.2 (arr1 hxs)).mono fun e w' ⟨v',q1,q2,q3⟩=>⟨v',q1,by simp only [VR]; exact q2,q3⟩
   ·cases hg
  ·rename_i x _
   split at hg
   ·rename_i n hn
    obtain ⟨hc,hv⟩:=Tr.br_get0 hg
    cases hv
    have hc:=of_decide_eq_true hc
    simp only [VRL] at hx
    obtain ⟨_,_,hxs,h1,rfl⟩:=hx
    have h1:=snum_VR hn h1
    subst h1
    exact (key n hc.1 hc.2 (arr1 hxs)).mono fun e w' ⟨v',q1,q2,q3⟩=>⟨v',q1,by simp only [VR]; exact q2,q3⟩
   ·cases hg
  ·cases hg
end Go.Proofs.Tryz
namespace Go.Proofs.Tryz
open Go.Ad
def trimOK (cs:List UInt8):Bool:=cs.all (fun b=>decide (b.toNat < 128)) && decide (cs.length≤1000)
def gTrim:List AV→Tr AV
 | [.str s,.str cs]=>bif trimOK cs && decide (s.length≤9223372036854775807) then .leaf (.str (Lib.trimS s cs)) else .fail
 | [x,.str cs]=>match sstr? x with
  | some s=>bif trimOK cs then .br (decide (s.length≤9223372036854775807)) (.leaf (.sstr (Lib.trimS s cs))) .fail else .fail
  | none=>.fail
 | _=>.fail
def gAtoi:List AV→Tr AV
 | [.str s]=>match Lib.atoi s with
  | some n=>bif decide (s.length≤18) then .leaf (.tuple [.int .i64 n,.nilIface]) else .fail
  | none=>.fail
 | [x]=>match sstr? x with
  | some s=>.br (decide (s.length≤18) && (Lib.atoi s).isSome) (.leaf (.tuple [.sint .i64 ((Lib.atoi s).getD 0),.nilIface])) .fail
  | none=>.fail
 | _=>.fail
def lib2:Prims:=(lib.addt 94 gTrim).addt 62 gAtoi
theorem ascii_of_all {b:ByteArray} (h:b.data.toList.all (fun c=>decide (c.toNat < 128))=true):∀ (j:Nat) (c:UInt8),b.data.toList[j]?=some c→c.toNat < 128:=fun j c hc=>by
 have:=List.all_eq_true.1 h c (List.mem_of_getElem? hc)
 exact of_decide_eq_true this
theorem lib2_ok {A:Amb} (hT:Tab A):PrimOK prog A lib2:=by
 refine PrimOK.libt (PrimOK.libt (lib_ok hT) func94 (by kernel_rfl) ?_) func62 (by kernel_rfl) ?_
 ·intro args v hg ι w xs _ _ hx
  have key:∀ (b1 b2:ByteArray),trimOK b2.data.toList=true→b1.data.toList.length≤9223372036854775807→xs=#[.string b1,.string b2] →
    Calls prog 94 xs w fun e w'=>∃ v',e=.returned v'∧(∃ b:ByteArray,b.data.toList=Lib.trimS b1.data.toList b2.data.toList∧v'=.string b)∧Quiet w w':=fun b1 b2 h1 h2 e1=>by
   subst e1
   simp only [trimOK,Bool.and_eq_true,decide_eq_true_eq] at h1
   have hl1:b1.data.toList.length=b1.size:=by simp
   have hl2:b2.data.toList.length=b2.size:=by simp
   refine (Any.strings_Trim_laid Tryz.lays160 (by kernel_rfl) b1 b2 w (by omega) (by omega) (ascii_of_all h1.1)).mono fun e w' ⟨h1,h2⟩=>?_
   subst h1
   exact ⟨_,rfl,⟨_,by simp,rfl⟩,⟨h2.size,h2.block,h2.tape,h2.os,h2.output⟩⟩
  unfold gTrim at hg
  split at hg
  ·rename_i s cs
   cases hb:(trimOK cs && decide (s.length≤9223372036854775807)) with
   | false=>rw [hb] at hg; cases hg
   | true =>
    rw [hb] at hg
    cases hg
    simp only [Bool.and_eq_true,decide_eq_true_eq] at hb
    simp only [VRL,VR] at hx
    obtain ⟨_,_,hxs,⟨b1,rfl,rfl⟩,_,_,rfl,⟨b2,rfl,rfl⟩,rfl⟩:=hx
    exact (key b1 b2 hb.1 hb.2 (arr2 hxs)).mono fun e w' ⟨v',q1,q2,q3⟩=>⟨v',q1,by simp only [VR]; exact q2,q3⟩
  ·rename_i x cs _
   split at hg
   ·rename_i s hs
    cases hb:trimOK cs with
    | false=>rw [hb] at hg; cases hg
    | true =>
     rw [hb] at hg
     obtain ⟨h1,h2⟩:=Tr.br_get0 hg
     cases h2
     rw [decide_eq_true_eq] at h1
     simp only [VRL] at hx
     obtain ⟨_,_,hxs,q1,_,_,rfl,q2,rfl⟩:=hx
     obtain ⟨b1,rfl,rfl⟩:=sstr_VR hs q1
     simp only [VR] at q2
     obtain ⟨b2,rfl,rfl⟩:=q2
     exact (key b1 b2 hb h1 (arr2 hxs)).mono fun e w' ⟨v',q1,q2,q3⟩=>⟨v',q1,by simp only [VR]; exact q2,q3⟩
   ·cases hg
  ·cases hg
 ·intro args v hg ι w xs _ _ hx
  have key:∀ (b1:ByteArray) (n:Int),b1.data.toList.length≤18→Lib.atoi b1.data.toList=some n→xs=#[.string b1] →
    Calls prog 62 xs w fun e w'=>∃ v',e=.returned v'∧v'=.tuple #[.int .i64 n,.nilIface]∧Quiet w w':=fun b1 n h1 h2 e1=>by
   subst e1
   have hl1:b1.data.toList.length=b1.size:=by simp
   refine (Tryz.strconv_Atoi b1 n (by omega) h2 w).mono fun e w' ⟨h1',t,h2'⟩=>?_
   subst h1' h2'
   have hb:=Go.Joins.below_bytesWorld w.heap.size w 5 t (Nat.le_refl _)
   exact ⟨_,rfl,rfl,⟨hb.size,hb.block,hb.tape,hb.os,hb.output⟩⟩
  unfold gAtoi at hg
  split at hg
  ·rename_i s
   split at hg
   ·rename_i n hn
    cases hb:decide (s.length≤18) with
    | false=>rw [hb] at hg; cases hg
    | true =>
     rw [hb] at hg
     cases hg
     simp only [VRL,VR] at hx
     obtain ⟨_,_,hxs,⟨b1,rfl,rfl⟩,rfl⟩:=hx
     refine (key b1 n (of_decide_eq_true hb) hn (arr1 hxs)).mono fun e w' ⟨v',q1,q2,q3⟩=>⟨v',q1,?_,q3⟩
     subst q2
     simp only [VR,VRL]
     exact ⟨_,rfl,_,_,rfl,rfl,_,_,rfl,rfl,rfl⟩
   ·cases hg
  ·rename_i x _
   split at hg
   ·rename_i s hs
    obtain ⟨h1,h2⟩:=Tr.br_get0 hg
    cases h2
    simp only [Bool.and_eq_true,decide_eq_true_eq] at h1
    simp only [VRL] at hx
    obtain ⟨_,_,hxs,q1,rfl⟩:=hx
    obtain ⟨b1,rfl,rfl⟩:=sstr_VR hs q1
    obtain ⟨n,hn⟩:=Option.isSome_iff_exists.1 h1.2
    refine (key b1 n h1.1 hn (arr1 hxs)).mono fun e w' ⟨v',q1,q2,q3⟩=>⟨v',q1,?_,q3⟩
    subst q2
    rw [hn]
    simp only [VR,VRL]
    exact ⟨_,rfl,_,_,rfl,rfl,_,_,rfl,rfl,rfl⟩
   ·cases hg
  ·cases hg
end Go.Proofs.Tryz
namespace Go.Proofs.Tryz
open Go.Ad
open Go.Lib (decDigits itoa nDigits decFrom digitVal)
theorem brK_ite {β:Type} {b:Bool} {t f:Option β}:brK b t f=if b=true then t else f:=by cases b <;> rfl
def sgnIx (c:Int):Int:=Lib.indexByte [44,59,58,40,41,91,93,61,43,45,42,47,60,62,124,35] (byteOf c)
def clsI (c:Int):Int:=if (97≤c∧c≤122) ∨ (65≤c∧c≤90) then 1 else if 48≤c∧c≤57 then 2 else if c=95 then 3 else if c=32 then 5 else if 0≤sgnIx c then 4 else 0
theorem vr_int {ι:Emb} {k:IntKind} {n m:Int} (e:n=m) (x:Value) (h:VR ι (.int k n) x):VR ι (.sint k m) x:=by subst e; simpa only [VR] using h
theorem vr_bool {ι:Emb} {n m:Bool} (e:n=m) (x:Value) (h:VR ι (.bool n) x):VR ι (.sbool m) x:=by subst e; simpa only [VR] using h
theorem vr_sbool {ι:Emb} {n m:Bool} (e:n=m) (x:Value) (h:VR ι (.sbool n) x):VR ι (.sbool m) x:=by subst e; exact h
def dr (n:Nat):List Pt:=List.replicate n .drop
def dd8:List OP:=List.replicate 8 .dead
abbrev W (n:Int):Int:=IntKind.i64.wrap n
def szOK (s:List UInt8):Bool:=decide (s.length < 2 ^ 62)
def pCl (cs:List Int) (s:List UInt8) (n:Nat):Bool:=cs.any fun k=>clsI (bAt s n) == k
def lenC (cs:List Int) (s:List UInt8):Nat:=scanN (pCl cs s) s.length 0
theorem lenC_le (cs:List Int) (s:List UInt8):lenC cs s≤s.length:=by
 have:=(scanN_le (pCl cs s) s.length 0).2; simpa [lenC] using this
def gErr (g:List UInt8→Int):List Lf→Tr AV
 | [.s s]=>.br (szOK s) (.leaf (.sint .i64 (g s))) .fail
 | _=>.fail
theorem vr_tup3 {ι:Emb} {a b c a' b' c':AV} (h1:∀ v,VR ι a v→VR ι a' v) (h2:∀ v,VR ι b v→VR ι b' v) (h3:∀ v,VR ι c v→VR ι c' v) (x:Value) (h:VR ι (.tuple [a,b,c]) x):VR ι (.tuple [a',b',c']) x:=by
 simp only [VR,VRL] at h ⊢
 obtain ⟨xs,rfl,x1,r1,e1,q1,x2,r2,e2,q2,x3,r3,e3,q3,q4⟩:=h
 exact ⟨xs,rfl,x1,r1,e1,h1 _ q1,x2,r2,e2,h2 _ q2,x3,r3,e3,h3 _ q3,q4⟩
def trimZ (a:List UInt8):List UInt8:=a.dropWhile (· == 48)
def digV (acc:Nat) (s:List UInt8):Nat:=s.foldl (fun n b=>n*10+(b.toNat - 48)) acc
theorem decFrom_digV:∀ (s:List UInt8) (acc:Nat),s.all isDg=true→decFrom acc s=some (digV acc s)
 | [],_,_=>rfl
 | b :: r,acc,h=>by
  rw [List.all_cons,Bool.and_eq_true] at h
  have hb:48≤b.toNat∧b.toNat≤57:=by simpa [isDg] using h.1
  have hd:digitVal b=some (b.toNat - 48):=by unfold digitVal; rw [if_pos hb]
  simp only [decFrom,hd]
  exact decFrom_digV r _ h.2
theorem dvalN_digV {s:List UInt8} (h:s.all isDg=true):dvalN s=digV 0 s:=by
 unfold dvalN
 rw [decFrom_digV s 0 h]; rfl
theorem trimZ_cons (b:UInt8) (r:List UInt8):trimZ (b :: r)=if b=48 then trimZ r else b :: r:=by
 by_cases h:b=48
 ·subst h; rfl
 ·rw [if_neg h]
  show (match (b == 48) with | true=>_ | false=>_)=_
  rw [show (b == 48)=false by simpa using h]
theorem digV_trimZ:∀ s:List UInt8,digV 0 (trimZ s)=digV 0 s
 | []=>rfl
 | b :: r=>by
  rw [trimZ_cons]
  by_cases h:b=48
  ·rw [if_pos h,digV_trimZ r]
   subst h; rfl
  ·rw [if_neg h]
theorem trimZ_all:∀ {s:List UInt8},s.all isDg=true→(trimZ s).all isDg=true
 | [],_=>rfl
 | b :: r,h=>by
  rw [trimZ_cons]
  by_cases hb:b=48
  ·rw [if_pos hb]
   rw [List.all_cons,Bool.and_eq_true] at h
   exact trimZ_all h.2
  ·rw [if_neg hb]; exact h
theorem trimZ_head:∀ {s:List UInt8},(trimZ s).headD 0 ≠ 48
 | []=>by simp [trimZ]
 | b :: r=>by
  rw [trimZ_cons]
  by_cases hb:b=48
  ·rw [if_pos hb]; exact trimZ_head
  ·rw [if_neg hb]; exact hb
theorem trimZ_itoa {s:List UInt8} (h:s.all isDg=true):(if trimZ s=[] then [48] else trimZ s)=itoa (digV 0 s):=by
 by_cases h0:trimZ s=[]
 ·rw [if_pos h0]
  have:=digV_trimZ s
  rw [h0] at this
  rw [← this]
  exact itoa0.symm
 ·rw [if_neg h0,Lib.itoa_nonneg]
  have h1:=digits_dec _ (trimZ s) rfl h0 (trimZ_all h) (.inl trimZ_head)
  rw [dvalN_digV (trimZ_all h),digV_trimZ] at h1
  exact h1
theorem digV_lt:∀ (s:List UInt8) (acc:Nat),s.all isDg=true→digV acc s < (acc+1)*10 ^ s.length
 | [],acc,_=>by show acc < _; simp
 | b :: r,acc,h=>by
  rw [List.all_cons,Bool.and_eq_true] at h
  have hb:48≤b.toNat∧b.toNat≤57:=by simpa [isDg] using h.1
  have:=digV_lt r (acc*10+(b.toNat - 48)) h.2
  show digV (acc*10+(b.toNat - 48)) r < _
  rw [List.length_cons,Nat.pow_succ,Nat.mul_comm (10 ^ r.length) 10,← Nat.mul_assoc]
  exact Nat.lt_of_lt_of_le this (Nat.mul_le_mul_right _ (by omega))
theorem isDg_cls {s:List UInt8} {i:Nat}:pCl [2] s i=isDg (s.getD i 0):=by
 unfold pCl isDg
 simp only [List.any_cons,List.any_nil,Bool.or_false]
 unfold bAt clsI
 have hlt:=(s.getD i 0).toNat_lt
 by_cases h1:48≤(s.getD i 0).toNat∧(s.getD i 0).toNat≤57
 ·rw [if_neg (by omega),if_pos (by omega),decide_eq_true h1.1,decide_eq_true h1.2]; rfl
 ·have:(decide (48≤(s.getD i 0).toNat) && decide ((s.getD i 0).toNat≤57))=false:=by simpa using h1
  rw [this]
  split
  ·rfl
  ·rw [if_neg (by omega)]
   split
   ·rfl
   ·split
    ·rfl
    ·split <;> rfl
theorem lenC_tw (s:List UInt8):lenC [2] s=(s.takeWhile isDg).length:=by
 have hs:=List.takeWhile_append_dropWhile (p:=isDg) (l:=s)
 have hle:(s.takeWhile isDg).length≤s.length:=by
  have:=congrArg List.length hs
  rw [List.length_append] at this
  omega
 unfold lenC
 refine scanN_unique (Nat.zero_le _) (by omega) (fun j _ hj=>?_) (fun hl=>?_)
 ·rw [isDg_cls]
  have hg:s.getD j 0=(s.takeWhile isDg).getD j 0:=by
   conv=>lhs; rw [← hs]
   rw [List.getD_eq_getElem?_getD,List.getD_eq_getElem?_getD,List.getElem?_append_left hj]
  rw [hg]
  have hm:(s.takeWhile isDg).getD j 0 ∈ s.takeWhile isDg:=by
   rw [List.getD_eq_getElem?_getD,List.getElem?_eq_getElem hj]
   exact List.getElem_mem hj
  have hall:=List.all_takeWhile (p:=isDg) (l:=s)
  exact List.all_eq_true.1 hall _ hm
 ·rw [isDg_cls]
  cases hd:s.dropWhile isDg with
  | nil =>
   rw [hd,List.append_nil] at hs
   rw [hs] at hl; omega
  | cons b r =>
   have hg:s.getD (s.takeWhile isDg).length 0=b:=by
    generalize s.takeWhile isDg=f at *
    rw [← hs,hd,List.getD_eq_getElem?_getD,List.getElem?_append_right (Nat.le_refl _)]
    simp
   rw [hg]
   have:=List.head?_dropWhile_not (p:=isDg) (l:=s)
   rw [hd] at this
   simpa using this
theorem all_tw {s:List UInt8} (h:(s.takeWhile isDg).length=s.length):s.all isDg=true:=by
 have hs:=List.takeWhile_append_dropWhile (p:=isDg) (l:=s)
 have hd:s.dropWhile isDg=[]:=by
  have:=congrArg List.length hs
  rw [List.length_append] at this
  exact List.eq_nil_of_length_eq_zero (by omega)
 rw [hd,List.append_nil] at hs
 rw [← hs]
 exact List.all_takeWhile
end Go.Proofs.Tryz
