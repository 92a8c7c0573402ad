/- The lexer's program: what the library's functions give, as known functions of the evaluator. -/
import Derived.Test.YtkfabaoichndpaaGreatDoorAdPrim
import Derived.Test.YtkfabaoichndpaaGreatDoorAdPat
import Derived.Test.YtkfabaoichndpaaGreatDoorShelf
import Derived.Lib.LaidTab
import Derived.Lib.ItoaNum
import Derived.KernelRfl
import Derived.Lib.SmallJoins
import Derived.Shelf.Strings.OnBuilder
namespace Go.Proofs.Tryz
open Go.Ad
theorem D6:prog.follows .mixedOrders=true:=by kernel_rfl
theorem D7:A0r prog:=by
 have h:(prog.funcs.all fun fn=>decide (fn.name ≠ "runtime.NumGoroutine"))=true:=by kernel_rfl
 intro f fn hf
 exact of_decide_eq_true (Array.all_eq_true_iff_forall_mem.1 h fn (Array.mem_of_getElem? hf))
theorem started:decide (prog.globals.size < (begin prog (fun _ _=>0) default).world.heap.size)=true:=by kernel_rfl
theorem gsz:gN prog=8:=by kernel_rfl
def byteOf (c:Int):UInt8:=c.toNat.toUInt8
def C0q:List AV->Tr AV
 | [.str s,.int .u8 c]=>.leaf (.int .i64 (Lib.indexByte s (byteOf c)))
 | [x,y]=>match sstr? x,H8 y with
  | some s,some (.u8,c)=>.leaf (.sint .i64 (Lib.indexByte s (byteOf c)))
  | _,_=>.fail
 | _=>.fail
def C9g:List AV->Option AV
 | [.str a,.str b]=>some (.int .i64 (Lib.compareBytes a b))
 | [x,y]=>match sstr? x,sstr? y with
  | some a,some b=>some (.sint .i64 (Lib.compareBytes a b))
  | _,_=>none
 | _=>none
def F8i:List AV->Tr AV
 | [.int .i64 n]=>if decide (-9223372036854775808<=n) && decide (n<=9223372036854775807) then .leaf (.str (Lib.itoa n)) else .fail
 | [x]=>match H8 x with
  | some (.i64,n)=>.br (decide (-9223372036854775808<=n/\n<=9223372036854775807)) (.leaf (.sstr (Lib.itoa n))) .fail
  | _=>.fail
 | _=>.fail
def Tab (A:Amb):Prop:=∀ w:World,(∀ c,c < A.G->w.heap[c]?=A.base c)->Lib.TabIs prog w "internal/strconv.uint64pow10" .u64 Lib.pow10Tab
theorem tab_of {W:World} (hG:gN prog<=W.heap.size) (h:Lib.TabIs prog W "internal/strconv.uint64pow10" .u64 Lib.pow10Tab):Tab (ambOf W):=fun w hw=>by
 have hg:prog.globalNamed "internal/strconv.uint64pow10"=some 6:=by kernel_rfl
 have h6:6 < W.heap.size:=Nat.lt_of_lt_of_le (by rw [gsz]; omega) hG
 unfold Lib.TabIs World.var? at h ⊢
 rw [hg] at h ⊢
 simp only [Option.bind_some] at h ⊢
 rw [hw 6 h6]; exact h
theorem J5 {P:Program} {W:World} {x:String × DataW Unit} {r:List (String × DataW Unit)} (h:laidMet P (x :: r) W):laidMet P r W:=by
 obtain ⟨ps,⟨g,t,cs,fuel,p,q,h1,h2,h3,h4,h5,rfl⟩,hn,hc⟩:=h
 exact ⟨q,h5,(List.nodup_append.1 hn).2.1,fun b off hm=>hc b off (List.mem_append_right _ hm)⟩
theorem D3k (w:World) (k:Nat) (os:Array Obj):Quiet w (Go.Sort.grow (w.drewN k) os) :=
 ⟨by simp [Go.Sort.grow,World.drewN],fun c hc=>by simp [Go.Sort.grow,World.drewN,Array.getElem?_append,hc],rfl,rfl,rfl⟩
def lib:Prims:=(((noPrims.addt 142 C0q).add 198 C9g).addt 79 F8i).addx 115 F2c
theorem E1i {xs:Array Value} {a:Value} (h:xs.toList=[a]):xs=#[a]:=by apply Array.ext'; simpa using h
theorem D1p {xs:Array Value} {a b:Value} (h:xs.toList=[a,b]):xs=#[a,b]:=by apply Array.ext'; simpa using h
theorem D5u {A:Amb} (hT:Tab A):PrimOK prog A lib:=by
 refine PrimOK.noEscape (fn:=f115) (PrimOK.libt (PrimOK.lib (PrimOK.libt PrimOK.none func142 (by kernel_rfl) ?_) func198 (by kernel_rfl) ?_) func79 (by kernel_rfl) ?_) func115 (by kernel_rfl) (by kernel_rfl) (by rfl) (by rfl)
 ·intro args v hg ι w xs _ _ hx
  have key:∀ (b1:ByteArray) (c:Int),xs=#[.string b1,.int .u8 c]->Calls prog 142 xs w fun e w'=>∃ v',e=.returned v'/\v'=.int .i64 (Lib.indexByte b1.data.toList (byteOf c))/\Quiet w w':=fun b1 c e1=>by
   subst e1
   refine (stringslite_IndexByte b1 c w).mono fun e w' ⟨h1,h2⟩=>?_
   subst h1 h2
   exact ⟨_,rfl,rfl,Quiet.refl _⟩
  unfold C0q at hg
  split at hg
  ·rename_i s c
   cases hg
   simp only [VRL,VR] at hx
   obtain ⟨_,_,hxs,⟨b1,rfl,rfl⟩,_,_,rfl,rfl,rfl⟩:=hx
   exact (key b1 c (D1p hxs)).mono fun e w' ⟨v',q1,q2,q3⟩=>⟨v',q1,by simp only [VR]; exact q2,q3⟩
  ·rename_i x y _
   split at hg
   ·rename_i s c hs hc
    cases hg
    simp only [VRL] at hx
    obtain ⟨_,_,hxs,h1,_,_,rfl,h2,rfl⟩:=hx
    obtain ⟨b1,rfl,rfl⟩:=K5 hs h1
    have h2:=F7 hc h2
    subst h2
    exact (key b1 c (D1p hxs)).mono fun e w' ⟨v',q1,q2,q3⟩=>⟨v',q1,by simp only [VR]; exact q2,q3⟩
   ·cases hg
  ·cases hg
 ·intro args v hg ι w xs _ _ hx
  have key:∀ (b1 b2:ByteArray),xs=#[.string b1,.string b2]->Calls prog 198 xs w fun e w'=>∃ v',e=.returned v'/\v'=.int .i64 (Lib.compareBytes b1.data.toList b2.data.toList)/\Quiet w w':=fun b1 b2 e1=>by
   subst e1
   refine (strings_Compare b1 b2 w).mono fun e w' ⟨h1,h2⟩=>?_
   subst h1 h2
   exact ⟨_,rfl,rfl,Quiet.refl _⟩
  unfold C9g at hg
  split at hg
  ·rename_i s c
   cases hg
   simp only [VRL,VR] at hx
   obtain ⟨_,_,hxs,⟨b1,rfl,rfl⟩,_,_,rfl,⟨b2,rfl,rfl⟩,rfl⟩:=hx
   exact (key b1 b2 (D1p hxs)).mono fun e w' ⟨v',q1,q2,q3⟩=>⟨v',q1,by simp only [VR]; exact q2,q3⟩
  ·rename_i x y _
   split at hg
   ·rename_i s c hs hc
    cases hg
    simp only [VRL] at hx
    obtain ⟨_,_,hxs,h1,_,_,rfl,h2,rfl⟩:=hx
    obtain ⟨b1,rfl,rfl⟩:=K5 hs h1
    obtain ⟨b2,rfl,rfl⟩:=K5 hc h2
    exact (key b1 b2 (D1p hxs)).mono fun e w' ⟨v',q1,q2,q3⟩=>⟨v',q1,by simp only [VR]; exact q2,q3⟩
   ·cases hg
  ·cases hg
 ·intro args v hg ι w xs hamb _ hx
  have key:∀ n:Int,-9223372036854775808<=n->n<=9223372036854775807->xs=#[.int .i64 n]->Calls prog 79 xs w fun e w'=>∃ v',e=.returned v'/\(∃ b:ByteArray,b.data.toList=Lib.itoa n/\v'=.string b)/\Quiet w w':=fun n h0 h1 e1=>by
   subst e1
   refine (internal_strconv_Itoa n h0 h1 w (hT w hamb)).mono fun e w' ⟨h1,k,os,h2⟩=>?_
   subst h1 h2
   exact ⟨_,rfl,⟨_,rfl,rfl⟩,D3k _ _ _⟩
  unfold F8i at hg
  split at hg
  ·rename_i n
   split at hg
   ·rename_i hc
    cases hg
    simp only [Bool.and_eq_true,decide_eq_true_eq] at hc
    simp only [VRL,VR] at hx
    obtain ⟨_,_,hxs,rfl,rfl⟩:=hx
    exact (key n hc.1 hc.2 (E1i hxs)).mono fun e w' ⟨v',q1,q2,q3⟩=>⟨v',q1,by simp only [VR]; exact q2,q3⟩
   ·cases hg
  ·rename_i x _
   split at hg
   ·rename_i n hn
    obtain ⟨hc,hv⟩:=Tr.br_get0 hg
    cases hv
    have hc:=of_decide_eq_true hc
    simp only [VRL] at hx
    obtain ⟨_,_,hxs,h1,rfl⟩:=hx
    have h1:=F7 hn h1
    subst h1
    exact (key n hc.1 hc.2 (E1i hxs)).mono fun e w' ⟨v',q1,q2,q3⟩=>⟨v',q1,by simp only [VR]; exact q2,q3⟩
   ·cases hg
  ·cases hg
end Go.Proofs.Tryz
namespace Go.Proofs.Tryz
open Go.Ad
def B4o (cs:List UInt8):Bool:=cs.all (fun b=>decide (b.toNat < 128)) && decide (cs.length<=1000)
def F7q:List AV->Tr AV
 | [.str s,.str cs]=>bif B4o cs && decide (s.length<=9223372036854775807) then .leaf (.str (Lib.trimS s cs)) else .fail
 | [x,.str cs]=>match sstr? x with
  | some s=>bif B4o cs then .br (decide (s.length<=9223372036854775807)) (.leaf (.sstr (Lib.trimS s cs))) .fail else .fail
  | none=>.fail
 | _=>.fail
def E8i:List AV->Tr AV
 | [.str s,.str [c]]=>.leaf (.int .i64 (Lib.indexByte s c))
 | [x,.str [c]]=>match sstr? x with
  | some s=>.leaf (.sint .i64 (Lib.indexByte s c))
  | none=>.fail
 | _=>.fail
def F7p:List AV->Tr AV
 | [.str s]=>match Lib.atoi s with
  | some n=>bif decide (s.length<=18) then .leaf (.tuple [.int .i64 n,.nilIface]) else .fail
  | none=>.fail
 | [x]=>match sstr? x with
  | some s=>.br (decide (s.length<=18) && (Lib.atoi s).isSome) (.leaf (.tuple [.sint .i64 ((Lib.atoi s).getD 0),.nilIface])) .fail
  | none=>.fail
 | _=>.fail
def lib2:Prims:=((lib.addt 57 F7q).addt 56 E8i).addt 54 F7p
theorem ascii_of_all {b:ByteArray} (h:b.data.toList.all (fun c=>decide (c.toNat < 128))=true):∀ (j:Nat) (c:UInt8),b.data.toList[j]?=some c->c.toNat < 128:=fun j c hc=>by
 have:=List.all_eq_true.1 h c (List.mem_of_getElem? hc)
 exact of_decide_eq_true this
theorem I8 {A:Amb} (hT:Tab A):PrimOK prog A lib2:=by
 refine PrimOK.libt (PrimOK.libt (PrimOK.libt (D5u hT) func57 (by kernel_rfl) ?_) func56 (by kernel_rfl) ?_) func54 (by kernel_rfl) ?_
 ·intro args v hg ι w xs _ _ hx
  have key:∀ (b1 b2:ByteArray),B4o b2.data.toList=true->b1.data.toList.length<=9223372036854775807->xs=#[.string b1,.string b2] ->
    Calls prog 57 xs w fun e w'=>∃ v',e=.returned v'/\(∃ b:ByteArray,b.data.toList=Lib.trimS b1.data.toList b2.data.toList/\v'=.string b)/\Quiet w w':=fun b1 b2 h1 h2 e1=>by
   subst e1
   simp only [B4o,Bool.and_eq_true,decide_eq_true_eq] at h1
   have hl1:b1.data.toList.length=b1.size:=by simp
   have hl2:b2.data.toList.length=b2.size:=by simp
   refine (Any.strings_Trim_laid Tryz.lays160 (by kernel_rfl) b1 b2 w (by omega) (by omega) (ascii_of_all h1.1)).mono fun e w' ⟨h1,h2⟩=>?_
   subst h1
   exact ⟨_,rfl,⟨_,by simp,rfl⟩,⟨h2.size,h2.block,h2.tape,h2.os,h2.output⟩⟩
  unfold F7q at hg
  split at hg
  ·rename_i s cs
   cases hb:(B4o cs && decide (s.length<=9223372036854775807)) with
   | false=>rw [hb] at hg; cases hg
   | true =>
    rw [hb] at hg
    cases hg
    simp only [Bool.and_eq_true,decide_eq_true_eq] at hb
    simp only [VRL,VR] at hx
    obtain ⟨_,_,hxs,⟨b1,rfl,rfl⟩,_,_,rfl,⟨b2,rfl,rfl⟩,rfl⟩:=hx
    exact (key b1 b2 hb.1 hb.2 (D1p hxs)).mono fun e w' ⟨v',q1,q2,q3⟩=>⟨v',q1,by simp only [VR]; exact q2,q3⟩
  ·rename_i x cs _
   split at hg
   ·rename_i s hs
    cases hb:B4o cs with
    | false=>rw [hb] at hg; cases hg
    | true =>
     rw [hb] at hg
     obtain ⟨h1,h2⟩:=Tr.br_get0 hg
     cases h2
     rw [decide_eq_true_eq] at h1
     simp only [VRL] at hx
     obtain ⟨_,_,hxs,q1,_,_,rfl,q2,rfl⟩:=hx
     obtain ⟨b1,rfl,rfl⟩:=K5 hs q1
     simp only [VR] at q2
     obtain ⟨b2,rfl,rfl⟩:=q2
     exact (key b1 b2 hb h1 (D1p hxs)).mono fun e w' ⟨v',q1,q2,q3⟩=>⟨v',q1,by simp only [VR]; exact q2,q3⟩
   ·cases hg
  ·cases hg
 ·intro args v hg ι w xs _ _ hx
  have key:∀ (b1 b2:ByteArray) (c:UInt8),b2.data.toList=[c]->xs=#[.string b1,.string b2] ->
    Calls prog 56 xs w fun e w'=>∃ v',e=.returned v'/\v'=.int .i64 (Lib.indexByte b1.data.toList c)/\Quiet w w':=fun b1 b2 c hc e1=>by
   subst e1
   obtain ⟨⟨l2⟩⟩:=b2
   simp only at hc
   subst hc
   refine (Tryz.strings_Index_one b1 c w).mono fun e w' ⟨h1,h2⟩=>?_
   subst h1 h2
   exact ⟨_,rfl,rfl,Quiet.refl _⟩
  unfold E8i at hg
  split at hg
  ·rename_i s c
   cases hg
   simp only [VRL,VR] at hx
   obtain ⟨_,_,hxs,⟨b1,rfl,rfl⟩,_,_,rfl,⟨b2,h2,rfl⟩,rfl⟩:=hx
   exact (key b1 b2 c h2 (D1p hxs)).mono fun e w' ⟨v',q1,q2,q3⟩=>⟨v',q1,by simp only [VR]; exact q2,q3⟩
  ·rename_i x c _
   split at hg
   ·rename_i s hs
    cases hg
    simp only [VRL] at hx
    obtain ⟨_,_,hxs,q1,_,_,rfl,q2,rfl⟩:=hx
    obtain ⟨b1,rfl,rfl⟩:=K5 hs q1
    simp only [VR] at q2
    obtain ⟨b2,h2,rfl⟩:=q2
    exact (key b1 b2 c h2 (D1p hxs)).mono fun e w' ⟨v',q1,q2,q3⟩=>⟨v',q1,by simp only [VR]; exact q2,q3⟩
   ·cases hg
  ·cases hg
 ·intro args v hg ι w xs _ _ hx
  have key:∀ (b1:ByteArray) (n:Int),b1.data.toList.length<=18->Lib.atoi b1.data.toList=some n->xs=#[.string b1] ->
    Calls prog 54 xs w fun e w'=>∃ v',e=.returned v'/\v'=.tuple #[.int .i64 n,.nilIface]/\Quiet w w':=fun b1 n h1 h2 e1=>by
   subst e1
   have hl1:b1.data.toList.length=b1.size:=by simp
   refine (Tryz.strconv_Atoi b1 n (by omega) h2 w).mono fun e w' ⟨h1',t,h2'⟩=>?_
   subst h1' h2'
   have hb:=Go.Joins.below_bytesWorld w.heap.size w 5 t (Nat.le_refl _)
   exact ⟨_,rfl,rfl,⟨hb.size,hb.block,hb.tape,hb.os,hb.output⟩⟩
  unfold F7p at hg
  split at hg
  ·rename_i s
   split at hg
   ·rename_i n hn
    cases hb:decide (s.length<=18) with
    | false=>rw [hb] at hg; cases hg
    | true =>
     rw [hb] at hg
     cases hg
     simp only [VRL,VR] at hx
     obtain ⟨_,_,hxs,⟨b1,rfl,rfl⟩,rfl⟩:=hx
     refine (key b1 n (of_decide_eq_true hb) hn (E1i hxs)).mono fun e w' ⟨v',q1,q2,q3⟩=>⟨v',q1,?_,q3⟩
     subst q2
     simp only [VR,VRL]
     exact ⟨_,rfl,_,_,rfl,rfl,_,_,rfl,rfl,rfl⟩
   ·cases hg
  ·rename_i x _
   split at hg
   ·rename_i s hs
    obtain ⟨h1,h2⟩:=Tr.br_get0 hg
    cases h2
    simp only [Bool.and_eq_true,decide_eq_true_eq] at h1
    simp only [VRL] at hx
    obtain ⟨_,_,hxs,q1,rfl⟩:=hx
    obtain ⟨b1,rfl,rfl⟩:=K5 hs q1
    obtain ⟨n,hn⟩:=Option.isSome_iff_exists.1 h1.2
    refine (key b1 n h1.1 hn (E1i hxs)).mono fun e w' ⟨v',q1,q2,q3⟩=>⟨v',q1,?_,q3⟩
    subst q2
    rw [hn]
    simp only [VR,VRL]
    exact ⟨_,rfl,_,_,rfl,rfl,_,_,rfl,rfl,rfl⟩
   ·cases hg
  ·cases hg
end Go.Proofs.Tryz
namespace Go.Proofs.Tryz
open Go.Ad
def F0u:List AV->Option AV
 | [.str s]=>if decide (s.length<=100) && s.all (fun b=>decide (b.toNat < 128)) then some (.str (Lib.toUpperA s)) else none
 | _=>none
def known:Prims:=lib2.add 45 F0u
theorem C9u {A:Amb} (hT:Tab A) (hG:gN prog<=A.G):PrimOK prog A known:=by
 refine PrimOK.lib (I8 hT) func45 (by kernel_rfl) ?_
 intro args v hg ι w xs _ _ hx
 unfold F0u at hg
 split at hg
 ·rename_i s
  split at hg
  ·rename_i hc
   cases hg
   simp only [Bool.and_eq_true,decide_eq_true_eq,List.all_eq_true] at hc
   simp only [VRL,VR] at hx
   obtain ⟨_,_,hxs,⟨b1,rfl,rfl⟩,rfl⟩:=hx
   have e1:xs=#[.string b1]:=by apply Array.ext'; simpa using hxs
   subst e1
   have hlen:b1.data.toList.length=b1.size:=by simp
   refine (strings_ToUpper_ascii b1 w (by omega) (fun j b hb=>hc.2 b (List.mem_of_getElem? hb))).mono fun e w' ⟨h1,h2⟩=>?_
   subst h1
   refine ⟨_,rfl,?_,⟨h2.size,h2.block,h2.tape,h2.os,h2.output⟩⟩
   simp only [VR]
   exact ⟨_,rfl,rfl⟩
  ·cases hg
 ·cases hg
end Go.Proofs.Tryz
namespace Go.Proofs.Tryz
open Go.Ad
def A0l:List (Int × Int):=[(1,3000),(3001,6000),(6001,10000),(10001,18000),(18001,30000),(30001,50000),(50001,80000),(80001,100000)]
def bases:List Int:=[6,8,9,11,13,16,19,22]
def factors:List Int:=[7,10,16,25,40,64,100,160]
def shifts:List Int:=[50,31,16,6,0,0,2,9,15,22]
def P7 (j:Nat) (g:Int):Int:=(bases.getD j 0*factors.getD (g - 5).toNat 0+5) / 10
def B1c (j:Nat) (l:Int) (g:Int):Int × Int :=
 let t:=P7 j g
 let s:=bases.getD j 0*shifts.getD l.toNat 0 / 10
 if l=5 then (-(t / 2),t / 2) else if l < 5 then (-s - t,-s) else (s,s+t)
def U5 (j:Nat) (h:Bool) (l g:Int):Int × Int :=
 let x:=B1c j l g
 if h then (-x.2,-x.1) else x
def gIx:List AV->Option AV
 | [a]=>(B4l a A0l 0).map fun x=>.int .i64 x.1
 | _=>none
def D2i:List AV->Option AV
 | [a,.int .i64 g]=>(B4l a A0l 0).bind fun x=>if decide (5<=g) && decide (g<=12) then some (.int .i64 (P7 x.1 g)) else none
 | _=>none
theorem G8n (n:Int):B0n A0l 0 (fun j p=>isInt ((run prog known 60).call 162 [.rng .i64 n p.1 p.2] (Bg 8)) j)=true:=by kernel_rfl
theorem C4l {f:FuncId} {prims:Prims} (h:∀ n,B0n A0l 0 (fun j p=>isInt ((run prog prims 60).call f [.rng .i64 n p.1 p.2] (Bg 8)) j)=true) (args:List AV) (v:AV) (hg:gIx args=some v) :
  ∃ args' v' n B',(∀ (ι:Emb) (xs:List Value),VRL ι args xs->VRL ι args' xs)/\(∀ (ι:Emb) (x:Value),VR ι v' x->VR ι v x)/\H6 0 args'=true/\below 0 v'=true /\
   (run prog prims n).call f args' (Bg (gN prog))=some (v',B',[]):=by
 unfold gIx at hg
 split at hg
 ·rename_i a
  simp only [Option.map_eq_some_iff] at hg
  obtain ⟨⟨j,p⟩,hf,rfl⟩:=hg
  obtain ⟨h1,_,h3⟩:=A7h hf
  have h4:=A9c (h (Ad.valOf a)) h3
  obtain ⟨B,h5⟩:=C8n h4
  refine ⟨[.rng .i64 (Ad.valOf a) p.1 p.2],_,60,B,fun ι xs hx=>?_,fun _ _ h=>h,rfl,rfl,by rw [gsz]; simpa using h5⟩
  simp only [VRL] at hx ⊢
  obtain ⟨x,l,h6,h7,h8⟩:=hx
  exact ⟨x,l,h6,E0b h1 h7,h8⟩
 ·cases hg
def pIx:Prims:=Prims.add (Prims.add known 162 gIx) 220 gIx
theorem G3e (n:Int):B0n A0l 0 (fun j p=>isInt ((run prog (Prims.add known 162 gIx) 60).call 220 [.rng .i64 n p.1 p.2] (Bg 8)) j)=true:=by kernel_rfl
theorem G0c {A:Amb} (hT:Tab A) (hG:gN prog<=A.G):PrimOK prog A pIx :=
 PrimOK.addw D6 D7 (PrimOK.addw D6 D7 (C9u hT hG) hG func162 (by kernel_rfl) (C4l G8n)) hG func220 (by kernel_rfl) (C4l G3e)
theorem F8n (n:Int):B0n A0l 0 (fun j p=>(List.range 8).all fun k=>isInt ((run prog pIx 60).call 160 [.rng .i64 n p.1 p.2,.int .i64 (5+k:Nat)] (Bg 8)) (P7 j (5+k:Nat)))=true:=by kernel_rfl
theorem B8h {f:FuncId} {prims:Prims} (h:∀ n,B0n A0l 0 (fun j p=>(List.range 8).all fun k=>isInt ((run prog prims 60).call f [.rng .i64 n p.1 p.2,.int .i64 (5+k:Nat)] (Bg 8)) (P7 j (5+k:Nat)))=true)
  (args:List AV) (v:AV) (hg:D2i args=some v) :
  ∃ args' v' n B',(∀ (ι:Emb) (xs:List Value),VRL ι args xs->VRL ι args' xs)/\(∀ (ι:Emb) (x:Value),VR ι v' x->VR ι v x)/\H6 0 args'=true/\below 0 v'=true /\
   (run prog prims n).call f args' (Bg (gN prog))=some (v',B',[]):=by
 unfold D2i at hg
 split at hg
 ·rename_i a g
  simp only [Option.bind_eq_some_iff] at hg
  obtain ⟨⟨j,p⟩,hf,hg⟩:=hg
  split at hg
  ·rename_i hc
   simp only [Bool.and_eq_true,decide_eq_true_eq] at hc
   obtain ⟨k,rfl,hk⟩:∃ k:Nat,g=((5+k:Nat):Int)/\k < 8:=⟨(g - 5).toNat,by omega,by omega⟩
   cases hg
   obtain ⟨h1,_,h3⟩:=A7h hf
   have h4:=List.all_eq_true.1 (A9c (h (Ad.valOf a)) h3) k (List.mem_range.2 hk)
   obtain ⟨B,h5⟩:=C8n h4
   refine ⟨[.rng .i64 (Ad.valOf a) p.1 p.2,.int .i64 (5+k:Nat)],_,60,B,fun ι xs hx=>?_,fun _ _ h=>h,rfl,rfl,by rw [gsz]; simpa using h5⟩
   simp only [VRL] at hx ⊢
   obtain ⟨x,l,h6,h7,h8⟩:=hx
   exact ⟨x,l,h6,E0b h1 h7,h8⟩
  ·cases hg
 ·cases hg
theorem F5a (n:Int):B0n A0l 0 (fun j p=>(List.range 8).all fun k=>isInt ((run prog (Prims.add pIx 160 D2i) 60).call 208 [.rng .i64 n p.1 p.2,.int .i64 (5+k:Nat)] (Bg 8)) (P7 j (5+k:Nat)))=true:=by kernel_rfl
def pTol:Prims:=Prims.add (Prims.add pIx 160 D2i) 208 D2i
theorem E0e {A:Amb} (hT:Tab A) (hG:gN prog<=A.G):PrimOK prog A pTol :=
 PrimOK.addw D6 D7 (PrimOK.addw D6 D7 (G0c hT hG) hG func160 (by kernel_rfl) (B8h F8n)) hG func208 (by kernel_rfl) (B8h F5a)
def O3 (s:Int):Nat :=
 if s<=3000 then 0 else if s<=6000 then 1 else if s<=10000 then 2 else if s<=18000 then 3 else if s<=30000 then 4 else if s<=50000 then 5 else if s<=80000 then 6 else 7
theorem C6c (s:Int) (h1:1<=s) (h2:s<=100000):∃ p,A0l[O3 s]?=some p/\p.1<=s/\s<=p.2/\∀ n,B4l (.rng .i64 n p.1 p.2) A0l 0=some (O3 s,p):=by
 unfold O3
 split
 ·exact ⟨(1,3000),rfl,h1,by omega,fun n=>by kernel_rfl⟩
 split
 ·exact ⟨(3001,6000),rfl,by simp only; omega,by omega,fun n=>by kernel_rfl⟩
 split
 ·exact ⟨(6001,10000),rfl,by simp only; omega,by omega,fun n=>by kernel_rfl⟩
 split
 ·exact ⟨(10001,18000),rfl,by simp only; omega,by omega,fun n=>by kernel_rfl⟩
 split
 ·exact ⟨(18001,30000),rfl,by simp only; omega,by omega,fun n=>by kernel_rfl⟩
 split
 ·exact ⟨(30001,50000),rfl,by simp only; omega,by omega,fun n=>by kernel_rfl⟩
 split
 ·exact ⟨(50001,80000),rfl,by simp only; omega,by omega,fun n=>by kernel_rfl⟩
 ·exact ⟨(80001,100000),rfl,by simp only; omega,by omega,fun n=>by kernel_rfl⟩
theorem C8w (s:Int):O3 s < 8:=by unfold O3; (repeat' split) <;> omega
theorem C0p (j:Nat) (k:Nat) (hj:j < 8) (hk:k < 8):1<=P7 j (5+k:Nat)/\P7 j (5+k:Nat)<=4000:=by
 have h:((List.range 8).all fun j=>(List.range 8).all fun k=>decide (1<=P7 j (5+k:Nat)/\P7 j (5+k:Nat)<=4000))=true:=by kernel_rfl
 exact of_decide_eq_true (List.all_eq_true.1 (List.all_eq_true.1 h j (List.mem_range.2 hj)) k (List.mem_range.2 hk))
def sIx:List AV->Tr AV
 | [a]=>match H8 a with
  | some (.i64,s)=>.br (decide (1<=s/\s<=100000)) (.leaf (.rng .i64 (O3 s) 0 7)) .fail
  | _=>.fail
 | _=>.fail
def E4e:List AV->Tr AV
 | [a,b]=>match H8 a,H8 b with
  | some (.i64,s),some (.i64,g)=>.br (decide ((1<=s/\s<=100000)/\5<=g/\g<=12)) (.leaf (.rng .i64 (P7 (O3 s) g) 1 4000)) .fail
  | _,_=>.fail
 | _=>.fail
theorem Tr.br_get {α:Type} {b:Bool} {t:Tr α} {v:α} (h:(Tr.br b t .fail).get=some v):b=true/\t.get=some v:=by
 cases b with
 | true=>exact ⟨rfl,h⟩
 | false=>cases h
theorem Ca.prim {P:Program} {prims:Prims} {f:FuncId} {g:List AV->Option AV} {args:List AV} {B:Heap} {v:AV} (hf:prims.fn f=some fun args B=>.of (only B (g args))) (hg:g args=some v) :
  Ca P prims f args B (v,B,[]):=by
 refine Ev.call ⟨0,fun m _=>?_⟩
 simp only [A7m,hf,Tr.get_of,hg]
 rfl
theorem C4m {f:FuncId} {prims:Prims} (hf:prims.fn f=some fun args B=>.of (only B (gIx args))) (args:List AV) (v:AV) (hg:(sIx args).get=some v) :
  ∃ args' v' B',(∀ (ι:Emb) (xs:List Value),VRL ι args xs->VRL ι args' xs)/\(∀ (ι:Emb) (x:Value),VR ι v' x->VR ι v x)/\H6 0 args'=true/\below 0 v'=true /\
   Ca prog prims f args' (Bg (gN prog)) (v',B',[]):=by
 unfold sIx at hg
 split at hg
 ·rename_i a
  split at hg
  ·rename_i s h1
   obtain ⟨hc,hv⟩:=Tr.br_get hg
   cases hv
   obtain ⟨hs1,hs2⟩:=of_decide_eq_true hc
   obtain ⟨p,q1,q2,q3,q4⟩:=C6c s hs1 hs2
   have hlt:=C8w s
   refine ⟨[.rng .i64 s p.1 p.2],.int .i64 (O3 s),_,fun ι xs hx=>?_,fun ι x hx=>?_,rfl,rfl,Ca.prim hf (by simp only [gIx,q4,Option.map_some])⟩
   ·simp only [VRL] at hx ⊢
    obtain ⟨x,l,h6,h7,h8⟩:=hx
    exact ⟨x,l,h6,by simp only [VR]; exact ⟨F7 h1 h7,q2,q3⟩,h8⟩
   ·simp only [VR] at hx ⊢; exact ⟨hx,by omega,by omega⟩
  ·cases hg
 ·cases hg
theorem A7j {f:FuncId} {prims:Prims} (hf:prims.fn f=some fun args B=>.of (only B (D2i args))) (args:List AV) (v:AV) (hg:(E4e args).get=some v) :
  ∃ args' v' B',(∀ (ι:Emb) (xs:List Value),VRL ι args xs->VRL ι args' xs)/\(∀ (ι:Emb) (x:Value),VR ι v' x->VR ι v x)/\H6 0 args'=true/\below 0 v'=true /\
   Ca prog prims f args' (Bg (gN prog)) (v',B',[]):=by
 unfold E4e at hg
 split at hg
 ·rename_i a b
  split at hg
  ·rename_i s g h1 h2
   obtain ⟨hc,hv⟩:=Tr.br_get hg
   cases hv
   obtain ⟨⟨hs1,hs2⟩,hg1,hg2⟩:=of_decide_eq_true hc
   obtain ⟨p,q1,q2,q3,q4⟩:=C6c s hs1 hs2
   have hlt:=C8w s
   obtain ⟨k,rfl,hk⟩:∃ k:Nat,g=((5+k:Nat):Int)/\k < 8:=⟨(g - 5).toNat,by omega,by omega⟩
   have hb:=C0p (O3 s) k hlt hk
   refine ⟨[.rng .i64 s p.1 p.2,.int .i64 (5+k:Nat)],.int .i64 (P7 (O3 s) (5+k:Nat)),_,fun ι xs hx=>?_,fun ι x hx=>?_,rfl,rfl,Ca.prim hf ?_⟩
   ·simp only [VRL] at hx ⊢
    obtain ⟨x,l,h6,h7,x2,l2,h8,h9,h10⟩:=hx
    exact ⟨x,l,h6,by simp only [VR]; exact ⟨F7 h1 h7,q2,q3⟩,x2,l2,h8,by simp only [VR]; exact F7 h2 h9,h10⟩
   ·simp only [VR] at hx ⊢; exact ⟨hx,hb.1,hb.2⟩
   ·simp only [D2i,q4,Option.bind_some]
    rw [if_pos (by simp only [Bool.and_eq_true,decide_eq_true_eq]; omega)]
  ·cases hg
 ·cases hg
def pSymI:Prims:=(pTol.addt 162 sIx).addt 220 sIx
def pSymT:Prims:=(pSymI.addt 160 E4e).addt 208 E4e
theorem F1m {A:Amb} (hT:Tab A) (hG:gN prog<=A.G):PrimOK prog A pSymT:=by
 have h0:=E0e (A:=A) hT hG
 have h1:=PrimOK.addt D6 D7 h0 hG func162 (by kernel_rfl) (C4m rfl)
 have h2:=PrimOK.addt D6 D7 h1 hG func220 (by kernel_rfl) (C4m rfl)
 have h3:=PrimOK.addt D6 D7 h2 hG func160 (by kernel_rfl) (A7j rfl)
 exact PrimOK.addt D6 D7 h3 hG func208 (by kernel_rfl) (A7j rfl)
end Go.Proofs.Tryz
namespace Go.Proofs.Tryz
open Go.Ad
def A5m (d:Int × Int):KV Unit:=fun v _ D=>match D with
 | []=>match v with
  | .agg [a,b]=>match H8 a,H8 b with
   | some (.i64,x),some (.i64,y)=>brK (decide (x=d.1/\y=d.2)) (some ()) none
   | _,_=>none
  | _=>none
 | _=>none
theorem E3m {d:Int × Int} {v:AV} {B:Heap} {D:List Nat} (h:A5m d v B D=some ()):D=[]/\∃ a b,v=.agg [a,b]/\H8 a=some (.i64,d.1)/\H8 b=some (.i64,d.2):=by
 unfold A5m at h
 split at h
 ·refine ⟨rfl,?_⟩
  split at h
  ·rename_i a b
   split at h
   ·rename_i x y h1 h2
    rcases A1i h with ⟨h3,_⟩ | ⟨_,h3⟩
    ·obtain ⟨rfl,rfl⟩:=of_decide_eq_true h3
     exact ⟨a,b,rfl,h1,h2⟩
    ·cases h3
   ·cases h
  ·cases h
 ·cases h
def A5j (i:Nat) (s t:Int) (h:Bool) (d:Int × Int):Option Unit :=
 if i < 5 then brK h (brK (decide (s=d.1/\0 - (-s - t)=d.2)) (some ()) none) (brK (decide (-s - t=d.1/\-s=d.2)) (some ()) none)
 else if i=5 then brK h (brK (decide (0 - t.tdiv 2=d.1/\0 - (0 - t.tdiv 2)=d.2)) (some ()) none) (brK (decide (0 - t.tdiv 2=d.1/\t.tdiv 2=d.2)) (some ()) none)
 else brK h (brK (decide (0 - (s+t)=d.1/\-s=d.2)) (some ()) none) (brK (decide (s=d.1/\s+t=d.2)) (some ()) none)
def A4w (V h:Bool) (t m:Int) (d:Int × Int):List Int->Nat->Option Unit
 | [],_=>none
 | s :: r,i=>brK (decide (m=(i:Int))) (brK V (A5j i s t h d) none) (A4w V h t m d r (i+1))
def A5a (h:Bool) (t m:Int) (d:Int × Int):List Int->Nat->Option Unit
 | [],_=>none
 | s :: r,i=>brK (decide (m=(i:Int))) (brK (m == 5) (A5j 5 s t h d) (brK (decide (m < 5)) (A5j 0 s t h d) (A5j 9 s t h d))) (A5a h t m d r (i+1))
def sl (j:Nat):List Int:=shifts.map fun x=>bases.getD j 0*x / 10
def pT2:Prims:=(pTol.addt 160 E4e).addt 208 E4e
theorem F1o {A:Amb} (hT:Tab A) (hG:gN prog<=A.G):PrimOK prog A pT2:=by
 have h0:=E0e (A:=A) hT hG
 have h3:=PrimOK.addt D6 D7 h0 hG func160 (by kernel_rfl) (A7j rfl)
 exact PrimOK.addt D6 D7 h3 hG func208 (by kernel_rfl) (A7j rfl)
theorem E9e (n m g:Int) (h:Bool) (d:Int × Int):(C9 prog pT2 60).call 107 [.rng .i64 n 1 3000,.agg [.sbool h,.rng .i64 m 0 9,.rng .i64 g 5 12]] (Bg 8) (A5m d)=A4w (decide ((1<=n/\n<=100000)/\5<=g/\g<=12)) h (P7 (O3 n) g) m d (sl 0) 0:=by kernel_rfl
theorem E6r (n m g:Int) (h:Bool) (d:Int × Int):(C9 prog pT2 60).call 107 [.rng .i64 n 3001 6000,.agg [.sbool h,.rng .i64 m 0 9,.rng .i64 g 5 12]] (Bg 8) (A5m d)=A4w (decide ((1<=n/\n<=100000)/\5<=g/\g<=12)) h (P7 (O3 n) g) m d (sl 1) 0:=by kernel_rfl
theorem E4j (n m g:Int) (h:Bool) (d:Int × Int):(C9 prog pT2 60).call 107 [.rng .i64 n 6001 10000,.agg [.sbool h,.rng .i64 m 0 9,.rng .i64 g 5 12]] (Bg 8) (A5m d)=A4w (decide ((1<=n/\n<=100000)/\5<=g/\g<=12)) h (P7 (O3 n) g) m d (sl 2) 0:=by kernel_rfl
theorem E8q (n m g:Int) (h:Bool) (d:Int × Int):(C9 prog pT2 60).call 107 [.rng .i64 n 10001 18000,.agg [.sbool h,.rng .i64 m 0 9,.rng .i64 g 5 12]] (Bg 8) (A5m d)=A4w (decide ((1<=n/\n<=100000)/\5<=g/\g<=12)) h (P7 (O3 n) g) m d (sl 3) 0:=by kernel_rfl
theorem F0l (n m g:Int) (h:Bool) (d:Int × Int):(C9 prog pT2 60).call 107 [.rng .i64 n 18001 30000,.agg [.sbool h,.rng .i64 m 0 9,.rng .i64 g 5 12]] (Bg 8) (A5m d)=A4w (decide ((1<=n/\n<=100000)/\5<=g/\g<=12)) h (P7 (O3 n) g) m d (sl 4) 0:=by kernel_rfl
theorem E9x (n m g:Int) (h:Bool) (d:Int × Int):(C9 prog pT2 60).call 107 [.rng .i64 n 30001 50000,.agg [.sbool h,.rng .i64 m 0 9,.rng .i64 g 5 12]] (Bg 8) (A5m d)=A4w (decide ((1<=n/\n<=100000)/\5<=g/\g<=12)) h (P7 (O3 n) g) m d (sl 5) 0:=by kernel_rfl
theorem E4o (n m g:Int) (h:Bool) (d:Int × Int):(C9 prog pT2 60).call 107 [.rng .i64 n 50001 80000,.agg [.sbool h,.rng .i64 m 0 9,.rng .i64 g 5 12]] (Bg 8) (A5m d)=A4w (decide ((1<=n/\n<=100000)/\5<=g/\g<=12)) h (P7 (O3 n) g) m d (sl 6) 0:=by kernel_rfl
theorem E5a (n m g:Int) (h:Bool) (d:Int × Int):(C9 prog pT2 60).call 107 [.rng .i64 n 80001 100000,.agg [.sbool h,.rng .i64 m 0 9,.rng .i64 g 5 12]] (Bg 8) (A5m d)=A4w (decide ((1<=n/\n<=100000)/\5<=g/\g<=12)) h (P7 (O3 n) g) m d (sl 7) 0:=by kernel_rfl
theorem E0u (n m g:Int) (h:Bool) (d:Int × Int):(C9 prog pT2 60).call 128 [.rng .i64 n 1 3000,.agg [.sbool h,.rng .i64 m 0 9,.rng .i64 g 5 12]] (Bg 8) (A5m d)=brK (decide ((1<=n/\n<=100000)/\5<=g/\g<=12)) (A5a h (P7 (O3 n) g) m d (sl 0) 0) none:=by kernel_rfl
theorem E0x (n m g:Int) (h:Bool) (d:Int × Int):(C9 prog pT2 60).call 128 [.rng .i64 n 3001 6000,.agg [.sbool h,.rng .i64 m 0 9,.rng .i64 g 5 12]] (Bg 8) (A5m d)=brK (decide ((1<=n/\n<=100000)/\5<=g/\g<=12)) (A5a h (P7 (O3 n) g) m d (sl 1) 0) none:=by kernel_rfl
theorem E4b (n m g:Int) (h:Bool) (d:Int × Int):(C9 prog pT2 60).call 128 [.rng .i64 n 6001 10000,.agg [.sbool h,.rng .i64 m 0 9,.rng .i64 g 5 12]] (Bg 8) (A5m d)=brK (decide ((1<=n/\n<=100000)/\5<=g/\g<=12)) (A5a h (P7 (O3 n) g) m d (sl 2) 0) none:=by kernel_rfl
theorem E1w (n m g:Int) (h:Bool) (d:Int × Int):(C9 prog pT2 60).call 128 [.rng .i64 n 10001 18000,.agg [.sbool h,.rng .i64 m 0 9,.rng .i64 g 5 12]] (Bg 8) (A5m d)=brK (decide ((1<=n/\n<=100000)/\5<=g/\g<=12)) (A5a h (P7 (O3 n) g) m d (sl 3) 0) none:=by kernel_rfl
theorem E2q (n m g:Int) (h:Bool) (d:Int × Int):(C9 prog pT2 60).call 128 [.rng .i64 n 18001 30000,.agg [.sbool h,.rng .i64 m 0 9,.rng .i64 g 5 12]] (Bg 8) (A5m d)=brK (decide ((1<=n/\n<=100000)/\5<=g/\g<=12)) (A5a h (P7 (O3 n) g) m d (sl 4) 0) none:=by kernel_rfl
theorem E2s (n m g:Int) (h:Bool) (d:Int × Int):(C9 prog pT2 60).call 128 [.rng .i64 n 30001 50000,.agg [.sbool h,.rng .i64 m 0 9,.rng .i64 g 5 12]] (Bg 8) (A5m d)=brK (decide ((1<=n/\n<=100000)/\5<=g/\g<=12)) (A5a h (P7 (O3 n) g) m d (sl 5) 0) none:=by kernel_rfl
theorem E2m (n m g:Int) (h:Bool) (d:Int × Int):(C9 prog pT2 60).call 128 [.rng .i64 n 50001 80000,.agg [.sbool h,.rng .i64 m 0 9,.rng .i64 g 5 12]] (Bg 8) (A5m d)=brK (decide ((1<=n/\n<=100000)/\5<=g/\g<=12)) (A5a h (P7 (O3 n) g) m d (sl 6) 0) none:=by kernel_rfl
theorem E3y (n m g:Int) (h:Bool) (d:Int × Int):(C9 prog pT2 60).call 128 [.rng .i64 n 80001 100000,.agg [.sbool h,.rng .i64 m 0 9,.rng .i64 g 5 12]] (Bg 8) (A5m d)=brK (decide ((1<=n/\n<=100000)/\5<=g/\g<=12)) (A5a h (P7 (O3 n) g) m d (sl 7) 0) none:=by kernel_rfl
theorem F3e (n m g:Int) (h:Bool) (d:Int × Int) (j:Nat) (p:Int × Int) (hp:A0l[j]?=some p) :
  (C9 prog pT2 60).call 107 [.rng .i64 n p.1 p.2,.agg [.sbool h,.rng .i64 m 0 9,.rng .i64 g 5 12]] (Bg 8) (A5m d)=A4w (decide ((1<=n/\n<=100000)/\5<=g/\g<=12)) h (P7 (O3 n) g) m d (sl j) 0:=by
 match j with
 | 0=>cases hp; exact E9e n m g h d
 | 1=>cases hp; exact E6r n m g h d
 | 2=>cases hp; exact E4j n m g h d
 | 3=>cases hp; exact E8q n m g h d
 | 4=>cases hp; exact F0l n m g h d
 | 5=>cases hp; exact E9x n m g h d
 | 6=>cases hp; exact E4o n m g h d
 | 7=>cases hp; exact E5a n m g h d
 | j+8=>simp [A0l] at hp
theorem F2j (n m g:Int) (h:Bool) (d:Int × Int) (j:Nat) (p:Int × Int) (hp:A0l[j]?=some p) :
  (C9 prog pT2 60).call 128 [.rng .i64 n p.1 p.2,.agg [.sbool h,.rng .i64 m 0 9,.rng .i64 g 5 12]] (Bg 8) (A5m d)=brK (decide ((1<=n/\n<=100000)/\5<=g/\g<=12)) (A5a h (P7 (O3 n) g) m d (sl j) 0) none:=by
 match j with
 | 0=>cases hp; exact E0u n m g h d
 | 1=>cases hp; exact E0x n m g h d
 | 2=>cases hp; exact E4b n m g h d
 | 3=>cases hp; exact E1w n m g h d
 | 4=>cases hp; exact E2q n m g h d
 | 5=>cases hp; exact E2s n m g h d
 | 6=>cases hp; exact E2m n m g h d
 | 7=>cases hp; exact E3y n m g h d
 | j+8=>simp [A0l] at hp
theorem D0n (j m:Nat) (i:Nat) (h:Bool) (g:Int) (hm:m < 10) (ht:0<=P7 j g) (hi:(m < 5/\i < 5) \/ (m=5/\i=5) \/ (5 < m/\5 < i)) :
  A5j i (bases.getD j 0*shifts.getD m 0 / 10) (P7 j g) h (U5 j h m g)=some ():=by
 have h2:(P7 j g).tdiv 2=P7 j g / 2:=Int.tdiv_eq_ediv_of_nonneg ht
 have fin:∀ (b:Bool),b=true->brK b (some ()) (none:Option Unit)=some ():=fun b hb=>by rw [hb]; rfl
 rcases hi with ⟨h3,h4⟩ | ⟨h3,h4⟩ | ⟨h3,h4⟩
 ·have hs:B1c j (m:Int) g=(-(bases.getD j 0*shifts.getD m 0 / 10) - P7 j g,-(bases.getD j 0*shifts.getD m 0 / 10)):=by
   simp only [B1c,Int.toNat_natCast]
   rw [if_neg (by omega:¬ (m:Int)=5),if_pos (by omega:(m:Int) < 5)]
  unfold U5 A5j
  rw [hs,if_pos h4]
  generalize bases.getD j 0*shifts.getD m 0 / 10=s
  generalize P7 j g=t
  cases h
  ·exact fin _ (dT ⟨rfl,rfl⟩)
  ·exact fin _ (dT ⟨by show s=- -s; omega,by show 0 - (-s - t)=-(-s - t); omega⟩)
 ·have hs:B1c j (m:Int) g=(-(P7 j g / 2),P7 j g / 2):=by
   simp only [B1c,Int.toNat_natCast]
   rw [if_pos (by omega:(m:Int)=5)]
  unfold U5 A5j
  rw [hs,if_neg (by omega:¬ i < 5),if_pos h4,h2]
  generalize bases.getD j 0*shifts.getD m 0 / 10=s
  generalize P7 j g / 2=u
  cases h
  ·exact fin _ (dT ⟨by show 0 - u=-u; omega,rfl⟩)
  ·exact fin _ (dT ⟨by show 0 - u=-u; omega,by show 0 - (0 - u)=- -u; omega⟩)
 ·have hs:B1c j (m:Int) g=(bases.getD j 0*shifts.getD m 0 / 10,bases.getD j 0*shifts.getD m 0 / 10+P7 j g):=by
   simp only [B1c,Int.toNat_natCast]
   rw [if_neg (by omega:¬ (m:Int)=5),if_neg (by omega:¬ (m:Int) < 5)]
  unfold U5 A5j
  rw [hs,if_neg (by omega:¬ i < 5),if_neg (by omega:¬ i=5)]
  generalize bases.getD j 0*shifts.getD m 0 / 10=s
  generalize P7 j g=t
  cases h
  ·exact fin _ (dT ⟨rfl,rfl⟩)
  ·exact fin _ (dT ⟨by show 0 - (s+t)=-(s+t); omega,rfl⟩)
theorem D5g (j m:Nat) (h:Bool) (g:Int) (hm:m < 10) (ht:0<=P7 j g):A4w true h (P7 j g) m (U5 j h m g) (sl j) 0=some ():=by
 have key:∀ i,(m < 5/\i < 5) \/ (m=5/\i=5) \/ (5 < m/\5 < i)->A5j i (bases.getD j 0*shifts.getD m 0 / 10) (P7 j g) h (U5 j h m g)=some ():=fun i hi=>D0n j m i h g hm ht hi
 have hall:∀ (i k:Nat) (l:List Int),i+k=m->l[k]?=some (bases.getD j 0*shifts.getD m 0 / 10)->A4w true h (P7 j g) m (U5 j h m g) l i=some ():=by
  intro i k
  induction k generalizing i with
  | zero =>
   intro l hi hl
   cases l with
   | nil=>simp at hl
   | cons s r =>
    simp only [List.getElem?_cons_zero,sI] at hl
    subst hl
    simp only [A4w]
    rw [dT (by omega:(m:Int)=(i:Int))]
    simp only [brK]
    exact key i (by omega)
  | succ k ih =>
   intro l hi hl
   cases l with
   | nil=>simp at hl
   | cons s r =>
    rw [List.getElem?_cons_succ] at hl
    simp only [A4w]
    rw [dF (by omega:¬ (m:Int)=(i:Int))]
    simp only [brK]
    exact ih (i+1) r (by omega) hl
 refine hall 0 m (sl j) (by omega) ?_
 have:m < shifts.length:=by simp [shifts]; omega
 simp [sl,List.getD,this]
theorem D5d (j m:Nat) (h:Bool) (g:Int) (hm:m < 10) (ht:0<=P7 j g):A5a h (P7 j g) m (U5 j h m g) (sl j) 0=some ():=by
 have key:∀ i,(m < 5/\i < 5) \/ (m=5/\i=5) \/ (5 < m/\5 < i)->A5j i (bases.getD j 0*shifts.getD m 0 / 10) (P7 j g) h (U5 j h m g)=some ():=fun i hi=>D0n j m i h g hm ht hi
 have hall:∀ (i k:Nat) (l:List Int),i+k=m->l[k]?=some (bases.getD j 0*shifts.getD m 0 / 10)->A5a h (P7 j g) m (U5 j h m g) l i=some ():=by
  intro i k
  induction k generalizing i with
  | zero =>
   intro l hi hl
   cases l with
   | nil=>simp at hl
   | cons s r =>
    simp only [List.getElem?_cons_zero,sI] at hl
    subst hl
    simp only [A5a]
    rw [dT (by omega:(m:Int)=(i:Int))]
    by_cases h5:m=5
    ·have e1:((m:Int) == 5)=true:=by simp [h5]
     rw [e1]; exact key 5 (by omega)
    ·have e1:((m:Int) == 5)=false:=by simp; omega
     rw [e1]
     by_cases h6:m < 5
     ·rw [dT (by omega:(m:Int) < 5)]; exact key 0 (by omega)
     ·rw [dF (by omega:¬ (m:Int) < 5)]; exact key 9 (by omega)
  | succ k ih =>
   intro l hi hl
   cases l with
   | nil=>simp at hl
   | cons s r =>
    rw [List.getElem?_cons_succ] at hl
    simp only [A5a]
    rw [dF (by omega:¬ (m:Int)=(i:Int))]
    simp only [brK]
    exact ih (i+1) r (by omega) hl
 refine hall 0 m (sl j) (by omega) ?_
 have:m < shifts.length:=by simp [shifts]; omega
 simp [sl,List.getD,this]
theorem D3y (j m k:Nat) (h:Bool) (hj:j < 8) (hm:m < 10) (hk:k < 8):(-4000<=(U5 j h m (5+k:Nat)).1/\(U5 j h m (5+k:Nat)).1<=4000)/\(-4000<=(U5 j h m (5+k:Nat)).2/\(U5 j h m (5+k:Nat)).2<=4000):=by
 have hh:((List.range 8).all fun j=>(List.range 10).all fun m=>(List.range 8).all fun k=>[false,true].all fun h=>decide ((-4000<=(U5 j h m (5+k:Nat)).1/\(U5 j h m (5+k:Nat)).1<=4000)/\(-4000<=(U5 j h m (5+k:Nat)).2/\(U5 j h m (5+k:Nat)).2<=4000)))=true:=by kernel_rfl
 exact of_decide_eq_true (List.all_eq_true.1 (List.all_eq_true.1 (List.all_eq_true.1 (List.all_eq_true.1 hh j (List.mem_range.2 hj)) m (List.mem_range.2 hm)) k (List.mem_range.2 hk)) h (by cases h <;> simp))
def E0p:List AV->Tr AV
 | [a,.agg [b,c,d]]=>match H8 a,sbool? b,H8 c,H8 d with
  | some (.i64,s),some h,some (.i64,l),some (.i64,g)=>.br (decide ((1<=s/\s<=100000)/\(0<=l/\l<=9)/\5<=g/\g<=12))
   (.leaf (.agg [.rng .i64 (U5 (O3 s) h l g).1 (-4000) 4000,.rng .i64 (U5 (O3 s) h l g).2 (-4000) 4000])) .fail
  | _,_,_,_=>.fail
 | _=>.fail
theorem B9f {a:AV} {k:IntKind} {n:Int} (h:H8 a=some (k,n)) (m:Nat):below m a=true:=by
 cases a <;> simp [H8] at h <;> rfl
theorem B9d {f:FuncId} {prims:Prims} (h:∀ (n:Int) (m:Nat) (g:Int) (s:Bool) (j:Nat) (p:Int × Int),A0l[j]?=some p->j=O3 n->(1<=n/\n<=100000)->m < 10->(5<=g/\g<=12) ->
   (C9 prog prims 60).call f [.rng .i64 n p.1 p.2,.agg [.sbool s,.rng .i64 m 0 9,.rng .i64 g 5 12]] (Bg 8) (A5m (U5 j s m g))=some ()) (args:List AV) (v:AV) (hg:(E0p args).get=some v) :
  ∃ args' v' B',(∀ (ι:Emb) (xs:List Value),VRL ι args xs->VRL ι args' xs)/\(∀ (ι:Emb) (x:Value),VR ι v' x->VR ι v x)/\H6 0 args'=true/\below 0 v'=true /\
   Ca prog prims f args' (Bg (gN prog)) (v',B',[]):=by
 unfold E0p at hg
 split at hg
 ·rename_i a b c d
  split at hg
  ·rename_i s hb l g h1 h2 h3 h4
   obtain ⟨hc,hv⟩:=Tr.br_get hg
   cases hv
   obtain ⟨⟨hs1,hs2⟩,⟨hl1,hl2⟩,hg1,hg2⟩:=of_decide_eq_true hc
   obtain ⟨p,q1,q2,q3,q4⟩:=C6c s hs1 hs2
   have hlt:=C8w s
   obtain ⟨m,rfl,hm⟩:∃ m:Nat,l=(m:Int)/\m < 10:=⟨l.toNat,by omega,by omega⟩
   have hrun:=h s m g hb (O3 s) p q1 rfl ⟨hs1,hs2⟩ hm ⟨hg1,hg2⟩
   obtain ⟨v',B',D,hca,hk⟩:=(A4r 60).call _ _ _ _ _ hrun
   obtain ⟨rfl,x,y,rfl,hx,hy⟩:=E3m hk
   obtain ⟨k,rfl,hk'⟩:∃ k:Nat,g=((5+k:Nat):Int)/\k < 8:=⟨(g - 5).toNat,by omega,by omega⟩
   have hbd:=D3y (O3 s) m k hb hlt hm hk'
   refine ⟨_,_,B',fun ι xs hx=>?_,fun ι z hz=>?_,?_,?_,by rw [gsz]; exact hca⟩
   ·simp only [VRL,VR] at hx ⊢
    obtain ⟨x,l,h6,h7,x2,l2,h8,⟨ys,h9,y0,l3,h10,h11,y1,l4,h12,h13,y2,l5,h14,h15,h16⟩,h17⟩:=hx
    exact ⟨x,l,h6,⟨F7 h1 h7,q2,q3⟩,x2,l2,h8,⟨ys,h9,y0,l3,h10,Y1 h2 h11,y1,l4,h12,⟨F7 h3 h13,by omega,by omega⟩,y2,l5,h14,⟨F7 h4 h15,by omega,by omega⟩,h16⟩,h17⟩
   ·simp only [VR,VRL] at hz ⊢
    obtain ⟨ys,h9,y0,l3,h10,h11,y1,l4,h12,h13,h14⟩:=hz
    exact ⟨ys,h9,y0,l3,h10,⟨F7 hx h11,hbd.1⟩,y1,l4,h12,⟨F7 hy h13,hbd.2⟩,h14⟩
   ·rfl
   ·simp only [below,H6,B9f hx,B9f hy,Bool.and_self]
  ·cases hg
 ·cases hg
theorem D6x (n g:Int) (h:5<=g/\g<=12):0<=P7 (O3 n) g:=by
 obtain ⟨k,rfl,hk'⟩:∃ k:Nat,g=((5+k:Nat):Int)/\k < 8:=⟨(g - 5).toNat,by omega,by omega⟩
 have:=C0p (O3 n) k (C8w n) hk'
 omega
def pSym:Prims:=(pSymT.addt 107 E0p).addt 128 E0p
theorem F5n {A:Amb} (hT:Tab A) (hG:gN prog<=A.G):PrimOK prog A (pT2.addt 107 E0p) :=
 PrimOK.addt D6 D7 (F1o hT hG) hG func107 (by kernel_rfl) (B9d fun n m g s j p hp hj hn hm hg=>by
  rw [F3e n m g s _ j p hp,dT ⟨hn,hg⟩,hj]; exact D5g _ m s g hm (D6x n g hg))
theorem PrimOK.over {P:Program} {A:Amb} {prims prims':Prims} {f:FuncId} {g:List AV->Tr AV} (h:PrimOK P A (prims.addt f g)) (h':PrimOK P A prims'):PrimOK P A (prims'.addt f g):=by
 refine ⟨h'.ext,fun x g' hx=>?_,h'.blkfr,h'.blk⟩
 unfold Prims.addt Prims.addh at hx
 simp only at hx
 split at hx
 ·rename_i e; subst e; cases hx
  exact h.fn x _ (by simp [Prims.addt,Prims.addh])
 ·exact h'.fn x g' hx
theorem F5s {A:Amb} (hT:Tab A) (hG:gN prog<=A.G):PrimOK prog A (pT2.addt 128 E0p) :=
 PrimOK.addt D6 D7 (F1o hT hG) hG func128 (by kernel_rfl) (B9d fun n m g s j p hp hj hn hm hg=>by
  rw [F2j n m g s _ j p hp,dT ⟨hn,hg⟩,hj]; exact D5d _ m s g hm (D6x n g hg))
theorem D7g {A:Amb} (hT:Tab A) (hG:gN prog<=A.G):PrimOK prog A pSym :=
 PrimOK.over (F5s hT hG) (PrimOK.over (F5n hT hG) (F1m hT hG))
end Go.Proofs.Tryz
namespace Go.Proofs.Tryz
open Go.Ad
def okL (n:Int) (h:Bool) (m g:Int):Bool:=decide (1<=n+(U5 (O3 n) h m g).1/\n+(U5 (O3 n) h m g).2<=100000)
def inV (n m g:Int):Bool:=decide ((1<=n/\n<=100000)/\(0<=m/\m<=9)/\5<=g/\g<=12)
def G6g (n:Int) (h:Bool) (m g:Int):AV:=.tuple [.agg [.rng .i64 (n+(U5 (O3 n) h m g).1) 1 100000,.rng .i64 (n+(U5 (O3 n) h m g).2) 1 100000],.int .i64 0]
def G1w:AV:=.tuple [.agg [.int .i64 0,.int .i64 0],.int .i64 2]
def F6z:List AV->Tr AV
 | [a,.agg [b,c,d]]=>match H8 a,sbool? b,H8 c,H8 d with
  | some (.i64,n),some h,some (.i64,m),some (.i64,g)=>.br (inV n m g) (.br (okL n h m g) (.leaf (G6g n h m g)) (.leaf G1w)) .fail
  | _,_,_,_=>.fail
 | _=>.fail
def B7f (n m g:Int) (h:Bool):Option AV :=
 brK (inV n m g) (brK (decide (n+(U5 (O3 n) h m g).1 < 1)) (some G1w) (brK (decide (n+(U5 (O3 n) h m g).2 > 100000)) (some G1w)
  (some (.tuple [.agg [.rng .i64 (n+(U5 (O3 n) h m g).1) (-3999) 104000,.rng .i64 (n+(U5 (O3 n) h m g).2) (-3999) 104000],.int .i64 0])))) none
theorem G2e (n m g:Int) (h:Bool):(C9 prog pSym 60).call 33 [.rng .i64 n 1 100000,.agg [.sbool h,.rng .i64 m 0 9,.rng .i64 g 5 12]] (Bg 8) G9=B7f n m g h:=by kernel_rfl
theorem F7i (n m g:Int) (h:Bool):(C9 prog pSym 60).call 49 [.rng .i64 n 1 100000,.agg [.sbool h,.rng .i64 m 0 9,.rng .i64 g 5 12]] (Bg 8) G9=B7f n m g h:=by kernel_rfl
theorem F6d (j m k:Nat) (h:Bool) (hj:j < 8) (hm:m < 10) (hk:k < 8):(U5 j h m (5+k:Nat)).1<=(U5 j h m (5+k:Nat)).2:=by
 have hh:((List.range 8).all fun j=>(List.range 10).all fun m=>(List.range 8).all fun k=>[false,true].all fun h=>decide ((U5 j h m (5+k:Nat)).1<=(U5 j h m (5+k:Nat)).2))=true:=by kernel_rfl
 exact of_decide_eq_true (List.all_eq_true.1 (List.all_eq_true.1 (List.all_eq_true.1 (List.all_eq_true.1 hh j (List.mem_range.2 hj)) m (List.mem_range.2 hm)) k (List.mem_range.2 hk)) h (by cases h <;> simp))
theorem B8q {f:FuncId} {prims:Prims} (hrun:∀ (n m g:Int) (h:Bool),(C9 prog prims 60).call f [.rng .i64 n 1 100000,.agg [.sbool h,.rng .i64 m 0 9,.rng .i64 g 5 12]] (Bg 8) G9=B7f n m g h)
  (args:List AV) (v:AV) (hg:(F6z args).get=some v) :
  ∃ args' v' B',(∀ (ι:Emb) (xs:List Value),VRL ι args xs->VRL ι args' xs)/\(∀ (ι:Emb) (x:Value),VR ι v' x->VR ι v x)/\H6 0 args'=true/\below 0 v'=true /\
   Ca prog prims f args' (Bg (gN prog)) (v',B',[]):=by
 unfold F6z at hg
 split at hg
 ·rename_i a b c d
  split at hg
  ·rename_i n h m g h1 h2 h3 h4
   obtain ⟨hc,hv⟩:=Tr.br_get hg
   have hr:=hrun n m g h
   unfold B7f at hr
   rw [hc] at hr
   obtain ⟨⟨hs1,hs2⟩,⟨hl1,hl2⟩,hg1,hg2⟩:=of_decide_eq_true hc
   have hargs:∀ (ι:Emb) (xs:List Value),VRL ι [a,.agg [b,c,d]] xs->VRL ι [.rng .i64 n 1 100000,.agg [.sbool h,.rng .i64 m 0 9,.rng .i64 g 5 12]] xs:=fun ι xs hx=>by
    simp only [VRL,VR] at hx ⊢
    obtain ⟨x,l,h6,h7,x2,l2,h8,⟨ys,h9,y0,l3,h10,h11,y1,l4,h12,h13,y2,l5,h14,h15,h16⟩,h17⟩:=hx
    exact ⟨x,l,h6,⟨F7 h1 h7,hs1,hs2⟩,x2,l2,h8,⟨ys,h9,y0,l3,h10,Y1 h2 h11,y1,l4,h12,⟨F7 h3 h13,hl1,hl2⟩,y2,l5,h14,⟨F7 h4 h15,hg1,hg2⟩,h16⟩,h17⟩
   by_cases c1:n+(U5 (O3 n) h m g).1 < 1
   ·have ho:okL n h m g=false:=dF (by omega)
    rw [dT c1] at hr
    obtain ⟨B',hca⟩:=Ca.of_finV hr
    rw [ho] at hv; cases hv
    exact ⟨_,_,B',hargs,fun _ _ h=>h,rfl,rfl,by rw [gsz]; exact hca⟩
   ·rw [dF c1] at hr
    by_cases c2:n+(U5 (O3 n) h m g).2 > 100000
    ·have ho:okL n h m g=false:=dF (by omega)
     rw [dT c2] at hr
     obtain ⟨B',hca⟩:=Ca.of_finV hr
     rw [ho] at hv; cases hv
     exact ⟨_,_,B',hargs,fun _ _ h=>h,rfl,rfl,by rw [gsz]; exact hca⟩
    ·have ho:okL n h m g=true:=dT (by omega)
     rw [dF c2] at hr
     obtain ⟨B',hca⟩:=Ca.of_finV hr
     rw [ho] at hv; cases hv
     have hord:(U5 (O3 n) h m g).1<=(U5 (O3 n) h m g).2:=by
      obtain ⟨k,rfl,hk'⟩:∃ k:Nat,g=((5+k:Nat):Int)/\k < 8:=⟨(g - 5).toNat,by omega,by omega⟩
      obtain ⟨m',rfl,hm'⟩:∃ m':Nat,m=(m':Int)/\m' < 10:=⟨m.toNat,by omega,by omega⟩
      exact F6d _ m' k h (C8w n) hm' hk'
     refine ⟨_,_,B',hargs,fun ι x hx=>?_,rfl,rfl,by rw [gsz]; exact hca⟩
     unfold G6g
     simp only [VR,VRL] at hx ⊢
     obtain ⟨zs,h9,y0,l3,h10,⟨ys,h11,y1,l4,h12,h13,y2,l5,h14,h15,h16⟩,h17⟩:=hx
     exact ⟨zs,h9,y0,l3,h10,⟨ys,h11,y1,l4,h12,⟨h13.1,by omega,by omega⟩,y2,l5,h14,⟨h15.1,by omega,by omega⟩,h16⟩,h17⟩
  ·cases hg
 ·cases hg
def B6m:Prims:=(pSym.addt 33 F6z).addt 49 F6z
theorem C4y {A:Amb} (hT:Tab A) (hG:gN prog<=A.G):PrimOK prog A B6m :=
 PrimOK.over (PrimOK.addt D6 D7 (D7g hT hG) hG func49 (by kernel_rfl) (B8q F7i)) (PrimOK.addt D6 D7 (D7g hT hG) hG func33 (by kernel_rfl) (B8q G2e))
end Go.Proofs.Tryz
