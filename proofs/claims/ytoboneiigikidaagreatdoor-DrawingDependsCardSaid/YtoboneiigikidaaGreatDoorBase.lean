/- The lexer's program: what the library's functions give, as known functions of the evaluator. -/
import Derived.Test.YtoboneiigikidaaGreatDoorAdPrim
import Derived.Test.YtoboneiigikidaaGreatDoorAdPat
import Derived.Test.YtoboneiigikidaaGreatDoorShelf
import Derived.Lib.LaidTab
import Derived.Lib.ItoaNum
import Derived.KernelRfl
import Derived.Lib.SmallJoins
import Derived.Test.YtoboneiigikidaaGreatDoorAdFind
noncomputable section
namespace Go.Proofs.Tryz
open Go.Ad
theorem F8:prog.follows .mixedOrders=true:=by kernel_rfl
theorem G5:A0w prog:=by
 have h:(prog.funcs.all fun fn=>decide (fn.name≠"runtime.NumGoroutine"))=true:=by kernel_rfl
 intro f fn hf
 exact of_decide_eq_true (Array.all_eq_true_iff_forall_mem.1 h fn (Array.mem_of_getElem? hf))
theorem started:decide (prog.globals.size<(begin prog (fun _ _=>0) default).world.heap.size)=true:=by kernel_rfl
theorem gsz:gN prog=8:=by kernel_rfl
def byteOf(c:Int):UInt8:=c.toNat.toUInt8
def B8z:List AV->Tr AV
 | [.str s,.int .u8 c]=>.leaf (.int .i64 (Lib.indexByte s (byteOf c)))
 | [x,y]=>match sstr? x,M8 y with
  | some s,some (.u8,c)=>.leaf (.sint .i64 (Lib.indexByte s (byteOf c)))
  | _,_=>.fail
 | _=>.fail
def D1h:List AV->Option AV
 | [.str a,.str b]=>some (.int .i64 (Lib.compareBytes a b))
 | [x,y]=>match sstr? x,sstr? y with
  | some a,some b=>some (.sint .i64 (Lib.compareBytes a b))
  | _,_=>none
 | _=>none
def F9n:List AV->Tr AV
 | [.int .i64 n]=>if decide (-9223372036854775808<=n)&&decide (n<=9223372036854775807) then .leaf (.str (Lib.itoa n)) else .fail
 | [x]=>match M8 x with
  | some (.i64,n)=>.br (decide (-9223372036854775808<=n/\n<=9223372036854775807)) (.leaf (.sstr (Lib.itoa n))) .fail
  | _=>.fail
 | _=>.fail
def Tab(A:Amb):Prop:=∀ w:World,(∀ c,c<A.G->w.heap[c]?=A.base c)->Lib.TabIs prog w "internal/strconv.uint64pow10" .u64 Lib.pow10Tab
theorem tab_of{W:World}(hG:gN prog<=W.heap.size)(h:Lib.TabIs prog W "internal/strconv.uint64pow10" .u64 Lib.pow10Tab):Tab (ambOf W):=fun w hw=>by
 have hg:prog.globalNamed "internal/strconv.uint64pow10"=some 5:=by kernel_rfl
 have h6:5<W.heap.size:=Nat.lt_of_lt_of_le (by rw[gsz]; omega) hG
 unfold Lib.TabIs World.var? at h ⊢
 rw[hg] at h ⊢
 simp only[Option.bind_some] at h ⊢
 rw[hw 5 h6]; exact h
theorem A9y{P:Program}{W:World}{x:String×DataW Unit}{r:List (String×DataW Unit)}(h:laidMet P (x::r) W):laidMet P r W:=by
 obtain⟨ps,⟨g,t,cs,fuel,p,q,h1,h2,h3,h4,h5,rfl⟩,hn,hc⟩:=h
 exact⟨q,h5,(List.nodup_append.1 hn).2.1,fun b off hm=>hc b off (List.mem_append_right _ hm)⟩
theorem D6j(w:World)(k:Nat)(os:Array Obj):Quiet w (Go.Sort.grow (w.drewN k) os) :=
 ⟨by simp[Go.Sort.grow,World.drewN],fun c hc=>by simp[Go.Sort.grow,World.drewN,Array.getElem?_append,hc],rfl,rfl,rfl⟩
def lib:Prims:=(((noPrims.addt 191 B8z).add 133 D1h).addt 255 F9n).addx 182 E6l
theorem F3g{xs:Array Value}{a:Value}(h:xs.toList=[a]):xs=#[a]:=by apply Array.ext'; simpa using h
theorem B5q{xs:Array Value}{a b:Value}(h:xs.toList=[a,b]):xs=#[a,b]:=by apply Array.ext'; simpa using h
theorem G2w{A:Amb}(hT:Tab A):PrimOK prog A lib:=by
 refine PrimOK.noEscape (fn:=f182) (PrimOK.libt (PrimOK.lib (PrimOK.libt PrimOK.none func191 (by kernel_rfl) ?_) func133 (by kernel_rfl) ?_) func255 (by kernel_rfl) ?_) func182 (by kernel_rfl) (by kernel_rfl) (by rfl) (by rfl)
 ·intro args v hg Z w xs _ _ hx
  have key:∀ (b1:ByteArray) (c:Int),xs=#[.string b1,.int .u8 c]->Calls prog 191 xs w fun e w'=>∃ v',e=.returned v'/\v'=.int .i64 (Lib.indexByte b1.data.toList (byteOf c))/\Quiet w w':=fun b1 c e1=>by
   subst e1
   refine(stringslite_IndexByte b1 c w).mono fun e w' ⟨h1,h2⟩=>?_
   subst h1 h2
   exact⟨_,rfl,rfl,Quiet.refl _⟩
  unfold B8z at hg
  split at hg
  ·rename_i s c
   cases hg
   simp only[VRL,VR] at hx
   obtain⟨_,_,hxs,⟨b1,rfl,rfl⟩,_,_,rfl,rfl,rfl⟩:=hx
   exact(key b1 c (B5q hxs)).mono fun e w' ⟨v',q1,q2,q3⟩=>⟨v',q1,by simp only[VR]; exact q2,q3⟩
  ·rename_i x y _
   split at hg
   ·rename_i s c hs hc
    cases hg
    simp only[VRL] at hx
    obtain⟨_,_,hxs,h1,_,_,rfl,h2,rfl⟩:=hx
    obtain⟨b1,rfl,rfl⟩:=O3 hs h1
    have h2:=K3 hc h2
    subst h2
    exact(key b1 c (B5q hxs)).mono fun e w' ⟨v',q1,q2,q3⟩=>⟨v',q1,by simp only[VR]; exact q2,q3⟩
   ·cases hg
  ·cases hg
 ·intro args v hg Z w xs _ _ hx
  have key:∀ (b1 b2:ByteArray),xs=#[.string b1,.string b2]->Calls prog 133 xs w fun e w'=>∃ v',e=.returned v'/\v'=.int .i64 (Lib.compareBytes b1.data.toList b2.data.toList)/\Quiet w w':=fun b1 b2 e1=>by
   subst e1
   refine(strings_Compare b1 b2 w).mono fun e w' ⟨h1,h2⟩=>?_
   subst h1 h2
   exact⟨_,rfl,rfl,Quiet.refl _⟩
  unfold D1h at hg
  split at hg
  ·rename_i s c
   cases hg
   simp only[VRL,VR] at hx
   obtain⟨_,_,hxs,⟨b1,rfl,rfl⟩,_,_,rfl,⟨b2,rfl,rfl⟩,rfl⟩:=hx
   exact(key b1 b2 (B5q hxs)).mono fun e w' ⟨v',q1,q2,q3⟩=>⟨v',q1,by simp only[VR]; exact q2,q3⟩
  ·rename_i x y _
   split at hg
   ·rename_i s c hs hc
    cases hg
    simp only[VRL] at hx
    obtain⟨_,_,hxs,h1,_,_,rfl,h2,rfl⟩:=hx
    obtain⟨b1,rfl,rfl⟩:=O3 hs h1
    obtain⟨b2,rfl,rfl⟩:=O3 hc h2
    exact(key b1 b2 (B5q hxs)).mono fun e w' ⟨v',q1,q2,q3⟩=>⟨v',q1,by simp only[VR]; exact q2,q3⟩
   ·cases hg
  ·cases hg
 ·intro args v hg Z w xs hamb _ hx
  have key:∀ n:Int,-9223372036854775808<=n->n<=9223372036854775807->xs=#[.int .i64 n]->Calls prog 255 xs w fun e w'=>∃ v',e=.returned v'/\(∃ b:ByteArray,b.data.toList=Lib.itoa n/\v'=.string b)/\Quiet w w':=fun n h0 h1 e1=>by
   subst e1
   refine(internal_strconv_Itoa n h0 h1 w (hT w hamb)).mono fun e w' ⟨h1,k,os,h2⟩=>?_
   subst h1 h2
   exact⟨_,rfl,⟨_,rfl,rfl⟩,D6j _ _ _⟩
  unfold F9n at hg
  split at hg
  ·rename_i n
   split at hg
   ·rename_i hc
    cases hg
    simp only[bA,dQ] at hc
    simp only[VRL,VR] at hx
    obtain⟨_,_,hxs,rfl,rfl⟩:=hx
    exact(key n hc.1 hc.2 (F3g hxs)).mono fun e w' ⟨v',q1,q2,q3⟩=>⟨v',q1,by simp only[VR]; exact q2,q3⟩
   ·cases hg
  ·rename_i x _
   split at hg
   ·rename_i n hn
    obtain⟨hc,hv⟩:=Tr.br_get0 hg
    cases hv
    have hc:=of_decide_eq_true hc
    simp only[VRL] at hx
    obtain⟨_,_,hxs,h1,rfl⟩:=hx
    have h1:=K3 hn h1
    subst h1
    exact(key n hc.1 hc.2 (F3g hxs)).mono fun e w' ⟨v',q1,q2,q3⟩=>⟨v',q1,by simp only[VR]; exact q2,q3⟩
   ·cases hg
  ·cases hg
def B4d(cs:List UInt8):Bool:=cs.all (fun b=>decide (b.toNat<128))&&decide (cs.length<=1000)
def F9p:List AV->Tr AV
 | [.str s,.str cs]=>bif B4d cs&&decide (s.length<=9223372036854775807) then .leaf (.str (Lib.trimS s cs)) else .fail
 | [x,.str cs]=>match sstr? x with
  | some s=>bif B4d cs then .br (decide (s.length<=9223372036854775807)) (.leaf (.sstr (Lib.trimS s cs))) .fail else .fail
  | none=>.fail
 | _=>.fail
def E6j:List AV->Tr AV
 | [.str s,.str [c]]=>.leaf (.int .i64 (Lib.indexByte s c))
 | [x,.str [c]]=>match sstr? x with
  | some s=>.leaf (.sint .i64 (Lib.indexByte s c))
  | none=>.fail
 | _=>.fail
def F9m:List AV->Tr AV
 | [.str s]=>match Lib.atoi s with
  | some n=>bif decide (s.length<=18) then .leaf (.tuple [.int .i64 n,.nilIface]) else .fail
  | none=>.fail
 | [x]=>match sstr? x with
  | some s=>.br (decide (s.length<=18)&&(Lib.atoi s).isSome) (.leaf (.tuple [.sint .i64 ((Lib.atoi s).getD 0),.nilIface])) .fail
  | none=>.fail
 | _=>.fail
def lib2:Prims:=((lib.addt 204 F9p).addt 85 E6j).addt 162 F9m
theorem ascii_of_all{b:ByteArray}(h:b.data.toList.all (fun c=>decide (c.toNat<128))=true):∀ (j:Nat) (c:UInt8),b.data.toList[j]?=some c->c.toNat<128:=fun j c hc=>by
 have:=List.all_eq_true.1 h c (List.mem_of_getElem? hc)
 exact of_decide_eq_true this
theorem E0i{A:Amb}(hT:Tab A):PrimOK prog A lib2:=by
 refine PrimOK.libt (PrimOK.libt (PrimOK.libt (G2w hT) func204 (by kernel_rfl) ?_) func85 (by kernel_rfl) ?_) func162 (by kernel_rfl) ?_
 ·intro args v hg Z w xs _ _ hx
  have key:∀ (b1 b2:ByteArray),B4d b2.data.toList=true->b1.data.toList.length<=9223372036854775807->xs=#[.string b1,.string b2] ->
    Calls prog 204 xs w fun e w'=>∃ v',e=.returned v'/\(∃ b:ByteArray,b.data.toList=Lib.trimS b1.data.toList b2.data.toList/\v'=.string b)/\Quiet w w':=fun b1 b2 h1 h2 e1=>by
   subst e1
   simp only[B4d,bA,dQ] at h1
   have hl1:b1.data.toList.length=b1.size:=by simp
   have hl2:b2.data.toList.length=b2.size:=by simp
   refine(Any.strings_Trim_laid Tryz.lays160 (by kernel_rfl) b1 b2 w (by omega) (by omega) (ascii_of_all h1.1)).mono fun e w' ⟨h1,h2⟩=>?_
   subst h1
   exact⟨_,rfl,⟨_,by simp,rfl⟩,⟨h2.size,h2.block,h2.tape,h2.os,h2.output⟩⟩
  unfold F9p at hg
  split at hg
  ·rename_i s cs
   cases hb:(B4d cs&&decide (s.length<=9223372036854775807)) with
   | false=>rw[hb] at hg; cases hg
   | true =>
    rw[hb] at hg
    cases hg
    simp only[bA,dQ] at hb
    simp only[VRL,VR] at hx
    obtain⟨_,_,hxs,⟨b1,rfl,rfl⟩,_,_,rfl,⟨b2,rfl,rfl⟩,rfl⟩:=hx
    exact(key b1 b2 hb.1 hb.2 (B5q hxs)).mono fun e w' ⟨v',q1,q2,q3⟩=>⟨v',q1,by simp only[VR]; exact q2,q3⟩
  ·rename_i x cs _
   split at hg
   ·rename_i s hs
    cases hb:B4d cs with
    | false=>rw[hb] at hg; cases hg
    | true =>
     rw[hb] at hg
     obtain⟨h1,h2⟩:=Tr.br_get0 hg
     cases h2
     rw[dQ] at h1
     simp only[VRL] at hx
     obtain⟨_,_,hxs,q1,_,_,rfl,q2,rfl⟩:=hx
     obtain⟨b1,rfl,rfl⟩:=O3 hs q1
     simp only[VR] at q2
     obtain⟨b2,rfl,rfl⟩:=q2
     exact(key b1 b2 hb h1 (B5q hxs)).mono fun e w' ⟨v',q1,q2,q3⟩=>⟨v',q1,by simp only[VR]; exact q2,q3⟩
   ·cases hg
  ·cases hg
 ·intro args v hg Z w xs _ _ hx
  have key:∀ (b1 b2:ByteArray) (c:UInt8),b2.data.toList=[c]->xs=#[.string b1,.string b2] ->
    Calls prog 85 xs w fun e w'=>∃ v',e=.returned v'/\v'=.int .i64 (Lib.indexByte b1.data.toList c)/\Quiet w w':=fun b1 b2 c hc e1=>by
   subst e1
   obtain⟨⟨l2⟩⟩:=b2
   simp only at hc
   subst hc
   refine(Tryz.strings_Index_one b1 c w).mono fun e w' ⟨h1,h2⟩=>?_
   subst h1 h2
   exact⟨_,rfl,rfl,Quiet.refl _⟩
  unfold E6j at hg
  split at hg
  ·rename_i s c
   cases hg
   simp only[VRL,VR] at hx
   obtain⟨_,_,hxs,⟨b1,rfl,rfl⟩,_,_,rfl,⟨b2,h2,rfl⟩,rfl⟩:=hx
   exact(key b1 b2 c h2 (B5q hxs)).mono fun e w' ⟨v',q1,q2,q3⟩=>⟨v',q1,by simp only[VR]; exact q2,q3⟩
  ·rename_i x c _
   split at hg
   ·rename_i s hs
    cases hg
    simp only[VRL] at hx
    obtain⟨_,_,hxs,q1,_,_,rfl,q2,rfl⟩:=hx
    obtain⟨b1,rfl,rfl⟩:=O3 hs q1
    simp only[VR] at q2
    obtain⟨b2,h2,rfl⟩:=q2
    exact(key b1 b2 c h2 (B5q hxs)).mono fun e w' ⟨v',q1,q2,q3⟩=>⟨v',q1,by simp only[VR]; exact q2,q3⟩
   ·cases hg
  ·cases hg
 ·intro args v hg Z w xs _ _ hx
  have key:∀ (b1:ByteArray) (n:Int),b1.data.toList.length<=18->Lib.atoi b1.data.toList=some n->xs=#[.string b1] ->
    Calls prog 162 xs w fun e w'=>∃ v',e=.returned v'/\v'=.tuple #[.int .i64 n,.nilIface]/\Quiet w w':=fun b1 n h1 h2 e1=>by
   subst e1
   have hl1:b1.data.toList.length=b1.size:=by simp
   refine(Tryz.strconv_Atoi b1 n (by omega) h2 w).mono fun e w' ⟨h1',t,h2'⟩=>?_
   subst h1' h2'
   have hb:=Go.Joins.below_bytesWorld w.heap.size w 5 t (lR _)
   exact⟨_,rfl,rfl,⟨hb.size,hb.block,hb.tape,hb.os,hb.output⟩⟩
  unfold F9m at hg
  split at hg
  ·rename_i s
   split at hg
   ·rename_i n hn
    cases hb:decide (s.length<=18) with
    | false=>rw[hb] at hg; cases hg
    | true =>
     rw[hb] at hg
     cases hg
     simp only[VRL,VR] at hx
     obtain⟨_,_,hxs,⟨b1,rfl,rfl⟩,rfl⟩:=hx
     refine(key b1 n (of_decide_eq_true hb) hn (F3g hxs)).mono fun e w' ⟨v',q1,q2,q3⟩=>⟨v',q1,?_,q3⟩
     subst q2
     simp only[VR,VRL]
     exact⟨_,rfl,_,_,rfl,rfl,_,_,rfl,rfl,rfl⟩
   ·cases hg
  ·rename_i x _
   split at hg
   ·rename_i s hs
    obtain⟨h1,h2⟩:=Tr.br_get0 hg
    cases h2
    simp only[bA,dQ] at h1
    simp only[VRL] at hx
    obtain⟨_,_,hxs,q1,rfl⟩:=hx
    obtain⟨b1,rfl,rfl⟩:=O3 hs q1
    obtain⟨n,hn⟩:=Option.isSome_iff_exists.1 h1.2
    refine(key b1 n h1.1 hn (F3g hxs)).mono fun e w' ⟨v',q1,q2,q3⟩=>⟨v',q1,?_,q3⟩
    subst q2
    rw[hn]
    simp only[VR,VRL]
    exact⟨_,rfl,_,_,rfl,rfl,_,_,rfl,rfl,rfl⟩
   ·cases hg
  ·cases hg
def dr(n:Nat):List Pt:=List.replicate n .drop
def dd8:List OP:=List.replicate 8 .dead
abbrev W(n:Int):Int:=IntKind.i64.wrap n
def I8(s:List UInt8):Bool:=decide (s.length<2^62)
theorem D4b{n:Int}(h0:-9223372036854775808<=n)(h1:n<=9223372036854775807):W n=n:=wrap64 h0 h1
theorem B3i{i:Nat}(h:i<2^62):W ((i:Int)+1)=((i+1:Nat):Int):=by rw[D4b (by omega) (by omega)]; omega
theorem H2g{b b':Bool}(h:b'=b)(Z:Emb)(x:Value)(hx:VR Z (.bool b') x):VR Z (.sbool b) x:=by subst h; simpa only[VR] using hx
theorem H2h{k:IntKind}{n n':Int}(h:n'=n)(Z:Emb)(x:Value)(hx:VR Z (.int k n') x):VR Z (.sint k n) x:=by subst h; simpa only[VR] using hx
def B2o(c:Int):Bool:=(decide (c >= 65)&&decide (c<=90))||(decide (c >= 97)&&decide (c<=122))
def C1t(c:Int):Bool:=decide (c >= 48)&&decide (c<=57)
theorem G9n(c:Int):(D6 prog lib2 60).call 91 [.sint .u8 c] (Bg 8) G7 =
  brK (decide (c >= 65)) (brK (decide (c<=90)) (some (.bool true)) (brK (decide (c >= 97)) (some (.sbool (decide (c<=122)))) (some (.bool false)))) (brK (decide (c >= 97)) (some (.sbool (decide (c<=122)))) (some (.bool false))):=by kernel_rfl
theorem G9t(c:Int):(D6 prog lib2 60).call 97 [.sint .u8 c] (Bg 8) G7 =
  brK (decide (c >= 97)) (brK (decide (c<=122)) (some (.bool true)) (brK (decide (c >= 65)) (some (.sbool (decide (c<=90)))) (some (.bool false)))) (brK (decide (c >= 65)) (some (.sbool (decide (c<=90)))) (some (.bool false))):=by kernel_rfl
theorem G9o(c:Int):(D6 prog lib2 60).call 92 [.sint .u8 c] (Bg 8) G7=brK (decide (c >= 48)) (some (.sbool (decide (c<=57)))) (some (.bool false)):=by kernel_rfl
def A5e(b:Bool)(v:AV):Prop:=v=.bool b \/ v=.sbool b
theorem A0s{b:Bool}{v:AV}(h:A5e b v)(Z:Emb)(x:Value)(hx:VR Z v x):VR Z (.sbool b) x:=by
 rcases h with rfl | rfl
 ·exact H2g rfl Z x hx
 ·exact hx
theorem B0u{b:Bool}{v:AV}(h:A5e b v):below 0 v=true:=by rcases h with rfl | rfl<;>rfl
theorem V7{b:Bool}{v:AV}(h:A5e b v):F5 0 v=true:=by rcases h with rfl | rfl<;>rfl
def T9(n:Int)(v:AV):Prop:=v=.int .i64 n \/ v=.sint .i64 n
theorem K7{n:Int}{v:AV}(h:T9 n v)(Z:Emb)(x:Value)(hx:VR Z v x):VR Z (.sint .i64 n) x:=by
 rcases h with rfl | rfl
 ·exact H2h rfl Z x hx
 ·exact hx
theorem A6t{n:Int}{v:AV}(h:T9 n v):below 0 v=true:=by rcases h with rfl | rfl<;>rfl
theorem H8{n:Int}{v:AV}(h:T9 n v):F5 0 v=true:=by rcases h with rfl | rfl<;>rfl
theorem C5y:∀ c:Int,(∃ v,(D6 prog lib2 60).call 91 [.sint .u8 c] (Bg 8) G7=some v/\A5e (B2o c) v)/\(∃ v,(D6 prog lib2 60).call 97 [.sint .u8 c] (Bg 8) G7=some v/\A5e (B2o c) v) /\
  (∃ v,(D6 prog lib2 60).call 92 [.sint .u8 c] (Bg 8) G7=some v/\A5e (C1t c) v):=by
 intro c
 rw[G9n,G9t,G9o]
 unfold B2o C1t A5e
 cases decide (c >= 65)<;>cases decide (c<=90)<;>cases decide (c >= 97)<;>cases decide (c<=122)<;>cases decide (c >= 48)<;>cases decide (c<=57)<;>exact⟨⟨_,rfl,by simp⟩,⟨_,rfl,by simp⟩,_,rfl,by simp⟩
def G1i:List Lf->Tr AV
 | [.i c]=>.leaf (.sbool (B2o c))
 | _=>.fail
def G5t:List Lf->Tr AV
 | [.i c]=>.leaf (.sbool (C1t c))
 | _=>.fail
def pB:Prims:=((lib2.addt 91 (gP [.int .u8] G1i)).addt 97 (gP [.int .u8] G1i)).addt 92 (gP [.int .u8] G5t)
section
variable {A:Amb} (hT:Tab A) (hG:gN prog<=A.G)
include hT hG
theorem G0y:PrimOK prog A pB:=by
 have h0:=E0i hT
 refine PrimOK.addP F8 G5 h0 (PrimOK.addP F8 G5 h0 (PrimOK.addP F8 G5 h0 h0 hG func91 (by kernel_rfl) ?_) hG func97 (by kernel_rfl) ?_) hG func92 (by kernel_rfl) ?_
 all_goals
  intro ls v hv
  unfold G1i at hv<;>skip
 ·split at hv
  ·rename_i c
   cases hv
   obtain⟨v',h1,h2⟩:=(C5y c).1
   exact⟨rfl,60,v',by rw[gsz]; exact h1,B0u h2,A0s h2⟩
  ·cases hv
 ·split at hv
  ·rename_i c
   cases hv
   obtain⟨v',h1,h2⟩:=(C5y c).2.1
   exact⟨rfl,60,v',by rw[gsz]; exact h1,B0u h2,A0s h2⟩
  ·cases hv
 ·unfold G5t at hv
  split at hv
  ·rename_i c
   cases hv
   obtain⟨v',h1,h2⟩:=(C5y c).2.2
   exact⟨rfl,60,v',by rw[gsz]; exact h1,B0u h2,A0s h2⟩
  ·cases hv
end
def C4v(c:Int):Int:=if B2o c||C1t c then 0 else 3
def H6(s:List UInt8):Int:=if s.length>24 then 17 else if s.length=0 \/ B2o (bAt s 0)=false then 3 else V6 (fun i=>C4v (bAt s i)) s.length
def E5j:Code:=f43.body.getD .skip
def E5k:Code:=f47.body.getD .skip
def D5a:Code:=I7 (J8 0 E5j)
def D5c:Code:=I7 (J8 0 E5k)
def byF(s:List UInt8):Nat->Int:=fun i=>((s.getD i 0).toNat:Int)
theorem D5p{α:Type}(b:Bool)(t f:Option α):brK b t f=if b=true then t else f:=by cases b<;>rfl
theorem SBs:(∀ a b:Bool,((a&&b)=true)=(a=true/\b=true))/\(∀ a b:Bool,((a||b)=true)=(a=true \/ b=true))/\(∀ a:Bool,((!a)=true)=(a=false))/\(∀ a b:Bool,((a&&b)=false)=(a=false \/ b=false)) /\
  (∀ a b:Bool,((a||b)=false)=(a=false/\b=false))/\(∀ a:Bool,((!a)=false)=(a=true))/\(∀ (p:Prop) [Decidable p],(decide p=true)=p)/\(∀ (p:Prop) [Decidable p],(decide p=false)=¬p) /\
  (∀ {α:Type} [BEq α] [LawfulBEq α] (a b:α),((a==b)=true)↔(a=b))/\(∀ {α:Type} [BEq α] [LawfulBEq α] (a b:α),((a != b)=true)↔(a≠b))/\(∀ {α:Type} [BEq α] [LawfulBEq α] (a b:α),((a==b)=false)↔(a≠b))/\(∀ {α:Type} [BEq α] [LawfulBEq α] (a b:α),((a != b)=false)↔(a=b)) /\
  (∀ b:Bool,(b&&true)=b)/\(∀ b:Bool,(b&&false)=false)/\(∀ b:Bool,(true&&b)=b)/\(∀ b:Bool,(false&&b)=false)/\(∀ b:Bool,(b||true)=true)/\(∀ b:Bool,(b||false)=b)/\(∀ b:Bool,(true||b)=true)/\(∀ b:Bool,(false||b)=b)/\(∀ {α:Type} (a b:α),(a≠b)=¬(a=b)) :=
 ⟨by simp,by simp,by simp,by simp,by simp,by simp,by simp,by simp,fun _ _=>beq_iff_eq,fun _ _=>bne_iff_ne,fun _ _=>beq_eq_false_iff_ne,fun _ _=>bne_eq_false_iff_eq,by simp,by simp,by simp,by simp,by simp,by simp,by simp,by simp,by simp⟩
theorem A8{α:Type}{b:Bool}{t f r:Option α}(h:b=true)(h2:t=r):brK b t f=r:=by subst h; exact h2
theorem C8{α:Type}{b:Bool}{t f r:Option α}(h:b=false)(h2:f=r):brK b t f=r:=by subst h; exact h2
theorem A0a{α:Type}{b:Bool}{x y:α}(h:b=true):cond b x y=x:=by rw[h]; rfl
theorem Z9{α:Type}{b:Bool}{x y:α}(h:b=false):cond b x y=y:=by rw[h]; rfl
theorem exV{α:Type}{o:Option α}{p:α->Prop}{v:α}(h:o=some v)(h2:p v):∃ v,o=some v/\p v:=⟨v,h,h2⟩
theorem I6{i:Nat}{N:Nat}(h:i<=N)(hN:N<2^62):W ((i:Int)+1)=((i+1:Nat):Int):=B3i (by omega)
def sp43:SP:=⟨dr 17++[.row 8,.int .i64,.int .i64]++dr 12,dd8++[.arr [] .u8 5]⟩
def G9z:SP:=⟨dr 2++[.int .i64]++dr 29,dd8++[.arr [] .u8 5]⟩
def G9y:SP:=⟨dr 32,dd8++[.arr [] .u8 5]⟩
def E1k:AEx->SP
 | .ret=>G9z
 | .normal=>sp43
 | _=>G9y
def sp47:SP:=⟨[.str,.drop,.drop,.int .i64]++dr 35,dd8⟩
def H0b:SP:=⟨[.drop,.drop,.int .i64]++dr 36,dd8⟩
def H0a:SP:=⟨dr 39,dd8⟩
def E1m:AEx->SP
 | .ret=>H0b
 | .normal=>sp47
 | _=>H0a
theorem F7f(m:Nat)(i:Int)(f:Nat->Int):F3 prog (D6 prog pB 60) (pB.blk 43) D5a (sp43.rho [.n m,.i m,.i i,.n m,.f f]) (sp43.heap [.n m,.i m,.i i,.n m,.f f]) (I1 E1k 9 []) =
  brK (decide (i<(m:Int))) (brK (decide (0<=i/\i<(m:Int))&&decide (0<=0)) (brK (decide (0+i.toNat<m)) (brK (!B2o (f (0+i.toNat))) (brK (!C1t (f (0+i.toNat))) (some (.ret,[.i 3,.n m,.f f])) (some (.normal,[.n m,.i m,.i (W (i+1)),.n m,.f f]))) (some (.normal,[.n m,.i m,.i (W (i+1)),.n m,.f f]))) none) none) (some (.exit 0,[.n m,.f f])):=by kernel_rfl
theorem F7h(s:List UInt8)(i:Int):F3 prog (D6 prog pB 60) (pB.blk 47) D5c (sp47.rho [.s s,.i i]) (sp47.heap [.s s,.i i]) (I1 E1m 8 []) =
  brK (decide (i<(s.length:Int))) (brK (decide (0<=i/\i<(s.length:Int))) (brK (!B2o ((s.getD i.toNat 0).toNat:Int)) (brK (decide (0<=i/\i<(s.length:Int))) (brK (decide (((s.getD i.toNat 0).toNat:Int)<48)) (some (.ret,[.i 3])) (brK (decide (0<=i/\i<(s.length:Int))) (brK (decide (((s.getD i.toNat 0).toNat:Int)>57)) (some (.ret,[.i 3])) (some (.normal,[.s s,.i (W (i+1))]))) none)) none) (some (.normal,[.s s,.i (W (i+1))]))) none) (some (.exit 0,[])):=by kernel_rfl
def B9x(s:List UInt8)(n:Nat):Bool:=decide (C4v (bAt s n)=0)
theorem E0r(s:List UInt8)(n:Nat):B9x s n=(B2o (bAt s n)||C1t (bAt s n)):=by
 unfold B9x C4v
 cases B2o (bAt s n)||C1t (bAt s n)<;>simp
theorem G4w(s:List UInt8)(hs:I8 s=true)(n:Nat)(hn:n<=s.length):F3 prog (D6 prog pB 60) (pB.blk 43) D5a (sp43.rho [.n s.length,.i s.length,.i n,.n s.length,.f (byF s)]) (sp43.heap [.n s.length,.i s.length,.i n,.n s.length,.f (byF s)]) (I1 E1k 9 []) =
  some (if n<s.length then(bif B9x s n then(.normal,[.n s.length,.i s.length,.i ((n+1:Nat):Int),.n s.length,.f (byF s)]) else(.ret,[.i 3,.n s.length,.f (byF s)])) else(.exit 0,[.n s.length,.f (byF s)])):=by
 have hs:s.length<2^62:=of_decide_eq_true hs
 rw[F7f,I6 hn hs,E0r]
 simp only[D5p,tN,Nat.zero_add,show byF s n=bAt s n from rfl]
 by_cases h:n<s.length
 ·have h1:(n:Int)<(s.length:Int):=by omega
  cases B2o (bAt s n)<;>cases C1t (bAt s n)<;>simp[h,h1]
 ·have h1:¬ (n:Int)<(s.length:Int):=by omega
  simp[h,h1]
theorem G4y(s:List UInt8)(hs:I8 s=true)(n:Nat)(hn:n<=s.length):F3 prog (D6 prog pB 60) (pB.blk 47) D5c (sp47.rho [.s s,.i n]) (sp47.heap [.s s,.i n]) (I1 E1m 8 []) =
  some (if n<s.length then(bif B9x s n then(.normal,[.s s,.i ((n+1:Nat):Int)]) else(.ret,[.i 3])) else(.exit 0,[])):=by
 have hs:s.length<2^62:=of_decide_eq_true hs
 rw[F7h,I6 hn hs,E0r]
 simp only[D5p,tN,show((s.getD n 0).toNat:Int)=bAt s n from rfl]
 by_cases h:n<s.length
 ·have h1:(n:Int)<(s.length:Int):=by omega
  have hd:C1t (bAt s n)=(!decide (bAt s n<48)&&!decide (bAt s n>57)):=by
   unfold C1t
   rw[show decide (bAt s n >= 48)=!decide (bAt s n<48) by by_cases h:bAt s n<48<;>simp[h]<;>omega,show decide (bAt s n<=57)=!decide (bAt s n>57) by by_cases h:bAt s n>57<;>simp[h]<;>omega]
  rw[hd]
  cases decide (bAt s n<48)<;>cases decide (bAt s n>57)<;>cases B2o (bAt s n)<;>simp[h,h1]
 ·have h1:¬ (n:Int)<(s.length:Int):=by omega
  simp[h,h1]
def B4q:List Lf->List UInt8
 | [.n m,_,_,_,.f f]=>(List.range m).map fun i=>(f i).toNat.toUInt8
 | _=>[]
def D0f:List Lf->List UInt8
 | [.s s,_]=>s
 | _=>[]
theorem E5l(s:List UInt8)(a b c:Lf):B4q [.n s.length,a,b,c,.f (byF s)]=s:=by
 refine List.ext_getElem (by simp[B4q]) fun i h1 h2=>?_
 simp[B4q,byF,h2]
abbrev L43(s:List UInt8)(n:Nat):List Lf:=[.n s.length,.i s.length,.i n,.n s.length,.f (byF s)]
abbrev L47(s:List UInt8)(n:Nat):List Lf:=[.s s,.i n]
def ivS(s:List UInt8):Prop:=I8 s=true
def G5n:List Lf->Nat->List Lf
 | [m,_,_,_,f],_=>[.i 3,m,f]
 | _,_=>[]
def G5p:List Lf->List Lf
 | [m,_,_,_,f]=>[m,f]
 | _=>[]
def G5o(_:List Lf)(_:Nat):List Lf:=[.i 3]
def G5q(_:List Lf):List Lf:=[]
def D2c(s:List UInt8):Nat:=s.length
def E9m:Prims:=(pB.addb 43 0 (hookP sp43 9 [] (fdT E1k 0 .ret (.exit 0) B4q L43 G5n G5p D2c B9x ivS))).addb 47 0 (hookP sp47 8 [] (fdT E1m 0 .ret (.exit 0) D0f L47 G5o G5q D2c B9x ivS))
section
variable {A:Amb} (hT:Tab A) (hG:gN prog<=A.G)
include hT hG
theorem F6q:PrimOK prog A E9m:=by
 have h0:=G0y hT hG
 have h1:=SEB.findR (id:=0) (ds:=[]) (dec:=B4q) (sp:=sp43) (sq:=E1k) (m:=9) (eb:=.ret) (ee:=.exit 0) (L:=L43) (Lb:=G5n) (Le:=G5p) (N:=D2c) (p:=B9x) (Inv:=ivS) (k:=60) F8 G5 h0 h0 func43 (show f43.body=some E5j by kernel_rfl) (body:=D5a) (by kernel_rfl)
  rfl rfl rfl rfl (by simp) (by simp) (fun s n=>⟨⟨.inr rfl,.inr rfl,.inr rfl,.inr rfl,.inr rfl,.inr rfl,.inr rfl,.inr rfl,.inr rfl,trivial⟩,⟨.inr rfl,.inr rfl,.inr rfl,.inr rfl,.inr rfl,.inr rfl,.inr rfl,.inr rfl,.inr rfl,trivial⟩⟩) G4w
 exact SEB.findR (id:=0) (ds:=[]) (dec:=D0f) (sp:=sp47) (sq:=E1m) (m:=8) (eb:=.ret) (ee:=.exit 0) (L:=L47) (Lb:=G5o) (Le:=G5q) (N:=D2c) (p:=B9x) (Inv:=ivS) (k:=60) F8 G5 h0 h1 func47 (show f47.body=some E5k by kernel_rfl) (body:=D5c) (by kernel_rfl)
  rfl rfl rfl rfl (by simp) (by simp) (fun s n=>⟨⟨.inr rfl,.inr rfl,.inr rfl,.inr rfl,.inr rfl,.inr rfl,.inr rfl,.inr rfl,trivial⟩,⟨.inr rfl,.inr rfl,.inr rfl,.inr rfl,.inr rfl,.inr rfl,.inr rfl,.inr rfl,trivial⟩⟩) G4y
end
abbrev C6w(s:List UInt8)(b0:Bool)(c e:Bool):Option AV:=brK (decide ((s.length:Int)>24)) (some (.int .i64 17)) (brK b0 (some (.int .i64 3)) (brK (decide ((0:Int)<=0/\0<(s.length:Int))) (brK (!B2o ((s.getD 0 0).toNat:Int)) (some (.int .i64 3)) (brK c (brK e (some (.int .i64 0)) (some (.sint .i64 3))) none)) none))
theorem G8z(s:List UInt8):(D6 prog E9m 60).call 43 [.sstr s] (Bg 8) G7=C6w s (s==[]) (fdC L43 B4q ivS (L43 s 0)) (fdE B9x D2c (B4q (L43 s 0))):=by kernel_rfl
theorem G9c(s:List UInt8):(D6 prog E9m 60).call 47 [.sstr s] (Bg 8) G7=C6w s ((s.length:Int)==0) (fdC L47 D0f ivS (L47 s 0)) (fdE B9x D2c (D0f (L47 s 0))):=by kernel_rfl
theorem H0i(s:List UInt8)(N:Nat):V6 (fun i=>C4v (bAt s i)) N=0 \/ V6 (fun i=>C4v (bAt s i)) N=3:=by
 unfold V6
 split
 ·exact .inl rfl
 ·generalize G9 _ _ _=k
  show C4v (bAt s k)=0 \/ C4v (bAt s k)=3
  unfold C4v; split<;>simp
theorem H0m{o:Option AV}{n:Int}(h:o=some (.int .i64 n) \/ o=some (.sint .i64 n)):∃ v,o=some v/\T9 n v:=by
 rcases h with h | h
 ·exact⟨_,h,.inl rfl⟩
 ·exact⟨_,h,.inr rfl⟩
theorem C3n{s:List UInt8}{b0:Bool}(hb:b0=decide (s.length=0)):∃ v,C6w s b0 true (fdE B9x D2c s)=some v/\T9 (H6 s) v:=by
 subst hb
 refine H0m ?_
 rw[A0g (fun i=>C4v (bAt s i)) (fun i _=>rfl)]
 unfold C6w H6
 simp only[D5p,show((s.getD 0 0).toNat:Int)=bAt s 0 from rfl,show D2c s=s.length from rfl]
 by_cases h1:s.length>24
 ·have:(s.length:Int)>24:=by omega
  simp[h1,this]
 ·have h1':¬ (s.length:Int)>24:=by omega
  by_cases h2:s.length=0
  ·simp[h2]
  ·have h2':0<(s.length:Int):=by omega
   have h2'':0<s.length:=by omega
   cases B2o (bAt s 0) with
   | false=>simp[h1,h1',h2,h2'']
   | true=>rcases H0i s s.length with h | h<;>simp[h1,h1',h2,h2'',h]
theorem G0v{s:List UInt8}(hs:I8 s=true):(∃ v,(D6 prog E9m 60).call 43 [.sstr s] (Bg 8) G7=some v/\T9 (H6 s) v)/\∃ v,(D6 prog E9m 60).call 47 [.sstr s] (Bg 8) G7=some v/\T9 (H6 s) v:=by
 have d43:B4q (L43 s 0)=s:=E5l s _ _ _
 have d47:D0f (L47 s 0)=s:=rfl
 rw[G8z,G9c,J5 d43 hs,J5 d47 hs,d43,d47]
 exact⟨C3n (by cases s<;>simp),C3n (by cases s<;>simp<;>omega)⟩
theorem C4q{A:Amb}(hG:gN prog<=A.G){prims prims0:Prims}(h0:PrimOK prog A prims0)(hp:PrimOK prog A prims){f:FuncId}{fn:Func}(ps:List Pt)(T:List Lf->Tr AV)(hf:prog.funcs[f]?=some fn)(hc:fn.body.isSome=true)(h:∀ ls v,(T ls).get=some v->R4 0 (mkT ps ls).1=true/\∃ v',(D6 prog prims0 60).call f (mkT ps ls).1 (Bg 8) G7=some v'/\below 0 v'=true/\∀ Z x,VR Z v' x->VR Z v x):PrimOK prog A (prims.addt f (gP ps T)) :=
 PrimOK.addP F8 G5 h0 hp hG hf hc fun ls v hv=>by
  obtain⟨h1,v',h2,h3,h4⟩:=h ls v hv
  exact⟨h1,60,v',by rw[gsz]; exact h2,h3,h4⟩
def TNm:List Lf->Tr AV
 | [.s s]=>.br (I8 s) (.leaf (.sint .i64 (H6 s))) .fail
 | _=>.fail
def pNm:Prims:=(pB.addt 43 (gP [.str] TNm)).addt 47 (gP [.str] TNm)
theorem D9o{ls:List Lf}{v:AV}(h:(TNm ls).get=some v):∃ s,ls=[.s s]/\I8 s=true/\v=.sint .i64 (H6 s):=by
 unfold TNm at h
 split at h
 ·obtain⟨hs,hv⟩:=Tr.br1 h
  cases hv
  exact⟨_,rfl,hs,rfl⟩
 ·cases h
theorem C7i{A:Amb}(hT:Tab A)(hG:gN prog<=A.G):PrimOK prog A pNm:=by
 have h0:=F6q hT hG
 refine C4q hG h0 (C4q hG h0 (G0y hT hG) [.str] TNm func43 (by kernel_rfl) fun ls v hv=>?_) [.str] TNm func47 (by kernel_rfl) fun ls v hv=>?_
 ·obtain⟨s,rfl,hs,rfl⟩:=D9o hv
  obtain⟨v',h1,h2⟩:=(G0v hs).1
  exact⟨rfl,v',h1,A6t h2,K7 h2⟩
 ·obtain⟨s,rfl,hs,rfl⟩:=D9o hv
  obtain⟨v',h1,h2⟩:=(G0v hs).2
  exact⟨rfl,v',h1,A6t h2,K7 h2⟩
def Q0:Par Drw where
 get:=fun | [.agg l]=>D0p l | _=>none
 av:=fun x=>[.agg x.av]
 ok:=by
  intro l x h Z vs hv
  split at h
  ·simp only[VRL,VR] at hv ⊢
   obtain⟨y,r,e,⟨a,q1,q2⟩,q3⟩:=hv
   exact⟨y,r,e,⟨a,q1,C6g h q2⟩,q3⟩
  ·cases h
 free:=fun _=>rfl
def A1p:Par Fea where
 get:=fun | [.agg l]=>D0y l | _=>none
 av:=fun x=>[.agg x.av]
 ok:=by
  intro l x h Z vs hv
  split at h
  ·simp only[VRL,VR] at hv ⊢
   obtain⟨y,r,e,⟨a,q1,q2⟩,q3⟩:=hv
   exact⟨y,r,e,⟨a,q1,C6i h q2⟩,q3⟩
  ·cases h
 free:=fun _=>rfl
def C7k:Par Frm where
 get:=fun | [.agg l]=>D6d l | _=>none
 av:=fun x=>[.agg x.av]
 ok:=by
  intro l x h Z vs hv
  split at h
  ·simp only[VRL,VR] at hv ⊢
   obtain⟨y,r,e,⟨a,q1,q2⟩,q3⟩:=hv
   exact⟨y,r,e,⟨a,q1,D9z h q2⟩,q3⟩
  ·cases h
 free:=fun _=>rfl
def C7j:Par Dim where
 get:=fun | [.agg l]=>(E5n l).map fun x=>(true,x) | _=>none
 av:=fun x=>[.agg x.av]
 ok:=by
  intro l x h Z vs hv
  split at h
  ·simp only[VRL,VR] at hv ⊢
   simp only[oM,pI,true_and] at h
   obtain⟨x',h1,rfl⟩:=h
   obtain⟨y,r,e,⟨a,q1,q2⟩,q3⟩:=hv
   exact⟨y,r,e,⟨a,q1,C6f h1 q2⟩,q3⟩
  ·cases h
 free:=fun _=>rfl
def A9l:Par (Fea×Frm) where
 get:=fun | [.agg l,.agg m]=>(match D0y l,D6d m with | some (a,x),some (b,y)=>some (a&&b,(x,y)) | _,_=>none) | _=>none
 av:=fun x=>[.agg x.1.av,.agg x.2.av]
 ok:=by
  intro l x h Z vs hv
  split at h
  ·split at h
   ·rename_i h1 h2
    simp only[sI,pI,bA] at h
    obtain⟨⟨rfl,rfl⟩,rfl⟩:=h
    simp only[VRL,VR] at hv ⊢
    obtain⟨y,r,e,⟨a,q1,q2⟩,y2,r2,e2,⟨a2,q4,q5⟩,q3⟩:=hv
    exact⟨y,r,e,⟨a,q1,C6i h1 q2⟩,y2,r2,e2,⟨a2,q4,D9z h2 q5⟩,q3⟩
   ·cases h
  ·cases h
 free:=fun _=>rfl
def G3t{α:Type}[Inhabited α](fv:α->List FV)(es:Nat):Par (List α) where
 get:=fun | [a]=>B2p fv es a | _=>none
 av:=fun l=>[.flist l.length (A7 fv l) es]
 ok:=by
  intro l x h Z vs hv
  split at h
  ·simp only[VRL] at hv ⊢
   obtain⟨y,r,e,q1,q2⟩:=hv
   exact⟨y,r,e,A3g h q1,q2⟩
  ·cases h
 free:=fun _=>rfl
abbrev E0u:Par (List Dim):=G3t Dim.fv 5
theorem J4{A:Amb}(hG:gN prog<=A.G){prims prims0:Prims}(h0:PrimOK prog A prims0)(hp:PrimOK prog A prims){f:FuncId}{fn:Func}{β:Type}(p:Par β)(V:β->Tr AV)(hf:prog.funcs[f]?=some fn)(hc:fn.body.isSome=true)(h:∀ x v,(V x).get=some v->∃ v',(D6 prog prims0 60).call f (p.av x) (Bg 8) G7=some v'/\F5 0 v'=true/\∀ Z y,VR Z v' y->VR Z v y):PrimOK prog A (prims.addt f (Q8 p V)) :=
 PrimOK.addPar p V F8 G5 h0 hp hG hf hc fun x v hv=>by
  obtain⟨v',h1,h2,h3⟩:=h x v hv
  exact⟨v',h2,h3,60,by rw[gsz]; exact h1⟩
end Go.Proofs.Tryz
namespace Go.Proofs.Tryz
open Go.Ad
def C9(x:Fea):AObj:=.cells x.av 0 true 49
def U5(x:Frm):AObj:=.cells x.av 0 true 115
def A9(x:Drw):AObj:=.cells x.av 0 true 25
def A1o:AObj->Fea
 | .cells l _ _ _=>((D0y l).map (·.2)).getD default
 | _=>default
def D2n:AObj->Frm
 | .cells l _ _ _=>((D6d l).map (·.2)).getD default
 | _=>default
def I4:AObj->Drw
 | .cells l _ _ _=>((D0p l).map (·.2)).getD default
 | _=>default
theorem F3v(x:Fea):D0y x.av=some (D8 (okR Frm.fv x.l.length (A7 Frm.fv x.l)),x):=by
 simp[D0y,Fea.av,sstr?,i64?,M8,F9l,B2p,I5 Frm.inj]
theorem F4p(x:Frm):D6d x.av=some (D8 (okR Dat.fv x.l.length (A7 Dat.fv x.l)),x):=by
 simp[D6d,Frm.av,sbool?,i64?,M8,F9d,B2p,I5 Dat.inj]
theorem F3q(x:Drw):D0p x.av=some (D8 (okR Fea.fv x.l.length (A7 Fea.fv x.l))&&D8 (okR Dim.fv x.m.length (A7 Dim.fv x.m)),x):=by
 simp[D0p,Drw.av,sstr?,F9j,D9v,B2p,I5 Fea.inj,I5 Dim.inj]
theorem M5(x:Fea):A1o (C9 x)=x:=by simp[A1o,C9,F3v]
theorem B9u(x:Frm):D2n (U5 x)=x:=by simp[D2n,U5,F4p]
theorem E8(x:Drw):I4 (A9 x)=x:=by simp[I4,A9,F3q]
abbrev F7(x:Fea)(i:Nat):Frm:=x.l.getD i default
abbrev X3(x:Frm)(i:Nat):Dat:=x.l.getD i default
def C5g:Code:=I7 (J8 2 (f36.body.getD .skip))
def sp36b:SP:=⟨dr 1++[.is (.ptr (some (8,0)))]++dr 1++[.int .i64]++[.int .i64]++dr 48,dd8++[.any]⟩
def C7y:AEx->SP
 | .ret=>⟨dr 2++[.bool]++dr 50,dd8++[.any]⟩
 | .exit 2=>⟨dr 1++[.is (.ptr (some (8,0)))]++dr 1++[.int .i64]++dr 49,dd8++[.any]⟩
 | _=>sp36b
theorem F0i(x:Fea)(i n:Int):F3 prog (D6 prog pNm 60) (pNm.blk 36) C5g (sp36b.rho [.i i,.i n,.o (C9 x)]) (sp36b.heap [.i i,.i n,.o (C9 x)]) (I1 C7y 9 []) =
  brK (decide (0<=i/\i<(x.l.length:Int))) (brK (decide (n<((x.l.getD i.toNat default).l.length:Int))) (brK (decide (0<=i/\i<(x.l.length:Int))) (brK (decide (0<=n/\n<((x.l.getD i.toNat default).l.length:Int))) (brK (decide ((((x.l.getD i.toNat default).l.getD n.toNat default).s.length:Int)>100)) (some (.ret,[.b false,.o (C9 x)])) (some (.normal,[.i i,.i (W (n+1)),.o (C9 x)]))) none) none) (some (.exit 2,[.i i,.o (C9 x)]))) none:=by kernel_rfl
def B5f(x:Fea×Nat)(n:Nat):List Lf:=[.i x.2,.i n,.o (C9 x.1)]
def D8m:List Lf->Nat->List Lf
 | [_,_,o],_=>[.b false,o]
 | _,_=>[]
def D8y:List Lf->List Lf
 | [i,_,o]=>[i,o]
 | _=>[]
def C1h(x:Fea×Nat):Nat:=(F7 x.1 x.2).l.length
def D2p(x:Fea×Nat)(n:Nat):Bool:=decide ((X3 (F7 x.1 x.2) n).s.length<=100)
def D1s(x:Fea×Nat):Prop:=x.2<x.1.l.length/\(F7 x.1 x.2).l.length<2^62/\x.1.l.length<2^62
def A8c:List Lf->Fea×Nat
 | [.i i,_,.o o]=>(A1o o,i.toNat)
 | _=>default
theorem F8g(x:Fea×Nat)(hx:D1s x)(n:Nat)(hn:n<=C1h x):F3 prog (D6 prog pNm 60) (pNm.blk 36) C5g (sp36b.rho (B5f x n)) (sp36b.heap (B5f x n)) (I1 C7y 9 [])=some (if n<C1h x then(bif D2p x n then(.normal,B5f x (n+1)) else(.ret,D8m (B5f x 0) n)) else(.exit 2,D8y (B5f x 0))):=by
 obtain⟨h1,h2,h3⟩:=hx
 simp only[B5f,D8m,D8y]
 rw[F0i,I6 hn h2]
 simp only[tN]
 by_cases h:n<C1h x
 ·rw[if_pos h]
  simp only[C1h,F7] at h
  simp only[D2p,F7,X3]
  by_cases h4:((x.1.l.getD x.2 default).l.getD n default).s.length<=100
  all_goals
   repeat first
    | exact rfl
    | refine A8 rfl ?_
    | refine C8 rfl ?_
    | refine A8 (by simp only[SBs]; omega) ?_
    | refine C8 (by simp only[SBs]; omega) ?_
    | exact congrArg some (A0a (by first | (simp only[SBs]; omega) | simp)).symm
    | exact congrArg some (Z9 (by first | (simp only[SBs]; omega) | simp)).symm
 ·rw[if_neg h]
  simp only[C1h,F7] at h
  repeat first
   | exact rfl
   | refine A8 rfl ?_
   | refine C8 rfl ?_
   | refine A8 (by simp only[SBs]; omega) ?_
   | refine C8 (by simp only[SBs]; omega) ?_
   | exact congrArg some (A0a (by first | (simp only[SBs]; omega) | simp)).symm
   | exact congrArg some (Z9 (by first | (simp only[SBs]; omega) | simp)).symm
def F9u:Blk:=hookP sp36b 9 [] (fdT C7y 2 .ret (.exit 2) A8c B5f D8m D8y C1h D2p D1s)
theorem E6x{A:Amb}{q:Prims}(h0:PrimOK prog A pNm)(hq:PrimOK prog A q):PrimOK prog A (q.addb 36 2 F9u) :=
 SEB.findR (id:=2) (ds:=[]) (dec:=A8c) (sp:=sp36b) (sq:=C7y) (m:=9) (eb:=.ret) (ee:=.exit 2) (L:=B5f) (Lb:=D8m) (Le:=D8y) (N:=C1h) (p:=D2p) (Inv:=D1s) (k:=60) F8 G5 h0 hq func36 (show f36.body=some (f36.body.getD .skip) by kernel_rfl) (body:=C5g) (by kernel_rfl)
  rfl rfl rfl rfl (by simp) (by simp) (fun _ _=>⟨⟨.inr rfl,.inr rfl,.inr rfl,.inr rfl,.inr rfl,.inr rfl,.inr rfl,.inr rfl,.inr rfl,trivial⟩,⟨.inr rfl,.inr rfl,.inr rfl,.inr rfl,.inr rfl,.inr rfl,.inr rfl,.inr rfl,.inr rfl,trivial⟩⟩) F8g
theorem C2k(x:Fea×Nat):A8c (B5f x 0)=x:=by
 obtain⟨x,i⟩:=x
 simp[A8c,B5f,M5]
theorem C2j(x:Fea)(i:Nat):A8c [Lf.i (i:Int),Lf.i 0,Lf.o (C9 x)]=(x,i):=C2k (x,i)
theorem E5w{x:Fea}{i:Nat}(h:i<x.l.length)(h6:(x.l.getD i default).l.length<=6)(h1:x.l.length<2^62):fdC B5f A8c D1s [Lf.i (i:Int),Lf.i 0,Lf.o (C9 x)]=true:=J5 (x:=(x,i)) (C2k (x,i)) ⟨h,Nat.lt_of_le_of_lt h6 (by omega),h1⟩
def pF1:Prims:=pNm.addb 36 2 F9u
def C5f:Code:=I7 (J8 0 (f36.body.getD .skip))
def sp36a:SP:=⟨dr 1++[.is (.ptr (some (8,0)))]++dr 1++[.int .i64]++dr 49,dd8++[.any]⟩
def C7x:AEx->SP
 | .ret=>⟨dr 2++[.bool]++dr 50,dd8++[.any]⟩
 | .exit 0=>⟨dr 53,dd8++[.any]⟩
 | _=>sp36a
theorem F0h(x:Fea)(n:Int):F3 prog (D6 prog pF1 60) (pF1.blk 36) C5f (sp36a.rho [.i n,.o (C9 x)]) (sp36a.heap [.i n,.o (C9 x)]) (I1 C7x 9 []) =
  brK (decide (n<(x.l.length:Int))) (brK (decide (0<=n/\n<(x.l.length:Int))) (brK (decide (((x.l.getD n.toNat default).l.length:Int)>6)) (some (.ret,[.b false,.o (C9 x)])) (brK (fdC B5f A8c D1s [Lf.i n,Lf.i 0,Lf.o (C9 x)]) (brK (fdE D2p C1h (A8c [Lf.i n,Lf.i 0,Lf.o (C9 x)])) (some (.normal,[.i (W (n+1)),.o (C9 x)])) (some (.ret,[.b false,.o (C9 x)]))) none)) none) (some (.exit 0,[.o (C9 x)])):=by kernel_rfl
def C1c(x:Fea)(n:Nat):List Lf:=[.i n,.o (C9 x)]
def D8l:List Lf->Nat->List Lf
 | [_,o],_=>[.b false,o]
 | _,_=>[]
def D8x:List Lf->List Lf
 | [_,o]=>[o]
 | _=>[]
def C1g(x:Fea):Nat:=x.l.length
def D2o(x:Fea)(n:Nat):Bool:=decide ((F7 x n).l.length<=6)&&fdE D2p C1h (x,n)
def C3c(x:Fea):Prop:=x.l.length<2^62
def B0m:List Lf->Fea
 | [_,.o o]=>A1o o
 | _=>default
theorem F8f(x:Fea)(hx:C3c x)(n:Nat)(hn:n<=C1g x):F3 prog (D6 prog pF1 60) (pF1.blk 36) C5f (sp36a.rho (C1c x n)) (sp36a.heap (C1c x n)) (I1 C7x 9 [])=some (if n<C1g x then(bif D2o x n then(.normal,C1c x (n+1)) else(.ret,D8l (C1c x 0) n)) else(.exit 0,D8x (C1c x 0))):=by
 have h1:=hx
 simp only[C3c] at h1
 simp only[C1c,D8l,D8x]
 rw[F0h,I6 hn h1]
 simp only[tN,C2j]
 by_cases h:n<C1g x
 ·rw[if_pos h]
  simp only[C1g] at h
  simp only[D2o,F7]
  by_cases h6:(x.l.getD n default).l.length<=6<;>cases hE:fdE D2p C1h (x,n)
  all_goals
   repeat first
    | exact rfl
    | refine A8 rfl ?_
    | refine C8 rfl ?_
    | refine A8 (by simp only[SBs]; omega) ?_
    | refine C8 (by simp only[SBs]; omega) ?_
    | refine A8 (E5w h h6 h1) ?_
    | exact congrArg some (A0a (by first | (simp only[SBs]; omega) | simp)).symm
    | exact congrArg some (Z9 (by first | (simp only[SBs]; omega) | simp)).symm
 ·rw[if_neg h]
  simp only[C1g] at h
  repeat first
   | exact rfl
   | refine A8 rfl ?_
   | refine C8 rfl ?_
   | refine A8 (by simp only[SBs]; omega) ?_
   | refine C8 (by simp only[SBs]; omega) ?_
   | refine A8 (E5w h h6 h1) ?_
   | exact congrArg some (A0a (by first | (simp only[SBs]; omega) | simp)).symm
   | exact congrArg some (Z9 (by first | (simp only[SBs]; omega) | simp)).symm
def F9t:Blk:=hookP sp36a 9 [] (fdT C7x 0 .ret (.exit 0) B0m C1c D8l D8x C1g D2o C3c)
theorem E6w{A:Amb}{q:Prims}(h0:PrimOK prog A pF1)(hq:PrimOK prog A q):PrimOK prog A (q.addb 36 0 F9t) :=
 SEB.findR (id:=0) (ds:=[]) (dec:=B0m) (sp:=sp36a) (sq:=C7x) (m:=9) (eb:=.ret) (ee:=.exit 0) (L:=C1c) (Lb:=D8l) (Le:=D8x) (N:=C1g) (p:=D2o) (Inv:=C3c) (k:=60) F8 G5 h0 hq func36 (show f36.body=some (f36.body.getD .skip) by kernel_rfl) (body:=C5f) (by kernel_rfl)
  rfl rfl rfl rfl (by simp) (by simp) (fun _ _=>⟨⟨.inr rfl,.inr rfl,.inr rfl,.inr rfl,.inr rfl,.inr rfl,.inr rfl,.inr rfl,.inr rfl,trivial⟩,⟨.inr rfl,.inr rfl,.inr rfl,.inr rfl,.inr rfl,.inr rfl,.inr rfl,.inr rfl,.inr rfl,trivial⟩⟩) F8f
theorem C2i(x:Fea):B0m [Lf.i 0,Lf.o (C9 x)]=x:=by simp[B0m,M5]
theorem G2m{x:Fea}(h1:x.l.length<2^62):fdC C1c B0m C3c [Lf.i 0,Lf.o (C9 x)]=true:=J5 (x:=x) (C2i x) h1
def pF2:Prims:=pF1.addb 36 0 F9t
def D4y:Code:=I7 (J8 0 (f39.body.getD .skip))
def sp39:SP:=⟨[.flist 5]++dr 2++[.int .i64]++dr 35,dd8⟩
def E1j:AEx->SP
 | .ret=>⟨dr 2++[.bool]++dr 36,dd8⟩
 | .exit 0=>⟨dr 39,dd8⟩
 | _=>sp39
theorem F7e(l:List Dim)(n:Int):F3 prog (D6 prog pNm 60) (pNm.blk 39) D4y (sp39.rho [.n l.length,.fr (A7 Dim.fv l),.i n]) (sp39.heap [.n l.length,.fr (A7 Dim.fv l),.i n]) (I1 E1j 8 []) =
  brK (decide (n<(l.length:Int))) (brK (decide (0<=n/\n<(l.length:Int))) (brK (decide (((l.getD n.toNat default).f.length:Int)>100)) (some (.ret,[.b false])) (brK (decide (0<=n/\n<(l.length:Int))) (brK (decide (((l.getD n.toNat default).t.length:Int)>100)) (some (.ret,[.b false])) (some (.normal,[.n (l.length),.fr (fun i=>(l.getD i default).fv),.i (W (n+1))]))) none)) none) (some (.exit 0,[])):=by kernel_rfl
def L39(x:List Dim)(n:Nat):List Lf:=[.n x.length,.fr (A7 Dim.fv x),.i n]
def F2k:List Lf->Nat->List Lf
 | [_,_,_],_=>[.b false]
 | _,_=>[]
def F2r:List Lf->List Lf
 | [_,_,_]=>[]
 | _=>[]
def N39(x:List Dim):Nat:=x.length
def p39(x:List Dim)(n:Nat):Bool:=decide ((x.getD n default).f.length<=100)&&decide ((x.getD n default).t.length<=100)
def D6l(x:List Dim):Prop:=x.length<2^62
def B4p:List Lf->List Dim
 | [.n m,.fr f,_]=>ofR Dim.fv m f
 | _=>[]
theorem G4v(x:List Dim)(hx:D6l x)(n:Nat)(hn:n<=N39 x):F3 prog (D6 prog pNm 60) (pNm.blk 39) D4y (sp39.rho (L39 x n)) (sp39.heap (L39 x n)) (I1 E1j 8 [])=some (if n<N39 x then(bif p39 x n then(.normal,L39 x (n+1)) else(.ret,F2k (L39 x 0) n)) else(.exit 0,F2r (L39 x 0))):=by
 have h1:=hx
 simp only[D6l] at h1
 simp only[L39,F2k,F2r]
 rw[F7e,I6 hn h1]
 simp only[tN]
 by_cases h:n<N39 x
 ·rw[if_pos h]
  simp only[N39] at h
  simp only[p39]
  by_cases h2:(x.getD n default).f.length<=100<;>by_cases h3:(x.getD n default).t.length<=100
  all_goals
   repeat first
    | exact rfl
    | refine A8 rfl ?_
    | refine C8 rfl ?_
    | refine A8 (by simp only[SBs]; omega) ?_
    | refine C8 (by simp only[SBs]; omega) ?_
    | exact congrArg some (A0a (by first | (simp only[SBs]; omega) | simp)).symm
    | exact congrArg some (Z9 (by first | (simp only[SBs]; omega) | simp)).symm
 ·rw[if_neg h]
  simp only[N39] at h
  repeat first
   | exact rfl
   | refine A8 rfl ?_
   | refine C8 rfl ?_
   | refine A8 (by simp only[SBs]; omega) ?_
   | refine C8 (by simp only[SBs]; omega) ?_
   | exact congrArg some (A0a (by first | (simp only[SBs]; omega) | simp)).symm
   | exact congrArg some (Z9 (by first | (simp only[SBs]; omega) | simp)).symm
def G6l:Blk:=hookP sp39 8 [] (fdT E1j 0 .ret (.exit 0) B4p L39 F2k F2r N39 p39 D6l)
theorem F4v{A:Amb}{q:Prims}(h0:PrimOK prog A pNm)(hq:PrimOK prog A q):PrimOK prog A (q.addb 39 0 G6l) :=
 SEB.findR (id:=0) (ds:=[]) (dec:=B4p) (sp:=sp39) (sq:=E1j) (m:=8) (eb:=.ret) (ee:=.exit 0) (L:=L39) (Lb:=F2k) (Le:=F2r) (N:=N39) (p:=p39) (Inv:=D6l) (k:=60) F8 G5 h0 hq func39 (show f39.body=some (f39.body.getD .skip) by kernel_rfl) (body:=D4y) (by kernel_rfl)
  rfl rfl rfl rfl (by simp) (by simp) (fun _ _=>⟨⟨.inr rfl,.inr rfl,.inr rfl,.inr rfl,.inr rfl,.inr rfl,.inr rfl,.inr rfl,trivial⟩,⟨.inr rfl,.inr rfl,.inr rfl,.inr rfl,.inr rfl,.inr rfl,.inr rfl,.inr rfl,trivial⟩⟩) G4v
theorem D0c(l:List Dim):B4p [Lf.n l.length,Lf.fr (A7 Dim.fv l),Lf.i 0]=l:=I5 Dim.inj l
theorem G6b{l:List Dim}(h1:l.length<2^62):fdC L39 B4p D6l [Lf.n l.length,Lf.fr (A7 Dim.fv l),Lf.i 0]=true:=J5 (x:=l) (D0c l) h1
def pF3:Prims:=pF2.addb 39 0 G6l
def C6j(x:Fea):Bool:=decide (x.s.length<=100)&&(decide (x.l.length<=12)&&fdE D2o C1g x)
theorem G8w(x:Fea):(D6 prog pF3 60).call 36 [.agg x.av] (Bg 8) G7 =
  brK (decide ((x.s.length:Int)>100)) (some (.bool false)) (brK (decide ((x.l.length:Int)>12)) (some (.bool false)) (brK (fdC C1c B0m C3c [Lf.i 0,Lf.o (C9 x)]) (brK (fdE D2o C1g (B0m [Lf.i 0,Lf.o (C9 x)])) (some (.bool true)) (some (.sbool (false)))) none)):=by kernel_rfl
theorem H1a(x:Fea):∃ v,(D6 prog pF3 60).call 36 [.agg x.av] (Bg 8) G7=some v/\A5e (C6j x) v:=by
 rw[G8w]
 simp only[C2i]
 by_cases h1:x.s.length<=100<;>by_cases h2:x.l.length<=12<;>cases hE:fdE D2o C1g x
 all_goals
  apply exV
  focus
   repeat first
    | exact rfl
    | refine A8 rfl ?_
    | refine C8 rfl ?_
    | refine A8 (by simp only[SBs]; omega) ?_
    | refine C8 (by simp only[SBs]; omega) ?_
    | refine A8 (G2m (by omega)) ?_
  focus
   first
    | exact .inl rfl
    | exact .inr rfl
    | (exfalso; omega)
    | simp_all[A5e,C6j]
def D1a(l:List Dim):Bool:=!(decide (l.length>10)&&decide (l.length<=256)||decide (l.length>512))&&fdE p39 N39 l
theorem G8x(l:List Dim):(D6 prog pF3 60).call 39 [D9v l] (Bg 8) G7 =
  brK (decide ((l.length:Int)>10)) (brK (decide ((l.length:Int)<=256)) (some (.bool false)) (brK (decide ((l.length:Int)>512)) (some (.bool false)) (brK (fdC L39 B4p D6l [Lf.n l.length,Lf.fr (A7 Dim.fv l),Lf.i 0]) (brK (fdE p39 N39 (B4p [Lf.n l.length,Lf.fr (A7 Dim.fv l),Lf.i 0])) (some (.bool true)) (some (.sbool (false)))) none))) (brK (decide ((l.length:Int)>512)) (some (.bool false)) (brK (fdC L39 B4p D6l [Lf.n l.length,Lf.fr (A7 Dim.fv l),Lf.i 0]) (brK (fdE p39 N39 (B4p [Lf.n l.length,Lf.fr (A7 Dim.fv l),Lf.i 0])) (some (.bool true)) (some (.sbool (false)))) none)):=by kernel_rfl
theorem H1b(l:List Dim):∃ v,(D6 prog pF3 60).call 39 [D9v l] (Bg 8) G7=some v/\A5e (D1a l) v:=by
 rw[G8x]
 simp only[D0c]
 by_cases h1:l.length>10<;>by_cases h2:l.length<=256<;>by_cases h3:l.length>512<;>cases hE:fdE p39 N39 l
 all_goals
  apply exV
  focus
   repeat first
    | exact rfl
    | refine A8 rfl ?_
    | refine C8 rfl ?_
    | refine A8 (by simp only[SBs]; omega) ?_
    | refine C8 (by simp only[SBs]; omega) ?_
    | refine A8 (G6b (by omega)) ?_
  focus
   first
    | exact .inl rfl
    | exact .inr rfl
    | (exfalso; omega)
    | simp_all[A5e,D1a]
theorem G2v{A:Amb}(hT:Tab A)(hG:gN prog<=A.G):PrimOK prog A pF3:=by
 have h0:=C7i hT hG
 have h1:PrimOK prog A pF1:=E6x h0 h0
 exact F4v h0 (E6w h1 h1)
def pFw0:Prims:=(pNm.addt 36 (Q8 A1p fun x=>.leaf (.sbool (C6j x)))).addt 39 (Q8 E0u fun x=>.leaf (.sbool (D1a x)))
theorem F6m{A:Amb}(hT:Tab A)(hG:gN prog<=A.G):PrimOK prog A pFw0:=by
 have h0:=G2v hT hG
 refine J4 hG h0 (J4 hG h0 (C7i hT hG) A1p _ func36 (by kernel_rfl) fun x v hv=>?_) E0u _ func39 (by kernel_rfl) fun x v hv=>?_
 ·cases hv
  obtain⟨v',h1,h2⟩:=H1a x
  exact⟨v',h1,V7 h2,A0s h2⟩
 ·cases hv
  obtain⟨v',h1,h2⟩:=H1b x
  exact⟨v',h1,V7 h2,A0s h2⟩
theorem K5{α:Type}[Inhabited α]{fv:α->List FV}(l:List α):D8 (okR fv l.length (A7 fv l))=true:=D5 (D7e l)
abbrev D9(d:Drw)(i:Nat):Fea:=d.l.getD i default
abbrev K8(d:Drw)(i:Nat):Dim:=d.m.getD i default
def E5d:Code:=I7 (J8 0 (f9.body.getD .skip))
def sp9:SP:=⟨dr 1++[.is (.ptr (some (8,0)))]++dr 1++[.int .i64]++dr 39,dd8++[.any]⟩
def F8b:AEx->SP
 | .ret=>⟨dr 2++[.bool]++dr 40,dd8++[.any]⟩
 | .exit 0=>⟨dr 1++[.is (.ptr (some (8,0)))]++dr 41,dd8++[.any]⟩
 | _=>sp9
theorem G4a(d:Drw)(n:Int):F3 prog (D6 prog pFw0 60) (pFw0.blk 9) E5d (sp9.rho [.i n,.o (A9 d)]) (sp9.heap [.i n,.o (A9 d)]) (I1 F8b 9 []) =
  brK (decide (n<(d.l.length:Int))) (brK (decide (0<=n/\n<(d.l.length:Int))) (brK (D8 (okR Frm.fv (d.l.getD n.toNat default).l.length (A7 Frm.fv (d.l.getD n.toNat default).l))) (brK (!C6j { s:=(d.l.getD n.toNat default).s,k:=(d.l.getD n.toNat default).k,a:=(d.l.getD n.toNat default).a,x:=(d.l.getD n.toNat default).x,y:=(d.l.getD n.toNat default).y,z:=(d.l.getD n.toNat default).z,lo:=(d.l.getD n.toNat default).lo,hi:=(d.l.getD n.toNat default).hi,l:=ofR Frm.fv (d.l.getD n.toNat default).l.length (A7 Frm.fv (d.l.getD n.toNat default).l) }) (some (.ret,[.b false,.o (A9 d)])) (some (.normal,[.i (W (n+1)),.o (A9 d)]))) none) none) (some (.exit 0,[.o (A9 d)])):=by kernel_rfl
def L9(x:Drw)(n:Nat):List Lf:=[.i n,.o (A9 x)]
def Lb9:List Lf->Nat->List Lf
 | [_,o],_=>[.b false,o]
 | _,_=>[]
def Le9:List Lf->List Lf
 | [_,o]=>[o]
 | _=>[]
def N9(x:Drw):Nat:=x.l.length
def p9(x:Drw)(n:Nat):Bool:=C6j (D9 x n)
def iv9(x:Drw):Prop:=x.l.length<2^62
def C6c:List Lf->Drw
 | [_,.o o]=>I4 o
 | _=>default
theorem H0c(x:Drw)(hx:iv9 x)(n:Nat)(hn:n<=N9 x):F3 prog (D6 prog pFw0 60) (pFw0.blk 9) E5d (sp9.rho (L9 x n)) (sp9.heap (L9 x n)) (I1 F8b 9 [])=some (if n<N9 x then(bif p9 x n then(.normal,L9 x (n+1)) else(.ret,Lb9 (L9 x 0) n)) else(.exit 0,Le9 (L9 x 0))):=by
 have h1:=hx
 simp only[iv9] at h1
 simp only[L9,Lb9,Le9]
 rw[G4a,I6 hn h1]
 simp only[tN,K5,I5 Frm.inj]
 by_cases h:n<N9 x
 ·rw[if_pos h]
  simp only[N9] at h
  simp only[p9,D9]
  cases hE:C6j (x.l.getD n default)
  all_goals
   repeat first
    | exact rfl
    | refine A8 rfl ?_
    | refine C8 rfl ?_
    | refine A8 (by simp only[SBs]; omega) ?_
    | refine C8 (by simp only[SBs]; omega) ?_
    | refine A8 (K5 _) ?_
    | exact congrArg some (A0a (by first | (simp only[SBs]; omega) | simp)).symm
    | exact congrArg some (Z9 (by first | (simp only[SBs]; omega) | simp)).symm
 ·rw[if_neg h]
  simp only[N9] at h
  repeat first
   | exact rfl
   | refine A8 rfl ?_
   | refine C8 rfl ?_
   | refine A8 (by simp only[SBs]; omega) ?_
   | refine C8 (by simp only[SBs]; omega) ?_
   | refine A8 (K5 _) ?_
   | exact congrArg some (A0a (by first | (simp only[SBs]; omega) | simp)).symm
   | exact congrArg some (Z9 (by first | (simp only[SBs]; omega) | simp)).symm
def hk9:Blk:=hookP sp9 9 [] (fdT F8b 0 .ret (.exit 0) C6c L9 Lb9 Le9 N9 p9 iv9)
theorem G2u{A:Amb}{q:Prims}(h0:PrimOK prog A pFw0)(hq:PrimOK prog A q):PrimOK prog A (q.addb 9 0 hk9) :=
 SEB.findR (id:=0) (ds:=[]) (dec:=C6c) (sp:=sp9) (sq:=F8b) (m:=9) (eb:=.ret) (ee:=.exit 0) (L:=L9) (Lb:=Lb9) (Le:=Le9) (N:=N9) (p:=p9) (Inv:=iv9) (k:=60) F8 G5 h0 hq func9 (show f9.body=some (f9.body.getD .skip) by kernel_rfl) (body:=E5d) (by kernel_rfl)
  rfl rfl rfl rfl (by simp) (by simp) (fun _ _=>⟨⟨.inr rfl,.inr rfl,.inr rfl,.inr rfl,.inr rfl,.inr rfl,.inr rfl,.inr rfl,.inr rfl,trivial⟩,⟨.inr rfl,.inr rfl,.inr rfl,.inr rfl,.inr rfl,.inr rfl,.inr rfl,.inr rfl,.inr rfl,trivial⟩⟩) H0c
theorem D9s(d:Drw):C6c [Lf.i 0,Lf.o (A9 d)]=d:=by simp[C6c,E8]
theorem H0n{d:Drw}(h1:d.l.length<2^62):fdC L9 C6c iv9 [Lf.i 0,Lf.o (A9 d)]=true:=J5 (x:=d) (D9s d) h1
def pF4:Prims:=pFw0.addb 9 0 hk9
def D0z(d:Drw):Bool:=(decide (d.s.length<=100)&&(decide (d.l.length<=8)||(decide (d.l.length>32)&&decide (d.l.length<=64))))&&(fdE p9 N9 d&&D1a d.m)
theorem H2b(d:Drw):(D6 prog pF4 60).call 9 [.agg d.av] (Bg 8) G7 =
  brK (decide ((d.s.length:Int)>100)) (some (.bool false)) (brK (decide ((d.l.length:Int)>8)) (brK (decide ((d.l.length:Int)<=32)) (some (.bool false)) (brK (decide ((d.l.length:Int)>64)) (some (.bool false)) (brK (fdC L9 C6c iv9 [Lf.i 0,Lf.o (A9 d)]) (brK (fdE p9 N9 (C6c [Lf.i 0,Lf.o (A9 d)])) (brK (D8 (okR Dim.fv d.m.length (A7 Dim.fv d.m))) (some (.sbool (D1a (ofR Dim.fv d.m.length (A7 Dim.fv d.m))))) none) (some (.sbool (false)))) none))) (brK (decide ((d.l.length:Int)>64)) (some (.bool false)) (brK (fdC L9 C6c iv9 [Lf.i 0,Lf.o (A9 d)]) (brK (fdE p9 N9 (C6c [Lf.i 0,Lf.o (A9 d)])) (brK (D8 (okR Dim.fv d.m.length (A7 Dim.fv d.m))) (some (.sbool (D1a (ofR Dim.fv d.m.length (A7 Dim.fv d.m))))) none) (some (.sbool (false)))) none))):=by kernel_rfl
theorem ok9(d:Drw):∃ v,(D6 prog pF4 60).call 9 [.agg d.av] (Bg 8) G7=some v/\A5e (D0z d) v:=by
 rw[H2b]
 simp only[D9s,K5,I5 Dim.inj]
 by_cases h1:d.s.length<=100<;>by_cases h2:d.l.length<=8<;>by_cases h3:d.l.length>32<;>by_cases h4:d.l.length>64<;>cases hE:fdE p9 N9 d<;>cases hM:D1a d.m
 all_goals
  apply exV
  focus
   repeat first
    | exact rfl
    | refine A8 rfl ?_
    | refine C8 rfl ?_
    | refine A8 (by simp only[SBs]; omega) ?_
    | refine C8 (by simp only[SBs]; omega) ?_
    | refine A8 (H0n (by omega)) ?_
    | refine A8 (K5 _) ?_
  focus
   first
    | exact .inl rfl
    | exact .inr rfl
    | (exfalso; omega)
    | simp_all[A5e,D0z]
def pFw:Prims:=pNm.addt 9 (Q8 Q0 fun x=>.leaf (.sbool (D0z x)))
theorem G3m{A:Amb}(hT:Tab A)(hG:gN prog<=A.G):PrimOK prog A pFw:=by
 have h0:=F6m hT hG
 refine J4 hG (G2u h0 h0) (C7i hT hG) Q0 _ func9 (by kernel_rfl) fun x v hv=>?_
 cases hv
 obtain⟨v',h1,h2⟩:=ok9 x
 exact⟨v',h1,V7 h2,A0s h2⟩
theorem J3{α:Type}{c:Prop}[Decidable c]{x y r:α}(h:c)(h2:x=r):ite c x y=r:=by rw[if_pos h]; exact h2
theorem H5{α:Type}{c:Prop}[Decidable c]{x y r:α}(h:¬ c)(h2:y=r):ite c x y=r:=by rw[if_neg h]; exact h2
theorem viI{n m:Int}(h:n=m):T9 n (.int .i64 m):=by subst h; exact .inl rfl
theorem viS{n m:Int}(h:n=m):T9 n (.sint .i64 m):=by subst h; exact .inr rfl
theorem vbB{n m:Bool}(h:n=m):A5e n (.bool m):=by subst h; exact .inl rfl
theorem vbS{n m:Bool}(h:n=m):A5e n (.sbool m):=by subst h; exact .inr rfl
def K4(x:Fea):Int:=if H6 x.s≠0 then H6 x.s else if x.k<0 \/ x.k >= 5 \/ x.a<0 \/ x.a >= 3 then 1 else if x.k=4/\x.a≠0 then 3
 else if x.x < -100000 \/ x.x>100000 \/ x.y < -100000 \/ x.y>100000 \/ x.z < -100000 \/ x.z>100000 then 2 else if x.k=0/\(x.lo≠0 \/ x.hi≠0) then 3 else if x.k=0 then 0
 else if x.lo < -100000 \/ x.lo>100000 \/ x.hi < -100000 \/ x.hi>100000 then 2 else if x.lo>x.hi then 9 else if x.lo<1 then 2 else 0
def V3(x:Dim):Int:=if H6 x.f≠0 then H6 x.f else if H6 x.t≠0 then H6 x.t else if x.f=x.t then 7 else if x.a<0 \/ x.a >= 3 then 1
 else if x.lo < -100000 \/ x.lo>100000 \/ x.hi < -100000 \/ x.hi>100000 then 2 else if x.lo>x.hi then 9 else 0
theorem G4c(x:Fea):(D6 prog pNm 60).call 105 [.agg x.av] (Bg 8) G7 =
  brK (I8 x.s) (brK (H6 x.s != 0) (some (.sint IntKind.i64 (H6 x.s))) (brK (decide (x.k<0)) (some (.int .i64 1)) (brK (decide (x.k >= 5)) (some (.int .i64 1)) (brK (decide (x.a<0)) (some (.int .i64 1)) (brK (decide (x.a >= 3)) (some (.int .i64 1)) (brK (x.k==4) (brK (x.a != 0) (some (.int .i64 3)) (brK (decide (x.x >= -100000)) (brK (decide (x.x<=100000)) (brK (decide (x.y >= -100000)) (brK (decide (x.y<=100000)) (brK (decide (x.z >= -100000)) (brK (!decide (x.z<=100000)) (some (.int .i64 2)) (brK (x.k==0) (brK (!(x.lo==0&&(x.hi==0&&true))) (some (.int .i64 3)) (brK (x.k==0) (some (.int .i64 0)) (brK (decide (x.lo >= -100000)) (brK (!decide (x.lo<=100000)) (some (.int .i64 2)) (brK (decide (x.hi >= -100000)) (brK (!decide (x.hi<=100000)) (some (.int .i64 2)) (brK (decide (x.lo>x.hi)) (some (.int .i64 9)) (brK (decide (x.lo<1)) (some (.int .i64 2)) (some (.int .i64 0))))) (some (.int .i64 2)))) (some (.int .i64 2))))) (brK (x.k==0) (some (.int .i64 0)) (brK (decide (x.lo >= -100000)) (brK (!decide (x.lo<=100000)) (some (.int .i64 2)) (brK (decide (x.hi >= -100000)) (brK (!decide (x.hi<=100000)) (some (.int .i64 2)) (brK (decide (x.lo>x.hi)) (some (.int .i64 9)) (brK (decide (x.lo<1)) (some (.int .i64 2)) (some (.int .i64 0))))) (some (.int .i64 2)))) (some (.int .i64 2)))))) (some (.int .i64 2))) (some (.int .i64 2))) (some (.int .i64 2))) (some (.int .i64 2))) (some (.int .i64 2)))) (brK (decide (x.x >= -100000)) (brK (decide (x.x<=100000)) (brK (decide (x.y >= -100000)) (brK (decide (x.y<=100000)) (brK (decide (x.z >= -100000)) (brK (!decide (x.z<=100000)) (some (.int .i64 2)) (brK (x.k==0) (brK (!(x.lo==0&&(x.hi==0&&true))) (some (.int .i64 3)) (brK (x.k==0) (some (.int .i64 0)) (brK (decide (x.lo >= -100000)) (brK (!decide (x.lo<=100000)) (some (.int .i64 2)) (brK (decide (x.hi >= -100000)) (brK (!decide (x.hi<=100000)) (some (.int .i64 2)) (brK (decide (x.lo>x.hi)) (some (.int .i64 9)) (brK (decide (x.lo<1)) (some (.int .i64 2)) (some (.int .i64 0))))) (some (.int .i64 2)))) (some (.int .i64 2))))) (brK (x.k==0) (some (.int .i64 0)) (brK (decide (x.lo >= -100000)) (brK (!decide (x.lo<=100000)) (some (.int .i64 2)) (brK (decide (x.hi >= -100000)) (brK (!decide (x.hi<=100000)) (some (.int .i64 2)) (brK (decide (x.lo>x.hi)) (some (.int .i64 9)) (brK (decide (x.lo<1)) (some (.int .i64 2)) (some (.int .i64 0))))) (some (.int .i64 2)))) (some (.int .i64 2)))))) (some (.int .i64 2))) (some (.int .i64 2))) (some (.int .i64 2))) (some (.int .i64 2))) (some (.int .i64 2))))))))) none:=by kernel_rfl
theorem G7l(x:Fea)(hz:I8 x.s=true):∃ v,(D6 prog pNm 60).call 105 [.agg x.av] (Bg 8) G7=some v/\T9 (K4 x) v:=by
 rw[G4c]
 by_cases k4:x.k=4<;>by_cases k0:x.k=0
 all_goals
  by_cases c1:H6 x.s≠0
  rotate_left
  by_cases c2:x.k<0
  rotate_left
  by_cases c3:x.k >= 5
  rotate_left
  by_cases c4:x.a<0
  rotate_left
  by_cases c5:x.a >= 3
  rotate_left
  by_cases c6:x.k=4/\x.a≠0
  rotate_left
  by_cases c7:x.x < -100000
  rotate_left
  by_cases c8:x.x>100000
  rotate_left
  by_cases c9:x.y < -100000
  rotate_left
  by_cases c10:x.y>100000
  rotate_left
  by_cases c11:x.z < -100000
  rotate_left
  by_cases c12:x.z>100000
  rotate_left
  by_cases c13:x.k=0/\(x.lo≠0 \/ x.hi≠0)
  rotate_left
  by_cases c14:x.k=0
  rotate_left
  by_cases c15:x.lo < -100000
  rotate_left
  by_cases c16:x.lo>100000
  rotate_left
  by_cases c17:x.hi < -100000
  rotate_left
  by_cases c18:x.hi>100000
  rotate_left
  by_cases c19:x.lo>x.hi
  rotate_left
  by_cases c20:x.lo<1
  rotate_left
  all_goals
   apply exV
   focus
    repeat first
     | exact rfl
     | refine A8 rfl ?_
     | refine C8 rfl ?_
     | refine A8 (by simp only[SBs]; omega) ?_
     | refine C8 (by simp only[SBs]; omega) ?_
     | refine A8 hz ?_
   focus
    first
     | apply viI
     | apply viS
    unfold K4
    repeat first
     | exact rfl
     | refine J3 (by omega) ?_
     | refine H5 (by omega) ?_
theorem G4h(x:Fea):(D6 prog pNm 60).call 150 [.agg x.av] (Bg 8) G7 =
  brK (I8 x.s) (brK (H6 x.s != 0) (some (.sint IntKind.i64 (H6 x.s))) (brK (decide (x.k<0)) (some (.int .i64 1)) (brK (decide (x.k >= 5)) (some (.int .i64 1)) (brK (decide (x.a<0)) (some (.int .i64 1)) (brK (decide (x.a >= 3)) (some (.int .i64 1)) (brK (x.k==4) (brK (x.a != 0) (some (.int .i64 3)) (brK (decide (x.x >= -100000)) (brK (!decide (x.x<=100000)) (some (.int .i64 2)) (brK (decide (x.y >= -100000)) (brK (!decide (x.y<=100000)) (some (.int .i64 2)) (brK (decide (x.z >= -100000)) (brK (!decide (x.z<=100000)) (some (.int .i64 2)) (brK (x.k==0) (brK (!(x.lo==0&&(x.hi==0&&true))) (some (.int .i64 3)) (some (.int .i64 0))) (brK (decide (x.lo >= -100000)) (brK (!decide (x.lo<=100000)) (some (.int .i64 2)) (brK (decide (x.hi >= -100000)) (brK (!decide (x.hi<=100000)) (some (.int .i64 2)) (brK (decide (x.lo>x.hi)) (some (.int .i64 9)) (brK (decide (x.lo<1)) (some (.int .i64 2)) (some (.int .i64 0))))) (some (.int .i64 2)))) (some (.int .i64 2))))) (some (.int .i64 2)))) (some (.int .i64 2)))) (some (.int .i64 2)))) (brK (decide (x.x >= -100000)) (brK (!decide (x.x<=100000)) (some (.int .i64 2)) (brK (decide (x.y >= -100000)) (brK (!decide (x.y<=100000)) (some (.int .i64 2)) (brK (decide (x.z >= -100000)) (brK (!decide (x.z<=100000)) (some (.int .i64 2)) (brK (x.k==0) (brK (!(x.lo==0&&(x.hi==0&&true))) (some (.int .i64 3)) (some (.int .i64 0))) (brK (decide (x.lo >= -100000)) (brK (!decide (x.lo<=100000)) (some (.int .i64 2)) (brK (decide (x.hi >= -100000)) (brK (!decide (x.hi<=100000)) (some (.int .i64 2)) (brK (decide (x.lo>x.hi)) (some (.int .i64 9)) (brK (decide (x.lo<1)) (some (.int .i64 2)) (some (.int .i64 0))))) (some (.int .i64 2)))) (some (.int .i64 2))))) (some (.int .i64 2)))) (some (.int .i64 2)))) (some (.int .i64 2))))))))) none:=by kernel_rfl
theorem G7r(x:Fea)(hz:I8 x.s=true):∃ v,(D6 prog pNm 60).call 150 [.agg x.av] (Bg 8) G7=some v/\T9 (K4 x) v:=by
 rw[G4h]
 by_cases k4:x.k=4<;>by_cases k0:x.k=0
 all_goals
  by_cases c1:H6 x.s≠0
  rotate_left
  by_cases c2:x.k<0
  rotate_left
  by_cases c3:x.k >= 5
  rotate_left
  by_cases c4:x.a<0
  rotate_left
  by_cases c5:x.a >= 3
  rotate_left
  by_cases c6:x.k=4/\x.a≠0
  rotate_left
  by_cases c7:x.x < -100000
  rotate_left
  by_cases c8:x.x>100000
  rotate_left
  by_cases c9:x.y < -100000
  rotate_left
  by_cases c10:x.y>100000
  rotate_left
  by_cases c11:x.z < -100000
  rotate_left
  by_cases c12:x.z>100000
  rotate_left
  by_cases c13:x.k=0/\(x.lo≠0 \/ x.hi≠0)
  rotate_left
  by_cases c14:x.k=0
  rotate_left
  by_cases c15:x.lo < -100000
  rotate_left
  by_cases c16:x.lo>100000
  rotate_left
  by_cases c17:x.hi < -100000
  rotate_left
  by_cases c18:x.hi>100000
  rotate_left
  by_cases c19:x.lo>x.hi
  rotate_left
  by_cases c20:x.lo<1
  rotate_left
  all_goals
   apply exV
   focus
    repeat first
     | exact rfl
     | refine A8 rfl ?_
     | refine C8 rfl ?_
     | refine A8 (by simp only[SBs]; omega) ?_
     | refine C8 (by simp only[SBs]; omega) ?_
     | refine A8 hz ?_
   focus
    first
     | apply viI
     | apply viS
    unfold K4
    repeat first
     | exact rfl
     | refine J3 (by omega) ?_
     | refine H5 (by omega) ?_
theorem G9r(y:Dim):(D6 prog pNm 60).call 95 [.agg y.av] (Bg 8) G7 =
  brK (I8 y.f) (brK (H6 y.f != 0) (some (.sint IntKind.i64 (H6 y.f))) (brK (I8 y.t) (brK (H6 y.t != 0) (some (.sint IntKind.i64 (H6 y.t))) (brK (y.f==y.t) (some (.int .i64 7)) (brK (decide (y.a<0)) (some (.int .i64 1)) (brK (decide (y.a >= 3)) (some (.int .i64 1)) (brK (decide (y.lo >= -100000)) (brK (!decide (y.lo<=100000)) (some (.int .i64 2)) (brK (decide (y.hi >= -100000)) (brK (!decide (y.hi<=100000)) (some (.int .i64 2)) (brK (decide (y.lo>y.hi)) (some (.int .i64 9)) (some (.int .i64 0)))) (some (.int .i64 2)))) (some (.int .i64 2))))))) none)) none:=by kernel_rfl
theorem H1p(y:Dim)(hz:I8 y.f=true)(hz2:I8 y.t=true):∃ v,(D6 prog pNm 60).call 95 [.agg y.av] (Bg 8) G7=some v/\T9 (V3 y) v:=by
 rw[G9r]
 by_cases c1:H6 y.f≠0
 rotate_left
 by_cases c2:H6 y.t≠0
 rotate_left
 by_cases c3:y.f=y.t
 rotate_left
 by_cases c4:y.a<0
 rotate_left
 by_cases c5:y.a >= 3
 rotate_left
 by_cases c6:y.lo < -100000
 rotate_left
 by_cases c7:y.lo>100000
 rotate_left
 by_cases c8:y.hi < -100000
 rotate_left
 by_cases c9:y.hi>100000
 rotate_left
 by_cases c10:y.lo>y.hi
 rotate_left
 all_goals
  apply exV
  focus
   repeat first
    | exact rfl
    | refine A8 rfl ?_
    | refine C8 rfl ?_
    | refine A8 (by simp only[SBs]; omega) ?_
    | refine C8 (by simp only[SBs]; omega) ?_
    | refine A8 hz ?_
    | refine A8 hz2 ?_
    | refine A8 (beq_iff_eq.2 c3) ?_
    | refine C8 (beq_eq_false_iff_ne.2 c3) ?_
  focus
   first
    | apply viI
    | apply viS
   unfold V3
   repeat first
    | exact rfl
    | refine J3 (by omega) ?_
    | refine H5 (by omega) ?_
    | refine J3 c3 ?_
    | refine H5 c3 ?_
theorem G9v(y:Dim):(D6 prog pNm 60).call 99 [.agg y.av] (Bg 8) G7 =
  brK (I8 y.f) (brK (H6 y.f != 0) (some (.sint IntKind.i64 (H6 y.f))) (brK (I8 y.t) (brK (H6 y.t != 0) (some (.sint IntKind.i64 (H6 y.t))) (brK (y.f==y.t) (some (.int .i64 7)) (brK (decide (y.a<0)) (some (.int .i64 1)) (brK (decide (y.a >= 3)) (some (.int .i64 1)) (brK (decide (y.lo >= -100000)) (brK (!decide (y.lo<=100000)) (some (.int .i64 2)) (brK (decide (y.hi >= -100000)) (brK (!decide (y.hi<=100000)) (some (.int .i64 2)) (brK (decide (y.lo>y.hi)) (some (.int .i64 9)) (some (.int .i64 0)))) (some (.int .i64 2)))) (some (.int .i64 2))))))) none)) none:=by kernel_rfl
theorem H1s(y:Dim)(hz:I8 y.f=true)(hz2:I8 y.t=true):∃ v,(D6 prog pNm 60).call 99 [.agg y.av] (Bg 8) G7=some v/\T9 (V3 y) v:=by
 rw[G9v]
 by_cases c1:H6 y.f≠0
 rotate_left
 by_cases c2:H6 y.t≠0
 rotate_left
 by_cases c3:y.f=y.t
 rotate_left
 by_cases c4:y.a<0
 rotate_left
 by_cases c5:y.a >= 3
 rotate_left
 by_cases c6:y.lo < -100000
 rotate_left
 by_cases c7:y.lo>100000
 rotate_left
 by_cases c8:y.hi < -100000
 rotate_left
 by_cases c9:y.hi>100000
 rotate_left
 by_cases c10:y.lo>y.hi
 rotate_left
 all_goals
  apply exV
  focus
   repeat first
    | exact rfl
    | refine A8 rfl ?_
    | refine C8 rfl ?_
    | refine A8 (by simp only[SBs]; omega) ?_
    | refine C8 (by simp only[SBs]; omega) ?_
    | refine A8 hz ?_
    | refine A8 hz2 ?_
    | refine A8 (beq_iff_eq.2 c3) ?_
    | refine C8 (beq_eq_false_iff_ne.2 c3) ?_
  focus
   first
    | apply viI
    | apply viS
   unfold V3
   repeat first
    | exact rfl
    | refine J3 (by omega) ?_
    | refine H5 (by omega) ?_
    | refine J3 c3 ?_
    | refine H5 c3 ?_
theorem D9n{x:Fea}{v:AV}(h:(Tr.br (I8 x.s) (.leaf (.sint .i64 (K4 x))) .fail).get=some v):I8 x.s=true/\v=.sint .i64 (K4 x):=by
 obtain⟨h1,h2⟩:=Tr.br1 h
 cases h2
 exact⟨h1,rfl⟩
def pFe:Prims:=(((pFw.addt 105 (Q8 A1p fun x=>.br (I8 x.s) (.leaf (.sint .i64 (K4 x))) .fail)).addt 150 (Q8 A1p fun x=>.br (I8 x.s) (.leaf (.sint .i64 (K4 x))) .fail)).addt
 95 (Q8 C7j fun y=>.br (I8 y.f&&I8 y.t) (.leaf (.sint .i64 (V3 y))) .fail)).addt 99 (Q8 C7j fun y=>.br (I8 y.f&&I8 y.t) (.leaf (.sint .i64 (V3 y))) .fail)
theorem D7l{A:Amb}(hT:Tab A)(hG:gN prog<=A.G):PrimOK prog A pFe:=by
 have h0:=C7i hT hG
 refine J4 hG h0 (J4 hG h0 (J4 hG h0 (J4 hG h0 (G3m hT hG) A1p _ func105 (by kernel_rfl) fun x v hv=>?_) A1p _ func150 (by kernel_rfl) fun x v hv=>?_) C7j _ func95 (by kernel_rfl) fun x v hv=>?_) C7j _ func99 (by kernel_rfl) fun x v hv=>?_
 ·obtain⟨hz,rfl⟩:=D9n hv
  obtain⟨v',h1,h2⟩:=G7l x hz
  exact⟨v',h1,H8 h2,K7 h2⟩
 ·obtain⟨hz,rfl⟩:=D9n hv
  obtain⟨v',h1,h2⟩:=G7r x hz
  exact⟨v',h1,H8 h2,K7 h2⟩
 ·obtain⟨hz,hv⟩:=Tr.br1 hv
  cases hv
  rw[bA] at hz
  obtain⟨v',h1,h2⟩:=H1p x hz.1 hz.2
  exact⟨v',h1,H8 h2,K7 h2⟩
 ·obtain⟨hz,hv⟩:=Tr.br1 hv
  cases hv
  rw[bA] at hz
  obtain⟨v',h1,h2⟩:=H1s x hz.1 hz.2
  exact⟨v',h1,H8 h2,K7 h2⟩
end Go.Proofs.Tryz
