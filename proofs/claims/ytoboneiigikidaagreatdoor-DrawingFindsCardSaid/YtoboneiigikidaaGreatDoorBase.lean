/- The lexer's program: what the library's functions give, as known functions of the evaluator. -/
import Derived.Test.YtoboneiigikidaaGreatDoorAdPrim
import Derived.Test.YtoboneiigikidaaGreatDoorAdPat
import Derived.Test.YtoboneiigikidaaGreatDoorShelf
import Derived.Lib.LaidTab
import Derived.Lib.ItoaNum
import Derived.KernelRfl
import Derived.Lib.SmallJoins
import Derived.Test.YtoboneiigikidaaGreatDoorAdFind
noncomputable section
namespace Go.Proofs.Tryz
open Go.Ad
theorem F7:prog.follows .mixedOrders=true:=by kernel_rfl
theorem F9:A0o prog:=by
 have h:(prog.funcs.all fun fn=>decide (fn.name≠"runtime.NumGoroutine"))=true:=by kernel_rfl
 intro f fn hf
 exact of_decide_eq_true (Array.all_eq_true_iff_forall_mem.1 h fn (Array.mem_of_getElem? hf))
theorem started:decide (prog.globals.size<(begin prog (fun _ _=>0) default).world.heap.size)=true:=by kernel_rfl
theorem gsz:gN prog=8:=by kernel_rfl
def byteOf(c:Int):UInt8:=c.toNat.toUInt8
def B8o:List AV->Tr AV
 | [.str s,.int .u8 c]=>.leaf (.int .i64 (Lib.indexByte s (byteOf c)))
 | [x,y]=>match sstr? x,Q9 y with
  | some s,some (.u8,c)=>.leaf (.sint .i64 (Lib.indexByte s (byteOf c)))
  | _,_=>.fail
 | _=>.fail
def D1h:List AV->Option AV
 | [.str a,.str b]=>some (.int .i64 (Lib.compareBytes a b))
 | [x,y]=>match sstr? x,sstr? y with
  | some a,some b=>some (.sint .i64 (Lib.compareBytes a b))
  | _,_=>none
 | _=>none
def F9l:List AV->Tr AV
 | [.int .i64 n]=>if decide (-9223372036854775808<=n)&&decide (n<=9223372036854775807) then .leaf (.str (Lib.itoa n)) else .fail
 | [x]=>match Q9 x with
  | some (.i64,n)=>.br (decide (-9223372036854775808<=n/\n<=9223372036854775807)) (.leaf (.sstr (Lib.itoa n))) .fail
  | _=>.fail
 | _=>.fail
def Tab(A:Amb):Prop:=∀ w:World,(∀ c,c<A.G->w.heap[c]?=A.base c)->Lib.TabIs prog w "internal/strconv.uint64pow10" .u64 Lib.pow10Tab
theorem tab_of{W:World}(hG:gN prog<=W.heap.size)(h:Lib.TabIs prog W "internal/strconv.uint64pow10" .u64 Lib.pow10Tab):Tab (ambOf W):=fun w hw=>by
 have hg:prog.globalNamed "internal/strconv.uint64pow10"=some 5:=by kernel_rfl
 have h6:5<W.heap.size:=Nat.lt_of_lt_of_le (by rw[gsz]; omega) hG
 unfold Lib.TabIs World.var? at h ⊢
 rw[hg] at h ⊢
 simp only[Option.bind_some] at h ⊢
 rw[hw 5 h6]; exact h
theorem A9o{P:Program}{W:World}{x:String×DataW Unit}{r:List (String×DataW Unit)}(h:laidMet P (x::r) W):laidMet P r W:=by
 obtain⟨ps,⟨g,t,cs,fuel,p,q,h1,h2,h3,h4,h5,rfl⟩,hn,hc⟩:=h
 exact⟨q,h5,(List.nodup_append.1 hn).2.1,fun b off hm=>hc b off (List.mem_append_right _ hm)⟩
theorem D6h(w:World)(k:Nat)(os:Array Obj):Quiet w (Go.Sort.grow (w.drewN k) os) :=
 ⟨by simp[Go.Sort.grow,World.drewN],fun c hc=>by simp[Go.Sort.grow,World.drewN,Array.getElem?_append,hc],rfl,rfl,rfl⟩
def lib:Prims:=(((noPrims.addt 191 B8o).add 133 D1h).addt 255 F9l).addx 182 E6g
theorem F3j{xs:Array Value}{a:Value}(h:xs.toList=[a]):xs=#[a]:=by apply Array.ext'; simpa using h
theorem B5k{xs:Array Value}{a b:Value}(h:xs.toList=[a,b]):xs=#[a,b]:=by apply Array.ext'; simpa using h
theorem G2z{A:Amb}(hT:Tab A):PrimOK prog A lib:=by
 refine PrimOK.noEscape (fn:=f182) (PrimOK.libt (PrimOK.lib (PrimOK.libt PrimOK.none func191 (by kernel_rfl) ?_) func133 (by kernel_rfl) ?_) func255 (by kernel_rfl) ?_) func182 (by kernel_rfl) (by kernel_rfl) (by rfl) (by rfl)
 ·intro args v hg Z w xs _ _ hx
  have key:∀ (b1:ByteArray) (c:Int),xs=#[.string b1,.int .u8 c]->Calls prog 191 xs w fun e w'=>∃ v',e=.returned v'/\v'=.int .i64 (Lib.indexByte b1.data.toList (byteOf c))/\Quiet w w':=fun b1 c e1=>by
   subst e1
   refine(stringslite_IndexByte b1 c w).mono fun e w' ⟨h1,h2⟩=>?_
   subst h1 h2
   exact⟨_,rfl,rfl,Quiet.refl _⟩
  unfold B8o at hg
  split at hg
  ·rename_i s c
   cases hg
   simp only[VRL,VR] at hx
   obtain⟨_,_,hxs,⟨b1,rfl,rfl⟩,_,_,rfl,rfl,rfl⟩:=hx
   exact(key b1 c (B5k hxs)).mono fun e w' ⟨v',q1,q2,q3⟩=>⟨v',q1,by simp only[VR]; exact q2,q3⟩
  ·rename_i x y _
   split at hg
   ·rename_i s c hs hc
    cases hg
    simp only[VRL] at hx
    obtain⟨_,_,hxs,h1,_,_,rfl,h2,rfl⟩:=hx
    obtain⟨b1,rfl,rfl⟩:=N8 hs h1
    have h2:=L6 hc h2
    subst h2
    exact(key b1 c (B5k hxs)).mono fun e w' ⟨v',q1,q2,q3⟩=>⟨v',q1,by simp only[VR]; exact q2,q3⟩
   ·cases hg
  ·cases hg
 ·intro args v hg Z w xs _ _ hx
  have key:∀ (b1 b2:ByteArray),xs=#[.string b1,.string b2]->Calls prog 133 xs w fun e w'=>∃ v',e=.returned v'/\v'=.int .i64 (Lib.compareBytes b1.data.toList b2.data.toList)/\Quiet w w':=fun b1 b2 e1=>by
   subst e1
   refine(strings_Compare b1 b2 w).mono fun e w' ⟨h1,h2⟩=>?_
   subst h1 h2
   exact⟨_,rfl,rfl,Quiet.refl _⟩
  unfold D1h at hg
  split at hg
  ·rename_i s c
   cases hg
   simp only[VRL,VR] at hx
   obtain⟨_,_,hxs,⟨b1,rfl,rfl⟩,_,_,rfl,⟨b2,rfl,rfl⟩,rfl⟩:=hx
   exact(key b1 b2 (B5k hxs)).mono fun e w' ⟨v',q1,q2,q3⟩=>⟨v',q1,by simp only[VR]; exact q2,q3⟩
  ·rename_i x y _
   split at hg
   ·rename_i s c hs hc
    cases hg
    simp only[VRL] at hx
    obtain⟨_,_,hxs,h1,_,_,rfl,h2,rfl⟩:=hx
    obtain⟨b1,rfl,rfl⟩:=N8 hs h1
    obtain⟨b2,rfl,rfl⟩:=N8 hc h2
    exact(key b1 b2 (B5k hxs)).mono fun e w' ⟨v',q1,q2,q3⟩=>⟨v',q1,by simp only[VR]; exact q2,q3⟩
   ·cases hg
  ·cases hg
 ·intro args v hg Z w xs hamb _ hx
  have key:∀ n:Int,-9223372036854775808<=n->n<=9223372036854775807->xs=#[.int .i64 n]->Calls prog 255 xs w fun e w'=>∃ v',e=.returned v'/\(∃ b:ByteArray,b.data.toList=Lib.itoa n/\v'=.string b)/\Quiet w w':=fun n h0 h1 e1=>by
   subst e1
   refine(internal_strconv_Itoa n h0 h1 w (hT w hamb)).mono fun e w' ⟨h1,k,os,h2⟩=>?_
   subst h1 h2
   exact⟨_,rfl,⟨_,rfl,rfl⟩,D6h _ _ _⟩
  unfold F9l at hg
  split at hg
  ·rename_i n
   split at hg
   ·rename_i hc
    cases hg
    simp only[bA,dQ] at hc
    simp only[VRL,VR] at hx
    obtain⟨_,_,hxs,rfl,rfl⟩:=hx
    exact(key n hc.1 hc.2 (F3j hxs)).mono fun e w' ⟨v',q1,q2,q3⟩=>⟨v',q1,by simp only[VR]; exact q2,q3⟩
   ·cases hg
  ·rename_i x _
   split at hg
   ·rename_i n hn
    obtain⟨hc,hv⟩:=Tr.br_get0 hg
    cases hv
    have hc:=of_decide_eq_true hc
    simp only[VRL] at hx
    obtain⟨_,_,hxs,h1,rfl⟩:=hx
    have h1:=L6 hn h1
    subst h1
    exact(key n hc.1 hc.2 (F3j hxs)).mono fun e w' ⟨v',q1,q2,q3⟩=>⟨v',q1,by simp only[VR]; exact q2,q3⟩
   ·cases hg
  ·cases hg
def B4a(cs:List UInt8):Bool:=cs.all (fun b=>decide (b.toNat<128))&&decide (cs.length<=1000)
def F9n:List AV->Tr AV
 | [.str s,.str cs]=>bif B4a cs&&decide (s.length<=9223372036854775807) then .leaf (.str (Lib.trimS s cs)) else .fail
 | [x,.str cs]=>match sstr? x with
  | some s=>bif B4a cs then .br (decide (s.length<=9223372036854775807)) (.leaf (.sstr (Lib.trimS s cs))) .fail else .fail
  | none=>.fail
 | _=>.fail
def E6e:List AV->Tr AV
 | [.str s,.str [c]]=>.leaf (.int .i64 (Lib.indexByte s c))
 | [x,.str [c]]=>match sstr? x with
  | some s=>.leaf (.sint .i64 (Lib.indexByte s c))
  | none=>.fail
 | _=>.fail
def F9k:List AV->Tr AV
 | [.str s]=>match Lib.atoi s with
  | some n=>bif decide (s.length<=18) then .leaf (.tuple [.int .i64 n,.nilIface]) else .fail
  | none=>.fail
 | [x]=>match sstr? x with
  | some s=>.br (decide (s.length<=18)&&(Lib.atoi s).isSome) (.leaf (.tuple [.sint .i64 ((Lib.atoi s).getD 0),.nilIface])) .fail
  | none=>.fail
 | _=>.fail
def lib2:Prims:=((lib.addt 204 F9n).addt 85 E6e).addt 162 F9k
theorem ascii_of_all{b:ByteArray}(h:b.data.toList.all (fun c=>decide (c.toNat<128))=true):∀ (j:Nat) (c:UInt8),b.data.toList[j]?=some c->c.toNat<128:=fun j c hc=>by
 have:=List.all_eq_true.1 h c (List.mem_of_getElem? hc)
 exact of_decide_eq_true this
theorem E0h{A:Amb}(hT:Tab A):PrimOK prog A lib2:=by
 refine PrimOK.libt (PrimOK.libt (PrimOK.libt (G2z hT) func204 (by kernel_rfl) ?_) func85 (by kernel_rfl) ?_) func162 (by kernel_rfl) ?_
 ·intro args v hg Z w xs _ _ hx
  have key:∀ (b1 b2:ByteArray),B4a b2.data.toList=true->b1.data.toList.length<=9223372036854775807->xs=#[.string b1,.string b2] ->
    Calls prog 204 xs w fun e w'=>∃ v',e=.returned v'/\(∃ b:ByteArray,b.data.toList=Lib.trimS b1.data.toList b2.data.toList/\v'=.string b)/\Quiet w w':=fun b1 b2 h1 h2 e1=>by
   subst e1
   simp only[B4a,bA,dQ] at h1
   have hl1:b1.data.toList.length=b1.size:=by simp
   have hl2:b2.data.toList.length=b2.size:=by simp
   refine(Any.strings_Trim_laid Tryz.lays160 (by kernel_rfl) b1 b2 w (by omega) (by omega) (ascii_of_all h1.1)).mono fun e w' ⟨h1,h2⟩=>?_
   subst h1
   exact⟨_,rfl,⟨_,by simp,rfl⟩,⟨h2.size,h2.block,h2.tape,h2.os,h2.output⟩⟩
  unfold F9n at hg
  split at hg
  ·rename_i s cs
   cases hb:(B4a cs&&decide (s.length<=9223372036854775807)) with
   | false=>rw[hb] at hg; cases hg
   | true =>
    rw[hb] at hg
    cases hg
    simp only[bA,dQ] at hb
    simp only[VRL,VR] at hx
    obtain⟨_,_,hxs,⟨b1,rfl,rfl⟩,_,_,rfl,⟨b2,rfl,rfl⟩,rfl⟩:=hx
    exact(key b1 b2 hb.1 hb.2 (B5k hxs)).mono fun e w' ⟨v',q1,q2,q3⟩=>⟨v',q1,by simp only[VR]; exact q2,q3⟩
  ·rename_i x cs _
   split at hg
   ·rename_i s hs
    cases hb:B4a cs with
    | false=>rw[hb] at hg; cases hg
    | true =>
     rw[hb] at hg
     obtain⟨h1,h2⟩:=Tr.br_get0 hg
     cases h2
     rw[dQ] at h1
     simp only[VRL] at hx
     obtain⟨_,_,hxs,q1,_,_,rfl,q2,rfl⟩:=hx
     obtain⟨b1,rfl,rfl⟩:=N8 hs q1
     simp only[VR] at q2
     obtain⟨b2,rfl,rfl⟩:=q2
     exact(key b1 b2 hb h1 (B5k hxs)).mono fun e w' ⟨v',q1,q2,q3⟩=>⟨v',q1,by simp only[VR]; exact q2,q3⟩
   ·cases hg
  ·cases hg
 ·intro args v hg Z w xs _ _ hx
  have key:∀ (b1 b2:ByteArray) (c:UInt8),b2.data.toList=[c]->xs=#[.string b1,.string b2] ->
    Calls prog 85 xs w fun e w'=>∃ v',e=.returned v'/\v'=.int .i64 (Lib.indexByte b1.data.toList c)/\Quiet w w':=fun b1 b2 c hc e1=>by
   subst e1
   obtain⟨⟨l2⟩⟩:=b2
   simp only at hc
   subst hc
   refine(Tryz.strings_Index_one b1 c w).mono fun e w' ⟨h1,h2⟩=>?_
   subst h1 h2
   exact⟨_,rfl,rfl,Quiet.refl _⟩
  unfold E6e at hg
  split at hg
  ·rename_i s c
   cases hg
   simp only[VRL,VR] at hx
   obtain⟨_,_,hxs,⟨b1,rfl,rfl⟩,_,_,rfl,⟨b2,h2,rfl⟩,rfl⟩:=hx
   exact(key b1 b2 c h2 (B5k hxs)).mono fun e w' ⟨v',q1,q2,q3⟩=>⟨v',q1,by simp only[VR]; exact q2,q3⟩
  ·rename_i x c _
   split at hg
   ·rename_i s hs
    cases hg
    simp only[VRL] at hx
    obtain⟨_,_,hxs,q1,_,_,rfl,q2,rfl⟩:=hx
    obtain⟨b1,rfl,rfl⟩:=N8 hs q1
    simp only[VR] at q2
    obtain⟨b2,h2,rfl⟩:=q2
    exact(key b1 b2 c h2 (B5k hxs)).mono fun e w' ⟨v',q1,q2,q3⟩=>⟨v',q1,by simp only[VR]; exact q2,q3⟩
   ·cases hg
  ·cases hg
 ·intro args v hg Z w xs _ _ hx
  have key:∀ (b1:ByteArray) (n:Int),b1.data.toList.length<=18->Lib.atoi b1.data.toList=some n->xs=#[.string b1] ->
    Calls prog 162 xs w fun e w'=>∃ v',e=.returned v'/\v'=.tuple #[.int .i64 n,.nilIface]/\Quiet w w':=fun b1 n h1 h2 e1=>by
   subst e1
   have hl1:b1.data.toList.length=b1.size:=by simp
   refine(Tryz.strconv_Atoi b1 n (by omega) h2 w).mono fun e w' ⟨h1',t,h2'⟩=>?_
   subst h1' h2'
   have hb:=Go.Joins.below_bytesWorld w.heap.size w 5 t (lR _)
   exact⟨_,rfl,rfl,⟨hb.size,hb.block,hb.tape,hb.os,hb.output⟩⟩
  unfold F9k at hg
  split at hg
  ·rename_i s
   split at hg
   ·rename_i n hn
    cases hb:decide (s.length<=18) with
    | false=>rw[hb] at hg; cases hg
    | true =>
     rw[hb] at hg
     cases hg
     simp only[VRL,VR] at hx
     obtain⟨_,_,hxs,⟨b1,rfl,rfl⟩,rfl⟩:=hx
     refine(key b1 n (of_decide_eq_true hb) hn (F3j hxs)).mono fun e w' ⟨v',q1,q2,q3⟩=>⟨v',q1,?_,q3⟩
     subst q2
     simp only[VR,VRL]
     exact⟨_,rfl,_,_,rfl,rfl,_,_,rfl,rfl,rfl⟩
   ·cases hg
  ·rename_i x _
   split at hg
   ·rename_i s hs
    obtain⟨h1,h2⟩:=Tr.br_get0 hg
    cases h2
    simp only[bA,dQ] at h1
    simp only[VRL] at hx
    obtain⟨_,_,hxs,q1,rfl⟩:=hx
    obtain⟨b1,rfl,rfl⟩:=N8 hs q1
    obtain⟨n,hn⟩:=Option.isSome_iff_exists.1 h1.2
    refine(key b1 n h1.1 hn (F3j hxs)).mono fun e w' ⟨v',q1,q2,q3⟩=>⟨v',q1,?_,q3⟩
    subst q2
    rw[hn]
    simp only[VR,VRL]
    exact⟨_,rfl,_,_,rfl,rfl,_,_,rfl,rfl,rfl⟩
   ·cases hg
  ·cases hg
def dr(n:Nat):List Pt:=List.replicate n .drop
def dd8:List OP:=List.replicate 8 .dead
abbrev W(n:Int):Int:=IntKind.i64.wrap n
def I9(s:List UInt8):Bool:=decide (s.length<2^62)
theorem D4d{n:Int}(h0:-9223372036854775808<=n)(h1:n<=9223372036854775807):W n=n:=wrap64 h0 h1
theorem C4d{i:Nat}(h:i<2^62):W ((i:Int)+1)=((i+1:Nat):Int):=by rw[D4d (by omega) (by omega)]; omega
theorem H2w{b b':Bool}(h:b'=b)(Z:Emb)(x:Value)(hx:VR Z (.bool b') x):VR Z (.sbool b) x:=by subst h; simpa only[VR] using hx
theorem H2x{k:IntKind}{n n':Int}(h:n'=n)(Z:Emb)(x:Value)(hx:VR Z (.int k n') x):VR Z (.sint k n) x:=by subst h; simpa only[VR] using hx
def B2j(c:Int):Bool:=(decide (c >= 65)&&decide (c<=90))||(decide (c >= 97)&&decide (c<=122))
def C1e(c:Int):Bool:=decide (c >= 48)&&decide (c<=57)
theorem H0b(c:Int):(D5 prog lib2 60).call 91 [.sint .u8 c] (Bg 8) F8 =
  brK (decide (c >= 65)) (brK (decide (c<=90)) (some (.bool true)) (brK (decide (c >= 97)) (some (.sbool (decide (c<=122)))) (some (.bool false)))) (brK (decide (c >= 97)) (some (.sbool (decide (c<=122)))) (some (.bool false))):=by kernel_rfl
theorem H0h(c:Int):(D5 prog lib2 60).call 97 [.sint .u8 c] (Bg 8) F8 =
  brK (decide (c >= 97)) (brK (decide (c<=122)) (some (.bool true)) (brK (decide (c >= 65)) (some (.sbool (decide (c<=90)))) (some (.bool false)))) (brK (decide (c >= 65)) (some (.sbool (decide (c<=90)))) (some (.bool false))):=by kernel_rfl
theorem H0c(c:Int):(D5 prog lib2 60).call 92 [.sint .u8 c] (Bg 8) F8=brK (decide (c >= 48)) (some (.sbool (decide (c<=57)))) (some (.bool false)):=by kernel_rfl
def A4e(b:Bool)(v:AV):Prop:=v=.bool b \/ v=.sbool b
theorem Z9{b:Bool}{v:AV}(h:A4e b v)(Z:Emb)(x:Value)(hx:VR Z v x):VR Z (.sbool b) x:=by
 rcases h with rfl | rfl
 ·exact H2w rfl Z x hx
 ·exact hx
theorem B0k{b:Bool}{v:AV}(h:A4e b v):below 0 v=true:=by rcases h with rfl | rfl<;>rfl
theorem Q3{b:Bool}{v:AV}(h:A4e b v):F3 0 v=true:=by rcases h with rfl | rfl<;>rfl
def O9(n:Int)(v:AV):Prop:=v=.int .i64 n \/ v=.sint .i64 n
theorem J9{n:Int}{v:AV}(h:O9 n v)(Z:Emb)(x:Value)(hx:VR Z v x):VR Z (.sint .i64 n) x:=by
 rcases h with rfl | rfl
 ·exact H2x rfl Z x hx
 ·exact hx
theorem A6n{n:Int}{v:AV}(h:O9 n v):below 0 v=true:=by rcases h with rfl | rfl<;>rfl
theorem G9{n:Int}{v:AV}(h:O9 n v):F3 0 v=true:=by rcases h with rfl | rfl<;>rfl
theorem C5v:∀ c:Int,(∃ v,(D5 prog lib2 60).call 91 [.sint .u8 c] (Bg 8) F8=some v/\A4e (B2j c) v)/\(∃ v,(D5 prog lib2 60).call 97 [.sint .u8 c] (Bg 8) F8=some v/\A4e (B2j c) v) /\
  (∃ v,(D5 prog lib2 60).call 92 [.sint .u8 c] (Bg 8) F8=some v/\A4e (C1e c) v):=by
 intro c
 rw[H0b,H0h,H0c]
 unfold B2j C1e A4e
 cases decide (c >= 65)<;>cases decide (c<=90)<;>cases decide (c >= 97)<;>cases decide (c<=122)<;>cases decide (c >= 48)<;>cases decide (c<=57)<;>exact⟨⟨_,rfl,by simp⟩,⟨_,rfl,by simp⟩,_,rfl,by simp⟩
def G1f:List Lf->Tr AV
 | [.i c]=>.leaf (.sbool (B2j c))
 | _=>.fail
def G6c:List Lf->Tr AV
 | [.i c]=>.leaf (.sbool (C1e c))
 | _=>.fail
def pB:Prims:=((lib2.addt 91 (gP [.int .u8] G1f)).addt 97 (gP [.int .u8] G1f)).addt 92 (gP [.int .u8] G6c)
section
variable {A:Amb} (hT:Tab A) (hG:gN prog<=A.G)
include hT hG
theorem G0y:PrimOK prog A pB:=by
 have h0:=E0h hT
 refine PrimOK.addP F7 F9 h0 (PrimOK.addP F7 F9 h0 (PrimOK.addP F7 F9 h0 h0 hG func91 (by kernel_rfl) ?_) hG func97 (by kernel_rfl) ?_) hG func92 (by kernel_rfl) ?_
 all_goals
  intro ls v hv
  unfold G1f at hv<;>skip
 ·split at hv
  ·rename_i c
   cases hv
   obtain⟨v',h1,h2⟩:=(C5v c).1
   exact⟨rfl,60,v',by rw[gsz]; exact h1,B0k h2,Z9 h2⟩
  ·cases hv
 ·split at hv
  ·rename_i c
   cases hv
   obtain⟨v',h1,h2⟩:=(C5v c).2.1
   exact⟨rfl,60,v',by rw[gsz]; exact h1,B0k h2,Z9 h2⟩
  ·cases hv
 ·unfold G6c at hv
  split at hv
  ·rename_i c
   cases hv
   obtain⟨v',h1,h2⟩:=(C5v c).2.2
   exact⟨rfl,60,v',by rw[gsz]; exact h1,B0k h2,Z9 h2⟩
  ·cases hv
end
def C4o(c:Int):Int:=if B2j c||C1e c then 0 else 3
def G7(s:List UInt8):Int:=if s.length>24 then 17 else if s.length=0 \/ B2j (bAt s 0)=false then 3 else S9 (fun i=>C4o (bAt s i)) s.length
def E5c:Code:=f43.body.getD .skip
def E5d:Code:=f47.body.getD .skip
def D5b:Code:=I7 (J6 0 E5c)
def D5d:Code:=I7 (J6 0 E5d)
def byF(s:List UInt8):Nat->Int:=fun i=>((s.getD i 0).toNat:Int)
theorem D5n{α:Type}(b:Bool)(t f:Option α):brK b t f=if b=true then t else f:=by cases b<;>rfl
theorem SBs:(∀ a b:Bool,((a&&b)=true)=(a=true/\b=true))/\(∀ a b:Bool,((a||b)=true)=(a=true \/ b=true))/\(∀ a:Bool,((!a)=true)=(a=false))/\(∀ a b:Bool,((a&&b)=false)=(a=false \/ b=false)) /\
  (∀ a b:Bool,((a||b)=false)=(a=false/\b=false))/\(∀ a:Bool,((!a)=false)=(a=true))/\(∀ (p:Prop) [Decidable p],(decide p=true)=p)/\(∀ (p:Prop) [Decidable p],(decide p=false)=¬p) /\
  (∀ {α:Type} [BEq α] [LawfulBEq α] (a b:α),((a==b)=true)↔(a=b))/\(∀ {α:Type} [BEq α] [LawfulBEq α] (a b:α),((a != b)=true)↔(a≠b))/\(∀ {α:Type} [BEq α] [LawfulBEq α] (a b:α),((a==b)=false)↔(a≠b))/\(∀ {α:Type} [BEq α] [LawfulBEq α] (a b:α),((a != b)=false)↔(a=b)) /\
  (∀ b:Bool,(b&&true)=b)/\(∀ b:Bool,(b&&false)=false)/\(∀ b:Bool,(true&&b)=b)/\(∀ b:Bool,(false&&b)=false)/\(∀ b:Bool,(b||true)=true)/\(∀ b:Bool,(b||false)=b)/\(∀ b:Bool,(true||b)=true)/\(∀ b:Bool,(false||b)=b)/\(∀ {α:Type} (a b:α),(a≠b)=¬(a=b)) :=
 ⟨by simp,by simp,by simp,by simp,by simp,by simp,by simp,by simp,fun _ _=>beq_iff_eq,fun _ _=>bne_iff_ne,fun _ _=>beq_eq_false_iff_ne,fun _ _=>bne_eq_false_iff_eq,by simp,by simp,by simp,by simp,by simp,by simp,by simp,by simp,by simp⟩
theorem A8{α:Type}{b:Bool}{t f r:Option α}(h:b=true)(h2:t=r):brK b t f=r:=by subst h; exact h2
theorem C8{α:Type}{b:Bool}{t f r:Option α}(h:b=false)(h2:f=r):brK b t f=r:=by subst h; exact h2
theorem Y3{α:Type}{b:Bool}{x y:α}(h:b=true):cond b x y=x:=by rw[h]; rfl
theorem Y2{α:Type}{b:Bool}{x y:α}(h:b=false):cond b x y=y:=by rw[h]; rfl
theorem exV{α:Type}{o:Option α}{p:α->Prop}{v:α}(h:o=some v)(h2:p v):∃ v,o=some v/\p v:=⟨v,h,h2⟩
theorem I5{i:Nat}{N:Nat}(h:i<=N)(hN:N<2^62):W ((i:Int)+1)=((i+1:Nat):Int):=C4d (by omega)
def sp43:SP:=⟨dr 17++[.row 8,.int .i64,.int .i64]++dr 12,dd8++[.arr [] .u8 5]⟩
def H0n:SP:=⟨dr 2++[.int .i64]++dr 29,dd8++[.arr [] .u8 5]⟩
def H0m:SP:=⟨dr 32,dd8++[.arr [] .u8 5]⟩
def E1j:AEx->SP
 | .ret=>H0n
 | .normal=>sp43
 | _=>H0m
def sp47:SP:=⟨[.str,.drop,.drop,.int .i64]++dr 35,dd8⟩
def H0p:SP:=⟨[.drop,.drop,.int .i64]++dr 36,dd8⟩
def H0o:SP:=⟨dr 39,dd8⟩
def E1l:AEx->SP
 | .ret=>H0p
 | .normal=>sp47
 | _=>H0o
theorem F7d(m:Nat)(i:Int)(f:Nat->Int):E8 prog (D5 prog pB 60) (pB.blk 43) D5b (sp43.rho [.n m,.i m,.i i,.n m,.f f]) (sp43.heap [.n m,.i m,.i i,.n m,.f f]) (H9 E1j 9 []) =
  brK (decide (i<(m:Int))) (brK (decide (0<=i/\i<(m:Int))&&decide (0<=0)) (brK (decide (0+i.toNat<m)) (brK (!B2j (f (0+i.toNat))) (brK (!C1e (f (0+i.toNat))) (some (.ret,[.i 3,.n m,.f f])) (some (.normal,[.n m,.i m,.i (W (i+1)),.n m,.f f]))) (some (.normal,[.n m,.i m,.i (W (i+1)),.n m,.f f]))) none) none) (some (.exit 0,[.n m,.f f])):=by kernel_rfl
theorem F7f(s:List UInt8)(i:Int):E8 prog (D5 prog pB 60) (pB.blk 47) D5d (sp47.rho [.s s,.i i]) (sp47.heap [.s s,.i i]) (H9 E1l 8 []) =
  brK (decide (i<(s.length:Int))) (brK (decide (0<=i/\i<(s.length:Int))) (brK (!B2j ((s.getD i.toNat 0).toNat:Int)) (brK (decide (0<=i/\i<(s.length:Int))) (brK (decide (((s.getD i.toNat 0).toNat:Int)<48)) (some (.ret,[.i 3])) (brK (decide (0<=i/\i<(s.length:Int))) (brK (decide (((s.getD i.toNat 0).toNat:Int)>57)) (some (.ret,[.i 3])) (some (.normal,[.s s,.i (W (i+1))]))) none)) none) (some (.normal,[.s s,.i (W (i+1))]))) none) (some (.exit 0,[])):=by kernel_rfl
def B9o(s:List UInt8)(n:Nat):Bool:=decide (C4o (bAt s n)=0)
theorem E0p(s:List UInt8)(n:Nat):B9o s n=(B2j (bAt s n)||C1e (bAt s n)):=by
 unfold B9o C4o
 cases B2j (bAt s n)||C1e (bAt s n)<;>simp
theorem G5h(s:List UInt8)(hs:I9 s=true)(n:Nat)(hn:n<=s.length):E8 prog (D5 prog pB 60) (pB.blk 43) D5b (sp43.rho [.n s.length,.i s.length,.i n,.n s.length,.f (byF s)]) (sp43.heap [.n s.length,.i s.length,.i n,.n s.length,.f (byF s)]) (H9 E1j 9 []) =
  some (if n<s.length then(bif B9o s n then(.normal,[.n s.length,.i s.length,.i ((n+1:Nat):Int),.n s.length,.f (byF s)]) else(.ret,[.i 3,.n s.length,.f (byF s)])) else(.exit 0,[.n s.length,.f (byF s)])):=by
 have hs:s.length<2^62:=of_decide_eq_true hs
 rw[F7d,I5 hn hs,E0p]
 simp only[D5n,tN,Nat.zero_add,show byF s n=bAt s n from rfl]
 by_cases h:n<s.length
 ·have h1:(n:Int)<(s.length:Int):=by omega
  cases B2j (bAt s n)<;>cases C1e (bAt s n)<;>simp[h,h1]
 ·have h1:¬ (n:Int)<(s.length:Int):=by omega
  simp[h,h1]
theorem G5j(s:List UInt8)(hs:I9 s=true)(n:Nat)(hn:n<=s.length):E8 prog (D5 prog pB 60) (pB.blk 47) D5d (sp47.rho [.s s,.i n]) (sp47.heap [.s s,.i n]) (H9 E1l 8 []) =
  some (if n<s.length then(bif B9o s n then(.normal,[.s s,.i ((n+1:Nat):Int)]) else(.ret,[.i 3])) else(.exit 0,[])):=by
 have hs:s.length<2^62:=of_decide_eq_true hs
 rw[F7f,I5 hn hs,E0p]
 simp only[D5n,tN,show((s.getD n 0).toNat:Int)=bAt s n from rfl]
 by_cases h:n<s.length
 ·have h1:(n:Int)<(s.length:Int):=by omega
  have hd:C1e (bAt s n)=(!decide (bAt s n<48)&&!decide (bAt s n>57)):=by
   unfold C1e
   rw[show decide (bAt s n >= 48)=!decide (bAt s n<48) by by_cases h:bAt s n<48<;>simp[h]<;>omega,show decide (bAt s n<=57)=!decide (bAt s n>57) by by_cases h:bAt s n>57<;>simp[h]<;>omega]
  rw[hd]
  cases decide (bAt s n<48)<;>cases decide (bAt s n>57)<;>cases B2j (bAt s n)<;>simp[h,h1]
 ·have h1:¬ (n:Int)<(s.length:Int):=by omega
  simp[h,h1]
def B4m:List Lf->List UInt8
 | [.n m,_,_,_,.f f]=>(List.range m).map fun i=>(f i).toNat.toUInt8
 | _=>[]
def D0g:List Lf->List UInt8
 | [.s s,_]=>s
 | _=>[]
theorem E5e(s:List UInt8)(a b c:Lf):B4m [.n s.length,a,b,c,.f (byF s)]=s:=by
 refine List.ext_getElem (by simp[B4m]) fun i h1 h2=>?_
 simp[B4m,byF,h2]
abbrev L43(s:List UInt8)(n:Nat):List Lf:=[.n s.length,.i s.length,.i n,.n s.length,.f (byF s)]
abbrev L47(s:List UInt8)(n:Nat):List Lf:=[.s s,.i n]
def ivS(s:List UInt8):Prop:=I9 s=true
def G5w:List Lf->Nat->List Lf
 | [m,_,_,_,f],_=>[.i 3,m,f]
 | _,_=>[]
def G5y:List Lf->List Lf
 | [m,_,_,_,f]=>[m,f]
 | _=>[]
def G5x(_:List Lf)(_:Nat):List Lf:=[.i 3]
def G5z(_:List Lf):List Lf:=[]
def D2f(s:List UInt8):Nat:=s.length
def E9j:Prims:=(pB.addb 43 0 (hookP sp43 9 [] (fdT E1j 0 .ret (.exit 0) B4m L43 G5w G5y D2f B9o ivS))).addb 47 0 (hookP sp47 8 [] (fdT E1l 0 .ret (.exit 0) D0g L47 G5x G5z D2f B9o ivS))
section
variable {A:Amb} (hT:Tab A) (hG:gN prog<=A.G)
include hT hG
theorem F6l:PrimOK prog A E9j:=by
 have h0:=G0y hT hG
 have h1:=SEB.findR (id:=0) (ds:=[]) (dec:=B4m) (sp:=sp43) (sq:=E1j) (m:=9) (eb:=.ret) (ee:=.exit 0) (L:=L43) (Lb:=G5w) (Le:=G5y) (N:=D2f) (p:=B9o) (Inv:=ivS) (k:=60) F7 F9 h0 h0 func43 (show f43.body=some E5c by kernel_rfl) (body:=D5b) (by kernel_rfl)
  rfl rfl rfl rfl (by simp) (by simp) (fun s n=>⟨⟨.inr rfl,.inr rfl,.inr rfl,.inr rfl,.inr rfl,.inr rfl,.inr rfl,.inr rfl,.inr rfl,trivial⟩,⟨.inr rfl,.inr rfl,.inr rfl,.inr rfl,.inr rfl,.inr rfl,.inr rfl,.inr rfl,.inr rfl,trivial⟩⟩) G5h
 exact SEB.findR (id:=0) (ds:=[]) (dec:=D0g) (sp:=sp47) (sq:=E1l) (m:=8) (eb:=.ret) (ee:=.exit 0) (L:=L47) (Lb:=G5x) (Le:=G5z) (N:=D2f) (p:=B9o) (Inv:=ivS) (k:=60) F7 F9 h0 h1 func47 (show f47.body=some E5d by kernel_rfl) (body:=D5d) (by kernel_rfl)
  rfl rfl rfl rfl (by simp) (by simp) (fun s n=>⟨⟨.inr rfl,.inr rfl,.inr rfl,.inr rfl,.inr rfl,.inr rfl,.inr rfl,.inr rfl,trivial⟩,⟨.inr rfl,.inr rfl,.inr rfl,.inr rfl,.inr rfl,.inr rfl,.inr rfl,.inr rfl,trivial⟩⟩) G5j
end
abbrev C6s(s:List UInt8)(b0:Bool)(c e:Bool):Option AV:=brK (decide ((s.length:Int)>24)) (some (.int .i64 17)) (brK b0 (some (.int .i64 3)) (brK (decide ((0:Int)<=0/\0<(s.length:Int))) (brK (!B2j ((s.getD 0 0).toNat:Int)) (some (.int .i64 3)) (brK c (brK e (some (.int .i64 0)) (some (.sint .i64 3))) none)) none))
theorem G9m(s:List UInt8):(D5 prog E9j 60).call 43 [.sstr s] (Bg 8) F8=C6s s (s==[]) (fdC L43 B4m ivS (L43 s 0)) (fdE B9o D2f (B4m (L43 s 0))):=by kernel_rfl
theorem G9p(s:List UInt8):(D5 prog E9j 60).call 47 [.sstr s] (Bg 8) F8=C6s s ((s.length:Int)==0) (fdC L47 D0g ivS (L47 s 0)) (fdE B9o D2f (D0g (L47 s 0))):=by kernel_rfl
theorem H0v(s:List UInt8)(N:Nat):S9 (fun i=>C4o (bAt s i)) N=0 \/ S9 (fun i=>C4o (bAt s i)) N=3:=by
 unfold S9
 split
 ·exact .inl rfl
 ·generalize G5 _ _ _=k
  show C4o (bAt s k)=0 \/ C4o (bAt s k)=3
  unfold C4o; split<;>simp
theorem H0y{o:Option AV}{n:Int}(h:o=some (.int .i64 n) \/ o=some (.sint .i64 n)):∃ v,o=some v/\O9 n v:=by
 rcases h with h | h
 ·exact⟨_,h,.inl rfl⟩
 ·exact⟨_,h,.inr rfl⟩
theorem C3f{s:List UInt8}{b0:Bool}(hb:b0=decide (s.length=0)):∃ v,C6s s b0 true (fdE B9o D2f s)=some v/\O9 (G7 s) v:=by
 subst hb
 refine H0y ?_
 rw[Z8 (fun i=>C4o (bAt s i)) (fun i _=>rfl)]
 unfold C6s G7
 simp only[D5n,show((s.getD 0 0).toNat:Int)=bAt s 0 from rfl,show D2f s=s.length from rfl]
 by_cases h1:s.length>24
 ·have:(s.length:Int)>24:=by omega
  simp[h1,this]
 ·have h1':¬ (s.length:Int)>24:=by omega
  by_cases h2:s.length=0
  ·simp[h2]
  ·have h2':0<(s.length:Int):=by omega
   have h2'':0<s.length:=by omega
   cases B2j (bAt s 0) with
   | false=>simp[h1,h1',h2,h2'']
   | true=>rcases H0v s s.length with h | h<;>simp[h1,h1',h2,h2'',h]
theorem G0w{s:List UInt8}(hs:I9 s=true):(∃ v,(D5 prog E9j 60).call 43 [.sstr s] (Bg 8) F8=some v/\O9 (G7 s) v)/\∃ v,(D5 prog E9j 60).call 47 [.sstr s] (Bg 8) F8=some v/\O9 (G7 s) v:=by
 have d43:B4m (L43 s 0)=s:=E5e s _ _ _
 have d47:D0g (L47 s 0)=s:=rfl
 rw[G9m,G9p,J5 d43 hs,J5 d47 hs,d43,d47]
 exact⟨C3f (by cases s<;>simp),C3f (by cases s<;>simp<;>omega)⟩
theorem C4j{A:Amb}(hG:gN prog<=A.G){prims prims0:Prims}(h0:PrimOK prog A prims0)(hp:PrimOK prog A prims){f:FuncId}{fn:Func}(ps:List Pt)(T:List Lf->Tr AV)(hf:prog.funcs[f]?=some fn)(hc:fn.body.isSome=true)(h:∀ ls v,(T ls).get=some v->P7 0 (mkT ps ls).1=true/\∃ v',(D5 prog prims0 60).call f (mkT ps ls).1 (Bg 8) F8=some v'/\below 0 v'=true/\∀ Z x,VR Z v' x->VR Z v x):PrimOK prog A (prims.addt f (gP ps T)) :=
 PrimOK.addP F7 F9 h0 hp hG hf hc fun ls v hv=>by
  obtain⟨h1,v',h2,h3,h4⟩:=h ls v hv
  exact⟨h1,60,v',by rw[gsz]; exact h2,h3,h4⟩
def TNm:List Lf->Tr AV
 | [.s s]=>.br (I9 s) (.leaf (.sint .i64 (G7 s))) .fail
 | _=>.fail
def pNm:Prims:=(pB.addt 43 (gP [.str] TNm)).addt 47 (gP [.str] TNm)
theorem D9i{ls:List Lf}{v:AV}(h:(TNm ls).get=some v):∃ s,ls=[.s s]/\I9 s=true/\v=.sint .i64 (G7 s):=by
 unfold TNm at h
 split at h
 ·obtain⟨hs,hv⟩:=Tr.br1 h
  cases hv
  exact⟨_,rfl,hs,rfl⟩
 ·cases h
theorem C7g{A:Amb}(hT:Tab A)(hG:gN prog<=A.G):PrimOK prog A pNm:=by
 have h0:=F6l hT hG
 refine C4j hG h0 (C4j hG h0 (G0y hT hG) [.str] TNm func43 (by kernel_rfl) fun ls v hv=>?_) [.str] TNm func47 (by kernel_rfl) fun ls v hv=>?_
 ·obtain⟨s,rfl,hs,rfl⟩:=D9i hv
  obtain⟨v',h1,h2⟩:=(G0w hs).1
  exact⟨rfl,v',h1,A6n h2,J9 h2⟩
 ·obtain⟨s,rfl,hs,rfl⟩:=D9i hv
  obtain⟨v',h1,h2⟩:=(G0w hs).2
  exact⟨rfl,v',h1,A6n h2,J9 h2⟩
def O5:Par Drw where
 get:=fun | [.agg l]=>D0q l | _=>none
 av:=fun x=>[.agg x.av]
 ok:=by
  intro l x h Z vs hv
  split at h
  ·simp only[VRL,VR] at hv ⊢
   obtain⟨y,r,e,⟨a,q1,q2⟩,q3⟩:=hv
   exact⟨y,r,e,⟨a,q1,C6d h q2⟩,q3⟩
  ·cases h
 free:=fun _=>rfl
def A0g:Par Fea where
 get:=fun | [.agg l]=>C1f l | _=>none
 av:=fun x=>[.agg x.av]
 ok:=by
  intro l x h Z vs hv
  split at h
  ·simp only[VRL,VR] at hv ⊢
   obtain⟨y,r,e,⟨a,q1,q2⟩,q3⟩:=hv
   exact⟨y,r,e,⟨a,q1,B2e h q2⟩,q3⟩
  ·cases h
 free:=fun _=>rfl
def C7j:Par Frm where
 get:=fun | [.agg l]=>D6b l | _=>none
 av:=fun x=>[.agg x.av]
 ok:=by
  intro l x h Z vs hv
  split at h
  ·simp only[VRL,VR] at hv ⊢
   obtain⟨y,r,e,⟨a,q1,q2⟩,q3⟩:=hv
   exact⟨y,r,e,⟨a,q1,D9w h q2⟩,q3⟩
  ·cases h
 free:=fun _=>rfl
def C7h:Par Dim where
 get:=fun | [.agg l]=>(E5g l).map fun x=>(true,x) | _=>none
 av:=fun x=>[.agg x.av]
 ok:=by
  intro l x h Z vs hv
  split at h
  ·simp only[VRL,VR] at hv ⊢
   simp only[oM,pI,true_and] at h
   obtain⟨x',h1,rfl⟩:=h
   obtain⟨y,r,e,⟨a,q1,q2⟩,q3⟩:=hv
   exact⟨y,r,e,⟨a,q1,C6c h1 q2⟩,q3⟩
  ·cases h
 free:=fun _=>rfl
def A8z:Par (Fea×Frm) where
 get:=fun | [.agg l,.agg m]=>(match C1f l,D6b m with | some (a,x),some (b,y)=>some (a&&b,(x,y)) | _,_=>none) | _=>none
 av:=fun x=>[.agg x.1.av,.agg x.2.av]
 ok:=by
  intro l x h Z vs hv
  split at h
  ·split at h
   ·rename_i h1 h2
    simp only[sI,pI,bA] at h
    obtain⟨⟨rfl,rfl⟩,rfl⟩:=h
    simp only[VRL,VR] at hv ⊢
    obtain⟨y,r,e,⟨a,q1,q2⟩,y2,r2,e2,⟨a2,q4,q5⟩,q3⟩:=hv
    exact⟨y,r,e,⟨a,q1,B2e h1 q2⟩,y2,r2,e2,⟨a2,q4,D9w h2 q5⟩,q3⟩
   ·cases h
  ·cases h
 free:=fun _=>rfl
def G4b{α:Type}[Inhabited α](fv:α->List FV)(es:Nat):Par (List α) where
 get:=fun | [a]=>A9g fv es a | _=>none
 av:=fun l=>[.flist l.length (A7 fv l) es]
 ok:=by
  intro l x h Z vs hv
  split at h
  ·simp only[VRL] at hv ⊢
   obtain⟨y,r,e,q1,q2⟩:=hv
   exact⟨y,r,e,A1b h q1,q2⟩
  ·cases h
 free:=fun _=>rfl
abbrev E0t:Par (List Dim):=G4b Dim.fv 5
theorem H8{A:Amb}(hG:gN prog<=A.G){prims prims0:Prims}(h0:PrimOK prog A prims0)(hp:PrimOK prog A prims){f:FuncId}{fn:Func}{β:Type}(p:Par β)(V:β->Tr AV)(hf:prog.funcs[f]?=some fn)(hc:fn.body.isSome=true)(h:∀ x v,(V x).get=some v->∃ v',(D5 prog prims0 60).call f (p.av x) (Bg 8) F8=some v'/\F3 0 v'=true/\∀ Z y,VR Z v' y->VR Z v y):PrimOK prog A (prims.addt f (M8 p V)) :=
 PrimOK.addPar p V F7 F9 h0 hp hG hf hc fun x v hv=>by
  obtain⟨v',h1,h2,h3⟩:=h x v hv
  exact⟨v',h2,h3,60,by rw[gsz]; exact h1⟩
end Go.Proofs.Tryz
namespace Go.Proofs.Tryz
open Go.Ad
def F5(x:Fea):AObj:=.cells x.av 0 true 49
def Q8(x:Frm):AObj:=.cells x.av 0 true 115
def C9(x:Drw):AObj:=.cells x.av 0 true 25
def A2d:AObj->Fea
 | .cells l _ _ _=>((C1f l).map (·.2)).getD default
 | _=>default
def D2p:AObj->Frm
 | .cells l _ _ _=>((D6b l).map (·.2)).getD default
 | _=>default
def I6:AObj->Drw
 | .cells l _ _ _=>((D0q l).map (·.2)).getD default
 | _=>default
theorem F3v(x:Fea):C1f x.av=some (E9 (okR Frm.fv x.l.length (A7 Frm.fv x.l)),x):=by
 simp[C1f,Fea.av,sstr?,i64?,Q9,B4o,A9g,I1 Frm.inj]
theorem F4p(x:Frm):D6b x.av=some (E9 (okR Dat.fv x.l.length (A7 Dat.fv x.l)),x):=by
 simp[D6b,Frm.av,sbool?,i64?,Q9,F9c,A9g,I1 Dat.inj]
theorem F3q(x:Drw):D0q x.av=some (E9 (okR Fea.fv x.l.length (A7 Fea.fv x.l))&&E9 (okR Dim.fv x.m.length (A7 Dim.fv x.m)),x):=by
 simp[D0q,Drw.av,sstr?,F9i,D9s,A9g,I1 Fea.inj,I1 Dim.inj]
theorem O0(x:Fea):A2d (F5 x)=x:=by simp[A2d,F5,F3v]
theorem B9l(x:Frm):D2p (Q8 x)=x:=by simp[D2p,Q8,F4p]
theorem D9(x:Drw):I6 (C9 x)=x:=by simp[I6,C9,F3q]
abbrev F4(x:Fea)(i:Nat):Frm:=x.l.getD i default
abbrev V4(x:Frm)(i:Nat):Dat:=x.l.getD i default
def C5a:Code:=I7 (J6 2 (f36.body.getD .skip))
def sp36b:SP:=⟨dr 1++[.is (.ptr (some (8,0)))]++dr 1++[.int .i64]++[.int .i64]++dr 48,dd8++[.any]⟩
def C7y:AEx->SP
 | .ret=>⟨dr 2++[.bool]++dr 50,dd8++[.any]⟩
 | .exit 2=>⟨dr 1++[.is (.ptr (some (8,0)))]++dr 1++[.int .i64]++dr 49,dd8++[.any]⟩
 | _=>sp36b
theorem F0f(x:Fea)(i n:Int):E8 prog (D5 prog pNm 60) (pNm.blk 36) C5a (sp36b.rho [.i i,.i n,.o (F5 x)]) (sp36b.heap [.i i,.i n,.o (F5 x)]) (H9 C7y 9 []) =
  brK (decide (0<=i/\i<(x.l.length:Int))) (brK (decide (n<((x.l.getD i.toNat default).l.length:Int))) (brK (decide (0<=i/\i<(x.l.length:Int))) (brK (decide (0<=n/\n<((x.l.getD i.toNat default).l.length:Int))) (brK (decide ((((x.l.getD i.toNat default).l.getD n.toNat default).s.length:Int)>100)) (some (.ret,[.b false,.o (F5 x)])) (some (.normal,[.i i,.i (W (n+1)),.o (F5 x)]))) none) none) (some (.exit 2,[.i i,.o (F5 x)]))) none:=by kernel_rfl
def B5a(x:Fea×Nat)(n:Nat):List Lf:=[.i x.2,.i n,.o (F5 x.1)]
def D8g:List Lf->Nat->List Lf
 | [_,_,o],_=>[.b false,o]
 | _,_=>[]
def D8s:List Lf->List Lf
 | [i,_,o]=>[i,o]
 | _=>[]
def C0u(x:Fea×Nat):Nat:=(F4 x.1 x.2).l.length
def D2r(x:Fea×Nat)(n:Nat):Bool:=decide ((V4 (F4 x.1 x.2) n).s.length<=100)
def D1t(x:Fea×Nat):Prop:=x.2<x.1.l.length/\(F4 x.1 x.2).l.length<2^62/\x.1.l.length<2^62
def A7t:List Lf->Fea×Nat
 | [.i i,_,.o o]=>(A2d o,i.toNat)
 | _=>default
theorem F8c(x:Fea×Nat)(hx:D1t x)(n:Nat)(hn:n<=C0u x):E8 prog (D5 prog pNm 60) (pNm.blk 36) C5a (sp36b.rho (B5a x n)) (sp36b.heap (B5a x n)) (H9 C7y 9 [])=some (if n<C0u x then(bif D2r x n then(.normal,B5a x (n+1)) else(.ret,D8g (B5a x 0) n)) else(.exit 2,D8s (B5a x 0))):=by
 obtain⟨h1,h2,h3⟩:=hx
 simp only[B5a,D8g,D8s]
 rw[F0f,I5 hn h2]
 simp only[tN]
 by_cases h:n<C0u x
 ·rw[if_pos h]
  simp only[C0u,F4] at h
  simp only[D2r,F4,V4]
  by_cases h4:((x.1.l.getD x.2 default).l.getD n default).s.length<=100
  all_goals
   repeat first
    | exact rfl
    | refine A8 rfl ?_
    | refine C8 rfl ?_
    | refine A8 (by simp only[SBs]; omega) ?_
    | refine C8 (by simp only[SBs]; omega) ?_
    | exact congrArg some (Y3 (by first | (simp only[SBs]; omega) | simp)).symm
    | exact congrArg some (Y2 (by first | (simp only[SBs]; omega) | simp)).symm
 ·rw[if_neg h]
  simp only[C0u,F4] at h
  repeat first
   | exact rfl
   | refine A8 rfl ?_
   | refine C8 rfl ?_
   | refine A8 (by simp only[SBs]; omega) ?_
   | refine C8 (by simp only[SBs]; omega) ?_
   | exact congrArg some (Y3 (by first | (simp only[SBs]; omega) | simp)).symm
   | exact congrArg some (Y2 (by first | (simp only[SBs]; omega) | simp)).symm
def F9s:Blk:=hookP sp36b 9 [] (fdT C7y 2 .ret (.exit 2) A7t B5a D8g D8s C0u D2r D1t)
theorem E6s{A:Amb}{q:Prims}(h0:PrimOK prog A pNm)(hq:PrimOK prog A q):PrimOK prog A (q.addb 36 2 F9s) :=
 SEB.findR (id:=2) (ds:=[]) (dec:=A7t) (sp:=sp36b) (sq:=C7y) (m:=9) (eb:=.ret) (ee:=.exit 2) (L:=B5a) (Lb:=D8g) (Le:=D8s) (N:=C0u) (p:=D2r) (Inv:=D1t) (k:=60) F7 F9 h0 hq func36 (show f36.body=some (f36.body.getD .skip) by kernel_rfl) (body:=C5a) (by kernel_rfl)
  rfl rfl rfl rfl (by simp) (by simp) (fun _ _=>⟨⟨.inr rfl,.inr rfl,.inr rfl,.inr rfl,.inr rfl,.inr rfl,.inr rfl,.inr rfl,.inr rfl,trivial⟩,⟨.inr rfl,.inr rfl,.inr rfl,.inr rfl,.inr rfl,.inr rfl,.inr rfl,.inr rfl,.inr rfl,trivial⟩⟩) F8c
theorem C1z(x:Fea×Nat):A7t (B5a x 0)=x:=by
 obtain⟨x,i⟩:=x
 simp[A7t,B5a,O0]
theorem C1y(x:Fea)(i:Nat):A7t [Lf.i (i:Int),Lf.i 0,Lf.o (F5 x)]=(x,i):=C1z (x,i)
theorem E5p{x:Fea}{i:Nat}(h:i<x.l.length)(h6:(x.l.getD i default).l.length<=6)(h1:x.l.length<2^62):fdC B5a A7t D1t [Lf.i (i:Int),Lf.i 0,Lf.o (F5 x)]=true:=J5 (x:=(x,i)) (C1z (x,i)) ⟨h,Nat.lt_of_le_of_lt h6 (by omega),h1⟩
def pF1:Prims:=pNm.addb 36 2 F9s
def C4z:Code:=I7 (J6 0 (f36.body.getD .skip))
def sp36a:SP:=⟨dr 1++[.is (.ptr (some (8,0)))]++dr 1++[.int .i64]++dr 49,dd8++[.any]⟩
def C7x:AEx->SP
 | .ret=>⟨dr 2++[.bool]++dr 50,dd8++[.any]⟩
 | .exit 0=>⟨dr 53,dd8++[.any]⟩
 | _=>sp36a
theorem F0e(x:Fea)(n:Int):E8 prog (D5 prog pF1 60) (pF1.blk 36) C4z (sp36a.rho [.i n,.o (F5 x)]) (sp36a.heap [.i n,.o (F5 x)]) (H9 C7x 9 []) =
  brK (decide (n<(x.l.length:Int))) (brK (decide (0<=n/\n<(x.l.length:Int))) (brK (decide (((x.l.getD n.toNat default).l.length:Int)>6)) (some (.ret,[.b false,.o (F5 x)])) (brK (fdC B5a A7t D1t [Lf.i n,Lf.i 0,Lf.o (F5 x)]) (brK (fdE D2r C0u (A7t [Lf.i n,Lf.i 0,Lf.o (F5 x)])) (some (.normal,[.i (W (n+1)),.o (F5 x)])) (some (.ret,[.b false,.o (F5 x)]))) none)) none) (some (.exit 0,[.o (F5 x)])):=by kernel_rfl
def C0p(x:Fea)(n:Nat):List Lf:=[.i n,.o (F5 x)]
def D8f:List Lf->Nat->List Lf
 | [_,o],_=>[.b false,o]
 | _,_=>[]
def D8r:List Lf->List Lf
 | [_,o]=>[o]
 | _=>[]
def C0t(x:Fea):Nat:=x.l.length
def D2q(x:Fea)(n:Nat):Bool:=decide ((F4 x n).l.length<=6)&&fdE D2r C0u (x,n)
def C2t(x:Fea):Prop:=x.l.length<2^62
def B0a:List Lf->Fea
 | [_,.o o]=>A2d o
 | _=>default
theorem F8b(x:Fea)(hx:C2t x)(n:Nat)(hn:n<=C0t x):E8 prog (D5 prog pF1 60) (pF1.blk 36) C4z (sp36a.rho (C0p x n)) (sp36a.heap (C0p x n)) (H9 C7x 9 [])=some (if n<C0t x then(bif D2q x n then(.normal,C0p x (n+1)) else(.ret,D8f (C0p x 0) n)) else(.exit 0,D8r (C0p x 0))):=by
 have h1:=hx
 simp only[C2t] at h1
 simp only[C0p,D8f,D8r]
 rw[F0e,I5 hn h1]
 simp only[tN,C1y]
 by_cases h:n<C0t x
 ·rw[if_pos h]
  simp only[C0t] at h
  simp only[D2q,F4]
  by_cases h6:(x.l.getD n default).l.length<=6<;>cases hE:fdE D2r C0u (x,n)
  all_goals
   repeat first
    | exact rfl
    | refine A8 rfl ?_
    | refine C8 rfl ?_
    | refine A8 (by simp only[SBs]; omega) ?_
    | refine C8 (by simp only[SBs]; omega) ?_
    | refine A8 (E5p h h6 h1) ?_
    | exact congrArg some (Y3 (by first | (simp only[SBs]; omega) | simp)).symm
    | exact congrArg some (Y2 (by first | (simp only[SBs]; omega) | simp)).symm
 ·rw[if_neg h]
  simp only[C0t] at h
  repeat first
   | exact rfl
   | refine A8 rfl ?_
   | refine C8 rfl ?_
   | refine A8 (by simp only[SBs]; omega) ?_
   | refine C8 (by simp only[SBs]; omega) ?_
   | refine A8 (E5p h h6 h1) ?_
   | exact congrArg some (Y3 (by first | (simp only[SBs]; omega) | simp)).symm
   | exact congrArg some (Y2 (by first | (simp only[SBs]; omega) | simp)).symm
def F9r:Blk:=hookP sp36a 9 [] (fdT C7x 0 .ret (.exit 0) B0a C0p D8f D8r C0t D2q C2t)
theorem E6r{A:Amb}{q:Prims}(h0:PrimOK prog A pF1)(hq:PrimOK prog A q):PrimOK prog A (q.addb 36 0 F9r) :=
 SEB.findR (id:=0) (ds:=[]) (dec:=B0a) (sp:=sp36a) (sq:=C7x) (m:=9) (eb:=.ret) (ee:=.exit 0) (L:=C0p) (Lb:=D8f) (Le:=D8r) (N:=C0t) (p:=D2q) (Inv:=C2t) (k:=60) F7 F9 h0 hq func36 (show f36.body=some (f36.body.getD .skip) by kernel_rfl) (body:=C4z) (by kernel_rfl)
  rfl rfl rfl rfl (by simp) (by simp) (fun _ _=>⟨⟨.inr rfl,.inr rfl,.inr rfl,.inr rfl,.inr rfl,.inr rfl,.inr rfl,.inr rfl,.inr rfl,trivial⟩,⟨.inr rfl,.inr rfl,.inr rfl,.inr rfl,.inr rfl,.inr rfl,.inr rfl,.inr rfl,.inr rfl,trivial⟩⟩) F8b
theorem C1x(x:Fea):B0a [Lf.i 0,Lf.o (F5 x)]=x:=by simp[B0a,O0]
theorem G2o{x:Fea}(h1:x.l.length<2^62):fdC C0p B0a C2t [Lf.i 0,Lf.o (F5 x)]=true:=J5 (x:=x) (C1x x) h1
def pF2:Prims:=pF1.addb 36 0 F9r
def D4z:Code:=I7 (J6 0 (f39.body.getD .skip))
def sp39:SP:=⟨[.flist 5]++dr 2++[.int .i64]++dr 35,dd8⟩
def E1i:AEx->SP
 | .ret=>⟨dr 2++[.bool]++dr 36,dd8⟩
 | .exit 0=>⟨dr 39,dd8⟩
 | _=>sp39
theorem F7c(l:List Dim)(n:Int):E8 prog (D5 prog pNm 60) (pNm.blk 39) D4z (sp39.rho [.n l.length,.fr (A7 Dim.fv l),.i n]) (sp39.heap [.n l.length,.fr (A7 Dim.fv l),.i n]) (H9 E1i 8 []) =
  brK (decide (n<(l.length:Int))) (brK (decide (0<=n/\n<(l.length:Int))) (brK (decide (((l.getD n.toNat default).f.length:Int)>100)) (some (.ret,[.b false])) (brK (decide (0<=n/\n<(l.length:Int))) (brK (decide (((l.getD n.toNat default).t.length:Int)>100)) (some (.ret,[.b false])) (some (.normal,[.n (l.length),.fr (fun i=>(l.getD i default).fv),.i (W (n+1))]))) none)) none) (some (.exit 0,[])):=by kernel_rfl
def L39(x:List Dim)(n:Nat):List Lf:=[.n x.length,.fr (A7 Dim.fv x),.i n]
def F2k:List Lf->Nat->List Lf
 | [_,_,_],_=>[.b false]
 | _,_=>[]
def F2r:List Lf->List Lf
 | [_,_,_]=>[]
 | _=>[]
def N39(x:List Dim):Nat:=x.length
def p39(x:List Dim)(n:Nat):Bool:=decide ((x.getD n default).f.length<=100)&&decide ((x.getD n default).t.length<=100)
def D6j(x:List Dim):Prop:=x.length<2^62
def B4l:List Lf->List Dim
 | [.n m,.fr f,_]=>ofR Dim.fv m f
 | _=>[]
theorem G5g(x:List Dim)(hx:D6j x)(n:Nat)(hn:n<=N39 x):E8 prog (D5 prog pNm 60) (pNm.blk 39) D4z (sp39.rho (L39 x n)) (sp39.heap (L39 x n)) (H9 E1i 8 [])=some (if n<N39 x then(bif p39 x n then(.normal,L39 x (n+1)) else(.ret,F2k (L39 x 0) n)) else(.exit 0,F2r (L39 x 0))):=by
 have h1:=hx
 simp only[D6j] at h1
 simp only[L39,F2k,F2r]
 rw[F7c,I5 hn h1]
 simp only[tN]
 by_cases h:n<N39 x
 ·rw[if_pos h]
  simp only[N39] at h
  simp only[p39]
  by_cases h2:(x.getD n default).f.length<=100<;>by_cases h3:(x.getD n default).t.length<=100
  all_goals
   repeat first
    | exact rfl
    | refine A8 rfl ?_
    | refine C8 rfl ?_
    | refine A8 (by simp only[SBs]; omega) ?_
    | refine C8 (by simp only[SBs]; omega) ?_
    | exact congrArg some (Y3 (by first | (simp only[SBs]; omega) | simp)).symm
    | exact congrArg some (Y2 (by first | (simp only[SBs]; omega) | simp)).symm
 ·rw[if_neg h]
  simp only[N39] at h
  repeat first
   | exact rfl
   | refine A8 rfl ?_
   | refine C8 rfl ?_
   | refine A8 (by simp only[SBs]; omega) ?_
   | refine C8 (by simp only[SBs]; omega) ?_
   | exact congrArg some (Y3 (by first | (simp only[SBs]; omega) | simp)).symm
   | exact congrArg some (Y2 (by first | (simp only[SBs]; omega) | simp)).symm
def G6u:Blk:=hookP sp39 8 [] (fdT E1i 0 .ret (.exit 0) B4l L39 F2k F2r N39 p39 D6j)
theorem F4v{A:Amb}{q:Prims}(h0:PrimOK prog A pNm)(hq:PrimOK prog A q):PrimOK prog A (q.addb 39 0 G6u) :=
 SEB.findR (id:=0) (ds:=[]) (dec:=B4l) (sp:=sp39) (sq:=E1i) (m:=8) (eb:=.ret) (ee:=.exit 0) (L:=L39) (Lb:=F2k) (Le:=F2r) (N:=N39) (p:=p39) (Inv:=D6j) (k:=60) F7 F9 h0 hq func39 (show f39.body=some (f39.body.getD .skip) by kernel_rfl) (body:=D4z) (by kernel_rfl)
  rfl rfl rfl rfl (by simp) (by simp) (fun _ _=>⟨⟨.inr rfl,.inr rfl,.inr rfl,.inr rfl,.inr rfl,.inr rfl,.inr rfl,.inr rfl,trivial⟩,⟨.inr rfl,.inr rfl,.inr rfl,.inr rfl,.inr rfl,.inr rfl,.inr rfl,.inr rfl,trivial⟩⟩) G5g
theorem D0d(l:List Dim):B4l [Lf.n l.length,Lf.fr (A7 Dim.fv l),Lf.i 0]=l:=I1 Dim.inj l
theorem G6j{l:List Dim}(h1:l.length<2^62):fdC L39 B4l D6j [Lf.n l.length,Lf.fr (A7 Dim.fv l),Lf.i 0]=true:=J5 (x:=l) (D0d l) h1
def pF3:Prims:=pF2.addb 39 0 G6u
def C6f(x:Fea):Bool:=decide (x.s.length<=100)&&(decide (x.l.length<=12)&&fdE D2q C0t x)
theorem G9j(x:Fea):(D5 prog pF3 60).call 36 [.agg x.av] (Bg 8) F8 =
  brK (decide ((x.s.length:Int)>100)) (some (.bool false)) (brK (decide ((x.l.length:Int)>12)) (some (.bool false)) (brK (fdC C0p B0a C2t [Lf.i 0,Lf.o (F5 x)]) (brK (fdE D2q C0t (B0a [Lf.i 0,Lf.o (F5 x)])) (some (.bool true)) (some (.sbool (false)))) none)):=by kernel_rfl
theorem H1q(x:Fea):∃ v,(D5 prog pF3 60).call 36 [.agg x.av] (Bg 8) F8=some v/\A4e (C6f x) v:=by
 rw[G9j]
 simp only[C1x]
 by_cases h1:x.s.length<=100<;>by_cases h2:x.l.length<=12<;>cases hE:fdE D2q C0t x
 all_goals
  apply exV
  focus
   repeat first
    | exact rfl
    | refine A8 rfl ?_
    | refine C8 rfl ?_
    | refine A8 (by simp only[SBs]; omega) ?_
    | refine C8 (by simp only[SBs]; omega) ?_
    | refine A8 (G2o (by omega)) ?_
  focus
   first
    | exact .inl rfl
    | exact .inr rfl
    | (exfalso; omega)
    | simp_all[A4e,C6f]
def D0z(l:List Dim):Bool:=!(decide (l.length>10)&&decide (l.length<=256)||decide (l.length>512))&&fdE p39 N39 l
theorem G9k(l:List Dim):(D5 prog pF3 60).call 39 [D9s l] (Bg 8) F8 =
  brK (decide ((l.length:Int)>10)) (brK (decide ((l.length:Int)<=256)) (some (.bool false)) (brK (decide ((l.length:Int)>512)) (some (.bool false)) (brK (fdC L39 B4l D6j [Lf.n l.length,Lf.fr (A7 Dim.fv l),Lf.i 0]) (brK (fdE p39 N39 (B4l [Lf.n l.length,Lf.fr (A7 Dim.fv l),Lf.i 0])) (some (.bool true)) (some (.sbool (false)))) none))) (brK (decide ((l.length:Int)>512)) (some (.bool false)) (brK (fdC L39 B4l D6j [Lf.n l.length,Lf.fr (A7 Dim.fv l),Lf.i 0]) (brK (fdE p39 N39 (B4l [Lf.n l.length,Lf.fr (A7 Dim.fv l),Lf.i 0])) (some (.bool true)) (some (.sbool (false)))) none)):=by kernel_rfl
theorem H1r(l:List Dim):∃ v,(D5 prog pF3 60).call 39 [D9s l] (Bg 8) F8=some v/\A4e (D0z l) v:=by
 rw[G9k]
 simp only[D0d]
 by_cases h1:l.length>10<;>by_cases h2:l.length<=256<;>by_cases h3:l.length>512<;>cases hE:fdE p39 N39 l
 all_goals
  apply exV
  focus
   repeat first
    | exact rfl
    | refine A8 rfl ?_
    | refine C8 rfl ?_
    | refine A8 (by simp only[SBs]; omega) ?_
    | refine C8 (by simp only[SBs]; omega) ?_
    | refine A8 (G6j (by omega)) ?_
  focus
   first
    | exact .inl rfl
    | exact .inr rfl
    | (exfalso; omega)
    | simp_all[A4e,D0z]
theorem G2y{A:Amb}(hT:Tab A)(hG:gN prog<=A.G):PrimOK prog A pF3:=by
 have h0:=C7g hT hG
 have h1:PrimOK prog A pF1:=E6s h0 h0
 exact F4v h0 (E6r h1 h1)
def pFw0:Prims:=(pNm.addt 36 (M8 A0g fun x=>.leaf (.sbool (C6f x)))).addt 39 (M8 E0t fun x=>.leaf (.sbool (D0z x)))
theorem F6h{A:Amb}(hT:Tab A)(hG:gN prog<=A.G):PrimOK prog A pFw0:=by
 have h0:=G2y hT hG
 refine H8 hG h0 (H8 hG h0 (C7g hT hG) A0g _ func36 (by kernel_rfl) fun x v hv=>?_) E0t _ func39 (by kernel_rfl) fun x v hv=>?_
 ·cases hv
  obtain⟨v',h1,h2⟩:=H1q x
  exact⟨v',h1,Q3 h2,Z9 h2⟩
 ·cases hv
  obtain⟨v',h1,h2⟩:=H1r x
  exact⟨v',h1,Q3 h2,Z9 h2⟩
theorem J8{α:Type}[Inhabited α]{fv:α->List FV}(l:List α):E9 (okR fv l.length (A7 fv l))=true:=A9 (D6z l)
def oD(d:Drw):Bool:=E9 (okR Fea.fv d.l.length (A7 Fea.fv d.l))&&E9 (okR Dim.fv d.m.length (A7 Dim.fv d.m))
theorem A3r(d:Drw):oD d=true:=by
 unfold oD
 rw[J8,J8]
 rfl
abbrev D8(d:Drw)(i:Nat):Fea:=d.l.getD i default
abbrev K6(d:Drw)(i:Nat):Dim:=d.m.getD i default
def E4w:Code:=I7 (J6 0 (f9.body.getD .skip))
def sp9:SP:=⟨dr 1++[.is (.ptr (some (8,0)))]++dr 1++[.int .i64]++dr 39,dd8++[.any]⟩
def F7x:AEx->SP
 | .ret=>⟨dr 2++[.bool]++dr 40,dd8++[.any]⟩
 | .exit 0=>⟨dr 1++[.is (.ptr (some (8,0)))]++dr 41,dd8++[.any]⟩
 | _=>sp9
theorem G4j(d:Drw)(n:Int):E8 prog (D5 prog pFw0 60) (pFw0.blk 9) E4w (sp9.rho [.i n,.o (C9 d)]) (sp9.heap [.i n,.o (C9 d)]) (H9 F7x 9 []) =
  brK (decide (n<(d.l.length:Int))) (brK (decide (0<=n/\n<(d.l.length:Int))) (brK (E9 (okR Frm.fv (d.l.getD n.toNat default).l.length (A7 Frm.fv (d.l.getD n.toNat default).l))) (brK (!C6f { s:=(d.l.getD n.toNat default).s,k:=(d.l.getD n.toNat default).k,a:=(d.l.getD n.toNat default).a,x:=(d.l.getD n.toNat default).x,y:=(d.l.getD n.toNat default).y,z:=(d.l.getD n.toNat default).z,lo:=(d.l.getD n.toNat default).lo,hi:=(d.l.getD n.toNat default).hi,l:=ofR Frm.fv (d.l.getD n.toNat default).l.length (A7 Frm.fv (d.l.getD n.toNat default).l) }) (some (.ret,[.b false,.o (C9 d)])) (some (.normal,[.i (W (n+1)),.o (C9 d)]))) none) none) (some (.exit 0,[.o (C9 d)])):=by kernel_rfl
def L9(x:Drw)(n:Nat):List Lf:=[.i n,.o (C9 x)]
def Lb9:List Lf->Nat->List Lf
 | [_,o],_=>[.b false,o]
 | _,_=>[]
def Le9:List Lf->List Lf
 | [_,o]=>[o]
 | _=>[]
def N9(x:Drw):Nat:=x.l.length
def p9(x:Drw)(n:Nat):Bool:=C6f (D8 x n)
def iv9(x:Drw):Prop:=x.l.length<2^62
def C6a:List Lf->Drw
 | [_,.o o]=>I6 o
 | _=>default
theorem H0q(x:Drw)(hx:iv9 x)(n:Nat)(hn:n<=N9 x):E8 prog (D5 prog pFw0 60) (pFw0.blk 9) E4w (sp9.rho (L9 x n)) (sp9.heap (L9 x n)) (H9 F7x 9 [])=some (if n<N9 x then(bif p9 x n then(.normal,L9 x (n+1)) else(.ret,Lb9 (L9 x 0) n)) else(.exit 0,Le9 (L9 x 0))):=by
 have h1:=hx
 simp only[iv9] at h1
 simp only[L9,Lb9,Le9]
 rw[G4j,I5 hn h1]
 simp only[tN,J8,I1 Frm.inj]
 by_cases h:n<N9 x
 ·rw[if_pos h]
  simp only[N9] at h
  simp only[p9,D8]
  cases hE:C6f (x.l.getD n default)
  all_goals
   repeat first
    | exact rfl
    | refine A8 rfl ?_
    | refine C8 rfl ?_
    | refine A8 (by simp only[SBs]; omega) ?_
    | refine C8 (by simp only[SBs]; omega) ?_
    | refine A8 (J8 _) ?_
    | exact congrArg some (Y3 (by first | (simp only[SBs]; omega) | simp)).symm
    | exact congrArg some (Y2 (by first | (simp only[SBs]; omega) | simp)).symm
 ·rw[if_neg h]
  simp only[N9] at h
  repeat first
   | exact rfl
   | refine A8 rfl ?_
   | refine C8 rfl ?_
   | refine A8 (by simp only[SBs]; omega) ?_
   | refine C8 (by simp only[SBs]; omega) ?_
   | refine A8 (J8 _) ?_
   | exact congrArg some (Y3 (by first | (simp only[SBs]; omega) | simp)).symm
   | exact congrArg some (Y2 (by first | (simp only[SBs]; omega) | simp)).symm
def hk9:Blk:=hookP sp9 9 [] (fdT F7x 0 .ret (.exit 0) C6a L9 Lb9 Le9 N9 p9 iv9)
theorem G2x{A:Amb}{q:Prims}(h0:PrimOK prog A pFw0)(hq:PrimOK prog A q):PrimOK prog A (q.addb 9 0 hk9) :=
 SEB.findR (id:=0) (ds:=[]) (dec:=C6a) (sp:=sp9) (sq:=F7x) (m:=9) (eb:=.ret) (ee:=.exit 0) (L:=L9) (Lb:=Lb9) (Le:=Le9) (N:=N9) (p:=p9) (Inv:=iv9) (k:=60) F7 F9 h0 hq func9 (show f9.body=some (f9.body.getD .skip) by kernel_rfl) (body:=E4w) (by kernel_rfl)
  rfl rfl rfl rfl (by simp) (by simp) (fun _ _=>⟨⟨.inr rfl,.inr rfl,.inr rfl,.inr rfl,.inr rfl,.inr rfl,.inr rfl,.inr rfl,.inr rfl,trivial⟩,⟨.inr rfl,.inr rfl,.inr rfl,.inr rfl,.inr rfl,.inr rfl,.inr rfl,.inr rfl,.inr rfl,trivial⟩⟩) H0q
theorem D9o(d:Drw):C6a [Lf.i 0,Lf.o (C9 d)]=d:=by simp[C6a,D9]
theorem H0z{d:Drw}(h1:d.l.length<2^62):fdC L9 C6a iv9 [Lf.i 0,Lf.o (C9 d)]=true:=J5 (x:=d) (D9o d) h1
def pF4:Prims:=pFw0.addb 9 0 hk9
def C1g(d:Drw):Bool:=(decide (d.s.length<=100)&&(decide (d.l.length<=8)||(decide (d.l.length>32)&&decide (d.l.length<=64))))&&(fdE p9 N9 d&&D0z d.m)
theorem H2r(d:Drw):(D5 prog pF4 60).call 9 [.agg d.av] (Bg 8) F8 =
  brK (decide ((d.s.length:Int)>100)) (some (.bool false)) (brK (decide ((d.l.length:Int)>8)) (brK (decide ((d.l.length:Int)<=32)) (some (.bool false)) (brK (decide ((d.l.length:Int)>64)) (some (.bool false)) (brK (fdC L9 C6a iv9 [Lf.i 0,Lf.o (C9 d)]) (brK (fdE p9 N9 (C6a [Lf.i 0,Lf.o (C9 d)])) (brK (E9 (okR Dim.fv d.m.length (A7 Dim.fv d.m))) (some (.sbool (D0z (ofR Dim.fv d.m.length (A7 Dim.fv d.m))))) none) (some (.sbool (false)))) none))) (brK (decide ((d.l.length:Int)>64)) (some (.bool false)) (brK (fdC L9 C6a iv9 [Lf.i 0,Lf.o (C9 d)]) (brK (fdE p9 N9 (C6a [Lf.i 0,Lf.o (C9 d)])) (brK (E9 (okR Dim.fv d.m.length (A7 Dim.fv d.m))) (some (.sbool (D0z (ofR Dim.fv d.m.length (A7 Dim.fv d.m))))) none) (some (.sbool (false)))) none))):=by kernel_rfl
theorem ok9(d:Drw):∃ v,(D5 prog pF4 60).call 9 [.agg d.av] (Bg 8) F8=some v/\A4e (C1g d) v:=by
 rw[H2r]
 simp only[D9o,J8,I1 Dim.inj]
 by_cases h1:d.s.length<=100<;>by_cases h2:d.l.length<=8<;>by_cases h3:d.l.length>32<;>by_cases h4:d.l.length>64<;>cases hE:fdE p9 N9 d<;>cases hM:D0z d.m
 all_goals
  apply exV
  focus
   repeat first
    | exact rfl
    | refine A8 rfl ?_
    | refine C8 rfl ?_
    | refine A8 (by simp only[SBs]; omega) ?_
    | refine C8 (by simp only[SBs]; omega) ?_
    | refine A8 (H0z (by omega)) ?_
    | refine A8 (J8 _) ?_
  focus
   first
    | exact .inl rfl
    | exact .inr rfl
    | (exfalso; omega)
    | simp_all[A4e,C1g]
def pFw:Prims:=pNm.addt 9 (M8 O5 fun x=>.leaf (.sbool (C1g x)))
theorem C7e{A:Amb}(hT:Tab A)(hG:gN prog<=A.G):PrimOK prog A pFw:=by
 have h0:=F6h hT hG
 refine H8 hG (G2x h0 h0) (C7g hT hG) O5 _ func9 (by kernel_rfl) fun x v hv=>?_
 cases hv
 obtain⟨v',h1,h2⟩:=ok9 x
 exact⟨v',h1,Q3 h2,Z9 h2⟩
theorem J3{α:Type}{c:Prop}[Decidable c]{x y r:α}(h:c)(h2:x=r):ite c x y=r:=by rw[if_pos h]; exact h2
theorem G6{α:Type}{c:Prop}[Decidable c]{x y r:α}(h:¬ c)(h2:y=r):ite c x y=r:=by rw[if_neg h]; exact h2
theorem viI{n m:Int}(h:n=m):O9 n (.int .i64 m):=by subst h; exact .inl rfl
theorem viS{n m:Int}(h:n=m):O9 n (.sint .i64 m):=by subst h; exact .inr rfl
theorem vbB{n m:Bool}(h:n=m):A4e n (.bool m):=by subst h; exact .inl rfl
theorem vbS{n m:Bool}(h:n=m):A4e n (.sbool m):=by subst h; exact .inr rfl
def K3(x:Fea):Int:=if G7 x.s≠0 then G7 x.s else if x.k<0 \/ x.k >= 5 \/ x.a<0 \/ x.a >= 3 then 1 else if x.k=4/\x.a≠0 then 3
 else if x.x < -100000 \/ x.x>100000 \/ x.y < -100000 \/ x.y>100000 \/ x.z < -100000 \/ x.z>100000 then 2 else if x.k=0/\(x.lo≠0 \/ x.hi≠0) then 3 else if x.k=0 then 0
 else if x.lo < -100000 \/ x.lo>100000 \/ x.hi < -100000 \/ x.hi>100000 then 2 else if x.lo>x.hi then 9 else if x.lo<1 then 2 else 0
def R6(x:Dim):Int:=if G7 x.f≠0 then G7 x.f else if G7 x.t≠0 then G7 x.t else if x.f=x.t then 7 else if x.a<0 \/ x.a >= 3 then 1
 else if x.lo < -100000 \/ x.lo>100000 \/ x.hi < -100000 \/ x.hi>100000 then 2 else if x.lo>x.hi then 9 else 0
theorem G4l(x:Fea):(D5 prog pNm 60).call 105 [.agg x.av] (Bg 8) F8 =
  brK (I9 x.s) (brK (G7 x.s != 0) (some (.sint IntKind.i64 (G7 x.s))) (brK (decide (x.k<0)) (some (.int .i64 1)) (brK (decide (x.k >= 5)) (some (.int .i64 1)) (brK (decide (x.a<0)) (some (.int .i64 1)) (brK (decide (x.a >= 3)) (some (.int .i64 1)) (brK (x.k==4) (brK (x.a != 0) (some (.int .i64 3)) (brK (decide (x.x >= -100000)) (brK (decide (x.x<=100000)) (brK (decide (x.y >= -100000)) (brK (decide (x.y<=100000)) (brK (decide (x.z >= -100000)) (brK (!decide (x.z<=100000)) (some (.int .i64 2)) (brK (x.k==0) (brK (!(x.lo==0&&(x.hi==0&&true))) (some (.int .i64 3)) (brK (x.k==0) (some (.int .i64 0)) (brK (decide (x.lo >= -100000)) (brK (!decide (x.lo<=100000)) (some (.int .i64 2)) (brK (decide (x.hi >= -100000)) (brK (!decide (x.hi<=100000)) (some (.int .i64 2)) (brK (decide (x.lo>x.hi)) (some (.int .i64 9)) (brK (decide (x.lo<1)) (some (.int .i64 2)) (some (.int .i64 0))))) (some (.int .i64 2)))) (some (.int .i64 2))))) (brK (x.k==0) (some (.int .i64 0)) (brK (decide (x.lo >= -100000)) (brK (!decide (x.lo<=100000)) (some (.int .i64 2)) (brK (decide (x.hi >= -100000)) (brK (!decide (x.hi<=100000)) (some (.int .i64 2)) (brK (decide (x.lo>x.hi)) (some (.int .i64 9)) (brK (decide (x.lo<1)) (some (.int .i64 2)) (some (.int .i64 0))))) (some (.int .i64 2)))) (some (.int .i64 2)))))) (some (.int .i64 2))) (some (.int .i64 2))) (some (.int .i64 2))) (some (.int .i64 2))) (some (.int .i64 2)))) (brK (decide (x.x >= -100000)) (brK (decide (x.x<=100000)) (brK (decide (x.y >= -100000)) (brK (decide (x.y<=100000)) (brK (decide (x.z >= -100000)) (brK (!decide (x.z<=100000)) (some (.int .i64 2)) (brK (x.k==0) (brK (!(x.lo==0&&(x.hi==0&&true))) (some (.int .i64 3)) (brK (x.k==0) (some (.int .i64 0)) (brK (decide (x.lo >= -100000)) (brK (!decide (x.lo<=100000)) (some (.int .i64 2)) (brK (decide (x.hi >= -100000)) (brK (!decide (x.hi<=100000)) (some (.int .i64 2)) (brK (decide (x.lo>x.hi)) (some (.int .i64 9)) (brK (decide (x.lo<1)) (some (.int .i64 2)) (some (.int .i64 0))))) (some (.int .i64 2)))) (some (.int .i64 2))))) (brK (x.k==0) (some (.int .i64 0)) (brK (decide (x.lo >= -100000)) (brK (!decide (x.lo<=100000)) (some (.int .i64 2)) (brK (decide (x.hi >= -100000)) (brK (!decide (x.hi<=100000)) (some (.int .i64 2)) (brK (decide (x.lo>x.hi)) (some (.int .i64 9)) (brK (decide (x.lo<1)) (some (.int .i64 2)) (some (.int .i64 0))))) (some (.int .i64 2)))) (some (.int .i64 2)))))) (some (.int .i64 2))) (some (.int .i64 2))) (some (.int .i64 2))) (some (.int .i64 2))) (some (.int .i64 2))))))))) none:=by kernel_rfl
theorem G7r(x:Fea)(hz:I9 x.s=true):∃ v,(D5 prog pNm 60).call 105 [.agg x.av] (Bg 8) F8=some v/\O9 (K3 x) v:=by
 rw[G4l]
 by_cases k4:x.k=4<;>by_cases k0:x.k=0
 all_goals
  by_cases c1:G7 x.s≠0
  rotate_left
  by_cases c2:x.k<0
  rotate_left
  by_cases c3:x.k >= 5
  rotate_left
  by_cases c4:x.a<0
  rotate_left
  by_cases c5:x.a >= 3
  rotate_left
  by_cases c6:x.k=4/\x.a≠0
  rotate_left
  by_cases c7:x.x < -100000
  rotate_left
  by_cases c8:x.x>100000
  rotate_left
  by_cases c9:x.y < -100000
  rotate_left
  by_cases c10:x.y>100000
  rotate_left
  by_cases c11:x.z < -100000
  rotate_left
  by_cases c12:x.z>100000
  rotate_left
  by_cases c13:x.k=0/\(x.lo≠0 \/ x.hi≠0)
  rotate_left
  by_cases c14:x.k=0
  rotate_left
  by_cases c15:x.lo < -100000
  rotate_left
  by_cases c16:x.lo>100000
  rotate_left
  by_cases c17:x.hi < -100000
  rotate_left
  by_cases c18:x.hi>100000
  rotate_left
  by_cases c19:x.lo>x.hi
  rotate_left
  by_cases c20:x.lo<1
  rotate_left
  all_goals
   apply exV
   focus
    repeat first
     | exact rfl
     | refine A8 rfl ?_
     | refine C8 rfl ?_
     | refine A8 (by simp only[SBs]; omega) ?_
     | refine C8 (by simp only[SBs]; omega) ?_
     | refine A8 hz ?_
   focus
    first
     | apply viI
     | apply viS
    unfold K3
    repeat first
     | exact rfl
     | refine J3 (by omega) ?_
     | refine G6 (by omega) ?_
theorem G4q(x:Fea):(D5 prog pNm 60).call 150 [.agg x.av] (Bg 8) F8 =
  brK (I9 x.s) (brK (G7 x.s != 0) (some (.sint IntKind.i64 (G7 x.s))) (brK (decide (x.k<0)) (some (.int .i64 1)) (brK (decide (x.k >= 5)) (some (.int .i64 1)) (brK (decide (x.a<0)) (some (.int .i64 1)) (brK (decide (x.a >= 3)) (some (.int .i64 1)) (brK (x.k==4) (brK (x.a != 0) (some (.int .i64 3)) (brK (decide (x.x >= -100000)) (brK (!decide (x.x<=100000)) (some (.int .i64 2)) (brK (decide (x.y >= -100000)) (brK (!decide (x.y<=100000)) (some (.int .i64 2)) (brK (decide (x.z >= -100000)) (brK (!decide (x.z<=100000)) (some (.int .i64 2)) (brK (x.k==0) (brK (!(x.lo==0&&(x.hi==0&&true))) (some (.int .i64 3)) (some (.int .i64 0))) (brK (decide (x.lo >= -100000)) (brK (!decide (x.lo<=100000)) (some (.int .i64 2)) (brK (decide (x.hi >= -100000)) (brK (!decide (x.hi<=100000)) (some (.int .i64 2)) (brK (decide (x.lo>x.hi)) (some (.int .i64 9)) (brK (decide (x.lo<1)) (some (.int .i64 2)) (some (.int .i64 0))))) (some (.int .i64 2)))) (some (.int .i64 2))))) (some (.int .i64 2)))) (some (.int .i64 2)))) (some (.int .i64 2)))) (brK (decide (x.x >= -100000)) (brK (!decide (x.x<=100000)) (some (.int .i64 2)) (brK (decide (x.y >= -100000)) (brK (!decide (x.y<=100000)) (some (.int .i64 2)) (brK (decide (x.z >= -100000)) (brK (!decide (x.z<=100000)) (some (.int .i64 2)) (brK (x.k==0) (brK (!(x.lo==0&&(x.hi==0&&true))) (some (.int .i64 3)) (some (.int .i64 0))) (brK (decide (x.lo >= -100000)) (brK (!decide (x.lo<=100000)) (some (.int .i64 2)) (brK (decide (x.hi >= -100000)) (brK (!decide (x.hi<=100000)) (some (.int .i64 2)) (brK (decide (x.lo>x.hi)) (some (.int .i64 9)) (brK (decide (x.lo<1)) (some (.int .i64 2)) (some (.int .i64 0))))) (some (.int .i64 2)))) (some (.int .i64 2))))) (some (.int .i64 2)))) (some (.int .i64 2)))) (some (.int .i64 2))))))))) none:=by kernel_rfl
theorem G7x(x:Fea)(hz:I9 x.s=true):∃ v,(D5 prog pNm 60).call 150 [.agg x.av] (Bg 8) F8=some v/\O9 (K3 x) v:=by
 rw[G4q]
 by_cases k4:x.k=4<;>by_cases k0:x.k=0
 all_goals
  by_cases c1:G7 x.s≠0
  rotate_left
  by_cases c2:x.k<0
  rotate_left
  by_cases c3:x.k >= 5
  rotate_left
  by_cases c4:x.a<0
  rotate_left
  by_cases c5:x.a >= 3
  rotate_left
  by_cases c6:x.k=4/\x.a≠0
  rotate_left
  by_cases c7:x.x < -100000
  rotate_left
  by_cases c8:x.x>100000
  rotate_left
  by_cases c9:x.y < -100000
  rotate_left
  by_cases c10:x.y>100000
  rotate_left
  by_cases c11:x.z < -100000
  rotate_left
  by_cases c12:x.z>100000
  rotate_left
  by_cases c13:x.k=0/\(x.lo≠0 \/ x.hi≠0)
  rotate_left
  by_cases c14:x.k=0
  rotate_left
  by_cases c15:x.lo < -100000
  rotate_left
  by_cases c16:x.lo>100000
  rotate_left
  by_cases c17:x.hi < -100000
  rotate_left
  by_cases c18:x.hi>100000
  rotate_left
  by_cases c19:x.lo>x.hi
  rotate_left
  by_cases c20:x.lo<1
  rotate_left
  all_goals
   apply exV
   focus
    repeat first
     | exact rfl
     | refine A8 rfl ?_
     | refine C8 rfl ?_
     | refine A8 (by simp only[SBs]; omega) ?_
     | refine C8 (by simp only[SBs]; omega) ?_
     | refine A8 hz ?_
   focus
    first
     | apply viI
     | apply viS
    unfold K3
    repeat first
     | exact rfl
     | refine J3 (by omega) ?_
     | refine G6 (by omega) ?_
theorem H0f(y:Dim):(D5 prog pNm 60).call 95 [.agg y.av] (Bg 8) F8 =
  brK (I9 y.f) (brK (G7 y.f != 0) (some (.sint IntKind.i64 (G7 y.f))) (brK (I9 y.t) (brK (G7 y.t != 0) (some (.sint IntKind.i64 (G7 y.t))) (brK (y.f==y.t) (some (.int .i64 7)) (brK (decide (y.a<0)) (some (.int .i64 1)) (brK (decide (y.a >= 3)) (some (.int .i64 1)) (brK (decide (y.lo >= -100000)) (brK (!decide (y.lo<=100000)) (some (.int .i64 2)) (brK (decide (y.hi >= -100000)) (brK (!decide (y.hi<=100000)) (some (.int .i64 2)) (brK (decide (y.lo>y.hi)) (some (.int .i64 9)) (some (.int .i64 0)))) (some (.int .i64 2)))) (some (.int .i64 2))))))) none)) none:=by kernel_rfl
theorem H2f(y:Dim)(hz:I9 y.f=true)(hz2:I9 y.t=true):∃ v,(D5 prog pNm 60).call 95 [.agg y.av] (Bg 8) F8=some v/\O9 (R6 y) v:=by
 rw[H0f]
 by_cases c1:G7 y.f≠0
 rotate_left
 by_cases c2:G7 y.t≠0
 rotate_left
 by_cases c3:y.f=y.t
 rotate_left
 by_cases c4:y.a<0
 rotate_left
 by_cases c5:y.a >= 3
 rotate_left
 by_cases c6:y.lo < -100000
 rotate_left
 by_cases c7:y.lo>100000
 rotate_left
 by_cases c8:y.hi < -100000
 rotate_left
 by_cases c9:y.hi>100000
 rotate_left
 by_cases c10:y.lo>y.hi
 rotate_left
 all_goals
  apply exV
  focus
   repeat first
    | exact rfl
    | refine A8 rfl ?_
    | refine C8 rfl ?_
    | refine A8 (by simp only[SBs]; omega) ?_
    | refine C8 (by simp only[SBs]; omega) ?_
    | refine A8 hz ?_
    | refine A8 hz2 ?_
    | refine A8 (beq_iff_eq.2 c3) ?_
    | refine C8 (beq_eq_false_iff_ne.2 c3) ?_
  focus
   first
    | apply viI
    | apply viS
   unfold R6
   repeat first
    | exact rfl
    | refine J3 (by omega) ?_
    | refine G6 (by omega) ?_
    | refine J3 c3 ?_
    | refine G6 c3 ?_
theorem H0j(y:Dim):(D5 prog pNm 60).call 99 [.agg y.av] (Bg 8) F8 =
  brK (I9 y.f) (brK (G7 y.f != 0) (some (.sint IntKind.i64 (G7 y.f))) (brK (I9 y.t) (brK (G7 y.t != 0) (some (.sint IntKind.i64 (G7 y.t))) (brK (y.f==y.t) (some (.int .i64 7)) (brK (decide (y.a<0)) (some (.int .i64 1)) (brK (decide (y.a >= 3)) (some (.int .i64 1)) (brK (decide (y.lo >= -100000)) (brK (!decide (y.lo<=100000)) (some (.int .i64 2)) (brK (decide (y.hi >= -100000)) (brK (!decide (y.hi<=100000)) (some (.int .i64 2)) (brK (decide (y.lo>y.hi)) (some (.int .i64 9)) (some (.int .i64 0)))) (some (.int .i64 2)))) (some (.int .i64 2))))))) none)) none:=by kernel_rfl
theorem H2i(y:Dim)(hz:I9 y.f=true)(hz2:I9 y.t=true):∃ v,(D5 prog pNm 60).call 99 [.agg y.av] (Bg 8) F8=some v/\O9 (R6 y) v:=by
 rw[H0j]
 by_cases c1:G7 y.f≠0
 rotate_left
 by_cases c2:G7 y.t≠0
 rotate_left
 by_cases c3:y.f=y.t
 rotate_left
 by_cases c4:y.a<0
 rotate_left
 by_cases c5:y.a >= 3
 rotate_left
 by_cases c6:y.lo < -100000
 rotate_left
 by_cases c7:y.lo>100000
 rotate_left
 by_cases c8:y.hi < -100000
 rotate_left
 by_cases c9:y.hi>100000
 rotate_left
 by_cases c10:y.lo>y.hi
 rotate_left
 all_goals
  apply exV
  focus
   repeat first
    | exact rfl
    | refine A8 rfl ?_
    | refine C8 rfl ?_
    | refine A8 (by simp only[SBs]; omega) ?_
    | refine C8 (by simp only[SBs]; omega) ?_
    | refine A8 hz ?_
    | refine A8 hz2 ?_
    | refine A8 (beq_iff_eq.2 c3) ?_
    | refine C8 (beq_eq_false_iff_ne.2 c3) ?_
  focus
   first
    | apply viI
    | apply viS
   unfold R6
   repeat first
    | exact rfl
    | refine J3 (by omega) ?_
    | refine G6 (by omega) ?_
    | refine J3 c3 ?_
    | refine G6 c3 ?_
theorem D9h{x:Fea}{v:AV}(h:(Tr.br (I9 x.s) (.leaf (.sint .i64 (K3 x))) .fail).get=some v):I9 x.s=true/\v=.sint .i64 (K3 x):=by
 obtain⟨h1,h2⟩:=Tr.br1 h
 cases h2
 exact⟨h1,rfl⟩
def pFe:Prims:=(((pFw.addt 105 (M8 A0g fun x=>.br (I9 x.s) (.leaf (.sint .i64 (K3 x))) .fail)).addt 150 (M8 A0g fun x=>.br (I9 x.s) (.leaf (.sint .i64 (K3 x))) .fail)).addt
 95 (M8 C7h fun y=>.br (I9 y.f&&I9 y.t) (.leaf (.sint .i64 (R6 y))) .fail)).addt 99 (M8 C7h fun y=>.br (I9 y.f&&I9 y.t) (.leaf (.sint .i64 (R6 y))) .fail)
theorem D7g{A:Amb}(hT:Tab A)(hG:gN prog<=A.G):PrimOK prog A pFe:=by
 have h0:=C7g hT hG
 refine H8 hG h0 (H8 hG h0 (H8 hG h0 (H8 hG h0 (C7e hT hG) A0g _ func105 (by kernel_rfl) fun x v hv=>?_) A0g _ func150 (by kernel_rfl) fun x v hv=>?_) C7h _ func95 (by kernel_rfl) fun x v hv=>?_) C7h _ func99 (by kernel_rfl) fun x v hv=>?_
 ·obtain⟨hz,rfl⟩:=D9h hv
  obtain⟨v',h1,h2⟩:=G7r x hz
  exact⟨v',h1,G9 h2,J9 h2⟩
 ·obtain⟨hz,rfl⟩:=D9h hv
  obtain⟨v',h1,h2⟩:=G7x x hz
  exact⟨v',h1,G9 h2,J9 h2⟩
 ·obtain⟨hz,hv⟩:=Tr.br1 hv
  cases hv
  rw[bA] at hz
  obtain⟨v',h1,h2⟩:=H2f x hz.1 hz.2
  exact⟨v',h1,G9 h2,J9 h2⟩
 ·obtain⟨hz,hv⟩:=Tr.br1 hv
  cases hv
  rw[bA] at hz
  obtain⟨v',h1,h2⟩:=H2i x hz.1 hz.2
  exact⟨v',h1,G9 h2,J9 h2⟩
end Go.Proofs.Tryz
