/- The lexer's program: what the library's functions give, as known functions of the evaluator. -/
import Derived.Test.YtoboneiigikidaaGreatDoorAdPrim
import Derived.Test.YtoboneiigikidaaGreatDoorAdPat
import Derived.Test.YtoboneiigikidaaGreatDoorShelf
import Derived.Lib.LaidTab
import Derived.Lib.ItoaNum
import Derived.KernelRfl
import Derived.Lib.SmallJoins
import Derived.Test.YtoboneiigikidaaGreatDoorAdFind
noncomputable section
namespace Go.Proofs.Tryz
open Go.Ad
theorem F7:prog.follows .mixedOrders=true:=by kernel_rfl
theorem F8:A0l prog:=by
 have h:(prog.funcs.all fun fn=>decide (fn.name ≠ "runtime.NumGoroutine"))=true:=by kernel_rfl
 intro f fn hf
 exact of_decide_eq_true (Array.all_eq_true_iff_forall_mem.1 h fn (Array.mem_of_getElem? hf))
theorem started:decide (prog.globals.size < (begin prog (fun _ _=>0) default).world.heap.size)=true:=by kernel_rfl
theorem gsz:gN prog=8:=by kernel_rfl
def byteOf (c:Int):UInt8:=c.toNat.toUInt8
def B8e:List AV->Tr AV
 | [.str s,.int .u8 c]=>.leaf (.int .i64 (Lib.indexByte s (byteOf c)))
 | [x,y]=>match sstr? x,M3 y with
  | some s,some (.u8,c)=>.leaf (.sint .i64 (Lib.indexByte s (byteOf c)))
  | _,_=>.fail
 | _=>.fail
def D0f:List AV->Option AV
 | [.str a,.str b]=>some (.int .i64 (Lib.compareBytes a b))
 | [x,y]=>match sstr? x,sstr? y with
  | some a,some b=>some (.sint .i64 (Lib.compareBytes a b))
  | _,_=>none
 | _=>none
def F7c:List AV->Tr AV
 | [.int .i64 n]=>if decide (-9223372036854775808<=n) && decide (n<=9223372036854775807) then .leaf (.str (Lib.itoa n)) else .fail
 | [x]=>match M3 x with
  | some (.i64,n)=>.br (decide (-9223372036854775808<=n/\n<=9223372036854775807)) (.leaf (.sstr (Lib.itoa n))) .fail
  | _=>.fail
 | _=>.fail
def Tab (A:Amb):Prop:=∀ w:World,(∀ c,c < A.G->w.heap[c]?=A.base c)->Lib.TabIs prog w "internal/strconv.uint64pow10" .u64 Lib.pow10Tab
theorem tab_of {W:World} (hG:gN prog<=W.heap.size) (h:Lib.TabIs prog W "internal/strconv.uint64pow10" .u64 Lib.pow10Tab):Tab (ambOf W):=fun w hw=>by
 have hg:prog.globalNamed "internal/strconv.uint64pow10"=some 5:=by kernel_rfl
 have h6:5 < W.heap.size:=Nat.lt_of_lt_of_le (by rw [gsz]; omega) hG
 unfold Lib.TabIs World.var? at h ⊢
 rw [hg] at h ⊢
 simp only [Option.bind_some] at h ⊢
 rw [hw 5 h6]; exact h
theorem A9j {P:Program} {W:World} {x:String × DataW Unit} {r:List (String × DataW Unit)} (h:laidMet P (x :: r) W):laidMet P r W:=by
 obtain ⟨ps,⟨g,t,cs,fuel,p,q,h1,h2,h3,h4,h5,rfl⟩,hn,hc⟩:=h
 exact ⟨q,h5,(List.nodup_append.1 hn).2.1,fun b off hm=>hc b off (List.mem_append_right _ hm)⟩
theorem D5b (w:World) (k:Nat) (os:Array Obj):Quiet w (Go.Sort.grow (w.drewN k) os) :=
 ⟨by simp [Go.Sort.grow,World.drewN],fun c hc=>by simp [Go.Sort.grow,World.drewN,Array.getElem?_append,hc],rfl,rfl,rfl⟩
def lib:Prims:=(((noPrims.addt 191 B8e).add 133 D0f).addt 255 F7c).addx 182 E4o
theorem F1h {xs:Array Value} {a:Value} (h:xs.toList=[a]):xs=#[a]:=by apply Array.ext'; simpa using h
theorem B4x {xs:Array Value} {a b:Value} (h:xs.toList=[a,b]):xs=#[a,b]:=by apply Array.ext'; simpa using h
theorem G0g {A:Amb} (hT:Tab A):PrimOK prog A lib:=by
 refine PrimOK.noEscape (fn:=f182) (PrimOK.libt (PrimOK.lib (PrimOK.libt PrimOK.none func191 (by kernel_rfl) ?_) func133 (by kernel_rfl) ?_) func255 (by kernel_rfl) ?_) func182 (by kernel_rfl) (by kernel_rfl) (by rfl) (by rfl)
 ·intro args v hg ι w xs _ _ hx
  have key:∀ (b1:ByteArray) (c:Int),xs=#[.string b1,.int .u8 c]->Calls prog 191 xs w fun e w'=>∃ v',e=.returned v'/\v'=.int .i64 (Lib.indexByte b1.data.toList (byteOf c))/\Quiet w w':=fun b1 c e1=>by
   subst e1
   refine (stringslite_IndexByte b1 c w).mono fun e w' ⟨h1,h2⟩=>?_
   subst h1 h2
   exact ⟨_,rfl,rfl,Quiet.refl _⟩
  unfold B8e at hg
  split at hg
  ·rename_i s c
   cases hg
   simp only [VRL,VR] at hx
   obtain ⟨_,_,hxs,⟨b1,rfl,rfl⟩,_,_,rfl,rfl,rfl⟩:=hx
   exact (key b1 c (B4x hxs)).mono fun e w' ⟨v',q1,q2,q3⟩=>⟨v',q1,by simp only [VR]; exact q2,q3⟩
  ·rename_i x y _
   split at hg
   ·rename_i s c hs hc
    cases hg
    simp only [VRL] at hx
    obtain ⟨_,_,hxs,h1,_,_,rfl,h2,rfl⟩:=hx
    obtain ⟨b1,rfl,rfl⟩:=N8 hs h1
    have h2:=J8 hc h2
    subst h2
    exact (key b1 c (B4x hxs)).mono fun e w' ⟨v',q1,q2,q3⟩=>⟨v',q1,by simp only [VR]; exact q2,q3⟩
   ·cases hg
  ·cases hg
 ·intro args v hg ι w xs _ _ hx
  have key:∀ (b1 b2:ByteArray),xs=#[.string b1,.string b2]->Calls prog 133 xs w fun e w'=>∃ v',e=.returned v'/\v'=.int .i64 (Lib.compareBytes b1.data.toList b2.data.toList)/\Quiet w w':=fun b1 b2 e1=>by
   subst e1
   refine (strings_Compare b1 b2 w).mono fun e w' ⟨h1,h2⟩=>?_
   subst h1 h2
   exact ⟨_,rfl,rfl,Quiet.refl _⟩
  unfold D0f at hg
  split at hg
  ·rename_i s c
   cases hg
   simp only [VRL,VR] at hx
   obtain ⟨_,_,hxs,⟨b1,rfl,rfl⟩,_,_,rfl,⟨b2,rfl,rfl⟩,rfl⟩:=hx
   exact (key b1 b2 (B4x hxs)).mono fun e w' ⟨v',q1,q2,q3⟩=>⟨v',q1,by simp only [VR]; exact q2,q3⟩
  ·rename_i x y _
   split at hg
   ·rename_i s c hs hc
    cases hg
    simp only [VRL] at hx
    obtain ⟨_,_,hxs,h1,_,_,rfl,h2,rfl⟩:=hx
    obtain ⟨b1,rfl,rfl⟩:=N8 hs h1
    obtain ⟨b2,rfl,rfl⟩:=N8 hc h2
    exact (key b1 b2 (B4x hxs)).mono fun e w' ⟨v',q1,q2,q3⟩=>⟨v',q1,by simp only [VR]; exact q2,q3⟩
   ·cases hg
  ·cases hg
 ·intro args v hg ι w xs hamb _ hx
  have key:∀ n:Int,-9223372036854775808<=n->n<=9223372036854775807->xs=#[.int .i64 n]->Calls prog 255 xs w fun e w'=>∃ v',e=.returned v'/\(∃ b:ByteArray,b.data.toList=Lib.itoa n/\v'=.string b)/\Quiet w w':=fun n h0 h1 e1=>by
   subst e1
   refine (internal_strconv_Itoa n h0 h1 w (hT w hamb)).mono fun e w' ⟨h1,k,os,h2⟩=>?_
   subst h1 h2
   exact ⟨_,rfl,⟨_,rfl,rfl⟩,D5b _ _ _⟩
  unfold F7c at hg
  split at hg
  ·rename_i n
   split at hg
   ·rename_i hc
    cases hg
    simp only [Bool.and_eq_true,decide_eq_true_eq] at hc
    simp only [VRL,VR] at hx
    obtain ⟨_,_,hxs,rfl,rfl⟩:=hx
    exact (key n hc.1 hc.2 (F1h hxs)).mono fun e w' ⟨v',q1,q2,q3⟩=>⟨v',q1,by simp only [VR]; exact q2,q3⟩
   ·cases hg
  ·rename_i x _
   split at hg
   ·rename_i n hn
    obtain ⟨hc,hv⟩:=Tr.br_get0 hg
    cases hv
    have hc:=of_decide_eq_true hc
    simp only [VRL] at hx
    obtain ⟨_,_,hxs,h1,rfl⟩:=hx
    have h1:=J8 hn h1
    subst h1
    exact (key n hc.1 hc.2 (F1h hxs)).mono fun e w' ⟨v',q1,q2,q3⟩=>⟨v',q1,by simp only [VR]; exact q2,q3⟩
   ·cases hg
  ·cases hg
end Go.Proofs.Tryz
namespace Go.Proofs.Tryz
open Go.Ad
def B3m (cs:List UInt8):Bool:=cs.all (fun b=>decide (b.toNat < 128)) && decide (cs.length<=1000)
def F7e:List AV->Tr AV
 | [.str s,.str cs]=>bif B3m cs && decide (s.length<=9223372036854775807) then .leaf (.str (Lib.trimS s cs)) else .fail
 | [x,.str cs]=>match sstr? x with
  | some s=>bif B3m cs then .br (decide (s.length<=9223372036854775807)) (.leaf (.sstr (Lib.trimS s cs))) .fail else .fail
  | none=>.fail
 | _=>.fail
def E4m:List AV->Tr AV
 | [.str s,.str [c]]=>.leaf (.int .i64 (Lib.indexByte s c))
 | [x,.str [c]]=>match sstr? x with
  | some s=>.leaf (.sint .i64 (Lib.indexByte s c))
  | none=>.fail
 | _=>.fail
def F7b:List AV->Tr AV
 | [.str s]=>match Lib.atoi s with
  | some n=>bif decide (s.length<=18) then .leaf (.tuple [.int .i64 n,.nilIface]) else .fail
  | none=>.fail
 | [x]=>match sstr? x with
  | some s=>.br (decide (s.length<=18) && (Lib.atoi s).isSome) (.leaf (.tuple [.sint .i64 ((Lib.atoi s).getD 0),.nilIface])) .fail
  | none=>.fail
 | _=>.fail
def lib2:Prims:=((lib.addt 204 F7e).addt 85 E4m).addt 162 F7b
theorem ascii_of_all {b:ByteArray} (h:b.data.toList.all (fun c=>decide (c.toNat < 128))=true):∀ (j:Nat) (c:UInt8),b.data.toList[j]?=some c->c.toNat < 128:=fun j c hc=>by
 have:=List.all_eq_true.1 h c (List.mem_of_getElem? hc)
 exact of_decide_eq_true this
theorem D8x {A:Amb} (hT:Tab A):PrimOK prog A lib2:=by
 refine PrimOK.libt (PrimOK.libt (PrimOK.libt (G0g hT) func204 (by kernel_rfl) ?_) func85 (by kernel_rfl) ?_) func162 (by kernel_rfl) ?_
 ·intro args v hg ι w xs _ _ hx
  have key:∀ (b1 b2:ByteArray),B3m b2.data.toList=true->b1.data.toList.length<=9223372036854775807->xs=#[.string b1,.string b2] ->
    Calls prog 204 xs w fun e w'=>∃ v',e=.returned v'/\(∃ b:ByteArray,b.data.toList=Lib.trimS b1.data.toList b2.data.toList/\v'=.string b)/\Quiet w w':=fun b1 b2 h1 h2 e1=>by
   subst e1
   simp only [B3m,Bool.and_eq_true,decide_eq_true_eq] at h1
   have hl1:b1.data.toList.length=b1.size:=by simp
   have hl2:b2.data.toList.length=b2.size:=by simp
   refine (Any.strings_Trim_laid Tryz.lays160 (by kernel_rfl) b1 b2 w (by omega) (by omega) (ascii_of_all h1.1)).mono fun e w' ⟨h1,h2⟩=>?_
   subst h1
   exact ⟨_,rfl,⟨_,by simp,rfl⟩,⟨h2.size,h2.block,h2.tape,h2.os,h2.output⟩⟩
  unfold F7e at hg
  split at hg
  ·rename_i s cs
   cases hb:(B3m cs && decide (s.length<=9223372036854775807)) with
   | false=>rw [hb] at hg; cases hg
   | true =>
    rw [hb] at hg
    cases hg
    simp only [Bool.and_eq_true,decide_eq_true_eq] at hb
    simp only [VRL,VR] at hx
    obtain ⟨_,_,hxs,⟨b1,rfl,rfl⟩,_,_,rfl,⟨b2,rfl,rfl⟩,rfl⟩:=hx
    exact (key b1 b2 hb.1 hb.2 (B4x hxs)).mono fun e w' ⟨v',q1,q2,q3⟩=>⟨v',q1,by simp only [VR]; exact q2,q3⟩
  ·rename_i x cs _
   split at hg
   ·rename_i s hs
    cases hb:B3m cs with
    | false=>rw [hb] at hg; cases hg
    | true =>
     rw [hb] at hg
     obtain ⟨h1,h2⟩:=Tr.br_get0 hg
     cases h2
     rw [decide_eq_true_eq] at h1
     simp only [VRL] at hx
     obtain ⟨_,_,hxs,q1,_,_,rfl,q2,rfl⟩:=hx
     obtain ⟨b1,rfl,rfl⟩:=N8 hs q1
     simp only [VR] at q2
     obtain ⟨b2,rfl,rfl⟩:=q2
     exact (key b1 b2 hb h1 (B4x hxs)).mono fun e w' ⟨v',q1,q2,q3⟩=>⟨v',q1,by simp only [VR]; exact q2,q3⟩
   ·cases hg
  ·cases hg
 ·intro args v hg ι w xs _ _ hx
  have key:∀ (b1 b2:ByteArray) (c:UInt8),b2.data.toList=[c]->xs=#[.string b1,.string b2] ->
    Calls prog 85 xs w fun e w'=>∃ v',e=.returned v'/\v'=.int .i64 (Lib.indexByte b1.data.toList c)/\Quiet w w':=fun b1 b2 c hc e1=>by
   subst e1
   obtain ⟨⟨l2⟩⟩:=b2
   simp only at hc
   subst hc
   refine (Tryz.strings_Index_one b1 c w).mono fun e w' ⟨h1,h2⟩=>?_
   subst h1 h2
   exact ⟨_,rfl,rfl,Quiet.refl _⟩
  unfold E4m at hg
  split at hg
  ·rename_i s c
   cases hg
   simp only [VRL,VR] at hx
   obtain ⟨_,_,hxs,⟨b1,rfl,rfl⟩,_,_,rfl,⟨b2,h2,rfl⟩,rfl⟩:=hx
   exact (key b1 b2 c h2 (B4x hxs)).mono fun e w' ⟨v',q1,q2,q3⟩=>⟨v',q1,by simp only [VR]; exact q2,q3⟩
  ·rename_i x c _
   split at hg
   ·rename_i s hs
    cases hg
    simp only [VRL] at hx
    obtain ⟨_,_,hxs,q1,_,_,rfl,q2,rfl⟩:=hx
    obtain ⟨b1,rfl,rfl⟩:=N8 hs q1
    simp only [VR] at q2
    obtain ⟨b2,h2,rfl⟩:=q2
    exact (key b1 b2 c h2 (B4x hxs)).mono fun e w' ⟨v',q1,q2,q3⟩=>⟨v',q1,by simp only [VR]; exact q2,q3⟩
   ·cases hg
  ·cases hg
 ·intro args v hg ι w xs _ _ hx
  have key:∀ (b1:ByteArray) (n:Int),b1.data.toList.length<=18->Lib.atoi b1.data.toList=some n->xs=#[.string b1] ->
    Calls prog 162 xs w fun e w'=>∃ v',e=.returned v'/\v'=.tuple #[.int .i64 n,.nilIface]/\Quiet w w':=fun b1 n h1 h2 e1=>by
   subst e1
   have hl1:b1.data.toList.length=b1.size:=by simp
   refine (Tryz.strconv_Atoi b1 n (by omega) h2 w).mono fun e w' ⟨h1',t,h2'⟩=>?_
   subst h1' h2'
   have hb:=Go.Joins.below_bytesWorld w.heap.size w 5 t (Nat.le_refl _)
   exact ⟨_,rfl,rfl,⟨hb.size,hb.block,hb.tape,hb.os,hb.output⟩⟩
  unfold F7b at hg
  split at hg
  ·rename_i s
   split at hg
   ·rename_i n hn
    cases hb:decide (s.length<=18) with
    | false=>rw [hb] at hg; cases hg
    | true =>
     rw [hb] at hg
     cases hg
     simp only [VRL,VR] at hx
     obtain ⟨_,_,hxs,⟨b1,rfl,rfl⟩,rfl⟩:=hx
     refine (key b1 n (of_decide_eq_true hb) hn (F1h hxs)).mono fun e w' ⟨v',q1,q2,q3⟩=>⟨v',q1,?_,q3⟩
     subst q2
     simp only [VR,VRL]
     exact ⟨_,rfl,_,_,rfl,rfl,_,_,rfl,rfl,rfl⟩
   ·cases hg
  ·rename_i x _
   split at hg
   ·rename_i s hs
    obtain ⟨h1,h2⟩:=Tr.br_get0 hg
    cases h2
    simp only [Bool.and_eq_true,decide_eq_true_eq] at h1
    simp only [VRL] at hx
    obtain ⟨_,_,hxs,q1,rfl⟩:=hx
    obtain ⟨b1,rfl,rfl⟩:=N8 hs q1
    obtain ⟨n,hn⟩:=Option.isSome_iff_exists.1 h1.2
    refine (key b1 n h1.1 hn (F1h hxs)).mono fun e w' ⟨v',q1,q2,q3⟩=>⟨v',q1,?_,q3⟩
    subst q2
    rw [hn]
    simp only [VR,VRL]
    exact ⟨_,rfl,_,_,rfl,rfl,_,_,rfl,rfl,rfl⟩
   ·cases hg
  ·cases hg
end Go.Proofs.Tryz
namespace Go.Proofs.Tryz
open Go.Ad
def dr (n:Nat):List Pt:=List.replicate n .drop
def dd8:List OP:=List.replicate 8 .dead
abbrev W (n:Int):Int:=IntKind.i64.wrap n
def I5 (s:List UInt8):Bool:=decide (s.length < 2 ^ 62)
theorem E2y {n:Int} (h0:-9223372036854775808<=n) (h1:n<=9223372036854775807):W n=n:=wrap64 h0 h1
theorem C3i {i:Nat} (h:i < 2 ^ 62):W ((i:Int)+1)=((i+1:Nat):Int):=by rw [E2y (by omega) (by omega)]; omega
theorem G8s {b b':Bool} (h:b'=b) (ι:Emb) (x:Value) (hx:VR ι (.bool b') x):VR ι (.sbool b) x:=by subst h; simpa only [VR] using hx
theorem G8t {k:IntKind} {n n':Int} (h:n'=n) (ι:Emb) (x:Value) (hx:VR ι (.int k n') x):VR ι (.sint k n) x:=by subst h; simpa only [VR] using hx
def B1x (c:Int):Bool:=(decide (c >= 65) && decide (c<=90)) || (decide (c >= 97) && decide (c<=122))
def C0u (c:Int):Bool:=decide (c >= 48) && decide (c<=57)
theorem G6e (c:Int):(D5 prog lib2 60).call 91 [.sint .u8 c] (Bg 8) F9 =
  brK (decide (c >= 65)) (brK (decide (c<=90)) (some (.bool true)) (brK (decide (c >= 97)) (some (.sbool (decide (c<=122)))) (some (.bool false)))) (brK (decide (c >= 97)) (some (.sbool (decide (c<=122)))) (some (.bool false))):=by kernel_rfl
theorem G6k (c:Int):(D5 prog lib2 60).call 97 [.sint .u8 c] (Bg 8) F9 =
  brK (decide (c >= 97)) (brK (decide (c<=122)) (some (.bool true)) (brK (decide (c >= 65)) (some (.sbool (decide (c<=90)))) (some (.bool false)))) (brK (decide (c >= 65)) (some (.sbool (decide (c<=90)))) (some (.bool false))):=by kernel_rfl
theorem G6f (c:Int):(D5 prog lib2 60).call 92 [.sint .u8 c] (Bg 8) F9=brK (decide (c >= 48)) (some (.sbool (decide (c<=57)))) (some (.bool false)):=by kernel_rfl
def A5g (b:Bool) (v:AV):Prop:=v=.bool b \/ v=.sbool b
theorem A0z {b:Bool} {v:AV} (h:A5g b v) (ι:Emb) (x:Value) (hx:VR ι v x):VR ι (.sbool b) x:=by
 rcases h with rfl | rfl
 ·exact G8s rfl ι x hx
 ·exact hx
theorem B0e {b:Bool} {v:AV} (h:A5g b v):below 0 v=true:=by rcases h with rfl | rfl <;> rfl
theorem V9 {b:Bool} {v:AV} (h:A5g b v):F5 0 v=true:=by rcases h with rfl | rfl <;> rfl
def R3 (n:Int) (v:AV):Prop:=v=.int .i64 n \/ v=.sint .i64 n
theorem K4 {n:Int} {v:AV} (h:R3 n v) (ι:Emb) (x:Value) (hx:VR ι v x):VR ι (.sint .i64 n) x:=by
 rcases h with rfl | rfl
 ·exact G8t rfl ι x hx
 ·exact hx
theorem A6h {n:Int} {v:AV} (h:R3 n v):below 0 v=true:=by rcases h with rfl | rfl <;> rfl
theorem H6 {n:Int} {v:AV} (h:R3 n v):F5 0 v=true:=by rcases h with rfl | rfl <;> rfl
theorem C4y:∀ c:Int,(∃ v,(D5 prog lib2 60).call 91 [.sint .u8 c] (Bg 8) F9=some v/\A5g (B1x c) v)/\(∃ v,(D5 prog lib2 60).call 97 [.sint .u8 c] (Bg 8) F9=some v/\A5g (B1x c) v) /\
  (∃ v,(D5 prog lib2 60).call 92 [.sint .u8 c] (Bg 8) F9=some v/\A5g (C0u c) v):=by
 intro c
 rw [G6e,G6k,G6f]
 unfold B1x C0u A5g
 cases decide (c >= 65) <;> cases decide (c<=90) <;> cases decide (c >= 97) <;> cases decide (c<=122) <;> cases decide (c >= 48) <;> cases decide (c<=57) <;> exact ⟨⟨_,rfl,by simp⟩,⟨_,rfl,by simp⟩,_,rfl,by simp⟩
def F8t:List Lf->Tr AV
 | [.i c]=>.leaf (.sbool (B1x c))
 | _=>.fail
def G2w:List Lf->Tr AV
 | [.i c]=>.leaf (.sbool (C0u c))
 | _=>.fail
def pB:Prims:=((lib2.addt 91 (gP [.int .u8] F8t)).addt 97 (gP [.int .u8] F8t)).addt 92 (gP [.int .u8] G2w)
section
variable {A:Amb} (hT:Tab A) (hG:gN prog<=A.G)
include hT hG
theorem F8n:PrimOK prog A pB:=by
 have h0:=D8x hT
 refine PrimOK.addP F7 F8 h0 (PrimOK.addP F7 F8 h0 (PrimOK.addP F7 F8 h0 h0 hG func91 (by kernel_rfl) ?_) hG func97 (by kernel_rfl) ?_) hG func92 (by kernel_rfl) ?_
 all_goals
  intro ls v hv
  unfold F8t at hv <;> skip
 ·split at hv
  ·rename_i c
   cases hv
   obtain ⟨v',h1,h2⟩:=(C4y c).1
   exact ⟨rfl,60,v',by rw [gsz]; exact h1,B0e h2,A0z h2⟩
  ·cases hv
 ·split at hv
  ·rename_i c
   cases hv
   obtain ⟨v',h1,h2⟩:=(C4y c).2.1
   exact ⟨rfl,60,v',by rw [gsz]; exact h1,B0e h2,A0z h2⟩
  ·cases hv
 ·unfold G2w at hv
  split at hv
  ·rename_i c
   cases hv
   obtain ⟨v',h1,h2⟩:=(C4y c).2.2
   exact ⟨rfl,60,v',by rw [gsz]; exact h1,B0e h2,A0z h2⟩
  ·cases hv
end
def C3v (c:Int):Int:=if B1x c || C0u c then 0 else 3
def G8 (s:List UInt8):Int:=if s.length > 24 then 17 else if s.length=0 \/ B1x (bAt s 0)=false then 3 else U1 (fun i=>C3v (bAt s i)) s.length
def E3o:Code:=f43.body.getD .skip
def E3p:Code:=f47.body.getD .skip
def D3u:Code:=I9 (J7 0 E3o)
def D3w:Code:=I9 (J7 0 E3p)
def byF (s:List UInt8):Nat->Int:=fun i=>((s.getD i 0).toNat:Int)
theorem D4g {α:Type} (b:Bool) (t f:Option α):brK b t f=if b=true then t else f:=by cases b <;> rfl
theorem SBs:(∀ a b:Bool,((a && b)=true)=(a=true/\b=true))/\(∀ a b:Bool,((a || b)=true)=(a=true \/ b=true))/\(∀ a:Bool,((!a)=true)=(a=false))/\(∀ a b:Bool,((a && b)=false)=(a=false \/ b=false)) /\
  (∀ a b:Bool,((a || b)=false)=(a=false/\b=false))/\(∀ a:Bool,((!a)=false)=(a=true))/\(∀ (p:Prop) [Decidable p],(decide p=true)=p)/\(∀ (p:Prop) [Decidable p],(decide p=false)=¬p) /\
  (∀ {α:Type} [BEq α] [LawfulBEq α] (a b:α),((a == b)=true) ↔ (a=b))/\(∀ {α:Type} [BEq α] [LawfulBEq α] (a b:α),((a != b)=true) ↔ (a ≠ b))/\(∀ {α:Type} [BEq α] [LawfulBEq α] (a b:α),((a == b)=false) ↔ (a ≠ b))/\(∀ {α:Type} [BEq α] [LawfulBEq α] (a b:α),((a != b)=false) ↔ (a=b)) /\
  (∀ b:Bool,(b && true)=b)/\(∀ b:Bool,(b && false)=false)/\(∀ b:Bool,(true && b)=b)/\(∀ b:Bool,(false && b)=false)/\(∀ b:Bool,(b || true)=true)/\(∀ b:Bool,(b || false)=b)/\(∀ b:Bool,(true || b)=true)/\(∀ b:Bool,(false || b)=b)/\(∀ {α:Type} (a b:α),(a ≠ b)=¬(a=b)) :=
 ⟨by simp,by simp,by simp,by simp,by simp,by simp,by simp,by simp,fun _ _=>beq_iff_eq,fun _ _=>bne_iff_ne,fun _ _=>beq_eq_false_iff_ne,fun _ _=>bne_eq_false_iff_eq,by simp,by simp,by simp,by simp,by simp,by simp,by simp,by simp,by simp⟩
theorem A8 {α:Type} {b:Bool} {t f r:Option α} (h:b=true) (h2:t=r):brK b t f=r:=by subst h; exact h2
theorem C8 {α:Type} {b:Bool} {t f r:Option α} (h:b=false) (h2:f=r):brK b t f=r:=by subst h; exact h2
theorem Y5 {α:Type} {b:Bool} {x y:α} (h:b=true):cond b x y=x:=by rw [h]; rfl
theorem Y4 {α:Type} {b:Bool} {x y:α} (h:b=false):cond b x y=y:=by rw [h]; rfl
theorem exV {α:Type} {o:Option α} {p:α->Prop} {v:α} (h:o=some v) (h2:p v):∃ v,o=some v/\p v:=⟨v,h,h2⟩
theorem I4 {i:Nat} {N:Nat} (h:i<=N) (hN:N < 2 ^ 62):W ((i:Int)+1)=((i+1:Nat):Int):=C3i (by omega)
def sp43:SP:=⟨dr 17++[.row 8,.int .i64,.int .i64]++dr 12,dd8++[.arr [] .u8 5]⟩
def G6q:SP:=⟨dr 2++[.int .i64]++dr 29,dd8++[.arr [] .u8 5]⟩
def G6p:SP:=⟨dr 32,dd8++[.arr [] .u8 5]⟩
def D9x:AEx->SP
 | .ret=>G6q
 | .normal=>sp43
 | _=>G6p
def sp47:SP:=⟨[.str,.drop,.drop,.int .i64]++dr 35,dd8⟩
def G6s:SP:=⟨[.drop,.drop,.int .i64]++dr 36,dd8⟩
def G6r:SP:=⟨dr 39,dd8⟩
def D9z:AEx->SP
 | .ret=>G6s
 | .normal=>sp47
 | _=>G6r
theorem F4x (m:Nat) (i:Int) (f:Nat->Int):F3 prog (D5 prog pB 60) (pB.blk 43) D3u (sp43.rho [.n m,.i m,.i i,.n m,.f f]) (sp43.heap [.n m,.i m,.i i,.n m,.f f]) (H9 D9x 9 []) =
  brK (decide (i < (m:Int))) (brK (decide (0<=i/\i < (m:Int)) && decide (0<=0)) (brK (decide (0+i.toNat < m)) (brK (!B1x (f (0+i.toNat))) (brK (!C0u (f (0+i.toNat))) (some (.ret,[.i 3,.n m,.f f])) (some (.normal,[.n m,.i m,.i (W (i+1)),.n m,.f f]))) (some (.normal,[.n m,.i m,.i (W (i+1)),.n m,.f f]))) none) none) (some (.exit 0,[.n m,.f f])):=by kernel_rfl
theorem F4z (s:List UInt8) (i:Int):F3 prog (D5 prog pB 60) (pB.blk 47) D3w (sp47.rho [.s s,.i i]) (sp47.heap [.s s,.i i]) (H9 D9z 8 []) =
  brK (decide (i < (s.length:Int))) (brK (decide (0<=i/\i < (s.length:Int))) (brK (!B1x ((s.getD i.toNat 0).toNat:Int)) (brK (decide (0<=i/\i < (s.length:Int))) (brK (decide (((s.getD i.toNat 0).toNat:Int) < 48)) (some (.ret,[.i 3])) (brK (decide (0<=i/\i < (s.length:Int))) (brK (decide (((s.getD i.toNat 0).toNat:Int) > 57)) (some (.ret,[.i 3])) (some (.normal,[.s s,.i (W (i+1))]))) none)) none) (some (.normal,[.s s,.i (W (i+1))]))) none) (some (.exit 0,[])):=by kernel_rfl
def B9d (s:List UInt8) (n:Nat):Bool:=decide (C3v (bAt s n)=0)
theorem D9f (s:List UInt8) (n:Nat):B9d s n=(B1x (bAt s n) || C0u (bAt s n)):=by
 unfold B9d C3v
 cases B1x (bAt s n) || C0u (bAt s n) <;> simp
theorem G2d (s:List UInt8) (hs:I5 s=true) (n:Nat) (hn:n<=s.length):F3 prog (D5 prog pB 60) (pB.blk 43) D3u (sp43.rho [.n s.length,.i s.length,.i n,.n s.length,.f (byF s)]) (sp43.heap [.n s.length,.i s.length,.i n,.n s.length,.f (byF s)]) (H9 D9x 9 []) =
  some (if n < s.length then (bif B9d s n then (.normal,[.n s.length,.i s.length,.i ((n+1:Nat):Int),.n s.length,.f (byF s)]) else (.ret,[.i 3,.n s.length,.f (byF s)])) else (.exit 0,[.n s.length,.f (byF s)])):=by
 have hs:s.length < 2 ^ 62:=of_decide_eq_true hs
 rw [F4x,I4 hn hs,D9f]
 simp only [D4g,Int.toNat_natCast,Nat.zero_add,show byF s n=bAt s n from rfl]
 by_cases h:n < s.length
 ·have h1:(n:Int) < (s.length:Int):=by omega
  cases B1x (bAt s n) <;> cases C0u (bAt s n) <;> simp [h,h1]
 ·have h1:¬ (n:Int) < (s.length:Int):=by omega
  simp [h,h1]
theorem G2f (s:List UInt8) (hs:I5 s=true) (n:Nat) (hn:n<=s.length):F3 prog (D5 prog pB 60) (pB.blk 47) D3w (sp47.rho [.s s,.i n]) (sp47.heap [.s s,.i n]) (H9 D9z 8 []) =
  some (if n < s.length then (bif B9d s n then (.normal,[.s s,.i ((n+1:Nat):Int)]) else (.ret,[.i 3])) else (.exit 0,[])):=by
 have hs:s.length < 2 ^ 62:=of_decide_eq_true hs
 rw [F4z,I4 hn hs,D9f]
 simp only [D4g,Int.toNat_natCast,show ((s.getD n 0).toNat:Int)=bAt s n from rfl]
 by_cases h:n < s.length
 ·have h1:(n:Int) < (s.length:Int):=by omega
  have hd:C0u (bAt s n)=(!decide (bAt s n < 48) && !decide (bAt s n > 57)):=by
   unfold C0u
   rw [show decide (bAt s n >= 48)=!decide (bAt s n < 48) by by_cases h:bAt s n < 48 <;> simp [h] <;> omega,show decide (bAt s n<=57)=!decide (bAt s n > 57) by by_cases h:bAt s n > 57 <;> simp [h] <;> omega]
  rw [hd]
  cases decide (bAt s n < 48) <;> cases decide (bAt s n > 57) <;> cases B1x (bAt s n) <;> simp [h,h1]
 ·have h1:¬ (n:Int) < (s.length:Int):=by omega
  simp [h,h1]
def B3z:List Lf->List UInt8
 | [.n m,_,_,_,.f f]=>(List.range m).map fun i=>(f i).toNat.toUInt8
 | _=>[]
def C9e:List Lf->List UInt8
 | [.s s,_]=>s
 | _=>[]
theorem E3q (s:List UInt8) (a b c:Lf):B3z [.n s.length,a,b,c,.f (byF s)]=s:=by
 refine List.ext_getElem (by simp [B3z]) fun i h1 h2=>?_
 simp [B3z,byF,List.getD_eq_getElem?_getD,h2]
abbrev L43 (s:List UInt8) (n:Nat):List Lf:=[.n s.length,.i s.length,.i n,.n s.length,.f (byF s)]
abbrev L47 (s:List UInt8) (n:Nat):List Lf:=[.s s,.i n]
def ivS (s:List UInt8):Prop:=I5 s=true
def G2r:List Lf->Nat->List Lf
 | [m,_,_,_,f],_=>[.i 3,m,f]
 | _,_=>[]
def G2t:List Lf->List Lf
 | [m,_,_,_,f]=>[m,f]
 | _=>[]
def G2s (_:List Lf) (_:Nat):List Lf:=[.i 3]
def G2u (_:List Lf):List Lf:=[]
def D0z (s:List UInt8):Nat:=s.length
def E7o:Prims:=(pB.addb 43 0 (hookP sp43 9 [] (fdT D9x 0 .ret (.exit 0) B3z L43 G2r G2t D0z B9d ivS))).addb 47 0 (hookP sp47 8 [] (fdT D9z 0 .ret (.exit 0) C9e L47 G2s G2u D0z B9d ivS))
section
variable {A:Amb} (hT:Tab A) (hG:gN prog<=A.G)
include hT hG
theorem F4j:PrimOK prog A E7o:=by
 have h0:=F8n hT hG
 have h1:=SEB.findR (id:=0) (ds:=[]) (dec:=B3z) (sp:=sp43) (sq:=D9x) (m:=9) (eb:=.ret) (ee:=.exit 0) (L:=L43) (Lb:=G2r) (Le:=G2t) (N:=D0z) (p:=B9d) (Inv:=ivS) (k:=60) F7 F8 h0 h0 func43 (show f43.body=some E3o by kernel_rfl) (body:=D3u) (by kernel_rfl)
  rfl rfl rfl rfl (by simp) (by simp) (fun s n=>⟨⟨.inr rfl,.inr rfl,.inr rfl,.inr rfl,.inr rfl,.inr rfl,.inr rfl,.inr rfl,.inr rfl,trivial⟩,⟨.inr rfl,.inr rfl,.inr rfl,.inr rfl,.inr rfl,.inr rfl,.inr rfl,.inr rfl,.inr rfl,trivial⟩⟩) G2d
 exact SEB.findR (id:=0) (ds:=[]) (dec:=C9e) (sp:=sp47) (sq:=D9z) (m:=8) (eb:=.ret) (ee:=.exit 0) (L:=L47) (Lb:=G2s) (Le:=G2u) (N:=D0z) (p:=B9d) (Inv:=ivS) (k:=60) F7 F8 h0 h1 func47 (show f47.body=some E3p by kernel_rfl) (body:=D3w) (by kernel_rfl)
  rfl rfl rfl rfl (by simp) (by simp) (fun s n=>⟨⟨.inr rfl,.inr rfl,.inr rfl,.inr rfl,.inr rfl,.inr rfl,.inr rfl,.inr rfl,trivial⟩,⟨.inr rfl,.inr rfl,.inr rfl,.inr rfl,.inr rfl,.inr rfl,.inr rfl,.inr rfl,trivial⟩⟩) G2f
end
abbrev C5w (s:List UInt8) (b0:Bool) (c e:Bool):Option AV:=brK (decide ((s.length:Int) > 24)) (some (.int .i64 17)) (brK b0 (some (.int .i64 3)) (brK (decide ((0:Int)<=0/\0 < (s.length:Int))) (brK (!B1x ((s.getD 0 0).toNat:Int)) (some (.int .i64 3)) (brK c (brK e (some (.int .i64 0)) (some (.sint .i64 3))) none)) none))
theorem G5q (s:List UInt8):(D5 prog E7o 60).call 43 [.sstr s] (Bg 8) F9=C5w s (s == []) (fdC L43 B3z ivS (L43 s 0)) (fdE B9d D0z (B3z (L43 s 0))):=by kernel_rfl
theorem G5t (s:List UInt8):(D5 prog E7o 60).call 47 [.sstr s] (Bg 8) F9=C5w s ((s.length:Int) == 0) (fdC L47 C9e ivS (L47 s 0)) (fdE B9d D0z (C9e (L47 s 0))):=by kernel_rfl
theorem G6z (s:List UInt8) (N:Nat):U1 (fun i=>C3v (bAt s i)) N=0 \/ U1 (fun i=>C3v (bAt s i)) N=3:=by
 unfold U1
 split
 ·exact .inl rfl
 ·generalize G5 _ _ _=k
  show C3v (bAt s k)=0 \/ C3v (bAt s k)=3
  unfold C3v; split <;> simp
theorem G7d {o:Option AV} {n:Int} (h:o=some (.int .i64 n) \/ o=some (.sint .i64 n)):∃ v,o=some v/\R3 n v:=by
 rcases h with h | h
 ·exact ⟨_,h,.inl rfl⟩
 ·exact ⟨_,h,.inr rfl⟩
theorem C2n {s:List UInt8} {b0:Bool} (hb:b0=decide (s.length=0)):∃ v,C5w s b0 true (fdE B9d D0z s)=some v/\R3 (G8 s) v:=by
 subst hb
 refine G7d ?_
 rw [Z5 (fun i=>C3v (bAt s i)) (fun i _=>rfl)]
 unfold C5w G8
 simp only [D4g,show ((s.getD 0 0).toNat:Int)=bAt s 0 from rfl,show D0z s=s.length from rfl]
 by_cases h1:s.length > 24
 ·have:(s.length:Int) > 24:=by omega
  simp [h1,this]
 ·have h1':¬ (s.length:Int) > 24:=by omega
  by_cases h2:s.length=0
  ·simp [h2]
  ·have h2':0 < (s.length:Int):=by omega
   have h2'':0 < s.length:=by omega
   cases B1x (bAt s 0) with
   | false=>simp [h1,h1',h2,h2'']
   | true=>rcases G6z s s.length with h | h <;> simp [h1,h1',h2,h2'',h]
theorem F8k {s:List UInt8} (hs:I5 s=true):(∃ v,(D5 prog E7o 60).call 43 [.sstr s] (Bg 8) F9=some v/\R3 (G8 s) v)/\∃ v,(D5 prog E7o 60).call 47 [.sstr s] (Bg 8) F9=some v/\R3 (G8 s) v:=by
 have d43:B3z (L43 s 0)=s:=E3q s _ _ _
 have d47:C9e (L47 s 0)=s:=rfl
 rw [G5q,G5t,I8 d43 hs,I8 d47 hs,d43,d47]
 exact ⟨C2n (by cases s <;> simp),C2n (by cases s <;> simp <;> omega)⟩
theorem C3q {A:Amb} (hG:gN prog<=A.G) {prims prims0:Prims} (h0:PrimOK prog A prims0) (hp:PrimOK prog A prims) {f:FuncId} {fn:Func} (ps:List Pt) (T:List Lf->Tr AV) (hf:prog.funcs[f]?=some fn) (hc:fn.body.isSome=true)
  (h:∀ ls v,(T ls).get=some v->Q3 0 (mkT ps ls).1=true/\∃ v',(D5 prog prims0 60).call f (mkT ps ls).1 (Bg 8) F9=some v'/\below 0 v'=true/\∀ ι x,VR ι v' x->VR ι v x):PrimOK prog A (prims.addt f (gP ps T)) :=
 PrimOK.addP F7 F8 h0 hp hG hf hc fun ls v hv=>by
  obtain ⟨h1,v',h2,h3,h4⟩:=h ls v hv
  exact ⟨h1,60,v',by rw [gsz]; exact h2,h3,h4⟩
def TNm:List Lf->Tr AV
 | [.s s]=>.br (I5 s) (.leaf (.sint .i64 (G8 s))) .fail
 | _=>.fail
def pNm:Prims:=(pB.addt 43 (gP [.str] TNm)).addt 47 (gP [.str] TNm)
theorem D8d {ls:List Lf} {v:AV} (h:(TNm ls).get=some v):∃ s,ls=[.s s]/\I5 s=true/\v=.sint .i64 (G8 s):=by
 unfold TNm at h
 split at h
 ·obtain ⟨hs,hv⟩:=Tr.br1 h
  cases hv
  exact ⟨_,rfl,hs,rfl⟩
 ·cases h
theorem C6i {A:Amb} (hT:Tab A) (hG:gN prog<=A.G):PrimOK prog A pNm:=by
 have h0:=F4j hT hG
 refine C3q hG h0 (C3q hG h0 (F8n hT hG) [.str] TNm func43 (by kernel_rfl) fun ls v hv=>?_) [.str] TNm func47 (by kernel_rfl) fun ls v hv=>?_
 ·obtain ⟨s,rfl,hs,rfl⟩:=D8d hv
  obtain ⟨v',h1,h2⟩:=(F8k hs).1
  exact ⟨rfl,v',h1,A6h h2,K4 h2⟩
 ·obtain ⟨s,rfl,hs,rfl⟩:=D8d hv
  obtain ⟨v',h1,h2⟩:=(F8k hs).2
  exact ⟨rfl,v',h1,A6h h2,K4 h2⟩
end Go.Proofs.Tryz
namespace Go.Proofs.Tryz
open Go.Ad
def Q4:Par Drw where
 get:=fun | [.agg l]=>C9o l | _=>none
 av:=fun x=>[.agg x.av]
 ok:=by
  intro l x h ι vs hv
  split at h
  ·simp only [VRL,VR] at hv ⊢
   obtain ⟨y,r,e,⟨a,q1,q2⟩,q3⟩:=hv
   exact ⟨y,r,e,⟨a,q1,C5f h q2⟩,q3⟩
  ·cases h
 free:=fun _=>rfl
def A1b:Par Fea where
 get:=fun | [.agg l]=>C9x l | _=>none
 av:=fun x=>[.agg x.av]
 ok:=by
  intro l x h ι vs hv
  split at h
  ·simp only [VRL,VR] at hv ⊢
   obtain ⟨y,r,e,⟨a,q1,q2⟩,q3⟩:=hv
   exact ⟨y,r,e,⟨a,q1,C5h h q2⟩,q3⟩
  ·cases h
 free:=fun _=>rfl
def C6k:Par Frm where
 get:=fun | [.agg l]=>D4v l | _=>none
 av:=fun x=>[.agg x.av]
 ok:=by
  intro l x h ι vs hv
  split at h
  ·simp only [VRL,VR] at hv ⊢
   obtain ⟨y,r,e,⟨a,q1,q2⟩,q3⟩:=hv
   exact ⟨y,r,e,⟨a,q1,D8p h q2⟩,q3⟩
  ·cases h
 free:=fun _=>rfl
def C6j:Par Dim where
 get:=fun | [.agg l]=>(E3r l).map fun x=>(true,x) | _=>none
 av:=fun x=>[.agg x.av]
 ok:=by
  intro l x h ι vs hv
  split at h
  ·simp only [VRL,VR] at hv ⊢
   simp only [Option.map_eq_some_iff,pI,true_and] at h
   obtain ⟨x',h1,rfl⟩:=h
   obtain ⟨y,r,e,⟨a,q1,q2⟩,q3⟩:=hv
   exact ⟨y,r,e,⟨a,q1,C5e h1 q2⟩,q3⟩
  ·cases h
 free:=fun _=>rfl
def A8w:Par (Fea × Frm) where
 get:=fun | [.agg l,.agg m]=>(match C9x l,D4v m with | some (a,x),some (b,y)=>some (a && b,(x,y)) | _,_=>none) | _=>none
 av:=fun x=>[.agg x.1.av,.agg x.2.av]
 ok:=by
  intro l x h ι vs hv
  split at h
  ·split at h
   ·rename_i h1 h2
    simp only [sI,pI,Bool.and_eq_true] at h
    obtain ⟨⟨rfl,rfl⟩,rfl⟩:=h
    simp only [VRL,VR] at hv ⊢
    obtain ⟨y,r,e,⟨a,q1,q2⟩,y2,r2,e2,⟨a2,q4,q5⟩,q3⟩:=hv
    exact ⟨y,r,e,⟨a,q1,C5h h1 q2⟩,y2,r2,e2,⟨a2,q4,D8p h2 q5⟩,q3⟩
   ·cases h
  ·cases h
 free:=fun _=>rfl
def G1b {α:Type} [Inhabited α] (fv:α->List FV) (es:Nat):Par (List α) where
 get:=fun | [a]=>B3f fv es a | _=>none
 av:=fun l=>[.flist l.length (A7 fv l) es]
 ok:=by
  intro l x h ι vs hv
  split at h
  ·simp only [VRL] at hv ⊢
   obtain ⟨y,r,e,q1,q2⟩:=hv
   exact ⟨y,r,e,A4m h q1,q2⟩
  ·cases h
 free:=fun _=>rfl
abbrev D9i:Par (List Dim):=G1b Dim.fv 5
theorem J5 {A:Amb} (hG:gN prog<=A.G) {prims prims0:Prims} (h0:PrimOK prog A prims0) (hp:PrimOK prog A prims) {f:FuncId} {fn:Func} {β:Type} (p:Par β) (V:β->Tr AV) (hf:prog.funcs[f]?=some fn) (hc:fn.body.isSome=true)
  (h:∀ x v,(V x).get=some v->∃ v',(D5 prog prims0 60).call f (p.av x) (Bg 8) F9=some v'/\F5 0 v'=true/\∀ ι y,VR ι v' y->VR ι v y):PrimOK prog A (prims.addt f (R6 p V)) :=
 PrimOK.addPar p V F7 F8 h0 hp hG hf hc fun x v hv=>by
  obtain ⟨v',h1,h2,h3⟩:=h x v hv
  exact ⟨v',h2,h3,60,by rw [gsz]; exact h1⟩
end Go.Proofs.Tryz
namespace Go.Proofs.Tryz
open Go.Ad
def D7 (x:Fea):AObj:=.cells x.av 0 true 49
def R5 (x:Frm):AObj:=.cells x.av 0 true 115
def A9 (x:Drw):AObj:=.cells x.av 0 true 25
def A2g:AObj->Fea
 | .cells l _ _ _=>((C9x l).map (·.2)).getD default
 | _=>default
def D1j:AObj->Frm
 | .cells l _ _ _=>((D4v l).map (·.2)).getD default
 | _=>default
def I1:AObj->Drw
 | .cells l _ _ _=>((C9o l).map (·.2)).getD default
 | _=>default
theorem F1t (x:Fea):C9x x.av=some (D8 (okR Frm.fv x.l.length (A7 Frm.fv x.l)),x):=by
 simp [C9x,Fea.av,sstr?,i64?,M3,F7a,B3f,J3 Frm.inj]
theorem F2n (x:Frm):D4v x.av=some (D8 (okR Dat.fv x.l.length (A7 Dat.fv x.l)),x):=by
 simp [D4v,Frm.av,sbool?,i64?,M3,F6s,B3f,J3 Dat.inj]
theorem F1o (x:Drw):C9o x.av=some (D8 (okR Fea.fv x.l.length (A7 Fea.fv x.l)) && D8 (okR Dim.fv x.m.length (A7 Dim.fv x.m)),x):=by
 simp [C9o,Drw.av,sstr?,F6y,D8l,B3f,J3 Fea.inj,J3 Dim.inj]
theorem O3 (x:Fea):A2g (D7 x)=x:=by simp [A2g,D7,F1t]
theorem B9a (x:Frm):D1j (R5 x)=x:=by simp [D1j,R5,F2n]
theorem E8 (x:Drw):I1 (A9 x)=x:=by simp [I1,A9,F1o]
end Go.Proofs.Tryz
namespace Go.Proofs.Tryz
open Go.Ad
abbrev F6 (x:Fea) (i:Nat):Frm:=x.l.getD i default
abbrev U6 (x:Frm) (i:Nat):Dat:=x.l.getD i default
def C4g:Code:=I9 (J7 2 (f36.body.getD .skip))
def sp36b:SP:=⟨dr 1++[.is (.ptr (some (8,0)))]++dr 1++[.int .i64]++[.int .i64]++dr 48,dd8++[.any]⟩
def C6z:AEx->SP
 | .ret=>⟨dr 2++[.bool]++dr 50,dd8++[.any]⟩
 | .exit 2=>⟨dr 1++[.is (.ptr (some (8,0)))]++dr 1++[.int .i64]++dr 49,dd8++[.any]⟩
 | _=>sp36b
theorem E8k (x:Fea) (i n:Int):F3 prog (D5 prog pNm 60) (pNm.blk 36) C4g (sp36b.rho [.i i,.i n,.o (D7 x)]) (sp36b.heap [.i i,.i n,.o (D7 x)]) (H9 C6z 9 []) =
  brK (decide (0<=i/\i < (x.l.length:Int))) (brK (decide (n < ((x.l.getD i.toNat default).l.length:Int))) (brK (decide (0<=i/\i < (x.l.length:Int))) (brK (decide (0<=n/\n < ((x.l.getD i.toNat default).l.length:Int))) (brK (decide ((((x.l.getD i.toNat default).l.getD n.toNat default).s.length:Int) > 100)) (some (.ret,[.b false,.o (D7 x)])) (some (.normal,[.i i,.i (W (n+1)),.o (D7 x)]))) none) none) (some (.exit 2,[.i i,.o (D7 x)]))) none:=by kernel_rfl
def B4m (x:Fea × Nat) (n:Nat):List Lf:=[.i x.2,.i n,.o (D7 x.1)]
def D7b:List Lf->Nat->List Lf
 | [_,_,o],_=>[.b false,o]
 | _,_=>[]
def D7n:List Lf->List Lf
 | [i,_,o]=>[i,o]
 | _=>[]
def C0i (x:Fea × Nat):Nat:=(F6 x.1 x.2).l.length
def D1l (x:Fea × Nat) (n:Nat):Bool:=decide ((U6 (F6 x.1 x.2) n).s.length<=100)
def D0p (x:Fea × Nat):Prop:=x.2 < x.1.l.length/\(F6 x.1 x.2).l.length < 2 ^ 62/\x.1.l.length < 2 ^ 62
def A7n:List Lf->Fea × Nat
 | [.i i,_,.o o]=>(A2g o,i.toNat)
 | _=>default
theorem F5v (x:Fea × Nat) (hx:D0p x) (n:Nat) (hn:n<=C0i x):F3 prog (D5 prog pNm 60) (pNm.blk 36) C4g (sp36b.rho (B4m x n)) (sp36b.heap (B4m x n)) (H9 C6z 9 [])=some (if n < C0i x then (bif D1l x n then (.normal,B4m x (n+1)) else (.ret,D7b (B4m x 0) n)) else (.exit 2,D7n (B4m x 0))):=by
 obtain ⟨h1,h2,h3⟩:=hx
 simp only [B4m,D7b,D7n]
 rw [E8k,I4 hn h2]
 simp only [Int.toNat_natCast,Nat.zero_add]
 by_cases h:n < C0i x
 ·rw [if_pos h]
  simp only [C0i,F6,U6] at h
  simp only [D1l,F6,U6]
  by_cases h4:((x.1.l.getD x.2 default).l.getD n default).s.length<=100
  all_goals
   repeat first
    | exact rfl
    | refine A8 rfl ?_
    | refine C8 rfl ?_
    | refine A8 (by simp only [SBs]; omega) ?_
    | refine C8 (by simp only [SBs]; omega) ?_
    | exact congrArg some (Y5 (by first | (simp only [SBs]; omega) | simp)).symm
    | exact congrArg some (Y4 (by first | (simp only [SBs]; omega) | simp)).symm
 ·rw [if_neg h]
  simp only [C0i,F6,U6] at h
  repeat first
   | exact rfl
   | refine A8 rfl ?_
   | refine C8 rfl ?_
   | refine A8 (by simp only [SBs]; omega) ?_
   | refine C8 (by simp only [SBs]; omega) ?_
   | exact congrArg some (Y5 (by first | (simp only [SBs]; omega) | simp)).symm
   | exact congrArg some (Y4 (by first | (simp only [SBs]; omega) | simp)).symm
def F7j:Blk:=hookP sp36b 9 [] (fdT C6z 2 .ret (.exit 2) A7n B4m D7b D7n C0i D1l D0p)
theorem E5a {A:Amb} {q:Prims} (h0:PrimOK prog A pNm) (hq:PrimOK prog A q):PrimOK prog A (q.addb 36 2 F7j) :=
 SEB.findR (id:=2) (ds:=[]) (dec:=A7n) (sp:=sp36b) (sq:=C6z) (m:=9) (eb:=.ret) (ee:=.exit 2) (L:=B4m) (Lb:=D7b) (Le:=D7n) (N:=C0i) (p:=D1l) (Inv:=D0p) (k:=60) F7 F8 h0 hq func36 (show f36.body=some (f36.body.getD .skip) by kernel_rfl) (body:=C4g) (by kernel_rfl)
  rfl rfl rfl rfl (by simp) (by simp) (fun _ _=>⟨⟨.inr rfl,.inr rfl,.inr rfl,.inr rfl,.inr rfl,.inr rfl,.inr rfl,.inr rfl,.inr rfl,trivial⟩,⟨.inr rfl,.inr rfl,.inr rfl,.inr rfl,.inr rfl,.inr rfl,.inr rfl,.inr rfl,.inr rfl,trivial⟩⟩) F5v
theorem C1l (x:Fea × Nat):A7n (B4m x 0)=x:=by
 obtain ⟨x,i⟩:=x
 simp [A7n,B4m,O3]
theorem C1k (x:Fea) (i:Nat):A7n [Lf.i (i:Int),Lf.i 0,Lf.o (D7 x)]=(x,i):=C1l (x,i)
theorem E4b {x:Fea} {i:Nat} (h:i < x.l.length) (h6:(x.l.getD i default).l.length<=6) (h1:x.l.length < 2 ^ 62):fdC B4m A7n D0p [Lf.i (i:Int),Lf.i 0,Lf.o (D7 x)]=true:=I8 (x:=(x,i)) (C1l (x,i)) ⟨h,Nat.lt_of_le_of_lt h6 (by omega),h1⟩
def pF1:Prims:=pNm.addb 36 2 F7j
end Go.Proofs.Tryz
namespace Go.Proofs.Tryz
open Go.Ad
def C4f:Code:=I9 (J7 0 (f36.body.getD .skip))
def sp36a:SP:=⟨dr 1++[.is (.ptr (some (8,0)))]++dr 1++[.int .i64]++dr 49,dd8++[.any]⟩
def C6y:AEx->SP
 | .ret=>⟨dr 2++[.bool]++dr 50,dd8++[.any]⟩
 | .exit 0=>⟨dr 53,dd8++[.any]⟩
 | _=>sp36a
theorem E8j (x:Fea) (n:Int):F3 prog (D5 prog pF1 60) (pF1.blk 36) C4f (sp36a.rho [.i n,.o (D7 x)]) (sp36a.heap [.i n,.o (D7 x)]) (H9 C6y 9 []) =
  brK (decide (n < (x.l.length:Int))) (brK (decide (0<=n/\n < (x.l.length:Int))) (brK (decide (((x.l.getD n.toNat default).l.length:Int) > 6)) (some (.ret,[.b false,.o (D7 x)])) (brK (fdC B4m A7n D0p [Lf.i n,Lf.i 0,Lf.o (D7 x)]) (brK (fdE D1l C0i (A7n [Lf.i n,Lf.i 0,Lf.o (D7 x)])) (some (.normal,[.i (W (n+1)),.o (D7 x)])) (some (.ret,[.b false,.o (D7 x)]))) none)) none) (some (.exit 0,[.o (D7 x)])):=by kernel_rfl
def C0d (x:Fea) (n:Nat):List Lf:=[.i n,.o (D7 x)]
def D7a:List Lf->Nat->List Lf
 | [_,o],_=>[.b false,o]
 | _,_=>[]
def D7m:List Lf->List Lf
 | [_,o]=>[o]
 | _=>[]
def C0h (x:Fea):Nat:=x.l.length
def D1k (x:Fea) (n:Nat):Bool:=decide ((F6 x n).l.length<=6) && fdE D1l C0i (x,n)
def C2c (x:Fea):Prop:=x.l.length < 2 ^ 62
def A9w:List Lf->Fea
 | [_,.o o]=>A2g o
 | _=>default
theorem F5u (x:Fea) (hx:C2c x) (n:Nat) (hn:n<=C0h x):F3 prog (D5 prog pF1 60) (pF1.blk 36) C4f (sp36a.rho (C0d x n)) (sp36a.heap (C0d x n)) (H9 C6y 9 [])=some (if n < C0h x then (bif D1k x n then (.normal,C0d x (n+1)) else (.ret,D7a (C0d x 0) n)) else (.exit 0,D7m (C0d x 0))):=by
 have h1:=hx
 simp only [C2c] at h1
 simp only [C0d,D7a,D7m]
 rw [E8j,I4 hn h1]
 simp only [Int.toNat_natCast,Nat.zero_add,C1k]
 by_cases h:n < C0h x
 ·rw [if_pos h]
  simp only [C0h,F6] at h
  simp only [D1k,F6,C1k]
  by_cases h6:(x.l.getD n default).l.length<=6 <;> cases hE:fdE D1l C0i (x,n)
  all_goals
   repeat first
    | exact rfl
    | refine A8 rfl ?_
    | refine C8 rfl ?_
    | refine A8 (by simp only [SBs]; omega) ?_
    | refine C8 (by simp only [SBs]; omega) ?_
    | refine A8 (E4b h h6 h1) ?_
    | exact congrArg some (Y5 (by first | (simp only [SBs]; omega) | simp)).symm
    | exact congrArg some (Y4 (by first | (simp only [SBs]; omega) | simp)).symm
 ·rw [if_neg h]
  simp only [C0h,F6] at h
  repeat first
   | exact rfl
   | refine A8 rfl ?_
   | refine C8 rfl ?_
   | refine A8 (by simp only [SBs]; omega) ?_
   | refine C8 (by simp only [SBs]; omega) ?_
   | refine A8 (E4b h h6 h1) ?_
   | exact congrArg some (Y5 (by first | (simp only [SBs]; omega) | simp)).symm
   | exact congrArg some (Y4 (by first | (simp only [SBs]; omega) | simp)).symm
def F7i:Blk:=hookP sp36a 9 [] (fdT C6y 0 .ret (.exit 0) A9w C0d D7a D7m C0h D1k C2c)
theorem E4z {A:Amb} {q:Prims} (h0:PrimOK prog A pF1) (hq:PrimOK prog A q):PrimOK prog A (q.addb 36 0 F7i) :=
 SEB.findR (id:=0) (ds:=[]) (dec:=A9w) (sp:=sp36a) (sq:=C6y) (m:=9) (eb:=.ret) (ee:=.exit 0) (L:=C0d) (Lb:=D7a) (Le:=D7m) (N:=C0h) (p:=D1k) (Inv:=C2c) (k:=60) F7 F8 h0 hq func36 (show f36.body=some (f36.body.getD .skip) by kernel_rfl) (body:=C4f) (by kernel_rfl)
  rfl rfl rfl rfl (by simp) (by simp) (fun _ _=>⟨⟨.inr rfl,.inr rfl,.inr rfl,.inr rfl,.inr rfl,.inr rfl,.inr rfl,.inr rfl,.inr rfl,trivial⟩,⟨.inr rfl,.inr rfl,.inr rfl,.inr rfl,.inr rfl,.inr rfl,.inr rfl,.inr rfl,.inr rfl,trivial⟩⟩) F5u
theorem C1j (x:Fea):A9w [Lf.i 0,Lf.o (D7 x)]=x:=by simp [A9w,O3]
theorem F9w {x:Fea} (h1:x.l.length < 2 ^ 62):fdC C0d A9w C2c [Lf.i 0,Lf.o (D7 x)]=true:=I8 (x:=x) (C1j x) h1
def pF2:Prims:=pF1.addb 36 0 F7i
def D3s:Code:=I9 (J7 0 (f39.body.getD .skip))
def sp39:SP:=⟨[.flist 5]++dr 2++[.int .i64]++dr 35,dd8⟩
def D9w:AEx->SP
 | .ret=>⟨dr 2++[.bool]++dr 36,dd8⟩
 | .exit 0=>⟨dr 39,dd8⟩
 | _=>sp39
theorem F4w (l:List Dim) (n:Int):F3 prog (D5 prog pNm 60) (pNm.blk 39) D3s (sp39.rho [.n l.length,.fr (A7 Dim.fv l),.i n]) (sp39.heap [.n l.length,.fr (A7 Dim.fv l),.i n]) (H9 D9w 8 []) =
  brK (decide (n < (l.length:Int))) (brK (decide (0<=n/\n < (l.length:Int))) (brK (decide (((l.getD n.toNat default).f.length:Int) > 100)) (some (.ret,[.b false])) (brK (decide (0<=n/\n < (l.length:Int))) (brK (decide (((l.getD n.toNat default).t.length:Int) > 100)) (some (.ret,[.b false])) (some (.normal,[.n (l.length),.fr (fun i=>(l.getD i default).fv),.i (W (n+1))]))) none)) none) (some (.exit 0,[])):=by kernel_rfl
def L39 (x:List Dim) (n:Nat):List Lf:=[.n x.length,.fr (A7 Dim.fv x),.i n]
def F0l:List Lf->Nat->List Lf
 | [_,_,_],_=>[.b false]
 | _,_=>[]
def F0s:List Lf->List Lf
 | [_,_,_]=>[]
 | _=>[]
def N39 (x:List Dim):Nat:=x.length
def p39 (x:List Dim) (n:Nat):Bool:=decide ((x.getD n default).f.length<=100) && decide ((x.getD n default).t.length<=100)
def D5d (x:List Dim):Prop:=x.length < 2 ^ 62
def B3y:List Lf->List Dim
 | [.n m,.fr f,_]=>ofR Dim.fv m f
 | _=>[]
theorem G2c (x:List Dim) (hx:D5d x) (n:Nat) (hn:n<=N39 x):F3 prog (D5 prog pNm 60) (pNm.blk 39) D3s (sp39.rho (L39 x n)) (sp39.heap (L39 x n)) (H9 D9w 8 [])=some (if n < N39 x then (bif p39 x n then (.normal,L39 x (n+1)) else (.ret,F0l (L39 x 0) n)) else (.exit 0,F0s (L39 x 0))):=by
 have h1:=hx
 simp only [D5d] at h1
 simp only [L39,F0l,F0s]
 rw [F4w,I4 hn h1]
 simp only [Int.toNat_natCast,Nat.zero_add]
 by_cases h:n < N39 x
 ·rw [if_pos h]
  simp only [N39] at h
  simp only [p39]
  by_cases h2:(x.getD n default).f.length<=100 <;> by_cases h3:(x.getD n default).t.length<=100
  all_goals
   repeat first
    | exact rfl
    | refine A8 rfl ?_
    | refine C8 rfl ?_
    | refine A8 (by simp only [SBs]; omega) ?_
    | refine C8 (by simp only [SBs]; omega) ?_
    | exact congrArg some (Y5 (by first | (simp only [SBs]; omega) | simp)).symm
    | exact congrArg some (Y4 (by first | (simp only [SBs]; omega) | simp)).symm
 ·rw [if_neg h]
  simp only [N39] at h
  repeat first
   | exact rfl
   | refine A8 rfl ?_
   | refine C8 rfl ?_
   | refine A8 (by simp only [SBs]; omega) ?_
   | refine C8 (by simp only [SBs]; omega) ?_
   | exact congrArg some (Y5 (by first | (simp only [SBs]; omega) | simp)).symm
   | exact congrArg some (Y4 (by first | (simp only [SBs]; omega) | simp)).symm
def G3j:Blk:=hookP sp39 8 [] (fdT D9w 0 .ret (.exit 0) B3y L39 F0l F0s N39 p39 D5d)
theorem F2s {A:Amb} {q:Prims} (h0:PrimOK prog A pNm) (hq:PrimOK prog A q):PrimOK prog A (q.addb 39 0 G3j) :=
 SEB.findR (id:=0) (ds:=[]) (dec:=B3y) (sp:=sp39) (sq:=D9w) (m:=8) (eb:=.ret) (ee:=.exit 0) (L:=L39) (Lb:=F0l) (Le:=F0s) (N:=N39) (p:=p39) (Inv:=D5d) (k:=60) F7 F8 h0 hq func39 (show f39.body=some (f39.body.getD .skip) by kernel_rfl) (body:=D3s) (by kernel_rfl)
  rfl rfl rfl rfl (by simp) (by simp) (fun _ _=>⟨⟨.inr rfl,.inr rfl,.inr rfl,.inr rfl,.inr rfl,.inr rfl,.inr rfl,.inr rfl,trivial⟩,⟨.inr rfl,.inr rfl,.inr rfl,.inr rfl,.inr rfl,.inr rfl,.inr rfl,.inr rfl,trivial⟩⟩) G2c
theorem C9b (l:List Dim):B3y [Lf.n l.length,Lf.fr (A7 Dim.fv l),Lf.i 0]=l:=J3 Dim.inj l
theorem G3a {l:List Dim} (h1:l.length < 2 ^ 62):fdC L39 B3y D5d [Lf.n l.length,Lf.fr (A7 Dim.fv l),Lf.i 0]=true:=I8 (x:=l) (C9b l) h1
def pF3:Prims:=pF2.addb 39 0 G3j
end Go.Proofs.Tryz
namespace Go.Proofs.Tryz
open Go.Ad
def C5i (x:Fea):Bool:=decide (x.s.length<=100) && (decide (x.l.length<=12) && fdE D1k C0h x)
theorem G5n (x:Fea):(D5 prog pF3 60).call 36 [.agg x.av] (Bg 8) F9 =
  brK (decide ((x.s.length:Int) > 100)) (some (.bool false)) (brK (decide ((x.l.length:Int) > 12)) (some (.bool false)) (brK (fdC C0d A9w C2c [Lf.i 0,Lf.o (D7 x)]) (brK (fdE D1k C0h (A9w [Lf.i 0,Lf.o (D7 x)])) (some (.bool true)) (some (.sbool (false)))) none)):=by kernel_rfl
theorem G7n (x:Fea):∃ v,(D5 prog pF3 60).call 36 [.agg x.av] (Bg 8) F9=some v/\A5g (C5i x) v:=by
 rw [G5n]
 simp only [C1j]
 by_cases h1:x.s.length<=100 <;> by_cases h2:x.l.length<=12 <;> cases hE:fdE D1k C0h x
 all_goals
  apply exV
  focus
   repeat first
    | exact rfl
    | refine A8 rfl ?_
    | refine C8 rfl ?_
    | refine A8 (by simp only [SBs]; omega) ?_
    | refine C8 (by simp only [SBs]; omega) ?_
    | refine A8 (F9w (by omega)) ?_
  focus
   first
    | exact .inl rfl
    | exact .inr rfl
    | (exfalso; omega)
    | simp_all [A5g,C5i]
def C9y (l:List Dim):Bool:=!(decide (l.length > 10) && decide (l.length<=256) || decide (l.length > 512)) && fdE p39 N39 l
theorem G5o (l:List Dim):(D5 prog pF3 60).call 39 [D8l l] (Bg 8) F9 =
  brK (decide ((l.length:Int) > 10)) (brK (decide ((l.length:Int)<=256)) (some (.bool false)) (brK (decide ((l.length:Int) > 512)) (some (.bool false)) (brK (fdC L39 B3y D5d [Lf.n l.length,Lf.fr (A7 Dim.fv l),Lf.i 0]) (brK (fdE p39 N39 (B3y [Lf.n l.length,Lf.fr (A7 Dim.fv l),Lf.i 0])) (some (.bool true)) (some (.sbool (false)))) none))) (brK (decide ((l.length:Int) > 512)) (some (.bool false)) (brK (fdC L39 B3y D5d [Lf.n l.length,Lf.fr (A7 Dim.fv l),Lf.i 0]) (brK (fdE p39 N39 (B3y [Lf.n l.length,Lf.fr (A7 Dim.fv l),Lf.i 0])) (some (.bool true)) (some (.sbool (false)))) none)):=by kernel_rfl
theorem G7o (l:List Dim):∃ v,(D5 prog pF3 60).call 39 [D8l l] (Bg 8) F9=some v/\A5g (C9y l) v:=by
 rw [G5o]
 simp only [C9b]
 by_cases h1:l.length > 10 <;> by_cases h2:l.length<=256 <;> by_cases h3:l.length > 512 <;> cases hE:fdE p39 N39 l
 all_goals
  apply exV
  focus
   repeat first
    | exact rfl
    | refine A8 rfl ?_
    | refine C8 rfl ?_
    | refine A8 (by simp only [SBs]; omega) ?_
    | refine C8 (by simp only [SBs]; omega) ?_
    | refine A8 (G3a (by omega)) ?_
  focus
   first
    | exact .inl rfl
    | exact .inr rfl
    | (exfalso; omega)
    | simp_all [A5g,C9y]
theorem G0f {A:Amb} (hT:Tab A) (hG:gN prog<=A.G):PrimOK prog A pF3:=by
 have h0:=C6i hT hG
 have h1:PrimOK prog A pF1:=E5a h0 h0
 exact F2s h0 (E4z h1 h1)
def pFw0:Prims:=(pNm.addt 36 (R6 A1b fun x=>.leaf (.sbool (C5i x)))).addt 39 (R6 D9i fun x=>.leaf (.sbool (C9y x)))
theorem F4f {A:Amb} (hT:Tab A) (hG:gN prog<=A.G):PrimOK prog A pFw0:=by
 have h0:=G0f hT hG
 refine J5 hG h0 (J5 hG h0 (C6i hT hG) A1b _ func36 (by kernel_rfl) fun x v hv=>?_) D9i _ func39 (by kernel_rfl) fun x v hv=>?_
 ·cases hv
  obtain ⟨v',h1,h2⟩:=G7n x
  exact ⟨v',h1,V9 h2,A0z h2⟩
 ·cases hv
  obtain ⟨v',h1,h2⟩:=G7o x
  exact ⟨v',h1,V9 h2,A0z h2⟩
end Go.Proofs.Tryz
namespace Go.Proofs.Tryz
open Go.Ad
theorem L8 {α:Type} [Inhabited α] {fv:α->List FV} (l:List α):D8 (okR fv l.length (A7 fv l))=true:=D6 (D5t l)
abbrev D9 (d:Drw) (i:Nat):Fea:=d.l.getD i default
abbrev K5 (d:Drw) (i:Nat):Dim:=d.m.getD i default
def E3i:Code:=I9 (J7 0 (f9.body.getD .skip))
def sp9:SP:=⟨dr 1++[.is (.ptr (some (8,0)))]++dr 1++[.int .i64]++dr 39,dd8++[.any]⟩
def F5q:AEx->SP
 | .ret=>⟨dr 2++[.bool]++dr 40,dd8++[.any]⟩
 | .exit 0=>⟨dr 1++[.is (.ptr (some (8,0)))]++dr 41,dd8++[.any]⟩
 | _=>sp9
theorem G1i (d:Drw) (n:Int):F3 prog (D5 prog pFw0 60) (pFw0.blk 9) E3i (sp9.rho [.i n,.o (A9 d)]) (sp9.heap [.i n,.o (A9 d)]) (H9 F5q 9 []) =
  brK (decide (n < (d.l.length:Int))) (brK (decide (0<=n/\n < (d.l.length:Int))) (brK (D8 (okR Frm.fv (d.l.getD n.toNat default).l.length (A7 Frm.fv (d.l.getD n.toNat default).l))) (brK (!C5i { s:=(d.l.getD n.toNat default).s,k:=(d.l.getD n.toNat default).k,a:=(d.l.getD n.toNat default).a,x:=(d.l.getD n.toNat default).x,y:=(d.l.getD n.toNat default).y,z:=(d.l.getD n.toNat default).z,lo:=(d.l.getD n.toNat default).lo,hi:=(d.l.getD n.toNat default).hi,l:=ofR Frm.fv (d.l.getD n.toNat default).l.length (A7 Frm.fv (d.l.getD n.toNat default).l) }) (some (.ret,[.b false,.o (A9 d)])) (some (.normal,[.i (W (n+1)),.o (A9 d)]))) none) none) (some (.exit 0,[.o (A9 d)])):=by kernel_rfl
def L9 (x:Drw) (n:Nat):List Lf:=[.i n,.o (A9 x)]
def Lb9:List Lf->Nat->List Lf
 | [_,o],_=>[.b false,o]
 | _,_=>[]
def Le9:List Lf->List Lf
 | [_,o]=>[o]
 | _=>[]
def N9 (x:Drw):Nat:=x.l.length
def p9 (x:Drw) (n:Nat):Bool:=C5i (D9 x n)
def iv9 (x:Drw):Prop:=x.l.length < 2 ^ 62
def C5c:List Lf->Drw
 | [_,.o o]=>I1 o
 | _=>default
theorem G6t (x:Drw) (hx:iv9 x) (n:Nat) (hn:n<=N9 x):F3 prog (D5 prog pFw0 60) (pFw0.blk 9) E3i (sp9.rho (L9 x n)) (sp9.heap (L9 x n)) (H9 F5q 9 [])=some (if n < N9 x then (bif p9 x n then (.normal,L9 x (n+1)) else (.ret,Lb9 (L9 x 0) n)) else (.exit 0,Le9 (L9 x 0))):=by
 have h1:=hx
 simp only [iv9] at h1
 simp only [L9,Lb9,Le9]
 rw [G1i,I4 hn h1]
 simp only [Int.toNat_natCast,Nat.zero_add,L8,J3 Frm.inj]
 by_cases h:n < N9 x
 ·rw [if_pos h]
  simp only [N9,D9] at h
  simp only [p9,D9,L8,J3 Frm.inj]
  cases hE:C5i (x.l.getD n default)
  all_goals
   repeat first
    | exact rfl
    | refine A8 rfl ?_
    | refine C8 rfl ?_
    | refine A8 (by simp only [SBs]; omega) ?_
    | refine C8 (by simp only [SBs]; omega) ?_
    | refine A8 (L8 _) ?_
    | exact congrArg some (Y5 (by first | (simp only [SBs]; omega) | simp)).symm
    | exact congrArg some (Y4 (by first | (simp only [SBs]; omega) | simp)).symm
 ·rw [if_neg h]
  simp only [N9,D9] at h
  repeat first
   | exact rfl
   | refine A8 rfl ?_
   | refine C8 rfl ?_
   | refine A8 (by simp only [SBs]; omega) ?_
   | refine C8 (by simp only [SBs]; omega) ?_
   | refine A8 (L8 _) ?_
   | exact congrArg some (Y5 (by first | (simp only [SBs]; omega) | simp)).symm
   | exact congrArg some (Y4 (by first | (simp only [SBs]; omega) | simp)).symm
def hk9:Blk:=hookP sp9 9 [] (fdT F5q 0 .ret (.exit 0) C5c L9 Lb9 Le9 N9 p9 iv9)
theorem G0e {A:Amb} {q:Prims} (h0:PrimOK prog A pFw0) (hq:PrimOK prog A q):PrimOK prog A (q.addb 9 0 hk9) :=
 SEB.findR (id:=0) (ds:=[]) (dec:=C5c) (sp:=sp9) (sq:=F5q) (m:=9) (eb:=.ret) (ee:=.exit 0) (L:=L9) (Lb:=Lb9) (Le:=Le9) (N:=N9) (p:=p9) (Inv:=iv9) (k:=60) F7 F8 h0 hq func9 (show f9.body=some (f9.body.getD .skip) by kernel_rfl) (body:=E3i) (by kernel_rfl)
  rfl rfl rfl rfl (by simp) (by simp) (fun _ _=>⟨⟨.inr rfl,.inr rfl,.inr rfl,.inr rfl,.inr rfl,.inr rfl,.inr rfl,.inr rfl,.inr rfl,trivial⟩,⟨.inr rfl,.inr rfl,.inr rfl,.inr rfl,.inr rfl,.inr rfl,.inr rfl,.inr rfl,.inr rfl,trivial⟩⟩) G6t
theorem D8h (d:Drw):C5c [Lf.i 0,Lf.o (A9 d)]=d:=by simp [C5c,E8]
theorem G7e {d:Drw} (h1:d.l.length < 2 ^ 62):fdC L9 C5c iv9 [Lf.i 0,Lf.o (A9 d)]=true:=I8 (x:=d) (D8h d) h1
def pF4:Prims:=pFw0.addb 9 0 hk9
end Go.Proofs.Tryz
namespace Go.Proofs.Tryz
open Go.Ad
def D4u (d:Drw):Bool:=(decide (d.s.length<=100) && (decide (d.l.length<=8) || (decide (d.l.length > 32) && decide (d.l.length<=64)))) && (fdE p9 N9 d && C9y d.m)
theorem G8n (d:Drw):(D5 prog pF4 60).call 9 [.agg d.av] (Bg 8) F9 =
  brK (decide ((d.s.length:Int) > 100)) (some (.bool false)) (brK (decide ((d.l.length:Int) > 8)) (brK (decide ((d.l.length:Int)<=32)) (some (.bool false)) (brK (decide ((d.l.length:Int) > 64)) (some (.bool false)) (brK (fdC L9 C5c iv9 [Lf.i 0,Lf.o (A9 d)]) (brK (fdE p9 N9 (C5c [Lf.i 0,Lf.o (A9 d)])) (brK (D8 (okR Dim.fv d.m.length (A7 Dim.fv d.m))) (some (.sbool (C9y (ofR Dim.fv d.m.length (A7 Dim.fv d.m))))) none) (some (.sbool (false)))) none))) (brK (decide ((d.l.length:Int) > 64)) (some (.bool false)) (brK (fdC L9 C5c iv9 [Lf.i 0,Lf.o (A9 d)]) (brK (fdE p9 N9 (C5c [Lf.i 0,Lf.o (A9 d)])) (brK (D8 (okR Dim.fv d.m.length (A7 Dim.fv d.m))) (some (.sbool (C9y (ofR Dim.fv d.m.length (A7 Dim.fv d.m))))) none) (some (.sbool (false)))) none))):=by kernel_rfl
theorem ok9 (d:Drw):∃ v,(D5 prog pF4 60).call 9 [.agg d.av] (Bg 8) F9=some v/\A5g (D4u d) v:=by
 rw [G8n]
 simp only [D8h,L8,J3 Dim.inj]
 by_cases h1:d.s.length<=100 <;> by_cases h2:d.l.length<=8 <;> by_cases h3:d.l.length > 32 <;> by_cases h4:d.l.length > 64 <;> cases hE:fdE p9 N9 d <;> cases hM:C9y d.m
 all_goals
  apply exV
  focus
   repeat first
    | exact rfl
    | refine A8 rfl ?_
    | refine C8 rfl ?_
    | refine A8 (by simp only [SBs]; omega) ?_
    | refine C8 (by simp only [SBs]; omega) ?_
    | refine A8 (G7e (by omega)) ?_
    | refine A8 (L8 _) ?_
  focus
   first
    | exact .inl rfl
    | exact .inr rfl
    | (exfalso; omega)
    | simp_all [A5g,D4u]
def pFw:Prims:=pNm.addt 9 (R6 Q4 fun x=>.leaf (.sbool (D4u x)))
theorem G0u {A:Amb} (hT:Tab A) (hG:gN prog<=A.G):PrimOK prog A pFw:=by
 have h0:=F4f hT hG
 refine J5 hG (G0e h0 h0) (C6i hT hG) Q4 _ func9 (by kernel_rfl) fun x v hv=>?_
 cases hv
 obtain ⟨v',h1,h2⟩:=ok9 x
 exact ⟨v',h1,V9 h2,A0z h2⟩
end Go.Proofs.Tryz
namespace Go.Proofs.Tryz
open Go.Ad
theorem I7 {α:Type} {c:Prop} [Decidable c] {x y r:α} (h:c) (h2:x=r):ite c x y=r:=by rw [if_pos h]; exact h2
theorem G7 {α:Type} {c:Prop} [Decidable c] {x y r:α} (h:¬ c) (h2:y=r):ite c x y=r:=by rw [if_neg h]; exact h2
theorem viI {n m:Int} (h:n=m):R3 n (.int .i64 m):=by subst h; exact .inl rfl
theorem viS {n m:Int} (h:n=m):R3 n (.sint .i64 m):=by subst h; exact .inr rfl
theorem vbB {n m:Bool} (h:n=m):A5g n (.bool m):=by subst h; exact .inl rfl
theorem vbS {n m:Bool} (h:n=m):A5g n (.sbool m):=by subst h; exact .inr rfl
def J9 (x:Fea):Int:=if G8 x.s ≠ 0 then G8 x.s else if x.k < 0 \/ x.k >= 5 \/ x.a < 0 \/ x.a >= 3 then 1 else if x.k=4/\x.a ≠ 0 then 3
 else if x.x < -100000 \/ x.x > 100000 \/ x.y < -100000 \/ x.y > 100000 \/ x.z < -100000 \/ x.z > 100000 then 2 else if x.k=0/\(x.lo ≠ 0 \/ x.hi ≠ 0) then 3 else if x.k=0 then 0
 else if x.lo < -100000 \/ x.lo > 100000 \/ x.hi < -100000 \/ x.hi > 100000 then 2 else if x.lo > x.hi then 9 else if x.lo < 1 then 2 else 0
def S9 (x:Dim):Int:=if G8 x.f ≠ 0 then G8 x.f else if G8 x.t ≠ 0 then G8 x.t else if x.f=x.t then 7 else if x.a < 0 \/ x.a >= 3 then 1
 else if x.lo < -100000 \/ x.lo > 100000 \/ x.hi < -100000 \/ x.hi > 100000 then 2 else if x.lo > x.hi then 9 else 0
theorem G1k (x:Fea):(D5 prog pNm 60).call 105 [.agg x.av] (Bg 8) F9 =
  brK (I5 x.s) (brK (G8 x.s != 0) (some (.sint IntKind.i64 (G8 x.s))) (brK (decide (x.k < 0)) (some (.int .i64 1)) (brK (decide (x.k >= 5)) (some (.int .i64 1)) (brK (decide (x.a < 0)) (some (.int .i64 1)) (brK (decide (x.a >= 3)) (some (.int .i64 1)) (brK (x.k == 4) (brK (x.a != 0) (some (.int .i64 3)) (brK (decide (x.x >= -100000)) (brK (decide (x.x<=100000)) (brK (decide (x.y >= -100000)) (brK (decide (x.y<=100000)) (brK (decide (x.z >= -100000)) (brK (!decide (x.z<=100000)) (some (.int .i64 2)) (brK (x.k == 0) (brK (!(x.lo == 0 && (x.hi == 0 && true))) (some (.int .i64 3)) (brK (x.k == 0) (some (.int .i64 0)) (brK (decide (x.lo >= -100000)) (brK (!decide (x.lo<=100000)) (some (.int .i64 2)) (brK (decide (x.hi >= -100000)) (brK (!decide (x.hi<=100000)) (some (.int .i64 2)) (brK (decide (x.lo > x.hi)) (some (.int .i64 9)) (brK (decide (x.lo < 1)) (some (.int .i64 2)) (some (.int .i64 0))))) (some (.int .i64 2)))) (some (.int .i64 2))))) (brK (x.k == 0) (some (.int .i64 0)) (brK (decide (x.lo >= -100000)) (brK (!decide (x.lo<=100000)) (some (.int .i64 2)) (brK (decide (x.hi >= -100000)) (brK (!decide (x.hi<=100000)) (some (.int .i64 2)) (brK (decide (x.lo > x.hi)) (some (.int .i64 9)) (brK (decide (x.lo < 1)) (some (.int .i64 2)) (some (.int .i64 0))))) (some (.int .i64 2)))) (some (.int .i64 2)))))) (some (.int .i64 2))) (some (.int .i64 2))) (some (.int .i64 2))) (some (.int .i64 2))) (some (.int .i64 2)))) (brK (decide (x.x >= -100000)) (brK (decide (x.x<=100000)) (brK (decide (x.y >= -100000)) (brK (decide (x.y<=100000)) (brK (decide (x.z >= -100000)) (brK (!decide (x.z<=100000)) (some (.int .i64 2)) (brK (x.k == 0) (brK (!(x.lo == 0 && (x.hi == 0 && true))) (some (.int .i64 3)) (brK (x.k == 0) (some (.int .i64 0)) (brK (decide (x.lo >= -100000)) (brK (!decide (x.lo<=100000)) (some (.int .i64 2)) (brK (decide (x.hi >= -100000)) (brK (!decide (x.hi<=100000)) (some (.int .i64 2)) (brK (decide (x.lo > x.hi)) (some (.int .i64 9)) (brK (decide (x.lo < 1)) (some (.int .i64 2)) (some (.int .i64 0))))) (some (.int .i64 2)))) (some (.int .i64 2))))) (brK (x.k == 0) (some (.int .i64 0)) (brK (decide (x.lo >= -100000)) (brK (!decide (x.lo<=100000)) (some (.int .i64 2)) (brK (decide (x.hi >= -100000)) (brK (!decide (x.hi<=100000)) (some (.int .i64 2)) (brK (decide (x.lo > x.hi)) (some (.int .i64 9)) (brK (decide (x.lo < 1)) (some (.int .i64 2)) (some (.int .i64 0))))) (some (.int .i64 2)))) (some (.int .i64 2)))))) (some (.int .i64 2))) (some (.int .i64 2))) (some (.int .i64 2))) (some (.int .i64 2))) (some (.int .i64 2))))))))) none:=by kernel_rfl
theorem G4g (x:Fea) (hz:I5 x.s=true):∃ v,(D5 prog pNm 60).call 105 [.agg x.av] (Bg 8) F9=some v/\R3 (J9 x) v:=by
 rw [G1k]
 by_cases k4:x.k=4 <;> by_cases k0:x.k=0
 all_goals
  by_cases c1:G8 x.s ≠ 0
  rotate_left
  by_cases c2:x.k < 0
  rotate_left
  by_cases c3:x.k >= 5
  rotate_left
  by_cases c4:x.a < 0
  rotate_left
  by_cases c5:x.a >= 3
  rotate_left
  by_cases c6:x.k=4/\x.a ≠ 0
  rotate_left
  by_cases c7:x.x < -100000
  rotate_left
  by_cases c8:x.x > 100000
  rotate_left
  by_cases c9:x.y < -100000
  rotate_left
  by_cases c10:x.y > 100000
  rotate_left
  by_cases c11:x.z < -100000
  rotate_left
  by_cases c12:x.z > 100000
  rotate_left
  by_cases c13:x.k=0/\(x.lo ≠ 0 \/ x.hi ≠ 0)
  rotate_left
  by_cases c14:x.k=0
  rotate_left
  by_cases c15:x.lo < -100000
  rotate_left
  by_cases c16:x.lo > 100000
  rotate_left
  by_cases c17:x.hi < -100000
  rotate_left
  by_cases c18:x.hi > 100000
  rotate_left
  by_cases c19:x.lo > x.hi
  rotate_left
  by_cases c20:x.lo < 1
  rotate_left
  all_goals
   apply exV
   focus
    repeat first
     | exact rfl
     | refine A8 rfl ?_
     | refine C8 rfl ?_
     | refine A8 (by simp only [SBs]; omega) ?_
     | refine C8 (by simp only [SBs]; omega) ?_
     | refine A8 hz ?_
   focus
    first
     | apply viI
     | apply viS
    unfold J9
    repeat first
     | exact rfl
     | refine I7 (by omega) ?_
     | refine G7 (by omega) ?_
theorem G1p (x:Fea):(D5 prog pNm 60).call 150 [.agg x.av] (Bg 8) F9 =
  brK (I5 x.s) (brK (G8 x.s != 0) (some (.sint IntKind.i64 (G8 x.s))) (brK (decide (x.k < 0)) (some (.int .i64 1)) (brK (decide (x.k >= 5)) (some (.int .i64 1)) (brK (decide (x.a < 0)) (some (.int .i64 1)) (brK (decide (x.a >= 3)) (some (.int .i64 1)) (brK (x.k == 4) (brK (x.a != 0) (some (.int .i64 3)) (brK (decide (x.x >= -100000)) (brK (!decide (x.x<=100000)) (some (.int .i64 2)) (brK (decide (x.y >= -100000)) (brK (!decide (x.y<=100000)) (some (.int .i64 2)) (brK (decide (x.z >= -100000)) (brK (!decide (x.z<=100000)) (some (.int .i64 2)) (brK (x.k == 0) (brK (!(x.lo == 0 && (x.hi == 0 && true))) (some (.int .i64 3)) (some (.int .i64 0))) (brK (decide (x.lo >= -100000)) (brK (!decide (x.lo<=100000)) (some (.int .i64 2)) (brK (decide (x.hi >= -100000)) (brK (!decide (x.hi<=100000)) (some (.int .i64 2)) (brK (decide (x.lo > x.hi)) (some (.int .i64 9)) (brK (decide (x.lo < 1)) (some (.int .i64 2)) (some (.int .i64 0))))) (some (.int .i64 2)))) (some (.int .i64 2))))) (some (.int .i64 2)))) (some (.int .i64 2)))) (some (.int .i64 2)))) (brK (decide (x.x >= -100000)) (brK (!decide (x.x<=100000)) (some (.int .i64 2)) (brK (decide (x.y >= -100000)) (brK (!decide (x.y<=100000)) (some (.int .i64 2)) (brK (decide (x.z >= -100000)) (brK (!decide (x.z<=100000)) (some (.int .i64 2)) (brK (x.k == 0) (brK (!(x.lo == 0 && (x.hi == 0 && true))) (some (.int .i64 3)) (some (.int .i64 0))) (brK (decide (x.lo >= -100000)) (brK (!decide (x.lo<=100000)) (some (.int .i64 2)) (brK (decide (x.hi >= -100000)) (brK (!decide (x.hi<=100000)) (some (.int .i64 2)) (brK (decide (x.lo > x.hi)) (some (.int .i64 9)) (brK (decide (x.lo < 1)) (some (.int .i64 2)) (some (.int .i64 0))))) (some (.int .i64 2)))) (some (.int .i64 2))))) (some (.int .i64 2)))) (some (.int .i64 2)))) (some (.int .i64 2))))))))) none:=by kernel_rfl
theorem G4m (x:Fea) (hz:I5 x.s=true):∃ v,(D5 prog pNm 60).call 150 [.agg x.av] (Bg 8) F9=some v/\R3 (J9 x) v:=by
 rw [G1p]
 by_cases k4:x.k=4 <;> by_cases k0:x.k=0
 all_goals
  by_cases c1:G8 x.s ≠ 0
  rotate_left
  by_cases c2:x.k < 0
  rotate_left
  by_cases c3:x.k >= 5
  rotate_left
  by_cases c4:x.a < 0
  rotate_left
  by_cases c5:x.a >= 3
  rotate_left
  by_cases c6:x.k=4/\x.a ≠ 0
  rotate_left
  by_cases c7:x.x < -100000
  rotate_left
  by_cases c8:x.x > 100000
  rotate_left
  by_cases c9:x.y < -100000
  rotate_left
  by_cases c10:x.y > 100000
  rotate_left
  by_cases c11:x.z < -100000
  rotate_left
  by_cases c12:x.z > 100000
  rotate_left
  by_cases c13:x.k=0/\(x.lo ≠ 0 \/ x.hi ≠ 0)
  rotate_left
  by_cases c14:x.k=0
  rotate_left
  by_cases c15:x.lo < -100000
  rotate_left
  by_cases c16:x.lo > 100000
  rotate_left
  by_cases c17:x.hi < -100000
  rotate_left
  by_cases c18:x.hi > 100000
  rotate_left
  by_cases c19:x.lo > x.hi
  rotate_left
  by_cases c20:x.lo < 1
  rotate_left
  all_goals
   apply exV
   focus
    repeat first
     | exact rfl
     | refine A8 rfl ?_
     | refine C8 rfl ?_
     | refine A8 (by simp only [SBs]; omega) ?_
     | refine C8 (by simp only [SBs]; omega) ?_
     | refine A8 hz ?_
   focus
    first
     | apply viI
     | apply viS
    unfold J9
    repeat first
     | exact rfl
     | refine I7 (by omega) ?_
     | refine G7 (by omega) ?_
end Go.Proofs.Tryz
namespace Go.Proofs.Tryz
open Go.Ad
theorem G6i (y:Dim):(D5 prog pNm 60).call 95 [.agg y.av] (Bg 8) F9 =
  brK (I5 y.f) (brK (G8 y.f != 0) (some (.sint IntKind.i64 (G8 y.f))) (brK (I5 y.t) (brK (G8 y.t != 0) (some (.sint IntKind.i64 (G8 y.t))) (brK (y.f == y.t) (some (.int .i64 7)) (brK (decide (y.a < 0)) (some (.int .i64 1)) (brK (decide (y.a >= 3)) (some (.int .i64 1)) (brK (decide (y.lo >= -100000)) (brK (!decide (y.lo<=100000)) (some (.int .i64 2)) (brK (decide (y.hi >= -100000)) (brK (!decide (y.hi<=100000)) (some (.int .i64 2)) (brK (decide (y.lo > y.hi)) (some (.int .i64 9)) (some (.int .i64 0)))) (some (.int .i64 2)))) (some (.int .i64 2))))))) none)) none:=by kernel_rfl
theorem G8b (y:Dim) (hz:I5 y.f=true) (hz2:I5 y.t=true):∃ v,(D5 prog pNm 60).call 95 [.agg y.av] (Bg 8) F9=some v/\R3 (S9 y) v:=by
 rw [G6i]
 by_cases c1:G8 y.f ≠ 0
 rotate_left
 by_cases c2:G8 y.t ≠ 0
 rotate_left
 by_cases c3:y.f=y.t
 rotate_left
 by_cases c4:y.a < 0
 rotate_left
 by_cases c5:y.a >= 3
 rotate_left
 by_cases c6:y.lo < -100000
 rotate_left
 by_cases c7:y.lo > 100000
 rotate_left
 by_cases c8:y.hi < -100000
 rotate_left
 by_cases c9:y.hi > 100000
 rotate_left
 by_cases c10:y.lo > y.hi
 rotate_left
 all_goals
  apply exV
  focus
   repeat first
    | exact rfl
    | refine A8 rfl ?_
    | refine C8 rfl ?_
    | refine A8 (by simp only [SBs]; omega) ?_
    | refine C8 (by simp only [SBs]; omega) ?_
    | refine A8 hz ?_
    | refine A8 hz2 ?_
    | refine A8 (beq_iff_eq.2 c3) ?_
    | refine C8 (beq_eq_false_iff_ne.2 c3) ?_
  focus
   first
    | apply viI
    | apply viS
   unfold S9
   repeat first
    | exact rfl
    | refine I7 (by omega) ?_
    | refine G7 (by omega) ?_
    | refine I7 c3 ?_
    | refine G7 c3 ?_
theorem G6m (y:Dim):(D5 prog pNm 60).call 99 [.agg y.av] (Bg 8) F9 =
  brK (I5 y.f) (brK (G8 y.f != 0) (some (.sint IntKind.i64 (G8 y.f))) (brK (I5 y.t) (brK (G8 y.t != 0) (some (.sint IntKind.i64 (G8 y.t))) (brK (y.f == y.t) (some (.int .i64 7)) (brK (decide (y.a < 0)) (some (.int .i64 1)) (brK (decide (y.a >= 3)) (some (.int .i64 1)) (brK (decide (y.lo >= -100000)) (brK (!decide (y.lo<=100000)) (some (.int .i64 2)) (brK (decide (y.hi >= -100000)) (brK (!decide (y.hi<=100000)) (some (.int .i64 2)) (brK (decide (y.lo > y.hi)) (some (.int .i64 9)) (some (.int .i64 0)))) (some (.int .i64 2)))) (some (.int .i64 2))))))) none)) none:=by kernel_rfl
theorem G8e (y:Dim) (hz:I5 y.f=true) (hz2:I5 y.t=true):∃ v,(D5 prog pNm 60).call 99 [.agg y.av] (Bg 8) F9=some v/\R3 (S9 y) v:=by
 rw [G6m]
 by_cases c1:G8 y.f ≠ 0
 rotate_left
 by_cases c2:G8 y.t ≠ 0
 rotate_left
 by_cases c3:y.f=y.t
 rotate_left
 by_cases c4:y.a < 0
 rotate_left
 by_cases c5:y.a >= 3
 rotate_left
 by_cases c6:y.lo < -100000
 rotate_left
 by_cases c7:y.lo > 100000
 rotate_left
 by_cases c8:y.hi < -100000
 rotate_left
 by_cases c9:y.hi > 100000
 rotate_left
 by_cases c10:y.lo > y.hi
 rotate_left
 all_goals
  apply exV
  focus
   repeat first
    | exact rfl
    | refine A8 rfl ?_
    | refine C8 rfl ?_
    | refine A8 (by simp only [SBs]; omega) ?_
    | refine C8 (by simp only [SBs]; omega) ?_
    | refine A8 hz ?_
    | refine A8 hz2 ?_
    | refine A8 (beq_iff_eq.2 c3) ?_
    | refine C8 (beq_eq_false_iff_ne.2 c3) ?_
  focus
   first
    | apply viI
    | apply viS
   unfold S9
   repeat first
    | exact rfl
    | refine I7 (by omega) ?_
    | refine G7 (by omega) ?_
    | refine I7 c3 ?_
    | refine G7 c3 ?_
theorem D8c {x:Fea} {v:AV} (h:(Tr.br (I5 x.s) (.leaf (.sint .i64 (J9 x))) .fail).get=some v):I5 x.s=true/\v=.sint .i64 (J9 x):=by
 obtain ⟨h1,h2⟩:=Tr.br1 h
 cases h2
 exact ⟨h1,rfl⟩
def pFe:Prims:=(((pFw.addt 105 (R6 A1b fun x=>.br (I5 x.s) (.leaf (.sint .i64 (J9 x))) .fail)).addt 150 (R6 A1b fun x=>.br (I5 x.s) (.leaf (.sint .i64 (J9 x))) .fail)).addt
 95 (R6 C6j fun y=>.br (I5 y.f && I5 y.t) (.leaf (.sint .i64 (S9 y))) .fail)).addt 99 (R6 C6j fun y=>.br (I5 y.f && I5 y.t) (.leaf (.sint .i64 (S9 y))) .fail)
theorem D6a {A:Amb} (hT:Tab A) (hG:gN prog<=A.G):PrimOK prog A pFe:=by
 have h0:=C6i hT hG
 refine J5 hG h0 (J5 hG h0 (J5 hG h0 (J5 hG h0 (G0u hT hG) A1b _ func105 (by kernel_rfl) fun x v hv=>?_) A1b _ func150 (by kernel_rfl) fun x v hv=>?_) C6j _ func95 (by kernel_rfl) fun x v hv=>?_) C6j _ func99 (by kernel_rfl) fun x v hv=>?_
 ·obtain ⟨hz,rfl⟩:=D8c hv
  obtain ⟨v',h1,h2⟩:=G4g x hz
  exact ⟨v',h1,H6 h2,K4 h2⟩
 ·obtain ⟨hz,rfl⟩:=D8c hv
  obtain ⟨v',h1,h2⟩:=G4m x hz
  exact ⟨v',h1,H6 h2,K4 h2⟩
 ·obtain ⟨hz,hv⟩:=Tr.br1 hv
  cases hv
  rw [Bool.and_eq_true] at hz
  obtain ⟨v',h1,h2⟩:=G8b x hz.1 hz.2
  exact ⟨v',h1,H6 h2,K4 h2⟩
 ·obtain ⟨hz,hv⟩:=Tr.br1 hv
  cases hv
  rw [Bool.and_eq_true] at hz
  obtain ⟨v',h1,h2⟩:=G8e x hz.1 hz.2
  exact ⟨v',h1,H6 h2,K4 h2⟩
end Go.Proofs.Tryz
