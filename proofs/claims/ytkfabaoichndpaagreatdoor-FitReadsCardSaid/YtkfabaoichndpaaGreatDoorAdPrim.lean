/- From a run of the evaluator on nothing but the package's variables to a contract of the machine; and such a function as a known one. -/
import Derived.Test.YtkfabaoichndpaaGreatDoorAdSound
import Derived.Test.YtkfabaoichndpaaGreatDoorAdK
import Derived.HandedShaped
import Derived.LaidLaws
import Derived.Below
import Derived.ProofKit
import Derived.Stop.Joined
import Derived.Carry
import Derived.ChangeArms
import Derived.Lib.SmallJoins
namespace Go.Ad
def B3s (G:Nat):Emb:=⟨fun g=>if g < G then some ⟨g,0,0,0⟩ else none,fun _=>none⟩
def Bg (G:Nat):Heap:=List.replicate G .dead
theorem A5q (G:Nat):(Bg G).length=G:=by simp [Bg]
section
variable {P:Program} {A:Amb}
theorem H1r {w:World} (G:Nat) (hamb:∀ c,c < A.G->w.heap[c]?=A.base c) (hle:A.G<=w.heap.size) (hG:G<=A.G):Sim A (B3s G) (Bg G) w.heap:=by
 have hdead:∀ (b:Nat) (o:AObj),(Bg G)[b]?=some o->o=AObj.dead:=fun b o hb=>by
  simp only [Bg,List.getElem?_replicate] at hb
  split at hb
  ·simpa using hb.symm
  ·cases hb
 have hι:∀ b l,B3s G b=some l->b < G/\l=⟨b,0,0,0⟩:=fun b l hl=>by
  change (if b < G then some (⟨b,0,0,0⟩:Loc) else none)=some l at hl
  split at hl
  ·cases hl; exact ⟨by assumption,rfl⟩
  ·cases hl
 refine ⟨fun b o l hb _=>?_,fun b l hl=>?_,fun b b' l l' o o' _ _ _ hb _ h1 _=>?_,hamb,fun b l o _ hb h1=>?_,hle,fun c v hc=>(by cases hc),fun c v b l o hc=>(by cases hc)⟩
 ·rw [hdead b o hb]; trivial
 ·obtain ⟨h1,rfl⟩:=hι b l hl; show b < _; omega
 ·rw [hdead b o hb] at h1; simp [AObj.own] at h1
 ·rw [hdead b o hb] at h1; simp [AObj.own] at h1
theorem H1m (G:Nat):Dom (B3s G) (Bg G).length:=fun b hb=>by
 rw [A5q] at hb; show (if b < G then some (⟨b,0,0,0⟩:Loc) else none)=none; rw [if_neg (by omega)]
theorem G5x:GlobOK P (B3s (gN P)):=fun g hg=>⟨⟨g,0,0,0⟩,by simp [B3s,hg],rfl,rfl⟩
mutual
theorem C7g {ι ι':Emb}:∀ {a:AV} {v:Value} (_:below 0 a=true) (_:VR ι a v),VR ι' a v
 | .bad,_,_,_=>trivial
 | .bool _,_,_,h | .int _ _,_,_,h | .rng ..,_,_,h | .str _,_,_,h | .sint ..,_,_,h | .sbool _,_,_,h | .sstr _,_,_,h | .lstr ..,_,_,h | .ptr none,_,_,h | .slice none _ _,_,_,h | .map none,_,_,h
 | .nilFunc,_,_,h | .nilIface,_,_,h=>by simpa [VR] using h
 | .flist ..,_,hb,_ | .fptr ..,_,hb,_ | .sslice ..,_,hb,_ | .aslc ..,_,hb,_ | .sptr ..,_,hb,_ | .dptr ..,_,hb,_ | .ptr (some (_,_)),_,hb,_ | .slice (some (_,_)) _ _,_,hb,_ | .map (some _),_,hb,_=>by
  simp [below] at hb
 | .func f xs ys,_,hb,h=>by
  simp only [VR] at h ⊢
  obtain ⟨f',xs',ys',h1,h2,h3,h4⟩:=h
  cases f with
  | yield l=>simp [below] at hb
  | _ =>
   simp only [below,Bool.and_eq_true] at hb
   exact ⟨f',xs',ys',h1,h2,A6f hb.1 h3,A6f hb.2 h4⟩
 | .iface _ a,_,hb,h=>by
  simp only [below] at hb
  simp only [VR] at h ⊢; obtain ⟨x,h1,h2⟩:=h; exact ⟨x,h1,C7g hb h2⟩
 | .agg _,_,hb,h=>by
  simp only [below] at hb
  simp only [VR] at h ⊢; obtain ⟨x,h1,h2⟩:=h; exact ⟨x,h1,A6f hb h2⟩
 | .tuple _,_,hb,h=>by
  simp only [below] at hb
  simp only [VR] at h ⊢; obtain ⟨x,h1,h2⟩:=h; exact ⟨x,h1,A6f hb h2⟩
theorem A6f {ι ι':Emb}:∀ {a:List AV} {v:List Value} (_:H6 0 a=true) (_:VRL ι a v),VRL ι' a v
 | [],_,_,h=>by simpa [VRL] using h
 | a :: as,_,hb,h=>by
  simp only [H6,Bool.and_eq_true] at hb
  simp only [VRL] at h ⊢; obtain ⟨x,xs,h1,h2,h3⟩:=h
  exact ⟨x,xs,h1,C7g hb.1 h2,A6f hb.2 h3⟩
end
theorem A1d {prims:Prims} (D6:P.follows .mixedOrders=true) (D7:A0r P) (hp:PrimOK P A prims) (hG:(gN P)<=A.G) {n:Nat} {f:FuncId} {args:List AV} {v:AV} {B':Heap}
  (h:(run P prims n).call f args (Bg (gN P))=some (v,B',[])) (hb:H6 0 args=true) (hv:below 0 v=true) (ι:Emb) (w:World) (xs:Array Value)
  (hamb:∀ c,c < A.G->w.heap[c]?=A.base c) (hle:A.G<=w.heap.size) (hx:VRL ι args xs.toList) :
  Calls P f xs w fun e w'=>∃ v',e=.returned v'/\VR ι v v'/\Quiet w w':=by
 have hs:=A9v D6 D7 hp n
 refine (hs.call f _ _ _ _ _ h (B3s (gN P)) w xs (H1r _ hamb hle hG) (H1m _) G5x (A6f hb hx)).mono fun e w'=>?_
 rintro ⟨v',ι',rfl,h1,h2⟩
 exact ⟨v',rfl,C7g hv h1,⟨h2.step.size,fun c hc=>h2.step.keep c hc (fun _ h=>by cases h),h2.step.tape,h2.step.os,h2.step.out⟩⟩
def Prims.addh (prims:Prims) (f:FuncId) (g:List AV->Heap->Tr (AV × Heap × List Nat)):Prims:={ prims with fn:=fun x=>if x=f then some g else prims.fn x }
def Prims.add (prims:Prims) (f:FuncId) (g:List AV->Option AV):Prims:=prims.addh f fun args B=>.of (only B (g args))
theorem PrimOK.put {prims:Prims} (hp:PrimOK P A prims) {f:FuncId} {g:List AV->Heap->Tr (AV × Heap × List Nat)} {fn:Func} (hf:P.funcs[f]?=some fn) (hc:fn.body.isSome=true)
  (hg:∀ args B v B' D,(g args B).get=some (v,B',D)->AFr B B' D/\∀ (ι:Emb) (w:World) (xs:Array Value),Sim A ι B w.heap->Dom ι B.length->GlobOK P ι->VRL ι args xs.toList ->
   Calls P f xs w fun e w'=>∃ v' ι',e=.returned v'/\VR ι' v v'/\After A ι ι' B B' D w w'):PrimOK P A (prims.addh f g):=by
 refine ⟨hp.ext,fun x g' hx=>?_,hp.blkfr,hp.blk⟩
 unfold Prims.addh at hx
 simp only at hx
 split at hx
 ·rename_i e; subst e; cases hx
  exact ⟨⟨fn,_,hf,(Option.some_get hc).symm⟩,hg⟩
 ·exact hp.fn x g' hx
theorem PrimOK.lib {prims:Prims} (hp:PrimOK P A prims) {f:FuncId} {g:List AV->Option AV} {fn:Func} (hf:P.funcs[f]?=some fn) (hc:fn.body.isSome=true)
  (hg:∀ args v,g args=some v->∀ (ι:Emb) (w:World) (xs:Array Value),(∀ c,c < A.G->w.heap[c]?=A.base c)->A.G<=w.heap.size->VRL ι args xs.toList ->
   Calls P f xs w fun e w'=>∃ v',e=.returned v'/\VR ι v v'/\Quiet w w'):PrimOK P A (prims.add f g):=by
 refine hp.put hf hc fun args B v B' D h=>?_
 rw [Tr.get_of] at h
 refine ⟨Y6 h,fun ι w xs hs hd _ hx=>?_⟩
 unfold only at h
 simp only [Option.map_eq_some_iff,pI] at h
 obtain ⟨v',h1,rfl,rfl,rfl⟩:=h
 exact (hg _ _ h1 ι w xs hs.amb hs.gLe hx).mono fun e w' ⟨v',h1,h2,h3⟩=>⟨v',ι,h1,h2,h3.after hs hd⟩
theorem PrimOK.addw {prims:Prims} (D6:P.follows .mixedOrders=true) (D7:A0r P) (hp:PrimOK P A prims) (hG:(gN P)<=A.G) {f:FuncId} {g:List AV->Option AV} {fn:Func}
  (hf:P.funcs[f]?=some fn) (hc:fn.body.isSome=true)
  (hg:∀ args v,g args=some v->∃ args' v' n B',(∀ (ι:Emb) (xs:List Value),VRL ι args xs->VRL ι args' xs)/\(∀ (ι:Emb) (x:Value),VR ι v' x->VR ι v x)/\H6 0 args'=true/\below 0 v'=true /\
   (run P prims n).call f args' (Bg (gN P))=some (v',B',[])):PrimOK P A (prims.add f g):=by
 refine hp.lib hf hc fun args v hgv ι w xs hamb hle hxs=>?_
 obtain ⟨args',v',n,B',h1,h2,h3,h4,h5⟩:=hg args v hgv
 exact (A1d D6 D7 hp hG h5 h3 h4 ι w xs hamb hle (h1 ι _ hxs)).mono fun e w' ⟨y,p,q,r⟩=>⟨y,p,h2 ι y q,r⟩
def Tr.plain (B:Heap):Tr AV->Tr (AV × Heap × List Nat)
 | .leaf a=>.leaf (a,B,[])
 | .br b t f=>.br b (t.plain B) (f.plain B)
 | .fail=>.fail
theorem Tr.get_plain {B:Heap}:∀ (t:Tr AV),(t.plain B).get=only B t.get
 | .leaf a=>rfl
 | .br true t f=>by simpa only [Tr.plain,Tr.get] using Tr.get_plain t
 | .br false t f=>by simpa only [Tr.plain,Tr.get] using Tr.get_plain f
 | .fail=>rfl
def Prims.addt (prims:Prims) (f:FuncId) (g:List AV->Tr AV):Prims:=prims.addh f fun args B=>(g args).plain B
theorem PrimOK.addt {prims:Prims} (D6:P.follows .mixedOrders=true) (D7:A0r P) (hp:PrimOK P A prims) (hG:(gN P)<=A.G) {f:FuncId} {g:List AV->Tr AV} {fn:Func}
  (hf:P.funcs[f]?=some fn) (hc:fn.body.isSome=true)
  (hg:∀ args v,(g args).get=some v->∃ args' v' B',(∀ (ι:Emb) (xs:List Value),VRL ι args xs->VRL ι args' xs)/\(∀ (ι:Emb) (x:Value),VR ι v' x->VR ι v x)/\H6 0 args'=true/\below 0 v'=true /\
   Ca P prims f args' (Bg (gN P)) (v',B',[])):PrimOK P A (prims.addt f g):=by
 refine hp.put hf hc fun args B v B' D h=>?_
 rw [Tr.get_plain] at h
 refine ⟨Y6 h,fun ι w xs hs hd _ hx=>?_⟩
 unfold only at h
 simp only [Option.map_eq_some_iff,pI] at h
 obtain ⟨v1,h1,rfl,rfl,rfl⟩:=h
 obtain ⟨args',v',B',h2,h3,h4,h5,h6⟩:=hg args _ h1
 obtain ⟨n,h7⟩:=h6.run
 exact (A1d D6 D7 hp hG h7 h4 h5 ι w xs hs.amb hs.gLe (h2 ι _ hx)).mono fun e w' ⟨y,p,q,r⟩=>⟨y,ι,p,h3 ι y q,r.after hs hd⟩
def G9:KV AV:=fun v _ D=>match D with
 | []=>some v
 | _=>none
theorem Ca.of_finV {prims:Prims} {n:Nat} {f:FuncId} {args:List AV} {B:Heap} {v:AV}
  (h:(C9 P prims n).call f args B G9=some v):∃ B',Ca P prims f args B (v,B',[]):=by
 obtain ⟨v',B',D,h1,h2⟩:=(A4r n).call _ _ _ _ _ h
 unfold G9 at h2
 split at h2
 ·cases h2; exact ⟨B',h1⟩
 ·cases h2
def noPrims:Prims:={ fn:=fun _=>none,ext:=fun _=>none,blk:=fun _=>F8 }
theorem PrimOK.none:PrimOK P A noPrims:=⟨fun f g h=>(by cases h),fun f g h=>(by cases h),fun _=>.none,fun _ _ _ _ _=>.none _⟩
def Prims.addx (prims:Prims) (f:FuncId) (g:List AV->Option AV):Prims:={ prims with ext:=fun x=>if x=f then some g else prims.ext x }
theorem PrimOK.addx {prims:Prims} (hp:PrimOK P A prims) {f:FuncId} {g:List AV->Option AV}
  (hg:∀ args v,g args=some v->∀ (ι:Emb) (w:World) (xs:Array Value),VRL ι args xs.toList->∃ v',(callFunc f xs).run P w=.ok (.value v') w/\VR ι v v'):PrimOK P A (prims.addx f g):=by
 refine ⟨fun x g' hx=>?_,hp.fn,hp.blkfr,hp.blk⟩
 unfold Prims.addx at hx
 simp only at hx
 split at hx
 ·rename_i e; subst e; cases hx; exact hg
 ·exact hp.ext x g' hx
theorem Quiet.refl (w:World):Quiet w w:=⟨Nat.le_refl _,fun _ _=>rfl,rfl,rfl,rfl⟩
end
end Go.Ad
namespace Go.Ad
theorem Quiet.below {w w':World} (h:Quiet w w'):RowKit.Below w.heap.size w w':=⟨h.os,h.tape,h.out,h.size,h.keep⟩
theorem heap_of_shaped {P:Program} {w:World} (h:w.ShapedOpen P) (hs:(decide (P.globals.size < (begin P (fun _ _=>0) default).world.heap.size))=true):(gN P)<=w.heap.size:=by
 obtain ⟨o,_,h1,_⟩:=h.2 P.globals.size (Nat.le_refl _) (of_decide_eq_true hs)
 exact Nat.le_trans (G8s P) (Nat.le_of_lt (Array.getElem?_eq_some_iff.1 h1).1)
def ambOf (w:World):Amb:={ G:=w.heap.size,base:=fun c=>w.heap[c]? }
variable {H:Type} {enc:TypeId × Value->H}
def carries (P:Program) (ts:List TypeId):Bool:=ts.all fun t=>P.readableRec t && decide (t < P.types.size)
theorem B0q {P:Program} (hl:laidOutB P=true) {W W':World} (hb:RowKit.Below W.heap.size W W'):∀ {ts:List TypeId} {vs:List Value} {ds:List (DataW H)} {ps:List MemPlace},
  carries P ts=true->DataW.TrodAll enc P W 0 (fun _=>true) true ts vs ds ps->(∀ x ∈ ps,x.block < W.heap.size)->DataW.TrodAll enc P W' 0 (fun b=>decide (b < W.heap.size)) true ts vs ds ps
 | [],[],[],ps,_,h,_=>h
 | t :: ts,v :: vs,d :: ds,ps,hc,h,hlt=>by
  obtain ⟨p,q,h1,h2,rfl⟩:=h
  simp only [carries,List.all_cons,Bool.and_eq_true,decide_eq_true_eq] at hc
  exact ⟨p,q,RowKit.Below.trod hl hc.1.1 hc.1.2 h1 hb (fun x hx=>hlt x (List.mem_append_left _ hx)),
   B0q hl hb hc.2 h2 (fun x hx=>hlt x (List.mem_append_right _ hx)),rfl⟩
 | [],[],_ :: _,_,_,h,_=>h.elim
 | [],_ :: _,_,_,_,h,_=>h.elim
 | _ :: _,[],_,_,_,h,_=>h.elim
 | _ :: _,_ :: _,[],_,_,h,_=>h.elim
theorem post_true {P:Program} (hl:laidOutB P=true) {fn:Func} {s:ChangeSpec} {W W':World} {args:Array Value} {ds gs:List (DataW H)} {before:List MemPlace} {t:TypeId}
  (hW:DataW.Whole enc P fn.params.toList s.vars false W args.toList ds gs before) (hb:RowKit.Below W.heap.size W W') (hvars:s.vars=[])
  (hres:fn.resultTypes=#[t]) (ht:P.underlying t=some .bool) (hp:carries P fn.params.toList=true)
  (hs:s.fn H ds={ results:=[.lit (.bool true)],args:=ds }):s.post enc P fn false true false false W args (.bool true) W':=by
 have hlt:∀ x ∈ before,x.block < W.heap.size:=fun x hx=>by simpa using hW.lt x hx
 have hW':=hW
 obtain ⟨p,q,hA,hV,rfl,_,_⟩:=hW
 rw [hvars] at hV
 obtain ⟨rfl,rfl⟩:=ChangeShapes.trodVars_none hV
 refine ⟨ds,[],_,[],p,[],hW',?_,?_,?_,hb.frame _,fun h=>by cases h⟩
 ·rw [List.append_nil,hs,hres]; exact ChangeShapes.trodAll_mk1 (RowKit.shut_bool ht _)
 ·rw [List.append_nil,hs]; exact B0q hl hb hp hA (fun x hx=>hlt x (by simpa using hx))
 ·rw [List.append_nil,hs,hvars]; rfl
def cell (k:IntKind) (n lo hi:Int):AV:=if lo=hi then .int k lo else .rng k n lo hi
def valOf:AV->Int
 | .int _ n=>n
 | .rng _ n _ _=>n
 | _=>0
def F4y (a:AV) (p:Int × Int):Bool :=
 match a with
 | .int .i64 n=>decide (p.1<=n) && decide (n<=p.2)
 | .rng .i64 _ lo hi=>decide (p.1<=lo) && decide (hi<=p.2)
 | _=>false
theorem E0b {a:AV} {p:Int × Int} (h:F4y a p=true) {ι:Emb} {x:Value} (hx:VR ι a x):VR ι (.rng .i64 (valOf a) p.1 p.2) x:=by
 unfold F4y at h
 split at h
 ·simp only [Bool.and_eq_true,decide_eq_true_eq] at h
  simp only [VR] at hx ⊢
  exact ⟨hx,h.1,h.2⟩
 ·simp only [Bool.and_eq_true,decide_eq_true_eq] at h
  simp only [VR] at hx ⊢
  exact ⟨hx.1,Int.le_trans h.1 hx.2.1,Int.le_trans hx.2.2 h.2⟩
 ·cases h
def B4l (a:AV):List (Int × Int)->Nat->Option (Nat × (Int × Int))
 | [],_=>none
 | p :: l,i=>if F4y a p then some (i,p) else B4l a l (i+1)
theorem A7h {a:AV}:∀ {l:List (Int × Int)} {i j:Nat} {p:Int × Int},B4l a l i=some (j,p)->F4y a p=true/\i<=j/\l[j - i]?=some p
 | [],_,_,_,h=>by cases h
 | q :: l,i,j,p,h=>by
  unfold B4l at h
  split at h
  ·rename_i hq; cases h; exact ⟨hq,Nat.le_refl _,by simp⟩
  ·obtain ⟨h1,h2,h3⟩:=A7h h
   refine ⟨h1,by omega,?_⟩
   rw [show j - i=(j - (i+1))+1 by omega,List.getElem?_cons_succ]; exact h3
def B0n:List (Int × Int)->Nat->(Nat->Int × Int->Bool)->Bool
 | [],_,_=>true
 | p :: l,i,c=>c i p && B0n l (i+1) c
theorem A9c {c:Nat->Int × Int->Bool}:∀ {l:List (Int × Int)} {i j:Nat} {p:Int × Int},B0n l i c=true->l[j]?=some p->c (i+j) p=true
 | [],_,_,_,_,h=>by simp at h
 | q :: l,i,0,p,h,hp=>by
  simp only [B0n,Bool.and_eq_true] at h
  simp only [List.getElem?_cons_zero,sI] at hp
  subst hp; exact h.1
 | q :: l,i,j+1,p,h,hp=>by
  simp only [B0n,Bool.and_eq_true] at h
  rw [List.getElem?_cons_succ] at hp
  rw [show i+(j+1)=i+1+j by omega]; exact A9c h.2 hp
def isInt (r:A4n) (n:Int):Bool :=
 match r with
 | some (.int .i64 m,_,[])=>m == n
 | _=>false
theorem C8n {r:A4n} {n:Int} (h:isInt r n=true):∃ B,r=some (.int .i64 n,B,[]):=by
 unfold isInt at h
 split at h
 ·exact ⟨_,by rw [eq_of_beq h]⟩
 ·cases h
def C2b:KV Unit:=fun v _ D=>match D with
 | []=>match v with
  | .bool b=>brK b (some ()) none
  | .sbool b=>brK b (some ()) none
  | _=>none
 | _=>none
theorem D6h {v:AV} {B:Heap} {D:List Nat} (h:C2b v B D=some ()):D=[]/\(v=.bool true \/ v=.sbool true):=by
 unfold C2b at h
 split at h
 ·refine ⟨rfl,?_⟩
  split at h
  ·rcases A1i h with ⟨rfl,_⟩ | ⟨_,h⟩
   ·exact .inl rfl
   ·cases h
  ·rcases A1i h with ⟨rfl,_⟩ | ⟨_,h⟩
   ·exact .inr rfl
   ·cases h
  ·cases h
 ·cases h
theorem D2c {P:Program} {prims:Prims} (D6:P.follows .mixedOrders=true) (D7:A0r P) {W:World} (hp:PrimOK P (ambOf W) prims) (hG:(gN P)<=W.heap.size) {n:Nat} {f:FuncId}
  {args:List AV} (h:(C9 P prims n).call f args (Bg (gN P)) C2b=some ()) (hb:H6 0 args=true) (ι:Emb) (xs:Array Value) (hx:VRL ι args xs.toList) :
  Calls P f xs W fun e W'=>e=.returned (.bool true)/\RowKit.Below W.heap.size W W':=by
 obtain ⟨v,B',D,h1,h2⟩:=(A4r n).call _ _ _ _ _ h
 obtain ⟨rfl,hv⟩:=D6h h2
 obtain ⟨m,h3⟩:=h1.run
 refine (A1d D6 D7 hp hG h3 hb (by rcases hv with rfl | rfl <;> rfl) ι W xs (fun _ _=>rfl) (Nat.le_refl _) hx).mono fun e w' ⟨v',h1,h2,h3⟩=>?_
 have hv':v'=.bool true:=by rcases hv with rfl | rfl <;> simpa only [VR] using h2
 exact ⟨by rw [h1,hv'],h3.below⟩
end Go.Ad
namespace Go.Ad
section
variable {P:Program} {A:Amb}
theorem F3l {f:FuncId} {fn:Func} {e:Array Value->Sem Value} (hf:P.funcs[f]?=some fn) (hn:(fn.name == "runtime.NumGoroutine")=false) (hb:fn.body=.none)
  (h1:Extern.findNext fn=.none) (h2:Extern.find fn=some e) {xs:Array Value} {v:Value} {w w':World} (hr:(e xs).run P w=.ok v w'):(callFunc f xs).run P w=.ok (.value v) w':=by
 have hn':¬ fn.name="runtime.NumGoroutine":=by simpa using hn
 simp [callFunc,hf,hn',hb,h1,h2,hr]
def F2c:List AV->Option AV
 | [a]=>some a
 | _=>none
theorem PrimOK.noEscape {prims:Prims} (hp:PrimOK P A prims) {f:FuncId} {fn:Func} (hf:P.funcs[f]?=some fn) (hn:(fn.name == "runtime.NumGoroutine")=false) (hb:fn.body=.none)
  (h1:Extern.findNext fn=.none) (h2:Extern.find fn=some Extern.AbiNoEscape.same):PrimOK P A (prims.addx f F2c):=by
 refine hp.addx fun args v hg ι w xs hx=>?_
 unfold F2c at hg
 split at hg
 ·cases hg
  simp only [VRL] at hx
  obtain ⟨x,l,hxs,hv,rfl⟩:=hx
  have e1:xs=#[x]:=by apply Array.ext'; simpa using hxs
  subst e1
  exact ⟨x,F3l hf hn hb h1 h2 (by rfl),hv⟩
 ·cases hg
end
end Go.Ad
