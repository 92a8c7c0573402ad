/- From a run of the evaluator on nothing but the package's variables to a contract of the machine; and such a function as a known one. -/
import Derived.Test.YtoboneiigikidaaGreatDoorAdSound
import Derived.Test.YtoboneiigikidaaGreatDoorAdK
import Derived.HandedShaped
import Derived.LaidLaws
import Derived.Below
import Derived.ProofKit
import Derived.Stop.Joined
import Derived.Carry
import Derived.ChangeArms
import Derived.Lib.SmallJoins
namespace Go.Ad
def B8p(G:Nat):Emb:=⟨fun g=>if g<G then some ⟨g,0,0,0⟩ else none,fun _=>none⟩
def Bg(G:Nat):Heap:=List.replicate G .dead
theorem A4z(G:Nat):(Bg G).length=G:=by simp[Bg]
section
variable {P:Program} {A:Amb}
theorem H0l{w:World}(G:Nat)(hamb:∀ c,c<A.G->w.heap[c]?=A.base c)(hle:A.G<=w.heap.size)(hG:G<=A.G):Sim A (B8p G) (Bg G) w.heap:=by
 have hdead:∀ (b:Nat) (o:AObj),(Bg G)[b]?=some o->o=AObj.dead:=fun b o hb=>by
  simp only[Bg,List.getElem?_replicate] at hb
  split at hb
  ·simpa using hb.symm
  ·cases hb
 have hZ:∀ b l,B8p G b=some l->b<G/\l=⟨b,0,0,0⟩:=fun b l hl=>by
  change (if b<G then some (⟨b,0,0,0⟩:Loc) else none)=some l at hl
  split at hl
  ·cases hl; exact⟨by assumption,rfl⟩
  ·cases hl
 refine⟨fun b o l hb _=>?_,fun b l hl=>?_,fun b b' l l' o o' _ _ _ hb _ h1 _=>?_,hamb,fun b l o _ hb h1=>?_,hle,fun c v hc=>(by cases hc),fun c v b l o hc=>(by cases hc)⟩
 ·rw[hdead b o hb]; trivial
 ·obtain⟨h1,rfl⟩:=hZ b l hl; show b<_; omega
 ·rw[hdead b o hb] at h1; simp[AObj.own] at h1
 ·rw[hdead b o hb] at h1; simp[AObj.own] at h1
theorem D5s(G:Nat):Dom (B8p G) (Bg G).length:=fun b hb=>by
 rw[A4z] at hb; show(if b<G then some (⟨b,0,0,0⟩:Loc) else none)=none; rw[if_neg (by omega)]
theorem C2p:GlobOK P (B8p (gN P)):=fun g hg=>⟨⟨g,0,0,0⟩,by simp[B8p,hg],rfl,rfl⟩
mutual
theorem C4c{Z Z':Emb}:∀ {a:AV} {v:Value} (_:below 0 a=true) (_:VR Z a v),VR Z' a v
 | .bad,_,_,_=>trivial
 | .bool _,_,_,h | .int _ _,_,_,h | .rng ..,_,_,h | .str _,_,_,h | .sint ..,_,_,h | .sbool _,_,_,h | .sstr _,_,_,h | .lstr ..,_,_,h | .ptr none,_,_,h | .slice none _ _,_,_,h | .map none,_,_,h
 | .nilFunc,_,_,h | .nilIface,_,_,h=>by simpa[VR] using h
 | .flist ..,_,hb,_ | .fptr ..,_,hb,_ | .sslice ..,_,hb,_ | .aslc ..,_,hb,_ | .sptr ..,_,hb,_ | .dptr ..,_,hb,_ | .ptr (some (_,_)),_,hb,_ | .slice (some (_,_)) _ _,_,hb,_ | .map (some _),_,hb,_=>by
  simp[below] at hb
 | .func f xs ys,_,hb,h=>by
  simp only[VR] at h ⊢
  obtain⟨f',xs',ys',h1,h2,h3,h4⟩:=h
  cases f with
  | yield l=>simp[below] at hb
  | _ =>
   simp only[below,bA] at hb
   exact⟨f',xs',ys',h1,h2,A5a hb.1 h3,A5a hb.2 h4⟩
 | .iface _ a,_,hb,h=>by
  simp only[below] at hb
  simp only[VR] at h ⊢; obtain⟨x,h1,h2⟩:=h; exact⟨x,h1,C4c hb h2⟩
 | .agg _,_,hb,h=>by
  simp only[below] at hb
  simp only[VR] at h ⊢; obtain⟨x,h1,h2⟩:=h; exact⟨x,h1,A5a hb h2⟩
 | .tuple _,_,hb,h=>by
  simp only[below] at hb
  simp only[VR] at h ⊢; obtain⟨x,h1,h2⟩:=h; exact⟨x,h1,A5a hb h2⟩
theorem A5a{Z Z':Emb}:∀ {a:List AV} {v:List Value} (_:P7 0 a=true) (_:VRL Z a v),VRL Z' a v
 | [],_,_,h=>by simpa[VRL] using h
 | a::as,_,hb,h=>by
  simp only[P7,bA] at hb
  simp only[VRL] at h ⊢; obtain⟨x,xs,h1,h2,h3⟩:=h
  exact⟨x,xs,h1,C4c hb.1 h2,A5a hb.2 h3⟩
end
theorem C5x{prims:Prims}(F7:P.follows .mixedOrders=true)(F9:A0o P)(hp:PrimOK P A prims)(hG:(gN P)<=A.G){n:Nat}{f:FuncId}{args:List AV}{v:AV}{B':Heap}(h:(run P prims n).call f args (Bg (gN P))=some (v,B',[]))(hb:P7 0 args=true)(hv:below 0 v=true)(Z:Emb)(w:World)(xs:Array Value)(hamb:∀ c,c<A.G->w.heap[c]?=A.base c)(hle:A.G<=w.heap.size)(hx:VRL Z args xs.toList) :
  Calls P f xs w fun e w'=>∃ v',e=.returned v'/\VR Z v v'/\Quiet w w':=by
 have hs:=A5n F7 F9 hp n
 refine(hs.call f _ _ _ _ _ h (B8p (gN P)) w xs (H0l _ hamb hle hG) (D5s _) C2p (A5a hb hx)).mono fun e w'=>?_
 rintro⟨v',Z',rfl,h1,h2⟩
 exact⟨v',rfl,C4c hv h1,⟨h2.step.size,fun c hc=>h2.step.keep c hc (fun _ h=>by cases h),h2.step.tape,h2.step.os,h2.step.out⟩⟩
def Prims.addh(prims:Prims)(f:FuncId)(g:List AV->Heap->Tr (AV×Heap×List Nat)):Prims:={ prims with fn:=fun x=>if x=f then some g else prims.fn x }
def Prims.add(prims:Prims)(f:FuncId)(g:List AV->Option AV):Prims:=prims.addh f fun args B=>.of (only B (g args))
theorem PrimOK.put{prims:Prims}(hp:PrimOK P A prims){f:FuncId}{g:List AV->Heap->Tr (AV×Heap×List Nat)}{fn:Func}(hf:P.funcs[f]?=some fn)(hc:fn.body.isSome=true)(hg:∀ args B v B' D,(g args B).get=some (v,B',D)->AFr B B' D/\∀ (Z:Emb) (w:World) (xs:Array Value),Sim A Z B w.heap->Dom Z B.length->GlobOK P Z->VRL Z args xs.toList ->
   Calls P f xs w fun e w'=>∃ v' Z',e=.returned v'/\VR Z' v v'/\After A Z Z' B B' D w w'):PrimOK P A (prims.addh f g):=by
 refine⟨hp.ext,fun x g' hx=>?_,hp.blkfr,hp.blk⟩
 unfold Prims.addh at hx
 simp only at hx
 split at hx
 ·rename_i e; subst e; cases hx
  exact⟨⟨fn,_,hf,(Option.some_get hc).symm⟩,hg⟩
 ·exact hp.fn x g' hx
theorem PrimOK.lib{prims:Prims}(hp:PrimOK P A prims){f:FuncId}{g:List AV->Option AV}{fn:Func}(hf:P.funcs[f]?=some fn)(hc:fn.body.isSome=true)(hg:∀ args v,g args=some v->∀ (Z:Emb) (w:World) (xs:Array Value),(∀ c,c<A.G->w.heap[c]?=A.base c)->A.G<=w.heap.size->VRL Z args xs.toList ->
   Calls P f xs w fun e w'=>∃ v',e=.returned v'/\VR Z v v'/\Quiet w w'):PrimOK P A (prims.add f g):=by
 refine hp.put hf hc fun args B v B' D h=>?_
 rw[Tr.get_of] at h
 refine⟨A0a h,fun Z w xs hs hd _ hx=>?_⟩
 unfold only at h
 simp only[oM,pI] at h
 obtain⟨v',h1,rfl,rfl,rfl⟩:=h
 exact(hg _ _ h1 Z w xs hs.amb hs.gLe hx).mono fun e w' ⟨v',h1,h2,h3⟩=>⟨v',Z,h1,h2,h3.after hs hd⟩
def Tr.plain(B:Heap):Tr AV->Tr (AV×Heap×List Nat)
 | .leaf a=>.leaf (a,B,[])
 | .br b t f=>.br b (t.plain B) (f.plain B)
 | .fail=>.fail
theorem Tr.get_plain{B:Heap}:∀ (t:Tr AV),(t.plain B).get=only B t.get
 | .leaf a=>rfl
 | .br true t f=>by simpa only[Tr.plain,Tr.get] using Tr.get_plain t
 | .br false t f=>by simpa only[Tr.plain,Tr.get] using Tr.get_plain f
 | .fail=>rfl
def Prims.addt(prims:Prims)(f:FuncId)(g:List AV->Tr AV):Prims:=prims.addh f fun args B=>(g args).plain B
def F8:KV AV:=fun v _ D=>match D with
 | []=>some v
 | _=>none
theorem Ca.of_finV{prims:Prims}{n:Nat}{f:FuncId}{args:List AV}{B:Heap}{v:AV}(h:(D5 P prims n).call f args B F8=some v):∃ B',Ca P prims f args B (v,B',[]):=by
 obtain⟨v',B',D,h1,h2⟩:=(A3w n).call _ _ _ _ _ h
 unfold F8 at h2
 split at h2
 ·cases h2; exact⟨B',h1⟩
 ·cases h2
def noPrims:Prims:={ fn:=fun _=>none,ext:=fun _=>none,blk:=fun _=>A8f }
theorem PrimOK.none:PrimOK P A noPrims:=⟨fun f g h=>(by cases h),fun f g h=>(by cases h),fun _=>.none,fun _ _ _ _ _=>.none _⟩
def Prims.addx(prims:Prims)(f:FuncId)(g:List AV->Option AV):Prims:={ prims with ext:=fun x=>if x=f then some g else prims.ext x }
theorem PrimOK.addx{prims:Prims}(hp:PrimOK P A prims){f:FuncId}{g:List AV->Option AV}(hg:∀ args v,g args=some v->∀ (Z:Emb) (w:World) (xs:Array Value),VRL Z args xs.toList->∃ v',(callFunc f xs).run P w=.ok (.value v') w/\VR Z v v'):PrimOK P A (prims.addx f g):=by
 refine⟨fun x g' hx=>?_,hp.fn,hp.blkfr,hp.blk⟩
 unfold Prims.addx at hx
 simp only at hx
 split at hx
 ·rename_i e; subst e; cases hx; exact hg
 ·exact hp.ext x g' hx
theorem Quiet.refl(w:World):Quiet w w:=⟨lR _,fun _ _=>rfl,rfl,rfl,rfl⟩
end
end Go.Ad
namespace Go.Ad
theorem heap_of_shaped{P:Program}{w:World}(h:w.ShapedOpen P)(hs:(decide (P.globals.size<(begin P (fun _ _=>0) default).world.heap.size))=true):(gN P)<=w.heap.size:=by
 obtain⟨o,_,h1,_⟩:=h.2 P.globals.size (lR _) (of_decide_eq_true hs)
 exact Nat.le_trans (G6o P) (Nat.le_of_lt (gA.1 h1).1)
def ambOf(w:World):Amb:={ G:=w.heap.size,base:=fun c=>w.heap[c]? }
variable {H:Type} {enc:TypeId×Value->H}
theorem returnsInHanded_of_law{C:Checked}{os:Os}{f:FuncId}{fn:Func}{s:ChangeSpec}{conds:List PathCond}{apart fresh handsOn again:Bool}{laid:List (String×DataW Unit)}(own:ownKnob C.prog.godebug=none)(started:os.Started)(noInit:C.prog.inits.idxOf? f=none)(hfn:C.prog.funcs[f]?=some fn)(witness:∃ (w:World) (tape:Tape) (i:Input),w.os=os/\(w.forCall tape i).Shaped C.prog/\i.vars=[]/\Input.okWide C.prog (w.forCall tape i) .any w.heap.size f i /\
   ((s.pre enc C.prog fn conds apart (w.forCall tape i).memory i.args/\laidMetH C.prog laid (w.forCall tape i).memory)/\sizedMet enc C.prog fn (OpenSpec.ofChange s) apart (w.forCall tape i).memory i.args)/\({}:Assume).holds C.prog (lone (Frame.enter C.prog f i.args .normal) [] (w.forCall tape i)))(contract:∀ (W:World) (base:Nat) (args:Array Value) (ds gs:List (DataW H)) (before:List MemPlace),
   (∀ (j:Nat) t v,fn.params[j]?=some t->args[j]?=some v->Value.okWide C.prog W .any base t v) ->
   DataW.Whole enc C.prog fn.params.toList s.vars apart W args.toList ds gs before ->
   laidMetH C.prog laid W->W.ShapedOpen C.prog ->
   Calls C.prog f args W fun e W'=>∃ v,e=.returned v/\s.post enc C.prog fn apart fresh handsOn again W args v W') :
  ReturnsInHanded {} C os f .any (fun w args=>(s.pre enc C.prog fn conds apart w args/\laidMetH C.prog laid w)/\sizedMet enc C.prog fn (OpenSpec.ofChange s) apart w args) (s.post enc C.prog fn apart fresh handsOn again):=by
 refine returnsInHanded_of_calls own started noInit witness ?_
 intro w tape i _ hsh _ hok hpre hholds
 obtain⟨_,_,_,fn',hfn',_,_,_,_,hval⟩:=hok
 have e:fn'=fn:=Option.some.inj (hfn'.symm.trans hfn)
 subst e
 obtain⟨⟨⟨ds,gs,before,hw,hc⟩,hx⟩,hz⟩:=hpre
 have hw':=DataW.Whole.of_heap (w':=w.forCall tape i) (by rfl) hw
 refine(contract (w.forCall tape i) w.heap.size i.args ds gs before hval hw' (laidMetH.of_heap (by rfl) hx) hsh).mono fun e W' ⟨v,he,hp⟩=>?_
 subst he
 exact ChangeSpec.post_blind hp
def carries(P:Program)(ts:List TypeId):Bool:=ts.all fun t=>P.readableRec t&&decide (t<P.types.size)
theorem A9v{P:Program}(hl:laidOutB P=true){W W':World}(hb:RowKit.Below W.heap.size W W'):∀ {ts:List TypeId} {vs:List Value} {ds:List (DataW H)} {ps:List MemPlace},
  carries P ts=true->DataW.TrodAll enc P W 0 (fun _=>true) true ts vs ds ps->(∀ x∈ps,x.block<W.heap.size)->DataW.TrodAll enc P W' 0 (fun b=>decide (b<W.heap.size)) true ts vs ds ps
 | [],[],[],ps,_,h,_=>h
 | t::ts,v::vs,d::ds,ps,hc,h,hlt=>by
  obtain⟨p,q,h1,h2,rfl⟩:=h
  simp only[carries,List.all_cons,bA,dQ] at hc
  exact⟨p,q,RowKit.Below.trod hl hc.1.1 hc.1.2 h1 hb (fun x hx=>hlt x (List.mem_append_left _ hx)),
   A9v hl hb hc.2 h2 (fun x hx=>hlt x (List.mem_append_right _ hx)),rfl⟩
 | [],[],_::_,_,_,h,_=>h.elim
 | [],_::_,_,_,_,h,_=>h.elim
 | _::_,[],_,_,_,h,_=>h.elim
 | _::_,_::_,[],_,_,h,_=>h.elim
theorem post_true{P:Program}(hl:laidOutB P=true){fn:Func}{s:ChangeSpec}{W W':World}{args:Array Value}{ds gs:List (DataW H)}{before:List MemPlace}{t:TypeId}(hW:DataW.Whole enc P fn.params.toList s.vars false W args.toList ds gs before)(hb:RowKit.Below W.heap.size W W')(hvars:s.vars=[])(hres:fn.resultTypes=#[t])(ht:P.underlying t=some .bool)(hp:carries P fn.params.toList=true)(hs:s.fn H ds={ results:=[.lit (.bool true)],args:=ds }):s.post enc P fn false true false false W args (.bool true) W':=by
 have hlt:∀ x∈before,x.block<W.heap.size:=fun x hx=>by simpa using hW.lt x hx
 have hW':=hW
 obtain⟨p,q,hA,hV,rfl,_,_⟩:=hW
 rw[hvars] at hV
 obtain⟨rfl,rfl⟩:=ChangeShapes.trodVars_none hV
 refine⟨ds,[],_,[],p,[],hW',?_,?_,?_,hb.frame _,fun h=>by cases h⟩
 ·rw[List.append_nil,hs,hres]; exact ChangeShapes.trodAll_mk1 (RowKit.shut_bool ht _)
 ·rw[List.append_nil,hs]; exact A9v hl hb hp hA (fun x hx=>hlt x (by simpa using hx))
 ·rw[List.append_nil,hs,hvars]; rfl
def cell(k:IntKind)(n lo hi:Int):AV:=if lo=hi then .int k lo else .rng k n lo hi
def D1n:KV Unit:=fun v _ D=>match D with
 | []=>match v with
  | .bool b=>brK b (some ()) none
  | .sbool b=>brK b (some ()) none
  | _=>none
 | _=>none
theorem D6f{v:AV}{B:Heap}{D:List Nat}(h:D1n v B D=some ()):D=[]/\(v=.bool true \/ v=.sbool true):=by
 unfold D1n at h
 split at h
 ·refine⟨rfl,?_⟩
  split at h
  ·rcases A1y h with⟨rfl,_⟩ | ⟨_,h⟩
   ·exact .inl rfl
   ·cases h
  ·rcases A1y h with⟨rfl,_⟩ | ⟨_,h⟩
   ·exact .inr rfl
   ·cases h
  ·cases h
 ·cases h
end Go.Ad
namespace Go.Ad
section
variable {P:Program} {A:Amb}
theorem D9u{f:FuncId}{fn:Func}{e:Array Value->Sem Value}(hf:P.funcs[f]?=some fn)(hn:(fn.name=="runtime.NumGoroutine")=false)(hb:fn.body=.none)(h1:Extern.findNext fn=.none)(h2:Extern.find fn=some e){xs:Array Value}{v:Value}{w w':World}(hr:(e xs).run P w=.ok v w'):(callFunc f xs).run P w=.ok (.value v) w':=by
 have hn':¬ fn.name="runtime.NumGoroutine":=by simpa using hn
 simp[callFunc,hf,hn',hb,h1,h2,hr]
def E6g:List AV->Option AV
 | [a]=>some a
 | _=>none
theorem PrimOK.noEscape{prims:Prims}(hp:PrimOK P A prims){f:FuncId}{fn:Func}(hf:P.funcs[f]?=some fn)(hn:(fn.name=="runtime.NumGoroutine")=false)(hb:fn.body=.none)(h1:Extern.findNext fn=.none)(h2:Extern.find fn=some Extern.AbiNoEscape.same):PrimOK P A (prims.addx f E6g):=by
 refine hp.addx fun args v hg Z w xs hx=>?_
 unfold E6g at hg
 split at hg
 ·cases hg
  simp only[VRL] at hx
  obtain⟨x,l,hxs,hv,rfl⟩:=hx
  have e1:xs=#[x]:=by apply Array.ext'; simpa using hxs
  subst e1
  exact⟨x,D9u hf hn hb h1 h2 (by rfl),hv⟩
 ·cases hg
end
end Go.Ad
