/- Loops: what the direct evaluator gives for a loop, from what it gives for one round. -/
import Derived.Test.YtoboneiigikidaaGreatDoorAdK
import Derived.Test.YtoboneiigikidaaGreatDoorAdPrim
namespace Go.Ad
section
variable {P:Program} {prims:Prims} {bp:Bps}
abbrev Ec(P:Program)(prims:Prims)(bp:Bps)(c:Code)(U:List AV)(B:Heap)(y:AEx×List AV×Heap×List Nat):Prop:=Ev P prims (fun r=>J7 P r bp c U B) y
end
end Go.Ad
namespace Go.Ad
section
variable {P:Program} {A:Amb}
structure St where
 U:List AV
 B:Heap
 D:List Nat
def SEB(P:Program)(A:Amb)(B0:Heap)(c:Code)(s:St)(e:AEx)(s':St):Prop :=
 ∀ Z0 w0 Z w (b:Frame) t ds k cs,Dom Z0 B0.length->GlobOK P Z0->After A Z0 Z B0 s.B s.D w0 w->VRL Z s.U t.toList->∀ N,N<=w0.heap.size->DOK N w ds->RoundOK b w0->b.kind=.normal ->
  ∃ Z' w' t' ds',Arr P (lone (F b t ds (.code c::k)) cs w) b k cs e t' ds' w'/\After A Z0 Z' B0 s'.B s'.D w0 w'/\VRL Z' s'.U t'.toList/\DOK N w' ds'
def Wk(A:Amb)(B0:Heap)(s s2:St):Prop :=
 ∀ Z0 w0 Z w (t:Array Value),Dom Z0 B0.length->After A Z0 Z B0 s.B s.D w0 w->VRL Z s.U t.toList->∃ Z2,After A Z0 Z2 B0 s2.B s2.D w0 w/\VRL Z2 s2.U t.toList
variable {B0:Heap} {c:Code} {s s' s1 s2:St} {e:AEx}
theorem Wk.refl:Wk A B0 s s:=fun _ _ Z _ _ _ h hv=>⟨Z,h,hv⟩
theorem Wk.trans(h:Wk A B0 s s1)(h':Wk A B0 s1 s2):Wk A B0 s s2:=fun Z0 w0 Z w t hd ha hv=>by
 obtain⟨Z1,h1,h2⟩:=h Z0 w0 Z w t hd ha hv
 exact h' Z0 w0 Z1 w t hd h1 h2
theorem SEB.wk_in(h:Wk A B0 s s1)(h':SEB P A B0 c s1 e s'):SEB P A B0 c s e s':=fun Z0 w0 Z w b t ds k cs hd hg ha hv N hN hds hrd hk=>by
 obtain⟨Z1,h1,h2⟩:=h Z0 w0 Z w t hd ha hv
 exact h' Z0 w0 Z1 w b t ds k cs hd hg h1 h2 N hN hds hrd hk
theorem SEB.wk_out(h:SEB P A B0 c s e s1)(h':Wk A B0 s1 s'):SEB P A B0 c s e s':=fun Z0 w0 Z w b t ds k cs hd hg ha hv N hN hds hrd hk=>by
 obtain⟨Z1,w1,t1,ds1,h1,h2,h3,h4⟩:=h Z0 w0 Z w b t ds k cs hd hg ha hv N hN hds hrd hk
 obtain⟨Z2,h5,h6⟩:=h' Z0 w0 Z1 w1 t1 hd h2 h3
 exact⟨Z2,w1,t1,ds1,h1,h5,h6,h4⟩
theorem Wk.temps{U U2:List AV}{B:Heap}{D:List Nat}(h:∀ (Z:Emb) (l:List Value),VRL Z U l->VRL Z U2 l):Wk A B0 ⟨U,B,D⟩ ⟨U2,B,D⟩:=fun _ _ Z _ _ _ ha hv=>⟨Z,ha,h Z _ hv⟩
theorem Wk.dirty{U:List AV}{B:Heap}{D D2:List Nat}(h:∀ b,b∈D->b∈D2):Wk A B0 ⟨U,B,D⟩ ⟨U,B,D2⟩:=fun Z0 w0 Z w t _ ha hv=>by
 refine⟨Z,⟨⟨ha.step.ext,fun b l p q=>?_,ha.step.size,fun c hc hD=>ha.step.keep c hc fun b hb=>hD b (h b hb),ha.step.loops,ha.step.defs,ha.step.tape,ha.step.os,ha.step.out,fun c v q1 q2=>(ha.step.fdom c v q1 q2).imp id fun⟨b0,q3,q4⟩=>⟨b0,h b0 q3,q4⟩⟩,ha.sim,ha.dom,ha.fr.1,fun b hb hn=>ha.fr.2 b hb fun hm=>hn (h b hm)⟩,hv⟩
 obtain⟨p1,p2,p3⟩:=ha.step.dom b l p q
 refine⟨p1,p2,?_⟩
 rcases p3 with p3 | ⟨b0,q1,q2⟩
 ·exact .inl p3
 ·exact .inr ⟨b0,h b0 q1,q2⟩
theorem SEB.of_Ec{prims:Prims}{bp:Bps}(F7:P.follows .mixedOrders=true)(F9:A0o P)(hp:PrimOK P A prims)(hb:BlkOK P A bp c){U U':List AV}{B B':Heap}{D D':List Nat}(h:Ec P prims bp c U B (e,U',B',D')):SEB P A B0 c ⟨U,B,D⟩ e ⟨U',B',D++D'⟩:=by
 intro Z0 w0 Z w b t ds k cs hd hg ha hv N hN hds hrd hk
 obtain⟨n,h⟩:=h
 obtain⟨Z1,w1,t1,ds1,s1,s2,s3,s4⟩:=A7v F7 (A5n F7 F9 hp n) (B3y P hp.fr n) bp c hb _ _ _ _ _ _ (h n (lR _)) Z w b t ds k cs ha.sim ha.dom (hg.mono ha.step.ext) hv N (Nat.le_trans hN ha.step.size) hds
  (hrd.keep ha.step) hk
 exact⟨Z1,w1,t1,ds1,s1,ha.trans s2,s3,s4⟩
theorem SEB.loop_next(h1:SEB P A B0 c s .normal s1)(h2:SEB P A B0 (.loop c) s1 e s2):SEB P A B0 (.loop c) s e s2:=by
 intro Z0 w0 Z w b t ds k cs hd hg ha hv N hN hds hrd hk
 obtain⟨Z1,w1,t1,ds1,a1,a2,a3,a4⟩:=h1 Z0 w0 Z w b t ds (.inLoop c::k) cs hd hg ha hv N hN hds hrd hk
 obtain⟨Z2,w2,t2,ds2,q1,q2,q3,q4⟩:=h2 Z0 w0 Z1 w1 b t1 ds1 k cs hd hg a2 a3 N hN a4 hrd hk
 exact⟨Z2,w2,t2,ds2,.head (.head go_loop a1) (C9q q1),q2,q3,q4⟩
theorem SEB.loop_exit(h1:SEB P A B0 c s e s1)(he:e≠.normal):SEB P A B0 (.loop c) s e s1:=by
 intro Z0 w0 Z w b t ds k cs hd hg ha hv N hN hds hrd hk
 obtain⟨Z1,w1,t1,ds1,a1,a2,a3,a4⟩:=h1 Z0 w0 Z w b t ds (.inLoop c::k) cs hd hg ha hv N hN hds hrd hk
 refine⟨Z1,w1,t1,ds1,.head (.one go_loop) ?_,a2,a3,a4⟩
 cases e with
 | normal=>exact(he rfl).elim
 | exit id=>obtain⟨todo,p,q⟩:=a1; exact⟨todo,p,q.trans rfl⟩
 | ret=>exact a1
theorem SEB.block_exit{id:Nat}(h1:SEB P A B0 c s (.exit id) s1):SEB P A B0 (.block id c) s .normal s1:=by
 intro Z0 w0 Z w b t ds k cs hd hg ha hv N hN hds hrd hk
 obtain⟨Z1,w1,t1,ds1,⟨todo,a1,a1'⟩,a2,a3,a4⟩:=h1 Z0 w0 Z w b t ds (.inBlock id::k) cs hd hg ha hv N hN hds hrd hk
 refine⟨Z1,w1,t1,ds1,?_,a2,a3,a4⟩
 have:exitTo id (.inBlock id::k)=some k:=by simp[exitTo]
 exact(Steps.one A5i).trans (a1.trans (.one (C6l (a1'.trans this))))
theorem SEB.block_other{id:Nat}(h1:SEB P A B0 c s e s1)(he:e≠.exit id):SEB P A B0 (.block id c) s e s1:=by
 intro Z0 w0 Z w b t ds k cs hd hg ha hv N hN hds hrd hk
 obtain⟨Z1,w1,t1,ds1,a1,a2,a3,a4⟩:=h1 Z0 w0 Z w b t ds (.inBlock id::k) cs hd hg ha hv N hN hds hrd hk
 refine⟨Z1,w1,t1,ds1,.head (.one A5i) ?_,a2,a3,a4⟩
 cases e with
 | normal=>exact Steps.trans a1 (.one B0i)
 | exit id' =>
  obtain⟨todo,p,q⟩:=a1
  have hn:(id==id')=false:=by simp; exact fun h=>he (by rw[h])
  exact⟨todo,p,q.trans (by simp[exitTo,hn])⟩
 | ret=>exact a1
theorem SEB.code{U U':List AV}{B B':Heap}{D':List Nat}(h:SEB P A B c ⟨U,B,[]⟩ e ⟨U',B',D'⟩) :
  ∀ Z w (b:Frame) t ds k cs,Sim A Z B w.heap->Dom Z B.length->GlobOK P Z->VRL Z U t.toList->∀ N,N<=w.heap.size->DOK N w ds->RoundOK b w->b.kind=.normal ->
   ∃ Z' w' t' ds',Arr P (lone (F b t ds (.code c::k)) cs w) b k cs e t' ds' w'/\After A Z Z' B B' D' w w'/\VRL Z' U' t'.toList/\DOK N w' ds' :=
 fun Z w b t ds k cs hs hd hg hv N hN hds hrd hk=>h Z w Z w b t ds k cs hd hg (.refl hs hd) hv N hN hds hrd hk
end
end Go.Ad
namespace Go.Ad
section
variable {P:Program} {A:Amb} {B0:Heap} {c:Code} {s s' s1 s2:St} {e:AEx}
def canon(live:List Tmp):Nat->List AV->List AV
 | _,[]=>[]
 | i,a::r=>(if live.contains i then a else .bad)::canon live (i+1) r
theorem C1s{live:List Tmp}{Z:Emb}:∀ {i:Nat} {U:List AV} {l:List Value},VRL Z U l->VRL Z (canon live i U) l
 | _,[],_,h=>by simpa[canon,VRL] using h
 | i,a::r,l,h=>by
  simp only[VRL,canon] at h ⊢
  obtain⟨x,xs,h1,h2,h3⟩:=h
  refine⟨x,xs,h1,?_,C1s h3⟩
  split
  ·exact h2
  ·simp only[VR]
def E8c(live:List Tmp):KE (AEx×List AV×Heap×List Nat):=fun e U B D=>some (e,canon live 0 U,B,D)
theorem SEB.of_K{prims:Prims}{bp:Bps}(F7:P.follows .mixedOrders=true)(F9:A0o P)(hp:PrimOK P A prims)(hb:BlkOK P A bp c){U U':List AV}{B B':Heap}{D D':List Nat}{n:Nat}{live:List Tmp}(h:E8 P (D5 P prims n) bp c U B (E8c live)=some (e,U',B',D')):SEB P A B0 c ⟨U,B,D⟩ e ⟨U',B',D++D'⟩:=by
 obtain⟨e1,U1,B1,D1,h1,h2⟩:=A3n (A3w n) h
 simp only[E8c,sI,pI] at h2
 obtain⟨rfl,rfl,rfl,rfl⟩:=h2
 exact(SEB.of_Ec F7 F9 hp hb h1).wk_out (.temps fun Z l hl=>C1s hl)
theorem Wk.objs{U:List AV}{B B2:Heap}{D D2:List Nat}(hD:∀ b,b∈D->b∈D2)(hlen:B2.length=B.length)(ho:∀ (b:Nat) (o2:AObj),B2[b]?=some o2->∃ o:AObj,B[b]?=some o/\(∀ (Z:Emb) (h:Array Obj) (l:Loc),OR Z h l o->OR Z h l o2)/\(o2.own=true->o.own=true)/\(o2.live=true->o.live=true))(hfr:∀ b:Nat,b<B0.length->b∉D2->B2[b]?=B[b]?):Wk A B0 ⟨U,B,D⟩ ⟨U,B2,D2⟩:=fun Z0 w0 Z w t hd ha hv=>by
 obtain⟨Z1,ha1,hv1⟩:=Wk.dirty hD Z0 w0 Z w t hd ha hv
 have hst:=ha1.step
 refine⟨Z1,⟨by rw[hlen]; exact hst,⟨fun b o2 l hb hl=>?_,ha1.sim.lt,fun b b' l l' o o' hne hl hl' hb hb' h1 h2=>?_,ha1.sim.amb,fun b l o hl hb h1=>?_,ha1.sim.gLe,ha1.sim.fzOK,fun c v b l o hc hl hb h1=>?_⟩,by rw[hlen]; exact ha1.dom,?_⟩,hv1⟩
 ·obtain⟨o,q1,q2,_⟩:=ho b o2 hb
  exact q2 _ _ _ (ha1.sim.obj b o l q1 hl)
 ·obtain⟨p,q1,_,q3,_⟩:=ho b o hb
  obtain⟨p',q1',_,_,q4'⟩:=ho b' o' hb'
  exact ha1.sim.own b b' l l' p p' hne hl hl' q1 q1' (q3 h1) (q4' h2)
 ·obtain⟨p,q1,_,q3,_⟩:=ho b o hb
  exact ha1.sim.ownG b l p hl q1 (q3 h1)
 ·obtain⟨p,q1,_,q3,_⟩:=ho b o hb
  exact ha1.sim.fzSep c v b l p hc hl q1 (q3 h1)
 ·exact⟨by rw[hlen]; exact ha1.fr.1,fun b hb hn=>(hfr b hb hn).trans (ha1.fr.2 b hb hn)⟩
end
end Go.Ad
namespace Go.Ad
section
variable {P:Program} {A:Amb} {B0:Heap}
theorem OR.soften{Z:Emb}{h:Array Obj}{l:Loc}{n es:Nat}{c:List AV}{row:Nat->List AV}{ty:TypeId}(hes:0<es)(hrow:∀ i,i<n->(row i).length=es/\(row i).all A0h=true)(hlen:c.length=n*es)(hw:∀ (i j:Nat) (a:AV),i<n->(row i)[j]?=some a->∃ a0,c[i*es+j]?=some a0/\∀ v,VR Z a0 v->VR Z a v)(ho:OR Z h l (.cells c es true ty)):OR Z h l (.vec n row es ty):=by
 obtain⟨h0,arr,e,fz,h1,h2,h3,h4,h5⟩:=ho
 have hl':∀ i,i<n->(row i).length=es:=fun i hi=>(hrow i hi).1
 have hfl:=G8 hl'
 refine⟨⟨hes,hrow⟩,h0,arr,ty,fz,h1,h2,by rw[hfl,<- hlen]; exact h3,fun i a hi=>?_,fun _=>⟨rfl,(h5 rfl).2⟩⟩
 have hi0:i<n*es:=by
  have:=(gS.1 hi).1
  rwa [hfl] at this
 have hm:i%es<es:=Nat.mod_lt _ hes
 have hd:i / es<n:=Nat.div_lt_of_lt_mul (by rw[Nat.mul_comm]; exact hi0)
 have hsplit:i=i / es*es+i%es:=by have:=Nat.div_add_mod i es; rw[Nat.mul_comm] at this; exact this.symm
 have hi2:(row (i / es))[i%es]?=some a:=by rw[<- flat_get hm hl' hd,<- hsplit]; exact hi
 obtain⟨a0,q1,q2⟩:=hw _ _ a hd hi2
 rw[<- hsplit] at q1
 obtain⟨v,p1,p2⟩:=h4 i a0 q1
 exact⟨v,p1,q2 v p2⟩
end
end Go.Ad
namespace Go.Ad
abbrev Sh:=Nat->Nat×Nat
def Loc.shift(l:Loc)(d:Nat):Loc:={ l with d:=l.d+d }
structure RelS (Z Z0:Emb) (σ:Sh) (m:Nat):Prop where
 bl:∀ b,b<m->Z0 b=(Z (σ b).1).map (·.shift (σ b).2)
 fz:Z0.fz=Z.fz
instance {Z Z0:Emb} {σ:Sh} {m:Nat}:CoeFun (RelS Z Z0 σ m) fun _=>∀ b,b<m->Z0 b=(Z (σ b).1).map (·.shift (σ b).2):=⟨RelS.bl⟩
variable {P:Program} {A:Amb} {prims:Prims}
end Go.Ad
namespace Go.Ad
section
variable {P:Program} {A:Amb} {B0:Heap} {c c':Code} {s s' s1 s2:St} {e:AEx}
theorem SEB.seq(h1:SEB P A B0 c s .normal s1)(h2:SEB P A B0 c' s1 e s2):SEB P A B0 (.seq c c') s e s2:=by
 intro Z0 w0 Z w b t ds k cs hd hg ha hv N hN hds hrd hk
 obtain⟨Z1,w1,t1,ds1,a1,a2,a3,a4⟩:=h1 Z0 w0 Z w b t ds (.code c'::k) cs hd hg ha hv N hN hds hrd hk
 obtain⟨Z2,w2,t2,ds2,q1,q2,q3,q4⟩:=h2 Z0 w0 Z1 w1 b t1 ds1 k cs hd hg a2 a3 N hN a4 hrd hk
 exact⟨Z2,w2,t2,ds2,.head (.head A6k a1) q1,q2,q3,q4⟩
theorem A4v{f:FuncId}{fn:Func}{c:Code}(hf:P.funcs[f]?=some fn)(hc:fn.body=some c){args vs:List AV}{B:Heap}{s':St}(h:SEB P A B c ⟨args++List.replicate (fn.ntmps-args.length) H7,B,[]⟩ e s')(he:∀ id,e≠.exit id)(hr:X5 P s'.B s'.U fn.results.toList=some vs)(Z:Emb)(w:World)(xs:Array Value)(hs:Sim A Z B w.heap)(hd:Dom Z B.length)(hg:GlobOK P Z)(hx:VRL Z args xs.toList) :
  Calls P f xs w fun e w'=>∃ v' Z',e=.returned v'/\VR Z' (A1s vs) v'/\After A Z Z' B s'.B s'.D w w':=by
 intro cs
 let b0:Frame:={ (default:Frame) with fn:=f,kind:=.normal }
 have henter:Frame.enter P f xs .normal=F b0 (xs++Array.replicate (fn.ntmps-xs.size) undef) [] [.code c]:=by
  simp[Frame.enter,F,hf,hc,b0]
  rfl
 have hlen:xs.size=args.length:=by have:=hx.length; simpa using this
 have hv0:VRL Z (args++List.replicate (fn.ntmps-args.length) H7) (xs++Array.replicate (fn.ntmps-xs.size) undef).toList:=by
  have:=hx.append (VRL.replicate (Z:=Z) X9 (fn.ntmps-args.length))
  simpa[hlen] using this
 obtain⟨Z1,w1,t1,ds1,s1,s2,s3,s4⟩:=h Z w Z w b0 _ [] [] cs hd hg (.refl hs hd) hv0 w.heap.size (lR _) ⟨[],List.nodup_nil,rfl,fun _ h=>by cases h⟩
  (fun l hl=>by cases hl) rfl
 rw[<- henter] at s1
 have hret:∃ todo,Steps P (lone (Frame.enter P f xs .normal) cs w) (lone { F b0 t1 ds1 todo with mode:=.returning } cs w1):=by
  cases e with
  | normal=>exact⟨[],Steps.trans s1 (.one (E6j rfl))⟩
  | ret=>obtain⟨todo,s1⟩:=s1; exact⟨_,s1.trans (.one (go_ret rfl))⟩
  | exit id=>exact(he id rfl).elim
 obtain⟨todo,hsteps⟩:=hret
 obtain⟨rs,n1,n2,n3⟩:=s4
 subst n2
 obtain⟨w2,u1,u2,u3,u4,u5,u6⟩:=B1b (P:=P) (b:=b0) (t:=t1) (todo:=todo) (cs:=cs) rs w1 n1 fun r hr=>(n3 r hr).2
 have haft:=s2.unwind hs.gLe n3 u2 u3 u4 u5 u6
 obtain⟨y,hy,hyv⟩:=B4v (P:=P) (fn:=fn) haft.sim s3 hr
 exact⟨.returned y,w2,{ F b0 t1 [] todo with mode:=.returning },⟨y,Z1,rfl,hyv,haft⟩,hsteps.trans u1,rfl,rfl,rfl,rfl,fn,hf,hy⟩
theorem Wk.clean{U:List AV}{B:Heap}{D:List Nat}:Wk A B0 ⟨U,B,D⟩ ⟨U,B,D.filter (·<B0.length)⟩:=fun Z0 w0 Z w t hd ha hv=>by
 refine⟨Z,⟨⟨ha.step.ext,fun b l p q=>?_,ha.step.size,fun c hc hD=>ha.step.keep c hc fun b hb l hl=>?_,ha.step.loops,ha.step.defs,ha.step.tape,ha.step.os,ha.step.out,fun c v q1 q2=>(ha.step.fdom c v q1 q2).imp id fun⟨b0,q3,l0,q4,q5⟩=>⟨b0,M7 q3 (Nat.lt_of_not_le fun hle=>by rw[hd b0 hle] at q4; cases q4),l0,q4,q5⟩⟩,ha.sim,ha.dom,
  ha.fr.1,fun b hb hn=>ha.fr.2 b hb fun hm=>hn (M7 hm hb)⟩,hv⟩
 ·obtain⟨p1,p2,p3⟩:=ha.step.dom b l p q
  refine⟨p1,p2,?_⟩
  rcases p3 with p3 | ⟨b0,q1,l0,q2,q3⟩
  ·exact .inl p3
  ·have:b0<B0.length:=Nat.lt_of_not_le fun hle=>by rw[hd b0 hle] at q2; cases q2
   exact .inr ⟨b0,M7 q1 this,l0,q2,q3⟩
 ·have:b<B0.length:=Nat.lt_of_not_le fun hle=>by rw[hd b hle] at hl; cases hl
  exact hD b (M7 hb this) l hl
def Prims.addb(prims:Prims)(f:FuncId)(id:Nat)(g:List AV->Heap->Tr (AEx×List AV×Heap×List Nat)):Prims :=
 { prims with blk:=fun x=>if x=f then fun i=>if i=id then some g else prims.blk x i else prims.blk x }
theorem PrimOK.addb{prims:Prims}(hp:PrimOK P A prims){f:FuncId}{id:Nat}{g:List AV->Heap->Tr (AEx×List AV×Heap×List Nat)}{fn:Func}{c body:Code}(hf:P.funcs[f]?=some fn)(hc:fn.body=some c)(hb:(blocks c).filter (fun p=>p.1==id)=[(id,body)])(hg:∀ U B e U' B' D,(g U B).get=some (e,U',B',D)->AFr B B' D/\SEB P A B (.block id body) ⟨U,B,[]⟩ e ⟨U',B',D⟩):PrimOK P A (prims.addb f id g):=by
 refine⟨hp.ext,hp.fn,fun x=>?_,fun x fn' c' hf' hc'=>?_⟩
 ·by_cases hx:x=f
  ·subst hx
   intro i g' hi U B e U' B' D h
   simp only[Prims.addb,if_true] at hi
   split at hi
   ·cases hi; exact(hg _ _ _ _ _ _ h).1
   ·exact hp.blkfr x i g' hi U B e U' B' D h
  ·have:(prims.addb f id g).blk x=prims.blk x:=by simp only[Prims.addb,if_neg hx]
   rw[this]; exact hp.blkfr x
 ·by_cases hx:x=f
  ·subst hx
   rw[hf] at hf'; cases hf'
   rw[hc] at hc'; cases hc'
   intro p hpm g' hi
   simp only[Prims.addb,if_true] at hi
   split at hi
   ·rename_i e
    cases hi
    have hm:p∈(blocks c).filter (fun p=>p.1==id):=List.mem_filter.2 ⟨hpm,by simp[e]⟩
    rw[hb] at hm
    simp only[List.mem_singleton] at hm
    subst hm
    intro U B e U' B' D h
    exact SEB.code (hg _ _ _ _ _ _ h).2
   ·exact hp.blk x fn c hf hc p hpm g' hi
  ·have:(prims.addb f id g).blk x=prims.blk x:=by simp only[Prims.addb,if_neg hx]
   rw[this]; exact hp.blk x fn' c' hf' hc'
theorem OR.weaken{Z:Emb}{h:Array Obj}{l:Loc}{c c':List AV}{es:Nat}{rw:Bool}{ty:TypeId}(hlen:c'.length=c.length)(hw:∀ (i:Nat) (a':AV),c'[i]?=some a'->∃ a,c[i]?=some a/\∀ v,VR Z a v->VR Z a' v)(ho:OR Z h l (.cells c es rw ty)):OR Z h l (.cells c' es rw ty):=by
 obtain⟨h0,arr,e,fz,h1,h2,h3,h4,h5⟩:=ho
 refine⟨h0,arr,e,fz,h1,h2,by rw[hlen]; exact h3,fun i a hi=>?_,fun ht=>⟨fun he=>by rw[hlen]; exact(h5 ht).1 he,(h5 ht).2⟩⟩
 obtain⟨a0,q1,q2⟩:=hw i a hi
 obtain⟨v,p1,p2⟩:=h4 i a0 q1
 exact⟨v,p1,q2 v p2⟩
theorem VRL.weaken{Z Z2:Emb}:∀ {U U':List AV} {l:List Value},U'.length=U.length->(∀ (i:Nat) (a':AV),U'[i]?=some a'->∃ a,U[i]?=some a/\∀ v,VR Z a v->VR Z2 a' v)->VRL Z U l->VRL Z2 U' l
 | [],[],_,_,_,h=>by simpa[VRL] using h
 | [],_::_,_,h,_,_=>by simp at h
 | _::_,[],_,h,_,_=>by simp at h
 | a::U,a'::U',l,hl,hw,h=>by
  simp only[VRL] at h ⊢
  obtain⟨x,xs,h1,h2,h3⟩:=h
  obtain⟨a0,q1,q2⟩:=hw 0 a' rfl
  cases q1
  exact⟨x,xs,h1,q2 x h2,VRL.weaken (by simpa using hl) (fun i b hb=>hw (i+1) b hb) h3⟩
theorem Wk.dset{U:List AV}{B:Heap}{D D2:List Nat}(h:∀ b,b∈D->b<B0.length->b∈D2):Wk A B0 ⟨U,B,D⟩ ⟨U,B,D2⟩ :=
 Wk.trans Wk.clean (Wk.dirty fun b hb=>by
  rw[List.mem_filter] at hb
  exact h b hb.1 (by simpa using hb.2))
noncomputable def E9(p:Prop):Bool:=@decide p (Classical.propDecidable p)
theorem H6{p:Prop}(h:E9 p=true):p:=@of_decide_eq_true p (Classical.propDecidable p) h
theorem A9{p:Prop}(h:p):E9 p=true:=@dT p (Classical.propDecidable p) h
def E0n(m:Nat):AObj->Bool
 | .cells c _ _ _=>P7 m c
 | .tail _ _ _ tl _=>P7 m tl
 | .loop lo=>P7 m lo.tmps
 | .maps es=>P7 m (es.map (·.1))&&P7 m (es.map (·.2))
 | _=>true
theorem D6y{m:Nat}{o:AObj}(h:E0n m o=true):OBel m o:=by
 cases o with
 | cells=>exact K7 h
 | tail=>exact K7 h
 | loop=>exact K7 h
 | maps=>simp only[E0n,bA] at h; exact⟨K7 h.1,K7 h.2⟩
 | _=>trivial
theorem PrimOK.addt3{prims:Prims}(F7:P.follows .mixedOrders=true)(F9:A0o P)(hp:PrimOK P A prims)(hG:(gN P)<=A.G){f:FuncId}{g:List AV->Tr AV}{fn:Func}(hf:P.funcs[f]?=some fn)(hc:fn.body.isSome=true)(hg:∀ args v,(g args).get=some v->∃ prims0 args' v' B',PrimOK P A prims0/\(∀ (Z:Emb) (xs:List Value),VRL Z args xs->VRL Z args' xs)/\(∀ (Z:Emb) (x:Value),VR Z v' x->VR Z v x)/\P7 0 args'=true/\below 0 v'=true /\
   Ca P prims0 f args' (Bg (gN P)) (v',B',[])):PrimOK P A (prims.addt f g):=by
 refine hp.put hf hc fun args B v B' D h=>?_
 rw[Tr.get_plain] at h
 refine⟨A0a h,fun Z w xs hs hd _ hx=>?_⟩
 unfold only at h
 simp only[oM,pI] at h
 obtain⟨v1,h1,rfl,rfl,rfl⟩:=h
 obtain⟨prims0,args',v',B',hp0,h2,h3,h4,h5,h6⟩:=hg args _ h1
 obtain⟨n,h7⟩:=h6.run
 exact(C5x F7 F9 hp0 hG h7 h4 h5 Z w xs hs.amb hs.gLe (h2 Z _ hx)).mono fun e w' ⟨y,p,q,r⟩=>⟨y,Z,p,h3 Z y q,r.after hs hd⟩
end
end Go.Ad
namespace Go.Ad
inductive Wd where
 | keep
 | drop
 | num (lo hi:Int)
 | sym
 /-- A slice as a list of which the number of rows is kept alone. -/
 | list
def Wd.on:Wd->AV->Option AV
 | .keep,a=>some a
 | .drop,_=>some .bad
 | .num lo hi,.int k n=>if decide (lo<=n)&&decide (n<=hi) then some (.rng k n lo hi) else none
 | .num lo hi,.rng k n a b=>if decide (lo<=a)&&decide (b<=hi) then some (.rng k n lo hi) else none
 | .sym,.int k n=>some (.sint k n)
 | .sym,.rng k n _ _=>some (.sint k n)
 | .sym,.sint k n=>some (.sint k n)
 | .sym,.bool b=>some (.sbool b)
 | .sym,.sbool b=>some (.sbool b)
 | .sym,.str s=>some (.sstr s)
 | .sym,.sstr s=>some (.sstr s)
 | .sym,.lstr s _ _=>some (.sstr s)
 | .list,.slice (some (b,0)) n _=>if 0<n then some (.sslice b 0 n) else none
 | .list,.sslice b s n=>some (.sslice b s n)
 | .list,.slice none n c=>some (.slice none n c)
 | _,_=>none
theorem Wd.on_VR{Z:Emb}{w:Wd}{a a':AV}(h:w.on a=some a'){v:Value}(hv:VR Z a v):VR Z a' v:=by
 unfold Wd.on at h
 split at h
 ·cases h; exact hv
 ·cases h; simp only[VR]
 ·split at h
  ·rename_i hc
   simp only[bA,dQ] at hc
   cases h
   simp only[VR] at hv ⊢
   exact⟨hv,hc⟩
  ·cases h
 ·split at h
  ·rename_i hc
   simp only[bA,dQ] at hc
   cases h
   simp only[VR] at hv ⊢
   exact⟨hv.1,by omega,by omega⟩
  ·cases h
 ·cases h; simpa only[VR] using hv
 ·cases h; simp only[VR] at hv ⊢; exact hv.1
 ·cases h; exact hv
 ·cases h; simpa only[VR] using hv
 ·cases h; exact hv
 ·cases h; simpa only[VR] using hv
 ·cases h; exact hv
 ·cases h; simp only[VR] at hv ⊢; exact hv.1
 ·split at h
  ·rename_i hn
   cases h
   simp only[VR] at hv ⊢
   obtain⟨l,cap,off,h1,h2,h3,h4,h5,h6,h7⟩:=hv
   have hoff:off=l.d:=by omega
   subst hoff
   exact .inl ⟨by omega,l,cap,h1,by omega,by omega,by simp only[Nat.zero_mul,Nat.add_zero]; exact h7⟩
  ·cases h
 ·cases h; exact hv
 ·cases h; exact hv
 ·cases h
def wdT(tm:List (Tmp×Wd)):Nat->List AV->Option (List AV)
 | _,[]=>some []
 | i,a::r=>match ((tm.lookup i).getD .drop).on a,wdT tm (i+1) r with
  | some a',some r'=>some (a'::r')
  | _,_=>none
theorem E1t{Z:Emb}{tm:List (Tmp×Wd)}:∀ {i:Nat} {U U':List AV} {l:List Value},wdT tm i U=some U'->VRL Z U l->VRL Z U' l
 | _,[],_,_,h,hv=>by simp only[wdT,sI] at h; subst h; exact hv
 | i,a::r,_,l,h,hv=>by
  simp only[wdT] at h
  split at h
  ·rename_i a' r' h1 h2
   cases h
   simp only[VRL] at hv ⊢
   obtain⟨x,xs,q1,q2,q3⟩:=hv
   exact⟨x,xs,q1,Wd.on_VR h1 q2,E1t h2 q3⟩
  ·cases h
def wdC:List Wd->List AV->Option (List AV)
 | [],[]=>some []
 | w::ws,a::r=>match w.on a,wdC ws r with
  | some a',some r'=>some (a'::r')
  | _,_=>none
 | _,_=>none
theorem C8v:∀ {ws:List Wd} {c c':List AV},wdC ws c=some c'->c'.length=c.length/\∀ (i:Nat) (a':AV),c'[i]?=some a'->∃ a,c[i]?=some a/\∀ Z v,VR Z a v->VR Z a' v
 | [],[],_,h=>by cases h; exact⟨rfl,fun i a' h=>by simp at h⟩
 | [],_::_,_,h=>by cases h
 | _::_,[],_,h=>by cases h
 | w::ws,a::r,_,h=>by
  simp only[wdC] at h
  split at h
  ·rename_i a' r' h1 h2
   cases h
   obtain⟨q1,q2⟩:=C8v h2
   refine⟨by simp[q1],fun i x hx=>?_⟩
   cases i with
   | zero=>cases hx; exact⟨a,rfl,fun Z v=>Wd.on_VR h1⟩
   | succ i=>exact q2 i x hx
  ·cases h
inductive HW where
 | cells (ws:List Wd)
 | vec1
def HW.on:HW->AObj->Option AObj
 | .cells ws,.cells c es rw ty=>match wdC ws c with
  | some c'=>some (.cells c' es rw ty)
  | none=>none
 | .vec1,.cells c es true ty=>match wdC (c.map fun _=>.sym) c with
  | some c'=>if decide (0<es)&&decide (c.length=es)&&c'.all A0h then some (.vec 1 (fun _=>c') es ty) else none
  | none=>none
 | .vec1,.vec n row es ty=>some (.vec n row es ty)
 | _,_=>none
theorem HW.on_OR{hw:HW}{o o':AObj}(h:hw.on o=some o'):(o'.own=true->o.own=true)/\(o'.live=true->o.live=true)/\∀ (Z:Emb) (hh:Array Obj) (l:Loc),OR Z hh l o->OR Z hh l o':=by
 unfold HW.on at h
 split at h
 ·split at h
  ·rename_i hc
   cases h
   obtain⟨q1,q2⟩:=C8v hc
   exact⟨fun h=>h,fun h=>h,fun Z hh l ho=>OR.weaken q1 (fun i a' hi=>let ⟨a,p1,p2⟩:=q2 i a' hi; ⟨a,p1,fun v=>p2 Z v⟩) ho⟩
  ·cases h
 ·rename_i c es ty
  split at h
  ·rename_i c' hc
   split at h
   ·rename_i hk
    simp only[bA,dQ] at hk
    cases h
    obtain⟨q1,q2⟩:=C8v hc
    refine⟨fun _=>rfl,fun h=>h,fun Z hh l ho=>OR.soften hk.1.1 (fun i _=>⟨q1.trans hk.1.2,hk.2⟩) (by rw[hk.1.2]; omega) (fun i j a hi hj=>?_) ho⟩
    obtain⟨a0,p1,p2⟩:=q2 j a hj
    have:i=0:=by omega
    subst this
    exact⟨a0,by simpa using p1,fun v=>p2 Z v⟩
   ·cases h
  ·cases h
 ·cases h; exact⟨fun h=>h,fun h=>h,fun _ _ _ h=>h⟩
 ·cases h
def wdH:List (Nat×HW)->Heap->Option Heap
 | [],B=>some B
 | (b,w)::r,B=>match B[b]? with
  | some o=>match w.on o with
   | some o'=>wdH r (B.set b o')
   | none=>none
  | none=>wdH r B
section
variable {A:Amb} {B0:Heap}
theorem D7w{D:List Nat}{U:List AV}:∀ {hp:List (Nat×HW)} {B B':Heap},wdH hp B=some B'->(∀ p,p∈hp->p.1<B0.length->p.1∈D)->Wk A B0 ⟨U,B,D⟩ ⟨U,B',D⟩
 | [],B,B',h,_=>by cases h; exact Wk.refl
 | (b,w)::r,B,B',h,hD=>by
  simp only[wdH] at h
  split at h
  ·rename_i o hb
   split at h
   ·rename_i o' ho
    obtain⟨q1,q2,q3⟩:=HW.on_OR ho
    refine Wk.trans (Wk.objs (fun _ h=>h) (by simp) (fun x o2 hx=>?_) (fun x hx hn=>?_)) (D7w h fun p hp=>hD p (List.mem_cons_of_mem _ hp))
    ·by_cases e:x=b
     ·subst e
      rw[List.getElem?_set_self (gS.1 hb).1] at hx
      cases hx
      exact⟨o,hb,fun Z h l=>q3 Z h l,q1,q2⟩
     ·rw[gX (Ne.symm e)] at hx
      exact⟨o2,hx,fun _ _ _ h=>h,fun h=>h,fun h=>h⟩
    ·rw[gX]
     intro e
     subst e
     exact hn (hD _ (List.mem_cons_self ..) hx)
   ·cases h
  ·exact D7w h fun p hp=>hD p (List.mem_cons_of_mem _ hp)
structure EmbT (τ:Nat->Nat) (n:Nat) (Z Z2:Emb):Prop where
 bl:∀ b,b<n->Z2 b=Z (τ b)
 fz:∀ c v,Z.fz c=some v->Z2.fz c=some v
instance {τ:Nat->Nat} {n:Nat} {Z Z2:Emb}:CoeFun (EmbT τ n Z Z2) fun _=>∀ b,b<n->Z2 b=Z (τ b):=⟨EmbT.bl⟩
theorem Wk.ren2{U U2:List AV}{B B2:Heap}{D:List Nat}(τ:Nat->Nat)(hl2:B0.length<=B2.length)(hτ0:∀ b,b<B0.length->τ b=b)(hτ1:∀ b,B0.length<=b->b<B2.length->B0.length<=τ b)(hinj:∀ b b',B0.length<=b->b<B2.length->B0.length<=b'->b'<B2.length->τ b=τ b'->b=b')(hob:∀ (b:Nat) (o2:AObj),B2[b]?=some o2->∃ o:AObj,B[τ b]?=some o/\(o2.own=true->o.own=true)/\(o2.live=true->o.live=true) /\
   ∀ (Z Z2:Emb) (h:Array Obj) (l:Loc),EmbT τ B2.length Z Z2->OR Z h l o->OR Z2 h l o2)(hfr:∀ b:Nat,b<B0.length->b∉D->B2[b]?=B[b]?)(hU:∀ (Z Z2:Emb),EmbT τ B2.length Z Z2->∀ l,VRL Z U l->VRL Z2 U2 l):Wk A B0 ⟨U,B,D⟩ ⟨U2,B2,D⟩:=by
 intro Z0 w0 Z w t hd ha hv
 let Z2:Emb:=⟨fun b=>if b<B2.length then Z (τ b) else none,Z.fz⟩
 have hin:∀ b,b<B2.length->Z2 b=Z (τ b):=fun b hb=>by simp only[Z2,if_pos hb]
 have hout:∀ b,B2.length<=b->Z2 b=none:=fun b hb=>by simp only[Z2]; rw[if_neg (by omega)]
 have hT:EmbT τ B2.length Z Z2:=⟨hin,fun _ _ h=>h⟩
 have hst:=ha.step
 have hlt:∀ b l,Z2 b=some l->b<B2.length/\Z (τ b)=some l:=fun b l hl=>by
  by_cases h:b<B2.length
  ·exact⟨h,by rw[<- hin b h]; exact hl⟩
  ·rw[hout b (by omega)] at hl; cases hl
 have hne:∀ b b',b≠b'->b<B2.length->b'<B2.length->τ b≠τ b':=by
  intro b b' hn h1 h2 e
  by_cases h3:b<B0.length<;>by_cases h4:b'<B0.length
  ·rw[hτ0 b h3,hτ0 b' h4] at e; exact hn e
  ·rw[hτ0 b h3] at e; have:=hτ1 b' (by omega) h2; omega
  ·rw[hτ0 b' h4] at e; have:=hτ1 b (by omega) h1; omega
  ·exact hn (hinj b b' (by omega) h1 (by omega) h2 e)
 refine⟨Z2,⟨⟨⟨fun b l hl=>?_,hst.ext.fz⟩,fun b l h0 hl=>?_,hst.size,hst.keep,hst.loops,hst.defs,hst.tape,hst.os,hst.out,hst.fdom⟩,
  ⟨fun b o l hb hl=>?_,fun b l hl=>?_,fun b b' l l' o o' hn hl hl' hb hb' h1 h2=>?_,ha.sim.amb,fun b l o hl hb h1=>?_,ha.sim.gLe,ha.sim.fzOK,fun c v b l o hc hl hb h1=>?_⟩,fun b hb=>hout b hb,hl2,fun b hb hD=>(hfr b hb hD).trans (ha.fr.2 b hb hD)⟩,hU Z Z2 hT _ hv⟩
 ·have hb:b<B0.length:=Nat.lt_of_not_le fun hle=>by rw[hd b hle] at hl; cases hl
  rw[hin b (by omega),hτ0 b hb]; exact hst.ext b l hl
 ·obtain⟨hb2,h1⟩:=hlt b l hl
  by_cases h3:b<B0.length
  ·rw[hτ0 b h3] at h1
   have:=(hst.dom _ l h0 h1).1; omega
  ·exact⟨by omega,hb2,(hst.dom _ l (hd _ (hτ1 b (by omega) hb2)) h1).2.2⟩
 ·obtain⟨_,h1⟩:=hlt b l hl
  obtain⟨o1,q1,_,_,q2⟩:=hob b o hb
  exact q2 Z Z2 _ l hT (ha.sim.obj (τ b) o1 l q1 h1)
 ·exact ha.sim.lt (τ b) l (hlt b l hl).2
 ·obtain⟨p1,q1⟩:=hlt b l hl
  obtain⟨p1',q1'⟩:=hlt b' l' hl'
  obtain⟨o1,r1,r2,_⟩:=hob b o hb
  obtain⟨o1',r1',_,r3',_⟩:=hob b' o' hb'
  exact ha.sim.own (τ b) (τ b') l l' o1 o1' (hne b b' hn p1 p1') q1 q1' r1 r1' (r2 h1) (r3' h2)
 ·obtain⟨_,q1⟩:=hlt b l hl
  obtain⟨o1,r1,r2,_⟩:=hob b o hb
  exact ha.sim.ownG (τ b) l o1 q1 r1 (r2 h1)
 ·obtain⟨_,q1⟩:=hlt b l hl
  obtain⟨o1,r1,r2,_⟩:=hob b o hb
  exact ha.sim.fzSep c v (τ b) l o1 hc q1 r1 (r2 h1)
end
def idxOf'(b:Nat):List Nat->Nat->Option Nat
 | [],_=>none
 | k::ks,i=>if k==b then some i else idxOf' b ks (i+1)
def C1j(m:Nat)(ks:List Nat)(b:Nat):Option Nat:=if b<m then some b else idxOf' b ks m
theorem B0j{b:Nat}:∀ {ks:List Nat} {i j:Nat},idxOf' b ks i=some j->i<=j/\ks[j-i]?=some b
 | [],_,_,h=>by cases h
 | k::ks,i,j,h=>by
  simp only[idxOf'] at h
  split at h
  ·rename_i e
   cases h
   rw[beq_iff_eq] at e
   exact⟨lR _,by simp[e]⟩
  ·obtain⟨h1,h2⟩:=B0j h
   refine⟨by omega,?_⟩
   have:j-i=(j-(i+1))+1:=by omega
   rw[this]; exact h2
mutual
def mv(f:Nat->Option Nat):AV->Option AV
 | .ptr (some (b,o))=>match f b with | some b'=>some (.ptr (some (b',o))) | none=>none
 | .slice (some (b,o)) n c=>match f b with | some b'=>some (.slice (some (b',o)) n c) | none=>none
 | .sslice b s n=>match f b with | some b'=>some (.sslice b' s n) | none=>none
 | .aslc b s n=>match f b with | some b'=>some (.aslc b' s n) | none=>none
 | .sptr b i j=>match f b with | some b'=>some (.sptr b' i j) | none=>none
 | .dptr b n=>match f b with | some b'=>some (.dptr b' n) | none=>none
 | .map (some b)=>match f b with | some b'=>some (.map (some b')) | none=>none
 | .func (.yield l) xs ys=>match f l,mvL f xs,mvL f ys with
  | some l',some xs',some ys'=>some (.func (.yield l') xs' ys')
  | _,_,_=>none
 | .func g xs ys=>match mvL f xs,mvL f ys with
  | some xs',some ys'=>some (.func g xs' ys')
  | _,_=>none
 | .iface t v=>match mv f v with | some v'=>some (.iface t v') | none=>none
 | .agg xs=>match mvL f xs with | some xs'=>some (.agg xs') | none=>none
 | .tuple xs=>match mvL f xs with | some xs'=>some (.tuple xs') | none=>none
 | a=>some a
def mvL(f:Nat->Option Nat):List AV->Option (List AV)
 | []=>some []
 | x::xs=>match mv f x,mvL f xs with
  | some x',some xs'=>some (x'::xs')
  | _,_=>none
end
structure EmbV (f:Nat->Option Nat) (Z Z2:Emb):Prop where
 bl:∀ b b',f b=some b'->Z2 b'=Z b
 fz:∀ c v,Z.fz c=some v->Z2.fz c=some v
instance {f:Nat->Option Nat} {Z Z2:Emb}:CoeFun (EmbV f Z Z2) fun _=>∀ b b',f b=some b'->Z2 b'=Z b:=⟨EmbV.bl⟩
mutual
theorem D2l{f:Nat->Option Nat}{Z Z2:Emb}(hf:EmbV f Z Z2):∀ {a a':AV} {v:Value},mv f a=some a'->VR Z a v->VR Z2 a' v
 | .ptr (some (b,o)),_,_,h,hv=>by
  simp only[mv] at h
  split at h
  ·rename_i b' e
   cases h
   simp only[VR] at hv ⊢
   rw[hf _ _ e]; exact hv
  ·cases h
 | .slice (some (b,o)) n c,_,_,h,hv=>by
  simp only[mv] at h
  split at h
  ·rename_i b' e
   cases h
   simp only[VR] at hv ⊢
   rw[hf _ _ e]; exact hv
  ·cases h
 | .sslice b s n,_,_,h,hv=>by
  simp only[mv] at h
  split at h
  ·rename_i b' e
   cases h
   simp only[VR] at hv ⊢
   rw[hf _ _ e]; exact hv
  ·cases h
 | .dptr b n,_,_,h,hv=>by
  simp only[mv] at h
  split at h
  ·rename_i b' e
   cases h
   simp only[VR] at hv ⊢
   rw[hf _ _ e]; exact hv
  ·cases h
 | .aslc b s n,_,_,h,hv=>by
  simp only[mv] at h
  split at h
  ·rename_i b' e
   cases h
   simp only[VR] at hv ⊢
   rw[hf _ _ e]; exact hv
  ·cases h
 | .sptr b i j,_,_,h,hv=>by
  simp only[mv] at h
  split at h
  ·rename_i b' e
   cases h
   simp only[VR] at hv ⊢
   rw[hf _ _ e]; exact hv
  ·cases h
 | .flist n row es,_,_,h,hv=>by simp only[mv,sI] at h; subst h; simp only[VR] at hv ⊢; exact FVR.mono hf.fz hv
 | .fptr cs j,_,_,h,hv=>by
  simp only[mv,sI] at h; subst h; simp only[VR] at hv ⊢; obtain⟨c,off,vs,h1,h2,h3,h4⟩:=hv; exact⟨c,off,vs,hf.fz _ _ h1,h2,h3,FVRL.mono hf.fz h4⟩
 | .map (some b),_,_,h,hv=>by
  simp only[mv] at h
  split at h
  ·rename_i b' e
   cases h
   simp only[VR] at hv ⊢
   rw[hf _ _ e]; exact hv
  ·cases h
 | .func g xs ys,_,_,h,hv=>by
  cases g with
  | yield l =>
   simp only[mv] at h
   split at h
   ·rename_i l' xs' ys' e1 e2 e3
    cases h
    simp only[VR,FR] at hv ⊢
    obtain⟨f',zs,zs',h0,⟨lo,h1,h1'⟩,h2,h3⟩:=hv
    exact⟨f',zs,zs',h0,⟨lo,by rw[hf _ _ e1]; exact h1,h1'⟩,A2k hf e2 h2,A2k hf e3 h3⟩
   ·cases h
  | _ =>
   simp only[mv] at h
   split at h
   ·rename_i xs' ys' e2 e3
    cases h
    simp only[VR,FR] at hv ⊢
    obtain⟨f',zs,zs',h0,h1,h2,h3⟩:=hv
    exact⟨f',zs,zs',h0,h1,A2k hf e2 h2,A2k hf e3 h3⟩
   ·cases h
 | .iface t v,_,_,h,hv=>by
  simp only[mv] at h
  split at h
  ·rename_i v' e
   cases h
   simp only[VR] at hv ⊢
   obtain⟨x,h0,h1⟩:=hv
   exact⟨x,h0,D2l hf e h1⟩
  ·cases h
 | .agg xs,_,_,h,hv=>by
  simp only[mv] at h
  split at h
  ·rename_i v' e
   cases h
   simp only[VR] at hv ⊢
   obtain⟨x,h0,h1⟩:=hv
   exact⟨x,h0,A2k hf e h1⟩
  ·cases h
 | .tuple xs,_,_,h,hv=>by
  simp only[mv] at h
  split at h
  ·rename_i v' e
   cases h
   simp only[VR] at hv ⊢
   obtain⟨x,h0,h1⟩:=hv
   exact⟨x,h0,A2k hf e h1⟩
  ·cases h
 | .bad,_,_,h,_=>by simp only[mv,sI] at h; subst h; simp only[VR]
 | .bool _,_,_,h,hv=>by simp only[mv,sI] at h; subst h; simpa only[VR] using hv
 | .int _ _,_,_,h,hv=>by simp only[mv,sI] at h; subst h; simpa only[VR] using hv
 | .rng ..,_,_,h,hv=>by simp only[mv,sI] at h; subst h; simpa only[VR] using hv
 | .str _,_,_,h,hv=>by simp only[mv,sI] at h; subst h; simpa only[VR] using hv
 | .sint ..,_,_,h,hv=>by simp only[mv,sI] at h; subst h; simpa only[VR] using hv
 | .sbool _,_,_,h,hv=>by simp only[mv,sI] at h; subst h; simpa only[VR] using hv
 | .sstr _,_,_,h,hv=>by simp only[mv,sI] at h; subst h; simpa only[VR] using hv
 | .lstr ..,_,_,h,hv=>by simp only[mv,sI] at h; subst h; simpa only[VR] using hv
 | .ptr none,_,_,h,hv=>by simp only[mv,sI] at h; subst h; simpa only[VR] using hv
 | .slice none _ _,_,_,h,hv=>by simp only[mv,sI] at h; subst h; simpa only[VR] using hv
 | .map none,_,_,h,hv=>by simp only[mv,sI] at h; subst h; simpa only[VR] using hv
 | .nilFunc,_,_,h,hv=>by simp only[mv,sI] at h; subst h; simpa only[VR] using hv
 | .nilIface,_,_,h,hv=>by simp only[mv,sI] at h; subst h; simpa only[VR] using hv
theorem A2k{f:Nat->Option Nat}{Z Z2:Emb}(hf:EmbV f Z Z2):∀ {a a':List AV} {v:List Value},mvL f a=some a'->VRL Z a v->VRL Z2 a' v
 | [],_,_,h,hv=>by simp only[mvL,sI] at h; subst h; simpa only[VRL] using hv
 | x::xs,_,_,h,hv=>by
  simp only[mvL] at h
  split at h
  ·rename_i x' xs' e1 e2
   cases h
   simp only[VRL] at hv ⊢
   obtain⟨y,ys,h0,h1,h2⟩:=hv
   exact⟨y,ys,h0,D2l hf e1 h1,A2k hf e2 h2⟩
  ·cases h
end
theorem B2k{f:Nat->Option Nat}:∀ {c c':List AV},mvL f c=some c'->c'.length=c.length/\∀ (i:Nat) (a':AV),c'[i]?=some a'->∃ a,c[i]?=some a/\mv f a=some a'
 | [],_,h=>by simp only[mvL,sI] at h; subst h; exact⟨rfl,fun i a' h=>by simp at h⟩
 | x::xs,_,h=>by
  simp only[mvL] at h
  split at h
  ·rename_i x' xs' e1 e2
   cases h
   obtain⟨q1,q2⟩:=B2k e2
   refine⟨by simp[q1],fun i a' hi=>?_⟩
   cases i with
   | zero=>cases hi; exact⟨x,rfl,e1⟩
   | succ i=>exact q2 i a' hi
  ·cases h
def mvO(f:Nat->Option Nat):AObj->Option AObj
 | .cells c es rw ty=>match mvL f c with | some c'=>some (.cells c' es rw ty) | none=>none
 | .tail n row es tl ty=>match mvL f tl with | some tl'=>some (.tail n row es tl' ty) | none=>none
 | .loop lo=>match mvL f lo.tmps with | some t'=>some (.loop { lo with tmps:=t' }) | none=>none
 | .maps es=>if P7 0 (es.map (·.1))&&P7 0 (es.map (·.2)) then some (.maps es) else
  match mvL f (es.map (·.1)),mvL f (es.map (·.2)) with
  | some k,some v=>some (.maps (k.zip v))
  | _,_=>none
 | o=>some o
theorem A6o{f:Nat->Option Nat}{Z Z2:Emb}(hf:EmbV f Z Z2){o o2:AObj}(h:mvO f o=some o2) :
  (o2.own=true->o.own=true)/\(o2.live=true->o.live=true)/\∀ (hh:Array Obj) (l:Loc),OR Z hh l o->OR Z2 hh l o2:=by
 have h0:Agree Z Z2 0:=⟨fun b hb=>absurd hb (by omega),hf.fz⟩
 cases o with
 | cells c es rw ty =>
  simp only[mvO] at h
  split at h
  ·rename_i c' e
   cases h
   obtain⟨q1,q2⟩:=B2k e
   refine⟨fun h=>h,fun h=>h,fun hh l ho=>?_⟩
   obtain⟨p0,arr,e,fz,p1,p2,p3,p4,p5⟩:=ho
   refine⟨p0,arr,e,fz,p1,p2,by rw[q1]; exact p3,fun i a hi=>?_,fun ht=>⟨fun he=>by rw[q1]; exact(p5 ht).1 he,(p5 ht).2⟩⟩
   obtain⟨a0,r1,r2⟩:=q2 i a hi
   obtain⟨v,s1,s2⟩:=p4 i a0 r1
   exact⟨v,s1,D2l hf r2 s2⟩
  ·cases h
 | tail n row es tl ty =>
  simp only[mvO] at h
  split at h
  ·rename_i c' e
   cases h
   obtain⟨q1,q2⟩:=B2k e
   refine⟨fun h=>h,fun h=>h,fun hh l ho=>?_⟩
   obtain⟨hr,p0,arr,e,fz,p1,p2,p3,p4,p5⟩:=ho
   refine⟨hr,p0,arr,e,fz,p1,p2,by rw[lA,q1,<- lA]; exact p3,fun i a hi=>?_,fun ht=>⟨fun he=>by rw[lA,q1,<- lA]; exact(p5 ht).1 he,(p5 ht).2⟩⟩
   rw[List.getElem?_append] at hi
   split at hi
   ·rename_i hlt
    obtain⟨v,s1,s2⟩:=p4 i a (by rw[gL hlt]; exact hi)
    obtain⟨r,g1,g2⟩:=B8m hi
    exact⟨v,s1,Y0 h0 (A2q (List.all_eq_true.1 (hr.2 r g1).2 a g2)) s2⟩
   ·rename_i hlt
    obtain⟨a0,r1,r2⟩:=q2 _ a hi
    obtain⟨v,s1,s2⟩:=p4 i a0 (by rw[gR (by omega)]; exact r1)
    exact⟨v,s1,D2l hf r2 s2⟩
  ·cases h
 | loop lo =>
  simp only[mvO] at h
  split at h
  ·rename_i t' e
   cases h
   refine⟨fun h=>h,fun h=>h,fun hh l ho=>?_⟩
   obtain⟨L,h1,h2,h3,h4,h5,h6,h7⟩:=ho
   exact⟨L,h1,h2,h3,h4,h5,h6,A2k hf e h7⟩
  ·cases h
 | maps es =>
  simp only[mvO] at h
  split at h
  ·rename_i hc
   cases h
   rw[bA] at hc
   exact⟨fun h=>h,fun h=>h,fun hh l ho=>Y4 h0 ⟨K7 hc.1,K7 hc.2⟩ ho⟩
  ·split at h
   ·rename_i k v e1 e2
    cases h
    obtain⟨q1,_⟩:=B2k e1
    obtain⟨q2,_⟩:=B2k e2
    rw[List.length_map] at q1 q2
    refine⟨fun h=>h,fun h=>h,fun hh l ho=>?_⟩
    obtain⟨en,ck,p1,p2,p3,p4⟩:=ho
    refine⟨en,ck,p1,?_,?_,p4⟩
    ·rw[show(k.zip v).map (·.1)=k from List.map_fst_zip (by omega)]
     exact A2k hf e1 p2
    ·rw[show(k.zip v).map (·.2)=v from List.map_snd_zip (by omega)]
     exact A2k hf e2 p3
   ·cases h
 | text s ty =>
  simp only[mvO,sI] at h
  subst h
  exact⟨fun h=>h,fun h=>h,fun hh l ho=>Y4 h0 trivial ho⟩
 | vec n row es ty =>
  simp only[mvO,sI] at h
  subst h
  exact⟨fun h=>h,fun h=>h,fun hh l ho=>Y4 h0 trivial ho⟩
 | arr pre k m f ty =>
  simp only[mvO,sI] at h
  subst h
  exact⟨fun h=>h,fun h=>h,fun hh l ho=>Y4 h0 trivial ho⟩
 | miter =>
  simp only[mvO,sI] at h
  subst h
  exact⟨fun h=>h,fun h=>h,fun hh l ho=>ho⟩
 | smap ks =>
  simp only[mvO,sI] at h
  subst h
  exact⟨fun h=>h,fun h=>h,fun hh l ho=>Y4 h0 trivial ho⟩
 | iter s pos =>
  simp only[mvO,sI] at h
  subst h
  exact⟨fun h=>h,fun h=>h,fun hh l ho=>Y4 h0 trivial ho⟩
 | dead =>
  simp only[mvO,sI] at h
  subst h
  exact⟨fun h=>h,fun h=>h,fun hh l ho=>trivial⟩
mutual
def rfs:AV->List Nat
 | .ptr (some (b,_))=>[b]
 | .slice (some (b,_)) _ _=>[b]
 | .sslice b _ _=>[b]
 | .aslc b _ _=>[b]
 | .sptr b _ _=>[b]
 | .dptr b _=>[b]
 | .map (some b)=>[b]
 | .func (.yield l) xs ys=>l::(B2r xs++B2r ys)
 | .func _ xs ys=>B2r xs++B2r ys
 | .iface _ v=>rfs v
 | .agg xs=>B2r xs
 | .tuple xs=>B2r xs
 | _=>[]
def B2r:List AV->List Nat
 | []=>[]
 | x::xs=>rfs x++B2r xs
end
def G4h:AObj->List Nat
 | .cells c _ _ _=>B2r c
 | .tail _ _ _ tl _=>B2r tl
 | .loop lo=>B2r lo.tmps
 | _=>[]
def reach(m:Nat)(B:Heap):Nat->List Nat->List Nat->List Nat
 | 0,_,ks=>ks
 | _+1,[],ks=>ks
 | n+1,b::r,ks=>if decide (b<m)||ks.contains b then reach m B n r ks else reach m B n (G4h (B.getD b .dead)++r) (ks++[b])
def mvH(f:Nat->Option Nat)(m:Nat)(ds:List Nat):Nat->Heap->Option Heap
 | _,[]=>some []
 | i,o::r=>match (if decide (i<m)&&!ds.contains i then(if E0n m o then some o else none) else mvO f o),mvH f m ds (i+1) r with
  | some o',some r'=>some (o'::r')
  | _,_=>none
theorem E0k{f:Nat->Option Nat}{m:Nat}{ds:List Nat}:∀ {B B':Heap} {i:Nat},mvH f m ds i B=some B'->B'.length=B.length/\∀ (b:Nat) (o2:AObj),B'[b]?=some o2->∃ o,B[b]?=some o /\
   ((i+b<m/\i+b∉ds/\o2=o/\E0n m o=true) \/ mvO f o=some o2)/\(i+b<m->i+b∉ds->o2=o)
 | [],_,_,h=>by simp only[mvH,sI] at h; subst h; exact⟨rfl,fun b o2 h=>by simp at h⟩
 | o::r,_,i,h=>by
  simp only[mvH] at h
  split at h
  ·rename_i o' r' e1 e2
   cases h
   obtain⟨q1,q2⟩:=E0k e2
   refine⟨by simp[q1],fun b o2 hb=>?_⟩
   cases b with
   | zero =>
    cases hb
    refine⟨o,rfl,?_⟩
    split at e1
    ·rename_i hc
     simp only[bA,dQ,Bool.not_eq_true',List.contains_eq_mem,decide_eq_false_iff_not] at hc
     split at e1
     ·rename_i hob
      cases e1
      exact⟨.inl ⟨hc.1,hc.2,rfl,hob⟩,fun _ _=>rfl⟩
     ·cases e1
    ·rename_i hc
     refine⟨.inr e1,fun h1 h2=>?_⟩
     simp only[bA,dQ,Bool.not_eq_true',List.contains_eq_mem,decide_eq_false_iff_not] at hc
     exact absurd ⟨h1,h2⟩ hc
   | succ b =>
    obtain⟨o1,r1,r2,r3⟩:=q2 b o2 hb
    have e:i+1+b=i+(b+1):=by omega
    rw[e] at r2 r3
    exact⟨o1,r1,r2,r3⟩
  ·cases h
def nodupB:List Nat->Bool
 | []=>true
 | k::ks=>!ks.contains k&&nodupB ks
theorem A6p:∀ {l:List Nat},nodupB l=true->l.Nodup
 | [],_=>List.nodup_nil
 | k::ks,h=>by
  simp only[nodupB,bA,Bool.not_eq_true',List.contains_eq_mem,decide_eq_false_iff_not] at h
  exact List.nodup_cons.2 ⟨h.1,A6p h.2⟩
def G3d(live:AEx->List (Tmp×Wd))(hp:AEx->List (Nat×HW))(m:Nat)(ds:List Nat):KE (AEx×List AV×Heap×List Nat):=fun e U B D =>
 match wdT (live e) 0 U with
 | some U1 =>
  let ks:=reach m B 1000 (B2r U1++(ds.flatMap fun b=>G4h (B.getD b .dead))) []
  if decide (m<=B.length)&&(D.all (fun b=>decide (m<=b)||ds.contains b)&&((hp e).all (fun p=>decide (m<=p.1)||ds.contains p.1)&&(nodupB ks&&ks.all (fun k=>decide (m<=k)&&decide (k<B.length))))) then
   match mvL (C1j m ks) U1,mvH (C1j m ks) m ds 0 (B.take m++ks.map fun k=>B.getD k .dead) with
   | some U2,some B2=>match wdH (hp e) B2 with
    | some B3=>some (e,U2,B3,ds)
    | none=>none
   | _,_=>none
  else none
 | none=>none
section
variable {P:Program} {A:Amb} {B0:Heap} {c:Code} {e:AEx}
theorem D6x{U1 U':List AV}{B1 B':Heap}{ds ds' D1:List Nat}{m:Nat}{e1:AEx}{live:AEx->List (Tmp×Wd)}{hw:AEx->List (Nat×HW)}(hm:B0.length=m)(h2:G3d live hw m ds e1 U1 B1 D1=some (e,U',B',ds')):e1=e/\Wk A B0 ⟨U1,B1,ds++D1⟩ ⟨U',B',ds⟩:=by
 unfold G3d at h2
 split at h2
 ·rename_i U2 g1
  simp only at h2
  generalize hks:reach m B1 1000 (B2r U2++(ds.flatMap fun b=>G4h (B1.getD b .dead))) []=ks at h2
  split at h2
  ·rename_i hc
   simp only[bA,dQ,List.all_eq_true,Bool.or_eq_true,List.contains_eq_mem] at hc
   obtain⟨c1,c2,c3,c4,c5⟩:=hc
   have c4:=A6p c4
   split at h2
   ·rename_i U3 B3 g3 g4
    split at h2
    ·rename_i B4 g5
     simp only[sI,pI] at h2
     obtain⟨rfl,rfl,rfl,rfl⟩:=h2
     have w1:Wk A B0 ⟨U1,B1,ds++D1⟩ ⟨U2,B1,ds++D1⟩:=Wk.temps fun Z l hl=>E1t g1 hl
     have w2:Wk A B0 ⟨U2,B1,ds++D1⟩ ⟨U2,B1,ds⟩:=Wk.dset fun b hb hl=>by
      rcases List.mem_append.1 hb with hb | hb
      ·exact hb
      ·rcases c2 b hb with h | h
       ·omega
       ·exact h
     have w5:Wk A B0 ⟨U3,B3,ds⟩ ⟨U3,B4,ds⟩:=D7w g5 fun p hp hl=>by
      rcases c3 p hp with h | h
      ·omega
      ·exact h
     have hk:∀ i:Nat,i<ks.length->m<=ks.getD i 0/\ks.getD i 0<B1.length:=fun i hi=>by
      have:ks.getD i 0∈ks:=by rw[gD,gE hi]; exact List.getElem_mem hi
      exact c5 _ this
     obtain⟨l1,l2⟩:=E0k g4
     have hlen:B3.length=m+ks.length:=by rw[l1,lA,List.length_take,List.length_map]; omega
     let τ:Nat->Nat:=fun b=>if b<m then b else ks.getD (b-m) 0
     have hsrc:∀ b:Nat,b<m+ks.length->(B1.take m++ks.map fun k=>B1.getD k .dead)[b]?=B1[τ b]?:=fun b hb=>by
      by_cases hbm:b<m
      ·simp only[τ,if_pos hbm]
       rw[gL (by rw[List.length_take]; omega),List.getElem?_take_of_lt hbm]
      ·simp only[τ,if_neg hbm]
       rw[gR (by rw[List.length_take]; omega),List.length_take,Nat.min_eq_left c1,List.getElem?_map]
       have hi:b-m<ks.length:=by omega
       have hk2:=(hk _ hi).2
       simp only[gD,gE hi,oS,Option.getD_some] at hk2 ⊢
       rw[gE hk2]; rfl
     have hnm:∀ b b',C1j m ks b=some b'->b'<B3.length/\τ b'=b:=fun b b' hb=>by
      unfold C1j at hb
      split at hb
      ·rename_i hlt
       cases hb
       exact⟨by omega,by simp only[τ,if_pos hlt]⟩
      ·obtain⟨q1,q2⟩:=B0j hb
       have:=(gS.1 q2).1
       refine⟨by omega,?_⟩
       simp only[τ]
       rw[if_neg (by omega),gD,q2]; rfl
     have w4:Wk A B0 ⟨U2,B1,ds⟩ ⟨U3,B3,ds⟩:=by
      refine Wk.ren2 τ (by omega) (fun b hb=>by simp only[τ]; rw[if_pos (by omega)]) (fun b hb1 hb2=>?_) (fun b b' h1 h2 h3 h4 e=>?_) (fun b o2 ho=>?_) (fun b hb hn=>?_) (fun Z Z2 hi l hl=>?_)
      ·simp only[τ]; rw[if_neg (by omega),hm]
       exact(hk _ (by omega)).1
      ·simp only[τ] at e
       rw[if_neg (by omega),if_neg (by omega)] at e
       have i1:b-m<ks.length:=by omega
       have i2:b'-m<ks.length:=by omega
       rw[gD,gD,gE i1,gE i2] at e
       have:=(List.getElem_inj c4).1 e
       omega
      ·have hb:b<B3.length:=(gS.1 ho).1
       obtain⟨o,q1,q2,_⟩:=l2 b o2 ho
       rw[hsrc b (by omega)] at q1
       rcases q2 with⟨q3,_,rfl,q4⟩ | q2
       ·refine⟨o2,q1,fun h=>h,fun h=>h,fun Z Z2 h l hi ho=>Y4 (n:=m) ⟨fun x hx=>?_,hi.fz⟩ (D6y q4) ho⟩
        rw[hi x (by omega)]
        simp only[τ,if_pos hx]
       ·have hh:∀ Z Z2:Emb,EmbT τ B3.length Z Z2->EmbV (C1j m ks) Z Z2:=fun Z Z2 hi=>⟨fun b b' hb=>by
         obtain⟨r1,r2⟩:=hnm b b' hb
         rw[hi b' r1,r2],hi.fz⟩
        exact⟨o,q1,(A6o (Z:=⟨fun _=>none,fun _=>none⟩) (Z2:=⟨fun _=>none,fun _=>none⟩) ⟨fun _ _ _=>rfl,fun _ _ h=>h⟩ q2).1,(A6o (Z:=⟨fun _=>none,fun _=>none⟩) (Z2:=⟨fun _=>none,fun _=>none⟩) ⟨fun _ _ _=>rfl,fun _ _ h=>h⟩ q2).2.1,
         fun Z Z2 h l hi ho=>(A6o (hh Z Z2 hi) q2).2.2 h l ho⟩
      ·rw[hm] at hb
       have hb3:b<B3.length:=by omega
       obtain⟨o,q1,_,q3⟩:=l2 b _ (gE hb3)
       rw[hsrc b (by omega)] at q1
       simp only[τ,if_pos hb] at q1
       rw[gE hb3,q1,q3 (by omega) (by simpa using hn)]
      ·exact A2k ⟨fun b b' hb=>by
        obtain⟨r1,r2⟩:=hnm b b' hb
        rw[hi b' r1,r2],hi.fz⟩ g3 hl
     exact⟨rfl,Wk.trans w1 (Wk.trans w2 (Wk.trans w4 w5))⟩
    ·cases h2
   ·cases h2
  ·cases h2
 ·cases h2
end
end Go.Ad
namespace Go.Ad
section
variable {P:Program} {A:Amb}
def frP(ds:List Nat):Nat->Heap->Heap->Prop
 | _,[],_=>True
 | i,o::r,o'::r'=>(ds.contains i=true \/ o'=o)/\frP ds (i+1) r r'
 | _,_::_,[]=>False
theorem C6j{ds:List Nat}:∀ {B B':Heap} {i:Nat},frP ds i B B'->B.length<=B'.length/\∀ b,b<B.length->i+b∉ds->B'[b]?=B[b]?
 | [],_,_,_=>⟨by simp,fun b hb=>by simp at hb⟩
 | o::r,[],_,h=>h.elim
 | o::r,o'::r',i,h=>by
  obtain⟨q1,q2⟩:=C6j h.2
  refine⟨by simpa using q1,fun b hb hn=>?_⟩
  cases b with
  | zero =>
   rcases h.1 with h | h
   ·simp only[List.contains_eq_mem,dQ] at h; exact absurd h hn
   ·simp[h]
  | succ b =>
   have e:i+1+b=i+(b+1):=by omega
   simpa using q2 b (by simpa using hb) (by rw[e]; exact hn)
theorem AFr.of_frP{ds:List Nat}{B B':Heap}(h:frP ds 0 B B'):AFr B B' ds:=⟨(C6j h).1,fun b hb hn=>(C6j h).2 b hb (by simpa using hn)⟩
theorem Tr.br_get0{α:Type}{b:Bool}{t:Tr α}{v:α}(h:(Tr.br b t .fail).get=some v):b=true/\t.get=some v:=by
 cases b with
 | true=>exact⟨rfl,h⟩
 | false=>cases h
theorem SEB.loop_nat{B0:Heap}{c:Code}{I:Nat->St}{s':St}{e:AEx}{N:Nat}(hstep:∀ i,i<N->SEB P A B0 c (I i) .normal (I (i+1)))(hexit:SEB P A B0 c (I N) e s')(he:e≠.normal):∀ {i:Nat},i<=N->SEB P A B0 (.loop c) (I i) e s':=by
 intro i hi
 induction h:N-i generalizing i with
 | zero =>
  have:i=N:=by omega
  subst this
  exact SEB.loop_exit hexit he
 | succ k ih=>exact SEB.loop_next (hstep i (by omega)) (ih (by omega) (by omega))
end
end Go.Ad
namespace Go.Ad
section
variable {P:Program} {A:Amb}
theorem PrimOK.libt{prims:Prims}(hp:PrimOK P A prims){f:FuncId}{g:List AV->Tr AV}{fn:Func}(hf:P.funcs[f]?=some fn)(hc:fn.body.isSome=true)(hg:∀ args v,(g args).get=some v->∀ (Z:Emb) (w:World) (xs:Array Value),(∀ c,c<A.G->w.heap[c]?=A.base c)->A.G<=w.heap.size->VRL Z args xs.toList ->
   Calls P f xs w fun e w'=>∃ v',e=.returned v'/\VR Z v v'/\Quiet w w'):PrimOK P A (prims.addt f g):=by
 refine hp.put hf hc fun args B v B' D h=>?_
 rw[Tr.get_plain] at h
 refine⟨A0a h,fun Z w xs hs hd _ hx=>?_⟩
 unfold only at h
 simp only[oM,pI] at h
 obtain⟨v1,h1,rfl,rfl,rfl⟩:=h
 exact(hg args _ h1 Z w xs hs.amb hs.gLe hx).mono fun e w' ⟨y,p,q,r⟩=>⟨y,Z,p,q,r.after hs hd⟩
end
end Go.Ad
namespace Go.Ad
end Go.Ad
namespace Go.Ad
inductive Tg where
 | n (k:IntKind)
 | b
 | s
 deriving DecidableEq
theorem B8l{r r':Nat->List AV}:∀ {n:Nat},(∀ i,i<n->r i=r' i)->flat n r=flat n r'
 | 0,_=>rfl
 | n+1,h=>by rw[A1o,A1o,B8l fun i hi=>h i (by omega),h n (by omega)]
theorem OR.rows{Z:Emb}{hp:Array Obj}{lo:Loc}{n es ty:Nat}{r r':Nat->List AV}(h:∀ i,i<n->r i=r' i)(ho:OR Z hp lo (.vec n r es ty)):OR Z hp lo (.vec n r' es ty):=by
 simp only[OR] at ho ⊢
 rw[B8l (fun i hi=>(h i hi).symm)]
 exact⟨⟨ho.1.1,fun i hi=>by rw[<- h i hi]; exact ho.1.2 i hi⟩,ho.2⟩
section
variable {A:Amb} {B0:Heap}
theorem Wk.obj{U:List AV}{B:Heap}{D:List Nat}{b:Nat}{o o':AObj}(hb:B[b]?=some o)(hD:b<B0.length->b∈D)(h1:o'.own=true->o.own=true)(h2:o'.live=true->o.live=true)(h3:∀ (Z:Emb) (hh:Array Obj) (l:Loc),OR Z hh l o->OR Z hh l o'):Wk A B0 ⟨U,B,D⟩ ⟨U,B.set b o',D⟩:=by
 refine Wk.objs (fun _ h=>h) (by simp) (fun x o2 hx=>?_) (fun x hx hn=>?_)
 ·by_cases e:x=b
  ·subst e
   rw[List.getElem?_set_self (gS.1 hb).1] at hx
   cases hx
   exact⟨o,hb,fun Z h l=>h3 Z h l,h1,h2⟩
  ·rw[gX (Ne.symm e)] at hx
   exact⟨o2,hx,fun _ _ _ h=>h,fun h=>h,fun h=>h⟩
 ·rw[gX]
  intro e
  subst e
  exact hn (hD hx)
variable {R:Type} {f:R->List AV} {d:R} {es:Nat} {ty:TypeId}
end
end Go.Ad
namespace Go.Ad
def J6(id:Nat):Code->Option Code
 | .seq a b=>(J6 id a).orElse fun _=>J6 id b
 | .cond _ a b=>(J6 id a).orElse fun _=>J6 id b
 | .block i c=>if i=id then some c else J6 id c
 | .loop c=>J6 id c
 | .scope c=>J6 id c
 | _=>none
def I7:Option Code->Code
 | some (.loop c)=>c
 | _=>.skip
def A9f:Code->Code | .seq a _=>a | _=>.skip
def A1f:Code->Code | .seq _ b=>b | _=>.skip
end Go.Ad
namespace Go.Ad
section
variable {P:Program} {A:Amb}
end
end Go.Ad
namespace Go.Ad
section
variable {P:Program} {A:Amb}
end
end Go.Ad
namespace Go.Ad
end Go.Ad
