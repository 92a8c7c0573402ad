/- One operation, and the operations of a region in the order of the text, stand for the machine's steps. -/
import Derived.Test.YtoboneiigikidaaGreatDoorAdGc
import Derived.Test.YtoboneiigikidaaGreatDoorAdMach
namespace Go.Ad
def mark(r:Nat):Deferred:={ target:=.collected r,args:=#[] }
def DOK(N:Nat)(w:World)(ds:List Deferred):Prop:=∃ rs:List Nat,rs.Nodup/\ds=rs.map mark/\∀ r,r∈rs->N<=r/\w.heap[r]?=some (.deferred (some []))
theorem DOK.keep{Z Z':Emb}{N n n':Nat}{D:List Nat}{w w':World}{ds:List Deferred}(h:DOK N w ds)(hs:Step Z Z' n n' D w w'):DOK N w' ds:=by
 obtain⟨rs,h1,h2,h3⟩:=h
 exact⟨rs,h1,h2,fun r hr=>⟨(h3 r hr).1,hs.defs r _ (h3 r hr).2⟩⟩
def RoundOK(b:Frame)(w:World):Prop:=∀ l,b.roundOf=some l->∃ L,w.heap[l]?=some (.loop L)
theorem RoundOK.keep{Z Z':Emb}{n n':Nat}{D:List Nat}{w w':World}{b:Frame}(h:RoundOK b w)(hs:Step Z Z' n n' D w w'):RoundOK b w':=fun l hl =>
 let ⟨L,hL⟩:=h l hl; hs.loops l L hL
def GlobOK(P:Program)(Z:Emb):Prop:=∀ g,g<(gN P)->∃ l,Z g=some l/\l.c=g/\l.d=0
theorem GlobOK.mono{P:Program}{Z Z':Emb}(h:GlobOK P Z)(hi:Z.le Z'):GlobOK P Z':=fun g hg=>let ⟨l,h1,h2⟩:=h g hg; ⟨l,hi g l h1,h2⟩
def Arr(P:Program)(m:Machine)(b:Frame)(k:List Item)(cs:List Frame):AEx->Array Value->List Deferred->World->Prop
 | .normal,t,ds,w=>Steps P m (lone (F b t ds k) cs w)
 | .exit id,t,ds,w=>∃ todo,Steps P m (lone (F b t ds (.code (.exit id)::todo)) cs w)/\exitTo id todo=exitTo id k
 | .ret,t,ds,w=>∃ todo,Steps P m (lone (F b t ds (.code .ret::todo)) cs w)
theorem Arr.head{P:Program}{m m':Machine}{b:Frame}{k:List Item}{cs:List Frame}{x:AEx}{t:Array Value}{ds:List Deferred}{w:World}(h:Steps P m m')(h':Arr P m' b k cs x t ds w):Arr P m b k cs x t ds w:=by
 cases x with
 | normal=>exact h.trans h'
 | exit id=>obtain⟨todo,h1,h2⟩:=h'; exact⟨todo,h.trans h1,h2⟩
 | ret=>obtain⟨todo,h1⟩:=h'; exact⟨todo,h.trans h1⟩
def E4l(P:Program)(A:Amb)(e:List AV->Heap->E1v)(c:Code):Prop :=
 ∀ U B x U' B' D,e U B=some (x,U',B',D)->∀ Z w (b:Frame) t ds k cs,Sim A Z B w.heap->Dom Z B.length->GlobOK P Z->VRL Z U t.toList->∀ N,N<=w.heap.size->DOK N w ds->RoundOK b w->b.kind=.normal ->
  ∃ Z' w' t' ds',Arr P (lone (F b t ds (.code c::k)) cs w) b k cs x t' ds' w'/\After A Z Z' B B' D w w'/\VRL Z' U' t'.toList/\DOK N w' ds'
def G6a(P:Program)(A:Amb)(r:Rec):Prop :=
 ∀ f args B v B' D,r.call f args B=some (v,B',D)->∀ Z w (xs:Array Value),Sim A Z B w.heap->Dom Z B.length->GlobOK P Z->VRL Z args xs.toList ->
  Calls P f xs w fun e w'=>∃ v' Z',e=.returned v'/\VR Z' v v'/\After A Z Z' B B' D w w'
def G1c(P:Program)(r:Rec):Prop:=∀ f args B v B' D,r.call f args B=some (v,B',D)->∃ fn c,P.funcs[f]?=some fn/\fn.body=some c
def A0o(P:Program):Prop:=∀ (f:FuncId) (fn:Func),P.funcs[f]?=some fn->fn.name≠"runtime.NumGoroutine"
def blocks:Code->List (Nat×Code)
 | .seq a b=>blocks a++blocks b
 | .cond _ a b=>blocks a++blocks b
 | .block id c=>(id,c)::blocks c
 | .loop c=>blocks c
 | .scope c=>blocks c
 | _=>[]
def BlkOK(P:Program)(A:Amb)(bp:Bps)(c:Code):Prop:=∀ p,p∈blocks c->∀ g,bp p.1=some g->E4l P A (fun U B=>(g U B).get) (.block p.1 p.2)
theorem BlkOK.none{P:Program}{A:Amb}(c:Code):BlkOK P A A8f c:=fun _ _ _ h=>by cases h
structure SRec (P:Program) (A:Amb) (r:Rec):Prop where
 code:∀ bp c,BlkOK P A bp c->E4l P A (r.exec bp c) c
 call:G6a P A r
 ok:G1c P r
 ext:∀ f g,r.ext f=some g->∀ args v,g args=some v->∀ (Z:Emb) (w:World) (xs:Array Value),VRL Z args xs.toList->∃ v',(callFunc f xs).run P w=.ok (.value v') w/\VR Z v v'
 num:A0o P
section
variable {P:Program} {A:Amb} {r:Rec} {Z:Emb} {B:Heap} {w:World}
theorem After.of_got{s:Sem Next}{v:AV}{B':Heap}{D:List Nat}(h:Got P A Z B w s v B' D)(hf:AFr B B' D) :
  ∃ Z' v' nx w',s.run P w=.ok nx w'/\(nx=.value v' \/ nx=.skip/\v'=undef)/\VR Z' v v'/\After A Z Z' B B' D w w':=by
 obtain⟨Z',v',nx,w',h1,h2,h3,h4,h5,h6,h7⟩:=h
 exact⟨Z',v',nx,w',h1,h2,h4,h3,h5,h7,hf⟩
theorem C5w{f:FuncId}{fn:Func}{c:Code}(hn:A0o P)(h1:P.funcs[f]?=some fn)(h2:fn.body=some c)(args:Array Value)(w:World) :
  (callFunc f args).run P w=.ok (.enter f args) w:=by
 have:=hn f fn h1
 simp[callFunc,h1,h2,this]
theorem B9c{l:Nat}{lo lo':ALoop}{lc:Loc}{L':Loop}(hs:Sim A Z B w.heap)(hd:Dom Z B.length)(hb:B[l]?=some (.loop lo))(hl:Z l=some lc)(h1:L'.state=lo'.state)(h2:L'.pending=lo'.pending)(h3:L'.params=lo'.params)(h4:L'.assign=lo'.assign)(h5:L'.body=lo'.body)(h6:VRL Z lo'.tmps L'.tmps.toList) :
  After A Z Z B (B.set l (.loop lo')) [l] w { w with heap:=w.heap.setIfInBounds lc.c (.loop L') }:=by
 obtain⟨L,g1,_⟩:=hs.obj l _ lc hb hl
 have hlt:lc.c<w.heap.size:=hs.lt l lc hl
 have hne:∀ x,x≠lc.c->(w.heap.setIfInBounds lc.c (.loop L'))[x]?=w.heap[x]?:=fun x hx=>Array.getElem?_setIfInBounds_ne (Ne.symm hx)
 refine⟨⟨Z.le_refl,fun x lx p q=>(by rw[p] at q; cases q),by simp,fun c _ hD=>hne c fun e=>hD l (by simp) lc hl e.symm,fun c L0 hL=>?_,fun c d hd'=>?_,rfl,rfl,rfl,Q6⟩,
  hs.upd hb hl rfl (by simp) hne ⟨L',by simp[hlt],h1,h2,h3,h4,h5,h6⟩,by simpa using hd,.set _ _ _⟩
 ·by_cases e:c=lc.c
  ·subst e; exact⟨L',by simp[hlt]⟩
  ·exact⟨L0,(hne c e).trans hL⟩
 ·by_cases e:c=lc.c
  ·subst e; rw[g1] at hd'; cases hd'
  ·exact(hne c e).trans hd'
theorem B2f{Z:Emb}:∀ (ps:List Tmp) (as:List AV) (xs:List Value) (t:List AV) (u:Array Value),VRL Z as xs->VRL Z t u.toList ->
  VRL Z ((ps.zip as).foldl (fun t (p,a)=>t.set p a) t) ((ps.zip xs).foldl (fun t (p,a)=>t.setIfInBounds p a) u).toList
 | [],as,xs,t,u,_,h=>by simpa using h
 | p::ps,[],xs,t,u,h,h'=>by simp only[VRL] at h; subst h; simpa using h'
 | p::ps,a::as,xs,t,u,h,h'=>by
  simp only[VRL] at h
  obtain⟨x,ys,rfl,h1,h2⟩:=h
  simp only[List.zip_cons_cons,List.foldl_cons]
  refine B2f ps as ys _ _ h2 ?_
  have:=h'.set p h1
  simpa using this
theorem B9z{Z:Emb}{B:Heap}{h:World}{l:Nat}{lo:ALoop}{lc:Loc}(hs:Sim A Z B h.heap)(hb:B[l]?=some (.loop lo))(hl:Z l=some lc)(b:Frame)(hr:b.roundOf=some lc.c) :
  RoundOK b h:=fun l' hl'=>by
 rw[hr] at hl'; cases hl'
 obtain⟨L,g1,_⟩:=hs.obj l _ lc hb hl
 exact⟨L,g1⟩
theorem D3u(hr:SRec P A r)(hfr:FrOK r){l:Nat}{lc:Loc}{args:List AV}{xs:Array Value}{v:AV}{B':Heap}{D:List Nat}(h:A5v r l args B=some (v,B',D))(hs:Sim A Z B w.heap)(hd:Dom Z B.length)(hgl:GlobOK P Z)(hl:Z l=some lc)(hx:VRL Z args xs.toList) :
  ∃ f tm as body,(Instr.yield lc.c xs).run P w=.ok (.round lc.c f tm as body) w /\
   ∀ c cs,∃ v' Z' w',Steps P (lone (Frame.round lc.c f tm as body .normal) (c::cs) w) (lone (c.finish v') cs w')/\VR Z' v v'/\After A Z Z' B B' D w w':=by
 have hfr':=C1q hfr h
 unfold A5v at h
 split at h
 ·rename_i lo hb
  obtain⟨L,g1,g2,g3,g4,g5,g6,g7⟩:=hs.obj l _ lc hb hl
  split at h
  ·rename_i hlen
   have hxl:xs.size=L.params.size:=by have:=hx.length; simp at this; rw[g4,<- hlen,this]
   refine⟨L.fn,(L.params.zip xs).foldl (fun tmps (t,a)=>tmps.setIfInBounds t a) L.tmps,L.assign,L.body,?_,fun c cs=>?_⟩
   ·simp only[Instr.yield,Sem.run_bind,A2c g1,rK,hxl,ne_eq,not_true,if_false,Sem.run_pure]
   ·have ht:VRL Z ((lo.params.toList.zip args).foldl (fun t (p,a)=>t.set p a) lo.tmps) ((L.params.zip xs).foldl (fun tmps (t,a)=>tmps.setIfInBounds t a) L.tmps).toList:=by
     have:=B2f lo.params.toList args xs.toList lo.tmps L.tmps hx g7
     rw[g4,<- Array.foldl_toList,Array.toList_zip]
     exact this
    let b0:Frame:={ (default:Frame) with fn:=L.fn,kind:=.normal,roundOf:=some lc.c }
    have hstart:Frame.round lc.c L.fn ((L.params.zip xs).foldl (fun tmps (t,a)=>tmps.setIfInBounds t a) L.tmps) L.assign L.body .normal =
      F b0 ((L.params.zip xs).foldl (fun tmps (t,a)=>tmps.setIfInBounds t a) L.tmps) [] [.code L.assign,.beginRound,.code L.body]:=rfl
    rw[hstart]
    split at h
    ·rename_i U1 B1 D1 h1
     obtain⟨Z1,w1,t1,ds1,r1,r2,r3,r4⟩:=hr.code _ _ (.none _) _ _ _ _ _ _ h1 Z w b0 _ [] [.beginRound,.code L.body] (c::cs) hs hd hgl ht 0 (Nat.zero_le _) ⟨[],List.nodup_nil,rfl,fun _ h=>by cases h⟩
      (B9z hs hb hl b0 rfl) rfl
     rw[<- g5] at r1
     have hl1:=r2.step.ext l lc hl
     split at h
     ·rename_i lo1 hb1
      obtain⟨L1,q1,q2,q3,q4,q5,q6,q7⟩:=r2.sim.obj l _ lc hb1 hl1
      split at h
      ·rename_i hst
       have hbr:=C1h (P:=P) (b:=b0) (t:=t1) (ds:=ds1) (k:=[.code L.body]) (cs:=c::cs) (w:=w1) rfl q1 (q2.trans hst)
       have hset:=B9c (L':={ L1 with state:=.busy }) (lo':={ lo1 with state:=.busy }) r2.sim r2.dom hb1 hl1 rfl q3 q4 q5 q6 q7
       split at h
       ·rename_i e U2 B2 D2 h2
        have r3':=r3
        obtain⟨Z2,w2,t2,ds2,s1,s2,s3,s4⟩:=hr.code _ _ (.none _) _ _ _ _ _ _ h2 Z1 _ b0 t1 ds1 [] (c::cs) hset.sim hset.dom (hgl.mono r2.step.ext) r3 0 (Nat.zero_le _) (r4.keep hset.step)
         (B9z (lo:={ lo1 with state:=.busy }) hset.sim (by rw[List.getElem?_set]; simp[(gS.1 hb1).1]) hl1 b0 rfl) rfl
        rw[<- g6] at s1
        have hl2:=s2.step.ext l lc hl1
        split at h
        ·rename_i lo2 hb2
         obtain⟨L2,p1,p2,p3,p4,p5,p6,p7⟩:=s2.sim.obj l _ lc hb2 hl2
         have hfin:∀ (jump:Option Code) (todo:List Item) (lo3:ALoop),lo3={ lo2 with state:=if jump.isNone then .ready else .done,pending:=jump } ->
           Steps P (lone (F b0 t1 ds1 [.code L.body]) (c::cs) { w1 with heap:=w1.heap.setIfInBounds lc.c (.loop { L1 with state:=.busy }) }) (lone (F b0 t2 ds2 todo) (c::cs) w2) ->
           ((todo=[]/\jump=none) \/ (∃ k,todo=.code .ret::k/\jump=some .ret) \/ (∃ k i,todo=.code (.exit i)::k/\exitTo i k=none/\jump=some (.exit i))) ->
           v=.bool jump.isNone->B'=B2.set l (.loop lo3)->D=D1++[l]++D2++[l] ->
           ∃ v' Z' w',Steps P (lone (F b0 ((L.params.zip xs).foldl (fun tmps (t,a)=>tmps.setIfInBounds t a) L.tmps) [] [.code L.assign,.beginRound,.code L.body]) (c::cs) w) (lone (c.finish v') cs w') /\
            VR Z' v v'/\After A Z Z' B B' D w w':=by
          intro jump todo lo3 hlo3 hsteps hj hv hB hD
          subst hv hB hD hlo3
          have hleave:=E6l (P:=P) (b:=b0) (t:=t2) (ds:=ds2) (c:=c) (cs:=cs) (w:=w2) (todo:=todo) (jump:=jump) rfl rfl p1 hj
          have hset2:=B9c (L':={ L2 with state:=if jump.isNone then .ready else .done,pending:=jump }) (lo':={ lo2 with state:=if jump.isNone then .ready else .done,pending:=jump })
           s2.sim s2.dom hb2 hl2 rfl rfl p4 p5 p6 p7
          refine⟨.bool jump.isNone,Z2,{ w2 with heap:=w2.heap.setIfInBounds lc.c (.loop { L2 with state:=if jump.isNone then .ready else .done,pending:=jump }) },?_,by simp[VR],?_⟩
          ·exact r1.trans ((Steps.one hbr).trans (hsteps.trans (.one hleave)))
          ·have:=((r2.trans hset).trans s2).trans hset2
           exact this
         cases e with
         | normal =>
          simp only[sI,pI] at h
          obtain⟨rfl,rfl,rfl⟩:=h
          exact hfin none [] _ rfl s1 (.inl ⟨rfl,rfl⟩) rfl rfl rfl
         | ret =>
          simp only[sI,pI] at h
          obtain⟨rfl,rfl,rfl⟩:=h
          obtain⟨todo,s1⟩:=s1
          exact hfin (some .ret) _ _ rfl s1 (.inr (.inl ⟨todo,rfl,rfl⟩)) rfl rfl rfl
         | exit id =>
          simp only[sI,pI] at h
          obtain⟨rfl,rfl,rfl⟩:=h
          obtain⟨todo,s1,s5⟩:=s1
          exact hfin (some (.exit id)) _ _ rfl s1 (.inr (.inr ⟨todo,id,rfl,s5,rfl⟩)) rfl rfl rfl
        ·simp at h
       ·simp at h
      ·simp at h
     ·simp at h
    ·simp at h
  ·simp at h
 ·simp at h
end
end Go.Ad
