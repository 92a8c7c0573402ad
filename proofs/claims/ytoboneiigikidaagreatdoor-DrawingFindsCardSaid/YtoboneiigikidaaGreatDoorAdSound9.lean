/- The abstract evaluator of code stands for the machine. -/
import Derived.Test.YtoboneiigikidaaGreatDoorAdLate
namespace Go.Ad
section
variable {P:Program} {A:Amb} {r:Rec}
theorem D3v{b:Frame}{t t':Array Value}{ds ds':List Deferred}{k k':List Item}{cs:List Frame}{w w':World}(h:lone (F b t ds k) cs w=lone (F b t' ds' k') cs w'):k=k':=by
 have h1:=congrArg (fun m:Machine=>(m.gs[0]?).map (·.frame.todo)) h
 simpa[lone,F] using h1
theorem B0z{m0 m1 m2 x:Machine}(h0:step P m0=.next m2)(h1:step P m1=.next m2)(h:Steps P m1 x)(hne:x≠m1):Steps P m0 x:=by
 obtain⟨n,hn⟩:=h
 cases n with
 | zero=>simp[runN] at hn; exact(hne hn.symm).elim
 | succ n =>
  simp only[runN,h1] at hn
  exact .head h0 ⟨n,hn⟩
theorem C9q{c:Code}{b:Frame}{k:List Item}{cs:List Frame}{x:AEx}{t t':Array Value}{ds ds':List Deferred}{w w':World}(h:Arr P (lone (F b t ds (.code (.loop c)::k)) cs w) b k cs x t' ds' w'):Arr P (lone (F b t ds (.inLoop c::k)) cs w) b k cs x t' ds' w':=by
 cases x with
 | normal =>
  refine B0z A8x go_loop h fun e=>?_
  have:=D3v e
  have:=congrArg List.length this
  simp at this
 | exit id =>
  obtain⟨todo,h1,h2⟩:=h
  refine⟨todo,B0z A8x go_loop h1 fun e=>?_,h2⟩
  have:=D3v e; simp at this
 | ret =>
  obtain⟨todo,h1⟩:=h
  refine⟨todo,B0z A8x go_loop h1 fun e=>?_⟩
  have:=D3v e; simp at this
theorem E8b{Z:Emb}{B:Heap}{w:World}(hs:Sim A Z B w.heap)(obj:Obj):Sim A Z B (w.heap.push obj):=by
 have hk:∀ c,c<w.heap.size->(w.heap.push obj)[c]?=w.heap[c]?:=fun c hc=>by
  rw[Array.getElem?_push]; simp[Nat.ne_of_lt hc]
 exact⟨fun b o l hb hl=>(hs.obj b o l hb hl).keep Z.le_refl (hk _ (hs.lt b l hl)),fun b l hl=>by have:=hs.lt b l hl; simp; omega,hs.own,
  fun c hc=>(hk c (Nat.lt_of_lt_of_le hc hs.gLe)).trans (hs.amb c hc),hs.ownG,by have:=hs.gLe; simp; omega,fun c v hc=>(hs.fzOK c v hc).keep (hk c (hs.fzOK c v hc).lt),hs.fzSep⟩
theorem C2z{Z:Emb}{n:Nat}{w:World}(obj:Obj):Step Z Z n n [] w { w with heap:=w.heap.push obj }:=by
 have hk:∀ c,c<w.heap.size->(w.heap.push obj)[c]?=w.heap[c]?:=fun c hc=>by
  rw[Array.getElem?_push]; simp[Nat.ne_of_lt hc]
 exact⟨Z.le_refl,fun b l p q=>(by rw[p] at q; cases q),by simp,fun c hc _=>hk c hc,fun c L hL=>⟨L,(hk c (gA.1 hL).1).trans hL⟩,
  fun c d hd=>(hk c (gA.1 hd).1).trans hd,rfl,rfl,rfl,Q6⟩
theorem A7v(F7:P.follows .mixedOrders=true)(hr:SRec P A r)(hfr:FrOK r)(bp:Bps):∀ c,BlkOK P A bp c->E4l P A (J7 P r bp c) c:=by
 intro c
 induction c with
 | skip =>
  intro hbp U B x U' B' D h Z w b t ds k cs hs hd hg hv N hN hds hrd hk
  simp only[J7,sI,pI] at h
  obtain⟨rfl,rfl,rfl,rfl⟩:=h
  exact⟨Z,w,t,ds,.one go_skip,.refl hs hd,hv,hds⟩
 | label l =>
  intro hbp U B x U' B' D h Z w b t ds k cs hs hd hg hv N hN hds hrd hk
  simp only[J7,sI,pI] at h
  obtain⟨rfl,rfl,rfl,rfl⟩:=h
  exact⟨Z,w,t,ds,.one E6k,.refl hs hd,hv,hds⟩
 | exit id =>
  intro hbp U B x U' B' D h Z w b t ds k cs hs hd hg hv N hN hds hrd hk
  simp only[J7,sI,pI] at h
  obtain⟨rfl,rfl,rfl,rfl⟩:=h
  exact⟨Z,w,t,ds,⟨k,.refl _ _,rfl⟩,.refl hs hd,hv,hds⟩
 | ret =>
  intro hbp U B x U' B' D h Z w b t ds k cs hs hd hg hv N hN hds hrd hk
  simp only[J7,sI,pI] at h
  obtain⟨rfl,rfl,rfl,rfl⟩:=h
  exact⟨Z,w,t,ds,⟨k,.refl _ _⟩,.refl hs hd,hv,hds⟩
 | goto l=>intro hbp U B x U' B' D h; simp[J7] at h
 | refuse y=>intro hbp U B x U' B' D h; simp[J7] at h
 | region id ops draw =>
  intro hbp U B x U' B' D h Z w b t ds k cs hs hd hg hv N hN hds hrd hk
  cases draw with
  | false =>
   simp only[J7,oM,pI,Prod.exists] at h
   obtain⟨U1,B1,D1,h1,rfl,rfl,rfl,rfl⟩:=h
   obtain⟨Z1,w1,t1,s1,s2,s3⟩:=A4l (b:=b) (ds:=ds) (k:=k) (cs:=cs) hr hfr ops.toList 0 U B U1 B1 D1 Z w t (fun j=>by simp) h1 hs hd hg hv
   refine⟨Z1,w1,t1,ds,?_,s3,s2,hds.keep s3.step⟩
   have:List.range ops.size=List.range' 0 ops.toList.length:=by simp[List.range_eq_range']
   exact(Steps.one (by rw[go_region,this])).trans (s1.trans (.one U9))
  | true =>
   simp only[J7,oM,pI,Prod.exists] at h
   obtain⟨U1,B1,D1,h1,rfl,rfl,rfl,rfl⟩:=h
   obtain⟨Z1,w1,t1,s1,s2,s3⟩:=B2q F7 hr hfr h1 hs hd hg hv id b ds k cs
   exact⟨Z1,w1,t1,ds,s1,s3,s2,hds.keep s3.step⟩
 | seq x y ihx ihy =>
  intro hbp U B e U' B' D h Z w b t ds k cs hs hd hg hv N hN hds hrd hk
  replace ihx:=ihx fun p hp=>hbp p (by simp[blocks,hp])
  replace ihy:=ihy fun p hp=>hbp p (by simp[blocks,hp])
  simp only[J7] at h
  split at h
  ·rename_i U1 B1 D1 h1
   obtain⟨D2,h2,rfl⟩:=A8q h
   obtain⟨Z1,w1,t1,ds1,s1,s2,s3,s4⟩:=ihx _ _ _ _ _ _ h1 Z w b t ds (.code y::k) cs hs hd hg hv N hN hds hrd hk
   obtain⟨Z2,w2,t2,ds2,q1,q2,q3,q4⟩:=ihy _ _ _ _ _ _ h2 Z1 w1 b t1 ds1 k cs s2.sim s2.dom (hg.mono s2.step.ext) s3 N (Nat.le_trans hN s2.step.size) s4 (hrd.keep s2.step) hk
   exact⟨Z2,w2,t2,ds2,.head (.head A6k s1) q1,s2.trans q2,q3,q4⟩
  ·rename_i hne
   obtain⟨Z1,w1,t1,ds1,s1,s2,s3,s4⟩:=ihx _ _ _ _ _ _ h Z w b t ds (.code y::k) cs hs hd hg hv N hN hds hrd hk
   refine⟨Z1,w1,t1,ds1,.head (.one A6k) ?_,s2,s3,s4⟩
   cases e with
   | normal=>exact(hne _ _ _ h).elim
   | exit id=>obtain⟨todo,p,q⟩:=s1; exact⟨todo,p,q.trans rfl⟩
   | ret=>exact s1
 | cond c x y ihx ihy =>
  intro hbp U0 B e U' B' D h Z w b t ds k cs hs hd hg hv0 N hN hds hrd hk
  replace ihx:=ihx fun p hp=>hbp p (by simp[blocks,hp])
  replace ihy:=ihy fun p hp=>hbp p (by simp[blocks,hp])
  simp only[J7] at h
  generalize hU:A9r U0 (C5z c)=U at h
  have hv:VRL Z U t.toList:=by rw[<- hU]; exact B3x hv0 _
  have hc:=A8r (ds:=ds) hv hg c
  split at h
  ·rename_i hb
   rw[hb] at hc; simp only[VR] at hc
   obtain⟨Z1,w1,t1,ds1,s1,s2,s3,s4⟩:=ihx _ _ _ _ _ _ h Z w b t ds k cs hs hd hg hv N hN hds hrd hk
   exact⟨Z1,w1,t1,ds1,.head (.one (B5w hc)) s1,s2,s3,s4⟩
  ·rename_i hb
   rw[hb] at hc; simp only[VR] at hc
   obtain⟨Z1,w1,t1,ds1,s1,s2,s3,s4⟩:=ihy _ _ _ _ _ _ h Z w b t ds k cs hs hd hg hv N hN hds hrd hk
   exact⟨Z1,w1,t1,ds1,.head (.one (B5w hc)) s1,s2,s3,s4⟩
  ·simp at h
 | block id c ih =>
  intro hbp U B e U' B' D h Z w b t ds k cs hs hd hg hv N hN hds hrd hk
  simp only[J7] at h
  split at h
  ·rename_i g hgb
   exact hbp (id,c) (by simp[blocks]) g hgb _ _ _ _ _ _ h Z w b t ds k cs hs hd hg hv N hN hds hrd hk
  replace ih:=ih fun p hp=>hbp p (by simp[blocks,hp])
  split at h
  ·rename_i id' U1 B1 D1 h1
   simp only[sI,pI] at h
   obtain⟨rfl,rfl,rfl,rfl⟩:=h
   obtain⟨Z1,w1,t1,ds1,⟨todo,s1,s1'⟩,s2,s3,s4⟩:=ih _ _ _ _ _ _ h1 Z w b t ds (.inBlock id::k) cs hs hd hg hv N hN hds hrd hk
   refine⟨Z1,w1,t1,ds1,.head (.one A5i) ?_,s2,s3,s4⟩
   by_cases he:id'=id
   ·subst he
    simp only[if_true]
    have:exitTo id' (.inBlock id'::k)=some k:=by simp[exitTo]
    exact s1.trans (.one (C6l (s1'.trans this)))
   ·simp only[he,if_false]
    have hn:(id==id')=false:=by simp; exact fun h=>he h.symm
    exact⟨todo,s1,s1'.trans (by simp[exitTo,hn])⟩
  ·rename_i hne
   obtain⟨Z1,w1,t1,ds1,s1,s2,s3,s4⟩:=ih _ _ _ _ _ _ h Z w b t ds (.inBlock id::k) cs hs hd hg hv N hN hds hrd hk
   refine⟨Z1,w1,t1,ds1,.head (.one A5i) ?_,s2,s3,s4⟩
   cases e with
   | normal=>exact Steps.trans s1 (.one B0i)
   | exit id'=>exact(hne _ _ _ _ h).elim
   | ret=>exact s1
 | loop c ih =>
  intro hbp U B e U' B' D h Z w b t ds k cs hs hd hg hv N hN hds hrd hk
  have hbp':BlkOK P A bp (.loop c):=hbp
  replace ih:=ih fun p hp=>hbp p (by simpa[blocks] using hp)
  simp only[J7,U5,A1h] at h
  split at h
  ·rename_i U1 B1 D1 h1
   obtain⟨D2,h2,rfl⟩:=A8q h
   obtain⟨Z1,w1,t1,ds1,s1,s2,s3,s4⟩:=ih _ _ _ _ _ _ h1 Z w b t ds (.inLoop c::k) cs hs hd hg hv N hN hds hrd hk
   obtain⟨Z2,w2,t2,ds2,q1,q2,q3,q4⟩:=hr.code bp _ hbp' _ _ _ _ _ _ h2 Z1 w1 b t1 ds1 k cs s2.sim s2.dom (hg.mono s2.step.ext) s3 N (Nat.le_trans hN s2.step.size) s4 (hrd.keep s2.step) hk
   exact⟨Z2,w2,t2,ds2,.head (.head go_loop s1) (C9q q1),s2.trans q2,q3,q4⟩
  ·rename_i hne
   obtain⟨Z1,w1,t1,ds1,s1,s2,s3,s4⟩:=ih _ _ _ _ _ _ h Z w b t ds (.inLoop c::k) cs hs hd hg hv N hN hds hrd hk
   refine⟨Z1,w1,t1,ds1,.head (.one go_loop) ?_,s2,s3,s4⟩
   cases e with
   | normal=>exact(hne _ _ _ h).elim
   | exit id=>obtain⟨todo,p,q⟩:=s1; exact⟨todo,p,q.trans rfl⟩
   | ret=>exact s1
 | scope c ih =>
  intro hbp U B e U' B' D h Z w b t ds k cs hs hd hg hv N hN hds hrd hk
  replace ih:=ih fun p hp=>hbp p (by simpa[blocks] using hp)
  simp only[J7] at h
  obtain⟨Z1,w1,t1,ds1,s1,s2,s3,s4⟩:=ih _ _ _ _ _ _ h Z w b t ds (.inScope c::k) cs hs hd hg hv N hN hds hrd hk
  refine⟨Z1,w1,t1,ds1,.head (.one E6n) ?_,s2,s3,s4⟩
  cases e with
  | normal=>exact Steps.trans s1 (.one D6e)
  | exit id=>obtain⟨todo,p,q⟩:=s1; exact⟨todo,p,q.trans rfl⟩
  | ret=>exact s1
 | rangeFunc f ps as body _ _ =>
  intro hbp U B e U' B' D h Z w b t ds k cs hs hd hg hv N hN hds hrd hk
  simp only[J7] at h
  have hf:=A8r (ds:=ds) hv hg f
  split at h
  ·rename_i v1 B1 D1 h1
   unfold B7r at h1
   split at h1
   ·rename_i g first captured hfv
    rw[hfv] at hf
    simp only[VR,FR] at hf
    obtain⟨f',xs,ys,he,rfl,hx,hy⟩:=hf
    obtain⟨fn,code,hfn,hbody⟩:=hr.ok _ _ _ _ _ _ h1
    have F9:=hr.num g fn hfn
    have hn:Z B.length=none:=hd _ (lR _)
    have key:∀ (wj:World) (L0:Loop) (ds2:List Deferred),Sim A Z B wj.heap->Step Z Z B.length B.length [] w wj->L0.state=.ready->L0.pending=none->L0.params=ps->L0.assign=as->L0.body=body->L0.tmps=t ->
      step P (lone (F b t ds (.code (.rangeFunc f ps as body)::k)) cs w)=.next (lone (Frame.enter P g (xs++#[.func (.yield wj.heap.size) #[] #[]]++ys) .normal)
       (F b t ds2 (.inRangeFunc wj.heap.size::k)::cs) { wj with heap:=wj.heap.push (.loop L0) })->DOK N wj ds2 ->
      ∃ Z' w' t' ds',Arr P (lone (F b t ds (.code (.rangeFunc f ps as body)::k)) cs w) b k cs e t' ds' w'/\After A Z Z' B B' D w w'/\VRL Z' U' t'.toList/\DOK N w' ds':=by
     intro wj L0 ds2 hsj hstj l1 l2 l3 l4 l5 l6 hstep hds2
     let Z1:=Z.put B.length ⟨wj.heap.size,0,0,0⟩
     have hv1:VRL Z1 U t.toList:=hv.mono (Emb.le_put hn)
     have hA1:After A Z Z1 B (B++[.loop { state:=.ready,pending:=none,tmps:=U,params:=ps,assign:=as,body:=body }]) [] w { wj with heap:=wj.heap.push (.loop L0) }:=by
      have h2:=hsj.push (w:=wj) (obj:=.loop L0) (o:=.loop { state:=.ready,pending:=none,tmps:=U,params:=ps,assign:=as,body:=body }) (d:=0) (n:=0) (es:=0) hn
       ⟨L0,by simp,l1,l2,l3,l4,l5,by rw[l6]; exact hv1⟩
      have h3:=hstj.trans (Step.push (w:=wj) (B:=B) hn (.loop L0) 0 0 0) (lR _) (by omega)
      refine⟨?_,h2,by simpa using hd.put,.push _ _⟩
      simpa using h3
     have hcall:=hr.call g _ _ _ _ _ h1 Z1 _ (xs++#[.func (.yield wj.heap.size) #[] #[]]++ys) hA1.sim hA1.dom (hg.mono hA1.step.ext) (by
      have p1:=hx.mono (Emb.le_put (l:=⟨wj.heap.size,0,0,0⟩) hn)
      have p2:=hy.mono (Emb.le_put (l:=⟨wj.heap.size,0,0,0⟩) hn)
      have p3:VRL Z1 [AV.func (.yield B.length) [] []] [Value.func (.yield wj.heap.size) #[] #[]]:=by
       simp only[VRL,VR,FR]
       exact⟨_,_,rfl,⟨_,_,_,rfl,⟨_,Emb.put_self _ _ _,rfl⟩,rfl,rfl⟩,rfl⟩
      have:=(p1.append p3).append p2
      simpa using this)
     obtain⟨ee,w2,fr,⟨v',Z2,rfl,hv',haft⟩,hcomes,hfn',hleave⟩:=hcall (F b t ds2 (.inRangeFunc wj.heap.size::k)::cs)
     have hret:=step_leave_returned (c:=F b t ds2 (.inRangeFunc wj.heap.size::k)) (cs:=cs) hleave
     rw[C6h] at hret
     have hl2:Z2 B.length=some ⟨wj.heap.size,0,0,0⟩:=haft.step.ext _ _ (Emb.put_self _ _ _)
     split at h
     ·rename_i lo hb1
      obtain⟨L,g1,g2,g3,g4,g5,g6,g7⟩:=haft.sim.obj _ _ _ hb1 hl2
      split at h
      ·simp at h
      ·rename_i hnb
       have hend:=D1j (P:=P) (b:=b) (t:=t) (ds:=ds2) (k:=k) (cs:=cs) (w:=w2) g1 (by rw[g2]; exact hnb)
       have hset:=B9c (L':={ L with state:=.exhausted }) (lo':={ lo with state:=.exhausted }) haft.sim haft.dom hb1 hl2 rfl g3 g4 g5 g6 g7
       have hall:=(hA1.trans haft).trans hset
       simp only[List.nil_append] at hall
       have hpath:=(Steps.one hstep).trans (Steps.trans hcomes ((Steps.one hret).trans (.one hend)))
       have hvv:=hv.mono hall.step.ext
       have hdd:DOK N { w2 with heap:=w2.heap.setIfInBounds wj.heap.size (.loop { L with state:=.exhausted }) } ds2:=by
        have h5:=(C2z (Z:=Z) (n:=0) (w:=wj) (.loop L0))
        exact((hds2.keep h5).keep haft.step).keep hset.step
       split at h
       ·rename_i hp
        simp only[sI,pI] at h
        obtain⟨rfl,rfl,rfl,rfl⟩:=h
        rw[show(L.pending.map Item.code).toList++k=k from by rw[g3,hp]; rfl] at hpath
        exact⟨Z2,_,t,ds2,hpath,hall,hvv,hdd⟩
       ·rename_i hp
        simp only[sI,pI] at h
        obtain⟨rfl,rfl,rfl,rfl⟩:=h
        rw[show(L.pending.map Item.code).toList++k=.code .ret::k from by rw[g3,hp]; rfl] at hpath
        exact⟨Z2,_,t,ds2,⟨k,hpath⟩,hall,hvv,hdd⟩
       ·rename_i id hp
        simp only[sI,pI] at h
        obtain⟨rfl,rfl,rfl,rfl⟩:=h
        rw[show(L.pending.map Item.code).toList++k=.code (.exit id)::k from by rw[g3,hp]; rfl] at hpath
        exact⟨Z2,_,t,ds2,⟨k,hpath,rfl⟩,hall,hvv,hdd⟩
       ·simp at h
     ·simp at h
    cases hro:b.roundOf with
    | none =>
     have hst:=E6m (P:=P) (b:=b) (t:=t) (ds:=ds) (k:=k) (cs:=cs) (w:=w) (ps:=ps) (as:=as) (body:=body) hro he hfn hbody F9
     refine key { w with heap:=w.heap.push (.deferred (some [])) } { state:=.ready,pending:=none,fn:=b.fn,tmps:=t,params:=ps,assign:=as,body:=body,defers:=w.heap.size } (mark w.heap.size::ds)
      (E8b hs _) (C2z _) rfl rfl rfl rfl rfl rfl (by simpa[mark] using hst) ?_
     obtain⟨rs,p1,p2,p3⟩:=hds
     refine⟨w.heap.size::rs,List.nodup_cons.2 ⟨fun hm=>?_,p1⟩,by simp[p2],fun r hr=>?_⟩
     ·have:=(gA.1 (p3 _ hm).2).1; omega
     ·rcases List.mem_cons.1 hr with rfl | hr
      ·exact⟨hN,by simp⟩
      ·refine⟨(p3 r hr).1,?_⟩
       have hlt:=(gA.1 (p3 r hr).2).1
       show(w.heap.push (.deferred (some [])))[r]?=_
       rw[Array.getElem?_push]; simp only[Nat.ne_of_lt hlt,if_false]
       exact(p3 r hr).2
    | some l0 =>
     obtain⟨L0,hL0⟩:=hrd l0 hro
     have hst:=D1m (P:=P) (b:=b) (t:=t) (ds:=ds) (k:=k) (cs:=cs) (w:=w) (ps:=ps) (as:=as) (body:=body) hro hL0 he hfn hbody F9
     exact key w { state:=.ready,pending:=none,fn:=b.fn,tmps:=t,params:=ps,assign:=as,body:=body,defers:=L0.defers } ds hs (.refl _ _ _) rfl rfl rfl rfl rfl rfl hst hds
   ·simp at h1
  ·simp at h
end
end Go.Ad
