/- What the abstract evaluator gives for a call, the machine gives: on every tape, with all that was there before as it was, but for the blocks that the evaluator wrote. -/
import Derived.Test.YtoboneiigikidaaGreatDoorAdSound9
namespace Go.Ad
structure Quiet (w w':World):Prop where
 size:w.heap.size<=w'.heap.size
 keep:∀ c,c<w.heap.size->w'.heap[c]?=w.heap[c]?
 tape:w'.tape=w.tape
 os:w'.os=w.os
 out:w'.output=w.output
structure PrimOK (P:Program) (A:Amb) (prims:Prims):Prop where
 ext:∀ f g,prims.ext f=some g->∀ args v,g args=some v->∀ (Z:Emb) (w:World) (xs:Array Value),VRL Z args xs.toList->∃ v',(callFunc f xs).run P w=.ok (.value v') w/\VR Z v v'
 fn:∀ f g,prims.fn f=some g->(∃ fn c,P.funcs[f]?=some fn/\fn.body=some c) /\
  ∀ args B v B' D,(g args B).get=some (v,B',D)->AFr B B' D/\∀ (Z:Emb) (w:World) (xs:Array Value),Sim A Z B w.heap->Dom Z B.length->GlobOK P Z->VRL Z args xs.toList ->
   Calls P f xs w fun e w'=>∃ v' Z',e=.returned v'/\VR Z' v v'/\After A Z Z' B B' D w w'
 blkfr:∀ f,FrBp (prims.blk f)
 blk:∀ f fn c,P.funcs[f]?=some fn->fn.body=some c->BlkOK P A (prims.blk f) c
theorem PrimOK.fr{P:Program}{A:Amb}{prims:Prims}(h:PrimOK P A prims):D4c prims:=⟨fun f g hf args B v B' D hg=>((h.fn f g hf).2 args B v B' D hg).1,h.blkfr⟩
section
variable {P:Program} {A:Amb} {r:Rec} {Z:Emb} {B:Heap} {w:World}
theorem Quiet.after{w':World}(h:Quiet w w')(hs:Sim A Z B w.heap)(hd:Dom Z B.length):After A Z Z B B [] w w':=by
 refine⟨⟨Z.le_refl,fun b l p q=>(by rw[p] at q; cases q),h.size,fun c hc _=>h.keep c hc,fun c L hL=>⟨L,(h.keep c (gA.1 hL).1).trans hL⟩,
  fun c d hd'=>(h.keep c (gA.1 hd').1).trans hd',h.tape,h.os,h.out,Q6⟩,
  ⟨fun b o l hb hl=>(hs.obj b o l hb hl).keep Z.le_refl (h.keep _ (hs.lt b l hl)),fun b l hl=>Nat.lt_of_lt_of_le (hs.lt b l hl) h.size,hs.own,
   fun c hc=>(h.keep c (Nat.lt_of_lt_of_le hc hs.gLe)).trans (hs.amb c hc),hs.ownG,Nat.le_trans hs.gLe h.size,fun c v hc=>(hs.fzOK c v hc).keep (h.keep c (hs.fzOK c v hc).lt),hs.fzSep⟩,hd,.refl _⟩
theorem B1b{b:Frame}{t:Array Value}{todo:List Item}{cs:List Frame}:∀ (rs:List Nat) (w:World),rs.Nodup->(∀ r,r∈rs->w.heap[r]?=some (.deferred (some []))) ->
  ∃ w',Steps P (lone { F b t (rs.map mark) todo with mode:=.returning } cs w) (lone { F b t [] todo with mode:=.returning } cs w')/\w'.heap.size=w.heap.size /\
   (∀ c,c∉rs->w'.heap[c]?=w.heap[c]?)/\w'.tape=w.tape/\w'.os=w.os/\w'.output=w.output
 | [],w,_,_=>⟨w,.refl _ _,rfl,fun _ _=>rfl,rfl,rfl,rfl⟩
 | r::rs,w,hn,h=>by
  rw[List.nodup_cons] at hn
  have h1:=F4q (P:=P) (b:=b) (t:=t) (ds:=rs.map mark) (cs:=cs) (todo:=todo) (w:=w) (h r (by simp))
  obtain⟨w',s1,s2,s3,s4⟩:=B1b rs { w with heap:=w.heap.setIfInBounds r (.deferred none) } hn.2 fun r' hr'=>by
   show(w.heap.setIfInBounds r (.deferred none))[r']?=_
   rw[Array.getElem?_setIfInBounds_ne fun e=>by subst e; exact hn.1 hr']
   exact h r' (by simp[hr'])
  refine⟨w',.head h1 s1,by rw[s2]; simp,fun c hc=>?_,s4⟩
  rw[s3 c fun hm=>hc (by simp[hm])]
  exact Array.getElem?_setIfInBounds_ne fun e=>hc (by simp[e])
theorem After.unwind{Z':Emb}{B':Heap}{D:List Nat}{w' w'':World}(h:After A Z Z' B B' D w w')(hgLe:A.G<=w.heap.size){rs:List Nat}(hrs:∀ r,r∈rs->w.heap.size<=r/\w'.heap[r]?=some (.deferred (some [])))(hsz:w''.heap.size=w'.heap.size)(hk:∀ c,c∉rs->w''.heap[c]?=w'.heap[c]?)(ht:w''.tape=w'.tape)(ho:w''.os=w'.os)(hp:w''.output=w'.output):After A Z Z' B B' D w w'':=by
 have hold:∀ c,c<w.heap.size->w''.heap[c]?=w'.heap[c]?:=fun c hc=>hk c fun hm=>by have:=(hrs c hm).1; omega
 have hs:=h.step
 refine⟨⟨hs.ext,hs.dom,by rw[hsz]; exact hs.size,fun c hc hD=>(hold c hc).trans (hs.keep c hc hD),fun c L hL=>?_,fun c d hd=>?_,ht.trans hs.tape,ho.trans hs.os,hp.trans hs.out,hs.fdom⟩,
  ⟨fun b o l hb hl=>?_,fun b l hl=>by rw[hsz]; exact h.sim.lt b l hl,h.sim.own,fun c hc=>(hold c (by omega)).trans (h.sim.amb c hc),h.sim.ownG,by rw[hsz]; exact h.sim.gLe,
   fun c v hc=>(h.sim.fzOK c v hc).keep (hk c fun hm=>by
    obtain⟨arr,e,z,g,_⟩:=h.sim.fzOK c v hc
    have:=(hrs c hm).2
    rw[g] at this; cases this),h.sim.fzSep⟩,h.dom,h.fr⟩
 ·obtain⟨L',h1⟩:=hs.loops c L hL
  exact⟨L',(hold c (gA.1 hL).1).trans h1⟩
 ·exact(hold c (gA.1 hd).1).trans (hs.defs c d hd)
 ·have ho':=h.sim.obj b o l hb hl
  by_cases hm:l.c∈rs
  ·have h1:=(hrs l.c hm).2
   cases o with
   | cells c es rw ty=>obtain⟨_,_,_,_,h2,_⟩:=ho'; rw[h1] at h2; cases h2
   | iter s p=>obtain⟨_,h2,_⟩:=ho'; rw[h1] at h2; cases h2
   | loop lo=>obtain⟨_,h2,_⟩:=ho'; rw[h1] at h2; cases h2
   | maps es=>obtain⟨_,_,h2,_⟩:=ho'; rw[h1] at h2; cases h2
   | smap ks=>obtain⟨_,_,h2,_⟩:=ho'; rw[h1] at h2; cases h2
   | miter=>obtain⟨_,_,_,_,h2⟩:=ho'; rw[h1] at h2; cases h2
   | vec n row es ty=>obtain⟨_,_,_,_,_,h2,_⟩:=ho'; rw[h1] at h2; cases h2
   | text s ty=>obtain⟨_,_,_,_,h2,_⟩:=ho'; rw[h1] at h2; cases h2
   | tail n row es tl ty=>obtain⟨_,_,_,_,_,h2,_⟩:=ho'; rw[h1] at h2; cases h2
   | arr pre k m f ty=>obtain⟨_,_,_,_,_,h2,_⟩:=ho'; rw[h1] at h2; cases h2
   | dead=>trivial
  ·exact ho'.keep Z'.le_refl (hk _ hm)
theorem A3h{U:List AV}{t:Array Value}(hs:Sim A Z B w.heap)(hv:VRL Z U t.toList):∀ {l:List ResultVar} {vs:List AV},X5 P B U l=some vs ->
  ∃ xs:List Value,(l.mapM (fun | .tmp d=>pure (t.getD d undef) | .cell a ty=>do loadVar ty (<- asAddr (t.getD a undef))):Sem (List Value)).run P w=.ok xs w/\VRL Z vs xs
 | [],vs,h=>by simp only[X5,sI] at h; subst h; exact⟨[],rfl,by simp[VRL]⟩
 | .tmp d::l,vs,h=>by
  simp only[X5,oM] at h
  obtain⟨vs',h1,rfl⟩:=h
  obtain⟨xs,p,q⟩:=A3h hs hv h1
  have hd:VR Z (U.getD d H7) (t.getD d undef):=by
   have hl:=hv.length
   by_cases hlt:d<U.length
   ·obtain⟨u,h1,h2⟩:=hv.get (gE hlt)
    have h3:t[d]?=some u:=by simpa using h1
    simp only[gD,gE hlt,Option.getD_some,Array.getD_eq_getD_getElem?,h3]
    exact h2
   ·have hle:U.length<=d:=Nat.le_of_not_lt hlt
    have h3:t[d]?=none:=by rw[Array.getElem?_eq_none_iff]; simp only[Array.length_toList] at hl; omega
    simp only[gD,gO hle,Option.getD_none,Array.getD_eq_getD_getElem?,h3]
    exact X9
  exact⟨t.getD d undef::xs,by simp only[List.mapM_cons,Sem.run_bind,Sem.run_pure,rK,p],by simp only[VRL]; exact⟨_,_,rfl,hd,q⟩⟩
 | .cell a ty::l,vs,h=>by
  simp only[X5] at h
  split at h
  ·rename_i v vs' hl h1
   cases h
   obtain⟨xs,p,q⟩:=A3h hs hv h1
   have ha:VR Z (U.getD a H7) (t.getD a undef):=by
    have hll:=hv.length
    by_cases hlt:a<U.length
    ·obtain⟨u,h1,h2⟩:=hv.get (gE hlt)
     have h3:t[a]?=some u:=by simpa using h1
     simp only[gD,gE hlt,Option.getD_some,Array.getD_eq_getD_getElem?,h3]
     exact h2
    ·have hle:U.length<=a:=Nat.le_of_not_lt hlt
     have h3:t[a]?=none:=by rw[Array.getElem?_eq_none_iff]; simp only[Array.length_toList] at hll; omega
     simp only[gD,gO hle,Option.getD_none,Array.getD_eq_getD_getElem?,h3]
     exact X9
   obtain⟨y,h2,h3⟩:=Y7 (P:=P) hs hl ha
   have h4:(do loadVar ty (<- asAddr (t.getD a undef)):Sem Value).run P w=.ok y w:=by
    unfold A2m at hl
    split at hl
    ·rename_i b o he
     rw[he] at ha
     simp only[VR] at ha
     obtain⟨lo,_,e⟩:=ha
     rw[e] at h2 ⊢
     exact h2
    ·simp at hl
   exact⟨y::xs,(by simp only[List.mapM_cons,Sem.run_bind] at h4 ⊢; rw[h4]; simp only[rK,p,Sem.run_pure]),by simp only[VRL]; exact⟨_,_,rfl,h3,q⟩⟩
  ·simp at h
theorem B4v{fn:Func}{U:List AV}{t:Array Value}{vs:List AV}(hs:Sim A Z B w.heap)(hv:VRL Z U t.toList)(h:X5 P B U fn.results.toList=some vs) :
  ∃ y,(results fn t).run P w=.ok y w/\VR Z (A1s vs) y:=by
 obtain⟨xs,p,q⟩:=A3h (P:=P) hs hv h
 refine⟨if h:xs.toArray.size=1 then xs.toArray[0] else .tuple xs.toArray,?_,?_⟩
 ·unfold results
  rw[Array.mapM_eq_mapM_toList]
  simp only[Sem.run_bind,Sem.run_map,Sem.run_pure]
  erw [p]; rfl
 ·have hl:=q.length
  unfold A1s
  split
  ·rename_i v
   simp only[VRL] at q
   obtain⟨y,ys,rfl,h1,rfl⟩:=q
   simpa using h1
  ·rename_i hne
   have hn:¬ xs.toArray.size=1:=fun e=>by
    have:vs.length=1:=by rw[<- hl]; simpa using e
    obtain⟨a,rfl⟩:=List.length_eq_one_iff.1 this
    exact hne a rfl
   rw[dif_neg hn]
   simp only[VR]
   exact⟨_,rfl,q⟩
theorem E4y{prims:Prims}(hp:PrimOK P A prims):∀ f args B v B' D,A7s P prims r f args B=some (v,B',D)->∃ fn c,P.funcs[f]?=some fn/\fn.body=some c:=by
 intro f args B v B' D h
 unfold A7s at h
 split at h
 ·rename_i g hg; exact(hp.fn f g hg).1
 ·split at h
  ·simp at h
  ·rename_i fn hfn
   split at h
   ·simp at h
   ·rename_i c hc; exact⟨fn,c,hfn,hc⟩
theorem C9w{prims:Prims}(F7:P.follows .mixedOrders=true)(hp:PrimOK P A prims)(hr:SRec P A r)(hfr:FrOK r):∀ f args B v B' D,A7s P prims r f args B=some (v,B',D) ->
  ∀ Z w (xs:Array Value),Sim A Z B w.heap->Dom Z B.length->GlobOK P Z->VRL Z args xs.toList ->
   Calls P f xs w fun e w'=>∃ v' Z',e=.returned v'/\VR Z' v v'/\After A Z Z' B B' D w w':=by
 intro f args B v B' D h Z w xs hs hd hg hx
 unfold A7s at h
 split at h
 ·rename_i g hgp
  exact((hp.fn f g hgp).2 _ _ _ _ _ h).2 Z w xs hs hd hg hx
 ·split at h
  ·simp at h
  ·rename_i fn hfn
   split at h
   ·simp at h
   ·rename_i c hc
    simp only[U5,A1h] at h
    split at h
    ·simp at h
    ·rename_i x U B1 D1 hnx h1
     split at h
     ·rename_i vs hvs
      simp only[sI] at h
      intro cs
      let b0:Frame:={ (default:Frame) with fn:=f,kind:=.normal }
      have henter:Frame.enter P f xs .normal=F b0 (xs++Array.replicate (fn.ntmps-xs.size) undef) [] [.code c]:=by
       simp[Frame.enter,F,hfn,hc,b0]
       rfl
      have hlen:xs.size=args.length:=by have:=hx.length; simpa using this
      have hv0:VRL Z (args++List.replicate (fn.ntmps-args.length) H7) (xs++Array.replicate (fn.ntmps-xs.size) undef).toList:=by
       have:=hx.append (VRL.replicate (Z:=Z) X9 (fn.ntmps-args.length))
       simpa[hlen] using this
      obtain⟨Z1,w1,t1,ds1,s1,s2,s3,s4⟩:=A7v F7 hr hfr _ c (hp.blk f fn c hfn hc) _ _ _ _ _ _ h1 Z w b0 _ [] [] cs hs hd hg hv0 w.heap.size (lR _) ⟨[],List.nodup_nil,rfl,fun _ h=>by cases h⟩
       (fun l hl=>by cases hl) rfl
      rw[<- henter] at s1
      have hret:∃ todo,Steps P (lone (Frame.enter P f xs .normal) cs w) (lone { F b0 t1 ds1 todo with mode:=.returning } cs w1):=by
       cases x with
       | normal=>exact⟨[],Steps.trans s1 (.one (E6j rfl))⟩
       | ret=>obtain⟨todo,s1⟩:=s1; exact⟨_,s1.trans (.one (go_ret rfl))⟩
       | exit id=>exact(hnx id rfl).elim
      obtain⟨todo,hsteps⟩:=hret
      obtain⟨rs,n1,n2,n3⟩:=s4
      subst n2
      obtain⟨w2,u1,u2,u3,u4,u5,u6⟩:=B1b (P:=P) (b:=b0) (t:=t1) (todo:=todo) (cs:=cs) rs w1 n1 fun r hr=>(n3 r hr).2
      have haft:=s2.unwind hs.gLe n3 u2 u3 u4 u5 u6
      obtain⟨y,hy,hyv⟩:=B4v (P:=P) (fn:=fn) haft.sim s3 hvs
      obtain⟨Z2,q1,q2⟩:=E6h hs hd haft hyv h
      exact⟨.returned y,w2,{ F b0 t1 [] todo with mode:=.returning },⟨y,Z2,rfl,q1,q2⟩,hsteps.trans u1,rfl,rfl,rfl,rfl,fn,hfn,hy⟩
     ·simp at h
    ·simp at h
theorem A5n{prims:Prims}(F7:P.follows .mixedOrders=true)(F9:A0o P)(hp:PrimOK P A prims):∀ n,SRec P A (run P prims n)
 | 0=>⟨fun bp c _ U B x U' B' D h=>by simp[run] at h,fun f args B v B' D h=>by simp[run] at h,fun f args B v B' D h=>by simp[run] at h,hp.ext,F9⟩
 | n+1=>by
  have ih:=A5n F7 F9 hp n
  have hfr:=B3y P hp.fr n
  exact⟨fun bp c hb=>A7v F7 ih hfr bp c hb,C9w F7 hp ih hfr,E4y hp,hp.ext,F9⟩
end
end Go.Ad
