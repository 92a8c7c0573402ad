/- A region whose order is open: whatever order its edges allow gives the same; all of it. -/
import Derived.Test.YtoboneiigikidaaGreatDoorAdSound7
namespace Go.Ad
section
variable {P:Program} {A:Amb} {r:Rec} {ops:Array Oper} {m:Nat} {U0:List AV} {B0:Heap}
theorem E5i{T:Trc P r ops m U0 B0}{Z0:Emb}{w0:World}{t0:Array Value}(hr:SRec P A r)(hfr:FrOK r)(hreg:RegOK ops m)(hm:m<=ops.size)(hs0:Sim A Z0 B0 w0.heap)(hd0:Dom Z0 B0.length)(hg0:GlobOK P Z0)(hv0:VRL Z0 U0 t0.toList)(b:Frame)(ds:List Deferred)(k:List Item)(cs:List Frame) :
  ∀ (fuel tt:Nat) (listed:Array Bool) (e:List Nat) (Z:Emb) (w:World) (t:Array Value),J A T Z0 w0 listed e Z w t->e.length+fuel=ops.size ->
   ∃ listed' e' Z' w' t',Steps P (lone (F b t ds (.inRegion ops (Region.linearise.go .any ops fuel tt listed [])::k)) cs w) (lone (F b t' ds (.inRegion ops (List.range' m (ops.size-m))::k)) cs w') /\
    J A T Z0 w0 listed' e' Z' w' t'/\∀ j,j<m->j∈e':=by
 intro fuel
 induction fuel with
 | zero =>
  intro tt listed e Z w t hj hlen
  by_cases hf:∀ j,j<m->j∈e
  ·have:=A7y hj.nd hj.lt hf
   have h0:ops.size-m=0:=by omega
   exact⟨listed,e,Z,w,t,by rw[h0]; exact .refl _ _,hj,hf⟩
  ·have:=A4r hj.nd hj.lt hf; omega
 | succ fuel ih =>
  intro tt listed e Z w t hj hlen
  by_cases hf:∀ j,j<m->j∈e
  ·have hel:=A7y hj.nd hj.lt hf
   have hlin:=D2h hreg (fuel+1) tt m listed hj.size (lR _) (by omega) fun x hx=>by
    rw[hj.mem x hx]; exact⟨fun h=>hj.lt x h,fun h=>hf x h⟩
   refine⟨listed,e,Z,w,t,?_,hj,hf⟩
   rw[hlin]
   have:ops.size-m=fuel+1:=by omega
   rw[this]; exact .refl _ _
  ·-- some operation is ready
   have hready:∀ i,i∈Region.ready .any ops listed->i<m/\i∉e/\∃ o,ops[i]?=some o/\∀ e',e'∈o.after->Region.binds .any e'=true->e'.on∈e:=fun i hi=>by
    rw[mem_ready] at hi
    obtain⟨h1,o,ho,h2⟩:=hi
    have hin:i<ops.size:=(gA.1 ho).1
    rw[R8 (by rw[hj.size]; exact hin)] at h1
    have hie:i∉e:=fun h=>by rw[(hj.mem i hin).2 h] at h1; cases h1
    have hdir:∀ e',e'∈o.after->Region.binds .any e'=true->e'.on∈e:=fun e' h3 h4=>(hj.mem e'.on (by have:=hreg.back i o ho e' h3 h4; omega)).1 (h2 e' h3 h4)
    refine⟨Nat.lt_of_not_le fun hle=>hf fun j hjm=>?_,hie,o,ho,hdir⟩
    exact O3 hj.cl hreg.back i o ho hdir j (hreg.tail i hle hin j (by omega))
   have hne:Region.ready .any ops listed≠[]:=fun hnil=>by
    classical
    have hex:∃ j,j<m/\j∉e:=by
     obtain⟨j0,h⟩:=Classical.not_forall.1 hf
     exact⟨j0,Classical.not_imp.1 h⟩
    have hmin:∃ j,(j<m/\j∉e)/\∀ x,x<j->¬ (x<m/\x∉e):=by
     obtain⟨j0,h0⟩:=hex
     induction j0 using Nat.strongRecOn with
     | _ j0 ihj =>
      by_cases hx:∃ x,x<j0/\(x<m/\x∉e)
      ·obtain⟨x,h1,h2⟩:=hx; exact ihj x h1 h2
      ·exact⟨j0,h0,fun x h1 h2=>hx ⟨x,h1,h2⟩⟩
    obtain⟨j,⟨hjm,hje⟩,hleast⟩:=hmin
    have hjn:j<ops.size:=by omega
    have hoj:ops[j]?=some ops[j]:=aE hjn
    have:j∈Region.ready .any ops listed:=by
     rw[mem_ready]
     refine⟨?_,_,hoj,fun e' h1 h2=>?_⟩
     ·rw[R8 (by rw[hj.size]; exact hjn)]
      cases h:listed.getD j false with
      | false=>rfl
      | true=>exact(hje ((hj.mem j hjn).1 h)).elim
     ·have hlt:=hreg.back j _ hoj e' h1 h2
      rw[hj.mem e'.on (by omega)]
      exact Classical.byContradiction fun hn=>hleast e'.on hlt ⟨by omega,hn⟩
    rw[hnil] at this; cases this
   have hpos:0<(Region.ready .any ops listed).length:=List.length_pos_iff.2 hne
   have hlt:tt%(Region.ready .any ops listed).length<(Region.ready .any ops listed).length:=Nat.mod_lt _ hpos
   obtain⟨i,hi⟩:∃ i,(Region.ready .any ops listed)[tt%(Region.ready .any ops listed).length]?=some i:=⟨_,gE hlt⟩
   have hgo:Region.linearise.go .any ops (fuel+1) tt listed []=i::Region.linearise.go .any ops fuel (tt / (Region.ready .any ops listed).length) (listed.setIfInBounds i true) []:=by
    simp only[Region.linearise.go]
    change (match (Region.ready .any ops listed)[tt%(Region.ready .any ops listed).length]? with
     | some i=>Region.linearise.go .any ops fuel (tt / (Region.ready .any ops listed).length) (listed.setIfInBounds i true) [i]
     | none=>[].reverse)=_
    rw[hi]
    simp only
    rw[linearise_go_acc]; simp
   obtain⟨him,hie,o,ho,hdir⟩:=hready i (List.mem_of_getElem? hi)
   obtain⟨Z1,w1,t1,s1,hj1⟩:=C2h hj hr hfr hreg.base hm hs0 hd0 hg0 hv0 him hie ho hdir ho rfl rfl rfl b ds (Region.linearise.go .any ops fuel (tt / (Region.ready .any ops listed).length) (listed.setIfInBounds i true) []) k cs
   obtain⟨l',e',Z',w',t',s2,h3,h4⟩:=ih (tt / (Region.ready .any ops listed).length) _ _ _ _ _ hj1 (by simp; omega)
   exact⟨l',e',Z',w',t',by rw[hgo]; exact s1.trans s2,h3,h4⟩
theorem B0t(F7:P.follows .mixedOrders=true)(hr:SRec P A r)(hfr:FrOK r){U U':List AV}{B B':Heap}{D:List Nat}(h:A5t P r ops m U B=some (U',B',D)){Z:Emb}{w:World}{t:Array Value}(hs:Sim A Z B w.heap)(hd:Dom Z B.length)(hg:GlobOK P Z)(hv:VRL Z U t.toList)(id:Nat)(b:Frame)(ds:List Deferred)(k:List Item)(cs:List Frame) :
  ∃ Z' w' t',Steps P (lone (F b t ds (.code (.region id ops true)::k)) cs w) (lone (F b t' ds k) cs w')/\VRL Z' U' t'.toList/\After A Z Z' B B' D w w':=by
 unfold A5t at h
 split at h
 ·rename_i hok
  have hreg:=D7m hok
  split at h
  ·rename_i U1 B1 h1
   obtain⟨M,hM,hMs,hreg',h1',h2'⟩:∃ M,M<=ops.size/\ops.toList.take M=ops.toList.take m/\RegOK ops M/\M6 P r ops (ops.toList.take M) U B=some (U1,B1,[]) /\
     A4k P r ops (ops.toList.drop M) U1 B1=some (U',B',D):=by
    by_cases hm:m<=ops.size
    ·exact⟨m,hm,rfl,hreg,h1,h⟩
    ·have e1:ops.toList.take m=ops.toList:=List.take_of_length_le (by simp; omega)
     have e2:ops.toList.take ops.size=ops.toList:=List.take_of_length_le (by simp)
     have e3:ops.toList.drop m=ops.toList.drop ops.size:=by rw[List.drop_eq_nil_of_le (by simp; omega),List.drop_eq_nil_of_le (by simp)]
     refine⟨ops.size,lR _,by rw[e1,e2],⟨hreg.back,fun i h1 h2=>by omega,fun i j o q t h1 h2=>hreg.dsts i j o q t (by omega) (by omega),
      fun i j o q t h1 h2=>hreg.sees i j o q t (by omega) (by omega)⟩,by rw[e2,<- e1]; exact h1,by rw[<- e3]; exact h⟩
   clear h h1 hreg hok hMs
   obtain⟨T,hT1,hT2⟩:=H0s hM h1'
   let w1:World:={ w with drawn:=w.drawn+1 }
   have hj0:J A T Z w1 (Array.replicate ops.size false) [] Z w1 t:=by
    have hfrm:=T.mono hfr hM M 0 (Nat.zero_le _) (lR _)
    rw[T.h0] at hfrm
    have hget:∀ b o l,Z b=some l->(T.H M)[b]?=some o->b<B.length/\B[b]?=some o:=fun b o l hl ho=>by
     have hlt:b<B.length:=Nat.lt_of_not_le fun hle=>by rw[hd b hle] at hl; cases hl
     exact⟨hlt,(hfrm.2 b hlt (by simp)).symm.trans ho⟩
    refine⟨by simp,fun j hj=>by simp[Array.getD,hj],List.nodup_nil,fun j h=>(by cases h),fun j o h=>(by cases h),(by have:=hv.length; simpa using this),fun x hx j h=>(by cases h),
     fun x a ha _=>?_,fun b l hl=>?_,Z.le_refl,⟨fun b o l hb hl=>?_,hs.lt,fun b b' l l' o o' hne hl hl' hb hb'=>?_,hs.amb,fun b l o hl hb=>?_,hs.gLe,hs.fzOK,fun c v b l o hc hl hb=>?_⟩,
     ⟨Z.le_refl,fun x lx p q=>(by rw[p] at q; cases q),lR _,fun _ _ _=>rfl,fun _ L h=>⟨L,h⟩,fun _ _ h=>h,rfl,rfl,rfl,Q6⟩⟩
    ·obtain⟨u,p,q⟩:=hv.get ha; exact⟨u,by simpa using p,q⟩
    ·left
     have hlt:b<B.length:=Nat.lt_of_not_le fun hle=>by rw[hd b hle] at hl; cases hl
     exact⟨hlt,fun o ho=>B6s hd (hs.obj b o l (hget b o l hl ho).2 hl)⟩
    ·exact hs.obj b o l (hget b o l hl hb).2 hl
    ·exact hs.own b b' l l' o o' hne hl hl' (hget b o l hl hb).2 (hget b' o' l' hl' hb').2
    ·exact hs.ownG b l o hl (hget b o l hl hb).2
    ·exact hs.fzSep c v b l o hc hl (hget b o l hl hb).2
   obtain⟨l',e',Z2,w2,t2,s1,hj2,hfull⟩:=E5i (T:=T) (w0:=w1) (t0:=t) hr hfr hreg' hM hs hd hg hv b ds k cs ops.size (w.tape w.drawn (.order b.fn id)) _ [] Z w1 t hj0 (by simp)
   have hlenM:=T.length hM M (lR _)
   have hv2:VRL Z2 U1 t2.toList:=by
    rw[<- hT1]
    refine .of_get (by simp only[Array.length_toList]; rw[hj2.tsz,hlenM]) fun x a ha=>?_
    have hx:x<U.length:=by rw[<- hlenM]; exact(gS.1 ha).1
    obtain⟨q1,q2⟩:=T.slots hreg'.base hM x hx M (lR _)
    by_cases hex:∃ j o,j<M/\ops[j]?=some o/\o.dst=some x
    ·obtain⟨j,o,h1,h2,h3⟩:=hex
     rw[q1 j o h1 h2 h3] at ha; cases ha
     obtain⟨u,p,q⟩:=hj2.wr x hx j (hfull j h1) o h2 h3
     exact⟨u,by simpa using p,q⟩
    ·rw[q2 fun j o h1 h2 h3=>hex ⟨j,o,h1,h2,h3⟩] at ha
     obtain⟨u,p,q⟩:=hj2.nw x a ha fun j hje o h2 h3=>hex ⟨j,o,hj2.lt j hje,h2,h3⟩
     exact⟨u,by simpa using p,q⟩
   have hA:After A Z Z2 B B1 [] w1 w2:=by
    have hfrm:=T.mono hfr hM M 0 (Nat.zero_le _) (lR _)
    rw[T.h0,hT2] at hfrm
    have h1:=hj2.stp
    have h2:=hj2.sim
    rw[hT2] at h1 h2
    refine⟨h1,h2,fun b hb=>?_,hfrm⟩
    cases h3:Z2 b with
    | none=>rfl
    | some l =>
     rcases hj2.dom b l h3 with⟨h4,_⟩ | ⟨j,h4,h5,h6,_⟩
     ·have:=hfrm.1; omega
     ·have:=(T.mono hfr hM M (j+1) (by have:=hj2.lt j h4; omega) (lR _)).1
      rw[hT2] at this; omega
   obtain⟨Z3,w3,t3,s2,q1,q2⟩:=A4l (b:=b) (ds:=ds) (k:=k) (cs:=cs) hr hfr (ops.toList.drop M) M U1 B1 U' B' D Z2 w2 t2 (fun j=>by rw[dP]; simp) h2' hA.sim hA.dom
    (hg.mono hA.step.ext) hv2
   have hlend:(ops.toList.drop M).length=ops.size-M:=by simp
   rw[hlend] at s2
   have hdraw:=A8a (P:=P) (b:=b) (t:=t) (ds:=ds) (k:=k) (cs:=cs) (w:=w) (i:=id) (ops:=ops)
   have hsched:Region.schedule (P.follows .mixedOrders) ops (w.tape w.drawn (.order b.fn id))=Region.linearise.go .any ops ops.size (w.tape w.drawn (.order b.fn id)) (Array.replicate ops.size false) []:=by
    simp[Region.schedule,F7,Region.linearise]
   rw[hsched] at hdraw
   refine⟨Z3,w3,t3,(Steps.one hdraw).trans (s1.trans (s2.trans (.one U9))),q1,?_⟩
   have hall:=hA.trans q2
   simp only[List.nil_append] at hall
   have hst:=hall.step
   exact⟨⟨hst.ext,hst.dom,hst.size,hst.keep,hst.loops,hst.defs,hst.tape,hst.os,hst.out,hst.fdom⟩,hall.sim,hall.dom,hall.fr⟩
  ·simp at h
 ·simp at h
end
end Go.Ad
