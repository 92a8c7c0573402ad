/- A region whose order is open: whatever order its edges allow gives the same; the run. -/
import Derived.Test.YtoboneiigikidaaGreatDoorAdSound6
namespace Go.Ad
section
variable {P:Program} {A:Amb} {r:Rec} {ops:Array Oper} {m:Nat} {U0:List AV} {B0:Heap}
theorem F5l{T:Trc P r ops m U0 B0}{Z0 Z:Emb}{w0 w:World}{listed:Array Bool}{e:List Nat}{t t0:Array Value}(hj:J A T Z0 w0 listed e Z w t)(hr:SRec P A r)(hfr:FrOK r)(hreg:RegBase ops m)(hm:m<=ops.size)(hs0:Sim A Z0 B0 w0.heap)(hd0:Dom Z0 B0.length)(hg0:GlobOK P Z0)(hv0:VRL Z0 U0 t0.toList){i:Nat}{o:Oper}(hi:i<m)(hie:i∉e)(ho:ops[i]?=some o)(hdir:∀ e',e'∈o.after->Region.binds .any e'=true->e'.on∈e)(ds:List Deferred)(x:Operand)(hx:x∈o.op.operands) :
  VR ⟨fun b=>if b<(T.H i).length then Z b else none,Z.fz⟩ (M0 (gN P) (T.R i) x) ((Act.mk t ds).eval x):=by
 have hHi:B0.length<=(T.H i).length:=by have:=(T.mono hfr hm i 0 (Nat.zero_le _) (by omega)).1; rwa [T.h0] at this
 cases x with
 | tmp d =>
  simp only[M0,Act.eval]
  have hlook:d∈looks ops o:=by
   unfold looks
   rw[List.mem_append]; left
   rw[List.mem_filterMap]
   exact⟨.tmp d,by simpa using hx,rfl⟩
  have hlen:=T.length hm i (by omega)
  by_cases hd:d<U0.length
  ·obtain⟨a,u,h1,h2,h3⟩:=C3d hj hreg hm hi hie ho hdir hlook hd
   have hb:=E4v hr hfr hm hs0 hd0 hg0 hv0 (by omega:i<=m) h1
   have h4:=Y0 (Z:=Z) (Z':=⟨fun b=>if b<(T.H i).length then Z b else none,Z.fz⟩) (n:=(T.H i).length) ⟨fun b hb=>by simp[hb],fun _ _ h=>h⟩ hb h3
   simp only[gD,h1,Option.getD_some,Array.getD_eq_getD_getElem?,h2]
   exact h4
  ·have hd':U0.length<=d:=Nat.le_of_not_lt hd
   have h1:(T.R i)[d]?=none:=by rw[List.getElem?_eq_none_iff,hlen]; exact hd'
   have h2:t[d]?=none:=by rw[Array.getElem?_eq_none_iff,hj.tsz]; exact hd'
   simp only[gD,h1,Option.getD_none,Array.getD_eq_getD_getElem?,h2]
   exact X9
 | const v=>exact B5s _ v
 | global g =>
  simp only[M0,Act.eval]
  split
  ·rename_i hlt
   obtain⟨l,h1,h2,h3⟩:=hg0 g hlt
   have hgB:g<B0.length:=Nat.lt_of_not_le fun h=>by rw[hd0 g h] at h1; cases h1
   simp only[VR]
   refine⟨l,?_,by simp[h2,h3]⟩
   rw[if_pos (by omega)]; exact hj.ext g l h1
  ·trivial
 | func f=>simp only[M0,Act.eval,VR,FR]; exact⟨_,_,_,rfl,rfl,by simp[VRL],by simp[VRL]⟩
theorem G5v{T:Trc P r ops m U0 B0}{Z0 Z:Emb}{w0 w:World}{listed:Array Bool}{e:List Nat}{t:Array Value}(hj:J A T Z0 w0 listed e Z w t)(hreg:RegBase ops m)(hm:m<=ops.size){i:Nat}{o:Oper}(hi:i<m)(hie:i∉e)(ho:ops[i]?=some o)(hdir:∀ e',e'∈o.after->Region.binds .any e'=true->e'.on∈e){b:Bool}(hw:A0w ops (T.R i) o=some b) :
  Region.wanted o (yielded ops t)=b:=by
 refine B1e (Z:=Z) hw fun j want d hgd hdst=>?_
 have hlook:d∈looks ops o:=by
  unfold looks
  rw[List.mem_append]; right
  rw[hgd]; simp[hdst]
 have hlen:=T.length hm i (by omega)
 by_cases hd:d<U0.length
 ·exact .inr (C3d hj hreg hm hi hie ho hdir hlook hd)
 ·have hd':U0.length<=d:=Nat.le_of_not_lt hd
  left
  exact⟨by rw[List.getElem?_eq_none_iff,hlen]; exact hd',by rw[Array.getElem?_eq_none_iff,hj.tsz]; exact hd'⟩
theorem F8z{T:Trc P r ops m U0 B0}{Z0 Z Z':Emb}{w0 w w':World}{listed:Array Bool}{e:List Nat}{t:Array Value}(hj:J A T Z0 w0 listed e Z w t)(hreg:RegBase ops m)(_hm:m<=ops.size){i:Nat}{o:Oper}(hi:i<m)(hie:i∉e)(ho:ops[i]?=some o)(hdir:∀ e',e'∈o.after->Region.binds .any e'=true->e'.on∈e){v:Value}(ds:List Deferred)(hle:Z.le Z')(hv:VR Z' (T.V i) v)(hsim:Sim A Z' (T.H m) w'.heap)(hstp:Step Z0 Z' B0.length (T.H m).length [] w0 w')(hdom:∀ b l,Z b=none->Z' b=some l->(T.H i).length<=b/\b<(T.H (i+1)).length/\∀ o,(T.H m)[b]?=some o->OBel (T.H (i+1)).length o) :
  J A T Z0 w0 (listed.setIfInBounds i true) (i::e) Z' w' ((Act.mk t ds).put o.dst v).tmps:=by
 have hin:i<ops.size:=(gA.1 ho).1
 have hput:∀ x,x<U0.length->o.dst=some x->((Act.mk t ds).put o.dst v).tmps[x]?=some v:=fun x hx hd=>by
  rw[hd]; simp[Act.put,hj.tsz,hx]
 have hkeep:∀ x,o.dst≠some x->((Act.mk t ds).put o.dst v).tmps[x]?=t[x]?:=fun x hd=>by
  cases h:o.dst with
  | none=>rfl
  | some d =>
   simp only[Act.put]
   exact Array.getElem?_setIfInBounds_ne fun e=>by subst e; exact hd h
 refine⟨by simpa using hj.size,fun j hjn=>?_,List.nodup_cons.2 ⟨hie,hj.nd⟩,fun j hje=>?_,fun j q hje hq e' h1 h2=>?_,?_,fun x hx j hje q hq hd=>?_,fun x a ha hno=>?_,fun b l hl=>?_,
  Emb.le_trans hj.ext hle,hsim,hstp⟩
 ·by_cases hji:j=i
  ·subst hji; simp[Array.getD,hj.size,hin]
  ·rw[getD_set_ne false (Ne.symm hji),hj.mem j hjn]; simp[hji]
 ·rcases List.mem_cons.1 hje with rfl | h
  ·exact hi
  ·exact hj.lt j h
 ·rcases List.mem_cons.1 hje with rfl | h
  ·rw[ho] at hq; cases hq; exact List.mem_cons_of_mem _ (hdir e' h1 h2)
  ·exact List.mem_cons_of_mem _ (hj.cl j q h hq e' h1 h2)
 ·cases h:o.dst<;>simp[Act.put,hj.tsz]
 ·rcases List.mem_cons.1 hje with rfl | h
  ·rw[ho] at hq; cases hq
   exact⟨v,hput x hx hd,hv⟩
  ·have hji:j≠i:=fun h'=>by subst h'; exact hie h
   obtain⟨u,p,q'⟩:=hj.wr x hx j h q hq hd
   exact⟨u,(hkeep x (hreg.dsts i j o q x hi (hj.lt j h) (Ne.symm hji) ho hq hd)).trans p,q'.mono hle⟩
 ·obtain⟨u,p,q⟩:=hj.nw x a ha fun j hje q hq=>hno j (List.mem_cons_of_mem _ hje) q hq
  exact⟨u,(hkeep x (hno i (by simp) o ho)).trans p,q.mono hle⟩
 ·cases h0:Z b with
  | some l0 =>
   rcases hj.dom b l0 h0 with h | ⟨j,h1,h2⟩
   ·exact .inl h
   ·exact .inr ⟨j,List.mem_cons_of_mem _ h1,h2⟩
  | none=>exact .inr ⟨i,by simp,hdom b l h0 hl⟩
theorem C2h{T:Trc P r ops m U0 B0}{Z0 Z:Emb}{w0 w:World}{listed:Array Bool}{e:List Nat}{t t0:Array Value}(hj:J A T Z0 w0 listed e Z w t)(hr:SRec P A r)(hfr:FrOK r)(hreg:RegBase ops m)(hm:m<=ops.size)(hs0:Sim A Z0 B0 w0.heap)(hd0:Dom Z0 B0.length)(hg0:GlobOK P Z0)(hv0:VRL Z0 U0 t0.toList){i:Nat}{o:Oper}(hi:i<m)(hie:i∉e)(ho:ops[i]?=some o)(hdir:∀ e',e'∈o.after->Region.binds .any e'=true->e'.on∈e){mops:Array Oper}{i':Nat}{o':Oper}(ho':mops[i']?=some o')(hop:o'.op=o.op)(hds:o'.dst=o.dst)(hwm:Region.wanted o' (yielded mops t)=Region.wanted o (yielded ops t))(b:Frame)(ds:List Deferred)(rest:List Nat)(k:List Item)(cs:List Frame) :
  ∃ Z' w' t',Steps P (lone (F b t ds (.inRegion mops (i'::rest)::k)) cs w) (lone (F b t' ds (.inRegion mops rest::k)) cs w')/\J A T Z0 w0 (listed.setIfInBounds i true) (i::e) Z' w' t':=by
 classical
 obtain⟨bb,hw,hR,ht,hf⟩:=T.stp i o hi ho
 have hwant:=G5v hj hreg hm hi hie ho hdir hw
 have hHi:B0.length<=(T.H i).length:=by have:=(T.mono hfr hm i 0 (Nat.zero_le _) (by omega)).1; rwa [T.h0] at this
 cases bb with
 | false =>
  obtain⟨e1,e2⟩:=hf rfl
  refine⟨Z,w,_,.one (A3q ho' (hwm.trans hwant)),?_⟩
  rw[hds]
  exact F8z hj hreg hm hi hie ho hdir ds Z.le_refl (by rw[e1]; exact X9) hj.sim hj.stp fun b l p q=>by rw[p] at q; cases q
 | true =>
  have h1:=ht rfl
  have hcong:=B7o (P:=P) (r:=r) (B:=T.H i) (op:=o.op) (f:=fun x=>if x∈o.op.operands then M0 (gN P) (T.R i) x else .bad) (g:=M0 (gN P) (T.R i)) (fun x hx=>by simp[hx])
  rw[<- hcong] at h1
  have h1:M5 P r (fun x=>if x∈o.op.operands then M0 (gN P) (T.R i) x else .bad) (T.H i) o'.op=some (T.V i,T.H (i+1),[]):=by rw[hop]; exact h1
  have hsi:=F3n hj hfr hm (by omega:i<=m)
  have hdi:Dom ⟨fun b=>if b<(T.H i).length then Z b else none,Z.fz⟩ (T.H i).length:=fun b hb=>by
   show(if b<(T.H i).length then Z b else none)=none
   rw[if_neg (by omega)]
  have hgi:GlobOK P ⟨fun b=>if b<(T.H i).length then Z b else none,Z.fz⟩:=fun g hg=>by
   obtain⟨l,p,q⟩:=hg0 g hg
   have hgB:g<B0.length:=Nat.lt_of_not_le fun h=>by rw[hd0 g h] at p; cases p
   exact⟨l,by show(if g<(T.H i).length then Z g else none)=some l; rw[if_pos (by omega)]; exact hj.ext g l p,q⟩
  obtain⟨Z1,v',w',s1,s2,s3⟩:=A2v (w:=w) (ds:=ds) hr hfr h1 hsi hdi hgi (fun x=>by
   by_cases hx:x∈o.op.operands
   ·simp only[hx,if_true]; exact F5l hj hr hfr hreg hm hs0 hd0 hg0 hv0 hi hie ho hdir ds x hx
   ·simp only[hx,if_false]; trivial) ho' (hwm.trans hwant) b rest k cs
  rw[hds] at s1
  have hnew:∀ b l,(if b<(T.H i).length then Z b else none)=none->Z1 b=some l->(T.H i).length<=b/\b<(T.H (i+1)).length/\w.heap.size<=l.c:=fun b l p q=>by
   obtain⟨q1,q2,q3⟩:=s3.step.dom b l p q
   refine⟨q1,q2,?_⟩
   rcases q3 with q3 | ⟨_,q3,_⟩
   ·exact q3
   ·cases q3
  have hfree:∀ b,(T.H i).length<=b->b<(T.H (i+1)).length->Z b=none:=fun b h2 h3=>by
   cases hb:Z b with
   | none=>rfl
   | some l =>
    rcases hj.dom b l hb with⟨h4,_⟩ | ⟨j,h4,h5,h6,_⟩
    ·omega
    ·have hji:j≠i:=fun h=>by subst h; exact hie h4
     rcases Nat.lt_or_gt_of_ne hji with h7 | h7
     ·have:=(T.mono hfr hm i (j+1) (by omega) (by omega)).1; omega
     ·have:=(T.mono hfr hm j (i+1) (by omega) (by have:=hj.lt j h4; omega)).1; omega
  have hold:∀ b l,Z b=some l->b<(T.H i).length->Z1 b=some l:=fun b l hb hlt=>s3.step.ext b l (by show(if b<(T.H i).length then Z b else none)=some l; rw[if_pos hlt]; exact hb)
  let Z2:Emb:=⟨fun b=>match Z b with | some l=>some l | none=>Z1 b,Z1.fz⟩
  have h2old:∀ b l,Z b=some l->Z2 b=some l:=fun b l hb=>by simp only[Z2,hb]
  have h2new:∀ b l,Z b=none->Z2 b=some l->Z1 b=some l:=fun b l hb hl=>by simp only[Z2,hb] at hl; exact hl
  have hle1b:∀ b l,Z1 b=some l->Z2 b=some l:=fun b l hl=>by
   cases hb:Z b with
   | none=>simp only[Z2,hb]; exact hl
   | some l0 =>
    by_cases hlt:b<(T.H i).length
    ·have:=hold b l0 hb hlt
     rw[hl] at this; cases this; exact h2old b l hb
    ·obtain⟨q1,q2,_⟩:=hnew b l (by rw[if_neg hlt]) hl
     rw[hfree b q1 q2] at hb; cases hb
  have hle1:Z1.le Z2:=⟨hle1b,fun _ _ h=>h⟩
  have hle0:Z.le Z2:=⟨h2old,fun c v hc=>s3.step.ext.fz c v hc⟩
  have hkeep:∀ c,c<w.heap.size->w'.heap[c]?=w.heap[c]?:=fun c hc=>s3.step.keep c hc (fun _ h=>by cases h)
  have hnb:∀ b l,Z b=none->Z2 b=some l->(T.H i).length<=b/\b<(T.H (i+1)).length/\w.heap.size<=l.c/\Z1 b=some l:=fun b l hb hl=>by
   have h3:=h2new b l hb hl
   obtain⟨q1,q2,q3⟩:=hnew b l (by split<;>first | exact hb | rfl) h3
   exact⟨q1,q2,q3,h3⟩
  have hfrm:=T.mono hfr hm m (i+1) (by omega) (lR _)
  have hgetm:∀ b o,b<(T.H (i+1)).length->(T.H m)[b]?=some o->(T.H (i+1))[b]?=some o:=fun b o hb ho=>(hfrm.2 b hb (by simp)).symm.trans ho
  have hsim:Sim A Z2 (T.H m) w'.heap:=by
   refine⟨fun b o l hb hl=>?_,fun b l hl=>?_,fun b b' l l' o o' hne hl hl' hb hb' h3 h4=>?_,s3.sim.amb,fun b l o hl hb h3=>?_,s3.sim.gLe,s3.sim.fzOK,fun c v b l o hc hl hb h3=>?_⟩
   ·cases h0:Z b with
    | some l0 =>
     rw[h2old b l0 h0] at hl; cases hl
     exact(hj.sim.obj b o l hb h0).keep hle0 (hkeep _ (hj.sim.lt b l h0))
    | none =>
     obtain⟨q1,q2,q3,q4⟩:=hnb b l h0 hl
     exact(s3.sim.obj b o l (hgetm b o q2 hb) q4).keep hle1 rfl
   ·cases h0:Z b with
    | some l0=>rw[h2old b l0 h0] at hl; cases hl; exact Nat.lt_of_lt_of_le (hj.sim.lt b l h0) s3.step.size
    | none=>exact s3.sim.lt b l (hnb b l h0 hl).2.2.2
   ·cases h0:Z b with
    | some l0 =>
     rw[h2old b l0 h0] at hl; cases hl
     cases h1:Z b' with
     | some l1=>rw[h2old b' l1 h1] at hl'; cases hl'; exact hj.sim.own b b' l l' o o' hne h0 h1 hb hb' h3 h4
     | none=>have:=(hnb b' l' h1 hl').2.2.1; have:=hj.sim.lt b l h0; omega
    | none =>
     obtain⟨q1,q2,q3,q4⟩:=hnb b l h0 hl
     cases h1:Z b' with
     | some l1=>rw[h2old b' l1 h1] at hl'; cases hl'; have:=hj.sim.lt b' l' h1; omega
     | none =>
      obtain⟨p1,p2,p3,p4⟩:=hnb b' l' h1 hl'
      exact s3.sim.own b b' l l' o o' hne q4 p4 (hgetm b o q2 hb) (hgetm b' o' p2 hb') h3 h4
   ·cases h0:Z b with
    | some l0=>rw[h2old b l0 h0] at hl; cases hl; exact hj.sim.ownG b l o h0 hb h3
    | none=>obtain⟨q1,q2,q3,q4⟩:=hnb b l h0 hl; exact s3.sim.ownG b l o q4 (hgetm b o q2 hb) h3
   ·cases h0:Z b with
    | some l0 =>
     rw[h2old b l0 h0] at hl; cases hl
     cases h5:Z.fz c with
     | some v0=>exact hj.sim.fzSep c v0 b l o h5 h0 hb h3
     | none =>
      have hlt:=hj.sim.lt b l h0
      rcases s3.step.fdom c v h5 hc with r | ⟨_,r,_⟩
      ·omega
      ·cases r
    | none=>obtain⟨q1,q2,q3,q4⟩:=hnb b l h0 hl; exact s3.sim.fzSep c v b l o hc q4 (hgetm b o q2 hb) h3
  have hHm:(T.H (i+1)).length<=(T.H m).length:=hfrm.1
  refine⟨Z2,w',_,s1,F8z hj hreg hm hi hie ho hdir ds hle0 (s2.mono hle1) hsim ?_ fun b l h3 h4=>?_⟩
  ·have hs:=hj.stp
   refine⟨Emb.le_trans hj.ext hle0,fun b l hb hl=>?_,Nat.le_trans hs.size s3.step.size,fun c hc _=>?_,fun c L hL=>?_,fun c d hd=>s3.step.defs c d (hs.defs c d hd),
    s3.step.tape.trans hs.tape,s3.step.os.trans hs.os,s3.step.out.trans hs.out,fun c v p q=>?_⟩
   ·cases h0:Z b with
    | some l0=>rw[h2old b l0 h0] at hl; cases hl; exact hs.dom b l hb h0
    | none =>
     obtain⟨q1,q2,q3,q4⟩:=hnb b l h0 hl
     exact⟨by omega,by omega,.inl (Nat.le_trans hs.size q3)⟩
   ·exact(hkeep c (Nat.lt_of_lt_of_le hc hs.size)).trans (hs.keep c hc (fun _ h=>by cases h))
   ·obtain⟨L1,h1⟩:=hs.loops c L hL; exact s3.step.loops c L1 h1
   ·cases h5:Z.fz c with
    | some v0=>exact hs.fdom c v0 p h5
    | none =>
     rcases s3.step.fdom c v h5 q with r | ⟨_,r,_⟩
     ·exact .inl (Nat.le_trans hs.size r)
     ·cases r
  ·obtain⟨q1,q2,q3,q4⟩:=hnb b l h3 h4
   refine⟨q1,q2,fun o ho=>?_⟩
   exact B6s s3.dom (s3.sim.obj b o l (hgetm b o q2 ho) q4)
end
end Go.Ad
