/- A region, in the order of the text or in any order that its edges allow, stands for the machine's steps. -/
import Derived.Test.YtoboneiigikidaaGreatDoorAdSound2
namespace Go.Ad
section
variable {P:Program} {A:Amb} {r:Rec} {Z:Emb} {B:Heap} {w:World} {ops:Array Oper}
theorem A6v{U:List AV}{t:Array Value}{o:Oper}{b:Bool}(h:A0w ops U o=some b)(hv:VRL Z U t.toList):Region.wanted o (yielded ops t)=b:=by
 refine B1e (Z:=Z) h fun j want d _ _=>?_
 have hl:=hv.length
 by_cases hd:d<U.length
 ·obtain⟨v,h1,h2⟩:=hv.get (gE hd)
  exact .inr ⟨_,v,gE hd,by simpa using h1,h2⟩
 ·have hd':U.length<=d:=Nat.le_of_not_lt hd
  left
  refine⟨gO hd',?_⟩
  rw[Array.getElem?_eq_none_iff]; simp only[Array.length_toList] at hl; omega
theorem X9:VR Z H7 undef:=by simp[H7,undef,VR,VRL]
theorem A3g(hr:SRec P A r)(hfr:FrOK r){b:Frame}{ds:List Deferred}{k:List Item}{cs:List Frame}:∀ (l:List Oper) (k0:Nat) (U:List AV) (B:Heap) (U':List AV) (B':Heap) (D:List Nat)
  (Z:Emb) (w:World) (t:Array Value),(∀ j,l[j]?=ops[k0+j]?)->M6 P r ops l U B=some (U',B',D)->Sim A Z B w.heap->Dom Z B.length->GlobOK P Z->VRL Z U t.toList ->
  ∃ Z' w' t',Steps P (lone (F b t ds (.inRegion ops (List.range' k0 l.length)::k)) cs w) (lone (F b t' ds (.inRegion ops []::k)) cs w')/\VRL Z' U' t'.toList/\After A Z Z' B B' D w w'
 | [],k0,U,B,U',B',D,Z,w,t,_,h,hs,hd,hg,hv=>by
  simp only[M6,sI,pI] at h
  obtain⟨rfl,rfl,rfl⟩:=h
  exact⟨Z,w,t,.refl _ _,hv,.refl hs hd⟩
 | o::l,k0,U,B,U',B',D,Z,w,t,hl,h,hs,hd,hg,hv=>by
  have ho:ops[k0]?=some o:=by simpa using(hl 0).symm
  have hl':∀ j,l[j]?=ops[k0+1+j]?:=fun j=>by have:=hl (j+1); simpa[Nat.add_assoc,Nat.add_comm 1 j] using this
  simp only[List.length_cons,List.range'_succ]
  simp only[M6] at h
  split at h
  ·rename_i hw
   split at h
   ·rename_i v B1 D1 h1
    simp only[O1] at h
    split at h
    ·rename_i U2 B2 D2 h2
     cases h
     obtain⟨Z1,v',w1,s1,s2,s3⟩:=A2v (w:=w) (ds:=ds) hr hfr h1 hs hd hg (A8r hv hg) ho (A6v hw hv) b (List.range' (k0+1) l.length) k cs
     obtain⟨Z2,w2,t2,q1,q2,q3⟩:=A3g hr hfr l (k0+1) _ _ _ _ _ Z1 w1 _ hl' h2 s3.sim s3.dom (hg.mono s3.step.ext) (X4 (ds:=ds) (hv.mono s3.step.ext) s2)
     exact⟨Z2,w2,t2,s1.trans q1,q2,s3.trans q3⟩
    ·simp at h
   ·simp at h
  ·rename_i hw
   obtain⟨Z2,w2,t2,q1,q2,q3⟩:=A3g hr hfr l (k0+1) _ _ _ _ _ Z w _ hl' h hs hd hg (X4 (ds:=ds) (d:=o.dst) hv X9)
   exact⟨Z2,w2,t2,(Steps.one (A3q ho (A6v hw hv))).trans q1,q2,q3⟩
  ·simp at h
theorem E8q{U:List AV}{l:List Value}(h:VRL Z U l)(d:Tmp):VRL Z (norm U d) l:=by
 unfold norm
 split
 ·rename_i b hb
  obtain⟨v,h1,h2⟩:=h.get hb
  simp only[VR] at h2; subst h2
  refine .of_get (by simp[h.length]) fun i x hi=>?_
  rw[List.getElem?_set] at hi
  split at hi
  ·rename_i e
   subst e
   split at hi
   ·cases hi; exact⟨_,h1,by simp only[VR]⟩
   ·cases hi
  ·exact h.get hi
 ·exact h
theorem B3x{U:List AV}{l:List Value}(h:VRL Z U l)(d:Option Tmp):VRL Z (A9r U d) l:=by
 cases d with
 | none=>exact h
 | some d=>exact E8q h d
theorem A4l(hr:SRec P A r)(hfr:FrOK r){b:Frame}{ds:List Deferred}{k:List Item}{cs:List Frame}:∀ (l:List Oper) (k0:Nat) (U:List AV) (B:Heap) (U':List AV) (B':Heap) (D:List Nat)
  (Z:Emb) (w:World) (t:Array Value),(∀ j,l[j]?=ops[k0+j]?)->A4k P r ops l U B=some (U',B',D)->Sim A Z B w.heap->Dom Z B.length->GlobOK P Z->VRL Z U t.toList ->
  ∃ Z' w' t',Steps P (lone (F b t ds (.inRegion ops (List.range' k0 l.length)::k)) cs w) (lone (F b t' ds (.inRegion ops []::k)) cs w')/\VRL Z' U' t'.toList/\After A Z Z' B B' D w w'
 | [],k0,U,B,U',B',D,Z,w,t,_,h,hs,hd,hg,hv=>by
  simp only[A4k,sI,pI] at h
  obtain⟨rfl,rfl,rfl⟩:=h
  exact⟨Z,w,t,.refl _ _,hv,.refl hs hd⟩
 | o::l,k0,U0,B,U',B',D,Z,w,t,hl,h,hs,hd,hg,hv0=>by
  have ho:ops[k0]?=some o:=by simpa using(hl 0).symm
  have hl':∀ j,l[j]?=ops[k0+1+j]?:=fun j=>by have:=hl (j+1); simpa[Nat.add_assoc,Nat.add_comm 1 j] using this
  simp only[List.length_cons,List.range'_succ]
  simp only[A4k] at h
  generalize hU:A9r (A9r U0 (B2i ops o)) (B5z o)=U at h
  have hv:VRL Z U t.toList:=by rw[<- hU]; exact B3x (B3x hv0 _) _
  split at h
  ·rename_i hw
   split at h
   ·rename_i v B1 D1 h1
    simp only[O1] at h
    split at h
    ·rename_i U2 B2 D2 h2
     cases h
     obtain⟨Z1,v',w1,s1,s2,s3⟩:=A2v (w:=w) (ds:=ds) hr hfr h1 hs hd hg (A8r hv hg) ho (A6v hw hv) b (List.range' (k0+1) l.length) k cs
     obtain⟨Z2,w2,t2,q1,q2,q3⟩:=A4l hr hfr l (k0+1) _ _ _ _ _ Z1 w1 _ hl' h2 s3.sim s3.dom (hg.mono s3.step.ext) (X4 (ds:=ds) (hv.mono s3.step.ext) s2)
     exact⟨Z2,w2,t2,s1.trans q1,q2,s3.trans q3⟩
    ·simp at h
   ·simp at h
  ·rename_i hw
   obtain⟨Z2,w2,t2,q1,q2,q3⟩:=A4l hr hfr l (k0+1) _ _ _ _ _ Z w _ hl' h hs hd hg (X4 (ds:=ds) (d:=o.dst) hv X9)
   exact⟨Z2,w2,t2,(Steps.one (A3q ho (A6v hw hv))).trans q1,q2,q3⟩
  ·simp at h
theorem A0q:∀ (l1 l2:List Oper) {U U':List AV} {B B':Heap} {D:List Nat},M6 P r ops (l1++l2) U B=some (U',B',D) ->
  ∃ U1 B1 D1 D2,M6 P r ops l1 U B=some (U1,B1,D1)/\M6 P r ops l2 U1 B1=some (U',B',D2)/\D=D1++D2
 | [],l2,U,U',B,B',D,h=>⟨U,B,[],D,rfl,h,rfl⟩
 | o::l1,l2,U,U',B,B',D,h=>by
  simp only[List.cons_append,M6,O1] at h ⊢
  split at h
  ·split at h
   ·rename_i v0 B0 D0 h1
    split at h
    ·rename_i U2 B2 D2 h2
     cases h
     obtain⟨U1,B1,D1,D2,p,q,rfl⟩:=A0q l1 l2 h2
     exact⟨U1,B1,D0++D1,D2,by simp only[p],q,by rw[List.append_assoc]⟩
    ·simp at h
   ·simp at h
  ·obtain⟨U1,B1,D1,D2,p,q,rfl⟩:=A0q l1 l2 h
   exact⟨U1,B1,D1,D2,p,q,rfl⟩
  ·simp at h
structure Trc (P:Program) (r:Rec) (ops:Array Oper) (m:Nat) (U0:List AV) (B0:Heap) where
 R:Nat->List AV
 H:Nat->Heap
 V:Nat->AV
 r0:R 0=U0
 h0:H 0=B0
 stp:∀ i o,i<m->ops[i]?=some o->∃ b,A0w ops (R i) o=some b/\R (i+1)=Q5 (R i) o.dst (V i) /\
  (b=true->M5 P r (M0 (gN P) (R i)) (H i) o.op=some (V i,H (i+1),[]))/\(b=false->V i=H7/\H (i+1)=H i)
theorem H0s{m:Nat}(hm:m<=ops.size){U0 Um:List AV}{B0 Bm:Heap}(h:M6 P r ops (ops.toList.take m) U0 B0=some (Um,Bm,[])) :
  ∃ T:Trc P r ops m U0 B0,T.R m=Um/\T.H m=Bm:=by
 have hpre:∀ i,i<=m->∃ Ui Bi,M6 P r ops (ops.toList.take i) U0 B0=some (Ui,Bi,[]):=fun i hi=>by
  have e:ops.toList.take m=ops.toList.take i++(ops.toList.take m).drop i:=by
   have:=(List.take_append_drop i (ops.toList.take m)).symm
   rwa [List.take_take,Nat.min_eq_left hi] at this
  rw[e] at h
  obtain⟨U1,B1,D1,D2,p,_,q⟩:=A0q _ _ h
  have:D1=[]:=by cases D1 with | nil=>rfl | cons a b=>simp at q
  exact⟨U1,B1,by rw[p,this]⟩
 have hstep:∀ i o Ui Bi Uj Bj,i<m->ops[i]?=some o->M6 P r ops (ops.toList.take i) U0 B0=some (Ui,Bi,[])->M6 P r ops (ops.toList.take (i+1)) U0 B0=some (Uj,Bj,[]) ->
   ∃ b v,A0w ops Ui o=some b/\Uj=Q5 Ui o.dst v/\(b=true->M5 P r (M0 (gN P) Ui) Bi o.op=some (v,Bj,[]))/\(b=false->v=H7/\Bj=Bi):=by
  intro i o Ui Bi Uj Bj hi ho h1 h2
  have hlt:i<ops.size:=by omega
  have e:ops.toList.take (i+1)=ops.toList.take i++[o]:=by
   rw[List.take_succ_eq_append_getElem (by simpa using hlt)]
   congr 1
   have:=(gA.1 ho).2
   simp[this]
  rw[e] at h2
  obtain⟨U1,B1,D1,D2,p,q,s⟩:=A0q _ _ h2
  rw[h1] at p
  simp only[sI,pI] at p
  obtain⟨rfl,rfl,rfl⟩:=p
  simp only[List.nil_append] at s
  subst s
  simp only[M6,O1] at q
  split at q
  ·rename_i hw
   split at q
   ·rename_i v B1 D1 h3
    simp only[sI,pI,List.append_nil] at q
    obtain⟨rfl,rfl,rfl⟩:=q
    exact⟨true,v,hw,rfl,fun _=>h3,fun e=>by cases e⟩
   ·simp at q
  ·rename_i hw
   simp only[sI,pI] at q
   obtain⟨rfl,rfl,_⟩:=q
   exact⟨false,H7,hw,rfl,(fun e=>by cases e),fun _=>⟨rfl,rfl⟩⟩
  ·simp at q
 classical
 let R:Nat->List AV:=fun i=>((M6 P r ops (ops.toList.take i) U0 B0).getD ([],[],[])).1
 let H:Nat->Heap:=fun i=>((M6 P r ops (ops.toList.take i) U0 B0).getD ([],[],[])).2.1
 have hRH:∀ i,i<=m->M6 P r ops (ops.toList.take i) U0 B0=some (R i,H i,[]):=fun i hi=>by
  obtain⟨Ui,Bi,h1⟩:=hpre i hi
  simp only[R,H,h1,Option.getD_some]
 have hV:∀ i,∃ v,∀ o,i<m->ops[i]?=some o->∃ b,A0w ops (R i) o=some b/\R (i+1)=Q5 (R i) o.dst v /\
   (b=true->M5 P r (M0 (gN P) (R i)) (H i) o.op=some (v,H (i+1),[]))/\(b=false->v=H7/\H (i+1)=H i):=fun i=>by
  by_cases hi:i<m
  ·cases ho:ops[i]? with
   | none=>exact⟨H7,fun o _ h=>by cases h⟩
   | some o =>
    obtain⟨b,v,h1,h2,h3,h4⟩:=hstep i o _ _ _ _ hi ho (hRH i (by omega)) (hRH (i+1) (by omega))
    exact⟨v,fun o' _ h=>by cases h; exact⟨b,h1,h2,h3,h4⟩⟩
  ·exact⟨H7,fun o h=>(hi h).elim⟩
 refine⟨⟨R,H,fun i=>Classical.choose (hV i),?_,?_,fun i o hi ho=>Classical.choose_spec (hV i) o hi ho⟩,?_,?_⟩
 ·have:=hRH 0 (by omega); simp only[List.take_zero,M6,sI,pI] at this; exact this.1.symm
 ·have:=hRH 0 (by omega); simp only[List.take_zero,M6,sI,pI] at this; exact this.2.1.symm
 ·have:=hRH m (lR _); rw[h] at this; simp only[sI,pI] at this; exact this.1.symm
 ·have:=hRH m (lR _); rw[h] at this; simp only[sI,pI] at this; exact this.2.1.symm
end
end Go.Ad
