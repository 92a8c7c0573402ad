/- A region, in the order of the text or in any order that its edges allow, stands for the machine's steps. -/
import Derived.Test.YtoboneiigikidaaGreatDoorAdSound2
namespace Go.Ad
section
variable {P:Program} {A:Amb} {r:Rec} {ι:Emb} {B:Heap} {w:World} {ops:Array Oper}
theorem A6p {ρ:List AV} {t:Array Value} {o:Oper} {b:Bool} (h:A0u ops ρ o=some b) (hv:VRL ι ρ t.toList):Region.wanted o (yielded ops t)=b:=by
 refine B0w (ι:=ι) h fun j want d _ _=>?_
 have hl:=hv.length
 by_cases hd:d < ρ.length
 ·obtain ⟨v,h1,h2⟩:=hv.get (List.getElem?_eq_getElem hd)
  exact .inr ⟨_,v,List.getElem?_eq_getElem hd,by simpa using h1,h2⟩
 ·have hd':ρ.length<=d:=Nat.le_of_not_lt hd
  left
  refine ⟨List.getElem?_eq_none hd',?_⟩
  rw [Array.getElem?_eq_none_iff]; simp only [Array.length_toList] at hl; omega
theorem Y0:VR ι G6 undef:=by simp [G6,undef,VR,VRL]
theorem A3i (hr:SRec P A r) (hfr:FrOK r) {b:Frame} {ds:List Deferred} {k:List Item} {cs:List Frame}:∀ (l:List Oper) (k0:Nat) (ρ:List AV) (B:Heap) (ρ':List AV) (B':Heap) (D:List Nat)
  (ι:Emb) (w:World) (t:Array Value),(∀ j,l[j]?=ops[k0+j]?)->M6 P r ops l ρ B=some (ρ',B',D)->Sim A ι B w.heap->Dom ι B.length->GlobOK P ι->VRL ι ρ t.toList ->
  ∃ ι' w' t',Steps P (lone (F b t ds (.inRegion ops (List.range' k0 l.length) :: k)) cs w) (lone (F b t' ds (.inRegion ops [] :: k)) cs w')/\VRL ι' ρ' t'.toList/\After A ι ι' B B' D w w'
 | [],k0,ρ,B,ρ',B',D,ι,w,t,_,h,hs,hd,hg,hv=>by
  simp only [M6,sI,pI] at h
  obtain ⟨rfl,rfl,rfl⟩:=h
  exact ⟨ι,w,t,.refl _ _,hv,.refl hs hd⟩
 | o :: l,k0,ρ,B,ρ',B',D,ι,w,t,hl,h,hs,hd,hg,hv=>by
  have ho:ops[k0]?=some o:=by simpa using (hl 0).symm
  have hl':∀ j,l[j]?=ops[k0+1+j]?:=fun j=>by have:=hl (j+1); simpa [Nat.add_assoc,Nat.add_comm 1 j] using this
  simp only [List.length_cons,List.range'_succ]
  simp only [M6] at h
  split at h
  ·rename_i hw
   split at h
   ·rename_i v B1 D1 h1
    simp only [O4] at h
    split at h
    ·rename_i ρ2 B2 D2 h2
     cases h
     obtain ⟨ι1,v',w1,s1,s2,s3⟩:=A2y (w:=w) (ds:=ds) hr hfr h1 hs hd hg (A8o hv hg) ho (A6p hw hv) b (List.range' (k0+1) l.length) k cs
     obtain ⟨ι2,w2,t2,q1,q2,q3⟩:=A3i hr hfr l (k0+1) _ _ _ _ _ ι1 w1 _ hl' h2 s3.sim s3.dom (hg.mono s3.step.ext) (X4 (ds:=ds) (hv.mono s3.step.ext) s2)
     exact ⟨ι2,w2,t2,s1.trans q1,q2,s3.trans q3⟩
    ·simp at h
   ·simp at h
  ·rename_i hw
   obtain ⟨ι2,w2,t2,q1,q2,q3⟩:=A3i hr hfr l (k0+1) _ _ _ _ _ ι w _ hl' h hs hd hg (X4 (ds:=ds) (d:=o.dst) hv Y0)
   exact ⟨ι2,w2,t2,(Steps.one (A3q ho (A6p hw hv))).trans q1,q2,q3⟩
  ·simp at h
theorem E6v {ρ:List AV} {l:List Value} (h:VRL ι ρ l) (d:Tmp):VRL ι (norm ρ d) l:=by
 unfold norm
 split
 ·rename_i b hb
  obtain ⟨v,h1,h2⟩:=h.get hb
  simp only [VR] at h2; subst h2
  refine .of_get (by simp [h.length]) fun i x hi=>?_
  rw [List.getElem?_set] at hi
  split at hi
  ·rename_i e
   subst e
   split at hi
   ·cases hi; exact ⟨_,h1,by simp only [VR]⟩
   ·cases hi
  ·exact h.get hi
 ·exact h
theorem B3j {ρ:List AV} {l:List Value} (h:VRL ι ρ l) (d:Option Tmp):VRL ι (A9m ρ d) l:=by
 cases d with
 | none=>exact h
 | some d=>exact E6v h d
theorem A4i (hr:SRec P A r) (hfr:FrOK r) {b:Frame} {ds:List Deferred} {k:List Item} {cs:List Frame}:∀ (l:List Oper) (k0:Nat) (ρ:List AV) (B:Heap) (ρ':List AV) (B':Heap) (D:List Nat)
  (ι:Emb) (w:World) (t:Array Value),(∀ j,l[j]?=ops[k0+j]?)->A4h P r ops l ρ B=some (ρ',B',D)->Sim A ι B w.heap->Dom ι B.length->GlobOK P ι->VRL ι ρ t.toList ->
  ∃ ι' w' t',Steps P (lone (F b t ds (.inRegion ops (List.range' k0 l.length) :: k)) cs w) (lone (F b t' ds (.inRegion ops [] :: k)) cs w')/\VRL ι' ρ' t'.toList/\After A ι ι' B B' D w w'
 | [],k0,ρ,B,ρ',B',D,ι,w,t,_,h,hs,hd,hg,hv=>by
  simp only [A4h,sI,pI] at h
  obtain ⟨rfl,rfl,rfl⟩:=h
  exact ⟨ι,w,t,.refl _ _,hv,.refl hs hd⟩
 | o :: l,k0,ρ0,B,ρ',B',D,ι,w,t,hl,h,hs,hd,hg,hv0=>by
  have ho:ops[k0]?=some o:=by simpa using (hl 0).symm
  have hl':∀ j,l[j]?=ops[k0+1+j]?:=fun j=>by have:=hl (j+1); simpa [Nat.add_assoc,Nat.add_comm 1 j] using this
  simp only [List.length_cons,List.range'_succ]
  simp only [A4h] at h
  generalize hρ:A9m (A9m ρ0 (B1w ops o)) (B5m o)=ρ at h
  have hv:VRL ι ρ t.toList:=by rw [<- hρ]; exact B3j (B3j hv0 _) _
  split at h
  ·rename_i hw
   split at h
   ·rename_i v B1 D1 h1
    simp only [O4] at h
    split at h
    ·rename_i ρ2 B2 D2 h2
     cases h
     obtain ⟨ι1,v',w1,s1,s2,s3⟩:=A2y (w:=w) (ds:=ds) hr hfr h1 hs hd hg (A8o hv hg) ho (A6p hw hv) b (List.range' (k0+1) l.length) k cs
     obtain ⟨ι2,w2,t2,q1,q2,q3⟩:=A4i hr hfr l (k0+1) _ _ _ _ _ ι1 w1 _ hl' h2 s3.sim s3.dom (hg.mono s3.step.ext) (X4 (ds:=ds) (hv.mono s3.step.ext) s2)
     exact ⟨ι2,w2,t2,s1.trans q1,q2,s3.trans q3⟩
    ·simp at h
   ·simp at h
  ·rename_i hw
   obtain ⟨ι2,w2,t2,q1,q2,q3⟩:=A4i hr hfr l (k0+1) _ _ _ _ _ ι w _ hl' h hs hd hg (X4 (ds:=ds) (d:=o.dst) hv Y0)
   exact ⟨ι2,w2,t2,(Steps.one (A3q ho (A6p hw hv))).trans q1,q2,q3⟩
  ·simp at h
theorem A0n:∀ (l1 l2:List Oper) {ρ ρ':List AV} {B B':Heap} {D:List Nat},M6 P r ops (l1++l2) ρ B=some (ρ',B',D) ->
  ∃ ρ1 B1 D1 D2,M6 P r ops l1 ρ B=some (ρ1,B1,D1)/\M6 P r ops l2 ρ1 B1=some (ρ',B',D2)/\D=D1++D2
 | [],l2,ρ,ρ',B,B',D,h=>⟨ρ,B,[],D,rfl,h,rfl⟩
 | o :: l1,l2,ρ,ρ',B,B',D,h=>by
  simp only [List.cons_append,M6,O4] at h ⊢
  split at h
  ·split at h
   ·rename_i v0 B0 D0 h1
    split at h
    ·rename_i ρ2 B2 D2 h2
     cases h
     obtain ⟨ρ1,B1,D1,D2,p,q,rfl⟩:=A0n l1 l2 h2
     exact ⟨ρ1,B1,D0++D1,D2,by simp only [p],q,by rw [List.append_assoc]⟩
    ·simp at h
   ·simp at h
  ·obtain ⟨ρ1,B1,D1,D2,p,q,rfl⟩:=A0n l1 l2 h
   exact ⟨ρ1,B1,D1,D2,p,q,rfl⟩
  ·simp at h
structure Trc (P:Program) (r:Rec) (ops:Array Oper) (m:Nat) (ρ0:List AV) (B0:Heap) where
 R:Nat->List AV
 H:Nat->Heap
 V:Nat->AV
 r0:R 0=ρ0
 h0:H 0=B0
 stp:∀ i o,i < m->ops[i]?=some o->∃ b,A0u ops (R i) o=some b/\R (i+1)=Q8 (R i) o.dst (V i) /\
  (b=true->M5 P r (L6 (gN P) (R i)) (H i) o.op=some (V i,H (i+1),[]))/\(b=false->V i=G6/\H (i+1)=H i)
theorem G6v {m:Nat} (hm:m<=ops.size) {ρ0 ρm:List AV} {B0 Bm:Heap} (h:M6 P r ops (ops.toList.take m) ρ0 B0=some (ρm,Bm,[])) :
  ∃ T:Trc P r ops m ρ0 B0,T.R m=ρm/\T.H m=Bm:=by
 have hpre:∀ i,i<=m->∃ ρi Bi,M6 P r ops (ops.toList.take i) ρ0 B0=some (ρi,Bi,[]):=fun i hi=>by
  have e:ops.toList.take m=ops.toList.take i++(ops.toList.take m).drop i:=by
   have:=(List.take_append_drop i (ops.toList.take m)).symm
   rwa [List.take_take,Nat.min_eq_left hi] at this
  rw [e] at h
  obtain ⟨ρ1,B1,D1,D2,p,_,q⟩:=A0n _ _ h
  have:D1=[]:=by cases D1 with | nil=>rfl | cons a b=>simp at q
  exact ⟨ρ1,B1,by rw [p,this]⟩
 have hstep:∀ i o ρi Bi ρj Bj,i < m->ops[i]?=some o->M6 P r ops (ops.toList.take i) ρ0 B0=some (ρi,Bi,[])->M6 P r ops (ops.toList.take (i+1)) ρ0 B0=some (ρj,Bj,[]) ->
   ∃ b v,A0u ops ρi o=some b/\ρj=Q8 ρi o.dst v/\(b=true->M5 P r (L6 (gN P) ρi) Bi o.op=some (v,Bj,[]))/\(b=false->v=G6/\Bj=Bi):=by
  intro i o ρi Bi ρj Bj hi ho h1 h2
  have hlt:i < ops.size:=by omega
  have e:ops.toList.take (i+1)=ops.toList.take i++[o]:=by
   rw [List.take_succ_eq_append_getElem (by simpa using hlt)]
   congr 1
   have:=(Array.getElem?_eq_some_iff.1 ho).2
   simp [this]
  rw [e] at h2
  obtain ⟨ρ1,B1,D1,D2,p,q,s⟩:=A0n _ _ h2
  rw [h1] at p
  simp only [sI,pI] at p
  obtain ⟨rfl,rfl,rfl⟩:=p
  simp only [List.nil_append] at s
  subst s
  simp only [M6,O4] at q
  split at q
  ·rename_i hw
   split at q
   ·rename_i v B1 D1 h3
    simp only [sI,pI,List.append_nil] at q
    obtain ⟨rfl,rfl,rfl⟩:=q
    exact ⟨true,v,hw,rfl,fun _=>h3,fun e=>by cases e⟩
   ·simp at q
  ·rename_i hw
   simp only [sI,pI] at q
   obtain ⟨rfl,rfl,_⟩:=q
   exact ⟨false,G6,hw,rfl,(fun e=>by cases e),fun _=>⟨rfl,rfl⟩⟩
  ·simp at q
 classical
 let R:Nat->List AV:=fun i=>((M6 P r ops (ops.toList.take i) ρ0 B0).getD ([],[],[])).1
 let H:Nat->Heap:=fun i=>((M6 P r ops (ops.toList.take i) ρ0 B0).getD ([],[],[])).2.1
 have hRH:∀ i,i<=m->M6 P r ops (ops.toList.take i) ρ0 B0=some (R i,H i,[]):=fun i hi=>by
  obtain ⟨ρi,Bi,h1⟩:=hpre i hi
  simp only [R,H,h1,Option.getD_some]
 have hV:∀ i,∃ v,∀ o,i < m->ops[i]?=some o->∃ b,A0u ops (R i) o=some b/\R (i+1)=Q8 (R i) o.dst v /\
   (b=true->M5 P r (L6 (gN P) (R i)) (H i) o.op=some (v,H (i+1),[]))/\(b=false->v=G6/\H (i+1)=H i):=fun i=>by
  by_cases hi:i < m
  ·cases ho:ops[i]? with
   | none=>exact ⟨G6,fun o _ h=>by cases h⟩
   | some o =>
    obtain ⟨b,v,h1,h2,h3,h4⟩:=hstep i o _ _ _ _ hi ho (hRH i (by omega)) (hRH (i+1) (by omega))
    exact ⟨v,fun o' _ h=>by cases h; exact ⟨b,h1,h2,h3,h4⟩⟩
  ·exact ⟨G6,fun o h=>(hi h).elim⟩
 refine ⟨⟨R,H,fun i=>Classical.choose (hV i),?_,?_,fun i o hi ho=>Classical.choose_spec (hV i) o hi ho⟩,?_,?_⟩
 ·have:=hRH 0 (by omega); simp only [List.take_zero,M6,sI,pI] at this; exact this.1.symm
 ·have:=hRH 0 (by omega); simp only [List.take_zero,M6,sI,pI] at this; exact this.2.1.symm
 ·have:=hRH m (Nat.le_refl _); rw [h] at this; simp only [sI,pI] at this; exact this.1.symm
 ·have:=hRH m (Nat.le_refl _); rw [h] at this; simp only [sI,pI] at this; exact this.2.1.symm
end
end Go.Ad
