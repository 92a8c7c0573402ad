/- A region in which some operations may come late: behind the first that writes. -/
import Derived.Test.YtoboneiigikidaaGreatDoorAdSound8
namespace Go.Ad
section
variable {P:Program} {A:Amb} {r:Rec} {ops:Array Oper} {m:Nat} {U0:List AV} {B0:Heap}
structure Reg2 (ops:Array Oper) (m:Nat):Prop where
 back:∀ i o,ops[i]?=some o->∀ e,e∈o.after->Region.binds .any e=true->e.on<i
 tail:∀ i,m<=i->i<ops.size->∀ j,m<=j->j<i->j∈(I4 ops.toList []).getD i []
 dsts:∀ (i j:Nat) (o q:Oper) (t:Tmp),i≠j->ops[i]?=some o->ops[j]?=some q->q.dst=some t->o.dst≠some t
 sees:∀ (i j:Nat) (o q:Oper) (t:Tmp),i≠j->ops[i]?=some o->ops[j]?=some q->q.dst=some t->t∈looks ops o ->
  (j<i/\j∈(I4 ops.toList []).getD i []) \/ (i<j/\i∈(I4 ops.toList []).getD j [])
 late:∀ (i j:Nat) (o q:Oper) (t:Tmp),i<m->i∉(I4 ops.toList []).getD m []->ops[i]?=some o->ops[j]?=some q->q.dst=some t->t∈looks ops o->j<i
theorem Reg2.base(h:Reg2 ops m):RegBase ops m:=⟨h.back,fun i j o q t _ _=>h.dsts i j o q t,fun i j o q t _ _=>h.sees i j o q t⟩
theorem D3c(h:B9u ops m=true):Reg2 ops m:=by
 unfold B9u at h
 simp only[List.all_eq_true,List.mem_range,Array.length_toList] at h
 have hget:∀ (i:Nat) (o:Oper),ops[i]?=some o->ops.toList[i]?=some o:=fun i o ho=>by simpa using ho
 have hpair:∀ (i j:Nat) (o q:Oper) (t:Tmp),ops[i]?=some o->ops[j]?=some q->q.dst=some t ->
   (i=j \/ (o.dst≠some t/\(t∉looks ops o \/ (j<i/\j∈(I4 ops.toList []).getD i []) \/ (i<j/\i∈(I4 ops.toList []).getD j [])))) /\
   (m<=i \/ i∈(I4 ops.toList []).getD m [] \/ t∉looks ops o \/ j<i):=fun i j o q t ho hq ht=>by
  have:=h i (gA.1 ho).1
  simp only[hget i o ho,bA,List.all_eq_true,List.mem_range] at this
  have h2:=this.2 j (gA.1 hq).1
  simp only[hget j q hq,ht,Bool.or_eq_true,bA,dQ,beq_iff_eq,bne_iff_ne,ne_eq,List.contains_iff_mem,Bool.not_eq_true'] at h2
  have hc:∀ (l:List Nat) (x:Nat),l.contains x=false↔x∉l:=fun l x=>by
   rw[<- Bool.not_eq_true,List.contains_iff_mem]
  simp only[hc] at h2
  refine⟨?_,?_⟩
  ·rcases h2.1 with h3 | ⟨h3,h4⟩
   ·exact .inl h3
   ·exact .inr ⟨h3,by
     rcases h4 with(h4 | h4) | h4
     ·exact .inl h4
     ·exact .inr (.inl h4)
     ·exact .inr (.inr h4)⟩
  ·rcases h2.2 with((h3 | h3) | h3) | h3
   ·exact .inl h3
   ·exact .inr (.inl h3)
   ·exact .inr (.inr (.inl h3))
   ·exact .inr (.inr (.inr h3))
 refine⟨fun i o ho e he hb=>?_,fun i hm hlt j hj hji=>?_,fun i j o q t hne ho hq ht=>?_,fun i j o q t hne ho hq ht hl=>?_,fun i j o q t him hib ho hq ht hl=>?_⟩
 ·have:=h i (gA.1 ho).1
  simp only[hget i o ho,bA,List.all_eq_true] at this
  have h1:=this.1.1 e (by simpa using he)
  simpa[hb] using h1
 ·have ho:ops[i]?=some ops[i]:=aE hlt
  have:=h i hlt
  simp only[hget i _ ho,bA,Bool.or_eq_true,List.all_eq_true,dQ,List.contains_iff_mem,List.mem_range'_1] at this
  rcases this.1.2 with h1 | h1
  ·omega
  ·exact h1 j ⟨hj,by omega⟩
 ·rcases(hpair i j o q t ho hq ht).1 with h1 | h1
  ·exact(hne h1).elim
  ·exact h1.1
 ·rcases(hpair i j o q t ho hq ht).1 with h1 | ⟨_,h1 | h1⟩
  ·exact(hne h1).elim
  ·exact(h1 hl).elim
  ·exact h1
 ·rcases(hpair i j o q t ho hq ht).2 with h1 | h1 | h1 | h1
  ·omega
  ·exact(hib h1).elim
  ·exact(h1 hl).elim
  ·exact h1
structure Trd (P:Program) (r:Rec) (ops:Array Oper) (U0:List AV) (B0:Heap) where
 R:Nat->List AV
 H:Nat->Heap
 V:Nat->AV
 E:Nat->List Nat
 r0:R 0=U0
 h0:H 0=B0
 stp:∀ i o,ops[i]?=some o->∃ b,A0w ops (R i) o=some b/\R (i+1)=Q5 (R i) o.dst (V i) /\
  (b=true->M5 P r (M0 (gN P) (R i)) (H i) o.op=some (V i,H (i+1),E i))/\(b=false->V i=H7/\H (i+1)=H i/\E i=[])
theorem G5s{Un:List AV}{Bn:Heap}{D1 D2:List Nat}(hm:m<=ops.size){Um:List AV}{Bm:Heap}(h1:M6 P r ops (ops.toList.take m) U0 B0=some (Um,Bm,D1))(h2:M6 P r ops (ops.toList.drop m) Um Bm=some (Un,Bn,D2)) :
  ∃ T:Trd P r ops U0 B0,T.R ops.size=Un/\T.H ops.size=Bn/\T.R m=Um/\T.H m=Bm/\(∀ i,i<m->∀ x,x∈T.E i->x∈D1)/\(List.range' m (ops.size-m)).flatMap T.E=D2:=by
 have join:∀ (l1 l2:List Oper) (U U1 U':List AV) (B B1 B':Heap) (D D':List Nat),M6 P r ops l1 U B=some (U1,B1,D)->M6 P r ops l2 U1 B1=some (U',B',D')->M6 P r ops (l1++l2) U B=some (U',B',D++D'):=by
  intro l1
  induction l1 with
  | nil=>intro l2 U U1 U' B B1 B' D D' h h'; simp only[M6,sI,pI] at h; obtain⟨rfl,rfl,rfl⟩:=h; simpa using h'
  | cons o l ih =>
   intro l2 U U1 U' B B1 B' D D' h h'
   simp only[List.cons_append,M6,O1] at h ⊢
   split at h
   ·split at h
    ·rename_i h3
     split at h
     ·rename_i h4; cases h; simp only[ih _ _ _ _ _ _ _ _ _ h4 h',List.append_assoc]
     ·cases h
    ·cases h
   ·exact ih _ _ _ _ _ _ _ _ _ h h'
   ·cases h
 have hall:=join _ _ _ _ _ _ _ _ _ _ h1 h2
 rw[List.take_append_drop] at hall
 have hpre:∀ i,i<=ops.size->∃ y,M6 P r ops (ops.toList.take i) U0 B0=some y:=fun i hi=>by
  have e:=(List.take_append_drop i ops.toList).symm
  rw[e] at hall
  obtain⟨U1,B1,Da,Db,p,_,_⟩:=A0q _ _ hall
  exact⟨_,p⟩
 classical
 let R:Nat->List AV:=fun i=>((M6 P r ops (ops.toList.take i) U0 B0).getD ([],[],[])).1
 let H:Nat->Heap:=fun i=>((M6 P r ops (ops.toList.take i) U0 B0).getD ([],[],[])).2.1
 let Dp:Nat->List Nat:=fun i=>((M6 P r ops (ops.toList.take i) U0 B0).getD ([],[],[])).2.2
 have hRH:∀ i,i<=ops.size->M6 P r ops (ops.toList.take i) U0 B0=some (R i,H i,Dp i):=fun i hi=>by
  obtain⟨y,h1⟩:=hpre i hi
  simp only[R,H,Dp,h1,Option.getD_some]
 have hV:∀ i,∃ v E,∀ o,ops[i]?=some o->∃ b,A0w ops (R i) o=some b/\R (i+1)=Q5 (R i) o.dst v /\
   (b=true->M5 P r (M0 (gN P) (R i)) (H i) o.op=some (v,H (i+1),E))/\(b=false->v=H7/\H (i+1)=H i/\E=[])/\Dp (i+1)=Dp i++E:=fun i=>by
  cases ho:ops[i]? with
  | none=>exact⟨H7,[],fun o h=>by cases h⟩
  | some o =>
   have hlt:i<ops.size:=(gA.1 ho).1
   have e:ops.toList.take (i+1)=ops.toList.take i++[o]:=by
    rw[List.take_succ_eq_append_getElem (by simpa using hlt)]
    congr 1
    have:=(gA.1 ho).2
    simp[this]
   have h2:=hRH (i+1) (by omega)
   rw[e] at h2
   obtain⟨U1,B1,Da,Db,p,q,s⟩:=A0q _ _ h2
   rw[hRH i (by omega)] at p
   simp only[sI,pI] at p
   obtain⟨rfl,rfl,rfl⟩:=p
   simp only[M6,O1] at q
   split at q
   ·rename_i hw
    split at q
    ·rename_i v B1 E1 h3
     simp only[sI,pI,List.append_nil] at q
     obtain⟨q1,q2,q3⟩:=q
     exact⟨v,E1,fun o' h=>by cases h; exact⟨true,hw,q1.symm,fun _=>by rw[h3,q2],(fun e=>by cases e),by rw[s,q3]⟩⟩
    ·cases q
   ·rename_i hw
    simp only[sI,pI] at q
    obtain⟨q1,q2,q3⟩:=q
    exact⟨H7,[],fun o' h=>by cases h; exact⟨false,hw,q1.symm,(fun e=>by cases e),fun _=>⟨rfl,q2.symm,rfl⟩,by rw[s,<- q3]⟩⟩
   ·cases q
 let V:Nat->AV:=fun i=>Classical.choose (hV i)
 let E:Nat->List Nat:=fun i=>Classical.choose (Classical.choose_spec (hV i))
 have hVE:∀ i o,ops[i]?=some o->∃ b,A0w ops (R i) o=some b/\R (i+1)=Q5 (R i) o.dst (V i) /\
   (b=true->M5 P r (M0 (gN P) (R i)) (H i) o.op=some (V i,H (i+1),E i))/\(b=false->V i=H7/\H (i+1)=H i/\E i=[])/\Dp (i+1)=Dp i++E i :=
  fun i=>Classical.choose_spec (Classical.choose_spec (hV i))
 have hD0:Dp 0=[]:=by have:=hRH 0 (by omega); simp only[List.take_zero,M6,sI,pI] at this; exact this.2.2.symm
 have hDs:∀ i,i<ops.size->Dp (i+1)=Dp i++E i:=fun i hi=>by
  obtain⟨_,_,_,_,_,h⟩:=hVE i _ (aE hi); exact h
 have hsz:=hRH ops.size (lR _)
 have htk:ops.toList.take ops.size=ops.toList:=List.take_of_length_le (by simp)
 rw[htk,hall] at hsz
 simp only[sI,pI] at hsz
 have hmm:=hRH m hm
 rw[h1] at hmm
 simp only[sI,pI] at hmm
 have hsum:∀ k,m+k<=ops.size->Dp (m+k)=Dp m++(List.range' m k).flatMap E:=fun k=>by
  induction k with
  | zero=>intro _; simp
  | succ k ih=>intro hk; rw[show m+(k+1)=m+k+1 by omega,hDs _ (by omega),ih (by omega),List.range'_concat]; simp
 have hin:∀ i k,i<k->k<=ops.size->∀ x,x∈E i->x∈Dp k:=fun i k=>by
  induction k with
  | zero=>intro h; omega
  | succ k ih =>
   intro h hk x hx
   rw[hDs k (by omega)]
   by_cases e:i=k
   ·subst e; exact List.mem_append_right _ hx
   ·exact List.mem_append_left _ (ih (by omega) (by omega) x hx)
 refine⟨⟨R,H,V,E,?_,?_,fun i o ho=>?_⟩,hsz.1.symm,hsz.2.1.symm,hmm.1.symm,hmm.2.1.symm,fun i hi x hx=>?_,?_⟩
 ·have:=hRH 0 (by omega); simp only[List.take_zero,M6,sI,pI] at this; exact this.1.symm
 ·have:=hRH 0 (by omega); simp only[List.take_zero,M6,sI,pI] at this; exact this.2.1.symm
 ·obtain⟨b,q1,q2,q3,q4,_⟩:=hVE i o ho; exact⟨b,q1,q2,q3,q4⟩
 ·rw[hmm.2.2]; exact hin i m hi hm x hx
 ·have h3:=hsum (ops.size-m) (by omega)
  rw[show m+(ops.size-m)=ops.size by omega,<- hsz.2.2,<- hmm.2.2] at h3
  exact(List.append_cancel_left h3).symm
def Trd.fst(T:Trd P r ops U0 B0)(h:∀ i,i<m->T.E i=[]):Trc P r ops m U0 B0 :=
 ⟨T.R,T.H,T.V,T.r0,T.h0,fun i o hi ho=>by
  obtain⟨b,q1,q2,q3,q4⟩:=T.stp i o ho
  exact⟨b,q1,q2,fun e=>by rw[<- h i hi]; exact q3 e,fun e=>⟨(q4 e).1,(q4 e).2.1⟩⟩⟩
theorem Trd.length(T:Trd P r ops U0 B0):∀ i,i<=ops.size->(T.R i).length=U0.length
 | 0,_=>by rw[T.r0]
 | i+1,hi=>by
  obtain⟨b,_,h1,_,_⟩:=T.stp i _ (aE (by omega))
  rw[h1]
  have:=T.length i (by omega)
  cases(ops[i]'(by omega)).dst<;>simp[Q5,this]
theorem Trd.slots(T:Trd P r ops U0 B0)(hreg:Reg2 ops m)(x:Nat)(hx:x<U0.length):∀ i,i<=ops.size ->
  (∀ j o,j<i->ops[j]?=some o->o.dst=some x->(T.R i)[x]?=some (T.V j))/\((∀ j o,j<i->ops[j]?=some o->o.dst≠some x)->(T.R i)[x]?=U0[x]?)
 | 0,_=>⟨fun j o h=>by omega,fun _=>by rw[T.r0]⟩
 | i+1,hi=>by
  obtain⟨h1,h2⟩:=T.slots hreg x hx i (by omega)
  have hoi:ops[i]?=some (ops[i]'(by omega)):=aE (by omega)
  obtain⟨b,_,hR,_,_⟩:=T.stp i _ hoi
  have hlen:=T.length i (by omega)
  have hset:(ops[i]'(by omega)).dst=some x->(T.R (i+1))[x]?=some (T.V i):=fun hd=>by
   rw[hR,hd]; simp[Q5,hlen,hx]
  have hne:(ops[i]'(by omega)).dst≠some x->(T.R (i+1))[x]?=(T.R i)[x]?:=fun hd=>by
   rw[hR]
   cases h:(ops[i]'(by omega)).dst with
   | none=>rfl
   | some d =>
    simp only[Q5]
    rw[List.getElem?_set,if_neg]
    intro e; subst e; exact hd h
  refine⟨fun j o hj ho hd=>?_,fun hno=>?_⟩
  ·by_cases e:j=i
   ·subst e; rw[hoi] at ho; cases ho; exact hset hd
   ·rw[hne (hreg.dsts i j _ o x (Ne.symm e) hoi ho hd)]
    exact h1 j o (by omega) ho hd
  ·rw[hne (hno i _ (by omega) hoi)]
   exact h2 fun j o hj ho=>hno j o (by omega) ho
theorem Trd.keep(T:Trd P r ops U0 B0)(hfr:FrOK r)(b:Nat)(i:Nat)(hb:b<(T.H i).length):∀ k,i+k<=ops.size->(∀ x,i<=x->x<i+k->b∉T.E x) ->
  (T.H (i+k))[b]?=(T.H i)[b]?/\(T.H i).length<=(T.H (i+k)).length
 | 0,_,_=>⟨rfl,lR _⟩
 | k+1,hk,hE=>by
  obtain⟨h1,h2⟩:=T.keep hfr b i hb k (by omega) fun x p q=>hE x p (by omega)
  obtain⟨bb,_,_,h3,h4⟩:=T.stp (i+k) _ (aE (by omega))
  rw[show i+(k+1)=i+k+1 by omega]
  cases bb with
  | true =>
   have hf:=B1o hfr (h3 rfl)
   exact⟨(hf.2 b (by omega) (hE (i+k) (by omega) (by omega))).trans h1,Nat.le_trans h2 hf.1⟩
  | false =>
   obtain⟨_,e,_⟩:=h4 rfl
   rw[e]; exact⟨h1,h2⟩
theorem A3t{B B2 B':Heap}{o:Option AV}{v:AV}{D:List Nat}(h:only B o=some (v,B',D)):only B2 o=some (v,B2,[]):=by
 cases o with
 | none=>cases h
 | some a=>simp only[only,oS,sI,pI] at h ⊢; exact⟨h.1,trivial⟩
theorem C6m{f:Operand->AV}{B B2 B':Heap}{op:Op}{v:AV}{D:List Nat}(h:A8c op=true)(h1:M5 P r f B op=some (v,B',D)):M5 P r f B2 op=some (v,B2,[]):=by
  cases op<;>simp only[A8c,reduceCtorEq] at h<;>simp only[M5,aop,A1l,Y1,L8,afl,afs,R4] at h1 ⊢ <;>
    (generalize A0c P f _=c at h1 ⊢
     generalize V6 P f _=d at h1 ⊢
     generalize afz P f _=z at h1 ⊢
     cases c with
     | none =>
       cases d with
       | none =>
         cases z with
         | none=>exact A3t h1
         | some d =>
           obtain⟨d,u⟩:=d
           cases d with
           | false=>simp at h1
           | true=>simp only[Option.map_none,if_true,sI,pI] at h1 ⊢; exact⟨h1.1,trivial⟩
       | some d =>
         obtain⟨d,u⟩:=d
         cases d with
         | false=>simp at h1
         | true=>simp only[oS,if_true,sI,pI] at h1 ⊢; exact⟨h1.1,trivial⟩
     | some c =>
       obtain⟨c,u⟩:=c
       cases c with
       | false=>simp at h1
       | true=>simp only[if_true,sI,pI] at h1 ⊢; exact⟨h1.1,trivial⟩)
theorem E8e(T:Trd P r ops U0 B0)(hfr:FrOK r)(hreg:Reg2 ops m)(hm:m<=ops.size)(hE:∀ i,i<m->T.E i=[]){D:List Nat}{p:Nat}{o:Oper}(hp:p<m)(hpl:p∉(I4 ops.toList []).getD m [])(ho:ops[p]?=some o)(hl:B3r (gN P) (T.R m) D o.op=true){kk:Nat}(hk:m<=kk)(hk2:kk<=ops.size)(hD:∀ x,m<=x->x<kk->∀ b,b∈T.E x->b∈D)(h:M5 P r (M0 (gN P) (T.R p)) (T.H p) o.op=some (T.V p,T.H (p+1),T.E p)) :
  M5 P r (M0 (gN P) (T.R p)) (T.H kk) o.op=some (T.V p,T.H kk,[]):=by
 by_cases hhf:A8c o.op=true
 ·exact C6m hhf h
 ·have hval:∀ a,a∈o.op.operands->M0 (gN P) (T.R p) a=M0 (gN P) (T.R m) a:=fun a ha=>by
   cases a with
   | tmp d =>
    simp only[M0]
    have hlook:d∈looks ops o:=by
     unfold looks
     rw[List.mem_append]; left
     rw[List.mem_filterMap]
     exact⟨.tmp d,by simpa using ha,rfl⟩
    by_cases hd:d<U0.length
    ·obtain⟨a1,a2⟩:=T.slots hreg d hd p (by omega)
     obtain⟨b1,b2⟩:=T.slots hreg d hd m hm
     have:(T.R p)[d]?=(T.R m)[d]?:=by
      by_cases hw:∃ (j:Nat) (q:Oper),ops[j]?=some q/\q.dst=some d
      ·obtain⟨j,q,h1,h2⟩:=hw
       have hjp:=hreg.late p j o q d hp hpl ho h1 h2 hlook
       rw[a1 j q hjp h1 h2,b1 j q (by omega) h1 h2]
      ·rw[a2 fun j q _ h1 h2=>hw ⟨j,q,h1,h2⟩,b2 fun j q _ h1 h2=>hw ⟨j,q,h1,h2⟩]
     simp only[gD,this]
    ·have hle:U0.length<=d:=Nat.le_of_not_lt hd
     have e1:(T.R p)[d]?=none:=gO (by rw[T.length p (by omega)]; exact hle)
     have e2:(T.R m)[d]?=none:=gO (by rw[T.length m hm]; exact hle)
     simp only[gD,e1,e2]
   | _=>rfl
  unfold B3r at hl
  split at hl
  ·rename_i t a hop
   have ha:=hval a (by rw[hop]; simp[Op.operands])
   split at hl
   ·rename_i b off hptr
    rw[hop] at h ⊢
    have hb:b<(T.H p).length:=by
     rcases Nat.lt_or_ge b (T.H p).length with h' | h'
     ·exact h'
     ·exfalso
      have hna:Y5 P (T.H p) t (.ptr (some (b,off)))=none:=by
       simp only[Y5,gO h']
       cases P.underlying t<;>rfl
      simp only[M5,aop,A0c,A1l,Y1,L8,afz,afl,afs,R4,ha,hptr,hna,only,Option.map_none,oM,pI] at h
      obtain⟨v,h1,_⟩:=h
      simp only[A2m] at h1
      split at h1
      ·cases h1
      ·split at h1
       ·simp only[Option.bind_eq_some_iff,oM] at h1
        obtain⟨n,_,l,h3,_⟩:=h1
        simp only[ldN,gO h'] at h3
        cases h3
       ·simp only[ld1,gO h'] at h1
        cases h1
    have hnb:∀ x,p<=x->x<p+(kk-p)->b∉T.E x:=fun x p1 p2 hx=>by
     by_cases hxm:x<m
     ·rw[hE x hxm] at hx; cases hx
     ·have:=hD x (by omega) (by omega) b hx
      have hc:D.contains b=true:=List.contains_iff_mem.2 this
      rw[hc] at hl; cases hl
    have hkp:=(T.keep hfr b p hb (kk-p) (by omega) hnb).1
    rw[show p+(kk-p)=kk by omega] at hkp
    have hld:A2m P (T.H kk) t (.ptr (some (b,off)))=A2m P (T.H p) t (.ptr (some (b,off))):=by
     simp only[A2m,ldN,ld1,hkp]
    have hla:Y5 P (T.H kk) t (.ptr (some (b,off)))=Y5 P (T.H p) t (.ptr (some (b,off))):=by
     simp only[Y5,hkp]
    simp only[M5,aop,A0c,A1l,Y1,L8,afz,afl,afs,R4,ha,hptr,hla,hld] at h ⊢
    cases hq:Y5 P (T.H p) t (.ptr (some (b,off))) with
    | none =>
     simp only[hq,Option.map_none] at h ⊢
     exact A3t h
    | some q =>
     obtain⟨c,u⟩:=q
     simp only[hq,oS] at h ⊢
     cases c with
     | false=>cases h
     | true =>
      simp only[if_true,sI,pI] at h ⊢
      exact⟨h.1,trivial⟩
   ·rename_i cs j hptr
    rw[hop] at h ⊢
    have hna:∀ B,Y5 P B t (.fptr cs j)=none:=fun B=>by
     unfold Y5
     cases P.underlying t<;>rfl
    have hnl:∀ B,A2m P B t (.fptr cs j)=none:=fun B=>by unfold A2m; rfl
    simp only[M5,aop,A0c,A1l,Y1,L8,afz,afl,afs,R4,ha,hptr,hna,hnl,only,Option.map_none] at h ⊢
    cases hq:C4m P t cs j with
    | none=>simp only[hq,Option.map_none] at h; cases h
    | some q =>
     simp only[hq,oS,if_true,sI,pI] at h ⊢
     exact⟨h.1,trivial⟩
   ·cases hl
  ·rename_i t x i hop
   have hx:=hval x (by rw[hop]; simp[Op.operands])
   split at hl
   ·rename_i a n c hsl
    have hnv:∀ B,A1l P (M0 (gN P) (T.R p)) B o.op=none:=fun B=>by
     rw[hop]
     simp only[A1l,Y1,L8,afz,afl,afs,hx]
     rw[hsl]
     have:A1j P B t (.slice a n c) (M0 (gN P) (T.R p) i)=none:=by
      unfold A1j
      cases P.underlying t with
      | none=>rfl
      | some d=>cases d<;>rfl
     rw[this]; rfl
    have hnv1:=hnv (T.H p)
    have hnv2:=hnv (T.H kk)
    rw[hop] at h hnv1 hnv2 ⊢
    simp only[M5,aop,A0c,hnv1,hnv2,R4] at h ⊢
    exact A3t h
   ·rename_i n row es hsl
    have hni:∀ B,A1j P B t (.flist n row es) (M0 (gN P) (T.R p) i)=none:=fun B=>by
     unfold A1j
     cases P.underlying t with
     | none=>rfl
     | some d=>cases d<;>rfl
    have hav:∀ B,A1l P (M0 (gN P) (T.R p)) B o.op=(afz P (M0 (gN P) (T.R p)) o.op).map fun q=>(q.1,q.2,B,[]):=fun B=>by
     rw[hop]
     simp only[A1l,Y1,L8,afl,afs,hx,hsl,hni,Option.map_none]
     cases afz P (M0 (gN P) (T.R p)) (.indexAddr t x i)<;>rfl
    have hav1:=hav (T.H p)
    have hav2:=hav (T.H kk)
    cases hq:afz P (M0 (gN P) (T.R p)) o.op with
    | none =>
     rw[hq,Option.map_none] at hav1 hav2
     rw[hop] at h hav1 hav2 ⊢
     simp only[M5,aop,A0c,hav1,hav2,R4] at h ⊢
     exact A3t h
    | some q =>
     obtain⟨c,u⟩:=q
     rw[hq,oS] at hav1 hav2
     rw[hop] at h hav1 hav2 ⊢
     simp only[M5,aop,A0c,hav1,hav2] at h ⊢
     cases c with
     | false=>cases h
     | true =>
      simp only[if_true,sI,pI] at h ⊢
      exact⟨h.1,trivial⟩
   ·cases hl
  ·rename_i t x lo hi mx hop
   have hx:=hval x (by rw[hop]; simp[Op.operands])
   split at hl
   ·rename_i b off n c hsl
    rw[hsl] at hx
    rw[hop] at h ⊢
    have hne:∀ B,M5 P r (M0 (gN P) (T.R p)) B (.slice t x lo hi mx)=only B (A4u P B t (.slice (some (b,off)) n c) (lo.map (M0 (gN P) (T.R p))) (hi.map (M0 (gN P) (T.R p))) (mx.map (M0 (gN P) (T.R p)))):=fun B=>by
     have e1:∀ l h',C1l P B t (.slice (some (b,off)) n c) l h'=none:=fun l h'=>by
      unfold C1l
      cases P.underlying t with
      | none=>rfl
      | some d=>cases d<;>rfl
     have e2:∀ h',D9k P B t (.slice (some (b,off)) n c) h'=none:=fun h'=>by
      unfold D9k
      cases P.underlying t with
      | none=>rfl
      | some d=>cases d<;>rfl
     have e3:sstr? (AV.slice (some (b,off)) n c)=none:=rfl
     cases mx with
     | some _=>cases lo<;>cases hi<;>simp only[M5,aop,A0c,A1l,Y1,L8,V6,afz,afl,afs,R4,hx,Option.map_none,oS]
     | none =>
      cases hu:P.underlying t with
      | none=>cases lo<;>cases hi<;>simp only[M5,aop,A0c,A1l,Y1,L8,V6,afz,afl,afs,R4,hx,hu,e3,Option.map_none,oS]
      | some d=>cases d<;>cases lo<;>cases hi<;>simp only[M5,aop,A0c,A1l,Y1,L8,V6,afz,afl,afs,R4,hx,hu,e3,Option.map_none,oS]
    rw[hne] at h ⊢
    have hb:b<(T.H p).length:=by
     rcases Nat.lt_or_ge b (T.H p).length with h' | h'
     ·exact h'
     ·exfalso
      unfold only at h
      simp only[oM,pI] at h
      obtain⟨v,h1,_⟩:=h
      have hnn:=gO h'
      unfold A4u at h1
      cases hu:P.underlying t with
      | none=>rw[hu] at h1; cases h1
      | some d =>
       rw[hu] at h1
       cases d<;>simp only[hnn,reduceCtorEq] at h1
       split at h1
       ·rename_i he; cases he
       ·cases h1
    have hnb:∀ x,p<=x->x<p+(kk-p)->b∉T.E x:=fun x p1 p2 hx=>by
     by_cases hxm:x<m
     ·rw[hE x hxm] at hx; cases hx
     ·have:=hD x (by omega) (by omega) b hx
      have hc:D.contains b=true:=List.contains_iff_mem.2 this
      rw[hc] at hl; cases hl
    have hkp:=(T.keep hfr b p hb (kk-p) (by omega) hnb).1
    rw[show p+(kk-p)=kk by omega] at hkp
    have e:∀ l h' m',A4u P (T.H kk) t (.slice (some (b,off)) n c) l h' m'=A4u P (T.H p) t (.slice (some (b,off)) n c) l h' m':=fun l h' m'=>by
     unfold A4u
     cases P.underlying t with
     | none=>rfl
     | some d=>cases d<;>first | rfl | simp only[hkp]
    rw[e]
    exact A3t h
   ·cases hl
  ·rename_i args ats hop
   have hx:args.toList.map (M0 (gN P) (T.R p))=args.toList.map (M0 (gN P) (T.R m)):=List.map_congr_left fun a ha=>hval a (by rw[hop]; simp only[Op.operands,Call.operands]; simp at ha ⊢; simp[ha])
   have hal:∀ B x,((∃ a n c,x=AV.slice a n c) \/ ∃ s,x=AV.str s)->V5 P B ats x=V5 P (T.H p) ats x:=fun B x hx=>by
    rcases hx with⟨a,n,c,rfl⟩ | ⟨s,rfl⟩<;>unfold V5<;>(cases(ats[0]?).bind P.underlying with | none=>rfl | some d=>cases d<;>rfl)
   split at hl
   ·rename_i a n c hargs
    rw[hop] at h ⊢
    rw[<- hx] at hargs
    simp only[M5,aop,A0c,A1l,Y1,L8,afz,afl,afs,R4,hargs,A0u] at h ⊢
    rw[hal _ _ (.inl ⟨a,n,c,rfl⟩)]
    exact A3t h
   ·rename_i n row es hargs
    rw[hop] at h ⊢
    rw[<- hx] at hargs
    simp only[M5,aop,A0c,A1l,Y1,L8,afz,afl,afs,R4,hargs,A0u] at h ⊢
    have hal1:V5 P (T.H kk) ats (.flist n row es)=V5 P (T.H p) ats (.flist n row es):=by
     unfold V5
     cases(ats[0]?).bind P.underlying with
     | none=>rfl
     | some d=>cases d<;>rfl
    cases hu:(ats[0]?).bind P.underlying with
    | none=>simp only[hu] at h ⊢; rw[hal1]; exact A3t h
    | some d =>
     cases d with
     | slice e=>simp only[hu,if_true,sI,pI] at h ⊢; exact⟨h.1,trivial⟩
     | _=>simp only[hu] at h ⊢; rw[hal1]; exact A3t h
   ·rename_i s hargs
    rw[hop] at h ⊢
    rw[<- hx] at hargs
    simp only[M5,aop,A0c,A1l,Y1,L8,afz,afl,afs,R4,hargs,A0u] at h ⊢
    rw[hal _ _ (.inr ⟨s,rfl⟩)]
    exact A3t h
   ·rename_i b s n hargs
    rw[hop] at h ⊢
    rw[<- hx] at hargs
    simp only[M5,aop,A0c,A1l,Y1,L8,afz,afl,afs,R4,hargs,A0u] at h ⊢
    have hal1:V5 P (T.H kk) ats (.sslice b s n)=V5 P (T.H p) ats (.sslice b s n):=by
     unfold V5
     cases(ats[0]?).bind P.underlying with
     | none=>rfl
     | some d=>cases d<;>rfl
    cases hu:(ats[0]?).bind P.underlying with
    | none=>simp only[hu] at h ⊢; rw[hal1]; exact A3t h
    | some d =>
     cases d with
     | slice e=>simp only[hu,if_true,sI,pI] at h ⊢; exact⟨h.1,trivial⟩
     | _=>simp only[hu] at h ⊢; rw[hal1]; exact A3t h
   ·cases hl
  ·exact(hhf hl).elim
theorem D2g{listed:Array Bool}(hne:Region.ready .any ops listed≠[])(fuel tt:Nat) :
  ∃ i,i∈Region.ready .any ops listed/\∃ tt',Region.linearise.go .any ops (fuel+1) tt listed []=i::Region.linearise.go .any ops fuel tt' (listed.setIfInBounds i true) []:=by
 have hpos:0<(Region.ready .any ops listed).length:=List.length_pos_iff.2 hne
 have hlt:tt%(Region.ready .any ops listed).length<(Region.ready .any ops listed).length:=Nat.mod_lt _ hpos
 obtain⟨i,hi⟩:∃ i,(Region.ready .any ops listed)[tt%(Region.ready .any ops listed).length]?=some i:=⟨_,gE hlt⟩
 refine⟨i,List.mem_of_getElem? hi,tt / (Region.ready .any ops listed).length,?_⟩
 simp only[Region.linearise.go]
 change (match (Region.ready .any ops listed)[tt%(Region.ready .any ops listed).length]? with
  | some i=>Region.linearise.go .any ops fuel (tt / (Region.ready .any ops listed).length) (listed.setIfInBounds i true) [i]
  | none=>[].reverse)=_
 rw[hi]
 simp only
 rw[linearise_go_acc]; simp
structure Prm (mops ops:Array Oper) (σ:Nat->Nat):Prop where
 size:mops.size=ops.size
 lt:∀ k,k<ops.size->σ k<ops.size
 surj:∀ i,i<ops.size->∃ k,k<ops.size/\σ k=i
 inj:∀ k k',k<ops.size->k'<ops.size->σ k=σ k'->k=k'
 op:∀ k o,ops[k]?=some o->∃ o',mops[σ k]?=some o'/\o'.op=o.op/\o'.dst=o.dst/\(∀ t,Region.wanted o' (yielded mops t)=Region.wanted o (yielded ops t)) /\
  (∀ e',e'∈o'.after->Region.binds .any e'=true->∃ e,e∈o.after/\Region.binds .any e=true/\e'.on=σ e.on/\e.on<ops.size) /\
  (∀ e,e∈o.after->Region.binds .any e=true->∃ e',e'∈o'.after/\Region.binds .any e'=true/\e'.on=σ e.on)
theorem Prm.id(hback:∀ i o,ops[i]?=some o->∀ e,e∈o.after->Region.binds .any e=true->e.on<i):Prm ops ops (fun k=>k) :=
 ⟨rfl,fun _ h=>h,fun i h=>⟨i,h,rfl⟩,fun _ _ _ _ h=>h,fun k o ho=>⟨o,ho,rfl,rfl,fun _=>rfl,fun e he hb=>⟨e,he,hb,rfl,by have:=hback k o ho e he hb; have:=(gA.1 ho).1; omega⟩,fun e he hb=>⟨e,he,hb,rfl⟩⟩⟩
variable {mops:Array Oper} {σ:Nat->Nat}
theorem C3j(hpm:Prm mops ops σ){listed:Array Bool}{e:List Nat}(hsz:listed.size=ops.size)(hmem:∀ j,j<ops.size->(listed.getD (σ j) false=true↔j∈e))(hback:∀ i o,ops[i]?=some o->∀ e,e∈o.after->Region.binds .any e=true->e.on<i)(hex:∃ j,j<ops.size/\j∉e):Region.ready .any mops listed≠[]:=fun hnil=>by
 classical
 have hmin:∃ j,(j<ops.size/\j∉e)/\∀ x,x<j->¬ (x<ops.size/\x∉e):=by
  obtain⟨j0,h0⟩:=hex
  induction j0 using Nat.strongRecOn with
  | _ j0 ihj =>
   by_cases hx:∃ x,x<j0/\(x<ops.size/\x∉e)
   ·obtain⟨x,h1,h2⟩:=hx; exact ihj x h1 h2
   ·exact⟨j0,h0,fun x h1 h2=>hx ⟨x,h1,h2⟩⟩
 obtain⟨j,⟨hjn,hje⟩,hleast⟩:=hmin
 have hoj:ops[j]?=some ops[j]:=aE hjn
 obtain⟨o',ho',_,_,_,hfw,_⟩:=hpm.op j _ hoj
 have hσ:=hpm.lt j hjn
 have:σ j∈Region.ready .any mops listed:=by
  rw[mem_ready]
  refine⟨?_,_,ho',fun e' h1 h2=>?_⟩
  ·rw[R8 (by rw[hsz]; exact hσ)]
   cases h:listed.getD (σ j) false with
   | false=>rfl
   | true=>exact(hje ((hmem j hjn).1 h)).elim
  ·obtain⟨e0,q1,q2,q3,q4⟩:=hfw e' h1 h2
   have hlt:=hback j _ hoj e0 q1 q2
   rw[q3,hmem e0.on q4]
   exact Classical.byContradiction fun hn=>hleast e0.on hlt ⟨q4,hn⟩
 rw[hnil] at this; cases this
theorem B9p(hpm:Prm mops ops σ){listed:Array Bool}{e:List Nat}(hsz:listed.size=ops.size)(hmem:∀ j,j<ops.size->(listed.getD (σ j) false=true↔j∈e))(hback:∀ i o,ops[i]?=some o->∀ e,e∈o.after->Region.binds .any e=true->e.on<i){i':Nat}(hi:i'∈Region.ready .any mops listed) :
  ∃ i,i'=σ i/\i<ops.size/\i∉e/\∃ o,ops[i]?=some o/\(∀ e',e'∈o.after->Region.binds .any e'=true->e'.on∈e) /\
   ∃ o',mops[σ i]?=some o'/\o'.op=o.op/\o'.dst=o.dst/\∀ t,Region.wanted o' (yielded mops t)=Region.wanted o (yielded ops t):=by
 rw[mem_ready] at hi
 obtain⟨h1,o',ho',h2⟩:=hi
 have hin':i'<ops.size:=by rw[<- hpm.size]; exact(gA.1 ho').1
 obtain⟨i,hin,rfl⟩:=hpm.surj i' hin'
 have hoi:ops[i]?=some ops[i]:=aE hin
 obtain⟨o2,ho2,q1,q2,q3,_,q5⟩:=hpm.op i _ hoi
 rw[ho'] at ho2; cases ho2
 rw[R8 (by rw[hsz]; exact hin')] at h1
 have hie:i∉e:=fun h=>by rw[(hmem i hin).2 h] at h1; cases h1
 refine⟨i,rfl,hin,hie,_,hoi,fun e0 h3 h4=>?_,o',ho',q1,q2,q3⟩
 obtain⟨e',r1,r2,r3⟩:=q5 e0 h3 h4
 have:=h2 e' r1 r2
 rw[r3] at this
 exact(hmem e0.on (by have:=hback i _ hoi e0 h3 h4; omega)).1 this
theorem D2u(hpm:Prm mops ops σ){listed:Array Bool}{e:List Nat}(hsz:listed.size=ops.size)(hmem:∀ j,j<ops.size->(listed.getD (σ j) false=true↔j∈e)){i:Nat}(hi:i<ops.size) :
  (listed.setIfInBounds (σ i) true).size=ops.size/\∀ j,j<ops.size->((listed.setIfInBounds (σ i) true).getD (σ j) false=true↔j∈i::e):=by
 refine⟨by simpa using hsz,fun j hj=>?_⟩
 by_cases hji:j=i
 ·subst hji; simp[Array.getD,hsz,hpm.lt j hj]
 ·have hne:σ i≠σ j:=fun h=>hji (hpm.inj i j hi hj h).symm
  rw[getD_set_ne false hne,hmem j hj]; simp[hji]
theorem D5u{T:Trc P r ops m U0 B0}{Z0:Emb}{w0:World}{t0:Array Value}(hr:SRec P A r)(hfr:FrOK r)(hreg:Reg2 ops m)(hpm:Prm mops ops σ)(hm:m<=ops.size)(hs0:Sim A Z0 B0 w0.heap)(hd0:Dom Z0 B0.length)(hg0:GlobOK P Z0)(hv0:VRL Z0 U0 t0.toList)(b:Frame)(ds:List Deferred)(k:List Item)(cs:List Frame) :
  ∀ (fuel tt:Nat) (ml listed:Array Bool) (e:List Nat) (Z:Emb) (w:World) (t:Array Value),J A T Z0 w0 listed e Z w t->ml.size=ops.size->(∀ j,j<ops.size->(ml.getD (σ j) false=true↔j∈e))->e.length+fuel=ops.size ->
   ∃ fuel' tt' ml' listed' e' Z' w' t',Steps P (lone (F b t ds (.inRegion mops (Region.linearise.go .any mops fuel tt ml [])::k)) cs w) (lone (F b t' ds (.inRegion mops (Region.linearise.go .any mops fuel' tt' ml' [])::k)) cs w') /\
    J A T Z0 w0 listed' e' Z' w' t'/\ml'.size=ops.size/\(∀ j,j<ops.size->(ml'.getD (σ j) false=true↔j∈e'))/\e'.length+fuel'=ops.size/\∀ j,j<m->j∈(I4 ops.toList []).getD m []->j∈e':=by
 intro fuel
 induction fuel with
 | zero =>
  intro tt ml listed e Z w t hj hmz hmm hlen
  refine⟨0,tt,ml,listed,e,Z,w,t,.refl _ _,hj,hmz,hmm,hlen,fun j hjm _=>?_⟩
  by_cases hf:∀ j,j<m->j∈e
  ·exact hf j hjm
  ·have:=A4r hj.nd hj.lt hf; omega
 | succ fuel ih =>
  intro tt ml listed e Z w t hj hmz hmm hlen
  by_cases hf:∀ j,j<m->j∈(I4 ops.toList []).getD m []->j∈e
  ·exact⟨fuel+1,tt,ml,listed,e,Z,w,t,.refl _ _,hj,hmz,hmm,hlen,hf⟩
  ·have hne:Region.ready .any mops ml≠[]:=by
    refine C3j hpm hmz hmm hreg.back ?_
    obtain⟨j0,h⟩:=Classical.not_forall.1 hf
    obtain⟨h1,h2⟩:=Classical.not_imp.1 h
    obtain⟨_,h3⟩:=Classical.not_imp.1 h2
    exact⟨j0,by omega,h3⟩
   obtain⟨i',hi,tt',hgo⟩:=D2g hne fuel tt
   obtain⟨i,rfl,hin,hie,o,ho,hdir,o',ho',hop,hds,hwm⟩:=B9p hpm hmz hmm hreg.back hi
   obtain⟨hmz',hmm'⟩:=D2u hpm hmz hmm hin
   have him:i<m:=Nat.lt_of_not_le fun hle=>by
    have hcl:=O3 hj.cl hreg.back i o ho hdir
    by_cases e1:i=m
    ·subst e1; exact hf fun j _ hjb=>hcl j hjb
    ·have h1:=hcl m (hreg.tail i hle hin m (lR _) (by omega))
     have:=hj.lt m h1
     omega
   obtain⟨Z1,w1,t1,s1,hj1⟩:=C2h hj hr hfr hreg.base hm hs0 hd0 hg0 hv0 him hie ho hdir ho' hop hds (hwm t) b ds (Region.linearise.go .any mops fuel tt' (ml.setIfInBounds (σ i) true) []) k cs
   obtain⟨f',t2,ml',l',e',Z',w',t',s2,h3⟩:=ih tt' _ _ _ _ _ _ hj1 hmz' hmm' (by simp; omega)
   exact⟨f',t2,ml',l',e',Z',w',t',by rw[hgo]; exact s1.trans s2,h3⟩
structure J2 (A:Amb) (T:Trd P r ops U0 B0) (m kk:Nat) (Z1:Emb) (w1:World) (listed:Array Bool) (e:List Nat) (Z:Emb) (w:World) (t:Array Value):Prop where
 size:listed.size=ops.size
 mem:∀ j,j<ops.size->(listed.getD j false=true↔j∈e)
 nd:e.Nodup
 lt:∀ j,j∈e->j<ops.size
 tl:∀ j,m<=j->(j∈e↔j<kk)
 nl:∀ j,j<m->j∈(I4 ops.toList []).getD m []->j∈e
 k1:m<=kk
 k2:kk<=ops.size
 cl:Closed ops (·∈e)
 tsz:t.size=U0.length
 wr:∀ x,x<U0.length->∀ j,j∈e->∀ o,ops[j]?=some o->o.dst=some x->∃ u,t[x]?=some u/\VR Z (T.V j) u
 nw:∀ x a,U0[x]?=some a->(∀ j,j∈e->∀ o,ops[j]?=some o->o.dst≠some x)->∃ u,t[x]?=some u/\VR Z a u
 aft:After A Z1 Z (T.H m) (T.H kk) ((List.range' m (kk-m)).flatMap T.E) w1 w
theorem J2.look{T:Trd P r ops U0 B0}{kk:Nat}{Z1 Z:Emb}{w1 w:World}{listed:Array Bool}{e:List Nat}{t:Array Value}(hj:J2 A T m kk Z1 w1 listed e Z w t)(hreg:Reg2 ops m){i:Nat}{o:Oper}(hi:i<ops.size)(hie:i∉e)(ho:ops[i]?=some o)(hdir:∀ e',e'∈o.after->Region.binds .any e'=true->e'.on∈e){x:Nat}(hx:x∈looks ops o)(hlt:x<U0.length) :
  ∃ a u,(T.R i)[x]?=some a/\t[x]?=some u/\VR Z a u:=by
 classical
 obtain⟨s1,s2⟩:=T.slots hreg x hlt i (by omega)
 have hbef:=O3 hj.cl hreg.back i o ho hdir
 by_cases hw:∃ j q,j<i/\ops[j]?=some q/\q.dst=some x
 ·obtain⟨j,q,h1,h2,h3⟩:=hw
  rcases hreg.sees i j o q x (by omega) ho h2 h3 hx with⟨_,h4⟩ | ⟨h4,_⟩
  ·obtain⟨u,p,q'⟩:=hj.wr x hlt j (hbef j h4) q h2 h3
   exact⟨_,u,s1 j q h1 h2 h3,p,q'⟩
  ·omega
 ·have h2:(T.R i)[x]?=U0[x]?:=s2 fun j q h1 h2 h3=>hw ⟨j,q,h1,h2,h3⟩
  have ha:U0[x]?=some U0[x]:=gE hlt
  obtain⟨u,p,q⟩:=hj.nw x _ ha fun j hje q hq hd=>by
   by_cases hji:j<i
   ·exact hw ⟨j,q,hji,hq,hd⟩
   ·have hne:j≠i:=fun h=>by subst h; exact hie hje
    rcases hreg.sees i j o q x (Ne.symm hne) ho hq hd hx with⟨h4,_⟩ | ⟨h4,h5⟩
    ·omega
    ·exact hie (O3 hj.cl hreg.back j q hq (fun e' h1 h2=>hj.cl j q hje hq e' h1 h2) i h5)
  exact⟨_,u,h2.trans ha,p,q⟩
theorem J2.oper{T:Trd P r ops U0 B0}{kk:Nat}{Z1 Z:Emb}{w1 w:World}{listed:Array Bool}{e:List Nat}{t:Array Value}(hj:J2 A T m kk Z1 w1 listed e Z w t)(hreg:Reg2 ops m)(hg:GlobOK P Z){i:Nat}{o:Oper}(hi:i<ops.size)(hie:i∉e)(ho:ops[i]?=some o)(hdir:∀ e',e'∈o.after->Region.binds .any e'=true->e'.on∈e)(ds:List Deferred)(x:Operand)(hx:x∈o.op.operands) :
  VR Z (M0 (gN P) (T.R i) x) ((Act.mk t ds).eval x):=by
 cases x with
 | tmp d =>
  simp only[M0,Act.eval]
  have hlook:d∈looks ops o:=by
   unfold looks
   rw[List.mem_append]; left
   rw[List.mem_filterMap]
   exact⟨.tmp d,by simpa using hx,rfl⟩
  have hlen:=T.length i (by omega)
  by_cases hd:d<U0.length
  ·obtain⟨a,u,h1,h2,h3⟩:=hj.look hreg hi hie ho hdir hlook hd
   simp only[gD,h1,Option.getD_some,Array.getD_eq_getD_getElem?,h2]
   exact h3
  ·have hd':U0.length<=d:=Nat.le_of_not_lt hd
   have h1:(T.R i)[d]?=none:=by rw[List.getElem?_eq_none_iff,hlen]; exact hd'
   have h2:t[d]?=none:=by rw[Array.getElem?_eq_none_iff,hj.tsz]; exact hd'
   simp only[gD,h1,Option.getD_none,Array.getD_eq_getD_getElem?,h2]
   exact X9
 | const v=>exact B5s _ v
 | global g =>
  simp only[M0,Act.eval]
  split
  ·rename_i hlt
   obtain⟨l,h1,h2,h3⟩:=hg g hlt
   simp only[VR]
   exact⟨l,h1,by simp[h2,h3]⟩
  ·trivial
 | func f=>simp only[M0,Act.eval,VR,FR]; exact⟨_,_,_,rfl,rfl,by simp[VRL],by simp[VRL]⟩
theorem J2.want{T:Trd P r ops U0 B0}{kk:Nat}{Z1 Z:Emb}{w1 w:World}{listed:Array Bool}{e:List Nat}{t:Array Value}(hj:J2 A T m kk Z1 w1 listed e Z w t)(hreg:Reg2 ops m){i:Nat}{o:Oper}(hi:i<ops.size)(hie:i∉e)(ho:ops[i]?=some o)(hdir:∀ e',e'∈o.after->Region.binds .any e'=true->e'.on∈e){b:Bool}(hw:A0w ops (T.R i) o=some b) :
  Region.wanted o (yielded ops t)=b:=by
 refine B1e (Z:=Z) hw fun j want d hgd hdst=>?_
 have hlook:d∈looks ops o:=by
  unfold looks
  rw[List.mem_append]; right
  rw[hgd]; simp[hdst]
 have hlen:=T.length i (by omega)
 by_cases hd:d<U0.length
 ·exact .inr (hj.look hreg hi hie ho hdir hlook hd)
 ·have hd':U0.length<=d:=Nat.le_of_not_lt hd
  left
  exact⟨by rw[List.getElem?_eq_none_iff,hlen]; exact hd',by rw[Array.getElem?_eq_none_iff,hj.tsz]; exact hd'⟩
theorem J2.put{T:Trd P r ops U0 B0}{kk kk':Nat}{Z1 Z Z':Emb}{w1 w w':World}{listed:Array Bool}{e:List Nat}{t:Array Value}(hj:J2 A T m kk Z1 w1 listed e Z w t)(hreg:Reg2 ops m){i:Nat}{o:Oper}(hie:i∉e)(ho:ops[i]?=some o)(hdir:∀ e',e'∈o.after->Region.binds .any e'=true->e'.on∈e){v:Value}(ds:List Deferred)(hle:Z.le Z')(hv:VR Z' (T.V i) v)(hk:(i<m/\kk'=kk) \/ (i=kk/\kk'=kk+1))(haft:After A Z1 Z' (T.H m) (T.H kk') ((List.range' m (kk'-m)).flatMap T.E) w1 w') :
  J2 A T m kk' Z1 w1 (listed.setIfInBounds i true) (i::e) Z' w' ((Act.mk t ds).put o.dst v).tmps:=by
 have hin:i<ops.size:=(gA.1 ho).1
 have hput:∀ x,x<U0.length->o.dst=some x->((Act.mk t ds).put o.dst v).tmps[x]?=some v:=fun x hx hd=>by
  rw[hd]; simp[Act.put,hj.tsz,hx]
 have hkeep:∀ x,o.dst≠some x->((Act.mk t ds).put o.dst v).tmps[x]?=t[x]?:=fun x hd=>by
  cases h:o.dst with
  | none=>rfl
  | some d =>
   simp only[Act.put]
   exact Array.getElem?_setIfInBounds_ne fun e=>by subst e; exact hd h
 have hk1:=hj.k1
 have hk2:=hj.k2
 refine⟨by simpa using hj.size,fun j hjn=>?_,List.nodup_cons.2 ⟨hie,hj.nd⟩,fun j hje=>?_,fun j hjm=>?_,fun j h1 h2=>List.mem_cons_of_mem _ (hj.nl j h1 h2),by omega,by omega,fun j q hje hq e' h1 h2=>?_,?_,
  fun x hx j hje q hq hd=>?_,fun x a ha hno=>?_,haft⟩
 ·by_cases hji:j=i
  ·subst hji; simp[Array.getD,hj.size,hin]
  ·rw[getD_set_ne false (Ne.symm hji),hj.mem j hjn]; simp[hji]
 ·rcases List.mem_cons.1 hje with rfl | h
  ·exact hin
  ·exact hj.lt j h
 ·rw[List.mem_cons,hj.tl j hjm]
  omega
 ·rcases List.mem_cons.1 hje with rfl | h
  ·rw[ho] at hq; cases hq; exact List.mem_cons_of_mem _ (hdir e' h1 h2)
  ·exact List.mem_cons_of_mem _ (hj.cl j q h hq e' h1 h2)
 ·cases h:o.dst<;>simp[Act.put,hj.tsz]
 ·rcases List.mem_cons.1 hje with rfl | h
  ·rw[ho] at hq; cases hq
   exact⟨v,hput x hx hd,hv⟩
  ·have hji:j≠i:=fun h'=>by subst h'; exact hie h
   obtain⟨u,p,q'⟩:=hj.wr x hx j h q hq hd
   exact⟨u,(hkeep x (hreg.dsts i j o q x (Ne.symm hji) ho hq hd)).trans p,q'.mono hle⟩
 ·obtain⟨u,p,q⟩:=hj.nw x a ha fun j hje q hq=>hno j (List.mem_cons_of_mem _ hje) q hq
  exact⟨u,(hkeep x (hno i (by simp) o ho)).trans p,q.mono hle⟩
theorem D3m{f:Operand->AV}{B B':Heap}{t:TypeId}{a y:Operand}{v:AV}{D:List Nat}{b o:Nat}(ha:f a=.ptr (some (b,o)))(h:M5 P r f B (.store t a y)=some (v,B',D)):∀ x,x∈D->x=b:=by
 simp only[M5,aop,A0c,A1l,Y1,L8,V6,afz,afl,afs,R4,ha,Option.map_none] at h
 cases hb:B8q (f y) with
 | true=>simp[hb] at h
 | false =>
  simp only[hb,Bool.false_eq_true,if_false] at h
  unfold A7n at h
  (repeat' split at h)<;>simp only[oM,pI,reduceCtorEq] at h
  all_goals
   obtain⟨_,_,_,_,rfl⟩:=h
   intro x hx
   simp_all
theorem C6p(T:Trd P r ops U0 B0)(hreg:Reg2 ops m)(hm:m<=ops.size)(_hE:∀ i,i<m->T.E i=[]){p:Nat}{D:List Nat}(h:E8d ops (gN P) (T.R m) m p=some D) :
  ∀ x,m<=x->x<ops.size->p∉(I4 ops.toList []).getD x []->∀ b,b∈T.E x->b∈D:=by
 intro x h1 h2 hx b hb
 unfold E8d at h
 split at h
 case isFalse=>cases h
 rename_i hall
 cases h
 have hmem:x∈E0f ops m p:=by
  unfold E0f
  rw[List.mem_filter]
  refine⟨by rw[List.mem_range'_1]; omega,?_⟩
  cases hc:((I4 ops.toList []).getD x []).contains p with
  | false=>rfl
  | true=>exact(hx (List.contains_iff_mem.1 hc)).elim
 have hox:ops[x]?=some (ops[x]'h2):=aE h2
 have h3:=List.all_eq_true.1 hall x hmem
 rw[List.mem_flatMap]
 refine⟨x,hmem,?_⟩
 simp only[hox] at h3 ⊢
 generalize ho:ops[x]'h2=o at h3 hox ⊢
 cases hw:E1u (gN P) (T.R m) ops m o.op with
 | none=>rw[hw] at h3; cases h3
 | some l =>
  simp only[Option.getD_some]
  obtain⟨bb,_,_,ht,hf⟩:=T.stp x o hox
  cases bb with
  | false=>rw[(hf rfl).2.2] at hb; cases hb
  | true =>
   have ht:=ht rfl
   unfold E1u at hw
   split at hw
   ·rename_i t d y hop
    split at hw
    ·cases hw
    ·rename_i hnd
     split at hw
     ·rename_i b' o' hptr
      cases hw
      have hsame:M0 (gN P) (T.R x) (.tmp d)=M0 (gN P) (T.R m) (.tmp d):=by
       simp only[M0]
       by_cases hd:d<U0.length
       ·obtain⟨a1,a2⟩:=T.slots hreg d hd x (by omega)
        obtain⟨b1,b2⟩:=T.slots hreg d hd m hm
        have hno:∀ j q,m<=j->ops[j]?=some q->q.dst≠some d:=fun j q hj hq hqd=>by
         refine hnd (List.any_eq_true.2 ⟨q,?_,by simp[hqd]⟩)
         rw[List.mem_iff_getElem?]
         exact⟨j-m,by rw[dP,show m+(j-m)=j by omega]; simpa using hq⟩
        have:(T.R x)[d]?=(T.R m)[d]?:=by
         by_cases hw:∃ (j:Nat) (q:Oper),j<m/\ops[j]?=some q/\q.dst=some d
         ·obtain⟨j,q,h0,h1,h2⟩:=hw
          rw[a1 j q (by omega) h1 h2,b1 j q h0 h1 h2]
         ·rw[a2 fun j q hj h1 h2=>?_,b2 fun j q hj h1 h2=>hw ⟨j,q,hj,h1,h2⟩]
          rcases Nat.lt_or_ge j m with h' | h'
          ·exact hw ⟨j,q,h',h1,h2⟩
          ·exact hno j q h' h1 h2
        simp only[gD,this]
       ·have hle:U0.length<=d:=Nat.le_of_not_lt hd
        have e1:(T.R x)[d]?=none:=gO (by rw[T.length x (by omega)]; exact hle)
        have e2:(T.R m)[d]?=none:=gO (by rw[T.length m hm]; exact hle)
        simp only[gD,e1,e2]
      rw[hop] at ht
      have:=D3m (hsame.trans hptr) ht b hb
      subst this
      exact List.mem_singleton.2 rfl
     ·cases hw
   ·cases hw
theorem D0p(hr:SRec P A r)(hfr:FrOK r)(hreg:Reg2 ops m)(hpm:Prm mops ops σ)(hm:m<=ops.size){T:Trd P r ops U0 B0}(hE:∀ i,i<m->T.E i=[])(hl:∀ p o,p<m->p∉(I4 ops.toList []).getD m []->ops[p]?=some o->∃ D:List Nat,B3r (gN P) (T.R m) D o.op=true/\∀ x,m<=x->x<ops.size->p∉(I4 ops.toList []).getD x []->∀ b,b∈T.E x->b∈D){Z1:Emb}{w1:World}(hg1:GlobOK P Z1)(b:Frame)(ds:List Deferred)(k:List Item)(cs:List Frame) :
  ∀ (fuel tt kk:Nat) (ml listed:Array Bool) (e:List Nat) (Z:Emb) (w:World) (t:Array Value),J2 A T m kk Z1 w1 listed e Z w t->ml.size=ops.size->(∀ j,j<ops.size->(ml.getD (σ j) false=true↔j∈e))->e.length+fuel=ops.size ->
   ∃ listed' e' Z' w' t',Steps P (lone (F b t ds (.inRegion mops (Region.linearise.go .any mops fuel tt ml [])::k)) cs w) (lone (F b t' ds (.inRegion mops []::k)) cs w') /\
    J2 A T m ops.size Z1 w1 listed' e' Z' w' t'/\∀ j,j<ops.size->j∈e':=by
 classical
 intro fuel
 induction fuel with
 | zero =>
  intro tt kk ml listed e Z w t hj hmz hmm hlen
  have hf:∀ j,j<ops.size->j∈e:=by
   refine Classical.byContradiction fun hf=>?_
   have:=A4r hj.nd hj.lt hf; omega
  have hkk:kk=ops.size:=by
   have:=hj.k2
   rcases Nat.lt_or_ge kk ops.size with h | h
   ·have:=(hj.tl kk hj.k1).1 (hf kk h); omega
   ·omega
  subst hkk
  exact⟨listed,e,Z,w,t,.refl _ _,hj,hf⟩
 | succ fuel ih =>
  intro tt kk ml listed e Z w t hj hmz hmm hlen
  have hne:Region.ready .any mops ml≠[]:=by
   refine C3j hpm hmz hmm hreg.back (Classical.byContradiction fun hn=>?_)
   have hf:∀ j,j<ops.size->j∈e:=fun j hjs=>Classical.byContradiction fun h=>hn ⟨j,hjs,h⟩
   have:=A7y hj.nd hj.lt hf
   omega
  obtain⟨i',hi,tt',hgo⟩:=D2g hne fuel tt
  obtain⟨i,rfl,hin,hie,o,ho,hdir,o',ho',hop,hds,hwm⟩:=B9p hpm hmz hmm hreg.back hi
  obtain⟨hmz',hmm'⟩:=D2u hpm hmz hmm hin
  have hg:GlobOK P Z:=hg1.mono hj.aft.step.ext
  have hk1:=hj.k1
  have hk2:=hj.k2
  obtain⟨bb,hw,hR,ht,hf⟩:=T.stp i o ho
  have hwant:=hj.want hreg hin hie ho hdir hw
  have hcase:(i<m/\i∉(I4 ops.toList []).getD m []) \/ i=kk:=by
   by_cases him:i<m
   ·exact .inl ⟨him,fun h=>hie (hj.nl i him h)⟩
   ·refine .inr ?_
    have h1:¬ i<kk:=fun h=>hie ((hj.tl i (by omega)).2 h)
    rcases Nat.lt_or_ge kk i with h | h
    ·have h2:=O3 hj.cl hreg.back i o ho hdir kk (hreg.tail i (by omega) hin kk hk1 h)
     have:=(hj.tl kk hk1).1 h2; omega
    ·omega
  have hgo1:∀ (kk':Nat) (E:List Nat),(bb=true->M5 P r (M0 (gN P) (T.R i)) (T.H kk) o.op=some (T.V i,T.H kk',E))->(bb=false->T.V i=H7/\T.H kk'=T.H kk/\E=[]) ->
    ∃ Z' v' w',Steps P (lone (F b t ds (.inRegion mops (σ i::Region.linearise.go .any mops fuel tt' (ml.setIfInBounds (σ i) true) [])::k)) cs w)
     (lone (F b ((Act.mk t ds).put o.dst v').tmps ds (.inRegion mops (Region.linearise.go .any mops fuel tt' (ml.setIfInBounds (σ i) true) [])::k)) cs w')/\VR Z' (T.V i) v'/\After A Z Z' (T.H kk) (T.H kk') E w w':=by
   intro kk' E h1 h2
   cases bb with
   | false =>
    obtain⟨e1,e2,e3⟩:=h2 rfl
    refine⟨Z,undef,w,by rw[<- hds]; exact .one (A3q ho' ((hwm t).trans hwant)),by rw[e1]; exact X9,?_⟩
    rw[e2,e3]; exact .refl hj.aft.sim hj.aft.dom
   | true =>
    have h1:=h1 rfl
    have hcong:=B7o (P:=P) (r:=r) (B:=T.H kk) (op:=o.op) (f:=fun x=>if x∈o.op.operands then M0 (gN P) (T.R i) x else .bad) (g:=M0 (gN P) (T.R i)) (fun x hx=>by simp[hx])
    rw[<- hcong] at h1
    have h1:M5 P r (fun x=>if x∈o.op.operands then M0 (gN P) (T.R i) x else .bad) (T.H kk) o'.op=some (T.V i,T.H kk',E):=by rw[hop]; exact h1
    rw[<- hds]
    exact A2v (w:=w) (ds:=ds) hr hfr h1 hj.aft.sim hj.aft.dom hg (fun x=>by
     by_cases hx:x∈o.op.operands
     ·simp only[hx,if_true]; exact hj.oper hreg hg hin hie ho hdir ds x hx
     ·simp only[hx,if_false]; trivial) ho' ((hwm t).trans hwant) b _ k cs
  rcases hcase with⟨him,hil⟩ | rfl
  ·obtain⟨Z',v',w',s1,s2,s3⟩:=hgo1 kk [] (fun e=>by
    obtain⟨D0,hl0,hD0⟩:=hl i o him hil ho
    refine E8e T hfr hreg hm hE him hil ho hl0 hk1 hk2 (fun x h1 h2=>hD0 x h1 (by omega) fun hx=>?_) (ht e)
    have hxe:=(hj.tl x h1).2 h2
    have hox:ops[x]?=some (ops[x]'(by omega)):=aE (by omega)
    exact hie (O3 hj.cl hreg.back x _ hox (hj.cl x _ hxe hox) i hx)) (fun e=>⟨(hf e).1,rfl,rfl⟩)
   have haft:=hj.aft.trans s3
   rw[List.append_nil] at haft
   have hj':=hj.put (kk':=kk) hreg hie ho hdir ds s3.step.ext s2 (.inl ⟨him,rfl⟩) haft
   obtain⟨l',e',Z2,w2,t2,q1,q2⟩:=ih tt' kk _ _ _ _ _ _ hj' hmz' hmm' (by simp; omega)
   exact⟨l',e',Z2,w2,t2,by rw[hgo]; exact s1.trans q1,q2⟩
  ·obtain⟨Z',v',w',s1,s2,s3⟩:=hgo1 (i+1) (T.E i) ht (fun e=>hf e)
   have haft:=hj.aft.trans s3
   have hsum:(List.range' m (i-m)).flatMap T.E++T.E i=(List.range' m (i+1-m)).flatMap T.E:=by
    rw[show i+1-m=(i-m)+1 by omega,List.range'_concat]
    simp[show m+(i-m)=i by omega]
   rw[hsum] at haft
   have hj':=hj.put (kk':=i+1) hreg hie ho hdir ds s3.step.ext s2 (.inr ⟨rfl,rfl⟩) haft
   obtain⟨l',e',Z2,w2,t2,q1,q2⟩:=ih tt' (i+1) _ _ _ _ _ _ hj' hmz' hmm' (by simp; omega)
   exact⟨l',e',Z2,w2,t2,by rw[hgo]; exact s1.trans q1,q2⟩
theorem A3u(F7:P.follows .mixedOrders=true)(hr:SRec P A r)(hfr:FrOK r){U U':List AV}{B B':Heap}{D:List Nat}(h:A1x P r ops m U B=some (U',B',D))(hpm:Reg2 ops m->Prm mops ops σ){Z:Emb}{w:World}{t:Array Value}(hs:Sim A Z B w.heap)(hd:Dom Z B.length)(hg:GlobOK P Z)(hv:VRL Z U t.toList)(id:Nat)(b:Frame)(ds:List Deferred)(k:List Item)(cs:List Frame) :
  ∃ Z' w' t',Steps P (lone (F b t ds (.code (.region id mops true)::k)) cs w) (lone (F b t' ds k) cs w')/\VRL Z' U' t'.toList/\After A Z Z' B B' D w w':=by
 unfold A1x at h
 split at h
 ·rename_i hok
  have hreg0:=D3c hok
  have hpm:=hpm hreg0
  split at h
  ·rename_i U1 B1 h1
   split at h
   ·rename_i U2 B2 D2 h2
    split at h
    ·rename_i hlate0
     rw[bA] at hlate0
     obtain⟨hmle,hlate⟩:=hlate0
     cases h
     by_cases hm:m<=ops.size
     ·have hreg:=hreg0
      obtain⟨T,e1,e2,e3,e4,e5,e6⟩:=G5s hm h1 h2
      have hE:∀ i,i<m->T.E i=[]:=fun i hi=>by
       cases hh:T.E i with
       | nil=>rfl
       | cons a l=>have:=e5 i hi a (by rw[hh]; simp); cases this
      have hD:∀ x,m<=x->x<ops.size->∀ b,b∈T.E x->b∈D:=fun x p q b hb=>by
       rw[<- e6,List.mem_flatMap]
       exact⟨x,by rw[List.mem_range'_1]; omega,hb⟩
      have hl:∀ p o,p<m->p∉(I4 ops.toList []).getD m []->ops[p]?=some o->∃ D:List Nat,B3r (gN P) (T.R m) D o.op=true/\∀ x,m<=x->x<ops.size->p∉(I4 ops.toList []).getD x []->∀ b,b∈T.E x->b∈D:=fun p o hp hpl ho=>by
       unfold C6o at hlate
       rw[List.all_eq_true] at hlate
       have h3:=hlate p (by
        unfold G0s
        rw[List.mem_filter]
        exact⟨List.mem_range.2 hp,by
         cases hc:((I4 ops.toList []).getD m []).contains p with
         | false=>rfl
         | true=>exact(hpl (List.contains_iff_mem.1 hc)).elim⟩)
       simp only[ho,Bool.or_eq_true] at h3
       rw[e3]
       rcases h3 with h3 | h3
       ·exact⟨_,h3,fun x p q _=>hD x p q⟩
       ·split at h3
        ·rename_i D' hD'
         exact⟨D',h3,C6p T hreg hm hE (by rw[e3]; exact hD')⟩
        ·cases h3
      let w1:World:={ w with drawn:=w.drawn+1 }
      let Tc:=T.fst hE
      have hj0:J A Tc Z w1 (Array.replicate ops.size false) [] Z w1 t:=by
       have hfrm:=Tc.mono hfr hm m 0 (Nat.zero_le _) (lR _)
       rw[Tc.h0] at hfrm
       have hget:∀ b o l,Z b=some l->(Tc.H m)[b]?=some o->b<B.length/\B[b]?=some o:=fun b o l hl ho=>by
        have hlt:b<B.length:=Nat.lt_of_not_le fun hle=>by rw[hd b hle] at hl; cases hl
        exact⟨hlt,(hfrm.2 b hlt (by simp)).symm.trans ho⟩
       refine⟨by simp,fun j hj=>by simp[Array.getD,hj],List.nodup_nil,fun j h=>(by cases h),fun j o h=>(by cases h),(by have:=hv.length; simpa using this),fun x hx j h=>(by cases h),
        fun x a ha _=>?_,fun b l hl=>?_,Z.le_refl,⟨fun b o l hb hl=>?_,hs.lt,fun b b' l l' o o' hne hl hl' hb hb'=>?_,hs.amb,fun b l o hl hb=>?_,hs.gLe,hs.fzOK,fun c v b l o hc hl hb=>?_⟩,
        ⟨Z.le_refl,fun x lx p q=>(by rw[p] at q; cases q),lR _,fun _ _ _=>rfl,fun _ L h=>⟨L,h⟩,fun _ _ h=>h,rfl,rfl,rfl,Q6⟩⟩
       ·obtain⟨u,p,q⟩:=hv.get ha; exact⟨u,by simpa using p,q⟩
       ·left
        have hlt:b<B.length:=Nat.lt_of_not_le fun hle=>by rw[hd b hle] at hl; cases hl
        exact⟨hlt,fun o ho=>B6s hd (hs.obj b o l (hget b o l hl ho).2 hl)⟩
       ·exact hs.obj b o l (hget b o l hl hb).2 hl
       ·exact hs.own b b' l l' o o' hne hl hl' (hget b o l hl hb).2 (hget b' o' l' hl' hb').2
       ·exact hs.ownG b l o hl (hget b o l hl hb).2
       ·exact hs.fzSep c v b l o hc hl (hget b o l hl hb).2
      obtain⟨f',tt',ml',l',e',Z2,w2,t2,s1,hj2,hmz',hmm',hlen2,hfull⟩:=D5u (T:=Tc) (w0:=w1) (t0:=t) hr hfr hreg hpm hm hs hd hg hv b ds k cs ops.size (w.tape w.drawn (.order b.fn id)) (Array.replicate ops.size false) _ [] Z w1 t hj0 (by simp) (fun j hj=>by simp[Array.getD,hpm.lt j hj]) (by simp)
      have hA:After A Z Z2 B (T.H m) [] w1 w2:=by
       have hfrm:=Tc.mono hfr hm m 0 (Nat.zero_le _) (lR _)
       rw[Tc.h0] at hfrm
       refine⟨hj2.stp,hj2.sim,fun b hb=>?_,hfrm⟩
       cases h3:Z2 b with
       | none=>rfl
       | some l =>
        rcases hj2.dom b l h3 with⟨h4,_⟩ | ⟨j,h4,h5,h6,_⟩
        ·have h7:=hfrm.1
         have h8:(Tc.H m).length=(T.H m).length:=rfl
         omega
        ·have h7:=(Tc.mono hfr hm m (j+1) (by have:=hj2.lt j h4; omega) (lR _)).1
         have h8:(Tc.H m).length=(T.H m).length:=rfl
         omega
      have hj3:J2 A T m m Z2 w2 l' e' Z2 w2 t2:=by
       refine⟨hj2.size,hj2.mem,hj2.nd,fun j h=>by have:=hj2.lt j h; omega,fun j hj=>⟨fun h=>by have:=hj2.lt j h; omega,fun h=>by omega⟩,hfull,lR _,hm,hj2.cl,hj2.tsz,hj2.wr,hj2.nw,?_⟩
       simpa using After.refl hA.sim hA.dom
      obtain⟨l3,e3',Z3,w3,t3,s2,hj4,hfull4⟩:=D0p (T:=T) hr hfr hreg hpm hm hE hl (hg.mono hA.step.ext) b ds k cs f' tt' m ml' l' e' Z2 w2 t2 hj3 hmz' hmm' hlen2
      have hlenN:=T.length ops.size (lR _)
      have hv3:VRL Z3 U' t3.toList:=by
       rw[<- e1]
       refine .of_get (by simp only[Array.length_toList]; rw[hj4.tsz,hlenN]) fun x a ha=>?_
       have hx:x<U.length:=by rw[<- hlenN]; exact(gS.1 ha).1
       obtain⟨q1,q2⟩:=T.slots hreg x hx ops.size (lR _)
       by_cases hex:∃ j o,j<ops.size/\ops[j]?=some o/\o.dst=some x
       ·obtain⟨j,o,h1,h2,h3⟩:=hex
        rw[q1 j o h1 h2 h3] at ha; cases ha
        obtain⟨u,p,q⟩:=hj4.wr x hx j (hfull4 j h1) o h2 h3
        exact⟨u,by simpa using p,q⟩
       ·rw[q2 fun j o h1 h2 h3=>hex ⟨j,o,h1,h2,h3⟩] at ha
        obtain⟨u,p,q⟩:=hj4.nw x a ha fun j hje o h2 h3=>hex ⟨j,o,hj4.lt j hje,h2,h3⟩
        exact⟨u,by simpa using p,q⟩
      have hdraw:=A8a (P:=P) (b:=b) (t:=t) (ds:=ds) (k:=k) (cs:=cs) (w:=w) (i:=id) (ops:=mops)
      have hsched:Region.schedule (P.follows .mixedOrders) mops (w.tape w.drawn (.order b.fn id))=Region.linearise.go .any mops ops.size (w.tape w.drawn (.order b.fn id)) (Array.replicate ops.size false) []:=by
       simp[Region.schedule,F7,Region.linearise,hpm.size]
      rw[hsched] at hdraw
      refine⟨Z3,w3,t3,(Steps.one hdraw).trans (s1.trans (s2.trans (.one U9))),hv3,?_⟩
      have hall:=hA.trans hj4.aft
      rw[List.nil_append,e6,e2] at hall
      have hst:=hall.step
      exact⟨⟨hst.ext,hst.dom,hst.size,hst.keep,hst.loops,hst.defs,hst.tape,hst.os,hst.out,hst.fdom⟩,hall.sim,hall.dom,hall.fr⟩
     ·simp at hmle; omega
    ·cases h
   ·cases h
  ·simp at h
 ·simp at h
theorem B9j:∀ {l:List Nat},F5n l=true->l.Nodup
 | [],_=>List.nodup_nil
 | k::ks,h=>by
  simp only[F5n,bA,Bool.not_eq_true',List.contains_eq_mem,decide_eq_false_iff_not] at h
  exact List.nodup_cons.2 ⟨h.1,B9j h.2⟩
theorem E3s{ord:List Nat}(h:D7l ops ord=true):Prm ops (A8j ops ord) (fun k=>ord.getD k 0):=by
 simp only[D7l,bA,dQ,List.all_eq_true] at h
 obtain⟨hlen,hnd,hlt,hed⟩:=h
 have hnd:=B9j hnd
 have hsz:(A8j ops ord).size=ops.size:=by simp[A8j,hlen]
 have hget:∀ k,k<ops.size->ord.getD k 0<ops.size:=fun k hk=>by
  rw[gD,gE (by omega)]
  exact hlt _ (List.getElem_mem _)
 have hmem:∀ i,i<ops.size->i∈ord:=fun i hi=>Classical.byContradiction fun hn=>by
  have:=A4r hnd hlt (fun hall=>hn (hall i hi))
  omega
 have hidx:∀ i,i<ops.size->ord.idxOf i<ops.size/\ord.getD (ord.idxOf i) 0=i:=fun i hi=>by
  have h1:=List.idxOf_lt_length_of_mem (hmem i hi)
  refine⟨by omega,?_⟩
  rw[gD,gE h1]
  simp
 refine⟨hsz.symm,fun k hk=>by rw[hsz] at hk ⊢; exact hget k hk,fun i hi=>by rw[hsz] at hi ⊢; exact⟨ord.idxOf i,(hidx i hi).1,(hidx i hi).2⟩,fun k k' hk hk' e=>?_,fun k o ho=>?_⟩
 ·rw[hsz] at hk hk'
  rw[gD,gD,gE (by omega),gE (by omega)] at e
  exact(List.getElem_inj hnd).1 e
 ·have hk:k<ops.size:=by rw[<- hsz]; exact(gA.1 ho).1
  have hσ:=hget k hk
  obtain⟨o',ho'⟩:∃ o',ops[ord.getD k 0]?=some o':=⟨_,aE hσ⟩
  have he:o=D7n ord o':=by
   have e1:(A8j ops ord)[k]?=some (D7n ord (ops[ord.getD k 0]?.getD default)):=by
    simp only[A8j,List.getElem?_toArray,List.getElem?_map]
    rw[gE (by omega),gD,gE (by omega)]; rfl
   rw[ho,ho'] at e1
   simpa using e1
  have hin:o'∈ops.toList:=by
   rw[Array.mem_toList_iff]; exact Array.mem_of_getElem? ho'
  obtain⟨hea,hgu⟩:=hed o' hin
  subst he
  refine⟨o',ho',rfl,rfl,fun t=>?_,fun e' h1 h2=>?_,fun e h1 h2=>?_⟩
  ·unfold Region.wanted
   simp only[D7n]
   cases hg:o'.guard with
   | none=>rfl
   | some g =>
    obtain⟨j,want⟩:=g
    rw[hg] at hgu
    simp only[dQ] at hgu
    simp only[oS]
    obtain⟨q1,q2⟩:=hidx j hgu
    have e1:(A8j ops ord)[ord.idxOf j]?=some (D7n ord (ops[j]?.getD default)):=by
     simp only[A8j,List.getElem?_toArray,List.getElem?_map]
     rw[gE (by omega)]
     simp
    have e2:ops[j]?=some ops[j]:=aE hgu
    rw[e2] at e1
    unfold yielded
    rw[e1,e2]; rfl
  ·have h3:=hea e' (by simpa using h1)
   obtain⟨q1,q2⟩:=hidx e'.on h3
   exact⟨{ e' with on:=ord.idxOf e'.on },by simp only[D7n,Array.mem_map]; exact⟨e',h1,rfl⟩,h2,q2.symm,by rw[hsz]; exact q1⟩
  ·simp only[D7n,Array.mem_map] at h1
   obtain⟨e',h3,rfl⟩:=h1
   have h4:=hea e' (by simpa using h3)
   exact⟨e',h3,h2,(hidx e'.on h4).2.symm⟩
theorem D2t{p:List Nat×Nat}(h:A9a ops=some p):Prm ops (A8j ops p.1) (fun k=>p.1.getD k 0):=by
 unfold A9a at h
 split at h
 ·simp only at h
  split at h
  ·rename_i hc
   rw[bA] at hc
   cases h
   exact E3s hc.1
  ·cases h
 ·cases h
theorem B2q(F7:P.follows .mixedOrders=true)(hr:SRec P A r)(hfr:FrOK r){U U':List AV}{B B':Heap}{D:List Nat}(h:B1m P r ops U B=some (U',B',D)){Z:Emb}{w:World}{t:Array Value}(hs:Sim A Z B w.heap)(hd:Dom Z B.length)(hg:GlobOK P Z)(hv:VRL Z U t.toList)(id:Nat)(b:Frame)(ds:List Deferred)(k:List Item)(cs:List Frame) :
  ∃ Z' w' t',Steps P (lone (F b t ds (.code (.region id ops true)::k)) cs w) (lone (F b t' ds k) cs w')/\VRL Z' U' t'.toList/\After A Z Z' B B' D w w':=by
 unfold B1m at h
 cases hp:A9a ops with
 | some p =>
  rw[hp] at h
  exact A3u F7 hr hfr h (fun _=>D2t hp) hs hd hg hv id b ds k cs
 | none =>
  rw[hp] at h
  simp only at h
  unfold B7h at h
  split at h
  ·exact B0t F7 hr hfr h hs hd hg hv id b ds k cs
  ·exact A3u F7 hr hfr h (fun hreg=>Prm.id hreg.back) hs hd hg hv id b ds k cs
end
end Go.Ad
