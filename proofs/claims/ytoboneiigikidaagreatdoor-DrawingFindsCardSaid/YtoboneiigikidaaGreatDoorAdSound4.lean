/- A region whose order is open: whatever order its edges allow gives the same. -/
import Derived.Test.YtoboneiigikidaaGreatDoorAdSound3
namespace Go.Ad
section
variable {P:Program} {A:Amb} {r:Rec} {Z:Emb} {B:Heap} {w:World} {ops:Array Oper}
theorem D4k{f g:Operand->AV}{op:Op}(h:∀ x,x∈op.operands->f x=g x):A0c P f op=A0c P g op:=by
 cases op with
 | index t x i =>
  have h0:f x=g x:=h x (by simp[Op.operands])
  have h1:f i=g i:=h i (by simp[Op.operands])
  simp only[A0c,h0,h1]
 | slice t x lo hi mx =>
  cases mx with
  | some _=>rfl
  | none =>
   have h0:f x=g x:=h x (by simp[Op.operands])
   cases lo with
   | none =>
    cases hi with
    | none=>simp only[A0c,h0,Option.map_none]
    | some z =>
     have h2:f z=g z:=h z (by simp[Op.operands])
     simp only[A0c,h0,h2,Option.map_none,oS]
   | some y =>
    have h1:f y=g y:=h y (by simp[Op.operands])
    cases hi with
    | none=>simp only[A0c,h0,h1,Option.map_none,oS]
    | some z =>
     have h2:f z=g z:=h z (by simp[Op.operands])
     simp only[A0c,h0,h1,h2,oS]
 | binOp op t x y yt =>
  have h0:f x=g x:=h x (by simp[Op.operands])
  have h1:f y=g y:=h y (by simp[Op.operands])
  cases op<;>simp only[A0c,h0,h1]
 | _=>rfl
theorem C9u{f g:Operand->AV}{op:Op}(h:∀ x,x∈op.operands->f x=g x):L8 P f B op=L8 P g B op:=by
 cases op with
 | load t a =>
  have h0:f a=g a:=h a (by simp[Op.operands])
  simp only[L8,h0]
 | indexAddr t x i =>
  have h0:f x=g x:=h x (by simp[Op.operands])
  have h1:f i=g i:=h i (by simp[Op.operands])
  simp only[L8,h0,h1]
 | fieldAddr s p n =>
  have h0:f p=g p:=h p (by simp[Op.operands])
  simp only[L8,V6,h0]
 | nilCheck x =>
  have h0:f x=g x:=h x (by simp[Op.operands])
  simp only[L8,V6,h0]
 | call c =>
  obtain⟨callee,args,ats⟩:=c
  have h1:args.toList.map f=args.toList.map g:=List.map_congr_left fun x hx=>h x (by simp[Op.operands,Call.operands]; exact .inr (by simpa using hx))
  cases callee with
  | builtin b=>cases b<;>simp only[L8,V6,h1]
  | value x=>simp only[L8,V6]
  | invoke x m=>simp only[L8,V6]
 | _=>simp only[L8,V6]
theorem D4f{f g:Operand->AV}{op:Op}(h:∀ x,x∈op.operands->f x=g x):Y1 P f B op=Y1 P g B op:=by
 cases op with
 | load t a =>
  have h0:f a=g a:=h a (by simp[Op.operands])
  simp only[Y1,h0]
 | indexAddr t x i =>
  have h0:f x=g x:=h x (by simp[Op.operands])
  have h1:f i=g i:=h i (by simp[Op.operands])
  simp only[Y1,h0,h1]
 | convert s d x =>
  have h0:f x=g x:=h x (by simp[Op.operands])
  simp only[Y1,h0]
 | call c =>
  obtain⟨callee,args,ats⟩:=c
  have h1:args.toList.map f=args.toList.map g:=List.map_congr_left fun x hx=>h x (by simp[Op.operands,Call.operands]; exact .inr (by simpa using hx))
  cases callee with
  | builtin b=>cases b<;>simp only[Y1,h1]
  | value x=>simp only[Y1]
  | invoke x m=>simp only[Y1]
 | _=>simp only[Y1]
theorem E2e{f g:Operand->AV}{op:Op}(h:∀ x,x∈op.operands->f x=g x):afz P f op=afz P g op:=by
 cases op with
 | load t a =>
  have h0:f a=g a:=h a (by simp[Op.operands])
  simp only[afz,h0]
 | fieldAddr t x i =>
  have h0:f x=g x:=h x (by simp[Op.operands])
  simp only[afz,h0]
 | nilCheck x =>
  have h0:f x=g x:=h x (by simp[Op.operands])
  simp only[afz,h0]
 | indexAddr t x i =>
  have h0:f x=g x:=h x (by simp[Op.operands])
  have h1:f i=g i:=h i (by simp[Op.operands])
  simp only[afz,h0,h1]
 | slice t x lo hi mx =>
  have h0:f x=g x:=h x (by simp[Op.operands])
  have h1:∀ a,lo=some a->f a=g a:=fun a ha=>h a (by simp[Op.operands,ha])
  have h2:∀ a,hi=some a->f a=g a:=fun a ha=>h a (by simp[Op.operands,ha])
  have e1:lo.map f=lo.map g:=by cases lo with
   | none=>rfl
   | some a=>simp only[oS,h1 a rfl]
  have e2:hi.map f=hi.map g:=by cases hi with
   | none=>rfl
   | some a=>simp only[oS,h2 a rfl]
  cases mx with
  | none=>simp only[afz,h0,e1,e2]
  | some _=>rfl
 | call c =>
  obtain⟨callee,args,ats⟩:=c
  have h1:args.toList.map f=args.toList.map g:=List.map_congr_left fun x hx=>h x (by simp[Op.operands,Call.operands]; exact .inr (by simpa using hx))
  cases callee with
  | builtin b=>cases b<;>simp only[afz,h1]
  | value x=>simp only[afz]
  | invoke x m=>simp only[afz]
 | _=>simp only[afz]
theorem E2a{f g:Operand->AV}{op:Op}(h:∀ x,x∈op.operands->f x=g x):afl P f B op=afl P g B op:=by
 cases op with
 | call c =>
  obtain⟨callee,args,ats⟩:=c
  have h1:args.toList.map f=args.toList.map g:=List.map_congr_left fun x hx=>h x (by simp[Op.operands,Call.operands]; exact .inr (by simpa using hx))
  cases callee with
  | builtin b=>cases b<;>simp only[afl,h1]
  | value x=>simp only[afl]
  | invoke x m=>simp only[afl]
 | _=>simp only[afl]
theorem E2c{f g:Operand->AV}{op:Op}(h:∀ x,x∈op.operands->f x=g x):afs P f B op=afs P g B op:=by
 cases op with
 | store t a x =>
  have h1:=h a (by simp[Op.operands])
  have h2:=h x (by simp[Op.operands])
  simp only[afs,h1,h2]
 | _=>simp only[afs]
theorem D4s{f g:Operand->AV}{op:Op}(h:∀ x,x∈op.operands->f x=g x):A1l P f B op=A1l P g B op:=by
 simp only[A1l,D4f (P:=P) (B:=B) h,C9u (P:=P) (B:=B) h,E2e (P:=P) h,E2a (P:=P) (B:=B) h,E2c (P:=P) (B:=B) h]
theorem B7o{f g:Operand->AV}{op:Op}(h:∀ x,x∈op.operands->f x=g x):M5 P r f B op=M5 P r g B op:=by
 have ha:=D4k (P:=P) h
 have hv:=D4s (P:=P) (B:=B) h
 cases op with
 | build t ps =>
  have:(ps.toList.map fun(i,x)=>(i,f x))=ps.toList.map fun(i,x)=>(i,g x):=List.map_congr_left fun p hp=>by
   obtain⟨i,x⟩:=p
   have hx:=h x (by simp only[Op.operands,List.mem_toArray,List.mem_map]; exact⟨(i,x),hp,rfl⟩)
   show(i,f x)=(i,g x)
   rw[hx]
  simp only[M5,aop,ha,hv,R4,this]
 | buildSlice t n ps =>
  have:(ps.toList.map fun(i,x)=>(i,f x))=ps.toList.map fun(i,x)=>(i,g x):=List.map_congr_left fun p hp=>by
   obtain⟨i,x⟩:=p
   have hx:=h x (by simp only[Op.operands,List.mem_toArray,List.mem_map]; exact⟨(i,x),hp,rfl⟩)
   show(i,f x)=(i,g x)
   rw[hx]
  simp only[M5,aop,ha,hv,R4,this]
 | makeFunc fn a b =>
  have h1:a.toList.map f=a.toList.map g:=List.map_congr_left fun x hx=>h x (by simp[Op.operands]; exact .inl (by simpa using hx))
  have h2:b.toList.map f=b.toList.map g:=List.map_congr_left fun x hx=>h x (by simp[Op.operands]; exact .inr (by simpa using hx))
  cases fn<;>simp only[M5,aop,ha,hv,R4,h1,h2]
 | slice t x lo hi mx =>
  have h0:f x=g x:=h x (by simp[Op.operands])
  have h1:lo.map f=lo.map g:=by cases lo with | none=>rfl | some y=>simp only[oS]; rw[h y (by simp[Op.operands])]
  have h2:hi.map f=hi.map g:=by cases hi with | none=>rfl | some y=>simp only[oS]; rw[h y (by simp[Op.operands])]
  have h3:mx.map f=mx.map g:=by cases mx with | none=>rfl | some y=>simp only[oS]; rw[h y (by simp[Op.operands])]
  simp only[M5,aop,ha,hv,R4,h0,h1,h2,h3]
 | call c =>
  obtain⟨callee,args,ats⟩:=c
  have h1:args.toList.map f=args.toList.map g:=List.map_congr_left fun x hx=>h x (by simp[Op.operands,Call.operands]; exact .inr (by simpa using hx))
  cases callee with
  | builtin b=>simp only[M5,aop,ha,hv,R4,h1]
  | value x =>
   have h2:f x=g x:=h x (by simp[Op.operands,Call.operands])
   simp only[M5,h1,h2]
  | invoke x m=>simp only[M5,aop,ha,hv,R4]
 | makeMap t o =>
  have h1:o.map f=o.map g:=by cases o with | none=>rfl | some y=>simp only[oS]; rw[h y (by simp[Op.operands])]
  simp only[M5,aop,ha,hv,R4,h1]
 | _ =>
  simp[Op.operands] at h
  first
   | (simp only[M5,aop,ha,hv,R4,h]; done)
   | (simp only[M5,aop,ha,hv,R4]; done)
   | (obtain⟨h1,h2⟩:=h; simp only[M5,aop,ha,hv,R4,h1,h2]; done)
   | (obtain⟨h1,h2,h3⟩:=h; simp only[M5,aop,ha,hv,R4,h1,h2,h3]; done)
theorem B1t:∀ (l:List Oper) (acc:List (List Nat)),(I4 l acc).take acc.length=acc
 | [],acc=>by simp[I4]
 | o::l,acc=>by
  simp only[I4]
  have:=B1t l (acc++[((o.after.toList.filter (Region.binds .any)).flatMap fun e=>e.on::acc.getD e.on []).eraseDups])
  have h2:=congrArg (List.take acc.length) this
  rw[List.take_take] at h2
  simp only[lA,List.length_cons,List.length_nil,Nat.zero_add] at h2
  rw[Nat.min_eq_left (by omega)] at h2
  rw[h2]; simp
theorem B4i:∀ (l:List Oper) (acc:List (List Nat)) (i:Nat) (o:Oper),l[i]?=some o ->
  (I4 l acc)[acc.length+i]?=some (((o.after.toList.filter (Region.binds .any)).flatMap fun e=>e.on::((I4 l acc).take (acc.length+i)).getD e.on []).eraseDups)
 | [],_,_,_,h=>by simp at h
 | o::l,acc,0,o',h=>by
  simp at h; subst h
  simp only[I4,Nat.add_zero]
  generalize hx:((o.after.toList.filter (Region.binds .any)).flatMap fun e=>e.on::acc.getD e.on []).eraseDups=x
  have ht:=B1t l (acc++[x])
  have h1:(I4 l (acc++[x])).take acc.length=acc:=by
   have h2:=congrArg (List.take acc.length) ht
   rw[List.take_take] at h2
   simp only[lA,List.length_cons,List.length_nil,Nat.zero_add] at h2
   rw[Nat.min_eq_left (by omega)] at h2
   rw[h2]; simp
  rw[h1,hx]
  have h3:(I4 l (acc++[x]))[acc.length]?=((I4 l (acc++[x])).take (acc++[x]).length)[acc.length]?:=by
   rw[tK]; simp
  rw[h3,ht]; simp
 | o::l,acc,i+1,o',h=>by
  simp at h
  simp only[I4]
  generalize hx:((o.after.toList.filter (Region.binds .any)).flatMap fun e=>e.on::acc.getD e.on []).eraseDups=x
  have:=B4i l (acc++[x]) i o' h
  have e:(acc++[x]).length+i=acc.length+(i+1):=by simp; omega
  rw[e] at this
  exact this
def Closed(ops:Array Oper)(S:Nat->Prop):Prop:=∀ i o,S i->ops[i]?=some o->∀ e,e∈o.after->Region.binds .any e=true->S e.on
theorem O3{S:Nat->Prop}(hS:Closed ops S)(hb:∀ i o,ops[i]?=some o->∀ e,e∈o.after->Region.binds .any e=true->e.on<i) :
  ∀ i o,ops[i]?=some o->(∀ e,e∈o.after->Region.binds .any e=true->S e.on)->∀ j,j∈(I4 ops.toList []).getD i []->S j:=by
 intro i
 induction i using Nat.strongRecOn with
 | _ i ih =>
  intro o ho hdir j hj
  have hg:=B4i ops.toList [] i o (by simpa using ho)
  simp only[List.length_nil,Nat.zero_add] at hg
  rw[gD,hg,Option.getD_some,List.mem_eraseDups,List.mem_flatMap] at hj
  obtain⟨e,he,hj⟩:=hj
  rw[List.mem_filter] at he
  have he1:e∈o.after:=by simpa using he.1
  have hlt:=hb i o ho e he1 he.2
  have hSe:=hdir e he1 he.2
  rw[List.mem_cons] at hj
  rcases hj with rfl | hj
  ·exact hSe
  ·have hlen:e.on<ops.size:=by have:=(gA.1 ho).1; omega
   have hoe:ops[e.on]?=some ops[e.on]:=aE hlen
   refine ih e.on hlt _ hoe (fun e' h1 h2=>hS e.on _ hSe hoe e' h1 h2) j ?_
   rw[gD,tK,if_pos hlt] at hj
   rw[gD]; exact hj
structure RegBase (ops:Array Oper) (m:Nat):Prop where
 back:∀ i o,ops[i]?=some o->∀ e,e∈o.after->Region.binds .any e=true->e.on<i
 dsts:∀ i j o q t,i<m->j<m->i≠j->ops[i]?=some o->ops[j]?=some q->q.dst=some t->o.dst≠some t
 sees:∀ i j o q t,i<m->j<m->i≠j->ops[i]?=some o->ops[j]?=some q->q.dst=some t->t∈looks ops o ->
  (j<i/\j∈(I4 ops.toList []).getD i []) \/ (i<j/\i∈(I4 ops.toList []).getD j [])
structure RegOK (ops:Array Oper) (m:Nat):Prop where
 back:∀ i o,ops[i]?=some o->∀ e,e∈o.after->Region.binds .any e=true->e.on<i
 tail:∀ i,m<=i->i<ops.size->∀ j,j<i->j∈(I4 ops.toList []).getD i []
 dsts:∀ i j o q t,i<m->j<m->i≠j->ops[i]?=some o->ops[j]?=some q->q.dst=some t->o.dst≠some t
 sees:∀ i j o q t,i<m->j<m->i≠j->ops[i]?=some o->ops[j]?=some q->q.dst=some t->t∈looks ops o ->
  (j<i/\j∈(I4 ops.toList []).getD i []) \/ (i<j/\i∈(I4 ops.toList []).getD j [])
theorem RegOK.base{m:Nat}(h:RegOK ops m):RegBase ops m:=⟨h.back,h.dsts,h.sees⟩
theorem D7m{m:Nat}(h:B4u ops m=true):RegOK ops m:=by
 unfold B4u at h
 simp only[List.all_eq_true,List.mem_range,Array.length_toList] at h
 have hget:∀ (i:Nat) (o:Oper),ops[i]?=some o->ops.toList[i]?=some o:=fun i o ho=>by simpa using ho
 refine⟨fun i o ho e he hb=>?_,fun i hm hlt j hj=>?_,fun i j o q t him hjm hne ho hq ht=>?_,fun i j o q t him hjm hne ho hq ht hl=>?_⟩
 ·have:=h i (gA.1 ho).1
  simp only[hget i o ho,bA,List.all_eq_true] at this
  have h1:=this.1.1 e (by simpa using he)
  simpa[hb] using h1
 ·have ho:ops[i]?=some ops[i]:=aE hlt
  have:=h i hlt
  simp only[hget i _ ho,bA,Bool.or_eq_true,List.all_eq_true,List.mem_range,dQ,List.contains_iff_mem] at this
  rcases this.1.2 with h1 | h1
  ·omega
  ·exact h1 j hj
 ·have:=h i (gA.1 ho).1
  simp only[hget i o ho,bA,Bool.or_eq_true,List.all_eq_true,List.mem_range,dQ,List.contains_iff_mem] at this
  rcases this.2 with h1 | h1
  ·omega
  ·have h2:=h1 j (gA.1 hq).1
   simp only[hget j q hq,ht,Bool.or_eq_true,bA,dQ,beq_iff_eq,bne_iff_ne] at h2
   rcases h2 with(h2 | h2) | h2
   ·omega
   ·exact(hne h2).elim
   ·exact h2.1
 ·have:=h i (gA.1 ho).1
  simp only[hget i o ho,bA,Bool.or_eq_true,List.all_eq_true,List.mem_range,dQ,List.contains_iff_mem] at this
  rcases this.2 with h1 | h1
  ·omega
  ·have h2:=h1 j (gA.1 hq).1
   simp only[hget j q hq,ht,Bool.or_eq_true,bA,dQ,beq_iff_eq,bne_iff_ne,List.contains_iff_mem] at h2
   rcases h2 with(h2 | h2) | h2
   ·omega
   ·exact(hne h2).elim
   ·rcases h2.2 with(h3 | h3) | h3
    ·simp at h3; exact(h3 hl).elim
    ·exact .inl h3
    ·exact .inr h3
end
end Go.Ad
