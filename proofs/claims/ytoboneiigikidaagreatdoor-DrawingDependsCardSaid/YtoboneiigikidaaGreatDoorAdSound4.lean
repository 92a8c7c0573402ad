/- A region whose order is open: whatever order its edges allow gives the same. -/
import Derived.Test.YtoboneiigikidaaGreatDoorAdSound3
namespace Go.Ad
section
variable {P:Program} {A:Amb} {r:Rec} {Z:Emb} {B:Heap} {w:World} {ops:Array Oper}
theorem D4i{f g:Operand->AV}{op:Op}(h:∀ x,x∈op.operands->f x=g x):A0k P f op=A0k P g op:=by
 cases op with
 | index t x i =>
  have h0:f x=g x:=h x (by simp[Op.operands])
  have h1:f i=g i:=h i (by simp[Op.operands])
  simp only[A0k,h0,h1]
 | slice t x lo hi mx =>
  cases mx with
  | some _=>rfl
  | none =>
   have h0:f x=g x:=h x (by simp[Op.operands])
   cases lo with
   | none =>
    cases hi with
    | none=>simp only[A0k,h0,Option.map_none]
    | some z =>
     have h2:f z=g z:=h z (by simp[Op.operands])
     simp only[A0k,h0,h2,Option.map_none,oS]
   | some y =>
    have h1:f y=g y:=h y (by simp[Op.operands])
    cases hi with
    | none=>simp only[A0k,h0,h1,Option.map_none,oS]
    | some z =>
     have h2:f z=g z:=h z (by simp[Op.operands])
     simp only[A0k,h0,h1,h2,oS]
 | binOp op t x y yt =>
  have h0:f x=g x:=h x (by simp[Op.operands])
  have h1:f y=g y:=h y (by simp[Op.operands])
  cases op<;>simp only[A0k,h0,h1]
 | _=>rfl
theorem C9s{f g:Operand->AV}{op:Op}(h:∀ x,x∈op.operands->f x=g x):M0 P f B op=M0 P g B op:=by
 cases op with
 | load t a =>
  have h0:f a=g a:=h a (by simp[Op.operands])
  simp only[M0,h0]
 | indexAddr t x i =>
  have h0:f x=g x:=h x (by simp[Op.operands])
  have h1:f i=g i:=h i (by simp[Op.operands])
  simp only[M0,h0,h1]
 | fieldAddr s p n =>
  have h0:f p=g p:=h p (by simp[Op.operands])
  simp only[M0,X7,h0]
 | nilCheck x =>
  have h0:f x=g x:=h x (by simp[Op.operands])
  simp only[M0,X7,h0]
 | call c =>
  obtain⟨callee,args,ats⟩:=c
  have h1:args.toList.map f=args.toList.map g:=List.map_congr_left fun x hx=>h x (by simp[Op.operands,Call.operands]; exact .inr (by simpa using hx))
  cases callee with
  | builtin b=>cases b<;>simp only[M0,X7,h1]
  | value x=>simp only[M0,X7]
  | invoke x m=>simp only[M0,X7]
 | _=>simp only[M0,X7]
theorem D4d{f g:Operand->AV}{op:Op}(h:∀ x,x∈op.operands->f x=g x):U4 P f B op=U4 P g B op:=by
 cases op with
 | box t x =>
  have h0:f x=g x:=h x (by simp[Op.operands])
  simp only[U4,h0]
 | load t a =>
  have h0:f a=g a:=h a (by simp[Op.operands])
  simp only[U4,h0]
 | store t a x =>
  have h0:f a=g a:=h a (by simp[Op.operands])
  have h1:f x=g x:=h x (by simp[Op.operands])
  simp only[U4,h0,h1]
 | indexAddr t x i =>
  have h0:f x=g x:=h x (by simp[Op.operands])
  have h1:f i=g i:=h i (by simp[Op.operands])
  simp only[U4,h0,h1]
 | makeSlice t x i =>
  have h0:f x=g x:=h x (by simp[Op.operands])
  have h1:f i=g i:=h i (by simp[Op.operands])
  simp only[U4,h0,h1]
 | convert s d x =>
  have h0:f x=g x:=h x (by simp[Op.operands])
  simp only[U4,h0]
 | slice t x lo hi mx =>
  have h0:f x=g x:=h x (by simp[Op.operands])
  have h1:lo.map f=lo.map g:=by cases lo with
   | none=>rfl
   | some a=>simp only[oS]; rw[h a (by simp[Op.operands])]
  have h2:hi.map f=hi.map g:=by cases hi with
   | none=>rfl
   | some a=>simp only[oS]; rw[h a (by simp[Op.operands])]
  cases mx<;>simp only[U4,h0,h1,h2]
 | call c =>
  obtain⟨callee,args,ats⟩:=c
  have h1:args.toList.map f=args.toList.map g:=List.map_congr_left fun x hx=>h x (by simp[Op.operands,Call.operands]; exact .inr (by simpa using hx))
  cases callee with
  | builtin b=>cases b<;>simp only[U4,h1]
  | value x=>simp only[U4]
  | invoke x m=>simp only[U4]
 | _=>simp only[U4]
theorem E2j{f g:Operand->AV}{op:Op}(h:∀ x,x∈op.operands->f x=g x):afz P f op=afz P g op:=by
 cases op with
 | load t a =>
  have h0:f a=g a:=h a (by simp[Op.operands])
  simp only[afz,h0]
 | fieldAddr t x i =>
  have h0:f x=g x:=h x (by simp[Op.operands])
  simp only[afz,h0]
 | nilCheck x =>
  have h0:f x=g x:=h x (by simp[Op.operands])
  simp only[afz,h0]
 | indexAddr t x i =>
  have h0:f x=g x:=h x (by simp[Op.operands])
  have h1:f i=g i:=h i (by simp[Op.operands])
  simp only[afz,h0,h1]
 | slice t x lo hi mx =>
  have h0:f x=g x:=h x (by simp[Op.operands])
  have h1:∀ a,lo=some a->f a=g a:=fun a ha=>h a (by simp[Op.operands,ha])
  have h2:∀ a,hi=some a->f a=g a:=fun a ha=>h a (by simp[Op.operands,ha])
  have e1:lo.map f=lo.map g:=by cases lo with
   | none=>rfl
   | some a=>simp only[oS,h1 a rfl]
  have e2:hi.map f=hi.map g:=by cases hi with
   | none=>rfl
   | some a=>simp only[oS,h2 a rfl]
  cases mx with
  | none=>simp only[afz,h0,e1,e2]
  | some _=>rfl
 | call c =>
  obtain⟨callee,args,ats⟩:=c
  have h1:args.toList.map f=args.toList.map g:=List.map_congr_left fun x hx=>h x (by simp[Op.operands,Call.operands]; exact .inr (by simpa using hx))
  cases callee with
  | builtin b=>cases b<;>simp only[afz,h1]
  | value x=>simp only[afz]
  | invoke x m=>simp only[afz]
 | _=>simp only[afz]
theorem E2s{f g:Operand->AV}{op:Op}(h:∀ x,x∈op.operands->f x=g x):atl P f B op=atl P g B op:=by
 cases op with
 | load t a =>
  have h0:f a=g a:=h a (by simp[Op.operands])
  simp only[atl,h0]
 | store t a x =>
  have h0:f a=g a:=h a (by simp[Op.operands])
  have h1:f x=g x:=h x (by simp[Op.operands])
  simp only[atl,h0,h1]
 | indexAddr t x i =>
  have h0:f x=g x:=h x (by simp[Op.operands])
  have h1:f i=g i:=h i (by simp[Op.operands])
  simp only[atl,h0,h1]
 | call c =>
  obtain⟨callee,args,ats⟩:=c
  have h1:args.toList.map f=args.toList.map g:=List.map_congr_left fun x hx=>h x (by simp[Op.operands,Call.operands]; exact .inr (by simpa using hx))
  cases callee with
  | builtin b=>cases b<;>simp only[atl,h1]
  | value x=>simp only[atl]
  | invoke x m=>simp only[atl]
 | _=>simp only[atl]
theorem E2o{f g:Operand->AV}{op:Op}(h:∀ x,x∈op.operands->f x=g x):aqs P f B op=aqs P g B op:=by
 cases op with
 | slice t x lo hi mx =>
  have h0:f x=g x:=h x (by simp[Op.operands])
  have h2:∀ a,hi=some a->f a=g a:=fun a ha=>h a (by simp[Op.operands,ha])
  cases lo<;>cases hi<;>cases mx<;>first | rfl | simp only[aqs,h0,h2 _ rfl]
 | indexAddr t x i =>
  have h0:f x=g x:=h x (by simp[Op.operands])
  have h1:f i=g i:=h i (by simp[Op.operands])
  simp only[aqs,h0,h1]
 | call c =>
  obtain⟨callee,args,ats⟩:=c
  have h1:args.toList.map f=args.toList.map g:=List.map_congr_left fun x hx=>h x (by simp[Op.operands,Call.operands]; exact .inr (by simpa using hx))
  cases callee with
  | builtin b=>cases b<;>simp only[aqs,h1]
  | value x=>simp only[aqs]
  | invoke x m=>simp only[aqs]
 | _=>simp only[aqs]
theorem E2f{f g:Operand->AV}{op:Op}(h:∀ x,x∈op.operands->f x=g x):afl P f B op=afl P g B op:=by
 cases op with
 | call c =>
  obtain⟨callee,args,ats⟩:=c
  have h1:args.toList.map f=args.toList.map g:=List.map_congr_left fun x hx=>h x (by simp[Op.operands,Call.operands]; exact .inr (by simpa using hx))
  cases callee with
  | builtin b=>cases b<;>simp only[afl,h1]
  | value x=>simp only[afl]
  | invoke x m=>simp only[afl]
 | _=>simp only[afl]
theorem E2h{f g:Operand->AV}{op:Op}(h:∀ x,x∈op.operands->f x=g x):afs P f B op=afs P g B op:=by
 cases op with
 | store t a x =>
  have h1:=h a (by simp[Op.operands])
  have h2:=h x (by simp[Op.operands])
  simp only[afs,h1,h2]
 | _=>simp only[afs]
theorem D4r{f g:Operand->AV}{op:Op}(h:∀ x,x∈op.operands->f x=g x):A2c P f B op=A2c P g B op:=by
 simp only[A2c,D4d (P:=P) (B:=B) h,C9s (P:=P) (B:=B) h,E2s (P:=P) (B:=B) h,E2o (P:=P) (B:=B) h,E2j (P:=P) h,E2f (P:=P) (B:=B) h,E2h (P:=P) (B:=B) h]
theorem B7z{f g:Operand->AV}{op:Op}(h:∀ x,x∈op.operands->f x=g x):N7 P r f B op=N7 P r g B op:=by
 have ha:=D4i (P:=P) h
 have hv:=D4r (P:=P) (B:=B) h
 cases op with
 | build t ps =>
  have:(ps.toList.map fun(i,x)=>(i,f x))=ps.toList.map fun(i,x)=>(i,g x):=List.map_congr_left fun p hp=>by
   obtain⟨i,x⟩:=p
   have hx:=h x (by simp only[Op.operands,List.mem_toArray,List.mem_map]; exact⟨(i,x),hp,rfl⟩)
   show(i,f x)=(i,g x)
   rw[hx]
  simp only[N7,aop,ha,hv,U8,this]
 | buildSlice t n ps =>
  have:(ps.toList.map fun(i,x)=>(i,f x))=ps.toList.map fun(i,x)=>(i,g x):=List.map_congr_left fun p hp=>by
   obtain⟨i,x⟩:=p
   have hx:=h x (by simp only[Op.operands,List.mem_toArray,List.mem_map]; exact⟨(i,x),hp,rfl⟩)
   show(i,f x)=(i,g x)
   rw[hx]
  simp only[N7,aop,ha,hv,U8,this]
 | makeFunc fn a b =>
  have h1:a.toList.map f=a.toList.map g:=List.map_congr_left fun x hx=>h x (by simp[Op.operands]; exact .inl (by simpa using hx))
  have h2:b.toList.map f=b.toList.map g:=List.map_congr_left fun x hx=>h x (by simp[Op.operands]; exact .inr (by simpa using hx))
  cases fn<;>simp only[N7,aop,ha,hv,U8,h1,h2]
 | slice t x lo hi mx =>
  have h0:f x=g x:=h x (by simp[Op.operands])
  have h1:lo.map f=lo.map g:=by cases lo with | none=>rfl | some y=>simp only[oS]; rw[h y (by simp[Op.operands])]
  have h2:hi.map f=hi.map g:=by cases hi with | none=>rfl | some y=>simp only[oS]; rw[h y (by simp[Op.operands])]
  have h3:mx.map f=mx.map g:=by cases mx with | none=>rfl | some y=>simp only[oS]; rw[h y (by simp[Op.operands])]
  simp only[N7,aop,ha,hv,U8,h0,h1,h2,h3]
 | call c =>
  obtain⟨callee,args,ats⟩:=c
  have h1:args.toList.map f=args.toList.map g:=List.map_congr_left fun x hx=>h x (by simp[Op.operands,Call.operands]; exact .inr (by simpa using hx))
  cases callee with
  | builtin b=>simp only[N7,aop,ha,hv,U8,h1]
  | value x =>
   have h2:f x=g x:=h x (by simp[Op.operands,Call.operands])
   simp only[N7,h1,h2]
  | invoke x m=>simp only[N7,aop,ha,hv,U8]
 | makeMap t o =>
  have h1:o.map f=o.map g:=by cases o with | none=>rfl | some y=>simp only[oS]; rw[h y (by simp[Op.operands])]
  simp only[N7,aop,ha,hv,U8,h1]
 | _ =>
  simp[Op.operands] at h
  first
   | (simp only[N7,aop,ha,hv,U8,h]; done)
   | (simp only[N7,aop,ha,hv,U8]; done)
   | (obtain⟨h1,h2⟩:=h; simp only[N7,aop,ha,hv,U8,h1,h2]; done)
   | (obtain⟨h1,h2,h3⟩:=h; simp only[N7,aop,ha,hv,U8,h1,h2,h3]; done)
theorem B1y:∀ (l:List Oper) (acc:List (List Nat)),(H9 l acc).take acc.length=acc
 | [],acc=>by simp[H9]
 | o::l,acc=>by
  simp only[H9]
  have:=B1y l (acc++[((o.after.toList.filter (Region.binds .any)).flatMap fun e=>e.on::acc.getD e.on []).eraseDups])
  have h2:=congrArg (List.take acc.length) this
  rw[List.take_take] at h2
  simp only[lA,List.length_cons,List.length_nil,Nat.zero_add] at h2
  rw[Nat.min_eq_left (by omega)] at h2
  rw[h2]; simp
theorem B4m:∀ (l:List Oper) (acc:List (List Nat)) (i:Nat) (o:Oper),l[i]?=some o ->
  (H9 l acc)[acc.length+i]?=some (((o.after.toList.filter (Region.binds .any)).flatMap fun e=>e.on::((H9 l acc).take (acc.length+i)).getD e.on []).eraseDups)
 | [],_,_,_,h=>by simp at h
 | o::l,acc,0,o',h=>by
  simp at h; subst h
  simp only[H9,Nat.add_zero]
  generalize hx:((o.after.toList.filter (Region.binds .any)).flatMap fun e=>e.on::acc.getD e.on []).eraseDups=x
  have ht:=B1y l (acc++[x])
  have h1:(H9 l (acc++[x])).take acc.length=acc:=by
   have h2:=congrArg (List.take acc.length) ht
   rw[List.take_take] at h2
   simp only[lA,List.length_cons,List.length_nil,Nat.zero_add] at h2
   rw[Nat.min_eq_left (by omega)] at h2
   rw[h2]; simp
  rw[h1,hx]
  have h3:(H9 l (acc++[x]))[acc.length]?=((H9 l (acc++[x])).take (acc++[x]).length)[acc.length]?:=by
   rw[tK]; simp
  rw[h3,ht]; simp
 | o::l,acc,i+1,o',h=>by
  simp at h
  simp only[H9]
  generalize hx:((o.after.toList.filter (Region.binds .any)).flatMap fun e=>e.on::acc.getD e.on []).eraseDups=x
  have:=B4m l (acc++[x]) i o' h
  have e:(acc++[x]).length+i=acc.length+(i+1):=by simp; omega
  rw[e] at this
  exact this
def Closed(ops:Array Oper)(S:Nat->Prop):Prop:=∀ i o,S i->ops[i]?=some o->∀ e,e∈o.after->Region.binds .any e=true->S e.on
theorem P7{S:Nat->Prop}(hS:Closed ops S)(hb:∀ i o,ops[i]?=some o->∀ e,e∈o.after->Region.binds .any e=true->e.on<i) :
  ∀ i o,ops[i]?=some o->(∀ e,e∈o.after->Region.binds .any e=true->S e.on)->∀ j,j∈(H9 ops.toList []).getD i []->S j:=by
 intro i
 induction i using Nat.strongRecOn with
 | _ i ih =>
  intro o ho hdir j hj
  have hg:=B4m ops.toList [] i o (by simpa using ho)
  simp only[List.length_nil,Nat.zero_add] at hg
  rw[gD,hg,Option.getD_some,List.mem_eraseDups,List.mem_flatMap] at hj
  obtain⟨e,he,hj⟩:=hj
  rw[List.mem_filter] at he
  have he1:e∈o.after:=by simpa using he.1
  have hlt:=hb i o ho e he1 he.2
  have hSe:=hdir e he1 he.2
  rw[List.mem_cons] at hj
  rcases hj with rfl | hj
  ·exact hSe
  ·have hlen:e.on<ops.size:=by have:=(gA.1 ho).1; omega
   have hoe:ops[e.on]?=some ops[e.on]:=aE hlen
   refine ih e.on hlt _ hoe (fun e' h1 h2=>hS e.on _ hSe hoe e' h1 h2) j ?_
   rw[gD,tK,if_pos hlt] at hj
   rw[gD]; exact hj
structure RegBase (ops:Array Oper) (m:Nat):Prop where
 back:∀ i o,ops[i]?=some o->∀ e,e∈o.after->Region.binds .any e=true->e.on<i
 dsts:∀ i j o q t,i<m->j<m->i≠j->ops[i]?=some o->ops[j]?=some q->q.dst=some t->o.dst≠some t
 sees:∀ i j o q t,i<m->j<m->i≠j->ops[i]?=some o->ops[j]?=some q->q.dst=some t->t∈looks ops o ->
  (j<i/\j∈(H9 ops.toList []).getD i []) \/ (i<j/\i∈(H9 ops.toList []).getD j [])
structure RegOK (ops:Array Oper) (m:Nat):Prop where
 back:∀ i o,ops[i]?=some o->∀ e,e∈o.after->Region.binds .any e=true->e.on<i
 tail:∀ i,m<=i->i<ops.size->∀ j,j<i->j∈(H9 ops.toList []).getD i []
 dsts:∀ i j o q t,i<m->j<m->i≠j->ops[i]?=some o->ops[j]?=some q->q.dst=some t->o.dst≠some t
 sees:∀ i j o q t,i<m->j<m->i≠j->ops[i]?=some o->ops[j]?=some q->q.dst=some t->t∈looks ops o ->
  (j<i/\j∈(H9 ops.toList []).getD i []) \/ (i<j/\i∈(H9 ops.toList []).getD j [])
theorem RegOK.base{m:Nat}(h:RegOK ops m):RegBase ops m:=⟨h.back,h.dsts,h.sees⟩
theorem D7r{m:Nat}(h:B4x ops m=true):RegOK ops m:=by
 unfold B4x at h
 simp only[List.all_eq_true,List.mem_range,Array.length_toList] at h
 have hget:∀ (i:Nat) (o:Oper),ops[i]?=some o->ops.toList[i]?=some o:=fun i o ho=>by simpa using ho
 refine⟨fun i o ho e he hb=>?_,fun i hm hlt j hj=>?_,fun i j o q t him hjm hne ho hq ht=>?_,fun i j o q t him hjm hne ho hq ht hl=>?_⟩
 ·have:=h i (gA.1 ho).1
  simp only[hget i o ho,bA,List.all_eq_true] at this
  have h1:=this.1.1 e (by simpa using he)
  simpa[hb] using h1
 ·have ho:ops[i]?=some ops[i]:=aE hlt
  have:=h i hlt
  simp only[hget i _ ho,bA,Bool.or_eq_true,List.all_eq_true,List.mem_range,dQ,List.contains_iff_mem] at this
  rcases this.1.2 with h1 | h1
  ·omega
  ·exact h1 j hj
 ·have:=h i (gA.1 ho).1
  simp only[hget i o ho,bA,Bool.or_eq_true,List.all_eq_true,List.mem_range,dQ,List.contains_iff_mem] at this
  rcases this.2 with h1 | h1
  ·omega
  ·have h2:=h1 j (gA.1 hq).1
   simp only[hget j q hq,ht,Bool.or_eq_true,bA,dQ,beq_iff_eq,bne_iff_ne] at h2
   rcases h2 with(h2 | h2) | h2
   ·omega
   ·exact(hne h2).elim
   ·exact h2.1
 ·have:=h i (gA.1 ho).1
  simp only[hget i o ho,bA,Bool.or_eq_true,List.all_eq_true,List.mem_range,dQ,List.contains_iff_mem] at this
  rcases this.2 with h1 | h1
  ·omega
  ·have h2:=h1 j (gA.1 hq).1
   simp only[hget j q hq,ht,Bool.or_eq_true,bA,dQ,beq_iff_eq,bne_iff_ne,List.contains_iff_mem] at h2
   rcases h2 with(h2 | h2) | h2
   ·omega
   ·exact(hne h2).elim
   ·rcases h2.2 with(h3 | h3) | h3
    ·simp at h3; exact(h3 hl).elim
    ·exact .inl h3
    ·exact .inr h3
end
end Go.Ad
