/- States by patterns: what is not known of a state are its leaves. A piece of code as a step from leaves to leaves, rules for loops, hooks of blocks, contracts of functions. -/
import Derived.Test.YtoboneiigikidaaGreatDoorAdLoop
import Derived.Test.YtoboneiigikidaaGreatDoorAdPrim
noncomputable section
namespace Go.Ad
inductive Lf where
 | i (n:Int)
 | b (b:Bool)
 | s (s:List UInt8)
 | n (n:Nat)
 | v (a:AV)
 | r (row:Nat->List AV)
 | o (o:AObj)
 | f (f:Nat->Int)
 | fr (row:Nat->List FV)
mutual
def R5:AV->AV->Bool
 | .bad,y=>match y with | .bad=>true | _=>false
 | .bool a,y=>match y with | .bool b=>a==b | _=>false
 | .int k a,y=>match y with | .int k' b=>decide (k=k')&&decide (a=b) | _=>false
 | .str a,y=>match y with | .str b=>decide (a=b) | _=>false
 | .ptr a,y=>match y with | .ptr b=>decide (a=b) | _=>false
 | .slice a n c,y=>match y with | .slice b m d=>decide (a=b)&&(decide (n=m)&&decide (c=d)) | _=>false
 | .map a,y=>match y with | .map b=>decide (a=b) | _=>false
 | .func f xs ys,y=>match y with
  | .func g xs' ys'=>(match f,g with
   | .func f,.func g=>decide (f=g)
   | .yield f,.yield g=>decide (f=g)
   | _,_=>false)&&(B2s xs xs'&&B2s ys ys')
  | _=>false
 | .nilFunc,y=>match y with | .nilFunc=>true | _=>false
 | .nilIface,y=>match y with | .nilIface=>true | _=>false
 | .agg xs,y=>match y with | .agg ys=>B2s xs ys | _=>false
 | .tuple xs,y=>match y with | .tuple ys=>B2s xs ys | _=>false
 | _,_=>false
def B2s:List AV->List AV->Bool
 | [],y=>match y with | []=>true | _=>false
 | x::xs,y=>match y with | y::ys=>R5 x y&&B2s xs ys | _=>false
end
mutual
theorem C0a:∀ {a b:AV},R5 a b=true->a=b
 | .bad,b,h=>by cases b<;>simp_all[R5]
 | .bool _,b,h=>by cases b<;>simp_all[R5]
 | .int _ _,b,h=>by cases b<;>simp_all[R5]
 | .str _,b,h=>by cases b<;>simp_all[R5]
 | .ptr _,b,h=>by cases b<;>simp_all[R5]
 | .slice _ _ _,b,h=>by cases b<;>simp_all[R5]
 | .map _,b,h=>by cases b<;>simp_all[R5]
 | .func f xs ys,b,h=>by
  cases b with
  | func g xs' ys' =>
   simp only[R5,bA] at h
   obtain⟨h1,h2,h3⟩:=h
   rw[A8k h2,A8k h3]
   split at h1
   ·rw[of_decide_eq_true h1]
   ·rw[of_decide_eq_true h1]
   ·cases h1
  | _=>simp[R5] at h
 | .nilFunc,b,h=>by cases b<;>simp_all[R5]
 | .nilIface,b,h=>by cases b<;>simp_all[R5]
 | .agg xs,b,h=>by
  cases b with
  | agg ys=>simp only[R5] at h; rw[A8k h]
  | _=>simp[R5] at h
 | .tuple xs,b,h=>by
  cases b with
  | tuple ys=>simp only[R5] at h; rw[A8k h]
  | _=>simp[R5] at h
 | .rng ..,b,h=>by simp[R5] at h
 | .sint ..,b,h=>by simp[R5] at h
 | .sbool _,b,h=>by simp[R5] at h
 | .sstr _,b,h=>by simp[R5] at h
 | .lstr ..,b,h=>by simp[R5] at h
 | .sslice ..,b,h=>by simp[R5] at h
 | .aslc ..,b,h=>by simp[R5] at h
 | .sptr ..,b,h=>by simp[R5] at h
 | .dptr ..,b,h=>by simp[R5] at h
 | .flist ..,b,h=>by simp[R5] at h
 | .fptr ..,b,h=>by simp[R5] at h
 | .iface ..,b,h=>by simp[R5] at h
theorem A8k:∀ {a b:List AV},B2s a b=true->a=b
 | [],b,h=>by cases b<;>simp_all[B2s]
 | x::xs,b,h=>by
  cases b with
  | nil=>simp[B2s] at h
  | cons y ys =>
   simp only[B2s,bA] at h
   rw[C0a h.1,A8k h.2]
end
inductive Pt where
 | drop
 | is (a:AV)
 | int (k:IntKind)
 | rng (k:IntKind) (lo hi:Int)
 | bool
 | str
 /-- A list in block `b`,from its first row on; nil is the empty list. -/
 | list (b:Nat)
 /-- A row of numbers in block `b`,from the first cell on. -/
 | row (b:Nat)
 /-- A number,a truth value that the kernel does not look at: they stay as they are. -/
 | sint (k:IntKind)
 | sbool
 /-- A list that never changes; nil is the empty list. -/
 | flist (es:Nat)
 | any
def Pt.take:Pt->AV->Option (List Lf)
 | .drop,_=>some []
 | .is a,x=>match R5 a x with
  | true=>some []
  | false=>none
 | .int k,x=>match Q9 x with
  | some (k',n)=>if k=k' then some [.i n] else none
  | none=>none
 | .rng k lo hi,.int k' n=>if k=k'/\lo<=n/\n<=hi then some [.i n] else none
 | .rng k lo hi,.rng k' n a b=>if k=k'/\lo<=a/\b<=hi then some [.i n] else none
 | .bool,x=>match sbool? x with
  | some b=>some [.b b]
  | none=>none
 | .str,x=>match sstr? x with
  | some s=>some [.s s]
  | none=>none
 | .list b,.sslice b' 0 n=>if b'=b then some [.n n] else none
 | .list _,.slice none _ _=>some [.n 0]
 | .row b,.aslc b' 0 n=>if b'=b then some [.n n] else none
 | .sint k,.sint k' n=>if k=k' then some [.i n] else none
 | .sbool,.sbool b=>some [.b b]
 | .list b,.slice (some (b',0)) n _=>if b'=b/\0<n then some [.n n] else none
 | .row b,.slice (some (b',0)) n _=>if b'=b then some [.n n] else none
 | .flist es,.flist n g es'=>if es'=es then some [.n n,.fr g] else none
 | .flist _,.slice none _ _=>some [.n 0,.fr fun _=>[]]
 | .any,x=>some [.v x]
 | _,_=>none
def Pt.mk:Pt->List Lf->AV×List Lf
 | .drop,ls=>(.bad,ls)
 | .is a,ls=>(a,ls)
 | .int k,.i n::r=>(.sint k n,r)
 | .rng k lo hi,.i n::r=>(.rng k n lo hi,r)
 | .bool,.b b::r=>(.sbool b,r)
 | .str,.s s::r=>(.sstr s,r)
 | .list b,.n n::r=>(.sslice b 0 n,r)
 | .row b,.n n::r=>(.aslc b 0 n,r)
 | .sint k,.i n::r=>(.sint k n,r)
 | .sbool,.b b::r=>(.sbool b,r)
 | .flist es,.n n::.fr g::r=>(.flist n g es,r)
 | .any,.v a::r=>(a,r)
 | _,ls=>(.bad,ls)
def Pt.same:Pt->Bool
 | .is _ | .any | .sint _ | .sbool=>true
 | _=>false
theorem Pt.take_same{p:Pt}{a:AV}{l:List Lf}(h:p.take a=some l)(hs:p.same=true)(r:List Lf):p.mk (l++r)=(a,r):=by
 cases p with
 | is b =>
  simp only[Pt.take] at h
  split at h
  ·rename_i h1; cases h; rw[C0a h1]; rfl
  ·cases h
 | any=>simp only[Pt.take,sI] at h; subst h; rfl
 | sint k =>
  unfold Pt.take at h
  split at h<;>first | (cases ‹Pt.sint _=_›) | skip
  all_goals first | (cases h; done) | skip
  all_goals (split at h<;>first | (cases h; done) | (rename_i e; subst e; cases h; rfl))
 | sbool =>
  unfold Pt.take at h
  split at h<;>first | (cases ‹Pt.sbool=_›) | skip
  all_goals first | (cases h; rfl) | (cases h; done)
 | _=>cases hs
theorem Pt.take_mk{p:Pt}{a:AV}{l:List Lf}(h:p.take a=some l)(r:List Lf):∃ a',p.mk (l++r)=(a',r)/\∀ Z v,VR Z a v->VR Z a' v:=by
 unfold Pt.take at h
 split at h
 ·cases h; exact⟨.bad,rfl,fun _ _ _=>by simp only[VR]⟩
 ·split at h
  ·rename_i h1; cases h; rw[C0a h1]; exact⟨_,rfl,fun _ _ h=>h⟩
  ·cases h
 ·split at h
  ·rename_i h1
   split at h
   ·rename_i e; subst e; cases h; exact⟨_,rfl,fun Z v hv=>by simp only[VR]; exact L6 h1 hv⟩
   ·cases h
  ·cases h
 ·split at h
  ·rename_i e; obtain⟨rfl,e1,e2⟩:=e; cases h; exact⟨_,rfl,fun Z v hv=>by simp only[VR] at hv ⊢; exact⟨hv,e1,e2⟩⟩
  ·cases h
 ·split at h
  ·rename_i e; obtain⟨rfl,e1,e2⟩:=e; cases h; exact⟨_,rfl,fun Z v hv=>by simp only[VR] at hv ⊢; exact⟨hv.1,by omega,by omega⟩⟩
  ·cases h
 ·split at h
  ·rename_i h1; cases h; exact⟨_,rfl,fun Z v hv=>by simp only[VR]; exact A5o h1 hv⟩
  ·cases h
 ·split at h
  ·rename_i h1; cases h; exact⟨_,rfl,fun Z v hv=>by simp only[VR]; exact N8 h1 hv⟩
  ·cases h
 ·split at h
  ·rename_i e; subst e; cases h; exact⟨_,rfl,fun _ _ h=>h⟩
  ·cases h
 ·cases h; exact⟨_,rfl,fun Z v hv=>by simp only[VR] at hv; rw[hv.2.2]; simp[VR]⟩
 ·split at h
  ·rename_i e; subst e; cases h; exact⟨_,rfl,fun _ _ h=>h⟩
  ·cases h
 ·split at h
  ·rename_i e; subst e; cases h; exact⟨_,rfl,fun _ _ h=>h⟩
  ·cases h
 ·cases h; exact⟨_,rfl,fun _ _ h=>h⟩
 ·split at h
  ·rename_i e
   obtain⟨rfl,e1⟩:=e
   cases h
   refine⟨_,rfl,fun Z v hv=>?_⟩
   simp only[VR] at hv ⊢
   obtain⟨l,cap,off,h1,h2,h3,h4,h5,h6,h7⟩:=hv
   have hoff:off=l.d:=by omega
   subst hoff
   exact .inl ⟨e1,l,cap,h1,by omega,by omega,by simp only[Nat.zero_mul,Nat.add_zero]; exact h7⟩
  ·cases h
 ·split at h
  ·rename_i e
   subst e
   cases h
   refine⟨_,rfl,fun Z v hv=>?_⟩
   simp only[VR] at hv ⊢
   obtain⟨l,cap,off,h1,h2,h3,h4,h5,h6,h7⟩:=hv
   exact⟨l,cap,off,h1,lR _,by omega,by omega,h5,h6,h7⟩
  ·cases h
 ·split at h
  ·rename_i e; subst e; cases h; exact⟨_,rfl,fun _ _ h=>h⟩
  ·cases h
 ·cases h; exact⟨_,rfl,fun Z v hv=>by simp only[VR] at hv; rw[hv.2.2]; simp[VR,FVR]⟩
 ·cases h; exact⟨_,rfl,fun _ _ h=>h⟩
 ·cases h
def A6z:List Pt->List AV->Option (List Lf)
 | [],[]=>some []
 | p::ps,a::as=>match p.take a,A6z ps as with
  | some l,some r=>some (l++r)
  | _,_=>none
 | _,_=>none
def mkT:List Pt->List Lf->List AV×List Lf
 | [],ls=>([],ls)
 | p::ps,ls=>match p.mk ls with
  | (a,r)=>match mkT ps r with
   | (as,r')=>(a::as,r')
theorem A4a:∀ {ps:List Pt} {as:List AV} {l:List Lf},A6z ps as=some l->∀ r:List Lf,∃ as',mkT ps (l++r)=(as',r)/\as'.length=as.length /\
  ∀ (i:Nat) (a':AV),as'[i]?=some a'->∃ a,as[i]?=some a/\∀ Z v,VR Z a v->VR Z a' v
 | [],[],_,h,r=>by cases h; exact⟨[],rfl,rfl,fun i a' h=>by simp at h⟩
 | [],_::_,_,h,_=>by cases h
 | _::_,[],_,h,_=>by cases h
 | p::ps,a::as,_,h,r=>by
  simp only[A6z] at h
  split at h
  ·rename_i l1 l2 h1 h2
   cases h
   obtain⟨a',p1,p2⟩:=Pt.take_mk h1 (l2++r)
   obtain⟨as',q1,q2,q3⟩:=A4a h2 r
   refine⟨a'::as',by simp only[mkT,List.append_assoc,p1,q1],by simp[q2],fun i x hx=>?_⟩
   cases i with
   | zero=>cases hx; exact⟨a,rfl,p2⟩
   | succ i=>exact q3 i x hx
  ·cases h
theorem B1a:∀ {ps:List Pt} {as:List AV} {l:List Lf},A6z ps as=some l->ps.all Pt.same=true->∀ r:List Lf,mkT ps (l++r)=(as,r)
 | [],[],_,h,_,r=>by cases h; rfl
 | [],_::_,_,h,_,_=>by cases h
 | _::_,[],_,h,_,_=>by cases h
 | p::ps,a::as,_,h,hs,r=>by
  simp only[List.all_cons,bA] at hs
  simp only[A6z] at h
  split at h
  ·rename_i l1 l2 h1 h2
   cases h
   simp only[mkT,List.append_assoc,Pt.take_same h1 hs.1 (l2++r),B1a h2 hs.2 r]
  ·cases h
theorem C3p{ps:List Pt}{as:List AV}{l r:List Lf}(h:A6z ps as=some l){Z:Emb}{vs:List Value}(hv:VRL Z as vs):VRL Z (mkT ps (l++r)).1 vs:=by
 obtain⟨as',h1,h2,h3⟩:=A4a h r
 rw[h1]
 exact VRL.weaken h2 (fun i a' hi=>let ⟨a,p,q⟩:=h3 i a' hi; ⟨a,p,fun v=>q Z v⟩) hv
def Pt.plain:Pt->Bool
 | .drop | .int _ | .rng .. | .bool | .str | .sint _ | .sbool=>true
 | _=>false
theorem Pt.mk_plain{p:Pt}(h:p.plain=true)(ls:List Lf):A0h (p.mk ls).1=true:=by
 cases p<;>simp only[Pt.plain,reduceCtorEq] at h<;>(unfold Pt.mk; split<;>first | rfl | (rename_i e; cases e) | (rename_i e _; cases e))
theorem C3e:∀ {ps:List Pt} (_:ps.all Pt.plain=true) (ls:List Lf),(mkT ps ls).1.all A0h=true
 | [],_,_=>rfl
 | p::ps,h,ls=>by
  simp only[List.all_cons,bA] at h
  simp only[mkT,List.all_cons,bA]
  exact⟨Pt.mk_plain h.1 ls,C3e h.2 _⟩
inductive OP where
 | any
 | dead
 | cells (ps:List Pt) (es:Nat) (rw:Bool) (ty:TypeId)
 | vec (es:Nat) (ty:TypeId)
 /-- A list of rows,or a block of one row. -/
 | vec1 (es:Nat) (ty:TypeId)
 /-- The bytes of a text. -/
 | text (ty:TypeId)
 /-- A list of rows,whatever its type. -/
 | vecT (es:Nat)
 /-- Known cells and a row of numbers. -/
 | arr (ps:List Pt) (k:IntKind) (ty:TypeId)
 /-- A list of rows,and known cells behind them; or known cells alone. -/
 | tail (es:Nat) (ps:List Pt) (ty:TypeId)
def OP.same:OP->Bool
 | .any | .dead | .vec .. | .text _ | .vecT _=>true
 | .cells ps ..=>ps.all Pt.same
 | .arr ps ..=>ps.all Pt.same
 | _=>false
def OP.take:OP->AObj->Option (List Lf)
 | .any,o=>some [.o o]
 | .dead,.dead=>some []
 | .cells ps es rw ty,.cells c es' rw' ty'=>if es'=es/\rw'=rw/\ty'=ty then A6z ps c else none
 | .vec es ty,.vec n row es' ty'=>if es'=es/\ty'=ty then some [.n n,.r row] else none
 | .text ty,.text s ty'=>if ty'=ty then some [.s s] else none
 | .vecT es,.vec n row es' ty'=>if es'=es then some [.n n,.r row,.n ty'] else none
 | .arr ps k ty,.arr pre k' m f ty'=>if k'=k/\ty'=ty/\ps.all Pt.plain=true then(match A6z ps pre with
  | some l=>some (l++[.n m,.f f])
  | none=>none) else none
 | .vec1 es ty,o=>match HW.on .vec1 o with
  | some (.vec n row es' ty')=>if es'=es/\ty'=ty then some [.n n,.r row] else none
  | _=>none
 | .tail es ps ty,.tail n row es' tl ty'=>if es'=es/\ty'=ty then(match A6z ps tl with
  | some l=>some (.n n::.r row::l)
  | none=>none) else none
 | .tail es ps ty,.cells c es' rw ty'=>if 0<es/\es'=es/\rw=true/\ty'=ty then(match A6z ps c with
  | some l=>some (.n 0::.r (fun _=>[])::l)
  | none=>none) else none
 | _,_=>none
def OP.mk:OP->List Lf->AObj×List Lf
 | .any,.o o::r=>(o,r)
 | .dead,ls=>(.dead,ls)
 | .cells ps es rw ty,ls=>match mkT ps ls with
  | (c,r)=>(.cells c es rw ty,r)
 | .vec es ty,.n n::.r row::r=>(.vec n row es ty,r)
 | .vec1 es ty,.n n::.r row::r=>(.vec n row es ty,r)
 | .text ty,.s s::r=>(.text s ty,r)
 | .vecT es,.n n::.r row::.n ty::r=>(.vec n row es ty,r)
 | .arr ps k ty,ls=>match mkT ps ls with
  | (c,.n m::.f f::r)=>(.arr c k m f ty,r)
  | _=>(.dead,ls)
 | .tail es ps ty,.n n::.r row::ls=>match mkT ps ls with
  | (c,r)=>(.tail n row es c ty,r)
 | _,ls=>(.dead,ls)
theorem OR.tail0{Z:Emb}{h:Array Obj}{l:Loc}{c:List AV}{es:Nat}{ty:TypeId}(he:0<es)(ho:OR Z h l (.cells c es true ty)):OR Z h l (.tail 0 (fun _=>[]) es c ty):=by
 have e:flat 0 (fun _=>([]:List AV))++c=c:=by simp[flat]
 have h2:OR Z h l (.cells (flat 0 (fun _=>[])++c) es true ty):=by rw[e]; exact ho
 exact⟨⟨he,fun i hi=>by omega⟩,h2⟩
structure OLe (o o':AObj):Prop where
 own:o'.own=true->o.own=true
 live:o'.live=true->o.live=true
 or:∀ (Z:Emb) (h:Array Obj) (l:Loc),OR Z h l o->OR Z h l o'
theorem OLe.refl{o:AObj}:OLe o o:=⟨fun h=>h,fun h=>h,fun _ _ _ h=>h⟩
theorem OP.take_mk{p:OP}{o:AObj}{l:List Lf}(h:p.take o=some l)(r:List Lf):∃ o',p.mk (l++r)=(o',r)/\OLe o o'/\(p.same=true->o'=o):=by
 unfold OP.take at h
 split at h
 ·cases h; exact⟨_,rfl,.refl,fun _=>rfl⟩
 ·cases h; exact⟨_,rfl,.refl,fun _=>rfl⟩
 ·split at h
  ·rename_i e
   obtain⟨rfl,rfl,rfl⟩:=e
   obtain⟨as',q1,q2,q3⟩:=A4a h r
   exact⟨.cells as' _ _ _,by simp only[OP.mk,q1],⟨fun h=>h,fun h=>h,fun Z hh l ho=>OR.weaken q2 (fun i a' hi=>let ⟨a,p1,p2⟩:=q3 i a' hi; ⟨a,p1,fun v=>p2 Z v⟩) ho⟩,fun hs=>by have:=B1a h hs r; rw[q1] at this; rw[(Prod.mk.inj this).1]⟩
  ·cases h
 ·split at h
  ·rename_i e
   obtain⟨rfl,rfl⟩:=e
   cases h
   exact⟨_,rfl,.refl,fun _=>rfl⟩
  ·cases h
 ·split at h
  ·rename_i e
   subst e
   cases h
   exact⟨_,rfl,.refl,fun _=>rfl⟩
  ·cases h
 ·split at h
  ·rename_i e
   subst e
   cases h
   exact⟨_,rfl,.refl,fun _=>rfl⟩
  ·cases h
 ·rename_i ps k ty pre k' m f ty'
  split at h
  ·rename_i e
   obtain⟨rfl,rfl,hpl⟩:=e
   split at h
   ·rename_i l1 h1
    cases h
    obtain⟨as',q1,q2,q3⟩:=A4a h1 (.n m::.f f::r)
    have hp:=C3e hpl (l1++(.n m::.f f::r))
    rw[q1] at hp
    refine⟨.arr as' k' m f ty',by simp only[OP.mk,List.append_assoc,List.cons_append,List.nil_append,q1],⟨fun h=>h,fun h=>h,fun Z hh l ho=>⟨hp,?_⟩⟩,fun hs=>by have:=B1a h1 hs (.n m::.f f::r); rw[q1] at this; rw[(Prod.mk.inj this).1]⟩
    refine OR.weaken (by rw[A0s,A0s,q2]) (fun i a' hi=>?_) ho.2
    rcases E2j hi with⟨p1,p2⟩ | ⟨p1,p2,rfl⟩
    ·obtain⟨a,r1,r2⟩:=q3 i a' p2
     exact⟨a,by rw[A3i,gL (by omega)]; exact r1,fun v=>r2 Z v⟩
    ·have:=A5e (pre:=pre) (k:=k') (f:=f) p2
     rw[q2] at p1
     rw[q2,show pre.length+(i-pre.length)=i by omega] at this
     exact⟨_,this,fun v hv=>by rw[q2]; exact hv⟩
   ·cases h
  ·cases h
 ·split at h
  ·rename_i ho
   split at h
   ·rename_i e
    obtain⟨rfl,rfl⟩:=e
    cases h
    obtain⟨q1,q2,q3⟩:=HW.on_OR ho
    exact⟨_,rfl,⟨q1,q2,q3⟩,fun h=>by cases h⟩
   ·cases h
  ·cases h
 ·split at h
  ·rename_i n row es' tl ty' e
   obtain⟨rfl,rfl⟩:=e
   split at h
   ·rename_i l1 h1
    cases h
    obtain⟨as',q1,q2,q3⟩:=A4a h1 r
    refine⟨.tail n row es' as' ty',by simp only[OP.mk,List.cons_append,q1],⟨fun h=>h,fun h=>h,fun Z hh l ho=>⟨ho.1,?_⟩⟩,fun hs=>by cases hs⟩
    refine OR.weaken (c:=flat n row++tl) (by simp[q2]) (fun i a' hi=>?_) ho.2
    rw[List.getElem?_append] at hi
    split at hi
    ·rename_i hlt
     exact⟨a',by rw[gL hlt]; exact hi,fun _ h=>h⟩
    ·rename_i hlt
     obtain⟨a,p1,p2⟩:=q3 _ a' hi
     exact⟨a,by rw[gR (by omega)]; exact p1,fun v=>p2 Z v⟩
   ·cases h
  ·cases h
 ·split at h
  ·rename_i e
   obtain⟨he,rfl,rfl,rfl⟩:=e
   split at h
   ·rename_i l1 h1
    cases h
    obtain⟨as',q1,q2,q3⟩:=A4a h1 r
    refine⟨_,by simp only[OP.mk,List.cons_append,q1]; rfl,⟨fun _=>rfl,fun _=>rfl,fun Z hh l ho=>OR.tail0 he ?_⟩,fun hs=>by cases hs⟩
    exact OR.weaken q2 (fun i a' hi=>let ⟨a,p1,p2⟩:=q3 i a' hi; ⟨a,p1,fun v=>p2 Z v⟩) ho
   ·cases h
  ·cases h
 ·cases h
def B4y:List OP->Heap->Option (List Lf)
 | [],[]=>some []
 | .vec _ _::ps,[]=>match B4y ps [] with
  | some r=>some (.n 0::.r (fun _=>[])::r)
  | none=>none
 | .text _::ps,[]=>match B4y ps [] with
  | some r=>some (.s []::r)
  | none=>none
 | p::ps,o::os=>match p.take o,B4y ps os with
  | some l,some r=>some (l++r)
  | _,_=>none
 | _,_=>none
def mkH:List OP->List Lf->Heap×List Lf
 | [],ls=>([],ls)
 | p::ps,ls=>match p.mk ls with
  | (a,r)=>match mkH ps r with
   | (as,r')=>(a::as,r')
theorem B2w:∀ {ps:List OP} {B:Heap} {l:List Lf},B4y ps B=some l->∀ r:List Lf,∃ B',mkH ps (l++r)=(B',r)/\B'.length=ps.length/\B.length<=ps.length /\
  ∀ (b:Nat) (o':AObj),B'[b]?=some o'->B.length<=b \/ ∃ o,B[b]?=some o/\OLe o o'/\∀ p,ps[b]?=some p->p.same=true->o'=o
 | [],[],_,h,r=>by cases h; exact⟨[],rfl,rfl,lR _,fun b o' h=>by simp at h⟩
 | [],_::_,_,h,_=>by cases h
 | .vec es ty::ps,[],_,h,r=>by
  simp only[B4y] at h
  split at h
  ·rename_i r1 h1
   cases h
   obtain⟨B',q1,q2,q3,q4⟩:=B2w h1 r
   exact⟨.vec 0 (fun _=>[]) es ty::B',by simp only[mkH,OP.mk,List.cons_append,q1],by simp[q2],by simp,fun b o' _=>.inl (by simp)⟩
  ·cases h
 | .text ty::ps,[],_,h,r=>by
  simp only[B4y] at h
  split at h
  ·rename_i r1 h1
   cases h
   obtain⟨B',q1,q2,q3,q4⟩:=B2w h1 r
   exact⟨.text [] ty::B',by simp only[mkH,OP.mk,List.cons_append,q1],by simp[q2],by simp,fun b o' _=>.inl (by simp)⟩
  ·cases h
 | .any::_,[],_,h,_=>by cases h
 | .dead::_,[],_,h,_=>by cases h
 | .cells ..::_,[],_,h,_=>by cases h
 | .vec1 ..::_,[],_,h,_=>by cases h
 | .vecT _::_,[],_,h,_=>by cases h
 | .arr ..::_,[],_,h,_=>by cases h
 | .tail ..::_,[],_,h,_=>by cases h
 | p::ps,o::os,l0,h,r=>by
  have h':(match p.take o,B4y ps os with | some l,some r=>some (l++r) | _,_=>none)=some l0:=by
   cases p<;>exact h
  split at h'
  ·rename_i l1 l2 h1 h2
   cases h'
   obtain⟨o1,p1,p2,p3⟩:=OP.take_mk h1 (l2++r)
   obtain⟨B',q1,q2,q3,q4⟩:=B2w h2 r
   refine⟨o1::B',by simp only[mkH,List.append_assoc,p1,q1],by simp[q2],by simpa using q3,fun b o' hb=>?_⟩
   cases b with
   | zero=>cases hb; exact .inr ⟨o,rfl,p2,fun p hp=>by cases hp; exact p3⟩
   | succ b =>
    rcases q4 b o' hb with q | q
    ·left; simp; omega
    ·right; exact q
  ·cases h'
structure SP where
 t:List Pt
 h:List OP
def SP.take(sp:SP)(U:List AV)(B:Heap):Option (List Lf) :=
 match A6z sp.t U,B4y sp.h B with
 | some a,some b=>some (a++b)
 | _,_=>none
def SP.rho(sp:SP)(ls:List Lf):List AV:=(mkT sp.t ls).1
def SP.heap(sp:SP)(ls:List Lf):Heap:=(mkH sp.h (mkT sp.t ls).2).1
def okD(m:Nat)(ds:List Nat):Nat->List OP->Bool
 | _,[]=>true
 | i,p::ps=>(decide (m<=i)||p.same||ds.contains i)&&okD m ds (i+1) ps
theorem C6u{m:Nat}{ds:List Nat}:∀ {ps:List OP} {i:Nat},okD m ds i ps=true->∀ (b:Nat) (p:OP),ps[b]?=some p->i+b<m->i+b∉ds->p.same=true
 | [],_,_,b,p,h,_,_=>by simp at h
 | q::ps,i,h,b,p,hb,hm,hd=>by
  simp only[okD,bA,Bool.or_eq_true,dQ,List.contains_eq_mem] at h
  cases b with
  | zero =>
   cases hb
   rcases h.1 with(h1 | h1) | h1
   ·omega
   ·exact h1
   ·exact absurd h1 hd
  | succ b =>
   have e:i+1+b=i+(b+1):=by omega
   exact C6u h.2 b p hb (by omega) (by rw[e]; exact hd)
section
variable {P:Program} {A:Amb} {B0:Heap}
theorem SP.parts{sp:SP}{U:List AV}{B:Heap}{ls:List Lf}(h:sp.take U B=some ls):(∀ (Z:Emb) vs,VRL Z U vs->VRL Z (sp.rho ls) vs)/\(sp.heap ls).length=sp.h.length/\B.length<=sp.h.length /\
  ∀ (b:Nat) (o':AObj),(sp.heap ls)[b]?=some o'->B.length<=b \/ ∃ o,B[b]?=some o/\OLe o o'/\∀ p,sp.h[b]?=some p->p.same=true->o'=o:=by
 unfold SP.take at h
 split at h
 ·rename_i a b h1 h2
  cases h
  obtain⟨B',q1,q2,q3,q4⟩:=B2w h2 []
  obtain⟨as',r1,_,_⟩:=A4a h1 b
  have e:sp.heap (a++b)=B':=by simp only[SP.heap,r1]; rw[List.append_nil] at q1; rw[q1]
  rw[e]
  exact⟨fun Z vs hv=>C3p h1 hv,q2,q3,q4⟩
 ·cases h
theorem SP.wk{sp:SP}{U:List AV}{B:Heap}{D:List Nat}{ls:List Lf}{m:Nat}{ds:List Nat}(hm:B0.length=m)(hok:okD m ds 0 sp.h=true)(hD:∀ b,b∈ds->b∈D)(h:sp.take U B=some ls) :
  Wk A B0 ⟨U,B,D⟩ ⟨sp.rho ls,sp.heap ls,D⟩:=by
 obtain⟨h1,h2,h3,h4⟩:=SP.parts h
 intro Z0 w0 Z w t hd ha hv
 have hst:=ha.step
 have hlt:∀ b l,Z b=some l->b<B.length:=fun b l hl=>Nat.lt_of_not_le fun hle=>by rw[ha.dom b hle] at hl; cases hl
 have hob:∀ b l o',Z b=some l->(sp.heap ls)[b]?=some o'->∃ o,B[b]?=some o/\OLe o o':=fun b l o' hl ho=>by
  rcases h4 b o' ho with q | ⟨o,q1,q2,_⟩
  ·have:=hlt b l hl; omega
  ·exact⟨o,q1,q2⟩
 have hlen2:=ha.fr.1
 simp only at hlen2
 refine⟨Z,⟨⟨hst.ext,fun b l p q=>?_,hst.size,hst.keep,hst.loops,hst.defs,hst.tape,hst.os,hst.out,hst.fdom⟩,
  ⟨fun b o l hb hl=>?_,ha.sim.lt,fun b b' l l' o o' hn hl hl' hb hb' g1 g2=>?_,ha.sim.amb,fun b l o hl hb g1=>?_,ha.sim.gLe,ha.sim.fzOK,fun c v b l o hc hl hb g1=>?_⟩,fun b hb=>ha.dom b (by simp only at hb ⊢; omega),?_,fun b hb hn=>?_⟩,h1 Z _ hv⟩
 ·obtain⟨p1,p2,p3⟩:=hst.dom b l p q
  exact⟨p1,(by have p2':b<B.length:=p2; simp only; omega),p3⟩
 ·obtain⟨o1,q1,q2⟩:=hob b l o hl hb
  exact q2.or _ _ _ (ha.sim.obj b o1 l q1 hl)
 ·obtain⟨o1,q1,q2⟩:=hob b l o hl hb
  obtain⟨o1',q1',q2'⟩:=hob b' l' o' hl' hb'
  exact ha.sim.own b b' l l' o1 o1' hn hl hl' q1 q1' (q2.own g1) (q2'.live g2)
 ·obtain⟨o1,q1,q2⟩:=hob b l o hl hb
  exact ha.sim.ownG b l o1 hl q1 (q2.own g1)
 ·obtain⟨o1,q1,q2⟩:=hob b l o hl hb
  exact ha.sim.fzSep c v b l o1 hc hl q1 (q2.own g1)
 ·have:=ha.fr.1; simp only at this ⊢; omega
 ·have hbl:=ha.fr.1
  have hlen:b<(sp.heap ls).length:=by simp only at hbl ⊢; omega
  have hn':b∉ds:=fun hm=>hn (hD b hm)
  rcases h4 b _ (gE hlen) with q | ⟨o,q1,_,q3⟩
  ·simp only at hbl; omega
  ·have hp:b<sp.h.length:=by omega
   have hsame:=C6u hok b _ (gE hp) (by omega) (by simpa using hn')
   have:=q3 _ (gE hp) hsame
   refine Eq.trans ?_ (ha.fr.2 b hb hn)
   simp only
   rw[gE hlen,this,q1]
def keeps:Nat->List Pt->List (Tmp×Wd)
 | _,[]=>[]
 | i,.drop::ps=>keeps (i+1) ps
 | i,_::ps=>(i,.keep)::keeps (i+1) ps
def H9(sp:AEx->SP)(m:Nat)(ds:List Nat):KE (AEx×List Lf):=fun e U B D =>
 match G3d (fun e=>keeps 0 (sp e).t) (fun _=>[]) m ds e U B D with
 | some (_,U2,B2,_)=>match (sp e).take U2 B2 with
  | some ls=>some (e,ls)
  | none=>none
 | none=>none
theorem SEB.of_KP{prims:Prims}{bp:Bps}{c:Code}(F7:P.follows .mixedOrders=true)(F9:A0o P)(hp:PrimOK P A prims)(hb:BlkOK P A bp c){U:List AV}{B:Heap}{ds:List Nat}{n m:Nat}{e:AEx}{ls:List Lf}{sp:AEx->SP}(hm:B0.length=m)(h:E8 P (D5 P prims n) bp c U B (H9 sp m ds)=some (e,ls))(hok:okD m ds 0 (sp e).h=true):SEB P A B0 c ⟨U,B,ds⟩ e ⟨(sp e).rho ls,(sp e).heap ls,ds⟩:=by
 obtain⟨e1,U1,B1,D1,h1,h2⟩:=A3n (A3w n) h
 unfold H9 at h2
 split at h2
 ·rename_i e2 U2 B2 ds2 h3
  split at h2
  ·rename_i ls' h4
   cases h2
   obtain⟨_,hw⟩:=D6x (A:=A) hm h3
   exact((SEB.of_Ec F7 F9 hp hb h1).wk_out hw).wk_out (SP.wk hm hok (fun _ h=>h) h4)
  ·cases h2
 ·cases h2
theorem SEB.while{c:Code}{σ:Type}(Inv:σ->Prop)(μ:σ->Nat)(S:σ->St)(out:σ->AEx×St)(step:∀ s,Inv s->(∃ t,Inv t/\μ t<μ s/\out t=out s/\SEB P A B0 c (S s) .normal (S t)) \/ ((out s).1≠.normal/\SEB P A B0 c (S s) (out s).1 (out s).2)) :
  ∀ s,Inv s->SEB P A B0 (.loop c) (S s) (out s).1 (out s).2:=by
 suffices h:∀ n s,μ s=n->Inv s->SEB P A B0 (.loop c) (S s) (out s).1 (out s).2 from fun s=>h _ s rfl
 intro n
 induction n using Nat.strongRecOn with
 | _ n ih =>
  intro s hs hi
  rcases step s hi with⟨t,h1,h2,h3,h4⟩ | ⟨h1,h2⟩
  ·rw[<- h3]
   exact SEB.loop_next h4 (ih (μ t) (by omega) t rfl h1)
  ·exact SEB.loop_exit h2 h1
def hookP(sp:SP)(m:Nat)(ds:List Nat)(f:List Lf->Tr (AEx×SP×List Lf)):Blk:=fun U B =>
 match decide (B.length=m),sp.take U B with
 | true,some ls=>(fun t:Tr (AEx×SP×List Lf)=>hookT ds t) (f ls)
 | _,_=>.fail
where
 hookT (ds:List Nat):Tr (AEx×SP×List Lf)->Tr (AEx×List AV×Heap×List Nat)
 | .leaf (e,sq,l)=>.leaf (e,sq.rho l,sq.heap l,ds)
 | .br b t f=>.br b (hookT ds t) (hookT ds f)
 | .fail=>.fail
theorem B3o{ds:List Nat}:∀ {t:Tr (AEx×SP×List Lf)} {e:AEx} {U':List AV} {B':Heap} {D:List Nat},(hookP.hookT ds t).get=some (e,U',B',D) ->
  ∃ sq l,t.get=some (e,sq,l)/\U'=sq.rho l/\B'=sq.heap l/\D=ds
 | .leaf (e,sq,l),_,_,_,_,h=>by simp only[hookP.hookT,Tr.get,sI,pI] at h; obtain⟨rfl,rfl,rfl,rfl⟩:=h; exact⟨sq,l,rfl,rfl,rfl,rfl⟩
 | .br true t f,_,_,_,_,h=>by simp only[hookP.hookT,Tr.get] at h; exact B3o (t:=t) h
 | .br false t f,_,_,_,_,h=>by simp only[hookP.hookT,Tr.get] at h; exact B3o (t:=f) h
 | .fail,_,_,_,_,h=>by cases h
theorem E7p{sp:SP}{m:Nat}{ds:List Nat}{f:List Lf->Tr (AEx×SP×List Lf)}{c:Code}(hok:okD m ds 0 sp.h=true)(hs:∀ ls e sq l,(f ls).get=some (e,sq,l)->frP ds 0 (sp.heap ls) (sq.heap l)/\∀ Bb:Heap,Bb.length=m->SEB P A Bb c ⟨sp.rho ls,sp.heap ls,ds⟩ e ⟨sq.rho l,sq.heap l,ds⟩) :
  ∀ U B e' U' B' D,(hookP sp m ds f U B).get=some (e',U',B',D)->AFr B B' D/\SEB P A B c ⟨U,B,[]⟩ e' ⟨U',B',D⟩:=by
 intro U B e' U' B' D h
 unfold hookP at h
 split at h
 ·rename_i ls hlen htk
  have hlen:=of_decide_eq_true hlen
  obtain⟨sq,l,h1,rfl,rfl,rfl⟩:=B3o h
  obtain⟨h2,h3⟩:=hs ls e' sq l h1
  have hfr:=AFr.of_frP h2
  obtain⟨_,p2,p3,p4⟩:=SP.parts htk
  refine⟨⟨by have:=hfr.1; omega,fun b hb hn=>(hfr.2 b (by omega) hn).trans ?_⟩,?_⟩
  ·have hl:b<(sp.heap ls).length:=by omega
   rcases p4 b _ (gE hl) with q | ⟨o,q1,_,q3⟩
   ·omega
   ·have hp:b<sp.h.length:=by omega
    have hsame:=C6u hok b _ (gE hp) (by omega) (by simpa using hn)
    rw[gE hl,q3 _ (gE hp) hsame,q1]
  ·refine SEB.wk_in ?_ (h3 B hlen)
   have w2:Wk A B ⟨U,B,[]⟩ ⟨U,B,D⟩:=Wk.dirty fun b hb=>by cases hb
   exact Wk.trans w2 (SP.wk hlen hok (fun _ h=>h) htk)
 ·cases h
def gP(ps:List Pt)(T:List Lf->Tr AV):List AV->Tr AV:=fun args =>
 match A6z ps args with
 | some ls=>T ls
 | none=>.fail
theorem PrimOK.addP{prims prims0:Prims}(F7:P.follows .mixedOrders=true)(F9:A0o P)(hp0:PrimOK P A prims0)(hp:PrimOK P A prims)(hG:(gN P)<=A.G){f:FuncId}{ps:List Pt}{T:List Lf->Tr AV}{fn:Func}(hf:P.funcs[f]?=some fn)(hc:fn.body.isSome=true)(h:∀ ls v,(T ls).get=some v->P7 0 (mkT ps ls).1=true/\∃ n v',(D5 P prims0 n).call f (mkT ps ls).1 (Bg (gN P)) F8=some v'/\below 0 v'=true/\∀ Z x,VR Z v' x->VR Z v x) :
  PrimOK P A (prims.addt f (gP ps T)):=by
 refine PrimOK.addt3 F7 F9 hp hG hf hc fun args v hv=>?_
 unfold gP at hv
 split at hv
 ·rename_i ls htk
  obtain⟨h1,n,v',h2,h3,h4⟩:=h ls v hv
  obtain⟨B',hca⟩:=Ca.of_finV h2
  refine⟨prims0,(mkT ps ls).1,v',B',hp0,fun Z xs hx=>?_,fun Z x=>h4 Z x,h1,h3,hca⟩
  have:=C3p (r:=[]) htk hx
  rwa [List.append_nil] at this
 ·cases hv
end
end Go.Ad
namespace Go.Ad
def bkN(G:Nat)(ks:List Nat)(n:Nat)(x:Nat):Nat :=
 if x<G then x else if x<G+ks.length then ks.getD (x-G) 0 else x-(G+ks.length)+n
def D6o(f:Nat->Option Nat):List AObj->Option (List AObj)
 | []=>some []
 | o::r=>match mvO f o,D6o f r with
  | some o',some r'=>some (o'::r')
  | _,_=>none
theorem B9i{f:Nat->Option Nat}:∀ {c c':List AObj},D6o f c=some c'->c'.length=c.length/\∀ (i:Nat) (a':AObj),c'[i]?=some a'->∃ a,c[i]?=some a/\mvO f a=some a'
 | [],_,h=>by simp only[D6o,sI] at h; subst h; exact⟨rfl,fun i a' h=>by simp at h⟩
 | x::xs,_,h=>by
  simp only[D6o] at h
  split at h
  ·rename_i x' xs' e1 e2
   cases h
   obtain⟨q1,q2⟩:=B9i e2
   refine⟨by simp[q1],fun i a' hi=>?_⟩
   cases i with
   | zero=>cases hi; exact⟨x,rfl,e1⟩
   | succ i=>exact q2 i a' hi
  ·cases h
def B0r(D:List Nat):Heap->List Nat->List AObj->Nat->Heap
 | B,k::ks,o::os,i=>B0r D (bif D.contains i then B.set k o else B) ks os (i+1)
 | B,_,_,_=>B
theorem A8g{D:List Nat}:∀ {ks:List Nat} {B:Heap} {os:List AObj} {i:Nat},(B0r D B ks os i).length=B.length
 | [],B,os,i=>by simp[B0r]
 | k::ks,B,[],i=>by simp[B0r]
 | k::ks,B,o::os,i=>by
  simp only[B0r]
  rw[A8g]
  cases D.contains i<;>simp
theorem D2w {D : List Nat} : ∀ {ks : List Nat} {B : Heap} {os : List AObj} {i : Nat}, ks.Nodup -> ks.length <= os.length -> ∀ {b : Nat} {o' : AObj}, (B0r D B ks os i)[b]? = some o' ->
    (∃ j, ks[j]? = some b /\ os[j]? = some o' /\ i + j ∈ D) \/ (B[b]? = some o' /\ ∀ j, ks[j]? = some b -> i + j ∉ D)
  | [], B, os, i, _, _, b, o', h => by simp only [B0r] at h; exact .inr ⟨h, fun j hj => by simp at hj⟩
  | k :: ks, B, [], i, _, hl, b, o', h => by simp at hl
  | k :: ks, B, o :: os, i, hn, hl, b, o', h => by
    simp only [B0r] at h
    obtain ⟨hn1, hn2⟩ := List.nodup_cons.1 hn
    rcases D2w hn2 (by simpa using hl) h with ⟨j, q1, q2, q3⟩ | ⟨q1, q2⟩
    · exact .inl ⟨j + 1, by simpa using q1, by simpa using q2, by have e : i + 1 + j = i + (j + 1) := by omega
                                                                  rwa [e] at q3⟩
    · cases hc : D.contains i with
      | true =>
        rw [hc, cond_true] at q1
        by_cases e : k = b
        · subst e
          have hlt : k < B.length := by
            have := (gS.1 q1).1
            simpa using this
          rw [List.getElem?_set_self hlt] at q1
          cases q1
          exact .inl ⟨0, rfl, rfl, by simpa using hc⟩
        · rw [gX e] at q1
          refine .inr ⟨q1, fun j hj => ?_⟩
          cases j with
          | zero => cases hj; exact (e rfl).elim
          | succ j =>
            have := q2 j (by simpa using hj)
            have e : i + 1 + j = i + (j + 1) := by omega
            rwa [e] at this
      | false =>
        rw [hc, cond_false] at q1
        refine .inr ⟨q1, fun j hj => ?_⟩
        cases j with
        | zero => simpa using hc
        | succ j =>
          have := q2 j (by simpa using hj)
          have e : i + 1 + j = i + (j + 1) := by omega
          rwa [e] at this
def B9b(G:Nat)(ks:List Nat)(B:Heap):Tr (AV×Heap×List Nat)->Tr (AV×Heap×List Nat)
 | .leaf (v0,B0,D0) =>
  match mv (fun x=>some (bkN G ks B.length x)) v0,D6o (fun x=>some (bkN G ks B.length x)) (B0.drop G),
   decide (G+ks.length<=B0.length)&&D0.all (fun d=>decide (G<=d)&&(decide (G+ks.length<=d)||(B.getD (ks.getD (d-G) 0) .dead).own)) with
  | some v,some os,true=>.leaf (v,B0r D0 B ks os G++os.drop ks.length,(D0.filter (·<G+ks.length)).map (bkN G ks B.length))
  | _,_,_=>.fail
 | .br b t f=>.br b (B9b G ks B t) (B9b G ks B f)
 | .fail=>.fail
def B9a(G:Nat)(g:List AV->Heap->Tr (AV×Heap×List Nat))(args:List AV)(B:Heap):Tr (AV×Heap×List Nat) :=
 (fun ks:List Nat =>
  match nodupB ks&&(ks.all (fun k=>decide (G<=k)&&decide (k<B.length))&&decide (G<=B.length)),mvL (C1j G ks) args,D6o (C1j G ks) (ks.map fun k=>B.getD k .dead) with
  | true,some args0,some os0=>B9b G ks B (g args0 (Bg G++os0))
  | _,_,_=>.fail) (reach G B 1000 (B2r args) [])
theorem B3t{G:Nat}{ks:List Nat}{B:Heap}:∀ {t:Tr (AV×Heap×List Nat)} {v:AV} {B':Heap} {D:List Nat},(B9b G ks B t).get=some (v,B',D) ->
  ∃ v0 B0 D0 os,t.get=some (v0,B0,D0)/\mv (fun x=>some (bkN G ks B.length x)) v0=some v/\D6o (fun x=>some (bkN G ks B.length x)) (B0.drop G)=some os /\
   G+ks.length<=B0.length/\(∀ d,d∈D0->G<=d/\(G+ks.length<=d \/ (B.getD (ks.getD (d-G) 0) .dead).own=true))/\B'=B0r D0 B ks os G++os.drop ks.length /\
   D=(D0.filter (·<G+ks.length)).map (bkN G ks B.length)
 | .leaf (v0,B0,D0),_,_,_,h=>by
  simp only[B9b] at h
  split at h
  ·rename_i v os h1 h2 h3
   simp only[Tr.get,sI,pI] at h
   obtain⟨rfl,rfl,rfl⟩:=h
   simp only[bA,dQ,List.all_eq_true,Bool.or_eq_true] at h3
   exact⟨v0,B0,D0,os,rfl,h1,h2,h3.1,h3.2,rfl,rfl⟩
  ·cases h
 | .br true t f,_,_,_,h=>by simp only[B9b,Tr.get] at h ⊢; exact B3t h
 | .br false t f,_,_,_,h=>by simp only[B9b,Tr.get] at h ⊢; exact B3t h
 | .fail,_,_,_,h=>by cases h
section
variable {P:Program} {A:Amb}
def CallT(P:Program)(A:Amb)(f:FuncId)(args:List AV)(B:Heap)(v:AV)(B':Heap)(D:List Nat):Prop :=
 ∀ (Z:Emb) (w:World) (xs:Array Value),Sim A Z B w.heap->Dom Z B.length->GlobOK P Z->VRL Z args xs.toList ->
  Calls P f xs w fun e w'=>∃ v' Z',e=.returned v'/\VR Z' v v'/\After A Z Z' B B' D w w'
theorem CallT.of_Ca(F7:P.follows .mixedOrders=true)(F9:A0o P){prims:Prims}(hp:PrimOK P A prims){f:FuncId}{args:List AV}{B B':Heap}{v:AV}{D:List Nat}(h:Ca P prims f args B (v,B',D)) :
  AFr B B' D/\CallT P A f args B v B' D:=by
 obtain⟨n,hn⟩:=h.run
 exact⟨(B3y P hp.fr n).call _ _ _ _ _ _ hn,fun Z w xs hs hd hg hx=>(A5n F7 F9 hp n).call _ _ _ _ _ _ hn Z w xs hs hd hg hx⟩
theorem A7z{ks:List Nat}{i:Nat}(h:i<ks.length):ks[i]?=some (ks.getD i 0):=by
 rw[gD,gE h]; rfl
theorem E8i{G:Nat}(hGP:(gN P)=G){f:FuncId}{g:List AV->Heap->Tr (AV×Heap×List Nat)}(hg:∀ args B v B' D,(g args B).get=some (v,B',D)->AFr B B' D/\CallT P A f args B v B' D) :
  ∀ args B v B' D,(B9a G g args B).get=some (v,B',D)->AFr B B' D/\CallT P A f args B v B' D:=by
 intro args B v B' D h
 unfold B9a at h
 generalize hks:reach G B 1000 (B2r args) []=ks at h
 simp only at h
 split at h
 case h_2=>cases h
 rename_i args0 os0 hc ha ho
 simp only[bA,dQ,List.all_eq_true] at hc
 obtain⟨c1,c2,c3⟩:=hc
 have c1:=A6p c1
 obtain⟨v0,B0',D0,os,h1,h2,h3,h4,h5,rfl,rfl⟩:=B3t h
 obtain⟨hfr0,hcall⟩:=hg _ _ _ _ _ h1
 obtain⟨p1,p2⟩:=B9i ho
 obtain⟨r1,r2⟩:=B9i h3
 rw[List.length_map] at p1
 obtain⟨m,hm⟩:∃ m,m=G+ks.length:=⟨_,rfl⟩
 have hB0:(Bg G++os0).length=m:=by rw[lA,A4z,p1,hm]
 have hos:os.length=B0'.length-G:=by rw[r1,List.length_drop]
 have hlk:ks.length<=os.length:=by omega
 have hkin:∀ j,j<ks.length->G<=ks.getD j 0/\ks.getD j 0<B.length:=fun j hj=>c2 _ (List.mem_of_getElem? (A7z hj))
 have hkinj:∀ j j',j<ks.length->j'<ks.length->ks.getD j 0=ks.getD j' 0->j=j':=fun j j' hj hj' e=>by
  rw[gD,gD,gE hj,gE hj'] at e
  exact(List.getElem_inj c1).1 e
 have hD:∀ b,b∈(D0.filter (·<G+ks.length)).map (bkN G ks B.length)↔∃ j,j<ks.length/\G+j∈D0/\b=ks.getD j 0:=fun b=>by
  simp only[List.mem_map,List.mem_filter,dQ]
  constructor
  ·rintro⟨d,⟨q1,q2⟩,rfl⟩
   have:=(h5 d q1).1
   refine⟨d-G,by omega,by rw[show G+(d-G)=d by omega]; exact q1,?_⟩
   unfold bkN
   rw[if_neg (by omega),if_pos q2]
  ·rintro⟨j,q1,q2,rfl⟩
   refine⟨G+j,⟨q2,by omega⟩,?_⟩
   unfold bkN
   rw[if_neg (by omega),if_pos (by omega)]
   congr 1; omega
 have hBlen:(B0r D0 B ks os G++os.drop ks.length).length=B.length+(B0'.length-m):=by
  rw[lA,A8g,List.length_drop]; omega
 have hget:∀ b o',(B0r D0 B ks os G++os.drop ks.length)[b]?=some o' ->
   (b<B.length/\∃ j,j<ks.length/\ks.getD j 0=b/\G+j∈D0/\os[j]?=some o') \/ (b<B.length/\B[b]?=some o'/\∀ j,j<ks.length->ks.getD j 0=b->G+j∉D0) \/
   (B.length<=b/\os[ks.length+(b-B.length)]?=some o'):=fun b o' hb=>by
  rw[List.getElem?_append,A8g] at hb
  split at hb
  ·rename_i hlt
   rcases D2w c1 hlk hb with⟨j,q1,q2,q3⟩ | ⟨q1,q2⟩
   ·have hj:=(gS.1 q1).1
    refine .inl ⟨hlt,j,hj,?_,q3,q2⟩
    rw[A7z hj] at q1; exact Option.some.inj q1
   ·exact .inr (.inl ⟨hlt,q1,fun j hj e=>q2 j (by rw[A7z hj,e])⟩)
  ·rename_i hlt
   rw[dP] at hb
   exact .inr (.inr ⟨by omega,hb⟩)
 have hfrB:AFr B (B0r D0 B ks os G++os.drop ks.length) ((D0.filter (·<G+ks.length)).map (bkN G ks B.length)):=by
  refine⟨by rw[hBlen]; omega,fun b hb hn=>?_⟩
  have hlt:b<(B0r D0 B ks os G++os.drop ks.length).length:=by rw[hBlen]; omega
  rcases hget b _ (gE hlt) with⟨_,j,q1,q2,q3,_⟩ | ⟨_,q1,_⟩ | ⟨q1,_⟩
  ·exact absurd ((hD b).2 ⟨j,q1,q3,q2.symm⟩) hn
  ·rw[q1,gE hlt]
  ·omega
 refine⟨hfrB,fun Z w xs hs hd hgl hx=>?_⟩
 let Z0:Emb:=⟨fun x=>if x<G then Z x else if x<m then Z (ks.getD (x-G) 0) else none,Z.fz⟩
 have i0lo:∀ x,x<G->Z0 x=Z x:=fun x hx=>by simp only[Z0,if_pos hx]
 have i0mid:∀ j,j<ks.length->Z0 (G+j)=Z (ks.getD j 0):=fun j hj=>by
  simp only[Z0]; rw[if_neg (by omega),if_pos (by omega),show G+j-G=j by omega]
 have i0hi:∀ x,m<=x->Z0 x=none:=fun x hx=>by simp only[Z0]; rw[if_neg (by omega),if_neg (by omega)]
 have hnm:EmbV (C1j G ks) Z Z0:=⟨fun b b' hb=>by
  unfold C1j at hb
  split at hb
  ·rename_i hlt; cases hb; exact i0lo b hlt
  ·obtain⟨q1,q2⟩:=B0j hb
   have hj:=(gS.1 q2).1
   have e:b'=G+(b'-G):=by omega
   rw[e,i0mid _ hj]
   rw[A7z hj] at q2
   rw[Option.some.inj q2],fun _ _ h=>h⟩
 have hcases:∀ x l,Z0 x=some l->x<G \/ ∃ j,j<ks.length/\x=G+j/\Z (ks.getD j 0)=some l:=fun x l hl=>by
  by_cases h:x<G
  ·exact .inl h
  ·by_cases h':x<m
   ·refine .inr ⟨x-G,by omega,by omega,?_⟩
    rw[<- i0mid _ (by omega),show G+(x-G)=x by omega]; exact hl
   ·rw[i0hi x (by omega)] at hl; cases hl
 have hlo:∀ x o,x<G->(Bg G++os0)[x]?=some o->o=.dead:=fun x o hx ho=>by
  rw[gL (by rw[A4z]; exact hx)] at ho
  simp only[Bg,List.getElem?_replicate] at ho
  rw[if_pos hx] at ho; cases ho; rfl
 have hmid:∀ j o,(Bg G++os0)[G+j]?=some o->j<ks.length->∃ o1,B[ks.getD j 0]?=some o1/\mvO (C1j G ks) o1=some o:=fun j o ho hj=>by
  rw[gR (by rw[A4z]; omega),A4z,show G+j-G=j by omega] at ho
  obtain⟨o1,q1,q2⟩:=p2 j o ho
  rw[List.getElem?_map,A7z hj] at q1
  simp only[oS,sI] at q1
  have hin:=(hkin j hj).2
  rw[gD,gE hin,Option.getD_some] at q1
  exact⟨o1,by rw[gE hin,q1],q2⟩
 have hs0:Sim A Z0 (Bg G++os0) w.heap:=by
  refine⟨fun b o l hb hl=>?_,fun b l hl=>?_,fun b b' l l' o o' hne hl hl' hb hb' g1 g2=>?_,hs.amb,fun b l o hl hb g1=>?_,hs.gLe,hs.fzOK,fun c v b l o hc hl hb g1=>?_⟩
  ·rcases hcases b l hl with hx | ⟨j,hj,rfl,hl'⟩
   ·rw[hlo b o hx hb]; trivial
   ·obtain⟨o1,q1,q2⟩:=hmid j o hb hj
    exact(A6o hnm q2).2.2 _ l (hs.obj _ o1 l q1 hl')
  ·rcases hcases b l hl with hx | ⟨j,hj,rfl,hl'⟩
   ·rw[i0lo b hx] at hl; exact hs.lt b l hl
   ·exact hs.lt _ l hl'
  ·rcases hcases b l hl with hx | ⟨j,hj,rfl,hl1⟩
   ·rw[hlo b o hx hb] at g1; cases g1
   ·rcases hcases b' l' hl' with hx' | ⟨j',hj',rfl,hl1'⟩
    ·rw[hlo b' o' hx' hb'] at g2; cases g2
    ·obtain⟨o1,q1,q2⟩:=hmid j o hb hj
     obtain⟨o1',q1',q2'⟩:=hmid j' o' hb' hj'
     exact hs.own _ _ l l' o1 o1' (fun e=>hne (by rw[hkinj j j' hj hj' e])) hl1 hl1' q1 q1' ((A6o hnm q2).1 g1) ((A6o hnm q2').2.1 g2)
  ·rcases hcases b l hl with hx | ⟨j,hj,rfl,hl1⟩
   ·rw[hlo b o hx hb] at g1; cases g1
   ·obtain⟨o1,q1,q2⟩:=hmid j o hb hj
    exact hs.ownG _ l o1 hl1 q1 ((A6o hnm q2).1 g1)
  ·rcases hcases b l hl with hx | ⟨j,hj,rfl,hl1⟩
   ·rw[hlo b o hx hb] at g1; cases g1
   ·obtain⟨o1,q1,q2⟩:=hmid j o hb hj
    exact hs.fzSep c v _ l o1 hc hl1 q1 ((A6o hnm q2).1 g1)
 have hd0:Dom Z0 (Bg G++os0).length:=fun b hb=>i0hi b (by rw[<- hB0]; exact hb)
 have hg0:GlobOK P Z0:=fun x hxg=>by
  obtain⟨l,q1,q2⟩:=hgl x hxg
  exact⟨l,by rw[i0lo x (by rw[<- hGP]; exact hxg)]; exact q1,q2⟩
 refine(hcall Z0 w xs hs0 hd0 hg0 (A2k hnm ha hx)).mono fun e w'=>?_
 rintro⟨v',Z1,rfl,hv1,haft⟩
 have hst:=haft.step
 rw[hB0] at hst
 let Z2:Emb:=⟨fun y=>if y<B.length then Z y else Z1 (y-B.length+m),Z1.fz⟩
 have i2lo:∀ y,y<B.length->Z2 y=Z y:=fun y hy=>by simp only[Z2,if_pos hy]
 have i2hi:∀ y,B.length<=y->Z2 y=Z1 (y-B.length+m):=fun y hy=>by simp only[Z2]; rw[if_neg (by omega)]
 have i1lo:∀ x,x<m->Z1 x=Z0 x:=fun x hx=>by
  cases h0:Z0 x with
  | some l=>exact hst.ext x l h0
  | none=>cases h1:Z1 x with
   | none=>rfl
   | some l=>have:=(hst.dom x l h0 h1).1; omega
 have hbk:EmbV (fun b=>some (bkN G ks B.length b)) Z1 Z2:=⟨fun b b' e=>by
  cases e
  unfold bkN
  by_cases q:b<G
  ·rw[if_pos q,i2lo b (by omega),i1lo b (by omega),i0lo b q]
  ·rw[if_neg q]
   by_cases q':b<G+ks.length
   ·rw[if_pos q']
    have:=hkin (b-G) (by omega)
    rw[i2lo _ this.2,i1lo b (by omega),<- i0mid (b-G) (by omega),show G+(b-G)=b by omega]
   ·rw[if_neg q',i2hi _ (by omega)]
    congr 1; omega,fun _ _ h=>h⟩
 have hown:∀ j,j<ks.length->G+j∈D0->∃ o,B[ks.getD j 0]?=some o/\o.own=true:=fun j hj hd=>by
  rcases(h5 _ hd).2 with q | q
  ·omega
  ·rw[show G+j-G=j by omega] at q
   have hin:=(hkin j hj).2
   rw[gD,gE hin,Option.getD_some] at q
   exact⟨_,gE hin,q⟩
 have hdirty:∀ b0 l0,b0∈D0->Z0 b0=some l0->∃ j,j<ks.length/\b0=G+j/\Z (ks.getD j 0)=some l0:=fun b0 l0 hb hl=>by
  rcases hcases b0 l0 hl with q | q
  ·have:=(h5 b0 hb).1; omega
  ·exact q
 have hcan:∀ (j:Nat) o' ,os[j]?=some o'->∃ o,B0'[G+j]?=some o/\(o'.own=true->o.own=true)/\(o'.live=true->o.live=true)/\∀ hh l,OR Z1 hh l o->OR Z2 hh l o':=fun j o' ho=>by
  obtain⟨o,q1,q2⟩:=r2 j o' ho
  rw[dP] at q1
  obtain⟨s1,s2,s3⟩:=A6o hbk q2
  exact⟨o,q1,s1,s2,s3⟩
 have hmid1:∀ j l,j<ks.length->Z (ks.getD j 0)=some l->Z1 (G+j)=some l:=fun j l hj hl=>by rw[i1lo _ (by omega),i0mid j hj,hl]
 have hclean:∀ b l o',b<B.length->B[b]?=some o'->(∀ j,j<ks.length->ks.getD j 0=b->G+j∉D0)->Z b=some l->o'.live=true->∀ b0 l0,b0∈D0->Z0 b0=some l0->l0.c≠l.c:=by
  intro b l o' hb ho hcl hl hlive b0 l0 hb0 hl0
  obtain⟨j,hj,rfl,hl1⟩:=hdirty b0 l0 hb0 hl0
  obtain⟨oy,q1,q2⟩:=hown j hj hb0
  exact hs.own _ b l0 l oy o' (fun e=>hcl j hj e hb0) hl1 hl q1 ho q2 hlive
 refine⟨v',Z2,rfl,D2l hbk h2 hv1,⟨⟨⟨fun b l hl=>?_,hst.ext.fz⟩,fun b l q1 q2=>?_,hst.size,fun c hc hDc=>hst.keep c hc fun b hb l hl=>?_,hst.loops,hst.defs,hst.tape,hst.os,hst.out,fun c v q1 q2=>(hst.fdom c v q1 q2).imp id fun⟨b0,s1,l0,s2,s3⟩=>by
   obtain⟨j,hj,rfl,hl1⟩:=hdirty b0 l0 s1 s2
   exact⟨ks.getD j 0,(hD _).2 ⟨j,hj,s1,rfl⟩,l0,hl1,s3⟩⟩,
  ⟨fun b o l hb hl=>?_,fun b l hl=>?_,fun b b' l l' o o' hne hl hl' hb hb' g1 g2=>?_,haft.sim.amb,fun b l o hl hb g1=>?_,haft.sim.gLe,haft.sim.fzOK,fun c v b l o hc hl hb g1=>?_⟩,fun b hb=>?_,hfrB⟩⟩
 ·have hb:b<B.length:=Nat.lt_of_not_le fun hle=>by rw[hd b hle] at hl; cases hl
  rw[i2lo b hb]; exact hl
 ·have hb:B.length<=b:=Nat.le_of_not_lt fun hlt=>by rw[i2lo b hlt,q1] at q2; cases q2
  rw[i2hi b hb] at q2
  have hlt:b-B.length+m<B0'.length:=Nat.lt_of_not_le fun hle=>by rw[haft.dom _ hle] at q2; cases q2
  refine⟨hb,by rw[hBlen]; omega,?_⟩
  rcases(hst.dom _ l (i0hi _ (by omega)) q2).2.2 with q | ⟨b0,s1,l0,s2,s3⟩
  ·exact .inl q
  ·obtain⟨j,hj,rfl,hl1⟩:=hdirty b0 l0 s1 s2
   exact .inr ⟨ks.getD j 0,(hD _).2 ⟨j,hj,s1,rfl⟩,l0,hl1,s3⟩
 ·obtain⟨j,hj,rfl,hl1⟩:=hdirty b l hb hl
  exact hDc _ ((hD _).2 ⟨j,hj,hb,rfl⟩) l hl1
 ·rcases hget b o hb with⟨hlt,j,hj,rfl,hd',ho⟩ | ⟨hlt,ho,hcl⟩ | ⟨hge,ho⟩
  ·rw[i2lo _ hlt] at hl
   obtain⟨o1,s1,_,_,s4⟩:=hcan j o ho
   exact s4 _ l (haft.sim.obj _ o1 l s1 (hmid1 j l hj hl))
  ·rw[i2lo b hlt] at hl
   have hle:Z.le Z2:=⟨fun b l hl=>by
    have hb:b<B.length:=Nat.lt_of_not_le fun hle=>by rw[hd b hle] at hl; cases hl
    rw[i2lo b hb]; exact hl,hst.ext.fz⟩
   by_cases hlive:o.live=true
   ·exact(hs.obj b o l ho hl).keep hle (hst.keep _ (hs.lt b l hl) fun b0 hb0 l0 hl0=>hclean b l o hlt ho hcl hl hlive b0 l0 hb0 hl0)
   ·cases o<;>simp[AObj.live] at hlive; trivial
  ·rw[i2hi b hge] at hl
   obtain⟨o1,s1,_,_,s4⟩:=hcan _ o ho
   have e:G+(ks.length+(b-B.length))=b-B.length+m:=by omega
   rw[e] at s1
   exact s4 _ l (haft.sim.obj _ o1 l s1 hl)
 ·rcases Nat.lt_or_ge b B.length with hlt | hge
  ·rw[i2lo b hlt] at hl; exact Nat.lt_of_lt_of_le (hs.lt b l hl) hst.size
  ·rw[i2hi b hge] at hl; exact haft.sim.lt _ l hl
 ·-- own
  have hcl:∀ b o,(B0r D0 B ks os G++os.drop ks.length)[b]?=some o->(∃ x o1,bkN G ks B.length x=b/\(G<=x)/\(x<m->x∈D0)/\B0'[x]?=some o1/\(o.own=true->o1.own=true)/\(o.live=true->o1.live=true)) \/
    (b<B.length/\B[b]?=some o/\∀ j,j<ks.length->ks.getD j 0=b->G+j∉D0):=fun b o hb=>by
   rcases hget b o hb with⟨hlt,j,hj,rfl,hd',ho⟩ | q | ⟨hge,ho⟩
   ·obtain⟨o1,s1,s2,s3,_⟩:=hcan j o ho
    refine .inl ⟨G+j,o1,?_,by omega,fun _=>hd',s1,s2,s3⟩
    unfold bkN; rw[if_neg (by omega),if_pos (by omega)]; congr 1; omega
   ·exact .inr q
   ·obtain⟨o1,s1,s2,s3,_⟩:=hcan _ o ho
    refine .inl ⟨G+(ks.length+(b-B.length)),o1,?_,by omega,fun h=>by omega,s1,s2,s3⟩
    unfold bkN; rw[if_neg (by omega),if_neg (by omega)]; omega
  have hmix':∀ b l o x l' ,b<B.length->B[b]?=some o->(∀ j,j<ks.length->ks.getD j 0=b->G+j∉D0)->Z b=some l->o.live=true->G<=x->(x<m->x∈D0)->Z1 x=some l'->l.c≠l'.c:=by
   intro b l o x l' hlt ho hcl hl hlive hGx hxd hl'
   by_cases hxm:x<m
   ·rw[i1lo x hxm] at hl'
    exact fun e=>hclean b l o hlt ho hcl hl hlive x l' (hxd hxm) hl' e.symm
   ·rcases(hst.dom x l' (i0hi x (by omega)) hl').2.2 with q | ⟨b0,s1,l0,s2,s3⟩
    ·have:=hs.lt b l hl; omega
    ·have:=hclean b l o hlt ho hcl hl hlive b0 l0 s1 s2; omega
  rcases hcl b o hb with⟨x,o1,rfl,e2,e3,e4,e5,e6⟩ | ⟨k1,k2,k3⟩<;>rcases hcl b' o' hb' with⟨x',o1',rfl,e2',e3',e4',e5',e6'⟩ | ⟨k1',k2',k3'⟩
  ·rw[hbk x _ rfl] at hl; rw[hbk x' _ rfl] at hl'
   exact haft.sim.own x x' l l' o1 o1' (fun e=>hne (by rw[e])) hl hl' e4 e4' (e5 g1) (e6' g2)
  ·rw[hbk x _ rfl] at hl; rw[i2lo b' k1'] at hl'
   exact fun e=>hmix' b' l' o' x l k1' k2' k3' hl' g2 e2 e3 hl e.symm
  ·rw[i2lo b k1] at hl; rw[hbk x' _ rfl] at hl'
   exact hmix' b l o x' l' k1 k2 k3 hl (AObj.live_of_own g1) e2' e3' hl'
  ·rw[i2lo b k1] at hl; rw[i2lo b' k1'] at hl'
   exact hs.own b b' l l' o o' hne hl hl' k2 k2' g1 g2
 ·rcases hget b o hb with⟨hlt,j,hj,rfl,hd',ho⟩ | ⟨hlt,ho,hcl⟩ | ⟨hge,ho⟩
  ·rw[i2lo _ hlt] at hl
   obtain⟨o1,s1,s2,_⟩:=hcan j o ho
   exact haft.sim.ownG _ l o1 (hmid1 j l hj hl) s1 (s2 g1)
  ·rw[i2lo b hlt] at hl; exact hs.ownG b l o hl ho g1
  ·rw[i2hi b hge] at hl
   obtain⟨o1,s1,s2,_⟩:=hcan _ o ho
   have e:G+(ks.length+(b-B.length))=b-B.length+m:=by omega
   rw[e] at s1
   exact haft.sim.ownG _ l o1 hl s1 (s2 g1)
 ·rcases hget b o hb with⟨hlt,j,hj,rfl,hd',ho⟩ | ⟨hlt,ho,hcl⟩ | ⟨hge,ho⟩
  ·rw[i2lo _ hlt] at hl
   obtain⟨o1,s1,s2,_⟩:=hcan j o ho
   exact haft.sim.fzSep c v _ l o1 hc (hmid1 j l hj hl) s1 (s2 g1)
  ·rw[i2lo b hlt] at hl
   cases hz:Z.fz c with
   | some v0=>exact hs.fzSep c v0 b l o hz hl ho g1
   | none =>
    rcases hst.fdom c v hz hc with q | ⟨b0,s1,l0,s2,s3⟩
    ·have:=hs.lt b l hl; omega
    ·have:=hclean b l o hlt ho hcl hl (AObj.live_of_own g1) b0 l0 s1 s2; omega
  ·rw[i2hi b hge] at hl
   obtain⟨o1,s1,s2,_⟩:=hcan _ o ho
   have e:G+(ks.length+(b-B.length))=b-B.length+m:=by omega
   rw[e] at s1
   exact haft.sim.fzSep c v _ l o1 hc hl s1 (s2 g1)
 ·rw[hBlen] at hb
  rw[i2hi b (by omega)]
  exact haft.dom _ (by omega)
theorem PrimOK.addl{prims:Prims}(hp:PrimOK P A prims){G:Nat}(hGP:(gN P)=G){f:FuncId}{g:List AV->Heap->Tr (AV×Heap×List Nat)}{fn:Func}(hf:P.funcs[f]?=some fn)(hc:fn.body.isSome=true)(hg:∀ args B v B' D,(g args B).get=some (v,B',D)->AFr B B' D/\CallT P A f args B v B' D):PrimOK P A (prims.addh f (B9a G g)) :=
 hp.put hf hc (E8i hGP hg)
end
end Go.Ad
namespace Go.Ad
section
variable {P:Program} {A:Amb}
end
end Go.Ad
namespace Go.Ad
def G5(p:Nat->Bool):Nat->Nat->Nat
 | 0,n=>n
 | k+1,n=>bif p n then G5 p k (n+1) else n
theorem A3x(p:Nat->Bool):∀ (k n:Nat),n<=G5 p k n/\G5 p k n<=n+k
 | 0,n=>⟨lR _,lR _⟩
 | k+1,n=>by
  simp only[G5]
  cases p n with
  | true=>have:=A3x p k (n+1); simp only[cond_true]; omega
  | false=>simp only[cond_false]; omega
theorem A8m{p q:Nat->Bool}:∀ {k n:Nat},(∀ m,n<=m->m<n+k->p m=q m)->G5 p k n=G5 q k n
 | 0,_,_=>rfl
 | k+1,n,h=>by
  simp only[G5,h n (lR _) (by omega)]
  rw[A8m fun m h1 h2=>h m (by omega) (by omega)]
theorem A1p{p:Nat->Bool}:∀ {k n m:Nat},n<=m->m<G5 p k n->p m=true
 | 0,n,m,h1,h2=>by simp only[G5] at h2; omega
 | k+1,n,m,h1,h2=>by
  simp only[G5] at h2
  cases h:p n with
  | true =>
   rw[h,cond_true] at h2
   by_cases e:m=n
   ·rw[e,h]
   ·exact A1p (by omega) h2
  | false=>rw[h,cond_false] at h2; omega
theorem A6s{p:Nat->Bool}:∀ {k n:Nat},G5 p k n<n+k->p (G5 p k n)=false
 | 0,n,h=>by simp only[G5] at h; omega
 | k+1,n,h=>by
  simp only[G5] at h ⊢
  cases hp:p n with
  | true=>rw[hp,cond_true] at h; rw[cond_true]; exact A6s (by omega)
  | false=>rw[cond_false,hp]
theorem B2t{p:Nat->Bool}{k n m:Nat}(h1:n<=m)(h2:m<=n+k)(h3:∀ j,n<=j->j<m->p j=true)(h4:m<n+k->p m=false):G5 p k n=m:=by
 obtain⟨a,b⟩:=A3x p k n
 rcases Nat.lt_trichotomy (G5 p k n) m with h | h | h
 ·have:=A6s (p:=p) (k:=k) (n:=n) (by omega)
  rw[h3 _ a h] at this; cases this
 ·exact h
 ·have:=A1p h1 h
  rw[h4 (by omega)] at this; cases this
section
variable {P:Program} {A:Amb} {B0:Heap}
theorem SEB.scan{c:Code}{S E:Nat->St}{e:Nat->AEx}{p:Nat->Bool}{N:Nat}(he:∀ n,e n≠.normal)(h1:∀ n,n<N->p n=true->SEB P A B0 c (S n) .normal (S (n+1)))(h2:∀ n,n<=N->(n<N->p n=false)->SEB P A B0 c (S n) (e n) (E n)) :
  ∀ n,n<=N->SEB P A B0 (.loop c) (S n) (e (G5 p (N-n) n)) (E (G5 p (N-n) n)):=by
 refine SEB.while (fun n=>n<=N) (fun n=>N-n) S (fun n=>(e (G5 p (N-n) n),E (G5 p (N-n) n))) fun n hn=>?_
 by_cases hlt:n<N
 ·have hk:N-n=(N-(n+1))+1:=by omega
  cases hp:p n with
  | true =>
   left
   refine⟨n+1,by omega,by omega,?_,h1 n hlt hp⟩
   rw[hk]; simp only[G5,hp,cond_true]
  | false =>
   right
   have e1:G5 p (N-n) n=n:=by rw[hk]; simp only[G5,hp,cond_false]
   rw[e1]
   exact⟨he n,h2 n hn fun _=>hp⟩
 ·right
  have e1:G5 p (N-n) n=n:=by rw[show N-n=0 by omega]; rfl
  rw[e1]
  exact⟨he n,h2 n hn fun h=>absurd h hlt⟩
theorem PrimOK.addbP{prims:Prims}(hp:PrimOK P A prims){f:FuncId}{id:Nat}{fn:Func}{c body:Code}(hf:P.funcs[f]?=some fn)(hc:fn.body=some c)(hb:(blocks c).filter (fun p=>p.1==id)=[(id,body)]){sp:SP}{m:Nat}{ds:List Nat}{T:List Lf->Tr (AEx×SP×List Lf)}(hok:okD m ds 0 sp.h=true)(hs:∀ ls e sq l,(T ls).get=some (e,sq,l)->frP ds 0 (sp.heap ls) (sq.heap l)/\∀ Bb:Heap,Bb.length=m->SEB P A Bb (.block id body) ⟨sp.rho ls,sp.heap ls,ds⟩ e ⟨sq.rho l,sq.heap l,ds⟩) :
  PrimOK P A (prims.addb f id (hookP sp m ds T)):=hp.addb hf hc hb (E7p hok hs)
end
def bAt(s:List UInt8)(i:Nat):Int:=((s.getD i 0).toNat:Int)
theorem wrap64{n:Int}(h0:-9223372036854775808<=n)(h1:n<=9223372036854775807):IntKind.i64.wrap n=n:=by
 have e:(2:Int)^IntKind.i64.bits=18446744073709551616:=by decide
 have e2:(2:Int)^(IntKind.i64.bits-1)=9223372036854775808:=by decide
 unfold IntKind.wrap
 simp only[e,e2,show IntKind.i64.signed=true from rfl,Bool.true_and,dQ,ge_iff_le]
 split
 ·omega
 ·omega
theorem Tr.br1{α:Type}{b:Bool}{t:Tr α}{v:α}(h:(Tr.br b t .fail).get=some v):b=true/\t.get=some v:=Tr.br_get0 h
end Go.Ad
namespace Go.Ad
section
variable {P:Program} {A:Amb}
end
end Go.Ad
namespace Go.Ad
section
variable {P:Program} {A:Amb}
end
end Go.Ad
namespace Go.Ad
section
variable {P:Program} {A:Amb}
end
end Go.Ad
namespace Go.Ad
section
variable {P:Program} {A:Amb} {B0:Heap}
def A2r(row:Nat->List AV):Nat->List FV:=fun i=>(row i).map AV.fv
structure Frz (Z Z2:Emb) (b:Nat) (h:Array Obj):Prop where
 le:Z.le Z2
 fz:∀ (l:Loc) (arr:Array Value) (e:TypeId) (z:Nat×Nat),Z b=some l->h[l.c]?=some (.cells arr e z)->Z2.fz l.c=some arr.toList
theorem D1f{Z Z2:Emb}{l:Loc}{arr:Array Value}{m es cap:Nat}{row:Nat->List AV}(hfz:Z2.fz l.c=some arr.toList)(hle:Z.le Z2)(hrow:∀ i,i<m->(row i).length=es)(hc:∀ i j a,i<m->(row i)[j]?=some a->∃ x,arr[l.d+(i*es+j)]?=some x/\VR Z a x)(hfv:∀ i,i<m->(row i).all AV.fvB=true)(hsz:l.d+m*es<=arr.size)(hm:0<m)(hcap:m<=cap) :
  VR Z2 (.flist m (A2r row) es) (.slice (some ⟨l.c,l.d,none⟩) m cap):=by
 simp only[VR,FVR]
 refine .inr ⟨hm,l.c,l.d,cap,arr.toList,hfz,hcap,rfl,by simpa using hsz,fun i hi=>?_⟩
 have hie:i*es+es<=m*es:=by rw[<- Nat.succ_mul]; exact Nat.mul_le_mul_right es hi
 refine .of_get ?_ fun j x hj=>?_
 ·simp only[A2r,List.length_map,hrow i hi,List.length_take,List.length_drop,Array.length_toList]; omega
 ·simp only[A2r,List.getElem?_map,oM] at hj
  obtain⟨a,h1,rfl⟩:=hj
  have hje:j<es:=by rw[<- hrow i hi]; exact(gS.1 h1).1
  obtain⟨y,h2,h3⟩:=hc i j a hi h1
  refine⟨y,?_,AV.fv_FVR (List.all_eq_true.1 (hfv i hi) a (List.mem_of_getElem? h1)) (h3.mono hle)⟩
  rw[tK,if_pos hje,dP,Array.getElem?_toList,<- h2]
  congr 1; omega
theorem E1a{Z:Emb}{arr:Array Value}{d n es:Nat}{row:Nat->List AV}{tl:List AV}(hrow:∀ i,i<n->(row i).length=es)(h4:∀ i a,(flat n row++tl)[i]?=some a->∃ v,arr[d+i]?=some v/\VR Z a v):∀ i j a,i<n->(row i)[j]?=some a->∃ x,arr[d+(i*es+j)]?=some x/\VR Z a x:=by
 intro i j a hi hj
 have hje:j<es:=by rw[<- hrow i hi]; exact(gS.1 hj).1
 have hie:i*es+es<=n*es:=by rw[<- Nat.succ_mul]; exact Nat.mul_le_mul_right es hi
 have hl:=G8 hrow
 exact h4 _ a (by rw[gL (by omega),flat_get hje hrow hi]; exact hj)
theorem C6k{Z Z2:Emb}{b n m es:Nat}{row:Nat->List AV}{ty:TypeId}{h:Array Obj}{v:Value}(hf:Frz Z Z2 b h)(ho:∀ l,Z b=some l->OR Z h l (.vec n row es ty))(hm:m<=n)(hfv:∀ i,i<m->(row i).all AV.fvB=true)(hv:VR Z (.sslice b 0 m) v):VR Z2 (.flist m (A2r row) es) v:=by
 simp only[VR] at hv
 rcases hv with⟨h0,l,cap,hl,hcap,_,rfl⟩ | ⟨rfl,rfl⟩
 ·obtain⟨⟨_,hr⟩,_,arr,e,fz,h1,h2,h3,h4,_⟩:=ho l hl
  have hrow:∀ i,i<n->(row i).length=es:=fun i hi=>(hr i hi).1
  have hfl:=G8 hrow
  have hme:m*es<=n*es:=Nat.mul_le_mul_right es hm
  have hat:=E1a (tl:=[]) (d:=l.d) (arr:=arr) (Z:=Z) hrow (by rw[List.append_nil]; exact h4)
  have:=D1f (cap:=cap) (hf.fz l arr e fz hl h1) hf.le (fun i hi=>hrow i (by omega)) (fun i j a hi hj=>hat i j a (by omega) hj) hfv (by omega) h0 hcap
  simpa using this
 ·simp[VR,FVR]
theorem E6c{Z Z2:Emb}{b n m es:Nat}{row:Nat->List AV}{tl:List AV}{ty:TypeId}{h:Array Obj}{v:Value}(hf:Frz Z Z2 b h)(ho:∀ l,Z b=some l->OR Z h l (.tail n row es tl ty))(hm:m<=n)(hfv:∀ i,i<m->(row i).all AV.fvB=true)(hv:VR Z (.sslice b 0 m) v):VR Z2 (.flist m (A2r row) es) v:=by
 simp only[VR] at hv
 rcases hv with⟨h0,l,cap,hl,hcap,_,rfl⟩ | ⟨rfl,rfl⟩
 ·obtain⟨⟨_,hr⟩,_,arr,_,fz,h1,h2,h3,h4,_⟩:=ho l hl
  have hrow:∀ i,i<n->(row i).length=es:=fun i hi=>(hr i hi).1
  have hfl:=G8 hrow
  have hme:m*es<=n*es:=Nat.mul_le_mul_right es hm
  have hat:=E1a (tl:=tl) (d:=l.d) (arr:=arr) (Z:=Z) hrow h4
  rw[lA] at h3
  have:=D1f (cap:=cap) (hf.fz l arr ty fz hl h1) hf.le (fun i hi=>hrow i (by omega)) (fun i j a hi hj=>hat i j a (by omega) hj) hfv (by omega) h0 hcap
  simpa using this
 ·simp[VR,FVR]
theorem Wk.freeze{U U2:List AV}{B B2:Heap}{D:List Nat}{b:Nat}{o:AObj}(hb:B[b]?=some o)(hown:o.own=true)(hdirty:B0.length<=b \/ b∈D)(hlen:B2.length=B.length)(hcells:∀ (Z:Emb) (h:Array Obj) (l:Loc),OR Z h l o->∃ arr,∃ e:TypeId,∃ z,h[l.c]?=some (.cells arr e z))(hob:∀ (x:Nat) (o2:AObj),B2[x]?=some o2->(x=b/\o2=.dead) \/ (x≠b/\∃ o1:AObj,B[x]?=some o1/\(o2.own=true->o1.own=true)/\(o2.live=true->o1.live=true) /\
   ∀ (Z Z2:Emb) (h:Array Obj),Frz Z Z2 b h->(∀ l,Z b=some l->OR Z h l o)->∀ l,OR Z h l o1->OR Z2 h l o2))(hfr:∀ x:Nat,x<B0.length->x∉D->B2[x]?=B[x]?)(hU:∀ (Z Z2:Emb) (h:Array Obj),Frz Z Z2 b h->(∀ l,Z b=some l->OR Z h l o)->∀ vs,VRL Z U vs->VRL Z2 U2 vs):Wk A B0 ⟨U,B,D⟩ ⟨U2,B2,D⟩:=by
 intro Z0 w0 Z w t hd ha hv
 have hst:=ha.step
 have hor:∀ l,Z b=some l->OR Z w.heap l o:=fun l hl=>ha.sim.obj b o l hb hl
 have key:∀ φ:Nat->Option (List Value),Frz Z ⟨Z.bl,φ⟩ b w.heap->(∀ c v,φ c=some v->Z.fz c=some v \/ ∃ l,Z b=some l/\l.c=c/\fzAt w.heap c v)->∃ Z':Emb,After A Z0 Z' B0 B2 D w0 w/\VRL Z' U2 t.toList:=by
  intro φ hf hφ
  refine⟨⟨Z.bl,φ⟩,⟨⟨⟨hst.ext.bl,fun c v hc=>hf.le.fz c v (hst.ext.fz c v hc)⟩,fun x l p q=>?_,hst.size,hst.keep,hst.loops,hst.defs,hst.tape,hst.os,hst.out,fun c v p q=>?_⟩,
   ⟨fun x o2 l hx hl=>?_,ha.sim.lt,fun x y l l' o1 o2 hne hl hl' hx hy g1 g2=>?_,ha.sim.amb,fun x l o2 hl hx g1=>?_,ha.sim.gLe,fun c v hc=>?_,fun c v x l o2 hc hl hx g1=>?_⟩,fun x hx=>ha.dom x (by simp only at hx ⊢; omega),?_⟩,hU Z _ w.heap hf hor _ hv⟩
  ·obtain⟨p1,p2,p3⟩:=hst.dom x l p q
   exact⟨p1,(by have p2':x<B.length:=p2; omega),p3⟩
  ·rcases hφ c v q with q | ⟨l,q1,q2,_⟩
   ·exact hst.fdom c v p q
   ·rcases hdirty with g | g
    ·rcases(hst.dom b l (hd b g) q1).2.2 with r | ⟨b0,r1,l0,r2,r3⟩
     ·exact .inl (by omega)
     ·exact .inr ⟨b0,r1,l0,r2,by omega⟩
    ·cases h0:Z0 b with
     | some l0 =>
      have:=hst.ext b l0 h0
      rw[q1] at this; cases this
      exact .inr ⟨b,g,l,h0,q2⟩
     | none =>
      rcases(hst.dom b l h0 q1).2.2 with r | ⟨b0,r1,l0,r2,r3⟩
      ·exact .inl (by omega)
      ·exact .inr ⟨b0,r1,l0,r2,by omega⟩
  ·rcases hob x o2 hx with⟨_,rfl⟩ | ⟨_,o1,h1,_,_,h4⟩
   ·trivial
   ·exact h4 Z _ w.heap hf hor l (ha.sim.obj x o1 l h1 hl)
  ·rcases hob x o1 hx with⟨_,rfl⟩ | ⟨_,p,h1,h2,_,_⟩
   ·cases g1
   ·rcases hob y o2 hy with⟨_,rfl⟩ | ⟨_,p',h1',_,h3',_⟩
    ·cases g2
    ·exact ha.sim.own x y l l' p p' hne hl hl' h1 h1' (h2 g1) (h3' g2)
  ·rcases hob x o2 hx with⟨_,rfl⟩ | ⟨_,p,h1,h2,_,_⟩
   ·cases g1
   ·exact ha.sim.ownG x l p hl h1 (h2 g1)
  ·rcases hφ c v hc with q | ⟨_,_,_,q⟩
   ·exact ha.sim.fzOK c v q
   ·exact q
  ·rcases hob x o2 hx with⟨_,rfl⟩ | ⟨hne,p,h1,h2,_,_⟩
   ·cases g1
   ·rcases hφ c v hc with q | ⟨lb,q1,rfl,_⟩
    ·exact ha.sim.fzSep c v x l p q hl h1 (h2 g1)
    ·exact ha.sim.own x b l lb p o hne hl q1 h1 hb (h2 g1) (AObj.live_of_own hown)
  ·refine⟨by rw[hlen]; exact ha.fr.1,fun x hx hn=>(hfr x hx hn).trans (ha.fr.2 x hx hn)⟩
 cases hZ:Z b with
 | none =>
  exact key Z.fz ⟨⟨fun _ _ h=>h,fun _ _ h=>h⟩,fun l _ _ _ hl=>by rw[hZ] at hl; cases hl⟩ fun c v hc=>.inl hc
 | some l =>
  obtain⟨arr,e,z,h1⟩:=hcells Z w.heap l (hor l hZ)
  refine key (fun c=>if c=l.c then some arr.toList else Z.fz c) ⟨⟨fun _ _ h=>h,fun c v hc=>?_⟩,fun l' arr' e' z' hl' h'=>?_⟩ fun c v hc=>?_
  ·have:c≠l.c:=fun e=>ha.sim.fzSep c v b l o hc hZ hb hown e.symm
   simp only[if_neg this]; exact hc
  ·rw[hZ] at hl'; cases hl'
   rw[h1] at h'; cases h'
   simp
  ·split at hc
   ·rename_i e1
    cases hc
    subst e1
    exact .inr ⟨l,hZ,rfl,arr,e,z,h1,fun i x hx=>by rw[Array.getElem?_toList] at hx; exact hx⟩
   ·exact .inl hc
def C0v(n:Nat)(row:Nat->List AV)(cs:List AV):Nat->List AV:=fun i=>bif decide (i<n) then row i else cs
theorem E2s(n:Nat)(row:Nat->List AV)(cs:List AV):flat (n+1) (C0v n row cs)=flat n row++cs:=by
 rw[A1o]
 congr 1
 ·have:∀ k,k<=n->flat k (C0v n row cs)=flat k row:=by
   intro k hk
   induction k with
   | zero=>rfl
   | succ k ih=>rw[A1o,A1o,ih (by omega)]; simp[C0v,show k<n by omega]
  exact this n (lR _)
 ·simp[C0v]
theorem OR.absorb{Z Z2:Emb}{h:Array Obj}{l:Loc}{n:Nat}{row:Nat->List AV}{a a2:AV}{tl:List AV}{ty:TypeId}(hle:Z.le Z2)(hp:A0h a2=true)(ha:∀ v,VR Z a v->VR Z2 a2 v)(ho:OR Z h l (.tail n row 1 (a::tl) ty)):OR Z2 h l (.tail (n+1) (C0v n row [a2]) 1 tl ty):=by
 obtain⟨⟨_,hr⟩,h0,arr,_,fz,h1,h2,h3,h4,h5⟩:=ho
 have e:flat (n+1) (C0v n row [a2])++tl=flat n row++(a2::tl):=by rw[E2s]; simp
 refine⟨⟨by omega,fun i hi=>?_⟩,h0,arr,(),fz,h1,h2,by rw[e]; simpa using h3,fun i x hi=>?_,fun ht=>⟨fun he=>by omega,(h5 ht).2⟩⟩
 ·by_cases hin:i<n
  ·simp only[C0v,hin,decide_true,cond_true]; exact hr i hin
  ·simp only[C0v,hin,decide_false,cond_false]; simp[hp]
 ·rw[e] at hi
  by_cases h6:i=(flat n row).length
  ·subst h6
   rw[gR (lR _),Nat.sub_self] at hi
   cases hi
   obtain⟨v,p,q⟩:=h4 (flat n row).length a (by rw[gR (lR _),Nat.sub_self]; rfl)
   exact⟨v,p,ha v q⟩
  ·have:(flat n row++(a::tl))[i]?=some x:=by
    rw[List.getElem?_append] at hi ⊢
    split at hi
    ·rename_i hlt; rw[if_pos hlt]; exact hi
    ·rename_i hlt
     rw[if_neg hlt]
     obtain⟨k,hk⟩:∃ k,i-(flat n row).length=k+1:=⟨i-(flat n row).length-1,by omega⟩
     rw[hk] at hi ⊢
     exact hi
   obtain⟨v,p,q⟩:=h4 i x this
   exact⟨v,p,q.mono hle⟩
inductive Gs where
 /-- The list of lists in a temporary: the first of its last rows is frozen. -/
 | abs (t:Tmp)
 /-- The list in a temporary is frozen. -/
 | frz (t:Tmp)
 /-- As `abs`,where there are two last rows or more. -/
 | abs1 (t:Tmp)
 /-- The list of lists in a temporary: its last row,if it is nil,is told as a list of no rows in a block that does not lie anywhere. -/
 | new (t:Tmp) (es:Nat) (ty:TypeId)
def D6c(m n:Nat)(row:Nat->List AV):Prop:=m<=n/\∀ i,i<m->(row i).all AV.fvB=true
def C4g(t:Tmp)(U:List AV)(B:Heap):Option (Bool×List AV×Heap×List Nat) :=
 match U[t]? with
 | some (.sslice b 0 _) =>
  match B[b]? with
  | some (.tail n row 1 (.sslice b' 0 m::tl) ty) =>
   match B[b']? with
   | some (.vec m' row' es' ty') =>
    if decide (b≠b')&&decide (ty'≠roT) then some (E9 (D6c m m' row'),U,(B.set b (.tail (n+1) (C0v n row [.flist m (A2r row') es']) 1 tl ty)).set b' .dead,[b,b']) else none
   | _=>none
  | some (.tail n row 1 (.slice none _ _::tl) ty)=>some (true,U,B.set b (.tail (n+1) (C0v n row [.flist 0 (fun _=>[]) 0]) 1 tl ty),[b])
  | _=>none
 | _=>none
def two(t:Tmp)(U:List AV)(B:Heap):Bool :=
 match U[t]? with
 | some (.sslice b 0 _) =>
  match B[b]? with
  | some (.tail _ _ 1 (_::_::_) _)=>true
  | _=>false
 | _=>false
def D6u(t:Tmp)(es:Nat)(ty:TypeId)(U:List AV)(B:Heap):Option (Bool×List AV×Heap×List Nat) :=
 match U[t]? with
 | some (.sslice b 0 _) =>
  match B[b]? with
  | some (.tail n row 1 [.slice none _ _] ty')=>some (true,U,B.set b (.tail n row 1 [.sslice B.length 0 0] ty')++[.vec 0 (fun _=>[]) es ty],[b])
  | _=>some (true,U,B,[])
 | _=>some (true,U,B,[])
def Gs.run(g:Gs)(U:List AV)(B:Heap):Option (Bool×List AV×Heap×List Nat) :=
 match g with
 | .abs t=>C4g t U B
 | .abs1 t=>if two t U B then C4g t U B else some (true,U,B,[])
 | .new t es ty=>D6u t es ty U B
 | .frz t =>
  match U[t]? with
  | some (.sslice b 0 m) =>
   match B[b]? with
   | some (.tail n row es [] _)=>some (E9 (D6c m n row),U.set t (.flist m (A2r row) es),B.set b .dead,[b])
   | some (.vec n row es ty)=>if decide (ty≠roT) then some (E9 (D6c m n row),U.set t (.flist m (A2r row) es),B.set b .dead,[b]) else none
   | _=>none
  | _=>none
theorem E1d{Z Z2:Emb}(hle:Z.le Z2){U:List AV}{t:Nat}{a a2:AV}{vs:List Value}(ht:U[t]?=some a)(ha:∀ v,VR Z a v->VR Z2 a2 v)(hv:VRL Z U vs):VRL Z2 (U.set t a2) vs:=by
 refine .of_get (by rw[List.length_set]; exact hv.length) fun i x hi=>?_
 rw[List.getElem?_set] at hi
 split at hi
 ·rename_i e
  subst e
  split at hi
  ·cases hi
   obtain⟨y,q1,q2⟩:=hv.get ht
   exact⟨y,q1,ha y q2⟩
  ·cases hi
 ·obtain⟨y,q1,q2⟩:=hv.get hi
  exact⟨y,q1,q2.mono hle⟩
theorem C1m{t:Tmp}{U U2:List AV}{B B2:Heap}{D bs:List Nat}(h:C4g t U B=some (true,U2,B2,bs))(hd:∀ b,b∈bs->B0.length<=b \/ b∈D):Wk A B0 ⟨U,B,D⟩ ⟨U2,B2,D⟩:=by
 unfold C4g at h
 split at h
 case h_2=>cases h
 rename_i b k ht
 split at h
 ·rename_i n row b' m tl ty hb
  split at h
  case h_2=>cases h
  rename_i m' row' es' ty' hb'
  split at h
  case isFalse=>cases h
  rename_i hc
  simp only[bA,dQ] at hc
  obtain⟨hne,hro⟩:=hc
  simp only[sI,pI] at h
  obtain⟨hp,rfl,rfl,rfl⟩:=h
  have hp:=H6 hp
  have hbl:b<B.length:=(gS.1 hb).1
  have hbl':b'<B.length:=(gS.1 hb').1
  refine Wk.freeze (b:=b') hb' (by simp[AObj.own,hro]) (hd b' (by simp)) (by simp) (fun Z h l ho=>?_) (fun x o2 hx=>?_) (fun x hx hn=>?_) fun Z Z2 h hf _ vs hv=>hv.mono hf.le
  ·obtain⟨_,_,arr,e,z,h1,_⟩:=ho
   exact⟨arr,e,z,h1⟩
  ·by_cases e1:x=b'
   ·subst e1
    rw[List.getElem?_set_self (by simpa using hbl')] at hx
    cases hx; exact .inl ⟨rfl,rfl⟩
   ·rw[gX (Ne.symm e1)] at hx
    by_cases e2:x=b
    ·subst e2
     rw[List.getElem?_set_self hbl] at hx
     cases hx
     exact .inr ⟨e1,_,hb,fun _=>rfl,fun _=>rfl,fun Z Z2 h hf ho l hl=>OR.absorb hf.le rfl (fun v hv=>C6k hf ho hp.1 hp.2 hv) hl⟩
    ·rw[gX (Ne.symm e2)] at hx
     exact .inr ⟨e1,o2,hx,fun h=>h,fun h=>h,fun Z Z2 h hf _ l hl=>hl.keep hf.le rfl⟩
  ·have g1:x≠b:=fun e=>by
    subst e
    rcases hd x (by simp) with q | q
    ·omega
    ·exact hn q
   have g2:x≠b':=fun e=>by
    subst e
    rcases hd x (by simp) with q | q
    ·omega
    ·exact hn q
   rw[gX (Ne.symm g2),gX (Ne.symm g1)]
 ·rename_i n row k' c' tl ty hb
  simp only[sI,pI] at h
  obtain⟨_,rfl,rfl,rfl⟩:=h
  have hbl:b<B.length:=(gS.1 hb).1
  refine Wk.objs (fun _ h=>h) (by simp) (fun x o2 hx=>?_) (fun x hx hn=>?_)
  ·by_cases e2:x=b
   ·subst e2
    rw[List.getElem?_set_self hbl] at hx
    cases hx
    exact⟨_,hb,fun Z h l hl=>OR.absorb Z.le_refl rfl (fun v hv=>by simp only[VR] at hv; rw[hv.2.2]; simp[VR,FVR]) hl,fun _=>rfl,fun _=>rfl⟩
   ·rw[gX (Ne.symm e2)] at hx
    exact⟨o2,hx,fun _ _ _ h=>h,fun h=>h,fun h=>h⟩
  ·have g1:x≠b:=fun e=>by
    subst e
    rcases hd x (by simp) with q | q
    ·omega
    ·exact hn q
   rw[gX (Ne.symm g1)]
 ·cases h
theorem Wk.grow{U:List AV}{B B2:Heap}{D:List Nat}(hlen:B.length<=B2.length)(ho:∀ (b:Nat) (o2:AObj),b<B.length->B2[b]?=some o2->∃ o:AObj,B[b]?=some o/\(∀ (Z:Emb) (h:Array Obj) (l:Loc),OR Z h l o->OR Z h l o2)/\(o2.own=true->o.own=true)/\(o2.live=true->o.live=true))(hfr:∀ b:Nat,b<B0.length->b<B.length->b∉D->B2[b]?=B[b]?):Wk A B0 ⟨U,B,D⟩ ⟨U,B2,D⟩:=by
 intro Z0 w0 Z w t hd ha hv
 have hst:=ha.step
 have hlt:∀ b l,Z b=some l->b<B.length:=fun b l hl=>Nat.lt_of_not_le fun hle=>by rw[ha.dom b hle] at hl; cases hl
 have hob:∀ b l o',Z b=some l->B2[b]?=some o'->∃ o:AObj,B[b]?=some o/\(∀ (Z:Emb) (h:Array Obj) (l:Loc),OR Z h l o->OR Z h l o')/\(o'.own=true->o.own=true)/\(o'.live=true->o.live=true):=fun b l o' hl h=>ho b o' (hlt b l hl) h
 have hlen2:=ha.fr.1
 simp only at hlen2
 refine⟨Z,⟨⟨hst.ext,fun b l p q=>?_,hst.size,hst.keep,hst.loops,hst.defs,hst.tape,hst.os,hst.out,hst.fdom⟩,
  ⟨fun b o l hb hl=>?_,ha.sim.lt,fun b b' l l' o o' hn hl hl' hb hb' g1 g2=>?_,ha.sim.amb,fun b l o hl hb g1=>?_,ha.sim.gLe,ha.sim.fzOK,fun c v b l o hc hl hb g1=>?_⟩,fun b hb=>ha.dom b (by simp only at hb ⊢; omega),⟨?_,fun b hb hn=>(hfr b hb (by omega) hn).trans (ha.fr.2 b hb hn)⟩⟩,hv⟩
 ·obtain⟨p1,p2,p3⟩:=hst.dom b l p q
  exact⟨p1,(by have p2':b<B.length:=p2; simp only; omega),p3⟩
 ·obtain⟨o1,q1,q2,_⟩:=hob b l o hl hb
  exact q2 _ _ _ (ha.sim.obj b o1 l q1 hl)
 ·obtain⟨o1,q1,_,q2,_⟩:=hob b l o hl hb
  obtain⟨o1',q1',_,_,q2'⟩:=hob b' l' o' hl' hb'
  exact ha.sim.own b b' l l' o1 o1' hn hl hl' q1 q1' (q2 g1) (q2' g2)
 ·obtain⟨o1,q1,_,q2,_⟩:=hob b l o hl hb
  exact ha.sim.ownG b l o1 hl q1 (q2 g1)
 ·obtain⟨o1,q1,_,q2,_⟩:=hob b l o hl hb
  exact ha.sim.fzSep c v b l o1 hc hl q1 (q2 g1)
 ·simp only; omega
theorem E3k{t:Tmp}{es:Nat}{ty:TypeId}{U U2:List AV}{B B2:Heap}{D bs:List Nat}(h:D6u t es ty U B=some (true,U2,B2,bs))(hd:∀ b,b∈bs->B0.length<=b \/ b∈D):Wk A B0 ⟨U,B,D⟩ ⟨U2,B2,D⟩:=by
 unfold D6u at h
 split at h
 ·rename_i b k ht
  split at h
  ·rename_i n row k1 k2 ty' hb
   simp only[sI,pI] at h
   obtain⟨_,rfl,rfl,rfl⟩:=h
   have hbl:b<B.length:=(gS.1 hb).1
   refine Wk.grow (by simp) (fun x o2 hx h2=>?_) fun x hx hxl hn=>?_
   ·rw[gL (by simpa using hx)] at h2
    by_cases e:x=b
    ·subst e
     rw[List.getElem?_set_self hbl] at h2
     cases h2
     refine⟨_,hb,fun Z hh l ho=>⟨ho.1,?_⟩,fun _=>rfl,fun _=>rfl⟩
     have ho2:OR Z hh l (.cells (flat n row++[.slice none k1 k2]) 1 true ty'):=ho.2
     refine OR.weaken (c:=flat n row++[.slice none k1 k2]) (by simp) (fun i a' hi=>?_) ho2
     rw[List.getElem?_append] at hi
     split at hi
     ·rename_i hlt
      exact⟨a',by rw[gL hlt]; exact hi,fun _ h=>h⟩
     ·rename_i hlt
      obtain⟨j,hj⟩:∃ j,i-(flat n row).length=j:=⟨_,rfl⟩
      rw[hj] at hi
      cases j with
      | succ j=>simp at hi
      | zero =>
       cases hi
       exact⟨.slice none k1 k2,by rw[gR (by omega),hj]; rfl,fun v hv=>by simp only[VR] at hv ⊢; exact .inr ⟨trivial,hv.2.2⟩⟩
    ·rw[gX (Ne.symm e)] at h2
     exact⟨o2,h2,fun _ _ _ h=>h,fun h=>h,fun h=>h⟩
   ·have g1:x≠b:=fun e=>by
     subst e
     rcases hd x (by simp) with q | q
     ·omega
     ·exact hn q
    rw[gL (by simpa using hxl),gX (Ne.symm g1)]
  ·cases h; exact Wk.refl
 ·cases h; exact Wk.refl
theorem Gs.wk{g:Gs}{U U2:List AV}{B B2:Heap}{D bs:List Nat}(h:g.run U B=some (true,U2,B2,bs))(hd:∀ b,b∈bs->B0.length<=b \/ b∈D):Wk A B0 ⟨U,B,D⟩ ⟨U2,B2,D⟩:=by
 cases g with
 | abs t=>exact C1m h hd
 | abs1 t =>
  simp only[Gs.run] at h
  split at h
  ·exact C1m h hd
  ·cases h; exact Wk.refl
 | new t es ty=>exact E3k h hd
 | frz t =>
  simp only[Gs.run] at h
  split at h
  case h_2=>cases h
  rename_i b m ht
  have fin:∀ (o:AObj) (n es:Nat) (row:Nat->List AV),B[b]?=some o->o.own=true->D6c m n row->(∀ (Z:Emb) (h:Array Obj) (l:Loc),OR Z h l o->∃ arr,∃ e:TypeId,∃ z,h[l.c]?=some (.cells arr e z)) ->
    (∀ (Z Z2:Emb) (h:Array Obj),Frz Z Z2 b h->(∀ l,Z b=some l->OR Z h l o)->∀ v,VR Z (.sslice b 0 m) v->VR Z2 (.flist m (A2r row) es) v) ->
    (∀ b',b'∈[b]->B0.length<=b' \/ b'∈D)->Wk A B0 ⟨U,B,D⟩ ⟨U.set t (.flist m (A2r row) es),B.set b .dead,D⟩:=by
   intro o n es row hb hown hp hcells hval hd
   have hbl:b<B.length:=(gS.1 hb).1
   refine Wk.freeze (b:=b) hb hown (hd b (by simp)) (by simp) hcells (fun x o2 hx=>?_) (fun x hx hn=>?_) fun Z Z2 h hf ho vs hv=>E1d hf.le ht (hval Z Z2 h hf ho) hv
   ·by_cases e1:x=b
    ·subst e1
     rw[List.getElem?_set_self hbl] at hx
     cases hx; exact .inl ⟨rfl,rfl⟩
    ·rw[gX (Ne.symm e1)] at hx
     exact .inr ⟨e1,o2,hx,fun h=>h,fun h=>h,fun Z Z2 h hf _ l hl=>hl.keep hf.le rfl⟩
   ·have g1:x≠b:=fun e=>by
     subst e
     rcases hd x (by simp) with q | q
     ·omega
     ·exact hn q
    rw[gX (Ne.symm g1)]
  split at h
  ·rename_i n row es ty hb
   simp only[sI,pI] at h
   obtain⟨hp,rfl,rfl,rfl⟩:=h
   have hp:=H6 hp
   exact fin _ n es row hb rfl hp (fun Z h l ho=>by obtain⟨_,_,arr,_,z,h1,_⟩:=ho; exact⟨arr,ty,z,h1⟩) (fun Z Z2 h hf ho v hv=>E6c hf ho hp.1 hp.2 hv) hd
  ·rename_i n row es ty hb
   split at h
   case isFalse=>cases h
   rename_i hro
   simp only[sI,pI] at h
   obtain⟨hp,rfl,rfl,rfl⟩:=h
   have hp:=H6 hp
   exact fin _ n es row hb (by simpa[AObj.own] using hro) hp (fun Z h l ho=>by obtain⟨_,_,arr,e,z,h1,_⟩:=ho; exact⟨arr,e,z,h1⟩) (fun Z Z2 h hf ho v hv=>C6k hf ho hp.1 hp.2 hv) hd
  ·cases h
def E6f:List Gs->List AV->Heap->Option (Bool×List AV×Heap×List Nat)
 | [],U,B=>some (true,U,B,[])
 | g::gs,U,B =>
  match g.run U B with
  | some (c,U1,B1,bs)=>match E6f gs U1 B1 with
   | some (c',U2,B2,bs')=>some (c&&c',U2,B2,bs++bs')
   | none=>none
  | none=>none
theorem D9y:∀ {gs:List Gs} {U U2:List AV} {B B2:Heap} {D bs:List Nat},E6f gs U B=some (true,U2,B2,bs)->(∀ b,b∈bs->B0.length<=b \/ b∈D)->Wk A B0 ⟨U,B,D⟩ ⟨U2,B2,D⟩
 | [],_,_,_,_,_,_,h,_=>by simp only[E6f,sI,pI] at h; obtain⟨_,rfl,rfl,rfl⟩:=h; exact Wk.refl
 | g::gs,U,U2,B,B2,D,bs,h,hd=>by
  simp only[E6f] at h
  split at h
  ·rename_i c U1 B1 bs1 h1
   split at h
   ·rename_i c' U3 B3 bs3 h2
    simp only[sI,pI,bA] at h
    obtain⟨⟨rfl,rfl⟩,rfl,rfl,rfl⟩:=h
    exact Wk.trans (Gs.wk h1 fun b hb=>hd b (by simp[hb])) (D9y h2 fun b hb=>hd b (by simp[hb]))
   ·cases h
  ·cases h
def D6w(gs:AEx->List Gs)(sp:AEx->SP)(m:Nat)(ds:List Nat):KE (AEx×List Lf):=fun e U B D =>
 match E6f (gs e) U B with
 | some (c,U1,B1,bs)=>if bs.all (fun b=>decide (m<=b)||ds.contains b) then brK c (H9 sp m ds e U1 B1 D) none else none
 | none=>none
theorem SEB.of_KG{prims:Prims}{bp:Bps}{c:Code}(F7:P.follows .mixedOrders=true)(F9:A0o P)(hp:PrimOK P A prims)(hb:BlkOK P A bp c){U:List AV}{B:Heap}{ds:List Nat}{n m:Nat}{e:AEx}{ls:List Lf}{gs:AEx->List Gs}{sp:AEx->SP}(hm:B0.length=m)(h:E8 P (D5 P prims n) bp c U B (D6w gs sp m ds)=some (e,ls))(hok:okD m ds 0 (sp e).h=true):SEB P A B0 c ⟨U,B,ds⟩ e ⟨(sp e).rho ls,(sp e).heap ls,ds⟩:=by
 obtain⟨e1,U1,B1,D1,h1,h2⟩:=A3n (A3w n) h
 unfold D6w at h2
 split at h2
 ·rename_i c1 U2 B2 bs g1
  split at h2
  ·rename_i hbs
   have hc:c1=true:=by
    cases c1 with
    | true=>rfl
    | false=>cases h2
   subst hc
   have h3:H9 sp m ds e1 U2 B2 D1=some (e,ls):=h2
   have w1:Wk A B0 ⟨U1,B1,ds++D1⟩ ⟨U2,B2,ds++D1⟩:=D9y g1 fun b hb=>by
    have:=List.all_eq_true.1 hbs b hb
    simp only[Bool.or_eq_true,dQ,List.contains_eq_mem] at this
    rcases this with q | q
    ·exact .inl (by omega)
    ·exact .inr (List.mem_append.2 (.inl q))
   unfold H9 at h3
   split at h3
   ·rename_i e2 U3 B3 ds3 h4
    split at h3
    ·rename_i ls' h5
     cases h3
     obtain⟨_,hw⟩:=D6x (A:=A) hm h4
     exact((SEB.of_Ec F7 F9 hp hb h1).wk_out (Wk.trans w1 hw)).wk_out (SP.wk hm hok (fun _ h=>h) h5)
    ·cases h3
   ·cases h3
  ·cases h2
 ·cases h2
end
end Go.Ad
namespace Go.Ad
section
variable {P:Program} {A:Amb} {B0:Heap}
theorem Wk.mov{U U2:List AV}{B:Heap}{D:List Nat}{b:Nat}{o:AObj}(hb:B[b]?=some o)(hD:b∈D)(hU:∀ (Z Z2:Emb),Z.le Z2->Z2 B.length=Z b->∀ vs,VRL Z U vs->VRL Z2 U2 vs):Wk A B0 ⟨U,B,D⟩ ⟨U2,B.set b .dead++[o],D⟩:=by
 intro Z0 w0 Z w t hd ha hv
 have hst:=ha.step
 have hbl:b<B.length:=(gS.1 hb).1
 have hlt:∀ x l,Z x=some l->x<B.length:=fun x l hl=>Nat.lt_of_not_le fun hle=>by rw[ha.dom x hle] at hl; cases hl
 have hnone:Z B.length=none:=ha.dom _ (lR _)
 obtain⟨Z2,hZ2⟩:∃ Z2:Emb,Z2=⟨fun x=>if x=B.length then Z b else Z x,Z.fz⟩:=⟨_,rfl⟩
 have hnew:Z2 B.length=Z b:=by rw[hZ2]; simp
 have hold:∀ x,x≠B.length->Z2 x=Z x:=fun x hx=>by rw[hZ2]; simp[hx]
 have hle:Z.le Z2:=⟨fun x l hx=>by rw[hold x (by have:=hlt x l hx; omega)]; exact hx,fun c v h=>by rw[hZ2]; exact h⟩
 have hfz:Z2.fz=Z.fz:=by rw[hZ2]
 have hlen2:=ha.fr.1
 simp only at hlen2
 have hget:∀ x (o2:AObj),(B.set b .dead++[o])[x]?=some o2->(x=B.length/\o2=o) \/ (x=b/\o2=.dead) \/ (x≠b/\x<B.length/\B[x]?=some o2):=by
  intro x o2 hx
  by_cases h1:x<B.length
  ·rw[gL (by simpa using h1)] at hx
   by_cases h2:x=b
   ·subst h2
    rw[List.getElem?_set_self h1] at hx
    cases hx; exact .inr (.inl ⟨rfl,rfl⟩)
   ·rw[gX (Ne.symm h2)] at hx
    exact .inr (.inr ⟨h2,h1,hx⟩)
  ·rw[gR (by simpa using h1)] at hx
   simp only[List.length_set] at hx
   by_cases h2:x=B.length
   ·subst h2
    simp at hx
    exact .inl ⟨rfl,hx.symm⟩
   ·rw[gO (by simp; omega)] at hx; cases hx
 have hor:∀ x (o2:AObj) l,(B.set b .dead++[o])[x]?=some o2->Z2 x=some l->(o2=.dead) \/ ∃ y,B[y]?=some o2/\Z y=some l/\((x=B.length/\y=b) \/ (x=y/\x≠b)):=by
  intro x o2 l hx hl
  rcases hget x o2 hx with⟨rfl,rfl⟩ | ⟨rfl,rfl⟩ | ⟨h1,h2,h3⟩
  ·rw[hnew] at hl; exact .inr ⟨b,hb,hl,.inl ⟨rfl,rfl⟩⟩
  ·exact .inl rfl
  ·rw[hold x (by omega)] at hl; exact .inr ⟨x,h3,hl,.inr ⟨rfl,h1⟩⟩
 refine⟨Z2,⟨⟨⟨fun x l h=>hle.bl x l (hst.ext.bl x l h),fun c v h=>hle.fz c v (hst.ext.fz c v h)⟩,fun x l p q=>?_,hst.size,hst.keep,hst.loops,hst.defs,hst.tape,hst.os,hst.out,fun c v p q=>hst.fdom c v p (by rw[hfz] at q; exact q)⟩,
  ⟨fun x o2 l hx hl=>?_,fun x l hl=>?_,fun x y l l' o1 o2 hne hl hl' hx hy g1 g2=>?_,ha.sim.amb,fun x l o2 hl hx g1=>?_,ha.sim.gLe,fun c v hc=>ha.sim.fzOK c v (by rw[hfz] at hc; exact hc),fun c v x l o2 hc hl hx g1=>?_⟩,
  fun x hx=>?_,⟨by simp only[lA,List.length_set,List.length_singleton]; omega,fun x hx hn=>?_⟩⟩,hU Z Z2 hle hnew _ hv⟩
 ·by_cases h1:x=B.length
  ·subst h1
   rw[hnew] at q
   refine⟨hlen2,by simp,?_⟩
   cases h0:Z0 b with
   | some l0 =>
    have:=hst.ext b l0 h0
    rw[q] at this; cases this
    exact .inr ⟨b,hD,l,h0,rfl⟩
   | none=>exact(hst.dom b l h0 q).2.2
  ·rw[hold x h1] at q
   obtain⟨p1,p2,p3⟩:=hst.dom x l p q
   exact⟨p1,(by have p2':x<B.length:=p2; simp; omega),p3⟩
 ·rcases hor x o2 l hx hl with rfl | ⟨y,h1,h2,_⟩
  ·trivial
  ·exact(ha.sim.obj y o2 l h1 h2).keep hle rfl
 ·by_cases h1:x=B.length
  ·subst h1; rw[hnew] at hl; exact ha.sim.lt b l hl
  ·rw[hold x h1] at hl; exact ha.sim.lt x l hl
 ·rcases hor x o1 l hx hl with rfl | ⟨x',p1,p2,p3⟩
  ·cases g1
  rcases hor y o2 l' hy hl' with rfl | ⟨y',q1,q2,q3⟩
  ·cases g2
  have hbl':=hlt b
  refine ha.sim.own x' y' l l' o1 o2 (fun e=>?_) p2 q2 p1 q1 g1 g2
  subst e
  rcases p3 with⟨r1,r2⟩ | ⟨r1,r2⟩<;>rcases q3 with⟨s1,s2⟩ | ⟨s1,s2⟩
  ·omega
  ·subst r2; exact s2 s1
  ·subst s2; exact r2 r1
  ·omega
 ·rcases hor x o2 l hx hl with rfl | ⟨x',p1,p2,_⟩
  ·cases g1
  ·exact ha.sim.ownG x' l o2 p2 p1 g1
 ·rcases hor x o2 l hx hl with rfl | ⟨x',p1,p2,_⟩
  ·cases g1
  ·exact ha.sim.fzSep c v x' l o2 (by rw[hfz] at hc; exact hc) p2 p1 g1
 ·simp only[lA,List.length_set,List.length_singleton] at hx
  rw[hold x (by omega)]; exact ha.dom x (by simp only; omega)
 ·have h1:x≠b:=fun e=>hn (by rw[e]; exact hD)
  simp only
  rw[gL (by simp; omega),gX (Ne.symm h1)]
  exact ha.fr.2 x hx hn
theorem D1b{Z:Emb}{n es:Nat}{g g':Nat->List FV}{v:Value}(h:∀ i,i<n->g i=g' i)(hv:VR Z (.flist n g es) v):VR Z (.flist n g' es) v:=by
 simp only[VR,FVR] at hv ⊢
 rcases hv with hv | ⟨h0,c,off,cap,cs,h1,h2,h3,h4,h5⟩
 ·exact .inl hv
 ·exact .inr ⟨h0,c,off,cap,cs,h1,h2,h3,h4,fun i hi=>by rw[<- h i hi]; exact h5 i hi⟩
end
end Go.Ad
namespace Go.Ad
section
variable {P:Program} {A:Amb}
end
section
variable {R:Type}
end
end Go.Ad
namespace Go.Ad
section
variable {P:Program} {A:Amb}
end
end Go.Ad
namespace Go.Ad
section
variable {P:Program} {A:Amb}
def Prims.over(p q:Prims):Prims:=⟨fun f=>match q.fn f with | some g=>some g | none=>p.fn f,fun f=>match q.ext f with | some g=>some g | none=>p.ext f,p.blk⟩
end
end Go.Ad
namespace Go.Ad
end Go.Ad
