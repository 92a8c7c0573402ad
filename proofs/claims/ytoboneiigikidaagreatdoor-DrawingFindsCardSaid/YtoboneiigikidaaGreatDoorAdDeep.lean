/- Lists of rows that never change, as Lean lists: what a list of rows is made from. -/
import Derived.Test.YtoboneiigikidaaGreatDoorAdPat
import Derived.Test.YtoboneiigikidaaGreatDoorAdPrim
noncomputable section
namespace Go.Ad
def A7{α:Type}[Inhabited α](fv:α->List FV)(l:List α):Nat->List FV:=fun i=>fv (l.getD i default)
def okR{α:Type}[Inhabited α](fv:α->List FV)(n:Nat)(row:Nat->List FV):Prop:=∃ l:List α,l.length=n/\A7 fv l=row
open Classical in
def ofR{α:Type}[Inhabited α](fv:α->List FV)(n:Nat)(row:Nat->List FV):List α:=if h:okR fv n row then Classical.choose h else[]
section
variable {α:Type} [Inhabited α] {fv:α->List FV}
theorem D6z(l:List α):okR fv l.length (A7 fv l):=⟨l,rfl,rfl⟩
theorem B9m{n:Nat}{row:Nat->List FV}(h:okR fv n row):(ofR fv n row).length=n/\A7 fv (ofR fv n row)=row:=by
 unfold ofR
 rw[dif_pos h]
 exact Classical.choose_spec h
theorem C3l(inj:∀ a b,fv a=fv b->a=b){l l':List α}(hn:l.length=l'.length)(h:A7 fv l=A7 fv l'):l=l':=by
 refine List.ext_getElem hn fun i h1 h2=>inj _ _ ?_
 have:=congrFun h i
 unfold A7 at this
 simpa[gD,h1,h2] using this
theorem I1(inj:∀ a b,fv a=fv b->a=b)(l:List α):ofR fv l.length (A7 fv l)=l :=
 C3l inj (B9m (D6z l)).1 (B9m (D6z l)).2
end
def B5n{α:Type}[Inhabited α](fv:α->List FV)(es:Nat)(l:List α):FV:=.list l.length (A7 fv l) es
theorem D2i{α:Type}[Inhabited α]{fv:α->List FV}{es:Nat}(inj:∀ a b,fv a=fv b->a=b){l l':List α}(h:B5n fv es l=B5n fv es l'):l=l':=by
 unfold B5n at h
 injection h with h1 h2 _
 exact C3l inj h1 h2
def A9g{α:Type}[Inhabited α](fv:α->List FV)(es:Nat):AV->Option (Bool×List α)
 | .flist n row es'=>if es'=es then some (E9 (okR fv n row),ofR fv n row) else none
 | .slice none _ _=>some (true,[])
 | _=>none
theorem A1b{α:Type}[Inhabited α]{fv:α->List FV}{es:Nat}{a:AV}{l:List α}(h:A9g fv es a=some (true,l)){Z:Emb}{v:Value}(hv:VR Z a v):VR Z (.flist l.length (A7 fv l) es) v:=by
 unfold A9g at h
 split at h
 ·split at h
  ·rename_i n row es' he
   subst he
   simp only[sI,pI] at h
   obtain⟨h1,rfl⟩:=h
   obtain⟨q1,q2⟩:=B9m (H6 h1)
   rw[q1,q2]; exact hv
  ·cases h
 ·simp only[sI,pI,true_and] at h
  subst h
  simp only[VR] at hv
  simp only[VR,FVR,List.length_nil]
  exact .inl ⟨trivial,.inl hv.2.2⟩
 ·cases h
mutual
theorem B5r{Z Z':Emb}(hf:∀ c v,Z.fz c=some v->Z'.fz c=some v):∀ {a:AV} {v:Value} (_:F3 0 a=true) (_:VR Z a v),VR Z' a v
 | .bad,_,_,_=>trivial
 | .bool _,_,_,h | .int _ _,_,_,h | .rng ..,_,_,h | .str _,_,_,h | .sint ..,_,_,h | .sbool _,_,_,h | .sstr _,_,_,h | .lstr ..,_,_,h | .ptr none,_,_,h | .slice none _ _,_,_,h | .map none,_,_,h
 | .nilFunc,_,_,h | .nilIface,_,_,h=>by simpa[VR] using h
 | .flist n row es,_,_,h=>by simp only[VR] at *; exact FVR.mono hf h
 | .fptr cs j,_,_,h=>by
  simp only[VR] at *
  obtain⟨c,off,vs,h1,h2,h3,h4⟩:=h
  exact⟨c,off,vs,hf _ _ h1,h2,h3,FVRL.mono hf h4⟩
 | .sslice b s k,_,hb,h=>by
  simp only[F3,Nat.not_lt_zero,decide_false,Bool.or_false,dQ] at hb
  subst hb
  simp only[VR] at h ⊢
  rcases h with⟨h,_⟩ | h
  ·omega
  ·exact .inr h
 | .dptr b k,_,hb,h=>by
  simp only[F3,Nat.not_lt_zero,decide_false,Bool.or_false,dQ] at hb
  subst hb
  simp only[VR] at h ⊢
  rcases h with⟨h,_⟩ | h
  ·omega
  ·exact .inr h
 | .aslc ..,_,hb,_ | .sptr ..,_,hb,_ | .ptr (some (_,_)),_,hb,_ | .slice (some (_,_)) _ _,_,hb,_ | .map (some _),_,hb,_=>by
  simp[F3] at hb
 | .func f xs ys,_,hb,h=>by
  simp only[VR] at h ⊢
  obtain⟨f',xs',ys',h1,h2,h3,h4⟩:=h
  cases f with
  | yield l=>simp[F3] at hb
  | _ =>
   simp only[F3,bA] at hb
   exact⟨f',xs',ys',h1,h2,A3a hf hb.1 h3,A3a hf hb.2 h4⟩
 | .iface _ a,_,hb,h=>by
  simp only[F3] at hb
  simp only[VR] at h ⊢; obtain⟨x,h1,h2⟩:=h; exact⟨x,h1,B5r hf hb h2⟩
 | .agg _,_,hb,h=>by
  simp only[F3] at hb
  simp only[VR] at h ⊢; obtain⟨x,h1,h2⟩:=h; exact⟨x,h1,A3a hf hb h2⟩
 | .tuple _,_,hb,h=>by
  simp only[F3] at hb
  simp only[VR] at h ⊢; obtain⟨x,h1,h2⟩:=h; exact⟨x,h1,A3a hf hb h2⟩
theorem A3a{Z Z':Emb}(hf:∀ c v,Z.fz c=some v->Z'.fz c=some v):∀ {a:List AV} {v:List Value} (_:I8 0 a=true) (_:VRL Z a v),VRL Z' a v
 | [],_,_,h=>by simpa[VRL] using h
 | a::as,_,hb,h=>by
  simp only[I8,bA] at hb
  simp only[VRL] at h ⊢
  obtain⟨x,xs,h1,h2,h3⟩:=h
  exact⟨x,xs,h1,B5r hf hb.1 h2,A3a hf hb.2 h3⟩
end
def A2o(n:Nat)(φ:Nat->Option (List Value)):Emb:=⟨(B8p n).bl,φ⟩
section
variable {P:Program} {A:Amb}
theorem F1q{h:World}{φ:Nat->Option (List Value)}(G:Nat)(hamb:∀ c,c<A.G->h.heap[c]?=A.base c)(hle:A.G<=h.heap.size)(hG:G<=A.G)(hfz:∀ c v,φ c=some v->fzAt h.heap c v):Sim A (A2o G φ) (Bg G) h.heap:=by
 have h0:=H0l (A:=A) (w:=h) G hamb hle hG
 have dead:∀ b o,(Bg G)[b]?=some o->o=AObj.dead:=fun b o h=>by
  have:=List.mem_of_getElem? h
  simpa[Bg] using(List.mem_replicate.1 this).2
 exact⟨fun b o l hb hl=>by rw[dead b o hb]; trivial,h0.lt,fun b b' l l' o o' _ _ _ hb _ g1 _=>by(rw[dead b o hb] at g1; cases g1),h0.amb,fun b l o _ hb g1=>by(rw[dead b o hb] at g1; cases g1),h0.gLe,hfz,fun c v b l o _ _ hb g1=>by(rw[dead b o hb] at g1; cases g1)⟩
theorem PrimOK.addD{prims:Prims}(F7:P.follows .mixedOrders=true)(F9:A0o P)(hp:PrimOK P A prims)(hG:(gN P)<=A.G){f:FuncId}{g:List AV->Tr AV}{fn:Func}(hf:P.funcs[f]?=some fn)(hc:fn.body.isSome=true)(hg:∀ args v,(g args).get=some v->∃ prims0 args' v' B',PrimOK P A prims0/\(∀ (Z:Emb) (xs:List Value),VRL Z args xs->VRL Z args' xs)/\(∀ (Z:Emb) (x:Value),VR Z v' x->VR Z v x)/\I8 0 args'=true/\F3 0 v'=true /\
   Ca P prims0 f args' (Bg (gN P)) (v',B',[])):PrimOK P A (prims.addt f g):=by
 refine hp.put hf hc fun args B v B' D h=>?_
 rw[Tr.get_plain] at h
 refine⟨A0a h,fun Z w xs hs hd _ hx=>?_⟩
 unfold only at h
 simp only[oM,pI] at h
 obtain⟨v1,h1,rfl,rfl,rfl⟩:=h
 obtain⟨prims0,args',v',B',hp0,h2,h3,h4,h5,h6⟩:=hg args _ h1
 refine((CallT.of_Ca F7 F9 hp0 h6).2 (A2o (gN P) Z.fz) w xs (F1q _ hs.amb hs.gLe hG hs.fzOK) (D5s _) C2p (A3a (Z:=Z) (Z':=A2o (gN P) Z.fz) (fun _ _ h=>h) h4 (h2 Z _ hx))).mono fun e w'=>?_
 rintro⟨y,Z1,rfl,q1,q2⟩
 have hst:=q2.step
 have hk:∀ c,c<w.heap.size->w'.heap[c]?=w.heap[c]?:=fun c hc=>hst.keep c hc fun _ h=>by cases h
 have hext:∀ c v,Z.fz c=some v->Z1.fz c=some v:=hst.ext.fz
 have hle:Z.le ⟨Z.bl,Z1.fz⟩:=⟨fun _ _ h=>h,hext⟩
 refine⟨y,⟨Z.bl,Z1.fz⟩,rfl,h3 _ y (B5r (Z:=Z1) (Z':=⟨Z.bl,Z1.fz⟩) (fun _ _ h=>h) h5 q1),⟨⟨hle,fun b l p q=>(by(have p2:Z.bl b=Option.none:=p); rw[show(⟨Z.bl,Z1.fz⟩:Emb) b=Z.bl b from rfl,p2] at q; cases q),hst.size,fun c hc _=>hk c hc,hst.loops,hst.defs,hst.tape,hst.os,hst.out,fun c v p q=>?_⟩,⟨fun b o l hb hl=>?_,fun b l hl=>?_,hs.own,q2.sim.amb,hs.ownG,q2.sim.gLe,q2.sim.fzOK,fun c v b l o p hl hb g1=>?_⟩,hd,.refl _⟩⟩
 ·rcases hst.fdom c v p q with h | ⟨b0,h,_⟩
  ·exact .inl h
  ·cases h
 ·exact(hs.obj b o l hb hl).keep hle (hk _ (hs.lt b l hl))
 ·exact Nat.lt_of_lt_of_le (hs.lt b l hl) hst.size
 ·cases hq:Z.fz c with
  | some v'=>exact hs.fzSep c v' b l o hq hl hb g1
  | none =>
   rcases hst.fdom c v hq p with h | ⟨b0,h,_⟩
   ·have:=hs.lt b l hl; omega
   ·cases h
def fzW(W:World):Nat->Option (List Value):=fun c=>match W.heap[c]? with
 | some (.cells arr _ _)=>some arr.toList
 | _=>none
theorem D6d{W:World}{c:Nat}{v:List Value}(h:fzW W c=some v):fzAt W.heap c v:=by
 unfold fzW at h
 split at h
 ·rename_i arr e z hc
  cases h
  exact⟨arr,e,z,hc,fun i x hi=>by simpa using hi⟩
 ·cases h
theorem E8f(F7:P.follows .mixedOrders=true)(F9:A0o P){W:World}{prims:Prims}(hp:PrimOK P (ambOf W) prims)(hG:(gN P)<=W.heap.size){n:Nat}{f:FuncId}{args:List AV}(h:(D5 P prims n).call f args (Bg (gN P)) D1n=some ())(xs:Array Value)(hx:VRL (A2o (gN P) (fzW W)) args xs.toList) :
  Calls P f xs W fun e W'=>e=.returned (.bool true)/\RowKit.Below W.heap.size W W':=by
 obtain⟨v,B',D,h1,h2⟩:=(A3w n).call _ _ _ _ _ h
 obtain⟨rfl,hv⟩:=D6f h2
 refine((CallT.of_Ca F7 F9 hp h1).2 (A2o (gN P) (fzW W)) W xs (F1q _ (fun _ _=>rfl) (lR _) hG fun _ _ h=>D6d h) (D5s _) C2p hx).mono fun e w'=>?_
 rintro⟨v',Z',rfl,hv1,haft⟩
 have hv':v'=.bool true:=by rcases hv with rfl | rfl<;>simpa only[VR] using hv1
 exact⟨by rw[hv'],haft.step.os,haft.step.tape,haft.step.out,haft.step.size,fun c hc=>haft.step.keep c hc (fun _ h=>by cases h)⟩
end
structure Par (β:Type) where
 get:List AV->Option (Bool×β)
 av:β->List AV
 ok:∀ {l:List AV} {x:β},get l=some (true,x)->∀ {Z:Emb} {vs:List Value},VRL Z l vs->VRL Z (av x) vs
 free:∀ x,I8 0 (av x)=true
def M8{β:Type}(p:Par β)(V:β->Tr AV):List AV->Tr AV:=fun args=>match p.get args with
 | some (c,x)=>.br c (V x) .fail
 | none=>.fail
theorem PrimOK.addPar{P:Program}{A:Amb}{prims prims0:Prims}{β:Type}(p:Par β)(V:β->Tr AV)(F7:P.follows .mixedOrders=true)(F9:A0o P)(hp0:PrimOK P A prims0)(hp:PrimOK P A prims)(hG:(gN P)<=A.G){f:FuncId}{fn:Func}(hf:P.funcs[f]?=some fn)(hc:fn.body.isSome=true)(h:∀ x v,(V x).get=some v->∃ v',F3 0 v'=true/\(∀ (Z:Emb) y,VR Z v' y->VR Z v y)/\∃ n,(D5 P prims0 n).call f (p.av x) (Bg (gN P)) F8=some v'):PrimOK P A (prims.addt f (M8 p V)):=by
 refine PrimOK.addD F7 F9 hp hG hf hc fun args v hv=>?_
 unfold M8 at hv
 split at hv
 ·rename_i c x hx
  obtain⟨rfl,hv⟩:=Tr.br1 hv
  obtain⟨v',h1,h2,n,h3⟩:=h x v hv
  obtain⟨B',hca⟩:=Ca.of_finV h3
  exact⟨prims0,p.av x,v',B',hp0,fun Z xs hx2=>p.ok hx hx2,h2,p.free x,h1,hca⟩
 ·cases hv
end Go.Ad
namespace Go.Ad
structure Dat where
 s:List UInt8
 m:Int
 deriving Inhabited
structure Frm where
 k:Int
 d:Bool
 t:Int
 m:Int
 l:List Dat
 deriving Inhabited
structure Fea where
 s:List UInt8
 k:Int
 a:Int
 x:Int
 y:Int
 z:Int
 lo:Int
 hi:Int
 l:List Frm
 deriving Inhabited
structure Dim where
 f:List UInt8
 t:List UInt8
 a:Int
 lo:Int
 hi:Int
 deriving Inhabited
structure Drw where
 s:List UInt8
 l:List Fea
 m:List Dim
 deriving Inhabited
def Dat.fv(x:Dat):List FV:=[.str x.s,.int .i64 x.m]
def Frm.fv(x:Frm):List FV:=[.int .i64 x.k,.bool x.d,.int .i64 x.t,.int .i64 x.m,B5n Dat.fv 2 x.l]
def Fea.fv(x:Fea):List FV:=[.str x.s,.int .i64 x.k,.int .i64 x.a,.int .i64 x.x,.int .i64 x.y,.int .i64 x.z,.int .i64 x.lo,.int .i64 x.hi,B5n Frm.fv 5 x.l]
def Dim.fv(x:Dim):List FV:=[.str x.f,.str x.t,.int .i64 x.a,.int .i64 x.lo,.int .i64 x.hi]
theorem Dat.inj(a b:Dat)(h:a.fv=b.fv):a=b:=by
 cases a; cases b; simp only[Dat.fv,List.cons.injEq,FV.str.injEq,FV.int.injEq] at h; simp[h]
theorem Frm.inj(a b:Frm)(h:a.fv=b.fv):a=b:=by
 cases a; cases b
 simp only[Frm.fv,List.cons.injEq,FV.bool.injEq,FV.int.injEq] at h
 obtain⟨⟨_,rfl⟩,rfl,⟨_,rfl⟩,⟨_,rfl⟩,h,_⟩:=h
 rw[D2i Dat.inj h]
theorem Fea.inj(a b:Fea)(h:a.fv=b.fv):a=b:=by
 cases a; cases b
 simp only[Fea.fv,List.cons.injEq,FV.str.injEq,FV.int.injEq] at h
 obtain⟨rfl,⟨_,rfl⟩,⟨_,rfl⟩,⟨_,rfl⟩,⟨_,rfl⟩,⟨_,rfl⟩,⟨_,rfl⟩,⟨_,rfl⟩,h,_⟩:=h
 rw[D2i Frm.inj h]
theorem Dim.inj(a b:Dim)(h:a.fv=b.fv):a=b:=by
 cases a; cases b; simp only[Dim.fv,List.cons.injEq,FV.str.injEq,FV.int.injEq] at h; simp[h]
abbrev F9c(l:List Dat):AV:=.flist l.length (A7 Dat.fv l) 2
abbrev B4o(l:List Frm):AV:=.flist l.length (A7 Frm.fv l) 5
abbrev F9i(l:List Fea):AV:=.flist l.length (A7 Fea.fv l) 9
abbrev D9s(l:List Dim):AV:=.flist l.length (A7 Dim.fv l) 5
def Frm.av(x:Frm):List AV:=[.sint .i64 x.k,.sbool x.d,.sint .i64 x.t,.sint .i64 x.m,F9c x.l]
def Fea.av(x:Fea):List AV:=[.sstr x.s,.sint .i64 x.k,.sint .i64 x.a,.sint .i64 x.x,.sint .i64 x.y,.sint .i64 x.z,.sint .i64 x.lo,.sint .i64 x.hi,B4o x.l]
def Dim.av(x:Dim):List AV:=[.sstr x.f,.sstr x.t,.sint .i64 x.a,.sint .i64 x.lo,.sint .i64 x.hi]
def Drw.av(x:Drw):List AV:=[.sstr x.s,F9i x.l,D9s x.m]
def i64?(a:AV):Option Int:=match Q9 a with
 | some (.i64,n)=>some n
 | _=>none
theorem M9{Z:Emb}{a:AV}{n:Int}(h:i64? a=some n){v:Value}(hv:VR Z a v):VR Z (.sint .i64 n) v:=by
 unfold i64? at h
 split at h
 ·rename_i m hs
  cases h
  simp only[VR]; exact L6 hs hv
 ·cases h
theorem A0l{Z:Emb}{a:AV}{s:List UInt8}(h:sstr? a=some s){v:Value}(hv:VR Z a v):VR Z (.sstr s) v:=by simp only[VR]; exact N8 h hv
theorem C3m{Z:Emb}{a:AV}{b:Bool}(h:sbool? a=some b){v:Value}(hv:VR Z a v):VR Z (.sbool b) v:=by simp only[VR]; exact A5o h hv
def D6b:List AV->Option (Bool×Frm)
 | [a,b,c,d,e]=>match i64? a,sbool? b,i64? c,i64? d,A9g Dat.fv 2 e with
  | some k,some u,some t,some m,some (q,l)=>some (q,⟨k,u,t,m,l⟩)
  | _,_,_,_,_=>none
 | _=>none
def C1f:List AV->Option (Bool×Fea)
 | [a,b,c,d,e,f,g,h,i]=>match sstr? a,i64? b,i64? c,i64? d,i64? e,i64? f,i64? g,i64? h,A9g Frm.fv 5 i with
  | some s,some k,some a,some x,some y,some z,some lo,some hi,some (q,l)=>some (q,⟨s,k,a,x,y,z,lo,hi,l⟩)
  | _,_,_,_,_,_,_,_,_=>none
 | _=>none
def E5g:List AV->Option Dim
 | [a,b,c,d,e]=>match sstr? a,sstr? b,i64? c,i64? d,i64? e with
  | some f,some t,some a,some lo,some hi=>some ⟨f,t,a,lo,hi⟩
  | _,_,_,_,_=>none
 | _=>none
def D0q:List AV->Option (Bool×Drw)
 | [a,b,c]=>match sstr? a,A9g Fea.fv 9 b,A9g Dim.fv 5 c with
  | some s,some (q,l),some (r,m)=>some (q&&r,⟨s,l,m⟩)
  | _,_,_=>none
 | _=>none
theorem D9w{l:List AV}{x:Frm}(h:D6b l=some (true,x)){Z:Emb}{vs:List Value}(hv:VRL Z l vs):VRL Z x.av vs:=by
 unfold D6b at h
 split at h
 ·split at h
  ·rename_i k u t m q l q1 q2 q3 q4 q5
   simp only[sI,pI] at h
   obtain⟨rfl,rfl⟩:=h
   simp only[VRL] at hv
   obtain⟨y1,l1,rfl,r1,y2,l2,rfl,r2,y3,l3,rfl,r3,y4,l4,rfl,r4,y5,l5,rfl,r5,r6⟩:=hv
   simp only[Frm.av,VRL]
   exact⟨y1,_,rfl,M9 q1 r1,y2,_,rfl,C3m q2 r2,y3,_,rfl,M9 q3 r3,y4,_,rfl,M9 q4 r4,y5,_,rfl,A1b q5 r5,r6⟩
  ·cases h
 ·cases h
theorem B2e{l:List AV}{x:Fea}(h:C1f l=some (true,x)){Z:Emb}{vs:List Value}(hv:VRL Z l vs):VRL Z x.av vs:=by
 unfold C1f at h
 split at h
 ·split at h
  ·rename_i s k a x y z lo hi q l q1 q2 q3 q4 q5 q6 q7 q8 q9
   simp only[sI,pI] at h
   obtain⟨rfl,rfl⟩:=h
   simp only[VRL] at hv
   obtain⟨y1,l1,rfl,r1,y2,l2,rfl,r2,y3,l3,rfl,r3,y4,l4,rfl,r4,y5,l5,rfl,r5,y6,l6,rfl,r6,y7,l7,rfl,r7,y8,l8,rfl,r8,y9,l9,rfl,r9,r10⟩:=hv
   simp only[Fea.av,VRL]
   exact⟨y1,_,rfl,A0l q1 r1,y2,_,rfl,M9 q2 r2,y3,_,rfl,M9 q3 r3,y4,_,rfl,M9 q4 r4,y5,_,rfl,M9 q5 r5,y6,_,rfl,M9 q6 r6,y7,_,rfl,M9 q7 r7,y8,_,rfl,M9 q8 r8,y9,_,rfl,A1b q9 r9,r10⟩
  ·cases h
 ·cases h
theorem C6c{l:List AV}{x:Dim}(h:E5g l=some x){Z:Emb}{vs:List Value}(hv:VRL Z l vs):VRL Z x.av vs:=by
 unfold E5g at h
 split at h
 ·split at h
  ·rename_i q1 q2 q3 q4 q5
   cases h
   simp only[VRL] at hv
   obtain⟨y1,l1,rfl,r1,y2,l2,rfl,r2,y3,l3,rfl,r3,y4,l4,rfl,r4,y5,l5,rfl,r5,r6⟩:=hv
   simp only[Dim.av,VRL]
   exact⟨y1,_,rfl,A0l q1 r1,y2,_,rfl,A0l q2 r2,y3,_,rfl,M9 q3 r3,y4,_,rfl,M9 q4 r4,y5,_,rfl,M9 q5 r5,r6⟩
  ·cases h
 ·cases h
theorem C6d{l:List AV}{x:Drw}(h:D0q l=some (true,x)){Z:Emb}{vs:List Value}(hv:VRL Z l vs):VRL Z x.av vs:=by
 unfold D0q at h
 split at h
 ·split at h
  ·rename_i s q l r m q1 q2 q3
   simp only[sI,pI,bA] at h
   obtain⟨⟨rfl,rfl⟩,rfl⟩:=h
   simp only[VRL] at hv
   obtain⟨y1,l1,rfl,r1,y2,l2,rfl,r2,y3,l3,rfl,r3,r4⟩:=hv
   simp only[Drw.av,VRL]
   exact⟨y1,_,rfl,A0l q1 r1,y2,_,rfl,A1b q2 r2,y3,_,rfl,A1b q3 r3,r4⟩
  ·cases h
 ·cases h
end Go.Ad
