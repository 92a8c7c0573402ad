/- How abstract values and an abstract heap stand to the model's: an embedding of abstract blocks, and what a step keeps. -/
import Derived.Test.YtoboneiigikidaaGreatDoorAdCore
namespace Go.Ad
structure Loc where
 c:Nat
 d:Nat
 n:Nat
 es:Nat
structure Emb where
 bl:Nat->Option Loc
 fz:Nat->Option (List Value)
instance:CoeFun Emb fun _=>Nat->Option Loc:=⟨Emb.bl⟩
def FR(Z:Emb):Fn->Fn->Prop
 | .yield l,f=>∃ lo,Z l=some lo/\f=.yield lo.c
 | a,f=>f=a
mutual
def FVR(φ:Nat->Option (List Value)):FV->Value->Prop
 | .int k n,v=>v=.int k n
 | .bool b,v=>v=.bool b
 | .str s,v=>∃ b:ByteArray,b.data.toList=s/\v=.string b
 | .list n row es,v=>(n=0/\(v=.slice none 0 0 \/ ∃ (a:Addr) (cap:Nat),v=.slice (some a) 0 cap)) \/ (0<n/\∃ (c off cap:Nat) (cs:List Value),φ c=some cs/\n<=cap/\v=.slice (some ⟨c,off,none⟩) n cap/\off+n*es<=cs.length /\
   ∀ i,i<n->FVRL φ (row i) ((cs.drop (off+i*es)).take es))
def FVRL(φ:Nat->Option (List Value)):List FV->List Value->Prop
 | [],l=>l=[]
 | a::as,l=>∃ x xs,l=x::xs/\FVR φ a x/\FVRL φ as xs
end
mutual
def VR(Z:Emb):AV->Value->Prop
 | .bad,_=>True
 | .bool b,v=>v=.bool b
 | .int k n,v=>v=.int k n
 | .rng k n lo hi,v=>v=.int k n/\lo<=n/\n<=hi
 | .str s,v=>∃ b:ByteArray,b.data.toList=s/\v=.string b
 | .sint k n,v=>v=.int k n
 | .sbool b,v=>v=.bool b
 | .sstr s,v=>∃ b:ByteArray,b.data.toList=s/\v=.string b
 | .lstr s lo hi,v=>(∃ b:ByteArray,b.data.toList=s/\v=.string b)/\lo<=s.length/\s.length<=hi
 | .ptr none,v=>v=.pointer none
 | .ptr (some (b,o)),v=>∃ l,Z b=some l/\v=.pointer (some ⟨l.c,l.d+o,none⟩)
 | .slice none n m,v=>n=0/\m=0/\v=.slice none 0 0
 | .slice (some (b,o)) n m,v=>∃ l cap off,Z b=some l/\n<=m/\m<=cap/\(off=l.d+o \/ m=0)/\l.d<=off/\off+cap*l.es<=l.n /\
   v=.slice (some ⟨l.c,off,none⟩) n cap
 | .sslice b s n,v=>(0<n/\∃ l cap,Z b=some l/\n<=cap/\l.d+s*l.es+cap*l.es<=l.n/\v=.slice (some ⟨l.c,l.d+s*l.es,none⟩) n cap) \/ (n=0/\v=.slice none 0 0)
 | .aslc b s n,v=>∃ l cap off,Z b=some l/\n<=n/\n<=cap/\(off=l.d+s \/ n=0)/\l.d<=off/\off+cap*l.es<=l.n /\
   v=.slice (some ⟨l.c,off,none⟩) n cap
 | .sptr b i j,v=>∃ l,Z b=some l/\v=.pointer (some ⟨l.c,l.d+(i*l.es+j),none⟩)
 | .dptr b n,v=>(0<n/\∃ l,Z b=some l/\v=.pointer (some ⟨l.c,l.d,none⟩)) \/ (n=0/\v=.pointer none)
 | .flist n row es,v=>FVR Z.fz (.list n row es) v
 | .fptr cs j,v=>∃ (c off:Nat) (vs:List Value),Z.fz c=some vs/\v=.pointer (some ⟨c,off+j,none⟩)/\off+cs.length<=vs.length/\FVRL Z.fz cs ((vs.drop off).take cs.length)
 | .map none,v=>v=.map none
 | .map (some b),v=>∃ l,Z b=some l/\v=.map (some l.c)
 | .func f xs ys,v=>∃ f' xs' ys',v=.func f' xs' ys'/\FR Z f f'/\VRL Z xs xs'.toList/\VRL Z ys ys'.toList
 | .nilFunc,v=>v=.nilFunc
 | .iface t a,v=>∃ x,v=.iface t x/\VR Z a x
 | .nilIface,v=>v=.nilIface
 | .agg xs,v=>∃ xs',v=.agg xs'/\VRL Z xs xs'.toList
 | .tuple xs,v=>∃ xs',v=.tuple xs'/\VRL Z xs xs'.toList
def VRL(Z:Emb):List AV->List Value->Prop
 | [],l=>l=[]
 | a::as,l=>∃ x xs,l=x::xs/\VR Z a x/\VRL Z as xs
end
structure Emb.le (Z Z':Emb):Prop where
 bl:∀ b l,Z b=some l->Z' b=some l
 fz:∀ c v,Z.fz c=some v->Z'.fz c=some v
instance {Z Z':Emb}:CoeFun (Z.le Z') fun _=>∀ b l,Z b=some l->Z' b=some l:=⟨Emb.le.bl⟩
theorem Emb.le_refl(Z:Emb):Z.le Z:=⟨fun _ _ h=>h,fun _ _ h=>h⟩
theorem Emb.le_trans{a b c:Emb}(h:a.le b)(h':b.le c):a.le c:=⟨fun x l e=>h' x l (h x l e),fun x l e=>h'.fz x l (h.fz x l e)⟩
theorem FR.mono{Z Z':Emb}(h:Z.le Z'){f f':Fn}(hf:FR Z f f'):FR Z' f f':=by
 cases f<;>simp only[FR] at*<;> first | exact hf | (obtain⟨lo,h1,h2⟩:=hf; exact⟨lo,h _ _ h1,h2⟩)
mutual
theorem FVR.mono{φ φ':Nat->Option (List Value)}(h:∀ c v,φ c=some v->φ' c=some v):∀ {a:FV} {v:Value},FVR φ a v->FVR φ' a v
 | .int _ _,_,hv=>by simpa only[FVR] using hv
 | .bool _,_,hv=>by simpa only[FVR] using hv
 | .str _,_,hv=>by simpa only[FVR] using hv
 | .list n row es,v,hv=>by
  simp only[FVR] at hv ⊢
  rcases hv with hv | ⟨h0,c,off,cap,cs,h1,h2,h3,h4,h5⟩
  ·exact .inl hv
  ·exact .inr ⟨h0,c,off,cap,cs,h _ _ h1,h2,h3,h4,fun i hi=>FVRL.mono h (h5 i hi)⟩
theorem FVRL.mono{φ φ':Nat->Option (List Value)}(h:∀ c v,φ c=some v->φ' c=some v):∀ {a:List FV} {v:List Value},FVRL φ a v->FVRL φ' a v
 | [],_,hv=>by simpa only[FVRL] using hv
 | a::as,_,hv=>by
  simp only[FVRL] at hv ⊢
  obtain⟨x,xs,h1,h2,h3⟩:=hv
  exact⟨x,xs,h1,FVR.mono h h2,FVRL.mono h h3⟩
end
theorem FVRL.length{φ:Nat->Option (List Value)}:∀ {a:List FV} {v:List Value},FVRL φ a v->v.length=a.length
 | [],_,h=>by simp only[FVRL] at h; simp[h]
 | a::as,_,h=>by
  simp only[FVRL] at h; obtain⟨x,xs,rfl,_,h3⟩:=h; simp[FVRL.length h3]
theorem FVRL.get{φ:Nat->Option (List Value)}:∀ {a:List FV} {v:List Value},FVRL φ a v->∀ {i:Nat} {x:FV},a[i]?=some x->∃ y,v[i]?=some y/\FVR φ x y
 | [],_,_,_,_,hi=>by simp at hi
 | a::as,_,h,i,x,hi=>by
  simp only[FVRL] at h; obtain⟨y,ys,rfl,h2,h3⟩:=h
  cases i with
  | zero=>simp at hi; subst hi; exact⟨y,by simp,h2⟩
  | succ i=>simp at hi; simpa using FVRL.get h3 hi
theorem FVRL.of_get{φ:Nat->Option (List Value)}:∀ {a:List FV} {v:List Value},v.length=a.length->(∀ (i:Nat) (x:FV),a[i]?=some x->∃ y,v[i]?=some y/\FVR φ x y)->FVRL φ a v
 | [],v,h,_=>by simp only[FVRL]; cases v with | nil=>rfl | cons=>simp at h
 | a::as,v,h,hg=>by
  cases v with
  | nil=>simp at h
  | cons y ys =>
   simp only[FVRL]
   refine⟨y,ys,rfl,?_,FVRL.of_get (by simpa using h) fun i x hi=>?_⟩
   ·obtain⟨z,h1,h2⟩:=hg 0 a (by simp); simp at h1; subst h1; exact h2
   ·obtain⟨z,h1,h2⟩:=hg (i+1) x (by simpa using hi); exact⟨z,by simpa using h1,h2⟩
mutual
theorem VR.mono{Z Z':Emb}(h:Z.le Z'):∀ {a:AV} {v:Value},VR Z a v->VR Z' a v
 | .bad,_,_=>trivial
 | .bool _,_,hv=>by simpa[VR] using hv
 | .int _ _,_,hv=>by simpa[VR] using hv
 | .rng ..,_,hv=>by simpa[VR] using hv
 | .str _,_,hv=>by simpa[VR] using hv
 | .sint ..,_,hv=>by simpa[VR] using hv
 | .sbool _,_,hv=>by simpa[VR] using hv
 | .sstr _,_,hv=>by simpa[VR] using hv
 | .lstr ..,_,hv=>by simpa[VR] using hv
 | .ptr none,_,hv=>by simpa[VR] using hv
 | .ptr (some (b,o)),_,hv=>by
  simp only[VR] at *; obtain⟨l,h1,h2⟩:=hv; exact⟨l,h _ _ h1,h2⟩
 | .slice none _ _,_,hv=>by simpa[VR] using hv
 | .slice (some (b,o)) _ _,_,hv=>by
  simp only[VR] at *; obtain⟨l,c,off,h1,h2⟩:=hv; exact⟨l,c,off,h _ _ h1,h2⟩
 | .sslice b s n,_,hv=>by
  simp only[VR] at *
  rcases hv with⟨h0,l,c,h1,h2⟩ | hv
  ·exact .inl ⟨h0,l,c,h _ _ h1,h2⟩
  ·exact .inr hv
 | .aslc b s n,_,hv=>by
  simp only[VR] at *; obtain⟨l,c,off,h1,h2⟩:=hv; exact⟨l,c,off,h _ _ h1,h2⟩
 | .sptr b i j,_,hv=>by
  simp only[VR] at *; obtain⟨l,h1,h2⟩:=hv; exact⟨l,h _ _ h1,h2⟩
 | .dptr b n,_,hv=>by
  simp only[VR] at *
  rcases hv with⟨h0,l,h1,h2⟩ | hv
  ·exact .inl ⟨h0,l,h _ _ h1,h2⟩
  ·exact .inr hv
 | .flist n row es,_,hv=>by simp only[VR] at *; exact FVR.mono h.fz hv
 | .fptr cs j,_,hv=>by
  simp only[VR] at *; obtain⟨c,off,vs,h1,h2,h3,h4⟩:=hv; exact⟨c,off,vs,h.fz _ _ h1,h2,h3,FVRL.mono h.fz h4⟩
 | .map none,_,hv=>by simpa[VR] using hv
 | .map (some b),_,hv=>by
  simp only[VR] at *; obtain⟨l,h1,h2⟩:=hv; exact⟨l,h _ _ h1,h2⟩
 | .func f xs ys,_,hv=>by
  simp only[VR] at *
  obtain⟨f',xs',ys',h1,h2,h3,h4⟩:=hv
  exact⟨f',xs',ys',h1,h2.mono h,VRL.mono h h3,VRL.mono h h4⟩
 | .nilFunc,_,hv=>by simpa[VR] using hv
 | .iface _ a,_,hv=>by
  simp only[VR] at *; obtain⟨x,h1,h2⟩:=hv; exact⟨x,h1,VR.mono h h2⟩
 | .nilIface,_,hv=>by simpa[VR] using hv
 | .agg _,_,hv=>by
  simp only[VR] at *; obtain⟨x,h1,h2⟩:=hv; exact⟨x,h1,VRL.mono h h2⟩
 | .tuple _,_,hv=>by
  simp only[VR] at *; obtain⟨x,h1,h2⟩:=hv; exact⟨x,h1,VRL.mono h h2⟩
theorem VRL.mono{Z Z':Emb}(h:Z.le Z'):∀ {a:List AV} {v:List Value},VRL Z a v->VRL Z' a v
 | [],_,hv=>by simpa[VRL] using hv
 | a::as,_,hv=>by
  simp only[VRL] at *
  obtain⟨x,xs,h1,h2,h3⟩:=hv
  exact⟨x,xs,h1,VR.mono h h2,VRL.mono h h3⟩
end
theorem FVR.shape{φ:Nat->Option (List Value)}{n:Nat}{row:Nat->List FV}{es:Nat}{v:Value}(h:FVR φ (.list n row es) v):v=.slice none 0 0 \/ ∃ a cap,v=.slice (some a) n cap:=by
 simp only[FVR] at h
 rcases h with⟨rfl,h | ⟨a,cap,h⟩⟩ | ⟨_,c,off,cap,_,_,_,h,_⟩
 ·exact .inl h
 ·exact .inr ⟨a,cap,h⟩
 ·exact .inr ⟨_,cap,h⟩
theorem FV.av_VR{Z:Emb}{a:FV}{v:Value}(h:FVR Z.fz a v):VR Z a.av v:=by
 cases a<;>simp only[FVR] at h<;>simp only[FV.av,VR,FVR]<;>exact h
theorem AV.fv_FVR{Z:Emb}{a:AV}{v:Value}(hb:a.fvB=true)(h:VR Z a v):FVR Z.fz a.fv v:=by
 cases a<;>simp only[AV.fvB,Bool.false_eq_true] at hb<;>simp only[VR] at h<;>simp only[AV.fv,FVR]<;>first | exact h | exact h.1
theorem VRL.length{Z:Emb}:∀ {a:List AV} {v:List Value},VRL Z a v->v.length=a.length
 | [],_,h=>by simp only[VRL] at h; simp[h]
 | a::as,_,h=>by
  simp only[VRL] at h; obtain⟨x,xs,rfl,_,h3⟩:=h; simp[VRL.length h3]
theorem VRL.get{Z:Emb}:∀ {a:List AV} {v:List Value},VRL Z a v->∀ {i:Nat} {x:AV},a[i]?=some x->∃ y,v[i]?=some y/\VR Z x y
 | [],_,_,_,_,hi=>by simp at hi
 | a::as,_,h,i,x,hi=>by
  simp only[VRL] at h; obtain⟨y,ys,rfl,h2,h3⟩:=h
  cases i with
  | zero=>simp at hi; subst hi; exact⟨y,by simp,h2⟩
  | succ i=>simp at hi; simpa using VRL.get h3 hi
theorem VRL.of_get{Z:Emb}:∀ {a:List AV} {v:List Value},v.length=a.length->(∀ (i:Nat) (x:AV),a[i]?=some x->∃ y,v[i]?=some y/\VR Z x y)->VRL Z a v
 | [],v,h,_=>by simp only[VRL]; cases v with | nil=>rfl | cons=>simp at h
 | a::as,v,h,hg=>by
  cases v with
  | nil=>simp at h
  | cons y ys =>
   simp only[VRL]
   refine⟨y,ys,rfl,?_,VRL.of_get (by simpa using h) fun i x hi=>?_⟩
   ·obtain⟨z,h1,h2⟩:=hg 0 a (by simp); simp at h1; subst h1; exact h2
   ·obtain⟨z,h1,h2⟩:=hg (i+1) x (by simpa using hi); exact⟨z,by simpa using h1,h2⟩
theorem VRL.append{Z:Emb}:∀ {a b:List AV} {v w:List Value},VRL Z a v->VRL Z b w->VRL Z (a++b) (v++w)
 | [],_,_,_,h,h'=>by simp only[VRL] at h; subst h; simpa using h'
 | a::as,_,_,_,h,h'=>by
  simp only[VRL] at h; obtain⟨y,ys,rfl,h2,h3⟩:=h
  simp only[List.cons_append,VRL]
  exact⟨y,_,rfl,h2,VRL.append h3 h'⟩
theorem VRL.take{Z:Emb}(n:Nat){a:List AV}{v:List Value}(h:VRL Z a v):VRL Z (a.take n) (v.take n):=by
 refine .of_get (by simp[h.length]) fun i x hi=>?_
 rw[tK] at hi ⊢
 split at hi
 ·rename_i hlt; rw[if_pos hlt]; exact h.get hi
 ·simp at hi
theorem VRL.drop{Z:Emb}(n:Nat){a:List AV}{v:List Value}(h:VRL Z a v):VRL Z (a.drop n) (v.drop n):=by
 refine .of_get (by simp[h.length]) fun i x hi=>?_
 rw[dP] at hi ⊢
 exact h.get hi
theorem VRL.set{Z:Emb}{a:List AV}{v:List Value}(h:VRL Z a v)(i:Nat){x:AV}{y:Value}(hx:VR Z x y):VRL Z (a.set i x) (v.set i y):=by
 refine .of_get (by simp[h.length]) fun j z hj=>?_
 rw[List.getElem?_set] at hj ⊢
 have hl:=h.length
 split at hj
 ·rename_i hij
  subst hij
  rw[if_pos rfl]
  split at hj
  ·simp at hj; subst hj; rename_i hlt; rw[if_pos (by omega)]; exact⟨y,rfl,hx⟩
  ·simp at hj
 ·rename_i hij; rw[if_neg hij]; exact h.get hj
theorem VRL.map{Z:Emb}{α:Type}(f:α->AV)(g:α->Value)(h:∀ x,VR Z (f x) (g x)):∀ l:List α,VRL Z (l.map f) (l.map g)
 | []=>by simp[VRL]
 | x::l=>by simp only[List.map_cons,VRL]; exact⟨_,_,rfl,h x,VRL.map f g h l⟩
theorem VRL.replicate{Z:Emb}{x:AV}{y:Value}(h:VR Z x y):∀ n,VRL Z (List.replicate n x) (List.replicate n y)
 | 0=>by simp[VRL]
 | n+1=>by simp only[List.replicate_succ,VRL]; exact⟨_,_,rfl,h,VRL.replicate h n⟩
theorem B6y(Z:Emb)(v:Value):VR Z (A7g v) v:=by
 unfold A7g
 split<;>try (simp[VR]; done)
 rename_i a b
 split
 ·rename_i h
  have ha:a=#[]:=Array.eq_empty_of_size_eq_zero h.1
  have hb:b=#[]:=Array.eq_empty_of_size_eq_zero h.2
  subst ha hb
  simp only[VR,FR,VRL]
  exact⟨_,_,_,rfl,rfl,rfl,rfl⟩
 ·simp[VR]
theorem A4i(Z:Emb)(l:List Value):VRL Z (l.map A7g) l:=by
 have:=VRL.map (Z:=Z) A7g id (fun x=>B6y Z x) l
 simpa using this
theorem B5s(Z:Emb)(v:Value):VR Z (F3h v) v:=by
 unfold F3h
 split
 ·simp only[VR]; exact⟨_,rfl,A4i Z _⟩
 ·simp only[VR]; exact⟨_,rfl,A4i Z _⟩
 ·simp only[VR]; exact⟨_,rfl,B6y Z _⟩
 ·exact B6y Z _
def flat(n:Nat)(row:Nat->List AV):List AV:=(List.range n).flatMap row
def B7x(l:List Nat)(ck:Nat):Prop:=l.Nodup/\∀ b,b∈l->b<ck
def OR(Z:Emb)(h:Array Obj)(l:Loc):AObj->Prop
 | .vec n row es ty=>(0<es/\∀ i,i<n->(row i).length=es/\(row i).all A0h=true)/\l.es=es/\∃ arr,∃ e:TypeId,∃ fz,h[l.c]?=some (.cells arr e fz)/\arr.size=l.n/\l.d+(flat n row).length<=l.n /\
   (∀ i a,(flat n row)[i]?=some a->∃ v,arr[l.d+i]?=some v/\VR Z a v) /\
   (ty≠roT->e=ty/\∀ off,l.d<=off->off<l.n->off<fz.1 \/ fz.2<=off)
 | .cells cs es rw ty=>l.es=es/\∃ arr,∃ _:Unit,∃ fz,h[l.c]?=some (.cells arr ty fz)/\arr.size=l.n/\l.d+cs.length<=l.n /\
   (∀ i a,cs[i]?=some a->∃ v,arr[l.d+i]?=some v/\VR Z a v) /\
   (rw=true->(es=0->l.d=0/\l.n=cs.length)/\∀ off,l.d<=off->off<l.n->off<fz.1 \/ fz.2<=off)
 | .tail n row es tl ty=>(0<es/\∀ i,i<n->(row i).length=es/\(row i).all A0h=true)/\l.es=es/\∃ arr,∃ _:Unit,∃ fz,h[l.c]?=some (.cells arr ty fz)/\arr.size=l.n/\l.d+(flat n row++tl).length<=l.n /\
   (∀ i a,(flat n row++tl)[i]?=some a->∃ v,arr[l.d+i]?=some v/\VR Z a v) /\
   (true=true->(es=0->l.d=0/\l.n=(flat n row++tl).length)/\∀ off,l.d<=off->off<l.n->off<fz.1 \/ fz.2<=off)
 | .text s ty=>l.es=1/\∃ arr,∃ _:Unit,∃ fz,h[l.c]?=some (.cells arr ty fz)/\arr.size=l.n/\l.d+(bytesOf s).length<=l.n /\
   (∀ i a,(bytesOf s)[i]?=some a->∃ v,arr[l.d+i]?=some v/\VR Z a v) /\
   (true=true->(1=0->l.d=0/\l.n=(bytesOf s).length)/\∀ off,l.d<=off->off<l.n->off<fz.1 \/ fz.2<=off)
 | .arr pre k m f ty=>pre.all A0h=true/\l.es=1/\∃ arr,∃ _:Unit,∃ fz,h[l.c]?=some (.cells arr ty fz)/\arr.size=l.n/\l.d+(A3i pre k m f).length<=l.n /\
   (∀ i a,(A3i pre k m f)[i]?=some a->∃ v,arr[l.d+i]?=some v/\VR Z a v) /\
   (true=true->(1=0->l.d=0/\l.n=(A3i pre k m f).length)/\∀ off,l.d<=off->off<l.n->off<fz.1 \/ fz.2<=off)
 | .iter s pos=>∃ b,h[l.c]?=some (.stringIter b pos)/\b.data.toList=s
 | .loop lo=>∃ L:Loop,h[l.c]?=some (.loop L)/\L.state=lo.state/\L.pending=lo.pending/\L.params=lo.params/\L.assign=lo.assign /\
   L.body=lo.body/\VRL Z lo.tmps L.tmps.toList
 | .maps es=>∃ en ck,h[l.c]?=some (.map en ck)/\VRL Z (es.map (·.1)) (en.toList.map (·.key))/\VRL Z (es.map (·.2)) (en.toList.map (·.val))/\B7x (en.toList.map (·.born)) ck
 | .smap ks=>∃ en ck,h[l.c]?=some (.map en ck)/\VRL Z (ks.map AV.str) (en.toList.map (·.key))/\VRL Z (ks.map fun _=>AV.bool true) (en.toList.map (·.val))/\B7x (en.toList.map (·.born)) ck
 | .miter=>∃ m n s c,h[l.c]?=some (.mapIter m n s c)
 | .dead=>True
def AObj.own:AObj->Bool
 | .cells _ _ rw _=>rw
 | .vec _ _ _ ty=>decide (ty≠roT)
 | .dead=>false
 | _=>true
def AObj.live:AObj->Bool
 | .dead=>false
 | _=>true
theorem AObj.live_of_own{o:AObj}(h:o.own=true):o.live=true:=by cases o<;>simp_all[own,live]
theorem OR.keep{Z Z':Emb}{h h':Array Obj}{l:Loc}{o:AObj}(hle:Z.le Z')(hh:h'[l.c]?=h[l.c]?)(ho:OR Z h l o):OR Z' h' l o:=by
 cases o with
 | vec n row es ty =>
  obtain⟨hr,h0,arr,e,fz,h1,h2,h3,h4,h5⟩:=ho
  exact⟨hr,h0,arr,e,fz,hh.trans h1,h2,h3,fun i a hi=>let ⟨v,p,q⟩:=h4 i a hi; ⟨v,p,q.mono hle⟩,h5⟩
 | tail n row es tl ty =>
  obtain⟨hr,h0,arr,e,fz,h1,h2,h3,h4,h5⟩:=ho
  exact⟨hr,h0,arr,e,fz,hh.trans h1,h2,h3,fun i a hi=>let ⟨v,p,q⟩:=h4 i a hi; ⟨v,p,q.mono hle⟩,h5⟩
 | cells cs es rw ty =>
  obtain⟨h0,arr,e,fz,h1,h2,h3,h4,h5⟩:=ho
  exact⟨h0,arr,e,fz,hh.trans h1,h2,h3,fun i a hi=>let ⟨v,p,q⟩:=h4 i a hi; ⟨v,p,q.mono hle⟩,h5⟩
 | text s ty =>
  obtain⟨h0,arr,e,fz,h1,h2,h3,h4,h5⟩:=ho
  exact⟨h0,arr,e,fz,hh.trans h1,h2,h3,fun i a hi=>let ⟨v,p,q⟩:=h4 i a hi; ⟨v,p,q.mono hle⟩,h5⟩
 | arr pre k m f ty =>
  obtain⟨hr,h0,arr,e,fz,h1,h2,h3,h4,h5⟩:=ho
  exact⟨hr,h0,arr,e,fz,hh.trans h1,h2,h3,fun i a hi=>let ⟨v,p,q⟩:=h4 i a hi; ⟨v,p,q.mono hle⟩,h5⟩
 | iter s pos=>obtain⟨b,h1,h2⟩:=ho; exact⟨b,hh.trans h1,h2⟩
 | loop lo=>obtain⟨L,h1,h2,h3,h4,h5,h6,h7⟩:=ho; exact⟨L,hh.trans h1,h2,h3,h4,h5,h6,h7.mono hle⟩
 | maps es=>obtain⟨en,ck,h1,h2,h3,h4⟩:=ho; exact⟨en,ck,hh.trans h1,h2.mono hle,h3.mono hle,h4⟩
 | smap ks=>obtain⟨en,ck,h1,h2,h3,h4⟩:=ho; exact⟨en,ck,hh.trans h1,h2.mono hle,h3.mono hle,h4⟩
 | miter=>obtain⟨m,n,s,c,h1⟩:=ho; exact⟨m,n,s,c,hh.trans h1⟩
 | dead=>trivial
structure Amb where
 G:Nat
 base:Nat->Option Obj
def fzAt(h:Array Obj)(c:Nat)(v:List Value):Prop:=∃ arr,∃ e:TypeId,∃ z,h[c]?=some (.cells arr e z)/\∀ (i:Nat) (x:Value),v[i]?=some x->arr[i]?=some x
theorem fzAt.lt{h:Array Obj}{c:Nat}{v:List Value}(hf:fzAt h c v):c<h.size:=by
 obtain⟨arr,e,z,h1,_⟩:=hf
 exact(gA.1 h1).1
theorem fzAt.keep{h h':Array Obj}{c:Nat}{v:List Value}(hf:fzAt h c v)(hh:h'[c]?=h[c]?):fzAt h' c v:=by
 obtain⟨arr,e,z,h1,h2⟩:=hf
 exact⟨arr,e,z,hh.trans h1,h2⟩
structure Sim (A:Amb) (Z:Emb) (B:Heap) (h:Array Obj):Prop where
 obj:∀ b o l,B[b]?=some o->Z b=some l->OR Z h l o
 lt:∀ b l,Z b=some l->l.c<h.size
 own:∀ b b' l l' o o',b≠b'->Z b=some l->Z b'=some l'->B[b]?=some o->B[b']?=some o'->o.own=true->o'.live=true->l.c≠l'.c
 amb:∀ c,c<A.G->h[c]?=A.base c
 ownG:∀ b l o,Z b=some l->B[b]?=some o->o.own=true->A.G<=l.c
 gLe:A.G<=h.size
 fzOK:∀ c v,Z.fz c=some v->fzAt h c v
 fzSep:∀ c v b l o,Z.fz c=some v->Z b=some l->B[b]?=some o->o.own=true->l.c≠c
def Dom(Z:Emb)(n:Nat):Prop:=∀ b,n<=b->Z b=none
structure Step (Z Z':Emb) (n n':Nat) (D:List Nat) (w w':World):Prop where
 ext:Z.le Z'
 dom:∀ b l,Z b=none->Z' b=some l->n<=b/\b<n'/\(w.heap.size<=l.c \/ ∃ b0,b0∈D/\∃ l0,Z b0=some l0/\l0.c=l.c)
 size:w.heap.size<=w'.heap.size
 keep:∀ c,c<w.heap.size->(∀ b,b∈D->∀ l,Z b=some l->l.c≠c)->w'.heap[c]?=w.heap[c]?
 loops:∀ (c:Nat) (L:Loop),w.heap[c]?=some (Obj.loop L)->∃ L':Loop,w'.heap[c]?=some (Obj.loop L')
 defs:∀ (c:Nat) (d:Option (List Deferred)),w.heap[c]?=some (Obj.deferred d)->w'.heap[c]?=some (Obj.deferred d)
 tape:w'.tape=w.tape
 os:w'.os=w.os
 out:w'.output=w.output
 fdom:∀ c v,Z.fz c=none->Z'.fz c=some v->w.heap.size<=c \/ ∃ b0,b0∈D/\∃ l0,Z b0=some l0/\l0.c=c
theorem Q6{φ:Nat->Option (List Value)}{p:Nat->Prop}:∀ c v,φ c=none->φ c=some v->p c:=fun c v h h'=>by rw[h] at h'; cases h'
theorem Step.refl(Z:Emb)(n:Nat)(w:World):Step Z Z n n [] w w :=
 ⟨Z.le_refl,fun b l h h'=>by simp[h] at h',lR _,fun _ _ _=>rfl,fun _ L h=>⟨L,h⟩,fun _ _ h=>h,rfl,rfl,rfl,Q6⟩
theorem Step.trans{Z Z1 Z2:Emb}{n n1 n2:Nat}{D D':List Nat}{w w1 w2:World}(h:Step Z Z1 n n1 D w w1)(h':Step Z1 Z2 n1 n2 D' w1 w2)(hn:n<=n1)(hn':n1<=n2):Step Z Z2 n n2 (D++D') w w2:=by
 refine⟨Emb.le_trans h.ext h'.ext,fun b l hb hb'=>?_,Nat.le_trans h.size h'.size,fun c hc hD=>?_,
  fun c L hL=>let ⟨L1,h1⟩:=h.loops c L hL; h'.loops c L1 h1,fun c d hd=>h'.defs c d (h.defs c d hd),h'.tape.trans h.tape,h'.os.trans h.os,h'.out.trans h.out,fun c v h0 h2=>?_⟩
 ·cases h1:Z1 b with
  | some l1 =>
   have:=h'.ext b l1 h1
   rw[hb'] at this
   cases this
   obtain⟨p,q,r⟩:=h.dom b l hb h1
   refine⟨p,by omega,?_⟩
   rcases r with r | ⟨b0,r1,r2⟩
   ·exact .inl r
   ·exact .inr ⟨b0,by simp[r1],r2⟩
  | none =>
   obtain⟨p,q,r⟩:=h'.dom b l h1 hb'
   refine⟨by omega,q,?_⟩
   rcases r with r | ⟨b0,r1,l0,r2,r3⟩
   ·exact .inl (Nat.le_trans h.size r)
   ·cases h0:Z b0 with
    | some l0' =>
     have:=h.ext b0 l0' h0
     rw[r2] at this; cases this
     exact .inr ⟨b0,by simp[r1],l0,h0,r3⟩
    | none =>
     obtain⟨_,_,s⟩:=h.dom b0 l0 h0 r2
     rcases s with s | ⟨b1,s1,l1,s2,s3⟩
     ·exact .inl (by omega)
     ·exact .inr ⟨b1,by simp[s1],l1,s2,by omega⟩
 ·have e1:=h.keep c hc fun b hb l hl=>hD b (by simp[hb]) l hl
  have e2:=h'.keep c (Nat.lt_of_lt_of_le hc h.size) fun b hb l hl=>by
   cases h0:Z b with
   | some l0 =>
    have:=h.ext b l0 h0
    rw[hl] at this; cases this
    exact hD b (by simp[hb]) l h0
   | none =>
    obtain⟨_,_,s⟩:=h.dom b l h0 hl
    rcases s with s | ⟨b1,s1,l1,s2,s3⟩
    ·omega
    ·have:=hD b1 (by simp[s1]) l1 s2; omega
  exact e2.trans e1
 ·cases h1:Z1.fz c with
  | some v1 =>
   rcases h.fdom c v1 h0 h1 with r | ⟨b0,r1,r2⟩
   ·exact .inl r
   ·exact .inr ⟨b0,by simp[r1],r2⟩
  | none =>
   rcases h'.fdom c v h1 h2 with r | ⟨b0,r1,l0,r2,r3⟩
   ·exact .inl (Nat.le_trans h.size r)
   ·cases h3:Z b0 with
    | some l0' =>
     have:=h.ext b0 l0' h3
     rw[r2] at this; cases this
     exact .inr ⟨b0,by simp[r1],l0,h3,r3⟩
    | none =>
     obtain⟨_,_,s⟩:=h.dom b0 l0 h3 r2
     rcases s with s | ⟨b1,s1,l1,s2,s3⟩
     ·exact .inl (by omega)
     ·exact .inr ⟨b1,by simp[s1],l1,s2,by omega⟩
def Emb.put(Z:Emb)(b:Nat)(l:Loc):Emb:=⟨fun x=>if x=b then some l else Z x,Z.fz⟩
theorem Emb.put_self(Z:Emb)(b:Nat)(l:Loc):(Z.put b l) b=some l:=by simp[Emb.put]
theorem Emb.put_ne{Z:Emb}{b x:Nat}{l:Loc}(h:x≠b):(Z.put b l) x=Z x:=by simp[Emb.put,h]
theorem Emb.le_put{Z:Emb}{b:Nat}{l:Loc}(h:Z b=none):Z.le (Z.put b l):=⟨fun x l' hx=>by
 by_cases e:x=b
 ·subst e; simp[h] at hx
 ·rw[Emb.put_ne e]; exact hx,fun _ _ h=>h⟩
theorem Dom.put{Z:Emb}{n:Nat}{l:Loc}(h:Dom Z n):Dom (Z.put n l) (n+1):=fun b hb=>by
 rw[Emb.put_ne (by omega)]; exact h b (by omega)
theorem Sim.push{A:Amb}{Z:Emb}{B:Heap}{w:World}(hs:Sim A Z B w.heap)(hd:Z B.length=none){o:AObj}{obj:Obj}{d n es:Nat}(ho:OR (Z.put B.length ⟨w.heap.size,d,n,es⟩) (w.heap.push obj) ⟨w.heap.size,d,n,es⟩ o) :
  Sim A (Z.put B.length ⟨w.heap.size,d,n,es⟩) (B++[o]) (w.heap.push obj):=by
 have hkeep:∀ c,c<w.heap.size->(w.heap.push obj)[c]?=w.heap[c]?:=fun c hc=>by
  rw[Array.getElem?_push]; simp[Nat.ne_of_lt hc]
 refine⟨fun b o' l hb hl=>?_,fun b l hl=>?_,fun b b' l l' o1 o2 hne hl hl' hb hb' h1 h2=>?_,fun c hc=>?_,fun b l o' hl hb h1=>?_,?_,fun c v hc=>(hs.fzOK c v hc).keep (hkeep c (hs.fzOK c v hc).lt),fun c v b l o' hc hl hb h1=>?_⟩
 ·by_cases e:b=B.length
  ·subst e
   rw[Emb.put_self] at hl; cases hl
   simp at hb; subst hb; exact ho
  ·rw[Emb.put_ne e] at hl
   have hb2:B[b]?=some o':=by
    rw[List.getElem?_append] at hb
    split at hb
    ·exact hb
    ·rename_i hlt
     have hlen:b<(B++[o]).length:=by
      rcases Nat.lt_or_ge b (B++[o]).length with h' | h'
      ·exact h'
      ·rw[gO (by simp at h' ⊢; omega)] at hb; simp at hb
     simp at hlen; omega
   exact(hs.obj b o' l hb2 hl).keep (Emb.le_put hd) (hkeep _ (hs.lt b l hl))
 ·simp only[Array.size_push]
  by_cases e:b=B.length
  ·subst e; rw[Emb.put_self] at hl; cases hl; simp
  ·rw[Emb.put_ne e] at hl; have:=hs.lt b l hl; omega
 ·have hget:∀ x ox,(B++[o])[x]?=some ox->x≠B.length->B[x]?=some ox:=fun x ox hx hne=>by
   rw[List.getElem?_append] at hx
   split at hx
   ·exact hx
   ·rename_i hlt
    have:x-B.length≠0:=by omega
    rw[gO (by simp; omega)] at hx; simp at hx
  by_cases e:b=B.length
  ·subst e
   rw[Emb.put_self] at hl; cases hl
   rw[Emb.put_ne (Ne.symm hne)] at hl'
   have:=hs.lt b' l' hl'; simp; omega
  ·rw[Emb.put_ne e] at hl
   by_cases e':b'=B.length
   ·subst e'
    rw[Emb.put_self] at hl'; cases hl'
    have:=hs.lt b l hl; simp; omega
   ·rw[Emb.put_ne e'] at hl'
    exact hs.own b b' l l' o1 o2 hne hl hl' (hget b o1 hb e) (hget b' o2 hb' e') h1 h2
 ·rw[hkeep c (Nat.lt_of_lt_of_le hc hs.gLe)]; exact hs.amb c hc
 ·by_cases e:b=B.length
  ·subst e; rw[Emb.put_self] at hl; cases hl; exact hs.gLe
  ·rw[Emb.put_ne e] at hl
   have hb2:B[b]?=some o':=by
    rw[List.getElem?_append] at hb
    split at hb
    ·exact hb
    ·rename_i hlt
     rw[gO (by simp; omega)] at hb; simp at hb
   exact hs.ownG b l o' hl hb2 h1
 ·simp only[Array.size_push]; have:=hs.gLe; omega
 ·by_cases e:b=B.length
  ·subst e; rw[Emb.put_self] at hl; cases hl
   have:=(hs.fzOK c v hc).lt
   simp only; omega
  ·rw[Emb.put_ne e] at hl
   have hb2:B[b]?=some o':=by
    rw[List.getElem?_append] at hb
    split at hb
    ·exact hb
    ·rename_i hlt
     rw[gO (by simp; omega)] at hb; simp at hb
   exact hs.fzSep c v b l o' hc hl hb2 h1
theorem Step.push{Z:Emb}{B:Heap}{w:World}(hd:Z B.length=none)(obj:Obj)(d n es:Nat) :
  Step Z (Z.put B.length ⟨w.heap.size,d,n,es⟩) B.length (B.length+1) [] w { w with heap:=w.heap.push obj }:=by
 have hk:∀ c,c<w.heap.size->(w.heap.push obj)[c]?=w.heap[c]?:=fun c hc=>by
  rw[Array.getElem?_push]; simp[Nat.ne_of_lt hc]
 refine⟨Emb.le_put hd,fun b l hb hl=>?_,by simp,fun c hc _=>hk c hc,fun c L hL=>⟨L,(hk c (gA.1 hL).1).trans hL⟩,
  fun c d hd=>(hk c (gA.1 hd).1).trans hd,rfl,rfl,rfl,Q6⟩
 ·by_cases e:b=B.length
  ·subst e; rw[Emb.put_self] at hl; cases hl; exact⟨lR _,by omega,.inl (lR _)⟩
  ·rw[Emb.put_ne e,hb] at hl; simp at hl
theorem Sim.upd{A:Amb}{Z:Emb}{B:Heap}{h h':Array Obj}(hs:Sim A Z B h){b:Nat}{o o':AObj}{l:Loc}(hb:B[b]?=some o)(hl:Z b=some l)(ho:o.own=true)(hsz:h'.size=h.size)(hk:∀ c,c≠l.c->h'[c]?=h[c]?)(hor:OR Z h' l o') :
  Sim A Z (B.set b o') h':=by
 have hbl:b<B.length:=(gS.1 hb).1
 have hget:∀ x ox,(B.set b o')[x]?=some ox->x≠b->B[x]?=some ox:=fun x ox hx hne=>by
  rw[List.getElem?_set] at hx; rw[if_neg (Ne.symm hne)] at hx; exact hx
 have hself:∀ ox,(B.set b o')[b]?=some ox->ox=o':=fun ox hx=>by
  rw[List.getElem?_set] at hx; simp[hbl] at hx; exact hx.symm
 refine⟨fun x ox lx hx hlx=>?_,fun x lx hlx=>?_,fun x y lx ly ox oy hne hlx hly hx hy h1 h2=>?_,fun c hc=>?_,fun x lx ox hlx hx h1=>?_,?_,fun c v hc=>(hs.fzOK c v hc).keep (hk c (Ne.symm (hs.fzSep c v b l o hc hl hb ho))),fun c v x lx ox hc hlx hx h1=>?_⟩
 ·by_cases e:x=b
  ·subst e; rw[hl] at hlx; cases hlx; rw[hself ox hx]; exact hor
  ·have hx':=hget x ox hx e
   by_cases hlive:ox.live=true
   ·have:=hs.own b x l lx o ox (Ne.symm e) hl hlx hb hx' ho hlive
    exact(hs.obj x ox lx hx' hlx).keep Z.le_refl (hk _ (Ne.symm this))
   ·cases ox<;>simp[AObj.live] at hlive; trivial
 ·rw[hsz]; exact hs.lt x lx hlx
 ·by_cases e:x=b
  ·subst e; rw[hl] at hlx; cases hlx
   exact hs.own x y l ly o oy hne hl hly hb (hget y oy hy (Ne.symm hne)) ho h2
  ·by_cases e':y=b
   ·subst e'; rw[hl] at hly; cases hly
    exact hs.own x y lx l ox o hne hlx hl (hget x ox hx e) hb h1 (AObj.live_of_own ho)
   ·exact hs.own x y lx ly ox oy hne hlx hly (hget x ox hx e) (hget y oy hy e') h1 h2
 ·rw[hk c (by have:=hs.ownG b l o hl hb ho; omega)]; exact hs.amb c hc
 ·by_cases e:x=b
  ·subst e; rw[hl] at hlx; cases hlx; exact hs.ownG x l o hl hb ho
  ·exact hs.ownG x lx ox hlx (hget x ox hx e) h1
 ·rw[hsz]; exact hs.gLe
 ·by_cases e:x=b
  ·subst e; rw[hl] at hlx; cases hlx; exact hs.fzSep c v x l o hc hl hb ho
  ·exact hs.fzSep c v x lx ox hc hlx (hget x ox hx e) h1
theorem Step.cells{Z Z':Emb}{n n' b:Nat}{w w':World}{l:Loc}{a a':Array Value}{e e':TypeId}{f f':Nat×Nat}(hl:Z b=some l)(he:Z.le Z')(hdom:∀ x lx,Z x=none->Z' x=some lx->n<=x/\x<n'/\lx.c=l.c)(h:w.heap[l.c]?=some (.cells a e f))(hh:w'.heap=w.heap.setIfInBounds l.c (.cells a' e' f'))(ht:w'.tape=w.tape)(ho:w'.os=w.os)(hp:w'.output=w.output)(hφ:Z'.fz=Z.fz:=by rfl):Step Z Z' n n' [b] w w':=by
 have hne:∀ x,x≠l.c->w'.heap[x]?=w.heap[x]?:=fun x hx=>by rw[hh]; exact Array.getElem?_setIfInBounds_ne (Ne.symm hx)
 refine⟨he,fun x lx p q=>?_,by rw[hh]; simp,fun c _ hD=>hne c fun e=>hD b (by simp) l hl e.symm,fun c L hL=>⟨L,(hne c fun e=>?_).trans hL⟩,
  fun c d hd=>(hne c fun e=>?_).trans hd,ht,ho,hp,fun c v p q=>by rw[hφ,p] at q; cases q⟩
 ·obtain⟨p1,p2,p3⟩:=hdom x lx p q; exact⟨p1,p2,.inr ⟨b,by simp,l,hl,p3.symm⟩⟩
 ·subst e; rw[h] at hL; cases hL
 ·subst e; rw[h] at hd; cases hd
theorem OR.hard{Z:Emb}{h:Array Obj}{l:Loc}{n:Nat}{row:Nat->List AV}{es:Nat}{ty:TypeId}(ht:ty≠roT)(ho:OR Z h l (.vec n row es ty)):OR Z h l (.cells (flat n row) es true ty):=by
 obtain⟨⟨hes,_⟩,h0,arr,e,fz,h1,h2,h3,h4,h5⟩:=ho
 obtain⟨rfl,h6⟩:=h5 ht
 exact⟨h0,arr,(),fz,h1,h2,h3,h4,fun _=>⟨fun q=>by omega,h6⟩⟩
theorem OR.hardA{Z:Emb}{h:Array Obj}{l:Loc}{pre:List AV}{k:IntKind}{m:Nat}{f:Nat->Int}{ty:TypeId}(ho:OR Z h l (.arr pre k m f ty)):OR Z h l (.cells (A3i pre k m f) 1 true ty):=ho.2
theorem OR.soft{Z:Emb}{h:Array Obj}{l:Loc}{n:Nat}{row:Nat->List AV}{es:Nat}{ty:TypeId}(ho:OR Z h l (.vec n row es ty)):∃ e,OR Z h l (.cells (flat n row) es false e):=by
 obtain⟨_,h0,arr,e,fz,h1,h2,h3,h4,_⟩:=ho
 exact⟨e,h0,arr,(),fz,h1,h2,h3,h4,fun q=>by cases q⟩
theorem Sim.swap{A:Amb}{Z:Emb}{B:Heap}{h:Array Obj}(hs:Sim A Z B h){b:Nat}{o o':AObj}(hb:B[b]?=some o)(h1:o'.own=true->o.own=true)(h2:o'.live=true->o.live=true)(ho:∀ l,Z b=some l->OR Z h l o->OR Z h l o'):Sim A Z (B.set b o') h:=by
 have hbl:b<B.length:=(gS.1 hb).1
 have hget:∀ (x:Nat) (ox:AObj),(B.set b o')[x]?=some ox->(x=b/\ox=o') \/ (x≠b/\B[x]?=some ox):=fun x ox hx=>by
  by_cases e:x=b
  ·subst e; rw[List.getElem?_set_self hbl] at hx; cases hx; exact .inl ⟨rfl,rfl⟩
  ·rw[gX (Ne.symm e)] at hx; exact .inr ⟨e,hx⟩
 have hold:∀ (x:Nat) (ox:AObj),(B.set b o')[x]?=some ox->∃ o1:AObj,B[x]?=some o1/\(ox.own=true->o1.own=true)/\(ox.live=true->o1.live=true):=fun x ox hx=>by
  rcases hget x ox hx with⟨rfl,rfl⟩ | ⟨_,hx⟩
  ·exact⟨o,hb,h1,h2⟩
  ·exact⟨ox,hx,fun h=>h,fun h=>h⟩
 refine⟨fun x ox l hx hl=>?_,hs.lt,fun x y l l' ox oy hne hl hl' hx hy q1 q2=>?_,hs.amb,fun x l ox hl hx q=>?_,hs.gLe,hs.fzOK,fun c v x l ox hc hl hx q=>?_⟩
 ·rcases hget x ox hx with⟨rfl,rfl⟩ | ⟨_,hx⟩
  ·exact ho l hl (hs.obj _ o l hb hl)
  ·exact hs.obj x ox l hx hl
 ·obtain⟨o1,p1,p2,_⟩:=hold x ox hx
  obtain⟨o2,r1,_,r2⟩:=hold y oy hy
  exact hs.own x y l l' o1 o2 hne hl hl' p1 r1 (p2 q1) (r2 q2)
 ·obtain⟨o1,p1,p2,_⟩:=hold x ox hx
  exact hs.ownG x l o1 hl p1 (p2 q)
 ·obtain⟨o1,p1,p2,_⟩:=hold x ox hx
  exact hs.fzSep c v x l o1 hc hl p1 (p2 q)
end Go.Ad
