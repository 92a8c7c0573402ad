/- What the evaluator drops of the heap at a call's end may be dropped. -/
import Derived.Test.YtoboneiigikidaaGreatDoorAdFrame
import Derived.Test.YtoboneiigikidaaGreatDoorAdOps8
namespace Go.Ad
mutual
theorem A8o{Z:Emb}{n:Nat}(hd:Dom Z n):∀ {a:AV} {v:Value},VR Z a v->F3 n a=true
 | .bad,_,_=>rfl
 | .bool _,_,_=>rfl
 | .int _ _,_,_=>rfl
 | .rng ..,_,_=>rfl
 | .str _,_,_=>rfl
 | .sint ..,_,_=>rfl
 | .sbool _,_,_=>rfl
 | .sstr _,_,_=>rfl
 | .lstr ..,_,_=>rfl
 | .flist ..,_,_=>rfl
 | .fptr ..,_,_=>rfl
 | .sslice b s k,_,h=>by
  simp only[VR] at h
  simp only[F3,Bool.or_eq_true,dQ]
  rcases h with⟨_,l,c,h1,_⟩ | ⟨h,_⟩
  ·exact .inr (Nat.lt_of_not_le fun hle=>by rw[hd b hle] at h1; cases h1)
  ·exact .inl h
 | .aslc b s n,_,h=>by
  simp only[VR] at h; obtain⟨l,_,_,h1,_⟩:=h
  simp only[F3,dQ]
  exact Nat.lt_of_not_le fun hle=>by rw[hd b hle] at h1; cases h1
 | .sptr b i j,_,h=>by
  simp only[VR] at h; obtain⟨l,h1,_⟩:=h
  simp only[F3,dQ]
  exact Nat.lt_of_not_le fun hle=>by rw[hd b hle] at h1; cases h1
 | .dptr b k,_,h=>by
  simp only[VR] at h
  simp only[F3,Bool.or_eq_true,dQ]
  rcases h with⟨_,l,h1,_⟩ | ⟨h,_⟩
  ·exact .inr (Nat.lt_of_not_le fun hle=>by rw[hd b hle] at h1; cases h1)
  ·exact .inl h
 | .ptr none,_,_=>rfl
 | .ptr (some (b,o)),_,h=>by
  simp only[VR] at h; obtain⟨l,h1,_⟩:=h
  simp only[F3,dQ]
  exact Nat.lt_of_not_le fun hle=>by rw[hd b hle] at h1; cases h1
 | .slice none _ _,_,_=>rfl
 | .slice (some (b,o)) _ _,_,h=>by
  simp only[VR] at h; obtain⟨l,_,_,h1,_⟩:=h
  simp only[F3,dQ]
  exact Nat.lt_of_not_le fun hle=>by rw[hd b hle] at h1; cases h1
 | .map none,_,_=>rfl
 | .map (some b),_,h=>by
  simp only[VR] at h; obtain⟨l,h1,_⟩:=h
  simp only[F3,dQ]
  exact Nat.lt_of_not_le fun hle=>by rw[hd b hle] at h1; cases h1
 | .func f xs ys,_,h=>by
  simp only[VR] at h; obtain⟨f',xs',ys',_,h1,h2,h3⟩:=h
  have p:=V9 hd h2
  have q:=V9 hd h3
  cases f with
  | yield l =>
   simp only[FR] at h1; obtain⟨lo,h4,_⟩:=h1
   have:l<n:=Nat.lt_of_not_le fun hle=>by rw[hd l hle] at h4; cases h4
   simp[F3,p,q,this]
  | _=>simp[F3,p,q]
 | .nilFunc,_,_=>rfl
 | .iface _ a,_,h=>by
  simp only[VR] at h; obtain⟨_,_,h1⟩:=h
  simp only[F3]; exact A8o hd h1
 | .nilIface,_,_=>rfl
 | .agg _,_,h=>by
  simp only[VR] at h; obtain⟨_,_,h1⟩:=h
  simp only[F3]; exact V9 hd h1
 | .tuple _,_,h=>by
  simp only[VR] at h; obtain⟨_,_,h1⟩:=h
  simp only[F3]; exact V9 hd h1
theorem V9{Z:Emb}{n:Nat}(hd:Dom Z n):∀ {a:List AV} {v:List Value},VRL Z a v->I8 n a=true
 | [],_,_=>rfl
 | a::as,_,h=>by
  simp only[VRL] at h; obtain⟨_,_,_,h1,h2⟩:=h
  simp[I8,A8o hd h1,V9 hd h2]
end
structure Agree (Z Z':Emb) (n:Nat):Prop where
 bl:∀ b,b<n->Z b=Z' b
 fz:∀ c v,Z.fz c=some v->Z'.fz c=some v
instance {Z Z':Emb} {n:Nat}:CoeFun (Agree Z Z' n) fun _=>∀ b,b<n->Z b=Z' b:=⟨Agree.bl⟩
mutual
theorem Y0{Z Z':Emb}{n:Nat}(hi:Agree Z Z' n):∀ {a:AV} {v:Value},F3 n a=true->VR Z a v->VR Z' a v
 | .bad,_,_,_=>trivial
 | .bool _,_,_,h=>by simpa[VR] using h
 | .int _ _,_,_,h=>by simpa[VR] using h
 | .rng ..,_,_,h=>by simpa[VR] using h
 | .str _,_,_,h=>by simpa[VR] using h
 | .sint ..,_,_,h=>by simpa[VR] using h
 | .sbool _,_,_,h=>by simpa[VR] using h
 | .sstr _,_,_,h=>by simpa[VR] using h
 | .lstr ..,_,_,h=>by simpa[VR] using h
 | .flist n row es,_,_,h=>by simp only[VR] at *; exact FVR.mono hi.fz h
 | .fptr cs j,_,_,h=>by
  simp only[VR] at *; obtain⟨c,off,vs,h1,h2,h3,h4⟩:=h; exact⟨c,off,vs,hi.fz _ _ h1,h2,h3,FVRL.mono hi.fz h4⟩
 | .sslice b s k,_,hb,h=>by
  simp only[F3,Bool.or_eq_true,dQ] at hb
  simp only[VR] at *
  rcases h with⟨h0,l,c,h1,h2⟩ | h
  ·rcases hb with hb | hb
   ·omega
   ·exact .inl ⟨h0,l,c,by rw[<- hi b hb]; exact h1,h2⟩
  ·exact .inr h
 | .aslc b s n,_,hb,h=>by
  simp only[F3,dQ] at hb
  simp only[VR] at *; rwa [<- hi b hb]
 | .sptr b i j,_,hb,h=>by
  simp only[F3,dQ] at hb
  simp only[VR] at *; rwa [<- hi b hb]
 | .dptr b k,_,hb,h=>by
  simp only[F3,Bool.or_eq_true,dQ] at hb
  simp only[VR] at *
  rcases h with⟨h0,l,h1,h2⟩ | h
  ·rcases hb with hb | hb
   ·omega
   ·exact .inl ⟨h0,l,by rw[<- hi b hb]; exact h1,h2⟩
  ·exact .inr h
 | .ptr none,_,_,h=>by simpa[VR] using h
 | .ptr (some (b,o)),_,hb,h=>by
  simp only[F3,dQ] at hb
  simp only[VR] at *; rwa [<- hi b hb]
 | .slice none _ _,_,_,h=>by simpa[VR] using h
 | .slice (some (b,o)) _ _,_,hb,h=>by
  simp only[F3,dQ] at hb
  simp only[VR] at *; rwa [<- hi b hb]
 | .map none,_,_,h=>by simpa[VR] using h
 | .map (some b),_,hb,h=>by
  simp only[F3,dQ] at hb
  simp only[VR] at *; rwa [<- hi b hb]
 | .func f xs ys,_,hb,h=>by
  simp only[VR] at *; obtain⟨f',xs',ys',h0,h1,h2,h3⟩:=h
  cases f with
  | yield l =>
   simp only[F3,bA,dQ] at hb
   refine⟨f',xs',ys',h0,?_,O7 hi hb.1.2 h2,O7 hi hb.2 h3⟩
   simp only[FR] at *; rwa [<- hi l hb.1.1]
  | _ =>
   simp only[F3,bA] at hb
   exact⟨f',xs',ys',h0,h1,O7 hi hb.1 h2,O7 hi hb.2 h3⟩
 | .nilFunc,_,_,h=>by simpa[VR] using h
 | .iface _ a,_,hb,h=>by
  simp only[F3] at hb
  simp only[VR] at *; obtain⟨x,h0,h1⟩:=h; exact⟨x,h0,Y0 hi hb h1⟩
 | .nilIface,_,_,h=>by simpa[VR] using h
 | .agg _,_,hb,h=>by
  simp only[F3] at hb
  simp only[VR] at *; obtain⟨x,h0,h1⟩:=h; exact⟨x,h0,O7 hi hb h1⟩
 | .tuple _,_,hb,h=>by
  simp only[F3] at hb
  simp only[VR] at *; obtain⟨x,h0,h1⟩:=h; exact⟨x,h0,O7 hi hb h1⟩
theorem O7{Z Z':Emb}{n:Nat}(hi:Agree Z Z' n):∀ {a:List AV} {v:List Value},I8 n a=true->VRL Z a v->VRL Z' a v
 | [],_,_,h=>by simpa[VRL] using h
 | a::as,_,hb,h=>by
  simp only[I8,bA] at hb
  simp only[VRL] at *; obtain⟨x,xs,h0,h1,h2⟩:=h
  exact⟨x,xs,h0,Y0 hi hb.1 h1,O7 hi hb.2 h2⟩
end
mutual
theorem B3i{n:Nat}:∀ {a:AV},below n a=true->F3 n a=true
 | .bad,_ | .bool _,_ | .int _ _,_ | .rng ..,_ | .str _,_ | .sint ..,_ | .sbool _,_ | .sstr _,_ | .lstr ..,_ | .flist ..,_ | .fptr ..,_ | .ptr none,_ | .slice none _ _,_ | .map none,_ | .nilFunc,_ | .nilIface,_=>rfl
 | .sslice ..,h=>by simp only[below] at h; simp[F3,h]
 | .dptr ..,h=>by simp only[below] at h; simp[F3,h]
 | .aslc ..,h | .sptr ..,h | .ptr (some _),h | .slice (some _) _ _,h | .map (some _),h=>by simpa only[below,F3] using h
 | .func f xs ys,h=>by
  cases f with
  | yield l =>
   simp only[below,bA] at h
   simp only[F3,bA]
   exact⟨⟨h.1.1,K7 h.1.2⟩,K7 h.2⟩
  | _ =>
   simp only[below,bA] at h
   simp only[F3,bA]
   exact⟨K7 h.1,K7 h.2⟩
 | .iface _ a,h=>by simp only[below] at h; simp only[F3]; exact B3i h
 | .agg _,h=>by simp only[below] at h; simp only[F3]; exact K7 h
 | .tuple _,h=>by simp only[below] at h; simp only[F3]; exact K7 h
theorem K7{n:Nat}:∀ {a:List AV},P7 n a=true->I8 n a=true
 | [],_=>rfl
 | a::as,h=>by
  simp only[P7,bA] at h
  simp only[I8,bA]
  exact⟨B3i h.1,K7 h.2⟩
end
theorem C9i{Z Z':Emb}{n:Nat}(hi:Agree Z Z' n){a:AV}{v:Value}(hb:below n a=true)(h:VR Z a v):VR Z' a v:=Y0 hi (B3i hb) h
theorem A4m{n:Nat}:∀ {l:List AV},I8 n l=true->∀ {i:Nat} {a:AV},l[i]?=some a->F3 n a=true
 | [],_,_,_,h=>by simp at h
 | x::xs,hb,i,a,h=>by
  simp only[I8,bA] at hb
  cases i with
  | zero=>simp at h; subst h; exact hb.1
  | succ i=>simp at h; exact A4m hb.2 h
theorem A7r{n:Nat}:∀ {l:List AV},(∀ (i:Nat) (a:AV),l[i]?=some a->F3 n a=true)->I8 n l=true
 | [],_=>rfl
 | x::xs,h=>by
  simp only[I8,bA]
  exact⟨h 0 x (by simp),A7r fun i a hi=>h (i+1) a (by simpa using hi)⟩
def OBel(n:Nat):AObj->Prop
 | .cells c _ _ _=>I8 n c=true
 | .tail _ _ _ tl _=>I8 n tl=true
 | .loop lo=>I8 n lo.tmps=true
 | .maps es=>I8 n (es.map (·.1))=true/\I8 n (es.map (·.2))=true
 | _=>True
theorem F3d{n:Nat}{o:AObj}(h:A3s n (some o)=true):OBel n o:=by
 cases o with
 | cells=>exact K7 (by simpa[A3s] using h)
 | tail=>simp[A3s] at h
 | loop=>simp[A3s] at h
 | maps=>simp[A3s] at h
 | _=>trivial
theorem A2q{n:Nat}{a:AV}(h:A0h a=true):F3 n a=true:=by cases a<;>simp_all[A0h,F3]
theorem B8m{n:Nat}{row:Nat->List AV}{i:Nat}{a:AV}(h:(flat n row)[i]?=some a):∃ r,r<n/\a∈row r:=by
 have:=List.mem_of_getElem? h
 unfold flat at this
 rw[List.mem_flatMap] at this
 obtain⟨r,h1,h2⟩:=this
 exact⟨r,List.mem_range.1 h1,h2⟩
theorem B6s{Z:Emb}{h:Array Obj}{l:Loc}{o:AObj}{n:Nat}(hd:Dom Z n)(ho:OR Z h l o):OBel n o:=by
 cases o with
 | cells c es rw ty =>
  obtain⟨_,arr,e,fz,_,_,_,h4,_⟩:=ho
  exact A7r fun i a hi=>let ⟨v,_,hr⟩:=h4 i a hi; A8o hd hr
 | tail k row es tl ty =>
  obtain⟨_,_,arr,e,fz,_,_,_,h4,_⟩:=ho
  refine A7r fun i a hi=>?_
  obtain⟨v,_,hr⟩:=h4 ((flat k row).length+i) a (by rw[gR (by omega)]; simpa using hi)
  exact A8o hd hr
 | loop lo=>obtain⟨L,_,_,_,_,_,_,h7⟩:=ho; exact V9 hd h7
 | maps es=>obtain⟨en,ck,_,h2,h3,_⟩:=ho; exact⟨V9 hd h2,V9 hd h3⟩
 | miter=>trivial
 | smap=>trivial
 | iter=>trivial
 | vec=>trivial
 | text=>trivial
 | arr=>trivial
 | dead=>trivial
theorem D3n(n:Nat):∀ ks:List (List UInt8),I8 n (ks.map AV.str)=true
 | []=>rfl
 | _::ks=>by simp only[List.map_cons,I8,F3,Bool.true_and]; exact D3n n ks
theorem C3q(n:Nat):∀ ks:List (List UInt8),I8 n (ks.map fun _=>AV.bool true)=true
 | []=>rfl
 | _::ks=>by simp only[List.map_cons,I8,F3,Bool.true_and]; exact C3q n ks
theorem Y4{Z Z':Emb}{h:Array Obj}{l:Loc}{o:AObj}{n:Nat}(hi:Agree Z Z' n)(hb:OBel n o)(ho:OR Z h l o):OR Z' h l o:=by
 cases o with
 | vec k row es ty =>
  obtain⟨hr,h0,arr,e,fz,h1,h2,h3,h4,h5⟩:=ho
  refine⟨hr,h0,arr,e,fz,h1,h2,h3,fun i a hi'=>?_,h5⟩
  obtain⟨v,p,q⟩:=h4 i a hi'
  obtain⟨r,q1,q2⟩:=B8m hi'
  exact⟨v,p,Y0 hi (A2q (List.all_eq_true.1 (hr.2 r q1).2 a q2)) q⟩
 | cells c es rw ty =>
  obtain⟨h0,arr,e,fz,h1,h2,h3,h4,h5⟩:=ho
  exact⟨h0,arr,e,fz,h1,h2,h3,fun i a hi'=>let ⟨v,p,q⟩:=h4 i a hi'; ⟨v,p,Y0 hi (A4m hb hi') q⟩,h5⟩
 | tail k row es tl ty =>
  obtain⟨hr,h0,arr,e,fz,h1,h2,h3,h4,h5⟩:=ho
  refine⟨hr,h0,arr,e,fz,h1,h2,h3,fun i a hi'=>?_,h5⟩
  obtain⟨v,p,q⟩:=h4 i a hi'
  rw[List.getElem?_append] at hi'
  split at hi'
  ·obtain⟨r,q1,q2⟩:=B8m hi'
   exact⟨v,p,Y0 hi (A2q (List.all_eq_true.1 (hr.2 r q1).2 a q2)) q⟩
  ·exact⟨v,p,Y0 hi (A4m hb hi') q⟩
 | text s ty =>
  obtain⟨h0,arr,e,fz,h1,h2,h3,h4,h5⟩:=ho
  refine⟨h0,arr,e,fz,h1,h2,h3,fun i a hi'=>?_,h5⟩
  obtain⟨v,p,q⟩:=h4 i a hi'
  have hm:=List.mem_of_getElem? hi'
  simp only[bytesOf,List.mem_map] at hm
  obtain⟨_,_,rfl⟩:=hm
  exact⟨v,p,by simpa only[VR] using q⟩
 | arr pre k m f ty =>
  obtain⟨hr,h0,arr,e,fz,h1,h2,h3,h4,h5⟩:=ho
  refine⟨hr,h0,arr,e,fz,h1,h2,h3,fun i a hi'=>?_,h5⟩
  obtain⟨v,p,q⟩:=h4 i a hi'
  have hm:=List.mem_of_getElem? hi'
  simp only[A3i,List.mem_append,List.mem_map] at hm
  rcases hm with hm | ⟨_,_,rfl⟩
  ·exact⟨v,p,Y0 hi (A2q (List.all_eq_true.1 hr a hm)) q⟩
  ·exact⟨v,p,by simpa only[VR] using q⟩
 | loop lo=>obtain⟨L,h1,h2,h3,h4,h5,h6,h7⟩:=ho; exact⟨L,h1,h2,h3,h4,h5,h6,O7 hi hb h7⟩
 | maps es=>obtain⟨en,ck,h1,h2,h3,h4⟩:=ho; exact⟨en,ck,h1,O7 hi hb.1 h2,O7 hi hb.2 h3,h4⟩
 | smap ks =>
  obtain⟨en,ck,h1,h2,h3,h4⟩:=ho
  exact⟨en,ck,h1,O7 hi (D3n n ks) h2,O7 hi (C3q n ks) h3,h4⟩
 | miter=>exact ho
 | iter=>exact ho
 | dead=>trivial
structure After (A:Amb) (Z Z':Emb) (B B':Heap) (D:List Nat) (w w':World):Prop where
 step:Step Z Z' B.length B'.length D w w'
 sim:Sim A Z' B' w'.heap
 dom:Dom Z' B'.length
 fr:AFr B B' D
theorem After.refl{A:Amb}{Z:Emb}{B:Heap}{w:World}(hs:Sim A Z B w.heap)(hd:Dom Z B.length):After A Z Z B B [] w w :=
 ⟨.refl _ _ _,hs,hd,.refl _⟩
theorem After.trans{A:Amb}{Z Z1 Z2:Emb}{B B1 B2:Heap}{D D':List Nat}{w w1 w2:World}(h:After A Z Z1 B B1 D w w1)(h':After A Z1 Z2 B1 B2 D' w1 w2) :
  After A Z Z2 B B2 (D++D') w w2 :=
 ⟨h.step.trans h'.step h.fr.1 h'.fr.1,h'.sim,h'.dom,h.fr.trans h'.fr⟩
theorem M7{n:Nat}{D:List Nat}{b:Nat}(hb:b∈D)(hn:b<n):b∈D.filter (·<n):=by simp[hb,hn]
theorem C1n{A:Amb}{Z Z':Emb}{B B' B'':Heap}{D:List Nat}{w w':World}(hs:Sim A Z B w.heap)(hd:Dom Z B.length)(h:After A Z Z' B B' D w w')(hlen:B''.length=B.length)(hget:∀ b,b<B.length->B''[b]?=B'[b]?)(hbel:∀ b,b∈D->b<B.length->A3s B.length B'[b]?=true) :
  After A Z ⟨fun b=>if b<B.length then Z' b else none,Z'.fz⟩ B B'' (D.filter (·<B.length)) w w':=by
 have hag:Agree Z' ⟨fun b=>if b<B.length then Z' b else none,Z'.fz⟩ B.length:=⟨fun b hb=>by simp[hb],fun _ _ h=>h⟩
 have hZ:∀ b l,(if b<B.length then Z' b else none)=some l->b<B.length/\Z' b=some l:=fun b l hl=>by
  split at hl
  ·exact⟨by assumption,hl⟩
  ·cases hl
 have hold:∀ b l,b<B.length->Z' b=some l->Z b=some l:=fun b l hb hl=>by
  cases h0:Z b with
  | none=>have:=(h.step.dom b l h0 hl).1; omega
  | some l0=>have:=h.step.ext b l0 h0; rw[hl] at this; exact this.symm
 refine⟨⟨⟨fun b l hl=>?_,h.step.ext.fz⟩,fun b l hb hl=>?_,h.step.size,fun c hc hD=>h.step.keep c hc fun b hb l hl=>?_,h.step.loops,h.step.defs,h.step.tape,h.step.os,h.step.out,fun c v p q=>(h.step.fdom c v p q).imp id fun⟨b0,r1,l0,r2,r3⟩=>⟨b0,M7 r1 (Nat.lt_of_not_le fun hle=>by rw[hd b0 hle] at r2; cases r2),l0,r2,r3⟩⟩,
  ⟨fun b o l hb hl=>?_,fun b l hl=>h.sim.lt b l (hZ b l hl).2,fun b b' l l' o o' hne hl hl' hb hb'=>?_,h.sim.amb,fun b l o hl hb=>?_,h.sim.gLe,h.sim.fzOK,fun c v b l o hc hl hb=>?_⟩,fun b hb=>?_,?_⟩
 ·have:b<B.length:=Nat.lt_of_not_le fun hle=>by rw[hd b hle] at hl; cases hl
  simp only[this,if_true]; exact h.step.ext b l hl
 ·obtain⟨h1,h2⟩:=hZ b l hl
  have:=(h.step.dom b l hb h2).1; omega
 ·have:b<B.length:=Nat.lt_of_not_le fun hle=>by rw[hd b hle] at hl; cases hl
  exact hD b (M7 hb this) l hl
 ·obtain⟨h1,h2⟩:=hZ b l hl
  rw[hget b h1] at hb
  have ho:=h.sim.obj b o l hb h2
  refine Y4 hag ?_ ho
  by_cases hbD:b∈D
  ·have:=hbel b hbD h1; rw[hb] at this; exact F3d this
  ·have hBb:B[b]?=some o:=(h.fr.2 b h1 hbD).symm.trans hb
   exact B6s hd (hs.obj b o l hBb (hold b l h1 h2))
 ·obtain⟨h1,h2⟩:=hZ b l hl
  obtain⟨h3,h4⟩:=hZ b' l' hl'
  rw[hget b h1] at hb
  rw[hget b' h3] at hb'
  exact h.sim.own b b' l l' o o' hne h2 h4 hb hb'
 ·obtain⟨h1,h2⟩:=hZ b l hl
  rw[hget b h1] at hb
  exact h.sim.ownG b l o h2 hb
 ·obtain⟨h1,h2⟩:=hZ b l hl
  rw[hget b h1] at hb
  exact h.sim.fzSep c v b l o hc h2 hb
 ·show(if b<B.length then Z' b else none)=none; rw[if_neg (by omega)]
 ·refine⟨by omega,fun b hb hn=>?_⟩
  rw[hget b hb]; exact h.fr.2 b hb fun hm=>hn (M7 hm hb)
theorem E6h{A:Amb}{Z Z':Emb}{B B' B'':Heap}{D D'':List Nat}{w w':World}{v v'':AV}{y:Value}(hs:Sim A Z B w.heap)(hd:Dom Z B.length)(h:After A Z Z' B B' D w w')(hv:VR Z' v y)(hg:gc B v B' D=(v'',B'',D'')):∃ Z'',VR Z'' v'' y/\After A Z Z'' B B'' D'' w w':=by
 have hplain:After A Z Z' B B' (D.filter (·<B.length)) w w':=by
  refine⟨⟨h.step.ext,fun b l hb hl=>?_,h.step.size,fun c hc hD=>h.step.keep c hc fun b hb l hl=>?_,h.step.loops,h.step.defs,h.step.tape,h.step.os,h.step.out,fun c v p q=>(h.step.fdom c v p q).imp id fun⟨b0,r1,l0,r2,r3⟩=>⟨b0,M7 r1 (Nat.lt_of_not_le fun hle=>by rw[hd b0 hle] at r2; cases r2),l0,r2,r3⟩⟩,h.sim,h.dom,
   h.fr.1,fun b hb hn=>h.fr.2 b hb fun hm=>hn (M7 hm hb)⟩
  ·obtain⟨p,q,r⟩:=h.step.dom b l hb hl
   refine⟨p,q,?_⟩
   rcases r with r | ⟨b0,r1,l0,r2,r3⟩
   ·exact .inl r
   ·have:b0<B.length:=Nat.lt_of_not_le fun hle=>by rw[hd b0 hle] at r2; cases r2
    exact .inr ⟨b0,M7 r1 this,l0,r2,r3⟩
  ·have:b<B.length:=Nat.lt_of_not_le fun hle=>by rw[hd b hle] at hl; cases hl
   exact hD b (M7 hb this) l hl
 have hcutv:∀ a y,below B.length a=true->VR Z' a y->VR ⟨fun b=>if b<B.length then Z' b else none,Z'.fz⟩ a y:=fun a y hb hy =>
  C9i (Z:=Z') (Z':=⟨fun b=>if b<B.length then Z' b else none,Z'.fz⟩) (n:=B.length) ⟨fun b hb=>by simp[hb],fun _ _ h=>h⟩ hb hy
 unfold gc at hg
 simp only at hg
 split at hg
 ·rename_i hc
  simp only[bA,List.all_eq_true] at hc
  cases hg
  refine⟨_,hcutv _ _ hc.1 hv,C1n hs hd h ?_ (fun b hb=>?_) fun b hb hlt=>hc.2 b (M7 hb hlt)⟩
  ·split
   ·rfl
   ·simp[Nat.min_eq_left h.fr.1]
  ·split
   ·rename_i hemp
    have hemp':D.filter (·<B.length)=[]:=by simpa using hemp
    exact(h.fr.2 b hb fun hm=>by have:=M7 hm hb; rw[hemp'] at this; cases this).symm
   ·rw[tK,if_pos hb]
 ·split at hg
  ·rename_i hemp
   have hemp':D.filter (·<B.length)=[]:=by simpa using hemp
   have hnD:∀ b,b<B.length->b∉D:=fun b hb hm=>by have:=M7 hm hb; rw[hemp'] at this; cases this
   split at hg
   ·rename_i bb hbb
    split at hg
    ·rename_i c es rw ty hB
     split at hg
     ·rename_i hc
      simp only[bA] at hc
      cases hg
      obtain⟨hc1,hc2⟩:=hc
      have hbn:B.length<=bb:=by
       have h1:∀ a,B5y B.length a=some bb->B.length<=bb:=fun a ha=>by
        unfold B5y at ha
        split at ha
        ·split at ha
         ·cases ha; assumption
         ·cases ha
        ·split at ha
         ·cases ha; assumption
         ·cases ha
        ·cases ha
       have h2:∀ l,B2l B.length l=some bb->B.length<=bb:=fun l=>by
        induction l with
        | nil=>intro hl; simp[B2l] at hl
        | cons x xs ih =>
         intro hl
         simp only[B2l] at hl
         split at hl
         ·rename_i hx; cases hl; exact h1 _ hx
         ·exact ih hl
       unfold E8m at hbb
       split at hbb
       ·exact h2 _ hbb
       ·exact h1 _ hbb
      have hcut:=C1n (B'':=B) hs hd h rfl (fun b hb=>(h.fr.2 b hb (hnD b hb)).symm) (fun b hm hb=>(hnD b hb hm).elim)
      rw[hemp'] at hcut
      refine⟨⟨fun b=>if b<B.length then Z' b else if b=B.length then Z' bb else none,Z'.fz⟩,?_,?_⟩
      ·have h1:∀ a y,B0p bb B.length a=true->VR Z' a y->VR ⟨fun b=>if b<B.length then Z' b else if b=B.length then Z' bb else none,Z'.fz⟩ (B9v bb B.length a) y:=fun a y ha hy=>by
        have hgen:∀ a y,below B.length a=true->VR Z' a y->VR ⟨fun b=>if b<B.length then Z' b else if b=B.length then Z' bb else none,Z'.fz⟩ a y:=fun a y hb hy =>
         C9i (Z:=Z') (Z':=⟨fun b=>if b<B.length then Z' b else if b=B.length then Z' bb else none,Z'.fz⟩) (n:=B.length) ⟨fun b hb=>by simp[hb],fun _ _ h=>h⟩ hb hy
        unfold B9v
        split
        ·rename_i b' o l c
         by_cases e:b'=bb
         ·rw[if_pos e]; subst e
          simp only[VR] at hy ⊢
          obtain⟨lo,cap,off,p,q⟩:=hy
          exact⟨lo,cap,off,by simp[p],q⟩
         ·rw[if_neg e]
          simp only[B0p,Bool.or_eq_true,dQ,beq_iff_eq] at ha
          exact hgen _ _ (by simp only[below,dQ]; exact ha.resolve_right e) hy
        ·rename_i b' o
         by_cases e:b'=bb
         ·rw[if_pos e]; subst e
          simp only[VR] at hy ⊢
          obtain⟨lo,p,q⟩:=hy
          exact⟨lo,by simp[p],q⟩
         ·rw[if_neg e]
          simp only[B0p,Bool.or_eq_true,dQ,beq_iff_eq] at ha
          exact hgen _ _ (by simp only[below,dQ]; exact ha.resolve_right e) hy
        ·rename_i n1 n2
         refine hgen _ _ ?_ hy
         unfold B0p at ha
         split at ha
         ·exact(n1 _ _ _ _ rfl).elim
         ·exact(n2 _ _ rfl).elim
         ·exact ha
       unfold G1b
       unfold G0x at hc1
       split at hc1
       ·rename_i xs
        simp only[VR] at hv ⊢
        obtain⟨ys,rfl,hys⟩:=hv
        refine⟨ys,rfl,?_⟩
        have h2:∀ (xs:List AV) (ys:List Value),xs.all (B0p bb B.length)=true->VRL Z' xs ys ->
          VRL ⟨fun b=>if b<B.length then Z' b else if b=B.length then Z' bb else none,Z'.fz⟩ (xs.map (B9v bb B.length)) ys:=fun xs=>by
         induction xs with
         | nil=>intro ys _ hy; simpa[VRL] using hy
         | cons x xs ih =>
          intro ys hx hy
          simp only[List.all_cons,bA] at hx
          simp only[VRL,List.map_cons] at hy ⊢
          obtain⟨z,zs,rfl,p,q⟩:=hy
          exact⟨z,zs,rfl,h1 _ _ hx.1 p,ih _ hx.2 q⟩
        exact h2 _ _ hc1 hys
       ·exact h1 _ _ hc1 hv
      ·have hgetL:∀ b o,(B++[AObj.cells c es rw ty])[b]?=some o->(b<B.length/\B[b]?=some o) \/ (b=B.length/\o=.cells c es rw ty):=fun b o hb=>by
        rw[List.getElem?_append] at hb
        split at hb
        ·rename_i hlt; exact .inl ⟨hlt,hb⟩
        ·rename_i hlt
         by_cases e:b=B.length
         ·subst e; simp at hb; exact .inr ⟨rfl,hb.symm⟩
         ·rw[gO (by simp; omega)] at hb; cases hb
       have hZn:∀ b l,b<B.length->(if b<B.length then Z' b else if b=B.length then Z' bb else none)=some l->Z' b=some l:=fun b l hb hl=>by
        simpa[hb] using hl
       have hZe:∀ l,(if B.length<B.length then Z' B.length else if B.length=B.length then Z' bb else none)=some l->Z' bb=some l:=fun l hl=>by
        simpa using hl
       have hag:Agree Z' ⟨fun b=>if b<B.length then Z' b else if b=B.length then Z' bb else none,Z'.fz⟩ B.length:=⟨fun b hb=>by simp[hb],fun _ _ h=>h⟩
       have hag2:Agree ⟨fun b=>if b<B.length then Z' b else none,Z'.fz⟩ ⟨fun b=>if b<B.length then Z' b else if b=B.length then Z' bb else none,Z'.fz⟩ B.length:=⟨fun b hb=>by simp[hb],fun _ _ h=>h⟩
       have hBget:∀ b,b<B.length->B[b]?=B'[b]?:=fun b hb=>(h.fr.2 b hb (hnD b hb)).symm
       refine⟨⟨⟨fun b l hl=>?_,h.step.ext.fz⟩,fun b l hb hl=>?_,h.step.size,fun x hx _=>hcut.step.keep x hx (fun _ hm=>by cases hm),h.step.loops,h.step.defs,h.step.tape,h.step.os,h.step.out,fun c v p q=>(h.step.fdom c v p q).elim .inl fun⟨b0,r1,l0,r2,r3⟩=>(hnD b0 (Nat.lt_of_not_le fun hle=>by rw[hd b0 hle] at r2; cases r2) r1).elim⟩,
        ⟨fun b o l hb hl=>?_,fun b l hl=>?_,fun b b' l l' o o' hne hl hl' hb hb' ho ho'=>?_,h.sim.amb,fun b l o hl hb=>?_,h.sim.gLe,h.sim.fzOK,fun c' v b l o hc' hl hb ho=>?_⟩,fun b hb=>?_,.push _ _⟩
       ·have:b<B.length:=Nat.lt_of_not_le fun hle=>by rw[hd b hle] at hl; cases hl
        simp only[this,if_true]; exact h.step.ext b l hl
       ·by_cases e:b<B.length
        ·have:=hZn b l e hl
         have:=(h.step.dom b l hb this).1; omega
        ·by_cases e2:b=B.length
         ·subst e2
          have h5:=hZe l hl
          refine⟨lR _,by simp,?_⟩
          obtain⟨_,_,r⟩:=h.step.dom bb l (hd bb hbn) h5
          rcases r with r | ⟨b0,r1,l0,r2,r3⟩
          ·exact .inl r
          ·have:b0<B.length:=Nat.lt_of_not_le fun hle=>by rw[hd b0 hle] at r2; cases r2
           exact(hnD b0 this r1).elim
         ·simp[e,e2] at hl
       ·rcases hgetL b o hb with⟨h3,h4⟩ | ⟨rfl,rfl⟩
        ·have h5:=hZn b l h3 hl
         have h6:=hcut.sim.obj b o l h4 (by simp[h3,h5])
         exact Y4 hag2 (B6s hcut.dom h6) h6
        ·have h5:=hZe l hl
         exact Y4 hag (by exact(K7 hc2)) (h.sim.obj bb _ l hB h5)
       ·by_cases e:b<B.length
        ·exact h.sim.lt b l (hZn b l e hl)
        ·by_cases e2:b=B.length
         ·subst e2; exact h.sim.lt bb l (hZe l hl)
         ·simp[e,e2] at hl
       ·rcases hgetL b o hb with⟨h3,h4⟩ | ⟨rfl,rfl⟩
        ·rcases hgetL b' o' hb' with⟨h5,h6⟩ | ⟨rfl,rfl⟩
         ·exact h.sim.own b b' l l' o o' hne (hZn b l h3 hl) (hZn b' l' h5 hl') ((hBget b h3).symm.trans h4) ((hBget b' h5).symm.trans h6) ho ho'
         ·exact h.sim.own b bb l l' o _ (by omega) (hZn b l h3 hl) (hZe l' hl') ((hBget b h3).symm.trans h4) hB ho ho'
        ·rcases hgetL b' o' hb' with⟨h5,h6⟩ | ⟨rfl,rfl⟩
         ·exact h.sim.own bb b' l l' _ o' (by omega) (hZe l hl) (hZn b' l' h5 hl') hB ((hBget b' h5).symm.trans h6) ho ho'
         ·exact(hne rfl).elim
       ·rcases hgetL b o hb with⟨h3,h4⟩ | ⟨rfl,rfl⟩
        ·exact h.sim.ownG b l o (hZn b l h3 hl) ((hBget b h3).symm.trans h4)
        ·exact h.sim.ownG bb l _ (hZe l hl) hB
       ·rcases hgetL b o hb with⟨h3,h4⟩ | ⟨rfl,rfl⟩
        ·exact h.sim.fzSep c' v b l o hc' (hZn b l h3 hl) ((hBget b h3).symm.trans h4) ho
        ·exact h.sim.fzSep c' v bb l _ hc' (hZe l hl) hB ho
       ·simp only[lA,List.length_cons,List.length_nil] at hb
        show(if b<B.length then Z' b else if b=B.length then Z' bb else none)=none; rw[if_neg (by omega),if_neg (by omega)]
     ·cases hg; exact⟨Z',hv,hplain⟩
    ·cases hg; exact⟨Z',hv,hplain⟩
   ·cases hg; exact⟨Z',hv,hplain⟩
  ·cases hg; exact⟨Z',hv,hplain⟩
end Go.Ad
