/- The abstract evaluator's operations stand for the model's: maps with keys that are numbers, texts or truth values. -/
import Derived.Test.YtoboneiigikidaaGreatDoorAdOps7
namespace Go.Ad
section
variable {P:Program} {A:Amb} {Z:Emb} {B:Heap} {w:World}
theorem A0j{kt:TypeId}(h:A4o P kt=true)(b:Bool)(v:Value):(Instr.checkKey b 10000 kt v).run P w=.ok () w:=by
 have key:∀ n,(Instr.checkKey b (n+1) kt v).run P w=.ok () w:=fun n=>by
  unfold A4o at h
  split at h<;>first
   | (rename_i hu; simp[Instr.checkKey,und hu]; done)
   | (cases h; done)
 exact key 9999
theorem B4w{kt:TypeId}{d:TypeDesc}{a b:AV}{x y:Value}{r:Bool}(_hk:A4o P kt=true)(_hu:P.underlying kt=some d)(h:sameKey d a b=some r)(hx:VR Z a x)(hy:VR Z b y) :
  Instr.sameNow d x y=some r:=by
 unfold sameKey at h
 split at h
 ·simp only[VR] at hx hy; subst hx hy
  split at h
  ·rename_i hkk; subst hkk; cases h; simp[Instr.sameNow]
  ·cases h
 ·simp only[VR] at hx hy
  obtain⟨p,rfl,rfl⟩:=hx
  obtain⟨q,rfl,rfl⟩:=hy
  cases h
  simp only[Instr.sameNow,sI]
  rw[beq_toListBytes,toList_data,toList_data]
 ·simp only[VR] at hx hy; subst hx hy; cases h; simp[Instr.sameNow]
 ·cases h
theorem A4p{kt:TypeId}{d:TypeDesc}{k:AV}{k':Value}(hk:A4o P kt=true)(hu:P.underlying kt=some d)(hkv:VR Z k k'):∀ {es:List (AV×AV)} {en:List MapEntry} {i:Nat} {r:Option (Nat×AV)},
  A1c d k es i=some r->VRL Z (es.map (·.1)) (en.map (·.key))->VRL Z (es.map (·.2)) (en.map (·.val)) ->
  (r=none/\Instr.findNow d k' en i=some none) \/ ∃ j v v' e,r=some (j,v)/\Instr.findNow d k' en i=some (some (j,v'))/\VR Z v v'/\i<=j/\en[j-i]?=some e/\e.val=v'/\sameKey d k ((es.map (·.1)).getD (j-i) .bad)=some true
 | [],en,i,r,h,h1,h2=>by
  simp only[A1c,sI] at h
  subst h
  simp only[List.map_nil,VRL] at h1
  have:en=[]:=by simpa using h1
  subst this
  exact .inl ⟨rfl,rfl⟩
 | (a,v)::es,en,i,r,h,h1,h2=>by
  simp only[List.map_cons,VRL] at h1 h2
  obtain⟨x,xs,e1,hx,hxs⟩:=h1
  obtain⟨y,ys,e2,hy,hys⟩:=h2
  cases en with
  | nil=>simp at e1
  | cons e en =>
   simp only[List.map_cons,List.cons.injEq] at e1 e2
   obtain⟨rfl,rfl⟩:=e1
   obtain⟨rfl,rfl⟩:=e2
   simp only[A1c] at h
   split at h
   ·rename_i hs
    cases h
    refine .inr ⟨i,v,e.val,e,rfl,?_,hy,lR _,by simp,rfl,by simpa using hs⟩
    simp only[Instr.findNow,B4w hk hu hs hkv hx]
   ·rename_i hs
    have hn:Instr.findNow d k' (e::en) i=Instr.findNow d k' en (i+1):=by simp only[Instr.findNow,B4w hk hu hs hkv hx]
    rcases A4p hk hu hkv h hxs hys with⟨h3,h4⟩ | ⟨j,v1,v2,e2,h3,h4,h5,h6,h7,h8,h9⟩
    ·exact .inl ⟨h3,by rw[hn]; exact h4⟩
    ·refine .inr ⟨j,v1,v2,e2,h3,by rw[hn]; exact h4,h5,by omega,?_,h8,?_⟩
     ·rw[show j-i=(j-(i+1))+1 by omega,List.getElem?_cons_succ]; exact h7
     ·rw[show j-i=(j-(i+1))+1 by omega]; simpa using h9
   ·cases h
theorem A2a{kt:TypeId}{d:TypeDesc}{k':Value}{en:List MapEntry}{r:Option (Nat×Value)}(hu:P.underlying kt=some d)(h:Instr.findNow d k' en 0=some r) :
  (Instr.findKey kt k' en).run P w=.ok r w:=by
 simp[Instr.findKey,und hu,h]
theorem D7z{t:TypeId}{z:AV}(h:C0m P t=some z)(w:World):∃ v,(zeroValue t).run P w=.ok v w/\VR Z z v:=by
 unfold C0m at h
 simp only[Option.bind_eq_some_iff,oM] at h
 obtain⟨i,hi,v,hv,rfl⟩:=h
 exact⟨v,by simp only[zeroValue,Sem.run_bind,run_typeInfo w hi,rK,hv,Sem.run_pure],B5s Z v⟩
theorem B7l{t:TypeId}{h0:Option AV}{h1:Option Value}{v:AV}{B':Heap}{D:List Nat}(hs:Sim A Z B w.heap)(hd:Dom Z B.length)(h:A7l P B t h0=some (v,B',D))(hh:VRo Z h0 h1)
  :Got P A Z B w (do pure (.value (<- Instr.makeMap t h1))) v B' D:=by
 unfold A7l at h
 cases h0 with
 | some a=>cases h
 | none =>
  cases h1 with
  | some _=>simp[VRo] at hh
  | none =>
   cases h
   have hn:Z B.length=none:=hd _ (lR _)
   refine A6l (obj:=.map #[] 0) (d:=0) (n:=0) (es:=0) (y:=.map (some w.heap.size)) (k:=w.drawn) hs hd ?_ ?_ ?_
   ·simp[Instr.makeMap]
   ·split<;>exact⟨#[],0,by simp,by simp[VRL],by simp[VRL],by simp[B7x]⟩
   ·simp only[VR]; exact⟨_,Emb.put_self _ _ _,rfl⟩
theorem A7k{t:TypeId}{m k v:AV}{m' k':Value}{ok:Bool}(hs:Sim A Z B w.heap)(h:A7j P B t m k ok=some v)(hm:VR Z m m')(hk:VR Z k k'):Pure P w Z (Instr.lookup t m' k' ok) v:=by
 unfold A7j at h
 split at h
 ·rename_i kt e hu
  split at h
  ·rename_i hkk
   split at h
   ·rename_i d es hkd hes
    have hobj:∃ en:List MapEntry,((m'=.map none/\en=[]) \/ ∃ c ck,m'=.map (some c)/\(getObj c).run P w=.ok (.map en.toArray ck) w)/\VRL Z (es.map (·.1)) (en.map (·.key))/\VRL Z (es.map (·.2)) (en.map (·.val)):=by
     unfold mapOf at hes
     split at hes
     ·cases hes
      simp only[VR] at hm; subst hm
      exact⟨[],.inl ⟨rfl,rfl⟩,by simp[VRL],by simp[VRL]⟩
     ·rename_i r
      simp only[VR] at hm
      obtain⟨l,hl,rfl⟩:=hm
      split at hes
      ·rename_i es' hb
       cases hes
       obtain⟨en,ck,q1,q2,q3,_⟩:=hs.obj r _ l hb hl
       exact⟨en.toList,.inr ⟨l.c,ck,rfl,by simp[getObj,Sem.run,q1]⟩,by simpa using q2,by simpa using q3⟩
      ·cases hes
     ·cases hes
    obtain⟨en,h1,h2,h3⟩:=hobj
    have hrun:∀ (b:Bool) (x:Value),(∃ r,Instr.findNow d k' en 0=some r/\((∃ i,r=some (i,x)/\b=true) \/ (r=none/\(zeroValue e).run P w=.ok x w/\b=false))) ->
      (Instr.lookup t m' k' ok).run P w=.ok (if ok then .tuple #[x,.bool b] else x) w:=by
     rintro b x ⟨r,hr,hx⟩
     rcases h1 with⟨rfl,rfl⟩ | ⟨c,ck,rfl,hc⟩
     ·rcases hx with⟨i,rfl,rfl⟩ | ⟨rfl,hz,rfl⟩
      ·simp[Instr.findNow] at hr
      ·simp[Instr.lookup,und hu,A0j hkk,A2a hkd hr,hz]
     ·rcases hx with⟨i,rfl,rfl⟩ | ⟨rfl,hz,rfl⟩
      ·simp[Instr.lookup,und hu,hc,A0j hkk,A2a hkd hr]
      ·simp[Instr.lookup,und hu,hc,A0j hkk,A2a hkd hr,hz]
    have hfind:∀ r,A1c d k es 0=some r->_:=fun r hr=>A4p (P:=P) hkk hkd hk hr h2 h3
    split at h
    ·rename_i j v1 hf
     cases h
     rcases hfind _ hf with⟨h4,_⟩ | ⟨j',v2,v3,e3,h4,h5,h6,_⟩
     ·cases h4
     ·cases h4
      refine⟨_,hrun true v3 ⟨_,h5,.inl ⟨_,rfl,rfl⟩⟩,?_⟩
      cases ok with
      | true=>simp only[if_true,VR,VRL]; exact⟨_,rfl,_,_,rfl,h6,_,_,rfl,rfl,rfl⟩
      | false=>simpa using h6
    ·rename_i hf
     simp only[oM] at h
     obtain⟨z,hz,rfl⟩:=h
     obtain⟨zv,z1,z2⟩:=D7z (P:=P) (Z:=Z) hz w
     rcases hfind _ hf with⟨_,h5⟩ | ⟨j',v2,v3,e3,h4,_⟩
     ·refine⟨_,hrun false zv ⟨_,h5,.inr ⟨rfl,z1,rfl⟩⟩,?_⟩
      cases ok with
      | true=>simp only[if_true,VR,VRL]; exact⟨_,rfl,_,_,rfl,z2,_,_,rfl,rfl,rfl⟩
      | false=>simpa using z2
     ·cases h4
    ·cases h
   ·cases h
  ·cases h
 ·cases h
theorem map_set{r:Nat}{es es':List (AV×AV)}{l:Loc}{en':Array MapEntry}{ck':Nat}(hs:Sim A Z B w.heap)(hb:B[r]?=some (.maps es))(hl:Z r=some l)(hk:VRL Z (es'.map (·.1)) (en'.toList.map (·.key)))(hv:VRL Z (es'.map (·.2)) (en'.toList.map (·.val)))(hbk:B7x (en'.toList.map (·.born)) ck') :
  Step Z Z B.length (B.set r (.maps es')).length [r] w { w with heap:=w.heap.setIfInBounds l.c (.map en' ck') }/\Sim A Z (B.set r (.maps es')) (w.heap.setIfInBounds l.c (.map en' ck')):=by
 obtain⟨en,ck,g1,_⟩:=hs.obj r _ l hb hl
 have hlt:l.c<w.heap.size:=hs.lt r l hl
 have hne:∀ x,x≠l.c->(w.heap.setIfInBounds l.c (.map en' ck'))[x]?=w.heap[x]?:=fun x hx=>Array.getElem?_setIfInBounds_ne (Ne.symm hx)
 refine⟨⟨Z.le_refl,fun x lx p q=>(by rw[p] at q; cases q),by simp,fun c _ hD=>hne c fun e=>hD r (by simp) l hl e.symm,fun c L0 hL=>?_,fun c d hd'=>?_,rfl,rfl,rfl,Q6⟩,
  hs.upd hb hl rfl (by simp) hne ⟨en',ck',by simp[hlt],hk,hv,hbk⟩⟩
 ·by_cases e:c=l.c
  ·subst e; rw[g1] at hL; cases hL
  ·exact⟨L0,(hne c e).trans hL⟩
 ·by_cases e:c=l.c
  ·subst e; rw[g1] at hd'; cases hd'
  ·exact(hne c e).trans hd'
theorem E3v{d:TypeDesc}{a b:AV}{x y:Value}(h:sameKey d a b=some true)(hx:VR Z a x)(hy:VR Z b y):(Instr.keyThatStays y x).run P w=.ok x w:=by
 have e:x=y/\((∃ k n,x=.int k n) \/ (∃ s,x=.string s) \/ ∃ b,x=.bool b):=by
  unfold sameKey at h
  split at h
  ·simp only[VR] at hx hy; subst hx hy
   split at h
   ·rename_i hkk; subst hkk
    simp only[sI,beq_iff_eq] at h
    subst h; exact⟨rfl,.inl ⟨_,_,rfl⟩⟩
   ·cases h
  ·simp only[VR] at hx hy
   obtain⟨p,rfl,rfl⟩:=hx
   obtain⟨q,hq,rfl⟩:=hy
   simp only[sI,beq_iff_eq] at h
   have:p=q:=by
    obtain⟨⟨p⟩⟩:=p
    obtain⟨⟨q⟩⟩:=q
    simp only at h hq
    subst hq
    simpa using h
   subst this; exact⟨rfl,.inr (.inl ⟨_,rfl⟩)⟩
  ·simp only[VR] at hx hy; subst hx hy
   simp only[sI,beq_iff_eq] at h
   subst h; exact⟨rfl,.inr (.inr ⟨_,rfl⟩)⟩
  ·cases h
 obtain⟨rfl,e⟩:=e
 rcases e with⟨k,n,rfl⟩ | ⟨s,rfl⟩ | ⟨b,rfl⟩
 ·simp[Instr.keyThatStays,Instr.sameBits]
 ·have hb:(s==s)=true:=by rw[beq_toListBytes]; simp
  simp[Instr.keyThatStays,Instr.sameBits,hb]
 ·simp[Instr.keyThatStays,Instr.sameBits]
theorem D7p{d:TypeDesc}{a b:AV}{x:Value}(h:sameKey d a b=some true)(hx:VR Z a x):VR Z b x:=by
 unfold sameKey at h
 split at h
 ·simp only[VR] at hx ⊢; subst hx
  split at h
  ·rename_i hkk; subst hkk
   simp only[sI,beq_iff_eq] at h
   rw[h]
  ·cases h
 ·simp only[VR] at hx ⊢
  obtain⟨p,rfl,rfl⟩:=hx
  simp only[sI,beq_iff_eq] at h
  exact⟨p,h,rfl⟩
 ·simp only[VR] at hx ⊢; subst hx
  simp only[sI,beq_iff_eq] at h
  rw[h]
 ·cases h
theorem B6t{es:List (AV×AV)}{v:AV}{i:Nat}:(es.modify i fun e=>(e.1,v)).map (·.1)=es.map (·.1):=by
 apply List.ext_getElem?
 intro j
 simp only[List.getElem?_map,List.getElem?_modify]
 cases es[j]? with
 | none=>simp
 | some e=>by_cases h:i=j<;>simp[h]
theorem A4j{t:TypeId}{m k v u:AV}{m' k' v':Value}{B':Heap}{D:List Nat}(hs:Sim A Z B w.heap)(hd:Dom Z B.length)(h:A0p P B t m k v=some (u,B',D))(hm:VR Z m m')(hk:VR Z k k')(hv:VR Z v v'):Got P A Z B w (do Instr.mapUpdate t m' k' v'; pure .skip) u B' D:=by
 unfold A0p at h
 split at h
 ·rename_i kt e r hu
  simp only[VR] at hm
  obtain⟨l,hl,rfl⟩:=hm
  split at h
  ·rename_i hkk
   split at h
   ·rename_i d es hkd hb
    obtain⟨en,ck,q1,q2,q3,q4⟩:=hs.obj r _ l hb hl
    have hget:(getObj l.c).run P w=.ok (.map en ck) w:=by simp[getObj,Sem.run,q1]
    split at h
    ·rename_i i v0 hf
     cases h
     rcases A4p (P:=P) hkk hkd hk hf q2 q3 with⟨h4,_⟩ | ⟨j',v2,v3,e3,h4,h5,_,_,h7,_,h9⟩
     ·cases h4
     ·cases h4
      have hi:en[i]?=some e3:=by simpa using h7
      have hkey:VR Z ((es.map (·.1)).getD i .bad) e3.key:=by
       have hlen:=q2.length
       have hlt:i<es.length:=by
        have:=(gA.1 hi).1
        simp at hlen; omega
       have hg:(es.map (·.1))[i]?=some ((es.map (·.1)).getD i .bad):=by
        rw[gD,gE (by simpa using hlt),Option.getD_some]
       obtain⟨y,p1,p2⟩:=q2.get hg
       have:y=e3.key:=by
        have h10:(en.toList.map (·.key))[i]?=some e3.key:=by simp[hi]
        rw[h10] at p1; exact(Option.some.inj p1).symm
       rw[<- this]; exact p2
      have hst:=E3v (P:=P) (w:=w) (by simpa using h9) hk hkey
      obtain⟨s1,s2⟩:=map_set (es':=es.modify i fun e=>(e.1,v)) (en':=en.modify i fun e=>{ e with key:=k',val:=v' }) (ck':=ck) hs hb hl (by
        rw[B6t]
        refine .of_get (by simpa using q2.length) fun j x hj=>?_
        obtain⟨y,p1,p2⟩:=q2.get hj
        by_cases hij:i=j
        ·subst hij
         refine⟨k',by simp[hi],?_⟩
         have hx:x=(es.map (·.1)).getD i .bad:=by rw[gD,hj,Option.getD_some]
         have h9':sameKey d k ((es.map (·.1)).getD i .bad)=some true:=by simpa using h9
         rw[hx]
         exact D7p h9' hk
        ·refine⟨y,?_,p2⟩
         simp only[List.getElem?_map,Array.getElem?_toList] at p1 ⊢
         rw[Array.getElem?_modify,if_neg hij]; exact p1) (by
        refine .of_get (by simpa using q3.length) fun j x hj=>?_
        simp only[List.getElem?_map,List.getElem?_modify] at hj
        by_cases hij:i=j
        ·subst hij
         refine⟨v',by simp[hi],?_⟩
         cases he:es[i]? with
         | none=>simp[he] at hj
         | some e=>simp[he] at hj; rw[<- hj]; exact hv
        ·have hj':(es.map (·.2))[j]?=some x:=by
          cases he:es[j]? with
          | none=>simp[he] at hj
          | some e=>simp[he,hij] at hj; simp[he,hj]
         obtain⟨y,p1,p2⟩:=q3.get hj'
         refine⟨y,?_,p2⟩
         simp only[List.getElem?_map,Array.getElem?_toList] at p1 ⊢
         rw[Array.getElem?_modify,if_neg hij]; exact p1) (by
        have:(en.modify i fun e=>{ e with key:=k',val:=v' }).toList.map (·.born)=en.toList.map (·.born):=by
         apply List.ext_getElem?
         intro j
         simp only[List.getElem?_map,Array.getElem?_toList,Array.getElem?_modify]
         by_cases hij:i=j
         ·rw[if_pos hij]; cases en[j]?<;>rfl
         ·rw[if_neg hij]
        rw[this]; exact q4)
      refine⟨Z,undef,.skip,_,?_,.inr ⟨rfl,rfl⟩,s1,by simp[H7,undef,VR,VRL],s2,by simp,by simpa using hd⟩
      have hst':(Instr.keyThatStays (((en[i]?).map (·.key)).getD k') k').run P w=.ok k' w:=by rw[hi]; exact hst
      simp[Instr.mapUpdate,und hu,hget,A0j hkk,A2a hkd h5,hst',setObj,Sem.run,q1,Result.andThen]
    ·rename_i hf
     cases h
     rcases A4p (P:=P) hkk hkd hk hf q2 q3 with⟨_,h5⟩ | ⟨j',v2,v3,e3,h4,_⟩
     ·obtain⟨s1,s2⟩:=map_set (es':=es++[(k,v)]) (en':=en.push { key:=k',val:=v',born:=ck }) (ck':=ck+1) hs hb hl (by
        simpa using q2.append (show VRL Z [k] [k'] by simp only[VRL]; exact⟨_,_,rfl,hk,rfl⟩)) (by
        simpa using q3.append (show VRL Z [v] [v'] by simp only[VRL]; exact⟨_,_,rfl,hv,rfl⟩)) (by
        have:(en.push { key:=k',val:=v',born:=ck }).toList.map (·.born)=en.toList.map (·.born)++[ck]:=by simp
        rw[this]
        refine⟨List.nodup_append.2 ⟨q4.1,by simp,fun a ha b hb=>?_⟩,fun b hb=>?_⟩
        ·rw[List.mem_singleton] at hb; subst hb; exact Nat.ne_of_lt (q4.2 a ha)
        ·rcases List.mem_append.1 hb with hb | hb
         ·exact Nat.lt_succ_of_lt (q4.2 b hb)
         ·rw[List.mem_singleton] at hb; subst hb; exact Nat.lt_succ_self _)
      refine⟨Z,undef,.skip,_,?_,.inr ⟨rfl,rfl⟩,s1,by simp[H7,undef,VR,VRL],s2,by simp,by simpa using hd⟩
      simp[Instr.mapUpdate,und hu,hget,A0j hkk,A2a hkd h5,setObj,Sem.run,q1,Result.andThen]
     ·cases h4
    ·cases h
   ·cases h
  ·cases h
 ·cases h
theorem C3a(l:List (List UInt8)):(V8 l).map (·.1)=l.map AV.str:=by simp[V8,Function.comp_def]
theorem C3b(l:List (List UInt8)):(V8 l).map (·.2)=l.map fun _=>AV.bool true:=by simp[V8,Function.comp_def]
theorem OR.hardM{h:Array Obj}{loc:Loc}{l:List (List UInt8)}(ho:OR Z h loc (.smap l)):OR Z h loc (.maps (V8 l)):=by
 obtain⟨en,ck,h1,h2,h3,h4⟩:=ho
 exact⟨en,ck,h1,by rw[C3a]; exact h2,by rw[C3b]; exact h3,h4⟩
theorem OR.softM{h:Array Obj}{loc:Loc}{l:List (List UInt8)}(ho:OR Z h loc (.maps (V8 l))):OR Z h loc (.smap l):=by
 obtain⟨en,ck,h1,h2,h3,h4⟩:=ho
 exact⟨en,ck,h1,by rw[C3a] at h2; exact h2,by rw[C3b] at h3; exact h3,h4⟩
theorem A0k{s:List UInt8}:∀ {l:List (List UInt8)} {i:Nat},(s∈l->∃ j,A1c .string (.str s) (V8 l) i=some (some (j,.bool true)))/\(s∉l->A1c .string (.str s) (V8 l) i=some none)
 | [],i=>⟨fun h=>(by cases h),fun _=>rfl⟩
 | a::l,i=>by
  have e:A1c .string (.str s) (V8 (a::l)) i=(match some (s==a) with | some true=>some (some (i,.bool true)) | some false=>A1c .string (.str s) (V8 l) (i+1) | none=>none):=rfl
  rw[e]
  by_cases h:s=a
  ·subst h
   simp
  ·have:(s==a)=false:=by simpa using h
   rw[this]
   have ih:=A0k (s:=s) (l:=l) (i:=i+1)
   simp only[List.mem_cons,h,false_or]
   exact ih
theorem C0h{t:TypeId}(h:D3j P t=true):∃ kt e,P.underlying t=some (.map kt e)/\P.underlying kt=some .string/\C0m P e=some (.bool false)/\A4o P kt=true:=by
 unfold D3j at h
 split at h
 ·rename_i kt e hu
  split at h
  ·rename_i h1 h2 h3
   exact⟨kt,e,hu,h1,h3,by unfold A4o; rw[h1]⟩
  ·cases h
 ·cases h
theorem H0r{k:AV}{s:List UInt8}(h:sstr? k=some s){k':Value}(hk:VR Z k k'):VR Z (.str s) k':=by
 obtain⟨b,e,rfl⟩:=N8 h hk
 simp only[VR]
 exact⟨b,e,rfl⟩
theorem C1a{t:TypeId}{m k v:AV}{m' k':Value}{ok:Bool}(hs:Sim A Z B w.heap)(h:C4s P B t m k ok=some v)(hm:VR Z m m')(hk:VR Z k k'):Pure P w Z (Instr.lookup t m' k' ok) v:=by
 unfold C4s at h
 split at h
 ·rename_i r
  split at h
  ·rename_i l s hb hsk ht
   cases h
   obtain⟨kt,e,h1,h2,h3,h4⟩:=C0h ht
   have hm0:=hm
   simp only[VR] at hm0
   obtain⟨loc,hl,rfl⟩:=hm0
   have hs2:Sim A Z (B.set r (.maps (V8 l))) w.heap:=hs.upd hb hl rfl rfl (fun _ _=>rfl) (hs.obj r _ loc hb hl).hardM
   have hr:r<B.length:=(gS.1 hb).1
   have hmap:mapOf (B.set r (.maps (V8 l))) (.map (some r))=some (V8 l):=by
    unfold mapOf
    simp[hr]
   have key:A7j P (B.set r (.maps (V8 l))) t (.map (some r)) (.str s) ok=some (if ok then .tuple [.bool (decide (s∈l)),.bool (decide (s∈l))] else .bool (decide (s∈l))):=by
    unfold A7j
    rw[h1]
    simp only[h4,if_true,h2,hmap]
    by_cases hin:s∈l
    ·obtain⟨j,hj⟩:=(A0k (i:=0)).1 hin
     rw[hj]
     simp[hin]
    ·rw[(A0k (i:=0)).2 hin]
     simp only[h3,hin,oS,decide_false]
   obtain⟨y,q1,q2⟩:=A7k hs2 key hm (H0r hsk hk)
   refine⟨y,q1,?_⟩
   cases ok with
   | true=>simpa only[if_true,VR,VRL] using q2
   | false=>simpa only[Bool.false_eq_true,if_false,VR] using q2
  ·cases h
 ·cases h
theorem C0x{t:TypeId}{m k v:AV}{m' k':Value}{ok:Bool}(hs:Sim A Z B w.heap)(h:C4p P B t m k ok=some v)(hm:VR Z m m')(hk:VR Z k k'):Pure P w Z (Instr.lookup t m' k' ok) v:=by
 unfold C4p at h
 split at h
 ·rename_i v1 h1
  cases h
  exact A7k hs h1 hm hk
 ·exact C1a hs h hm hk
theorem C6r{l:List (List UInt8)}{i:Nat}:(V8 l).modify i (fun e=>(e.1,AV.bool true))=V8 l:=by
 apply List.ext_getElem?
 intro j
 rw[List.getElem?_modify]
 unfold V8
 rw[List.getElem?_map]
 cases l[j]? with
 | none=>simp
 | some x=>by_cases h:i=j<;>simp[h]
theorem C4u{t:TypeId}{m k v u:AV}{m' k' v':Value}{B':Heap}{D:List Nat}(hs:Sim A Z B w.heap)(hd:Dom Z B.length)(h:C4t P B t m k v=some (u,B',D))(hm:VR Z m m')(hk:VR Z k k')(hv:VR Z v v'):Got P A Z B w (do Instr.mapUpdate t m' k' v'; pure .skip) u B' D:=by
 unfold C4t at h
 split at h
 ·rename_i r
  split at h
  ·rename_i l s hb hsk ht
   cases h
   obtain⟨kt,e,h1,h2,h3,h4⟩:=C0h ht
   have hm0:=hm
   simp only[VR] at hm0
   obtain⟨loc,hl,rfl⟩:=hm0
   have hs2:Sim A Z (B.set r (.maps (V8 l))) w.heap:=hs.upd hb hl rfl rfl (fun _ _=>rfl) (hs.obj r _ loc hb hl).hardM
   have hr:r<B.length:=(gS.1 hb).1
   have hget:(B.set r (.maps (V8 l)))[r]?=some (.maps (V8 l)):=by simp[hr]
   have key:A0p P (B.set r (.maps (V8 l))) t (.map (some r)) (.str s) (.bool true)=some (H7,B.set r (.maps (V8 (C0d l s))),[r]):=by
    unfold A0p
    rw[h1]
    simp only[h4,if_true,h2,hget]
    unfold C0d
    by_cases hin:s∈l
    ·obtain⟨j,hj⟩:=(A0k (i:=0)).1 hin
     rw[hj,if_pos hin]
     simp only[C6r,List.set_set]
    ·rw[(A0k (i:=0)).2 hin,if_neg hin]
     simp only[List.set_set]
     rw[show V8 l++[(AV.str s,AV.bool true)]=V8 (l++[s]) by simp[V8]]
   obtain⟨Z1,y,nx,w1,q1,q2,q3,q4,q5,q6,q7⟩:=A4j hs2 (by simpa using hd) key hm (H0r hsk hk) hv
   simp only[List.length_set] at q3 q6 q7
   refine⟨Z1,y,nx,w1,q1,q2,by simpa only[List.length_set] using q3,q4,?_,by simp,by simpa only[List.length_set] using q7⟩
   have hl1:Z1 r=some loc:=q3.ext r loc hl
   have hget2:(B.set r (.maps (V8 (C0d l s))))[r]?=some (.maps (V8 (C0d l s))):=by simp[hr]
   have:=q5.upd (o':=.smap (C0d l s)) hget2 hl1 rfl rfl (fun _ _=>rfl) (q5.obj r _ loc hget2 hl1).softM
   rwa [List.set_set] at this
  ·cases h
 ·cases h
theorem A5d{t:TypeId}{m k v u:AV}{m' k' v':Value}{B':Heap}{D:List Nat}(hs:Sim A Z B w.heap)(hd:Dom Z B.length)(h:A1k P B t m k v=some (u,B',D))(hm:VR Z m m')(hk:VR Z k k')(hv:VR Z v v'):Got P A Z B w (do Instr.mapUpdate t m' k' v'; pure .skip) u B' D:=by
 unfold A1k at h
 split at h
 ·rename_i r hr
  cases h
  exact A4j hs hd hr hm hk hv
 ·exact C4u hs hd h hm hk hv
end
end Go.Ad
