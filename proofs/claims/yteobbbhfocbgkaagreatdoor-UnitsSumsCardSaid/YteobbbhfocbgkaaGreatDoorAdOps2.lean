/- The abstract evaluator's operations stand for the model's: those that make or write memory. -/
import Derived.Test.YteobbbhfocbgkaaGreatDoorAdOps1
namespace Go.Ad
theorem setN_length {α:Type}:∀ (vs c:List α) (o:Nat),(setN c o vs).length=c.length
 | [],_,_=>rfl
 | v :: vs,c,o=>by simp [setN,setN_length vs]
theorem setN_get {α:Type}:∀ (vs c:List α) (o i:Nat),(setN c o vs)[i]?=if o≤i∧i < o+vs.length∧i < c.length then vs[i - o]? else c[i]?
 | [],c,o,i=>by simp only [setN]; rw [if_neg (by simp; omega)]
 | v :: vs,c,o,i=>by
  simp only [setN]
  rw [setN_get vs _ (o+1) i]
  simp only [List.length_set,List.length_cons]
  by_cases h1:o+1≤i∧i < o+1+vs.length∧i < c.length
  ·rw [if_pos h1,if_pos (by omega)]
   have:i - o=(i - (o+1))+1:=by omega
   rw [this]; simp
  ·rw [if_neg h1,List.getElem?_set]
   by_cases h2:o=i
   ·subst h2
    by_cases h3:o < c.length
    ·simp [h3]
    ·simp [h3]
   ·rw [if_neg h2,if_neg (by omega)]
section
variable {P:Program} {A:Amb} {ι:Emb} {B:Heap} {w:World}
theorem one_cell {a:AV} {v:Value} (h:one a=true) (hv:VR ι a v):v.oneCell'=true:=by
 unfold one at h
 cases a with
 | ptr x=>cases x with
  | none=>simp only [VR] at hv; subst hv; rfl
  | some p=>simp only [VR] at hv; obtain ⟨l,_,rfl⟩:=hv; rfl
 | slice x n m=>cases x with
  | none=>simp only [VR] at hv; obtain ⟨_,_,rfl⟩:=hv; rfl
  | some p=>simp only [VR] at hv; obtain ⟨l,_,_,_,_,_,_,_,_,rfl⟩:=hv; rfl
 | map x=>cases x with
  | none=>simp only [VR] at hv; subst hv; rfl
  | some p=>simp only [VR] at hv; obtain ⟨l,_,rfl⟩:=hv; rfl
 | str s=>simp only [VR] at hv; obtain ⟨_,_,rfl⟩:=hv; rfl
 | func f x y=>simp only [VR] at hv; obtain ⟨_,_,_,rfl,_⟩:=hv; rfl
 | iface t x=>simp only [VR] at hv; obtain ⟨_,rfl,_⟩:=hv; rfl
 | bad=>simp at h
 | agg=>simp at h
 | tuple=>simp at h
 | rng=>simp only [VR] at hv; obtain ⟨rfl,_⟩:=hv; rfl
 | sstr s=>simp only [VR] at hv; obtain ⟨_,_,rfl⟩:=hv; rfl
 | lstr s lo hi=>simp only [VR] at hv; obtain ⟨⟨_,_,rfl⟩,_⟩:=hv; rfl
 | sslice b s n=>simp only [VR] at hv; rcases hv with ⟨_,_,_,_,_,_,rfl⟩ | ⟨_,rfl⟩ <;> rfl
 | aslc b s n=>simp only [VR] at hv; obtain ⟨_,_,_,_,_,_,_,_,_,rfl⟩:=hv; rfl
 | sptr b i j=>simp only [VR] at hv; obtain ⟨_,_,rfl⟩:=hv; rfl
 | dptr b n=>simp only [VR] at hv; rcases hv with ⟨_,_,_,rfl⟩ | ⟨_,rfl⟩ <;> rfl
 | _=>simp only [VR] at hv; subst hv; rfl
theorem acells_VR {a:AV} {v:Value} (h:a ≠ .bad) (hv:VR ι a v):VRL ι (acells a) v.cells.toList:=by
 have key:∀ v:Value,(∀ cs,v ≠ .agg cs)→v.cells.toList=[v]:=fun v hv=>by
  cases v <;> first | rfl | exact (hv _ rfl).elim
 have one':∀ {a v},VR ι a v→(∀ cs,v ≠ .agg cs)→VRL ι [a] v.cells.toList:=fun {a v} h h'=>by
  rw [key v h']; simp only [VRL]; exact ⟨v,[],rfl,h,rfl⟩
 cases a with
 | agg cs=>simp only [VR] at hv; obtain ⟨xs,rfl,hx⟩:=hv; exact hx
 | bad=>exact (h rfl).elim
 | ptr x=>cases x with
  | none=>exact one' hv (by simp only [VR] at hv; subst hv; intro cs hc; cases hc)
  | some p=>exact one' hv (by simp only [VR] at hv; obtain ⟨l,_,rfl⟩:=hv; intro cs hc; cases hc)
 | slice x n m=>cases x with
  | none=>exact one' hv (by simp only [VR] at hv; obtain ⟨_,_,rfl⟩:=hv; intro cs hc; cases hc)
  | some p=>exact one' hv (by simp only [VR] at hv; obtain ⟨l,_,_,_,_,_,_,_,_,rfl⟩:=hv; intro cs hc; cases hc)
 | map x=>cases x with
  | none=>exact one' hv (by simp only [VR] at hv; subst hv; intro cs hc; cases hc)
  | some p=>exact one' hv (by simp only [VR] at hv; obtain ⟨l,_,rfl⟩:=hv; intro cs hc; cases hc)
 | str s=>exact one' hv (by simp only [VR] at hv; obtain ⟨_,_,rfl⟩:=hv; intro cs hc; cases hc)
 | func f x y=>exact one' hv (by simp only [VR] at hv; obtain ⟨_,_,_,rfl,_⟩:=hv; intro cs hc; cases hc)
 | iface t x=>exact one' hv (by simp only [VR] at hv; obtain ⟨_,rfl,_⟩:=hv; intro cs hc; cases hc)
 | tuple x=>exact one' hv (by simp only [VR] at hv; obtain ⟨_,rfl,_⟩:=hv; intro cs hc; cases hc)
 | rng=>exact one' hv (by simp only [VR] at hv; obtain ⟨rfl,_⟩:=hv; intro cs hc; cases hc)
 | sstr s=>exact one' hv (by simp only [VR] at hv; obtain ⟨_,_,rfl⟩:=hv; intro cs hc; cases hc)
 | lstr s lo hi=>exact one' hv (by simp only [VR] at hv; obtain ⟨⟨_,_,rfl⟩,_⟩:=hv; intro cs hc; cases hc)
 | sslice b s n=>exact one' hv (by simp only [VR] at hv; rcases hv with ⟨_,_,_,_,_,_,rfl⟩ | ⟨_,rfl⟩ <;> (intro cs hc; cases hc))
 | aslc b s n=>exact one' hv (by simp only [VR] at hv; obtain ⟨_,_,_,_,_,_,_,_,_,rfl⟩:=hv; intro cs hc; cases hc)
 | sptr b i j=>exact one' hv (by simp only [VR] at hv; obtain ⟨_,_,rfl⟩:=hv; intro cs hc; cases hc)
 | dptr b n=>exact one' hv (by simp only [VR] at hv; rcases hv with ⟨_,_,_,rfl⟩ | ⟨_,rfl⟩ <;> (intro cs hc; cases hc))
 | _=>exact one' hv (by simp only [VR] at hv; subst hv; intro cs hc; cases hc)
def Got (P:Program) (A:Amb) (ι:Emb) (B:Heap) (w:World) (s:Sem Next) (v:AV) (B':Heap) (D:List Nat):Prop :=
 ∃ ι' v' nx w',s.run P w=.ok nx w'∧(nx=.value v' ∨ nx=.skip∧v'=undef)∧Step ι ι' B.length B'.length D w w'∧VR ι' v v'∧Sim A ι' B' w'.heap ∧
  B.length≤B'.length∧Dom ι' B'.length
theorem Got.of_pure {s:Sem Value} {v:AV} (hs:Sim A ι B w.heap) (hd:Dom ι B.length) (h:Pure P w ι s v) :
  Got P A ι B w (do pure (.value (← s))) v B []:=by
 obtain ⟨y,h1,h2⟩:=h
 exact ⟨ι,y,.value y,w,by simp [h1],.inl rfl,.refl _ _ _,h2,hs,Nat.le_refl _,hd⟩
theorem got_only {s:Sem Value} {o:Option AV} {v:AV} {B':Heap} {D:List Nat} (hs:Sim A ι B w.heap) (hd:Dom ι B.length)
  (h:only B o=some (v,B',D)) (hp:∀ v,o=some v→Pure P w ι s v):Got P A ι B w (do pure (.value (← s))) v B' D:=by
 unfold only at h
 simp only [Option.map_eq_some_iff,Prod.mk.injEq] at h
 obtain ⟨v',h1,rfl,rfl,rfl⟩:=h
 exact .of_pure hs hd (hp _ h1)
theorem got_new {s:Sem Value} {o:AObj} {obj:Obj} {d n es:Nat} {v:AV} {y:Value} {k:Nat} (hs:Sim A ι B w.heap) (hd:Dom ι B.length)
  (hrun:s.run P w=.ok y { w with heap:=w.heap.push obj,drawn:=k })
  (ho:OR (ι.put B.length ⟨w.heap.size,d,n,es⟩) (w.heap.push obj) ⟨w.heap.size,d,n,es⟩ o)
  (hv:VR (ι.put B.length ⟨w.heap.size,d,n,es⟩) v y):Got P A ι B w (do pure (.value (← s))) v (B++[o]) []:=by
 have hn:ι B.length=none:=hd _ (Nat.le_refl _)
 refine ⟨ι.put B.length ⟨w.heap.size,d,n,es⟩,y,.value y,_,by simp [hrun]; rfl,.inl rfl,?_,hv,hs.push hn ho,by simp,?_⟩
 ·have:=Step.push hn obj d n es (w:=w)
  simp only [List.length_append,List.length_cons,List.length_nil,Nat.zero_add]
  exact ⟨this.ext,this.dom,this.size,this.keep,this.loops,this.defs,rfl,rfl,rfl⟩
 ·simp only [List.length_append,List.length_cons,List.length_nil,Nat.zero_add]; exact hd.put
theorem zero_run {t:TypeId} {z:List AV} (h:zeroCells? P t=some z) (w:World):∃ v,(zeroValue t).run P w=.ok v w∧v.cells.toList.map absV0=z:=by
 unfold zeroCells? at h
 cases hi:P.info? t with
 | none=>simp [hi] at h
 | some i =>
  simp only [hi,Option.bind_some,Option.map_eq_some_iff] at h
  obtain ⟨v,h1,h2⟩:=h
  exact ⟨v,by simp only [zeroValue,Sem.run_bind,run_typeInfo w hi,Result.andThen_ok,h1,Sem.run_pure],h2⟩
theorem OR_new {cs:List AV} {xs:Array Value} {e:TypeId} {es b:Nat} {rw:Bool} (hx:VRL (ι.put b ⟨w.heap.size,0,xs.size,es⟩) cs xs.toList) :
  OR (ι.put b ⟨w.heap.size,0,xs.size,es⟩) (w.heap.push (.cells xs e (0,0))) ⟨w.heap.size,0,xs.size,es⟩ (.cells cs es rw e):=by
 refine ⟨rfl,xs,(),(0,0),by simp,rfl,?_,fun i a hi=>?_,fun _=>⟨fun _=>⟨rfl,by have:=hx.length; simp at this; simp [this]⟩,fun off _ _=>.inr (by omega)⟩⟩
 ·have:=hx.length; simp at this; simp [this]
 ·obtain ⟨v,h1,h2⟩:=hx.get hi
  exact ⟨v,by simpa using h1,h2⟩
theorem aalloc_sound {t:TypeId} {z:List AV} (hs:Sim A ι B w.heap) (hd:Dom ι B.length) (h:zeroCells? P t=some z) :
  Got P A ι B w (do pure (.value (← Instr.alloc t true (.tuple #[])))) (.ptr (some (B.length,0))) (B++[.cells z 0 true t]) []:=by
 obtain ⟨v,h1,h2⟩:=zero_run h w
 have hn:ι B.length=none:=hd _ (Nat.le_refl _)
 refine got_new (obj:=.cells v.cells t (0,0)) (d:=0) (n:=v.cells.size) (es:=0) (y:=.pointer (some ⟨w.heap.size,0,none⟩)) (k:=w.drawn) hs hd ?_ (OR_new ?_) ?_
 ·simp [Instr.alloc,h1,newVar,newRow]
 ·rw [← h2]; exact absL_VR _ _
 ·simp only [VR]; exact ⟨_,Emb.put_self _ _ _,rfl⟩
theorem abox_sound {t:TypeId} {a:AV} {x:Value} (hs:Sim A ι B w.heap) (hd:Dom ι B.length) (hb:a ≠ .bad) (hx:VR ι a x) :
  Got P A ι B w (do pure (.value (← Instr.box t x))) (.ptr (some (B.length,0))) (B++[.cells (acells a) 0 true t]) []:=by
 have hn:ι B.length=none:=hd _ (Nat.le_refl _)
 refine got_new (obj:=.cells x.cells t (0,0)) (d:=0) (n:=x.cells.size) (es:=0) (y:=.pointer (some ⟨w.heap.size,0,none⟩)) (k:=w.drawn) hs hd ?_ (OR_new ?_) ?_
 ·simp [Instr.box,newVar,newRow]
 ·exact (acells_VR hb hx).mono (Emb.le_put hn)
 ·simp only [VR]; exact ⟨_,Emb.put_self _ _ _,rfl⟩
theorem setCell_heap {c off:Nat} {arr:Array Value} {e:TypeId} {fz:Nat × Nat} (h:w.heap[c]?=some (.cells arr e fz)) (v:Value) :
  (w.setCell ⟨c,off,none⟩ v).heap=w.heap.setIfInBounds c (.cells (arr.setIfInBounds off v) e fz):=by
 have hlt:c < w.heap.size:=(Array.getElem?_eq_some_iff.1 h).1
 have he:=(Array.getElem?_eq_some_iff.1 h).2
 simp only [World.setCell]
 apply Array.ext_getElem?
 intro i
 rw [Array.getElem?_modify,Array.getElem?_setIfInBounds]
 by_cases hi:c=i
 ·subst hi; simp [hlt,he]
 ·simp [hi]
theorem store_run {c off:Nat} {e:TypeId} {fz:Nat × Nat}:∀ (vs:List Value) (i:Nat) (arr:Array Value) (w:World),w.heap[c]?=some (.cells arr e fz) →
  off+i+vs.length≤arr.size→(∀ v,v ∈ vs→v.oneCell'=true)→(∀ j,off+i≤j→j < off+i+vs.length→j < fz.1 ∨ fz.2≤j) →
  ∃ w' arr',(storeCells ⟨c,off,none⟩ vs i).run P w=.ok () w'∧w'.heap=w.heap.setIfInBounds c (.cells arr' e fz)∧arr'.toList=setN arr.toList (off+i) vs ∧
   w'.tape=w.tape∧w'.os=w.os∧w'.output=w.output
 | [],i,arr,w,h,_,_,_=>by
  refine ⟨w,arr,rfl,?_,rfl,rfl,rfl,rfl⟩
  apply Array.ext_getElem?
  intro j
  rw [Array.getElem?_setIfInBounds]
  by_cases hj:c=j
  ·subst hj
   obtain ⟨hlt,he⟩:=Array.getElem?_eq_some_iff.1 h
   simp [hlt,he]
  ·simp [hj]
 | v :: vs,i,arr,w,h,hsz,h1,hf=>by
  have hlt:off+i < arr.size:=by simp at hsz; omega
  have hcell:w.cell? ⟨c,off+i,none⟩=some (arr[off+i]'hlt):=by
   rw [cell_of h]; exact Array.getElem?_eq_getElem hlt
  have hfz:=frozen_of h (hf (off+i) (Nat.le_refl _) (by simp))
  have hheap:=setCell_heap h v (off:=off+i)
  have h':(w.setCell ⟨c,off+i,none⟩ v).heap[c]?=some (.cells (arr.setIfInBounds (off+i) v) e fz):=by
   rw [hheap]; have:=(Array.getElem?_eq_some_iff.1 h).1; simp [this]
  obtain ⟨w',arr',r1,r2,r3,r4,r5,r6⟩:=store_run (off:=off) vs (i+1) _ _ h' (by simp at hsz ⊢; omega) (fun x hx=>h1 x (by simp [hx])) (fun j p q=>hf j (by omega) (by simp; omega))
  refine ⟨w',arr',?_,?_,?_,r4,r5,r6⟩
  ·unfold storeCells
   rw [Sem.run_bind,add_none,run_store P w _ v .plain (h1 v (by simp))]
   simp only [hcell,hfz,Bool.false_eq_true,if_false,Result.andThen_ok]
   exact r1
  ·rw [r2,hheap]; simp
  ·rw [r3]; simp [setN,Nat.add_assoc]
theorem st_sound {B':Heap} {b o:Nat} {cs:List AV} {xs:List Value} {l:Loc} (hs:Sim A ι B w.heap) (h:st B b o cs=some B') (hl:ι b=some l) (hx:VRL ι cs xs) :
  ∃ w',(storeCells ⟨l.c,l.d+o,none⟩ xs).run P w=.ok () w'∧Step ι ι B.length B'.length [b] w w'∧Sim A ι B' w'.heap∧B'.length=B.length:=by
 unfold st at h
 split at h
 ·rename_i c es ty hb
  split at h
  ·rename_i hc
   cases h
   obtain ⟨g0,arr,e,fz,g1,g2,g3,g4,g5⟩:=hs.obj b _ l hb hl
   have hlen:=hx.length
   obtain ⟨w',arr',r1,r2,r3,r4,r5,r6⟩:=store_run (P:=P) (off:=l.d+o) xs 0 arr w g1 (by omega) (fun v hv=>by
    obtain ⟨i,hi⟩:=List.mem_iff_getElem?.1 hv
    have hlt:i < cs.length:=by rw [← hlen]; exact (List.getElem?_eq_some_iff.1 hi).1
    obtain ⟨y,hy,hr⟩:=hx.get (List.getElem?_eq_getElem hlt)
    rw [hi] at hy; cases hy
    exact one_cell (by have:=List.all_eq_true.1 hc.2 cs[i] (List.getElem_mem _); exact this) hr) (fun j p q=>(g5 rfl).2 j (by omega) (by omega))
   have hlt:l.c < w.heap.size:=hs.lt b l hl
   have hcs:w'.heap[l.c]?=some (.cells arr' ty fz):=by rw [r2]; simp [hlt]
   have hne:∀ x,x ≠ l.c→w'.heap[x]?=w.heap[x]?:=fun x hx=>by rw [r2]; simp [Array.getElem?_setIfInBounds_ne (Ne.symm hx)]
   have hsize:arr'.size=arr.size:=by
    have:=congrArg List.length r3; simpa [setN_length] using this
   refine ⟨w',r1,Step.cells hl ι.le_refl (fun x lx p q=>(by rw [p] at q; cases q)) g1 r2 r4 r5 r6,
    hs.upd hb hl rfl (by rw [r2]; simp) hne ?_,by simp⟩
   refine ⟨g0,arr',e,fz,hcs,by omega,by rw [setN_length]; exact g3,fun i a hi=>?_,fun _=>⟨fun he=>⟨((g5 rfl).1 he).1,by rw [setN_length]; exact ((g5 rfl).1 he).2⟩,(g5 rfl).2⟩⟩
   rw [setN_get] at hi
   have harr:∀ j:Nat,arr'[j]?=(setN arr.toList (l.d+o+0) xs)[j]?:=fun j=>by rw [← r3]; simp
   rw [harr,setN_get]
   split at hi
   ·rename_i hin
    rw [if_pos (by simp; omega)]
    have:l.d+i - (l.d+o+0)=i - o:=by omega
    rw [this]; exact hx.get hi
   ·rename_i hin
    have hil:i < c.length:=(List.getElem?_eq_some_iff.1 hi).1
    rw [if_neg (by omega)]
    obtain ⟨v,p,q⟩:=g4 i a hi
    exact ⟨v,by simpa using p,q⟩
  ·simp at h
 ·simp at h
theorem astore_sound {B':Heap} {t:TypeId} {p a v:AV} {D:List Nat} {x y:Value} (hs:Sim A ι B w.heap) (hd:Dom ι B.length) (h:astore P B t p a=some (v,B',D)) (hb:a ≠ .bad)
  (hp:VR ι p x) (ha:VR ι a y):Got P A ι B w (do Instr.storeAt t x y; pure .skip) v B' D:=by
 unfold astore at h
 split at h
 ·rename_i b o
  simp only [VR] at hp
  obtain ⟨l,hl,rfl⟩:=hp
  split at h
  ·rename_i n hn
   split at h
   ·rename_i hlen
    simp only [Option.map_eq_some_iff,Prod.mk.injEq] at h
    obtain ⟨B1,h1,rfl,rfl,rfl⟩:=h
    have hc:=acells_VR hb ha
    obtain ⟨w',r1,r2,r3,r4⟩:=st_sound (P:=P) hs h1 hl hc
    have hcl:y.cells.size=n:=by have:=hc.length; simp at this; omega
    refine ⟨ι,undef,.skip,w',?_,.inr ⟨rfl,rfl⟩,r2,by simp [VR,aundef,undef,VRL],r3,by omega,by rw [r4]; exact hd⟩
    simp only [Instr.storeAt,Instr.sureAddr,storeVar,Sem.run_bind,Sem.run_pure,Result.andThen_ok,szOf hn,hcl,ne_eq,not_true,if_false,r1]
   ·simp at h
  ·simp at h
 ·simp at h
end
end Go.Ad
