/- A whole list that never changes is appended to a list of rows: the operation stands for the model's. -/
import Derived.Test.YtoboneiigikidaaGreatDoorAdOpsZ
import Derived.Test.YtoboneiigikidaaGreatDoorAdOpsB
import Derived.Test.YtoboneiigikidaaGreatDoorAdOpsA
namespace Go.Ad
section
variable {P:Program} {A:Amb} {Z:Emb} {B:Heap} {w:World}
theorem B3h(row:Nat->List FV)(i:Nat):(avR row i).all A0h=true:=by
 rw[List.all_eq_true]; intro a ha
 simp only[avR,List.mem_map] at ha
 obtain⟨f,_,rfl⟩:=ha
 cases f<;>rfl
theorem D9l(row:Nat->List FV)(i:Nat):(avR row i).all one=true:=by
 rw[List.all_eq_true]; intro a ha
 simp only[avR,List.mem_map] at ha
 obtain⟨f,_,rfl⟩:=ha
 cases f<;>rfl
theorem E2u(hs:Sim A Z B w.heap){tx e':TypeId}(hu:P.underlying tx=some (.slice e')){k es:Nat}{row:Nat->List FV}{y:Value}(hy:VR Z (.flist k row es) y) :
  ∃ xs,Src P es tx y k xs w/\VRL Z (flat k (avR row)) xs/\∀ i,i<k->(avR row i).length=es:=by
 simp only[VR,FVR] at hy
 rcases hy with⟨rfl,rfl | ⟨a,cap,rfl⟩⟩ | ⟨h0,c,off,cap,cs,g1,g2,rfl,g4,g5⟩
 ·exact⟨[],.ofNil w hu 0,by simp[flat,VRL],fun i hi=>by omega⟩
 ·exact⟨[],.ofSlice w hu a 0 cap [] (by simp) (fun j u h=>by simp at h) (fun u h=>by cases h),by simp[flat,VRL],fun i hi=>by omega⟩
 ·obtain⟨arr,e,z,r1,r2⟩:=hs.fzOK c cs g1
  have hlen:∀ i,i<k->(avR row i).length=es:=fun i hi=>by
   have hle:i*es+es<=k*es:=by rw[<- Nat.succ_mul]; exact Nat.mul_le_mul_right es hi
   rw[avR,List.length_map,<- (g5 i hi).length,List.length_take,List.length_drop]; omega
  have hxl:((cs.drop off).take (k*es)).length=k*es:=by rw[List.length_take,List.length_drop]; omega
  have hvr:VRL Z (flat k (avR row)) ((cs.drop off).take (k*es)):=by
   refine .of_get (by rw[hxl,G8 hlen]) fun i a hi=>?_
   have hi0:i<k*es:=by have:=(gS.1 hi).1; rwa [G8 hlen] at this
   have hes:0<es:=by
    rcases Nat.eq_zero_or_pos es with rfl | h
    ·simp at hi0
    ·exact h
   have hm:i%es<es:=Nat.mod_lt _ hes
   have hd:i / es<k:=Nat.div_lt_of_lt_mul (by rw[Nat.mul_comm]; exact hi0)
   have hsplit:i=i / es*es+i%es:=by have:=Nat.div_add_mod i es; rw[Nat.mul_comm] at this; exact this.symm
   have hi2:(avR row (i / es))[i%es]?=some a:=by rw[<- flat_get hm hlen hd,<- hsplit]; exact hi
   rw[avR,List.getElem?_map,oM] at hi2
   obtain⟨f,q1,rfl⟩:=hi2
   obtain⟨v,p1,p2⟩:=(g5 _ hd).get q1
   rw[tK,if_pos hm,dP] at p1
   refine⟨v,?_,FV.av_VR p2⟩
   rw[tK,if_pos hi0,dP]
   rw[Nat.add_assoc,<- hsplit] at p1
   exact p1
  refine⟨_,.ofSlice w hu ⟨c,off,none⟩ k cap _ hxl (fun j u hj=>?_) (C6v (cs:=flat k (avR row)) ?_ hvr),hvr,hlen⟩
  ·rw[tK] at hj
   split at hj
   ·rw[dP] at hj
    rw[M3,cell_of r1]; exact r2 _ _ hj
   ·cases hj
  ·rw[List.all_eq_true]; intro a ha
   simp only[flat,List.mem_flatMap] at ha
   obtain⟨i,_,hi⟩:=ha
   exact List.all_eq_true.1 (D9l row i) a hi
theorem Sim.pushNone{h:Array Obj}(hs:Sim A Z B h)(hn:Z B.length=none)(o:AObj):Sim A Z (B++[o]) h:=hs.snoc hn o
theorem OR.rowed{h:Array Obj}{l:Loc}{n es:Nat}{row:Nat->List AV}{ty:TypeId}(hes:0<es)(hrow:∀ i,i<n->(row i).length=es/\(row i).all A0h=true)(ho:OR Z h l (.cells (flat n row) es true ty)):OR Z h l (.vec n row es ty):=by
 obtain⟨h0,arr,e,fz,h1,h2,h3,h4,h5⟩:=ho
 exact⟨⟨hes,hrow⟩,h0,arr,ty,fz,h1,h2,h3,h4,fun _=>⟨rfl,(h5 rfl).2⟩⟩
theorem D1a{n k:Nat}{r0 r1:Nat->List AV}:flat (n+k) (B7y n r0 r1)=flat n r0++flat k r1:=by
 unfold flat
 rw[List.range_add,List.flatMap_append]
 congr 1
 ·apply flatMap_congr'
  intro i hi
  rw[List.mem_range] at hi
  simp[B7y,hi]
 ·rw[List.flatMap_map]
  apply flatMap_congr'
  intro i hi
  have e1:¬ n+i<n:=by omega
  simp only[B7y,if_neg e1,Nat.add_sub_cancel_left]
where
 flatMap_congr' {l:List Nat} {f g:Nat->List AV} (h:∀ i,i∈l->f i=g i):l.flatMap f=l.flatMap g:=by
  induction l with
  | nil=>rfl
  | cons a l ih=>simp only[List.flatMap_cons,h a (by simp),ih fun i hi=>h i (by simp[hi])]
theorem C4q{t tx ty e:TypeId}{i:TypeInfo}{zv:Value}{b n cap k:Nat}{c new:List AV}{l:Loc}{y:Value}{xs:List Value}(hs:Sim A Z B w.heap)(hd:Dom Z B.length)(hu:P.underlying t=some (.slice e))(hi:P.info? e=some i)(hzv:i.zero=some zv)(hzl:zv.cells.size=i.size)(c2:0<i.size)(c3:i.bytes<=2^12)(hsrc:Src P i.size tx y k xs w)(hxs:VRL Z new xs)(hb:B[b]?=some (.cells c i.size true e))(hl:Z b=some l)(g2:n<=cap)(g5:l.d+cap*l.es<=l.n)(hc:c.length=n*i.size)(hlt:n+k<2^31) :
  Got P A Z B w (do pure (.value (<- Builtin.append_ #[t,tx] ty #[.slice (some ⟨l.c,l.d,none⟩) n cap,y]))) (.slice (some (B.length,0)) (n+k) (n+k)) (B.set b .dead++[.cells (c++new) i.size true e]) [b]:=by
 obtain⟨q0,arr,e',fz,q1,q2,q3,q4,q5⟩:=hs.obj b _ l hb hl
 have hxl:xs.length=k*i.size:=hsrc.newsLen
 rw[q0] at g5
 generalize hoffe:l.d=off at g5 q3 q4 q5
 have hcs:VRL Z c ((arr.toList.drop off).take (n*i.size)):=by
  refine .of_get ?_ fun j u hj=>?_
  ·simp only[List.length_take,List.length_drop,Array.length_toList]
   have:n*i.size<=cap*i.size:=Nat.mul_le_mul_right _ (by omega)
   omega
  ·have hjl:j<n*i.size:=by rw[<- hc]; exact(gS.1 hj).1
   rw[tK,if_pos hjl,dP]
   obtain⟨u',p,q⟩:=q4 _ _ hj
   exact⟨u',by simpa using p,q⟩
 have hol:((arr.toList.drop off).take (n*i.size)).length=n*i.size:=by
  have:n*i.size<=cap*i.size:=Nat.mul_le_mul_right _ (by omega)
  simp only[List.length_take,List.length_drop,Array.length_toList]; omega
 have hmul:(n+k)*i.size=n*i.size+k*i.size:=Nat.add_mul _ _ _
 have hn:Z B.length=none:=hd _ (lR _)
 by_cases hcap:n+k<=cap
 ·have hle:(n+k)*i.size<=cap*i.size:=Nat.mul_le_mul_right _ hcap
  obtain⟨w',arr',r1,r2,r3,r4,r5,r6⟩:=A9c (P:=P) (off:=off+n*i.size) xs 0 arr w q1 (by omega) hsrc.one
   (fun j p q=>(q5 rfl).2 j (by omega) (by omega))
  have hrun:=R7 (P:=P) (ty:=ty) (base:=some ⟨l.c,off,none⟩) (c:=cap) (w':=w') hu hi hsrc hcap
   (fun a ha=>by cases ha; rw[M3]; exact r1) (fun h=>by cases h)
  have hlt:l.c<w.heap.size:=hs.lt b l hl
  have hsz':arr'.size=arr.size:=by
   have:=congrArg List.length r3; simpa[T9] using this
  refine⟨Z.put B.length ⟨l.c,off,l.n,i.size⟩,.slice (some ⟨l.c,off,none⟩) (n+k) cap,.value (.slice (some ⟨l.c,off,none⟩) (n+k) cap),w',by simp only[Sem.run_bind,hrun,rK,Sem.run_pure],.inl rfl,
   Step.cells hl (Emb.le_put hn) (fun x lx p q=>?_) q1 r2 r4 r5 r6,?_,
   hs.move hn hb hl rfl (by rw[r2]; simp) (fun x hx=>by rw[r2]; simp[Array.getElem?_setIfInBounds_ne (Ne.symm hx)]) rfl ?_,by simp,by simpa using hd.put⟩
  ·by_cases ex:x=B.length
   ·subst ex; rw[Emb.put_self] at q; cases q
    exact⟨lR _,by simp,rfl⟩
   ·rw[Emb.put_ne ex,p] at q; cases q
  ·simp only[VR]
   exact⟨_,cap,off,Emb.put_self _ _ _,lR _,hcap,.inl rfl,lR _,g5,rfl⟩
  ·refine⟨rfl,arr',e',fz,by rw[r2]; simp[hlt],by simp[hsz',q2],?_,?_,fun _=>⟨fun he=>by omega,fun f p q=>(q5 rfl).2 f (by simp at p; omega) q⟩⟩
   ·have:=hcs.length
    have h2:=hxs.length
    simp only[lA]; omega
   ·intro j u hj
    have hall:=hcs.append hxs
    obtain⟨u',p,q⟩:=hall.get hj
    refine⟨u',?_,q.mono (Emb.le_put hn)⟩
    have harr:arr'[off+j]?=(A1q arr.toList (off+n*i.size+0) xs)[off+j]?:=by rw[<- r3]; simp
    rw[harr,A3y]
    rw[List.getElem?_append] at p
    split at p
    ·rename_i hjl
     rw[hol] at hjl
     rw[if_neg (by omega)]
     rw[tK,if_pos hjl,dP] at p
     exact p
    ·rename_i hjl
     rw[hol] at hjl p
     have hjlt:j-n*i.size<xs.length:=(gS.1 p).1
     rw[if_pos ⟨by omega,by omega,by simp; omega⟩]
     have:off+j-(off+n*i.size+0)=j-n*i.size:=by omega
     rw[this]; exact p
 ·have hs':Sim A Z (B.set b .dead) w.heap:=hs.kill b
  have hd':Dom Z (B.set b AObj.dead).length:=by simpa using hd
  have hold:(Builtin.firstCells i.size n (.slice (some ⟨l.c,off,none⟩) n cap)).run P w.drew=.ok ((arr.toList.drop off).take (n*i.size)).toArray w.drew:=by
   have:=run_firstCells_some (P:=P) w.drew i.size n ⟨l.c,off,none⟩ n cap ((arr.toList.drop off).take (n*i.size)) hol (fun j u hj=>by
    rw[tK] at hj
    split at hj
    ·rw[dP] at hj
     rw[M3,cell_of (w:=w.drew) q1]; simpa using hj
    ·simp at hj)
   exact this
  have hrun:=run_append_grow_src (P:=P) w t tx ty e i zv hu hi hzv (some ⟨l.c,off,none⟩) n cap _ hold y k xs hsrc (by omega) (by omega) (B1u (by omega) (by omega) c3)
  have hg:=B2g hs' hd' hrun (hcs.append hxs) (by simp only[lA,hol,hxl]; omega) hzl (B2h _ _ _ _) c2
  obtain⟨Z',v',nx,w',t1,t2,t3,t4,t5,t6,t7⟩:=hg
  refine⟨Z',v',nx,w',t1,t2,?_,by simpa using t4,t5,by simp,t7⟩
  have t3':Step Z Z' B.length (B.length+1) [] w w':=by simpa using t3
  simpa using t3'.dirty (D2:=[b]) (by simp)
theorem E2b{o:Oper}{U:Operand->AV}{U':Operand->Value}{v:AV}{B':Heap}{D:List Nat}(h:afl P U B o.op=some (true,v,B',D))(hs:Sim A Z B w.heap)(hd:Dom Z B.length)(hU:∀ x,VR Z (U x) (U' x)):Got P A Z B w (execOp U' o) v B' D:=by
 obtain⟨dst,op,ty,pos,after,guard⟩:=o
 cases op with
 | call c =>
  obtain⟨callee,args,ats⟩:=c
  cases callee with
  | value f=>simp[afl] at h
  | invoke x m=>simp[afl] at h
  | builtin bi =>
   have hxs:=VRL.map U U' hU args.toList
   have e:(args.toList.map U').toArray=args.map U':=by apply Array.ext'; simp
   cases bi with
   | append =>
    simp only[afl] at h
    split at h
    case h_2=>cases h
    rename_i b n k row es t tx hargs hats
    rw[hargs] at hxs
    simp only[VRL] at hxs
    obtain⟨s',l0,hx1,hx,y,l1,rfl,hy,rfl⟩:=hxs
    have hts:ats=#[t,tx]:=by apply Array.ext'; simpa using hats
    subst hts
    have hm:args.map U'=#[s',y]:=by rw[<- e,hx1]
    suffices hgot:Got P A Z B w (do pure (.value (<- Builtin.append_ #[t,tx] ty #[s',y]))) v B' D by
     show Got P A Z B w (builtin .append #[t,tx] ty (args.map fun | .const _=>true | _=>false) (args.map U')) _ _ _
     rw[hm]; exact hgot
    split at h
    case h_2=>cases h
    rename_i el el' m r0 es' te hu hux hb
    split at h
    case h_2=>cases h
    rename_i i zc hi hz
    split at h
    case isFalse=>cases h
    rename_i hcond
    obtain⟨⟨c1,c2,c3⟩,rfl,rfl,rfl,hro⟩:=hcond
    simp only[sI,pI,dQ] at h
    obtain⟨⟨hnk,rfl⟩,rfl,rfl,rfl⟩:=h
    obtain⟨zv,hzv,z2⟩:=A9e hz hi
    have hzl:zv.cells.size=i.size:=by rw[<- c1,<- z2]; simp
    obtain⟨xs,hsrc,hvr,hrl⟩:=E2u hs hux hy
    have hxl:xs.length=k*i.size:=hsrc.newsLen
    have hbl:b<B.length:=(gS.1 hb).1
    have hnone:Z B.length=none:=hd _ (lR _)
    simp only[VR] at hx
    rcases hx with⟨hn0,l,cap,hl,hnc,hroom,rfl⟩ | ⟨rfl,rfl⟩
    ·obtain⟨⟨hes,hrow⟩,hles,_⟩:=hs.obj b _ l hb hl
     have hsh:=hs.harden hro hb hl
     have hget:(B.set b (.cells (flat n r0) i.size true te))[b]?=some (.cells (flat n r0) i.size true te):=by rw[List.getElem?_set]; simp[hbl]
     have:=C4q (ty:=ty) hsh (by simpa using hd) hu hi hzv hzl c2 c3 hsrc hvr hget hl hnc (by simpa using hroom) (G8 fun i hi=>(hrow i hi).1) hnk
     rw[List.set_set] at this
     obtain⟨Z',v',nx,w',g1,g2,g3,g4,g5,g6,g7⟩:=this
     refine⟨Z',v',nx,w',by simpa using g1,g2,by simpa using g3,?_,g5.last (fun l' hl' ho'=>?_) (by simp[AObj.own,hro]) rfl,by simp,by simpa using g7⟩
     ·simp only[VR] at g4 ⊢
      obtain⟨l',cap',off,k1,k2,k3,k4,k5,k6,rfl⟩:=g4
      have hoff:off=l'.d:=by rcases k4 with k4 | k4<;>omega
      subst hoff
      exact .inl ⟨by omega,l',cap',by simpa using k1,by omega,by simpa using k6,by simp⟩
     ·refine OR.rowed hes (fun j hj=>?_) (by rw[D1a]; exact ho')
      simp only[B7y]
      split
      ·rename_i hjn; exact hrow j hjn
      ·exact⟨hrl _ (by omega),B3h _ _⟩
    ·have hs0:Sim A Z (B.set b .dead) w.heap:=hs.kill b
     have hd0:Dom Z (B.set b AObj.dead).length:=by simpa using hd
     rcases Nat.eq_zero_or_pos k with rfl | hk
     ·have hrun:=R7 (P:=P) (ty:=ty) (base:=none) (n:=0) (c:=0) (w':=w) hu hi hsrc (by omega) (fun a h=>by cases h) (fun _=>rfl)
      refine⟨Z,.slice none 0 0,.value (.slice none 0 0),w,by simp only[Sem.run_bind,hrun,rK,Sem.run_pure],.inl rfl,?_,?_,hs0.pushNone (by simpa using hnone) _,by simp,fun x hx=>hd x (by simp at hx; omega)⟩
      ·have h0:Step Z Z B.length B.length [] w w:=.refl _ _ _
       simpa using(h0.dirty (D2:=[b]) (by simp)).grow (n2:=B.length+1) (by omega)
      ·simp[VR]
     ·have hrun:=run_append_grow_src (P:=P) w t tx ty te i zv hu hi hzv none 0 0 [] rfl y k xs hsrc (by omega) (by omega) (B1u (by omega) (by omega) c3)
      simp only[Nat.zero_add,List.nil_append] at hrun
      rw[Nat.zero_add]
      obtain⟨Z',v',nx,w',g1,g2,g3,g4,g5,g6,g7⟩:=B2g hs0 hd0 hrun hvr hxl hzl (B2h _ _ _ _) c2
      refine⟨Z',v',nx,w',by simpa using g1,g2,?_,?_,g5.last (fun l' hl' ho'=>?_) (by simp[AObj.own,hro]) rfl,by simp,by simpa using g7⟩
      ·have g3':Step Z Z' B.length (B.length+1) [] w w':=by simpa using g3
       simpa using g3'.dirty (D2:=[b]) (by simp)
      ·simp only[VR] at g4 ⊢
       obtain⟨l',cap',off,k1,k2,k3,k4,k5,k6,rfl⟩:=g4
       have hoff:off=l'.d:=by rcases k4 with k4 | k4<;>omega
       subst hoff
       exact .inl ⟨by omega,l',cap',by simpa using k1,by omega,by simpa using k6,by simp⟩
      ·refine OR.rowed c2 (fun j hj=>?_) (by have e1:=D1a (n:=0) (k:=k) (r0:=r0) (r1:=avR row); rw[Nat.zero_add] at e1; rw[e1]; simpa[flat] using ho')
       simp only[B7y]
       split
       ·omega
       ·exact⟨hrl _ (by omega),B3h _ _⟩
   | _=>simp[afl] at h
 | _=>simp[afl] at h
end
end Go.Ad
namespace Go.Ad
section
variable {P:Program} {A:Amb} {Z:Emb} {B:Heap} {w:World}
theorem D3o{i j es:Nat}{cs:List AV}{row:Nat->List AV}{r:Nat}(h:(row r).length=es):(B1c i j cs row r).length=es:=by
 unfold B1c; split
 ·rw[T9,h]
 ·exact h
theorem C0e{p:AV->Bool}:∀ (cs c:List AV) (o:Nat),c.all p=true->cs.all p=true->(A1q c o cs).all p=true
 | [],c,_,h,_=>by simpa[A1q] using h
 | v::vs,c,o,h,h2=>by
  simp only[A1q]
  rw[List.all_cons,bA] at h2
  refine C0e vs _ _ ?_ h2.2
  rw[List.all_eq_true] at h ⊢
  intro x hx
  rcases List.mem_or_eq_of_mem_set hx with hx | rfl
  ·exact h x hx
  ·exact h2.1
theorem E2t{n es i j:Nat}{row:Nat->List AV}{cs:List AV}(hr:∀ r,r<n->(row r).length=es)(hi:i<n)(hj:j+cs.length<=es):A1q (flat n row) (i*es+j) cs=flat n (B1c i j cs row):=by
 have hr2:∀ r,r<n->(B1c i j cs row r).length=es:=fun r h=>D3o (hr r h)
 have h1:i*es+es<=n*es:=by rw[<- Nat.succ_mul]; exact Nat.mul_le_mul_right es hi
 apply List.ext_getElem?
 intro k
 by_cases hk:k<n*es
 ·have hes:0<es:=by
   rcases Nat.eq_zero_or_pos es with rfl | h
   ·simp at hk
   ·exact h
  have hm:k%es<es:=Nat.mod_lt _ hes
  have hd:k / es<n:=Nat.div_lt_of_lt_mul (by rw[Nat.mul_comm]; exact hk)
  have hsplit:k=k / es*es+k%es:=by have:=Nat.div_add_mod k es; rw[Nat.mul_comm] at this; exact this.symm
  have e1:(flat n row)[k]?=(row (k / es))[k%es]?:=by rw[<- flat_get hm hr hd,<- hsplit]
  have e2:(flat n (B1c i j cs row))[k]?=(B1c i j cs row (k / es))[k%es]?:=by rw[<- flat_get hm hr2 hd,<- hsplit]
  rw[e2,A3y,e1]
  unfold B1c
  by_cases hki:k / es=i
  ·rw[if_pos hki,A3y,G8 hr,hr _ hd]
   rw[hki] at hsplit
   by_cases hin:j<=k%es/\k%es<j+cs.length
   ·rw[if_pos ⟨by omega,by omega,by omega⟩,if_pos ⟨hin.1,hin.2,by omega⟩]
    congr 1; omega
   ·rw[if_neg (fun h=>hin ⟨by omega,by omega⟩),if_neg (fun h=>hin ⟨h.1,h.2.1⟩)]
  ·rw[if_neg hki,if_neg]
   rintro⟨q1,q2,_⟩
   apply hki
   exact Nat.div_eq_of_lt_le (by omega) (by rw[Nat.succ_mul]; omega)
 ·rw[gO (by rw[T9,G8 hr]; omega),gO (by rw[G8 hr2]; omega)]
theorem E2d{o:Oper}{U:Operand->AV}{U':Operand->Value}{v:AV}{B':Heap}{D:List Nat}(h:afs P U B o.op=some (true,v,B',D))(hs:Sim A Z B w.heap)(hd:Dom Z B.length)(hU:∀ x,VR Z (U x) (U' x)):Got P A Z B w (execOp U' o) v B' D:=by
 obtain⟨dst,op,ty,pos,after,guard⟩:=o
 cases op with
 | store t a x =>
  simp only[afs] at h
  split at h
  case isTrue=>cases h
  rename_i hbad
  split at h
  case h_2=>cases h
  rename_i b i j ha
  have hx:=hU a
  rw[ha] at hx
  simp only[VR] at hx
  obtain⟨l,hl,hxe⟩:=hx
  split at h
  case h_2=>cases h
  rename_i k n row es te hk hb
  split at h
  case isFalse=>cases h
  rename_i hc
  obtain⟨hc1,hc2,hc3,hro⟩:=hc
  rw[bA] at hc3
  simp only[sI,pI,dQ] at h
  obtain⟨hin,rfl,rfl,rfl⟩:=h
  obtain⟨⟨hes,hrow⟩,hles,_⟩:=hs.obj b _ l hb hl
  have hlen:=G8 (row:=row) fun i hi=>(hrow i hi).1
  have hle:i*es+es<=n*es:=by rw[<- Nat.succ_mul]; exact Nat.mul_le_mul_right es hin
  have hbl:b<B.length:=(gS.1 hb).1
  have hget:(B.set b (.cells (flat n row) es true te))[b]?=some (.cells (flat n row) es true te):=by rw[List.getElem?_set]; simp[hbl]
  have hx':VR Z (.ptr (some (b,i*es+j))) (U' a):=by simp only[VR]; exact⟨l,hl,by rw[hxe,hles]⟩
  have hst:A7n P (B.set b (.cells (flat n row) es true te)) t (.ptr (some (b,i*es+j))) (U x)=some (H7,(B.set b (.cells (flat n row) es true te)).set b (.cells (flat n (B1c i j (A0v (U x)) row)) es true te),[b]):=by
   simp only[A7n,hk,hc1,if_true,st,hget]
   rw[if_pos ⟨by rw[hlen]; omega,hc3.1⟩,E2t (fun r h=>(hrow r h).1) hin (by omega)]
   rfl
  have hnb:U x≠.bad:=fun e=>by rw[e] at hbad; exact hbad rfl
  have:=B1s (P:=P) (hs.harden hro hb hl) (by simpa using hd) hst hnb hx' (hU x)
  refine this.re (by simp) (b:=b) (o:=.cells (flat n (B1c i j (A0v (U x)) row)) es true te) (o':=.vec n (B1c i j (A0v (U x)) row) es te) ?_ (by rw[List.set_set,List.set_set]) rfl rfl fun Z h l ho=>OR.rowed hes (fun r hr=>⟨D3o (hrow r hr).1,?_⟩) ho
  ·simp[hbl]
  ·unfold B1c
   split
   ·exact C0e _ _ _ (hrow r hr).2 hc3.2
   ·exact(hrow r hr).2
 | _=>simp[afs] at h
end
end Go.Ad
