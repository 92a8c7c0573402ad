/- The abstract evaluator's operations stand for the model's: append; and all operations together. -/
import Derived.Test.YtoboneiigikidaaGreatDoorAdOps6
import Derived.Lib.UnsafeStr
namespace Go.Ad
section
variable {P:Program} {A:Amb} {Z:Emb} {B:Heap} {w:World}
theorem B1u{n c b:Nat}(h:n<2^31)(hc:c<n)(hb:b<=2^12):Builtin.nextslicecap n c*b<=281474976710656:=by
 have h1:=D6v n c hc
 have h2:Builtin.nextslicecap n c*b<=(2*n+192)*2^12:=Nat.mul_le_mul h1 hb
 omega
theorem A9e{t:TypeId}{z:List AV}{i:TypeInfo}(h:zeroCells? P t=some z)(hi:P.info? t=some i):∃ zv,i.zero=some zv/\zv.cells.toList.map A7g=z:=by
 unfold zeroCells? at h
 simp only[hi,Option.bind_some,oM] at h
 exact h
theorem U7{ts:Array TypeId}{ty:TypeId}{d a v:AV}{x y:Value}{B':Heap}{D:List Nat}(hs:Sim A Z B w.heap)(hd:Dom Z B.length)(h:R9 P B ts d a=some (v,B',D))(hx:VR Z d x)(hy:VR Z a y):Got P A Z B w (do pure (.value (<- Builtin.append_ ts ty #[x,y]))) v B' D:=by
 unfold R9 at h
 split at h
 ·rename_i t tx base n m h1
  have hts:ts=#[t,tx]:=by apply Array.ext'; simpa using h1
  subst hts
  split at h
  ·rename_i e hu
   split at h
   ·rename_i i z hi hz
    split at h
    ·rename_i hc
     obtain⟨c1,c2,c3,c4⟩:=hc
     split at h
     ·rename_i k hk
      split at h
      ·rename_i new hnew
       obtain⟨zv,hzv,z2⟩:=A9e hz hi
       have hzl:zv.cells.size=i.size:=by rw[<- c1,<- z2]; simp
       split at h
       ·-- nothing is appended
        rename_i hk0
        subst hk0
        cases h
        have hnil:new=[]:=by
         have:=B4h hnew hk hy
         simpa using this
        subst hnil
        obtain⟨xs,hsrc,hxs⟩:=F1s (P:=P) hs hnew hy hk c4 (by simp)
        simp only[VRL] at hxs; subst hxs
        cases base with
        | none =>
         have hx':=hx
         simp only[VR] at hx'; obtain⟨rfl,rfl,rfl⟩:=hx'
         exact .of_pure hs hd ⟨_,R7 hu hi hsrc (by omega) (fun a h=>by cases h) (fun _=>rfl),hx⟩
        | some p =>
         obtain⟨b,o⟩:=p
         have hx':=hx
         simp only[VR] at hx'; obtain⟨l,cap,off,hl,g1,g2,g3,g4,g5,rfl⟩:=hx'
         exact .of_pure hs hd ⟨_,R7 hu hi hsrc (by omega) (fun a _=>rfl) (fun h=>by cases h),hx⟩
       ·rename_i hk0
        split at h
        ·rename_i hbd
         obtain⟨hlt,hone⟩:=hbd
         obtain⟨xs,hsrc,hxs⟩:=F1s (P:=P) hs hnew hy hk c4 hone
         have hxl:xs.length=k*i.size:=hsrc.newsLen
         cases base with
         | none =>
          simp only[sI,pI] at h
          obtain⟨rfl,rfl,rfl⟩:=h
          simp only[VR] at hx; obtain⟨rfl,rfl,rfl⟩:=hx
          have hrun:=run_append_grow_src (P:=P) w t tx ty e i zv hu hi hzv none 0 0 [] rfl y k xs hsrc (by omega) (by omega) (B1u (by omega) (by omega) c3)
          simp only[Nat.zero_add,List.nil_append] at hrun
          exact B2g hs hd hrun hxs hxl hzl (B2h _ _ _ _) c2
         | some p =>
          obtain⟨b,o⟩:=p
          simp only[VR] at hx; obtain⟨l,cap,off,hl,g1,g2,g3,g4,g5,rfl⟩:=hx
          simp only at h
          split at h
          ·rename_i c es ty2 hb
           obtain⟨q0,arr,e',fz,q1,q2,q3,q4,q5⟩:=hs.obj b _ l hb hl
           split at h
           ·simp at h
           ·rename_i hes
            have hes':es=i.size/\ty2=e:=by
             constructor
             ·exact Classical.byContradiction fun h=>hes (.inl h)
             ·exact Classical.byContradiction fun h=>hes (.inr h)
            obtain⟨hes',hty⟩:=hes'
            subst hes' hty
            rw[q0] at g5
            have hcm:cap*i.size<=l.n-off:=by omega
            split at h
            ·-- room for sure
             rename_i hroom
             split at h
             ·rename_i hin
              cases h
              have hoff:off=l.d+o:=by rcases g3 with g3 | g3<;>omega
              subst hoff
              have hst:st B b (o+n*i.size) new=some (B.set b (.cells (A1q c (o+n*i.size) new) i.size true ty2)):=by
               unfold st; rw[hb]
               have hnl:new.length=k*i.size:=by rw[<- hxs.length]; exact hxl
               have hmul:(n+k)*i.size=n*i.size+k*i.size:=Nat.add_mul _ _ _
               simp only
               rw[if_pos ⟨by rw[hnl]; omega,hone⟩]
              obtain⟨w',r1,r2,r3,r4⟩:=B2v (P:=P) hs hst hl hxs
              have hrun:=R7 (P:=P) (ty:=ty) (base:=some ⟨l.c,l.d+o,none⟩) (c:=cap) hu hi hsrc (by omega:n+k<=cap)
               (fun a ha=>by cases ha; rw[M3]; rw[Nat.add_assoc]; exact r1) (fun h=>by cases h)
              refine⟨Z,.slice (some ⟨l.c,l.d+o,none⟩) (n+k) cap,.value (.slice (some ⟨l.c,l.d+o,none⟩) (n+k) cap),w',by simp only[Sem.run_bind,hrun,rK,Sem.run_pure],.inl rfl,r2,?_,r3,by simp,by simpa using hd⟩
              simp only[VR]
              exact⟨l,cap,_,hl,hroom,g2,.inl rfl,by omega,by rw[q0]; exact g5,rfl⟩
             ·simp at h
            ·rename_i hroom
             split at h
             ·rename_i hin
              cases h
              have hcs:VRL Z ((c.drop o).take (n*i.size)) ((arr.toList.drop off).take (n*i.size)):=by
               by_cases hn0:n=0
               ·subst hn0; simp[VRL]
               ·have hoff:off=l.d+o:=by rcases g3 with g3 | g3<;>omega
                subst hoff
                refine .of_get ?_ fun j u hj=>?_
                ·simp only[List.length_take,List.length_drop,Array.length_toList]; omega
                ·rw[tK] at hj ⊢
                 split at hj
                 ·rename_i hjl
                  rw[if_pos hjl]
                  rw[dP] at hj ⊢
                  obtain⟨u',p,q⟩:=q4 _ _ hj
                  exact⟨u',by rw[Nat.add_assoc]; simpa using p,q⟩
                 ·simp at hj
              have hol:((arr.toList.drop off).take (n*i.size)).length=n*i.size:=by
               have:n*i.size<=cap*i.size:=Nat.mul_le_mul_right _ (by omega)
               simp only[List.length_take,List.length_drop,Array.length_toList]; omega
              have hmul:(n+k)*i.size=n*i.size+k*i.size:=Nat.add_mul _ _ _
              have hn:Z B.length=none:=hd _ (lR _)
              by_cases hcap:n+k<=cap
              ·-- in place
               have hle:(n+k)*i.size<=cap*i.size:=Nat.mul_le_mul_right _ hcap
               obtain⟨w',arr',r1,r2,r3,r4,r5,r6⟩:=A9c (P:=P) (off:=off+n*i.size) xs 0 arr w q1 (by omega) hsrc.one
                (fun j p q=>(q5 rfl).2 j (by omega) (by omega))
               have hrun:=R7 (P:=P) (ty:=ty) (base:=some ⟨l.c,off,none⟩) (c:=cap) (w':=w') hu hi hsrc hcap
                (fun a ha=>by cases ha; rw[M3]; exact r1) (fun h=>by cases h)
               have hlt:l.c<w.heap.size:=hs.lt b l hl
               have hsz':arr'.size=arr.size:=by
                have:=congrArg List.length r3; simpa[T9] using this
               refine⟨Z.put B.length ⟨l.c,off,l.n,i.size⟩,.slice (some ⟨l.c,off,none⟩) (n+k) cap,.value (.slice (some ⟨l.c,off,none⟩) (n+k) cap),w',by simp only[Sem.run_bind,hrun,rK,Sem.run_pure],.inl rfl,
                Step.cells hl (Emb.le_put hn) (fun x lx p q=>?_) q1 r2 r4 r5 r6,?_,
                hs.move hn hb hl rfl (by rw[r2]; simp) (fun x hx=>by rw[r2]; simp[Array.getElem?_setIfInBounds_ne (Ne.symm hx)]) rfl ?_,by simp,by simpa using hd.put⟩
               ·by_cases ex:x=B.length
                ·subst ex; rw[Emb.put_self] at q; cases q
                 exact⟨lR _,by simp,rfl⟩
                ·rw[Emb.put_ne ex,p] at q; cases q
               ·simp only[VR]
                exact⟨_,cap,off,Emb.put_self _ _ _,lR _,hcap,.inl rfl,lR _,g5,rfl⟩
               ·refine⟨rfl,arr',e',fz,by rw[r2]; simp[hlt],by simp[hsz',q2],?_,?_,fun _=>⟨fun he=>by omega,fun f p q=>(q5 rfl).2 f (by simp at p; omega) q⟩⟩
                ·have:=hcs.length
                 have h2:=hxs.length
                 simp only[lA]; omega
                ·intro j u hj
                 have hall:=hcs.append hxs
                 obtain⟨u',p,q⟩:=hall.get hj
                 refine⟨u',?_,q.mono (Emb.le_put hn)⟩
                 have harr:arr'[off+j]?=(A1q arr.toList (off+n*i.size+0) xs)[off+j]?:=by rw[<- r3]; simp
                 rw[harr,A3y]
                 rw[List.getElem?_append] at p
                 split at p
                 ·rename_i hjl
                  rw[hol] at hjl
                  rw[if_neg (by omega)]
                  rw[tK,if_pos hjl,dP] at p
                  exact p
                 ·rename_i hjl
                  rw[hol] at hjl p
                  have hjlt:j-n*i.size<xs.length:=(gS.1 p).1
                  rw[if_pos ⟨by omega,by omega,by simp; omega⟩]
                  have:off+j-(off+n*i.size+0)=j-n*i.size:=by omega
                  rw[this]; exact p
              ·-- a new row
               have hs':Sim A Z (B.set b .dead) w.heap:=hs.upd hb hl rfl rfl (fun _ _=>rfl) trivial
               have hd':Dom Z (B.set b AObj.dead).length:=by simpa using hd
               have hold:(Builtin.firstCells i.size n (.slice (some ⟨l.c,off,none⟩) n cap)).run P w.drew=.ok ((arr.toList.drop off).take (n*i.size)).toArray w.drew:=by
                have:=run_firstCells_some (P:=P) w.drew i.size n ⟨l.c,off,none⟩ n cap ((arr.toList.drop off).take (n*i.size)) hol (fun j u hj=>by
                 rw[tK] at hj
                 split at hj
                 ·rw[dP] at hj
                  rw[M3,cell_of (w:=w.drew) q1]; simpa using hj
                 ·simp at hj)
                exact this
               have hrun:=run_append_grow_src (P:=P) w t tx ty ty2 i zv hu hi hzv (some ⟨l.c,off,none⟩) n cap _ hold y k xs hsrc (by omega) (by omega) (B1u (by omega) (by omega) c3)
               have hg:=B2g hs' hd' hrun (hcs.append hxs) (by simp only[lA,hol,hxl]; omega) hzl (B2h _ _ _ _) c2
               obtain⟨Z',v',nx,w',t1,t2,t3,t4,t5,t6,t7⟩:=hg
               refine⟨Z',v',nx,w',t1,t2,?_,by simpa using t4,t5,by simp,t7⟩
               obtain⟨s1,s2,s3,s4,s8,s9,s5,s6,s7,s10⟩:=t3
               refine⟨s1,fun x lx p q=>?_,s3,fun x hx _=>s4 x hx (fun _ h=>by cases h),s8,s9,s5,s6,s7,fun c v p q=>(s10 c v p q).elim .inl fun⟨_,h,_⟩=>by cases h⟩
               obtain⟨u1,u2,u3⟩:=s2 x lx p q
               refine⟨by simpa using u1,by simpa using u2,?_⟩
               rcases u3 with u3 | ⟨_,u3,_⟩
               ·exact .inl u3
               ·cases u3
             ·simp at h
          ·simp at h
        ·simp at h
      ·simp at h
     ·simp at h
    ·simp at h
   ·simp at h
  ·simp at h
 ·simp at h
end
end Go.Ad
namespace Go.Ad
section
variable {P:Program} {A:Amb} {Z:Emb} {B:Heap} {w:World}
theorem A5f{ts:Array TypeId}{ty:TypeId}{a v:AV}{x:Value}(h:A3j a=some v)(hx:VR Z a x):Pure P w Z (Builtin.unsafeSliceData_ ts ty #[x]) v:=by
 unfold A3j at h
 split at h
 ·cases h
  simp only[VR] at hx
  obtain⟨_,_,rfl⟩:=hx
  exact⟨.pointer none,Lib.run_unsafeSliceData_nil _ _ _ _ _,by simp only[VR]⟩
 ·rename_i a n m
  split at h
  ·rename_i hm
   cases h
   obtain⟨b,o⟩:=a
   simp only[VR] at hx
   obtain⟨l,cap,off,h1,h2,h3,h4,h5,h6,rfl⟩:=hx
   have hoff:off=l.d+o:=by omega
   subst hoff
   exact⟨.pointer (some ⟨l.c,l.d+o,none⟩),Lib.run_unsafeSliceData_row _ _ _ _ _ _ (by omega),by simp only[VR]; exact⟨l,h1,rfl⟩⟩
  ·cases h
 ·cases h
theorem D4j{ts:Array TypeId}{ty:TypeId}{a v:AV}{x:Value}(h:G1g P ts a=some v)(hx:VR Z a x):Pure P w Z (Builtin.cap_ ts ty #[x]) v:=by
 unfold G1g at h
 have ht:∀ d,(ts[0]?).bind P.underlying=some d->∃ t,ts[0]?=some t/\P.underlying t=some d:=fun d hd=>by
  simpa[Option.bind_eq_some_iff] using hd
 split at h
 ·rename_i n e hd
  obtain⟨t,h1,h2⟩:=ht _ hd
  cases h
  exact⟨.int .i64 n,by simp[Builtin.cap_,h1,und h2,goInt],by simp[VR]⟩
 ·rename_i e n m hd
  obtain⟨t,h1,h2⟩:=ht _ hd
  cases h
  simp only[VR] at hx
  obtain⟨_,_,rfl⟩:=hx
  exact⟨.int .i64 0,by simp[Builtin.cap_,h1,und h2,goInt],by simp[VR]⟩
 ·cases h
theorem D1d{c off n:Nat}{arr:Array Value}{e:TypeId}{fz:Nat×Nat}(h:w.heap[c]?=some (.cells arr e fz))(hn:n≠0) :
  ∃ fz',(w.freeze ⟨c,off,none⟩ n).heap=w.heap.setIfInBounds c (.cells arr e fz')/\(w.freeze ⟨c,off,none⟩ n).tape=w.tape/\(w.freeze ⟨c,off,none⟩ n).os=w.os /\
   (w.freeze ⟨c,off,none⟩ n).output=w.output:=by
 obtain⟨lo,hi⟩:=fz
 refine⟨if lo==hi then(off,off+n) else(min lo off,max hi (off+n)),?_,?_,?_,?_⟩
 ·simp only[World.freeze,if_neg hn]
  apply Array.ext_getElem?
  intro i
  rw[Array.getElem?_modify,Array.getElem?_setIfInBounds]
  by_cases hi:c=i
  ·subst hi
   obtain⟨hlt,hge⟩:=gA.1 h
   simp[hlt,hge]
  ·simp[hi]
 ·simp[World.freeze,hn]
 ·simp[World.freeze,hn]
 ·simp[World.freeze,hn]
theorem A0d{ts:Array TypeId}{ty:TypeId}{p n v:AV}{p' n':Value}{B':Heap}{D:List Nat}(hs:Sim A Z B w.heap)(hd:Dom Z B.length)(h:Q0 P B ts p n=some (v,B',D))(hp:VR Z p p')(hn:VR Z n n'):Got P A Z B w (do pure (.value (<- Builtin.unsafeString_ ts ty #[p',n']))) v B' D:=by
 unfold Q0 at h
 split at h
 ·rename_i n
  simp only[VR] at hp hn
  subst hp hn
  split at h
  ·rename_i hc
   obtain⟨rfl,ht⟩:=hc
   obtain⟨t1,t2,rfl⟩:∃ t1 t2,ts=#[t1,t2]:=by
    obtain⟨l⟩:=ts
    match l,ht with
    | [a,b],_=>exact⟨a,b,rfl⟩
   refine F6 hs hd h fun v hv=>?_
   cases hv
   exact⟨.string .empty,Lib.run_unsafeString_none _ _ _ _ _,by simp only[VR]; exact⟨_,rfl,rfl⟩⟩
  ·cases h
 ·rename_i b o n
  simp only[VR] at hp hn
  obtain⟨l,hl,rfl⟩:=hp
  subst hn
  split at h
  ·rename_i u c ty2 ht hb
   obtain⟨t,t2,hts,h2⟩:∃ t t2,ts=#[t,t2]/\P.underlying t=some (.pointer u):=by
    split at ht
    ·rename_i t t2 hl; exact⟨t,t2,by apply Array.ext'; simpa using hl,ht⟩
    ·cases ht
   subst hts
   split at h
   ·rename_i hc
    obtain⟨c1,c2,c3,c4⟩:=hc
    split at h
    ·rename_i cs hcs
     simp only[oM,pI] at h
     obtain⟨s,hsb,rfl,rfl,rfl⟩:=h
     obtain⟨e0,arr,_,fz,q1,q2,q3,q4,q5⟩:=hs.obj b _ l hb hl
     have hlen:o+n.toNat<=c.length/\cs=(c.drop o).take n.toNat:=by
      unfold ldN at hcs
      rw[hb] at hcs
      simp only at hcs
      split at hcs
      ·cases hcs; exact⟨by assumption,rfl⟩
      ·cases hcs
     obtain⟨hlen,rfl⟩:=hlen
     have hcv:VRL Z ((c.drop o).take n.toNat) ((arr.toList.drop (l.d+o)).take n.toNat):=by
      refine .of_get (by simp only[List.length_take,List.length_drop,Array.length_toList]; omega) fun j a hj=>?_
      rw[tK] at hj ⊢
      split at hj
      ·rename_i hjl
       rw[if_pos hjl]
       rw[dP] at hj ⊢
       obtain⟨v,r1,r2⟩:=q4 _ _ hj
       exact⟨v,by rw[Nat.add_assoc]; simpa using r1,r2⟩
      ·cases hj
     obtain⟨ns,hns,rfl⟩:=A8n hsb hcv
     have hnl:ns.length=n.toNat:=by
      have:=congrArg List.length hns
      simp only[List.length_take,List.length_drop,Array.length_toList,List.length_map] at this
      omega
     have hget:∀ (i:Nat) m,ns[i]?=some m->arr[l.d+o+i]?=some (.int .u8 m):=fun i m hi=>by
      have h3:(ns.map (Value.int .u8))[i]?=some (.int .u8 m):=by simp[hi]
      rw[<- hns,tK] at h3
      split at h3
      ·rw[dP] at h3; simpa using h3
      ·cases h3
     have hload:=A9p (P:=P) (w:=w) ns l.c (l.d+o) .empty q1 hget
     rw[hnl] at hload
     have hvar:(variablesAt ⟨l.c,l.d+o,none⟩ u n.toNat).run P w=.ok true w:=by
      rw[A7b q1,c3,Nat.div_one,E8h c3 c4 (by omega)]
     obtain⟨fz',f1,f2,f3,f4⟩:=D1d (w:=w) (off:=l.d+o) (n:=n.toNat) q1 (by omega)
     have helem:(elemOf t).run P w=.ok u w:=by simp[elemOf,und h2]
     have hdef:Builtin.unsafeString_ #[t,t2] ty #[.pointer (some ⟨l.c,l.d+o,none⟩),.int .i64 n] =
       (do
        let n <- asInt (.int .i64 n)
        if n<0 then runtimePanic (.error "unsafe.String: len out of range")
        if n>IntKind.i64.max then unsupported (.unsafePointer "String: a length above the largest int")
        if n=0 then pure (.string .empty)
        else if <- variablesAt ⟨l.c,l.d+o,none⟩ (<- elemOf t) n.toNat then do
         let s <- loadBytes ⟨l.c,l.d+o,none⟩ .empty n.toNat
         freeze ⟨l.c,l.d+o,none⟩ n.toNat
         pure (.string s)
        else unsupported (.unsafePointer "String: not so many bytes at ptr")):=rfl
     have hrun:(Builtin.unsafeString_ #[t,t2] ty #[.pointer (some ⟨l.c,l.d+o,none⟩),.int .i64 n]).run P w =
       .ok (.string ⟨(ns.map fun n=>UInt8.ofNat n.toNat).toArray⟩) (w.freeze ⟨l.c,l.d+o,none⟩ n.toNat):=by
      rw[hdef]
      have hneg:¬ n<0:=by omega
      have hne:¬ n=0:=by omega
      have hmm:IntKind.i64.max=9223372036854775807:=rfl
      have hm2:¬ (9223372036854775807:Int)<n:=by omega
      simp[asInt,asIntOf,hmm,hm2,hneg,hne,helem,hvar,hload]
     have hlt:l.c<w.heap.size:=hs.lt b l hl
     refine⟨Z,.string ⟨(ns.map fun n=>UInt8.ofNat n.toNat).toArray⟩,.value _,w.freeze ⟨l.c,l.d+o,none⟩ n.toNat,by simp only[Sem.run_bind,hrun,rK,Sem.run_pure],.inl rfl,
      Step.cells hl Z.le_refl (fun x lx p q=>(by rw[p] at q; cases q)) q1 f1 f2 f3 f4,by simp only[VR]; exact⟨_,by simp,rfl⟩,
      hs.upd hb hl rfl (by rw[f1]; simp) (fun x hx=>by rw[f1]; simp[Array.getElem?_setIfInBounds_ne (Ne.symm hx)]) ?_,by simp,by simpa using hd⟩
     exact⟨e0,arr,(),fz',by rw[f1]; simp[hlt],q2,q3,q4,fun e=>by cases e⟩
    ·cases h
   ·cases h
  ·cases h
 ·cases h
end
end Go.Ad
