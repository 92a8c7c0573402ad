/- The abstract evaluator's operations stand for the model's: append; and all operations together. -/
import Derived.Test.YtoboneiigikidaaGreatDoorAdOps6
namespace Go.Ad
section
variable {P:Program} {A:Amb} {ι:Emb} {B:Heap} {w:World}
theorem B1k {n c b:Nat} (h:n < 2 ^ 31) (hc:c < n) (hb:b<=2 ^ 12):Builtin.nextslicecap n c*b<=281474976710656:=by
 have h1:=D5p n c hc
 have h2:Builtin.nextslicecap n c*b<=(2*n+192)*2 ^ 12:=Nat.mul_le_mul h1 hb
 omega
theorem C3a {t:TypeId} {z:List AV} {i:TypeInfo} (h:zeroCells? P t=some z) (hi:P.info? t=some i):∃ zv,i.zero=some zv/\zv.cells.toList.map A7c=z:=by
 unfold zeroCells? at h
 simp only [hi,Option.bind_some,Option.map_eq_some_iff] at h
 exact h
theorem O6 {ts:Array TypeId} {ty:TypeId} {d a v:AV} {x y:Value} {B':Heap} {D:List Nat} (hs:Sim A ι B w.heap) (hd:Dom ι B.length)
  (h:O5 P B ts d a=some (v,B',D)) (hx:VR ι d x) (hy:VR ι a y):Got P A ι B w (do pure (.value (<- Builtin.append_ ts ty #[x,y]))) v B' D:=by
 unfold O5 at h
 split at h
 ·rename_i t tx base n m h1
  have hts:ts=#[t,tx]:=by apply Array.ext'; simpa using h1
  subst hts
  split at h
  ·rename_i e hu
   split at h
   ·rename_i i z hi hz
    split at h
    ·rename_i hc
     obtain ⟨c1,c2,c3,c4⟩:=hc
     split at h
     ·rename_i k hk
      split at h
      ·rename_i new hnew
       obtain ⟨zv,hzv,z2⟩:=C3a hz hi
       have hzl:zv.cells.size=i.size:=by rw [<- c1,<- z2]; simp
       split at h
       ·-- nothing is appended
        rename_i hk0
        subst hk0
        cases h
        have hnil:new=[]:=by
         have:=B3u hnew hk hy
         simpa using this
        subst hnil
        obtain ⟨xs,hsrc,hxs⟩:=E9t (P:=P) hs hnew hy hk c4 (by simp)
        simp only [VRL] at hxs; subst hxs
        cases base with
        | none =>
         have hx':=hx
         simp only [VR] at hx'; obtain ⟨rfl,rfl,rfl⟩:=hx'
         exact .of_pure hs hd ⟨_,T9 hu hi hsrc (by omega) (fun a h=>by cases h) (fun _=>rfl),hx⟩
        | some p =>
         obtain ⟨b,o⟩:=p
         have hx':=hx
         simp only [VR] at hx'; obtain ⟨l,cap,off,hl,g1,g2,g3,g4,g5,rfl⟩:=hx'
         exact .of_pure hs hd ⟨_,T9 hu hi hsrc (by omega) (fun a _=>rfl) (fun h=>by cases h),hx⟩
       ·rename_i hk0
        split at h
        ·rename_i hbd
         obtain ⟨hlt,hone⟩:=hbd
         obtain ⟨xs,hsrc,hxs⟩:=E9t (P:=P) hs hnew hy hk c4 hone
         have hxl:xs.length=k*i.size:=hsrc.newsLen
         cases base with
         | none =>
          simp only [sI,pI] at h
          obtain ⟨rfl,rfl,rfl⟩:=h
          simp only [VR] at hx; obtain ⟨rfl,rfl,rfl⟩:=hx
          have hrun:=run_append_grow_src (P:=P) w t tx ty e i zv hu hi hzv none 0 0 [] rfl y k xs hsrc (by omega) (by omega) (B1k (by omega) (by omega) c3)
          simp only [Nat.zero_add,List.nil_append] at hrun
          exact B1u hs hd hrun hxs hxl hzl (B1v _ _ _ _) c2
         | some p =>
          obtain ⟨b,o⟩:=p
          simp only [VR] at hx; obtain ⟨l,cap,off,hl,g1,g2,g3,g4,g5,rfl⟩:=hx
          simp only at h
          split at h
          ·rename_i c es ty2 hb
           obtain ⟨q0,arr,e',fz,q1,q2,q3,q4,q5⟩:=hs.obj b _ l hb hl
           split at h
           ·simp at h
           ·rename_i hes
            have hes':es=i.size/\ty2=e:=by
             constructor
             ·exact Classical.byContradiction fun h=>hes (.inl h)
             ·exact Classical.byContradiction fun h=>hes (.inr h)
            obtain ⟨hes',hty⟩:=hes'
            subst hes' hty
            rw [q0] at g5
            have hcm:cap*i.size<=l.n - off:=by omega
            split at h
            ·-- room for sure
             rename_i hroom
             split at h
             ·rename_i hin
              cases h
              have hoff:off=l.d+o:=by rcases g3 with g3 | g3 <;> omega
              subst hoff
              have hst:st B b (o+n*i.size) new=some (B.set b (.cells (Y2 c (o+n*i.size) new) i.size true ty2)):=by
               unfold st; rw [hb]
               have hnl:new.length=k*i.size:=by rw [<- hxs.length]; exact hxl
               have hmul:(n+k)*i.size=n*i.size+k*i.size:=Nat.add_mul _ _ _
               simp only
               rw [if_pos ⟨by rw [hnl]; omega,hone⟩]
              obtain ⟨w',r1,r2,r3,r4⟩:=B2j (P:=P) hs hst hl hxs
              have hrun:=T9 (P:=P) (ty:=ty) (base:=some ⟨l.c,l.d+o,none⟩) (c:=cap) hu hi hsrc (by omega:n+k<=cap)
               (fun a ha=>by cases ha; rw [M4]; rw [Nat.add_assoc]; exact r1) (fun h=>by cases h)
              refine ⟨ι,.slice (some ⟨l.c,l.d+o,none⟩) (n+k) cap,.value (.slice (some ⟨l.c,l.d+o,none⟩) (n+k) cap),w',by simp only [Sem.run_bind,hrun,Result.andThen_ok,Sem.run_pure],.inl rfl,r2,?_,r3,by simp,by simpa using hd⟩
              simp only [VR]
              exact ⟨l,cap,_,hl,hroom,g2,.inl rfl,by omega,by rw [q0]; exact g5,rfl⟩
             ·simp at h
            ·rename_i hroom
             split at h
             ·rename_i hin
              cases h
              have hcs:VRL ι ((c.drop o).take (n*i.size)) ((arr.toList.drop off).take (n*i.size)):=by
               by_cases hn0:n=0
               ·subst hn0; simp [VRL]
               ·have hoff:off=l.d+o:=by rcases g3 with g3 | g3 <;> omega
                subst hoff
                refine .of_get ?_ fun j u hj=>?_
                ·simp only [List.length_take,List.length_drop,Array.length_toList]; omega
                ·rw [List.getElem?_take] at hj ⊢
                 split at hj
                 ·rename_i hjl
                  rw [if_pos hjl]
                  rw [List.getElem?_drop] at hj ⊢
                  obtain ⟨u',p,q⟩:=q4 _ _ hj
                  exact ⟨u',by rw [Nat.add_assoc]; simpa using p,q⟩
                 ·simp at hj
              have hol:((arr.toList.drop off).take (n*i.size)).length=n*i.size:=by
               have:n*i.size<=cap*i.size:=Nat.mul_le_mul_right _ (by omega)
               simp only [List.length_take,List.length_drop,Array.length_toList]; omega
              have hmul:(n+k)*i.size=n*i.size+k*i.size:=Nat.add_mul _ _ _
              have hn:ι B.length=none:=hd _ (Nat.le_refl _)
              by_cases hcap:n+k<=cap
              ·-- in place
               have hle:(n+k)*i.size<=cap*i.size:=Nat.mul_le_mul_right _ hcap
               obtain ⟨w',arr',r1,r2,r3,r4,r5,r6⟩:=A8z (P:=P) (off:=off+n*i.size) xs 0 arr w q1 (by omega) hsrc.one
                (fun j p q=>(q5 rfl).2 j (by omega) (by omega))
               have hrun:=T9 (P:=P) (ty:=ty) (base:=some ⟨l.c,off,none⟩) (c:=cap) (w':=w') hu hi hsrc hcap
                (fun a ha=>by cases ha; rw [M4]; exact r1) (fun h=>by cases h)
               have hlt:l.c < w.heap.size:=hs.lt b l hl
               have hsz':arr'.size=arr.size:=by
                have:=congrArg List.length r3; simpa [U2] using this
               refine ⟨ι.put B.length ⟨l.c,off,l.n,i.size⟩,.slice (some ⟨l.c,off,none⟩) (n+k) cap,.value (.slice (some ⟨l.c,off,none⟩) (n+k) cap),w',by simp only [Sem.run_bind,hrun,Result.andThen_ok,Sem.run_pure],.inl rfl,
                Step.cells hl (Emb.le_put hn) (fun x lx p q=>?_) q1 r2 r4 r5 r6,?_,
                hs.move hn hb hl rfl (by rw [r2]; simp) (fun x hx=>by rw [r2]; simp [Array.getElem?_setIfInBounds_ne (Ne.symm hx)]) rfl ?_,by simp,by simpa using hd.put⟩
               ·by_cases ex:x=B.length
                ·subst ex; rw [Emb.put_self] at q; cases q
                 exact ⟨Nat.le_refl _,by simp,rfl⟩
                ·rw [Emb.put_ne ex,p] at q; cases q
               ·simp only [VR]
                exact ⟨_,cap,off,Emb.put_self _ _ _,Nat.le_refl _,hcap,.inl rfl,Nat.le_refl _,g5,rfl⟩
               ·refine ⟨rfl,arr',e',fz,by rw [r2]; simp [hlt],by simp [hsz',q2],?_,?_,fun _=>⟨fun he=>by omega,fun f p q=>(q5 rfl).2 f (by simp at p; omega) q⟩⟩
                ·have:=hcs.length
                 have h2:=hxs.length
                 simp only [List.length_append]; omega
                ·intro j u hj
                 have hall:=hcs.append hxs
                 obtain ⟨u',p,q⟩:=hall.get hj
                 refine ⟨u',?_,q.mono (Emb.le_put hn)⟩
                 have harr:arr'[off+j]?=(Y2 arr.toList (off+n*i.size+0) xs)[off+j]?:=by rw [<- r3]; simp
                 rw [harr,A0f]
                 rw [List.getElem?_append] at p
                 split at p
                 ·rename_i hjl
                  rw [hol] at hjl
                  rw [if_neg (by omega)]
                  rw [List.getElem?_take,if_pos hjl,List.getElem?_drop] at p
                  exact p
                 ·rename_i hjl
                  rw [hol] at hjl p
                  have hjlt:j - n*i.size < xs.length:=(List.getElem?_eq_some_iff.1 p).1
                  rw [if_pos ⟨by omega,by omega,by simp; omega⟩]
                  have:off+j - (off+n*i.size+0)=j - n*i.size:=by omega
                  rw [this]; exact p
              ·-- a new row
               have hs':Sim A ι (B.set b .dead) w.heap:=hs.upd hb hl rfl rfl (fun _ _=>rfl) trivial
               have hd':Dom ι (B.set b AObj.dead).length:=by simpa using hd
               have hold:(Builtin.firstCells i.size n (.slice (some ⟨l.c,off,none⟩) n cap)).run P w.drew=.ok ((arr.toList.drop off).take (n*i.size)).toArray w.drew:=by
                have:=run_firstCells_some (P:=P) w.drew i.size n ⟨l.c,off,none⟩ n cap ((arr.toList.drop off).take (n*i.size)) hol (fun j u hj=>by
                 rw [List.getElem?_take] at hj
                 split at hj
                 ·rw [List.getElem?_drop] at hj
                  rw [M4,cell_of (w:=w.drew) q1]; simpa using hj
                 ·simp at hj)
                exact this
               have hrun:=run_append_grow_src (P:=P) w t tx ty ty2 i zv hu hi hzv (some ⟨l.c,off,none⟩) n cap _ hold y k xs hsrc (by omega) (by omega) (B1k (by omega) (by omega) c3)
               have hg:=B1u hs' hd' hrun (hcs.append hxs) (by simp only [List.length_append,hol,hxl]; omega) hzl (B1v _ _ _ _) c2
               obtain ⟨ι',v',nx,w',t1,t2,t3,t4,t5,t6,t7⟩:=hg
               refine ⟨ι',v',nx,w',t1,t2,?_,by simpa using t4,t5,by simp,t7⟩
               obtain ⟨s1,s2,s3,s4,s8,s9,s5,s6,s7,s10⟩:=t3
               refine ⟨s1,fun x lx p q=>?_,s3,fun x hx _=>s4 x hx (fun _ h=>by cases h),s8,s9,s5,s6,s7,fun c v p q=>(s10 c v p q).elim .inl fun ⟨_,h,_⟩=>by cases h⟩
               obtain ⟨u1,u2,u3⟩:=s2 x lx p q
               refine ⟨by simpa using u1,by simpa using u2,?_⟩
               rcases u3 with u3 | ⟨_,u3,_⟩
               ·exact .inl u3
               ·cases u3
             ·simp at h
          ·simp at h
        ·simp at h
      ·simp at h
     ·simp at h
    ·simp at h
   ·simp at h
  ·simp at h
 ·simp at h
end
end Go.Ad
