/- The abstract evaluator's operations stand for the model's: bytes seen as a text, what a slice points at, capacities. -/
import Derived.Test.YtoboneiigikidaaGreatDoorAdOps7
import Derived.Lib.UnsafeStr
namespace Go.Ad
section
variable {P:Program} {A:Amb} {ι:Emb} {B:Heap} {w:World}
theorem A5c {ts:Array TypeId} {ty:TypeId} {a v:AV} {x:Value} (h:A3k a=some v) (hx:VR ι a x):Pure P w ι (Builtin.unsafeSliceData_ ts ty #[x]) v:=by
 unfold A3k at h
 split at h
 ·cases h
  simp only [VR] at hx
  obtain ⟨_,_,rfl⟩:=hx
  exact ⟨.pointer none,Lib.run_unsafeSliceData_nil _ _ _ _ _,by simp only [VR]⟩
 ·rename_i a n m
  split at h
  ·rename_i hm
   cases h
   obtain ⟨b,o⟩:=a
   simp only [VR] at hx
   obtain ⟨l,cap,off,h1,h2,h3,h4,h5,h6,rfl⟩:=hx
   have hoff:off=l.d+o:=by omega
   subst hoff
   exact ⟨.pointer (some ⟨l.c,l.d+o,none⟩),Lib.run_unsafeSliceData_row _ _ _ _ _ _ (by omega),by simp only [VR]; exact ⟨l,h1,rfl⟩⟩
  ·cases h
 ·cases h
theorem D3c {ts:Array TypeId} {ty:TypeId} {a v:AV} {x:Value} (h:F8u P ts a=some v) (hx:VR ι a x):Pure P w ι (Builtin.cap_ ts ty #[x]) v:=by
 unfold F8u at h
 have ht:∀ d,(ts[0]?).bind P.underlying=some d->∃ t,ts[0]?=some t/\P.underlying t=some d:=fun d hd=>by
  simpa [Option.bind_eq_some_iff] using hd
 split at h
 ·rename_i n e hd
  obtain ⟨t,h1,h2⟩:=ht _ hd
  cases h
  exact ⟨.int .i64 n,by simp [Builtin.cap_,h1,und h2,goInt],by simp [VR]⟩
 ·rename_i e n m hd
  obtain ⟨t,h1,h2⟩:=ht _ hd
  cases h
  simp only [VR] at hx
  obtain ⟨_,_,rfl⟩:=hx
  exact ⟨.int .i64 0,by simp [Builtin.cap_,h1,und h2,goInt],by simp [VR]⟩
 ·cases h
theorem D0c {c off n:Nat} {arr:Array Value} {e:TypeId} {fz:Nat × Nat} (h:w.heap[c]?=some (.cells arr e fz)) (hn:n ≠ 0) :
  ∃ fz',(w.freeze ⟨c,off,none⟩ n).heap=w.heap.setIfInBounds c (.cells arr e fz')/\(w.freeze ⟨c,off,none⟩ n).tape=w.tape/\(w.freeze ⟨c,off,none⟩ n).os=w.os /\
   (w.freeze ⟨c,off,none⟩ n).output=w.output:=by
 obtain ⟨lo,hi⟩:=fz
 refine ⟨if lo == hi then (off,off+n) else (min lo off,max hi (off+n)),?_,?_,?_,?_⟩
 ·simp only [World.freeze,if_neg hn]
  apply Array.ext_getElem?
  intro i
  rw [Array.getElem?_modify,Array.getElem?_setIfInBounds]
  by_cases hi:c=i
  ·subst hi
   obtain ⟨hlt,hge⟩:=Array.getElem?_eq_some_iff.1 h
   simp [hlt,hge]
  ·simp [hi]
 ·simp [World.freeze,hn]
 ·simp [World.freeze,hn]
 ·simp [World.freeze,hn]
theorem Z9 {ts:Array TypeId} {ty:TypeId} {p n v:AV} {p' n':Value} {B':Heap} {D:List Nat} (hs:Sim A ι B w.heap) (hd:Dom ι B.length)
  (h:Q6 P B ts p n=some (v,B',D)) (hp:VR ι p p') (hn:VR ι n n'):Got P A ι B w (do pure (.value (<- Builtin.unsafeString_ ts ty #[p',n']))) v B' D:=by
 unfold Q6 at h
 split at h
 ·rename_i n
  simp only [VR] at hp hn
  subst hp hn
  split at h
  ·rename_i hc
   obtain ⟨rfl,ht⟩:=hc
   obtain ⟨t1,t2,rfl⟩:∃ t1 t2,ts=#[t1,t2]:=by
    obtain ⟨l⟩:=ts
    match l,ht with
    | [a,b],_=>exact ⟨a,b,rfl⟩
   refine F4 hs hd h fun v hv=>?_
   cases hv
   exact ⟨.string .empty,Lib.run_unsafeString_none _ _ _ _ _,by simp only [VR]; exact ⟨_,rfl,rfl⟩⟩
  ·cases h
 ·rename_i b o n
  simp only [VR] at hp hn
  obtain ⟨l,hl,rfl⟩:=hp
  subst hn
  split at h
  ·rename_i u c ty2 ht hb
   obtain ⟨t,t2,hts,h2⟩:∃ t t2,ts=#[t,t2]/\P.underlying t=some (.pointer u):=by
    split at ht
    ·rename_i t t2 hl; exact ⟨t,t2,by apply Array.ext'; simpa using hl,ht⟩
    ·cases ht
   subst hts
   split at h
   ·rename_i hc
    obtain ⟨c1,c2,c3,c4⟩:=hc
    split at h
    ·rename_i cs hcs
     simp only [Option.map_eq_some_iff,pI] at h
     obtain ⟨s,hsb,rfl,rfl,rfl⟩:=h
     obtain ⟨e0,arr,_,fz,q1,q2,q3,q4,q5⟩:=hs.obj b _ l hb hl
     have hlen:o+n.toNat<=c.length/\cs=(c.drop o).take n.toNat:=by
      unfold ldN at hcs
      rw [hb] at hcs
      simp only at hcs
      split at hcs
      ·cases hcs; exact ⟨by assumption,rfl⟩
      ·cases hcs
     obtain ⟨hlen,rfl⟩:=hlen
     have hcv:VRL ι ((c.drop o).take n.toNat) ((arr.toList.drop (l.d+o)).take n.toNat):=by
      refine .of_get (by simp only [List.length_take,List.length_drop,Array.length_toList]; omega) fun j a hj=>?_
      rw [List.getElem?_take] at hj ⊢
      split at hj
      ·rename_i hjl
       rw [if_pos hjl]
       rw [List.getElem?_drop] at hj ⊢
       obtain ⟨v,r1,r2⟩:=q4 _ _ hj
       exact ⟨v,by rw [Nat.add_assoc]; simpa using r1,r2⟩
      ·cases hj
     obtain ⟨ns,hns,rfl⟩:=A8i hsb hcv
     have hnl:ns.length=n.toNat:=by
      have:=congrArg List.length hns
      simp only [List.length_take,List.length_drop,Array.length_toList,List.length_map] at this
      omega
     have hget:∀ (i:Nat) m,ns[i]?=some m->arr[l.d+o+i]?=some (.int .u8 m):=fun i m hi=>by
      have h3:(ns.map (Value.int .u8))[i]?=some (.int .u8 m):=by simp [hi]
      rw [<- hns,List.getElem?_take] at h3
      split at h3
      ·rw [List.getElem?_drop] at h3; simpa using h3
      ·cases h3
     have hload:=A9k (P:=P) (w:=w) ns l.c (l.d+o) .empty q1 hget
     rw [hnl] at hload
     have hvar:(variablesAt ⟨l.c,l.d+o,none⟩ u n.toNat).run P w=.ok true w:=by
      rw [A6v q1,c3,Nat.div_one,E6m c3 c4 (by omega)]
     obtain ⟨fz',f1,f2,f3,f4⟩:=D0c (w:=w) (off:=l.d+o) (n:=n.toNat) q1 (by omega)
     have helem:(elemOf t).run P w=.ok u w:=by simp [elemOf,und h2]
     have hdef:Builtin.unsafeString_ #[t,t2] ty #[.pointer (some ⟨l.c,l.d+o,none⟩),.int .i64 n] =
       (do
        let n <- asInt (.int .i64 n)
        if n < 0 then runtimePanic (.error "unsafe.String: len out of range")
        if n > IntKind.i64.max then unsupported (.unsafePointer "String: a length above the largest int")
        if n=0 then pure (.string .empty)
        else if <- variablesAt ⟨l.c,l.d+o,none⟩ (<- elemOf t) n.toNat then do
         let s <- loadBytes ⟨l.c,l.d+o,none⟩ .empty n.toNat
         freeze ⟨l.c,l.d+o,none⟩ n.toNat
         pure (.string s)
        else unsupported (.unsafePointer "String: not so many bytes at ptr")):=rfl
     have hrun:(Builtin.unsafeString_ #[t,t2] ty #[.pointer (some ⟨l.c,l.d+o,none⟩),.int .i64 n]).run P w =
       .ok (.string ⟨(ns.map fun n=>UInt8.ofNat n.toNat).toArray⟩) (w.freeze ⟨l.c,l.d+o,none⟩ n.toNat):=by
      rw [hdef]
      have hneg:¬ n < 0:=by omega
      have hne:¬ n=0:=by omega
      have hmm:IntKind.i64.max=9223372036854775807:=rfl
      have hm2:¬ (9223372036854775807:Int) < n:=by omega
      simp [asInt,asIntOf,hmm,hm2,hneg,hne,helem,hvar,hload]
     have hlt:l.c < w.heap.size:=hs.lt b l hl
     refine ⟨ι,.string ⟨(ns.map fun n=>UInt8.ofNat n.toNat).toArray⟩,.value _,w.freeze ⟨l.c,l.d+o,none⟩ n.toNat,by simp only [Sem.run_bind,hrun,Result.andThen_ok,Sem.run_pure],.inl rfl,
      Step.cells hl ι.le_refl (fun x lx p q=>(by rw [p] at q; cases q)) q1 f1 f2 f3 f4,by simp only [VR]; exact ⟨_,by simp,rfl⟩,
      hs.upd hb hl rfl (by rw [f1]; simp) (fun x hx=>by rw [f1]; simp [Array.getElem?_setIfInBounds_ne (Ne.symm hx)]) ?_,by simp,by simpa using hd⟩
     exact ⟨e0,arr,(),fz',by rw [f1]; simp [hlt],q2,q3,q4,fun e=>by cases e⟩
    ·cases h
   ·cases h
  ·cases h
 ·cases h
end
end Go.Ad
