/- The abstract evaluator's operations stand for the model's: append, copy; and all operations together. -/
import Derived.Test.YtoboneiigikidaaGreatDoorAdOps5
import Derived.Deep.AppendSrc
namespace Go.Ad
section
variable {P:Program} {A:Amb} {Z:Emb} {B:Heap} {w:World}
theorem Sim.move{h h':Array Obj}(hs:Sim A Z B h)(hn:Z B.length=none){b:Nat}{o o':AObj}{l l':Loc}(hb:B[b]?=some o)(hl:Z b=some l)(ho:o.own=true)(hsz:h'.size=h.size)(hk:∀ c,c≠l.c->h'[c]?=h[c]?)(hc:l'.c=l.c)(hor:OR (Z.put B.length l') h' l' o') :
  Sim A (Z.put B.length l') (B.set b .dead++[o']) h':=by
 have hbl:b<B.length:=(gS.1 hb).1
 have hget:∀ x ox,(B.set b .dead++[o'])[x]?=some ox->x≠B.length->(x≠b/\B[x]?=some ox) \/ ox=.dead:=fun x ox hx hne=>by
  rw[List.getElem?_append] at hx
  split at hx
  ·rw[List.getElem?_set] at hx
   split at hx
   ·right; simpa using hx.symm
   ·rename_i hxb; exact .inl ⟨Ne.symm hxb,hx⟩
  ·rename_i hlt
   rw[gO (by simp at hlt ⊢; omega)] at hx; simp at hx
 have hself:∀ ox,(B.set b .dead++[o'])[B.length]?=some ox->ox=o':=fun ox hx=>by
  rw[gR (by simp)] at hx; simp at hx; exact hx.symm
 refine⟨fun x ox lx hx hlx=>?_,fun x lx hlx=>?_,fun x y lx ly ox oy hne hlx hly hx hy h1 h2=>?_,fun c hc'=>?_,fun x lx ox hlx hx h1=>?_,?_,fun c v hv=>(hs.fzOK c v hv).keep (hk c (Ne.symm (hs.fzSep c v b l o hv hl hb ho))),fun c v x lx ox hv hlx hx h1=>?_⟩
 ·by_cases e:x=B.length
  ·subst e; rw[Emb.put_self] at hlx; cases hlx; rw[hself ox hx]; exact hor
  ·rw[Emb.put_ne e] at hlx
   rcases hget x ox hx e with⟨e',hx'⟩ | rfl
   ·by_cases hlive:ox.live=true
    ·have:=hs.own b x l lx o ox (Ne.symm e') hl hlx hb hx' ho hlive
     exact(hs.obj x ox lx hx' hlx).keep (Emb.le_put hn) (hk _ (Ne.symm this))
    ·cases ox<;>simp[AObj.live] at hlive; trivial
   ·trivial
 ·rw[hsz]
  by_cases e:x=B.length
  ·subst e; rw[Emb.put_self] at hlx; cases hlx; rw[hc]; exact hs.lt b l hl
  ·rw[Emb.put_ne e] at hlx; exact hs.lt x lx hlx
 ·by_cases e:x=B.length
  ·subst e; rw[Emb.put_self] at hlx; cases hlx
   rw[Emb.put_ne (Ne.symm hne)] at hly
   rcases hget y oy hy (Ne.symm hne) with⟨e',hy'⟩ | rfl
   ·rw[hc]; exact hs.own b y l ly o oy (Ne.symm e') hl hly hb hy' ho h2
   ·simp[AObj.live] at h2
  ·rw[Emb.put_ne e] at hlx
   rcases hget x ox hx e with⟨e1,hx'⟩ | rfl
   ·by_cases e2:y=B.length
    ·subst e2; rw[Emb.put_self] at hly; cases hly
     rw[hc]; exact hs.own x b lx l ox o e1 hlx hl hx' hb h1 (AObj.live_of_own ho)
    ·rw[Emb.put_ne e2] at hly
     rcases hget y oy hy e2 with⟨e3,hy'⟩ | rfl
     ·exact hs.own x y lx ly ox oy hne hlx hly hx' hy' h1 h2
     ·simp[AObj.live] at h2
   ·simp[AObj.own] at h1
 ·rw[hk c (by have:=hs.ownG b l o hl hb ho; omega)]; exact hs.amb c hc'
 ·by_cases e:x=B.length
  ·subst e; rw[Emb.put_self] at hlx; cases hlx; rw[hc]; exact hs.ownG b l o hl hb ho
  ·rw[Emb.put_ne e] at hlx
   rcases hget x ox hx e with⟨e1,hx'⟩ | rfl
   ·exact hs.ownG x lx ox hlx hx' h1
   ·simp[AObj.own] at h1
 ·rw[hsz]; exact hs.gLe
 ·by_cases e:x=B.length
  ·subst e; rw[Emb.put_self] at hlx; cases hlx; rw[hc]; exact hs.fzSep c v b l o hv hl hb ho
  ·rw[Emb.put_ne e] at hlx
   rcases hget x ox hx e with⟨e1,hx'⟩ | rfl
   ·exact hs.fzSep c v x lx ox hv hlx hx' h1
   ·simp[AObj.own] at h1
theorem C2q(n:Nat):∀ r c,c<=2*n+192->Builtin.growBy n r c<=2*n+192
 | 0,c,h=>h
 | r+1,c,h=>by
  simp only[Builtin.growBy]
  split
  ·exact h
  ·exact C2q n r _ (by omega)
theorem D6v(n c:Nat)(h:c<n):Builtin.nextslicecap n c<=2*n+192:=by
 unfold Builtin.nextslicecap
 split
 ·omega
 ·split
  ·omega
  ·exact C2q n 4 c (by omega)
theorem B7q{k n:Nat}{a:AV}{cs:List AV}{x:Value}(hs:Sim A Z B w.heap)(h:A7m B k n a=some cs)(hx:VR Z a x)(hn:∀ m,B5j a=some m->n<=m) :
  ∃ xs:List Value,(∀ w':World,w'.heap=w.heap->(Builtin.firstCells k n x).run P w'=.ok xs.toArray w')/\VRL Z cs xs:=by
 unfold A7m at h
 split at h
 ·simp only[VR] at hx; obtain⟨_,_,rfl⟩:=hx; cases h
  exact⟨[],fun _ _=>rfl,by simp[VRL]⟩
 ·rename_i b o m c
  simp only[VR] at hx
  obtain⟨l,cap,off,hl,g1,g2,g3,g4,g5,rfl⟩:=hx
  have hnm:=hn m rfl
  by_cases h0:n*k=0
  ·rw[h0] at h
   have:cs=[]:=by
    unfold ldN at h
    split at h
    ·split at h
     ·simp at h; exact h
     ·simp at h
    ·simp at h
   subst this
   refine⟨[],fun w' _=>?_,by simp[VRL]⟩
   simp only[Builtin.firstCells,h0]; rfl
  ·have hoff:off=l.d+o:=by
    rcases g3 with g3 | g3
    ·exact g3
    ·have:n=0:=by omega
     subst this; simp at h0
   subst hoff
   obtain⟨vs,_,q1,q2⟩:=A8y (P:=P) hs h hl
   exact⟨vs,q1,q2⟩
 ·rename_i s
  simp only[VR] at hx; obtain⟨bb,rfl,rfl⟩:=hx
  split at h
  ·cases h
   refine⟨((bb.extract 0 n).data.map fun b:UInt8=>(Value.int .u8 b.toNat)).toList,fun w' _=>by simp only[Builtin.firstCells,Sem.run_pure],?_⟩
   have h1:=(B4j (Z:=Z) (bb.extract 0 n))
   rw[B2d] at h1
   have h2:bytesOf ((bb.data.toList.take n).drop 0)=(bytesOf bb.data.toList).take n:=by simp[bytesOf]
   rw[h2] at h1; exact h1
  ·simp at h
 ·simp at h
theorem C9o{a:AV}{x:Value}{n:Nat}(h:B5j a=some n)(hx:VR Z a x):(Builtin.lenOf x).run P w=.ok n w:=by
 unfold B5j at h
 split at h
 ·rename_i y n m
  cases h
  cases y with
  | none=>simp only[VR] at hx; obtain⟨rfl,rfl,rfl⟩:=hx; rfl
  | some p=>simp only[VR] at hx; obtain⟨l,_,_,_,_,_,_,_,_,rfl⟩:=hx; rfl
 ·simp only[VR] at hx; obtain⟨b,rfl,rfl⟩:=hx; cases h
  simp[Builtin.lenOf]
 ·simp at h
theorem C9m{ts:Array TypeId}{ty:TypeId}{d a v:AV}{x y:Value}{B':Heap}{D:List Nat}(hs:Sim A Z B w.heap)(hd:Dom Z B.length)(h:C9l P B ts d a=some (v,B',D))(hx:VR Z d x)(hy:VR Z a y):Got P A Z B w (do pure (.value (<- Builtin.copy_ ts ty #[x,y]))) v B' D:=by
 unfold C9l at h
 split at h
 ·rename_i t base n m h1
  split at h
  ·rename_i e hu
   split at h
   ·rename_i i k hi hk
    split at h
    ·rename_i new hnew
     obtain⟨xs,p1,p2⟩:=B7q (P:=P) hs hnew hy (fun m hm=>by rw[hk] at hm; cases hm; exact Nat.min_le_left _ _)
     have hlen:=C9o (P:=P) (w:=w) hk hy
     cases base with
     | none =>
      simp only[VR] at hx; obtain⟨rfl,rfl,rfl⟩:=hx
      refine F6 hs hd h fun v hv=>?_
      cases hv
      refine⟨.int .i64 0,?_,by simp[VR]⟩
      have e0:Nat.min k 0=0:=by simp
      have e1:min k 0=0:=by simp
      rw[e1] at p1
      simp[Builtin.copy_,h1,und hu,hlen,A2e hi,p1 w rfl,goInt]
     | some p =>
      obtain⟨b,o⟩:=p
      simp only[VR] at hx
      obtain⟨l,cap,off,hl,g1,g2,g3,g4,g5,rfl⟩:=hx
      simp only[oM,pI] at h
      obtain⟨B1,q1,rfl,rfl,rfl⟩:=h
      have e0:Nat.min k n=min k n:=rfl
      by_cases h0:m=0
      ·have hn0:n=0:=by omega
       subst hn0
       have hnil:new=[]:=by
        have hkm:min k 0=0:=by simp
        rw[hkm] at hnew
        unfold A7m at hnew
        split at hnew
        ·simpa using hnew
        ·rename_i b' o' _ _
         unfold ldN at hnew
         split at hnew
         ·split at hnew
          ·simp at hnew; exact hnew
          ·simp at hnew
         ·simp at hnew
        ·split at hnew
         ·simp at hnew; exact hnew
         ·simp at hnew
        ·simp at hnew
       subst hnil
       simp only[VRL] at p2; subst p2
       have hB:B1=B:=by
        unfold st at q1
        split at q1
        ·rename_i c es hb
         split at q1
         ·cases q1
          simp only[A1q]
          apply List.ext_getElem?
          intro j
          rw[List.getElem?_set]
          by_cases hj:b=j
          ·subst hj
           obtain⟨hlt,he⟩:=gS.1 hb
           simp[hlt,he]
          ·simp[hj]
         ·simp at q1
        ·simp at q1
       subst hB
       refine⟨Z,.int .i64 0,.value (.int .i64 0),w,?_,.inl rfl,⟨Z.le_refl,fun x lx p q=>(by rw[p] at q; cases q),lR _,fun _ _ _=>rfl,fun _ L h=>⟨L,h⟩,fun _ _ h=>h,rfl,rfl,rfl,Q6⟩,by simp[VR],hs,lR _,hd⟩
       have e1:min k 0=0:=by simp
       rw[e1] at p1
       simp[Builtin.copy_,h1,und hu,hlen,A2e hi,p1 w rfl,goInt,storeCells]
      ·have hoff:off=l.d+o:=by rcases g3 with g3 | g3<;>omega
       subst hoff
       obtain⟨w',r1,r2,r3,r4⟩:=B2v (P:=P) hs q1 hl p2
       refine⟨Z,.int .i64 (min k n:Nat),.value (.int .i64 (min k n:Nat)),w',?_,.inl rfl,r2,by simp[VR],r3,by omega,by rw[r4]; exact hd⟩
       simp[Builtin.copy_,h1,und hu,hlen,A2e hi,e0,p1 w rfl,goInt,r1]
    ·simp at h
   ·simp at h
  ·simp at h
 ·simp at h
theorem C4i{ts:Array TypeId}{ty:TypeId}{d v:AV}{x:Value}{B':Heap}{D:List Nat}(hs:Sim A Z B w.heap)(hd:Dom Z B.length)(h:B7f P B ts d=some (v,B',D))(hx:VR Z d x):Got P A Z B w (do pure (.value (<- Builtin.clear_ ts ty #[x]))) v B' D:=by
 unfold B7f at h
 split at h
 ·rename_i t base n m h1
  split at h
  ·rename_i e hu
   split at h
   ·rename_i z hz
    split at h
    ·rename_i h0
     cases base with
     | none =>
      simp only[VR] at hx; obtain⟨rfl,rfl,rfl⟩:=hx
      refine F6 hs hd h fun v hv=>?_
      cases hv
      exact⟨.tuple #[],by simp[Builtin.clear_,h1,und hu],by simp[VR,VRL]⟩
     | some p =>
      obtain⟨b,o⟩:=p
      simp only[VR] at hx
      obtain⟨l,cap,off,hl,g1,g2,g3,g4,g5,rfl⟩:=hx
      simp only at h
      split at h
      ·rename_i hn0
       subst hn0
       refine F6 hs hd h fun v hv=>?_
       cases hv
       exact⟨.tuple #[],by simp[Builtin.clear_,h1,und hu],by simp[VR,VRL]⟩
      ·rename_i hn0
       simp only[oM,pI] at h
       obtain⟨B1,q1,rfl,rfl,rfl⟩:=h
       have hoff:off=l.d+o:=by rcases g3 with g3 | g3<;>omega
       subst hoff
       obtain⟨zv,z1,z2⟩:=A5r hz w
       have hzz:VRL Z (zeros z n) (Builtin.zeroCells zv.cells n).toList:=B4d (by rw[<- z2]; exact A4i _ _) h0
       obtain⟨w',r1,r2,r3,r4⟩:=B2v (P:=P) hs q1 hl hzz
       refine⟨Z,.tuple #[],.value (.tuple #[]),w',?_,.inl rfl,r2,by simp[VR,VRL],r3,by omega,by rw[r4]; exact hd⟩
       obtain⟨n,rfl⟩:∃ k,n=k+1:=⟨n-1,by omega⟩
       simp[Builtin.clear_,h1,und hu,z1,r1]
    ·simp at h
   ·simp at h
  ·simp at h
 ·simp at h
theorem C0n(z:Array Value)(n:Nat):(Builtin.zeroCells z n).size=n*z.size:=by simp[Builtin.zeroCells]
theorem B4h{k n:Nat}{a:AV}{cs:List AV}{x:Value}(h:A7m B k n a=some cs)(hn:B5j a=some n)(hx:VR Z a x):cs.length=n*k:=by
 unfold A7m at h
 split at h
 ·rename_i m c
  cases h
  simp only[B5j,sI] at hn; subst hn
  simp only[VR] at hx; obtain⟨rfl,_,_⟩:=hx; simp
 ·unfold ldN at h
  split at h
  ·split at h
   ·cases h; simp; omega
   ·simp at h
  ·simp at h
 ·split at h
  ·cases h; simp only[B5j,sI] at hn; subst hn
   rename_i hk; subst hk
   simp[bytesOf]
  ·simp at h
 ·simp at h
theorem C6v{cs:List AV}{xs:List Value}(h:cs.all one=true)(hx:VRL Z cs xs):∀ v,v∈xs->v.oneCell'=true:=fun v hv=>by
 obtain⟨i,hi⟩:=List.mem_iff_getElem?.1 hv
 have hlen:=hx.length
 have hlt:i<cs.length:=by rw[<- hlen]; exact(gS.1 hi).1
 obtain⟨y,hy,hr⟩:=hx.get (gE hlt)
 rw[hi] at hy; cases hy
 exact one_cell (by have:=List.all_eq_true.1 h cs[i] (List.getElem_mem _); exact this) hr
theorem F1s{tx:TypeId}{k n:Nat}{a:AV}{cs:List AV}{x:Value}(hs:Sim A Z B w.heap)(h:A7m B k n a=some cs)(hx:VR Z a x)(hn:B5j a=some n)(ht:A4s P tx=true)(h1:cs.all one=true):∃ xs,Src P k tx x n xs w/\VRL Z cs xs:=by
 obtain⟨xs,p1,p2⟩:=B7q (P:=P) hs h hx (fun m hm=>by rw[hn] at hm; cases hm; exact lR _)
 refine⟨xs,⟨?_,fun w'=>C9o (P:=P) (w:=w') hn hx,p1 w rfl,p1 w.drew rfl,by rw[p2.length]; exact B4h h hn hx,C6v h1 p2⟩,p2⟩
 unfold A4s at ht
 split at ht
 ·rename_i e hu; exact .inl ⟨e,hu⟩
 ·rename_i hu; exact .inr hu
 ·simp at ht
theorem R7{t tx ty e:TypeId}{i:TypeInfo}(ht:P.underlying t=some (.slice e))(hi:P.info? e=some i){base:Option Addr}{n c k:Nat}{x:Value}{xs:List Value}{w':World}(hs:Src P i.size tx x k xs w)(hroom:n+k<=c)(hst:∀ a,base=some a->(storeCells (a.add (n*i.size)) xs).run P w=.ok () w')(hnone:base=none->w'=w) :
  (Builtin.append_ #[t,tx] ty #[.slice base n c,x]).run P w=.ok (.slice base (n+k) c) w':=by
 cases base with
 | none =>
  have:=hnone rfl; subst this
  rcases hs.kind with⟨e',hk⟩ | hk<;>simp[Builtin.append_,run_underlying ht,run_underlying hk,sizeOf,typeInfo,hi,hs.len,hroom,hs.cells]
 | some a =>
  have:=hst a rfl
  rcases hs.kind with⟨e',hk⟩ | hk<;>simp[Builtin.append_,run_underlying ht,run_underlying hk,sizeOf,typeInfo,hi,hs.len,hroom,hs.cells,this]
theorem B2h(w:World)(n c:Nat)(e:TypeId):n<=grownCap w n c e:=by
 unfold grownCap; simp only[Question.cut]; omega
theorem B2g{s:Sem Value}{cs:List AV}{xs:List Value}{z:Array Value}{e:TypeId}{es n N:Nat}{Z0:Emb}{B0:Heap}(hs:Sim A Z0 B0 w.heap)(hd:Dom Z0 B0.length)(hrun:s.run P w=.ok (.slice (some ⟨w.heap.size,0,none⟩) n N) (w.drew.alloc (.cells (xs.toArray++Builtin.zeroCells z (N-n)) e)))(hx:VRL Z0 cs xs)(hl:xs.length=n*es)(hz:z.size=es)(hN:n<=N)(hes:0<es) :
  Got P A Z0 B0 w (do pure (.value (<- s))) (.slice (some (B0.length,0)) n n) (B0++[.cells cs es true e]) []:=by
 have hn:Z0 B0.length=none:=hd _ (lR _)
 have hsz:(xs.toArray++Builtin.zeroCells z (N-n)).size=N*es:=by
  rw[Array.size_append,List.size_toArray,hl,C0n,hz,<- Nat.add_mul]; congr 1; omega
 refine A6l (obj:=.cells (xs.toArray++Builtin.zeroCells z (N-n)) e (0,0)) (d:=0) (n:=N*es) (es:=es) (y:=.slice (some ⟨w.heap.size,0,none⟩) n N) (k:=w.drawn+1) hs hd ?_
  ⟨rfl,_,(),(0,0),by simp,hsz,?_,?_,?_⟩ ?_
 ·rw[hrun]; rfl
 ·simp only[Nat.zero_add,hx.length.symm,hl]; exact Nat.mul_le_mul_right _ hN
 ·intro i a hi
  obtain⟨y,p,q⟩:=hx.get hi
  refine⟨y,?_,q.mono (Emb.le_put hn)⟩
  have hlt:i<xs.toArray.size:=by simpa using(gS.1 p).1
  rw[Nat.zero_add,Array.getElem?_append_left hlt]; simpa using p
 ·intro _; exact⟨fun he=>by omega,fun off _ _=>.inr (Nat.zero_le _)⟩
 ·simp only[VR]
  exact⟨_,N,0,Emb.put_self _ _ _,lR _,hN,.inl rfl,lR _,by simp,rfl⟩
end
end Go.Ad
