/- The abstract evaluator's operations stand for the model's: slice expressions, conversions, equality, lengths. -/
import Derived.Test.YtoboneiigikidaaGreatDoorAdOpsP
namespace Go.Ad
section
variable {P:Program} {A:Amb} {Z:Emb} {B:Heap} {w:World}
def VRo(Z:Emb):Option AV->Option Value->Prop
 | none,none=>True
 | some a,some v=>VR Z a v
 | _,_=>False
theorem VRo.map{f:Operand->AV}{g:Operand->Value}(h:∀ x,VR Z (f x) (g x))(o:Option Operand):VRo Z (o.map f) (o.map g):=by
 cases o<;>simp[VRo,h]
theorem Z5{y Y:Nat}{a:AV}{v:Value}{n:Nat}{c:BoundsCode}(h:A3b y a=some n)(hv:VR Z a v)(hy:y<=Y) :
  (Instr.sliceBound v Y c).run P w=.ok n w/\n<=y:=by
 unfold A3b at h
 split at h
 ·simp only[VR] at hv; subst hv
  split at h
  ·rename_i hc
   cases h
   refine⟨?_,by omega⟩
   simp only[Instr.sliceBound,asIntOf,Sem.run_bind,Sem.run_pure,rK,Sem.run_ite]
   rw[if_pos (by omega)]
  ·simp at h
 ·simp at h
theorem U8{n m cap:Nat}{lo hi mx:Option AV}{lo' hi' mx':Option Value}{l h M:Nat}{sl:Bool}(hh:Z6 n m lo hi mx=some (l,h,M))(hn:n<=m)(hm:m<=cap)(h1:VRo Z lo lo')(h2:VRo Z hi hi')(h3:VRo Z mx mx') :
  ∃ M',(Instr.sliceBounds sl n cap lo' hi' mx').run P w=.ok (l,h,M') w/\l<=h/\h<=M/\M<=M'/\M<=m/\M'<=cap:=by
 unfold Z6 at hh
 cases mx with
 | none =>
  cases mx' with
  | some _=>simp[VRo] at h3
  | none =>
   simp only[Option.isSome_none,Bool.false_eq_true,if_false] at hh
   cases hi with
   | none =>
    cases hi' with
    | some _=>simp[VRo] at h2
    | none =>
     cases lo with
     | none =>
      cases lo' with
      | some _=>simp[VRo] at h1
      | none =>
       simp only[sI,pI] at hh
       obtain⟨rfl,rfl,rfl⟩:=hh
       exact⟨cap,by simp[Instr.sliceBounds],by omega,hn,hm,lR _,lR _⟩
     | some a =>
      cases lo' with
      | none=>simp[VRo] at h1
      | some v =>
       simp only at hh
       split at hh
       ·simp at hh
       ·rename_i l' hl
        simp only[sI,pI] at hh
        obtain⟨rfl,rfl,rfl⟩:=hh
        obtain⟨r1,r2⟩:=Z5 (P:=P) (w:=w) (c:=.sliceB) hl h1 (lR _)
        exact⟨cap,by simp[Instr.sliceBounds,r1],r2,hn,hm,lR _,lR _⟩
   | some b =>
    cases hi' with
    | none=>simp[VRo] at h2
    | some v =>
     simp only at hh
     split at hh
     ·simp at hh
     ·rename_i h' hhi
      obtain⟨s1,s2⟩:=Z5 (P:=P) (w:=w) (c:=if sl then .sliceAcap else .sliceAlen) hhi h2 hm
      cases lo with
      | none =>
       cases lo' with
       | some _=>simp[VRo] at h1
       | none =>
        simp only[sI,pI] at hh
        obtain⟨rfl,rfl,rfl⟩:=hh
        exact⟨cap,by simp[Instr.sliceBounds,s1],by omega,s2,hm,lR _,lR _⟩
      | some a =>
       cases lo' with
       | none=>simp[VRo] at h1
       | some u =>
        simp only at hh
        split at hh
        ·simp at hh
        ·rename_i l' hl
         simp only[sI,pI] at hh
         obtain⟨rfl,rfl,rfl⟩:=hh
         obtain⟨r1,r2⟩:=Z5 (P:=P) (w:=w) (c:=.sliceB) hl h1 (lR _)
         exact⟨cap,by simp[Instr.sliceBounds,s1,r1],r2,s2,hm,lR _,lR _⟩
 | some c =>
  cases mx' with
  | none=>simp[VRo] at h3
  | some z =>
   simp only[Option.isSome_some,if_true] at hh
   split at hh
   ·simp at hh
   ·rename_i m1 hm1
    obtain⟨t1,t2⟩:=Z5 (P:=P) (w:=w) (c:=if sl then .slice3Acap else .slice3Alen) hm1 h3 hm
    cases hi with
    | none=>simp at hh
    | some b =>
     cases hi' with
     | none=>simp[VRo] at h2
     | some v =>
      simp only at hh
      split at hh
      ·simp at hh
      ·rename_i h' hhi
       obtain⟨s1,s2⟩:=Z5 (P:=P) (w:=w) (c:=.slice3B) hhi h2 (lR _)
       cases lo with
       | none =>
        cases lo' with
        | some _=>simp[VRo] at h1
        | none =>
         simp only[sI,pI] at hh
         obtain⟨rfl,rfl,rfl⟩:=hh
         exact⟨_,by simp[Instr.sliceBounds,t1,s1],by omega,s2,lR _,t2,by omega⟩
       | some a =>
        cases lo' with
        | none=>simp[VRo] at h1
        | some u =>
         simp only at hh
         split at hh
         ·simp at hh
         ·rename_i l' hl
          simp only[sI,pI] at hh
          obtain⟨rfl,rfl,rfl⟩:=hh
          obtain⟨r1,r2⟩:=Z5 (P:=P) (w:=w) (c:=.slice3C) hl h1 (lR _)
          exact⟨_,by simp[Instr.sliceBounds,t1,s1,r1],r2,s2,lR _,t2,by omega⟩
theorem B2d(b:ByteArray)(l h:Nat):(b.extract l h).data.toList=(b.data.toList.take h).drop l:=by
 rw[ByteArray.data_extract]; simp[List.drop_take]
theorem B1r{t:TypeId}{a v:AV}{x:Value}{lo hi mx:Option AV}{lo' hi' mx':Option Value}(hs:Sim A Z B w.heap)(h:A4u P B t a lo hi mx=some v)(hx:VR Z a x)(h1:VRo Z lo lo')(h2:VRo Z hi hi')(h3:VRo Z mx mx'):Pure P w Z (Instr.sliceAt t x lo' hi' mx') v:=by
 unfold A4u at h
 split at h
 ·rename_i s hu
  simp only[VR] at hx
  obtain⟨b,rfl,rfl⟩:=hx
  split at h
  ·simp at h
  ·rename_i hmx
   have hmx':mx=none:=by simpa using hmx
   subst hmx'
   cases mx' with
   | some _=>simp[VRo] at h3
   | none =>
    split at h
    ·rename_i l hh M hb
     cases h
     have hsz:b.data.toList.length=b.size:=by simp
     rw[hsz] at hb
     obtain⟨M',r1,r2,r3,r4,r5,r6⟩:=U8 (P:=P) (w:=w) (sl:=false) hb (lR _) (lR _) h1 h2 h3
     refine⟨.string (b.extract l hh),?_,by simp only[VR]; exact⟨_,B2d b l hh,rfl⟩⟩
     simp only[Instr.sliceAt,Sem.run_bind,und hu,rK,Instr.slice,Option.isSome_none,Bool.false_eq_true,if_false,r1,Sem.run_pure]
    ·simp at h
 ·rename_i e n m hu
  simp only[VR] at hx
  obtain⟨rfl,rfl,rfl⟩:=hx
  split at h
  ·rename_i k y hk hb
   cases h
   obtain⟨l,hh,M⟩:=y
   obtain⟨M',r1,r2,r3,r4,r5,r6⟩:=U8 (P:=P) (w:=w) (sl:=true) hb (lR _) (lR _) h1 h2 h3
   refine⟨.slice none 0 0,?_,by simp[VR]⟩
   have e1:hh-l=0:=by omega
   have e2:M'-l=0:=by omega
   simp only[Instr.sliceAt,Sem.run_bind,und hu,rK,Instr.slice,r1,A2e hk,Sem.run_pure,e1,e2]
   simp
  ·simp at h
 ·rename_i e b o n m hu
  simp only[VR] at hx
  obtain⟨lo1,cap,off,hl,g1,g2,g3,g4,g5,rfl⟩:=hx
  split at h
  ·rename_i k l hh M c es rw ty hk hb hbk
   split at h
   ·rename_i hes
    cases h
    obtain⟨M',r1,r2,r3,r4,r5,r6⟩:=U8 (P:=P) (w:=w) (sl:=true) hb g1 g2 h1 h2 h3
    obtain⟨e0,arr,e',fz,q1,q2,q3,q4,q5⟩:=hs.obj b _ lo1 hbk hl
    refine⟨.slice (some ⟨lo1.c,if M'=l then off else off+l*k,none⟩) (hh-l) (M'-l),?_,?_⟩
    ·simp only[Instr.sliceAt,Sem.run_bind,und hu,rK,Instr.slice,r1,A2e hk,Sem.run_pure,oS,M3]
     congr 2
     split<;>rfl
    ·simp only[VR]
     refine⟨lo1,M'-l,_,hl,by omega,by omega,?_,?_,?_,rfl⟩
     ·split
      ·right; omega
      ·rcases g3 with g3 | g3
       ·left; omega
       ·right; omega
     ·split<;>omega
     ·have hmul:(M'-l)*lo1.es<=(cap-l)*lo1.es:=Nat.mul_le_mul_right _ (by omega)
      rcases hes with hes | ⟨hes,hle⟩
      ·rw[e0,hes] at g5 hmul ⊢
       have hlc:l<=cap:=by omega
       have:(cap-l)*k+l*k=cap*k:=by rw[<- Nat.add_mul]; congr 1; omega
       split<;>omega
      ·rw[e0,hes] at g5 ⊢
       simp only[Nat.mul_zero,Nat.add_zero] at g5 ⊢
       split
       ·exact g5
       ·have hml:l*k<=m*k:=Nat.mul_le_mul_right _ (by omega)
        rcases g3 with g3 | g3
        ·omega
        ·have:l=0:=by omega
         subst this; omega
   ·simp at h
  ·simp at h
 ·rename_i n e b o hu
  simp only[VR] at hx
  obtain⟨lo1,hl,rfl⟩:=hx
  split at h
  ·rename_i k l hh M c es rw ty hk hb hbk
   split at h
   ·rename_i hes
    obtain⟨hes,hle⟩:=hes
    cases h
    obtain⟨M',r1,r2,r3,r4,r5,r6⟩:=U8 (P:=P) (w:=w) (sl:=false) hb (lR _) (lR _) h1 h2 h3
    obtain⟨e0,arr,e',fz,q1,q2,q3,q4,q5⟩:=hs.obj b _ lo1 hbk hl
    refine⟨.slice (some ⟨lo1.c,if M'=l then lo1.d+o else lo1.d+o+l*k,none⟩) (hh-l) (M'-l),?_,?_⟩
    ·simp only[Instr.sliceAt,Sem.run_bind,und hu,rK,Instr.sureAddr,Sem.run_pure,r1,A2e hk,M3]
     congr 2
     split<;>rfl
    ·simp only[VR]
     refine⟨lo1,M'-l,_,hl,by omega,by omega,?_,?_,?_,rfl⟩
     ·split
      ·right; omega
      ·left; omega
     ·split<;>omega
     ·have hml:l*k<=n*k:=Nat.mul_le_mul_right _ (by omega)
      rcases hes with hes | hes
      ·rw[e0,hes]
       simp only[Nat.mul_zero,Nat.add_zero]
       split<;>omega
      ·rw[e0,hes]
       have hmk:(M'-l)*k+l*k<=n*k:=by rw[<- Nat.add_mul]; exact Nat.mul_le_mul_right _ (by omega)
       split<;>omega
   ·simp at h
  ·simp at h
 ·simp at h
theorem B4j(b:ByteArray):VRL Z (bytesOf b.data.toList) (b.data.map fun c=>(.int .u8 c.toNat:Value)).toList:=by
 simp only[bytesOf,Array.toList_map]
 exact VRL.map _ _ (fun c=>by simp[VR]) _
theorem A8n:∀ {cs:List AV} {xs:List Value} {s:List UInt8},A1u cs=some s->VRL Z cs xs->∃ ns:List Int,xs=ns.map (.int .u8)/\s=ns.map fun n=>UInt8.ofNat n.toNat
 | [],xs,s,h,hx=>by simp only[A1u,sI] at h; subst h; simp only[VRL] at hx; subst hx; exact⟨[],rfl,rfl⟩
 | a::cs,xs,s,h,hx=>by
  simp only[VRL] at hx
  obtain⟨x,ys,rfl,h1,h2⟩:=hx
  cases a with
  | int k n =>
   cases k<;>simp only[A1u,reduceCtorEq,oM] at h
   obtain⟨s',h3,rfl⟩:=h
   simp only[VR] at h1; subst h1
   obtain⟨ns,h4,h5⟩:=A8n h3 h2
   subst h4 h5; exact⟨n::ns,by simp,by simp⟩
  | _=>simp[A1u] at h
theorem A7x:∀ (ns:List Int) (acc:ByteArray) (w:World),
  (forIn (ns.map (Value.int .u8)) acc (fun c s =>
   match c with
   | .int .u8 n=>pure (ForInStep.yield (s.push (UInt8.ofNat n.toNat)))
   | _=>do
    stuck "bytesToString: byte expected"
    pure (ForInStep.yield s)):Sem ByteArray).run P w=.ok ⟨acc.data++(ns.map fun n=>UInt8.ofNat n.toNat).toArray⟩ w
 | [],acc,w=>by simp
 | n::ns,acc,w=>by
  simp only[List.map_cons,List.forIn_cons,Sem.run_bind,Sem.run_pure,rK]
  rw[A7x ns]
  congr 2
  simp[ByteArray.push]
theorem A7h{s d:TypeId}{a v:AV}{x:Value}{B':Heap}{D:List Nat}(hs:Sim A Z B w.heap)(hd:Dom Z B.length)(h:A3c P B s d a=some (v,B',D))(hx:VR Z a x):Got P A Z B w (do pure (.value (<- convert s d x))) v B' D:=by
 unfold A3c at h
 split at h
 ·rename_i ds k k' n h1 h2
  simp only[VR] at hx; subst hx
  refine F6 hs hd h fun v hv=>?_
  cases hv
  exact⟨.int k (k.wrap n),by simp only[convert,Sem.run_bind,und h1,und h2,rK]; rfl,by simp only[VR]⟩
 ·rename_i ds k k' n lo hi h1 h2
  simp only[VR] at hx; obtain⟨rfl,h3,h4⟩:=hx
  split at h
  ·rename_i hk
   refine F6 hs hd h fun v hv=>?_
   cases hv
   refine⟨.int k (k.wrap n),by simp only[convert,Sem.run_bind,und h1,und h2,rK]; rfl,?_⟩
   simp only[VR]
   exact⟨by rw[A9d _ _ ⟨by omega,by omega⟩],h3,h4⟩
  ·refine F6 hs hd h fun v hv=>?_
   cases hv
   exact⟨.int k (k.wrap n),by simp only[convert,Sem.run_bind,und h1,und h2,rK]; rfl,by simp only[VR]⟩
 ·rename_i ds k k' n h1 h2
  simp only[VR] at hx; subst hx
  refine F6 hs hd h fun v hv=>?_
  cases hv
  exact⟨.int k (k.wrap n),by simp only[convert,Sem.run_bind,und h1,und h2,rK]; rfl,by simp only[VR]⟩
 ·rename_i ds b h1 h2
  simp only[VR] at hx; obtain⟨bb,rfl,rfl⟩:=hx
  refine F6 hs hd h fun v hv=>?_
  cases hv
  exact⟨.string bb,by simp only[convert,Sem.run_bind,und h1,und h2,rK]; rfl,by simp only[VR]; exact⟨_,rfl,rfl⟩⟩
 ·rename_i ds b h1 h2
  simp only[VR] at hx; obtain⟨bb,rfl,rfl⟩:=hx
  refine F6 hs hd h fun v hv=>?_
  cases hv
  exact⟨.string bb,by simp only[convert,Sem.run_bind,und h1,und h2,rK]; rfl,by simp only[VR]; exact⟨_,rfl,rfl⟩⟩
 ·rename_i ds b lo hi h1 h2
  simp only[VR] at hx; obtain⟨⟨bb,rfl,rfl⟩,h3,h4⟩:=hx
  refine F6 hs hd h fun v hv=>?_
  cases hv
  exact⟨.string bb,by simp only[convert,Sem.run_bind,und h1,und h2,rK]; rfl,by simp only[VR]; exact⟨⟨_,rfl,rfl⟩,h3,h4⟩⟩
 ·rename_i ds k n h1 h2
  simp only[VR] at hx; subst hx
  refine F6 hs hd h fun v hv=>?_
  cases hv
  exact⟨.string (Utf8.encode n),by simp only[convert,Sem.run_bind,und h1,und h2,rK]; rfl,by simp only[VR]; exact⟨_,rfl,rfl⟩⟩
 ·rename_i ds e s' h1 h2
  simp only[VR] at hx; obtain⟨bb,rfl,rfl⟩:=hx
  split at h
  ·rename_i h3
   cases h
   have hn:Z B.length=none:=hd _ (lR _)
   have hcut:∀ t,bb.size<=(Question.appendCap bb.size 0 e).cut t:=fun t=>by simp only[Question.cut]; omega
   obtain⟨cap,hcap⟩:∃ cap,cap=(Question.appendCap bb.size 0 e).cut (w.tape w.drawn (Question.appendCap bb.size 0 e)):=⟨_,rfl⟩
   have hle:bb.size<=cap:=by rw[hcap]; exact hcut _
   have hsz:(bb.data.map fun c:UInt8=>(Value.int .u8 c.toNat)).size=bb.size:=by simp
   have hnew:(bb.data.map (fun c:UInt8=>(Value.int .u8 c.toNat))++Array.replicate (cap-bb.size) (Value.int .u8 0)).size=cap:=by
    rw[Array.size_append,hsz,Array.size_replicate]; omega
   have hget:∀ i a,(bytesOf bb.data.toList)[i]?=some a->∃ v,(bb.data.map (fun c:UInt8=>(Value.int .u8 c.toNat))++Array.replicate (cap-bb.size) (Value.int .u8 0))[i]?=some v /\
     VR (Z.put B.length ⟨w.heap.size,0,cap,1⟩) a v:=fun i a hi=>by
    have hb:=B4j (Z:=Z.put B.length ⟨w.heap.size,0,cap,1⟩) bb
    obtain⟨y,p,q⟩:=hb.get hi
    refine⟨y,?_,q⟩
    have hlt:i<(bb.data.map fun c:UInt8=>(Value.int .u8 c.toNat)).size:=by
     have:=(gS.1 p).1; simpa using this
    rw[Array.getElem?_append_left hlt]; simpa using p
   have hrun:∀ E:Array Value,E=bb.data.map (fun c:UInt8=>(Value.int .u8 c.toNat))++Array.replicate (cap-bb.size) (Value.int .u8 0)->E.size=cap ->
     (convert s d (.string bb)).run P w=.ok (.slice (some ⟨w.heap.size,0,none⟩) bb.size cap) { w with heap:=w.heap.push (.cells E e (cap,cap+1)),drawn:=w.drawn+1 }:=fun E hE hEs=>by
    simp only[convert,Sem.run_bind,und h1,und h2,und h3,rK,Conv.stringToBytes,run_choose,Question.forced,Bool.false_eq_true,if_false,<- hcap,newRow,run_newObj,Sem.run_pure,
     markStringish,run_shape,World.shape?,<- hE]
    simp only[Array.getElem?_push_size,run_freeze,rK]
    congr 1
    simp only[World.freeze]
    rw[if_neg (by omega)]
    simp only[World.mk.injEq,and_true]
    apply Array.ext_getElem?
    intro i
    rw[Array.getElem?_modify,Array.getElem?_push,Array.getElem?_push]
    by_cases hi:i=w.heap.size
    ·subst hi; simp[hEs]
    ·simp[hi,Ne.symm hi]
   refine A6l (obj:=.cells (bb.data.map (fun c:UInt8=>(Value.int .u8 c.toNat))++Array.replicate (cap-bb.size) (Value.int .u8 0)) e (cap,cap+1)) (d:=0) (n:=cap) (es:=1)
    (y:=.slice (some ⟨w.heap.size,0,none⟩) bb.size cap) (k:=w.drawn+1) hs hd (hrun _ rfl hnew) ⟨rfl,_,(),(cap,cap+1),by simp,hnew,?_,?_,?_⟩ ?_
   ·simp[bytesOf]; exact hle
   ·intro i a hi; simpa using hget i a hi
   ·intro _; exact⟨fun he=>by omega,fun off _ ho=>.inl ho⟩
   ·simp only[VR]
    refine⟨_,cap,0,Emb.put_self _ _ _,by simp,by simp; exact hle,.inl rfl,lR _,by simp,?_⟩
    simp
  ·simp at h
 ·rename_i e n m h1 h2
  simp only[VR] at hx; obtain⟨rfl,rfl,rfl⟩:=hx
  split at h
  ·rename_i h3
   refine F6 hs hd h fun v hv=>?_
   cases hv
   exact⟨.string .empty,by simp only[convert,Sem.run_bind,und h1,und h2,und h3,rK]; rfl,by simp only[VR]; exact⟨_,rfl,rfl⟩⟩
  ·simp at h
 ·rename_i e b o n m h1 h2
  simp only[VR] at hx
  obtain⟨l,cap,off,hl,g1,g2,g3,g4,g5,rfl⟩:=hx
  split at h
  ·rename_i h3
   refine F6 hs hd h fun v hv=>?_
   simp only[Option.bind_eq_some_iff,oM] at hv
   obtain⟨cs,p1,s',p2,rfl⟩:=hv
   by_cases h0:n=0
   ·subst h0
    have:cs=[]:=by
     unfold ldN at p1
     split at p1
     ·split at p1
      ·simp at p1; exact p1
      ·simp at p1
     ·simp at p1
    subst this
    simp only[A1u,sI] at p2; subst p2
    exact⟨.string .empty,by simp only[convert,Sem.run_bind,und h1,und h2,und h3,rK,Conv.bytesToString,loadCells,loadCellsFrom]; rfl,by simp only[VR]; exact⟨_,rfl,rfl⟩⟩
   ·have hoff:off=l.d+o:=by rcases g3 with g3 | g3<;>omega
    subst hoff
    obtain⟨vs,q0,q1,q2⟩:=A8y (P:=P) hs p1 hl
    obtain⟨ns,rfl,rfl⟩:=A8n p2 q2
    refine⟨.string ⟨(ns.map fun n=>UInt8.ofNat n.toNat).toArray⟩,?_,by simp only[VR]; exact⟨_,by simp,rfl⟩⟩
    simp only[convert,Sem.run_bind,und h1,und h2,und h3,rK,Conv.bytesToString,q1 w rfl,<- Array.forIn_toList]
    have:=A7x (P:=P) ns .empty w
    refine(congrArg (fun r:Result ByteArray=>r.andThen fun a w'=>Sem.run P (pure (Value.string a)) w') this).trans ?_
    simp only[rK,Sem.run_pure]
    congr 2
    simp[ByteArray.empty,ByteArray.emptyWithCapacity]
    rfl
  ·simp at h
 ·rename_i t h1 h2
  simp only[VR] at hx; subst hx
  refine F6 hs hd h fun v hv=>?_
  cases hv
  exact⟨.pointer none,by simp[convert,und h1,und h2,Conv.unsafePointer],by simp only[VR]⟩
 ·rename_i t b o h1 h2
  simp only[VR] at hx; obtain⟨l,hl,rfl⟩:=hx
  split at h
  ·rename_i n c es rw ty hn hb
   split at h
   ·rename_i ho
    refine F6 hs hd h fun v hv=>?_
    cases hv
    obtain⟨e0,arr,_,fz,q1,q2,q3,q4,q5⟩:=hs.obj b _ l hb hl
    exact⟨_,C8t h1 h2 hn q1 (by omega),by simp only[VR]; exact⟨l,hl,rfl⟩⟩
   ·cases h
  ·cases h
 ·rename_i t h1 h2
  simp only[VR] at hx; subst hx
  refine F6 hs hd h fun v hv=>?_
  cases hv
  exact⟨.pointer none,by simp[convert,und h1,und h2,Conv.unsafePointer],by simp only[VR]⟩
 ·rename_i t b o h1 h2
  simp only[VR] at hx; obtain⟨l,hl,rfl⟩:=hx
  split at h
  ·rename_i n c ty hn hb
   split at h
   ·rename_i ho
    refine F6 hs hd h fun v hv=>?_
    cases hv
    obtain⟨e0,arr,_,fz,q1,q2,q3,q4,q5⟩:=hs.obj b _ l hb hl
    obtain⟨z1,z2⟩:=(q5 rfl).1 rfl
    have hl0:liesAt P P.depth ty (arr.size / P.cellsOf ty) (l.d+o) t 1=true:=by rw[q2,z2,z1,Nat.zero_add]; exact ho
    exact⟨_,C6t h1 h2 hn q1 hl0,by simp only[VR]; exact⟨l,hl,rfl⟩⟩
   ·cases h
  ·cases h
 ·simp at h
end
end Go.Ad
