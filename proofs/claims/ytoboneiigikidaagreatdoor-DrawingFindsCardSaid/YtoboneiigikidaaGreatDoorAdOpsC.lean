/- Rows of numbers: new rows, bytes as a text; all operations on lists. -/
import Derived.Test.YtoboneiigikidaaGreatDoorAdOpsZ
import Derived.Test.YtoboneiigikidaaGreatDoorAdOpsB
import Derived.Test.YtoboneiigikidaaGreatDoorAdOpsL
namespace Go.Ad
section
variable {P:Program} {A:Amb} {Z:Emb} {B:Heap} {w:World}
theorem B2x:∀ {cs:List AV} {xs:List Value} {s:List UInt8},A1g cs=some s->VRL Z cs xs->∃ ns:List Int,xs=ns.map (.int .u8)/\s=ns.map fun n=>UInt8.ofNat n.toNat
 | [],xs,s,h,hx=>by simp only[A1g,sI] at h; subst h; simp only[VRL] at hx; subst hx; exact⟨[],rfl,rfl⟩
 | a::cs,xs,s,h,hx=>by
  simp only[VRL] at hx
  obtain⟨x,ys,rfl,h1,h2⟩:=hx
  simp only[A1g] at h
  split at h
  ·rename_i n s' hn hr
   cases h
   have:=L6 hn h1
   subst this
   obtain⟨ns,h4,h5⟩:=B2x hr h2
   subst h4 h5; exact⟨n::ns,by simp,by simp⟩
  ·cases h
theorem C1u{s d e:TypeId}{b o n:Nat}{x:Value}{cs:List AV}{u:List UInt8}(hs:Sim A Z B w.heap)(h1:P.underlying s=some (.slice e))(h2:P.underlying d=some .string)(h3:P.underlying e=some (.int .u8)){m:Nat}(hx:VR Z (.slice (some (b,o)) n m) x)(p1:ldN B b o n=some cs)(p2:A1g cs=some u):Pure P w Z (convert s d x) (.sstr u):=by
 simp only[VR] at hx
 obtain⟨l,cap,off,hl,g1,g2,g3,g4,g5,rfl⟩:=hx
 by_cases h0:n=0
 ·subst h0
  have:cs=[]:=by
   unfold ldN at p1
   split at p1
   ·split at p1
    ·simp at p1; exact p1
    ·simp at p1
   ·simp at p1
  subst this
  simp only[A1g,sI] at p2; subst p2
  exact⟨.string .empty,by simp only[convert,Sem.run_bind,und h1,und h2,und h3,rK,Conv.bytesToString,loadCells,loadCellsFrom]; rfl,by simp only[VR]; exact⟨_,rfl,rfl⟩⟩
 ·have hoff:off=l.d+o:=by rcases g3 with g3 | g3<;>omega
  subst hoff
  obtain⟨vs,q0,q1,q2⟩:=A8y (P:=P) hs p1 hl
  obtain⟨ns,rfl,rfl⟩:=B2x p2 q2
  refine⟨.string ⟨(ns.map fun n=>UInt8.ofNat n.toNat).toArray⟩,?_,by simp only[VR]; exact⟨_,by simp,rfl⟩⟩
  simp only[convert,Sem.run_bind,und h1,und h2,und h3,rK,Conv.bytesToString,q1 w rfl,<- Array.forIn_toList]
  have:=A7x (P:=P) ns .empty w
  refine(congrArg (fun r:Result ByteArray=>r.andThen fun a w'=>Sem.run P (pure (Value.string a)) w') this).trans ?_
  simp only[rK,Sem.run_pure]
  congr 2
  simp[ByteArray.empty,ByteArray.emptyWithCapacity]
  rfl
theorem B2y{k:Nat->Int}:∀ (l:List Nat),A1g (l.map fun i=>.int .u8 (k i))=some (l.map fun i=>UInt8.ofNat (k i).toNat)
 | []=>rfl
 | x::r=>by simp only[List.map_cons,A1g,Q9,B2y r]
theorem B5h(hs:Sim A Z B w.heap)(hd:Dom Z B.length){s d:TypeId}{x v:AV}{x':Value}{B':Heap}{D:List Nat}(h:A5b P B s d x=some (true,v,B',D))(hx:VR Z x x') :
  Got P A Z B w (do pure (.value (<- convert s d x'))) v B' D:=by
 unfold A5b at h
 split at h
 ·rename_i e t h1 h2
  split at h
  ·rename_i h3
   simp only[sI,pI,true_and] at h
   obtain⟨rfl,rfl,rfl⟩:=h
   have hx':VR Z (.str t) x':=by simpa only[VR] using hx
   have hc:A3c P B s d (.str t)=some (.slice (some (B.length,0)) t.length t.length,B++[.cells (bytesOf t) 1 true e],[]):=by
    simp only[A3c,h1,h2,h3]
   have:=(A7h (P:=P) hs hd hc hx').val (a':=.aslc B.length 0 t.length) (fun Z x hx=>G1k.2 hx)
   refine this.re (b:=B.length) (o:=.cells (bytesOf t) 1 true e) (o':=.arr [] .u8 t.length (fun i=>((t.getD i 0).toNat:Int)) e) rfl (by simp) (by simp) rfl rfl fun Z h l ho=>?_
   refine⟨rfl,?_⟩
   have e:bytesOf t=A3i [] .u8 t.length fun i=>((t.getD i 0).toNat:Int):=by
    unfold bytesOf A3i
    rw[List.nil_append]
    refine List.ext_getElem (by simp) fun i h1 h2=>?_
    simp at h1
    simp[h1]
   rwa [e] at ho
  ·cases h
 ·cases h
theorem B6v(hs:Sim A Z B w.heap){s d:TypeId}{x v:AV}{x':Value}(h:B6u P B s d x=some (true,v))(hx:VR Z x x'):Pure P w Z (convert s d x') v:=by
 unfold B6u at h
 split at h
 ·rename_i e h1 h2
  split at h
  ·rename_i b o n h3
   split at h
   ·rename_i pre m f ty hb
    simp only[sI,pI,bA,dQ] at h
    obtain⟨⟨c1,c2⟩,rfl⟩:=h
    have hg:=hget (o':=.cells (A3i pre .u8 m f) 1 true ty) hb
    refine C1u (cs:=(List.range n).map fun i=>.int .u8 (f (o-pre.length+i))) (hs.hardA hb) h1 h2 h3 (G1k.1 hx) ?_ (B2y _)
    simp only[ldN,hg]
    rw[if_pos (by rw[A0s]; omega)]
    congr 1
    apply List.ext_getElem?
    intro i
    rw[tK,List.getElem?_map]
    split
    ·rename_i hi
     rw[dP]
     have:=A5e (pre:=pre) (k:=.u8) (f:=f) (m:=m) (i:=o-pre.length+i) (by omega)
     rw[show pre.length+(o-pre.length+i)=o+i by omega] at this
     rw[this]
     simp[hi]
    ·rename_i hi
     rw[gO (by simp; omega)]; rfl
   ·cases h
  ·rename_i b o n m h3
   split at h
   ·rename_i c hc
    split at h
    ·simp only[oM,pI,true_and] at h
     obtain⟨u,hu,rfl⟩:=h
     exact C1u hs h1 h2 h3 hx hc hu
    ·cases h
   ·cases h
  ·cases h
 ·cases h
theorem D4g{o:Oper}{U:Operand->AV}{U':Operand->Value}{v:AV}{B':Heap}{D:List Nat}(h:Y1 P U B o.op=some (true,v,B',D))(hs:Sim A Z B w.heap)(hd:Dom Z B.length)(hU:∀ x,VR Z (U x) (U' x)):Got P A Z B w (execOp U' o) v B' D:=by
 obtain⟨dst,op,ty,pos,after,guard⟩:=o
 cases op with
 | load t a =>
  simp only[Y1,oM,pI] at h
  obtain⟨⟨c,v'⟩,h1,rfl,rfl,rfl,rfl⟩:=h
  exact F6 (s:=Instr.loadAt t (U' a)) hs hd (rfl:only B (some v')=_) fun v hv=>by cases hv; exact B6w hs h1 (hU a)
 | indexAddr t x i =>
  simp only[Y1,oM,pI] at h
  obtain⟨⟨c,v'⟩,h1,rfl,rfl,rfl,rfl⟩:=h
  exact F6 (s:=Instr.indexAt t (U' x) (U' i)) hs hd (rfl:only B (some v')=_) fun v hv=>by cases hv; exact B5i hs h1 (hU x) (hU i)
 | convert s d x =>
  simp only[Y1] at h
  split at h
  ·rename_i r hb
   simp only[sI] at h
   subst h
   exact B5h hs hd hb (hU x)
  simp only[oM,pI] at h
  obtain⟨⟨c,v'⟩,h1,rfl,rfl,rfl,rfl⟩:=h
  exact F6 (s:=convert s d (U' x)) hs hd (rfl:only B (some v')=_) fun v hv=>by cases hv; exact B6v hs h1 (hU x)
 | call c =>
  obtain⟨callee,args,ats⟩:=c
  cases callee with
  | value f=>simp[Y1] at h
  | invoke x m=>simp[Y1] at h
  | builtin bi =>
   have hxs:=VRL.map U U' hU args.toList
   have e:(args.toList.map U').toArray=args.map U':=by apply Array.ext'; simp
   cases bi with
   | len =>
    simp only[Y1] at h
    split at h
    ·rename_i b s n hargs
     split at h
     ·rename_i el hu
      simp only[sI,pI,true_and] at h
      obtain⟨rfl,rfl,rfl⟩:=h
      rw[hargs] at hxs
      simp only[VRL] at hxs
      obtain⟨x,l0,hx1,hx,rfl⟩:=hxs
      obtain⟨y,p1,p2⟩:=A4t (P:=P) (w:=w) (ts:=ats) (v:=.int .i64 n) (ty:=ty) hs (by simp only[V5,hu]) (G1k.1 hx)
      have:=Got.of_pure (P:=P) (v:=.sint .i64 n) hs hd ⟨y,p1,by simpa only[VR] using p2⟩
      have hm:args.map U'=#[x]:=by rw[<- e,hx1]
      show Got P A Z B w (builtin .len ats ty (args.map fun | .const _=>true | _=>false) (args.map U')) _ _ _
      rw[hm]
      exact this
     ·cases h
    ·cases h
   | _=>simp[Y1] at h
 | _=>simp[Y1] at h
theorem D4t{o:Oper}{U:Operand->AV}{U':Operand->Value}{v:AV}{B':Heap}{D:List Nat}(h:A1l P U B o.op=some (true,v,B',D))(hs:Sim A Z B w.heap)(hd:Dom Z B.length)(hU:∀ x,VR Z (U x) (U' x)):Got P A Z B w (execOp U' o) v B' D:=by
 unfold A1l at h
 split at h
 ·rename_i r hr; cases h; exact D4g hr hs hd hU
 split at h
 ·rename_i r hr; cases h; exact C9v hr hs hd hU
 split at h
 ·rename_i r hr
  obtain⟨c,v'⟩:=r
  simp only[sI,pI] at h
  obtain⟨rfl,rfl,rfl,rfl⟩:=h
  exact E2f hr hs hd hU
 split at h
 ·rename_i r hr; cases h; exact E2b hr hs hd hU
 ·exact E2d h hs hd hU
end
end Go.Ad
