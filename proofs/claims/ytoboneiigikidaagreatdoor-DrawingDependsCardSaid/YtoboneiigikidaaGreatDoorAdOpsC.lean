/- Rows of numbers: new rows, bytes as a text; all operations on lists. -/
import Derived.Test.YtoboneiigikidaaGreatDoorAdOpsZ
import Derived.Test.YtoboneiigikidaaGreatDoorAdOpsB
import Derived.Test.YtoboneiigikidaaGreatDoorAdOpsL
namespace Go.Ad
section
variable {P:Program} {A:Amb} {Z:Emb} {B:Heap} {w:World}
theorem B7i{t:TypeId}{a c v:AV}{x y:Value}{B':Heap}{D:List Nat}(hs:Sim A Z B w.heap)(hd:Dom Z B.length)(h:A7q P B t a c=some (true,v,B',D))(hx:VR Z a x)(hy:VR Z c y) :
  Got P A Z B w (do pure (.value (<- Instr.makeSlice t x y))) v B' D:=by
 unfold A7q at h
 split at h
 ·rename_i e k1 n k2 n' hu hn hn'
  split at h
  ·rename_i k i z hue hi hz
   split at h
   ·rename_i hc
    obtain⟨hc1,hc2,hc3⟩:=hc
    simp only[sI,pI,dQ] at h
    obtain⟨⟨h0,rfl,h1⟩,rfl,rfl,rfl⟩:=h
    obtain⟨kx,hkx⟩:∃ kx,M8 a=some (kx,n'):=⟨_,hn⟩
    obtain⟨ky,hky⟩:∃ ky,M8 c=some (ky,n'):=⟨_,hn'⟩
    have hx':VR Z (.int kx n') x:=by simp only[VR]; exact K3 hkx hx
    have hy':VR Z (.int ky n') y:=by simp only[VR]; exact K3 hky hy
    rw[bA] at hc1
    have hz0:z=.int k 0:=by
     have:=hc1.2
     cases z<;>simp[D3r] at this
     rw[this.1,this.2]
    have hmk:A0u P B t (.int kx n') (.int ky n')=some (.slice (some (B.length,0)) n'.toNat n'.toNat,B++[.cells (zeros [z] n'.toNat) i.size true e],[]):=by
     simp only[A0u,hu,hi,hz]
     rw[if_pos ⟨h0,Int.le_refl _,h1,hc2,by simp[hc3],by omega⟩]
    have:=(A5l (P:=P) hs hd hmk hx' hy').val (a':=.aslc B.length 0 n'.toNat) (fun Z x hx=>G1o.2 hx)
    refine this.re (b:=B.length) (o:=.cells (zeros [z] n'.toNat) i.size true e) (o':=.arr [] k n'.toNat (fun _=>0) e) rfl (by simp) (by simp) rfl rfl fun Z h l ho=>?_
    rw[hc3] at ho
    refine⟨rfl,?_⟩
    have e:zeros [z] n'.toNat=O6 [] k n'.toNat fun _=>0:=by
     rw[hz0]
     simp only[zeros,O6,List.nil_append]
     rw[List.map_const']
     simp
    rwa [e] at ho
   ·cases h
  ·cases h
 ·cases h
theorem B3d:∀ {cs:List AV} {xs:List Value} {s:List UInt8},A1u cs=some s->VRL Z cs xs->∃ ns:List Int,xs=ns.map (.int .u8)/\s=ns.map fun n=>UInt8.ofNat n.toNat
 | [],xs,s,h,hx=>by simp only[A1u,sI] at h; subst h; simp only[VRL] at hx; subst hx; exact⟨[],rfl,rfl⟩
 | a::cs,xs,s,h,hx=>by
  simp only[VRL] at hx
  obtain⟨x,ys,rfl,h1,h2⟩:=hx
  simp only[A1u] at h
  split at h
  ·rename_i n s' hn hr
   cases h
   have:=K3 hn h1
   subst this
   obtain⟨ns,h4,h5⟩:=B3d hr h2
   subst h4 h5; exact⟨n::ns,by simp,by simp⟩
  ·cases h
theorem C2f{s d e:TypeId}{b o n:Nat}{x:Value}{cs:List AV}{u:List UInt8}(hs:Sim A Z B w.heap)(h1:P.underlying s=some (.slice e))(h2:P.underlying d=some .string)(h3:P.underlying e=some (.int .u8)){m:Nat}(hx:VR Z (.slice (some (b,o)) n m) x)(p1:ldN B b o n=some cs)(p2:A1u cs=some u):Pure P w Z (convert s d x) (.sstr u):=by
 simp only[VR] at hx
 obtain⟨l,cap,off,hl,g1,g2,g3,g4,g5,rfl⟩:=hx
 by_cases h0:n=0
 ·subst h0
  have:cs=[]:=by
   unfold ldN at p1
   split at p1
   ·split at p1
    ·simp at p1; exact p1
    ·simp at p1
   ·simp at p1
  subst this
  simp only[A1u,sI] at p2; subst p2
  exact⟨.string .empty,by simp only[convert,Sem.run_bind,und h1,und h2,und h3,rK,Conv.bytesToString,loadCells,loadCellsFrom]; rfl,by simp only[VR]; exact⟨_,rfl,rfl⟩⟩
 ·have hoff:off=l.d+o:=by rcases g3 with g3 | g3<;>omega
  subst hoff
  obtain⟨vs,q0,q1,q2⟩:=A9k (P:=P) hs p1 hl
  obtain⟨ns,rfl,rfl⟩:=B3d p2 q2
  refine⟨.string ⟨(ns.map fun n=>UInt8.ofNat n.toNat).toArray⟩,?_,by simp only[VR]; exact⟨_,by simp,rfl⟩⟩
  simp only[convert,Sem.run_bind,und h1,und h2,und h3,rK,Conv.bytesToString,q1 w rfl,<- Array.forIn_toList]
  have:=A8g (P:=P) ns .empty w
  refine(congrArg (fun r:Result ByteArray=>r.andThen fun a w'=>Sem.run P (pure (Value.string a)) w') this).trans ?_
  simp only[rK,Sem.run_pure]
  congr 2
  simp[ByteArray.empty,ByteArray.emptyWithCapacity]
  rfl
theorem B3e{k:Nat->Int}:∀ (l:List Nat),A1u (l.map fun i=>.int .u8 (k i))=some (l.map fun i=>UInt8.ofNat (k i).toNat)
 | []=>rfl
 | x::r=>by simp only[List.map_cons,A1u,M8,B3e r]
theorem B5m(hs:Sim A Z B w.heap)(hd:Dom Z B.length){s d:TypeId}{x v:AV}{x':Value}{B':Heap}{D:List Nat}(h:A5i P B s d x=some (true,v,B',D))(hx:VR Z x x') :
  Got P A Z B w (do pure (.value (<- convert s d x'))) v B' D:=by
 unfold A5i at h
 split at h
 ·rename_i e t h1 h2
  split at h
  ·rename_i h3
   simp only[sI,pI,true_and] at h
   obtain⟨rfl,rfl,rfl⟩:=h
   have hx':VR Z (.str t) x':=by simpa only[VR] using hx
   have hc:A3q P B s d (.str t)=some (.slice (some (B.length,0)) t.length t.length,B++[.cells (bytesOf t) 1 true e],[]):=by
    simp only[A3q,h1,h2,h3]
   have:=(A7s (P:=P) hs hd hc hx').val (a':=.aslc B.length 0 t.length) (fun Z x hx=>G1o.2 hx)
   refine this.re (b:=B.length) (o:=.cells (bytesOf t) 1 true e) (o':=.arr [] .u8 t.length (fun i=>((t.getD i 0).toNat:Int)) e) rfl (by simp) (by simp) rfl rfl fun Z h l ho=>?_
   refine⟨rfl,?_⟩
   have e:bytesOf t=O6 [] .u8 t.length fun i=>((t.getD i 0).toNat:Int):=by
    unfold bytesOf O6
    rw[List.nil_append]
    refine List.ext_getElem (by simp) fun i h1 h2=>?_
    simp at h1
    simp[h1]
   rwa [e] at ho
  ·cases h
 ·cases h
theorem B7f(hs:Sim A Z B w.heap){s d:TypeId}{x v:AV}{x':Value}(h:B7e P B s d x=some (true,v))(hx:VR Z x x'):Pure P w Z (convert s d x') v:=by
 unfold B7e at h
 split at h
 ·rename_i e h1 h2
  split at h
  ·rename_i b o n h3
   split at h
   ·rename_i pre m f ty hb
    simp only[sI,pI,bA,dQ] at h
    obtain⟨⟨c1,c2⟩,rfl⟩:=h
    have hg:=hget (o':=.cells (O6 pre .u8 m f) 1 true ty) hb
    refine C2f (cs:=(List.range n).map fun i=>.int .u8 (f (o-pre.length+i))) (hs.hardA hb) h1 h2 h3 (G1o.1 hx) ?_ (B3e _)
    simp only[ldN,hg]
    rw[if_pos (by rw[H7]; omega)]
    congr 1
    apply List.ext_getElem?
    intro i
    rw[tK,List.getElem?_map]
    split
    ·rename_i hi
     rw[dP]
     have:=A1d (pre:=pre) (k:=.u8) (f:=f) (m:=m) (i:=o-pre.length+i) (by omega)
     rw[show pre.length+(o-pre.length+i)=o+i by omega] at this
     rw[this]
     simp[hi]
    ·rename_i hi
     rw[gO (by simp; omega)]; rfl
   ·cases h
  ·rename_i b o n m h3
   split at h
   ·rename_i c hc
    split at h
    ·simp only[oM,pI,true_and] at h
     obtain⟨u,hu,rfl⟩:=h
     exact C2f hs h1 h2 h3 hx hc hu
    ·cases h
   ·cases h
  ·cases h
 ·cases h
theorem D4e{o:Oper}{U:Operand->AV}{U':Operand->Value}{v:AV}{B':Heap}{D:List Nat}(h:U4 P U B o.op=some (true,v,B',D))(hs:Sim A Z B w.heap)(hd:Dom Z B.length)(hU:∀ x,VR Z (U x) (U' x)):Got P A Z B w (execOp U' o) v B' D:=by
 obtain⟨dst,op,ty,pos,after,guard⟩:=o
 cases op with
 | alloc t =>
  simp only[U4,Option.bind_eq_some_iff] at h
  obtain⟨z,hz,h⟩:=h
  exact C1i hs hd hz h
 | box t x =>
  simp only[U4] at h
  split at h
  ·cases h
  ·rename_i hb
   exact C9i hs hd (by intro e; rw[e] at hb; simp[A7h] at hb) (hU x) h
 | load t a =>
  simp only[U4,oM,pI] at h
  obtain⟨⟨c,v'⟩,h1,rfl,rfl,rfl,rfl⟩:=h
  exact F4 (s:=Instr.loadAt t (U' a)) hs hd (rfl:only B (some v')=_) fun v hv=>by cases hv; exact B7h hs h1 (hU a)
 | store t a x =>
  simp only[U4] at h
  split at h
  ·cases h
  ·rename_i hb
   exact B5p hs hd h (by intro e; rw[e] at hb; simp[A7h] at hb) (hU a) (hU x)
 | indexAddr t x i =>
  simp only[U4,oM,pI] at h
  obtain⟨⟨c,v'⟩,h1,rfl,rfl,rfl,rfl⟩:=h
  exact F4 (s:=Instr.indexAt t (U' x) (U' i)) hs hd (rfl:only B (some v')=_) fun v hv=>by cases hv; exact B5n hs h1 (hU x) (hU i)
 | slice t x lo hi mx =>
  cases mx with
  | some _=>simp[U4] at h
  | none =>
   simp only[U4,oM,pI] at h
   obtain⟨⟨c,v'⟩,h1,rfl,rfl,rfl,rfl⟩:=h
   exact F4 (s:=Instr.sliceAt t (U' x) (lo.map U') (hi.map U') none) hs hd (rfl:only B (some v')=_) fun v hv=>by cases hv; exact B5o hs h1 (hU x) (VRo.map hU lo) (VRo.map hU hi)
 | makeSlice t l c=>exact B7i hs hd h (hU l) (hU c)
 | convert s d x =>
  simp only[U4] at h
  split at h
  ·rename_i r hb
   simp only[sI] at h
   subst h
   exact B5m hs hd hb (hU x)
  simp only[oM,pI] at h
  obtain⟨⟨c,v'⟩,h1,rfl,rfl,rfl,rfl⟩:=h
  exact F4 (s:=convert s d (U' x)) hs hd (rfl:only B (some v')=_) fun v hv=>by cases hv; exact B7f hs h1 (hU x)
 | call c =>
  obtain⟨callee,args,ats⟩:=c
  cases callee with
  | value f=>simp[U4] at h
  | invoke x m=>simp[U4] at h
  | builtin bi =>
   have hxs:=VRL.map U U' hU args.toList
   have e:(args.toList.map U').toArray=args.map U':=by apply Array.ext'; simp
   cases bi with
   | copy =>
    simp only[U4] at h
    split at h
    ·rename_i d x hargs
     rw[hargs] at hxs
     simp only[VRL] at hxs
     obtain⟨d',l0,hx1,hx,x',l1,rfl,hy,rfl⟩:=hxs
     have:=B7g (ty0:=ty) hs hd h hx hy
     have hm:args.map U'=#[d',x']:=by rw[<- e,hx1]
     show Got P A Z B w (builtin .copy ats ty (args.map fun | .const _=>true | _=>false) (args.map U')) _ _ _
     rw[hm]
     exact this
    ·cases h
   | len =>
    simp only[U4] at h
    split at h
    ·rename_i b s n hargs
     split at h
     ·rename_i el hu
      simp only[sI,pI,true_and] at h
      obtain⟨rfl,rfl,rfl⟩:=h
      rw[hargs] at hxs
      simp only[VRL] at hxs
      obtain⟨x,l0,hx1,hx,rfl⟩:=hxs
      obtain⟨y,p1,p2⟩:=A5a (P:=P) (w:=w) (ts:=ats) (v:=.int .i64 n) (ty:=ty) hs (by simp only[X6,hu]) (G1o.1 hx)
      have:=Got.of_pure (P:=P) (v:=.sint .i64 n) hs hd ⟨y,p1,by simpa only[VR] using p2⟩
      have hm:args.map U'=#[x]:=by rw[<- e,hx1]
      show Got P A Z B w (builtin .len ats ty (args.map fun | .const _=>true | _=>false) (args.map U')) _ _ _
      rw[hm]
      exact this
     ·cases h
    ·cases h
   | _=>simp[U4] at h
 | _=>simp[U4] at h
theorem D4s{o:Oper}{U:Operand->AV}{U':Operand->Value}{v:AV}{B':Heap}{D:List Nat}(h:A2c P U B o.op=some (true,v,B',D))(hs:Sim A Z B w.heap)(hd:Dom Z B.length)(hU:∀ x,VR Z (U x) (U' x)):Got P A Z B w (execOp U' o) v B' D:=by
 unfold A2c at h
 split at h
 ·rename_i r hr; cases h; exact D4e hr hs hd hU
 ·split at h
  ·rename_i r hr; cases h; exact C9t hr hs hd hU
  split at h
  ·rename_i r hr; cases h; exact E2t hr hs hd hU
  split at h
  ·rename_i r hr; cases h; exact E2p hr hs hd hU
  split at h
  ·rename_i r hr
   obtain⟨c,v'⟩:=r
   simp only[sI,pI] at h
   obtain⟨rfl,rfl,rfl,rfl⟩:=h
   exact E2k hr hs hd hU
  split at h
  ·rename_i r hr; cases h; exact E2g hr hs hd hU
  ·exact E2i h hs hd hU
end
end Go.Ad
