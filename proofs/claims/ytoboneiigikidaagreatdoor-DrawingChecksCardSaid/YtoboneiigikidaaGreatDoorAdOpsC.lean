/- Rows of numbers: new rows, bytes as a text; all operations on lists. -/
import Derived.Test.YtoboneiigikidaaGreatDoorAdOpsZ
import Derived.Test.YtoboneiigikidaaGreatDoorAdOpsB
import Derived.Test.YtoboneiigikidaaGreatDoorAdOpsL
namespace Go.Ad
section
variable {P:Program} {A:Amb} {ι:Emb} {B:Heap} {w:World}
theorem B6l {t:TypeId} {a c v:AV} {x y:Value} {B':Heap} {D:List Nat} (hs:Sim A ι B w.heap) (hd:Dom ι B.length) (h:A7b P B t a c=some (true,v,B',D)) (hx:VR ι a x) (hy:VR ι c y) :
  Got P A ι B w (do pure (.value (<- Instr.makeSlice t x y))) v B' D:=by
 unfold A7b at h
 split at h
 ·rename_i e k1 n k2 n' hu hn hn'
  split at h
  ·rename_i k i z hue hi hz
   split at h
   ·rename_i hc
    obtain ⟨hc1,hc2,hc3⟩:=hc
    simp only [sI,pI,decide_eq_true_eq] at h
    obtain ⟨⟨h0,rfl,h1⟩,rfl,rfl,rfl⟩:=h
    obtain ⟨kx,hkx⟩:∃ kx,M3 a=some (kx,n'):=⟨_,hn⟩
    obtain ⟨ky,hky⟩:∃ ky,M3 c=some (ky,n'):=⟨_,hn'⟩
    have hx':VR ι (.int kx n') x:=by simp only [VR]; exact J8 hkx hx
    have hy':VR ι (.int ky n') y:=by simp only [VR]; exact J8 hky hy
    rw [Bool.and_eq_true] at hc1
    have hz0:z=.int k 0:=by
     have:=hc1.2
     cases z <;> simp [D2n] at this
     rw [this.1,this.2]
    have hmk:A0j P B t (.int kx n') (.int ky n')=some (.slice (some (B.length,0)) n'.toNat n'.toNat,B++[.cells (zeros [z] n'.toNat) i.size true e],[]):=by
     simp only [A0j,hu,hi,hz]
     rw [if_pos ⟨h0,Int.le_refl _,h1,hc2,by simp [hc3],by omega⟩]
    have:=(A5a (P:=P) hs hd hmk hx' hy').val (a':=.aslc B.length 0 n'.toNat) (fun ι x hx=>F8y.2 hx)
    refine this.re (b:=B.length) (o:=.cells (zeros [z] n'.toNat) i.size true e) (o':=.arr [] k n'.toNat (fun _=>0) e) rfl (by simp) (by simp) rfl rfl fun ι h l ho=>?_
    rw [hc3] at ho
    refine ⟨rfl,?_⟩
    have e:zeros [z] n'.toNat=O1 [] k n'.toNat fun _=>0:=by
     rw [hz0]
     simp only [zeros,O1,List.nil_append]
     rw [List.map_const']
     simp
    rwa [e] at ho
   ·cases h
  ·cases h
 ·cases h
theorem B2l:∀ {cs:List AV} {xs:List Value} {s:List UInt8},A1g cs=some s->VRL ι cs xs->∃ ns:List Int,xs=ns.map (.int .u8)/\s=ns.map fun n=>UInt8.ofNat n.toNat
 | [],xs,s,h,hx=>by simp only [A1g,sI] at h; subst h; simp only [VRL] at hx; subst hx; exact ⟨[],rfl,rfl⟩
 | a :: cs,xs,s,h,hx=>by
  simp only [VRL] at hx
  obtain ⟨x,ys,rfl,h1,h2⟩:=hx
  simp only [A1g] at h
  split at h
  ·rename_i n s' hn hr
   cases h
   have:=J8 hn h1
   subst this
   obtain ⟨ns,h4,h5⟩:=B2l hr h2
   subst h4 h5; exact ⟨n :: ns,by simp,by simp⟩
  ·cases h
theorem C1g {s d e:TypeId} {b o n:Nat} {x:Value} {cs:List AV} {u:List UInt8} (hs:Sim A ι B w.heap) (h1:P.underlying s=some (.slice e)) (h2:P.underlying d=some .string) (h3:P.underlying e=some (.int .u8))
  {m:Nat} (hx:VR ι (.slice (some (b,o)) n m) x) (p1:ldN B b o n=some cs) (p2:A1g cs=some u):Pure P w ι (convert s d x) (.sstr u):=by
 simp only [VR] at hx
 obtain ⟨l,cap,off,hl,g1,g2,g3,g4,g5,rfl⟩:=hx
 by_cases h0:n=0
 ·subst h0
  have:cs=[]:=by
   unfold ldN at p1
   split at p1
   ·split at p1
    ·simp at p1; exact p1
    ·simp at p1
   ·simp at p1
  subst this
  simp only [A1g,sI] at p2; subst p2
  exact ⟨.string .empty,by simp only [convert,Sem.run_bind,und h1,und h2,und h3,Result.andThen_ok,Conv.bytesToString,loadCells,loadCellsFrom]; rfl,by simp only [VR]; exact ⟨_,rfl,rfl⟩⟩
 ·have hoff:off=l.d+o:=by rcases g3 with g3 | g3 <;> omega
  subst hoff
  obtain ⟨vs,q0,q1,q2⟩:=A8v (P:=P) hs p1 hl
  obtain ⟨ns,rfl,rfl⟩:=B2l p2 q2
  refine ⟨.string ⟨(ns.map fun n=>UInt8.ofNat n.toNat).toArray⟩,?_,by simp only [VR]; exact ⟨_,by simp,rfl⟩⟩
  simp only [convert,Sem.run_bind,und h1,und h2,und h3,Result.andThen_ok,Conv.bytesToString,q1 w rfl,<- Array.forIn_toList]
  have:=A7r (P:=P) ns .empty w
  refine (congrArg (fun r:Result ByteArray=>r.andThen fun a w'=>Sem.run P (pure (Value.string a)) w') this).trans ?_
  simp only [Result.andThen_ok,Sem.run_pure]
  congr 2
  simp [ByteArray.empty,ByteArray.emptyWithCapacity]
  rfl
theorem B2m {k:Nat->Int}:∀ (l:List Nat),A1g (l.map fun i=>.int .u8 (k i))=some (l.map fun i=>UInt8.ofNat (k i).toNat)
 | []=>rfl
 | x :: r=>by simp only [List.map_cons,A1g,M3,B2m r]
theorem B4t (hs:Sim A ι B w.heap) (hd:Dom ι B.length) {s d:TypeId} {x v:AV} {x':Value} {B':Heap} {D:List Nat} (h:A4x P B s d x=some (true,v,B',D)) (hx:VR ι x x') :
  Got P A ι B w (do pure (.value (<- convert s d x'))) v B' D:=by
 unfold A4x at h
 split at h
 ·rename_i e t h1 h2
  split at h
  ·rename_i h3
   simp only [sI,pI,true_and] at h
   obtain ⟨rfl,rfl,rfl⟩:=h
   have hx':VR ι (.str t) x':=by simpa only [VR] using hx
   have hc:A3f P B s d (.str t)=some (.slice (some (B.length,0)) t.length t.length,B++[.cells (bytesOf t) 1 true e],[]):=by
    simp only [A3f,h1,h2,h3]
   have:=(A7d (P:=P) hs hd hc hx').val (a':=.aslc B.length 0 t.length) (fun ι x hx=>F8y.2 hx)
   refine this.re (b:=B.length) (o:=.cells (bytesOf t) 1 true e) (o':=.arr [] .u8 t.length (fun i=>((t.getD i 0).toNat:Int)) e) rfl (by simp) (by simp) rfl rfl fun ι h l ho=>?_
   refine ⟨rfl,?_⟩
   have e:bytesOf t=O1 [] .u8 t.length fun i=>((t.getD i 0).toNat:Int):=by
    unfold bytesOf O1
    rw [List.nil_append]
    refine List.ext_getElem (by simp) fun i h1 h2=>?_
    simp at h1
    simp [List.getD_eq_getElem?_getD,h1]
   rwa [e] at ho
  ·cases h
 ·cases h
theorem B6i (hs:Sim A ι B w.heap) {s d:TypeId} {x v:AV} {x':Value} (h:B6h P B s d x=some (true,v)) (hx:VR ι x x'):Pure P w ι (convert s d x') v:=by
 unfold B6h at h
 split at h
 ·rename_i e h1 h2
  split at h
  ·rename_i b o n h3
   split at h
   ·rename_i pre m f ty hb
    simp only [sI,pI,Bool.and_eq_true,decide_eq_true_eq] at h
    obtain ⟨⟨c1,c2⟩,rfl⟩:=h
    have hg:=hget (o':=.cells (O1 pre .u8 m f) 1 true ty) hb
    refine C1g (cs:=(List.range n).map fun i=>.int .u8 (f (o - pre.length+i))) (hs.hardA hb) h1 h2 h3 (F8y.1 hx) ?_ (B2m _)
    simp only [ldN,hg]
    rw [if_pos (by rw [G9]; omega)]
    congr 1
    apply List.ext_getElem?
    intro i
    rw [List.getElem?_take,List.getElem?_map]
    split
    ·rename_i hi
     rw [List.getElem?_drop]
     have:=A0s (pre:=pre) (k:=.u8) (f:=f) (m:=m) (i:=o - pre.length+i) (by omega)
     rw [show pre.length+(o - pre.length+i)=o+i by omega] at this
     rw [this]
     simp [hi]
    ·rename_i hi
     rw [List.getElem?_eq_none (by simp; omega)]; rfl
   ·cases h
  ·rename_i b o n m h3
   split at h
   ·rename_i c hc
    split at h
    ·simp only [Option.map_eq_some_iff,pI,true_and] at h
     obtain ⟨u,hu,rfl⟩:=h
     exact C1g hs h1 h2 h3 hx hc hu
    ·cases h
   ·cases h
  ·cases h
 ·cases h
theorem D2z {o:Oper} {ρ:Operand->AV} {ρ':Operand->Value} {v:AV} {B':Heap} {D:List Nat} (h:R4 P ρ B o.op=some (true,v,B',D)) (hs:Sim A ι B w.heap) (hd:Dom ι B.length)
  (hρ:∀ x,VR ι (ρ x) (ρ' x)):Got P A ι B w (execOp ρ' o) v B' D:=by
 obtain ⟨dst,op,ty,pos,after,guard⟩:=o
 cases op with
 | alloc t =>
  simp only [R4,Option.bind_eq_some_iff] at h
  obtain ⟨z,hz,h⟩:=h
  exact C0j hs hd hz h
 | box t x =>
  simp only [R4] at h
  split at h
  ·cases h
  ·rename_i hb
   exact C8i hs hd (by intro e; rw [e] at hb; simp [A7w] at hb) (hρ x) h
 | load t a =>
  simp only [R4,Option.map_eq_some_iff,pI] at h
  obtain ⟨⟨c,v'⟩,h1,rfl,rfl,rfl,rfl⟩:=h
  exact F4 (s:=Instr.loadAt t (ρ' a)) hs hd (rfl:only B (some v')=_) fun v hv=>by cases hv; exact B6k hs h1 (hρ a)
 | store t a x =>
  simp only [R4] at h
  split at h
  ·cases h
  ·rename_i hb
   exact B4w hs hd h (by intro e; rw [e] at hb; simp [A7w] at hb) (hρ a) (hρ x)
 | indexAddr t x i =>
  simp only [R4,Option.map_eq_some_iff,pI] at h
  obtain ⟨⟨c,v'⟩,h1,rfl,rfl,rfl,rfl⟩:=h
  exact F4 (s:=Instr.indexAt t (ρ' x) (ρ' i)) hs hd (rfl:only B (some v')=_) fun v hv=>by cases hv; exact B4u hs h1 (hρ x) (hρ i)
 | slice t x lo hi mx =>
  cases mx with
  | some _=>simp [R4] at h
  | none =>
   simp only [R4,Option.map_eq_some_iff,pI] at h
   obtain ⟨⟨c,v'⟩,h1,rfl,rfl,rfl,rfl⟩:=h
   exact F4 (s:=Instr.sliceAt t (ρ' x) (lo.map ρ') (hi.map ρ') none) hs hd (rfl:only B (some v')=_) fun v hv=>by cases hv; exact B4v hs h1 (hρ x) (VRo.map hρ lo) (VRo.map hρ hi)
 | makeSlice t l c=>exact B6l hs hd h (hρ l) (hρ c)
 | convert s d x =>
  simp only [R4] at h
  split at h
  ·rename_i r hb
   simp only [sI] at h
   subst h
   exact B4t hs hd hb (hρ x)
  simp only [Option.map_eq_some_iff,pI] at h
  obtain ⟨⟨c,v'⟩,h1,rfl,rfl,rfl,rfl⟩:=h
  exact F4 (s:=convert s d (ρ' x)) hs hd (rfl:only B (some v')=_) fun v hv=>by cases hv; exact B6i hs h1 (hρ x)
 | call c =>
  obtain ⟨callee,args,ats⟩:=c
  cases callee with
  | value f=>simp [R4] at h
  | invoke x m=>simp [R4] at h
  | builtin bi =>
   have hxs:=VRL.map ρ ρ' hρ args.toList
   have e:(args.toList.map ρ').toArray=args.map ρ':=by apply Array.ext'; simp
   cases bi with
   | copy =>
    simp only [R4] at h
    split at h
    ·rename_i d x hargs
     rw [hargs] at hxs
     simp only [VRL] at hxs
     obtain ⟨d',l0,hx1,hx,x',l1,rfl,hy,rfl⟩:=hxs
     have:=B6j (ty0:=ty) hs hd h hx hy
     have hm:args.map ρ'=#[d',x']:=by rw [<- e,hx1]
     show Got P A ι B w (builtin .copy ats ty (args.map fun | .const _=>true | _=>false) (args.map ρ')) _ _ _
     rw [hm]
     exact this
    ·cases h
   | len =>
    simp only [R4] at h
    split at h
    ·rename_i b s n hargs
     split at h
     ·rename_i el hu
      simp only [sI,pI,true_and] at h
      obtain ⟨rfl,rfl,rfl⟩:=h
      rw [hargs] at hxs
      simp only [VRL] at hxs
      obtain ⟨x,l0,hx1,hx,rfl⟩:=hxs
      obtain ⟨y,p1,p2⟩:=A4p (P:=P) (w:=w) (ts:=ats) (v:=.int .i64 n) (ty:=ty) hs (by simp only [U8,hu]) (F8y.1 hx)
      have:=Got.of_pure (P:=P) (v:=.sint .i64 n) hs hd ⟨y,p1,by simpa only [VR] using p2⟩
      have hm:args.map ρ'=#[x]:=by rw [<- e,hx1]
      show Got P A ι B w (builtin .len ats ty (args.map fun | .const _=>true | _=>false) (args.map ρ')) _ _ _
      rw [hm]
      exact this
     ·cases h
    ·cases h
   | _=>simp [R4] at h
 | _=>simp [R4] at h
theorem D3n {o:Oper} {ρ:Operand->AV} {ρ':Operand->Value} {v:AV} {B':Heap} {D:List Nat} (h:A1o P ρ B o.op=some (true,v,B',D)) (hs:Sim A ι B w.heap) (hd:Dom ι B.length)
  (hρ:∀ x,VR ι (ρ x) (ρ' x)):Got P A ι B w (execOp ρ' o) v B' D:=by
 unfold A1o at h
 split at h
 ·rename_i r hr; cases h; exact D2z hr hs hd hρ
 ·split at h
  ·rename_i r hr; cases h; exact C8t hr hs hd hρ
  split at h
  ·rename_i r hr; cases h; exact E1b hr hs hd hρ
  split at h
  ·rename_i r hr; cases h; exact E0x hr hs hd hρ
  split at h
  ·rename_i r hr
   obtain ⟨c,v'⟩:=r
   simp only [sI,pI] at h
   obtain ⟨rfl,rfl,rfl,rfl⟩:=h
   exact E0s hr hs hd hρ
  ·exact E0q h hs hd hρ
end
end Go.Ad
