/- Rows of numbers that are known by their place alone: the operations on them stand for the model's. -/
import Derived.Test.YtoboneiigikidaaGreatDoorAdOpsV
namespace Go.Ad
section
variable {P:Program} {A:Amb} {Z:Emb} {B:Heap} {w:World}
variable {pre:List AV} {k:IntKind} {m:Nat} {f:Nat->Int}
theorem H7:(O6 pre k m f).length=pre.length+m:=by simp[O6]
theorem A1d{i:Nat}(h:i<m):(O6 pre k m f)[pre.length+i]?=some (.int k (f i)):=by
 rw[O6,gR (by omega)]; simp[h]
theorem A9c{i:Nat}{a:AV}(h:(O6 pre k m f)[i]?=some a):(i<pre.length/\pre[i]?=some a) \/ (pre.length<=i/\i-pre.length<m/\a=.int k (f (i-pre.length))):=by
 have hlt:i<pre.length+m:=by have:=(gS.1 h).1; rwa [H7] at this
 by_cases hp:i<pre.length
 ·rw[O6,gL hp] at h; exact .inl ⟨hp,h⟩
 ·right
  have e:i=pre.length+(i-pre.length):=by omega
  rw[e,A1d (by omega)] at h
  cases h
  exact⟨by omega,by omega,by simp⟩
theorem OR.recell{h:Array Obj}{l:Loc}{c c':List AV}{es:Nat}{rw:Bool}{ty:TypeId}(hlen:c'.length=c.length)(hw:∀ (i:Nat) (a':AV),c'[i]?=some a'->∃ a,c[i]?=some a/\∀ v,VR Z a v->VR Z a' v)(ho:OR Z h l (.cells c es rw ty)):OR Z h l (.cells c' es rw ty):=by
 obtain⟨h0,arr,e,fz,h1,h2,h3,h4,h5⟩:=ho
 refine⟨h0,arr,e,fz,h1,h2,by rw[hlen]; exact h3,fun i a hi=>?_,fun ht=>⟨fun he=>by rw[hlen]; exact(h5 ht).1 he,(h5 ht).2⟩⟩
 obtain⟨a0,q1,q2⟩:=hw i a hi
 obtain⟨v,p1,p2⟩:=h4 i a0 q1
 exact⟨v,p1,q2 v p2⟩
theorem B9i{a:AV}(h:E8e k a=true):∃ n,M8 a=some (k,n):=by
 unfold E8e at h
 split at h
 ·rename_i k' n hn; rw[dQ] at h; subst h; exact⟨n,hn⟩
 ·cases h
theorem A8w{a:AV}{k:IntKind}{n:Int}(h:M8 a=some (k,n)):one a=true/\M3 a=[a]/\M7 a=true:=by
 cases a<;>simp[M8] at h<;>exact⟨rfl,rfl,rfl⟩
theorem D7g{a:AV}(h:one a=true):M3 a=[a]:=by cases a<;>first | rfl | (simp[one] at h)
theorem E1w{a:AV}{v:Value}(h:VR Z a v):VR Z (D8b a) v:=by
 cases a<;>simp only[D8b]<;>first | exact h | (simp only[VR] at h ⊢; first | exact h | exact h.1)
theorem C0r{a:AV}(h:M7 a=true):M7 (D8b a)=true:=by cases a<;>first | rfl | exact h
theorem OR.toArr{h:Array Obj}{l:Loc}{p:Nat}{ty:TypeId}{c:List AV}{o:AObj}(ht:toArr p k m ty c=some o)(ho:OR Z h l (.cells c 1 true ty)):OR Z h l o:=by
 unfold Go.Ad.toArr at ht
 split at ht
 ·rename_i hc
  obtain⟨hl,hb⟩:=hc
  simp only[bA] at hb
  obtain⟨⟨hpl,_⟩,hk⟩:=hb
  cases ht
  have hp:((c.take p).map D8b).length=p:=by rw[List.length_map,List.length_take]; omega
  have hpl:((c.take p).map D8b).all M7=true:=by
   rw[List.all_eq_true] at hpl ⊢
   intro a ha
   obtain⟨a0,h1,rfl⟩:=List.mem_map.1 ha
   exact C0r (hpl a0 h1)
  refine⟨hpl,OR.recell (c:=c) (by rw[H7,hp,hl]) (fun i a' hi=>?_) ho⟩
  rcases A9c hi with⟨h1,h2⟩ | ⟨h1,h2,rfl⟩
  ·rw[List.getElem?_map,tK] at h2
   split at h2
   ·simp only[oM] at h2
    obtain⟨a0,h3,rfl⟩:=h2
    exact⟨a0,h3,fun _ h=>E1w h⟩
   ·cases h2
  ·rw[hp] at h1 h2 ⊢
   have hi':i<c.length:=by omega
   have hd:(c.drop p)[i-p]?=some c[i]:=by
    rw[dP,show p+(i-p)=i by omega]; exact gE hi'
   have hmem:c[i]∈c.drop p:=List.mem_of_getElem? hd
   obtain⟨n,hn⟩:=B9i (List.all_eq_true.1 hk _ hmem)
   refine⟨c[i],gE hi',fun v hv=>?_⟩
   have:=K3 hn hv
   subst this
   simp only[VR]
   congr 1
   cases hz:(c.drop p).all (D3r k) with
   | true =>
    have:=List.all_eq_true.1 hz _ hmem
    simp only[cond_true]
    generalize c[i]=a at hn this
    cases a<;>simp[D3r] at this
    simp[M8] at hn
    omega
   | false =>
    simp only[cond_false,G0w,gD,hd,Option.getD_some,hn]
 ·cases ht
theorem Sim.hardA(hs:Sim A Z B w.heap){b:Nat}{ty:TypeId}(hb:B[b]?=some (.arr pre k m f ty)):Sim A Z (B.set b (.cells (O6 pre k m f) 1 true ty)) w.heap :=
 hs.swap hb (fun _=>rfl) (fun _=>rfl) fun _ _ h=>h.hardA
theorem Got.re{s:Sem Next}{v:AV}{B1 B2 B':Heap}{D:List Nat}{b:Nat}{o o':AObj}(hg:Got P A Z B1 w s v B2 D)(hl:B1.length=B.length)(hb:B2[b]?=some o)(e:B'=B2.set b o')(h1:o.own=true)(h2:o.live=true)(ho:∀ (Z:Emb) (h:Array Obj) (l:Loc),OR Z h l o->OR Z h l o'):Got P A Z B w s v B' D:=by
 obtain⟨Z',v',nx,w',g1,g2,g3,g4,g5,g6,g7⟩:=hg
 subst e
 refine⟨Z',v',nx,w',g1,g2,?_,g4,g5.swap hb (fun _=>h1) (fun _=>h2) fun l _=>ho _ _ l,?_,?_⟩
 ·rw[List.length_set,<- hl]; exact g3
 ·rw[List.length_set,<- hl]; exact g6
 ·rw[List.length_set]; exact g7
theorem C1i{t:TypeId}{z:List AV}{v:AV}{B':Heap}{D:List Nat}(hs:Sim A Z B w.heap)(hd:Dom Z B.length)(hz:zeroCells? P t=some z)(h:A4r P B t z=some (true,v,B',D)) :
  Got P A Z B w (do pure (.value (<- Instr.alloc t true (.tuple #[])))) v B' D:=by
 unfold A4r at h
 split at h
 ·split at h
  ·rename_i o ho
   simp only[sI,pI,true_and] at h
   obtain⟨rfl,rfl,rfl⟩:=h
   obtain⟨zv,h1,h2⟩:=A4n hz w
   refine A3f (obj:=.cells zv.cells t (0,0)) (d:=0) (n:=zv.cells.size) (es:=1) (y:=.pointer (some ⟨w.heap.size,0,none⟩)) (k:=w.drawn) hs hd ?_ (OR.toArr ho (B3h ?_)) ?_
   ·simp[Instr.alloc,h1,newVar,newRow]
   ·rw[<- h2]; exact A3d _ _
   ·simp only[VR]; exact⟨_,Emb.put_self _ _ _,rfl⟩
  ·cases h
 ·cases h
theorem C9i{t:TypeId}{a v:AV}{x:Value}{B':Heap}{D:List Nat}(hs:Sim A Z B w.heap)(hd:Dom Z B.length)(hb:a≠.bad)(hx:VR Z a x)(h:A4r P B t (M3 a)=some (true,v,B',D)) :
  Got P A Z B w (do pure (.value (<- Instr.box t x))) v B' D:=by
 have hn:Z B.length=none:=hd _ (lR _)
 unfold A4r at h
 split at h
 ·split at h
  ·rename_i o ho
   simp only[sI,pI,true_and] at h
   obtain⟨rfl,rfl,rfl⟩:=h
   refine A3f (obj:=.cells x.cells t (0,0)) (d:=0) (n:=x.cells.size) (es:=1) (y:=.pointer (some ⟨w.heap.size,0,none⟩)) (k:=w.drawn) hs hd ?_ (OR.toArr ho (B3h ?_)) ?_
   ·simp[Instr.box,newVar,newRow]
   ·exact(A9a hb hx).mono (Emb.le_put hn)
   ·simp only[VR]; exact⟨_,Emb.put_self _ _ _,rfl⟩
  ·cases h
 ·cases h
theorem D3g(hs:Sim A Z B w.heap){b i j:Nat}{ty:TypeId}{x:Value}(hb:B[b]?=some (.arr pre k m f ty))(hx:VR Z (.sptr b i j) x):VR Z (.ptr (some (b,j+i))) x:=by
 simp only[VR] at hx ⊢
 obtain⟨l,hl,rfl⟩:=hx
 obtain⟨_,hes,_⟩:=hs.obj b _ l hb hl
 exact⟨l,hl,by rw[hes,Nat.mul_one,Nat.add_comm i j]⟩
theorem hget{b:Nat}{o o':AObj}(hb:B[b]?=some o):(B.set b o')[b]?=some o':=by
 rw[List.getElem?_set_self (gS.1 hb).1]
theorem E4u{xs:List Value}(h:VRL Z (O6 pre k m f) xs):VRL Z (pre++(List.range m).map fun i=>.sint k (f i)) xs:=by
 refine VRL.of_get (by rw[h.length]; simp[O6]) fun i x hi=>?_
 rw[List.getElem?_append] at hi
 split at hi
 ·rename_i hlt
  exact h.get (by rw[O6,gL hlt]; exact hi)
 ·rename_i hlt
  simp only[List.getElem?_map,oM] at hi
  obtain⟨j,hj,rfl⟩:=hi
  have hj2:=gS.1 hj
  obtain⟨hjl,hje⟩:=hj2
  simp only[List.length_range] at hjl
  simp only[List.getElem_range] at hje
  subst hje
  obtain⟨y,h1,h2⟩:=h.get (A1d (pre:=pre) (k:=k) (f:=f) hjl)
  rw[show pre.length+(i-pre.length)=i by omega] at h1
  exact⟨y,h1,by simpa only[VR] using h2⟩
theorem B7h(hs:Sim A Z B w.heap){t:TypeId}{a v:AV}{x:Value}(h:A0c P B t a=some (true,v))(hx:VR Z a x):Pure P w Z (Instr.loadAt t x) v:=by
 unfold A0c at h
 split at h
 ·rename_i b o
  split at h
  ·rename_i d pre k m f ty hu hb
   have hg:=hget (o':=.cells (O6 pre k m f) 1 true ty) hb
   split at h
   ·rename_i hag
    split at h
    ·rename_i n hn
     split at h
     ·rename_i hc
      obtain⟨rfl,rfl⟩:=hc
      simp only[sI,pI,true_and] at h
      subst h
      obtain⟨y,p1,p2⟩:=Y0 (P:=P) (t:=t) (v:=.agg (O6 pre k m f)) (hs.hardA hb) (by
       simp only[A1c,hu,if_pos hag,hn,Option.bind_some,ldN,hg]
       rw[if_pos (by rw[H7]; omega)]
       simp only[List.drop_zero,oS]
       rw[List.take_of_length_le (by rw[H7]; omega)]) hx
      refine⟨y,p1,?_⟩
      simp only[VR] at p2 ⊢
      obtain⟨xs,rfl,p3⟩:=p2
      exact⟨xs,rfl,E4u p3⟩
     ·cases h
    ·cases h
   ·rename_i hag
    split at h
    ·rename_i v' hv
     simp only[sI,pI,true_and] at h
     subst h
     refine Y0 (hs.hardA hb) ?_ hx
     simp only[A1c,hu,if_neg hag,ld1,hg]
     rw[O6,gL (gS.1 hv).1]; exact hv
    ·rename_i hv
     simp only[sI,pI,dQ] at h
     obtain⟨hlt,rfl⟩:=h
     have hle:pre.length<=o:=List.getElem?_eq_none_iff.1 hv
     obtain⟨y,p1,p2⟩:=Y0 (P:=P) (t:=t) (v:=.int k (f (o-pre.length))) (hs.hardA hb) (by
      simp only[A1c,hu,if_neg hag,ld1,hg]
      have:=A1d (pre:=pre) (k:=k) (f:=f) hlt
      rwa [show pre.length+(o-pre.length)=o by omega] at this) hx
     exact⟨y,p1,by simpa only[VR] using p2⟩
  ·cases h
 ·rename_i b i j
  split at h
  ·rename_i d pre k m f ty hu hb
   have hg:=hget (o':=.cells (O6 pre k m f) 1 true ty) hb
   split at h
   ·cases h
   ·rename_i hag
    split at h
    ·rename_i hj
     subst hj
     simp only[sI,pI,dQ] at h
     obtain⟨hlt,rfl⟩:=h
     obtain⟨y,p1,p2⟩:=Y0 (P:=P) (t:=t) (v:=.int k (f i)) (hs.hardA hb) (by
      simp only[A1c,hu,if_neg hag,ld1,hg]
      exact A1d hlt) (D3g hs hb hx)
     exact⟨y,p1,by simpa only[VR] using p2⟩
    ·cases h
  ·cases h
 ·cases h
theorem OR.updA{h:Array Obj}{l:Loc}{ty:TypeId}{q:Nat}{x:AV}{n:Int}(hpre:pre.all M7=true)(hq:q<m)(hsn:M8 x=some (k,n))(ho:OR Z h l (.cells (X5 (O6 pre k m f) (pre.length+q) [x]) 1 true ty)):OR Z h l (.arr pre k m (F2a f q n) ty):=by
 refine⟨hpre,OR.recell (by rw[Q4,H7,H7]) (fun i a' hi=>?_) ho⟩
 rw[Y9,H7]
 simp only[List.length_singleton]
 rcases A9c hi with⟨h1,h2⟩ | ⟨h1,h2,rfl⟩
 ·rw[if_neg (by omega),O6,gL h1]
  exact⟨a',h2,fun _ h=>h⟩
 ·by_cases e:i=pre.length+q
  ·rw[if_pos (by omega)]
   subst e
   refine⟨x,by simp,fun v hv=>?_⟩
   have:=K3 hsn hv
   subst this
   simp only[VR,F2a]
   rw[if_pos (by omega)]
  ·rw[if_neg (by omega)]
   have:=A1d (pre:=pre) (k:=k) (f:=f) h2
   rw[show pre.length+(i-pre.length)=i by omega] at this
   refine⟨_,this,fun v hv=>?_⟩
   simp only[VR,F2a] at hv ⊢
   rw[if_neg (by omega)]
   exact hv
theorem B5p{t:TypeId}{p x v:AV}{p' x':Value}{B':Heap}{D:List Nat}(hs:Sim A Z B w.heap)(hd:Dom Z B.length)(h:A1y P B t x p=some (true,v,B',D))(hb:x≠.bad)(hp:VR Z p p')(hx:VR Z x x'):Got P A Z B w (do Instr.storeAt t p' x'; pure .skip) v B' D:=by
 unfold A1y at h
 split at h
 ·rename_i b o
  split at h
  ·rename_i n pre k m f ty hn hbb
   have hg:=hget (o':=.cells (O6 pre k m f) 1 true ty) hbb
   have hlen:(B.set b (.cells (O6 pre k m f) 1 true ty)).length=B.length:=by simp
   have hpre:pre.all M7=true \/ Z b=none:=by
    cases hl:Z b with
    | none=>exact .inr rfl
    | some l=>exact .inl (hs.obj b _ l hbb hl).1
   have hpre:pre.all M7=true:=by
    rcases hpre with h | h
    ·exact h
    ·simp only[VR] at hp; obtain⟨l,hl,_⟩:=hp; rw[h] at hl; cases hl
   have fin:∀ (cs:List AV) (o':AObj),M3 x=cs->cs.length=n->o+n<=(O6 pre k m f).length->cs.all one=true->(∀ (Z:Emb) (h:Array Obj) (l:Loc),OR Z h l (.cells (X5 (O6 pre k m f) o cs) 1 true ty)->OR Z h l o') ->
     Got P A Z B w (do Instr.storeAt t p' x'; pure .skip) G8 (B.set b o') [b]:=fun cs o' e1 e2 e3 e4 e5=>by
    have hst:A1f P (B.set b (.cells (O6 pre k m f) 1 true ty)) t (.ptr (some (b,o))) x=some (G8,(B.set b (.cells (O6 pre k m f) 1 true ty)).set b (.cells (X5 (O6 pre k m f) o cs) 1 true ty),[b]):=by
     simp only[A1f,hn,e1,if_pos e2,st,hg]
     rw[if_pos ⟨by omega,e4⟩]; rfl
    have:=A1g (P:=P) (hs.hardA hbb) (by rw[hlen]; exact hd) hst hb hp hx
    refine this.re hlen (hget hg) (by rw[List.set_set,List.set_set]) rfl rfl e5
   split at h
   ·rename_i hn1
    subst hn1
    split at h
    ·rename_i ho
     split at h
     ·rename_i hc
      rw[bA] at hc
      simp only[sI,pI,true_and] at h
      obtain⟨rfl,rfl,rfl⟩:=h
      refine fin [x] _ (D7g hc.1) rfl (by rw[H7]; omega) (by simp[hc.1]) fun Z h l ho'=>?_
      have e:X5 (O6 pre k m f) o [x]=O6 (pre.set o x) k m f:=by
       simp only[X5,O6]
       rw[List.set_append_left _ _ ho]
      rw[e] at ho'
      refine⟨?_,OR.recell (by rw[H7,H7,List.length_set,List.length_set]) (fun i a' hi=>?_) ho'⟩
      ·rw[List.all_eq_true] at hpre ⊢
       intro a ha
       rcases List.mem_or_eq_of_mem_set ha with ha | rfl
       ·exact hpre a ha
       ·exact C0r hc.2
      ·by_cases e2:i=o
       ·subst e2
        rw[O6,gL (by rw[List.length_set]; exact ho),List.getElem?_set_self ho] at hi
        cases hi
        exact⟨x,by rw[O6,gL (by rw[List.length_set]; exact ho),List.getElem?_set_self ho],fun _ h=>E1w h⟩
       ·refine⟨a',?_,fun _ h=>h⟩
        rw[<- hi]
        simp only[O6]
        by_cases h4:i<pre.length
        ·rw[gL (by rw[List.length_set]; exact h4),gL (by rw[List.length_set]; exact h4),gX (Ne.symm e2),gX (Ne.symm e2)]
        ·rw[gR (by rw[List.length_set]; omega),gR (by rw[List.length_set]; omega),List.length_set,List.length_set]
     ·cases h
    ·rename_i ho
     split at h
     ·rename_i k' n hsn
      split at h
      ·rename_i hk
       subst hk
       simp only[sI,pI,dQ] at h
       obtain⟨hlt,rfl,rfl,rfl⟩:=h
       refine fin [x] _ (A8w hsn).2.1 rfl (by rw[H7]; omega) (by simp[(A8w hsn).1]) fun Z h l ho'=>?_
       refine OR.updA hpre hlt hsn ?_
       rwa [show pre.length+(o-pre.length)=o by omega]
      ·cases h
     ·cases h
   ·split at h
    ·rename_i hc
     obtain⟨rfl,hn2,hn3⟩:=hc
     split at h
     ·rename_i o' ho'
      simp only[sI,pI,true_and] at h
      obtain⟨rfl,rfl,rfl⟩:=h
      refine fin (M3 x) o' rfl hn3 (by rw[H7]; omega) ?_ fun Z h l ho2=>?_
      ·unfold Go.Ad.toArr at ho'
       split at ho'
       ·rename_i hc
        obtain⟨_,hc⟩:=hc
        simp only[bA] at hc
        rw[<- List.take_append_drop pre.length (M3 x),List.all_append,bA]
        refine⟨hc.1.2,?_⟩
        rw[List.all_eq_true] at *
        intro a ha
        obtain⟨n,hn⟩:=B9i (List.all_eq_true.1 hc.2 a ha)
        exact(A8w hn).1
       ·cases ho'
      ·have e:X5 (O6 pre k m f) 0 (M3 x)=M3 x:=by
        apply List.ext_getElem?
        intro i
        rw[Y9]
        simp only[H7,Nat.zero_le,true_and,Nat.sub_zero,Nat.zero_add]
        by_cases hi:i<n
        ·rw[if_pos (by omega)]
        ·rw[if_neg (by omega),gO (by rw[H7]; omega),gO (by omega)]
       rw[e] at ho2
       exact OR.toArr ho' ho2
     ·cases h
    ·cases h
  ·cases h
 ·rename_i b i j
  split at h
  ·rename_i pre k m f ty k' n hn hbb hsn
   split at h
   ·rename_i hc
    obtain⟨rfl,rfl⟩:=hc
    simp only[sI,pI,dQ] at h
    obtain⟨hlt,rfl,rfl,rfl⟩:=h
    have hg:=hget (o':=.cells (O6 pre k' m f) 1 true ty) hbb
    have hlen:(B.set b (.cells (O6 pre k' m f) 1 true ty)).length=B.length:=by simp
    have hpre:pre.all M7=true:=by
     simp only[VR] at hp; obtain⟨l,hl,_⟩:=hp
     exact(hs.obj b _ l hbb hl).1
    have hst:A1f P (B.set b (.cells (O6 pre k' m f) 1 true ty)) t (.ptr (some (b,pre.length+i))) x=some (G8,(B.set b (.cells (O6 pre k' m f) 1 true ty)).set b (.cells (X5 (O6 pre k' m f) (pre.length+i) [x]) 1 true ty),[b]):=by
     simp only[A1f,hn,(A8w hsn).2.1,List.length_singleton,if_true,st,hg]
     rw[if_pos ⟨by rw[H7]; omega,by simp[(A8w hsn).1]⟩]; rfl
    have:=A1g (P:=P) (hs.hardA hbb) (by rw[hlen]; exact hd) hst hb (D3g hs hbb hp) hx
    exact this.re hlen (hget hg) (by rw[List.set_set,List.set_set]) rfl rfl fun Z h l ho=>OR.updA hpre hlt hsn ho
   ·cases h
  ·cases h
 ·cases h
end
end Go.Ad
