/- Rows of numbers: indices, stretches, copies, new rows, bytes as a text; and all operations on lists. -/
import Derived.Test.YtoboneiigikidaaGreatDoorAdOpsA
namespace Go.Ad
section
variable {P:Program} {A:Amb} {Z:Emb} {B:Heap} {w:World}
theorem G1o{b s n:Nat}{x:Value}:VR Z (.aslc b s n) x↔VR Z (.slice (some (b,s)) n n) x:=by simp only[VR]
theorem Got.val{s:Sem Next}{a a':AV}{B':Heap}{D:List Nat}(h:Got P A Z B w s a B' D)(ha:∀ Z x,VR Z a x->VR Z a' x):Got P A Z B w s a' B' D:=by
 obtain⟨Z',v',nx,w',g1,g2,g3,g4,g5⟩:=h
 exact⟨Z',v',nx,w',g1,g2,g3,ha _ _ g4,g5⟩
theorem B5n(hs:Sim A Z B w.heap){t:TypeId}{x i v:AV}{x' i':Value}(h:A1x P B t x i=some (true,v))(hx:VR Z x x')(hi:VR Z i i'):Pure P w Z (Instr.indexAt t x' i') v:=by
 unfold A1x at h
 split at h
 ·rename_i n e b o k ix hu hsn
  split at h
  ·rename_i pre k m f ty hb
   split at h
   ·rename_i hc
    obtain⟨hsz,rfl⟩:=hc
    simp only[sI,pI,dQ] at h
    obtain⟨hin,rfl⟩:=h
    obtain⟨kk,hkk⟩:∃ kk,M8 i=some (kk,ix):=⟨_,hsn⟩
    have hi2:VR Z (.int kk ix) i':=by simp only[VR]; exact K3 hkk hi
    obtain⟨y,p1,p2⟩:=R8 (P:=P) (w:=w) (t:=t) (v:=.ptr (some (b,pre.length+ix.toNat*1))) (by simp only[Q6,hu,hsz,if_pos hin]) hx hi2
    refine⟨y,p1,?_⟩
    simp only[VR] at p2 ⊢
    obtain⟨l,hl,rfl⟩:=p2
    obtain⟨_,hes,_⟩:=hs.obj b _ l hb hl
    exact⟨l,hl,by rw[hes,Nat.add_comm pre.length]⟩
   ·cases h
  ·cases h
 ·rename_i e b s n k ix hu hsn
  split at h
  ·rename_i pre k m f ty hb
   split at h
   ·rename_i hsz
    simp only[sI,pI,bA,dQ] at h
    obtain⟨⟨hin,hps⟩,rfl⟩:=h
    obtain⟨kk,hkk⟩:∃ kk,M8 i=some (kk,ix):=⟨_,hsn⟩
    have hi2:VR Z (.int kk ix) i':=by simp only[VR]; exact K3 hkk hi
    obtain⟨y,p1,p2⟩:=R8 (P:=P) (w:=w) (t:=t) (v:=.ptr (some (b,s+ix.toNat*1))) (by simp only[Q6,hu,hsz,if_pos hin]) (G1o.1 hx) hi2
    refine⟨y,p1,?_⟩
    simp only[VR] at p2 ⊢
    obtain⟨l,hl,rfl⟩:=p2
    obtain⟨_,hes,_⟩:=hs.obj b _ l hb hl
    exact⟨l,hl,by rw[hes]; simp only[Nat.mul_one]; congr 4; omega⟩
   ·cases h
  ·cases h
 ·cases h
theorem A1q{y:Nat}{a:AV}{n:Nat}(h:A8u y a=some (true,n)):A3p y (cnI a)=some n:=by
 cases a<;>simp[A8u] at h<;>simp[A3p,cnI,h.1,h.2]
theorem A0t{len:Nat}{lo hi:Option AV}{l h:Nat}(hs:A1r len lo hi=some (true,l,h)):A0f len len (lo.map cnI) (hi.map cnI) none=some (l,h,len):=by
 unfold A1r at hs
 split at hs
 ·rename_i c h' hh
  split at hs
  ·rename_i c' l' hl
   simp only[sI,pI,bA] at hs
   obtain⟨⟨rfl,rfl⟩,rfl,rfl⟩:=hs
   cases hi with
   | none =>
    simp only[sI,pI,true_and] at hh
    subst hh
    cases lo with
    | none=>simp at hl; simp[A0f,hl]
    | some a=>simp[A0f,A1q hl]
   | some c =>
    cases lo with
    | none=>simp at hl; simp[A0f,A1q hh,hl]
    | some a=>simp[A0f,A1q hh,A1q hl]
  ·cases hs
 ·cases hs
theorem F3k{a:AV}{x:Value}(h:VR Z a x):VR Z (Go.Ad.cnI a) x:=by
 cases a<;>simp only[Go.Ad.cnI]<;>first | exact h | (simp only[VR] at h ⊢; first | exact h | exact h.1)
theorem VRo.cnI{o:Option AV}{o':Option Value}(h:VRo Z o o'):VRo Z (o.map Go.Ad.cnI) o':=by
 cases o<;>cases o'<;>simp only[VRo,Option.map_none,oS] at h ⊢
 exact F3k h
theorem B5o(hs:Sim A Z B w.heap){t:TypeId}{x v:AV}{x':Value}{lo hi:Option AV}{lo' hi':Option Value}(h:A5j P B t x lo hi=some (true,v))(hx:VR Z x x')(h1:VRo Z lo lo')(h2:VRo Z hi hi') :
  Pure P w Z (Instr.sliceAt t x' lo' hi' none) v:=by
 unfold A5j at h
 split at h
 ·rename_i n e b o hu
  split at h
  ·rename_i pre k m f ty hb
   have hg:=hget (o':=.cells (O6 pre k m f) 1 true ty) hb
   split at h
   ·rename_i hc
    split at h
    ·rename_i c l hh hbd
     simp only[sI,pI] at h
     obtain⟨rfl,rfl⟩:=h
     have hab:=A0t hbd
     obtain⟨y,p1,p2⟩:=A1e (P:=P) (w:=w) (t:=t) (v:=.slice (some (b,o+l*1)) (hh-l) (n-l)) (hs.hardA hb) (by
      simp only[A2a,hu,hc.1,hab,hg]
      rw[if_pos ⟨by simp,by rw[H7]; omega⟩]) hx h1.cnI h2.cnI (mx:=none) (mx':=none) trivial
     refine⟨y,p1,?_⟩
     simp only[VR] at p2 ⊢
     obtain⟨l1,cap,off,q1,q2,q3,q4,q5,q6,rfl⟩:=p2
     obtain⟨M',r1,r2,r3,_⟩:=P6 (P:=P) (w:=w) (sl:=false) hab (lR _) (lR _) h1.cnI h2.cnI (mx:=none) (mx':=none) trivial
     exact⟨l1,cap,off,q1,lR _,by omega,by rcases q4 with q4 | q4<;>omega,q5,q6,rfl⟩
    ·cases h
   ·cases h
  ·cases h
 ·rename_i e b s n hu
  split at h
  ·rename_i pre k m f ty c l hh hb hbd
   have hg:=hget (o':=.cells (O6 pre k m f) 1 true ty) hb
   split at h
   ·rename_i hsz
    simp only[sI,pI] at h
    obtain⟨rfl,rfl⟩:=h
    have hab:=A0t hbd
    obtain⟨y,p1,p2⟩:=A1e (P:=P) (w:=w) (t:=t) (v:=.slice (some (b,s+l*1)) (hh-l) (n-l)) (hs.hardA hb) (by
     simp only[A2a,hu,hsz,hab,hg]
     rw[if_pos (by simp)]) (G1o.1 hx) h1.cnI h2.cnI (mx:=none) (mx':=none) trivial
    refine⟨y,p1,?_⟩
    simp only[VR] at p2 ⊢
    obtain⟨l1,cap,off,q1,q2,q3,q4,q5,q6,rfl⟩:=p2
    obtain⟨M',r1,r2,r3,_⟩:=P6 (P:=P) (w:=w) (sl:=false) hab (lR _) (lR _) h1.cnI h2.cnI (mx:=none) (mx':=none) trivial
    exact⟨l1,cap,off,q1,lR _,by omega,by rcases q4 with q4 | q4<;>omega,q5,q6,rfl⟩
   ·cases h
  ·cases h
 ·cases h
theorem C1j(hs:Sim A Z B w.heap){k:IntKind}{x:AV}{x':Value}{n:Nat}{g:Nat->Int}(h:C4l B k x=some (true,n,g))(hx:VR Z x x'){b:Nat}{o:AObj}{pre:List AV}{m:Nat}{f:Nat->Int}{ty:TypeId}(hb:B[b]?=some (.arr pre k m f ty)) :
  ∃ (B1:Heap) (y:AV),Sim A Z B1 w.heap/\B1.length=B.length/\(∀ j:Nat,j≠b->True)/\B1[b]?=some (.cells (O6 pre k m f) 1 true ty)/\VR Z y x'/\B0i y=some n /\
   (∀ q,q<=n->A2b B1 1 q y=some ((List.range q).map fun i=>.int k (g i)))/\∀ B2,B2=B1.set b o->B2=(B.set b o) \/ ∃ b2 pre2 m2 f2 ty2,pre2.all M7=true/\b2≠b/\B[b2]?=some (.arr pre2 k m2 f2 ty2)/\B2=(B.set b o).set b2 (.cells (O6 pre2 k m2 f2) 1 true ty2):=by
 have hg:=hget (o':=.cells (O6 pre k m f) 1 true ty) hb
 unfold C4l at h
 split at h
 ·rename_i b2 s2 n2
  split at h
  ·rename_i pre2 k2 m2 f2 ty2 hb2
   split at h
   ·rename_i hk
    subst hk
    simp only[sI,pI,bA,dQ] at h
    obtain⟨⟨h1,h2⟩,rfl,rfl⟩:=h
    have src:∀ (B1:Heap),B1[b2]?=some (.cells (O6 pre2 k2 m2 f2) 1 true ty2)->∀ q,q<=n2->A2b B1 1 q (.slice (some (b2,s2)) n2 n2)=some ((List.range q).map fun i=>.int k2 (f2 (s2-pre2.length+i))):=fun B1 hB1 q hq=>by
     simp only[A2b,ldN,hB1,Nat.mul_one]
     rw[if_pos (by rw[H7]; omega)]
     congr 1
     apply List.ext_getElem?
     intro i
     rw[tK,List.getElem?_map]
     split
     ·rename_i hi
      rw[dP]
      have:=A1d (pre:=pre2) (k:=k2) (f:=f2) (m:=m2) (i:=s2-pre2.length+i) (by omega)
      rw[show pre2.length+(s2-pre2.length+i)=s2+i by omega] at this
      rw[this]
      simp[hi]
     ·rename_i hi
      rw[gO (by simp; omega)]; rfl
    have hpl:pre2.all M7=true:=by
     simp only[VR] at hx; obtain⟨l,_,_,hl,_⟩:=hx
     exact(hs.obj b2 _ l hb2 hl).1
    by_cases e:b2=b
    ·subst e
     rw[hb] at hb2; cases hb2
     refine⟨B.set b2 _,.slice (some (b2,s2)) n2 n2,hs.hardA hb,by simp,fun _ _=>trivial,hg,G1o.1 hx,rfl,src _ hg,fun B2 hB2=>.inl (by rw[hB2,List.set_set])⟩
    ·have hb2':(B.set b (.cells (O6 pre k2 m f) 1 true ty))[b2]?=some (.arr pre2 k2 m2 f2 ty2):=by rw[gX (Ne.symm e)]; exact hb2
     refine⟨(B.set b _).set b2 _,.slice (some (b2,s2)) n2 n2,(hs.hardA hb).hardA hb2',by simp,fun _ _=>trivial,by rw[gX e]; exact hg,G1o.1 hx,rfl,src _ (hget hb2'),fun B2 hB2=>.inr ⟨b2,pre2,m2,f2,ty2,hpl,e,hb2,?_⟩⟩
     rw[hB2,List.set_comm _ _ e,List.set_set]
   ·cases h
  ·cases h
 ·split at h
  ·rename_i u hu
   split at h
   ·rename_i hk
    subst hk
    simp only[sI,pI,true_and] at h
    obtain⟨rfl,rfl⟩:=h
    have hy:VR Z (.str u) x':=by simp only[VR]; exact O3 hu hx
    refine⟨B.set b _,.str u,hs.hardA hb,by simp,fun _ _=>trivial,hg,hy,rfl,fun q hq=>?_,fun B2 hB2=>.inl (by rw[hB2,List.set_set])⟩
    simp only[A2b,if_true]
    congr 1
    apply List.ext_getElem?
    intro i
    rw[tK,List.getElem?_map]
    split
    ·rename_i hi
     simp only[bytesOf,List.getElem?_map]
     have hlt:i<u.length:=by omega
     simp[hi,gE hlt]
    ·rename_i hi
     rw[gO (by simp; omega)]; rfl
   ·cases h
  ·cases h
theorem B7g{ts:Array TypeId}{ty0:TypeId}{d x v:AV}{d' x':Value}{B':Heap}{D:List Nat}(hs:Sim A Z B w.heap)(hd:Dom Z B.length)(h:A7p P B ts d x=some (true,v,B',D))(hx:VR Z d d')(hy:VR Z x x'):Got P A Z B w (do pure (.value (<- Builtin.copy_ ts ty0 #[d',x']))) v B' D:=by
 unfold A7p at h
 split at h
 ·rename_i e b s n hu
  split at h
  ·rename_i pre k m f ty hsz hb
   split at h
   ·rename_i c n' g hsrc
    simp only[sI,pI,bA,dQ] at h
    obtain⟨⟨rfl,h1,h2⟩,rfl,rfl,rfl⟩:=h
    obtain⟨o,ho⟩:∃ o:AObj,o=.cells (X5 (O6 pre k m f) s ((List.range (min n' n)).map fun i=>.int k (g i))) 1 true ty:=⟨_,rfl⟩
    obtain⟨B1,y,q1,q2,_,q3,q4,q5,q6,q7⟩:=C1j (o:=o) hs hsrc hy hb
    obtain⟨t0,ht0,hut⟩:∃ t,ts[0]?=some t/\P.underlying t=some (.slice e):=by simpa[Option.bind_eq_some_iff] using hu
    have hcp:B7q P B1 ts (.slice (some (b,s)) n n) y=some (.int .i64 (min n' n:Nat),B1.set b o,[b]):=by
     simp only[B7q,ht0,hut,hsz,q5,q6 _ (Nat.min_le_left _ _),st,q3]
     rw[if_pos ⟨by rw[H7]; simp; omega,by rw[List.all_eq_true]; intro a ha; simp only[List.mem_map] at ha; obtain⟨_,_,rfl⟩:=ha; rfl⟩]
     simp[ho]
    have hpre:pre.all M7=true:=by
     simp only[VR] at hx; obtain⟨l,_,_,hl,_⟩:=hx
     exact(hs.obj b _ l hb hl).1
    have hbl:b<B.length:=(gS.1 hb).1
    have key:∀ (Z:Emb) (h:Array Obj) (l:Loc),OR Z h l o->OR Z h l (.arr pre k m (C9x f (s-pre.length) (min n' n) g) ty):=fun Z h l ho'=>by
     subst ho
     refine⟨hpre,OR.recell (by rw[Q4,H7,H7]) (fun i a' hi=>?_) ho'⟩
     rw[Y9,H7]
     simp only[List.length_map,List.length_range]
     rcases A9c hi with⟨p1,p2⟩ | ⟨p1,p2,rfl⟩
     ·rw[if_neg (by omega),O6,gL p1]
      exact⟨a',p2,fun _ h=>h⟩
     ·by_cases e:s<=i/\i<s+min n' n
      ·rw[if_pos ⟨e.1,e.2,by omega⟩]
       refine⟨.int k (g (i-s)),by rw[List.getElem?_map,List.getElem?_range (by omega)]; rfl,fun v hv=>?_⟩
       simp only[VR,C9x] at hv ⊢
       rw[dT (show s-pre.length<=i-pre.length by omega),dT (show i-pre.length<s-pre.length+min n' n by omega)]
       simp only[Bool.and_self,cond_true]
       rw[hv,show i-pre.length-(s-pre.length)=i-s by omega]
      ·rw[if_neg (by omega)]
       have:=A1d (pre:=pre) (k:=k) (f:=f) p2
       rw[show pre.length+(i-pre.length)=i by omega] at this
       refine⟨_,this,fun v hv=>?_⟩
       simp only[VR,C9x] at hv ⊢
       have:(decide (s-pre.length<=i-pre.length)&&decide (i-pre.length<s-pre.length+min n' n))=false:=by
        rw[Bool.and_eq_false_iff]
        by_cases h:s<=i
        ·right; exact dF (by omega)
        ·left; exact dF (by omega)
       rw[this]
       exact hv
    have hcopy:=(B4j (P:=P) (ty:=ty0) q1 (by rw[q2]; exact hd) hcp (G1o.1 hx) q4).val (a':=.sint .i64 (min n' n:Nat)) (fun _ _ h=>by simpa only[VR] using h)
    have hB1b:(B1.set b o)[b]?=some o:=by rw[List.getElem?_set_self (by omega)]
    have hown:o.own=true/\o.live=true:=by subst ho; exact⟨rfl,rfl⟩
    rcases q7 _ rfl with e | ⟨b2,pre2,m2,f2,ty2,hpl,hne,hb2,e⟩
    ·rw[e] at hcopy hB1b
     exact hcopy.re q2 hB1b (by rw[List.set_set]) hown.1 hown.2 key
    ·have r1:=hcopy.re (B':=(B1.set b o).set b (.arr pre k m (C9x f (s-pre.length) (min n' n) g) ty)) (B:=B1) rfl hB1b rfl hown.1 hown.2 key
     rw[e] at r1
     have hlen2:b2<B.length:=(gS.1 hb2).1
     refine r1.re (b:=b2) (o:=.cells (O6 pre2 k m2 f2) 1 true ty2) (o':=.arr pre2 k m2 f2 ty2) q2 ?_ ?_ rfl rfl fun Z h l ho'=>?_
     ·rw[gX (Ne.symm hne),List.getElem?_set_self (by simpa using hlen2)]
     ·apply List.ext_getElem?
      intro j
      by_cases e2:j=b2
      ·subst e2
       rw[gX (Ne.symm hne),List.getElem?_set_self (by simpa using hlen2)]; exact hb2
      ·rw[gX (Ne.symm e2)]
       by_cases e3:j=b
       ·subst e3
        rw[List.getElem?_set_self hbl,List.getElem?_set_self (by simpa using hbl)]
       ·rw[gX (Ne.symm e3),gX (Ne.symm e3),gX (Ne.symm e2),gX (Ne.symm e3)]
     ·exact⟨hpl,ho'⟩
   ·cases h
  ·cases h
 ·cases h
end
end Go.Ad
