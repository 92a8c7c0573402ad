/- Rows of numbers: indices, stretches, copies, new rows, bytes as a text; and all operations on lists. -/
import Derived.Test.YtoboneiigikidaaGreatDoorAdOpsA
namespace Go.Ad
section
variable {P:Program} {A:Amb} {ι:Emb} {B:Heap} {w:World}
theorem F8y {b s n:Nat} {x:Value}:VR ι (.aslc b s n) x ↔ VR ι (.slice (some (b,s)) n n) x:=by simp only [VR]
theorem Got.val {s:Sem Next} {a a':AV} {B':Heap} {D:List Nat} (h:Got P A ι B w s a B' D) (ha:∀ ι x,VR ι a x->VR ι a' x):Got P A ι B w s a' B' D:=by
 obtain ⟨ι',v',nx,w',g1,g2,g3,g4,g5⟩:=h
 exact ⟨ι',v',nx,w',g1,g2,g3,ha _ _ g4,g5⟩
theorem B4u (hs:Sim A ι B w.heap) {t:TypeId} {x i v:AV} {x' i':Value} (h:A1j P B t x i=some (true,v)) (hx:VR ι x x') (hi:VR ι i i'):Pure P w ι (Instr.indexAt t x' i') v:=by
 unfold A1j at h
 split at h
 ·rename_i n e b o k ix hu hsn
  split at h
  ·rename_i pre k m f ty hb
   split at h
   ·rename_i hc
    obtain ⟨hsz,rfl⟩:=hc
    simp only [sI,pI,decide_eq_true_eq] at h
    obtain ⟨hin,rfl⟩:=h
    obtain ⟨kk,hkk⟩:∃ kk,M3 i=some (kk,ix):=⟨_,hsn⟩
    have hi2:VR ι (.int kk ix) i':=by simp only [VR]; exact J8 hkk hi
    obtain ⟨y,p1,p2⟩:=Q7 (P:=P) (w:=w) (t:=t) (v:=.ptr (some (b,pre.length+ix.toNat*1))) (by simp only [P7,hu,hsz,if_pos hin]) hx hi2
    refine ⟨y,p1,?_⟩
    simp only [VR] at p2 ⊢
    obtain ⟨l,hl,rfl⟩:=p2
    obtain ⟨_,hes,_⟩:=hs.obj b _ l hb hl
    exact ⟨l,hl,by rw [hes,Nat.add_comm pre.length]⟩
   ·cases h
  ·cases h
 ·rename_i e b s n k ix hu hsn
  split at h
  ·rename_i pre k m f ty hb
   split at h
   ·rename_i hsz
    simp only [sI,pI,Bool.and_eq_true,decide_eq_true_eq] at h
    obtain ⟨⟨hin,hps⟩,rfl⟩:=h
    obtain ⟨kk,hkk⟩:∃ kk,M3 i=some (kk,ix):=⟨_,hsn⟩
    have hi2:VR ι (.int kk ix) i':=by simp only [VR]; exact J8 hkk hi
    obtain ⟨y,p1,p2⟩:=Q7 (P:=P) (w:=w) (t:=t) (v:=.ptr (some (b,s+ix.toNat*1))) (by simp only [P7,hu,hsz,if_pos hin]) (F8y.1 hx) hi2
    refine ⟨y,p1,?_⟩
    simp only [VR] at p2 ⊢
    obtain ⟨l,hl,rfl⟩:=p2
    obtain ⟨_,hes,_⟩:=hs.obj b _ l hb hl
    exact ⟨l,hl,by rw [hes]; simp only [Nat.mul_one]; congr 4; omega⟩
   ·cases h
  ·cases h
 ·cases h
theorem A1c {y:Nat} {a:AV} {n:Nat} (h:A8f y a=some (true,n)):A3e y (cnI a)=some n:=by
 cases a <;> simp [A8f] at h <;> simp [A3e,cnI,h.1,h.2]
theorem A0i {len:Nat} {lo hi:Option AV} {l h:Nat} (hs:A1d len lo hi=some (true,l,h)):Z4 len len (lo.map cnI) (hi.map cnI) none=some (l,h,len):=by
 unfold A1d at hs
 split at hs
 ·rename_i c h' hh
  split at hs
  ·rename_i c' l' hl
   simp only [sI,pI,Bool.and_eq_true] at hs
   obtain ⟨⟨rfl,rfl⟩,rfl,rfl⟩:=hs
   cases hi with
   | none =>
    simp only [sI,pI,true_and] at hh
    subst hh
    cases lo with
    | none=>simp at hl; simp [Z4,hl]
    | some a=>simp [Z4,A1c hl]
   | some c =>
    cases lo with
    | none=>simp at hl; simp [Z4,A1c hh,hl]
    | some a=>simp [Z4,A1c hh,A1c hl]
  ·cases hs
 ·cases hs
theorem F1l {a:AV} {x:Value} (h:VR ι a x):VR ι (Go.Ad.cnI a) x:=by
 cases a <;> simp only [Go.Ad.cnI] <;> first | exact h | (simp only [VR] at h ⊢; first | exact h | exact h.1)
theorem VRo.cnI {o:Option AV} {o':Option Value} (h:VRo ι o o'):VRo ι (o.map Go.Ad.cnI) o':=by
 cases o <;> cases o' <;> simp only [VRo,Option.map_none,Option.map_some] at h ⊢
 exact F1l h
theorem B4v (hs:Sim A ι B w.heap) {t:TypeId} {x v:AV} {x':Value} {lo hi:Option AV} {lo' hi':Option Value} (h:A4y P B t x lo hi=some (true,v)) (hx:VR ι x x') (h1:VRo ι lo lo') (h2:VRo ι hi hi') :
  Pure P w ι (Instr.sliceAt t x' lo' hi' none) v:=by
 unfold A4y at h
 split at h
 ·rename_i n e b o hu
  split at h
  ·rename_i pre k m f ty hb
   have hg:=hget (o':=.cells (O1 pre k m f) 1 true ty) hb
   split at h
   ·rename_i hc
    split at h
    ·rename_i c l hh hbd
     simp only [sI,pI] at h
     obtain ⟨rfl,rfl⟩:=h
     have hab:=A0i hbd
     obtain ⟨y,p1,p2⟩:=A0t (P:=P) (w:=w) (t:=t) (v:=.slice (some (b,o+l*1)) (hh - l) (n - l)) (hs.hardA hb) (by
      simp only [A1m,hu,hc.1,hab,hg]
      rw [if_pos ⟨by simp,by rw [G9]; omega⟩]) hx h1.cnI h2.cnI (mx:=none) (mx':=none) trivial
     refine ⟨y,p1,?_⟩
     simp only [VR] at p2 ⊢
     obtain ⟨l1,cap,off,q1,q2,q3,q4,q5,q6,rfl⟩:=p2
     obtain ⟨M',r1,r2,r3,_⟩:=O7 (P:=P) (w:=w) (sl:=false) hab (Nat.le_refl _) (Nat.le_refl _) h1.cnI h2.cnI (mx:=none) (mx':=none) trivial
     exact ⟨l1,cap,off,q1,Nat.le_refl _,by omega,by rcases q4 with q4 | q4 <;> omega,q5,q6,rfl⟩
    ·cases h
   ·cases h
  ·cases h
 ·rename_i e b s n hu
  split at h
  ·rename_i pre k m f ty c l hh hb hbd
   have hg:=hget (o':=.cells (O1 pre k m f) 1 true ty) hb
   split at h
   ·rename_i hsz
    simp only [sI,pI] at h
    obtain ⟨rfl,rfl⟩:=h
    have hab:=A0i hbd
    obtain ⟨y,p1,p2⟩:=A0t (P:=P) (w:=w) (t:=t) (v:=.slice (some (b,s+l*1)) (hh - l) (n - l)) (hs.hardA hb) (by
     simp only [A1m,hu,hsz,hab,hg]
     rw [if_pos (by simp)]) (F8y.1 hx) h1.cnI h2.cnI (mx:=none) (mx':=none) trivial
    refine ⟨y,p1,?_⟩
    simp only [VR] at p2 ⊢
    obtain ⟨l1,cap,off,q1,q2,q3,q4,q5,q6,rfl⟩:=p2
    obtain ⟨M',r1,r2,r3,_⟩:=O7 (P:=P) (w:=w) (sl:=false) hab (Nat.le_refl _) (Nat.le_refl _) h1.cnI h2.cnI (mx:=none) (mx':=none) trivial
    exact ⟨l1,cap,off,q1,Nat.le_refl _,by omega,by rcases q4 with q4 | q4 <;> omega,q5,q6,rfl⟩
   ·cases h
  ·cases h
 ·cases h
theorem C0k (hs:Sim A ι B w.heap) {k:IntKind} {x:AV} {x':Value} {n:Nat} {g:Nat->Int} (h:C3l B k x=some (true,n,g)) (hx:VR ι x x') {b:Nat} {o:AObj} {pre:List AV} {m:Nat} {f:Nat->Int} {ty:TypeId}
  (hb:B[b]?=some (.arr pre k m f ty)) :
  ∃ (B1:Heap) (y:AV),Sim A ι B1 w.heap/\B1.length=B.length/\(∀ j:Nat,j ≠ b->True)/\B1[b]?=some (.cells (O1 pre k m f) 1 true ty)/\VR ι y x'/\A9s y=some n /\
   (∀ q,q<=n->A1n B1 1 q y=some ((List.range q).map fun i=>.int k (g i)))/\∀ B2,B2=B1.set b o->B2=(B.set b o) \/ ∃ b2 pre2 m2 f2 ty2,pre2.all N7=true/\b2 ≠ b/\B[b2]?=some (.arr pre2 k m2 f2 ty2)/\B2=(B.set b o).set b2 (.cells (O1 pre2 k m2 f2) 1 true ty2):=by
 have hg:=hget (o':=.cells (O1 pre k m f) 1 true ty) hb
 unfold C3l at h
 split at h
 ·rename_i b2 s2 n2
  split at h
  ·rename_i pre2 k2 m2 f2 ty2 hb2
   split at h
   ·rename_i hk
    subst hk
    simp only [sI,pI,Bool.and_eq_true,decide_eq_true_eq] at h
    obtain ⟨⟨h1,h2⟩,rfl,rfl⟩:=h
    have src:∀ (B1:Heap),B1[b2]?=some (.cells (O1 pre2 k2 m2 f2) 1 true ty2)->∀ q,q<=n2->A1n B1 1 q (.slice (some (b2,s2)) n2 n2)=some ((List.range q).map fun i=>.int k2 (f2 (s2 - pre2.length+i))):=fun B1 hB1 q hq=>by
     simp only [A1n,ldN,hB1,Nat.mul_one]
     rw [if_pos (by rw [G9]; omega)]
     congr 1
     apply List.ext_getElem?
     intro i
     rw [List.getElem?_take,List.getElem?_map]
     split
     ·rename_i hi
      rw [List.getElem?_drop]
      have:=A0s (pre:=pre2) (k:=k2) (f:=f2) (m:=m2) (i:=s2 - pre2.length+i) (by omega)
      rw [show pre2.length+(s2 - pre2.length+i)=s2+i by omega] at this
      rw [this]
      simp [hi]
     ·rename_i hi
      rw [List.getElem?_eq_none (by simp; omega)]; rfl
    have hpl:pre2.all N7=true:=by
     simp only [VR] at hx; obtain ⟨l,_,_,hl,_⟩:=hx
     exact (hs.obj b2 _ l hb2 hl).1
    by_cases e:b2=b
    ·subst e
     rw [hb] at hb2; cases hb2
     refine ⟨B.set b2 _,.slice (some (b2,s2)) n2 n2,hs.hardA hb,by simp,fun _ _=>trivial,hg,F8y.1 hx,rfl,src _ hg,fun B2 hB2=>.inl (by rw [hB2,List.set_set])⟩
    ·have hb2':(B.set b (.cells (O1 pre k2 m f) 1 true ty))[b2]?=some (.arr pre2 k2 m2 f2 ty2):=by rw [List.getElem?_set_ne (Ne.symm e)]; exact hb2
     refine ⟨(B.set b _).set b2 _,.slice (some (b2,s2)) n2 n2,(hs.hardA hb).hardA hb2',by simp,fun _ _=>trivial,by rw [List.getElem?_set_ne e]; exact hg,F8y.1 hx,rfl,src _ (hget hb2'),fun B2 hB2=>.inr ⟨b2,pre2,m2,f2,ty2,hpl,e,hb2,?_⟩⟩
     rw [hB2,List.set_comm _ _ e,List.set_set]
   ·cases h
  ·cases h
 ·split at h
  ·rename_i u hu
   split at h
   ·rename_i hk
    subst hk
    simp only [sI,pI,true_and] at h
    obtain ⟨rfl,rfl⟩:=h
    have hy:VR ι (.str u) x':=by simp only [VR]; exact N8 hu hx
    refine ⟨B.set b _,.str u,hs.hardA hb,by simp,fun _ _=>trivial,hg,hy,rfl,fun q hq=>?_,fun B2 hB2=>.inl (by rw [hB2,List.set_set])⟩
    simp only [A1n,if_true]
    congr 1
    apply List.ext_getElem?
    intro i
    rw [List.getElem?_take,List.getElem?_map]
    split
    ·rename_i hi
     simp only [bytesOf,List.getElem?_map]
     have hlt:i < u.length:=by omega
     simp [hi,List.getD_eq_getElem?_getD,List.getElem?_eq_getElem hlt]
    ·rename_i hi
     rw [List.getElem?_eq_none (by simp; omega)]; rfl
   ·cases h
  ·cases h
theorem B6j {ts:Array TypeId} {ty0:TypeId} {d x v:AV} {d' x':Value} {B':Heap} {D:List Nat} (hs:Sim A ι B w.heap) (hd:Dom ι B.length) (h:A7a P B ts d x=some (true,v,B',D))
  (hx:VR ι d d') (hy:VR ι x x'):Got P A ι B w (do pure (.value (<- Builtin.copy_ ts ty0 #[d',x']))) v B' D:=by
 unfold A7a at h
 split at h
 ·rename_i e b s n hu
  split at h
  ·rename_i pre k m f ty hsz hb
   split at h
   ·rename_i c n' g hsrc
    simp only [sI,pI,Bool.and_eq_true,decide_eq_true_eq] at h
    obtain ⟨⟨rfl,h1,h2⟩,rfl,rfl,rfl⟩:=h
    obtain ⟨o,ho⟩:∃ o:AObj,o=.cells (Y2 (O1 pre k m f) s ((List.range (min n' n)).map fun i=>.int k (g i))) 1 true ty:=⟨_,rfl⟩
    obtain ⟨B1,y,q1,q2,_,q3,q4,q5,q6,q7⟩:=C0k (o:=o) hs hsrc hy hb
    obtain ⟨t0,ht0,hut⟩:∃ t,ts[0]?=some t/\P.underlying t=some (.slice e):=by simpa [Option.bind_eq_some_iff] using hu
    have hcp:B6t P B1 ts (.slice (some (b,s)) n n) y=some (.int .i64 (min n' n:Nat),B1.set b o,[b]):=by
     simp only [B6t,ht0,hut,hsz,q5,q6 _ (Nat.min_le_left _ _),st,q3]
     rw [if_pos ⟨by rw [G9]; simp; omega,by rw [List.all_eq_true]; intro a ha; simp only [List.mem_map] at ha; obtain ⟨_,_,rfl⟩:=ha; rfl⟩]
     simp [ho]
    have hpre:pre.all N7=true:=by
     simp only [VR] at hx; obtain ⟨l,_,_,hl,_⟩:=hx
     exact (hs.obj b _ l hb hl).1
    have hbl:b < B.length:=(List.getElem?_eq_some_iff.1 hb).1
    have key:∀ (ι:Emb) (h:Array Obj) (l:Loc),OR ι h l o->OR ι h l (.arr pre k m (C8x f (s - pre.length) (min n' n) g) ty):=fun ι h l ho'=>by
     subst ho
     refine ⟨hpre,OR.recell (by rw [U2,G9,G9]) (fun i a' hi=>?_) ho'⟩
     rw [A0f,G9]
     simp only [List.length_map,List.length_range]
     rcases A8n hi with ⟨p1,p2⟩ | ⟨p1,p2,rfl⟩
     ·rw [if_neg (by omega),O1,List.getElem?_append_left p1]
      exact ⟨a',p2,fun _ h=>h⟩
     ·by_cases e:s<=i/\i < s+min n' n
      ·rw [if_pos ⟨e.1,e.2,by omega⟩]
       refine ⟨.int k (g (i - s)),by rw [List.getElem?_map,List.getElem?_range (by omega)]; rfl,fun v hv=>?_⟩
       simp only [VR,C8x] at hv ⊢
       rw [dT (show s - pre.length<=i - pre.length by omega),dT (show i - pre.length < s - pre.length+min n' n by omega)]
       simp only [Bool.and_self,cond_true]
       rw [hv,show i - pre.length - (s - pre.length)=i - s by omega]
      ·rw [if_neg (by omega)]
       have:=A0s (pre:=pre) (k:=k) (f:=f) p2
       rw [show pre.length+(i - pre.length)=i by omega] at this
       refine ⟨_,this,fun v hv=>?_⟩
       simp only [VR,C8x] at hv ⊢
       have:(decide (s - pre.length<=i - pre.length) && decide (i - pre.length < s - pre.length+min n' n))=false:=by
        rw [Bool.and_eq_false_iff]
        by_cases h:s<=i
        ·right; exact dF (by omega)
        ·left; exact dF (by omega)
       rw [this]
       exact hv
    have hcopy:=(B3s (P:=P) (ty:=ty0) q1 (by rw [q2]; exact hd) hcp (F8y.1 hx) q4).val (a':=.sint .i64 (min n' n:Nat)) (fun _ _ h=>by simpa only [VR] using h)
    have hB1b:(B1.set b o)[b]?=some o:=by rw [List.getElem?_set_self (by omega)]
    have hown:o.own=true/\o.live=true:=by subst ho; exact ⟨rfl,rfl⟩
    rcases q7 _ rfl with e | ⟨b2,pre2,m2,f2,ty2,hpl,hne,hb2,e⟩
    ·rw [e] at hcopy hB1b
     exact hcopy.re q2 hB1b (by rw [List.set_set]) hown.1 hown.2 key
    ·have r1:=hcopy.re (B':=(B1.set b o).set b (.arr pre k m (C8x f (s - pre.length) (min n' n) g) ty)) (B:=B1) rfl hB1b rfl hown.1 hown.2 key
     rw [e] at r1
     have hlen2:b2 < B.length:=(List.getElem?_eq_some_iff.1 hb2).1
     refine r1.re (b:=b2) (o:=.cells (O1 pre2 k m2 f2) 1 true ty2) (o':=.arr pre2 k m2 f2 ty2) q2 ?_ ?_ rfl rfl fun ι h l ho'=>?_
     ·rw [List.getElem?_set_ne (Ne.symm hne),List.getElem?_set_self (by simpa using hlen2)]
     ·apply List.ext_getElem?
      intro j
      by_cases e2:j=b2
      ·subst e2
       rw [List.getElem?_set_ne (Ne.symm hne),List.getElem?_set_self (by simpa using hlen2)]; exact hb2
      ·rw [List.getElem?_set_ne (Ne.symm e2)]
       by_cases e3:j=b
       ·subst e3
        rw [List.getElem?_set_self hbl,List.getElem?_set_self (by simpa using hbl)]
       ·rw [List.getElem?_set_ne (Ne.symm e3),List.getElem?_set_ne (Ne.symm e3),List.getElem?_set_ne (Ne.symm e2),List.getElem?_set_ne (Ne.symm e3)]
     ·exact ⟨hpl,ho'⟩
   ·cases h
  ·cases h
 ·cases h
end
end Go.Ad
