/- Rows of numbers that are known by their place alone: the operations on them stand for the model's. -/
import Derived.Test.YtoboneiigikidaaGreatDoorAdOpsV
namespace Go.Ad
section
variable {P:Program} {A:Amb} {Z:Emb} {B:Heap} {w:World}
variable {pre:List AV} {k:IntKind} {m:Nat} {f:Nat->Int}
theorem A0s:(A3i pre k m f).length=pre.length+m:=by simp[A3i]
theorem A5e{i:Nat}(h:i<m):(A3i pre k m f)[pre.length+i]?=some (.int k (f i)):=by
 rw[A3i,gR (by omega)]; simp[h]
theorem E2j{i:Nat}{a:AV}(h:(A3i pre k m f)[i]?=some a):(i<pre.length/\pre[i]?=some a) \/ (pre.length<=i/\i-pre.length<m/\a=.int k (f (i-pre.length))):=by
 have hlt:i<pre.length+m:=by have:=(gS.1 h).1; rwa [A0s] at this
 by_cases hp:i<pre.length
 ·rw[A3i,gL hp] at h; exact .inl ⟨hp,h⟩
 ·right
  have e:i=pre.length+(i-pre.length):=by omega
  rw[e,A5e (by omega)] at h
  cases h
  exact⟨by omega,by omega,by simp⟩
theorem Sim.hardA(hs:Sim A Z B w.heap){b:Nat}{ty:TypeId}(hb:B[b]?=some (.arr pre k m f ty)):Sim A Z (B.set b (.cells (A3i pre k m f) 1 true ty)) w.heap :=
 hs.swap hb (fun _=>rfl) (fun _=>rfl) fun _ _ h=>h.hardA
theorem Got.re{s:Sem Next}{v:AV}{B1 B2 B':Heap}{D:List Nat}{b:Nat}{o o':AObj}(hg:Got P A Z B1 w s v B2 D)(hl:B1.length=B.length)(hb:B2[b]?=some o)(e:B'=B2.set b o')(h1:o.own=true)(h2:o.live=true)(ho:∀ (Z:Emb) (h:Array Obj) (l:Loc),OR Z h l o->OR Z h l o'):Got P A Z B w s v B' D:=by
 obtain⟨Z',v',nx,w',g1,g2,g3,g4,g5,g6,g7⟩:=hg
 subst e
 refine⟨Z',v',nx,w',g1,g2,?_,g4,g5.swap hb (fun _=>h1) (fun _=>h2) fun l _=>ho _ _ l,?_,?_⟩
 ·rw[List.length_set,<- hl]; exact g3
 ·rw[List.length_set,<- hl]; exact g6
 ·rw[List.length_set]; exact g7
theorem F1r(hs:Sim A Z B w.heap){b i j:Nat}{ty:TypeId}{x:Value}(hb:B[b]?=some (.arr pre k m f ty))(hx:VR Z (.sptr b i j) x):VR Z (.ptr (some (b,j+i))) x:=by
 simp only[VR] at hx ⊢
 obtain⟨l,hl,rfl⟩:=hx
 obtain⟨_,hes,_⟩:=hs.obj b _ l hb hl
 exact⟨l,hl,by rw[hes,Nat.mul_one,Nat.add_comm i j]⟩
theorem hget{b:Nat}{o o':AObj}(hb:B[b]?=some o):(B.set b o')[b]?=some o':=by
 rw[List.getElem?_set_self (gS.1 hb).1]
theorem E4n{xs:List Value}(h:VRL Z (A3i pre k m f) xs):VRL Z (pre++(List.range m).map fun i=>.sint k (f i)) xs:=by
 refine VRL.of_get (by rw[h.length]; simp[A3i]) fun i x hi=>?_
 rw[List.getElem?_append] at hi
 split at hi
 ·rename_i hlt
  exact h.get (by rw[A3i,gL hlt]; exact hi)
 ·rename_i hlt
  simp only[List.getElem?_map,oM] at hi
  obtain⟨j,hj,rfl⟩:=hi
  have hj2:=gS.1 hj
  obtain⟨hjl,hje⟩:=hj2
  simp only[List.length_range] at hjl
  simp only[List.getElem_range] at hje
  subst hje
  obtain⟨y,h1,h2⟩:=h.get (A5e (pre:=pre) (k:=k) (f:=f) hjl)
  rw[show pre.length+(i-pre.length)=i by omega] at h1
  exact⟨y,h1,by simpa only[VR] using h2⟩
theorem B6w(hs:Sim A Z B w.heap){t:TypeId}{a v:AV}{x:Value}(h:Y5 P B t a=some (true,v))(hx:VR Z a x):Pure P w Z (Instr.loadAt t x) v:=by
 unfold Y5 at h
 split at h
 ·rename_i b o
  split at h
  ·rename_i d pre k m f ty hu hb
   have hg:=hget (o':=.cells (A3i pre k m f) 1 true ty) hb
   split at h
   ·rename_i hag
    split at h
    ·rename_i n hn
     split at h
     ·rename_i hc
      obtain⟨rfl,rfl⟩:=hc
      simp only[sI,pI,true_and] at h
      subst h
      obtain⟨y,p1,p2⟩:=Y7 (P:=P) (t:=t) (v:=.agg (A3i pre k m f)) (hs.hardA hb) (by
       simp only[A2m,hu,if_pos hag,hn,Option.bind_some,ldN,hg]
       rw[if_pos (by rw[A0s]; omega)]
       simp only[List.drop_zero,oS]
       rw[List.take_of_length_le (by rw[A0s]; omega)]) hx
      refine⟨y,p1,?_⟩
      simp only[VR] at p2 ⊢
      obtain⟨xs,rfl,p3⟩:=p2
      exact⟨xs,rfl,E4n p3⟩
     ·cases h
    ·cases h
   ·rename_i hag
    split at h
    ·rename_i v' hv
     simp only[sI,pI,true_and] at h
     subst h
     refine Y7 (hs.hardA hb) ?_ hx
     simp only[A2m,hu,if_neg hag,ld1,hg]
     rw[A3i,gL (gS.1 hv).1]; exact hv
    ·rename_i hv
     simp only[sI,pI,dQ] at h
     obtain⟨hlt,rfl⟩:=h
     have hle:pre.length<=o:=List.getElem?_eq_none_iff.1 hv
     obtain⟨y,p1,p2⟩:=Y7 (P:=P) (t:=t) (v:=.int k (f (o-pre.length))) (hs.hardA hb) (by
      simp only[A2m,hu,if_neg hag,ld1,hg]
      have:=A5e (pre:=pre) (k:=k) (f:=f) hlt
      rwa [show pre.length+(o-pre.length)=o by omega] at this) hx
     exact⟨y,p1,by simpa only[VR] using p2⟩
  ·cases h
 ·rename_i b i j
  split at h
  ·rename_i d pre k m f ty hu hb
   have hg:=hget (o':=.cells (A3i pre k m f) 1 true ty) hb
   split at h
   ·cases h
   ·rename_i hag
    split at h
    ·rename_i hj
     subst hj
     simp only[sI,pI,dQ] at h
     obtain⟨hlt,rfl⟩:=h
     obtain⟨y,p1,p2⟩:=Y7 (P:=P) (t:=t) (v:=.int k (f i)) (hs.hardA hb) (by
      simp only[A2m,hu,if_neg hag,ld1,hg]
      exact A5e hlt) (F1r hs hb hx)
     exact⟨y,p1,by simpa only[VR] using p2⟩
    ·cases h
  ·cases h
 ·cases h
end
end Go.Ad
