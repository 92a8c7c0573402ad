/- Drawings: what a feature needs, as a new list. -/
import Derived.Test.YtoboneiigikidaaGreatDoorFo
import Derived.Test.YtoboneiigikidaaGreatDoorAdFind
import Derived.Test.YtoboneiigikidaaGreatDoorShelf
import Derived.Test.YtoboneiigikidaaGreatDoorAdPrim
import Derived.Lib.Bytealg
noncomputable section
namespace Go.Proofs.Tryz
open Go.Ad
def spR2:SP:=⟨dr 4++[.list 8]++dr 21,dd8++[.vec 1 9]⟩
theorem G5f (k:Nat) (d:Drw) (V v:List Txt):F3 prog (D5 prog (pSo k) 60) A7z r10 (ρN d V v (.tuple [.bool false]) false) (BL d V v) (H9 (fun _=>spR2) 8 []) =
  brK (D8 (v.length=v.length/\C9 v=C9 (P9 v.length (C9 v))/\(9:Nat)=9/\v.length < 4611686018427387904)) (brK (D8 (v.length=(R7 (P9 v.length (C9 v))).length/\C9 (R7 (P9 v.length (C9 v)))=C9 (P9 v.length (C9 (R7 (P9 v.length (C9 v)))))/\(9:Nat)=9/\v.length < 4611686018427387904))
   (some (.ret,[.n (Lib.compact (P9 v.length (C9 (R7 (P9 v.length (C9 v)))))).length,.n (Lib.compact (P9 v.length (C9 (R7 (P9 v.length (C9 v)))))).length,.r (C9 (Lib.compact (P9 v.length (C9 (R7 (P9 v.length (C9 v)))))))])) none) none:=by kernel_rfl
theorem G8f:okD 8 [] 0 spR2.h=true:=by kernel_rfl
theorem F4s {A:Amb} {k:Nat} (hp:PrimOK prog A (pSo k)) (d:Drw) (V v:List Txt) (hv:v.length < 4611686018427387904) (L:List Txt) (hL:Go.Ad.setF v=L) {D:List Nat} (hD:∀ b,b ∈ D->8<=b) :
  SEB prog A (Bg 8) r10 ⟨ρN d V v (.tuple [.bool false]) false,BL d V v,D⟩ .ret ⟨spR2.rho [.n L.length,.n L.length,.r (C9 L)],spR2.heap [.n L.length,.n L.length,.r (C9 L)],[]⟩:=by
 have hk:=G5f k d V v
 rw [A1t] at hk
 have e:P9 v.length (C9 (R7 v))=R7 v:=by
  have:=A1t (R7 v)
  rw [A3a] at this
  exact this
 rw [e,D6 ⟨rfl,rfl,rfl,hv⟩,D6 ⟨(A3a v).symm,rfl,rfl,hv⟩,show Lib.compact (R7 v)=Go.Ad.setF v from A6o v,hL] at hk
 refine SEB.wk_in (Wk.dset (D2:=[]) fun b hb hlt=>?_) (SEB.of_KP (e:=.ret) (sp:=fun _=>spR2) (B0:=Bg 8) (ds:=[]) F7 F8 hp (.none _) rfl hk G8f)
 have:=hD b hb
 have h8:(Bg 8).length=8:=rfl
 omega
theorem G1v {A:Amb} {k:Nat} (hp:PrimOK prog A (pSo k)) {d:Drw} {s:Txt} (h1:GrD d) (h2:s ∈ H7 d) (h3:d.l.length < k) (hlen:(dfs (nbO d) (k - 1) [] s).length < 1000000) :
  SEB prog A (Bg 8) A0k ⟨[.agg d.av,.sstr s]++List.replicate 24 G6,Bg 8,[]⟩ .ret ⟨spR2.rho [.n (Go.Ad.setF (dfs (nbO d) (k - 1) [] s)).length,.n (Go.Ad.setF (dfs (nbO d) (k - 1) [] s)).length,.r (C9 (Go.Ad.setF (dfs (nbO d) (k - 1) [] s)))],spR2.heap [.n (Go.Ad.setF (dfs (nbO d) (k - 1) [] s)).length,.n (Go.Ad.setF (dfs (nbO d) (k - 1) [] s)).length,.r (C9 (Go.Ad.setF (dfs (nbO d) (k - 1) [] s)))],[]⟩:=by
 have hc:E94 k (A9 d) s [] (A94 s) (H94 d []):=by
  refine ⟨⟨?_,?_,?_⟩,rfl,?_⟩
  ·rw [E8]; exact h1
  ·rw [E8]; exact h2
  ·rw [E8]
   unfold left
   have:=List.length_filter_le (fun x=>decide (x ∉ ([]:List Txt))) (H7 d)
   have h4:(H7 d).length=d.l.length:=by unfold H7; rw [List.length_map]
   omega
  ·rw [E8]
 have hk4:=rn4 k d s
 rw [D6 hc,E8] at hk4
 generalize dfs (nbO d) (k - 1) [] s=V at hk4 hlen ⊢
 rw [C1f]
 refine SEB.seq (SEB.of_K F7 F8 hp (.none _) (rn0 k d s)) (SEB.seq (SEB.of_K F7 F8 hp (.none _) (rn1 k d s)) (SEB.seq (SEB.of_K F7 F8 hp (.none _) (rn2 k d s)) (SEB.seq (SEB.of_K F7 F8 hp (.none _) (rn3 k d s)) (SEB.seq (SEB.of_K F7 F8 hp (.none _) hk4) (SEB.seq (SEB.of_K F7 F8 hp (.none _) (rn5 k d V)) ?_)))))
 have hx:=SEBx.rangeSet (A:=A) (B0:=Bg 8) (prims:=pSo k) (n:=60) F7 F8 hp (ρ0:=ρ6 d V) (ρ1:=Q8 (ρ6 d V) (some 14) (.map (some 9))) (Bs:=B6 d V) (B1:=B6 d V) (D0:=((((([]++[])++[10])++[])++[11])++[9])++[]) (D1:=[]) (mb:=9) (it:=15) (tn:=16) (te:=18) (tok:=17) (mt:=14) (i1:=6) (i2:=7) (i3:=8) (id0:=0) (id1:=1)
  (ops1:=o6) (ops2:=o7) (ops3:=o8) (c4:=c9) (l:=V) (l1:=o6.toList.dropLast) (o1:=F8f (A9b m6)) (ty:=130) (kt:=9) (et:=4) (ρ:=fun v=>ρL d V v) (Bv:=fun v=>BL d V v) (ρn:=fun v=>ρN d V v (.tuple [.bool true,.bad,.bad]) true) (ρe:=fun v=>ρN d V v (.tuple [.bool false]) false)
  (by kernel_rfl) (by kernel_rfl) (by kernel_rfl) (by kernel_rfl) (by kernel_rfl) (q6 k d V) rfl rfl
  ((Wk.of_nrmP (sp:=fun _=>sL) (ds:=[]) (m:=13) (B4c d V) (q6s d V) okL).trans (Wk.rowsQ (A:=A) (B0:=B6 d V++[.miter]) (ρ:=sL.rho (lfL d V 0 fun _=>[])) (D:=[]) (B:=sL.heap (lfL d V 0 fun _=>[])) (b:=13) (r':=C9 []) (ty:=9) rfl (fun h=>by rw [B4c] at h; omega) (fun i hi=>(Nat.not_lt_zero i hi).elim)))
  (fun _=>rfl) (fun _=>rfl) (o2:=D8t (A9b l6)) (by kernel_rfl) (by kernel_rfl) (by kernel_rfl) (by kernel_rfl) (fun v=>q7t k d V v) (fun v=>q7f k d V v) (fun _=>rfl) (fun _=>rfl) (fun _=>rfl)
  (o3:=D8t (A9b b8)) (by kernel_rfl) (by kernel_rfl) (by kernel_rfl) (by kernel_rfl) (fun v x hv _=>⟨ρE d V v x,q8 k d V v x,by
   have hk:=q9 k d V v x
   rw [dT (show v.length+1 < 2147483648/\v.length=v.length from ⟨by omega,rfl⟩)] at hk
   have h:=SEB.of_KP (A:=A) (e:=.normal) (sp:=fun _=>sL) (B0:=B6 d V++[.miter]) (ds:=[]) F7 F8 hp (.none _) (B4c d V) hk okL
   refine SEB.wk_out h ?_
   have w:=Wk.rowsQ (A:=A) (B0:=B6 d V++[.miter]) (ρ:=sL.rho (lfL d V (v.length+1) (K3 v.length (C9 v) [.sstr x]))) (D:=[]) (B:=sL.heap (lfL d V (v.length+1) (K3 v.length (C9 v) [.sstr x]))) (b:=13) (r':=C9 (v++[x])) (ty:=9) rfl (fun h=>by rw [B4c] at h; omega) (fun i hi=>A1z v x hi)
   have e:(v++[x]).length=v.length+1:=by simp
   unfold ρL BL
   rw [e]
   exact w⟩)
 rw [<- F8i] at hx
 refine SEBx.seq hx fun st hQ=>?_
 obtain ⟨v,hv1,hv2,rfl⟩:=hQ
 refine F4s hp d V v (by omega) (Go.Ad.setF V) (B9q hv1) fun b hb=>?_
 simp at hb
 have h12:(B6 d V).length=12:=rfl
 omega
theorem D5m {A:Amb} (hT:Tab A) (hG:gN prog<=A.G) {d:Drw} {s:Txt} (h1:GrD d) (h2:s ∈ H7 d) :
  CallT prog A 45 [.agg d.av,.sstr s] (Bg 8) (.sslice 8 0 (M9 d s).length) (Bg 8++[.vec (M9 d s).length (C9 (M9 d s)) 1 9]) []:=by
 have h3:=h1.len
 have hs:=G1v (k:=100) (E7t hT hG 100) h1 h2 (by omega) (by have:=C5d h1 h2; show (dfs (nbO d) 99 [] s).length < _; omega)
 rw [show (100:Nat) - 1=99 from rfl,B8z h1 h2] at hs
 exact A4q func45 (show f45.body=some A0k by kernel_rfl) hs (fun id=>by simp) (vs:=[.sslice 8 0 (M9 d s).length]) (by kernel_rfl)
end Go.Proofs.Tryz
namespace Go.Proofs.Tryz
open Go.Ad
def Mx (A:Amb):Prop:=∃ m:Int,∀ w:World,(∀ c,c < A.G->w.heap[c]?=A.base c)->w.cell? ⟨0,0,none⟩=some (.int .i64 m)
def E4l:List AV->Option AV
 | [.str s,.int .u8 c]=>some (.int .i64 (Lib.countByte s c.toNat.toUInt8))
 | _=>none
def D8r:List AV->Tr AV
 | [.str s,.str cs]=>bif decide (s.length < 4294967281) then .leaf (.int .i64 (Lib.index s cs)) else .fail
 | _=>.fail
def D0g:List AV->Tr AV
 | [.str s,.str o,.str n,.int .i64 k]=>bif decide (s.length < 4294967281) && decide (1<=o.length) && decide (s.length+Lib.count s o*n.length<=140737488355328) then .leaf (.str (Lib.replace s o n k)) else .fail
 | _=>.fail
def strOf:AV->Option (List UInt8)
 | .str s=>some s
 | _=>none
def strsOf (B:Heap) (b o n:Nat):Option (List (List UInt8)):=match B[b]? with
 | some (.cells cs _ _ _)=>if o+n<=cs.length then ((cs.drop o).take n).mapM strOf else none
 | _=>none
def F7d (args:List AV) (B:Heap):Tr (AV × Heap × List Nat):=match args with
 | [.slice none 0 0,.str _]=>.leaf (.str [],B,[])
 | [.slice (some (b,o)) n _,.str sep]=>(match strsOf B b o n with
  | some xs=>bif decide (xs.length<=140737488355328) && decide ((Lib.join xs sep).length<=140737488355328) then .leaf (.str (Lib.join xs sep),B,[]) else .fail
  | none=>.fail)
 | _=>.fail
theorem C1d {w w':World} (h:RowKit.Below w.heap.size w w'):Quiet w w':=⟨h.size,h.block,h.tape,h.os,h.output⟩
theorem mkS {b:ByteArray} {s:List UInt8} (h:b.data.toList=s):b=⟨s.toArray⟩:=by
 subst h; cases b; simp
theorem G4a {A:Amb} {ι:Emb} {B:Heap} {w:World} (hs:Sim A ι B w.heap) {b o n m:Nat} {xs:List (List UInt8)} (h:strsOf B b o n=some xs) {v:Value} (hv:VR ι (.slice (some (b,o)) n m) v) {sep:ByteArray}
  (h1:xs.length<=140737488355328) (h2:(Lib.join xs sep.data.toList).length<=140737488355328) :
  Calls prog 28 #[v,.string sep] w fun e w'=>e=.returned (.string ⟨(Lib.join xs sep.data.toList).toArray⟩)/\Quiet w w':=by
 unfold strsOf at h
 split at h
 case h_2=>cases h
 rename_i cs es rw ty hb
 split at h
 case isFalse=>cases h
 rename_i hlen
 obtain ⟨g1,g2⟩:=B8s h
 have hl:xs.length=n:=by rw [g1,List.length_take,List.length_drop]; omega
 simp only [VR] at hv
 obtain ⟨l,cap,off,hl1,q1,q2,q3,q4,q5,rfl⟩:=hv
 obtain ⟨_,arr,_,fz,p1,p2,p3,p4,_⟩:=hs.obj b _ l hb hl1
 rcases Nat.eq_zero_or_pos n with hn | hn
 ·have hx:xs=[]:=List.eq_nil_of_length_eq_zero (by omega)
  subst hx hn
  exact (strings_Join_none (some ⟨l.c,off,none⟩) cap sep w).mono fun e w' ⟨he,hw⟩=>⟨he,hw ▸ Quiet.refl _⟩
 ·have hoff:off=l.d+o:=by rcases q3 with q3 | q3 <;> omega
  subst hoff
  have hm:(xs.map fun s=>(⟨s.toArray⟩:ByteArray)).map (·.data.toList)=xs:=by
   rw [List.map_map]
   have:((fun x:ByteArray=>x.data.toList) ∘ fun s:List UInt8=>(⟨s.toArray⟩:ByteArray))=id:=by funext s; simp
   rw [this,List.map_id]
  have hj:=strings_Join l.c (l.d+o) cap (xs.map fun s=>(⟨s.toArray⟩:ByteArray)) sep w (fun j x hx=>by
   rw [List.getElem?_map,Option.map_eq_some_iff] at hx
   obtain ⟨s,hx,rfl⟩:=hx
   have hjn:j < n:=by rw [<- hl]; exact (List.getElem?_eq_some_iff.1 hx).1
   have hjl:j < ((cs.drop o).take n).length:=by rw [List.length_take,List.length_drop]; omega
   obtain ⟨s',k1,k2⟩:=g2 j _ (List.getElem?_eq_getElem hjl)
   rw [hx] at k1; cases k1
   have hc:cs[o+j]?=some (.str s):=by
    have e1:((cs.drop o).take n)[j]?=cs[o+j]?:=by rw [List.getElem?_take,if_pos hjn,List.getElem?_drop]
    rw [List.getElem?_eq_getElem hjl] at e1
    rw [<- e1]
    unfold strOf at k2
    split at k2
    ·rename_i hh; cases k2; rw [hh]
    ·cases k2
   obtain ⟨v,r1,r2⟩:=p4 _ _ hc
   simp only [VR] at r2
   obtain ⟨bb,hbb,rfl⟩:=r2
   rw [cell_of p1,Nat.add_assoc,r1,mkS hbb]) (hs.lt b l hl1) (by simpa using h1) (by rw [List.length_map,hl]; omega) (by rw [hm]; exact h2)
  rw [hm,List.length_map,hl] at hj
  exact hj.mono fun e w' ⟨he,hw⟩=>⟨he,C1d hw⟩
def pLb:Prims:=(((lib2.addt 85 D8r).addt 40 D0g).addx 138 E4l).addh 28 F7d
theorem G0v {A:Amb} (hT:Tab A) (hM:Mx A):PrimOK prog A pLb:=by
 obtain ⟨m,hM⟩:=hM
 refine PrimOK.put (PrimOK.addx (PrimOK.libt (PrimOK.libt (D8x hT) func85 (by kernel_rfl) ?_) func40 (by kernel_rfl) ?_) ?_) func28 (by kernel_rfl) ?_
 ·intro args v hg ι w xs hamb _ hx
  unfold D8r at hg
  split at hg
  ·rename_i s cs
   cases hb:decide (s.length < 4294967281) with
   | false=>rw [hb] at hg; cases hg
   | true =>
    rw [hb] at hg
    cases hg
    have hb:=of_decide_eq_true hb
    simp only [VRL,VR] at hx
    obtain ⟨_,_,hxs,⟨b1,rfl,rfl⟩,_,_,rfl,⟨b2,rfl,rfl⟩,rfl⟩:=hx
    rw [B4x hxs]
    have hl1:b1.data.toList.length=b1.size:=by simp
    refine (strings_Index b1 b2 m w (by omega) (hM w hamb)).mono fun e w' ⟨h1,h2⟩=>?_
    subst h1 h2
    exact ⟨_,rfl,by simp [VR],Quiet.refl _⟩
  ·cases hg
 ·intro args v hg ι w xs hamb _ hx
  unfold D0g at hg
  split at hg
  ·rename_i s o n k
   cases hb:(decide (s.length < 4294967281) && decide (1<=o.length) && decide (s.length+Lib.count s o*n.length<=140737488355328)) with
   | false=>rw [hb] at hg; cases hg
   | true =>
    rw [hb] at hg
    cases hg
    simp only [Bool.and_eq_true,decide_eq_true_eq] at hb
    simp only [VRL,VR] at hx
    obtain ⟨_,_,hxs,⟨b1,rfl,rfl⟩,_,_,rfl,⟨b2,rfl,rfl⟩,_,_,rfl,⟨b3,rfl,rfl⟩,_,_,rfl,rfl,rfl⟩:=hx
    have e:xs=#[.string b1,.string b2,.string b3,.int .i64 k]:=by apply Array.ext'; simpa using hxs
    rw [e]
    have hl1:b1.data.toList.length=b1.size:=by simp
    have hl2:b2.data.toList.length=b2.size:=by simp
    have hl3:b3.data.toList.length=b3.size:=by simp
    refine (strings_Replace b1 b2 b3 k m w (by omega) (hM w hamb) (by omega) (by rw [<- hl1,<- hl3]; exact hb.2)).mono fun e w' ⟨h1,h2⟩=>?_
    subst h1
    exact ⟨_,rfl,by simp only [VR]; exact ⟨_,by simp,rfl⟩,C1d h2⟩
  ·cases hg
 ·intro args v hg ι w xs hx
  unfold E4l at hg
  split at hg
  ·rename_i s c
   cases hg
   simp only [VRL,VR] at hx
   obtain ⟨_,_,hxs,⟨b1,rfl,rfl⟩,_,_,rfl,rfl,rfl⟩:=hx
   rw [B4x hxs]
   exact ⟨_,D8n (fn:=f138) func138 (by kernel_rfl) (by kernel_rfl) (by kernel_rfl) (e:=Extern.BytealgCount.count) (by kernel_rfl) (Lib.run_countString b1 c w),by simp [VR]⟩
  ·cases hg
 ·intro args B v B' D hg
  unfold F7d at hg
  split at hg
  ·cases hg
   refine ⟨.refl _,fun ι w xs hs hd _ hx=>?_⟩
   simp only [VRL,VR] at hx
   obtain ⟨_,_,hxs,⟨_,_,rfl⟩,_,_,rfl,⟨b2,rfl,rfl⟩,rfl⟩:=hx
   rw [B4x hxs]
   refine (strings_Join_none none 0 b2 w).mono fun e w' ⟨h1,h2⟩=>?_
   subst h1 h2
   exact ⟨_,ι,rfl,by simp only [VR]; exact ⟨_,rfl,rfl⟩,.refl hs hd⟩
  ·rename_i b o n mm sep
   split at hg
   ·rename_i ss hss
    cases hb:(decide (ss.length<=140737488355328) && decide ((Lib.join ss sep).length<=140737488355328)) with
    | false=>rw [hb] at hg; cases hg
    | true =>
     rw [hb] at hg
     cases hg
     simp only [Bool.and_eq_true,decide_eq_true_eq] at hb
     refine ⟨.refl _,fun ι w xs hs hd _ hx=>?_⟩
     simp only [VRL] at hx
     obtain ⟨v0,_,hxs,h1,_,_,rfl,h2,rfl⟩:=hx
     simp only [VR] at h2
     obtain ⟨b2,rfl,rfl⟩:=h2
     rw [B4x hxs]
     refine (G4a hs hss h1 hb.1 hb.2).mono fun e w' ⟨h1,h2⟩=>?_
     subst h1
     exact ⟨_,ι,rfl,by simp only [VR]; exact ⟨_,by simp,rfl⟩,h2.after hs hd⟩
   ·cases hg
  ·cases hg
end Go.Proofs.Tryz
namespace Go.Proofs.Tryz
open Go.Ad
def F1s:Fea:=⟨[66],0,0,0,0,0,0,0,[]⟩
def F1u:Fea:=⟨[72],1,2,500,0,0,90,95,[⟨8,true,20,1,[⟨[66],0⟩]⟩]⟩
def G3b:Fea:=⟨[72],1,2,500,0,0,90,95,[]⟩
def drw1:Drw:=⟨[68],[F1s,F1u],[⟨[66],[72],0,490,510⟩]⟩
def F9b:Drw:=⟨[68],[F1s,F1u],[⟨[66],[72],0,501,510⟩]⟩
def F9c:Drw:=⟨[68],[F1s,F1u],[⟨[66],[72],1,0,0⟩]⟩
def F9d:Drw:=⟨[68],[F1u],[⟨[66],[72],0,490,510⟩]⟩
def F9e:Drw:=⟨[68],[F1s,G3b],[]⟩
def E9z:List (Drw × Int):=[(drw1,0),(F9b,16),(F9c,14),(F9d,6),(F9e,0)]
theorem ck1:V4 drw1=0:=by kernel_rfl
theorem ck2:V4 F9b=16:=by kernel_rfl
theorem ck3:V4 F9c=14:=by kernel_rfl
theorem ck4:V4 F9d=6:=by kernel_rfl
theorem ck5:V4 F9e=0:=by kernel_rfl
theorem G4e:M9 drw1 [72]=[[66]]:=by kernel_rfl
theorem nmH:[72] ∈ H7 drw1:=by decide
theorem B9c {d:Drw} (h:(decide (d.l.length < 100) && d.l.all fun x=>szF x && decide (x.l.length < 100) && x.l.all fun y=>decide (y.l.length < 100))=true) (h2:(I5 d.s && decide (d.m.length < 100) && d.m.all fun y=>I5 y.f && I5 y.t)=true):OkD d:=by
 simp only [Bool.and_eq_true,decide_eq_true_eq,List.all_eq_true] at h h2
 obtain ⟨h0,h1⟩:=h
 obtain ⟨⟨g0,g1⟩,g2⟩:=h2
 have hf:∀ i,i < d.l.length->D9 d i ∈ d.l:=fun i hi=>by unfold D9; rw [List.getD_eq_getElem?_getD,List.getElem?_eq_getElem hi]; exact List.getElem_mem hi
 have hk:∀ (f:Fea) k,k < f.l.length->F6 f k ∈ f.l:=fun f k hk=>by unfold F6; rw [List.getD_eq_getElem?_getD,List.getElem?_eq_getElem hk]; exact List.getElem_mem hk
 have hm:∀ i,i < d.m.length->K5 d i ∈ d.m:=fun i hi=>by unfold K5; rw [List.getD_eq_getElem?_getD,List.getElem?_eq_getElem hi]; exact List.getElem_mem hi
 exact ⟨by omega,fun i hi=>(h1 _ (hf i hi)).1.1,fun i hi=>by have:=(h1 _ (hf i hi)).1.2; omega,fun i k hi hk'=>by have:=(h1 _ (hf i hi)).2 _ (hk _ k hk'); omega,g0,by omega,fun i hi=>g2 _ (hm i hi)⟩
theorem G8g:OkD drw1:=B9c (by decide +kernel) (by decide +kernel)
theorem G8h:OkD F9b:=B9c (by decide +kernel) (by decide +kernel)
theorem G8i:OkD F9c:=B9c (by decide +kernel) (by decide +kernel)
theorem G8j:OkD F9d:=B9c (by decide +kernel) (by decide +kernel)
theorem G8k:OkD F9e:=B9c (by decide +kernel) (by decide +kernel)
def C5u (d:Drw):List (Drw × Int)->Option Int
 | []=>none
 | (e,n) :: r=>bif C1u d e then some n else C5u d r
theorem C2k {d:Drw} {n:Int}:∀ {l:List (Drw × Int)},C5u d l=some n->(d,n) ∈ l
 | [],h=>by cases h
 | (e,m) :: r,h=>by
  unfold C5u at h
  cases hc:C1u d e with
  | true=>rw [hc] at h; cases h; rw [C9r hc]; simp
  | false=>rw [hc] at h; exact List.mem_cons_of_mem _ (C2k h)
def x13 (args:List AV) (B:Heap):Option Int:=match args with
 | [.agg l]=>(match D9m B l with | some d=>C5u d E9z | none=>none)
 | _=>none
def x45 (args:List AV) (B:Heap):Option (List Txt):=match args with
 | [.agg l,.str s]=>(match D9m B l with | some d=>bif C1u d drw1 && B2x s [72] then some [[66]] else none | none=>none)
 | _=>none
def pAw0:Prims:=(pLb.addh 13 fun args B=>match x13 args B with | some n=>.leaf (.int .i64 n,B,[]) | none=>.fail).addh 45 fun args B=>match x45 args B with | some L=>.leaf (F4r B L,E8e B L 9,[]) | none=>.fail
theorem F6n {d:Drw} {n:Int} (h:(d,n) ∈ E9z):OkD d/\V4 d=n:=by
 unfold E9z at h
 simp only [List.mem_cons,pI,List.not_mem_nil,or_false] at h
 rcases h with ⟨rfl,rfl⟩ | ⟨rfl,rfl⟩ | ⟨rfl,rfl⟩ | ⟨rfl,rfl⟩ | ⟨rfl,rfl⟩
 ·exact ⟨G8g,ck1⟩
 ·exact ⟨G8h,ck2⟩
 ·exact ⟨G8i,ck3⟩
 ·exact ⟨G8j,ck4⟩
 ·exact ⟨G8k,ck5⟩
theorem F3y {A:Amb} (hT:Tab A) (hG:gN prog<=A.G) (hM:Mx A):PrimOK prog A pAw0:=by
 refine PrimOK.addX (PrimOK.addXi (G0v hT hM) hG func13 (by kernel_rfl) x13 fun args B n h=>?_) hG func45 (by kernel_rfl) (ty:=9) (by decide) x45 fun args B L h=>?_
 ·unfold x13 at h
  split at h
  ·rename_i l
   split at h
   ·rename_i d hd
    obtain ⟨h1,h2⟩:=F6n (C2k h)
    obtain ⟨B',hca⟩:=Ca.of_finV (G4j d h1)
    refine ⟨[.agg d.av],B',fun ι w xs hs hx=>?_,by rw [gsz,<- h2]; exact (CallT.of_Ca F7 F8 (D9g hT hG) hca).2⟩
    simp only [VRL,VR] at hx ⊢
    obtain ⟨y,r,rfl,⟨a,rfl,q⟩,rfl⟩:=hx
    exact ⟨_,_,rfl,⟨a,rfl,D1u hs hd q⟩,rfl⟩
   ·cases h
  ·cases h
 ·unfold x45 at h
  split at h
  ·rename_i l s
   split at h
   ·rename_i d hd
    cases hc:(C1u d drw1 && B2x s [72]) with
    | false=>rw [hc] at h; cases h
    | true =>
     rw [hc] at h
     cases h
     rw [Bool.and_eq_true] at hc
     have e1:=C9r hc.1
     have e2:=A4k hc.2
     subst e1 e2
     have hgr:GrD drw1:=C5o ck1
     have hn:=D5m hT hG hgr nmH
     rw [G4e] at hn
     refine ⟨[.agg drw1.av,.sstr [72]],fun ι w xs hs hx=>?_,by rw [gsz]; exact hn⟩
     simp only [VRL,VR] at hx ⊢
     obtain ⟨y,r,rfl,⟨a,rfl,q⟩,y2,r2,rfl,h2,rfl⟩:=hx
     exact ⟨_,_,rfl,⟨a,rfl,D1u hs hd q⟩,_,_,rfl,h2,rfl⟩
   ·cases h
  ·cases h
end Go.Proofs.Tryz
namespace Go.Proofs.Tryz
open Go.Ad
def m106_1:Memo:=⟨[.str [112,111,115,105,116,105,111,110,32,100,105,115,99,32,50,48,40,77,41,32,66]],[.dead,.dead,.dead,.dead,.dead,.dead,.dead,.dead],.tuple [.agg [.int .i64 8,.bool true,.int .i64 20,.int .i64 1,.slice (some ((14,0))) 1 1],.int .i64 0],[.dead,.dead,.dead,.dead,.dead,.dead,.dead,.dead,.cells [.int .i64 8,.bool true,.int .i64 20,.int .i64 1,.slice (some ((14,0))) 1 1] 0 true 115,.cells [.str [112,111,115,105,116,105,111,110],.str [100,105,115,99],.str [50,48,40,77,41],.str [66]] 1 true 9,.cells [.slice (some ((9,2))) 2 2] 0 true 28,.cells [.str [115,116,114,97,105,103,104,116],.str [104,112],.str [104,112],.int .i64 0,.int .i64 0,.bool true,.str [102,108,97,116],.str [108,115],.str [],.int .i64 0,.int .i64 0,.bool false,.str [112,97,114,97,108,108,101,108],.str [108,104,112,115],.str [104,112],.int .i64 1,.int .i64 2,.bool true,.str [115,113,117,97,114,101],.str [108,104,112,115],.str [104,112],.int .i64 1,.int .i64 2,.bool true,.str [114,111,117,110,100],.str [104,112,98],.str [],.int .i64 0,.int .i64 0,.bool false,.str [115,112,104,101,114,101],.str [98],.str [],.int .i64 0,.int .i64 0,.bool false,.str [112,114,111,102,105,108,101],.str [108],.str [],.int .i64 0,.int .i64 3,.bool false,.str [114,117,110,111,117,116],.str [108,104,112],.str [],.int .i64 1,.int .i64 1,.bool false,.str [112,111,115,105,116,105,111,110],.str [108,104,112,115,98],.str [104,112,98],.int .i64 0,.int .i64 3,.bool true] 0 true 188,.cells [.int .i64 8,.bool true,.int .i64 20,.int .i64 1,.slice (some ((14,0))) 1 1] 0 true 115,.cells [.str [66],.int .i64 0] 2 true 117,.cells [.str [66],.int .i64 0] 2 true 117],[]⟩
theorem G1c:(D5 prog pAw0 400).call 106 m106_1.args m106_1.heap fin=some (m106_1.val,m106_1.heap',m106_1.D):=by kernel_rfl
def F8j:List Memo:=[m106_1]
def pAw1:Prims:=pAw0.addh 106 (B8o 8 (B8t F8j))
theorem F3z {A:Amb} (hT:Tab A) (hG:gN prog<=A.G) (hM:Mx A):PrimOK prog A pAw1:=by
 have h0:=F3y hT hG hM
 refine h0.memo gsz func106 (by kernel_rfl) fun e he=>?_
 unfold F8j at he
 simp only [List.mem_cons,List.not_mem_nil,or_false] at he
 subst he
 exact MemoOK.of_run F7 F8 h0 G1c
end Go.Proofs.Tryz
namespace Go.Proofs.Tryz
open Go.Ad
def m59_1:Memo:=⟨[.ptr (some ((8,0))),.slice (some ((10,0))) 2 2],[.dead,.dead,.dead,.dead,.dead,.dead,.dead,.dead,.cells [.str [],.slice none 0 0,.slice none 0 0,.map (some (9))] 0 true 88,.maps [(.str [100,114,97,119,105,110,103],.func (.func 53) [.ptr (some ((8,0)))] []),(.str [102,101,97,116,117,114,101],.func (.func 54) [.ptr (some ((8,0)))] []),(.str [102,114,97,109,101],.func (.func 55) [.ptr (some ((8,0)))] []),(.str [100,105,109,101,110,115,105,111,110],.func (.func 56) [.ptr (some ((8,0)))] [])],.cells [.str [100,114,97,119,105,110,103],.str [68]] 1 true 9],.int .i64 0,[.dead,.dead,.dead,.dead,.dead,.dead,.dead,.dead,.cells [.str [68],.slice none 0 0,.slice none 0 0,.map (some (9))] 0 true 88,.maps [(.str [100,114,97,119,105,110,103],.func (.func 53) [.ptr (some ((8,0)))] []),(.str [102,101,97,116,117,114,101],.func (.func 54) [.ptr (some ((8,0)))] []),(.str [102,114,97,109,101],.func (.func 55) [.ptr (some ((8,0)))] []),(.str [100,105,109,101,110,115,105,111,110],.func (.func 56) [.ptr (some ((8,0)))] [])],.cells [.str [100,114,97,119,105,110,103],.str [68]] 1 true 9],[8]⟩
theorem G4w:(D5 prog pAw1 400).call 59 m59_1.args m59_1.heap fin=some (m59_1.val,m59_1.heap',m59_1.D):=by kernel_rfl
def m59_2:Memo:=⟨[.ptr (some ((8,0))),.slice (some ((10,0))) 8 8],[.dead,.dead,.dead,.dead,.dead,.dead,.dead,.dead,.cells [.str [68],.slice none 0 0,.slice none 0 0,.map (some (9))] 0 true 88,.maps [(.str [100,114,97,119,105,110,103],.func (.func 53) [.ptr (some ((8,0)))] []),(.str [102,101,97,116,117,114,101],.func (.func 54) [.ptr (some ((8,0)))] []),(.str [102,114,97,109,101],.func (.func 55) [.ptr (some ((8,0)))] []),(.str [100,105,109,101,110,115,105,111,110],.func (.func 56) [.ptr (some ((8,0)))] [])],.cells [.str [102,101,97,116,117,114,101],.str [66],.str [112,108,97,110,101],.str [120],.str [97,116],.str [48],.str [48],.str [48]] 1 true 9],.int .i64 0,[.dead,.dead,.dead,.dead,.dead,.dead,.dead,.dead,.cells [.str [68],.slice (some ((18,0))) 1 1,.slice none 0 0,.map (some (9))] 0 true 88,.maps [(.str [100,114,97,119,105,110,103],.func (.func 53) [.ptr (some ((8,0)))] []),(.str [102,101,97,116,117,114,101],.func (.func 54) [.ptr (some ((8,0)))] []),(.str [102,114,97,109,101],.func (.func 55) [.ptr (some ((8,0)))] []),(.str [100,105,109,101,110,115,105,111,110],.func (.func 56) [.ptr (some ((8,0)))] [])],.cells [.str [102,101,97,116,117,114,101],.str [66],.str [112,108,97,110,101],.str [120],.str [97,116],.str [48],.str [48],.str [48]] 1 true 9,.cells [.str [66],.int .i64 0,.int .i64 0,.int .i64 0,.int .i64 0,.int .i64 0,.int .i64 0,.int .i64 0,.slice none 0 0] 0 true 49,.cells [.str [48],.str [48],.str [48]] 1 true 9,.cells [.int .i64 0,.int .i64 0,.int .i64 0] 1 true 3,.cells [.str [68],.slice (some ((18,0))) 1 1,.slice none 0 0] 0 true 25,.cells [.str [66],.int .i64 0,.int .i64 0,.int .i64 0,.int .i64 0,.int .i64 0,.int .i64 0,.int .i64 0,.slice none 0 0] 0 true 49,.cells [.str [68],.slice (some ((18,0))) 1 1,.slice none 0 0] 0 true 25,.cells [.str [66],.int .i64 0,.int .i64 0,.int .i64 0,.int .i64 0,.int .i64 0,.int .i64 0,.int .i64 0,.slice none 0 0] 9 true 49,.cells [.str [66],.int .i64 0,.int .i64 0,.int .i64 0,.int .i64 0,.int .i64 0,.int .i64 0,.int .i64 0,.slice none 0 0] 9 true 49],[8]⟩
theorem G4x:(D5 prog pAw1 400).call 59 m59_2.args m59_2.heap fin=some (m59_2.val,m59_2.heap',m59_2.D):=by kernel_rfl
def m59_3:Memo:=⟨[.ptr (some ((8,0))),.slice (some ((11,0))) 11 11],[.dead,.dead,.dead,.dead,.dead,.dead,.dead,.dead,.cells [.str [68],.slice (some ((9,0))) 1 1,.slice none 0 0,.map (some (10))] 0 true 88,.cells [.str [66],.int .i64 0,.int .i64 0,.int .i64 0,.int .i64 0,.int .i64 0,.int .i64 0,.int .i64 0,.slice none 0 0] 9 true 49,.maps [(.str [100,114,97,119,105,110,103],.func (.func 53) [.ptr (some ((8,0)))] []),(.str [102,101,97,116,117,114,101],.func (.func 54) [.ptr (some ((8,0)))] []),(.str [102,114,97,109,101],.func (.func 55) [.ptr (some ((8,0)))] []),(.str [100,105,109,101,110,115,105,111,110],.func (.func 56) [.ptr (some ((8,0)))] [])],.cells [.str [102,101,97,116,117,114,101],.str [72],.str [104,111,108,101],.str [122],.str [97,116],.str [53,48,48],.str [48],.str [48],.str [115,105,122,101],.str [57,48],.str [57,53]] 1 true 9],.int .i64 0,[.dead,.dead,.dead,.dead,.dead,.dead,.dead,.dead,.cells [.str [68],.slice (some ((21,0))) 2 2,.slice none 0 0,.map (some (10))] 0 true 88,.cells [.str [66],.int .i64 0,.int .i64 0,.int .i64 0,.int .i64 0,.int .i64 0,.int .i64 0,.int .i64 0,.slice none 0 0] 9 true 49,.maps [(.str [100,114,97,119,105,110,103],.func (.func 53) [.ptr (some ((8,0)))] []),(.str [102,101,97,116,117,114,101],.func (.func 54) [.ptr (some ((8,0)))] []),(.str [102,114,97,109,101],.func (.func 55) [.ptr (some ((8,0)))] []),(.str [100,105,109,101,110,115,105,111,110],.func (.func 56) [.ptr (some ((8,0)))] [])],.cells [.str [102,101,97,116,117,114,101],.str [72],.str [104,111,108,101],.str [122],.str [97,116],.str [53,48,48],.str [48],.str [48],.str [115,105,122,101],.str [57,48],.str [57,53]] 1 true 9,.cells [.str [72],.int .i64 1,.int .i64 2,.int .i64 500,.int .i64 0,.int .i64 0,.int .i64 90,.int .i64 95,.slice none 0 0] 0 true 49,.dead,.cells [.str [53,48,48],.str [48],.str [48],.str [57,48],.str [57,53]] 1 true 9,.cells [.int .i64 500,.int .i64 0,.int .i64 0,.int .i64 90,.int .i64 95] 1 true 3,.cells [.str [68],.slice (some ((21,0))) 2 2,.slice none 0 0] 0 true 25,.cells [.str [72],.int .i64 1,.int .i64 2,.int .i64 500,.int .i64 0,.int .i64 0,.int .i64 90,.int .i64 95,.slice none 0 0] 0 true 49,.cells [.str [68],.slice (some ((21,0))) 2 2,.slice none 0 0] 0 true 25,.dead,.cells [.str [72],.int .i64 1,.int .i64 2,.int .i64 500,.int .i64 0,.int .i64 0,.int .i64 90,.int .i64 95,.slice none 0 0] 9 true 49,.cells [.str [66],.int .i64 0,.int .i64 0,.int .i64 0,.int .i64 0,.int .i64 0,.int .i64 0,.int .i64 0,.slice none 0 0,.str [72],.int .i64 1,.int .i64 2,.int .i64 500,.int .i64 0,.int .i64 0,.int .i64 90,.int .i64 95,.slice none 0 0] 9 true 49],[8]⟩
theorem G4y:(D5 prog pAw1 400).call 59 m59_3.args m59_3.heap fin=some (m59_3.val,m59_3.heap',m59_3.D):=by kernel_rfl
def m59_4:Memo:=⟨[.ptr (some ((8,0))),.slice (some ((11,0))) 6 6],[.dead,.dead,.dead,.dead,.dead,.dead,.dead,.dead,.cells [.str [68],.slice (some ((9,0))) 2 2,.slice none 0 0,.map (some (10))] 0 true 88,.cells [.str [66],.int .i64 0,.int .i64 0,.int .i64 0,.int .i64 0,.int .i64 0,.int .i64 0,.int .i64 0,.slice none 0 0,.str [72],.int .i64 1,.int .i64 2,.int .i64 500,.int .i64 0,.int .i64 0,.int .i64 90,.int .i64 95,.slice none 0 0] 9 true 49,.maps [(.str [100,114,97,119,105,110,103],.func (.func 53) [.ptr (some ((8,0)))] []),(.str [102,101,97,116,117,114,101],.func (.func 54) [.ptr (some ((8,0)))] []),(.str [102,114,97,109,101],.func (.func 55) [.ptr (some ((8,0)))] []),(.str [100,105,109,101,110,115,105,111,110],.func (.func 56) [.ptr (some ((8,0)))] [])],.cells [.str [102,114,97,109,101],.str [72],.str [112,111,115,105,116,105,111,110],.str [100,105,115,99],.str [50,48,40,77,41],.str [66]] 1 true 9],.int .i64 0,[.dead,.dead,.dead,.dead,.dead,.dead,.dead,.dead,.cells [.str [68],.slice (some ((9,0))) 2 2,.slice none 0 0,.map (some (10))] 0 true 88,.cells [.str [66],.int .i64 0,.int .i64 0,.int .i64 0,.int .i64 0,.int .i64 0,.int .i64 0,.int .i64 0,.slice none 0 0,.str [72],.int .i64 1,.int .i64 2,.int .i64 500,.int .i64 0,.int .i64 0,.int .i64 90,.int .i64 95,.slice (some ((21,0))) 1 1] 9 true 49,.maps [(.str [100,114,97,119,105,110,103],.func (.func 53) [.ptr (some ((8,0)))] []),(.str [102,101,97,116,117,114,101],.func (.func 54) [.ptr (some ((8,0)))] []),(.str [102,114,97,109,101],.func (.func 55) [.ptr (some ((8,0)))] []),(.str [100,105,109,101,110,115,105,111,110],.func (.func 56) [.ptr (some ((8,0)))] [])],.cells [.str [102,114,97,109,101],.str [72],.str [112,111,115,105,116,105,111,110],.str [100,105,115,99],.str [50,48,40,77,41],.str [66]] 1 true 9,.cells [.int .i64 8,.bool true,.int .i64 20,.int .i64 1,.slice (some ((18,0))) 1 1] 0 true 115,.cells [.str [112,111,115,105,116,105,111,110],.str [100,105,115,99],.str [50,48,40,77,41],.str [66]] 1 true 9,.cells [.slice (some ((13,2))) 2 2] 0 true 28,.cells [.str [115,116,114,97,105,103,104,116],.str [104,112],.str [104,112],.int .i64 0,.int .i64 0,.bool true,.str [102,108,97,116],.str [108,115],.str [],.int .i64 0,.int .i64 0,.bool false,.str [112,97,114,97,108,108,101,108],.str [108,104,112,115],.str [104,112],.int .i64 1,.int .i64 2,.bool true,.str [115,113,117,97,114,101],.str [108,104,112,115],.str [104,112],.int .i64 1,.int .i64 2,.bool true,.str [114,111,117,110,100],.str [104,112,98],.str [],.int .i64 0,.int .i64 0,.bool false,.str [115,112,104,101,114,101],.str [98],.str [],.int .i64 0,.int .i64 0,.bool false,.str [112,114,111,102,105,108,101],.str [108],.str [],.int .i64 0,.int .i64 3,.bool false,.str [114,117,110,111,117,116],.str [108,104,112],.str [],.int .i64 1,.int .i64 1,.bool false,.str [112,111,115,105,116,105,111,110],.str [108,104,112,115,98],.str [104,112,98],.int .i64 0,.int .i64 3,.bool true] 0 true 188,.cells [.int .i64 8,.bool true,.int .i64 20,.int .i64 1,.slice (some ((18,0))) 1 1] 0 true 115,.cells [.str [66],.int .i64 0] 2 true 117,.cells [.str [66],.int .i64 0] 2 true 117,.cells [.int .i64 8,.bool true,.int .i64 20,.int .i64 1,.slice (some ((18,0))) 1 1] 0 true 115,.cells [.int .i64 8,.bool true,.int .i64 20,.int .i64 1,.slice (some ((18,0))) 1 1] 5 true 115,.cells [.int .i64 8,.bool true,.int .i64 20,.int .i64 1,.slice (some ((18,0))) 1 1] 5 true 115],[9]⟩
theorem G4z:(D5 prog pAw1 400).call 59 m59_4.args m59_4.heap fin=some (m59_4.val,m59_4.heap',m59_4.D):=by kernel_rfl
end Go.Proofs.Tryz
namespace Go.Proofs.Tryz
open Go.Ad
def m59_5:Memo:=⟨[.ptr (some ((8,0))),.slice (some ((13,0))) 6 6],[.dead,.dead,.dead,.dead,.dead,.dead,.dead,.dead,.cells [.str [68],.slice (some ((9,0))) 2 2,.slice none 0 0,.map (some (12))] 0 true 88,.cells [.str [66],.int .i64 0,.int .i64 0,.int .i64 0,.int .i64 0,.int .i64 0,.int .i64 0,.int .i64 0,.slice none 0 0,.str [72],.int .i64 1,.int .i64 2,.int .i64 500,.int .i64 0,.int .i64 0,.int .i64 90,.int .i64 95,.slice (some ((10,0))) 1 1] 9 true 49,.cells [.int .i64 8,.bool true,.int .i64 20,.int .i64 1,.slice (some ((11,0))) 1 1] 5 true 115,.cells [.str [66],.int .i64 0] 2 true 117,.maps [(.str [100,114,97,119,105,110,103],.func (.func 53) [.ptr (some ((8,0)))] []),(.str [102,101,97,116,117,114,101],.func (.func 54) [.ptr (some ((8,0)))] []),(.str [102,114,97,109,101],.func (.func 55) [.ptr (some ((8,0)))] []),(.str [100,105,109,101,110,115,105,111,110],.func (.func 56) [.ptr (some ((8,0)))] [])],.cells [.str [100,105,109,101,110,115,105,111,110],.str [66],.str [72],.str [120],.str [52,57,48],.str [53,49,48]] 1 true 9],.int .i64 0,[.dead,.dead,.dead,.dead,.dead,.dead,.dead,.dead,.cells [.str [68],.slice (some ((9,0))) 2 2,.slice (some ((17,0))) 1 1,.map (some (12))] 0 true 88,.cells [.str [66],.int .i64 0,.int .i64 0,.int .i64 0,.int .i64 0,.int .i64 0,.int .i64 0,.int .i64 0,.slice none 0 0,.str [72],.int .i64 1,.int .i64 2,.int .i64 500,.int .i64 0,.int .i64 0,.int .i64 90,.int .i64 95,.slice (some ((10,0))) 1 1] 9 true 49,.cells [.int .i64 8,.bool true,.int .i64 20,.int .i64 1,.slice (some ((11,0))) 1 1] 5 true 115,.cells [.str [66],.int .i64 0] 2 true 117,.maps [(.str [100,114,97,119,105,110,103],.func (.func 53) [.ptr (some ((8,0)))] []),(.str [102,101,97,116,117,114,101],.func (.func 54) [.ptr (some ((8,0)))] []),(.str [102,114,97,109,101],.func (.func 55) [.ptr (some ((8,0)))] []),(.str [100,105,109,101,110,115,105,111,110],.func (.func 56) [.ptr (some ((8,0)))] [])],.cells [.str [100,105,109,101,110,115,105,111,110],.str [66],.str [72],.str [120],.str [52,57,48],.str [53,49,48]] 1 true 9,.cells [.int .i64 490,.int .i64 510] 1 true 3,.cells [.str [66],.str [72],.int .i64 0,.int .i64 490,.int .i64 510] 0 true 94,.cells [.str [66],.str [72],.int .i64 0,.int .i64 490,.int .i64 510] 5 true 94,.cells [.str [66],.str [72],.int .i64 0,.int .i64 490,.int .i64 510] 5 true 94],[8]⟩
theorem G5a:(D5 prog pAw1 400).call 59 m59_5.args m59_5.heap fin=some (m59_5.val,m59_5.heap',m59_5.D):=by kernel_rfl
def m59_6:Memo:=⟨[.ptr (some ((8,0))),.slice (some ((13,0))) 6 6],[.dead,.dead,.dead,.dead,.dead,.dead,.dead,.dead,.cells [.str [68],.slice (some ((9,0))) 2 2,.slice none 0 0,.map (some (12))] 0 true 88,.cells [.str [66],.int .i64 0,.int .i64 0,.int .i64 0,.int .i64 0,.int .i64 0,.int .i64 0,.int .i64 0,.slice none 0 0,.str [72],.int .i64 1,.int .i64 2,.int .i64 500,.int .i64 0,.int .i64 0,.int .i64 90,.int .i64 95,.slice (some ((10,0))) 1 1] 9 true 49,.cells [.int .i64 8,.bool true,.int .i64 20,.int .i64 1,.slice (some ((11,0))) 1 1] 5 true 115,.cells [.str [66],.int .i64 0] 2 true 117,.maps [(.str [100,114,97,119,105,110,103],.func (.func 53) [.ptr (some ((8,0)))] []),(.str [102,101,97,116,117,114,101],.func (.func 54) [.ptr (some ((8,0)))] []),(.str [102,114,97,109,101],.func (.func 55) [.ptr (some ((8,0)))] []),(.str [100,105,109,101,110,115,105,111,110],.func (.func 56) [.ptr (some ((8,0)))] [])],.cells [.str [100,105,109,101,110,115,105,111,110],.str [66],.str [72],.str [120],.str [53,48,49],.str [53,49,48]] 1 true 9],.int .i64 0,[.dead,.dead,.dead,.dead,.dead,.dead,.dead,.dead,.cells [.str [68],.slice (some ((9,0))) 2 2,.slice (some ((17,0))) 1 1,.map (some (12))] 0 true 88,.cells [.str [66],.int .i64 0,.int .i64 0,.int .i64 0,.int .i64 0,.int .i64 0,.int .i64 0,.int .i64 0,.slice none 0 0,.str [72],.int .i64 1,.int .i64 2,.int .i64 500,.int .i64 0,.int .i64 0,.int .i64 90,.int .i64 95,.slice (some ((10,0))) 1 1] 9 true 49,.cells [.int .i64 8,.bool true,.int .i64 20,.int .i64 1,.slice (some ((11,0))) 1 1] 5 true 115,.cells [.str [66],.int .i64 0] 2 true 117,.maps [(.str [100,114,97,119,105,110,103],.func (.func 53) [.ptr (some ((8,0)))] []),(.str [102,101,97,116,117,114,101],.func (.func 54) [.ptr (some ((8,0)))] []),(.str [102,114,97,109,101],.func (.func 55) [.ptr (some ((8,0)))] []),(.str [100,105,109,101,110,115,105,111,110],.func (.func 56) [.ptr (some ((8,0)))] [])],.cells [.str [100,105,109,101,110,115,105,111,110],.str [66],.str [72],.str [120],.str [53,48,49],.str [53,49,48]] 1 true 9,.cells [.int .i64 501,.int .i64 510] 1 true 3,.cells [.str [66],.str [72],.int .i64 0,.int .i64 501,.int .i64 510] 0 true 94,.cells [.str [66],.str [72],.int .i64 0,.int .i64 501,.int .i64 510] 5 true 94,.cells [.str [66],.str [72],.int .i64 0,.int .i64 501,.int .i64 510] 5 true 94],[8]⟩
theorem G5b:(D5 prog pAw1 400).call 59 m59_6.args m59_6.heap fin=some (m59_6.val,m59_6.heap',m59_6.D):=by kernel_rfl
def m59_7:Memo:=⟨[.ptr (some ((8,0))),.slice (some ((13,0))) 6 6],[.dead,.dead,.dead,.dead,.dead,.dead,.dead,.dead,.cells [.str [68],.slice (some ((9,0))) 2 2,.slice none 0 0,.map (some (12))] 0 true 88,.cells [.str [66],.int .i64 0,.int .i64 0,.int .i64 0,.int .i64 0,.int .i64 0,.int .i64 0,.int .i64 0,.slice none 0 0,.str [72],.int .i64 1,.int .i64 2,.int .i64 500,.int .i64 0,.int .i64 0,.int .i64 90,.int .i64 95,.slice (some ((10,0))) 1 1] 9 true 49,.cells [.int .i64 8,.bool true,.int .i64 20,.int .i64 1,.slice (some ((11,0))) 1 1] 5 true 115,.cells [.str [66],.int .i64 0] 2 true 117,.maps [(.str [100,114,97,119,105,110,103],.func (.func 53) [.ptr (some ((8,0)))] []),(.str [102,101,97,116,117,114,101],.func (.func 54) [.ptr (some ((8,0)))] []),(.str [102,114,97,109,101],.func (.func 55) [.ptr (some ((8,0)))] []),(.str [100,105,109,101,110,115,105,111,110],.func (.func 56) [.ptr (some ((8,0)))] [])],.cells [.str [100,105,109,101,110,115,105,111,110],.str [66],.str [72],.str [121],.str [48],.str [48]] 1 true 9],.int .i64 0,[.dead,.dead,.dead,.dead,.dead,.dead,.dead,.dead,.cells [.str [68],.slice (some ((9,0))) 2 2,.slice (some ((17,0))) 1 1,.map (some (12))] 0 true 88,.cells [.str [66],.int .i64 0,.int .i64 0,.int .i64 0,.int .i64 0,.int .i64 0,.int .i64 0,.int .i64 0,.slice none 0 0,.str [72],.int .i64 1,.int .i64 2,.int .i64 500,.int .i64 0,.int .i64 0,.int .i64 90,.int .i64 95,.slice (some ((10,0))) 1 1] 9 true 49,.cells [.int .i64 8,.bool true,.int .i64 20,.int .i64 1,.slice (some ((11,0))) 1 1] 5 true 115,.cells [.str [66],.int .i64 0] 2 true 117,.maps [(.str [100,114,97,119,105,110,103],.func (.func 53) [.ptr (some ((8,0)))] []),(.str [102,101,97,116,117,114,101],.func (.func 54) [.ptr (some ((8,0)))] []),(.str [102,114,97,109,101],.func (.func 55) [.ptr (some ((8,0)))] []),(.str [100,105,109,101,110,115,105,111,110],.func (.func 56) [.ptr (some ((8,0)))] [])],.cells [.str [100,105,109,101,110,115,105,111,110],.str [66],.str [72],.str [121],.str [48],.str [48]] 1 true 9,.cells [.int .i64 0,.int .i64 0] 1 true 3,.cells [.str [66],.str [72],.int .i64 1,.int .i64 0,.int .i64 0] 0 true 94,.cells [.str [66],.str [72],.int .i64 1,.int .i64 0,.int .i64 0] 5 true 94,.cells [.str [66],.str [72],.int .i64 1,.int .i64 0,.int .i64 0] 5 true 94],[8]⟩
theorem G5c:(D5 prog pAw1 400).call 59 m59_7.args m59_7.heap fin=some (m59_7.val,m59_7.heap',m59_7.D):=by kernel_rfl
def m59_8:Memo:=⟨[.ptr (some ((8,0))),.slice (some ((10,0))) 11 11],[.dead,.dead,.dead,.dead,.dead,.dead,.dead,.dead,.cells [.str [68],.slice none 0 0,.slice none 0 0,.map (some (9))] 0 true 88,.maps [(.str [100,114,97,119,105,110,103],.func (.func 53) [.ptr (some ((8,0)))] []),(.str [102,101,97,116,117,114,101],.func (.func 54) [.ptr (some ((8,0)))] []),(.str [102,114,97,109,101],.func (.func 55) [.ptr (some ((8,0)))] []),(.str [100,105,109,101,110,115,105,111,110],.func (.func 56) [.ptr (some ((8,0)))] [])],.cells [.str [102,101,97,116,117,114,101],.str [72],.str [104,111,108,101],.str [122],.str [97,116],.str [53,48,48],.str [48],.str [48],.str [115,105,122,101],.str [57,48],.str [57,53]] 1 true 9],.int .i64 0,[.dead,.dead,.dead,.dead,.dead,.dead,.dead,.dead,.cells [.str [68],.slice (some ((19,0))) 1 1,.slice none 0 0,.map (some (9))] 0 true 88,.maps [(.str [100,114,97,119,105,110,103],.func (.func 53) [.ptr (some ((8,0)))] []),(.str [102,101,97,116,117,114,101],.func (.func 54) [.ptr (some ((8,0)))] []),(.str [102,114,97,109,101],.func (.func 55) [.ptr (some ((8,0)))] []),(.str [100,105,109,101,110,115,105,111,110],.func (.func 56) [.ptr (some ((8,0)))] [])],.cells [.str [102,101,97,116,117,114,101],.str [72],.str [104,111,108,101],.str [122],.str [97,116],.str [53,48,48],.str [48],.str [48],.str [115,105,122,101],.str [57,48],.str [57,53]] 1 true 9,.cells [.str [72],.int .i64 1,.int .i64 2,.int .i64 500,.int .i64 0,.int .i64 0,.int .i64 90,.int .i64 95,.slice none 0 0] 0 true 49,.dead,.cells [.str [53,48,48],.str [48],.str [48],.str [57,48],.str [57,53]] 1 true 9,.cells [.int .i64 500,.int .i64 0,.int .i64 0,.int .i64 90,.int .i64 95] 1 true 3,.cells [.str [68],.slice (some ((19,0))) 1 1,.slice none 0 0] 0 true 25,.cells [.str [72],.int .i64 1,.int .i64 2,.int .i64 500,.int .i64 0,.int .i64 0,.int .i64 90,.int .i64 95,.slice none 0 0] 0 true 49,.cells [.str [68],.slice (some ((19,0))) 1 1,.slice none 0 0] 0 true 25,.cells [.str [72],.int .i64 1,.int .i64 2,.int .i64 500,.int .i64 0,.int .i64 0,.int .i64 90,.int .i64 95,.slice none 0 0] 9 true 49,.cells [.str [72],.int .i64 1,.int .i64 2,.int .i64 500,.int .i64 0,.int .i64 0,.int .i64 90,.int .i64 95,.slice none 0 0] 9 true 49],[8]⟩
theorem G5d:(D5 prog pAw1 400).call 59 m59_8.args m59_8.heap fin=some (m59_8.val,m59_8.heap',m59_8.D):=by kernel_rfl
end Go.Proofs.Tryz
namespace Go.Proofs.Tryz
open Go.Ad
def m59_9:Memo:=⟨[.ptr (some ((8,0))),.slice (some ((11,0))) 6 6],[.dead,.dead,.dead,.dead,.dead,.dead,.dead,.dead,.cells [.str [68],.slice (some ((9,0))) 1 1,.slice none 0 0,.map (some (10))] 0 true 88,.cells [.str [72],.int .i64 1,.int .i64 2,.int .i64 500,.int .i64 0,.int .i64 0,.int .i64 90,.int .i64 95,.slice none 0 0] 9 true 49,.maps [(.str [100,114,97,119,105,110,103],.func (.func 53) [.ptr (some ((8,0)))] []),(.str [102,101,97,116,117,114,101],.func (.func 54) [.ptr (some ((8,0)))] []),(.str [102,114,97,109,101],.func (.func 55) [.ptr (some ((8,0)))] []),(.str [100,105,109,101,110,115,105,111,110],.func (.func 56) [.ptr (some ((8,0)))] [])],.cells [.str [102,114,97,109,101],.str [72],.str [112,111,115,105,116,105,111,110],.str [100,105,115,99],.str [50,48,40,77,41],.str [66]] 1 true 9],.int .i64 0,[.dead,.dead,.dead,.dead,.dead,.dead,.dead,.dead,.cells [.str [68],.slice (some ((9,0))) 1 1,.slice none 0 0,.map (some (10))] 0 true 88,.cells [.str [72],.int .i64 1,.int .i64 2,.int .i64 500,.int .i64 0,.int .i64 0,.int .i64 90,.int .i64 95,.slice (some ((21,0))) 1 1] 9 true 49,.maps [(.str [100,114,97,119,105,110,103],.func (.func 53) [.ptr (some ((8,0)))] []),(.str [102,101,97,116,117,114,101],.func (.func 54) [.ptr (some ((8,0)))] []),(.str [102,114,97,109,101],.func (.func 55) [.ptr (some ((8,0)))] []),(.str [100,105,109,101,110,115,105,111,110],.func (.func 56) [.ptr (some ((8,0)))] [])],.cells [.str [102,114,97,109,101],.str [72],.str [112,111,115,105,116,105,111,110],.str [100,105,115,99],.str [50,48,40,77,41],.str [66]] 1 true 9,.cells [.int .i64 8,.bool true,.int .i64 20,.int .i64 1,.slice (some ((18,0))) 1 1] 0 true 115,.cells [.str [112,111,115,105,116,105,111,110],.str [100,105,115,99],.str [50,48,40,77,41],.str [66]] 1 true 9,.cells [.slice (some ((13,2))) 2 2] 0 true 28,.cells [.str [115,116,114,97,105,103,104,116],.str [104,112],.str [104,112],.int .i64 0,.int .i64 0,.bool true,.str [102,108,97,116],.str [108,115],.str [],.int .i64 0,.int .i64 0,.bool false,.str [112,97,114,97,108,108,101,108],.str [108,104,112,115],.str [104,112],.int .i64 1,.int .i64 2,.bool true,.str [115,113,117,97,114,101],.str [108,104,112,115],.str [104,112],.int .i64 1,.int .i64 2,.bool true,.str [114,111,117,110,100],.str [104,112,98],.str [],.int .i64 0,.int .i64 0,.bool false,.str [115,112,104,101,114,101],.str [98],.str [],.int .i64 0,.int .i64 0,.bool false,.str [112,114,111,102,105,108,101],.str [108],.str [],.int .i64 0,.int .i64 3,.bool false,.str [114,117,110,111,117,116],.str [108,104,112],.str [],.int .i64 1,.int .i64 1,.bool false,.str [112,111,115,105,116,105,111,110],.str [108,104,112,115,98],.str [104,112,98],.int .i64 0,.int .i64 3,.bool true] 0 true 188,.cells [.int .i64 8,.bool true,.int .i64 20,.int .i64 1,.slice (some ((18,0))) 1 1] 0 true 115,.cells [.str [66],.int .i64 0] 2 true 117,.cells [.str [66],.int .i64 0] 2 true 117,.cells [.int .i64 8,.bool true,.int .i64 20,.int .i64 1,.slice (some ((18,0))) 1 1] 0 true 115,.cells [.int .i64 8,.bool true,.int .i64 20,.int .i64 1,.slice (some ((18,0))) 1 1] 5 true 115,.cells [.int .i64 8,.bool true,.int .i64 20,.int .i64 1,.slice (some ((18,0))) 1 1] 5 true 115],[9]⟩
theorem G5e:(D5 prog pAw1 400).call 59 m59_9.args m59_9.heap fin=some (m59_9.val,m59_9.heap',m59_9.D):=by kernel_rfl
def m59_10:Memo:=⟨[.ptr (some ((8,0))),.slice (some ((13,0))) 6 6],[.dead,.dead,.dead,.dead,.dead,.dead,.dead,.dead,.cells [.str [68],.slice (some ((9,0))) 1 1,.slice none 0 0,.map (some (12))] 0 true 88,.cells [.str [72],.int .i64 1,.int .i64 2,.int .i64 500,.int .i64 0,.int .i64 0,.int .i64 90,.int .i64 95,.slice (some ((10,0))) 1 1] 9 true 49,.cells [.int .i64 8,.bool true,.int .i64 20,.int .i64 1,.slice (some ((11,0))) 1 1] 5 true 115,.cells [.str [66],.int .i64 0] 2 true 117,.maps [(.str [100,114,97,119,105,110,103],.func (.func 53) [.ptr (some ((8,0)))] []),(.str [102,101,97,116,117,114,101],.func (.func 54) [.ptr (some ((8,0)))] []),(.str [102,114,97,109,101],.func (.func 55) [.ptr (some ((8,0)))] []),(.str [100,105,109,101,110,115,105,111,110],.func (.func 56) [.ptr (some ((8,0)))] [])],.cells [.str [100,105,109,101,110,115,105,111,110],.str [66],.str [72],.str [120],.str [52,57,48],.str [53,49,48]] 1 true 9],.int .i64 0,[.dead,.dead,.dead,.dead,.dead,.dead,.dead,.dead,.cells [.str [68],.slice (some ((9,0))) 1 1,.slice (some ((17,0))) 1 1,.map (some (12))] 0 true 88,.cells [.str [72],.int .i64 1,.int .i64 2,.int .i64 500,.int .i64 0,.int .i64 0,.int .i64 90,.int .i64 95,.slice (some ((10,0))) 1 1] 9 true 49,.cells [.int .i64 8,.bool true,.int .i64 20,.int .i64 1,.slice (some ((11,0))) 1 1] 5 true 115,.cells [.str [66],.int .i64 0] 2 true 117,.maps [(.str [100,114,97,119,105,110,103],.func (.func 53) [.ptr (some ((8,0)))] []),(.str [102,101,97,116,117,114,101],.func (.func 54) [.ptr (some ((8,0)))] []),(.str [102,114,97,109,101],.func (.func 55) [.ptr (some ((8,0)))] []),(.str [100,105,109,101,110,115,105,111,110],.func (.func 56) [.ptr (some ((8,0)))] [])],.cells [.str [100,105,109,101,110,115,105,111,110],.str [66],.str [72],.str [120],.str [52,57,48],.str [53,49,48]] 1 true 9,.cells [.int .i64 490,.int .i64 510] 1 true 3,.cells [.str [66],.str [72],.int .i64 0,.int .i64 490,.int .i64 510] 0 true 94,.cells [.str [66],.str [72],.int .i64 0,.int .i64 490,.int .i64 510] 5 true 94,.cells [.str [66],.str [72],.int .i64 0,.int .i64 490,.int .i64 510] 5 true 94],[8]⟩
theorem G1d:(D5 prog pAw1 400).call 59 m59_10.args m59_10.heap fin=some (m59_10.val,m59_10.heap',m59_10.D):=by kernel_rfl
def m59_11:Memo:=⟨[.ptr (some ((8,0))),.slice (some ((10,0))) 7 7],[.dead,.dead,.dead,.dead,.dead,.dead,.dead,.dead,.cells [.str [68],.slice none 0 0,.slice none 0 0,.map (some (9))] 0 true 88,.maps [(.str [100,114,97,119,105,110,103],.func (.func 53) [.ptr (some ((8,0)))] []),(.str [102,101,97,116,117,114,101],.func (.func 54) [.ptr (some ((8,0)))] []),(.str [102,114,97,109,101],.func (.func 55) [.ptr (some ((8,0)))] []),(.str [100,105,109,101,110,115,105,111,110],.func (.func 56) [.ptr (some ((8,0)))] [])],.cells [.str [102,101,97,116,117,114,101],.str [66],.str [112,108,97,110,101],.str [120],.str [97,116],.str [48],.str [48]] 1 true 9],.int .i64 4,[.dead,.dead,.dead,.dead,.dead,.dead,.dead,.dead,.cells [.str [68],.slice none 0 0,.slice none 0 0,.map (some (9))] 0 true 88,.maps [(.str [100,114,97,119,105,110,103],.func (.func 53) [.ptr (some ((8,0)))] []),(.str [102,101,97,116,117,114,101],.func (.func 54) [.ptr (some ((8,0)))] []),(.str [102,114,97,109,101],.func (.func 55) [.ptr (some ((8,0)))] []),(.str [100,105,109,101,110,115,105,111,110],.func (.func 56) [.ptr (some ((8,0)))] [])],.cells [.str [102,101,97,116,117,114,101],.str [66],.str [112,108,97,110,101],.str [120],.str [97,116],.str [48],.str [48]] 1 true 9],[]⟩
theorem G1e:(D5 prog pAw1 400).call 59 m59_11.args m59_11.heap fin=some (m59_11.val,m59_11.heap',m59_11.D):=by kernel_rfl
def G4d:List Memo:=[m59_1,m59_2,m59_3,m59_4,m59_5,m59_6,m59_7,m59_8,m59_9,m59_10,m59_11]
def pAw2:Prims:=pAw1.addh 59 (B8o 8 (B8t G4d))
theorem F4a {A:Amb} (hT:Tab A) (hG:gN prog<=A.G) (hM:Mx A):PrimOK prog A pAw2:=by
 have h0:=F3z hT hG hM
 refine h0.memo gsz func59 (by kernel_rfl) fun e he=>?_
 unfold G4d at he
 simp only [List.mem_cons,List.not_mem_nil,or_false] at he
 rcases he with rfl | rfl | rfl | rfl | rfl | rfl | rfl | rfl | rfl | rfl | rfl
 ·exact MemoOK.of_run F7 F8 h0 G4w
 ·exact MemoOK.of_run F7 F8 h0 G4x
 ·exact MemoOK.of_run F7 F8 h0 G4y
 ·exact MemoOK.of_run F7 F8 h0 G4z
 ·exact MemoOK.of_run F7 F8 h0 G5a
 ·exact MemoOK.of_run F7 F8 h0 G5b
 ·exact MemoOK.of_run F7 F8 h0 G5c
 ·exact MemoOK.of_run F7 F8 h0 G5d
 ·exact MemoOK.of_run F7 F8 h0 G5e
 ·exact MemoOK.of_run F7 F8 h0 G1d
 ·exact MemoOK.of_run F7 F8 h0 G1e
end Go.Proofs.Tryz
