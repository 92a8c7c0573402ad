/- Drawings: what a feature needs, as a new list. -/
import Derived.Test.YtoboneiigikidaaGreatDoorFo
import Derived.Test.YtoboneiigikidaaGreatDoorAdFind
import Derived.Test.YtoboneiigikidaaGreatDoorShelf
import Derived.Test.YtoboneiigikidaaGreatDoorAdPrim
import Derived.Lib.Bytealg
noncomputable section
namespace Go.Proofs.Tryz
open Go.Ad
def spR2:SP:=⟨dr 4++[.list 8]++dr 21,dd8++[.vec 1 9]⟩
theorem G8l(k:Nat)(d:Drw)(V v:List Txt):F3 prog (D6 prog (pSo k) 60) A8o r10 (UN d V v (.tuple [.bool false]) false) (BL d V v) (I1 (fun _=>spR2) 8 []) =
  brK (D8 (v.length=v.length/\D7 v=D7 (R3 v.length (D7 v))/\(9:Nat)=9/\v.length<4611686018427387904)) (brK (D8 (v.length=(U7 (R3 v.length (D7 v))).length/\D7 (U7 (R3 v.length (D7 v)))=D7 (R3 v.length (D7 (U7 (R3 v.length (D7 v)))))/\(9:Nat)=9/\v.length<4611686018427387904))
   (some (.ret,[.n (Lib.compact (R3 v.length (D7 (U7 (R3 v.length (D7 v)))))).length,.n (Lib.compact (R3 v.length (D7 (U7 (R3 v.length (D7 v)))))).length,.r (D7 (Lib.compact (R3 v.length (D7 (U7 (R3 v.length (D7 v)))))))])) none) none:=by kernel_rfl
theorem H1t:okD 8 [] 0 spR2.h=true:=by kernel_rfl
theorem F6z{A:Amb}{k:Nat}(hp:PrimOK prog A (pSo k))(d:Drw)(V v:List Txt)(hv:v.length<4611686018427387904)(L:List Txt)(hL:Go.Ad.setF v=L){D:List Nat}(hD:∀ b,b∈D->8<=b) :
  SEB prog A (Bg 8) r10 ⟨UN d V v (.tuple [.bool false]) false,BL d V v,D⟩ .ret ⟨spR2.rho [.n L.length,.n L.length,.r (D7 L)],spR2.heap [.n L.length,.n L.length,.r (D7 L)],[]⟩:=by
 have hk:=G8l k d V v
 rw[A2h] at hk
 have e:R3 v.length (D7 (U7 v))=U7 v:=by
  have:=A2h (U7 v)
  rw[A3l] at this
  exact this
 rw[e,D5 ⟨rfl,rfl,rfl,hv⟩,D5 ⟨(A3l v).symm,rfl,rfl,hv⟩,show Lib.compact (U7 v)=Go.Ad.setF v from A7b v,hL] at hk
 refine SEB.wk_in (Wk.dset (D2:=[]) fun b hb hlt=>?_) (SEB.of_KP (e:=.ret) (sp:=fun _=>spR2) (B0:=Bg 8) (ds:=[]) F8 G5 hp (.none _) rfl hk H1t)
 have:=hD b hb
 have h8:(Bg 8).length=8:=rfl
 omega
theorem G4n{A:Amb}{k:Nat}(hp:PrimOK prog A (pSo k)){d:Drw}{s:Txt}(h1:GrD d)(h2:s∈F9 d)(h3:d.l.length<k)(hlen:(dfs (nbO d) (k-1) [] s).length<1000000) :
  SEB prog A (Bg 8) A0v ⟨[.agg d.av,.sstr s]++List.replicate 24 G8,Bg 8,[]⟩ .ret ⟨spR2.rho [.n (Go.Ad.setF (dfs (nbO d) (k-1) [] s)).length,.n (Go.Ad.setF (dfs (nbO d) (k-1) [] s)).length,.r (D7 (Go.Ad.setF (dfs (nbO d) (k-1) [] s)))],spR2.heap [.n (Go.Ad.setF (dfs (nbO d) (k-1) [] s)).length,.n (Go.Ad.setF (dfs (nbO d) (k-1) [] s)).length,.r (D7 (Go.Ad.setF (dfs (nbO d) (k-1) [] s)))],[]⟩:=by
 have hc:E94 k (A9 d) s [] (A94 s) (H94 d []):=by
  refine⟨⟨?_,?_,?_⟩,rfl,?_⟩
  ·rw[E8]; exact h1
  ·rw[E8]; exact h2
  ·rw[E8]
   unfold left
   have:=List.length_filter_le (fun x=>decide (x∉([]:List Txt))) (F9 d)
   have h4:(F9 d).length=d.l.length:=by unfold F9; rw[List.length_map]
   omega
  ·rw[E8]
 have hk4:=rn4 k d s
 rw[D5 hc,E8] at hk4
 generalize dfs (nbO d) (k-1) [] s=V at hk4 hlen ⊢
 rw[C2e]
 refine SEB.seq (SEB.of_K F8 G5 hp (.none _) (rn0 k d s)) (SEB.seq (SEB.of_K F8 G5 hp (.none _) (rn1 k d s)) (SEB.seq (SEB.of_K F8 G5 hp (.none _) (rn2 k d s)) (SEB.seq (SEB.of_K F8 G5 hp (.none _) (rn3 k d s)) (SEB.seq (SEB.of_K F8 G5 hp (.none _) hk4) (SEB.seq (SEB.of_K F8 G5 hp (.none _) (rn5 k d V)) ?_)))))
 have hx:=SEBx.rangeSet (A:=A) (B0:=Bg 8) (prims:=pSo k) (n:=60) F8 G5 hp (U0:=U6 d V) (U1:=R9 (U6 d V) (some 14) (.map (some 9))) (Bs:=B6 d V) (B1:=B6 d V) (D0:=((((([]++[])++[10])++[])++[11])++[9])++[]) (D1:=[]) (mb:=9) (it:=15) (tn:=16) (te:=18) (tok:=17) (mt:=14) (i1:=6) (i2:=7) (i3:=8) (id0:=0) (id1:=1)
  (ops1:=o6) (ops2:=o7) (ops3:=o8) (c4:=c9) (l:=V) (l1:=o6.toList.dropLast) (o1:=G0q (A9q m6)) (ty:=130) (kt:=9) (et:=4) (U:=fun v=>UL d V v) (Bv:=fun v=>BL d V v) (Un:=fun v=>UN d V v (.tuple [.bool true,.bad,.bad]) true) (Ue:=fun v=>UN d V v (.tuple [.bool false]) false)
  (by kernel_rfl) (by kernel_rfl) (by kernel_rfl) (by kernel_rfl) (by kernel_rfl) (q6 k d V) rfl rfl
  ((Wk.of_nrmP (sp:=fun _=>sL) (ds:=[]) (m:=13) (B4t d V) (q6s d V) okL).trans (Wk.rowsQ (A:=A) (B0:=B6 d V++[.miter]) (U:=sL.rho (lfL d V 0 fun _=>[])) (D:=[]) (B:=sL.heap (lfL d V 0 fun _=>[])) (b:=13) (r':=D7 []) (ty:=9) rfl (fun h=>by rw[B4t] at h; omega) (fun i hi=>(Nat.not_lt_zero i hi).elim)))
  (fun _=>rfl) (fun _=>rfl) (o2:=E0d (A9q l6)) (by kernel_rfl) (by kernel_rfl) (by kernel_rfl) (by kernel_rfl) (fun v=>q7t k d V v) (fun v=>q7f k d V v) (fun _=>rfl) (fun _=>rfl) (fun _=>rfl)
  (o3:=E0d (A9q b8)) (by kernel_rfl) (by kernel_rfl) (by kernel_rfl) (by kernel_rfl) (fun v x hv _=>⟨UE d V v x,q8 k d V v x,by
   have hk:=q9 k d V v x
   rw[dT (show v.length+1<2147483648/\v.length=v.length from⟨by omega,rfl⟩)] at hk
   have h:=SEB.of_KP (A:=A) (e:=.normal) (sp:=fun _=>sL) (B0:=B6 d V++[.miter]) (ds:=[]) F8 G5 hp (.none _) (B4t d V) hk okL
   refine SEB.wk_out h ?_
   have w:=Wk.rowsQ (A:=A) (B0:=B6 d V++[.miter]) (U:=sL.rho (lfL d V (v.length+1) (K6 v.length (D7 v) [.sstr x]))) (D:=[]) (B:=sL.heap (lfL d V (v.length+1) (K6 v.length (D7 v) [.sstr x]))) (b:=13) (r':=D7 (v++[x])) (ty:=9) rfl (fun h=>by rw[B4t] at h; omega) (fun i hi=>A2n v x hi)
   have e:(v++[x]).length=v.length+1:=by simp
   unfold UL BL
   rw[e]
   exact w⟩)
 rw[<- G0t] at hx
 refine SEBx.seq hx fun st hQ=>?_
 obtain⟨v,hv1,hv2,rfl⟩:=hQ
 refine F6z hp d V v (by omega) (Go.Ad.setF V) (C0k hv1) fun b hb=>?_
 simp at hb
 have h12:(B6 d V).length=12:=rfl
 omega
theorem D6w{A:Amb}(hT:Tab A)(hG:gN prog<=A.G){d:Drw}{s:Txt}(h1:GrD d)(h2:s∈F9 d) :
  CallT prog A 45 [.agg d.av,.sstr s] (Bg 8) (.sslice 8 0 (J6 d s).length) (Bg 8++[.vec (J6 d s).length (D7 (J6 d s)) 1 9]) []:=by
 have h3:=h1.len
 have hs:=G4n (k:=100) (E9r hT hG 100) h1 h2 (by omega) (by have:=C6e h1 h2; show(dfs (nbO d) 99 [] s).length<_; omega)
 rw[show(100:Nat)-1=99 from rfl,A8n h1 h2] at hs
 exact A5b func45 (show f45.body=some A0v by kernel_rfl) hs (fun id=>by simp) (vs:=[.sslice 8 0 (J6 d s).length]) (by kernel_rfl)
def Mx(A:Amb):Prop:=∃ m:Int,∀ w:World,(∀ c,c<A.G->w.heap[c]?=A.base c)->w.cell? ⟨0,0,none⟩=some (.int .i64 m)
def E6i:List AV->Option AV
 | [.str s,.int .u8 c]=>some (.int .i64 (Lib.countByte s c.toNat.toUInt8))
 | _=>none
def E0b:List AV->Tr AV
 | [.str s,.str cs]=>bif decide (s.length<4294967281) then .leaf (.int .i64 (Lib.index s cs)) else .fail
 | _=>.fail
def D1i:List AV->Tr AV
 | [.str s,.str o,.str n,.int .i64 k]=>bif decide (s.length<4294967281)&&decide (1<=o.length)&&decide (s.length+Lib.count s o*n.length<=140737488355328) then .leaf (.str (Lib.replace s o n k)) else .fail
 | _=>.fail
def strOf:AV->Option (List UInt8)
 | .str s=>some s
 | _=>none
def strsOf(B:Heap)(b o n:Nat):Option (List (List UInt8)):=match B[b]? with
 | some (.cells cs _ _ _)=>if o+n<=cs.length then((cs.drop o).take n).mapM strOf else none
 | _=>none
def F9o(args:List AV)(B:Heap):Tr (AV×Heap×List Nat):=match args with
 | [.slice none 0 0,.str _]=>.leaf (.str [],B,[])
 | [.slice (some (b,o)) n _,.str sep]=>(match strsOf B b o n with
  | some xs=>bif decide (xs.length<=140737488355328)&&decide ((Lib.join xs sep).length<=140737488355328) then .leaf (.str (Lib.join xs sep),B,[]) else .fail
  | none=>.fail)
 | _=>.fail
theorem C2c{w w':World}(h:RowKit.Below w.heap.size w w'):Quiet w w':=⟨h.size,h.block,h.tape,h.os,h.output⟩
theorem mkS{b:ByteArray}{s:List UInt8}(h:b.data.toList=s):b=⟨s.toArray⟩:=by
 subst h; cases b; simp
theorem G7f{A:Amb}{Z:Emb}{B:Heap}{w:World}(hs:Sim A Z B w.heap){b o n m:Nat}{xs:List (List UInt8)}(h:strsOf B b o n=some xs){v:Value}(hv:VR Z (.slice (some (b,o)) n m) v){sep:ByteArray}(h1:xs.length<=140737488355328)(h2:(Lib.join xs sep.data.toList).length<=140737488355328) :
  Calls prog 28 #[v,.string sep] w fun e w'=>e=.returned (.string ⟨(Lib.join xs sep.data.toList).toArray⟩)/\Quiet w w':=by
 unfold strsOf at h
 split at h
 case h_2=>cases h
 rename_i cs es rw ty hb
 split at h
 case isFalse=>cases h
 rename_i hlen
 obtain⟨g1,g2⟩:=B9n h
 have hl:xs.length=n:=by rw[g1,List.length_take,List.length_drop]; omega
 simp only[VR] at hv
 obtain⟨l,cap,off,hl1,q1,q2,q3,q4,q5,rfl⟩:=hv
 obtain⟨_,arr,_,fz,p1,p2,p3,p4,_⟩:=hs.obj b _ l hb hl1
 rcases Nat.eq_zero_or_pos n with hn | hn
 ·have hx:xs=[]:=List.eq_nil_of_length_eq_zero (by omega)
  subst hx hn
  exact(strings_Join_none (some ⟨l.c,off,none⟩) cap sep w).mono fun e w' ⟨he,hw⟩=>⟨he,hw ▸ Quiet.refl _⟩
 ·have hoff:off=l.d+o:=by rcases q3 with q3 | q3<;>omega
  subst hoff
  have hm:(xs.map fun s=>(⟨s.toArray⟩:ByteArray)).map (·.data.toList)=xs:=by
   rw[List.map_map]
   have:((fun x:ByteArray=>x.data.toList) ∘ fun s:List UInt8=>(⟨s.toArray⟩:ByteArray))=id:=by funext s; simp
   rw[this,List.map_id]
  have hj:=strings_Join l.c (l.d+o) cap (xs.map fun s=>(⟨s.toArray⟩:ByteArray)) sep w (fun j x hx=>by
   rw[List.getElem?_map,oM] at hx
   obtain⟨s,hx,rfl⟩:=hx
   have hjn:j<n:=by rw[<- hl]; exact(gS.1 hx).1
   have hjl:j<((cs.drop o).take n).length:=by rw[List.length_take,List.length_drop]; omega
   obtain⟨s',k1,k2⟩:=g2 j _ (gE hjl)
   rw[hx] at k1; cases k1
   have hc:cs[o+j]?=some (.str s):=by
    have e1:((cs.drop o).take n)[j]?=cs[o+j]?:=by rw[tK,if_pos hjn,dP]
    rw[gE hjl] at e1
    rw[<- e1]
    unfold strOf at k2
    split at k2
    ·rename_i hh; cases k2; rw[hh]
    ·cases k2
   obtain⟨v,r1,r2⟩:=p4 _ _ hc
   simp only[VR] at r2
   obtain⟨bb,hbb,rfl⟩:=r2
   rw[cell_of p1,Nat.add_assoc,r1,mkS hbb]) (hs.lt b l hl1) (by simpa using h1) (by rw[List.length_map,hl]; omega) (by rw[hm]; exact h2)
  rw[hm,List.length_map,hl] at hj
  exact hj.mono fun e w' ⟨he,hw⟩=>⟨he,C2c hw⟩
def pLb:Prims:=(((lib2.addt 85 E0b).addt 40 D1i).addx 138 E6i).addh 28 F9o
theorem G3n{A:Amb}(hT:Tab A)(hM:Mx A):PrimOK prog A pLb:=by
 obtain⟨m,hM⟩:=hM
 refine PrimOK.put (PrimOK.addx (PrimOK.libt (PrimOK.libt (E0i hT) func85 (by kernel_rfl) ?_) func40 (by kernel_rfl) ?_) ?_) func28 (by kernel_rfl) ?_
 ·intro args v hg Z w xs hamb _ hx
  unfold E0b at hg
  split at hg
  ·rename_i s cs
   cases hb:decide (s.length<4294967281) with
   | false=>rw[hb] at hg; cases hg
   | true =>
    rw[hb] at hg
    cases hg
    have hb:=of_decide_eq_true hb
    simp only[VRL,VR] at hx
    obtain⟨_,_,hxs,⟨b1,rfl,rfl⟩,_,_,rfl,⟨b2,rfl,rfl⟩,rfl⟩:=hx
    rw[B5q hxs]
    have hl1:b1.data.toList.length=b1.size:=by simp
    refine(strings_Index b1 b2 m w (by omega) (hM w hamb)).mono fun e w' ⟨h1,h2⟩=>?_
    subst h1 h2
    exact⟨_,rfl,by simp[VR],Quiet.refl _⟩
  ·cases hg
 ·intro args v hg Z w xs hamb _ hx
  unfold D1i at hg
  split at hg
  ·rename_i s o n k
   cases hb:(decide (s.length<4294967281)&&decide (1<=o.length)&&decide (s.length+Lib.count s o*n.length<=140737488355328)) with
   | false=>rw[hb] at hg; cases hg
   | true =>
    rw[hb] at hg
    cases hg
    simp only[bA,dQ] at hb
    simp only[VRL,VR] at hx
    obtain⟨_,_,hxs,⟨b1,rfl,rfl⟩,_,_,rfl,⟨b2,rfl,rfl⟩,_,_,rfl,⟨b3,rfl,rfl⟩,_,_,rfl,rfl,rfl⟩:=hx
    have e:xs=#[.string b1,.string b2,.string b3,.int .i64 k]:=by apply Array.ext'; simpa using hxs
    rw[e]
    have hl1:b1.data.toList.length=b1.size:=by simp
    have hl2:b2.data.toList.length=b2.size:=by simp
    have hl3:b3.data.toList.length=b3.size:=by simp
    refine(strings_Replace b1 b2 b3 k m w (by omega) (hM w hamb) (by omega) (by rw[<- hl1,<- hl3]; exact hb.2)).mono fun e w' ⟨h1,h2⟩=>?_
    subst h1
    exact⟨_,rfl,by simp only[VR]; exact⟨_,by simp,rfl⟩,C2c h2⟩
  ·cases hg
 ·intro args v hg Z w xs hx
  unfold E6i at hg
  split at hg
  ·rename_i s c
   cases hg
   simp only[VRL,VR] at hx
   obtain⟨_,_,hxs,⟨b1,rfl,rfl⟩,_,_,rfl,rfl,rfl⟩:=hx
   rw[B5q hxs]
   exact⟨_,D9x (fn:=f138) func138 (by kernel_rfl) (by kernel_rfl) (by kernel_rfl) (e:=Extern.BytealgCount.count) (by kernel_rfl) (Lib.run_countString b1 c w),by simp[VR]⟩
  ·cases hg
 ·intro args B v B' D hg
  unfold F9o at hg
  split at hg
  ·cases hg
   refine⟨.refl _,fun Z w xs hs hd _ hx=>?_⟩
   simp only[VRL,VR] at hx
   obtain⟨_,_,hxs,⟨_,_,rfl⟩,_,_,rfl,⟨b2,rfl,rfl⟩,rfl⟩:=hx
   rw[B5q hxs]
   refine(strings_Join_none none 0 b2 w).mono fun e w' ⟨h1,h2⟩=>?_
   subst h1 h2
   exact⟨_,Z,rfl,by simp only[VR]; exact⟨_,rfl,rfl⟩,.refl hs hd⟩
  ·rename_i b o n mm sep
   split at hg
   ·rename_i ss hss
    cases hb:(decide (ss.length<=140737488355328)&&decide ((Lib.join ss sep).length<=140737488355328)) with
    | false=>rw[hb] at hg; cases hg
    | true =>
     rw[hb] at hg
     cases hg
     simp only[bA,dQ] at hb
     refine⟨.refl _,fun Z w xs hs hd _ hx=>?_⟩
     simp only[VRL] at hx
     obtain⟨v0,_,hxs,h1,_,_,rfl,h2,rfl⟩:=hx
     simp only[VR] at h2
     obtain⟨b2,rfl,rfl⟩:=h2
     rw[B5q hxs]
     refine(G7f hs hss h1 hb.1 hb.2).mono fun e w' ⟨h1,h2⟩=>?_
     subst h1
     exact⟨_,Z,rfl,by simp only[VR]; exact⟨_,by simp,rfl⟩,h2.after hs hd⟩
   ·cases hg
  ·cases hg
def F3u:Fea:=⟨[66],0,0,0,0,0,0,0,[]⟩
def F3w:Fea:=⟨[72],1,2,500,0,0,90,95,[⟨8,true,20,1,[⟨[66],0⟩]⟩]⟩
def G6c:Fea:=⟨[72],1,2,500,0,0,90,95,[]⟩
def drw1:Drw:=⟨[68],[F3u,F3w],[⟨[66],[72],0,490,510⟩]⟩
def G1r:Drw:=⟨[68],[F3u,F3w],[⟨[66],[72],0,501,510⟩]⟩
def G1s:Drw:=⟨[68],[F3u,F3w],[⟨[66],[72],1,0,0⟩]⟩
def G1t:Drw:=⟨[68],[F3w],[⟨[66],[72],0,490,510⟩]⟩
def G1u:Drw:=⟨[68],[F3u,G6c],[]⟩
def F1x:List (Drw×Int):=[(drw1,0),(G1r,16),(G1s,14),(G1t,6),(G1u,0)]
theorem ck1:O7 drw1=0:=by kernel_rfl
theorem ck2:O7 G1r=16:=by kernel_rfl
theorem ck3:O7 G1s=14:=by kernel_rfl
theorem ck4:O7 G1t=6:=by kernel_rfl
theorem ck5:O7 G1u=0:=by kernel_rfl
theorem G7j:J6 drw1 [72]=[[66]]:=by kernel_rfl
theorem nmH:[72]∈F9 drw1:=by decide
theorem B9w{d:Drw}(h:(decide (d.l.length<100)&&d.l.all fun x=>szF x&&decide (x.l.length<100)&&x.l.all fun y=>decide (y.l.length<100))=true)(h2:(I8 d.s&&decide (d.m.length<100)&&d.m.all fun y=>I8 y.f&&I8 y.t)=true):OkD d:=by
 simp only[bA,dQ,List.all_eq_true] at h h2
 obtain⟨h0,h1⟩:=h
 obtain⟨⟨g0,g1⟩,g2⟩:=h2
 have hf:∀ i,i<d.l.length->D9 d i∈d.l:=fun i hi=>by unfold D9; rw[gD,gE hi]; exact List.getElem_mem hi
 have hk:∀ (f:Fea) k,k<f.l.length->F7 f k∈f.l:=fun f k hk=>by unfold F7; rw[gD,gE hk]; exact List.getElem_mem hk
 have hm:∀ i,i<d.m.length->K8 d i∈d.m:=fun i hi=>by unfold K8; rw[gD,gE hi]; exact List.getElem_mem hi
 exact⟨by omega,fun i hi=>(h1 _ (hf i hi)).1.1,fun i hi=>by have:=(h1 _ (hf i hi)).1.2; omega,fun i k hi hk'=>by have:=(h1 _ (hf i hi)).2 _ (hk _ k hk'); omega,g0,by omega,fun i hi=>g2 _ (hm i hi)⟩
theorem H1u:OkD drw1:=B9w (by decide +kernel) (by decide +kernel)
theorem H1v:OkD G1r:=B9w (by decide +kernel) (by decide +kernel)
theorem H1w:OkD G1s:=B9w (by decide +kernel) (by decide +kernel)
theorem H1x:OkD G1t:=B9w (by decide +kernel) (by decide +kernel)
theorem H1y:OkD G1u:=B9w (by decide +kernel) (by decide +kernel)
def C6u(d:Drw):List (Drw×Int)->Option Int
 | []=>none
 | (e,n)::r=>bif C2u d e then some n else C6u d r
theorem C3k{d:Drw}{n:Int}:∀ {l:List (Drw×Int)},C6u d l=some n->(d,n)∈l
 | [],h=>by cases h
 | (e,m)::r,h=>by
  unfold C6u at h
  cases hc:C2u d e with
  | true=>rw[hc] at h; cases h; rw[D0s hc]; simp
  | false=>rw[hc] at h; exact List.mem_cons_of_mem _ (C3k h)
def x13(args:List AV)(B:Heap):Option Int:=match args with
 | [.agg l]=>(match E0y B l with | some d=>C6u d F1x | none=>none)
 | _=>none
def x45(args:List AV)(B:Heap):Option (List Txt):=match args with
 | [.agg l,.str s]=>(match E0y B l with | some d=>bif C2u d drw1&&B3q s [72] then some [[66]] else none | none=>none)
 | _=>none
def pAw0:Prims:=(pLb.addh 13 fun args B=>match x13 args B with | some n=>.leaf (.int .i64 n,B,[]) | none=>.fail).addh 45 fun args B=>match x45 args B with | some L=>.leaf (F6y B L,F0c B L 9,[]) | none=>.fail
theorem F8y{d:Drw}{n:Int}(h:(d,n)∈F1x):OkD d/\O7 d=n:=by
 unfold F1x at h
 simp only[List.mem_cons,pI,List.not_mem_nil,or_false] at h
 rcases h with⟨rfl,rfl⟩ | ⟨rfl,rfl⟩ | ⟨rfl,rfl⟩ | ⟨rfl,rfl⟩ | ⟨rfl,rfl⟩
 ·exact⟨H1u,ck1⟩
 ·exact⟨H1v,ck2⟩
 ·exact⟨H1w,ck3⟩
 ·exact⟨H1x,ck4⟩
 ·exact⟨H1y,ck5⟩
theorem F6e{A:Amb}(hT:Tab A)(hG:gN prog<=A.G)(hM:Mx A):PrimOK prog A pAw0:=by
 refine PrimOK.addX (PrimOK.addXi (G3n hT hM) hG func13 (by kernel_rfl) x13 fun args B n h=>?_) hG func45 (by kernel_rfl) (ty:=9) (by decide) x45 fun args B L h=>?_
 ·unfold x13 at h
  split at h
  ·rename_i l
   split at h
   ·rename_i d hd
    obtain⟨h1,h2⟩:=F8y (C3k h)
    obtain⟨B',hca⟩:=Ca.of_finV (G7o d h1)
    refine⟨[.agg d.av],B',fun Z w xs hs hx=>?_,by rw[gsz,<- h2]; exact(CallT.of_Ca F8 G5 (E0s hT hG) hca).2⟩
    simp only[VRL,VR] at hx ⊢
    obtain⟨y,r,rfl,⟨a,rfl,q⟩,rfl⟩:=hx
    exact⟨_,_,rfl,⟨a,rfl,D2y hs hd q⟩,rfl⟩
   ·cases h
  ·cases h
 ·unfold x45 at h
  split at h
  ·rename_i l s
   split at h
   ·rename_i d hd
    cases hc:(C2u d drw1&&B3q s [72]) with
    | false=>rw[hc] at h; cases h
    | true =>
     rw[hc] at h
     cases h
     rw[bA] at hc
     have e1:=D0s hc.1
     have e2:=A4w hc.2
     subst e1 e2
     have hgr:GrD drw1:=B3s ck1
     have hn:=D6w hT hG hgr nmH
     rw[G7j] at hn
     refine⟨[.agg drw1.av,.sstr [72]],fun Z w xs hs hx=>?_,by rw[gsz]; exact hn⟩
     simp only[VRL,VR] at hx ⊢
     obtain⟨y,r,rfl,⟨a,rfl,q⟩,y2,r2,rfl,h2,rfl⟩:=hx
     exact⟨_,_,rfl,⟨a,rfl,D2y hs hd q⟩,_,_,rfl,h2,rfl⟩
   ·cases h
  ·cases h
def m106_1:Memo:=⟨[.str [112,111,115,105,116,105,111,110,32,100,105,115,99,32,50,48,40,77,41,32,66]],[.dead,.dead,.dead,.dead,.dead,.dead,.dead,.dead],.tuple [.agg [.int .i64 8,.bool true,.int .i64 20,.int .i64 1,.slice (some ((14,0))) 1 1],.int .i64 0],[.dead,.dead,.dead,.dead,.dead,.dead,.dead,.dead,.cells [.int .i64 8,.bool true,.int .i64 20,.int .i64 1,.slice (some ((14,0))) 1 1] 0 true 115,.cells [.str [112,111,115,105,116,105,111,110],.str [100,105,115,99],.str [50,48,40,77,41],.str [66]] 1 true 9,.cells [.slice (some ((9,2))) 2 2] 0 true 28,.cells [.str [115,116,114,97,105,103,104,116],.str [104,112],.str [104,112],.int .i64 0,.int .i64 0,.bool true,.str [102,108,97,116],.str [108,115],.str [],.int .i64 0,.int .i64 0,.bool false,.str [112,97,114,97,108,108,101,108],.str [108,104,112,115],.str [104,112],.int .i64 1,.int .i64 2,.bool true,.str [115,113,117,97,114,101],.str [108,104,112,115],.str [104,112],.int .i64 1,.int .i64 2,.bool true,.str [114,111,117,110,100],.str [104,112,98],.str [],.int .i64 0,.int .i64 0,.bool false,.str [115,112,104,101,114,101],.str [98],.str [],.int .i64 0,.int .i64 0,.bool false,.str [112,114,111,102,105,108,101],.str [108],.str [],.int .i64 0,.int .i64 3,.bool false,.str [114,117,110,111,117,116],.str [108,104,112],.str [],.int .i64 1,.int .i64 1,.bool false,.str [112,111,115,105,116,105,111,110],.str [108,104,112,115,98],.str [104,112,98],.int .i64 0,.int .i64 3,.bool true] 0 true 188,.cells [.int .i64 8,.bool true,.int .i64 20,.int .i64 1,.slice (some ((14,0))) 1 1] 0 true 115,.cells [.str [66],.int .i64 0] 2 true 117,.cells [.str [66],.int .i64 0] 2 true 117],[]⟩
theorem G3u:(D6 prog pAw0 400).call 106 m106_1.args m106_1.heap fin=some (m106_1.val,m106_1.heap',m106_1.D):=by kernel_rfl
def G0u:List Memo:=[m106_1]
def pAw1:Prims:=pAw0.addh 106 (B9j 8 (B9o G0u))
theorem F6f{A:Amb}(hT:Tab A)(hG:gN prog<=A.G)(hM:Mx A):PrimOK prog A pAw1:=by
 have h0:=F6e hT hG hM
 refine h0.memo gsz func106 (by kernel_rfl) fun e he=>?_
 unfold G0u at he
 simp only[List.mem_cons,List.not_mem_nil,or_false] at he
 subst he
 exact MemoOK.of_run F8 G5 h0 G3u
def m59_1:Memo:=⟨[.ptr (some ((8,0))),.slice (some ((10,0))) 2 2],[.dead,.dead,.dead,.dead,.dead,.dead,.dead,.dead,.cells [.str [],.slice none 0 0,.slice none 0 0,.map (some (9))] 0 true 88,.maps [(.str [100,114,97,119,105,110,103],.func (.func 53) [.ptr (some ((8,0)))] []),(.str [102,101,97,116,117,114,101],.func (.func 54) [.ptr (some ((8,0)))] []),(.str [102,114,97,109,101],.func (.func 55) [.ptr (some ((8,0)))] []),(.str [100,105,109,101,110,115,105,111,110],.func (.func 56) [.ptr (some ((8,0)))] [])],.cells [.str [100,114,97,119,105,110,103],.str [68]] 1 true 9],.int .i64 0,[.dead,.dead,.dead,.dead,.dead,.dead,.dead,.dead,.cells [.str [68],.slice none 0 0,.slice none 0 0,.map (some (9))] 0 true 88,.maps [(.str [100,114,97,119,105,110,103],.func (.func 53) [.ptr (some ((8,0)))] []),(.str [102,101,97,116,117,114,101],.func (.func 54) [.ptr (some ((8,0)))] []),(.str [102,114,97,109,101],.func (.func 55) [.ptr (some ((8,0)))] []),(.str [100,105,109,101,110,115,105,111,110],.func (.func 56) [.ptr (some ((8,0)))] [])],.cells [.str [100,114,97,119,105,110,103],.str [68]] 1 true 9],[8]⟩
theorem G8c:(D6 prog pAw1 400).call 59 m59_1.args m59_1.heap fin=some (m59_1.val,m59_1.heap',m59_1.D):=by kernel_rfl
def m59_2:Memo:=⟨[.ptr (some ((8,0))),.slice (some ((10,0))) 8 8],[.dead,.dead,.dead,.dead,.dead,.dead,.dead,.dead,.cells [.str [68],.slice none 0 0,.slice none 0 0,.map (some (9))] 0 true 88,.maps [(.str [100,114,97,119,105,110,103],.func (.func 53) [.ptr (some ((8,0)))] []),(.str [102,101,97,116,117,114,101],.func (.func 54) [.ptr (some ((8,0)))] []),(.str [102,114,97,109,101],.func (.func 55) [.ptr (some ((8,0)))] []),(.str [100,105,109,101,110,115,105,111,110],.func (.func 56) [.ptr (some ((8,0)))] [])],.cells [.str [102,101,97,116,117,114,101],.str [66],.str [112,108,97,110,101],.str [120],.str [97,116],.str [48],.str [48],.str [48]] 1 true 9],.int .i64 0,[.dead,.dead,.dead,.dead,.dead,.dead,.dead,.dead,.cells [.str [68],.slice (some ((18,0))) 1 1,.slice none 0 0,.map (some (9))] 0 true 88,.maps [(.str [100,114,97,119,105,110,103],.func (.func 53) [.ptr (some ((8,0)))] []),(.str [102,101,97,116,117,114,101],.func (.func 54) [.ptr (some ((8,0)))] []),(.str [102,114,97,109,101],.func (.func 55) [.ptr (some ((8,0)))] []),(.str [100,105,109,101,110,115,105,111,110],.func (.func 56) [.ptr (some ((8,0)))] [])],.cells [.str [102,101,97,116,117,114,101],.str [66],.str [112,108,97,110,101],.str [120],.str [97,116],.str [48],.str [48],.str [48]] 1 true 9,.cells [.str [66],.int .i64 0,.int .i64 0,.int .i64 0,.int .i64 0,.int .i64 0,.int .i64 0,.int .i64 0,.slice none 0 0] 0 true 49,.cells [.str [48],.str [48],.str [48]] 1 true 9,.cells [.int .i64 0,.int .i64 0,.int .i64 0] 1 true 3,.cells [.str [68],.slice (some ((18,0))) 1 1,.slice none 0 0] 0 true 25,.cells [.str [66],.int .i64 0,.int .i64 0,.int .i64 0,.int .i64 0,.int .i64 0,.int .i64 0,.int .i64 0,.slice none 0 0] 0 true 49,.cells [.str [68],.slice (some ((18,0))) 1 1,.slice none 0 0] 0 true 25,.cells [.str [66],.int .i64 0,.int .i64 0,.int .i64 0,.int .i64 0,.int .i64 0,.int .i64 0,.int .i64 0,.slice none 0 0] 9 true 49,.cells [.str [66],.int .i64 0,.int .i64 0,.int .i64 0,.int .i64 0,.int .i64 0,.int .i64 0,.int .i64 0,.slice none 0 0] 9 true 49],[8]⟩
theorem G8d:(D6 prog pAw1 400).call 59 m59_2.args m59_2.heap fin=some (m59_2.val,m59_2.heap',m59_2.D):=by kernel_rfl
def m59_3:Memo:=⟨[.ptr (some ((8,0))),.slice (some ((11,0))) 11 11],[.dead,.dead,.dead,.dead,.dead,.dead,.dead,.dead,.cells [.str [68],.slice (some ((9,0))) 1 1,.slice none 0 0,.map (some (10))] 0 true 88,.cells [.str [66],.int .i64 0,.int .i64 0,.int .i64 0,.int .i64 0,.int .i64 0,.int .i64 0,.int .i64 0,.slice none 0 0] 9 true 49,.maps [(.str [100,114,97,119,105,110,103],.func (.func 53) [.ptr (some ((8,0)))] []),(.str [102,101,97,116,117,114,101],.func (.func 54) [.ptr (some ((8,0)))] []),(.str [102,114,97,109,101],.func (.func 55) [.ptr (some ((8,0)))] []),(.str [100,105,109,101,110,115,105,111,110],.func (.func 56) [.ptr (some ((8,0)))] [])],.cells [.str [102,101,97,116,117,114,101],.str [72],.str [104,111,108,101],.str [122],.str [97,116],.str [53,48,48],.str [48],.str [48],.str [115,105,122,101],.str [57,48],.str [57,53]] 1 true 9],.int .i64 0,[.dead,.dead,.dead,.dead,.dead,.dead,.dead,.dead,.cells [.str [68],.slice (some ((21,0))) 2 2,.slice none 0 0,.map (some (10))] 0 true 88,.cells [.str [66],.int .i64 0,.int .i64 0,.int .i64 0,.int .i64 0,.int .i64 0,.int .i64 0,.int .i64 0,.slice none 0 0] 9 true 49,.maps [(.str [100,114,97,119,105,110,103],.func (.func 53) [.ptr (some ((8,0)))] []),(.str [102,101,97,116,117,114,101],.func (.func 54) [.ptr (some ((8,0)))] []),(.str [102,114,97,109,101],.func (.func 55) [.ptr (some ((8,0)))] []),(.str [100,105,109,101,110,115,105,111,110],.func (.func 56) [.ptr (some ((8,0)))] [])],.cells [.str [102,101,97,116,117,114,101],.str [72],.str [104,111,108,101],.str [122],.str [97,116],.str [53,48,48],.str [48],.str [48],.str [115,105,122,101],.str [57,48],.str [57,53]] 1 true 9,.cells [.str [72],.int .i64 1,.int .i64 2,.int .i64 500,.int .i64 0,.int .i64 0,.int .i64 90,.int .i64 95,.slice none 0 0] 0 true 49,.dead,.cells [.str [53,48,48],.str [48],.str [48],.str [57,48],.str [57,53]] 1 true 9,.cells [.int .i64 500,.int .i64 0,.int .i64 0,.int .i64 90,.int .i64 95] 1 true 3,.cells [.str [68],.slice (some ((21,0))) 2 2,.slice none 0 0] 0 true 25,.cells [.str [72],.int .i64 1,.int .i64 2,.int .i64 500,.int .i64 0,.int .i64 0,.int .i64 90,.int .i64 95,.slice none 0 0] 0 true 49,.cells [.str [68],.slice (some ((21,0))) 2 2,.slice none 0 0] 0 true 25,.dead,.cells [.str [72],.int .i64 1,.int .i64 2,.int .i64 500,.int .i64 0,.int .i64 0,.int .i64 90,.int .i64 95,.slice none 0 0] 9 true 49,.cells [.str [66],.int .i64 0,.int .i64 0,.int .i64 0,.int .i64 0,.int .i64 0,.int .i64 0,.int .i64 0,.slice none 0 0,.str [72],.int .i64 1,.int .i64 2,.int .i64 500,.int .i64 0,.int .i64 0,.int .i64 90,.int .i64 95,.slice none 0 0] 9 true 49],[8]⟩
theorem G8e:(D6 prog pAw1 400).call 59 m59_3.args m59_3.heap fin=some (m59_3.val,m59_3.heap',m59_3.D):=by kernel_rfl
def m59_4:Memo:=⟨[.ptr (some ((8,0))),.slice (some ((11,0))) 6 6],[.dead,.dead,.dead,.dead,.dead,.dead,.dead,.dead,.cells [.str [68],.slice (some ((9,0))) 2 2,.slice none 0 0,.map (some (10))] 0 true 88,.cells [.str [66],.int .i64 0,.int .i64 0,.int .i64 0,.int .i64 0,.int .i64 0,.int .i64 0,.int .i64 0,.slice none 0 0,.str [72],.int .i64 1,.int .i64 2,.int .i64 500,.int .i64 0,.int .i64 0,.int .i64 90,.int .i64 95,.slice none 0 0] 9 true 49,.maps [(.str [100,114,97,119,105,110,103],.func (.func 53) [.ptr (some ((8,0)))] []),(.str [102,101,97,116,117,114,101],.func (.func 54) [.ptr (some ((8,0)))] []),(.str [102,114,97,109,101],.func (.func 55) [.ptr (some ((8,0)))] []),(.str [100,105,109,101,110,115,105,111,110],.func (.func 56) [.ptr (some ((8,0)))] [])],.cells [.str [102,114,97,109,101],.str [72],.str [112,111,115,105,116,105,111,110],.str [100,105,115,99],.str [50,48,40,77,41],.str [66]] 1 true 9],.int .i64 0,[.dead,.dead,.dead,.dead,.dead,.dead,.dead,.dead,.cells [.str [68],.slice (some ((9,0))) 2 2,.slice none 0 0,.map (some (10))] 0 true 88,.cells [.str [66],.int .i64 0,.int .i64 0,.int .i64 0,.int .i64 0,.int .i64 0,.int .i64 0,.int .i64 0,.slice none 0 0,.str [72],.int .i64 1,.int .i64 2,.int .i64 500,.int .i64 0,.int .i64 0,.int .i64 90,.int .i64 95,.slice (some ((21,0))) 1 1] 9 true 49,.maps [(.str [100,114,97,119,105,110,103],.func (.func 53) [.ptr (some ((8,0)))] []),(.str [102,101,97,116,117,114,101],.func (.func 54) [.ptr (some ((8,0)))] []),(.str [102,114,97,109,101],.func (.func 55) [.ptr (some ((8,0)))] []),(.str [100,105,109,101,110,115,105,111,110],.func (.func 56) [.ptr (some ((8,0)))] [])],.cells [.str [102,114,97,109,101],.str [72],.str [112,111,115,105,116,105,111,110],.str [100,105,115,99],.str [50,48,40,77,41],.str [66]] 1 true 9,.cells [.int .i64 8,.bool true,.int .i64 20,.int .i64 1,.slice (some ((18,0))) 1 1] 0 true 115,.cells [.str [112,111,115,105,116,105,111,110],.str [100,105,115,99],.str [50,48,40,77,41],.str [66]] 1 true 9,.cells [.slice (some ((13,2))) 2 2] 0 true 28,.cells [.str [115,116,114,97,105,103,104,116],.str [104,112],.str [104,112],.int .i64 0,.int .i64 0,.bool true,.str [102,108,97,116],.str [108,115],.str [],.int .i64 0,.int .i64 0,.bool false,.str [112,97,114,97,108,108,101,108],.str [108,104,112,115],.str [104,112],.int .i64 1,.int .i64 2,.bool true,.str [115,113,117,97,114,101],.str [108,104,112,115],.str [104,112],.int .i64 1,.int .i64 2,.bool true,.str [114,111,117,110,100],.str [104,112,98],.str [],.int .i64 0,.int .i64 0,.bool false,.str [115,112,104,101,114,101],.str [98],.str [],.int .i64 0,.int .i64 0,.bool false,.str [112,114,111,102,105,108,101],.str [108],.str [],.int .i64 0,.int .i64 3,.bool false,.str [114,117,110,111,117,116],.str [108,104,112],.str [],.int .i64 1,.int .i64 1,.bool false,.str [112,111,115,105,116,105,111,110],.str [108,104,112,115,98],.str [104,112,98],.int .i64 0,.int .i64 3,.bool true] 0 true 188,.cells [.int .i64 8,.bool true,.int .i64 20,.int .i64 1,.slice (some ((18,0))) 1 1] 0 true 115,.cells [.str [66],.int .i64 0] 2 true 117,.cells [.str [66],.int .i64 0] 2 true 117,.cells [.int .i64 8,.bool true,.int .i64 20,.int .i64 1,.slice (some ((18,0))) 1 1] 0 true 115,.cells [.int .i64 8,.bool true,.int .i64 20,.int .i64 1,.slice (some ((18,0))) 1 1] 5 true 115,.cells [.int .i64 8,.bool true,.int .i64 20,.int .i64 1,.slice (some ((18,0))) 1 1] 5 true 115],[9]⟩
theorem G8f:(D6 prog pAw1 400).call 59 m59_4.args m59_4.heap fin=some (m59_4.val,m59_4.heap',m59_4.D):=by kernel_rfl
def m59_5:Memo:=⟨[.ptr (some ((8,0))),.slice (some ((13,0))) 6 6],[.dead,.dead,.dead,.dead,.dead,.dead,.dead,.dead,.cells [.str [68],.slice (some ((9,0))) 2 2,.slice none 0 0,.map (some (12))] 0 true 88,.cells [.str [66],.int .i64 0,.int .i64 0,.int .i64 0,.int .i64 0,.int .i64 0,.int .i64 0,.int .i64 0,.slice none 0 0,.str [72],.int .i64 1,.int .i64 2,.int .i64 500,.int .i64 0,.int .i64 0,.int .i64 90,.int .i64 95,.slice (some ((10,0))) 1 1] 9 true 49,.cells [.int .i64 8,.bool true,.int .i64 20,.int .i64 1,.slice (some ((11,0))) 1 1] 5 true 115,.cells [.str [66],.int .i64 0] 2 true 117,.maps [(.str [100,114,97,119,105,110,103],.func (.func 53) [.ptr (some ((8,0)))] []),(.str [102,101,97,116,117,114,101],.func (.func 54) [.ptr (some ((8,0)))] []),(.str [102,114,97,109,101],.func (.func 55) [.ptr (some ((8,0)))] []),(.str [100,105,109,101,110,115,105,111,110],.func (.func 56) [.ptr (some ((8,0)))] [])],.cells [.str [100,105,109,101,110,115,105,111,110],.str [66],.str [72],.str [120],.str [52,57,48],.str [53,49,48]] 1 true 9],.int .i64 0,[.dead,.dead,.dead,.dead,.dead,.dead,.dead,.dead,.cells [.str [68],.slice (some ((9,0))) 2 2,.slice (some ((17,0))) 1 1,.map (some (12))] 0 true 88,.cells [.str [66],.int .i64 0,.int .i64 0,.int .i64 0,.int .i64 0,.int .i64 0,.int .i64 0,.int .i64 0,.slice none 0 0,.str [72],.int .i64 1,.int .i64 2,.int .i64 500,.int .i64 0,.int .i64 0,.int .i64 90,.int .i64 95,.slice (some ((10,0))) 1 1] 9 true 49,.cells [.int .i64 8,.bool true,.int .i64 20,.int .i64 1,.slice (some ((11,0))) 1 1] 5 true 115,.cells [.str [66],.int .i64 0] 2 true 117,.maps [(.str [100,114,97,119,105,110,103],.func (.func 53) [.ptr (some ((8,0)))] []),(.str [102,101,97,116,117,114,101],.func (.func 54) [.ptr (some ((8,0)))] []),(.str [102,114,97,109,101],.func (.func 55) [.ptr (some ((8,0)))] []),(.str [100,105,109,101,110,115,105,111,110],.func (.func 56) [.ptr (some ((8,0)))] [])],.cells [.str [100,105,109,101,110,115,105,111,110],.str [66],.str [72],.str [120],.str [52,57,48],.str [53,49,48]] 1 true 9,.cells [.int .i64 490,.int .i64 510] 1 true 3,.cells [.str [66],.str [72],.int .i64 0,.int .i64 490,.int .i64 510] 0 true 94,.cells [.str [66],.str [72],.int .i64 0,.int .i64 490,.int .i64 510] 5 true 94,.cells [.str [66],.str [72],.int .i64 0,.int .i64 490,.int .i64 510] 5 true 94],[8]⟩
theorem G8g:(D6 prog pAw1 400).call 59 m59_5.args m59_5.heap fin=some (m59_5.val,m59_5.heap',m59_5.D):=by kernel_rfl
def m59_6:Memo:=⟨[.ptr (some ((8,0))),.slice (some ((13,0))) 6 6],[.dead,.dead,.dead,.dead,.dead,.dead,.dead,.dead,.cells [.str [68],.slice (some ((9,0))) 2 2,.slice none 0 0,.map (some (12))] 0 true 88,.cells [.str [66],.int .i64 0,.int .i64 0,.int .i64 0,.int .i64 0,.int .i64 0,.int .i64 0,.int .i64 0,.slice none 0 0,.str [72],.int .i64 1,.int .i64 2,.int .i64 500,.int .i64 0,.int .i64 0,.int .i64 90,.int .i64 95,.slice (some ((10,0))) 1 1] 9 true 49,.cells [.int .i64 8,.bool true,.int .i64 20,.int .i64 1,.slice (some ((11,0))) 1 1] 5 true 115,.cells [.str [66],.int .i64 0] 2 true 117,.maps [(.str [100,114,97,119,105,110,103],.func (.func 53) [.ptr (some ((8,0)))] []),(.str [102,101,97,116,117,114,101],.func (.func 54) [.ptr (some ((8,0)))] []),(.str [102,114,97,109,101],.func (.func 55) [.ptr (some ((8,0)))] []),(.str [100,105,109,101,110,115,105,111,110],.func (.func 56) [.ptr (some ((8,0)))] [])],.cells [.str [100,105,109,101,110,115,105,111,110],.str [66],.str [72],.str [120],.str [53,48,49],.str [53,49,48]] 1 true 9],.int .i64 0,[.dead,.dead,.dead,.dead,.dead,.dead,.dead,.dead,.cells [.str [68],.slice (some ((9,0))) 2 2,.slice (some ((17,0))) 1 1,.map (some (12))] 0 true 88,.cells [.str [66],.int .i64 0,.int .i64 0,.int .i64 0,.int .i64 0,.int .i64 0,.int .i64 0,.int .i64 0,.slice none 0 0,.str [72],.int .i64 1,.int .i64 2,.int .i64 500,.int .i64 0,.int .i64 0,.int .i64 90,.int .i64 95,.slice (some ((10,0))) 1 1] 9 true 49,.cells [.int .i64 8,.bool true,.int .i64 20,.int .i64 1,.slice (some ((11,0))) 1 1] 5 true 115,.cells [.str [66],.int .i64 0] 2 true 117,.maps [(.str [100,114,97,119,105,110,103],.func (.func 53) [.ptr (some ((8,0)))] []),(.str [102,101,97,116,117,114,101],.func (.func 54) [.ptr (some ((8,0)))] []),(.str [102,114,97,109,101],.func (.func 55) [.ptr (some ((8,0)))] []),(.str [100,105,109,101,110,115,105,111,110],.func (.func 56) [.ptr (some ((8,0)))] [])],.cells [.str [100,105,109,101,110,115,105,111,110],.str [66],.str [72],.str [120],.str [53,48,49],.str [53,49,48]] 1 true 9,.cells [.int .i64 501,.int .i64 510] 1 true 3,.cells [.str [66],.str [72],.int .i64 0,.int .i64 501,.int .i64 510] 0 true 94,.cells [.str [66],.str [72],.int .i64 0,.int .i64 501,.int .i64 510] 5 true 94,.cells [.str [66],.str [72],.int .i64 0,.int .i64 501,.int .i64 510] 5 true 94],[8]⟩
theorem G8h:(D6 prog pAw1 400).call 59 m59_6.args m59_6.heap fin=some (m59_6.val,m59_6.heap',m59_6.D):=by kernel_rfl
def m59_7:Memo:=⟨[.ptr (some ((8,0))),.slice (some ((13,0))) 6 6],[.dead,.dead,.dead,.dead,.dead,.dead,.dead,.dead,.cells [.str [68],.slice (some ((9,0))) 2 2,.slice none 0 0,.map (some (12))] 0 true 88,.cells [.str [66],.int .i64 0,.int .i64 0,.int .i64 0,.int .i64 0,.int .i64 0,.int .i64 0,.int .i64 0,.slice none 0 0,.str [72],.int .i64 1,.int .i64 2,.int .i64 500,.int .i64 0,.int .i64 0,.int .i64 90,.int .i64 95,.slice (some ((10,0))) 1 1] 9 true 49,.cells [.int .i64 8,.bool true,.int .i64 20,.int .i64 1,.slice (some ((11,0))) 1 1] 5 true 115,.cells [.str [66],.int .i64 0] 2 true 117,.maps [(.str [100,114,97,119,105,110,103],.func (.func 53) [.ptr (some ((8,0)))] []),(.str [102,101,97,116,117,114,101],.func (.func 54) [.ptr (some ((8,0)))] []),(.str [102,114,97,109,101],.func (.func 55) [.ptr (some ((8,0)))] []),(.str [100,105,109,101,110,115,105,111,110],.func (.func 56) [.ptr (some ((8,0)))] [])],.cells [.str [100,105,109,101,110,115,105,111,110],.str [66],.str [72],.str [121],.str [48],.str [48]] 1 true 9],.int .i64 0,[.dead,.dead,.dead,.dead,.dead,.dead,.dead,.dead,.cells [.str [68],.slice (some ((9,0))) 2 2,.slice (some ((17,0))) 1 1,.map (some (12))] 0 true 88,.cells [.str [66],.int .i64 0,.int .i64 0,.int .i64 0,.int .i64 0,.int .i64 0,.int .i64 0,.int .i64 0,.slice none 0 0,.str [72],.int .i64 1,.int .i64 2,.int .i64 500,.int .i64 0,.int .i64 0,.int .i64 90,.int .i64 95,.slice (some ((10,0))) 1 1] 9 true 49,.cells [.int .i64 8,.bool true,.int .i64 20,.int .i64 1,.slice (some ((11,0))) 1 1] 5 true 115,.cells [.str [66],.int .i64 0] 2 true 117,.maps [(.str [100,114,97,119,105,110,103],.func (.func 53) [.ptr (some ((8,0)))] []),(.str [102,101,97,116,117,114,101],.func (.func 54) [.ptr (some ((8,0)))] []),(.str [102,114,97,109,101],.func (.func 55) [.ptr (some ((8,0)))] []),(.str [100,105,109,101,110,115,105,111,110],.func (.func 56) [.ptr (some ((8,0)))] [])],.cells [.str [100,105,109,101,110,115,105,111,110],.str [66],.str [72],.str [121],.str [48],.str [48]] 1 true 9,.cells [.int .i64 0,.int .i64 0] 1 true 3,.cells [.str [66],.str [72],.int .i64 1,.int .i64 0,.int .i64 0] 0 true 94,.cells [.str [66],.str [72],.int .i64 1,.int .i64 0,.int .i64 0] 5 true 94,.cells [.str [66],.str [72],.int .i64 1,.int .i64 0,.int .i64 0] 5 true 94],[8]⟩
theorem G8i:(D6 prog pAw1 400).call 59 m59_7.args m59_7.heap fin=some (m59_7.val,m59_7.heap',m59_7.D):=by kernel_rfl
def m59_8:Memo:=⟨[.ptr (some ((8,0))),.slice (some ((10,0))) 11 11],[.dead,.dead,.dead,.dead,.dead,.dead,.dead,.dead,.cells [.str [68],.slice none 0 0,.slice none 0 0,.map (some (9))] 0 true 88,.maps [(.str [100,114,97,119,105,110,103],.func (.func 53) [.ptr (some ((8,0)))] []),(.str [102,101,97,116,117,114,101],.func (.func 54) [.ptr (some ((8,0)))] []),(.str [102,114,97,109,101],.func (.func 55) [.ptr (some ((8,0)))] []),(.str [100,105,109,101,110,115,105,111,110],.func (.func 56) [.ptr (some ((8,0)))] [])],.cells [.str [102,101,97,116,117,114,101],.str [72],.str [104,111,108,101],.str [122],.str [97,116],.str [53,48,48],.str [48],.str [48],.str [115,105,122,101],.str [57,48],.str [57,53]] 1 true 9],.int .i64 0,[.dead,.dead,.dead,.dead,.dead,.dead,.dead,.dead,.cells [.str [68],.slice (some ((19,0))) 1 1,.slice none 0 0,.map (some (9))] 0 true 88,.maps [(.str [100,114,97,119,105,110,103],.func (.func 53) [.ptr (some ((8,0)))] []),(.str [102,101,97,116,117,114,101],.func (.func 54) [.ptr (some ((8,0)))] []),(.str [102,114,97,109,101],.func (.func 55) [.ptr (some ((8,0)))] []),(.str [100,105,109,101,110,115,105,111,110],.func (.func 56) [.ptr (some ((8,0)))] [])],.cells [.str [102,101,97,116,117,114,101],.str [72],.str [104,111,108,101],.str [122],.str [97,116],.str [53,48,48],.str [48],.str [48],.str [115,105,122,101],.str [57,48],.str [57,53]] 1 true 9,.cells [.str [72],.int .i64 1,.int .i64 2,.int .i64 500,.int .i64 0,.int .i64 0,.int .i64 90,.int .i64 95,.slice none 0 0] 0 true 49,.dead,.cells [.str [53,48,48],.str [48],.str [48],.str [57,48],.str [57,53]] 1 true 9,.cells [.int .i64 500,.int .i64 0,.int .i64 0,.int .i64 90,.int .i64 95] 1 true 3,.cells [.str [68],.slice (some ((19,0))) 1 1,.slice none 0 0] 0 true 25,.cells [.str [72],.int .i64 1,.int .i64 2,.int .i64 500,.int .i64 0,.int .i64 0,.int .i64 90,.int .i64 95,.slice none 0 0] 0 true 49,.cells [.str [68],.slice (some ((19,0))) 1 1,.slice none 0 0] 0 true 25,.cells [.str [72],.int .i64 1,.int .i64 2,.int .i64 500,.int .i64 0,.int .i64 0,.int .i64 90,.int .i64 95,.slice none 0 0] 9 true 49,.cells [.str [72],.int .i64 1,.int .i64 2,.int .i64 500,.int .i64 0,.int .i64 0,.int .i64 90,.int .i64 95,.slice none 0 0] 9 true 49],[8]⟩
theorem G8j:(D6 prog pAw1 400).call 59 m59_8.args m59_8.heap fin=some (m59_8.val,m59_8.heap',m59_8.D):=by kernel_rfl
def m59_9:Memo:=⟨[.ptr (some ((8,0))),.slice (some ((11,0))) 6 6],[.dead,.dead,.dead,.dead,.dead,.dead,.dead,.dead,.cells [.str [68],.slice (some ((9,0))) 1 1,.slice none 0 0,.map (some (10))] 0 true 88,.cells [.str [72],.int .i64 1,.int .i64 2,.int .i64 500,.int .i64 0,.int .i64 0,.int .i64 90,.int .i64 95,.slice none 0 0] 9 true 49,.maps [(.str [100,114,97,119,105,110,103],.func (.func 53) [.ptr (some ((8,0)))] []),(.str [102,101,97,116,117,114,101],.func (.func 54) [.ptr (some ((8,0)))] []),(.str [102,114,97,109,101],.func (.func 55) [.ptr (some ((8,0)))] []),(.str [100,105,109,101,110,115,105,111,110],.func (.func 56) [.ptr (some ((8,0)))] [])],.cells [.str [102,114,97,109,101],.str [72],.str [112,111,115,105,116,105,111,110],.str [100,105,115,99],.str [50,48,40,77,41],.str [66]] 1 true 9],.int .i64 0,[.dead,.dead,.dead,.dead,.dead,.dead,.dead,.dead,.cells [.str [68],.slice (some ((9,0))) 1 1,.slice none 0 0,.map (some (10))] 0 true 88,.cells [.str [72],.int .i64 1,.int .i64 2,.int .i64 500,.int .i64 0,.int .i64 0,.int .i64 90,.int .i64 95,.slice (some ((21,0))) 1 1] 9 true 49,.maps [(.str [100,114,97,119,105,110,103],.func (.func 53) [.ptr (some ((8,0)))] []),(.str [102,101,97,116,117,114,101],.func (.func 54) [.ptr (some ((8,0)))] []),(.str [102,114,97,109,101],.func (.func 55) [.ptr (some ((8,0)))] []),(.str [100,105,109,101,110,115,105,111,110],.func (.func 56) [.ptr (some ((8,0)))] [])],.cells [.str [102,114,97,109,101],.str [72],.str [112,111,115,105,116,105,111,110],.str [100,105,115,99],.str [50,48,40,77,41],.str [66]] 1 true 9,.cells [.int .i64 8,.bool true,.int .i64 20,.int .i64 1,.slice (some ((18,0))) 1 1] 0 true 115,.cells [.str [112,111,115,105,116,105,111,110],.str [100,105,115,99],.str [50,48,40,77,41],.str [66]] 1 true 9,.cells [.slice (some ((13,2))) 2 2] 0 true 28,.cells [.str [115,116,114,97,105,103,104,116],.str [104,112],.str [104,112],.int .i64 0,.int .i64 0,.bool true,.str [102,108,97,116],.str [108,115],.str [],.int .i64 0,.int .i64 0,.bool false,.str [112,97,114,97,108,108,101,108],.str [108,104,112,115],.str [104,112],.int .i64 1,.int .i64 2,.bool true,.str [115,113,117,97,114,101],.str [108,104,112,115],.str [104,112],.int .i64 1,.int .i64 2,.bool true,.str [114,111,117,110,100],.str [104,112,98],.str [],.int .i64 0,.int .i64 0,.bool false,.str [115,112,104,101,114,101],.str [98],.str [],.int .i64 0,.int .i64 0,.bool false,.str [112,114,111,102,105,108,101],.str [108],.str [],.int .i64 0,.int .i64 3,.bool false,.str [114,117,110,111,117,116],.str [108,104,112],.str [],.int .i64 1,.int .i64 1,.bool false,.str [112,111,115,105,116,105,111,110],.str [108,104,112,115,98],.str [104,112,98],.int .i64 0,.int .i64 3,.bool true] 0 true 188,.cells [.int .i64 8,.bool true,.int .i64 20,.int .i64 1,.slice (some ((18,0))) 1 1] 0 true 115,.cells [.str [66],.int .i64 0] 2 true 117,.cells [.str [66],.int .i64 0] 2 true 117,.cells [.int .i64 8,.bool true,.int .i64 20,.int .i64 1,.slice (some ((18,0))) 1 1] 0 true 115,.cells [.int .i64 8,.bool true,.int .i64 20,.int .i64 1,.slice (some ((18,0))) 1 1] 5 true 115,.cells [.int .i64 8,.bool true,.int .i64 20,.int .i64 1,.slice (some ((18,0))) 1 1] 5 true 115],[9]⟩
theorem G8k:(D6 prog pAw1 400).call 59 m59_9.args m59_9.heap fin=some (m59_9.val,m59_9.heap',m59_9.D):=by kernel_rfl
def m59_10:Memo:=⟨[.ptr (some ((8,0))),.slice (some ((13,0))) 6 6],[.dead,.dead,.dead,.dead,.dead,.dead,.dead,.dead,.cells [.str [68],.slice (some ((9,0))) 1 1,.slice none 0 0,.map (some (12))] 0 true 88,.cells [.str [72],.int .i64 1,.int .i64 2,.int .i64 500,.int .i64 0,.int .i64 0,.int .i64 90,.int .i64 95,.slice (some ((10,0))) 1 1] 9 true 49,.cells [.int .i64 8,.bool true,.int .i64 20,.int .i64 1,.slice (some ((11,0))) 1 1] 5 true 115,.cells [.str [66],.int .i64 0] 2 true 117,.maps [(.str [100,114,97,119,105,110,103],.func (.func 53) [.ptr (some ((8,0)))] []),(.str [102,101,97,116,117,114,101],.func (.func 54) [.ptr (some ((8,0)))] []),(.str [102,114,97,109,101],.func (.func 55) [.ptr (some ((8,0)))] []),(.str [100,105,109,101,110,115,105,111,110],.func (.func 56) [.ptr (some ((8,0)))] [])],.cells [.str [100,105,109,101,110,115,105,111,110],.str [66],.str [72],.str [120],.str [52,57,48],.str [53,49,48]] 1 true 9],.int .i64 0,[.dead,.dead,.dead,.dead,.dead,.dead,.dead,.dead,.cells [.str [68],.slice (some ((9,0))) 1 1,.slice (some ((17,0))) 1 1,.map (some (12))] 0 true 88,.cells [.str [72],.int .i64 1,.int .i64 2,.int .i64 500,.int .i64 0,.int .i64 0,.int .i64 90,.int .i64 95,.slice (some ((10,0))) 1 1] 9 true 49,.cells [.int .i64 8,.bool true,.int .i64 20,.int .i64 1,.slice (some ((11,0))) 1 1] 5 true 115,.cells [.str [66],.int .i64 0] 2 true 117,.maps [(.str [100,114,97,119,105,110,103],.func (.func 53) [.ptr (some ((8,0)))] []),(.str [102,101,97,116,117,114,101],.func (.func 54) [.ptr (some ((8,0)))] []),(.str [102,114,97,109,101],.func (.func 55) [.ptr (some ((8,0)))] []),(.str [100,105,109,101,110,115,105,111,110],.func (.func 56) [.ptr (some ((8,0)))] [])],.cells [.str [100,105,109,101,110,115,105,111,110],.str [66],.str [72],.str [120],.str [52,57,48],.str [53,49,48]] 1 true 9,.cells [.int .i64 490,.int .i64 510] 1 true 3,.cells [.str [66],.str [72],.int .i64 0,.int .i64 490,.int .i64 510] 0 true 94,.cells [.str [66],.str [72],.int .i64 0,.int .i64 490,.int .i64 510] 5 true 94,.cells [.str [66],.str [72],.int .i64 0,.int .i64 490,.int .i64 510] 5 true 94],[8]⟩
theorem G3v:(D6 prog pAw1 400).call 59 m59_10.args m59_10.heap fin=some (m59_10.val,m59_10.heap',m59_10.D):=by kernel_rfl
def m59_11:Memo:=⟨[.ptr (some ((8,0))),.slice (some ((10,0))) 7 7],[.dead,.dead,.dead,.dead,.dead,.dead,.dead,.dead,.cells [.str [68],.slice none 0 0,.slice none 0 0,.map (some (9))] 0 true 88,.maps [(.str [100,114,97,119,105,110,103],.func (.func 53) [.ptr (some ((8,0)))] []),(.str [102,101,97,116,117,114,101],.func (.func 54) [.ptr (some ((8,0)))] []),(.str [102,114,97,109,101],.func (.func 55) [.ptr (some ((8,0)))] []),(.str [100,105,109,101,110,115,105,111,110],.func (.func 56) [.ptr (some ((8,0)))] [])],.cells [.str [102,101,97,116,117,114,101],.str [66],.str [112,108,97,110,101],.str [120],.str [97,116],.str [48],.str [48]] 1 true 9],.int .i64 4,[.dead,.dead,.dead,.dead,.dead,.dead,.dead,.dead,.cells [.str [68],.slice none 0 0,.slice none 0 0,.map (some (9))] 0 true 88,.maps [(.str [100,114,97,119,105,110,103],.func (.func 53) [.ptr (some ((8,0)))] []),(.str [102,101,97,116,117,114,101],.func (.func 54) [.ptr (some ((8,0)))] []),(.str [102,114,97,109,101],.func (.func 55) [.ptr (some ((8,0)))] []),(.str [100,105,109,101,110,115,105,111,110],.func (.func 56) [.ptr (some ((8,0)))] [])],.cells [.str [102,101,97,116,117,114,101],.str [66],.str [112,108,97,110,101],.str [120],.str [97,116],.str [48],.str [48]] 1 true 9],[]⟩
theorem G3w:(D6 prog pAw1 400).call 59 m59_11.args m59_11.heap fin=some (m59_11.val,m59_11.heap',m59_11.D):=by kernel_rfl
def G7i:List Memo:=[m59_1,m59_2,m59_3,m59_4,m59_5,m59_6,m59_7,m59_8,m59_9,m59_10,m59_11]
def pAw2:Prims:=pAw1.addh 59 (B9j 8 (B9o G7i))
theorem F6g{A:Amb}(hT:Tab A)(hG:gN prog<=A.G)(hM:Mx A):PrimOK prog A pAw2:=by
 have h0:=F6f hT hG hM
 refine h0.memo gsz func59 (by kernel_rfl) fun e he=>?_
 unfold G7i at he
 simp only[List.mem_cons,List.not_mem_nil,or_false] at he
 rcases he with rfl | rfl | rfl | rfl | rfl | rfl | rfl | rfl | rfl | rfl | rfl
 ·exact MemoOK.of_run F8 G5 h0 G8c
 ·exact MemoOK.of_run F8 G5 h0 G8d
 ·exact MemoOK.of_run F8 G5 h0 G8e
 ·exact MemoOK.of_run F8 G5 h0 G8f
 ·exact MemoOK.of_run F8 G5 h0 G8g
 ·exact MemoOK.of_run F8 G5 h0 G8h
 ·exact MemoOK.of_run F8 G5 h0 G8i
 ·exact MemoOK.of_run F8 G5 h0 G8j
 ·exact MemoOK.of_run F8 G5 h0 G8k
 ·exact MemoOK.of_run F8 G5 h0 G3v
 ·exact MemoOK.of_run F8 G5 h0 G3w
end Go.Proofs.Tryz
