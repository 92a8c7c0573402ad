/- Drawings: what a feature needs, as a new list. -/
import Derived.Test.YtoboneiigikidaaGreatDoorFo
import Derived.Test.YtoboneiigikidaaGreatDoorAdFind
import Derived.Test.YtoboneiigikidaaGreatDoorShelf
import Derived.Test.YtoboneiigikidaaGreatDoorAdPrim
import Derived.Lib.Bytealg
noncomputable section
namespace Go.Proofs.Tryz
open Go.Ad
def spR2:SP:=⟨dr 4++[.list 8]++dr 21,dd8++[.vec 1 9]⟩
theorem G8s(k:Nat)(d:Drw)(V v:List Txt):E8 prog (D5 prog (pSo k) 60) A8f r10 (UN d V v (.tuple [.bool false]) false) (BL d V v) (H9 (fun _=>spR2) 8 []) =
  brK (E9 (v.length=v.length/\D6 v=D6 (P6 v.length (D6 v))/\(9:Nat)=9/\v.length<4611686018427387904)) (brK (E9 (v.length=(R3 (P6 v.length (D6 v))).length/\D6 (R3 (P6 v.length (D6 v)))=D6 (P6 v.length (D6 (R3 (P6 v.length (D6 v)))))/\(9:Nat)=9/\v.length<4611686018427387904))
   (some (.ret,[.n (Lib.compact (P6 v.length (D6 (R3 (P6 v.length (D6 v)))))).length,.n (Lib.compact (P6 v.length (D6 (R3 (P6 v.length (D6 v)))))).length,.r (D6 (Lib.compact (P6 v.length (D6 (R3 (P6 v.length (D6 v)))))))])) none) none:=by kernel_rfl
theorem H2j:okD 8 [] 0 spR2.h=true:=by kernel_rfl
theorem F6x{A:Amb}{k:Nat}(hp:PrimOK prog A (pSo k))(d:Drw)(V v:List Txt)(hv:v.length<4611686018427387904)(L:List Txt)(hL:Go.Ad.setF v=L){D:List Nat}(hD:∀ b,b∈D->8<=b) :
  SEB prog A (Bg 8) r10 ⟨UN d V v (.tuple [.bool false]) false,BL d V v,D⟩ .ret ⟨spR2.rho [.n L.length,.n L.length,.r (D6 L)],spR2.heap [.n L.length,.n L.length,.r (D6 L)],[]⟩:=by
 have hk:=G8s k d V v
 rw[A1r] at hk
 have e:P6 v.length (D6 (R3 v))=R3 v:=by
  have:=A1r (R3 v)
  rw[A2x] at this
  exact this
 rw[e,A9 ⟨rfl,rfl,rfl,hv⟩,A9 ⟨(A2x v).symm,rfl,rfl,hv⟩,show Lib.compact (R3 v)=Go.Ad.setF v from A6u v,hL] at hk
 refine SEB.wk_in (Wk.dset (D2:=[]) fun b hb hlt=>?_) (SEB.of_KP (e:=.ret) (sp:=fun _=>spR2) (B0:=Bg 8) (ds:=[]) F7 F9 hp (.none _) rfl hk H2j)
 have:=hD b hb
 have h8:(Bg 8).length=8:=rfl
 omega
theorem G4y{A:Amb}{k:Nat}(hp:PrimOK prog A (pSo k)){d:Drw}{s:Txt}(h1:GrD d)(h2:s∈H5 d)(h3:d.l.length<k)(hlen:(dfs (nbO d) (k-1) [] s).length<1000000) :
  SEB prog A (Bg 8) A0m ⟨[.agg d.av,.sstr s]++List.replicate 24 H7,Bg 8,[]⟩ .ret ⟨spR2.rho [.n (Go.Ad.setF (dfs (nbO d) (k-1) [] s)).length,.n (Go.Ad.setF (dfs (nbO d) (k-1) [] s)).length,.r (D6 (Go.Ad.setF (dfs (nbO d) (k-1) [] s)))],spR2.heap [.n (Go.Ad.setF (dfs (nbO d) (k-1) [] s)).length,.n (Go.Ad.setF (dfs (nbO d) (k-1) [] s)).length,.r (D6 (Go.Ad.setF (dfs (nbO d) (k-1) [] s)))],[]⟩:=by
 have hc:E94 k (C9 d) s [] (A94 s) (H94 d []):=by
  refine⟨⟨?_,?_,?_⟩,rfl,?_⟩
  ·rw[D9]; exact h1
  ·rw[D9]; exact h2
  ·rw[D9]
   unfold left
   have:=List.length_filter_le (fun x=>decide (x∉([]:List Txt))) (H5 d)
   have h4:(H5 d).length=d.l.length:=by unfold H5; rw[List.length_map]
   omega
  ·rw[D9]
 have hk4:=rn4 k d s
 rw[A9 hc,D9] at hk4
 generalize dfs (nbO d) (k-1) [] s=V at hk4 hlen ⊢
 rw[C1t]
 refine SEB.seq (SEB.of_K F7 F9 hp (.none _) (rn0 k d s)) (SEB.seq (SEB.of_K F7 F9 hp (.none _) (rn1 k d s)) (SEB.seq (SEB.of_K F7 F9 hp (.none _) (rn2 k d s)) (SEB.seq (SEB.of_K F7 F9 hp (.none _) (rn3 k d s)) (SEB.seq (SEB.of_K F7 F9 hp (.none _) hk4) (SEB.seq (SEB.of_K F7 F9 hp (.none _) (rn5 k d V)) ?_)))))
 have hx:=SEBx.rangeSet (A:=A) (B0:=Bg 8) (prims:=pSo k) (n:=60) F7 F9 hp (U0:=U6 d V) (U1:=Q5 (U6 d V) (some 14) (.map (some 9))) (Bs:=B6 d V) (B1:=B6 d V) (D0:=((((([]++[])++[10])++[])++[11])++[9])++[]) (D1:=[]) (mb:=9) (it:=15) (tn:=16) (te:=18) (tok:=17) (mt:=14) (i1:=6) (i2:=7) (i3:=8) (id0:=0) (id1:=1)
  (ops1:=o6) (ops2:=o7) (ops3:=o8) (c4:=c9) (l:=V) (l1:=o6.toList.dropLast) (o1:=G0r (A9f m6)) (ty:=130) (kt:=9) (et:=4) (U:=fun v=>UL d V v) (Bv:=fun v=>BL d V v) (Un:=fun v=>UN d V v (.tuple [.bool true,.bad,.bad]) true) (Ue:=fun v=>UN d V v (.tuple [.bool false]) false)
  (by kernel_rfl) (by kernel_rfl) (by kernel_rfl) (by kernel_rfl) (by kernel_rfl) (q6 k d V) rfl rfl
  ((Wk.of_nrmP (sp:=fun _=>sL) (ds:=[]) (m:=13) (B4r d V) (q6s d V) okL).trans (Wk.rowsQ (A:=A) (B0:=B6 d V++[.miter]) (U:=sL.rho (lfL d V 0 fun _=>[])) (D:=[]) (B:=sL.heap (lfL d V 0 fun _=>[])) (b:=13) (r':=D6 []) (ty:=9) rfl (fun h=>by rw[B4r] at h; omega) (fun i hi=>(Nat.not_lt_zero i hi).elim)))
  (fun _=>rfl) (fun _=>rfl) (o2:=D9z (A9f l6)) (by kernel_rfl) (by kernel_rfl) (by kernel_rfl) (by kernel_rfl) (fun v=>q7t k d V v) (fun v=>q7f k d V v) (fun _=>rfl) (fun _=>rfl) (fun _=>rfl)
  (o3:=D9z (A9f b8)) (by kernel_rfl) (by kernel_rfl) (by kernel_rfl) (by kernel_rfl) (fun v x hv _=>⟨UE d V v x,q8 k d V v x,by
   have hk:=q9 k d V v x
   rw[dT (show v.length+1<2147483648/\v.length=v.length from⟨by omega,rfl⟩)] at hk
   have h:=SEB.of_KP (A:=A) (e:=.normal) (sp:=fun _=>sL) (B0:=B6 d V++[.miter]) (ds:=[]) F7 F9 hp (.none _) (B4r d V) hk okL
   refine SEB.wk_out h ?_
   have w:=Wk.rowsQ (A:=A) (B0:=B6 d V++[.miter]) (U:=sL.rho (lfL d V (v.length+1) (K4 v.length (D6 v) [.sstr x]))) (D:=[]) (B:=sL.heap (lfL d V (v.length+1) (K4 v.length (D6 v) [.sstr x]))) (b:=13) (r':=D6 (v++[x])) (ty:=9) rfl (fun h=>by rw[B4r] at h; omega) (fun i hi=>A1w v x hi)
   have e:(v++[x]).length=v.length+1:=by simp
   unfold UL BL
   rw[e]
   exact w⟩)
 rw[<- G0u] at hx
 refine SEBx.seq hx fun st hQ=>?_
 obtain⟨v,hv1,hv2,rfl⟩:=hQ
 refine F6x hp d V v (by omega) (Go.Ad.setF V) (C0c hv1) fun b hb=>?_
 simp at hb
 have h12:(B6 d V).length=12:=rfl
 omega
theorem D6s{A:Amb}(hT:Tab A)(hG:gN prog<=A.G){d:Drw}{s:Txt}(h1:GrD d)(h2:s∈H5 d) :
  CallT prog A 45 [.agg d.av,.sstr s] (Bg 8) (.sslice 8 0 (K5 d s).length) (Bg 8++[.vec (K5 d s).length (D6 (K5 d s)) 1 9]) []:=by
 have h3:=h1.len
 have hs:=G4y (k:=100) (E9o hT hG 100) h1 h2 (by omega) (by have:=C6b h1 h2; show(dfs (nbO d) 99 [] s).length<_; omega)
 rw[show(100:Nat)-1=99 from rfl,B9k h1 h2] at hs
 exact A4v func45 (show f45.body=some A0m by kernel_rfl) hs (fun id=>by simp) (vs:=[.sslice 8 0 (K5 d s).length]) (by kernel_rfl)
def Mx(A:Amb):Prop:=∃ m:Int,∀ w:World,(∀ c,c<A.G->w.heap[c]?=A.base c)->w.cell? ⟨0,0,none⟩=some (.int .i64 m)
def E6d:List AV->Option AV
 | [.str s,.int .u8 c]=>some (.int .i64 (Lib.countByte s c.toNat.toUInt8))
 | _=>none
def D9x:List AV->Tr AV
 | [.str s,.str cs]=>bif decide (s.length<4294967281) then .leaf (.int .i64 (Lib.index s cs)) else .fail
 | _=>.fail
def D1i:List AV->Tr AV
 | [.str s,.str o,.str n,.int .i64 k]=>bif decide (s.length<4294967281)&&decide (1<=o.length)&&decide (s.length+Lib.count s o*n.length<=140737488355328) then .leaf (.str (Lib.replace s o n k)) else .fail
 | _=>.fail
def strOf:AV->Option (List UInt8)
 | .str s=>some s
 | _=>none
def strsOf(B:Heap)(b o n:Nat):Option (List (List UInt8)):=match B[b]? with
 | some (.cells cs _ _ _)=>if o+n<=cs.length then((cs.drop o).take n).mapM strOf else none
 | _=>none
def F9m(args:List AV)(B:Heap):Tr (AV×Heap×List Nat):=match args with
 | [.slice none 0 0,.str _]=>.leaf (.str [],B,[])
 | [.slice (some (b,o)) n _,.str sep]=>(match strsOf B b o n with
  | some xs=>bif decide (xs.length<=140737488355328)&&decide ((Lib.join xs sep).length<=140737488355328) then .leaf (.str (Lib.join xs sep),B,[]) else .fail
  | none=>.fail)
 | _=>.fail
theorem C1r{w w':World}(h:RowKit.Below w.heap.size w w'):Quiet w w':=⟨h.size,h.block,h.tape,h.os,h.output⟩
theorem mkS{b:ByteArray}{s:List UInt8}(h:b.data.toList=s):b=⟨s.toArray⟩:=by
 subst h; cases b; simp
theorem G7l{A:Amb}{Z:Emb}{B:Heap}{w:World}(hs:Sim A Z B w.heap){b o n m:Nat}{xs:List (List UInt8)}(h:strsOf B b o n=some xs){v:Value}(hv:VR Z (.slice (some (b,o)) n m) v){sep:ByteArray}(h1:xs.length<=140737488355328)(h2:(Lib.join xs sep.data.toList).length<=140737488355328) :
  Calls prog 28 #[v,.string sep] w fun e w'=>e=.returned (.string ⟨(Lib.join xs sep.data.toList).toArray⟩)/\Quiet w w':=by
 unfold strsOf at h
 split at h
 case h_2=>cases h
 rename_i cs es rw ty hb
 split at h
 case isFalse=>cases h
 rename_i hlen
 obtain⟨g1,g2⟩:=B9e h
 have hl:xs.length=n:=by rw[g1,List.length_take,List.length_drop]; omega
 simp only[VR] at hv
 obtain⟨l,cap,off,hl1,q1,q2,q3,q4,q5,rfl⟩:=hv
 obtain⟨_,arr,_,fz,p1,p2,p3,p4,_⟩:=hs.obj b _ l hb hl1
 rcases Nat.eq_zero_or_pos n with hn | hn
 ·have hx:xs=[]:=List.eq_nil_of_length_eq_zero (by omega)
  subst hx hn
  exact(strings_Join_none (some ⟨l.c,off,none⟩) cap sep w).mono fun e w' ⟨he,hw⟩=>⟨he,hw ▸ Quiet.refl _⟩
 ·have hoff:off=l.d+o:=by rcases q3 with q3 | q3<;>omega
  subst hoff
  have hm:(xs.map fun s=>(⟨s.toArray⟩:ByteArray)).map (·.data.toList)=xs:=by
   rw[List.map_map]
   have:((fun x:ByteArray=>x.data.toList) ∘ fun s:List UInt8=>(⟨s.toArray⟩:ByteArray))=id:=by funext s; simp
   rw[this,List.map_id]
  have hj:=strings_Join l.c (l.d+o) cap (xs.map fun s=>(⟨s.toArray⟩:ByteArray)) sep w (fun j x hx=>by
   rw[List.getElem?_map,oM] at hx
   obtain⟨s,hx,rfl⟩:=hx
   have hjn:j<n:=by rw[<- hl]; exact(gS.1 hx).1
   have hjl:j<((cs.drop o).take n).length:=by rw[List.length_take,List.length_drop]; omega
   obtain⟨s',k1,k2⟩:=g2 j _ (gE hjl)
   rw[hx] at k1; cases k1
   have hc:cs[o+j]?=some (.str s):=by
    have e1:((cs.drop o).take n)[j]?=cs[o+j]?:=by rw[tK,if_pos hjn,dP]
    rw[gE hjl] at e1
    rw[<- e1]
    unfold strOf at k2
    split at k2
    ·rename_i hh; cases k2; rw[hh]
    ·cases k2
   obtain⟨v,r1,r2⟩:=p4 _ _ hc
   simp only[VR] at r2
   obtain⟨bb,hbb,rfl⟩:=r2
   rw[cell_of p1,Nat.add_assoc,r1,mkS hbb]) (hs.lt b l hl1) (by simpa using h1) (by rw[List.length_map,hl]; omega) (by rw[hm]; exact h2)
  rw[hm,List.length_map,hl] at hj
  exact hj.mono fun e w' ⟨he,hw⟩=>⟨he,C1r hw⟩
def pLb:Prims:=(((lib2.addt 85 D9x).addt 40 D1i).addx 138 E6d).addh 28 F9m
theorem G3s{A:Amb}(hT:Tab A)(hM:Mx A):PrimOK prog A pLb:=by
 obtain⟨m,hM⟩:=hM
 refine PrimOK.put (PrimOK.addx (PrimOK.libt (PrimOK.libt (E0h hT) func85 (by kernel_rfl) ?_) func40 (by kernel_rfl) ?_) ?_) func28 (by kernel_rfl) ?_
 ·intro args v hg Z w xs hamb _ hx
  unfold D9x at hg
  split at hg
  ·rename_i s cs
   cases hb:decide (s.length<4294967281) with
   | false=>rw[hb] at hg; cases hg
   | true =>
    rw[hb] at hg
    cases hg
    have hb:=of_decide_eq_true hb
    simp only[VRL,VR] at hx
    obtain⟨_,_,hxs,⟨b1,rfl,rfl⟩,_,_,rfl,⟨b2,rfl,rfl⟩,rfl⟩:=hx
    rw[B5k hxs]
    have hl1:b1.data.toList.length=b1.size:=by simp
    refine(strings_Index b1 b2 m w (by omega) (hM w hamb)).mono fun e w' ⟨h1,h2⟩=>?_
    subst h1 h2
    exact⟨_,rfl,by simp[VR],Quiet.refl _⟩
  ·cases hg
 ·intro args v hg Z w xs hamb _ hx
  unfold D1i at hg
  split at hg
  ·rename_i s o n k
   cases hb:(decide (s.length<4294967281)&&decide (1<=o.length)&&decide (s.length+Lib.count s o*n.length<=140737488355328)) with
   | false=>rw[hb] at hg; cases hg
   | true =>
    rw[hb] at hg
    cases hg
    simp only[bA,dQ] at hb
    simp only[VRL,VR] at hx
    obtain⟨_,_,hxs,⟨b1,rfl,rfl⟩,_,_,rfl,⟨b2,rfl,rfl⟩,_,_,rfl,⟨b3,rfl,rfl⟩,_,_,rfl,rfl,rfl⟩:=hx
    have e:xs=#[.string b1,.string b2,.string b3,.int .i64 k]:=by apply Array.ext'; simpa using hxs
    rw[e]
    have hl1:b1.data.toList.length=b1.size:=by simp
    have hl2:b2.data.toList.length=b2.size:=by simp
    have hl3:b3.data.toList.length=b3.size:=by simp
    refine(strings_Replace b1 b2 b3 k m w (by omega) (hM w hamb) (by omega) (by rw[<- hl1,<- hl3]; exact hb.2)).mono fun e w' ⟨h1,h2⟩=>?_
    subst h1
    exact⟨_,rfl,by simp only[VR]; exact⟨_,by simp,rfl⟩,C1r h2⟩
  ·cases hg
 ·intro args v hg Z w xs hx
  unfold E6d at hg
  split at hg
  ·rename_i s c
   cases hg
   simp only[VRL,VR] at hx
   obtain⟨_,_,hxs,⟨b1,rfl,rfl⟩,_,_,rfl,rfl,rfl⟩:=hx
   rw[B5k hxs]
   exact⟨_,D9u (fn:=f138) func138 (by kernel_rfl) (by kernel_rfl) (by kernel_rfl) (e:=Extern.BytealgCount.count) (by kernel_rfl) (Lib.run_countString b1 c w),by simp[VR]⟩
  ·cases hg
 ·intro args B v B' D hg
  unfold F9m at hg
  split at hg
  ·cases hg
   refine⟨.refl _,fun Z w xs hs hd _ hx=>?_⟩
   simp only[VRL,VR] at hx
   obtain⟨_,_,hxs,⟨_,_,rfl⟩,_,_,rfl,⟨b2,rfl,rfl⟩,rfl⟩:=hx
   rw[B5k hxs]
   refine(strings_Join_none none 0 b2 w).mono fun e w' ⟨h1,h2⟩=>?_
   subst h1 h2
   exact⟨_,Z,rfl,by simp only[VR]; exact⟨_,rfl,rfl⟩,.refl hs hd⟩
  ·rename_i b o n mm sep
   split at hg
   ·rename_i ss hss
    cases hb:(decide (ss.length<=140737488355328)&&decide ((Lib.join ss sep).length<=140737488355328)) with
    | false=>rw[hb] at hg; cases hg
    | true =>
     rw[hb] at hg
     cases hg
     simp only[bA,dQ] at hb
     refine⟨.refl _,fun Z w xs hs hd _ hx=>?_⟩
     simp only[VRL] at hx
     obtain⟨v0,_,hxs,h1,_,_,rfl,h2,rfl⟩:=hx
     simp only[VR] at h2
     obtain⟨b2,rfl,rfl⟩:=h2
     rw[B5k hxs]
     refine(G7l hs hss h1 hb.1 hb.2).mono fun e w' ⟨h1,h2⟩=>?_
     subst h1
     exact⟨_,Z,rfl,by simp only[VR]; exact⟨_,by simp,rfl⟩,h2.after hs hd⟩
   ·cases hg
  ·cases hg
def mpH:List (AV×AV):=[(.str [100,114,97,119,105,110,103],.func (.func 53) [.ptr (some ((8,0)))] []),(.str [102,101,97,116,117,114,101],.func (.func 54) [.ptr (some ((8,0)))] []),(.str [102,114,97,109,101],.func (.func 55) [.ptr (some ((8,0)))] []),(.str [100,105,109,101,110,115,105,111,110],.func (.func 56) [.ptr (some ((8,0)))] [])]
def F3u:Fea:=⟨[66],0,0,0,0,0,0,0,[]⟩
def F3w:Fea:=⟨[72],1,2,500,0,0,90,95,[⟨8,true,20,1,[⟨[66],0⟩]⟩]⟩
def G6k:Fea:=⟨[72],1,2,500,0,0,90,95,[]⟩
def drw1:Drw:=⟨[68],[F3u,F3w],[⟨[66],[72],0,490,510⟩]⟩
def G1q:Drw:=⟨[68],[F3u,F3w],[⟨[66],[72],0,501,510⟩]⟩
def G1r:Drw:=⟨[68],[F3u,F3w],[⟨[66],[72],1,0,0⟩]⟩
def G1s:Drw:=⟨[68],[F3w],[⟨[66],[72],0,490,510⟩]⟩
def G1t:Drw:=⟨[68],[F3u,G6k],[]⟩
def F1y:List (Drw×Int):=[(drw1,0),(G1q,16),(G1r,14),(G1s,6),(G1t,0)]
theorem ck1:J4 drw1=0:=by kernel_rfl
theorem ck2:J4 G1q=16:=by kernel_rfl
theorem ck3:J4 G1r=14:=by kernel_rfl
theorem ck4:J4 G1s=6:=by kernel_rfl
theorem ck5:J4 G1t=0:=by kernel_rfl
theorem G7p:K5 drw1 [72]=[[66]]:=by kernel_rfl
theorem nmH:[72]∈H5 drw1:=by decide
theorem B9n{d:Drw}(h:(decide (d.l.length<100)&&d.l.all fun x=>szF x&&decide (x.l.length<100)&&x.l.all fun y=>decide (y.l.length<100))=true)(h2:(I9 d.s&&decide (d.m.length<100)&&d.m.all fun y=>I9 y.f&&I9 y.t)=true):OkD d:=by
 simp only[bA,dQ,List.all_eq_true] at h h2
 obtain⟨h0,h1⟩:=h
 obtain⟨⟨g0,g1⟩,g2⟩:=h2
 have hf:∀ i,i<d.l.length->D8 d i∈d.l:=fun i hi=>by unfold D8; rw[gD,gE hi]; exact List.getElem_mem hi
 have hk:∀ (f:Fea) k,k<f.l.length->F4 f k∈f.l:=fun f k hk=>by unfold F4; rw[gD,gE hk]; exact List.getElem_mem hk
 have hm:∀ i,i<d.m.length->K6 d i∈d.m:=fun i hi=>by unfold K6; rw[gD,gE hi]; exact List.getElem_mem hi
 exact⟨by omega,fun i hi=>(h1 _ (hf i hi)).1.1,fun i hi=>by have:=(h1 _ (hf i hi)).1.2; omega,fun i k hi hk'=>by have:=(h1 _ (hf i hi)).2 _ (hk _ k hk'); omega,g0,by omega,fun i hi=>g2 _ (hm i hi)⟩
theorem H2k:OkD drw1:=B9n (by decide +kernel) (by decide +kernel)
theorem H2l:OkD G1q:=B9n (by decide +kernel) (by decide +kernel)
theorem H2m:OkD G1r:=B9n (by decide +kernel) (by decide +kernel)
theorem H2n:OkD G1s:=B9n (by decide +kernel) (by decide +kernel)
theorem H2o:OkD G1t:=B9n (by decide +kernel) (by decide +kernel)
def C6q(d:Drw):List (Drw×Int)->Option Int
 | []=>none
 | (e,n)::r=>bif C2k d e then some n else C6q d r
theorem C3c{d:Drw}{n:Int}:∀ {l:List (Drw×Int)},C6q d l=some n->(d,n)∈l
 | [],h=>by cases h
 | (e,m)::r,h=>by
  unfold C6q at h
  cases hc:C2k d e with
  | true=>rw[hc] at h; cases h; rw[D0t hc]; simp
  | false=>rw[hc] at h; exact List.mem_cons_of_mem _ (C3c h)
def x13(args:List AV)(B:Heap):Option Int:=match args with
 | [.agg l]=>(match E0x B l with | some d=>C6q d F1y | none=>none)
 | _=>none
def x45(args:List AV)(B:Heap):Option (List Txt):=match args with
 | [.agg l,.str s]=>(match E0x B l with | some d=>bif C2k d drw1&&B3l s [72] then some [[66]] else none | none=>none)
 | _=>none
def pAw0:Prims:=(pLb.addh 13 fun args B=>match x13 args B with | some n=>.leaf (.int .i64 n,B,[]) | none=>.fail).addh 45 fun args B=>match x45 args B with | some L=>.leaf (F6w B L,E9z B L 9,[]) | none=>.fail
theorem F8x{d:Drw}{n:Int}(h:(d,n)∈F1y):OkD d/\J4 d=n:=by
 unfold F1y at h
 simp only[List.mem_cons,pI,List.not_mem_nil,or_false] at h
 rcases h with⟨rfl,rfl⟩ | ⟨rfl,rfl⟩ | ⟨rfl,rfl⟩ | ⟨rfl,rfl⟩ | ⟨rfl,rfl⟩
 ·exact⟨H2k,ck1⟩
 ·exact⟨H2l,ck2⟩
 ·exact⟨H2m,ck3⟩
 ·exact⟨H2n,ck4⟩
 ·exact⟨H2o,ck5⟩
theorem F6a{A:Amb}(hT:Tab A)(hG:gN prog<=A.G)(hM:Mx A):PrimOK prog A pAw0:=by
 refine PrimOK.addX (PrimOK.addXi (G3s hT hM) hG func13 (by kernel_rfl) x13 fun args B n h=>?_) hG func45 (by kernel_rfl) (ty:=9) (by decide) x45 fun args B L h=>?_
 ·unfold x13 at h
  split at h
  ·rename_i l
   split at h
   ·rename_i d hd
    obtain⟨h1,h2⟩:=F8x (C3c h)
    obtain⟨B',hca⟩:=Ca.of_finV (G7u d h1)
    refine⟨[.agg d.av],B',fun Z w xs hs hx=>?_,by rw[gsz,<- h2]; exact(CallT.of_Ca F7 F9 (E0q hT hG) hca).2⟩
    simp only[VRL,VR] at hx ⊢
    obtain⟨y,r,rfl,⟨a,rfl,q⟩,rfl⟩:=hx
    exact⟨_,_,rfl,⟨a,rfl,D3b hs hd q⟩,rfl⟩
   ·cases h
  ·cases h
 ·unfold x45 at h
  split at h
  ·rename_i l s
   split at h
   ·rename_i d hd
    cases hc:(C2k d drw1&&B3l s [72]) with
    | false=>rw[hc] at h; cases h
    | true =>
     rw[hc] at h
     cases h
     rw[bA] at hc
     have e1:=D0t hc.1
     have e2:=A4n hc.2
     subst e1 e2
     have hgr:GrD drw1:=A8b ck1
     have hn:=D6s hT hG hgr nmH
     rw[G7p] at hn
     refine⟨[.agg drw1.av,.sstr [72]],fun Z w xs hs hx=>?_,by rw[gsz]; exact hn⟩
     simp only[VRL,VR] at hx ⊢
     obtain⟨y,r,rfl,⟨a,rfl,q⟩,y2,r2,rfl,h2,rfl⟩:=hx
     exact⟨_,_,rfl,⟨a,rfl,D3b hs hd q⟩,_,_,rfl,h2,rfl⟩
   ·cases h
  ·cases h
def m106_1:Memo:=⟨[.str [112,111,115,105,116,105,111,110,32,100,105,115,99,32,50,48,40,77,41,32,66]],[.dead,.dead,.dead,.dead,.dead,.dead,.dead,.dead],.tuple [.agg [.int .i64 8,.bool true,.int .i64 20,.int .i64 1,.slice (some ((14,0))) 1 1],.int .i64 0],[.dead,.dead,.dead,.dead,.dead,.dead,.dead,.dead,.cells [.int .i64 8,.bool true,.int .i64 20,.int .i64 1,.slice (some ((14,0))) 1 1] 0 true 115,.cells [.str [112,111,115,105,116,105,111,110],.str [100,105,115,99],.str [50,48,40,77,41],.str [66]] 1 true 9,.cells [.slice (some ((9,2))) 2 2] 0 true 28,.cells [.str [115,116,114,97,105,103,104,116],.str [104,112],.str [104,112],.int .i64 0,.int .i64 0,.bool true,.str [102,108,97,116],.str [108,115],.str [],.int .i64 0,.int .i64 0,.bool false,.str [112,97,114,97,108,108,101,108],.str [108,104,112,115],.str [104,112],.int .i64 1,.int .i64 2,.bool true,.str [115,113,117,97,114,101],.str [108,104,112,115],.str [104,112],.int .i64 1,.int .i64 2,.bool true,.str [114,111,117,110,100],.str [104,112,98],.str [],.int .i64 0,.int .i64 0,.bool false,.str [115,112,104,101,114,101],.str [98],.str [],.int .i64 0,.int .i64 0,.bool false,.str [112,114,111,102,105,108,101],.str [108],.str [],.int .i64 0,.int .i64 3,.bool false,.str [114,117,110,111,117,116],.str [108,104,112],.str [],.int .i64 1,.int .i64 1,.bool false,.str [112,111,115,105,116,105,111,110],.str [108,104,112,115,98],.str [104,112,98],.int .i64 0,.int .i64 3,.bool true] 0 true 188,.cells [.int .i64 8,.bool true,.int .i64 20,.int .i64 1,.slice (some ((14,0))) 1 1] 0 true 115,.cells [.str [66],.int .i64 0] 2 true 117,.cells [.str [66],.int .i64 0] 2 true 117],[]⟩
theorem G4c:(D5 prog pAw0 400).call 106 m106_1.args m106_1.heap fin=some (m106_1.val,m106_1.heap',m106_1.D):=by kernel_rfl
def G0v:List Memo:=[m106_1]
def pAw1:Prims:=pAw0.addh 106 (B9a 8 (B9f G0v))
theorem F6b{A:Amb}(hT:Tab A)(hG:gN prog<=A.G)(hM:Mx A):PrimOK prog A pAw1:=by
 have h0:=F6a hT hG hM
 refine h0.memo gsz func106 (by kernel_rfl) fun e he=>?_
 unfold G0v at he
 simp only[List.mem_cons,List.not_mem_nil,or_false] at he
 subst he
 exact MemoOK.of_run F7 F9 h0 G4c
def m59_1:Memo:=⟨[.ptr (some ((8,0))),.slice (some ((10,0))) 2 2],[.dead,.dead,.dead,.dead,.dead,.dead,.dead,.dead,.cells [.str [],.slice none 0 0,.slice none 0 0,.map (some (9))] 0 true 88,.maps mpH,.cells [.str [100,114,97,119,105,110,103],.str [68]] 1 true 9],.int .i64 0,[.dead,.dead,.dead,.dead,.dead,.dead,.dead,.dead,.cells [.str [68],.slice none 0 0,.slice none 0 0,.map (some (9))] 0 true 88,.maps mpH,.cells [.str [100,114,97,119,105,110,103],.str [68]] 1 true 9],[8]⟩
theorem G8j:(D5 prog pAw1 400).call 59 m59_1.args m59_1.heap fin=some (m59_1.val,m59_1.heap',m59_1.D):=by kernel_rfl
def m59_2:Memo:=⟨[.ptr (some ((8,0))),.slice (some ((10,0))) 8 8],[.dead,.dead,.dead,.dead,.dead,.dead,.dead,.dead,.cells [.str [68],.slice none 0 0,.slice none 0 0,.map (some (9))] 0 true 88,.maps mpH,.cells [.str [102,101,97,116,117,114,101],.str [66],.str [112,108,97,110,101],.str [120],.str [97,116],.str [48],.str [48],.str [48]] 1 true 9],.int .i64 0,[.dead,.dead,.dead,.dead,.dead,.dead,.dead,.dead,.cells [.str [68],.slice (some ((18,0))) 1 1,.slice none 0 0,.map (some (9))] 0 true 88,.maps mpH,.cells [.str [102,101,97,116,117,114,101],.str [66],.str [112,108,97,110,101],.str [120],.str [97,116],.str [48],.str [48],.str [48]] 1 true 9,.cells [.str [66],.int .i64 0,.int .i64 0,.int .i64 0,.int .i64 0,.int .i64 0,.int .i64 0,.int .i64 0,.slice none 0 0] 0 true 49,.cells [.str [48],.str [48],.str [48]] 1 true 9,.cells [.int .i64 0,.int .i64 0,.int .i64 0] 1 true 3,.cells [.str [68],.slice (some ((18,0))) 1 1,.slice none 0 0] 0 true 25,.cells [.str [66],.int .i64 0,.int .i64 0,.int .i64 0,.int .i64 0,.int .i64 0,.int .i64 0,.int .i64 0,.slice none 0 0] 0 true 49,.cells [.str [68],.slice (some ((18,0))) 1 1,.slice none 0 0] 0 true 25,.cells [.str [66],.int .i64 0,.int .i64 0,.int .i64 0,.int .i64 0,.int .i64 0,.int .i64 0,.int .i64 0,.slice none 0 0] 9 true 49,.cells [.str [66],.int .i64 0,.int .i64 0,.int .i64 0,.int .i64 0,.int .i64 0,.int .i64 0,.int .i64 0,.slice none 0 0] 9 true 49],[8]⟩
theorem G8k:(D5 prog pAw1 400).call 59 m59_2.args m59_2.heap fin=some (m59_2.val,m59_2.heap',m59_2.D):=by kernel_rfl
def m59_3:Memo:=⟨[.ptr (some ((8,0))),.slice (some ((11,0))) 11 11],[.dead,.dead,.dead,.dead,.dead,.dead,.dead,.dead,.cells [.str [68],.slice (some ((9,0))) 1 1,.slice none 0 0,.map (some (10))] 0 true 88,.cells [.str [66],.int .i64 0,.int .i64 0,.int .i64 0,.int .i64 0,.int .i64 0,.int .i64 0,.int .i64 0,.slice none 0 0] 9 true 49,.maps mpH,.cells [.str [102,101,97,116,117,114,101],.str [72],.str [104,111,108,101],.str [122],.str [97,116],.str [53,48,48],.str [48],.str [48],.str [115,105,122,101],.str [57,48],.str [57,53]] 1 true 9],.int .i64 0,[.dead,.dead,.dead,.dead,.dead,.dead,.dead,.dead,.cells [.str [68],.slice (some ((21,0))) 2 2,.slice none 0 0,.map (some (10))] 0 true 88,.cells [.str [66],.int .i64 0,.int .i64 0,.int .i64 0,.int .i64 0,.int .i64 0,.int .i64 0,.int .i64 0,.slice none 0 0] 9 true 49,.maps mpH,.cells [.str [102,101,97,116,117,114,101],.str [72],.str [104,111,108,101],.str [122],.str [97,116],.str [53,48,48],.str [48],.str [48],.str [115,105,122,101],.str [57,48],.str [57,53]] 1 true 9,.cells [.str [72],.int .i64 1,.int .i64 2,.int .i64 500,.int .i64 0,.int .i64 0,.int .i64 90,.int .i64 95,.slice none 0 0] 0 true 49,.dead,.cells [.str [53,48,48],.str [48],.str [48],.str [57,48],.str [57,53]] 1 true 9,.cells [.int .i64 500,.int .i64 0,.int .i64 0,.int .i64 90,.int .i64 95] 1 true 3,.cells [.str [68],.slice (some ((21,0))) 2 2,.slice none 0 0] 0 true 25,.cells [.str [72],.int .i64 1,.int .i64 2,.int .i64 500,.int .i64 0,.int .i64 0,.int .i64 90,.int .i64 95,.slice none 0 0] 0 true 49,.cells [.str [68],.slice (some ((21,0))) 2 2,.slice none 0 0] 0 true 25,.dead,.cells [.str [72],.int .i64 1,.int .i64 2,.int .i64 500,.int .i64 0,.int .i64 0,.int .i64 90,.int .i64 95,.slice none 0 0] 9 true 49,.cells [.str [66],.int .i64 0,.int .i64 0,.int .i64 0,.int .i64 0,.int .i64 0,.int .i64 0,.int .i64 0,.slice none 0 0,.str [72],.int .i64 1,.int .i64 2,.int .i64 500,.int .i64 0,.int .i64 0,.int .i64 90,.int .i64 95,.slice none 0 0] 9 true 49],[8]⟩
theorem G8l:(D5 prog pAw1 400).call 59 m59_3.args m59_3.heap fin=some (m59_3.val,m59_3.heap',m59_3.D):=by kernel_rfl
def m59_4:Memo:=⟨[.ptr (some ((8,0))),.slice (some ((11,0))) 6 6],[.dead,.dead,.dead,.dead,.dead,.dead,.dead,.dead,.cells [.str [68],.slice (some ((9,0))) 2 2,.slice none 0 0,.map (some (10))] 0 true 88,.cells [.str [66],.int .i64 0,.int .i64 0,.int .i64 0,.int .i64 0,.int .i64 0,.int .i64 0,.int .i64 0,.slice none 0 0,.str [72],.int .i64 1,.int .i64 2,.int .i64 500,.int .i64 0,.int .i64 0,.int .i64 90,.int .i64 95,.slice none 0 0] 9 true 49,.maps mpH,.cells [.str [102,114,97,109,101],.str [72],.str [112,111,115,105,116,105,111,110],.str [100,105,115,99],.str [50,48,40,77,41],.str [66]] 1 true 9],.int .i64 0,[.dead,.dead,.dead,.dead,.dead,.dead,.dead,.dead,.cells [.str [68],.slice (some ((9,0))) 2 2,.slice none 0 0,.map (some (10))] 0 true 88,.cells [.str [66],.int .i64 0,.int .i64 0,.int .i64 0,.int .i64 0,.int .i64 0,.int .i64 0,.int .i64 0,.slice none 0 0,.str [72],.int .i64 1,.int .i64 2,.int .i64 500,.int .i64 0,.int .i64 0,.int .i64 90,.int .i64 95,.slice (some ((21,0))) 1 1] 9 true 49,.maps mpH,.cells [.str [102,114,97,109,101],.str [72],.str [112,111,115,105,116,105,111,110],.str [100,105,115,99],.str [50,48,40,77,41],.str [66]] 1 true 9,.cells [.int .i64 8,.bool true,.int .i64 20,.int .i64 1,.slice (some ((18,0))) 1 1] 0 true 115,.cells [.str [112,111,115,105,116,105,111,110],.str [100,105,115,99],.str [50,48,40,77,41],.str [66]] 1 true 9,.cells [.slice (some ((13,2))) 2 2] 0 true 28,.cells [.str [115,116,114,97,105,103,104,116],.str [104,112],.str [104,112],.int .i64 0,.int .i64 0,.bool true,.str [102,108,97,116],.str [108,115],.str [],.int .i64 0,.int .i64 0,.bool false,.str [112,97,114,97,108,108,101,108],.str [108,104,112,115],.str [104,112],.int .i64 1,.int .i64 2,.bool true,.str [115,113,117,97,114,101],.str [108,104,112,115],.str [104,112],.int .i64 1,.int .i64 2,.bool true,.str [114,111,117,110,100],.str [104,112,98],.str [],.int .i64 0,.int .i64 0,.bool false,.str [115,112,104,101,114,101],.str [98],.str [],.int .i64 0,.int .i64 0,.bool false,.str [112,114,111,102,105,108,101],.str [108],.str [],.int .i64 0,.int .i64 3,.bool false,.str [114,117,110,111,117,116],.str [108,104,112],.str [],.int .i64 1,.int .i64 1,.bool false,.str [112,111,115,105,116,105,111,110],.str [108,104,112,115,98],.str [104,112,98],.int .i64 0,.int .i64 3,.bool true] 0 true 188,.cells [.int .i64 8,.bool true,.int .i64 20,.int .i64 1,.slice (some ((18,0))) 1 1] 0 true 115,.cells [.str [66],.int .i64 0] 2 true 117,.cells [.str [66],.int .i64 0] 2 true 117,.cells [.int .i64 8,.bool true,.int .i64 20,.int .i64 1,.slice (some ((18,0))) 1 1] 0 true 115,.cells [.int .i64 8,.bool true,.int .i64 20,.int .i64 1,.slice (some ((18,0))) 1 1] 5 true 115,.cells [.int .i64 8,.bool true,.int .i64 20,.int .i64 1,.slice (some ((18,0))) 1 1] 5 true 115],[9]⟩
theorem G8m:(D5 prog pAw1 400).call 59 m59_4.args m59_4.heap fin=some (m59_4.val,m59_4.heap',m59_4.D):=by kernel_rfl
def m59_5:Memo:=⟨[.ptr (some ((8,0))),.slice (some ((13,0))) 6 6],[.dead,.dead,.dead,.dead,.dead,.dead,.dead,.dead,.cells [.str [68],.slice (some ((9,0))) 2 2,.slice none 0 0,.map (some (12))] 0 true 88,.cells [.str [66],.int .i64 0,.int .i64 0,.int .i64 0,.int .i64 0,.int .i64 0,.int .i64 0,.int .i64 0,.slice none 0 0,.str [72],.int .i64 1,.int .i64 2,.int .i64 500,.int .i64 0,.int .i64 0,.int .i64 90,.int .i64 95,.slice (some ((10,0))) 1 1] 9 true 49,.cells [.int .i64 8,.bool true,.int .i64 20,.int .i64 1,.slice (some ((11,0))) 1 1] 5 true 115,.cells [.str [66],.int .i64 0] 2 true 117,.maps mpH,.cells [.str [100,105,109,101,110,115,105,111,110],.str [66],.str [72],.str [120],.str [52,57,48],.str [53,49,48]] 1 true 9],.int .i64 0,[.dead,.dead,.dead,.dead,.dead,.dead,.dead,.dead,.cells [.str [68],.slice (some ((9,0))) 2 2,.slice (some ((17,0))) 1 1,.map (some (12))] 0 true 88,.cells [.str [66],.int .i64 0,.int .i64 0,.int .i64 0,.int .i64 0,.int .i64 0,.int .i64 0,.int .i64 0,.slice none 0 0,.str [72],.int .i64 1,.int .i64 2,.int .i64 500,.int .i64 0,.int .i64 0,.int .i64 90,.int .i64 95,.slice (some ((10,0))) 1 1] 9 true 49,.cells [.int .i64 8,.bool true,.int .i64 20,.int .i64 1,.slice (some ((11,0))) 1 1] 5 true 115,.cells [.str [66],.int .i64 0] 2 true 117,.maps mpH,.cells [.str [100,105,109,101,110,115,105,111,110],.str [66],.str [72],.str [120],.str [52,57,48],.str [53,49,48]] 1 true 9,.cells [.int .i64 490,.int .i64 510] 1 true 3,.cells [.str [66],.str [72],.int .i64 0,.int .i64 490,.int .i64 510] 0 true 94,.cells [.str [66],.str [72],.int .i64 0,.int .i64 490,.int .i64 510] 5 true 94,.cells [.str [66],.str [72],.int .i64 0,.int .i64 490,.int .i64 510] 5 true 94],[8]⟩
theorem G8n:(D5 prog pAw1 400).call 59 m59_5.args m59_5.heap fin=some (m59_5.val,m59_5.heap',m59_5.D):=by kernel_rfl
def m59_6:Memo:=⟨[.ptr (some ((8,0))),.slice (some ((13,0))) 6 6],[.dead,.dead,.dead,.dead,.dead,.dead,.dead,.dead,.cells [.str [68],.slice (some ((9,0))) 2 2,.slice none 0 0,.map (some (12))] 0 true 88,.cells [.str [66],.int .i64 0,.int .i64 0,.int .i64 0,.int .i64 0,.int .i64 0,.int .i64 0,.int .i64 0,.slice none 0 0,.str [72],.int .i64 1,.int .i64 2,.int .i64 500,.int .i64 0,.int .i64 0,.int .i64 90,.int .i64 95,.slice (some ((10,0))) 1 1] 9 true 49,.cells [.int .i64 8,.bool true,.int .i64 20,.int .i64 1,.slice (some ((11,0))) 1 1] 5 true 115,.cells [.str [66],.int .i64 0] 2 true 117,.maps mpH,.cells [.str [100,105,109,101,110,115,105,111,110],.str [66],.str [72],.str [120],.str [53,48,49],.str [53,49,48]] 1 true 9],.int .i64 0,[.dead,.dead,.dead,.dead,.dead,.dead,.dead,.dead,.cells [.str [68],.slice (some ((9,0))) 2 2,.slice (some ((17,0))) 1 1,.map (some (12))] 0 true 88,.cells [.str [66],.int .i64 0,.int .i64 0,.int .i64 0,.int .i64 0,.int .i64 0,.int .i64 0,.int .i64 0,.slice none 0 0,.str [72],.int .i64 1,.int .i64 2,.int .i64 500,.int .i64 0,.int .i64 0,.int .i64 90,.int .i64 95,.slice (some ((10,0))) 1 1] 9 true 49,.cells [.int .i64 8,.bool true,.int .i64 20,.int .i64 1,.slice (some ((11,0))) 1 1] 5 true 115,.cells [.str [66],.int .i64 0] 2 true 117,.maps mpH,.cells [.str [100,105,109,101,110,115,105,111,110],.str [66],.str [72],.str [120],.str [53,48,49],.str [53,49,48]] 1 true 9,.cells [.int .i64 501,.int .i64 510] 1 true 3,.cells [.str [66],.str [72],.int .i64 0,.int .i64 501,.int .i64 510] 0 true 94,.cells [.str [66],.str [72],.int .i64 0,.int .i64 501,.int .i64 510] 5 true 94,.cells [.str [66],.str [72],.int .i64 0,.int .i64 501,.int .i64 510] 5 true 94],[8]⟩
theorem G8o:(D5 prog pAw1 400).call 59 m59_6.args m59_6.heap fin=some (m59_6.val,m59_6.heap',m59_6.D):=by kernel_rfl
def m59_7:Memo:=⟨[.ptr (some ((8,0))),.slice (some ((13,0))) 6 6],[.dead,.dead,.dead,.dead,.dead,.dead,.dead,.dead,.cells [.str [68],.slice (some ((9,0))) 2 2,.slice none 0 0,.map (some (12))] 0 true 88,.cells [.str [66],.int .i64 0,.int .i64 0,.int .i64 0,.int .i64 0,.int .i64 0,.int .i64 0,.int .i64 0,.slice none 0 0,.str [72],.int .i64 1,.int .i64 2,.int .i64 500,.int .i64 0,.int .i64 0,.int .i64 90,.int .i64 95,.slice (some ((10,0))) 1 1] 9 true 49,.cells [.int .i64 8,.bool true,.int .i64 20,.int .i64 1,.slice (some ((11,0))) 1 1] 5 true 115,.cells [.str [66],.int .i64 0] 2 true 117,.maps mpH,.cells [.str [100,105,109,101,110,115,105,111,110],.str [66],.str [72],.str [121],.str [48],.str [48]] 1 true 9],.int .i64 0,[.dead,.dead,.dead,.dead,.dead,.dead,.dead,.dead,.cells [.str [68],.slice (some ((9,0))) 2 2,.slice (some ((17,0))) 1 1,.map (some (12))] 0 true 88,.cells [.str [66],.int .i64 0,.int .i64 0,.int .i64 0,.int .i64 0,.int .i64 0,.int .i64 0,.int .i64 0,.slice none 0 0,.str [72],.int .i64 1,.int .i64 2,.int .i64 500,.int .i64 0,.int .i64 0,.int .i64 90,.int .i64 95,.slice (some ((10,0))) 1 1] 9 true 49,.cells [.int .i64 8,.bool true,.int .i64 20,.int .i64 1,.slice (some ((11,0))) 1 1] 5 true 115,.cells [.str [66],.int .i64 0] 2 true 117,.maps mpH,.cells [.str [100,105,109,101,110,115,105,111,110],.str [66],.str [72],.str [121],.str [48],.str [48]] 1 true 9,.cells [.int .i64 0,.int .i64 0] 1 true 3,.cells [.str [66],.str [72],.int .i64 1,.int .i64 0,.int .i64 0] 0 true 94,.cells [.str [66],.str [72],.int .i64 1,.int .i64 0,.int .i64 0] 5 true 94,.cells [.str [66],.str [72],.int .i64 1,.int .i64 0,.int .i64 0] 5 true 94],[8]⟩
theorem G8p:(D5 prog pAw1 400).call 59 m59_7.args m59_7.heap fin=some (m59_7.val,m59_7.heap',m59_7.D):=by kernel_rfl
def m59_8:Memo:=⟨[.ptr (some ((8,0))),.slice (some ((10,0))) 11 11],[.dead,.dead,.dead,.dead,.dead,.dead,.dead,.dead,.cells [.str [68],.slice none 0 0,.slice none 0 0,.map (some (9))] 0 true 88,.maps mpH,.cells [.str [102,101,97,116,117,114,101],.str [72],.str [104,111,108,101],.str [122],.str [97,116],.str [53,48,48],.str [48],.str [48],.str [115,105,122,101],.str [57,48],.str [57,53]] 1 true 9],.int .i64 0,[.dead,.dead,.dead,.dead,.dead,.dead,.dead,.dead,.cells [.str [68],.slice (some ((19,0))) 1 1,.slice none 0 0,.map (some (9))] 0 true 88,.maps mpH,.cells [.str [102,101,97,116,117,114,101],.str [72],.str [104,111,108,101],.str [122],.str [97,116],.str [53,48,48],.str [48],.str [48],.str [115,105,122,101],.str [57,48],.str [57,53]] 1 true 9,.cells [.str [72],.int .i64 1,.int .i64 2,.int .i64 500,.int .i64 0,.int .i64 0,.int .i64 90,.int .i64 95,.slice none 0 0] 0 true 49,.dead,.cells [.str [53,48,48],.str [48],.str [48],.str [57,48],.str [57,53]] 1 true 9,.cells [.int .i64 500,.int .i64 0,.int .i64 0,.int .i64 90,.int .i64 95] 1 true 3,.cells [.str [68],.slice (some ((19,0))) 1 1,.slice none 0 0] 0 true 25,.cells [.str [72],.int .i64 1,.int .i64 2,.int .i64 500,.int .i64 0,.int .i64 0,.int .i64 90,.int .i64 95,.slice none 0 0] 0 true 49,.cells [.str [68],.slice (some ((19,0))) 1 1,.slice none 0 0] 0 true 25,.cells [.str [72],.int .i64 1,.int .i64 2,.int .i64 500,.int .i64 0,.int .i64 0,.int .i64 90,.int .i64 95,.slice none 0 0] 9 true 49,.cells [.str [72],.int .i64 1,.int .i64 2,.int .i64 500,.int .i64 0,.int .i64 0,.int .i64 90,.int .i64 95,.slice none 0 0] 9 true 49],[8]⟩
theorem G8q:(D5 prog pAw1 400).call 59 m59_8.args m59_8.heap fin=some (m59_8.val,m59_8.heap',m59_8.D):=by kernel_rfl
def m59_9:Memo:=⟨[.ptr (some ((8,0))),.slice (some ((11,0))) 6 6],[.dead,.dead,.dead,.dead,.dead,.dead,.dead,.dead,.cells [.str [68],.slice (some ((9,0))) 1 1,.slice none 0 0,.map (some (10))] 0 true 88,.cells [.str [72],.int .i64 1,.int .i64 2,.int .i64 500,.int .i64 0,.int .i64 0,.int .i64 90,.int .i64 95,.slice none 0 0] 9 true 49,.maps mpH,.cells [.str [102,114,97,109,101],.str [72],.str [112,111,115,105,116,105,111,110],.str [100,105,115,99],.str [50,48,40,77,41],.str [66]] 1 true 9],.int .i64 0,[.dead,.dead,.dead,.dead,.dead,.dead,.dead,.dead,.cells [.str [68],.slice (some ((9,0))) 1 1,.slice none 0 0,.map (some (10))] 0 true 88,.cells [.str [72],.int .i64 1,.int .i64 2,.int .i64 500,.int .i64 0,.int .i64 0,.int .i64 90,.int .i64 95,.slice (some ((21,0))) 1 1] 9 true 49,.maps mpH,.cells [.str [102,114,97,109,101],.str [72],.str [112,111,115,105,116,105,111,110],.str [100,105,115,99],.str [50,48,40,77,41],.str [66]] 1 true 9,.cells [.int .i64 8,.bool true,.int .i64 20,.int .i64 1,.slice (some ((18,0))) 1 1] 0 true 115,.cells [.str [112,111,115,105,116,105,111,110],.str [100,105,115,99],.str [50,48,40,77,41],.str [66]] 1 true 9,.cells [.slice (some ((13,2))) 2 2] 0 true 28,.cells [.str [115,116,114,97,105,103,104,116],.str [104,112],.str [104,112],.int .i64 0,.int .i64 0,.bool true,.str [102,108,97,116],.str [108,115],.str [],.int .i64 0,.int .i64 0,.bool false,.str [112,97,114,97,108,108,101,108],.str [108,104,112,115],.str [104,112],.int .i64 1,.int .i64 2,.bool true,.str [115,113,117,97,114,101],.str [108,104,112,115],.str [104,112],.int .i64 1,.int .i64 2,.bool true,.str [114,111,117,110,100],.str [104,112,98],.str [],.int .i64 0,.int .i64 0,.bool false,.str [115,112,104,101,114,101],.str [98],.str [],.int .i64 0,.int .i64 0,.bool false,.str [112,114,111,102,105,108,101],.str [108],.str [],.int .i64 0,.int .i64 3,.bool false,.str [114,117,110,111,117,116],.str [108,104,112],.str [],.int .i64 1,.int .i64 1,.bool false,.str [112,111,115,105,116,105,111,110],.str [108,104,112,115,98],.str [104,112,98],.int .i64 0,.int .i64 3,.bool true] 0 true 188,.cells [.int .i64 8,.bool true,.int .i64 20,.int .i64 1,.slice (some ((18,0))) 1 1] 0 true 115,.cells [.str [66],.int .i64 0] 2 true 117,.cells [.str [66],.int .i64 0] 2 true 117,.cells [.int .i64 8,.bool true,.int .i64 20,.int .i64 1,.slice (some ((18,0))) 1 1] 0 true 115,.cells [.int .i64 8,.bool true,.int .i64 20,.int .i64 1,.slice (some ((18,0))) 1 1] 5 true 115,.cells [.int .i64 8,.bool true,.int .i64 20,.int .i64 1,.slice (some ((18,0))) 1 1] 5 true 115],[9]⟩
theorem G8r:(D5 prog pAw1 400).call 59 m59_9.args m59_9.heap fin=some (m59_9.val,m59_9.heap',m59_9.D):=by kernel_rfl
def m59_10:Memo:=⟨[.ptr (some ((8,0))),.slice (some ((13,0))) 6 6],[.dead,.dead,.dead,.dead,.dead,.dead,.dead,.dead,.cells [.str [68],.slice (some ((9,0))) 1 1,.slice none 0 0,.map (some (12))] 0 true 88,.cells [.str [72],.int .i64 1,.int .i64 2,.int .i64 500,.int .i64 0,.int .i64 0,.int .i64 90,.int .i64 95,.slice (some ((10,0))) 1 1] 9 true 49,.cells [.int .i64 8,.bool true,.int .i64 20,.int .i64 1,.slice (some ((11,0))) 1 1] 5 true 115,.cells [.str [66],.int .i64 0] 2 true 117,.maps mpH,.cells [.str [100,105,109,101,110,115,105,111,110],.str [66],.str [72],.str [120],.str [52,57,48],.str [53,49,48]] 1 true 9],.int .i64 0,[.dead,.dead,.dead,.dead,.dead,.dead,.dead,.dead,.cells [.str [68],.slice (some ((9,0))) 1 1,.slice (some ((17,0))) 1 1,.map (some (12))] 0 true 88,.cells [.str [72],.int .i64 1,.int .i64 2,.int .i64 500,.int .i64 0,.int .i64 0,.int .i64 90,.int .i64 95,.slice (some ((10,0))) 1 1] 9 true 49,.cells [.int .i64 8,.bool true,.int .i64 20,.int .i64 1,.slice (some ((11,0))) 1 1] 5 true 115,.cells [.str [66],.int .i64 0] 2 true 117,.maps mpH,.cells [.str [100,105,109,101,110,115,105,111,110],.str [66],.str [72],.str [120],.str [52,57,48],.str [53,49,48]] 1 true 9,.cells [.int .i64 490,.int .i64 510] 1 true 3,.cells [.str [66],.str [72],.int .i64 0,.int .i64 490,.int .i64 510] 0 true 94,.cells [.str [66],.str [72],.int .i64 0,.int .i64 490,.int .i64 510] 5 true 94,.cells [.str [66],.str [72],.int .i64 0,.int .i64 490,.int .i64 510] 5 true 94],[8]⟩
theorem G4d:(D5 prog pAw1 400).call 59 m59_10.args m59_10.heap fin=some (m59_10.val,m59_10.heap',m59_10.D):=by kernel_rfl
def m59_11:Memo:=⟨[.ptr (some ((8,0))),.slice (some ((10,0))) 7 7],[.dead,.dead,.dead,.dead,.dead,.dead,.dead,.dead,.cells [.str [68],.slice none 0 0,.slice none 0 0,.map (some (9))] 0 true 88,.maps mpH,.cells [.str [102,101,97,116,117,114,101],.str [66],.str [112,108,97,110,101],.str [120],.str [97,116],.str [48],.str [48]] 1 true 9],.int .i64 4,[.dead,.dead,.dead,.dead,.dead,.dead,.dead,.dead,.cells [.str [68],.slice none 0 0,.slice none 0 0,.map (some (9))] 0 true 88,.maps mpH,.cells [.str [102,101,97,116,117,114,101],.str [66],.str [112,108,97,110,101],.str [120],.str [97,116],.str [48],.str [48]] 1 true 9],[]⟩
theorem G4e:(D5 prog pAw1 400).call 59 m59_11.args m59_11.heap fin=some (m59_11.val,m59_11.heap',m59_11.D):=by kernel_rfl
def G7o:List Memo:=[m59_1,m59_2,m59_3,m59_4,m59_5,m59_6,m59_7,m59_8,m59_9,m59_10,m59_11]
def pAw2:Prims:=pAw1.addh 59 (B9a 8 (B9f G7o))
theorem F6c{A:Amb}(hT:Tab A)(hG:gN prog<=A.G)(hM:Mx A):PrimOK prog A pAw2:=by
 have h0:=F6b hT hG hM
 refine h0.memo gsz func59 (by kernel_rfl) fun e he=>?_
 unfold G7o at he
 simp only[List.mem_cons,List.not_mem_nil,or_false] at he
 rcases he with rfl | rfl | rfl | rfl | rfl | rfl | rfl | rfl | rfl | rfl | rfl
 ·exact MemoOK.of_run F7 F9 h0 G8j
 ·exact MemoOK.of_run F7 F9 h0 G8k
 ·exact MemoOK.of_run F7 F9 h0 G8l
 ·exact MemoOK.of_run F7 F9 h0 G8m
 ·exact MemoOK.of_run F7 F9 h0 G8n
 ·exact MemoOK.of_run F7 F9 h0 G8o
 ·exact MemoOK.of_run F7 F9 h0 G8p
 ·exact MemoOK.of_run F7 F9 h0 G8q
 ·exact MemoOK.of_run F7 F9 h0 G8r
 ·exact MemoOK.of_run F7 F9 h0 G4d
 ·exact MemoOK.of_run F7 F9 h0 G4e
end Go.Proofs.Tryz
