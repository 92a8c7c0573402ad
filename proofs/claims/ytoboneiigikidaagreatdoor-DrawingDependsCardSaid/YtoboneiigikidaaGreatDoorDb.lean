/- Drawings: small drawings are not larger than any. -/
import Derived.Test.YtoboneiigikidaaGreatDoorFo
import Derived.Test.YtoboneiigikidaaGreatDoorBase
import Derived.Test.YtoboneiigikidaaGreatDoorAdDeep
import Derived.Test.YtoboneiigikidaaGreatDoorAdPat
import Derived.Deep.Slices
import Derived.WalkKit
import Derived.ChangeMaps5
import Derived.Test.YtoboneiigikidaaGreatDoorAwh
import Derived.Shelf.Vars
import Derived.Test.YtoboneiigikidaaGreatDoorAdFind
noncomputable section
namespace Go.Proofs.Tryz
open Go.Ad
theorem B2j{β:Type}{p:β->Nat->Bool}{N:β->Nat}{x:β}(h:fdE p N x=true):∀ i,i<N x->p x i=true:=fun i hi=>by
 have h1:G9 (p x) (N x) 0=N x:=of_decide_eq_true h
 exact A2g (p:=p x) (k:=N x) (n:=0) (m:=i) (by omega) (by omega)
theorem C6k{x:Fea}(h:C6j x=true):szF x=true/\x.l.length<=12/\∀ k,k<x.l.length->(F7 x k).l.length<=6:=by
 simp only[C6j,bA,dQ] at h
 obtain⟨h1,h2,h3⟩:=h
 have h4:∀ k,k<x.l.length->(F7 x k).l.length<=6/\∀ n,n<(F7 x k).l.length->(X3 (F7 x k) n).s.length<=100:=fun k hk=>by
  have:=B2j h3 k hk
  simp only[D2o,bA,dQ] at this
  refine⟨this.1,fun n hn=>?_⟩
  have:=B2j this.2 n hn
  simpa only[D2p,dQ] using this
 refine⟨?_,h2,fun k hk=>(h4 k hk).1⟩
 unfold szF I8
 rw[bA,dQ,List.all_eq_true]
 refine⟨by omega,fun y hy=>?_⟩
 obtain⟨k,hk,rfl⟩:=List.getElem_of_mem hy
 have e:F7 x k=x.l[k]:=by unfold F7; rw[gD,gE hk]; rfl
 unfold szD
 rw[List.all_eq_true]
 intro z hz
 obtain⟨n,hn,rfl⟩:=List.getElem_of_mem hz
 have h5:=(h4 k hk).2
 rw[e] at h5
 have h6:=h5 n hn
 have e2:X3 x.l[k] n=x.l[k].l[n]:=by unfold X3; rw[gD,gE hn]; rfl
 rw[e2] at h6
 exact dT (by omega)
theorem E0p{d:Drw}(h:D0z d=true):OkD d:=by
 simp only[D0z,bA,Bool.or_eq_true,dQ] at h
 obtain⟨⟨h1,h2⟩,h3,h4⟩:=h
 have h5:∀ i,i<d.l.length->C6j (D9 d i)=true:=fun i hi=>B2j h3 i hi
 simp only[D1a,bA,Bool.not_eq_true',Bool.or_eq_false_iff,Bool.and_eq_false_iff,decide_eq_false_iff_not] at h4
 obtain⟨⟨_,h6⟩,h7⟩:=h4
 refine⟨by omega,fun i hi=>(C6k (h5 i hi)).1,fun i hi=>?_,fun i k hi hk=>?_,dT (by omega),by omega,fun i hi=>?_⟩
 ·have:=(C6k (h5 i hi)).2.1; omega
 ·have:=(C6k (h5 i hi)).2.2 k hk; omega
 ·have:=B2j h7 i hi
  simp only[p39,bA,dQ] at this
  unfold I8 K8
  exact⟨dT (by omega),dT (by omega)⟩
end Go.Proofs.Tryz
namespace Go.Proofs.Tryz
open Go.Ad Go.Deep Go.ChangeShapes
section
variable {H:Type} {enc:TypeId×Value->H} {W:World} {fuel:Nat} {cs:List Value} {x:DataW H×List MemPlace}
theorem open_list{α:Type}[Inhabited α]{fv:α->List FV}{t e:TypeId}{es:Nat}(ht:prog.underlying t=some (.slice e))(hes:prog.cellsOf e=es)(h0:0<es)(hrow:∀ (fuel:Nat) (cs:List Value) (x:DataW H×List MemPlace),DataW.trod enc prog W 0 (fun _=>true) true fuel e cs=some x->∃ y:α,FVRL (fzW W) (fv y) cs)(h:DataW.trod enc prog W 0 (fun _=>true) true fuel t cs=some x):∃ (L:List α) (v:Value),cs=[v]/\FVR (fzW W) (B5t fv es L) v:=by
 rcases open_slice ht h with⟨rfl,_⟩ | ⟨a,len,cap,m,n,D,Pl,rfl,_,hl,_,hmm,_,hel⟩
 ·exact⟨[],_,rfl,by simp[B5t,FVR]⟩
 rw[if_pos rfl] at hmm
 subst hmm
 by_cases hz:len=0
 ·subst hz
  refine⟨[],_,rfl,?_⟩
  simp only[B5t,FVR,List.length_nil]
  exact .inl ⟨trivial,.inr ⟨_,_,rfl⟩⟩
 obtain⟨q,hq⟩:=choose_lt (α:=α) (n:=len) (p:=fun i y=>∃ cs',W.cells? 0 (a.add (i*es)) es=some cs'/\FVRL (fzW W) (fv y) cs') fun i hi=>by
  obtain⟨cs',h1,h2⟩:=hel i (by omega)
  rw[hes] at h1
  obtain⟨y,hy⟩:=hrow _ _ _ h2
  exact⟨y,cs',h1,hy⟩
 refine⟨(List.range len).map q,_,rfl,?_⟩
 obtain⟨c,off,spot⟩:=a
 have hblk:spot=none/\∃ arr e fz,W.heap[c]?=some (.cells arr e fz):=by
  obtain⟨cs',h1,_⟩:=hq 0 (by omega)
  obtain⟨_,hlen,hce⟩:=World.cells?_some h1
  have:=hce 0 h0
  rw[gE (by omega)] at this
  rw[show((⟨c,off,spot⟩:Addr).add (0*es)).add 0=⟨c,off,spot⟩ by simp[Addr.add]] at this
  unfold World.cell? at this
  split at this
  ·rename_i arr e fz hh
   cases spot with
   | none=>exact⟨rfl,arr,e,fz,hh⟩
   | some s=>simp at this
  ·cases this
 obtain⟨rfl,arr,e',fz,hh⟩:=hblk
 have hcell:∀ k,W.cell? ⟨c,k,none⟩=arr[k]?:=fun k=>by simp[World.cell?,hh]
 have each:∀ i,i<len->∃ cs',cs'.length=es/\(∀ j,j<es->arr[off+i*es+j]?=cs'[j]?)/\FVRL (fzW W) (fv (q i)) cs':=fun i hi=>by
  obtain⟨cs',h1,h2⟩:=hq i hi
  obtain⟨_,hlen,hce⟩:=World.cells?_some h1
  refine⟨cs',hlen,fun j hj=>?_,h2⟩
  have:=hce j hj
  rw[M9,M9,hcell] at this
  exact this
 have hfit:off+len*es<=arr.size:=by
  obtain⟨cs',k1,k2,_⟩:=each (len-1) (by omega)
  have h3:=k2 (es-1) (by omega)
  rw[gE (show es-1<cs'.length by omega)] at h3
  have h4:=(gA.1 h3).1
  have h5:(len-1)*es+es=len*es:=by rw[<- Nat.succ_mul,show(len-1).succ=len by omega]
  omega
 have hL:((List.range len).map q).length=len:=by simp
 simp only[B5t,FVR,hL]
 refine .inr ⟨by omega,c,off,m,arr.toList,by unfold fzW; rw[hh],hl,rfl,by rw[Array.length_toList]; exact hfit,fun i hi=>?_⟩
 have e1:A7 fv ((List.range len).map q) i=fv (q i):=by
  unfold A7
  rw[gD,List.getElem?_map,List.getElem?_range hi]
  rfl
 rw[e1]
 obtain⟨cs',k1,k2,k3⟩:=each i hi
 have hle:i*es+es<=len*es:=by rw[<- Nat.succ_mul]; exact Nat.mul_le_mul_right es hi
 have e2:((arr.toList.drop (off+i*es)).take es)=cs':=by
  apply List.ext_getElem?
  intro j
  rw[tK]
  split
  ·rename_i hj
   rw[dP,Array.getElem?_toList]
   exact k2 j hj
  ·rw[gO (by omega)]
 rw[e2]
 exact k3
set_option maxRecDepth 100000 in
theorem E8w(h:DataW.trod enc prog W 0 (fun _=>true) true fuel 117 cs=some x):∃ y:Dat,FVRL (fzW W) y.fv cs:=by
 obtain⟨xs,k,hk,hxy,hlen,hxl,hfd⟩:=DataW.trod_struct underlying117 h
 have hc:cs.length=2:=by rw[hlen]; kernel_rfl
 match xs,hxl,cs,hc with
 | [y0,y1],_,[v0,v1],_ =>
  have g0:=hfd 0 _ rfl
  have g1:=hfd 1 _ rfl
  simp[show prog.cellsOf 3=1 by kernel_rfl,show prog.cellsOf 9=1 by kernel_rfl] at g0 g1
  obtain⟨b0,q0,_,_⟩:=DataW.trod_string underlying9 g0
  obtain⟨n1,q1,_,_⟩:=DataW.trod_int underlying3 g1
  simp at q0 q1
  subst q0 q1
  refine⟨⟨b0.data.toList,n1⟩,?_⟩
  simp only[Dat.fv,FVRL,FVR]
  exact⟨_,_,rfl,⟨b0,rfl,rfl⟩,_,_,rfl,rfl,rfl⟩
set_option maxRecDepth 100000 in
theorem E8z(h:DataW.trod enc prog W 0 (fun _=>true) true fuel 115 cs=some x):∃ y:Frm,FVRL (fzW W) y.fv cs:=by
 obtain⟨xs,k,hk,hxy,hlen,hxl,hfd⟩:=DataW.trod_struct underlying115 h
 have hc:cs.length=5:=by rw[hlen]; kernel_rfl
 match xs,hxl,cs,hc with
 | [y0,y1,y2,y3,y4],_,[v0,v1,v2,v3,v4],_ =>
  have g0:=hfd 0 _ rfl
  have g1:=hfd 1 _ rfl
  have g2:=hfd 2 _ rfl
  have g3:=hfd 3 _ rfl
  have g4:=hfd 4 _ rfl
  simp[show prog.cellsOf 3=1 by kernel_rfl,show prog.cellsOf 4=1 by kernel_rfl,show prog.cellsOf 113=1 by kernel_rfl] at g0 g1 g2 g3 g4
  obtain⟨n0,q0,_,_⟩:=DataW.trod_int underlying3 g0
  obtain⟨b1,q1,_⟩:=DataW.trod_bool underlying4 g1
  obtain⟨n2,q2,_,_⟩:=DataW.trod_int underlying3 g2
  obtain⟨n3,q3,_,_⟩:=DataW.trod_int underlying3 g3
  obtain⟨L,v,q4,hL⟩:=open_list (fv:=Dat.fv) (es:=2) underlying113 (by kernel_rfl) (by omega) (fun _ _ _ h=>E8w h) g4
  simp at q0 q1 q2 q3 q4
  subst q0 q1 q2 q3 q4
  refine⟨⟨n0,b1,n2,n3,L⟩,?_⟩
  simp only[Frm.fv,FVRL]
  exact⟨_,_,rfl,by simp[FVR],_,_,rfl,by simp[FVR],_,_,rfl,by simp[FVR],_,_,rfl,by simp[FVR],_,_,rfl,hL,rfl⟩
set_option maxRecDepth 100000 in
theorem E3t(h:DataW.trod enc prog W 0 (fun _=>true) true fuel 44 cs=some x):∃ a b c:Int,cs=[.int .i64 a,.int .i64 b,.int .i64 c]:=by
 obtain⟨xs,k,hk,hxy,hlen,hxl,hfd⟩:=DataW.trod_struct underlying44 h
 have hc:cs.length=3:=by rw[hlen]; kernel_rfl
 match xs,hxl,cs,hc with
 | [y0,y1,y2],_,[v0,v1,v2],_ =>
  have g0:=hfd 0 _ rfl
  have g1:=hfd 1 _ rfl
  have g2:=hfd 2 _ rfl
  simp[show prog.cellsOf 3=1 by kernel_rfl] at g0 g1 g2
  obtain⟨n0,q0,_,_⟩:=DataW.trod_int underlying3 g0
  obtain⟨n1,q1,_,_⟩:=DataW.trod_int underlying3 g1
  obtain⟨n2,q2,_,_⟩:=DataW.trod_int underlying3 g2
  simp at q0 q1 q2
  subst q0 q1 q2
  exact⟨n0,n1,n2,rfl⟩
set_option maxRecDepth 100000 in
theorem C3p(h:DataW.trod enc prog W 0 (fun _=>true) true fuel 46 cs=some x):∃ a b:Int,cs=[.int .i64 a,.int .i64 b]:=by
 obtain⟨xs,k,hk,hxy,hlen,hxl,hfd⟩:=DataW.trod_struct underlying46 h
 have hc:cs.length=2:=by rw[hlen]; kernel_rfl
 match xs,hxl,cs,hc with
 | [y0,y1],_,[v0,v1],_ =>
  have g0:=hfd 0 _ rfl
  have g1:=hfd 1 _ rfl
  simp[show prog.cellsOf 3=1 by kernel_rfl] at g0 g1
  obtain⟨n0,q0,_,_⟩:=DataW.trod_int underlying3 g0
  obtain⟨n1,q1,_,_⟩:=DataW.trod_int underlying3 g1
  simp at q0 q1
  subst q0 q1
  exact⟨n0,n1,rfl⟩
set_option maxRecDepth 100000 in
theorem E8y(h:DataW.trod enc prog W 0 (fun _=>true) true fuel 49 cs=some x):∃ y:Fea,FVRL (fzW W) y.fv cs:=by
 obtain⟨xs,k,hk,hxy,hlen,hxl,hfd⟩:=DataW.trod_struct underlying49 h
 have hc:cs.length=9:=by rw[hlen]; kernel_rfl
 match xs,hxl,cs,hc with
 | [y0,y1,y2,y3,y4,y5],_,[v0,v1,v2,v3,v4,v5,v6,v7,v8],_ =>
  have g0:=hfd 0 _ rfl
  have g1:=hfd 1 _ rfl
  have g2:=hfd 2 _ rfl
  have g3:=hfd 3 _ rfl
  have g4:=hfd 4 _ rfl
  have g5:=hfd 5 _ rfl
  simp[show prog.cellsOf 3=1 by kernel_rfl,show prog.cellsOf 9=1 by kernel_rfl,show prog.cellsOf 44=3 by kernel_rfl,show prog.cellsOf 46=2 by kernel_rfl,show prog.cellsOf 47=1 by kernel_rfl] at g0 g1 g2 g3 g4 g5
  obtain⟨b0,q0,_,_⟩:=DataW.trod_string underlying9 g0
  obtain⟨n1,q1,_,_⟩:=DataW.trod_int underlying3 g1
  obtain⟨n2,q2,_,_⟩:=DataW.trod_int underlying3 g2
  obtain⟨a3,b3,c3,q3⟩:=E3t g3
  obtain⟨a4,b4,q4⟩:=C3p g4
  obtain⟨L,v,q5,hL⟩:=open_list (fv:=Frm.fv) (es:=5) underlying47 (by kernel_rfl) (by omega) (fun _ _ _ h=>E8z h) g5
  simp at q0 q1 q2 q3 q4 q5
  obtain⟨rfl,rfl,rfl⟩:=q3
  obtain⟨rfl,rfl⟩:=q4
  subst q0 q1 q2 q5
  refine⟨⟨b0.data.toList,n1,n2,a3,b3,c3,a4,b4,L⟩,?_⟩
  simp only[Fea.fv,FVRL]
  exact⟨_,_,rfl,by simp only[FVR]; exact⟨b0,rfl,rfl⟩,_,_,rfl,by simp[FVR],_,_,rfl,by simp[FVR],_,_,rfl,by simp[FVR],_,_,rfl,by simp[FVR],_,_,rfl,by simp[FVR],_,_,rfl,by simp[FVR],_,_,rfl,by simp[FVR],_,_,rfl,hL,rfl⟩
set_option maxRecDepth 100000 in
theorem E8x(h:DataW.trod enc prog W 0 (fun _=>true) true fuel 94 cs=some x):∃ y:Dim,FVRL (fzW W) y.fv cs:=by
 obtain⟨xs,k,hk,hxy,hlen,hxl,hfd⟩:=DataW.trod_struct underlying94 h
 have hc:cs.length=5:=by rw[hlen]; kernel_rfl
 match xs,hxl,cs,hc with
 | [y0,y1,y2,y3],_,[v0,v1,v2,v3,v4],_ =>
  have g0:=hfd 0 _ rfl
  have g1:=hfd 1 _ rfl
  have g2:=hfd 2 _ rfl
  have g3:=hfd 3 _ rfl
  simp[show prog.cellsOf 3=1 by kernel_rfl,show prog.cellsOf 9=1 by kernel_rfl,show prog.cellsOf 46=2 by kernel_rfl] at g0 g1 g2 g3
  obtain⟨b0,q0,_,_⟩:=DataW.trod_string underlying9 g0
  obtain⟨b1,q1,_,_⟩:=DataW.trod_string underlying9 g1
  obtain⟨n2,q2,_,_⟩:=DataW.trod_int underlying3 g2
  obtain⟨a3,b3,q3⟩:=C3p g3
  simp at q0 q1 q2 q3
  obtain⟨rfl,rfl⟩:=q3
  subst q0 q1 q2
  refine⟨⟨b0.data.toList,b1.data.toList,n2,a3,b3⟩,?_⟩
  simp only[Dim.fv,FVRL,FVR]
  exact⟨_,_,rfl,⟨b0,rfl,rfl⟩,_,_,rfl,⟨b1,rfl,rfl⟩,_,_,rfl,rfl,_,_,rfl,rfl,_,_,rfl,rfl,rfl⟩
set_option maxRecDepth 100000 in
theorem open_drw{b0:Nat}{v:Value}{d:DataW H}{ps:List MemPlace}(hval:Value.okWide prog W .any b0 25 v)(h:DataW.Trod enc prog W 0 (fun _=>true) true 25 v d ps)(n:Nat):∃ d:Drw,VR (A4c n (fzW W)) (.agg d.av) v:=by
 obtain⟨fuel,hf⟩:=h
 obtain⟨xs,k,hk,hxy,hlen,hxl,hfd⟩:=DataW.trod_struct underlying25 hf
 have hc:v.cells.toList.length=3:=by rw[hlen]; kernel_rfl
 obtain⟨a,rfl⟩:∃ a,v=.agg a:=by
  cases v with
  | agg a=>exact⟨a,rfl⟩
  | _=>simp[Value.cells] at hc
 simp only[Value.cells] at hc hfd
 obtain⟨cs,hcs⟩:∃ cs,cs=a.toList:=⟨_,rfl⟩
 rw[<- hcs] at hc hfd
 match xs,hxl,cs,hc,hcs with
 | [y0,y1,y2],_,[v0,v1,v2],_,hcs =>
  have g0:=hfd 0 _ rfl
  have g1:=hfd 1 _ rfl
  have g2:=hfd 2 _ rfl
  simp[show prog.cellsOf 9=1 by kernel_rfl,show prog.cellsOf 22=1 by kernel_rfl,show prog.cellsOf 23=1 by kernel_rfl] at g0 g1 g2
  obtain⟨b0,q0,_,_⟩:=DataW.trod_string underlying9 g0
  obtain⟨L,v1',q1,hL⟩:=open_list (fv:=Fea.fv) (es:=9) underlying22 (by kernel_rfl) (by omega) (fun _ _ _ h=>E8y h) g1
  obtain⟨M,v2',q2,hM⟩:=open_list (fv:=Dim.fv) (es:=5) underlying23 (by kernel_rfl) (by omega) (fun _ _ _ h=>E8x h) g2
  simp at q0 q1 q2
  subst q0 q1 q2
  refine⟨⟨b0.data.toList,L,M⟩,?_⟩
  simp only[VR,Drw.av]
  refine⟨a,rfl,?_⟩
  rw[<- hcs]
  simp only[VRL]
  exact⟨_,_,rfl,by simp only[VR]; exact⟨b0,rfl,rfl⟩,_,_,rfl,hL,_,_,rfl,hM,rfl⟩
end
theorem mx_of{W:World}(hG:gN prog<=W.heap.size)(hsh:W.ShapedOpen prog):Mx (ambOf W):=by
 obtain⟨m,hm⟩:=cell_of_shapedOpen_int (P:=prog) (w:=W) (g:=0) (t:=3) (zero:=#[.int .i64 0]) (k:=.i64) hsh (by decide +kernel) (by kernel_rfl) (by kernel_rfl) (by kernel_rfl) (by kernel_rfl) (by kernel_rfl)
 refine⟨m,fun w hw=>?_⟩
 have h0:0<(ambOf W).G:=by
  have h8:=gsz
  rw[h8] at hG
  show 0<W.heap.size
  omega
 have:=hw 0 h0
 unfold World.cell? at hm ⊢
 rw[show w.heap[0]?=W.heap[0]? from this]
 exact hm
theorem tab_laid{W:World}{a b:String×DataW Unit}{r:List (String×DataW Unit)}(h:laidMet prog (a::b::("internal/strconv.uint64pow10",Lib.tabData .u64 Lib.pow10Tab)::r) W) :
  Lib.TabIs prog W "internal/strconv.uint64pow10" .u64 Lib.pow10Tab :=
 Lib.tabIs_of_head (g:=5) (t:=303) (e:=252) (n:=20) (by kernel_rfl) (by kernel_rfl) (by kernel_rfl) (by kernel_rfl) (by kernel_rfl) (by kernel_rfl) (A9y (A9y h))
theorem G8s(d:Drw):(D6 prog pDa 60).call 20 [.agg d.av] (Bg 8) G7 =
  brK (D8 (okR Fea.fv d.l.length (A7 Fea.fv d.l))&&D8 (okR Dim.fv d.m.length (A7 Dim.fv d.m))) (brK (D0z (drE d)) (brK (D8 (okR Fea.fv d.l.length (A7 Fea.fv d.l))&&D8 (okR Dim.fv d.m.length (A7 Dim.fv d.m))) (brK (D8 (OkD (drE d))) (some (.sbool (O7 (drE d)==0))) none) none) (some (.bool false))) none:=by kernel_rfl
theorem G8t(d:Drw)(s:Txt):(D6 prog pDa 60).call 21 [.agg d.av,.sstr s] (Bg 8) G7 =
  brK (D8 (okR Fea.fv d.l.length (A7 Fea.fv d.l))&&D8 (okR Dim.fv d.m.length (A7 Dim.fv d.m))) (brK (D8 (OkD (drE d))) (brK (O7 (drE d) != 0) (some (.tuple [.slice none 0 0,.sint IntKind.i64 (O7 (drE d)) ])) (brK (D8 (okR Fea.fv d.l.length (A7 Fea.fv d.l))&&D8 (okR Dim.fv d.m.length (A7 Dim.fv d.m))) (brK (decide ((ofR Fea.fv d.l.length (A7 Fea.fv d.l)).length<4611686018427387904)) (brK (decide (E5 (drE d) s<0)) (some (.tuple [.slice none 0 0,.int .i64 6])) (brK (D8 (okR Fea.fv d.l.length (A7 Fea.fv d.l))&&D8 (okR Dim.fv d.m.length (A7 Dim.fv d.m))) (brK (D8 (GrD (drE d)/\s∈F9 (drE d))) (some (.tuple [.flist (((J6 (drE d) s)).length) (fun i=>txF ((J6 (drE d) s).getD i default)) 1,.int .i64 0])) none) none)) none) none)) none) none:=by kernel_rfl
def E4c(d:Drw):Bool:=D0z d&&O7 d==0
theorem H0x(d:Drw):∃ v,(D6 prog pDa 60).call 20 [.agg d.av] (Bg 8) G7=some v/\A5e (E4c d) v:=by
 rw[G8s]
 simp only[K5,Bool.and_self,V9]
 unfold E4c
 cases h:D0z d with
 | false=>exact exV (A8 rfl rfl) (.inl rfl)
 | true=>exact exV (A8 rfl (A8 rfl (A8 rfl (A8 (D5 (E0p h)) rfl)))) (.inr rfl)
def D5t(d:Drw)(s:Txt):Int:=if O7 d≠0 then O7 d else if E5 d s<0 then 6 else 0
def F6(d:Drw)(s:Txt):List Txt:=if O7 d≠0 \/ E5 d s<0 then[] else J6 d s
def F5j(l:List Txt)(e:Int)(v:AV):Prop:=F5 0 v=true/\∀ (Z:Emb) (y:Value),VR Z v y->VR Z (.tuple [R7 l,.sint .i64 e]) y
theorem D1q(e:Int):F5j [] e (.tuple [.slice none 0 0,.sint .i64 e]):=⟨rfl,fun Z y hy=>by
 simp only[VR,VRL] at hy ⊢
 obtain⟨l,rfl,y1,l1,h1,h2,h3⟩:=hy
 refine⟨l,rfl,y1,l1,h1,?_,h3⟩
 obtain⟨_,_,rfl⟩:=h2
 simp[FVR]⟩
theorem F5k(l:List Txt):F5j l 0 (.tuple [.flist l.length (fun i=>txF (l.getD i default)) 1,.int .i64 0]):=⟨rfl,fun Z y hy=>by
 simp only[VR] at hy ⊢
 obtain⟨l,rfl,h⟩:=hy
 refine⟨l,rfl,?_⟩
 simp only[VRL,VR] at h ⊢
 exact h⟩
theorem E7t(e:Int):F5j [] e (.tuple [.slice none 0 0,.int .i64 e]):=⟨rfl,fun Z y hy=>(D1q e).2 Z y (by simpa only[VR,VRL] using hy)⟩
theorem H0y(d:Drw)(s:Txt)(hk:OkD d):∃ v,(D6 prog pDa 60).call 21 [.agg d.av,.sstr s] (Bg 8) G7=some v/\F5j (F6 d s) (D5t d s) v:=by
 rw[G8t]
 simp only[K5,Bool.and_self,V9,I5 Fea.inj]
 unfold F6 D5t
 by_cases c:O7 d≠0
 ·rw[if_pos c,if_pos (.inl c)]
  exact exV (A8 rfl (A8 (D5 hk) (A8 (by simpa using c) rfl))) (D1q _)
 rw[if_neg c]
 have c':O7 d=0:=by omega
 have hl:=hk.len
 by_cases c2:E5 d s<0
 ·rw[if_pos c2,if_pos (.inr c2)]
  exact exV (A8 rfl (A8 (D5 hk) (C8 (by simpa using c') (A8 rfl (A8 (dT hl) (A8 (dT c2) rfl)))))) (E7t 6)
 rw[if_neg c2,if_neg (fun h=>h.elim c c2)]
 have hm:s∈F9 d:=G6y.1 (by omega)
 exact exV (A8 rfl (A8 (D5 hk) (C8 (by simpa using c') (A8 rfl (A8 (dT hl) (C8 (dF c2) (A8 rfl (A8 (D5 ⟨B3s c',hm⟩) rfl)))))))) (F5k _)
theorem G5s{l:List Txt}(h:SS l){i:Nat}(h0:0<i)(hi:i<l.length):Op.bytesLess (l.getD i default) (l.getD (i-1) default)=false:=by
 have h1:=List.pairwise_iff_getElem.1 h (i-1) i (by omega) hi (by omega)
 have h2:=E0h l[i] l[i-1]
 rw[dT (List.le_of_lt h1)] at h2
 rw[gD,gD,gE hi,gE (by omega)]
 simpa using h2
def D4x:Code:=I7 (J8 0 (f23.body.getD .skip))
def sp23:SP:=⟨[.flist 1]++dr 2++[.int .i64]++dr 17,dd8⟩
def E1i:AEx->SP
 | .exit 0=>⟨dr 21,dd8⟩
 | _=>sp23
theorem F7d(l:List Txt)(n:Int):F3 prog (D6 prog pDa 60) (pDa.blk 23) D4x (sp23.rho [.n l.length,.fr (A7 txF l),.i n]) (sp23.heap [.n l.length,.fr (A7 txF l),.i n]) (I1 E1i 8 []) =
  brK (decide (n>0)) (brK (decide (0<=n/\n<(l.length:Int))) (brK (decide (0<=W (n-1)/\W (n-1)<(l.length:Int))) (brK (!l.getD n.toNat default==l.getD n.toNat default) (brK (!!l.getD (W (n-1)).toNat default==l.getD (W (n-1)).toNat default) (some (.ret,[.n (l.length),.fr (A7 txF l),.i (n)])) (brK (Op.bytesLess (l.getD n.toNat default) (l.getD (W (n-1)).toNat default)) (some (.ret,[.n (l.length),.fr (A7 txF l),.i (n)])) (some (.normal,[.n (l.length),.fr (A7 txF l),.i (W (n-1))])))) (brK (Op.bytesLess (l.getD n.toNat default) (l.getD (W (n-1)).toNat default)) (some (.ret,[.n (l.length),.fr (A7 txF l),.i (n)])) (some (.normal,[.n (l.length),.fr (A7 txF l),.i (W (n-1))])))) none) none) (some (.exit 0,[])):=by kernel_rfl
def L23(x:List Txt)(n:Nat):List Lf:=[.n x.length,.fr (A7 txF x),.i ((x.length:Int)-1-n)]
def C0z(x:List Txt):List Lf:=L23 x 0
def G1d(_:List Lf)(x:List Txt):List Lf:=[]
def N23(x:List Txt):Nat:=x.length-1
def E7x(x:List Txt):Prop:=SS x/\x.length<2^62
def D0b:List Lf->List Txt
 | [.n n,.fr f,_]=>ofR txF n f
 | _=>[]
theorem G4u(x:List Txt)(hx:E7x x)(n:Nat)(hn:n<=N23 x):F3 prog (D6 prog pDa 60) (pDa.blk 23) D4x (sp23.rho (L23 x n)) (sp23.heap (L23 x n)) (I1 E1i 8 [])=some (if n<N23 x then(.normal,L23 x (n+1)) else(.exit 0,G1d (C0z x) x)):=by
 obtain⟨h1,h2⟩:=hx
 simp only[L23]
 rw[F7d]
 by_cases h:n<N23 x
 ·rw[if_pos h]
  simp only[N23] at h
  have e1:(x.length:Int)-1-n=((x.length-1-n:Nat):Int):=by omega
  have e2:W (((x.length-1-n:Nat):Int)-1)=((x.length-1-n-1:Nat):Int):=by rw[D4b (by omega) (by omega)]; omega
  have e3:(x.length:Int)-1-((n+1:Nat):Int)=((x.length-1-n-1:Nat):Int):=by omega
  rw[e1,e2,e3]
  simp only[tN]
  refine A8 (dT (by omega)) (A8 (dT (by omega)) (A8 (dT (by omega)) ?_))
  refine C8 (by simp) ?_
  exact C8 (G5s h1 (by omega) (by omega)) rfl
 ·rw[if_neg h]
  simp only[N23] at h hn
  exact C8 (dF (by omega)) rfl
theorem G5v{A:Amb}(x:List Txt)(_hx:E7x x)(Bb:Heap)(hB:Bb.length=8):Wk A Bb ⟨sp23.rho (C0z x),sp23.heap (C0z x),[]⟩ ⟨sp23.rho (L23 x 0),sp23.heap (L23 x 0),[]⟩:=by
 have _:=hB
 exact Wk.refl
def G6k:Blk:=hookP sp23 8 [] (itT (E1i (.exit 0)) 0 (.exit 0) D0b C0z G1d E7x)
theorem F4u{A:Amb}{q:Prims}(h0:PrimOK prog A pDa)(hq:PrimOK prog A q):PrimOK prog A (q.addb 23 0 G6k) :=
 SEB.iterK (id:=0) (ds:=[]) (dec:=D0b) (sp0:=sp23) (sp:=sp23) (sq:=E1i) (m:=8) (ee:=.exit 0) (L0:=C0z) (L:=L23) (Le:=G1d) (N:=N23) (Inv:=E7x) (k:=60) F8 G5 h0 hq func23 (show f23.body=some (f23.body.getD .skip) by kernel_rfl) (body:=D4x) (by kernel_rfl)
  rfl rfl rfl rfl (by simp) (fun _=>⟨.inr rfl,.inr rfl,.inr rfl,.inr rfl,.inr rfl,.inr rfl,.inr rfl,.inr rfl,trivial⟩) G5v G4u
theorem F3m(l:List Txt):D0b (C0z l)=l:=by simp[D0b,C0z,L23,I5 O5]
def G3h:Prims:=pDa.addb 23 0 G6k
theorem G8v(l:List Txt):(D6 prog G3h 60).call 23 [R7 l] (Bg 8) G7 =
  brK (itC C0z D0b E7x [Lf.n l.length,Lf.fr (A7 txF l),Lf.i (W ((l.length:Int)-1))]) (some (.bool true)) none:=by kernel_rfl
def G7u:Par (List Txt) where
 get:=fun | [a]=>B2p txF 1 a | _=>none
 av:=fun x=>[R7 x]
 ok:=by
  intro l x h Z vs hv
  split at h
  ·simp only[VRL] at hv ⊢
   obtain⟨y,r,e,q1,q3⟩:=hv
   exact⟨y,r,e,A3g h q1,q3⟩
  ·cases h
 free:=fun _=>rfl
def VSr(l:List Txt):Tr AV:=.br (D8 (SS l/\l.length<2^62)) (.leaf (.bool true)) .fail
def VRt(d:Drw):Tr AV:=.leaf (.sbool (E4c d))
def VDp(x:Drw×List UInt8):Tr AV:=.br (D8 (OkD x.1)) (.leaf (.tuple [R7 (F6 x.1 x.2),.sint .i64 (D5t x.1 x.2)])) .fail
def pDe:Prims:=((pDa.addt 20 (Q8 Q0 VRt)).addt 21 (Q8 B0c VDp)).addt 23 (Q8 G7u VSr)
theorem G3i{A:Amb}(hT:Tab A)(hG:gN prog<=A.G):PrimOK prog A pDe:=by
 have h0:=G3g hT hG
 have h1:PrimOK prog A G3h:=F4u h0 h0
 refine J4 hG h1 (J4 hG h0 (J4 hG h0 h0 Q0 VRt func20 (by kernel_rfl) fun x v hv=>?_) B0c VDp func21 (by kernel_rfl) fun x v hv=>?_) G7u VSr func23 (by kernel_rfl) fun x v hv=>?_
 ·cases hv
  obtain⟨v',h1,h2⟩:=H0x x
  exact⟨v',h1,V7 h2,A0s h2⟩
 ·obtain⟨hz,hv⟩:=Tr.br1 hv
  cases hv
  obtain⟨v',h1,h2,h3⟩:=H0y x.1 x.2 (J7 hz)
  exact⟨v',h1,h2,h3⟩
 ·obtain⟨hz,hv⟩:=Tr.br1 hv
  cases hv
  have hz:=J7 hz
  refine⟨.bool true,?_,rfl,fun Z y hy=>hy⟩
  show(D6 prog G3h 60).call 23 [R7 x] (Bg 8) G7=_
  rw[G8v,D4b (by omega) (by omega)]
  have e:[Lf.n x.length,Lf.fr (A7 txF x),Lf.i ((x.length:Int)-1)]=C0z x:=by simp[C0z,L23]
  rw[e]
  exact A8 (Q9 (F3m x) hz) rfl
theorem A5t{d:Drw}(h:GrD d){s:Txt}(hs:s∈F9 d)(x:Txt):x∈J6 d s↔Rch (nbO d) s x:=by
 have hl:(F9 d).length=d.l.length:=by unfold F9; rw[List.length_map]
 have h1:=h.len
 rw[<- A8n h hs,C0l]
 exact(C6d (nb:=nbO d) (u:=F9 d) (fun x hx y hy=>A6v h hx y hy) (k:=99) hs (by omega)).2 x
theorem E8o{d:Drw}(h:GrD d){s:Txt}(hs:s∈F9 d):SS (J6 d s):=by
 rw[<- A8n h hs]; exact B6g _
theorem C3s{d:Drw}(h:GrD d){s x:Txt}(hs:s∈F9 d)(hr:Rch (nbO d) s x):x∈F9 d:=by
 induction hr with
 | one h2=>exact A6v h hs _ h2
 | more _ h2 ih=>exact A6v h ih _ h2
theorem B4w{d:Drw}(h:GrD d){s x:Txt}(hs:s∈F9 d)(hx:x∈J6 d s):x∈F9 d:=C3s h hs ((A5t h hs x).1 hx)
theorem D2j{d:Drw}{s x:Txt}(hs:s∈F9 d)(hx:x∈nbO d s):x∈Z6 d:=by
 have h0:=G6y.2 hs
 have h1:=A0h d s
 refine((A7c d _ (lR _)).2 x).2 ?_
 unfold usO
 rw[List.take_length,List.mem_flatMap]
 have hi:(E5 d s).toNat<d.l.length:=by omega
 refine⟨d.l[(E5 d s).toNat],List.getElem_mem hi,?_⟩
 have e:D9 d (E5 d s).toNat=d.l[(E5 d s).toNat]:=by unfold D9; rw[gD,gE hi]; rfl
 rw[<- e]
 exact hx
theorem D6y{d:Drw}(h:GrD d){s x:Txt}(hs:s∈F9 d)(hx:x∈J6 d s):x∈Z6 d:=by
 have hr:=(A5t h hs x).1 hx
 cases hr with
 | one h2=>exact D2j hs h2
 | more h3 h2=>exact D2j (C3s h hs h3) h2
theorem D2k{d:Drw}(h:GrD d){s x y:Txt}(hs:s∈F9 d)(hx:x∈J6 d s)(hy:y∈J6 d x):y∈J6 d s :=
 (A5t h hs y).2 (((A5t h hs x).1 hx).trans ((A5t h (B4w h hs hx) y).1 hy))
theorem E5m{d:Drw}(hc:O7 d=0){s:Txt}(hs:s∈F9 d):D5t d s=0/\F6 d s=J6 d s:=by
 have h0:=G6y.2 hs
 unfold D5t F6
 exact⟨by rw[if_neg (by omega),if_neg (by omega)],by rw[if_neg (by omega)]⟩
theorem F2b{d:Drw}(h:GrD d):(Z6 d).length<=640000:=by
 have:=C0u h _ (lR _)
 have:=h.len
 unfold Z6
 omega
def D5i:Code:=I7 (J8 4 (f5.body.getD .skip))
def sp5e:SP:=⟨dr 1++[.is (.ptr (some (8,0)))]++dr 1++[.flist 1]++dr 3++[.flist 1]++dr 19++[.flist 9]++[.int .i64]++[.int .i64]++dr 23++[.flist 1]++[.int .i64]++[.int .i64]++dr 17++[.flist 1]++[.int .i64]++[.int .i64]++dr 11,dd8++[.any,.any]⟩
def E1s:AEx->SP
 | .exit 4=>⟨dr 1++[.is (.ptr (some (8,0)))]++dr 1++[.flist 1]++dr 3++[.flist 1]++dr 19++[.flist 9]++[.int .i64]++[.int .i64]++dr 23++[.flist 1]++[.int .i64]++[.int .i64]++dr 31,dd8++[.any,.any]⟩
 | _=>sp5e
theorem F7n(M L:List Txt)(na:Nat)(fa:Nat->List FV)(nf:Nat)(ff:Nat->List FV)(a b:Int)(nl:Nat)(fl:Nat->List FV)(c e:Int)(q n:Int)(d:Drw)(f:Fea):F3 prog (D6 prog pDe 60) (pDe.blk 5) D5i (sp5e.rho [.n na,.fr fa,.n L.length,.fr (A7 txF L),.n nf,.fr ff,.i a,.i b,.n nl,.fr fl,.i c,.i e,.n M.length,.fr (A7 txF M),.i q,.i n,.o (A9 d),.o (C9 f)]) (sp5e.heap [.n na,.fr fa,.n L.length,.fr (A7 txF L),.n nf,.fr ff,.i a,.i b,.n nl,.fr fl,.i c,.i e,.n M.length,.fr (A7 txF M),.i q,.i n,.o (A9 d),.o (C9 f)]) (I1 E1s 10 []) =
  brK (decide (n<q)) (brK (decide (0<=n/\n<(M.length:Int))) (brK (D8 (okR txF L.length (A7 txF L))) (brK (decide ((ofR txF L.length (A7 txF L)).length<4611686018427387904)) (brK (!decide (M.getD n.toNat default∈ofR txF L.length (A7 txF L))) (some (.ret,[.n (na),.fr (fa),.n (L.length),.fr (A7 txF L),.n (nf),.fr (ff),.i (a),.i (b),.n (nl),.fr (fl),.i (c),.i (e),.n (M.length),.fr (A7 txF M),.i (q),.i (n),.o (A9 d),.o (C9 (f))])) (some (.normal,[.n (na),.fr (fa),.n (L.length),.fr (A7 txF L),.n (nf),.fr (ff),.i (a),.i (b),.n (nl),.fr (fl),.i (c),.i (e),.n (M.length),.fr (A7 txF M),.i (q),.i (W (n+1)),.o (A9 d),.o (C9 (f))]))) none) none) none) (some (.exit 4,[.n (na),.fr (fa),.n (L.length),.fr (A7 txF L),.n (nf),.fr (ff),.i (a),.i (b),.n (nl),.fr (fl),.i (c),.i (e),.o (A9 d),.o (C9 (f))])):=by kernel_rfl
structure B5e where
 M:List Txt
 L:List Txt
 na:Nat
 fa:Nat->List FV
 nf:Nat
 ff:Nat->List FV
 a:Int
 b:Int
 nl:Nat
 fl:Nat->List FV
 c:Int
 e:Int
 d:Drw
 f:Fea
def L5e(x:B5e)(n:Nat):List Lf:=[.n x.na,.fr x.fa,.n x.L.length,.fr (A7 txF x.L),.n x.nf,.fr x.ff,.i x.a,.i x.b,.n x.nl,.fr x.fl,.i x.c,.i x.e,.n x.M.length,.fr (A7 txF x.M),.i x.M.length,.i n,.o (A9 x.d),.o (C9 x.f)]
def C8u(x:B5e):List Lf:=L5e x 0
def G1g(_:List Lf)(x:B5e):List Lf:=[.n x.na,.fr x.fa,.n x.L.length,.fr (A7 txF x.L),.n x.nf,.fr x.ff,.i x.a,.i x.b,.n x.nl,.fr x.fl,.i x.c,.i x.e,.o (A9 x.d),.o (C9 x.f)]
def N5e(x:B5e):Nat:=x.M.length
def D6n(x:B5e):Prop:=x.M.length<2^62/\x.L.length<2^62/\∀ y,y∈x.M->y∈x.L
def P9:List Lf->B5e
 | [.n na,.fr fa,.n k,.fr g,.n nf,.fr ff,.i a,.i b,.n nl,.fr fl,.i c,.i e,.n m,.fr h,_,_,.o o,.o p]=>⟨ofR txF m h,ofR txF k g,na,fa,nf,ff,a,b,nl,fl,c,e,I4 o,A1o p⟩
 | _=>⟨[],[],0,fun _=>[],0,fun _=>[],0,0,0,fun _=>[],0,0,default,default⟩
theorem G5e(x:B5e)(hx:D6n x)(n:Nat)(hn:n<=N5e x):F3 prog (D6 prog pDe 60) (pDe.blk 5) D5i (sp5e.rho (L5e x n)) (sp5e.heap (L5e x n)) (I1 E1s 10 [])=some (if n<N5e x then(.normal,L5e x (n+1)) else(.exit 4,G1g (C8u x) x)):=by
 obtain⟨h1,h2,h3⟩:=hx
 simp only[L5e]
 rw[F7n,I6 hn h1]
 simp only[tN,I5 O5,K5]
 by_cases h:n<N5e x
 ·rw[if_pos h]
  simp only[N5e] at h
  have hm:x.M.getD n default∈x.L:=h3 _ (A5q h)
  refine A8 (dT (by omega)) (A8 (dT (by omega)) (A8 rfl (A8 (dT (by omega)) ?_)))
  exact C8 (by rw[dT hm]; rfl) rfl
 ·rw[if_neg h]
  simp only[N5e] at h
  exact C8 (dF (by omega)) rfl
theorem G5y{A:Amb}(x:B5e)(_hx:D6n x)(Bb:Heap)(hB:Bb.length=10):Wk A Bb ⟨sp5e.rho (C8u x),sp5e.heap (C8u x),[]⟩ ⟨sp5e.rho (L5e x 0),sp5e.heap (L5e x 0),[]⟩:=by
 have _:=hB
 exact Wk.refl
def G6s:Blk:=hookP sp5e 10 [] (itT (E1s (.exit 4)) 4 (.exit 4) P9 C8u G1g D6n)
theorem F5c{A:Amb}{q:Prims}(h0:PrimOK prog A pDe)(hq:PrimOK prog A q):PrimOK prog A (q.addb 5 4 G6s) :=
 SEB.iterK (id:=4) (ds:=[]) (dec:=P9) (sp0:=sp5e) (sp:=sp5e) (sq:=E1s) (m:=10) (ee:=.exit 4) (L0:=C8u) (L:=L5e) (Le:=G1g) (N:=N5e) (Inv:=D6n) (k:=60) F8 G5 h0 hq func5 (show f5.body=some (f5.body.getD .skip) by kernel_rfl) (body:=D5i) (by kernel_rfl)
  rfl rfl rfl rfl (by simp) (fun _=>⟨.inr rfl,.inr rfl,.inr rfl,.inr rfl,.inr rfl,.inr rfl,.inr rfl,.inr rfl,.inr rfl,.inr rfl,trivial⟩) G5y G5e
theorem H0p{M L:List Txt}(na:Nat)(fa:Nat->List FV)(nf:Nat)(ff:Nat->List FV)(a b:Int)(nl:Nat)(fl:Nat->List FV)(c e:Int)(d:Drw)(f:Fea)(h1:M.length<2^62)(h2:L.length<2^62)(h3:∀ y,y∈M->y∈L) :
  P9 [Lf.n na,.fr fa,.n L.length,.fr (A7 txF L),.n nf,.fr ff,.i a,.i b,.n nl,.fr fl,.i c,.i e,.n M.length,.fr (A7 txF M),.i M.length,.i 0,.o (A9 d),.o (C9 f)]=⟨M,L,na,fa,nf,ff,a,b,nl,fl,c,e,d,f⟩ /\
  itC C8u P9 D6n [Lf.n na,.fr fa,.n L.length,.fr (A7 txF L),.n nf,.fr ff,.i a,.i b,.n nl,.fr fl,.i c,.i e,.n M.length,.fr (A7 txF M),.i M.length,.i 0,.o (A9 d),.o (C9 f)]=true :=
 have e0:P9 [Lf.n na,.fr fa,.n L.length,.fr (A7 txF L),.n nf,.fr ff,.i a,.i b,.n nl,.fr fl,.i c,.i e,.n M.length,.fr (A7 txF M),.i M.length,.i 0,.o (A9 d),.o (C9 f)]=⟨M,L,na,fa,nf,ff,a,b,nl,fl,c,e,d,f⟩:=by simp[P9,I5 O5,E8,M5]
 ⟨e0,Q9 (L0:=C8u) (dec:=P9) (Inv:=D6n) (x:=⟨M,L,na,fa,nf,ff,a,b,nl,fl,c,e,d,f⟩) e0 ⟨h1,h2,h3⟩⟩
def pDf1:Prims:=pDe.addb 5 4 G6s
structure B5c where
 A:List Txt
 L:List Txt
 nf:Nat
 ff:Nat->List FV
 a:Int
 b:Int
 d:Drw
 f:Fea
def D5h:Code:=I7 (J8 2 (f5.body.getD .skip))
def sp5c:SP:=⟨dr 1++[.is (.ptr (some (8,0)))]++dr 1++[.flist 1]++dr 3++[.flist 1]++dr 19++[.flist 9]++[.int .i64]++[.int .i64]++dr 23++[.flist 1]++[.int .i64]++[.int .i64]++dr 31,dd8++[.any,.any]⟩
def E1r:AEx->SP
 | .exit 2=>⟨dr 1++[.is (.ptr (some (8,0)))]++dr 1++[.flist 1]++dr 23++[.flist 9]++[.int .i64]++[.int .i64]++dr 57,dd8++[.any,.any]⟩
 | _=>sp5c
theorem F7m(A L:List Txt)(nf:Nat)(ff:Nat->List FV)(a b q n:Int)(d:Drw)(f:Fea):F3 prog (D6 prog pDf1 60) (pDf1.blk 5) D5h (sp5c.rho [.n A.length,.fr (A7 txF A),.n L.length,.fr (A7 txF L),.n nf,.fr ff,.i a,.i b,.n L.length,.fr (A7 txF L),.i q,.i n,.o (A9 d),.o (C9 f)]) (sp5c.heap [.n A.length,.fr (A7 txF A),.n L.length,.fr (A7 txF L),.n nf,.fr ff,.i a,.i b,.n L.length,.fr (A7 txF L),.i q,.i n,.o (A9 d),.o (C9 f)]) (I1 E1r 10 []) =
  brK (decide (n<q)) (brK (decide (0<=n/\n<(L.length:Int))) (brK (D8 (okR Fea.fv d.l.length (A7 Fea.fv d.l))&&D8 (okR Dim.fv d.m.length (A7 Dim.fv d.m))) (brK (D8 (OkD (drE d))) (brK (D5t (drE d) (L.getD n.toNat default) != 0) (some (.ret,[.n (A.length),.fr (A7 txF A),.n (L.length),.fr (A7 txF L),.n (nf),.fr (ff),.i (a),.i (b),.n (L.length),.fr (A7 txF L),.i (q),.i (n),.o (A9 d),.o (C9 (f))])) (brK (D8 (okR txF A.length (A7 txF A))) (brK (decide ((ofR txF A.length (A7 txF A)).length<4611686018427387904)) (brK (!decide (L.getD n.toNat default∈ofR txF A.length (A7 txF A))) (some (.ret,[.n (A.length),.fr (A7 txF A),.n (L.length),.fr (A7 txF L),.n (nf),.fr (ff),.i (a),.i (b),.n (L.length),.fr (A7 txF L),.i (q),.i (n),.o (A9 d),.o (C9 (f))])) (brK (itC C8u P9 D6n [Lf.n A.length,Lf.fr (A7 txF A),Lf.n L.length,Lf.fr (A7 txF L),Lf.n nf,Lf.fr ff,Lf.i a,Lf.i b,Lf.n L.length,Lf.fr (A7 txF L),Lf.i q,Lf.i n,Lf.n (F6 (drE d) (L.getD n.toNat default)).length,Lf.fr (A7 txF (F6 (drE d) (L.getD n.toNat default))),Lf.i ((F6 (drE d) (L.getD n.toNat default)).length:Int),Lf.i 0,Lf.o (A9 d),Lf.o (C9 f)]) (some (.normal,[.n ((P9 [Lf.n A.length,Lf.fr (A7 txF A),Lf.n L.length,Lf.fr (A7 txF L),Lf.n nf,Lf.fr ff,Lf.i a,Lf.i b,Lf.n L.length,Lf.fr (A7 txF L),Lf.i q,Lf.i n,Lf.n (F6 (drE d) (L.getD n.toNat default)).length,Lf.fr (A7 txF (F6 (drE d) (L.getD n.toNat default))),Lf.i ((F6 (drE d) (L.getD n.toNat default)).length:Int),Lf.i 0,Lf.o (A9 d),Lf.o (C9 f)]).na),.fr ((P9 [Lf.n A.length,Lf.fr (A7 txF A),Lf.n L.length,Lf.fr (A7 txF L),Lf.n nf,Lf.fr ff,Lf.i a,Lf.i b,Lf.n L.length,Lf.fr (A7 txF L),Lf.i q,Lf.i n,Lf.n (F6 (drE d) (L.getD n.toNat default)).length,Lf.fr (A7 txF (F6 (drE d) (L.getD n.toNat default))),Lf.i ((F6 (drE d) (L.getD n.toNat default)).length:Int),Lf.i 0,Lf.o (A9 d),Lf.o (C9 f)]).fa),.n ((P9 [Lf.n A.length,Lf.fr (A7 txF A),Lf.n L.length,Lf.fr (A7 txF L),Lf.n nf,Lf.fr ff,Lf.i a,Lf.i b,Lf.n L.length,Lf.fr (A7 txF L),Lf.i q,Lf.i n,Lf.n (F6 (drE d) (L.getD n.toNat default)).length,Lf.fr (A7 txF (F6 (drE d) (L.getD n.toNat default))),Lf.i ((F6 (drE d) (L.getD n.toNat default)).length:Int),Lf.i 0,Lf.o (A9 d),Lf.o (C9 f)]).L.length),.fr (A7 txF (P9 [Lf.n A.length,Lf.fr (A7 txF A),Lf.n L.length,Lf.fr (A7 txF L),Lf.n nf,Lf.fr ff,Lf.i a,Lf.i b,Lf.n L.length,Lf.fr (A7 txF L),Lf.i q,Lf.i n,Lf.n (F6 (drE d) (L.getD n.toNat default)).length,Lf.fr (A7 txF (F6 (drE d) (L.getD n.toNat default))),Lf.i ((F6 (drE d) (L.getD n.toNat default)).length:Int),Lf.i 0,Lf.o (A9 d),Lf.o (C9 f)]).L),.n ((P9 [Lf.n A.length,Lf.fr (A7 txF A),Lf.n L.length,Lf.fr (A7 txF L),Lf.n nf,Lf.fr ff,Lf.i a,Lf.i b,Lf.n L.length,Lf.fr (A7 txF L),Lf.i q,Lf.i n,Lf.n (F6 (drE d) (L.getD n.toNat default)).length,Lf.fr (A7 txF (F6 (drE d) (L.getD n.toNat default))),Lf.i ((F6 (drE d) (L.getD n.toNat default)).length:Int),Lf.i 0,Lf.o (A9 d),Lf.o (C9 f)]).nf),.fr ((P9 [Lf.n A.length,Lf.fr (A7 txF A),Lf.n L.length,Lf.fr (A7 txF L),Lf.n nf,Lf.fr ff,Lf.i a,Lf.i b,Lf.n L.length,Lf.fr (A7 txF L),Lf.i q,Lf.i n,Lf.n (F6 (drE d) (L.getD n.toNat default)).length,Lf.fr (A7 txF (F6 (drE d) (L.getD n.toNat default))),Lf.i ((F6 (drE d) (L.getD n.toNat default)).length:Int),Lf.i 0,Lf.o (A9 d),Lf.o (C9 f)]).ff),.i ((P9 [Lf.n A.length,Lf.fr (A7 txF A),Lf.n L.length,Lf.fr (A7 txF L),Lf.n nf,Lf.fr ff,Lf.i a,Lf.i b,Lf.n L.length,Lf.fr (A7 txF L),Lf.i q,Lf.i n,Lf.n (F6 (drE d) (L.getD n.toNat default)).length,Lf.fr (A7 txF (F6 (drE d) (L.getD n.toNat default))),Lf.i ((F6 (drE d) (L.getD n.toNat default)).length:Int),Lf.i 0,Lf.o (A9 d),Lf.o (C9 f)]).a),.i ((P9 [Lf.n A.length,Lf.fr (A7 txF A),Lf.n L.length,Lf.fr (A7 txF L),Lf.n nf,Lf.fr ff,Lf.i a,Lf.i b,Lf.n L.length,Lf.fr (A7 txF L),Lf.i q,Lf.i n,Lf.n (F6 (drE d) (L.getD n.toNat default)).length,Lf.fr (A7 txF (F6 (drE d) (L.getD n.toNat default))),Lf.i ((F6 (drE d) (L.getD n.toNat default)).length:Int),Lf.i 0,Lf.o (A9 d),Lf.o (C9 f)]).b),.n ((P9 [Lf.n A.length,Lf.fr (A7 txF A),Lf.n L.length,Lf.fr (A7 txF L),Lf.n nf,Lf.fr ff,Lf.i a,Lf.i b,Lf.n L.length,Lf.fr (A7 txF L),Lf.i q,Lf.i n,Lf.n (F6 (drE d) (L.getD n.toNat default)).length,Lf.fr (A7 txF (F6 (drE d) (L.getD n.toNat default))),Lf.i ((F6 (drE d) (L.getD n.toNat default)).length:Int),Lf.i 0,Lf.o (A9 d),Lf.o (C9 f)]).nl),.fr ((P9 [Lf.n A.length,Lf.fr (A7 txF A),Lf.n L.length,Lf.fr (A7 txF L),Lf.n nf,Lf.fr ff,Lf.i a,Lf.i b,Lf.n L.length,Lf.fr (A7 txF L),Lf.i q,Lf.i n,Lf.n (F6 (drE d) (L.getD n.toNat default)).length,Lf.fr (A7 txF (F6 (drE d) (L.getD n.toNat default))),Lf.i ((F6 (drE d) (L.getD n.toNat default)).length:Int),Lf.i 0,Lf.o (A9 d),Lf.o (C9 f)]).fl),.i ((P9 [Lf.n A.length,Lf.fr (A7 txF A),Lf.n L.length,Lf.fr (A7 txF L),Lf.n nf,Lf.fr ff,Lf.i a,Lf.i b,Lf.n L.length,Lf.fr (A7 txF L),Lf.i q,Lf.i n,Lf.n (F6 (drE d) (L.getD n.toNat default)).length,Lf.fr (A7 txF (F6 (drE d) (L.getD n.toNat default))),Lf.i ((F6 (drE d) (L.getD n.toNat default)).length:Int),Lf.i 0,Lf.o (A9 d),Lf.o (C9 f)]).c),.i (W ((P9 [Lf.n A.length,Lf.fr (A7 txF A),Lf.n L.length,Lf.fr (A7 txF L),Lf.n nf,Lf.fr ff,Lf.i a,Lf.i b,Lf.n L.length,Lf.fr (A7 txF L),Lf.i q,Lf.i n,Lf.n (F6 (drE d) (L.getD n.toNat default)).length,Lf.fr (A7 txF (F6 (drE d) (L.getD n.toNat default))),Lf.i ((F6 (drE d) (L.getD n.toNat default)).length:Int),Lf.i 0,Lf.o (A9 d),Lf.o (C9 f)]).e+1)),.o (.cells [.sstr ((P9 [Lf.n A.length,Lf.fr (A7 txF A),Lf.n L.length,Lf.fr (A7 txF L),Lf.n nf,Lf.fr ff,Lf.i a,Lf.i b,Lf.n L.length,Lf.fr (A7 txF L),Lf.i q,Lf.i n,Lf.n (F6 (drE d) (L.getD n.toNat default)).length,Lf.fr (A7 txF (F6 (drE d) (L.getD n.toNat default))),Lf.i ((F6 (drE d) (L.getD n.toNat default)).length:Int),Lf.i 0,Lf.o (A9 d),Lf.o (C9 f)]).d.s),.flist (((P9 [Lf.n A.length,Lf.fr (A7 txF A),Lf.n L.length,Lf.fr (A7 txF L),Lf.n nf,Lf.fr ff,Lf.i a,Lf.i b,Lf.n L.length,Lf.fr (A7 txF L),Lf.i q,Lf.i n,Lf.n (F6 (drE d) (L.getD n.toNat default)).length,Lf.fr (A7 txF (F6 (drE d) (L.getD n.toNat default))),Lf.i ((F6 (drE d) (L.getD n.toNat default)).length:Int),Lf.i 0,Lf.o (A9 d),Lf.o (C9 f)]).d.l).length) (fun i=>((P9 [Lf.n A.length,Lf.fr (A7 txF A),Lf.n L.length,Lf.fr (A7 txF L),Lf.n nf,Lf.fr ff,Lf.i a,Lf.i b,Lf.n L.length,Lf.fr (A7 txF L),Lf.i q,Lf.i n,Lf.n (F6 (drE d) (L.getD n.toNat default)).length,Lf.fr (A7 txF (F6 (drE d) (L.getD n.toNat default))),Lf.i ((F6 (drE d) (L.getD n.toNat default)).length:Int),Lf.i 0,Lf.o (A9 d),Lf.o (C9 f)]).d.l.getD i default).fv) 9,.flist (((P9 [Lf.n A.length,Lf.fr (A7 txF A),Lf.n L.length,Lf.fr (A7 txF L),Lf.n nf,Lf.fr ff,Lf.i a,Lf.i b,Lf.n L.length,Lf.fr (A7 txF L),Lf.i q,Lf.i n,Lf.n (F6 (drE d) (L.getD n.toNat default)).length,Lf.fr (A7 txF (F6 (drE d) (L.getD n.toNat default))),Lf.i ((F6 (drE d) (L.getD n.toNat default)).length:Int),Lf.i 0,Lf.o (A9 d),Lf.o (C9 f)]).d.m).length) (fun i=>((P9 [Lf.n A.length,Lf.fr (A7 txF A),Lf.n L.length,Lf.fr (A7 txF L),Lf.n nf,Lf.fr ff,Lf.i a,Lf.i b,Lf.n L.length,Lf.fr (A7 txF L),Lf.i q,Lf.i n,Lf.n (F6 (drE d) (L.getD n.toNat default)).length,Lf.fr (A7 txF (F6 (drE d) (L.getD n.toNat default))),Lf.i ((F6 (drE d) (L.getD n.toNat default)).length:Int),Lf.i 0,Lf.o (A9 d),Lf.o (C9 f)]).d.m.getD i default).fv) 5] 0 true 25),.o (.cells [.sstr ((P9 [Lf.n A.length,Lf.fr (A7 txF A),Lf.n L.length,Lf.fr (A7 txF L),Lf.n nf,Lf.fr ff,Lf.i a,Lf.i b,Lf.n L.length,Lf.fr (A7 txF L),Lf.i q,Lf.i n,Lf.n (F6 (drE d) (L.getD n.toNat default)).length,Lf.fr (A7 txF (F6 (drE d) (L.getD n.toNat default))),Lf.i ((F6 (drE d) (L.getD n.toNat default)).length:Int),Lf.i 0,Lf.o (A9 d),Lf.o (C9 f)]).f.s),.sint IntKind.i64 ((P9 [Lf.n A.length,Lf.fr (A7 txF A),Lf.n L.length,Lf.fr (A7 txF L),Lf.n nf,Lf.fr ff,Lf.i a,Lf.i b,Lf.n L.length,Lf.fr (A7 txF L),Lf.i q,Lf.i n,Lf.n (F6 (drE d) (L.getD n.toNat default)).length,Lf.fr (A7 txF (F6 (drE d) (L.getD n.toNat default))),Lf.i ((F6 (drE d) (L.getD n.toNat default)).length:Int),Lf.i 0,Lf.o (A9 d),Lf.o (C9 f)]).f.k) ,.sint IntKind.i64 ((P9 [Lf.n A.length,Lf.fr (A7 txF A),Lf.n L.length,Lf.fr (A7 txF L),Lf.n nf,Lf.fr ff,Lf.i a,Lf.i b,Lf.n L.length,Lf.fr (A7 txF L),Lf.i q,Lf.i n,Lf.n (F6 (drE d) (L.getD n.toNat default)).length,Lf.fr (A7 txF (F6 (drE d) (L.getD n.toNat default))),Lf.i ((F6 (drE d) (L.getD n.toNat default)).length:Int),Lf.i 0,Lf.o (A9 d),Lf.o (C9 f)]).f.a) ,.sint IntKind.i64 ((P9 [Lf.n A.length,Lf.fr (A7 txF A),Lf.n L.length,Lf.fr (A7 txF L),Lf.n nf,Lf.fr ff,Lf.i a,Lf.i b,Lf.n L.length,Lf.fr (A7 txF L),Lf.i q,Lf.i n,Lf.n (F6 (drE d) (L.getD n.toNat default)).length,Lf.fr (A7 txF (F6 (drE d) (L.getD n.toNat default))),Lf.i ((F6 (drE d) (L.getD n.toNat default)).length:Int),Lf.i 0,Lf.o (A9 d),Lf.o (C9 f)]).f.x) ,.sint IntKind.i64 ((P9 [Lf.n A.length,Lf.fr (A7 txF A),Lf.n L.length,Lf.fr (A7 txF L),Lf.n nf,Lf.fr ff,Lf.i a,Lf.i b,Lf.n L.length,Lf.fr (A7 txF L),Lf.i q,Lf.i n,Lf.n (F6 (drE d) (L.getD n.toNat default)).length,Lf.fr (A7 txF (F6 (drE d) (L.getD n.toNat default))),Lf.i ((F6 (drE d) (L.getD n.toNat default)).length:Int),Lf.i 0,Lf.o (A9 d),Lf.o (C9 f)]).f.y) ,.sint IntKind.i64 ((P9 [Lf.n A.length,Lf.fr (A7 txF A),Lf.n L.length,Lf.fr (A7 txF L),Lf.n nf,Lf.fr ff,Lf.i a,Lf.i b,Lf.n L.length,Lf.fr (A7 txF L),Lf.i q,Lf.i n,Lf.n (F6 (drE d) (L.getD n.toNat default)).length,Lf.fr (A7 txF (F6 (drE d) (L.getD n.toNat default))),Lf.i ((F6 (drE d) (L.getD n.toNat default)).length:Int),Lf.i 0,Lf.o (A9 d),Lf.o (C9 f)]).f.z) ,.sint IntKind.i64 ((P9 [Lf.n A.length,Lf.fr (A7 txF A),Lf.n L.length,Lf.fr (A7 txF L),Lf.n nf,Lf.fr ff,Lf.i a,Lf.i b,Lf.n L.length,Lf.fr (A7 txF L),Lf.i q,Lf.i n,Lf.n (F6 (drE d) (L.getD n.toNat default)).length,Lf.fr (A7 txF (F6 (drE d) (L.getD n.toNat default))),Lf.i ((F6 (drE d) (L.getD n.toNat default)).length:Int),Lf.i 0,Lf.o (A9 d),Lf.o (C9 f)]).f.lo) ,.sint IntKind.i64 ((P9 [Lf.n A.length,Lf.fr (A7 txF A),Lf.n L.length,Lf.fr (A7 txF L),Lf.n nf,Lf.fr ff,Lf.i a,Lf.i b,Lf.n L.length,Lf.fr (A7 txF L),Lf.i q,Lf.i n,Lf.n (F6 (drE d) (L.getD n.toNat default)).length,Lf.fr (A7 txF (F6 (drE d) (L.getD n.toNat default))),Lf.i ((F6 (drE d) (L.getD n.toNat default)).length:Int),Lf.i 0,Lf.o (A9 d),Lf.o (C9 f)]).f.hi) ,.flist (((P9 [Lf.n A.length,Lf.fr (A7 txF A),Lf.n L.length,Lf.fr (A7 txF L),Lf.n nf,Lf.fr ff,Lf.i a,Lf.i b,Lf.n L.length,Lf.fr (A7 txF L),Lf.i q,Lf.i n,Lf.n (F6 (drE d) (L.getD n.toNat default)).length,Lf.fr (A7 txF (F6 (drE d) (L.getD n.toNat default))),Lf.i ((F6 (drE d) (L.getD n.toNat default)).length:Int),Lf.i 0,Lf.o (A9 d),Lf.o (C9 f)]).f.l).length) (fun i=>((P9 [Lf.n A.length,Lf.fr (A7 txF A),Lf.n L.length,Lf.fr (A7 txF L),Lf.n nf,Lf.fr ff,Lf.i a,Lf.i b,Lf.n L.length,Lf.fr (A7 txF L),Lf.i q,Lf.i n,Lf.n (F6 (drE d) (L.getD n.toNat default)).length,Lf.fr (A7 txF (F6 (drE d) (L.getD n.toNat default))),Lf.i ((F6 (drE d) (L.getD n.toNat default)).length:Int),Lf.i 0,Lf.o (A9 d),Lf.o (C9 f)]).f.l.getD i default).fv) 5] 0 true 49)])) none)) none) none)) none) none) none) (some (.exit 2,[.n (A.length),.fr (A7 txF A),.n (nf),.fr (ff),.i (a),.i (b),.o (A9 d),.o (C9 (f))])):=by kernel_rfl
def L5c(x:B5c)(n:Nat):List Lf:=[.n x.A.length,.fr (A7 txF x.A),.n x.L.length,.fr (A7 txF x.L),.n x.nf,.fr x.ff,.i x.a,.i x.b,.n x.L.length,.fr (A7 txF x.L),.i x.L.length,.i n,.o (A9 x.d),.o (C9 x.f)]
def C1b(x:B5c):List Lf:=L5c x 0
def G1f(_:List Lf)(x:B5c):List Lf:=[.n x.A.length,.fr (A7 txF x.A),.n x.nf,.fr x.ff,.i x.a,.i x.b,.o (A9 x.d),.o (C9 x.f)]
def N5c(x:B5c):Nat:=x.L.length
def D6m(x:B5c):Prop:=OkD x.d/\O7 x.d=0/\x.A=Z6 x.d/\∃ f,f∈F9 x.d/\x.L=J6 x.d f
def A1i:List Lf->B5c
 | [.n na,.fr fa,.n k,.fr g,.n nf,.fr ff,.i a,.i b,_,_,_,_,.o o,.o p]=>⟨ofR txF na fa,ofR txF k g,nf,ff,a,b,I4 o,A1o p⟩
 | _=>⟨[],[],0,fun _=>[],0,0,default,default⟩
theorem G5d(x:B5c)(hx:D6m x)(n:Nat)(hn:n<=N5c x):F3 prog (D6 prog pDf1 60) (pDf1.blk 5) D5h (sp5c.rho (L5c x n)) (sp5c.heap (L5c x n)) (I1 E1r 10 [])=some (if n<N5c x then(.normal,L5c x (n+1)) else(.exit 2,G1f (C1b x) x)):=by
 obtain⟨h1,h2,h3,f,h4,h5⟩:=hx
 have hg:=B3s h2
 have hL:x.L.length<=64:=by rw[h5]; exact A4d hg h4
 have hA:x.A.length<4611686018427387904:=by rw[h3]; have:=F2b hg; omega
 simp only[L5c]
 rw[F7m]
 simp only[tN,I5 O5,K5,Bool.and_self,V9]
 by_cases h:n<N5c x
 ·rw[if_pos h]
  simp only[N5c] at h
  have hm:x.L.getD n default∈x.L:=A5q h
  have hm2:x.L.getD n default∈J6 x.d f:=by rw[<- h5]; exact hm
  have hs:=B4w hg h4 hm2
  obtain⟨e1,e2⟩:=E5m h2 hs
  obtain⟨q1,q2⟩:=H0p (M:=F6 x.d (x.L.getD n default)) (L:=x.L) x.A.length (A7 txF x.A) x.nf x.ff x.a x.b x.L.length (A7 txF x.L) x.L.length n x.d x.f (by rw[e2]; have:=A4d hg hs; omega) (by omega) (fun y hy=>by rw[e2] at hy; rw[h5]; exact D2k hg h4 hm2 hy)
  refine A8 (dT (by omega)) (A8 (dT (by omega)) (A8 rfl (A8 (D5 h1) (C8 (by rw[e1]; rfl) (A8 rfl (A8 (dT hA) (C8 ?_ (A8 ?_ ?_))))))))
  ·rw[dT (show x.L.getD n default∈x.A by rw[h3]; exact D6y hg h4 hm2)]; rfl
  ·exact q2
  ·rw[q1]
   dsimp only
   rw[B3i (show n<2^62 by omega)]
   rfl
 ·rw[if_neg h]
  simp only[N5c] at h
  exact C8 (dF (by omega)) rfl
theorem G5x{A:Amb}(x:B5c)(_hx:D6m x)(Bb:Heap)(hB:Bb.length=10):Wk A Bb ⟨sp5c.rho (C1b x),sp5c.heap (C1b x),[]⟩ ⟨sp5c.rho (L5c x 0),sp5c.heap (L5c x 0),[]⟩:=by
 have _:=hB
 exact Wk.refl
def G6r:Blk:=hookP sp5c 10 [] (itT (E1r (.exit 2)) 2 (.exit 2) A1i C1b G1f D6m)
theorem F5b{A:Amb}{q:Prims}(h0:PrimOK prog A pDf1)(hq:PrimOK prog A q):PrimOK prog A (q.addb 5 2 G6r) :=
 SEB.iterK (id:=2) (ds:=[]) (dec:=A1i) (sp0:=sp5c) (sp:=sp5c) (sq:=E1r) (m:=10) (ee:=.exit 2) (L0:=C1b) (L:=L5c) (Le:=G1f) (N:=N5c) (Inv:=D6m) (k:=60) F8 G5 h0 hq func5 (show f5.body=some (f5.body.getD .skip) by kernel_rfl) (body:=D5h) (by kernel_rfl)
  rfl rfl rfl rfl (by simp) (fun _=>⟨.inr rfl,.inr rfl,.inr rfl,.inr rfl,.inr rfl,.inr rfl,.inr rfl,.inr rfl,.inr rfl,.inr rfl,trivial⟩) G5x G5d
def pDf2:Prims:=pDf1.addb 5 2 G6r
theorem F3o(x:B5c):A1i (C1b x)=x:=by simp[A1i,C1b,L5c,I5 O5,E8,M5]
theorem H0o{A L:List Txt}(nf:Nat)(ff:Nat->List FV)(a b:Int)(d:Drw)(f:Fea)(h1:OkD d)(h2:O7 d=0)(h3:A=Z6 d)(h4:∃ f,f∈F9 d/\L=J6 d f) :
  A1i [Lf.n A.length,.fr (A7 txF A),.n L.length,.fr (A7 txF L),.n nf,.fr ff,.i a,.i b,.n L.length,.fr (A7 txF L),.i L.length,.i 0,.o (A9 d),.o (C9 f)]=⟨A,L,nf,ff,a,b,d,f⟩ /\
  itC C1b A1i D6m [Lf.n A.length,.fr (A7 txF A),.n L.length,.fr (A7 txF L),.n nf,.fr ff,.i a,.i b,.n L.length,.fr (A7 txF L),.i L.length,.i 0,.o (A9 d),.o (C9 f)]=true :=
 have e0:=F3o ⟨A,L,nf,ff,a,b,d,f⟩
 ⟨e0,Q9 (L0:=C1b) (dec:=A1i) (Inv:=D6m) (x:=⟨A,L,nf,ff,a,b,d,f⟩) e0 ⟨h1,h2,h3,h4⟩⟩
def D5g:Code:=I7 (J8 0 (f5.body.getD .skip))
def sp5a:SP:=⟨dr 1++[.is (.ptr (some (8,0)))]++dr 1++[.flist 1]++dr 23++[.flist 9]++[.int .i64]++[.int .i64]++dr 57,dd8++[.any]⟩
def E1q:AEx->SP
 | .exit 0=>⟨dr 87,dd8++[.any]⟩
 | _=>sp5a
theorem F7l(A:List Txt)(q n:Int)(d:Drw):F3 prog (D6 prog pDf2 60) (pDf2.blk 5) D5g (sp5a.rho [.n A.length,.fr (A7 txF A),.n d.l.length,.fr (A7 Fea.fv d.l),.i q,.i n,.o (A9 d)]) (sp5a.heap [.n A.length,.fr (A7 txF A),.n d.l.length,.fr (A7 Fea.fv d.l),.i q,.i n,.o (A9 d)]) (I1 E1q 9 []) =
  brK (decide (n<q)) (brK (decide (0<=n/\n<(d.l.length:Int))) (brK (D8 (okR Fea.fv d.l.length (A7 Fea.fv d.l))&&D8 (okR Dim.fv d.m.length (A7 Dim.fv d.m))) (brK (D8 (OkD (drE d))) (brK (D5t (drE d) (d.l.getD n.toNat default).s != 0) (some (.ret,[.n (A.length),.fr (A7 txF A),.n (d.l.length),.fr (A7 Fea.fv d.l),.i (q),.i (n),.o (A9 d)])) (brK (D8 (okR txF (F6 (drE d) (d.l.getD n.toNat default).s).length (A7 txF (F6 (drE d) (d.l.getD n.toNat default).s)))) (brK (decide ((ofR txF (F6 (drE d) (d.l.getD n.toNat default).s).length (A7 txF (F6 (drE d) (d.l.getD n.toNat default).s))).length<4611686018427387904)) (brK (decide ((d.l.getD n.toNat default).s∈ofR txF (F6 (drE d) (d.l.getD n.toNat default).s).length (A7 txF (F6 (drE d) (d.l.getD n.toNat default).s)))) (some (.ret,[.n (A.length),.fr (A7 txF A),.n (d.l.length),.fr (A7 Fea.fv d.l),.i (q),.i (n),.o (A9 d)])) (brK (D8 (okR txF (F6 (drE d) (d.l.getD n.toNat default).s).length (A7 txF (F6 (drE d) (d.l.getD n.toNat default).s)))) (brK (D8 (SS (ofR txF (F6 (drE d) (d.l.getD n.toNat default).s).length (A7 txF (F6 (drE d) (d.l.getD n.toNat default).s)))/\(ofR txF (F6 (drE d) (d.l.getD n.toNat default).s).length (A7 txF (F6 (drE d) (d.l.getD n.toNat default).s))).length<4611686018427387904)) (brK (itC C1b A1i D6m [Lf.n A.length,Lf.fr (A7 txF A),Lf.n (F6 (drE d) (d.l.getD n.toNat default).s).length,Lf.fr (A7 txF (F6 (drE d) (d.l.getD n.toNat default).s)),Lf.n d.l.length,Lf.fr (A7 Fea.fv d.l),Lf.i q,Lf.i n,Lf.n (F6 (drE d) (d.l.getD n.toNat default).s).length,Lf.fr (A7 txF (F6 (drE d) (d.l.getD n.toNat default).s)),Lf.i ((F6 (drE d) (d.l.getD n.toNat default).s).length:Int),Lf.i 0,Lf.o (A9 d),Lf.o (C9 (d.l.getD n.toNat default))]) (some (.normal,[.n ((A1i [Lf.n A.length,Lf.fr (A7 txF A),Lf.n (F6 (drE d) (d.l.getD n.toNat default).s).length,Lf.fr (A7 txF (F6 (drE d) (d.l.getD n.toNat default).s)),Lf.n d.l.length,Lf.fr (A7 Fea.fv d.l),Lf.i q,Lf.i n,Lf.n (F6 (drE d) (d.l.getD n.toNat default).s).length,Lf.fr (A7 txF (F6 (drE d) (d.l.getD n.toNat default).s)),Lf.i ((F6 (drE d) (d.l.getD n.toNat default).s).length:Int),Lf.i 0,Lf.o (A9 d),Lf.o (C9 (d.l.getD n.toNat default))]).A.length),.fr (A7 txF (A1i [Lf.n A.length,Lf.fr (A7 txF A),Lf.n (F6 (drE d) (d.l.getD n.toNat default).s).length,Lf.fr (A7 txF (F6 (drE d) (d.l.getD n.toNat default).s)),Lf.n d.l.length,Lf.fr (A7 Fea.fv d.l),Lf.i q,Lf.i n,Lf.n (F6 (drE d) (d.l.getD n.toNat default).s).length,Lf.fr (A7 txF (F6 (drE d) (d.l.getD n.toNat default).s)),Lf.i ((F6 (drE d) (d.l.getD n.toNat default).s).length:Int),Lf.i 0,Lf.o (A9 d),Lf.o (C9 (d.l.getD n.toNat default))]).A),.n ((A1i [Lf.n A.length,Lf.fr (A7 txF A),Lf.n (F6 (drE d) (d.l.getD n.toNat default).s).length,Lf.fr (A7 txF (F6 (drE d) (d.l.getD n.toNat default).s)),Lf.n d.l.length,Lf.fr (A7 Fea.fv d.l),Lf.i q,Lf.i n,Lf.n (F6 (drE d) (d.l.getD n.toNat default).s).length,Lf.fr (A7 txF (F6 (drE d) (d.l.getD n.toNat default).s)),Lf.i ((F6 (drE d) (d.l.getD n.toNat default).s).length:Int),Lf.i 0,Lf.o (A9 d),Lf.o (C9 (d.l.getD n.toNat default))]).nf),.fr ((A1i [Lf.n A.length,Lf.fr (A7 txF A),Lf.n (F6 (drE d) (d.l.getD n.toNat default).s).length,Lf.fr (A7 txF (F6 (drE d) (d.l.getD n.toNat default).s)),Lf.n d.l.length,Lf.fr (A7 Fea.fv d.l),Lf.i q,Lf.i n,Lf.n (F6 (drE d) (d.l.getD n.toNat default).s).length,Lf.fr (A7 txF (F6 (drE d) (d.l.getD n.toNat default).s)),Lf.i ((F6 (drE d) (d.l.getD n.toNat default).s).length:Int),Lf.i 0,Lf.o (A9 d),Lf.o (C9 (d.l.getD n.toNat default))]).ff),.i ((A1i [Lf.n A.length,Lf.fr (A7 txF A),Lf.n (F6 (drE d) (d.l.getD n.toNat default).s).length,Lf.fr (A7 txF (F6 (drE d) (d.l.getD n.toNat default).s)),Lf.n d.l.length,Lf.fr (A7 Fea.fv d.l),Lf.i q,Lf.i n,Lf.n (F6 (drE d) (d.l.getD n.toNat default).s).length,Lf.fr (A7 txF (F6 (drE d) (d.l.getD n.toNat default).s)),Lf.i ((F6 (drE d) (d.l.getD n.toNat default).s).length:Int),Lf.i 0,Lf.o (A9 d),Lf.o (C9 (d.l.getD n.toNat default))]).a),.i (W ((A1i [Lf.n A.length,Lf.fr (A7 txF A),Lf.n (F6 (drE d) (d.l.getD n.toNat default).s).length,Lf.fr (A7 txF (F6 (drE d) (d.l.getD n.toNat default).s)),Lf.n d.l.length,Lf.fr (A7 Fea.fv d.l),Lf.i q,Lf.i n,Lf.n (F6 (drE d) (d.l.getD n.toNat default).s).length,Lf.fr (A7 txF (F6 (drE d) (d.l.getD n.toNat default).s)),Lf.i ((F6 (drE d) (d.l.getD n.toNat default).s).length:Int),Lf.i 0,Lf.o (A9 d),Lf.o (C9 (d.l.getD n.toNat default))]).b+1)),.o (.cells [.sstr ((A1i [Lf.n A.length,Lf.fr (A7 txF A),Lf.n (F6 (drE d) (d.l.getD n.toNat default).s).length,Lf.fr (A7 txF (F6 (drE d) (d.l.getD n.toNat default).s)),Lf.n d.l.length,Lf.fr (A7 Fea.fv d.l),Lf.i q,Lf.i n,Lf.n (F6 (drE d) (d.l.getD n.toNat default).s).length,Lf.fr (A7 txF (F6 (drE d) (d.l.getD n.toNat default).s)),Lf.i ((F6 (drE d) (d.l.getD n.toNat default).s).length:Int),Lf.i 0,Lf.o (A9 d),Lf.o (C9 (d.l.getD n.toNat default))]).d.s),.flist (((A1i [Lf.n A.length,Lf.fr (A7 txF A),Lf.n (F6 (drE d) (d.l.getD n.toNat default).s).length,Lf.fr (A7 txF (F6 (drE d) (d.l.getD n.toNat default).s)),Lf.n d.l.length,Lf.fr (A7 Fea.fv d.l),Lf.i q,Lf.i n,Lf.n (F6 (drE d) (d.l.getD n.toNat default).s).length,Lf.fr (A7 txF (F6 (drE d) (d.l.getD n.toNat default).s)),Lf.i ((F6 (drE d) (d.l.getD n.toNat default).s).length:Int),Lf.i 0,Lf.o (A9 d),Lf.o (C9 (d.l.getD n.toNat default))]).d.l).length) (fun i=>((A1i [Lf.n A.length,Lf.fr (A7 txF A),Lf.n (F6 (drE d) (d.l.getD n.toNat default).s).length,Lf.fr (A7 txF (F6 (drE d) (d.l.getD n.toNat default).s)),Lf.n d.l.length,Lf.fr (A7 Fea.fv d.l),Lf.i q,Lf.i n,Lf.n (F6 (drE d) (d.l.getD n.toNat default).s).length,Lf.fr (A7 txF (F6 (drE d) (d.l.getD n.toNat default).s)),Lf.i ((F6 (drE d) (d.l.getD n.toNat default).s).length:Int),Lf.i 0,Lf.o (A9 d),Lf.o (C9 (d.l.getD n.toNat default))]).d.l.getD i default).fv) 9,.flist (((A1i [Lf.n A.length,Lf.fr (A7 txF A),Lf.n (F6 (drE d) (d.l.getD n.toNat default).s).length,Lf.fr (A7 txF (F6 (drE d) (d.l.getD n.toNat default).s)),Lf.n d.l.length,Lf.fr (A7 Fea.fv d.l),Lf.i q,Lf.i n,Lf.n (F6 (drE d) (d.l.getD n.toNat default).s).length,Lf.fr (A7 txF (F6 (drE d) (d.l.getD n.toNat default).s)),Lf.i ((F6 (drE d) (d.l.getD n.toNat default).s).length:Int),Lf.i 0,Lf.o (A9 d),Lf.o (C9 (d.l.getD n.toNat default))]).d.m).length) (fun i=>((A1i [Lf.n A.length,Lf.fr (A7 txF A),Lf.n (F6 (drE d) (d.l.getD n.toNat default).s).length,Lf.fr (A7 txF (F6 (drE d) (d.l.getD n.toNat default).s)),Lf.n d.l.length,Lf.fr (A7 Fea.fv d.l),Lf.i q,Lf.i n,Lf.n (F6 (drE d) (d.l.getD n.toNat default).s).length,Lf.fr (A7 txF (F6 (drE d) (d.l.getD n.toNat default).s)),Lf.i ((F6 (drE d) (d.l.getD n.toNat default).s).length:Int),Lf.i 0,Lf.o (A9 d),Lf.o (C9 (d.l.getD n.toNat default))]).d.m.getD i default).fv) 5] 0 true 25)])) none) none) none)) none) none)) none) none) none) (some (.exit 0,[.o (A9 d)])):=by kernel_rfl
def L5a(x:List Txt×Drw)(n:Nat):List Lf:=[.n x.1.length,.fr (A7 txF x.1),.n x.2.l.length,.fr (A7 Fea.fv x.2.l),.i x.2.l.length,.i n,.o (A9 x.2)]
def C1a(x:List Txt×Drw):List Lf:=L5a x 0
def G1e(_:List Lf)(x:List Txt×Drw):List Lf:=[.o (A9 x.2)]
def N5a(x:List Txt×Drw):Nat:=x.2.l.length
def E3j(x:List Txt×Drw):Prop:=OkD x.2/\O7 x.2=0/\x.1=Z6 x.2
def C2p:List Lf->List Txt×Drw
 | [.n na,.fr fa,_,_,_,_,.o o]=>(ofR txF na fa,I4 o)
 | _=>([],default)
theorem G5c(x:List Txt×Drw)(hx:E3j x)(n:Nat)(hn:n<=N5a x):F3 prog (D6 prog pDf2 60) (pDf2.blk 5) D5g (sp5a.rho (L5a x n)) (sp5a.heap (L5a x n)) (I1 E1q 9 [])=some (if n<N5a x then(.normal,L5a x (n+1)) else(.exit 0,G1e (C1a x) x)):=by
 obtain⟨h1,h2,h3⟩:=hx
 have hg:=B3s h2
 have hl:=hg.len
 have hr:=(B8t h2).2.2.1
 simp only[L5a]
 rw[F7l]
 simp only[tN,I5 O5,K5,Bool.and_self,V9]
 by_cases h:n<N5a x
 ·rw[if_pos h]
  simp only[N5a] at h
  have hs:=B9s h
  obtain⟨e1,e2⟩:=E5m h2 hs
  have hno:(x.2.l.getD n default).s∉J6 x.2 (x.2.l.getD n default).s:=by
   have:=B2j hr n h
   unfold p13 ownB at this
   simpa using this
  have hL:=A4d hg hs
  obtain⟨q1,q2⟩:=H0o (A:=x.1) (L:=F6 x.2 (x.2.l.getD n default).s) x.2.l.length (A7 Fea.fv x.2.l) x.2.l.length n x.2 (x.2.l.getD n default) h1 h2 h3 ⟨_,hs,e2⟩
  refine A8 (dT (by omega)) (A8 (dT (by omega)) (A8 rfl (A8 (D5 h1) (C8 (by rw[e1]; rfl) (A8 rfl (A8 (dT (by rw[e2]; omega)) (C8 (dF (by rw[e2]; exact hno)) (A8 rfl (A8 (D5 ⟨by rw[e2]; exact E8o hg hs,by rw[e2]; omega⟩) (A8 q2 ?_))))))))))
  rw[q1]
  dsimp only
  rw[B3i (show n<2^62 by omega)]
  rfl
 ·rw[if_neg h]
  simp only[N5a] at h
  exact C8 (dF (by omega)) rfl
theorem G5w{A:Amb}(x:List Txt×Drw)(_hx:E3j x)(Bb:Heap)(hB:Bb.length=9):Wk A Bb ⟨sp5a.rho (C1a x),sp5a.heap (C1a x),[]⟩ ⟨sp5a.rho (L5a x 0),sp5a.heap (L5a x 0),[]⟩:=by
 have _:=hB
 exact Wk.refl
def G6q:Blk:=hookP sp5a 9 [] (itT (E1q (.exit 0)) 0 (.exit 0) C2p C1a G1e E3j)
theorem F5a{A:Amb}{q:Prims}(h0:PrimOK prog A pDf2)(hq:PrimOK prog A q):PrimOK prog A (q.addb 5 0 G6q) :=
 SEB.iterK (id:=0) (ds:=[]) (dec:=C2p) (sp0:=sp5a) (sp:=sp5a) (sq:=E1q) (m:=9) (ee:=.exit 0) (L0:=C1a) (L:=L5a) (Le:=G1e) (N:=N5a) (Inv:=E3j) (k:=60) F8 G5 h0 hq func5 (show f5.body=some (f5.body.getD .skip) by kernel_rfl) (body:=D5g) (by kernel_rfl)
  rfl rfl rfl rfl (by simp) (fun _=>⟨.inr rfl,.inr rfl,.inr rfl,.inr rfl,.inr rfl,.inr rfl,.inr rfl,.inr rfl,.inr rfl,trivial⟩) G5w G5c
def pDf3:Prims:=pDf2.addb 5 0 G6q
theorem F6i{A:Amb}(hT:Tab A)(hG:gN prog<=A.G):PrimOK prog A pDf3:=by
 have h0:=G3i hT hG
 have h1:PrimOK prog A pDf1:=F5c h0 h0
 have h2:PrimOK prog A pDf2:=F5b h1 h1
 exact F5a h2 h2
theorem F3n(x:List Txt×Drw):C2p (C1a x)=x:=by simp[C2p,C1a,L5a,I5 O5,E8]
def pLd:Prims:=pDf3.addt 10 G2t
theorem G3o{A:Amb}(hT:Tab A)(hG:gN prog<=A.G)(hM:Mx A):PrimOK prog A pLd:=G1q hT hG hM (F6i hT hG)
theorem H0f(d:Drw):(D6 prog pLd 60).call 5 [.agg d.av] (Bg 8) D1n =
  brK (D8 (okR Fea.fv d.l.length (A7 Fea.fv d.l))&&D8 (okR Dim.fv d.m.length (A7 Dim.fv d.m))) (brK (!E4c (drE d)) (some ()) (brK (D8 (okR Fea.fv d.l.length (A7 Fea.fv d.l))&&D8 (okR Dim.fv d.m.length (A7 Dim.fv d.m))) (brK (D8 (OkD (drE d))) (brK (O7 (drE d) != 0) none (brK (itC C1a C2p E3j [Lf.n (B2a (drE d)).length,Lf.fr (A7 txF (B2a (drE d))),Lf.n d.l.length,Lf.fr (A7 Fea.fv d.l),Lf.i (d.l.length:Int),Lf.i 0,Lf.o (A9 d)]) (some ()) none)) none) none)) none:=by kernel_rfl
theorem H0q(d:Drw):(D6 prog pLd 60).call 5 [.agg d.av] (Bg 8) D1n=some ():=by
 rw[H0f]
 simp only[K5,Bool.and_self,V9]
 cases h:E4c d with
 | false=>exact A8 rfl (A8 rfl rfl)
 | true =>
  unfold E4c at h
  simp only[bA,beq_iff_eq] at h
  obtain⟨h1,h2⟩:=h
  have hk:=E0p h1
  have e:B2a d=Z6 d:=by unfold B2a; rw[if_pos h2]
  rw[e]
  have hi:itC C1a C2p E3j (C1a (Z6 d,d))=true:=Q9 (F3n (Z6 d,d)) ⟨hk,h2,rfl⟩
  exact A8 rfl (C8 rfl (A8 rfl (A8 (D5 hk) (C8 (by rw[h2]; rfl) (A8 hi rfl)))))
theorem drawingDepends(d:Drw)(v:Value)(W:World)(hG:gN prog<=W.heap.size)(hT:Tab (ambOf W))(hM:Mx (ambOf W))(hv:VR (A4c 8 (fzW W)) (.agg d.av) v) :
  Calls prog 5 #[v] W fun e W'=>e=.returned (.bool true)/\RowKit.Below W.heap.size W W' :=
 E8h F8 G5 (G3o hT hG hM) hG (n:=60) (args:=[.agg d.av]) (by rw[gsz]; exact H0q d) #[v] (by rw[gsz]; simp only[VRL]; exact⟨v,[],rfl,hv,rfl⟩)
end Go.Proofs.Tryz
