/- Drawings: small drawings are not larger than any. -/
import Derived.Test.YtoboneiigikidaaGreatDoorFo
import Derived.Test.YtoboneiigikidaaGreatDoorBase
import Derived.Test.YtoboneiigikidaaGreatDoorAdDeep
import Derived.Test.YtoboneiigikidaaGreatDoorAdPat
import Derived.Deep.Slices
import Derived.WalkKit
import Derived.ChangeMaps5
import Derived.Test.YtoboneiigikidaaGreatDoorAwh
import Derived.Shelf.Vars
import Derived.Test.YtoboneiigikidaaGreatDoorAdFind
noncomputable section
namespace Go.Proofs.Tryz
open Go.Ad
theorem B5u{β:Type}{p:β->Nat->Bool}{N:β->Nat}{x:β}(h:fdE p N x=true):∀ i,i<N x->p x i=true:=fun i hi=>by
 have h1:G5 (p x) (N x) 0=N x:=of_decide_eq_true h
 exact A1p (p:=p x) (k:=N x) (n:=0) (m:=i) (by omega) (by omega)
theorem C6g{x:Fea}(h:C6f x=true):szF x=true/\x.l.length<=12/\∀ k,k<x.l.length->(F4 x k).l.length<=6:=by
 simp only[C6f,bA,dQ] at h
 obtain⟨h1,h2,h3⟩:=h
 have h4:∀ k,k<x.l.length->(F4 x k).l.length<=6/\∀ n,n<(F4 x k).l.length->(V4 (F4 x k) n).s.length<=100:=fun k hk=>by
  have:=B5u h3 k hk
  simp only[D2q,bA,dQ] at this
  refine⟨this.1,fun n hn=>?_⟩
  have:=B5u this.2 n hn
  simpa only[D2r,dQ] using this
 refine⟨?_,h2,fun k hk=>(h4 k hk).1⟩
 unfold szF I9
 rw[bA,dQ,List.all_eq_true]
 refine⟨by omega,fun y hy=>?_⟩
 obtain⟨k,hk,rfl⟩:=List.getElem_of_mem hy
 have e:F4 x k=x.l[k]:=by unfold F4; rw[gD,gE hk]; rfl
 unfold szD
 rw[List.all_eq_true]
 intro z hz
 obtain⟨n,hn,rfl⟩:=List.getElem_of_mem hz
 have h5:=(h4 k hk).2
 rw[e] at h5
 have h6:=h5 n hn
 have e2:V4 x.l[k] n=x.l[k].l[n]:=by unfold V4; rw[gD,gE hn]; rfl
 rw[e2] at h6
 exact dT (by omega)
theorem E0o{d:Drw}(h:C1g d=true):OkD d:=by
 simp only[C1g,bA,Bool.or_eq_true,dQ] at h
 obtain⟨⟨h1,h2⟩,h3,h4⟩:=h
 have h5:∀ i,i<d.l.length->C6f (D8 d i)=true:=fun i hi=>B5u h3 i hi
 simp only[D0z,bA,Bool.not_eq_true',Bool.or_eq_false_iff,Bool.and_eq_false_iff,decide_eq_false_iff_not] at h4
 obtain⟨⟨_,h6⟩,h7⟩:=h4
 refine⟨by omega,fun i hi=>(C6g (h5 i hi)).1,fun i hi=>?_,fun i k hi hk=>?_,dT (by omega),by omega,fun i hi=>?_⟩
 ·have:=(C6g (h5 i hi)).2.1; omega
 ·have:=(C6g (h5 i hi)).2.2 k hk; omega
 ·have:=B5u h7 i hi
  simp only[p39,bA,dQ] at this
  unfold I9 K6
  exact⟨dT (by omega),dT (by omega)⟩
end Go.Proofs.Tryz
namespace Go.Proofs.Tryz
open Go.Ad Go.Deep Go.ChangeShapes
section
variable {H:Type} {enc:TypeId×Value->H} {W:World} {fuel:Nat} {cs:List Value} {x:DataW H×List MemPlace}
theorem open_list{α:Type}[Inhabited α]{fv:α->List FV}{t e:TypeId}{es:Nat}(ht:prog.underlying t=some (.slice e))(hes:prog.cellsOf e=es)(h0:0<es)(hrow:∀ (fuel:Nat) (cs:List Value) (x:DataW H×List MemPlace),DataW.trod enc prog W 0 (fun _=>true) true fuel e cs=some x->∃ y:α,FVRL (fzW W) (fv y) cs)(h:DataW.trod enc prog W 0 (fun _=>true) true fuel t cs=some x):∃ (L:List α) (v:Value),cs=[v]/\FVR (fzW W) (B5n fv es L) v:=by
 rcases open_slice ht h with⟨rfl,_⟩ | ⟨a,len,cap,m,n,D,Pl,rfl,_,hl,_,hmm,_,hel⟩
 ·exact⟨[],_,rfl,by simp[B5n,FVR]⟩
 rw[if_pos rfl] at hmm
 subst hmm
 by_cases hz:len=0
 ·subst hz
  refine⟨[],_,rfl,?_⟩
  simp only[B5n,FVR,List.length_nil]
  exact .inl ⟨trivial,.inr ⟨_,_,rfl⟩⟩
 obtain⟨q,hq⟩:=choose_lt (α:=α) (n:=len) (p:=fun i y=>∃ cs',W.cells? 0 (a.add (i*es)) es=some cs'/\FVRL (fzW W) (fv y) cs') fun i hi=>by
  obtain⟨cs',h1,h2⟩:=hel i (by omega)
  rw[hes] at h1
  obtain⟨y,hy⟩:=hrow _ _ _ h2
  exact⟨y,cs',h1,hy⟩
 refine⟨(List.range len).map q,_,rfl,?_⟩
 obtain⟨c,off,spot⟩:=a
 have hblk:spot=none/\∃ arr e fz,W.heap[c]?=some (.cells arr e fz):=by
  obtain⟨cs',h1,_⟩:=hq 0 (by omega)
  obtain⟨_,hlen,hce⟩:=World.cells?_some h1
  have:=hce 0 h0
  rw[gE (by omega)] at this
  rw[show((⟨c,off,spot⟩:Addr).add (0*es)).add 0=⟨c,off,spot⟩ by simp[Addr.add]] at this
  unfold World.cell? at this
  split at this
  ·rename_i arr e fz hh
   cases spot with
   | none=>exact⟨rfl,arr,e,fz,hh⟩
   | some s=>simp at this
  ·cases this
 obtain⟨rfl,arr,e',fz,hh⟩:=hblk
 have hcell:∀ k,W.cell? ⟨c,k,none⟩=arr[k]?:=fun k=>by simp[World.cell?,hh]
 have each:∀ i,i<len->∃ cs',cs'.length=es/\(∀ j,j<es->arr[off+i*es+j]?=cs'[j]?)/\FVRL (fzW W) (fv (q i)) cs':=fun i hi=>by
  obtain⟨cs',h1,h2⟩:=hq i hi
  obtain⟨_,hlen,hce⟩:=World.cells?_some h1
  refine⟨cs',hlen,fun j hj=>?_,h2⟩
  have:=hce j hj
  rw[M3,M3,hcell] at this
  exact this
 have hfit:off+len*es<=arr.size:=by
  obtain⟨cs',k1,k2,_⟩:=each (len-1) (by omega)
  have h3:=k2 (es-1) (by omega)
  rw[gE (show es-1<cs'.length by omega)] at h3
  have h4:=(gA.1 h3).1
  have h5:(len-1)*es+es=len*es:=by rw[<- Nat.succ_mul,show(len-1).succ=len by omega]
  omega
 have hL:((List.range len).map q).length=len:=by simp
 simp only[B5n,FVR,hL]
 refine .inr ⟨by omega,c,off,m,arr.toList,by unfold fzW; rw[hh],hl,rfl,by rw[Array.length_toList]; exact hfit,fun i hi=>?_⟩
 have e1:A7 fv ((List.range len).map q) i=fv (q i):=by
  unfold A7
  rw[gD,List.getElem?_map,List.getElem?_range hi]
  rfl
 rw[e1]
 obtain⟨cs',k1,k2,k3⟩:=each i hi
 have hle:i*es+es<=len*es:=by rw[<- Nat.succ_mul]; exact Nat.mul_le_mul_right es hi
 have e2:((arr.toList.drop (off+i*es)).take es)=cs':=by
  apply List.ext_getElem?
  intro j
  rw[tK]
  split
  ·rename_i hj
   rw[dP,Array.getElem?_toList]
   exact k2 j hj
  ·rw[gO (by omega)]
 rw[e2]
 exact k3
set_option maxRecDepth 100000 in
theorem E8t(h:DataW.trod enc prog W 0 (fun _=>true) true fuel 117 cs=some x):∃ y:Dat,FVRL (fzW W) y.fv cs:=by
 obtain⟨xs,k,hk,hxy,hlen,hxl,hfd⟩:=DataW.trod_struct underlying117 h
 have hc:cs.length=2:=by rw[hlen]; kernel_rfl
 match xs,hxl,cs,hc with
 | [y0,y1],_,[v0,v1],_ =>
  have g0:=hfd 0 _ rfl
  have g1:=hfd 1 _ rfl
  simp[show prog.cellsOf 3=1 by kernel_rfl,show prog.cellsOf 9=1 by kernel_rfl] at g0 g1
  obtain⟨b0,q0,_,_⟩:=DataW.trod_string underlying9 g0
  obtain⟨n1,q1,_,_⟩:=DataW.trod_int underlying3 g1
  simp at q0 q1
  subst q0 q1
  refine⟨⟨b0.data.toList,n1⟩,?_⟩
  simp only[Dat.fv,FVRL,FVR]
  exact⟨_,_,rfl,⟨b0,rfl,rfl⟩,_,_,rfl,rfl,rfl⟩
set_option maxRecDepth 100000 in
theorem E8w(h:DataW.trod enc prog W 0 (fun _=>true) true fuel 115 cs=some x):∃ y:Frm,FVRL (fzW W) y.fv cs:=by
 obtain⟨xs,k,hk,hxy,hlen,hxl,hfd⟩:=DataW.trod_struct underlying115 h
 have hc:cs.length=5:=by rw[hlen]; kernel_rfl
 match xs,hxl,cs,hc with
 | [y0,y1,y2,y3,y4],_,[v0,v1,v2,v3,v4],_ =>
  have g0:=hfd 0 _ rfl
  have g1:=hfd 1 _ rfl
  have g2:=hfd 2 _ rfl
  have g3:=hfd 3 _ rfl
  have g4:=hfd 4 _ rfl
  simp[show prog.cellsOf 3=1 by kernel_rfl,show prog.cellsOf 4=1 by kernel_rfl,show prog.cellsOf 113=1 by kernel_rfl] at g0 g1 g2 g3 g4
  obtain⟨n0,q0,_,_⟩:=DataW.trod_int underlying3 g0
  obtain⟨b1,q1,_⟩:=DataW.trod_bool underlying4 g1
  obtain⟨n2,q2,_,_⟩:=DataW.trod_int underlying3 g2
  obtain⟨n3,q3,_,_⟩:=DataW.trod_int underlying3 g3
  obtain⟨L,v,q4,hL⟩:=open_list (fv:=Dat.fv) (es:=2) underlying113 (by kernel_rfl) (by omega) (fun _ _ _ h=>E8t h) g4
  simp at q0 q1 q2 q3 q4
  subst q0 q1 q2 q3 q4
  refine⟨⟨n0,b1,n2,n3,L⟩,?_⟩
  simp only[Frm.fv,FVRL]
  exact⟨_,_,rfl,by simp[FVR],_,_,rfl,by simp[FVR],_,_,rfl,by simp[FVR],_,_,rfl,by simp[FVR],_,_,rfl,hL,rfl⟩
set_option maxRecDepth 100000 in
theorem E3l(h:DataW.trod enc prog W 0 (fun _=>true) true fuel 44 cs=some x):∃ a b c:Int,cs=[.int .i64 a,.int .i64 b,.int .i64 c]:=by
 obtain⟨xs,k,hk,hxy,hlen,hxl,hfd⟩:=DataW.trod_struct underlying44 h
 have hc:cs.length=3:=by rw[hlen]; kernel_rfl
 match xs,hxl,cs,hc with
 | [y0,y1,y2],_,[v0,v1,v2],_ =>
  have g0:=hfd 0 _ rfl
  have g1:=hfd 1 _ rfl
  have g2:=hfd 2 _ rfl
  simp[show prog.cellsOf 3=1 by kernel_rfl] at g0 g1 g2
  obtain⟨n0,q0,_,_⟩:=DataW.trod_int underlying3 g0
  obtain⟨n1,q1,_,_⟩:=DataW.trod_int underlying3 g1
  obtain⟨n2,q2,_,_⟩:=DataW.trod_int underlying3 g2
  simp at q0 q1 q2
  subst q0 q1 q2
  exact⟨n0,n1,n2,rfl⟩
set_option maxRecDepth 100000 in
theorem C3h(h:DataW.trod enc prog W 0 (fun _=>true) true fuel 46 cs=some x):∃ a b:Int,cs=[.int .i64 a,.int .i64 b]:=by
 obtain⟨xs,k,hk,hxy,hlen,hxl,hfd⟩:=DataW.trod_struct underlying46 h
 have hc:cs.length=2:=by rw[hlen]; kernel_rfl
 match xs,hxl,cs,hc with
 | [y0,y1],_,[v0,v1],_ =>
  have g0:=hfd 0 _ rfl
  have g1:=hfd 1 _ rfl
  simp[show prog.cellsOf 3=1 by kernel_rfl] at g0 g1
  obtain⟨n0,q0,_,_⟩:=DataW.trod_int underlying3 g0
  obtain⟨n1,q1,_,_⟩:=DataW.trod_int underlying3 g1
  simp at q0 q1
  subst q0 q1
  exact⟨n0,n1,rfl⟩
set_option maxRecDepth 100000 in
theorem E8v(h:DataW.trod enc prog W 0 (fun _=>true) true fuel 49 cs=some x):∃ y:Fea,FVRL (fzW W) y.fv cs:=by
 obtain⟨xs,k,hk,hxy,hlen,hxl,hfd⟩:=DataW.trod_struct underlying49 h
 have hc:cs.length=9:=by rw[hlen]; kernel_rfl
 match xs,hxl,cs,hc with
 | [y0,y1,y2,y3,y4,y5],_,[v0,v1,v2,v3,v4,v5,v6,v7,v8],_ =>
  have g0:=hfd 0 _ rfl
  have g1:=hfd 1 _ rfl
  have g2:=hfd 2 _ rfl
  have g3:=hfd 3 _ rfl
  have g4:=hfd 4 _ rfl
  have g5:=hfd 5 _ rfl
  simp[show prog.cellsOf 3=1 by kernel_rfl,show prog.cellsOf 9=1 by kernel_rfl,show prog.cellsOf 44=3 by kernel_rfl,show prog.cellsOf 46=2 by kernel_rfl,show prog.cellsOf 47=1 by kernel_rfl] at g0 g1 g2 g3 g4 g5
  obtain⟨b0,q0,_,_⟩:=DataW.trod_string underlying9 g0
  obtain⟨n1,q1,_,_⟩:=DataW.trod_int underlying3 g1
  obtain⟨n2,q2,_,_⟩:=DataW.trod_int underlying3 g2
  obtain⟨a3,b3,c3,q3⟩:=E3l g3
  obtain⟨a4,b4,q4⟩:=C3h g4
  obtain⟨L,v,q5,hL⟩:=open_list (fv:=Frm.fv) (es:=5) underlying47 (by kernel_rfl) (by omega) (fun _ _ _ h=>E8w h) g5
  simp at q0 q1 q2 q3 q4 q5
  obtain⟨rfl,rfl,rfl⟩:=q3
  obtain⟨rfl,rfl⟩:=q4
  subst q0 q1 q2 q5
  refine⟨⟨b0.data.toList,n1,n2,a3,b3,c3,a4,b4,L⟩,?_⟩
  simp only[Fea.fv,FVRL]
  exact⟨_,_,rfl,by simp only[FVR]; exact⟨b0,rfl,rfl⟩,_,_,rfl,by simp[FVR],_,_,rfl,by simp[FVR],_,_,rfl,by simp[FVR],_,_,rfl,by simp[FVR],_,_,rfl,by simp[FVR],_,_,rfl,by simp[FVR],_,_,rfl,by simp[FVR],_,_,rfl,hL,rfl⟩
set_option maxRecDepth 100000 in
theorem E8u(h:DataW.trod enc prog W 0 (fun _=>true) true fuel 94 cs=some x):∃ y:Dim,FVRL (fzW W) y.fv cs:=by
 obtain⟨xs,k,hk,hxy,hlen,hxl,hfd⟩:=DataW.trod_struct underlying94 h
 have hc:cs.length=5:=by rw[hlen]; kernel_rfl
 match xs,hxl,cs,hc with
 | [y0,y1,y2,y3],_,[v0,v1,v2,v3,v4],_ =>
  have g0:=hfd 0 _ rfl
  have g1:=hfd 1 _ rfl
  have g2:=hfd 2 _ rfl
  have g3:=hfd 3 _ rfl
  simp[show prog.cellsOf 3=1 by kernel_rfl,show prog.cellsOf 9=1 by kernel_rfl,show prog.cellsOf 46=2 by kernel_rfl] at g0 g1 g2 g3
  obtain⟨b0,q0,_,_⟩:=DataW.trod_string underlying9 g0
  obtain⟨b1,q1,_,_⟩:=DataW.trod_string underlying9 g1
  obtain⟨n2,q2,_,_⟩:=DataW.trod_int underlying3 g2
  obtain⟨a3,b3,q3⟩:=C3h g3
  simp at q0 q1 q2 q3
  obtain⟨rfl,rfl⟩:=q3
  subst q0 q1 q2
  refine⟨⟨b0.data.toList,b1.data.toList,n2,a3,b3⟩,?_⟩
  simp only[Dim.fv,FVRL,FVR]
  exact⟨_,_,rfl,⟨b0,rfl,rfl⟩,_,_,rfl,⟨b1,rfl,rfl⟩,_,_,rfl,rfl,_,_,rfl,rfl,_,_,rfl,rfl,rfl⟩
set_option maxRecDepth 100000 in
theorem open_drw{b0:Nat}{v:Value}{d:DataW H}{ps:List MemPlace}(hval:Value.okWide prog W .any b0 25 v)(h:DataW.Trod enc prog W 0 (fun _=>true) true 25 v d ps)(n:Nat):∃ d:Drw,VR (A2o n (fzW W)) (.agg d.av) v:=by
 obtain⟨fuel,hf⟩:=h
 obtain⟨xs,k,hk,hxy,hlen,hxl,hfd⟩:=DataW.trod_struct underlying25 hf
 have hc:v.cells.toList.length=3:=by rw[hlen]; kernel_rfl
 obtain⟨a,rfl⟩:∃ a,v=.agg a:=by
  cases v with
  | agg a=>exact⟨a,rfl⟩
  | _=>simp[Value.cells] at hc
 simp only[Value.cells] at hc hfd
 obtain⟨cs,hcs⟩:∃ cs,cs=a.toList:=⟨_,rfl⟩
 rw[<- hcs] at hc hfd
 match xs,hxl,cs,hc,hcs with
 | [y0,y1,y2],_,[v0,v1,v2],_,hcs =>
  have g0:=hfd 0 _ rfl
  have g1:=hfd 1 _ rfl
  have g2:=hfd 2 _ rfl
  simp[show prog.cellsOf 9=1 by kernel_rfl,show prog.cellsOf 22=1 by kernel_rfl,show prog.cellsOf 23=1 by kernel_rfl] at g0 g1 g2
  obtain⟨b0,q0,_,_⟩:=DataW.trod_string underlying9 g0
  obtain⟨L,v1',q1,hL⟩:=open_list (fv:=Fea.fv) (es:=9) underlying22 (by kernel_rfl) (by omega) (fun _ _ _ h=>E8v h) g1
  obtain⟨M,v2',q2,hM⟩:=open_list (fv:=Dim.fv) (es:=5) underlying23 (by kernel_rfl) (by omega) (fun _ _ _ h=>E8u h) g2
  simp at q0 q1 q2
  subst q0 q1 q2
  refine⟨⟨b0.data.toList,L,M⟩,?_⟩
  simp only[VR,Drw.av]
  refine⟨a,rfl,?_⟩
  rw[<- hcs]
  simp only[VRL]
  exact⟨_,_,rfl,by simp only[VR]; exact⟨b0,rfl,rfl⟩,_,_,rfl,hL,_,_,rfl,hM,rfl⟩
end
theorem mx_of{W:World}(hG:gN prog<=W.heap.size)(hsh:W.ShapedOpen prog):Mx (ambOf W):=by
 obtain⟨m,hm⟩:=cell_of_shapedOpen_int (P:=prog) (w:=W) (g:=0) (t:=3) (zero:=#[.int .i64 0]) (k:=.i64) hsh (by decide +kernel) (by kernel_rfl) (by kernel_rfl) (by kernel_rfl) (by kernel_rfl) (by kernel_rfl)
 refine⟨m,fun w hw=>?_⟩
 have h0:0<(ambOf W).G:=by
  have h8:=gsz
  rw[h8] at hG
  show 0<W.heap.size
  omega
 have:=hw 0 h0
 unfold World.cell? at hm ⊢
 rw[show w.heap[0]?=W.heap[0]? from this]
 exact hm
theorem tab_laid{W:World}{a b:String×DataW Unit}{r:List (String×DataW Unit)}(h:laidMet prog (a::b::("internal/strconv.uint64pow10",Lib.tabData .u64 Lib.pow10Tab)::r) W) :
  Lib.TabIs prog W "internal/strconv.uint64pow10" .u64 Lib.pow10Tab :=
 Lib.tabIs_of_head (g:=5) (t:=303) (e:=252) (n:=20) (by kernel_rfl) (by kernel_rfl) (by kernel_rfl) (by kernel_rfl) (by kernel_rfl) (by kernel_rfl) (A9o (A9o h))
theorem G8z(d:Drw):(D5 prog pDa 60).call 20 [.agg d.av] (Bg 8) F8 =
  brK (oD d) (brK (C1g (drE d)) (brK (oD d) (brK (E9 (OkD (drE d))) (some (.sbool (J4 (drE d)==0))) none) none) (some (.bool false))) none:=by kernel_rfl
theorem G9a(d:Drw)(s:Txt):(D5 prog pDa 60).call 21 [.agg d.av,.sstr s] (Bg 8) F8 =
  brK (oD d) (brK (E9 (OkD (drE d))) (brK (J4 (drE d) != 0) (some (.tuple [.slice none 0 0,.sint IntKind.i64 (J4 (drE d)) ])) (brK (oD d) (brK (decide ((ofR Fea.fv d.l.length (A7 Fea.fv d.l)).length<4611686018427387904)) (brK (decide (D7 (drE d) s<0)) (some (.tuple [.slice none 0 0,.int .i64 6])) (brK (oD d) (brK (E9 (GrD (drE d)/\s∈H5 (drE d))) (some (.tuple [.flist (((K5 (drE d) s)).length) (fun i=>txF ((K5 (drE d) s).getD i default)) 1,.int .i64 0])) none) none)) none) none)) none) none:=by kernel_rfl
def G4i(d:Drw):Bool:=C1g d&&J4 d==0
theorem H1h(d:Drw):∃ v,(D5 prog pDa 60).call 20 [.agg d.av] (Bg 8) F8=some v/\A4e (G4i d) v:=by
 rw[G8z]
 simp only[A3r,J8,Bool.and_self,P8]
 unfold G4i
 cases h:C1g d with
 | false=>exact exV (A8 rfl rfl) (.inl rfl)
 | true=>exact exV (A8 rfl (A8 rfl (A8 rfl (A8 (A9 (E0o h)) rfl)))) (.inr rfl)
def B2b(d:Drw)(s:Txt):Int:=if J4 d≠0 then J4 d else if D7 d s<0 then 6 else 0
def A7u(d:Drw)(s:Txt):List Txt:=if J4 d≠0 \/ D7 d s<0 then[] else K5 d s
def E7s(l:List Txt)(e:Int)(v:AV):Prop:=F3 0 v=true/\∀ (Z:Emb) (y:Value),VR Z v y->VR Z (.tuple [Q4 l,.sint .i64 e]) y
theorem B8s(e:Int):E7s [] e (.tuple [.slice none 0 0,.sint .i64 e]):=⟨rfl,fun Z y hy=>by
 simp only[VR,VRL] at hy ⊢
 obtain⟨l,rfl,y1,l1,h1,h2,h3⟩:=hy
 refine⟨l,rfl,y1,l1,h1,?_,h3⟩
 obtain⟨_,_,rfl⟩:=h2
 simp[FVR]⟩
theorem E0b(l:List Txt):E7s l 0 (.tuple [.flist l.length (fun i=>txF (l.getD i default)) 1,.int .i64 0]):=⟨rfl,fun Z y hy=>by
 simp only[VR] at hy ⊢
 obtain⟨l,rfl,h⟩:=hy
 refine⟨l,rfl,?_⟩
 simp only[VRL,VR] at h ⊢
 exact h⟩
theorem D1r(e:Int):E7s [] e (.tuple [.slice none 0 0,.int .i64 e]):=⟨rfl,fun Z y hy=>(B8s e).2 Z y (by simpa only[VR,VRL] using hy)⟩
theorem H1i(d:Drw)(s:Txt)(hk:OkD d):∃ v,(D5 prog pDa 60).call 21 [.agg d.av,.sstr s] (Bg 8) F8=some v/\E7s (A7u d s) (B2b d s) v:=by
 rw[G9a]
 simp only[A3r,J8,Bool.and_self,P8,I1 Fea.inj]
 unfold A7u B2b
 by_cases c:J4 d≠0
 ·rw[if_pos c,if_pos (.inl c)]
  exact exV (A8 rfl (A8 (A9 hk) (A8 (by simpa using c) rfl))) (B8s _)
 rw[if_neg c]
 have c':J4 d=0:=by omega
 have hl:=hk.len
 by_cases c2:D7 d s<0
 ·rw[if_pos c2,if_pos (.inr c2)]
  exact exV (A8 rfl (A8 (A9 hk) (C8 (by simpa using c') (A8 rfl (A8 (dT hl) (A8 (dT c2) rfl)))))) (D1r 6)
 rw[if_neg c2,if_neg (fun h=>h.elim c c2)]
 have hm:s∈H5 d:=G7e.1 (by omega)
 exact exV (A8 rfl (A8 (A9 hk) (C8 (by simpa using c') (A8 rfl (A8 (dT hl) (C8 (dF c2) (A8 rfl (A8 (A9 ⟨A8b c',hm⟩) rfl)))))))) (E0b _)
theorem G6b{l:List Txt}(h:SS l){i:Nat}(h0:0<i)(hi:i<l.length):Op.bytesLess (l.getD i default) (l.getD (i-1) default)=false:=by
 have h1:=List.pairwise_iff_getElem.1 h (i-1) i (by omega) hi (by omega)
 have h2:=E0g l[i] l[i-1]
 rw[dT (List.le_of_lt h1)] at h2
 rw[gD,gD,gE hi,gE (by omega)]
 simpa using h2
def D4y:Code:=I7 (J6 0 (f23.body.getD .skip))
def sp23:SP:=⟨[.flist 1]++dr 2++[.int .i64]++dr 17,dd8⟩
def E1h:AEx->SP
 | .exit 0=>⟨dr 21,dd8⟩
 | _=>sp23
theorem F7b(l:List Txt)(n:Int):E8 prog (D5 prog pDa 60) (pDa.blk 23) D4y (sp23.rho [.n l.length,.fr (A7 txF l),.i n]) (sp23.heap [.n l.length,.fr (A7 txF l),.i n]) (H9 E1h 8 []) =
  brK (decide (n>0)) (brK (decide (0<=n/\n<(l.length:Int))) (brK (decide (0<=W (n-1)/\W (n-1)<(l.length:Int))) (brK (!l.getD n.toNat default==l.getD n.toNat default) (brK (!!l.getD (W (n-1)).toNat default==l.getD (W (n-1)).toNat default) (some (.ret,[.n (l.length),.fr (A7 txF l),.i (n)])) (brK (Op.bytesLess (l.getD n.toNat default) (l.getD (W (n-1)).toNat default)) (some (.ret,[.n (l.length),.fr (A7 txF l),.i (n)])) (some (.normal,[.n (l.length),.fr (A7 txF l),.i (W (n-1))])))) (brK (Op.bytesLess (l.getD n.toNat default) (l.getD (W (n-1)).toNat default)) (some (.ret,[.n (l.length),.fr (A7 txF l),.i (n)])) (some (.normal,[.n (l.length),.fr (A7 txF l),.i (W (n-1))])))) none) none) (some (.exit 0,[])):=by kernel_rfl
def L23(x:List Txt)(n:Nat):List Lf:=[.n x.length,.fr (A7 txF x),.i ((x.length:Int)-1-n)]
def C0o(x:List Txt):List Lf:=L23 x 0
def G1d(_:List Lf)(x:List Txt):List Lf:=[]
def N23(x:List Txt):Nat:=x.length-1
def E7w(x:List Txt):Prop:=SS x/\x.length<2^62
def D0c:List Lf->List Txt
 | [.n n,.fr f,_]=>ofR txF n f
 | _=>[]
theorem G5f(x:List Txt)(hx:E7w x)(n:Nat)(hn:n<=N23 x):E8 prog (D5 prog pDa 60) (pDa.blk 23) D4y (sp23.rho (L23 x n)) (sp23.heap (L23 x n)) (H9 E1h 8 [])=some (if n<N23 x then(.normal,L23 x (n+1)) else(.exit 0,G1d (C0o x) x)):=by
 obtain⟨h1,h2⟩:=hx
 simp only[L23]
 rw[F7b]
 by_cases h:n<N23 x
 ·rw[if_pos h]
  simp only[N23] at h
  have e1:(x.length:Int)-1-n=((x.length-1-n:Nat):Int):=by omega
  have e2:W (((x.length-1-n:Nat):Int)-1)=((x.length-1-n-1:Nat):Int):=by rw[D4d (by omega) (by omega)]; omega
  have e3:(x.length:Int)-1-((n+1:Nat):Int)=((x.length-1-n-1:Nat):Int):=by omega
  rw[e1,e2,e3]
  simp only[tN]
  refine A8 (dT (by omega)) (A8 (dT (by omega)) (A8 (dT (by omega)) ?_))
  refine C8 (by simp) ?_
  exact C8 (G6b h1 (by omega) (by omega)) rfl
 ·rw[if_neg h]
  simp only[N23] at h hn
  exact C8 (dF (by omega)) rfl
theorem G6g{A:Amb}(x:List Txt)(_hx:E7w x)(Bb:Heap)(hB:Bb.length=8):Wk A Bb ⟨sp23.rho (C0o x),sp23.heap (C0o x),[]⟩ ⟨sp23.rho (L23 x 0),sp23.heap (L23 x 0),[]⟩:=by
 have _:=hB
 exact Wk.refl
def G6t:Blk:=hookP sp23 8 [] (itT (E1h (.exit 0)) 0 (.exit 0) D0c C0o G1d E7w)
theorem F4u{A:Amb}{q:Prims}(h0:PrimOK prog A pDa)(hq:PrimOK prog A q):PrimOK prog A (q.addb 23 0 G6t) :=
 SEB.iterK (id:=0) (ds:=[]) (dec:=D0c) (sp0:=sp23) (sp:=sp23) (sq:=E1h) (m:=8) (ee:=.exit 0) (L0:=C0o) (L:=L23) (Le:=G1d) (N:=N23) (Inv:=E7w) (k:=60) F7 F9 h0 hq func23 (show f23.body=some (f23.body.getD .skip) by kernel_rfl) (body:=D4y) (by kernel_rfl)
  rfl rfl rfl rfl (by simp) (fun _=>⟨.inr rfl,.inr rfl,.inr rfl,.inr rfl,.inr rfl,.inr rfl,.inr rfl,.inr rfl,trivial⟩) G6g G5f
theorem F3o(l:List Txt):D0c (C0o l)=l:=by simp[D0c,C0o,L23,I1 U4]
def G3l:Prims:=pDa.addb 23 0 G6t
theorem G9c(l:List Txt):(D5 prog G3l 60).call 23 [Q4 l] (Bg 8) F8 =
  brK (itC C0o D0c E7w [Lf.n l.length,Lf.fr (A7 txF l),Lf.i (W ((l.length:Int)-1))]) (some (.bool true)) none:=by kernel_rfl
def G8a:Par (List Txt) where
 get:=fun | [a]=>A9g txF 1 a | _=>none
 av:=fun x=>[Q4 x]
 ok:=by
  intro l x h Z vs hv
  split at h
  ·simp only[VRL] at hv ⊢
   obtain⟨y,r,e,q1,q3⟩:=hv
   exact⟨y,r,e,A1b h q1,q3⟩
  ·cases h
 free:=fun _=>rfl
def VSr(l:List Txt):Tr AV:=.br (E9 (SS l/\l.length<2^62)) (.leaf (.bool true)) .fail
def VRt(d:Drw):Tr AV:=.leaf (.sbool (G4i d))
def VDp(x:Drw×List UInt8):Tr AV:=.br (E9 (OkD x.1)) (.leaf (.tuple [Q4 (A7u x.1 x.2),.sint .i64 (B2b x.1 x.2)])) .fail
def pDe:Prims:=((pDa.addt 20 (M8 O5 VRt)).addt 21 (M8 A2p VDp)).addt 23 (M8 G8a VSr)
theorem G3m{A:Amb}(hT:Tab A)(hG:gN prog<=A.G):PrimOK prog A pDe:=by
 have h0:=G3k hT hG
 have h1:PrimOK prog A G3l:=F4u h0 h0
 refine H8 hG h1 (H8 hG h0 (H8 hG h0 h0 O5 VRt func20 (by kernel_rfl) fun x v hv=>?_) A2p VDp func21 (by kernel_rfl) fun x v hv=>?_) G8a VSr func23 (by kernel_rfl) fun x v hv=>?_
 ·cases hv
  obtain⟨v',h1,h2⟩:=H1h x
  exact⟨v',h1,Q3 h2,Z9 h2⟩
 ·obtain⟨hz,hv⟩:=Tr.br1 hv
  cases hv
  obtain⟨v',h1,h2,h3⟩:=H1i x.1 x.2 (H6 hz)
  exact⟨v',h1,h2,h3⟩
 ·obtain⟨hz,hv⟩:=Tr.br1 hv
  cases hv
  have hz:=H6 hz
  refine⟨.bool true,?_,rfl,fun Z y hy=>hy⟩
  show(D5 prog G3l 60).call 23 [Q4 x] (Bg 8) F8=_
  rw[G9c,D4d (by omega) (by omega)]
  have e:[Lf.n x.length,Lf.fr (A7 txF x),Lf.i ((x.length:Int)-1)]=C0o x:=by simp[C0o,L23]
  rw[e]
  exact A8 (P5 (F3o x) hz) rfl
end Go.Proofs.Tryz
