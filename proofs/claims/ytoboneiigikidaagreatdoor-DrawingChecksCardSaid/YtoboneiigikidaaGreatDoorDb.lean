/- Drawings: small drawings are not larger than any. -/
import Derived.Test.YtoboneiigikidaaGreatDoorFo
import Derived.Test.YtoboneiigikidaaGreatDoorBase
import Derived.Test.YtoboneiigikidaaGreatDoorAdDeep
import Derived.Test.YtoboneiigikidaaGreatDoorAdPat
import Derived.Deep.Slices
import Derived.WalkKit
import Derived.ChangeMaps5
import Derived.Test.YtoboneiigikidaaGreatDoorAwh
import Derived.Shelf.Vars
namespace Go.Proofs.Tryz
open Go.Ad
theorem B5g {β:Type} {p:β->Nat->Bool} {N:β->Nat} {x:β} (h:fdE p N x=true):∀ i,i < N x->p x i=true:=fun i hi=>by
 have h1:G5 (p x) (N x) 0=N x:=of_decide_eq_true h
 exact A1s (p:=p x) (k:=N x) (n:=0) (m:=i) (by omega) (by omega)
theorem C5j {x:Fea} (h:C5i x=true):szF x=true/\x.l.length<=12/\∀ k,k < x.l.length->(F6 x k).l.length<=6:=by
 simp only [C5i,Bool.and_eq_true,decide_eq_true_eq] at h
 obtain ⟨h1,h2,h3⟩:=h
 have h4:∀ k,k < x.l.length->(F6 x k).l.length<=6/\∀ n,n < (F6 x k).l.length->(U6 (F6 x k) n).s.length<=100:=fun k hk=>by
  have:=B5g h3 k hk
  simp only [D1k,Bool.and_eq_true,decide_eq_true_eq] at this
  refine ⟨this.1,fun n hn=>?_⟩
  have:=B5g this.2 n hn
  simpa only [D1l,decide_eq_true_eq] using this
 refine ⟨?_,h2,fun k hk=>(h4 k hk).1⟩
 unfold szF I5
 rw [Bool.and_eq_true,decide_eq_true_eq,List.all_eq_true]
 refine ⟨by omega,fun y hy=>?_⟩
 obtain ⟨k,hk,rfl⟩:=List.getElem_of_mem hy
 have e:F6 x k=x.l[k]:=by unfold F6; rw [List.getD_eq_getElem?_getD,List.getElem?_eq_getElem hk]; rfl
 unfold szD
 rw [List.all_eq_true]
 intro z hz
 obtain ⟨n,hn,rfl⟩:=List.getElem_of_mem hz
 have h5:=(h4 k hk).2
 rw [e] at h5
 have h6:=h5 n hn
 have e2:U6 x.l[k] n=x.l[k].l[n]:=by unfold U6; rw [List.getD_eq_getElem?_getD,List.getElem?_eq_getElem hn]; rfl
 rw [e2] at h6
 exact dT (by omega)
theorem F3v {d:Drw} (h:D4u d=true):OkD d:=by
 simp only [D4u,Bool.and_eq_true,Bool.or_eq_true,decide_eq_true_eq] at h
 obtain ⟨⟨h1,h2⟩,h3,h4⟩:=h
 have h5:∀ i,i < d.l.length->C5i (D9 d i)=true:=fun i hi=>B5g h3 i hi
 simp only [C9y,Bool.and_eq_true,Bool.not_eq_true',Bool.or_eq_false_iff,Bool.and_eq_false_iff,decide_eq_false_iff_not] at h4
 obtain ⟨⟨_,h6⟩,h7⟩:=h4
 refine ⟨by omega,fun i hi=>(C5j (h5 i hi)).1,fun i hi=>?_,fun i k hi hk=>?_,dT (by omega),by omega,fun i hi=>?_⟩
 ·have:=(C5j (h5 i hi)).2.1; omega
 ·have:=(C5j (h5 i hi)).2.2 k hk; omega
 ·have:=B5g h7 i hi
  simp only [p39,Bool.and_eq_true,decide_eq_true_eq] at this
  unfold I5 K5
  exact ⟨dT (by omega),dT (by omega)⟩
end Go.Proofs.Tryz
namespace Go.Proofs.Tryz
open Go.Ad Go.Deep Go.ChangeShapes
section
variable {H:Type} {enc:TypeId × Value->H} {W:World} {fuel:Nat} {cs:List Value} {x:DataW H × List MemPlace}
theorem open_list {α:Type} [Inhabited α] {fv:α->List FV} {t e:TypeId} {es:Nat} (ht:prog.underlying t=some (.slice e)) (hes:prog.cellsOf e=es) (h0:0 < es)
  (hrow:∀ (fuel:Nat) (cs:List Value) (x:DataW H × List MemPlace),DataW.trod enc prog W 0 (fun _=>true) true fuel e cs=some x->∃ y:α,FVRL (fzW W) (fv y) cs)
  (h:DataW.trod enc prog W 0 (fun _=>true) true fuel t cs=some x):∃ (L:List α) (v:Value),cs=[v]/\FVR (fzW W) (B5a fv es L) v:=by
 rcases open_slice ht h with ⟨rfl,_⟩ | ⟨a,len,cap,m,n,D,Pl,rfl,_,hl,_,hmm,_,hel⟩
 ·exact ⟨[],_,rfl,by simp [B5a,FVR]⟩
 rw [if_pos rfl] at hmm
 subst hmm
 by_cases hz:len=0
 ·subst hz
  refine ⟨[],_,rfl,?_⟩
  simp only [B5a,FVR,List.length_nil]
  exact .inl ⟨trivial,.inr ⟨_,_,rfl⟩⟩
 obtain ⟨q,hq⟩:=choose_lt (α:=α) (n:=len) (p:=fun i y=>∃ cs',W.cells? 0 (a.add (i*es)) es=some cs'/\FVRL (fzW W) (fv y) cs') fun i hi=>by
  obtain ⟨cs',h1,h2⟩:=hel i (by omega)
  rw [hes] at h1
  obtain ⟨y,hy⟩:=hrow _ _ _ h2
  exact ⟨y,cs',h1,hy⟩
 refine ⟨(List.range len).map q,_,rfl,?_⟩
 obtain ⟨c,off,spot⟩:=a
 have hblk:spot=none/\∃ arr e fz,W.heap[c]?=some (.cells arr e fz):=by
  obtain ⟨cs',h1,_⟩:=hq 0 (by omega)
  obtain ⟨_,hlen,hce⟩:=World.cells?_some h1
  have:=hce 0 h0
  rw [List.getElem?_eq_getElem (by omega)] at this
  rw [show ((⟨c,off,spot⟩:Addr).add (0*es)).add 0=⟨c,off,spot⟩ by simp [Addr.add]] at this
  unfold World.cell? at this
  split at this
  ·rename_i arr e fz hh
   cases spot with
   | none=>exact ⟨rfl,arr,e,fz,hh⟩
   | some s=>simp at this
  ·cases this
 obtain ⟨rfl,arr,e',fz,hh⟩:=hblk
 have hcell:∀ k,W.cell? ⟨c,k,none⟩=arr[k]?:=fun k=>by simp [World.cell?,hh]
 have each:∀ i,i < len->∃ cs',cs'.length=es/\(∀ j,j < es->arr[off+i*es+j]?=cs'[j]?)/\FVRL (fzW W) (fv (q i)) cs':=fun i hi=>by
  obtain ⟨cs',h1,h2⟩:=hq i hi
  obtain ⟨_,hlen,hce⟩:=World.cells?_some h1
  refine ⟨cs',hlen,fun j hj=>?_,h2⟩
  have:=hce j hj
  rw [M4,M4,hcell] at this
  exact this
 have hfit:off+len*es<=arr.size:=by
  obtain ⟨cs',k1,k2,_⟩:=each (len - 1) (by omega)
  have h3:=k2 (es - 1) (by omega)
  rw [List.getElem?_eq_getElem (show es - 1 < cs'.length by omega)] at h3
  have h4:=(Array.getElem?_eq_some_iff.1 h3).1
  have h5:(len - 1)*es+es=len*es:=by rw [<- Nat.succ_mul,show (len - 1).succ=len by omega]
  omega
 have hL:((List.range len).map q).length=len:=by simp
 simp only [B5a,FVR,hL]
 refine .inr ⟨by omega,c,off,m,arr.toList,by unfold fzW; rw [hh],hl,rfl,by rw [Array.length_toList]; exact hfit,fun i hi=>?_⟩
 have e1:A7 fv ((List.range len).map q) i=fv (q i):=by
  unfold A7
  rw [List.getD_eq_getElem?_getD,List.getElem?_map,List.getElem?_range hi]
  rfl
 rw [e1]
 obtain ⟨cs',k1,k2,k3⟩:=each i hi
 have hle:i*es+es<=len*es:=by rw [<- Nat.succ_mul]; exact Nat.mul_le_mul_right es hi
 have e2:((arr.toList.drop (off+i*es)).take es)=cs':=by
  apply List.ext_getElem?
  intro j
  rw [List.getElem?_take]
  split
  ·rename_i hj
   rw [List.getElem?_drop,Array.getElem?_toList]
   exact k2 j hj
  ·rw [List.getElem?_eq_none (by omega)]
 rw [e2]
 exact k3
set_option maxRecDepth 100000 in
theorem E6y (h:DataW.trod enc prog W 0 (fun _=>true) true fuel 117 cs=some x):∃ y:Dat,FVRL (fzW W) y.fv cs:=by
 obtain ⟨xs,k,hk,hxy,hlen,hxl,hfd⟩:=DataW.trod_struct underlying117 h
 have hc:cs.length=2:=by rw [hlen]; kernel_rfl
 match xs,hxl,cs,hc with
 | [y0,y1],_,[v0,v1],_ =>
  have g0:=hfd 0 _ rfl
  have g1:=hfd 1 _ rfl
  simp [show prog.cellsOf 3=1 by kernel_rfl,show prog.cellsOf 9=1 by kernel_rfl] at g0 g1
  obtain ⟨b0,q0,_,_⟩:=DataW.trod_string underlying9 g0
  obtain ⟨n1,q1,_,_⟩:=DataW.trod_int underlying3 g1
  simp at q0 q1
  subst q0 q1
  refine ⟨⟨b0.data.toList,n1⟩,?_⟩
  simp only [Dat.fv,FVRL,FVR]
  exact ⟨_,_,rfl,⟨b0,rfl,rfl⟩,_,_,rfl,rfl,rfl⟩
set_option maxRecDepth 100000 in
theorem E7b (h:DataW.trod enc prog W 0 (fun _=>true) true fuel 115 cs=some x):∃ y:Frm,FVRL (fzW W) y.fv cs:=by
 obtain ⟨xs,k,hk,hxy,hlen,hxl,hfd⟩:=DataW.trod_struct underlying115 h
 have hc:cs.length=5:=by rw [hlen]; kernel_rfl
 match xs,hxl,cs,hc with
 | [y0,y1,y2,y3,y4],_,[v0,v1,v2,v3,v4],_ =>
  have g0:=hfd 0 _ rfl
  have g1:=hfd 1 _ rfl
  have g2:=hfd 2 _ rfl
  have g3:=hfd 3 _ rfl
  have g4:=hfd 4 _ rfl
  simp [show prog.cellsOf 3=1 by kernel_rfl,show prog.cellsOf 4=1 by kernel_rfl,show prog.cellsOf 113=1 by kernel_rfl] at g0 g1 g2 g3 g4
  obtain ⟨n0,q0,_,_⟩:=DataW.trod_int underlying3 g0
  obtain ⟨b1,q1,_⟩:=DataW.trod_bool underlying4 g1
  obtain ⟨n2,q2,_,_⟩:=DataW.trod_int underlying3 g2
  obtain ⟨n3,q3,_,_⟩:=DataW.trod_int underlying3 g3
  obtain ⟨L,v,q4,hL⟩:=open_list (fv:=Dat.fv) (es:=2) underlying113 (by kernel_rfl) (by omega) (fun _ _ _ h=>E6y h) g4
  simp at q0 q1 q2 q3 q4
  subst q0 q1 q2 q3 q4
  refine ⟨⟨n0,b1,n2,n3,L⟩,?_⟩
  simp only [Frm.fv,FVRL]
  exact ⟨_,_,rfl,by simp [FVR],_,_,rfl,by simp [FVR],_,_,rfl,by simp [FVR],_,_,rfl,by simp [FVR],_,_,rfl,hL,rfl⟩
set_option maxRecDepth 100000 in
theorem E1y (h:DataW.trod enc prog W 0 (fun _=>true) true fuel 44 cs=some x):∃ a b c:Int,cs=[.int .i64 a,.int .i64 b,.int .i64 c]:=by
 obtain ⟨xs,k,hk,hxy,hlen,hxl,hfd⟩:=DataW.trod_struct underlying44 h
 have hc:cs.length=3:=by rw [hlen]; kernel_rfl
 match xs,hxl,cs,hc with
 | [y0,y1,y2],_,[v0,v1,v2],_ =>
  have g0:=hfd 0 _ rfl
  have g1:=hfd 1 _ rfl
  have g2:=hfd 2 _ rfl
  simp [show prog.cellsOf 3=1 by kernel_rfl] at g0 g1 g2
  obtain ⟨n0,q0,_,_⟩:=DataW.trod_int underlying3 g0
  obtain ⟨n1,q1,_,_⟩:=DataW.trod_int underlying3 g1
  obtain ⟨n2,q2,_,_⟩:=DataW.trod_int underlying3 g2
  simp at q0 q1 q2
  subst q0 q1 q2
  exact ⟨n0,n1,n2,rfl⟩
set_option maxRecDepth 100000 in
theorem C2p (h:DataW.trod enc prog W 0 (fun _=>true) true fuel 46 cs=some x):∃ a b:Int,cs=[.int .i64 a,.int .i64 b]:=by
 obtain ⟨xs,k,hk,hxy,hlen,hxl,hfd⟩:=DataW.trod_struct underlying46 h
 have hc:cs.length=2:=by rw [hlen]; kernel_rfl
 match xs,hxl,cs,hc with
 | [y0,y1],_,[v0,v1],_ =>
  have g0:=hfd 0 _ rfl
  have g1:=hfd 1 _ rfl
  simp [show prog.cellsOf 3=1 by kernel_rfl] at g0 g1
  obtain ⟨n0,q0,_,_⟩:=DataW.trod_int underlying3 g0
  obtain ⟨n1,q1,_,_⟩:=DataW.trod_int underlying3 g1
  simp at q0 q1
  subst q0 q1
  exact ⟨n0,n1,rfl⟩
set_option maxRecDepth 100000 in
theorem E7a (h:DataW.trod enc prog W 0 (fun _=>true) true fuel 49 cs=some x):∃ y:Fea,FVRL (fzW W) y.fv cs:=by
 obtain ⟨xs,k,hk,hxy,hlen,hxl,hfd⟩:=DataW.trod_struct underlying49 h
 have hc:cs.length=9:=by rw [hlen]; kernel_rfl
 match xs,hxl,cs,hc with
 | [y0,y1,y2,y3,y4,y5],_,[v0,v1,v2,v3,v4,v5,v6,v7,v8],_ =>
  have g0:=hfd 0 _ rfl
  have g1:=hfd 1 _ rfl
  have g2:=hfd 2 _ rfl
  have g3:=hfd 3 _ rfl
  have g4:=hfd 4 _ rfl
  have g5:=hfd 5 _ rfl
  simp [show prog.cellsOf 3=1 by kernel_rfl,show prog.cellsOf 9=1 by kernel_rfl,show prog.cellsOf 44=3 by kernel_rfl,show prog.cellsOf 46=2 by kernel_rfl,show prog.cellsOf 47=1 by kernel_rfl] at g0 g1 g2 g3 g4 g5
  obtain ⟨b0,q0,_,_⟩:=DataW.trod_string underlying9 g0
  obtain ⟨n1,q1,_,_⟩:=DataW.trod_int underlying3 g1
  obtain ⟨n2,q2,_,_⟩:=DataW.trod_int underlying3 g2
  obtain ⟨a3,b3,c3,q3⟩:=E1y g3
  obtain ⟨a4,b4,q4⟩:=C2p g4
  obtain ⟨L,v,q5,hL⟩:=open_list (fv:=Frm.fv) (es:=5) underlying47 (by kernel_rfl) (by omega) (fun _ _ _ h=>E7b h) g5
  simp at q0 q1 q2 q3 q4 q5
  obtain ⟨rfl,rfl,rfl⟩:=q3
  obtain ⟨rfl,rfl⟩:=q4
  subst q0 q1 q2 q5
  refine ⟨⟨b0.data.toList,n1,n2,a3,b3,c3,a4,b4,L⟩,?_⟩
  simp only [Fea.fv,FVRL]
  exact ⟨_,_,rfl,by simp only [FVR]; exact ⟨b0,rfl,rfl⟩,_,_,rfl,by simp [FVR],_,_,rfl,by simp [FVR],_,_,rfl,by simp [FVR],_,_,rfl,by simp [FVR],_,_,rfl,by simp [FVR],_,_,rfl,by simp [FVR],_,_,rfl,by simp [FVR],_,_,rfl,hL,rfl⟩
set_option maxRecDepth 100000 in
theorem E6z (h:DataW.trod enc prog W 0 (fun _=>true) true fuel 94 cs=some x):∃ y:Dim,FVRL (fzW W) y.fv cs:=by
 obtain ⟨xs,k,hk,hxy,hlen,hxl,hfd⟩:=DataW.trod_struct underlying94 h
 have hc:cs.length=5:=by rw [hlen]; kernel_rfl
 match xs,hxl,cs,hc with
 | [y0,y1,y2,y3],_,[v0,v1,v2,v3,v4],_ =>
  have g0:=hfd 0 _ rfl
  have g1:=hfd 1 _ rfl
  have g2:=hfd 2 _ rfl
  have g3:=hfd 3 _ rfl
  simp [show prog.cellsOf 3=1 by kernel_rfl,show prog.cellsOf 9=1 by kernel_rfl,show prog.cellsOf 46=2 by kernel_rfl] at g0 g1 g2 g3
  obtain ⟨b0,q0,_,_⟩:=DataW.trod_string underlying9 g0
  obtain ⟨b1,q1,_,_⟩:=DataW.trod_string underlying9 g1
  obtain ⟨n2,q2,_,_⟩:=DataW.trod_int underlying3 g2
  obtain ⟨a3,b3,q3⟩:=C2p g3
  simp at q0 q1 q2 q3
  obtain ⟨rfl,rfl⟩:=q3
  subst q0 q1 q2
  refine ⟨⟨b0.data.toList,b1.data.toList,n2,a3,b3⟩,?_⟩
  simp only [Dim.fv,FVRL,FVR]
  exact ⟨_,_,rfl,⟨b0,rfl,rfl⟩,_,_,rfl,⟨b1,rfl,rfl⟩,_,_,rfl,rfl,_,_,rfl,rfl,_,_,rfl,rfl,rfl⟩
set_option maxRecDepth 100000 in
theorem open_drw {b0:Nat} {v:Value} {d:DataW H} {ps:List MemPlace} (hval:Value.okWide prog W .any b0 25 v) (h:DataW.Trod enc prog W 0 (fun _=>true) true 25 v d ps) (n:Nat):∃ d:Drw,VR (A3r n (fzW W)) (.agg d.av) v:=by
 obtain ⟨fuel,hf⟩:=h
 obtain ⟨xs,k,hk,hxy,hlen,hxl,hfd⟩:=DataW.trod_struct underlying25 hf
 have hc:v.cells.toList.length=3:=by rw [hlen]; kernel_rfl
 obtain ⟨a,rfl⟩:∃ a,v=.agg a:=by
  cases v with
  | agg a=>exact ⟨a,rfl⟩
  | _=>simp [Value.cells] at hc
 simp only [Value.cells] at hc hfd
 obtain ⟨cs,hcs⟩:∃ cs,cs=a.toList:=⟨_,rfl⟩
 rw [<- hcs] at hc hfd
 match xs,hxl,cs,hc,hcs with
 | [y0,y1,y2],_,[v0,v1,v2],_,hcs =>
  have g0:=hfd 0 _ rfl
  have g1:=hfd 1 _ rfl
  have g2:=hfd 2 _ rfl
  simp [show prog.cellsOf 9=1 by kernel_rfl,show prog.cellsOf 22=1 by kernel_rfl,show prog.cellsOf 23=1 by kernel_rfl] at g0 g1 g2
  obtain ⟨b0,q0,_,_⟩:=DataW.trod_string underlying9 g0
  obtain ⟨L,v1',q1,hL⟩:=open_list (fv:=Fea.fv) (es:=9) underlying22 (by kernel_rfl) (by omega) (fun _ _ _ h=>E7a h) g1
  obtain ⟨M,v2',q2,hM⟩:=open_list (fv:=Dim.fv) (es:=5) underlying23 (by kernel_rfl) (by omega) (fun _ _ _ h=>E6z h) g2
  simp at q0 q1 q2
  subst q0 q1 q2
  refine ⟨⟨b0.data.toList,L,M⟩,?_⟩
  simp only [VR,Drw.av]
  refine ⟨a,rfl,?_⟩
  rw [<- hcs]
  simp only [VRL]
  exact ⟨_,_,rfl,by simp only [VR]; exact ⟨b0,rfl,rfl⟩,_,_,rfl,hL,_,_,rfl,hM,rfl⟩
end
end Go.Proofs.Tryz
namespace Go.Proofs.Tryz
open Go.Ad
theorem mx_of {W:World} (hG:gN prog<=W.heap.size) (hsh:W.ShapedOpen prog):Mx (ambOf W):=by
 obtain ⟨m,hm⟩:=cell_of_shapedOpen_int (P:=prog) (w:=W) (g:=0) (t:=3) (zero:=#[.int .i64 0]) (k:=.i64) hsh (by decide +kernel) (by kernel_rfl) (by kernel_rfl) (by kernel_rfl) (by kernel_rfl) (by kernel_rfl)
 refine ⟨m,fun w hw=>?_⟩
 have h0:0 < (ambOf W).G:=by
  have h8:=gsz
  rw [h8] at hG
  show 0 < W.heap.size
  omega
 have:=hw 0 h0
 unfold World.cell? at hm ⊢
 rw [show w.heap[0]?=W.heap[0]? from this]
 exact hm
theorem tab_laid {W:World} {a b:String × DataW Unit} {r:List (String × DataW Unit)} (h:laidMet prog (a :: b :: ("internal/strconv.uint64pow10",Lib.tabData .u64 Lib.pow10Tab) :: r) W) :
  Lib.TabIs prog W "internal/strconv.uint64pow10" .u64 Lib.pow10Tab :=
 Lib.tabIs_of_head (g:=5) (t:=303) (e:=252) (n:=20) (by kernel_rfl) (by kernel_rfl) (by kernel_rfl) (by kernel_rfl) (by kernel_rfl) (by kernel_rfl) (A9j (A9j h))
noncomputable def pLw:Prims:=pDa.addt 10 G0d
theorem G0w {A:Amb} (hT:Tab A) (hG:gN prog<=A.G) (hM:Mx A):PrimOK prog A pLw:=F9a hT hG hM (G0q hT hG)
theorem G6w (d:Drw):(D5 prog pLw 60).call 3 [.agg d.av] (Bg 8) D0l =
  brK (D8 (okR Fea.fv d.l.length (A7 Fea.fv d.l)) && D8 (okR Dim.fv d.m.length (A7 Dim.fv d.m))) (brK (!D4u (drE d)) (some ()) (brK (D8 (okR Fea.fv d.l.length (A7 Fea.fv d.l)) && D8 (okR Dim.fv d.m.length (A7 Dim.fv d.m))) (brK (D8 (OkD (drE d))) (brK (D8 (okR Fea.fv d.l.length (A7 Fea.fv d.l)) && D8 (okR Dim.fv d.m.length (A7 Dim.fv d.m))) (brK (D8 (OkD (drE d))) (brK (D8 (okR Fea.fv d.l.length (A7 Fea.fv d.l)) && D8 (okR Dim.fv d.m.length (A7 Dim.fv d.m))) (brK (D8 (OkD (drE d))) (brK (D8 (okR Fea.fv d.l.length (A7 Fea.fv d.l)) && D8 (okR Dim.fv d.m.length (A7 Dim.fv d.m))) (brK (D8 (OkD (drE d))) (brK (V4 (drE d) == V4 (drE d)) (brK (D8 (okR txF (A4r (drE d)).length (A7 txF (A4r (drE d)))) && D8 (okR txF (A4r (drE d)).length (A7 txF (A4r (drE d))))) (brK (decide ((ofR txF (A4r (drE d)).length (A7 txF (A4r (drE d)))).length < 4611686018427387904)) (brK (decide (ofR txF (A4r (drE d)).length (A7 txF (A4r (drE d)))=ofR txF (A4r (drE d)).length (A7 txF (A4r (drE d))))) (brK (V4 (drE d) == V4 (drE d)) (some ()) none) none) none) none) none) none) none) none) none) none) none) none) none)) none:=by kernel_rfl
theorem G7f (d:Drw):(D5 prog pLw 60).call 3 [.agg d.av] (Bg 8) D0l=some ():=by
 rw [G6w]
 simp only [L8,Bool.and_self,Y9]
 cases h:D4u d with
 | false=>exact A8 rfl (A8 rfl rfl)
 | true =>
  have hk:=D6 (F3v h)
  refine A8 rfl (C8 rfl (A8 rfl (A8 hk (A8 rfl (A8 hk (A8 rfl (A8 hk (A8 rfl (A8 hk (A8 (by simp) (A8 rfl (A8 ?_ (A8 (by simp) (A8 (by simp) rfl))))))))))))))
  rw [J3 U9]
  refine dT ?_
  unfold A4r
  split
  ·rename_i hc
   have hg:=C5o hc
   have h1:=B9y hg _ (Nat.le_refl _)
   have h2:=hg.len
   unfold A2r
   omega
  ·simp
theorem drawingChecks (d:Drw) (v:Value) (W:World) (hG:gN prog<=W.heap.size) (hT:Tab (ambOf W)) (hM:Mx (ambOf W)) (hv:VR (A3r 8 (fzW W)) (.agg d.av) v) :
  Calls prog 3 #[v] W fun e W'=>e=.returned (.bool true)/\RowKit.Below W.heap.size W W' :=
 E6k F7 F8 (G0w hT hG hM) hG (n:=60) (args:=[.agg d.av]) (by rw [gsz]; exact G7f d) #[v] (by rw [gsz]; simp only [VRL]; exact ⟨v,[],rfl,hv,rfl⟩)
end Go.Proofs.Tryz
