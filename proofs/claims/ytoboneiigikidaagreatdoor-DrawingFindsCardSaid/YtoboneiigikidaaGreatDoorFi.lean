/- Drawings: Depends by the reference, Nominal. -/
import Derived.Test.YtoboneiigikidaaGreatDoorDb
import Derived.Test.YtoboneiigikidaaGreatDoorAdFind
import Derived.WalkKit
import Derived.Lib.Walk
import Derived.Lib.SliceRun
import Derived.Test.YtoboneiigikidaaGreatDoorBase
import Derived.OpenShut
noncomputable section
namespace Go.Proofs.Tryz
open Go.Ad
theorem G9f(d:Drw)(s:Txt):(D5 prog pDe 60).call 32 [.agg d.av,.sstr s] (Bg 8) F8 =
  brK (oD d) (brK (E9 (OkD (drE d))) (brK (J4 (drE d) != 0) (some (.tuple [.slice none 0 0,.sint IntKind.i64 (J4 (drE d)) ])) (brK (oD d) (brK (decide ((ofR Fea.fv d.l.length (A7 Fea.fv d.l)).length<4611686018427387904)) (brK (decide (D7 (drE d) s<0)) (some (.tuple [.slice none 0 0,.int .i64 6])) (brK (oD d) (brK (E9 (GrD (drE d)/\s∈H5 (drE d))) (some (.tuple [.flist (((K5 (drE d) s)).length) (fun i=>txF ((K5 (drE d) s).getD i default)) 1,.int .i64 0])) none) none)) none) none)) none) none:=by kernel_rfl
theorem ok32(d:Drw)(s:Txt)(hk:OkD d):∃ v,(D5 prog pDe 60).call 32 [.agg d.av,.sstr s] (Bg 8) F8=some v/\E7s (A7u d s) (B2b d s) v:=by
 rw[G9f]
 simp only[A3r,J8,Bool.and_self,P8,I1 Fea.inj]
 unfold A7u B2b
 by_cases c:J4 d≠0
 ·rw[if_pos c,if_pos (.inl c)]
  exact exV (A8 rfl (A8 (A9 hk) (A8 (by simpa using c) rfl))) (B8s _)
 rw[if_neg c]
 have c':J4 d=0:=by omega
 have hl:=hk.len
 by_cases c2:D7 d s<0
 ·rw[if_pos c2,if_pos (.inr c2)]
  exact exV (A8 rfl (A8 (A9 hk) (C8 (by simpa using c') (A8 rfl (A8 (dT hl) (A8 (dT c2) rfl)))))) (D1r 6)
 rw[if_neg c2,if_neg (fun h=>h.elim c c2)]
 have hm:s∈H5 d:=G7e.1 (by omega)
 exact exV (A8 rfl (A8 (A9 hk) (C8 (by simpa using c') (A8 rfl (A8 (dT hl) (C8 (dF c2) (A8 rfl (A8 (A9 ⟨A8b c',hm⟩) rfl)))))))) (E0b _)
def C1k(d:Drw)(s t:Txt)(a:Int):Int×Int:=if J4 d≠0 then(0,J4 d) else if a<0 \/ a >= 3 then(0,1) else Q7 d s t a
def F5g(x:Int×Int)(v:AV):Prop:=∃ a b,v=.tuple [a,b]/\O9 x.1 a/\O9 x.2 b
theorem B4p{x:Int×Int}{v:AV}(h:F5g x v):F3 0 v=true:=by
 obtain⟨a,b,rfl,h1,h2⟩:=h
 simp only[F3,I8,G9 h1,G9 h2,Bool.and_self]
theorem E0c{x:Int×Int}{v:AV}(h:F5g x v)(Z:Emb)(y:Value)(hy:VR Z v y):VR Z (.tuple [.sint .i64 x.1,.sint .i64 x.2]) y:=by
 obtain⟨a,b,rfl,h1,h2⟩:=h
 simp only[VR,VRL] at hy
 obtain⟨l,rfl,y1,l1,e1,g1,y2,l2,e2,g2,g3⟩:=hy
 have k1:=J9 h1 Z _ g1
 have k2:=J9 h2 Z _ g2
 simp only[VR,VRL]
 simp only[VR] at k1 k2
 exact⟨l,rfl,y1,l1,e1,k1,y2,l2,e2,k2,g3⟩
theorem D3d{d:Drw}(hk:OkD d)(h:J4 d=0):RightD d:=by
 obtain⟨_,h2,_,_⟩:=B8j h
 exact B9w hk (B0e h2).1
theorem G9g(d:Drw)(s t:Txt)(a:Int):(D5 prog pDe 60).call 33 [.agg d.av,.sstr s,.sstr t,.sint .i64 a] (Bg 8) F8 =
  brK (oD d) (brK (E9 (OkD (drE d))) (brK (J4 (drE d) != 0) (some (.tuple [.int .i64 0,.sint IntKind.i64 (J4 (drE d)) ])) (brK (decide (a<0)) (some (.tuple [.int .i64 0,.int .i64 1])) (brK (decide (a >= 3)) (some (.tuple [.int .i64 0,.int .i64 1])) (brK (oD d) (brK (E9 (RightD (drE d)/\0<=a/\a<3)) (some (.tuple [.sint IntKind.i64 ((Q7 (drE d) s t a).fst) ,.sint IntKind.i64 ((Q7 (drE d) s t a).snd) ])) none) none)))) none) none:=by kernel_rfl
theorem H1m(d:Drw)(s t:Txt)(a:Int)(hk:OkD d):∃ v,(D5 prog pDe 60).call 33 [.agg d.av,.sstr s,.sstr t,.sint .i64 a] (Bg 8) F8=some v/\F5g (C1k d s t a) v:=by
 rw[G9g]
 simp only[A3r,J8,Bool.and_self,P8]
 unfold C1k
 by_cases c:J4 d≠0
 ·rw[if_pos c]
  exact exV (A8 rfl (A8 (A9 hk) (A8 (by simpa using c) rfl))) ⟨_,_,rfl,.inl rfl,.inr rfl⟩
 rw[if_neg c]
 have c':J4 d=0:=by omega
 by_cases c1:a<0
 ·rw[if_pos (.inl c1)]
  exact exV (A8 rfl (A8 (A9 hk) (C8 (by simpa using c') (A8 (dT c1) rfl)))) ⟨_,_,rfl,.inl rfl,.inl rfl⟩
 by_cases c2:a >= 3
 ·rw[if_pos (.inr c2)]
  exact exV (A8 rfl (A8 (A9 hk) (C8 (by simpa using c') (C8 (dF c1) (A8 (dT c2) rfl))))) ⟨_,_,rfl,.inl rfl,.inl rfl⟩
 rw[if_neg (fun h=>h.elim c1 c2)]
 exact exV (A8 rfl (A8 (A9 hk) (C8 (by simpa using c') (C8 (dF c1) (C8 (dF c2) (A8 rfl (A8 (A9 ⟨D3d hk c',by omega,by omega⟩) rfl))))))) ⟨_,_,rfl,.inr rfl,.inr rfl⟩
theorem G9h(d:Drw)(s t:Txt)(a:Int):(D5 prog pDe 60).call 34 [.agg d.av,.sstr s,.sstr t,.sint .i64 a] (Bg 8) F8 =
  brK (oD d) (brK (E9 (OkD (drE d))) (brK (J4 (drE d) != 0) (some (.tuple [.int .i64 0,.sint IntKind.i64 (J4 (drE d)) ])) (brK (decide (a<0)) (some (.tuple [.int .i64 0,.int .i64 1])) (brK (decide (a >= 3)) (some (.tuple [.int .i64 0,.int .i64 1])) (brK (oD d) (brK (E9 (RightD (drE d)/\0<=a/\a<3)) (some (.tuple [.sint IntKind.i64 ((Q7 (drE d) s t a).fst) ,.sint IntKind.i64 ((Q7 (drE d) s t a).snd) ])) none) none)))) none) none:=by kernel_rfl
theorem H1o(d:Drw)(s t:Txt)(a:Int)(hk:OkD d):∃ v,(D5 prog pDe 60).call 34 [.agg d.av,.sstr s,.sstr t,.sint .i64 a] (Bg 8) F8=some v/\F5g (C1k d s t a) v:=by
 rw[G9h]
 simp only[A3r,J8,Bool.and_self,P8]
 unfold C1k
 by_cases c:J4 d≠0
 ·rw[if_pos c]
  exact exV (A8 rfl (A8 (A9 hk) (A8 (by simpa using c) rfl))) ⟨_,_,rfl,.inl rfl,.inr rfl⟩
 rw[if_neg c]
 have c':J4 d=0:=by omega
 by_cases c1:a<0
 ·rw[if_pos (.inl c1)]
  exact exV (A8 rfl (A8 (A9 hk) (C8 (by simpa using c') (A8 (dT c1) rfl)))) ⟨_,_,rfl,.inl rfl,.inl rfl⟩
 by_cases c2:a >= 3
 ·rw[if_pos (.inr c2)]
  exact exV (A8 rfl (A8 (A9 hk) (C8 (by simpa using c') (C8 (dF c1) (A8 (dT c2) rfl))))) ⟨_,_,rfl,.inl rfl,.inl rfl⟩
 rw[if_neg (fun h=>h.elim c1 c2)]
 exact exV (A8 rfl (A8 (A9 hk) (C8 (by simpa using c') (C8 (dF c1) (C8 (dF c2) (A8 rfl (A8 (A9 ⟨D3d hk c',by omega,by omega⟩) rfl))))))) ⟨_,_,rfl,.inr rfl,.inr rfl⟩
def VNo(x:Drw×List UInt8×List UInt8×Int):Tr AV:=.br (E9 (OkD x.1)) (.leaf (.tuple [.sint .i64 (C1k x.1 x.2.1 x.2.2.1 x.2.2.2).1,.sint .i64 (C1k x.1 x.2.1 x.2.2.1 x.2.2.2).2])) .fail
def pFi:Prims:=((pDe.addt 32 (M8 A2p VDp)).addt 33 (M8 A4q VNo)).addt 34 (M8 A4q VNo)
theorem G3o{A:Amb}(hT:Tab A)(hG:gN prog<=A.G):PrimOK prog A pFi:=by
 have h0:=G3m hT hG
 refine H8 hG h0 (H8 hG h0 (H8 hG h0 h0 A2p VDp func32 (by kernel_rfl) fun x v hv=>?_) A4q VNo func33 (by kernel_rfl) fun x v hv=>?_) A4q VNo func34 (by kernel_rfl) fun x v hv=>?_
 ·obtain⟨hz,hv⟩:=Tr.br1 hv
  cases hv
  obtain⟨v',h1,h2,h3⟩:=ok32 x.1 x.2 (H6 hz)
  exact⟨v',h1,h2,h3⟩
 ·obtain⟨hz,hv⟩:=Tr.br1 hv
  cases hv
  obtain⟨v',h1,h2⟩:=H1m x.1 x.2.1 x.2.2.1 x.2.2.2 (H6 hz)
  exact⟨v',h1,B4p h2,E0c h2⟩
 ·obtain⟨hz,hv⟩:=Tr.br1 hv
  cases hv
  obtain⟨v',h1,h2⟩:=H1o x.1 x.2.1 x.2.2.1 x.2.2.2 (H6 hz)
  exact⟨v',h1,B4p h2,E0c h2⟩
end Go.Proofs.Tryz
namespace Go.Proofs.Tryz
open Go.Ad Go.Lib Go.RowKit
theorem u47:prog.underlying 47=some (.slice 115):=by kernel_rfl
theorem q47(w:World)(a:Option Addr)(n c n' c':Nat):(binOp .eql 47 (.slice a n c) (.slice none n' c')).run prog w=.ok (.bool a.isNone) w:=Lib.run_eql_slice_nil w _ _ a n c n' c' u47
set_option maxHeartbeats 2000000 in
theorem G6d{z:Value}{i0:TypeInfo}(hi:prog.info? 115=some i0)(hz0:i0.zero=some z)(hz1:i0.size=5)(hz2:i0.bytes=56)(hz3:z.cells.size=5)(a:Addr)(n c:Nat)(news:List Value)(w:World)(hl:news.length=n*5)(hn:∀ j u,news[j]?=some u->w.cell? (a.add j)=some u)(h1:∀ u∈news,u.oneCell'=true)(hb:n<2^31) :
  Calls prog 124 #[.slice (some a) n c] w fun e w'=>∃ v',e=.returned v'/\w'.ownsRow w.heap.size 115 5 v' n news/\v'≠.slice none 0 0/\Below w.heap.size w w':=by
 have hh:=q47
 have u22:∀ w,Sem.run prog (underlying 47) w=.ok (TypeDesc.slice 115) w:=run_underlying u47
 have A:Aside (∀ j u,news[j]?=some u->w.cell? (a.add j)=some u):=hn
 clear hn
 go_enter Tryz.func124,Tryz.ntmps124
 go_wp2_with (at_builtin; refine wpList_append_own _ rfl _ _ 47 rfl w.heap.size 115 i0 z 5 56 u47 hi hz0 hz1 hz2 hz3 (by decide) _ _ _ rfl (World.ownsRow_made w #[] 0 (lR _) (Nat.zero_le _) rfl) a n c news rfl hl ?qc2 h1 ?qc4 ?qc5 ?qc6 ?_)
 case qc2 =>
  intro j u hj
  exact Lib.cell?_alloc_some _ (A.out j u hj)
 case qc4=>unfold maxLen; omega
 case qc5=>omega
 case qc6=>simp
 intro v' w1 hown hgrow hnil
 go_wp2
 go_ret
 refine⟨v',rfl,by simpa using hown,hnil,?_⟩
 exact((Below.refl _ w).alloc (lR _) _).grown hgrow (by simp) (by intro k hk; simp[Value.ownBlock] at hk; omega)
theorem G1m(n c:Nat)(w:World):Calls prog 124 #[.slice none n c] w fun e w'=>e=.returned (.slice none 0 0)/\w'=w:=by
 have hh:=q47
 go_enter Tryz.func124,Tryz.ntmps124
 go_wp2
 go_ret
 exact⟨rfl,rfl⟩
theorem G1o:B5q prog 124 115 5:=by
 have h1:((prog.info? 115).map fun i=>(i.size,i.bytes))=some (5,56):=by kernel_rfl
 have h2:((zeroCells? prog 115).map List.length)=some 5:=by kernel_rfl
 rw[oM] at h1 h2
 obtain⟨i0,hi,e1⟩:=h1
 obtain⟨zc,hz,e2⟩:=h2
 simp only[pI] at e1
 obtain⟨z,hz0,e3⟩:=A9e hz hi
 have hz3:z.cells.size=5:=by rw[<- e2,<- e3]; simp
 exact⟨fun a n c news w hl hn h1 hb=>G6d hi hz0 e1.1 e1.2 hz3 a n c news w hl hn h1 hb,G1m⟩
theorem G5t:prog.underlying 113=some (.slice 117):=by kernel_rfl
theorem G8d(w:World)(a:Option Addr)(n c n' c':Nat):(binOp .eql 113 (.slice a n c) (.slice none n' c')).run prog w=.ok (.bool a.isNone) w:=Lib.run_eql_slice_nil w _ _ a n c n' c' G5t
set_option maxHeartbeats 2000000 in
theorem G6e{z:Value}{i0:TypeInfo}(hi:prog.info? 117=some i0)(hz0:i0.zero=some z)(hz1:i0.size=2)(hz2:i0.bytes=24)(hz3:z.cells.size=2)(a:Addr)(n c:Nat)(news:List Value)(w:World)(hl:news.length=n*2)(hn:∀ j u,news[j]?=some u->w.cell? (a.add j)=some u)(h1:∀ u∈news,u.oneCell'=true)(hb:n<2^31) :
  Calls prog 125 #[.slice (some a) n c] w fun e w'=>∃ v',e=.returned v'/\w'.ownsRow w.heap.size 117 2 v' n news/\v'≠.slice none 0 0/\Below w.heap.size w w':=by
 have hh:=G8d
 have u22:∀ w,Sem.run prog (underlying 113) w=.ok (TypeDesc.slice 117) w:=run_underlying G5t
 have A:Aside (∀ j u,news[j]?=some u->w.cell? (a.add j)=some u):=hn
 clear hn
 go_enter Tryz.func125,Tryz.ntmps125
 go_wp2_with (at_builtin; refine wpList_append_own _ rfl _ _ 113 rfl w.heap.size 117 i0 z 2 24 G5t hi hz0 hz1 hz2 hz3 (by decide) _ _ _ rfl (World.ownsRow_made w #[] 0 (lR _) (Nat.zero_le _) rfl) a n c news rfl hl ?qc2 h1 ?qc4 ?qc5 ?qc6 ?_)
 case qc2 =>
  intro j u hj
  exact Lib.cell?_alloc_some _ (A.out j u hj)
 case qc4=>unfold maxLen; omega
 case qc5=>omega
 case qc6=>simp
 intro v' w1 hown hgrow hnil
 go_wp2
 go_ret
 refine⟨v',rfl,by simpa using hown,hnil,?_⟩
 exact((Below.refl _ w).alloc (lR _) _).grown hgrow (by simp) (by intro k hk; simp[Value.ownBlock] at hk; omega)
theorem G1n(n c:Nat)(w:World):Calls prog 125 #[.slice none n c] w fun e w'=>e=.returned (.slice none 0 0)/\w'=w:=by
 have hh:=G8d
 go_enter Tryz.func125,Tryz.ntmps125
 go_wp2
 go_ret
 exact⟨rfl,rfl⟩
theorem G1p:B5q prog 125 117 2:=by
 have h1:((prog.info? 117).map fun i=>(i.size,i.bytes))=some (2,24):=by kernel_rfl
 have h2:((zeroCells? prog 117).map List.length)=some 2:=by kernel_rfl
 rw[oM] at h1 h2
 obtain⟨i0,hi,e1⟩:=h1
 obtain⟨zc,hz,e2⟩:=h2
 simp only[pI] at e1
 obtain⟨z,hz0,e3⟩:=A9e hz hi
 have hz3:z.cells.size=2:=by rw[<- e2,<- e3]; simp
 exact⟨fun a n c news w hl hn h1 hb=>G6e hi hz0 e1.1 e1.2 hz3 a n c news w hl hn h1 hb,G1n⟩
def pCl:Prims:=(pFi.addh 124 (Go.Ad.cloT 5 115)).addh 125 (Go.Ad.cloF 2)
theorem D7e{A:Amb}(hT:Tab A)(hG:gN prog<=A.G):PrimOK prog A pCl :=
 ((G3o hT hG).cloT func124 (by kernel_rfl) (by decide) G1o).cloF func125 (by kernel_rfl) G1p
def zFe:AObj:=.cells [.str [],.int .i64 0,.int .i64 0,.int .i64 0,.int .i64 0,.int .i64 0,.int .i64 0,.int .i64 0,.slice none 0 0] 0 true 49
theorem G6n:∀ f:FV,f.av.fv=f:=fun f=>by cases f<;>rfl
theorem D1e(g:Nat->List FV):A2r (avR g)=g:=by
 funext i
 unfold A2r avR
 rw[List.map_map]
 conv=>rhs; rw[<- List.map_id (g i)]
 exact List.map_congr_left fun f _=>G6n f
theorem F2b(l:List Frm)(i:Nat):B1c i 4 [AV.flist (l.getD i default).l.length (A7 Dat.fv (l.getD i default).l) 2] (avR (A7 Frm.fv l))=avR (A7 Frm.fv l):=by
 funext r
 unfold B1c
 split
 ·rename_i h; subst h; rfl
 ·rfl
def C5n:Code:=I7 (J6 0 (f73.body.getD .skip))
def sp73a:SP:=⟨dr 1++[.is (.ptr (some (8,0)))]++[.is (.ptr (some (9,0)))]++dr 7++[.int .i64]++[.int .i64]++dr 16,dd8++[.cells [.str,.sint .i64,.sint .i64,.sint .i64,.sint .i64,.sint .i64,.sint .i64,.sint .i64,.list 10] 0 true 49,.any,.vec 5 115]⟩
def C8l:AEx->SP
 | .exit 0=>⟨dr 1++[.is (.ptr (some (8,0)))]++[.is (.ptr (some (9,0)))]++dr 25,dd8++[.cells [.str,.sint .i64,.sint .i64,.sint .i64,.sint .i64,.sint .i64,.sint .i64,.sint .i64,.list 10] 0 true 49,.any,.vec 5 115]⟩
 | _=>sp73a
theorem F0s(x:Fea)(a i:Int):E8 prog (D5 prog pCl 60) (pCl.blk 73) C5n (sp73a.rho [.i a,.i i,.s x.s,.i x.k,.i x.a,.i x.x,.i x.y,.i x.z,.i x.lo,.i x.hi,.n x.l.length,.o zFe,.n x.l.length,.r (avR (A7 Frm.fv x.l))]) (sp73a.heap [.i a,.i i,.s x.s,.i x.k,.i x.a,.i x.x,.i x.y,.i x.z,.i x.lo,.i x.hi,.n x.l.length,.o zFe,.n x.l.length,.r (avR (A7 Frm.fv x.l))]) (H9 C8l 11 [8,10]) =
  brK (decide (i<a)) (brK (decide (0<=i/\i<(x.l.length:Int))) (brK (decide (0+i.toNat<x.l.length)) (brK (decide ((x.l.getD (0+i.toNat) default).l.length<2147483648)) (brK (decide (0<=i/\i<(x.l.length:Int))) (brK (decide (0+i.toNat<x.l.length)) (some (.normal,[.i (a),.i (W (i+1)),.s (x.s),.i (x.k),.i (x.a),.i (x.x),.i (x.y),.i (x.z),.i (x.lo),.i (x.hi),.n (x.l.length),.o zFe,.n (x.l.length),.r (B1c (0+i.toNat) 4 [AV.flist (x.l.getD (0+i.toNat) default).l.length (A7 Dat.fv (x.l.getD (0+i.toNat) default).l) 2] (avR (A7 Frm.fv x.l)))])) none) none) none) none) none) (some (.exit 0,[.s (x.s),.i (x.k),.i (x.a),.i (x.x),.i (x.y),.i (x.z),.i (x.lo),.i (x.hi),.n (x.l.length),.o zFe,.n (x.l.length),.r (avR (A7 Frm.fv x.l))])):=by kernel_rfl
def C3v(x:Fea)(n:Nat):List Lf:=[.i x.l.length,.i n,.s x.s,.i x.k,.i x.a,.i x.x,.i x.y,.i x.z,.i x.lo,.i x.hi,.n x.l.length,.o zFe,.n x.l.length,.r (avR (A7 Frm.fv x.l))]
def A0n(x:Fea):List Lf:=C3v x 0
def E4e(_:List Lf)(x:Fea):List Lf:=[.s x.s,.i x.k,.i x.a,.i x.x,.i x.y,.i x.z,.i x.lo,.i x.hi,.n x.l.length,.o zFe,.n x.l.length,.r (avR (A7 Frm.fv x.l))]
def F2z(x:Fea):Nat:=x.l.length
def C2w(x:Fea):Prop:=SmlF x
def A0f:List Lf->Fea
 | [_,_,.s s,.i k,.i a,.i x,.i y,.i z,.i lo,.i hi,.n n,_,_,.r row]=>⟨s,k,a,x,y,z,lo,hi,ofR Frm.fv n (A2r row)⟩
 | _=>default
theorem F8p(x:Fea)(hx:C2w x)(n:Nat)(hn:n<=F2z x):E8 prog (D5 prog pCl 60) (pCl.blk 73) C5n (sp73a.rho (C3v x n)) (sp73a.heap (C3v x n)) (H9 C8l 11 [8,10])=some (if n<F2z x then(.normal,C3v x (n+1)) else(.exit 0,E4e (A0n x) x)):=by
 have hl:=hx.l
 have hn:n<=x.l.length:=hn
 simp only[C3v]
 rw[F0s,I5 hn (by omega)]
 simp only[tN,Nat.zero_add,F2b]
 by_cases h0:n<F2z x
 ·have h:n<x.l.length:=h0
  have hd:=hx.d n h
  simp only[F4] at hd
  rw[if_pos h0]
  repeat first
   | exact rfl
   | refine A8 (by simp only[bA,Bool.or_eq_true,Bool.not_eq_true',dQ,decide_eq_false_iff_not]; omega) ?_
 ·have h:¬ n<x.l.length:=h0
  rw[if_neg h0]
  exact C8 (by simp only[decide_eq_false_iff_not]; omega) rfl
theorem G2b{A:Amb}(x:Fea)(_hx:C2w x)(Bb:Heap)(hB:Bb.length=11):Wk A Bb ⟨sp73a.rho (A0n x),sp73a.heap (A0n x),[8,10]⟩ ⟨sp73a.rho (C3v x 0),sp73a.heap (C3v x 0),[8,10]⟩:=by
 have _:=hB
 exact Wk.refl
def G0g:Blk:=hookP sp73a 11 [8,10] (itT (C8l (.exit 0)) 0 (.exit 0) A0f A0n E4e C2w)
theorem E7g{A:Amb}{q:Prims}(h0:PrimOK prog A pCl)(hq:PrimOK prog A q):PrimOK prog A (q.addb 73 0 G0g) :=
 SEB.iterK (id:=0) (ds:=[8,10]) (dec:=A0f) (sp0:=sp73a) (sp:=sp73a) (sq:=C8l) (m:=11) (ee:=.exit 0) (L0:=A0n) (L:=C3v) (Le:=E4e) (N:=F2z) (Inv:=C2w) (k:=60) F7 F9 h0 hq func73 (show f73.body=some (f73.body.getD .skip) by kernel_rfl) (body:=C5n) (by kernel_rfl)
  rfl rfl rfl rfl (by simp) (fun _=>⟨.inr rfl,.inr rfl,.inr rfl,.inr rfl,.inr rfl,.inr rfl,.inr rfl,.inr rfl,.inl rfl,.inr rfl,.inl rfl,trivial⟩) G2b F8p
def pOw0:Prims:=pCl.addb 73 0 G0g
theorem F6n{A:Amb}(hT:Tab A)(hG:gN prog<=A.G):PrimOK prog A pOw0:=E7g (D7e hT hG) (D7e hT hG)
def spOwA:SP:=⟨dr 2++[.is (.ptr (some (8,0)))]++dr 25,dd8++[.cells [.str,.sint .i64,.sint .i64,.sint .i64,.sint .i64,.sint .i64,.sint .i64,.sint .i64,.list 9] 0 true 49,.vec 5 115]⟩
def spOwB:SP:=⟨dr 2++[.is (.ptr (some (8,0)))]++dr 25,dd8++[.cells [.str,.sint .i64,.sint .i64,.sint .i64,.sint .i64,.sint .i64,.sint .i64,.sint .i64,.flist 5] 0 true 49]⟩
theorem G4r(x:Fea):E8 prog (D5 prog pOw0 60) (pOw0.blk 73) (f73.body.getD .skip) ([.agg x.av]++List.replicate 27 H7) (Bg 8) (H9 (fun _=>spOwA) 8 []) =
  brK (decide (x.l.length<2147483648)) (brK (decide (0<x.l.length)) (brK (itC A0n A0f C2w (A0n x)) (some (.ret,[.s ((A0f (A0n x)).s),.i ((A0f (A0n x)).k),.i ((A0f (A0n x)).a),.i ((A0f (A0n x)).x),.i ((A0f (A0n x)).y),.i ((A0f (A0n x)).z),.i ((A0f (A0n x)).lo),.i ((A0f (A0n x)).hi),.n ((A0f (A0n x)).l.length),.n ((A0f (A0n x)).l.length),.r (avR (A7 Frm.fv (A0f (A0n x)).l))])) none) none) none:=by kernel_rfl
theorem G4s(x:Fea):E8 prog (D5 prog pCl 60) (pCl.blk 73) (f73.body.getD .skip) ([.agg (⟨x.s,x.k,x.a,x.x,x.y,x.z,x.lo,x.hi,[]⟩:Fea).av]++List.replicate 27 H7) (Bg 8) (H9 (fun _=>spOwB) 8 []) =
  some (.ret,[.s x.s,.i x.k,.i x.a,.i x.x,.i x.y,.i x.z,.i x.lo,.i x.hi,.n 0,.fr (A7 Frm.fv [])]):=by kernel_rfl
theorem C2e(x:Fea):A0f (A0n x)=x:=by simp[A0f,A0n,C3v,D1e,I1 Frm.inj]
theorem G2v:∀ f:FV,f.av.fvB=true:=fun f=>by cases f<;>rfl
theorem E5z(n:Nat)(g:Nat->List FV):∀ i,i<n->(avR g i).all AV.fvB=true:=fun i _=>by
 rw[List.all_eq_true]
 intro a ha
 simp only[avR,List.mem_map] at ha
 obtain⟨f,_,rfl⟩:=ha
 exact G2v f
theorem G3g{A:Amb}(x:Fea):Wk A (Bg 8) ⟨spOwA.rho [.s x.s,.i x.k,.i x.a,.i x.x,.i x.y,.i x.z,.i x.lo,.i x.hi,.n x.l.length,.n x.l.length,.r (avR (A7 Frm.fv x.l))],spOwA.heap [.s x.s,.i x.k,.i x.a,.i x.x,.i x.y,.i x.z,.i x.lo,.i x.hi,.n x.l.length,.n x.l.length,.r (avR (A7 Frm.fv x.l))],[]⟩ ⟨spOwB.rho [.s x.s,.i x.k,.i x.a,.i x.x,.i x.y,.i x.z,.i x.lo,.i x.hi,.n x.l.length,.fr (A7 Frm.fv x.l)],spOwB.heap [.s x.s,.i x.k,.i x.a,.i x.x,.i x.y,.i x.z,.i x.lo,.i x.hi,.n x.l.length,.fr (A7 Frm.fv x.l)]++[.dead],[]⟩:=by
 have hfr:∀ (Z Z2:Emb) (h:Array Obj),Frz Z Z2 9 h->(∀ l,Z 9=some l->OR Z h l (.vec x.l.length (avR (A7 Frm.fv x.l)) 5 115))->∀ v,VR Z (.sslice 9 0 x.l.length) v->VR Z2 (.flist x.l.length (A7 Frm.fv x.l) 5) v:=fun Z Z2 h hf ho v hv=>by
  have:=C6k hf ho (lR _) (E5z _ _) hv
  rwa [D1e] at this
 refine Wk.freeze (b:=9) (o:=.vec x.l.length (avR (A7 Frm.fv x.l)) 5 115) rfl rfl (.inl (by decide)) rfl (fun Z h l ho=>?_) (fun y o2 hy=>?_) (fun y hy hD=>?_) fun Z Z2 h hf ho vs hv=>?_
 ·obtain⟨_,_,arr,e,fz,h1,_⟩:=ho
  exact⟨arr,e,fz,h1⟩
 ·have hB:spOwA.heap [.s x.s,.i x.k,.i x.a,.i x.x,.i x.y,.i x.z,.i x.lo,.i x.hi,.n x.l.length,.n x.l.length,.r (avR (A7 Frm.fv x.l))]=Bg 8++[.cells ([AV.sstr x.s,.sint .i64 x.k,.sint .i64 x.a,.sint .i64 x.x,.sint .i64 x.y,.sint .i64 x.z,.sint .i64 x.lo,.sint .i64 x.hi]++[.sslice 9 0 x.l.length]) 0 true 49,.vec x.l.length (avR (A7 Frm.fv x.l)) 5 115]:=rfl
  have hB2:spOwB.heap [.s x.s,.i x.k,.i x.a,.i x.x,.i x.y,.i x.z,.i x.lo,.i x.hi,.n x.l.length,.fr (A7 Frm.fv x.l)]++[.dead]=Bg 8++[.cells ([AV.sstr x.s,.sint .i64 x.k,.sint .i64 x.a,.sint .i64 x.x,.sint .i64 x.y,.sint .i64 x.z,.sint .i64 x.lo,.sint .i64 x.hi]++[.flist x.l.length (A7 Frm.fv x.l) 5]) 0 true 49,.dead]:=rfl
  rw[hB2] at hy
  rw[hB]
  by_cases h8:y<8
  ·have e:(Bg 8)[y]?=some .dead:=by
    rcases(by omega:y=0 \/ y=1 \/ y=2 \/ y=3 \/ y=4 \/ y=5 \/ y=6 \/ y=7) with rfl | rfl | rfl | rfl | rfl | rfl | rfl | rfl<;>rfl
   rw[gL (by simpa[Bg] using h8),e] at hy
   cases hy
   exact .inr ⟨by omega,.dead,by rw[gL (by simpa[Bg] using h8),e],fun h=>h,fun h=>h,fun _ _ _ _ _ _ h=>h⟩
  ·rw[gR (by simp[Bg]; omega)] at hy
   have hlen:(Bg 8).length=8:=rfl
   rw[hlen] at hy
   by_cases h9:y=8
   ·subst h9
    simp only[Nat.sub_self,List.getElem?_cons_zero,sI] at hy
    subst hy
    refine .inr ⟨by omega,_,rfl,fun _=>rfl,fun _=>rfl,fun Z Z2 h hf ho l hc=>?_⟩
    obtain⟨h0,arr,u,fz,h1,h2,h3,h4,h5⟩:=hc
    refine⟨h0,arr,u,fz,h1,h2,h3,fun i a hi=>?_,fun hw=>(h5 hw)⟩
    by_cases hi8:i<8
    ·rw[gL (by simpa using hi8)] at hi
     obtain⟨v,p,q⟩:=h4 i a (by rw[gL (by simpa using hi8)]; exact hi)
     exact⟨v,p,q.mono hf.le⟩
    ·rw[gR (by simp; omega)] at hi
     have e8:i=8:=by
      have:=(gS.1 hi).1
      simp at this
      omega
     subst e8
     simp only[List.length_cons,List.length_nil,Nat.reduceAdd,Nat.sub_self,List.getElem?_cons_zero,sI] at hi
     subst hi
     obtain⟨v,p,q⟩:=h4 8 _ rfl
     exact⟨v,p,hfr Z Z2 h hf ho v q⟩
   ·have e9:y=9:=by
     have:=(gS.1 hy).1
     simp at this
     omega
    subst e9
    cases hy
    exact .inl ⟨rfl,rfl⟩
 ·have h8:y<8:=hy
  show(Bg 8++_)[y]?=(Bg 8++_)[y]?
  rw[gL (by simpa[Bg] using h8),gL (by simpa[Bg] using h8)]
 ·exact VRL.mono hf.le hv
def pOw:Prims:=pCl.addt 73 (M8 A0g fun x=>.br (E9 (SmlF x)) (.leaf (.agg x.av)) .fail)
theorem G3y{A:Amb}(hT:Tab A)(hG:gN prog<=A.G):PrimOK prog A pOw:=by
 have h0:=D7e hT hG
 have h2:=F6n hT hG
 refine PrimOK.addParB h0 hG A0g _ func73 (show f73.body=some (f73.body.getD .skip) by kernel_rfl) fun x v hv=>?_
 obtain⟨hz,hv⟩:=Tr.br1 hv
 cases hv
 have hz:=H6 hz
 have hl:=hz.l
 by_cases hn:x.l=[]
 ·have hb:BlkOK prog A (pCl.blk 73) (f73.body.getD .skip):=h0.blk 73 f73 (f73.body.getD .skip) func73 (show f73.body=some (f73.body.getD .skip) by kernel_rfl)
  have ex:x=(⟨x.s,x.k,x.a,x.x,x.y,x.z,x.lo,x.hi,[]⟩:Fea):=by cases x; simp only at hn; subst hn; rfl
  have hk:=G4s x
  rw[<- ex] at hk
  refine⟨.ret,⟨spOwB.rho [.s x.s,.i x.k,.i x.a,.i x.x,.i x.y,.i x.z,.i x.lo,.i x.hi,.n 0,.fr (A7 Frm.fv [])],spOwB.heap [.s x.s,.i x.k,.i x.a,.i x.x,.i x.y,.i x.z,.i x.lo,.i x.hi,.n 0,.fr (A7 Frm.fv [])],[]⟩,[.agg ([AV.sstr x.s,.sint .i64 x.k,.sint .i64 x.a,.sint .i64 x.x,.sint .i64 x.y,.sint .i64 x.z,.sint .i64 x.lo,.sint .i64 x.hi]++[.flist 0 (A7 Frm.fv []) 5])],?_,by simp,by kernel_rfl,rfl,rfl,fun Z y hy=>?_⟩
  ·rw[gsz]
   exact SEB.of_KP (e:=.ret) (sp:=fun _=>spOwB) (B0:=Bg 8) (ds:=[]) F7 F9 h0 hb rfl hk rfl
  ·rw[ex]; exact hy
 ·have hb:BlkOK prog A (pOw0.blk 73) (f73.body.getD .skip):=h2.blk 73 f73 (f73.body.getD .skip) func73 (show f73.body=some (f73.body.getD .skip) by kernel_rfl)
  have hk:=G4r x
  rw[C2e,dT (show x.l.length<2147483648 by omega),dT (List.length_pos_iff.2 hn),P5 (Inv:=C2w) (C2e x) hz] at hk
  refine⟨.ret,⟨spOwB.rho [.s x.s,.i x.k,.i x.a,.i x.x,.i x.y,.i x.z,.i x.lo,.i x.hi,.n x.l.length,.fr (A7 Frm.fv x.l)],spOwB.heap [.s x.s,.i x.k,.i x.a,.i x.x,.i x.y,.i x.z,.i x.lo,.i x.hi,.n x.l.length,.fr (A7 Frm.fv x.l)]++[.dead],[]⟩,[.agg x.av],?_,by simp,by kernel_rfl,rfl,rfl,fun Z y hy=>hy⟩
  rw[gsz]
  exact SEB.wk_out (SEB.of_KP (e:=.ret) (sp:=fun _=>spOwA) (B0:=Bg 8) (ds:=[]) F7 F9 h2 hb rfl hk rfl) (G3g x)
def C5p:Code:=I7 (J6 2 (f78.body.getD .skip))
def sp78b:SP:=⟨[.flist 5]++[.flist 5]++dr 2++[.is (.bool false)]++[.int .i64]++[.is (.ptr (some (8,0)))]++[.is (.ptr (some (9,0)))]++[.int .i64]++dr 72,dd8++[.cells [.sint .i64,.sbool,.sint .i64,.sint .i64,.flist 2] 0 true 115,.cells [.sint .i64,.sbool,.sint .i64,.sint .i64,.flist 2] 0 true 115]⟩
def C8n:AEx->SP
 | .exit 2=>⟨[.flist 5]++[.flist 5]++dr 2++[.is (.bool false)]++[.int .i64]++dr 75,dd8++[.cells [.sint .i64,.sbool,.sint .i64,.sint .i64,.flist 2] 0 true 115,.cells [.sint .i64,.sbool,.sint .i64,.sint .i64,.flist 2] 0 true 115]⟩
 | _=>sp78b
theorem F0u(l:List Frm)(x:Frm)(i n:Int):E8 prog (D5 prog pFw 60) (pFw.blk 78) C5p (sp78b.rho [.n l.length,.fr (A7 Frm.fv l),.n l.length,.fr (A7 Frm.fv l),.i i,.i n,.i x.k,.b x.d,.i x.t,.i x.m,.n x.l.length,.fr (A7 Dat.fv x.l),.i x.k,.b x.d,.i x.t,.i x.m,.n x.l.length,.fr (A7 Dat.fv x.l)]) (sp78b.heap [.n l.length,.fr (A7 Frm.fv l),.n l.length,.fr (A7 Frm.fv l),.i i,.i n,.i x.k,.b x.d,.i x.t,.i x.m,.n x.l.length,.fr (A7 Dat.fv x.l),.i x.k,.b x.d,.i x.t,.i x.m,.n x.l.length,.fr (A7 Dat.fv x.l)]) (H9 C8n 10 [8,9]) =
  brK (decide (n<(x.l.length:Int))) (brK (decide (0<=n/\n<(x.l.length:Int))) (brK (decide (0<=n/\n<(x.l.length:Int))) (brK (!((x.l.getD n.toNat default).s==(x.l.getD n.toNat default).s&&((x.l.getD n.toNat default).m==(x.l.getD n.toNat default).m&&true))) (some (.ret,[.n (l.length),.fr (A7 Frm.fv l),.n (l.length),.fr (A7 Frm.fv l),.i (i),.i (n),.i (x.k),.b (x.d),.i (x.t),.i (x.m),.n (x.l.length),.fr (A7 Dat.fv x.l),.i (x.k),.b (x.d),.i (x.t),.i (x.m),.n (x.l.length),.fr (A7 Dat.fv x.l)])) (some (.normal,[.n (l.length),.fr (A7 Frm.fv l),.n (l.length),.fr (A7 Frm.fv l),.i (i),.i (W (n+1)),.i (x.k),.b (x.d),.i (x.t),.i (x.m),.n (x.l.length),.fr (A7 Dat.fv x.l),.i (x.k),.b (x.d),.i (x.t),.i (x.m),.n (x.l.length),.fr (A7 Dat.fv x.l)]))) none) none) (some (.exit 2,[.n (l.length),.fr (A7 Frm.fv l),.n (l.length),.fr (A7 Frm.fv l),.i (i),.i (x.k),.b (x.d),.i (x.t),.i (x.m),.n (x.l.length),.fr (A7 Dat.fv x.l),.i (x.k),.b (x.d),.i (x.t),.i (x.m),.n (x.l.length),.fr (A7 Dat.fv x.l)])):=by kernel_rfl
def C3x(x:List Frm×Int×Frm)(n:Nat):List Lf:=[.n x.1.length,.fr (A7 Frm.fv x.1),.n x.1.length,.fr (A7 Frm.fv x.1),.i x.2.1,.i n,.i x.2.2.k,.b x.2.2.d,.i x.2.2.t,.i x.2.2.m,.n x.2.2.l.length,.fr (A7 Dat.fv x.2.2.l),.i x.2.2.k,.b x.2.2.d,.i x.2.2.t,.i x.2.2.m,.n x.2.2.l.length,.fr (A7 Dat.fv x.2.2.l)]
def A4g(x:List Frm×Int×Frm):List Lf:=C3x x 0
def E4g(_:List Lf)(x:List Frm×Int×Frm):List Lf:=[.n x.1.length,.fr (A7 Frm.fv x.1),.n x.1.length,.fr (A7 Frm.fv x.1),.i x.2.1,.i x.2.2.k,.b x.2.2.d,.i x.2.2.t,.i x.2.2.m,.n x.2.2.l.length,.fr (A7 Dat.fv x.2.2.l),.i x.2.2.k,.b x.2.2.d,.i x.2.2.t,.i x.2.2.m,.n x.2.2.l.length,.fr (A7 Dat.fv x.2.2.l)]
def F3b(x:List Frm×Int×Frm):Nat:=x.2.2.l.length
def D2b(x:List Frm×Int×Frm):Prop:=x.2.2.l.length<2^62
def A4x:List Lf->List Frm×Int×Frm
 | [.n m,.fr f,_,_,.i i,_,.i k,.b d,.i t,.i e,.n q,.fr g,_,_,_,_,_,_]=>(ofR Frm.fv m f,i,⟨k,d,t,e,ofR Dat.fv q g⟩)
 | _=>default
theorem F8r(x:List Frm×Int×Frm)(hx:D2b x)(n:Nat)(hn:n<=F3b x):E8 prog (D5 prog pFw 60) (pFw.blk 78) C5p (sp78b.rho (C3x x n)) (sp78b.heap (C3x x n)) (H9 C8n 10 [8,9])=some (if n<F3b x then(.normal,C3x x (n+1)) else(.exit 2,E4g (A4g x) x)):=by
 have h1:x.2.2.l.length<2^62:=hx
 have hn:n<=x.2.2.l.length:=hn
 simp only[C3x]
 rw[F0u,I5 hn (by omega)]
 simp only[tN,Nat.zero_add]
 by_cases h0:n<F3b x
 ·have h:n<x.2.2.l.length:=h0
  rw[if_pos h0]
  repeat first
   | exact rfl
   | refine A8 (by simp only[bA,dQ]; omega) ?_
   | refine C8 (by simp) ?_
 ·have h:¬ n<x.2.2.l.length:=h0
  rw[if_neg h0]
  exact C8 (by simp only[decide_eq_false_iff_not]; omega) rfl
theorem G2d{A:Amb}(x:List Frm×Int×Frm)(_hx:D2b x)(Bb:Heap)(hB:Bb.length=10):Wk A Bb ⟨sp78b.rho (A4g x),sp78b.heap (A4g x),[8,9]⟩ ⟨sp78b.rho (C3x x 0),sp78b.heap (C3x x 0),[8,9]⟩:=by
 have _:=hB
 exact Wk.refl
def G0i:Blk:=hookP sp78b 10 [8,9] (itT (C8n (.exit 2)) 2 (.exit 2) A4x A4g E4g D2b)
theorem E7i{A:Amb}{q:Prims}(h0:PrimOK prog A pFw)(hq:PrimOK prog A q):PrimOK prog A (q.addb 78 2 G0i) :=
 SEB.iterK (id:=2) (ds:=[8,9]) (dec:=A4x) (sp0:=sp78b) (sp:=sp78b) (sq:=C8n) (m:=10) (ee:=.exit 2) (L0:=A4g) (L:=C3x) (Le:=E4g) (N:=F3b) (Inv:=D2b) (k:=60) F7 F9 h0 hq func78 (show f78.body=some (f78.body.getD .skip) by kernel_rfl) (body:=C5p) (by kernel_rfl)
  rfl rfl rfl rfl (by simp) (fun _=>⟨.inr rfl,.inr rfl,.inr rfl,.inr rfl,.inr rfl,.inr rfl,.inr rfl,.inr rfl,.inl rfl,.inl rfl,trivial⟩) G2d F8r
theorem C2f(x:List Frm×Int×Frm):A4x (A4g x)=x:=by
 obtain⟨l,i,f⟩:=x
 simp[A4x,A4g,C3x,I1 Frm.inj,I1 Dat.inj]
def pSm1:Prims:=pFw.addb 78 2 G0i
theorem E0r{A:Amb}(hT:Tab A)(hG:gN prog<=A.G):PrimOK prog A pSm1:=E7i (C7e hT hG) (C7e hT hG)
def C9h(l:List Frm):Prop:=l.length<2^62/\∀ i,i<l.length->(l.getD i default).l.length<2^62
def C5o:Code:=I7 (J6 0 (f78.body.getD .skip))
def sp78a:SP:=⟨[.flist 5]++[.flist 5]++dr 2++[.is (.bool false)]++[.int .i64]++dr 75,dd8⟩
def C8m:AEx->SP
 | .exit 0=>⟨dr 4++[.is (.bool false)]++dr 76,dd8⟩
 | _=>sp78a
theorem F0t(l:List Frm)(n:Int):E8 prog (D5 prog pSm1 60) (pSm1.blk 78) C5o (sp78a.rho [.n l.length,.fr (A7 Frm.fv l),.n l.length,.fr (A7 Frm.fv l),.i n]) (sp78a.heap [.n l.length,.fr (A7 Frm.fv l),.n l.length,.fr (A7 Frm.fv l),.i n]) (H9 C8m 8 []) =
  brK (decide (n<(l.length:Int))) (brK (decide (0<=n/\n<(l.length:Int))) (brK (decide (0<=n/\n<(l.length:Int))) (brK ((l.getD n.toNat default).k != (l.getD n.toNat default).k) (some (.ret,[.n (l.length),.fr (A7 Frm.fv l),.n (l.length),.fr (A7 Frm.fv l),.i (n)])) (brK (!(l.getD n.toNat default).d==(l.getD n.toNat default).d) (some (.ret,[.n (l.length),.fr (A7 Frm.fv l),.n (l.length),.fr (A7 Frm.fv l),.i (n)])) (brK ((l.getD n.toNat default).t != (l.getD n.toNat default).t) (some (.ret,[.n (l.length),.fr (A7 Frm.fv l),.n (l.length),.fr (A7 Frm.fv l),.i (n)])) (brK ((l.getD n.toNat default).m != (l.getD n.toNat default).m) (some (.ret,[.n (l.length),.fr (A7 Frm.fv l),.n (l.length),.fr (A7 Frm.fv l),.i (n)])) (brK (((l.getD n.toNat default).l.length:Int) != ((l.getD n.toNat default).l.length:Int)) (some (.ret,[.n (l.length),.fr (A7 Frm.fv l),.n (l.length),.fr (A7 Frm.fv l),.i (n)])) (brK (itC A4g A4x D2b (A4g (l,n,l.getD n.toNat default))) (some (.normal,[.n ((A4x (A4g (l,n,l.getD n.toNat default))).fst.length),.fr (A7 Frm.fv (A4x (A4g (l,n,l.getD n.toNat default))).fst),.n ((A4x (A4g (l,n,l.getD n.toNat default))).fst.length),.fr (A7 Frm.fv (A4x (A4g (l,n,l.getD n.toNat default))).fst),.i (W ((A4x (A4g (l,n,l.getD n.toNat default))).snd.fst+1))])) none)))))) none) none) (some (.exit 0,[])):=by kernel_rfl
def C3w(x:List Frm)(n:Nat):List Lf:=[.n x.length,.fr (A7 Frm.fv x),.n x.length,.fr (A7 Frm.fv x),.i n]
def B1i(x:List Frm):List Lf:=C3w x 0
def E4f(_:List Lf)(x:List Frm):List Lf:=[]
def F3a(x:List Frm):Nat:=x.length
def D2a(x:List Frm):Prop:=C9h x
def B8h:List Lf->List Frm
 | [.n m,.fr f,_,_,_]=>ofR Frm.fv m f
 | _=>default
theorem F8q(x:List Frm)(hx:D2a x)(n:Nat)(hn:n<=F3a x):E8 prog (D5 prog pSm1 60) (pSm1.blk 78) C5o (sp78a.rho (C3w x n)) (sp78a.heap (C3w x n)) (H9 C8m 8 [])=some (if n<F3a x then(.normal,C3w x (n+1)) else(.exit 0,E4f (B1i x) x)):=by
 have hn:n<=x.length:=hn
 have hl:x.length<2^62:=hx.1
 simp only[C3w]
 rw[F0t]
 simp only[tN,C2f]
 rw[I5 hn (by omega)]
 by_cases h0:n<F3a x
 ·have h:n<x.length:=h0
  have hi:=hx.2 n h
  rw[if_pos h0]
  repeat first
   | exact rfl
   | refine A8 (P5 (x:=(x,((n:Nat):Int),x.getD n default)) (C2f (x,((n:Nat):Int),x.getD n default)) hi) ?_
   | refine A8 (by simp only[bA,dQ]; omega) ?_
   | refine C8 (by simp) ?_
 ·have h:¬ n<x.length:=h0
  rw[if_neg h0]
  exact C8 (by simp only[decide_eq_false_iff_not]; omega) rfl
theorem G2c{A:Amb}(x:List Frm)(_hx:D2a x)(Bb:Heap)(hB:Bb.length=8):Wk A Bb ⟨sp78a.rho (B1i x),sp78a.heap (B1i x),[]⟩ ⟨sp78a.rho (C3w x 0),sp78a.heap (C3w x 0),[]⟩:=by
 have _:=hB
 exact Wk.refl
def G0h:Blk:=hookP sp78a 8 [] (itT (C8m (.exit 0)) 0 (.exit 0) B8h B1i E4f D2a)
theorem E7h{A:Amb}{q:Prims}(h0:PrimOK prog A pSm1)(hq:PrimOK prog A q):PrimOK prog A (q.addb 78 0 G0h) :=
 SEB.iterK (id:=0) (ds:=[]) (dec:=B8h) (sp0:=sp78a) (sp:=sp78a) (sq:=C8m) (m:=8) (ee:=.exit 0) (L0:=B1i) (L:=C3w) (Le:=E4f) (N:=F3a) (Inv:=D2a) (k:=60) F7 F9 h0 hq func78 (show f78.body=some (f78.body.getD .skip) by kernel_rfl) (body:=C5o) (by kernel_rfl)
  rfl rfl rfl rfl (by simp) (fun _=>⟨.inr rfl,.inr rfl,.inr rfl,.inr rfl,.inr rfl,.inr rfl,.inr rfl,.inr rfl,trivial⟩) G2c F8q
theorem E2n(x:List Frm):B8h (B1i x)=x:=by simp[B8h,B1i,C3w,I1 Frm.inj]
def G3z:Prims:=pSm1.addb 78 0 G0h
theorem F6o{A:Amb}(hT:Tab A)(hG:gN prog<=A.G):PrimOK prog A G3z:=E7h (E0r hT hG) (E0r hT hG)
theorem G9z(l:List Frm):(D5 prog G3z 60).call 78 [B4o l,B4o l] (Bg 8) F8 =
  brK ((l.length:Int) != (l.length:Int)) (some (.bool false)) (brK (itC B1i B8h D2a (B1i l)) (some (.bool true)) none):=by kernel_rfl
theorem H2d(l:List Frm)(hl:C9h l):(D5 prog G3z 60).call 78 [B4o l,B4o l] (Bg 8) F8=some (.bool true):=by
 rw[G9z]
 exact C8 (by simp) (A8 (P5 (x:=l) (E2n l) hl) rfl)
def D2s:Par (List Frm×List Frm) where
 get:=fun | [a,b]=>(match A9g Frm.fv 5 a,A9g Frm.fv 5 b with | some (c,x),some (d,y)=>some (c&&d,(x,y)) | _,_=>none) | _=>none
 av:=fun x=>[B4o x.1,B4o x.2]
 ok:=by
  intro l x h Z vs hv
  split at h
  ·split at h
   ·rename_i h1 h2
    simp only[sI,pI,bA] at h
    obtain⟨⟨rfl,rfl⟩,rfl⟩:=h
    simp only[VRL] at hv ⊢
    obtain⟨y,r,e,q1,y2,r2,e2,q2,q3⟩:=hv
    exact⟨y,r,e,A1b h1 q1,y2,r2,e2,A1b h2 q2,q3⟩
   ·cases h
  ·cases h
 free:=fun _=>rfl
def C7i:Par (Fea×Fea) where
 get:=fun | [.agg l,.agg m]=>(match C1f l,C1f m with | some (a,x),some (b,y)=>some (a&&b,(x,y)) | _,_=>none) | _=>none
 av:=fun x=>[.agg x.1.av,.agg x.2.av]
 ok:=by
  intro l x h Z vs hv
  split at h
  ·split at h
   ·rename_i h1 h2
    simp only[sI,pI,bA] at h
    obtain⟨⟨rfl,rfl⟩,rfl⟩:=h
    simp only[VRL,VR] at hv ⊢
    obtain⟨y,r,e,⟨a,q1,q2⟩,y2,r2,e2,⟨a2,q4,q5⟩,q3⟩:=hv
    exact⟨y,r,e,⟨a,q1,B2e h1 q2⟩,y2,r2,e2,⟨a2,q4,B2e h2 q5⟩,q3⟩
   ·cases h
  ·cases h
 free:=fun _=>rfl
def VSf(x:List Frm×List Frm):Tr AV:=.br (E9 (x.1=x.2/\C9h x.1)) (.leaf (.bool true)) .fail
def VSm(x:Fea×Fea):Tr AV:=.br (E9 (x.1=x.2/\C9h x.1.l)) (.leaf (.bool true)) .fail
def G4a:Prims:=pFw.addt 78 (M8 D2s VSf)
theorem F6p{A:Amb}(hT:Tab A)(hG:gN prog<=A.G):PrimOK prog A G4a:=by
 refine H8 hG (F6o hT hG) (C7e hT hG) D2s VSf func78 (by kernel_rfl) fun x v hv=>?_
 obtain⟨x,y⟩:=x
 obtain⟨hz,hv⟩:=Tr.br1 hv
 cases hv
 obtain⟨h1,h2⟩:=H6 hz
 simp only at h1 h2
 subst h1
 exact⟨.bool true,H2d x h2,rfl,fun Z y hy=>hy⟩
theorem G9i(x:Fea):(D5 prog G4a 60).call 35 [.agg x.av,.agg x.av] (Bg 8) F8 =
  brK (x.s==x.s) (brK (x.k==x.k) (brK (x.a==x.a) (brK (x.x==x.x&&(x.y==x.y&&(x.z==x.z&&true))) (brK (x.lo==x.lo&&(x.hi==x.hi&&true)) (brK (E9 (okR Frm.fv x.l.length (A7 Frm.fv x.l))&&E9 (okR Frm.fv x.l.length (A7 Frm.fv x.l))) (brK (E9 (ofR Frm.fv x.l.length (A7 Frm.fv x.l)=ofR Frm.fv x.l.length (A7 Frm.fv x.l)/\C9h (ofR Frm.fv x.l.length (A7 Frm.fv x.l)))) (some (.bool true)) none) none) (some (.bool false))) (some (.bool false))) (some (.bool false))) (some (.bool false))) (some (.bool false)):=by kernel_rfl
theorem H1p(x:Fea)(hx:C9h x.l):∃ v,(D5 prog G4a 60).call 35 [.agg x.av,.agg x.av] (Bg 8) F8=some v/\A4e true v:=by
 rw[G9i]
 simp only[J8,I1 Frm.inj]
 refine⟨.bool true,?_,.inl rfl⟩
 repeat first
  | exact rfl
  | refine A8 rfl ?_
  | refine A8 (A9 ⟨trivial,hx⟩) ?_
  | refine A8 (by simp) ?_
theorem F7p{A:Amb}{q:Prims}(hT:Tab A)(hG:gN prog<=A.G)(hq:PrimOK prog A q):PrimOK prog A (q.addt 35 (M8 C7i VSm)):=by
 refine H8 hG (F6p hT hG) hq C7i VSm func35 (by kernel_rfl) fun x v hv=>?_
 obtain⟨x,y⟩:=x
 obtain⟨hz,hv⟩:=Tr.br1 hv
 cases hv
 obtain⟨h1,h2⟩:=H6 hz
 simp only at h1 h2
 subst h1
 obtain⟨v',h3,h4⟩:=H1p x h2
 exact⟨v',h3,Q3 h4,Z9 h4⟩
def B0h(d:Drw)(s:Txt):Fea:=if J4 d≠0 \/ D7 d s<0 then default else d.l.getD (D7 d s).toNat default
def zFa:List AV:=[.str [],.int .i64 0,.int .i64 0,.int .i64 0,.int .i64 0,.int .i64 0,.int .i64 0,.int .i64 0,.slice none 0 0]
def E7r(x:Fea)(e:Int)(v:AV):Prop:=F3 0 v=true/\∀ (Z:Emb) (y:Value),VR Z v y->VR Z (.tuple [.agg x.av,.sint .i64 e]) y
theorem B3q(e:Int):E7r default e (.tuple [.agg zFa,.sint .i64 e]):=⟨rfl,fun Z y hy=>by
 simp only[VR,VRL,zFa] at hy
 obtain⟨l,rfl,y1,l1,h1,⟨a,ha,h2⟩,h3⟩:=hy
 simp only[VR,VRL]
 refine⟨l,rfl,y1,l1,h1,⟨a,ha,?_⟩,h3⟩
 obtain⟨c0,r0,e0,h0,c1,r1,e1,h1,c2,r2,e2,h2,c3,r3,e3,h3,c4,r4,e4,h4,c5,r5,e5,h5,c6,r6,e6,h6,c7,r7,e7,h7,c8,r8,e8,h8,e9⟩:=h2
 obtain⟨_,_,h8⟩:=h8
 simp only[Fea.av,VRL,VR]
 refine⟨c0,r0,e0,h0,c1,r1,e1,h1,c2,r2,e2,h2,c3,r3,e3,h3,c4,r4,e4,h4,c5,r5,e5,h5,c6,r6,e6,h6,c7,r7,e7,h7,c8,r8,e8,?_,e9⟩
 subst h8
 simp[FVR,show(default:Fea).l=[] from rfl]⟩
theorem B8r(e:Int):E7r default e (.tuple [.agg zFa,.int .i64 e]):=⟨rfl,fun Z y hy=>(B3q e).2 Z y (by simpa only[VR,VRL] using hy)⟩
theorem E0a(x:Fea):E7r x 0 (.tuple [.agg x.av,.int .i64 0]):=⟨rfl,fun Z y hy=>by
 simp only[VR] at hy ⊢
 obtain⟨l,rfl,h⟩:=hy
 refine⟨l,rfl,?_⟩
 simp only[VRL,VR] at h ⊢
 exact h⟩
theorem G9d(d:Drw)(s:Txt):(D5 prog pOw 60).call 30 [.agg d.av,.sstr s] (Bg 8) F8 =
  brK (oD d) (brK (E9 (OkD (drE d))) (brK (J4 (drE d) != 0) (some (.tuple [.agg zFa,.sint IntKind.i64 (J4 (drE d)) ])) (brK (oD d) (brK (decide ((ofR Fea.fv d.l.length (A7 Fea.fv d.l)).length<4611686018427387904)) (brK (decide (D7 (drE d) s<0)) (some (.tuple [.agg zFa,.int .i64 6])) (brK (decide (0<=D7 (drE d) s/\D7 (drE d) s<(d.l.length:Int))) (brK (E9 (okR Frm.fv (d.l.getD (D7 (drE d) s).toNat default).l.length (A7 Frm.fv (d.l.getD (D7 (drE d) s).toNat default).l))) (brK (E9 (SmlF (feE (d.l.getD (D7 (drE d) s).toNat default)))) (some (.tuple [.agg (feE (d.l.getD (D7 (drE d) s).toNat default)).av,.int .i64 0])) none) none) none)) none) none)) none) none:=by kernel_rfl
theorem H1k(d:Drw)(s:Txt)(hk:OkD d):∃ v,(D5 prog pOw 60).call 30 [.agg d.av,.sstr s] (Bg 8) F8=some v/\E7r (B0h d s) (B2b d s) v:=by
 rw[G9d]
 simp only[A3r,J8,Bool.and_self,P8,I1 Fea.inj,A3o]
 unfold B0h B2b
 by_cases c:J4 d≠0
 ·rw[if_pos c,if_pos (.inl c)]
  exact exV (A8 rfl (A8 (A9 hk) (A8 (by simpa using c) rfl))) (B3q _)
 rw[if_neg c]
 have c':J4 d=0:=by omega
 have hl:=hk.len
 by_cases c2:D7 d s<0
 ·rw[if_pos c2,if_pos (.inr c2)]
  exact exV (A8 rfl (A8 (A9 hk) (C8 (by simpa using c') (A8 rfl (A8 (dT hl) (A8 (dT c2) rfl)))))) (B8r 6)
 rw[if_neg c2,if_neg (fun h=>h.elim c c2)]
 have hlt:=(X0 d s).1
 have hi:0<=D7 d s:=by omega
 have hs:SmlF (d.l.getD (D7 d s).toNat default):=(A8b c').sml _ (by omega)
 exact exV (A8 rfl (A8 (A9 hk) (C8 (by simpa using c') (A8 rfl (A8 (dT hl) (C8 (dF c2) (A8 (dT ⟨hi,hlt⟩) (A8 rfl (A8 (A9 hs) rfl))))))))) (E0a _)
theorem G9e(d:Drw)(s:Txt):(D5 prog pOw 60).call 31 [.agg d.av,.sstr s] (Bg 8) F8 =
  brK (oD d) (brK (E9 (OkD (drE d))) (brK (J4 (drE d) != 0) (some (.tuple [.agg zFa,.sint IntKind.i64 (J4 (drE d)) ])) (brK (oD d) (brK (decide ((ofR Fea.fv d.l.length (A7 Fea.fv d.l)).length<4611686018427387904)) (brK (decide (D7 (drE d) s<0)) (some (.tuple [.agg zFa,.int .i64 6])) (brK (decide (0<=D7 (drE d) s/\D7 (drE d) s<(d.l.length:Int))) (some (.tuple [.agg (Fea.av (d.l.getD (D7 (drE d) s).toNat default)),.int .i64 0])) none)) none) none)) none) none:=by kernel_rfl
theorem H1l(d:Drw)(s:Txt)(hk:OkD d):∃ v,(D5 prog pOw 60).call 31 [.agg d.av,.sstr s] (Bg 8) F8=some v/\E7r (B0h d s) (B2b d s) v:=by
 rw[G9e]
 simp only[A3r,J8,Bool.and_self,P8,I1 Fea.inj,A3o]
 unfold B0h B2b
 by_cases c:J4 d≠0
 ·rw[if_pos c,if_pos (.inl c)]
  exact exV (A8 rfl (A8 (A9 hk) (A8 (by simpa using c) rfl))) (B3q _)
 rw[if_neg c]
 have c':J4 d=0:=by omega
 have hl:=hk.len
 by_cases c2:D7 d s<0
 ·rw[if_pos c2,if_pos (.inr c2)]
  exact exV (A8 rfl (A8 (A9 hk) (C8 (by simpa using c') (A8 rfl (A8 (dT hl) (A8 (dT c2) rfl)))))) (B8r 6)
 rw[if_neg c2,if_neg (fun h=>h.elim c c2)]
 have hlt:=(X0 d s).1
 have hi:0<=D7 d s:=by omega
 exact exV (A8 rfl (A8 (A9 hk) (C8 (by simpa using c') (A8 rfl (A8 (dT hl) (C8 (dF c2) (A8 (dT ⟨hi,hlt⟩) rfl))))))) (E0a _)
def VFn(x:Drw×List UInt8):Tr AV:=.br (E9 (OkD x.1)) (.leaf (.tuple [.agg (B0h x.1 x.2).av,.sint .i64 (B2b x.1 x.2)])) .fail
def pFn:Prims:=((pOw.addt 30 (M8 A2p VFn)).addt 31 (M8 A2p VFn)).addt 35 (M8 C7i VSm)
theorem G3p{A:Amb}(hT:Tab A)(hG:gN prog<=A.G):PrimOK prog A pFn:=by
 have h0:=G3y hT hG
 refine F7p hT hG (H8 hG h0 (H8 hG h0 h0 A2p VFn func30 (by kernel_rfl) fun x v hv=>?_) A2p VFn func31 (by kernel_rfl) fun x v hv=>?_)
 ·obtain⟨hz,hv⟩:=Tr.br1 hv
  cases hv
  obtain⟨v',h1,h2,h3⟩:=H1k x.1 x.2 (H6 hz)
  exact⟨v',h1,h2,h3⟩
 ·obtain⟨hz,hv⟩:=Tr.br1 hv
  cases hv
  obtain⟨v',h1,h2,h3⟩:=H1l x.1 x.2 (H6 hz)
  exact⟨v',h1,h2,h3⟩
theorem E5u(d:Drw)(s:Txt):C9h (B0h d s).l:=by
 unfold B0h
 split
 ·exact⟨by decide,fun i hi=>absurd hi (by simp[show(default:Fea).l=[] from rfl])⟩
 ·rename_i h
  have c:J4 d=0:=by
   by_cases c:J4 d=0
   ·exact c
   ·exact absurd (.inl c) h
  have c2:¬ D7 d s<0:=fun c2=>h (.inr c2)
  have hlt:=(X0 d s).1
  have hs:SmlF (d.l.getD (D7 d s).toNat default):=(A8b c).sml _ (by omega)
  exact⟨by have:=hs.l; omega,fun i hi=>by have:=hs.d i hi; simp only[F4] at this; omega⟩
def pLf:Prims:=pFn.addt 10 G2w
theorem G3t{A:Amb}(hT:Tab A)(hG:gN prog<=A.G)(hM:Mx A):PrimOK prog A pLf:=G1l hT hG hM (G3p hT hG)
theorem E5f (d : Drw) (s : Txt) : (A7u d s).length <= 64 := by
  unfold A7u
  split
  · simp
  · rename_i h
    have c : J4 d = 0 := by
      by_cases c : J4 d = 0
      · exact c
      · exact absurd (.inl c) h
    exact B0n (A8b c) (G7e.1 (by have : ¬ D7 d s < 0 := (fun c2 => h (.inr c2)); omega))
theorem tree7(d:Drw)(s t:Txt)(a:Int):(D5 prog pLf 60).call 7 [.agg d.av,.agg [.sstr s,.sstr t],.sint .i64 a] (Bg 8) D1n =
  brK (oD d) (brK (!C1g (drE d)) (some ()) (brK (decide (((List.length s):Int)>60)) (some ()) (brK (decide (((List.length t):Int)>60)) (some ()) (brK (oD d) (brK (E9 (OkD (drE d))) (brK (oD d) (brK (E9 (OkD (drE d))) (brK (oD d) (brK (E9 (OkD (drE d))) (brK (oD d) (brK (E9 (OkD (drE d))) (brK (oD d) (brK (E9 (OkD (drE d))) (brK (oD d) (brK (E9 (OkD (drE d))) (brK (E9 (okR Frm.fv (B0h (drE d) s).l.length (A7 Frm.fv (B0h (drE d) s).l))&&E9 (okR Frm.fv (B0h (drE d) s).l.length (A7 Frm.fv (B0h (drE d) s).l))) (brK (E9 ((feE (B0h (drE d) s))=(feE (B0h (drE d) s))/\C9h (ofR Frm.fv (B0h (drE d) s).l.length (A7 Frm.fv (B0h (drE d) s).l)))) (brK (B2b (drE d) s==B2b (drE d) s) (brK (E9 (okR txF (A7u (drE d) s).length (A7 txF (A7u (drE d) s)))&&E9 (okR txF (A7u (drE d) s).length (A7 txF (A7u (drE d) s)))) (brK (decide ((ofR txF (A7u (drE d) s).length (A7 txF (A7u (drE d) s))).length<4611686018427387904)) (brK (decide (ofR txF (A7u (drE d) s).length (A7 txF (A7u (drE d) s))=ofR txF (A7u (drE d) s).length (A7 txF (A7u (drE d) s)))) (brK (B2b (drE d) s==B2b (drE d) s) (brK ((C1k (drE d) s t a).fst==(C1k (drE d) s t a).fst) (brK ((C1k (drE d) s t a).snd==(C1k (drE d) s t a).snd) (some ()) none) none) none) none) none) none) none) none) none) none) none) none) none) none) none) none) none) none) none) none) none)))) none:=by kernel_rfl
theorem H1a(d:Drw)(s t:Txt)(a:Int):(D5 prog pLf 60).call 7 [.agg d.av,.agg [.sstr s,.sstr t],.sint .i64 a] (Bg 8) D1n=some ():=by
 rw[tree7]
 simp only[A3r,J8,Bool.and_self,P8,A3o,I1 Frm.inj,I1 U4]
 cases h:C1g d with
 | false=>exact A8 rfl (A8 rfl rfl)
 | true =>
  have hk:=E0o h
  have hl:=E5f d s
  have hf:=E5u d s
  by_cases c1:(s.length:Int)>60
  ·exact A8 rfl (C8 rfl (A8 (dT c1) rfl))
  by_cases c2:(t.length:Int)>60
  ·exact A8 rfl (C8 rfl (C8 (dF c1) (A8 (dT c2) rfl)))
  refine A8 rfl (C8 rfl (C8 (dF c1) (C8 (dF c2) ?_)))
  repeat first
   | exact rfl
   | refine A8 rfl ?_
   | refine A8 (A9 hk) ?_
   | refine A8 (A9 ⟨trivial,hf⟩) ?_
   | refine A8 (dT (by omega)) ?_
   | refine A8 (by simp) ?_
theorem drawingFinds(d:Drw)(s t:Txt)(a:Int)(v u:Value)(W:World)(hG:gN prog<=W.heap.size)(hT:Tab (ambOf W))(hM:Mx (ambOf W))(hv:VR (A2o 8 (fzW W)) (.agg d.av) v)(hu:VR (A2o 8 (fzW W)) (.agg [.sstr s,.sstr t]) u) :
  Calls prog 7 #[v,u,.int .i64 a] W fun e W'=>e=.returned (.bool true)/\RowKit.Below W.heap.size W W' :=
 E8f F7 F9 (G3t hT hG hM) hG (n:=60) (args:=[.agg d.av,.agg [.sstr s,.sstr t],.sint .i64 a]) (by rw[gsz]; exact H1a d s t a) #[v,u,.int .i64 a] (by rw[gsz]; simp only[VRL]; exact⟨v,_,rfl,hv,u,_,rfl,hu,_,[],rfl,by simp only[VR],rfl⟩)
end Go.Proofs.Tryz
namespace Go.Proofs.Tryz
open Go.Ad Go.Deep Go.ChangeShapes
section
variable {H:Type} {enc:TypeId×Value->H} {W:World}
set_option maxRecDepth 100000 in
theorem open_two{v:Value}{d:DataW H}{ps:List MemPlace}(h:DataW.Trod enc prog W 0 (fun _=>true) true 60 v d ps):∃ s t:List UInt8,∀ Z:Emb,VR Z (.agg [.sstr s,.sstr t]) v:=by
 obtain⟨fuel,hf⟩:=h
 obtain⟨xs,k,hk,hxy,hlen,hxl,hfd⟩:=DataW.trod_array underlying60 hf
 have hc:v.cells.toList.length=2:=by rw[hlen]; kernel_rfl
 obtain⟨a,rfl⟩:∃ a,v=.agg a:=by
  cases v with
  | agg a=>exact⟨a,rfl⟩
  | _=>simp[Value.cells] at hc
 simp only[Value.cells] at hc hfd
 obtain⟨cs,hcs⟩:∃ cs,cs=a.toList:=⟨_,rfl⟩
 rw[<- hcs] at hc hfd
 match xs,hxl,cs,hc,hcs with
 | [y0,y1],_,[v0,v1],_,hcs =>
  have g0:=hfd 0 (by omega)
  have g1:=hfd 1 (by omega)
  simp[show prog.cellsOf 9=1 by kernel_rfl] at g0 g1
  obtain⟨b0,q0,_,_⟩:=DataW.trod_string underlying9 g0
  obtain⟨b1,q1,_,_⟩:=DataW.trod_string underlying9 g1
  simp at q0 q1
  subst q0 q1
  refine⟨b0.data.toList,b1.data.toList,fun Z=>?_⟩
  simp only[VR]
  refine⟨a,rfl,?_⟩
  rw[<- hcs]
  simp only[VRL]
  exact⟨_,_,rfl,by simp only[VR]; exact⟨b0,rfl,rfl⟩,_,_,rfl,by simp only[VR]; exact⟨b1,rfl,rfl⟩,rfl⟩
end
end Go.Proofs.Tryz
