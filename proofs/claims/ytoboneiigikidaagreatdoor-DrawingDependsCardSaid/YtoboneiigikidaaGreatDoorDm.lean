/- Drawings: dimensions. -/
import Derived.Test.YtoboneiigikidaaGreatDoorDs
import Derived.Test.YtoboneiigikidaaGreatDoorAdFind
import Derived.Test.YtoboneiigikidaaGreatDoorShelf
noncomputable section
namespace Go.Proofs.Tryz
open Go.Ad
def gDm(d:Drw)(n:Nat):Int:=if V3 (K8 d n)≠0 then V3 (K8 d n) else if n>0/\A7l (K8 d (n-1)) (K8 d n)=false then 9
 else if(X4 d (K8 d n).f (K8 d n).t (K8 d n).a).2≠0 then(X4 d (K8 d n).f (K8 d n).t (K8 d n).a).2 else if(X4 d (K8 d n).f (K8 d n).t (K8 d n).a).1<(K8 d n).lo \/ (X4 d (K8 d n).f (K8 d n).t (K8 d n).a).1>(K8 d n).hi then 16 else 0
theorem G5u(y:Dim):(⟨y.f,y.t,y.a,y.lo,y.hi⟩:Dim)=y:=rfl
theorem E9{x:Dim}(h:V3 x=0):0<=x.a/\x.a<3:=by
 refine Classical.byContradiction fun hn=>?_
 unfold V3 at h
 split at h
 ·omega
 ·split at h
  ·omega
  ·split at h
   ·omega
   ·rw[if_pos (by omega)] at h; omega
def D5b:Code:=I7 (J8 0 (f46.body.getD .skip))
def sp46:SP:=⟨dr 1++[.is (.ptr (some (8,0)))]++dr 11++[.flist 5]++[.int .i64]++[.int .i64]++dr 49,dd8++[.any]⟩
def E1l:AEx->SP
 | .ret=>⟨dr 2++[.int .i64]++dr 62,dd8++[.any]⟩
 | .exit 0=>⟨dr 65,dd8++[.any]⟩
 | _=>sp46
theorem F7g(d:Drw)(n:Int):F3 prog (D6 prog pDt 60) (pDt.blk 46) D5b (sp46.rho [.n d.m.length,.fr (A7 Dim.fv d.m),.i d.m.length,.i n,.o (A9 d)]) (sp46.heap [.n d.m.length,.fr (A7 Dim.fv d.m),.i d.m.length,.i n,.o (A9 d)]) (I1 E1l 9 []) =
  brK (decide (n<(d.m.length:Int))) (brK (decide (0<=n/\n<(d.m.length:Int))) (brK (I8 (d.m.getD n.toNat default).f&&I8 (d.m.getD n.toNat default).t) (brK (V3 { f:=(d.m.getD n.toNat default).f,t:=(d.m.getD n.toNat default).t,a:=(d.m.getD n.toNat default).a,lo:=(d.m.getD n.toNat default).lo,hi:=(d.m.getD n.toNat default).hi } != 0) (some (.ret,[.i (V3 { f:=(d.m.getD n.toNat default).f,t:=(d.m.getD n.toNat default).t,a:=(d.m.getD n.toNat default).a,lo:=(d.m.getD n.toNat default).lo,hi:=(d.m.getD n.toNat default).hi }),.o (A9 d)])) (brK (decide (n>0)) (brK (decide (0<=W (n-1)/\W (n-1)<(d.m.length:Int))) (brK (decide (B0z { f:=(d.m.getD (W (n-1)).toNat default).f,t:=(d.m.getD (W (n-1)).toNat default).t,a:=(d.m.getD (W (n-1)).toNat default).a,lo:=(d.m.getD (W (n-1)).toNat default).lo,hi:=(d.m.getD (W (n-1)).toNat default).hi } { f:=(d.m.getD n.toNat default).f,t:=(d.m.getD n.toNat default).t,a:=(d.m.getD n.toNat default).a,lo:=(d.m.getD n.toNat default).lo,hi:=(d.m.getD n.toNat default).hi } >= 0)) (some (.ret,[.i (9),.o (A9 d)])) (brK (D8 (okR Fea.fv d.l.length (A7 Fea.fv d.l))&&D8 (okR Dim.fv d.m.length (A7 Dim.fv d.m))) (brK (D8 (RightD (drE d)/\0<=(d.m.getD n.toNat default).a/\(d.m.getD n.toNat default).a<3)) (brK ((X4 (drE d) (d.m.getD n.toNat default).f (d.m.getD n.toNat default).t (d.m.getD n.toNat default).a).snd != 0) (some (.ret,[.i ((X4 (drE d) (d.m.getD n.toNat default).f (d.m.getD n.toNat default).t (d.m.getD n.toNat default).a).snd),.o (A9 d)])) (brK (decide ((X4 (drE d) (d.m.getD n.toNat default).f (d.m.getD n.toNat default).t (d.m.getD n.toNat default).a).fst<(d.m.getD n.toNat default).lo)) (some (.ret,[.i (16),.o (A9 d)])) (brK (decide ((X4 (drE d) (d.m.getD n.toNat default).f (d.m.getD n.toNat default).t (d.m.getD n.toNat default).a).fst>(d.m.getD n.toNat default).hi)) (some (.ret,[.i (16),.o (A9 d)])) (some (.normal,[.n (d.m.length),.fr (A7 Dim.fv d.m),.i ((d.m.length:Int)),.i (W (n+1)),.o (A9 d)]))))) none) none)) none) (brK (D8 (okR Fea.fv d.l.length (A7 Fea.fv d.l))&&D8 (okR Dim.fv d.m.length (A7 Dim.fv d.m))) (brK (D8 (RightD (drE d)/\0<=(d.m.getD n.toNat default).a/\(d.m.getD n.toNat default).a<3)) (brK ((X4 (drE d) (d.m.getD n.toNat default).f (d.m.getD n.toNat default).t (d.m.getD n.toNat default).a).snd != 0) (some (.ret,[.i ((X4 (drE d) (d.m.getD n.toNat default).f (d.m.getD n.toNat default).t (d.m.getD n.toNat default).a).snd),.o (A9 d)])) (brK (decide ((X4 (drE d) (d.m.getD n.toNat default).f (d.m.getD n.toNat default).t (d.m.getD n.toNat default).a).fst<(d.m.getD n.toNat default).lo)) (some (.ret,[.i (16),.o (A9 d)])) (brK (decide ((X4 (drE d) (d.m.getD n.toNat default).f (d.m.getD n.toNat default).t (d.m.getD n.toNat default).a).fst>(d.m.getD n.toNat default).hi)) (some (.ret,[.i (16),.o (A9 d)])) (some (.normal,[.n (d.m.length),.fr (A7 Dim.fv d.m),.i ((d.m.length:Int)),.i (W (n+1)),.o (A9 d)]))))) none) none))) none) none) (some (.exit 0,[.o (A9 d)])):=by kernel_rfl
def L46(x:Drw)(n:Nat):List Lf:=[.n x.m.length,.fr (A7 Dim.fv x.m),.i x.m.length,.i n,.o (A9 x)]
def B5j:List Lf->Nat->List Lf
 | [_,_,_,_,.o o],n=>[.i (gDm (I4 o) n),.o o]
 | _,_=>[]
def F2s:List Lf->List Lf
 | [_,_,_,_,o]=>[o]
 | _=>[]
def N46(x:Drw):Nat:=x.m.length
def p46(x:Drw)(n:Nat):Bool:=decide (gDm x n=0)
def E7y(x:Drw):Prop:=RightD x
def B2b:List Lf->Drw
 | [_,_,_,_,.o o]=>I4 o
 | _=>default
theorem G4x(x:Drw)(hx:E7y x)(n:Nat)(hn:n<=N46 x):F3 prog (D6 prog pDt 60) (pDt.blk 46) D5b (sp46.rho (L46 x n)) (sp46.heap (L46 x n)) (I1 E1l 9 [])=some (if n<N46 x then(bif p46 x n then(.normal,L46 x (n+1)) else(.ret,B5j (L46 x 0) n)) else(.exit 0,F2s (L46 x 0))):=by
 have h1:RightD x:=hx
 simp only[L46,F2s]
 rw[F7g,I6 hn h1.ok.dim]
 simp only[tN,K5,Bool.and_self,V9,G5u]
 by_cases h:n<N46 x
 ·rw[if_pos h]
  simp only[N46] at h
  have hz:(I8 (x.m.getD n default).f&&I8 (x.m.getD n default).t)=true:=by
   have:=h1.ok.dsz n h
   rw[bA]
   exact this
  have hm:=h1.ok.dim
  by_cases h0:n=0
  ·have e0:¬ (n:Int)>0:=by omega
   by_cases c1:V3 (x.m.getD n default)≠0
   ·skip
    have hg:gDm x n=V3 (x.m.getD n default):=by
     unfold gDm
     dsimp only [K8]
     repeat first
      | exact rfl
      | omega
      | refine J3 (by omega) ?_
      | refine H5 (by omega) ?_
      | refine H5 (fun h=>by omega) ?_
    have hp:p46 x n=false:=by unfold p46; rw[hg]; simpa using c1
    rw[hp,cond_false]
    simp only[B5j,E8,hg]
    repeat first
     | exact rfl
     | refine A8 rfl ?_
     | refine C8 rfl ?_
     | refine A8 (by simp only[SBs]; omega) ?_
     | refine C8 (by simp only[SBs]; omega) ?_
     | refine A8 hz ?_
     | refine A8 (D5 ⟨h1,(E9 (by omega)).1,(E9 (by omega)).2⟩) ?_
   by_cases c3:(X4 x (x.m.getD n default).f (x.m.getD n default).t (x.m.getD n default).a).2≠0
   ·skip
    have hg:gDm x n=(X4 x (x.m.getD n default).f (x.m.getD n default).t (x.m.getD n default).a).2:=by
     unfold gDm
     dsimp only [K8]
     repeat first
      | exact rfl
      | omega
      | refine J3 (by omega) ?_
      | refine H5 (by omega) ?_
      | refine H5 (fun h=>by omega) ?_
    have hp:p46 x n=false:=by unfold p46; rw[hg]; simpa using c3
    rw[hp,cond_false]
    simp only[B5j,E8,hg]
    repeat first
     | exact rfl
     | refine A8 rfl ?_
     | refine C8 rfl ?_
     | refine A8 (by simp only[SBs]; omega) ?_
     | refine C8 (by simp only[SBs]; omega) ?_
     | refine A8 hz ?_
     | refine A8 (D5 ⟨h1,(E9 (by omega)).1,(E9 (by omega)).2⟩) ?_
   by_cases c4:(X4 x (x.m.getD n default).f (x.m.getD n default).t (x.m.getD n default).a).1<(x.m.getD n default).lo
   ·skip
    have hg:gDm x n=16:=by
     unfold gDm
     dsimp only [K8]
     repeat first
      | exact rfl
      | omega
      | refine J3 (by omega) ?_
      | refine H5 (by omega) ?_
      | refine H5 (fun h=>by omega) ?_
    have hp:p46 x n=false:=by unfold p46; rw[hg]; rfl
    rw[hp,cond_false]
    simp only[B5j,E8,hg]
    repeat first
     | exact rfl
     | refine A8 rfl ?_
     | refine C8 rfl ?_
     | refine A8 (by simp only[SBs]; omega) ?_
     | refine C8 (by simp only[SBs]; omega) ?_
     | refine A8 hz ?_
     | refine A8 (D5 ⟨h1,(E9 (by omega)).1,(E9 (by omega)).2⟩) ?_
   by_cases c5:(X4 x (x.m.getD n default).f (x.m.getD n default).t (x.m.getD n default).a).1>(x.m.getD n default).hi
   ·skip
    have hg:gDm x n=16:=by
     unfold gDm
     dsimp only [K8]
     repeat first
      | exact rfl
      | omega
      | refine J3 (by omega) ?_
      | refine H5 (by omega) ?_
      | refine H5 (fun h=>by omega) ?_
    have hp:p46 x n=false:=by unfold p46; rw[hg]; rfl
    rw[hp,cond_false]
    simp only[B5j,E8,hg]
    repeat first
     | exact rfl
     | refine A8 rfl ?_
     | refine C8 rfl ?_
     | refine A8 (by simp only[SBs]; omega) ?_
     | refine C8 (by simp only[SBs]; omega) ?_
     | refine A8 hz ?_
     | refine A8 (D5 ⟨h1,(E9 (by omega)).1,(E9 (by omega)).2⟩) ?_
   have hg:gDm x n=0:=by
    unfold gDm
    dsimp only [K8]
    repeat first
     | exact rfl
     | omega
     | refine J3 (by omega) ?_
     | refine H5 (by omega) ?_
     | refine H5 (fun h=>by omega) ?_
   have hp:p46 x n=true:=by unfold p46; rw[hg]; rfl
   rw[hp,cond_true]
   repeat first
    | exact rfl
    | refine A8 rfl ?_
    | refine C8 rfl ?_
    | refine A8 (by simp only[SBs]; omega) ?_
    | refine C8 (by simp only[SBs]; omega) ?_
    | refine A8 hz ?_
    | refine A8 (D5 ⟨h1,(E9 (by omega)).1,(E9 (by omega)).2⟩) ?_
  have e1:W ((n:Int)-1)=((n-1:Nat):Int):=by rw[D4b (by omega) (by omega)]; omega
  rw[e1]
  simp only[tN]
  by_cases c1:V3 (x.m.getD n default)≠0
  ·skip
   have hg:gDm x n=V3 (x.m.getD n default):=by
    unfold gDm
    dsimp only [K8]
    repeat first
     | exact rfl
     | omega
     | refine J3 (by omega) ?_
     | refine H5 (by omega) ?_
     | refine J3 ⟨by omega,c2⟩ ?_
     | refine H5 (fun h=>c2 h.2) ?_
     | refine H5 (fun h=>by omega) ?_
   have hp:p46 x n=false:=by unfold p46; rw[hg]; simpa using c1
   rw[hp,cond_false]
   simp only[B5j,E8,hg]
   repeat first
    | exact rfl
    | refine A8 rfl ?_
    | refine C8 rfl ?_
    | refine A8 (by simp only[SBs]; omega) ?_
    | refine C8 (by simp only[SBs]; omega) ?_
    | refine A8 hz ?_
    | refine A8 (D5 ⟨h1,(E9 (by omega)).1,(E9 (by omega)).2⟩) ?_
    | refine A8 (dT ((M6 _ _).2 c2)) ?_
    | refine C8 (dF fun h=>c2 ((M6 _ _).1 h)) ?_
    | refine A8 (notT c2) ?_
    | refine C8 (A9r c2) ?_
  by_cases c2:A7l (x.m.getD (n-1) default) (x.m.getD n default)=false
  ·skip
   have hg:gDm x n=9:=by
    unfold gDm
    dsimp only [K8]
    repeat first
     | exact rfl
     | omega
     | refine J3 (by omega) ?_
     | refine H5 (by omega) ?_
     | refine J3 ⟨by omega,c2⟩ ?_
     | refine H5 (fun h=>c2 h.2) ?_
     | refine H5 (fun h=>by omega) ?_
   have hp:p46 x n=false:=by unfold p46; rw[hg]; rfl
   rw[hp,cond_false]
   simp only[B5j,E8,hg]
   repeat first
    | exact rfl
    | refine A8 rfl ?_
    | refine C8 rfl ?_
    | refine A8 (by simp only[SBs]; omega) ?_
    | refine C8 (by simp only[SBs]; omega) ?_
    | refine A8 hz ?_
    | refine A8 (D5 ⟨h1,(E9 (by omega)).1,(E9 (by omega)).2⟩) ?_
    | refine A8 (dT ((M6 _ _).2 c2)) ?_
    | refine C8 (dF fun h=>c2 ((M6 _ _).1 h)) ?_
    | refine A8 (notT c2) ?_
    | refine C8 (A9r c2) ?_
  by_cases c3:(X4 x (x.m.getD n default).f (x.m.getD n default).t (x.m.getD n default).a).2≠0
  ·skip
   have hg:gDm x n=(X4 x (x.m.getD n default).f (x.m.getD n default).t (x.m.getD n default).a).2:=by
    unfold gDm
    dsimp only [K8]
    repeat first
     | exact rfl
     | omega
     | refine J3 (by omega) ?_
     | refine H5 (by omega) ?_
     | refine J3 ⟨by omega,c2⟩ ?_
     | refine H5 (fun h=>c2 h.2) ?_
     | refine H5 (fun h=>by omega) ?_
   have hp:p46 x n=false:=by unfold p46; rw[hg]; simpa using c3
   rw[hp,cond_false]
   simp only[B5j,E8,hg]
   repeat first
    | exact rfl
    | refine A8 rfl ?_
    | refine C8 rfl ?_
    | refine A8 (by simp only[SBs]; omega) ?_
    | refine C8 (by simp only[SBs]; omega) ?_
    | refine A8 hz ?_
    | refine A8 (D5 ⟨h1,(E9 (by omega)).1,(E9 (by omega)).2⟩) ?_
    | refine A8 (dT ((M6 _ _).2 c2)) ?_
    | refine C8 (dF fun h=>c2 ((M6 _ _).1 h)) ?_
    | refine A8 (notT c2) ?_
    | refine C8 (A9r c2) ?_
  by_cases c4:(X4 x (x.m.getD n default).f (x.m.getD n default).t (x.m.getD n default).a).1<(x.m.getD n default).lo
  ·skip
   have hg:gDm x n=16:=by
    unfold gDm
    dsimp only [K8]
    repeat first
     | exact rfl
     | omega
     | refine J3 (by omega) ?_
     | refine H5 (by omega) ?_
     | refine J3 ⟨by omega,c2⟩ ?_
     | refine H5 (fun h=>c2 h.2) ?_
     | refine H5 (fun h=>by omega) ?_
   have hp:p46 x n=false:=by unfold p46; rw[hg]; rfl
   rw[hp,cond_false]
   simp only[B5j,E8,hg]
   repeat first
    | exact rfl
    | refine A8 rfl ?_
    | refine C8 rfl ?_
    | refine A8 (by simp only[SBs]; omega) ?_
    | refine C8 (by simp only[SBs]; omega) ?_
    | refine A8 hz ?_
    | refine A8 (D5 ⟨h1,(E9 (by omega)).1,(E9 (by omega)).2⟩) ?_
    | refine A8 (dT ((M6 _ _).2 c2)) ?_
    | refine C8 (dF fun h=>c2 ((M6 _ _).1 h)) ?_
    | refine A8 (notT c2) ?_
    | refine C8 (A9r c2) ?_
  by_cases c5:(X4 x (x.m.getD n default).f (x.m.getD n default).t (x.m.getD n default).a).1>(x.m.getD n default).hi
  ·skip
   have hg:gDm x n=16:=by
    unfold gDm
    dsimp only [K8]
    repeat first
     | exact rfl
     | omega
     | refine J3 (by omega) ?_
     | refine H5 (by omega) ?_
     | refine J3 ⟨by omega,c2⟩ ?_
     | refine H5 (fun h=>c2 h.2) ?_
     | refine H5 (fun h=>by omega) ?_
   have hp:p46 x n=false:=by unfold p46; rw[hg]; rfl
   rw[hp,cond_false]
   simp only[B5j,E8,hg]
   repeat first
    | exact rfl
    | refine A8 rfl ?_
    | refine C8 rfl ?_
    | refine A8 (by simp only[SBs]; omega) ?_
    | refine C8 (by simp only[SBs]; omega) ?_
    | refine A8 hz ?_
    | refine A8 (D5 ⟨h1,(E9 (by omega)).1,(E9 (by omega)).2⟩) ?_
    | refine A8 (dT ((M6 _ _).2 c2)) ?_
    | refine C8 (dF fun h=>c2 ((M6 _ _).1 h)) ?_
    | refine A8 (notT c2) ?_
    | refine C8 (A9r c2) ?_
  have hg:gDm x n=0:=by
   unfold gDm
   dsimp only [K8]
   repeat first
    | exact rfl
    | omega
    | refine J3 (by omega) ?_
    | refine H5 (by omega) ?_
    | refine H5 (fun h=>c2 h.2) ?_
    | refine H5 (fun h=>by omega) ?_
  have hp:p46 x n=true:=by unfold p46; rw[hg]; rfl
  rw[hp,cond_true]
  repeat first
   | exact rfl
   | refine A8 rfl ?_
   | refine C8 rfl ?_
   | refine A8 (by simp only[SBs]; omega) ?_
   | refine C8 (by simp only[SBs]; omega) ?_
   | refine A8 hz ?_
   | refine A8 (D5 ⟨h1,(E9 (by omega)).1,(E9 (by omega)).2⟩) ?_
   | refine A8 (dT ((M6 _ _).2 c2)) ?_
   | refine C8 (dF fun h=>c2 ((M6 _ _).1 h)) ?_
   | refine A8 (notT c2) ?_
   | refine C8 (A9r c2) ?_
 ·rw[if_neg h]
  simp only[N46] at h
  refine C8 (dF (by omega)) ?_
  rfl
def G6m:Blk:=hookP sp46 9 [] (fdT E1l 0 .ret (.exit 0) B2b L46 B5j F2s N46 p46 E7y)
theorem F4w{A:Amb}{q:Prims}(h0:PrimOK prog A pDt)(hq:PrimOK prog A q):PrimOK prog A (q.addb 46 0 G6m) :=
 SEB.findR (id:=0) (ds:=[]) (dec:=B2b) (sp:=sp46) (sq:=E1l) (m:=9) (eb:=.ret) (ee:=.exit 0) (L:=L46) (Lb:=B5j) (Le:=F2s) (N:=N46) (p:=p46) (Inv:=E7y) (k:=60) F8 G5 h0 hq func46 (show f46.body=some (f46.body.getD .skip) by kernel_rfl) (body:=D5b) (by kernel_rfl)
  rfl rfl rfl rfl (by simp) (by simp) (fun _ _=>⟨⟨.inr rfl,.inr rfl,.inr rfl,.inr rfl,.inr rfl,.inr rfl,.inr rfl,.inr rfl,.inr rfl,trivial⟩,⟨.inr rfl,.inr rfl,.inr rfl,.inr rfl,.inr rfl,.inr rfl,.inr rfl,.inr rfl,.inr rfl,trivial⟩⟩) G4x
def D5f:Code:=I7 (J8 0 (f52.body.getD .skip))
def sp52:SP:=⟨dr 1++[.is (.ptr (some (8,0)))]++dr 1++[.int .i64]++dr 57,dd8++[.any]⟩
def E1p:AEx->SP
 | .ret=>⟨dr 2++[.int .i64]++dr 58,dd8++[.any]⟩
 | .exit 0=>⟨dr 61,dd8++[.any]⟩
 | _=>sp52
theorem F7k(d:Drw)(n:Int):F3 prog (D6 prog pDt 60) (pDt.blk 52) D5f (sp52.rho [.i n,.o (A9 d)]) (sp52.heap [.i n,.o (A9 d)]) (I1 E1p 9 []) =
  brK (decide (n<(d.m.length:Int))) (brK (decide (0<=n/\n<(d.m.length:Int))) (brK (I8 (d.m.getD n.toNat default).f&&I8 (d.m.getD n.toNat default).t) (brK (V3 { f:=(d.m.getD n.toNat default).f,t:=(d.m.getD n.toNat default).t,a:=(d.m.getD n.toNat default).a,lo:=(d.m.getD n.toNat default).lo,hi:=(d.m.getD n.toNat default).hi } != 0) (some (.ret,[.i (V3 { f:=(d.m.getD n.toNat default).f,t:=(d.m.getD n.toNat default).t,a:=(d.m.getD n.toNat default).a,lo:=(d.m.getD n.toNat default).lo,hi:=(d.m.getD n.toNat default).hi }),.o (A9 d)])) (brK (decide (n>0)) (brK (decide (0<=W (n-1)/\W (n-1)<(d.m.length:Int))) (brK (!A7l { f:=(d.m.getD (W (n-1)).toNat default).f,t:=(d.m.getD (W (n-1)).toNat default).t,a:=(d.m.getD (W (n-1)).toNat default).a,lo:=(d.m.getD (W (n-1)).toNat default).lo,hi:=(d.m.getD (W (n-1)).toNat default).hi } { f:=(d.m.getD n.toNat default).f,t:=(d.m.getD n.toNat default).t,a:=(d.m.getD n.toNat default).a,lo:=(d.m.getD n.toNat default).lo,hi:=(d.m.getD n.toNat default).hi }) (some (.ret,[.i (9),.o (A9 d)])) (brK (D8 (okR Fea.fv d.l.length (A7 Fea.fv d.l))&&D8 (okR Dim.fv d.m.length (A7 Dim.fv d.m))) (brK (D8 (RightD (drE d)/\0<=(d.m.getD n.toNat default).a/\(d.m.getD n.toNat default).a<3)) (brK ((X4 (drE d) (d.m.getD n.toNat default).f (d.m.getD n.toNat default).t (d.m.getD n.toNat default).a).snd != 0) (some (.ret,[.i ((X4 (drE d) (d.m.getD n.toNat default).f (d.m.getD n.toNat default).t (d.m.getD n.toNat default).a).snd),.o (A9 d)])) (brK (decide ((X4 (drE d) (d.m.getD n.toNat default).f (d.m.getD n.toNat default).t (d.m.getD n.toNat default).a).fst >= (d.m.getD n.toNat default).lo)) (brK (!decide ((X4 (drE d) (d.m.getD n.toNat default).f (d.m.getD n.toNat default).t (d.m.getD n.toNat default).a).fst<=(d.m.getD n.toNat default).hi)) (some (.ret,[.i (16),.o (A9 d)])) (some (.normal,[.i (W (n+1)),.o (A9 d)]))) (some (.ret,[.i (16),.o (A9 d)])))) none) none)) none) (brK (D8 (okR Fea.fv d.l.length (A7 Fea.fv d.l))&&D8 (okR Dim.fv d.m.length (A7 Dim.fv d.m))) (brK (D8 (RightD (drE d)/\0<=(d.m.getD n.toNat default).a/\(d.m.getD n.toNat default).a<3)) (brK ((X4 (drE d) (d.m.getD n.toNat default).f (d.m.getD n.toNat default).t (d.m.getD n.toNat default).a).snd != 0) (some (.ret,[.i ((X4 (drE d) (d.m.getD n.toNat default).f (d.m.getD n.toNat default).t (d.m.getD n.toNat default).a).snd),.o (A9 d)])) (brK (decide ((X4 (drE d) (d.m.getD n.toNat default).f (d.m.getD n.toNat default).t (d.m.getD n.toNat default).a).fst >= (d.m.getD n.toNat default).lo)) (brK (!decide ((X4 (drE d) (d.m.getD n.toNat default).f (d.m.getD n.toNat default).t (d.m.getD n.toNat default).a).fst<=(d.m.getD n.toNat default).hi)) (some (.ret,[.i (16),.o (A9 d)])) (some (.normal,[.i (W (n+1)),.o (A9 d)]))) (some (.ret,[.i (16),.o (A9 d)])))) none) none))) none) none) (some (.exit 0,[.o (A9 d)])):=by kernel_rfl
def L52(x:Drw)(n:Nat):List Lf:=[.i n,.o (A9 x)]
def B5k:List Lf->Nat->List Lf
 | [_,.o o],n=>[.i (gDm (I4 o) n),.o o]
 | _,_=>[]
def F2v:List Lf->List Lf
 | [_,o]=>[o]
 | _=>[]
def N52(x:Drw):Nat:=x.m.length
def p52(x:Drw)(n:Nat):Bool:=decide (gDm x n=0)
def E8a(x:Drw):Prop:=RightD x
def B2e:List Lf->Drw
 | [_,.o o]=>I4 o
 | _=>default
theorem G5b(x:Drw)(hx:E8a x)(n:Nat)(hn:n<=N52 x):F3 prog (D6 prog pDt 60) (pDt.blk 52) D5f (sp52.rho (L52 x n)) (sp52.heap (L52 x n)) (I1 E1p 9 [])=some (if n<N52 x then(bif p52 x n then(.normal,L52 x (n+1)) else(.ret,B5k (L52 x 0) n)) else(.exit 0,F2v (L52 x 0))):=by
 have h1:RightD x:=hx
 simp only[L52,F2v]
 rw[F7k,I6 hn h1.ok.dim]
 simp only[tN,K5,Bool.and_self,V9,G5u]
 by_cases h:n<N52 x
 ·rw[if_pos h]
  simp only[N52] at h
  have hz:(I8 (x.m.getD n default).f&&I8 (x.m.getD n default).t)=true:=by
   have:=h1.ok.dsz n h
   rw[bA]
   exact this
  have hm:=h1.ok.dim
  by_cases h0:n=0
  ·have e0:¬ (n:Int)>0:=by omega
   by_cases c1:V3 (x.m.getD n default)≠0
   ·skip
    have hg:gDm x n=V3 (x.m.getD n default):=by
     unfold gDm
     dsimp only [K8]
     repeat first
      | exact rfl
      | omega
      | refine J3 (by omega) ?_
      | refine H5 (by omega) ?_
      | refine H5 (fun h=>by omega) ?_
    have hp:p52 x n=false:=by unfold p52; rw[hg]; simpa using c1
    rw[hp,cond_false]
    simp only[B5k,E8,hg]
    repeat first
     | exact rfl
     | refine A8 rfl ?_
     | refine C8 rfl ?_
     | refine A8 (by simp only[SBs]; omega) ?_
     | refine C8 (by simp only[SBs]; omega) ?_
     | refine A8 hz ?_
     | refine A8 (D5 ⟨h1,(E9 (by omega)).1,(E9 (by omega)).2⟩) ?_
   by_cases c3:(X4 x (x.m.getD n default).f (x.m.getD n default).t (x.m.getD n default).a).2≠0
   ·skip
    have hg:gDm x n=(X4 x (x.m.getD n default).f (x.m.getD n default).t (x.m.getD n default).a).2:=by
     unfold gDm
     dsimp only [K8]
     repeat first
      | exact rfl
      | omega
      | refine J3 (by omega) ?_
      | refine H5 (by omega) ?_
      | refine H5 (fun h=>by omega) ?_
    have hp:p52 x n=false:=by unfold p52; rw[hg]; simpa using c3
    rw[hp,cond_false]
    simp only[B5k,E8,hg]
    repeat first
     | exact rfl
     | refine A8 rfl ?_
     | refine C8 rfl ?_
     | refine A8 (by simp only[SBs]; omega) ?_
     | refine C8 (by simp only[SBs]; omega) ?_
     | refine A8 hz ?_
     | refine A8 (D5 ⟨h1,(E9 (by omega)).1,(E9 (by omega)).2⟩) ?_
   by_cases c4:(X4 x (x.m.getD n default).f (x.m.getD n default).t (x.m.getD n default).a).1<(x.m.getD n default).lo
   ·skip
    have hg:gDm x n=16:=by
     unfold gDm
     dsimp only [K8]
     repeat first
      | exact rfl
      | omega
      | refine J3 (by omega) ?_
      | refine H5 (by omega) ?_
      | refine H5 (fun h=>by omega) ?_
    have hp:p52 x n=false:=by unfold p52; rw[hg]; rfl
    rw[hp,cond_false]
    simp only[B5k,E8,hg]
    repeat first
     | exact rfl
     | refine A8 rfl ?_
     | refine C8 rfl ?_
     | refine A8 (by simp only[SBs]; omega) ?_
     | refine C8 (by simp only[SBs]; omega) ?_
     | refine A8 hz ?_
     | refine A8 (D5 ⟨h1,(E9 (by omega)).1,(E9 (by omega)).2⟩) ?_
   by_cases c5:(X4 x (x.m.getD n default).f (x.m.getD n default).t (x.m.getD n default).a).1>(x.m.getD n default).hi
   ·skip
    have hg:gDm x n=16:=by
     unfold gDm
     dsimp only [K8]
     repeat first
      | exact rfl
      | omega
      | refine J3 (by omega) ?_
      | refine H5 (by omega) ?_
      | refine H5 (fun h=>by omega) ?_
    have hp:p52 x n=false:=by unfold p52; rw[hg]; rfl
    rw[hp,cond_false]
    simp only[B5k,E8,hg]
    repeat first
     | exact rfl
     | refine A8 rfl ?_
     | refine C8 rfl ?_
     | refine A8 (by simp only[SBs]; omega) ?_
     | refine C8 (by simp only[SBs]; omega) ?_
     | refine A8 hz ?_
     | refine A8 (D5 ⟨h1,(E9 (by omega)).1,(E9 (by omega)).2⟩) ?_
   have hg:gDm x n=0:=by
    unfold gDm
    dsimp only [K8]
    repeat first
     | exact rfl
     | omega
     | refine J3 (by omega) ?_
     | refine H5 (by omega) ?_
     | refine H5 (fun h=>by omega) ?_
   have hp:p52 x n=true:=by unfold p52; rw[hg]; rfl
   rw[hp,cond_true]
   repeat first
    | exact rfl
    | refine A8 rfl ?_
    | refine C8 rfl ?_
    | refine A8 (by simp only[SBs]; omega) ?_
    | refine C8 (by simp only[SBs]; omega) ?_
    | refine A8 hz ?_
    | refine A8 (D5 ⟨h1,(E9 (by omega)).1,(E9 (by omega)).2⟩) ?_
  have e1:W ((n:Int)-1)=((n-1:Nat):Int):=by rw[D4b (by omega) (by omega)]; omega
  rw[e1]
  simp only[tN]
  by_cases c1:V3 (x.m.getD n default)≠0
  ·skip
   have hg:gDm x n=V3 (x.m.getD n default):=by
    unfold gDm
    dsimp only [K8]
    repeat first
     | exact rfl
     | omega
     | refine J3 (by omega) ?_
     | refine H5 (by omega) ?_
     | refine J3 ⟨by omega,c2⟩ ?_
     | refine H5 (fun h=>c2 h.2) ?_
     | refine H5 (fun h=>by omega) ?_
   have hp:p52 x n=false:=by unfold p52; rw[hg]; simpa using c1
   rw[hp,cond_false]
   simp only[B5k,E8,hg]
   repeat first
    | exact rfl
    | refine A8 rfl ?_
    | refine C8 rfl ?_
    | refine A8 (by simp only[SBs]; omega) ?_
    | refine C8 (by simp only[SBs]; omega) ?_
    | refine A8 hz ?_
    | refine A8 (D5 ⟨h1,(E9 (by omega)).1,(E9 (by omega)).2⟩) ?_
    | refine A8 (dT ((M6 _ _).2 c2)) ?_
    | refine C8 (dF fun h=>c2 ((M6 _ _).1 h)) ?_
    | refine A8 (notT c2) ?_
    | refine C8 (A9r c2) ?_
  by_cases c2:A7l (x.m.getD (n-1) default) (x.m.getD n default)=false
  ·skip
   have hg:gDm x n=9:=by
    unfold gDm
    dsimp only [K8]
    repeat first
     | exact rfl
     | omega
     | refine J3 (by omega) ?_
     | refine H5 (by omega) ?_
     | refine J3 ⟨by omega,c2⟩ ?_
     | refine H5 (fun h=>c2 h.2) ?_
     | refine H5 (fun h=>by omega) ?_
   have hp:p52 x n=false:=by unfold p52; rw[hg]; rfl
   rw[hp,cond_false]
   simp only[B5k,E8,hg]
   repeat first
    | exact rfl
    | refine A8 rfl ?_
    | refine C8 rfl ?_
    | refine A8 (by simp only[SBs]; omega) ?_
    | refine C8 (by simp only[SBs]; omega) ?_
    | refine A8 hz ?_
    | refine A8 (D5 ⟨h1,(E9 (by omega)).1,(E9 (by omega)).2⟩) ?_
    | refine A8 (dT ((M6 _ _).2 c2)) ?_
    | refine C8 (dF fun h=>c2 ((M6 _ _).1 h)) ?_
    | refine A8 (notT c2) ?_
    | refine C8 (A9r c2) ?_
  by_cases c3:(X4 x (x.m.getD n default).f (x.m.getD n default).t (x.m.getD n default).a).2≠0
  ·skip
   have hg:gDm x n=(X4 x (x.m.getD n default).f (x.m.getD n default).t (x.m.getD n default).a).2:=by
    unfold gDm
    dsimp only [K8]
    repeat first
     | exact rfl
     | omega
     | refine J3 (by omega) ?_
     | refine H5 (by omega) ?_
     | refine J3 ⟨by omega,c2⟩ ?_
     | refine H5 (fun h=>c2 h.2) ?_
     | refine H5 (fun h=>by omega) ?_
   have hp:p52 x n=false:=by unfold p52; rw[hg]; simpa using c3
   rw[hp,cond_false]
   simp only[B5k,E8,hg]
   repeat first
    | exact rfl
    | refine A8 rfl ?_
    | refine C8 rfl ?_
    | refine A8 (by simp only[SBs]; omega) ?_
    | refine C8 (by simp only[SBs]; omega) ?_
    | refine A8 hz ?_
    | refine A8 (D5 ⟨h1,(E9 (by omega)).1,(E9 (by omega)).2⟩) ?_
    | refine A8 (dT ((M6 _ _).2 c2)) ?_
    | refine C8 (dF fun h=>c2 ((M6 _ _).1 h)) ?_
    | refine A8 (notT c2) ?_
    | refine C8 (A9r c2) ?_
  by_cases c4:(X4 x (x.m.getD n default).f (x.m.getD n default).t (x.m.getD n default).a).1<(x.m.getD n default).lo
  ·skip
   have hg:gDm x n=16:=by
    unfold gDm
    dsimp only [K8]
    repeat first
     | exact rfl
     | omega
     | refine J3 (by omega) ?_
     | refine H5 (by omega) ?_
     | refine J3 ⟨by omega,c2⟩ ?_
     | refine H5 (fun h=>c2 h.2) ?_
     | refine H5 (fun h=>by omega) ?_
   have hp:p52 x n=false:=by unfold p52; rw[hg]; rfl
   rw[hp,cond_false]
   simp only[B5k,E8,hg]
   repeat first
    | exact rfl
    | refine A8 rfl ?_
    | refine C8 rfl ?_
    | refine A8 (by simp only[SBs]; omega) ?_
    | refine C8 (by simp only[SBs]; omega) ?_
    | refine A8 hz ?_
    | refine A8 (D5 ⟨h1,(E9 (by omega)).1,(E9 (by omega)).2⟩) ?_
    | refine A8 (dT ((M6 _ _).2 c2)) ?_
    | refine C8 (dF fun h=>c2 ((M6 _ _).1 h)) ?_
    | refine A8 (notT c2) ?_
    | refine C8 (A9r c2) ?_
  by_cases c5:(X4 x (x.m.getD n default).f (x.m.getD n default).t (x.m.getD n default).a).1>(x.m.getD n default).hi
  ·skip
   have hg:gDm x n=16:=by
    unfold gDm
    dsimp only [K8]
    repeat first
     | exact rfl
     | omega
     | refine J3 (by omega) ?_
     | refine H5 (by omega) ?_
     | refine J3 ⟨by omega,c2⟩ ?_
     | refine H5 (fun h=>c2 h.2) ?_
     | refine H5 (fun h=>by omega) ?_
   have hp:p52 x n=false:=by unfold p52; rw[hg]; rfl
   rw[hp,cond_false]
   simp only[B5k,E8,hg]
   repeat first
    | exact rfl
    | refine A8 rfl ?_
    | refine C8 rfl ?_
    | refine A8 (by simp only[SBs]; omega) ?_
    | refine C8 (by simp only[SBs]; omega) ?_
    | refine A8 hz ?_
    | refine A8 (D5 ⟨h1,(E9 (by omega)).1,(E9 (by omega)).2⟩) ?_
    | refine A8 (dT ((M6 _ _).2 c2)) ?_
    | refine C8 (dF fun h=>c2 ((M6 _ _).1 h)) ?_
    | refine A8 (notT c2) ?_
    | refine C8 (A9r c2) ?_
  have hg:gDm x n=0:=by
   unfold gDm
   dsimp only [K8]
   repeat first
    | exact rfl
    | omega
    | refine J3 (by omega) ?_
    | refine H5 (by omega) ?_
    | refine H5 (fun h=>c2 h.2) ?_
    | refine H5 (fun h=>by omega) ?_
  have hp:p52 x n=true:=by unfold p52; rw[hg]; rfl
  rw[hp,cond_true]
  repeat first
   | exact rfl
   | refine A8 rfl ?_
   | refine C8 rfl ?_
   | refine A8 (by simp only[SBs]; omega) ?_
   | refine C8 (by simp only[SBs]; omega) ?_
   | refine A8 hz ?_
   | refine A8 (D5 ⟨h1,(E9 (by omega)).1,(E9 (by omega)).2⟩) ?_
   | refine A8 (dT ((M6 _ _).2 c2)) ?_
   | refine C8 (dF fun h=>c2 ((M6 _ _).1 h)) ?_
   | refine A8 (notT c2) ?_
   | refine C8 (A9r c2) ?_
 ·rw[if_neg h]
  simp only[N52] at h
  refine C8 (dF (by omega)) ?_
  rfl
def G6p:Blk:=hookP sp52 9 [] (fdT E1p 0 .ret (.exit 0) B2e L52 B5k F2v N52 p52 E8a)
theorem F4z{A:Amb}{q:Prims}(h0:PrimOK prog A pDt)(hq:PrimOK prog A q):PrimOK prog A (q.addb 52 0 G6p) :=
 SEB.findR (id:=0) (ds:=[]) (dec:=B2e) (sp:=sp52) (sq:=E1p) (m:=9) (eb:=.ret) (ee:=.exit 0) (L:=L52) (Lb:=B5k) (Le:=F2v) (N:=N52) (p:=p52) (Inv:=E8a) (k:=60) F8 G5 h0 hq func52 (show f52.body=some (f52.body.getD .skip) by kernel_rfl) (body:=D5f) (by kernel_rfl)
  rfl rfl rfl rfl (by simp) (by simp) (fun _ _=>⟨⟨.inr rfl,.inr rfl,.inr rfl,.inr rfl,.inr rfl,.inr rfl,.inr rfl,.inr rfl,.inr rfl,trivial⟩,⟨.inr rfl,.inr rfl,.inr rfl,.inr rfl,.inr rfl,.inr rfl,.inr rfl,.inr rfl,.inr rfl,trivial⟩⟩) G5b
theorem B8o(d:Drw)(a b c e:Lf):B2b [a,b,c,e,Lf.o (A9 d)]=d:=by simp[B2b,E8]
theorem B8q(d:Drw)(a:Lf):B2e [a,Lf.o (A9 d)]=d:=by simp[B2e,E8]
theorem F9f(d:Drw):fdE p46 N46 d=decide (V6 (gDm d) d.m.length=0):=A0g (gDm d) fun _ _=>rfl
theorem F9g(d:Drw):fdE p52 N52 d=decide (V6 (gDm d) d.m.length=0):=A0g (gDm d) fun _ _=>rfl
theorem G4i{d:Drw}(h:V6 (gDm d) d.m.length≠0):gDm d (G9 (p46 d) (N46 d) 0)=V6 (gDm d) d.m.length:=(Y8 (p:=p46 d) (fun _ _=>rfl) h).2
theorem G4k{d:Drw}(h:V6 (gDm d) d.m.length≠0):gDm d (G9 (p52 d) (N52 d) 0)=V6 (gDm d) d.m.length:=(Y8 (p:=p52 d) (fun _ _=>rfl) h).2
def B2h(d:Drw):Int:=if d.m.length>256 then 5 else V6 (gDm d) d.m.length
def E9f:Prims:=(pDt.addb 46 0 G6m).addb 52 0 G6p
theorem F6j{A:Amb}(hT:Tab A)(hG:gN prog<=A.G):PrimOK prog A E9f:=by
 have h0:=E9h hT hG
 exact F4z h0 (F4w h0 h0)
theorem G9b(d:Drw):(D6 prog E9f 60).call 46 [.agg d.av] (Bg 8) G7 =
  brK (decide ((d.m.length:Int)>256)) (some (.int .i64 5)) (brK (fdC L46 B2b E7y [.n (d.m.length),.fr (A7 Dim.fv d.m),.i ((d.m.length:Int)),.i (0),.o (A9 d)]) (brK (fdE p46 N46 (B2b [.n (d.m.length),.fr (A7 Dim.fv d.m),.i ((d.m.length:Int)),.i (0),.o (A9 d)])) (some (.int .i64 0)) (some (.sint IntKind.i64 (gDm (I4 (A9 d)) (G9 (p46 (B2b [.n (d.m.length),.fr (A7 Dim.fv d.m),.i ((d.m.length:Int)),.i (0),.o (A9 d)])) (N46 (B2b [.n (d.m.length),.fr (A7 Dim.fv d.m),.i ((d.m.length:Int)),.i (0),.o (A9 d)])) 0))))) none):=by kernel_rfl
theorem H1d(d:Drw)(hk:RightD d):∃ v,(D6 prog E9f 60).call 46 [.agg d.av] (Bg 8) G7=some v/\T9 (B2h d) v:=by
 rw[G9b]
 simp only[B8o,F9f,E8]
 by_cases c1:d.m.length>256
 rotate_left
 by_cases c2:V6 (gDm d) d.m.length≠0
 rotate_left
 all_goals
  apply exV
  focus
   repeat first
    | exact rfl
    | refine A8 rfl ?_
    | refine C8 rfl ?_
    | refine A8 (by simp only[SBs]; omega) ?_
    | refine C8 (by simp only[SBs]; omega) ?_
    | refine A8 (J5 (L:=L46) (dec:=B2b) (Inv:=E7y) (x:=d) (B8o d _ _ _ _) hk) ?_
  focus
   first
    | apply viI
    | apply viS
   dsimp only [B2h]
   repeat first
    | exact rfl
    | omega
    | refine J3 (by omega) ?_
    | refine H5 (by omega) ?_
    | exact(G4i c2).symm
theorem G9h(d:Drw):(D6 prog E9f 60).call 52 [.agg d.av] (Bg 8) G7 =
  brK (decide ((d.m.length:Int)>256)) (some (.int .i64 5)) (brK (fdC L52 B2e E8a [.i (0),.o (A9 d)]) (brK (fdE p52 N52 (B2e [.i (0),.o (A9 d)])) (some (.int .i64 0)) (some (.sint IntKind.i64 (gDm (I4 (A9 d)) (G9 (p52 (B2e [.i (0),.o (A9 d)])) (N52 (B2e [.i (0),.o (A9 d)])) 0))))) none):=by kernel_rfl
theorem H1i(d:Drw)(hk:RightD d):∃ v,(D6 prog E9f 60).call 52 [.agg d.av] (Bg 8) G7=some v/\T9 (B2h d) v:=by
 rw[G9h]
 simp only[B8q,F9g,E8]
 by_cases c1:d.m.length>256
 rotate_left
 by_cases c2:V6 (gDm d) d.m.length≠0
 rotate_left
 all_goals
  apply exV
  focus
   repeat first
    | exact rfl
    | refine A8 rfl ?_
    | refine C8 rfl ?_
    | refine A8 (by simp only[SBs]; omega) ?_
    | refine C8 (by simp only[SBs]; omega) ?_
    | refine A8 (J5 (L:=L52) (dec:=B2e) (Inv:=E8a) (x:=d) (B8q d _) hk) ?_
  focus
   first
    | apply viI
    | apply viS
   dsimp only [B2h]
   repeat first
    | exact rfl
    | omega
    | refine J3 (by omega) ?_
    | refine H5 (by omega) ?_
    | exact(G4k c2).symm
def VDm(d:Drw):Tr AV:=.br (D8 (RightD d)) (.leaf (.sint .i64 (B2h d))) .fail
def pDm:Prims:=(pDt.addt 46 (Q8 Q0 VDm)).addt 52 (Q8 Q0 VDm)
theorem G3j{A:Amb}(hT:Tab A)(hG:gN prog<=A.G):PrimOK prog A pDm:=by
 have h0:=F6j hT hG
 refine J4 hG h0 (J4 hG h0 (E9h hT hG) Q0 VDm func46 (by kernel_rfl) fun x v hv=>?_) Q0 VDm func52 (by kernel_rfl) fun x v hv=>?_
 ·obtain⟨hz,hv⟩:=Tr.br1 hv
  cases hv
  obtain⟨v',h1,h2⟩:=H1d x (J7 hz)
  exact⟨v',h1,H8 h2,K7 h2⟩
 ·obtain⟨hz,hv⟩:=Tr.br1 hv
  cases hv
  obtain⟨v',h1,h2⟩:=H1i x (J7 hz)
  exact⟨v',h1,H8 h2,K7 h2⟩
theorem D3a{d:Drw}(h:OkD d)(he:A3c d=0):RightD d:=by
 refine⟨h,fun i hi=>?_⟩
 have h1:V6 (gFe d) d.l.length=0:=by
  unfold A3c at he
  split at he
  ·omega
  ·exact he
 have h2:=G6d.1 h1 i hi
 refine Classical.byContradiction fun hn=>?_
 have h3:Y2 (D9 d i)≠0:=by unfold Y2; rw[if_pos hn]; exact hn
 unfold gFe at h2
 rw[if_pos h3] at h2
 exact h3 h2
def A6e:Code:=I7 (J8 0 (f90.body.getD .skip))
def sp90:SP:=⟨[.flist 1,.str]++dr 3++[.list 8,.bool,.int .i64]++dr 40,dd8++[.vec 1 9]⟩
def sq90:SP:=⟨[.drop,.str]++dr 3++[.list 8,.bool]++dr 41,dd8++[.vec 1 9]⟩
def D3h:AEx->SP
 | .normal=>sp90
 | _=>sq90
def A5s(l:List Txt)(s:Txt)(m:Nat)(b:Bool)(i:Int)(r:Nat->List AV):List Lf:=[.n l.length,.fr (A7 txF l),.s s,.n m,.b b,.i i,.n m,.r r]
abbrev E8m(l:List Txt)(s:Txt)(m:Nat)(b:Bool)(i:Int)(r:Nat->List AV):Option (AEx×List Lf):=some (.normal,A5s l s m b (W (i+1)) r)
abbrev F1z(l:List Txt)(s x:Txt)(m:Nat)(b:Bool)(i:Int)(r:Nat->List AV):Option (AEx×List Lf) :=
 brK (decide (0<=i/\i<(l.length:Int))) (brK (!(x==s)) (brK (decide (0<=i/\i<(l.length:Int))) (brK (decide (m+1<2147483648/\m=m)) (E8m l s (m+1) b i (K6 m r [.sstr x])) none) none) (E8m l s m b i r)) none
theorem E1a(l:List Txt)(s:Txt)(m:Nat)(b:Bool)(i:Int)(r:Nat->List AV):F3 prog (D6 prog pDm 60) (pDm.blk 90) A6e (sp90.rho (A5s l s m b i r)) (sp90.heap (A5s l s m b i r)) (I1 D3h 8 [8]) =
  brK (decide (i<(l.length:Int))) (brK (!b) (brK (decide (0<=i/\i<(l.length:Int))) (brK (!Op.bytesLess (l.getD i.toNat default) s)
   (brK (decide (m+1<2147483648/\m=m)) (F1z l s (l.getD i.toNat default) (m+1) true i (K6 m r [.sstr s])) none)
   (F1z l s (l.getD i.toNat default) m b i r)) none) (F1z l s (l.getD i.toNat default) m b i r)) (some (.exit 0,[.s s,.n m,.b b,.n m,.r r])):=by kernel_rfl
def O90(l:List Txt)(s:Txt)(n:Nat):List Txt×Bool:=(l.take n).foldl (A5f s) ([],false)
theorem E4q{l:List Txt}{s:Txt}{n:Nat}(h:n<l.length):O90 l s (n+1)=A5f s (O90 l s n) (l.getD n default):=by
 unfold O90
 rw[List.take_succ_eq_append_getElem h,List.foldl_append,gD,gE h]
 rfl
theorem F2z(l:List Txt)(s:Txt)(n:Nat):(O90 l s n).1.length<=2*l.length:=by
 have h1:=C0a s (l.take n) ([],false)
 have h2:(l.take n).length<=l.length:=by simp; omega
 unfold O90
 simp only[List.length_nil] at h1
 omega
def L90(x:List Txt×Txt)(n:Nat):List Lf:=A5s x.1 x.2 (O90 x.1 x.2 n).1.length (O90 x.1 x.2 n).2 n (D7 (O90 x.1 x.2 n).1)
def A4o(x:List Txt×Txt):List Lf:=A5s x.1 x.2 0 false 0 (fun _=>[])
def Le90(_:List Lf)(x:List Txt×Txt):List Lf:=[.s x.2,.n (putW x).1.length,.b (putW x).2,.n (putW x).1.length,.r (D7 (putW x).1)]
where putW (x:List Txt×Txt):=x.1.foldl (A5f x.2) ([],false)
def A3y:List Lf->List Txt×Txt
 | [.n m,.fr f,.s s,_,_,_,_,_]=>(ofR txF m f,s)
 | _=>default
def D6o(x:List Txt×Txt):Prop:=x.1.length<=1000000
theorem E0h(a b:Txt):(!Op.bytesLess a b)=decide (b<=a):=by
 rw[Go.Proofs.bytesLess_eq]
 by_cases h:a<b
 ·have h2:¬ b<=a:=fun h3=>h3 h
  rw[dT h,dF h2]; rfl
 ·have h2:b<=a:=h
  rw[dF h,dT h2]; rfl
theorem E1x{l:List Txt}{s x:Txt}{m:Nat}{b:Bool}{n:Nat}{r:Nat->List AV}(h:n<l.length)(hm:m<10000000):F1z l s x m b n r=if x=s then E8m l s m b n r else E8m l s (m+1) b n (K6 m r [.sstr x]):=by
 unfold F1z
 have e:decide (0<=(n:Int)/\(n:Int)<(l.length:Int))=true:=dT (by omega)
 have e2:decide (m+1<2147483648/\m=m)=true:=dT ⟨by omega,rfl⟩
 rw[e,e2]
 by_cases hx:x=s
 ·rw[if_pos hx,show(x==s)=true by simpa using hx]; rfl
 ·rw[if_neg hx,show(x==s)=false by simpa using hx]; rfl
theorem SEB.step90{A:Amb}(hq:PrimOK prog A pDm)(x:List Txt×Txt)(hx:D6o x)(n:Nat)(hn:n<x.1.length)(Bb:Heap)(hB:Bb.length=8) :
  SEB prog A Bb A6e ⟨sp90.rho (L90 x n),sp90.heap (L90 x n),[8]⟩ .normal ⟨sp90.rho (L90 x (n+1)),sp90.heap (L90 x (n+1)),[8]⟩:=by
 obtain⟨l,s⟩:=x
 simp only[D6o] at hx hn
 have hk:=E1a l s (O90 l s n).1.length (O90 l s n).2 n (D7 (O90 l s n).1)
 have hlen:=F2z l s n
 rw[dT (show(n:Int)<(l.length:Int) by omega),dT (show 0<=(n:Int)/\(n:Int)<(l.length:Int) by omega),tN,E1x hn (by omega),E1x hn (by omega),E0h,
  dT (show(O90 l s n).1.length+1<2147483648/\(O90 l s n).1.length=(O90 l s n).1.length from⟨by omega,rfl⟩)] at hk
 have hs:=E4q (s:=s) hn
 unfold L90
 dsimp only
 rw[hs]
 clear hs
 revert hk hlen
 generalize O90 l s n=o
 obtain⟨O,d⟩:=o
 intro hk hlen
 dsimp only at hk hlen ⊢
 obtain⟨y,hy⟩:∃ y,y=l.getD n default:=⟨_,rfl⟩
 rw[<- hy] at hk ⊢
 have hbl:BlkOK prog A (pDm.blk 90) A6e:=(hq.blk 90 f90 (f90.body.getD .skip) func90 (show f90.body=some (f90.body.getD .skip) by kernel_rfl)).sub (id:=0) (by kernel_rfl)
 simp only[E8m,B3i (show n<2^62 by omega)] at hk
 have fin:∀ (ls:List Lf),F3 prog (D6 prog pDm 60) (pDm.blk 90) A6e (sp90.rho (A5s l s O.length d n (D7 O))) (sp90.heap (A5s l s O.length d n (D7 O))) (I1 D3h 8 [8])=some (.normal,ls) ->
   SEB prog A Bb A6e ⟨sp90.rho (A5s l s O.length d n (D7 O)),sp90.heap (A5s l s O.length d n (D7 O)),[8]⟩ .normal ⟨sp90.rho ls,sp90.heap ls,[8]⟩:=fun ls h=>SEB.of_KP (e:=.normal) (sp:=D3h) F8 G5 hq hbl hB h rfl
 unfold A5f
 dsimp only
 by_cases h1:(!d&&decide (s<=y))=true
 ·rw[if_pos h1]
  rw[bA] at h1
  by_cases h2:y=s
  ·rw[if_pos h2]
   rw[h1.1,h1.2,if_pos h2] at hk
   have:=fin _ hk
   refine this.wk_out ?_
   have w:=Wk.rowsQ (A:=A) (B0:=Bb) (U:=sp90.rho (A5s l s (O.length+1) true ((n+1:Nat):Int) (K6 O.length (D7 O) [.sstr s]))) (D:=[8]) (B:=sp90.heap (A5s l s (O.length+1) true ((n+1:Nat):Int) (K6 O.length (D7 O) [.sstr s]))) (b:=8) (r':=D7 (O++[s])) (ty:=9) rfl (fun h=>by omega) (fun i hi=>A2n O s hi)
   have e:(O++[s]).length=O.length+1:=by simp
   rw[e]
   exact w
  ·rw[if_neg h2]
   rw[h1.1,h1.2,if_neg h2] at hk
   have:=fin _ hk
   refine this.wk_out ?_
   have w:=Wk.rowsQ (A:=A) (B0:=Bb) (U:=sp90.rho (A5s l s (O.length+1+1) true ((n+1:Nat):Int) (K6 (O.length+1) (K6 O.length (D7 O) [.sstr s]) [.sstr y]))) (D:=[8]) (B:=sp90.heap (A5s l s (O.length+1+1) true ((n+1:Nat):Int) (K6 (O.length+1) (K6 O.length (D7 O) [.sstr s]) [.sstr y]))) (b:=8) (r':=D7 (O++[s]++[y])) (ty:=9) rfl (fun h=>by omega) (fun i hi=>E2d O s y hi)
   have e:(O++[s]++[y]).length=O.length+1+1:=by simp
   rw[e]
   exact w
 ·rw[if_neg h1]
  have hk2:F3 prog (D6 prog pDm 60) (pDm.blk 90) A6e (sp90.rho (A5s l s O.length d n (D7 O))) (sp90.heap (A5s l s O.length d n (D7 O))) (I1 D3h 8 [8])=if y=s then some (.normal,A5s l s O.length d ((n+1:Nat):Int) (D7 O)) else some (.normal,A5s l s (O.length+1) d ((n+1:Nat):Int) (K6 O.length (D7 O) [.sstr y])):=by
   rw[hk]
   cases d with
   | true=>rfl
   | false =>
    have h3:decide (s<=y)=false:=by simpa using h1
    rw[h3]; rfl
  by_cases h2:y=s
  ·rw[if_pos h2] at hk2 ⊢
   exact fin _ hk2
  ·rw[if_neg h2] at hk2 ⊢
   refine(fin _ hk2).wk_out ?_
   have w:=Wk.rowsQ (A:=A) (B0:=Bb) (U:=sp90.rho (A5s l s (O.length+1) d ((n+1:Nat):Int) (K6 O.length (D7 O) [.sstr y]))) (D:=[8]) (B:=sp90.heap (A5s l s (O.length+1) d ((n+1:Nat):Int) (K6 O.length (D7 O) [.sstr y]))) (b:=8) (r':=D7 (O++[y])) (ty:=9) rfl (fun h=>by omega) (fun i hi=>A2n O y hi)
   have e:(O++[y]).length=O.length+1:=by simp
   rw[e]
   exact w
theorem SEB.end90{A:Amb}(hq:PrimOK prog A pDm)(x:List Txt×Txt)(_hx:D6o x)(Bb:Heap)(hB:Bb.length=8) :
  SEB prog A Bb A6e ⟨sp90.rho (L90 x x.1.length),sp90.heap (L90 x x.1.length),[8]⟩ (.exit 0) ⟨sq90.rho (Le90 (A4o x) x),sq90.heap (Le90 (A4o x) x),[8]⟩:=by
 obtain⟨l,s⟩:=x
 have hbl:BlkOK prog A (pDm.blk 90) A6e:=(hq.blk 90 f90 (f90.body.getD .skip) func90 (show f90.body=some (f90.body.getD .skip) by kernel_rfl)).sub (id:=0) (by kernel_rfl)
 have e:O90 l s l.length=Le90.putW (l,s):=by unfold O90 Le90.putW; rw[List.take_length]
 have hk:=E1a l s (O90 l s l.length).1.length (O90 l s l.length).2 l.length (D7 (O90 l s l.length).1)
 rw[dF (show ¬ (l.length:Int)<(l.length:Int) by omega)] at hk
 have:=SEB.of_KP (e:=.exit 0) (sp:=D3h) (B0:=Bb) (ds:=[8]) F8 G5 hq hbl hB hk rfl
 unfold L90 Le90
 rw[<- e]
 exact this
theorem G5z{A:Amb}(x:List Txt×Txt)(Bb:Heap)(hB:Bb.length=8):Wk A Bb ⟨sp90.rho (A4o x),sp90.heap (A4o x),[8]⟩ ⟨sp90.rho (L90 x 0),sp90.heap (L90 x 0),[8]⟩:=by
 have e:O90 x.1 x.2 0=([],false):=by unfold O90; rfl
 unfold L90
 rw[e]
 exact Wk.rowsQ (A:=A) (B0:=Bb) (U:=sp90.rho (A4o x)) (D:=[8]) (B:=sp90.heap (A4o x)) (b:=8) (r':=D7 []) (ty:=9) rfl (fun h=>by omega) (fun i hi=>(Nat.not_lt_zero i hi).elim)
def G6v:Blk:=hookP sp90 8 [8] (itT sq90 0 (.exit 0) A3y A4o Le90 D6o)
theorem F5f{A:Amb}{q:Prims}(h0:PrimOK prog A pDm)(hq:PrimOK prog A q):PrimOK prog A (q.addb 90 0 G6v) :=
 SEB.iterR (P:=prog) (sp0:=sp90) (sp:=sp90) (sq:=sq90) (m:=8) (ds:=[8]) (ee:=.exit 0) (dec:=A3y) (L0:=A4o) (L:=L90) (Le:=Le90) (N:=fun x=>x.1.length) (Inv:=D6o) hq func90 (show f90.body=some (f90.body.getD .skip) by kernel_rfl) (body:=A6e) (by kernel_rfl)
  rfl (by simp) (fun _=>⟨.inr rfl,.inr rfl,.inr rfl,.inr rfl,.inr rfl,.inr rfl,.inr rfl,.inr rfl,.inl rfl,trivial⟩) (fun x _ Bb hB=>G5z x Bb hB) (fun x hx n hn Bb hB=>SEB.step90 h0 x hx n hn Bb hB) (fun x hx Bb hB=>SEB.end90 h0 x hx Bb hB)
def pPu1:Prims:=pDm.addb 90 0 G6v
def spPu:SP:=⟨dr 4++[.flist 1]++dr 43,dd8⟩
abbrev fzT(sp:AEx)(n:Nat)(r:Nat->List AV):Option (AEx×List Lf):=brK (D8 (D6e n n r)&&true) (some (sp,[.n n,.fr (A5d r)])) none
theorem D5m(l:List Txt)(s:Txt):F3 prog (D6 prog pPu1 60) (pPu1.blk 90) (f90.body.getD .skip) ([R7 l,.sstr s]++List.replicate 46 G8) (Bg 8) (D7b (fun _=>[.frz 4]) (fun _=>spPu) 8 []) =
  brK (itC A4o A3y D6o (A4o (l,s))) (brK (!(Le90.putW (A3y (A4o (l,s)))).2)
   (brK (decide ((Le90.putW (A3y (A4o (l,s)))).1.length+1<2147483648/\(Le90.putW (A3y (A4o (l,s)))).1.length=(Le90.putW (A3y (A4o (l,s)))).1.length)) (fzT .ret ((Le90.putW (A3y (A4o (l,s)))).1.length+1) (K6 (Le90.putW (A3y (A4o (l,s)))).1.length (D7 (Le90.putW (A3y (A4o (l,s)))).1) [.sstr (A3y (A4o (l,s))).2])) none)
   (fzT .ret (Le90.putW (A3y (A4o (l,s)))).1.length (D7 (Le90.putW (A3y (A4o (l,s)))).1))) none:=by kernel_rfl
theorem D9q(x:List Txt×Txt):A3y (A4o x)=x:=by
 obtain⟨l,s⟩:=x
 simp[A3y,A4o,A5s,I5 O5]
theorem A9i(L:List Txt):D6e L.length L.length (D7 L):=⟨lR _,fun _ _=>rfl⟩
def parPT:Par (List Txt×Txt) where
 get:=fun | [a,b]=>(match B2p txF 1 a,sstr? b with | some (c,l),some s=>some (c,(l,s)) | _,_=>none) | _=>none
 av:=fun x=>[R7 x.1,.sstr x.2]
 ok:=by
  intro l x h Z vs hv
  split at h
  ·split at h
   ·rename_i h1 h2
    simp only[sI,pI] at h
    obtain⟨rfl,rfl⟩:=h
    simp only[VRL] at hv ⊢
    obtain⟨y,r,e,q1,y2,r2,e2,q2,q3⟩:=hv
    exact⟨y,r,e,A3g h1 q1,y2,r2,e2,A0r h2 q2,q3⟩
   ·cases h
  ·cases h
 free:=fun _=>rfl
def VPu(x:List Txt×Txt):Tr AV:=.br (decide (x.1.length<=1000000)) (.leaf (R7 (Q3 x.1 x.2))) .fail
def pPu:Prims:=pDm.addt 90 (Q8 parPT VPu)
theorem E9q{A:Amb}(hT:Tab A)(hG:gN prog<=A.G):PrimOK prog A pPu:=by
 have h0:=G3j hT hG
 have h1:PrimOK prog A pPu1:=F5f h0 h0
 refine PrimOK.addParB h0 hG parPT VPu func90 (show f90.body=some (f90.body.getD .skip) by kernel_rfl) fun x v hv=>?_
 obtain⟨hz,hv⟩:=Tr.br1 hv
 cases hv
 obtain⟨l,s⟩:=x
 have hz:=of_decide_eq_true hz
 have hb:BlkOK prog A (pPu1.blk 90) (f90.body.getD .skip):=h1.blk 90 f90 (f90.body.getD .skip) func90 (show f90.body=some (f90.body.getD .skip) by kernel_rfl)
 have hk:=D5m l s
 rw[D9q,Q9 (D9q (l,s)) (show D6o (l,s) from hz),show Le90.putW (l,s)=l.foldl (A5f s) ([],false) from rfl] at hk
 have hlen:(l.foldl (A5f s) ([],false)).1.length<=2*l.length:=by have:=C0a s l ([],false); simpa using this
 have he:Q3 l s=E9t s (l.foldl (A5f s) ([],false)):=rfl
 revert hk hlen he
 generalize l.foldl (A5f s) ([],false)=o
 obtain⟨O,d⟩:=o
 intro hk hlen he
 dsimp only at hk hlen
 unfold fzT at hk
 simp only at hz
 have fin:∀ (n:Nat) (f:Nat->List FV),F3 prog (D6 prog pPu1 60) (pPu1.blk 90) (f90.body.getD .skip) ([R7 l,.sstr s]++List.replicate 46 G8) (Bg 8) (D7b (fun _=>[.frz 4]) (fun _=>spPu) 8 [])=some (.ret,[.n n,.fr f])->n=(Q3 l s).length->(∀ i,i<n->f i=A7 txF (Q3 l s) i) ->
   ∃ e s' vs,SEB prog A (Bg (gN prog)) (f90.body.getD .skip) ⟨parPT.av (l,s)++List.replicate (f90.ntmps-(parPT.av (l,s)).length) G8,Bg (gN prog),[]⟩ e s'/\(∀ id,e≠.exit id)/\Y5 prog s'.B s'.U f90.results.toList=some vs/\s'.D=[]/\F5 0 (A2i vs)=true /\
    ∀ (Z:Emb) y,VR Z (A2i vs) y->VR Z (R7 (Q3 l s)) y:=fun n f hr hn hf=>by
  refine⟨.ret,⟨spPu.rho [.n n,.fr f],spPu.heap [.n n,.fr f],[]⟩,[.flist n f 1],?_,by simp,by kernel_rfl,rfl,rfl,fun Z y hy=>?_⟩
  ·rw[gsz]
   exact SEB.of_KG (e:=.ret) (sp:=fun _=>spPu) (gs:=fun _=>[.frz 4]) (B0:=Bg 8) (ds:=[]) F8 G5 h1 hb rfl hr rfl
  ·subst hn
   exact D1c hf hy
 cases d with
 | true =>
  rw[show(!true)=false from rfl,D5 (A9i O)] at hk
  refine fin O.length _ hk ?_ fun i hi=>?_
  ·rw[he]; rfl
  ·rw[he]; rfl
 | false =>
  have hfz:D6e (O.length+1) (O.length+1) (K6 O.length (D7 O) [.sstr s]):=⟨lR _,fun _ _=>rfl⟩
  rw[show(!false)=true from rfl,dT (show O.length+1<2147483648/\O.length=O.length from⟨by omega,rfl⟩),D5 hfz] at hk
  have e2:Q3 l s=O++[s]:=by rw[he]; rfl
  refine fin (O.length+1) _ hk (by rw[e2]; simp) fun i hi=>?_
  rw[e2]
  show(K6 O.length (D7 O) [.sstr s] i).map AV.fv=_
  rw[A2n O s hi]; rfl
end Go.Proofs.Tryz
