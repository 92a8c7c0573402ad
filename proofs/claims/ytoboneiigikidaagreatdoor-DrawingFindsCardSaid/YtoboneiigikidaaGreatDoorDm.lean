/- Drawings: dimensions. -/
import Derived.Test.YtoboneiigikidaaGreatDoorDs
import Derived.Test.YtoboneiigikidaaGreatDoorAdFind
import Derived.Test.YtoboneiigikidaaGreatDoorShelf
noncomputable section
namespace Go.Proofs.Tryz
open Go.Ad
def gDm(d:Drw)(n:Nat):Int:=if R6 (K6 d n)≠0 then R6 (K6 d n) else if n>0/\A7c (K6 d (n-1)) (K6 d n)=false then 9
 else if(Q7 d (K6 d n).f (K6 d n).t (K6 d n).a).2≠0 then(Q7 d (K6 d n).f (K6 d n).t (K6 d n).a).2 else if(Q7 d (K6 d n).f (K6 d n).t (K6 d n).a).1<(K6 d n).lo \/ (Q7 d (K6 d n).f (K6 d n).t (K6 d n).a).1>(K6 d n).hi then 16 else 0
theorem G6f(y:Dim):(⟨y.f,y.t,y.a,y.lo,y.hi⟩:Dim)=y:=rfl
theorem E5{x:Dim}(h:R6 x=0):0<=x.a/\x.a<3:=by
 refine Classical.byContradiction fun hn=>?_
 unfold R6 at h
 split at h
 ·omega
 ·split at h
  ·omega
  ·split at h
   ·omega
   ·rw[if_pos (by omega)] at h; omega
def D5c:Code:=I7 (J6 0 (f46.body.getD .skip))
def sp46:SP:=⟨dr 1++[.is (.ptr (some (8,0)))]++dr 11++[.flist 5]++[.int .i64]++[.int .i64]++dr 49,dd8++[.any]⟩
def E1k:AEx->SP
 | .ret=>⟨dr 2++[.int .i64]++dr 62,dd8++[.any]⟩
 | .exit 0=>⟨dr 65,dd8++[.any]⟩
 | _=>sp46
theorem F7e(d:Drw)(n:Int):E8 prog (D5 prog pDt 60) (pDt.blk 46) D5c (sp46.rho [.n d.m.length,.fr (A7 Dim.fv d.m),.i d.m.length,.i n,.o (C9 d)]) (sp46.heap [.n d.m.length,.fr (A7 Dim.fv d.m),.i d.m.length,.i n,.o (C9 d)]) (H9 E1k 9 []) =
  brK (decide (n<(d.m.length:Int))) (brK (decide (0<=n/\n<(d.m.length:Int))) (brK (I9 (d.m.getD n.toNat default).f&&I9 (d.m.getD n.toNat default).t) (brK (R6 { f:=(d.m.getD n.toNat default).f,t:=(d.m.getD n.toNat default).t,a:=(d.m.getD n.toNat default).a,lo:=(d.m.getD n.toNat default).lo,hi:=(d.m.getD n.toNat default).hi } != 0) (some (.ret,[.i (R6 { f:=(d.m.getD n.toNat default).f,t:=(d.m.getD n.toNat default).t,a:=(d.m.getD n.toNat default).a,lo:=(d.m.getD n.toNat default).lo,hi:=(d.m.getD n.toNat default).hi }),.o (C9 d)])) (brK (decide (n>0)) (brK (decide (0<=W (n-1)/\W (n-1)<(d.m.length:Int))) (brK (decide (B0q { f:=(d.m.getD (W (n-1)).toNat default).f,t:=(d.m.getD (W (n-1)).toNat default).t,a:=(d.m.getD (W (n-1)).toNat default).a,lo:=(d.m.getD (W (n-1)).toNat default).lo,hi:=(d.m.getD (W (n-1)).toNat default).hi } { f:=(d.m.getD n.toNat default).f,t:=(d.m.getD n.toNat default).t,a:=(d.m.getD n.toNat default).a,lo:=(d.m.getD n.toNat default).lo,hi:=(d.m.getD n.toNat default).hi } >= 0)) (some (.ret,[.i (9),.o (C9 d)])) (brK (oD d) (brK (E9 (RightD (drE d)/\0<=(d.m.getD n.toNat default).a/\(d.m.getD n.toNat default).a<3)) (brK ((Q7 (drE d) (d.m.getD n.toNat default).f (d.m.getD n.toNat default).t (d.m.getD n.toNat default).a).snd != 0) (some (.ret,[.i ((Q7 (drE d) (d.m.getD n.toNat default).f (d.m.getD n.toNat default).t (d.m.getD n.toNat default).a).snd),.o (C9 d)])) (brK (decide ((Q7 (drE d) (d.m.getD n.toNat default).f (d.m.getD n.toNat default).t (d.m.getD n.toNat default).a).fst<(d.m.getD n.toNat default).lo)) (some (.ret,[.i (16),.o (C9 d)])) (brK (decide ((Q7 (drE d) (d.m.getD n.toNat default).f (d.m.getD n.toNat default).t (d.m.getD n.toNat default).a).fst>(d.m.getD n.toNat default).hi)) (some (.ret,[.i (16),.o (C9 d)])) (some (.normal,[.n (d.m.length),.fr (A7 Dim.fv d.m),.i ((d.m.length:Int)),.i (W (n+1)),.o (C9 d)]))))) none) none)) none) (brK (oD d) (brK (E9 (RightD (drE d)/\0<=(d.m.getD n.toNat default).a/\(d.m.getD n.toNat default).a<3)) (brK ((Q7 (drE d) (d.m.getD n.toNat default).f (d.m.getD n.toNat default).t (d.m.getD n.toNat default).a).snd != 0) (some (.ret,[.i ((Q7 (drE d) (d.m.getD n.toNat default).f (d.m.getD n.toNat default).t (d.m.getD n.toNat default).a).snd),.o (C9 d)])) (brK (decide ((Q7 (drE d) (d.m.getD n.toNat default).f (d.m.getD n.toNat default).t (d.m.getD n.toNat default).a).fst<(d.m.getD n.toNat default).lo)) (some (.ret,[.i (16),.o (C9 d)])) (brK (decide ((Q7 (drE d) (d.m.getD n.toNat default).f (d.m.getD n.toNat default).t (d.m.getD n.toNat default).a).fst>(d.m.getD n.toNat default).hi)) (some (.ret,[.i (16),.o (C9 d)])) (some (.normal,[.n (d.m.length),.fr (A7 Dim.fv d.m),.i ((d.m.length:Int)),.i (W (n+1)),.o (C9 d)]))))) none) none))) none) none) (some (.exit 0,[.o (C9 d)])):=by kernel_rfl
def L46(x:Drw)(n:Nat):List Lf:=[.n x.m.length,.fr (A7 Dim.fv x.m),.i x.m.length,.i n,.o (C9 x)]
def B5e:List Lf->Nat->List Lf
 | [_,_,_,_,.o o],n=>[.i (gDm (I6 o) n),.o o]
 | _,_=>[]
def F2s:List Lf->List Lf
 | [_,_,_,_,o]=>[o]
 | _=>[]
def N46(x:Drw):Nat:=x.m.length
def p46(x:Drw)(n:Nat):Bool:=decide (gDm x n=0)
def E7x(x:Drw):Prop:=RightD x
def B1v:List Lf->Drw
 | [_,_,_,_,.o o]=>I6 o
 | _=>default
theorem G5i(x:Drw)(hx:E7x x)(n:Nat)(hn:n<=N46 x):E8 prog (D5 prog pDt 60) (pDt.blk 46) D5c (sp46.rho (L46 x n)) (sp46.heap (L46 x n)) (H9 E1k 9 [])=some (if n<N46 x then(bif p46 x n then(.normal,L46 x (n+1)) else(.ret,B5e (L46 x 0) n)) else(.exit 0,F2s (L46 x 0))):=by
 have h1:RightD x:=hx
 simp only[L46,F2s]
 rw[F7e,I5 hn h1.ok.dim]
 simp only[tN,A3r,P8,G6f]
 by_cases h:n<N46 x
 ·rw[if_pos h]
  simp only[N46] at h
  have hz:(I9 (x.m.getD n default).f&&I9 (x.m.getD n default).t)=true:=by
   have:=h1.ok.dsz n h
   rw[bA]
   exact this
  have hm:=h1.ok.dim
  by_cases h0:n=0
  ·have e0:¬ (n:Int)>0:=by omega
   by_cases c1:R6 (x.m.getD n default)≠0
   ·skip
    have hg:gDm x n=R6 (x.m.getD n default):=by
     unfold gDm
     dsimp only [K6]
     repeat first
      | exact rfl
      | omega
      | refine J3 (by omega) ?_
      | refine G6 (by omega) ?_
      | refine G6 (fun h=>by omega) ?_
    have hp:p46 x n=false:=by unfold p46; rw[hg]; simpa using c1
    rw[hp,cond_false]
    simp only[B5e,D9,hg]
    repeat first
     | exact rfl
     | refine A8 rfl ?_
     | refine C8 rfl ?_
     | refine A8 (by simp only[SBs]; omega) ?_
     | refine C8 (by simp only[SBs]; omega) ?_
     | refine A8 hz ?_
     | refine A8 (A9 ⟨h1,(E5 (by omega)).1,(E5 (by omega)).2⟩) ?_
   by_cases c3:(Q7 x (x.m.getD n default).f (x.m.getD n default).t (x.m.getD n default).a).2≠0
   ·skip
    have hg:gDm x n=(Q7 x (x.m.getD n default).f (x.m.getD n default).t (x.m.getD n default).a).2:=by
     unfold gDm
     dsimp only [K6]
     repeat first
      | exact rfl
      | omega
      | refine J3 (by omega) ?_
      | refine G6 (by omega) ?_
      | refine G6 (fun h=>by omega) ?_
    have hp:p46 x n=false:=by unfold p46; rw[hg]; simpa using c3
    rw[hp,cond_false]
    simp only[B5e,D9,hg]
    repeat first
     | exact rfl
     | refine A8 rfl ?_
     | refine C8 rfl ?_
     | refine A8 (by simp only[SBs]; omega) ?_
     | refine C8 (by simp only[SBs]; omega) ?_
     | refine A8 hz ?_
     | refine A8 (A9 ⟨h1,(E5 (by omega)).1,(E5 (by omega)).2⟩) ?_
   by_cases c4:(Q7 x (x.m.getD n default).f (x.m.getD n default).t (x.m.getD n default).a).1<(x.m.getD n default).lo
   ·skip
    have hg:gDm x n=16:=by
     unfold gDm
     dsimp only [K6]
     repeat first
      | exact rfl
      | omega
      | refine J3 (by omega) ?_
      | refine G6 (by omega) ?_
      | refine G6 (fun h=>by omega) ?_
    have hp:p46 x n=false:=by unfold p46; rw[hg]; rfl
    rw[hp,cond_false]
    simp only[B5e,D9,hg]
    repeat first
     | exact rfl
     | refine A8 rfl ?_
     | refine C8 rfl ?_
     | refine A8 (by simp only[SBs]; omega) ?_
     | refine C8 (by simp only[SBs]; omega) ?_
     | refine A8 hz ?_
     | refine A8 (A9 ⟨h1,(E5 (by omega)).1,(E5 (by omega)).2⟩) ?_
   by_cases c5:(Q7 x (x.m.getD n default).f (x.m.getD n default).t (x.m.getD n default).a).1>(x.m.getD n default).hi
   ·skip
    have hg:gDm x n=16:=by
     unfold gDm
     dsimp only [K6]
     repeat first
      | exact rfl
      | omega
      | refine J3 (by omega) ?_
      | refine G6 (by omega) ?_
      | refine G6 (fun h=>by omega) ?_
    have hp:p46 x n=false:=by unfold p46; rw[hg]; rfl
    rw[hp,cond_false]
    simp only[B5e,D9,hg]
    repeat first
     | exact rfl
     | refine A8 rfl ?_
     | refine C8 rfl ?_
     | refine A8 (by simp only[SBs]; omega) ?_
     | refine C8 (by simp only[SBs]; omega) ?_
     | refine A8 hz ?_
     | refine A8 (A9 ⟨h1,(E5 (by omega)).1,(E5 (by omega)).2⟩) ?_
   have hg:gDm x n=0:=by
    unfold gDm
    dsimp only [K6]
    repeat first
     | exact rfl
     | omega
     | refine J3 (by omega) ?_
     | refine G6 (by omega) ?_
     | refine G6 (fun h=>by omega) ?_
   have hp:p46 x n=true:=by unfold p46; rw[hg]; rfl
   rw[hp,cond_true]
   repeat first
    | exact rfl
    | refine A8 rfl ?_
    | refine C8 rfl ?_
    | refine A8 (by simp only[SBs]; omega) ?_
    | refine C8 (by simp only[SBs]; omega) ?_
    | refine A8 hz ?_
    | refine A8 (A9 ⟨h1,(E5 (by omega)).1,(E5 (by omega)).2⟩) ?_
  have e1:W ((n:Int)-1)=((n-1:Nat):Int):=by rw[D4d (by omega) (by omega)]; omega
  rw[e1]
  simp only[tN]
  by_cases c1:R6 (x.m.getD n default)≠0
  ·skip
   have hg:gDm x n=R6 (x.m.getD n default):=by
    unfold gDm
    dsimp only [K6]
    repeat first
     | exact rfl
     | omega
     | refine J3 (by omega) ?_
     | refine G6 (by omega) ?_
     | refine J3 ⟨by omega,c2⟩ ?_
     | refine G6 (fun h=>c2 h.2) ?_
     | refine G6 (fun h=>by omega) ?_
   have hp:p46 x n=false:=by unfold p46; rw[hg]; simpa using c1
   rw[hp,cond_false]
   simp only[B5e,D9,hg]
   repeat first
    | exact rfl
    | refine A8 rfl ?_
    | refine C8 rfl ?_
    | refine A8 (by simp only[SBs]; omega) ?_
    | refine C8 (by simp only[SBs]; omega) ?_
    | refine A8 hz ?_
    | refine A8 (A9 ⟨h1,(E5 (by omega)).1,(E5 (by omega)).2⟩) ?_
    | refine A8 (dT ((M4 _ _).2 c2)) ?_
    | refine C8 (dF fun h=>c2 ((M4 _ _).1 h)) ?_
    | refine A8 (notT c2) ?_
    | refine C8 (A9h c2) ?_
  by_cases c2:A7c (x.m.getD (n-1) default) (x.m.getD n default)=false
  ·skip
   have hg:gDm x n=9:=by
    unfold gDm
    dsimp only [K6]
    repeat first
     | exact rfl
     | omega
     | refine J3 (by omega) ?_
     | refine G6 (by omega) ?_
     | refine J3 ⟨by omega,c2⟩ ?_
     | refine G6 (fun h=>c2 h.2) ?_
     | refine G6 (fun h=>by omega) ?_
   have hp:p46 x n=false:=by unfold p46; rw[hg]; rfl
   rw[hp,cond_false]
   simp only[B5e,D9,hg]
   repeat first
    | exact rfl
    | refine A8 rfl ?_
    | refine C8 rfl ?_
    | refine A8 (by simp only[SBs]; omega) ?_
    | refine C8 (by simp only[SBs]; omega) ?_
    | refine A8 hz ?_
    | refine A8 (A9 ⟨h1,(E5 (by omega)).1,(E5 (by omega)).2⟩) ?_
    | refine A8 (dT ((M4 _ _).2 c2)) ?_
    | refine C8 (dF fun h=>c2 ((M4 _ _).1 h)) ?_
    | refine A8 (notT c2) ?_
    | refine C8 (A9h c2) ?_
  by_cases c3:(Q7 x (x.m.getD n default).f (x.m.getD n default).t (x.m.getD n default).a).2≠0
  ·skip
   have hg:gDm x n=(Q7 x (x.m.getD n default).f (x.m.getD n default).t (x.m.getD n default).a).2:=by
    unfold gDm
    dsimp only [K6]
    repeat first
     | exact rfl
     | omega
     | refine J3 (by omega) ?_
     | refine G6 (by omega) ?_
     | refine J3 ⟨by omega,c2⟩ ?_
     | refine G6 (fun h=>c2 h.2) ?_
     | refine G6 (fun h=>by omega) ?_
   have hp:p46 x n=false:=by unfold p46; rw[hg]; simpa using c3
   rw[hp,cond_false]
   simp only[B5e,D9,hg]
   repeat first
    | exact rfl
    | refine A8 rfl ?_
    | refine C8 rfl ?_
    | refine A8 (by simp only[SBs]; omega) ?_
    | refine C8 (by simp only[SBs]; omega) ?_
    | refine A8 hz ?_
    | refine A8 (A9 ⟨h1,(E5 (by omega)).1,(E5 (by omega)).2⟩) ?_
    | refine A8 (dT ((M4 _ _).2 c2)) ?_
    | refine C8 (dF fun h=>c2 ((M4 _ _).1 h)) ?_
    | refine A8 (notT c2) ?_
    | refine C8 (A9h c2) ?_
  by_cases c4:(Q7 x (x.m.getD n default).f (x.m.getD n default).t (x.m.getD n default).a).1<(x.m.getD n default).lo
  ·skip
   have hg:gDm x n=16:=by
    unfold gDm
    dsimp only [K6]
    repeat first
     | exact rfl
     | omega
     | refine J3 (by omega) ?_
     | refine G6 (by omega) ?_
     | refine J3 ⟨by omega,c2⟩ ?_
     | refine G6 (fun h=>c2 h.2) ?_
     | refine G6 (fun h=>by omega) ?_
   have hp:p46 x n=false:=by unfold p46; rw[hg]; rfl
   rw[hp,cond_false]
   simp only[B5e,D9,hg]
   repeat first
    | exact rfl
    | refine A8 rfl ?_
    | refine C8 rfl ?_
    | refine A8 (by simp only[SBs]; omega) ?_
    | refine C8 (by simp only[SBs]; omega) ?_
    | refine A8 hz ?_
    | refine A8 (A9 ⟨h1,(E5 (by omega)).1,(E5 (by omega)).2⟩) ?_
    | refine A8 (dT ((M4 _ _).2 c2)) ?_
    | refine C8 (dF fun h=>c2 ((M4 _ _).1 h)) ?_
    | refine A8 (notT c2) ?_
    | refine C8 (A9h c2) ?_
  by_cases c5:(Q7 x (x.m.getD n default).f (x.m.getD n default).t (x.m.getD n default).a).1>(x.m.getD n default).hi
  ·skip
   have hg:gDm x n=16:=by
    unfold gDm
    dsimp only [K6]
    repeat first
     | exact rfl
     | omega
     | refine J3 (by omega) ?_
     | refine G6 (by omega) ?_
     | refine J3 ⟨by omega,c2⟩ ?_
     | refine G6 (fun h=>c2 h.2) ?_
     | refine G6 (fun h=>by omega) ?_
   have hp:p46 x n=false:=by unfold p46; rw[hg]; rfl
   rw[hp,cond_false]
   simp only[B5e,D9,hg]
   repeat first
    | exact rfl
    | refine A8 rfl ?_
    | refine C8 rfl ?_
    | refine A8 (by simp only[SBs]; omega) ?_
    | refine C8 (by simp only[SBs]; omega) ?_
    | refine A8 hz ?_
    | refine A8 (A9 ⟨h1,(E5 (by omega)).1,(E5 (by omega)).2⟩) ?_
    | refine A8 (dT ((M4 _ _).2 c2)) ?_
    | refine C8 (dF fun h=>c2 ((M4 _ _).1 h)) ?_
    | refine A8 (notT c2) ?_
    | refine C8 (A9h c2) ?_
  have hg:gDm x n=0:=by
   unfold gDm
   dsimp only [K6]
   repeat first
    | exact rfl
    | omega
    | refine J3 (by omega) ?_
    | refine G6 (by omega) ?_
    | refine G6 (fun h=>c2 h.2) ?_
    | refine G6 (fun h=>by omega) ?_
  have hp:p46 x n=true:=by unfold p46; rw[hg]; rfl
  rw[hp,cond_true]
  repeat first
   | exact rfl
   | refine A8 rfl ?_
   | refine C8 rfl ?_
   | refine A8 (by simp only[SBs]; omega) ?_
   | refine C8 (by simp only[SBs]; omega) ?_
   | refine A8 hz ?_
   | refine A8 (A9 ⟨h1,(E5 (by omega)).1,(E5 (by omega)).2⟩) ?_
   | refine A8 (dT ((M4 _ _).2 c2)) ?_
   | refine C8 (dF fun h=>c2 ((M4 _ _).1 h)) ?_
   | refine A8 (notT c2) ?_
   | refine C8 (A9h c2) ?_
 ·rw[if_neg h]
  simp only[N46] at h
  refine C8 (dF (by omega)) ?_
  rfl
def G6v:Blk:=hookP sp46 9 [] (fdT E1k 0 .ret (.exit 0) B1v L46 B5e F2s N46 p46 E7x)
theorem F4w{A:Amb}{q:Prims}(h0:PrimOK prog A pDt)(hq:PrimOK prog A q):PrimOK prog A (q.addb 46 0 G6v) :=
 SEB.findR (id:=0) (ds:=[]) (dec:=B1v) (sp:=sp46) (sq:=E1k) (m:=9) (eb:=.ret) (ee:=.exit 0) (L:=L46) (Lb:=B5e) (Le:=F2s) (N:=N46) (p:=p46) (Inv:=E7x) (k:=60) F7 F9 h0 hq func46 (show f46.body=some (f46.body.getD .skip) by kernel_rfl) (body:=D5c) (by kernel_rfl)
  rfl rfl rfl rfl (by simp) (by simp) (fun _ _=>⟨⟨.inr rfl,.inr rfl,.inr rfl,.inr rfl,.inr rfl,.inr rfl,.inr rfl,.inr rfl,.inr rfl,trivial⟩,⟨.inr rfl,.inr rfl,.inr rfl,.inr rfl,.inr rfl,.inr rfl,.inr rfl,.inr rfl,.inr rfl,trivial⟩⟩) G5i
def D5g:Code:=I7 (J6 0 (f52.body.getD .skip))
def sp52:SP:=⟨dr 1++[.is (.ptr (some (8,0)))]++dr 1++[.int .i64]++dr 57,dd8++[.any]⟩
def E1o:AEx->SP
 | .ret=>⟨dr 2++[.int .i64]++dr 58,dd8++[.any]⟩
 | .exit 0=>⟨dr 61,dd8++[.any]⟩
 | _=>sp52
theorem F7i(d:Drw)(n:Int):E8 prog (D5 prog pDt 60) (pDt.blk 52) D5g (sp52.rho [.i n,.o (C9 d)]) (sp52.heap [.i n,.o (C9 d)]) (H9 E1o 9 []) =
  brK (decide (n<(d.m.length:Int))) (brK (decide (0<=n/\n<(d.m.length:Int))) (brK (I9 (d.m.getD n.toNat default).f&&I9 (d.m.getD n.toNat default).t) (brK (R6 { f:=(d.m.getD n.toNat default).f,t:=(d.m.getD n.toNat default).t,a:=(d.m.getD n.toNat default).a,lo:=(d.m.getD n.toNat default).lo,hi:=(d.m.getD n.toNat default).hi } != 0) (some (.ret,[.i (R6 { f:=(d.m.getD n.toNat default).f,t:=(d.m.getD n.toNat default).t,a:=(d.m.getD n.toNat default).a,lo:=(d.m.getD n.toNat default).lo,hi:=(d.m.getD n.toNat default).hi }),.o (C9 d)])) (brK (decide (n>0)) (brK (decide (0<=W (n-1)/\W (n-1)<(d.m.length:Int))) (brK (!A7c { f:=(d.m.getD (W (n-1)).toNat default).f,t:=(d.m.getD (W (n-1)).toNat default).t,a:=(d.m.getD (W (n-1)).toNat default).a,lo:=(d.m.getD (W (n-1)).toNat default).lo,hi:=(d.m.getD (W (n-1)).toNat default).hi } { f:=(d.m.getD n.toNat default).f,t:=(d.m.getD n.toNat default).t,a:=(d.m.getD n.toNat default).a,lo:=(d.m.getD n.toNat default).lo,hi:=(d.m.getD n.toNat default).hi }) (some (.ret,[.i (9),.o (C9 d)])) (brK (oD d) (brK (E9 (RightD (drE d)/\0<=(d.m.getD n.toNat default).a/\(d.m.getD n.toNat default).a<3)) (brK ((Q7 (drE d) (d.m.getD n.toNat default).f (d.m.getD n.toNat default).t (d.m.getD n.toNat default).a).snd != 0) (some (.ret,[.i ((Q7 (drE d) (d.m.getD n.toNat default).f (d.m.getD n.toNat default).t (d.m.getD n.toNat default).a).snd),.o (C9 d)])) (brK (decide ((Q7 (drE d) (d.m.getD n.toNat default).f (d.m.getD n.toNat default).t (d.m.getD n.toNat default).a).fst >= (d.m.getD n.toNat default).lo)) (brK (!decide ((Q7 (drE d) (d.m.getD n.toNat default).f (d.m.getD n.toNat default).t (d.m.getD n.toNat default).a).fst<=(d.m.getD n.toNat default).hi)) (some (.ret,[.i (16),.o (C9 d)])) (some (.normal,[.i (W (n+1)),.o (C9 d)]))) (some (.ret,[.i (16),.o (C9 d)])))) none) none)) none) (brK (oD d) (brK (E9 (RightD (drE d)/\0<=(d.m.getD n.toNat default).a/\(d.m.getD n.toNat default).a<3)) (brK ((Q7 (drE d) (d.m.getD n.toNat default).f (d.m.getD n.toNat default).t (d.m.getD n.toNat default).a).snd != 0) (some (.ret,[.i ((Q7 (drE d) (d.m.getD n.toNat default).f (d.m.getD n.toNat default).t (d.m.getD n.toNat default).a).snd),.o (C9 d)])) (brK (decide ((Q7 (drE d) (d.m.getD n.toNat default).f (d.m.getD n.toNat default).t (d.m.getD n.toNat default).a).fst >= (d.m.getD n.toNat default).lo)) (brK (!decide ((Q7 (drE d) (d.m.getD n.toNat default).f (d.m.getD n.toNat default).t (d.m.getD n.toNat default).a).fst<=(d.m.getD n.toNat default).hi)) (some (.ret,[.i (16),.o (C9 d)])) (some (.normal,[.i (W (n+1)),.o (C9 d)]))) (some (.ret,[.i (16),.o (C9 d)])))) none) none))) none) none) (some (.exit 0,[.o (C9 d)])):=by kernel_rfl
def L52(x:Drw)(n:Nat):List Lf:=[.i n,.o (C9 x)]
def B5f:List Lf->Nat->List Lf
 | [_,.o o],n=>[.i (gDm (I6 o) n),.o o]
 | _,_=>[]
def F2v:List Lf->List Lf
 | [_,o]=>[o]
 | _=>[]
def N52(x:Drw):Nat:=x.m.length
def p52(x:Drw)(n:Nat):Bool:=decide (gDm x n=0)
def E7z(x:Drw):Prop:=RightD x
def B1y:List Lf->Drw
 | [_,.o o]=>I6 o
 | _=>default
theorem G5m(x:Drw)(hx:E7z x)(n:Nat)(hn:n<=N52 x):E8 prog (D5 prog pDt 60) (pDt.blk 52) D5g (sp52.rho (L52 x n)) (sp52.heap (L52 x n)) (H9 E1o 9 [])=some (if n<N52 x then(bif p52 x n then(.normal,L52 x (n+1)) else(.ret,B5f (L52 x 0) n)) else(.exit 0,F2v (L52 x 0))):=by
 have h1:RightD x:=hx
 simp only[L52,F2v]
 rw[F7i,I5 hn h1.ok.dim]
 simp only[tN,A3r,P8,G6f]
 by_cases h:n<N52 x
 ·rw[if_pos h]
  simp only[N52] at h
  have hz:(I9 (x.m.getD n default).f&&I9 (x.m.getD n default).t)=true:=by
   have:=h1.ok.dsz n h
   rw[bA]
   exact this
  have hm:=h1.ok.dim
  by_cases h0:n=0
  ·have e0:¬ (n:Int)>0:=by omega
   by_cases c1:R6 (x.m.getD n default)≠0
   ·skip
    have hg:gDm x n=R6 (x.m.getD n default):=by
     unfold gDm
     dsimp only [K6]
     repeat first
      | exact rfl
      | omega
      | refine J3 (by omega) ?_
      | refine G6 (by omega) ?_
      | refine G6 (fun h=>by omega) ?_
    have hp:p52 x n=false:=by unfold p52; rw[hg]; simpa using c1
    rw[hp,cond_false]
    simp only[B5f,D9,hg]
    repeat first
     | exact rfl
     | refine A8 rfl ?_
     | refine C8 rfl ?_
     | refine A8 (by simp only[SBs]; omega) ?_
     | refine C8 (by simp only[SBs]; omega) ?_
     | refine A8 hz ?_
     | refine A8 (A9 ⟨h1,(E5 (by omega)).1,(E5 (by omega)).2⟩) ?_
   by_cases c3:(Q7 x (x.m.getD n default).f (x.m.getD n default).t (x.m.getD n default).a).2≠0
   ·skip
    have hg:gDm x n=(Q7 x (x.m.getD n default).f (x.m.getD n default).t (x.m.getD n default).a).2:=by
     unfold gDm
     dsimp only [K6]
     repeat first
      | exact rfl
      | omega
      | refine J3 (by omega) ?_
      | refine G6 (by omega) ?_
      | refine G6 (fun h=>by omega) ?_
    have hp:p52 x n=false:=by unfold p52; rw[hg]; simpa using c3
    rw[hp,cond_false]
    simp only[B5f,D9,hg]
    repeat first
     | exact rfl
     | refine A8 rfl ?_
     | refine C8 rfl ?_
     | refine A8 (by simp only[SBs]; omega) ?_
     | refine C8 (by simp only[SBs]; omega) ?_
     | refine A8 hz ?_
     | refine A8 (A9 ⟨h1,(E5 (by omega)).1,(E5 (by omega)).2⟩) ?_
   by_cases c4:(Q7 x (x.m.getD n default).f (x.m.getD n default).t (x.m.getD n default).a).1<(x.m.getD n default).lo
   ·skip
    have hg:gDm x n=16:=by
     unfold gDm
     dsimp only [K6]
     repeat first
      | exact rfl
      | omega
      | refine J3 (by omega) ?_
      | refine G6 (by omega) ?_
      | refine G6 (fun h=>by omega) ?_
    have hp:p52 x n=false:=by unfold p52; rw[hg]; rfl
    rw[hp,cond_false]
    simp only[B5f,D9,hg]
    repeat first
     | exact rfl
     | refine A8 rfl ?_
     | refine C8 rfl ?_
     | refine A8 (by simp only[SBs]; omega) ?_
     | refine C8 (by simp only[SBs]; omega) ?_
     | refine A8 hz ?_
     | refine A8 (A9 ⟨h1,(E5 (by omega)).1,(E5 (by omega)).2⟩) ?_
   by_cases c5:(Q7 x (x.m.getD n default).f (x.m.getD n default).t (x.m.getD n default).a).1>(x.m.getD n default).hi
   ·skip
    have hg:gDm x n=16:=by
     unfold gDm
     dsimp only [K6]
     repeat first
      | exact rfl
      | omega
      | refine J3 (by omega) ?_
      | refine G6 (by omega) ?_
      | refine G6 (fun h=>by omega) ?_
    have hp:p52 x n=false:=by unfold p52; rw[hg]; rfl
    rw[hp,cond_false]
    simp only[B5f,D9,hg]
    repeat first
     | exact rfl
     | refine A8 rfl ?_
     | refine C8 rfl ?_
     | refine A8 (by simp only[SBs]; omega) ?_
     | refine C8 (by simp only[SBs]; omega) ?_
     | refine A8 hz ?_
     | refine A8 (A9 ⟨h1,(E5 (by omega)).1,(E5 (by omega)).2⟩) ?_
   have hg:gDm x n=0:=by
    unfold gDm
    dsimp only [K6]
    repeat first
     | exact rfl
     | omega
     | refine J3 (by omega) ?_
     | refine G6 (by omega) ?_
     | refine G6 (fun h=>by omega) ?_
   have hp:p52 x n=true:=by unfold p52; rw[hg]; rfl
   rw[hp,cond_true]
   repeat first
    | exact rfl
    | refine A8 rfl ?_
    | refine C8 rfl ?_
    | refine A8 (by simp only[SBs]; omega) ?_
    | refine C8 (by simp only[SBs]; omega) ?_
    | refine A8 hz ?_
    | refine A8 (A9 ⟨h1,(E5 (by omega)).1,(E5 (by omega)).2⟩) ?_
  have e1:W ((n:Int)-1)=((n-1:Nat):Int):=by rw[D4d (by omega) (by omega)]; omega
  rw[e1]
  simp only[tN]
  by_cases c1:R6 (x.m.getD n default)≠0
  ·skip
   have hg:gDm x n=R6 (x.m.getD n default):=by
    unfold gDm
    dsimp only [K6]
    repeat first
     | exact rfl
     | omega
     | refine J3 (by omega) ?_
     | refine G6 (by omega) ?_
     | refine J3 ⟨by omega,c2⟩ ?_
     | refine G6 (fun h=>c2 h.2) ?_
     | refine G6 (fun h=>by omega) ?_
   have hp:p52 x n=false:=by unfold p52; rw[hg]; simpa using c1
   rw[hp,cond_false]
   simp only[B5f,D9,hg]
   repeat first
    | exact rfl
    | refine A8 rfl ?_
    | refine C8 rfl ?_
    | refine A8 (by simp only[SBs]; omega) ?_
    | refine C8 (by simp only[SBs]; omega) ?_
    | refine A8 hz ?_
    | refine A8 (A9 ⟨h1,(E5 (by omega)).1,(E5 (by omega)).2⟩) ?_
    | refine A8 (dT ((M4 _ _).2 c2)) ?_
    | refine C8 (dF fun h=>c2 ((M4 _ _).1 h)) ?_
    | refine A8 (notT c2) ?_
    | refine C8 (A9h c2) ?_
  by_cases c2:A7c (x.m.getD (n-1) default) (x.m.getD n default)=false
  ·skip
   have hg:gDm x n=9:=by
    unfold gDm
    dsimp only [K6]
    repeat first
     | exact rfl
     | omega
     | refine J3 (by omega) ?_
     | refine G6 (by omega) ?_
     | refine J3 ⟨by omega,c2⟩ ?_
     | refine G6 (fun h=>c2 h.2) ?_
     | refine G6 (fun h=>by omega) ?_
   have hp:p52 x n=false:=by unfold p52; rw[hg]; rfl
   rw[hp,cond_false]
   simp only[B5f,D9,hg]
   repeat first
    | exact rfl
    | refine A8 rfl ?_
    | refine C8 rfl ?_
    | refine A8 (by simp only[SBs]; omega) ?_
    | refine C8 (by simp only[SBs]; omega) ?_
    | refine A8 hz ?_
    | refine A8 (A9 ⟨h1,(E5 (by omega)).1,(E5 (by omega)).2⟩) ?_
    | refine A8 (dT ((M4 _ _).2 c2)) ?_
    | refine C8 (dF fun h=>c2 ((M4 _ _).1 h)) ?_
    | refine A8 (notT c2) ?_
    | refine C8 (A9h c2) ?_
  by_cases c3:(Q7 x (x.m.getD n default).f (x.m.getD n default).t (x.m.getD n default).a).2≠0
  ·skip
   have hg:gDm x n=(Q7 x (x.m.getD n default).f (x.m.getD n default).t (x.m.getD n default).a).2:=by
    unfold gDm
    dsimp only [K6]
    repeat first
     | exact rfl
     | omega
     | refine J3 (by omega) ?_
     | refine G6 (by omega) ?_
     | refine J3 ⟨by omega,c2⟩ ?_
     | refine G6 (fun h=>c2 h.2) ?_
     | refine G6 (fun h=>by omega) ?_
   have hp:p52 x n=false:=by unfold p52; rw[hg]; simpa using c3
   rw[hp,cond_false]
   simp only[B5f,D9,hg]
   repeat first
    | exact rfl
    | refine A8 rfl ?_
    | refine C8 rfl ?_
    | refine A8 (by simp only[SBs]; omega) ?_
    | refine C8 (by simp only[SBs]; omega) ?_
    | refine A8 hz ?_
    | refine A8 (A9 ⟨h1,(E5 (by omega)).1,(E5 (by omega)).2⟩) ?_
    | refine A8 (dT ((M4 _ _).2 c2)) ?_
    | refine C8 (dF fun h=>c2 ((M4 _ _).1 h)) ?_
    | refine A8 (notT c2) ?_
    | refine C8 (A9h c2) ?_
  by_cases c4:(Q7 x (x.m.getD n default).f (x.m.getD n default).t (x.m.getD n default).a).1<(x.m.getD n default).lo
  ·skip
   have hg:gDm x n=16:=by
    unfold gDm
    dsimp only [K6]
    repeat first
     | exact rfl
     | omega
     | refine J3 (by omega) ?_
     | refine G6 (by omega) ?_
     | refine J3 ⟨by omega,c2⟩ ?_
     | refine G6 (fun h=>c2 h.2) ?_
     | refine G6 (fun h=>by omega) ?_
   have hp:p52 x n=false:=by unfold p52; rw[hg]; rfl
   rw[hp,cond_false]
   simp only[B5f,D9,hg]
   repeat first
    | exact rfl
    | refine A8 rfl ?_
    | refine C8 rfl ?_
    | refine A8 (by simp only[SBs]; omega) ?_
    | refine C8 (by simp only[SBs]; omega) ?_
    | refine A8 hz ?_
    | refine A8 (A9 ⟨h1,(E5 (by omega)).1,(E5 (by omega)).2⟩) ?_
    | refine A8 (dT ((M4 _ _).2 c2)) ?_
    | refine C8 (dF fun h=>c2 ((M4 _ _).1 h)) ?_
    | refine A8 (notT c2) ?_
    | refine C8 (A9h c2) ?_
  by_cases c5:(Q7 x (x.m.getD n default).f (x.m.getD n default).t (x.m.getD n default).a).1>(x.m.getD n default).hi
  ·skip
   have hg:gDm x n=16:=by
    unfold gDm
    dsimp only [K6]
    repeat first
     | exact rfl
     | omega
     | refine J3 (by omega) ?_
     | refine G6 (by omega) ?_
     | refine J3 ⟨by omega,c2⟩ ?_
     | refine G6 (fun h=>c2 h.2) ?_
     | refine G6 (fun h=>by omega) ?_
   have hp:p52 x n=false:=by unfold p52; rw[hg]; rfl
   rw[hp,cond_false]
   simp only[B5f,D9,hg]
   repeat first
    | exact rfl
    | refine A8 rfl ?_
    | refine C8 rfl ?_
    | refine A8 (by simp only[SBs]; omega) ?_
    | refine C8 (by simp only[SBs]; omega) ?_
    | refine A8 hz ?_
    | refine A8 (A9 ⟨h1,(E5 (by omega)).1,(E5 (by omega)).2⟩) ?_
    | refine A8 (dT ((M4 _ _).2 c2)) ?_
    | refine C8 (dF fun h=>c2 ((M4 _ _).1 h)) ?_
    | refine A8 (notT c2) ?_
    | refine C8 (A9h c2) ?_
  have hg:gDm x n=0:=by
   unfold gDm
   dsimp only [K6]
   repeat first
    | exact rfl
    | omega
    | refine J3 (by omega) ?_
    | refine G6 (by omega) ?_
    | refine G6 (fun h=>c2 h.2) ?_
    | refine G6 (fun h=>by omega) ?_
  have hp:p52 x n=true:=by unfold p52; rw[hg]; rfl
  rw[hp,cond_true]
  repeat first
   | exact rfl
   | refine A8 rfl ?_
   | refine C8 rfl ?_
   | refine A8 (by simp only[SBs]; omega) ?_
   | refine C8 (by simp only[SBs]; omega) ?_
   | refine A8 hz ?_
   | refine A8 (A9 ⟨h1,(E5 (by omega)).1,(E5 (by omega)).2⟩) ?_
   | refine A8 (dT ((M4 _ _).2 c2)) ?_
   | refine C8 (dF fun h=>c2 ((M4 _ _).1 h)) ?_
   | refine A8 (notT c2) ?_
   | refine C8 (A9h c2) ?_
 ·rw[if_neg h]
  simp only[N52] at h
  refine C8 (dF (by omega)) ?_
  rfl
def G6y:Blk:=hookP sp52 9 [] (fdT E1o 0 .ret (.exit 0) B1y L52 B5f F2v N52 p52 E7z)
theorem F4z{A:Amb}{q:Prims}(h0:PrimOK prog A pDt)(hq:PrimOK prog A q):PrimOK prog A (q.addb 52 0 G6y) :=
 SEB.findR (id:=0) (ds:=[]) (dec:=B1y) (sp:=sp52) (sq:=E1o) (m:=9) (eb:=.ret) (ee:=.exit 0) (L:=L52) (Lb:=B5f) (Le:=F2v) (N:=N52) (p:=p52) (Inv:=E7z) (k:=60) F7 F9 h0 hq func52 (show f52.body=some (f52.body.getD .skip) by kernel_rfl) (body:=D5g) (by kernel_rfl)
  rfl rfl rfl rfl (by simp) (by simp) (fun _ _=>⟨⟨.inr rfl,.inr rfl,.inr rfl,.inr rfl,.inr rfl,.inr rfl,.inr rfl,.inr rfl,.inr rfl,trivial⟩,⟨.inr rfl,.inr rfl,.inr rfl,.inr rfl,.inr rfl,.inr rfl,.inr rfl,.inr rfl,.inr rfl,trivial⟩⟩) G5m
theorem B8d(d:Drw)(a b c e:Lf):B1v [a,b,c,e,Lf.o (C9 d)]=d:=by simp[B1v,D9]
theorem B8f(d:Drw)(a:Lf):B1y [a,Lf.o (C9 d)]=d:=by simp[B1y,D9]
theorem F9e(d:Drw):fdE p46 N46 d=decide (S9 (gDm d) d.m.length=0):=Z8 (gDm d) fun _ _=>rfl
theorem F9f(d:Drw):fdE p52 N52 d=decide (S9 (gDm d) d.m.length=0):=Z8 (gDm d) fun _ _=>rfl
theorem G4t{d:Drw}(h:S9 (gDm d) d.m.length≠0):gDm d (G5 (p46 d) (N46 d) 0)=S9 (gDm d) d.m.length:=(X8 (p:=p46 d) (fun _ _=>rfl) h).2
theorem G4v{d:Drw}(h:S9 (gDm d) d.m.length≠0):gDm d (G5 (p52 d) (N52 d) 0)=S9 (gDm d) d.m.length:=(X8 (p:=p52 d) (fun _ _=>rfl) h).2
def B2c(d:Drw):Int:=if d.m.length>256 then 5 else S9 (gDm d) d.m.length
def E9c:Prims:=(pDt.addb 46 0 G6v).addb 52 0 G6y
theorem F6e{A:Amb}(hT:Tab A)(hG:gN prog<=A.G):PrimOK prog A E9c:=by
 have h0:=E9e hT hG
 exact F4z h0 (F4w h0 h0)
theorem G9o(d:Drw):(D5 prog E9c 60).call 46 [.agg d.av] (Bg 8) F8 =
  brK (decide ((d.m.length:Int)>256)) (some (.int .i64 5)) (brK (fdC L46 B1v E7x [.n (d.m.length),.fr (A7 Dim.fv d.m),.i ((d.m.length:Int)),.i (0),.o (C9 d)]) (brK (fdE p46 N46 (B1v [.n (d.m.length),.fr (A7 Dim.fv d.m),.i ((d.m.length:Int)),.i (0),.o (C9 d)])) (some (.int .i64 0)) (some (.sint IntKind.i64 (gDm (I6 (C9 d)) (G5 (p46 (B1v [.n (d.m.length),.fr (A7 Dim.fv d.m),.i ((d.m.length:Int)),.i (0),.o (C9 d)])) (N46 (B1v [.n (d.m.length),.fr (A7 Dim.fv d.m),.i ((d.m.length:Int)),.i (0),.o (C9 d)])) 0))))) none):=by kernel_rfl
theorem H1t(d:Drw)(hk:RightD d):∃ v,(D5 prog E9c 60).call 46 [.agg d.av] (Bg 8) F8=some v/\O9 (B2c d) v:=by
 rw[G9o]
 simp only[B8d,F9e,D9]
 by_cases c1:d.m.length>256
 rotate_left
 by_cases c2:S9 (gDm d) d.m.length≠0
 rotate_left
 all_goals
  apply exV
  focus
   repeat first
    | exact rfl
    | refine A8 rfl ?_
    | refine C8 rfl ?_
    | refine A8 (by simp only[SBs]; omega) ?_
    | refine C8 (by simp only[SBs]; omega) ?_
    | refine A8 (J5 (L:=L46) (dec:=B1v) (Inv:=E7x) (x:=d) (B8d d _ _ _ _) hk) ?_
  focus
   first
    | apply viI
    | apply viS
   dsimp only [B2c]
   repeat first
    | exact rfl
    | omega
    | refine J3 (by omega) ?_
    | refine G6 (by omega) ?_
    | exact(G4t c2).symm
theorem G9u(d:Drw):(D5 prog E9c 60).call 52 [.agg d.av] (Bg 8) F8 =
  brK (decide ((d.m.length:Int)>256)) (some (.int .i64 5)) (brK (fdC L52 B1y E7z [.i (0),.o (C9 d)]) (brK (fdE p52 N52 (B1y [.i (0),.o (C9 d)])) (some (.int .i64 0)) (some (.sint IntKind.i64 (gDm (I6 (C9 d)) (G5 (p52 (B1y [.i (0),.o (C9 d)])) (N52 (B1y [.i (0),.o (C9 d)])) 0))))) none):=by kernel_rfl
theorem H1y(d:Drw)(hk:RightD d):∃ v,(D5 prog E9c 60).call 52 [.agg d.av] (Bg 8) F8=some v/\O9 (B2c d) v:=by
 rw[G9u]
 simp only[B8f,F9f,D9]
 by_cases c1:d.m.length>256
 rotate_left
 by_cases c2:S9 (gDm d) d.m.length≠0
 rotate_left
 all_goals
  apply exV
  focus
   repeat first
    | exact rfl
    | refine A8 rfl ?_
    | refine C8 rfl ?_
    | refine A8 (by simp only[SBs]; omega) ?_
    | refine C8 (by simp only[SBs]; omega) ?_
    | refine A8 (J5 (L:=L52) (dec:=B1y) (Inv:=E7z) (x:=d) (B8f d _) hk) ?_
  focus
   first
    | apply viI
    | apply viS
   dsimp only [B2c]
   repeat first
    | exact rfl
    | omega
    | refine J3 (by omega) ?_
    | refine G6 (by omega) ?_
    | exact(G4v c2).symm
def VDm(d:Drw):Tr AV:=.br (E9 (RightD d)) (.leaf (.sint .i64 (B2c d))) .fail
def pDm:Prims:=(pDt.addt 46 (M8 O5 VDm)).addt 52 (M8 O5 VDm)
theorem G3n{A:Amb}(hT:Tab A)(hG:gN prog<=A.G):PrimOK prog A pDm:=by
 have h0:=F6e hT hG
 refine H8 hG h0 (H8 hG h0 (E9e hT hG) O5 VDm func46 (by kernel_rfl) fun x v hv=>?_) O5 VDm func52 (by kernel_rfl) fun x v hv=>?_
 ·obtain⟨hz,hv⟩:=Tr.br1 hv
  cases hv
  obtain⟨v',h1,h2⟩:=H1t x (H6 hz)
  exact⟨v',h1,G9 h2,J9 h2⟩
 ·obtain⟨hz,hv⟩:=Tr.br1 hv
  cases hv
  obtain⟨v',h1,h2⟩:=H1y x (H6 hz)
  exact⟨v',h1,G9 h2,J9 h2⟩
theorem B9w{d:Drw}(h:OkD d)(he:A2n d=0):RightD d:=by
 refine⟨h,fun i hi=>?_⟩
 have h1:S9 (gFe d) d.l.length=0:=by
  unfold A2n at he
  split at he
  ·omega
  ·exact he
 have h2:=G6l.1 h1 i hi
 refine Classical.byContradiction fun hn=>?_
 have h3:W9 (D8 d i)≠0:=by unfold W9; rw[if_pos hn]; exact hn
 unfold gFe at h2
 rw[if_pos h3] at h2
 exact h3 h2
def A5x:Code:=I7 (J6 0 (f90.body.getD .skip))
def sp90:SP:=⟨[.flist 1,.str]++dr 3++[.list 8,.bool,.int .i64]++dr 40,dd8++[.vec 1 9]⟩
def sq90:SP:=⟨[.drop,.str]++dr 3++[.list 8,.bool]++dr 41,dd8++[.vec 1 9]⟩
def D3k:AEx->SP
 | .normal=>sp90
 | _=>sq90
def A5j(l:List Txt)(s:Txt)(m:Nat)(b:Bool)(i:Int)(r:Nat->List AV):List Lf:=[.n l.length,.fr (A7 txF l),.s s,.n m,.b b,.i i,.n m,.r r]
abbrev E8k(l:List Txt)(s:Txt)(m:Nat)(b:Bool)(i:Int)(r:Nat->List AV):Option (AEx×List Lf):=some (.normal,A5j l s m b (W (i+1)) r)
abbrev F2a(l:List Txt)(s x:Txt)(m:Nat)(b:Bool)(i:Int)(r:Nat->List AV):Option (AEx×List Lf) :=
 brK (decide (0<=i/\i<(l.length:Int))) (brK (!(x==s)) (brK (decide (0<=i/\i<(l.length:Int))) (brK (decide (m+1<2147483648/\m=m)) (E8k l s (m+1) b i (K4 m r [.sstr x])) none) none) (E8k l s m b i r)) none
theorem E0z(l:List Txt)(s:Txt)(m:Nat)(b:Bool)(i:Int)(r:Nat->List AV):E8 prog (D5 prog pDm 60) (pDm.blk 90) A5x (sp90.rho (A5j l s m b i r)) (sp90.heap (A5j l s m b i r)) (H9 D3k 8 [8]) =
  brK (decide (i<(l.length:Int))) (brK (!b) (brK (decide (0<=i/\i<(l.length:Int))) (brK (!Op.bytesLess (l.getD i.toNat default) s)
   (brK (decide (m+1<2147483648/\m=m)) (F2a l s (l.getD i.toNat default) (m+1) true i (K4 m r [.sstr s])) none)
   (F2a l s (l.getD i.toNat default) m b i r)) none) (F2a l s (l.getD i.toNat default) m b i r)) (some (.exit 0,[.s s,.n m,.b b,.n m,.r r])):=by kernel_rfl
def O90(l:List Txt)(s:Txt)(n:Nat):List Txt×Bool:=(l.take n).foldl (A4y s) ([],false)
theorem E4j{l:List Txt}{s:Txt}{n:Nat}(h:n<l.length):O90 l s (n+1)=A4y s (O90 l s n) (l.getD n default):=by
 unfold O90
 rw[List.take_succ_eq_append_getElem h,List.foldl_append,gD,gE h]
 rfl
theorem F3c(l:List Txt)(s:Txt)(n:Nat):(O90 l s n).1.length<=2*l.length:=by
 have h1:=B9r s (l.take n) ([],false)
 have h2:(l.take n).length<=l.length:=by simp; omega
 unfold O90
 simp only[List.length_nil] at h1
 omega
def L90(x:List Txt×Txt)(n:Nat):List Lf:=A5j x.1 x.2 (O90 x.1 x.2 n).1.length (O90 x.1 x.2 n).2 n (D6 (O90 x.1 x.2 n).1)
def A4d(x:List Txt×Txt):List Lf:=A5j x.1 x.2 0 false 0 (fun _=>[])
def Le90(_:List Lf)(x:List Txt×Txt):List Lf:=[.s x.2,.n (putW x).1.length,.b (putW x).2,.n (putW x).1.length,.r (D6 (putW x).1)]
where putW (x:List Txt×Txt):=x.1.foldl (A4y x.2) ([],false)
def A3m:List Lf->List Txt×Txt
 | [.n m,.fr f,.s s,_,_,_,_,_]=>(ofR txF m f,s)
 | _=>default
def D6k(x:List Txt×Txt):Prop:=x.1.length<=1000000
theorem E0g(a b:Txt):(!Op.bytesLess a b)=decide (b<=a):=by
 rw[Go.Proofs.bytesLess_eq]
 by_cases h:a<b
 ·have h2:¬ b<=a:=fun h3=>h3 h
  rw[dT h,dF h2]; rfl
 ·have h2:b<=a:=h
  rw[dF h,dT h2]; rfl
theorem E1s{l:List Txt}{s x:Txt}{m:Nat}{b:Bool}{n:Nat}{r:Nat->List AV}(h:n<l.length)(hm:m<10000000):F2a l s x m b n r=if x=s then E8k l s m b n r else E8k l s (m+1) b n (K4 m r [.sstr x]):=by
 unfold F2a
 have e:decide (0<=(n:Int)/\(n:Int)<(l.length:Int))=true:=dT (by omega)
 have e2:decide (m+1<2147483648/\m=m)=true:=dT ⟨by omega,rfl⟩
 rw[e,e2]
 by_cases hx:x=s
 ·rw[if_pos hx,show(x==s)=true by simpa using hx]; rfl
 ·rw[if_neg hx,show(x==s)=false by simpa using hx]; rfl
theorem SEB.step90{A:Amb}(hq:PrimOK prog A pDm)(x:List Txt×Txt)(hx:D6k x)(n:Nat)(hn:n<x.1.length)(Bb:Heap)(hB:Bb.length=8) :
  SEB prog A Bb A5x ⟨sp90.rho (L90 x n),sp90.heap (L90 x n),[8]⟩ .normal ⟨sp90.rho (L90 x (n+1)),sp90.heap (L90 x (n+1)),[8]⟩:=by
 obtain⟨l,s⟩:=x
 simp only[D6k] at hx hn
 have hk:=E0z l s (O90 l s n).1.length (O90 l s n).2 n (D6 (O90 l s n).1)
 have hlen:=F3c l s n
 rw[dT (show(n:Int)<(l.length:Int) by omega),dT (show 0<=(n:Int)/\(n:Int)<(l.length:Int) by omega),tN,E1s hn (by omega),E1s hn (by omega),E0g,
  dT (show(O90 l s n).1.length+1<2147483648/\(O90 l s n).1.length=(O90 l s n).1.length from⟨by omega,rfl⟩)] at hk
 have hs:=E4j (s:=s) hn
 unfold L90
 dsimp only
 rw[hs]
 clear hs
 revert hk hlen
 generalize O90 l s n=o
 obtain⟨O,d⟩:=o
 intro hk hlen
 dsimp only at hk hlen ⊢
 obtain⟨y,hy⟩:∃ y,y=l.getD n default:=⟨_,rfl⟩
 rw[<- hy] at hk ⊢
 have hbl:BlkOK prog A (pDm.blk 90) A5x:=(hq.blk 90 f90 (f90.body.getD .skip) func90 (show f90.body=some (f90.body.getD .skip) by kernel_rfl)).sub (id:=0) (by kernel_rfl)
 simp only[E8k,C4d (show n<2^62 by omega)] at hk
 have fin:∀ (ls:List Lf),E8 prog (D5 prog pDm 60) (pDm.blk 90) A5x (sp90.rho (A5j l s O.length d n (D6 O))) (sp90.heap (A5j l s O.length d n (D6 O))) (H9 D3k 8 [8])=some (.normal,ls) ->
   SEB prog A Bb A5x ⟨sp90.rho (A5j l s O.length d n (D6 O)),sp90.heap (A5j l s O.length d n (D6 O)),[8]⟩ .normal ⟨sp90.rho ls,sp90.heap ls,[8]⟩:=fun ls h=>SEB.of_KP (e:=.normal) (sp:=D3k) F7 F9 hq hbl hB h rfl
 unfold A4y
 dsimp only
 by_cases h1:(!d&&decide (s<=y))=true
 ·rw[if_pos h1]
  rw[bA] at h1
  by_cases h2:y=s
  ·rw[if_pos h2]
   rw[h1.1,h1.2,if_pos h2] at hk
   have:=fin _ hk
   refine this.wk_out ?_
   have w:=Wk.rowsQ (A:=A) (B0:=Bb) (U:=sp90.rho (A5j l s (O.length+1) true ((n+1:Nat):Int) (K4 O.length (D6 O) [.sstr s]))) (D:=[8]) (B:=sp90.heap (A5j l s (O.length+1) true ((n+1:Nat):Int) (K4 O.length (D6 O) [.sstr s]))) (b:=8) (r':=D6 (O++[s])) (ty:=9) rfl (fun h=>by omega) (fun i hi=>A1w O s hi)
   have e:(O++[s]).length=O.length+1:=by simp
   rw[e]
   exact w
  ·rw[if_neg h2]
   rw[h1.1,h1.2,if_neg h2] at hk
   have:=fin _ hk
   refine this.wk_out ?_
   have w:=Wk.rowsQ (A:=A) (B0:=Bb) (U:=sp90.rho (A5j l s (O.length+1+1) true ((n+1:Nat):Int) (K4 (O.length+1) (K4 O.length (D6 O) [.sstr s]) [.sstr y]))) (D:=[8]) (B:=sp90.heap (A5j l s (O.length+1+1) true ((n+1:Nat):Int) (K4 (O.length+1) (K4 O.length (D6 O) [.sstr s]) [.sstr y]))) (b:=8) (r':=D6 (O++[s]++[y])) (ty:=9) rfl (fun h=>by omega) (fun i hi=>E1y O s y hi)
   have e:(O++[s]++[y]).length=O.length+1+1:=by simp
   rw[e]
   exact w
 ·rw[if_neg h1]
  have hk2:E8 prog (D5 prog pDm 60) (pDm.blk 90) A5x (sp90.rho (A5j l s O.length d n (D6 O))) (sp90.heap (A5j l s O.length d n (D6 O))) (H9 D3k 8 [8])=if y=s then some (.normal,A5j l s O.length d ((n+1:Nat):Int) (D6 O)) else some (.normal,A5j l s (O.length+1) d ((n+1:Nat):Int) (K4 O.length (D6 O) [.sstr y])):=by
   rw[hk]
   cases d with
   | true=>rfl
   | false =>
    have h3:decide (s<=y)=false:=by simpa using h1
    rw[h3]; rfl
  by_cases h2:y=s
  ·rw[if_pos h2] at hk2 ⊢
   exact fin _ hk2
  ·rw[if_neg h2] at hk2 ⊢
   refine(fin _ hk2).wk_out ?_
   have w:=Wk.rowsQ (A:=A) (B0:=Bb) (U:=sp90.rho (A5j l s (O.length+1) d ((n+1:Nat):Int) (K4 O.length (D6 O) [.sstr y]))) (D:=[8]) (B:=sp90.heap (A5j l s (O.length+1) d ((n+1:Nat):Int) (K4 O.length (D6 O) [.sstr y]))) (b:=8) (r':=D6 (O++[y])) (ty:=9) rfl (fun h=>by omega) (fun i hi=>A1w O y hi)
   have e:(O++[y]).length=O.length+1:=by simp
   rw[e]
   exact w
theorem SEB.end90{A:Amb}(hq:PrimOK prog A pDm)(x:List Txt×Txt)(_hx:D6k x)(Bb:Heap)(hB:Bb.length=8) :
  SEB prog A Bb A5x ⟨sp90.rho (L90 x x.1.length),sp90.heap (L90 x x.1.length),[8]⟩ (.exit 0) ⟨sq90.rho (Le90 (A4d x) x),sq90.heap (Le90 (A4d x) x),[8]⟩:=by
 obtain⟨l,s⟩:=x
 have hbl:BlkOK prog A (pDm.blk 90) A5x:=(hq.blk 90 f90 (f90.body.getD .skip) func90 (show f90.body=some (f90.body.getD .skip) by kernel_rfl)).sub (id:=0) (by kernel_rfl)
 have e:O90 l s l.length=Le90.putW (l,s):=by unfold O90 Le90.putW; rw[List.take_length]
 have hk:=E0z l s (O90 l s l.length).1.length (O90 l s l.length).2 l.length (D6 (O90 l s l.length).1)
 rw[dF (show ¬ (l.length:Int)<(l.length:Int) by omega)] at hk
 have:=SEB.of_KP (e:=.exit 0) (sp:=D3k) (B0:=Bb) (ds:=[8]) F7 F9 hq hbl hB hk rfl
 unfold L90 Le90
 rw[<- e]
 exact this
theorem G6h{A:Amb}(x:List Txt×Txt)(Bb:Heap)(hB:Bb.length=8):Wk A Bb ⟨sp90.rho (A4d x),sp90.heap (A4d x),[8]⟩ ⟨sp90.rho (L90 x 0),sp90.heap (L90 x 0),[8]⟩:=by
 have e:O90 x.1 x.2 0=([],false):=by unfold O90; rfl
 unfold L90
 rw[e]
 exact Wk.rowsQ (A:=A) (B0:=Bb) (U:=sp90.rho (A4d x)) (D:=[8]) (B:=sp90.heap (A4d x)) (b:=8) (r':=D6 []) (ty:=9) rfl (fun h=>by omega) (fun i hi=>(Nat.not_lt_zero i hi).elim)
def G7b:Blk:=hookP sp90 8 [8] (itT sq90 0 (.exit 0) A3m A4d Le90 D6k)
theorem F5c{A:Amb}{q:Prims}(h0:PrimOK prog A pDm)(hq:PrimOK prog A q):PrimOK prog A (q.addb 90 0 G7b) :=
 SEB.iterR (P:=prog) (sp0:=sp90) (sp:=sp90) (sq:=sq90) (m:=8) (ds:=[8]) (ee:=.exit 0) (dec:=A3m) (L0:=A4d) (L:=L90) (Le:=Le90) (N:=fun x=>x.1.length) (Inv:=D6k) hq func90 (show f90.body=some (f90.body.getD .skip) by kernel_rfl) (body:=A5x) (by kernel_rfl)
  rfl (by simp) (fun _=>⟨.inr rfl,.inr rfl,.inr rfl,.inr rfl,.inr rfl,.inr rfl,.inr rfl,.inr rfl,.inl rfl,trivial⟩) (fun x _ Bb hB=>G6h x Bb hB) (fun x hx n hn Bb hB=>SEB.step90 h0 x hx n hn Bb hB) (fun x hx Bb hB=>SEB.end90 h0 x hx Bb hB)
def pPu1:Prims:=pDm.addb 90 0 G7b
def spPu:SP:=⟨dr 4++[.flist 1]++dr 43,dd8⟩
abbrev fzT(sp:AEx)(n:Nat)(r:Nat->List AV):Option (AEx×List Lf):=brK (E9 (D6c n n r)&&true) (some (sp,[.n n,.fr (A2r r)])) none
theorem D5k(l:List Txt)(s:Txt):E8 prog (D5 prog pPu1 60) (pPu1.blk 90) (f90.body.getD .skip) ([Q4 l,.sstr s]++List.replicate 46 H7) (Bg 8) (D6w (fun _=>[.frz 4]) (fun _=>spPu) 8 []) =
  brK (itC A4d A3m D6k (A4d (l,s))) (brK (!(Le90.putW (A3m (A4d (l,s)))).2)
   (brK (decide ((Le90.putW (A3m (A4d (l,s)))).1.length+1<2147483648/\(Le90.putW (A3m (A4d (l,s)))).1.length=(Le90.putW (A3m (A4d (l,s)))).1.length)) (fzT .ret ((Le90.putW (A3m (A4d (l,s)))).1.length+1) (K4 (Le90.putW (A3m (A4d (l,s)))).1.length (D6 (Le90.putW (A3m (A4d (l,s)))).1) [.sstr (A3m (A4d (l,s))).2])) none)
   (fzT .ret (Le90.putW (A3m (A4d (l,s)))).1.length (D6 (Le90.putW (A3m (A4d (l,s)))).1))) none:=by kernel_rfl
theorem D9m(x:List Txt×Txt):A3m (A4d x)=x:=by
 obtain⟨l,s⟩:=x
 simp[A3m,A4d,A5j,I1 U4]
theorem A8w(L:List Txt):D6c L.length L.length (D6 L):=⟨lR _,fun _ _=>rfl⟩
def parPT:Par (List Txt×Txt) where
 get:=fun | [a,b]=>(match A9g txF 1 a,sstr? b with | some (c,l),some s=>some (c,(l,s)) | _,_=>none) | _=>none
 av:=fun x=>[Q4 x.1,.sstr x.2]
 ok:=by
  intro l x h Z vs hv
  split at h
  ·split at h
   ·rename_i h1 h2
    simp only[sI,pI] at h
    obtain⟨rfl,rfl⟩:=h
    simp only[VRL] at hv ⊢
    obtain⟨y,r,e,q1,y2,r2,e2,q2,q3⟩:=hv
    exact⟨y,r,e,A1b h1 q1,y2,r2,e2,A0l h2 q2,q3⟩
   ·cases h
  ·cases h
 free:=fun _=>rfl
def VPu(x:List Txt×Txt):Tr AV:=.br (decide (x.1.length<=1000000)) (.leaf (Q4 (O6 x.1 x.2))) .fail
def pPu:Prims:=pDm.addt 90 (M8 parPT VPu)
theorem E9n{A:Amb}(hT:Tab A)(hG:gN prog<=A.G):PrimOK prog A pPu:=by
 have h0:=G3n hT hG
 have h1:PrimOK prog A pPu1:=F5c h0 h0
 refine PrimOK.addParB h0 hG parPT VPu func90 (show f90.body=some (f90.body.getD .skip) by kernel_rfl) fun x v hv=>?_
 obtain⟨hz,hv⟩:=Tr.br1 hv
 cases hv
 obtain⟨l,s⟩:=x
 have hz:=of_decide_eq_true hz
 have hb:BlkOK prog A (pPu1.blk 90) (f90.body.getD .skip):=h1.blk 90 f90 (f90.body.getD .skip) func90 (show f90.body=some (f90.body.getD .skip) by kernel_rfl)
 have hk:=D5k l s
 rw[D9m,P5 (D9m (l,s)) (show D6k (l,s) from hz),show Le90.putW (l,s)=l.foldl (A4y s) ([],false) from rfl] at hk
 have hlen:(l.foldl (A4y s) ([],false)).1.length<=2*l.length:=by have:=B9r s l ([],false); simpa using this
 have he:O6 l s=E9q s (l.foldl (A4y s) ([],false)):=rfl
 revert hk hlen he
 generalize l.foldl (A4y s) ([],false)=o
 obtain⟨O,d⟩:=o
 intro hk hlen he
 dsimp only at hk hlen
 unfold fzT at hk
 simp only at hz
 have fin:∀ (n:Nat) (f:Nat->List FV),E8 prog (D5 prog pPu1 60) (pPu1.blk 90) (f90.body.getD .skip) ([Q4 l,.sstr s]++List.replicate 46 H7) (Bg 8) (D6w (fun _=>[.frz 4]) (fun _=>spPu) 8 [])=some (.ret,[.n n,.fr f])->n=(O6 l s).length->(∀ i,i<n->f i=A7 txF (O6 l s) i) ->
   ∃ e s' vs,SEB prog A (Bg (gN prog)) (f90.body.getD .skip) ⟨parPT.av (l,s)++List.replicate (f90.ntmps-(parPT.av (l,s)).length) H7,Bg (gN prog),[]⟩ e s'/\(∀ id,e≠.exit id)/\X5 prog s'.B s'.U f90.results.toList=some vs/\s'.D=[]/\F3 0 (A1s vs)=true /\
    ∀ (Z:Emb) y,VR Z (A1s vs) y->VR Z (Q4 (O6 l s)) y:=fun n f hr hn hf=>by
  refine⟨.ret,⟨spPu.rho [.n n,.fr f],spPu.heap [.n n,.fr f],[]⟩,[.flist n f 1],?_,by simp,by kernel_rfl,rfl,rfl,fun Z y hy=>?_⟩
  ·rw[gsz]
   exact SEB.of_KG (e:=.ret) (sp:=fun _=>spPu) (gs:=fun _=>[.frz 4]) (B0:=Bg 8) (ds:=[]) F7 F9 h1 hb rfl hr rfl
  ·subst hn
   exact D1b hf hy
 cases d with
 | true =>
  rw[show(!true)=false from rfl,A9 (A8w O)] at hk
  refine fin O.length _ hk ?_ fun i hi=>?_
  ·rw[he]; rfl
  ·rw[he]; rfl
 | false =>
  have hfz:D6c (O.length+1) (O.length+1) (K4 O.length (D6 O) [.sstr s]):=⟨lR _,fun _ _=>rfl⟩
  rw[show(!false)=true from rfl,dT (show O.length+1<2147483648/\O.length=O.length from⟨by omega,rfl⟩),A9 hfz] at hk
  have e2:O6 l s=O++[s]:=by rw[he]; rfl
  refine fin (O.length+1) _ hk (by rw[e2]; simp) fun i hi=>?_
  rw[e2]
  show(K4 O.length (D6 O) [.sstr s] i).map AV.fv=_
  rw[A1w O s hi]; rfl
end Go.Proofs.Tryz
