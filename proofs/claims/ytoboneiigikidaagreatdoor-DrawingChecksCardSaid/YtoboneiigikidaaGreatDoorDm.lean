/- Drawings: dimensions. -/
import Derived.Test.YtoboneiigikidaaGreatDoorDs
import Derived.Test.YtoboneiigikidaaGreatDoorAdFind
import Derived.Test.YtoboneiigikidaaGreatDoorShelf
noncomputable section
namespace Go.Proofs.Tryz
open Go.Ad
def gDm (d:Drw) (n:Nat):Int:=if S9 (K5 d n) ≠ 0 then S9 (K5 d n) else if n > 0/\A6w (K5 d (n - 1)) (K5 d n)=false then 9
 else if (U7 d (K5 d n).f (K5 d n).t (K5 d n).a).2 ≠ 0 then (U7 d (K5 d n).f (K5 d n).t (K5 d n).a).2 else if (U7 d (K5 d n).f (K5 d n).t (K5 d n).a).1 < (K5 d n).lo \/ (U7 d (K5 d n).f (K5 d n).t (K5 d n).a).1 > (K5 d n).hi then 16 else 0
theorem G2x (y:Dim):(⟨y.f,y.t,y.a,y.lo,y.hi⟩:Dim)=y:=rfl
theorem E9 {x:Dim} (h:S9 x=0):0<=x.a/\x.a < 3:=by
 refine Classical.byContradiction fun hn=>?_
 unfold S9 at h
 split at h
 ·omega
 ·split at h
  ·omega
  ·split at h
   ·omega
   ·rw [if_pos (by omega)] at h; omega
end Go.Proofs.Tryz
namespace Go.Proofs.Tryz
open Go.Ad
def D3v:Code:=I9 (J7 0 (f46.body.getD .skip))
def sp46:SP:=⟨dr 1++[.is (.ptr (some (8,0)))]++dr 11++[.flist 5]++[.int .i64]++[.int .i64]++dr 49,dd8++[.any]⟩
def D9y:AEx->SP
 | .ret=>⟨dr 2++[.int .i64]++dr 62,dd8++[.any]⟩
 | .exit 0=>⟨dr 65,dd8++[.any]⟩
 | _=>sp46
theorem F4y (d:Drw) (n:Int):F3 prog (D5 prog pDt 60) (pDt.blk 46) D3v (sp46.rho [.n d.m.length,.fr (A7 Dim.fv d.m),.i d.m.length,.i n,.o (A9 d)]) (sp46.heap [.n d.m.length,.fr (A7 Dim.fv d.m),.i d.m.length,.i n,.o (A9 d)]) (H9 D9y 9 []) =
  brK (decide (n < (d.m.length:Int))) (brK (decide (0<=n/\n < (d.m.length:Int))) (brK (I5 (d.m.getD n.toNat default).f && I5 (d.m.getD n.toNat default).t) (brK (S9 { f:=(d.m.getD n.toNat default).f,t:=(d.m.getD n.toNat default).t,a:=(d.m.getD n.toNat default).a,lo:=(d.m.getD n.toNat default).lo,hi:=(d.m.getD n.toNat default).hi } != 0) (some (.ret,[.i (S9 { f:=(d.m.getD n.toNat default).f,t:=(d.m.getD n.toNat default).t,a:=(d.m.getD n.toNat default).a,lo:=(d.m.getD n.toNat default).lo,hi:=(d.m.getD n.toNat default).hi }),.o (A9 d)])) (brK (decide (n > 0)) (brK (decide (0<=W (n - 1)/\W (n - 1) < (d.m.length:Int))) (brK (decide (B0j { f:=(d.m.getD (W (n - 1)).toNat default).f,t:=(d.m.getD (W (n - 1)).toNat default).t,a:=(d.m.getD (W (n - 1)).toNat default).a,lo:=(d.m.getD (W (n - 1)).toNat default).lo,hi:=(d.m.getD (W (n - 1)).toNat default).hi } { f:=(d.m.getD n.toNat default).f,t:=(d.m.getD n.toNat default).t,a:=(d.m.getD n.toNat default).a,lo:=(d.m.getD n.toNat default).lo,hi:=(d.m.getD n.toNat default).hi } >= 0)) (some (.ret,[.i (9),.o (A9 d)])) (brK (D8 (okR Fea.fv d.l.length (A7 Fea.fv d.l)) && D8 (okR Dim.fv d.m.length (A7 Dim.fv d.m))) (brK (D8 (RightD (drE d)/\0<=(d.m.getD n.toNat default).a/\(d.m.getD n.toNat default).a < 3)) (brK ((U7 (drE d) (d.m.getD n.toNat default).f (d.m.getD n.toNat default).t (d.m.getD n.toNat default).a).snd != 0) (some (.ret,[.i ((U7 (drE d) (d.m.getD n.toNat default).f (d.m.getD n.toNat default).t (d.m.getD n.toNat default).a).snd),.o (A9 d)])) (brK (decide ((U7 (drE d) (d.m.getD n.toNat default).f (d.m.getD n.toNat default).t (d.m.getD n.toNat default).a).fst < (d.m.getD n.toNat default).lo)) (some (.ret,[.i (16),.o (A9 d)])) (brK (decide ((U7 (drE d) (d.m.getD n.toNat default).f (d.m.getD n.toNat default).t (d.m.getD n.toNat default).a).fst > (d.m.getD n.toNat default).hi)) (some (.ret,[.i (16),.o (A9 d)])) (some (.normal,[.n (d.m.length),.fr (A7 Dim.fv d.m),.i ((d.m.length:Int)),.i (W (n+1)),.o (A9 d)]))))) none) none)) none) (brK (D8 (okR Fea.fv d.l.length (A7 Fea.fv d.l)) && D8 (okR Dim.fv d.m.length (A7 Dim.fv d.m))) (brK (D8 (RightD (drE d)/\0<=(d.m.getD n.toNat default).a/\(d.m.getD n.toNat default).a < 3)) (brK ((U7 (drE d) (d.m.getD n.toNat default).f (d.m.getD n.toNat default).t (d.m.getD n.toNat default).a).snd != 0) (some (.ret,[.i ((U7 (drE d) (d.m.getD n.toNat default).f (d.m.getD n.toNat default).t (d.m.getD n.toNat default).a).snd),.o (A9 d)])) (brK (decide ((U7 (drE d) (d.m.getD n.toNat default).f (d.m.getD n.toNat default).t (d.m.getD n.toNat default).a).fst < (d.m.getD n.toNat default).lo)) (some (.ret,[.i (16),.o (A9 d)])) (brK (decide ((U7 (drE d) (d.m.getD n.toNat default).f (d.m.getD n.toNat default).t (d.m.getD n.toNat default).a).fst > (d.m.getD n.toNat default).hi)) (some (.ret,[.i (16),.o (A9 d)])) (some (.normal,[.n (d.m.length),.fr (A7 Dim.fv d.m),.i ((d.m.length:Int)),.i (W (n+1)),.o (A9 d)]))))) none) none))) none) none) (some (.exit 0,[.o (A9 d)])):=by kernel_rfl
def L46 (x:Drw) (n:Nat):List Lf:=[.n x.m.length,.fr (A7 Dim.fv x.m),.i x.m.length,.i n,.o (A9 x)]
def B4q:List Lf->Nat->List Lf
 | [_,_,_,_,.o o],n=>[.i (gDm (I1 o) n),.o o]
 | _,_=>[]
def F0t:List Lf->List Lf
 | [_,_,_,_,o]=>[o]
 | _=>[]
def N46 (x:Drw):Nat:=x.m.length
def p46 (x:Drw) (n:Nat):Bool:=decide (gDm x n=0)
def E5z (x:Drw):Prop:=RightD x
def B1l:List Lf->Drw
 | [_,_,_,_,.o o]=>I1 o
 | _=>default
theorem G2e (x:Drw) (hx:E5z x) (n:Nat) (hn:n<=N46 x):F3 prog (D5 prog pDt 60) (pDt.blk 46) D3v (sp46.rho (L46 x n)) (sp46.heap (L46 x n)) (H9 D9y 9 [])=some (if n < N46 x then (bif p46 x n then (.normal,L46 x (n+1)) else (.ret,B4q (L46 x 0) n)) else (.exit 0,F0t (L46 x 0))):=by
 have h1:RightD x:=hx
 simp only [L46,F0t]
 rw [F4y,I4 hn h1.ok.dim]
 simp only [Int.toNat_natCast,L8,Bool.and_self,Y9,G2x]
 by_cases h:n < N46 x
 ·rw [if_pos h]
  simp only [N46] at h
  have hz:(I5 (x.m.getD n default).f && I5 (x.m.getD n default).t)=true:=by
   have:=h1.ok.dsz n h
   rw [Bool.and_eq_true]
   exact this
  have hm:=h1.ok.dim
  by_cases h0:n=0
  ·have e0:¬ (n:Int) > 0:=by omega
   by_cases c1:S9 (x.m.getD n default) ≠ 0
   ·skip
    have hg:gDm x n=S9 (x.m.getD n default):=by
     unfold gDm
     dsimp only [K5]
     repeat first
      | exact rfl
      | omega
      | refine I7 (by omega) ?_
      | refine G7 (by omega) ?_
      | refine G7 (fun h=>by omega) ?_
    have hp:p46 x n=false:=by unfold p46; rw [hg]; simpa using c1
    rw [hp,cond_false]
    simp only [B4q,L46,E8,hg]
    repeat first
     | exact rfl
     | refine A8 rfl ?_
     | refine C8 rfl ?_
     | refine A8 (by simp only [SBs]; omega) ?_
     | refine C8 (by simp only [SBs]; omega) ?_
     | refine A8 hz ?_
     | refine A8 (D6 ⟨h1,(E9 (by omega)).1,(E9 (by omega)).2⟩) ?_
   by_cases c3:(U7 x (x.m.getD n default).f (x.m.getD n default).t (x.m.getD n default).a).2 ≠ 0
   ·skip
    have hg:gDm x n=(U7 x (x.m.getD n default).f (x.m.getD n default).t (x.m.getD n default).a).2:=by
     unfold gDm
     dsimp only [K5]
     repeat first
      | exact rfl
      | omega
      | refine I7 (by omega) ?_
      | refine G7 (by omega) ?_
      | refine G7 (fun h=>by omega) ?_
    have hp:p46 x n=false:=by unfold p46; rw [hg]; simpa using c3
    rw [hp,cond_false]
    simp only [B4q,L46,E8,hg]
    repeat first
     | exact rfl
     | refine A8 rfl ?_
     | refine C8 rfl ?_
     | refine A8 (by simp only [SBs]; omega) ?_
     | refine C8 (by simp only [SBs]; omega) ?_
     | refine A8 hz ?_
     | refine A8 (D6 ⟨h1,(E9 (by omega)).1,(E9 (by omega)).2⟩) ?_
   by_cases c4:(U7 x (x.m.getD n default).f (x.m.getD n default).t (x.m.getD n default).a).1 < (x.m.getD n default).lo
   ·skip
    have hg:gDm x n=16:=by
     unfold gDm
     dsimp only [K5]
     repeat first
      | exact rfl
      | omega
      | refine I7 (by omega) ?_
      | refine G7 (by omega) ?_
      | refine G7 (fun h=>by omega) ?_
    have hp:p46 x n=false:=by unfold p46; rw [hg]; rfl
    rw [hp,cond_false]
    simp only [B4q,L46,E8,hg]
    repeat first
     | exact rfl
     | refine A8 rfl ?_
     | refine C8 rfl ?_
     | refine A8 (by simp only [SBs]; omega) ?_
     | refine C8 (by simp only [SBs]; omega) ?_
     | refine A8 hz ?_
     | refine A8 (D6 ⟨h1,(E9 (by omega)).1,(E9 (by omega)).2⟩) ?_
   by_cases c5:(U7 x (x.m.getD n default).f (x.m.getD n default).t (x.m.getD n default).a).1 > (x.m.getD n default).hi
   ·skip
    have hg:gDm x n=16:=by
     unfold gDm
     dsimp only [K5]
     repeat first
      | exact rfl
      | omega
      | refine I7 (by omega) ?_
      | refine G7 (by omega) ?_
      | refine G7 (fun h=>by omega) ?_
    have hp:p46 x n=false:=by unfold p46; rw [hg]; rfl
    rw [hp,cond_false]
    simp only [B4q,L46,E8,hg]
    repeat first
     | exact rfl
     | refine A8 rfl ?_
     | refine C8 rfl ?_
     | refine A8 (by simp only [SBs]; omega) ?_
     | refine C8 (by simp only [SBs]; omega) ?_
     | refine A8 hz ?_
     | refine A8 (D6 ⟨h1,(E9 (by omega)).1,(E9 (by omega)).2⟩) ?_
   have hg:gDm x n=0:=by
    unfold gDm
    dsimp only [K5]
    repeat first
     | exact rfl
     | omega
     | refine I7 (by omega) ?_
     | refine G7 (by omega) ?_
     | refine G7 (fun h=>by omega) ?_
   have hp:p46 x n=true:=by unfold p46; rw [hg]; rfl
   rw [hp,cond_true]
   repeat first
    | exact rfl
    | refine A8 rfl ?_
    | refine C8 rfl ?_
    | refine A8 (by simp only [SBs]; omega) ?_
    | refine C8 (by simp only [SBs]; omega) ?_
    | refine A8 hz ?_
    | refine A8 (D6 ⟨h1,(E9 (by omega)).1,(E9 (by omega)).2⟩) ?_
  have e1:W ((n:Int) - 1)=((n - 1:Nat):Int):=by rw [E2y (by omega) (by omega)]; omega
  rw [e1]
  simp only [Int.toNat_natCast]
  by_cases c1:S9 (x.m.getD n default) ≠ 0
  ·skip
   have hg:gDm x n=S9 (x.m.getD n default):=by
    unfold gDm
    dsimp only [K5]
    repeat first
     | exact rfl
     | omega
     | refine I7 (by omega) ?_
     | refine G7 (by omega) ?_
     | refine I7 ⟨by omega,c2⟩ ?_
     | refine G7 (fun h=>c2 h.2) ?_
     | refine G7 (fun h=>by omega) ?_
   have hp:p46 x n=false:=by unfold p46; rw [hg]; simpa using c1
   rw [hp,cond_false]
   simp only [B4q,L46,E8,hg]
   repeat first
    | exact rfl
    | refine A8 rfl ?_
    | refine C8 rfl ?_
    | refine A8 (by simp only [SBs]; omega) ?_
    | refine C8 (by simp only [SBs]; omega) ?_
    | refine A8 hz ?_
    | refine A8 (D6 ⟨h1,(E9 (by omega)).1,(E9 (by omega)).2⟩) ?_
    | refine A8 (dT ((M0 _ _).2 c2)) ?_
    | refine C8 (dF fun h=>c2 ((M0 _ _).1 h)) ?_
    | refine A8 (notT c2) ?_
    | refine C8 (A9c c2) ?_
  by_cases c2:A6w (x.m.getD (n - 1) default) (x.m.getD n default)=false
  ·skip
   have hg:gDm x n=9:=by
    unfold gDm
    dsimp only [K5]
    repeat first
     | exact rfl
     | omega
     | refine I7 (by omega) ?_
     | refine G7 (by omega) ?_
     | refine I7 ⟨by omega,c2⟩ ?_
     | refine G7 (fun h=>c2 h.2) ?_
     | refine G7 (fun h=>by omega) ?_
   have hp:p46 x n=false:=by unfold p46; rw [hg]; rfl
   rw [hp,cond_false]
   simp only [B4q,L46,E8,hg]
   repeat first
    | exact rfl
    | refine A8 rfl ?_
    | refine C8 rfl ?_
    | refine A8 (by simp only [SBs]; omega) ?_
    | refine C8 (by simp only [SBs]; omega) ?_
    | refine A8 hz ?_
    | refine A8 (D6 ⟨h1,(E9 (by omega)).1,(E9 (by omega)).2⟩) ?_
    | refine A8 (dT ((M0 _ _).2 c2)) ?_
    | refine C8 (dF fun h=>c2 ((M0 _ _).1 h)) ?_
    | refine A8 (notT c2) ?_
    | refine C8 (A9c c2) ?_
  by_cases c3:(U7 x (x.m.getD n default).f (x.m.getD n default).t (x.m.getD n default).a).2 ≠ 0
  ·skip
   have hg:gDm x n=(U7 x (x.m.getD n default).f (x.m.getD n default).t (x.m.getD n default).a).2:=by
    unfold gDm
    dsimp only [K5]
    repeat first
     | exact rfl
     | omega
     | refine I7 (by omega) ?_
     | refine G7 (by omega) ?_
     | refine I7 ⟨by omega,c2⟩ ?_
     | refine G7 (fun h=>c2 h.2) ?_
     | refine G7 (fun h=>by omega) ?_
   have hp:p46 x n=false:=by unfold p46; rw [hg]; simpa using c3
   rw [hp,cond_false]
   simp only [B4q,L46,E8,hg]
   repeat first
    | exact rfl
    | refine A8 rfl ?_
    | refine C8 rfl ?_
    | refine A8 (by simp only [SBs]; omega) ?_
    | refine C8 (by simp only [SBs]; omega) ?_
    | refine A8 hz ?_
    | refine A8 (D6 ⟨h1,(E9 (by omega)).1,(E9 (by omega)).2⟩) ?_
    | refine A8 (dT ((M0 _ _).2 c2)) ?_
    | refine C8 (dF fun h=>c2 ((M0 _ _).1 h)) ?_
    | refine A8 (notT c2) ?_
    | refine C8 (A9c c2) ?_
  by_cases c4:(U7 x (x.m.getD n default).f (x.m.getD n default).t (x.m.getD n default).a).1 < (x.m.getD n default).lo
  ·skip
   have hg:gDm x n=16:=by
    unfold gDm
    dsimp only [K5]
    repeat first
     | exact rfl
     | omega
     | refine I7 (by omega) ?_
     | refine G7 (by omega) ?_
     | refine I7 ⟨by omega,c2⟩ ?_
     | refine G7 (fun h=>c2 h.2) ?_
     | refine G7 (fun h=>by omega) ?_
   have hp:p46 x n=false:=by unfold p46; rw [hg]; rfl
   rw [hp,cond_false]
   simp only [B4q,L46,E8,hg]
   repeat first
    | exact rfl
    | refine A8 rfl ?_
    | refine C8 rfl ?_
    | refine A8 (by simp only [SBs]; omega) ?_
    | refine C8 (by simp only [SBs]; omega) ?_
    | refine A8 hz ?_
    | refine A8 (D6 ⟨h1,(E9 (by omega)).1,(E9 (by omega)).2⟩) ?_
    | refine A8 (dT ((M0 _ _).2 c2)) ?_
    | refine C8 (dF fun h=>c2 ((M0 _ _).1 h)) ?_
    | refine A8 (notT c2) ?_
    | refine C8 (A9c c2) ?_
  by_cases c5:(U7 x (x.m.getD n default).f (x.m.getD n default).t (x.m.getD n default).a).1 > (x.m.getD n default).hi
  ·skip
   have hg:gDm x n=16:=by
    unfold gDm
    dsimp only [K5]
    repeat first
     | exact rfl
     | omega
     | refine I7 (by omega) ?_
     | refine G7 (by omega) ?_
     | refine I7 ⟨by omega,c2⟩ ?_
     | refine G7 (fun h=>c2 h.2) ?_
     | refine G7 (fun h=>by omega) ?_
   have hp:p46 x n=false:=by unfold p46; rw [hg]; rfl
   rw [hp,cond_false]
   simp only [B4q,L46,E8,hg]
   repeat first
    | exact rfl
    | refine A8 rfl ?_
    | refine C8 rfl ?_
    | refine A8 (by simp only [SBs]; omega) ?_
    | refine C8 (by simp only [SBs]; omega) ?_
    | refine A8 hz ?_
    | refine A8 (D6 ⟨h1,(E9 (by omega)).1,(E9 (by omega)).2⟩) ?_
    | refine A8 (dT ((M0 _ _).2 c2)) ?_
    | refine C8 (dF fun h=>c2 ((M0 _ _).1 h)) ?_
    | refine A8 (notT c2) ?_
    | refine C8 (A9c c2) ?_
  have hg:gDm x n=0:=by
   unfold gDm
   dsimp only [K5]
   repeat first
    | exact rfl
    | omega
    | refine I7 (by omega) ?_
    | refine G7 (by omega) ?_
    | refine G7 (fun h=>c2 h.2) ?_
    | refine G7 (fun h=>by omega) ?_
  have hp:p46 x n=true:=by unfold p46; rw [hg]; rfl
  rw [hp,cond_true]
  repeat first
   | exact rfl
   | refine A8 rfl ?_
   | refine C8 rfl ?_
   | refine A8 (by simp only [SBs]; omega) ?_
   | refine C8 (by simp only [SBs]; omega) ?_
   | refine A8 hz ?_
   | refine A8 (D6 ⟨h1,(E9 (by omega)).1,(E9 (by omega)).2⟩) ?_
   | refine A8 (dT ((M0 _ _).2 c2)) ?_
   | refine C8 (dF fun h=>c2 ((M0 _ _).1 h)) ?_
   | refine A8 (notT c2) ?_
   | refine C8 (A9c c2) ?_
 ·rw [if_neg h]
  simp only [N46] at h
  refine C8 (dF (by omega)) ?_
  rfl
def G3k:Blk:=hookP sp46 9 [] (fdT D9y 0 .ret (.exit 0) B1l L46 B4q F0t N46 p46 E5z)
theorem F2t {A:Amb} {q:Prims} (h0:PrimOK prog A pDt) (hq:PrimOK prog A q):PrimOK prog A (q.addb 46 0 G3k) :=
 SEB.findR (id:=0) (ds:=[]) (dec:=B1l) (sp:=sp46) (sq:=D9y) (m:=9) (eb:=.ret) (ee:=.exit 0) (L:=L46) (Lb:=B4q) (Le:=F0t) (N:=N46) (p:=p46) (Inv:=E5z) (k:=60) F7 F8 h0 hq func46 (show f46.body=some (f46.body.getD .skip) by kernel_rfl) (body:=D3v) (by kernel_rfl)
  rfl rfl rfl rfl (by simp) (by simp) (fun _ _=>⟨⟨.inr rfl,.inr rfl,.inr rfl,.inr rfl,.inr rfl,.inr rfl,.inr rfl,.inr rfl,.inr rfl,trivial⟩,⟨.inr rfl,.inr rfl,.inr rfl,.inr rfl,.inr rfl,.inr rfl,.inr rfl,.inr rfl,.inr rfl,trivial⟩⟩) G2e
def D3z:Code:=I9 (J7 0 (f52.body.getD .skip))
def sp52:SP:=⟨dr 1++[.is (.ptr (some (8,0)))]++dr 1++[.int .i64]++dr 57,dd8++[.any]⟩
def E0c:AEx->SP
 | .ret=>⟨dr 2++[.int .i64]++dr 58,dd8++[.any]⟩
 | .exit 0=>⟨dr 61,dd8++[.any]⟩
 | _=>sp52
theorem F5c (d:Drw) (n:Int):F3 prog (D5 prog pDt 60) (pDt.blk 52) D3z (sp52.rho [.i n,.o (A9 d)]) (sp52.heap [.i n,.o (A9 d)]) (H9 E0c 9 []) =
  brK (decide (n < (d.m.length:Int))) (brK (decide (0<=n/\n < (d.m.length:Int))) (brK (I5 (d.m.getD n.toNat default).f && I5 (d.m.getD n.toNat default).t) (brK (S9 { f:=(d.m.getD n.toNat default).f,t:=(d.m.getD n.toNat default).t,a:=(d.m.getD n.toNat default).a,lo:=(d.m.getD n.toNat default).lo,hi:=(d.m.getD n.toNat default).hi } != 0) (some (.ret,[.i (S9 { f:=(d.m.getD n.toNat default).f,t:=(d.m.getD n.toNat default).t,a:=(d.m.getD n.toNat default).a,lo:=(d.m.getD n.toNat default).lo,hi:=(d.m.getD n.toNat default).hi }),.o (A9 d)])) (brK (decide (n > 0)) (brK (decide (0<=W (n - 1)/\W (n - 1) < (d.m.length:Int))) (brK (!A6w { f:=(d.m.getD (W (n - 1)).toNat default).f,t:=(d.m.getD (W (n - 1)).toNat default).t,a:=(d.m.getD (W (n - 1)).toNat default).a,lo:=(d.m.getD (W (n - 1)).toNat default).lo,hi:=(d.m.getD (W (n - 1)).toNat default).hi } { f:=(d.m.getD n.toNat default).f,t:=(d.m.getD n.toNat default).t,a:=(d.m.getD n.toNat default).a,lo:=(d.m.getD n.toNat default).lo,hi:=(d.m.getD n.toNat default).hi }) (some (.ret,[.i (9),.o (A9 d)])) (brK (D8 (okR Fea.fv d.l.length (A7 Fea.fv d.l)) && D8 (okR Dim.fv d.m.length (A7 Dim.fv d.m))) (brK (D8 (RightD (drE d)/\0<=(d.m.getD n.toNat default).a/\(d.m.getD n.toNat default).a < 3)) (brK ((U7 (drE d) (d.m.getD n.toNat default).f (d.m.getD n.toNat default).t (d.m.getD n.toNat default).a).snd != 0) (some (.ret,[.i ((U7 (drE d) (d.m.getD n.toNat default).f (d.m.getD n.toNat default).t (d.m.getD n.toNat default).a).snd),.o (A9 d)])) (brK (decide ((U7 (drE d) (d.m.getD n.toNat default).f (d.m.getD n.toNat default).t (d.m.getD n.toNat default).a).fst >= (d.m.getD n.toNat default).lo)) (brK (!decide ((U7 (drE d) (d.m.getD n.toNat default).f (d.m.getD n.toNat default).t (d.m.getD n.toNat default).a).fst<=(d.m.getD n.toNat default).hi)) (some (.ret,[.i (16),.o (A9 d)])) (some (.normal,[.i (W (n+1)),.o (A9 d)]))) (some (.ret,[.i (16),.o (A9 d)])))) none) none)) none) (brK (D8 (okR Fea.fv d.l.length (A7 Fea.fv d.l)) && D8 (okR Dim.fv d.m.length (A7 Dim.fv d.m))) (brK (D8 (RightD (drE d)/\0<=(d.m.getD n.toNat default).a/\(d.m.getD n.toNat default).a < 3)) (brK ((U7 (drE d) (d.m.getD n.toNat default).f (d.m.getD n.toNat default).t (d.m.getD n.toNat default).a).snd != 0) (some (.ret,[.i ((U7 (drE d) (d.m.getD n.toNat default).f (d.m.getD n.toNat default).t (d.m.getD n.toNat default).a).snd),.o (A9 d)])) (brK (decide ((U7 (drE d) (d.m.getD n.toNat default).f (d.m.getD n.toNat default).t (d.m.getD n.toNat default).a).fst >= (d.m.getD n.toNat default).lo)) (brK (!decide ((U7 (drE d) (d.m.getD n.toNat default).f (d.m.getD n.toNat default).t (d.m.getD n.toNat default).a).fst<=(d.m.getD n.toNat default).hi)) (some (.ret,[.i (16),.o (A9 d)])) (some (.normal,[.i (W (n+1)),.o (A9 d)]))) (some (.ret,[.i (16),.o (A9 d)])))) none) none))) none) none) (some (.exit 0,[.o (A9 d)])):=by kernel_rfl
def L52 (x:Drw) (n:Nat):List Lf:=[.i n,.o (A9 x)]
def B4r:List Lf->Nat->List Lf
 | [_,.o o],n=>[.i (gDm (I1 o) n),.o o]
 | _,_=>[]
def F0w:List Lf->List Lf
 | [_,o]=>[o]
 | _=>[]
def N52 (x:Drw):Nat:=x.m.length
def p52 (x:Drw) (n:Nat):Bool:=decide (gDm x n=0)
def E6d (x:Drw):Prop:=RightD x
def B1o:List Lf->Drw
 | [_,.o o]=>I1 o
 | _=>default
theorem G2i (x:Drw) (hx:E6d x) (n:Nat) (hn:n<=N52 x):F3 prog (D5 prog pDt 60) (pDt.blk 52) D3z (sp52.rho (L52 x n)) (sp52.heap (L52 x n)) (H9 E0c 9 [])=some (if n < N52 x then (bif p52 x n then (.normal,L52 x (n+1)) else (.ret,B4r (L52 x 0) n)) else (.exit 0,F0w (L52 x 0))):=by
 have h1:RightD x:=hx
 simp only [L52,F0w]
 rw [F5c,I4 hn h1.ok.dim]
 simp only [Int.toNat_natCast,L8,Bool.and_self,Y9,G2x]
 by_cases h:n < N52 x
 ·rw [if_pos h]
  simp only [N52] at h
  have hz:(I5 (x.m.getD n default).f && I5 (x.m.getD n default).t)=true:=by
   have:=h1.ok.dsz n h
   rw [Bool.and_eq_true]
   exact this
  have hm:=h1.ok.dim
  by_cases h0:n=0
  ·have e0:¬ (n:Int) > 0:=by omega
   by_cases c1:S9 (x.m.getD n default) ≠ 0
   ·skip
    have hg:gDm x n=S9 (x.m.getD n default):=by
     unfold gDm
     dsimp only [K5]
     repeat first
      | exact rfl
      | omega
      | refine I7 (by omega) ?_
      | refine G7 (by omega) ?_
      | refine G7 (fun h=>by omega) ?_
    have hp:p52 x n=false:=by unfold p52; rw [hg]; simpa using c1
    rw [hp,cond_false]
    simp only [B4r,L52,E8,hg]
    repeat first
     | exact rfl
     | refine A8 rfl ?_
     | refine C8 rfl ?_
     | refine A8 (by simp only [SBs]; omega) ?_
     | refine C8 (by simp only [SBs]; omega) ?_
     | refine A8 hz ?_
     | refine A8 (D6 ⟨h1,(E9 (by omega)).1,(E9 (by omega)).2⟩) ?_
   by_cases c3:(U7 x (x.m.getD n default).f (x.m.getD n default).t (x.m.getD n default).a).2 ≠ 0
   ·skip
    have hg:gDm x n=(U7 x (x.m.getD n default).f (x.m.getD n default).t (x.m.getD n default).a).2:=by
     unfold gDm
     dsimp only [K5]
     repeat first
      | exact rfl
      | omega
      | refine I7 (by omega) ?_
      | refine G7 (by omega) ?_
      | refine G7 (fun h=>by omega) ?_
    have hp:p52 x n=false:=by unfold p52; rw [hg]; simpa using c3
    rw [hp,cond_false]
    simp only [B4r,L52,E8,hg]
    repeat first
     | exact rfl
     | refine A8 rfl ?_
     | refine C8 rfl ?_
     | refine A8 (by simp only [SBs]; omega) ?_
     | refine C8 (by simp only [SBs]; omega) ?_
     | refine A8 hz ?_
     | refine A8 (D6 ⟨h1,(E9 (by omega)).1,(E9 (by omega)).2⟩) ?_
   by_cases c4:(U7 x (x.m.getD n default).f (x.m.getD n default).t (x.m.getD n default).a).1 < (x.m.getD n default).lo
   ·skip
    have hg:gDm x n=16:=by
     unfold gDm
     dsimp only [K5]
     repeat first
      | exact rfl
      | omega
      | refine I7 (by omega) ?_
      | refine G7 (by omega) ?_
      | refine G7 (fun h=>by omega) ?_
    have hp:p52 x n=false:=by unfold p52; rw [hg]; rfl
    rw [hp,cond_false]
    simp only [B4r,L52,E8,hg]
    repeat first
     | exact rfl
     | refine A8 rfl ?_
     | refine C8 rfl ?_
     | refine A8 (by simp only [SBs]; omega) ?_
     | refine C8 (by simp only [SBs]; omega) ?_
     | refine A8 hz ?_
     | refine A8 (D6 ⟨h1,(E9 (by omega)).1,(E9 (by omega)).2⟩) ?_
   by_cases c5:(U7 x (x.m.getD n default).f (x.m.getD n default).t (x.m.getD n default).a).1 > (x.m.getD n default).hi
   ·skip
    have hg:gDm x n=16:=by
     unfold gDm
     dsimp only [K5]
     repeat first
      | exact rfl
      | omega
      | refine I7 (by omega) ?_
      | refine G7 (by omega) ?_
      | refine G7 (fun h=>by omega) ?_
    have hp:p52 x n=false:=by unfold p52; rw [hg]; rfl
    rw [hp,cond_false]
    simp only [B4r,L52,E8,hg]
    repeat first
     | exact rfl
     | refine A8 rfl ?_
     | refine C8 rfl ?_
     | refine A8 (by simp only [SBs]; omega) ?_
     | refine C8 (by simp only [SBs]; omega) ?_
     | refine A8 hz ?_
     | refine A8 (D6 ⟨h1,(E9 (by omega)).1,(E9 (by omega)).2⟩) ?_
   have hg:gDm x n=0:=by
    unfold gDm
    dsimp only [K5]
    repeat first
     | exact rfl
     | omega
     | refine I7 (by omega) ?_
     | refine G7 (by omega) ?_
     | refine G7 (fun h=>by omega) ?_
   have hp:p52 x n=true:=by unfold p52; rw [hg]; rfl
   rw [hp,cond_true]
   repeat first
    | exact rfl
    | refine A8 rfl ?_
    | refine C8 rfl ?_
    | refine A8 (by simp only [SBs]; omega) ?_
    | refine C8 (by simp only [SBs]; omega) ?_
    | refine A8 hz ?_
    | refine A8 (D6 ⟨h1,(E9 (by omega)).1,(E9 (by omega)).2⟩) ?_
  have e1:W ((n:Int) - 1)=((n - 1:Nat):Int):=by rw [E2y (by omega) (by omega)]; omega
  rw [e1]
  simp only [Int.toNat_natCast]
  by_cases c1:S9 (x.m.getD n default) ≠ 0
  ·skip
   have hg:gDm x n=S9 (x.m.getD n default):=by
    unfold gDm
    dsimp only [K5]
    repeat first
     | exact rfl
     | omega
     | refine I7 (by omega) ?_
     | refine G7 (by omega) ?_
     | refine I7 ⟨by omega,c2⟩ ?_
     | refine G7 (fun h=>c2 h.2) ?_
     | refine G7 (fun h=>by omega) ?_
   have hp:p52 x n=false:=by unfold p52; rw [hg]; simpa using c1
   rw [hp,cond_false]
   simp only [B4r,L52,E8,hg]
   repeat first
    | exact rfl
    | refine A8 rfl ?_
    | refine C8 rfl ?_
    | refine A8 (by simp only [SBs]; omega) ?_
    | refine C8 (by simp only [SBs]; omega) ?_
    | refine A8 hz ?_
    | refine A8 (D6 ⟨h1,(E9 (by omega)).1,(E9 (by omega)).2⟩) ?_
    | refine A8 (dT ((M0 _ _).2 c2)) ?_
    | refine C8 (dF fun h=>c2 ((M0 _ _).1 h)) ?_
    | refine A8 (notT c2) ?_
    | refine C8 (A9c c2) ?_
  by_cases c2:A6w (x.m.getD (n - 1) default) (x.m.getD n default)=false
  ·skip
   have hg:gDm x n=9:=by
    unfold gDm
    dsimp only [K5]
    repeat first
     | exact rfl
     | omega
     | refine I7 (by omega) ?_
     | refine G7 (by omega) ?_
     | refine I7 ⟨by omega,c2⟩ ?_
     | refine G7 (fun h=>c2 h.2) ?_
     | refine G7 (fun h=>by omega) ?_
   have hp:p52 x n=false:=by unfold p52; rw [hg]; rfl
   rw [hp,cond_false]
   simp only [B4r,L52,E8,hg]
   repeat first
    | exact rfl
    | refine A8 rfl ?_
    | refine C8 rfl ?_
    | refine A8 (by simp only [SBs]; omega) ?_
    | refine C8 (by simp only [SBs]; omega) ?_
    | refine A8 hz ?_
    | refine A8 (D6 ⟨h1,(E9 (by omega)).1,(E9 (by omega)).2⟩) ?_
    | refine A8 (dT ((M0 _ _).2 c2)) ?_
    | refine C8 (dF fun h=>c2 ((M0 _ _).1 h)) ?_
    | refine A8 (notT c2) ?_
    | refine C8 (A9c c2) ?_
  by_cases c3:(U7 x (x.m.getD n default).f (x.m.getD n default).t (x.m.getD n default).a).2 ≠ 0
  ·skip
   have hg:gDm x n=(U7 x (x.m.getD n default).f (x.m.getD n default).t (x.m.getD n default).a).2:=by
    unfold gDm
    dsimp only [K5]
    repeat first
     | exact rfl
     | omega
     | refine I7 (by omega) ?_
     | refine G7 (by omega) ?_
     | refine I7 ⟨by omega,c2⟩ ?_
     | refine G7 (fun h=>c2 h.2) ?_
     | refine G7 (fun h=>by omega) ?_
   have hp:p52 x n=false:=by unfold p52; rw [hg]; simpa using c3
   rw [hp,cond_false]
   simp only [B4r,L52,E8,hg]
   repeat first
    | exact rfl
    | refine A8 rfl ?_
    | refine C8 rfl ?_
    | refine A8 (by simp only [SBs]; omega) ?_
    | refine C8 (by simp only [SBs]; omega) ?_
    | refine A8 hz ?_
    | refine A8 (D6 ⟨h1,(E9 (by omega)).1,(E9 (by omega)).2⟩) ?_
    | refine A8 (dT ((M0 _ _).2 c2)) ?_
    | refine C8 (dF fun h=>c2 ((M0 _ _).1 h)) ?_
    | refine A8 (notT c2) ?_
    | refine C8 (A9c c2) ?_
  by_cases c4:(U7 x (x.m.getD n default).f (x.m.getD n default).t (x.m.getD n default).a).1 < (x.m.getD n default).lo
  ·skip
   have hg:gDm x n=16:=by
    unfold gDm
    dsimp only [K5]
    repeat first
     | exact rfl
     | omega
     | refine I7 (by omega) ?_
     | refine G7 (by omega) ?_
     | refine I7 ⟨by omega,c2⟩ ?_
     | refine G7 (fun h=>c2 h.2) ?_
     | refine G7 (fun h=>by omega) ?_
   have hp:p52 x n=false:=by unfold p52; rw [hg]; rfl
   rw [hp,cond_false]
   simp only [B4r,L52,E8,hg]
   repeat first
    | exact rfl
    | refine A8 rfl ?_
    | refine C8 rfl ?_
    | refine A8 (by simp only [SBs]; omega) ?_
    | refine C8 (by simp only [SBs]; omega) ?_
    | refine A8 hz ?_
    | refine A8 (D6 ⟨h1,(E9 (by omega)).1,(E9 (by omega)).2⟩) ?_
    | refine A8 (dT ((M0 _ _).2 c2)) ?_
    | refine C8 (dF fun h=>c2 ((M0 _ _).1 h)) ?_
    | refine A8 (notT c2) ?_
    | refine C8 (A9c c2) ?_
  by_cases c5:(U7 x (x.m.getD n default).f (x.m.getD n default).t (x.m.getD n default).a).1 > (x.m.getD n default).hi
  ·skip
   have hg:gDm x n=16:=by
    unfold gDm
    dsimp only [K5]
    repeat first
     | exact rfl
     | omega
     | refine I7 (by omega) ?_
     | refine G7 (by omega) ?_
     | refine I7 ⟨by omega,c2⟩ ?_
     | refine G7 (fun h=>c2 h.2) ?_
     | refine G7 (fun h=>by omega) ?_
   have hp:p52 x n=false:=by unfold p52; rw [hg]; rfl
   rw [hp,cond_false]
   simp only [B4r,L52,E8,hg]
   repeat first
    | exact rfl
    | refine A8 rfl ?_
    | refine C8 rfl ?_
    | refine A8 (by simp only [SBs]; omega) ?_
    | refine C8 (by simp only [SBs]; omega) ?_
    | refine A8 hz ?_
    | refine A8 (D6 ⟨h1,(E9 (by omega)).1,(E9 (by omega)).2⟩) ?_
    | refine A8 (dT ((M0 _ _).2 c2)) ?_
    | refine C8 (dF fun h=>c2 ((M0 _ _).1 h)) ?_
    | refine A8 (notT c2) ?_
    | refine C8 (A9c c2) ?_
  have hg:gDm x n=0:=by
   unfold gDm
   dsimp only [K5]
   repeat first
    | exact rfl
    | omega
    | refine I7 (by omega) ?_
    | refine G7 (by omega) ?_
    | refine G7 (fun h=>c2 h.2) ?_
    | refine G7 (fun h=>by omega) ?_
  have hp:p52 x n=true:=by unfold p52; rw [hg]; rfl
  rw [hp,cond_true]
  repeat first
   | exact rfl
   | refine A8 rfl ?_
   | refine C8 rfl ?_
   | refine A8 (by simp only [SBs]; omega) ?_
   | refine C8 (by simp only [SBs]; omega) ?_
   | refine A8 hz ?_
   | refine A8 (D6 ⟨h1,(E9 (by omega)).1,(E9 (by omega)).2⟩) ?_
   | refine A8 (dT ((M0 _ _).2 c2)) ?_
   | refine C8 (dF fun h=>c2 ((M0 _ _).1 h)) ?_
   | refine A8 (notT c2) ?_
   | refine C8 (A9c c2) ?_
 ·rw [if_neg h]
  simp only [N52] at h
  refine C8 (dF (by omega)) ?_
  rfl
def G3n:Blk:=hookP sp52 9 [] (fdT E0c 0 .ret (.exit 0) B1o L52 B4r F0w N52 p52 E6d)
theorem F2w {A:Amb} {q:Prims} (h0:PrimOK prog A pDt) (hq:PrimOK prog A q):PrimOK prog A (q.addb 52 0 G3n) :=
 SEB.findR (id:=0) (ds:=[]) (dec:=B1o) (sp:=sp52) (sq:=E0c) (m:=9) (eb:=.ret) (ee:=.exit 0) (L:=L52) (Lb:=B4r) (Le:=F0w) (N:=N52) (p:=p52) (Inv:=E6d) (k:=60) F7 F8 h0 hq func52 (show f52.body=some (f52.body.getD .skip) by kernel_rfl) (body:=D3z) (by kernel_rfl)
  rfl rfl rfl rfl (by simp) (by simp) (fun _ _=>⟨⟨.inr rfl,.inr rfl,.inr rfl,.inr rfl,.inr rfl,.inr rfl,.inr rfl,.inr rfl,.inr rfl,trivial⟩,⟨.inr rfl,.inr rfl,.inr rfl,.inr rfl,.inr rfl,.inr rfl,.inr rfl,.inr rfl,.inr rfl,trivial⟩⟩) G2i
end Go.Proofs.Tryz
namespace Go.Proofs.Tryz
open Go.Ad
theorem B7u (d:Drw) (a b c e:Lf):B1l [a,b,c,e,Lf.o (A9 d)]=d:=by simp [B1l,E8]
theorem B7w (d:Drw) (a:Lf):B1o [a,Lf.o (A9 d)]=d:=by simp [B1o,E8]
theorem F6u (d:Drw):fdE p46 N46 d=decide (U1 (gDm d) d.m.length=0):=Z5 (gDm d) fun _ _=>rfl
theorem F6v (d:Drw):fdE p52 N52 d=decide (U1 (gDm d) d.m.length=0):=Z5 (gDm d) fun _ _=>rfl
theorem G1q {d:Drw} (h:U1 (gDm d) d.m.length ≠ 0):gDm d (G5 (p46 d) (N46 d) 0)=U1 (gDm d) d.m.length:=(X9 (p:=p46 d) (fun _ _=>rfl) h).2
theorem G1s {d:Drw} (h:U1 (gDm d) d.m.length ≠ 0):gDm d (G5 (p52 d) (N52 d) 0)=U1 (gDm d) d.m.length:=(X9 (p:=p52 d) (fun _ _=>rfl) h).2
def B1r (d:Drw):Int:=if d.m.length > 256 then 5 else U1 (gDm d) d.m.length
def E7h:Prims:=(pDt.addb 46 0 G3k).addb 52 0 G3n
theorem F4c {A:Amb} (hT:Tab A) (hG:gN prog<=A.G):PrimOK prog A E7h:=by
 have h0:=E7j hT hG
 exact F2w h0 (F2t h0 h0)
end Go.Proofs.Tryz
namespace Go.Proofs.Tryz
open Go.Ad
theorem G5s (d:Drw):(D5 prog E7h 60).call 46 [.agg d.av] (Bg 8) F9 =
  brK (decide ((d.m.length:Int) > 256)) (some (.int .i64 5)) (brK (fdC L46 B1l E5z [.n (d.m.length),.fr (A7 Dim.fv d.m),.i ((d.m.length:Int)),.i (0),.o (A9 d)]) (brK (fdE p46 N46 (B1l [.n (d.m.length),.fr (A7 Dim.fv d.m),.i ((d.m.length:Int)),.i (0),.o (A9 d)])) (some (.int .i64 0)) (some (.sint IntKind.i64 (gDm (I1 (A9 d)) (G5 (p46 (B1l [.n (d.m.length),.fr (A7 Dim.fv d.m),.i ((d.m.length:Int)),.i (0),.o (A9 d)])) (N46 (B1l [.n (d.m.length),.fr (A7 Dim.fv d.m),.i ((d.m.length:Int)),.i (0),.o (A9 d)])) 0))))) none):=by kernel_rfl
theorem G7q (d:Drw) (hk:RightD d):∃ v,(D5 prog E7h 60).call 46 [.agg d.av] (Bg 8) F9=some v/\R3 (B1r d) v:=by
 rw [G5s]
 simp only [B7u,B7w,F6u,F6v,E8]
 by_cases c1:d.m.length > 256
 rotate_left
 by_cases c2:U1 (gDm d) d.m.length ≠ 0
 rotate_left
 all_goals
  apply exV
  focus
   repeat first
    | exact rfl
    | refine A8 rfl ?_
    | refine C8 rfl ?_
    | refine A8 (by simp only [SBs]; omega) ?_
    | refine C8 (by simp only [SBs]; omega) ?_
    | refine A8 (I8 (L:=L46) (dec:=B1l) (Inv:=E5z) (x:=d) (B7u d _ _ _ _) hk) ?_
  focus
   first
    | apply viI
    | apply viS
   dsimp only [B1r]
   repeat first
    | exact rfl
    | omega
    | refine I7 (by omega) ?_
    | refine G7 (by omega) ?_
    | exact (G1q c2).symm
theorem G5y (d:Drw):(D5 prog E7h 60).call 52 [.agg d.av] (Bg 8) F9 =
  brK (decide ((d.m.length:Int) > 256)) (some (.int .i64 5)) (brK (fdC L52 B1o E6d [.i (0),.o (A9 d)]) (brK (fdE p52 N52 (B1o [.i (0),.o (A9 d)])) (some (.int .i64 0)) (some (.sint IntKind.i64 (gDm (I1 (A9 d)) (G5 (p52 (B1o [.i (0),.o (A9 d)])) (N52 (B1o [.i (0),.o (A9 d)])) 0))))) none):=by kernel_rfl
theorem G7v (d:Drw) (hk:RightD d):∃ v,(D5 prog E7h 60).call 52 [.agg d.av] (Bg 8) F9=some v/\R3 (B1r d) v:=by
 rw [G5y]
 simp only [B7u,B7w,F6u,F6v,E8]
 by_cases c1:d.m.length > 256
 rotate_left
 by_cases c2:U1 (gDm d) d.m.length ≠ 0
 rotate_left
 all_goals
  apply exV
  focus
   repeat first
    | exact rfl
    | refine A8 rfl ?_
    | refine C8 rfl ?_
    | refine A8 (by simp only [SBs]; omega) ?_
    | refine C8 (by simp only [SBs]; omega) ?_
    | refine A8 (I8 (L:=L52) (dec:=B1o) (Inv:=E6d) (x:=d) (B7w d _) hk) ?_
  focus
   first
    | apply viI
    | apply viS
   dsimp only [B1r]
   repeat first
    | exact rfl
    | omega
    | refine I7 (by omega) ?_
    | refine G7 (by omega) ?_
    | exact (G1s c2).symm
def VDm (d:Drw):Tr AV:=.br (D8 (RightD d)) (.leaf (.sint .i64 (B1r d))) .fail
def pDm:Prims:=(pDt.addt 46 (R6 Q4 VDm)).addt 52 (R6 Q4 VDm)
theorem G0r {A:Amb} (hT:Tab A) (hG:gN prog<=A.G):PrimOK prog A pDm:=by
 have h0:=F4c hT hG
 refine J5 hG h0 (J5 hG h0 (E7j hT hG) Q4 VDm func46 (by kernel_rfl) fun x v hv=>?_) Q4 VDm func52 (by kernel_rfl) fun x v hv=>?_
 ·obtain ⟨hz,hv⟩:=Tr.br1 hv
  cases hv
  obtain ⟨v',h1,h2⟩:=G7q x (J4 hz)
  exact ⟨v',h1,H6 h2,K4 h2⟩
 ·obtain ⟨hz,hv⟩:=Tr.br1 hv
  cases hv
  obtain ⟨v',h1,h2⟩:=G7v x (J4 hz)
  exact ⟨v',h1,H6 h2,K4 h2⟩
theorem D1w {d:Drw} (h:OkD d) (he:A2q d=0):RightD d:=by
 refine ⟨h,fun i hi=>?_⟩
 have h1:U1 (gFe d) d.l.length=0:=by
  unfold A2q at he
  split at he
  ·omega
  ·exact he
 have h2:=G3c.1 h1 i hi
 refine Classical.byContradiction fun hn=>?_
 have h3:X0 (D9 d i) ≠ 0:=by unfold X0; rw [if_pos hn]; exact hn
 unfold gFe at h2
 rw [if_pos h3] at h2
 exact h3 h2
end Go.Proofs.Tryz
namespace Go.Proofs.Tryz
open Go.Ad
def A5s:Code:=I9 (J7 0 (f90.body.getD .skip))
def sp90:SP:=⟨[.flist 1,.str]++dr 3++[.list 8,.bool,.int .i64]++dr 40,dd8++[.vec 1 9]⟩
def sq90:SP:=⟨[.drop,.str]++dr 3++[.list 8,.bool]++dr 41,dd8++[.vec 1 9]⟩
def D2e:AEx->SP
 | .normal=>sp90
 | _=>sq90
def A5h (l:List Txt) (s:Txt) (m:Nat) (b:Bool) (i:Int) (r:Nat->List AV):List Lf:=[.n l.length,.fr (A7 txF l),.s s,.n m,.b b,.i i,.n m,.r r]
abbrev E6p (l:List Txt) (s:Txt) (m:Nat) (b:Bool) (i:Int) (r:Nat->List AV):Option (AEx × List Lf):=some (.normal,A5h l s m b (W (i+1)) r)
abbrev F0b (l:List Txt) (s x:Txt) (m:Nat) (b:Bool) (i:Int) (r:Nat->List AV):Option (AEx × List Lf) :=
 brK (decide (0<=i/\i < (l.length:Int))) (brK (!(x == s)) (brK (decide (0<=i/\i < (l.length:Int))) (brK (decide (m+1 < 2147483648/\m=m)) (E6p l s (m+1) b i (K3 m r [.sstr x])) none) none) (E6p l s m b i r)) none
theorem D9o (l:List Txt) (s:Txt) (m:Nat) (b:Bool) (i:Int) (r:Nat->List AV):F3 prog (D5 prog pDm 60) (pDm.blk 90) A5s (sp90.rho (A5h l s m b i r)) (sp90.heap (A5h l s m b i r)) (H9 D2e 8 [8]) =
  brK (decide (i < (l.length:Int))) (brK (!b) (brK (decide (0<=i/\i < (l.length:Int))) (brK (!Op.bytesLess (l.getD i.toNat default) s)
   (brK (decide (m+1 < 2147483648/\m=m)) (F0b l s (l.getD i.toNat default) (m+1) true i (K3 m r [.sstr s])) none)
   (F0b l s (l.getD i.toNat default) m b i r)) none) (F0b l s (l.getD i.toNat default) m b i r)) (some (.exit 0,[.s s,.n m,.b b,.n m,.r r])):=by kernel_rfl
def O90 (l:List Txt) (s:Txt) (n:Nat):List Txt × Bool:=(l.take n).foldl (A4u s) ([],false)
theorem E2t {l:List Txt} {s:Txt} {n:Nat} (h:n < l.length):O90 l s (n+1)=A4u s (O90 l s n) (l.getD n default):=by
 unfold O90
 rw [List.take_succ_eq_append_getElem h,List.foldl_append,List.getD_eq_getElem?_getD,List.getElem?_eq_getElem h]
 rfl
theorem F1a (l:List Txt) (s:Txt) (n:Nat):(O90 l s n).1.length<=2*l.length:=by
 have h1:=B9g s (l.take n) ([],false)
 have h2:(l.take n).length<=l.length:=by simp; omega
 unfold O90
 simp only [List.length_nil] at h1
 omega
def L90 (x:List Txt × Txt) (n:Nat):List Lf:=A5h x.1 x.2 (O90 x.1 x.2 n).1.length (O90 x.1 x.2 n).2 n (C9 (O90 x.1 x.2 n).1)
def A4c (x:List Txt × Txt):List Lf:=A5h x.1 x.2 0 false 0 (fun _=>[])
def Le90 (_:List Lf) (x:List Txt × Txt):List Lf:=[.s x.2,.n (putW x).1.length,.b (putW x).2,.n (putW x).1.length,.r (C9 (putW x).1)]
where putW (x:List Txt × Txt):=x.1.foldl (A4u x.2) ([],false)
def A3n:List Lf->List Txt × Txt
 | [.n m,.fr f,.s s,_,_,_,_,_]=>(ofR txF m f,s)
 | _=>default
def D5e (x:List Txt × Txt):Prop:=x.1.length<=1000000
theorem F3g (a b:Txt):(!Op.bytesLess a b)=decide (b<=a):=by
 rw [Go.Proofs.bytesLess_eq]
 by_cases h:a < b
 ·have h2:¬ b<=a:=fun h3=>h3 h
  rw [dT h,dF h2]; rfl
 ·have h2:b<=a:=h
  rw [dF h,dT h2]; rfl
end Go.Proofs.Tryz
namespace Go.Proofs.Tryz
open Go.Ad
theorem E0h {l:List Txt} {s x:Txt} {m:Nat} {b:Bool} {n:Nat} {r:Nat->List AV} (h:n < l.length) (hm:m < 10000000):F0b l s x m b n r=if x=s then E6p l s m b n r else E6p l s (m+1) b n (K3 m r [.sstr x]):=by
 unfold F0b
 have e:decide (0<=(n:Int)/\(n:Int) < (l.length:Int))=true:=dT (by omega)
 have e2:decide (m+1 < 2147483648/\m=m)=true:=dT ⟨by omega,rfl⟩
 rw [e,e2]
 by_cases hx:x=s
 ·rw [if_pos hx,show (x == s)=true by simpa using hx]; rfl
 ·rw [if_neg hx,show (x == s)=false by simpa using hx]; rfl
theorem SEB.step90 {A:Amb} (hq:PrimOK prog A pDm) (x:List Txt × Txt) (hx:D5e x) (n:Nat) (hn:n < x.1.length) (Bb:Heap) (hB:Bb.length=8) :
  SEB prog A Bb A5s ⟨sp90.rho (L90 x n),sp90.heap (L90 x n),[8]⟩ .normal ⟨sp90.rho (L90 x (n+1)),sp90.heap (L90 x (n+1)),[8]⟩:=by
 obtain ⟨l,s⟩:=x
 simp only [D5e] at hx hn
 have hk:=D9o l s (O90 l s n).1.length (O90 l s n).2 n (C9 (O90 l s n).1)
 have hlen:=F1a l s n
 rw [dT (show (n:Int) < (l.length:Int) by omega),dT (show 0<=(n:Int)/\(n:Int) < (l.length:Int) by omega),Int.toNat_natCast,E0h hn (by omega),E0h hn (by omega),F3g,
  dT (show (O90 l s n).1.length+1 < 2147483648/\(O90 l s n).1.length=(O90 l s n).1.length from ⟨by omega,rfl⟩)] at hk
 have hs:=E2t (s:=s) hn
 unfold L90
 dsimp only
 rw [hs]
 clear hs
 revert hk hlen
 generalize O90 l s n=o
 obtain ⟨O,d⟩:=o
 intro hk hlen
 dsimp only at hk hlen ⊢
 obtain ⟨y,hy⟩:∃ y,y=l.getD n default:=⟨_,rfl⟩
 rw [<- hy] at hk ⊢
 have hbl:BlkOK prog A (pDm.blk 90) A5s:=(hq.blk 90 f90 (f90.body.getD .skip) func90 (show f90.body=some (f90.body.getD .skip) by kernel_rfl)).sub (id:=0) (by kernel_rfl)
 simp only [E6p,C3i (show n < 2 ^ 62 by omega)] at hk
 have fin:∀ (ls:List Lf),F3 prog (D5 prog pDm 60) (pDm.blk 90) A5s (sp90.rho (A5h l s O.length d n (C9 O))) (sp90.heap (A5h l s O.length d n (C9 O))) (H9 D2e 8 [8])=some (.normal,ls) ->
   SEB prog A Bb A5s ⟨sp90.rho (A5h l s O.length d n (C9 O)),sp90.heap (A5h l s O.length d n (C9 O)),[8]⟩ .normal ⟨sp90.rho ls,sp90.heap ls,[8]⟩:=fun ls h=>SEB.of_KP (e:=.normal) (sp:=D2e) F7 F8 hq hbl hB h rfl
 unfold A4u
 dsimp only
 by_cases h1:(!d && decide (s<=y))=true
 ·rw [if_pos h1]
  rw [Bool.and_eq_true] at h1
  by_cases h2:y=s
  ·rw [if_pos h2]
   rw [h1.1,h1.2,if_pos h2] at hk
   have:=fin _ hk
   refine this.wk_out ?_
   have w:=Wk.rowsQ (A:=A) (B0:=Bb) (ρ:=sp90.rho (A5h l s (O.length+1) true ((n+1:Nat):Int) (K3 O.length (C9 O) [.sstr s]))) (D:=[8]) (B:=sp90.heap (A5h l s (O.length+1) true ((n+1:Nat):Int) (K3 O.length (C9 O) [.sstr s]))) (b:=8) (r':=C9 (O++[s])) (ty:=9) rfl (fun h=>by omega) (fun i hi=>A1z O s hi)
   have e:(O++[s]).length=O.length+1:=by simp
   rw [e]
   exact w
  ·rw [if_neg h2]
   rw [h1.1,h1.2,if_neg h2] at hk
   have:=fin _ hk
   refine this.wk_out ?_
   have w:=Wk.rowsQ (A:=A) (B0:=Bb) (ρ:=sp90.rho (A5h l s (O.length+1+1) true ((n+1:Nat):Int) (K3 (O.length+1) (K3 O.length (C9 O) [.sstr s]) [.sstr y]))) (D:=[8]) (B:=sp90.heap (A5h l s (O.length+1+1) true ((n+1:Nat):Int) (K3 (O.length+1) (K3 O.length (C9 O) [.sstr s]) [.sstr y]))) (b:=8) (r':=C9 (O++[s]++[y])) (ty:=9) rfl (fun h=>by omega) (fun i hi=>E0n O s y hi)
   have e:(O++[s]++[y]).length=O.length+1+1:=by simp
   rw [e]
   exact w
 ·rw [if_neg h1]
  have hk2:F3 prog (D5 prog pDm 60) (pDm.blk 90) A5s (sp90.rho (A5h l s O.length d n (C9 O))) (sp90.heap (A5h l s O.length d n (C9 O))) (H9 D2e 8 [8])=if y=s then some (.normal,A5h l s O.length d ((n+1:Nat):Int) (C9 O)) else some (.normal,A5h l s (O.length+1) d ((n+1:Nat):Int) (K3 O.length (C9 O) [.sstr y])):=by
   rw [hk]
   cases d with
   | true=>rfl
   | false =>
    have h3:decide (s<=y)=false:=by simpa using h1
    rw [h3]; rfl
  by_cases h2:y=s
  ·rw [if_pos h2] at hk2 ⊢
   exact fin _ hk2
  ·rw [if_neg h2] at hk2 ⊢
   refine (fin _ hk2).wk_out ?_
   have w:=Wk.rowsQ (A:=A) (B0:=Bb) (ρ:=sp90.rho (A5h l s (O.length+1) d ((n+1:Nat):Int) (K3 O.length (C9 O) [.sstr y]))) (D:=[8]) (B:=sp90.heap (A5h l s (O.length+1) d ((n+1:Nat):Int) (K3 O.length (C9 O) [.sstr y]))) (b:=8) (r':=C9 (O++[y])) (ty:=9) rfl (fun h=>by omega) (fun i hi=>A1z O y hi)
   have e:(O++[y]).length=O.length+1:=by simp
   rw [e]
   exact w
theorem SEB.end90 {A:Amb} (hq:PrimOK prog A pDm) (x:List Txt × Txt) (_hx:D5e x) (Bb:Heap) (hB:Bb.length=8) :
  SEB prog A Bb A5s ⟨sp90.rho (L90 x x.1.length),sp90.heap (L90 x x.1.length),[8]⟩ (.exit 0) ⟨sq90.rho (Le90 (A4c x) x),sq90.heap (Le90 (A4c x) x),[8]⟩:=by
 obtain ⟨l,s⟩:=x
 have hbl:BlkOK prog A (pDm.blk 90) A5s:=(hq.blk 90 f90 (f90.body.getD .skip) func90 (show f90.body=some (f90.body.getD .skip) by kernel_rfl)).sub (id:=0) (by kernel_rfl)
 have e:O90 l s l.length=Le90.putW (l,s):=by unfold O90 Le90.putW; rw [List.take_length]
 have hk:=D9o l s (O90 l s l.length).1.length (O90 l s l.length).2 l.length (C9 (O90 l s l.length).1)
 rw [dF (show ¬ (l.length:Int) < (l.length:Int) by omega)] at hk
 have:=SEB.of_KP (e:=.exit 0) (sp:=D2e) (B0:=Bb) (ds:=[8]) F7 F8 hq hbl hB hk rfl
 unfold L90 Le90
 rw [<- e]
 exact this
theorem G2y {A:Amb} (x:List Txt × Txt) (Bb:Heap) (hB:Bb.length=8):Wk A Bb ⟨sp90.rho (A4c x),sp90.heap (A4c x),[8]⟩ ⟨sp90.rho (L90 x 0),sp90.heap (L90 x 0),[8]⟩:=by
 have e:O90 x.1 x.2 0=([],false):=by unfold O90; rfl
 unfold L90
 rw [e]
 exact Wk.rowsQ (A:=A) (B0:=Bb) (ρ:=sp90.rho (A4c x)) (D:=[8]) (B:=sp90.heap (A4c x)) (b:=8) (r':=C9 []) (ty:=9) rfl (fun h=>by omega) (fun i hi=>(Nat.not_lt_zero i hi).elim)
def G3q:Blk:=hookP sp90 8 [8] (itT sq90 0 (.exit 0) A3n A4c Le90 D5e)
theorem F2z {A:Amb} {q:Prims} (h0:PrimOK prog A pDm) (hq:PrimOK prog A q):PrimOK prog A (q.addb 90 0 G3q) :=
 SEB.iterR (P:=prog) (sp0:=sp90) (sp:=sp90) (sq:=sq90) (m:=8) (ds:=[8]) (ee:=.exit 0) (dec:=A3n) (L0:=A4c) (L:=L90) (Le:=Le90) (N:=fun x=>x.1.length) (Inv:=D5e) hq func90 (show f90.body=some (f90.body.getD .skip) by kernel_rfl) (body:=A5s) (by kernel_rfl)
  rfl (by simp) (fun _=>⟨.inr rfl,.inr rfl,.inr rfl,.inr rfl,.inr rfl,.inr rfl,.inr rfl,.inr rfl,.inl rfl,trivial⟩) (fun x _ Bb hB=>G2y x Bb hB) (fun x hx n hn Bb hB=>SEB.step90 h0 x hx n hn Bb hB) (fun x hx Bb hB=>SEB.end90 h0 x hx Bb hB)
def pPu1:Prims:=pDm.addb 90 0 G3q
end Go.Proofs.Tryz
namespace Go.Proofs.Tryz
open Go.Ad
def spPu:SP:=⟨dr 4++[.flist 1]++dr 43,dd8⟩
abbrev fzT (sp:AEx) (n:Nat) (r:Nat->List AV):Option (AEx × List Lf):=brK (D8 (D4w n n r) && true) (some (sp,[.n n,.fr (A4t r)])) none
theorem D4d (l:List Txt) (s:Txt):F3 prog (D5 prog pPu1 60) (pPu1.blk 90) (f90.body.getD .skip) ([V7 l,.sstr s]++List.replicate 46 G6) (Bg 8) (D5q (fun _=>[.frz 4]) (fun _=>spPu) 8 []) =
  brK (itC A4c A3n D5e (A4c (l,s))) (brK (!(Le90.putW (A3n (A4c (l,s)))).2)
   (brK (decide ((Le90.putW (A3n (A4c (l,s)))).1.length+1 < 2147483648/\(Le90.putW (A3n (A4c (l,s)))).1.length=(Le90.putW (A3n (A4c (l,s)))).1.length)) (fzT .ret ((Le90.putW (A3n (A4c (l,s)))).1.length+1) (K3 (Le90.putW (A3n (A4c (l,s)))).1.length (C9 (Le90.putW (A3n (A4c (l,s)))).1) [.sstr (A3n (A4c (l,s))).2])) none)
   (fzT .ret (Le90.putW (A3n (A4c (l,s)))).1.length (C9 (Le90.putW (A3n (A4c (l,s)))).1))) none:=by kernel_rfl
theorem D8f (x:List Txt × Txt):A3n (A4c x)=x:=by
 obtain ⟨l,s⟩:=x
 simp [A3n,A4c,A5h,J3 U9]
theorem A8t (L:List Txt):D4w L.length L.length (C9 L):=⟨Nat.le_refl _,fun _ _=>rfl⟩
def parPT:Par (List Txt × Txt) where
 get:=fun | [a,b]=>(match B3f txF 1 a,sstr? b with | some (c,l),some s=>some (c,(l,s)) | _,_=>none) | _=>none
 av:=fun x=>[V7 x.1,.sstr x.2]
 ok:=by
  intro l x h ι vs hv
  split at h
  ·split at h
   ·rename_i h1 h2
    simp only [sI,pI] at h
    obtain ⟨rfl,rfl⟩:=h
    simp only [VRL] at hv ⊢
    obtain ⟨y,r,e,q1,y2,r2,e2,q2,q3⟩:=hv
    exact ⟨y,r,e,A4m h1 q1,y2,r2,e2,A0g h2 q2,q3⟩
   ·cases h
  ·cases h
 free:=fun _=>rfl
def VPu (x:List Txt × Txt):Tr AV:=.br (decide (x.1.length<=1000000)) (.leaf (V7 (P5 x.1 x.2))) .fail
def pPu:Prims:=pDm.addt 90 (R6 parPT VPu)
theorem E7s {A:Amb} (hT:Tab A) (hG:gN prog<=A.G):PrimOK prog A pPu:=by
 have h0:=G0r hT hG
 have h1:PrimOK prog A pPu1:=F2z h0 h0
 refine PrimOK.addParB h0 hG parPT VPu func90 (show f90.body=some (f90.body.getD .skip) by kernel_rfl) fun x v hv=>?_
 obtain ⟨hz,hv⟩:=Tr.br1 hv
 cases hv
 obtain ⟨l,s⟩:=x
 have hz:=of_decide_eq_true hz
 have hb:BlkOK prog A (pPu1.blk 90) (f90.body.getD .skip):=h1.blk 90 f90 (f90.body.getD .skip) func90 (show f90.body=some (f90.body.getD .skip) by kernel_rfl)
 have hk:=D4d l s
 rw [D8f,X7 (D8f (l,s)) (show D5e (l,s) from hz),show Le90.putW (l,s)=l.foldl (A4u s) ([],false) from rfl] at hk
 have hlen:(l.foldl (A4u s) ([],false)).1.length<=2*l.length:=by have:=B9g s l ([],false); simpa using this
 have he:P5 l s=E7v s (l.foldl (A4u s) ([],false)):=rfl
 revert hk hlen he
 generalize l.foldl (A4u s) ([],false)=o
 obtain ⟨O,d⟩:=o
 intro hk hlen he
 dsimp only at hk hlen
 unfold fzT at hk
 simp only at hz
 have fin:∀ (n:Nat) (f:Nat->List FV),F3 prog (D5 prog pPu1 60) (pPu1.blk 90) (f90.body.getD .skip) ([V7 l,.sstr s]++List.replicate 46 G6) (Bg 8) (D5q (fun _=>[.frz 4]) (fun _=>spPu) 8 [])=some (.ret,[.n n,.fr f])->n=(P5 l s).length->(∀ i,i < n->f i=A7 txF (P5 l s) i) ->
   ∃ e s' vs,SEB prog A (Bg (gN prog)) (f90.body.getD .skip) ⟨parPT.av (l,s)++List.replicate (f90.ntmps - (parPT.av (l,s)).length) G6,Bg (gN prog),[]⟩ e s'/\(∀ id,e ≠ .exit id)/\X5 prog s'.B s'.ρ f90.results.toList=some vs/\s'.D=[]/\F5 0 (A1u vs)=true /\
    ∀ (ι:Emb) y,VR ι (A1u vs) y->VR ι (V7 (P5 l s)) y:=fun n f hr hn hf=>by
  refine ⟨.ret,⟨spPu.rho [.n n,.fr f],spPu.heap [.n n,.fr f],[]⟩,[.flist n f 1],?_,by simp,by kernel_rfl,rfl,rfl,fun ι y hy=>?_⟩
  ·rw [gsz]
   exact SEB.of_KG (e:=.ret) (sp:=fun _=>spPu) (gs:=fun _=>[.frz 4]) (B0:=Bg 8) (ds:=[]) F7 F8 h1 hb rfl hr rfl
  ·subst hn
   exact D0a hf hy
 cases d with
 | true =>
  rw [show (!true)=false from rfl,D6 (A8t O)] at hk
  refine fin O.length _ hk ?_ fun i hi=>?_
  ·rw [he]; rfl
  ·rw [he]; rfl
 | false =>
  have hfz:D4w (O.length+1) (O.length+1) (K3 O.length (C9 O) [.sstr s]):=⟨Nat.le_refl _,fun _ _=>rfl⟩
  rw [show (!false)=true from rfl,dT (show O.length+1 < 2147483648/\O.length=O.length from ⟨by omega,rfl⟩),D6 hfz] at hk
  have e2:P5 l s=O++[s]:=by rw [he]; rfl
  refine fin (O.length+1) _ hk (by rw [e2]; simp) fun i hi=>?_
  rw [e2]
  show (K3 O.length (C9 O) [.sstr s] i).map AV.fv=_
  rw [A1z O s hi]; rfl
end Go.Proofs.Tryz
