/- Drawings: features and their datums. -/
import Derived.Test.YtoboneiigikidaaGreatDoorFr
noncomputable section
namespace Go.Proofs.Tryz
open Go.Ad
structure OkD (d:Drw):Prop where
 len:d.l.length < 2 ^ 62
 sz:∀ i,i < d.l.length->szF (D9 d i)=true
 fr:∀ i,i < d.l.length->(D9 d i).l.length < 2 ^ 62
 dt:∀ i k,i < d.l.length->k < (D9 d i).l.length->(F6 (D9 d i) k).l.length < 2 ^ 62
 nm:I5 d.s=true
 dim:d.m.length < 2 ^ 62
 dsz:∀ i,i < d.m.length->I5 (K5 d i).f=true/\I5 (K5 d i).t=true
def leB (a b:List UInt8):Bool:=Op.bytesLess a b || a == b
def gFe (d:Drw) (n:Nat):Int:=if X0 (D9 d n) ≠ 0 then X0 (D9 d n) else if n > 0/\leB (D9 d n).s (D9 d (n - 1)).s=true then 9 else 0
def gDt (d:Drw) (y:Dat):Int:=if E5 d y.s < 0 then 6 else if y.m ≠ 0/\(D9 d (E5 d y.s).toNat).k=0 then 3 else 0
def gFr (d:Drw) (x:Frm):Int:=U1 (fun n=>gDt d (U6 x n)) x.l.length
def gFx (d:Drw) (f:Fea):Int:=U1 (fun k=>gFr d (F6 f k)) f.l.length
def A0w (d:Drw):Int:=U1 (fun i=>gFx d (D9 d i)) d.l.length
def A2q (d:Drw):Int:=if d.l.length > 32 then 5 else U1 (gFe d) d.l.length
theorem A0h (d:Drw) (s:List UInt8):E5 d s < d.l.length/\-1<=E5 d s:=by
 unfold E5 D5c
 have:=B5h (p:=A6g d s) (N:=d.l.length)
 split <;> omega
theorem F9f (d:Drw):(⟨d.s,ofR Fea.fv d.l.length (A7 Fea.fv d.l),ofR Dim.fv d.m.length (A7 Dim.fv d.m)⟩:Drw)=d:=by rw [J3 Fea.inj,J3 Dim.inj]
theorem F3h (l:List Fea):(ofR Fea.fv l.length (A7 Fea.fv l)).length=l.length:=by rw [J3 Fea.inj]
end Go.Proofs.Tryz
namespace Go.Proofs.Tryz
open Go.Ad
def C4j:Code:=I9 (J7 0 (f44.body.getD .skip))
def sp44a:SP:=⟨dr 1++[.is (.ptr (some (8,0)))]++dr 16++[.flist 9]++[.int .i64]++[.int .i64]++dr 66,dd8++[.any]⟩
def C7c:AEx->SP
 | .ret=>⟨dr 2++[.int .i64]++dr 84,dd8++[.any]⟩
 | .exit 0=>⟨dr 1++[.is (.ptr (some (8,0)))]++dr 85,dd8++[.any]⟩
 | _=>sp44a
theorem E8n (d:Drw) (n:Int):F3 prog (D5 prog pIx 60) (pIx.blk 44) C4j (sp44a.rho [.n d.l.length,.fr (A7 Fea.fv d.l),.i d.l.length,.i n,.o (A9 d)]) (sp44a.heap [.n d.l.length,.fr (A7 Fea.fv d.l),.i d.l.length,.i n,.o (A9 d)]) (H9 C7c 9 []) =
  brK (decide (n < (d.l.length:Int))) (brK (decide (0<=n/\n < (d.l.length:Int))) (brK (D8 (okR Frm.fv (d.l.getD n.toNat default).l.length (A7 Frm.fv (d.l.getD n.toNat default).l))) (brK (szF { s:=(d.l.getD n.toNat default).s,k:=(d.l.getD n.toNat default).k,a:=(d.l.getD n.toNat default).a,x:=(d.l.getD n.toNat default).x,y:=(d.l.getD n.toNat default).y,z:=(d.l.getD n.toNat default).z,lo:=(d.l.getD n.toNat default).lo,hi:=(d.l.getD n.toNat default).hi,l:=ofR Frm.fv (d.l.getD n.toNat default).l.length (A7 Frm.fv (d.l.getD n.toNat default).l) }) (brK (X0 { s:=(d.l.getD n.toNat default).s,k:=(d.l.getD n.toNat default).k,a:=(d.l.getD n.toNat default).a,x:=(d.l.getD n.toNat default).x,y:=(d.l.getD n.toNat default).y,z:=(d.l.getD n.toNat default).z,lo:=(d.l.getD n.toNat default).lo,hi:=(d.l.getD n.toNat default).hi,l:=ofR Frm.fv (d.l.getD n.toNat default).l.length (A7 Frm.fv (d.l.getD n.toNat default).l) } != 0) (some (.ret,[.i (X0 { s:=(d.l.getD n.toNat default).s,k:=(d.l.getD n.toNat default).k,a:=(d.l.getD n.toNat default).a,x:=(d.l.getD n.toNat default).x,y:=(d.l.getD n.toNat default).y,z:=(d.l.getD n.toNat default).z,lo:=(d.l.getD n.toNat default).lo,hi:=(d.l.getD n.toNat default).hi,l:=ofR Frm.fv (d.l.getD n.toNat default).l.length (A7 Frm.fv (d.l.getD n.toNat default).l) }),.o (A9 d)])) (brK (decide (n > 0)) (brK (decide (0<=W (n - 1)/\W (n - 1) < (d.l.length:Int))) (brK (Op.bytesLess (d.l.getD n.toNat default).s (d.l.getD (W (n - 1)).toNat default).s || (d.l.getD n.toNat default).s == (d.l.getD (W (n - 1)).toNat default).s) (some (.ret,[.i (9),.o (A9 d)])) (some (.normal,[.n (d.l.length),.fr (A7 Fea.fv d.l),.i ((d.l.length:Int)),.i (W (n+1)),.o (A9 d)]))) none) (some (.normal,[.n (d.l.length),.fr (A7 Fea.fv d.l),.i ((d.l.length:Int)),.i (W (n+1)),.o (A9 d)])))) none) none) none) (some (.exit 0,[.o (A9 d)])):=by kernel_rfl
def B4n (x:Drw) (n:Nat):List Lf:=[.n x.l.length,.fr (A7 Fea.fv x.l),.i x.l.length,.i n,.o (A9 x)]
def C7y:List Lf->Nat->List Lf
 | [_,_,_,_,.o o],n=>[.i (gFe (I1 o) n),.o o]
 | _,_=>[]
def D7q:List Lf->List Lf
 | [_,_,_,_,o]=>[o]
 | _=>[]
def B5x (x:Drw):Nat:=x.l.length
def A9d (x:Drw) (n:Nat):Bool:=decide (gFe x n=0)
def D0q (x:Drw):Prop:=OkD x/\x.l.length<=32
def A5x:List Lf->Drw
 | [_,_,_,_,.o o]=>I1 o
 | _=>default
theorem F5y (x:Drw) (hx:D0q x) (n:Nat) (hn:n<=B5x x):F3 prog (D5 prog pIx 60) (pIx.blk 44) C4j (sp44a.rho (B4n x n)) (sp44a.heap (B4n x n)) (H9 C7c 9 [])=some (if n < B5x x then (bif A9d x n then (.normal,B4n x (n+1)) else (.ret,C7y (B4n x 0) n)) else (.exit 0,D7q (B4n x 0))):=by
 obtain ⟨h1,hk⟩:=hx
 simp only [B4n,D7q]
 rw [E8n,I4 hn h1.len]
 simp only [Int.toNat_natCast,B8a,L8]
 by_cases h:n < B5x x
 ·rw [if_pos h]
  simp only [B5x] at h
  have hz:=h1.sz n h
  simp only [D9] at hz
  refine A8 (dT (by omega)) ?_
  refine A8 (dT (by omega)) ?_
  refine A8 rfl ?_
  refine A8 hz ?_
  by_cases he:X0 (x.l.getD n default)=0
  ·refine C8 (by simpa using he) ?_
   by_cases h0:n=0
   ·subst h0
    have hg:gFe x 0=0:=by unfold gFe; rw [if_neg (by simpa using he),if_neg (by omega)]
    have hp:A9d x 0=true:=by unfold A9d; rw [hg]; rfl
    rw [hp,cond_true]
    refine C8 (dF (by omega)) ?_
    rfl
   ·refine A8 (dT (by omega)) ?_
    have e1:W ((n:Int) - 1)=((n - 1:Nat):Int):=by have:=h1.len; rw [E2y (by omega) (by omega)]; omega
    rw [e1]
    simp only [Int.toNat_natCast]
    refine A8 (dT (by omega)) ?_
    cases hl:leB (x.l.getD n default).s (x.l.getD (n - 1) default).s with
    | true =>
     have hg:gFe x n=9:=by unfold gFe; rw [if_neg (by simpa using he),if_pos ⟨by omega,hl⟩]
     have hp:A9d x n=false:=by unfold A9d; rw [hg]; rfl
     rw [hp,cond_false]
     simp only [C7y,B4n,E8,hg]
     refine A8 hl ?_
     rfl
    | false =>
     have hg:gFe x n=0:=by unfold gFe; rw [if_neg (by simpa using he),if_neg (fun h=>by rw [show leB (D9 x n).s (D9 x (n - 1)).s=false from hl] at h; exact absurd h.2 (by simp))]
     have hp:A9d x n=true:=by unfold A9d; rw [hg]; rfl
     rw [hp,cond_true]
     refine C8 hl ?_
     rfl
  ·refine A8 (by simpa using he) ?_
   have hg:gFe x n=X0 (x.l.getD n default):=by unfold gFe; rw [if_pos he]
   have hp:A9d x n=false:=by unfold A9d; rw [hg]; simpa using he
   rw [hp,cond_false]
   simp only [C7y,B4n,E8,hg]
 ·rw [if_neg h]
  simp only [B5x] at h
  refine C8 (dF (by omega)) ?_
  rfl
def F7n:Blk:=hookP sp44a 9 [] (fdT C7c 0 .ret (.exit 0) A5x B4n C7y D7q B5x A9d D0q)
theorem E5e {A:Amb} {q:Prims} (h0:PrimOK prog A pIx) (hq:PrimOK prog A q):PrimOK prog A (q.addb 44 0 F7n) :=
 SEB.findR (id:=0) (ds:=[]) (dec:=A5x) (sp:=sp44a) (sq:=C7c) (m:=9) (eb:=.ret) (ee:=.exit 0) (L:=B4n) (Lb:=C7y) (Le:=D7q) (N:=B5x) (p:=A9d) (Inv:=D0q) (k:=60) F7 F8 h0 hq func44 (show f44.body=some (f44.body.getD .skip) by kernel_rfl) (body:=C4j) (by kernel_rfl)
  rfl rfl rfl rfl (by simp) (by simp) (fun _ _=>⟨⟨.inr rfl,.inr rfl,.inr rfl,.inr rfl,.inr rfl,.inr rfl,.inr rfl,.inr rfl,.inr rfl,trivial⟩,⟨.inr rfl,.inr rfl,.inr rfl,.inr rfl,.inr rfl,.inr rfl,.inr rfl,.inr rfl,.inr rfl,trivial⟩⟩) F5y
def D3x:Code:=I9 (J7 0 (f48.body.getD .skip))
def sp48:SP:=⟨dr 1++[.is (.ptr (some (8,0)))]++dr 1++[.int .i64]++dr 39,dd8++[.any]⟩
def E0a:AEx->SP
 | .ret=>⟨dr 2++[.int .i64]++dr 40,dd8++[.any]⟩
 | .exit 0=>⟨dr 43,dd8++[.any]⟩
 | _=>sp48
theorem F5a (d:Drw) (n:Int):F3 prog (D5 prog pIx 60) (pIx.blk 48) D3x (sp48.rho [.i n,.o (A9 d)]) (sp48.heap [.i n,.o (A9 d)]) (H9 E0a 9 []) =
  brK (decide (n < (d.l.length:Int))) (brK (decide (0<=n/\n < (d.l.length:Int))) (brK (D8 (okR Frm.fv (d.l.getD n.toNat default).l.length (A7 Frm.fv (d.l.getD n.toNat default).l))) (brK (szF { s:=(d.l.getD n.toNat default).s,k:=(d.l.getD n.toNat default).k,a:=(d.l.getD n.toNat default).a,x:=(d.l.getD n.toNat default).x,y:=(d.l.getD n.toNat default).y,z:=(d.l.getD n.toNat default).z,lo:=(d.l.getD n.toNat default).lo,hi:=(d.l.getD n.toNat default).hi,l:=ofR Frm.fv (d.l.getD n.toNat default).l.length (A7 Frm.fv (d.l.getD n.toNat default).l) }) (brK (X0 { s:=(d.l.getD n.toNat default).s,k:=(d.l.getD n.toNat default).k,a:=(d.l.getD n.toNat default).a,x:=(d.l.getD n.toNat default).x,y:=(d.l.getD n.toNat default).y,z:=(d.l.getD n.toNat default).z,lo:=(d.l.getD n.toNat default).lo,hi:=(d.l.getD n.toNat default).hi,l:=ofR Frm.fv (d.l.getD n.toNat default).l.length (A7 Frm.fv (d.l.getD n.toNat default).l) } != 0) (some (.ret,[.i (X0 { s:=(d.l.getD n.toNat default).s,k:=(d.l.getD n.toNat default).k,a:=(d.l.getD n.toNat default).a,x:=(d.l.getD n.toNat default).x,y:=(d.l.getD n.toNat default).y,z:=(d.l.getD n.toNat default).z,lo:=(d.l.getD n.toNat default).lo,hi:=(d.l.getD n.toNat default).hi,l:=ofR Frm.fv (d.l.getD n.toNat default).l.length (A7 Frm.fv (d.l.getD n.toNat default).l) }),.o (A9 d)])) (brK (decide (n > 0)) (brK (decide (0<=n/\n < (d.l.length:Int))) (brK (decide (0<=W (n - 1)/\W (n - 1) < (d.l.length:Int))) (brK (Op.bytesLess (d.l.getD n.toNat default).s (d.l.getD (W (n - 1)).toNat default).s || (d.l.getD n.toNat default).s == (d.l.getD (W (n - 1)).toNat default).s) (some (.ret,[.i (9),.o (A9 d)])) (some (.normal,[.i (W (n+1)),.o (A9 d)]))) none) none) (some (.normal,[.i (W (n+1)),.o (A9 d)])))) none) none) none) (some (.exit 0,[.o (A9 d)])):=by kernel_rfl
def L48 (x:Drw) (n:Nat):List Lf:=[.i n,.o (A9 x)]
def E2m:List Lf->Nat->List Lf
 | [_,.o o],n=>[.i (gFe (I1 o) n),.o o]
 | _,_=>[]
def F0u:List Lf->List Lf
 | [_,o]=>[o]
 | _=>[]
def N48 (x:Drw):Nat:=x.l.length
def p48 (x:Drw) (n:Nat):Bool:=decide (gFe x n=0)
def E6c (x:Drw):Prop:=OkD x/\x.l.length<=32
def B1m:List Lf->Drw
 | [_,.o o]=>I1 o
 | _=>default
theorem G2g (x:Drw) (hx:E6c x) (n:Nat) (hn:n<=N48 x):F3 prog (D5 prog pIx 60) (pIx.blk 48) D3x (sp48.rho (L48 x n)) (sp48.heap (L48 x n)) (H9 E0a 9 [])=some (if n < N48 x then (bif p48 x n then (.normal,L48 x (n+1)) else (.ret,E2m (L48 x 0) n)) else (.exit 0,F0u (L48 x 0))):=by
 obtain ⟨h1,hk⟩:=hx
 simp only [L48,F0u]
 rw [F5a,I4 hn h1.len]
 simp only [Int.toNat_natCast,B8a,L8]
 by_cases h:n < N48 x
 ·rw [if_pos h]
  simp only [N48] at h
  have hz:=h1.sz n h
  simp only [D9] at hz
  refine A8 (dT (by omega)) ?_
  refine A8 (dT (by omega)) ?_
  refine A8 rfl ?_
  refine A8 hz ?_
  by_cases he:X0 (x.l.getD n default)=0
  ·refine C8 (by simpa using he) ?_
   by_cases h0:n=0
   ·subst h0
    have hg:gFe x 0=0:=by unfold gFe; rw [if_neg (by simpa using he),if_neg (by omega)]
    have hp:p48 x 0=true:=by unfold p48; rw [hg]; rfl
    rw [hp,cond_true]
    refine C8 (dF (by omega)) ?_
    rfl
   ·refine A8 (dT (by omega)) ?_
    have e1:W ((n:Int) - 1)=((n - 1:Nat):Int):=by have:=h1.len; rw [E2y (by omega) (by omega)]; omega
    rw [e1]
    simp only [Int.toNat_natCast]
    refine A8 (dT (by omega)) ?_
    refine A8 (dT (by omega)) ?_
    cases hl:leB (x.l.getD n default).s (x.l.getD (n - 1) default).s with
    | true =>
     have hg:gFe x n=9:=by unfold gFe; rw [if_neg (by simpa using he),if_pos ⟨by omega,hl⟩]
     have hp:p48 x n=false:=by unfold p48; rw [hg]; rfl
     rw [hp,cond_false]
     simp only [E2m,L48,E8,hg]
     refine A8 hl ?_
     rfl
    | false =>
     have hg:gFe x n=0:=by unfold gFe; rw [if_neg (by simpa using he),if_neg (fun h=>by rw [show leB (D9 x n).s (D9 x (n - 1)).s=false from hl] at h; exact absurd h.2 (by simp))]
     have hp:p48 x n=true:=by unfold p48; rw [hg]; rfl
     rw [hp,cond_true]
     refine C8 hl ?_
     rfl
  ·refine A8 (by simpa using he) ?_
   have hg:gFe x n=X0 (x.l.getD n default):=by unfold gFe; rw [if_pos he]
   have hp:p48 x n=false:=by unfold p48; rw [hg]; simpa using he
   rw [hp,cond_false]
   simp only [E2m,L48,E8,hg]
 ·rw [if_neg h]
  simp only [N48] at h
  refine C8 (dF (by omega)) ?_
  rfl
def G3l:Blk:=hookP sp48 9 [] (fdT E0a 0 .ret (.exit 0) B1m L48 E2m F0u N48 p48 E6c)
theorem F2u {A:Amb} {q:Prims} (h0:PrimOK prog A pIx) (hq:PrimOK prog A q):PrimOK prog A (q.addb 48 0 G3l) :=
 SEB.findR (id:=0) (ds:=[]) (dec:=B1m) (sp:=sp48) (sq:=E0a) (m:=9) (eb:=.ret) (ee:=.exit 0) (L:=L48) (Lb:=E2m) (Le:=F0u) (N:=N48) (p:=p48) (Inv:=E6c) (k:=60) F7 F8 h0 hq func48 (show f48.body=some (f48.body.getD .skip) by kernel_rfl) (body:=D3x) (by kernel_rfl)
  rfl rfl rfl rfl (by simp) (by simp) (fun _ _=>⟨⟨.inr rfl,.inr rfl,.inr rfl,.inr rfl,.inr rfl,.inr rfl,.inr rfl,.inr rfl,.inr rfl,trivial⟩,⟨.inr rfl,.inr rfl,.inr rfl,.inr rfl,.inr rfl,.inr rfl,.inr rfl,.inr rfl,.inr rfl,trivial⟩⟩) G2g
end Go.Proofs.Tryz
namespace Go.Proofs.Tryz
open Go.Ad
def C4m:Code:=I9 (J7 6 (f44.body.getD .skip))
def sp44d:SP:=⟨dr 1++[.is (.ptr (some (8,0)))]++dr 44++[.flist 9]++[.int .i64]++[.int .i64]++dr 4++[.flist 5]++[.int .i64]++[.int .i64]++dr 4++[.flist 2]++[.int .i64]++[.int .i64]++dr 24,dd8++[.any,.any,.any]⟩
def C7f:AEx->SP
 | .ret=>⟨dr 2++[.int .i64]++dr 84,dd8++[.any,.any,.any]⟩
 | .exit 6=>⟨dr 1++[.is (.ptr (some (8,0)))]++dr 44++[.flist 9]++[.int .i64]++[.int .i64]++dr 4++[.flist 5]++[.int .i64]++[.int .i64]++dr 31,dd8++[.any,.any,.any]⟩
 | _=>sp44d
theorem E8q (d:Drw) (f:Fea) (x:Frm) (i k n:Int):F3 prog (D5 prog pIx 60) (pIx.blk 44) C4m (sp44d.rho [.n d.l.length,.fr (A7 Fea.fv d.l),.i d.l.length,.i i,.n f.l.length,.fr (A7 Frm.fv f.l),.i f.l.length,.i k,.n x.l.length,.fr (A7 Dat.fv x.l),.i x.l.length,.i n,.o (A9 d),.o (D7 f),.o (R5 x)]) (sp44d.heap [.n d.l.length,.fr (A7 Fea.fv d.l),.i d.l.length,.i i,.n f.l.length,.fr (A7 Frm.fv f.l),.i f.l.length,.i k,.n x.l.length,.fr (A7 Dat.fv x.l),.i x.l.length,.i n,.o (A9 d),.o (D7 f),.o (R5 x)]) (H9 C7f 11 []) =
  brK (decide (n < (x.l.length:Int))) (brK (decide (0<=n/\n < (x.l.length:Int))) (brK (D8 (okR Fea.fv d.l.length (A7 Fea.fv d.l)) && D8 (okR Dim.fv d.m.length (A7 Dim.fv d.m))) (brK (decide ((ofR Fea.fv d.l.length (A7 Fea.fv d.l)).length < 4611686018427387904)) (brK (decide (E5 { s:=d.s,l:=ofR Fea.fv d.l.length (A7 Fea.fv d.l),m:=ofR Dim.fv d.m.length (A7 Dim.fv d.m) } (x.l.getD n.toNat default).s < 0)) (some (.ret,[.i (6),.o (A9 d),.o (D7 (f)),.o (R5 (x))])) (brK ((x.l.getD n.toNat default).m != 0) (brK (decide (0<=E5 { s:=d.s,l:=ofR Fea.fv d.l.length (A7 Fea.fv d.l),m:=ofR Dim.fv d.m.length (A7 Dim.fv d.m) } (x.l.getD n.toNat default).s/\E5 { s:=d.s,l:=ofR Fea.fv d.l.length (A7 Fea.fv d.l),m:=ofR Dim.fv d.m.length (A7 Dim.fv d.m) } (x.l.getD n.toNat default).s < (d.l.length:Int))) (brK ((d.l.getD (E5 { s:=d.s,l:=ofR Fea.fv d.l.length (A7 Fea.fv d.l),m:=ofR Dim.fv d.m.length (A7 Dim.fv d.m) } (x.l.getD n.toNat default).s).toNat default).k == 0) (some (.ret,[.i (3),.o (A9 d),.o (D7 (f)),.o (R5 (x))])) (some (.normal,[.n (d.l.length),.fr (A7 Fea.fv d.l),.i ((d.l.length:Int)),.i (i),.n (f.l.length),.fr (A7 Frm.fv f.l),.i ((f.l.length:Int)),.i (k),.n (x.l.length),.fr (A7 Dat.fv x.l),.i ((x.l.length:Int)),.i (W (n+1)),.o (A9 d),.o (D7 (f)),.o (R5 (x))]))) none) (some (.normal,[.n (d.l.length),.fr (A7 Fea.fv d.l),.i ((d.l.length:Int)),.i (i),.n (f.l.length),.fr (A7 Frm.fv f.l),.i ((f.l.length:Int)),.i (k),.n (x.l.length),.fr (A7 Dat.fv x.l),.i ((x.l.length:Int)),.i (W (n+1)),.o (A9 d),.o (D7 (f)),.o (R5 (x))])))) none) none) none) (some (.exit 6,[.n (d.l.length),.fr (A7 Fea.fv d.l),.i ((d.l.length:Int)),.i (i),.n (f.l.length),.fr (A7 Frm.fv f.l),.i ((f.l.length:Int)),.i (k),.o (A9 d),.o (D7 (f)),.o (R5 (x))])):=by kernel_rfl
def B5t (x:Drw × Nat × Nat) (n:Nat):List Lf:=[.n x.1.l.length,.fr (A7 Fea.fv x.1.l),.i x.1.l.length,.i x.2.1,.n (D9 x.1 x.2.1).l.length,.fr (A7 Frm.fv (D9 x.1 x.2.1).l),.i (D9 x.1 x.2.1).l.length,.i x.2.2,.n (F6 (D9 x.1 x.2.1) x.2.2).l.length,.fr (A7 Dat.fv (F6 (D9 x.1 x.2.1) x.2.2).l),.i (F6 (D9 x.1 x.2.1) x.2.2).l.length,.i n,.o (A9 x.1),.o (D7 (D9 x.1 x.2.1)),.o (R5 (F6 (D9 x.1 x.2.1) x.2.2))]
def D7e:List Lf->Nat->List Lf
 | [_,_,_,.i i,_,_,_,.i k,_,_,_,_,.o o,p,q],n=>[.i (gDt (I1 o) (U6 (F6 (D9 (I1 o) i.toNat) k.toNat) n)),.o o,p,q]
 | _,_=>[]
def D7t:List Lf->List Lf
 | [a,b,c,i,e,f,g,k,_,_,_,_,o,p,q]=>[a,b,c,i,e,f,g,k,o,p,q]
 | _=>[]
def B6a (x:Drw × Nat × Nat):Nat:=(F6 (D9 x.1 x.2.1) x.2.2).l.length
def C6c (x:Drw × Nat × Nat) (n:Nat):Bool:=decide (gDt x.1 (U6 (F6 (D9 x.1 x.2.1) x.2.2) n)=0)
def D0t (x:Drw × Nat × Nat):Prop:=OkD x.1/\x.2.1 < x.1.l.length/\x.2.2 < (D9 x.1 x.2.1).l.length
def A6a:List Lf->Drw × Nat × Nat
 | [_,_,_,.i i,_,_,_,.i k,_,_,_,_,.o o,_,_]=>(I1 o,i.toNat,k.toNat)
 | _=>default
theorem F6b (x:Drw × Nat × Nat) (hx:D0t x) (n:Nat) (hn:n<=B6a x):F3 prog (D5 prog pIx 60) (pIx.blk 44) C4m (sp44d.rho (B5t x n)) (sp44d.heap (B5t x n)) (H9 C7f 11 [])=some (if n < B6a x then (bif C6c x n then (.normal,B5t x (n+1)) else (.ret,D7e (B5t x 0) n)) else (.exit 6,D7t (B5t x 0))):=by
 obtain ⟨d,i,k⟩:=x
 obtain ⟨h1,hi,hk⟩:=hx
 simp only [B5t,D7t]
 rw [E8q,I4 hn (h1.dt i k hi hk)]
 simp only [Int.toNat_natCast,F9f,F3h,L8,Bool.and_self,F6,D9]
 by_cases h:n < B6a (d,i,k)
 ·rw [if_pos h]
  simp only [B6a,F6,D9] at h hi hk
  refine A8 (dT (by omega)) ?_
  refine A8 (dT (by omega)) ?_
  refine A8 rfl ?_
  refine A8 (dT h1.len) ?_
  obtain ⟨y,hy⟩:∃ y,y=((d.l.getD i default).l.getD k default).l.getD n default:=⟨_,rfl⟩
  have hp0:C6c (d,i,k) n=decide (gDt d y=0):=by rw [hy]; rfl
  rw [hp0]
  simp only [D7e,B5t,E8,Int.toNat_natCast,U6,F6,D9]
  rw [<- hy]
  have hb:=A0h d y.s
  by_cases a0:E5 d y.s < 0
  ·have hg:gDt d y=6:=by unfold gDt; rw [if_pos a0]
   rw [hg]
   refine A8 (dT a0) ?_
   rfl
  ·refine C8 (dF a0) ?_
   by_cases m0:y.m=0
   ·have hg:gDt d y=0:=by unfold gDt; rw [if_neg a0,if_neg (fun h=>h.1 m0)]
    rw [hg]
    refine C8 (by simpa using m0) ?_
    rfl
   ·refine A8 (by simpa using m0) ?_
    refine A8 (dT (by omega)) ?_
    by_cases k0:(d.l.getD (E5 d y.s).toNat default).k=0
    ·have hg:gDt d y=3:=by unfold gDt; rw [if_neg a0,if_pos ⟨m0,k0⟩]
     rw [hg]
     refine A8 (by simpa using k0) ?_
     rfl
    ·have hg:gDt d y=0:=by unfold gDt; rw [if_neg a0,if_neg (fun h=>k0 h.2)]
     rw [hg]
     refine C8 (by simpa using k0) ?_
     rfl
 ·rw [if_neg h]
  simp only [B6a,F6,D9] at h hi hk
  refine C8 (dF (by omega)) ?_
  rfl
def F7q:Blk:=hookP sp44d 11 [] (fdT C7f 6 .ret (.exit 6) A6a B5t D7e D7t B6a C6c D0t)
theorem E5h {A:Amb} {q:Prims} (h0:PrimOK prog A pIx) (hq:PrimOK prog A q):PrimOK prog A (q.addb 44 6 F7q) :=
 SEB.findR (id:=6) (ds:=[]) (dec:=A6a) (sp:=sp44d) (sq:=C7f) (m:=11) (eb:=.ret) (ee:=.exit 6) (L:=B5t) (Lb:=D7e) (Le:=D7t) (N:=B6a) (p:=C6c) (Inv:=D0t) (k:=60) F7 F8 h0 hq func44 (show f44.body=some (f44.body.getD .skip) by kernel_rfl) (body:=C4m) (by kernel_rfl)
  rfl rfl rfl rfl (by simp) (by simp) (fun _ _=>⟨⟨.inr rfl,.inr rfl,.inr rfl,.inr rfl,.inr rfl,.inr rfl,.inr rfl,.inr rfl,.inr rfl,.inr rfl,.inr rfl,trivial⟩,⟨.inr rfl,.inr rfl,.inr rfl,.inr rfl,.inr rfl,.inr rfl,.inr rfl,.inr rfl,.inr rfl,.inr rfl,.inr rfl,trivial⟩⟩) F6b
def C4p:Code:=I9 (J7 4 (f49.body.getD .skip))
def sp49d:SP:=⟨dr 1++[.is (.ptr (some (8,0)))]++dr 1++[.int .i64]++[.flist 5]++[.int .i64]++[.int .i64]++dr 57,dd8++[.any]⟩
def C7i:AEx->SP
 | .ret=>⟨dr 2++[.int .i64]++dr 61,dd8++[.any]⟩
 | .exit 4=>⟨dr 1++[.is (.ptr (some (8,0)))]++dr 1++[.int .i64]++[.flist 5]++[.int .i64]++dr 58,dd8++[.any]⟩
 | _=>sp49d
theorem E8t (d:Drw) (f:Fea) (i k n:Int):F3 prog (D5 prog pIx 60) (pIx.blk 49) C4p (sp49d.rho [.i i,.n f.l.length,.fr (A7 Frm.fv f.l),.i k,.i n,.o (A9 d)]) (sp49d.heap [.i i,.n f.l.length,.fr (A7 Frm.fv f.l),.i k,.i n,.o (A9 d)]) (H9 C7i 9 []) =
  brK (decide (0<=k/\k < (f.l.length:Int))) (brK (decide (n < ((f.l.getD k.toNat default).l.length:Int))) (brK (decide (0<=k/\k < (f.l.length:Int))) (brK (decide (0<=n/\n < ((f.l.getD k.toNat default).l.length:Int))) (brK (D8 (okR Fea.fv d.l.length (A7 Fea.fv d.l)) && D8 (okR Dim.fv d.m.length (A7 Dim.fv d.m))) (brK (decide ((ofR Fea.fv d.l.length (A7 Fea.fv d.l)).length < 4611686018427387904)) (brK (decide (E5 { s:=d.s,l:=ofR Fea.fv d.l.length (A7 Fea.fv d.l),m:=ofR Dim.fv d.m.length (A7 Dim.fv d.m) } ((f.l.getD k.toNat default).l.getD n.toNat default).s < 0)) (some (.ret,[.i (6),.o (A9 d)])) (brK (((f.l.getD k.toNat default).l.getD n.toNat default).m != 0) (brK (decide (0<=E5 { s:=d.s,l:=ofR Fea.fv d.l.length (A7 Fea.fv d.l),m:=ofR Dim.fv d.m.length (A7 Dim.fv d.m) } ((f.l.getD k.toNat default).l.getD n.toNat default).s/\E5 { s:=d.s,l:=ofR Fea.fv d.l.length (A7 Fea.fv d.l),m:=ofR Dim.fv d.m.length (A7 Dim.fv d.m) } ((f.l.getD k.toNat default).l.getD n.toNat default).s < (d.l.length:Int))) (brK ((d.l.getD (E5 { s:=d.s,l:=ofR Fea.fv d.l.length (A7 Fea.fv d.l),m:=ofR Dim.fv d.m.length (A7 Dim.fv d.m) } ((f.l.getD k.toNat default).l.getD n.toNat default).s).toNat default).k == 0) (some (.ret,[.i (3),.o (A9 d)])) (some (.normal,[.i (i),.n (f.l.length),.fr (A7 Frm.fv f.l),.i (k),.i (W (n+1)),.o (A9 d)]))) none) (some (.normal,[.i (i),.n (f.l.length),.fr (A7 Frm.fv f.l),.i (k),.i (W (n+1)),.o (A9 d)])))) none) none) none) none) (some (.exit 4,[.i (i),.n (f.l.length),.fr (A7 Frm.fv f.l),.i (k),.o (A9 d)]))) none:=by kernel_rfl
def B5v (x:Drw × Nat × Nat) (n:Nat):List Lf:=[.i x.2.1,.n (D9 x.1 x.2.1).l.length,.fr (A7 Frm.fv (D9 x.1 x.2.1).l),.i x.2.2,.i n,.o (A9 x.1)]
def D7h:List Lf->Nat->List Lf
 | [.i i,_,_,.i k,_,.o o],n=>[.i (gDt (I1 o) (U6 (F6 (D9 (I1 o) i.toNat) k.toNat) n)),.o o]
 | _,_=>[]
def D7w:List Lf->List Lf
 | [i,a,b,k,_,o]=>[i,a,b,k,o]
 | _=>[]
def B6d (x:Drw × Nat × Nat):Nat:=(F6 (D9 x.1 x.2.1) x.2.2).l.length
def C6f (x:Drw × Nat × Nat) (n:Nat):Bool:=decide (gDt x.1 (U6 (F6 (D9 x.1 x.2.1) x.2.2) n)=0)
def D0v (x:Drw × Nat × Nat):Prop:=OkD x.1/\x.2.1 < x.1.l.length/\x.2.2 < (D9 x.1 x.2.1).l.length
def A6c:List Lf->Drw × Nat × Nat
 | [.i i,_,_,.i k,_,.o o]=>(I1 o,i.toNat,k.toNat)
 | _=>default
theorem F6e (x:Drw × Nat × Nat) (hx:D0v x) (n:Nat) (hn:n<=B6d x):F3 prog (D5 prog pIx 60) (pIx.blk 49) C4p (sp49d.rho (B5v x n)) (sp49d.heap (B5v x n)) (H9 C7i 9 [])=some (if n < B6d x then (bif C6f x n then (.normal,B5v x (n+1)) else (.ret,D7h (B5v x 0) n)) else (.exit 4,D7w (B5v x 0))):=by
 obtain ⟨d,i,k⟩:=x
 obtain ⟨h1,hi,hk⟩:=hx
 simp only [B5v,D7w]
 rw [E8t,I4 hn (h1.dt i k hi hk)]
 simp only [Int.toNat_natCast,F9f,F3h,L8,Bool.and_self,F6,D9]
 by_cases h:n < B6d (d,i,k)
 ·rw [if_pos h]
  simp only [B6d,F6,D9] at h hi hk
  refine A8 (dT (by omega)) ?_
  refine A8 (dT (by omega)) ?_
  refine A8 (dT (by omega)) ?_
  refine A8 (dT (by omega)) ?_
  refine A8 rfl ?_
  refine A8 (dT h1.len) ?_
  obtain ⟨y,hy⟩:∃ y,y=((d.l.getD i default).l.getD k default).l.getD n default:=⟨_,rfl⟩
  have hp0:C6f (d,i,k) n=decide (gDt d y=0):=by rw [hy]; rfl
  rw [hp0]
  simp only [D7h,B5v,E8,Int.toNat_natCast,U6,F6,D9]
  rw [<- hy]
  have hb:=A0h d y.s
  by_cases a0:E5 d y.s < 0
  ·have hg:gDt d y=6:=by unfold gDt; rw [if_pos a0]
   rw [hg]
   refine A8 (dT a0) ?_
   rfl
  ·refine C8 (dF a0) ?_
   by_cases m0:y.m=0
   ·have hg:gDt d y=0:=by unfold gDt; rw [if_neg a0,if_neg (fun h=>h.1 m0)]
    rw [hg]
    refine C8 (by simpa using m0) ?_
    rfl
   ·refine A8 (by simpa using m0) ?_
    refine A8 (dT (by omega)) ?_
    by_cases k0:(d.l.getD (E5 d y.s).toNat default).k=0
    ·have hg:gDt d y=3:=by unfold gDt; rw [if_neg a0,if_pos ⟨m0,k0⟩]
     rw [hg]
     refine A8 (by simpa using k0) ?_
     rfl
    ·have hg:gDt d y=0:=by unfold gDt; rw [if_neg a0,if_neg (fun h=>k0 h.2)]
     rw [hg]
     refine C8 (by simpa using k0) ?_
     rfl
 ·rw [if_neg h]
  simp only [B6d,F6,D9] at h hi hk
  refine A8 (dT (by omega)) ?_
  refine C8 (dF (by omega)) ?_
  rfl
def F7t:Blk:=hookP sp49d 9 [] (fdT C7i 4 .ret (.exit 4) A6c B5v D7h D7w B6d C6f D0v)
theorem E5k {A:Amb} {q:Prims} (h0:PrimOK prog A pIx) (hq:PrimOK prog A q):PrimOK prog A (q.addb 49 4 F7t) :=
 SEB.findR (id:=4) (ds:=[]) (dec:=A6c) (sp:=sp49d) (sq:=C7i) (m:=9) (eb:=.ret) (ee:=.exit 4) (L:=B5v) (Lb:=D7h) (Le:=D7w) (N:=B6d) (p:=C6f) (Inv:=D0v) (k:=60) F7 F8 h0 hq func49 (show f49.body=some (f49.body.getD .skip) by kernel_rfl) (body:=C4p) (by kernel_rfl)
  rfl rfl rfl rfl (by simp) (by simp) (fun _ _=>⟨⟨.inr rfl,.inr rfl,.inr rfl,.inr rfl,.inr rfl,.inr rfl,.inr rfl,.inr rfl,.inr rfl,trivial⟩,⟨.inr rfl,.inr rfl,.inr rfl,.inr rfl,.inr rfl,.inr rfl,.inr rfl,.inr rfl,.inr rfl,trivial⟩⟩) F6e
end Go.Proofs.Tryz
namespace Go.Proofs.Tryz
open Go.Ad
theorem C1n (d:Drw) (i k:Nat) (a b c e f g h l m n p q:Lf):A6a [a,b,c,Lf.i (i:Int),e,f,g,Lf.i (k:Int),h,l,m,n,Lf.o (A9 d),p,q]=(d,i,k):=by simp [A6a,E8]
theorem C1p (d:Drw) (i k:Nat) (a b c:Lf):A6c [Lf.i (i:Int),a,b,Lf.i (k:Int),c,Lf.o (A9 d)]=(d,i,k):=by simp [A6c,E8]
theorem F9z (d:Drw) (i k:Nat):fdE C6c B6a (d,i,k)=decide (gFr d (F6 (D9 d i) k)=0):=Z5 (fun n=>gDt d (U6 (F6 (D9 d i) k) n)) fun _ _=>rfl
theorem G0b (d:Drw) (i k:Nat):fdE C6f B6d (d,i,k)=decide (gFr d (F6 (D9 d i) k)=0):=Z5 (fun n=>gDt d (U6 (F6 (D9 d i) k) n)) fun _ _=>rfl
theorem F5m {d:Drw} {i k:Nat} (h:gFr d (F6 (D9 d i) k) ≠ 0):gDt d (U6 (F6 (D9 d i) k) (G5 (C6c (d,i,k)) (B6a (d,i,k)) 0))=gFr d (F6 (D9 d i) k):=(X9 (p:=C6c (d,i,k)) (g:=fun n=>gDt d (U6 (F6 (D9 d i) k) n)) (fun _ _=>rfl) h).2
theorem F5o {d:Drw} {i k:Nat} (h:gFr d (F6 (D9 d i) k) ≠ 0):gDt d (U6 (F6 (D9 d i) k) (G5 (C6f (d,i,k)) (B6d (d,i,k)) 0))=gFr d (F6 (D9 d i) k):=(X9 (p:=C6f (d,i,k)) (g:=fun n=>gDt d (U6 (F6 (D9 d i) k) n)) (fun _ _=>rfl) h).2
def pFt1:Prims:=(pIx.addb 44 6 F7q).addb 49 4 F7t
end Go.Proofs.Tryz
namespace Go.Proofs.Tryz
open Go.Ad
def C4l:Code:=I9 (J7 4 (f44.body.getD .skip))
def sp44c:SP:=⟨dr 1++[.is (.ptr (some (8,0)))]++dr 44++[.flist 9]++[.int .i64]++[.int .i64]++dr 4++[.flist 5]++[.int .i64]++[.int .i64]++dr 31,dd8++[.any,.any]⟩
def C7e:AEx->SP
 | .ret=>⟨dr 2++[.int .i64]++dr 84,dd8++[.any,.any]⟩
 | .exit 4=>⟨dr 1++[.is (.ptr (some (8,0)))]++dr 44++[.flist 9]++[.int .i64]++[.int .i64]++dr 38,dd8++[.any,.any]⟩
 | _=>sp44c
theorem E8p (d:Drw) (f:Fea) (i k:Int):F3 prog (D5 prog pFt1 60) (pFt1.blk 44) C4l (sp44c.rho [.n d.l.length,.fr (A7 Fea.fv d.l),.i d.l.length,.i i,.n f.l.length,.fr (A7 Frm.fv f.l),.i f.l.length,.i k,.o (A9 d),.o (D7 f)]) (sp44c.heap [.n d.l.length,.fr (A7 Fea.fv d.l),.i d.l.length,.i i,.n f.l.length,.fr (A7 Frm.fv f.l),.i f.l.length,.i k,.o (A9 d),.o (D7 f)]) (H9 C7e 10 []) =
  brK (decide (k < (f.l.length:Int))) (brK (decide (0<=k/\k < (f.l.length:Int))) (brK (fdC B5t A6a D0t [.n (d.l.length),.fr (A7 Fea.fv d.l),.i ((d.l.length:Int)),.i (i),.n (f.l.length),.fr (A7 Frm.fv f.l),.i ((f.l.length:Int)),.i (k),.n ((f.l.getD k.toNat default).l.length),.fr (A7 Dat.fv (f.l.getD k.toNat default).l),.i (((f.l.getD k.toNat default).l.length:Int)),.i (0),.o (A9 d),.o (D7 (f)),.o (R5 ((f.l.getD k.toNat default)))]) (brK (fdE C6c B6a (A6a [.n (d.l.length),.fr (A7 Fea.fv d.l),.i ((d.l.length:Int)),.i (i),.n (f.l.length),.fr (A7 Frm.fv f.l),.i ((f.l.length:Int)),.i (k),.n ((f.l.getD k.toNat default).l.length),.fr (A7 Dat.fv (f.l.getD k.toNat default).l),.i (((f.l.getD k.toNat default).l.length:Int)),.i (0),.o (A9 d),.o (D7 (f)),.o (R5 ((f.l.getD k.toNat default)))])) (some (.normal,[.n (d.l.length),.fr (A7 Fea.fv d.l),.i ((d.l.length:Int)),.i (i),.n (f.l.length),.fr (A7 Frm.fv f.l),.i ((f.l.length:Int)),.i (W (k+1)),.o (A9 d),.o (D7 (f))])) (some (.ret,[.i (gDt (I1 (A9 d)) (U6 (F6 (D9 (I1 (A9 d)) i.toNat) k.toNat) (G5 (C6c (A6a [.n (d.l.length),.fr (A7 Fea.fv d.l),.i ((d.l.length:Int)),.i (i),.n (f.l.length),.fr (A7 Frm.fv f.l),.i ((f.l.length:Int)),.i (k),.n ((f.l.getD k.toNat default).l.length),.fr (A7 Dat.fv (f.l.getD k.toNat default).l),.i (((f.l.getD k.toNat default).l.length:Int)),.i (0),.o (A9 d),.o (D7 (f)),.o (R5 ((f.l.getD k.toNat default)))])) (B6a (A6a [.n (d.l.length),.fr (A7 Fea.fv d.l),.i ((d.l.length:Int)),.i (i),.n (f.l.length),.fr (A7 Frm.fv f.l),.i ((f.l.length:Int)),.i (k),.n ((f.l.getD k.toNat default).l.length),.fr (A7 Dat.fv (f.l.getD k.toNat default).l),.i (((f.l.getD k.toNat default).l.length:Int)),.i (0),.o (A9 d),.o (D7 (f)),.o (R5 ((f.l.getD k.toNat default)))])) 0))),.o (A9 d),.o (D7 (f))]))) none) none) (some (.exit 4,[.n (d.l.length),.fr (A7 Fea.fv d.l),.i ((d.l.length:Int)),.i (i),.o (A9 d),.o (D7 (f))])):=by kernel_rfl
def B5s (x:Drw × Nat) (n:Nat):List Lf:=[.n x.1.l.length,.fr (A7 Fea.fv x.1.l),.i x.1.l.length,.i x.2,.n (D9 x.1 x.2).l.length,.fr (A7 Frm.fv (D9 x.1 x.2).l),.i (D9 x.1 x.2).l.length,.i n,.o (A9 x.1),.o (D7 (D9 x.1 x.2))]
def D7d:List Lf->Nat->List Lf
 | [_,_,_,.i i,_,_,_,_,.o o,p],n=>[.i (gFr (I1 o) (F6 (D9 (I1 o) i.toNat) n)),.o o,p]
 | _,_=>[]
def D7s:List Lf->List Lf
 | [a,b,c,i,_,_,_,_,o,p]=>[a,b,c,i,o,p]
 | _=>[]
def B5z (x:Drw × Nat):Nat:=(D9 x.1 x.2).l.length
def C6b (x:Drw × Nat) (n:Nat):Bool:=decide (gFr x.1 (F6 (D9 x.1 x.2) n)=0)
def D0s (x:Drw × Nat):Prop:=OkD x.1/\x.2 < x.1.l.length
def A5z:List Lf->Drw × Nat
 | [_,_,_,.i i,_,_,_,_,.o o,_]=>(I1 o,i.toNat)
 | _=>default
theorem F6a (x:Drw × Nat) (hx:D0s x) (n:Nat) (hn:n<=B5z x):F3 prog (D5 prog pFt1 60) (pFt1.blk 44) C4l (sp44c.rho (B5s x n)) (sp44c.heap (B5s x n)) (H9 C7e 10 [])=some (if n < B5z x then (bif C6b x n then (.normal,B5s x (n+1)) else (.ret,D7d (B5s x 0) n)) else (.exit 4,D7s (B5s x 0))):=by
 obtain ⟨d,i⟩:=x
 obtain ⟨h1,hi⟩:=hx
 simp only [B5s,D7s]
 rw [E8p,I4 hn (h1.fr i hi)]
 simp only [Int.toNat_natCast,C1n]
 by_cases h:n < B5z (d,i)
 ·rw [if_pos h]
  simp only [B5z] at h
  have hp0:C6b (d,i) n=decide (gFr d (F6 (D9 d i) n)=0):=rfl
  rw [hp0]
  refine A8 (dT (by omega)) ?_
  refine A8 (dT (by omega)) ?_
  refine A8 (I8 (L:=B5t) (dec:=A6a) (Inv:=D0t) (x:=(d,i,n)) (C1n d i n _ _ _ _ _ _ _ _ _ _ _ _) ⟨h1,hi,h⟩) ?_
  rw [F9z]
  by_cases g0:gFr d (F6 (D9 d i) n)=0
  ·rw [dT g0]
   refine A8 rfl ?_
   rfl
  ·rw [dF g0]
   refine C8 rfl ?_
   simp only [D7d,B5s,E8,Int.toNat_natCast]
   rw [F5m g0]
   rfl
 ·rw [if_neg h]
  simp only [B5z] at h
  refine C8 (dF (by omega)) ?_
  rfl
def F7p:Blk:=hookP sp44c 10 [] (fdT C7e 4 .ret (.exit 4) A5z B5s D7d D7s B5z C6b D0s)
theorem E5g {A:Amb} {q:Prims} (h0:PrimOK prog A pFt1) (hq:PrimOK prog A q):PrimOK prog A (q.addb 44 4 F7p) :=
 SEB.findR (id:=4) (ds:=[]) (dec:=A5z) (sp:=sp44c) (sq:=C7e) (m:=10) (eb:=.ret) (ee:=.exit 4) (L:=B5s) (Lb:=D7d) (Le:=D7s) (N:=B5z) (p:=C6b) (Inv:=D0s) (k:=60) F7 F8 h0 hq func44 (show f44.body=some (f44.body.getD .skip) by kernel_rfl) (body:=C4l) (by kernel_rfl)
  rfl rfl rfl rfl (by simp) (by simp) (fun _ _=>⟨⟨.inr rfl,.inr rfl,.inr rfl,.inr rfl,.inr rfl,.inr rfl,.inr rfl,.inr rfl,.inr rfl,.inr rfl,trivial⟩,⟨.inr rfl,.inr rfl,.inr rfl,.inr rfl,.inr rfl,.inr rfl,.inr rfl,.inr rfl,.inr rfl,.inr rfl,trivial⟩⟩) F6a
def C4o:Code:=I9 (J7 2 (f49.body.getD .skip))
def sp49c:SP:=⟨dr 1++[.is (.ptr (some (8,0)))]++dr 1++[.int .i64]++[.flist 5]++[.int .i64]++dr 58,dd8++[.any]⟩
def C7h:AEx->SP
 | .ret=>⟨dr 2++[.int .i64]++dr 61,dd8++[.any]⟩
 | .exit 2=>⟨dr 1++[.is (.ptr (some (8,0)))]++dr 1++[.int .i64]++dr 60,dd8++[.any]⟩
 | _=>sp49c
theorem E8s (d:Drw) (f:Fea) (i k:Int):F3 prog (D5 prog pFt1 60) (pFt1.blk 49) C4o (sp49c.rho [.i i,.n f.l.length,.fr (A7 Frm.fv f.l),.i k,.o (A9 d)]) (sp49c.heap [.i i,.n f.l.length,.fr (A7 Frm.fv f.l),.i k,.o (A9 d)]) (H9 C7h 9 []) =
  brK (decide (k < (f.l.length:Int))) (brK (fdC B5v A6c D0v [.i (i),.n (f.l.length),.fr (A7 Frm.fv f.l),.i (k),.i (0),.o (A9 d)]) (brK (fdE C6f B6d (A6c [.i (i),.n (f.l.length),.fr (A7 Frm.fv f.l),.i (k),.i (0),.o (A9 d)])) (some (.normal,[.i (i),.n (f.l.length),.fr (A7 Frm.fv f.l),.i (W (k+1)),.o (A9 d)])) (some (.ret,[.i (gDt (I1 (A9 d)) (U6 (F6 (D9 (I1 (A9 d)) i.toNat) k.toNat) (G5 (C6f (A6c [.i (i),.n (f.l.length),.fr (A7 Frm.fv f.l),.i (k),.i (0),.o (A9 d)])) (B6d (A6c [.i (i),.n (f.l.length),.fr (A7 Frm.fv f.l),.i (k),.i (0),.o (A9 d)])) 0))),.o (A9 d)]))) none) (some (.exit 2,[.i (i),.o (A9 d)])):=by kernel_rfl
def B5u (x:Drw × Nat) (n:Nat):List Lf:=[.i x.2,.n (D9 x.1 x.2).l.length,.fr (A7 Frm.fv (D9 x.1 x.2).l),.i n,.o (A9 x.1)]
def D7g:List Lf->Nat->List Lf
 | [.i i,_,_,_,.o o],n=>[.i (gFr (I1 o) (F6 (D9 (I1 o) i.toNat) n)),.o o]
 | _,_=>[]
def D7v:List Lf->List Lf
 | [i,_,_,_,o]=>[i,o]
 | _=>[]
def B6c (x:Drw × Nat):Nat:=(D9 x.1 x.2).l.length
def C6e (x:Drw × Nat) (n:Nat):Bool:=decide (gFr x.1 (F6 (D9 x.1 x.2) n)=0)
def D0u (x:Drw × Nat):Prop:=OkD x.1/\x.2 < x.1.l.length
def A6b:List Lf->Drw × Nat
 | [.i i,_,_,_,.o o]=>(I1 o,i.toNat)
 | _=>default
theorem F6d (x:Drw × Nat) (hx:D0u x) (n:Nat) (hn:n<=B6c x):F3 prog (D5 prog pFt1 60) (pFt1.blk 49) C4o (sp49c.rho (B5u x n)) (sp49c.heap (B5u x n)) (H9 C7h 9 [])=some (if n < B6c x then (bif C6e x n then (.normal,B5u x (n+1)) else (.ret,D7g (B5u x 0) n)) else (.exit 2,D7v (B5u x 0))):=by
 obtain ⟨d,i⟩:=x
 obtain ⟨h1,hi⟩:=hx
 simp only [B5u,D7v]
 rw [E8s,I4 hn (h1.fr i hi)]
 simp only [Int.toNat_natCast,C1p]
 by_cases h:n < B6c (d,i)
 ·rw [if_pos h]
  simp only [B6c] at h
  have hp0:C6e (d,i) n=decide (gFr d (F6 (D9 d i) n)=0):=rfl
  rw [hp0]
  refine A8 (dT (by omega)) ?_
  refine A8 (I8 (L:=B5v) (dec:=A6c) (Inv:=D0v) (x:=(d,i,n)) (C1p d i n _ _ _) ⟨h1,hi,h⟩) ?_
  rw [G0b]
  by_cases g0:gFr d (F6 (D9 d i) n)=0
  ·rw [dT g0]
   refine A8 rfl ?_
   rfl
  ·rw [dF g0]
   refine C8 rfl ?_
   simp only [D7g,B5u,E8,Int.toNat_natCast]
   rw [F5o g0]
   rfl
 ·rw [if_neg h]
  simp only [B6c] at h
  refine C8 (dF (by omega)) ?_
  rfl
def F7s:Blk:=hookP sp49c 9 [] (fdT C7h 2 .ret (.exit 2) A6b B5u D7g D7v B6c C6e D0u)
theorem E5j {A:Amb} {q:Prims} (h0:PrimOK prog A pFt1) (hq:PrimOK prog A q):PrimOK prog A (q.addb 49 2 F7s) :=
 SEB.findR (id:=2) (ds:=[]) (dec:=A6b) (sp:=sp49c) (sq:=C7h) (m:=9) (eb:=.ret) (ee:=.exit 2) (L:=B5u) (Lb:=D7g) (Le:=D7v) (N:=B6c) (p:=C6e) (Inv:=D0u) (k:=60) F7 F8 h0 hq func49 (show f49.body=some (f49.body.getD .skip) by kernel_rfl) (body:=C4o) (by kernel_rfl)
  rfl rfl rfl rfl (by simp) (by simp) (fun _ _=>⟨⟨.inr rfl,.inr rfl,.inr rfl,.inr rfl,.inr rfl,.inr rfl,.inr rfl,.inr rfl,.inr rfl,trivial⟩,⟨.inr rfl,.inr rfl,.inr rfl,.inr rfl,.inr rfl,.inr rfl,.inr rfl,.inr rfl,.inr rfl,trivial⟩⟩) F6d
end Go.Proofs.Tryz
namespace Go.Proofs.Tryz
open Go.Ad
theorem C1m (d:Drw) (i:Nat) (a b c e f g h q:Lf):A5z [a,b,c,Lf.i (i:Int),e,f,g,h,Lf.o (A9 d),q]=(d,i):=by simp [A5z,E8]
theorem C1o (d:Drw) (i:Nat) (a b c:Lf):A6b [Lf.i (i:Int),a,b,c,Lf.o (A9 d)]=(d,i):=by simp [A6b,E8]
theorem F9y (d:Drw) (i:Nat):fdE C6b B5z (d,i)=decide (gFx d (D9 d i)=0):=Z5 (fun n=>gFr d (F6 (D9 d i) n)) fun _ _=>rfl
theorem G0a (d:Drw) (i:Nat):fdE C6e B6c (d,i)=decide (gFx d (D9 d i)=0):=Z5 (fun n=>gFr d (F6 (D9 d i) n)) fun _ _=>rfl
theorem F5l {d:Drw} {i:Nat} (h:gFx d (D9 d i) ≠ 0):gFr d (F6 (D9 d i) (G5 (C6b (d,i)) (B5z (d,i)) 0))=gFx d (D9 d i):=(X9 (p:=C6b (d,i)) (g:=fun n=>gFr d (F6 (D9 d i) n)) (fun _ _=>rfl) h).2
theorem F5n {d:Drw} {i:Nat} (h:gFx d (D9 d i) ≠ 0):gFr d (F6 (D9 d i) (G5 (C6e (d,i)) (B6c (d,i)) 0))=gFx d (D9 d i):=(X9 (p:=C6e (d,i)) (g:=fun n=>gFr d (F6 (D9 d i) n)) (fun _ _=>rfl) h).2
def pFt2:Prims:=(pFt1.addb 44 4 F7p).addb 49 2 F7s
end Go.Proofs.Tryz
namespace Go.Proofs.Tryz
open Go.Ad
def C4k:Code:=I9 (J7 2 (f44.body.getD .skip))
def sp44b:SP:=⟨dr 1++[.is (.ptr (some (8,0)))]++dr 44++[.flist 9]++[.int .i64]++[.int .i64]++dr 38,dd8++[.any]⟩
def C7d:AEx->SP
 | .ret=>⟨dr 2++[.int .i64]++dr 84,dd8++[.any]⟩
 | .exit 2=>⟨dr 87,dd8++[.any]⟩
 | _=>sp44b
theorem E8o (d:Drw) (i:Int):F3 prog (D5 prog pFt2 60) (pFt2.blk 44) C4k (sp44b.rho [.n d.l.length,.fr (A7 Fea.fv d.l),.i d.l.length,.i i,.o (A9 d)]) (sp44b.heap [.n d.l.length,.fr (A7 Fea.fv d.l),.i d.l.length,.i i,.o (A9 d)]) (H9 C7d 9 []) =
  brK (decide (i < (d.l.length:Int))) (brK (decide (0<=i/\i < (d.l.length:Int))) (brK (fdC B5s A5z D0s [.n (d.l.length),.fr (A7 Fea.fv d.l),.i ((d.l.length:Int)),.i (i),.n ((d.l.getD i.toNat default).l.length),.fr (A7 Frm.fv (d.l.getD i.toNat default).l),.i (((d.l.getD i.toNat default).l.length:Int)),.i (0),.o (A9 d),.o (D7 ((d.l.getD i.toNat default)))]) (brK (fdE C6b B5z (A5z [.n (d.l.length),.fr (A7 Fea.fv d.l),.i ((d.l.length:Int)),.i (i),.n ((d.l.getD i.toNat default).l.length),.fr (A7 Frm.fv (d.l.getD i.toNat default).l),.i (((d.l.getD i.toNat default).l.length:Int)),.i (0),.o (A9 d),.o (D7 ((d.l.getD i.toNat default)))])) (some (.normal,[.n (d.l.length),.fr (A7 Fea.fv d.l),.i ((d.l.length:Int)),.i (W (i+1)),.o (A9 d)])) (some (.ret,[.i (gFr (I1 (A9 d)) (F6 (D9 (I1 (A9 d)) i.toNat) (G5 (C6b (A5z [.n (d.l.length),.fr (A7 Fea.fv d.l),.i ((d.l.length:Int)),.i (i),.n ((d.l.getD i.toNat default).l.length),.fr (A7 Frm.fv (d.l.getD i.toNat default).l),.i (((d.l.getD i.toNat default).l.length:Int)),.i (0),.o (A9 d),.o (D7 ((d.l.getD i.toNat default)))])) (B5z (A5z [.n (d.l.length),.fr (A7 Fea.fv d.l),.i ((d.l.length:Int)),.i (i),.n ((d.l.getD i.toNat default).l.length),.fr (A7 Frm.fv (d.l.getD i.toNat default).l),.i (((d.l.getD i.toNat default).l.length:Int)),.i (0),.o (A9 d),.o (D7 ((d.l.getD i.toNat default)))])) 0))),.o (A9 d)]))) none) none) (some (.exit 2,[.o (A9 d)])):=by kernel_rfl
def B5r (x:Drw) (n:Nat):List Lf:=[.n x.l.length,.fr (A7 Fea.fv x.l),.i x.l.length,.i n,.o (A9 x)]
def D7c:List Lf->Nat->List Lf
 | [_,_,_,_,.o o],n=>[.i (gFx (I1 o) (D9 (I1 o) n)),.o o]
 | _,_=>[]
def D7r:List Lf->List Lf
 | [_,_,_,_,o]=>[o]
 | _=>[]
def B5y (x:Drw):Nat:=x.l.length
def C6a (x:Drw) (n:Nat):Bool:=decide (gFx x (D9 x n)=0)
def D0r (x:Drw):Prop:=OkD x
def A5y:List Lf->Drw
 | [_,_,_,_,.o o]=>I1 o
 | _=>default
theorem F5z (x:Drw) (hx:D0r x) (n:Nat) (hn:n<=B5y x):F3 prog (D5 prog pFt2 60) (pFt2.blk 44) C4k (sp44b.rho (B5r x n)) (sp44b.heap (B5r x n)) (H9 C7d 9 [])=some (if n < B5y x then (bif C6a x n then (.normal,B5r x (n+1)) else (.ret,D7c (B5r x 0) n)) else (.exit 2,D7r (B5r x 0))):=by
 have h1:OkD x:=hx
 simp only [B5r,D7r]
 rw [E8o,I4 hn h1.len]
 simp only [Int.toNat_natCast,C1m]
 by_cases h:n < B5y x
 ·rw [if_pos h]
  simp only [B5y] at h
  have hp0:C6a x n=decide (gFx x (D9 x n)=0):=rfl
  rw [hp0]
  refine A8 (dT (by omega)) ?_
  refine A8 (dT (by omega)) ?_
  refine A8 (I8 (L:=B5s) (dec:=A5z) (Inv:=D0s) (x:=(x,n)) (C1m x n _ _ _ _ _ _ _ _) ⟨h1,h⟩) ?_
  rw [F9y]
  by_cases g0:gFx x (D9 x n)=0
  ·rw [dT g0]
   refine A8 rfl ?_
   rfl
  ·rw [dF g0]
   refine C8 rfl ?_
   simp only [D7c,B5r,E8,Int.toNat_natCast]
   rw [F5l g0]
   rfl
 ·rw [if_neg h]
  simp only [B5y] at h
  refine C8 (dF (by omega)) ?_
  rfl
def F7o:Blk:=hookP sp44b 9 [] (fdT C7d 2 .ret (.exit 2) A5y B5r D7c D7r B5y C6a D0r)
theorem E5f {A:Amb} {q:Prims} (h0:PrimOK prog A pFt2) (hq:PrimOK prog A q):PrimOK prog A (q.addb 44 2 F7o) :=
 SEB.findR (id:=2) (ds:=[]) (dec:=A5y) (sp:=sp44b) (sq:=C7d) (m:=9) (eb:=.ret) (ee:=.exit 2) (L:=B5r) (Lb:=D7c) (Le:=D7r) (N:=B5y) (p:=C6a) (Inv:=D0r) (k:=60) F7 F8 h0 hq func44 (show f44.body=some (f44.body.getD .skip) by kernel_rfl) (body:=C4k) (by kernel_rfl)
  rfl rfl rfl rfl (by simp) (by simp) (fun _ _=>⟨⟨.inr rfl,.inr rfl,.inr rfl,.inr rfl,.inr rfl,.inr rfl,.inr rfl,.inr rfl,.inr rfl,trivial⟩,⟨.inr rfl,.inr rfl,.inr rfl,.inr rfl,.inr rfl,.inr rfl,.inr rfl,.inr rfl,.inr rfl,trivial⟩⟩) F5z
def C4n:Code:=I9 (J7 0 (f49.body.getD .skip))
def sp49b:SP:=⟨dr 1++[.is (.ptr (some (8,0)))]++dr 1++[.int .i64]++dr 60,dd8++[.any]⟩
def C7g:AEx->SP
 | .ret=>⟨dr 2++[.int .i64]++dr 61,dd8++[.any]⟩
 | .exit 0=>⟨dr 64,dd8++[.any]⟩
 | _=>sp49b
theorem E8r (d:Drw) (i:Int):F3 prog (D5 prog pFt2 60) (pFt2.blk 49) C4n (sp49b.rho [.i i,.o (A9 d)]) (sp49b.heap [.i i,.o (A9 d)]) (H9 C7g 9 []) =
  brK (decide (i < (d.l.length:Int))) (brK (decide (0<=i/\i < (d.l.length:Int))) (brK (fdC B5u A6b D0u [.i (i),.n ((d.l.getD i.toNat default).l.length),.fr (A7 Frm.fv (d.l.getD i.toNat default).l),.i (0),.o (A9 d)]) (brK (fdE C6e B6c (A6b [.i (i),.n ((d.l.getD i.toNat default).l.length),.fr (A7 Frm.fv (d.l.getD i.toNat default).l),.i (0),.o (A9 d)])) (some (.normal,[.i (W (i+1)),.o (A9 d)])) (some (.ret,[.i (gFr (I1 (A9 d)) (F6 (D9 (I1 (A9 d)) i.toNat) (G5 (C6e (A6b [.i (i),.n ((d.l.getD i.toNat default).l.length),.fr (A7 Frm.fv (d.l.getD i.toNat default).l),.i (0),.o (A9 d)])) (B6c (A6b [.i (i),.n ((d.l.getD i.toNat default).l.length),.fr (A7 Frm.fv (d.l.getD i.toNat default).l),.i (0),.o (A9 d)])) 0))),.o (A9 d)]))) none) none) (some (.exit 0,[.o (A9 d)])):=by kernel_rfl
def B4o (x:Drw) (n:Nat):List Lf:=[.i n,.o (A9 x)]
def D7f:List Lf->Nat->List Lf
 | [_,.o o],n=>[.i (gFx (I1 o) (D9 (I1 o) n)),.o o]
 | _,_=>[]
def D7u:List Lf->List Lf
 | [_,o]=>[o]
 | _=>[]
def B6b (x:Drw):Nat:=x.l.length
def C6d (x:Drw) (n:Nat):Bool:=decide (gFx x (D9 x n)=0)
def C2e (x:Drw):Prop:=OkD x
def A4s:List Lf->Drw
 | [_,.o o]=>I1 o
 | _=>default
theorem F6c (x:Drw) (hx:C2e x) (n:Nat) (hn:n<=B6b x):F3 prog (D5 prog pFt2 60) (pFt2.blk 49) C4n (sp49b.rho (B4o x n)) (sp49b.heap (B4o x n)) (H9 C7g 9 [])=some (if n < B6b x then (bif C6d x n then (.normal,B4o x (n+1)) else (.ret,D7f (B4o x 0) n)) else (.exit 0,D7u (B4o x 0))):=by
 have h1:OkD x:=hx
 simp only [B4o,D7u]
 rw [E8r,I4 hn h1.len]
 simp only [Int.toNat_natCast,C1o]
 by_cases h:n < B6b x
 ·rw [if_pos h]
  simp only [B6b] at h
  have hp0:C6d x n=decide (gFx x (D9 x n)=0):=rfl
  rw [hp0]
  refine A8 (dT (by omega)) ?_
  refine A8 (dT (by omega)) ?_
  refine A8 (I8 (L:=B5u) (dec:=A6b) (Inv:=D0u) (x:=(x,n)) (C1o x n _ _ _) ⟨h1,h⟩) ?_
  rw [G0a]
  by_cases g0:gFx x (D9 x n)=0
  ·rw [dT g0]
   refine A8 rfl ?_
   rfl
  ·rw [dF g0]
   refine C8 rfl ?_
   simp only [D7f,B4o,E8,Int.toNat_natCast]
   rw [F5n g0]
   rfl
 ·rw [if_neg h]
  simp only [B6b] at h
  refine C8 (dF (by omega)) ?_
  rfl
def F7r:Blk:=hookP sp49b 9 [] (fdT C7g 0 .ret (.exit 0) A4s B4o D7f D7u B6b C6d C2e)
theorem E5i {A:Amb} {q:Prims} (h0:PrimOK prog A pFt2) (hq:PrimOK prog A q):PrimOK prog A (q.addb 49 0 F7r) :=
 SEB.findR (id:=0) (ds:=[]) (dec:=A4s) (sp:=sp49b) (sq:=C7g) (m:=9) (eb:=.ret) (ee:=.exit 0) (L:=B4o) (Lb:=D7f) (Le:=D7u) (N:=B6b) (p:=C6d) (Inv:=C2e) (k:=60) F7 F8 h0 hq func49 (show f49.body=some (f49.body.getD .skip) by kernel_rfl) (body:=C4n) (by kernel_rfl)
  rfl rfl rfl rfl (by simp) (by simp) (fun _ _=>⟨⟨.inr rfl,.inr rfl,.inr rfl,.inr rfl,.inr rfl,.inr rfl,.inr rfl,.inr rfl,.inr rfl,trivial⟩,⟨.inr rfl,.inr rfl,.inr rfl,.inr rfl,.inr rfl,.inr rfl,.inr rfl,.inr rfl,.inr rfl,trivial⟩⟩) F6c
theorem A8s (d:Drw) (a b c e:Lf):A5y [a,b,c,e,Lf.o (A9 d)]=d:=by simp [A5y,E8]
theorem A5e (d:Drw) (a:Lf):A4s [a,Lf.o (A9 d)]=d:=by simp [A4s,E8]
theorem A8r (d:Drw) (a b c e:Lf):A5x [a,b,c,e,Lf.o (A9 d)]=d:=by simp [A5x,E8]
theorem B1n (d:Drw) (a:Lf):B1m [a,Lf.o (A9 d)]=d:=by simp [B1m,E8]
theorem D4s (d:Drw):fdE C6a B5y d=decide (A0w d=0):=Z5 (fun n=>gFx d (D9 d n)) fun _ _=>rfl
theorem D4t (d:Drw):fdE C6d B6b d=decide (A0w d=0):=Z5 (fun n=>gFx d (D9 d n)) fun _ _=>rfl
theorem D4r (d:Drw):fdE A9d B5x d=decide (U1 (gFe d) d.l.length=0):=Z5 (gFe d) fun _ _=>rfl
theorem E4e (d:Drw):fdE p48 N48 d=decide (U1 (gFe d) d.l.length=0):=Z5 (gFe d) fun _ _=>rfl
theorem F5k {d:Drw} (h:A0w d ≠ 0):gFx d (D9 d (G5 (C6a d) (B5y d) 0))=A0w d:=(X9 (p:=C6a d) (g:=fun n=>gFx d (D9 d n)) (fun _ _=>rfl) h).2
theorem D9r {d:Drw} (h:A0w d ≠ 0):gFx d (D9 d (G5 (C6d d) (B6b d) 0))=A0w d:=(X9 (p:=C6d d) (g:=fun n=>gFx d (D9 d n)) (fun _ _=>rfl) h).2
theorem F5j {d:Drw} (h:U1 (gFe d) d.l.length ≠ 0):gFe d (G5 (A9d d) (B5x d) 0)=U1 (gFe d) d.l.length:=(X9 (p:=A9d d) (fun _ _=>rfl) h).2
theorem G1r {d:Drw} (h:U1 (gFe d) d.l.length ≠ 0):gFe d (G5 (p48 d) (N48 d) 0)=U1 (gFe d) d.l.length:=(X9 (p:=p48 d) (fun _ _=>rfl) h).2
def D6d:Prims:=(((pFt2.addb 44 2 F7o).addb 49 0 F7r).addb 44 0 F7n).addb 48 0 G3l
theorem F4e {A:Amb} (hT:Tab A) (hG:gN prog<=A.G):PrimOK prog A D6d:=by
 have h0:=E7m hT hG
 have h1:PrimOK prog A pFt1:=E5k h0 (E5h h0 h0)
 have h2:PrimOK prog A pFt2:=E5j h1 (E5g h1 h1)
 exact F2u h0 (E5e h0 (E5i h2 (E5f h2 h2)))
def A1i (d:Drw):Int:=if A2q d ≠ 0 then A2q d else A0w d
end Go.Proofs.Tryz
namespace Go.Proofs.Tryz
open Go.Ad
theorem G5r (d:Drw):(D5 prog D6d 60).call 44 [.agg d.av] (Bg 8) F9 =
  brK (decide ((d.l.length:Int) > 32)) (some (.int .i64 5)) (brK (fdC B4n A5x D0q [.n (d.l.length),.fr (A7 Fea.fv d.l),.i ((d.l.length:Int)),.i (0),.o (A9 d)]) (brK (fdE A9d B5x (A5x [.n (d.l.length),.fr (A7 Fea.fv d.l),.i ((d.l.length:Int)),.i (0),.o (A9 d)])) (brK (fdC B5r A5y D0r [.n (d.l.length),.fr (A7 Fea.fv d.l),.i ((d.l.length:Int)),.i (0),.o (A9 d)]) (brK (fdE C6a B5y (A5y [.n (d.l.length),.fr (A7 Fea.fv d.l),.i ((d.l.length:Int)),.i (0),.o (A9 d)])) (some (.int .i64 0)) (some (.sint IntKind.i64 (gFx (I1 (A9 d)) (D9 (I1 (A9 d)) (G5 (C6a (A5y [.n (d.l.length),.fr (A7 Fea.fv d.l),.i ((d.l.length:Int)),.i (0),.o (A9 d)])) (B5y (A5y [.n (d.l.length),.fr (A7 Fea.fv d.l),.i ((d.l.length:Int)),.i (0),.o (A9 d)])) 0)))))) none) (some (.sint IntKind.i64 (gFe (I1 (A9 d)) (G5 (A9d (A5x [.n (d.l.length),.fr (A7 Fea.fv d.l),.i ((d.l.length:Int)),.i (0),.o (A9 d)])) (B5x (A5x [.n (d.l.length),.fr (A7 Fea.fv d.l),.i ((d.l.length:Int)),.i (0),.o (A9 d)])) 0))))) none):=by kernel_rfl
theorem G7p (d:Drw) (hk:OkD d):∃ v,(D5 prog D6d 60).call 44 [.agg d.av] (Bg 8) F9=some v/\R3 (A1i d) v:=by
 rw [G5r]
 simp only [A8r,A8s,B1n,A5e,D4r,D4s,E4e,D4t,E8]
 by_cases c1:d.l.length > 32
 rotate_left
 by_cases c2:U1 (gFe d) d.l.length ≠ 0
 rotate_left
 by_cases c3:A0w d ≠ 0
 rotate_left
 all_goals
  apply exV
  focus
   repeat first
    | exact rfl
    | refine A8 rfl ?_
    | refine C8 rfl ?_
    | refine A8 (by simp only [SBs]; omega) ?_
    | refine C8 (by simp only [SBs]; omega) ?_
    | refine A8 (I8 (L:=B4n) (dec:=A5x) (Inv:=D0q) (x:=d) (A8r d _ _ _ _) ⟨hk,by omega⟩) ?_
    | refine A8 (I8 (L:=B5r) (dec:=A5y) (Inv:=D0r) (x:=d) (A8s d _ _ _ _) hk) ?_
  focus
   first
    | apply viI
    | apply viS
   dsimp only [A1i,A2q]
   repeat first
    | exact rfl
    | omega
    | refine I7 (by omega) ?_
    | refine G7 (by omega) ?_
    | exact (F5j c2).symm
    | exact (F5k c3).symm
theorem G5u (d:Drw):(D5 prog D6d 60).call 48 [.agg d.av] (Bg 8) F9 =
  brK (decide ((d.l.length:Int) > 32)) (some (.int .i64 5)) (brK (fdC L48 B1m E6c [.i (0),.o (A9 d)]) (brK (fdE p48 N48 (B1m [.i (0),.o (A9 d)])) (some (.int .i64 0)) (some (.sint IntKind.i64 (gFe (I1 (A9 d)) (G5 (p48 (B1m [.i (0),.o (A9 d)])) (N48 (B1m [.i (0),.o (A9 d)])) 0))))) none):=by kernel_rfl
theorem G7r (d:Drw) (hk:OkD d):∃ v,(D5 prog D6d 60).call 48 [.agg d.av] (Bg 8) F9=some v/\R3 (A2q d) v:=by
 rw [G5u]
 simp only [A8r,A8s,B1n,A5e,D4r,D4s,E4e,D4t,E8]
 by_cases c1:d.l.length > 32
 rotate_left
 by_cases c2:U1 (gFe d) d.l.length ≠ 0
 rotate_left
 all_goals
  apply exV
  focus
   repeat first
    | exact rfl
    | refine A8 rfl ?_
    | refine C8 rfl ?_
    | refine A8 (by simp only [SBs]; omega) ?_
    | refine C8 (by simp only [SBs]; omega) ?_
    | refine A8 (I8 (L:=L48) (dec:=B1m) (Inv:=E6c) (x:=d) (B1n d _) ⟨hk,by omega⟩) ?_
  focus
   first
    | apply viI
    | apply viS
   dsimp only [A2q]
   repeat first
    | exact rfl
    | omega
    | refine I7 (by omega) ?_
    | refine G7 (by omega) ?_
    | exact (G1r c2).symm
theorem G5v (d:Drw):(D5 prog D6d 60).call 49 [.agg d.av] (Bg 8) F9 =
  brK (fdC B4o A4s C2e [.i (0),.o (A9 d)]) (brK (fdE C6d B6b (A4s [.i (0),.o (A9 d)])) (some (.int .i64 0)) (some (.sint IntKind.i64 (gFx (I1 (A9 d)) (D9 (I1 (A9 d)) (G5 (C6d (A4s [.i (0),.o (A9 d)])) (B6b (A4s [.i (0),.o (A9 d)])) 0)))))) none:=by kernel_rfl
theorem G7s (d:Drw) (hk:OkD d):∃ v,(D5 prog D6d 60).call 49 [.agg d.av] (Bg 8) F9=some v/\R3 (A0w d) v:=by
 rw [G5v]
 simp only [A8r,A8s,B1n,A5e,D4r,D4s,E4e,D4t,E8]
 by_cases c1:A0w d ≠ 0
 ·apply exV
  focus
   repeat first
    | exact rfl
    | refine A8 rfl ?_
    | refine C8 rfl ?_
    | refine A8 (by simp only [SBs]; omega) ?_
    | refine C8 (by simp only [SBs]; omega) ?_
    | refine A8 (I8 (L:=B4o) (dec:=A4s) (Inv:=C2e) (x:=d) (A5e d _) hk) ?_
  focus
   first
    | apply viI
    | apply viS
   repeat first
    | exact rfl
    | omega
    | refine I7 (by omega) ?_
    | refine G7 (by omega) ?_
    | exact (D9r c1).symm
 apply exV
 focus
  repeat first
   | exact rfl
   | refine A8 rfl ?_
   | refine C8 rfl ?_
   | refine A8 (by simp only [SBs]; omega) ?_
   | refine C8 (by simp only [SBs]; omega) ?_
   | refine A8 (I8 (L:=B4o) (dec:=A4s) (Inv:=C2e) (x:=d) (A5e d _) hk) ?_
 focus
  first
   | apply viI
   | apply viS
  repeat first
   | exact rfl
   | omega
   | refine I7 (by omega) ?_
   | refine G7 (by omega) ?_
   | exact (D9r c1).symm
def VFt (e:Drw->Int) (d:Drw):Tr AV:=.br (D8 (OkD d)) (.leaf (.sint .i64 (e d))) .fail
def pFt:Prims:=((pIx.addt 44 (R6 Q4 (VFt A1i))).addt 48 (R6 Q4 (VFt A2q))).addt 49 (R6 Q4 (VFt A0w))
theorem G0t {A:Amb} (hT:Tab A) (hG:gN prog<=A.G):PrimOK prog A pFt:=by
 have h0:=F4e hT hG
 refine J5 hG h0 (J5 hG h0 (J5 hG h0 (E7m hT hG) Q4 (VFt A1i) func44 (by kernel_rfl) fun x v hv=>?_) Q4 (VFt A2q) func48 (by kernel_rfl) fun x v hv=>?_) Q4 (VFt A0w) func49 (by kernel_rfl) fun x v hv=>?_
 ·obtain ⟨hz,hv⟩:=Tr.br1 hv
  cases hv
  obtain ⟨v',h1,h2⟩:=G7p x (J4 hz)
  exact ⟨v',h1,H6 h2,K4 h2⟩
 ·obtain ⟨hz,hv⟩:=Tr.br1 hv
  cases hv
  obtain ⟨v',h1,h2⟩:=G7r x (J4 hz)
  exact ⟨v',h1,H6 h2,K4 h2⟩
 ·obtain ⟨hz,hv⟩:=Tr.br1 hv
  cases hv
  obtain ⟨v',h1,h2⟩:=G7s x (J4 hz)
  exact ⟨v',h1,H6 h2,K4 h2⟩
end Go.Proofs.Tryz
