/- Drawings: features and their datums. -/
import Derived.Test.YtoboneiigikidaaGreatDoorFr
noncomputable section
namespace Go.Proofs.Tryz
open Go.Ad
structure OkD (d:Drw):Prop where
 len:d.l.length<2^62
 sz:∀ i,i<d.l.length->szF (D8 d i)=true
 fr:∀ i,i<d.l.length->(D8 d i).l.length<2^62
 dt:∀ i k,i<d.l.length->k<(D8 d i).l.length->(F4 (D8 d i) k).l.length<2^62
 nm:I9 d.s=true
 dim:d.m.length<2^62
 dsz:∀ i,i<d.m.length->I9 (K6 d i).f=true/\I9 (K6 d i).t=true
def leB(a b:List UInt8):Bool:=Op.bytesLess a b||a==b
def gFe(d:Drw)(n:Nat):Int:=if W9 (D8 d n)≠0 then W9 (D8 d n) else if n>0/\leB (D8 d n).s (D8 d (n-1)).s=true then 9 else 0
def gDt(d:Drw)(y:Dat):Int:=if D7 d y.s<0 then 6 else if y.m≠0/\(D8 d (D7 d y.s).toNat).k=0 then 3 else 0
def gFr(d:Drw)(x:Frm):Int:=S9 (fun n=>gDt d (V4 x n)) x.l.length
def gFx(d:Drw)(f:Fea):Int:=S9 (fun k=>gFr d (F4 f k)) f.l.length
def A0y(d:Drw):Int:=S9 (fun i=>gFx d (D8 d i)) d.l.length
def A2n(d:Drw):Int:=if d.l.length>32 then 5 else S9 (gFe d) d.l.length
theorem X0(d:Drw)(s:List UInt8):D7 d s<d.l.length/\-1<=D7 d s:=by
 unfold D7 D6i
 have:=B5v (p:=A6m d s) (N:=d.l.length)
 split<;>omega
theorem G1u(d:Drw):(⟨d.s,ofR Fea.fv d.l.length (A7 Fea.fv d.l),ofR Dim.fv d.m.length (A7 Dim.fv d.m)⟩:Drw)=d:=by rw[I1 Fea.inj,I1 Dim.inj]
theorem F5k(l:List Fea):(ofR Fea.fv l.length (A7 Fea.fv l)).length=l.length:=by rw[I1 Fea.inj]
def C5d:Code:=I7 (J6 0 (f44.body.getD .skip))
def sp44a:SP:=⟨dr 1++[.is (.ptr (some (8,0)))]++dr 16++[.flist 9]++[.int .i64]++[.int .i64]++dr 66,dd8++[.any]⟩
def C8b:AEx->SP
 | .ret=>⟨dr 2++[.int .i64]++dr 84,dd8++[.any]⟩
 | .exit 0=>⟨dr 1++[.is (.ptr (some (8,0)))]++dr 85,dd8++[.any]⟩
 | _=>sp44a
theorem F0i(d:Drw)(n:Int):E8 prog (D5 prog pIx 60) (pIx.blk 44) C5d (sp44a.rho [.n d.l.length,.fr (A7 Fea.fv d.l),.i d.l.length,.i n,.o (C9 d)]) (sp44a.heap [.n d.l.length,.fr (A7 Fea.fv d.l),.i d.l.length,.i n,.o (C9 d)]) (H9 C8b 9 []) =
  brK (decide (n<(d.l.length:Int))) (brK (decide (0<=n/\n<(d.l.length:Int))) (brK (E9 (okR Frm.fv (d.l.getD n.toNat default).l.length (A7 Frm.fv (d.l.getD n.toNat default).l))) (brK (szF { s:=(d.l.getD n.toNat default).s,k:=(d.l.getD n.toNat default).k,a:=(d.l.getD n.toNat default).a,x:=(d.l.getD n.toNat default).x,y:=(d.l.getD n.toNat default).y,z:=(d.l.getD n.toNat default).z,lo:=(d.l.getD n.toNat default).lo,hi:=(d.l.getD n.toNat default).hi,l:=ofR Frm.fv (d.l.getD n.toNat default).l.length (A7 Frm.fv (d.l.getD n.toNat default).l) }) (brK (W9 { s:=(d.l.getD n.toNat default).s,k:=(d.l.getD n.toNat default).k,a:=(d.l.getD n.toNat default).a,x:=(d.l.getD n.toNat default).x,y:=(d.l.getD n.toNat default).y,z:=(d.l.getD n.toNat default).z,lo:=(d.l.getD n.toNat default).lo,hi:=(d.l.getD n.toNat default).hi,l:=ofR Frm.fv (d.l.getD n.toNat default).l.length (A7 Frm.fv (d.l.getD n.toNat default).l) } != 0) (some (.ret,[.i (W9 { s:=(d.l.getD n.toNat default).s,k:=(d.l.getD n.toNat default).k,a:=(d.l.getD n.toNat default).a,x:=(d.l.getD n.toNat default).x,y:=(d.l.getD n.toNat default).y,z:=(d.l.getD n.toNat default).z,lo:=(d.l.getD n.toNat default).lo,hi:=(d.l.getD n.toNat default).hi,l:=ofR Frm.fv (d.l.getD n.toNat default).l.length (A7 Frm.fv (d.l.getD n.toNat default).l) }),.o (C9 d)])) (brK (decide (n>0)) (brK (decide (0<=W (n-1)/\W (n-1)<(d.l.length:Int))) (brK (Op.bytesLess (d.l.getD n.toNat default).s (d.l.getD (W (n-1)).toNat default).s||(d.l.getD n.toNat default).s==(d.l.getD (W (n-1)).toNat default).s) (some (.ret,[.i (9),.o (C9 d)])) (some (.normal,[.n (d.l.length),.fr (A7 Fea.fv d.l),.i ((d.l.length:Int)),.i (W (n+1)),.o (C9 d)]))) none) (some (.normal,[.n (d.l.length),.fr (A7 Fea.fv d.l),.i ((d.l.length:Int)),.i (W (n+1)),.o (C9 d)])))) none) none) none) (some (.exit 0,[.o (C9 d)])):=by kernel_rfl
def B5b(x:Drw)(n:Nat):List Lf:=[.n x.l.length,.fr (A7 Fea.fv x.l),.i x.l.length,.i n,.o (C9 x)]
def C9a:List Lf->Nat->List Lf
 | [_,_,_,_,.o o],n=>[.i (gFe (I6 o) n),.o o]
 | _,_=>[]
def D8v:List Lf->List Lf
 | [_,_,_,_,o]=>[o]
 | _=>[]
def B6k(x:Drw):Nat:=x.l.length
def A9i(x:Drw)(n:Nat):Bool:=decide (gFe x n=0)
def D1u(x:Drw):Prop:=OkD x/\x.l.length<=32
def A6c:List Lf->Drw
 | [_,_,_,_,.o o]=>I6 o
 | _=>default
theorem F8f(x:Drw)(hx:D1u x)(n:Nat)(hn:n<=B6k x):E8 prog (D5 prog pIx 60) (pIx.blk 44) C5d (sp44a.rho (B5b x n)) (sp44a.heap (B5b x n)) (H9 C8b 9 [])=some (if n<B6k x then(bif A9i x n then(.normal,B5b x (n+1)) else(.ret,C9a (B5b x 0) n)) else(.exit 0,D8v (B5b x 0))):=by
 obtain⟨h1,hk⟩:=hx
 simp only[B5b,D8v]
 rw[F0i,I5 hn h1.len]
 simp only[tN,B8k,J8]
 by_cases h:n<B6k x
 ·rw[if_pos h]
  simp only[B6k] at h
  have hz:=h1.sz n h
  simp only[D8] at hz
  refine A8 (dT (by omega)) ?_
  refine A8 (dT (by omega)) ?_
  refine A8 rfl ?_
  refine A8 hz ?_
  by_cases he:W9 (x.l.getD n default)=0
  ·refine C8 (by simpa using he) ?_
   by_cases h0:n=0
   ·subst h0
    have hg:gFe x 0=0:=by unfold gFe; rw[if_neg (by simpa using he),if_neg (by omega)]
    have hp:A9i x 0=true:=by unfold A9i; rw[hg]; rfl
    rw[hp,cond_true]
    refine C8 (dF (by omega)) ?_
    rfl
   ·refine A8 (dT (by omega)) ?_
    have e1:W ((n:Int)-1)=((n-1:Nat):Int):=by have:=h1.len; rw[D4d (by omega) (by omega)]; omega
    rw[e1]
    simp only[tN]
    refine A8 (dT (by omega)) ?_
    cases hl:leB (x.l.getD n default).s (x.l.getD (n-1) default).s with
    | true =>
     have hg:gFe x n=9:=by unfold gFe; rw[if_neg (by simpa using he),if_pos ⟨by omega,hl⟩]
     have hp:A9i x n=false:=by unfold A9i; rw[hg]; rfl
     rw[hp,cond_false]
     simp only[C9a,D9,hg]
     refine A8 hl ?_
     rfl
    | false =>
     have hg:gFe x n=0:=by unfold gFe; rw[if_neg (by simpa using he),if_neg (fun h=>by rw[show leB (D8 x n).s (D8 x (n-1)).s=false from hl] at h; exact absurd h.2 (by simp))]
     have hp:A9i x n=true:=by unfold A9i; rw[hg]; rfl
     rw[hp,cond_true]
     refine C8 hl ?_
     rfl
  ·refine A8 (by simpa using he) ?_
   have hg:gFe x n=W9 (x.l.getD n default):=by unfold gFe; rw[if_pos he]
   have hp:A9i x n=false:=by unfold A9i; rw[hg]; simpa using he
   rw[hp,cond_false]
   simp only[C9a,D9,hg]
 ·rw[if_neg h]
  simp only[B6k] at h
  refine C8 (dF (by omega)) ?_
  rfl
def F9w:Blk:=hookP sp44a 9 [] (fdT C8b 0 .ret (.exit 0) A6c B5b C9a D8v B6k A9i D1u)
theorem E6w{A:Amb}{q:Prims}(h0:PrimOK prog A pIx)(hq:PrimOK prog A q):PrimOK prog A (q.addb 44 0 F9w) :=
 SEB.findR (id:=0) (ds:=[]) (dec:=A6c) (sp:=sp44a) (sq:=C8b) (m:=9) (eb:=.ret) (ee:=.exit 0) (L:=B5b) (Lb:=C9a) (Le:=D8v) (N:=B6k) (p:=A9i) (Inv:=D1u) (k:=60) F7 F9 h0 hq func44 (show f44.body=some (f44.body.getD .skip) by kernel_rfl) (body:=C5d) (by kernel_rfl)
  rfl rfl rfl rfl (by simp) (by simp) (fun _ _=>⟨⟨.inr rfl,.inr rfl,.inr rfl,.inr rfl,.inr rfl,.inr rfl,.inr rfl,.inr rfl,.inr rfl,trivial⟩,⟨.inr rfl,.inr rfl,.inr rfl,.inr rfl,.inr rfl,.inr rfl,.inr rfl,.inr rfl,.inr rfl,trivial⟩⟩) F8f
def D5e:Code:=I7 (J6 0 (f48.body.getD .skip))
def sp48:SP:=⟨dr 1++[.is (.ptr (some (8,0)))]++dr 1++[.int .i64]++dr 39,dd8++[.any]⟩
def E1m:AEx->SP
 | .ret=>⟨dr 2++[.int .i64]++dr 40,dd8++[.any]⟩
 | .exit 0=>⟨dr 43,dd8++[.any]⟩
 | _=>sp48
theorem F7g(d:Drw)(n:Int):E8 prog (D5 prog pIx 60) (pIx.blk 48) D5e (sp48.rho [.i n,.o (C9 d)]) (sp48.heap [.i n,.o (C9 d)]) (H9 E1m 9 []) =
  brK (decide (n<(d.l.length:Int))) (brK (decide (0<=n/\n<(d.l.length:Int))) (brK (E9 (okR Frm.fv (d.l.getD n.toNat default).l.length (A7 Frm.fv (d.l.getD n.toNat default).l))) (brK (szF { s:=(d.l.getD n.toNat default).s,k:=(d.l.getD n.toNat default).k,a:=(d.l.getD n.toNat default).a,x:=(d.l.getD n.toNat default).x,y:=(d.l.getD n.toNat default).y,z:=(d.l.getD n.toNat default).z,lo:=(d.l.getD n.toNat default).lo,hi:=(d.l.getD n.toNat default).hi,l:=ofR Frm.fv (d.l.getD n.toNat default).l.length (A7 Frm.fv (d.l.getD n.toNat default).l) }) (brK (W9 { s:=(d.l.getD n.toNat default).s,k:=(d.l.getD n.toNat default).k,a:=(d.l.getD n.toNat default).a,x:=(d.l.getD n.toNat default).x,y:=(d.l.getD n.toNat default).y,z:=(d.l.getD n.toNat default).z,lo:=(d.l.getD n.toNat default).lo,hi:=(d.l.getD n.toNat default).hi,l:=ofR Frm.fv (d.l.getD n.toNat default).l.length (A7 Frm.fv (d.l.getD n.toNat default).l) } != 0) (some (.ret,[.i (W9 { s:=(d.l.getD n.toNat default).s,k:=(d.l.getD n.toNat default).k,a:=(d.l.getD n.toNat default).a,x:=(d.l.getD n.toNat default).x,y:=(d.l.getD n.toNat default).y,z:=(d.l.getD n.toNat default).z,lo:=(d.l.getD n.toNat default).lo,hi:=(d.l.getD n.toNat default).hi,l:=ofR Frm.fv (d.l.getD n.toNat default).l.length (A7 Frm.fv (d.l.getD n.toNat default).l) }),.o (C9 d)])) (brK (decide (n>0)) (brK (decide (0<=n/\n<(d.l.length:Int))) (brK (decide (0<=W (n-1)/\W (n-1)<(d.l.length:Int))) (brK (Op.bytesLess (d.l.getD n.toNat default).s (d.l.getD (W (n-1)).toNat default).s||(d.l.getD n.toNat default).s==(d.l.getD (W (n-1)).toNat default).s) (some (.ret,[.i (9),.o (C9 d)])) (some (.normal,[.i (W (n+1)),.o (C9 d)]))) none) none) (some (.normal,[.i (W (n+1)),.o (C9 d)])))) none) none) none) (some (.exit 0,[.o (C9 d)])):=by kernel_rfl
def L48(x:Drw)(n:Nat):List Lf:=[.i n,.o (C9 x)]
def E3y:List Lf->Nat->List Lf
 | [_,.o o],n=>[.i (gFe (I6 o) n),.o o]
 | _,_=>[]
def F2t:List Lf->List Lf
 | [_,o]=>[o]
 | _=>[]
def N48(x:Drw):Nat:=x.l.length
def p48(x:Drw)(n:Nat):Bool:=decide (gFe x n=0)
def E7y(x:Drw):Prop:=OkD x/\x.l.length<=32
def B1w:List Lf->Drw
 | [_,.o o]=>I6 o
 | _=>default
theorem G5k(x:Drw)(hx:E7y x)(n:Nat)(hn:n<=N48 x):E8 prog (D5 prog pIx 60) (pIx.blk 48) D5e (sp48.rho (L48 x n)) (sp48.heap (L48 x n)) (H9 E1m 9 [])=some (if n<N48 x then(bif p48 x n then(.normal,L48 x (n+1)) else(.ret,E3y (L48 x 0) n)) else(.exit 0,F2t (L48 x 0))):=by
 obtain⟨h1,hk⟩:=hx
 simp only[L48,F2t]
 rw[F7g,I5 hn h1.len]
 simp only[tN,B8k,J8]
 by_cases h:n<N48 x
 ·rw[if_pos h]
  simp only[N48] at h
  have hz:=h1.sz n h
  simp only[D8] at hz
  refine A8 (dT (by omega)) ?_
  refine A8 (dT (by omega)) ?_
  refine A8 rfl ?_
  refine A8 hz ?_
  by_cases he:W9 (x.l.getD n default)=0
  ·refine C8 (by simpa using he) ?_
   by_cases h0:n=0
   ·subst h0
    have hg:gFe x 0=0:=by unfold gFe; rw[if_neg (by simpa using he),if_neg (by omega)]
    have hp:p48 x 0=true:=by unfold p48; rw[hg]; rfl
    rw[hp,cond_true]
    refine C8 (dF (by omega)) ?_
    rfl
   ·refine A8 (dT (by omega)) ?_
    have e1:W ((n:Int)-1)=((n-1:Nat):Int):=by have:=h1.len; rw[D4d (by omega) (by omega)]; omega
    rw[e1]
    simp only[tN]
    refine A8 (dT (by omega)) ?_
    refine A8 (dT (by omega)) ?_
    cases hl:leB (x.l.getD n default).s (x.l.getD (n-1) default).s with
    | true =>
     have hg:gFe x n=9:=by unfold gFe; rw[if_neg (by simpa using he),if_pos ⟨by omega,hl⟩]
     have hp:p48 x n=false:=by unfold p48; rw[hg]; rfl
     rw[hp,cond_false]
     simp only[E3y,D9,hg]
     refine A8 hl ?_
     rfl
    | false =>
     have hg:gFe x n=0:=by unfold gFe; rw[if_neg (by simpa using he),if_neg (fun h=>by rw[show leB (D8 x n).s (D8 x (n-1)).s=false from hl] at h; exact absurd h.2 (by simp))]
     have hp:p48 x n=true:=by unfold p48; rw[hg]; rfl
     rw[hp,cond_true]
     refine C8 hl ?_
     rfl
  ·refine A8 (by simpa using he) ?_
   have hg:gFe x n=W9 (x.l.getD n default):=by unfold gFe; rw[if_pos he]
   have hp:p48 x n=false:=by unfold p48; rw[hg]; simpa using he
   rw[hp,cond_false]
   simp only[E3y,D9,hg]
 ·rw[if_neg h]
  simp only[N48] at h
  refine C8 (dF (by omega)) ?_
  rfl
def G6w:Blk:=hookP sp48 9 [] (fdT E1m 0 .ret (.exit 0) B1w L48 E3y F2t N48 p48 E7y)
theorem F4x{A:Amb}{q:Prims}(h0:PrimOK prog A pIx)(hq:PrimOK prog A q):PrimOK prog A (q.addb 48 0 G6w) :=
 SEB.findR (id:=0) (ds:=[]) (dec:=B1w) (sp:=sp48) (sq:=E1m) (m:=9) (eb:=.ret) (ee:=.exit 0) (L:=L48) (Lb:=E3y) (Le:=F2t) (N:=N48) (p:=p48) (Inv:=E7y) (k:=60) F7 F9 h0 hq func48 (show f48.body=some (f48.body.getD .skip) by kernel_rfl) (body:=D5e) (by kernel_rfl)
  rfl rfl rfl rfl (by simp) (by simp) (fun _ _=>⟨⟨.inr rfl,.inr rfl,.inr rfl,.inr rfl,.inr rfl,.inr rfl,.inr rfl,.inr rfl,.inr rfl,trivial⟩,⟨.inr rfl,.inr rfl,.inr rfl,.inr rfl,.inr rfl,.inr rfl,.inr rfl,.inr rfl,.inr rfl,trivial⟩⟩) G5k
def C5g:Code:=I7 (J6 6 (f44.body.getD .skip))
def sp44d:SP:=⟨dr 1++[.is (.ptr (some (8,0)))]++dr 44++[.flist 9]++[.int .i64]++[.int .i64]++dr 4++[.flist 5]++[.int .i64]++[.int .i64]++dr 4++[.flist 2]++[.int .i64]++[.int .i64]++dr 24,dd8++[.any,.any,.any]⟩
def C8e:AEx->SP
 | .ret=>⟨dr 2++[.int .i64]++dr 84,dd8++[.any,.any,.any]⟩
 | .exit 6=>⟨dr 1++[.is (.ptr (some (8,0)))]++dr 44++[.flist 9]++[.int .i64]++[.int .i64]++dr 4++[.flist 5]++[.int .i64]++[.int .i64]++dr 31,dd8++[.any,.any,.any]⟩
 | _=>sp44d
theorem F0l(d:Drw)(f:Fea)(x:Frm)(i k n:Int):E8 prog (D5 prog pIx 60) (pIx.blk 44) C5g (sp44d.rho [.n d.l.length,.fr (A7 Fea.fv d.l),.i d.l.length,.i i,.n f.l.length,.fr (A7 Frm.fv f.l),.i f.l.length,.i k,.n x.l.length,.fr (A7 Dat.fv x.l),.i x.l.length,.i n,.o (C9 d),.o (F5 f),.o (Q8 x)]) (sp44d.heap [.n d.l.length,.fr (A7 Fea.fv d.l),.i d.l.length,.i i,.n f.l.length,.fr (A7 Frm.fv f.l),.i f.l.length,.i k,.n x.l.length,.fr (A7 Dat.fv x.l),.i x.l.length,.i n,.o (C9 d),.o (F5 f),.o (Q8 x)]) (H9 C8e 11 []) =
  brK (decide (n<(x.l.length:Int))) (brK (decide (0<=n/\n<(x.l.length:Int))) (brK (oD d) (brK (decide ((ofR Fea.fv d.l.length (A7 Fea.fv d.l)).length<4611686018427387904)) (brK (decide (D7 { s:=d.s,l:=ofR Fea.fv d.l.length (A7 Fea.fv d.l),m:=ofR Dim.fv d.m.length (A7 Dim.fv d.m) } (x.l.getD n.toNat default).s<0)) (some (.ret,[.i (6),.o (C9 d),.o (F5 (f)),.o (Q8 (x))])) (brK ((x.l.getD n.toNat default).m != 0) (brK (decide (0<=D7 { s:=d.s,l:=ofR Fea.fv d.l.length (A7 Fea.fv d.l),m:=ofR Dim.fv d.m.length (A7 Dim.fv d.m) } (x.l.getD n.toNat default).s/\D7 { s:=d.s,l:=ofR Fea.fv d.l.length (A7 Fea.fv d.l),m:=ofR Dim.fv d.m.length (A7 Dim.fv d.m) } (x.l.getD n.toNat default).s<(d.l.length:Int))) (brK ((d.l.getD (D7 { s:=d.s,l:=ofR Fea.fv d.l.length (A7 Fea.fv d.l),m:=ofR Dim.fv d.m.length (A7 Dim.fv d.m) } (x.l.getD n.toNat default).s).toNat default).k==0) (some (.ret,[.i (3),.o (C9 d),.o (F5 (f)),.o (Q8 (x))])) (some (.normal,[.n (d.l.length),.fr (A7 Fea.fv d.l),.i ((d.l.length:Int)),.i (i),.n (f.l.length),.fr (A7 Frm.fv f.l),.i ((f.l.length:Int)),.i (k),.n (x.l.length),.fr (A7 Dat.fv x.l),.i ((x.l.length:Int)),.i (W (n+1)),.o (C9 d),.o (F5 (f)),.o (Q8 (x))]))) none) (some (.normal,[.n (d.l.length),.fr (A7 Fea.fv d.l),.i ((d.l.length:Int)),.i (i),.n (f.l.length),.fr (A7 Frm.fv f.l),.i ((f.l.length:Int)),.i (k),.n (x.l.length),.fr (A7 Dat.fv x.l),.i ((x.l.length:Int)),.i (W (n+1)),.o (C9 d),.o (F5 (f)),.o (Q8 (x))])))) none) none) none) (some (.exit 6,[.n (d.l.length),.fr (A7 Fea.fv d.l),.i ((d.l.length:Int)),.i (i),.n (f.l.length),.fr (A7 Frm.fv f.l),.i ((f.l.length:Int)),.i (k),.o (C9 d),.o (F5 (f)),.o (Q8 (x))])):=by kernel_rfl
def B6g(x:Drw×Nat×Nat)(n:Nat):List Lf:=[.n x.1.l.length,.fr (A7 Fea.fv x.1.l),.i x.1.l.length,.i x.2.1,.n (D8 x.1 x.2.1).l.length,.fr (A7 Frm.fv (D8 x.1 x.2.1).l),.i (D8 x.1 x.2.1).l.length,.i x.2.2,.n (F4 (D8 x.1 x.2.1) x.2.2).l.length,.fr (A7 Dat.fv (F4 (D8 x.1 x.2.1) x.2.2).l),.i (F4 (D8 x.1 x.2.1) x.2.2).l.length,.i n,.o (C9 x.1),.o (F5 (D8 x.1 x.2.1)),.o (Q8 (F4 (D8 x.1 x.2.1) x.2.2))]
def D8j:List Lf->Nat->List Lf
 | [_,_,_,.i i,_,_,_,.i k,_,_,_,_,.o o,p,q],n=>[.i (gDt (I6 o) (V4 (F4 (D8 (I6 o) i.toNat) k.toNat) n)),.o o,p,q]
 | _,_=>[]
def D8y:List Lf->List Lf
 | [a,b,c,i,e,f,g,k,_,_,_,_,o,p,q]=>[a,b,c,i,e,f,g,k,o,p,q]
 | _=>[]
def B6n(x:Drw×Nat×Nat):Nat:=(F4 (D8 x.1 x.2.1) x.2.2).l.length
def C6z(x:Drw×Nat×Nat)(n:Nat):Bool:=decide (gDt x.1 (V4 (F4 (D8 x.1 x.2.1) x.2.2) n)=0)
def D1x(x:Drw×Nat×Nat):Prop:=OkD x.1/\x.2.1<x.1.l.length/\x.2.2<(D8 x.1 x.2.1).l.length
def A6f:List Lf->Drw×Nat×Nat
 | [_,_,_,.i i,_,_,_,.i k,_,_,_,_,.o o,_,_]=>(I6 o,i.toNat,k.toNat)
 | _=>default
theorem F8i(x:Drw×Nat×Nat)(hx:D1x x)(n:Nat)(hn:n<=B6n x):E8 prog (D5 prog pIx 60) (pIx.blk 44) C5g (sp44d.rho (B6g x n)) (sp44d.heap (B6g x n)) (H9 C8e 11 [])=some (if n<B6n x then(bif C6z x n then(.normal,B6g x (n+1)) else(.ret,D8j (B6g x 0) n)) else(.exit 6,D8y (B6g x 0))):=by
 obtain⟨d,i,k⟩:=x
 obtain⟨h1,hi,hk⟩:=hx
 simp only[B6g,D8y]
 rw[F0l,I5 hn (h1.dt i k hi hk)]
 simp only[tN,G1u,F5k,A3r,F4,D8]
 by_cases h:n<B6n (d,i,k)
 ·rw[if_pos h]
  simp only[B6n,F4,D8] at h hi hk
  refine A8 (dT (by omega)) ?_
  refine A8 (dT (by omega)) ?_
  refine A8 rfl ?_
  refine A8 (dT h1.len) ?_
  obtain⟨y,hy⟩:∃ y,y=((d.l.getD i default).l.getD k default).l.getD n default:=⟨_,rfl⟩
  have hp0:C6z (d,i,k) n=decide (gDt d y=0):=by rw[hy]; rfl
  rw[hp0]
  simp only[D8j,D9,tN,V4,F4,D8]
  rw[<- hy]
  have hb:=X0 d y.s
  by_cases a0:D7 d y.s<0
  ·have hg:gDt d y=6:=by unfold gDt; rw[if_pos a0]
   rw[hg]
   refine A8 (dT a0) ?_
   rfl
  ·refine C8 (dF a0) ?_
   by_cases m0:y.m=0
   ·have hg:gDt d y=0:=by unfold gDt; rw[if_neg a0,if_neg (fun h=>h.1 m0)]
    rw[hg]
    refine C8 (by simpa using m0) ?_
    rfl
   ·refine A8 (by simpa using m0) ?_
    refine A8 (dT (by omega)) ?_
    by_cases k0:(d.l.getD (D7 d y.s).toNat default).k=0
    ·have hg:gDt d y=3:=by unfold gDt; rw[if_neg a0,if_pos ⟨m0,k0⟩]
     rw[hg]
     refine A8 (by simpa using k0) ?_
     rfl
    ·have hg:gDt d y=0:=by unfold gDt; rw[if_neg a0,if_neg (fun h=>k0 h.2)]
     rw[hg]
     refine C8 (by simpa using k0) ?_
     rfl
 ·rw[if_neg h]
  simp only[B6n,F4,D8] at h hi hk
  refine C8 (dF (by omega)) ?_
  rfl
def F9z:Blk:=hookP sp44d 11 [] (fdT C8e 6 .ret (.exit 6) A6f B6g D8j D8y B6n C6z D1x)
theorem E6z{A:Amb}{q:Prims}(h0:PrimOK prog A pIx)(hq:PrimOK prog A q):PrimOK prog A (q.addb 44 6 F9z) :=
 SEB.findR (id:=6) (ds:=[]) (dec:=A6f) (sp:=sp44d) (sq:=C8e) (m:=11) (eb:=.ret) (ee:=.exit 6) (L:=B6g) (Lb:=D8j) (Le:=D8y) (N:=B6n) (p:=C6z) (Inv:=D1x) (k:=60) F7 F9 h0 hq func44 (show f44.body=some (f44.body.getD .skip) by kernel_rfl) (body:=C5g) (by kernel_rfl)
  rfl rfl rfl rfl (by simp) (by simp) (fun _ _=>⟨⟨.inr rfl,.inr rfl,.inr rfl,.inr rfl,.inr rfl,.inr rfl,.inr rfl,.inr rfl,.inr rfl,.inr rfl,.inr rfl,trivial⟩,⟨.inr rfl,.inr rfl,.inr rfl,.inr rfl,.inr rfl,.inr rfl,.inr rfl,.inr rfl,.inr rfl,.inr rfl,.inr rfl,trivial⟩⟩) F8i
def C5j:Code:=I7 (J6 4 (f49.body.getD .skip))
def sp49d:SP:=⟨dr 1++[.is (.ptr (some (8,0)))]++dr 1++[.int .i64]++[.flist 5]++[.int .i64]++[.int .i64]++dr 57,dd8++[.any]⟩
def C8h:AEx->SP
 | .ret=>⟨dr 2++[.int .i64]++dr 61,dd8++[.any]⟩
 | .exit 4=>⟨dr 1++[.is (.ptr (some (8,0)))]++dr 1++[.int .i64]++[.flist 5]++[.int .i64]++dr 58,dd8++[.any]⟩
 | _=>sp49d
theorem F0o(d:Drw)(f:Fea)(i k n:Int):E8 prog (D5 prog pIx 60) (pIx.blk 49) C5j (sp49d.rho [.i i,.n f.l.length,.fr (A7 Frm.fv f.l),.i k,.i n,.o (C9 d)]) (sp49d.heap [.i i,.n f.l.length,.fr (A7 Frm.fv f.l),.i k,.i n,.o (C9 d)]) (H9 C8h 9 []) =
  brK (decide (0<=k/\k<(f.l.length:Int))) (brK (decide (n<((f.l.getD k.toNat default).l.length:Int))) (brK (decide (0<=k/\k<(f.l.length:Int))) (brK (decide (0<=n/\n<((f.l.getD k.toNat default).l.length:Int))) (brK (oD d) (brK (decide ((ofR Fea.fv d.l.length (A7 Fea.fv d.l)).length<4611686018427387904)) (brK (decide (D7 { s:=d.s,l:=ofR Fea.fv d.l.length (A7 Fea.fv d.l),m:=ofR Dim.fv d.m.length (A7 Dim.fv d.m) } ((f.l.getD k.toNat default).l.getD n.toNat default).s<0)) (some (.ret,[.i (6),.o (C9 d)])) (brK (((f.l.getD k.toNat default).l.getD n.toNat default).m != 0) (brK (decide (0<=D7 { s:=d.s,l:=ofR Fea.fv d.l.length (A7 Fea.fv d.l),m:=ofR Dim.fv d.m.length (A7 Dim.fv d.m) } ((f.l.getD k.toNat default).l.getD n.toNat default).s/\D7 { s:=d.s,l:=ofR Fea.fv d.l.length (A7 Fea.fv d.l),m:=ofR Dim.fv d.m.length (A7 Dim.fv d.m) } ((f.l.getD k.toNat default).l.getD n.toNat default).s<(d.l.length:Int))) (brK ((d.l.getD (D7 { s:=d.s,l:=ofR Fea.fv d.l.length (A7 Fea.fv d.l),m:=ofR Dim.fv d.m.length (A7 Dim.fv d.m) } ((f.l.getD k.toNat default).l.getD n.toNat default).s).toNat default).k==0) (some (.ret,[.i (3),.o (C9 d)])) (some (.normal,[.i (i),.n (f.l.length),.fr (A7 Frm.fv f.l),.i (k),.i (W (n+1)),.o (C9 d)]))) none) (some (.normal,[.i (i),.n (f.l.length),.fr (A7 Frm.fv f.l),.i (k),.i (W (n+1)),.o (C9 d)])))) none) none) none) none) (some (.exit 4,[.i (i),.n (f.l.length),.fr (A7 Frm.fv f.l),.i (k),.o (C9 d)]))) none:=by kernel_rfl
def B6i(x:Drw×Nat×Nat)(n:Nat):List Lf:=[.i x.2.1,.n (D8 x.1 x.2.1).l.length,.fr (A7 Frm.fv (D8 x.1 x.2.1).l),.i x.2.2,.i n,.o (C9 x.1)]
def D8m:List Lf->Nat->List Lf
 | [.i i,_,_,.i k,_,.o o],n=>[.i (gDt (I6 o) (V4 (F4 (D8 (I6 o) i.toNat) k.toNat) n)),.o o]
 | _,_=>[]
def D9b:List Lf->List Lf
 | [i,a,b,k,_,o]=>[i,a,b,k,o]
 | _=>[]
def B6q(x:Drw×Nat×Nat):Nat:=(F4 (D8 x.1 x.2.1) x.2.2).l.length
def C7c(x:Drw×Nat×Nat)(n:Nat):Bool:=decide (gDt x.1 (V4 (F4 (D8 x.1 x.2.1) x.2.2) n)=0)
def D1z(x:Drw×Nat×Nat):Prop:=OkD x.1/\x.2.1<x.1.l.length/\x.2.2<(D8 x.1 x.2.1).l.length
def A6h:List Lf->Drw×Nat×Nat
 | [.i i,_,_,.i k,_,.o o]=>(I6 o,i.toNat,k.toNat)
 | _=>default
theorem F8l(x:Drw×Nat×Nat)(hx:D1z x)(n:Nat)(hn:n<=B6q x):E8 prog (D5 prog pIx 60) (pIx.blk 49) C5j (sp49d.rho (B6i x n)) (sp49d.heap (B6i x n)) (H9 C8h 9 [])=some (if n<B6q x then(bif C7c x n then(.normal,B6i x (n+1)) else(.ret,D8m (B6i x 0) n)) else(.exit 4,D9b (B6i x 0))):=by
 obtain⟨d,i,k⟩:=x
 obtain⟨h1,hi,hk⟩:=hx
 simp only[B6i,D9b]
 rw[F0o,I5 hn (h1.dt i k hi hk)]
 simp only[tN,G1u,F5k,A3r,D8]
 by_cases h:n<B6q (d,i,k)
 ·rw[if_pos h]
  simp only[B6q,F4,D8] at h hi hk
  refine A8 (dT (by omega)) ?_
  refine A8 (dT (by omega)) ?_
  refine A8 (dT (by omega)) ?_
  refine A8 (dT (by omega)) ?_
  refine A8 rfl ?_
  refine A8 (dT h1.len) ?_
  obtain⟨y,hy⟩:∃ y,y=((d.l.getD i default).l.getD k default).l.getD n default:=⟨_,rfl⟩
  have hp0:C7c (d,i,k) n=decide (gDt d y=0):=by rw[hy]; rfl
  rw[hp0]
  simp only[D8m,D9,tN,V4,F4,D8]
  rw[<- hy]
  have hb:=X0 d y.s
  by_cases a0:D7 d y.s<0
  ·have hg:gDt d y=6:=by unfold gDt; rw[if_pos a0]
   rw[hg]
   refine A8 (dT a0) ?_
   rfl
  ·refine C8 (dF a0) ?_
   by_cases m0:y.m=0
   ·have hg:gDt d y=0:=by unfold gDt; rw[if_neg a0,if_neg (fun h=>h.1 m0)]
    rw[hg]
    refine C8 (by simpa using m0) ?_
    rfl
   ·refine A8 (by simpa using m0) ?_
    refine A8 (dT (by omega)) ?_
    by_cases k0:(d.l.getD (D7 d y.s).toNat default).k=0
    ·have hg:gDt d y=3:=by unfold gDt; rw[if_neg a0,if_pos ⟨m0,k0⟩]
     rw[hg]
     refine A8 (by simpa using k0) ?_
     rfl
    ·have hg:gDt d y=0:=by unfold gDt; rw[if_neg a0,if_neg (fun h=>k0 h.2)]
     rw[hg]
     refine C8 (by simpa using k0) ?_
     rfl
 ·rw[if_neg h]
  simp only[B6q,F4,D8] at h hi hk
  refine A8 (dT (by omega)) ?_
  refine C8 (dF (by omega)) ?_
  rfl
def G0c:Blk:=hookP sp49d 9 [] (fdT C8h 4 .ret (.exit 4) A6h B6i D8m D9b B6q C7c D1z)
theorem E7c{A:Amb}{q:Prims}(h0:PrimOK prog A pIx)(hq:PrimOK prog A q):PrimOK prog A (q.addb 49 4 G0c) :=
 SEB.findR (id:=4) (ds:=[]) (dec:=A6h) (sp:=sp49d) (sq:=C8h) (m:=9) (eb:=.ret) (ee:=.exit 4) (L:=B6i) (Lb:=D8m) (Le:=D9b) (N:=B6q) (p:=C7c) (Inv:=D1z) (k:=60) F7 F9 h0 hq func49 (show f49.body=some (f49.body.getD .skip) by kernel_rfl) (body:=C5j) (by kernel_rfl)
  rfl rfl rfl rfl (by simp) (by simp) (fun _ _=>⟨⟨.inr rfl,.inr rfl,.inr rfl,.inr rfl,.inr rfl,.inr rfl,.inr rfl,.inr rfl,.inr rfl,trivial⟩,⟨.inr rfl,.inr rfl,.inr rfl,.inr rfl,.inr rfl,.inr rfl,.inr rfl,.inr rfl,.inr rfl,trivial⟩⟩) F8l
theorem C2b(d:Drw)(i k:Nat)(a b c e f g h l m n p q:Lf):A6f [a,b,c,Lf.i (i:Int),e,f,g,Lf.i (k:Int),h,l,m,n,Lf.o (C9 d),p,q]=(d,i,k):=by simp[A6f,D9]
theorem C2d(d:Drw)(i k:Nat)(a b c:Lf):A6h [Lf.i (i:Int),a,b,Lf.i (k:Int),c,Lf.o (C9 d)]=(d,i,k):=by simp[A6h,D9]
theorem G2r(d:Drw)(i k:Nat):fdE C6z B6n (d,i,k)=decide (gFr d (F4 (D8 d i) k)=0):=Z8 (fun n=>gDt d (V4 (F4 (D8 d i) k) n)) fun _ _=>rfl
theorem G2t(d:Drw)(i k:Nat):fdE C7c B6q (d,i,k)=decide (gFr d (F4 (D8 d i) k)=0):=Z8 (fun n=>gDt d (V4 (F4 (D8 d i) k) n)) fun _ _=>rfl
theorem F7t{d:Drw}{i k:Nat}(h:gFr d (F4 (D8 d i) k)≠0):gDt d (V4 (F4 (D8 d i) k) (G5 (C6z (d,i,k)) (B6n (d,i,k)) 0))=gFr d (F4 (D8 d i) k):=(X8 (p:=C6z (d,i,k)) (g:=fun n=>gDt d (V4 (F4 (D8 d i) k) n)) (fun _ _=>rfl) h).2
theorem F7v{d:Drw}{i k:Nat}(h:gFr d (F4 (D8 d i) k)≠0):gDt d (V4 (F4 (D8 d i) k) (G5 (C7c (d,i,k)) (B6q (d,i,k)) 0))=gFr d (F4 (D8 d i) k):=(X8 (p:=C7c (d,i,k)) (g:=fun n=>gDt d (V4 (F4 (D8 d i) k) n)) (fun _ _=>rfl) h).2
def pFt1:Prims:=(pIx.addb 44 6 F9z).addb 49 4 G0c
def C5f:Code:=I7 (J6 4 (f44.body.getD .skip))
def sp44c:SP:=⟨dr 1++[.is (.ptr (some (8,0)))]++dr 44++[.flist 9]++[.int .i64]++[.int .i64]++dr 4++[.flist 5]++[.int .i64]++[.int .i64]++dr 31,dd8++[.any,.any]⟩
def C8d:AEx->SP
 | .ret=>⟨dr 2++[.int .i64]++dr 84,dd8++[.any,.any]⟩
 | .exit 4=>⟨dr 1++[.is (.ptr (some (8,0)))]++dr 44++[.flist 9]++[.int .i64]++[.int .i64]++dr 38,dd8++[.any,.any]⟩
 | _=>sp44c
theorem F0k(d:Drw)(f:Fea)(i k:Int):E8 prog (D5 prog pFt1 60) (pFt1.blk 44) C5f (sp44c.rho [.n d.l.length,.fr (A7 Fea.fv d.l),.i d.l.length,.i i,.n f.l.length,.fr (A7 Frm.fv f.l),.i f.l.length,.i k,.o (C9 d),.o (F5 f)]) (sp44c.heap [.n d.l.length,.fr (A7 Fea.fv d.l),.i d.l.length,.i i,.n f.l.length,.fr (A7 Frm.fv f.l),.i f.l.length,.i k,.o (C9 d),.o (F5 f)]) (H9 C8d 10 []) =
  brK (decide (k<(f.l.length:Int))) (brK (decide (0<=k/\k<(f.l.length:Int))) (brK (fdC B6g A6f D1x [.n (d.l.length),.fr (A7 Fea.fv d.l),.i ((d.l.length:Int)),.i (i),.n (f.l.length),.fr (A7 Frm.fv f.l),.i ((f.l.length:Int)),.i (k),.n ((f.l.getD k.toNat default).l.length),.fr (A7 Dat.fv (f.l.getD k.toNat default).l),.i (((f.l.getD k.toNat default).l.length:Int)),.i (0),.o (C9 d),.o (F5 (f)),.o (Q8 ((f.l.getD k.toNat default)))]) (brK (fdE C6z B6n (A6f [.n (d.l.length),.fr (A7 Fea.fv d.l),.i ((d.l.length:Int)),.i (i),.n (f.l.length),.fr (A7 Frm.fv f.l),.i ((f.l.length:Int)),.i (k),.n ((f.l.getD k.toNat default).l.length),.fr (A7 Dat.fv (f.l.getD k.toNat default).l),.i (((f.l.getD k.toNat default).l.length:Int)),.i (0),.o (C9 d),.o (F5 (f)),.o (Q8 ((f.l.getD k.toNat default)))])) (some (.normal,[.n (d.l.length),.fr (A7 Fea.fv d.l),.i ((d.l.length:Int)),.i (i),.n (f.l.length),.fr (A7 Frm.fv f.l),.i ((f.l.length:Int)),.i (W (k+1)),.o (C9 d),.o (F5 (f))])) (some (.ret,[.i (gDt (I6 (C9 d)) (V4 (F4 (D8 (I6 (C9 d)) i.toNat) k.toNat) (G5 (C6z (A6f [.n (d.l.length),.fr (A7 Fea.fv d.l),.i ((d.l.length:Int)),.i (i),.n (f.l.length),.fr (A7 Frm.fv f.l),.i ((f.l.length:Int)),.i (k),.n ((f.l.getD k.toNat default).l.length),.fr (A7 Dat.fv (f.l.getD k.toNat default).l),.i (((f.l.getD k.toNat default).l.length:Int)),.i (0),.o (C9 d),.o (F5 (f)),.o (Q8 ((f.l.getD k.toNat default)))])) (B6n (A6f [.n (d.l.length),.fr (A7 Fea.fv d.l),.i ((d.l.length:Int)),.i (i),.n (f.l.length),.fr (A7 Frm.fv f.l),.i ((f.l.length:Int)),.i (k),.n ((f.l.getD k.toNat default).l.length),.fr (A7 Dat.fv (f.l.getD k.toNat default).l),.i (((f.l.getD k.toNat default).l.length:Int)),.i (0),.o (C9 d),.o (F5 (f)),.o (Q8 ((f.l.getD k.toNat default)))])) 0))),.o (C9 d),.o (F5 (f))]))) none) none) (some (.exit 4,[.n (d.l.length),.fr (A7 Fea.fv d.l),.i ((d.l.length:Int)),.i (i),.o (C9 d),.o (F5 (f))])):=by kernel_rfl
def B6f(x:Drw×Nat)(n:Nat):List Lf:=[.n x.1.l.length,.fr (A7 Fea.fv x.1.l),.i x.1.l.length,.i x.2,.n (D8 x.1 x.2).l.length,.fr (A7 Frm.fv (D8 x.1 x.2).l),.i (D8 x.1 x.2).l.length,.i n,.o (C9 x.1),.o (F5 (D8 x.1 x.2))]
def D8i:List Lf->Nat->List Lf
 | [_,_,_,.i i,_,_,_,_,.o o,p],n=>[.i (gFr (I6 o) (F4 (D8 (I6 o) i.toNat) n)),.o o,p]
 | _,_=>[]
def D8x:List Lf->List Lf
 | [a,b,c,i,_,_,_,_,o,p]=>[a,b,c,i,o,p]
 | _=>[]
def B6m(x:Drw×Nat):Nat:=(D8 x.1 x.2).l.length
def C6y(x:Drw×Nat)(n:Nat):Bool:=decide (gFr x.1 (F4 (D8 x.1 x.2) n)=0)
def D1w(x:Drw×Nat):Prop:=OkD x.1/\x.2<x.1.l.length
def A6e:List Lf->Drw×Nat
 | [_,_,_,.i i,_,_,_,_,.o o,_]=>(I6 o,i.toNat)
 | _=>default
theorem F8h(x:Drw×Nat)(hx:D1w x)(n:Nat)(hn:n<=B6m x):E8 prog (D5 prog pFt1 60) (pFt1.blk 44) C5f (sp44c.rho (B6f x n)) (sp44c.heap (B6f x n)) (H9 C8d 10 [])=some (if n<B6m x then(bif C6y x n then(.normal,B6f x (n+1)) else(.ret,D8i (B6f x 0) n)) else(.exit 4,D8x (B6f x 0))):=by
 obtain⟨d,i⟩:=x
 obtain⟨h1,hi⟩:=hx
 simp only[B6f,D8x]
 rw[F0k,I5 hn (h1.fr i hi)]
 simp only[tN,C2b]
 by_cases h:n<B6m (d,i)
 ·rw[if_pos h]
  simp only[B6m] at h
  have hp0:C6y (d,i) n=decide (gFr d (F4 (D8 d i) n)=0):=rfl
  rw[hp0]
  refine A8 (dT (by omega)) ?_
  refine A8 (dT (by omega)) ?_
  refine A8 (J5 (L:=B6g) (dec:=A6f) (Inv:=D1x) (x:=(d,i,n)) (C2b d i n _ _ _ _ _ _ _ _ _ _ _ _) ⟨h1,hi,h⟩) ?_
  rw[G2r]
  by_cases g0:gFr d (F4 (D8 d i) n)=0
  ·rw[dT g0]
   refine A8 rfl ?_
   rfl
  ·rw[dF g0]
   refine C8 rfl ?_
   simp only[D8i,D9,tN]
   rw[F7t g0]
   rfl
 ·rw[if_neg h]
  simp only[B6m] at h
  refine C8 (dF (by omega)) ?_
  rfl
def F9y:Blk:=hookP sp44c 10 [] (fdT C8d 4 .ret (.exit 4) A6e B6f D8i D8x B6m C6y D1w)
theorem E6y{A:Amb}{q:Prims}(h0:PrimOK prog A pFt1)(hq:PrimOK prog A q):PrimOK prog A (q.addb 44 4 F9y) :=
 SEB.findR (id:=4) (ds:=[]) (dec:=A6e) (sp:=sp44c) (sq:=C8d) (m:=10) (eb:=.ret) (ee:=.exit 4) (L:=B6f) (Lb:=D8i) (Le:=D8x) (N:=B6m) (p:=C6y) (Inv:=D1w) (k:=60) F7 F9 h0 hq func44 (show f44.body=some (f44.body.getD .skip) by kernel_rfl) (body:=C5f) (by kernel_rfl)
  rfl rfl rfl rfl (by simp) (by simp) (fun _ _=>⟨⟨.inr rfl,.inr rfl,.inr rfl,.inr rfl,.inr rfl,.inr rfl,.inr rfl,.inr rfl,.inr rfl,.inr rfl,trivial⟩,⟨.inr rfl,.inr rfl,.inr rfl,.inr rfl,.inr rfl,.inr rfl,.inr rfl,.inr rfl,.inr rfl,.inr rfl,trivial⟩⟩) F8h
def C5i:Code:=I7 (J6 2 (f49.body.getD .skip))
def sp49c:SP:=⟨dr 1++[.is (.ptr (some (8,0)))]++dr 1++[.int .i64]++[.flist 5]++[.int .i64]++dr 58,dd8++[.any]⟩
def C8g:AEx->SP
 | .ret=>⟨dr 2++[.int .i64]++dr 61,dd8++[.any]⟩
 | .exit 2=>⟨dr 1++[.is (.ptr (some (8,0)))]++dr 1++[.int .i64]++dr 60,dd8++[.any]⟩
 | _=>sp49c
theorem F0n(d:Drw)(f:Fea)(i k:Int):E8 prog (D5 prog pFt1 60) (pFt1.blk 49) C5i (sp49c.rho [.i i,.n f.l.length,.fr (A7 Frm.fv f.l),.i k,.o (C9 d)]) (sp49c.heap [.i i,.n f.l.length,.fr (A7 Frm.fv f.l),.i k,.o (C9 d)]) (H9 C8g 9 []) =
  brK (decide (k<(f.l.length:Int))) (brK (fdC B6i A6h D1z [.i (i),.n (f.l.length),.fr (A7 Frm.fv f.l),.i (k),.i (0),.o (C9 d)]) (brK (fdE C7c B6q (A6h [.i (i),.n (f.l.length),.fr (A7 Frm.fv f.l),.i (k),.i (0),.o (C9 d)])) (some (.normal,[.i (i),.n (f.l.length),.fr (A7 Frm.fv f.l),.i (W (k+1)),.o (C9 d)])) (some (.ret,[.i (gDt (I6 (C9 d)) (V4 (F4 (D8 (I6 (C9 d)) i.toNat) k.toNat) (G5 (C7c (A6h [.i (i),.n (f.l.length),.fr (A7 Frm.fv f.l),.i (k),.i (0),.o (C9 d)])) (B6q (A6h [.i (i),.n (f.l.length),.fr (A7 Frm.fv f.l),.i (k),.i (0),.o (C9 d)])) 0))),.o (C9 d)]))) none) (some (.exit 2,[.i (i),.o (C9 d)])):=by kernel_rfl
def B6h(x:Drw×Nat)(n:Nat):List Lf:=[.i x.2,.n (D8 x.1 x.2).l.length,.fr (A7 Frm.fv (D8 x.1 x.2).l),.i n,.o (C9 x.1)]
def D8l:List Lf->Nat->List Lf
 | [.i i,_,_,_,.o o],n=>[.i (gFr (I6 o) (F4 (D8 (I6 o) i.toNat) n)),.o o]
 | _,_=>[]
def D9a:List Lf->List Lf
 | [i,_,_,_,o]=>[i,o]
 | _=>[]
def B6p(x:Drw×Nat):Nat:=(D8 x.1 x.2).l.length
def C7b(x:Drw×Nat)(n:Nat):Bool:=decide (gFr x.1 (F4 (D8 x.1 x.2) n)=0)
def D1y(x:Drw×Nat):Prop:=OkD x.1/\x.2<x.1.l.length
def A6g:List Lf->Drw×Nat
 | [.i i,_,_,_,.o o]=>(I6 o,i.toNat)
 | _=>default
theorem F8k(x:Drw×Nat)(hx:D1y x)(n:Nat)(hn:n<=B6p x):E8 prog (D5 prog pFt1 60) (pFt1.blk 49) C5i (sp49c.rho (B6h x n)) (sp49c.heap (B6h x n)) (H9 C8g 9 [])=some (if n<B6p x then(bif C7b x n then(.normal,B6h x (n+1)) else(.ret,D8l (B6h x 0) n)) else(.exit 2,D9a (B6h x 0))):=by
 obtain⟨d,i⟩:=x
 obtain⟨h1,hi⟩:=hx
 simp only[B6h,D9a]
 rw[F0n,I5 hn (h1.fr i hi)]
 simp only[tN,C2d]
 by_cases h:n<B6p (d,i)
 ·rw[if_pos h]
  simp only[B6p] at h
  have hp0:C7b (d,i) n=decide (gFr d (F4 (D8 d i) n)=0):=rfl
  rw[hp0]
  refine A8 (dT (by omega)) ?_
  refine A8 (J5 (L:=B6i) (dec:=A6h) (Inv:=D1z) (x:=(d,i,n)) (C2d d i n _ _ _) ⟨h1,hi,h⟩) ?_
  rw[G2t]
  by_cases g0:gFr d (F4 (D8 d i) n)=0
  ·rw[dT g0]
   refine A8 rfl ?_
   rfl
  ·rw[dF g0]
   refine C8 rfl ?_
   simp only[D8l,D9,tN]
   rw[F7v g0]
   rfl
 ·rw[if_neg h]
  simp only[B6p] at h
  refine C8 (dF (by omega)) ?_
  rfl
def G0b:Blk:=hookP sp49c 9 [] (fdT C8g 2 .ret (.exit 2) A6g B6h D8l D9a B6p C7b D1y)
theorem E7b{A:Amb}{q:Prims}(h0:PrimOK prog A pFt1)(hq:PrimOK prog A q):PrimOK prog A (q.addb 49 2 G0b) :=
 SEB.findR (id:=2) (ds:=[]) (dec:=A6g) (sp:=sp49c) (sq:=C8g) (m:=9) (eb:=.ret) (ee:=.exit 2) (L:=B6h) (Lb:=D8l) (Le:=D9a) (N:=B6p) (p:=C7b) (Inv:=D1y) (k:=60) F7 F9 h0 hq func49 (show f49.body=some (f49.body.getD .skip) by kernel_rfl) (body:=C5i) (by kernel_rfl)
  rfl rfl rfl rfl (by simp) (by simp) (fun _ _=>⟨⟨.inr rfl,.inr rfl,.inr rfl,.inr rfl,.inr rfl,.inr rfl,.inr rfl,.inr rfl,.inr rfl,trivial⟩,⟨.inr rfl,.inr rfl,.inr rfl,.inr rfl,.inr rfl,.inr rfl,.inr rfl,.inr rfl,.inr rfl,trivial⟩⟩) F8k
theorem C2a(d:Drw)(i:Nat)(a b c e f g h q:Lf):A6e [a,b,c,Lf.i (i:Int),e,f,g,h,Lf.o (C9 d),q]=(d,i):=by simp[A6e,D9]
theorem C2c(d:Drw)(i:Nat)(a b c:Lf):A6g [Lf.i (i:Int),a,b,c,Lf.o (C9 d)]=(d,i):=by simp[A6g,D9]
theorem G2q(d:Drw)(i:Nat):fdE C6y B6m (d,i)=decide (gFx d (D8 d i)=0):=Z8 (fun n=>gFr d (F4 (D8 d i) n)) fun _ _=>rfl
theorem G2s(d:Drw)(i:Nat):fdE C7b B6p (d,i)=decide (gFx d (D8 d i)=0):=Z8 (fun n=>gFr d (F4 (D8 d i) n)) fun _ _=>rfl
theorem F7s{d:Drw}{i:Nat}(h:gFx d (D8 d i)≠0):gFr d (F4 (D8 d i) (G5 (C6y (d,i)) (B6m (d,i)) 0))=gFx d (D8 d i):=(X8 (p:=C6y (d,i)) (g:=fun n=>gFr d (F4 (D8 d i) n)) (fun _ _=>rfl) h).2
theorem F7u{d:Drw}{i:Nat}(h:gFx d (D8 d i)≠0):gFr d (F4 (D8 d i) (G5 (C7b (d,i)) (B6p (d,i)) 0))=gFx d (D8 d i):=(X8 (p:=C7b (d,i)) (g:=fun n=>gFr d (F4 (D8 d i) n)) (fun _ _=>rfl) h).2
def pFt2:Prims:=(pFt1.addb 44 4 F9y).addb 49 2 G0b
def C5e:Code:=I7 (J6 2 (f44.body.getD .skip))
def sp44b:SP:=⟨dr 1++[.is (.ptr (some (8,0)))]++dr 44++[.flist 9]++[.int .i64]++[.int .i64]++dr 38,dd8++[.any]⟩
def C8c:AEx->SP
 | .ret=>⟨dr 2++[.int .i64]++dr 84,dd8++[.any]⟩
 | .exit 2=>⟨dr 87,dd8++[.any]⟩
 | _=>sp44b
theorem F0j(d:Drw)(i:Int):E8 prog (D5 prog pFt2 60) (pFt2.blk 44) C5e (sp44b.rho [.n d.l.length,.fr (A7 Fea.fv d.l),.i d.l.length,.i i,.o (C9 d)]) (sp44b.heap [.n d.l.length,.fr (A7 Fea.fv d.l),.i d.l.length,.i i,.o (C9 d)]) (H9 C8c 9 []) =
  brK (decide (i<(d.l.length:Int))) (brK (decide (0<=i/\i<(d.l.length:Int))) (brK (fdC B6f A6e D1w [.n (d.l.length),.fr (A7 Fea.fv d.l),.i ((d.l.length:Int)),.i (i),.n ((d.l.getD i.toNat default).l.length),.fr (A7 Frm.fv (d.l.getD i.toNat default).l),.i (((d.l.getD i.toNat default).l.length:Int)),.i (0),.o (C9 d),.o (F5 ((d.l.getD i.toNat default)))]) (brK (fdE C6y B6m (A6e [.n (d.l.length),.fr (A7 Fea.fv d.l),.i ((d.l.length:Int)),.i (i),.n ((d.l.getD i.toNat default).l.length),.fr (A7 Frm.fv (d.l.getD i.toNat default).l),.i (((d.l.getD i.toNat default).l.length:Int)),.i (0),.o (C9 d),.o (F5 ((d.l.getD i.toNat default)))])) (some (.normal,[.n (d.l.length),.fr (A7 Fea.fv d.l),.i ((d.l.length:Int)),.i (W (i+1)),.o (C9 d)])) (some (.ret,[.i (gFr (I6 (C9 d)) (F4 (D8 (I6 (C9 d)) i.toNat) (G5 (C6y (A6e [.n (d.l.length),.fr (A7 Fea.fv d.l),.i ((d.l.length:Int)),.i (i),.n ((d.l.getD i.toNat default).l.length),.fr (A7 Frm.fv (d.l.getD i.toNat default).l),.i (((d.l.getD i.toNat default).l.length:Int)),.i (0),.o (C9 d),.o (F5 ((d.l.getD i.toNat default)))])) (B6m (A6e [.n (d.l.length),.fr (A7 Fea.fv d.l),.i ((d.l.length:Int)),.i (i),.n ((d.l.getD i.toNat default).l.length),.fr (A7 Frm.fv (d.l.getD i.toNat default).l),.i (((d.l.getD i.toNat default).l.length:Int)),.i (0),.o (C9 d),.o (F5 ((d.l.getD i.toNat default)))])) 0))),.o (C9 d)]))) none) none) (some (.exit 2,[.o (C9 d)])):=by kernel_rfl
def B6e(x:Drw)(n:Nat):List Lf:=[.n x.l.length,.fr (A7 Fea.fv x.l),.i x.l.length,.i n,.o (C9 x)]
def D8h:List Lf->Nat->List Lf
 | [_,_,_,_,.o o],n=>[.i (gFx (I6 o) (D8 (I6 o) n)),.o o]
 | _,_=>[]
def D8w:List Lf->List Lf
 | [_,_,_,_,o]=>[o]
 | _=>[]
def B6l(x:Drw):Nat:=x.l.length
def C6x(x:Drw)(n:Nat):Bool:=decide (gFx x (D8 x n)=0)
def D1v(x:Drw):Prop:=OkD x
def A6d:List Lf->Drw
 | [_,_,_,_,.o o]=>I6 o
 | _=>default
theorem F8g(x:Drw)(hx:D1v x)(n:Nat)(hn:n<=B6l x):E8 prog (D5 prog pFt2 60) (pFt2.blk 44) C5e (sp44b.rho (B6e x n)) (sp44b.heap (B6e x n)) (H9 C8c 9 [])=some (if n<B6l x then(bif C6x x n then(.normal,B6e x (n+1)) else(.ret,D8h (B6e x 0) n)) else(.exit 2,D8w (B6e x 0))):=by
 have h1:OkD x:=hx
 simp only[B6e,D8w]
 rw[F0j,I5 hn h1.len]
 simp only[tN,C2a]
 by_cases h:n<B6l x
 ·rw[if_pos h]
  simp only[B6l] at h
  have hp0:C6x x n=decide (gFx x (D8 x n)=0):=rfl
  rw[hp0]
  refine A8 (dT (by omega)) ?_
  refine A8 (dT (by omega)) ?_
  refine A8 (J5 (L:=B6f) (dec:=A6e) (Inv:=D1w) (x:=(x,n)) (C2a x n _ _ _ _ _ _ _ _) ⟨h1,h⟩) ?_
  rw[G2q]
  by_cases g0:gFx x (D8 x n)=0
  ·rw[dT g0]
   refine A8 rfl ?_
   rfl
  ·rw[dF g0]
   refine C8 rfl ?_
   simp only[D8h,D9]
   rw[F7s g0]
   rfl
 ·rw[if_neg h]
  simp only[B6l] at h
  refine C8 (dF (by omega)) ?_
  rfl
def F9x:Blk:=hookP sp44b 9 [] (fdT C8c 2 .ret (.exit 2) A6d B6e D8h D8w B6l C6x D1v)
theorem E6x{A:Amb}{q:Prims}(h0:PrimOK prog A pFt2)(hq:PrimOK prog A q):PrimOK prog A (q.addb 44 2 F9x) :=
 SEB.findR (id:=2) (ds:=[]) (dec:=A6d) (sp:=sp44b) (sq:=C8c) (m:=9) (eb:=.ret) (ee:=.exit 2) (L:=B6e) (Lb:=D8h) (Le:=D8w) (N:=B6l) (p:=C6x) (Inv:=D1v) (k:=60) F7 F9 h0 hq func44 (show f44.body=some (f44.body.getD .skip) by kernel_rfl) (body:=C5e) (by kernel_rfl)
  rfl rfl rfl rfl (by simp) (by simp) (fun _ _=>⟨⟨.inr rfl,.inr rfl,.inr rfl,.inr rfl,.inr rfl,.inr rfl,.inr rfl,.inr rfl,.inr rfl,trivial⟩,⟨.inr rfl,.inr rfl,.inr rfl,.inr rfl,.inr rfl,.inr rfl,.inr rfl,.inr rfl,.inr rfl,trivial⟩⟩) F8g
def C5h:Code:=I7 (J6 0 (f49.body.getD .skip))
def sp49b:SP:=⟨dr 1++[.is (.ptr (some (8,0)))]++dr 1++[.int .i64]++dr 60,dd8++[.any]⟩
def C8f:AEx->SP
 | .ret=>⟨dr 2++[.int .i64]++dr 61,dd8++[.any]⟩
 | .exit 0=>⟨dr 64,dd8++[.any]⟩
 | _=>sp49b
theorem F0m(d:Drw)(i:Int):E8 prog (D5 prog pFt2 60) (pFt2.blk 49) C5h (sp49b.rho [.i i,.o (C9 d)]) (sp49b.heap [.i i,.o (C9 d)]) (H9 C8f 9 []) =
  brK (decide (i<(d.l.length:Int))) (brK (decide (0<=i/\i<(d.l.length:Int))) (brK (fdC B6h A6g D1y [.i (i),.n ((d.l.getD i.toNat default).l.length),.fr (A7 Frm.fv (d.l.getD i.toNat default).l),.i (0),.o (C9 d)]) (brK (fdE C7b B6p (A6g [.i (i),.n ((d.l.getD i.toNat default).l.length),.fr (A7 Frm.fv (d.l.getD i.toNat default).l),.i (0),.o (C9 d)])) (some (.normal,[.i (W (i+1)),.o (C9 d)])) (some (.ret,[.i (gFr (I6 (C9 d)) (F4 (D8 (I6 (C9 d)) i.toNat) (G5 (C7b (A6g [.i (i),.n ((d.l.getD i.toNat default).l.length),.fr (A7 Frm.fv (d.l.getD i.toNat default).l),.i (0),.o (C9 d)])) (B6p (A6g [.i (i),.n ((d.l.getD i.toNat default).l.length),.fr (A7 Frm.fv (d.l.getD i.toNat default).l),.i (0),.o (C9 d)])) 0))),.o (C9 d)]))) none) none) (some (.exit 0,[.o (C9 d)])):=by kernel_rfl
def B5c(x:Drw)(n:Nat):List Lf:=[.i n,.o (C9 x)]
def D8k:List Lf->Nat->List Lf
 | [_,.o o],n=>[.i (gFx (I6 o) (D8 (I6 o) n)),.o o]
 | _,_=>[]
def D8z:List Lf->List Lf
 | [_,o]=>[o]
 | _=>[]
def B6o(x:Drw):Nat:=x.l.length
def C7a(x:Drw)(n:Nat):Bool:=decide (gFx x (D8 x n)=0)
def C2v(x:Drw):Prop:=OkD x
def A4w:List Lf->Drw
 | [_,.o o]=>I6 o
 | _=>default
theorem F8j(x:Drw)(hx:C2v x)(n:Nat)(hn:n<=B6o x):E8 prog (D5 prog pFt2 60) (pFt2.blk 49) C5h (sp49b.rho (B5c x n)) (sp49b.heap (B5c x n)) (H9 C8f 9 [])=some (if n<B6o x then(bif C7a x n then(.normal,B5c x (n+1)) else(.ret,D8k (B5c x 0) n)) else(.exit 0,D8z (B5c x 0))):=by
 have h1:OkD x:=hx
 simp only[B5c,D8z]
 rw[F0m,I5 hn h1.len]
 simp only[tN,C2c]
 by_cases h:n<B6o x
 ·rw[if_pos h]
  simp only[B6o] at h
  have hp0:C7a x n=decide (gFx x (D8 x n)=0):=rfl
  rw[hp0]
  refine A8 (dT (by omega)) ?_
  refine A8 (dT (by omega)) ?_
  refine A8 (J5 (L:=B6h) (dec:=A6g) (Inv:=D1y) (x:=(x,n)) (C2c x n _ _ _) ⟨h1,h⟩) ?_
  rw[G2s]
  by_cases g0:gFx x (D8 x n)=0
  ·rw[dT g0]
   refine A8 rfl ?_
   rfl
  ·rw[dF g0]
   refine C8 rfl ?_
   simp only[D8k,D9]
   rw[F7u g0]
   rfl
 ·rw[if_neg h]
  simp only[B6o] at h
  refine C8 (dF (by omega)) ?_
  rfl
def G0a:Blk:=hookP sp49b 9 [] (fdT C8f 0 .ret (.exit 0) A4w B5c D8k D8z B6o C7a C2v)
theorem E7a{A:Amb}{q:Prims}(h0:PrimOK prog A pFt2)(hq:PrimOK prog A q):PrimOK prog A (q.addb 49 0 G0a) :=
 SEB.findR (id:=0) (ds:=[]) (dec:=A4w) (sp:=sp49b) (sq:=C8f) (m:=9) (eb:=.ret) (ee:=.exit 0) (L:=B5c) (Lb:=D8k) (Le:=D8z) (N:=B6o) (p:=C7a) (Inv:=C2v) (k:=60) F7 F9 h0 hq func49 (show f49.body=some (f49.body.getD .skip) by kernel_rfl) (body:=C5h) (by kernel_rfl)
  rfl rfl rfl rfl (by simp) (by simp) (fun _ _=>⟨⟨.inr rfl,.inr rfl,.inr rfl,.inr rfl,.inr rfl,.inr rfl,.inr rfl,.inr rfl,.inr rfl,trivial⟩,⟨.inr rfl,.inr rfl,.inr rfl,.inr rfl,.inr rfl,.inr rfl,.inr rfl,.inr rfl,.inr rfl,trivial⟩⟩) F8j
theorem A8v(d:Drw)(a b c e:Lf):A6d [a,b,c,e,Lf.o (C9 d)]=d:=by simp[A6d,D9]
theorem A5h(d:Drw)(a:Lf):A4w [a,Lf.o (C9 d)]=d:=by simp[A4w,D9]
theorem A8u(d:Drw)(a b c e:Lf):A6c [a,b,c,e,Lf.o (C9 d)]=d:=by simp[A6c,D9]
theorem B1x(d:Drw)(a:Lf):B1w [a,Lf.o (C9 d)]=d:=by simp[B1w,D9]
theorem D5z(d:Drw):fdE C6x B6l d=decide (A0y d=0):=Z8 (fun n=>gFx d (D8 d n)) fun _ _=>rfl
theorem D6a(d:Drw):fdE C7a B6o d=decide (A0y d=0):=Z8 (fun n=>gFx d (D8 d n)) fun _ _=>rfl
theorem D5y(d:Drw):fdE A9i B6k d=decide (S9 (gFe d) d.l.length=0):=Z8 (gFe d) fun _ _=>rfl
theorem E5s(d:Drw):fdE p48 N48 d=decide (S9 (gFe d) d.l.length=0):=Z8 (gFe d) fun _ _=>rfl
theorem F7r{d:Drw}(h:A0y d≠0):gFx d (D8 d (G5 (C6x d) (B6l d) 0))=A0y d:=(X8 (p:=C6x d) (g:=fun n=>gFx d (D8 d n)) (fun _ _=>rfl) h).2
theorem E1c{d:Drw}(h:A0y d≠0):gFx d (D8 d (G5 (C7a d) (B6o d) 0))=A0y d:=(X8 (p:=C7a d) (g:=fun n=>gFx d (D8 d n)) (fun _ _=>rfl) h).2
theorem F7q{d:Drw}(h:S9 (gFe d) d.l.length≠0):gFe d (G5 (A9i d) (B6k d) 0)=S9 (gFe d) d.l.length:=(X8 (p:=A9i d) (fun _ _=>rfl) h).2
theorem G4u{d:Drw}(h:S9 (gFe d) d.l.length≠0):gFe d (G5 (p48 d) (N48 d) 0)=S9 (gFe d) d.l.length:=(X8 (p:=p48 d) (fun _ _=>rfl) h).2
def D7j:Prims:=(((pFt2.addb 44 2 F9x).addb 49 0 G0a).addb 44 0 F9w).addb 48 0 G6w
theorem F6g{A:Amb}(hT:Tab A)(hG:gN prog<=A.G):PrimOK prog A D7j:=by
 have h0:=E9h hT hG
 have h1:PrimOK prog A pFt1:=E7c h0 (E6z h0 h0)
 have h2:PrimOK prog A pFt2:=E7b h1 (E6y h1 h1)
 exact F4x h0 (E6w h0 (E7a h2 (E6x h2 h2)))
def A1i(d:Drw):Int:=if A2n d≠0 then A2n d else A0y d
theorem G9n(d:Drw):(D5 prog D7j 60).call 44 [.agg d.av] (Bg 8) F8 =
  brK (decide ((d.l.length:Int)>32)) (some (.int .i64 5)) (brK (fdC B5b A6c D1u [.n (d.l.length),.fr (A7 Fea.fv d.l),.i ((d.l.length:Int)),.i (0),.o (C9 d)]) (brK (fdE A9i B6k (A6c [.n (d.l.length),.fr (A7 Fea.fv d.l),.i ((d.l.length:Int)),.i (0),.o (C9 d)])) (brK (fdC B6e A6d D1v [.n (d.l.length),.fr (A7 Fea.fv d.l),.i ((d.l.length:Int)),.i (0),.o (C9 d)]) (brK (fdE C6x B6l (A6d [.n (d.l.length),.fr (A7 Fea.fv d.l),.i ((d.l.length:Int)),.i (0),.o (C9 d)])) (some (.int .i64 0)) (some (.sint IntKind.i64 (gFx (I6 (C9 d)) (D8 (I6 (C9 d)) (G5 (C6x (A6d [.n (d.l.length),.fr (A7 Fea.fv d.l),.i ((d.l.length:Int)),.i (0),.o (C9 d)])) (B6l (A6d [.n (d.l.length),.fr (A7 Fea.fv d.l),.i ((d.l.length:Int)),.i (0),.o (C9 d)])) 0)))))) none) (some (.sint IntKind.i64 (gFe (I6 (C9 d)) (G5 (A9i (A6c [.n (d.l.length),.fr (A7 Fea.fv d.l),.i ((d.l.length:Int)),.i (0),.o (C9 d)])) (B6k (A6c [.n (d.l.length),.fr (A7 Fea.fv d.l),.i ((d.l.length:Int)),.i (0),.o (C9 d)])) 0))))) none):=by kernel_rfl
theorem H1s(d:Drw)(hk:OkD d):∃ v,(D5 prog D7j 60).call 44 [.agg d.av] (Bg 8) F8=some v/\O9 (A1i d) v:=by
 rw[G9n]
 simp only[A8u,A8v,D5y,D5z,D9]
 by_cases c1:d.l.length>32
 rotate_left
 by_cases c2:S9 (gFe d) d.l.length≠0
 rotate_left
 by_cases c3:A0y d≠0
 rotate_left
 all_goals
  apply exV
  focus
   repeat first
    | exact rfl
    | refine A8 rfl ?_
    | refine C8 rfl ?_
    | refine A8 (by simp only[SBs]; omega) ?_
    | refine C8 (by simp only[SBs]; omega) ?_
    | refine A8 (J5 (L:=B5b) (dec:=A6c) (Inv:=D1u) (x:=d) (A8u d _ _ _ _) ⟨hk,by omega⟩) ?_
    | refine A8 (J5 (L:=B6e) (dec:=A6d) (Inv:=D1v) (x:=d) (A8v d _ _ _ _) hk) ?_
  focus
   first
    | apply viI
    | apply viS
   dsimp only [A1i,A2n]
   repeat first
    | exact rfl
    | omega
    | refine J3 (by omega) ?_
    | refine G6 (by omega) ?_
    | exact(F7q c2).symm
    | exact(F7r c3).symm
theorem G9q(d:Drw):(D5 prog D7j 60).call 48 [.agg d.av] (Bg 8) F8 =
  brK (decide ((d.l.length:Int)>32)) (some (.int .i64 5)) (brK (fdC L48 B1w E7y [.i (0),.o (C9 d)]) (brK (fdE p48 N48 (B1w [.i (0),.o (C9 d)])) (some (.int .i64 0)) (some (.sint IntKind.i64 (gFe (I6 (C9 d)) (G5 (p48 (B1w [.i (0),.o (C9 d)])) (N48 (B1w [.i (0),.o (C9 d)])) 0))))) none):=by kernel_rfl
theorem H1u(d:Drw)(hk:OkD d):∃ v,(D5 prog D7j 60).call 48 [.agg d.av] (Bg 8) F8=some v/\O9 (A2n d) v:=by
 rw[G9q]
 simp only[B1x,E5s,D9]
 by_cases c1:d.l.length>32
 rotate_left
 by_cases c2:S9 (gFe d) d.l.length≠0
 rotate_left
 all_goals
  apply exV
  focus
   repeat first
    | exact rfl
    | refine A8 rfl ?_
    | refine C8 rfl ?_
    | refine A8 (by simp only[SBs]; omega) ?_
    | refine C8 (by simp only[SBs]; omega) ?_
    | refine A8 (J5 (L:=L48) (dec:=B1w) (Inv:=E7y) (x:=d) (B1x d _) ⟨hk,by omega⟩) ?_
  focus
   first
    | apply viI
    | apply viS
   dsimp only [A2n]
   repeat first
    | exact rfl
    | omega
    | refine J3 (by omega) ?_
    | refine G6 (by omega) ?_
    | exact(G4u c2).symm
theorem G9r(d:Drw):(D5 prog D7j 60).call 49 [.agg d.av] (Bg 8) F8 =
  brK (fdC B5c A4w C2v [.i (0),.o (C9 d)]) (brK (fdE C7a B6o (A4w [.i (0),.o (C9 d)])) (some (.int .i64 0)) (some (.sint IntKind.i64 (gFx (I6 (C9 d)) (D8 (I6 (C9 d)) (G5 (C7a (A4w [.i (0),.o (C9 d)])) (B6o (A4w [.i (0),.o (C9 d)])) 0)))))) none:=by kernel_rfl
theorem H1v(d:Drw)(hk:OkD d):∃ v,(D5 prog D7j 60).call 49 [.agg d.av] (Bg 8) F8=some v/\O9 (A0y d) v:=by
 rw[G9r]
 simp only[A5h,D6a,D9]
 by_cases c1:A0y d≠0
 ·apply exV
  focus
   repeat first
    | exact rfl
    | refine A8 rfl ?_
    | refine C8 rfl ?_
    | refine A8 (by simp only[SBs]; omega) ?_
    | refine C8 (by simp only[SBs]; omega) ?_
    | refine A8 (J5 (L:=B5c) (dec:=A4w) (Inv:=C2v) (x:=d) (A5h d _) hk) ?_
  focus
   first
    | apply viI
    | apply viS
   repeat first
    | exact rfl
    | omega
    | refine J3 (by omega) ?_
    | refine G6 (by omega) ?_
    | exact(E1c c1).symm
 apply exV
 focus
  repeat first
   | exact rfl
   | refine A8 rfl ?_
   | refine C8 rfl ?_
   | refine A8 (by simp only[SBs]; omega) ?_
   | refine C8 (by simp only[SBs]; omega) ?_
   | refine A8 (J5 (L:=B5c) (dec:=A4w) (Inv:=C2v) (x:=d) (A5h d _) hk) ?_
 focus
  first
   | apply viI
   | apply viS
  repeat first
   | exact rfl
   | omega
   | refine J3 (by omega) ?_
   | refine G6 (by omega) ?_
   | exact(E1c c1).symm
def VFt(e:Drw->Int)(d:Drw):Tr AV:=.br (E9 (OkD d)) (.leaf (.sint .i64 (e d))) .fail
def pFt:Prims:=((pIx.addt 44 (M8 O5 (VFt A1i))).addt 48 (M8 O5 (VFt A2n))).addt 49 (M8 O5 (VFt A0y))
theorem G3r{A:Amb}(hT:Tab A)(hG:gN prog<=A.G):PrimOK prog A pFt:=by
 have h0:=F6g hT hG
 refine H8 hG h0 (H8 hG h0 (H8 hG h0 (E9h hT hG) O5 (VFt A1i) func44 (by kernel_rfl) fun x v hv=>?_) O5 (VFt A2n) func48 (by kernel_rfl) fun x v hv=>?_) O5 (VFt A0y) func49 (by kernel_rfl) fun x v hv=>?_
 ·obtain⟨hz,hv⟩:=Tr.br1 hv
  cases hv
  obtain⟨v',h1,h2⟩:=H1s x (H6 hz)
  exact⟨v',h1,G9 h2,J9 h2⟩
 ·obtain⟨hz,hv⟩:=Tr.br1 hv
  cases hv
  obtain⟨v',h1,h2⟩:=H1u x (H6 hz)
  exact⟨v',h1,G9 h2,J9 h2⟩
 ·obtain⟨hz,hv⟩:=Tr.br1 hv
  cases hv
  obtain⟨v',h1,h2⟩:=H1v x (H6 hz)
  exact⟨v',h1,G9 h2,J9 h2⟩
end Go.Proofs.Tryz
