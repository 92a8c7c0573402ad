/- Drawings: features and their datums. -/
import Derived.Test.YtoboneiigikidaaGreatDoorFr
noncomputable section
namespace Go.Proofs.Tryz
open Go.Ad
structure OkD (d:Drw):Prop where
 len:d.l.length<2^62
 sz:∀ i,i<d.l.length->szF (D9 d i)=true
 fr:∀ i,i<d.l.length->(D9 d i).l.length<2^62
 dt:∀ i k,i<d.l.length->k<(D9 d i).l.length->(F7 (D9 d i) k).l.length<2^62
 nm:I8 d.s=true
 dim:d.m.length<2^62
 dsz:∀ i,i<d.m.length->I8 (K8 d i).f=true/\I8 (K8 d i).t=true
def leB(a b:List UInt8):Bool:=Op.bytesLess a b||a==b
def gFe(d:Drw)(n:Nat):Int:=if Y2 (D9 d n)≠0 then Y2 (D9 d n) else if n>0/\leB (D9 d n).s (D9 d (n-1)).s=true then 9 else 0
def gDt(d:Drw)(y:Dat):Int:=if E5 d y.s<0 then 6 else if y.m≠0/\(D9 d (E5 d y.s).toNat).k=0 then 3 else 0
def gFr(d:Drw)(x:Frm):Int:=V6 (fun n=>gDt d (X3 x n)) x.l.length
def gFx(d:Drw)(f:Fea):Int:=V6 (fun k=>gFr d (F7 f k)) f.l.length
def A1k(d:Drw):Int:=V6 (fun i=>gFx d (D9 d i)) d.l.length
def A3c(d:Drw):Int:=if d.l.length>32 then 5 else V6 (gFe d) d.l.length
theorem A0h(d:Drw)(s:List UInt8):E5 d s<d.l.length/\-1<=E5 d s:=by
 unfold E5 D6k
 have:=B6a (p:=A6s d s) (N:=d.l.length)
 split<;>omega
theorem G1v(d:Drw):(⟨d.s,ofR Fea.fv d.l.length (A7 Fea.fv d.l),ofR Dim.fv d.m.length (A7 Dim.fv d.m)⟩:Drw)=d:=by rw[I5 Fea.inj,I5 Dim.inj]
theorem F5o(l:List Fea):(ofR Fea.fv l.length (A7 Fea.fv l)).length=l.length:=by rw[I5 Fea.inj]
def C5j:Code:=I7 (J8 0 (f44.body.getD .skip))
def sp44a:SP:=⟨dr 1++[.is (.ptr (some (8,0)))]++dr 16++[.flist 9]++[.int .i64]++[.int .i64]++dr 66,dd8++[.any]⟩
def C8b:AEx->SP
 | .ret=>⟨dr 2++[.int .i64]++dr 84,dd8++[.any]⟩
 | .exit 0=>⟨dr 1++[.is (.ptr (some (8,0)))]++dr 85,dd8++[.any]⟩
 | _=>sp44a
theorem F0l(d:Drw)(n:Int):F3 prog (D6 prog pIx 60) (pIx.blk 44) C5j (sp44a.rho [.n d.l.length,.fr (A7 Fea.fv d.l),.i d.l.length,.i n,.o (A9 d)]) (sp44a.heap [.n d.l.length,.fr (A7 Fea.fv d.l),.i d.l.length,.i n,.o (A9 d)]) (I1 C8b 9 []) =
  brK (decide (n<(d.l.length:Int))) (brK (decide (0<=n/\n<(d.l.length:Int))) (brK (D8 (okR Frm.fv (d.l.getD n.toNat default).l.length (A7 Frm.fv (d.l.getD n.toNat default).l))) (brK (szF { s:=(d.l.getD n.toNat default).s,k:=(d.l.getD n.toNat default).k,a:=(d.l.getD n.toNat default).a,x:=(d.l.getD n.toNat default).x,y:=(d.l.getD n.toNat default).y,z:=(d.l.getD n.toNat default).z,lo:=(d.l.getD n.toNat default).lo,hi:=(d.l.getD n.toNat default).hi,l:=ofR Frm.fv (d.l.getD n.toNat default).l.length (A7 Frm.fv (d.l.getD n.toNat default).l) }) (brK (Y2 { s:=(d.l.getD n.toNat default).s,k:=(d.l.getD n.toNat default).k,a:=(d.l.getD n.toNat default).a,x:=(d.l.getD n.toNat default).x,y:=(d.l.getD n.toNat default).y,z:=(d.l.getD n.toNat default).z,lo:=(d.l.getD n.toNat default).lo,hi:=(d.l.getD n.toNat default).hi,l:=ofR Frm.fv (d.l.getD n.toNat default).l.length (A7 Frm.fv (d.l.getD n.toNat default).l) } != 0) (some (.ret,[.i (Y2 { s:=(d.l.getD n.toNat default).s,k:=(d.l.getD n.toNat default).k,a:=(d.l.getD n.toNat default).a,x:=(d.l.getD n.toNat default).x,y:=(d.l.getD n.toNat default).y,z:=(d.l.getD n.toNat default).z,lo:=(d.l.getD n.toNat default).lo,hi:=(d.l.getD n.toNat default).hi,l:=ofR Frm.fv (d.l.getD n.toNat default).l.length (A7 Frm.fv (d.l.getD n.toNat default).l) }),.o (A9 d)])) (brK (decide (n>0)) (brK (decide (0<=W (n-1)/\W (n-1)<(d.l.length:Int))) (brK (Op.bytesLess (d.l.getD n.toNat default).s (d.l.getD (W (n-1)).toNat default).s||(d.l.getD n.toNat default).s==(d.l.getD (W (n-1)).toNat default).s) (some (.ret,[.i (9),.o (A9 d)])) (some (.normal,[.n (d.l.length),.fr (A7 Fea.fv d.l),.i ((d.l.length:Int)),.i (W (n+1)),.o (A9 d)]))) none) (some (.normal,[.n (d.l.length),.fr (A7 Fea.fv d.l),.i ((d.l.length:Int)),.i (W (n+1)),.o (A9 d)])))) none) none) none) (some (.exit 0,[.o (A9 d)])):=by kernel_rfl
def B5g(x:Drw)(n:Nat):List Lf:=[.n x.l.length,.fr (A7 Fea.fv x.l),.i x.l.length,.i n,.o (A9 x)]
def C8y:List Lf->Nat->List Lf
 | [_,_,_,_,.o o],n=>[.i (gFe (I4 o) n),.o o]
 | _,_=>[]
def D9b:List Lf->List Lf
 | [_,_,_,_,o]=>[o]
 | _=>[]
def B6r(x:Drw):Nat:=x.l.length
def A9s(x:Drw)(n:Nat):Bool:=decide (gFe x n=0)
def D1t(x:Drw):Prop:=OkD x/\x.l.length<=32
def A6j:List Lf->Drw
 | [_,_,_,_,.o o]=>I4 o
 | _=>default
theorem F8j(x:Drw)(hx:D1t x)(n:Nat)(hn:n<=B6r x):F3 prog (D6 prog pIx 60) (pIx.blk 44) C5j (sp44a.rho (B5g x n)) (sp44a.heap (B5g x n)) (I1 C8b 9 [])=some (if n<B6r x then(bif A9s x n then(.normal,B5g x (n+1)) else(.ret,C8y (B5g x 0) n)) else(.exit 0,D9b (B5g x 0))):=by
 obtain⟨h1,hk⟩:=hx
 simp only[B5g,D9b]
 rw[F0l,I6 hn h1.len]
 simp only[tN,B8v,K5]
 by_cases h:n<B6r x
 ·rw[if_pos h]
  simp only[B6r] at h
  have hz:=h1.sz n h
  simp only[D9] at hz
  refine A8 (dT (by omega)) ?_
  refine A8 (dT (by omega)) ?_
  refine A8 rfl ?_
  refine A8 hz ?_
  by_cases he:Y2 (x.l.getD n default)=0
  ·refine C8 (by simpa using he) ?_
   by_cases h0:n=0
   ·subst h0
    have hg:gFe x 0=0:=by unfold gFe; rw[if_neg (by simpa using he),if_neg (by omega)]
    have hp:A9s x 0=true:=by unfold A9s; rw[hg]; rfl
    rw[hp,cond_true]
    refine C8 (dF (by omega)) ?_
    rfl
   ·refine A8 (dT (by omega)) ?_
    have e1:W ((n:Int)-1)=((n-1:Nat):Int):=by have:=h1.len; rw[D4b (by omega) (by omega)]; omega
    rw[e1]
    simp only[tN]
    refine A8 (dT (by omega)) ?_
    cases hl:leB (x.l.getD n default).s (x.l.getD (n-1) default).s with
    | true =>
     have hg:gFe x n=9:=by unfold gFe; rw[if_neg (by simpa using he),if_pos ⟨by omega,hl⟩]
     have hp:A9s x n=false:=by unfold A9s; rw[hg]; rfl
     rw[hp,cond_false]
     simp only[C8y,E8,hg]
     refine A8 hl ?_
     rfl
    | false =>
     have hg:gFe x n=0:=by unfold gFe; rw[if_neg (by simpa using he),if_neg (fun h=>by rw[show leB (D9 x n).s (D9 x (n-1)).s=false from hl] at h; exact absurd h.2 (by simp))]
     have hp:A9s x n=true:=by unfold A9s; rw[hg]; rfl
     rw[hp,cond_true]
     refine C8 hl ?_
     rfl
  ·refine A8 (by simpa using he) ?_
   have hg:gFe x n=Y2 (x.l.getD n default):=by unfold gFe; rw[if_pos he]
   have hp:A9s x n=false:=by unfold A9s; rw[hg]; simpa using he
   rw[hp,cond_false]
   simp only[C8y,E8,hg]
 ·rw[if_neg h]
  simp only[B6r] at h
  refine C8 (dF (by omega)) ?_
  rfl
def F9y:Blk:=hookP sp44a 9 [] (fdT C8b 0 .ret (.exit 0) A6j B5g C8y D9b B6r A9s D1t)
theorem E7b{A:Amb}{q:Prims}(h0:PrimOK prog A pIx)(hq:PrimOK prog A q):PrimOK prog A (q.addb 44 0 F9y) :=
 SEB.findR (id:=0) (ds:=[]) (dec:=A6j) (sp:=sp44a) (sq:=C8b) (m:=9) (eb:=.ret) (ee:=.exit 0) (L:=B5g) (Lb:=C8y) (Le:=D9b) (N:=B6r) (p:=A9s) (Inv:=D1t) (k:=60) F8 G5 h0 hq func44 (show f44.body=some (f44.body.getD .skip) by kernel_rfl) (body:=C5j) (by kernel_rfl)
  rfl rfl rfl rfl (by simp) (by simp) (fun _ _=>⟨⟨.inr rfl,.inr rfl,.inr rfl,.inr rfl,.inr rfl,.inr rfl,.inr rfl,.inr rfl,.inr rfl,trivial⟩,⟨.inr rfl,.inr rfl,.inr rfl,.inr rfl,.inr rfl,.inr rfl,.inr rfl,.inr rfl,.inr rfl,trivial⟩⟩) F8j
def D5d:Code:=I7 (J8 0 (f48.body.getD .skip))
def sp48:SP:=⟨dr 1++[.is (.ptr (some (8,0)))]++dr 1++[.int .i64]++dr 39,dd8++[.any]⟩
def E1n:AEx->SP
 | .ret=>⟨dr 2++[.int .i64]++dr 40,dd8++[.any]⟩
 | .exit 0=>⟨dr 43,dd8++[.any]⟩
 | _=>sp48
theorem F7i(d:Drw)(n:Int):F3 prog (D6 prog pIx 60) (pIx.blk 48) D5d (sp48.rho [.i n,.o (A9 d)]) (sp48.heap [.i n,.o (A9 d)]) (I1 E1n 9 []) =
  brK (decide (n<(d.l.length:Int))) (brK (decide (0<=n/\n<(d.l.length:Int))) (brK (D8 (okR Frm.fv (d.l.getD n.toNat default).l.length (A7 Frm.fv (d.l.getD n.toNat default).l))) (brK (szF { s:=(d.l.getD n.toNat default).s,k:=(d.l.getD n.toNat default).k,a:=(d.l.getD n.toNat default).a,x:=(d.l.getD n.toNat default).x,y:=(d.l.getD n.toNat default).y,z:=(d.l.getD n.toNat default).z,lo:=(d.l.getD n.toNat default).lo,hi:=(d.l.getD n.toNat default).hi,l:=ofR Frm.fv (d.l.getD n.toNat default).l.length (A7 Frm.fv (d.l.getD n.toNat default).l) }) (brK (Y2 { s:=(d.l.getD n.toNat default).s,k:=(d.l.getD n.toNat default).k,a:=(d.l.getD n.toNat default).a,x:=(d.l.getD n.toNat default).x,y:=(d.l.getD n.toNat default).y,z:=(d.l.getD n.toNat default).z,lo:=(d.l.getD n.toNat default).lo,hi:=(d.l.getD n.toNat default).hi,l:=ofR Frm.fv (d.l.getD n.toNat default).l.length (A7 Frm.fv (d.l.getD n.toNat default).l) } != 0) (some (.ret,[.i (Y2 { s:=(d.l.getD n.toNat default).s,k:=(d.l.getD n.toNat default).k,a:=(d.l.getD n.toNat default).a,x:=(d.l.getD n.toNat default).x,y:=(d.l.getD n.toNat default).y,z:=(d.l.getD n.toNat default).z,lo:=(d.l.getD n.toNat default).lo,hi:=(d.l.getD n.toNat default).hi,l:=ofR Frm.fv (d.l.getD n.toNat default).l.length (A7 Frm.fv (d.l.getD n.toNat default).l) }),.o (A9 d)])) (brK (decide (n>0)) (brK (decide (0<=n/\n<(d.l.length:Int))) (brK (decide (0<=W (n-1)/\W (n-1)<(d.l.length:Int))) (brK (Op.bytesLess (d.l.getD n.toNat default).s (d.l.getD (W (n-1)).toNat default).s||(d.l.getD n.toNat default).s==(d.l.getD (W (n-1)).toNat default).s) (some (.ret,[.i (9),.o (A9 d)])) (some (.normal,[.i (W (n+1)),.o (A9 d)]))) none) none) (some (.normal,[.i (W (n+1)),.o (A9 d)])))) none) none) none) (some (.exit 0,[.o (A9 d)])):=by kernel_rfl
def L48(x:Drw)(n:Nat):List Lf:=[.i n,.o (A9 x)]
def E4j:List Lf->Nat->List Lf
 | [_,.o o],n=>[.i (gFe (I4 o) n),.o o]
 | _,_=>[]
def F2t:List Lf->List Lf
 | [_,o]=>[o]
 | _=>[]
def N48(x:Drw):Nat:=x.l.length
def p48(x:Drw)(n:Nat):Bool:=decide (gFe x n=0)
def E7z(x:Drw):Prop:=OkD x/\x.l.length<=32
def B2c:List Lf->Drw
 | [_,.o o]=>I4 o
 | _=>default
theorem G4z(x:Drw)(hx:E7z x)(n:Nat)(hn:n<=N48 x):F3 prog (D6 prog pIx 60) (pIx.blk 48) D5d (sp48.rho (L48 x n)) (sp48.heap (L48 x n)) (I1 E1n 9 [])=some (if n<N48 x then(bif p48 x n then(.normal,L48 x (n+1)) else(.ret,E4j (L48 x 0) n)) else(.exit 0,F2t (L48 x 0))):=by
 obtain⟨h1,hk⟩:=hx
 simp only[L48,F2t]
 rw[F7i,I6 hn h1.len]
 simp only[tN,B8v,K5]
 by_cases h:n<N48 x
 ·rw[if_pos h]
  simp only[N48] at h
  have hz:=h1.sz n h
  simp only[D9] at hz
  refine A8 (dT (by omega)) ?_
  refine A8 (dT (by omega)) ?_
  refine A8 rfl ?_
  refine A8 hz ?_
  by_cases he:Y2 (x.l.getD n default)=0
  ·refine C8 (by simpa using he) ?_
   by_cases h0:n=0
   ·subst h0
    have hg:gFe x 0=0:=by unfold gFe; rw[if_neg (by simpa using he),if_neg (by omega)]
    have hp:p48 x 0=true:=by unfold p48; rw[hg]; rfl
    rw[hp,cond_true]
    refine C8 (dF (by omega)) ?_
    rfl
   ·refine A8 (dT (by omega)) ?_
    have e1:W ((n:Int)-1)=((n-1:Nat):Int):=by have:=h1.len; rw[D4b (by omega) (by omega)]; omega
    rw[e1]
    simp only[tN]
    refine A8 (dT (by omega)) ?_
    refine A8 (dT (by omega)) ?_
    cases hl:leB (x.l.getD n default).s (x.l.getD (n-1) default).s with
    | true =>
     have hg:gFe x n=9:=by unfold gFe; rw[if_neg (by simpa using he),if_pos ⟨by omega,hl⟩]
     have hp:p48 x n=false:=by unfold p48; rw[hg]; rfl
     rw[hp,cond_false]
     simp only[E4j,E8,hg]
     refine A8 hl ?_
     rfl
    | false =>
     have hg:gFe x n=0:=by unfold gFe; rw[if_neg (by simpa using he),if_neg (fun h=>by rw[show leB (D9 x n).s (D9 x (n-1)).s=false from hl] at h; exact absurd h.2 (by simp))]
     have hp:p48 x n=true:=by unfold p48; rw[hg]; rfl
     rw[hp,cond_true]
     refine C8 hl ?_
     rfl
  ·refine A8 (by simpa using he) ?_
   have hg:gFe x n=Y2 (x.l.getD n default):=by unfold gFe; rw[if_pos he]
   have hp:p48 x n=false:=by unfold p48; rw[hg]; simpa using he
   rw[hp,cond_false]
   simp only[E4j,E8,hg]
 ·rw[if_neg h]
  simp only[N48] at h
  refine C8 (dF (by omega)) ?_
  rfl
def G6n:Blk:=hookP sp48 9 [] (fdT E1n 0 .ret (.exit 0) B2c L48 E4j F2t N48 p48 E7z)
theorem F4x{A:Amb}{q:Prims}(h0:PrimOK prog A pIx)(hq:PrimOK prog A q):PrimOK prog A (q.addb 48 0 G6n) :=
 SEB.findR (id:=0) (ds:=[]) (dec:=B2c) (sp:=sp48) (sq:=E1n) (m:=9) (eb:=.ret) (ee:=.exit 0) (L:=L48) (Lb:=E4j) (Le:=F2t) (N:=N48) (p:=p48) (Inv:=E7z) (k:=60) F8 G5 h0 hq func48 (show f48.body=some (f48.body.getD .skip) by kernel_rfl) (body:=D5d) (by kernel_rfl)
  rfl rfl rfl rfl (by simp) (by simp) (fun _ _=>⟨⟨.inr rfl,.inr rfl,.inr rfl,.inr rfl,.inr rfl,.inr rfl,.inr rfl,.inr rfl,.inr rfl,trivial⟩,⟨.inr rfl,.inr rfl,.inr rfl,.inr rfl,.inr rfl,.inr rfl,.inr rfl,.inr rfl,.inr rfl,trivial⟩⟩) G4z
def C5m:Code:=I7 (J8 6 (f44.body.getD .skip))
def sp44d:SP:=⟨dr 1++[.is (.ptr (some (8,0)))]++dr 44++[.flist 9]++[.int .i64]++[.int .i64]++dr 4++[.flist 5]++[.int .i64]++[.int .i64]++dr 4++[.flist 2]++[.int .i64]++[.int .i64]++dr 24,dd8++[.any,.any,.any]⟩
def C8e:AEx->SP
 | .ret=>⟨dr 2++[.int .i64]++dr 84,dd8++[.any,.any,.any]⟩
 | .exit 6=>⟨dr 1++[.is (.ptr (some (8,0)))]++dr 44++[.flist 9]++[.int .i64]++[.int .i64]++dr 4++[.flist 5]++[.int .i64]++[.int .i64]++dr 31,dd8++[.any,.any,.any]⟩
 | _=>sp44d
theorem F0o(d:Drw)(f:Fea)(x:Frm)(i k n:Int):F3 prog (D6 prog pIx 60) (pIx.blk 44) C5m (sp44d.rho [.n d.l.length,.fr (A7 Fea.fv d.l),.i d.l.length,.i i,.n f.l.length,.fr (A7 Frm.fv f.l),.i f.l.length,.i k,.n x.l.length,.fr (A7 Dat.fv x.l),.i x.l.length,.i n,.o (A9 d),.o (C9 f),.o (U5 x)]) (sp44d.heap [.n d.l.length,.fr (A7 Fea.fv d.l),.i d.l.length,.i i,.n f.l.length,.fr (A7 Frm.fv f.l),.i f.l.length,.i k,.n x.l.length,.fr (A7 Dat.fv x.l),.i x.l.length,.i n,.o (A9 d),.o (C9 f),.o (U5 x)]) (I1 C8e 11 []) =
  brK (decide (n<(x.l.length:Int))) (brK (decide (0<=n/\n<(x.l.length:Int))) (brK (D8 (okR Fea.fv d.l.length (A7 Fea.fv d.l))&&D8 (okR Dim.fv d.m.length (A7 Dim.fv d.m))) (brK (decide ((ofR Fea.fv d.l.length (A7 Fea.fv d.l)).length<4611686018427387904)) (brK (decide (E5 { s:=d.s,l:=ofR Fea.fv d.l.length (A7 Fea.fv d.l),m:=ofR Dim.fv d.m.length (A7 Dim.fv d.m) } (x.l.getD n.toNat default).s<0)) (some (.ret,[.i (6),.o (A9 d),.o (C9 (f)),.o (U5 (x))])) (brK ((x.l.getD n.toNat default).m != 0) (brK (decide (0<=E5 { s:=d.s,l:=ofR Fea.fv d.l.length (A7 Fea.fv d.l),m:=ofR Dim.fv d.m.length (A7 Dim.fv d.m) } (x.l.getD n.toNat default).s/\E5 { s:=d.s,l:=ofR Fea.fv d.l.length (A7 Fea.fv d.l),m:=ofR Dim.fv d.m.length (A7 Dim.fv d.m) } (x.l.getD n.toNat default).s<(d.l.length:Int))) (brK ((d.l.getD (E5 { s:=d.s,l:=ofR Fea.fv d.l.length (A7 Fea.fv d.l),m:=ofR Dim.fv d.m.length (A7 Dim.fv d.m) } (x.l.getD n.toNat default).s).toNat default).k==0) (some (.ret,[.i (3),.o (A9 d),.o (C9 (f)),.o (U5 (x))])) (some (.normal,[.n (d.l.length),.fr (A7 Fea.fv d.l),.i ((d.l.length:Int)),.i (i),.n (f.l.length),.fr (A7 Frm.fv f.l),.i ((f.l.length:Int)),.i (k),.n (x.l.length),.fr (A7 Dat.fv x.l),.i ((x.l.length:Int)),.i (W (n+1)),.o (A9 d),.o (C9 (f)),.o (U5 (x))]))) none) (some (.normal,[.n (d.l.length),.fr (A7 Fea.fv d.l),.i ((d.l.length:Int)),.i (i),.n (f.l.length),.fr (A7 Frm.fv f.l),.i ((f.l.length:Int)),.i (k),.n (x.l.length),.fr (A7 Dat.fv x.l),.i ((x.l.length:Int)),.i (W (n+1)),.o (A9 d),.o (C9 (f)),.o (U5 (x))])))) none) none) none) (some (.exit 6,[.n (d.l.length),.fr (A7 Fea.fv d.l),.i ((d.l.length:Int)),.i (i),.n (f.l.length),.fr (A7 Frm.fv f.l),.i ((f.l.length:Int)),.i (k),.o (A9 d),.o (C9 (f)),.o (U5 (x))])):=by kernel_rfl
def B6n(x:Drw×Nat×Nat)(n:Nat):List Lf:=[.n x.1.l.length,.fr (A7 Fea.fv x.1.l),.i x.1.l.length,.i x.2.1,.n (D9 x.1 x.2.1).l.length,.fr (A7 Frm.fv (D9 x.1 x.2.1).l),.i (D9 x.1 x.2.1).l.length,.i x.2.2,.n (F7 (D9 x.1 x.2.1) x.2.2).l.length,.fr (A7 Dat.fv (F7 (D9 x.1 x.2.1) x.2.2).l),.i (F7 (D9 x.1 x.2.1) x.2.2).l.length,.i n,.o (A9 x.1),.o (C9 (D9 x.1 x.2.1)),.o (U5 (F7 (D9 x.1 x.2.1) x.2.2))]
def D8p:List Lf->Nat->List Lf
 | [_,_,_,.i i,_,_,_,.i k,_,_,_,_,.o o,p,q],n=>[.i (gDt (I4 o) (X3 (F7 (D9 (I4 o) i.toNat) k.toNat) n)),.o o,p,q]
 | _,_=>[]
def D9e:List Lf->List Lf
 | [a,b,c,i,e,f,g,k,_,_,_,_,o,p,q]=>[a,b,c,i,e,f,g,k,o,p,q]
 | _=>[]
def B6u(x:Drw×Nat×Nat):Nat:=(F7 (D9 x.1 x.2.1) x.2.2).l.length
def C7c(x:Drw×Nat×Nat)(n:Nat):Bool:=decide (gDt x.1 (X3 (F7 (D9 x.1 x.2.1) x.2.2) n)=0)
def D1w(x:Drw×Nat×Nat):Prop:=OkD x.1/\x.2.1<x.1.l.length/\x.2.2<(D9 x.1 x.2.1).l.length
def A6m:List Lf->Drw×Nat×Nat
 | [_,_,_,.i i,_,_,_,.i k,_,_,_,_,.o o,_,_]=>(I4 o,i.toNat,k.toNat)
 | _=>default
theorem F8m(x:Drw×Nat×Nat)(hx:D1w x)(n:Nat)(hn:n<=B6u x):F3 prog (D6 prog pIx 60) (pIx.blk 44) C5m (sp44d.rho (B6n x n)) (sp44d.heap (B6n x n)) (I1 C8e 11 [])=some (if n<B6u x then(bif C7c x n then(.normal,B6n x (n+1)) else(.ret,D8p (B6n x 0) n)) else(.exit 6,D9e (B6n x 0))):=by
 obtain⟨d,i,k⟩:=x
 obtain⟨h1,hi,hk⟩:=hx
 simp only[B6n,D9e]
 rw[F0o,I6 hn (h1.dt i k hi hk)]
 simp only[tN,G1v,F5o,K5,Bool.and_self,F7,D9]
 by_cases h:n<B6u (d,i,k)
 ·rw[if_pos h]
  simp only[B6u,F7,D9] at h hi hk
  refine A8 (dT (by omega)) ?_
  refine A8 (dT (by omega)) ?_
  refine A8 rfl ?_
  refine A8 (dT h1.len) ?_
  obtain⟨y,hy⟩:∃ y,y=((d.l.getD i default).l.getD k default).l.getD n default:=⟨_,rfl⟩
  have hp0:C7c (d,i,k) n=decide (gDt d y=0):=by rw[hy]; rfl
  rw[hp0]
  simp only[D8p,E8,tN,X3,F7,D9]
  rw[<- hy]
  have hb:=A0h d y.s
  by_cases a0:E5 d y.s<0
  ·have hg:gDt d y=6:=by unfold gDt; rw[if_pos a0]
   rw[hg]
   refine A8 (dT a0) ?_
   rfl
  ·refine C8 (dF a0) ?_
   by_cases m0:y.m=0
   ·have hg:gDt d y=0:=by unfold gDt; rw[if_neg a0,if_neg (fun h=>h.1 m0)]
    rw[hg]
    refine C8 (by simpa using m0) ?_
    rfl
   ·refine A8 (by simpa using m0) ?_
    refine A8 (dT (by omega)) ?_
    by_cases k0:(d.l.getD (E5 d y.s).toNat default).k=0
    ·have hg:gDt d y=3:=by unfold gDt; rw[if_neg a0,if_pos ⟨m0,k0⟩]
     rw[hg]
     refine A8 (by simpa using k0) ?_
     rfl
    ·have hg:gDt d y=0:=by unfold gDt; rw[if_neg a0,if_neg (fun h=>k0 h.2)]
     rw[hg]
     refine C8 (by simpa using k0) ?_
     rfl
 ·rw[if_neg h]
  simp only[B6u,F7,D9] at h hi hk
  refine C8 (dF (by omega)) ?_
  rfl
def G0b:Blk:=hookP sp44d 11 [] (fdT C8e 6 .ret (.exit 6) A6m B6n D8p D9e B6u C7c D1w)
theorem E7e{A:Amb}{q:Prims}(h0:PrimOK prog A pIx)(hq:PrimOK prog A q):PrimOK prog A (q.addb 44 6 G0b) :=
 SEB.findR (id:=6) (ds:=[]) (dec:=A6m) (sp:=sp44d) (sq:=C8e) (m:=11) (eb:=.ret) (ee:=.exit 6) (L:=B6n) (Lb:=D8p) (Le:=D9e) (N:=B6u) (p:=C7c) (Inv:=D1w) (k:=60) F8 G5 h0 hq func44 (show f44.body=some (f44.body.getD .skip) by kernel_rfl) (body:=C5m) (by kernel_rfl)
  rfl rfl rfl rfl (by simp) (by simp) (fun _ _=>⟨⟨.inr rfl,.inr rfl,.inr rfl,.inr rfl,.inr rfl,.inr rfl,.inr rfl,.inr rfl,.inr rfl,.inr rfl,.inr rfl,trivial⟩,⟨.inr rfl,.inr rfl,.inr rfl,.inr rfl,.inr rfl,.inr rfl,.inr rfl,.inr rfl,.inr rfl,.inr rfl,.inr rfl,trivial⟩⟩) F8m
def C5p:Code:=I7 (J8 4 (f49.body.getD .skip))
def sp49d:SP:=⟨dr 1++[.is (.ptr (some (8,0)))]++dr 1++[.int .i64]++[.flist 5]++[.int .i64]++[.int .i64]++dr 57,dd8++[.any]⟩
def C8h:AEx->SP
 | .ret=>⟨dr 2++[.int .i64]++dr 61,dd8++[.any]⟩
 | .exit 4=>⟨dr 1++[.is (.ptr (some (8,0)))]++dr 1++[.int .i64]++[.flist 5]++[.int .i64]++dr 58,dd8++[.any]⟩
 | _=>sp49d
theorem F0r(d:Drw)(f:Fea)(i k n:Int):F3 prog (D6 prog pIx 60) (pIx.blk 49) C5p (sp49d.rho [.i i,.n f.l.length,.fr (A7 Frm.fv f.l),.i k,.i n,.o (A9 d)]) (sp49d.heap [.i i,.n f.l.length,.fr (A7 Frm.fv f.l),.i k,.i n,.o (A9 d)]) (I1 C8h 9 []) =
  brK (decide (0<=k/\k<(f.l.length:Int))) (brK (decide (n<((f.l.getD k.toNat default).l.length:Int))) (brK (decide (0<=k/\k<(f.l.length:Int))) (brK (decide (0<=n/\n<((f.l.getD k.toNat default).l.length:Int))) (brK (D8 (okR Fea.fv d.l.length (A7 Fea.fv d.l))&&D8 (okR Dim.fv d.m.length (A7 Dim.fv d.m))) (brK (decide ((ofR Fea.fv d.l.length (A7 Fea.fv d.l)).length<4611686018427387904)) (brK (decide (E5 { s:=d.s,l:=ofR Fea.fv d.l.length (A7 Fea.fv d.l),m:=ofR Dim.fv d.m.length (A7 Dim.fv d.m) } ((f.l.getD k.toNat default).l.getD n.toNat default).s<0)) (some (.ret,[.i (6),.o (A9 d)])) (brK (((f.l.getD k.toNat default).l.getD n.toNat default).m != 0) (brK (decide (0<=E5 { s:=d.s,l:=ofR Fea.fv d.l.length (A7 Fea.fv d.l),m:=ofR Dim.fv d.m.length (A7 Dim.fv d.m) } ((f.l.getD k.toNat default).l.getD n.toNat default).s/\E5 { s:=d.s,l:=ofR Fea.fv d.l.length (A7 Fea.fv d.l),m:=ofR Dim.fv d.m.length (A7 Dim.fv d.m) } ((f.l.getD k.toNat default).l.getD n.toNat default).s<(d.l.length:Int))) (brK ((d.l.getD (E5 { s:=d.s,l:=ofR Fea.fv d.l.length (A7 Fea.fv d.l),m:=ofR Dim.fv d.m.length (A7 Dim.fv d.m) } ((f.l.getD k.toNat default).l.getD n.toNat default).s).toNat default).k==0) (some (.ret,[.i (3),.o (A9 d)])) (some (.normal,[.i (i),.n (f.l.length),.fr (A7 Frm.fv f.l),.i (k),.i (W (n+1)),.o (A9 d)]))) none) (some (.normal,[.i (i),.n (f.l.length),.fr (A7 Frm.fv f.l),.i (k),.i (W (n+1)),.o (A9 d)])))) none) none) none) none) (some (.exit 4,[.i (i),.n (f.l.length),.fr (A7 Frm.fv f.l),.i (k),.o (A9 d)]))) none:=by kernel_rfl
def B6p(x:Drw×Nat×Nat)(n:Nat):List Lf:=[.i x.2.1,.n (D9 x.1 x.2.1).l.length,.fr (A7 Frm.fv (D9 x.1 x.2.1).l),.i x.2.2,.i n,.o (A9 x.1)]
def D8s:List Lf->Nat->List Lf
 | [.i i,_,_,.i k,_,.o o],n=>[.i (gDt (I4 o) (X3 (F7 (D9 (I4 o) i.toNat) k.toNat) n)),.o o]
 | _,_=>[]
def D9h:List Lf->List Lf
 | [i,a,b,k,_,o]=>[i,a,b,k,o]
 | _=>[]
def B6x(x:Drw×Nat×Nat):Nat:=(F7 (D9 x.1 x.2.1) x.2.2).l.length
def C7f(x:Drw×Nat×Nat)(n:Nat):Bool:=decide (gDt x.1 (X3 (F7 (D9 x.1 x.2.1) x.2.2) n)=0)
def D1y(x:Drw×Nat×Nat):Prop:=OkD x.1/\x.2.1<x.1.l.length/\x.2.2<(D9 x.1 x.2.1).l.length
def A6o:List Lf->Drw×Nat×Nat
 | [.i i,_,_,.i k,_,.o o]=>(I4 o,i.toNat,k.toNat)
 | _=>default
theorem F8p(x:Drw×Nat×Nat)(hx:D1y x)(n:Nat)(hn:n<=B6x x):F3 prog (D6 prog pIx 60) (pIx.blk 49) C5p (sp49d.rho (B6p x n)) (sp49d.heap (B6p x n)) (I1 C8h 9 [])=some (if n<B6x x then(bif C7f x n then(.normal,B6p x (n+1)) else(.ret,D8s (B6p x 0) n)) else(.exit 4,D9h (B6p x 0))):=by
 obtain⟨d,i,k⟩:=x
 obtain⟨h1,hi,hk⟩:=hx
 simp only[B6p,D9h]
 rw[F0r,I6 hn (h1.dt i k hi hk)]
 simp only[tN,G1v,F5o,K5,Bool.and_self,D9]
 by_cases h:n<B6x (d,i,k)
 ·rw[if_pos h]
  simp only[B6x,F7,D9] at h hi hk
  refine A8 (dT (by omega)) ?_
  refine A8 (dT (by omega)) ?_
  refine A8 (dT (by omega)) ?_
  refine A8 (dT (by omega)) ?_
  refine A8 rfl ?_
  refine A8 (dT h1.len) ?_
  obtain⟨y,hy⟩:∃ y,y=((d.l.getD i default).l.getD k default).l.getD n default:=⟨_,rfl⟩
  have hp0:C7f (d,i,k) n=decide (gDt d y=0):=by rw[hy]; rfl
  rw[hp0]
  simp only[D8s,E8,tN,X3,F7,D9]
  rw[<- hy]
  have hb:=A0h d y.s
  by_cases a0:E5 d y.s<0
  ·have hg:gDt d y=6:=by unfold gDt; rw[if_pos a0]
   rw[hg]
   refine A8 (dT a0) ?_
   rfl
  ·refine C8 (dF a0) ?_
   by_cases m0:y.m=0
   ·have hg:gDt d y=0:=by unfold gDt; rw[if_neg a0,if_neg (fun h=>h.1 m0)]
    rw[hg]
    refine C8 (by simpa using m0) ?_
    rfl
   ·refine A8 (by simpa using m0) ?_
    refine A8 (dT (by omega)) ?_
    by_cases k0:(d.l.getD (E5 d y.s).toNat default).k=0
    ·have hg:gDt d y=3:=by unfold gDt; rw[if_neg a0,if_pos ⟨m0,k0⟩]
     rw[hg]
     refine A8 (by simpa using k0) ?_
     rfl
    ·have hg:gDt d y=0:=by unfold gDt; rw[if_neg a0,if_neg (fun h=>k0 h.2)]
     rw[hg]
     refine C8 (by simpa using k0) ?_
     rfl
 ·rw[if_neg h]
  simp only[B6x,F7,D9] at h hi hk
  refine A8 (dT (by omega)) ?_
  refine C8 (dF (by omega)) ?_
  rfl
def G0e:Blk:=hookP sp49d 9 [] (fdT C8h 4 .ret (.exit 4) A6o B6p D8s D9h B6x C7f D1y)
theorem E7h{A:Amb}{q:Prims}(h0:PrimOK prog A pIx)(hq:PrimOK prog A q):PrimOK prog A (q.addb 49 4 G0e) :=
 SEB.findR (id:=4) (ds:=[]) (dec:=A6o) (sp:=sp49d) (sq:=C8h) (m:=9) (eb:=.ret) (ee:=.exit 4) (L:=B6p) (Lb:=D8s) (Le:=D9h) (N:=B6x) (p:=C7f) (Inv:=D1y) (k:=60) F8 G5 h0 hq func49 (show f49.body=some (f49.body.getD .skip) by kernel_rfl) (body:=C5p) (by kernel_rfl)
  rfl rfl rfl rfl (by simp) (by simp) (fun _ _=>⟨⟨.inr rfl,.inr rfl,.inr rfl,.inr rfl,.inr rfl,.inr rfl,.inr rfl,.inr rfl,.inr rfl,trivial⟩,⟨.inr rfl,.inr rfl,.inr rfl,.inr rfl,.inr rfl,.inr rfl,.inr rfl,.inr rfl,.inr rfl,trivial⟩⟩) F8p
theorem C2m(d:Drw)(i k:Nat)(a b c e f g h l m n p q:Lf):A6m [a,b,c,Lf.i (i:Int),e,f,g,Lf.i (k:Int),h,l,m,n,Lf.o (A9 d),p,q]=(d,i,k):=by simp[A6m,E8]
theorem C2o(d:Drw)(i k:Nat)(a b c:Lf):A6o [Lf.i (i:Int),a,b,Lf.i (k:Int),c,Lf.o (A9 d)]=(d,i,k):=by simp[A6o,E8]
theorem G2p(d:Drw)(i k:Nat):fdE C7c B6u (d,i,k)=decide (gFr d (F7 (D9 d i) k)=0):=A0g (fun n=>gDt d (X3 (F7 (D9 d i) k) n)) fun _ _=>rfl
theorem G2r(d:Drw)(i k:Nat):fdE C7f B6x (d,i,k)=decide (gFr d (F7 (D9 d i) k)=0):=A0g (fun n=>gDt d (X3 (F7 (D9 d i) k) n)) fun _ _=>rfl
theorem F7x{d:Drw}{i k:Nat}(h:gFr d (F7 (D9 d i) k)≠0):gDt d (X3 (F7 (D9 d i) k) (G9 (C7c (d,i,k)) (B6u (d,i,k)) 0))=gFr d (F7 (D9 d i) k):=(Y8 (p:=C7c (d,i,k)) (g:=fun n=>gDt d (X3 (F7 (D9 d i) k) n)) (fun _ _=>rfl) h).2
theorem F7z{d:Drw}{i k:Nat}(h:gFr d (F7 (D9 d i) k)≠0):gDt d (X3 (F7 (D9 d i) k) (G9 (C7f (d,i,k)) (B6x (d,i,k)) 0))=gFr d (F7 (D9 d i) k):=(Y8 (p:=C7f (d,i,k)) (g:=fun n=>gDt d (X3 (F7 (D9 d i) k) n)) (fun _ _=>rfl) h).2
def pFt1:Prims:=(pIx.addb 44 6 G0b).addb 49 4 G0e
def C5l:Code:=I7 (J8 4 (f44.body.getD .skip))
def sp44c:SP:=⟨dr 1++[.is (.ptr (some (8,0)))]++dr 44++[.flist 9]++[.int .i64]++[.int .i64]++dr 4++[.flist 5]++[.int .i64]++[.int .i64]++dr 31,dd8++[.any,.any]⟩
def C8d:AEx->SP
 | .ret=>⟨dr 2++[.int .i64]++dr 84,dd8++[.any,.any]⟩
 | .exit 4=>⟨dr 1++[.is (.ptr (some (8,0)))]++dr 44++[.flist 9]++[.int .i64]++[.int .i64]++dr 38,dd8++[.any,.any]⟩
 | _=>sp44c
theorem F0n(d:Drw)(f:Fea)(i k:Int):F3 prog (D6 prog pFt1 60) (pFt1.blk 44) C5l (sp44c.rho [.n d.l.length,.fr (A7 Fea.fv d.l),.i d.l.length,.i i,.n f.l.length,.fr (A7 Frm.fv f.l),.i f.l.length,.i k,.o (A9 d),.o (C9 f)]) (sp44c.heap [.n d.l.length,.fr (A7 Fea.fv d.l),.i d.l.length,.i i,.n f.l.length,.fr (A7 Frm.fv f.l),.i f.l.length,.i k,.o (A9 d),.o (C9 f)]) (I1 C8d 10 []) =
  brK (decide (k<(f.l.length:Int))) (brK (decide (0<=k/\k<(f.l.length:Int))) (brK (fdC B6n A6m D1w [.n (d.l.length),.fr (A7 Fea.fv d.l),.i ((d.l.length:Int)),.i (i),.n (f.l.length),.fr (A7 Frm.fv f.l),.i ((f.l.length:Int)),.i (k),.n ((f.l.getD k.toNat default).l.length),.fr (A7 Dat.fv (f.l.getD k.toNat default).l),.i (((f.l.getD k.toNat default).l.length:Int)),.i (0),.o (A9 d),.o (C9 (f)),.o (U5 ((f.l.getD k.toNat default)))]) (brK (fdE C7c B6u (A6m [.n (d.l.length),.fr (A7 Fea.fv d.l),.i ((d.l.length:Int)),.i (i),.n (f.l.length),.fr (A7 Frm.fv f.l),.i ((f.l.length:Int)),.i (k),.n ((f.l.getD k.toNat default).l.length),.fr (A7 Dat.fv (f.l.getD k.toNat default).l),.i (((f.l.getD k.toNat default).l.length:Int)),.i (0),.o (A9 d),.o (C9 (f)),.o (U5 ((f.l.getD k.toNat default)))])) (some (.normal,[.n (d.l.length),.fr (A7 Fea.fv d.l),.i ((d.l.length:Int)),.i (i),.n (f.l.length),.fr (A7 Frm.fv f.l),.i ((f.l.length:Int)),.i (W (k+1)),.o (A9 d),.o (C9 (f))])) (some (.ret,[.i (gDt (I4 (A9 d)) (X3 (F7 (D9 (I4 (A9 d)) i.toNat) k.toNat) (G9 (C7c (A6m [.n (d.l.length),.fr (A7 Fea.fv d.l),.i ((d.l.length:Int)),.i (i),.n (f.l.length),.fr (A7 Frm.fv f.l),.i ((f.l.length:Int)),.i (k),.n ((f.l.getD k.toNat default).l.length),.fr (A7 Dat.fv (f.l.getD k.toNat default).l),.i (((f.l.getD k.toNat default).l.length:Int)),.i (0),.o (A9 d),.o (C9 (f)),.o (U5 ((f.l.getD k.toNat default)))])) (B6u (A6m [.n (d.l.length),.fr (A7 Fea.fv d.l),.i ((d.l.length:Int)),.i (i),.n (f.l.length),.fr (A7 Frm.fv f.l),.i ((f.l.length:Int)),.i (k),.n ((f.l.getD k.toNat default).l.length),.fr (A7 Dat.fv (f.l.getD k.toNat default).l),.i (((f.l.getD k.toNat default).l.length:Int)),.i (0),.o (A9 d),.o (C9 (f)),.o (U5 ((f.l.getD k.toNat default)))])) 0))),.o (A9 d),.o (C9 (f))]))) none) none) (some (.exit 4,[.n (d.l.length),.fr (A7 Fea.fv d.l),.i ((d.l.length:Int)),.i (i),.o (A9 d),.o (C9 (f))])):=by kernel_rfl
def B6m(x:Drw×Nat)(n:Nat):List Lf:=[.n x.1.l.length,.fr (A7 Fea.fv x.1.l),.i x.1.l.length,.i x.2,.n (D9 x.1 x.2).l.length,.fr (A7 Frm.fv (D9 x.1 x.2).l),.i (D9 x.1 x.2).l.length,.i n,.o (A9 x.1),.o (C9 (D9 x.1 x.2))]
def D8o:List Lf->Nat->List Lf
 | [_,_,_,.i i,_,_,_,_,.o o,p],n=>[.i (gFr (I4 o) (F7 (D9 (I4 o) i.toNat) n)),.o o,p]
 | _,_=>[]
def D9d:List Lf->List Lf
 | [a,b,c,i,_,_,_,_,o,p]=>[a,b,c,i,o,p]
 | _=>[]
def B6t(x:Drw×Nat):Nat:=(D9 x.1 x.2).l.length
def C7b(x:Drw×Nat)(n:Nat):Bool:=decide (gFr x.1 (F7 (D9 x.1 x.2) n)=0)
def D1v(x:Drw×Nat):Prop:=OkD x.1/\x.2<x.1.l.length
def A6l:List Lf->Drw×Nat
 | [_,_,_,.i i,_,_,_,_,.o o,_]=>(I4 o,i.toNat)
 | _=>default
theorem F8l(x:Drw×Nat)(hx:D1v x)(n:Nat)(hn:n<=B6t x):F3 prog (D6 prog pFt1 60) (pFt1.blk 44) C5l (sp44c.rho (B6m x n)) (sp44c.heap (B6m x n)) (I1 C8d 10 [])=some (if n<B6t x then(bif C7b x n then(.normal,B6m x (n+1)) else(.ret,D8o (B6m x 0) n)) else(.exit 4,D9d (B6m x 0))):=by
 obtain⟨d,i⟩:=x
 obtain⟨h1,hi⟩:=hx
 simp only[B6m,D9d]
 rw[F0n,I6 hn (h1.fr i hi)]
 simp only[tN,C2m]
 by_cases h:n<B6t (d,i)
 ·rw[if_pos h]
  simp only[B6t] at h
  have hp0:C7b (d,i) n=decide (gFr d (F7 (D9 d i) n)=0):=rfl
  rw[hp0]
  refine A8 (dT (by omega)) ?_
  refine A8 (dT (by omega)) ?_
  refine A8 (J5 (L:=B6n) (dec:=A6m) (Inv:=D1w) (x:=(d,i,n)) (C2m d i n _ _ _ _ _ _ _ _ _ _ _ _) ⟨h1,hi,h⟩) ?_
  rw[G2p]
  by_cases g0:gFr d (F7 (D9 d i) n)=0
  ·rw[dT g0]
   refine A8 rfl ?_
   rfl
  ·rw[dF g0]
   refine C8 rfl ?_
   simp only[D8o,E8,tN]
   rw[F7x g0]
   rfl
 ·rw[if_neg h]
  simp only[B6t] at h
  refine C8 (dF (by omega)) ?_
  rfl
def G0a:Blk:=hookP sp44c 10 [] (fdT C8d 4 .ret (.exit 4) A6l B6m D8o D9d B6t C7b D1v)
theorem E7d{A:Amb}{q:Prims}(h0:PrimOK prog A pFt1)(hq:PrimOK prog A q):PrimOK prog A (q.addb 44 4 G0a) :=
 SEB.findR (id:=4) (ds:=[]) (dec:=A6l) (sp:=sp44c) (sq:=C8d) (m:=10) (eb:=.ret) (ee:=.exit 4) (L:=B6m) (Lb:=D8o) (Le:=D9d) (N:=B6t) (p:=C7b) (Inv:=D1v) (k:=60) F8 G5 h0 hq func44 (show f44.body=some (f44.body.getD .skip) by kernel_rfl) (body:=C5l) (by kernel_rfl)
  rfl rfl rfl rfl (by simp) (by simp) (fun _ _=>⟨⟨.inr rfl,.inr rfl,.inr rfl,.inr rfl,.inr rfl,.inr rfl,.inr rfl,.inr rfl,.inr rfl,.inr rfl,trivial⟩,⟨.inr rfl,.inr rfl,.inr rfl,.inr rfl,.inr rfl,.inr rfl,.inr rfl,.inr rfl,.inr rfl,.inr rfl,trivial⟩⟩) F8l
def C5o:Code:=I7 (J8 2 (f49.body.getD .skip))
def sp49c:SP:=⟨dr 1++[.is (.ptr (some (8,0)))]++dr 1++[.int .i64]++[.flist 5]++[.int .i64]++dr 58,dd8++[.any]⟩
def C8g:AEx->SP
 | .ret=>⟨dr 2++[.int .i64]++dr 61,dd8++[.any]⟩
 | .exit 2=>⟨dr 1++[.is (.ptr (some (8,0)))]++dr 1++[.int .i64]++dr 60,dd8++[.any]⟩
 | _=>sp49c
theorem F0q(d:Drw)(f:Fea)(i k:Int):F3 prog (D6 prog pFt1 60) (pFt1.blk 49) C5o (sp49c.rho [.i i,.n f.l.length,.fr (A7 Frm.fv f.l),.i k,.o (A9 d)]) (sp49c.heap [.i i,.n f.l.length,.fr (A7 Frm.fv f.l),.i k,.o (A9 d)]) (I1 C8g 9 []) =
  brK (decide (k<(f.l.length:Int))) (brK (fdC B6p A6o D1y [.i (i),.n (f.l.length),.fr (A7 Frm.fv f.l),.i (k),.i (0),.o (A9 d)]) (brK (fdE C7f B6x (A6o [.i (i),.n (f.l.length),.fr (A7 Frm.fv f.l),.i (k),.i (0),.o (A9 d)])) (some (.normal,[.i (i),.n (f.l.length),.fr (A7 Frm.fv f.l),.i (W (k+1)),.o (A9 d)])) (some (.ret,[.i (gDt (I4 (A9 d)) (X3 (F7 (D9 (I4 (A9 d)) i.toNat) k.toNat) (G9 (C7f (A6o [.i (i),.n (f.l.length),.fr (A7 Frm.fv f.l),.i (k),.i (0),.o (A9 d)])) (B6x (A6o [.i (i),.n (f.l.length),.fr (A7 Frm.fv f.l),.i (k),.i (0),.o (A9 d)])) 0))),.o (A9 d)]))) none) (some (.exit 2,[.i (i),.o (A9 d)])):=by kernel_rfl
def B6o(x:Drw×Nat)(n:Nat):List Lf:=[.i x.2,.n (D9 x.1 x.2).l.length,.fr (A7 Frm.fv (D9 x.1 x.2).l),.i n,.o (A9 x.1)]
def D8r:List Lf->Nat->List Lf
 | [.i i,_,_,_,.o o],n=>[.i (gFr (I4 o) (F7 (D9 (I4 o) i.toNat) n)),.o o]
 | _,_=>[]
def D9g:List Lf->List Lf
 | [i,_,_,_,o]=>[i,o]
 | _=>[]
def B6w(x:Drw×Nat):Nat:=(D9 x.1 x.2).l.length
def C7e(x:Drw×Nat)(n:Nat):Bool:=decide (gFr x.1 (F7 (D9 x.1 x.2) n)=0)
def D1x(x:Drw×Nat):Prop:=OkD x.1/\x.2<x.1.l.length
def A6n:List Lf->Drw×Nat
 | [.i i,_,_,_,.o o]=>(I4 o,i.toNat)
 | _=>default
theorem F8o(x:Drw×Nat)(hx:D1x x)(n:Nat)(hn:n<=B6w x):F3 prog (D6 prog pFt1 60) (pFt1.blk 49) C5o (sp49c.rho (B6o x n)) (sp49c.heap (B6o x n)) (I1 C8g 9 [])=some (if n<B6w x then(bif C7e x n then(.normal,B6o x (n+1)) else(.ret,D8r (B6o x 0) n)) else(.exit 2,D9g (B6o x 0))):=by
 obtain⟨d,i⟩:=x
 obtain⟨h1,hi⟩:=hx
 simp only[B6o,D9g]
 rw[F0q,I6 hn (h1.fr i hi)]
 simp only[tN,C2o]
 by_cases h:n<B6w (d,i)
 ·rw[if_pos h]
  simp only[B6w] at h
  have hp0:C7e (d,i) n=decide (gFr d (F7 (D9 d i) n)=0):=rfl
  rw[hp0]
  refine A8 (dT (by omega)) ?_
  refine A8 (J5 (L:=B6p) (dec:=A6o) (Inv:=D1y) (x:=(d,i,n)) (C2o d i n _ _ _) ⟨h1,hi,h⟩) ?_
  rw[G2r]
  by_cases g0:gFr d (F7 (D9 d i) n)=0
  ·rw[dT g0]
   refine A8 rfl ?_
   rfl
  ·rw[dF g0]
   refine C8 rfl ?_
   simp only[D8r,E8,tN]
   rw[F7z g0]
   rfl
 ·rw[if_neg h]
  simp only[B6w] at h
  refine C8 (dF (by omega)) ?_
  rfl
def G0d:Blk:=hookP sp49c 9 [] (fdT C8g 2 .ret (.exit 2) A6n B6o D8r D9g B6w C7e D1x)
theorem E7g{A:Amb}{q:Prims}(h0:PrimOK prog A pFt1)(hq:PrimOK prog A q):PrimOK prog A (q.addb 49 2 G0d) :=
 SEB.findR (id:=2) (ds:=[]) (dec:=A6n) (sp:=sp49c) (sq:=C8g) (m:=9) (eb:=.ret) (ee:=.exit 2) (L:=B6o) (Lb:=D8r) (Le:=D9g) (N:=B6w) (p:=C7e) (Inv:=D1x) (k:=60) F8 G5 h0 hq func49 (show f49.body=some (f49.body.getD .skip) by kernel_rfl) (body:=C5o) (by kernel_rfl)
  rfl rfl rfl rfl (by simp) (by simp) (fun _ _=>⟨⟨.inr rfl,.inr rfl,.inr rfl,.inr rfl,.inr rfl,.inr rfl,.inr rfl,.inr rfl,.inr rfl,trivial⟩,⟨.inr rfl,.inr rfl,.inr rfl,.inr rfl,.inr rfl,.inr rfl,.inr rfl,.inr rfl,.inr rfl,trivial⟩⟩) F8o
theorem C2l(d:Drw)(i:Nat)(a b c e f g h q:Lf):A6l [a,b,c,Lf.i (i:Int),e,f,g,h,Lf.o (A9 d),q]=(d,i):=by simp[A6l,E8]
theorem C2n(d:Drw)(i:Nat)(a b c:Lf):A6n [Lf.i (i:Int),a,b,c,Lf.o (A9 d)]=(d,i):=by simp[A6n,E8]
theorem G2o(d:Drw)(i:Nat):fdE C7b B6t (d,i)=decide (gFx d (D9 d i)=0):=A0g (fun n=>gFr d (F7 (D9 d i) n)) fun _ _=>rfl
theorem G2q(d:Drw)(i:Nat):fdE C7e B6w (d,i)=decide (gFx d (D9 d i)=0):=A0g (fun n=>gFr d (F7 (D9 d i) n)) fun _ _=>rfl
theorem F7w{d:Drw}{i:Nat}(h:gFx d (D9 d i)≠0):gFr d (F7 (D9 d i) (G9 (C7b (d,i)) (B6t (d,i)) 0))=gFx d (D9 d i):=(Y8 (p:=C7b (d,i)) (g:=fun n=>gFr d (F7 (D9 d i) n)) (fun _ _=>rfl) h).2
theorem F7y{d:Drw}{i:Nat}(h:gFx d (D9 d i)≠0):gFr d (F7 (D9 d i) (G9 (C7e (d,i)) (B6w (d,i)) 0))=gFx d (D9 d i):=(Y8 (p:=C7e (d,i)) (g:=fun n=>gFr d (F7 (D9 d i) n)) (fun _ _=>rfl) h).2
def pFt2:Prims:=(pFt1.addb 44 4 G0a).addb 49 2 G0d
def C5k:Code:=I7 (J8 2 (f44.body.getD .skip))
def sp44b:SP:=⟨dr 1++[.is (.ptr (some (8,0)))]++dr 44++[.flist 9]++[.int .i64]++[.int .i64]++dr 38,dd8++[.any]⟩
def C8c:AEx->SP
 | .ret=>⟨dr 2++[.int .i64]++dr 84,dd8++[.any]⟩
 | .exit 2=>⟨dr 87,dd8++[.any]⟩
 | _=>sp44b
theorem F0m(d:Drw)(i:Int):F3 prog (D6 prog pFt2 60) (pFt2.blk 44) C5k (sp44b.rho [.n d.l.length,.fr (A7 Fea.fv d.l),.i d.l.length,.i i,.o (A9 d)]) (sp44b.heap [.n d.l.length,.fr (A7 Fea.fv d.l),.i d.l.length,.i i,.o (A9 d)]) (I1 C8c 9 []) =
  brK (decide (i<(d.l.length:Int))) (brK (decide (0<=i/\i<(d.l.length:Int))) (brK (fdC B6m A6l D1v [.n (d.l.length),.fr (A7 Fea.fv d.l),.i ((d.l.length:Int)),.i (i),.n ((d.l.getD i.toNat default).l.length),.fr (A7 Frm.fv (d.l.getD i.toNat default).l),.i (((d.l.getD i.toNat default).l.length:Int)),.i (0),.o (A9 d),.o (C9 ((d.l.getD i.toNat default)))]) (brK (fdE C7b B6t (A6l [.n (d.l.length),.fr (A7 Fea.fv d.l),.i ((d.l.length:Int)),.i (i),.n ((d.l.getD i.toNat default).l.length),.fr (A7 Frm.fv (d.l.getD i.toNat default).l),.i (((d.l.getD i.toNat default).l.length:Int)),.i (0),.o (A9 d),.o (C9 ((d.l.getD i.toNat default)))])) (some (.normal,[.n (d.l.length),.fr (A7 Fea.fv d.l),.i ((d.l.length:Int)),.i (W (i+1)),.o (A9 d)])) (some (.ret,[.i (gFr (I4 (A9 d)) (F7 (D9 (I4 (A9 d)) i.toNat) (G9 (C7b (A6l [.n (d.l.length),.fr (A7 Fea.fv d.l),.i ((d.l.length:Int)),.i (i),.n ((d.l.getD i.toNat default).l.length),.fr (A7 Frm.fv (d.l.getD i.toNat default).l),.i (((d.l.getD i.toNat default).l.length:Int)),.i (0),.o (A9 d),.o (C9 ((d.l.getD i.toNat default)))])) (B6t (A6l [.n (d.l.length),.fr (A7 Fea.fv d.l),.i ((d.l.length:Int)),.i (i),.n ((d.l.getD i.toNat default).l.length),.fr (A7 Frm.fv (d.l.getD i.toNat default).l),.i (((d.l.getD i.toNat default).l.length:Int)),.i (0),.o (A9 d),.o (C9 ((d.l.getD i.toNat default)))])) 0))),.o (A9 d)]))) none) none) (some (.exit 2,[.o (A9 d)])):=by kernel_rfl
def B6l(x:Drw)(n:Nat):List Lf:=[.n x.l.length,.fr (A7 Fea.fv x.l),.i x.l.length,.i n,.o (A9 x)]
def D8n:List Lf->Nat->List Lf
 | [_,_,_,_,.o o],n=>[.i (gFx (I4 o) (D9 (I4 o) n)),.o o]
 | _,_=>[]
def D9c:List Lf->List Lf
 | [_,_,_,_,o]=>[o]
 | _=>[]
def B6s(x:Drw):Nat:=x.l.length
def C7a(x:Drw)(n:Nat):Bool:=decide (gFx x (D9 x n)=0)
def D1u(x:Drw):Prop:=OkD x
def A6k:List Lf->Drw
 | [_,_,_,_,.o o]=>I4 o
 | _=>default
theorem F8k(x:Drw)(hx:D1u x)(n:Nat)(hn:n<=B6s x):F3 prog (D6 prog pFt2 60) (pFt2.blk 44) C5k (sp44b.rho (B6l x n)) (sp44b.heap (B6l x n)) (I1 C8c 9 [])=some (if n<B6s x then(bif C7a x n then(.normal,B6l x (n+1)) else(.ret,D8n (B6l x 0) n)) else(.exit 2,D9c (B6l x 0))):=by
 have h1:OkD x:=hx
 simp only[B6l,D9c]
 rw[F0m,I6 hn h1.len]
 simp only[tN,C2l]
 by_cases h:n<B6s x
 ·rw[if_pos h]
  simp only[B6s] at h
  have hp0:C7a x n=decide (gFx x (D9 x n)=0):=rfl
  rw[hp0]
  refine A8 (dT (by omega)) ?_
  refine A8 (dT (by omega)) ?_
  refine A8 (J5 (L:=B6m) (dec:=A6l) (Inv:=D1v) (x:=(x,n)) (C2l x n _ _ _ _ _ _ _ _) ⟨h1,h⟩) ?_
  rw[G2o]
  by_cases g0:gFx x (D9 x n)=0
  ·rw[dT g0]
   refine A8 rfl ?_
   rfl
  ·rw[dF g0]
   refine C8 rfl ?_
   simp only[D8n,E8]
   rw[F7w g0]
   rfl
 ·rw[if_neg h]
  simp only[B6s] at h
  refine C8 (dF (by omega)) ?_
  rfl
def F9z:Blk:=hookP sp44b 9 [] (fdT C8c 2 .ret (.exit 2) A6k B6l D8n D9c B6s C7a D1u)
theorem E7c{A:Amb}{q:Prims}(h0:PrimOK prog A pFt2)(hq:PrimOK prog A q):PrimOK prog A (q.addb 44 2 F9z) :=
 SEB.findR (id:=2) (ds:=[]) (dec:=A6k) (sp:=sp44b) (sq:=C8c) (m:=9) (eb:=.ret) (ee:=.exit 2) (L:=B6l) (Lb:=D8n) (Le:=D9c) (N:=B6s) (p:=C7a) (Inv:=D1u) (k:=60) F8 G5 h0 hq func44 (show f44.body=some (f44.body.getD .skip) by kernel_rfl) (body:=C5k) (by kernel_rfl)
  rfl rfl rfl rfl (by simp) (by simp) (fun _ _=>⟨⟨.inr rfl,.inr rfl,.inr rfl,.inr rfl,.inr rfl,.inr rfl,.inr rfl,.inr rfl,.inr rfl,trivial⟩,⟨.inr rfl,.inr rfl,.inr rfl,.inr rfl,.inr rfl,.inr rfl,.inr rfl,.inr rfl,.inr rfl,trivial⟩⟩) F8k
def C5n:Code:=I7 (J8 0 (f49.body.getD .skip))
def sp49b:SP:=⟨dr 1++[.is (.ptr (some (8,0)))]++dr 1++[.int .i64]++dr 60,dd8++[.any]⟩
def C8f:AEx->SP
 | .ret=>⟨dr 2++[.int .i64]++dr 61,dd8++[.any]⟩
 | .exit 0=>⟨dr 64,dd8++[.any]⟩
 | _=>sp49b
theorem F0p(d:Drw)(i:Int):F3 prog (D6 prog pFt2 60) (pFt2.blk 49) C5n (sp49b.rho [.i i,.o (A9 d)]) (sp49b.heap [.i i,.o (A9 d)]) (I1 C8f 9 []) =
  brK (decide (i<(d.l.length:Int))) (brK (decide (0<=i/\i<(d.l.length:Int))) (brK (fdC B6o A6n D1x [.i (i),.n ((d.l.getD i.toNat default).l.length),.fr (A7 Frm.fv (d.l.getD i.toNat default).l),.i (0),.o (A9 d)]) (brK (fdE C7e B6w (A6n [.i (i),.n ((d.l.getD i.toNat default).l.length),.fr (A7 Frm.fv (d.l.getD i.toNat default).l),.i (0),.o (A9 d)])) (some (.normal,[.i (W (i+1)),.o (A9 d)])) (some (.ret,[.i (gFr (I4 (A9 d)) (F7 (D9 (I4 (A9 d)) i.toNat) (G9 (C7e (A6n [.i (i),.n ((d.l.getD i.toNat default).l.length),.fr (A7 Frm.fv (d.l.getD i.toNat default).l),.i (0),.o (A9 d)])) (B6w (A6n [.i (i),.n ((d.l.getD i.toNat default).l.length),.fr (A7 Frm.fv (d.l.getD i.toNat default).l),.i (0),.o (A9 d)])) 0))),.o (A9 d)]))) none) none) (some (.exit 0,[.o (A9 d)])):=by kernel_rfl
def B5h(x:Drw)(n:Nat):List Lf:=[.i n,.o (A9 x)]
def D8q:List Lf->Nat->List Lf
 | [_,.o o],n=>[.i (gFx (I4 o) (D9 (I4 o) n)),.o o]
 | _,_=>[]
def D9f:List Lf->List Lf
 | [_,o]=>[o]
 | _=>[]
def B6v(x:Drw):Nat:=x.l.length
def C7d(x:Drw)(n:Nat):Bool:=decide (gFx x (D9 x n)=0)
def C3e(x:Drw):Prop:=OkD x
def A5c:List Lf->Drw
 | [_,.o o]=>I4 o
 | _=>default
theorem F8n(x:Drw)(hx:C3e x)(n:Nat)(hn:n<=B6v x):F3 prog (D6 prog pFt2 60) (pFt2.blk 49) C5n (sp49b.rho (B5h x n)) (sp49b.heap (B5h x n)) (I1 C8f 9 [])=some (if n<B6v x then(bif C7d x n then(.normal,B5h x (n+1)) else(.ret,D8q (B5h x 0) n)) else(.exit 0,D9f (B5h x 0))):=by
 have h1:OkD x:=hx
 simp only[B5h,D9f]
 rw[F0p,I6 hn h1.len]
 simp only[tN,C2n]
 by_cases h:n<B6v x
 ·rw[if_pos h]
  simp only[B6v] at h
  have hp0:C7d x n=decide (gFx x (D9 x n)=0):=rfl
  rw[hp0]
  refine A8 (dT (by omega)) ?_
  refine A8 (dT (by omega)) ?_
  refine A8 (J5 (L:=B6o) (dec:=A6n) (Inv:=D1x) (x:=(x,n)) (C2n x n _ _ _) ⟨h1,h⟩) ?_
  rw[G2q]
  by_cases g0:gFx x (D9 x n)=0
  ·rw[dT g0]
   refine A8 rfl ?_
   rfl
  ·rw[dF g0]
   refine C8 rfl ?_
   simp only[D8q,E8]
   rw[F7y g0]
   rfl
 ·rw[if_neg h]
  simp only[B6v] at h
  refine C8 (dF (by omega)) ?_
  rfl
def G0c:Blk:=hookP sp49b 9 [] (fdT C8f 0 .ret (.exit 0) A5c B5h D8q D9f B6v C7d C3e)
theorem E7f{A:Amb}{q:Prims}(h0:PrimOK prog A pFt2)(hq:PrimOK prog A q):PrimOK prog A (q.addb 49 0 G0c) :=
 SEB.findR (id:=0) (ds:=[]) (dec:=A5c) (sp:=sp49b) (sq:=C8f) (m:=9) (eb:=.ret) (ee:=.exit 0) (L:=B5h) (Lb:=D8q) (Le:=D9f) (N:=B6v) (p:=C7d) (Inv:=C3e) (k:=60) F8 G5 h0 hq func49 (show f49.body=some (f49.body.getD .skip) by kernel_rfl) (body:=C5n) (by kernel_rfl)
  rfl rfl rfl rfl (by simp) (by simp) (fun _ _=>⟨⟨.inr rfl,.inr rfl,.inr rfl,.inr rfl,.inr rfl,.inr rfl,.inr rfl,.inr rfl,.inr rfl,trivial⟩,⟨.inr rfl,.inr rfl,.inr rfl,.inr rfl,.inr rfl,.inr rfl,.inr rfl,.inr rfl,.inr rfl,trivial⟩⟩) F8n
theorem A9h(d:Drw)(a b c e:Lf):A6k [a,b,c,e,Lf.o (A9 d)]=d:=by simp[A6k,E8]
theorem A5p(d:Drw)(a:Lf):A5c [a,Lf.o (A9 d)]=d:=by simp[A5c,E8]
theorem A9g(d:Drw)(a b c e:Lf):A6j [a,b,c,e,Lf.o (A9 d)]=d:=by simp[A6j,E8]
theorem B2d(d:Drw)(a:Lf):B2c [a,Lf.o (A9 d)]=d:=by simp[B2c,E8]
theorem D6b(d:Drw):fdE C7a B6s d=decide (A1k d=0):=A0g (fun n=>gFx d (D9 d n)) fun _ _=>rfl
theorem D6c(d:Drw):fdE C7d B6v d=decide (A1k d=0):=A0g (fun n=>gFx d (D9 d n)) fun _ _=>rfl
theorem D6a(d:Drw):fdE A9s B6r d=decide (V6 (gFe d) d.l.length=0):=A0g (gFe d) fun _ _=>rfl
theorem E5z(d:Drw):fdE p48 N48 d=decide (V6 (gFe d) d.l.length=0):=A0g (gFe d) fun _ _=>rfl
theorem F7v{d:Drw}(h:A1k d≠0):gFx d (D9 d (G9 (C7a d) (B6s d) 0))=A1k d:=(Y8 (p:=C7a d) (g:=fun n=>gFx d (D9 d n)) (fun _ _=>rfl) h).2
theorem E1d{d:Drw}(h:A1k d≠0):gFx d (D9 d (G9 (C7d d) (B6v d) 0))=A1k d:=(Y8 (p:=C7d d) (g:=fun n=>gFx d (D9 d n)) (fun _ _=>rfl) h).2
theorem F7u{d:Drw}(h:V6 (gFe d) d.l.length≠0):gFe d (G9 (A9s d) (B6r d) 0)=V6 (gFe d) d.l.length:=(Y8 (p:=A9s d) (fun _ _=>rfl) h).2
theorem G4j{d:Drw}(h:V6 (gFe d) d.l.length≠0):gFe d (G9 (p48 d) (N48 d) 0)=V6 (gFe d) d.l.length:=(Y8 (p:=p48 d) (fun _ _=>rfl) h).2
def D7o:Prims:=(((pFt2.addb 44 2 F9z).addb 49 0 G0c).addb 44 0 F9y).addb 48 0 G6n
theorem F6l{A:Amb}(hT:Tab A)(hG:gN prog<=A.G):PrimOK prog A D7o:=by
 have h0:=E9k hT hG
 have h1:PrimOK prog A pFt1:=E7h h0 (E7e h0 h0)
 have h2:PrimOK prog A pFt2:=E7g h1 (E7d h1 h1)
 exact F4x h0 (E7b h0 (E7f h2 (E7c h2 h2)))
def A1w(d:Drw):Int:=if A3c d≠0 then A3c d else A1k d
theorem G9a(d:Drw):(D6 prog D7o 60).call 44 [.agg d.av] (Bg 8) G7 =
  brK (decide ((d.l.length:Int)>32)) (some (.int .i64 5)) (brK (fdC B5g A6j D1t [.n (d.l.length),.fr (A7 Fea.fv d.l),.i ((d.l.length:Int)),.i (0),.o (A9 d)]) (brK (fdE A9s B6r (A6j [.n (d.l.length),.fr (A7 Fea.fv d.l),.i ((d.l.length:Int)),.i (0),.o (A9 d)])) (brK (fdC B6l A6k D1u [.n (d.l.length),.fr (A7 Fea.fv d.l),.i ((d.l.length:Int)),.i (0),.o (A9 d)]) (brK (fdE C7a B6s (A6k [.n (d.l.length),.fr (A7 Fea.fv d.l),.i ((d.l.length:Int)),.i (0),.o (A9 d)])) (some (.int .i64 0)) (some (.sint IntKind.i64 (gFx (I4 (A9 d)) (D9 (I4 (A9 d)) (G9 (C7a (A6k [.n (d.l.length),.fr (A7 Fea.fv d.l),.i ((d.l.length:Int)),.i (0),.o (A9 d)])) (B6s (A6k [.n (d.l.length),.fr (A7 Fea.fv d.l),.i ((d.l.length:Int)),.i (0),.o (A9 d)])) 0)))))) none) (some (.sint IntKind.i64 (gFe (I4 (A9 d)) (G9 (A9s (A6j [.n (d.l.length),.fr (A7 Fea.fv d.l),.i ((d.l.length:Int)),.i (0),.o (A9 d)])) (B6r (A6j [.n (d.l.length),.fr (A7 Fea.fv d.l),.i ((d.l.length:Int)),.i (0),.o (A9 d)])) 0))))) none):=by kernel_rfl
theorem H1c(d:Drw)(hk:OkD d):∃ v,(D6 prog D7o 60).call 44 [.agg d.av] (Bg 8) G7=some v/\T9 (A1w d) v:=by
 rw[G9a]
 simp only[A9g,A9h,D6a,D6b,E8]
 by_cases c1:d.l.length>32
 rotate_left
 by_cases c2:V6 (gFe d) d.l.length≠0
 rotate_left
 by_cases c3:A1k d≠0
 rotate_left
 all_goals
  apply exV
  focus
   repeat first
    | exact rfl
    | refine A8 rfl ?_
    | refine C8 rfl ?_
    | refine A8 (by simp only[SBs]; omega) ?_
    | refine C8 (by simp only[SBs]; omega) ?_
    | refine A8 (J5 (L:=B5g) (dec:=A6j) (Inv:=D1t) (x:=d) (A9g d _ _ _ _) ⟨hk,by omega⟩) ?_
    | refine A8 (J5 (L:=B6l) (dec:=A6k) (Inv:=D1u) (x:=d) (A9h d _ _ _ _) hk) ?_
  focus
   first
    | apply viI
    | apply viS
   dsimp only [A1w,A3c]
   repeat first
    | exact rfl
    | omega
    | refine J3 (by omega) ?_
    | refine H5 (by omega) ?_
    | exact(F7u c2).symm
    | exact(F7v c3).symm
theorem G9d(d:Drw):(D6 prog D7o 60).call 48 [.agg d.av] (Bg 8) G7 =
  brK (decide ((d.l.length:Int)>32)) (some (.int .i64 5)) (brK (fdC L48 B2c E7z [.i (0),.o (A9 d)]) (brK (fdE p48 N48 (B2c [.i (0),.o (A9 d)])) (some (.int .i64 0)) (some (.sint IntKind.i64 (gFe (I4 (A9 d)) (G9 (p48 (B2c [.i (0),.o (A9 d)])) (N48 (B2c [.i (0),.o (A9 d)])) 0))))) none):=by kernel_rfl
theorem H1e(d:Drw)(hk:OkD d):∃ v,(D6 prog D7o 60).call 48 [.agg d.av] (Bg 8) G7=some v/\T9 (A3c d) v:=by
 rw[G9d]
 simp only[B2d,E5z,E8]
 by_cases c1:d.l.length>32
 rotate_left
 by_cases c2:V6 (gFe d) d.l.length≠0
 rotate_left
 all_goals
  apply exV
  focus
   repeat first
    | exact rfl
    | refine A8 rfl ?_
    | refine C8 rfl ?_
    | refine A8 (by simp only[SBs]; omega) ?_
    | refine C8 (by simp only[SBs]; omega) ?_
    | refine A8 (J5 (L:=L48) (dec:=B2c) (Inv:=E7z) (x:=d) (B2d d _) ⟨hk,by omega⟩) ?_
  focus
   first
    | apply viI
    | apply viS
   dsimp only [A3c]
   repeat first
    | exact rfl
    | omega
    | refine J3 (by omega) ?_
    | refine H5 (by omega) ?_
    | exact(G4j c2).symm
theorem G9e(d:Drw):(D6 prog D7o 60).call 49 [.agg d.av] (Bg 8) G7 =
  brK (fdC B5h A5c C3e [.i (0),.o (A9 d)]) (brK (fdE C7d B6v (A5c [.i (0),.o (A9 d)])) (some (.int .i64 0)) (some (.sint IntKind.i64 (gFx (I4 (A9 d)) (D9 (I4 (A9 d)) (G9 (C7d (A5c [.i (0),.o (A9 d)])) (B6v (A5c [.i (0),.o (A9 d)])) 0)))))) none:=by kernel_rfl
theorem H1f(d:Drw)(hk:OkD d):∃ v,(D6 prog D7o 60).call 49 [.agg d.av] (Bg 8) G7=some v/\T9 (A1k d) v:=by
 rw[G9e]
 simp only[A5p,D6c,E8]
 by_cases c1:A1k d≠0
 ·apply exV
  focus
   repeat first
    | exact rfl
    | refine A8 rfl ?_
    | refine C8 rfl ?_
    | refine A8 (by simp only[SBs]; omega) ?_
    | refine C8 (by simp only[SBs]; omega) ?_
    | refine A8 (J5 (L:=B5h) (dec:=A5c) (Inv:=C3e) (x:=d) (A5p d _) hk) ?_
  focus
   first
    | apply viI
    | apply viS
   repeat first
    | exact rfl
    | omega
    | refine J3 (by omega) ?_
    | refine H5 (by omega) ?_
    | exact(E1d c1).symm
 apply exV
 focus
  repeat first
   | exact rfl
   | refine A8 rfl ?_
   | refine C8 rfl ?_
   | refine A8 (by simp only[SBs]; omega) ?_
   | refine C8 (by simp only[SBs]; omega) ?_
   | refine A8 (J5 (L:=B5h) (dec:=A5c) (Inv:=C3e) (x:=d) (A5p d _) hk) ?_
 focus
  first
   | apply viI
   | apply viS
  repeat first
   | exact rfl
   | omega
   | refine J3 (by omega) ?_
   | refine H5 (by omega) ?_
   | exact(E1d c1).symm
def VFt(e:Drw->Int)(d:Drw):Tr AV:=.br (D8 (OkD d)) (.leaf (.sint .i64 (e d))) .fail
def pFt:Prims:=((pIx.addt 44 (Q8 Q0 (VFt A1w))).addt 48 (Q8 Q0 (VFt A3c))).addt 49 (Q8 Q0 (VFt A1k))
theorem G3l{A:Amb}(hT:Tab A)(hG:gN prog<=A.G):PrimOK prog A pFt:=by
 have h0:=F6l hT hG
 refine J4 hG h0 (J4 hG h0 (J4 hG h0 (E9k hT hG) Q0 (VFt A1w) func44 (by kernel_rfl) fun x v hv=>?_) Q0 (VFt A3c) func48 (by kernel_rfl) fun x v hv=>?_) Q0 (VFt A1k) func49 (by kernel_rfl) fun x v hv=>?_
 ·obtain⟨hz,hv⟩:=Tr.br1 hv
  cases hv
  obtain⟨v',h1,h2⟩:=H1c x (J7 hz)
  exact⟨v',h1,H8 h2,K7 h2⟩
 ·obtain⟨hz,hv⟩:=Tr.br1 hv
  cases hv
  obtain⟨v',h1,h2⟩:=H1e x (J7 hz)
  exact⟨v',h1,H8 h2,K7 h2⟩
 ·obtain⟨hz,hv⟩:=Tr.br1 hv
  cases hv
  obtain⟨v',h1,h2⟩:=H1f x (J7 hz)
  exact⟨v',h1,H8 h2,K7 h2⟩
end Go.Proofs.Tryz
