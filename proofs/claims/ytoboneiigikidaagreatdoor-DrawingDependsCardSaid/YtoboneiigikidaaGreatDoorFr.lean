/- Drawings: frames of features. -/
import Derived.Test.YtoboneiigikidaaGreatDoorPl
noncomputable section
namespace Go.Proofs.Tryz
open Go.Ad
def C5e:Code:=I7 (J8 0 (f214.body.getD .skip))
def sp214:SP:=⟨[.flist 2]++[.is (.func (.func 170) [] [.ptr (some (8,0))])]++dr 5++[.int .i64]++[.int .i64]++dr 10,dd8++[.any,.any,.cells [.drop,.drop,.drop,.drop,.drop,.drop] 0 true 187]⟩
def C7w:AEx->SP
 | .ret=>⟨dr 4++[.int .i64]++dr 14,dd8++[.any,.any,.cells [.drop,.drop,.drop,.drop,.drop,.drop] 0 true 187]⟩
 | .exit 0=>⟨dr 19,dd8++[.any,.any,.cells [.drop,.drop,.drop,.drop,.drop,.drop] 0 true 187]⟩
 | _=>sp214
theorem F0g(f:Fea)(y:Frm)(l:List Dat)(n:Int):F3 prog (D6 prog pPl 60) (pPl.blk 214) C5e (sp214.rho [.n l.length,.fr (A7 Dat.fv l),.i l.length,.i n,.o (C9 f),.o (U5 y)]) (sp214.heap [.n l.length,.fr (A7 Dat.fv l),.i l.length,.i n,.o (C9 f),.o (U5 y)]) (I1 C7w 11 [10]) =
  brK (decide (n<(l.length:Int))) (brK (decide (0<=n/\n<(l.length:Int))) (brK ((l.getD n.toNat default).s==f.s) (some (.ret,[.i n,.o (C9 f),.o (U5 y)])) (some (.normal,[.n (l.length),.fr (fun i=>(l.getD i default).fv),.i (l.length),.i (W (n+1)),.o (C9 f),.o (U5 y)]))) none) (some (.exit 0,[.o (C9 f),.o (U5 y)])):=by kernel_rfl
def B6j(x:Fea×Frm×List Dat)(n:Nat):List Lf:=[.n x.2.2.length,.fr (A7 Dat.fv x.2.2),.i x.2.2.length,.i n,.o (C9 x.1),.o (U5 x.2.1)]
def D8k:List Lf->Nat->List Lf
 | [_,_,_,_,o,q],n=>[.i n,o,q]
 | _,_=>[]
def D8w:List Lf->List Lf
 | [_,_,_,_,o,q]=>[o,q]
 | _=>[]
def C4g(x:Fea×Frm×List Dat):Nat:=x.2.2.length
def E3u(x:Fea×Frm×List Dat)(n:Nat):Bool:=!((x.2.2.getD n default).s==x.1.s)
def B9c(x:Fea×Frm×List Dat):Prop:=x.2.2.length<2^62
def A6i:List Lf->Fea×Frm×List Dat
 | [.n m,.fr g,_,_,.o f,.o y]=>(A1o f,D2n y,ofR Dat.fv m g)
 | _=>default
theorem F8e(x:Fea×Frm×List Dat)(hx:B9c x)(n:Nat)(hn:n<=C4g x):F3 prog (D6 prog pPl 60) (pPl.blk 214) C5e (sp214.rho (B6j x n)) (sp214.heap (B6j x n)) (I1 C7w 11 [10])=some (if n<C4g x then(bif E3u x n then(.normal,B6j x (n+1)) else(.ret,D8k (B6j x 0) n)) else(.exit 0,D8w (B6j x 0))):=by
 have h1:=hx
 simp only[B9c] at h1
 simp only[B6j,D8k,D8w]
 rw[F0g,I6 hn h1]
 simp only[tN]
 by_cases h:n<C4g x
 ·rw[if_pos h]
  simp only[C4g] at h
  simp only[E3u]
  cases hE:(x.2.2.getD n default).s==x.1.s
  all_goals
   repeat first
    | exact rfl
    | refine A8 rfl ?_
    | refine C8 rfl ?_
    | refine A8 (by simp only[SBs]; omega) ?_
    | refine C8 (by simp only[SBs]; omega) ?_
    | exact congrArg some (A0a (by first | (simp only[SBs]; omega) | simp)).symm
    | exact congrArg some (Z9 (by first | (simp only[SBs]; omega) | simp)).symm
 ·rw[if_neg h]
  simp only[C4g] at h
  repeat first
   | exact rfl
   | refine A8 rfl ?_
   | refine C8 rfl ?_
   | refine A8 (by simp only[SBs]; omega) ?_
   | refine C8 (by simp only[SBs]; omega) ?_
   | exact congrArg some (A0a (by first | (simp only[SBs]; omega) | simp)).symm
   | exact congrArg some (Z9 (by first | (simp only[SBs]; omega) | simp)).symm
def F9s:Blk:=hookP sp214 11 [10] (fdT C7w 0 .ret (.exit 0) A6i B6j D8k D8w C4g E3u B9c)
theorem E6v{A:Amb}{q:Prims}(h0:PrimOK prog A pPl)(hq:PrimOK prog A q):PrimOK prog A (q.addb 214 0 F9s) :=
 SEB.findR (id:=0) (ds:=[10]) (dec:=A6i) (sp:=sp214) (sq:=C7w) (m:=11) (eb:=.ret) (ee:=.exit 0) (L:=B6j) (Lb:=D8k) (Le:=D8w) (N:=C4g) (p:=E3u) (Inv:=B9c) (k:=60) F8 G5 h0 hq func214 (show f214.body=some (f214.body.getD .skip) by kernel_rfl) (body:=C5e) (by kernel_rfl)
  rfl rfl rfl rfl (by simp) (by simp) (fun _ _=>⟨⟨.inr rfl,.inr rfl,.inr rfl,.inr rfl,.inr rfl,.inr rfl,.inr rfl,.inr rfl,.inr rfl,.inr rfl,.inr rfl,trivial⟩,⟨.inr rfl,.inr rfl,.inr rfl,.inr rfl,.inr rfl,.inr rfl,.inr rfl,.inr rfl,.inr rfl,.inr rfl,.inr rfl,trivial⟩⟩) F8e
def C5d:Code:=I7 (J8 0 (f151.body.getD .skip))
def sp151:SP:=⟨dr 2++[.is (.ptr (some (8,0)))]++[.is (.ptr (some (9,0)))]++dr 4++[.int .i64]++dr 32,dd8++[.any,.any]⟩
def C7v:AEx->SP
 | .ret=>⟨dr 4++[.int .i64]++dr 36,dd8++[.any,.any]⟩
 | .exit 0=>⟨dr 41,dd8++[.any,.any]⟩
 | _=>sp151
theorem F0f(f:Fea)(y:Frm)(n:Int):F3 prog (D6 prog pPl 60) (pPl.blk 151) C5d (sp151.rho [.i n,.o (C9 f),.o (U5 y)]) (sp151.heap [.i n,.o (C9 f),.o (U5 y)]) (I1 C7v 10 []) =
  brK (decide (n<(y.l.length:Int))) (brK (decide (0<=n/\n<(y.l.length:Int))) (brK ((y.l.getD n.toNat default).s==f.s) (some (.ret,[.i 7,.o (C9 f),.o (U5 y)])) (some (.normal,[.i (W (n+1)),.o (C9 f),.o (U5 y)]))) none) (some (.exit 0,[.o (C9 f),.o (U5 y)])):=by kernel_rfl
def B6i(x:Fea×Frm)(n:Nat):List Lf:=[.i n,.o (C9 x.1),.o (U5 x.2)]
def D8j:List Lf->Nat->List Lf
 | [_,o,q],_=>[.i 7,o,q]
 | _,_=>[]
def D8v:List Lf->List Lf
 | [_,o,q]=>[o,q]
 | _=>[]
def C1f(x:Fea×Frm):Nat:=x.2.l.length
def D7j(x:Fea×Frm)(n:Nat):Bool:=!((X3 x.2 n).s==x.1.s)
def B9b(x:Fea×Frm):Prop:=x.2.l.length<2^62
def A6h:List Lf->Fea×Frm
 | [_,.o f,.o y]=>(A1o f,D2n y)
 | _=>default
theorem F8d(x:Fea×Frm)(hx:B9b x)(n:Nat)(hn:n<=C1f x):F3 prog (D6 prog pPl 60) (pPl.blk 151) C5d (sp151.rho (B6i x n)) (sp151.heap (B6i x n)) (I1 C7v 10 [])=some (if n<C1f x then(bif D7j x n then(.normal,B6i x (n+1)) else(.ret,D8j (B6i x 0) n)) else(.exit 0,D8v (B6i x 0))):=by
 have h1:=hx
 simp only[B9b] at h1
 simp only[B6i,D8j,D8v]
 rw[F0f,I6 hn h1]
 simp only[tN]
 by_cases h:n<C1f x
 ·rw[if_pos h]
  simp only[C1f] at h
  simp only[D7j,X3]
  cases hE:(x.2.l.getD n default).s==x.1.s
  all_goals
   repeat first
    | exact rfl
    | refine A8 rfl ?_
    | refine C8 rfl ?_
    | refine A8 (by simp only[SBs]; omega) ?_
    | refine C8 (by simp only[SBs]; omega) ?_
    | exact congrArg some (A0a (by first | (simp only[SBs]; omega) | simp)).symm
    | exact congrArg some (Z9 (by first | (simp only[SBs]; omega) | simp)).symm
 ·rw[if_neg h]
  simp only[C1f] at h
  repeat first
   | exact rfl
   | refine A8 rfl ?_
   | refine C8 rfl ?_
   | refine A8 (by simp only[SBs]; omega) ?_
   | refine C8 (by simp only[SBs]; omega) ?_
   | exact congrArg some (A0a (by first | (simp only[SBs]; omega) | simp)).symm
   | exact congrArg some (Z9 (by first | (simp only[SBs]; omega) | simp)).symm
def F9r:Blk:=hookP sp151 10 [] (fdT C7v 0 .ret (.exit 0) A6h B6i D8j D8v C1f D7j B9b)
theorem E6u{A:Amb}{q:Prims}(h0:PrimOK prog A pPl)(hq:PrimOK prog A q):PrimOK prog A (q.addb 151 0 F9r) :=
 SEB.findR (id:=0) (ds:=[]) (dec:=A6h) (sp:=sp151) (sq:=C7v) (m:=10) (eb:=.ret) (ee:=.exit 0) (L:=B6i) (Lb:=D8j) (Le:=D8v) (N:=C1f) (p:=D7j) (Inv:=B9b) (k:=60) F8 G5 h0 hq func151 (show f151.body=some (f151.body.getD .skip) by kernel_rfl) (body:=C5d) (by kernel_rfl)
  rfl rfl rfl rfl (by simp) (by simp) (fun _ _=>⟨⟨.inr rfl,.inr rfl,.inr rfl,.inr rfl,.inr rfl,.inr rfl,.inr rfl,.inr rfl,.inr rfl,.inr rfl,trivial⟩,⟨.inr rfl,.inr rfl,.inr rfl,.inr rfl,.inr rfl,.inr rfl,.inr rfl,.inr rfl,.inr rfl,.inr rfl,trivial⟩⟩) F8d
theorem C2h(f:Fea)(y:Frm)(l:List Dat):A6i [Lf.n l.length,Lf.fr (A7 Dat.fv l),Lf.i l.length,Lf.i 0,Lf.o (C9 f),Lf.o (U5 y)]=(f,y,l):=by simp[A6i,M5,B9u,I5 Dat.inj]
theorem G2l{f:Fea}{y:Frm}{l:List Dat}(h1:l.length<2^62):fdC B6j A6i B9c [Lf.n l.length,Lf.fr (A7 Dat.fv l),Lf.i l.length,Lf.i 0,Lf.o (C9 f),Lf.o (U5 y)]=true:=J5 (x:=(f,y,l)) (C2h f y l) h1
theorem C2g(f:Fea)(y:Frm):A6h [Lf.i 0,Lf.o (C9 f),Lf.o (U5 y)]=(f,y):=by simp[A6h,M5,B9u]
theorem G2k{f:Fea}{y:Frm}(h1:y.l.length<2^62):fdC B6i A6h B9b [Lf.i 0,Lf.o (C9 f),Lf.o (U5 y)]=true:=J5 (x:=(f,y)) (C2g f y) h1
def D7m:Prims:=(pPl.addb 214 0 F9s).addb 151 0 F9r
theorem F6k{A:Amb}(hT:Tab A)(hG:gN prog<=A.G):PrimOK prog A D7m:=by
 have h0:=E9p hT hG
 exact E6u h0 (E6v h0 h0)
def onL:List (List Bool):=[[false,true,true,false,false],[true,false,false,true,false],[true,true,true,true,false],[true,true,true,true,false],[false,true,true,false,true],[false,false,false,false,true],[true,false,false,false,false],[true,true,true,false,false],[true,true,true,true,true]]
def dcL:List (List Bool):=[[false,true,true,false,false],[],[false,true,true,false,false],[false,true,true,false,false],[],[],[],[],[false,true,true,false,true]]
def onT(k f:Int):Bool:=(onL.getD k.toNat []).getD f.toNat false
def dcT(k f:Int):Bool:=(dcL.getD k.toNat []).getD f.toNat false
def mtT(k f:Int):Bool:=([true,false,true,true,false,false,false,false,true]:List Bool).getD k.toNat false&&(f != 0)
def lsT(k:Int):Int:=([0,0,1,1,0,0,0,1,0]:List Int).getD k.toNat 0
def msT(k:Int):Int:=([0,0,2,2,0,0,3,1,3]:List Int).getD k.toNat 0
abbrev nT(ls ms:Int)(n:Nat)(c e:Bool)(v:AV):Option AV:=brK (decide ((n:Int)<ls)) (some (.int .i64 13)) (brK (decide ((n:Int)>ms)) (some (.int .i64 5)) (brK c (brK e (some (.int .i64 0)) (some v)) none))
abbrev mT(mt:Bool)(m:Int)(r:Option AV):Option AV:=brK (m != 0) (bif mt then r else some (.int .i64 3)) r
abbrev tT(t m:Int)(r:Option AV):Option AV:=brK (t==0) (brK (m != 1) (some (.int .i64 10)) r) r
abbrev uT(dc u:Bool)(r:Option AV):Option AV:=brK u (bif dc then r else some (.int .i64 3)) r
def frT(f:Fea)(x:Frm)(c e:Bool)(v:AV):Option AV:=bif onT x.k f.k then uT (dcT x.k f.k) x.d (tT x.t x.m (mT (mtT x.k f.k) x.m (nT (lsT x.k) (msT x.k) x.l.length c e v))) else some (.int .i64 14)
abbrev E3w(f:Fea)(x:Frm)(r:Option AV):Option AV:=brK (D8 (okR Frm.fv f.l.length (A7 Frm.fv f.l))) (brK (I8 f.s) (brK (K4 { f with l:=ofR Frm.fv f.l.length (A7 Frm.fv f.l) } != 0) (some (.sint .i64 (K4 { f with l:=ofR Frm.fv f.l.length (A7 Frm.fv f.l) })))
 (brK (D8 (okR Dat.fv x.l.length (A7 Dat.fv x.l))) (brK (szD (ofR Dat.fv x.l.length (A7 Dat.fv x.l))) (brK (L6 { x with l:=ofR Dat.fv x.l.length (A7 Dat.fv x.l) } != 0) (some (.sint .i64 (L6 { x with l:=ofR Dat.fv x.l.length (A7 Dat.fv x.l) }))) r) none) none)) none) none
abbrev F5n(f:Fea)(x:Frm):List Lf:=[Lf.n x.l.length,Lf.fr (A7 Dat.fv x.l),Lf.i x.l.length,Lf.i 0,Lf.o (C9 f),Lf.o (U5 x)]
abbrev F5m(f:Fea)(x:Frm):List Lf:=[Lf.i 0,Lf.o (C9 f),Lf.o (U5 x)]
abbrev A1l(f:Fea)(x:Frm):Prop:=(D6 prog D7m 60).call 107 [.agg f.av,.agg x.av] (Bg 8) G7=E3w f x (frT f x (fdC B6j A6i B9c (F5n f x)) (fdE E3u C4g (A6i (F5n f x))) (.int .i64 7))
abbrev A1m(f:Fea)(x:Frm):Prop:=(D6 prog D7m 60).call 151 [.agg f.av,.agg x.av] (Bg 8) G7=E3w f x (frT f x (fdC B6i A6h B9b (F5m f x)) (fdE D7j C1f (A6h (F5m f x))) (.sint .i64 7))
abbrev setF(f:Fea)(k:Int):Fea:={ f with k:=k }
abbrev A7n(x:Frm)(k:Int):Frm:={ x with k:=k }
theorem C6r{k:Int}(h:0<=k/\k<9):k=0 \/ k=1 \/ k=2 \/ k=3 \/ k=4 \/ k=5 \/ k=6 \/ k=7 \/ k=8:=by omega
theorem Y3{k:Int}(h:0<=k/\k<5):k=0 \/ k=1 \/ k=2 \/ k=3 \/ k=4:=by omega
theorem F3x(f:Fea)(x:Frm){q:Int}(h:0<=q/\q<5):A1l (setF f q) (A7n x 0):=by
 rcases Y3 h with rfl | rfl | rfl | rfl | rfl<;>(delta A1l; kernel_rfl)
theorem F3y(f:Fea)(x:Frm){q:Int}(h:0<=q/\q<5):A1l (setF f q) (A7n x 1):=by
 rcases Y3 h with rfl | rfl | rfl | rfl | rfl<;>(delta A1l; kernel_rfl)
theorem F3z(f:Fea)(x:Frm){q:Int}(h:0<=q/\q<5):A1l (setF f q) (A7n x 2):=by
 rcases Y3 h with rfl | rfl | rfl | rfl | rfl<;>(delta A1l; kernel_rfl)
theorem F4a(f:Fea)(x:Frm){q:Int}(h:0<=q/\q<5):A1l (setF f q) (A7n x 3):=by
 rcases Y3 h with rfl | rfl | rfl | rfl | rfl<;>(delta A1l; kernel_rfl)
theorem F4b(f:Fea)(x:Frm){q:Int}(h:0<=q/\q<5):A1l (setF f q) (A7n x 4):=by
 rcases Y3 h with rfl | rfl | rfl | rfl | rfl<;>(delta A1l; kernel_rfl)
theorem F4c(f:Fea)(x:Frm){q:Int}(h:0<=q/\q<5):A1l (setF f q) (A7n x 5):=by
 rcases Y3 h with rfl | rfl | rfl | rfl | rfl<;>(delta A1l; kernel_rfl)
theorem F4d(f:Fea)(x:Frm){q:Int}(h:0<=q/\q<5):A1l (setF f q) (A7n x 6):=by
 rcases Y3 h with rfl | rfl | rfl | rfl | rfl<;>(delta A1l; kernel_rfl)
theorem F4e(f:Fea)(x:Frm){q:Int}(h:0<=q/\q<5):A1l (setF f q) (A7n x 7):=by
 rcases Y3 h with rfl | rfl | rfl | rfl | rfl<;>(delta A1l; kernel_rfl)
theorem F4f(f:Fea)(x:Frm){q:Int}(h:0<=q/\q<5):A1l (setF f q) (A7n x 8):=by
 rcases Y3 h with rfl | rfl | rfl | rfl | rfl<;>(delta A1l; kernel_rfl)
theorem E3d(f:Fea)(x:Frm)(h:0<=f.k/\f.k<5)(h2:0<=x.k/\x.k<9):A1l f x:=by
 obtain⟨k,u,t,m,l⟩:=x
 rcases C6r h2 with h3 | h3 | h3 | h3 | h3 | h3 | h3 | h3 | h3<;>(simp only at h3; subst h3)
 ·exact F3x f ⟨0,u,t,m,l⟩ h
 ·exact F3y f ⟨0,u,t,m,l⟩ h
 ·exact F3z f ⟨0,u,t,m,l⟩ h
 ·exact F4a f ⟨0,u,t,m,l⟩ h
 ·exact F4b f ⟨0,u,t,m,l⟩ h
 ·exact F4c f ⟨0,u,t,m,l⟩ h
 ·exact F4d f ⟨0,u,t,m,l⟩ h
 ·exact F4e f ⟨0,u,t,m,l⟩ h
 ·exact F4f f ⟨0,u,t,m,l⟩ h
theorem F4g(f:Fea)(x:Frm){q:Int}(h:0<=q/\q<5):A1m (setF f q) (A7n x 0):=by
 rcases Y3 h with rfl | rfl | rfl | rfl | rfl<;>(delta A1m; kernel_rfl)
theorem F4h(f:Fea)(x:Frm){q:Int}(h:0<=q/\q<5):A1m (setF f q) (A7n x 1):=by
 rcases Y3 h with rfl | rfl | rfl | rfl | rfl<;>(delta A1m; kernel_rfl)
theorem F4i(f:Fea)(x:Frm){q:Int}(h:0<=q/\q<5):A1m (setF f q) (A7n x 2):=by
 rcases Y3 h with rfl | rfl | rfl | rfl | rfl<;>(delta A1m; kernel_rfl)
theorem F4j(f:Fea)(x:Frm){q:Int}(h:0<=q/\q<5):A1m (setF f q) (A7n x 3):=by
 rcases Y3 h with rfl | rfl | rfl | rfl | rfl<;>(delta A1m; kernel_rfl)
theorem F4k(f:Fea)(x:Frm){q:Int}(h:0<=q/\q<5):A1m (setF f q) (A7n x 4):=by
 rcases Y3 h with rfl | rfl | rfl | rfl | rfl<;>(delta A1m; kernel_rfl)
theorem F4l(f:Fea)(x:Frm){q:Int}(h:0<=q/\q<5):A1m (setF f q) (A7n x 5):=by
 rcases Y3 h with rfl | rfl | rfl | rfl | rfl<;>(delta A1m; kernel_rfl)
theorem F4m(f:Fea)(x:Frm){q:Int}(h:0<=q/\q<5):A1m (setF f q) (A7n x 6):=by
 rcases Y3 h with rfl | rfl | rfl | rfl | rfl<;>(delta A1m; kernel_rfl)
theorem F4n(f:Fea)(x:Frm){q:Int}(h:0<=q/\q<5):A1m (setF f q) (A7n x 7):=by
 rcases Y3 h with rfl | rfl | rfl | rfl | rfl<;>(delta A1m; kernel_rfl)
theorem F4o(f:Fea)(x:Frm){q:Int}(h:0<=q/\q<5):A1m (setF f q) (A7n x 8):=by
 rcases Y3 h with rfl | rfl | rfl | rfl | rfl<;>(delta A1m; kernel_rfl)
theorem E3e(f:Fea)(x:Frm)(h:0<=f.k/\f.k<5)(h2:0<=x.k/\x.k<9):A1m f x:=by
 obtain⟨k,u,t,m,l⟩:=x
 rcases C6r h2 with h3 | h3 | h3 | h3 | h3 | h3 | h3 | h3 | h3<;>(simp only at h3; subst h3)
 ·exact F4g f ⟨0,u,t,m,l⟩ h
 ·exact F4h f ⟨0,u,t,m,l⟩ h
 ·exact F4i f ⟨0,u,t,m,l⟩ h
 ·exact F4j f ⟨0,u,t,m,l⟩ h
 ·exact F4k f ⟨0,u,t,m,l⟩ h
 ·exact F4l f ⟨0,u,t,m,l⟩ h
 ·exact F4m f ⟨0,u,t,m,l⟩ h
 ·exact F4n f ⟨0,u,t,m,l⟩ h
 ·exact F4o f ⟨0,u,t,m,l⟩ h
theorem D0x{A:Amb}(hG:gN prog<=A.G){q:Prims}(hq:PrimOK prog A q){f:FuncId}{fn:Func}(hf:prog.funcs[f]?=some fn)(hc:fn.body.isSome=true):PrimOK prog A (q.addt f fun _=>.fail) :=
 PrimOK.addD F8 G5 hq hG hf hc fun _ _ h=>by cases h
theorem B8v(f:Fea):(⟨f.s,f.k,f.a,f.x,f.y,f.z,f.lo,f.hi,ofR Frm.fv f.l.length (A7 Frm.fv f.l)⟩:Fea)=f:=by rw[I5 Frm.inj]
theorem E6g(x:Frm):(⟨x.k,x.d,x.t,x.m,ofR Dat.fv x.l.length (A7 Dat.fv x.l)⟩:Frm)=x:=by rw[I5 Dat.inj]
theorem F1u(l:List Dat):szD (ofR Dat.fv l.length (A7 Dat.fv l))=szD l:=by rw[I5 Dat.inj]
def nmD(f:Fea)(x:Frm):Bool:=fdE D7j C1f (f,x)
def Y6(f:Fea)(x:Frm):Int:=if K4 f≠0 then K4 f else if L6 x≠0 then L6 x else if onT x.k f.k=false then 14 else if x.d=true/\dcT x.k f.k=false then 3 else if x.t=0/\x.m≠1 then 10
 else if x.m≠0/\mtT x.k f.k=false then 3 else if(x.l.length:Int)<lsT x.k then 13 else if(x.l.length:Int)>msT x.k then 5 else if nmD f x=false then 7 else 0
def D7n:Prims:=(pPl.addt 158 fun _=>.fail).addt 202 fun _=>.fail
theorem B0q{f:Fea}(h:K4 f=0):0<=f.k/\f.k<5:=by
 refine Classical.byContradiction fun hn=>?_
 unfold K4 at h
 split at h
 ·omega
 ·rw[if_pos (by omega)] at h; omega
theorem B0r{x:Frm}(h:L6 x=0):0<=x.k/\x.k<9:=by
 refine Classical.byContradiction fun hn=>?_
 unfold L6 at h
 rw[if_pos (by omega)] at h; omega
theorem C2x{x:Frm}(h:L6 x=0):x.l.length<=3:=by
 obtain⟨k,u,t,m,l⟩:=x
 match l with
 | [] | [_] | [_,_] | [_,_,_]=>simp
 | a::b::c::d::r =>
  unfold L6 at h
  split at h
  ·omega
  ·split at h
   ·omega
   ·split at h
    ·omega
    ·simp only[A2y] at h; omega
theorem F7s(f:Fea)(x:Frm):(D6 prog D7n 60).call 107 [.agg f.av,.agg x.av] (Bg 8) G7 =
  brK (D8 (okR Frm.fv f.l.length (A7 Frm.fv f.l))) (brK (I8 f.s) (brK (K4 { s:=f.s,k:=f.k,a:=f.a,x:=f.x,y:=f.y,z:=f.z,lo:=f.lo,hi:=f.hi,l:=ofR Frm.fv f.l.length (A7 Frm.fv f.l) } != 0) (some (.sint IntKind.i64 (K4 { s:=f.s,k:=f.k,a:=f.a,x:=f.x,y:=f.y,z:=f.z,lo:=f.lo,hi:=f.hi,l:=ofR Frm.fv f.l.length (A7 Frm.fv f.l) }))) (brK (D8 (okR Dat.fv x.l.length (A7 Dat.fv x.l))) (brK (szD (ofR Dat.fv x.l.length (A7 Dat.fv x.l))) (brK (L6 { k:=x.k,d:=x.d,t:=x.t,m:=x.m,l:=ofR Dat.fv x.l.length (A7 Dat.fv x.l) } != 0) (some (.sint IntKind.i64 (L6 { k:=x.k,d:=x.d,t:=x.t,m:=x.m,l:=ofR Dat.fv x.l.length (A7 Dat.fv x.l) }))) none) none) none)) none) none:=by kernel_rfl
theorem G3b(f:Fea)(x:Frm)(hz:I8 f.s=true)(hd:szD x.l=true)(he:K4 f≠0 \/ L6 x≠0):∃ v,(D6 prog D7n 60).call 107 [.agg f.av,.agg x.av] (Bg 8) G7=some v/\T9 (Y6 f x) v:=by
 rw[F7s]
 simp only[K5,B8v,E6g,F1u]
 by_cases c1:K4 f≠0
 ·apply exV
  focus
   repeat first
    | exact rfl
    | refine A8 rfl ?_
    | refine C8 rfl ?_
    | refine A8 (by simp only[SBs]; omega) ?_
    | refine C8 (by simp only[SBs]; omega) ?_
    | refine A8 hz ?_
    | refine A8 hd ?_
    | refine A8 (K5 _) ?_
  focus
   first
    | apply viI
    | apply viS
   dsimp only [Y6]
   repeat first
    | exact rfl
    | refine J3 (by omega) ?_
    | refine H5 (by omega) ?_
 apply exV
 focus
  repeat first
   | exact rfl
   | refine A8 rfl ?_
   | refine C8 rfl ?_
   | refine A8 (by simp only[SBs]; omega) ?_
   | refine C8 (by simp only[SBs]; omega) ?_
   | refine A8 hz ?_
   | refine A8 hd ?_
   | refine A8 (K5 _) ?_
 focus
  first
   | apply viI
   | apply viS
  dsimp only [Y6]
  repeat first
   | exact rfl
   | refine J3 (by omega) ?_
   | refine H5 (by omega) ?_
theorem F7t(f:Fea)(x:Frm):(D6 prog D7n 60).call 151 [.agg f.av,.agg x.av] (Bg 8) G7 =
  brK (D8 (okR Frm.fv f.l.length (A7 Frm.fv f.l))) (brK (I8 f.s) (brK (K4 { s:=f.s,k:=f.k,a:=f.a,x:=f.x,y:=f.y,z:=f.z,lo:=f.lo,hi:=f.hi,l:=ofR Frm.fv f.l.length (A7 Frm.fv f.l) } != 0) (some (.sint IntKind.i64 (K4 { s:=f.s,k:=f.k,a:=f.a,x:=f.x,y:=f.y,z:=f.z,lo:=f.lo,hi:=f.hi,l:=ofR Frm.fv f.l.length (A7 Frm.fv f.l) }))) (brK (D8 (okR Dat.fv x.l.length (A7 Dat.fv x.l))) (brK (szD (ofR Dat.fv x.l.length (A7 Dat.fv x.l))) (brK (L6 { k:=x.k,d:=x.d,t:=x.t,m:=x.m,l:=ofR Dat.fv x.l.length (A7 Dat.fv x.l) } != 0) (some (.sint IntKind.i64 (L6 { k:=x.k,d:=x.d,t:=x.t,m:=x.m,l:=ofR Dat.fv x.l.length (A7 Dat.fv x.l) }))) none) none) none)) none) none:=by kernel_rfl
theorem G3c(f:Fea)(x:Frm)(hz:I8 f.s=true)(hd:szD x.l=true)(he:K4 f≠0 \/ L6 x≠0):∃ v,(D6 prog D7n 60).call 151 [.agg f.av,.agg x.av] (Bg 8) G7=some v/\T9 (Y6 f x) v:=by
 rw[F7t]
 simp only[K5,B8v,E6g,F1u]
 by_cases c1:K4 f≠0
 ·apply exV
  focus
   repeat first
    | exact rfl
    | refine A8 rfl ?_
    | refine C8 rfl ?_
    | refine A8 (by simp only[SBs]; omega) ?_
    | refine C8 (by simp only[SBs]; omega) ?_
    | refine A8 hz ?_
    | refine A8 hd ?_
    | refine A8 (K5 _) ?_
  focus
   first
    | apply viI
    | apply viS
   dsimp only [Y6]
   repeat first
    | exact rfl
    | refine J3 (by omega) ?_
    | refine H5 (by omega) ?_
 apply exV
 focus
  repeat first
   | exact rfl
   | refine A8 rfl ?_
   | refine C8 rfl ?_
   | refine A8 (by simp only[SBs]; omega) ?_
   | refine C8 (by simp only[SBs]; omega) ?_
   | refine A8 hz ?_
   | refine A8 hd ?_
   | refine A8 (K5 _) ?_
 focus
  first
   | apply viI
   | apply viS
  dsimp only [Y6]
  repeat first
   | exact rfl
   | refine J3 (by omega) ?_
   | refine H5 (by omega) ?_
theorem H2f{dc u:Bool}{r:Option AV}(h:¬ (u=true/\dc=false)):uT dc u r=r:=by cases u<;>cases dc<;>first | rfl | exact absurd ⟨rfl,rfl⟩ h
theorem H2e{dc u:Bool}{r:Option AV}(h:u=true/\dc=false):uT dc u r=some (.int .i64 3):=by rw[h.1,h.2]; rfl
theorem H2d{t m:Int}{r:Option AV}(h:¬ (t=0/\m≠1)):tT t m r=r:=by
 unfold tT
 by_cases h1:t=0
 ·have h2:m=1:=Classical.byContradiction fun h2=>h ⟨h1,h2⟩
  subst h1 h2; rfl
 ·rw[show(t==0)=false by simpa using h1]; rfl
theorem H2c{t m:Int}{r:Option AV}(h:t=0/\m≠1):tT t m r=some (.int .i64 10):=by
 unfold tT
 rw[show(t==0)=true by simpa using h.1,show(m != 1)=true by simpa using h.2]; rfl
theorem H0s{mt:Bool}{m:Int}{r:Option AV}(h:¬ (m≠0/\mt=false)):mT mt m r=r:=by
 unfold mT
 cases mt with
 | true=>cases(m != 0)<;>rfl
 | false =>
  have h1:m=0:=Classical.byContradiction fun h1=>h ⟨h1,rfl⟩
  subst h1; rfl
theorem H0r{mt:Bool}{m:Int}{r:Option AV}(h:m≠0/\mt=false):mT mt m r=some (.int .i64 3):=by
 unfold mT
 rw[show(m != 0)=true by simpa using h.1,h.2]; rfl
theorem E6f{f:Fea}{x:Frm}{v7:AV}(hv:T9 7 v7)(he:K4 f=0)(hp:L6 x=0):∃ v,frT f x true (nmD f x) v7=some v/\T9 (Y6 f x) v:=by
 unfold frT Y6
 rw[if_neg (by omega),if_neg (by omega)]
 by_cases c0:onT x.k f.k=false
 ·rw[c0,if_pos rfl]; exact⟨_,rfl,.inl rfl⟩
 rw[if_neg c0,show onT x.k f.k=true by simpa using c0,cond_true]
 by_cases c1:x.d=true/\dcT x.k f.k=false
 ·rw[H2e c1,if_pos c1]; exact⟨_,rfl,.inl rfl⟩
 rw[H2f c1,if_neg c1]
 by_cases c2:x.t=0/\x.m≠1
 ·rw[H2c c2,if_pos c2]; exact⟨_,rfl,.inl rfl⟩
 rw[H2d c2,if_neg c2]
 by_cases c3:x.m≠0/\mtT x.k f.k=false
 ·rw[H0r c3,if_pos c3]; exact⟨_,rfl,.inl rfl⟩
 rw[H0s c3,if_neg c3]
 unfold nT
 by_cases c4:(x.l.length:Int)<lsT x.k
 ·rw[dT c4,if_pos c4]; exact⟨_,rfl,.inl rfl⟩
 rw[dF c4,if_neg c4]
 by_cases c5:(x.l.length:Int)>msT x.k
 ·rw[dT c5,if_pos c5]; exact⟨_,rfl,.inl rfl⟩
 rw[dF c5,if_neg c5]
 cases nmD f x with
 | true=>exact⟨_,rfl,.inl rfl⟩
 | false=>exact⟨v7,rfl,hv⟩
theorem E0w{f:Fea}{x:Frm}{r:Option AV}(hz:I8 f.s=true)(hd:szD x.l=true)(he:K4 f=0)(hp:L6 x=0):E3w f x r=r:=by
 unfold E3w
 simp only[K5,B8v,E6g,F1u,hz,hd,he,hp]
 rfl
theorem E6d(f:Fea)(x:Frm)(hz:I8 f.s=true)(hd:szD x.l=true):∃ v,((D6 prog D7m 60).call 107 [.agg f.av,.agg x.av] (Bg 8) G7=some v \/ (D6 prog D7n 60).call 107 [.agg f.av,.agg x.av] (Bg 8) G7=some v)/\T9 (Y6 f x) v:=by
 by_cases h:K4 f≠0 \/ L6 x≠0
 ·obtain⟨v,h1,h2⟩:=G3b f x hz hd h
  exact⟨v,.inr h1,h2⟩
 ·have he:K4 f=0:=by omega
  have hp:L6 x=0:=by omega
  have h1:(D6 prog D7m 60).call 107 [.agg f.av,.agg x.av] (Bg 8) G7=E3w f x (frT f x (fdC B6j A6i B9c (F5n f x)) (fdE E3u C4g (A6i (F5n f x))) (.int .i64 7)):=E3d f x (B0q he) (B0r hp)
  have hl:=C2x hp
  rw[E0w hz hd he hp,G2l (by omega),C2h] at h1
  obtain⟨v,h3,h4⟩:=E6f (v7:=.int .i64 7) (.inl rfl) he hp
  exact⟨v,.inl (h1.trans h3),h4⟩
theorem E6e(f:Fea)(x:Frm)(hz:I8 f.s=true)(hd:szD x.l=true):∃ v,((D6 prog D7m 60).call 151 [.agg f.av,.agg x.av] (Bg 8) G7=some v \/ (D6 prog D7n 60).call 151 [.agg f.av,.agg x.av] (Bg 8) G7=some v)/\T9 (Y6 f x) v:=by
 by_cases h:K4 f≠0 \/ L6 x≠0
 ·obtain⟨v,h1,h2⟩:=G3c f x hz hd h
  exact⟨v,.inr h1,h2⟩
 ·have he:K4 f=0:=by omega
  have hp:L6 x=0:=by omega
  have h1:(D6 prog D7m 60).call 151 [.agg f.av,.agg x.av] (Bg 8) G7=E3w f x (frT f x (fdC B6i A6h B9b (F5m f x)) (fdE D7j C1f (A6h (F5m f x))) (.sint .i64 7)):=E3e f x (B0q he) (B0r hp)
  have hl:=C2x hp
  rw[E0w hz hd he hp,G2k (by omega),C2g] at h1
  obtain⟨v,h3,h4⟩:=E6f (v7:=.sint .i64 7) (.inr rfl) he hp
  exact⟨v,.inl (h1.trans h3),h4⟩
def VFr(x:Fea×Frm):Tr AV:=.br (I8 x.1.s&&szD x.2.l) (.leaf (.sint .i64 (Y6 x.1 x.2))) .fail
def pFr:Prims:=(pFe.addt 107 (Q8 A9l VFr)).addt 151 (Q8 A9l VFr)
theorem G3k{A:Amb}(hT:Tab A)(hG:gN prog<=A.G):PrimOK prog A pFr:=by
 have h1:=F6k hT hG
 have h2:PrimOK prog A D7n:=D0x hG (D0x hG (E9p hT hG) func158 (by kernel_rfl)) func202 (by kernel_rfl)
 refine B1r hG h1 h2 (B1r hG h1 h2 (D7l hT hG) A9l VFr func107 (by kernel_rfl) fun x v hv=>?_) A9l VFr func151 (by kernel_rfl) fun x v hv=>?_
 ·obtain⟨hz,hv⟩:=Tr.br1 hv
  cases hv
  rw[bA] at hz
  obtain⟨v',h1,h2⟩:=E6d x.1 x.2 hz.1 hz.2
  exact⟨v',h1,H8 h2,K7 h2⟩
 ·obtain⟨hz,hv⟩:=Tr.br1 hv
  cases hv
  rw[bA] at hz
  obtain⟨v',h1,h2⟩:=E6e x.1 x.2 hz.1 hz.2
  exact⟨v',h1,H8 h2,K7 h2⟩
def A1s(x:Fea)(n:Nat)(k:Int):Bool:=(x.l.take n).any fun y=>y.k==k
def A0n(x:Fea)(n:Nat):Int:=if Y6 x (F7 x n)≠0 then Y6 x (F7 x n) else if A1s x n (F7 x n).k=true then 7 else 0
def szF(x:Fea):Bool:=I8 x.s&&x.l.all fun y=>szD y.l
theorem D7v{x:Fea}{n:Nat}(h:n<x.l.length)(k:Int):A1s x (n+1) k=(A1s x n k||((x.l.getD n default).k==k)):=by
 unfold A1s
 rw[List.take_succ_eq_append_getElem h,List.any_append]
 simp[h]
theorem E5t{f:Fea}{x:Frm}(h:Y6 f x=0):L6 x=0:=by
 refine Classical.byContradiction fun hn=>?_
 unfold Y6 at h
 split at h
 ·omega
 ·exact hn h
theorem F1v{x:Fea}(h:szF x=true){n:Nat}(hn:n<x.l.length):szD (x.l.getD n default).l=true:=by
 unfold szF at h
 rw[bA,List.all_eq_true] at h
 refine h.2 _ ?_
 rw[gD,gE hn]
 exact List.getElem_mem hn
def D5n:Code:=I7 (J8 0 (f93.body.getD .skip))
def sp93:SP:=⟨dr 1++[.is (.ptr (some (8,0)))]++dr 2++[.is (.ptr (some (9,0)))]++dr 13++[.flist 5]++[.int .i64]++[.int .i64]++dr 17,dd8++[.any,.cells [.bool,.bool,.bool,.bool,.bool,.bool,.bool,.bool,.bool] 0 true 172]⟩
def E1v:AEx->SP
 | .ret=>⟨dr 2++[.int .i64]++dr 35,dd8++[.any,.cells [.drop,.drop,.drop,.drop,.drop,.drop,.drop,.drop,.drop] 0 true 172]⟩
 | .exit 0=>⟨dr 38,dd8++[.any,.cells [.drop,.drop,.drop,.drop,.drop,.drop,.drop,.drop,.drop] 0 true 172]⟩
 | _=>sp93
theorem F7q(f:Fea)(n:Int)(b0 b1 b2 b3 b4 b5 b6 b7 b8:Bool):F3 prog (D6 prog pFr 60) (pFr.blk 93) D5n (sp93.rho [.n f.l.length,.fr (A7 Frm.fv f.l),.i f.l.length,.i n,.o (C9 f),.b b0,.b b1,.b b2,.b b3,.b b4,.b b5,.b b6,.b b7,.b b8]) (sp93.heap [.n f.l.length,.fr (A7 Frm.fv f.l),.i f.l.length,.i n,.o (C9 f),.b b0,.b b1,.b b2,.b b3,.b b4,.b b5,.b b6,.b b7,.b b8]) (I1 E1v 10 [9]) =
  brK (decide (n<(f.l.length:Int))) (brK (decide (0<=n/\n<(f.l.length:Int))) (brK (D8 (okR Frm.fv f.l.length (A7 Frm.fv f.l))&&D8 (okR Dat.fv (f.l.getD n.toNat default).l.length (A7 Dat.fv (f.l.getD n.toNat default).l))) (brK (I8 f.s&&szD (ofR Dat.fv (f.l.getD n.toNat default).l.length (A7 Dat.fv (f.l.getD n.toNat default).l))) (brK (Y6 { s:=f.s,k:=f.k,a:=f.a,x:=f.x,y:=f.y,z:=f.z,lo:=f.lo,hi:=f.hi,l:=ofR Frm.fv f.l.length (A7 Frm.fv f.l) } { k:=(f.l.getD n.toNat default).k,d:=(f.l.getD n.toNat default).d,t:=(f.l.getD n.toNat default).t,m:=(f.l.getD n.toNat default).m,l:=ofR Dat.fv (f.l.getD n.toNat default).l.length (A7 Dat.fv (f.l.getD n.toNat default).l) } != 0) (some (.ret,[.i (Y6 { s:=f.s,k:=f.k,a:=f.a,x:=f.x,y:=f.y,z:=f.z,lo:=f.lo,hi:=f.hi,l:=ofR Frm.fv f.l.length (A7 Frm.fv f.l) } { k:=(f.l.getD n.toNat default).k,d:=(f.l.getD n.toNat default).d,t:=(f.l.getD n.toNat default).t,m:=(f.l.getD n.toNat default).m,l:=ofR Dat.fv (f.l.getD n.toNat default).l.length (A7 Dat.fv (f.l.getD n.toNat default).l) }),.o (C9 f)])) (brK (decide ((f.l.getD n.toNat default).k=0)) (brK (b0) (some (.ret,[.i (7),.o (C9 f)])) (brK (decide ((f.l.getD n.toNat default).k=0)) (some (.normal,[.n (f.l.length),.fr (A7 Frm.fv f.l),.i ((f.l.length:Int)),.i (W (n+1)),.o (C9 f),.b (true),.b (b1),.b (b2),.b (b3),.b (b4),.b (b5),.b (b6),.b (b7),.b (b8)])) (brK (decide ((f.l.getD n.toNat default).k=1)) (some (.normal,[.n (f.l.length),.fr (A7 Frm.fv f.l),.i ((f.l.length:Int)),.i (W (n+1)),.o (C9 f),.b (b0),.b (true),.b (b2),.b (b3),.b (b4),.b (b5),.b (b6),.b (b7),.b (b8)])) (brK (decide ((f.l.getD n.toNat default).k=2)) (some (.normal,[.n (f.l.length),.fr (A7 Frm.fv f.l),.i ((f.l.length:Int)),.i (W (n+1)),.o (C9 f),.b (b0),.b (b1),.b (true),.b (b3),.b (b4),.b (b5),.b (b6),.b (b7),.b (b8)])) (brK (decide ((f.l.getD n.toNat default).k=3)) (some (.normal,[.n (f.l.length),.fr (A7 Frm.fv f.l),.i ((f.l.length:Int)),.i (W (n+1)),.o (C9 f),.b (b0),.b (b1),.b (b2),.b (true),.b (b4),.b (b5),.b (b6),.b (b7),.b (b8)])) (brK (decide ((f.l.getD n.toNat default).k=4)) (some (.normal,[.n (f.l.length),.fr (A7 Frm.fv f.l),.i ((f.l.length:Int)),.i (W (n+1)),.o (C9 f),.b (b0),.b (b1),.b (b2),.b (b3),.b (true),.b (b5),.b (b6),.b (b7),.b (b8)])) (brK (decide ((f.l.getD n.toNat default).k=5)) (some (.normal,[.n (f.l.length),.fr (A7 Frm.fv f.l),.i ((f.l.length:Int)),.i (W (n+1)),.o (C9 f),.b (b0),.b (b1),.b (b2),.b (b3),.b (b4),.b (true),.b (b6),.b (b7),.b (b8)])) (brK (decide ((f.l.getD n.toNat default).k=6)) (some (.normal,[.n (f.l.length),.fr (A7 Frm.fv f.l),.i ((f.l.length:Int)),.i (W (n+1)),.o (C9 f),.b (b0),.b (b1),.b (b2),.b (b3),.b (b4),.b (b5),.b (true),.b (b7),.b (b8)])) (brK (decide ((f.l.getD n.toNat default).k=7)) (some (.normal,[.n (f.l.length),.fr (A7 Frm.fv f.l),.i ((f.l.length:Int)),.i (W (n+1)),.o (C9 f),.b (b0),.b (b1),.b (b2),.b (b3),.b (b4),.b (b5),.b (b6),.b (true),.b (b8)])) (brK (decide ((f.l.getD n.toNat default).k=8)) (some (.normal,[.n (f.l.length),.fr (A7 Frm.fv f.l),.i ((f.l.length:Int)),.i (W (n+1)),.o (C9 f),.b (b0),.b (b1),.b (b2),.b (b3),.b (b4),.b (b5),.b (b6),.b (b7),.b (true)])) none)))))))))) (brK (decide ((f.l.getD n.toNat default).k=1)) (brK (b1) (some (.ret,[.i (7),.o (C9 f)])) (brK (decide ((f.l.getD n.toNat default).k=0)) (some (.normal,[.n (f.l.length),.fr (A7 Frm.fv f.l),.i ((f.l.length:Int)),.i (W (n+1)),.o (C9 f),.b (true),.b (b1),.b (b2),.b (b3),.b (b4),.b (b5),.b (b6),.b (b7),.b (b8)])) (brK (decide ((f.l.getD n.toNat default).k=1)) (some (.normal,[.n (f.l.length),.fr (A7 Frm.fv f.l),.i ((f.l.length:Int)),.i (W (n+1)),.o (C9 f),.b (b0),.b (true),.b (b2),.b (b3),.b (b4),.b (b5),.b (b6),.b (b7),.b (b8)])) (brK (decide ((f.l.getD n.toNat default).k=2)) (some (.normal,[.n (f.l.length),.fr (A7 Frm.fv f.l),.i ((f.l.length:Int)),.i (W (n+1)),.o (C9 f),.b (b0),.b (b1),.b (true),.b (b3),.b (b4),.b (b5),.b (b6),.b (b7),.b (b8)])) (brK (decide ((f.l.getD n.toNat default).k=3)) (some (.normal,[.n (f.l.length),.fr (A7 Frm.fv f.l),.i ((f.l.length:Int)),.i (W (n+1)),.o (C9 f),.b (b0),.b (b1),.b (b2),.b (true),.b (b4),.b (b5),.b (b6),.b (b7),.b (b8)])) (brK (decide ((f.l.getD n.toNat default).k=4)) (some (.normal,[.n (f.l.length),.fr (A7 Frm.fv f.l),.i ((f.l.length:Int)),.i (W (n+1)),.o (C9 f),.b (b0),.b (b1),.b (b2),.b (b3),.b (true),.b (b5),.b (b6),.b (b7),.b (b8)])) (brK (decide ((f.l.getD n.toNat default).k=5)) (some (.normal,[.n (f.l.length),.fr (A7 Frm.fv f.l),.i ((f.l.length:Int)),.i (W (n+1)),.o (C9 f),.b (b0),.b (b1),.b (b2),.b (b3),.b (b4),.b (true),.b (b6),.b (b7),.b (b8)])) (brK (decide ((f.l.getD n.toNat default).k=6)) (some (.normal,[.n (f.l.length),.fr (A7 Frm.fv f.l),.i ((f.l.length:Int)),.i (W (n+1)),.o (C9 f),.b (b0),.b (b1),.b (b2),.b (b3),.b (b4),.b (b5),.b (true),.b (b7),.b (b8)])) (brK (decide ((f.l.getD n.toNat default).k=7)) (some (.normal,[.n (f.l.length),.fr (A7 Frm.fv f.l),.i ((f.l.length:Int)),.i (W (n+1)),.o (C9 f),.b (b0),.b (b1),.b (b2),.b (b3),.b (b4),.b (b5),.b (b6),.b (true),.b (b8)])) (brK (decide ((f.l.getD n.toNat default).k=8)) (some (.normal,[.n (f.l.length),.fr (A7 Frm.fv f.l),.i ((f.l.length:Int)),.i (W (n+1)),.o (C9 f),.b (b0),.b (b1),.b (b2),.b (b3),.b (b4),.b (b5),.b (b6),.b (b7),.b (true)])) none)))))))))) (brK (decide ((f.l.getD n.toNat default).k=2)) (brK (b2) (some (.ret,[.i (7),.o (C9 f)])) (brK (decide ((f.l.getD n.toNat default).k=0)) (some (.normal,[.n (f.l.length),.fr (A7 Frm.fv f.l),.i ((f.l.length:Int)),.i (W (n+1)),.o (C9 f),.b (true),.b (b1),.b (b2),.b (b3),.b (b4),.b (b5),.b (b6),.b (b7),.b (b8)])) (brK (decide ((f.l.getD n.toNat default).k=1)) (some (.normal,[.n (f.l.length),.fr (A7 Frm.fv f.l),.i ((f.l.length:Int)),.i (W (n+1)),.o (C9 f),.b (b0),.b (true),.b (b2),.b (b3),.b (b4),.b (b5),.b (b6),.b (b7),.b (b8)])) (brK (decide ((f.l.getD n.toNat default).k=2)) (some (.normal,[.n (f.l.length),.fr (A7 Frm.fv f.l),.i ((f.l.length:Int)),.i (W (n+1)),.o (C9 f),.b (b0),.b (b1),.b (true),.b (b3),.b (b4),.b (b5),.b (b6),.b (b7),.b (b8)])) (brK (decide ((f.l.getD n.toNat default).k=3)) (some (.normal,[.n (f.l.length),.fr (A7 Frm.fv f.l),.i ((f.l.length:Int)),.i (W (n+1)),.o (C9 f),.b (b0),.b (b1),.b (b2),.b (true),.b (b4),.b (b5),.b (b6),.b (b7),.b (b8)])) (brK (decide ((f.l.getD n.toNat default).k=4)) (some (.normal,[.n (f.l.length),.fr (A7 Frm.fv f.l),.i ((f.l.length:Int)),.i (W (n+1)),.o (C9 f),.b (b0),.b (b1),.b (b2),.b (b3),.b (true),.b (b5),.b (b6),.b (b7),.b (b8)])) (brK (decide ((f.l.getD n.toNat default).k=5)) (some (.normal,[.n (f.l.length),.fr (A7 Frm.fv f.l),.i ((f.l.length:Int)),.i (W (n+1)),.o (C9 f),.b (b0),.b (b1),.b (b2),.b (b3),.b (b4),.b (true),.b (b6),.b (b7),.b (b8)])) (brK (decide ((f.l.getD n.toNat default).k=6)) (some (.normal,[.n (f.l.length),.fr (A7 Frm.fv f.l),.i ((f.l.length:Int)),.i (W (n+1)),.o (C9 f),.b (b0),.b (b1),.b (b2),.b (b3),.b (b4),.b (b5),.b (true),.b (b7),.b (b8)])) (brK (decide ((f.l.getD n.toNat default).k=7)) (some (.normal,[.n (f.l.length),.fr (A7 Frm.fv f.l),.i ((f.l.length:Int)),.i (W (n+1)),.o (C9 f),.b (b0),.b (b1),.b (b2),.b (b3),.b (b4),.b (b5),.b (b6),.b (true),.b (b8)])) (brK (decide ((f.l.getD n.toNat default).k=8)) (some (.normal,[.n (f.l.length),.fr (A7 Frm.fv f.l),.i ((f.l.length:Int)),.i (W (n+1)),.o (C9 f),.b (b0),.b (b1),.b (b2),.b (b3),.b (b4),.b (b5),.b (b6),.b (b7),.b (true)])) none)))))))))) (brK (decide ((f.l.getD n.toNat default).k=3)) (brK (b3) (some (.ret,[.i (7),.o (C9 f)])) (brK (decide ((f.l.getD n.toNat default).k=0)) (some (.normal,[.n (f.l.length),.fr (A7 Frm.fv f.l),.i ((f.l.length:Int)),.i (W (n+1)),.o (C9 f),.b (true),.b (b1),.b (b2),.b (b3),.b (b4),.b (b5),.b (b6),.b (b7),.b (b8)])) (brK (decide ((f.l.getD n.toNat default).k=1)) (some (.normal,[.n (f.l.length),.fr (A7 Frm.fv f.l),.i ((f.l.length:Int)),.i (W (n+1)),.o (C9 f),.b (b0),.b (true),.b (b2),.b (b3),.b (b4),.b (b5),.b (b6),.b (b7),.b (b8)])) (brK (decide ((f.l.getD n.toNat default).k=2)) (some (.normal,[.n (f.l.length),.fr (A7 Frm.fv f.l),.i ((f.l.length:Int)),.i (W (n+1)),.o (C9 f),.b (b0),.b (b1),.b (true),.b (b3),.b (b4),.b (b5),.b (b6),.b (b7),.b (b8)])) (brK (decide ((f.l.getD n.toNat default).k=3)) (some (.normal,[.n (f.l.length),.fr (A7 Frm.fv f.l),.i ((f.l.length:Int)),.i (W (n+1)),.o (C9 f),.b (b0),.b (b1),.b (b2),.b (true),.b (b4),.b (b5),.b (b6),.b (b7),.b (b8)])) (brK (decide ((f.l.getD n.toNat default).k=4)) (some (.normal,[.n (f.l.length),.fr (A7 Frm.fv f.l),.i ((f.l.length:Int)),.i (W (n+1)),.o (C9 f),.b (b0),.b (b1),.b (b2),.b (b3),.b (true),.b (b5),.b (b6),.b (b7),.b (b8)])) (brK (decide ((f.l.getD n.toNat default).k=5)) (some (.normal,[.n (f.l.length),.fr (A7 Frm.fv f.l),.i ((f.l.length:Int)),.i (W (n+1)),.o (C9 f),.b (b0),.b (b1),.b (b2),.b (b3),.b (b4),.b (true),.b (b6),.b (b7),.b (b8)])) (brK (decide ((f.l.getD n.toNat default).k=6)) (some (.normal,[.n (f.l.length),.fr (A7 Frm.fv f.l),.i ((f.l.length:Int)),.i (W (n+1)),.o (C9 f),.b (b0),.b (b1),.b (b2),.b (b3),.b (b4),.b (b5),.b (true),.b (b7),.b (b8)])) (brK (decide ((f.l.getD n.toNat default).k=7)) (some (.normal,[.n (f.l.length),.fr (A7 Frm.fv f.l),.i ((f.l.length:Int)),.i (W (n+1)),.o (C9 f),.b (b0),.b (b1),.b (b2),.b (b3),.b (b4),.b (b5),.b (b6),.b (true),.b (b8)])) (brK (decide ((f.l.getD n.toNat default).k=8)) (some (.normal,[.n (f.l.length),.fr (A7 Frm.fv f.l),.i ((f.l.length:Int)),.i (W (n+1)),.o (C9 f),.b (b0),.b (b1),.b (b2),.b (b3),.b (b4),.b (b5),.b (b6),.b (b7),.b (true)])) none)))))))))) (brK (decide ((f.l.getD n.toNat default).k=4)) (brK (b4) (some (.ret,[.i (7),.o (C9 f)])) (brK (decide ((f.l.getD n.toNat default).k=0)) (some (.normal,[.n (f.l.length),.fr (A7 Frm.fv f.l),.i ((f.l.length:Int)),.i (W (n+1)),.o (C9 f),.b (true),.b (b1),.b (b2),.b (b3),.b (b4),.b (b5),.b (b6),.b (b7),.b (b8)])) (brK (decide ((f.l.getD n.toNat default).k=1)) (some (.normal,[.n (f.l.length),.fr (A7 Frm.fv f.l),.i ((f.l.length:Int)),.i (W (n+1)),.o (C9 f),.b (b0),.b (true),.b (b2),.b (b3),.b (b4),.b (b5),.b (b6),.b (b7),.b (b8)])) (brK (decide ((f.l.getD n.toNat default).k=2)) (some (.normal,[.n (f.l.length),.fr (A7 Frm.fv f.l),.i ((f.l.length:Int)),.i (W (n+1)),.o (C9 f),.b (b0),.b (b1),.b (true),.b (b3),.b (b4),.b (b5),.b (b6),.b (b7),.b (b8)])) (brK (decide ((f.l.getD n.toNat default).k=3)) (some (.normal,[.n (f.l.length),.fr (A7 Frm.fv f.l),.i ((f.l.length:Int)),.i (W (n+1)),.o (C9 f),.b (b0),.b (b1),.b (b2),.b (true),.b (b4),.b (b5),.b (b6),.b (b7),.b (b8)])) (brK (decide ((f.l.getD n.toNat default).k=4)) (some (.normal,[.n (f.l.length),.fr (A7 Frm.fv f.l),.i ((f.l.length:Int)),.i (W (n+1)),.o (C9 f),.b (b0),.b (b1),.b (b2),.b (b3),.b (true),.b (b5),.b (b6),.b (b7),.b (b8)])) (brK (decide ((f.l.getD n.toNat default).k=5)) (some (.normal,[.n (f.l.length),.fr (A7 Frm.fv f.l),.i ((f.l.length:Int)),.i (W (n+1)),.o (C9 f),.b (b0),.b (b1),.b (b2),.b (b3),.b (b4),.b (true),.b (b6),.b (b7),.b (b8)])) (brK (decide ((f.l.getD n.toNat default).k=6)) (some (.normal,[.n (f.l.length),.fr (A7 Frm.fv f.l),.i ((f.l.length:Int)),.i (W (n+1)),.o (C9 f),.b (b0),.b (b1),.b (b2),.b (b3),.b (b4),.b (b5),.b (true),.b (b7),.b (b8)])) (brK (decide ((f.l.getD n.toNat default).k=7)) (some (.normal,[.n (f.l.length),.fr (A7 Frm.fv f.l),.i ((f.l.length:Int)),.i (W (n+1)),.o (C9 f),.b (b0),.b (b1),.b (b2),.b (b3),.b (b4),.b (b5),.b (b6),.b (true),.b (b8)])) (brK (decide ((f.l.getD n.toNat default).k=8)) (some (.normal,[.n (f.l.length),.fr (A7 Frm.fv f.l),.i ((f.l.length:Int)),.i (W (n+1)),.o (C9 f),.b (b0),.b (b1),.b (b2),.b (b3),.b (b4),.b (b5),.b (b6),.b (b7),.b (true)])) none)))))))))) (brK (decide ((f.l.getD n.toNat default).k=5)) (brK (b5) (some (.ret,[.i (7),.o (C9 f)])) (brK (decide ((f.l.getD n.toNat default).k=0)) (some (.normal,[.n (f.l.length),.fr (A7 Frm.fv f.l),.i ((f.l.length:Int)),.i (W (n+1)),.o (C9 f),.b (true),.b (b1),.b (b2),.b (b3),.b (b4),.b (b5),.b (b6),.b (b7),.b (b8)])) (brK (decide ((f.l.getD n.toNat default).k=1)) (some (.normal,[.n (f.l.length),.fr (A7 Frm.fv f.l),.i ((f.l.length:Int)),.i (W (n+1)),.o (C9 f),.b (b0),.b (true),.b (b2),.b (b3),.b (b4),.b (b5),.b (b6),.b (b7),.b (b8)])) (brK (decide ((f.l.getD n.toNat default).k=2)) (some (.normal,[.n (f.l.length),.fr (A7 Frm.fv f.l),.i ((f.l.length:Int)),.i (W (n+1)),.o (C9 f),.b (b0),.b (b1),.b (true),.b (b3),.b (b4),.b (b5),.b (b6),.b (b7),.b (b8)])) (brK (decide ((f.l.getD n.toNat default).k=3)) (some (.normal,[.n (f.l.length),.fr (A7 Frm.fv f.l),.i ((f.l.length:Int)),.i (W (n+1)),.o (C9 f),.b (b0),.b (b1),.b (b2),.b (true),.b (b4),.b (b5),.b (b6),.b (b7),.b (b8)])) (brK (decide ((f.l.getD n.toNat default).k=4)) (some (.normal,[.n (f.l.length),.fr (A7 Frm.fv f.l),.i ((f.l.length:Int)),.i (W (n+1)),.o (C9 f),.b (b0),.b (b1),.b (b2),.b (b3),.b (true),.b (b5),.b (b6),.b (b7),.b (b8)])) (brK (decide ((f.l.getD n.toNat default).k=5)) (some (.normal,[.n (f.l.length),.fr (A7 Frm.fv f.l),.i ((f.l.length:Int)),.i (W (n+1)),.o (C9 f),.b (b0),.b (b1),.b (b2),.b (b3),.b (b4),.b (true),.b (b6),.b (b7),.b (b8)])) (brK (decide ((f.l.getD n.toNat default).k=6)) (some (.normal,[.n (f.l.length),.fr (A7 Frm.fv f.l),.i ((f.l.length:Int)),.i (W (n+1)),.o (C9 f),.b (b0),.b (b1),.b (b2),.b (b3),.b (b4),.b (b5),.b (true),.b (b7),.b (b8)])) (brK (decide ((f.l.getD n.toNat default).k=7)) (some (.normal,[.n (f.l.length),.fr (A7 Frm.fv f.l),.i ((f.l.length:Int)),.i (W (n+1)),.o (C9 f),.b (b0),.b (b1),.b (b2),.b (b3),.b (b4),.b (b5),.b (b6),.b (true),.b (b8)])) (brK (decide ((f.l.getD n.toNat default).k=8)) (some (.normal,[.n (f.l.length),.fr (A7 Frm.fv f.l),.i ((f.l.length:Int)),.i (W (n+1)),.o (C9 f),.b (b0),.b (b1),.b (b2),.b (b3),.b (b4),.b (b5),.b (b6),.b (b7),.b (true)])) none)))))))))) (brK (decide ((f.l.getD n.toNat default).k=6)) (brK (b6) (some (.ret,[.i (7),.o (C9 f)])) (brK (decide ((f.l.getD n.toNat default).k=0)) (some (.normal,[.n (f.l.length),.fr (A7 Frm.fv f.l),.i ((f.l.length:Int)),.i (W (n+1)),.o (C9 f),.b (true),.b (b1),.b (b2),.b (b3),.b (b4),.b (b5),.b (b6),.b (b7),.b (b8)])) (brK (decide ((f.l.getD n.toNat default).k=1)) (some (.normal,[.n (f.l.length),.fr (A7 Frm.fv f.l),.i ((f.l.length:Int)),.i (W (n+1)),.o (C9 f),.b (b0),.b (true),.b (b2),.b (b3),.b (b4),.b (b5),.b (b6),.b (b7),.b (b8)])) (brK (decide ((f.l.getD n.toNat default).k=2)) (some (.normal,[.n (f.l.length),.fr (A7 Frm.fv f.l),.i ((f.l.length:Int)),.i (W (n+1)),.o (C9 f),.b (b0),.b (b1),.b (true),.b (b3),.b (b4),.b (b5),.b (b6),.b (b7),.b (b8)])) (brK (decide ((f.l.getD n.toNat default).k=3)) (some (.normal,[.n (f.l.length),.fr (A7 Frm.fv f.l),.i ((f.l.length:Int)),.i (W (n+1)),.o (C9 f),.b (b0),.b (b1),.b (b2),.b (true),.b (b4),.b (b5),.b (b6),.b (b7),.b (b8)])) (brK (decide ((f.l.getD n.toNat default).k=4)) (some (.normal,[.n (f.l.length),.fr (A7 Frm.fv f.l),.i ((f.l.length:Int)),.i (W (n+1)),.o (C9 f),.b (b0),.b (b1),.b (b2),.b (b3),.b (true),.b (b5),.b (b6),.b (b7),.b (b8)])) (brK (decide ((f.l.getD n.toNat default).k=5)) (some (.normal,[.n (f.l.length),.fr (A7 Frm.fv f.l),.i ((f.l.length:Int)),.i (W (n+1)),.o (C9 f),.b (b0),.b (b1),.b (b2),.b (b3),.b (b4),.b (true),.b (b6),.b (b7),.b (b8)])) (brK (decide ((f.l.getD n.toNat default).k=6)) (some (.normal,[.n (f.l.length),.fr (A7 Frm.fv f.l),.i ((f.l.length:Int)),.i (W (n+1)),.o (C9 f),.b (b0),.b (b1),.b (b2),.b (b3),.b (b4),.b (b5),.b (true),.b (b7),.b (b8)])) (brK (decide ((f.l.getD n.toNat default).k=7)) (some (.normal,[.n (f.l.length),.fr (A7 Frm.fv f.l),.i ((f.l.length:Int)),.i (W (n+1)),.o (C9 f),.b (b0),.b (b1),.b (b2),.b (b3),.b (b4),.b (b5),.b (b6),.b (true),.b (b8)])) (brK (decide ((f.l.getD n.toNat default).k=8)) (some (.normal,[.n (f.l.length),.fr (A7 Frm.fv f.l),.i ((f.l.length:Int)),.i (W (n+1)),.o (C9 f),.b (b0),.b (b1),.b (b2),.b (b3),.b (b4),.b (b5),.b (b6),.b (b7),.b (true)])) none)))))))))) (brK (decide ((f.l.getD n.toNat default).k=7)) (brK (b7) (some (.ret,[.i (7),.o (C9 f)])) (brK (decide ((f.l.getD n.toNat default).k=0)) (some (.normal,[.n (f.l.length),.fr (A7 Frm.fv f.l),.i ((f.l.length:Int)),.i (W (n+1)),.o (C9 f),.b (true),.b (b1),.b (b2),.b (b3),.b (b4),.b (b5),.b (b6),.b (b7),.b (b8)])) (brK (decide ((f.l.getD n.toNat default).k=1)) (some (.normal,[.n (f.l.length),.fr (A7 Frm.fv f.l),.i ((f.l.length:Int)),.i (W (n+1)),.o (C9 f),.b (b0),.b (true),.b (b2),.b (b3),.b (b4),.b (b5),.b (b6),.b (b7),.b (b8)])) (brK (decide ((f.l.getD n.toNat default).k=2)) (some (.normal,[.n (f.l.length),.fr (A7 Frm.fv f.l),.i ((f.l.length:Int)),.i (W (n+1)),.o (C9 f),.b (b0),.b (b1),.b (true),.b (b3),.b (b4),.b (b5),.b (b6),.b (b7),.b (b8)])) (brK (decide ((f.l.getD n.toNat default).k=3)) (some (.normal,[.n (f.l.length),.fr (A7 Frm.fv f.l),.i ((f.l.length:Int)),.i (W (n+1)),.o (C9 f),.b (b0),.b (b1),.b (b2),.b (true),.b (b4),.b (b5),.b (b6),.b (b7),.b (b8)])) (brK (decide ((f.l.getD n.toNat default).k=4)) (some (.normal,[.n (f.l.length),.fr (A7 Frm.fv f.l),.i ((f.l.length:Int)),.i (W (n+1)),.o (C9 f),.b (b0),.b (b1),.b (b2),.b (b3),.b (true),.b (b5),.b (b6),.b (b7),.b (b8)])) (brK (decide ((f.l.getD n.toNat default).k=5)) (some (.normal,[.n (f.l.length),.fr (A7 Frm.fv f.l),.i ((f.l.length:Int)),.i (W (n+1)),.o (C9 f),.b (b0),.b (b1),.b (b2),.b (b3),.b (b4),.b (true),.b (b6),.b (b7),.b (b8)])) (brK (decide ((f.l.getD n.toNat default).k=6)) (some (.normal,[.n (f.l.length),.fr (A7 Frm.fv f.l),.i ((f.l.length:Int)),.i (W (n+1)),.o (C9 f),.b (b0),.b (b1),.b (b2),.b (b3),.b (b4),.b (b5),.b (true),.b (b7),.b (b8)])) (brK (decide ((f.l.getD n.toNat default).k=7)) (some (.normal,[.n (f.l.length),.fr (A7 Frm.fv f.l),.i ((f.l.length:Int)),.i (W (n+1)),.o (C9 f),.b (b0),.b (b1),.b (b2),.b (b3),.b (b4),.b (b5),.b (b6),.b (true),.b (b8)])) (brK (decide ((f.l.getD n.toNat default).k=8)) (some (.normal,[.n (f.l.length),.fr (A7 Frm.fv f.l),.i ((f.l.length:Int)),.i (W (n+1)),.o (C9 f),.b (b0),.b (b1),.b (b2),.b (b3),.b (b4),.b (b5),.b (b6),.b (b7),.b (true)])) none)))))))))) (brK (decide ((f.l.getD n.toNat default).k=8)) (brK (b8) (some (.ret,[.i (7),.o (C9 f)])) (brK (decide ((f.l.getD n.toNat default).k=0)) (some (.normal,[.n (f.l.length),.fr (A7 Frm.fv f.l),.i ((f.l.length:Int)),.i (W (n+1)),.o (C9 f),.b (true),.b (b1),.b (b2),.b (b3),.b (b4),.b (b5),.b (b6),.b (b7),.b (b8)])) (brK (decide ((f.l.getD n.toNat default).k=1)) (some (.normal,[.n (f.l.length),.fr (A7 Frm.fv f.l),.i ((f.l.length:Int)),.i (W (n+1)),.o (C9 f),.b (b0),.b (true),.b (b2),.b (b3),.b (b4),.b (b5),.b (b6),.b (b7),.b (b8)])) (brK (decide ((f.l.getD n.toNat default).k=2)) (some (.normal,[.n (f.l.length),.fr (A7 Frm.fv f.l),.i ((f.l.length:Int)),.i (W (n+1)),.o (C9 f),.b (b0),.b (b1),.b (true),.b (b3),.b (b4),.b (b5),.b (b6),.b (b7),.b (b8)])) (brK (decide ((f.l.getD n.toNat default).k=3)) (some (.normal,[.n (f.l.length),.fr (A7 Frm.fv f.l),.i ((f.l.length:Int)),.i (W (n+1)),.o (C9 f),.b (b0),.b (b1),.b (b2),.b (true),.b (b4),.b (b5),.b (b6),.b (b7),.b (b8)])) (brK (decide ((f.l.getD n.toNat default).k=4)) (some (.normal,[.n (f.l.length),.fr (A7 Frm.fv f.l),.i ((f.l.length:Int)),.i (W (n+1)),.o (C9 f),.b (b0),.b (b1),.b (b2),.b (b3),.b (true),.b (b5),.b (b6),.b (b7),.b (b8)])) (brK (decide ((f.l.getD n.toNat default).k=5)) (some (.normal,[.n (f.l.length),.fr (A7 Frm.fv f.l),.i ((f.l.length:Int)),.i (W (n+1)),.o (C9 f),.b (b0),.b (b1),.b (b2),.b (b3),.b (b4),.b (true),.b (b6),.b (b7),.b (b8)])) (brK (decide ((f.l.getD n.toNat default).k=6)) (some (.normal,[.n (f.l.length),.fr (A7 Frm.fv f.l),.i ((f.l.length:Int)),.i (W (n+1)),.o (C9 f),.b (b0),.b (b1),.b (b2),.b (b3),.b (b4),.b (b5),.b (true),.b (b7),.b (b8)])) (brK (decide ((f.l.getD n.toNat default).k=7)) (some (.normal,[.n (f.l.length),.fr (A7 Frm.fv f.l),.i ((f.l.length:Int)),.i (W (n+1)),.o (C9 f),.b (b0),.b (b1),.b (b2),.b (b3),.b (b4),.b (b5),.b (b6),.b (true),.b (b8)])) (brK (decide ((f.l.getD n.toNat default).k=8)) (some (.normal,[.n (f.l.length),.fr (A7 Frm.fv f.l),.i ((f.l.length:Int)),.i (W (n+1)),.o (C9 f),.b (b0),.b (b1),.b (b2),.b (b3),.b (b4),.b (b5),.b (b6),.b (b7),.b (true)])) none)))))))))) none)))))))))) none) none) none) (some (.exit 0,[.o (C9 f)])):=by kernel_rfl
def L93(x:Fea)(n:Nat):List Lf:=[.n x.l.length,.fr (A7 Frm.fv x.l),.i x.l.length,.i n,.o (C9 x),.b (A1s x n 0),.b (A1s x n 1),.b (A1s x n 2),.b (A1s x n 3),.b (A1s x n 4),.b (A1s x n 5),.b (A1s x n 6),.b (A1s x n 7),.b (A1s x n 8)]
def E4k:List Lf->Nat->List Lf
 | [_,_,_,_,.o o,_,_,_,_,_,_,_,_,_],n=>[.i (A0n (A1o o) n),.o o]
 | _,_=>[]
def F2y:List Lf->List Lf
 | [_,_,_,_,o,_,_,_,_,_,_,_,_,_]=>[o]
 | _=>[]
def N93(x:Fea):Nat:=x.l.length
def p93(x:Fea)(n:Nat):Bool:=decide (A0n x n=0)
def E8b(x:Fea):Prop:=x.l.length<2^62/\szF x=true
def A7f:List Lf->Fea
 | _::_::_::_::.o o::_=>A1o o
 | _=>default
theorem G5h(x:Fea)(hx:E8b x)(n:Nat)(hn:n<=N93 x):F3 prog (D6 prog pFr 60) (pFr.blk 93) D5n (sp93.rho (L93 x n)) (sp93.heap (L93 x n)) (I1 E1v 10 [9])=some (if n<N93 x then(bif p93 x n then(.normal,L93 x (n+1)) else(.ret,E4k (L93 x 0) n)) else(.exit 0,F2y (L93 x 0))):=by
 obtain⟨h1,h2⟩:=hx
 simp only[L93,F2y]
 rw[F7q,I6 hn h1]
 simp only[tN,B8v,E6g,F1u,K5,Bool.and_self]
 by_cases h:n<N93 x
 ·rw[if_pos h]
  simp only[N93] at h
  have hz:(I8 x.s&&szD (x.l.getD n default).l)=true:=by
   have:=h2
   rw[bA]
   refine⟨?_,F1v h2 h⟩
   unfold szF at this
   rw[bA] at this
   exact this.1
  refine A8 (dT (by omega)) ?_
  refine A8 (dT (by omega)) ?_
  refine A8 rfl ?_
  refine A8 hz ?_
  by_cases he:Y6 x (x.l.getD n default)=0
  ·refine C8 (by simpa using he) ?_
   have hk:=B0r (E5t he)
   cases hs:A1s x n (x.l.getD n default).k with
   | true =>
    have hg:A0n x n=7:=by unfold A0n; rw[if_neg (by simpa using he),if_pos hs]
    have hp:p93 x n=false:=by unfold p93; rw[hg]; rfl
    rw[hp,cond_false]
    simp only[E4k,M5,hg]
    rcases C6r hk with h9 | h9 | h9 | h9 | h9 | h9 | h9 | h9 | h9<;>rw[h9] at hs
    all_goals
     repeat first
      | exact rfl
      | refine A8 hs ?_
      | refine A8 (dT (by omega)) ?_
      | refine C8 (dF (by omega)) ?_
   | false =>
    have hg:A0n x n=0:=by unfold A0n; rw[if_neg (by simpa using he),if_neg (by simpa using hs)]
    have hp:p93 x n=true:=by unfold p93; rw[hg]; rfl
    rw[hp,cond_true]
    simp only[D7v h]
    rcases C6r hk with h9 | h9 | h9 | h9 | h9 | h9 | h9 | h9 | h9<;>rw[h9] at hs
    all_goals
     repeat first
      | refine C8 hs ?_
      | refine A8 (dT (by omega)) ?_
      | refine C8 (dF (by omega)) ?_
     simp[-List.getD_eq_getElem?_getD,h9]
  ·refine A8 (by simpa using he) ?_
   have hg:A0n x n=Y6 x (x.l.getD n default):=by unfold A0n; rw[if_pos he]
   have hp:p93 x n=false:=by unfold p93; rw[hg]; simpa using he
   rw[hp,cond_false]
   simp only[E4k,M5,hg]
 ·rw[if_neg h]
  simp only[N93] at h
  refine C8 (dF (by omega)) ?_
  rfl
def G6w:Blk:=hookP sp93 10 [9] (fdT E1v 0 .ret (.exit 0) A7f L93 E4k F2y N93 p93 E8b)
theorem F5g{A:Amb}{q:Prims}(h0:PrimOK prog A pFr)(hq:PrimOK prog A q):PrimOK prog A (q.addb 93 0 G6w) :=
 SEB.findR (id:=0) (ds:=[9]) (dec:=A7f) (sp:=sp93) (sq:=E1v) (m:=10) (eb:=.ret) (ee:=.exit 0) (L:=L93) (Lb:=E4k) (Le:=F2y) (N:=N93) (p:=p93) (Inv:=E8b) (k:=60) F8 G5 h0 hq func93 (show f93.body=some (f93.body.getD .skip) by kernel_rfl) (body:=D5n) (by kernel_rfl)
  rfl rfl rfl rfl (by simp) (by simp) (fun _ _=>⟨⟨.inr rfl,.inr rfl,.inr rfl,.inr rfl,.inr rfl,.inr rfl,.inr rfl,.inr rfl,.inr rfl,.inl rfl,trivial⟩,⟨.inr rfl,.inr rfl,.inr rfl,.inr rfl,.inr rfl,.inr rfl,.inr rfl,.inr rfl,.inr rfl,.inl rfl,trivial⟩⟩) G5h
def C5x:Code:=I7 (J8 2 (f98.body.getD .skip))
def sp98b:SP:=⟨dr 1++[.is (.ptr (some (8,0)))]++dr 2++[.int .i64]++dr 1++[.int .i64]++dr 44,dd8++[.any]⟩
def C8p:AEx->SP
 | .ret=>⟨dr 2++[.int .i64]++dr 48,dd8++[.any]⟩
 | .exit 2=>⟨dr 1++[.is (.ptr (some (8,0)))]++dr 2++[.int .i64]++dr 46,dd8++[.any]⟩
 | _=>sp98b
theorem F0z(f:Fea)(i n:Int):F3 prog (D6 prog pFr 60) (pFr.blk 98) C5x (sp98b.rho [.i i,.i n,.o (C9 f)]) (sp98b.heap [.i i,.i n,.o (C9 f)]) (I1 C8p 9 []) =
  brK (decide (n<i)) (brK (decide (0<=n/\n<(f.l.length:Int))) (brK (decide (0<=i/\i<(f.l.length:Int))) (brK ((f.l.getD n.toNat default).k==(f.l.getD i.toNat default).k) (some (.ret,[.i (7),.o (C9 f)])) (some (.normal,[.i (i),.i (W (n+1)),.o (C9 f)]))) none) none) (some (.exit 2,[.i (i),.o (C9 f)])):=by kernel_rfl
def C1d(x:Fea×Nat)(n:Nat):List Lf:=[.i x.2,.i n,.o (C9 x.1)]
def D8t:List Lf->Nat->List Lf
 | [_,_,o],_=>[.i 7,o]
 | _,_=>[]
def D9m:List Lf->List Lf
 | [i,_,o]=>[i,o]
 | _=>[]
def B5l(x:Fea×Nat):Nat:=x.2
def C7g(x:Fea×Nat)(n:Nat):Bool:=!((F7 x.1 n).k==(F7 x.1 x.2).k)
def D2a(x:Fea×Nat):Prop:=x.2<x.1.l.length/\x.1.l.length<2^62
def B0o:List Lf->Fea×Nat
 | [.i i,_,.o o]=>(A1o o,i.toNat)
 | _=>default
theorem F8x(x:Fea×Nat)(hx:D2a x)(n:Nat)(hn:n<=B5l x):F3 prog (D6 prog pFr 60) (pFr.blk 98) C5x (sp98b.rho (C1d x n)) (sp98b.heap (C1d x n)) (I1 C8p 9 [])=some (if n<B5l x then(bif C7g x n then(.normal,C1d x (n+1)) else(.ret,D8t (C1d x 0) n)) else(.exit 2,D9m (C1d x 0))):=by
 obtain⟨h1,h2⟩:=hx
 simp only[C1d,D8t,D9m]
 rw[F0z,I6 hn (Nat.lt_trans h1 h2)]
 simp only[tN]
 by_cases h:n<B5l x
 ·rw[if_pos h]
  simp only[B5l] at h
  simp only[C7g,F7]
  cases hE:(x.1.l.getD n default).k==(x.1.l.getD x.2 default).k
  all_goals
   repeat first
    | exact rfl
    | refine A8 rfl ?_
    | refine C8 rfl ?_
    | refine A8 (by simp only[SBs]; omega) ?_
    | refine C8 (by simp only[SBs]; omega) ?_
    | exact congrArg some (A0a (by first | (simp only[SBs]; omega) | simp)).symm
    | exact congrArg some (Z9 (by first | (simp only[SBs]; omega) | simp)).symm
 ·rw[if_neg h]
  simp only[B5l] at h
  repeat first
   | exact rfl
   | refine A8 rfl ?_
   | refine C8 rfl ?_
   | refine A8 (by simp only[SBs]; omega) ?_
   | refine C8 (by simp only[SBs]; omega) ?_
   | exact congrArg some (A0a (by first | (simp only[SBs]; omega) | simp)).symm
   | exact congrArg some (Z9 (by first | (simp only[SBs]; omega) | simp)).symm
def G0n:Blk:=hookP sp98b 9 [] (fdT C8p 2 .ret (.exit 2) B0o C1d D8t D9m B5l C7g D2a)
theorem E7q{A:Amb}{q:Prims}(h0:PrimOK prog A pFr)(hq:PrimOK prog A q):PrimOK prog A (q.addb 98 2 G0n) :=
 SEB.findR (id:=2) (ds:=[]) (dec:=B0o) (sp:=sp98b) (sq:=C8p) (m:=9) (eb:=.ret) (ee:=.exit 2) (L:=C1d) (Lb:=D8t) (Le:=D9m) (N:=B5l) (p:=C7g) (Inv:=D2a) (k:=60) F8 G5 h0 hq func98 (show f98.body=some (f98.body.getD .skip) by kernel_rfl) (body:=C5x) (by kernel_rfl)
  rfl rfl rfl rfl (by simp) (by simp) (fun _ _=>⟨⟨.inr rfl,.inr rfl,.inr rfl,.inr rfl,.inr rfl,.inr rfl,.inr rfl,.inr rfl,.inr rfl,trivial⟩,⟨.inr rfl,.inr rfl,.inr rfl,.inr rfl,.inr rfl,.inr rfl,.inr rfl,.inr rfl,.inr rfl,trivial⟩⟩) F8x
theorem C2q(x:Fea)(i:Nat):B0o [Lf.i (i:Int),Lf.i 0,Lf.o (C9 x)]=(x,i):=by simp[B0o,M5]
theorem G2n{x:Fea}{i:Nat}(h:i<x.l.length)(h1:x.l.length<2^62):fdC C1d B0o D2a [Lf.i (i:Int),Lf.i 0,Lf.o (C9 x)]=true:=J5 (x:=(x,i)) (C2q x i) ⟨h,h1⟩
theorem G4o(x:Fea)(i:Nat)(h:i<x.l.length):fdE C7g B5l (x,i)=!A1s x i (x.l.getD i default).k:=by
 have key:fdE C7g B5l (x,i)=true↔A1s x i (x.l.getD i default).k=false:=by
  rw[F3t]
  unfold A1s C7g B5l
  rw[List.any_eq_false]
  constructor
  ·intro hh y hy
   obtain⟨j,hj,rfl⟩:=List.getElem_of_mem hy
   rw[List.length_take] at hj
   have:=hh j (by simp only; omega)
   simp only[F7] at this
   rw[List.getElem_take]
   rw[gD,gE (by omega)] at this
   simpa using this
  ·intro hh j hj
   simp only at hj
   have:=hh (x.l[j]'(by omega)) (List.mem_take_iff_getElem.2 ⟨j,by omega,rfl⟩)
   simp only[F7]
   rw[gD,gE (by omega)]
   simpa using this
 cases h1:fdE C7g B5l (x,i)<;>cases h2:A1s x i (x.l.getD i default).k<;>simp_all
def pAl1:Prims:=(pFr.addb 93 0 G6w).addb 98 2 G0n
def C5w:Code:=I7 (J8 0 (f98.body.getD .skip))
def sp98a:SP:=⟨dr 1++[.is (.ptr (some (8,0)))]++dr 2++[.int .i64]++dr 46,dd8++[.any]⟩
def C8o:AEx->SP
 | .ret=>⟨dr 2++[.int .i64]++dr 48,dd8++[.any]⟩
 | .exit 0=>⟨dr 51,dd8++[.any]⟩
 | _=>sp98a
theorem F0y(f:Fea)(n:Int):F3 prog (D6 prog pAl1 60) (pAl1.blk 98) C5w (sp98a.rho [.i n,.o (C9 f)]) (sp98a.heap [.i n,.o (C9 f)]) (I1 C8o 9 []) =
  brK (decide (n<(f.l.length:Int))) (brK (decide (0<=n/\n<(f.l.length:Int))) (brK (D8 (okR Frm.fv f.l.length (A7 Frm.fv f.l))&&D8 (okR Dat.fv (f.l.getD n.toNat default).l.length (A7 Dat.fv (f.l.getD n.toNat default).l))) (brK (I8 f.s&&szD (ofR Dat.fv (f.l.getD n.toNat default).l.length (A7 Dat.fv (f.l.getD n.toNat default).l))) (brK (Y6 { s:=f.s,k:=f.k,a:=f.a,x:=f.x,y:=f.y,z:=f.z,lo:=f.lo,hi:=f.hi,l:=ofR Frm.fv f.l.length (A7 Frm.fv f.l) } { k:=(f.l.getD n.toNat default).k,d:=(f.l.getD n.toNat default).d,t:=(f.l.getD n.toNat default).t,m:=(f.l.getD n.toNat default).m,l:=ofR Dat.fv (f.l.getD n.toNat default).l.length (A7 Dat.fv (f.l.getD n.toNat default).l) } != 0) (some (.ret,[.i (Y6 { s:=f.s,k:=f.k,a:=f.a,x:=f.x,y:=f.y,z:=f.z,lo:=f.lo,hi:=f.hi,l:=ofR Frm.fv f.l.length (A7 Frm.fv f.l) } { k:=(f.l.getD n.toNat default).k,d:=(f.l.getD n.toNat default).d,t:=(f.l.getD n.toNat default).t,m:=(f.l.getD n.toNat default).m,l:=ofR Dat.fv (f.l.getD n.toNat default).l.length (A7 Dat.fv (f.l.getD n.toNat default).l) }),.o (C9 f)])) (brK (fdC C1d B0o D2a [Lf.i n,Lf.i 0,Lf.o (C9 f)]) (brK (fdE C7g B5l (B0o [Lf.i n,Lf.i 0,Lf.o (C9 f)])) (some (.normal,[.i (W (n+1)),.o (C9 f)])) (some (.ret,[.i (7),.o (C9 f)]))) none)) none) none) none) (some (.exit 0,[.o (C9 f)])):=by kernel_rfl
def B5i(x:Fea)(n:Nat):List Lf:=[.i n,.o (C9 x)]
def C8z:List Lf->Nat->List Lf
 | [_,.o o],n=>[.i (A0n (A1o o) n),.o o]
 | _,_=>[]
def D9l:List Lf->List Lf
 | [_,o]=>[o]
 | _=>[]
def B6y(x:Fea):Nat:=x.l.length
def B2s(x:Fea)(n:Nat):Bool:=decide (A0n x n=0)
def D1z(x:Fea):Prop:=x.l.length<2^62/\szF x=true
def A6q:List Lf->Fea
 | [_,.o o]=>A1o o
 | _=>default
theorem F8w(x:Fea)(hx:D1z x)(n:Nat)(hn:n<=B6y x):F3 prog (D6 prog pAl1 60) (pAl1.blk 98) C5w (sp98a.rho (B5i x n)) (sp98a.heap (B5i x n)) (I1 C8o 9 [])=some (if n<B6y x then(bif B2s x n then(.normal,B5i x (n+1)) else(.ret,C8z (B5i x 0) n)) else(.exit 0,D9l (B5i x 0))):=by
 obtain⟨h1,h2⟩:=hx
 simp only[B5i,D9l]
 rw[F0y,I6 hn h1]
 simp only[tN,B8v,E6g,F1u,K5,Bool.and_self,C2q]
 by_cases h:n<B6y x
 ·rw[if_pos h]
  simp only[B6y] at h
  have hz:(I8 x.s&&szD (x.l.getD n default).l)=true:=by
   have:=h2
   rw[bA]
   refine⟨?_,F1v h2 h⟩
   unfold szF at this
   rw[bA] at this
   exact this.1
  refine A8 (dT (by omega)) ?_
  refine A8 (dT (by omega)) ?_
  refine A8 rfl ?_
  refine A8 hz ?_
  rw[G4o x n h,G2n h h1]
  by_cases he:Y6 x (x.l.getD n default)=0
  ·refine C8 (by simpa using he) ?_
   cases hs:A1s x n (x.l.getD n default).k with
   | true =>
    have hg:A0n x n=7:=by unfold A0n; rw[if_neg (by simpa using he),if_pos hs]
    have hp:B2s x n=false:=by unfold B2s; rw[hg]; rfl
    rw[hp,cond_false]
    simp only[C8z,M5,hg]
    rfl
   | false =>
    have hg:A0n x n=0:=by unfold A0n; rw[if_neg (by simpa using he),if_neg (by simpa using hs)]
    have hp:B2s x n=true:=by unfold B2s; rw[hg]; rfl
    rw[hp,cond_true]
    rfl
  ·refine A8 (by simpa using he) ?_
   have hg:A0n x n=Y6 x (x.l.getD n default):=by unfold A0n; rw[if_pos he]
   have hp:B2s x n=false:=by unfold B2s; rw[hg]; simpa using he
   rw[hp,cond_false]
   simp only[C8z,M5,hg]
 ·rw[if_neg h]
  simp only[B6y] at h
  refine C8 (dF (by omega)) ?_
  rfl
def G0m:Blk:=hookP sp98a 9 [] (fdT C8o 0 .ret (.exit 0) A6q B5i C8z D9l B6y B2s D1z)
theorem E7p{A:Amb}{q:Prims}(h0:PrimOK prog A pAl1)(hq:PrimOK prog A q):PrimOK prog A (q.addb 98 0 G0m) :=
 SEB.findR (id:=0) (ds:=[]) (dec:=A6q) (sp:=sp98a) (sq:=C8o) (m:=9) (eb:=.ret) (ee:=.exit 0) (L:=B5i) (Lb:=C8z) (Le:=D9l) (N:=B6y) (p:=B2s) (Inv:=D1z) (k:=60) F8 G5 h0 hq func98 (show f98.body=some (f98.body.getD .skip) by kernel_rfl) (body:=C5w) (by kernel_rfl)
  rfl rfl rfl rfl (by simp) (by simp) (fun _ _=>⟨⟨.inr rfl,.inr rfl,.inr rfl,.inr rfl,.inr rfl,.inr rfl,.inr rfl,.inr rfl,.inr rfl,trivial⟩,⟨.inr rfl,.inr rfl,.inr rfl,.inr rfl,.inr rfl,.inr rfl,.inr rfl,.inr rfl,.inr rfl,trivial⟩⟩) F8w
theorem D0m(x:Fea)(a b c d e f g h i j k l m:Lf):A7f [a,b,c,d,Lf.o (C9 x),e,f,g,h,i,j,k,l,m]=x:=by simp[A7f,M5]
theorem F9e{x:Fea}(h1:x.l.length<2^62)(h2:szF x=true):fdC L93 A7f E8b [Lf.n x.l.length,Lf.fr (A7 Frm.fv x.l),Lf.i x.l.length,Lf.i 0,Lf.o (C9 x),Lf.b false,Lf.b false,Lf.b false,Lf.b false,Lf.b false,Lf.b false,Lf.b false,Lf.b false,Lf.b false]=true:=J5 (L:=L93) (x:=x) (by simp[A7f,L93,M5]) ⟨h1,h2⟩
theorem B3p(x:Fea):A6q [Lf.i 0,Lf.o (C9 x)]=x:=by simp[A6q,M5]
theorem E5x{x:Fea}(h1:x.l.length<2^62)(h2:szF x=true):fdC B5i A6q D1z [Lf.i 0,Lf.o (C9 x)]=true:=J5 (x:=x) (B3p x) ⟨h1,h2⟩
def E9c:Prims:=pAl1.addb 98 0 G0m
def Y2(x:Fea):Int:=if K4 x≠0 then K4 x else if x.l.length>8 then 5 else V6 (A0n x) x.l.length
theorem F9i(x:Fea):fdE p93 N93 x=decide (V6 (A0n x) x.l.length=0):=A0g (A0n x) fun _ _=>rfl
theorem E6c(x:Fea):fdE B2s B6y x=decide (V6 (A0n x) x.l.length=0):=A0g (A0n x) fun _ _=>rfl
theorem G4l{x:Fea}(h:V6 (A0n x) x.l.length≠0):A0n x (G9 (p93 x) (N93 x) 0)=V6 (A0n x) x.l.length:=(Y8 (p:=p93 x) (fun _ _=>rfl) h).2
theorem G4m{x:Fea}(h:V6 (A0n x) x.l.length≠0):A0n x (G9 (B2s x) (B6y x) 0)=V6 (A0n x) x.l.length:=(Y8 (p:=B2s x) (fun _ _=>rfl) h).2
theorem F6d{A:Amb}(hT:Tab A)(hG:gN prog<=A.G):PrimOK prog A E9c:=by
 have h0:=G3k hT hG
 have h1:PrimOK prog A pAl1:=E7q h0 (F5g h0 h0)
 exact E7p h1 h1
theorem G9p(x:Fea):(D6 prog E9c 60).call 93 [.agg x.av] (Bg 8) G7 =
  brK (D8 (okR Frm.fv x.l.length (A7 Frm.fv x.l))) (brK (I8 x.s) (brK (K4 { s:=x.s,k:=x.k,a:=x.a,x:=x.x,y:=x.y,z:=x.z,lo:=x.lo,hi:=x.hi,l:=ofR Frm.fv x.l.length (A7 Frm.fv x.l) } != 0) (some (.sint IntKind.i64 (K4 { s:=x.s,k:=x.k,a:=x.a,x:=x.x,y:=x.y,z:=x.z,lo:=x.lo,hi:=x.hi,l:=ofR Frm.fv x.l.length (A7 Frm.fv x.l) }))) (brK (decide ((x.l.length:Int)>8)) (some (.int .i64 5)) (brK (fdC L93 A7f E8b [Lf.n x.l.length,Lf.fr (A7 Frm.fv x.l),Lf.i (x.l.length:Int),Lf.i 0,Lf.o (C9 x),Lf.b false,Lf.b false,Lf.b false,Lf.b false,Lf.b false,Lf.b false,Lf.b false,Lf.b false,Lf.b false]) (brK (fdE p93 N93 (A7f [Lf.n x.l.length,Lf.fr (A7 Frm.fv x.l),Lf.i (x.l.length:Int),Lf.i 0,Lf.o (C9 x),Lf.b false,Lf.b false,Lf.b false,Lf.b false,Lf.b false,Lf.b false,Lf.b false,Lf.b false,Lf.b false])) (some (.int .i64 0)) (some (.sint IntKind.i64 (A0n (A1o (C9 x)) (G9 (p93 (A7f [Lf.n x.l.length,Lf.fr (A7 Frm.fv x.l),Lf.i (x.l.length:Int),Lf.i 0,Lf.o (C9 x),Lf.b false,Lf.b false,Lf.b false,Lf.b false,Lf.b false,Lf.b false,Lf.b false,Lf.b false,Lf.b false])) (N93 (A7f [Lf.n x.l.length,Lf.fr (A7 Frm.fv x.l),Lf.i (x.l.length:Int),Lf.i 0,Lf.o (C9 x),Lf.b false,Lf.b false,Lf.b false,Lf.b false,Lf.b false,Lf.b false,Lf.b false,Lf.b false,Lf.b false])) 0))))) none))) none) none:=by kernel_rfl
theorem H1o(x:Fea)(hz:I8 x.s=true)(hs:szF x=true):∃ v,(D6 prog E9c 60).call 93 [.agg x.av] (Bg 8) G7=some v/\T9 (Y2 x) v:=by
 rw[G9p]
 simp only[K5,B8v,D0m,F9i,M5]
 by_cases c1:K4 x≠0
 rotate_left
 by_cases c2:x.l.length>8
 rotate_left
 by_cases c3:V6 (A0n x) x.l.length≠0
 rotate_left
 all_goals
  apply exV
  focus
   repeat first
    | exact rfl
    | refine A8 rfl ?_
    | refine C8 rfl ?_
    | refine A8 (by simp only[SBs]; omega) ?_
    | refine C8 (by simp only[SBs]; omega) ?_
    | refine A8 hz ?_
    | refine A8 (F9e (by omega) hs) ?_
    | refine A8 (E5x (by omega) hs) ?_
  focus
   first
    | apply viI
    | apply viS
   dsimp only [Y2]
   repeat first
    | exact rfl
    | omega
    | refine J3 (by omega) ?_
    | refine H5 (by omega) ?_
    | exact(G4l c3).symm
theorem G9u(x:Fea):(D6 prog E9c 60).call 98 [.agg x.av] (Bg 8) G7 =
  brK (D8 (okR Frm.fv x.l.length (A7 Frm.fv x.l))) (brK (I8 x.s) (brK (K4 { s:=x.s,k:=x.k,a:=x.a,x:=x.x,y:=x.y,z:=x.z,lo:=x.lo,hi:=x.hi,l:=ofR Frm.fv x.l.length (A7 Frm.fv x.l) } != 0) (some (.sint IntKind.i64 (K4 { s:=x.s,k:=x.k,a:=x.a,x:=x.x,y:=x.y,z:=x.z,lo:=x.lo,hi:=x.hi,l:=ofR Frm.fv x.l.length (A7 Frm.fv x.l) }))) (brK (decide ((x.l.length:Int)>8)) (some (.int .i64 5)) (brK (fdC B5i A6q D1z [Lf.i 0,Lf.o (C9 x)]) (brK (fdE B2s B6y (A6q [Lf.i 0,Lf.o (C9 x)])) (some (.int .i64 0)) (some (.sint IntKind.i64 (A0n (A1o (C9 x)) (G9 (B2s (A6q [Lf.i 0,Lf.o (C9 x)])) (B6y (A6q [Lf.i 0,Lf.o (C9 x)])) 0))))) none))) none) none:=by kernel_rfl
theorem H1r(x:Fea)(hz:I8 x.s=true)(hs:szF x=true):∃ v,(D6 prog E9c 60).call 98 [.agg x.av] (Bg 8) G7=some v/\T9 (Y2 x) v:=by
 rw[G9u]
 simp only[K5,B8v,B3p,E6c,M5]
 by_cases c1:K4 x≠0
 rotate_left
 by_cases c2:x.l.length>8
 rotate_left
 by_cases c3:V6 (A0n x) x.l.length≠0
 rotate_left
 all_goals
  apply exV
  focus
   repeat first
    | exact rfl
    | refine A8 rfl ?_
    | refine C8 rfl ?_
    | refine A8 (by simp only[SBs]; omega) ?_
    | refine C8 (by simp only[SBs]; omega) ?_
    | refine A8 hz ?_
    | refine A8 (F9e (by omega) hs) ?_
    | refine A8 (E5x (by omega) hs) ?_
  focus
   first
    | apply viI
    | apply viS
   dsimp only [Y2]
   repeat first
    | exact rfl
    | omega
    | refine J3 (by omega) ?_
    | refine H5 (by omega) ?_
    | exact(G4m c3).symm
theorem F1w{x:Fea}(h:szF x=true):I8 x.s=true:=by
 unfold szF at h
 rw[bA] at h
 exact h.1
def VAl(x:Fea):Tr AV:=.br (szF x) (.leaf (.sint .i64 (Y2 x))) .fail
def pAl:Prims:=(pFe.addt 93 (Q8 A1p VAl)).addt 98 (Q8 A1p VAl)
theorem E9d{A:Amb}(hT:Tab A)(hG:gN prog<=A.G):PrimOK prog A pAl:=by
 have h0:=F6d hT hG
 refine J4 hG h0 (J4 hG h0 (D7l hT hG) A1p VAl func93 (by kernel_rfl) fun x v hv=>?_) A1p VAl func98 (by kernel_rfl) fun x v hv=>?_
 ·obtain⟨hz,hv⟩:=Tr.br1 hv
  cases hv
  obtain⟨v',h1,h2⟩:=H1o x (F1w hz) hz
  exact⟨v',h1,H8 h2,K7 h2⟩
 ·obtain⟨hz,hv⟩:=Tr.br1 hv
  cases hv
  obtain⟨v',h1,h2⟩:=H1r x (F1w hz) hz
  exact⟨v',h1,H8 h2,K7 h2⟩
def A6s(d:Drw)(s:List UInt8)(n:Nat):Bool:=(D9 d n).s==s
def E5(d:Drw)(s:List UInt8):Int:=D6k (A6s d s) d.l.length
def C5c:Code:=I7 (J8 0 (f116.body.getD .skip))
def sp116:SP:=⟨[.flist 9]++[.is (.func (.func 117) [] [.ptr (some (9,0))])]++dr 5++[.int .i64]++[.int .i64]++dr 10,dd8++[.any,.cells [.str] 0 true 9]⟩
def C7u:AEx->SP
 | .ret=>⟨dr 4++[.int .i64]++dr 14,dd8++[.any,.cells [.drop] 0 true 9]⟩
 | .exit 0=>⟨dr 19,dd8++[.any,.cells [.drop] 0 true 9]⟩
 | _=>sp116
theorem F0e(d:Drw)(s:List UInt8)(n:Int):F3 prog (D6 prog pAl 60) (pAl.blk 116) C5c (sp116.rho [.n d.l.length,.fr (A7 Fea.fv d.l),.i d.l.length,.i n,.o (A9 d),.s s]) (sp116.heap [.n d.l.length,.fr (A7 Fea.fv d.l),.i d.l.length,.i n,.o (A9 d),.s s]) (I1 C7u 10 [9]) =
  brK (decide (n<(d.l.length:Int))) (brK (decide (0<=n/\n<(d.l.length:Int))) (brK ((d.l.getD n.toNat default).s==s) (some (.ret,[.i (n),.o (A9 d)])) (some (.normal,[.n (d.l.length),.fr (A7 Fea.fv d.l),.i ((d.l.length:Int)),.i (W (n+1)),.o (A9 d),.s (s)]))) none) (some (.exit 0,[.o (A9 d)])):=by kernel_rfl
def B6h(x:Drw×List UInt8)(n:Nat):List Lf:=[.n x.1.l.length,.fr (A7 Fea.fv x.1.l),.i x.1.l.length,.i n,.o (A9 x.1),.s x.2]
def D8i:List Lf->Nat->List Lf
 | [_,_,_,_,o,_],n=>[.i n,o]
 | _,_=>[]
def D8u:List Lf->List Lf
 | [_,_,_,_,o,_]=>[o]
 | _=>[]
def C1e(x:Drw×List UInt8):Nat:=x.1.l.length
def D7i(x:Drw×List UInt8)(n:Nat):Bool:=!A6s x.1 x.2 n
def C3b(x:Drw×List UInt8):Prop:=x.1.l.length<2^62
def A6g:List Lf->Drw×List UInt8
 | [_,_,_,_,.o o,.s s]=>(I4 o,s)
 | _=>default
theorem F8c(x:Drw×List UInt8)(hx:C3b x)(n:Nat)(hn:n<=C1e x):F3 prog (D6 prog pAl 60) (pAl.blk 116) C5c (sp116.rho (B6h x n)) (sp116.heap (B6h x n)) (I1 C7u 10 [9])=some (if n<C1e x then(bif D7i x n then(.normal,B6h x (n+1)) else(.ret,D8i (B6h x 0) n)) else(.exit 0,D8u (B6h x 0))):=by
 have h1:=hx
 simp only[C3b] at h1
 simp only[B6h,D8i,D8u]
 rw[F0e,I6 hn h1]
 simp only[tN]
 by_cases h:n<C1e x
 ·rw[if_pos h]
  simp only[C1e] at h
  simp only[D7i,A6s,D9]
  cases hE:(x.1.l.getD n default).s==x.2
  all_goals
   repeat first
    | exact rfl
    | refine A8 rfl ?_
    | refine C8 rfl ?_
    | refine A8 (by simp only[SBs]; omega) ?_
    | refine C8 (by simp only[SBs]; omega) ?_
    | exact congrArg some (A0a (by first | (simp only[SBs]; omega) | simp)).symm
    | exact congrArg some (Z9 (by first | (simp only[SBs]; omega) | simp)).symm
 ·rw[if_neg h]
  simp only[C1e] at h
  repeat first
   | exact rfl
   | refine A8 rfl ?_
   | refine C8 rfl ?_
   | refine A8 (by simp only[SBs]; omega) ?_
   | refine C8 (by simp only[SBs]; omega) ?_
   | exact congrArg some (A0a (by first | (simp only[SBs]; omega) | simp)).symm
   | exact congrArg some (Z9 (by first | (simp only[SBs]; omega) | simp)).symm
def F9q:Blk:=hookP sp116 10 [9] (fdT C7u 0 .ret (.exit 0) A6g B6h D8i D8u C1e D7i C3b)
theorem E6t{A:Amb}{q:Prims}(h0:PrimOK prog A pAl)(hq:PrimOK prog A q):PrimOK prog A (q.addb 116 0 F9q) :=
 SEB.findR (id:=0) (ds:=[9]) (dec:=A6g) (sp:=sp116) (sq:=C7u) (m:=10) (eb:=.ret) (ee:=.exit 0) (L:=B6h) (Lb:=D8i) (Le:=D8u) (N:=C1e) (p:=D7i) (Inv:=C3b) (k:=60) F8 G5 h0 hq func116 (show f116.body=some (f116.body.getD .skip) by kernel_rfl) (body:=C5c) (by kernel_rfl)
  rfl rfl rfl rfl (by simp) (by simp) (fun _ _=>⟨⟨.inr rfl,.inr rfl,.inr rfl,.inr rfl,.inr rfl,.inr rfl,.inr rfl,.inr rfl,.inr rfl,.inl rfl,trivial⟩,⟨.inr rfl,.inr rfl,.inr rfl,.inr rfl,.inr rfl,.inr rfl,.inr rfl,.inr rfl,.inr rfl,.inl rfl,trivial⟩⟩) F8c
def D5k:Code:=I7 (J8 0 (f74.body.getD .skip))
def sp74:SP:=⟨dr 1++[.str]++[.is (.ptr (some (8,0)))]++dr 2++[.int .i64]++dr 16,dd8++[.any]⟩
def E1u:AEx->SP
 | .ret=>⟨dr 4++[.int .i64]++dr 17,dd8++[.any]⟩
 | .exit 0=>⟨dr 22,dd8++[.any]⟩
 | _=>sp74
theorem F7p(d:Drw)(s:List UInt8)(n:Int):F3 prog (D6 prog pAl 60) (pAl.blk 74) D5k (sp74.rho [.s s,.i n,.o (A9 d)]) (sp74.heap [.s s,.i n,.o (A9 d)]) (I1 E1u 9 []) =
  brK (decide (n<(d.l.length:Int))) (brK (decide (0<=n/\n<(d.l.length:Int))) (brK ((d.l.getD n.toNat default).s==s) (some (.ret,[.i (n),.o (A9 d)])) (some (.normal,[.s (s),.i (W (n+1)),.o (A9 d)]))) none) (some (.exit 0,[.o (A9 d)])):=by kernel_rfl
def L74(x:Drw×List UInt8)(n:Nat):List Lf:=[.s x.2,.i n,.o (A9 x.1)]
def F2n:List Lf->Nat->List Lf
 | [_,_,o],n=>[.i n,o]
 | _,_=>[]
def F2x:List Lf->List Lf
 | [_,_,o]=>[o]
 | _=>[]
def N74(x:Drw×List UInt8):Nat:=x.1.l.length
def p74(x:Drw×List UInt8)(n:Nat):Bool:=!A6s x.1 x.2 n
def E3l(x:Drw×List UInt8):Prop:=x.1.l.length<2^62
def B2g:List Lf->Drw×List UInt8
 | [.s s,_,.o o]=>(I4 o,s)
 | _=>default
theorem G5g(x:Drw×List UInt8)(hx:E3l x)(n:Nat)(hn:n<=N74 x):F3 prog (D6 prog pAl 60) (pAl.blk 74) D5k (sp74.rho (L74 x n)) (sp74.heap (L74 x n)) (I1 E1u 9 [])=some (if n<N74 x then(bif p74 x n then(.normal,L74 x (n+1)) else(.ret,F2n (L74 x 0) n)) else(.exit 0,F2x (L74 x 0))):=by
 have h1:=hx
 simp only[E3l] at h1
 simp only[L74,F2n,F2x]
 rw[F7p,I6 hn h1]
 simp only[tN]
 by_cases h:n<N74 x
 ·rw[if_pos h]
  simp only[N74] at h
  simp only[p74,A6s,D9]
  cases hE:(x.1.l.getD n default).s==x.2
  all_goals
   repeat first
    | exact rfl
    | refine A8 rfl ?_
    | refine C8 rfl ?_
    | refine A8 (by simp only[SBs]; omega) ?_
    | refine C8 (by simp only[SBs]; omega) ?_
    | exact congrArg some (A0a (by first | (simp only[SBs]; omega) | simp)).symm
    | exact congrArg some (Z9 (by first | (simp only[SBs]; omega) | simp)).symm
 ·rw[if_neg h]
  simp only[N74] at h
  repeat first
   | exact rfl
   | refine A8 rfl ?_
   | refine C8 rfl ?_
   | refine A8 (by simp only[SBs]; omega) ?_
   | refine C8 (by simp only[SBs]; omega) ?_
   | exact congrArg some (A0a (by first | (simp only[SBs]; omega) | simp)).symm
   | exact congrArg some (Z9 (by first | (simp only[SBs]; omega) | simp)).symm
def G6u:Blk:=hookP sp74 9 [] (fdT E1u 0 .ret (.exit 0) B2g L74 F2n F2x N74 p74 E3l)
theorem F5e{A:Amb}{q:Prims}(h0:PrimOK prog A pAl)(hq:PrimOK prog A q):PrimOK prog A (q.addb 74 0 G6u) :=
 SEB.findR (id:=0) (ds:=[]) (dec:=B2g) (sp:=sp74) (sq:=E1u) (m:=9) (eb:=.ret) (ee:=.exit 0) (L:=L74) (Lb:=F2n) (Le:=F2x) (N:=N74) (p:=p74) (Inv:=E3l) (k:=60) F8 G5 h0 hq func74 (show f74.body=some (f74.body.getD .skip) by kernel_rfl) (body:=D5k) (by kernel_rfl)
  rfl rfl rfl rfl (by simp) (by simp) (fun _ _=>⟨⟨.inr rfl,.inr rfl,.inr rfl,.inr rfl,.inr rfl,.inr rfl,.inr rfl,.inr rfl,.inr rfl,trivial⟩,⟨.inr rfl,.inr rfl,.inr rfl,.inr rfl,.inr rfl,.inr rfl,.inr rfl,.inr rfl,.inr rfl,trivial⟩⟩) G5g
theorem B3o(d:Drw)(s:List UInt8)(a b c e:Lf):A6g [a,b,c,e,Lf.o (A9 d),Lf.s s]=(d,s):=by simp[A6g,E8]
theorem C6h{d:Drw}{s:List UInt8}(h:d.l.length<2^62):fdC B6h A6g C3b [Lf.n d.l.length,Lf.fr (A7 Fea.fv d.l),Lf.i d.l.length,Lf.i 0,Lf.o (A9 d),Lf.s s]=true:=J5 (L:=B6h) (x:=(d,s)) (B3o d s _ _ _ _) h
theorem B8r(d:Drw)(s:List UInt8)(a:Lf):B2g [Lf.s s,a,Lf.o (A9 d)]=(d,s):=by simp[B2g,E8]
theorem D9y{d:Drw}{s:List UInt8}(h:d.l.length<2^62):fdC L74 B2g E3l [Lf.s s,Lf.i 0,Lf.o (A9 d)]=true:=J5 (L:=L74) (x:=(d,s)) (B8r d s _) h
theorem E5y(d:Drw)(s:List UInt8):fdE D7i C1e (d,s)=decide (A2s (A6s d s) d.l.length=d.l.length):=rfl
theorem F9h(d:Drw)(s:List UInt8):fdE p74 N74 (d,s)=decide (A2s (A6s d s) d.l.length=d.l.length):=rfl
def E9j:Prims:=(pAl.addb 116 0 F9q).addb 74 0 G6u
theorem F6n{A:Amb}(hT:Tab A)(hG:gN prog<=A.G):PrimOK prog A E9j:=by
 have h0:=E9d hT hG
 exact F5e h0 (E6t h0 h0)
def B0c:Par (Drw×List UInt8) where
 get:=fun | [.agg l,a]=>(match D0p l,sstr? a with | some (c,x),some s=>some (c,(x,s)) | _,_=>none) | _=>none
 av:=fun x=>[.agg x.1.av,.sstr x.2]
 ok:=by
  intro l x h Z vs hv
  split at h
  ·split at h
   ·rename_i h1 h2
    simp only[sI,pI] at h
    obtain⟨rfl,rfl⟩:=h
    simp only[VRL,VR] at hv ⊢
    obtain⟨y,r,e,⟨a,q1,q2⟩,y2,r2,e2,q4,q3⟩:=hv
    exact⟨y,r,e,⟨a,q1,C6g h1 q2⟩,y2,r2,e2,O3 h2 q4,q3⟩
   ·cases h
  ·cases h
 free:=fun _=>rfl
theorem G9i(d:Drw)(s:List UInt8):(D6 prog E9j 60).call 62 [.agg d.av,.sstr s] (Bg 8) G7 =
  brK (fdC B6h A6g C3b [Lf.n d.l.length,Lf.fr (A7 Fea.fv d.l),Lf.i (d.l.length:Int),Lf.i 0,Lf.o (A9 d),Lf.s s]) (brK (fdE D7i C1e (A6g [Lf.n d.l.length,Lf.fr (A7 Fea.fv d.l),Lf.i (d.l.length:Int),Lf.i 0,Lf.o (A9 d),Lf.s s])) (some (.int .i64 (-1))) (some (.sint IntKind.i64 (((G9 (D7i (A6g [Lf.n d.l.length,Lf.fr (A7 Fea.fv d.l),Lf.i (d.l.length:Int),Lf.i 0,Lf.o (A9 d),Lf.s s])) (C1e (A6g [Lf.n d.l.length,Lf.fr (A7 Fea.fv d.l),Lf.i (d.l.length:Int),Lf.i 0,Lf.o (A9 d),Lf.s s])) 0):Int))))) none:=by kernel_rfl
theorem H1j(d:Drw)(s:List UInt8)(hl:d.l.length<2^62):∃ v,(D6 prog E9j 60).call 62 [.agg d.av,.sstr s] (Bg 8) G7=some v/\T9 (E5 d s) v:=by
 rw[G9i]
 simp only[B3o,E5y]
 by_cases c1:A2s (A6s d s) d.l.length=d.l.length
 ·apply exV
  focus
   repeat first
    | exact rfl
    | refine A8 rfl ?_
    | refine C8 rfl ?_
    | refine A8 (by simp only[SBs]; omega) ?_
    | refine C8 (by simp only[SBs]; omega) ?_
    | refine A8 (C6h hl) ?_
    | refine A8 (D9y hl) ?_
  focus
   first
    | apply viI
    | apply viS
   dsimp only [E5,D6k]
   repeat first
    | exact rfl
    | omega
    | refine J3 (by omega) ?_
    | refine H5 (by omega) ?_
 apply exV
 focus
  repeat first
   | exact rfl
   | refine A8 rfl ?_
   | refine C8 rfl ?_
   | refine A8 (by simp only[SBs]; omega) ?_
   | refine C8 (by simp only[SBs]; omega) ?_
   | refine A8 (C6h hl) ?_
   | refine A8 (D9y hl) ?_
 focus
  first
   | apply viI
   | apply viS
  dsimp only [E5,D6k]
  repeat first
   | exact rfl
   | omega
   | refine J3 (by omega) ?_
   | refine H5 (by omega) ?_
theorem G9j(d:Drw)(s:List UInt8):(D6 prog E9j 60).call 74 [.agg d.av,.sstr s] (Bg 8) G7 =
  brK (fdC L74 B2g E3l [Lf.s s,Lf.i 0,Lf.o (A9 d)]) (brK (fdE p74 N74 (B2g [Lf.s s,Lf.i 0,Lf.o (A9 d)])) (some (.int .i64 (-1))) (some (.sint IntKind.i64 (((G9 (p74 (B2g [Lf.s s,Lf.i 0,Lf.o (A9 d)])) (N74 (B2g [Lf.s s,Lf.i 0,Lf.o (A9 d)])) 0):Int))))) none:=by kernel_rfl
theorem H1k(d:Drw)(s:List UInt8)(hl:d.l.length<2^62):∃ v,(D6 prog E9j 60).call 74 [.agg d.av,.sstr s] (Bg 8) G7=some v/\T9 (E5 d s) v:=by
 rw[G9j]
 simp only[B8r,F9h]
 by_cases c1:A2s (A6s d s) d.l.length=d.l.length
 ·apply exV
  focus
   repeat first
    | exact rfl
    | refine A8 rfl ?_
    | refine C8 rfl ?_
    | refine A8 (by simp only[SBs]; omega) ?_
    | refine C8 (by simp only[SBs]; omega) ?_
    | refine A8 (C6h hl) ?_
    | refine A8 (D9y hl) ?_
  focus
   first
    | apply viI
    | apply viS
   dsimp only [E5,D6k]
   repeat first
    | exact rfl
    | omega
    | refine J3 (by omega) ?_
    | refine H5 (by omega) ?_
 apply exV
 focus
  repeat first
   | exact rfl
   | refine A8 rfl ?_
   | refine C8 rfl ?_
   | refine A8 (by simp only[SBs]; omega) ?_
   | refine C8 (by simp only[SBs]; omega) ?_
   | refine A8 (C6h hl) ?_
   | refine A8 (D9y hl) ?_
 focus
  first
   | apply viI
   | apply viS
  dsimp only [E5,D6k]
  repeat first
   | exact rfl
   | omega
   | refine J3 (by omega) ?_
   | refine H5 (by omega) ?_
def VIx(x:Drw×List UInt8):Tr AV:=.br (decide (x.1.l.length<2^62)) (.leaf (.sint .i64 (E5 x.1 x.2))) .fail
def pIx:Prims:=(pAl.addt 62 (Q8 B0c VIx)).addt 74 (Q8 B0c VIx)
theorem E9k{A:Amb}(hT:Tab A)(hG:gN prog<=A.G):PrimOK prog A pIx:=by
 have h0:=F6n hT hG
 refine J4 hG h0 (J4 hG h0 (E9d hT hG) B0c VIx func62 (by kernel_rfl) fun x v hv=>?_) B0c VIx func74 (by kernel_rfl) fun x v hv=>?_
 ·obtain⟨hz,hv⟩:=Tr.br1 hv
  cases hv
  obtain⟨v',h1,h2⟩:=H1j x.1 x.2 (of_decide_eq_true hz)
  exact⟨v',h1,H8 h2,K7 h2⟩
 ·obtain⟨hz,hv⟩:=Tr.br1 hv
  cases hv
  obtain⟨v',h1,h2⟩:=H1k x.1 x.2 (of_decide_eq_true hz)
  exact⟨v',h1,H8 h2,K7 h2⟩
end Go.Proofs.Tryz
