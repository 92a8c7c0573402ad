/- Drawings: frames of features. -/
import Derived.Test.YtoboneiigikidaaGreatDoorPl
noncomputable section
namespace Go.Proofs.Tryz
open Go.Ad
def C4y:Code:=I7 (J6 0 (f214.body.getD .skip))
def sp214:SP:=⟨[.flist 2]++[.is (.func (.func 170) [] [.ptr (some (8,0))])]++dr 5++[.int .i64]++[.int .i64]++dr 10,dd8++[.any,.any,.cells [.drop,.drop,.drop,.drop,.drop,.drop] 0 true 187]⟩
def C7w:AEx->SP
 | .ret=>⟨dr 4++[.int .i64]++dr 14,dd8++[.any,.any,.cells [.drop,.drop,.drop,.drop,.drop,.drop] 0 true 187]⟩
 | .exit 0=>⟨dr 19,dd8++[.any,.any,.cells [.drop,.drop,.drop,.drop,.drop,.drop] 0 true 187]⟩
 | _=>sp214
theorem F0d(f:Fea)(y:Frm)(l:List Dat)(n:Int):E8 prog (D5 prog pPl 60) (pPl.blk 214) C4y (sp214.rho [.n l.length,.fr (A7 Dat.fv l),.i l.length,.i n,.o (F5 f),.o (Q8 y)]) (sp214.heap [.n l.length,.fr (A7 Dat.fv l),.i l.length,.i n,.o (F5 f),.o (Q8 y)]) (H9 C7w 11 [10]) =
  brK (decide (n<(l.length:Int))) (brK (decide (0<=n/\n<(l.length:Int))) (brK ((l.getD n.toNat default).s==f.s) (some (.ret,[.i n,.o (F5 f),.o (Q8 y)])) (some (.normal,[.n (l.length),.fr (fun i=>(l.getD i default).fv),.i (l.length),.i (W (n+1)),.o (F5 f),.o (Q8 y)]))) none) (some (.exit 0,[.o (F5 f),.o (Q8 y)])):=by kernel_rfl
def B6c(x:Fea×Frm×List Dat)(n:Nat):List Lf:=[.n x.2.2.length,.fr (A7 Dat.fv x.2.2),.i x.2.2.length,.i n,.o (F5 x.1),.o (Q8 x.2.1)]
def D8e:List Lf->Nat->List Lf
 | [_,_,_,_,o,q],n=>[.i n,o,q]
 | _,_=>[]
def D8q:List Lf->List Lf
 | [_,_,_,_,o,q]=>[o,q]
 | _=>[]
def C3z(x:Fea×Frm×List Dat):Nat:=x.2.2.length
def E3m(x:Fea×Frm×List Dat)(n:Nat):Bool:=!((x.2.2.getD n default).s==x.1.s)
def B8u(x:Fea×Frm×List Dat):Prop:=x.2.2.length<2^62
def A6b:List Lf->Fea×Frm×List Dat
 | [.n m,.fr g,_,_,.o f,.o y]=>(A2d f,D2p y,ofR Dat.fv m g)
 | _=>default
theorem F8a(x:Fea×Frm×List Dat)(hx:B8u x)(n:Nat)(hn:n<=C3z x):E8 prog (D5 prog pPl 60) (pPl.blk 214) C4y (sp214.rho (B6c x n)) (sp214.heap (B6c x n)) (H9 C7w 11 [10])=some (if n<C3z x then(bif E3m x n then(.normal,B6c x (n+1)) else(.ret,D8e (B6c x 0) n)) else(.exit 0,D8q (B6c x 0))):=by
 have h1:=hx
 simp only[B8u] at h1
 simp only[B6c,D8e,D8q]
 rw[F0d,I5 hn h1]
 simp only[tN]
 by_cases h:n<C3z x
 ·rw[if_pos h]
  simp only[C3z] at h
  simp only[E3m]
  cases hE:(x.2.2.getD n default).s==x.1.s
  all_goals
   repeat first
    | exact rfl
    | refine A8 rfl ?_
    | refine C8 rfl ?_
    | refine A8 (by simp only[SBs]; omega) ?_
    | refine C8 (by simp only[SBs]; omega) ?_
    | exact congrArg some (Y3 (by first | (simp only[SBs]; omega) | simp)).symm
    | exact congrArg some (Y2 (by first | (simp only[SBs]; omega) | simp)).symm
 ·rw[if_neg h]
  simp only[C3z] at h
  repeat first
   | exact rfl
   | refine A8 rfl ?_
   | refine C8 rfl ?_
   | refine A8 (by simp only[SBs]; omega) ?_
   | refine C8 (by simp only[SBs]; omega) ?_
   | exact congrArg some (Y3 (by first | (simp only[SBs]; omega) | simp)).symm
   | exact congrArg some (Y2 (by first | (simp only[SBs]; omega) | simp)).symm
def F9q:Blk:=hookP sp214 11 [10] (fdT C7w 0 .ret (.exit 0) A6b B6c D8e D8q C3z E3m B8u)
theorem E6q{A:Amb}{q:Prims}(h0:PrimOK prog A pPl)(hq:PrimOK prog A q):PrimOK prog A (q.addb 214 0 F9q) :=
 SEB.findR (id:=0) (ds:=[10]) (dec:=A6b) (sp:=sp214) (sq:=C7w) (m:=11) (eb:=.ret) (ee:=.exit 0) (L:=B6c) (Lb:=D8e) (Le:=D8q) (N:=C3z) (p:=E3m) (Inv:=B8u) (k:=60) F7 F9 h0 hq func214 (show f214.body=some (f214.body.getD .skip) by kernel_rfl) (body:=C4y) (by kernel_rfl)
  rfl rfl rfl rfl (by simp) (by simp) (fun _ _=>⟨⟨.inr rfl,.inr rfl,.inr rfl,.inr rfl,.inr rfl,.inr rfl,.inr rfl,.inr rfl,.inr rfl,.inr rfl,.inr rfl,trivial⟩,⟨.inr rfl,.inr rfl,.inr rfl,.inr rfl,.inr rfl,.inr rfl,.inr rfl,.inr rfl,.inr rfl,.inr rfl,.inr rfl,trivial⟩⟩) F8a
def C4x:Code:=I7 (J6 0 (f151.body.getD .skip))
def sp151:SP:=⟨dr 2++[.is (.ptr (some (8,0)))]++[.is (.ptr (some (9,0)))]++dr 4++[.int .i64]++dr 32,dd8++[.any,.any]⟩
def C7v:AEx->SP
 | .ret=>⟨dr 4++[.int .i64]++dr 36,dd8++[.any,.any]⟩
 | .exit 0=>⟨dr 41,dd8++[.any,.any]⟩
 | _=>sp151
theorem F0c(f:Fea)(y:Frm)(n:Int):E8 prog (D5 prog pPl 60) (pPl.blk 151) C4x (sp151.rho [.i n,.o (F5 f),.o (Q8 y)]) (sp151.heap [.i n,.o (F5 f),.o (Q8 y)]) (H9 C7v 10 []) =
  brK (decide (n<(y.l.length:Int))) (brK (decide (0<=n/\n<(y.l.length:Int))) (brK ((y.l.getD n.toNat default).s==f.s) (some (.ret,[.i 7,.o (F5 f),.o (Q8 y)])) (some (.normal,[.i (W (n+1)),.o (F5 f),.o (Q8 y)]))) none) (some (.exit 0,[.o (F5 f),.o (Q8 y)])):=by kernel_rfl
def B6b(x:Fea×Frm)(n:Nat):List Lf:=[.i n,.o (F5 x.1),.o (Q8 x.2)]
def D8d:List Lf->Nat->List Lf
 | [_,o,q],_=>[.i 7,o,q]
 | _,_=>[]
def D8p:List Lf->List Lf
 | [_,o,q]=>[o,q]
 | _=>[]
def C0s(x:Fea×Frm):Nat:=x.2.l.length
def D7d(x:Fea×Frm)(n:Nat):Bool:=!((V4 x.2 n).s==x.1.s)
def B8t(x:Fea×Frm):Prop:=x.2.l.length<2^62
def A6a:List Lf->Fea×Frm
 | [_,.o f,.o y]=>(A2d f,D2p y)
 | _=>default
theorem F7z(x:Fea×Frm)(hx:B8t x)(n:Nat)(hn:n<=C0s x):E8 prog (D5 prog pPl 60) (pPl.blk 151) C4x (sp151.rho (B6b x n)) (sp151.heap (B6b x n)) (H9 C7v 10 [])=some (if n<C0s x then(bif D7d x n then(.normal,B6b x (n+1)) else(.ret,D8d (B6b x 0) n)) else(.exit 0,D8p (B6b x 0))):=by
 have h1:=hx
 simp only[B8t] at h1
 simp only[B6b,D8d,D8p]
 rw[F0c,I5 hn h1]
 simp only[tN]
 by_cases h:n<C0s x
 ·rw[if_pos h]
  simp only[C0s] at h
  simp only[D7d,V4]
  cases hE:(x.2.l.getD n default).s==x.1.s
  all_goals
   repeat first
    | exact rfl
    | refine A8 rfl ?_
    | refine C8 rfl ?_
    | refine A8 (by simp only[SBs]; omega) ?_
    | refine C8 (by simp only[SBs]; omega) ?_
    | exact congrArg some (Y3 (by first | (simp only[SBs]; omega) | simp)).symm
    | exact congrArg some (Y2 (by first | (simp only[SBs]; omega) | simp)).symm
 ·rw[if_neg h]
  simp only[C0s] at h
  repeat first
   | exact rfl
   | refine A8 rfl ?_
   | refine C8 rfl ?_
   | refine A8 (by simp only[SBs]; omega) ?_
   | refine C8 (by simp only[SBs]; omega) ?_
   | exact congrArg some (Y3 (by first | (simp only[SBs]; omega) | simp)).symm
   | exact congrArg some (Y2 (by first | (simp only[SBs]; omega) | simp)).symm
def F9p:Blk:=hookP sp151 10 [] (fdT C7v 0 .ret (.exit 0) A6a B6b D8d D8p C0s D7d B8t)
theorem E6p{A:Amb}{q:Prims}(h0:PrimOK prog A pPl)(hq:PrimOK prog A q):PrimOK prog A (q.addb 151 0 F9p) :=
 SEB.findR (id:=0) (ds:=[]) (dec:=A6a) (sp:=sp151) (sq:=C7v) (m:=10) (eb:=.ret) (ee:=.exit 0) (L:=B6b) (Lb:=D8d) (Le:=D8p) (N:=C0s) (p:=D7d) (Inv:=B8t) (k:=60) F7 F9 h0 hq func151 (show f151.body=some (f151.body.getD .skip) by kernel_rfl) (body:=C4x) (by kernel_rfl)
  rfl rfl rfl rfl (by simp) (by simp) (fun _ _=>⟨⟨.inr rfl,.inr rfl,.inr rfl,.inr rfl,.inr rfl,.inr rfl,.inr rfl,.inr rfl,.inr rfl,.inr rfl,trivial⟩,⟨.inr rfl,.inr rfl,.inr rfl,.inr rfl,.inr rfl,.inr rfl,.inr rfl,.inr rfl,.inr rfl,.inr rfl,trivial⟩⟩) F7z
theorem C1w(f:Fea)(y:Frm)(l:List Dat):A6b [Lf.n l.length,Lf.fr (A7 Dat.fv l),Lf.i l.length,Lf.i 0,Lf.o (F5 f),Lf.o (Q8 y)]=(f,y,l):=by simp[A6b,O0,B9l,I1 Dat.inj]
theorem G2n{f:Fea}{y:Frm}{l:List Dat}(h1:l.length<2^62):fdC B6c A6b B8u [Lf.n l.length,Lf.fr (A7 Dat.fv l),Lf.i l.length,Lf.i 0,Lf.o (F5 f),Lf.o (Q8 y)]=true:=J5 (x:=(f,y,l)) (C1w f y l) h1
theorem C1v(f:Fea)(y:Frm):A6a [Lf.i 0,Lf.o (F5 f),Lf.o (Q8 y)]=(f,y):=by simp[A6a,O0,B9l]
theorem G2m{f:Fea}{y:Frm}(h1:y.l.length<2^62):fdC B6b A6a B8t [Lf.i 0,Lf.o (F5 f),Lf.o (Q8 y)]=true:=J5 (x:=(f,y)) (C1v f y) h1
def D7h:Prims:=(pPl.addb 214 0 F9q).addb 151 0 F9p
theorem F6f{A:Amb}(hT:Tab A)(hG:gN prog<=A.G):PrimOK prog A D7h:=by
 have h0:=E9m hT hG
 exact E6p h0 (E6q h0 h0)
def onL:List (List Bool):=[[false,true,true,false,false],[true,false,false,true,false],[true,true,true,true,false],[true,true,true,true,false],[false,true,true,false,true],[false,false,false,false,true],[true,false,false,false,false],[true,true,true,false,false],[true,true,true,true,true]]
def dcL:List (List Bool):=[[false,true,true,false,false],[],[false,true,true,false,false],[false,true,true,false,false],[],[],[],[],[false,true,true,false,true]]
def onT(k f:Int):Bool:=(onL.getD k.toNat []).getD f.toNat false
def dcT(k f:Int):Bool:=(dcL.getD k.toNat []).getD f.toNat false
def mtT(k f:Int):Bool:=([true,false,true,true,false,false,false,false,true]:List Bool).getD k.toNat false&&(f != 0)
def lsT(k:Int):Int:=([0,0,1,1,0,0,0,1,0]:List Int).getD k.toNat 0
def msT(k:Int):Int:=([0,0,2,2,0,0,3,1,3]:List Int).getD k.toNat 0
abbrev nT(ls ms:Int)(n:Nat)(c e:Bool)(v:AV):Option AV:=brK (decide ((n:Int)<ls)) (some (.int .i64 13)) (brK (decide ((n:Int)>ms)) (some (.int .i64 5)) (brK c (brK e (some (.int .i64 0)) (some v)) none))
abbrev mT(mt:Bool)(m:Int)(r:Option AV):Option AV:=brK (m != 0) (bif mt then r else some (.int .i64 3)) r
abbrev tT(t m:Int)(r:Option AV):Option AV:=brK (t==0) (brK (m != 1) (some (.int .i64 10)) r) r
abbrev uT(dc u:Bool)(r:Option AV):Option AV:=brK u (bif dc then r else some (.int .i64 3)) r
def frT(f:Fea)(x:Frm)(c e:Bool)(v:AV):Option AV:=bif onT x.k f.k then uT (dcT x.k f.k) x.d (tT x.t x.m (mT (mtT x.k f.k) x.m (nT (lsT x.k) (msT x.k) x.l.length c e v))) else some (.int .i64 14)
abbrev E3o(f:Fea)(x:Frm)(r:Option AV):Option AV:=brK (E9 (okR Frm.fv f.l.length (A7 Frm.fv f.l))) (brK (I9 f.s) (brK (K3 { f with l:=ofR Frm.fv f.l.length (A7 Frm.fv f.l) } != 0) (some (.sint .i64 (K3 { f with l:=ofR Frm.fv f.l.length (A7 Frm.fv f.l) })))
 (brK (E9 (okR Dat.fv x.l.length (A7 Dat.fv x.l))) (brK (szD (ofR Dat.fv x.l.length (A7 Dat.fv x.l))) (brK (K8 { x with l:=ofR Dat.fv x.l.length (A7 Dat.fv x.l) } != 0) (some (.sint .i64 (K8 { x with l:=ofR Dat.fv x.l.length (A7 Dat.fv x.l) }))) r) none) none)) none) none
abbrev F5j(f:Fea)(x:Frm):List Lf:=[Lf.n x.l.length,Lf.fr (A7 Dat.fv x.l),Lf.i x.l.length,Lf.i 0,Lf.o (F5 f),Lf.o (Q8 x)]
abbrev F5i(f:Fea)(x:Frm):List Lf:=[Lf.i 0,Lf.o (F5 f),Lf.o (Q8 x)]
abbrev A0z(f:Fea)(x:Frm):Prop:=(D5 prog D7h 60).call 107 [.agg f.av,.agg x.av] (Bg 8) F8=E3o f x (frT f x (fdC B6c A6b B8u (F5j f x)) (fdE E3m C3z (A6b (F5j f x))) (.int .i64 7))
abbrev A1a(f:Fea)(x:Frm):Prop:=(D5 prog D7h 60).call 151 [.agg f.av,.agg x.av] (Bg 8) F8=E3o f x (frT f x (fdC B6b A6a B8t (F5i f x)) (fdE D7d C0s (A6a (F5i f x))) (.sint .i64 7))
abbrev setF(f:Fea)(k:Int):Fea:={ f with k:=k }
abbrev A7e(x:Frm)(k:Int):Frm:={ x with k:=k }
theorem C6n{k:Int}(h:0<=k/\k<9):k=0 \/ k=1 \/ k=2 \/ k=3 \/ k=4 \/ k=5 \/ k=6 \/ k=7 \/ k=8:=by omega
theorem X3{k:Int}(h:0<=k/\k<5):k=0 \/ k=1 \/ k=2 \/ k=3 \/ k=4:=by omega
theorem F3x(f:Fea)(x:Frm){q:Int}(h:0<=q/\q<5):A0z (setF f q) (A7e x 0):=by
 rcases X3 h with rfl | rfl | rfl | rfl | rfl<;>(delta A0z; kernel_rfl)
theorem F3y(f:Fea)(x:Frm){q:Int}(h:0<=q/\q<5):A0z (setF f q) (A7e x 1):=by
 rcases X3 h with rfl | rfl | rfl | rfl | rfl<;>(delta A0z; kernel_rfl)
theorem F3z(f:Fea)(x:Frm){q:Int}(h:0<=q/\q<5):A0z (setF f q) (A7e x 2):=by
 rcases X3 h with rfl | rfl | rfl | rfl | rfl<;>(delta A0z; kernel_rfl)
theorem F4a(f:Fea)(x:Frm){q:Int}(h:0<=q/\q<5):A0z (setF f q) (A7e x 3):=by
 rcases X3 h with rfl | rfl | rfl | rfl | rfl<;>(delta A0z; kernel_rfl)
theorem F4b(f:Fea)(x:Frm){q:Int}(h:0<=q/\q<5):A0z (setF f q) (A7e x 4):=by
 rcases X3 h with rfl | rfl | rfl | rfl | rfl<;>(delta A0z; kernel_rfl)
theorem F4c(f:Fea)(x:Frm){q:Int}(h:0<=q/\q<5):A0z (setF f q) (A7e x 5):=by
 rcases X3 h with rfl | rfl | rfl | rfl | rfl<;>(delta A0z; kernel_rfl)
theorem F4d(f:Fea)(x:Frm){q:Int}(h:0<=q/\q<5):A0z (setF f q) (A7e x 6):=by
 rcases X3 h with rfl | rfl | rfl | rfl | rfl<;>(delta A0z; kernel_rfl)
theorem F4e(f:Fea)(x:Frm){q:Int}(h:0<=q/\q<5):A0z (setF f q) (A7e x 7):=by
 rcases X3 h with rfl | rfl | rfl | rfl | rfl<;>(delta A0z; kernel_rfl)
theorem F4f(f:Fea)(x:Frm){q:Int}(h:0<=q/\q<5):A0z (setF f q) (A7e x 8):=by
 rcases X3 h with rfl | rfl | rfl | rfl | rfl<;>(delta A0z; kernel_rfl)
theorem E2v(f:Fea)(x:Frm)(h:0<=f.k/\f.k<5)(h2:0<=x.k/\x.k<9):A0z f x:=by
 obtain⟨k,u,t,m,l⟩:=x
 rcases C6n h2 with h3 | h3 | h3 | h3 | h3 | h3 | h3 | h3 | h3<;>(simp only at h3; subst h3)
 ·exact F3x f ⟨0,u,t,m,l⟩ h
 ·exact F3y f ⟨0,u,t,m,l⟩ h
 ·exact F3z f ⟨0,u,t,m,l⟩ h
 ·exact F4a f ⟨0,u,t,m,l⟩ h
 ·exact F4b f ⟨0,u,t,m,l⟩ h
 ·exact F4c f ⟨0,u,t,m,l⟩ h
 ·exact F4d f ⟨0,u,t,m,l⟩ h
 ·exact F4e f ⟨0,u,t,m,l⟩ h
 ·exact F4f f ⟨0,u,t,m,l⟩ h
theorem F4g(f:Fea)(x:Frm){q:Int}(h:0<=q/\q<5):A1a (setF f q) (A7e x 0):=by
 rcases X3 h with rfl | rfl | rfl | rfl | rfl<;>(delta A1a; kernel_rfl)
theorem F4h(f:Fea)(x:Frm){q:Int}(h:0<=q/\q<5):A1a (setF f q) (A7e x 1):=by
 rcases X3 h with rfl | rfl | rfl | rfl | rfl<;>(delta A1a; kernel_rfl)
theorem F4i(f:Fea)(x:Frm){q:Int}(h:0<=q/\q<5):A1a (setF f q) (A7e x 2):=by
 rcases X3 h with rfl | rfl | rfl | rfl | rfl<;>(delta A1a; kernel_rfl)
theorem F4j(f:Fea)(x:Frm){q:Int}(h:0<=q/\q<5):A1a (setF f q) (A7e x 3):=by
 rcases X3 h with rfl | rfl | rfl | rfl | rfl<;>(delta A1a; kernel_rfl)
theorem F4k(f:Fea)(x:Frm){q:Int}(h:0<=q/\q<5):A1a (setF f q) (A7e x 4):=by
 rcases X3 h with rfl | rfl | rfl | rfl | rfl<;>(delta A1a; kernel_rfl)
theorem F4l(f:Fea)(x:Frm){q:Int}(h:0<=q/\q<5):A1a (setF f q) (A7e x 5):=by
 rcases X3 h with rfl | rfl | rfl | rfl | rfl<;>(delta A1a; kernel_rfl)
theorem F4m(f:Fea)(x:Frm){q:Int}(h:0<=q/\q<5):A1a (setF f q) (A7e x 6):=by
 rcases X3 h with rfl | rfl | rfl | rfl | rfl<;>(delta A1a; kernel_rfl)
theorem F4n(f:Fea)(x:Frm){q:Int}(h:0<=q/\q<5):A1a (setF f q) (A7e x 7):=by
 rcases X3 h with rfl | rfl | rfl | rfl | rfl<;>(delta A1a; kernel_rfl)
theorem F4o(f:Fea)(x:Frm){q:Int}(h:0<=q/\q<5):A1a (setF f q) (A7e x 8):=by
 rcases X3 h with rfl | rfl | rfl | rfl | rfl<;>(delta A1a; kernel_rfl)
theorem E2w(f:Fea)(x:Frm)(h:0<=f.k/\f.k<5)(h2:0<=x.k/\x.k<9):A1a f x:=by
 obtain⟨k,u,t,m,l⟩:=x
 rcases C6n h2 with h3 | h3 | h3 | h3 | h3 | h3 | h3 | h3 | h3<;>(simp only at h3; subst h3)
 ·exact F4g f ⟨0,u,t,m,l⟩ h
 ·exact F4h f ⟨0,u,t,m,l⟩ h
 ·exact F4i f ⟨0,u,t,m,l⟩ h
 ·exact F4j f ⟨0,u,t,m,l⟩ h
 ·exact F4k f ⟨0,u,t,m,l⟩ h
 ·exact F4l f ⟨0,u,t,m,l⟩ h
 ·exact F4m f ⟨0,u,t,m,l⟩ h
 ·exact F4n f ⟨0,u,t,m,l⟩ h
 ·exact F4o f ⟨0,u,t,m,l⟩ h
theorem D0y{A:Amb}(hG:gN prog<=A.G){q:Prims}(hq:PrimOK prog A q){f:FuncId}{fn:Func}(hf:prog.funcs[f]?=some fn)(hc:fn.body.isSome=true):PrimOK prog A (q.addt f fun _=>.fail) :=
 PrimOK.addD F7 F9 hq hG hf hc fun _ _ h=>by cases h
theorem B8k(f:Fea):(⟨f.s,f.k,f.a,f.x,f.y,f.z,f.lo,f.hi,ofR Frm.fv f.l.length (A7 Frm.fv f.l)⟩:Fea)=f:=by rw[I1 Frm.inj]
theorem E5y(x:Frm):(⟨x.k,x.d,x.t,x.m,ofR Dat.fv x.l.length (A7 Dat.fv x.l)⟩:Frm)=x:=by rw[I1 Dat.inj]
theorem F1v(l:List Dat):szD (ofR Dat.fv l.length (A7 Dat.fv l))=szD l:=by rw[I1 Dat.inj]
def nmD(f:Fea)(x:Frm):Bool:=fdE D7d C0s (f,x)
def X6(f:Fea)(x:Frm):Int:=if K3 f≠0 then K3 f else if K8 x≠0 then K8 x else if onT x.k f.k=false then 14 else if x.d=true/\dcT x.k f.k=false then 3 else if x.t=0/\x.m≠1 then 10
 else if x.m≠0/\mtT x.k f.k=false then 3 else if(x.l.length:Int)<lsT x.k then 13 else if(x.l.length:Int)>msT x.k then 5 else if nmD f x=false then 7 else 0
def D7i:Prims:=(pPl.addt 158 fun _=>.fail).addt 202 fun _=>.fail
theorem B0f{f:Fea}(h:K3 f=0):0<=f.k/\f.k<5:=by
 refine Classical.byContradiction fun hn=>?_
 unfold K3 at h
 split at h
 ·omega
 ·rw[if_pos (by omega)] at h; omega
theorem B0g{x:Frm}(h:K8 x=0):0<=x.k/\x.k<9:=by
 refine Classical.byContradiction fun hn=>?_
 unfold K8 at h
 rw[if_pos (by omega)] at h; omega
theorem C2n{x:Frm}(h:K8 x=0):x.l.length<=3:=by
 obtain⟨k,u,t,m,l⟩:=x
 match l with
 | [] | [_] | [_,_] | [_,_,_]=>simp
 | a::b::c::d::r =>
  unfold K8 at h
  split at h
  ·omega
  ·split at h
   ·omega
   ·split at h
    ·omega
    ·simp only[A2i] at h; omega
theorem F7n(f:Fea)(x:Frm):(D5 prog D7i 60).call 107 [.agg f.av,.agg x.av] (Bg 8) F8 =
  brK (E9 (okR Frm.fv f.l.length (A7 Frm.fv f.l))) (brK (I9 f.s) (brK (K3 { s:=f.s,k:=f.k,a:=f.a,x:=f.x,y:=f.y,z:=f.z,lo:=f.lo,hi:=f.hi,l:=ofR Frm.fv f.l.length (A7 Frm.fv f.l) } != 0) (some (.sint IntKind.i64 (K3 { s:=f.s,k:=f.k,a:=f.a,x:=f.x,y:=f.y,z:=f.z,lo:=f.lo,hi:=f.hi,l:=ofR Frm.fv f.l.length (A7 Frm.fv f.l) }))) (brK (E9 (okR Dat.fv x.l.length (A7 Dat.fv x.l))) (brK (szD (ofR Dat.fv x.l.length (A7 Dat.fv x.l))) (brK (K8 { k:=x.k,d:=x.d,t:=x.t,m:=x.m,l:=ofR Dat.fv x.l.length (A7 Dat.fv x.l) } != 0) (some (.sint IntKind.i64 (K8 { k:=x.k,d:=x.d,t:=x.t,m:=x.m,l:=ofR Dat.fv x.l.length (A7 Dat.fv x.l) }))) none) none) none)) none) none:=by kernel_rfl
theorem G3e(f:Fea)(x:Frm)(hz:I9 f.s=true)(hd:szD x.l=true)(he:K3 f≠0 \/ K8 x≠0):∃ v,(D5 prog D7i 60).call 107 [.agg f.av,.agg x.av] (Bg 8) F8=some v/\O9 (X6 f x) v:=by
 rw[F7n]
 simp only[J8,B8k,E5y,F1v]
 by_cases c1:K3 f≠0
 ·apply exV
  focus
   repeat first
    | exact rfl
    | refine A8 rfl ?_
    | refine C8 rfl ?_
    | refine A8 (by simp only[SBs]; omega) ?_
    | refine C8 (by simp only[SBs]; omega) ?_
    | refine A8 hz ?_
    | refine A8 hd ?_
    | refine A8 (J8 _) ?_
  focus
   first
    | apply viI
    | apply viS
   dsimp only [X6]
   repeat first
    | exact rfl
    | refine J3 (by omega) ?_
    | refine G6 (by omega) ?_
 apply exV
 focus
  repeat first
   | exact rfl
   | refine A8 rfl ?_
   | refine C8 rfl ?_
   | refine A8 (by simp only[SBs]; omega) ?_
   | refine C8 (by simp only[SBs]; omega) ?_
   | refine A8 hz ?_
   | refine A8 hd ?_
   | refine A8 (J8 _) ?_
 focus
  first
   | apply viI
   | apply viS
  dsimp only [X6]
  repeat first
   | exact rfl
   | refine J3 (by omega) ?_
   | refine G6 (by omega) ?_
theorem F7o(f:Fea)(x:Frm):(D5 prog D7i 60).call 151 [.agg f.av,.agg x.av] (Bg 8) F8 =
  brK (E9 (okR Frm.fv f.l.length (A7 Frm.fv f.l))) (brK (I9 f.s) (brK (K3 { s:=f.s,k:=f.k,a:=f.a,x:=f.x,y:=f.y,z:=f.z,lo:=f.lo,hi:=f.hi,l:=ofR Frm.fv f.l.length (A7 Frm.fv f.l) } != 0) (some (.sint IntKind.i64 (K3 { s:=f.s,k:=f.k,a:=f.a,x:=f.x,y:=f.y,z:=f.z,lo:=f.lo,hi:=f.hi,l:=ofR Frm.fv f.l.length (A7 Frm.fv f.l) }))) (brK (E9 (okR Dat.fv x.l.length (A7 Dat.fv x.l))) (brK (szD (ofR Dat.fv x.l.length (A7 Dat.fv x.l))) (brK (K8 { k:=x.k,d:=x.d,t:=x.t,m:=x.m,l:=ofR Dat.fv x.l.length (A7 Dat.fv x.l) } != 0) (some (.sint IntKind.i64 (K8 { k:=x.k,d:=x.d,t:=x.t,m:=x.m,l:=ofR Dat.fv x.l.length (A7 Dat.fv x.l) }))) none) none) none)) none) none:=by kernel_rfl
theorem G3f(f:Fea)(x:Frm)(hz:I9 f.s=true)(hd:szD x.l=true)(he:K3 f≠0 \/ K8 x≠0):∃ v,(D5 prog D7i 60).call 151 [.agg f.av,.agg x.av] (Bg 8) F8=some v/\O9 (X6 f x) v:=by
 rw[F7o]
 simp only[J8,B8k,E5y,F1v]
 by_cases c1:K3 f≠0
 ·apply exV
  focus
   repeat first
    | exact rfl
    | refine A8 rfl ?_
    | refine C8 rfl ?_
    | refine A8 (by simp only[SBs]; omega) ?_
    | refine C8 (by simp only[SBs]; omega) ?_
    | refine A8 hz ?_
    | refine A8 hd ?_
    | refine A8 (J8 _) ?_
  focus
   first
    | apply viI
    | apply viS
   dsimp only [X6]
   repeat first
    | exact rfl
    | refine J3 (by omega) ?_
    | refine G6 (by omega) ?_
 apply exV
 focus
  repeat first
   | exact rfl
   | refine A8 rfl ?_
   | refine C8 rfl ?_
   | refine A8 (by simp only[SBs]; omega) ?_
   | refine C8 (by simp only[SBs]; omega) ?_
   | refine A8 hz ?_
   | refine A8 hd ?_
   | refine A8 (J8 _) ?_
 focus
  first
   | apply viI
   | apply viS
  dsimp only [X6]
  repeat first
   | exact rfl
   | refine J3 (by omega) ?_
   | refine G6 (by omega) ?_
theorem H2v{dc u:Bool}{r:Option AV}(h:¬ (u=true/\dc=false)):uT dc u r=r:=by cases u<;>cases dc<;>first | rfl | exact absurd ⟨rfl,rfl⟩ h
theorem H2u{dc u:Bool}{r:Option AV}(h:u=true/\dc=false):uT dc u r=some (.int .i64 3):=by rw[h.1,h.2]; rfl
theorem H2t{t m:Int}{r:Option AV}(h:¬ (t=0/\m≠1)):tT t m r=r:=by
 unfold tT
 by_cases h1:t=0
 ·have h2:m=1:=Classical.byContradiction fun h2=>h ⟨h1,h2⟩
  subst h1 h2; rfl
 ·rw[show(t==0)=false by simpa using h1]; rfl
theorem H2s{t m:Int}{r:Option AV}(h:t=0/\m≠1):tT t m r=some (.int .i64 10):=by
 unfold tT
 rw[show(t==0)=true by simpa using h.1,show(m != 1)=true by simpa using h.2]; rfl
theorem H1c{mt:Bool}{m:Int}{r:Option AV}(h:¬ (m≠0/\mt=false)):mT mt m r=r:=by
 unfold mT
 cases mt with
 | true=>cases(m != 0)<;>rfl
 | false =>
  have h1:m=0:=Classical.byContradiction fun h1=>h ⟨h1,rfl⟩
  subst h1; rfl
theorem H1b{mt:Bool}{m:Int}{r:Option AV}(h:m≠0/\mt=false):mT mt m r=some (.int .i64 3):=by
 unfold mT
 rw[show(m != 0)=true by simpa using h.1,h.2]; rfl
theorem E5x{f:Fea}{x:Frm}{v7:AV}(hv:O9 7 v7)(he:K3 f=0)(hp:K8 x=0):∃ v,frT f x true (nmD f x) v7=some v/\O9 (X6 f x) v:=by
 unfold frT X6
 rw[if_neg (by omega),if_neg (by omega)]
 by_cases c0:onT x.k f.k=false
 ·rw[c0,if_pos rfl]; exact⟨_,rfl,.inl rfl⟩
 rw[if_neg c0,show onT x.k f.k=true by simpa using c0,cond_true]
 by_cases c1:x.d=true/\dcT x.k f.k=false
 ·rw[H2u c1,if_pos c1]; exact⟨_,rfl,.inl rfl⟩
 rw[H2v c1,if_neg c1]
 by_cases c2:x.t=0/\x.m≠1
 ·rw[H2s c2,if_pos c2]; exact⟨_,rfl,.inl rfl⟩
 rw[H2t c2,if_neg c2]
 by_cases c3:x.m≠0/\mtT x.k f.k=false
 ·rw[H1b c3,if_pos c3]; exact⟨_,rfl,.inl rfl⟩
 rw[H1c c3,if_neg c3]
 unfold nT
 by_cases c4:(x.l.length:Int)<lsT x.k
 ·rw[dT c4,if_pos c4]; exact⟨_,rfl,.inl rfl⟩
 rw[dF c4,if_neg c4]
 by_cases c5:(x.l.length:Int)>msT x.k
 ·rw[dT c5,if_pos c5]; exact⟨_,rfl,.inl rfl⟩
 rw[dF c5,if_neg c5]
 cases nmD f x with
 | true=>exact⟨_,rfl,.inl rfl⟩
 | false=>exact⟨v7,rfl,hv⟩
theorem E0v{f:Fea}{x:Frm}{r:Option AV}(hz:I9 f.s=true)(hd:szD x.l=true)(he:K3 f=0)(hp:K8 x=0):E3o f x r=r:=by
 unfold E3o
 simp only[J8,B8k,E5y,F1v,hz,hd,he,hp]
 rfl
theorem E5v(f:Fea)(x:Frm)(hz:I9 f.s=true)(hd:szD x.l=true):∃ v,((D5 prog D7h 60).call 107 [.agg f.av,.agg x.av] (Bg 8) F8=some v \/ (D5 prog D7i 60).call 107 [.agg f.av,.agg x.av] (Bg 8) F8=some v)/\O9 (X6 f x) v:=by
 by_cases h:K3 f≠0 \/ K8 x≠0
 ·obtain⟨v,h1,h2⟩:=G3e f x hz hd h
  exact⟨v,.inr h1,h2⟩
 ·have he:K3 f=0:=by omega
  have hp:K8 x=0:=by omega
  have h1:(D5 prog D7h 60).call 107 [.agg f.av,.agg x.av] (Bg 8) F8=E3o f x (frT f x (fdC B6c A6b B8u (F5j f x)) (fdE E3m C3z (A6b (F5j f x))) (.int .i64 7)):=E2v f x (B0f he) (B0g hp)
  have hl:=C2n hp
  rw[E0v hz hd he hp,G2n (by omega),C1w] at h1
  obtain⟨v,h3,h4⟩:=E5x (v7:=.int .i64 7) (.inl rfl) he hp
  exact⟨v,.inl (h1.trans h3),h4⟩
theorem E5w(f:Fea)(x:Frm)(hz:I9 f.s=true)(hd:szD x.l=true):∃ v,((D5 prog D7h 60).call 151 [.agg f.av,.agg x.av] (Bg 8) F8=some v \/ (D5 prog D7i 60).call 151 [.agg f.av,.agg x.av] (Bg 8) F8=some v)/\O9 (X6 f x) v:=by
 by_cases h:K3 f≠0 \/ K8 x≠0
 ·obtain⟨v,h1,h2⟩:=G3f f x hz hd h
  exact⟨v,.inr h1,h2⟩
 ·have he:K3 f=0:=by omega
  have hp:K8 x=0:=by omega
  have h1:(D5 prog D7h 60).call 151 [.agg f.av,.agg x.av] (Bg 8) F8=E3o f x (frT f x (fdC B6b A6a B8t (F5i f x)) (fdE D7d C0s (A6a (F5i f x))) (.sint .i64 7)):=E2w f x (B0f he) (B0g hp)
  have hl:=C2n hp
  rw[E0v hz hd he hp,G2m (by omega),C1v] at h1
  obtain⟨v,h3,h4⟩:=E5x (v7:=.sint .i64 7) (.inr rfl) he hp
  exact⟨v,.inl (h1.trans h3),h4⟩
def VFr(x:Fea×Frm):Tr AV:=.br (I9 x.1.s&&szD x.2.l) (.leaf (.sint .i64 (X6 x.1 x.2))) .fail
def pFr:Prims:=(pFe.addt 107 (M8 A8z VFr)).addt 151 (M8 A8z VFr)
theorem G3q{A:Amb}(hT:Tab A)(hG:gN prog<=A.G):PrimOK prog A pFr:=by
 have h1:=F6f hT hG
 have h2:PrimOK prog A D7i:=D0y hG (D0y hG (E9m hT hG) func158 (by kernel_rfl)) func202 (by kernel_rfl)
 refine B1l hG h1 h2 (B1l hG h1 h2 (D7g hT hG) A8z VFr func107 (by kernel_rfl) fun x v hv=>?_) A8z VFr func151 (by kernel_rfl) fun x v hv=>?_
 ·obtain⟨hz,hv⟩:=Tr.br1 hv
  cases hv
  rw[bA] at hz
  obtain⟨v',h1,h2⟩:=E5v x.1 x.2 hz.1 hz.2
  exact⟨v',h1,G9 h2,J9 h2⟩
 ·obtain⟨hz,hv⟩:=Tr.br1 hv
  cases hv
  rw[bA] at hz
  obtain⟨v',h1,h2⟩:=E5w x.1 x.2 hz.1 hz.2
  exact⟨v',h1,G9 h2,J9 h2⟩
def A1e(x:Fea)(n:Nat)(k:Int):Bool:=(x.l.take n).any fun y=>y.k==k
def A0i(x:Fea)(n:Nat):Int:=if X6 x (F4 x n)≠0 then X6 x (F4 x n) else if A1e x n (F4 x n).k=true then 7 else 0
def szF(x:Fea):Bool:=I9 x.s&&x.l.all fun y=>szD y.l
theorem D7q{x:Fea}{n:Nat}(h:n<x.l.length)(k:Int):A1e x (n+1) k=(A1e x n k||((x.l.getD n default).k==k)):=by
 unfold A1e
 rw[List.take_succ_eq_append_getElem h,List.any_append]
 simp[h]
theorem E5m{f:Fea}{x:Frm}(h:X6 f x=0):K8 x=0:=by
 refine Classical.byContradiction fun hn=>?_
 unfold X6 at h
 split at h
 ·omega
 ·exact hn h
theorem F1w{x:Fea}(h:szF x=true){n:Nat}(hn:n<x.l.length):szD (x.l.getD n default).l=true:=by
 unfold szF at h
 rw[bA,List.all_eq_true] at h
 refine h.2 _ ?_
 rw[gD,gE hn]
 exact List.getElem_mem hn
def D5l:Code:=I7 (J6 0 (f93.body.getD .skip))
def sp93:SP:=⟨dr 1++[.is (.ptr (some (8,0)))]++dr 2++[.is (.ptr (some (9,0)))]++dr 13++[.flist 5]++[.int .i64]++[.int .i64]++dr 17,dd8++[.any,.cells [.bool,.bool,.bool,.bool,.bool,.bool,.bool,.bool,.bool] 0 true 172]⟩
def E1r:AEx->SP
 | .ret=>⟨dr 2++[.int .i64]++dr 35,dd8++[.any,.cells [.drop,.drop,.drop,.drop,.drop,.drop,.drop,.drop,.drop] 0 true 172]⟩
 | .exit 0=>⟨dr 38,dd8++[.any,.cells [.drop,.drop,.drop,.drop,.drop,.drop,.drop,.drop,.drop] 0 true 172]⟩
 | _=>sp93
def pfA(f:Fea)(n:Int)(b0 b1 b2 b3 b4 b5 b6 b7 b8:Bool):List Lf:=[.n f.l.length,.fr (A7 Frm.fv f.l),.i f.l.length,.i (W (n+1)),.o (F5 f),.b b0,.b b1,.b b2,.b b3,.b b4,.b b5,.b b6,.b b7,.b b8]
def stA(f:Fea)(n:Int)(b0 b1 b2 b3 b4 b5 b6 b7 b8:Bool):Option (AEx×List Lf) :=
  brK (decide ((f.l.getD n.toNat default).k=0)) (some (.normal,(pfA f n true b1 b2 b3 b4 b5 b6 b7 b8))) (brK (decide ((f.l.getD n.toNat default).k=1)) (some (.normal,(pfA f n b0 true b2 b3 b4 b5 b6 b7 b8))) (brK (decide ((f.l.getD n.toNat default).k=2)) (some (.normal,(pfA f n b0 b1 true b3 b4 b5 b6 b7 b8))) (brK (decide ((f.l.getD n.toNat default).k=3)) (some (.normal,(pfA f n b0 b1 b2 true b4 b5 b6 b7 b8))) (brK (decide ((f.l.getD n.toNat default).k=4)) (some (.normal,(pfA f n b0 b1 b2 b3 true b5 b6 b7 b8))) (brK (decide ((f.l.getD n.toNat default).k=5)) (some (.normal,(pfA f n b0 b1 b2 b3 b4 true b6 b7 b8))) (brK (decide ((f.l.getD n.toNat default).k=6)) (some (.normal,(pfA f n b0 b1 b2 b3 b4 b5 true b7 b8))) (brK (decide ((f.l.getD n.toNat default).k=7)) (some (.normal,(pfA f n b0 b1 b2 b3 b4 b5 b6 true b8))) (brK (decide ((f.l.getD n.toNat default).k=8)) (some (.normal,(pfA f n b0 b1 b2 b3 b4 b5 b6 b7 true))) none))))))))
theorem F7l(f:Fea)(n:Int)(b0 b1 b2 b3 b4 b5 b6 b7 b8:Bool):E8 prog (D5 prog pFr 60) (pFr.blk 93) D5l (sp93.rho [.n f.l.length,.fr (A7 Frm.fv f.l),.i f.l.length,.i n,.o (F5 f),.b b0,.b b1,.b b2,.b b3,.b b4,.b b5,.b b6,.b b7,.b b8]) (sp93.heap [.n f.l.length,.fr (A7 Frm.fv f.l),.i f.l.length,.i n,.o (F5 f),.b b0,.b b1,.b b2,.b b3,.b b4,.b b5,.b b6,.b b7,.b b8]) (H9 E1r 10 [9]) =
  brK (decide (n<(f.l.length:Int))) (brK (decide (0<=n/\n<(f.l.length:Int))) (brK (E9 (okR Frm.fv f.l.length (A7 Frm.fv f.l))&&E9 (okR Dat.fv (f.l.getD n.toNat default).l.length (A7 Dat.fv (f.l.getD n.toNat default).l))) (brK (I9 f.s&&szD (ofR Dat.fv (f.l.getD n.toNat default).l.length (A7 Dat.fv (f.l.getD n.toNat default).l))) (brK (X6 { s:=f.s,k:=f.k,a:=f.a,x:=f.x,y:=f.y,z:=f.z,lo:=f.lo,hi:=f.hi,l:=ofR Frm.fv f.l.length (A7 Frm.fv f.l) } { k:=(f.l.getD n.toNat default).k,d:=(f.l.getD n.toNat default).d,t:=(f.l.getD n.toNat default).t,m:=(f.l.getD n.toNat default).m,l:=ofR Dat.fv (f.l.getD n.toNat default).l.length (A7 Dat.fv (f.l.getD n.toNat default).l) } != 0) (some (.ret,[.i (X6 { s:=f.s,k:=f.k,a:=f.a,x:=f.x,y:=f.y,z:=f.z,lo:=f.lo,hi:=f.hi,l:=ofR Frm.fv f.l.length (A7 Frm.fv f.l) } { k:=(f.l.getD n.toNat default).k,d:=(f.l.getD n.toNat default).d,t:=(f.l.getD n.toNat default).t,m:=(f.l.getD n.toNat default).m,l:=ofR Dat.fv (f.l.getD n.toNat default).l.length (A7 Dat.fv (f.l.getD n.toNat default).l) }),.o (F5 f)])) (brK (decide ((f.l.getD n.toNat default).k=0)) (brK (b0) (some (.ret,[.i (7),.o (F5 f)])) (stA f n b0 b1 b2 b3 b4 b5 b6 b7 b8)) (brK (decide ((f.l.getD n.toNat default).k=1)) (brK (b1) (some (.ret,[.i (7),.o (F5 f)])) (stA f n b0 b1 b2 b3 b4 b5 b6 b7 b8)) (brK (decide ((f.l.getD n.toNat default).k=2)) (brK (b2) (some (.ret,[.i (7),.o (F5 f)])) (stA f n b0 b1 b2 b3 b4 b5 b6 b7 b8)) (brK (decide ((f.l.getD n.toNat default).k=3)) (brK (b3) (some (.ret,[.i (7),.o (F5 f)])) (stA f n b0 b1 b2 b3 b4 b5 b6 b7 b8)) (brK (decide ((f.l.getD n.toNat default).k=4)) (brK (b4) (some (.ret,[.i (7),.o (F5 f)])) (stA f n b0 b1 b2 b3 b4 b5 b6 b7 b8)) (brK (decide ((f.l.getD n.toNat default).k=5)) (brK (b5) (some (.ret,[.i (7),.o (F5 f)])) (stA f n b0 b1 b2 b3 b4 b5 b6 b7 b8)) (brK (decide ((f.l.getD n.toNat default).k=6)) (brK (b6) (some (.ret,[.i (7),.o (F5 f)])) (stA f n b0 b1 b2 b3 b4 b5 b6 b7 b8)) (brK (decide ((f.l.getD n.toNat default).k=7)) (brK (b7) (some (.ret,[.i (7),.o (F5 f)])) (stA f n b0 b1 b2 b3 b4 b5 b6 b7 b8)) (brK (decide ((f.l.getD n.toNat default).k=8)) (brK (b8) (some (.ret,[.i (7),.o (F5 f)])) (stA f n b0 b1 b2 b3 b4 b5 b6 b7 b8)) none)))))))))) none) none) none) (some (.exit 0,[.o (F5 f)])):=by kernel_rfl
def L93(x:Fea)(n:Nat):List Lf:=[.n x.l.length,.fr (A7 Frm.fv x.l),.i x.l.length,.i n,.o (F5 x),.b (A1e x n 0),.b (A1e x n 1),.b (A1e x n 2),.b (A1e x n 3),.b (A1e x n 4),.b (A1e x n 5),.b (A1e x n 6),.b (A1e x n 7),.b (A1e x n 8)]
def E3z:List Lf->Nat->List Lf
 | [_,_,_,_,.o o,_,_,_,_,_,_,_,_,_],n=>[.i (A0i (A2d o) n),.o o]
 | _,_=>[]
def F2y:List Lf->List Lf
 | [_,_,_,_,o,_,_,_,_,_,_,_,_,_]=>[o]
 | _=>[]
def N93(x:Fea):Nat:=x.l.length
def p93(x:Fea)(n:Nat):Bool:=decide (A0i x n=0)
def E8a(x:Fea):Prop:=x.l.length<2^62/\szF x=true
def A6x:List Lf->Fea
 | _::_::_::_::.o o::_=>A2d o
 | _=>default
theorem G5p(x:Fea)(hx:E8a x)(n:Nat)(hn:n<=N93 x):E8 prog (D5 prog pFr 60) (pFr.blk 93) D5l (sp93.rho (L93 x n)) (sp93.heap (L93 x n)) (H9 E1r 10 [9])=some (if n<N93 x then(bif p93 x n then(.normal,L93 x (n+1)) else(.ret,E3z (L93 x 0) n)) else(.exit 0,F2y (L93 x 0))):=by
 obtain⟨h1,h2⟩:=hx
 simp only[L93,F2y]
 rw[F7l]
 simp only[stA,pfA]
 rw[I5 hn h1]
 simp only[tN,B8k,E5y,F1v,J8,Bool.and_self]
 by_cases h:n<N93 x
 ·rw[if_pos h]
  simp only[N93] at h
  have hz:(I9 x.s&&szD (x.l.getD n default).l)=true:=by
   have:=h2
   rw[bA]
   refine⟨?_,F1w h2 h⟩
   unfold szF at this
   rw[bA] at this
   exact this.1
  refine A8 (dT (by omega)) ?_
  refine A8 (dT (by omega)) ?_
  refine A8 rfl ?_
  refine A8 hz ?_
  by_cases he:X6 x (x.l.getD n default)=0
  ·refine C8 (by simpa using he) ?_
   have hk:=B0g (E5m he)
   cases hs:A1e x n (x.l.getD n default).k with
   | true =>
    have hg:A0i x n=7:=by unfold A0i; rw[if_neg (by simpa using he),if_pos hs]
    have hp:p93 x n=false:=by unfold p93; rw[hg]; rfl
    rw[hp,cond_false]
    simp only[E3z,O0,hg]
    rcases C6n hk with h9 | h9 | h9 | h9 | h9 | h9 | h9 | h9 | h9<;>rw[h9] at hs
    all_goals
     repeat first
      | exact rfl
      | refine A8 hs ?_
      | refine A8 (dT (by omega)) ?_
      | refine C8 (dF (by omega)) ?_
   | false =>
    have hg:A0i x n=0:=by unfold A0i; rw[if_neg (by simpa using he),if_neg (by simpa using hs)]
    have hp:p93 x n=true:=by unfold p93; rw[hg]; rfl
    rw[hp,cond_true]
    simp only[D7q h]
    rcases C6n hk with h9 | h9 | h9 | h9 | h9 | h9 | h9 | h9 | h9<;>rw[h9] at hs
    all_goals
     repeat first
      | refine C8 hs ?_
      | refine A8 (dT (by omega)) ?_
      | refine C8 (dF (by omega)) ?_
     simp[-List.getD_eq_getElem?_getD,h9]
  ·refine A8 (by simpa using he) ?_
   have hg:A0i x n=X6 x (x.l.getD n default):=by unfold A0i; rw[if_pos he]
   have hp:p93 x n=false:=by unfold p93; rw[hg]; simpa using he
   rw[hp,cond_false]
   simp only[E3z,O0,hg]
 ·rw[if_neg h]
  simp only[N93] at h
  refine C8 (dF (by omega)) ?_
  rfl
def G7c:Blk:=hookP sp93 10 [9] (fdT E1r 0 .ret (.exit 0) A6x L93 E3z F2y N93 p93 E8a)
theorem F5d{A:Amb}{q:Prims}(h0:PrimOK prog A pFr)(hq:PrimOK prog A q):PrimOK prog A (q.addb 93 0 G7c) :=
 SEB.findR (id:=0) (ds:=[9]) (dec:=A6x) (sp:=sp93) (sq:=E1r) (m:=10) (eb:=.ret) (ee:=.exit 0) (L:=L93) (Lb:=E3z) (Le:=F2y) (N:=N93) (p:=p93) (Inv:=E8a) (k:=60) F7 F9 h0 hq func93 (show f93.body=some (f93.body.getD .skip) by kernel_rfl) (body:=D5l) (by kernel_rfl)
  rfl rfl rfl rfl (by simp) (by simp) (fun _ _=>⟨⟨.inr rfl,.inr rfl,.inr rfl,.inr rfl,.inr rfl,.inr rfl,.inr rfl,.inr rfl,.inr rfl,.inl rfl,trivial⟩,⟨.inr rfl,.inr rfl,.inr rfl,.inr rfl,.inr rfl,.inr rfl,.inr rfl,.inr rfl,.inr rfl,.inl rfl,trivial⟩⟩) G5p
def C5u:Code:=I7 (J6 2 (f98.body.getD .skip))
def sp98b:SP:=⟨dr 1++[.is (.ptr (some (8,0)))]++dr 2++[.int .i64]++dr 1++[.int .i64]++dr 44,dd8++[.any]⟩
def C8s:AEx->SP
 | .ret=>⟨dr 2++[.int .i64]++dr 48,dd8++[.any]⟩
 | .exit 2=>⟨dr 1++[.is (.ptr (some (8,0)))]++dr 2++[.int .i64]++dr 46,dd8++[.any]⟩
 | _=>sp98b
theorem F0z(f:Fea)(i n:Int):E8 prog (D5 prog pFr 60) (pFr.blk 98) C5u (sp98b.rho [.i i,.i n,.o (F5 f)]) (sp98b.heap [.i i,.i n,.o (F5 f)]) (H9 C8s 9 []) =
  brK (decide (n<i)) (brK (decide (0<=n/\n<(f.l.length:Int))) (brK (decide (0<=i/\i<(f.l.length:Int))) (brK ((f.l.getD n.toNat default).k==(f.l.getD i.toNat default).k) (some (.ret,[.i (7),.o (F5 f)])) (some (.normal,[.i (i),.i (W (n+1)),.o (F5 f)]))) none) none) (some (.exit 2,[.i (i),.o (F5 f)])):=by kernel_rfl
def C0q(x:Fea×Nat)(n:Nat):List Lf:=[.i x.2,.i n,.o (F5 x.1)]
def D8n:List Lf->Nat->List Lf
 | [_,_,o],_=>[.i 7,o]
 | _,_=>[]
def D9g:List Lf->List Lf
 | [i,_,o]=>[i,o]
 | _=>[]
def B5g(x:Fea×Nat):Nat:=x.2
def C7d(x:Fea×Nat)(n:Nat):Bool:=!((F4 x.1 n).k==(F4 x.1 x.2).k)
def D2d(x:Fea×Nat):Prop:=x.2<x.1.l.length/\x.1.l.length<2^62
def B0c:List Lf->Fea×Nat
 | [.i i,_,.o o]=>(A2d o,i.toNat)
 | _=>default
theorem F8w(x:Fea×Nat)(hx:D2d x)(n:Nat)(hn:n<=B5g x):E8 prog (D5 prog pFr 60) (pFr.blk 98) C5u (sp98b.rho (C0q x n)) (sp98b.heap (C0q x n)) (H9 C8s 9 [])=some (if n<B5g x then(bif C7d x n then(.normal,C0q x (n+1)) else(.ret,D8n (C0q x 0) n)) else(.exit 2,D9g (C0q x 0))):=by
 obtain⟨h1,h2⟩:=hx
 simp only[C0q,D8n,D9g]
 rw[F0z,I5 hn (Nat.lt_trans h1 h2)]
 simp only[tN]
 by_cases h:n<B5g x
 ·rw[if_pos h]
  simp only[B5g] at h
  simp only[C7d,F4]
  cases hE:(x.1.l.getD n default).k==(x.1.l.getD x.2 default).k
  all_goals
   repeat first
    | exact rfl
    | refine A8 rfl ?_
    | refine C8 rfl ?_
    | refine A8 (by simp only[SBs]; omega) ?_
    | refine C8 (by simp only[SBs]; omega) ?_
    | exact congrArg some (Y3 (by first | (simp only[SBs]; omega) | simp)).symm
    | exact congrArg some (Y2 (by first | (simp only[SBs]; omega) | simp)).symm
 ·rw[if_neg h]
  simp only[B5g] at h
  repeat first
   | exact rfl
   | refine A8 rfl ?_
   | refine C8 rfl ?_
   | refine A8 (by simp only[SBs]; omega) ?_
   | refine C8 (by simp only[SBs]; omega) ?_
   | exact congrArg some (Y3 (by first | (simp only[SBs]; omega) | simp)).symm
   | exact congrArg some (Y2 (by first | (simp only[SBs]; omega) | simp)).symm
def G0o:Blk:=hookP sp98b 9 [] (fdT C8s 2 .ret (.exit 2) B0c C0q D8n D9g B5g C7d D2d)
theorem E7o{A:Amb}{q:Prims}(h0:PrimOK prog A pFr)(hq:PrimOK prog A q):PrimOK prog A (q.addb 98 2 G0o) :=
 SEB.findR (id:=2) (ds:=[]) (dec:=B0c) (sp:=sp98b) (sq:=C8s) (m:=9) (eb:=.ret) (ee:=.exit 2) (L:=C0q) (Lb:=D8n) (Le:=D9g) (N:=B5g) (p:=C7d) (Inv:=D2d) (k:=60) F7 F9 h0 hq func98 (show f98.body=some (f98.body.getD .skip) by kernel_rfl) (body:=C5u) (by kernel_rfl)
  rfl rfl rfl rfl (by simp) (by simp) (fun _ _=>⟨⟨.inr rfl,.inr rfl,.inr rfl,.inr rfl,.inr rfl,.inr rfl,.inr rfl,.inr rfl,.inr rfl,trivial⟩,⟨.inr rfl,.inr rfl,.inr rfl,.inr rfl,.inr rfl,.inr rfl,.inr rfl,.inr rfl,.inr rfl,trivial⟩⟩) F8w
theorem C2g(x:Fea)(i:Nat):B0c [Lf.i (i:Int),Lf.i 0,Lf.o (F5 x)]=(x,i):=by simp[B0c,O0]
theorem G2p{x:Fea}{i:Nat}(h:i<x.l.length)(h1:x.l.length<2^62):fdC C0q B0c D2d [Lf.i (i:Int),Lf.i 0,Lf.o (F5 x)]=true:=J5 (x:=(x,i)) (C2g x i) ⟨h,h1⟩
theorem G4z(x:Fea)(i:Nat)(h:i<x.l.length):fdE C7d B5g (x,i)=!A1e x i (x.l.getD i default).k:=by
 have key:fdE C7d B5g (x,i)=true↔A1e x i (x.l.getD i default).k=false:=by
  rw[F3t]
  unfold A1e C7d B5g
  rw[List.any_eq_false]
  constructor
  ·intro hh y hy
   obtain⟨j,hj,rfl⟩:=List.getElem_of_mem hy
   rw[List.length_take] at hj
   have:=hh j (by simp only; omega)
   simp only[F4] at this
   rw[List.getElem_take]
   rw[gD,gE (by omega)] at this
   simpa using this
  ·intro hh j hj
   simp only at hj
   have:=hh (x.l[j]'(by omega)) (List.mem_take_iff_getElem.2 ⟨j,by omega,rfl⟩)
   simp only[F4]
   rw[gD,gE (by omega)]
   simpa using this
 cases h1:fdE C7d B5g (x,i)<;>cases h2:A1e x i (x.l.getD i default).k<;>simp_all
def pAl1:Prims:=(pFr.addb 93 0 G7c).addb 98 2 G0o
def C5t:Code:=I7 (J6 0 (f98.body.getD .skip))
def sp98a:SP:=⟨dr 1++[.is (.ptr (some (8,0)))]++dr 2++[.int .i64]++dr 46,dd8++[.any]⟩
def C8r:AEx->SP
 | .ret=>⟨dr 2++[.int .i64]++dr 48,dd8++[.any]⟩
 | .exit 0=>⟨dr 51,dd8++[.any]⟩
 | _=>sp98a
theorem F0y(f:Fea)(n:Int):E8 prog (D5 prog pAl1 60) (pAl1.blk 98) C5t (sp98a.rho [.i n,.o (F5 f)]) (sp98a.heap [.i n,.o (F5 f)]) (H9 C8r 9 []) =
  brK (decide (n<(f.l.length:Int))) (brK (decide (0<=n/\n<(f.l.length:Int))) (brK (E9 (okR Frm.fv f.l.length (A7 Frm.fv f.l))&&E9 (okR Dat.fv (f.l.getD n.toNat default).l.length (A7 Dat.fv (f.l.getD n.toNat default).l))) (brK (I9 f.s&&szD (ofR Dat.fv (f.l.getD n.toNat default).l.length (A7 Dat.fv (f.l.getD n.toNat default).l))) (brK (X6 { s:=f.s,k:=f.k,a:=f.a,x:=f.x,y:=f.y,z:=f.z,lo:=f.lo,hi:=f.hi,l:=ofR Frm.fv f.l.length (A7 Frm.fv f.l) } { k:=(f.l.getD n.toNat default).k,d:=(f.l.getD n.toNat default).d,t:=(f.l.getD n.toNat default).t,m:=(f.l.getD n.toNat default).m,l:=ofR Dat.fv (f.l.getD n.toNat default).l.length (A7 Dat.fv (f.l.getD n.toNat default).l) } != 0) (some (.ret,[.i (X6 { s:=f.s,k:=f.k,a:=f.a,x:=f.x,y:=f.y,z:=f.z,lo:=f.lo,hi:=f.hi,l:=ofR Frm.fv f.l.length (A7 Frm.fv f.l) } { k:=(f.l.getD n.toNat default).k,d:=(f.l.getD n.toNat default).d,t:=(f.l.getD n.toNat default).t,m:=(f.l.getD n.toNat default).m,l:=ofR Dat.fv (f.l.getD n.toNat default).l.length (A7 Dat.fv (f.l.getD n.toNat default).l) }),.o (F5 f)])) (brK (fdC C0q B0c D2d [Lf.i n,Lf.i 0,Lf.o (F5 f)]) (brK (fdE C7d B5g (B0c [Lf.i n,Lf.i 0,Lf.o (F5 f)])) (some (.normal,[.i (W (n+1)),.o (F5 f)])) (some (.ret,[.i (7),.o (F5 f)]))) none)) none) none) none) (some (.exit 0,[.o (F5 f)])):=by kernel_rfl
def B5d(x:Fea)(n:Nat):List Lf:=[.i n,.o (F5 x)]
def C9b:List Lf->Nat->List Lf
 | [_,.o o],n=>[.i (A0i (A2d o) n),.o o]
 | _,_=>[]
def D9f:List Lf->List Lf
 | [_,o]=>[o]
 | _=>[]
def B6r(x:Fea):Nat:=x.l.length
def B2m(x:Fea)(n:Nat):Bool:=decide (A0i x n=0)
def D2c(x:Fea):Prop:=x.l.length<2^62/\szF x=true
def A6j:List Lf->Fea
 | [_,.o o]=>A2d o
 | _=>default
theorem F8v(x:Fea)(hx:D2c x)(n:Nat)(hn:n<=B6r x):E8 prog (D5 prog pAl1 60) (pAl1.blk 98) C5t (sp98a.rho (B5d x n)) (sp98a.heap (B5d x n)) (H9 C8r 9 [])=some (if n<B6r x then(bif B2m x n then(.normal,B5d x (n+1)) else(.ret,C9b (B5d x 0) n)) else(.exit 0,D9f (B5d x 0))):=by
 obtain⟨h1,h2⟩:=hx
 simp only[B5d,D9f]
 rw[F0y,I5 hn h1]
 simp only[tN,B8k,E5y,F1v,J8,Bool.and_self,C2g]
 by_cases h:n<B6r x
 ·rw[if_pos h]
  simp only[B6r] at h
  have hz:(I9 x.s&&szD (x.l.getD n default).l)=true:=by
   have:=h2
   rw[bA]
   refine⟨?_,F1w h2 h⟩
   unfold szF at this
   rw[bA] at this
   exact this.1
  refine A8 (dT (by omega)) ?_
  refine A8 (dT (by omega)) ?_
  refine A8 rfl ?_
  refine A8 hz ?_
  rw[G4z x n h,G2p h h1]
  by_cases he:X6 x (x.l.getD n default)=0
  ·refine C8 (by simpa using he) ?_
   cases hs:A1e x n (x.l.getD n default).k with
   | true =>
    have hg:A0i x n=7:=by unfold A0i; rw[if_neg (by simpa using he),if_pos hs]
    have hp:B2m x n=false:=by unfold B2m; rw[hg]; rfl
    rw[hp,cond_false]
    simp only[C9b,O0,hg]
    rfl
   | false =>
    have hg:A0i x n=0:=by unfold A0i; rw[if_neg (by simpa using he),if_neg (by simpa using hs)]
    have hp:B2m x n=true:=by unfold B2m; rw[hg]; rfl
    rw[hp,cond_true]
    rfl
  ·refine A8 (by simpa using he) ?_
   have hg:A0i x n=X6 x (x.l.getD n default):=by unfold A0i; rw[if_pos he]
   have hp:B2m x n=false:=by unfold B2m; rw[hg]; simpa using he
   rw[hp,cond_false]
   simp only[C9b,O0,hg]
 ·rw[if_neg h]
  simp only[B6r] at h
  refine C8 (dF (by omega)) ?_
  rfl
def G0n:Blk:=hookP sp98a 9 [] (fdT C8r 0 .ret (.exit 0) A6j B5d C9b D9f B6r B2m D2c)
theorem E7n{A:Amb}{q:Prims}(h0:PrimOK prog A pAl1)(hq:PrimOK prog A q):PrimOK prog A (q.addb 98 0 G0n) :=
 SEB.findR (id:=0) (ds:=[]) (dec:=A6j) (sp:=sp98a) (sq:=C8r) (m:=9) (eb:=.ret) (ee:=.exit 0) (L:=B5d) (Lb:=C9b) (Le:=D9f) (N:=B6r) (p:=B2m) (Inv:=D2c) (k:=60) F7 F9 h0 hq func98 (show f98.body=some (f98.body.getD .skip) by kernel_rfl) (body:=C5t) (by kernel_rfl)
  rfl rfl rfl rfl (by simp) (by simp) (fun _ _=>⟨⟨.inr rfl,.inr rfl,.inr rfl,.inr rfl,.inr rfl,.inr rfl,.inr rfl,.inr rfl,.inr rfl,trivial⟩,⟨.inr rfl,.inr rfl,.inr rfl,.inr rfl,.inr rfl,.inr rfl,.inr rfl,.inr rfl,.inr rfl,trivial⟩⟩) F8v
theorem D0n(x:Fea)(a b c d e f g h i j k l m:Lf):A6x [a,b,c,d,Lf.o (F5 x),e,f,g,h,i,j,k,l,m]=x:=by simp[A6x,O0]
theorem F9d{x:Fea}(h1:x.l.length<2^62)(h2:szF x=true):fdC L93 A6x E8a [Lf.n x.l.length,Lf.fr (A7 Frm.fv x.l),Lf.i x.l.length,Lf.i 0,Lf.o (F5 x),Lf.b false,Lf.b false,Lf.b false,Lf.b false,Lf.b false,Lf.b false,Lf.b false,Lf.b false,Lf.b false]=true:=J5 (L:=L93) (x:=x) (by simp[A6x,L93,O0]) ⟨h1,h2⟩
theorem B3k(x:Fea):A6j [Lf.i 0,Lf.o (F5 x)]=x:=by simp[A6j,O0]
theorem E5q{x:Fea}(h1:x.l.length<2^62)(h2:szF x=true):fdC B5d A6j D2c [Lf.i 0,Lf.o (F5 x)]=true:=J5 (x:=x) (B3k x) ⟨h1,h2⟩
def E8z:Prims:=pAl1.addb 98 0 G0n
def W9(x:Fea):Int:=if K3 x≠0 then K3 x else if x.l.length>8 then 5 else S9 (A0i x) x.l.length
theorem F9h(x:Fea):fdE p93 N93 x=decide (S9 (A0i x) x.l.length=0):=Z8 (A0i x) fun _ _=>rfl
theorem E5t(x:Fea):fdE B2m B6r x=decide (S9 (A0i x) x.l.length=0):=Z8 (A0i x) fun _ _=>rfl
theorem G4w{x:Fea}(h:S9 (A0i x) x.l.length≠0):A0i x (G5 (p93 x) (N93 x) 0)=S9 (A0i x) x.l.length:=(X8 (p:=p93 x) (fun _ _=>rfl) h).2
theorem G4x{x:Fea}(h:S9 (A0i x) x.l.length≠0):A0i x (G5 (B2m x) (B6r x) 0)=S9 (A0i x) x.l.length:=(X8 (p:=B2m x) (fun _ _=>rfl) h).2
theorem F5z{A:Amb}(hT:Tab A)(hG:gN prog<=A.G):PrimOK prog A E8z:=by
 have h0:=G3q hT hG
 have h1:PrimOK prog A pAl1:=E7o h0 (F5d h0 h0)
 exact E7n h1 h1
theorem H0d(x:Fea):(D5 prog E8z 60).call 93 [.agg x.av] (Bg 8) F8 =
  brK (E9 (okR Frm.fv x.l.length (A7 Frm.fv x.l))) (brK (I9 x.s) (brK (K3 { s:=x.s,k:=x.k,a:=x.a,x:=x.x,y:=x.y,z:=x.z,lo:=x.lo,hi:=x.hi,l:=ofR Frm.fv x.l.length (A7 Frm.fv x.l) } != 0) (some (.sint IntKind.i64 (K3 { s:=x.s,k:=x.k,a:=x.a,x:=x.x,y:=x.y,z:=x.z,lo:=x.lo,hi:=x.hi,l:=ofR Frm.fv x.l.length (A7 Frm.fv x.l) }))) (brK (decide ((x.l.length:Int)>8)) (some (.int .i64 5)) (brK (fdC L93 A6x E8a [Lf.n x.l.length,Lf.fr (A7 Frm.fv x.l),Lf.i (x.l.length:Int),Lf.i 0,Lf.o (F5 x),Lf.b false,Lf.b false,Lf.b false,Lf.b false,Lf.b false,Lf.b false,Lf.b false,Lf.b false,Lf.b false]) (brK (fdE p93 N93 (A6x [Lf.n x.l.length,Lf.fr (A7 Frm.fv x.l),Lf.i (x.l.length:Int),Lf.i 0,Lf.o (F5 x),Lf.b false,Lf.b false,Lf.b false,Lf.b false,Lf.b false,Lf.b false,Lf.b false,Lf.b false,Lf.b false])) (some (.int .i64 0)) (some (.sint IntKind.i64 (A0i (A2d (F5 x)) (G5 (p93 (A6x [Lf.n x.l.length,Lf.fr (A7 Frm.fv x.l),Lf.i (x.l.length:Int),Lf.i 0,Lf.o (F5 x),Lf.b false,Lf.b false,Lf.b false,Lf.b false,Lf.b false,Lf.b false,Lf.b false,Lf.b false,Lf.b false])) (N93 (A6x [Lf.n x.l.length,Lf.fr (A7 Frm.fv x.l),Lf.i (x.l.length:Int),Lf.i 0,Lf.o (F5 x),Lf.b false,Lf.b false,Lf.b false,Lf.b false,Lf.b false,Lf.b false,Lf.b false,Lf.b false,Lf.b false])) 0))))) none))) none) none:=by kernel_rfl
theorem H2e(x:Fea)(hz:I9 x.s=true)(hs:szF x=true):∃ v,(D5 prog E8z 60).call 93 [.agg x.av] (Bg 8) F8=some v/\O9 (W9 x) v:=by
 rw[H0d]
 simp only[J8,B8k,D0n,F9h,O0]
 by_cases c1:K3 x≠0
 rotate_left
 by_cases c2:x.l.length>8
 rotate_left
 by_cases c3:S9 (A0i x) x.l.length≠0
 rotate_left
 all_goals
  apply exV
  focus
   repeat first
    | exact rfl
    | refine A8 rfl ?_
    | refine C8 rfl ?_
    | refine A8 (by simp only[SBs]; omega) ?_
    | refine C8 (by simp only[SBs]; omega) ?_
    | refine A8 hz ?_
    | refine A8 (F9d (by omega) hs) ?_
    | refine A8 (E5q (by omega) hs) ?_
  focus
   first
    | apply viI
    | apply viS
   dsimp only [W9]
   repeat first
    | exact rfl
    | omega
    | refine J3 (by omega) ?_
    | refine G6 (by omega) ?_
    | exact(G4w c3).symm
theorem H0i(x:Fea):(D5 prog E8z 60).call 98 [.agg x.av] (Bg 8) F8 =
  brK (E9 (okR Frm.fv x.l.length (A7 Frm.fv x.l))) (brK (I9 x.s) (brK (K3 { s:=x.s,k:=x.k,a:=x.a,x:=x.x,y:=x.y,z:=x.z,lo:=x.lo,hi:=x.hi,l:=ofR Frm.fv x.l.length (A7 Frm.fv x.l) } != 0) (some (.sint IntKind.i64 (K3 { s:=x.s,k:=x.k,a:=x.a,x:=x.x,y:=x.y,z:=x.z,lo:=x.lo,hi:=x.hi,l:=ofR Frm.fv x.l.length (A7 Frm.fv x.l) }))) (brK (decide ((x.l.length:Int)>8)) (some (.int .i64 5)) (brK (fdC B5d A6j D2c [Lf.i 0,Lf.o (F5 x)]) (brK (fdE B2m B6r (A6j [Lf.i 0,Lf.o (F5 x)])) (some (.int .i64 0)) (some (.sint IntKind.i64 (A0i (A2d (F5 x)) (G5 (B2m (A6j [Lf.i 0,Lf.o (F5 x)])) (B6r (A6j [Lf.i 0,Lf.o (F5 x)])) 0))))) none))) none) none:=by kernel_rfl
theorem H2h(x:Fea)(hz:I9 x.s=true)(hs:szF x=true):∃ v,(D5 prog E8z 60).call 98 [.agg x.av] (Bg 8) F8=some v/\O9 (W9 x) v:=by
 rw[H0i]
 simp only[J8,B8k,B3k,E5t,O0]
 by_cases c1:K3 x≠0
 rotate_left
 by_cases c2:x.l.length>8
 rotate_left
 by_cases c3:S9 (A0i x) x.l.length≠0
 rotate_left
 all_goals
  apply exV
  focus
   repeat first
    | exact rfl
    | refine A8 rfl ?_
    | refine C8 rfl ?_
    | refine A8 (by simp only[SBs]; omega) ?_
    | refine C8 (by simp only[SBs]; omega) ?_
    | refine A8 hz ?_
    | refine A8 (F9d (by omega) hs) ?_
    | refine A8 (E5q (by omega) hs) ?_
  focus
   first
    | apply viI
    | apply viS
   dsimp only [W9]
   repeat first
    | exact rfl
    | omega
    | refine J3 (by omega) ?_
    | refine G6 (by omega) ?_
    | exact(G4x c3).symm
theorem F1x{x:Fea}(h:szF x=true):I9 x.s=true:=by
 unfold szF at h
 rw[bA] at h
 exact h.1
def VAl(x:Fea):Tr AV:=.br (szF x) (.leaf (.sint .i64 (W9 x))) .fail
def pAl:Prims:=(pFe.addt 93 (M8 A0g VAl)).addt 98 (M8 A0g VAl)
theorem E9a{A:Amb}(hT:Tab A)(hG:gN prog<=A.G):PrimOK prog A pAl:=by
 have h0:=F5z hT hG
 refine H8 hG h0 (H8 hG h0 (D7g hT hG) A0g VAl func93 (by kernel_rfl) fun x v hv=>?_) A0g VAl func98 (by kernel_rfl) fun x v hv=>?_
 ·obtain⟨hz,hv⟩:=Tr.br1 hv
  cases hv
  obtain⟨v',h1,h2⟩:=H2e x (F1x hz) hz
  exact⟨v',h1,G9 h2,J9 h2⟩
 ·obtain⟨hz,hv⟩:=Tr.br1 hv
  cases hv
  obtain⟨v',h1,h2⟩:=H2h x (F1x hz) hz
  exact⟨v',h1,G9 h2,J9 h2⟩
def A6m(d:Drw)(s:List UInt8)(n:Nat):Bool:=(D8 d n).s==s
def D7(d:Drw)(s:List UInt8):Int:=D6i (A6m d s) d.l.length
def C4w:Code:=I7 (J6 0 (f116.body.getD .skip))
def sp116:SP:=⟨[.flist 9]++[.is (.func (.func 117) [] [.ptr (some (9,0))])]++dr 5++[.int .i64]++[.int .i64]++dr 10,dd8++[.any,.cells [.str] 0 true 9]⟩
def C7u:AEx->SP
 | .ret=>⟨dr 4++[.int .i64]++dr 14,dd8++[.any,.cells [.drop] 0 true 9]⟩
 | .exit 0=>⟨dr 19,dd8++[.any,.cells [.drop] 0 true 9]⟩
 | _=>sp116
theorem F0b(d:Drw)(s:List UInt8)(n:Int):E8 prog (D5 prog pAl 60) (pAl.blk 116) C4w (sp116.rho [.n d.l.length,.fr (A7 Fea.fv d.l),.i d.l.length,.i n,.o (C9 d),.s s]) (sp116.heap [.n d.l.length,.fr (A7 Fea.fv d.l),.i d.l.length,.i n,.o (C9 d),.s s]) (H9 C7u 10 [9]) =
  brK (decide (n<(d.l.length:Int))) (brK (decide (0<=n/\n<(d.l.length:Int))) (brK ((d.l.getD n.toNat default).s==s) (some (.ret,[.i (n),.o (C9 d)])) (some (.normal,[.n (d.l.length),.fr (A7 Fea.fv d.l),.i ((d.l.length:Int)),.i (W (n+1)),.o (C9 d),.s (s)]))) none) (some (.exit 0,[.o (C9 d)])):=by kernel_rfl
def B6a(x:Drw×List UInt8)(n:Nat):List Lf:=[.n x.1.l.length,.fr (A7 Fea.fv x.1.l),.i x.1.l.length,.i n,.o (C9 x.1),.s x.2]
def D8c:List Lf->Nat->List Lf
 | [_,_,_,_,o,_],n=>[.i n,o]
 | _,_=>[]
def D8o:List Lf->List Lf
 | [_,_,_,_,o,_]=>[o]
 | _=>[]
def C0r(x:Drw×List UInt8):Nat:=x.1.l.length
def D7c(x:Drw×List UInt8)(n:Nat):Bool:=!A6m x.1 x.2 n
def C2s(x:Drw×List UInt8):Prop:=x.1.l.length<2^62
def A5z:List Lf->Drw×List UInt8
 | [_,_,_,_,.o o,.s s]=>(I6 o,s)
 | _=>default
theorem F7y(x:Drw×List UInt8)(hx:C2s x)(n:Nat)(hn:n<=C0r x):E8 prog (D5 prog pAl 60) (pAl.blk 116) C4w (sp116.rho (B6a x n)) (sp116.heap (B6a x n)) (H9 C7u 10 [9])=some (if n<C0r x then(bif D7c x n then(.normal,B6a x (n+1)) else(.ret,D8c (B6a x 0) n)) else(.exit 0,D8o (B6a x 0))):=by
 have h1:=hx
 simp only[C2s] at h1
 simp only[B6a,D8c,D8o]
 rw[F0b,I5 hn h1]
 simp only[tN]
 by_cases h:n<C0r x
 ·rw[if_pos h]
  simp only[C0r] at h
  simp only[D7c,A6m,D8]
  cases hE:(x.1.l.getD n default).s==x.2
  all_goals
   repeat first
    | exact rfl
    | refine A8 rfl ?_
    | refine C8 rfl ?_
    | refine A8 (by simp only[SBs]; omega) ?_
    | refine C8 (by simp only[SBs]; omega) ?_
    | exact congrArg some (Y3 (by first | (simp only[SBs]; omega) | simp)).symm
    | exact congrArg some (Y2 (by first | (simp only[SBs]; omega) | simp)).symm
 ·rw[if_neg h]
  simp only[C0r] at h
  repeat first
   | exact rfl
   | refine A8 rfl ?_
   | refine C8 rfl ?_
   | refine A8 (by simp only[SBs]; omega) ?_
   | refine C8 (by simp only[SBs]; omega) ?_
   | exact congrArg some (Y3 (by first | (simp only[SBs]; omega) | simp)).symm
   | exact congrArg some (Y2 (by first | (simp only[SBs]; omega) | simp)).symm
def F9o:Blk:=hookP sp116 10 [9] (fdT C7u 0 .ret (.exit 0) A5z B6a D8c D8o C0r D7c C2s)
theorem E6o{A:Amb}{q:Prims}(h0:PrimOK prog A pAl)(hq:PrimOK prog A q):PrimOK prog A (q.addb 116 0 F9o) :=
 SEB.findR (id:=0) (ds:=[9]) (dec:=A5z) (sp:=sp116) (sq:=C7u) (m:=10) (eb:=.ret) (ee:=.exit 0) (L:=B6a) (Lb:=D8c) (Le:=D8o) (N:=C0r) (p:=D7c) (Inv:=C2s) (k:=60) F7 F9 h0 hq func116 (show f116.body=some (f116.body.getD .skip) by kernel_rfl) (body:=C4w) (by kernel_rfl)
  rfl rfl rfl rfl (by simp) (by simp) (fun _ _=>⟨⟨.inr rfl,.inr rfl,.inr rfl,.inr rfl,.inr rfl,.inr rfl,.inr rfl,.inr rfl,.inr rfl,.inl rfl,trivial⟩,⟨.inr rfl,.inr rfl,.inr rfl,.inr rfl,.inr rfl,.inr rfl,.inr rfl,.inr rfl,.inr rfl,.inl rfl,trivial⟩⟩) F7y
def D5i:Code:=I7 (J6 0 (f74.body.getD .skip))
def sp74:SP:=⟨dr 1++[.str]++[.is (.ptr (some (8,0)))]++dr 2++[.int .i64]++dr 16,dd8++[.any]⟩
def E1q:AEx->SP
 | .ret=>⟨dr 4++[.int .i64]++dr 17,dd8++[.any]⟩
 | .exit 0=>⟨dr 22,dd8++[.any]⟩
 | _=>sp74
theorem F7k(d:Drw)(s:List UInt8)(n:Int):E8 prog (D5 prog pAl 60) (pAl.blk 74) D5i (sp74.rho [.s s,.i n,.o (C9 d)]) (sp74.heap [.s s,.i n,.o (C9 d)]) (H9 E1q 9 []) =
  brK (decide (n<(d.l.length:Int))) (brK (decide (0<=n/\n<(d.l.length:Int))) (brK ((d.l.getD n.toNat default).s==s) (some (.ret,[.i (n),.o (C9 d)])) (some (.normal,[.s (s),.i (W (n+1)),.o (C9 d)]))) none) (some (.exit 0,[.o (C9 d)])):=by kernel_rfl
def L74(x:Drw×List UInt8)(n:Nat):List Lf:=[.s x.2,.i n,.o (C9 x.1)]
def F2n:List Lf->Nat->List Lf
 | [_,_,o],n=>[.i n,o]
 | _,_=>[]
def F2x:List Lf->List Lf
 | [_,_,o]=>[o]
 | _=>[]
def N74(x:Drw×List UInt8):Nat:=x.1.l.length
def p74(x:Drw×List UInt8)(n:Nat):Bool:=!A6m x.1 x.2 n
def E3d(x:Drw×List UInt8):Prop:=x.1.l.length<2^62
def B2a:List Lf->Drw×List UInt8
 | [.s s,_,.o o]=>(I6 o,s)
 | _=>default
theorem G5o(x:Drw×List UInt8)(hx:E3d x)(n:Nat)(hn:n<=N74 x):E8 prog (D5 prog pAl 60) (pAl.blk 74) D5i (sp74.rho (L74 x n)) (sp74.heap (L74 x n)) (H9 E1q 9 [])=some (if n<N74 x then(bif p74 x n then(.normal,L74 x (n+1)) else(.ret,F2n (L74 x 0) n)) else(.exit 0,F2x (L74 x 0))):=by
 have h1:=hx
 simp only[E3d] at h1
 simp only[L74,F2n,F2x]
 rw[F7k,I5 hn h1]
 simp only[tN]
 by_cases h:n<N74 x
 ·rw[if_pos h]
  simp only[N74] at h
  simp only[p74,A6m,D8]
  cases hE:(x.1.l.getD n default).s==x.2
  all_goals
   repeat first
    | exact rfl
    | refine A8 rfl ?_
    | refine C8 rfl ?_
    | refine A8 (by simp only[SBs]; omega) ?_
    | refine C8 (by simp only[SBs]; omega) ?_
    | exact congrArg some (Y3 (by first | (simp only[SBs]; omega) | simp)).symm
    | exact congrArg some (Y2 (by first | (simp only[SBs]; omega) | simp)).symm
 ·rw[if_neg h]
  simp only[N74] at h
  repeat first
   | exact rfl
   | refine A8 rfl ?_
   | refine C8 rfl ?_
   | refine A8 (by simp only[SBs]; omega) ?_
   | refine C8 (by simp only[SBs]; omega) ?_
   | exact congrArg some (Y3 (by first | (simp only[SBs]; omega) | simp)).symm
   | exact congrArg some (Y2 (by first | (simp only[SBs]; omega) | simp)).symm
def G7a:Blk:=hookP sp74 9 [] (fdT E1q 0 .ret (.exit 0) B2a L74 F2n F2x N74 p74 E3d)
theorem F5b{A:Amb}{q:Prims}(h0:PrimOK prog A pAl)(hq:PrimOK prog A q):PrimOK prog A (q.addb 74 0 G7a) :=
 SEB.findR (id:=0) (ds:=[]) (dec:=B2a) (sp:=sp74) (sq:=E1q) (m:=9) (eb:=.ret) (ee:=.exit 0) (L:=L74) (Lb:=F2n) (Le:=F2x) (N:=N74) (p:=p74) (Inv:=E3d) (k:=60) F7 F9 h0 hq func74 (show f74.body=some (f74.body.getD .skip) by kernel_rfl) (body:=D5i) (by kernel_rfl)
  rfl rfl rfl rfl (by simp) (by simp) (fun _ _=>⟨⟨.inr rfl,.inr rfl,.inr rfl,.inr rfl,.inr rfl,.inr rfl,.inr rfl,.inr rfl,.inr rfl,trivial⟩,⟨.inr rfl,.inr rfl,.inr rfl,.inr rfl,.inr rfl,.inr rfl,.inr rfl,.inr rfl,.inr rfl,trivial⟩⟩) G5o
theorem B3j(d:Drw)(s:List UInt8)(a b c e:Lf):A5z [a,b,c,e,Lf.o (C9 d),Lf.s s]=(d,s):=by simp[A5z,D9]
theorem C6e{d:Drw}{s:List UInt8}(h:d.l.length<2^62):fdC B6a A5z C2s [Lf.n d.l.length,Lf.fr (A7 Fea.fv d.l),Lf.i d.l.length,Lf.i 0,Lf.o (C9 d),Lf.s s]=true:=J5 (L:=B6a) (x:=(d,s)) (B3j d s _ _ _ _) h
theorem B8g(d:Drw)(s:List UInt8)(a:Lf):B2a [Lf.s s,a,Lf.o (C9 d)]=(d,s):=by simp[B2a,D9]
theorem D9v{d:Drw}{s:List UInt8}(h:d.l.length<2^62):fdC L74 B2a E3d [Lf.s s,Lf.i 0,Lf.o (C9 d)]=true:=J5 (L:=L74) (x:=(d,s)) (B8g d s _) h
theorem E5r(d:Drw)(s:List UInt8):fdE D7c C0r (d,s)=decide (A2b (A6m d s) d.l.length=d.l.length):=rfl
theorem F9g(d:Drw)(s:List UInt8):fdE p74 N74 (d,s)=decide (A2b (A6m d s) d.l.length=d.l.length):=rfl
def E9g:Prims:=(pAl.addb 116 0 F9o).addb 74 0 G7a
theorem F6i{A:Amb}(hT:Tab A)(hG:gN prog<=A.G):PrimOK prog A E9g:=by
 have h0:=E9a hT hG
 exact F5b h0 (E6o h0 h0)
def A2p:Par (Drw×List UInt8) where
 get:=fun | [.agg l,a]=>(match D0q l,sstr? a with | some (c,x),some s=>some (c,(x,s)) | _,_=>none) | _=>none
 av:=fun x=>[.agg x.1.av,.sstr x.2]
 ok:=by
  intro l x h Z vs hv
  split at h
  ·split at h
   ·rename_i h1 h2
    simp only[sI,pI] at h
    obtain⟨rfl,rfl⟩:=h
    simp only[VRL,VR] at hv ⊢
    obtain⟨y,r,e,⟨a,q1,q2⟩,y2,r2,e2,q4,q3⟩:=hv
    exact⟨y,r,e,⟨a,q1,C6d h1 q2⟩,y2,r2,e2,N8 h2 q4,q3⟩
   ·cases h
  ·cases h
 free:=fun _=>rfl
theorem G9v(d:Drw)(s:List UInt8):(D5 prog E9g 60).call 62 [.agg d.av,.sstr s] (Bg 8) F8 =
  brK (fdC B6a A5z C2s [Lf.n d.l.length,Lf.fr (A7 Fea.fv d.l),Lf.i (d.l.length:Int),Lf.i 0,Lf.o (C9 d),Lf.s s]) (brK (fdE D7c C0r (A5z [Lf.n d.l.length,Lf.fr (A7 Fea.fv d.l),Lf.i (d.l.length:Int),Lf.i 0,Lf.o (C9 d),Lf.s s])) (some (.int .i64 (-1))) (some (.sint IntKind.i64 (((G5 (D7c (A5z [Lf.n d.l.length,Lf.fr (A7 Fea.fv d.l),Lf.i (d.l.length:Int),Lf.i 0,Lf.o (C9 d),Lf.s s])) (C0r (A5z [Lf.n d.l.length,Lf.fr (A7 Fea.fv d.l),Lf.i (d.l.length:Int),Lf.i 0,Lf.o (C9 d),Lf.s s])) 0):Int))))) none:=by kernel_rfl
theorem H1z(d:Drw)(s:List UInt8)(hl:d.l.length<2^62):∃ v,(D5 prog E9g 60).call 62 [.agg d.av,.sstr s] (Bg 8) F8=some v/\O9 (D7 d s) v:=by
 rw[G9v]
 simp only[B3j,E5r]
 by_cases c1:A2b (A6m d s) d.l.length=d.l.length
 ·apply exV
  focus
   repeat first
    | exact rfl
    | refine A8 rfl ?_
    | refine C8 rfl ?_
    | refine A8 (by simp only[SBs]; omega) ?_
    | refine C8 (by simp only[SBs]; omega) ?_
    | refine A8 (C6e hl) ?_
    | refine A8 (D9v hl) ?_
  focus
   first
    | apply viI
    | apply viS
   dsimp only [D7,D6i]
   repeat first
    | exact rfl
    | omega
    | refine J3 (by omega) ?_
    | refine G6 (by omega) ?_
 apply exV
 focus
  repeat first
   | exact rfl
   | refine A8 rfl ?_
   | refine C8 rfl ?_
   | refine A8 (by simp only[SBs]; omega) ?_
   | refine C8 (by simp only[SBs]; omega) ?_
   | refine A8 (C6e hl) ?_
   | refine A8 (D9v hl) ?_
 focus
  first
   | apply viI
   | apply viS
  dsimp only [D7,D6i]
  repeat first
   | exact rfl
   | omega
   | refine J3 (by omega) ?_
   | refine G6 (by omega) ?_
theorem G9w(d:Drw)(s:List UInt8):(D5 prog E9g 60).call 74 [.agg d.av,.sstr s] (Bg 8) F8 =
  brK (fdC L74 B2a E3d [Lf.s s,Lf.i 0,Lf.o (C9 d)]) (brK (fdE p74 N74 (B2a [Lf.s s,Lf.i 0,Lf.o (C9 d)])) (some (.int .i64 (-1))) (some (.sint IntKind.i64 (((G5 (p74 (B2a [Lf.s s,Lf.i 0,Lf.o (C9 d)])) (N74 (B2a [Lf.s s,Lf.i 0,Lf.o (C9 d)])) 0):Int))))) none:=by kernel_rfl
theorem H2a(d:Drw)(s:List UInt8)(hl:d.l.length<2^62):∃ v,(D5 prog E9g 60).call 74 [.agg d.av,.sstr s] (Bg 8) F8=some v/\O9 (D7 d s) v:=by
 rw[G9w]
 simp only[B8g,F9g]
 by_cases c1:A2b (A6m d s) d.l.length=d.l.length
 ·apply exV
  focus
   repeat first
    | exact rfl
    | refine A8 rfl ?_
    | refine C8 rfl ?_
    | refine A8 (by simp only[SBs]; omega) ?_
    | refine C8 (by simp only[SBs]; omega) ?_
    | refine A8 (C6e hl) ?_
    | refine A8 (D9v hl) ?_
  focus
   first
    | apply viI
    | apply viS
   dsimp only [D7,D6i]
   repeat first
    | exact rfl
    | omega
    | refine J3 (by omega) ?_
    | refine G6 (by omega) ?_
 apply exV
 focus
  repeat first
   | exact rfl
   | refine A8 rfl ?_
   | refine C8 rfl ?_
   | refine A8 (by simp only[SBs]; omega) ?_
   | refine C8 (by simp only[SBs]; omega) ?_
   | refine A8 (C6e hl) ?_
   | refine A8 (D9v hl) ?_
 focus
  first
   | apply viI
   | apply viS
  dsimp only [D7,D6i]
  repeat first
   | exact rfl
   | omega
   | refine J3 (by omega) ?_
   | refine G6 (by omega) ?_
def VIx(x:Drw×List UInt8):Tr AV:=.br (decide (x.1.l.length<2^62)) (.leaf (.sint .i64 (D7 x.1 x.2))) .fail
def pIx:Prims:=(pAl.addt 62 (M8 A2p VIx)).addt 74 (M8 A2p VIx)
theorem E9h{A:Amb}(hT:Tab A)(hG:gN prog<=A.G):PrimOK prog A pIx:=by
 have h0:=F6i hT hG
 refine H8 hG h0 (H8 hG h0 (E9a hT hG) A2p VIx func62 (by kernel_rfl) fun x v hv=>?_) A2p VIx func74 (by kernel_rfl) fun x v hv=>?_
 ·obtain⟨hz,hv⟩:=Tr.br1 hv
  cases hv
  obtain⟨v',h1,h2⟩:=H1z x.1 x.2 (of_decide_eq_true hz)
  exact⟨v',h1,G9 h2,J9 h2⟩
 ·obtain⟨hz,hv⟩:=Tr.br1 hv
  cases hv
  obtain⟨v',h1,h2⟩:=H2a x.1 x.2 (of_decide_eq_true hz)
  exact⟨v',h1,G9 h2,J9 h2⟩
end Go.Proofs.Tryz
