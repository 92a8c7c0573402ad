/- Drawings: the names of a feature, by the reference. -/
import Derived.Test.YtoboneiigikidaaGreatDoorDm
import Derived.Test.YtoboneiigikidaaGreatDoorAdFind
noncomputable section
namespace Go.Proofs.Tryz
open Go.Ad
def A9j(o:List Txt)(l:List Dat):List Txt:=l.foldl (fun o y=>O6 o y.s) o
def K9(x:Fea)(n:Nat):List Txt:=(x.l.take n).foldl (fun o f=>A9j o f.l) []
structure SmlF (x:Fea):Prop where
 l:x.l.length<=100
 d:∀ i,i<x.l.length->(F4 x i).l.length<=100
theorem D2x(s:Txt):∀ l:List Txt,(B0s s l).length<=l.length+1
 | []=>by simp[B0s]
 | x::l=>by
  unfold B0s
  split
  ·have:=List.length_filter_le (fun y=>decide (y≠s)) (x::l)
   simp only[List.length_cons] at this ⊢; omega
  ·have:=D2x s l
   simp only[List.length_cons]; omega
theorem D2v(l:List Txt)(s:Txt):(O6 l s).length<=l.length+1:=by rw[C7k]; exact D2x s l
theorem B9q:∀ (l:List Dat) (o:List Txt),(A9j o l).length<=o.length+l.length
 | [],o=>by simp[A9j]
 | y::l,o=>by
  have h1:=B9q l (O6 o y.s)
  have h2:=D2v o y.s
  unfold A9j at h1 ⊢
  rw[List.foldl_cons]
  simp only[List.length_cons]; omega
theorem E3p{o:List Txt}{l:List Dat}{n:Nat}(h:n<l.length):A9j o (l.take (n+1))=O6 (A9j o (l.take n)) (l.getD n default).s:=by
 unfold A9j
 rw[List.take_succ_eq_append_getElem h,List.foldl_append,gD,gE h]
 rfl
theorem A9b{x:Fea}{n:Nat}(h:n<x.l.length):K9 x (n+1)=A9j (K9 x n) (F4 x n).l:=by
 unfold K9 F4
 rw[List.take_succ_eq_append_getElem h,List.foldl_append,gD,gE h]
 rfl
theorem A8h{x:Fea}(h:SmlF x):∀ n,n<=x.l.length->(K9 x n).length<=100*n
 | 0,_=>by simp[K9]
 | n+1,hn=>by
  rw[A9b (by omega)]
  have h1:=B9q (F4 x n).l (K9 x n)
  have h2:=A8h h n (by omega)
  have h3:=h.d n (by omega)
  omega
def C5s:Code:=I7 (J6 2 (f89.body.getD .skip))
def sp89b:SP:=⟨dr 1++[.is (.ptr (some (8,0)))]++dr 1++[.flist 1]++[.int .i64]++[.int .i64]++dr 31,dd8++[.any]⟩
def C8q:AEx->SP
 | .exit 2=>⟨dr 1++[.is (.ptr (some (8,0)))]++dr 1++[.flist 1]++[.int .i64]++dr 32,dd8++[.any]⟩
 | _=>sp89b
theorem F0x(x:Fea)(O:List Txt)(i n:Int):E8 prog (D5 prog pPu 60) (pPu.blk 89) C5s (sp89b.rho [.n O.length,.fr (A7 txF O),.i i,.i n,.o (F5 x)]) (sp89b.heap [.n O.length,.fr (A7 txF O),.i i,.i n,.o (F5 x)]) (H9 C8q 9 []) =
  brK (decide (0<=i/\i<(x.l.length:Int))) (brK (decide (n<((x.l.getD i.toNat default).l.length:Int))) (brK (decide (0<=i/\i<(x.l.length:Int))) (brK (decide (0<=n/\n<((x.l.getD i.toNat default).l.length:Int))) (brK (E9 (okR txF O.length (A7 txF O))) (brK (decide ((ofR txF O.length (A7 txF O)).length<=1000000)) (some (.normal,[.n ((O6 (ofR txF O.length (A7 txF O)) ((x.l.getD i.toNat default).l.getD n.toNat default).s).length),.fr (A7 txF (O6 (ofR txF O.length (A7 txF O)) ((x.l.getD i.toNat default).l.getD n.toNat default).s)),.i (i),.i (W (n+1)),.o (F5 (x))])) none) none) none) none) (some (.exit 2,[.n (O.length),.fr (A7 txF O),.i (i),.o (F5 (x))]))) none:=by kernel_rfl
def C3y(x:Fea×Nat×List Txt)(n:Nat):List Lf:=[.n (A9j x.2.2 ((F4 x.1 x.2.1).l.take n)).length,.fr (A7 txF (A9j x.2.2 ((F4 x.1 x.2.1).l.take n))),.i x.2.1,.i n,.o (F5 x.1)]
def B1j(x:Fea×Nat×List Txt):List Lf:=C3y x 0
def D9e:List Lf->(Fea×Nat×List Txt)->List Lf
 | [_,_,i,_,o],x=>[.n (A9j x.2.2 (F4 x.1 x.2.1).l).length,.fr (A7 txF (A9j x.2.2 (F4 x.1 x.2.1).l)),i,o]
 | _,_=>[]
def D4b(x:Fea×Nat×List Txt):Nat:=(F4 x.1 x.2.1).l.length
def B8z(x:Fea×Nat×List Txt):Prop:=SmlF x.1/\x.2.1<x.1.l.length/\x.2.2.length<=100000
def A1n:List Lf->Fea×Nat×List Txt
 | [.n m,.fr g,.i i,_,.o o]=>(A2d o,i.toNat,ofR txF m g)
 | _=>default
theorem F8u(x:Fea×Nat×List Txt)(hx:B8z x)(n:Nat)(hn:n<=D4b x):E8 prog (D5 prog pPu 60) (pPu.blk 89) C5s (sp89b.rho (C3y x n)) (sp89b.heap (C3y x n)) (H9 C8q 9 [])=some (if n<D4b x then(.normal,C3y x (n+1)) else(.exit 2,D9e (B1j x) x)):=by
 obtain⟨x,i,O⟩:=x
 obtain⟨h1,hi,hO⟩:=hx
 dsimp only at h1 hi hO
 have hd:=h1.d i hi
 simp only[C3y]
 rw[F0x,I5 hn (show D4b (x,i,O)<2^62 by show(F4 x i).l.length<2^62; omega)]
 simp only[tN,I1 U4,J8]
 by_cases h:n<D4b (x,i,O)
 ·rw[if_pos h]
  simp only[D4b,F4] at h hd
  have hl:=B9q ((F4 x i).l.take n) O
  rw[List.length_take] at hl
  simp only[F4] at hl
  rw[E3p h]
  simp only[F4]
  repeat first
   | exact rfl
   | refine A8 (dT (by omega)) ?_
   | refine A8 rfl ?_
 ·rw[if_neg h]
  simp only[D4b] at h hn
  have e:(F4 x i).l.take n=(F4 x i).l:=List.take_of_length_le (by omega)
  simp only[D9e,B1j,C3y,e]
  simp only[F4] at h ⊢
  repeat first
   | exact rfl
   | refine A8 (dT (by omega)) ?_
   | refine C8 (dF (by omega)) ?_
theorem G2h{A:Amb}(x:Fea×Nat×List Txt)(_hx:B8z x)(Bb:Heap)(hB:Bb.length=9):Wk A Bb ⟨sp89b.rho (B1j x),sp89b.heap (B1j x),[]⟩ ⟨sp89b.rho (C3y x 0),sp89b.heap (C3y x 0),[]⟩:=by
 have _:=hB
 exact Wk.refl
def G0m:Blk:=hookP sp89b 9 [] (itT (C8q (.exit 2)) 2 (.exit 2) A1n B1j D9e B8z)
theorem E7m{A:Amb}{q:Prims}(h0:PrimOK prog A pPu)(hq:PrimOK prog A q):PrimOK prog A (q.addb 89 2 G0m) :=
 SEB.iterK (id:=2) (ds:=[]) (dec:=A1n) (sp0:=sp89b) (sp:=sp89b) (sq:=C8q) (m:=9) (ee:=.exit 2) (L0:=B1j) (L:=C3y) (Le:=D9e) (N:=D4b) (Inv:=B8z) (k:=60) F7 F9 h0 hq func89 (show f89.body=some (f89.body.getD .skip) by kernel_rfl) (body:=C5s) (by kernel_rfl)
  rfl rfl rfl rfl (by simp) (fun _=>⟨.inr rfl,.inr rfl,.inr rfl,.inr rfl,.inr rfl,.inr rfl,.inr rfl,.inr rfl,.inr rfl,trivial⟩) G2h F8u
def pNd1:Prims:=pPu.addb 89 2 G0m
theorem D0m(x:Fea)(i:Nat)(O:List Txt):A1n [Lf.n O.length,Lf.fr (A7 txF O),Lf.i i,Lf.i 0,Lf.o (F5 x)]=(x,i,O):=by
 simp[A1n,I1 U4,O0]
theorem G7k{x:Fea}(h:SmlF x){i:Nat}(hi:i<x.l.length){O:List Txt}(hO:O.length<=100000):itC B1j A1n B8z [Lf.n O.length,Lf.fr (A7 txF O),Lf.i i,Lf.i 0,Lf.o (F5 x)]=true :=
 P5 (L0:=B1j) (dec:=A1n) (Inv:=B8z) (x:=(x,i,O)) (D0m x i O) ⟨h,hi,hO⟩
def C5r:Code:=I7 (J6 0 (f89.body.getD .skip))
def sp89a:SP:=⟨dr 1++[.is (.ptr (some (8,0)))]++dr 1++[.flist 1]++[.int .i64]++dr 32,dd8++[.any]⟩
def C8p:AEx->SP
 | .exit 0=>⟨dr 1++[.is (.ptr (some (8,0)))]++dr 1++[.flist 1]++dr 33,dd8++[.any]⟩
 | _=>sp89a
theorem F0w(x:Fea)(O:List Txt)(i:Int):E8 prog (D5 prog pNd1 60) (pNd1.blk 89) C5r (sp89a.rho [.n O.length,.fr (A7 txF O),.i i,.o (F5 x)]) (sp89a.heap [.n O.length,.fr (A7 txF O),.i i,.o (F5 x)]) (H9 C8p 9 []) =
  brK (decide (i<(x.l.length:Int))) (brK (itC B1j A1n B8z [Lf.n O.length,Lf.fr (A7 txF O),Lf.i i,Lf.i 0,Lf.o (F5 x)]) (some (.normal,[.n ((A9j (A1n [Lf.n O.length,Lf.fr (A7 txF O),Lf.i i,Lf.i 0,Lf.o (F5 x)]).snd.snd (F4 (A1n [Lf.n O.length,Lf.fr (A7 txF O),Lf.i i,Lf.i 0,Lf.o (F5 x)]).fst (A1n [Lf.n O.length,Lf.fr (A7 txF O),Lf.i i,Lf.i 0,Lf.o (F5 x)]).snd.fst).l).length),.fr (A7 txF (A9j (A1n [Lf.n O.length,Lf.fr (A7 txF O),Lf.i i,Lf.i 0,Lf.o (F5 x)]).snd.snd (F4 (A1n [Lf.n O.length,Lf.fr (A7 txF O),Lf.i i,Lf.i 0,Lf.o (F5 x)]).fst (A1n [Lf.n O.length,Lf.fr (A7 txF O),Lf.i i,Lf.i 0,Lf.o (F5 x)]).snd.fst).l)),.i (W (i+1)),.o (F5 (x))])) none) (some (.exit 0,[.n (O.length),.fr (A7 txF O),.o (F5 (x))])):=by kernel_rfl
def D3x(x:Fea)(n:Nat):List Lf:=[.n (K9 x n).length,.fr (A7 txF (K9 x n)),.i n,.o (F5 x)]
def A9l(x:Fea):List Lf:=[.n 0,.fr fun _=>[],.i 0,.o (F5 x)]
def E4i:List Lf->Fea->List Lf
 | [_,_,_,o],x=>[.n (K9 x x.l.length).length,.fr (A7 txF (K9 x x.l.length)),o]
 | _,_=>[]
def D4a(x:Fea):Nat:=x.l.length
def C2y(x:Fea):Prop:=SmlF x
def A3l:List Lf->Fea
 | [_,_,_,.o o]=>A2d o
 | _=>default
theorem F8t(x:Fea)(hx:C2y x)(n:Nat)(hn:n<=D4a x):E8 prog (D5 prog pNd1 60) (pNd1.blk 89) C5r (sp89a.rho (D3x x n)) (sp89a.heap (D3x x n)) (H9 C8p 9 [])=some (if n<D4a x then(.normal,D3x x (n+1)) else(.exit 0,E4i (A9l x) x)):=by
 have h1:SmlF x:=hx
 have hl:=h1.l
 simp only[D3x]
 rw[F0w,I5 hn (show D4a x<2^62 by show x.l.length<2^62; omega),D0m]
 by_cases h:n<D4a x
 ·rw[if_pos h,G7k h1 h (by have:=A8h h1 n hn; have:n<x.l.length:=h; omega),<- A9b h]
  exact A8 (dT (Int.ofNat_lt.mpr h)) rfl
 ·rw[if_neg h]
  have e:n=D4a x:=Nat.le_antisymm hn (Nat.le_of_not_lt h)
  subst e
  exact C8 (dF (by unfold D4a; omega)) rfl
theorem G2g{A:Amb}(x:Fea)(_hx:C2y x)(Bb:Heap)(hB:Bb.length=9):Wk A Bb ⟨sp89a.rho (A9l x),sp89a.heap (A9l x),[]⟩ ⟨sp89a.rho (D3x x 0),sp89a.heap (D3x x 0),[]⟩:=by
 have _:=hB
 exact Wk.temps (E4m (i:=3) (a:=.flist 0 (fun _=>[]) 1) (a':=.flist (K9 x 0).length (A7 txF (K9 x 0)) 1) rfl D9j)
def G0l:Blk:=hookP sp89a 9 [] (itT (C8p (.exit 0)) 0 (.exit 0) A3l A9l E4i C2y)
theorem E7l{A:Amb}{q:Prims}(h0:PrimOK prog A pNd1)(hq:PrimOK prog A q):PrimOK prog A (q.addb 89 0 G0l) :=
 SEB.iterK (id:=0) (ds:=[]) (dec:=A3l) (sp0:=sp89a) (sp:=sp89a) (sq:=C8p) (m:=9) (ee:=.exit 0) (L0:=A9l) (L:=D3x) (Le:=E4i) (N:=D4a) (Inv:=C2y) (k:=60) F7 F9 h0 hq func89 (show f89.body=some (f89.body.getD .skip) by kernel_rfl) (body:=C5r) (by kernel_rfl)
  rfl rfl rfl rfl (by simp) (fun _=>⟨.inr rfl,.inr rfl,.inr rfl,.inr rfl,.inr rfl,.inr rfl,.inr rfl,.inr rfl,.inr rfl,trivial⟩) G2g F8t
def G7y:Prims:=pNd1.addb 89 0 G0l
def VNd(x:Fea):Tr AV:=.br (E9 (SmlF x)) (.leaf (Q4 (K9 x x.l.length))) .fail
theorem H0a(x:Fea):(D5 prog G7y 60).call 89 [.agg x.av] (Bg 8) F8 =
  brK (itC A9l A3l C2y [Lf.n 0,Lf.fr fun x=>[],Lf.i 0,Lf.o (F5 x)]) (some (.flist (((K9 (A3l [Lf.n 0,Lf.fr fun x=>[],Lf.i 0,Lf.o (F5 x)]) (A3l [Lf.n 0,Lf.fr fun x=>[],Lf.i 0,Lf.o (F5 x)]).l.length)).length) (fun i=>txF ((K9 (A3l [Lf.n 0,Lf.fr fun x=>[],Lf.i 0,Lf.o (F5 x)]) (A3l [Lf.n 0,Lf.fr fun x=>[],Lf.i 0,Lf.o (F5 x)]).l.length).getD i default)) 1)) none:=by kernel_rfl
theorem D0l(x:Fea):A3l (A9l x)=x:=by simp[A3l,A9l,O0]
def pNd:Prims:=pPu.addt 89 (M8 A0g VNd)
theorem F6j{A:Amb}(hT:Tab A)(hG:gN prog<=A.G):PrimOK prog A G7y:=by
 have h0:=E9n hT hG
 have h1:PrimOK prog A pNd1:=E7m h0 h0
 exact E7l h1 h1
theorem G3u{A:Amb}(hT:Tab A)(hG:gN prog<=A.G):PrimOK prog A pNd:=by
 refine H8 hG (F6j hT hG) (E9n hT hG) A0g VNd func89 (by kernel_rfl) fun x v hv=>?_
 obtain⟨hz,hv⟩:=Tr.br1 hv
 cases hv
 have hz:=H6 hz
 refine⟨_,(H0a x).trans (A8 (P5 (D0l x) (show C2y x from hz)) rfl),?_,?_⟩
 ·rfl
 ·intro Z y hy
  have h2:VR Z (Q4 (K9 (A3l (A9l x)) (A3l (A9l x)).l.length)) y:=hy
  rw[D0l] at h2
  exact h2
def nbR(d:Drw)(s:Txt):List Txt:=K9 (D8 d (D7 d s).toNat) (D8 d (D7 d s).toNat).l.length
theorem A6y{o:List Txt}{l:List Txt}{n:Nat}(h:n<l.length):(l.take (n+1)).foldl O6 o=O6 ((l.take n).foldl O6 o) (l.getD n default):=by
 rw[List.take_succ_eq_append_getElem h,List.foldl_append,gD,gE h]
 rfl
theorem V7:∀ (l o:List Txt),(l.foldl O6 o).length<=o.length+l.length
 | [],o=>by simp
 | y::l,o=>by
  have h1:=V7 l (O6 o y)
  have h2:=D2v o y
  rw[List.foldl_cons]
  simp only[List.length_cons]; omega
abbrev β51:=List Txt×List Txt×Int×Nat×(Nat->List FV)×Int×Drw
def C5m:Code:=I7 (J6 4 (f51.body.getD .skip))
def sp51c:SP:=⟨dr 2++[.is (.ptr (some (8,0)))]++dr 2++[.flist 1]++[.int .i64]++[.flist 1]++[.int .i64]++[.flist 1]++[.int .i64]++dr 46,dd8++[.any]⟩
def C8k:AEx->SP
 | .exit 4=>⟨dr 2++[.is (.ptr (some (8,0)))]++dr 2++[.flist 1]++[.int .i64]++[.flist 1]++[.int .i64]++dr 48,dd8++[.any]⟩
 | _=>sp51c
theorem F0r(O M:List Txt)(r i n:Int)(m:Nat)(g:Nat->List FV)(d:Drw):E8 prog (D5 prog pNd 60) (pNd.blk 51) C5m (sp51c.rho [.n O.length,.fr (A7 txF O),.i r,.n m,.fr g,.i i,.n M.length,.fr (A7 txF M),.i n,.o (C9 d)]) (sp51c.heap [.n O.length,.fr (A7 txF O),.i r,.n m,.fr g,.i i,.n M.length,.fr (A7 txF M),.i n,.o (C9 d)]) (H9 C8k 9 []) =
  brK (decide (n<(M.length:Int))) (brK (decide (0<=n/\n<(M.length:Int))) (brK (E9 (okR txF O.length (A7 txF O))) (brK (decide ((ofR txF O.length (A7 txF O)).length<=1000000)) (some (.normal,[.n ((O6 (ofR txF O.length (A7 txF O)) (M.getD n.toNat default)).length),.fr (A7 txF (O6 (ofR txF O.length (A7 txF O)) (M.getD n.toNat default))),.i (r),.n (m),.fr (g),.i (i),.n (M.length),.fr (A7 txF M),.i (W (n+1)),.o (C9 d)])) none) none) none) (some (.exit 4,[.n (O.length),.fr (A7 txF O),.i (r),.n (m),.fr (g),.i (i),.o (C9 d)])):=by kernel_rfl
def C3u(x:β51)(n:Nat):List Lf:=[.n ((x.2.1.take n).foldl O6 x.1).length,.fr (A7 txF ((x.2.1.take n).foldl O6 x.1)),.i x.2.2.1,.n x.2.2.2.1,.fr x.2.2.2.2.1,.i x.2.2.2.2.2.1,.n x.2.1.length,.fr (A7 txF x.2.1),.i n,.o (C9 x.2.2.2.2.2.2)]
def B1h(x:β51):List Lf:=C3u x 0
def D9c:List Lf->β51->List Lf
 | [_,_,r,m,g,i,_,_,_,o],x=>[.n (x.2.1.foldl O6 x.1).length,.fr (A7 txF (x.2.1.foldl O6 x.1)),r,m,g,i,o]
 | _,_=>[]
def D3z(x:β51):Nat:=x.2.1.length
def B8y(x:β51):Prop:=x.1.length<=900000/\x.2.1.length<=10000
def A2h:List Lf->β51
 | [.n a,.fr b,.i r,.n m,.fr g,.i i,.n c,.fr e,_,.o o]=>(ofR txF a b,ofR txF c e,r,m,g,i,I6 o)
 | _=>([],[],0,0,fun _=>[],0,default)
theorem F8o(x:β51)(hx:B8y x)(n:Nat)(hn:n<=D3z x):E8 prog (D5 prog pNd 60) (pNd.blk 51) C5m (sp51c.rho (C3u x n)) (sp51c.heap (C3u x n)) (H9 C8k 9 [])=some (if n<D3z x then(.normal,C3u x (n+1)) else(.exit 4,D9c (B1h x) x)):=by
 obtain⟨O,M,r,m,g,i,d⟩:=x
 obtain⟨h1,h2⟩:=hx
 dsimp only at h1 h2
 simp only[C3u]
 rw[F0r,I5 hn (show D3z (O,M,r,m,g,i,d)<2^62 by show M.length<2^62; omega)]
 simp only[tN,I1 U4,J8]
 by_cases h:n<D3z (O,M,r,m,g,i,d)
 ·rw[if_pos h]
  simp only[D3z] at h
  have hl:=V7 (M.take n) O
  rw[List.length_take] at hl
  rw[A6y h]
  refine A8 (dT (by omega)) (A8 (dT (by omega)) (A8 rfl ?_))
  exact A8 (dT (by omega)) rfl
 ·rw[if_neg h]
  simp only[D3z] at h hn
  have e:M.take n=M:=List.take_of_length_le (by omega)
  simp only[D9c,B1h,C3u,e]
  exact C8 (dF (by omega)) rfl
theorem G2a{A:Amb}(x:β51)(_hx:B8y x)(Bb:Heap)(hB:Bb.length=9):Wk A Bb ⟨sp51c.rho (B1h x),sp51c.heap (B1h x),[]⟩ ⟨sp51c.rho (C3u x 0),sp51c.heap (C3u x 0),[]⟩:=by
 have _:=hB
 exact Wk.refl
def G0f:Blk:=hookP sp51c 9 [] (itT (C8k (.exit 4)) 4 (.exit 4) A2h B1h D9c B8y)
theorem E7f{A:Amb}{q:Prims}(h0:PrimOK prog A pNd)(hq:PrimOK prog A q):PrimOK prog A (q.addb 51 4 G0f) :=
 SEB.iterK (id:=4) (ds:=[]) (dec:=A2h) (sp0:=sp51c) (sp:=sp51c) (sq:=C8k) (m:=9) (ee:=.exit 4) (L0:=B1h) (L:=C3u) (Le:=D9c) (N:=D3z) (Inv:=B8y) (k:=60) F7 F9 h0 hq func51 (show f51.body=some (f51.body.getD .skip) by kernel_rfl) (body:=C5m) (by kernel_rfl)
  rfl rfl rfl rfl (by simp) (fun _=>⟨.inr rfl,.inr rfl,.inr rfl,.inr rfl,.inr rfl,.inr rfl,.inr rfl,.inr rfl,.inr rfl,trivial⟩) G2a F8o
theorem G7i{O M:List Txt}(h1:O.length<=900000)(h2:M.length<=10000)(r:Int)(m:Nat)(g:Nat->List FV)(i:Int)(d:Drw):A2h [Lf.n O.length,Lf.fr (A7 txF O),Lf.i r,Lf.n m,Lf.fr g,Lf.i i,Lf.n M.length,Lf.fr (A7 txF M),Lf.i 0,Lf.o (C9 d)]=(O,M,r,m,g,i,d)/\itC B1h A2h B8y [Lf.n O.length,Lf.fr (A7 txF O),Lf.i r,Lf.n m,Lf.fr g,Lf.i i,Lf.n M.length,Lf.fr (A7 txF M),Lf.i 0,Lf.o (C9 d)]=true :=
 have e:A2h [Lf.n O.length,Lf.fr (A7 txF O),Lf.i r,Lf.n m,Lf.fr g,Lf.i i,Lf.n M.length,Lf.fr (A7 txF M),Lf.i 0,Lf.o (C9 d)]=(O,M,r,m,g,i,d):=by simp[A2h,I1 U4,D9]
 ⟨e,P5 (L0:=B1h) (dec:=A2h) (Inv:=B8y) (x:=(O,M,r,m,g,i,d)) e ⟨h1,h2⟩⟩
def pNe1:Prims:=pNd.addb 51 4 G0f
def H5(d:Drw):List Txt:=d.l.map (·.s)
theorem G7e{d:Drw}{s:Txt}:0<=D7 d s↔s∈H5 d:=by
 unfold D7 D6i H5
 rw[List.mem_map]
 constructor
 ·intro h
  split at h
  ·omega
  ·rename_i hne
   have hlt:A2b (A6m d s) d.l.length<d.l.length:=by have:=B5v (p:=A6m d s) (N:=d.l.length); omega
   have this:((d.l.getD (A2b (A6m d s) d.l.length) default).s==s)=true:=C6i (p:=A6m d s) (N:=d.l.length) hlt
   rw[gD,gE hlt] at this
   exact⟨_,List.getElem_mem hlt,eq_of_beq this⟩
 ·rintro⟨f,hf,rfl⟩
  obtain⟨i,hi,rfl⟩:=List.getElem_of_mem hf
  split
  ·rename_i he
   have this:((d.l.getD i default).s==d.l[i].s)=false:=A7w (p:=A6m d d.l[i].s) (N:=d.l.length) (i:=i) (by omega)
   rw[gD,gE hi] at this
   simp at this
  ·omega
structure GrD (d:Drw):Prop where
 len:d.l.length<=64
 sml:∀ i,i<d.l.length->SmlF (D8 d i)
 ix:∀ i,i<d.l.length->∀ y,y∈K9 (D8 d i) (D8 d i).l.length->y∈H5 d
theorem E0l{d:Drw}(h:GrD d){s:Txt}(hs:s∈H5 d):(nbR d s).length<=10000:=by
 have hi:=X0 d s
 have h0:=G7e.2 hs
 have h1:=h.sml (D7 d s).toNat (by omega)
 have h2:=A8h h1 _ (lR _)
 have h3:=h1.l
 unfold nbR
 omega
theorem D6q{d:Drw}(h:GrD d){s:Txt}(hs:s∈H5 d):∀ y,y∈nbR d s->y∈H5 d:=by
 have hi:=X0 d s
 have h0:=G7e.2 hs
 exact h.ix _ (by omega)
def B0u(d:Drw)(l:List Txt)(n:Nat)(o:List Txt):List Txt:=(l.take n).foldl (fun o x=>(nbR d x).foldl O6 o) o
theorem C3k{d:Drw}{l:List Txt}{n:Nat}{o:List Txt}(h:n<l.length):B0u d l (n+1) o=(nbR d (l.getD n default)).foldl O6 (B0u d l n o):=by
 unfold B0u
 rw[List.take_succ_eq_append_getElem h,List.foldl_append,gD,gE h]
 rfl
theorem B3n{l:List Txt}{n:Nat}(h:n<l.length):l.getD n default∈l:=by
 rw[gD,gE h]
 exact List.getElem_mem h
theorem D3e{d:Drw}(h:GrD d){l:List Txt}(hl:∀ y,y∈l->y∈H5 d)(o:List Txt):∀ n,n<=l.length->(B0u d l n o).length<=o.length+10000*n
 | 0,_=>by simp[B0u]
 | n+1,hn=>by
  rw[C3k (by omega)]
  have h1:=D3e h hl o n (by omega)
  have h2:=E0l h (hl _ (B3n (show n<l.length by omega)))
  have h3:=V7 (nbR d (l.getD n default)) (B0u d l n o)
  omega
def C5l:Code:=I7 (J6 2 (f51.body.getD .skip))
def sp51b:SP:=⟨dr 2++[.is (.ptr (some (8,0)))]++dr 2++[.flist 1]++[.int .i64]++[.flist 1]++[.int .i64]++dr 48,dd8++[.any]⟩
def C8j:AEx->SP
 | .exit 2=>⟨dr 2++[.is (.ptr (some (8,0)))]++dr 2++[.flist 1]++[.int .i64]++dr 50,dd8++[.any]⟩
 | _=>sp51b
theorem F0q(d:Drw)(O M:List Txt)(r i:Int):E8 prog (D5 prog pNe1 60) (pNe1.blk 51) C5l (sp51b.rho [.n O.length,.fr (A7 txF O),.i r,.n M.length,.fr (A7 txF M),.i i,.o (C9 d)]) (sp51b.heap [.n O.length,.fr (A7 txF O),.i r,.n M.length,.fr (A7 txF M),.i i,.o (C9 d)]) (H9 C8j 9 []) =
  brK (decide (i<(M.length:Int))) (brK (decide (0<=i/\i<(M.length:Int))) (brK (oD d) (brK (decide ((ofR Fea.fv d.l.length (A7 Fea.fv d.l)).length<4611686018427387904)) (brK (decide (0<=D7 (drE d) (M.getD i.toNat default)/\D7 (drE d) (M.getD i.toNat default)<(d.l.length:Int))) (brK (E9 (okR Frm.fv (d.l.getD (D7 (drE d) (M.getD i.toNat default)).toNat default).l.length (A7 Frm.fv (d.l.getD (D7 (drE d) (M.getD i.toNat default)).toNat default).l))) (brK (E9 (SmlF (feE (d.l.getD (D7 (drE d) (M.getD i.toNat default)).toNat default)))) (brK (itC B1h A2h B8y [Lf.n O.length,Lf.fr (A7 txF O),Lf.i r,Lf.n M.length,Lf.fr (A7 txF M),Lf.i i,Lf.n (K9 (feE (d.l.getD (D7 (drE d) (M.getD i.toNat default)).toNat default)) (ofR Frm.fv (d.l.getD (D7 (drE d) (M.getD i.toNat default)).toNat default).l.length (A7 Frm.fv (d.l.getD (D7 (drE d) (M.getD i.toNat default)).toNat default).l)).length).length,Lf.fr (A7 txF (K9 (feE (d.l.getD (D7 (drE d) (M.getD i.toNat default)).toNat default)) (ofR Frm.fv (d.l.getD (D7 (drE d) (M.getD i.toNat default)).toNat default).l.length (A7 Frm.fv (d.l.getD (D7 (drE d) (M.getD i.toNat default)).toNat default).l)).length)),Lf.i 0,Lf.o (C9 d)]) (some (.normal,[.n ((List.foldl O6 (A2h [Lf.n O.length,Lf.fr (A7 txF O),Lf.i r,Lf.n M.length,Lf.fr (A7 txF M),Lf.i i,Lf.n (K9 (feE (d.l.getD (D7 (drE d) (M.getD i.toNat default)).toNat default)) (ofR Frm.fv (d.l.getD (D7 (drE d) (M.getD i.toNat default)).toNat default).l.length (A7 Frm.fv (d.l.getD (D7 (drE d) (M.getD i.toNat default)).toNat default).l)).length).length,Lf.fr (A7 txF (K9 (feE (d.l.getD (D7 (drE d) (M.getD i.toNat default)).toNat default)) (ofR Frm.fv (d.l.getD (D7 (drE d) (M.getD i.toNat default)).toNat default).l.length (A7 Frm.fv (d.l.getD (D7 (drE d) (M.getD i.toNat default)).toNat default).l)).length)),Lf.i 0,Lf.o (C9 d)]).fst (A2h [Lf.n O.length,Lf.fr (A7 txF O),Lf.i r,Lf.n M.length,Lf.fr (A7 txF M),Lf.i i,Lf.n (K9 (feE (d.l.getD (D7 (drE d) (M.getD i.toNat default)).toNat default)) (ofR Frm.fv (d.l.getD (D7 (drE d) (M.getD i.toNat default)).toNat default).l.length (A7 Frm.fv (d.l.getD (D7 (drE d) (M.getD i.toNat default)).toNat default).l)).length).length,Lf.fr (A7 txF (K9 (feE (d.l.getD (D7 (drE d) (M.getD i.toNat default)).toNat default)) (ofR Frm.fv (d.l.getD (D7 (drE d) (M.getD i.toNat default)).toNat default).l.length (A7 Frm.fv (d.l.getD (D7 (drE d) (M.getD i.toNat default)).toNat default).l)).length)),Lf.i 0,Lf.o (C9 d)]).snd.fst).length),.fr (A7 txF (List.foldl O6 (A2h [Lf.n O.length,Lf.fr (A7 txF O),Lf.i r,Lf.n M.length,Lf.fr (A7 txF M),Lf.i i,Lf.n (K9 (feE (d.l.getD (D7 (drE d) (M.getD i.toNat default)).toNat default)) (ofR Frm.fv (d.l.getD (D7 (drE d) (M.getD i.toNat default)).toNat default).l.length (A7 Frm.fv (d.l.getD (D7 (drE d) (M.getD i.toNat default)).toNat default).l)).length).length,Lf.fr (A7 txF (K9 (feE (d.l.getD (D7 (drE d) (M.getD i.toNat default)).toNat default)) (ofR Frm.fv (d.l.getD (D7 (drE d) (M.getD i.toNat default)).toNat default).l.length (A7 Frm.fv (d.l.getD (D7 (drE d) (M.getD i.toNat default)).toNat default).l)).length)),Lf.i 0,Lf.o (C9 d)]).fst (A2h [Lf.n O.length,Lf.fr (A7 txF O),Lf.i r,Lf.n M.length,Lf.fr (A7 txF M),Lf.i i,Lf.n (K9 (feE (d.l.getD (D7 (drE d) (M.getD i.toNat default)).toNat default)) (ofR Frm.fv (d.l.getD (D7 (drE d) (M.getD i.toNat default)).toNat default).l.length (A7 Frm.fv (d.l.getD (D7 (drE d) (M.getD i.toNat default)).toNat default).l)).length).length,Lf.fr (A7 txF (K9 (feE (d.l.getD (D7 (drE d) (M.getD i.toNat default)).toNat default)) (ofR Frm.fv (d.l.getD (D7 (drE d) (M.getD i.toNat default)).toNat default).l.length (A7 Frm.fv (d.l.getD (D7 (drE d) (M.getD i.toNat default)).toNat default).l)).length)),Lf.i 0,Lf.o (C9 d)]).snd.fst)),.i (r),.n (M.length),.fr (A7 txF M),.i (W (i+1)),.o (C9 d)])) none) none) none) none) none) none) none) (some (.exit 2,[.n (O.length),.fr (A7 txF O),.i (r),.o (C9 d)])):=by kernel_rfl
def C8y(x:Drw×List Txt×List Txt×Int)(n:Nat):List Lf:=[.n (B0u x.1 x.2.2.1 n x.2.1).length,.fr (A7 txF (B0u x.1 x.2.2.1 n x.2.1)),.i x.2.2.2,.n x.2.2.1.length,.fr (A7 txF x.2.2.1),.i n,.o (C9 x.1)]
def B4f(x:Drw×List Txt×List Txt×Int):List Lf:=C8y x 0
def E4d:List Lf->(Drw×List Txt×List Txt×Int)->List Lf
 | [_,_,r,_,_,_,o],x=>[.n (B0u x.1 x.2.2.1 x.2.2.1.length x.2.1).length,.fr (A7 txF (B0u x.1 x.2.2.1 x.2.2.1.length x.2.1)),r,o]
 | _,_=>[]
def C9f(x:Drw×List Txt×List Txt×Int):Nat:=x.2.2.1.length
def B8x(x:Drw×List Txt×List Txt×Int):Prop:=GrD x.1/\(∀ y,y∈x.2.2.1->y∈H5 x.1)/\x.2.2.1.length<=64/\x.2.1.length<=64
def A0e:List Lf->Drw×List Txt×List Txt×Int
 | [.n a,.fr b,.i r,.n m,.fr g,_,.o o]=>(I6 o,ofR txF a b,ofR txF m g,r)
 | _=>(default,[],[],0)
theorem F8n(x:Drw×List Txt×List Txt×Int)(hx:B8x x)(n:Nat)(hn:n<=C9f x):E8 prog (D5 prog pNe1 60) (pNe1.blk 51) C5l (sp51b.rho (C8y x n)) (sp51b.heap (C8y x n)) (H9 C8j 9 [])=some (if n<C9f x then(.normal,C8y x (n+1)) else(.exit 2,E4d (B4f x) x)):=by
 obtain⟨d,O,M,r⟩:=x
 obtain⟨h1,h2,h3,h4⟩:=hx
 dsimp only at h1 h2 h3 h4
 have hl:=h1.len
 simp only[C8y]
 rw[F0q,I5 hn (show C9f (d,O,M,r)<2^62 by show M.length<2^62; omega)]
 simp only[tN,A3r,J8,Bool.and_self,P8,A3o,I1 Fea.inj,I1 Frm.inj]
 by_cases h:n<C9f (d,O,M,r)
 ·rw[if_pos h]
  simp only[C9f] at h
  have hy:=h2 (M.getD n default) (B3n h)
  have h0:=G7e.2 hy
  have hi:=X0 d (M.getD n default)
  have hsm:=h1.sml (D7 d (M.getD n default)).toNat (by omega)
  have hlen:=D3e h1 h2 O n (by omega)
  have hmo:=E0l h1 hy
  obtain⟨e,hit⟩:=G7i (O:=B0u d M n O) (M:=nbR d (M.getD n default)) (by omega) hmo r M.length (A7 txF M) n d
  refine A8 (dT (by omega)) (A8 (dT (by omega)) (A8 rfl (A8 (dT (by omega)) (A8 (dT (by omega)) (A8 rfl (A8 (A9 hsm) (A8 hit ?_)))))))
  rw[C3k h]
  simp only[nbR,D8] at e ⊢
  rw[e]
 ·rw[if_neg h]
  have e:n=C9f (d,O,M,r):=Nat.le_antisymm hn (Nat.le_of_not_lt h)
  subst e
  exact C8 (dF (by unfold C9f; dsimp only; omega)) rfl
theorem G1z{A:Amb}(x:Drw×List Txt×List Txt×Int)(_hx:B8x x)(Bb:Heap)(hB:Bb.length=9):Wk A Bb ⟨sp51b.rho (B4f x),sp51b.heap (B4f x),[]⟩ ⟨sp51b.rho (C8y x 0),sp51b.heap (C8y x 0),[]⟩:=by
 have _:=hB
 exact Wk.refl
def G0e:Blk:=hookP sp51b 9 [] (itT (C8j (.exit 2)) 2 (.exit 2) A0e B4f E4d B8x)
theorem E7e{A:Amb}{q:Prims}(h0:PrimOK prog A pNe1)(hq:PrimOK prog A q):PrimOK prog A (q.addb 51 2 G0e) :=
 SEB.iterK (id:=2) (ds:=[]) (dec:=A0e) (sp0:=sp51b) (sp:=sp51b) (sq:=C8j) (m:=9) (ee:=.exit 2) (L0:=B4f) (L:=C8y) (Le:=E4d) (N:=C9f) (Inv:=B8x) (k:=60) F7 F9 h0 hq func51 (show f51.body=some (f51.body.getD .skip) by kernel_rfl) (body:=C5l) (by kernel_rfl)
  rfl rfl rfl rfl (by simp) (fun _=>⟨.inr rfl,.inr rfl,.inr rfl,.inr rfl,.inr rfl,.inr rfl,.inr rfl,.inr rfl,.inr rfl,trivial⟩) G1z F8n
theorem G7h{d:Drw}{O M:List Txt}(h1:GrD d)(h2:∀ y,y∈M->y∈H5 d)(h3:M.length<=64)(h4:O.length<=64)(r:Int):A0e [Lf.n O.length,Lf.fr (A7 txF O),Lf.i r,Lf.n M.length,Lf.fr (A7 txF M),Lf.i 0,Lf.o (C9 d)]=(d,O,M,r)/\itC B4f A0e B8x [Lf.n O.length,Lf.fr (A7 txF O),Lf.i r,Lf.n M.length,Lf.fr (A7 txF M),Lf.i 0,Lf.o (C9 d)]=true :=
 have e:A0e [Lf.n O.length,Lf.fr (A7 txF O),Lf.i r,Lf.n M.length,Lf.fr (A7 txF M),Lf.i 0,Lf.o (C9 d)]=(d,O,M,r):=by simp[A0e,I1 U4,D9]
 ⟨e,P5 (L0:=B4f) (dec:=A0e) (Inv:=B8x) (x:=(d,O,M,r)) e ⟨h1,h2,h3,h4⟩⟩
def pNe2:Prims:=pNe1.addb 51 2 G0e
theorem F0a(d:Drw)(o:List Txt):B0u d o o.length o=B5o (nbR d) o:=by unfold B0u B5o; rw[List.take_length]
theorem B0v(nb:Txt->List Txt):∀ (n:Nat) (o:List Txt),X7 nb (n+1) o=B5o nb (X7 nb n o)
 | 0,_=>rfl
 | n+1,o=>by rw[X7,B0v nb n,X7]
theorem E0y{d:Drw}(h:GrD d){o:List Txt}(ho:SS o)(hn:∀ y,y∈o->y∈H5 d):∀ n,SS (X7 (nbR d) n o)/\∀ y,y∈X7 (nbR d) n o->y∈H5 d
 | 0=>⟨ho,hn⟩
 | n+1=>by
  obtain⟨h1,h2⟩:=E0y h ho hn n
  rw[B0v]
  obtain⟨q1,q2⟩:=A5m (nbR d) (X7 (nbR d) n o) _ h1
  refine⟨q1,fun y hy=>?_⟩
  rcases(q2 y).1 hy with q | ⟨x,q,q3⟩
  ·exact h2 y q
  ·exact D6q h (h2 x q) y q3
theorem G5b{d:Drw}(h:GrD d){o:List Txt}(ho:SS o)(hn:∀ y,y∈o->y∈H5 d):o.length<=64:=by
 have:=A5k ho.nodup hn
 have h2:=h.len
 unfold H5 at this
 rw[List.length_map] at this
 omega
def C5k:Code:=I7 (J6 0 (f51.body.getD .skip))
def sp51a:SP:=⟨dr 2++[.is (.ptr (some (8,0)))]++dr 2++[.flist 1]++[.int .i64]++dr 50,dd8++[.any]⟩
def C8i:AEx->SP
 | .exit 0=>⟨dr 5++[.flist 1]++dr 51,dd8++[.any]⟩
 | _=>sp51a
theorem F0p(d:Drw)(O:List Txt)(r:Int):E8 prog (D5 prog pNe2 60) (pNe2.blk 51) C5k (sp51a.rho [.n O.length,.fr (A7 txF O),.i r,.o (C9 d)]) (sp51a.heap [.n O.length,.fr (A7 txF O),.i r,.o (C9 d)]) (H9 C8i 9 []) =
  brK (decide (r<(d.l.length:Int))) (brK (itC B4f A0e B8x [Lf.n O.length,Lf.fr (A7 txF O),Lf.i r,Lf.n O.length,Lf.fr (A7 txF O),Lf.i 0,Lf.o (C9 d)]) (some (.normal,[.n ((B0u (A0e [Lf.n O.length,Lf.fr (A7 txF O),Lf.i r,Lf.n O.length,Lf.fr (A7 txF O),Lf.i 0,Lf.o (C9 d)]).fst (A0e [Lf.n O.length,Lf.fr (A7 txF O),Lf.i r,Lf.n O.length,Lf.fr (A7 txF O),Lf.i 0,Lf.o (C9 d)]).snd.snd.fst (A0e [Lf.n O.length,Lf.fr (A7 txF O),Lf.i r,Lf.n O.length,Lf.fr (A7 txF O),Lf.i 0,Lf.o (C9 d)]).snd.snd.fst.length (A0e [Lf.n O.length,Lf.fr (A7 txF O),Lf.i r,Lf.n O.length,Lf.fr (A7 txF O),Lf.i 0,Lf.o (C9 d)]).snd.fst).length),.fr (A7 txF (B0u (A0e [Lf.n O.length,Lf.fr (A7 txF O),Lf.i r,Lf.n O.length,Lf.fr (A7 txF O),Lf.i 0,Lf.o (C9 d)]).fst (A0e [Lf.n O.length,Lf.fr (A7 txF O),Lf.i r,Lf.n O.length,Lf.fr (A7 txF O),Lf.i 0,Lf.o (C9 d)]).snd.snd.fst (A0e [Lf.n O.length,Lf.fr (A7 txF O),Lf.i r,Lf.n O.length,Lf.fr (A7 txF O),Lf.i 0,Lf.o (C9 d)]).snd.snd.fst.length (A0e [Lf.n O.length,Lf.fr (A7 txF O),Lf.i r,Lf.n O.length,Lf.fr (A7 txF O),Lf.i 0,Lf.o (C9 d)]).snd.fst)),.i (W (r+1)),.o (C9 d)])) none) (some (.exit 0,[.n (O.length),.fr (A7 txF O),.o (C9 d)])):=by kernel_rfl
def C8x(x:Drw×List Txt)(n:Nat):List Lf:=[.n (X7 (nbR x.1) n x.2).length,.fr (A7 txF (X7 (nbR x.1) n x.2)),.i n,.o (C9 x.1)]
def B4e(x:Drw×List Txt):List Lf:=C8x x 0
def E4c:List Lf->(Drw×List Txt)->List Lf
 | [_,_,_,o],x=>[.n (X7 (nbR x.1) x.1.l.length x.2).length,.fr (A7 txF (X7 (nbR x.1) x.1.l.length x.2)),o]
 | _,_=>[]
def C9e(x:Drw×List Txt):Nat:=x.1.l.length
def B8w(x:Drw×List Txt):Prop:=GrD x.1/\SS x.2/\(∀ y,y∈x.2->y∈H5 x.1)
def A1m:List Lf->Drw×List Txt
 | [.n a,.fr b,_,.o o]=>(I6 o,ofR txF a b)
 | _=>(default,[])
theorem F8m(x:Drw×List Txt)(hx:B8w x)(n:Nat)(hn:n<=C9e x):E8 prog (D5 prog pNe2 60) (pNe2.blk 51) C5k (sp51a.rho (C8x x n)) (sp51a.heap (C8x x n)) (H9 C8i 9 [])=some (if n<C9e x then(.normal,C8x x (n+1)) else(.exit 0,E4c (B4e x) x)):=by
 obtain⟨d,O⟩:=x
 obtain⟨h1,h2,h3⟩:=hx
 dsimp only at h1 h2 h3
 have hl:=h1.len
 simp only[C8x]
 rw[F0p,I5 hn (show C9e (d,O)<2^62 by show d.l.length<2^62; omega)]
 obtain⟨q1,q2⟩:=E0y h1 h2 h3 n
 have hlen:=G5b h1 q1 q2
 obtain⟨e,hit⟩:=G7h h1 q2 hlen hlen n
 rw[e]
 by_cases h:n<C9e (d,O)
 ·rw[if_pos h,B0v,<- F0a]
  simp only[C9e] at h
  exact A8 (dT (by omega)) (A8 hit rfl)
 ·rw[if_neg h]
  have e:n=C9e (d,O):=Nat.le_antisymm hn (Nat.le_of_not_lt h)
  subst e
  exact C8 (dF (by unfold C9e; dsimp only; omega)) rfl
theorem G1y{A:Amb}(x:Drw×List Txt)(_hx:B8w x)(Bb:Heap)(hB:Bb.length=9):Wk A Bb ⟨sp51a.rho (B4e x),sp51a.heap (B4e x),[]⟩ ⟨sp51a.rho (C8x x 0),sp51a.heap (C8x x 0),[]⟩:=by
 have _:=hB
 exact Wk.refl
def G0d:Blk:=hookP sp51a 9 [] (itT (C8i (.exit 0)) 0 (.exit 0) A1m B4e E4c B8w)
theorem E7d{A:Amb}{q:Prims}(h0:PrimOK prog A pNe2)(hq:PrimOK prog A q):PrimOK prog A (q.addb 51 0 G0d) :=
 SEB.iterK (id:=0) (ds:=[]) (dec:=A1m) (sp0:=sp51a) (sp:=sp51a) (sq:=C8i) (m:=9) (ee:=.exit 0) (L0:=B4e) (L:=C8x) (Le:=E4c) (N:=C9e) (Inv:=B8w) (k:=60) F7 F9 h0 hq func51 (show f51.body=some (f51.body.getD .skip) by kernel_rfl) (body:=C5k) (by kernel_rfl)
  rfl rfl rfl rfl (by simp) (fun _=>⟨.inr rfl,.inr rfl,.inr rfl,.inr rfl,.inr rfl,.inr rfl,.inr rfl,.inr rfl,.inr rfl,trivial⟩) G1y F8m
def G7z:Prims:=pNe2.addb 51 0 G0d
theorem C7l(x:Fea):∀ n,n<=x.l.length->SS (K9 x n)
 | 0,_=>by unfold K9 SS; simp
 | n+1,hn=>by
  rw[A9b (by omega)]
  have h:=C7l x n (by omega)
  revert h
  generalize K9 x n=o
  unfold A9j
  generalize (F4 x n).l=l
  intro h
  have e:l.foldl (fun o y=>O6 o y.s) o=(l.map (·.s)).foldl O6 o:=by rw[List.foldl_map]
  rw[e]
  exact(A2u h).1
theorem D6p(d:Drw)(s:Txt):SS (nbR d s):=C7l _ _ (lR _)
def K5(d:Drw)(s:Txt):List Txt:=X7 (nbR d) d.l.length (nbR d s)
theorem G9t(d:Drw)(s:List UInt8):(D5 prog G7z 60).call 51 [.agg d.av,.sstr s] (Bg 8) F8 =
  brK (oD d) (brK (decide ((ofR Fea.fv d.l.length (A7 Fea.fv d.l)).length<4611686018427387904)) (brK (decide (0<=D7 (drE d) s/\D7 (drE d) s<(d.l.length:Int))) (brK (E9 (okR Frm.fv (d.l.getD (D7 (drE d) s).toNat default).l.length (A7 Frm.fv (d.l.getD (D7 (drE d) s).toNat default).l))) (brK (E9 (SmlF (feE (d.l.getD (D7 (drE d) s).toNat default)))) (brK (itC B4e A1m B8w [Lf.n (K9 (feE (d.l.getD (D7 (drE d) s).toNat default)) (ofR Frm.fv (d.l.getD (D7 (drE d) s).toNat default).l.length (A7 Frm.fv (d.l.getD (D7 (drE d) s).toNat default).l)).length).length,Lf.fr (A7 txF (K9 (feE (d.l.getD (D7 (drE d) s).toNat default)) (ofR Frm.fv (d.l.getD (D7 (drE d) s).toNat default).l.length (A7 Frm.fv (d.l.getD (D7 (drE d) s).toNat default).l)).length)),Lf.i 0,Lf.o (C9 d)]) (some (.flist (((X7 (nbR (A1m [Lf.n (K9 (feE (d.l.getD (D7 (drE d) s).toNat default)) (ofR Frm.fv (d.l.getD (D7 (drE d) s).toNat default).l.length (A7 Frm.fv (d.l.getD (D7 (drE d) s).toNat default).l)).length).length,Lf.fr (A7 txF (K9 (feE (d.l.getD (D7 (drE d) s).toNat default)) (ofR Frm.fv (d.l.getD (D7 (drE d) s).toNat default).l.length (A7 Frm.fv (d.l.getD (D7 (drE d) s).toNat default).l)).length)),Lf.i 0,Lf.o (C9 d)]).fst) (A1m [Lf.n (K9 (feE (d.l.getD (D7 (drE d) s).toNat default)) (ofR Frm.fv (d.l.getD (D7 (drE d) s).toNat default).l.length (A7 Frm.fv (d.l.getD (D7 (drE d) s).toNat default).l)).length).length,Lf.fr (A7 txF (K9 (feE (d.l.getD (D7 (drE d) s).toNat default)) (ofR Frm.fv (d.l.getD (D7 (drE d) s).toNat default).l.length (A7 Frm.fv (d.l.getD (D7 (drE d) s).toNat default).l)).length)),Lf.i 0,Lf.o (C9 d)]).fst.l.length (A1m [Lf.n (K9 (feE (d.l.getD (D7 (drE d) s).toNat default)) (ofR Frm.fv (d.l.getD (D7 (drE d) s).toNat default).l.length (A7 Frm.fv (d.l.getD (D7 (drE d) s).toNat default).l)).length).length,Lf.fr (A7 txF (K9 (feE (d.l.getD (D7 (drE d) s).toNat default)) (ofR Frm.fv (d.l.getD (D7 (drE d) s).toNat default).l.length (A7 Frm.fv (d.l.getD (D7 (drE d) s).toNat default).l)).length)),Lf.i 0,Lf.o (C9 d)]).snd)).length) (fun i=>txF ((X7 (nbR (A1m [Lf.n (K9 (feE (d.l.getD (D7 (drE d) s).toNat default)) (ofR Frm.fv (d.l.getD (D7 (drE d) s).toNat default).l.length (A7 Frm.fv (d.l.getD (D7 (drE d) s).toNat default).l)).length).length,Lf.fr (A7 txF (K9 (feE (d.l.getD (D7 (drE d) s).toNat default)) (ofR Frm.fv (d.l.getD (D7 (drE d) s).toNat default).l.length (A7 Frm.fv (d.l.getD (D7 (drE d) s).toNat default).l)).length)),Lf.i 0,Lf.o (C9 d)]).fst) (A1m [Lf.n (K9 (feE (d.l.getD (D7 (drE d) s).toNat default)) (ofR Frm.fv (d.l.getD (D7 (drE d) s).toNat default).l.length (A7 Frm.fv (d.l.getD (D7 (drE d) s).toNat default).l)).length).length,Lf.fr (A7 txF (K9 (feE (d.l.getD (D7 (drE d) s).toNat default)) (ofR Frm.fv (d.l.getD (D7 (drE d) s).toNat default).l.length (A7 Frm.fv (d.l.getD (D7 (drE d) s).toNat default).l)).length)),Lf.i 0,Lf.o (C9 d)]).fst.l.length (A1m [Lf.n (K9 (feE (d.l.getD (D7 (drE d) s).toNat default)) (ofR Frm.fv (d.l.getD (D7 (drE d) s).toNat default).l.length (A7 Frm.fv (d.l.getD (D7 (drE d) s).toNat default).l)).length).length,Lf.fr (A7 txF (K9 (feE (d.l.getD (D7 (drE d) s).toNat default)) (ofR Frm.fv (d.l.getD (D7 (drE d) s).toNat default).l.length (A7 Frm.fv (d.l.getD (D7 (drE d) s).toNat default).l)).length)),Lf.i 0,Lf.o (C9 d)]).snd).getD i default)) 1)) none) none) none) none) none) none:=by kernel_rfl
theorem H1x{d:Drw}(h:GrD d){s:Txt}(hs:s∈H5 d):∃ v,(D5 prog G7z 60).call 51 [.agg d.av,.sstr s] (Bg 8) F8=some v/\v=Q4 (K5 d s):=by
 have hl:=h.len
 have h0:=G7e.2 hs
 have hi:=X0 d s
 have hsm:=h.sml (D7 d s).toNat (by omega)
 rw[G9t]
 simp only[A3r,J8,Bool.and_self,P8,A3o,I1 Fea.inj,I1 Frm.inj]
 have e:A1m [Lf.n (nbR d s).length,Lf.fr (A7 txF (nbR d s)),Lf.i 0,Lf.o (C9 d)]=(d,nbR d s):=by simp[A1m,I1 U4,D9]
 have hit:itC B4e A1m B8w [Lf.n (nbR d s).length,Lf.fr (A7 txF (nbR d s)),Lf.i 0,Lf.o (C9 d)]=true :=
  P5 (L0:=B4e) (dec:=A1m) (Inv:=B8w) (x:=(d,nbR d s)) e ⟨h,D6p d s,D6q h hs⟩
 refine⟨_,A8 rfl (A8 (dT (by omega)) (A8 (dT (by omega)) (A8 rfl (A8 (A9 hsm) (A8 hit rfl))))),?_⟩
 simp only[nbR,D8] at e
 rw[e]
 rfl
def VNe(x:Drw×Txt):Tr AV:=.br (E9 (GrD x.1/\x.2∈H5 x.1)) (.leaf (Q4 (K5 x.1 x.2))) .fail
def pNe:Prims:=pNd.addt 51 (M8 A2p VNe)
theorem E9i{A:Amb}(hT:Tab A)(hG:gN prog<=A.G):PrimOK prog A pNe:=by
 have h0:=G3u hT hG
 have h1:PrimOK prog A pNe1:=E7f h0 h0
 have h2:PrimOK prog A pNe2:=E7e h1 h1
 refine H8 hG (E7d h2 h2) h0 A2p VNe func51 (by kernel_rfl) fun x v hv=>?_
 obtain⟨hz,hv⟩:=Tr.br1 hv
 cases hv
 have hz:=H6 hz
 obtain⟨v',h3,rfl⟩:=H1x hz.1 hz.2
 exact⟨_,h3,rfl,fun _ _ h=>h⟩
end Go.Proofs.Tryz
