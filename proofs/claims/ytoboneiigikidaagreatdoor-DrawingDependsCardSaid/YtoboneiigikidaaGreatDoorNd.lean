/- Drawings: the names of a feature, by the reference. -/
import Derived.Test.YtoboneiigikidaaGreatDoorDm
import Derived.Test.YtoboneiigikidaaGreatDoorAdFind
noncomputable section
namespace Go.Proofs.Tryz
open Go.Ad
def A9t(o:List Txt)(l:List Dat):List Txt:=l.foldl (fun o y=>Q3 o y.s) o
def L8(x:Fea)(n:Nat):List Txt:=(x.l.take n).foldl (fun o f=>A9t o f.l) []
structure SmlF (x:Fea):Prop where
 l:x.l.length<=100
 d:∀ i,i<x.l.length->(F7 x i).l.length<=100
theorem D2u(s:Txt):∀ l:List Txt,(B1b s l).length<=l.length+1
 | []=>by simp[B1b]
 | x::l=>by
  unfold B1b
  split
  ·have:=List.length_filter_le (fun y=>decide (y≠s)) (x::l)
   simp only[List.length_cons] at this ⊢; omega
  ·have:=D2u s l
   simp only[List.length_cons]; omega
theorem D2s(l:List Txt)(s:Txt):(Q3 l s).length<=l.length+1:=by rw[C7l]; exact D2u s l
theorem B9z:∀ (l:List Dat) (o:List Txt),(A9t o l).length<=o.length+l.length
 | [],o=>by simp[A9t]
 | y::l,o=>by
  have h1:=B9z l (Q3 o y.s)
  have h2:=D2s o y.s
  unfold A9t at h1 ⊢
  rw[List.foldl_cons]
  simp only[List.length_cons]; omega
theorem E3x{o:List Txt}{l:List Dat}{n:Nat}(h:n<l.length):A9t o (l.take (n+1))=Q3 (A9t o (l.take n)) (l.getD n default).s:=by
 unfold A9t
 rw[List.take_succ_eq_append_getElem h,List.foldl_append,gD,gE h]
 rfl
theorem A9n{x:Fea}{n:Nat}(h:n<x.l.length):L8 x (n+1)=A9t (L8 x n) (F7 x n).l:=by
 unfold L8 F7
 rw[List.take_succ_eq_append_getElem h,List.foldl_append,gD,gE h]
 rfl
theorem A8q{x:Fea}(h:SmlF x):∀ n,n<=x.l.length->(L8 x n).length<=100*n
 | 0,_=>by simp[L8]
 | n+1,hn=>by
  rw[A9n (by omega)]
  have h1:=B9z (F7 x n).l (L8 x n)
  have h2:=A8q h n (by omega)
  have h3:=h.d n (by omega)
  omega
def C5v:Code:=I7 (J8 2 (f89.body.getD .skip))
def sp89b:SP:=⟨dr 1++[.is (.ptr (some (8,0)))]++dr 1++[.flist 1]++[.int .i64]++[.int .i64]++dr 31,dd8++[.any]⟩
def C8n:AEx->SP
 | .exit 2=>⟨dr 1++[.is (.ptr (some (8,0)))]++dr 1++[.flist 1]++[.int .i64]++dr 32,dd8++[.any]⟩
 | _=>sp89b
theorem F0x(x:Fea)(O:List Txt)(i n:Int):F3 prog (D6 prog pPu 60) (pPu.blk 89) C5v (sp89b.rho [.n O.length,.fr (A7 txF O),.i i,.i n,.o (C9 x)]) (sp89b.heap [.n O.length,.fr (A7 txF O),.i i,.i n,.o (C9 x)]) (I1 C8n 9 []) =
  brK (decide (0<=i/\i<(x.l.length:Int))) (brK (decide (n<((x.l.getD i.toNat default).l.length:Int))) (brK (decide (0<=i/\i<(x.l.length:Int))) (brK (decide (0<=n/\n<((x.l.getD i.toNat default).l.length:Int))) (brK (D8 (okR txF O.length (A7 txF O))) (brK (decide ((ofR txF O.length (A7 txF O)).length<=1000000)) (some (.normal,[.n ((Q3 (ofR txF O.length (A7 txF O)) ((x.l.getD i.toNat default).l.getD n.toNat default).s).length),.fr (A7 txF (Q3 (ofR txF O.length (A7 txF O)) ((x.l.getD i.toNat default).l.getD n.toNat default).s)),.i (i),.i (W (n+1)),.o (C9 (x))])) none) none) none) none) (some (.exit 2,[.n (O.length),.fr (A7 txF O),.i (i),.o (C9 (x))]))) none:=by kernel_rfl
def C4f(x:Fea×Nat×List Txt)(n:Nat):List Lf:=[.n (A9t x.2.2 ((F7 x.1 x.2.1).l.take n)).length,.fr (A7 txF (A9t x.2.2 ((F7 x.1 x.2.1).l.take n))),.i x.2.1,.i n,.o (C9 x.1)]
def B1p(x:Fea×Nat×List Txt):List Lf:=C4f x 0
def D9k:List Lf->(Fea×Nat×List Txt)->List Lf
 | [_,_,i,_,o],x=>[.n (A9t x.2.2 (F7 x.1 x.2.1).l).length,.fr (A7 txF (A9t x.2.2 (F7 x.1 x.2.1).l)),i,o]
 | _,_=>[]
def D3y(x:Fea×Nat×List Txt):Nat:=(F7 x.1 x.2.1).l.length
def B9h(x:Fea×Nat×List Txt):Prop:=SmlF x.1/\x.2.1<x.1.l.length/\x.2.2.length<=100000
def A2e:List Lf->Fea×Nat×List Txt
 | [.n m,.fr g,.i i,_,.o o]=>(A1o o,i.toNat,ofR txF m g)
 | _=>default
theorem F8v(x:Fea×Nat×List Txt)(hx:B9h x)(n:Nat)(hn:n<=D3y x):F3 prog (D6 prog pPu 60) (pPu.blk 89) C5v (sp89b.rho (C4f x n)) (sp89b.heap (C4f x n)) (I1 C8n 9 [])=some (if n<D3y x then(.normal,C4f x (n+1)) else(.exit 2,D9k (B1p x) x)):=by
 obtain⟨x,i,O⟩:=x
 obtain⟨h1,hi,hO⟩:=hx
 dsimp only at h1 hi hO
 have hd:=h1.d i hi
 simp only[C4f]
 rw[F0x,I6 hn (show D3y (x,i,O)<2^62 by show(F7 x i).l.length<2^62; omega)]
 simp only[tN,I5 O5,K5]
 by_cases h:n<D3y (x,i,O)
 ·rw[if_pos h]
  simp only[D3y,F7] at h hd
  have hl:=B9z ((F7 x i).l.take n) O
  rw[List.length_take] at hl
  simp only[F7] at hl
  rw[E3x h]
  simp only[F7]
  repeat first
   | exact rfl
   | refine A8 (dT (by omega)) ?_
   | refine A8 rfl ?_
 ·rw[if_neg h]
  simp only[D3y] at h hn
  have e:(F7 x i).l.take n=(F7 x i).l:=List.take_of_length_le (by omega)
  simp only[D9k,B1p,C4f,e]
  simp only[F7] at h ⊢
  repeat first
   | exact rfl
   | refine A8 (dT (by omega)) ?_
   | refine C8 (dF (by omega)) ?_
theorem G2f{A:Amb}(x:Fea×Nat×List Txt)(_hx:B9h x)(Bb:Heap)(hB:Bb.length=9):Wk A Bb ⟨sp89b.rho (B1p x),sp89b.heap (B1p x),[]⟩ ⟨sp89b.rho (C4f x 0),sp89b.heap (C4f x 0),[]⟩:=by
 have _:=hB
 exact Wk.refl
def G0l:Blk:=hookP sp89b 9 [] (itT (C8n (.exit 2)) 2 (.exit 2) A2e B1p D9k B9h)
theorem E7o{A:Amb}{q:Prims}(h0:PrimOK prog A pPu)(hq:PrimOK prog A q):PrimOK prog A (q.addb 89 2 G0l) :=
 SEB.iterK (id:=2) (ds:=[]) (dec:=A2e) (sp0:=sp89b) (sp:=sp89b) (sq:=C8n) (m:=9) (ee:=.exit 2) (L0:=B1p) (L:=C4f) (Le:=D9k) (N:=D3y) (Inv:=B9h) (k:=60) F8 G5 h0 hq func89 (show f89.body=some (f89.body.getD .skip) by kernel_rfl) (body:=C5v) (by kernel_rfl)
  rfl rfl rfl rfl (by simp) (fun _=>⟨.inr rfl,.inr rfl,.inr rfl,.inr rfl,.inr rfl,.inr rfl,.inr rfl,.inr rfl,.inr rfl,trivial⟩) G2f F8v
def pNd1:Prims:=pPu.addb 89 2 G0l
theorem D0l(x:Fea)(i:Nat)(O:List Txt):A2e [Lf.n O.length,Lf.fr (A7 txF O),Lf.i i,Lf.i 0,Lf.o (C9 x)]=(x,i,O):=by
 simp[A2e,I5 O5,M5]
theorem G7e{x:Fea}(h:SmlF x){i:Nat}(hi:i<x.l.length){O:List Txt}(hO:O.length<=100000):itC B1p A2e B9h [Lf.n O.length,Lf.fr (A7 txF O),Lf.i i,Lf.i 0,Lf.o (C9 x)]=true :=
 Q9 (L0:=B1p) (dec:=A2e) (Inv:=B9h) (x:=(x,i,O)) (D0l x i O) ⟨h,hi,hO⟩
def C5u:Code:=I7 (J8 0 (f89.body.getD .skip))
def sp89a:SP:=⟨dr 1++[.is (.ptr (some (8,0)))]++dr 1++[.flist 1]++[.int .i64]++dr 32,dd8++[.any]⟩
def C8m:AEx->SP
 | .exit 0=>⟨dr 1++[.is (.ptr (some (8,0)))]++dr 1++[.flist 1]++dr 33,dd8++[.any]⟩
 | _=>sp89a
theorem F0w(x:Fea)(O:List Txt)(i:Int):F3 prog (D6 prog pNd1 60) (pNd1.blk 89) C5u (sp89a.rho [.n O.length,.fr (A7 txF O),.i i,.o (C9 x)]) (sp89a.heap [.n O.length,.fr (A7 txF O),.i i,.o (C9 x)]) (I1 C8m 9 []) =
  brK (decide (i<(x.l.length:Int))) (brK (itC B1p A2e B9h [Lf.n O.length,Lf.fr (A7 txF O),Lf.i i,Lf.i 0,Lf.o (C9 x)]) (some (.normal,[.n ((A9t (A2e [Lf.n O.length,Lf.fr (A7 txF O),Lf.i i,Lf.i 0,Lf.o (C9 x)]).snd.snd (F7 (A2e [Lf.n O.length,Lf.fr (A7 txF O),Lf.i i,Lf.i 0,Lf.o (C9 x)]).fst (A2e [Lf.n O.length,Lf.fr (A7 txF O),Lf.i i,Lf.i 0,Lf.o (C9 x)]).snd.fst).l).length),.fr (A7 txF (A9t (A2e [Lf.n O.length,Lf.fr (A7 txF O),Lf.i i,Lf.i 0,Lf.o (C9 x)]).snd.snd (F7 (A2e [Lf.n O.length,Lf.fr (A7 txF O),Lf.i i,Lf.i 0,Lf.o (C9 x)]).fst (A2e [Lf.n O.length,Lf.fr (A7 txF O),Lf.i i,Lf.i 0,Lf.o (C9 x)]).snd.fst).l)),.i (W (i+1)),.o (C9 (x))])) none) (some (.exit 0,[.n (O.length),.fr (A7 txF O),.o (C9 (x))])):=by kernel_rfl
def D3u(x:Fea)(n:Nat):List Lf:=[.n (L8 x n).length,.fr (A7 txF (L8 x n)),.i n,.o (C9 x)]
def A9v(x:Fea):List Lf:=[.n 0,.fr fun _=>[],.i 0,.o (C9 x)]
def E4p:List Lf->Fea->List Lf
 | [_,_,_,o],x=>[.n (L8 x x.l.length).length,.fr (A7 txF (L8 x x.l.length)),o]
 | _,_=>[]
def D3x(x:Fea):Nat:=x.l.length
def C3g(x:Fea):Prop:=SmlF x
def A3x:List Lf->Fea
 | [_,_,_,.o o]=>A1o o
 | _=>default
theorem F8u(x:Fea)(hx:C3g x)(n:Nat)(hn:n<=D3x x):F3 prog (D6 prog pNd1 60) (pNd1.blk 89) C5u (sp89a.rho (D3u x n)) (sp89a.heap (D3u x n)) (I1 C8m 9 [])=some (if n<D3x x then(.normal,D3u x (n+1)) else(.exit 0,E4p (A9v x) x)):=by
 have h1:SmlF x:=hx
 have hl:=h1.l
 simp only[D3u]
 rw[F0w,I6 hn (show D3x x<2^62 by show x.l.length<2^62; omega),D0l]
 by_cases h:n<D3x x
 ·rw[if_pos h,G7e h1 h (by have:=A8q h1 n hn; have:n<x.l.length:=h; omega),<- A9n h]
  exact A8 (dT (Int.ofNat_lt.mpr h)) rfl
 ·rw[if_neg h]
  have e:n=D3x x:=Nat.le_antisymm hn (Nat.le_of_not_lt h)
  subst e
  exact C8 (dF (by unfold D3x; omega)) rfl
theorem G2e{A:Amb}(x:Fea)(_hx:C3g x)(Bb:Heap)(hB:Bb.length=9):Wk A Bb ⟨sp89a.rho (A9v x),sp89a.heap (A9v x),[]⟩ ⟨sp89a.rho (D3u x 0),sp89a.heap (D3u x 0),[]⟩:=by
 have _:=hB
 exact Wk.temps (E4t (i:=3) (a:=.flist 0 (fun _=>[]) 1) (a':=.flist (L8 x 0).length (A7 txF (L8 x 0)) 1) rfl D9p)
def G0k:Blk:=hookP sp89a 9 [] (itT (C8m (.exit 0)) 0 (.exit 0) A3x A9v E4p C3g)
theorem E7n{A:Amb}{q:Prims}(h0:PrimOK prog A pNd1)(hq:PrimOK prog A q):PrimOK prog A (q.addb 89 0 G0k) :=
 SEB.iterK (id:=0) (ds:=[]) (dec:=A3x) (sp0:=sp89a) (sp:=sp89a) (sq:=C8m) (m:=9) (ee:=.exit 0) (L0:=A9v) (L:=D3u) (Le:=E4p) (N:=D3x) (Inv:=C3g) (k:=60) F8 G5 h0 hq func89 (show f89.body=some (f89.body.getD .skip) by kernel_rfl) (body:=C5u) (by kernel_rfl)
  rfl rfl rfl rfl (by simp) (fun _=>⟨.inr rfl,.inr rfl,.inr rfl,.inr rfl,.inr rfl,.inr rfl,.inr rfl,.inr rfl,.inr rfl,trivial⟩) G2e F8u
def G7s:Prims:=pNd1.addb 89 0 G0k
def VNd(x:Fea):Tr AV:=.br (D8 (SmlF x)) (.leaf (R7 (L8 x x.l.length))) .fail
theorem G9m(x:Fea):(D6 prog G7s 60).call 89 [.agg x.av] (Bg 8) G7 =
  brK (itC A9v A3x C3g [Lf.n 0,Lf.fr fun x=>[],Lf.i 0,Lf.o (C9 x)]) (some (.flist (((L8 (A3x [Lf.n 0,Lf.fr fun x=>[],Lf.i 0,Lf.o (C9 x)]) (A3x [Lf.n 0,Lf.fr fun x=>[],Lf.i 0,Lf.o (C9 x)]).l.length)).length) (fun i=>txF ((L8 (A3x [Lf.n 0,Lf.fr fun x=>[],Lf.i 0,Lf.o (C9 x)]) (A3x [Lf.n 0,Lf.fr fun x=>[],Lf.i 0,Lf.o (C9 x)]).l.length).getD i default)) 1)) none:=by kernel_rfl
theorem D0k(x:Fea):A3x (A9v x)=x:=by simp[A3x,A9v,M5]
def pNd:Prims:=pPu.addt 89 (Q8 A1p VNd)
theorem F6o{A:Amb}(hT:Tab A)(hG:gN prog<=A.G):PrimOK prog A G7s:=by
 have h0:=E9q hT hG
 have h1:PrimOK prog A pNd1:=E7o h0 h0
 exact E7n h1 h1
theorem G3p{A:Amb}(hT:Tab A)(hG:gN prog<=A.G):PrimOK prog A pNd:=by
 refine J4 hG (F6o hT hG) (E9q hT hG) A1p VNd func89 (by kernel_rfl) fun x v hv=>?_
 obtain⟨hz,hv⟩:=Tr.br1 hv
 cases hv
 have hz:=J7 hz
 refine⟨_,(G9m x).trans (A8 (Q9 (D0k x) (show C3g x from hz)) rfl),?_,?_⟩
 ·rfl
 ·intro Z y hy
  have h2:VR Z (R7 (L8 (A3x (A9v x)) (A3x (A9v x)).l.length)) y:=hy
  rw[D0k] at h2
  exact h2
def nbR(d:Drw)(s:Txt):List Txt:=L8 (D9 d (E5 d s).toNat) (D9 d (E5 d s).toNat).l.length
theorem A7g{o:List Txt}{l:List Txt}{n:Nat}(h:n<l.length):(l.take (n+1)).foldl Q3 o=Q3 ((l.take n).foldl Q3 o) (l.getD n default):=by
 rw[List.take_succ_eq_append_getElem h,List.foldl_append,gD,gE h]
 rfl
theorem X8:∀ (l o:List Txt),(l.foldl Q3 o).length<=o.length+l.length
 | [],o=>by simp
 | y::l,o=>by
  have h1:=X8 l (Q3 o y)
  have h2:=D2s o y
  rw[List.foldl_cons]
  simp only[List.length_cons]; omega
abbrev β51:=List Txt×List Txt×Int×Nat×(Nat->List FV)×Int×Drw
def C5s:Code:=I7 (J8 4 (f51.body.getD .skip))
def sp51c:SP:=⟨dr 2++[.is (.ptr (some (8,0)))]++dr 2++[.flist 1]++[.int .i64]++[.flist 1]++[.int .i64]++[.flist 1]++[.int .i64]++dr 46,dd8++[.any]⟩
def C8k:AEx->SP
 | .exit 4=>⟨dr 2++[.is (.ptr (some (8,0)))]++dr 2++[.flist 1]++[.int .i64]++[.flist 1]++[.int .i64]++dr 48,dd8++[.any]⟩
 | _=>sp51c
theorem F0u(O M:List Txt)(r i n:Int)(m:Nat)(g:Nat->List FV)(d:Drw):F3 prog (D6 prog pNd 60) (pNd.blk 51) C5s (sp51c.rho [.n O.length,.fr (A7 txF O),.i r,.n m,.fr g,.i i,.n M.length,.fr (A7 txF M),.i n,.o (A9 d)]) (sp51c.heap [.n O.length,.fr (A7 txF O),.i r,.n m,.fr g,.i i,.n M.length,.fr (A7 txF M),.i n,.o (A9 d)]) (I1 C8k 9 []) =
  brK (decide (n<(M.length:Int))) (brK (decide (0<=n/\n<(M.length:Int))) (brK (D8 (okR txF O.length (A7 txF O))) (brK (decide ((ofR txF O.length (A7 txF O)).length<=1000000)) (some (.normal,[.n ((Q3 (ofR txF O.length (A7 txF O)) (M.getD n.toNat default)).length),.fr (A7 txF (Q3 (ofR txF O.length (A7 txF O)) (M.getD n.toNat default))),.i (r),.n (m),.fr (g),.i (i),.n (M.length),.fr (A7 txF M),.i (W (n+1)),.o (A9 d)])) none) none) none) (some (.exit 4,[.n (O.length),.fr (A7 txF O),.i (r),.n (m),.fr (g),.i (i),.o (A9 d)])):=by kernel_rfl
def C4e(x:β51)(n:Nat):List Lf:=[.n ((x.2.1.take n).foldl Q3 x.1).length,.fr (A7 txF ((x.2.1.take n).foldl Q3 x.1)),.i x.2.2.1,.n x.2.2.2.1,.fr x.2.2.2.2.1,.i x.2.2.2.2.2.1,.n x.2.1.length,.fr (A7 txF x.2.1),.i n,.o (A9 x.2.2.2.2.2.2)]
def B1o(x:β51):List Lf:=C4e x 0
def D9i:List Lf->β51->List Lf
 | [_,_,r,m,g,i,_,_,_,o],x=>[.n (x.2.1.foldl Q3 x.1).length,.fr (A7 txF (x.2.1.foldl Q3 x.1)),r,m,g,i,o]
 | _,_=>[]
def D3w(x:β51):Nat:=x.2.1.length
def B9g(x:β51):Prop:=x.1.length<=900000/\x.2.1.length<=10000
def A2x:List Lf->β51
 | [.n a,.fr b,.i r,.n m,.fr g,.i i,.n c,.fr e,_,.o o]=>(ofR txF a b,ofR txF c e,r,m,g,i,I4 o)
 | _=>([],[],0,0,fun _=>[],0,default)
theorem F8s(x:β51)(hx:B9g x)(n:Nat)(hn:n<=D3w x):F3 prog (D6 prog pNd 60) (pNd.blk 51) C5s (sp51c.rho (C4e x n)) (sp51c.heap (C4e x n)) (I1 C8k 9 [])=some (if n<D3w x then(.normal,C4e x (n+1)) else(.exit 4,D9i (B1o x) x)):=by
 obtain⟨O,M,r,m,g,i,d⟩:=x
 obtain⟨h1,h2⟩:=hx
 dsimp only at h1 h2
 simp only[C4e]
 rw[F0u,I6 hn (show D3w (O,M,r,m,g,i,d)<2^62 by show M.length<2^62; omega)]
 simp only[tN,I5 O5,K5]
 by_cases h:n<D3w (O,M,r,m,g,i,d)
 ·rw[if_pos h]
  simp only[D3w] at h
  have hl:=X8 (M.take n) O
  rw[List.length_take] at hl
  rw[A7g h]
  refine A8 (dT (by omega)) (A8 (dT (by omega)) (A8 rfl ?_))
  exact A8 (dT (by omega)) rfl
 ·rw[if_neg h]
  simp only[D3w] at h hn
  have e:M.take n=M:=List.take_of_length_le (by omega)
  simp only[D9i,B1o,C4e,e]
  exact C8 (dF (by omega)) rfl
theorem G2b{A:Amb}(x:β51)(_hx:B9g x)(Bb:Heap)(hB:Bb.length=9):Wk A Bb ⟨sp51c.rho (B1o x),sp51c.heap (B1o x),[]⟩ ⟨sp51c.rho (C4e x 0),sp51c.heap (C4e x 0),[]⟩:=by
 have _:=hB
 exact Wk.refl
def G0h:Blk:=hookP sp51c 9 [] (itT (C8k (.exit 4)) 4 (.exit 4) A2x B1o D9i B9g)
theorem E7k{A:Amb}{q:Prims}(h0:PrimOK prog A pNd)(hq:PrimOK prog A q):PrimOK prog A (q.addb 51 4 G0h) :=
 SEB.iterK (id:=4) (ds:=[]) (dec:=A2x) (sp0:=sp51c) (sp:=sp51c) (sq:=C8k) (m:=9) (ee:=.exit 4) (L0:=B1o) (L:=C4e) (Le:=D9i) (N:=D3w) (Inv:=B9g) (k:=60) F8 G5 h0 hq func51 (show f51.body=some (f51.body.getD .skip) by kernel_rfl) (body:=C5s) (by kernel_rfl)
  rfl rfl rfl rfl (by simp) (fun _=>⟨.inr rfl,.inr rfl,.inr rfl,.inr rfl,.inr rfl,.inr rfl,.inr rfl,.inr rfl,.inr rfl,trivial⟩) G2b F8s
theorem G7c{O M:List Txt}(h1:O.length<=900000)(h2:M.length<=10000)(r:Int)(m:Nat)(g:Nat->List FV)(i:Int)(d:Drw):A2x [Lf.n O.length,Lf.fr (A7 txF O),Lf.i r,Lf.n m,Lf.fr g,Lf.i i,Lf.n M.length,Lf.fr (A7 txF M),Lf.i 0,Lf.o (A9 d)]=(O,M,r,m,g,i,d)/\itC B1o A2x B9g [Lf.n O.length,Lf.fr (A7 txF O),Lf.i r,Lf.n m,Lf.fr g,Lf.i i,Lf.n M.length,Lf.fr (A7 txF M),Lf.i 0,Lf.o (A9 d)]=true :=
 have e:A2x [Lf.n O.length,Lf.fr (A7 txF O),Lf.i r,Lf.n m,Lf.fr g,Lf.i i,Lf.n M.length,Lf.fr (A7 txF M),Lf.i 0,Lf.o (A9 d)]=(O,M,r,m,g,i,d):=by simp[A2x,I5 O5,E8]
 ⟨e,Q9 (L0:=B1o) (dec:=A2x) (Inv:=B9g) (x:=(O,M,r,m,g,i,d)) e ⟨h1,h2⟩⟩
def pNe1:Prims:=pNd.addb 51 4 G0h
def F9(d:Drw):List Txt:=d.l.map (·.s)
theorem G6y{d:Drw}{s:Txt}:0<=E5 d s↔s∈F9 d:=by
 unfold E5 D6k F9
 rw[List.mem_map]
 constructor
 ·intro h
  split at h
  ·omega
  ·rename_i hne
   have hlt:A2s (A6s d s) d.l.length<d.l.length:=by have:=B6a (p:=A6s d s) (N:=d.l.length); omega
   have this:((d.l.getD (A2s (A6s d s) d.l.length) default).s==s)=true:=C6m (p:=A6s d s) (N:=d.l.length) hlt
   rw[gD,gE hlt] at this
   exact⟨_,List.getElem_mem hlt,eq_of_beq this⟩
 ·rintro⟨f,hf,rfl⟩
  obtain⟨i,hi,rfl⟩:=List.getElem_of_mem hf
  split
  ·rename_i he
   have this:((d.l.getD i default).s==d.l[i].s)=false:=A8f (p:=A6s d d.l[i].s) (N:=d.l.length) (i:=i) (by omega)
   rw[gD,gE hi] at this
   simp at this
  ·omega
structure GrD (d:Drw):Prop where
 len:d.l.length<=64
 sml:∀ i,i<d.l.length->SmlF (D9 d i)
 ix:∀ i,i<d.l.length->∀ y,y∈L8 (D9 d i) (D9 d i).l.length->y∈F9 d
theorem E0m{d:Drw}(h:GrD d){s:Txt}(hs:s∈F9 d):(nbR d s).length<=10000:=by
 have hi:=A0h d s
 have h0:=G6y.2 hs
 have h1:=h.sml (E5 d s).toNat (by omega)
 have h2:=A8q h1 _ (lR _)
 have h3:=h1.l
 unfold nbR
 omega
theorem D6u{d:Drw}(h:GrD d){s:Txt}(hs:s∈F9 d):∀ y,y∈nbR d s->y∈F9 d:=by
 have hi:=A0h d s
 have h0:=G6y.2 hs
 exact h.ix _ (by omega)
def B1d(d:Drw)(l:List Txt)(n:Nat)(o:List Txt):List Txt:=(l.take n).foldl (fun o x=>(nbR d x).foldl Q3 o) o
theorem C3t{d:Drw}{l:List Txt}{n:Nat}{o:List Txt}(h:n<l.length):B1d d l (n+1) o=(nbR d (l.getD n default)).foldl Q3 (B1d d l n o):=by
 unfold B1d
 rw[List.take_succ_eq_append_getElem h,List.foldl_append,gD,gE h]
 rfl
theorem A5q{l:List Txt}{n:Nat}(h:n<l.length):l.getD n default∈l:=by
 rw[gD,gE h]
 exact List.getElem_mem h
theorem D3b{d:Drw}(h:GrD d){l:List Txt}(hl:∀ y,y∈l->y∈F9 d)(o:List Txt):∀ n,n<=l.length->(B1d d l n o).length<=o.length+10000*n
 | 0,_=>by simp[B1d]
 | n+1,hn=>by
  rw[C3t (by omega)]
  have h1:=D3b h hl o n (by omega)
  have h2:=E0m h (hl _ (A5q (show n<l.length by omega)))
  have h3:=X8 (nbR d (l.getD n default)) (B1d d l n o)
  omega
def C5r:Code:=I7 (J8 2 (f51.body.getD .skip))
def sp51b:SP:=⟨dr 2++[.is (.ptr (some (8,0)))]++dr 2++[.flist 1]++[.int .i64]++[.flist 1]++[.int .i64]++dr 48,dd8++[.any]⟩
def C8j:AEx->SP
 | .exit 2=>⟨dr 2++[.is (.ptr (some (8,0)))]++dr 2++[.flist 1]++[.int .i64]++dr 50,dd8++[.any]⟩
 | _=>sp51b
theorem F0t(d:Drw)(O M:List Txt)(r i:Int):F3 prog (D6 prog pNe1 60) (pNe1.blk 51) C5r (sp51b.rho [.n O.length,.fr (A7 txF O),.i r,.n M.length,.fr (A7 txF M),.i i,.o (A9 d)]) (sp51b.heap [.n O.length,.fr (A7 txF O),.i r,.n M.length,.fr (A7 txF M),.i i,.o (A9 d)]) (I1 C8j 9 []) =
  brK (decide (i<(M.length:Int))) (brK (decide (0<=i/\i<(M.length:Int))) (brK (D8 (okR Fea.fv d.l.length (A7 Fea.fv d.l))&&D8 (okR Dim.fv d.m.length (A7 Dim.fv d.m))) (brK (decide ((ofR Fea.fv d.l.length (A7 Fea.fv d.l)).length<4611686018427387904)) (brK (decide (0<=E5 (drE d) (M.getD i.toNat default)/\E5 (drE d) (M.getD i.toNat default)<(d.l.length:Int))) (brK (D8 (okR Frm.fv (d.l.getD (E5 (drE d) (M.getD i.toNat default)).toNat default).l.length (A7 Frm.fv (d.l.getD (E5 (drE d) (M.getD i.toNat default)).toNat default).l))) (brK (D8 (SmlF (feE (d.l.getD (E5 (drE d) (M.getD i.toNat default)).toNat default)))) (brK (itC B1o A2x B9g [Lf.n O.length,Lf.fr (A7 txF O),Lf.i r,Lf.n M.length,Lf.fr (A7 txF M),Lf.i i,Lf.n (L8 (feE (d.l.getD (E5 (drE d) (M.getD i.toNat default)).toNat default)) (ofR Frm.fv (d.l.getD (E5 (drE d) (M.getD i.toNat default)).toNat default).l.length (A7 Frm.fv (d.l.getD (E5 (drE d) (M.getD i.toNat default)).toNat default).l)).length).length,Lf.fr (A7 txF (L8 (feE (d.l.getD (E5 (drE d) (M.getD i.toNat default)).toNat default)) (ofR Frm.fv (d.l.getD (E5 (drE d) (M.getD i.toNat default)).toNat default).l.length (A7 Frm.fv (d.l.getD (E5 (drE d) (M.getD i.toNat default)).toNat default).l)).length)),Lf.i 0,Lf.o (A9 d)]) (some (.normal,[.n ((List.foldl Q3 (A2x [Lf.n O.length,Lf.fr (A7 txF O),Lf.i r,Lf.n M.length,Lf.fr (A7 txF M),Lf.i i,Lf.n (L8 (feE (d.l.getD (E5 (drE d) (M.getD i.toNat default)).toNat default)) (ofR Frm.fv (d.l.getD (E5 (drE d) (M.getD i.toNat default)).toNat default).l.length (A7 Frm.fv (d.l.getD (E5 (drE d) (M.getD i.toNat default)).toNat default).l)).length).length,Lf.fr (A7 txF (L8 (feE (d.l.getD (E5 (drE d) (M.getD i.toNat default)).toNat default)) (ofR Frm.fv (d.l.getD (E5 (drE d) (M.getD i.toNat default)).toNat default).l.length (A7 Frm.fv (d.l.getD (E5 (drE d) (M.getD i.toNat default)).toNat default).l)).length)),Lf.i 0,Lf.o (A9 d)]).fst (A2x [Lf.n O.length,Lf.fr (A7 txF O),Lf.i r,Lf.n M.length,Lf.fr (A7 txF M),Lf.i i,Lf.n (L8 (feE (d.l.getD (E5 (drE d) (M.getD i.toNat default)).toNat default)) (ofR Frm.fv (d.l.getD (E5 (drE d) (M.getD i.toNat default)).toNat default).l.length (A7 Frm.fv (d.l.getD (E5 (drE d) (M.getD i.toNat default)).toNat default).l)).length).length,Lf.fr (A7 txF (L8 (feE (d.l.getD (E5 (drE d) (M.getD i.toNat default)).toNat default)) (ofR Frm.fv (d.l.getD (E5 (drE d) (M.getD i.toNat default)).toNat default).l.length (A7 Frm.fv (d.l.getD (E5 (drE d) (M.getD i.toNat default)).toNat default).l)).length)),Lf.i 0,Lf.o (A9 d)]).snd.fst).length),.fr (A7 txF (List.foldl Q3 (A2x [Lf.n O.length,Lf.fr (A7 txF O),Lf.i r,Lf.n M.length,Lf.fr (A7 txF M),Lf.i i,Lf.n (L8 (feE (d.l.getD (E5 (drE d) (M.getD i.toNat default)).toNat default)) (ofR Frm.fv (d.l.getD (E5 (drE d) (M.getD i.toNat default)).toNat default).l.length (A7 Frm.fv (d.l.getD (E5 (drE d) (M.getD i.toNat default)).toNat default).l)).length).length,Lf.fr (A7 txF (L8 (feE (d.l.getD (E5 (drE d) (M.getD i.toNat default)).toNat default)) (ofR Frm.fv (d.l.getD (E5 (drE d) (M.getD i.toNat default)).toNat default).l.length (A7 Frm.fv (d.l.getD (E5 (drE d) (M.getD i.toNat default)).toNat default).l)).length)),Lf.i 0,Lf.o (A9 d)]).fst (A2x [Lf.n O.length,Lf.fr (A7 txF O),Lf.i r,Lf.n M.length,Lf.fr (A7 txF M),Lf.i i,Lf.n (L8 (feE (d.l.getD (E5 (drE d) (M.getD i.toNat default)).toNat default)) (ofR Frm.fv (d.l.getD (E5 (drE d) (M.getD i.toNat default)).toNat default).l.length (A7 Frm.fv (d.l.getD (E5 (drE d) (M.getD i.toNat default)).toNat default).l)).length).length,Lf.fr (A7 txF (L8 (feE (d.l.getD (E5 (drE d) (M.getD i.toNat default)).toNat default)) (ofR Frm.fv (d.l.getD (E5 (drE d) (M.getD i.toNat default)).toNat default).l.length (A7 Frm.fv (d.l.getD (E5 (drE d) (M.getD i.toNat default)).toNat default).l)).length)),Lf.i 0,Lf.o (A9 d)]).snd.fst)),.i (r),.n (M.length),.fr (A7 txF M),.i (W (i+1)),.o (A9 d)])) none) none) none) none) none) none) none) (some (.exit 2,[.n (O.length),.fr (A7 txF O),.i (r),.o (A9 d)])):=by kernel_rfl
def C8w(x:Drw×List Txt×List Txt×Int)(n:Nat):List Lf:=[.n (B1d x.1 x.2.2.1 n x.2.1).length,.fr (A7 txF (B1d x.1 x.2.2.1 n x.2.1)),.i x.2.2.2,.n x.2.2.1.length,.fr (A7 txF x.2.2.1),.i n,.o (A9 x.1)]
def B4i(x:Drw×List Txt×List Txt×Int):List Lf:=C8w x 0
def E4n:List Lf->(Drw×List Txt×List Txt×Int)->List Lf
 | [_,_,r,_,_,_,o],x=>[.n (B1d x.1 x.2.2.1 x.2.2.1.length x.2.1).length,.fr (A7 txF (B1d x.1 x.2.2.1 x.2.2.1.length x.2.1)),r,o]
 | _,_=>[]
def C9d(x:Drw×List Txt×List Txt×Int):Nat:=x.2.2.1.length
def B9f(x:Drw×List Txt×List Txt×Int):Prop:=GrD x.1/\(∀ y,y∈x.2.2.1->y∈F9 x.1)/\x.2.2.1.length<=64/\x.2.1.length<=64
def A0m:List Lf->Drw×List Txt×List Txt×Int
 | [.n a,.fr b,.i r,.n m,.fr g,_,.o o]=>(I4 o,ofR txF a b,ofR txF m g,r)
 | _=>(default,[],[],0)
theorem F8r(x:Drw×List Txt×List Txt×Int)(hx:B9f x)(n:Nat)(hn:n<=C9d x):F3 prog (D6 prog pNe1 60) (pNe1.blk 51) C5r (sp51b.rho (C8w x n)) (sp51b.heap (C8w x n)) (I1 C8j 9 [])=some (if n<C9d x then(.normal,C8w x (n+1)) else(.exit 2,E4n (B4i x) x)):=by
 obtain⟨d,O,M,r⟩:=x
 obtain⟨h1,h2,h3,h4⟩:=hx
 dsimp only at h1 h2 h3 h4
 have hl:=h1.len
 simp only[C8w]
 rw[F0t,I6 hn (show C9d (d,O,M,r)<2^62 by show M.length<2^62; omega)]
 simp only[tN,K5,Bool.and_self,V9,A8e,I5 Fea.inj,I5 Frm.inj]
 by_cases h:n<C9d (d,O,M,r)
 ·rw[if_pos h]
  simp only[C9d] at h
  have hy:=h2 (M.getD n default) (A5q h)
  have h0:=G6y.2 hy
  have hi:=A0h d (M.getD n default)
  have hsm:=h1.sml (E5 d (M.getD n default)).toNat (by omega)
  have hlen:=D3b h1 h2 O n (by omega)
  have hmo:=E0m h1 hy
  obtain⟨e,hit⟩:=G7c (O:=B1d d M n O) (M:=nbR d (M.getD n default)) (by omega) hmo r M.length (A7 txF M) n d
  refine A8 (dT (by omega)) (A8 (dT (by omega)) (A8 rfl (A8 (dT (by omega)) (A8 (dT (by omega)) (A8 rfl (A8 (D5 hsm) (A8 hit ?_)))))))
  rw[C3t h]
  simp only[nbR,D9] at e ⊢
  rw[e]
 ·rw[if_neg h]
  have e:n=C9d (d,O,M,r):=Nat.le_antisymm hn (Nat.le_of_not_lt h)
  subst e
  exact C8 (dF (by unfold C9d; dsimp only; omega)) rfl
theorem G2a{A:Amb}(x:Drw×List Txt×List Txt×Int)(_hx:B9f x)(Bb:Heap)(hB:Bb.length=9):Wk A Bb ⟨sp51b.rho (B4i x),sp51b.heap (B4i x),[]⟩ ⟨sp51b.rho (C8w x 0),sp51b.heap (C8w x 0),[]⟩:=by
 have _:=hB
 exact Wk.refl
def G0g:Blk:=hookP sp51b 9 [] (itT (C8j (.exit 2)) 2 (.exit 2) A0m B4i E4n B9f)
theorem E7j{A:Amb}{q:Prims}(h0:PrimOK prog A pNe1)(hq:PrimOK prog A q):PrimOK prog A (q.addb 51 2 G0g) :=
 SEB.iterK (id:=2) (ds:=[]) (dec:=A0m) (sp0:=sp51b) (sp:=sp51b) (sq:=C8j) (m:=9) (ee:=.exit 2) (L0:=B4i) (L:=C8w) (Le:=E4n) (N:=C9d) (Inv:=B9f) (k:=60) F8 G5 h0 hq func51 (show f51.body=some (f51.body.getD .skip) by kernel_rfl) (body:=C5r) (by kernel_rfl)
  rfl rfl rfl rfl (by simp) (fun _=>⟨.inr rfl,.inr rfl,.inr rfl,.inr rfl,.inr rfl,.inr rfl,.inr rfl,.inr rfl,.inr rfl,trivial⟩) G2a F8r
theorem G7b{d:Drw}{O M:List Txt}(h1:GrD d)(h2:∀ y,y∈M->y∈F9 d)(h3:M.length<=64)(h4:O.length<=64)(r:Int):A0m [Lf.n O.length,Lf.fr (A7 txF O),Lf.i r,Lf.n M.length,Lf.fr (A7 txF M),Lf.i 0,Lf.o (A9 d)]=(d,O,M,r)/\itC B4i A0m B9f [Lf.n O.length,Lf.fr (A7 txF O),Lf.i r,Lf.n M.length,Lf.fr (A7 txF M),Lf.i 0,Lf.o (A9 d)]=true :=
 have e:A0m [Lf.n O.length,Lf.fr (A7 txF O),Lf.i r,Lf.n M.length,Lf.fr (A7 txF M),Lf.i 0,Lf.o (A9 d)]=(d,O,M,r):=by simp[A0m,I5 O5,E8]
 ⟨e,Q9 (L0:=B4i) (dec:=A0m) (Inv:=B9f) (x:=(d,O,M,r)) e ⟨h1,h2,h3,h4⟩⟩
def pNe2:Prims:=pNe1.addb 51 2 G0g
theorem F0d(d:Drw)(o:List Txt):B1d d o o.length o=B5v (nbR d) o:=by unfold B1d B5v; rw[List.take_length]
theorem B1e(nb:Txt->List Txt):∀ (n:Nat) (o:List Txt),Y7 nb (n+1) o=B5v nb (Y7 nb n o)
 | 0,_=>rfl
 | n+1,o=>by rw[Y7,B1e nb n,Y7]
theorem E0z{d:Drw}(h:GrD d){o:List Txt}(ho:SS o)(hn:∀ y,y∈o->y∈F9 d):∀ n,SS (Y7 (nbR d) n o)/\∀ y,y∈Y7 (nbR d) n o->y∈F9 d
 | 0=>⟨ho,hn⟩
 | n+1=>by
  obtain⟨h1,h2⟩:=E0z h ho hn n
  rw[B1e]
  obtain⟨q1,q2⟩:=A5w (nbR d) (Y7 (nbR d) n o) _ h1
  refine⟨q1,fun y hy=>?_⟩
  rcases(q2 y).1 hy with q | ⟨x,q,q3⟩
  ·exact h2 y q
  ·exact D6u h (h2 x q) y q3
theorem G4q{d:Drw}(h:GrD d){o:List Txt}(ho:SS o)(hn:∀ y,y∈o->y∈F9 d):o.length<=64:=by
 have:=A5u ho.nodup hn
 have h2:=h.len
 unfold F9 at this
 rw[List.length_map] at this
 omega
def C5q:Code:=I7 (J8 0 (f51.body.getD .skip))
def sp51a:SP:=⟨dr 2++[.is (.ptr (some (8,0)))]++dr 2++[.flist 1]++[.int .i64]++dr 50,dd8++[.any]⟩
def C8i:AEx->SP
 | .exit 0=>⟨dr 5++[.flist 1]++dr 51,dd8++[.any]⟩
 | _=>sp51a
theorem F0s(d:Drw)(O:List Txt)(r:Int):F3 prog (D6 prog pNe2 60) (pNe2.blk 51) C5q (sp51a.rho [.n O.length,.fr (A7 txF O),.i r,.o (A9 d)]) (sp51a.heap [.n O.length,.fr (A7 txF O),.i r,.o (A9 d)]) (I1 C8i 9 []) =
  brK (decide (r<(d.l.length:Int))) (brK (itC B4i A0m B9f [Lf.n O.length,Lf.fr (A7 txF O),Lf.i r,Lf.n O.length,Lf.fr (A7 txF O),Lf.i 0,Lf.o (A9 d)]) (some (.normal,[.n ((B1d (A0m [Lf.n O.length,Lf.fr (A7 txF O),Lf.i r,Lf.n O.length,Lf.fr (A7 txF O),Lf.i 0,Lf.o (A9 d)]).fst (A0m [Lf.n O.length,Lf.fr (A7 txF O),Lf.i r,Lf.n O.length,Lf.fr (A7 txF O),Lf.i 0,Lf.o (A9 d)]).snd.snd.fst (A0m [Lf.n O.length,Lf.fr (A7 txF O),Lf.i r,Lf.n O.length,Lf.fr (A7 txF O),Lf.i 0,Lf.o (A9 d)]).snd.snd.fst.length (A0m [Lf.n O.length,Lf.fr (A7 txF O),Lf.i r,Lf.n O.length,Lf.fr (A7 txF O),Lf.i 0,Lf.o (A9 d)]).snd.fst).length),.fr (A7 txF (B1d (A0m [Lf.n O.length,Lf.fr (A7 txF O),Lf.i r,Lf.n O.length,Lf.fr (A7 txF O),Lf.i 0,Lf.o (A9 d)]).fst (A0m [Lf.n O.length,Lf.fr (A7 txF O),Lf.i r,Lf.n O.length,Lf.fr (A7 txF O),Lf.i 0,Lf.o (A9 d)]).snd.snd.fst (A0m [Lf.n O.length,Lf.fr (A7 txF O),Lf.i r,Lf.n O.length,Lf.fr (A7 txF O),Lf.i 0,Lf.o (A9 d)]).snd.snd.fst.length (A0m [Lf.n O.length,Lf.fr (A7 txF O),Lf.i r,Lf.n O.length,Lf.fr (A7 txF O),Lf.i 0,Lf.o (A9 d)]).snd.fst)),.i (W (r+1)),.o (A9 d)])) none) (some (.exit 0,[.n (O.length),.fr (A7 txF O),.o (A9 d)])):=by kernel_rfl
def C8v(x:Drw×List Txt)(n:Nat):List Lf:=[.n (Y7 (nbR x.1) n x.2).length,.fr (A7 txF (Y7 (nbR x.1) n x.2)),.i n,.o (A9 x.1)]
def B4h(x:Drw×List Txt):List Lf:=C8v x 0
def E4m:List Lf->(Drw×List Txt)->List Lf
 | [_,_,_,o],x=>[.n (Y7 (nbR x.1) x.1.l.length x.2).length,.fr (A7 txF (Y7 (nbR x.1) x.1.l.length x.2)),o]
 | _,_=>[]
def C9c(x:Drw×List Txt):Nat:=x.1.l.length
def B9e(x:Drw×List Txt):Prop:=GrD x.1/\SS x.2/\(∀ y,y∈x.2->y∈F9 x.1)
def A2d:List Lf->Drw×List Txt
 | [.n a,.fr b,_,.o o]=>(I4 o,ofR txF a b)
 | _=>(default,[])
theorem F8q(x:Drw×List Txt)(hx:B9e x)(n:Nat)(hn:n<=C9c x):F3 prog (D6 prog pNe2 60) (pNe2.blk 51) C5q (sp51a.rho (C8v x n)) (sp51a.heap (C8v x n)) (I1 C8i 9 [])=some (if n<C9c x then(.normal,C8v x (n+1)) else(.exit 0,E4m (B4h x) x)):=by
 obtain⟨d,O⟩:=x
 obtain⟨h1,h2,h3⟩:=hx
 dsimp only at h1 h2 h3
 have hl:=h1.len
 simp only[C8v]
 rw[F0s,I6 hn (show C9c (d,O)<2^62 by show d.l.length<2^62; omega)]
 obtain⟨q1,q2⟩:=E0z h1 h2 h3 n
 have hlen:=G4q h1 q1 q2
 obtain⟨e,hit⟩:=G7b h1 q2 hlen hlen n
 rw[e]
 by_cases h:n<C9c (d,O)
 ·rw[if_pos h,B1e,<- F0d]
  simp only[C9c] at h
  exact A8 (dT (by omega)) (A8 hit rfl)
 ·rw[if_neg h]
  have e:n=C9c (d,O):=Nat.le_antisymm hn (Nat.le_of_not_lt h)
  subst e
  exact C8 (dF (by unfold C9c; dsimp only; omega)) rfl
theorem G1z{A:Amb}(x:Drw×List Txt)(_hx:B9e x)(Bb:Heap)(hB:Bb.length=9):Wk A Bb ⟨sp51a.rho (B4h x),sp51a.heap (B4h x),[]⟩ ⟨sp51a.rho (C8v x 0),sp51a.heap (C8v x 0),[]⟩:=by
 have _:=hB
 exact Wk.refl
def G0f:Blk:=hookP sp51a 9 [] (itT (C8i (.exit 0)) 0 (.exit 0) A2d B4h E4m B9e)
theorem E7i{A:Amb}{q:Prims}(h0:PrimOK prog A pNe2)(hq:PrimOK prog A q):PrimOK prog A (q.addb 51 0 G0f) :=
 SEB.iterK (id:=0) (ds:=[]) (dec:=A2d) (sp0:=sp51a) (sp:=sp51a) (sq:=C8i) (m:=9) (ee:=.exit 0) (L0:=B4h) (L:=C8v) (Le:=E4m) (N:=C9c) (Inv:=B9e) (k:=60) F8 G5 h0 hq func51 (show f51.body=some (f51.body.getD .skip) by kernel_rfl) (body:=C5q) (by kernel_rfl)
  rfl rfl rfl rfl (by simp) (fun _=>⟨.inr rfl,.inr rfl,.inr rfl,.inr rfl,.inr rfl,.inr rfl,.inr rfl,.inr rfl,.inr rfl,trivial⟩) G1z F8q
def G7t:Prims:=pNe2.addb 51 0 G0f
theorem C7m(x:Fea):∀ n,n<=x.l.length->SS (L8 x n)
 | 0,_=>by unfold L8 SS; simp
 | n+1,hn=>by
  rw[A9n (by omega)]
  have h:=C7m x n (by omega)
  revert h
  generalize L8 x n=o
  unfold A9t
  generalize (F7 x n).l=l
  intro h
  have e:l.foldl (fun o y=>Q3 o y.s) o=(l.map (·.s)).foldl Q3 o:=by rw[List.foldl_map]
  rw[e]
  exact(A3i h).1
theorem D6t(d:Drw)(s:Txt):SS (nbR d s):=C7m _ _ (lR _)
def J6(d:Drw)(s:Txt):List Txt:=Y7 (nbR d) d.l.length (nbR d s)
theorem G9g(d:Drw)(s:List UInt8):(D6 prog G7t 60).call 51 [.agg d.av,.sstr s] (Bg 8) G7 =
  brK (D8 (okR Fea.fv d.l.length (A7 Fea.fv d.l))&&D8 (okR Dim.fv d.m.length (A7 Dim.fv d.m))) (brK (decide ((ofR Fea.fv d.l.length (A7 Fea.fv d.l)).length<4611686018427387904)) (brK (decide (0<=E5 (drE d) s/\E5 (drE d) s<(d.l.length:Int))) (brK (D8 (okR Frm.fv (d.l.getD (E5 (drE d) s).toNat default).l.length (A7 Frm.fv (d.l.getD (E5 (drE d) s).toNat default).l))) (brK (D8 (SmlF (feE (d.l.getD (E5 (drE d) s).toNat default)))) (brK (itC B4h A2d B9e [Lf.n (L8 (feE (d.l.getD (E5 (drE d) s).toNat default)) (ofR Frm.fv (d.l.getD (E5 (drE d) s).toNat default).l.length (A7 Frm.fv (d.l.getD (E5 (drE d) s).toNat default).l)).length).length,Lf.fr (A7 txF (L8 (feE (d.l.getD (E5 (drE d) s).toNat default)) (ofR Frm.fv (d.l.getD (E5 (drE d) s).toNat default).l.length (A7 Frm.fv (d.l.getD (E5 (drE d) s).toNat default).l)).length)),Lf.i 0,Lf.o (A9 d)]) (some (.flist (((Y7 (nbR (A2d [Lf.n (L8 (feE (d.l.getD (E5 (drE d) s).toNat default)) (ofR Frm.fv (d.l.getD (E5 (drE d) s).toNat default).l.length (A7 Frm.fv (d.l.getD (E5 (drE d) s).toNat default).l)).length).length,Lf.fr (A7 txF (L8 (feE (d.l.getD (E5 (drE d) s).toNat default)) (ofR Frm.fv (d.l.getD (E5 (drE d) s).toNat default).l.length (A7 Frm.fv (d.l.getD (E5 (drE d) s).toNat default).l)).length)),Lf.i 0,Lf.o (A9 d)]).fst) (A2d [Lf.n (L8 (feE (d.l.getD (E5 (drE d) s).toNat default)) (ofR Frm.fv (d.l.getD (E5 (drE d) s).toNat default).l.length (A7 Frm.fv (d.l.getD (E5 (drE d) s).toNat default).l)).length).length,Lf.fr (A7 txF (L8 (feE (d.l.getD (E5 (drE d) s).toNat default)) (ofR Frm.fv (d.l.getD (E5 (drE d) s).toNat default).l.length (A7 Frm.fv (d.l.getD (E5 (drE d) s).toNat default).l)).length)),Lf.i 0,Lf.o (A9 d)]).fst.l.length (A2d [Lf.n (L8 (feE (d.l.getD (E5 (drE d) s).toNat default)) (ofR Frm.fv (d.l.getD (E5 (drE d) s).toNat default).l.length (A7 Frm.fv (d.l.getD (E5 (drE d) s).toNat default).l)).length).length,Lf.fr (A7 txF (L8 (feE (d.l.getD (E5 (drE d) s).toNat default)) (ofR Frm.fv (d.l.getD (E5 (drE d) s).toNat default).l.length (A7 Frm.fv (d.l.getD (E5 (drE d) s).toNat default).l)).length)),Lf.i 0,Lf.o (A9 d)]).snd)).length) (fun i=>txF ((Y7 (nbR (A2d [Lf.n (L8 (feE (d.l.getD (E5 (drE d) s).toNat default)) (ofR Frm.fv (d.l.getD (E5 (drE d) s).toNat default).l.length (A7 Frm.fv (d.l.getD (E5 (drE d) s).toNat default).l)).length).length,Lf.fr (A7 txF (L8 (feE (d.l.getD (E5 (drE d) s).toNat default)) (ofR Frm.fv (d.l.getD (E5 (drE d) s).toNat default).l.length (A7 Frm.fv (d.l.getD (E5 (drE d) s).toNat default).l)).length)),Lf.i 0,Lf.o (A9 d)]).fst) (A2d [Lf.n (L8 (feE (d.l.getD (E5 (drE d) s).toNat default)) (ofR Frm.fv (d.l.getD (E5 (drE d) s).toNat default).l.length (A7 Frm.fv (d.l.getD (E5 (drE d) s).toNat default).l)).length).length,Lf.fr (A7 txF (L8 (feE (d.l.getD (E5 (drE d) s).toNat default)) (ofR Frm.fv (d.l.getD (E5 (drE d) s).toNat default).l.length (A7 Frm.fv (d.l.getD (E5 (drE d) s).toNat default).l)).length)),Lf.i 0,Lf.o (A9 d)]).fst.l.length (A2d [Lf.n (L8 (feE (d.l.getD (E5 (drE d) s).toNat default)) (ofR Frm.fv (d.l.getD (E5 (drE d) s).toNat default).l.length (A7 Frm.fv (d.l.getD (E5 (drE d) s).toNat default).l)).length).length,Lf.fr (A7 txF (L8 (feE (d.l.getD (E5 (drE d) s).toNat default)) (ofR Frm.fv (d.l.getD (E5 (drE d) s).toNat default).l.length (A7 Frm.fv (d.l.getD (E5 (drE d) s).toNat default).l)).length)),Lf.i 0,Lf.o (A9 d)]).snd).getD i default)) 1)) none) none) none) none) none) none:=by kernel_rfl
theorem H1h{d:Drw}(h:GrD d){s:Txt}(hs:s∈F9 d):∃ v,(D6 prog G7t 60).call 51 [.agg d.av,.sstr s] (Bg 8) G7=some v/\v=R7 (J6 d s):=by
 have hl:=h.len
 have h0:=G6y.2 hs
 have hi:=A0h d s
 have hsm:=h.sml (E5 d s).toNat (by omega)
 rw[G9g]
 simp only[K5,Bool.and_self,V9,A8e,I5 Fea.inj,I5 Frm.inj]
 have e:A2d [Lf.n (nbR d s).length,Lf.fr (A7 txF (nbR d s)),Lf.i 0,Lf.o (A9 d)]=(d,nbR d s):=by simp[A2d,I5 O5,E8]
 have hit:itC B4h A2d B9e [Lf.n (nbR d s).length,Lf.fr (A7 txF (nbR d s)),Lf.i 0,Lf.o (A9 d)]=true :=
  Q9 (L0:=B4h) (dec:=A2d) (Inv:=B9e) (x:=(d,nbR d s)) e ⟨h,D6t d s,D6u h hs⟩
 refine⟨_,A8 rfl (A8 (dT (by omega)) (A8 (dT (by omega)) (A8 rfl (A8 (D5 hsm) (A8 hit rfl))))),?_⟩
 simp only[nbR,D9] at e
 rw[e]
 rfl
def VNe(x:Drw×Txt):Tr AV:=.br (D8 (GrD x.1/\x.2∈F9 x.1)) (.leaf (R7 (J6 x.1 x.2))) .fail
def pNe:Prims:=pNd.addt 51 (Q8 B0c VNe)
theorem E9l{A:Amb}(hT:Tab A)(hG:gN prog<=A.G):PrimOK prog A pNe:=by
 have h0:=G3p hT hG
 have h1:PrimOK prog A pNe1:=E7k h0 h0
 have h2:PrimOK prog A pNe2:=E7j h1 h1
 refine J4 hG (E7i h2 h2) h0 B0c VNe func51 (by kernel_rfl) fun x v hv=>?_
 obtain⟨hz,hv⟩:=Tr.br1 hv
 cases hv
 have hz:=J7 hz
 obtain⟨v',h3,rfl⟩:=H1h hz.1 hz.2
 exact⟨_,h3,rfl,fun _ _ h=>h⟩
end Go.Proofs.Tryz
