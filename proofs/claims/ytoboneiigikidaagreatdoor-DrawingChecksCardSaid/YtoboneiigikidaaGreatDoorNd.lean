/- Drawings: the names of a feature, by the reference. -/
import Derived.Test.YtoboneiigikidaaGreatDoorDm
import Derived.Test.YtoboneiigikidaaGreatDoorAdFind
noncomputable section
namespace Go.Proofs.Tryz
open Go.Ad
def A9e (o:List Txt) (l:List Dat):List Txt:=l.foldl (fun o y=>P5 o y.s) o
def K8 (x:Fea) (n:Nat):List Txt:=(x.l.take n).foldl (fun o f=>A9e o f.l) []
structure SmlF (x:Fea):Prop where
 l:x.l.length<=100
 d:∀ i,i < x.l.length->(F6 x i).l.length<=100
theorem D1q (s:Txt):∀ l:List Txt,(B0l s l).length<=l.length+1
 | []=>by simp [B0l]
 | x :: l=>by
  unfold B0l
  split
  ·have:=List.length_filter_le (fun y=>decide (y ≠ s)) (x :: l)
   simp only [List.length_cons] at this ⊢; omega
  ·have:=D1q s l
   simp only [List.length_cons]; omega
theorem D1o (l:List Txt) (s:Txt):(P5 l s).length<=l.length+1:=by rw [C6l]; exact D1q s l
theorem B9f:∀ (l:List Dat) (o:List Txt),(A9e o l).length<=o.length+l.length
 | [],o=>by simp [A9e]
 | y :: l,o=>by
  have h1:=B9f l (P5 o y.s)
  have h2:=D1o o y.s
  unfold A9e at h1 ⊢
  rw [List.foldl_cons]
  simp only [List.length_cons]; omega
theorem E2c {o:List Txt} {l:List Dat} {n:Nat} (h:n < l.length):A9e o (l.take (n+1))=P5 (A9e o (l.take n)) (l.getD n default).s:=by
 unfold A9e
 rw [List.take_succ_eq_append_getElem h,List.foldl_append,List.getD_eq_getElem?_getD,List.getElem?_eq_getElem h]
 rfl
theorem A8y {x:Fea} {n:Nat} (h:n < x.l.length):K8 x (n+1)=A9e (K8 x n) (F6 x n).l:=by
 unfold K8 F6
 rw [List.take_succ_eq_append_getElem h,List.foldl_append,List.getD_eq_getElem?_getD,List.getElem?_eq_getElem h]
 rfl
theorem A8b {x:Fea} (h:SmlF x):∀ n,n<=x.l.length->(K8 x n).length<=100*n
 | 0,_=>by simp [K8]
 | n+1,hn=>by
  rw [A8y (by omega)]
  have h1:=B9f (F6 x n).l (K8 x n)
  have h2:=A8b h n (by omega)
  have h3:=h.d n (by omega)
  omega
end Go.Proofs.Tryz
namespace Go.Proofs.Tryz
open Go.Ad
def C4v:Code:=I9 (J7 2 (f89.body.getD .skip))
def sp89b:SP:=⟨dr 1++[.is (.ptr (some (8,0)))]++dr 1++[.flist 1]++[.int .i64]++[.int .i64]++dr 31,dd8++[.any]⟩
def C7o:AEx->SP
 | .exit 2=>⟨dr 1++[.is (.ptr (some (8,0)))]++dr 1++[.flist 1]++[.int .i64]++dr 32,dd8++[.any]⟩
 | _=>sp89b
theorem E8z (x:Fea) (O:List Txt) (i n:Int):F3 prog (D5 prog pPu 60) (pPu.blk 89) C4v (sp89b.rho [.n O.length,.fr (A7 txF O),.i i,.i n,.o (D7 x)]) (sp89b.heap [.n O.length,.fr (A7 txF O),.i i,.i n,.o (D7 x)]) (H9 C7o 9 []) =
  brK (decide (0<=i/\i < (x.l.length:Int))) (brK (decide (n < ((x.l.getD i.toNat default).l.length:Int))) (brK (decide (0<=i/\i < (x.l.length:Int))) (brK (decide (0<=n/\n < ((x.l.getD i.toNat default).l.length:Int))) (brK (D8 (okR txF O.length (A7 txF O))) (brK (decide ((ofR txF O.length (A7 txF O)).length<=1000000)) (some (.normal,[.n ((P5 (ofR txF O.length (A7 txF O)) ((x.l.getD i.toNat default).l.getD n.toNat default).s).length),.fr (A7 txF (P5 (ofR txF O.length (A7 txF O)) ((x.l.getD i.toNat default).l.getD n.toNat default).s)),.i (i),.i (W (n+1)),.o (D7 (x))])) none) none) none) none) (some (.exit 2,[.n (O.length),.fr (A7 txF O),.i (i),.o (D7 (x))]))) none:=by kernel_rfl
def C3e (x:Fea × Nat × List Txt) (n:Nat):List Lf:=[.n (A9e x.2.2 ((F6 x.1 x.2.1).l.take n)).length,.fr (A7 txF (A9e x.2.2 ((F6 x.1 x.2.1).l.take n))),.i x.2.1,.i n,.o (D7 x.1)]
def B1a (x:Fea × Nat × List Txt):List Lf:=C3e x 0
def D7z:List Lf->(Fea × Nat × List Txt)->List Lf
 | [_,_,i,_,o],x=>[.n (A9e x.2.2 (F6 x.1 x.2.1).l).length,.fr (A7 txF (A9e x.2.2 (F6 x.1 x.2.1).l)),i,o]
 | _,_=>[]
def D2u (x:Fea × Nat × List Txt):Nat:=(F6 x.1 x.2.1).l.length
def B8m (x:Fea × Nat × List Txt):Prop:=SmlF x.1/\x.2.1 < x.1.l.length/\x.2.2.length<=100000
def A1q:List Lf->Fea × Nat × List Txt
 | [.n m,.fr g,.i i,_,.o o]=>(A2g o,i.toNat,ofR txF m g)
 | _=>default
theorem F6k (x:Fea × Nat × List Txt) (hx:B8m x) (n:Nat) (hn:n<=D2u x):F3 prog (D5 prog pPu 60) (pPu.blk 89) C4v (sp89b.rho (C3e x n)) (sp89b.heap (C3e x n)) (H9 C7o 9 [])=some (if n < D2u x then (.normal,C3e x (n+1)) else (.exit 2,D7z (B1a x) x)):=by
 obtain ⟨x,i,O⟩:=x
 obtain ⟨h1,hi,hO⟩:=hx
 dsimp only at h1 hi hO
 have hd:=h1.d i hi
 simp only [C3e]
 rw [E8z,I4 hn (show D2u (x,i,O) < 2 ^ 62 by show (F6 x i).l.length < 2 ^ 62; omega)]
 simp only [Int.toNat_natCast,J3 U9,L8]
 by_cases h:n < D2u (x,i,O)
 ·rw [if_pos h]
  simp only [D2u,F6] at h hd
  have hl:=B9f ((F6 x i).l.take n) O
  rw [List.length_take] at hl
  simp only [F6] at hl
  rw [E2c h]
  simp only [F6]
  repeat first
   | exact rfl
   | refine A8 (dT (by omega)) ?_
   | refine A8 rfl ?_
 ·rw [if_neg h]
  simp only [D2u] at h hn
  have e:(F6 x i).l.take n=(F6 x i).l:=List.take_of_length_le (by omega)
  simp only [D7z,B1a,C3e,e]
  simp only [F6] at h ⊢
  repeat first
   | exact rfl
   | refine A8 (dT (by omega)) ?_
   | refine C8 (dF (by omega)) ?_
theorem F9p {A:Amb} (x:Fea × Nat × List Txt) (_hx:B8m x) (Bb:Heap) (hB:Bb.length=9):Wk A Bb ⟨sp89b.rho (B1a x),sp89b.heap (B1a x),[]⟩ ⟨sp89b.rho (C3e x 0),sp89b.heap (C3e x 0),[]⟩:=by
 have _:=hB
 exact Wk.refl
def F8a:Blk:=hookP sp89b 9 [] (itT (C7o (.exit 2)) 2 (.exit 2) A1q B1a D7z B8m)
theorem E5r {A:Amb} {q:Prims} (h0:PrimOK prog A pPu) (hq:PrimOK prog A q):PrimOK prog A (q.addb 89 2 F8a) :=
 SEB.iterK (id:=2) (ds:=[]) (dec:=A1q) (sp0:=sp89b) (sp:=sp89b) (sq:=C7o) (m:=9) (ee:=.exit 2) (L0:=B1a) (L:=C3e) (Le:=D7z) (N:=D2u) (Inv:=B8m) (k:=60) F7 F8 h0 hq func89 (show f89.body=some (f89.body.getD .skip) by kernel_rfl) (body:=C4v) (by kernel_rfl)
  rfl rfl rfl rfl (by simp) (fun _=>⟨.inr rfl,.inr rfl,.inr rfl,.inr rfl,.inr rfl,.inr rfl,.inr rfl,.inr rfl,.inr rfl,trivial⟩) F9p F6k
def pNd1:Prims:=pPu.addb 89 2 F8a
end Go.Proofs.Tryz
namespace Go.Proofs.Tryz
open Go.Ad
theorem C9k (x:Fea) (i:Nat) (O:List Txt):A1q [Lf.n O.length,Lf.fr (A7 txF O),Lf.i i,Lf.i 0,Lf.o (D7 x)]=(x,i,O):=by
 simp [A1q,J3 U9,O3]
theorem G3z {x:Fea} (h:SmlF x) {i:Nat} (hi:i < x.l.length) {O:List Txt} (hO:O.length<=100000):itC B1a A1q B8m [Lf.n O.length,Lf.fr (A7 txF O),Lf.i i,Lf.i 0,Lf.o (D7 x)]=true :=
 X7 (L0:=B1a) (dec:=A1q) (Inv:=B8m) (x:=(x,i,O)) (C9k x i O) ⟨h,hi,hO⟩
def C4u:Code:=I9 (J7 0 (f89.body.getD .skip))
def sp89a:SP:=⟨dr 1++[.is (.ptr (some (8,0)))]++dr 1++[.flist 1]++[.int .i64]++dr 32,dd8++[.any]⟩
def C7n:AEx->SP
 | .exit 0=>⟨dr 1++[.is (.ptr (some (8,0)))]++dr 1++[.flist 1]++dr 33,dd8++[.any]⟩
 | _=>sp89a
theorem E8y (x:Fea) (O:List Txt) (i:Int):F3 prog (D5 prog pNd1 60) (pNd1.blk 89) C4u (sp89a.rho [.n O.length,.fr (A7 txF O),.i i,.o (D7 x)]) (sp89a.heap [.n O.length,.fr (A7 txF O),.i i,.o (D7 x)]) (H9 C7n 9 []) =
  brK (decide (i < (x.l.length:Int))) (brK (itC B1a A1q B8m [Lf.n O.length,Lf.fr (A7 txF O),Lf.i i,Lf.i 0,Lf.o (D7 x)]) (some (.normal,[.n ((A9e (A1q [Lf.n O.length,Lf.fr (A7 txF O),Lf.i i,Lf.i 0,Lf.o (D7 x)]).snd.snd (F6 (A1q [Lf.n O.length,Lf.fr (A7 txF O),Lf.i i,Lf.i 0,Lf.o (D7 x)]).fst (A1q [Lf.n O.length,Lf.fr (A7 txF O),Lf.i i,Lf.i 0,Lf.o (D7 x)]).snd.fst).l).length),.fr (A7 txF (A9e (A1q [Lf.n O.length,Lf.fr (A7 txF O),Lf.i i,Lf.i 0,Lf.o (D7 x)]).snd.snd (F6 (A1q [Lf.n O.length,Lf.fr (A7 txF O),Lf.i i,Lf.i 0,Lf.o (D7 x)]).fst (A1q [Lf.n O.length,Lf.fr (A7 txF O),Lf.i i,Lf.i 0,Lf.o (D7 x)]).snd.fst).l)),.i (W (i+1)),.o (D7 (x))])) none) (some (.exit 0,[.n (O.length),.fr (A7 txF O),.o (D7 (x))])):=by kernel_rfl
def D2q (x:Fea) (n:Nat):List Lf:=[.n (K8 x n).length,.fr (A7 txF (K8 x n)),.i n,.o (D7 x)]
def A9g (x:Fea):List Lf:=[.n 0,.fr fun _=>[],.i 0,.o (D7 x)]
def E2s:List Lf->Fea->List Lf
 | [_,_,_,o],x=>[.n (K8 x x.l.length).length,.fr (A7 txF (K8 x x.l.length)),o]
 | _,_=>[]
def D2t (x:Fea):Nat:=x.l.length
def C2g (x:Fea):Prop:=SmlF x
def A3m:List Lf->Fea
 | [_,_,_,.o o]=>A2g o
 | _=>default
theorem F6j (x:Fea) (hx:C2g x) (n:Nat) (hn:n<=D2t x):F3 prog (D5 prog pNd1 60) (pNd1.blk 89) C4u (sp89a.rho (D2q x n)) (sp89a.heap (D2q x n)) (H9 C7n 9 [])=some (if n < D2t x then (.normal,D2q x (n+1)) else (.exit 0,E2s (A9g x) x)):=by
 have h1:SmlF x:=hx
 have hl:=h1.l
 simp only [D2q]
 rw [E8y,I4 hn (show D2t x < 2 ^ 62 by show x.l.length < 2 ^ 62; omega),C9k]
 by_cases h:n < D2t x
 ·rw [if_pos h,G3z h1 h (by have:=A8b h1 n hn; have:n < x.l.length:=h; omega),<- A8y h]
  exact A8 (dT (Int.ofNat_lt.mpr h)) rfl
 ·rw [if_neg h]
  have e:n=D2t x:=Nat.le_antisymm hn (Nat.le_of_not_lt h)
  subst e
  exact C8 (dF (by unfold D2t; omega)) rfl
theorem F9o {A:Amb} (x:Fea) (_hx:C2g x) (Bb:Heap) (hB:Bb.length=9):Wk A Bb ⟨sp89a.rho (A9g x),sp89a.heap (A9g x),[]⟩ ⟨sp89a.rho (D2q x 0),sp89a.heap (D2q x 0),[]⟩:=by
 have _:=hB
 exact Wk.temps (E2w (i:=3) (a:=.flist 0 (fun _=>[]) 1) (a':=.flist (K8 x 0).length (A7 txF (K8 x 0)) 1) rfl D8e)
def F7z:Blk:=hookP sp89a 9 [] (itT (C7n (.exit 0)) 0 (.exit 0) A3m A9g E2s C2g)
theorem E5q {A:Amb} {q:Prims} (h0:PrimOK prog A pNd1) (hq:PrimOK prog A q):PrimOK prog A (q.addb 89 0 F7z) :=
 SEB.iterK (id:=0) (ds:=[]) (dec:=A3m) (sp0:=sp89a) (sp:=sp89a) (sq:=C7n) (m:=9) (ee:=.exit 0) (L0:=A9g) (L:=D2q) (Le:=E2s) (N:=D2t) (Inv:=C2g) (k:=60) F7 F8 h0 hq func89 (show f89.body=some (f89.body.getD .skip) by kernel_rfl) (body:=C4u) (by kernel_rfl)
  rfl rfl rfl rfl (by simp) (fun _=>⟨.inr rfl,.inr rfl,.inr rfl,.inr rfl,.inr rfl,.inr rfl,.inr rfl,.inr rfl,.inr rfl,trivial⟩) F9o F6j
end Go.Proofs.Tryz
namespace Go.Proofs.Tryz
open Go.Ad
def G4n:Prims:=pNd1.addb 89 0 F7z
def VNd (x:Fea):Tr AV:=.br (D8 (SmlF x)) (.leaf (V7 (K8 x x.l.length))) .fail
end Go.Proofs.Tryz
namespace Go.Proofs.Tryz
open Go.Ad
theorem G6d (x:Fea):(D5 prog G4n 60).call 89 [.agg x.av] (Bg 8) F9 =
  brK (itC A9g A3m C2g [Lf.n 0,Lf.fr fun x=>[],Lf.i 0,Lf.o (D7 x)]) (some (.flist (((K8 (A3m [Lf.n 0,Lf.fr fun x=>[],Lf.i 0,Lf.o (D7 x)]) (A3m [Lf.n 0,Lf.fr fun x=>[],Lf.i 0,Lf.o (D7 x)]).l.length)).length) (fun i=>txF ((K8 (A3m [Lf.n 0,Lf.fr fun x=>[],Lf.i 0,Lf.o (D7 x)]) (A3m [Lf.n 0,Lf.fr fun x=>[],Lf.i 0,Lf.o (D7 x)]).l.length).getD i default)) 1)) none:=by kernel_rfl
theorem C9j (x:Fea):A3m (A9g x)=x:=by simp [A3m,A9g,O3]
def pNd:Prims:=pPu.addt 89 (R6 A1b VNd)
theorem F4h {A:Amb} (hT:Tab A) (hG:gN prog<=A.G):PrimOK prog A G4n:=by
 have h0:=E7s hT hG
 have h1:PrimOK prog A pNd1:=E5r h0 h0
 exact E5q h1 h1
theorem G0x {A:Amb} (hT:Tab A) (hG:gN prog<=A.G):PrimOK prog A pNd:=by
 refine J5 hG (F4h hT hG) (E7s hT hG) A1b VNd func89 (by kernel_rfl) fun x v hv=>?_
 obtain ⟨hz,hv⟩:=Tr.br1 hv
 cases hv
 have hz:=J4 hz
 refine ⟨_,(G6d x).trans (A8 (X7 (C9j x) (show C2g x from hz)) rfl),?_,?_⟩
 ·rfl
 ·intro ι y hy
  have h2:VR ι (V7 (K8 (A3m (A9g x)) (A3m (A9g x)).l.length)) y:=hy
  rw [C9j] at h2
  exact h2
end Go.Proofs.Tryz
namespace Go.Proofs.Tryz
open Go.Ad
def nbR (d:Drw) (s:Txt):List Txt:=K8 (D9 d (E5 d s).toNat) (D9 d (E5 d s).toNat).l.length
theorem A6s {o:List Txt} {l:List Txt} {n:Nat} (h:n < l.length):(l.take (n+1)).foldl P5 o=P5 ((l.take n).foldl P5 o) (l.getD n default):=by
 rw [List.take_succ_eq_append_getElem h,List.foldl_append,List.getD_eq_getElem?_getD,List.getElem?_eq_getElem h]
 rfl
theorem V5:∀ (l o:List Txt),(l.foldl P5 o).length<=o.length+l.length
 | [],o=>by simp
 | y :: l,o=>by
  have h1:=V5 l (P5 o y)
  have h2:=D1o o y
  rw [List.foldl_cons]
  simp only [List.length_cons]; omega
abbrev β51:=List Txt × List Txt × Int × Nat × (Nat->List FV) × Int × Drw
end Go.Proofs.Tryz
namespace Go.Proofs.Tryz
open Go.Ad
def C4s:Code:=I9 (J7 4 (f51.body.getD .skip))
def sp51c:SP:=⟨dr 2++[.is (.ptr (some (8,0)))]++dr 2++[.flist 1]++[.int .i64]++[.flist 1]++[.int .i64]++[.flist 1]++[.int .i64]++dr 46,dd8++[.any]⟩
def C7l:AEx->SP
 | .exit 4=>⟨dr 2++[.is (.ptr (some (8,0)))]++dr 2++[.flist 1]++[.int .i64]++[.flist 1]++[.int .i64]++dr 48,dd8++[.any]⟩
 | _=>sp51c
theorem E8w (O M:List Txt) (r i n:Int) (m:Nat) (g:Nat->List FV) (d:Drw):F3 prog (D5 prog pNd 60) (pNd.blk 51) C4s (sp51c.rho [.n O.length,.fr (A7 txF O),.i r,.n m,.fr g,.i i,.n M.length,.fr (A7 txF M),.i n,.o (A9 d)]) (sp51c.heap [.n O.length,.fr (A7 txF O),.i r,.n m,.fr g,.i i,.n M.length,.fr (A7 txF M),.i n,.o (A9 d)]) (H9 C7l 9 []) =
  brK (decide (n < (M.length:Int))) (brK (decide (0<=n/\n < (M.length:Int))) (brK (D8 (okR txF O.length (A7 txF O))) (brK (decide ((ofR txF O.length (A7 txF O)).length<=1000000)) (some (.normal,[.n ((P5 (ofR txF O.length (A7 txF O)) (M.getD n.toNat default)).length),.fr (A7 txF (P5 (ofR txF O.length (A7 txF O)) (M.getD n.toNat default))),.i (r),.n (m),.fr (g),.i (i),.n (M.length),.fr (A7 txF M),.i (W (n+1)),.o (A9 d)])) none) none) none) (some (.exit 4,[.n (O.length),.fr (A7 txF O),.i (r),.n (m),.fr (g),.i (i),.o (A9 d)])):=by kernel_rfl
def C3d (x:β51) (n:Nat):List Lf:=[.n ((x.2.1.take n).foldl P5 x.1).length,.fr (A7 txF ((x.2.1.take n).foldl P5 x.1)),.i x.2.2.1,.n x.2.2.2.1,.fr x.2.2.2.2.1,.i x.2.2.2.2.2.1,.n x.2.1.length,.fr (A7 txF x.2.1),.i n,.o (A9 x.2.2.2.2.2.2)]
def B0z (x:β51):List Lf:=C3d x 0
def D7x:List Lf->β51->List Lf
 | [_,_,r,m,g,i,_,_,_,o],x=>[.n (x.2.1.foldl P5 x.1).length,.fr (A7 txF (x.2.1.foldl P5 x.1)),r,m,g,i,o]
 | _,_=>[]
def D2s (x:β51):Nat:=x.2.1.length
def B8l (x:β51):Prop:=x.1.length<=900000/\x.2.1.length<=10000
def A2l:List Lf->β51
 | [.n a,.fr b,.i r,.n m,.fr g,.i i,.n c,.fr e,_,.o o]=>(ofR txF a b,ofR txF c e,r,m,g,i,I1 o)
 | _=>([],[],0,0,fun _=>[],0,default)
theorem F6h (x:β51) (hx:B8l x) (n:Nat) (hn:n<=D2s x):F3 prog (D5 prog pNd 60) (pNd.blk 51) C4s (sp51c.rho (C3d x n)) (sp51c.heap (C3d x n)) (H9 C7l 9 [])=some (if n < D2s x then (.normal,C3d x (n+1)) else (.exit 4,D7x (B0z x) x)):=by
 obtain ⟨O,M,r,m,g,i,d⟩:=x
 obtain ⟨h1,h2⟩:=hx
 dsimp only at h1 h2
 simp only [C3d]
 rw [E8w,I4 hn (show D2s (O,M,r,m,g,i,d) < 2 ^ 62 by show M.length < 2 ^ 62; omega)]
 simp only [Int.toNat_natCast,J3 U9,L8]
 by_cases h:n < D2s (O,M,r,m,g,i,d)
 ·rw [if_pos h]
  simp only [D2s] at h
  have hl:=V5 (M.take n) O
  rw [List.length_take] at hl
  rw [A6s h]
  refine A8 (dT (by omega)) (A8 (dT (by omega)) (A8 rfl ?_))
  exact A8 (dT (by omega)) rfl
 ·rw [if_neg h]
  simp only [D2s] at h hn
  have e:M.take n=M:=List.take_of_length_le (by omega)
  simp only [D7x,B0z,C3d,e]
  exact C8 (dF (by omega)) rfl
theorem F9l {A:Amb} (x:β51) (_hx:B8l x) (Bb:Heap) (hB:Bb.length=9):Wk A Bb ⟨sp51c.rho (B0z x),sp51c.heap (B0z x),[]⟩ ⟨sp51c.rho (C3d x 0),sp51c.heap (C3d x 0),[]⟩:=by
 have _:=hB
 exact Wk.refl
def F7w:Blk:=hookP sp51c 9 [] (itT (C7l (.exit 4)) 4 (.exit 4) A2l B0z D7x B8l)
theorem E5n {A:Amb} {q:Prims} (h0:PrimOK prog A pNd) (hq:PrimOK prog A q):PrimOK prog A (q.addb 51 4 F7w) :=
 SEB.iterK (id:=4) (ds:=[]) (dec:=A2l) (sp0:=sp51c) (sp:=sp51c) (sq:=C7l) (m:=9) (ee:=.exit 4) (L0:=B0z) (L:=C3d) (Le:=D7x) (N:=D2s) (Inv:=B8l) (k:=60) F7 F8 h0 hq func51 (show f51.body=some (f51.body.getD .skip) by kernel_rfl) (body:=C4s) (by kernel_rfl)
  rfl rfl rfl rfl (by simp) (fun _=>⟨.inr rfl,.inr rfl,.inr rfl,.inr rfl,.inr rfl,.inr rfl,.inr rfl,.inr rfl,.inr rfl,trivial⟩) F9l F6h
theorem G3x {O M:List Txt} (h1:O.length<=900000) (h2:M.length<=10000) (r:Int) (m:Nat) (g:Nat->List FV) (i:Int) (d:Drw):A2l [Lf.n O.length,Lf.fr (A7 txF O),Lf.i r,Lf.n m,Lf.fr g,Lf.i i,Lf.n M.length,Lf.fr (A7 txF M),Lf.i 0,Lf.o (A9 d)]=(O,M,r,m,g,i,d)/\itC B0z A2l B8l [Lf.n O.length,Lf.fr (A7 txF O),Lf.i r,Lf.n m,Lf.fr g,Lf.i i,Lf.n M.length,Lf.fr (A7 txF M),Lf.i 0,Lf.o (A9 d)]=true :=
 have e:A2l [Lf.n O.length,Lf.fr (A7 txF O),Lf.i r,Lf.n m,Lf.fr g,Lf.i i,Lf.n M.length,Lf.fr (A7 txF M),Lf.i 0,Lf.o (A9 d)]=(O,M,r,m,g,i,d):=by simp [A2l,J3 U9,E8]
 ⟨e,X7 (L0:=B0z) (dec:=A2l) (Inv:=B8l) (x:=(O,M,r,m,g,i,d)) e ⟨h1,h2⟩⟩
def pNe1:Prims:=pNd.addb 51 4 F7w
end Go.Proofs.Tryz
namespace Go.Proofs.Tryz
open Go.Ad
def H7 (d:Drw):List Txt:=d.l.map (·.s)
theorem G3t {d:Drw} {s:Txt}:0<=E5 d s ↔ s ∈ H7 d:=by
 unfold E5 D5c H7
 rw [List.mem_map]
 constructor
 ·intro h
  split at h
  ·omega
  ·rename_i hne
   have hlt:A2e (A6g d s) d.l.length < d.l.length:=by have:=B5h (p:=A6g d s) (N:=d.l.length); omega
   have this:((d.l.getD (A2e (A6g d s) d.l.length) default).s == s)=true:=C5l (p:=A6g d s) (N:=d.l.length) hlt
   rw [List.getD_eq_getElem?_getD,List.getElem?_eq_getElem hlt] at this
   exact ⟨_,List.getElem_mem hlt,eq_of_beq this⟩
 ·rintro ⟨f,hf,rfl⟩
  obtain ⟨i,hi,rfl⟩:=List.getElem_of_mem hf
  split
  ·rename_i he
   have this:((d.l.getD i default).s == d.l[i].s)=false:=A7q (p:=A6g d d.l[i].s) (N:=d.l.length) (i:=i) (by omega)
   rw [List.getD_eq_getElem?_getD,List.getElem?_eq_getElem hi] at this
   simp at this
  ·omega
structure GrD (d:Drw):Prop where
 len:d.l.length<=64
 sml:∀ i,i < d.l.length->SmlF (D9 d i)
 ix:∀ i,i < d.l.length->∀ y,y ∈ K8 (D9 d i) (D9 d i).l.length->y ∈ H7 d
theorem D9b {d:Drw} (h:GrD d) {s:Txt} (hs:s ∈ H7 d):(nbR d s).length<=10000:=by
 have hi:=A0h d s
 have h0:=G3t.2 hs
 have h1:=h.sml (E5 d s).toNat (by omega)
 have h2:=A8b h1 _ (Nat.le_refl _)
 have h3:=h1.l
 unfold nbR
 omega
theorem D5k {d:Drw} (h:GrD d) {s:Txt} (hs:s ∈ H7 d):∀ y,y ∈ nbR d s->y ∈ H7 d:=by
 have hi:=A0h d s
 have h0:=G3t.2 hs
 exact h.ix _ (by omega)
def B0n (d:Drw) (l:List Txt) (n:Nat) (o:List Txt):List Txt:=(l.take n).foldl (fun o x=>(nbR d x).foldl P5 o) o
theorem C2s {d:Drw} {l:List Txt} {n:Nat} {o:List Txt} (h:n < l.length):B0n d l (n+1) o=(nbR d (l.getD n default)).foldl P5 (B0n d l n o):=by
 unfold B0n
 rw [List.take_succ_eq_append_getElem h,List.foldl_append,List.getD_eq_getElem?_getD,List.getElem?_eq_getElem h]
 rfl
theorem B2z {l:List Txt} {n:Nat} (h:n < l.length):l.getD n default ∈ l:=by
 rw [List.getD_eq_getElem?_getD,List.getElem?_eq_getElem h]
 exact List.getElem_mem h
theorem D1x {d:Drw} (h:GrD d) {l:List Txt} (hl:∀ y,y ∈ l->y ∈ H7 d) (o:List Txt):∀ n,n<=l.length->(B0n d l n o).length<=o.length+10000*n
 | 0,_=>by simp [B0n]
 | n+1,hn=>by
  rw [C2s (by omega)]
  have h1:=D1x h hl o n (by omega)
  have h2:=D9b h (hl _ (B2z (show n < l.length by omega)))
  have h3:=V5 (nbR d (l.getD n default)) (B0n d l n o)
  omega
def C4r:Code:=I9 (J7 2 (f51.body.getD .skip))
def sp51b:SP:=⟨dr 2++[.is (.ptr (some (8,0)))]++dr 2++[.flist 1]++[.int .i64]++[.flist 1]++[.int .i64]++dr 48,dd8++[.any]⟩
def C7k:AEx->SP
 | .exit 2=>⟨dr 2++[.is (.ptr (some (8,0)))]++dr 2++[.flist 1]++[.int .i64]++dr 50,dd8++[.any]⟩
 | _=>sp51b
theorem E8v (d:Drw) (O M:List Txt) (r i:Int):F3 prog (D5 prog pNe1 60) (pNe1.blk 51) C4r (sp51b.rho [.n O.length,.fr (A7 txF O),.i r,.n M.length,.fr (A7 txF M),.i i,.o (A9 d)]) (sp51b.heap [.n O.length,.fr (A7 txF O),.i r,.n M.length,.fr (A7 txF M),.i i,.o (A9 d)]) (H9 C7k 9 []) =
  brK (decide (i < (M.length:Int))) (brK (decide (0<=i/\i < (M.length:Int))) (brK (D8 (okR Fea.fv d.l.length (A7 Fea.fv d.l)) && D8 (okR Dim.fv d.m.length (A7 Dim.fv d.m))) (brK (decide ((ofR Fea.fv d.l.length (A7 Fea.fv d.l)).length < 4611686018427387904)) (brK (decide (0<=E5 (drE d) (M.getD i.toNat default)/\E5 (drE d) (M.getD i.toNat default) < (d.l.length:Int))) (brK (D8 (okR Frm.fv (d.l.getD (E5 (drE d) (M.getD i.toNat default)).toNat default).l.length (A7 Frm.fv (d.l.getD (E5 (drE d) (M.getD i.toNat default)).toNat default).l))) (brK (D8 (SmlF (feE (d.l.getD (E5 (drE d) (M.getD i.toNat default)).toNat default)))) (brK (itC B0z A2l B8l [Lf.n O.length,Lf.fr (A7 txF O),Lf.i r,Lf.n M.length,Lf.fr (A7 txF M),Lf.i i,Lf.n (K8 (feE (d.l.getD (E5 (drE d) (M.getD i.toNat default)).toNat default)) (ofR Frm.fv (d.l.getD (E5 (drE d) (M.getD i.toNat default)).toNat default).l.length (A7 Frm.fv (d.l.getD (E5 (drE d) (M.getD i.toNat default)).toNat default).l)).length).length,Lf.fr (A7 txF (K8 (feE (d.l.getD (E5 (drE d) (M.getD i.toNat default)).toNat default)) (ofR Frm.fv (d.l.getD (E5 (drE d) (M.getD i.toNat default)).toNat default).l.length (A7 Frm.fv (d.l.getD (E5 (drE d) (M.getD i.toNat default)).toNat default).l)).length)),Lf.i 0,Lf.o (A9 d)]) (some (.normal,[.n ((List.foldl P5 (A2l [Lf.n O.length,Lf.fr (A7 txF O),Lf.i r,Lf.n M.length,Lf.fr (A7 txF M),Lf.i i,Lf.n (K8 (feE (d.l.getD (E5 (drE d) (M.getD i.toNat default)).toNat default)) (ofR Frm.fv (d.l.getD (E5 (drE d) (M.getD i.toNat default)).toNat default).l.length (A7 Frm.fv (d.l.getD (E5 (drE d) (M.getD i.toNat default)).toNat default).l)).length).length,Lf.fr (A7 txF (K8 (feE (d.l.getD (E5 (drE d) (M.getD i.toNat default)).toNat default)) (ofR Frm.fv (d.l.getD (E5 (drE d) (M.getD i.toNat default)).toNat default).l.length (A7 Frm.fv (d.l.getD (E5 (drE d) (M.getD i.toNat default)).toNat default).l)).length)),Lf.i 0,Lf.o (A9 d)]).fst (A2l [Lf.n O.length,Lf.fr (A7 txF O),Lf.i r,Lf.n M.length,Lf.fr (A7 txF M),Lf.i i,Lf.n (K8 (feE (d.l.getD (E5 (drE d) (M.getD i.toNat default)).toNat default)) (ofR Frm.fv (d.l.getD (E5 (drE d) (M.getD i.toNat default)).toNat default).l.length (A7 Frm.fv (d.l.getD (E5 (drE d) (M.getD i.toNat default)).toNat default).l)).length).length,Lf.fr (A7 txF (K8 (feE (d.l.getD (E5 (drE d) (M.getD i.toNat default)).toNat default)) (ofR Frm.fv (d.l.getD (E5 (drE d) (M.getD i.toNat default)).toNat default).l.length (A7 Frm.fv (d.l.getD (E5 (drE d) (M.getD i.toNat default)).toNat default).l)).length)),Lf.i 0,Lf.o (A9 d)]).snd.fst).length),.fr (A7 txF (List.foldl P5 (A2l [Lf.n O.length,Lf.fr (A7 txF O),Lf.i r,Lf.n M.length,Lf.fr (A7 txF M),Lf.i i,Lf.n (K8 (feE (d.l.getD (E5 (drE d) (M.getD i.toNat default)).toNat default)) (ofR Frm.fv (d.l.getD (E5 (drE d) (M.getD i.toNat default)).toNat default).l.length (A7 Frm.fv (d.l.getD (E5 (drE d) (M.getD i.toNat default)).toNat default).l)).length).length,Lf.fr (A7 txF (K8 (feE (d.l.getD (E5 (drE d) (M.getD i.toNat default)).toNat default)) (ofR Frm.fv (d.l.getD (E5 (drE d) (M.getD i.toNat default)).toNat default).l.length (A7 Frm.fv (d.l.getD (E5 (drE d) (M.getD i.toNat default)).toNat default).l)).length)),Lf.i 0,Lf.o (A9 d)]).fst (A2l [Lf.n O.length,Lf.fr (A7 txF O),Lf.i r,Lf.n M.length,Lf.fr (A7 txF M),Lf.i i,Lf.n (K8 (feE (d.l.getD (E5 (drE d) (M.getD i.toNat default)).toNat default)) (ofR Frm.fv (d.l.getD (E5 (drE d) (M.getD i.toNat default)).toNat default).l.length (A7 Frm.fv (d.l.getD (E5 (drE d) (M.getD i.toNat default)).toNat default).l)).length).length,Lf.fr (A7 txF (K8 (feE (d.l.getD (E5 (drE d) (M.getD i.toNat default)).toNat default)) (ofR Frm.fv (d.l.getD (E5 (drE d) (M.getD i.toNat default)).toNat default).l.length (A7 Frm.fv (d.l.getD (E5 (drE d) (M.getD i.toNat default)).toNat default).l)).length)),Lf.i 0,Lf.o (A9 d)]).snd.fst)),.i (r),.n (M.length),.fr (A7 txF M),.i (W (i+1)),.o (A9 d)])) none) none) none) none) none) none) none) (some (.exit 2,[.n (O.length),.fr (A7 txF O),.i (r),.o (A9 d)])):=by kernel_rfl
def C7w (x:Drw × List Txt × List Txt × Int) (n:Nat):List Lf:=[.n (B0n x.1 x.2.2.1 n x.2.1).length,.fr (A7 txF (B0n x.1 x.2.2.1 n x.2.1)),.i x.2.2.2,.n x.2.2.1.length,.fr (A7 txF x.2.2.1),.i n,.o (A9 x.1)]
def B3r (x:Drw × List Txt × List Txt × Int):List Lf:=C7w x 0
def E2q:List Lf->(Drw × List Txt × List Txt × Int)->List Lf
 | [_,_,r,_,_,_,o],x=>[.n (B0n x.1 x.2.2.1 x.2.2.1.length x.2.1).length,.fr (A7 txF (B0n x.1 x.2.2.1 x.2.2.1.length x.2.1)),r,o]
 | _,_=>[]
def C8d (x:Drw × List Txt × List Txt × Int):Nat:=x.2.2.1.length
def B8k (x:Drw × List Txt × List Txt × Int):Prop:=GrD x.1/\(∀ y,y ∈ x.2.2.1->y ∈ H7 x.1)/\x.2.2.1.length<=64/\x.2.1.length<=64
def A0a:List Lf->Drw × List Txt × List Txt × Int
 | [.n a,.fr b,.i r,.n m,.fr g,_,.o o]=>(I1 o,ofR txF a b,ofR txF m g,r)
 | _=>(default,[],[],0)
theorem F6g (x:Drw × List Txt × List Txt × Int) (hx:B8k x) (n:Nat) (hn:n<=C8d x):F3 prog (D5 prog pNe1 60) (pNe1.blk 51) C4r (sp51b.rho (C7w x n)) (sp51b.heap (C7w x n)) (H9 C7k 9 [])=some (if n < C8d x then (.normal,C7w x (n+1)) else (.exit 2,E2q (B3r x) x)):=by
 obtain ⟨d,O,M,r⟩:=x
 obtain ⟨h1,h2,h3,h4⟩:=hx
 dsimp only at h1 h2 h3 h4
 have hl:=h1.len
 simp only [C7w]
 rw [E8v,I4 hn (show C8d (d,O,M,r) < 2 ^ 62 by show M.length < 2 ^ 62; omega)]
 simp only [Int.toNat_natCast,L8,Bool.and_self,Y9,A7p,J3 Fea.inj,J3 Frm.inj]
 by_cases h:n < C8d (d,O,M,r)
 ·rw [if_pos h]
  simp only [C8d] at h
  have hy:=h2 (M.getD n default) (B2z h)
  have h0:=G3t.2 hy
  have hi:=A0h d (M.getD n default)
  have hsm:=h1.sml (E5 d (M.getD n default)).toNat (by omega)
  have hlen:=D1x h1 h2 O n (by omega)
  have hmo:=D9b h1 hy
  obtain ⟨e,hit⟩:=G3x (O:=B0n d M n O) (M:=nbR d (M.getD n default)) (by omega) hmo r M.length (A7 txF M) n d
  refine A8 (dT (by omega)) (A8 (dT (by omega)) (A8 rfl (A8 (dT (by omega)) (A8 (dT (by omega)) (A8 rfl (A8 (D6 hsm) (A8 hit ?_)))))))
  rw [C2s h]
  simp only [nbR,D9] at e ⊢
  rw [e]
 ·rw [if_neg h]
  have e:n=C8d (d,O,M,r):=Nat.le_antisymm hn (Nat.le_of_not_lt h)
  subst e
  exact C8 (dF (by unfold C8d; dsimp only; omega)) rfl
theorem F9k {A:Amb} (x:Drw × List Txt × List Txt × Int) (_hx:B8k x) (Bb:Heap) (hB:Bb.length=9):Wk A Bb ⟨sp51b.rho (B3r x),sp51b.heap (B3r x),[]⟩ ⟨sp51b.rho (C7w x 0),sp51b.heap (C7w x 0),[]⟩:=by
 have _:=hB
 exact Wk.refl
def F7v:Blk:=hookP sp51b 9 [] (itT (C7k (.exit 2)) 2 (.exit 2) A0a B3r E2q B8k)
theorem E5m {A:Amb} {q:Prims} (h0:PrimOK prog A pNe1) (hq:PrimOK prog A q):PrimOK prog A (q.addb 51 2 F7v) :=
 SEB.iterK (id:=2) (ds:=[]) (dec:=A0a) (sp0:=sp51b) (sp:=sp51b) (sq:=C7k) (m:=9) (ee:=.exit 2) (L0:=B3r) (L:=C7w) (Le:=E2q) (N:=C8d) (Inv:=B8k) (k:=60) F7 F8 h0 hq func51 (show f51.body=some (f51.body.getD .skip) by kernel_rfl) (body:=C4r) (by kernel_rfl)
  rfl rfl rfl rfl (by simp) (fun _=>⟨.inr rfl,.inr rfl,.inr rfl,.inr rfl,.inr rfl,.inr rfl,.inr rfl,.inr rfl,.inr rfl,trivial⟩) F9k F6g
theorem G3w {d:Drw} {O M:List Txt} (h1:GrD d) (h2:∀ y,y ∈ M->y ∈ H7 d) (h3:M.length<=64) (h4:O.length<=64) (r:Int):A0a [Lf.n O.length,Lf.fr (A7 txF O),Lf.i r,Lf.n M.length,Lf.fr (A7 txF M),Lf.i 0,Lf.o (A9 d)]=(d,O,M,r)/\itC B3r A0a B8k [Lf.n O.length,Lf.fr (A7 txF O),Lf.i r,Lf.n M.length,Lf.fr (A7 txF M),Lf.i 0,Lf.o (A9 d)]=true :=
 have e:A0a [Lf.n O.length,Lf.fr (A7 txF O),Lf.i r,Lf.n M.length,Lf.fr (A7 txF M),Lf.i 0,Lf.o (A9 d)]=(d,O,M,r):=by simp [A0a,J3 U9,E8]
 ⟨e,X7 (L0:=B3r) (dec:=A0a) (Inv:=B8k) (x:=(d,O,M,r)) e ⟨h1,h2,h3,h4⟩⟩
def pNe2:Prims:=pNe1.addb 51 2 F7v
theorem E8f (d:Drw) (o:List Txt):B0n d o o.length o=B5c (nbR d) o:=by unfold B0n B5c; rw [List.take_length]
theorem B0o (nb:Txt->List Txt):∀ (n:Nat) (o:List Txt),X8 nb (n+1) o=B5c nb (X8 nb n o)
 | 0,_=>rfl
 | n+1,o=>by rw [X8,B0o nb n,X8]
theorem D9n {d:Drw} (h:GrD d) {o:List Txt} (ho:SS o) (hn:∀ y,y ∈ o->y ∈ H7 d):∀ n,SS (X8 (nbR d) n o)/\∀ y,y ∈ X8 (nbR d) n o->y ∈ H7 d
 | 0=>⟨ho,hn⟩
 | n+1=>by
  obtain ⟨h1,h2⟩:=D9n h ho hn n
  rw [B0o]
  obtain ⟨q1,q2⟩:=A5k (nbR d) (X8 (nbR d) n o) _ h1
  refine ⟨q1,fun y hy=>?_⟩
  rcases (q2 y).1 hy with q | ⟨x,q,q3⟩
  ·exact h2 y q
  ·exact D5k h (h2 x q) y q3
theorem G1y {d:Drw} (h:GrD d) {o:List Txt} (ho:SS o) (hn:∀ y,y ∈ o->y ∈ H7 d):o.length<=64:=by
 have:=A5i ho.nodup hn
 have h2:=h.len
 unfold H7 at this
 rw [List.length_map] at this
 omega
end Go.Proofs.Tryz
namespace Go.Proofs.Tryz
open Go.Ad
def C4q:Code:=I9 (J7 0 (f51.body.getD .skip))
def sp51a:SP:=⟨dr 2++[.is (.ptr (some (8,0)))]++dr 2++[.flist 1]++[.int .i64]++dr 50,dd8++[.any]⟩
def C7j:AEx->SP
 | .exit 0=>⟨dr 5++[.flist 1]++dr 51,dd8++[.any]⟩
 | _=>sp51a
theorem E8u (d:Drw) (O:List Txt) (r:Int):F3 prog (D5 prog pNe2 60) (pNe2.blk 51) C4q (sp51a.rho [.n O.length,.fr (A7 txF O),.i r,.o (A9 d)]) (sp51a.heap [.n O.length,.fr (A7 txF O),.i r,.o (A9 d)]) (H9 C7j 9 []) =
  brK (decide (r < (d.l.length:Int))) (brK (itC B3r A0a B8k [Lf.n O.length,Lf.fr (A7 txF O),Lf.i r,Lf.n O.length,Lf.fr (A7 txF O),Lf.i 0,Lf.o (A9 d)]) (some (.normal,[.n ((B0n (A0a [Lf.n O.length,Lf.fr (A7 txF O),Lf.i r,Lf.n O.length,Lf.fr (A7 txF O),Lf.i 0,Lf.o (A9 d)]).fst (A0a [Lf.n O.length,Lf.fr (A7 txF O),Lf.i r,Lf.n O.length,Lf.fr (A7 txF O),Lf.i 0,Lf.o (A9 d)]).snd.snd.fst (A0a [Lf.n O.length,Lf.fr (A7 txF O),Lf.i r,Lf.n O.length,Lf.fr (A7 txF O),Lf.i 0,Lf.o (A9 d)]).snd.snd.fst.length (A0a [Lf.n O.length,Lf.fr (A7 txF O),Lf.i r,Lf.n O.length,Lf.fr (A7 txF O),Lf.i 0,Lf.o (A9 d)]).snd.fst).length),.fr (A7 txF (B0n (A0a [Lf.n O.length,Lf.fr (A7 txF O),Lf.i r,Lf.n O.length,Lf.fr (A7 txF O),Lf.i 0,Lf.o (A9 d)]).fst (A0a [Lf.n O.length,Lf.fr (A7 txF O),Lf.i r,Lf.n O.length,Lf.fr (A7 txF O),Lf.i 0,Lf.o (A9 d)]).snd.snd.fst (A0a [Lf.n O.length,Lf.fr (A7 txF O),Lf.i r,Lf.n O.length,Lf.fr (A7 txF O),Lf.i 0,Lf.o (A9 d)]).snd.snd.fst.length (A0a [Lf.n O.length,Lf.fr (A7 txF O),Lf.i r,Lf.n O.length,Lf.fr (A7 txF O),Lf.i 0,Lf.o (A9 d)]).snd.fst)),.i (W (r+1)),.o (A9 d)])) none) (some (.exit 0,[.n (O.length),.fr (A7 txF O),.o (A9 d)])):=by kernel_rfl
def C7v (x:Drw × List Txt) (n:Nat):List Lf:=[.n (X8 (nbR x.1) n x.2).length,.fr (A7 txF (X8 (nbR x.1) n x.2)),.i n,.o (A9 x.1)]
def B3q (x:Drw × List Txt):List Lf:=C7v x 0
def E2p:List Lf->(Drw × List Txt)->List Lf
 | [_,_,_,o],x=>[.n (X8 (nbR x.1) x.1.l.length x.2).length,.fr (A7 txF (X8 (nbR x.1) x.1.l.length x.2)),o]
 | _,_=>[]
def C8c (x:Drw × List Txt):Nat:=x.1.l.length
def B8j (x:Drw × List Txt):Prop:=GrD x.1/\SS x.2/\(∀ y,y ∈ x.2->y ∈ H7 x.1)
def A1p:List Lf->Drw × List Txt
 | [.n a,.fr b,_,.o o]=>(I1 o,ofR txF a b)
 | _=>(default,[])
theorem F6f (x:Drw × List Txt) (hx:B8j x) (n:Nat) (hn:n<=C8c x):F3 prog (D5 prog pNe2 60) (pNe2.blk 51) C4q (sp51a.rho (C7v x n)) (sp51a.heap (C7v x n)) (H9 C7j 9 [])=some (if n < C8c x then (.normal,C7v x (n+1)) else (.exit 0,E2p (B3q x) x)):=by
 obtain ⟨d,O⟩:=x
 obtain ⟨h1,h2,h3⟩:=hx
 dsimp only at h1 h2 h3
 have hl:=h1.len
 simp only [C7v]
 rw [E8u,I4 hn (show C8c (d,O) < 2 ^ 62 by show d.l.length < 2 ^ 62; omega)]
 obtain ⟨q1,q2⟩:=D9n h1 h2 h3 n
 have hlen:=G1y h1 q1 q2
 obtain ⟨e,hit⟩:=G3w h1 q2 hlen hlen n
 rw [e]
 by_cases h:n < C8c (d,O)
 ·rw [if_pos h,B0o,<- E8f]
  simp only [C8c] at h
  exact A8 (dT (by omega)) (A8 hit rfl)
 ·rw [if_neg h]
  have e:n=C8c (d,O):=Nat.le_antisymm hn (Nat.le_of_not_lt h)
  subst e
  exact C8 (dF (by unfold C8c; dsimp only; omega)) rfl
theorem F9j {A:Amb} (x:Drw × List Txt) (_hx:B8j x) (Bb:Heap) (hB:Bb.length=9):Wk A Bb ⟨sp51a.rho (B3q x),sp51a.heap (B3q x),[]⟩ ⟨sp51a.rho (C7v x 0),sp51a.heap (C7v x 0),[]⟩:=by
 have _:=hB
 exact Wk.refl
def F7u:Blk:=hookP sp51a 9 [] (itT (C7j (.exit 0)) 0 (.exit 0) A1p B3q E2p B8j)
theorem E5l {A:Amb} {q:Prims} (h0:PrimOK prog A pNe2) (hq:PrimOK prog A q):PrimOK prog A (q.addb 51 0 F7u) :=
 SEB.iterK (id:=0) (ds:=[]) (dec:=A1p) (sp0:=sp51a) (sp:=sp51a) (sq:=C7j) (m:=9) (ee:=.exit 0) (L0:=B3q) (L:=C7v) (Le:=E2p) (N:=C8c) (Inv:=B8j) (k:=60) F7 F8 h0 hq func51 (show f51.body=some (f51.body.getD .skip) by kernel_rfl) (body:=C4q) (by kernel_rfl)
  rfl rfl rfl rfl (by simp) (fun _=>⟨.inr rfl,.inr rfl,.inr rfl,.inr rfl,.inr rfl,.inr rfl,.inr rfl,.inr rfl,.inr rfl,trivial⟩) F9j F6f
def G4o:Prims:=pNe2.addb 51 0 F7u
end Go.Proofs.Tryz
namespace Go.Proofs.Tryz
open Go.Ad
theorem C6m (x:Fea):∀ n,n<=x.l.length->SS (K8 x n)
 | 0,_=>by unfold K8 SS; simp
 | n+1,hn=>by
  rw [A8y (by omega)]
  have h:=C6m x n (by omega)
  revert h
  generalize K8 x n=o
  unfold A9e
  generalize (F6 x n).l=l
  intro h
  have e:l.foldl (fun o y=>P5 o y.s) o=(l.map (·.s)).foldl P5 o:=by rw [List.foldl_map]
  rw [e]
  exact (A2x h).1
theorem D5j (d:Drw) (s:Txt):SS (nbR d s):=C6m _ _ (Nat.le_refl _)
def M9 (d:Drw) (s:Txt):List Txt:=X8 (nbR d) d.l.length (nbR d s)
theorem G5x (d:Drw) (s:List UInt8):(D5 prog G4o 60).call 51 [.agg d.av,.sstr s] (Bg 8) F9 =
  brK (D8 (okR Fea.fv d.l.length (A7 Fea.fv d.l)) && D8 (okR Dim.fv d.m.length (A7 Dim.fv d.m))) (brK (decide ((ofR Fea.fv d.l.length (A7 Fea.fv d.l)).length < 4611686018427387904)) (brK (decide (0<=E5 (drE d) s/\E5 (drE d) s < (d.l.length:Int))) (brK (D8 (okR Frm.fv (d.l.getD (E5 (drE d) s).toNat default).l.length (A7 Frm.fv (d.l.getD (E5 (drE d) s).toNat default).l))) (brK (D8 (SmlF (feE (d.l.getD (E5 (drE d) s).toNat default)))) (brK (itC B3q A1p B8j [Lf.n (K8 (feE (d.l.getD (E5 (drE d) s).toNat default)) (ofR Frm.fv (d.l.getD (E5 (drE d) s).toNat default).l.length (A7 Frm.fv (d.l.getD (E5 (drE d) s).toNat default).l)).length).length,Lf.fr (A7 txF (K8 (feE (d.l.getD (E5 (drE d) s).toNat default)) (ofR Frm.fv (d.l.getD (E5 (drE d) s).toNat default).l.length (A7 Frm.fv (d.l.getD (E5 (drE d) s).toNat default).l)).length)),Lf.i 0,Lf.o (A9 d)]) (some (.flist (((X8 (nbR (A1p [Lf.n (K8 (feE (d.l.getD (E5 (drE d) s).toNat default)) (ofR Frm.fv (d.l.getD (E5 (drE d) s).toNat default).l.length (A7 Frm.fv (d.l.getD (E5 (drE d) s).toNat default).l)).length).length,Lf.fr (A7 txF (K8 (feE (d.l.getD (E5 (drE d) s).toNat default)) (ofR Frm.fv (d.l.getD (E5 (drE d) s).toNat default).l.length (A7 Frm.fv (d.l.getD (E5 (drE d) s).toNat default).l)).length)),Lf.i 0,Lf.o (A9 d)]).fst) (A1p [Lf.n (K8 (feE (d.l.getD (E5 (drE d) s).toNat default)) (ofR Frm.fv (d.l.getD (E5 (drE d) s).toNat default).l.length (A7 Frm.fv (d.l.getD (E5 (drE d) s).toNat default).l)).length).length,Lf.fr (A7 txF (K8 (feE (d.l.getD (E5 (drE d) s).toNat default)) (ofR Frm.fv (d.l.getD (E5 (drE d) s).toNat default).l.length (A7 Frm.fv (d.l.getD (E5 (drE d) s).toNat default).l)).length)),Lf.i 0,Lf.o (A9 d)]).fst.l.length (A1p [Lf.n (K8 (feE (d.l.getD (E5 (drE d) s).toNat default)) (ofR Frm.fv (d.l.getD (E5 (drE d) s).toNat default).l.length (A7 Frm.fv (d.l.getD (E5 (drE d) s).toNat default).l)).length).length,Lf.fr (A7 txF (K8 (feE (d.l.getD (E5 (drE d) s).toNat default)) (ofR Frm.fv (d.l.getD (E5 (drE d) s).toNat default).l.length (A7 Frm.fv (d.l.getD (E5 (drE d) s).toNat default).l)).length)),Lf.i 0,Lf.o (A9 d)]).snd)).length) (fun i=>txF ((X8 (nbR (A1p [Lf.n (K8 (feE (d.l.getD (E5 (drE d) s).toNat default)) (ofR Frm.fv (d.l.getD (E5 (drE d) s).toNat default).l.length (A7 Frm.fv (d.l.getD (E5 (drE d) s).toNat default).l)).length).length,Lf.fr (A7 txF (K8 (feE (d.l.getD (E5 (drE d) s).toNat default)) (ofR Frm.fv (d.l.getD (E5 (drE d) s).toNat default).l.length (A7 Frm.fv (d.l.getD (E5 (drE d) s).toNat default).l)).length)),Lf.i 0,Lf.o (A9 d)]).fst) (A1p [Lf.n (K8 (feE (d.l.getD (E5 (drE d) s).toNat default)) (ofR Frm.fv (d.l.getD (E5 (drE d) s).toNat default).l.length (A7 Frm.fv (d.l.getD (E5 (drE d) s).toNat default).l)).length).length,Lf.fr (A7 txF (K8 (feE (d.l.getD (E5 (drE d) s).toNat default)) (ofR Frm.fv (d.l.getD (E5 (drE d) s).toNat default).l.length (A7 Frm.fv (d.l.getD (E5 (drE d) s).toNat default).l)).length)),Lf.i 0,Lf.o (A9 d)]).fst.l.length (A1p [Lf.n (K8 (feE (d.l.getD (E5 (drE d) s).toNat default)) (ofR Frm.fv (d.l.getD (E5 (drE d) s).toNat default).l.length (A7 Frm.fv (d.l.getD (E5 (drE d) s).toNat default).l)).length).length,Lf.fr (A7 txF (K8 (feE (d.l.getD (E5 (drE d) s).toNat default)) (ofR Frm.fv (d.l.getD (E5 (drE d) s).toNat default).l.length (A7 Frm.fv (d.l.getD (E5 (drE d) s).toNat default).l)).length)),Lf.i 0,Lf.o (A9 d)]).snd).getD i default)) 1)) none) none) none) none) none) none:=by kernel_rfl
theorem G7u {d:Drw} (h:GrD d) {s:Txt} (hs:s ∈ H7 d):∃ v,(D5 prog G4o 60).call 51 [.agg d.av,.sstr s] (Bg 8) F9=some v/\v=V7 (M9 d s):=by
 have hl:=h.len
 have h0:=G3t.2 hs
 have hi:=A0h d s
 have hsm:=h.sml (E5 d s).toNat (by omega)
 rw [G5x]
 simp only [L8,Bool.and_self,Y9,A7p,J3 Fea.inj,J3 Frm.inj]
 have e:A1p [Lf.n (nbR d s).length,Lf.fr (A7 txF (nbR d s)),Lf.i 0,Lf.o (A9 d)]=(d,nbR d s):=by simp [A1p,J3 U9,E8]
 have hit:itC B3q A1p B8j [Lf.n (nbR d s).length,Lf.fr (A7 txF (nbR d s)),Lf.i 0,Lf.o (A9 d)]=true :=
  X7 (L0:=B3q) (dec:=A1p) (Inv:=B8j) (x:=(d,nbR d s)) e ⟨h,D5j d s,D5k h hs⟩
 refine ⟨_,A8 rfl (A8 (dT (by omega)) (A8 (dT (by omega)) (A8 rfl (A8 (D6 hsm) (A8 hit rfl))))),?_⟩
 simp only [nbR,D9] at e
 rw [e]
 rfl
def VNe (x:Drw × Txt):Tr AV:=.br (D8 (GrD x.1/\x.2 ∈ H7 x.1)) (.leaf (V7 (M9 x.1 x.2))) .fail
def pNe:Prims:=pNd.addt 51 (R6 B4f VNe)
theorem E7n {A:Amb} (hT:Tab A) (hG:gN prog<=A.G):PrimOK prog A pNe:=by
 have h0:=G0x hT hG
 have h1:PrimOK prog A pNe1:=E5n h0 h0
 have h2:PrimOK prog A pNe2:=E5m h1 h1
 refine J5 hG (E5l h2 h2) h0 B4f VNe func51 (by kernel_rfl) fun x v hv=>?_
 obtain ⟨hz,hv⟩:=Tr.br1 hv
 cases hv
 have hz:=J4 hz
 obtain ⟨v',h3,rfl⟩:=G7u hz.1 hz.2
 exact ⟨_,h3,rfl,fun _ _ h=>h⟩
end Go.Proofs.Tryz
