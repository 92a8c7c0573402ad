/- Drawings: lists of names. -/
import Derived.Test.YtoboneiigikidaaGreatDoorNd
import Derived.Test.YtoboneiigikidaaGreatDoorAdFind
noncomputable section
namespace Go.Proofs.Tryz
open Go.Ad
def A7d(l:List Txt)(s:Txt)(n:Nat):Bool:=l.getD n default==s
theorem D1p(l:List Txt)(s:Txt):A2b (A7d l s) l.length=l.length↔s∉l:=by
 constructor
 ·intro h hs
  obtain⟨i,hi,rfl⟩:=List.getElem_of_mem hs
  have:(l.getD i default==l[i])=false:=A7w (p:=A7d l l[i]) (N:=l.length) (i:=i) (by omega)
  rw[gD,gE hi] at this
  simp at this
 ·intro h
  refine Classical.byContradiction fun hne=>h ?_
  have hlt:A2b (A7d l s) l.length<l.length:=by have:=B5v (p:=A7d l s) (N:=l.length); omega
  have:(l.getD (A2b (A7d l s) l.length) default==s)=true:=C6i (p:=A7d l s) (N:=l.length) hlt
  rw[gD,gE hlt] at this
  have:=eq_of_beq this
  rw[<- this]
  exact List.getElem_mem hlt
def D5f:Code:=I7 (J6 0 (f50.body.getD .skip))
def sp50:SP:=⟨[.flist 1]++[.str]++dr 3++[.int .i64]++dr 12,dd8⟩
def E1n:AEx->SP
 | .ret=>⟨dr 4++[.bool]++dr 13,dd8⟩
 | .exit 0=>⟨dr 18,dd8⟩
 | _=>sp50
theorem F7h(l:List Txt)(s:Txt)(n:Int):E8 prog (D5 prog pNe 60) (pNe.blk 50) D5f (sp50.rho [.n l.length,.fr (A7 txF l),.s s,.i n]) (sp50.heap [.n l.length,.fr (A7 txF l),.s s,.i n]) (H9 E1n 8 []) =
  brK (decide (n<(l.length:Int))) (brK (decide (0<=n/\n<(l.length:Int))) (brK (l.getD n.toNat default==s) (some (.ret,[.b (true)])) (some (.normal,[.n (l.length),.fr (A7 txF l),.s (s),.i (W (n+1))]))) none) (some (.exit 0,[])):=by kernel_rfl
def L50(x:List Txt×Txt)(n:Nat):List Lf:=[.n x.1.length,.fr (A7 txF x.1),.s x.2,.i n]
def F2l:List Lf->Nat->List Lf:=fun _ _=>[.b true]
def F2u:List Lf->List Lf:=fun _=>[]
def N50(x:List Txt×Txt):Nat:=x.1.length
def p50(x:List Txt×Txt)(n:Nat):Bool:=!A7d x.1 x.2 n
def E3b(x:List Txt×Txt):Prop:=x.1.length<2^62
def B8e:List Lf->List Txt×Txt
 | [.n a,.fr b,.s s,_]=>(ofR txF a b,s)
 | _=>default
theorem G5l(x:List Txt×Txt)(hx:E3b x)(n:Nat)(hn:n<=N50 x):E8 prog (D5 prog pNe 60) (pNe.blk 50) D5f (sp50.rho (L50 x n)) (sp50.heap (L50 x n)) (H9 E1n 8 [])=some (if n<N50 x then(bif p50 x n then(.normal,L50 x (n+1)) else(.ret,F2l (L50 x 0) n)) else(.exit 0,F2u (L50 x 0))):=by
 have h1:=hx
 simp only[E3b] at h1
 simp only[L50,F2l,F2u]
 rw[F7h,I5 hn h1]
 simp only[tN,Nat.zero_add]
 by_cases h:n<N50 x
 ·rw[if_pos h]
  simp only[N50,A7d] at h
  simp only[p50,A7d]
  cases hE:x.1.getD n default==x.2
  all_goals
   repeat first
    | exact rfl
    | refine A8 rfl ?_
    | refine C8 rfl ?_
    | refine A8 (by simp only[SBs]; omega) ?_
    | refine C8 (by simp only[SBs]; omega) ?_
    | exact congrArg some (Y3 (by first | (simp only[SBs]; omega) | simp)).symm
    | exact congrArg some (Y2 (by first | (simp only[SBs]; omega) | simp)).symm
 ·rw[if_neg h]
  simp only[N50,A7d] at h
  repeat first
   | exact rfl
   | refine A8 rfl ?_
   | refine C8 rfl ?_
   | refine A8 (by simp only[SBs]; omega) ?_
   | refine C8 (by simp only[SBs]; omega) ?_
   | exact congrArg some (Y3 (by first | (simp only[SBs]; omega) | simp)).symm
   | exact congrArg some (Y2 (by first | (simp only[SBs]; omega) | simp)).symm
def G6x:Blk:=hookP sp50 8 [] (fdT E1n 0 .ret (.exit 0) B8e L50 F2l F2u N50 p50 E3b)
theorem F4y{A:Amb}{q:Prims}(h0:PrimOK prog A pNe)(hq:PrimOK prog A q):PrimOK prog A (q.addb 50 0 G6x) :=
 SEB.findR (id:=0) (ds:=[]) (dec:=B8e) (sp:=sp50) (sq:=E1n) (m:=8) (eb:=.ret) (ee:=.exit 0) (L:=L50) (Lb:=F2l) (Le:=F2u) (N:=N50) (p:=p50) (Inv:=E3b) (k:=60) F7 F9 h0 hq func50 (show f50.body=some (f50.body.getD .skip) by kernel_rfl) (body:=D5f) (by kernel_rfl)
  rfl rfl rfl rfl (by simp) (by simp) (fun _ _=>⟨⟨.inr rfl,.inr rfl,.inr rfl,.inr rfl,.inr rfl,.inr rfl,.inr rfl,.inr rfl,trivial⟩,⟨.inr rfl,.inr rfl,.inr rfl,.inr rfl,.inr rfl,.inr rfl,.inr rfl,.inr rfl,trivial⟩⟩) G5l
def D5h:Code:=I7 (J6 0 (f63.body.getD .skip))
def sp63:SP:=⟨[.flist 1]++[.str]++dr 5++[.int .i64]++[.int .i64]++dr 10,dd8⟩
def E1p:AEx->SP
 | .ret=>⟨dr 4++[.int .i64]++dr 14,dd8⟩
 | .exit 0=>⟨dr 19,dd8⟩
 | _=>sp63
theorem F7j(l:List Txt)(s:Txt)(n:Int):E8 prog (D5 prog pNe 60) (pNe.blk 63) D5h (sp63.rho [.n l.length,.fr (A7 txF l),.s s,.i l.length,.i n]) (sp63.heap [.n l.length,.fr (A7 txF l),.s s,.i l.length,.i n]) (H9 E1p 8 []) =
  brK (decide (n<(l.length:Int))) (brK (decide (0<=n/\n<(l.length:Int))) (brK (s==l.getD n.toNat default) (some (.ret,[.i (n)])) (some (.normal,[.n (l.length),.fr (A7 txF l),.s (s),.i ((l.length:Int)),.i (W (n+1))]))) none) (some (.exit 0,[])):=by kernel_rfl
def L63(x:List Txt×Txt)(n:Nat):List Lf:=[.n x.1.length,.fr (A7 txF x.1),.s x.2,.i x.1.length,.i n]
def F2m:List Lf->Nat->List Lf:=fun _ n=>[.i n]
def F2w:List Lf->List Lf:=fun _=>[]
def N63(x:List Txt×Txt):Nat:=x.1.length
def p63(x:List Txt×Txt)(n:Nat):Bool:=!(x.2==x.1.getD n default)
def E3c(x:List Txt×Txt):Prop:=x.1.length<2^62
def B1z:List Lf->List Txt×Txt
 | [.n a,.fr b,.s s,_,_]=>(ofR txF a b,s)
 | _=>default
theorem G5n(x:List Txt×Txt)(hx:E3c x)(n:Nat)(hn:n<=N63 x):E8 prog (D5 prog pNe 60) (pNe.blk 63) D5h (sp63.rho (L63 x n)) (sp63.heap (L63 x n)) (H9 E1p 8 [])=some (if n<N63 x then(bif p63 x n then(.normal,L63 x (n+1)) else(.ret,F2m (L63 x 0) n)) else(.exit 0,F2w (L63 x 0))):=by
 have h1:=hx
 simp only[E3c] at h1
 simp only[L63,F2m,F2w]
 rw[F7j,I5 hn h1]
 simp only[tN,Nat.zero_add]
 by_cases h:n<N63 x
 ·rw[if_pos h]
  simp only[N63,A7d] at h
  simp only[p63,A7d]
  cases hE:x.2==x.1.getD n default
  all_goals
   repeat first
    | exact rfl
    | refine A8 rfl ?_
    | refine C8 rfl ?_
    | refine A8 (by simp only[SBs]; omega) ?_
    | refine C8 (by simp only[SBs]; omega) ?_
    | exact congrArg some (Y3 (by first | (simp only[SBs]; omega) | simp)).symm
    | exact congrArg some (Y2 (by first | (simp only[SBs]; omega) | simp)).symm
 ·rw[if_neg h]
  simp only[N63,A7d] at h
  repeat first
   | exact rfl
   | refine A8 rfl ?_
   | refine C8 rfl ?_
   | refine A8 (by simp only[SBs]; omega) ?_
   | refine C8 (by simp only[SBs]; omega) ?_
   | exact congrArg some (Y3 (by first | (simp only[SBs]; omega) | simp)).symm
   | exact congrArg some (Y2 (by first | (simp only[SBs]; omega) | simp)).symm
def G6z:Blk:=hookP sp63 8 [] (fdT E1p 0 .ret (.exit 0) B1z L63 F2m F2w N63 p63 E3c)
theorem F5a{A:Amb}{q:Prims}(h0:PrimOK prog A pNe)(hq:PrimOK prog A q):PrimOK prog A (q.addb 63 0 G6z) :=
 SEB.findR (id:=0) (ds:=[]) (dec:=B1z) (sp:=sp63) (sq:=E1p) (m:=8) (eb:=.ret) (ee:=.exit 0) (L:=L63) (Lb:=F2m) (Le:=F2w) (N:=N63) (p:=p63) (Inv:=E3c) (k:=60) F7 F9 h0 hq func63 (show f63.body=some (f63.body.getD .skip) by kernel_rfl) (body:=D5h) (by kernel_rfl)
  rfl rfl rfl rfl (by simp) (by simp) (fun _ _=>⟨⟨.inr rfl,.inr rfl,.inr rfl,.inr rfl,.inr rfl,.inr rfl,.inr rfl,.inr rfl,trivial⟩,⟨.inr rfl,.inr rfl,.inr rfl,.inr rfl,.inr rfl,.inr rfl,.inr rfl,.inr rfl,trivial⟩⟩) G5n
def D4x:Code:=I7 (J6 0 (f15.body.getD .skip))
def sp15:SP:=⟨[.flist 1]++[.flist 1]++dr 10++[.int .i64]++[.int .i64]++dr 12,dd8⟩
def E1g:AEx->SP
 | .ret=>⟨dr 4++[.bool]++dr 21,dd8⟩
 | .exit 0=>⟨dr 26,dd8⟩
 | _=>sp15
theorem F7a(l m:List Txt)(n:Int):E8 prog (D5 prog pNe 60) (pNe.blk 15) D4x (sp15.rho [.n l.length,.fr (A7 txF l),.n m.length,.fr (A7 txF m),.i l.length,.i n]) (sp15.heap [.n l.length,.fr (A7 txF l),.n m.length,.fr (A7 txF m),.i l.length,.i n]) (H9 E1g 8 []) =
  brK (decide (n<(l.length:Int))) (brK (decide (0<=n/\n<(l.length:Int))) (brK (decide (0<=n/\n<(m.length:Int))) (brK (!l.getD n.toNat default==m.getD n.toNat default) (some (.ret,[.b (false)])) (some (.normal,[.n (l.length),.fr (A7 txF l),.n (m.length),.fr (A7 txF m),.i ((l.length:Int)),.i (W (n+1))]))) none) none) (some (.exit 0,[])):=by kernel_rfl
def L15(x:List Txt×List Txt)(n:Nat):List Lf:=[.n x.1.length,.fr (A7 txF x.1),.n x.2.length,.fr (A7 txF x.2),.i x.1.length,.i n]
def F2j:List Lf->Nat->List Lf:=fun _ _=>[.b false]
def F2q:List Lf->List Lf:=fun _=>[]
def N15(x:List Txt×List Txt):Nat:=x.1.length
def p15(x:List Txt×List Txt)(n:Nat):Bool:=(x.1.getD n default==x.2.getD n default)
def E7v(x:List Txt×List Txt):Prop:=x.1.length<2^62/\x.1.length=x.2.length
def B8c:List Lf->List Txt×List Txt
 | [.n a,.fr b,.n c,.fr d,_,_]=>(ofR txF a b,ofR txF c d)
 | _=>default
theorem G5e(x:List Txt×List Txt)(hx:E7v x)(n:Nat)(hn:n<=N15 x):E8 prog (D5 prog pNe 60) (pNe.blk 15) D4x (sp15.rho (L15 x n)) (sp15.heap (L15 x n)) (H9 E1g 8 [])=some (if n<N15 x then(bif p15 x n then(.normal,L15 x (n+1)) else(.ret,F2j (L15 x 0) n)) else(.exit 0,F2q (L15 x 0))):=by
 obtain⟨h1,h2⟩:=hx
 simp only[L15,F2j,F2q]
 rw[F7a,I5 hn h1]
 simp only[tN,Nat.zero_add]
 have hlen:=h2
 by_cases h:n<N15 x
 ·rw[if_pos h]
  simp only[N15] at h
  simp only[p15]
  cases hE:x.1.getD n default==x.2.getD n default
  all_goals
   repeat first
    | exact rfl
    | refine A8 rfl ?_
    | refine C8 rfl ?_
    | refine A8 (by simp only[SBs]; omega) ?_
    | refine C8 (by simp only[SBs]; omega) ?_
    | exact congrArg some (Y3 (by first | (simp only[SBs]; omega) | simp)).symm
    | exact congrArg some (Y2 (by first | (simp only[SBs]; omega) | simp)).symm
 ·rw[if_neg h]
  simp only[N15] at h
  repeat first
   | exact rfl
   | refine A8 rfl ?_
   | refine C8 rfl ?_
   | refine A8 (by simp only[SBs]; omega) ?_
   | refine C8 (by simp only[SBs]; omega) ?_
   | exact congrArg some (Y3 (by first | (simp only[SBs]; omega) | simp)).symm
   | exact congrArg some (Y2 (by first | (simp only[SBs]; omega) | simp)).symm
def G6s:Blk:=hookP sp15 8 [] (fdT E1g 0 .ret (.exit 0) B8c L15 F2j F2q N15 p15 E7v)
theorem F4t{A:Amb}{q:Prims}(h0:PrimOK prog A pNe)(hq:PrimOK prog A q):PrimOK prog A (q.addb 15 0 G6s) :=
 SEB.findR (id:=0) (ds:=[]) (dec:=B8c) (sp:=sp15) (sq:=E1g) (m:=8) (eb:=.ret) (ee:=.exit 0) (L:=L15) (Lb:=F2j) (Le:=F2q) (N:=N15) (p:=p15) (Inv:=E7v) (k:=60) F7 F9 h0 hq func15 (show f15.body=some (f15.body.getD .skip) by kernel_rfl) (body:=D4x) (by kernel_rfl)
  rfl rfl rfl rfl (by simp) (by simp) (fun _ _=>⟨⟨.inr rfl,.inr rfl,.inr rfl,.inr rfl,.inr rfl,.inr rfl,.inr rfl,.inr rfl,trivial⟩,⟨.inr rfl,.inr rfl,.inr rfl,.inr rfl,.inr rfl,.inr rfl,.inr rfl,.inr rfl,trivial⟩⟩) G5e
def D7k:Prims:=((pNe.addb 50 0 G6x).addb 63 0 G6z).addb 15 0 G6s
theorem F6k{A:Amb}(hT:Tab A)(hG:gN prog<=A.G):PrimOK prog A D7k:=by
 have h0:=E9i hT hG
 exact F4t h0 (F5a h0 (F4y h0 h0))
theorem D0h(l:List Txt)(s:Txt)(a:Lf):B8e [Lf.n l.length,Lf.fr (A7 txF l),Lf.s s,a]=(l,s):=by simp[B8e,I1 U4]
theorem D0i(l:List Txt)(s:Txt)(a b:Lf):B1z [Lf.n l.length,Lf.fr (A7 txF l),Lf.s s,a,b]=(l,s):=by simp[B1z,I1 U4]
theorem D0b(l m:List Txt)(a b:Lf):B8c [Lf.n l.length,Lf.fr (A7 txF l),Lf.n m.length,Lf.fr (A7 txF m),a,b]=(l,m):=by simp[B8c,I1 U4]
theorem G9s(l:List Txt)(s:Txt):(D5 prog D7k 60).call 50 [Q4 l,.sstr s] (Bg 8) F8 =
  brK (fdC L50 B8e E3b [.n (l.length),.fr (A7 txF l),.s (s),.i (0)]) (brK (fdE p50 N50 (B8e [.n (l.length),.fr (A7 txF l),.s (s),.i (0)])) (some (.bool false)) (some (.sbool (true)))) none:=by kernel_rfl
theorem G9b(l:List Txt)(s:Txt):(D5 prog D7k 60).call 22 [Q4 l,.sstr s] (Bg 8) F8 =
  brK (fdC L63 B1z E3c [.n (l.length),.fr (A7 txF l),.s (s),.i ((l.length:Int)),.i (0)]) (brK (fdE p63 N63 (B1z [.n (l.length),.fr (A7 txF l),.s (s),.i ((l.length:Int)),.i (0)])) (some (.bool false)) (some (.sbool (decide (((G5 (p63 (B1z [.n (l.length),.fr (A7 txF l),.s (s),.i ((l.length:Int)),.i (0)])) (N63 (B1z [.n (l.length),.fr (A7 txF l),.s (s),.i ((l.length:Int)),.i (0)])) 0):Int) >= 0))))) none:=by kernel_rfl
theorem G8y(l m:List Txt):(D5 prog D7k 60).call 15 [Q4 l,Q4 m] (Bg 8) F8 =
  brK ((l.length:Int) != (m.length:Int)) (some (.bool false)) (brK (fdC L15 B8c E7v [.n (l.length),.fr (A7 txF l),.n (m.length),.fr (A7 txF m),.i ((l.length:Int)),.i (0)]) (brK (fdE p15 N15 (B8c [.n (l.length),.fr (A7 txF l),.n (m.length),.fr (A7 txF m),.i ((l.length:Int)),.i (0)])) (some (.bool true)) (some (.sbool (false)))) none):=by kernel_rfl
theorem H1w(l:List Txt)(s:Txt)(h:l.length<2^62):∃ v,(D5 prog D7k 60).call 50 [Q4 l,.sstr s] (Bg 8) F8=some v/\A4e (decide (s∈l)) v:=by
 rw[G9s,D0h]
 have hC:=J5 (L:=L50) (dec:=B8e) (Inv:=E3b) (x:=(l,s)) (D0h l s _) h
 have e:fdE p50 N50 (l,s)=decide (A2b (A7d l s) l.length=l.length):=rfl
 have hm:=D1p l s
 rw[e]
 by_cases h1:A2b (A7d l s) l.length=l.length
 ·exact⟨_,A8 hC (A8 (dT h1) rfl),by rw[dF (hm.1 h1)]; exact .inl rfl⟩
 ·have h2:s∈l:=Classical.byContradiction fun h2=>h1 (hm.2 h2)
  exact⟨_,A8 hC (C8 (dF h1) rfl),by rw[dT h2]; exact .inr rfl⟩
theorem G3h(l:List Txt)(s:Txt)(n:Nat):p63 (l,s) n=p50 (l,s) n:=by
 unfold p63 p50 A7d
 dsimp only
 rw[show(s==l.getD n default)=(l.getD n default==s) from BEq.comm]
theorem H1j(l:List Txt)(s:Txt)(h:l.length<2^62):∃ v,(D5 prog D7k 60).call 22 [Q4 l,.sstr s] (Bg 8) F8=some v/\A4e (decide (s∈l)) v:=by
 rw[G9b,D0i]
 have hC:=J5 (L:=L63) (dec:=B1z) (Inv:=E3c) (x:=(l,s)) (D0i l s _ _) h
 have e:fdE p63 N63 (l,s)=decide (A2b (A7d l s) l.length=l.length):=by
  have:p63 (l,s)=p50 (l,s):=funext (G3h l s)
  unfold fdE
  rw[this]
  rfl
 have hm:=D1p l s
 rw[e]
 by_cases h1:A2b (A7d l s) l.length=l.length
 ·exact⟨_,A8 hC (A8 (dT h1) rfl),by rw[dF (hm.1 h1)]; exact .inl rfl⟩
 ·have h2:s∈l:=Classical.byContradiction fun h2=>h1 (hm.2 h2)
  exact⟨_,A8 hC (C8 (dF h1) rfl),by rw[dT h2]; exact .inr (by rw[dT (show((G5 (p63 (l,s)) (N63 (l,s)) 0:Nat):Int) >= 0 by omega)])⟩
theorem B4s{l m:List Txt}(h:l.length=m.length):A2b (fun n=>!(l.getD n default==m.getD n default)) l.length=l.length↔l=m:=by
 constructor
 ·intro hf
  refine List.ext_getElem h fun i h1 h2=>?_
  have:(!(l.getD i default==m.getD i default))=false:=A7w (p:=fun n=>!(l.getD n default==m.getD n default)) (N:=l.length) (i:=i) (by omega)
  rw[gD,gD,gE h1,gE h2] at this
  simpa using this
 ·rintro rfl
  refine Classical.byContradiction fun hne=>?_
  have hlt:A2b (fun n=>!(l.getD n default==l.getD n default)) l.length<l.length:=by have:=B5v (p:=fun n=>!(l.getD n default==l.getD n default)) (N:=l.length); omega
  have:=C6i hlt
  simp at this
theorem H1g(l m:List Txt)(h:l.length<2^62):∃ v,(D5 prog D7k 60).call 15 [Q4 l,Q4 m] (Bg 8) F8=some v/\A4e (decide (l=m)) v:=by
 rw[G8y]
 by_cases hl:l.length=m.length
 ·rw[D0b]
  have hC:=J5 (L:=L15) (dec:=B8c) (Inv:=E7v) (x:=(l,m)) (D0b l m _ _) ⟨h,hl⟩
  have e:fdE p15 N15 (l,m)=decide (A2b (fun n=>!(l.getD n default==m.getD n default)) l.length=l.length):=by
   unfold fdE A2b
   simp only[Bool.not_not]
   rfl
  rw[e]
  have h0:((l.length:Int) != (m.length:Int))=false:=by rw[hl]; simp
  by_cases h1:l=m
  ·exact⟨_,C8 h0 (A8 hC (A8 (dT ((B4s hl).2 h1)) rfl)),by rw[dT h1]; exact .inl rfl⟩
  ·exact⟨_,C8 h0 (A8 hC (C8 (dF fun h2=>h1 ((B4s hl).1 h2)) rfl)),by rw[dF h1]; exact .inr rfl⟩
 ·have h0:((l.length:Int) != (m.length:Int))=true:=by simp only[bne_iff_ne,ne_eq]; omega
  exact⟨_,A8 h0 rfl,by rw[dF (fun(h1:l=m)=>hl (by rw[h1]))]; exact .inl rfl⟩
def G0z:Par (List Txt×List Txt) where
 get:=fun | [a,b]=>(match A9g txF 1 a,A9g txF 1 b with | some (c,l),some (d,m)=>some (c&&d,(l,m)) | _,_=>none) | _=>none
 av:=fun x=>[Q4 x.1,Q4 x.2]
 ok:=by
  intro l x h Z vs hv
  split at h
  ·split at h
   ·rename_i h1 h2
    simp only[sI,pI,bA] at h
    obtain⟨⟨rfl,rfl⟩,rfl⟩:=h
    simp only[VRL] at hv ⊢
    obtain⟨y,r,e,q1,y2,r2,e2,q2,q3⟩:=hv
    exact⟨y,r,e,A1b h1 q1,y2,r2,e2,A1b h2 q2,q3⟩
   ·cases h
  ·cases h
 free:=fun _=>rfl
def F3e(x:List Txt×Txt):Tr AV:=.br (decide (x.1.length<2^62)) (.leaf (.sbool (decide (x.2∈x.1)))) .fail
def VEq(x:List Txt×List Txt):Tr AV:=.br (decide (x.1.length<2^62)) (.leaf (.sbool (decide (x.1=x.2)))) .fail
def pNf:Prims:=((pNe.addt 50 (M8 parPT F3e)).addt 22 (M8 parPT F3e)).addt 15 (M8 G0z VEq)
theorem G3v{A:Amb}(hT:Tab A)(hG:gN prog<=A.G):PrimOK prog A pNf:=by
 have h0:=E9i hT hG
 have h1:=F6k hT hG
 refine H8 hG h1 (H8 hG h1 (H8 hG h1 h0 parPT F3e func50 (by kernel_rfl) fun x v hv=>?_) parPT F3e func22 (by kernel_rfl) fun x v hv=>?_) G0z VEq func15 (by kernel_rfl) fun x v hv=>?_
 ·obtain⟨hz,hv⟩:=Tr.br1 hv
  cases hv
  obtain⟨v',h3,h4⟩:=H1w x.1 x.2 (of_decide_eq_true hz)
  exact⟨v',h3,Q3 h4,Z9 h4⟩
 ·obtain⟨hz,hv⟩:=Tr.br1 hv
  cases hv
  obtain⟨v',h3,h4⟩:=H1j x.1 x.2 (of_decide_eq_true hz)
  exact⟨v',h3,Q3 h4,Z9 h4⟩
 ·obtain⟨hz,hv⟩:=Tr.br1 hv
  cases hv
  obtain⟨v',h3,h4⟩:=H1g x.1 x.2 (of_decide_eq_true hz)
  exact⟨v',h3,Q3 h4,Z9 h4⟩
def C5c:Code:=I7 (J6 2 (f42.body.getD .skip))
def sp42c:SP:=⟨dr 1++[.is (.ptr (some (8,0)))]++dr 1++[.flist 1]++[.int .i64]++[.flist 1]++[.int .i64]++dr 26,dd8++[.any]⟩
def C8a:AEx->SP
 | .exit 2=>⟨dr 1++[.is (.ptr (some (8,0)))]++dr 1++[.flist 1]++[.int .i64]++dr 28,dd8++[.any]⟩
 | _=>sp42c
theorem F0h(O M:List Txt)(i n:Int)(d:Drw):E8 prog (D5 prog pNf 60) (pNf.blk 42) C5c (sp42c.rho [.n O.length,.fr (A7 txF O),.i i,.n M.length,.fr (A7 txF M),.i n,.o (C9 d)]) (sp42c.heap [.n O.length,.fr (A7 txF O),.i i,.n M.length,.fr (A7 txF M),.i n,.o (C9 d)]) (H9 C8a 9 []) =
  brK (decide (n<(M.length:Int))) (brK (decide (0<=n/\n<(M.length:Int))) (brK (E9 (okR txF O.length (A7 txF O))) (brK (decide ((ofR txF O.length (A7 txF O)).length<=1000000)) (some (.normal,[.n ((O6 (ofR txF O.length (A7 txF O)) (M.getD n.toNat default)).length),.fr (A7 txF (O6 (ofR txF O.length (A7 txF O)) (M.getD n.toNat default))),.i (i),.n (M.length),.fr (A7 txF M),.i (W (n+1)),.o (C9 d)])) none) none) none) (some (.exit 2,[.n (O.length),.fr (A7 txF O),.i (i),.o (C9 d)])):=by kernel_rfl
def C3t(x:List Txt×List Txt×Int×Drw)(n:Nat):List Lf:=[.n ((x.2.1.take n).foldl O6 x.1).length,.fr (A7 txF ((x.2.1.take n).foldl O6 x.1)),.i x.2.2.1,.n x.2.1.length,.fr (A7 txF x.2.1),.i n,.o (C9 x.2.2.2)]
def B1g(x:List Txt×List Txt×Int×Drw):List Lf:=C3t x 0
def D8u:List Lf->(List Txt×List Txt×Int×Drw)->List Lf
 | [_,_,i,_,_,_,o],x=>[.n (x.2.1.foldl O6 x.1).length,.fr (A7 txF (x.2.1.foldl O6 x.1)),i,o]
 | _,_=>[]
def D3y(x:List Txt×List Txt×Int×Drw):Nat:=x.2.1.length
def B8v(x:List Txt×List Txt×Int×Drw):Prop:=x.1.length<=900000/\x.2.1.length<=10000
def A2g:List Lf->List Txt×List Txt×Int×Drw
 | [.n a,.fr b,.i i,.n c,.fr e,_,.o o]=>(ofR txF a b,ofR txF c e,i,I6 o)
 | _=>([],[],0,default)
theorem F8e(x:List Txt×List Txt×Int×Drw)(hx:B8v x)(n:Nat)(hn:n<=D3y x):E8 prog (D5 prog pNf 60) (pNf.blk 42) C5c (sp42c.rho (C3t x n)) (sp42c.heap (C3t x n)) (H9 C8a 9 [])=some (if n<D3y x then(.normal,C3t x (n+1)) else(.exit 2,D8u (B1g x) x)):=by
 obtain⟨O,M,i,d⟩:=x
 obtain⟨h1,h2⟩:=hx
 dsimp only at h1 h2
 simp only[C3t]
 rw[F0h,I5 hn (show D3y (O,M,i,d)<2^62 by show M.length<2^62; omega)]
 simp only[tN,I1 U4,J8]
 by_cases h:n<D3y (O,M,i,d)
 ·rw[if_pos h]
  simp only[D3y] at h
  have hl:=V7 (M.take n) O
  rw[List.length_take] at hl
  rw[A6y h]
  refine A8 (dT (by omega)) (A8 (dT (by omega)) (A8 rfl ?_))
  exact A8 (dT (by omega)) rfl
 ·rw[if_neg h]
  simp only[D3y] at h hn
  have e:M.take n=M:=List.take_of_length_le (by omega)
  simp only[D8u,B1g,C3t,e]
  exact C8 (dF (by omega)) rfl
theorem G1x{A:Amb}(x:List Txt×List Txt×Int×Drw)(_hx:B8v x)(Bb:Heap)(hB:Bb.length=9):Wk A Bb ⟨sp42c.rho (B1g x),sp42c.heap (B1g x),[]⟩ ⟨sp42c.rho (C3t x 0),sp42c.heap (C3t x 0),[]⟩:=by
 have _:=hB
 exact Wk.refl
def F9v:Blk:=hookP sp42c 9 [] (itT (C8a (.exit 2)) 2 (.exit 2) A2g B1g D8u B8v)
theorem E6v{A:Amb}{q:Prims}(h0:PrimOK prog A pNf)(hq:PrimOK prog A q):PrimOK prog A (q.addb 42 2 F9v) :=
 SEB.iterK (id:=2) (ds:=[]) (dec:=A2g) (sp0:=sp42c) (sp:=sp42c) (sq:=C8a) (m:=9) (ee:=.exit 2) (L0:=B1g) (L:=C3t) (Le:=D8u) (N:=D3y) (Inv:=B8v) (k:=60) F7 F9 h0 hq func42 (show f42.body=some (f42.body.getD .skip) by kernel_rfl) (body:=C5c) (by kernel_rfl)
  rfl rfl rfl rfl (by simp) (fun _=>⟨.inr rfl,.inr rfl,.inr rfl,.inr rfl,.inr rfl,.inr rfl,.inr rfl,.inr rfl,.inr rfl,trivial⟩) G1x F8e
theorem G7g{O M:List Txt}(h1:O.length<=900000)(h2:M.length<=10000)(i:Int)(d:Drw):A2g [Lf.n O.length,Lf.fr (A7 txF O),Lf.i i,Lf.n M.length,Lf.fr (A7 txF M),Lf.i 0,Lf.o (C9 d)]=(O,M,i,d)/\itC B1g A2g B8v [Lf.n O.length,Lf.fr (A7 txF O),Lf.i i,Lf.n M.length,Lf.fr (A7 txF M),Lf.i 0,Lf.o (C9 d)]=true :=
 have e:A2g [Lf.n O.length,Lf.fr (A7 txF O),Lf.i i,Lf.n M.length,Lf.fr (A7 txF M),Lf.i 0,Lf.o (C9 d)]=(O,M,i,d):=by simp[A2g,I1 U4,D9]
 ⟨e,P5 (L0:=B1g) (dec:=A2g) (Inv:=B8v) (x:=(O,M,i,d)) e ⟨h1,h2⟩⟩
def pNg1:Prims:=pNf.addb 42 2 F9v
def A5p(d:Drw)(n:Nat):List Txt:=(d.l.take n).foldl (fun o x=>(K9 x x.l.length).foldl O6 o) []
theorem B4b{d:Drw}{n:Nat}(h:n<d.l.length):A5p d (n+1)=(K9 (D8 d n) (D8 d n).l.length).foldl O6 (A5p d n):=by
 unfold A5p
 rw[List.take_succ_eq_append_getElem h,List.foldl_append]
 show _=List.foldl O6 _ (K9 (d.l.getD n default) (d.l.getD n default).l.length)
 rw[gD,gE h]
 rfl
theorem D3p{d:Drw}(h:GrD d):∀ n,n<=d.l.length->(A5p d n).length<=10000*n
 | 0,_=>by simp[A5p]
 | n+1,hn=>by
  rw[B4b (by omega)]
  have h1:=D3p h n (by omega)
  have h2:=h.sml n (by omega)
  have h3:=A8h h2 _ (lR _)
  have h4:=h2.l
  have h5:=V7 (K9 (D8 d n) (D8 d n).l.length) (A5p d n)
  omega
def C5b:Code:=I7 (J6 0 (f42.body.getD .skip))
def sp42a:SP:=⟨dr 1++[.is (.ptr (some (8,0)))]++dr 1++[.flist 1]++[.int .i64]++dr 28,dd8++[.any]⟩
def C7z:AEx->SP
 | .exit 0=>⟨dr 3++[.flist 1]++dr 29,dd8++[.any]⟩
 | _=>sp42a
theorem F0g(d:Drw)(O:List Txt)(i:Int):E8 prog (D5 prog pNg1 60) (pNg1.blk 42) C5b (sp42a.rho [.n O.length,.fr (A7 txF O),.i i,.o (C9 d)]) (sp42a.heap [.n O.length,.fr (A7 txF O),.i i,.o (C9 d)]) (H9 C7z 9 []) =
  brK (decide (i<(d.l.length:Int))) (brK (decide (0<=i/\i<(d.l.length:Int))) (brK (E9 (okR Frm.fv (d.l.getD i.toNat default).l.length (A7 Frm.fv (d.l.getD i.toNat default).l))) (brK (E9 (SmlF (feE (d.l.getD i.toNat default)))) (brK (itC B1g A2g B8v [Lf.n O.length,Lf.fr (A7 txF O),Lf.i i,Lf.n (K9 (feE (d.l.getD i.toNat default)) (ofR Frm.fv (d.l.getD i.toNat default).l.length (A7 Frm.fv (d.l.getD i.toNat default).l)).length).length,Lf.fr (A7 txF (K9 (feE (d.l.getD i.toNat default)) (ofR Frm.fv (d.l.getD i.toNat default).l.length (A7 Frm.fv (d.l.getD i.toNat default).l)).length)),Lf.i 0,Lf.o (C9 d)]) (some (.normal,[.n ((List.foldl O6 (A2g [Lf.n O.length,Lf.fr (A7 txF O),Lf.i i,Lf.n (K9 (feE (d.l.getD i.toNat default)) (ofR Frm.fv (d.l.getD i.toNat default).l.length (A7 Frm.fv (d.l.getD i.toNat default).l)).length).length,Lf.fr (A7 txF (K9 (feE (d.l.getD i.toNat default)) (ofR Frm.fv (d.l.getD i.toNat default).l.length (A7 Frm.fv (d.l.getD i.toNat default).l)).length)),Lf.i 0,Lf.o (C9 d)]).fst (A2g [Lf.n O.length,Lf.fr (A7 txF O),Lf.i i,Lf.n (K9 (feE (d.l.getD i.toNat default)) (ofR Frm.fv (d.l.getD i.toNat default).l.length (A7 Frm.fv (d.l.getD i.toNat default).l)).length).length,Lf.fr (A7 txF (K9 (feE (d.l.getD i.toNat default)) (ofR Frm.fv (d.l.getD i.toNat default).l.length (A7 Frm.fv (d.l.getD i.toNat default).l)).length)),Lf.i 0,Lf.o (C9 d)]).snd.fst).length),.fr (A7 txF (List.foldl O6 (A2g [Lf.n O.length,Lf.fr (A7 txF O),Lf.i i,Lf.n (K9 (feE (d.l.getD i.toNat default)) (ofR Frm.fv (d.l.getD i.toNat default).l.length (A7 Frm.fv (d.l.getD i.toNat default).l)).length).length,Lf.fr (A7 txF (K9 (feE (d.l.getD i.toNat default)) (ofR Frm.fv (d.l.getD i.toNat default).l.length (A7 Frm.fv (d.l.getD i.toNat default).l)).length)),Lf.i 0,Lf.o (C9 d)]).fst (A2g [Lf.n O.length,Lf.fr (A7 txF O),Lf.i i,Lf.n (K9 (feE (d.l.getD i.toNat default)) (ofR Frm.fv (d.l.getD i.toNat default).l.length (A7 Frm.fv (d.l.getD i.toNat default).l)).length).length,Lf.fr (A7 txF (K9 (feE (d.l.getD i.toNat default)) (ofR Frm.fv (d.l.getD i.toNat default).l.length (A7 Frm.fv (d.l.getD i.toNat default).l)).length)),Lf.i 0,Lf.o (C9 d)]).snd.fst)),.i (W (i+1)),.o (C9 d)])) none) none) none) none) (some (.exit 0,[.n (O.length),.fr (A7 txF O),.o (C9 d)])):=by kernel_rfl
def D3w(x:Drw)(n:Nat):List Lf:=[.n (A5p x n).length,.fr (A7 txF (A5p x n)),.i n,.o (C9 x)]
def A9k(x:Drw):List Lf:=[.n 0,.fr fun _=>[],.i 0,.o (C9 x)]
def E4b:List Lf->Drw->List Lf
 | [_,_,_,o],x=>[.n (A5p x x.l.length).length,.fr (A7 txF (A5p x x.l.length)),o]
 | _,_=>[]
def C9d(x:Drw):Nat:=x.l.length
def C2u(x:Drw):Prop:=GrD x
def A3k:List Lf->Drw
 | [_,_,_,.o o]=>I6 o
 | _=>default
theorem F8d(x:Drw)(hx:C2u x)(n:Nat)(hn:n<=C9d x):E8 prog (D5 prog pNg1 60) (pNg1.blk 42) C5b (sp42a.rho (D3w x n)) (sp42a.heap (D3w x n)) (H9 C7z 9 [])=some (if n<C9d x then(.normal,D3w x (n+1)) else(.exit 0,E4b (A9k x) x)):=by
 have h1:GrD x:=hx
 have hl:=h1.len
 simp only[D3w]
 rw[F0g,I5 hn (show C9d x<2^62 by show x.l.length<2^62; omega)]
 simp only[tN,J8,Bool.and_self,P8,A3o,I1 Fea.inj,I1 Frm.inj]
 by_cases h:n<C9d x
 ·rw[if_pos h,B4b h]
  simp only[C9d] at h
  have h2:=h1.sml n h
  have h3:=A8h h2 _ (lR _)
  have h4:=h2.l
  have h5:=D3p h1 n (by omega)
  obtain⟨e,hit⟩:=G7g (O:=A5p x n) (M:=K9 (D8 x n) (D8 x n).l.length) (by omega) (by omega) n x
  refine A8 (dT (by omega)) (A8 (dT (by omega)) (A8 rfl (A8 (A9 h2) (A8 hit ?_))))
  simp only[D8] at e ⊢
  rw[e]
 ·rw[if_neg h]
  have e:n=C9d x:=Nat.le_antisymm hn (Nat.le_of_not_lt h)
  subst e
  exact C8 (dF (by unfold C9d; omega)) rfl
theorem G1w{A:Amb}(x:Drw)(_hx:C2u x)(Bb:Heap)(hB:Bb.length=9):Wk A Bb ⟨sp42a.rho (A9k x),sp42a.heap (A9k x),[]⟩ ⟨sp42a.rho (D3w x 0),sp42a.heap (D3w x 0),[]⟩:=by
 have _:=hB
 exact Wk.temps (E4m (i:=3) (a:=.flist 0 (fun _=>[]) 1) (a':=.flist (A5p x 0).length (A7 txF (A5p x 0)) 1) rfl D9j)
def F9u:Blk:=hookP sp42a 9 [] (itT (C7z (.exit 0)) 0 (.exit 0) A3k A9k E4b C2u)
theorem E6u{A:Amb}{q:Prims}(h0:PrimOK prog A pNg1)(hq:PrimOK prog A q):PrimOK prog A (q.addb 42 0 F9u) :=
 SEB.iterK (id:=0) (ds:=[]) (dec:=A3k) (sp0:=sp42a) (sp:=sp42a) (sq:=C7z) (m:=9) (ee:=.exit 0) (L0:=A9k) (L:=D3w) (Le:=E4b) (N:=C9d) (Inv:=C2u) (k:=60) F7 F9 h0 hq func42 (show f42.body=some (f42.body.getD .skip) by kernel_rfl) (body:=C5b) (by kernel_rfl)
  rfl rfl rfl rfl (by simp) (fun _=>⟨.inr rfl,.inr rfl,.inr rfl,.inr rfl,.inr rfl,.inr rfl,.inr rfl,.inr rfl,.inr rfl,trivial⟩) G1w F8d
def H2p:Prims:=pNg1.addb 42 0 F9u
theorem G9l(d:Drw):(D5 prog H2p 60).call 42 [.agg d.av] (Bg 8) F8 =
  brK (itC A9k A3k C2u [Lf.n 0,Lf.fr fun x=>[],Lf.i 0,Lf.o (C9 d)]) (some (.flist (((A5p (A3k [Lf.n 0,Lf.fr fun x=>[],Lf.i 0,Lf.o (C9 d)]) (A3k [Lf.n 0,Lf.fr fun x=>[],Lf.i 0,Lf.o (C9 d)]).l.length)).length) (fun i=>txF ((A5p (A3k [Lf.n 0,Lf.fr fun x=>[],Lf.i 0,Lf.o (C9 d)]) (A3k [Lf.n 0,Lf.fr fun x=>[],Lf.i 0,Lf.o (C9 d)]).l.length).getD i default)) 1)) none:=by kernel_rfl
theorem D0f(x:Drw):A3k (A9k x)=x:=by simp[A3k,A9k,D9]
def A4b(d:Drw):List Txt:=A5p d d.l.length
def VNg(x:Drw):Tr AV:=.br (E9 (GrD x)) (.leaf (Q4 (A4b x))) .fail
def pNg:Prims:=pNf.addt 42 (M8 O5 VNg)
theorem G3w{A:Amb}(hT:Tab A)(hG:gN prog<=A.G):PrimOK prog A pNg:=by
 have h0:=G3v hT hG
 have h1:PrimOK prog A pNg1:=E6v h0 h0
 refine H8 hG (E6u h1 h1) h0 O5 VNg func42 (by kernel_rfl) fun x v hv=>?_
 obtain⟨hz,hv⟩:=Tr.br1 hv
 cases hv
 have hz:=H6 hz
 refine⟨_,(G9l x).trans (A8 (P5 (D0f x) (show C2u x from hz)) rfl),rfl,?_⟩
 intro Z y hy
 have h2:VR Z (Q4 (A5p (A3k (A9k x)) (A3k (A9k x)).l.length)) y:=hy
 rw[D0f] at h2
 exact h2
def A8t:Code:=I7 (J6 2 (f87.body.getD .skip))
def sp87i:SP:=⟨dr 3++[.list 11]++dr 5++[.flist 5]++[.int .i64]++[.int .i64]++dr 4++[.flist 2]++[.int .i64]++[.int .i64]++dr 11,dd8++[.any,.dead,.any,.vec 1 9]⟩
def B0y:AEx->SP
 | .exit 2=>⟨dr 3++[.list 11]++dr 5++[.flist 5]++[.int .i64]++[.int .i64]++dr 18,dd8++[.any,.dead,.any,.vec 1 9]⟩
 | _=>sp87i
theorem D3g(x:Fea)(f:Frm)(T:List Txt)(M:List Dat)(a b i n:Int)(c:Nat)(g:Nat->List FV)(m:Nat)(r:Nat->List AV):E8 prog (D5 prog pNg 60) (pNg.blk 87) A8t (sp87i.rho [.n m,.n c,.fr g,.i a,.i b,.n M.length,.fr (A7 Dat.fv M),.i i,.i n,.o (F5 x),.o (Q8 f),.n m,.r r]) (sp87i.heap [.n m,.n c,.fr g,.i a,.i b,.n M.length,.fr (A7 Dat.fv M),.i i,.i n,.o (F5 x),.o (Q8 f),.n m,.r r]) (H9 B0y 11 [9]) =
  brK (decide (n<i)) (brK (decide (0<=n/\n<(M.length:Int))) (brK (decide (m+1<2147483648/\m=m)) (some (.normal,[.n (m+1),.n (c),.fr (g),.i (a),.i (b),.n (M.length),.fr (A7 Dat.fv M),.i (i),.i (W (n+1)),.o (F5 (x)),.o (Q8 (f)),.n (m+1),.r (K4 m r [.sstr (M.getD n.toNat default).s])])) none) none) (some (.exit 2,[.n (m),.n (c),.fr (g),.i (a),.i (b),.o (F5 (x)),.o (Q8 (f)),.n (m),.r r])):=by kernel_rfl
structure B87 where
 x:Fea
 f:Frm
 T:List Txt
 c:Nat
 g:Nat->List FV
 a:Int
 b:Int
def A0b(y:B87)(n:Nat):List Txt:=y.T++(y.f.l.take n).map (·.s)
theorem G5r(y:B87):A0b y 0=y.T:=by simp[A0b]
theorem E3w{y:B87}{n:Nat}(h:n<y.f.l.length):A0b y (n+1)=A0b y n++[(y.f.l.getD n default).s]:=by
 unfold A0b
 rw[List.take_succ_eq_append_getElem h,List.map_append,gD,gE h,List.append_assoc]
 rfl
theorem F1z(y:B87)(n:Nat):(A0b y n).length<=y.T.length+n:=by simp[A0b]; omega
def E8g(y:B87)(T:List Txt)(n:Nat)(m:Nat)(r:Nat->List AV):List Lf:=[.n m,.n y.c,.fr y.g,.i y.a,.i y.b,.n y.f.l.length,.fr (A7 Dat.fv y.f.l),.i y.f.l.length,.i n,.o (F5 y.x),.o (Q8 y.f),.n m,.r r]
def B6j(y:B87)(n:Nat):List Lf:=E8g y y.T n (A0b y n).length (D6 (A0b y n))
def sp087i:SP:=⟨dr 3++[.list 9]++dr 5++[.flist 5]++[.int .i64]++[.int .i64]++dr 4++[.flist 2]++[.int .i64]++[.int .i64]++dr 11,dd8++[.any,.vec 1 9,.any]⟩
def A4h(y:B87):List Lf:=[.n y.T.length,.n y.c,.fr y.g,.i y.a,.i y.b,.n y.f.l.length,.fr (A7 Dat.fv y.f.l),.i y.f.l.length,.i 0,.o (F5 y.x),.n y.T.length,.r (D6 y.T),.o (Q8 y.f)]
def D9d(ls:List Lf)(y:B87):List Lf:=match ls with
 | [_,c,g,a,b,_,_,_,_,o,_,_,f]=>[.n (A0b y y.f.l.length).length,c,g,a,b,o,f,.n (A0b y y.f.l.length).length,.r (D6 (A0b y y.f.l.length))]
 | _=>[]
def A0x:List Lf->B87
 | [.n n,.n c,.fr g,.i a,.i b,_,_,_,_,.o o,_,.r r,.o f]=>⟨A2d o,D2p f,P6 n r,c,g,a,b⟩
 | _=>⟨default,default,[],0,fun _=>[],0,0⟩
def C2x(y:B87):Prop:=y.T.length<=1000000/\y.f.l.length<=1000000
theorem D0k(y:B87):A0x (A4h y)=y:=by
 simp[A0x,A4h,A1r,O0,B9l]
theorem SEB.step87i{A:Amb}(hq:PrimOK prog A pNg)(y:B87)(hy:C2x y)(n:Nat)(hn:n<y.f.l.length)(Bb:Heap)(hB:Bb.length=11) :
  SEB prog A Bb A8t ⟨sp87i.rho (B6j y n),sp87i.heap (B6j y n),[9]⟩ .normal ⟨sp87i.rho (B6j y (n+1)),sp87i.heap (B6j y (n+1)),[9]⟩:=by
 obtain⟨h1,h2⟩:=hy
 have hlen:=F1z y n
 have hk:=D3g y.x y.f y.T y.f.l y.a y.b y.f.l.length n y.c y.g (A0b y n).length (D6 (A0b y n))
 rw[dT (show(n:Int)<(y.f.l.length:Int) by omega),dT (show 0<=(n:Int)/\(n:Int)<(y.f.l.length:Int) by omega),tN,dT (show(A0b y n).length+1<2147483648/\(A0b y n).length=(A0b y n).length from⟨by omega,rfl⟩),C4d (show n<2^62 by omega)] at hk
 have hbl:BlkOK prog A (pNg.blk 87) A8t:=(hq.blk 87 f87 (f87.body.getD .skip) func87 (show f87.body=some (f87.body.getD .skip) by kernel_rfl)).sub (id:=2) (by kernel_rfl)
 have h3:=SEB.of_KP (e:=.normal) (sp:=B0y) (B0:=Bb) (ds:=[9]) F7 F9 hq hbl hB hk rfl
 refine SEB.wk_out h3 ?_
 unfold B6j
 rw[E3w hn]
 have w:=Wk.rowsQ (A:=A) (B0:=Bb) (U:=sp87i.rho (E8g y y.T (n+1) ((A0b y n).length+1) (K4 (A0b y n).length (D6 (A0b y n)) [.sstr (y.f.l.getD n default).s]))) (D:=[9]) (B:=sp87i.heap (E8g y y.T (n+1) ((A0b y n).length+1) (K4 (A0b y n).length (D6 (A0b y n)) [.sstr (y.f.l.getD n default).s]))) (b:=11) (r':=D6 (A0b y n++[(y.f.l.getD n default).s])) (ty:=9) rfl (fun h=>by omega) (fun i hi=>A1w (A0b y n) _ hi)
 have e:(A0b y n++[(y.f.l.getD n default).s]).length=(A0b y n).length+1:=by simp
 rw[e]
 exact w
theorem SEB.end87i{A:Amb}(hq:PrimOK prog A pNg)(y:B87)(Bb:Heap)(hB:Bb.length=11) :
  SEB prog A Bb A8t ⟨sp87i.rho (B6j y y.f.l.length),sp87i.heap (B6j y y.f.l.length),[9]⟩ (.exit 2) ⟨(B0y (.exit 2)).rho (D9d (A4h y) y),(B0y (.exit 2)).heap (D9d (A4h y) y),[9]⟩:=by
 have hk:=D3g y.x y.f y.T y.f.l y.a y.b y.f.l.length y.f.l.length y.c y.g (A0b y y.f.l.length).length (D6 (A0b y y.f.l.length))
 rw[dF (show ¬ (y.f.l.length:Int)<(y.f.l.length:Int) by omega)] at hk
 have hbl:BlkOK prog A (pNg.blk 87) A8t:=(hq.blk 87 f87 (f87.body.getD .skip) func87 (show f87.body=some (f87.body.getD .skip) by kernel_rfl)).sub (id:=2) (by kernel_rfl)
 exact SEB.of_KP (e:=.exit 2) (sp:=B0y) (B0:=Bb) (ds:=[9]) F7 F9 hq hbl hB hk rfl
theorem G2f{A:Amb}(y:B87)(Bb:Heap)(hB:Bb.length=11):Wk A Bb ⟨sp087i.rho (A4h y),sp087i.heap (A4h y),[9]⟩ ⟨sp87i.rho (B6j y 0),sp87i.heap (B6j y 0),[9]⟩:=by
 have _:=hB
 unfold B6j
 rw[G5r]
 exact Wk.mov (A:=A) (B0:=Bb) (U:=sp087i.rho (A4h y)) (U2:=(sp087i.rho (A4h y)).set 3 (.sslice 11 0 y.T.length)) (B:=sp087i.heap (A4h y)) (D:=[9]) (b:=9) (o:=.vec y.T.length (D6 y.T) 1 9) rfl (by simp) (fun Z Z2 hle hnew vs hv=>by
  refine E1d hle (t:=3) (a:=.sslice 9 0 y.T.length) rfl (fun v hv=>?_) hv
  simp only[VR] at hv ⊢
  rw[show Z2 11=Z 9 from hnew]; exact hv)
def G0k:Blk:=hookP sp087i 11 [9] (itT (B0y (.exit 2)) 2 (.exit 2) A0x A4h D9d C2x)
theorem E7k{A:Amb}{q:Prims}(h0:PrimOK prog A pNg)(hq:PrimOK prog A q):PrimOK prog A (q.addb 87 2 G0k) :=
 SEB.iterR (P:=prog) (sp0:=sp087i) (sp:=sp87i) (sq:=B0y (.exit 2)) (m:=11) (ds:=[9]) (ee:=.exit 2) (dec:=A0x) (L0:=A4h) (L:=B6j) (Le:=D9d) (N:=fun y=>y.f.l.length) (Inv:=C2x) hq func87 (show f87.body=some (f87.body.getD .skip) by kernel_rfl) (body:=A8t) (by kernel_rfl)
  rfl (by simp) (fun _=>⟨.inr rfl,.inr rfl,.inr rfl,.inr rfl,.inr rfl,.inr rfl,.inr rfl,.inr rfl,.inr rfl,.inl rfl,.inr rfl,trivial⟩) (fun y _ Bb hB=>G2f y Bb hB) (fun y hy n hn Bb hB=>SEB.step87i h0 y hy n hn Bb hB) (fun y _ Bb hB=>SEB.end87i h0 y Bb hB)
def pNh1:Prims:=pNg.addb 87 2 G0k
def C5q:Code:=I7 (J6 0 (f87.body.getD .skip))
def sp87a:SP:=⟨dr 3++[.list 9]++dr 5++[.flist 5]++[.int .i64]++[.int .i64]++dr 18,dd8++[.any,.vec 1 9]⟩
def C8o:AEx->SP
 | .exit 0=>⟨dr 3++[.list 9]++dr 26,dd8++[.any,.vec 1 9]⟩
 | _=>sp87a
theorem F0v(x:Fea)(T:List Txt)(l:List Frm)(a n:Int):E8 prog (D5 prog pNh1 60) (pNh1.blk 87) C5q (sp87a.rho [.n T.length,.n l.length,.fr (A7 Frm.fv l),.i a,.i n,.o (F5 x),.n T.length,.r (D6 T)]) (sp87a.heap [.n T.length,.n l.length,.fr (A7 Frm.fv l),.i a,.i n,.o (F5 x),.n T.length,.r (D6 T)]) (H9 C8o 9 [9]) =
  brK (decide (n<a)) (brK (decide (0<=n/\n<(l.length:Int))) (brK (itC A4h A0x C2x [Lf.n T.length,Lf.n l.length,Lf.fr (A7 Frm.fv l),Lf.i a,Lf.i n,Lf.n (l.getD n.toNat default).l.length,Lf.fr (A7 Dat.fv (l.getD n.toNat default).l),Lf.i ((l.getD n.toNat default).l.length:Int),Lf.i 0,Lf.o (F5 x),Lf.n T.length,Lf.r (D6 T),Lf.o (Q8 (l.getD n.toNat default))]) (some (.normal,[.n ((A0b (A0x [Lf.n T.length,Lf.n l.length,Lf.fr (A7 Frm.fv l),Lf.i a,Lf.i n,Lf.n (l.getD n.toNat default).l.length,Lf.fr (A7 Dat.fv (l.getD n.toNat default).l),Lf.i ((l.getD n.toNat default).l.length:Int),Lf.i 0,Lf.o (F5 x),Lf.n T.length,Lf.r (D6 T),Lf.o (Q8 (l.getD n.toNat default))]) (A0x [Lf.n T.length,Lf.n l.length,Lf.fr (A7 Frm.fv l),Lf.i a,Lf.i n,Lf.n (l.getD n.toNat default).l.length,Lf.fr (A7 Dat.fv (l.getD n.toNat default).l),Lf.i ((l.getD n.toNat default).l.length:Int),Lf.i 0,Lf.o (F5 x),Lf.n T.length,Lf.r (D6 T),Lf.o (Q8 (l.getD n.toNat default))]).f.l.length).length),.n (l.length),.fr (A7 Frm.fv l),.i (a),.i (W (n+1)),.o (F5 (x)),.n ((A0b (A0x [Lf.n T.length,Lf.n l.length,Lf.fr (A7 Frm.fv l),Lf.i a,Lf.i n,Lf.n (l.getD n.toNat default).l.length,Lf.fr (A7 Dat.fv (l.getD n.toNat default).l),Lf.i ((l.getD n.toNat default).l.length:Int),Lf.i 0,Lf.o (F5 x),Lf.n T.length,Lf.r (D6 T),Lf.o (Q8 (l.getD n.toNat default))]) (A0x [Lf.n T.length,Lf.n l.length,Lf.fr (A7 Frm.fv l),Lf.i a,Lf.i n,Lf.n (l.getD n.toNat default).l.length,Lf.fr (A7 Dat.fv (l.getD n.toNat default).l),Lf.i ((l.getD n.toNat default).l.length:Int),Lf.i 0,Lf.o (F5 x),Lf.n T.length,Lf.r (D6 T),Lf.o (Q8 (l.getD n.toNat default))]).f.l.length).length),.r (fun i=>[AV.sstr ((A0b (A0x [Lf.n T.length,Lf.n l.length,Lf.fr (A7 Frm.fv l),Lf.i a,Lf.i n,Lf.n (l.getD n.toNat default).l.length,Lf.fr (A7 Dat.fv (l.getD n.toNat default).l),Lf.i ((l.getD n.toNat default).l.length:Int),Lf.i 0,Lf.o (F5 x),Lf.n T.length,Lf.r (D6 T),Lf.o (Q8 (l.getD n.toNat default))]) (A0x [Lf.n T.length,Lf.n l.length,Lf.fr (A7 Frm.fv l),Lf.i a,Lf.i n,Lf.n (l.getD n.toNat default).l.length,Lf.fr (A7 Dat.fv (l.getD n.toNat default).l),Lf.i ((l.getD n.toNat default).l.length:Int),Lf.i 0,Lf.o (F5 x),Lf.n T.length,Lf.r (D6 T),Lf.o (Q8 (l.getD n.toNat default))]).f.l.length).getD i [])])])) none) none) (some (.exit 0,[.n (T.length),.o (F5 (x)),.n (T.length),.r (fun i=>[AV.sstr (T.getD i [])])])):=by kernel_rfl
def V3(x:Fea)(n:Nat):List Txt:=(x.l.take n).flatMap fun f=>f.l.map (·.s)
theorem B3u{x:Fea}{n:Nat}(h:n<x.l.length):V3 x (n+1)=V3 x n++(F4 x n).l.map (·.s):=by
 unfold V3 F4
 rw[List.take_succ_eq_append_getElem h,List.flatMap_append,gD,gE h]
 simp
theorem A8e{x:Fea}(h:SmlF x):∀ n,n<=x.l.length->(V3 x n).length<=100*n
 | 0,_=>by simp[V3]
 | n+1,hn=>by
  rw[B3u (by omega),lA,List.length_map]
  have h2:=A8e h n (by omega)
  have h3:=h.d n (by omega)
  omega
def C8z(x:Fea)(n:Nat):List Lf:=[.n (V3 x n).length,.n x.l.length,.fr (A7 Frm.fv x.l),.i x.l.length,.i n,.o (F5 x),.n (V3 x n).length,.r (D6 (V3 x n))]
def A2z(x:Fea):List Lf:=[.n 0,.n x.l.length,.fr (A7 Frm.fv x.l),.i x.l.length,.i 0,.o (F5 x),.n 0,.r (fun _=>[])]
def E4h(ls:List Lf)(x:Fea):List Lf:=match ls with
 | [_,_,_,_,_,o,_,_]=>[.n (V3 x x.l.length).length,o,.n (V3 x x.l.length).length,.r (D6 (V3 x x.l.length))]
 | _=>[]
def C9g(x:Fea):Nat:=x.l.length
def A6i:List Lf->Fea
 | [_,_,_,_,_,.o o,_,_]=>A2d o
 | _=>default
theorem E2o(x:Fea)(f:Frm)(T:List Txt)(c:Nat)(g:Nat->List FV)(a b:Int):A0x [Lf.n T.length,Lf.n c,Lf.fr g,Lf.i a,Lf.i b,Lf.n f.l.length,Lf.fr (A7 Dat.fv f.l),Lf.i (f.l.length:Int),Lf.i 0,Lf.o (F5 x),Lf.n T.length,Lf.r (D6 T),Lf.o (Q8 f)]=⟨x,f,T,c,g,a,b⟩:=D0k ⟨x,f,T,c,g,a,b⟩
theorem G7j{x:Fea}{f:Frm}{T:List Txt}(c:Nat)(g:Nat->List FV)(a b:Int)(h1:T.length<=1000000)(h2:f.l.length<=1000000):itC A4h A0x C2x [Lf.n T.length,Lf.n c,Lf.fr g,Lf.i a,Lf.i b,Lf.n f.l.length,Lf.fr (A7 Dat.fv f.l),Lf.i (f.l.length:Int),Lf.i 0,Lf.o (F5 x),Lf.n T.length,Lf.r (D6 T),Lf.o (Q8 f)]=true :=
 P5 (L0:=A4h) (dec:=A0x) (Inv:=C2x) (x:=⟨x,f,T,c,g,a,b⟩) (D0k _) ⟨h1,h2⟩
theorem F8s(x:Fea)(hx:SmlF x)(n:Nat)(hn:n<=C9g x):E8 prog (D5 prog pNh1 60) (pNh1.blk 87) C5q (sp87a.rho (C8z x n)) (sp87a.heap (C8z x n)) (H9 C8o 9 [9])=some (if n<C9g x then(.normal,C8z x (n+1)) else(.exit 0,E4h (A2z x) x)):=by
 have hl:=hx.l
 have hn2:n<=x.l.length:=hn
 have hlen:=A8e hx n hn
 simp only[C8z]
 rw[F0v,I5 hn (show C9g x<2^62 by show x.l.length<2^62; omega)]
 simp only[tN]
 by_cases h:n<C9g x
 ·rw[if_pos h,B3u h]
  simp only[C9g] at h
  have hd:=hx.d n h
  rw[E2o]
  refine A8 (dT (by omega)) (A8 (dT (by omega)) (A8 (G7j _ _ _ _ (by omega) (Nat.le_trans hd (by omega))) ?_))
  have e:A0b ⟨x,x.l.getD n default,V3 x n,x.l.length,A7 Frm.fv x.l,x.l.length,n⟩ (x.l.getD n default).l.length=V3 x n++(F4 x n).l.map (·.s):=by
   unfold A0b F4
   rw[List.take_length]
  dsimp only
  rw[e]
  rfl
 ·rw[if_neg h]
  have e:n=C9g x:=Nat.le_antisymm hn (Nat.le_of_not_lt h)
  subst e
  exact C8 (dF (by unfold C9g; omega)) rfl
theorem G2e{A:Amb}(x:Fea)(_hx:SmlF x)(Bb:Heap)(hB:Bb.length=9):Wk A Bb ⟨sp87a.rho (A2z x),sp87a.heap (A2z x),[9]⟩ ⟨sp87a.rho (C8z x 0),sp87a.heap (C8z x 0),[9]⟩:=by
 have e:V3 x 0=[]:=by simp[V3]
 unfold C8z
 rw[e]
 exact Wk.rowsQ (A:=A) (B0:=Bb) (U:=sp87a.rho (A2z x)) (D:=[9]) (B:=sp87a.heap (A2z x)) (b:=9) (r':=D6 []) (ty:=9) rfl (fun h=>by omega) (fun i hi=>(Nat.not_lt_zero i hi).elim)
def G0j:Blk:=hookP sp87a 9 [9] (itT (C8o (.exit 0)) 0 (.exit 0) A6i A2z E4h SmlF)
theorem E7j{A:Amb}{q:Prims}(h0:PrimOK prog A pNh1)(hq:PrimOK prog A q):PrimOK prog A (q.addb 87 0 G0j) :=
 SEB.iterK (id:=0) (ds:=[9]) (dec:=A6i) (sp0:=sp87a) (sp:=sp87a) (sq:=C8o) (m:=9) (ee:=.exit 0) (L0:=A2z) (L:=C8z) (Le:=E4h) (N:=C9g) (Inv:=SmlF) (k:=60) F7 F9 h0 hq func87 (show f87.body=some (f87.body.getD .skip) by kernel_rfl) (body:=C5q) (by kernel_rfl)
  rfl rfl rfl rfl (by simp) (fun _=>⟨.inr rfl,.inr rfl,.inr rfl,.inr rfl,.inr rfl,.inr rfl,.inr rfl,.inr rfl,.inr rfl,.inl rfl,trivial⟩) G2e F8s
def pNh2:Prims:=pNh1.addb 87 0 G0j
def spNh:SP:=⟨dr 2++[.flist 1]++dr 27,dd8⟩
theorem D5j(x:Fea):E8 prog (D5 prog pNh2 60) (pNh2.blk 87) (f87.body.getD .skip) ([.agg x.av]++List.replicate 29 H7) (Bg 8) (D6w (fun _=>[.frz 2]) (fun _=>spNh) 8 []) =
  brK (itC A2z A6i SmlF (A2z x)) (fzT .ret (V3 (A6i (A2z x)) (A6i (A2z x)).l.length).length (D6 (V3 (A6i (A2z x)) (A6i (A2z x)).l.length))) none:=by kernel_rfl
theorem D0j(x:Fea):A6i (A2z x)=x:=by simp[A6i,A2z,O0]
def VNh(x:Fea):Tr AV:=.br (E9 (SmlF x)) (.leaf (Q4 (V3 x x.l.length))) .fail
def pNh:Prims:=pNg.addt 87 (M8 A0g VNh)
theorem C7f{A:Amb}(hT:Tab A)(hG:gN prog<=A.G):PrimOK prog A pNh:=by
 have h0:=G3w hT hG
 have h1:PrimOK prog A pNh1:=E7k h0 h0
 have h2:PrimOK prog A pNh2:=E7j h1 h1
 refine PrimOK.addParB h0 hG A0g VNh func87 (show f87.body=some (f87.body.getD .skip) by kernel_rfl) fun x v hv=>?_
 obtain⟨hz,hv⟩:=Tr.br1 hv
 cases hv
 have hz:=H6 hz
 have hb:BlkOK prog A (pNh2.blk 87) (f87.body.getD .skip):=h2.blk 87 f87 (f87.body.getD .skip) func87 (show f87.body=some (f87.body.getD .skip) by kernel_rfl)
 have hk:=D5j x
 rw[D0j,P5 (D0j x) hz] at hk
 unfold fzT at hk
 rw[A9 (A8w (V3 x x.l.length))] at hk
 refine⟨.ret,⟨spNh.rho [.n (V3 x x.l.length).length,.fr (A2r (D6 (V3 x x.l.length)))],spNh.heap [.n (V3 x x.l.length).length,.fr (A2r (D6 (V3 x x.l.length)))],[]⟩,[Q4 (V3 x x.l.length)],?_,by simp,by kernel_rfl,rfl,rfl,fun Z y hy=>hy⟩
 rw[gsz]
 exact SEB.of_KG (e:=.ret) (sp:=fun _=>spNh) (gs:=fun _=>[.frz 2]) (B0:=Bg 8) (ds:=[]) F7 F9 h2 hb rfl hk rfl
end Go.Proofs.Tryz
