/- Drawings: lists of names. -/
import Derived.Test.YtoboneiigikidaaGreatDoorNd
import Derived.Test.YtoboneiigikidaaGreatDoorAdFind
noncomputable section
namespace Go.Proofs.Tryz
open Go.Ad
def A7m(l:List Txt)(s:Txt)(n:Nat):Bool:=l.getD n default==s
theorem D1p(l:List Txt)(s:Txt):A2s (A7m l s) l.length=l.length↔s∉l:=by
 constructor
 ·intro h hs
  obtain⟨i,hi,rfl⟩:=List.getElem_of_mem hs
  have:(l.getD i default==l[i])=false:=A8f (p:=A7m l l[i]) (N:=l.length) (i:=i) (by omega)
  rw[gD,gE hi] at this
  simp at this
 ·intro h
  refine Classical.byContradiction fun hne=>h ?_
  have hlt:A2s (A7m l s) l.length<l.length:=by have:=B6a (p:=A7m l s) (N:=l.length); omega
  have:(l.getD (A2s (A7m l s) l.length) default==s)=true:=C6m (p:=A7m l s) (N:=l.length) hlt
  rw[gD,gE hlt] at this
  have:=eq_of_beq this
  rw[<- this]
  exact List.getElem_mem hlt
def D5e:Code:=I7 (J8 0 (f50.body.getD .skip))
def sp50:SP:=⟨[.flist 1]++[.str]++dr 3++[.int .i64]++dr 12,dd8⟩
def E1o:AEx->SP
 | .ret=>⟨dr 4++[.bool]++dr 13,dd8⟩
 | .exit 0=>⟨dr 18,dd8⟩
 | _=>sp50
theorem F7j(l:List Txt)(s:Txt)(n:Int):F3 prog (D6 prog pNe 60) (pNe.blk 50) D5e (sp50.rho [.n l.length,.fr (A7 txF l),.s s,.i n]) (sp50.heap [.n l.length,.fr (A7 txF l),.s s,.i n]) (I1 E1o 8 []) =
  brK (decide (n<(l.length:Int))) (brK (decide (0<=n/\n<(l.length:Int))) (brK (l.getD n.toNat default==s) (some (.ret,[.b (true)])) (some (.normal,[.n (l.length),.fr (A7 txF l),.s (s),.i (W (n+1))]))) none) (some (.exit 0,[])):=by kernel_rfl
def L50(x:List Txt×Txt)(n:Nat):List Lf:=[.n x.1.length,.fr (A7 txF x.1),.s x.2,.i n]
def F2l:List Lf->Nat->List Lf:=fun _ _=>[.b true]
def F2u:List Lf->List Lf:=fun _=>[]
def N50(x:List Txt×Txt):Nat:=x.1.length
def p50(x:List Txt×Txt)(n:Nat):Bool:=!A7m x.1 x.2 n
def E3i(x:List Txt×Txt):Prop:=x.1.length<2^62
def B8p:List Lf->List Txt×Txt
 | [.n a,.fr b,.s s,_]=>(ofR txF a b,s)
 | _=>default
theorem G5a(x:List Txt×Txt)(hx:E3i x)(n:Nat)(hn:n<=N50 x):F3 prog (D6 prog pNe 60) (pNe.blk 50) D5e (sp50.rho (L50 x n)) (sp50.heap (L50 x n)) (I1 E1o 8 [])=some (if n<N50 x then(bif p50 x n then(.normal,L50 x (n+1)) else(.ret,F2l (L50 x 0) n)) else(.exit 0,F2u (L50 x 0))):=by
 have h1:=hx
 simp only[E3i] at h1
 simp only[L50,F2l,F2u]
 rw[F7j,I6 hn h1]
 simp only[tN,Nat.zero_add]
 by_cases h:n<N50 x
 ·rw[if_pos h]
  simp only[N50,A7m] at h
  simp only[p50,A7m]
  cases hE:x.1.getD n default==x.2
  all_goals
   repeat first
    | exact rfl
    | refine A8 rfl ?_
    | refine C8 rfl ?_
    | refine A8 (by simp only[SBs]; omega) ?_
    | refine C8 (by simp only[SBs]; omega) ?_
    | exact congrArg some (A0a (by first | (simp only[SBs]; omega) | simp)).symm
    | exact congrArg some (Z9 (by first | (simp only[SBs]; omega) | simp)).symm
 ·rw[if_neg h]
  simp only[N50,A7m] at h
  repeat first
   | exact rfl
   | refine A8 rfl ?_
   | refine C8 rfl ?_
   | refine A8 (by simp only[SBs]; omega) ?_
   | refine C8 (by simp only[SBs]; omega) ?_
   | exact congrArg some (A0a (by first | (simp only[SBs]; omega) | simp)).symm
   | exact congrArg some (Z9 (by first | (simp only[SBs]; omega) | simp)).symm
def G6o:Blk:=hookP sp50 8 [] (fdT E1o 0 .ret (.exit 0) B8p L50 F2l F2u N50 p50 E3i)
theorem F4y{A:Amb}{q:Prims}(h0:PrimOK prog A pNe)(hq:PrimOK prog A q):PrimOK prog A (q.addb 50 0 G6o) :=
 SEB.findR (id:=0) (ds:=[]) (dec:=B8p) (sp:=sp50) (sq:=E1o) (m:=8) (eb:=.ret) (ee:=.exit 0) (L:=L50) (Lb:=F2l) (Le:=F2u) (N:=N50) (p:=p50) (Inv:=E3i) (k:=60) F8 G5 h0 hq func50 (show f50.body=some (f50.body.getD .skip) by kernel_rfl) (body:=D5e) (by kernel_rfl)
  rfl rfl rfl rfl (by simp) (by simp) (fun _ _=>⟨⟨.inr rfl,.inr rfl,.inr rfl,.inr rfl,.inr rfl,.inr rfl,.inr rfl,.inr rfl,trivial⟩,⟨.inr rfl,.inr rfl,.inr rfl,.inr rfl,.inr rfl,.inr rfl,.inr rfl,.inr rfl,trivial⟩⟩) G5a
def D5j:Code:=I7 (J8 0 (f63.body.getD .skip))
def sp63:SP:=⟨[.flist 1]++[.str]++dr 5++[.int .i64]++[.int .i64]++dr 10,dd8⟩
def E1t:AEx->SP
 | .ret=>⟨dr 4++[.int .i64]++dr 14,dd8⟩
 | .exit 0=>⟨dr 19,dd8⟩
 | _=>sp63
theorem F7o(l:List Txt)(s:Txt)(n:Int):F3 prog (D6 prog pNe 60) (pNe.blk 63) D5j (sp63.rho [.n l.length,.fr (A7 txF l),.s s,.i l.length,.i n]) (sp63.heap [.n l.length,.fr (A7 txF l),.s s,.i l.length,.i n]) (I1 E1t 8 []) =
  brK (decide (n<(l.length:Int))) (brK (decide (0<=n/\n<(l.length:Int))) (brK (s==l.getD n.toNat default) (some (.ret,[.i (n)])) (some (.normal,[.n (l.length),.fr (A7 txF l),.s (s),.i ((l.length:Int)),.i (W (n+1))]))) none) (some (.exit 0,[])):=by kernel_rfl
def L63(x:List Txt×Txt)(n:Nat):List Lf:=[.n x.1.length,.fr (A7 txF x.1),.s x.2,.i x.1.length,.i n]
def F2m:List Lf->Nat->List Lf:=fun _ n=>[.i n]
def F2w:List Lf->List Lf:=fun _=>[]
def N63(x:List Txt×Txt):Nat:=x.1.length
def p63(x:List Txt×Txt)(n:Nat):Bool:=!(x.2==x.1.getD n default)
def E3k(x:List Txt×Txt):Prop:=x.1.length<2^62
def B2f:List Lf->List Txt×Txt
 | [.n a,.fr b,.s s,_,_]=>(ofR txF a b,s)
 | _=>default
theorem G5f(x:List Txt×Txt)(hx:E3k x)(n:Nat)(hn:n<=N63 x):F3 prog (D6 prog pNe 60) (pNe.blk 63) D5j (sp63.rho (L63 x n)) (sp63.heap (L63 x n)) (I1 E1t 8 [])=some (if n<N63 x then(bif p63 x n then(.normal,L63 x (n+1)) else(.ret,F2m (L63 x 0) n)) else(.exit 0,F2w (L63 x 0))):=by
 have h1:=hx
 simp only[E3k] at h1
 simp only[L63,F2m,F2w]
 rw[F7o,I6 hn h1]
 simp only[tN,Nat.zero_add]
 by_cases h:n<N63 x
 ·rw[if_pos h]
  simp only[N63,A7m] at h
  simp only[p63,A7m]
  cases hE:x.2==x.1.getD n default
  all_goals
   repeat first
    | exact rfl
    | refine A8 rfl ?_
    | refine C8 rfl ?_
    | refine A8 (by simp only[SBs]; omega) ?_
    | refine C8 (by simp only[SBs]; omega) ?_
    | exact congrArg some (A0a (by first | (simp only[SBs]; omega) | simp)).symm
    | exact congrArg some (Z9 (by first | (simp only[SBs]; omega) | simp)).symm
 ·rw[if_neg h]
  simp only[N63,A7m] at h
  repeat first
   | exact rfl
   | refine A8 rfl ?_
   | refine C8 rfl ?_
   | refine A8 (by simp only[SBs]; omega) ?_
   | refine C8 (by simp only[SBs]; omega) ?_
   | exact congrArg some (A0a (by first | (simp only[SBs]; omega) | simp)).symm
   | exact congrArg some (Z9 (by first | (simp only[SBs]; omega) | simp)).symm
def G6t:Blk:=hookP sp63 8 [] (fdT E1t 0 .ret (.exit 0) B2f L63 F2m F2w N63 p63 E3k)
theorem F5d{A:Amb}{q:Prims}(h0:PrimOK prog A pNe)(hq:PrimOK prog A q):PrimOK prog A (q.addb 63 0 G6t) :=
 SEB.findR (id:=0) (ds:=[]) (dec:=B2f) (sp:=sp63) (sq:=E1t) (m:=8) (eb:=.ret) (ee:=.exit 0) (L:=L63) (Lb:=F2m) (Le:=F2w) (N:=N63) (p:=p63) (Inv:=E3k) (k:=60) F8 G5 h0 hq func63 (show f63.body=some (f63.body.getD .skip) by kernel_rfl) (body:=D5j) (by kernel_rfl)
  rfl rfl rfl rfl (by simp) (by simp) (fun _ _=>⟨⟨.inr rfl,.inr rfl,.inr rfl,.inr rfl,.inr rfl,.inr rfl,.inr rfl,.inr rfl,trivial⟩,⟨.inr rfl,.inr rfl,.inr rfl,.inr rfl,.inr rfl,.inr rfl,.inr rfl,.inr rfl,trivial⟩⟩) G5f
def D4w:Code:=I7 (J8 0 (f15.body.getD .skip))
def sp15:SP:=⟨[.flist 1]++[.flist 1]++dr 10++[.int .i64]++[.int .i64]++dr 12,dd8⟩
def E1h:AEx->SP
 | .ret=>⟨dr 4++[.bool]++dr 21,dd8⟩
 | .exit 0=>⟨dr 26,dd8⟩
 | _=>sp15
theorem F7c(l m:List Txt)(n:Int):F3 prog (D6 prog pNe 60) (pNe.blk 15) D4w (sp15.rho [.n l.length,.fr (A7 txF l),.n m.length,.fr (A7 txF m),.i l.length,.i n]) (sp15.heap [.n l.length,.fr (A7 txF l),.n m.length,.fr (A7 txF m),.i l.length,.i n]) (I1 E1h 8 []) =
  brK (decide (n<(l.length:Int))) (brK (decide (0<=n/\n<(l.length:Int))) (brK (decide (0<=n/\n<(m.length:Int))) (brK (!l.getD n.toNat default==m.getD n.toNat default) (some (.ret,[.b (false)])) (some (.normal,[.n (l.length),.fr (A7 txF l),.n (m.length),.fr (A7 txF m),.i ((l.length:Int)),.i (W (n+1))]))) none) none) (some (.exit 0,[])):=by kernel_rfl
def L15(x:List Txt×List Txt)(n:Nat):List Lf:=[.n x.1.length,.fr (A7 txF x.1),.n x.2.length,.fr (A7 txF x.2),.i x.1.length,.i n]
def F2j:List Lf->Nat->List Lf:=fun _ _=>[.b false]
def F2q:List Lf->List Lf:=fun _=>[]
def N15(x:List Txt×List Txt):Nat:=x.1.length
def p15(x:List Txt×List Txt)(n:Nat):Bool:=(x.1.getD n default==x.2.getD n default)
def E7w(x:List Txt×List Txt):Prop:=x.1.length<2^62/\x.1.length=x.2.length
def B8n:List Lf->List Txt×List Txt
 | [.n a,.fr b,.n c,.fr d,_,_]=>(ofR txF a b,ofR txF c d)
 | _=>default
theorem G4t(x:List Txt×List Txt)(hx:E7w x)(n:Nat)(hn:n<=N15 x):F3 prog (D6 prog pNe 60) (pNe.blk 15) D4w (sp15.rho (L15 x n)) (sp15.heap (L15 x n)) (I1 E1h 8 [])=some (if n<N15 x then(bif p15 x n then(.normal,L15 x (n+1)) else(.ret,F2j (L15 x 0) n)) else(.exit 0,F2q (L15 x 0))):=by
 obtain⟨h1,h2⟩:=hx
 simp only[L15,F2j,F2q]
 rw[F7c,I6 hn h1]
 simp only[tN,Nat.zero_add]
 have hlen:=h2
 by_cases h:n<N15 x
 ·rw[if_pos h]
  simp only[N15] at h
  simp only[p15]
  cases hE:x.1.getD n default==x.2.getD n default
  all_goals
   repeat first
    | exact rfl
    | refine A8 rfl ?_
    | refine C8 rfl ?_
    | refine A8 (by simp only[SBs]; omega) ?_
    | refine C8 (by simp only[SBs]; omega) ?_
    | exact congrArg some (A0a (by first | (simp only[SBs]; omega) | simp)).symm
    | exact congrArg some (Z9 (by first | (simp only[SBs]; omega) | simp)).symm
 ·rw[if_neg h]
  simp only[N15] at h
  repeat first
   | exact rfl
   | refine A8 rfl ?_
   | refine C8 rfl ?_
   | refine A8 (by simp only[SBs]; omega) ?_
   | refine C8 (by simp only[SBs]; omega) ?_
   | exact congrArg some (A0a (by first | (simp only[SBs]; omega) | simp)).symm
   | exact congrArg some (Z9 (by first | (simp only[SBs]; omega) | simp)).symm
def G6j:Blk:=hookP sp15 8 [] (fdT E1h 0 .ret (.exit 0) B8n L15 F2j F2q N15 p15 E7w)
theorem F4t{A:Amb}{q:Prims}(h0:PrimOK prog A pNe)(hq:PrimOK prog A q):PrimOK prog A (q.addb 15 0 G6j) :=
 SEB.findR (id:=0) (ds:=[]) (dec:=B8n) (sp:=sp15) (sq:=E1h) (m:=8) (eb:=.ret) (ee:=.exit 0) (L:=L15) (Lb:=F2j) (Le:=F2q) (N:=N15) (p:=p15) (Inv:=E7w) (k:=60) F8 G5 h0 hq func15 (show f15.body=some (f15.body.getD .skip) by kernel_rfl) (body:=D4w) (by kernel_rfl)
  rfl rfl rfl rfl (by simp) (by simp) (fun _ _=>⟨⟨.inr rfl,.inr rfl,.inr rfl,.inr rfl,.inr rfl,.inr rfl,.inr rfl,.inr rfl,trivial⟩,⟨.inr rfl,.inr rfl,.inr rfl,.inr rfl,.inr rfl,.inr rfl,.inr rfl,.inr rfl,trivial⟩⟩) G4t
def D7p:Prims:=((pNe.addb 50 0 G6o).addb 63 0 G6t).addb 15 0 G6j
theorem F6p{A:Amb}(hT:Tab A)(hG:gN prog<=A.G):PrimOK prog A D7p:=by
 have h0:=E9l hT hG
 exact F4t h0 (F5d h0 (F4y h0 h0))
theorem D0g(l:List Txt)(s:Txt)(a:Lf):B8p [Lf.n l.length,Lf.fr (A7 txF l),Lf.s s,a]=(l,s):=by simp[B8p,I5 O5]
theorem D0h(l:List Txt)(s:Txt)(a b:Lf):B2f [Lf.n l.length,Lf.fr (A7 txF l),Lf.s s,a,b]=(l,s):=by simp[B2f,I5 O5]
theorem D0a(l m:List Txt)(a b:Lf):B8n [Lf.n l.length,Lf.fr (A7 txF l),Lf.n m.length,Lf.fr (A7 txF m),a,b]=(l,m):=by simp[B8n,I5 O5]
theorem G9f(l:List Txt)(s:Txt):(D6 prog D7p 60).call 50 [R7 l,.sstr s] (Bg 8) G7 =
  brK (fdC L50 B8p E3i [.n (l.length),.fr (A7 txF l),.s (s),.i (0)]) (brK (fdE p50 N50 (B8p [.n (l.length),.fr (A7 txF l),.s (s),.i (0)])) (some (.bool false)) (some (.sbool (true)))) none:=by kernel_rfl
theorem G8u(l:List Txt)(s:Txt):(D6 prog D7p 60).call 22 [R7 l,.sstr s] (Bg 8) G7 =
  brK (fdC L63 B2f E3k [.n (l.length),.fr (A7 txF l),.s (s),.i ((l.length:Int)),.i (0)]) (brK (fdE p63 N63 (B2f [.n (l.length),.fr (A7 txF l),.s (s),.i ((l.length:Int)),.i (0)])) (some (.bool false)) (some (.sbool (decide (((G9 (p63 (B2f [.n (l.length),.fr (A7 txF l),.s (s),.i ((l.length:Int)),.i (0)])) (N63 (B2f [.n (l.length),.fr (A7 txF l),.s (s),.i ((l.length:Int)),.i (0)])) 0):Int) >= 0))))) none:=by kernel_rfl
theorem G8r(l m:List Txt):(D6 prog D7p 60).call 15 [R7 l,R7 m] (Bg 8) G7 =
  brK ((l.length:Int) != (m.length:Int)) (some (.bool false)) (brK (fdC L15 B8n E7w [.n (l.length),.fr (A7 txF l),.n (m.length),.fr (A7 txF m),.i ((l.length:Int)),.i (0)]) (brK (fdE p15 N15 (B8n [.n (l.length),.fr (A7 txF l),.n (m.length),.fr (A7 txF m),.i ((l.length:Int)),.i (0)])) (some (.bool true)) (some (.sbool (false)))) none):=by kernel_rfl
theorem H1g(l:List Txt)(s:Txt)(h:l.length<2^62):∃ v,(D6 prog D7p 60).call 50 [R7 l,.sstr s] (Bg 8) G7=some v/\A5e (decide (s∈l)) v:=by
 rw[G9f,D0g]
 have hC:=J5 (L:=L50) (dec:=B8p) (Inv:=E3i) (x:=(l,s)) (D0g l s _) h
 have e:fdE p50 N50 (l,s)=decide (A2s (A7m l s) l.length=l.length):=rfl
 have hm:=D1p l s
 rw[e]
 by_cases h1:A2s (A7m l s) l.length=l.length
 ·exact⟨_,A8 hC (A8 (dT h1) rfl),by rw[dF (hm.1 h1)]; exact .inl rfl⟩
 ·have h2:s∈l:=Classical.byContradiction fun h2=>h1 (hm.2 h2)
  exact⟨_,A8 hC (C8 (dF h1) rfl),by rw[dT h2]; exact .inr rfl⟩
theorem G3d(l:List Txt)(s:Txt)(n:Nat):p63 (l,s) n=p50 (l,s) n:=by
 unfold p63 p50 A7m
 dsimp only
 rw[show(s==l.getD n default)=(l.getD n default==s) from BEq.comm]
theorem H0z(l:List Txt)(s:Txt)(h:l.length<2^62):∃ v,(D6 prog D7p 60).call 22 [R7 l,.sstr s] (Bg 8) G7=some v/\A5e (decide (s∈l)) v:=by
 rw[G8u,D0h]
 have hC:=J5 (L:=L63) (dec:=B2f) (Inv:=E3k) (x:=(l,s)) (D0h l s _ _) h
 have e:fdE p63 N63 (l,s)=decide (A2s (A7m l s) l.length=l.length):=by
  have:p63 (l,s)=p50 (l,s):=funext (G3d l s)
  unfold fdE
  rw[this]
  rfl
 have hm:=D1p l s
 rw[e]
 by_cases h1:A2s (A7m l s) l.length=l.length
 ·exact⟨_,A8 hC (A8 (dT h1) rfl),by rw[dF (hm.1 h1)]; exact .inl rfl⟩
 ·have h2:s∈l:=Classical.byContradiction fun h2=>h1 (hm.2 h2)
  exact⟨_,A8 hC (C8 (dF h1) rfl),by rw[dT h2]; exact .inr (by rw[dT (show((G9 (p63 (l,s)) (N63 (l,s)) 0:Nat):Int) >= 0 by omega)])⟩
theorem B4u{l m:List Txt}(h:l.length=m.length):A2s (fun n=>!(l.getD n default==m.getD n default)) l.length=l.length↔l=m:=by
 constructor
 ·intro hf
  refine List.ext_getElem h fun i h1 h2=>?_
  have:(!(l.getD i default==m.getD i default))=false:=A8f (p:=fun n=>!(l.getD n default==m.getD n default)) (N:=l.length) (i:=i) (by omega)
  rw[gD,gD,gE h1,gE h2] at this
  simpa using this
 ·rintro rfl
  refine Classical.byContradiction fun hne=>?_
  have hlt:A2s (fun n=>!(l.getD n default==l.getD n default)) l.length<l.length:=by have:=B6a (p:=fun n=>!(l.getD n default==l.getD n default)) (N:=l.length); omega
  have:=C6m hlt
  simp at this
theorem H0w(l m:List Txt)(h:l.length<2^62):∃ v,(D6 prog D7p 60).call 15 [R7 l,R7 m] (Bg 8) G7=some v/\A5e (decide (l=m)) v:=by
 rw[G8r]
 by_cases hl:l.length=m.length
 ·rw[D0a]
  have hC:=J5 (L:=L15) (dec:=B8n) (Inv:=E7w) (x:=(l,m)) (D0a l m _ _) ⟨h,hl⟩
  have e:fdE p15 N15 (l,m)=decide (A2s (fun n=>!(l.getD n default==m.getD n default)) l.length=l.length):=by
   unfold fdE A2s
   simp only[Bool.not_not]
   rfl
  rw[e]
  have h0:((l.length:Int) != (m.length:Int))=false:=by rw[hl]; simp
  by_cases h1:l=m
  ·exact⟨_,C8 h0 (A8 hC (A8 (dT ((B4u hl).2 h1)) rfl)),by rw[dT h1]; exact .inl rfl⟩
  ·exact⟨_,C8 h0 (A8 hC (C8 (dF fun h2=>h1 ((B4u hl).1 h2)) rfl)),by rw[dF h1]; exact .inr rfl⟩
 ·have h0:((l.length:Int) != (m.length:Int))=true:=by simp only[bne_iff_ne,ne_eq]; omega
  exact⟨_,A8 h0 rfl,by rw[dF (fun(h1:l=m)=>hl (by rw[h1]))]; exact .inl rfl⟩
def G0z:Par (List Txt×List Txt) where
 get:=fun | [a,b]=>(match B2p txF 1 a,B2p txF 1 b with | some (c,l),some (d,m)=>some (c&&d,(l,m)) | _,_=>none) | _=>none
 av:=fun x=>[R7 x.1,R7 x.2]
 ok:=by
  intro l x h Z vs hv
  split at h
  ·split at h
   ·rename_i h1 h2
    simp only[sI,pI,bA] at h
    obtain⟨⟨rfl,rfl⟩,rfl⟩:=h
    simp only[VRL] at hv ⊢
    obtain⟨y,r,e,q1,y2,r2,e2,q2,q3⟩:=hv
    exact⟨y,r,e,A3g h1 q1,y2,r2,e2,A3g h2 q2,q3⟩
   ·cases h
  ·cases h
 free:=fun _=>rfl
def F3b(x:List Txt×Txt):Tr AV:=.br (decide (x.1.length<2^62)) (.leaf (.sbool (decide (x.2∈x.1)))) .fail
def VEq(x:List Txt×List Txt):Tr AV:=.br (decide (x.1.length<2^62)) (.leaf (.sbool (decide (x.1=x.2)))) .fail
def pNf:Prims:=((pNe.addt 50 (Q8 parPT F3b)).addt 22 (Q8 parPT F3b)).addt 15 (Q8 G0z VEq)
theorem G3q{A:Amb}(hT:Tab A)(hG:gN prog<=A.G):PrimOK prog A pNf:=by
 have h0:=E9l hT hG
 have h1:=F6p hT hG
 refine J4 hG h1 (J4 hG h1 (J4 hG h1 h0 parPT F3b func50 (by kernel_rfl) fun x v hv=>?_) parPT F3b func22 (by kernel_rfl) fun x v hv=>?_) G0z VEq func15 (by kernel_rfl) fun x v hv=>?_
 ·obtain⟨hz,hv⟩:=Tr.br1 hv
  cases hv
  obtain⟨v',h3,h4⟩:=H1g x.1 x.2 (of_decide_eq_true hz)
  exact⟨v',h3,V7 h4,A0s h4⟩
 ·obtain⟨hz,hv⟩:=Tr.br1 hv
  cases hv
  obtain⟨v',h3,h4⟩:=H0z x.1 x.2 (of_decide_eq_true hz)
  exact⟨v',h3,V7 h4,A0s h4⟩
 ·obtain⟨hz,hv⟩:=Tr.br1 hv
  cases hv
  obtain⟨v',h3,h4⟩:=H0w x.1 x.2 (of_decide_eq_true hz)
  exact⟨v',h3,V7 h4,A0s h4⟩
def C5i:Code:=I7 (J8 2 (f42.body.getD .skip))
def sp42c:SP:=⟨dr 1++[.is (.ptr (some (8,0)))]++dr 1++[.flist 1]++[.int .i64]++[.flist 1]++[.int .i64]++dr 26,dd8++[.any]⟩
def C8a:AEx->SP
 | .exit 2=>⟨dr 1++[.is (.ptr (some (8,0)))]++dr 1++[.flist 1]++[.int .i64]++dr 28,dd8++[.any]⟩
 | _=>sp42c
theorem F0k(O M:List Txt)(i n:Int)(d:Drw):F3 prog (D6 prog pNf 60) (pNf.blk 42) C5i (sp42c.rho [.n O.length,.fr (A7 txF O),.i i,.n M.length,.fr (A7 txF M),.i n,.o (A9 d)]) (sp42c.heap [.n O.length,.fr (A7 txF O),.i i,.n M.length,.fr (A7 txF M),.i n,.o (A9 d)]) (I1 C8a 9 []) =
  brK (decide (n<(M.length:Int))) (brK (decide (0<=n/\n<(M.length:Int))) (brK (D8 (okR txF O.length (A7 txF O))) (brK (decide ((ofR txF O.length (A7 txF O)).length<=1000000)) (some (.normal,[.n ((Q3 (ofR txF O.length (A7 txF O)) (M.getD n.toNat default)).length),.fr (A7 txF (Q3 (ofR txF O.length (A7 txF O)) (M.getD n.toNat default))),.i (i),.n (M.length),.fr (A7 txF M),.i (W (n+1)),.o (A9 d)])) none) none) none) (some (.exit 2,[.n (O.length),.fr (A7 txF O),.i (i),.o (A9 d)])):=by kernel_rfl
def C4d(x:List Txt×List Txt×Int×Drw)(n:Nat):List Lf:=[.n ((x.2.1.take n).foldl Q3 x.1).length,.fr (A7 txF ((x.2.1.take n).foldl Q3 x.1)),.i x.2.2.1,.n x.2.1.length,.fr (A7 txF x.2.1),.i n,.o (A9 x.2.2.2)]
def B1n(x:List Txt×List Txt×Int×Drw):List Lf:=C4d x 0
def D9a:List Lf->(List Txt×List Txt×Int×Drw)->List Lf
 | [_,_,i,_,_,_,o],x=>[.n (x.2.1.foldl Q3 x.1).length,.fr (A7 txF (x.2.1.foldl Q3 x.1)),i,o]
 | _,_=>[]
def D3v(x:List Txt×List Txt×Int×Drw):Nat:=x.2.1.length
def B9d(x:List Txt×List Txt×Int×Drw):Prop:=x.1.length<=900000/\x.2.1.length<=10000
def A2w:List Lf->List Txt×List Txt×Int×Drw
 | [.n a,.fr b,.i i,.n c,.fr e,_,.o o]=>(ofR txF a b,ofR txF c e,i,I4 o)
 | _=>([],[],0,default)
theorem F8i(x:List Txt×List Txt×Int×Drw)(hx:B9d x)(n:Nat)(hn:n<=D3v x):F3 prog (D6 prog pNf 60) (pNf.blk 42) C5i (sp42c.rho (C4d x n)) (sp42c.heap (C4d x n)) (I1 C8a 9 [])=some (if n<D3v x then(.normal,C4d x (n+1)) else(.exit 2,D9a (B1n x) x)):=by
 obtain⟨O,M,i,d⟩:=x
 obtain⟨h1,h2⟩:=hx
 dsimp only at h1 h2
 simp only[C4d]
 rw[F0k,I6 hn (show D3v (O,M,i,d)<2^62 by show M.length<2^62; omega)]
 simp only[tN,I5 O5,K5]
 by_cases h:n<D3v (O,M,i,d)
 ·rw[if_pos h]
  simp only[D3v] at h
  have hl:=X8 (M.take n) O
  rw[List.length_take] at hl
  rw[A7g h]
  refine A8 (dT (by omega)) (A8 (dT (by omega)) (A8 rfl ?_))
  exact A8 (dT (by omega)) rfl
 ·rw[if_neg h]
  simp only[D3v] at h hn
  have e:M.take n=M:=List.take_of_length_le (by omega)
  simp only[D9a,B1n,C4d,e]
  exact C8 (dF (by omega)) rfl
theorem G1y{A:Amb}(x:List Txt×List Txt×Int×Drw)(_hx:B9d x)(Bb:Heap)(hB:Bb.length=9):Wk A Bb ⟨sp42c.rho (B1n x),sp42c.heap (B1n x),[]⟩ ⟨sp42c.rho (C4d x 0),sp42c.heap (C4d x 0),[]⟩:=by
 have _:=hB
 exact Wk.refl
def F9x:Blk:=hookP sp42c 9 [] (itT (C8a (.exit 2)) 2 (.exit 2) A2w B1n D9a B9d)
theorem E7a{A:Amb}{q:Prims}(h0:PrimOK prog A pNf)(hq:PrimOK prog A q):PrimOK prog A (q.addb 42 2 F9x) :=
 SEB.iterK (id:=2) (ds:=[]) (dec:=A2w) (sp0:=sp42c) (sp:=sp42c) (sq:=C8a) (m:=9) (ee:=.exit 2) (L0:=B1n) (L:=C4d) (Le:=D9a) (N:=D3v) (Inv:=B9d) (k:=60) F8 G5 h0 hq func42 (show f42.body=some (f42.body.getD .skip) by kernel_rfl) (body:=C5i) (by kernel_rfl)
  rfl rfl rfl rfl (by simp) (fun _=>⟨.inr rfl,.inr rfl,.inr rfl,.inr rfl,.inr rfl,.inr rfl,.inr rfl,.inr rfl,.inr rfl,trivial⟩) G1y F8i
theorem G7a{O M:List Txt}(h1:O.length<=900000)(h2:M.length<=10000)(i:Int)(d:Drw):A2w [Lf.n O.length,Lf.fr (A7 txF O),Lf.i i,Lf.n M.length,Lf.fr (A7 txF M),Lf.i 0,Lf.o (A9 d)]=(O,M,i,d)/\itC B1n A2w B9d [Lf.n O.length,Lf.fr (A7 txF O),Lf.i i,Lf.n M.length,Lf.fr (A7 txF M),Lf.i 0,Lf.o (A9 d)]=true :=
 have e:A2w [Lf.n O.length,Lf.fr (A7 txF O),Lf.i i,Lf.n M.length,Lf.fr (A7 txF M),Lf.i 0,Lf.o (A9 d)]=(O,M,i,d):=by simp[A2w,I5 O5,E8]
 ⟨e,Q9 (L0:=B1n) (dec:=A2w) (Inv:=B9d) (x:=(O,M,i,d)) e ⟨h1,h2⟩⟩
def pNg1:Prims:=pNf.addb 42 2 F9x
def A5z(d:Drw)(n:Nat):List Txt:=(d.l.take n).foldl (fun o x=>(L8 x x.l.length).foldl Q3 o) []
theorem B4e{d:Drw}{n:Nat}(h:n<d.l.length):A5z d (n+1)=(L8 (D9 d n) (D9 d n).l.length).foldl Q3 (A5z d n):=by
 unfold A5z
 rw[List.take_succ_eq_append_getElem h,List.foldl_append]
 show _=List.foldl Q3 _ (L8 (d.l.getD n default) (d.l.getD n default).l.length)
 rw[gD,gE h]
 rfl
theorem C0u{d:Drw}(h:GrD d):∀ n,n<=d.l.length->(A5z d n).length<=10000*n
 | 0,_=>by simp[A5z]
 | n+1,hn=>by
  rw[B4e (by omega)]
  have h1:=C0u h n (by omega)
  have h2:=h.sml n (by omega)
  have h3:=A8q h2 _ (lR _)
  have h4:=h2.l
  have h5:=X8 (L8 (D9 d n) (D9 d n).l.length) (A5z d n)
  omega
def C5h:Code:=I7 (J8 0 (f42.body.getD .skip))
def sp42a:SP:=⟨dr 1++[.is (.ptr (some (8,0)))]++dr 1++[.flist 1]++[.int .i64]++dr 28,dd8++[.any]⟩
def C7z:AEx->SP
 | .exit 0=>⟨dr 3++[.flist 1]++dr 29,dd8++[.any]⟩
 | _=>sp42a
theorem F0j(d:Drw)(O:List Txt)(i:Int):F3 prog (D6 prog pNg1 60) (pNg1.blk 42) C5h (sp42a.rho [.n O.length,.fr (A7 txF O),.i i,.o (A9 d)]) (sp42a.heap [.n O.length,.fr (A7 txF O),.i i,.o (A9 d)]) (I1 C7z 9 []) =
  brK (decide (i<(d.l.length:Int))) (brK (decide (0<=i/\i<(d.l.length:Int))) (brK (D8 (okR Frm.fv (d.l.getD i.toNat default).l.length (A7 Frm.fv (d.l.getD i.toNat default).l))) (brK (D8 (SmlF (feE (d.l.getD i.toNat default)))) (brK (itC B1n A2w B9d [Lf.n O.length,Lf.fr (A7 txF O),Lf.i i,Lf.n (L8 (feE (d.l.getD i.toNat default)) (ofR Frm.fv (d.l.getD i.toNat default).l.length (A7 Frm.fv (d.l.getD i.toNat default).l)).length).length,Lf.fr (A7 txF (L8 (feE (d.l.getD i.toNat default)) (ofR Frm.fv (d.l.getD i.toNat default).l.length (A7 Frm.fv (d.l.getD i.toNat default).l)).length)),Lf.i 0,Lf.o (A9 d)]) (some (.normal,[.n ((List.foldl Q3 (A2w [Lf.n O.length,Lf.fr (A7 txF O),Lf.i i,Lf.n (L8 (feE (d.l.getD i.toNat default)) (ofR Frm.fv (d.l.getD i.toNat default).l.length (A7 Frm.fv (d.l.getD i.toNat default).l)).length).length,Lf.fr (A7 txF (L8 (feE (d.l.getD i.toNat default)) (ofR Frm.fv (d.l.getD i.toNat default).l.length (A7 Frm.fv (d.l.getD i.toNat default).l)).length)),Lf.i 0,Lf.o (A9 d)]).fst (A2w [Lf.n O.length,Lf.fr (A7 txF O),Lf.i i,Lf.n (L8 (feE (d.l.getD i.toNat default)) (ofR Frm.fv (d.l.getD i.toNat default).l.length (A7 Frm.fv (d.l.getD i.toNat default).l)).length).length,Lf.fr (A7 txF (L8 (feE (d.l.getD i.toNat default)) (ofR Frm.fv (d.l.getD i.toNat default).l.length (A7 Frm.fv (d.l.getD i.toNat default).l)).length)),Lf.i 0,Lf.o (A9 d)]).snd.fst).length),.fr (A7 txF (List.foldl Q3 (A2w [Lf.n O.length,Lf.fr (A7 txF O),Lf.i i,Lf.n (L8 (feE (d.l.getD i.toNat default)) (ofR Frm.fv (d.l.getD i.toNat default).l.length (A7 Frm.fv (d.l.getD i.toNat default).l)).length).length,Lf.fr (A7 txF (L8 (feE (d.l.getD i.toNat default)) (ofR Frm.fv (d.l.getD i.toNat default).l.length (A7 Frm.fv (d.l.getD i.toNat default).l)).length)),Lf.i 0,Lf.o (A9 d)]).fst (A2w [Lf.n O.length,Lf.fr (A7 txF O),Lf.i i,Lf.n (L8 (feE (d.l.getD i.toNat default)) (ofR Frm.fv (d.l.getD i.toNat default).l.length (A7 Frm.fv (d.l.getD i.toNat default).l)).length).length,Lf.fr (A7 txF (L8 (feE (d.l.getD i.toNat default)) (ofR Frm.fv (d.l.getD i.toNat default).l.length (A7 Frm.fv (d.l.getD i.toNat default).l)).length)),Lf.i 0,Lf.o (A9 d)]).snd.fst)),.i (W (i+1)),.o (A9 d)])) none) none) none) none) (some (.exit 0,[.n (O.length),.fr (A7 txF O),.o (A9 d)])):=by kernel_rfl
def D3t(x:Drw)(n:Nat):List Lf:=[.n (A5z x n).length,.fr (A7 txF (A5z x n)),.i n,.o (A9 x)]
def A9u(x:Drw):List Lf:=[.n 0,.fr fun _=>[],.i 0,.o (A9 x)]
def E4l:List Lf->Drw->List Lf
 | [_,_,_,o],x=>[.n (A5z x x.l.length).length,.fr (A7 txF (A5z x x.l.length)),o]
 | _,_=>[]
def C9b(x:Drw):Nat:=x.l.length
def C3d(x:Drw):Prop:=GrD x
def A3w:List Lf->Drw
 | [_,_,_,.o o]=>I4 o
 | _=>default
theorem F8h(x:Drw)(hx:C3d x)(n:Nat)(hn:n<=C9b x):F3 prog (D6 prog pNg1 60) (pNg1.blk 42) C5h (sp42a.rho (D3t x n)) (sp42a.heap (D3t x n)) (I1 C7z 9 [])=some (if n<C9b x then(.normal,D3t x (n+1)) else(.exit 0,E4l (A9u x) x)):=by
 have h1:GrD x:=hx
 have hl:=h1.len
 simp only[D3t]
 rw[F0j,I6 hn (show C9b x<2^62 by show x.l.length<2^62; omega)]
 simp only[tN,K5,Bool.and_self,V9,A8e,I5 Fea.inj,I5 Frm.inj]
 by_cases h:n<C9b x
 ·rw[if_pos h,B4e h]
  simp only[C9b] at h
  have h2:=h1.sml n h
  have h3:=A8q h2 _ (lR _)
  have h4:=h2.l
  have h5:=C0u h1 n (by omega)
  obtain⟨e,hit⟩:=G7a (O:=A5z x n) (M:=L8 (D9 x n) (D9 x n).l.length) (by omega) (by omega) n x
  refine A8 (dT (by omega)) (A8 (dT (by omega)) (A8 rfl (A8 (D5 h2) (A8 hit ?_))))
  simp only[D9] at e ⊢
  rw[e]
 ·rw[if_neg h]
  have e:n=C9b x:=Nat.le_antisymm hn (Nat.le_of_not_lt h)
  subst e
  exact C8 (dF (by unfold C9b; omega)) rfl
theorem G1x{A:Amb}(x:Drw)(_hx:C3d x)(Bb:Heap)(hB:Bb.length=9):Wk A Bb ⟨sp42a.rho (A9u x),sp42a.heap (A9u x),[]⟩ ⟨sp42a.rho (D3t x 0),sp42a.heap (D3t x 0),[]⟩:=by
 have _:=hB
 exact Wk.temps (E4t (i:=3) (a:=.flist 0 (fun _=>[]) 1) (a':=.flist (A5z x 0).length (A7 txF (A5z x 0)) 1) rfl D9p)
def F9w:Blk:=hookP sp42a 9 [] (itT (C7z (.exit 0)) 0 (.exit 0) A3w A9u E4l C3d)
theorem E6z{A:Amb}{q:Prims}(h0:PrimOK prog A pNg1)(hq:PrimOK prog A q):PrimOK prog A (q.addb 42 0 F9w) :=
 SEB.iterK (id:=0) (ds:=[]) (dec:=A3w) (sp0:=sp42a) (sp:=sp42a) (sq:=C7z) (m:=9) (ee:=.exit 0) (L0:=A9u) (L:=D3t) (Le:=E4l) (N:=C9b) (Inv:=C3d) (k:=60) F8 G5 h0 hq func42 (show f42.body=some (f42.body.getD .skip) by kernel_rfl) (body:=C5h) (by kernel_rfl)
  rfl rfl rfl rfl (by simp) (fun _=>⟨.inr rfl,.inr rfl,.inr rfl,.inr rfl,.inr rfl,.inr rfl,.inr rfl,.inr rfl,.inr rfl,trivial⟩) G1x F8h
def H1z:Prims:=pNg1.addb 42 0 F9w
theorem G8y(d:Drw):(D6 prog H1z 60).call 42 [.agg d.av] (Bg 8) G7 =
  brK (itC A9u A3w C3d [Lf.n 0,Lf.fr fun x=>[],Lf.i 0,Lf.o (A9 d)]) (some (.flist (((A5z (A3w [Lf.n 0,Lf.fr fun x=>[],Lf.i 0,Lf.o (A9 d)]) (A3w [Lf.n 0,Lf.fr fun x=>[],Lf.i 0,Lf.o (A9 d)]).l.length)).length) (fun i=>txF ((A5z (A3w [Lf.n 0,Lf.fr fun x=>[],Lf.i 0,Lf.o (A9 d)]) (A3w [Lf.n 0,Lf.fr fun x=>[],Lf.i 0,Lf.o (A9 d)]).l.length).getD i default)) 1)) none:=by kernel_rfl
theorem D0e(x:Drw):A3w (A9u x)=x:=by simp[A3w,A9u,E8]
def Z6(d:Drw):List Txt:=A5z d d.l.length
def VNg(x:Drw):Tr AV:=.br (D8 (GrD x)) (.leaf (R7 (Z6 x))) .fail
def pNg:Prims:=pNf.addt 42 (Q8 Q0 VNg)
theorem G3r{A:Amb}(hT:Tab A)(hG:gN prog<=A.G):PrimOK prog A pNg:=by
 have h0:=G3q hT hG
 have h1:PrimOK prog A pNg1:=E7a h0 h0
 refine J4 hG (E6z h1 h1) h0 Q0 VNg func42 (by kernel_rfl) fun x v hv=>?_
 obtain⟨hz,hv⟩:=Tr.br1 hv
 cases hv
 have hz:=J7 hz
 refine⟨_,(G8y x).trans (A8 (Q9 (D0e x) (show C3d x from hz)) rfl),rfl,?_⟩
 intro Z y hy
 have h2:VR Z (R7 (A5z (A3w (A9u x)) (A3w (A9u x)).l.length)) y:=hy
 rw[D0e] at h2
 exact h2
def A9f:Code:=I7 (J8 2 (f87.body.getD .skip))
def sp87i:SP:=⟨dr 3++[.list 11]++dr 5++[.flist 5]++[.int .i64]++[.int .i64]++dr 4++[.flist 2]++[.int .i64]++[.int .i64]++dr 11,dd8++[.any,.dead,.any,.vec 1 9]⟩
def B1h:AEx->SP
 | .exit 2=>⟨dr 3++[.list 11]++dr 5++[.flist 5]++[.int .i64]++[.int .i64]++dr 18,dd8++[.any,.dead,.any,.vec 1 9]⟩
 | _=>sp87i
theorem D3d(x:Fea)(f:Frm)(T:List Txt)(M:List Dat)(a b i n:Int)(c:Nat)(g:Nat->List FV)(m:Nat)(r:Nat->List AV):F3 prog (D6 prog pNg 60) (pNg.blk 87) A9f (sp87i.rho [.n m,.n c,.fr g,.i a,.i b,.n M.length,.fr (A7 Dat.fv M),.i i,.i n,.o (C9 x),.o (U5 f),.n m,.r r]) (sp87i.heap [.n m,.n c,.fr g,.i a,.i b,.n M.length,.fr (A7 Dat.fv M),.i i,.i n,.o (C9 x),.o (U5 f),.n m,.r r]) (I1 B1h 11 [9]) =
  brK (decide (n<i)) (brK (decide (0<=n/\n<(M.length:Int))) (brK (decide (m+1<2147483648/\m=m)) (some (.normal,[.n (m+1),.n (c),.fr (g),.i (a),.i (b),.n (M.length),.fr (A7 Dat.fv M),.i (i),.i (W (n+1)),.o (C9 (x)),.o (U5 (f)),.n (m+1),.r (K6 m r [.sstr (M.getD n.toNat default).s])])) none) none) (some (.exit 2,[.n (m),.n (c),.fr (g),.i (a),.i (b),.o (C9 (x)),.o (U5 (f)),.n (m),.r r])):=by kernel_rfl
structure B87 where
 x:Fea
 f:Frm
 T:List Txt
 c:Nat
 g:Nat->List FV
 a:Int
 b:Int
def A0j(y:B87)(n:Nat):List Txt:=y.T++(y.f.l.take n).map (·.s)
theorem G5j(y:B87):A0j y 0=y.T:=by simp[A0j]
theorem E4h{y:B87}{n:Nat}(h:n<y.f.l.length):A0j y (n+1)=A0j y n++[(y.f.l.getD n default).s]:=by
 unfold A0j
 rw[List.take_succ_eq_append_getElem h,List.map_append,gD,gE h,List.append_assoc]
 rfl
theorem F1y(y:B87)(n:Nat):(A0j y n).length<=y.T.length+n:=by simp[A0j]; omega
def E8i(y:B87)(T:List Txt)(n:Nat)(m:Nat)(r:Nat->List AV):List Lf:=[.n m,.n y.c,.fr y.g,.i y.a,.i y.b,.n y.f.l.length,.fr (A7 Dat.fv y.f.l),.i y.f.l.length,.i n,.o (C9 y.x),.o (U5 y.f),.n m,.r r]
def B6q(y:B87)(n:Nat):List Lf:=E8i y y.T n (A0j y n).length (D7 (A0j y n))
def sp087i:SP:=⟨dr 3++[.list 9]++dr 5++[.flist 5]++[.int .i64]++[.int .i64]++dr 4++[.flist 2]++[.int .i64]++[.int .i64]++dr 11,dd8++[.any,.vec 1 9,.any]⟩
def A4q(y:B87):List Lf:=[.n y.T.length,.n y.c,.fr y.g,.i y.a,.i y.b,.n y.f.l.length,.fr (A7 Dat.fv y.f.l),.i y.f.l.length,.i 0,.o (C9 y.x),.n y.T.length,.r (D7 y.T),.o (U5 y.f)]
def D9j(ls:List Lf)(y:B87):List Lf:=match ls with
 | [_,c,g,a,b,_,_,_,_,o,_,_,f]=>[.n (A0j y y.f.l.length).length,c,g,a,b,o,f,.n (A0j y y.f.l.length).length,.r (D7 (A0j y y.f.l.length))]
 | _=>[]
def A1j:List Lf->B87
 | [.n n,.n c,.fr g,.i a,.i b,_,_,_,_,.o o,_,.r r,.o f]=>⟨A1o o,D2n f,R3 n r,c,g,a,b⟩
 | _=>⟨default,default,[],0,fun _=>[],0,0⟩
def C3f(y:B87):Prop:=y.T.length<=1000000/\y.f.l.length<=1000000
theorem D0j(y:B87):A1j (A4q y)=y:=by
 simp[A1j,A4q,A2h,M5,B9u]
theorem SEB.step87i{A:Amb}(hq:PrimOK prog A pNg)(y:B87)(hy:C3f y)(n:Nat)(hn:n<y.f.l.length)(Bb:Heap)(hB:Bb.length=11) :
  SEB prog A Bb A9f ⟨sp87i.rho (B6q y n),sp87i.heap (B6q y n),[9]⟩ .normal ⟨sp87i.rho (B6q y (n+1)),sp87i.heap (B6q y (n+1)),[9]⟩:=by
 obtain⟨h1,h2⟩:=hy
 have hlen:=F1y y n
 have hk:=D3d y.x y.f y.T y.f.l y.a y.b y.f.l.length n y.c y.g (A0j y n).length (D7 (A0j y n))
 rw[dT (show(n:Int)<(y.f.l.length:Int) by omega),dT (show 0<=(n:Int)/\(n:Int)<(y.f.l.length:Int) by omega),tN,dT (show(A0j y n).length+1<2147483648/\(A0j y n).length=(A0j y n).length from⟨by omega,rfl⟩),B3i (show n<2^62 by omega)] at hk
 have hbl:BlkOK prog A (pNg.blk 87) A9f:=(hq.blk 87 f87 (f87.body.getD .skip) func87 (show f87.body=some (f87.body.getD .skip) by kernel_rfl)).sub (id:=2) (by kernel_rfl)
 have h3:=SEB.of_KP (e:=.normal) (sp:=B1h) (B0:=Bb) (ds:=[9]) F8 G5 hq hbl hB hk rfl
 refine SEB.wk_out h3 ?_
 unfold B6q
 rw[E4h hn]
 have w:=Wk.rowsQ (A:=A) (B0:=Bb) (U:=sp87i.rho (E8i y y.T (n+1) ((A0j y n).length+1) (K6 (A0j y n).length (D7 (A0j y n)) [.sstr (y.f.l.getD n default).s]))) (D:=[9]) (B:=sp87i.heap (E8i y y.T (n+1) ((A0j y n).length+1) (K6 (A0j y n).length (D7 (A0j y n)) [.sstr (y.f.l.getD n default).s]))) (b:=11) (r':=D7 (A0j y n++[(y.f.l.getD n default).s])) (ty:=9) rfl (fun h=>by omega) (fun i hi=>A2n (A0j y n) _ hi)
 have e:(A0j y n++[(y.f.l.getD n default).s]).length=(A0j y n).length+1:=by simp
 rw[e]
 exact w
theorem SEB.end87i{A:Amb}(hq:PrimOK prog A pNg)(y:B87)(Bb:Heap)(hB:Bb.length=11) :
  SEB prog A Bb A9f ⟨sp87i.rho (B6q y y.f.l.length),sp87i.heap (B6q y y.f.l.length),[9]⟩ (.exit 2) ⟨(B1h (.exit 2)).rho (D9j (A4q y) y),(B1h (.exit 2)).heap (D9j (A4q y) y),[9]⟩:=by
 have hk:=D3d y.x y.f y.T y.f.l y.a y.b y.f.l.length y.f.l.length y.c y.g (A0j y y.f.l.length).length (D7 (A0j y y.f.l.length))
 rw[dF (show ¬ (y.f.l.length:Int)<(y.f.l.length:Int) by omega)] at hk
 have hbl:BlkOK prog A (pNg.blk 87) A9f:=(hq.blk 87 f87 (f87.body.getD .skip) func87 (show f87.body=some (f87.body.getD .skip) by kernel_rfl)).sub (id:=2) (by kernel_rfl)
 exact SEB.of_KP (e:=.exit 2) (sp:=B1h) (B0:=Bb) (ds:=[9]) F8 G5 hq hbl hB hk rfl
theorem G2d{A:Amb}(y:B87)(Bb:Heap)(hB:Bb.length=11):Wk A Bb ⟨sp087i.rho (A4q y),sp087i.heap (A4q y),[9]⟩ ⟨sp87i.rho (B6q y 0),sp87i.heap (B6q y 0),[9]⟩:=by
 have _:=hB
 unfold B6q
 rw[G5j]
 exact Wk.mov (A:=A) (B0:=Bb) (U:=sp087i.rho (A4q y)) (U2:=(sp087i.rho (A4q y)).set 3 (.sslice 11 0 y.T.length)) (B:=sp087i.heap (A4q y)) (D:=[9]) (b:=9) (o:=.vec y.T.length (D7 y.T) 1 9) rfl (by simp) (fun Z Z2 hle hnew vs hv=>by
  refine E1e hle (t:=3) (a:=.sslice 9 0 y.T.length) rfl (fun v hv=>?_) hv
  simp only[VR] at hv ⊢
  rw[show Z2 11=Z 9 from hnew]; exact hv)
def G0j:Blk:=hookP sp087i 11 [9] (itT (B1h (.exit 2)) 2 (.exit 2) A1j A4q D9j C3f)
theorem E7m{A:Amb}{q:Prims}(h0:PrimOK prog A pNg)(hq:PrimOK prog A q):PrimOK prog A (q.addb 87 2 G0j) :=
 SEB.iterR (P:=prog) (sp0:=sp087i) (sp:=sp87i) (sq:=B1h (.exit 2)) (m:=11) (ds:=[9]) (ee:=.exit 2) (dec:=A1j) (L0:=A4q) (L:=B6q) (Le:=D9j) (N:=fun y=>y.f.l.length) (Inv:=C3f) hq func87 (show f87.body=some (f87.body.getD .skip) by kernel_rfl) (body:=A9f) (by kernel_rfl)
  rfl (by simp) (fun _=>⟨.inr rfl,.inr rfl,.inr rfl,.inr rfl,.inr rfl,.inr rfl,.inr rfl,.inr rfl,.inr rfl,.inl rfl,.inr rfl,trivial⟩) (fun y _ Bb hB=>G2d y Bb hB) (fun y hy n hn Bb hB=>SEB.step87i h0 y hy n hn Bb hB) (fun y _ Bb hB=>SEB.end87i h0 y Bb hB)
def pNh1:Prims:=pNg.addb 87 2 G0j
def C5t:Code:=I7 (J8 0 (f87.body.getD .skip))
def sp87a:SP:=⟨dr 3++[.list 9]++dr 5++[.flist 5]++[.int .i64]++[.int .i64]++dr 18,dd8++[.any,.vec 1 9]⟩
def C8l:AEx->SP
 | .exit 0=>⟨dr 3++[.list 9]++dr 26,dd8++[.any,.vec 1 9]⟩
 | _=>sp87a
theorem F0v(x:Fea)(T:List Txt)(l:List Frm)(a n:Int):F3 prog (D6 prog pNh1 60) (pNh1.blk 87) C5t (sp87a.rho [.n T.length,.n l.length,.fr (A7 Frm.fv l),.i a,.i n,.o (C9 x),.n T.length,.r (D7 T)]) (sp87a.heap [.n T.length,.n l.length,.fr (A7 Frm.fv l),.i a,.i n,.o (C9 x),.n T.length,.r (D7 T)]) (I1 C8l 9 [9]) =
  brK (decide (n<a)) (brK (decide (0<=n/\n<(l.length:Int))) (brK (itC A4q A1j C3f [Lf.n T.length,Lf.n l.length,Lf.fr (A7 Frm.fv l),Lf.i a,Lf.i n,Lf.n (l.getD n.toNat default).l.length,Lf.fr (A7 Dat.fv (l.getD n.toNat default).l),Lf.i ((l.getD n.toNat default).l.length:Int),Lf.i 0,Lf.o (C9 x),Lf.n T.length,Lf.r (D7 T),Lf.o (U5 (l.getD n.toNat default))]) (some (.normal,[.n ((A0j (A1j [Lf.n T.length,Lf.n l.length,Lf.fr (A7 Frm.fv l),Lf.i a,Lf.i n,Lf.n (l.getD n.toNat default).l.length,Lf.fr (A7 Dat.fv (l.getD n.toNat default).l),Lf.i ((l.getD n.toNat default).l.length:Int),Lf.i 0,Lf.o (C9 x),Lf.n T.length,Lf.r (D7 T),Lf.o (U5 (l.getD n.toNat default))]) (A1j [Lf.n T.length,Lf.n l.length,Lf.fr (A7 Frm.fv l),Lf.i a,Lf.i n,Lf.n (l.getD n.toNat default).l.length,Lf.fr (A7 Dat.fv (l.getD n.toNat default).l),Lf.i ((l.getD n.toNat default).l.length:Int),Lf.i 0,Lf.o (C9 x),Lf.n T.length,Lf.r (D7 T),Lf.o (U5 (l.getD n.toNat default))]).f.l.length).length),.n (l.length),.fr (A7 Frm.fv l),.i (a),.i (W (n+1)),.o (C9 (x)),.n ((A0j (A1j [Lf.n T.length,Lf.n l.length,Lf.fr (A7 Frm.fv l),Lf.i a,Lf.i n,Lf.n (l.getD n.toNat default).l.length,Lf.fr (A7 Dat.fv (l.getD n.toNat default).l),Lf.i ((l.getD n.toNat default).l.length:Int),Lf.i 0,Lf.o (C9 x),Lf.n T.length,Lf.r (D7 T),Lf.o (U5 (l.getD n.toNat default))]) (A1j [Lf.n T.length,Lf.n l.length,Lf.fr (A7 Frm.fv l),Lf.i a,Lf.i n,Lf.n (l.getD n.toNat default).l.length,Lf.fr (A7 Dat.fv (l.getD n.toNat default).l),Lf.i ((l.getD n.toNat default).l.length:Int),Lf.i 0,Lf.o (C9 x),Lf.n T.length,Lf.r (D7 T),Lf.o (U5 (l.getD n.toNat default))]).f.l.length).length),.r (fun i=>[AV.sstr ((A0j (A1j [Lf.n T.length,Lf.n l.length,Lf.fr (A7 Frm.fv l),Lf.i a,Lf.i n,Lf.n (l.getD n.toNat default).l.length,Lf.fr (A7 Dat.fv (l.getD n.toNat default).l),Lf.i ((l.getD n.toNat default).l.length:Int),Lf.i 0,Lf.o (C9 x),Lf.n T.length,Lf.r (D7 T),Lf.o (U5 (l.getD n.toNat default))]) (A1j [Lf.n T.length,Lf.n l.length,Lf.fr (A7 Frm.fv l),Lf.i a,Lf.i n,Lf.n (l.getD n.toNat default).l.length,Lf.fr (A7 Dat.fv (l.getD n.toNat default).l),Lf.i ((l.getD n.toNat default).l.length:Int),Lf.i 0,Lf.o (C9 x),Lf.n T.length,Lf.r (D7 T),Lf.o (U5 (l.getD n.toNat default))]).f.l.length).getD i [])])])) none) none) (some (.exit 0,[.n (T.length),.o (C9 (x)),.n (T.length),.r (fun i=>[AV.sstr (T.getD i [])])])):=by kernel_rfl
def X0(x:Fea)(n:Nat):List Txt:=(x.l.take n).flatMap fun f=>f.l.map (·.s)
theorem B3y{x:Fea}{n:Nat}(h:n<x.l.length):X0 x (n+1)=X0 x n++(F7 x n).l.map (·.s):=by
 unfold X0 F7
 rw[List.take_succ_eq_append_getElem h,List.flatMap_append,gD,gE h]
 simp
theorem A8m{x:Fea}(h:SmlF x):∀ n,n<=x.l.length->(X0 x n).length<=100*n
 | 0,_=>by simp[X0]
 | n+1,hn=>by
  rw[B3y (by omega),lA,List.length_map]
  have h2:=A8m h n (by omega)
  have h3:=h.d n (by omega)
  omega
def C8x(x:Fea)(n:Nat):List Lf:=[.n (X0 x n).length,.n x.l.length,.fr (A7 Frm.fv x.l),.i x.l.length,.i n,.o (C9 x),.n (X0 x n).length,.r (D7 (X0 x n))]
def A3n(x:Fea):List Lf:=[.n 0,.n x.l.length,.fr (A7 Frm.fv x.l),.i x.l.length,.i 0,.o (C9 x),.n 0,.r (fun _=>[])]
def E4o(ls:List Lf)(x:Fea):List Lf:=match ls with
 | [_,_,_,_,_,o,_,_]=>[.n (X0 x x.l.length).length,o,.n (X0 x x.l.length).length,.r (D7 (X0 x x.l.length))]
 | _=>[]
def C9e(x:Fea):Nat:=x.l.length
def A6p:List Lf->Fea
 | [_,_,_,_,_,.o o,_,_]=>A1o o
 | _=>default
theorem E2v(x:Fea)(f:Frm)(T:List Txt)(c:Nat)(g:Nat->List FV)(a b:Int):A1j [Lf.n T.length,Lf.n c,Lf.fr g,Lf.i a,Lf.i b,Lf.n f.l.length,Lf.fr (A7 Dat.fv f.l),Lf.i (f.l.length:Int),Lf.i 0,Lf.o (C9 x),Lf.n T.length,Lf.r (D7 T),Lf.o (U5 f)]=⟨x,f,T,c,g,a,b⟩:=D0j ⟨x,f,T,c,g,a,b⟩
theorem G7d{x:Fea}{f:Frm}{T:List Txt}(c:Nat)(g:Nat->List FV)(a b:Int)(h1:T.length<=1000000)(h2:f.l.length<=1000000):itC A4q A1j C3f [Lf.n T.length,Lf.n c,Lf.fr g,Lf.i a,Lf.i b,Lf.n f.l.length,Lf.fr (A7 Dat.fv f.l),Lf.i (f.l.length:Int),Lf.i 0,Lf.o (C9 x),Lf.n T.length,Lf.r (D7 T),Lf.o (U5 f)]=true :=
 Q9 (L0:=A4q) (dec:=A1j) (Inv:=C3f) (x:=⟨x,f,T,c,g,a,b⟩) (D0j _) ⟨h1,h2⟩
theorem F8t(x:Fea)(hx:SmlF x)(n:Nat)(hn:n<=C9e x):F3 prog (D6 prog pNh1 60) (pNh1.blk 87) C5t (sp87a.rho (C8x x n)) (sp87a.heap (C8x x n)) (I1 C8l 9 [9])=some (if n<C9e x then(.normal,C8x x (n+1)) else(.exit 0,E4o (A3n x) x)):=by
 have hl:=hx.l
 have hn2:n<=x.l.length:=hn
 have hlen:=A8m hx n hn
 simp only[C8x]
 rw[F0v,I6 hn (show C9e x<2^62 by show x.l.length<2^62; omega)]
 simp only[tN]
 by_cases h:n<C9e x
 ·rw[if_pos h,B3y h]
  simp only[C9e] at h
  have hd:=hx.d n h
  rw[E2v]
  refine A8 (dT (by omega)) (A8 (dT (by omega)) (A8 (G7d _ _ _ _ (by omega) (Nat.le_trans hd (by omega))) ?_))
  have e:A0j ⟨x,x.l.getD n default,X0 x n,x.l.length,A7 Frm.fv x.l,x.l.length,n⟩ (x.l.getD n default).l.length=X0 x n++(F7 x n).l.map (·.s):=by
   unfold A0j F7
   rw[List.take_length]
  dsimp only
  rw[e]
  rfl
 ·rw[if_neg h]
  have e:n=C9e x:=Nat.le_antisymm hn (Nat.le_of_not_lt h)
  subst e
  exact C8 (dF (by unfold C9e; omega)) rfl
theorem G2c{A:Amb}(x:Fea)(_hx:SmlF x)(Bb:Heap)(hB:Bb.length=9):Wk A Bb ⟨sp87a.rho (A3n x),sp87a.heap (A3n x),[9]⟩ ⟨sp87a.rho (C8x x 0),sp87a.heap (C8x x 0),[9]⟩:=by
 have e:X0 x 0=[]:=by simp[X0]
 unfold C8x
 rw[e]
 exact Wk.rowsQ (A:=A) (B0:=Bb) (U:=sp87a.rho (A3n x)) (D:=[9]) (B:=sp87a.heap (A3n x)) (b:=9) (r':=D7 []) (ty:=9) rfl (fun h=>by omega) (fun i hi=>(Nat.not_lt_zero i hi).elim)
def G0i:Blk:=hookP sp87a 9 [9] (itT (C8l (.exit 0)) 0 (.exit 0) A6p A3n E4o SmlF)
theorem E7l{A:Amb}{q:Prims}(h0:PrimOK prog A pNh1)(hq:PrimOK prog A q):PrimOK prog A (q.addb 87 0 G0i) :=
 SEB.iterK (id:=0) (ds:=[9]) (dec:=A6p) (sp0:=sp87a) (sp:=sp87a) (sq:=C8l) (m:=9) (ee:=.exit 0) (L0:=A3n) (L:=C8x) (Le:=E4o) (N:=C9e) (Inv:=SmlF) (k:=60) F8 G5 h0 hq func87 (show f87.body=some (f87.body.getD .skip) by kernel_rfl) (body:=C5t) (by kernel_rfl)
  rfl rfl rfl rfl (by simp) (fun _=>⟨.inr rfl,.inr rfl,.inr rfl,.inr rfl,.inr rfl,.inr rfl,.inr rfl,.inr rfl,.inr rfl,.inl rfl,trivial⟩) G2c F8t
def pNh2:Prims:=pNh1.addb 87 0 G0i
def spNh:SP:=⟨dr 2++[.flist 1]++dr 27,dd8⟩
theorem D5l(x:Fea):F3 prog (D6 prog pNh2 60) (pNh2.blk 87) (f87.body.getD .skip) ([.agg x.av]++List.replicate 29 G8) (Bg 8) (D7b (fun _=>[.frz 2]) (fun _=>spNh) 8 []) =
  brK (itC A3n A6p SmlF (A3n x)) (fzT .ret (X0 (A6p (A3n x)) (A6p (A3n x)).l.length).length (D7 (X0 (A6p (A3n x)) (A6p (A3n x)).l.length))) none:=by kernel_rfl
theorem D0i(x:Fea):A6p (A3n x)=x:=by simp[A6p,A3n,M5]
def VNh(x:Fea):Tr AV:=.br (D8 (SmlF x)) (.leaf (R7 (X0 x x.l.length))) .fail
def pNh:Prims:=pNg.addt 87 (Q8 A1p VNh)
theorem C7h{A:Amb}(hT:Tab A)(hG:gN prog<=A.G):PrimOK prog A pNh:=by
 have h0:=G3r hT hG
 have h1:PrimOK prog A pNh1:=E7m h0 h0
 have h2:PrimOK prog A pNh2:=E7l h1 h1
 refine PrimOK.addParB h0 hG A1p VNh func87 (show f87.body=some (f87.body.getD .skip) by kernel_rfl) fun x v hv=>?_
 obtain⟨hz,hv⟩:=Tr.br1 hv
 cases hv
 have hz:=J7 hz
 have hb:BlkOK prog A (pNh2.blk 87) (f87.body.getD .skip):=h2.blk 87 f87 (f87.body.getD .skip) func87 (show f87.body=some (f87.body.getD .skip) by kernel_rfl)
 have hk:=D5l x
 rw[D0i,Q9 (D0i x) hz] at hk
 unfold fzT at hk
 rw[D5 (A9i (X0 x x.l.length))] at hk
 refine⟨.ret,⟨spNh.rho [.n (X0 x x.l.length).length,.fr (A5d (D7 (X0 x x.l.length)))],spNh.heap [.n (X0 x x.l.length).length,.fr (A5d (D7 (X0 x x.l.length)))],[]⟩,[R7 (X0 x x.l.length)],?_,by simp,by kernel_rfl,rfl,rfl,fun Z y hy=>hy⟩
 rw[gsz]
 exact SEB.of_KG (e:=.ret) (sp:=fun _=>spNh) (gs:=fun _=>[.frz 2]) (B0:=Bg 8) (ds:=[]) F8 G5 h2 hb rfl hk rfl
end Go.Proofs.Tryz
