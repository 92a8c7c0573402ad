/- Drawings: lists of names. -/
import Derived.Test.YtoboneiigikidaaGreatDoorNd
import Derived.Test.YtoboneiigikidaaGreatDoorAdFind
noncomputable section
namespace Go.Proofs.Tryz
open Go.Ad
def A6x (l:List Txt) (s:Txt) (n:Nat):Bool:=l.getD n default == s
theorem D0n (l:List Txt) (s:Txt):A2e (A6x l s) l.length=l.length ↔ s ∉ l:=by
 constructor
 ·intro h hs
  obtain ⟨i,hi,rfl⟩:=List.getElem_of_mem hs
  have:(l.getD i default == l[i])=false:=A7q (p:=A6x l l[i]) (N:=l.length) (i:=i) (by omega)
  rw [List.getD_eq_getElem?_getD,List.getElem?_eq_getElem hi] at this
  simp at this
 ·intro h
  refine Classical.byContradiction fun hne=>h ?_
  have hlt:A2e (A6x l s) l.length < l.length:=by have:=B5h (p:=A6x l s) (N:=l.length); omega
  have:(l.getD (A2e (A6x l s) l.length) default == s)=true:=C5l (p:=A6x l s) (N:=l.length) hlt
  rw [List.getD_eq_getElem?_getD,List.getElem?_eq_getElem hlt] at this
  have:=eq_of_beq this
  rw [<- this]
  exact List.getElem_mem hlt
def D3y:Code:=I9 (J7 0 (f50.body.getD .skip))
def sp50:SP:=⟨[.flist 1]++[.str]++dr 3++[.int .i64]++dr 12,dd8⟩
def E0b:AEx->SP
 | .ret=>⟨dr 4++[.bool]++dr 13,dd8⟩
 | .exit 0=>⟨dr 18,dd8⟩
 | _=>sp50
theorem F5b (l:List Txt) (s:Txt) (n:Int):F3 prog (D5 prog pNe 60) (pNe.blk 50) D3y (sp50.rho [.n l.length,.fr (A7 txF l),.s s,.i n]) (sp50.heap [.n l.length,.fr (A7 txF l),.s s,.i n]) (H9 E0b 8 []) =
  brK (decide (n < (l.length:Int))) (brK (decide (0<=n/\n < (l.length:Int))) (brK (l.getD n.toNat default == s) (some (.ret,[.b (true)])) (some (.normal,[.n (l.length),.fr (A7 txF l),.s (s),.i (W (n+1))]))) none) (some (.exit 0,[])):=by kernel_rfl
def L50 (x:List Txt × Txt) (n:Nat):List Lf:=[.n x.1.length,.fr (A7 txF x.1),.s x.2,.i n]
def F0m:List Lf->Nat->List Lf:=fun _ _=>[.b true]
def F0v:List Lf->List Lf:=fun _=>[]
def N50 (x:List Txt × Txt):Nat:=x.1.length
def p50 (x:List Txt × Txt) (n:Nat):Bool:=!A6x x.1 x.2 n
def E1o (x:List Txt × Txt):Prop:=x.1.length < 2 ^ 62
def B7v:List Lf->List Txt × Txt
 | [.n a,.fr b,.s s,_]=>(ofR txF a b,s)
 | _=>default
theorem G2h (x:List Txt × Txt) (hx:E1o x) (n:Nat) (hn:n<=N50 x):F3 prog (D5 prog pNe 60) (pNe.blk 50) D3y (sp50.rho (L50 x n)) (sp50.heap (L50 x n)) (H9 E0b 8 [])=some (if n < N50 x then (bif p50 x n then (.normal,L50 x (n+1)) else (.ret,F0m (L50 x 0) n)) else (.exit 0,F0v (L50 x 0))):=by
 have h1:=hx
 simp only [E1o] at h1
 simp only [L50,F0m,F0v]
 rw [F5b,I4 hn h1]
 simp only [Int.toNat_natCast,Nat.zero_add]
 by_cases h:n < N50 x
 ·rw [if_pos h]
  simp only [N50,A6x] at h
  simp only [p50,A6x]
  cases hE:x.1.getD n default == x.2
  all_goals
   repeat first
    | exact rfl
    | refine A8 rfl ?_
    | refine C8 rfl ?_
    | refine A8 (by simp only [SBs]; omega) ?_
    | refine C8 (by simp only [SBs]; omega) ?_
    | exact congrArg some (Y5 (by first | (simp only [SBs]; omega) | simp)).symm
    | exact congrArg some (Y4 (by first | (simp only [SBs]; omega) | simp)).symm
 ·rw [if_neg h]
  simp only [N50,A6x] at h
  repeat first
   | exact rfl
   | refine A8 rfl ?_
   | refine C8 rfl ?_
   | refine A8 (by simp only [SBs]; omega) ?_
   | refine C8 (by simp only [SBs]; omega) ?_
   | exact congrArg some (Y5 (by first | (simp only [SBs]; omega) | simp)).symm
   | exact congrArg some (Y4 (by first | (simp only [SBs]; omega) | simp)).symm
def G3m:Blk:=hookP sp50 8 [] (fdT E0b 0 .ret (.exit 0) B7v L50 F0m F0v N50 p50 E1o)
theorem F2v {A:Amb} {q:Prims} (h0:PrimOK prog A pNe) (hq:PrimOK prog A q):PrimOK prog A (q.addb 50 0 G3m) :=
 SEB.findR (id:=0) (ds:=[]) (dec:=B7v) (sp:=sp50) (sq:=E0b) (m:=8) (eb:=.ret) (ee:=.exit 0) (L:=L50) (Lb:=F0m) (Le:=F0v) (N:=N50) (p:=p50) (Inv:=E1o) (k:=60) F7 F8 h0 hq func50 (show f50.body=some (f50.body.getD .skip) by kernel_rfl) (body:=D3y) (by kernel_rfl)
  rfl rfl rfl rfl (by simp) (by simp) (fun _ _=>⟨⟨.inr rfl,.inr rfl,.inr rfl,.inr rfl,.inr rfl,.inr rfl,.inr rfl,.inr rfl,trivial⟩,⟨.inr rfl,.inr rfl,.inr rfl,.inr rfl,.inr rfl,.inr rfl,.inr rfl,.inr rfl,trivial⟩⟩) G2h
def D4a:Code:=I9 (J7 0 (f63.body.getD .skip))
def sp63:SP:=⟨[.flist 1]++[.str]++dr 5++[.int .i64]++[.int .i64]++dr 10,dd8⟩
def E0d:AEx->SP
 | .ret=>⟨dr 4++[.int .i64]++dr 14,dd8⟩
 | .exit 0=>⟨dr 19,dd8⟩
 | _=>sp63
theorem F5d (l:List Txt) (s:Txt) (n:Int):F3 prog (D5 prog pNe 60) (pNe.blk 63) D4a (sp63.rho [.n l.length,.fr (A7 txF l),.s s,.i l.length,.i n]) (sp63.heap [.n l.length,.fr (A7 txF l),.s s,.i l.length,.i n]) (H9 E0d 8 []) =
  brK (decide (n < (l.length:Int))) (brK (decide (0<=n/\n < (l.length:Int))) (brK (s == l.getD n.toNat default) (some (.ret,[.i (n)])) (some (.normal,[.n (l.length),.fr (A7 txF l),.s (s),.i ((l.length:Int)),.i (W (n+1))]))) none) (some (.exit 0,[])):=by kernel_rfl
def L63 (x:List Txt × Txt) (n:Nat):List Lf:=[.n x.1.length,.fr (A7 txF x.1),.s x.2,.i x.1.length,.i n]
def F0n:List Lf->Nat->List Lf:=fun _ n=>[.i n]
def F0x:List Lf->List Lf:=fun _=>[]
def N63 (x:List Txt × Txt):Nat:=x.1.length
def p63 (x:List Txt × Txt) (n:Nat):Bool:=!(x.2 == x.1.getD n default)
def E1p (x:List Txt × Txt):Prop:=x.1.length < 2 ^ 62
def B1p:List Lf->List Txt × Txt
 | [.n a,.fr b,.s s,_,_]=>(ofR txF a b,s)
 | _=>default
theorem G2j (x:List Txt × Txt) (hx:E1p x) (n:Nat) (hn:n<=N63 x):F3 prog (D5 prog pNe 60) (pNe.blk 63) D4a (sp63.rho (L63 x n)) (sp63.heap (L63 x n)) (H9 E0d 8 [])=some (if n < N63 x then (bif p63 x n then (.normal,L63 x (n+1)) else (.ret,F0n (L63 x 0) n)) else (.exit 0,F0x (L63 x 0))):=by
 have h1:=hx
 simp only [E1p] at h1
 simp only [L63,F0n,F0x]
 rw [F5d,I4 hn h1]
 simp only [Int.toNat_natCast,Nat.zero_add]
 by_cases h:n < N63 x
 ·rw [if_pos h]
  simp only [N63,A6x] at h
  simp only [p63,A6x]
  cases hE:x.2 == x.1.getD n default
  all_goals
   repeat first
    | exact rfl
    | refine A8 rfl ?_
    | refine C8 rfl ?_
    | refine A8 (by simp only [SBs]; omega) ?_
    | refine C8 (by simp only [SBs]; omega) ?_
    | exact congrArg some (Y5 (by first | (simp only [SBs]; omega) | simp)).symm
    | exact congrArg some (Y4 (by first | (simp only [SBs]; omega) | simp)).symm
 ·rw [if_neg h]
  simp only [N63,A6x] at h
  repeat first
   | exact rfl
   | refine A8 rfl ?_
   | refine C8 rfl ?_
   | refine A8 (by simp only [SBs]; omega) ?_
   | refine C8 (by simp only [SBs]; omega) ?_
   | exact congrArg some (Y5 (by first | (simp only [SBs]; omega) | simp)).symm
   | exact congrArg some (Y4 (by first | (simp only [SBs]; omega) | simp)).symm
def G3o:Blk:=hookP sp63 8 [] (fdT E0d 0 .ret (.exit 0) B1p L63 F0n F0x N63 p63 E1p)
theorem F2x {A:Amb} {q:Prims} (h0:PrimOK prog A pNe) (hq:PrimOK prog A q):PrimOK prog A (q.addb 63 0 G3o) :=
 SEB.findR (id:=0) (ds:=[]) (dec:=B1p) (sp:=sp63) (sq:=E0d) (m:=8) (eb:=.ret) (ee:=.exit 0) (L:=L63) (Lb:=F0n) (Le:=F0x) (N:=N63) (p:=p63) (Inv:=E1p) (k:=60) F7 F8 h0 hq func63 (show f63.body=some (f63.body.getD .skip) by kernel_rfl) (body:=D4a) (by kernel_rfl)
  rfl rfl rfl rfl (by simp) (by simp) (fun _ _=>⟨⟨.inr rfl,.inr rfl,.inr rfl,.inr rfl,.inr rfl,.inr rfl,.inr rfl,.inr rfl,trivial⟩,⟨.inr rfl,.inr rfl,.inr rfl,.inr rfl,.inr rfl,.inr rfl,.inr rfl,.inr rfl,trivial⟩⟩) G2j
end Go.Proofs.Tryz
namespace Go.Proofs.Tryz
open Go.Ad
def D3r:Code:=I9 (J7 0 (f15.body.getD .skip))
def sp15:SP:=⟨[.flist 1]++[.flist 1]++dr 10++[.int .i64]++[.int .i64]++dr 12,dd8⟩
def D9v:AEx->SP
 | .ret=>⟨dr 4++[.bool]++dr 21,dd8⟩
 | .exit 0=>⟨dr 26,dd8⟩
 | _=>sp15
theorem F4v (l m:List Txt) (n:Int):F3 prog (D5 prog pNe 60) (pNe.blk 15) D3r (sp15.rho [.n l.length,.fr (A7 txF l),.n m.length,.fr (A7 txF m),.i l.length,.i n]) (sp15.heap [.n l.length,.fr (A7 txF l),.n m.length,.fr (A7 txF m),.i l.length,.i n]) (H9 D9v 8 []) =
  brK (decide (n < (l.length:Int))) (brK (decide (0<=n/\n < (l.length:Int))) (brK (decide (0<=n/\n < (m.length:Int))) (brK (!l.getD n.toNat default == m.getD n.toNat default) (some (.ret,[.b (false)])) (some (.normal,[.n (l.length),.fr (A7 txF l),.n (m.length),.fr (A7 txF m),.i ((l.length:Int)),.i (W (n+1))]))) none) none) (some (.exit 0,[])):=by kernel_rfl
def L15 (x:List Txt × List Txt) (n:Nat):List Lf:=[.n x.1.length,.fr (A7 txF x.1),.n x.2.length,.fr (A7 txF x.2),.i x.1.length,.i n]
def F0k:List Lf->Nat->List Lf:=fun _ _=>[.b false]
def F0r:List Lf->List Lf:=fun _=>[]
def N15 (x:List Txt × List Txt):Nat:=x.1.length
def p15 (x:List Txt × List Txt) (n:Nat):Bool:=(x.1.getD n default == x.2.getD n default)
def E5y (x:List Txt × List Txt):Prop:=x.1.length < 2 ^ 62/\x.1.length=x.2.length
def B7t:List Lf->List Txt × List Txt
 | [.n a,.fr b,.n c,.fr d,_,_]=>(ofR txF a b,ofR txF c d)
 | _=>default
theorem G2b (x:List Txt × List Txt) (hx:E5y x) (n:Nat) (hn:n<=N15 x):F3 prog (D5 prog pNe 60) (pNe.blk 15) D3r (sp15.rho (L15 x n)) (sp15.heap (L15 x n)) (H9 D9v 8 [])=some (if n < N15 x then (bif p15 x n then (.normal,L15 x (n+1)) else (.ret,F0k (L15 x 0) n)) else (.exit 0,F0r (L15 x 0))):=by
 obtain ⟨h1,h2⟩:=hx
 simp only [L15,F0k,F0r]
 rw [F4v,I4 hn h1]
 simp only [Int.toNat_natCast,Nat.zero_add]
 have hlen:=h2
 by_cases h:n < N15 x
 ·rw [if_pos h]
  simp only [N15] at h
  simp only [p15]
  cases hE:x.1.getD n default == x.2.getD n default
  all_goals
   repeat first
    | exact rfl
    | refine A8 rfl ?_
    | refine C8 rfl ?_
    | refine A8 (by simp only [SBs]; omega) ?_
    | refine C8 (by simp only [SBs]; omega) ?_
    | exact congrArg some (Y5 (by first | (simp only [SBs]; omega) | simp)).symm
    | exact congrArg some (Y4 (by first | (simp only [SBs]; omega) | simp)).symm
 ·rw [if_neg h]
  simp only [N15] at h
  repeat first
   | exact rfl
   | refine A8 rfl ?_
   | refine C8 rfl ?_
   | refine A8 (by simp only [SBs]; omega) ?_
   | refine C8 (by simp only [SBs]; omega) ?_
   | exact congrArg some (Y5 (by first | (simp only [SBs]; omega) | simp)).symm
   | exact congrArg some (Y4 (by first | (simp only [SBs]; omega) | simp)).symm
def G3i:Blk:=hookP sp15 8 [] (fdT D9v 0 .ret (.exit 0) B7t L15 F0k F0r N15 p15 E5y)
theorem F2r {A:Amb} {q:Prims} (h0:PrimOK prog A pNe) (hq:PrimOK prog A q):PrimOK prog A (q.addb 15 0 G3i) :=
 SEB.findR (id:=0) (ds:=[]) (dec:=B7t) (sp:=sp15) (sq:=D9v) (m:=8) (eb:=.ret) (ee:=.exit 0) (L:=L15) (Lb:=F0k) (Le:=F0r) (N:=N15) (p:=p15) (Inv:=E5y) (k:=60) F7 F8 h0 hq func15 (show f15.body=some (f15.body.getD .skip) by kernel_rfl) (body:=D3r) (by kernel_rfl)
  rfl rfl rfl rfl (by simp) (by simp) (fun _ _=>⟨⟨.inr rfl,.inr rfl,.inr rfl,.inr rfl,.inr rfl,.inr rfl,.inr rfl,.inr rfl,trivial⟩,⟨.inr rfl,.inr rfl,.inr rfl,.inr rfl,.inr rfl,.inr rfl,.inr rfl,.inr rfl,trivial⟩⟩) G2b
def D6e:Prims:=((pNe.addb 50 0 G3m).addb 63 0 G3o).addb 15 0 G3i
theorem F4i {A:Amb} (hT:Tab A) (hG:gN prog<=A.G):PrimOK prog A D6e:=by
 have h0:=E7n hT hG
 exact F2r h0 (F2x h0 (F2v h0 h0))
theorem C9f (l:List Txt) (s:Txt) (a:Lf):B7v [Lf.n l.length,Lf.fr (A7 txF l),Lf.s s,a]=(l,s):=by simp [B7v,J3 U9]
theorem C9g (l:List Txt) (s:Txt) (a b:Lf):B1p [Lf.n l.length,Lf.fr (A7 txF l),Lf.s s,a,b]=(l,s):=by simp [B1p,J3 U9]
theorem C9a (l m:List Txt) (a b:Lf):B7t [Lf.n l.length,Lf.fr (A7 txF l),Lf.n m.length,Lf.fr (A7 txF m),a,b]=(l,m):=by simp [B7t,J3 U9]
end Go.Proofs.Tryz
namespace Go.Proofs.Tryz
open Go.Ad
theorem G5w (l:List Txt) (s:Txt):(D5 prog D6e 60).call 50 [V7 l,.sstr s] (Bg 8) F9 =
  brK (fdC L50 B7v E1o [.n (l.length),.fr (A7 txF l),.s (s),.i (0)]) (brK (fdE p50 N50 (B7v [.n (l.length),.fr (A7 txF l),.s (s),.i (0)])) (some (.bool false)) (some (.sbool (true)))) none:=by kernel_rfl
theorem G5m (l:List Txt) (s:Txt):(D5 prog D6e 60).call 22 [V7 l,.sstr s] (Bg 8) F9 =
  brK (fdC L63 B1p E1p [.n (l.length),.fr (A7 txF l),.s (s),.i ((l.length:Int)),.i (0)]) (brK (fdE p63 N63 (B1p [.n (l.length),.fr (A7 txF l),.s (s),.i ((l.length:Int)),.i (0)])) (some (.bool false)) (some (.sbool (decide (((G5 (p63 (B1p [.n (l.length),.fr (A7 txF l),.s (s),.i ((l.length:Int)),.i (0)])) (N63 (B1p [.n (l.length),.fr (A7 txF l),.s (s),.i ((l.length:Int)),.i (0)])) 0):Int) >= 0))))) none:=by kernel_rfl
theorem G5l (l m:List Txt):(D5 prog D6e 60).call 15 [V7 l,V7 m] (Bg 8) F9 =
  brK ((l.length:Int) != (m.length:Int)) (some (.bool false)) (brK (fdC L15 B7t E5y [.n (l.length),.fr (A7 txF l),.n (m.length),.fr (A7 txF m),.i ((l.length:Int)),.i (0)]) (brK (fdE p15 N15 (B7t [.n (l.length),.fr (A7 txF l),.n (m.length),.fr (A7 txF m),.i ((l.length:Int)),.i (0)])) (some (.bool true)) (some (.sbool (false)))) none):=by kernel_rfl
theorem G7t (l:List Txt) (s:Txt) (h:l.length < 2 ^ 62):∃ v,(D5 prog D6e 60).call 50 [V7 l,.sstr s] (Bg 8) F9=some v/\A5g (decide (s ∈ l)) v:=by
 rw [G5w,C9f]
 have hC:=I8 (L:=L50) (dec:=B7v) (Inv:=E1o) (x:=(l,s)) (C9f l s _) h
 have e:fdE p50 N50 (l,s)=decide (A2e (A6x l s) l.length=l.length):=rfl
 have hm:=D0n l s
 rw [e]
 by_cases h1:A2e (A6x l s) l.length=l.length
 ·exact ⟨_,A8 hC (A8 (dT h1) rfl),by rw [dF (hm.1 h1)]; exact .inl rfl⟩
 ·have h2:s ∈ l:=Classical.byContradiction fun h2=>h1 (hm.2 h2)
  exact ⟨_,A8 hC (C8 (dF h1) rfl),by rw [dT h2]; exact .inr rfl⟩
theorem G0n (l:List Txt) (s:Txt) (n:Nat):p63 (l,s) n=p50 (l,s) n:=by
 unfold p63 p50 A6x
 dsimp only
 rw [show (s == l.getD n default)=(l.getD n default == s) from BEq.comm]
theorem G7m (l:List Txt) (s:Txt) (h:l.length < 2 ^ 62):∃ v,(D5 prog D6e 60).call 22 [V7 l,.sstr s] (Bg 8) F9=some v/\A5g (decide (s ∈ l)) v:=by
 rw [G5m,C9g]
 have hC:=I8 (L:=L63) (dec:=B1p) (Inv:=E1p) (x:=(l,s)) (C9g l s _ _) h
 have e:fdE p63 N63 (l,s)=decide (A2e (A6x l s) l.length=l.length):=by
  have:p63 (l,s)=p50 (l,s):=funext (G0n l s)
  unfold fdE
  rw [this]
  rfl
 have hm:=D0n l s
 rw [e]
 by_cases h1:A2e (A6x l s) l.length=l.length
 ·exact ⟨_,A8 hC (A8 (dT h1) rfl),by rw [dF (hm.1 h1)]; exact .inl rfl⟩
 ·have h2:s ∈ l:=Classical.byContradiction fun h2=>h1 (hm.2 h2)
  exact ⟨_,A8 hC (C8 (dF h1) rfl),by rw [dT h2]; exact .inr (by rw [dT (show ((G5 (p63 (l,s)) (N63 (l,s)) 0:Nat):Int) >= 0 by omega)])⟩
theorem B4d {l m:List Txt} (h:l.length=m.length):A2e (fun n=>!(l.getD n default == m.getD n default)) l.length=l.length ↔ l=m:=by
 constructor
 ·intro hf
  refine List.ext_getElem h fun i h1 h2=>?_
  have:(!(l.getD i default == m.getD i default))=false:=A7q (p:=fun n=>!(l.getD n default == m.getD n default)) (N:=l.length) (i:=i) (by omega)
  rw [List.getD_eq_getElem?_getD,List.getD_eq_getElem?_getD,List.getElem?_eq_getElem h1,List.getElem?_eq_getElem h2] at this
  simpa using this
 ·rintro rfl
  refine Classical.byContradiction fun hne=>?_
  have hlt:A2e (fun n=>!(l.getD n default == l.getD n default)) l.length < l.length:=by have:=B5h (p:=fun n=>!(l.getD n default == l.getD n default)) (N:=l.length); omega
  have:=C5l hlt
  simp at this
theorem G7l (l m:List Txt) (h:l.length < 2 ^ 62):∃ v,(D5 prog D6e 60).call 15 [V7 l,V7 m] (Bg 8) F9=some v/\A5g (decide (l=m)) v:=by
 rw [G5l]
 by_cases hl:l.length=m.length
 ·rw [C9a]
  have hC:=I8 (L:=L15) (dec:=B7t) (Inv:=E5y) (x:=(l,m)) (C9a l m _ _) ⟨h,hl⟩
  have e:fdE p15 N15 (l,m)=decide (A2e (fun n=>!(l.getD n default == m.getD n default)) l.length=l.length):=by
   unfold fdE A2e
   simp only [Bool.not_not]
   rfl
  rw [e]
  have h0:((l.length:Int) != (m.length:Int))=false:=by rw [hl]; simp
  by_cases h1:l=m
  ·exact ⟨_,C8 h0 (A8 hC (A8 (dT ((B4d hl).2 h1)) rfl)),by rw [dT h1]; exact .inl rfl⟩
  ·exact ⟨_,C8 h0 (A8 hC (C8 (dF fun h2=>h1 ((B4d hl).1 h2)) rfl)),by rw [dF h1]; exact .inr rfl⟩
 ·have h0:((l.length:Int) != (m.length:Int))=true:=by simp only [bne_iff_ne,ne_eq]; omega
  exact ⟨_,A8 h0 rfl,by rw [dF (fun (h1:l=m)=>hl (by rw [h1]))]; exact .inl rfl⟩
def F8o:Par (List Txt × List Txt) where
 get:=fun | [a,b]=>(match B3f txF 1 a,B3f txF 1 b with | some (c,l),some (d,m)=>some (c && d,(l,m)) | _,_=>none) | _=>none
 av:=fun x=>[V7 x.1,V7 x.2]
 ok:=by
  intro l x h ι vs hv
  split at h
  ·split at h
   ·rename_i h1 h2
    simp only [sI,pI,Bool.and_eq_true] at h
    obtain ⟨⟨rfl,rfl⟩,rfl⟩:=h
    simp only [VRL] at hv ⊢
    obtain ⟨y,r,e,q1,y2,r2,e2,q2,q3⟩:=hv
    exact ⟨y,r,e,A4m h1 q1,y2,r2,e2,A4m h2 q2,q3⟩
   ·cases h
  ·cases h
 free:=fun _=>rfl
def F1c (x:List Txt × Txt):Tr AV:=.br (decide (x.1.length < 2 ^ 62)) (.leaf (.sbool (decide (x.2 ∈ x.1)))) .fail
def VEq (x:List Txt × List Txt):Tr AV:=.br (decide (x.1.length < 2 ^ 62)) (.leaf (.sbool (decide (x.1=x.2)))) .fail
def pNf:Prims:=((pNe.addt 50 (R6 parPT F1c)).addt 22 (R6 parPT F1c)).addt 15 (R6 F8o VEq)
theorem G0y {A:Amb} (hT:Tab A) (hG:gN prog<=A.G):PrimOK prog A pNf:=by
 have h0:=E7n hT hG
 have h1:=F4i hT hG
 refine J5 hG h1 (J5 hG h1 (J5 hG h1 h0 parPT F1c func50 (by kernel_rfl) fun x v hv=>?_) parPT F1c func22 (by kernel_rfl) fun x v hv=>?_) F8o VEq func15 (by kernel_rfl) fun x v hv=>?_
 ·obtain ⟨hz,hv⟩:=Tr.br1 hv
  cases hv
  obtain ⟨v',h3,h4⟩:=G7t x.1 x.2 (of_decide_eq_true hz)
  exact ⟨v',h3,V9 h4,A0z h4⟩
 ·obtain ⟨hz,hv⟩:=Tr.br1 hv
  cases hv
  obtain ⟨v',h3,h4⟩:=G7m x.1 x.2 (of_decide_eq_true hz)
  exact ⟨v',h3,V9 h4,A0z h4⟩
 ·obtain ⟨hz,hv⟩:=Tr.br1 hv
  cases hv
  obtain ⟨v',h3,h4⟩:=G7l x.1 x.2 (of_decide_eq_true hz)
  exact ⟨v',h3,V9 h4,A0z h4⟩
end Go.Proofs.Tryz
namespace Go.Proofs.Tryz
open Go.Ad
def C4i:Code:=I9 (J7 2 (f42.body.getD .skip))
def sp42c:SP:=⟨dr 1++[.is (.ptr (some (8,0)))]++dr 1++[.flist 1]++[.int .i64]++[.flist 1]++[.int .i64]++dr 26,dd8++[.any]⟩
def C7b:AEx->SP
 | .exit 2=>⟨dr 1++[.is (.ptr (some (8,0)))]++dr 1++[.flist 1]++[.int .i64]++dr 28,dd8++[.any]⟩
 | _=>sp42c
theorem E8m (O M:List Txt) (i n:Int) (d:Drw):F3 prog (D5 prog pNf 60) (pNf.blk 42) C4i (sp42c.rho [.n O.length,.fr (A7 txF O),.i i,.n M.length,.fr (A7 txF M),.i n,.o (A9 d)]) (sp42c.heap [.n O.length,.fr (A7 txF O),.i i,.n M.length,.fr (A7 txF M),.i n,.o (A9 d)]) (H9 C7b 9 []) =
  brK (decide (n < (M.length:Int))) (brK (decide (0<=n/\n < (M.length:Int))) (brK (D8 (okR txF O.length (A7 txF O))) (brK (decide ((ofR txF O.length (A7 txF O)).length<=1000000)) (some (.normal,[.n ((P5 (ofR txF O.length (A7 txF O)) (M.getD n.toNat default)).length),.fr (A7 txF (P5 (ofR txF O.length (A7 txF O)) (M.getD n.toNat default))),.i (i),.n (M.length),.fr (A7 txF M),.i (W (n+1)),.o (A9 d)])) none) none) none) (some (.exit 2,[.n (O.length),.fr (A7 txF O),.i (i),.o (A9 d)])):=by kernel_rfl
def C3c (x:List Txt × List Txt × Int × Drw) (n:Nat):List Lf:=[.n ((x.2.1.take n).foldl P5 x.1).length,.fr (A7 txF ((x.2.1.take n).foldl P5 x.1)),.i x.2.2.1,.n x.2.1.length,.fr (A7 txF x.2.1),.i n,.o (A9 x.2.2.2)]
def B0y (x:List Txt × List Txt × Int × Drw):List Lf:=C3c x 0
def D7p:List Lf->(List Txt × List Txt × Int × Drw)->List Lf
 | [_,_,i,_,_,_,o],x=>[.n (x.2.1.foldl P5 x.1).length,.fr (A7 txF (x.2.1.foldl P5 x.1)),i,o]
 | _,_=>[]
def D2r (x:List Txt × List Txt × Int × Drw):Nat:=x.2.1.length
def B8i (x:List Txt × List Txt × Int × Drw):Prop:=x.1.length<=900000/\x.2.1.length<=10000
def A2k:List Lf->List Txt × List Txt × Int × Drw
 | [.n a,.fr b,.i i,.n c,.fr e,_,.o o]=>(ofR txF a b,ofR txF c e,i,I1 o)
 | _=>([],[],0,default)
theorem F5x (x:List Txt × List Txt × Int × Drw) (hx:B8i x) (n:Nat) (hn:n<=D2r x):F3 prog (D5 prog pNf 60) (pNf.blk 42) C4i (sp42c.rho (C3c x n)) (sp42c.heap (C3c x n)) (H9 C7b 9 [])=some (if n < D2r x then (.normal,C3c x (n+1)) else (.exit 2,D7p (B0y x) x)):=by
 obtain ⟨O,M,i,d⟩:=x
 obtain ⟨h1,h2⟩:=hx
 dsimp only at h1 h2
 simp only [C3c]
 rw [E8m,I4 hn (show D2r (O,M,i,d) < 2 ^ 62 by show M.length < 2 ^ 62; omega)]
 simp only [Int.toNat_natCast,J3 U9,L8]
 by_cases h:n < D2r (O,M,i,d)
 ·rw [if_pos h]
  simp only [D2r] at h
  have hl:=V5 (M.take n) O
  rw [List.length_take] at hl
  rw [A6s h]
  refine A8 (dT (by omega)) (A8 (dT (by omega)) (A8 rfl ?_))
  exact A8 (dT (by omega)) rfl
 ·rw [if_neg h]
  simp only [D2r] at h hn
  have e:M.take n=M:=List.take_of_length_le (by omega)
  simp only [D7p,B0y,C3c,e]
  exact C8 (dF (by omega)) rfl
theorem F9i {A:Amb} (x:List Txt × List Txt × Int × Drw) (_hx:B8i x) (Bb:Heap) (hB:Bb.length=9):Wk A Bb ⟨sp42c.rho (B0y x),sp42c.heap (B0y x),[]⟩ ⟨sp42c.rho (C3c x 0),sp42c.heap (C3c x 0),[]⟩:=by
 have _:=hB
 exact Wk.refl
def F7m:Blk:=hookP sp42c 9 [] (itT (C7b (.exit 2)) 2 (.exit 2) A2k B0y D7p B8i)
theorem E5d {A:Amb} {q:Prims} (h0:PrimOK prog A pNf) (hq:PrimOK prog A q):PrimOK prog A (q.addb 42 2 F7m) :=
 SEB.iterK (id:=2) (ds:=[]) (dec:=A2k) (sp0:=sp42c) (sp:=sp42c) (sq:=C7b) (m:=9) (ee:=.exit 2) (L0:=B0y) (L:=C3c) (Le:=D7p) (N:=D2r) (Inv:=B8i) (k:=60) F7 F8 h0 hq func42 (show f42.body=some (f42.body.getD .skip) by kernel_rfl) (body:=C4i) (by kernel_rfl)
  rfl rfl rfl rfl (by simp) (fun _=>⟨.inr rfl,.inr rfl,.inr rfl,.inr rfl,.inr rfl,.inr rfl,.inr rfl,.inr rfl,.inr rfl,trivial⟩) F9i F5x
theorem G3v {O M:List Txt} (h1:O.length<=900000) (h2:M.length<=10000) (i:Int) (d:Drw):A2k [Lf.n O.length,Lf.fr (A7 txF O),Lf.i i,Lf.n M.length,Lf.fr (A7 txF M),Lf.i 0,Lf.o (A9 d)]=(O,M,i,d)/\itC B0y A2k B8i [Lf.n O.length,Lf.fr (A7 txF O),Lf.i i,Lf.n M.length,Lf.fr (A7 txF M),Lf.i 0,Lf.o (A9 d)]=true :=
 have e:A2k [Lf.n O.length,Lf.fr (A7 txF O),Lf.i i,Lf.n M.length,Lf.fr (A7 txF M),Lf.i 0,Lf.o (A9 d)]=(O,M,i,d):=by simp [A2k,J3 U9,E8]
 ⟨e,X7 (L0:=B0y) (dec:=A2k) (Inv:=B8i) (x:=(O,M,i,d)) e ⟨h1,h2⟩⟩
def pNg1:Prims:=pNf.addb 42 2 F7m
def A5n (d:Drw) (n:Nat):List Txt:=(d.l.take n).foldl (fun o x=>(K8 x x.l.length).foldl P5 o) []
theorem B3n {d:Drw} {n:Nat} (h:n < d.l.length):A5n d (n+1)=(K8 (D9 d n) (D9 d n).l.length).foldl P5 (A5n d n):=by
 unfold A5n
 rw [List.take_succ_eq_append_getElem h,List.foldl_append]
 show _=List.foldl P5 _ (K8 (d.l.getD n default) (d.l.getD n default).l.length)
 rw [List.getD_eq_getElem?_getD,List.getElem?_eq_getElem h]
 rfl
theorem B9y {d:Drw} (h:GrD d):∀ n,n<=d.l.length->(A5n d n).length<=10000*n
 | 0,_=>by simp [A5n]
 | n+1,hn=>by
  rw [B3n (by omega)]
  have h1:=B9y h n (by omega)
  have h2:=h.sml n (by omega)
  have h3:=A8b h2 _ (Nat.le_refl _)
  have h4:=h2.l
  have h5:=V5 (K8 (D9 d n) (D9 d n).l.length) (A5n d n)
  omega
end Go.Proofs.Tryz
namespace Go.Proofs.Tryz
open Go.Ad
def C4h:Code:=I9 (J7 0 (f42.body.getD .skip))
def sp42a:SP:=⟨dr 1++[.is (.ptr (some (8,0)))]++dr 1++[.flist 1]++[.int .i64]++dr 28,dd8++[.any]⟩
def C7a:AEx->SP
 | .exit 0=>⟨dr 3++[.flist 1]++dr 29,dd8++[.any]⟩
 | _=>sp42a
theorem E8l (d:Drw) (O:List Txt) (i:Int):F3 prog (D5 prog pNg1 60) (pNg1.blk 42) C4h (sp42a.rho [.n O.length,.fr (A7 txF O),.i i,.o (A9 d)]) (sp42a.heap [.n O.length,.fr (A7 txF O),.i i,.o (A9 d)]) (H9 C7a 9 []) =
  brK (decide (i < (d.l.length:Int))) (brK (decide (0<=i/\i < (d.l.length:Int))) (brK (D8 (okR Frm.fv (d.l.getD i.toNat default).l.length (A7 Frm.fv (d.l.getD i.toNat default).l))) (brK (D8 (SmlF (feE (d.l.getD i.toNat default)))) (brK (itC B0y A2k B8i [Lf.n O.length,Lf.fr (A7 txF O),Lf.i i,Lf.n (K8 (feE (d.l.getD i.toNat default)) (ofR Frm.fv (d.l.getD i.toNat default).l.length (A7 Frm.fv (d.l.getD i.toNat default).l)).length).length,Lf.fr (A7 txF (K8 (feE (d.l.getD i.toNat default)) (ofR Frm.fv (d.l.getD i.toNat default).l.length (A7 Frm.fv (d.l.getD i.toNat default).l)).length)),Lf.i 0,Lf.o (A9 d)]) (some (.normal,[.n ((List.foldl P5 (A2k [Lf.n O.length,Lf.fr (A7 txF O),Lf.i i,Lf.n (K8 (feE (d.l.getD i.toNat default)) (ofR Frm.fv (d.l.getD i.toNat default).l.length (A7 Frm.fv (d.l.getD i.toNat default).l)).length).length,Lf.fr (A7 txF (K8 (feE (d.l.getD i.toNat default)) (ofR Frm.fv (d.l.getD i.toNat default).l.length (A7 Frm.fv (d.l.getD i.toNat default).l)).length)),Lf.i 0,Lf.o (A9 d)]).fst (A2k [Lf.n O.length,Lf.fr (A7 txF O),Lf.i i,Lf.n (K8 (feE (d.l.getD i.toNat default)) (ofR Frm.fv (d.l.getD i.toNat default).l.length (A7 Frm.fv (d.l.getD i.toNat default).l)).length).length,Lf.fr (A7 txF (K8 (feE (d.l.getD i.toNat default)) (ofR Frm.fv (d.l.getD i.toNat default).l.length (A7 Frm.fv (d.l.getD i.toNat default).l)).length)),Lf.i 0,Lf.o (A9 d)]).snd.fst).length),.fr (A7 txF (List.foldl P5 (A2k [Lf.n O.length,Lf.fr (A7 txF O),Lf.i i,Lf.n (K8 (feE (d.l.getD i.toNat default)) (ofR Frm.fv (d.l.getD i.toNat default).l.length (A7 Frm.fv (d.l.getD i.toNat default).l)).length).length,Lf.fr (A7 txF (K8 (feE (d.l.getD i.toNat default)) (ofR Frm.fv (d.l.getD i.toNat default).l.length (A7 Frm.fv (d.l.getD i.toNat default).l)).length)),Lf.i 0,Lf.o (A9 d)]).fst (A2k [Lf.n O.length,Lf.fr (A7 txF O),Lf.i i,Lf.n (K8 (feE (d.l.getD i.toNat default)) (ofR Frm.fv (d.l.getD i.toNat default).l.length (A7 Frm.fv (d.l.getD i.toNat default).l)).length).length,Lf.fr (A7 txF (K8 (feE (d.l.getD i.toNat default)) (ofR Frm.fv (d.l.getD i.toNat default).l.length (A7 Frm.fv (d.l.getD i.toNat default).l)).length)),Lf.i 0,Lf.o (A9 d)]).snd.fst)),.i (W (i+1)),.o (A9 d)])) none) none) none) none) (some (.exit 0,[.n (O.length),.fr (A7 txF O),.o (A9 d)])):=by kernel_rfl
def D2p (x:Drw) (n:Nat):List Lf:=[.n (A5n x n).length,.fr (A7 txF (A5n x n)),.i n,.o (A9 x)]
def A9f (x:Drw):List Lf:=[.n 0,.fr fun _=>[],.i 0,.o (A9 x)]
def E2o:List Lf->Drw->List Lf
 | [_,_,_,o],x=>[.n (A5n x x.l.length).length,.fr (A7 txF (A5n x x.l.length)),o]
 | _,_=>[]
def C8b (x:Drw):Nat:=x.l.length
def C2d (x:Drw):Prop:=GrD x
def A3l:List Lf->Drw
 | [_,_,_,.o o]=>I1 o
 | _=>default
theorem F5w (x:Drw) (hx:C2d x) (n:Nat) (hn:n<=C8b x):F3 prog (D5 prog pNg1 60) (pNg1.blk 42) C4h (sp42a.rho (D2p x n)) (sp42a.heap (D2p x n)) (H9 C7a 9 [])=some (if n < C8b x then (.normal,D2p x (n+1)) else (.exit 0,E2o (A9f x) x)):=by
 have h1:GrD x:=hx
 have hl:=h1.len
 simp only [D2p]
 rw [E8l,I4 hn (show C8b x < 2 ^ 62 by show x.l.length < 2 ^ 62; omega)]
 simp only [Int.toNat_natCast,L8,Bool.and_self,Y9,A7p,J3 Fea.inj,J3 Frm.inj]
 by_cases h:n < C8b x
 ·rw [if_pos h,B3n h]
  simp only [C8b] at h
  have h2:=h1.sml n h
  have h3:=A8b h2 _ (Nat.le_refl _)
  have h4:=h2.l
  have h5:=B9y h1 n (by omega)
  obtain ⟨e,hit⟩:=G3v (O:=A5n x n) (M:=K8 (D9 x n) (D9 x n).l.length) (by omega) (by omega) n x
  refine A8 (dT (by omega)) (A8 (dT (by omega)) (A8 rfl (A8 (D6 h2) (A8 hit ?_))))
  simp only [D9] at e ⊢
  rw [e]
 ·rw [if_neg h]
  have e:n=C8b x:=Nat.le_antisymm hn (Nat.le_of_not_lt h)
  subst e
  exact C8 (dF (by unfold C8b; omega)) rfl
theorem F9h {A:Amb} (x:Drw) (_hx:C2d x) (Bb:Heap) (hB:Bb.length=9):Wk A Bb ⟨sp42a.rho (A9f x),sp42a.heap (A9f x),[]⟩ ⟨sp42a.rho (D2p x 0),sp42a.heap (D2p x 0),[]⟩:=by
 have _:=hB
 exact Wk.temps (E2w (i:=3) (a:=.flist 0 (fun _=>[]) 1) (a':=.flist (A5n x 0).length (A7 txF (A5n x 0)) 1) rfl D8e)
def F7l:Blk:=hookP sp42a 9 [] (itT (C7a (.exit 0)) 0 (.exit 0) A3l A9f E2o C2d)
theorem E5c {A:Amb} {q:Prims} (h0:PrimOK prog A pNg1) (hq:PrimOK prog A q):PrimOK prog A (q.addb 42 0 F7l) :=
 SEB.iterK (id:=0) (ds:=[]) (dec:=A3l) (sp0:=sp42a) (sp:=sp42a) (sq:=C7a) (m:=9) (ee:=.exit 0) (L0:=A9f) (L:=D2p) (Le:=E2o) (N:=C8b) (Inv:=C2d) (k:=60) F7 F8 h0 hq func42 (show f42.body=some (f42.body.getD .skip) by kernel_rfl) (body:=C4h) (by kernel_rfl)
  rfl rfl rfl rfl (by simp) (fun _=>⟨.inr rfl,.inr rfl,.inr rfl,.inr rfl,.inr rfl,.inr rfl,.inr rfl,.inr rfl,.inr rfl,trivial⟩) F9h F5w
def G8l:Prims:=pNg1.addb 42 0 F7l
end Go.Proofs.Tryz
namespace Go.Proofs.Tryz
open Go.Ad
theorem G5p (d:Drw):(D5 prog G8l 60).call 42 [.agg d.av] (Bg 8) F9 =
  brK (itC A9f A3l C2d [Lf.n 0,Lf.fr fun x=>[],Lf.i 0,Lf.o (A9 d)]) (some (.flist (((A5n (A3l [Lf.n 0,Lf.fr fun x=>[],Lf.i 0,Lf.o (A9 d)]) (A3l [Lf.n 0,Lf.fr fun x=>[],Lf.i 0,Lf.o (A9 d)]).l.length)).length) (fun i=>txF ((A5n (A3l [Lf.n 0,Lf.fr fun x=>[],Lf.i 0,Lf.o (A9 d)]) (A3l [Lf.n 0,Lf.fr fun x=>[],Lf.i 0,Lf.o (A9 d)]).l.length).getD i default)) 1)) none:=by kernel_rfl
theorem C9d (x:Drw):A3l (A9f x)=x:=by simp [A3l,A9f,E8]
def A2r (d:Drw):List Txt:=A5n d d.l.length
def VNg (x:Drw):Tr AV:=.br (D8 (GrD x)) (.leaf (V7 (A2r x))) .fail
def pNg:Prims:=pNf.addt 42 (R6 Q4 VNg)
theorem G0z {A:Amb} (hT:Tab A) (hG:gN prog<=A.G):PrimOK prog A pNg:=by
 have h0:=G0y hT hG
 have h1:PrimOK prog A pNg1:=E5d h0 h0
 refine J5 hG (E5c h1 h1) h0 Q4 VNg func42 (by kernel_rfl) fun x v hv=>?_
 obtain ⟨hz,hv⟩:=Tr.br1 hv
 cases hv
 have hz:=J4 hz
 refine ⟨_,(G5p x).trans (A8 (X7 (C9d x) (show C2d x from hz)) rfl),rfl,?_⟩
 intro ι y hy
 have h2:VR ι (V7 (A5n (A3l (A9f x)) (A3l (A9f x)).l.length)) y:=hy
 rw [C9d] at h2
 exact h2
end Go.Proofs.Tryz
namespace Go.Proofs.Tryz
open Go.Ad
def A8q:Code:=I9 (J7 2 (f87.body.getD .skip))
def sp87i:SP:=⟨dr 3++[.list 11]++dr 5++[.flist 5]++[.int .i64]++[.int .i64]++dr 4++[.flist 2]++[.int .i64]++[.int .i64]++dr 11,dd8++[.any,.dead,.any,.vec 1 9]⟩
def B0r:AEx->SP
 | .exit 2=>⟨dr 3++[.list 11]++dr 5++[.flist 5]++[.int .i64]++[.int .i64]++dr 18,dd8++[.any,.dead,.any,.vec 1 9]⟩
 | _=>sp87i
theorem D1z (x:Fea) (f:Frm) (T:List Txt) (M:List Dat) (a b i n:Int) (c:Nat) (g:Nat->List FV) (m:Nat) (r:Nat->List AV):F3 prog (D5 prog pNg 60) (pNg.blk 87) A8q (sp87i.rho [.n m,.n c,.fr g,.i a,.i b,.n M.length,.fr (A7 Dat.fv M),.i i,.i n,.o (D7 x),.o (R5 f),.n m,.r r]) (sp87i.heap [.n m,.n c,.fr g,.i a,.i b,.n M.length,.fr (A7 Dat.fv M),.i i,.i n,.o (D7 x),.o (R5 f),.n m,.r r]) (H9 B0r 11 [9]) =
  brK (decide (n < i)) (brK (decide (0<=n/\n < (M.length:Int))) (brK (decide (m+1 < 2147483648/\m=m)) (some (.normal,[.n (m+1),.n (c),.fr (g),.i (a),.i (b),.n (M.length),.fr (A7 Dat.fv M),.i (i),.i (W (n+1)),.o (D7 (x)),.o (R5 (f)),.n (m+1),.r (K3 m r [.sstr (M.getD n.toNat default).s])])) none) none) (some (.exit 2,[.n (m),.n (c),.fr (g),.i (a),.i (b),.o (D7 (x)),.o (R5 (f)),.n (m),.r r])):=by kernel_rfl
structure B87 where
 x:Fea
 f:Frm
 T:List Txt
 c:Nat
 g:Nat->List FV
 a:Int
 b:Int
def Z7 (y:B87) (n:Nat):List Txt:=y.T++(y.f.l.take n).map (·.s)
theorem G2n (y:B87):Z7 y 0=y.T:=by simp [Z7]
theorem E2k {y:B87} {n:Nat} (h:n < y.f.l.length):Z7 y (n+1)=Z7 y n++[(y.f.l.getD n default).s]:=by
 unfold Z7
 rw [List.take_succ_eq_append_getElem h,List.map_append,List.getD_eq_getElem?_getD,List.getElem?_eq_getElem h,List.append_assoc]
 rfl
theorem F0a (y:B87) (n:Nat):(Z7 y n).length<=y.T.length+n:=by simp [Z7]; omega
def E6l (y:B87) (T:List Txt) (n:Nat) (m:Nat) (r:Nat->List AV):List Lf:=[.n m,.n y.c,.fr y.g,.i y.a,.i y.b,.n y.f.l.length,.fr (A7 Dat.fv y.f.l),.i y.f.l.length,.i n,.o (D7 y.x),.o (R5 y.f),.n m,.r r]
def B5w (y:B87) (n:Nat):List Lf:=E6l y y.T n (Z7 y n).length (C9 (Z7 y n))
def sp087i:SP:=⟨dr 3++[.list 9]++dr 5++[.flist 5]++[.int .i64]++[.int .i64]++dr 4++[.flist 2]++[.int .i64]++[.int .i64]++dr 11,dd8++[.any,.vec 1 9,.any]⟩
def A4e (y:B87):List Lf:=[.n y.T.length,.n y.c,.fr y.g,.i y.a,.i y.b,.n y.f.l.length,.fr (A7 Dat.fv y.f.l),.i y.f.l.length,.i 0,.o (D7 y.x),.n y.T.length,.r (C9 y.T),.o (R5 y.f)]
def D7y (ls:List Lf) (y:B87):List Lf:=match ls with
 | [_,c,g,a,b,_,_,_,_,o,_,_,f]=>[.n (Z7 y y.f.l.length).length,c,g,a,b,o,f,.n (Z7 y y.f.l.length).length,.r (C9 (Z7 y y.f.l.length))]
 | _=>[]
def A0v:List Lf->B87
 | [.n n,.n c,.fr g,.i a,.i b,_,_,_,_,.o o,_,.r r,.o f]=>⟨A2g o,D1j f,P9 n r,c,g,a,b⟩
 | _=>⟨default,default,[],0,fun _=>[],0,0⟩
def C2f (y:B87):Prop:=y.T.length<=1000000/\y.f.l.length<=1000000
theorem C9i (y:B87):A0v (A4e y)=y:=by
 simp [A0v,A4e,A1t,O3,B9a]
theorem SEB.step87i {A:Amb} (hq:PrimOK prog A pNg) (y:B87) (hy:C2f y) (n:Nat) (hn:n < y.f.l.length) (Bb:Heap) (hB:Bb.length=11) :
  SEB prog A Bb A8q ⟨sp87i.rho (B5w y n),sp87i.heap (B5w y n),[9]⟩ .normal ⟨sp87i.rho (B5w y (n+1)),sp87i.heap (B5w y (n+1)),[9]⟩:=by
 obtain ⟨h1,h2⟩:=hy
 have hlen:=F0a y n
 have hk:=D1z y.x y.f y.T y.f.l y.a y.b y.f.l.length n y.c y.g (Z7 y n).length (C9 (Z7 y n))
 rw [dT (show (n:Int) < (y.f.l.length:Int) by omega),dT (show 0<=(n:Int)/\(n:Int) < (y.f.l.length:Int) by omega),Int.toNat_natCast,dT (show (Z7 y n).length+1 < 2147483648/\(Z7 y n).length=(Z7 y n).length from ⟨by omega,rfl⟩),C3i (show n < 2 ^ 62 by omega)] at hk
 have hbl:BlkOK prog A (pNg.blk 87) A8q:=(hq.blk 87 f87 (f87.body.getD .skip) func87 (show f87.body=some (f87.body.getD .skip) by kernel_rfl)).sub (id:=2) (by kernel_rfl)
 have h3:=SEB.of_KP (e:=.normal) (sp:=B0r) (B0:=Bb) (ds:=[9]) F7 F8 hq hbl hB hk rfl
 refine SEB.wk_out h3 ?_
 unfold B5w
 rw [E2k hn]
 have w:=Wk.rowsQ (A:=A) (B0:=Bb) (ρ:=sp87i.rho (E6l y y.T (n+1) ((Z7 y n).length+1) (K3 (Z7 y n).length (C9 (Z7 y n)) [.sstr (y.f.l.getD n default).s]))) (D:=[9]) (B:=sp87i.heap (E6l y y.T (n+1) ((Z7 y n).length+1) (K3 (Z7 y n).length (C9 (Z7 y n)) [.sstr (y.f.l.getD n default).s]))) (b:=11) (r':=C9 (Z7 y n++[(y.f.l.getD n default).s])) (ty:=9) rfl (fun h=>by omega) (fun i hi=>A1z (Z7 y n) _ hi)
 have e:(Z7 y n++[(y.f.l.getD n default).s]).length=(Z7 y n).length+1:=by simp
 rw [e]
 exact w
theorem SEB.end87i {A:Amb} (hq:PrimOK prog A pNg) (y:B87) (Bb:Heap) (hB:Bb.length=11) :
  SEB prog A Bb A8q ⟨sp87i.rho (B5w y y.f.l.length),sp87i.heap (B5w y y.f.l.length),[9]⟩ (.exit 2) ⟨(B0r (.exit 2)).rho (D7y (A4e y) y),(B0r (.exit 2)).heap (D7y (A4e y) y),[9]⟩:=by
 have hk:=D1z y.x y.f y.T y.f.l y.a y.b y.f.l.length y.f.l.length y.c y.g (Z7 y y.f.l.length).length (C9 (Z7 y y.f.l.length))
 rw [dF (show ¬ (y.f.l.length:Int) < (y.f.l.length:Int) by omega)] at hk
 have hbl:BlkOK prog A (pNg.blk 87) A8q:=(hq.blk 87 f87 (f87.body.getD .skip) func87 (show f87.body=some (f87.body.getD .skip) by kernel_rfl)).sub (id:=2) (by kernel_rfl)
 exact SEB.of_KP (e:=.exit 2) (sp:=B0r) (B0:=Bb) (ds:=[9]) F7 F8 hq hbl hB hk rfl
theorem F9n {A:Amb} (y:B87) (Bb:Heap) (hB:Bb.length=11):Wk A Bb ⟨sp087i.rho (A4e y),sp087i.heap (A4e y),[9]⟩ ⟨sp87i.rho (B5w y 0),sp87i.heap (B5w y 0),[9]⟩:=by
 have _:=hB
 unfold B5w
 rw [G2n]
 exact Wk.mov (A:=A) (B0:=Bb) (ρ:=sp087i.rho (A4e y)) (ρ2:=(sp087i.rho (A4e y)).set 3 (.sslice 11 0 y.T.length)) (B:=sp087i.heap (A4e y)) (D:=[9]) (b:=9) (o:=.vec y.T.length (C9 y.T) 1 9) rfl (by simp) (fun ι ι2 hle hnew vs hv=>by
  refine D9s hle (t:=3) (a:=.sslice 9 0 y.T.length) rfl (fun v hv=>?_) hv
  simp only [VR] at hv ⊢
  rw [show ι2 11=ι 9 from hnew]; exact hv)
def F7y:Blk:=hookP sp087i 11 [9] (itT (B0r (.exit 2)) 2 (.exit 2) A0v A4e D7y C2f)
theorem E5p {A:Amb} {q:Prims} (h0:PrimOK prog A pNg) (hq:PrimOK prog A q):PrimOK prog A (q.addb 87 2 F7y) :=
 SEB.iterR (P:=prog) (sp0:=sp087i) (sp:=sp87i) (sq:=B0r (.exit 2)) (m:=11) (ds:=[9]) (ee:=.exit 2) (dec:=A0v) (L0:=A4e) (L:=B5w) (Le:=D7y) (N:=fun y=>y.f.l.length) (Inv:=C2f) hq func87 (show f87.body=some (f87.body.getD .skip) by kernel_rfl) (body:=A8q) (by kernel_rfl)
  rfl (by simp) (fun _=>⟨.inr rfl,.inr rfl,.inr rfl,.inr rfl,.inr rfl,.inr rfl,.inr rfl,.inr rfl,.inr rfl,.inl rfl,.inr rfl,trivial⟩) (fun y _ Bb hB=>F9n y Bb hB) (fun y hy n hn Bb hB=>SEB.step87i h0 y hy n hn Bb hB) (fun y _ Bb hB=>SEB.end87i h0 y Bb hB)
def pNh1:Prims:=pNg.addb 87 2 F7y
end Go.Proofs.Tryz
namespace Go.Proofs.Tryz
open Go.Ad
def C4t:Code:=I9 (J7 0 (f87.body.getD .skip))
def sp87a:SP:=⟨dr 3++[.list 9]++dr 5++[.flist 5]++[.int .i64]++[.int .i64]++dr 18,dd8++[.any,.vec 1 9]⟩
def C7m:AEx->SP
 | .exit 0=>⟨dr 3++[.list 9]++dr 26,dd8++[.any,.vec 1 9]⟩
 | _=>sp87a
theorem E8x (x:Fea) (T:List Txt) (l:List Frm) (a n:Int):F3 prog (D5 prog pNh1 60) (pNh1.blk 87) C4t (sp87a.rho [.n T.length,.n l.length,.fr (A7 Frm.fv l),.i a,.i n,.o (D7 x),.n T.length,.r (C9 T)]) (sp87a.heap [.n T.length,.n l.length,.fr (A7 Frm.fv l),.i a,.i n,.o (D7 x),.n T.length,.r (C9 T)]) (H9 C7m 9 [9]) =
  brK (decide (n < a)) (brK (decide (0<=n/\n < (l.length:Int))) (brK (itC A4e A0v C2f [Lf.n T.length,Lf.n l.length,Lf.fr (A7 Frm.fv l),Lf.i a,Lf.i n,Lf.n (l.getD n.toNat default).l.length,Lf.fr (A7 Dat.fv (l.getD n.toNat default).l),Lf.i ((l.getD n.toNat default).l.length:Int),Lf.i 0,Lf.o (D7 x),Lf.n T.length,Lf.r (C9 T),Lf.o (R5 (l.getD n.toNat default))]) (some (.normal,[.n ((Z7 (A0v [Lf.n T.length,Lf.n l.length,Lf.fr (A7 Frm.fv l),Lf.i a,Lf.i n,Lf.n (l.getD n.toNat default).l.length,Lf.fr (A7 Dat.fv (l.getD n.toNat default).l),Lf.i ((l.getD n.toNat default).l.length:Int),Lf.i 0,Lf.o (D7 x),Lf.n T.length,Lf.r (C9 T),Lf.o (R5 (l.getD n.toNat default))]) (A0v [Lf.n T.length,Lf.n l.length,Lf.fr (A7 Frm.fv l),Lf.i a,Lf.i n,Lf.n (l.getD n.toNat default).l.length,Lf.fr (A7 Dat.fv (l.getD n.toNat default).l),Lf.i ((l.getD n.toNat default).l.length:Int),Lf.i 0,Lf.o (D7 x),Lf.n T.length,Lf.r (C9 T),Lf.o (R5 (l.getD n.toNat default))]).f.l.length).length),.n (l.length),.fr (A7 Frm.fv l),.i (a),.i (W (n+1)),.o (D7 (x)),.n ((Z7 (A0v [Lf.n T.length,Lf.n l.length,Lf.fr (A7 Frm.fv l),Lf.i a,Lf.i n,Lf.n (l.getD n.toNat default).l.length,Lf.fr (A7 Dat.fv (l.getD n.toNat default).l),Lf.i ((l.getD n.toNat default).l.length:Int),Lf.i 0,Lf.o (D7 x),Lf.n T.length,Lf.r (C9 T),Lf.o (R5 (l.getD n.toNat default))]) (A0v [Lf.n T.length,Lf.n l.length,Lf.fr (A7 Frm.fv l),Lf.i a,Lf.i n,Lf.n (l.getD n.toNat default).l.length,Lf.fr (A7 Dat.fv (l.getD n.toNat default).l),Lf.i ((l.getD n.toNat default).l.length:Int),Lf.i 0,Lf.o (D7 x),Lf.n T.length,Lf.r (C9 T),Lf.o (R5 (l.getD n.toNat default))]).f.l.length).length),.r (fun i=>[AV.sstr ((Z7 (A0v [Lf.n T.length,Lf.n l.length,Lf.fr (A7 Frm.fv l),Lf.i a,Lf.i n,Lf.n (l.getD n.toNat default).l.length,Lf.fr (A7 Dat.fv (l.getD n.toNat default).l),Lf.i ((l.getD n.toNat default).l.length:Int),Lf.i 0,Lf.o (D7 x),Lf.n T.length,Lf.r (C9 T),Lf.o (R5 (l.getD n.toNat default))]) (A0v [Lf.n T.length,Lf.n l.length,Lf.fr (A7 Frm.fv l),Lf.i a,Lf.i n,Lf.n (l.getD n.toNat default).l.length,Lf.fr (A7 Dat.fv (l.getD n.toNat default).l),Lf.i ((l.getD n.toNat default).l.length:Int),Lf.i 0,Lf.o (D7 x),Lf.n T.length,Lf.r (C9 T),Lf.o (R5 (l.getD n.toNat default))]).f.l.length).getD i [])])])) none) none) (some (.exit 0,[.n (T.length),.o (D7 (x)),.n (T.length),.r (fun i=>[AV.sstr (T.getD i [])])])):=by kernel_rfl
def U5 (x:Fea) (n:Nat):List Txt:=(x.l.take n).flatMap fun f=>f.l.map (·.s)
theorem B3g {x:Fea} {n:Nat} (h:n < x.l.length):U5 x (n+1)=U5 x n++(F6 x n).l.map (·.s):=by
 unfold U5 F6
 rw [List.take_succ_eq_append_getElem h,List.flatMap_append,List.getD_eq_getElem?_getD,List.getElem?_eq_getElem h]
 simp
theorem A7y {x:Fea} (h:SmlF x):∀ n,n<=x.l.length->(U5 x n).length<=100*n
 | 0,_=>by simp [U5]
 | n+1,hn=>by
  rw [B3g (by omega),List.length_append,List.length_map]
  have h2:=A7y h n (by omega)
  have h3:=h.d n (by omega)
  omega
def C7x (x:Fea) (n:Nat):List Lf:=[.n (U5 x n).length,.n x.l.length,.fr (A7 Frm.fv x.l),.i x.l.length,.i n,.o (D7 x),.n (U5 x n).length,.r (C9 (U5 x n))]
def A3c (x:Fea):List Lf:=[.n 0,.n x.l.length,.fr (A7 Frm.fv x.l),.i x.l.length,.i 0,.o (D7 x),.n 0,.r (fun _=>[])]
def E2r (ls:List Lf) (x:Fea):List Lf:=match ls with
 | [_,_,_,_,_,o,_,_]=>[.n (U5 x x.l.length).length,o,.n (U5 x x.l.length).length,.r (C9 (U5 x x.l.length))]
 | _=>[]
def C8e (x:Fea):Nat:=x.l.length
def A6d:List Lf->Fea
 | [_,_,_,_,_,.o o,_,_]=>A2g o
 | _=>default
theorem E1d (x:Fea) (f:Frm) (T:List Txt) (c:Nat) (g:Nat->List FV) (a b:Int):A0v [Lf.n T.length,Lf.n c,Lf.fr g,Lf.i a,Lf.i b,Lf.n f.l.length,Lf.fr (A7 Dat.fv f.l),Lf.i (f.l.length:Int),Lf.i 0,Lf.o (D7 x),Lf.n T.length,Lf.r (C9 T),Lf.o (R5 f)]=⟨x,f,T,c,g,a,b⟩:=C9i ⟨x,f,T,c,g,a,b⟩
theorem G3y {x:Fea} {f:Frm} {T:List Txt} (c:Nat) (g:Nat->List FV) (a b:Int) (h1:T.length<=1000000) (h2:f.l.length<=1000000):itC A4e A0v C2f [Lf.n T.length,Lf.n c,Lf.fr g,Lf.i a,Lf.i b,Lf.n f.l.length,Lf.fr (A7 Dat.fv f.l),Lf.i (f.l.length:Int),Lf.i 0,Lf.o (D7 x),Lf.n T.length,Lf.r (C9 T),Lf.o (R5 f)]=true :=
 X7 (L0:=A4e) (dec:=A0v) (Inv:=C2f) (x:=⟨x,f,T,c,g,a,b⟩) (C9i _) ⟨h1,h2⟩
theorem F6i (x:Fea) (hx:SmlF x) (n:Nat) (hn:n<=C8e x):F3 prog (D5 prog pNh1 60) (pNh1.blk 87) C4t (sp87a.rho (C7x x n)) (sp87a.heap (C7x x n)) (H9 C7m 9 [9])=some (if n < C8e x then (.normal,C7x x (n+1)) else (.exit 0,E2r (A3c x) x)):=by
 have hl:=hx.l
 have hn2:n<=x.l.length:=hn
 have hlen:=A7y hx n hn
 simp only [C7x]
 rw [E8x,I4 hn (show C8e x < 2 ^ 62 by show x.l.length < 2 ^ 62; omega)]
 simp only [Int.toNat_natCast]
 by_cases h:n < C8e x
 ·rw [if_pos h,B3g h]
  simp only [C8e] at h
  have hd:=hx.d n h
  rw [E1d]
  refine A8 (dT (by omega)) (A8 (dT (by omega)) (A8 (G3y _ _ _ _ (by omega) (Nat.le_trans hd (by omega))) ?_))
  have e:Z7 ⟨x,x.l.getD n default,U5 x n,x.l.length,A7 Frm.fv x.l,x.l.length,n⟩ (x.l.getD n default).l.length=U5 x n++(F6 x n).l.map (·.s):=by
   unfold Z7 F6
   rw [List.take_length]
  dsimp only
  rw [e]
  rfl
 ·rw [if_neg h]
  have e:n=C8e x:=Nat.le_antisymm hn (Nat.le_of_not_lt h)
  subst e
  exact C8 (dF (by unfold C8e; omega)) rfl
theorem F9m {A:Amb} (x:Fea) (_hx:SmlF x) (Bb:Heap) (hB:Bb.length=9):Wk A Bb ⟨sp87a.rho (A3c x),sp87a.heap (A3c x),[9]⟩ ⟨sp87a.rho (C7x x 0),sp87a.heap (C7x x 0),[9]⟩:=by
 have e:U5 x 0=[]:=by simp [U5]
 unfold C7x
 rw [e]
 exact Wk.rowsQ (A:=A) (B0:=Bb) (ρ:=sp87a.rho (A3c x)) (D:=[9]) (B:=sp87a.heap (A3c x)) (b:=9) (r':=C9 []) (ty:=9) rfl (fun h=>by omega) (fun i hi=>(Nat.not_lt_zero i hi).elim)
def F7x:Blk:=hookP sp87a 9 [9] (itT (C7m (.exit 0)) 0 (.exit 0) A6d A3c E2r SmlF)
theorem E5o {A:Amb} {q:Prims} (h0:PrimOK prog A pNh1) (hq:PrimOK prog A q):PrimOK prog A (q.addb 87 0 F7x) :=
 SEB.iterK (id:=0) (ds:=[9]) (dec:=A6d) (sp0:=sp87a) (sp:=sp87a) (sq:=C7m) (m:=9) (ee:=.exit 0) (L0:=A3c) (L:=C7x) (Le:=E2r) (N:=C8e) (Inv:=SmlF) (k:=60) F7 F8 h0 hq func87 (show f87.body=some (f87.body.getD .skip) by kernel_rfl) (body:=C4t) (by kernel_rfl)
  rfl rfl rfl rfl (by simp) (fun _=>⟨.inr rfl,.inr rfl,.inr rfl,.inr rfl,.inr rfl,.inr rfl,.inr rfl,.inr rfl,.inr rfl,.inl rfl,trivial⟩) F9m F6i
def pNh2:Prims:=pNh1.addb 87 0 F7x
def spNh:SP:=⟨dr 2++[.flist 1]++dr 27,dd8⟩
end Go.Proofs.Tryz
namespace Go.Proofs.Tryz
open Go.Ad
theorem D4c (x:Fea):F3 prog (D5 prog pNh2 60) (pNh2.blk 87) (f87.body.getD .skip) ([.agg x.av]++List.replicate 29 G6) (Bg 8) (D5q (fun _=>[.frz 2]) (fun _=>spNh) 8 []) =
  brK (itC A3c A6d SmlF (A3c x)) (fzT .ret (U5 (A6d (A3c x)) (A6d (A3c x)).l.length).length (C9 (U5 (A6d (A3c x)) (A6d (A3c x)).l.length))) none:=by kernel_rfl
theorem C9h (x:Fea):A6d (A3c x)=x:=by simp [A6d,A3c,O3]
def VNh (x:Fea):Tr AV:=.br (D8 (SmlF x)) (.leaf (V7 (U5 x x.l.length))) .fail
def pNh:Prims:=pNg.addt 87 (R6 A1b VNh)
theorem C6h {A:Amb} (hT:Tab A) (hG:gN prog<=A.G):PrimOK prog A pNh:=by
 have h0:=G0z hT hG
 have h1:PrimOK prog A pNh1:=E5p h0 h0
 have h2:PrimOK prog A pNh2:=E5o h1 h1
 refine PrimOK.addParB h0 hG A1b VNh func87 (show f87.body=some (f87.body.getD .skip) by kernel_rfl) fun x v hv=>?_
 obtain ⟨hz,hv⟩:=Tr.br1 hv
 cases hv
 have hz:=J4 hz
 have hb:BlkOK prog A (pNh2.blk 87) (f87.body.getD .skip):=h2.blk 87 f87 (f87.body.getD .skip) func87 (show f87.body=some (f87.body.getD .skip) by kernel_rfl)
 have hk:=D4c x
 rw [C9h,X7 (C9h x) hz] at hk
 unfold fzT at hk
 rw [D6 (A8t (U5 x x.l.length))] at hk
 refine ⟨.ret,⟨spNh.rho [.n (U5 x x.l.length).length,.fr (A4t (C9 (U5 x x.l.length)))],spNh.heap [.n (U5 x x.l.length).length,.fr (A4t (C9 (U5 x x.l.length)))],[]⟩,[V7 (U5 x x.l.length)],?_,by simp,by kernel_rfl,rfl,rfl,fun ι y hy=>hy⟩
 rw [gsz]
 exact SEB.of_KG (e:=.ret) (sp:=fun _=>spNh) (gs:=fun _=>[.frz 2]) (B0:=Bg 8) (ds:=[]) F7 F8 h2 hb rfl hk rfl
end Go.Proofs.Tryz
