/- The lexer's law LexerParts: its inner loop. -/
import Derived.Test.YtfjgehlpjppggaaGreatDoorPt9
import Derived.Test.YtfjgehlpjppggaaGreatDoorAwk
import Derived.Test.YtfjgehlpjppggaaGreatDoorArg2
namespace Go.Proofs.Tryz
open Go.Ad
noncomputable def code9:Code:=f9.body.getD .skip
noncomputable def body9:Code:=unLoop (findB 0 code9)
noncomputable def body9i:Code:=unLoop (findB 2 code9)
noncomputable def body9c:Code:=unLoop (findB 4 code9)
abbrev rowX (s:List UInt8):List AV:=[.sstr s]
abbrev rowsX (T:List (List UInt8)):Nat→List AV:=rowsL rowX [] T
def txtsOf (n:Nat) (f:Nat→List AV):List (List UInt8):=(List.range n).map fun i=>match f i with
 | [x]=>(sstr? x).getD []
 | _=>[]
theorem txtsOf_rows (T:List (List UInt8)):txtsOf T.length (rowsX T)=T:=by
 unfold txtsOf
 apply List.ext_getElem?
 intro i
 rw [List.getElem?_map]
 by_cases h:i < T.length
 ·rw [List.getElem?_range h,Option.map_some,List.getElem?_eq_getElem h]
  show some (T.getD i [])=_
  rw [List.getD_eq_getElem?_getD,List.getElem?_eq_getElem h]; rfl
 ·rw [List.getElem?_eq_none (by simp; omega),List.getElem?_eq_none (by omega)]; rfl
def dq (q:Nat):List Nat:=bif q == 1 then [9] else [10,11]
def dds (q:Nat):List OP:=List.replicate q .dead
def sp9i (q:Nat):SP:=⟨dr 5++[.list 8]++dr 2++[.str]++dr 1++[.list (9+q)]++dr 46++[.flist 1,.int .i64,.int .i64]++dr 10++[.flist 3,.int .i64,.int .i64]++dr 32,dd8++[.vec 3 52]++dds q++[.vec 1 9]⟩
def sp9x (q:Nat):SP:=⟨dr 5++[.list 8]++dr 2++[.str]++dr 1++[.list (9+q)]++dr 46++[.flist 1,.int .i64,.int .i64]++dr 45,dd8++[.vec 3 52]++dds q++[.vec 1 9]⟩
def spx9 (q:Nat):AEx→SP
 | .exit _=>sp9x q
 | _=>sp9i q
def lf9i (N:Nat) (sg:List UInt8) (b K:Nat) (g:Nat→List FV) (k i:Int) (C:Nat) (h:Nat→List FV) (c j:Int) (r br:Nat→List AV):List Lf:=[.n N,.s sg,.n b,.n K,.fr g,.i k,.i i,.n C,.fr h,.i c,.i j,.n N,.r r,.n b,.r br]
def lf9x (N:Nat) (sg:List UInt8) (b K:Nat) (g:Nat→List FV) (k i:Int) (r br:Nat→List AV):List Lf:=[.n N,.s sg,.n b,.n K,.fr g,.i k,.i i,.n N,.r r,.n b,.r br]
section
variable (N:Nat) (sg:List UInt8) (b K:Nat) (g:Nat→List FV) (k i:Int) (C:Nat) (u:Nat→Tok) (c j:Int) (r br:Nat→List AV)
def tree9i (t:Tok):Option (AEx × List Lf) :=
 brK (decide (j < c)) (brK (decide (0≤j∧j < (C:Int))) (brK (decide (b+1 < 2147483648∧b=b)) (some (.normal,lf9i N sg (b+1) K g k i C (frow fun i=>rowT (u i)) c (W (j+1)) r (addRow b br [.sstr t.2.1]))) none) none)
  (some (.exit 2,lf9x N sg b K g k i r br))
theorem round9i {q:Nat} (hq:q=1 ∨ q=3):execK prog (runK prog pSm 60) noBps body9i ((sp9i q).rho (lf9i N sg b K g k i C (frow fun i=>rowT (u i)) c j r br)) ((sp9i q).heap (lf9i N sg b K g k i C (frow fun i=>rowT (u i)) c j r br)) (nrmP (spx9 q) (9+q) (dq q)) =
  tree9i N sg b K g k i C u c j r br (u j.toNat):=by rcases hq with rfl | rfl <;> kernel_rfl
end
end Go.Proofs.Tryz
namespace Go.Proofs.Tryz
open Go.Ad
abbrev tx (t:Tok):List UInt8:=t.2.1
def joinX (T:List (List UInt8)) (X:List Tok) (j:Nat):List (List UInt8):=T++(X.take j).map tx
theorem joinX_len (T:List (List UInt8)) (X:List Tok) {j:Nat} (h:j≤X.length):(joinX T X j).length=T.length+j:=by
 unfold joinX; rw [List.length_append,List.length_map,List.length_take]; omega
section
variable (N:Nat) (sg:List UInt8) (K:Nat) (g:Nat→List FV) (k i:Int) (r:Nat→List AV)
abbrev lfS9 (T:List (List UInt8)) (X:List Tok) (j:Nat):List Lf:=lf9i N sg (joinX T X j).length K g k i X.length (frow (rowsT X)) X.length j r (rowsX (joinX T X j))
def st9i (q:Nat) (T:List (List UInt8)) (X:List Tok) (j:Nat):St:=⟨(sp9i q).rho (lfS9 N sg K g k i r T X j),(sp9i q).heap (lfS9 N sg K g k i r T X j),(dq q)⟩
def ex9i (q:Nat) (T:List (List UInt8)) (X:List Tok):St:=⟨(sp9x q).rho (lf9x N sg (joinX T X X.length).length K g k i r (rowsX (joinX T X X.length))),(sp9x q).heap (lf9x N sg (joinX T X X.length).length K g k i r (rowsX (joinX T X X.length))),(dq q)⟩
theorem loop9i {A:Amb} (hT:Tab A) (hG:prog.globals.size≤A.G) {q:Nat} (hq:q=1 ∨ q=3) (T:List (List UInt8)) (X:List Tok) (hX:X.length≤5000) (hTl:T.length≤1000000000) {Bb:Heap} (hB:Bb.length=9+q) :
  SEB prog A Bb (.loop body9i) (st9i N sg K g k i r q T X 0) (.exit 2) (ex9i N sg K g k i r q T X):=by
 have hp:=pSm_ok hT hG
 have hok:∀ e,okD (9+q) (dq q) 0 (spx9 q e).h=true:=fun e=>by rcases hq with rfl | rfl <;> cases e <;> rfl
 refine SEB.while (fun j:Nat=>j≤X.length) (fun j=>X.length - j) (fun j=>st9i N sg K g k i r q T X j) (fun _=>(.exit 2,ex9i N sg K g k i r q T X)) (fun j hx=>?_) 0 (Nat.zero_le _)
 have hk:=round9i N sg (joinX T X j).length K g k i X.length (fun i=>X.getD i tok0) X.length j r (rowsX (joinX T X j)) hq
 rw [Int.toNat_natCast] at hk
 have hl:=joinX_len T X hx
 by_cases hi:j < X.length
 ·left
  have e2:W ((j:Int)+1)=((j+1:Nat):Int):=by rw [W,wrap64 (by omega) (by omega)]; omega
  have ht:tree9i N sg (joinX T X j).length K g k i X.length (fun i=>X.getD i tok0) X.length j r (rowsX (joinX T X j)) (X.getD j tok0) =
    some (.normal,lf9i N sg ((joinX T X j).length+1) K g k i X.length (frow (rowsT X)) X.length ((j+1:Nat):Int) r (addRow (joinX T X j).length (rowsX (joinX T X j)) [.sstr (X.getD j tok0).2.1])):=by
   unfold tree9i
   rw [e2,decide_eq_true (show (j:Int) < (X.length:Int) by omega),decide_eq_true (show 0≤(j:Int)∧(j:Int) < (X.length:Int) by omega),decide_eq_true (show (joinX T X j).length+1 < 2147483648∧(joinX T X j).length=(joinX T X j).length from ⟨by omega,rfl⟩)]; rfl
  rw [ht] at hk
  have hj:joinX T X (j+1)=joinX T X j++[(X.getD j tok0).2.1]:=by
   unfold joinX
   rw [List.append_assoc]
   congr 1
   rw [List.getD_eq_getElem?_getD,List.getElem?_eq_getElem hi,List.take_add_one,List.getElem?_eq_getElem hi,List.map_append]; rfl
  have h1:=SEB.of_KP (e:=.normal) (sp:=spx9 q) hmix hnum hp (.none _) hB hk (hok .normal)
  refine ⟨j+1,by omega,by omega,rfl,?_⟩
  have hw:Wk A Bb ⟨(sp9i q).rho (lf9i N sg ((joinX T X j).length+1) K g k i X.length (frow (rowsT X)) X.length ((j+1:Nat):Int) r (addRow (joinX T X j).length (rowsX (joinX T X j)) [.sstr (X.getD j tok0).2.1])),
    (sp9i q).heap (lf9i N sg ((joinX T X j).length+1) K g k i X.length (frow (rowsT X)) X.length ((j+1:Nat):Int) r (addRow (joinX T X j).length (rowsX (joinX T X j)) [.sstr (X.getD j tok0).2.1])),(dq q)⟩ (st9i N sg K g k i r q T X (j+1)):=by
   have hn:(joinX T X (j+1)).length=(joinX T X j).length+1:=by rw [hj]; simp
   unfold st9i lfS9
   rw [hn,hj]
   have:=Wk.addRow (A:=A) (B0:=Bb) (B:=(sp9i q).heap (lf9i N sg ((joinX T X j).length+1) K g k i X.length (frow (rowsT X)) X.length ((j+1:Nat):Int) r (addRow (joinX T X j).length (rowsX (joinX T X j)) [.sstr (X.getD j tok0).2.1])))
    (ρ:=(sp9i q).rho (lf9i N sg ((joinX T X j).length+1) K g k i X.length (frow (rowsT X)) X.length ((j+1:Nat):Int) r (addRow (joinX T X j).length (rowsX (joinX T X j)) [.sstr (X.getD j tok0).2.1]))) (D:=(dq q)) (f:=rowX) (d:=[]) (es:=1) (ty:=9)
    (L:=joinX T X j) (x:=(X.getD j tok0).2.1) (new:=[.sstr (X.getD j tok0).2.1]) (ts:=[.s]) (b:=9+q) (fun y=>rfl) rfl (by rcases hq with rfl | rfl <;> rfl) (fun h=>by rw [hB] at h; omega)
   rcases hq with rfl | rfl <;> exact this
  exact h1.wk_out hw
 ·right
  have e:j=X.length:=by omega
  subst e
  have ht:tree9i N sg (joinX T X X.length).length K g k i X.length (fun i=>X.getD i tok0) X.length X.length r (rowsX (joinX T X X.length)) (X.getD X.length tok0)=some (.exit 2,lf9x N sg (joinX T X X.length).length K g k i r (rowsX (joinX T X X.length))):=by
   unfold tree9i
   rw [decide_eq_false (show ¬ (X.length:Int) < (X.length:Int) by omega)]; rfl
  rw [ht] at hk
  exact ⟨by simp,SEB.of_KP (e:=.exit 2) (sp:=spx9 q) hmix hnum hp (.none _) hB hk (hok _)⟩
def sp9h (q:Nat):SP:=⟨dr 5++[.list 8]++dr 2++[.str]++dr 1++[.list (8+q)]++dr 46++[.flist 1,.int .i64,.int .i64]++dr 10++[.flist 3,.int .i64,.int .i64]++dr 32,dd8++[.vec 3 52]++dds (q - 1)++[.vec 1 9]⟩
theorem enter9i {A:Amb} {q:Nat} (hq:q=1 ∨ q=3) (T:List (List UInt8)) (X:List Tok) {Bb:Heap} :
  Wk A Bb ⟨(sp9h q).rho (lf9i N sg T.length K g k i X.length (frow (rowsT X)) X.length 0 r (rowsX T)),(sp9h q).heap (lf9i N sg T.length K g k i X.length (frow (rowsT X)) X.length 0 r (rowsX T)),(dq q)⟩ (st9i N sg K g k i r q T X 0):=by
 have hj:joinX T X 0=T:=by simp [joinX]
 unfold st9i lfS9
 rw [hj]
 have h1:=Wk.mov (A:=A) (B0:=Bb) (ρ:=(sp9h q).rho (lf9i N sg T.length K g k i X.length (frow (rowsT X)) X.length 0 r (rowsX T))) (ρ2:=((sp9h q).rho (lf9i N sg T.length K g k i X.length (frow (rowsT X)) X.length 0 r (rowsX T))).set 10 (.sslice (9+q) 0 T.length))
  (B:=(sp9h q).heap (lf9i N sg T.length K g k i X.length (frow (rowsT X)) X.length 0 r (rowsX T))) (D:=(dq q)) (b:=8+q) (o:=.vec T.length (rowsX T) 1 9) (by rcases hq with rfl | rfl <;> rfl) (by rcases hq with rfl | rfl <;> simp [dq]) (fun ι ι2 hle hnew vs hv=>by
   have hl:((sp9h q).heap (lf9i N sg T.length K g k i X.length (frow (rowsT X)) X.length 0 r (rowsX T))).length=9+q:=by rcases hq with rfl | rfl <;> rfl
   rw [hl] at hnew
   refine set_VRL hle (t:=10) (a:=.sslice (8+q) 0 T.length) (by rcases hq with rfl | rfl <;> rfl) (fun v hv=>?_) hv
   simp only [VR] at hv ⊢
   rw [hnew]; exact hv)
 rcases hq with rfl | rfl <;> exact h1
end
def resX (b:Nat) (br:Nat→List AV) (C:Nat) (h:Nat→List FV):List (List UInt8):=txtsOf b br++(toksF C h).map tx
abbrev cond9 (N b C:Nat) (h:Nat→List FV) (c j:Int) (N' b':Nat) (br:Nat→List AV):Prop:=b'=b∧N'=N∧c=C∧j=0∧h=frow (rowsT (toksF C h))∧(∀ i,i < b→br i=rowsX (txtsOf b br) i)∧C≤5000∧b≤1000000000
theorem seb9i {A:Amb} (hT:Tab A) (hG:prog.globals.size≤A.G) {q:Nat} (hq:q=1 ∨ q=3) {N:Nat} {sg:List UInt8} {b K:Nat} {g:Nat→List FV} {k i:Int} {C:Nat} {h':Nat→List FV} {c j:Int} {N' b':Nat} {r br:Nat→List AV} (hc:cond9 N b C h' c j N' b' br) {Bb:Heap} (hB:Bb.length=9+q) :
  SEB prog A Bb (.block 2 (.loop body9i)) ⟨(sp9h q).rho [.n N,.s sg,.n b,.n K,.fr g,.i k,.i i,.n C,.fr h',.i c,.i j,.n N',.r r,.n b',.r br],(sp9h q).heap [.n N,.s sg,.n b,.n K,.fr g,.i k,.i i,.n C,.fr h',.i c,.i j,.n N',.r r,.n b',.r br],dq q⟩ .normal
   ⟨(sp9x q).rho (lf9x N sg (resX b br C h').length K g k i r (rowsX (resX b br C h'))),(sp9x q).heap (lf9x N sg (resX b br C h').length K g k i r (rowsX (resX b br C h'))),dq q⟩:=by
 obtain ⟨rfl,rfl,rfl,rfl,h5,h6,h7,h8⟩:=hc
 obtain ⟨X,hX⟩:∃ X,X=toksF C h':=⟨_,rfl⟩
 obtain ⟨T,hTx⟩:∃ T,T=txtsOf b' br:=⟨_,rfl⟩
 have hn:C=X.length:=by rw [hX,toksF_len]
 have hn2:b'=T.length:=by rw [hTx]; simp [txtsOf]
 have hr:resX b' br C h'=joinX T X X.length:=by unfold resX joinX; rw [← hX,← hTx,List.take_length]
 rw [hr]
 rw [← hX] at h5
 rw [← hTx] at h6
 subst hn hn2 h5
 have hw:Wk A Bb ⟨(sp9h q).rho (lf9i N' sg T.length K g k i X.length (frow (rowsT X)) X.length 0 r br),(sp9h q).heap (lf9i N' sg T.length K g k i X.length (frow (rowsT X)) X.length 0 r br),(dq q)⟩
   ⟨(sp9h q).rho (lf9i N' sg T.length K g k i X.length (frow (rowsT X)) X.length 0 r (rowsX T)),(sp9h q).heap (lf9i N' sg T.length K g k i X.length (frow (rowsT X)) X.length 0 r (rowsX T)),(dq q)⟩:=by
  have:=Wk.obj (A:=A) (B0:=Bb) (ρ:=(sp9h q).rho (lf9i N' sg T.length K g k i X.length (frow (rowsT X)) X.length 0 r br)) (B:=(sp9h q).heap (lf9i N' sg T.length K g k i X.length (frow (rowsT X)) X.length 0 r br)) (D:=(dq q)) (b:=8+q)
   (o:=.vec T.length br 1 9) (o':=.vec T.length (rowsX T) 1 9) (by rcases hq with rfl | rfl <;> rfl) (fun _=>by rcases hq with rfl | rfl <;> simp [dq]) (fun h=>h) (fun h=>h) fun ι hh l ho=>OR.rows h6 ho
  rcases hq with rfl | rfl <;> exact this
 exact SEB.block_exit (id:=2) ((loop9i N' sg K g k i r hT hG hq T X h7 h8 hB).wk_in (Wk.trans hw (enter9i N' sg K g k i r hq T X)))
noncomputable def hook9i:Blk:=hookP (sp9h 1) 10 [9] fun
 | [.n N,.s sg,.n b,.n K,.fr g,.i k,.i i,.n C,.fr h,.i c,.i j,.n N',.r r,.n b',.r br]=>.br (propB (cond9 N b C h c j N' b' br)) (.leaf (.normal,sp9x 1,lf9x N sg (resX b br C h).length K g k i r (rowsX (resX b br C h)))) .fail
 | _=>.fail
theorem hook9i_ok {A:Amb} (hT:Tab A) (hG:prog.globals.size≤A.G):∀ ρ B e' ρ' B' D,(hook9i ρ B).get=some (e',ρ',B',D)→AFr B B' D∧SEB prog A B (.block 2 (.loop body9i)) ⟨ρ,B,[]⟩ e' ⟨ρ',B',D⟩:=by
 refine hookP_ok (by rfl) fun ls e sq l h=>?_
 split at h
 ·rename_i N sg b K g k i C h' c j N' r b' br
  obtain ⟨hc,hv⟩:=Tr.br1 h
  clear h
  have hc:=propB_eq hc
  simp only [Tr.get,Option.some.injEq,Prod.mk.injEq] at hv
  obtain ⟨rfl,rfl,rfl⟩:=hv
  refine ⟨?_,fun Bb hB=>seb9i hT hG (.inl rfl) hc hB⟩
  have h2:N'=N:=hc.2.1
  subst h2
  exact ⟨.inr rfl,.inr rfl,.inr rfl,.inr rfl,.inr rfl,.inr rfl,.inr rfl,.inr rfl,.inr rfl,.inl rfl,trivial⟩
 ·cases h
def sp9j:SP:=⟨dr 5++[.list 8]++dr 2++[.str]++dr 1++[.list 11]++dr 46++[.flist 1,.int .i64,.int .i64]++dr 10++[.flist 3,.int .i64,.int .i64]++dr 32,dd8++[.vec 3 52,.dead,.cells [.str] 1 true 9,.vec 1 9]⟩
noncomputable def hook9j:Blk:=hookP sp9j 12 [10,11] fun
 | [.n N,.s sg,.n b,.n K,.fr g,.i k,.i i,.n C,.fr h,.i c,.i j,.n N',.r r,.s _,.n b',.r br]=>.br (propB (cond9 N b C h c j N' b' br)) (.leaf (.normal,sp9x 3,lf9x N sg (resX b br C h).length K g k i r (rowsX (resX b br C h)))) .fail
 | _=>.fail
theorem hook9j_ok {A:Amb} (hT:Tab A) (hG:prog.globals.size≤A.G):∀ ρ B e' ρ' B' D,(hook9j ρ B).get=some (e',ρ',B',D)→AFr B B' D∧SEB prog A B (.block 2 (.loop body9i)) ⟨ρ,B,[]⟩ e' ⟨ρ',B',D⟩:=by
 refine hookP_ok (by rfl) fun ls e sq l h=>?_
 split at h
 ·rename_i N sg b K g k i C h' c j N' r x b' br
  obtain ⟨hc,hv⟩:=Tr.br1 h
  clear h
  have hc:=propB_eq hc
  simp only [Tr.get,Option.some.injEq,Prod.mk.injEq] at hv
  obtain ⟨rfl,rfl,rfl⟩:=hv
  refine ⟨?_,fun Bb hB=>(seb9i hT hG (.inr rfl) hc hB).wk_in ?_⟩
  ·have h2:N'=N:=hc.2.1
   subst h2
   exact ⟨.inr rfl,.inr rfl,.inr rfl,.inr rfl,.inr rfl,.inr rfl,.inr rfl,.inr rfl,.inr rfl,.inr rfl,.inl rfl,.inl rfl,trivial⟩
  ·exact Wk.obj (b:=10) (o:=.cells [.sstr x] 1 true 9) (o':=.dead) rfl (fun _=>by simp) (fun h=>by cases h) (fun h=>by cases h) fun _ _ _ _=>trivial
 ·cases h
end Go.Proofs.Tryz
namespace Go.Proofs.Tryz
open Go.Ad
def sp9o:SP:=⟨dr 5++[.list 8]++dr 2++[.str]++dr 1++[.list 9]++dr 46++[.flist 1,.int .i64,.int .i64]++dr 45,dd8++[.vec 3 52,.vec 1 9]⟩
noncomputable def bp9:Bps:=oneB 2 (altB (sp9h 1) hook9i hook9j)
section
variable (N:Nat) (sg:List UInt8) (b K:Nat) (D:List (List Tok)) (k i:Int) (r br:Nat→List AV)
noncomputable def in9 (b:Nat) (br:Nat→List AV) (X:List Tok):Option (AEx × List Lf) :=
 brK (propB (b=b∧N=N∧(X.length:Int)=(X.length:Int)∧(0:Int)=0∧frow (rowsT X)=frow (rowsT (toksF X.length (frow (rowsT X))))∧(∀ i,i < b→br i=rowsX (txtsOf b br) i)∧X.length≤5000∧b≤1000000000))
  (some (.normal,lf9x N sg (resX b br X.length (frow (rowsT X))).length K (prowV D) k (W (i+1)) r (rowsX (resX b br X.length (frow (rowsT X)))))) none
noncomputable def tree9 (X:List Tok):Option (AEx × List Lf) :=
 brK (decide (i < k)) (brK (decide (0≤i∧i < (K:Int))) (brK (decide (i > 0)) (brK (decide (b+1 < 2147483648∧b=b)) (in9 N sg K D k i r (b+1) (addRow b br [.sstr sg]) X) none) (in9 N sg K D k i r b br X)) none)
  (some (.exit 0,lf9x N sg b K (prowV D) k i r br))
theorem round9:execK prog (runK prog pSm 60) bp9 body9 (sp9o.rho (lf9x N sg b K (prowV D) k i r br)) (sp9o.heap (lf9x N sg b K (prowV D) k i r br)) (nrmP (fun _=>sp9o) 9 [9])=tree9 N sg b K D k i r br (D.getD i.toNat []):=by kernel_rfl
end
end Go.Proofs.Tryz
namespace Go.Proofs.Tryz
open Go.Ad
def joinD (sg:List UInt8) (D:List (List Tok)):Nat→List (List UInt8)
 | 0=>[]
 | i+1=>joinD sg D i++(bif decide (0 < i) then [sg] else [])++(D.getD i []).map tx
theorem joinD_len {sg:List UInt8} {D:List (List Tok)} (hs:smallD D):∀ i,(joinD sg D i).length≤i*4098
 | 0=>by simp [joinD]
 | i+1=>by
  have h1:=joinD_len hs (sg:=sg) i
  have h2:=hs i
  have h3:(bif decide (0 < i) then [sg] else ([]:List (List UInt8))).length≤1:=by cases decide (0 < i) <;> simp
  simp only [joinD,List.length_append,List.length_map]
  omega
theorem rowX_add (T:List (List UInt8)) (s:List UInt8):∀ i,i < T.length+1→addRow T.length (rowsX T) [.sstr s] i=rowsX (T++[s]) i:=by
 intro i hi
 show mrgL (decide (i < T.length)) [.sstr (T.getD i [])] [.sstr s]=[.sstr ((T++[s]).getD i [])]
 by_cases h:i < T.length
 ·rw [decide_eq_true h]
  have:(T++[s]).getD i []=T.getD i []:=by rw [List.getD_eq_getElem?_getD,List.getD_eq_getElem?_getD,List.getElem?_append_left h]
  rw [this]; rfl
 ·have e:i=T.length:=by omega
  subst e
  rw [decide_eq_false h]
  have:(T++[s]).getD T.length []=s:=by rw [List.getD_eq_getElem?_getD,List.getElem?_append_right (Nat.le_refl _),Nat.sub_self]; rfl
  rw [this]; rfl
theorem txts_add (T:List (List UInt8)) (s:List UInt8):txtsOf (T.length+1) (addRow T.length (rowsX T) [.sstr s])=T++[s]:=by
 have:txtsOf (T.length+1) (addRow T.length (rowsX T) [.sstr s])=txtsOf (T++[s]).length (rowsX (T++[s])):=by
  rw [List.length_append,List.length_singleton]
  unfold txtsOf
  refine List.map_congr_left fun i hi=>?_
  rw [rowX_add T s i (List.mem_range.1 hi)]
 rw [this,txtsOf_rows]
section
variable {N:Nat} {sg:List UInt8} {D:List (List Tok)} {i:Nat} {r:Nat→List AV} {T:List (List UInt8)} {X:List Tok}
theorem in9_eq {b:Nat} {br:Nat→List AV} (hb:b=T.length) (hr:∀ i,i < b→br i=rowsX T i) (ht:txtsOf b br=T) (hX:X.length≤4097) (hT:T.length≤900000000) {k:Int} {j:Int} {K:Nat} :
  in9 N sg K D k j r b br X=some (.normal,lf9x N sg (T++X.map tx).length K (prowV D) k (W (j+1)) r (rowsX (T++X.map tx))):=by
 unfold in9 resX
 rw [toksF_rows,ht,propB_true (show _ from ⟨rfl,rfl,rfl,rfl,rfl,hr,by omega,by omega⟩)]; rfl
theorem tree9_eq {K:Nat} (hK:K=D.length) (hi:i < D.length) (hD:D.length≤5000) (hs:smallD D) :
  tree9 N sg (joinD sg D i).length K D K i r (rowsX (joinD sg D i)) (D.getD i [])=some (.normal,lf9x N sg (joinD sg D (i+1)).length K (prowV D) K ((i+1:Nat):Int) r (rowsX (joinD sg D (i+1)))):=by
 have hl:=joinD_len hs (sg:=sg) i
 have hX:=hs i
 have e2:W ((i:Int)+1)=((i+1:Nat):Int):=by rw [W,wrap64 (by omega) (by omega)]; omega
 unfold tree9
 rw [decide_eq_true (show (i:Int) < (K:Int) by omega),decide_eq_true (show 0≤(i:Int)∧(i:Int) < (K:Int) by omega)]
 by_cases h0:0 < i
 ·rw [decide_eq_true (show (i:Int) > 0 by omega),decide_eq_true (show (joinD sg D i).length+1 < 2147483648∧(joinD sg D i).length=(joinD sg D i).length from ⟨by omega,rfl⟩),
   in9_eq (T:=joinD sg D i++[sg]) (by simp) (rowX_add _ _) (txts_add _ _) hX (by simp; omega),e2]
  have:joinD sg D (i+1)=joinD sg D i++[sg]++(D.getD i []).map tx:=by
   simp only [joinD]; rw [decide_eq_true h0]; rfl
  rw [this]
  cases decide ((i:Int) > 0) <;> rfl
 ·rw [decide_eq_false (show ¬ (i:Int) > 0 by omega),in9_eq (T:=joinD sg D i) rfl (fun _ _=>rfl) (txtsOf_rows _) hX (by omega),e2]
  have:joinD sg D (i+1)=joinD sg D i++(D.getD i []).map tx:=by
   simp only [joinD]; rw [decide_eq_false h0]; simp
  rw [this]; rfl
theorem tree9_end {K:Nat} {b:Nat} {br:Nat→List AV}:tree9 N sg b K D K K r br X=some (.exit 0,lf9x N sg b K (prowV D) K K r br):=by
 unfold tree9
 rw [decide_eq_false (show ¬ (K:Int) < (K:Int) by omega)]; rfl
end
theorem loop9 {A:Amb} (hT:Tab A) (hG:prog.globals.size≤A.G) (N:Nat) (sg:List UInt8) (D:List (List Tok)) (r:Nat→List AV) (hD:D.length≤5000) (hs:smallD D) {Bb:Heap} (hB:Bb.length=9) :
  SEB prog A Bb (.loop body9) ⟨sp9o.rho (lf9x N sg 0 D.length (prowV D) D.length 0 r (rowsX [])),sp9o.heap (lf9x N sg 0 D.length (prowV D) D.length 0 r (rowsX [])),[9]⟩ (.exit 0)
   ⟨sp9o.rho (lf9x N sg (joinD sg D D.length).length D.length (prowV D) D.length D.length r (rowsX (joinD sg D D.length))),sp9o.heap (lf9x N sg (joinD sg D D.length).length D.length (prowV D) D.length D.length r (rowsX (joinD sg D D.length))),[9]⟩:=by
 have hp:=pSm_ok hT hG
 have hblk:BlkOK prog A bp9 body9:=BlkOK.one (body:=.loop body9i) (by kernel_rfl) fun ρ B e ρ' B' D h=>by
  unfold altB at h
  split at h
  ·exact (hook9i_ok hT hG _ _ _ _ _ _ h).2
  ·exact (hook9j_ok hT hG _ _ _ _ _ _ h).2
 refine SEB.while (fun i:Nat=>i≤D.length) (fun i=>D.length - i) (fun i=>⟨sp9o.rho (lf9x N sg (joinD sg D i).length D.length (prowV D) D.length i r (rowsX (joinD sg D i))),sp9o.heap (lf9x N sg (joinD sg D i).length D.length (prowV D) D.length i r (rowsX (joinD sg D i))),[9]⟩)
  (fun _=>(.exit 0,⟨sp9o.rho (lf9x N sg (joinD sg D D.length).length D.length (prowV D) D.length D.length r (rowsX (joinD sg D D.length))),sp9o.heap (lf9x N sg (joinD sg D D.length).length D.length (prowV D) D.length D.length r (rowsX (joinD sg D D.length))),[9]⟩)) (fun i hx=>?_) 0 (Nat.zero_le _)
 have hk:=round9 N sg (joinD sg D i).length D.length D D.length i r (rowsX (joinD sg D i))
 rw [Int.toNat_natCast] at hk
 by_cases hi:i < D.length
 ·left
  rw [tree9_eq rfl hi hD hs] at hk
  exact ⟨i+1,by omega,by omega,rfl,SEB.of_KP (e:=.normal) (sp:=fun _=>sp9o) hmix hnum hp hblk hB hk rfl⟩
 ·right
  have e:i=D.length:=by omega
  subst e
  rw [tree9_end] at hk
  exact ⟨by simp,SEB.of_KP (e:=.exit 0) (sp:=fun _=>sp9o) hmix hnum hp hblk hB hk rfl⟩
def dOf (K:Nat) (g:Nat→List FV):List (List Tok):=(List.range K).map fun i=>match g i with
 | [.list n h _]=>toksF n h
 | _=>[]
theorem dOf_prowV (D:List (List Tok)):dOf D.length (prowV D)=D:=by
 unfold dOf
 apply List.ext_getElem?
 intro i
 rw [List.getElem?_map]
 by_cases h:i < D.length
 ·rw [List.getElem?_range h,Option.map_some,List.getElem?_eq_getElem h]
  show some (toksF (D.getD i []).length (frow (rowsT (D.getD i []))))=_
  rw [toksF_rows,List.getD_eq_getElem?_getD,List.getElem?_eq_getElem h]; rfl
 ·rw [List.getElem?_eq_none (by simp; omega),List.getElem?_eq_none (by omega)]; rfl
def sp9c:SP:=⟨dr 5++[.list 8]++dr 83++[.list 9,.int .i64,.int .i64]++dr 13,dd8++[.vec 3 52,.vec 1 9]⟩
def lf9c (N b:Nat) (k i:Int) (r br:Nat→List AV):List Lf:=[.n N,.n b,.i k,.i i,.n N,.r r,.n b,.r br]
def tree9c (N b:Nat) (k i:Int) (t:Tok) (s:List UInt8) (r br:Nat→List AV):Option (AEx × List Lf) :=
 brK (decide (i < k)) (brK (decide (0≤i∧i < (b:Int))) (brK (decide (0+i.toNat < b)) (brK (decide (0≤i∧i < (N:Int))) (brK (decide (0+i.toNat < N)) (brK (!(t.2.1 == s)) (some (.ret,lf9c N b k i r br)) (some (.normal,lf9c N b k (W (i+1)) r br))) none) none) none) none)
  (some (.exit 4,lf9c N b k i r br))
theorem round9c (N b:Nat) (k i:Int) (u:Nat→Tok) (w:Nat→List UInt8):execK prog (runK prog pSm 60) noBps body9c (sp9c.rho (lf9c N b k i (fun i=>rowT (u i)) (fun i=>rowX (w i)))) (sp9c.heap (lf9c N b k i (fun i=>rowT (u i)) (fun i=>rowX (w i)))) (nrmP (fun _=>sp9c) 10 []) =
  tree9c N b k i (u (0+i.toNat)) (w (0+i.toNat)) (fun i=>rowT (u i)) (fun i=>rowX (w i)):=by kernel_rfl
end Go.Proofs.Tryz
namespace Go.Proofs.Tryz
open Go.Ad
theorem scE_nz (s:List UInt8) (h:scB s=true):scE s ≠ 0:=by
 have key:∀ (k a:Nat) (L:List Tok) (x:Nat × Int),scanS s k a L=.inl x→x.2 ≠ 0:=by
  intro k
  induction k with
  | zero=>intro a L x h; cases h
  | succ k ih =>
   intro a L x h
   simp only [scanS] at h
   cases h1:decide (a < s.length) with
   | false=>rw [h1,cond_false] at h; cases h
   | true =>
    rw [h1,cond_true] at h
    cases h2:bAt s a == 32 with
    | true=>rw [h2,cond_true] at h; exact ih _ _ _ h
    | false =>
     rw [h2,cond_false] at h
     cases h3:(tokK (s.drop a)).2.2 != 0 with
     | true=>rw [h3,cond_true] at h; cases h; simpa using h3
     | false=>rw [h3,cond_false] at h; exact ih _ _ _ h
 unfold scB at h
 unfold scE
 cases hs:scanS s s.length 0 [] with
 | inl x=>exact key _ _ _ x hs
 | inr L=>rw [hs] at h; cases h
theorem scanS_sz2 (s:List UInt8):∀ (k a:Nat) (L L':List Tok),(∀ t,t ∈ L→t.2.1.length≤s.length)→scanS s k a L=.inr L'→∀ t,t ∈ L'→t.2.1.length≤s.length
 | 0,a,L,L',hl,h=>by cases h; exact hl
 | k+1,a,L,L',hl,h=>by
  simp only [scanS] at h
  by_cases hlt:a < s.length
  ·rw [decide_eq_true hlt,cond_true] at h
   cases hb:bAt s a == 32 with
   | true=>rw [hb,cond_true] at h; exact scanS_sz2 s k (a+1) L L' hl h
   | false =>
    rw [hb,cond_false] at h
    cases he:(tokK (s.drop a)).2.2 != 0 with
    | true=>rw [he,cond_true] at h; cases h
    | false =>
     rw [he,cond_false] at h
     refine scanS_sz2 s k _ _ L' (fun t ht=>?_) h
     rcases List.mem_append.mp ht with ht | ht
     ·exact hl t ht
     ·rw [List.mem_singleton.mp ht]
      simp only [List.length_take,List.length_drop]; omega
  ·rw [decide_eq_false hlt,cond_false] at h; cases h; exact hl
theorem scanR_sz2 (s:List UInt8):(∀ t,t ∈ (scanR s).1→szOK t.2.1=true)∧(scanR s).1.length≤4097:=by
 unfold scanR
 by_cases hs:s.length≤4096
 ·rw [decide_eq_true hs,cond_true]
  cases hb:scB s with
  | true=>exact ⟨fun t h=>(by cases h),by simp⟩
  | false =>
   have hl:=scL_len s
   refine ⟨fun t h=>?_,by simp [scT]; omega⟩
   simp only [cond_false,scT] at h
   have:t.2.1.length≤s.length:=by
    rcases List.mem_append.mp h with h | h
    ·unfold scL at h
     cases hsc:scanS s s.length 0 [] with
     | inl x=>rw [hsc] at h; cases h
     | inr L=>rw [hsc] at h; exact scanS_sz2 s s.length 0 [] L (fun t h=>by cases h) hsc t h
    ·rw [List.mem_singleton.mp h]; simp
   exact decide_eq_true (by omega)
 ·rw [decide_eq_false hs]; exact ⟨fun t h=>(by cases h),by simp⟩
noncomputable def hook9L:Blk:=hookP sp9o 9 [9] fun
 | [.n N,.s sg,.n b,.n K,.fr g,.i k,.i i,.n N',.r r,.n b',.r _]=>.br (propB (N'=N∧b=0∧b'=0∧k=K∧i=0∧g=prowV (dOf K g)∧smallD (dOf K g)∧K≤5000))
   (.leaf (.normal,sp9o,lf9x N sg (joinD sg (dOf K g) K).length K g K K r (rowsX (joinD sg (dOf K g) K)))) .fail
 | _=>.fail
theorem hook9L_ok {A:Amb} (hT:Tab A) (hG:prog.globals.size≤A.G):∀ ρ B e' ρ' B' D,(hook9L ρ B).get=some (e',ρ',B',D)→AFr B B' D∧SEB prog A B (.block 0 (.loop body9)) ⟨ρ,B,[]⟩ e' ⟨ρ',B',D⟩:=by
 refine hookP_ok (by rfl) fun ls e sq l h=>?_
 split at h
 ·rename_i N sg b K g k i N' r b' br
  obtain ⟨hc,hv⟩:=Tr.br1 h
  clear h
  obtain ⟨rfl,rfl,rfl,rfl,rfl,h5,h6,h7⟩:=propB_eq hc
  simp only [Tr.get,Option.some.injEq,Prod.mk.injEq] at hv
  obtain ⟨rfl,rfl,rfl⟩:=hv
  obtain ⟨D,hD⟩:∃ D,D=dOf K g:=⟨_,rfl⟩
  have hn:K=D.length:=by rw [hD]; simp [dOf]
  rw [← hD] at h5 h6 ⊢
  subst hn h5
  refine ⟨⟨.inr rfl,.inr rfl,.inr rfl,.inr rfl,.inr rfl,.inr rfl,.inr rfl,.inr rfl,.inr rfl,.inl rfl,trivial⟩,fun Bb hB=>SEB.block_exit (id:=0) ((loop9 hT hG N' sg D r h7 h6 hB).wk_in ?_)⟩
  exact Wk.obj (b:=9) (o:=.vec 0 br 1 9) (o':=.vec 0 (rowsX []) 1 9) rfl (fun _=>by simp) (fun h=>h) (fun h=>h) fun ι hh l ho=>OR.rows (fun i hi=>by omega) ho
 ·cases h
theorem loop9c {A:Amb} (hT:Tab A) (hG:prog.globals.size≤A.G) (L:List Tok) (T:List (List UInt8)) (hL:L.length≤5000) (hl:T.length≤L.length) (he:∀ i,i < T.length→(L.getD i tok0).2.1=T.getD i []) {Bb:Heap} (hB:Bb.length=10) :
  SEB prog A Bb (.loop body9c) ⟨sp9c.rho (lf9c L.length T.length T.length 0 (rowsT L) (rowsX T)),sp9c.heap (lf9c L.length T.length T.length 0 (rowsT L) (rowsX T)),[]⟩ (.exit 4)
   ⟨sp9c.rho (lf9c L.length T.length T.length T.length (rowsT L) (rowsX T)),sp9c.heap (lf9c L.length T.length T.length T.length (rowsT L) (rowsX T)),[]⟩:=by
 have hp:=pSm_ok hT hG
 refine SEB.while (fun i:Nat=>i≤T.length) (fun i=>T.length - i) (fun i=>⟨sp9c.rho (lf9c L.length T.length T.length i (rowsT L) (rowsX T)),sp9c.heap (lf9c L.length T.length T.length i (rowsT L) (rowsX T)),[]⟩)
  (fun _=>(.exit 4,⟨sp9c.rho (lf9c L.length T.length T.length T.length (rowsT L) (rowsX T)),sp9c.heap (lf9c L.length T.length T.length T.length (rowsT L) (rowsX T)),[]⟩)) (fun i hx=>?_) 0 (Nat.zero_le _)
 have hk:=round9c L.length T.length T.length i (fun i=>L.getD i tok0) (fun i=>T.getD i [])
 rw [Int.toNat_natCast,Nat.zero_add] at hk
 by_cases hi:i < T.length
 ·left
  have e2:W ((i:Int)+1)=((i+1:Nat):Int):=by rw [W,wrap64 (by omega) (by omega)]; omega
  have ht:tree9c L.length T.length T.length i (L.getD i tok0) (T.getD i []) (rowsT L) (rowsX T)=some (.normal,lf9c L.length T.length T.length ((i+1:Nat):Int) (rowsT L) (rowsX T)):=by
   unfold tree9c
   rw [e2,he i hi,Int.toNat_natCast,decide_eq_true (show (i:Int) < (T.length:Int) by omega),decide_eq_true (show 0≤(i:Int)∧(i:Int) < (T.length:Int) by omega),decide_eq_true (show 0≤(i:Int)∧(i:Int) < (L.length:Int) by omega),decide_eq_true (show 0+i < T.length by omega),decide_eq_true (show 0+i < L.length by omega),beq_self_eq_true]; rfl
  have hk2:=hk.trans ht
  exact ⟨i+1,by omega,by omega,rfl,SEB.of_KP (e:=.normal) (sp:=fun _=>sp9c) hmix hnum hp (.none _) hB hk2 rfl⟩
 ·right
  have e:i=T.length:=by omega
  subst e
  have ht:tree9c L.length T.length T.length T.length (L.getD T.length tok0) (T.getD T.length []) (rowsT L) (rowsX T)=some (.exit 4,lf9c L.length T.length T.length T.length (rowsT L) (rowsX T)):=by
   unfold tree9c
   rw [decide_eq_false (show ¬ (T.length:Int) < (T.length:Int) by omega)]; rfl
  exact ⟨by simp,SEB.of_KP (e:=.exit 4) (sp:=fun _=>sp9c) hmix hnum hp (.none _) hB (hk.trans ht) rfl⟩
noncomputable def hook9c:Blk:=hookP sp9c 10 [] fun
 | [.n N,.n b,.i k,.i i,.n N',.r r,.n b',.r br]=>.br (propB (N'=N∧b'=b∧k=b∧i=0∧r=rowsT (toksOf N r)∧br=rowsX (txtsOf b br)∧N≤5000∧b≤N∧∀ i,i < b→((toksOf N r).getD i tok0).2.1=(txtsOf b br).getD i []))
   (.leaf (.normal,sp9c,lf9c N b b b r br)) .fail
 | _=>.fail
theorem hook9c_ok {A:Amb} (hT:Tab A) (hG:prog.globals.size≤A.G):∀ ρ B e' ρ' B' D,(hook9c ρ B).get=some (e',ρ',B',D)→AFr B B' D∧SEB prog A B (.block 4 (.loop body9c)) ⟨ρ,B,[]⟩ e' ⟨ρ',B',D⟩:=by
 refine hookP_ok (by rfl) fun ls e sq l h=>?_
 split at h
 ·rename_i N b k i N' r b' br
  obtain ⟨hc,hv⟩:=Tr.br1 h
  clear h
  obtain ⟨rfl,rfl,rfl,rfl,h5,h6,h7,h8,h9⟩:=propB_eq hc
  simp only [Tr.get,Option.some.injEq,Prod.mk.injEq] at hv
  obtain ⟨rfl,rfl,rfl⟩:=hv
  obtain ⟨L,hL⟩:∃ L,L=toksOf N' r:=⟨_,rfl⟩
  obtain ⟨T,hTx⟩:∃ T,T=txtsOf b' br:=⟨_,rfl⟩
  have hn:N'=L.length:=by rw [hL]; simp [toksOf]
  have hn2:b'=T.length:=by rw [hTx]; simp [txtsOf]
  rw [← hL] at h5 h9
  rw [← hTx] at h6 h9
  subst hn hn2 h5 h6
  exact ⟨⟨.inr rfl,.inr rfl,.inr rfl,.inr rfl,.inr rfl,.inr rfl,.inr rfl,.inr rfl,.inr rfl,.inr rfl,trivial⟩,fun Bb hB=>SEB.block_exit (id:=4) (loop9c hT hG L T h7 h8 h9 hB)⟩
 ·cases h
noncomputable def pL9:Prims:=withAwake ((pSm.addb 9 0 hook9L).addb 9 4 hook9c)
theorem pL9_ok {A:Amb} (hT:Tab A) (hG:prog.globals.size≤A.G):PrimOK prog A pL9 :=
 withAwake_ok hT hG (((pSm_ok hT hG).addb func9 (show f9.body=some code9 by kernel_rfl) (body:=.loop body9) (by kernel_rfl) (hook9L_ok hT hG)).addb func9 (show f9.body=some code9 by kernel_rfl) (body:=.loop body9c) (by kernel_rfl) (hook9c_ok hT hG))
noncomputable def las9 (L:List Tok) (J:List (List UInt8)):Option Unit :=
 brK ((J.length:Int) != W ((L.length:Int) - 1)) none (brK (propB (L.length=L.length∧J.length=J.length∧(J.length:Int)=(J.length:Int)∧(0:Int)=0∧rowsT L=rowsT (toksOf L.length (rowsT L))∧rowsX J=rowsX (txtsOf J.length (rowsX J))∧L.length≤5000∧J.length≤L.length ∧
  ∀ i,i < J.length→((toksOf L.length (rowsT L)).getD i tok0).2.1=(txtsOf J.length (rowsX J)).getD i [])) (some ()) none)
noncomputable def mid9 (sg:List UInt8) (L:List Tok) (p:List (List Tok) × Int):Option Unit :=
 brK (p.2 != 0) (brK (p.2 == 3) (some ()) none)
  (brK (propB (L.length=L.length∧0=0∧0=0∧(p.1.length:Int)=(p.1.length:Int)∧(0:Int)=0∧prowV p.1=prowV (dOf p.1.length (prowV p.1))∧smallD (dOf p.1.length (prowV p.1))∧p.1.length≤5000))
   (las9 L (joinD sg (dOf p.1.length (prowV p.1)) p.1.length)) none)
noncomputable def inn9 (sg:List UInt8) (x:List Tok × Int × Int):Option Unit :=
 brK (x.2.2 != 0) (brK (x.2.2 != 0) (some ()) none) (brK ((x.1.length:Int) == 0) (brK (x.2.2 != 0) (some ()) none)
  (brK (propB (x.1.length=x.1.length∧isToks x.1.length (rowsT x.1))) (mid9 sg x.1 (prtR sg (toksOf x.1.length (rowsT x.1)))) none))
noncomputable def law9 (s sg:List UInt8):Option Unit :=
 brK (decide ((s.length:Int)≤500)) (inn9 sg (scanR s)) (brK (decide ((s.length:Int) > 4096)) (brK (!decide ((s.length:Int)≤8192)) (some ()) (inn9 sg (scanR s))) (some ()))
def sgW (w:Nat):List UInt8:=[([44,59,58,61,43,45,42,47,60,62,124,35]:List UInt8).getD (w % 12) 0]
end Go.Proofs.Tryz
namespace Go.Proofs.Tryz
open Go.Ad
theorem partsC0 (s:List UInt8):(List.range 32).map (fun w=>(runK prog pL9 60).call 9 [.sstr s,.int .u8 ((w+0:Nat):Int)] (Bg 8) goodK)=(List.range 32).map (fun w=>law9 s (sgW (w+0))):=by kernel_rfl
theorem partsC1 (s:List UInt8):(List.range 32).map (fun w=>(runK prog pL9 60).call 9 [.sstr s,.int .u8 ((w+32:Nat):Int)] (Bg 8) goodK)=(List.range 32).map (fun w=>law9 s (sgW (w+32))):=by kernel_rfl
theorem partsC2 (s:List UInt8):(List.range 32).map (fun w=>(runK prog pL9 60).call 9 [.sstr s,.int .u8 ((w+64:Nat):Int)] (Bg 8) goodK)=(List.range 32).map (fun w=>law9 s (sgW (w+64))):=by kernel_rfl
theorem partsC3 (s:List UInt8):(List.range 32).map (fun w=>(runK prog pL9 60).call 9 [.sstr s,.int .u8 ((w+96:Nat):Int)] (Bg 8) goodK)=(List.range 32).map (fun w=>law9 s (sgW (w+96))):=by kernel_rfl
theorem partsC4 (s:List UInt8):(List.range 32).map (fun w=>(runK prog pL9 60).call 9 [.sstr s,.int .u8 ((w+128:Nat):Int)] (Bg 8) goodK)=(List.range 32).map (fun w=>law9 s (sgW (w+128))):=by kernel_rfl
theorem partsC5 (s:List UInt8):(List.range 32).map (fun w=>(runK prog pL9 60).call 9 [.sstr s,.int .u8 ((w+160:Nat):Int)] (Bg 8) goodK)=(List.range 32).map (fun w=>law9 s (sgW (w+160))):=by kernel_rfl
theorem partsC6 (s:List UInt8):(List.range 32).map (fun w=>(runK prog pL9 60).call 9 [.sstr s,.int .u8 ((w+192:Nat):Int)] (Bg 8) goodK)=(List.range 32).map (fun w=>law9 s (sgW (w+192))):=by kernel_rfl
theorem partsC7 (s:List UInt8):(List.range 32).map (fun w=>(runK prog pL9 60).call 9 [.sstr s,.int .u8 ((w+224:Nat):Int)] (Bg 8) goodK)=(List.range 32).map (fun w=>law9 s (sgW (w+224))):=by kernel_rfl
theorem partsGet {s:List UInt8} {c:Nat} (h:(List.range 32).map (fun w=>(runK prog pL9 60).call 9 [.sstr s,.int .u8 ((w+c:Nat):Int)] (Bg 8) goodK)=(List.range 32).map (fun w=>law9 s (sgW (w+c)))) {w:Nat} (h1:c≤w) (h2:w < c+32) :
  (runK prog pL9 60).call 9 [.sstr s,.int .u8 ((w:Nat):Int)] (Bg 8) goodK=law9 s (sgW w):=by
 have h3:=congrArg (fun l=>l[w - c]?) h
 simp only [List.getElem?_map,List.getElem?_range (show w - c < 32 by omega),Option.map_some,Option.some.injEq] at h3
 rwa [show w - c+c=w by omega] at h3
theorem partsTree (s:List UInt8) {w:Nat} (hw:w < 256):(runK prog pL9 60).call 9 [.sstr s,.int .u8 ((w:Nat):Int)] (Bg 8) goodK=law9 s (sgW w):=by
 by_cases h0:w < 32
 ·exact partsGet (partsC0 s) (by omega) (by omega)
 by_cases h1:w < 64
 ·exact partsGet (partsC1 s) (by omega) (by omega)
 by_cases h2:w < 96
 ·exact partsGet (partsC2 s) (by omega) (by omega)
 by_cases h3:w < 128
 ·exact partsGet (partsC3 s) (by omega) (by omega)
 by_cases h4:w < 160
 ·exact partsGet (partsC4 s) (by omega) (by omega)
 by_cases h5:w < 192
 ·exact partsGet (partsC5 s) (by omega) (by omega)
 by_cases h6:w < 224
 ·exact partsGet (partsC6 s) (by omega) (by omega)
 exact partsGet (partsC7 s) (by omega) (by omega)
end Go.Proofs.Tryz
namespace Go.Proofs.Tryz
open Go.Ad
theorem sgW_ok:(List.range 12).all (fun w=>sgnB (sgW w))=true:=by decide +kernel
theorem sgW_sgn (w:Nat):sgnB (sgW w)=true:=by
 have h:=List.all_eq_true.1 sgW_ok (w % 12) (List.mem_range.2 (Nat.mod_lt _ (by decide)))
 unfold sgW at h ⊢
 rwa [Nat.mod_mod] at h
section
variable {sg:List UInt8}
theorem joinD_congr {D E:List (List Tok)}:∀ i,i≤D.length→joinD sg (D++E) i=joinD sg D i
 | 0,_=>rfl
 | i+1,h=>by
  simp only [joinD]
  rw [joinD_congr i (by omega),List.getD_eq_getElem?_getD,List.getElem?_append_left (by omega),← List.getD_eq_getElem?_getD]
def JD (sg:List UInt8) (D:List (List Tok)) (C:List Tok):List (List UInt8):=joinD sg D D.length++(bif decide (0 < D.length) then [sg] else [])++C.map tx
theorem JD_eq (D:List (List Tok)) (C:List Tok):joinD sg (D++[C]) (D++[C]).length=JD sg D C:=by
 rw [List.length_append,List.length_singleton]
 simp only [joinD]
 rw [joinD_congr D.length (Nat.le_refl _),List.getD_eq_getElem?_getD,List.getElem?_append_right (Nat.le_refl _),Nat.sub_self]; rfl
theorem JD_add (D:List (List Tok)) (C:List Tok) (t:Tok):JD sg D (C++[t])=JD sg D C++[tx t]:=by
 unfold JD; rw [List.map_append,← List.append_assoc]; rfl
theorem JD_split (D:List (List Tok)) (C:List Tok):JD sg (D++[C]) []=JD sg D C++[sg]:=by
 unfold JD
 rw [JD_eq,decide_eq_true (show 0 < (D++[C]).length by simp)]
 simp [JD]
theorem step_join {t:Tok} {D D':List (List Tok)} {C C':List Tok} {O O':RO} (h:stepK sg t (D,C,O)=some (D',C',O')):JD sg D' C'=JD sg D C++[tx t]:=by
 unfold stepK at h
 simp only at h
 cases g1:decide (lenO O=0) && isS t sg with
 | true =>
  rw [g1] at h; cases h
  rw [Bool.and_eq_true] at g1
  rw [JD_split,tx,isS_t g1.2]
 | false =>
  rw [g1,cond_false] at h
  cases g2:isS t [40] with
  | true=>rw [g2] at h; cases h; exact JD_add _ _ _
  | false =>
   rw [g2,cond_false] at h
   cases g3:isS t [91] with
   | true=>rw [g3] at h; cases h; exact JD_add _ _ _
   | false =>
    rw [g3,cond_false] at h
    cases g4:isS t [41] || isS t [93] with
    | true =>
     rw [g4,cond_true] at h
     cases g5:decide (lenO O=0) with
     | true=>rw [g5] at h; cases h
     | false =>
      rw [g5,cond_false] at h
      cases g6:topO O == t.2.1 with
      | true=>rw [g6] at h; cases h; exact JD_add _ _ _
      | false=>rw [g6] at h; cases h
    | false=>rw [g4] at h; cases h; exact JD_add _ _ _
theorem parts_join:∀ {M:List Tok} {D D':List (List Tok)} {C C':List Tok} {O O':RO},partsK sg M (D,C,O)=some (D',C',O')→JD sg D' C'=JD sg D C++M.map tx
 | [],D,D',C,C',O,O',h=>by cases h; simp
 | t :: M,D,D',C,C',O,O',h=>by
  simp only [partsK] at h
  cases h3:stepK sg t (D,C,O) with
  | none=>rw [h3] at h; cases h
  | some y =>
   obtain ⟨D2,C2,O2⟩:=y
   rw [h3] at h
   rw [parts_join h,step_join h3,List.map_cons,List.append_assoc]; rfl
end
theorem cutE_scT (s:List UInt8):cutE (scT s)=scL s:=by
 unfold cutE scT
 have h1:(scL s++[(3,[],(s.length:Int))]:List Tok).length - 1=(scL s).length:=by simp
 rw [h1,decide_eq_true (show 0 < (scL s++[(3,[],(s.length:Int))]:List Tok).length by simp),List.getD_eq_getElem?_getD,List.getElem?_append_right (Nat.le_refl _),Nat.sub_self]
 show List.take (scL s).length (scL s++_)=scL s
 rw [List.take_left']
 rfl
theorem fin_cases (p:Option PK):(finR p).2=3 ∨ ∃ D C O,p=some (D,C,O)∧finR p=(D++[C],0):=by
 cases p with
 | none=>exact .inl rfl
 | some y =>
  obtain ⟨D,C,O⟩:=y
  by_cases h:lenO O=0
  ·refine .inr ⟨D,C,O,rfl,?_⟩
   unfold finR; simp only; rw [decide_eq_true h]; rfl
  ·left
   unfold finR; simp only; rw [decide_eq_false h]; rfl
theorem las9_ok (L:List Tok) (J:List (List UInt8)) (M:List Tok) (e:Tok) (hL:L=M++[e]) (hJ:J=M.map tx) (hl:L.length≤4097):las9 L J=some ():=by
 have h1:J.length=M.length:=by rw [hJ,List.length_map]
 have h2:L.length=M.length+1:=by rw [hL,List.length_append]; rfl
 have e1:W ((L.length:Int) - 1)=(J.length:Int):=by rw [W,wrap64 (by omega) (by omega)]; omega
 have h3:∀ i,i < J.length→(L.getD i tok0).2.1=J.getD i []:=fun i hi=>by
  have hi2:i < M.length:=by omega
  rw [hL,hJ,List.getD_eq_getElem?_getD,List.getD_eq_getElem?_getD,List.getElem?_append_left hi2,List.getElem?_map,List.getElem?_eq_getElem hi2]; rfl
 unfold las9
 rw [toksOf_rows,txtsOf_rows,e1,bne_self_eq_false,propB_true (show _ from ⟨rfl,rfl,rfl,rfl,rfl,rfl,by omega,by omega,h3⟩)]; rfl
theorem mid9_ok (s sg:List UInt8) (hg:sgnB sg=true) (hl:(scT s).length≤4097):mid9 sg (scT s) (prtR sg (scT s))=some ():=by
 obtain ⟨q1,q2⟩:=prtR_small sg (scT s)
 have hp:prtR sg (scT s)=finR (partsK sg (scL s) init33):=by
  unfold prtR
  rw [decide_eq_true hl,hg,cutE_scT]; rfl
 unfold mid9
 rw [dOf_prowV,propB_true (show _ from ⟨rfl,rfl,rfl,rfl,rfl,rfl,q1,q2⟩),hp]
 rcases fin_cases (partsK sg (scL s) init33) with h | ⟨D,C,O,h1,h2⟩
 ·rw [h]; rfl
 ·rw [h2]
  show las9 (scT s) (joinD sg (D++[C]) (D++[C]).length)=some ()
  refine las9_ok _ _ (scL s) (3,[],(s.length:Int)) rfl ?_ hl
  rw [JD_eq,parts_join h1]
  rfl
theorem inn9_ok (s sg:List UInt8) (hg:sgnB sg=true):inn9 sg (scanR s)=some ():=by
 obtain ⟨h1,h2⟩:=scanR_sz2 s
 have h3:=isToks_rows h1
 unfold inn9
 rw [toksOf_rows,propB_true (show _ from ⟨rfl,h3⟩)]
 by_cases he:(scanR s).2.2=0
 ·have hs:scanR s=(scT s,0,0):=by
   unfold scanR at he ⊢
   cases hl:decide (s.length≤4096) with
   | false=>rw [hl] at he; simp at he
   | true =>
    rw [hl,cond_true] at he
    cases hb:scB s with
    | true=>rw [hb,cond_true] at he; exact absurd he (scE_nz s hb)
    | false=>rfl
  rw [hs] at h2 ⊢
  simp only at h2 ⊢
  rw [mid9_ok s sg hg h2,show (((scT s).length:Int) == 0)=false by rw [beq_eq_false_iff_ne]; unfold scT; simp; omega]; rfl
 ·rw [show ((scanR s).2.2 != 0)=true by rw [bne_iff_ne]; exact he]; rfl
theorem lexerParts (b:ByteArray) (w:Nat) (hw:w < 256) (W:World) (hG:prog.globals.size≤W.heap.size) (hT:Tab (ambOf W)) :
  Calls prog 9 #[.string b,.int .u8 (w:Int)] W fun e W'=>e=.returned (.bool true)∧RowKit.Below W.heap.size W W':=by
 refine law_of_K hmix hnum (pL9_ok hT hG) hG (n:=60) (args:=[.sstr b.data.toList,.int .u8 (w:Int)]) ?_ rfl (iotaG 8) _ ?_
 ·rw [gsz]
  refine (partsTree _ hw).trans ?_
  generalize b.data.toList=s
  unfold law9
  rw [inn9_ok s (sgW w) (sgW_sgn w)]
  cases decide ((s.length:Int)≤500) <;> cases decide ((s.length:Int) > 4096) <;> cases decide ((s.length:Int)≤8192) <;> rfl
 ·simp only [VRL,VR]
  exact ⟨_,_,rfl,⟨b,rfl,rfl⟩,_,_,rfl,rfl,rfl⟩
end Go.Proofs.Tryz
