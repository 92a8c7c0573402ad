/- The lexer's program: the loop of the reference's Parts as a known piece. -/
import Derived.Test.YtfjgehlpjppggaaGreatDoorPt1
import Derived.Test.YtfjgehlpjppggaaGreatDoorAwk
namespace Go.Proofs.Tryz
open Go.Ad
def prDR:Option PR→List (List Tok)
 | some (D,C,_)=>D++[C]
 | none=>[]
def prOR:Option PR→List UInt8
 | some (_,_,o)=>o
 | none=>[]
def T36 (K:Nat) (N:Nat) (r:Nat→List AV) (ty:Nat) (p:Option PR):Tr (AEx × SP × List Lf) :=
 .br p.isNone (.leaf (.ret,sp36r,[.i 3,.n N,.r r,.n ty])) (.leaf (.normal,sp36e,[.n K,.fr (prowV (prDR p)),.s (prOR p),.n N,.r r,.n ty]))
def spI36 (lp:Bool):SP:=⟨[tokP lp,.str]++dr 4++[.list 9,.str,.int .i64]++dr 119,dd8++[.vecT 3,.tail 1 [.is nilS] 27]⟩
noncomputable def hook36 (lp:Bool):Blk:=hookP (spI36 lp) 10 [9] fun
 | [.n k,.s s,.n K,.s o,.i i,.n N,.r r,.n ty,.n D,.r d]=>.br (propB (K=1∧o=[]∧i=0∧D=0∧d=(fun _=>[])∧isToks N r∧k≤N∧N≤4097))
   (T36 (prDR (partsF s ((toksOf N r).take k) init36)).length N r ty (partsF s ((toksOf N r).take k) init36)) .fail
 | _=>.fail
noncomputable def pP36:Prims:=pP.addb 36 0 (altB (spI36 false) (hook36 false) (hook36 true))
abbrev lfI36 (s:List UInt8) (L:List Tok) (k ty:Nat):List Lf:=[.n k,.s s,.n 1,.s [],.i 0,.n L.length,.r (rowsT L),.n ty,.n 0,.r (fun _=>[])]
theorem enter36 {A:Amb} (lp:Bool) (s:List UInt8) (L:List Tok) (k ty:Nat) {Bb:Heap} (hB:Bb.length=10) :
  Wk A Bb ⟨(spI36 lp).rho (lfI36 s L k ty),(spI36 lp).heap (lfI36 s L k ty),[9]⟩ (st36 lp s L k ty 0 init36):=by
 have h1:Wk A Bb ⟨(spI36 lp).rho (lfI36 s L k ty),(spI36 lp).heap (lfI36 s L k ty),[9]⟩
   ⟨((spI36 lp).rho (lfI36 s L k ty)).set 6 (.sslice 10 0 1),((spI36 lp).heap (lfI36 s L k ty)).set 9 .dead++[.tail 0 (fun _=>[]) 1 [nilS] 27],[9]⟩:=by
  refine Wk.mov (b:=9) (o:=.tail 0 (fun _=>[]) 1 [nilS] 27) (by cases lp <;> rfl) (by simp) fun ι ι2 hle hnew vs hv=>?_
  have hl:((spI36 lp).heap (lfI36 s L k ty)).length=10:=by cases lp <;> rfl
  rw [hl] at hnew
  refine set_VRL hle (t:=6) (a:=.sslice 9 0 1) (by cases lp <;> rfl) (fun v hv=>?_) hv
  simp only [VR] at hv ⊢
  rw [hnew]; exact hv
 refine Wk.trans h1 ?_
 exact newRun_wk (t:=6) (es:=3) (ty:=52) (bs:=[10]) (by cases lp <;> rfl) fun b hb=>.inl (by rw [List.mem_singleton] at hb; omega)
theorem hook36_ok {A:Amb} (hT:Tab A) (hG:prog.globals.size≤A.G) (lp:Bool):∀ ρ B e' ρ' B' D,(hook36 lp ρ B).get=some (e',ρ',B',D)→AFr B B' D∧SEB prog A B (.block 0 (.loop body36)) ⟨ρ,B,[]⟩ e' ⟨ρ',B',D⟩:=by
 refine hookP_ok (by cases lp <;> rfl) fun ls e sq l h=>?_
 split at h
 ·rename_i k s K o i N r ty D d
  obtain ⟨hc,hv⟩:=Tr.br1 h
  clear h
  obtain ⟨rfl,rfl,rfl,rfl,rfl,⟨h7,h8⟩,h9,h10⟩:=propB_eq hc
  obtain ⟨L,hL⟩:∃ L,L=toksOf N r:=⟨_,rfl⟩
  have hn:N=L.length:=by rw [hL]; simp [toksOf]
  rw [← hL] at h7 h8 hv
  subst hn h7
  have key:=fun (Bb:Heap) (hB:Bb.length=10)=>(loop36 hT hG lp s L k ty h9 h10 hB).wk_in (enter36 lp s L k ty hB)
  have fr:∀ (sq:SP) (l:List Lf),sq.heap l=Bg 8++[.vec L.length (rowsT L) 3 ty,.dead]→frP [9] 0 ((spI36 lp).heap (lfI36 s L k ty)) (sq.heap l):=by
   intro sq l h
   rw [h]
   cases lp <;> exact ⟨.inr rfl,.inr rfl,.inr rfl,.inr rfl,.inr rfl,.inr rfl,.inr rfl,.inr rfl,.inr rfl,.inl rfl,trivial⟩
  cases hj:partsF s (L.take k) init36 with
  | none =>
   rw [hj] at hv
   simp only [T36,Option.isNone_none,Tr.get,Option.some.injEq,Prod.mk.injEq] at hv
   obtain ⟨rfl,rfl,rfl⟩:=hv
   refine ⟨fr _ _ rfl,fun Bb hB=>SEB.block_other (id:=0) ?_ (by simp)⟩
   have:=key Bb hB
   rw [hj] at this
   exact this
  | some y =>
   obtain ⟨D,C,o⟩:=y
   rw [hj] at hv
   simp only [T36,prDR,prOR,Option.isNone_some,Tr.get,Option.some.injEq,Prod.mk.injEq] at hv
   obtain ⟨rfl,rfl,rfl⟩:=hv
   refine ⟨fr _ _ rfl,fun Bb hB=>SEB.block_exit (id:=0) ?_⟩
   have:=key Bb hB
   rw [hj] at this
   have e:D.length+1=(D++[C]).length:=by simp
   simp only [outPR,e] at this
   exact this.wk_out (Wk.setT (t:=6) (a:=.flist (D++[C]).length (frow (prow (D++[C]))) 1) (a2:=.flist (D++[C]).length (prowV (D++[C])) 1) rfl fun ι v hv=>parts_VR hv)
 ·cases h
theorem pP36_ok {A:Amb} (hT:Tab A) (hG:prog.globals.size≤A.G):PrimOK prog A pP36:=by
 refine (pP_ok hT hG).addb func36 (show f36.body=some code36 by kernel_rfl) (body:=.loop body36) (by kernel_rfl) fun ρ B e' ρ' B' D h=>?_
 unfold altB at h
 split at h
 ·exact hook36_ok hT hG false _ _ _ _ _ _ h
 ·exact hook36_ok hT hG true _ _ _ _ _ _ h
end Go.Proofs.Tryz
namespace Go.Proofs.Tryz
open Go.Ad
def listO:RO→List UInt8
 | none=>[]
 | some (Q,q)=>Q.take q
def okQ:RO→Prop
 | none=>True
 | some (Q,q)=>q≤Q.length
structure RelO (O:RO) (o:List UInt8):Prop where
 ok:okQ O
 list:(listO O).map (fun x=>[x])=o.map clo
theorem RelO.len {O:RO} {o:List UInt8} (h:RelO O o):lenO O=o.length:=by
 have h1:=congrArg List.length h.list
 rw [List.length_map,List.length_map] at h1
 rw [← h1]
 cases O with
 | none=>rfl
 | some p =>
  have:=h.ok
  simp only [okQ] at this
  simp only [lenO,listO,List.length_take]; omega
theorem RelO.push {O:RO} {o:List UInt8} (h:RelO O o) (x y:UInt8) (hxy:clo y=[x]):RelO (pushO x O) (o++[y]):=by
 cases O with
 | none =>
  have:o=[]:=by have:=h.list; simpa [listO] using this.symm
  subst this
  exact ⟨by simp [okQ,pushO],by simp [pushO,listO,hxy]⟩
 | some p =>
  obtain ⟨Q,q⟩:=p
  have h1:=h.ok
  simp only [okQ] at h1
  have h2:=h.list
  simp only [listO] at h2
  have hl:(Q.take q).length=q:=by rw [List.length_take]; omega
  refine ⟨by simp only [okQ,pushO,List.length_append,hl,List.length_singleton]; omega,?_⟩
  simp only [pushO,listO]
  rw [List.take_of_length_le (by rw [List.length_append,hl,List.length_singleton]; exact Nat.le_refl _),List.map_append,List.map_append,h2,List.map_singleton,List.map_singleton,hxy]
theorem RelO.pop {O:RO} {o:List UInt8} (h:RelO O o):RelO (popO O) (o.take (o.length - 1)):=by
 have hl:=h.len
 cases O with
 | none =>
  have:o=[]:=by have:=h.list; simpa [listO] using this.symm
  subst this
  exact ⟨trivial,rfl⟩
 | some p =>
  obtain ⟨Q,q⟩:=p
  have h1:=h.ok
  simp only [okQ] at h1
  have h2:=h.list
  simp only [listO] at h2
  simp only [lenO] at hl
  refine ⟨by simp only [okQ,popO]; omega,?_⟩
  simp only [popO,listO]
  have h3:=congrArg (List.take (q - 1)) h2
  rw [← List.map_take,← List.map_take,List.take_take,Nat.min_eq_left (by omega)] at h3
  rw [← hl]; exact h3
theorem RelO.top {O:RO} {o:List UInt8} (h:RelO O o) (h0:lenO O ≠ 0):topO O=clo (o.getD (o.length - 1) 0):=by
 have hl:=h.len
 cases O with
 | none=>exact absurd rfl h0
 | some p =>
  obtain ⟨Q,q⟩:=p
  have h1:=h.ok
  simp only [okQ] at h1
  have h2:=h.list
  simp only [listO] at h2
  simp only [lenO] at hl h0
  have h3:=congrArg (fun l=>l[q - 1]?) h2
  simp only [List.getElem?_map] at h3
  rw [List.getElem?_take_of_lt (by omega),List.getElem?_eq_getElem (show q - 1 < Q.length by omega),List.getElem?_eq_getElem (show q - 1 < o.length by omega)] at h3
  simp only [Option.map_some,Option.some.injEq] at h3
  rw [← hl]
  show [Q.getD (q - 1) (Q.getLastD 0)]=clo (o.getD (q - 1) 0)
  rw [List.getD_eq_getElem?_getD,List.getD_eq_getElem?_getD,List.getElem?_eq_getElem (show q - 1 < Q.length by omega),List.getElem?_eq_getElem (show q - 1 < o.length by omega)]
  exact h3
def RelP:Option PK→Option PR→Prop
 | none,none=>True
 | some (D,C,O),some (D',C',o)=>D'=D∧C'=C∧RelO O o
 | _,_=>False
theorem step_rel (s:List UInt8) (t:Tok) {D:List (List Tok)} {C:List Tok} {O:RO} {o:List UInt8} (h:RelO O o):RelP (stepK s t (D,C,O)) (stepR s t (D,C,o)):=by
 unfold stepK stepR
 simp only
 rw [h.len]
 cases h1:decide (o.length=0) && isS t s with
 | true=>exact ⟨rfl,rfl,h⟩
 | false =>
  simp only [cond_false]
  cases isS t [40] with
  | true=>exact ⟨rfl,rfl,h.push 41 40 rfl⟩
  | false =>
   simp only [cond_false]
   cases isS t [91] with
   | true=>exact ⟨rfl,rfl,h.push 93 91 rfl⟩
   | false =>
    simp only [cond_false]
    cases isS t [41] || isS t [93] with
    | false=>exact ⟨rfl,rfl,h⟩
    | true =>
     simp only [cond_true]
     by_cases h5:o.length=0
     ·rw [decide_eq_true h5]; trivial
     ·rw [decide_eq_false h5,h.top (by rw [h.len]; exact h5)]
      simp only [cond_false]
      cases clo (o.getD (o.length - 1) 0) == t.2.1 with
      | true=>exact ⟨rfl,rfl,h.pop⟩
      | false=>trivial
theorem parts_rel (s:List UInt8):∀ (M:List Tok) (D:List (List Tok)) (C:List Tok) (O:RO) (o:List UInt8),RelO O o→RelP (partsK s M (D,C,O)) (partsF s M (D,C,o))
 | [],D,C,O,o,h=>⟨rfl,rfl,h⟩
 | t :: M,D,C,O,o,h=>by
  have h1:=step_rel s t (D:=D) (C:=C) h
  simp only [partsK,partsF]
  cases h2:stepK s t (D,C,O) with
  | none =>
   rw [h2] at h1
   cases h3:stepR s t (D,C,o) with
   | none=>trivial
   | some y=>rw [h3] at h1; exact h1.elim
  | some x =>
   obtain ⟨D',C',O'⟩:=x
   rw [h2] at h1
   cases h3:stepR s t (D,C,o) with
   | none=>rw [h3] at h1; exact h1.elim
   | some y =>
    obtain ⟨D2,C2,o2⟩:=y
    rw [h3] at h1
    obtain ⟨rfl,rfl,h1⟩:=h1
    exact parts_rel s M _ _ _ _ h1
def finRR:Option PR→List (List Tok) × Int
 | some (D,C,o)=>bif decide (o.length=0) then (D++[C],0) else ([],3)
 | none=>([],3)
theorem finRR_eq (s:List UInt8) (M:List Tok):finRR (partsF s M init36)=finR (partsK s M init33):=by
 have h:=parts_rel s M [] [] none [] ⟨trivial,rfl⟩
 unfold init36 init33
 cases h1:partsK s M ([],[],none) with
 | none =>
  rw [h1] at h
  cases h2:partsF s M ([],[],[]) with
  | none=>rfl
  | some y=>rw [h2] at h; exact h.elim
 | some x =>
  obtain ⟨D,C,O⟩:=x
  rw [h1] at h
  cases h2:partsF s M ([],[],[]) with
  | none=>rw [h2] at h; exact h.elim
  | some y =>
   obtain ⟨D2,C2,o2⟩:=y
   rw [h2] at h
   obtain ⟨rfl,rfl,h⟩:=h
   unfold finRR finR
   simp only
   rw [h.len]
section
variable (s:List UInt8) (n ty:Nat) (r:Nat→Tok)
def fin36 (p:Option PR):Option (List Lf):=brK p.isNone (retE n ty r 3) (brK (!(prOR p == [])) (retE n ty r 3) (okPt n ty r (prDR p)))
noncomputable def tok36:Option (List Lf) :=
 brK (decide ((n:Int) > 0)) (brK (decide (0≤W ((n:Int) - 1)∧W ((n:Int) - 1) < (n:Int))) (brK (decide (0+(W ((n:Int) - 1)).toNat < n)) (brK ((r (0+(W ((n:Int) - 1)).toNat)).1 == 3)
  (brK (decide (0≤W ((n:Int) - 1)∧W ((n:Int) - 1)≤(n:Int)) && true && decide (0 < n))
   (brK (propB (1=1∧([]:List UInt8)=[]∧(0:Int)=0∧0=0∧(fun _=>[]:Nat→List AV)=(fun _=>[])∧isToks n (fun i=>rowT (r i))∧(W ((n:Int) - 1)).toNat≤n∧n≤4097))
    (fin36 n ty r (partsF s ((toksOf n (fun i=>rowT (r i))).take (W ((n:Int) - 1)).toNat) init36)) none) none)
  (brK (propB (1=1∧([]:List UInt8)=[]∧(0:Int)=0∧0=0∧(fun _=>[]:Nat→List AV)=(fun _=>[])∧isToks n (fun i=>rowT (r i))∧n≤n∧n≤4097))
    (fin36 n ty r (partsF s ((toksOf n (fun i=>rowT (r i))).take n) init36)) none)) none) none)
  (brK (propB (1=1∧([]:List UInt8)=[]∧(0:Int)=0∧0=0∧(fun _=>[]:Nat→List AV)=(fun _=>[])∧isToks n (fun i=>rowT (r i))∧n≤n∧n≤4097))
    (fin36 n ty r (partsF s ((toksOf n (fun i=>rowT (r i))).take n) init36)) none)
noncomputable def treePR:Option (List Lf) :=
 brK (decide ((n:Int) > 4097)) (retE n ty r 5) (brK ((s.length:Int) != 1) (retE n ty r 1) (brK (decide ((0:Int)≤0∧(0:Int) < (s.length:Int))) (brK (!(markB (bAt s 0))) (retE n ty r 1)
  (brK (s == [40]) (retE n ty r 1) (brK (s == [41]) (retE n ty r 1) (brK (s == [91]) (retE n ty r 1) (brK (s == [93]) (retE n ty r 1) (tok36 s n ty r)))))) none))
theorem run36P:(runK prog pP36 60).call 36 (spPt.rho [.n n,.s s,.n n,.r (fun i=>rowT (r i)),.n ty]) (spPt.heap [.n n,.s s,.n n,.r (fun i=>rowT (r i)),.n ty]) (finQ sqP 9 [])=treePR s n ty r:=by kernel_rfl
end
theorem finRR_res (L:List Tok) (ty:Nat) (p:Option PR):fin36 L.length ty (fun i=>L.getD i tok0) p=resP L ty (finRR p):=by
 cases p with
 | none=>rfl
 | some y =>
  obtain ⟨D,C,o⟩:=y
  cases o <;> rfl
theorem tok36_eq {s:List UInt8} {L:List Tok} {ty:Nat} (hz:∀ t,t ∈ L→szOK t.2.1=true) (hL:L.length≤4097):tok36 s L.length ty (fun i=>L.getD i tok0)=resP L ty (finR (partsK s (cutE L) init33)):=by
 have h3:=isToks_rows hz
 have hL2:(toksOf L.length (fun i=>rowT (L.getD i tok0)))=L:=toksOf_rows L
 unfold tok36 cutE
 rw [hL2,finRR_res,finRR_res,finRR_eq,finRR_eq]
 have p1:propB (1=1∧([]:List UInt8)=[]∧(0:Int)=0∧0=0∧(fun _=>[]:Nat→List AV)=(fun _=>[])∧isToks L.length (fun i=>rowT (L.getD i tok0))∧L.length≤L.length∧L.length≤4097)=true :=
  propB_true ⟨rfl,rfl,rfl,rfl,rfl,h3,Nat.le_refl _,hL⟩
 rw [p1,List.take_length]
 by_cases h0:L.length=0
 ·rw [decide_eq_false (show ¬ (L.length:Int) > 0 by omega),decide_eq_false (show ¬ 0 < L.length by omega)]; rfl
 ·have e1:W ((L.length:Int) - 1)=((L.length - 1:Nat):Int):=by rw [W,wrap64 (by omega) (by omega)]; omega
  rw [e1,Int.toNat_natCast,Nat.zero_add]
  have p2:propB (1=1∧([]:List UInt8)=[]∧(0:Int)=0∧0=0∧(fun _=>[]:Nat→List AV)=(fun _=>[])∧isToks L.length (fun i=>rowT (L.getD i tok0))∧L.length - 1≤L.length∧L.length≤4097)=true :=
   propB_true ⟨rfl,rfl,rfl,rfl,rfl,h3,by omega,hL⟩
  rw [p2,decide_eq_true (show (L.length:Int) > 0 by omega),decide_eq_true (show 0≤((L.length - 1:Nat):Int)∧((L.length - 1:Nat):Int) < (L.length:Int) by omega),decide_eq_true (show L.length - 1 < L.length by omega),
   decide_eq_true (show 0≤((L.length - 1:Nat):Int)∧((L.length - 1:Nat):Int)≤(L.length:Int) by omega),decide_eq_true (show 0 < L.length by omega)]
  cases (L.getD (L.length - 1) tok0).1 == 3 <;> rfl
theorem treePR_eq {s:List UInt8} {L:List Tok} {ty:Nat} (hz:∀ t,t ∈ L→szOK t.2.1=true):treePR s L.length ty (fun i=>L.getD i tok0)=resP L ty (prtR s L):=by
 unfold treePR prtR
 by_cases hn:L.length≤4097
 ·rw [decide_eq_false (show ¬ (L.length:Int) > 4097 by omega),decide_eq_true hn,tok36_eq hz hn]
  by_cases hs:s.length=1
  ·rw [show ((s.length:Int) != 1)=false by rw [hs]; rfl,decide_eq_true (show (0:Int)≤0∧(0:Int) < (s.length:Int) by omega)]
   unfold sgnB
   rw [decide_eq_true hs]
   cases markB (bAt s 0) <;> cases s == [40] <;> cases s == [41] <;> cases s == [91] <;> cases s == [93] <;> rfl
  ·rw [show ((s.length:Int) != 1)=true by rw [bne_iff_ne]; omega]
   unfold sgnB
   rw [decide_eq_false hs]; rfl
 ·rw [decide_eq_true (show (L.length:Int) > 4097 by omega),decide_eq_false hn]; rfl
noncomputable def pPb:Prims:=pPa.addh 36 (liftG 8 (funQ spPt 9 [] TPa))
theorem pPb_ok {A:Amb} (hT:Tab A) (hG:prog.globals.size≤A.G):PrimOK prog A pPb :=
 (pPa_ok hT hG).addl gsz func36 (by kernel_rfl) (funPa rfl fun s L ty hz=>⟨pP36,pP36_ok hT hG,(run36P s L.length ty fun i=>L.getD i tok0).trans (treePR_eq hz)⟩)
end Go.Proofs.Tryz
namespace Go.Proofs.Tryz
open Go.Ad
noncomputable def code20:Code:=f20.body.getD .skip
noncomputable def body20:Code:=unLoop (findB 0 code20)
def spF:SP:=⟨[.flist 3,.flist 3,.drop,.drop,.drop,.int .i64]++dr 20,dd8⟩
def spFr:SP:=⟨[.drop,.drop,.drop,.drop,.bool]++dr 21,dd8⟩
def spFx:AEx→SP
 | .ret=>spFr
 | _=>spF
def lfF (n m:Nat) (i:Int) (f g:Nat→List FV):List Lf:=[.n n,.fr f,.n m,.fr g,.i i]
def sameF (t u:Tok):Bool:=t.1 == u.1 && (t.2.1 == u.2.1 && (t.2.2 == u.2.2 && true))
def treeF (n m:Nat) (i:Int) (t u:Tok) (f g:Nat→List FV):Option (AEx × List Lf) :=
 brK (decide (i < (n:Int))) (brK (decide (0≤i∧i < (n:Int))) (brK (decide (0≤i∧i < (m:Int))) (brK (!(sameF t u)) (some (.ret,[.b false])) (some (.normal,lfF n m (W (i+1)) f g))) none) none)
  (some (.exit 0,lfF n m i f g))
theorem round20 (n m:Nat) (i:Int) (r q:Nat→Tok):execK prog (runK prog pP 60) noBps body20 (spF.rho (lfF n m i (frow fun i=>rowT (r i)) (frow fun i=>rowT (q i)))) (spF.heap (lfF n m i (frow fun i=>rowT (r i)) (frow fun i=>rowT (q i)))) (nrmP spFx 8 []) =
  treeF n m i (r i.toNat) (q i.toNat) (frow fun i=>rowT (r i)) (frow fun i=>rowT (q i)):=by kernel_rfl
theorem sameF_eq (t u:Tok):sameF t u=decide (t=u):=by
 obtain ⟨a,b,c⟩:=t
 obtain ⟨a',b',c'⟩:=u
 by_cases h:(a,b,c)=(a',b',c')
 ·cases h; simp [sameF]
 ·rw [decide_eq_false h]
  cases hs:sameF (a,b,c) (a',b',c') with
  | false=>rfl
  | true =>
   simp only [sameF,Bool.and_true,Bool.and_eq_true,beq_iff_eq] at hs
   exact absurd (by rw [hs.1,hs.2.1,hs.2.2]) h
theorem treeF_eq {n i:Nat} {t u:Tok} {f g:Nat→List FV} (hi:i < n) (hn:n≤5000):treeF n n i t u f g=some (bif decide (t=u) then (.normal,lfF n n ((i+1:Nat):Int) f g) else (.ret,[.b false])):=by
 unfold treeF
 have e2:W ((i:Int)+1)=((i+1:Nat):Int):=by rw [W,wrap64 (by omega) (by omega)]; omega
 rw [e2,sameF_eq,decide_eq_true (show (i:Int) < n by omega),decide_eq_true (show 0≤(i:Int)∧(i:Int) < n by omega)]
 cases decide (t=u) <;> rfl
def outF2 (L M:List Tok):AEx × St :=
 bif decide (L=M) then (.exit 0,⟨spF.rho (lfF L.length L.length L.length (frow (rowsT L)) (frow (rowsT M))),spF.heap (lfF L.length L.length L.length (frow (rowsT L)) (frow (rowsT M))),[]⟩)
 else (.ret,⟨spFr.rho [.b false],spFr.heap [.b false],[]⟩)
section
variable {A:Amb} (hT:Tab A) (hG:prog.globals.size≤A.G)
include hT hG
theorem loopF (L M:List Tok) (hL:L.length≤4097) (hM:M.length=L.length) {Bb:Heap} (hB:Bb.length=8) :
  SEB prog A Bb (.loop body20) ⟨spF.rho (lfF L.length L.length 0 (frow (rowsT L)) (frow (rowsT M))),spF.heap (lfF L.length L.length 0 (frow (rowsT L)) (frow (rowsT M))),[]⟩ (outF2 L M).1 (outF2 L M).2:=by
 have hp:=pP_ok hT hG
 have hok:∀ e,okD 8 [] 0 (spFx e).h=true:=fun e=>by cases e <;> rfl
 refine SEB.while (fun i:Nat=>i≤L.length∧decide (L.drop i=M.drop i)=decide (L=M)) (fun i=>L.length - i) (fun i=>⟨spF.rho (lfF L.length L.length i (frow (rowsT L)) (frow (rowsT M))),spF.heap (lfF L.length L.length i (frow (rowsT L)) (frow (rowsT M))),[]⟩) (fun _=>outF2 L M) (fun i hx=>?_) 0 ⟨Nat.zero_le _,rfl⟩
 obtain ⟨h1,h3⟩:=hx
 have hk:=round20 L.length L.length i (fun i=>L.getD i tok0) (fun i=>M.getD i tok0)
 rw [Int.toNat_natCast] at hk
 by_cases hi:i < L.length
 ·obtain ⟨t,L',hd,ht,hL',_,_⟩:=drop_tok hi
  obtain ⟨u,M',hd2,hu,hM',_,_⟩:=drop_tok (L:=M) (i:=i) (by omega)
  rw [ht,hu,treeF_eq hi (by omega)] at hk
  rw [hd,hd2] at h3
  cases he:decide (t=u) with
  | true =>
   left
   rw [he,cond_true] at hk
   have e:=of_decide_eq_true he
   refine ⟨i+1,⟨by omega,?_⟩,by omega,rfl,SEB.of_KP (e:=.normal) (sp:=spFx) hmix hnum hp (.none _) hB hk (hok .normal)⟩
   rw [hL',hM',← h3,e]
   simp
  | false =>
   right
   rw [he,cond_false] at hk
   have e:=of_decide_eq_false he
   have h4:decide (L=M)=false:=by rw [← h3]; simp [e]
   have ho:outF2 L M=(.ret,⟨spFr.rho [.b false],spFr.heap [.b false],[]⟩):=by
    unfold outF2; rw [h4]; rfl
   rw [ho]
   exact ⟨by simp,SEB.of_KP (e:=.ret) (sp:=spFx) hmix hnum hp (.none _) hB hk (hok .ret)⟩
 ·right
  have e:i=L.length:=by omega
  subst e
  rw [List.drop_length,← hM,List.drop_length] at h3
  have ho:outF2 L M=(.exit 0,⟨spF.rho (lfF L.length L.length L.length (frow (rowsT L)) (frow (rowsT M))),spF.heap (lfF L.length L.length L.length (frow (rowsT L)) (frow (rowsT M))),[]⟩):=by
   unfold outF2; rw [← h3]; rfl
  rw [ho]
  unfold treeF at hk
  rw [decide_eq_false (show ¬ ((L.length:Nat):Int) < (L.length:Int) by omega)] at hk
  exact ⟨by simp,SEB.of_KP (e:=.exit 0) (sp:=spFx) hmix hnum hp (.none _) hB hk (hok _)⟩
end
def tokF:List FV→Tok
 | [.int _ a,.str s,.int _ b]=>(a,s,b)
 | _=>tok0
def toksF (n:Nat) (f:Nat→List FV):List Tok:=(List.range n).map fun i=>tokF (f i)
theorem toksF_rows (L:List Tok):toksF L.length (frow (rowsT L))=L:=by
 unfold toksF
 apply List.ext_getElem?
 intro i
 rw [List.getElem?_map]
 by_cases h:i < L.length
 ·rw [List.getElem?_range h,Option.map_some,List.getElem?_eq_getElem h]
  show some (tokF ((rowT (L.getD i tok0)).map AV.fv))=_
  rw [List.getD_eq_getElem?_getD,List.getElem?_eq_getElem h]; rfl
 ·rw [List.getElem?_eq_none (by simp; omega),List.getElem?_eq_none (by omega)]; rfl
theorem toksF_len (n:Nat) (f:Nat→List FV):(toksF n f).length=n:=by simp [toksF]
noncomputable def hookF2:Blk:=hookP spF 8 [] fun
 | [.n n,.fr f,.n m,.fr g,.i i]=>.br (propB (m=n∧i=0∧f=frow (rowsT (toksF n f))∧g=frow (rowsT (toksF n g))∧n≤4097)) (.br (decide (toksF n f=toksF n g)) (.leaf (.normal,spF,lfF n n n f g)) (.leaf (.ret,spFr,[.b false]))) .fail
 | _=>.fail
noncomputable def pM20:Prims:=pP.addb 20 0 hookF2
theorem pM20_ok {A:Amb} (hT:Tab A) (hG:prog.globals.size≤A.G):PrimOK prog A pM20:=by
 refine (pP_ok hT hG).addb func20 (show f20.body=some code20 by kernel_rfl) (body:=.loop body20) (by kernel_rfl) (hookP_ok (by rfl) fun ls e sq l h=>?_)
 split at h
 ·rename_i n f m g i
  obtain ⟨hc,hv⟩:=Tr.br1 h
  clear h
  obtain ⟨h1,h4,h5,h6,h7⟩:=propB_eq hc
  have h1:=h1.symm
  subst h1 h4
  obtain ⟨L,hL⟩:∃ L,L=toksF n f:=⟨_,rfl⟩
  obtain ⟨M,hM⟩:∃ M,M=toksF n g:=⟨_,rfl⟩
  have hn:n=L.length:=by rw [hL,toksF_len]
  have hn2:M.length=n:=by rw [hM,toksF_len]
  rw [← hL,← hM] at hv
  rw [← hL] at h5
  rw [← hM] at h6
  subst hn h5 h6
  have key:=fun (Bb:Heap) (hB:Bb.length=8)=>loopF hT hG L M h7 hn2 hB
  unfold outF2 at key
  cases he:decide (L=M) with
  | true =>
   rw [he] at hv
   simp only [Tr.get,Option.some.injEq,Prod.mk.injEq] at hv
   obtain ⟨rfl,rfl,rfl⟩:=hv
   refine ⟨⟨.inr rfl,.inr rfl,.inr rfl,.inr rfl,.inr rfl,.inr rfl,.inr rfl,.inr rfl,trivial⟩,fun Bb hB=>SEB.block_exit (id:=0) ?_⟩
   have:=key Bb hB
   rw [he] at this
   exact this
  | false =>
   rw [he] at hv
   simp only [Tr.get,Option.some.injEq,Prod.mk.injEq] at hv
   obtain ⟨rfl,rfl,rfl⟩:=hv
   refine ⟨⟨.inr rfl,.inr rfl,.inr rfl,.inr rfl,.inr rfl,.inr rfl,.inr rfl,.inr rfl,trivial⟩,fun Bb hB=>SEB.block_other (id:=0) ?_ (by simp)⟩
   have:=key Bb hB
   rw [he] at this
   exact this
 ·cases h
def spF2:SP:=⟨[.flist 3,.flist 3],dd8⟩
def sqF2:SP:=⟨[.bool],dd8⟩
noncomputable def TF2:List Lf→Tr (SP × List Lf)
 | [.n n,.fr f,.n m,.fr g]=>.br (propB (f=frow (rowsT (toksF n f))∧g=frow (rowsT (toksF m g))∧n≤4097)) (.leaf (sqF2,[.b (decide (toksF n f=toksF m g))])) .fail
 | _=>.fail
noncomputable def tree20 (n m:Nat) (f g:Nat→List FV) (L M:List Tok):Option (List Lf) :=
 brK ((n:Int) != m) (some [.b false]) (brK (propB (m=n∧(0:Int)=0∧f=frow (rowsT (toksF n f))∧g=frow (rowsT (toksF n g))∧n≤4097)) (brK (decide (L=M)) (some [.b true]) (some [.b false])) none)
theorem run20 (n m:Nat) (f g:Nat→List FV):(runK prog pM20 60).call 20 (spF2.rho [.n n,.fr f,.n m,.fr g]) (spF2.heap [.n n,.fr f,.n m,.fr g]) (finP sqF2 8 [])=tree20 n m f g (toksF n f) (toksF n g):=by kernel_rfl
theorem tree20_eq {n m:Nat} {f g:Nat→List FV} (hf:f=frow (rowsT (toksF n f))) (hg:g=frow (rowsT (toksF m g))) (hn:n≤4097):tree20 n m f g (toksF n f) (toksF n g)=some [.b (decide (toksF n f=toksF m g))]:=by
 unfold tree20
 by_cases h:n=m
 ·subst h
  rw [show ((n:Int) != n)=false by simp,propB_true (show _∧_ from ⟨rfl,rfl,hf,hg,hn⟩)]
  cases decide (toksF n f=toksF n g) <;> rfl
 ·rw [show ((n:Int) != m)=true by simp; omega]
  have:decide (toksF n f=toksF m g)=false:=decide_eq_false fun e=>h (by rw [← toksF_len n f,e,toksF_len])
  rw [this]; rfl
noncomputable def pSm:Prims:=pPb.addh 20 (liftG 8 (funP spF2 8 [] TF2))
theorem pSm_ok {A:Amb} (hT:Tab A) (hG:prog.globals.size≤A.G):PrimOK prog A pSm:=by
 refine (pPb_ok hT hG).addl gsz func20 (by kernel_rfl) (funP_ok hmix hnum rfl fun ls sq l h=>?_)
 unfold TF2 at h
 split at h
 ·rename_i n f m g
  obtain ⟨hc,hv⟩:=Tr.br1 h
  obtain ⟨h2,h3,h4⟩:=propB_eq hc
  cases hv
  exact ⟨⟨.inr rfl,.inr rfl,.inr rfl,.inr rfl,.inr rfl,.inr rfl,.inr rfl,.inr rfl,trivial⟩,rfl,rfl,pM20,60,pM20_ok hT hG,(run20 _ _ f g).trans (tree20_eq h2 h3 h4)⟩
 ·cases h
end Go.Proofs.Tryz
namespace Go.Proofs.Tryz
open Go.Ad
section
variable (n ty:Nat) (a:Int) (r:Nat→Tok)
abbrev retI (s:List UInt8) (i e:Int):Option (List Lf):=some [.s s,.i i,.i e,.n n,.r (fun i=>rowT (r i)),.n ty]
end
end Go.Proofs.Tryz
namespace Go.Proofs.Tryz
open Go.Ad
section
variable {L:List Tok} {ty:Nat} {a:Int}
abbrev resI (L:List Tok) (ty:Nat) (p:List UInt8 × Int × Int):Option (List Lf):=retI L.length ty (fun i=>L.getD i tok0) p.1 p.2.1 p.2.2
end
end Go.Proofs.Tryz
namespace Go.Proofs.Tryz
open Go.Ad
def smallD (D:List (List Tok)):Prop:=∀ i,(D.getD i []).length≤4097
end Go.Proofs.Tryz
