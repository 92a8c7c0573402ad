/- The lexer's program: is a token a sign? -/
import Derived.Test.YtfjgehlpjppggaaGreatDoorScanT
import Derived.Test.YtfjgehlpjppggaaGreatDoorAdPat
namespace Go.Proofs.Tryz
open Go.Ad
def isS (t:Tok) (s:List UInt8):Bool:=t.1 == 2 && t.2.1 == s
theorem runIs {f:FuncId} (h:f=82 ∨ f=85) (k:Int) (t s:List UInt8):(runK prog pS 60).call f [.agg [.sint .i64 k,.sstr t,.bad],.sstr s] (Bg 8) finV=brK (k == 2) (some (.sbool (t == s))) (some (.bool false)):=by
 rcases h with rfl | rfl <;> kernel_rfl
def gIs:List AV→Tr AV
 | [.agg [k,t,_],s]=>match snum k,sstr? t,sstr? s with
  | some (.i64,k),some t,some s=>.leaf (.sbool (k == 2 && t == s))
  | _,_,_=>.fail
 | _=>.fail
noncomputable def pP:Prims:=(pS.addt 82 gIs).addt 85 gIs
theorem pP_ok {A:Amb} (hT:Tab A) (hG:prog.globals.size≤A.G):PrimOK prog A pP:=by
 have h0:=pS_ok hT hG
 have key:∀ f:FuncId,(f=82 ∨ f=85)→∀ args v,(gIs args).get=some v→∃ prims0 args' v' B',PrimOK prog A prims0∧(∀ (ι:Emb) (xs:List Value),VRL ι args xs→VRL ι args' xs)∧(∀ (ι:Emb) (x:Value),VR ι v' x→VR ι v x)∧belowL 0 args'=true∧below 0 v'=true ∧
    Ca prog prims0 f args' (Bg prog.globals.size) (v',B',[]):=by
  intro f hr args v h
  unfold gIs at h
  split at h
  ·rename_i k0 t0 a0 s0
   split at h
   ·rename_i k t s hk ht hs
    cases h
    have q1:=runIs hr k t s
    have q:∃ v',(runK prog pS 60).call f [.agg [.sint .i64 k,.sstr t,.bad],.sstr s] (Bg 8) finV=some v'∧below 0 v'=true∧∀ ι x,VR ι v' x→VR ι (.sbool (k == 2 && t == s)) x:=by
     rw [q1]
     cases k == 2 with
     | true=>exact ⟨_,rfl,rfl,fun ι x h=>h⟩
     | false=>exact ⟨_,rfl,rfl,fun ι=>vr_bool rfl⟩
    obtain ⟨v',q1,q2,q3⟩:=q
    rw [← gsz] at q1
    obtain ⟨B',hca⟩:=Ca.of_finV q1
    refine ⟨pS,_,v',B',h0,fun ι xs hx=>?_,fun ι x=>q3 ι x,rfl,q2,hca⟩
    simp only [VRL,VR] at hx ⊢
    obtain ⟨x,xs1,rfl,⟨ys,rfl,y0,r0,e0,w0,y1,r1,e1,w1,y2,r2,e2,w2,w3⟩,z,zs,rfl,hz,rfl⟩:=hx
    exact ⟨_,_,rfl,⟨ys,rfl,y0,r0,e0,snum_VR hk w0,y1,r1,e1,sstr_VR ht w1,y2,r2,e2,trivial,w3⟩,z,_,rfl,sstr_VR hs hz,rfl⟩
   ·cases h
  ·cases h
 exact PrimOK.addt3 hmix hnum (PrimOK.addt3 hmix hnum h0 hG func82 (by kernel_rfl) (key 82 (.inl rfl))) hG func85 (by kernel_rfl) (key 85 (.inr rfl))
end Go.Proofs.Tryz
namespace Go.Proofs.Tryz
open Go.Ad
noncomputable def code33:Code:=f33.body.getD .skip
noncomputable def body33:Code:=unLoop (findB 0 code33)
def nilS:AV:=.slice none 0 0
def tokP:Bool→Pt
 | true=>.row 8
 | false=>.list 8
def opP (b:Nat):Bool→Pt
 | true=>.row b
 | false=>.is nilS
def opH:Bool→List OP
 | true=>[.vec1 1 9]
 | false=>[]
def sp33 (lp op:Bool):SP:=⟨[.drop,.str]++dr 5++[.list 10,opP 12 op]++dr 37++[tokP lp,.int .i64,.int .i64]++dr 68,dd8++[.vecT 3,.dead,.tail 1 [.list 11] 27,.vec 3 52]++opH op⟩
def sp33e (op:Bool):SP:=⟨dr 7++[.flist 1,opP 10 op]++dr 108,dd8++[.vecT 3,.dead]++opH op⟩
def sp33r:SP:=⟨dr 4++[.is nilS,.int .i64]++dr 111,dd8++[.vecT 3,.dead]⟩
def gs33 (t:Tmp):AEx→List Gs
 | .ret=>[]
 | .normal=>[.abs1 t,.new t 3 52]
 | .exit _=>[.abs t,.frz t]
def sps33 (lp:Bool):AEx→List SP
 | .ret=>[sp33r]
 | .normal=>[sp33 lp false,sp33 lp true]
 | .exit _=>[sp33e false,sp33e true]
def lf33 (s:List UInt8) (K k:Nat) (n i:Int) (N:Nat) (r:Nat→List AV) (ty D:Nat) (d:Nat→List AV) (C:Nat) (c:Nat→List AV):Option (Nat × Nat × (Nat→List AV))→List Lf
 | none=>[.s s,.n K,.n k,.i n,.i i,.n N,.r r,.n ty,.n D,.r d,.n C,.n C,.r c]
 | some (q,m,o)=>[.s s,.n K,.n q,.n k,.i n,.i i,.n N,.r r,.n ty,.n D,.r d,.n C,.n C,.r c,.n m,.r o]
section
variable (s:List UInt8) (K k:Nat) (n i:Int) (N:Nat) (t:Tok) (r:Nat→List AV) (ty D:Nat) (d:Nat→List AV) (C:Nat) (c:Nat→List AV)
def appT (X:Option (AEx × Nat × List Lf)):Option (AEx × Nat × List Lf) :=
 brK (decide (0≤W ((K:Int) - 1)∧W ((K:Int) - 1) < (K:Int))) (brK (decide (0+(W ((K:Int) - 1)).toNat=D)) (brK (decide (C+1 < 2147483648∧C=C))
  (brK (decide (0≤W ((K:Int) - 1)∧W ((K:Int) - 1) < (K:Int))) (brK (decide (0+(W ((K:Int) - 1)).toNat=D)) X none) none) none) none) none
def ret33:Option (AEx × Nat × List Lf):=some (.ret,0,[.i 3,.n N,.r r,.n ty])
noncomputable def split33 (b:Nat) (op:Option (Nat × Nat × (Nat→List AV))):Option (AEx × Nat × List Lf) :=
 brK (decide (0 < K∧K+1 < 2147483648∧K*1=D*1+1)) (brK (propB (frzB C C c) && (true && true))
  (some (.normal,b,lf33 s (K+1) k n (W (i+1)) N r ty (D+1) (addF D d [.flist C (frow c) 3]) 0 (fun _=>[]) op)) none) none
def push33 (x:UInt8):Option (Nat × Nat × (Nat→List UInt8))→Option (AEx × Nat × List Lf)
 | none=>appT K D C (some (.normal,1,lf33 s K k n (W (i+1)) N r ty D d (C+1) (addRow C c (rowT t)) (some (1,1,fun _=>[.sstr [x]]))))
 | some (q,m,o)=>brK (decide (q+1 < 2147483648∧q≤m)) (appT K D C (some (.normal,1,lf33 s K k n (W (i+1)) N r ty D d (C+1) (addRow C c (rowT t)) (some (q+1,q+1,fun r=>mrgL (decide (r < q)) [.sstr (o r)] [.str [x]]))))) none
def close33:Option (Nat × Nat × (Nat→List UInt8))→Option (AEx × Nat × List Lf)
 | none=>ret33 N r ty
 | some (q,m,o)=>brK ((q:Int) == 0) (ret33 N r ty) (brK (decide (0≤W ((q:Int) - 1)∧W ((q:Int) - 1) < (q:Int))) (brK (decide ((W ((q:Int) - 1)).toNat < m)) (brK (!(o (W ((q:Int) - 1)).toNat == t.2.1)) (ret33 N r ty)
   (brK (decide (0≤W ((q:Int) - 1)∧W ((q:Int) - 1)≤(q:Int)) && true)
    (appT K D C (some (.normal,1,lf33 s K k n (W (i+1)) N r ty D d (C+1) (addRow C c (rowT t)) (some ((W ((q:Int) - 1)).toNat,m,fun i=>[.sstr (o i)]))))) none)) none) none)
def opL:Option (Nat × Nat × (Nat→List UInt8))→Option (Nat × Nat × (Nat→List AV))
 | none=>none
 | some (q,m,o)=>some (q,m,fun i=>[.sstr (o i)])
def opN:Option (Nat × Nat × (Nat→List UInt8))→Nat
 | none=>0
 | some _=>1
def rest33 (op:Option (Nat × Nat × (Nat→List UInt8))):Option (AEx × Nat × List Lf) :=
 brK (isS t [40]) (push33 s K k n i N t r ty D d C c 41 op) (brK (isS t [91]) (push33 s K k n i N t r ty D d C c 93 op) (brK (isS t [41]) (close33 s K k n i N t r ty D d C c op) (brK (isS t [93]) (close33 s K k n i N t r ty D d C c op)
  (appT K D C (some (.normal,opN op,lf33 s K k n (W (i+1)) N r ty D d (C+1) (addRow C c (rowT t)) (opL op)))))))
noncomputable def core33:Option (Nat × Nat × (Nat→List UInt8))→Option (AEx × Nat × List Lf)
 | none=>brK (isS t s) (split33 s K k n i N r ty D d C c 0 none) (rest33 s K k n i N t r ty D d C c none)
 | some (q,m,o)=>brK ((q:Int) == 0) (brK (isS t s) (split33 s K k n i N r ty D d C c 1 (some (q,m,fun i=>[.sstr (o i)]))) (rest33 s K k n i N t r ty D d C c (some (q,m,o)))) (rest33 s K k n i N t r ty D d C c (some (q,m,o)))
def lfe33 (K:Nat) (g:Nat→List FV) (N:Nat) (r:Nat→List AV) (ty:Nat):Option (Nat × Nat × (Nat→List AV))→List Lf
 | none=>[.n K,.fr g,.n N,.r r,.n ty]
 | some (q,m,o)=>[.n K,.fr g,.n q,.n N,.r r,.n ty,.n m,.r o]
noncomputable def tree33 (ix:Nat) (op:Option (Nat × Nat × (Nat→List UInt8))):Option (AEx × Nat × List Lf) :=
 brK (decide (i < n)) (brK (decide (0≤i∧i < (k:Int))) (brK (decide (ix < N)) (core33 s K k n i N t r ty D d C c op) none) none)
  (brK (propB (frzB C C c) && (propB (frzB K (D+1) (addF D d [.flist C (frow c) 3])) && true)) (some (.exit 0,opN op,lfe33 K (frow (addF D d [.flist C (frow c) 3])) N r ty (opL op))) none)
end
def ixT (lp:Bool) (i:Int):Nat:=bif lp then i.toNat else 0+i.toNat
section
variable (s:List UInt8) (K k:Nat) (n i:Int) (N:Nat) (r:Nat→Tok) (ty D:Nat) (d:Nat→List AV) (C:Nat) (c:Nat→List AV)
noncomputable def run33 (lp op:Bool) (l:List Lf):Option (AEx × Nat × List Lf):=execK prog (runK prog pP 60) noBps body33 ((sp33 lp op).rho l) ((sp33 lp op).heap l) (nrmA (gs33 7) (sps33 lp) 10 [9])
theorem round33a:run33 false false (lf33 s K k n i N (fun i=>rowT (r i)) ty D d C c none)=tree33 s K k n i N (r (0+i.toNat)) (fun i=>rowT (r i)) ty D d C c (0+i.toNat) none:=by kernel_rfl
theorem round33b:run33 true false (lf33 s K k n i N (fun i=>rowT (r i)) ty D d C c none)=tree33 s K k n i N (r i.toNat) (fun i=>rowT (r i)) ty D d C c i.toNat none:=by kernel_rfl
theorem round33c (q m:Nat) (o:Nat→List UInt8):run33 false true (lf33 s K k n i N (fun i=>rowT (r i)) ty D d C c (some (q,m,fun i=>[.sstr (o i)])))=tree33 s K k n i N (r (0+i.toNat)) (fun i=>rowT (r i)) ty D d C c (0+i.toNat) (some (q,m,o)):=by kernel_rfl
theorem round33d (q m:Nat) (o:Nat→List UInt8):run33 true true (lf33 s K k n i N (fun i=>rowT (r i)) ty D d C c (some (q,m,fun i=>[.sstr (o i)])))=tree33 s K k n i N (r i.toNat) (fun i=>rowT (r i)) ty D d C c i.toNat (some (q,m,o)):=by kernel_rfl
end
end Go.Proofs.Tryz
namespace Go.Proofs.Tryz
open Go.Ad
abbrev RO:=Option (List UInt8 × Nat)
def lenO:RO→Nat
 | none=>0
 | some (_,q)=>q
def rowO (Q:List UInt8) (i:Nat):List UInt8:=[Q.getD i (Q.getLastD 0)]
def topO:RO→List UInt8
 | none=>[]
 | some (Q,q)=>rowO Q (q - 1)
def popO:RO→RO
 | none=>none
 | some (Q,q)=>some (Q,q - 1)
def pushO (x:UInt8):RO→RO
 | none=>some ([x],1)
 | some (Q,q)=>some (Q.take q++[x],q+1)
abbrev PK:=List (List Tok) × List Tok × RO
def stepK (s:List UInt8) (t:Tok) (x:PK):Option PK :=
 bif decide (lenO x.2.2=0) && isS t s then some (x.1++[x.2.1],[],x.2.2)
 else bif isS t [40] then some (x.1,x.2.1++[t],pushO 41 x.2.2)
 else bif isS t [91] then some (x.1,x.2.1++[t],pushO 93 x.2.2)
 else bif isS t [41] || isS t [93] then (bif decide (lenO x.2.2=0) then none else bif topO x.2.2 == t.2.1 then some (x.1,x.2.1++[t],popO x.2.2) else none)
 else some (x.1,x.2.1++[t],x.2.2)
def partsK (s:List UInt8):List Tok→PK→Option PK
 | [],x=>some x
 | t :: r,x=>match stepK s t x with
  | some y=>partsK s r y
  | none=>none
def okO (i:Nat):RO→Prop
 | none=>True
 | some (Q,q)=>q≤Q.length∧q≤i
def opT:RO→Option (Nat × Nat × (Nat→List UInt8))
 | none=>none
 | some (Q,q)=>some (q,Q.length,rowO Q)
def crow:List Tok→Nat→List AV
 | []=>fun _=>[]
 | a :: l=>fun i=>rowT ((a :: l).getD i ((a :: l).getLastD tok0))
def flT (C:List Tok):AV:=.flist C.length (frow (crow C)) 3
def prow (D:List (List Tok)):Nat→List AV:=(D.foldl (fun p C=>(p.1+1,addF p.1 p.2 [flT C])) ((0,fun _=>[]):Nat × (Nat→List AV))).2
theorem getD_add {R:Type} (L:List R) (x d:R) (i:Nat):(L++[x]).getD i ((L++[x]).getLastD d)=bif decide (i < L.length) then L.getD i (L.getLastD d) else x:=by
 rw [List.getLastD_concat]
 by_cases h:i < L.length
 ·rw [decide_eq_true h,cond_true,List.getD_eq_getElem?_getD,List.getD_eq_getElem?_getD,List.getElem?_append_left h,List.getElem?_eq_getElem h]; rfl
 ·rw [decide_eq_false h,cond_false,List.getD_eq_getElem?_getD,List.getElem?_append_right (by omega)]
  cases i - L.length <;> simp
theorem mrg_tok (b:Bool) (x t:Tok):mrgL b (rowT x) (rowT t)=rowT (bif b then x else t):=by
 cases b <;> rfl
theorem crow_add (C:List Tok) (t:Tok):addRow C.length (crow C) (rowT t)=crow (C++[t]):=by
 funext i
 cases C with
 | nil =>
  show mrgL (decide (i < 0)) [] (rowT t)=rowT ([t].getD i t)
  rw [decide_eq_false (by omega)]
  cases i <;> rfl
 | cons a l =>
  show mrgL (decide (i < (a :: l).length)) (rowT ((a :: l).getD i ((a :: l).getLastD tok0))) (rowT t)=rowT (((a :: l)++[t]).getD i (((a :: l)++[t]).getLastD tok0))
  rw [mrg_tok,getD_add]
theorem rowO_one (x:UInt8):rowO [x]=fun _=>[x]:=by
 funext i
 cases i <;> rfl
theorem rowO_add {Q:List UInt8} {q:Nat} (hq:q≤Q.length) (x:UInt8):(fun r=>mrgL (decide (r < q)) [.sstr (rowO Q r)] [.str [x]])=fun r=>[.sstr (rowO (Q.take q++[x]) r)]:=by
 funext r
 have hl:(Q.take q).length=q:=by rw [List.length_take]; omega
 unfold rowO
 rw [getD_add,hl]
 by_cases h:r < q
 ·rw [decide_eq_true h,cond_true]
  have:Q.getD r (Q.getLastD 0)=(Q.take q).getD r ((Q.take q).getLastD 0):=by
   rw [List.getD_eq_getElem?_getD,List.getD_eq_getElem?_getD,List.getElem?_take_of_lt h,List.getElem?_eq_getElem (by omega)]; rfl
  rw [this]; rfl
 ·rw [decide_eq_false h]; rfl
theorem prow_add (D:List (List Tok)) (C:List Tok):addF D.length (prow D) [flT C]=prow (D++[C]):=by
 have h:∀ (D:List (List Tok)) (p:Nat × (Nat→List AV)),(D.foldl (fun p C=>(p.1+1,addF p.1 p.2 [flT C])) p).1=p.1+D.length:=by
  intro D
  induction D with
  | nil=>intro p; rfl
  | cons a l ih=>intro p; rw [List.foldl_cons,ih,List.length_cons]; simp only; omega
 unfold prow
 rw [List.foldl_append]
 simp only [List.foldl_cons,List.foldl_nil]
 rw [h]
 simp
theorem prow_get (D:List (List Tok)):∀ i,i < D.length→prow D i=[flT (D.getD i [])]:=by
 suffices h:∀ R:List (List Tok),∀ i,i < R.reverse.length→prow R.reverse i=[flT (R.reverse.getD i [])] by
  have:=h D.reverse
  rwa [List.reverse_reverse] at this
 intro R
 induction R with
 | nil=>intro i hi; simp at hi
 | cons a l ih =>
  intro i hi
  rw [List.reverse_cons] at hi ⊢
  rw [← prow_add]
  unfold addF
  by_cases h:i < l.reverse.length
  ·rw [decide_eq_true h,cond_true,ih i h,List.getD_eq_getElem?_getD,List.getD_eq_getElem?_getD,List.getElem?_append_left h]
  ·have e:i=l.reverse.length:=by rw [List.length_append,List.length_singleton] at hi; omega
   rw [decide_eq_false h,cond_false,e,List.getD_eq_getElem?_getD,List.getElem?_append_right (Nat.le_refl _),Nat.sub_self]; rfl
theorem frz_crow (C:List Tok):frzB C.length C.length (crow C):=by
 refine ⟨Nat.le_refl _,fun i hi=>?_⟩
 cases C with
 | nil=>simp at hi
 | cons a l=>rfl
theorem frz_prow (D:List (List Tok)):frzB D.length D.length (prow D):=⟨Nat.le_refl _,fun i hi=>by rw [prow_get D i hi]; rfl⟩
section
variable {s:List UInt8} {k i N ty:Nat} {t:Tok} {r:Nat→List AV} {D:List (List Tok)} {C:List Tok}
theorem appT_eq {X:Option (AEx × Nat × List Lf)} (hD:D.length≤5000) (hC:C.length≤5000):appT (D.length+1) D.length C.length X=X:=by
 unfold appT
 have e1:W (((D.length+1:Nat):Int) - 1)=(D.length:Int):=by rw [W,wrap64 (by omega) (by omega)]; omega
 rw [e1,Int.toNat_natCast,decide_eq_true (show 0≤(D.length:Int)∧(D.length:Int) < ((D.length+1:Nat):Int) by omega),decide_eq_true (show 0+D.length=D.length by omega),decide_eq_true (show C.length+1 < 2147483648∧C.length=C.length from ⟨by omega,rfl⟩)]; rfl
def resK (s:List UInt8) (k i N:Nat) (r:Nat→List AV) (ty:Nat):Option PK→Option (AEx × Nat × List Lf)
 | none=>ret33 N r ty
 | some (D,C,O)=>some (.normal,opN (opT O),lf33 s (D.length+1) k k ((i+1:Nat):Int) N r ty D.length (prow D) C.length (crow C) (opL (opT O)))
theorem tree33_eq {O:RO} (hi:i < k) (hk:k≤N) (hN:N≤5000) (hD:D.length≤i) (hC:C.length≤i) (hO:okO i O) :
  tree33 s (D.length+1) k k i N t r ty D.length (prow D) C.length (crow C) i (opT O)=resK s k i N r ty (stepK s t (D,C,O)):=by
 have e2:W ((i:Int)+1)=((i+1:Nat):Int):=by rw [W,wrap64 (by omega) (by omega)]; omega
 have hap:∀ X:Option (AEx × Nat × List Lf),appT (D.length+1) D.length C.length X=X:=fun X=>appT_eq (by omega) (by omega)
 have hsp:∀ (b:Nat) op,split33 s (D.length+1) k k i N r ty D.length (prow D) C.length (crow C) b op =
   some (.normal,b,lf33 s ((D++[C]).length+1) k k ((i+1:Nat):Int) N r ty (D++[C]).length (prow (D++[C])) ([]:List Tok).length (crow []) op):=by
  intro b op
  unfold split33
  rw [decide_eq_true (show 0 < D.length+1∧D.length+1+1 < 2147483648∧(D.length+1)*1=D.length*1+1 from ⟨by omega,by omega,by omega⟩),propB_true (show _ from frz_crow C),e2]
  show some (AEx.normal,b,lf33 s (D.length+1+1) k k ((i+1:Nat):Int) N r ty (D.length+1) (addF D.length (prow D) [flT C]) 0 (fun _=>[]) op)=_
  rw [prow_add,List.length_append]; rfl
 have hpush:∀ x,push33 s (D.length+1) k k i N t r ty D.length (prow D) C.length (crow C) x (opT O)=resK s k i N r ty (some (D,C++[t],pushO x O)):=by
  intro x
  cases O with
  | none =>
   show appT _ _ _ _=_
   rw [hap,crow_add,e2]
   simp only [resK,pushO,opT,opN,opL,rowO_one,List.length_append,List.length_singleton]
  | some p =>
   obtain ⟨Q,q⟩:=p
   obtain ⟨h1,h2⟩:=hO
   show brK (decide (q+1 < 2147483648∧q≤Q.length)) (appT _ _ _ _) none=_
   rw [hap,crow_add,e2,decide_eq_true (show q+1 < 2147483648∧q≤Q.length from ⟨by omega,h1⟩),rowO_add h1]
   have e:(Q.take q++[x]).length=q+1:=by rw [List.length_append,List.length_take,List.length_singleton]; omega
   simp only [resK,pushO,opT,opN,opL,e,List.length_append,List.length_singleton]; rfl
 have hclose:close33 s (D.length+1) k k i N t r ty D.length (prow D) C.length (crow C) (opT O) =
   resK s k i N r ty (bif decide (lenO O=0) then none else bif topO O == t.2.1 then some (D,C++[t],popO O) else none):=by
  cases O with
  | none=>rfl
  | some p =>
   obtain ⟨Q,q⟩:=p
   obtain ⟨h1,h2⟩:=hO
   show brK ((q:Int) == 0) _ _=_
   by_cases h0:q=0
   ·subst h0; rfl
   ·have e0:((q:Int) == 0)=false:=by rw [beq_eq_false_iff_ne]; omega
    have e1:W ((q:Int) - 1)=((q - 1:Nat):Int):=by rw [W,wrap64 (by omega) (by omega)]; omega
    rw [e0,e1,Int.toNat_natCast,decide_eq_true (show 0≤((q - 1:Nat):Int)∧((q - 1:Nat):Int) < (q:Int) by omega),decide_eq_true (show q - 1 < Q.length by omega),decide_eq_true (show 0≤((q - 1:Nat):Int)∧((q - 1:Nat):Int)≤(q:Int) by omega),
     hap,crow_add,e2,show lenO (some (Q,q))=q from rfl,decide_eq_false h0]
    show brK (!(rowO Q (q - 1) == t.2.1)) _ _=resK s k i N r ty (bif rowO Q (q - 1) == t.2.1 then _ else _)
    cases rowO Q (q - 1) == t.2.1 with
    | true=>rw [show C.length+1=(C++[t]).length by simp]; rfl
    | false=>rfl
 have hrest:rest33 s (D.length+1) k k i N t r ty D.length (prow D) C.length (crow C) (opT O)=resK s k i N r ty (bif isS t [40] then some (D,C++[t],pushO 41 O)
   else bif isS t [91] then some (D,C++[t],pushO 93 O)
   else bif isS t [41] || isS t [93] then (bif decide (lenO O=0) then none else bif topO O == t.2.1 then some (D,C++[t],popO O) else none)
   else some (D,C++[t],O)):=by
  unfold rest33
  rw [hpush,hpush,hclose,hap,crow_add,e2]
  cases isS t [40]
  ·cases isS t [91]
   ·cases isS t [41]
    ·cases isS t [93]
     ·rw [show C.length+1=(C++[t]).length by simp]; rfl
     ·rfl
    ·rfl
   ·rfl
  ·rfl
 unfold tree33
 rw [decide_eq_true (show (i:Int) < (k:Int) by omega),decide_eq_true (show 0≤(i:Int)∧(i:Int) < (k:Int) by omega),decide_eq_true (show i < N by omega)]
 show core33 s (D.length+1) k k i N t r ty D.length (prow D) C.length (crow C) (opT O)=_
 unfold stepK
 cases O with
 | none =>
  show brK (isS t s) (split33 s _ k k i N r ty _ _ _ _ 0 none) (rest33 s _ k k i N t r ty _ _ _ _ (opT none))=_
  rw [hsp,hrest]
  cases isS t s <;> rfl
 | some p =>
  obtain ⟨Q,q⟩:=p
  show brK ((q:Int) == 0) (brK (isS t s) (split33 s _ k k i N r ty _ _ _ _ 1 (opL (opT (some (Q,q))))) (rest33 s _ k k i N t r ty _ _ _ _ (opT (some (Q,q))))) (rest33 s _ k k i N t r ty _ _ _ _ (opT (some (Q,q))))=_
  rw [hsp,hrest]
  by_cases h0:q=0
  ·subst h0
   cases isS t s <;> rfl
  ·have e0:((q:Int) == 0)=false:=by rw [beq_eq_false_iff_ne]; omega
   rw [e0]
   show _=resK s k i N r ty (bif decide (q=0) && isS t s then _ else _)
   rw [decide_eq_false h0]; rfl
theorem tree33_end {O:RO} {g:Nat}:tree33 s (D.length+1) k k k N t r ty D.length (prow D) C.length (crow C) g (opT O)=some (AEx.exit 0,opN (opT O),lfe33 (D.length+1) (frow (prow (D++[C]))) N r ty (opL (opT O))):=by
 unfold tree33
 rw [decide_eq_false (show ¬ (k:Int) < (k:Int) by omega)]
 show brK (propB (frzB C.length C.length (crow C)) && (propB (frzB (D.length+1) (D.length+1) (addF D.length (prow D) [flT C])) && true)) (some (AEx.exit 0,opN (opT O),lfe33 (D.length+1) (frow (addF D.length (prow D) [flT C])) N r ty (opL (opT O)))) none=_
 rw [prow_add,propB_true (frz_crow C),propB_true (show frzB (D.length+1) (D.length+1) (prow (D++[C])) by have:=frz_prow (D++[C]); rwa [List.length_append,List.length_singleton] at this)]; rfl
end
end Go.Proofs.Tryz
namespace Go.Proofs.Tryz
open Go.Ad
theorem stepK_ok {s:List UInt8} {t:Tok} {D D':List (List Tok)} {C C':List Tok} {O O':RO} {i:Nat} (h:stepK s t (D,C,O)=some (D',C',O')) (hD:D.length≤i) (hC:C.length≤i) (hO:okO i O) :
  D'.length≤i+1∧C'.length≤i+1∧okO (i+1) O':=by
 have hO1:okO (i+1) O:=by
  cases O with
  | none=>trivial
  | some p=>exact ⟨hO.1,by have:=hO.2; omega⟩
 have hpush:∀ x,okO (i+1) (pushO x O):=fun x=>by
  cases O with
  | none=>exact ⟨by simp,by omega⟩
  | some p=>exact ⟨by have:=hO.1; simp; omega,by have:=hO.2; omega⟩
 have hpop:okO (i+1) (popO O):=by
  cases O with
  | none=>trivial
  | some p =>
   obtain ⟨Q,q⟩:=p
   obtain ⟨h1,h2⟩:=hO
   exact ⟨by omega,by omega⟩
 unfold stepK at h
 simp only at h
 cases h1:decide (lenO O=0) && isS t s with
 | true =>
  rw [h1] at h; cases h
  exact ⟨by simp; omega,by simp,hO1⟩
 | false =>
  rw [h1,cond_false] at h
  cases h2:isS t [40] with
  | true=>rw [h2] at h; cases h; exact ⟨by omega,by simp; omega,hpush _⟩
  | false =>
   rw [h2,cond_false] at h
   cases h3:isS t [91] with
   | true=>rw [h3] at h; cases h; exact ⟨by omega,by simp; omega,hpush _⟩
   | false =>
    rw [h3,cond_false] at h
    cases h4:isS t [41] || isS t [93] with
    | true =>
     rw [h4,cond_true] at h
     cases h5:decide (lenO O=0) with
     | true=>rw [h5] at h; cases h
     | false =>
      rw [h5,cond_false] at h
      cases h6:topO O == t.2.1 with
      | true=>rw [h6] at h; cases h; exact ⟨by omega,by simp; omega,hpop⟩
      | false=>rw [h6] at h; cases h
    | false=>rw [h4] at h; cases h; exact ⟨by omega,by simp; omega,hO1⟩
section
variable (s:List UInt8) (K k:Nat) (n i:Int) (L:List Tok) (ty D:Nat) (d:Nat→List AV) (C:Nat) (c:Nat→List AV)
theorem round33 (lp:Bool) (O:RO):run33 lp O.isSome (lf33 s K k n i L.length (rowsT L) ty D d C c (opL (opT O))) =
  tree33 s K k n i L.length (L.getD (ixT lp i) tok0) (rowsT L) ty D d C c (ixT lp i) (opT O):=by
 cases lp <;> cases O
 ·exact round33a s K k n i L.length (fun i=>L.getD i tok0) ty D d C c
 ·exact round33c s K k n i L.length (fun i=>L.getD i tok0) ty D d C c _ _ _
 ·exact round33b s K k n i L.length (fun i=>L.getD i tok0) ty D d C c
 ·exact round33d s K k n i L.length (fun i=>L.getD i tok0) ty D d C c _ _ _
end
def lfPt (s:List UInt8) (L:List Tok) (k ty i:Nat) (x:PK):List Lf:=lf33 s (x.1.length+1) k k i L.length (rowsT L) ty x.1.length (prow x.1) x.2.1.length (crow x.2.1) (opL (opT x.2.2))
def st33 (lp:Bool) (s:List UInt8) (L:List Tok) (k ty i:Nat) (x:PK):St:=⟨(sp33 lp x.2.2.isSome).rho (lfPt s L k ty i x),(sp33 lp x.2.2.isSome).heap (lfPt s L k ty i x),[9]⟩
def init33:PK:=([],[],none)
def outP (L:List Tok) (ty:Nat):Option PK→AEx × St
 | none=>(.ret,⟨sp33r.rho [.i 3,.n L.length,.r (rowsT L),.n ty],sp33r.heap [.i 3,.n L.length,.r (rowsT L),.n ty],[9]⟩)
 | some (D,C,O)=>(.exit 0,⟨(sp33e O.isSome).rho (lfe33 (D.length+1) (frow (prow (D++[C]))) L.length (rowsT L) ty (opL (opT O))),(sp33e O.isSome).heap (lfe33 (D.length+1) (frow (prow (D++[C]))) L.length (rowsT L) ty (opL (opT O))),[9]⟩)
theorem loop33 {A:Amb} (hT:Tab A) (hG:prog.globals.size≤A.G) (lp:Bool) (s:List UInt8) (L:List Tok) (k ty:Nat) (hk:k≤L.length) (hL:L.length≤4097) {Bb:Heap} (hB:Bb.length=10) :
  SEB prog A Bb (.loop body33) (st33 lp s L k ty 0 init33) (outP L ty (partsK s (L.take k) init33)).1 (outP L ty (partsK s (L.take k) init33)).2:=by
 have hp:=pP_ok hT hG
 have hM:(L.take k).length=k:=by rw [List.length_take]; omega
 refine SEB.while (fun x:Nat × PK=>x.1≤k∧x.2.1.length≤x.1∧x.2.2.1.length≤x.1∧okO x.1 x.2.2.2∧partsK s ((L.take k).drop x.1) x.2=partsK s (L.take k) init33) (fun x=>k - x.1) (fun x=>st33 lp s L k ty x.1 x.2)
  (fun _=>outP L ty (partsK s (L.take k) init33)) (fun x hx=>?_) (0,init33) ⟨Nat.zero_le _,Nat.le_refl _,Nat.le_refl _,trivial,rfl⟩
 obtain ⟨i,D,C,O⟩:=x
 obtain ⟨h1,h2,h3,h4,h5⟩:=hx
 simp only at h1 h2 h3 h4 h5 ⊢
 have hix:ixT lp (i:Int)=i:=by cases lp <;> simp [ixT]
 have hkr:=round33 s (D.length+1) k k i L ty D.length (prow D) C.length (crow C) lp O
 rw [hix] at hkr
 by_cases hi:i < k
 ·obtain ⟨t,M,hd,ht,hM2,_,_⟩:=drop_tok (L:=L.take k) (i:=i) (by omega)
  have hte:L.getD i tok0=t:=by
   rw [← ht,List.getD_eq_getElem?_getD,List.getD_eq_getElem?_getD,List.getElem?_take_of_lt hi]
  rw [hte,tree33_eq hi hk (by omega) h2 h3 h4] at hkr
  rw [hd] at h5
  simp only [partsK] at h5
  cases he:stepK s t (D,C,O) with
  | none =>
   right
   rw [he] at hkr h5
   rw [← h5]
   refine ⟨by simp [outP],SEB.of_KA (k:=0) (e:=.ret) (gs:=gs33 7) (sps:=sps33 lp) (sp:=sp33r) hmix hnum hp (.none _) hB hkr rfl rfl⟩
  | some y =>
   left
   obtain ⟨D',C',O'⟩:=y
   rw [he] at hkr h5
   simp only at h5
   obtain ⟨q1,q2,q3⟩:=stepK_ok he h2 h3 h4
   refine ⟨(i+1,D',C',O'),⟨by simp only; omega,q1,q2,q3,?_⟩,by simp only; omega,trivial,?_⟩
   ·simp only; rw [hM2]; exact h5
   ·have:=SEB.of_KA (k:=opN (opT O')) (e:=.normal) (gs:=gs33 7) (sps:=sps33 lp) (sp:=sp33 lp O'.isSome) hmix hnum hp (.none _) hB hkr (by cases O' <;> rfl) (by cases lp <;> cases O' <;> rfl)
    exact this
 ·right
  have e:i=k:=by omega
  subst e
  rw [tree33_end] at hkr
  rw [List.drop_eq_nil_of_le (by omega)] at h5
  simp only [partsK] at h5
  rw [← h5]
  refine ⟨by simp [outP],?_⟩
  have:=SEB.of_KA (k:=opN (opT O)) (e:=.exit 0) (gs:=gs33 7) (sps:=sps33 lp) (sp:=sp33e O.isSome) hmix hnum hp (.none _) hB hkr (by cases O <;> rfl) (by cases O <;> rfl)
  exact this
end Go.Proofs.Tryz
namespace Go.Proofs.Tryz
open Go.Ad
def prowV (D:List (List Tok)):Nat→List FV:=fun i=>[.list (D.getD i []).length (frow (rowsT (D.getD i []))) 3]
theorem flist_imp {φ:Nat→Option (List Value)} {n es:Nat} {g g':Nat→List FV} {v:Value} (h:∀ i,i < n→∀ l,FVRL φ (g i) l→FVRL φ (g' i) l) (hv:FVR φ (.list n g es) v):FVR φ (.list n g' es) v:=by
 simp only [FVR] at hv ⊢
 rcases hv with hv | ⟨h0,c,off,cap,cs,h1,h2,h3,h4,h5⟩
 ·exact .inl hv
 ·exact .inr ⟨h0,c,off,cap,cs,h1,h2,h3,h4,fun i hi=>h i hi _ (h5 i hi)⟩
theorem crow_rows (C:List Tok):∀ i,i < C.length→crow C i=rowsT C i:=by
 intro i hi
 cases C with
 | nil=>simp at hi
 | cons a l =>
  show rowT ((a :: l).getD i _)=rowT ((a :: l).getD i tok0)
  rw [List.getD_eq_getElem?_getD,List.getD_eq_getElem?_getD,List.getElem?_eq_getElem hi]; rfl
theorem parts_VR {ι:Emb} {D:List (List Tok)} {v:Value} (hv:VR ι (.flist D.length (frow (prow D)) 1) v):VR ι (.flist D.length (prowV D) 1) v:=by
 simp only [VR] at hv ⊢
 refine flist_imp (fun i hi l hl=>?_) hv
 have e:frow (prow D) i=[.list (D.getD i []).length (frow (crow (D.getD i []))) 3]:=by
  unfold frow; rw [prow_get D i hi]; rfl
 rw [e] at hl
 simp only [FVRL,prowV] at hl ⊢
 obtain ⟨x,xs,rfl,hx,rfl⟩:=hl
 refine ⟨x,_,rfl,flist_imp (fun j hj l hl=>?_) hx,rfl⟩
 unfold frow at hl ⊢
 rwa [crow_rows _ j hj] at hl
theorem Wk.setT {A:Amb} {B0 B:Heap} {ρ:List AV} {D:List Nat} {t:Nat} {a a2:AV} (ht:ρ[t]?=some a) (h:∀ (ι:Emb) (v:Value),VR ι a v→VR ι a2 v):Wk A B0 ⟨ρ,B,D⟩ ⟨ρ.set t a2,B,D⟩ :=
 Wk.vals fun ι _ hv=>set_VRL ι.le_refl ht (h ι) hv
def altB (sp:SP) (g1 g2:Blk):Blk:=fun ρ B =>
 match sp.take ρ B with
 | some _=>g1 ρ B
 | none=>g2 ρ B
def prD:Option PK→List (List Tok)
 | some (D,C,_)=>D++[C]
 | none=>[]
def prO:Option PK→RO
 | some (_,_,O)=>O
 | none=>none
def prM:RO→Nat
 | some (Q,_)=>Q.length
 | none=>0
def prR:RO→Nat→List UInt8
 | some (Q,_)=>rowO Q
 | none=>fun _=>[]
def T33 (K:Nat) (N:Nat) (r:Nat→List AV) (ty:Nat) (p:Option PK):Tr (AEx × SP × List Lf) :=
 .br p.isNone (.leaf (.ret,sp33r,[.i 3,.n N,.r r,.n ty])) (.br (prO p).isNone (.leaf (.normal,sp33e false,[.n K,.fr (prowV (prD p)),.n N,.r r,.n ty]))
  (.leaf (.normal,sp33e true,[.n K,.fr (prowV (prD p)),.n (lenO (prO p)),.n N,.r r,.n ty,.n (prM (prO p)),.r (fun i=>[.sstr (prR (prO p) i)])])))
def spI33 (lp:Bool):SP:=⟨[.drop,.str]++dr 5++[.list 9,.is nilS]++dr 37++[tokP lp,.int .i64,.int .i64]++dr 68,dd8++[.vecT 3,.tail 1 [.is nilS] 27]⟩
noncomputable def hook33 (lp:Bool):Blk:=hookP (spI33 lp) 10 [9] fun
 | [.s s,.n K,.n k,.i n,.i i,.n N,.r r,.n ty,.n D,.r d]=>.br (propB (K=1∧n=k∧i=0∧D=0∧d=(fun _=>[])∧isToks N r∧k≤N∧N≤4097))
   (T33 (prD (partsK s ((toksOf N r).take k) init33)).length N r ty (partsK s ((toksOf N r).take k) init33)) .fail
 | _=>.fail
noncomputable def pP33:Prims:=pP.addb 33 0 (altB (spI33 false) (hook33 false) (hook33 true))
theorem enter33 {A:Amb} (lp:Bool) (s:List UInt8) (L:List Tok) (k ty:Nat) {Bb:Heap} (hB:Bb.length=10) :
  Wk A Bb ⟨(spI33 lp).rho [.s s,.n 1,.n k,.i k,.i 0,.n L.length,.r (rowsT L),.n ty,.n 0,.r (fun _=>[])],(spI33 lp).heap [.s s,.n 1,.n k,.i k,.i 0,.n L.length,.r (rowsT L),.n ty,.n 0,.r (fun _=>[])],[9]⟩ (st33 lp s L k ty 0 init33):=by
 have h1:Wk A Bb ⟨(spI33 lp).rho [.s s,.n 1,.n k,.i k,.i 0,.n L.length,.r (rowsT L),.n ty,.n 0,.r (fun _=>[])],(spI33 lp).heap [.s s,.n 1,.n k,.i k,.i 0,.n L.length,.r (rowsT L),.n ty,.n 0,.r (fun _=>[])],[9]⟩
   ⟨((spI33 lp).rho [.s s,.n 1,.n k,.i k,.i 0,.n L.length,.r (rowsT L),.n ty,.n 0,.r (fun _=>[])]).set 7 (.sslice 10 0 1),((spI33 lp).heap [.s s,.n 1,.n k,.i k,.i 0,.n L.length,.r (rowsT L),.n ty,.n 0,.r (fun _=>[])]).set 9 .dead++[.tail 0 (fun _=>[]) 1 [nilS] 27],[9]⟩:=by
  refine Wk.mov (b:=9) (o:=.tail 0 (fun _=>[]) 1 [nilS] 27) (by cases lp <;> rfl) (by simp) fun ι ι2 hle hnew vs hv=>?_
  have hl:((spI33 lp).heap [.s s,.n 1,.n k,.i k,.i 0,.n L.length,.r (rowsT L),.n ty,.n 0,.r (fun _=>[])]).length=10:=by cases lp <;> rfl
  rw [hl] at hnew
  refine set_VRL hle (t:=7) (a:=.sslice 9 0 1) (by cases lp <;> rfl) (fun v hv=>?_) hv
  simp only [VR] at hv ⊢
  rw [hnew]; exact hv
 refine Wk.trans h1 ?_
 exact newRun_wk (t:=7) (es:=3) (ty:=52) (bs:=[10]) (by cases lp <;> rfl) fun b hb=>.inl (by rw [List.mem_singleton] at hb; omega)
theorem hook33_ok {A:Amb} (hT:Tab A) (hG:prog.globals.size≤A.G) (lp:Bool):∀ ρ B e' ρ' B' D,(hook33 lp ρ B).get=some (e',ρ',B',D)→AFr B B' D∧SEB prog A B (.block 0 (.loop body33)) ⟨ρ,B,[]⟩ e' ⟨ρ',B',D⟩:=by
 refine hookP_ok (by cases lp <;> rfl) fun ls e sq l h=>?_
 split at h
 ·rename_i s K k n i N r ty D d
  obtain ⟨hc,hv⟩:=Tr.br1 h
  clear h
  obtain ⟨rfl,rfl,rfl,rfl,rfl,⟨h7,h8⟩,h9,h10⟩:=propB_eq hc
  obtain ⟨L,hL⟩:∃ L,L=toksOf N r:=⟨_,rfl⟩
  have hn:N=L.length:=by rw [hL]; simp [toksOf]
  rw [← hL] at h7 h8 hv
  subst hn h7
  have key:=fun (Bb:Heap) (hB:Bb.length=10)=>(loop33 hT hG lp s L k ty h9 h10 hB).wk_in (enter33 lp s L k ty hB)
  have fr:∀ (sq:SP) (l:List Lf) (rest:Heap),sq.heap l=Bg 8++[.vec L.length (rowsT L) 3 ty,.dead]++rest→frP [9] 0 ((spI33 lp).heap [.s s,.n 1,.n k,.i k,.i 0,.n L.length,.r (rowsT L),.n ty,.n 0,.r (fun _=>[])]) (sq.heap l):=by
   intro sq l rest h
   rw [h]
   cases lp <;> exact ⟨.inr rfl,.inr rfl,.inr rfl,.inr rfl,.inr rfl,.inr rfl,.inr rfl,.inr rfl,.inr rfl,.inl rfl,trivial⟩
  cases hj:partsK s (L.take k) init33 with
  | none =>
   rw [hj] at hv
   simp only [T33,Option.isNone_none,Tr.get,Option.some.injEq,Prod.mk.injEq] at hv
   obtain ⟨rfl,rfl,rfl⟩:=hv
   refine ⟨fr _ _ [] rfl,fun Bb hB=>SEB.block_other (id:=0) ?_ (by simp)⟩
   have:=key Bb hB
   rw [hj] at this
   exact this
  | some y =>
   obtain ⟨D,C,O⟩:=y
   rw [hj] at hv
   have hw:∀ (Bb:Heap),Bb.length=10→SEB prog A Bb (.loop body33) ⟨(spI33 lp).rho [.s s,.n 1,.n k,.i k,.i 0,.n L.length,.r (rowsT L),.n ty,.n 0,.r (fun _=>[])],(spI33 lp).heap [.s s,.n 1,.n k,.i k,.i 0,.n L.length,.r (rowsT L),.n ty,.n 0,.r (fun _=>[])],[9]⟩ (.exit 0)
     ⟨(sp33e O.isSome).rho (lfe33 (D++[C]).length (prowV (D++[C])) L.length (rowsT L) ty (opL (opT O))),(sp33e O.isSome).heap (lfe33 (D++[C]).length (prowV (D++[C])) L.length (rowsT L) ty (opL (opT O))),[9]⟩:=by
    intro Bb hB
    have:=key Bb hB
    rw [hj] at this
    have e:D.length+1=(D++[C]).length:=by simp
    simp only [outP,e] at this
    have h2:=this.wk_out (Wk.setT (t:=7) (a:=.flist (D++[C]).length (frow (prow (D++[C]))) 1) (a2:=.flist (D++[C]).length (prowV (D++[C])) 1) (by cases O <;> rfl) fun ι v hv=>parts_VR hv)
    cases O <;> exact h2
   cases O with
   | none =>
    simp only [T33,prO,prD,Option.isNone_some,Option.isNone_none,Tr.get,Option.some.injEq,Prod.mk.injEq] at hv
    obtain ⟨rfl,rfl,rfl⟩:=hv
    exact ⟨fr _ _ [] rfl,fun Bb hB=>SEB.block_exit (id:=0) (hw Bb hB)⟩
   | some p =>
    obtain ⟨Q,q⟩:=p
    simp only [T33,prO,prD,Option.isNone_some,Tr.get,Option.some.injEq,Prod.mk.injEq] at hv
    obtain ⟨rfl,rfl,rfl⟩:=hv
    exact ⟨fr _ _ [.vec Q.length (fun i=>[.sstr (rowO Q i)]) 1 9] rfl,fun Bb hB=>SEB.block_exit (id:=0) (hw Bb hB)⟩
 ·cases h
theorem pP33_ok {A:Amb} (hT:Tab A) (hG:prog.globals.size≤A.G):PrimOK prog A pP33:=by
 refine (pP_ok hT hG).addb func33 (show f33.body=some code33 by kernel_rfl) (body:=.loop body33) (by kernel_rfl) fun ρ B e' ρ' B' D h=>?_
 unfold altB at h
 split at h
 ·exact hook33_ok hT hG false _ _ _ _ _ _ h
 ·exact hook33_ok hT hG true _ _ _ _ _ _ h
end Go.Proofs.Tryz
namespace Go.Proofs.Tryz
open Go.Ad
def spPt:SP:=⟨[.list 8,.str],dd8++[.vecT 3]⟩
def sqP:SP:=⟨[.flist 1,.int .i64],dd8++[.vecT 3]⟩
def sgnB (s:List UInt8):Bool:=decide (s.length=1) && (markB (bAt s 0) && !(s == [40] || s == [41] || s == [91] || s == [93]))
def cutE (L:List Tok):List Tok:=bif decide (0 < L.length) && (L.getD (L.length - 1) tok0).1 == 3 then L.take (L.length - 1) else L
def finR:Option PK→List (List Tok) × Int
 | some (D,C,O)=>bif decide (lenO O=0) then (D++[C],0) else ([],3)
 | none=>([],3)
def prtR (s:List UInt8) (L:List Tok):List (List Tok) × Int :=
 bif decide (L.length≤4097) then (bif sgnB s then finR (partsK s (cutE L) init33) else ([],1)) else ([],5)
section
variable (s:List UInt8) (n ty:Nat) (r:Nat→Tok)
def retE (e:Int):Option (List Lf):=some [.n 0,.fr (fun _=>[]),.i e,.n n,.r (fun i=>rowT (r i)),.n ty]
def okPt (D:List (List Tok)):Option (List Lf):=some [.n D.length,.fr (prowV D),.i 0,.n n,.r (fun i=>rowT (r i)),.n ty]
def fin33 (p:Option PK):Option (List Lf):=brK p.isNone (retE n ty r 3) (brK (prO p).isNone (okPt n ty r (prD p)) (brK (decide ((lenO (prO p):Int) > 0)) (retE n ty r 3) (okPt n ty r (prD p))))
noncomputable def tok33:Option (List Lf) :=
 brK (decide ((n:Int) > 0)) (brK (decide (0≤W ((n:Int) - 1)∧W ((n:Int) - 1) < (n:Int))) (brK (decide (0+(W ((n:Int) - 1)).toNat < n)) (brK ((r (0+(W ((n:Int) - 1)).toNat)).1 == 3)
  (brK (decide (0≤W ((n:Int) - 1)∧W ((n:Int) - 1)≤(n:Int)) && true && decide (0 < n))
   (brK (propB (1=1∧((W ((n:Int) - 1)).toNat:Int)=((W ((n:Int) - 1)).toNat:Int)∧(0:Int)=0∧0=0∧(fun _=>[]:Nat→List AV)=(fun _=>[])∧isToks n (fun i=>rowT (r i))∧(W ((n:Int) - 1)).toNat≤n∧n≤4097))
    (fin33 n ty r (partsK s ((toksOf n (fun i=>rowT (r i))).take (W ((n:Int) - 1)).toNat) init33)) none) none)
  (brK (propB (1=1∧(n:Int)=(n:Int)∧(0:Int)=0∧0=0∧(fun _=>[]:Nat→List AV)=(fun _=>[])∧isToks n (fun i=>rowT (r i))∧n≤n∧n≤4097))
    (fin33 n ty r (partsK s ((toksOf n (fun i=>rowT (r i))).take n) init33)) none)) none) none)
  (brK (propB (1=1∧(n:Int)=(n:Int)∧(0:Int)=0∧0=0∧(fun _=>[]:Nat→List AV)=(fun _=>[])∧isToks n (fun i=>rowT (r i))∧n≤n∧n≤4097))
    (fin33 n ty r (partsK s ((toksOf n (fun i=>rowT (r i))).take n) init33)) none)
noncomputable def treeP:Option (List Lf) :=
 brK (decide ((n:Int) > 4097)) (retE n ty r 5) (brK ((s.length:Int) != 1) (retE n ty r 1) (brK (decide ((0:Int)≤0∧(0:Int) < (s.length:Int))) (brK (clsI (bAt s 0) != 4) (retE n ty r 1)
  (brK ((s.length:Int) == 0) (retE n ty r 1) (brK (s == [40,41,91,93]) (retE n ty r 1) (brK ((s.length:Int) == 1) (brK (decide ((0:Int)≤0∧(0:Int) < (s.length:Int))) (brK (decide (Lib.indexByte [40,41,91,93] (byteOf (bAt s 0)) ≥ 0)) (retE n ty r 1) (tok33 s n ty r)) none)
   (brK (decide ((s.length:Int) ≥ 4)) (tok33 s n ty r) none))))) none))
theorem run33P:(runK prog pP33 60).call 33 (spPt.rho [.n n,.s s,.n n,.r (fun i=>rowT (r i)),.n ty]) (spPt.heap [.n n,.s s,.n n,.r (fun i=>rowT (r i)),.n ty]) (finQ sqP 9 [])=treeP s n ty r:=by kernel_rfl
end
theorem idx_par (c:UInt8):decide (Lib.indexByte [40,41,91,93] (byteOf (bAt [c] 0)) ≥ 0)=([c] == [40] || [c] == [41] || [c] == [91] || [c] == [93]):=by
 have e:byteOf (bAt [c] 0)=c:=by
  show Nat.toUInt8 (((c.toNat:Nat):Int)).toNat=c
  rw [Int.toNat_natCast]; exact UInt8.ofNat_toNat
 rw [e]
 simp only [Lib.indexByte]
 by_cases h1:(40:UInt8)=c
 ·subst h1; rfl
 by_cases h2:(41:UInt8)=c
 ·subst h2; rfl
 by_cases h3:(91:UInt8)=c
 ·subst h3; rfl
 by_cases h4:(93:UInt8)=c
 ·subst h4; rfl
 have g1:([c] == [40])=false:=by rw [beq_eq_false_iff_ne]; intro h; cases h; exact h1 rfl
 have g2:([c] == [41])=false:=by rw [beq_eq_false_iff_ne]; intro h; cases h; exact h2 rfl
 have g3:([c] == [91])=false:=by rw [beq_eq_false_iff_ne]; intro h; cases h; exact h3 rfl
 have g4:([c] == [93])=false:=by rw [beq_eq_false_iff_ne]; intro h; cases h; exact h4 rfl
 rw [g1,g2,g3,g4]
 simp [h1,h2,h3,h4]
def resP (L:List Tok) (ty:Nat) (p:List (List Tok) × Int):Option (List Lf):=bif p.2 == 0 then okPt L.length ty (fun i=>L.getD i tok0) p.1 else retE L.length ty (fun i=>L.getD i tok0) p.2
theorem finR_eq (L:List Tok) (ty:Nat) (p:Option PK):fin33 L.length ty (fun i=>L.getD i tok0) p=resP L ty (finR p):=by
 cases p with
 | none=>rfl
 | some y =>
  obtain ⟨D,C,O⟩:=y
  cases O with
  | none=>rfl
  | some p =>
   obtain ⟨Q,q⟩:=p
   show brK (decide ((q:Int) > 0)) _ _=resP L ty (bif decide (q=0) then (D++[C],0) else ([],3))
   by_cases h:q=0
   ·subst h; rfl
   ·rw [decide_eq_false h,decide_eq_true (show (q:Int) > 0 by omega)]; rfl
theorem partsR_err {s:List UInt8} {L:List Tok} (h:(prtR s L).2 ≠ 0):(prtR s L).1=[]:=by
 have key:∀ p:Option PK,(finR p).2 ≠ 0→(finR p).1=[]:=by
  intro p
  cases p with
  | none=>intro _; rfl
  | some y =>
   obtain ⟨D,C,O⟩:=y
   unfold finR
   simp only
   cases decide (lenO O=0) <;> simp
 unfold prtR at h ⊢
 cases h1:decide (L.length≤4097) with
 | false=>rfl
 | true =>
  rw [h1,cond_true] at h
  cases h2:sgnB s with
  | false=>rfl
  | true =>
   rw [h2,cond_true] at h
   exact key _ h
theorem tok33_eq {s:List UInt8} {L:List Tok} {ty:Nat} (hz:∀ t,t ∈ L→szOK t.2.1=true) (hL:L.length≤4097):tok33 s L.length ty (fun i=>L.getD i tok0)=resP L ty (finR (partsK s (cutE L) init33)):=by
 have h3:=isToks_rows hz
 have hL2:(toksOf L.length (fun i=>rowT (L.getD i tok0)))=L:=toksOf_rows L
 unfold tok33 cutE
 rw [hL2,finR_eq,finR_eq]
 have p1:propB (1=1∧(L.length:Int)=(L.length:Int)∧(0:Int)=0∧0=0∧(fun _=>[]:Nat→List AV)=(fun _=>[])∧isToks L.length (fun i=>rowT (L.getD i tok0))∧L.length≤L.length∧L.length≤4097)=true :=
  propB_true ⟨rfl,rfl,rfl,rfl,rfl,h3,Nat.le_refl _,hL⟩
 rw [p1,List.take_length]
 by_cases h0:L.length=0
 ·rw [decide_eq_false (show ¬ (L.length:Int) > 0 by omega),decide_eq_false (show ¬ 0 < L.length by omega)]; rfl
 ·have e1:W ((L.length:Int) - 1)=((L.length - 1:Nat):Int):=by rw [W,wrap64 (by omega) (by omega)]; omega
  rw [e1,Int.toNat_natCast,Nat.zero_add]
  have p2:propB (1=1∧((L.length - 1:Nat):Int)=((L.length - 1:Nat):Int)∧(0:Int)=0∧0=0∧(fun _=>[]:Nat→List AV)=(fun _=>[])∧isToks L.length (fun i=>rowT (L.getD i tok0))∧L.length - 1≤L.length∧L.length≤4097)=true :=
   propB_true ⟨rfl,rfl,rfl,rfl,rfl,h3,by omega,hL⟩
  rw [p2,decide_eq_true (show (L.length:Int) > 0 by omega),decide_eq_true (show 0≤((L.length - 1:Nat):Int)∧((L.length - 1:Nat):Int) < (L.length:Int) by omega),decide_eq_true (show L.length - 1 < L.length by omega),
   decide_eq_true (show 0≤((L.length - 1:Nat):Int)∧((L.length - 1:Nat):Int)≤(L.length:Int) by omega),decide_eq_true (show 0 < L.length by omega)]
  cases (L.getD (L.length - 1) tok0).1 == 3 <;> rfl
theorem treeP_eq {s:List UInt8} {L:List Tok} {ty:Nat} (hz:∀ t,t ∈ L→szOK t.2.1=true):treeP s L.length ty (fun i=>L.getD i tok0)=resP L ty (prtR s L):=by
 unfold treeP prtR
 by_cases hn:L.length≤4097
 ·rw [decide_eq_false (show ¬ (L.length:Int) > 4097 by omega),decide_eq_true hn,tok33_eq hz hn]
  by_cases hs:s.length=1
  ·obtain ⟨c,rfl⟩:∃ c,s=[c]:=by
    match s,hs with
    | [c],_=>exact ⟨c,rfl⟩
   obtain ⟨b0,b1⟩:=bAt_range [c] 0
   rw [idx_par,show (clsI (bAt [c] 0) != 4)=!markB (bAt [c] 0) by rw [bne,cls4 b0 b1],show ([c] == [40,41,91,93])=false by rw [beq_eq_false_iff_ne]; intro h; cases h]
   unfold sgnB
   cases markB (bAt [c] 0) <;> cases ([c] == [40] || [c] == [41] || [c] == [91] || [c] == [93]) <;> rfl
  ·rw [show ((s.length:Int) != 1)=true by rw [bne_iff_ne]; omega]
   unfold sgnB
   rw [decide_eq_false hs]; rfl
 ·rw [decide_eq_true (show (L.length:Int) > 4097 by omega),decide_eq_false hn]; rfl
noncomputable def TPa:List Lf→Tr (SP × List Lf)
 | [.n n,.s s,.n n',.r f,.n ty]=>.br (propB (n'=n∧isToks n f)) (.leaf (sqP,[.n (prtR s (toksOf n f)).1.length,.fr (prowV (prtR s (toksOf n f)).1),.i (prtR s (toksOf n f)).2,.n n,.r f,.n ty])) .fail
 | _=>.fail
theorem wkP {A:Amb} {Bb:Heap} (L:List Tok) (ty:Nat) (p:List (List Tok) × Int) (hp:p.2 ≠ 0→p.1=[]) {l0:List Lf} (h:resP L ty p=some l0) :
  Wk A Bb ⟨sqP.rho l0,sqP.heap l0,[]⟩ ⟨sqP.rho [.n p.1.length,.fr (prowV p.1),.i p.2,.n L.length,.r (rowsT L),.n ty],sqP.heap [.n p.1.length,.fr (prowV p.1),.i p.2,.n L.length,.r (rowsT L),.n ty],[]⟩:=by
 obtain ⟨D,e⟩:=p
 unfold resP at h
 cases he:e == 0 with
 | true =>
  simp only [he,cond_true] at h
  cases h
  have:e=0:=by simpa using he
  subst this
  exact Wk.refl
 | false =>
  simp only [he,cond_false] at h
  cases h
  have:D=[]:=hp (by simpa using he)
  subst this
  exact Wk.setT (t:=0) (a:=.flist 0 (fun _=>[]) 1) rfl fun ι v hv=>flist_congr (n:=0) (fun i hi=>(Nat.not_lt_zero i hi).elim) hv
noncomputable def pPa:Prims:=pP.addh 33 (liftG 8 (funQ spPt 9 [] TPa))
theorem frPa (ty n:Nat) (s:List UInt8) (f:Nat→List AV) (l:List Lf) (h:sqP.heap l=Bg 8++[.vec n f 3 ty]):frP [] 0 (spPt.heap [.n n,.s s,.n n,.r f,.n ty]) (sqP.heap l):=by
 rw [h]; exact ⟨.inr rfl,.inr rfl,.inr rfl,.inr rfl,.inr rfl,.inr rfl,.inr rfl,.inr rfl,.inr rfl,trivial⟩
theorem funPa {A:Amb} {f:FuncId} {T:List Lf→Tr (SP × List Lf)} (hTe:T=TPa) (hr:∀ (s:List UInt8) (L:List Tok) (ty:Nat),(∀ t,t ∈ L→szOK t.2.1=true)→∃ prims,PrimOK prog A prims ∧
   (runK prog prims 60).call f (spPt.rho [.n L.length,.s s,.n L.length,.r (rowsT L),.n ty]) (spPt.heap [.n L.length,.s s,.n L.length,.r (rowsT L),.n ty]) (finQ sqP 9 [])=resP L ty (prtR s L)) :
  ∀ args B v B' D,(funQ spPt 9 [] T args B).get=some (v,B',D)→AFr B B' D∧CallT prog A f args B v B' D:=by
 subst hTe
 refine funQ_ok hmix hnum rfl fun ls sq l h=>?_
 unfold TPa at h
 split at h
 ·rename_i n s n' f ty
  obtain ⟨hc,hv⟩:=Tr.br1 h
  obtain ⟨rfl,h2,h3⟩:=propB_eq hc
  cases hv
  obtain ⟨L,hL⟩:∃ L,L=toksOf n' f:=⟨_,rfl⟩
  have hn:n'=L.length:=by rw [hL]; simp [toksOf]
  rw [← hL] at h2 h3 ⊢
  subst hn h2
  obtain ⟨prims,h4,h5⟩:=hr s L ty h3
  obtain ⟨l0,hl0⟩:∃ l0,resP L ty (prtR s L)=some l0:=by
   unfold resP
   cases (prtR s L).2 == 0 <;> exact ⟨_,rfl⟩
  exact ⟨frPa _ _ _ _ _ rfl,rfl,prims,60,l0,h4,h5.trans hl0,fun Bb _=>wkP L ty _ partsR_err hl0⟩
 ·cases h
theorem pPa_ok {A:Amb} (hT:Tab A) (hG:prog.globals.size≤A.G):PrimOK prog A pPa :=
 (pP_ok hT hG).addl gsz func33 (by kernel_rfl) (funPa rfl fun s L ty hz=>⟨pP33,pP33_ok hT hG,(run33P s L.length ty fun i=>L.getD i tok0).trans (treeP_eq hz)⟩)
end Go.Proofs.Tryz
namespace Go.Proofs.Tryz
open Go.Ad
noncomputable def code36:Code:=f36.body.getD .skip
noncomputable def body36:Code:=unLoop (findB 0 code36)
def sp36 (lp:Bool):SP:=⟨[tokP lp,.str]++dr 4++[.list 10,.str,.int .i64]++dr 119,dd8++[.vecT 3,.dead,.tail 1 [.list 11] 27,.vec 3 52]⟩
def sp36e:SP:=⟨dr 6++[.flist 1,.str]++dr 120,dd8++[.vecT 3,.dead]⟩
def sp36r:SP:=⟨dr 4++[.is nilS,.int .i64]++dr 122,dd8++[.vecT 3,.dead]⟩
def sps36 (lp:Bool):AEx→List SP
 | .ret=>[sp36r]
 | .normal=>[sp36 lp]
 | .exit _=>[sp36e]
def lf36 (k:Nat) (s:List UInt8) (K:Nat) (o:List UInt8) (i:Int) (N:Nat) (r:Nat→List AV) (ty D:Nat) (d:Nat→List AV) (C:Nat) (c:Nat→List AV):List Lf:=[.n k,.s s,.n K,.s o,.i i,.n N,.r r,.n ty,.n D,.r d,.n C,.n C,.r c]
section
variable (s:List UInt8) (K k:Nat) (o:List UInt8) (i:Int) (N:Nat) (t:Tok) (r:Nat→List AV) (ty D:Nat) (d:Nat→List AV) (C:Nat) (c:Nat→List AV)
def goR (o':List UInt8):Option (AEx × Nat × List Lf):=appT K D C (some (.normal,0,lf36 k s K o' (W (i+1)) N r ty D d (C+1) (addRow C c (rowT t))))
def closeR (o':List UInt8):Option (AEx × Nat × List Lf) :=
 brK (decide (W ((o'.length:Int) - 1) < 0)) (ret33 N r ty) (brK (decide (0≤W ((o'.length:Int) - 1)∧W ((o'.length:Int) - 1) < (o'.length:Int))) (brK (!((((o'.getD (W ((o'.length:Int) - 1)).toNat 0).toNat:Int) == 40) == isS t [41])) (ret33 N r ty)
  (brK (decide (0≤W ((o'.length:Int) - 1)∧W ((o'.length:Int) - 1)≤(o'.length:Int)) && true) (goR s K k i N t r ty D d C c (o'.take (W ((o'.length:Int) - 1)).toNat)) none)) none)
def afterR (o':List UInt8):Option (AEx × Nat × List Lf) :=
 brK (isS t [41]) (closeR s K k i N t r ty D d C c o') (brK (isS t [93]) (closeR s K k i N t r ty D d C c o') (goR s K k i N t r ty D d C c o'))
def pushR:Option (AEx × Nat × List Lf):=brK (decide (o.length+t.2.1.length < 4611686018427387904)) (afterR s K k i N t r ty D d C c (o++t.2.1)) none
def restR:Option (AEx × Nat × List Lf):=brK (isS t [40]) (pushR s K k o i N t r ty D d C c) (brK (isS t [91]) (pushR s K k o i N t r ty D d C c) (afterR s K k i N t r ty D d C c o))
noncomputable def splitR:Option (AEx × Nat × List Lf) :=
 brK (decide (0 < K∧K+1 < 2147483648∧K*1=D*1+1)) (brK (propB (frzB C C c) && (true && true))
  (some (.normal,0,lf36 k s (K+1) o (W (i+1)) N r ty (D+1) (addF D d [.flist C (frow c) 3]) 0 (fun _=>[]))) none) none
noncomputable def tree36 (ix:Nat):Option (AEx × Nat × List Lf) :=
 brK (decide (i < (k:Int))) (brK (decide (0≤i∧i < (k:Int))) (brK (decide (ix < N)) (brK (isS t s) (brK (o == []) (splitR s K k o i N r ty D d C c) (restR s K k o i N t r ty D d C c)) (restR s K k o i N t r ty D d C c)) none) none)
  (brK (propB (frzB C C c) && (propB (frzB K (D+1) (addF D d [.flist C (frow c) 3])) && true)) (some (.exit 0,0,[.n K,.fr (frow (addF D d [.flist C (frow c) 3])),.s o,.n N,.r r,.n ty])) none)
end
section
variable (s:List UInt8) (K k:Nat) (o:List UInt8) (i:Int) (N:Nat) (r:Nat→Tok) (ty D:Nat) (d:Nat→List AV) (C:Nat) (c:Nat→List AV)
noncomputable def run36 (lp:Bool) (l:List Lf):Option (AEx × Nat × List Lf):=execK prog (runK prog pP 60) noBps body36 ((sp36 lp).rho l) ((sp36 lp).heap l) (nrmA (gs33 6) (sps36 lp) 10 [9])
theorem round36a:run36 false (lf36 k s K o i N (fun i=>rowT (r i)) ty D d C c)=tree36 s K k o i N (r (0+i.toNat)) (fun i=>rowT (r i)) ty D d C c (0+i.toNat):=by kernel_rfl
theorem round36b:run36 true (lf36 k s K o i N (fun i=>rowT (r i)) ty D d C c)=tree36 s K k o i N (r i.toNat) (fun i=>rowT (r i)) ty D d C c i.toNat:=by kernel_rfl
end
end Go.Proofs.Tryz
namespace Go.Proofs.Tryz
open Go.Ad
def clo (x:UInt8):List UInt8:=[bif x == 40 then 41 else 93]
abbrev PR:=List (List Tok) × List Tok × List UInt8
def stepR (s:List UInt8) (t:Tok) (x:PR):Option PR :=
 bif decide (x.2.2.length=0) && isS t s then some (x.1++[x.2.1],[],x.2.2)
 else bif isS t [40] then some (x.1,x.2.1++[t],x.2.2++[40])
 else bif isS t [91] then some (x.1,x.2.1++[t],x.2.2++[91])
 else bif isS t [41] || isS t [93] then (bif decide (x.2.2.length=0) then none else bif clo (x.2.2.getD (x.2.2.length - 1) 0) == t.2.1 then some (x.1,x.2.1++[t],x.2.2.take (x.2.2.length - 1)) else none)
 else some (x.1,x.2.1++[t],x.2.2)
def partsF (s:List UInt8):List Tok→PR→Option PR
 | [],x=>some x
 | t :: r,x=>match stepR s t x with
  | some y=>partsF s r y
  | none=>none
theorem isS_t {t:Tok} {s:List UInt8} (h:isS t s=true):t.2.1=s:=by
 simp only [isS,Bool.and_eq_true,beq_iff_eq] at h
 exact h.2
theorem isS_ne {t:Tok} {s u:List UInt8} (h:isS t s=true) (hn:s ≠ u):isS t u=false:=by
 unfold isS
 rw [isS_t h,show (s == u)=false by rw [beq_eq_false_iff_ne]; exact hn,Bool.and_false]
section
variable {s:List UInt8} {k i N ty:Nat} {t:Tok} {r:Nat→List AV} {D:List (List Tok)} {C:List Tok} {o:List UInt8}
def resR (s:List UInt8) (k i N:Nat) (r:Nat→List AV) (ty:Nat):Option PR→Option (AEx × Nat × List Lf)
 | none=>ret33 N r ty
 | some (D,C,o)=>some (.normal,0,lf36 k s (D.length+1) o ((i+1:Nat):Int) N r ty D.length (prow D) C.length (crow C))
theorem tree36_eq (hi:i < k) (hk:k≤N) (hN:N≤5000) (hD:D.length≤i) (hC:C.length≤i) (ho:o.length≤i) :
  tree36 s (D.length+1) k o i N t r ty D.length (prow D) C.length (crow C) i=resR s k i N r ty (stepR s t (D,C,o)):=by
 have e2:W ((i:Int)+1)=((i+1:Nat):Int):=by rw [W,wrap64 (by omega) (by omega)]; omega
 have hgo:∀ o',goR s (D.length+1) k i N t r ty D.length (prow D) C.length (crow C) o'=resR s k i N r ty (some (D,C++[t],o')):=by
  intro o'
  unfold goR
  rw [appT_eq (by omega) (by omega),crow_add,e2,show C.length+1=(C++[t]).length by simp]; rfl
 have hsp:splitR s (D.length+1) k o i N r ty D.length (prow D) C.length (crow C)=resR s k i N r ty (some (D++[C],[],o)):=by
  unfold splitR
  rw [decide_eq_true (show 0 < D.length+1∧D.length+1+1 < 2147483648∧(D.length+1)*1=D.length*1+1 from ⟨by omega,by omega,by omega⟩),propB_true (show _ from frz_crow C),e2]
  show some (AEx.normal,0,lf36 k s (D.length+1+1) o ((i+1:Nat):Int) N r ty (D.length+1) (addF D.length (prow D) [flT C]) 0 (fun _=>[]))=_
  rw [prow_add,show D.length+1=(D++[C]).length by simp]; rfl
 have hclose:(isS t [41] || isS t [93])=true→closeR s (D.length+1) k i N t r ty D.length (prow D) C.length (crow C) o =
   resR s k i N r ty (bif decide (o.length=0) then none else bif clo (o.getD (o.length - 1) 0) == t.2.1 then some (D,C++[t],o.take (o.length - 1)) else none):=by
  intro hb
  unfold closeR
  by_cases h0:o.length=0
  ·rw [h0,show W (((0:Nat):Int) - 1)=-1 by rw [W,wrap64 (by omega) (by omega)]; rfl]; rfl
  ·have e1:W ((o.length:Int) - 1)=((o.length - 1:Nat):Int):=by rw [W,wrap64 (by omega) (by omega)]; omega
   rw [e1,Int.toNat_natCast,decide_eq_false (show ¬ ((o.length - 1:Nat):Int) < 0 by omega),decide_eq_true (show 0≤((o.length - 1:Nat):Int)∧((o.length - 1:Nat):Int) < (o.length:Int) by omega),decide_eq_true (show 0≤((o.length - 1:Nat):Int)∧((o.length - 1:Nat):Int)≤(o.length:Int) by omega),
    hgo,decide_eq_false h0]
   have e3:((((o.getD (o.length - 1) 0).toNat:Int) == 40) == isS t [41])=(clo (o.getD (o.length - 1) 0) == t.2.1):=by
    generalize o.getD (o.length - 1) 0=x
    have e4:(((x.toNat:Nat):Int) == 40)=(x == 40):=by
     by_cases hx:x=40
     ·subst hx; rfl
     ·rw [show (x == 40)=false by rw [beq_eq_false_iff_ne]; exact hx,beq_eq_false_iff_ne]
      intro h
      apply hx
      apply UInt8.toNat_inj.1
      show x.toNat=40
      omega
    rw [e4]
    unfold clo
    cases h41:isS t [41] with
    | true =>
     rw [isS_t h41]
     cases x == 40 <;> rfl
    | false =>
     rw [h41,Bool.false_or] at hb
     rw [isS_t hb]
     cases x == 40 <;> rfl
   rw [e3]
   cases clo (o.getD (o.length - 1) 0) == t.2.1 <;> rfl
 have hrest:restR s (D.length+1) k o i N t r ty D.length (prow D) C.length (crow C)=resR s k i N r ty (bif isS t [40] then some (D,C++[t],o++[40])
   else bif isS t [91] then some (D,C++[t],o++[91])
   else bif isS t [41] || isS t [93] then (bif decide (o.length=0) then none else bif clo (o.getD (o.length - 1) 0) == t.2.1 then some (D,C++[t],o.take (o.length - 1)) else none)
   else some (D,C++[t],o)):=by
  have haft:isS t [41]=false→isS t [93]=false→∀ o',afterR s (D.length+1) k i N t r ty D.length (prow D) C.length (crow C) o'=resR s k i N r ty (some (D,C++[t],o')):=by
   intro h1 h2 o'
   unfold afterR
   rw [h1,h2,hgo]; rfl
  unfold restR pushR
  cases h1:isS t [40] with
  | true =>
   rw [haft (isS_ne h1 (by decide)) (isS_ne h1 (by decide)),isS_t h1,decide_eq_true (show o.length+([40]:List UInt8).length < 4611686018427387904 by simp; omega)]; rfl
  | false =>
   cases h2:isS t [91] with
   | true =>
    rw [haft (isS_ne h2 (by decide)) (isS_ne h2 (by decide)),isS_t h2,decide_eq_true (show o.length+([91]:List UInt8).length < 4611686018427387904 by simp; omega)]; rfl
   | false =>
    simp only [cond_false]
    show afterR s (D.length+1) k i N t r ty D.length (prow D) C.length (crow C) o=_
    unfold afterR
    cases h3:isS t [41] with
    | true=>rw [hclose (by rw [h3]; rfl)]; rfl
    | false =>
     cases h4:isS t [93] with
     | true=>rw [hclose (by rw [h4,Bool.or_true])]; rfl
     | false=>rw [hgo]; rfl
 unfold tree36
 rw [decide_eq_true (show (i:Int) < (k:Int) by omega),decide_eq_true (show 0≤(i:Int)∧(i:Int) < (k:Int) by omega),decide_eq_true (show i < N by omega),hsp,hrest]
 unfold stepR
 show brK (isS t s) (brK (o == []) _ _) _=resR s k i N r ty (bif decide (o.length=0) && isS t s then _ else _)
 cases o with
 | nil=>cases isS t s <;> rfl
 | cons a l=>cases isS t s <;> rfl
theorem tree36_end {g:Nat}:tree36 s (D.length+1) k o k N t r ty D.length (prow D) C.length (crow C) g=some (AEx.exit 0,0,([.n (D.length+1),.fr (frow (prow (D++[C]))),.s o,.n N,.r r,.n ty]:List Lf)):=by
 unfold tree36
 rw [decide_eq_false (show ¬ (k:Int) < (k:Int) by omega)]
 show brK (propB (frzB C.length C.length (crow C)) && (propB (frzB (D.length+1) (D.length+1) (addF D.length (prow D) [flT C])) && true)) (some (AEx.exit 0,0,([.n (D.length+1),.fr (frow (addF D.length (prow D) [flT C])),.s o,.n N,.r r,.n ty]:List Lf))) none=_
 rw [prow_add,propB_true (frz_crow C),propB_true (show frzB (D.length+1) (D.length+1) (prow (D++[C])) by have:=frz_prow (D++[C]); rwa [List.length_append,List.length_singleton] at this)]; rfl
theorem stepR_ok {D':List (List Tok)} {C':List Tok} {o':List UInt8} (h:stepR s t (D,C,o)=some (D',C',o')) (hD:D.length≤i) (hC:C.length≤i) (ho:o.length≤i) :
  D'.length≤i+1∧C'.length≤i+1∧o'.length≤i+1:=by
 unfold stepR at h
 simp only at h
 cases h1:decide (o.length=0) && isS t s with
 | true =>
  rw [h1] at h; cases h
  exact ⟨by simp; omega,by simp,by omega⟩
 | false =>
  rw [h1,cond_false] at h
  cases h2:isS t [40] with
  | true=>rw [h2] at h; cases h; exact ⟨by omega,by simp; omega,by simp; omega⟩
  | false =>
   rw [h2,cond_false] at h
   cases h3:isS t [91] with
   | true=>rw [h3] at h; cases h; exact ⟨by omega,by simp; omega,by simp; omega⟩
   | false =>
    rw [h3,cond_false] at h
    cases h4:isS t [41] || isS t [93] with
    | true =>
     rw [h4,cond_true] at h
     cases h5:decide (o.length=0) with
     | true=>rw [h5] at h; cases h
     | false =>
      rw [h5,cond_false] at h
      cases h6:clo (o.getD (o.length - 1) 0) == t.2.1 with
      | true=>rw [h6] at h; cases h; exact ⟨by omega,by simp; omega,by simp; omega⟩
      | false=>rw [h6] at h; cases h
    | false=>rw [h4] at h; cases h; exact ⟨by omega,by simp; omega,by omega⟩
end
section
variable (s:List UInt8) (K k:Nat) (o:List UInt8) (i:Int) (L:List Tok) (ty D:Nat) (d:Nat→List AV) (C:Nat) (c:Nat→List AV)
theorem round36 (lp:Bool):run36 lp (lf36 k s K o i L.length (rowsT L) ty D d C c)=tree36 s K k o i L.length (L.getD (ixT lp i) tok0) (rowsT L) ty D d C c (ixT lp i):=by
 cases lp
 ·exact round36a s K k o i L.length (fun i=>L.getD i tok0) ty D d C c
 ·exact round36b s K k o i L.length (fun i=>L.getD i tok0) ty D d C c
end
def lfSR (s:List UInt8) (L:List Tok) (k ty i:Nat) (x:PR):List Lf:=lf36 k s (x.1.length+1) x.2.2 i L.length (rowsT L) ty x.1.length (prow x.1) x.2.1.length (crow x.2.1)
def st36 (lp:Bool) (s:List UInt8) (L:List Tok) (k ty i:Nat) (x:PR):St:=⟨(sp36 lp).rho (lfSR s L k ty i x),(sp36 lp).heap (lfSR s L k ty i x),[9]⟩
def init36:PR:=([],[],[])
def outPR (L:List Tok) (ty:Nat):Option PR→AEx × St
 | none=>(.ret,⟨sp36r.rho [.i 3,.n L.length,.r (rowsT L),.n ty],sp36r.heap [.i 3,.n L.length,.r (rowsT L),.n ty],[9]⟩)
 | some (D,C,o)=>(.exit 0,⟨sp36e.rho [.n (D.length+1),.fr (frow (prow (D++[C]))),.s o,.n L.length,.r (rowsT L),.n ty],sp36e.heap [.n (D.length+1),.fr (frow (prow (D++[C]))),.s o,.n L.length,.r (rowsT L),.n ty],[9]⟩)
theorem loop36 {A:Amb} (hT:Tab A) (hG:prog.globals.size≤A.G) (lp:Bool) (s:List UInt8) (L:List Tok) (k ty:Nat) (hk:k≤L.length) (hL:L.length≤4097) {Bb:Heap} (hB:Bb.length=10) :
  SEB prog A Bb (.loop body36) (st36 lp s L k ty 0 init36) (outPR L ty (partsF s (L.take k) init36)).1 (outPR L ty (partsF s (L.take k) init36)).2:=by
 have hp:=pP_ok hT hG
 have hM:(L.take k).length=k:=by rw [List.length_take]; omega
 refine SEB.while (fun x:Nat × PR=>x.1≤k∧x.2.1.length≤x.1∧x.2.2.1.length≤x.1∧x.2.2.2.length≤x.1∧partsF s ((L.take k).drop x.1) x.2=partsF s (L.take k) init36) (fun x=>k - x.1) (fun x=>st36 lp s L k ty x.1 x.2)
  (fun _=>outPR L ty (partsF s (L.take k) init36)) (fun x hx=>?_) (0,init36) ⟨Nat.zero_le _,Nat.le_refl _,Nat.le_refl _,Nat.le_refl _,rfl⟩
 obtain ⟨i,D,C,o⟩:=x
 obtain ⟨h1,h2,h3,h4,h5⟩:=hx
 simp only at h1 h2 h3 h4 h5 ⊢
 have hix:ixT lp (i:Int)=i:=by cases lp <;> simp [ixT]
 have hkr:=round36 s (D.length+1) k o i L ty D.length (prow D) C.length (crow C) lp
 rw [hix] at hkr
 by_cases hi:i < k
 ·obtain ⟨t,M,hd,ht,hM2,_,_⟩:=drop_tok (L:=L.take k) (i:=i) (by omega)
  have hte:L.getD i tok0=t:=by
   rw [← ht,List.getD_eq_getElem?_getD,List.getD_eq_getElem?_getD,List.getElem?_take_of_lt hi]
  rw [hte,tree36_eq hi hk (by omega) h2 h3 h4] at hkr
  rw [hd] at h5
  simp only [partsF] at h5
  cases he:stepR s t (D,C,o) with
  | none =>
   right
   rw [he] at hkr h5
   rw [← h5]
   refine ⟨by simp [outPR],SEB.of_KA (k:=0) (e:=.ret) (gs:=gs33 6) (sps:=sps36 lp) (sp:=sp36r) hmix hnum hp (.none _) hB hkr rfl rfl⟩
  | some y =>
   left
   obtain ⟨D',C',o'⟩:=y
   rw [he] at hkr h5
   simp only at h5
   obtain ⟨q1,q2,q3⟩:=stepR_ok he h2 h3 h4
   refine ⟨(i+1,D',C',o'),⟨by simp only; omega,q1,q2,q3,?_⟩,by simp only; omega,trivial,?_⟩
   ·simp only; rw [hM2]; exact h5
   ·exact SEB.of_KA (k:=0) (e:=.normal) (gs:=gs33 6) (sps:=sps36 lp) (sp:=sp36 lp) hmix hnum hp (.none _) hB hkr rfl (by cases lp <;> rfl)
 ·right
  have e:i=k:=by omega
  subst e
  rw [tree36_end] at hkr
  rw [List.drop_eq_nil_of_le (by omega)] at h5
  simp only [partsF] at h5
  rw [← h5]
  exact ⟨by simp [outPR],SEB.of_KA (k:=0) (e:=.exit 0) (gs:=gs33 6) (sps:=sps36 lp) (sp:=sp36e) hmix hnum hp (.none _) hB hkr rfl rfl⟩
end Go.Proofs.Tryz
