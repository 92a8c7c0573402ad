/- The lexer's program: is a token a sign? -/
import Derived.Test.YtfjgehlpjppggaaGreatDoorScanT
import Derived.Test.YtfjgehlpjppggaaGreatDoorAdPat
noncomputable section
namespace Go.Proofs.Tryz
open Go.Ad
def isS (t:Tok) (s:List UInt8):Bool:=t.1 == 2 && t.2.1 == s
theorem H1b {f:FuncId} (h:f=82 \/ f=85) (k:Int) (t s:List UInt8):(C8 prog pS 60).call f [.agg [.sint .i64 k,.sstr t,.bad],.sstr s] (Bg 8) I4=brK (k == 2) (some (.sbool (t == s))) (some (.bool false)):=by
 rcases h with rfl | rfl <;> kernel_rfl
def gIs:List AV->Tr AV
 | [.agg [k,t,_],s]=>match J5 k,sstr? t,sstr? s with
  | some (.i64,k),some t,some s=>.leaf (.sbool (k == 2 && t == s))
  | _,_,_=>.fail
 | _=>.fail
def pP:Prims:=(pS.addt 82 gIs).addt 85 gIs
theorem C0p {A:Amb} (hT:Tab A) (hG:prog.globals.size<=A.G):PrimOK prog A pP:=by
 have h0:=G6m hT hG
 have key:∀ f:FuncId,(f=82 \/ f=85)->∀ args v,(gIs args).get=some v->∃ prims0 args' v' B',PrimOK prog A prims0/\(∀ (ι:Emb) (xs:List Value),VRL ι args xs->VRL ι args' xs)/\(∀ (ι:Emb) (x:Value),VR ι v' x->VR ι v x)/\J8 0 args'=true/\below 0 v'=true /\
    Ca prog prims0 f args' (Bg prog.globals.size) (v',B',[]):=by
  intro f hr args v h
  unfold gIs at h
  split at h
  ·rename_i k0 t0 a0 s0
   split at h
   ·rename_i k t s hk ht hs
    cases h
    have q1:=H1b hr k t s
    have q:∃ v',(C8 prog pS 60).call f [.agg [.sint .i64 k,.sstr t,.bad],.sstr s] (Bg 8) I4=some v'/\below 0 v'=true/\∀ ι x,VR ι v' x->VR ι (.sbool (k == 2 && t == s)) x:=by
     rw [q1]
     cases k == 2 with
     | true=>exact ⟨_,rfl,rfl,fun ι x h=>h⟩
     | false=>exact ⟨_,rfl,rfl,fun ι=>A0e rfl⟩
    obtain ⟨v',q1,q2,q3⟩:=q
    rw [<- gsz] at q1
    obtain ⟨B',hca⟩:=Ca.of_finV q1
    refine ⟨pS,_,v',B',h0,fun ι xs hx=>?_,fun ι x=>q3 ι x,rfl,q2,hca⟩
    simp only [VRL,VR] at hx ⊢
    obtain ⟨x,xs1,rfl,⟨ys,rfl,y0,r0,e0,w0,y1,r1,e1,w1,y2,r2,e2,w2,w3⟩,z,zs,rfl,hz,rfl⟩:=hx
    exact ⟨_,_,rfl,⟨ys,rfl,y0,r0,e0,H9 hk w0,y1,r1,e1,M7 ht w1,y2,r2,e2,trivial,w3⟩,z,_,rfl,M7 hs hz,rfl⟩
   ·cases h
  ·cases h
 exact PrimOK.addt3 D5 D6 (PrimOK.addt3 D5 D6 h0 hG func82 (by kernel_rfl) (key 82 (.inl rfl))) hG func85 (by kernel_rfl) (key 85 (.inr rfl))
end Go.Proofs.Tryz
namespace Go.Proofs.Tryz
open Go.Ad
def F1j:Code:=f33.body.getD .skip
def C0r:Code:=I7 (J7 0 F1j)
def C2f:AV:=.slice none 0 0
def F6v:Bool->Pt
 | true=>.row 8
 | false=>.list 8
def opP (b:Nat):Bool->Pt
 | true=>.row b
 | false=>.is C2f
def opH:Bool->List OP
 | true=>[.vec1 1 9]
 | false=>[]
def D6d (lp op:Bool):SP:=⟨[.drop,.str]++dr 5++[.list 10,opP 12 op]++dr 37++[F6v lp,.int .i64,.int .i64]++dr 68,dd8++[.vecT 3,.dead,.tail 1 [.list 11] 27,.vec 3 52]++opH op⟩
def B3y (op:Bool):SP:=⟨dr 7++[.flist 1,opP 10 op]++dr 108,dd8++[.vecT 3,.dead]++opH op⟩
def sp33r:SP:=⟨dr 4++[.is C2f,.int .i64]++dr 111,dd8++[.vecT 3,.dead]⟩
def C9g (t:Tmp):AEx->List Gs
 | .ret=>[]
 | .normal=>[.abs1 t,.new t 3 52]
 | .exit _=>[.abs t,.frz t]
def E0k (lp:Bool):AEx->List SP
 | .ret=>[sp33r]
 | .normal=>[D6d lp false,D6d lp true]
 | .exit _=>[B3y false,B3y true]
def lf33 (s:List UInt8) (K k:Nat) (n i:Int) (N:Nat) (r:Nat->List AV) (ty D:Nat) (d:Nat->List AV) (C:Nat) (c:Nat->List AV):Option (Nat × Nat × (Nat->List AV))->List Lf
 | none=>[.s s,.n K,.n k,.i n,.i i,.n N,.r r,.n ty,.n D,.r d,.n C,.n C,.r c]
 | some (q,m,o)=>[.s s,.n K,.n q,.n k,.i n,.i i,.n N,.r r,.n ty,.n D,.r d,.n C,.n C,.r c,.n m,.r o]
section
variable (s:List UInt8) (K k:Nat) (n i:Int) (N:Nat) (t:Tok) (r:Nat->List AV) (ty D:Nat) (d:Nat->List AV) (C:Nat) (c:Nat->List AV)
def C2i (X:Option (AEx × Nat × List Lf)):Option (AEx × Nat × List Lf) :=
 brK (decide (0<=W ((K:Int) - 1)/\W ((K:Int) - 1) < (K:Int))) (brK (decide (0+(W ((K:Int) - 1)).toNat=D)) (brK (decide (C+1 < 2147483648/\C=C))
  (brK (decide (0<=W ((K:Int) - 1)/\W ((K:Int) - 1) < (K:Int))) (brK (decide (0+(W ((K:Int) - 1)).toNat=D)) X none) none) none) none) none
def B8m:Option (AEx × Nat × List Lf):=some (.ret,0,[.i 3,.n N,.r r,.n ty])
def B0h (b:Nat) (op:Option (Nat × Nat × (Nat->List AV))):Option (AEx × Nat × List Lf) :=
 brK (decide (0 < K/\K+1 < 2147483648/\K*1=D*1+1)) (brK (A9 (A7m C C c) && (true && true))
  (some (.normal,b,lf33 s (K+1) k n (W (i+1)) N r ty (D+1) (A2j D d [.flist C (J3 c) 3]) 0 (fun _=>[]) op)) none) none
def D7v (x:UInt8):Option (Nat × Nat × (Nat->List UInt8))->Option (AEx × Nat × List Lf)
 | none=>C2i K D C (some (.normal,1,lf33 s K k n (W (i+1)) N r ty D d (C+1) (addRow C c (I1 t)) (some (1,1,fun _=>[.sstr [x]]))))
 | some (q,m,o)=>brK (decide (q+1 < 2147483648/\q<=m)) (C2i K D C (some (.normal,1,lf33 s K k n (W (i+1)) N r ty D d (C+1) (addRow C c (I1 t)) (some (q+1,q+1,fun r=>A5x (decide (r < q)) [.sstr (o r)] [.str [x]]))))) none
def C5i:Option (Nat × Nat × (Nat->List UInt8))->Option (AEx × Nat × List Lf)
 | none=>B8m N r ty
 | some (q,m,o)=>brK ((q:Int) == 0) (B8m N r ty) (brK (decide (0<=W ((q:Int) - 1)/\W ((q:Int) - 1) < (q:Int))) (brK (decide ((W ((q:Int) - 1)).toNat < m)) (brK (!(o (W ((q:Int) - 1)).toNat == t.2.1)) (B8m N r ty)
   (brK (decide (0<=W ((q:Int) - 1)/\W ((q:Int) - 1)<=(q:Int)) && true)
    (C2i K D C (some (.normal,1,lf33 s K k n (W (i+1)) N r ty D d (C+1) (addRow C c (I1 t)) (some ((W ((q:Int) - 1)).toNat,m,fun i=>[.sstr (o i)]))))) none)) none) none)
def opL:Option (Nat × Nat × (Nat->List UInt8))->Option (Nat × Nat × (Nat->List AV))
 | none=>none
 | some (q,m,o)=>some (q,m,fun i=>[.sstr (o i)])
def opN:Option (Nat × Nat × (Nat->List UInt8))->Nat
 | none=>0
 | some _=>1
def A9a (op:Option (Nat × Nat × (Nat->List UInt8))):Option (AEx × Nat × List Lf) :=
 brK (isS t [40]) (D7v s K k n i N t r ty D d C c 41 op) (brK (isS t [91]) (D7v s K k n i N t r ty D d C c 93 op) (brK (isS t [41]) (C5i s K k n i N t r ty D d C c op) (brK (isS t [93]) (C5i s K k n i N t r ty D d C c op)
  (C2i K D C (some (.normal,opN op,lf33 s K k n (W (i+1)) N r ty D d (C+1) (addRow C c (I1 t)) (opL op)))))))
def F0v:Option (Nat × Nat × (Nat->List UInt8))->Option (AEx × Nat × List Lf)
 | none=>brK (isS t s) (B0h s K k n i N r ty D d C c 0 none) (A9a s K k n i N t r ty D d C c none)
 | some (q,m,o)=>brK ((q:Int) == 0) (brK (isS t s) (B0h s K k n i N r ty D d C c 1 (some (q,m,fun i=>[.sstr (o i)]))) (A9a s K k n i N t r ty D d C c (some (q,m,o)))) (A9a s K k n i N t r ty D d C c (some (q,m,o)))
def B9o (K:Nat) (g:Nat->List FV) (N:Nat) (r:Nat->List AV) (ty:Nat):Option (Nat × Nat × (Nat->List AV))->List Lf
 | none=>[.n K,.fr g,.n N,.r r,.n ty]
 | some (q,m,o)=>[.n K,.fr g,.n q,.n N,.r r,.n ty,.n m,.r o]
def A7b (ix:Nat) (op:Option (Nat × Nat × (Nat->List UInt8))):Option (AEx × Nat × List Lf) :=
 brK (decide (i < n)) (brK (decide (0<=i/\i < (k:Int))) (brK (decide (ix < N)) (F0v s K k n i N t r ty D d C c op) none) none)
  (brK (A9 (A7m C C c) && (A9 (A7m K (D+1) (A2j D d [.flist C (J3 c) 3])) && true)) (some (.exit 0,opN op,B9o K (J3 (A2j D d [.flist C (J3 c) 3])) N r ty (opL op))) none)
end
def ixT (lp:Bool) (i:Int):Nat:=bif lp then i.toNat else 0+i.toNat
section
variable (s:List UInt8) (K k:Nat) (n i:Int) (N:Nat) (r:Nat->Tok) (ty D:Nat) (d:Nat->List AV) (C:Nat) (c:Nat->List AV)
def D2x (lp op:Bool) (l:List Lf):Option (AEx × Nat × List Lf):=E9 prog (C8 prog pP 60) F7 C0r ((D6d lp op).rho l) ((D6d lp op).heap l) (F7d (C9g 7) (E0k lp) 10 [9])
theorem F3e:D2x false false (lf33 s K k n i N (fun i=>I1 (r i)) ty D d C c none)=A7b s K k n i N (r (0+i.toNat)) (fun i=>I1 (r i)) ty D d C c (0+i.toNat) none:=by kernel_rfl
theorem F3m:D2x true false (lf33 s K k n i N (fun i=>I1 (r i)) ty D d C c none)=A7b s K k n i N (r i.toNat) (fun i=>I1 (r i)) ty D d C c i.toNat none:=by kernel_rfl
theorem F3k (q m:Nat) (o:Nat->List UInt8):D2x false true (lf33 s K k n i N (fun i=>I1 (r i)) ty D d C c (some (q,m,fun i=>[.sstr (o i)])))=A7b s K k n i N (r (0+i.toNat)) (fun i=>I1 (r i)) ty D d C c (0+i.toNat) (some (q,m,o)):=by kernel_rfl
theorem F0z (q m:Nat) (o:Nat->List UInt8):D2x true true (lf33 s K k n i N (fun i=>I1 (r i)) ty D d C c (some (q,m,fun i=>[.sstr (o i)])))=A7b s K k n i N (r i.toNat) (fun i=>I1 (r i)) ty D d C c i.toNat (some (q,m,o)):=by kernel_rfl
end
end Go.Proofs.Tryz
namespace Go.Proofs.Tryz
open Go.Ad
abbrev RO:=Option (List UInt8 × Nat)
def A6t:RO->Nat
 | none=>0
 | some (_,q)=>q
def B8q (Q:List UInt8) (i:Nat):List UInt8:=[Q.getD i (Q.getLastD 0)]
def E4m:RO->List UInt8
 | none=>[]
 | some (Q,q)=>B8q Q (q - 1)
def D3h:RO->RO
 | none=>none
 | some (Q,q)=>some (Q,q - 1)
def A5k (x:UInt8):RO->RO
 | none=>some ([x],1)
 | some (Q,q)=>some (Q.take q++[x],q+1)
abbrev PK:=List (List Tok) × List Tok × RO
def A8x (s:List UInt8) (t:Tok) (x:PK):Option PK :=
 bif decide (A6t x.2.2=0) && isS t s then some (x.1++[x.2.1],[],x.2.2)
 else bif isS t [40] then some (x.1,x.2.1++[t],A5k 41 x.2.2)
 else bif isS t [91] then some (x.1,x.2.1++[t],A5k 93 x.2.2)
 else bif isS t [41] || isS t [93] then (bif decide (A6t x.2.2=0) then none else bif E4m x.2.2 == t.2.1 then some (x.1,x.2.1++[t],D3h x.2.2) else none)
 else some (x.1,x.2.1++[t],x.2.2)
def P8 (s:List UInt8):List Tok->PK->Option PK
 | [],x=>some x
 | t :: r,x=>match A8x s t x with
  | some y=>P8 s r y
  | none=>none
def okO (i:Nat):RO->Prop
 | none=>True
 | some (Q,q)=>q<=Q.length/\q<=i
def opT:RO->Option (Nat × Nat × (Nat->List UInt8))
 | none=>none
 | some (Q,q)=>some (q,Q.length,B8q Q)
def A0t:List Tok->Nat->List AV
 | []=>fun _=>[]
 | a :: l=>fun i=>I1 ((a :: l).getD i ((a :: l).getLastD I9))
def flT (C:List Tok):AV:=.flist C.length (J3 (A0t C)) 3
def Q8 (D:List (List Tok)):Nat->List AV:=(D.foldl (fun p C=>(p.1+1,A2j p.1 p.2 [flT C])) ((0,fun _=>[]):Nat × (Nat->List AV))).2
theorem D0a {R:Type} (L:List R) (x d:R) (i:Nat):(L++[x]).getD i ((L++[x]).getLastD d)=bif decide (i < L.length) then L.getD i (L.getLastD d) else x:=by
 rw [List.getLastD_concat]
 by_cases h:i < L.length
 ·rw [dT h,cond_true,List.getD_eq_getElem?_getD,List.getD_eq_getElem?_getD,List.getElem?_append_left h,List.getElem?_eq_getElem h]; rfl
 ·rw [dF h,cond_false,List.getD_eq_getElem?_getD,List.getElem?_append_right (by omega)]
  cases i - L.length <;> simp
theorem F7t (b:Bool) (x t:Tok):A5x b (I1 x) (I1 t)=I1 (bif b then x else t):=by
 cases b <;> rfl
theorem A9l (C:List Tok) (t:Tok):addRow C.length (A0t C) (I1 t)=A0t (C++[t]):=by
 funext i
 cases C with
 | nil =>
  show A5x (decide (i < 0)) [] (I1 t)=I1 ([t].getD i t)
  rw [dF (by omega)]
  cases i <;> rfl
 | cons a l =>
  show A5x (decide (i < (a :: l).length)) (I1 ((a :: l).getD i ((a :: l).getLastD I9))) (I1 t)=I1 (((a :: l)++[t]).getD i (((a :: l)++[t]).getLastD I9))
  rw [F7t,D0a]
theorem F2y (x:UInt8):B8q [x]=fun _=>[x]:=by
 funext i
 cases i <;> rfl
theorem F0i {Q:List UInt8} {q:Nat} (hq:q<=Q.length) (x:UInt8):(fun r=>A5x (decide (r < q)) [.sstr (B8q Q r)] [.str [x]])=fun r=>[.sstr (B8q (Q.take q++[x]) r)]:=by
 funext r
 have hl:(Q.take q).length=q:=by rw [List.length_take]; omega
 unfold B8q
 rw [D0a,hl]
 by_cases h:r < q
 ·rw [dT h,cond_true]
  have:Q.getD r (Q.getLastD 0)=(Q.take q).getD r ((Q.take q).getLastD 0):=by
   rw [List.getD_eq_getElem?_getD,List.getD_eq_getElem?_getD,List.getElem?_take_of_lt h,List.getElem?_eq_getElem (by omega)]; rfl
  rw [this]; rfl
 ·rw [dF h]; rfl
theorem A8a (D:List (List Tok)) (C:List Tok):A2j D.length (Q8 D) [flT C]=Q8 (D++[C]):=by
 have h:∀ (D:List (List Tok)) (p:Nat × (Nat->List AV)),(D.foldl (fun p C=>(p.1+1,A2j p.1 p.2 [flT C])) p).1=p.1+D.length:=by
  intro D
  induction D with
  | nil=>intro p; rfl
  | cons a l ih=>intro p; rw [List.foldl_cons,ih,List.length_cons]; simp only; omega
 unfold Q8
 rw [List.foldl_append]
 simp only [List.foldl_cons,List.foldl_nil]
 rw [h]
 simp
theorem D1v (D:List (List Tok)):∀ i,i < D.length->Q8 D i=[flT (D.getD i [])]:=by
 suffices h:∀ R:List (List Tok),∀ i,i < R.reverse.length->Q8 R.reverse i=[flT (R.reverse.getD i [])] by
  have:=h D.reverse
  rwa [List.reverse_reverse] at this
 intro R
 induction R with
 | nil=>intro i hi; simp at hi
 | cons a l ih =>
  intro i hi
  rw [List.reverse_cons] at hi ⊢
  rw [<- A8a]
  unfold A2j
  by_cases h:i < l.reverse.length
  ·rw [dT h,cond_true,ih i h,List.getD_eq_getElem?_getD,List.getD_eq_getElem?_getD,List.getElem?_append_left h]
  ·have e:i=l.reverse.length:=by rw [List.length_append,List.length_singleton] at hi; omega
   rw [dF h,cond_false,e,List.getD_eq_getElem?_getD,List.getElem?_append_right (Nat.le_refl _),Nat.sub_self]; rfl
theorem B3z (C:List Tok):A7m C.length C.length (A0t C):=by
 refine ⟨Nat.le_refl _,fun i hi=>?_⟩
 cases C with
 | nil=>simp at hi
 | cons a l=>rfl
theorem D2s (D:List (List Tok)):A7m D.length D.length (Q8 D):=⟨Nat.le_refl _,fun i hi=>by rw [D1v D i hi]; rfl⟩
section
variable {s:List UInt8} {k i N ty:Nat} {t:Tok} {r:Nat->List AV} {D:List (List Tok)} {C:List Tok}
theorem D9h {X:Option (AEx × Nat × List Lf)} (hD:D.length<=5000) (hC:C.length<=5000):C2i (D.length+1) D.length C.length X=X:=by
 unfold C2i
 have e1:W (((D.length+1:Nat):Int) - 1)=(D.length:Int):=by rw [W,wrap64 (by omega) (by omega)]; omega
 rw [e1,Int.toNat_natCast,dT (show 0<=(D.length:Int)/\(D.length:Int) < ((D.length+1:Nat):Int) by omega),dT (show 0+D.length=D.length by omega),dT (show C.length+1 < 2147483648/\C.length=C.length from ⟨by omega,rfl⟩)]; rfl
def D1j (s:List UInt8) (k i N:Nat) (r:Nat->List AV) (ty:Nat):Option PK->Option (AEx × Nat × List Lf)
 | none=>B8m N r ty
 | some (D,C,O)=>some (.normal,opN (opT O),lf33 s (D.length+1) k k ((i+1:Nat):Int) N r ty D.length (Q8 D) C.length (A0t C) (opL (opT O)))
theorem E3i {O:RO} (hi:i < k) (hk:k<=N) (hN:N<=5000) (hD:D.length<=i) (hC:C.length<=i) (hO:okO i O) :
  A7b s (D.length+1) k k i N t r ty D.length (Q8 D) C.length (A0t C) i (opT O)=D1j s k i N r ty (A8x s t (D,C,O)):=by
 have e2:W ((i:Int)+1)=((i+1:Nat):Int):=by rw [W,wrap64 (by omega) (by omega)]; omega
 have hap:∀ X:Option (AEx × Nat × List Lf),C2i (D.length+1) D.length C.length X=X:=fun X=>D9h (by omega) (by omega)
 have hsp:∀ (b:Nat) op,B0h s (D.length+1) k k i N r ty D.length (Q8 D) C.length (A0t C) b op =
   some (.normal,b,lf33 s ((D++[C]).length+1) k k ((i+1:Nat):Int) N r ty (D++[C]).length (Q8 (D++[C])) ([]:List Tok).length (A0t []) op):=by
  intro b op
  unfold B0h
  rw [dT (show 0 < D.length+1/\D.length+1+1 < 2147483648/\(D.length+1)*1=D.length*1+1 from ⟨by omega,by omega,by omega⟩),A8 (show _ from B3z C),e2]
  show some (AEx.normal,b,lf33 s (D.length+1+1) k k ((i+1:Nat):Int) N r ty (D.length+1) (A2j D.length (Q8 D) [flT C]) 0 (fun _=>[]) op)=_
  rw [A8a,List.length_append]; rfl
 have hpush:∀ x,D7v s (D.length+1) k k i N t r ty D.length (Q8 D) C.length (A0t C) x (opT O)=D1j s k i N r ty (some (D,C++[t],A5k x O)):=by
  intro x
  cases O with
  | none =>
   show C2i _ _ _ _=_
   rw [hap,A9l,e2]
   simp only [D1j,A5k,opT,opN,opL,F2y,List.length_append,List.length_singleton]
  | some p =>
   obtain ⟨Q,q⟩:=p
   obtain ⟨h1,h2⟩:=hO
   show brK (decide (q+1 < 2147483648/\q<=Q.length)) (C2i _ _ _ _) none=_
   rw [hap,A9l,e2,dT (show q+1 < 2147483648/\q<=Q.length from ⟨by omega,h1⟩),F0i h1]
   have e:(Q.take q++[x]).length=q+1:=by rw [List.length_append,List.length_take,List.length_singleton]; omega
   simp only [D1j,A5k,opT,opN,opL,e,List.length_append,List.length_singleton]; rfl
 have hclose:C5i s (D.length+1) k k i N t r ty D.length (Q8 D) C.length (A0t C) (opT O) =
   D1j s k i N r ty (bif decide (A6t O=0) then none else bif E4m O == t.2.1 then some (D,C++[t],D3h O) else none):=by
  cases O with
  | none=>rfl
  | some p =>
   obtain ⟨Q,q⟩:=p
   obtain ⟨h1,h2⟩:=hO
   show brK ((q:Int) == 0) _ _=_
   by_cases h0:q=0
   ·subst h0; rfl
   ·have e0:((q:Int) == 0)=false:=by rw [beq_eq_false_iff_ne]; omega
    have e1:W ((q:Int) - 1)=((q - 1:Nat):Int):=by rw [W,wrap64 (by omega) (by omega)]; omega
    rw [e0,e1,Int.toNat_natCast,dT (show 0<=((q - 1:Nat):Int)/\((q - 1:Nat):Int) < (q:Int) by omega),dT (show q - 1 < Q.length by omega),dT (show 0<=((q - 1:Nat):Int)/\((q - 1:Nat):Int)<=(q:Int) by omega),
     hap,A9l,e2,show A6t (some (Q,q))=q from rfl,dF h0]
    show brK (!(B8q Q (q - 1) == t.2.1)) _ _=D1j s k i N r ty (bif B8q Q (q - 1) == t.2.1 then _ else _)
    cases B8q Q (q - 1) == t.2.1 with
    | true=>rw [show C.length+1=(C++[t]).length by simp]; rfl
    | false=>rfl
 have hrest:A9a s (D.length+1) k k i N t r ty D.length (Q8 D) C.length (A0t C) (opT O)=D1j s k i N r ty (bif isS t [40] then some (D,C++[t],A5k 41 O)
   else bif isS t [91] then some (D,C++[t],A5k 93 O)
   else bif isS t [41] || isS t [93] then (bif decide (A6t O=0) then none else bif E4m O == t.2.1 then some (D,C++[t],D3h O) else none)
   else some (D,C++[t],O)):=by
  unfold A9a
  rw [hpush,hpush,hclose,hap,A9l,e2]
  cases isS t [40]
  ·cases isS t [91]
   ·cases isS t [41]
    ·cases isS t [93]
     ·rw [show C.length+1=(C++[t]).length by simp]; rfl
     ·rfl
    ·rfl
   ·rfl
  ·rfl
 unfold A7b
 rw [dT (show (i:Int) < (k:Int) by omega),dT (show 0<=(i:Int)/\(i:Int) < (k:Int) by omega),dT (show i < N by omega)]
 show F0v s (D.length+1) k k i N t r ty D.length (Q8 D) C.length (A0t C) (opT O)=_
 unfold A8x
 cases O with
 | none =>
  show brK (isS t s) (B0h s _ k k i N r ty _ _ _ _ 0 none) (A9a s _ k k i N t r ty _ _ _ _ (opT none))=_
  rw [hsp,hrest]
  cases isS t s <;> rfl
 | some p =>
  obtain ⟨Q,q⟩:=p
  show brK ((q:Int) == 0) (brK (isS t s) (B0h s _ k k i N r ty _ _ _ _ 1 (opL (opT (some (Q,q))))) (A9a s _ k k i N t r ty _ _ _ _ (opT (some (Q,q))))) (A9a s _ k k i N t r ty _ _ _ _ (opT (some (Q,q))))=_
  rw [hsp,hrest]
  by_cases h0:q=0
  ·subst h0
   cases isS t s <;> rfl
  ·have e0:((q:Int) == 0)=false:=by rw [beq_eq_false_iff_ne]; omega
   rw [e0]
   show _=D1j s k i N r ty (bif decide (q=0) && isS t s then _ else _)
   rw [dF h0]; rfl
theorem D3f {O:RO} {g:Nat}:A7b s (D.length+1) k k k N t r ty D.length (Q8 D) C.length (A0t C) g (opT O)=some (AEx.exit 0,opN (opT O),B9o (D.length+1) (J3 (Q8 (D++[C]))) N r ty (opL (opT O))):=by
 unfold A7b
 rw [dF (show ¬ (k:Int) < (k:Int) by omega)]
 show brK (A9 (A7m C.length C.length (A0t C)) && (A9 (A7m (D.length+1) (D.length+1) (A2j D.length (Q8 D) [flT C])) && true)) (some (AEx.exit 0,opN (opT O),B9o (D.length+1) (J3 (A2j D.length (Q8 D) [flT C])) N r ty (opL (opT O)))) none=_
 rw [A8a,A8 (B3z C),A8 (show A7m (D.length+1) (D.length+1) (Q8 (D++[C])) by have:=D2s (D++[C]); rwa [List.length_append,List.length_singleton] at this)]; rfl
end
end Go.Proofs.Tryz
namespace Go.Proofs.Tryz
open Go.Ad
theorem F0r {s:List UInt8} {t:Tok} {D D':List (List Tok)} {C C':List Tok} {O O':RO} {i:Nat} (h:A8x s t (D,C,O)=some (D',C',O')) (hD:D.length<=i) (hC:C.length<=i) (hO:okO i O) :
  D'.length<=i+1/\C'.length<=i+1/\okO (i+1) O':=by
 have hO1:okO (i+1) O:=by
  cases O with
  | none=>trivial
  | some p=>exact ⟨hO.1,by have:=hO.2; omega⟩
 have hpush:∀ x,okO (i+1) (A5k x O):=fun x=>by
  cases O with
  | none=>exact ⟨by simp,by omega⟩
  | some p=>exact ⟨by have:=hO.1; simp; omega,by have:=hO.2; omega⟩
 have hpop:okO (i+1) (D3h O):=by
  cases O with
  | none=>trivial
  | some p =>
   obtain ⟨Q,q⟩:=p
   obtain ⟨h1,h2⟩:=hO
   exact ⟨by omega,by omega⟩
 unfold A8x at h
 simp only at h
 cases h1:decide (A6t O=0) && isS t s with
 | true =>
  rw [h1] at h; cases h
  exact ⟨by simp; omega,by simp,hO1⟩
 | false =>
  rw [h1,cond_false] at h
  cases h2:isS t [40] with
  | true=>rw [h2] at h; cases h; exact ⟨by omega,by simp; omega,hpush _⟩
  | false =>
   rw [h2,cond_false] at h
   cases h3:isS t [91] with
   | true=>rw [h3] at h; cases h; exact ⟨by omega,by simp; omega,hpush _⟩
   | false =>
    rw [h3,cond_false] at h
    cases h4:isS t [41] || isS t [93] with
    | true =>
     rw [h4,cond_true] at h
     cases h5:decide (A6t O=0) with
     | true=>rw [h5] at h; cases h
     | false =>
      rw [h5,cond_false] at h
      cases h6:E4m O == t.2.1 with
      | true=>rw [h6] at h; cases h; exact ⟨by omega,by simp; omega,hpop⟩
      | false=>rw [h6] at h; cases h
    | false=>rw [h4] at h; cases h; exact ⟨by omega,by simp; omega,hO1⟩
section
variable (s:List UInt8) (K k:Nat) (n i:Int) (L:List Tok) (ty D:Nat) (d:Nat->List AV) (C:Nat) (c:Nat->List AV)
theorem F5m (lp:Bool) (O:RO):D2x lp O.isSome (lf33 s K k n i L.length (F5 L) ty D d C c (opL (opT O))) =
  A7b s K k n i L.length (L.getD (ixT lp i) I9) (F5 L) ty D d C c (ixT lp i) (opT O):=by
 cases lp <;> cases O
 ·exact F3e s K k n i L.length (fun i=>L.getD i I9) ty D d C c
 ·exact F3k s K k n i L.length (fun i=>L.getD i I9) ty D d C c _ _ _
 ·exact F3m s K k n i L.length (fun i=>L.getD i I9) ty D d C c
 ·exact F0z s K k n i L.length (fun i=>L.getD i I9) ty D d C c _ _ _
end
def G8l (s:List UInt8) (L:List Tok) (k ty i:Nat) (x:PK):List Lf:=lf33 s (x.1.length+1) k k i L.length (F5 L) ty x.1.length (Q8 x.1) x.2.1.length (A0t x.2.1) (opL (opT x.2.2))
def G5l (lp:Bool) (s:List UInt8) (L:List Tok) (k ty i:Nat) (x:PK):St:=⟨(D6d lp x.2.2.isSome).rho (G8l s L k ty i x),(D6d lp x.2.2.isSome).heap (G8l s L k ty i x),[9]⟩
def U7:PK:=([],[],none)
def E2l (L:List Tok) (ty:Nat):Option PK->AEx × St
 | none=>(.ret,⟨sp33r.rho [.i 3,.n L.length,.r (F5 L),.n ty],sp33r.heap [.i 3,.n L.length,.r (F5 L),.n ty],[9]⟩)
 | some (D,C,O)=>(.exit 0,⟨(B3y O.isSome).rho (B9o (D.length+1) (J3 (Q8 (D++[C]))) L.length (F5 L) ty (opL (opT O))),(B3y O.isSome).heap (B9o (D.length+1) (J3 (Q8 (D++[C]))) L.length (F5 L) ty (opL (opT O))),[9]⟩)
theorem G2o {A:Amb} (hT:Tab A) (hG:prog.globals.size<=A.G) (lp:Bool) (s:List UInt8) (L:List Tok) (k ty:Nat) (hk:k<=L.length) (hL:L.length<=4097) {Bb:Heap} (hB:Bb.length=10) :
  SEB prog A Bb (.loop C0r) (G5l lp s L k ty 0 U7) (E2l L ty (P8 s (L.take k) U7)).1 (E2l L ty (P8 s (L.take k) U7)).2:=by
 have hp:=C0p hT hG
 have hM:(L.take k).length=k:=by rw [List.length_take]; omega
 refine SEB.while (fun x:Nat × PK=>x.1<=k/\x.2.1.length<=x.1/\x.2.2.1.length<=x.1/\okO x.1 x.2.2.2/\P8 s ((L.take k).drop x.1) x.2=P8 s (L.take k) U7) (fun x=>k - x.1) (fun x=>G5l lp s L k ty x.1 x.2)
  (fun _=>E2l L ty (P8 s (L.take k) U7)) (fun x hx=>?_) (0,U7) ⟨Nat.zero_le _,Nat.le_refl _,Nat.le_refl _,trivial,rfl⟩
 obtain ⟨i,D,C,O⟩:=x
 obtain ⟨h1,h2,h3,h4,h5⟩:=hx
 simp only at h1 h2 h3 h4 h5 ⊢
 have hix:ixT lp (i:Int)=i:=by cases lp <;> simp [ixT]
 have hkr:=F5m s (D.length+1) k k i L ty D.length (Q8 D) C.length (A0t C) lp O
 rw [hix] at hkr
 by_cases hi:i < k
 ·obtain ⟨t,M,hd,ht,hM2,_,_⟩:=B3x (L:=L.take k) (i:=i) (by omega)
  have hte:L.getD i I9=t:=by
   rw [<- ht,List.getD_eq_getElem?_getD,List.getD_eq_getElem?_getD,List.getElem?_take_of_lt hi]
  rw [hte,E3i hi hk (by omega) h2 h3 h4] at hkr
  rw [hd] at h5
  simp only [P8] at h5
  cases he:A8x s t (D,C,O) with
  | none =>
   right
   rw [he] at hkr h5
   rw [<- h5]
   refine ⟨by simp [E2l],SEB.of_KA (k:=0) (e:=.ret) (gs:=C9g 7) (sps:=E0k lp) (sp:=sp33r) D5 D6 hp (.none _) hB hkr rfl rfl⟩
  | some y =>
   left
   obtain ⟨D',C',O'⟩:=y
   rw [he] at hkr h5
   simp only at h5
   obtain ⟨q1,q2,q3⟩:=F0r he h2 h3 h4
   refine ⟨(i+1,D',C',O'),⟨by simp only; omega,q1,q2,q3,?_⟩,by simp only; omega,trivial,?_⟩
   ·simp only; rw [hM2]; exact h5
   ·have:=SEB.of_KA (k:=opN (opT O')) (e:=.normal) (gs:=C9g 7) (sps:=E0k lp) (sp:=D6d lp O'.isSome) D5 D6 hp (.none _) hB hkr (by cases O' <;> rfl) (by cases lp <;> cases O' <;> rfl)
    exact this
 ·right
  have e:i=k:=by omega
  subst e
  rw [D3f] at hkr
  rw [List.drop_eq_nil_of_le (by omega)] at h5
  simp only [P8] at h5
  rw [<- h5]
  refine ⟨by simp [E2l],?_⟩
  have:=SEB.of_KA (k:=opN (opT O)) (e:=.exit 0) (gs:=C9g 7) (sps:=E0k lp) (sp:=B3y O.isSome) D5 D6 hp (.none _) hB hkr (by cases O <;> rfl) (by cases O <;> rfl)
  exact this
end Go.Proofs.Tryz
namespace Go.Proofs.Tryz
open Go.Ad
def N9 (D:List (List Tok)):Nat->List FV:=fun i=>[.list (D.getD i []).length (J3 (F5 (D.getD i []))) 3]
theorem C4u {φ:Nat->Option (List Value)} {n es:Nat} {g g':Nat->List FV} {v:Value} (h:∀ i,i < n->∀ l,FVRL φ (g i) l->FVRL φ (g' i) l) (hv:FVR φ (.list n g es) v):FVR φ (.list n g' es) v:=by
 simp only [FVR] at hv ⊢
 rcases hv with hv | ⟨h0,c,off,cap,cs,h1,h2,h3,h4,h5⟩
 ·exact .inl hv
 ·exact .inr ⟨h0,c,off,cap,cs,h1,h2,h3,h4,fun i hi=>h i hi _ (h5 i hi)⟩
theorem E3j (C:List Tok):∀ i,i < C.length->A0t C i=F5 C i:=by
 intro i hi
 cases C with
 | nil=>simp at hi
 | cons a l =>
  show I1 ((a :: l).getD i _)=I1 ((a :: l).getD i I9)
  rw [List.getD_eq_getElem?_getD,List.getD_eq_getElem?_getD,List.getElem?_eq_getElem hi]; rfl
theorem D2k {ι:Emb} {D:List (List Tok)} {v:Value} (hv:VR ι (.flist D.length (J3 (Q8 D)) 1) v):VR ι (.flist D.length (N9 D) 1) v:=by
 simp only [VR] at hv ⊢
 refine C4u (fun i hi l hl=>?_) hv
 have e:J3 (Q8 D) i=[.list (D.getD i []).length (J3 (A0t (D.getD i []))) 3]:=by
  unfold J3; rw [D1v D i hi]; rfl
 rw [e] at hl
 simp only [FVRL,N9] at hl ⊢
 obtain ⟨x,xs,rfl,hx,rfl⟩:=hl
 refine ⟨x,_,rfl,C4u (fun j hj l hl=>?_) hx,rfl⟩
 unfold J3 at hl ⊢
 rwa [E3j _ j hj] at hl
theorem Wk.setT {A:Amb} {B0 B:Heap} {ρ:List AV} {D:List Nat} {t:Nat} {a a2:AV} (ht:ρ[t]?=some a) (h:∀ (ι:Emb) (v:Value),VR ι a v->VR ι a2 v):Wk A B0 ⟨ρ,B,D⟩ ⟨ρ.set t a2,B,D⟩ :=
 Wk.vals fun ι _ hv=>B7g ι.le_refl ht (h ι) hv
def F6z (sp:SP) (g1 g2:Blk):Blk:=fun ρ B =>
 match sp.take ρ B with
 | some _=>g1 ρ B
 | none=>g2 ρ B
def prD:Option PK->List (List Tok)
 | some (D,C,_)=>D++[C]
 | none=>[]
def prO:Option PK->RO
 | some (_,_,O)=>O
 | none=>none
def prM:RO->Nat
 | some (Q,_)=>Q.length
 | none=>0
def prR:RO->Nat->List UInt8
 | some (Q,_)=>B8q Q
 | none=>fun _=>[]
def T33 (K:Nat) (N:Nat) (r:Nat->List AV) (ty:Nat) (p:Option PK):Tr (AEx × SP × List Lf) :=
 .br p.isNone (.leaf (.ret,sp33r,[.i 3,.n N,.r r,.n ty])) (.br (prO p).isNone (.leaf (.normal,B3y false,[.n K,.fr (N9 (prD p)),.n N,.r r,.n ty]))
  (.leaf (.normal,B3y true,[.n K,.fr (N9 (prD p)),.n (A6t (prO p)),.n N,.r r,.n ty,.n (prM (prO p)),.r (fun i=>[.sstr (prR (prO p) i)])])))
def A7e (lp:Bool):SP:=⟨[.drop,.str]++dr 5++[.list 9,.is C2f]++dr 37++[F6v lp,.int .i64,.int .i64]++dr 68,dd8++[.vecT 3,.tail 1 [.is C2f] 27]⟩
def D5e (lp:Bool):Blk:=hookP (A7e lp) 10 [9] fun
 | [.s s,.n K,.n k,.i n,.i i,.n N,.r r,.n ty,.n D,.r d]=>.br (A9 (K=1/\n=k/\i=0/\D=0/\d=(fun _=>[])/\U2 N r/\k<=N/\N<=4097))
   (T33 (prD (P8 s ((J9 N r).take k) U7)).length N r ty (P8 s ((J9 N r).take k) U7)) .fail
 | _=>.fail
def F2s:Prims:=pP.addb 33 0 (F6z (A7e false) (D5e false) (D5e true))
theorem F5y {A:Amb} (lp:Bool) (s:List UInt8) (L:List Tok) (k ty:Nat) {Bb:Heap} (hB:Bb.length=10) :
  Wk A Bb ⟨(A7e lp).rho [.s s,.n 1,.n k,.i k,.i 0,.n L.length,.r (F5 L),.n ty,.n 0,.r (fun _=>[])],(A7e lp).heap [.s s,.n 1,.n k,.i k,.i 0,.n L.length,.r (F5 L),.n ty,.n 0,.r (fun _=>[])],[9]⟩ (G5l lp s L k ty 0 U7):=by
 have h1:Wk A Bb ⟨(A7e lp).rho [.s s,.n 1,.n k,.i k,.i 0,.n L.length,.r (F5 L),.n ty,.n 0,.r (fun _=>[])],(A7e lp).heap [.s s,.n 1,.n k,.i k,.i 0,.n L.length,.r (F5 L),.n ty,.n 0,.r (fun _=>[])],[9]⟩
   ⟨((A7e lp).rho [.s s,.n 1,.n k,.i k,.i 0,.n L.length,.r (F5 L),.n ty,.n 0,.r (fun _=>[])]).set 7 (.sslice 10 0 1),((A7e lp).heap [.s s,.n 1,.n k,.i k,.i 0,.n L.length,.r (F5 L),.n ty,.n 0,.r (fun _=>[])]).set 9 .dead++[.tail 0 (fun _=>[]) 1 [C2f] 27],[9]⟩:=by
  refine Wk.mov (b:=9) (o:=.tail 0 (fun _=>[]) 1 [C2f] 27) (by cases lp <;> rfl) (by simp) fun ι ι2 hle hnew vs hv=>?_
  have hl:((A7e lp).heap [.s s,.n 1,.n k,.i k,.i 0,.n L.length,.r (F5 L),.n ty,.n 0,.r (fun _=>[])]).length=10:=by cases lp <;> rfl
  rw [hl] at hnew
  refine B7g hle (t:=7) (a:=.sslice 9 0 1) (by cases lp <;> rfl) (fun v hv=>?_) hv
  simp only [VR] at hv ⊢
  rw [hnew]; exact hv
 refine Wk.trans h1 ?_
 exact B4s (t:=7) (es:=3) (ty:=52) (bs:=[10]) (by cases lp <;> rfl) fun b hb=>.inl (by rw [List.mem_singleton] at hb; omega)
theorem C4b {A:Amb} (hT:Tab A) (hG:prog.globals.size<=A.G) (lp:Bool):∀ ρ B e' ρ' B' D,(D5e lp ρ B).get=some (e',ρ',B',D)->AFr B B' D/\SEB prog A B (.block 0 (.loop C0r)) ⟨ρ,B,[]⟩ e' ⟨ρ',B',D⟩:=by
 refine M8 (by cases lp <;> rfl) fun ls e sq l h=>?_
 split at h
 ·rename_i s K k n i N r ty D d
  obtain ⟨hc,hv⟩:=Tr.br1 h
  clear h
  obtain ⟨rfl,rfl,rfl,rfl,rfl,⟨h7,h8⟩,h9,h10⟩:=D7 hc
  obtain ⟨L,hL⟩:∃ L,L=J9 N r:=⟨_,rfl⟩
  have hn:N=L.length:=by rw [hL]; simp [J9]
  rw [<- hL] at h7 h8 hv
  subst hn h7
  have key:=fun (Bb:Heap) (hB:Bb.length=10)=>(G2o hT hG lp s L k ty h9 h10 hB).wk_in (F5y lp s L k ty hB)
  have fr:∀ (sq:SP) (l:List Lf) (rest:Heap),sq.heap l=Bg 8++[.vec L.length (F5 L) 3 ty,.dead]++rest->frP [9] 0 ((A7e lp).heap [.s s,.n 1,.n k,.i k,.i 0,.n L.length,.r (F5 L),.n ty,.n 0,.r (fun _=>[])]) (sq.heap l):=by
   intro sq l rest h
   rw [h]
   cases lp <;> exact ⟨.inr rfl,.inr rfl,.inr rfl,.inr rfl,.inr rfl,.inr rfl,.inr rfl,.inr rfl,.inr rfl,.inl rfl,trivial⟩
  cases hj:P8 s (L.take k) U7 with
  | none =>
   rw [hj] at hv
   simp only [T33,Option.isNone_none,Tr.get,sI,pI] at hv
   obtain ⟨rfl,rfl,rfl⟩:=hv
   refine ⟨fr _ _ [] rfl,fun Bb hB=>SEB.block_other (id:=0) ?_ (by simp)⟩
   have:=key Bb hB
   rw [hj] at this
   exact this
  | some y =>
   obtain ⟨D,C,O⟩:=y
   rw [hj] at hv
   have hw:∀ (Bb:Heap),Bb.length=10->SEB prog A Bb (.loop C0r) ⟨(A7e lp).rho [.s s,.n 1,.n k,.i k,.i 0,.n L.length,.r (F5 L),.n ty,.n 0,.r (fun _=>[])],(A7e lp).heap [.s s,.n 1,.n k,.i k,.i 0,.n L.length,.r (F5 L),.n ty,.n 0,.r (fun _=>[])],[9]⟩ (.exit 0)
     ⟨(B3y O.isSome).rho (B9o (D++[C]).length (N9 (D++[C])) L.length (F5 L) ty (opL (opT O))),(B3y O.isSome).heap (B9o (D++[C]).length (N9 (D++[C])) L.length (F5 L) ty (opL (opT O))),[9]⟩:=by
    intro Bb hB
    have:=key Bb hB
    rw [hj] at this
    have e:D.length+1=(D++[C]).length:=by simp
    simp only [E2l,e] at this
    have h2:=this.wk_out (Wk.setT (t:=7) (a:=.flist (D++[C]).length (J3 (Q8 (D++[C]))) 1) (a2:=.flist (D++[C]).length (N9 (D++[C])) 1) (by cases O <;> rfl) fun ι v hv=>D2k hv)
    cases O <;> exact h2
   cases O with
   | none =>
    simp only [T33,prO,prD,Option.isNone_some,Option.isNone_none,Tr.get,sI,pI] at hv
    obtain ⟨rfl,rfl,rfl⟩:=hv
    exact ⟨fr _ _ [] rfl,fun Bb hB=>SEB.block_exit (id:=0) (hw Bb hB)⟩
   | some p =>
    obtain ⟨Q,q⟩:=p
    simp only [T33,prO,prD,Option.isNone_some,Tr.get,sI,pI] at hv
    obtain ⟨rfl,rfl,rfl⟩:=hv
    exact ⟨fr _ _ [.vec Q.length (fun i=>[.sstr (B8q Q i)]) 1 9] rfl,fun Bb hB=>SEB.block_exit (id:=0) (hw Bb hB)⟩
 ·cases h
theorem D8c {A:Amb} (hT:Tab A) (hG:prog.globals.size<=A.G):PrimOK prog A F2s:=by
 refine (C0p hT hG).addb func33 (show f33.body=some F1j by kernel_rfl) (body:=.loop C0r) (by kernel_rfl) fun ρ B e' ρ' B' D h=>?_
 unfold F6z at h
 split at h
 ·exact C4b hT hG false _ _ _ _ _ _ h
 ·exact C4b hT hG true _ _ _ _ _ _ h
end Go.Proofs.Tryz
namespace Go.Proofs.Tryz
open Go.Ad
def spPt:SP:=⟨[.list 8,.str],dd8++[.vecT 3]⟩
def sqP:SP:=⟨[.flist 1,.int .i64],dd8++[.vecT 3]⟩
def D5j (s:List UInt8):Bool:=decide (s.length=1) && (A2g (bAt s 0) && !(s == [40] || s == [41] || s == [91] || s == [93]))
def D2b (L:List Tok):List Tok:=bif decide (0 < L.length) && (L.getD (L.length - 1) I9).1 == 3 then L.take (L.length - 1) else L
def C2g:Option PK->List (List Tok) × Int
 | some (D,C,O)=>bif decide (A6t O=0) then (D++[C],0) else ([],3)
 | none=>([],3)
def A2n (s:List UInt8) (L:List Tok):List (List Tok) × Int :=
 bif decide (L.length<=4097) then (bif D5j s then C2g (P8 s (D2b L) U7) else ([],1)) else ([],5)
section
variable (s:List UInt8) (n ty:Nat) (r:Nat->Tok)
def A7o (e:Int):Option (List Lf):=some [.n 0,.fr (fun _=>[]),.i e,.n n,.r (fun i=>I1 (r i)),.n ty]
def F5a (D:List (List Tok)):Option (List Lf):=some [.n D.length,.fr (N9 D),.i 0,.n n,.r (fun i=>I1 (r i)),.n ty]
def E0d (p:Option PK):Option (List Lf):=brK p.isNone (A7o n ty r 3) (brK (prO p).isNone (F5a n ty r (prD p)) (brK (decide ((A6t (prO p):Int) > 0)) (A7o n ty r 3) (F5a n ty r (prD p))))
def E0g:Option (List Lf) :=
 brK (decide ((n:Int) > 0)) (brK (decide (0<=W ((n:Int) - 1)/\W ((n:Int) - 1) < (n:Int))) (brK (decide (0+(W ((n:Int) - 1)).toNat < n)) (brK ((r (0+(W ((n:Int) - 1)).toNat)).1 == 3)
  (brK (decide (0<=W ((n:Int) - 1)/\W ((n:Int) - 1)<=(n:Int)) && true && decide (0 < n))
   (brK (A9 (1=1/\((W ((n:Int) - 1)).toNat:Int)=((W ((n:Int) - 1)).toNat:Int)/\(0:Int)=0/\0=0/\(fun _=>[]:Nat->List AV)=(fun _=>[])/\U2 n (fun i=>I1 (r i))/\(W ((n:Int) - 1)).toNat<=n/\n<=4097))
    (E0d n ty r (P8 s ((J9 n (fun i=>I1 (r i))).take (W ((n:Int) - 1)).toNat) U7)) none) none)
  (brK (A9 (1=1/\(n:Int)=(n:Int)/\(0:Int)=0/\0=0/\(fun _=>[]:Nat->List AV)=(fun _=>[])/\U2 n (fun i=>I1 (r i))/\n<=n/\n<=4097))
    (E0d n ty r (P8 s ((J9 n (fun i=>I1 (r i))).take n) U7)) none)) none) none)
  (brK (A9 (1=1/\(n:Int)=(n:Int)/\(0:Int)=0/\0=0/\(fun _=>[]:Nat->List AV)=(fun _=>[])/\U2 n (fun i=>I1 (r i))/\n<=n/\n<=4097))
    (E0d n ty r (P8 s ((J9 n (fun i=>I1 (r i))).take n) U7)) none)
def E1m:Option (List Lf) :=
 brK (decide ((n:Int) > 4097)) (A7o n ty r 5) (brK ((s.length:Int) != 1) (A7o n ty r 1) (brK (decide ((0:Int)<=0/\(0:Int) < (s.length:Int))) (brK (A0u (bAt s 0) != 4) (A7o n ty r 1)
  (brK ((s.length:Int) == 0) (A7o n ty r 1) (brK (s == [40,41,91,93]) (A7o n ty r 1) (brK ((s.length:Int) == 1) (brK (decide ((0:Int)<=0/\(0:Int) < (s.length:Int))) (brK (decide (Lib.indexByte [40,41,91,93] (byteOf (bAt s 0)) >= 0)) (A7o n ty r 1) (E0g s n ty r)) none)
   (brK (decide ((s.length:Int) >= 4)) (E0g s n ty r) none))))) none))
theorem G0w:(C8 prog F2s 60).call 33 (spPt.rho [.n n,.s s,.n n,.r (fun i=>I1 (r i)),.n ty]) (spPt.heap [.n n,.s s,.n n,.r (fun i=>I1 (r i)),.n ty]) (O8 sqP 9 [])=E1m s n ty r:=by kernel_rfl
end
theorem F4q (c:UInt8):decide (Lib.indexByte [40,41,91,93] (byteOf (bAt [c] 0)) >= 0)=([c] == [40] || [c] == [41] || [c] == [91] || [c] == [93]):=by
 have e:byteOf (bAt [c] 0)=c:=by
  show Nat.toUInt8 (((c.toNat:Nat):Int)).toNat=c
  rw [Int.toNat_natCast]; exact UInt8.ofNat_toNat
 rw [e]
 simp only [Lib.indexByte]
 by_cases h1:(40:UInt8)=c
 ·subst h1; rfl
 by_cases h2:(41:UInt8)=c
 ·subst h2; rfl
 by_cases h3:(91:UInt8)=c
 ·subst h3; rfl
 by_cases h4:(93:UInt8)=c
 ·subst h4; rfl
 have g1:([c] == [40])=false:=by rw [beq_eq_false_iff_ne]; intro h; cases h; exact h1 rfl
 have g2:([c] == [41])=false:=by rw [beq_eq_false_iff_ne]; intro h; cases h; exact h2 rfl
 have g3:([c] == [91])=false:=by rw [beq_eq_false_iff_ne]; intro h; cases h; exact h3 rfl
 have g4:([c] == [93])=false:=by rw [beq_eq_false_iff_ne]; intro h; cases h; exact h4 rfl
 rw [g1,g2,g3,g4]
 simp [h1,h2,h3,h4]
def B1o (L:List Tok) (ty:Nat) (p:List (List Tok) × Int):Option (List Lf):=bif p.2 == 0 then F5a L.length ty (fun i=>L.getD i I9) p.1 else A7o L.length ty (fun i=>L.getD i I9) p.2
theorem D8l (L:List Tok) (ty:Nat) (p:Option PK):E0d L.length ty (fun i=>L.getD i I9) p=B1o L ty (C2g p):=by
 cases p with
 | none=>rfl
 | some y =>
  obtain ⟨D,C,O⟩:=y
  cases O with
  | none=>rfl
  | some p =>
   obtain ⟨Q,q⟩:=p
   show brK (decide ((q:Int) > 0)) _ _=B1o L ty (bif decide (q=0) then (D++[C],0) else ([],3))
   by_cases h:q=0
   ·subst h; rfl
   ·rw [dF h,dT (show (q:Int) > 0 by omega)]; rfl
theorem B9i {s:List UInt8} {L:List Tok} (h:(A2n s L).2 ≠ 0):(A2n s L).1=[]:=by
 have key:∀ p:Option PK,(C2g p).2 ≠ 0->(C2g p).1=[]:=by
  intro p
  cases p with
  | none=>intro _; rfl
  | some y =>
   obtain ⟨D,C,O⟩:=y
   unfold C2g
   simp only
   cases decide (A6t O=0) <;> simp
 unfold A2n at h ⊢
 cases h1:decide (L.length<=4097) with
 | false=>rfl
 | true =>
  rw [h1,cond_true] at h
  cases h2:D5j s with
  | false=>rfl
  | true =>
   rw [h2,cond_true] at h
   exact key _ h
theorem F1k {s:List UInt8} {L:List Tok} {ty:Nat} (hz:∀ t,t ∈ L->D9 t.2.1=true) (hL:L.length<=4097):E0g s L.length ty (fun i=>L.getD i I9)=B1o L ty (C2g (P8 s (D2b L) U7)):=by
 have h3:=A8e hz
 have hL2:(J9 L.length (fun i=>I1 (L.getD i I9)))=L:=A4v L
 unfold E0g D2b
 rw [hL2,D8l,D8l]
 have p1:A9 (1=1/\(L.length:Int)=(L.length:Int)/\(0:Int)=0/\0=0/\(fun _=>[]:Nat->List AV)=(fun _=>[])/\U2 L.length (fun i=>I1 (L.getD i I9))/\L.length<=L.length/\L.length<=4097)=true :=
  A8 ⟨rfl,rfl,rfl,rfl,rfl,h3,Nat.le_refl _,hL⟩
 rw [p1,List.take_length]
 by_cases h0:L.length=0
 ·rw [dF (show ¬ (L.length:Int) > 0 by omega),dF (show ¬ 0 < L.length by omega)]; rfl
 ·have e1:W ((L.length:Int) - 1)=((L.length - 1:Nat):Int):=by rw [W,wrap64 (by omega) (by omega)]; omega
  rw [e1,Int.toNat_natCast,Nat.zero_add]
  have p2:A9 (1=1/\((L.length - 1:Nat):Int)=((L.length - 1:Nat):Int)/\(0:Int)=0/\0=0/\(fun _=>[]:Nat->List AV)=(fun _=>[])/\U2 L.length (fun i=>I1 (L.getD i I9))/\L.length - 1<=L.length/\L.length<=4097)=true :=
   A8 ⟨rfl,rfl,rfl,rfl,rfl,h3,by omega,hL⟩
  rw [p2,dT (show (L.length:Int) > 0 by omega),dT (show 0<=((L.length - 1:Nat):Int)/\((L.length - 1:Nat):Int) < (L.length:Int) by omega),dT (show L.length - 1 < L.length by omega),
   dT (show 0<=((L.length - 1:Nat):Int)/\((L.length - 1:Nat):Int)<=(L.length:Int) by omega),dT (show 0 < L.length by omega)]
  cases (L.getD (L.length - 1) I9).1 == 3 <;> rfl
theorem D0o {s:List UInt8} {L:List Tok} {ty:Nat} (hz:∀ t,t ∈ L->D9 t.2.1=true):E1m s L.length ty (fun i=>L.getD i I9)=B1o L ty (A2n s L):=by
 unfold E1m A2n
 by_cases hn:L.length<=4097
 ·rw [dF (show ¬ (L.length:Int) > 4097 by omega),dT hn,F1k hz hn]
  by_cases hs:s.length=1
  ·obtain ⟨c,rfl⟩:∃ c,s=[c]:=by
    match s,hs with
    | [c],_=>exact ⟨c,rfl⟩
   obtain ⟨b0,b1⟩:=C4d [c] 0
   rw [F4q,show (A0u (bAt [c] 0) != 4)=!A2g (bAt [c] 0) by rw [bne,G9f b0 b1],show ([c] == [40,41,91,93])=false by rw [beq_eq_false_iff_ne]; intro h; cases h]
   unfold D5j
   cases A2g (bAt [c] 0) <;> cases ([c] == [40] || [c] == [41] || [c] == [91] || [c] == [93]) <;> rfl
  ·rw [show ((s.length:Int) != 1)=true by rw [bne_iff_ne]; omega]
   unfold D5j
   rw [dF hs]; rfl
 ·rw [dT (show (L.length:Int) > 4097 by omega),dF hn]; rfl
def TPa:List Lf->Tr (SP × List Lf)
 | [.n n,.s s,.n n',.r f,.n ty]=>.br (A9 (n'=n/\U2 n f)) (.leaf (sqP,[.n (A2n s (J9 n f)).1.length,.fr (N9 (A2n s (J9 n f)).1),.i (A2n s (J9 n f)).2,.n n,.r f,.n ty])) .fail
 | _=>.fail
theorem wkP {A:Amb} {Bb:Heap} (L:List Tok) (ty:Nat) (p:List (List Tok) × Int) (hp:p.2 ≠ 0->p.1=[]) {l0:List Lf} (h:B1o L ty p=some l0) :
  Wk A Bb ⟨sqP.rho l0,sqP.heap l0,[]⟩ ⟨sqP.rho [.n p.1.length,.fr (N9 p.1),.i p.2,.n L.length,.r (F5 L),.n ty],sqP.heap [.n p.1.length,.fr (N9 p.1),.i p.2,.n L.length,.r (F5 L),.n ty],[]⟩:=by
 obtain ⟨D,e⟩:=p
 unfold B1o at h
 cases he:e == 0 with
 | true =>
  simp only [he,cond_true] at h
  cases h
  have:e=0:=by simpa using he
  subst this
  exact Wk.refl
 | false =>
  simp only [he,cond_false] at h
  cases h
  have:D=[]:=hp (by simpa using he)
  subst this
  exact Wk.setT (t:=0) (a:=.flist 0 (fun _=>[]) 1) rfl fun ι v hv=>D1b (n:=0) (fun i hi=>(Nat.not_lt_zero i hi).elim) hv
def pPa:Prims:=pP.addh 33 (G8 8 (funQ spPt 9 [] TPa))
theorem H1r (ty n:Nat) (s:List UInt8) (f:Nat->List AV) (l:List Lf) (h:sqP.heap l=Bg 8++[.vec n f 3 ty]):frP [] 0 (spPt.heap [.n n,.s s,.n n,.r f,.n ty]) (sqP.heap l):=by
 rw [h]; exact ⟨.inr rfl,.inr rfl,.inr rfl,.inr rfl,.inr rfl,.inr rfl,.inr rfl,.inr rfl,.inr rfl,trivial⟩
theorem F8p {A:Amb} {f:FuncId} {T:List Lf->Tr (SP × List Lf)} (hTe:T=TPa) (hr:∀ (s:List UInt8) (L:List Tok) (ty:Nat),(∀ t,t ∈ L->D9 t.2.1=true)->∃ prims,PrimOK prog A prims /\
   (C8 prog prims 60).call f (spPt.rho [.n L.length,.s s,.n L.length,.r (F5 L),.n ty]) (spPt.heap [.n L.length,.s s,.n L.length,.r (F5 L),.n ty]) (O8 sqP 9 [])=B1o L ty (A2n s L)) :
  ∀ args B v B' D,(funQ spPt 9 [] T args B).get=some (v,B',D)->AFr B B' D/\CallT prog A f args B v B' D:=by
 subst hTe
 refine I6 D5 D6 rfl fun ls sq l h=>?_
 unfold TPa at h
 split at h
 ·rename_i n s n' f ty
  obtain ⟨hc,hv⟩:=Tr.br1 h
  obtain ⟨rfl,h2,h3⟩:=D7 hc
  cases hv
  obtain ⟨L,hL⟩:∃ L,L=J9 n' f:=⟨_,rfl⟩
  have hn:n'=L.length:=by rw [hL]; simp [J9]
  rw [<- hL] at h2 h3 ⊢
  subst hn h2
  obtain ⟨prims,h4,h5⟩:=hr s L ty h3
  obtain ⟨l0,hl0⟩:∃ l0,B1o L ty (A2n s L)=some l0:=by
   unfold B1o
   cases (A2n s L).2 == 0 <;> exact ⟨_,rfl⟩
  exact ⟨H1r _ _ _ _ _ rfl,rfl,prims,60,l0,h4,h5.trans hl0,fun Bb _=>wkP L ty _ B9i hl0⟩
 ·cases h
theorem G0d {A:Amb} (hT:Tab A) (hG:prog.globals.size<=A.G):PrimOK prog A pPa :=
 (C0p hT hG).addl gsz func33 (by kernel_rfl) (F8p rfl fun s L ty hz=>⟨F2s,D8c hT hG,(G0w s L.length ty fun i=>L.getD i I9).trans (D0o hz)⟩)
end Go.Proofs.Tryz
namespace Go.Proofs.Tryz
open Go.Ad
def E9m:Code:=f36.body.getD .skip
def C7a:Code:=I7 (J7 0 E9m)
def E3r (lp:Bool):SP:=⟨[F6v lp,.str]++dr 4++[.list 10,.str,.int .i64]++dr 119,dd8++[.vecT 3,.dead,.tail 1 [.list 11] 27,.vec 3 52]⟩
def sp36e:SP:=⟨dr 6++[.flist 1,.str]++dr 120,dd8++[.vecT 3,.dead]⟩
def sp36r:SP:=⟨dr 4++[.is C2f,.int .i64]++dr 122,dd8++[.vecT 3,.dead]⟩
def E0c (lp:Bool):AEx->List SP
 | .ret=>[sp36r]
 | .normal=>[E3r lp]
 | .exit _=>[sp36e]
def lf36 (k:Nat) (s:List UInt8) (K:Nat) (o:List UInt8) (i:Int) (N:Nat) (r:Nat->List AV) (ty D:Nat) (d:Nat->List AV) (C:Nat) (c:Nat->List AV):List Lf:=[.n k,.s s,.n K,.s o,.i i,.n N,.r r,.n ty,.n D,.r d,.n C,.n C,.r c]
section
variable (s:List UInt8) (K k:Nat) (o:List UInt8) (i:Int) (N:Nat) (t:Tok) (r:Nat->List AV) (ty D:Nat) (d:Nat->List AV) (C:Nat) (c:Nat->List AV)
def goR (o':List UInt8):Option (AEx × Nat × List Lf):=C2i K D C (some (.normal,0,lf36 k s K o' (W (i+1)) N r ty D d (C+1) (addRow C c (I1 t))))
def C6x (o':List UInt8):Option (AEx × Nat × List Lf) :=
 brK (decide (W ((o'.length:Int) - 1) < 0)) (B8m N r ty) (brK (decide (0<=W ((o'.length:Int) - 1)/\W ((o'.length:Int) - 1) < (o'.length:Int))) (brK (!((((o'.getD (W ((o'.length:Int) - 1)).toNat 0).toNat:Int) == 40) == isS t [41])) (B8m N r ty)
  (brK (decide (0<=W ((o'.length:Int) - 1)/\W ((o'.length:Int) - 1)<=(o'.length:Int)) && true) (goR s K k i N t r ty D d C c (o'.take (W ((o'.length:Int) - 1)).toNat)) none)) none)
def B5s (o':List UInt8):Option (AEx × Nat × List Lf) :=
 brK (isS t [41]) (C6x s K k i N t r ty D d C c o') (brK (isS t [93]) (C6x s K k i N t r ty D d C c o') (goR s K k i N t r ty D d C c o'))
def E5n:Option (AEx × Nat × List Lf):=brK (decide (o.length+t.2.1.length < 4611686018427387904)) (B5s s K k i N t r ty D d C c (o++t.2.1)) none
def D8r:Option (AEx × Nat × List Lf):=brK (isS t [40]) (E5n s K k o i N t r ty D d C c) (brK (isS t [91]) (E5n s K k o i N t r ty D d C c) (B5s s K k i N t r ty D d C c o))
def D4q:Option (AEx × Nat × List Lf) :=
 brK (decide (0 < K/\K+1 < 2147483648/\K*1=D*1+1)) (brK (A9 (A7m C C c) && (true && true))
  (some (.normal,0,lf36 k s (K+1) o (W (i+1)) N r ty (D+1) (A2j D d [.flist C (J3 c) 3]) 0 (fun _=>[]))) none) none
def B2l (ix:Nat):Option (AEx × Nat × List Lf) :=
 brK (decide (i < (k:Int))) (brK (decide (0<=i/\i < (k:Int))) (brK (decide (ix < N)) (brK (isS t s) (brK (o == []) (D4q s K k o i N r ty D d C c) (D8r s K k o i N t r ty D d C c)) (D8r s K k o i N t r ty D d C c)) none) none)
  (brK (A9 (A7m C C c) && (A9 (A7m K (D+1) (A2j D d [.flist C (J3 c) 3])) && true)) (some (.exit 0,0,[.n K,.fr (J3 (A2j D d [.flist C (J3 c) 3])),.s o,.n N,.r r,.n ty])) none)
end
section
variable (s:List UInt8) (K k:Nat) (o:List UInt8) (i:Int) (N:Nat) (r:Nat->Tok) (ty D:Nat) (d:Nat->List AV) (C:Nat) (c:Nat->List AV)
def E6l (lp:Bool) (l:List Lf):Option (AEx × Nat × List Lf):=E9 prog (C8 prog pP 60) F7 C7a ((E3r lp).rho l) ((E3r lp).heap l) (F7d (C9g 6) (E0c lp) 10 [9])
theorem E7m:E6l false (lf36 k s K o i N (fun i=>I1 (r i)) ty D d C c)=B2l s K k o i N (r (0+i.toNat)) (fun i=>I1 (r i)) ty D d C c (0+i.toNat):=by kernel_rfl
theorem F1p:E6l true (lf36 k s K o i N (fun i=>I1 (r i)) ty D d C c)=B2l s K k o i N (r i.toNat) (fun i=>I1 (r i)) ty D d C c i.toNat:=by kernel_rfl
end
end Go.Proofs.Tryz
namespace Go.Proofs.Tryz
open Go.Ad
def clo (x:UInt8):List UInt8:=[bif x == 40 then 41 else 93]
abbrev PR:=List (List Tok) × List Tok × List UInt8
def B1g (s:List UInt8) (t:Tok) (x:PR):Option PR :=
 bif decide (x.2.2.length=0) && isS t s then some (x.1++[x.2.1],[],x.2.2)
 else bif isS t [40] then some (x.1,x.2.1++[t],x.2.2++[40])
 else bif isS t [91] then some (x.1,x.2.1++[t],x.2.2++[91])
 else bif isS t [41] || isS t [93] then (bif decide (x.2.2.length=0) then none else bif clo (x.2.2.getD (x.2.2.length - 1) 0) == t.2.1 then some (x.1,x.2.1++[t],x.2.2.take (x.2.2.length - 1)) else none)
 else some (x.1,x.2.1++[t],x.2.2)
def V3 (s:List UInt8):List Tok->PR->Option PR
 | [],x=>some x
 | t :: r,x=>match B1g s t x with
  | some y=>V3 s r y
  | none=>none
theorem D0d {t:Tok} {s:List UInt8} (h:isS t s=true):t.2.1=s:=by
 simp only [isS,Bool.and_eq_true,beq_iff_eq] at h
 exact h.2
theorem C5h {t:Tok} {s u:List UInt8} (h:isS t s=true) (hn:s ≠ u):isS t u=false:=by
 unfold isS
 rw [D0d h,show (s == u)=false by rw [beq_eq_false_iff_ne]; exact hn,Bool.and_false]
section
variable {s:List UInt8} {k i N ty:Nat} {t:Tok} {r:Nat->List AV} {D:List (List Tok)} {C:List Tok} {o:List UInt8}
def D4g (s:List UInt8) (k i N:Nat) (r:Nat->List AV) (ty:Nat):Option PR->Option (AEx × Nat × List Lf)
 | none=>B8m N r ty
 | some (D,C,o)=>some (.normal,0,lf36 k s (D.length+1) o ((i+1:Nat):Int) N r ty D.length (Q8 D) C.length (A0t C))
theorem E2f (hi:i < k) (hk:k<=N) (hN:N<=5000) (hD:D.length<=i) (hC:C.length<=i) (ho:o.length<=i) :
  B2l s (D.length+1) k o i N t r ty D.length (Q8 D) C.length (A0t C) i=D4g s k i N r ty (B1g s t (D,C,o)):=by
 have e2:W ((i:Int)+1)=((i+1:Nat):Int):=by rw [W,wrap64 (by omega) (by omega)]; omega
 have hgo:∀ o',goR s (D.length+1) k i N t r ty D.length (Q8 D) C.length (A0t C) o'=D4g s k i N r ty (some (D,C++[t],o')):=by
  intro o'
  unfold goR
  rw [D9h (by omega) (by omega),A9l,e2,show C.length+1=(C++[t]).length by simp]; rfl
 have hsp:D4q s (D.length+1) k o i N r ty D.length (Q8 D) C.length (A0t C)=D4g s k i N r ty (some (D++[C],[],o)):=by
  unfold D4q
  rw [dT (show 0 < D.length+1/\D.length+1+1 < 2147483648/\(D.length+1)*1=D.length*1+1 from ⟨by omega,by omega,by omega⟩),A8 (show _ from B3z C),e2]
  show some (AEx.normal,0,lf36 k s (D.length+1+1) o ((i+1:Nat):Int) N r ty (D.length+1) (A2j D.length (Q8 D) [flT C]) 0 (fun _=>[]))=_
  rw [A8a,show D.length+1=(D++[C]).length by simp]; rfl
 have hclose:(isS t [41] || isS t [93])=true->C6x s (D.length+1) k i N t r ty D.length (Q8 D) C.length (A0t C) o =
   D4g s k i N r ty (bif decide (o.length=0) then none else bif clo (o.getD (o.length - 1) 0) == t.2.1 then some (D,C++[t],o.take (o.length - 1)) else none):=by
  intro hb
  unfold C6x
  by_cases h0:o.length=0
  ·rw [h0,show W (((0:Nat):Int) - 1)=-1 by rw [W,wrap64 (by omega) (by omega)]; rfl]; rfl
  ·have e1:W ((o.length:Int) - 1)=((o.length - 1:Nat):Int):=by rw [W,wrap64 (by omega) (by omega)]; omega
   rw [e1,Int.toNat_natCast,dF (show ¬ ((o.length - 1:Nat):Int) < 0 by omega),dT (show 0<=((o.length - 1:Nat):Int)/\((o.length - 1:Nat):Int) < (o.length:Int) by omega),dT (show 0<=((o.length - 1:Nat):Int)/\((o.length - 1:Nat):Int)<=(o.length:Int) by omega),
    hgo,dF h0]
   have e3:((((o.getD (o.length - 1) 0).toNat:Int) == 40) == isS t [41])=(clo (o.getD (o.length - 1) 0) == t.2.1):=by
    generalize o.getD (o.length - 1) 0=x
    have e4:(((x.toNat:Nat):Int) == 40)=(x == 40):=by
     by_cases hx:x=40
     ·subst hx; rfl
     ·rw [show (x == 40)=false by rw [beq_eq_false_iff_ne]; exact hx,beq_eq_false_iff_ne]
      intro h
      apply hx
      apply UInt8.toNat_inj.1
      show x.toNat=40
      omega
    rw [e4]
    unfold clo
    cases h41:isS t [41] with
    | true =>
     rw [D0d h41]
     cases x == 40 <;> rfl
    | false =>
     rw [h41,Bool.false_or] at hb
     rw [D0d hb]
     cases x == 40 <;> rfl
   rw [e3]
   cases clo (o.getD (o.length - 1) 0) == t.2.1 <;> rfl
 have hrest:D8r s (D.length+1) k o i N t r ty D.length (Q8 D) C.length (A0t C)=D4g s k i N r ty (bif isS t [40] then some (D,C++[t],o++[40])
   else bif isS t [91] then some (D,C++[t],o++[91])
   else bif isS t [41] || isS t [93] then (bif decide (o.length=0) then none else bif clo (o.getD (o.length - 1) 0) == t.2.1 then some (D,C++[t],o.take (o.length - 1)) else none)
   else some (D,C++[t],o)):=by
  have haft:isS t [41]=false->isS t [93]=false->∀ o',B5s s (D.length+1) k i N t r ty D.length (Q8 D) C.length (A0t C) o'=D4g s k i N r ty (some (D,C++[t],o')):=by
   intro h1 h2 o'
   unfold B5s
   rw [h1,h2,hgo]; rfl
  unfold D8r E5n
  cases h1:isS t [40] with
  | true =>
   rw [haft (C5h h1 (by decide)) (C5h h1 (by decide)),D0d h1,dT (show o.length+([40]:List UInt8).length < 4611686018427387904 by simp; omega)]; rfl
  | false =>
   cases h2:isS t [91] with
   | true =>
    rw [haft (C5h h2 (by decide)) (C5h h2 (by decide)),D0d h2,dT (show o.length+([91]:List UInt8).length < 4611686018427387904 by simp; omega)]; rfl
   | false =>
    simp only [cond_false]
    show B5s s (D.length+1) k i N t r ty D.length (Q8 D) C.length (A0t C) o=_
    unfold B5s
    cases h3:isS t [41] with
    | true=>rw [hclose (by rw [h3]; rfl)]; rfl
    | false =>
     cases h4:isS t [93] with
     | true=>rw [hclose (by rw [h4,Bool.or_true])]; rfl
     | false=>rw [hgo]; rfl
 unfold B2l
 rw [dT (show (i:Int) < (k:Int) by omega),dT (show 0<=(i:Int)/\(i:Int) < (k:Int) by omega),dT (show i < N by omega),hsp,hrest]
 unfold B1g
 show brK (isS t s) (brK (o == []) _ _) _=D4g s k i N r ty (bif decide (o.length=0) && isS t s then _ else _)
 cases o with
 | nil=>cases isS t s <;> rfl
 | cons a l=>cases isS t s <;> rfl
theorem D4m {g:Nat}:B2l s (D.length+1) k o k N t r ty D.length (Q8 D) C.length (A0t C) g=some (AEx.exit 0,0,([.n (D.length+1),.fr (J3 (Q8 (D++[C]))),.s o,.n N,.r r,.n ty]:List Lf)):=by
 unfold B2l
 rw [dF (show ¬ (k:Int) < (k:Int) by omega)]
 show brK (A9 (A7m C.length C.length (A0t C)) && (A9 (A7m (D.length+1) (D.length+1) (A2j D.length (Q8 D) [flT C])) && true)) (some (AEx.exit 0,0,([.n (D.length+1),.fr (J3 (A2j D.length (Q8 D) [flT C])),.s o,.n N,.r r,.n ty]:List Lf))) none=_
 rw [A8a,A8 (B3z C),A8 (show A7m (D.length+1) (D.length+1) (Q8 (D++[C])) by have:=D2s (D++[C]); rwa [List.length_append,List.length_singleton] at this)]; rfl
theorem F2p {D':List (List Tok)} {C':List Tok} {o':List UInt8} (h:B1g s t (D,C,o)=some (D',C',o')) (hD:D.length<=i) (hC:C.length<=i) (ho:o.length<=i) :
  D'.length<=i+1/\C'.length<=i+1/\o'.length<=i+1:=by
 unfold B1g at h
 simp only at h
 cases h1:decide (o.length=0) && isS t s with
 | true =>
  rw [h1] at h; cases h
  exact ⟨by simp; omega,by simp,by omega⟩
 | false =>
  rw [h1,cond_false] at h
  cases h2:isS t [40] with
  | true=>rw [h2] at h; cases h; exact ⟨by omega,by simp; omega,by simp; omega⟩
  | false =>
   rw [h2,cond_false] at h
   cases h3:isS t [91] with
   | true=>rw [h3] at h; cases h; exact ⟨by omega,by simp; omega,by simp; omega⟩
   | false =>
    rw [h3,cond_false] at h
    cases h4:isS t [41] || isS t [93] with
    | true =>
     rw [h4,cond_true] at h
     cases h5:decide (o.length=0) with
     | true=>rw [h5] at h; cases h
     | false =>
      rw [h5,cond_false] at h
      cases h6:clo (o.getD (o.length - 1) 0) == t.2.1 with
      | true=>rw [h6] at h; cases h; exact ⟨by omega,by simp; omega,by simp; omega⟩
      | false=>rw [h6] at h; cases h
    | false=>rw [h4] at h; cases h; exact ⟨by omega,by simp; omega,by omega⟩
end
section
variable (s:List UInt8) (K k:Nat) (o:List UInt8) (i:Int) (L:List Tok) (ty D:Nat) (d:Nat->List AV) (C:Nat) (c:Nat->List AV)
theorem F7p (lp:Bool):E6l lp (lf36 k s K o i L.length (F5 L) ty D d C c)=B2l s K k o i L.length (L.getD (ixT lp i) I9) (F5 L) ty D d C c (ixT lp i):=by
 cases lp
 ·exact E7m s K k o i L.length (fun i=>L.getD i I9) ty D d C c
 ·exact F1p s K k o i L.length (fun i=>L.getD i I9) ty D d C c
end
def H0a (s:List UInt8) (L:List Tok) (k ty i:Nat) (x:PR):List Lf:=lf36 k s (x.1.length+1) x.2.2 i L.length (F5 L) ty x.1.length (Q8 x.1) x.2.1.length (A0t x.2.1)
def G4z (lp:Bool) (s:List UInt8) (L:List Tok) (k ty i:Nat) (x:PR):St:=⟨(E3r lp).rho (H0a s L k ty i x),(E3r lp).heap (H0a s L k ty i x),[9]⟩
def A0i:PR:=([],[],[])
def C2y (L:List Tok) (ty:Nat):Option PR->AEx × St
 | none=>(.ret,⟨sp36r.rho [.i 3,.n L.length,.r (F5 L),.n ty],sp36r.heap [.i 3,.n L.length,.r (F5 L),.n ty],[9]⟩)
 | some (D,C,o)=>(.exit 0,⟨sp36e.rho [.n (D.length+1),.fr (J3 (Q8 (D++[C]))),.s o,.n L.length,.r (F5 L),.n ty],sp36e.heap [.n (D.length+1),.fr (J3 (Q8 (D++[C]))),.s o,.n L.length,.r (F5 L),.n ty],[9]⟩)
theorem G2p {A:Amb} (hT:Tab A) (hG:prog.globals.size<=A.G) (lp:Bool) (s:List UInt8) (L:List Tok) (k ty:Nat) (hk:k<=L.length) (hL:L.length<=4097) {Bb:Heap} (hB:Bb.length=10) :
  SEB prog A Bb (.loop C7a) (G4z lp s L k ty 0 A0i) (C2y L ty (V3 s (L.take k) A0i)).1 (C2y L ty (V3 s (L.take k) A0i)).2:=by
 have hp:=C0p hT hG
 have hM:(L.take k).length=k:=by rw [List.length_take]; omega
 refine SEB.while (fun x:Nat × PR=>x.1<=k/\x.2.1.length<=x.1/\x.2.2.1.length<=x.1/\x.2.2.2.length<=x.1/\V3 s ((L.take k).drop x.1) x.2=V3 s (L.take k) A0i) (fun x=>k - x.1) (fun x=>G4z lp s L k ty x.1 x.2)
  (fun _=>C2y L ty (V3 s (L.take k) A0i)) (fun x hx=>?_) (0,A0i) ⟨Nat.zero_le _,Nat.le_refl _,Nat.le_refl _,Nat.le_refl _,rfl⟩
 obtain ⟨i,D,C,o⟩:=x
 obtain ⟨h1,h2,h3,h4,h5⟩:=hx
 simp only at h1 h2 h3 h4 h5 ⊢
 have hix:ixT lp (i:Int)=i:=by cases lp <;> simp [ixT]
 have hkr:=F7p s (D.length+1) k o i L ty D.length (Q8 D) C.length (A0t C) lp
 rw [hix] at hkr
 by_cases hi:i < k
 ·obtain ⟨t,M,hd,ht,hM2,_,_⟩:=B3x (L:=L.take k) (i:=i) (by omega)
  have hte:L.getD i I9=t:=by
   rw [<- ht,List.getD_eq_getElem?_getD,List.getD_eq_getElem?_getD,List.getElem?_take_of_lt hi]
  rw [hte,E2f hi hk (by omega) h2 h3 h4] at hkr
  rw [hd] at h5
  simp only [V3] at h5
  cases he:B1g s t (D,C,o) with
  | none =>
   right
   rw [he] at hkr h5
   rw [<- h5]
   refine ⟨by simp [C2y],SEB.of_KA (k:=0) (e:=.ret) (gs:=C9g 6) (sps:=E0c lp) (sp:=sp36r) D5 D6 hp (.none _) hB hkr rfl rfl⟩
  | some y =>
   left
   obtain ⟨D',C',o'⟩:=y
   rw [he] at hkr h5
   simp only at h5
   obtain ⟨q1,q2,q3⟩:=F2p he h2 h3 h4
   refine ⟨(i+1,D',C',o'),⟨by simp only; omega,q1,q2,q3,?_⟩,by simp only; omega,trivial,?_⟩
   ·simp only; rw [hM2]; exact h5
   ·exact SEB.of_KA (k:=0) (e:=.normal) (gs:=C9g 6) (sps:=E0c lp) (sp:=E3r lp) D5 D6 hp (.none _) hB hkr rfl (by cases lp <;> rfl)
 ·right
  have e:i=k:=by omega
  subst e
  rw [D4m] at hkr
  rw [List.drop_eq_nil_of_le (by omega)] at h5
  simp only [V3] at h5
  rw [<- h5]
  exact ⟨by simp [C2y],SEB.of_KA (k:=0) (e:=.exit 0) (gs:=C9g 6) (sps:=E0c lp) (sp:=sp36e) D5 D6 hp (.none _) hB hkr rfl rfl⟩
end Go.Proofs.Tryz
