/- The evaluator by cases: where a truth value is not known it goes on in both ways. It is held against the direct evaluator, with as much fuel as that needs. -/
import Derived.Test.YtoboneiigikidaaGreatDoorAdFrame
namespace Go.Ad
structure Rec.le (r r':Rec):Prop where
 exec:∀ bp c U B y,r.exec bp c U B=some y->r'.exec bp c U B=some y
 call:∀ f args B y,r.call f args B=some y->r'.call f args B=some y
 ext:r.ext=r'.ext
section
variable {P:Program} {r r':Rec}
end
def Ev(P:Program)(prims:Prims){γ:Type}(F:Rec->Option γ)(y:γ):Prop:=∃ n,∀ m,n<=m->F (run P prims m)=some y
abbrev Ex(P:Program)(prims:Prims)(bp:Bps)(c:Code)(U:List AV)(B:Heap)(y:AEx×List AV×Heap×List Nat):Prop:=Ev P prims (fun r=>r.exec bp c U B) y
abbrev Ca(P:Program)(prims:Prims)(f:FuncId)(args:List AV)(B:Heap)(y:AV×Heap×List Nat):Prop:=Ev P prims (fun r=>r.call f args B) y
section
variable {P:Program} {prims:Prims}
theorem Ev.exec{bp:Bps}{c:Code}{U:List AV}{B:Heap}{y:AEx×List AV×Heap×List Nat}(h:Ev P prims (fun r=>J9 P r bp c U B) y):Ex P prims bp c U B y:=by
 obtain⟨n,h⟩:=h
 refine⟨n+1,fun m hm=>?_⟩
 obtain⟨m,rfl⟩:∃ k,m=k+1:=⟨m-1,by omega⟩
 exact h m (by omega)
theorem Ev.call{f:FuncId}{args:List AV}{B:Heap}{y:AV×Heap×List Nat}(h:Ev P prims (fun r=>A8b P prims r f args B) y):Ca P prims f args B y:=by
 obtain⟨n,h⟩:=h
 refine⟨n+1,fun m hm=>?_⟩
 obtain⟨m,rfl⟩:∃ k,m=k+1:=⟨m-1,by omega⟩
 exact h m (by omega)
theorem Ca.run{f:FuncId}{args:List AV}{B:Heap}{y:AV×Heap×List Nat}(h:Ca P prims f args B y):∃ n,(Ad.run P prims n).call f args B=some y :=
 let ⟨n,h⟩:=h; ⟨n,h n (lR _)⟩
end
def brK{β:Type}(b:Bool)(t f:Option β):Option β:=match b with
 | true=>t
 | false=>f
def Tr.bind{α β:Type}:Tr α->(α->Option β)->Option β
 | .leaf a,k=>k a
 | .br b t f,k=>brK b (t.bind k) (f.bind k)
 | .fail,_=>none
abbrev KE(β:Type):=AEx->List AV->Heap->List Nat->Option β
abbrev KV(β:Type):=AV->Heap->List Nat->Option β
structure RecK (β:Type) where
 exec:Bps->Code->List AV->Heap->KE β->Option β
 call:FuncId->List AV->Heap->KV β->Option β
 ext:FuncId->Option (List AV->Option AV)
section
variable {β:Type}
def D2m(U:List AV)(d:Option Tmp)(k:List AV->Option β):Option β :=
 match d with
 | none=>k U
 | some d =>
  match U[d]? with
  | some (.sbool b)=>brK b (k (U.set d (.bool true))) (k (U.set d (.bool false)))
  | _=>k U
def F1k(P:Program)(U:Operand->AV)(op:Op):Option (IntKind×Int×Nat) :=
 match op with
 | .indexAddr t x i =>
  match U i with
  | .int ..=>none
  | _ =>
   match M8 (U i),P.underlying t,U x with
   | some (k,n),some (.array m _),_=>some (k,n,m)
   | some (k,n),some (.slice _),.slice _ m _=>some (k,n,m)
   | _,_,_=>none
 | .index t _ i =>
  match U i with
  | .int ..=>none
  | _ =>
   match M8 (U i),P.underlying t with
   | some (k,n),some (.array m _)=>some (k,n,m)
   | _,_=>none
 | _=>none
def E4z(P:Program)(U:Operand->AV)(B:Heap)(op:Op)(k:IntKind)(j:Nat):A3m :=
 match op with
 | .indexAddr t x _=>only B (Q6 P t (U x) (.int k j))
 | .index t x _=>only B (B3l P t (U x) (.int k j))
 | _=>none
def G4p(n:Int):Nat->Nat->(Nat->Option β)->Option β
 | 0,_,_=>none
 | f+1,j,k=>brK (decide (n=(j:Int))) (k j) (G4p n f (j+1) k)
def opK(P:Program)(U:Operand->AV)(B:Heap)(op:Op)(k:KV β):Option β :=
 match A0k P U op with
 | some (c,v)=>brK c (k v B []) none
 | none =>
  match A2c P U B op with
  | some (c,v,B',D)=>brK c (k v B' D) none
  | none =>
  match F1k P U op with
  | some (kd,n,m)=>G4p n m 0 fun j =>
   match E4z P U B op kd j with
   | some (v,B',D)=>k v B' D
   | none=>none
  | none =>
   match U8 P U B op with
   | some (v,B',D)=>k v B' D
   | none=>none
def D8e(rk:RecK β)(l:Nat)(args:List AV)(B:Heap)(k:KV β):Option β :=
 match B[l]? with
 | some (.loop lo) =>
  if args.length=lo.params.size then
   rk.exec A8o lo.assign ((lo.params.toList.zip args).foldl (fun t (p,a)=>t.set p a) lo.tmps) B fun e U1 B1 D1 =>
   match e with
   | .normal =>
    match B1[l]? with
    | some (.loop lo1) =>
     if lo1.state=.ready then
      rk.exec A8o lo.body U1 (B1.set l (.loop { lo1 with state:=.busy })) fun e _ B2 D2 =>
      match B2[l]? with
      | some (.loop lo2) =>
       match e with
       | .normal=>k (.bool true) (B2.set l (.loop { lo2 with state:=.ready,pending:=none })) (D1++[l]++D2++[l])
       | .ret=>k (.bool false) (B2.set l (.loop { lo2 with state:=.done,pending:=some .ret })) (D1++[l]++D2++[l])
       | .exit id=>k (.bool false) (B2.set l (.loop { lo2 with state:=.done,pending:=some (.exit id) })) (D1++[l]++D2++[l])
      | _=>none
     else none
    | _=>none
   | _=>none
  else none
 | _=>none
def D5r(rk:RecK β)(f:AV)(args:List AV)(B:Heap)(k:KV β):Option β :=
 match f with
 | .func (.func g) first captured=>rk.call g (first++args++captured) B k
 | .func (.yield l) first _=>D8e rk l (first++args) B k
 | _=>none
def F6c(P:Program)(rk:RecK β)(U:Operand->AV)(B:Heap)(op:Op)(k:KV β):Option β :=
 match op with
 | .call { callee:=.value f,args,.. } =>
  match E5u rk.ext (U f) with
  | some h=>match h (args.toList.map U) with
   | some v=>k v B []
   | none=>none
  | none=>D5r rk (U f) (args.toList.map U) B k
 | op=>opK P U B op k
def B0a:List (Tmp×Bool)->Tmp->Option Bool
 | [],_=>none
 | (d,b)::r,x=>if x=d then some b else B0a r x
def B4r:List (Tmp×Bool)->Option Tmp->List (Tmp×Bool)
 | l,none=>l
 | [],_=>[]
 | (d,b)::r,some x=>if x=d then B4r r (some x) else(d,b)::B4r r (some x)
def splitK(κ:List (Tmp×Bool))(U:List AV)(d:Option Tmp)(k:List (Tmp×Bool)->Option β):Option β :=
 match d with
 | none=>k κ
 | some d =>
  match B0a κ d with
  | some _=>k κ
  | none =>
   match U[d]? with
   | some (.sbool b)=>brK b (k ((d,true)::κ)) (k ((d,false)::κ))
   | _=>k κ
def F2d(ops:Array Oper)(κ:List (Tmp×Bool))(U:List AV)(o:Oper):Option Bool :=
 match o.guard with
 | none=>some true
 | some (j,want) =>
  match (ops[j]?).bind (·.dst) with
  | none=>some false
  | some d =>
   match B0a κ d with
   | some b=>some (b==want)
   | none=>A1h ops U o
def G1a(κ:List (Tmp×Bool)):Op->Option Operand
 | .pick (.tmp d) a b=>(B0a κ d).map fun t=>if t then a else b
 | _=>none
def E8u(P:Program)(rk:RecK β)(κ:List (Tmp×Bool))(U:Operand->AV)(B:Heap)(op:Op)(k:KV β):Option β :=
 match G1a κ op with
 | some a=>k (U a) B []
 | none=>F6c P rk U B op k
def D7h(P:Program)(rk:RecK β)(ops:Array Oper):List Oper->List (Tmp×Bool)->List AV->Heap->(List AV->Heap->List Nat->Option β)->Option β
 | [],_,U,B,k=>k U B []
 | o::rest,κ0,U,B,k =>
  splitK κ0 U (B2n ops o) fun κ1=>splitK κ1 U (B6f o) fun κ =>
  match F2d ops κ U o with
  | some true=>E8u P rk κ (M4 (gN P) U) B o.op fun v B1 D1 =>
   R5 v fun v=>D7h P rk ops rest (B4r κ o.dst) (R9 U o.dst v) B1 fun U2 B2 D2=>k U2 B2 (D1++D2)
  | some false=>D7h P rk ops rest (B4r κ o.dst) (R9 U o.dst G8) B k
  | none=>none
def C3q(P:Program)(rk:RecK β)(ops:Array Oper):List Oper->List AV->Heap->(List AV->Heap->List Nat->Option β)->Option β
 | [],U,B,k=>k U B []
 | o::rest,U0,B,k =>
  D2m U0 (B2n ops o) fun U1=>D2m U1 (B6f o) fun U =>
  match A1h ops U o with
  | some true=>F6c P rk (M4 (gN P) U) B o.op fun v B1 D1 =>
   R5 v fun v=>C3q P rk ops rest (R9 U o.dst v) B1 fun U2 B2 D2=>k U2 B2 (D1++D2)
  | some false=>C3q P rk ops rest (R9 U o.dst G8) B k
  | none=>none
def C7q(P:Program)(rk:RecK β)(ops:Array Oper)(m:Nat)(U:List AV)(B:Heap)(k:List AV->Heap->List Nat->Option β):Option β :=
 if B4x ops m then
  D7h P rk ops (ops.toList.take m) [] U B fun U1 B1 D1 =>
  match D1 with
  | []=>C3q P rk ops (ops.toList.drop m) U1 B1 k
  | _=>none
 else none
def B2v(P:Program)(rk:RecK β)(ops:Array Oper)(m:Nat)(U:List AV)(B:Heap)(k:List AV->Heap->List Nat->Option β):Option β :=
 if C0d ops m then
  D7h P rk ops (ops.toList.take m) [] U B fun U1 B1 D1 =>
  match D1 with
  | []=>D7h P rk ops (ops.toList.drop m) [] U1 B1 fun U2 B2 D2=>if decide (m<=ops.size)&&C6s ops (gN P) U1 D2 m then k U2 B2 D2 else none
  | _=>none
 else none
def E5o(P:Program)(rk:RecK β)(ops:Array Oper)(U:List AV)(B:Heap)(k:List AV->Heap->List Nat->Option β):Option β :=
 match A9m ops with
 | some p=>B2v P rk (A8s ops p.1) p.2 U B k
 | none=>if B4x ops (B5z ops) then C7q P rk ops (B5z ops) U B k else B2v P rk ops (C0c ops) U B k
def D8a(rk:RecK β)(f:AV)(U:List AV)(ps:Array Tmp)(as body:Code)(B:Heap)(k:KV β):Option β :=
 match f with
 | .func (.func g) first captured =>
  rk.call g (first++[AV.func (.yield B.length) [] []]++captured) (B++[AObj.loop { state:=.ready,pending:=none,tmps:=U,params:=ps,assign:=as,body }]) k
 | _=>none
def F3(P:Program)(rk:RecK β)(bp:Bps):Code->List AV->Heap->KE β->Option β
 | .skip,U,B,k=>k .normal U B []
 | .label _,U,B,k=>k .normal U B []
 | .exit id,U,B,k=>k (.exit id) U B []
 | .ret,U,B,k=>k .ret U B []
 | .region _ ops false,U,B,k=>C3q P rk ops ops.toList U B fun U B D=>k .normal U B D
 | .region _ ops true,U,B,k=>E5o P rk ops U B fun U B D=>k .normal U B D
 | .seq a b,U,B,k =>
  F3 P rk bp a U B fun e U1 B1 D1 =>
  match e with
  | .normal=>F3 P rk bp b U1 B1 fun e U2 B2 D2=>k e U2 B2 (D1++D2)
  | .exit id=>k (.exit id) U1 B1 D1
  | .ret=>k .ret U1 B1 D1
 | .cond c a b,U0,B,k =>
  D2m U0 (C6b c) fun U =>
  match M4 (gN P) U c with
  | .bool true=>F3 P rk bp a U B k
  | .bool false=>F3 P rk bp b U B k
  | _=>none
 | .block id c,U,B,k =>
  match bp id with
  | some g=>(g U B).bind fun y=>k y.1 y.2.1 y.2.2.1 y.2.2.2
  | none =>
   F3 P rk bp c U B fun e U1 B1 D1 =>
   match e with
   | .normal=>k .normal U1 B1 D1
   | .exit id'=>k (if id'=id then .normal else .exit id') U1 B1 D1
   | .ret=>k .ret U1 B1 D1
 | .loop c,U,B,k =>
  F3 P rk bp c U B fun e U1 B1 D1 =>
  match e with
  | .normal=>A4m U1 fun U1=>C0v B1 fun B1=>rk.exec bp (.loop c) U1 B1 fun e U2 B2 D2=>k e U2 B2 (D1++D2)
  | .exit id=>k (.exit id) U1 B1 D1
  | .ret=>k .ret U1 B1 D1
 | .scope c,U,B,k=>F3 P rk bp c U B k
 | .rangeFunc f ps as body,U,B,k =>
  D8a rk (M4 (gN P) U f) U ps as body B fun _ B1 D1 =>
  match B1[B.length]? with
  | some (.loop lo) =>
   if lo.state=.busy then none else
   match lo.pending with
   | none=>k .normal U (B1.set B.length (.loop { lo with state:=.exhausted })) (D1++[B.length])
   | some .ret=>k .ret U (B1.set B.length (.loop { lo with state:=.exhausted })) (D1++[B.length])
   | some (.exit id)=>k (.exit id) U (B1.set B.length (.loop { lo with state:=.exhausted })) (D1++[B.length])
   | _=>none
  | _=>none
 | _,_,_,_=>none
def E5g(P:Program)(prims:Prims)(rk:RecK β)(f:FuncId)(args:List AV)(B:Heap)(k:KV β):Option β :=
 match prims.fn f with
 | some g=>(g args B).bind fun y=>k y.1 y.2.1 y.2.2
 | none =>
  match P.funcs[f]? with
  | none=>none
  | some fn =>
   match fn.body with
   | none=>none
   | some c =>
    A4m args fun args=>C0v B fun B =>
    F3 P rk (prims.blk f) c (args++List.replicate (fn.ntmps-args.length) G8) B fun e U B' D =>
    match e with
    | .exit _=>none
    | _ =>
     match Y5 P B' U fn.results.toList with
     | some l =>
      match gc B (A2i l) B' D with
      | (v,B2,D2)=>k v B2 D2
     | none=>none
def D6(P:Program)(prims:Prims):Nat->RecK β
 | 0=>{ exec:=fun _ _ _ _ _=>none,call:=fun _ _ _ _=>none,ext:=prims.ext }
 | n+1=>{ exec:=F3 P (D6 P prims n),call:=E5g P prims (D6 P prims n),ext:=prims.ext }
variable {P:Program} {prims:Prims}
structure RefK (P:Program) (prims:Prims) (rk:RecK β):Prop where
 exec:∀ bp c U B k x,rk.exec bp c U B k=some x->∃ e U' B' D,Ex P prims bp c U B (e,U',B',D)/\k e U' B' D=some x
 call:∀ f args B k x,rk.call f args B k=some x->∃ v B' D,Ca P prims f args B (v,B',D)/\k v B' D=some x
 ext:rk.ext=prims.ext
theorem A2p{b:Bool}{t f:Option β}{x:β}(h:brK b t f=some x):(b=true/\t=some x) \/ (b=false/\f=some x):=by
 cases b with
 | true=>exact .inl ⟨rfl,h⟩
 | false=>exact .inr ⟨rfl,h⟩
theorem Tr.bind_some{α:Type}:∀ {t:Tr α} {k:α->Option β} {x:β},t.bind k=some x->∃ a,t.get=some a/\k a=some x
 | .leaf a,k,x,h=>⟨a,rfl,h⟩
 | .br b t f,k,x,h=>by
  rcases A2p h with⟨rfl,h⟩ | ⟨rfl,h⟩
  ·exact Tr.bind_some (t:=t) h
  ·exact Tr.bind_some (t:=f) h
 | .fail,_,_,h=>by cases h
theorem B0x{U:List AV}{d:Option Tmp}{k:List AV->Option β}{x:β}(h:D2m U d k=some x):k (B0b U d)=some x:=by
  unfold D2m at h
  split at h
  · exact h
  · rename_i d
    split at h
    · rename_i b hb
      simp only[B0b,norm,hb]
      rcases A2p h with⟨rfl,h⟩ | ⟨rfl,h⟩<;>exact h
    · rename_i hn
      simp only[B0b,norm]
      first
      | exact h
      | (split
         · rename_i hb; exact(hn _ hb).elim
         · exact h)
theorem C3x{n:Int}{k:Nat->Option β}{x:β}:∀ {f j:Nat},G4p n f j k=some x->∃ i:Nat,n=(i:Int)/\k i=some x
 | 0,_,h=>by cases h
 | f+1,j,h=>by
  rcases A2p h with⟨h1,h2⟩ | ⟨_,h2⟩
  ·exact⟨j,by simpa using h1,h2⟩
  ·exact C3x h2
theorem D5s{a:AV}{k:IntKind}{n:Int}(h:M8 a=some (k,n)):cnI a=.int k n:=by
 unfold M8 at h
 split at h<;>first | (cases h; done) | (cases h; rfl)
theorem F3h{U:Operand->AV}{B:Heap}{op:Op}{k:IntKind}{n:Int}{m j:Nat}(h:F1k P U op=some (k,n,m))(hn:n=(j:Int)):E4z P U B op k j=U8 P U B op:=by
 subst hn
 unfold F1k at h
 split at h
 ·split at h
  ·cases h
  ·split at h
   ·rename_i h1 _; cases h; simp only[E4z,U8,D5s h1]
   ·rename_i h1 _ _; cases h; simp only[E4z,U8,D5s h1]
   ·cases h
 ·split at h
  ·cases h
  ·split at h
   ·rename_i h1 _; cases h; simp only[E4z,U8,D5s h1]
   ·cases h
 ·cases h
theorem E8v{U:Operand->AV}{B:Heap}{op:Op}{k:KV β}{x:β}(h:opK P U B op k=some x):∃ v B' D,aop P U B op=some (v,B',D)/\k v B' D=some x:=by
 unfold opK at h
 unfold aop
 split at h
 ·rename_i c v hc
  rcases A2p h with⟨rfl,h⟩ | ⟨_,h⟩
  ·exact⟨v,B,[],by simp only[hc,if_true],h⟩
  ·cases h
 ·rename_i hc
  split at h
  ·rename_i c v B' D hv
   rcases A2p h with⟨rfl,h⟩ | ⟨_,h⟩
   ·exact⟨v,B',D,by simp only[hc,hv,if_true],h⟩
   ·cases h
  rename_i hv
  split at h
  ·rename_i kd n m hs
   obtain⟨i,hi,h⟩:=C3x h
   rw[F3h hs hi] at h
   split at h
   ·rename_i v B' D h1
    exact⟨v,B',D,by simp only[hc,hv,h1],h⟩
   ·cases h
  ·split at h
   ·rename_i v B' D h1
    exact⟨v,B',D,by simp only[hc,hv,h1],h⟩
   ·cases h
variable {rk:RecK β}
theorem D3p(hr:RefK P prims rk){l:Nat}{args:List AV}{B:Heap}{k:KV β}{x:β}(h:D8e rk l args B k=some x) :
  ∃ v B' D,Ev P prims (fun r=>A6d r l args B) (v,B',D)/\k v B' D=some x:=by
 unfold D8e at h
 split at h
 ·rename_i lo hl
  split at h
  ·rename_i hn
   obtain⟨e,U1,B1,D1,⟨n1,h1⟩,h⟩:=hr.exec _ _ _ _ _ _ h
   split at h
   ·split at h
    ·rename_i lo1 hl1
     split at h
     ·rename_i hst
      obtain⟨e2,U2,B2,D2,⟨n2,h2⟩,h⟩:=hr.exec _ _ _ _ _ _ h
      split at h
      ·rename_i lo2 hl2
       cases e2 with
       | normal=>exact⟨_,_,_,⟨max n1 n2,fun m hm=>by simp only[A6d,hl,if_pos hn,h1 m (by omega),hl1,if_pos hst,h2 m (by omega),hl2]⟩,h⟩
       | ret=>exact⟨_,_,_,⟨max n1 n2,fun m hm=>by simp only[A6d,hl,if_pos hn,h1 m (by omega),hl1,if_pos hst,h2 m (by omega),hl2]⟩,h⟩
       | exit id=>exact⟨_,_,_,⟨max n1 n2,fun m hm=>by simp only[A6d,hl,if_pos hn,h1 m (by omega),hl1,if_pos hst,h2 m (by omega),hl2]⟩,h⟩
      ·cases h
     ·cases h
    ·cases h
   ·cases h
  ·cases h
 ·cases h
theorem C9v(hr:RefK P prims rk){f:AV}{args:List AV}{B:Heap}{k:KV β}{x:β}(h:D5r rk f args B k=some x) :
  ∃ v B' D,Ev P prims (fun r=>B7o r f args B) (v,B',D)/\k v B' D=some x:=by
 unfold D5r at h
 split at h
 ·exact hr.call _ _ _ _ _ h
 ·exact D3p hr h
 ·cases h
theorem C3o(hr:RefK P prims rk){U:Operand->AV}{B:Heap}{op:Op}{k:KV β}{x:β}(h:F6c P rk U B op k=some x) :
    ∃ v B' D,Ev P prims (fun r=>N7 P r U B op) (v,B',D)/\k v B' D=some x:=by
  have hxr:∀ m,(run P prims m).ext=prims.ext:=fun m=>by cases m<;>rfl
  unfold F6c at h
  split at h
  · rw[hr.ext] at h
    split at h
    · rename_i hx
      split at h
      · rename_i v hv
        exact⟨v,B,[],⟨0,fun m _=>by simp only[N7,hxr,hx,only,hv,oS]⟩,h⟩
      · cases h
    · rename_i hx
      obtain⟨v,B',D,⟨n,h1⟩,h2⟩:=C9v hr h
      exact⟨v,B',D,⟨n,fun m hm=>by simp only[N7,hxr,hx]; exact h1 m hm⟩,h2⟩
  · rename_i hn
    obtain⟨v,B',D,h1,h2⟩:=E8v h
    refine⟨v,B',D,⟨0,fun m _=>?_⟩,h2⟩
    show N7 P _ U B _=_
    unfold N7
    first
    | exact h1
    | (split
       · exact(hn _ _ _ rfl).elim
       · exact h1)
def KOK(κ:List (Tmp×Bool))(U:List AV):Prop:=∀ d v,B0a κ d=some v->U[d]?=some (.sbool v)
theorem KOK.nil(U:List AV):KOK [] U:=fun _ _ h=>by cases h
theorem B0w:∀ {κ:List (Tmp×Bool)} {x d:Tmp} {v:Bool},B0a (B4r κ (some x)) d=some v->B0a κ d=some v/\d≠x
 | [],_,_,_,h=>by cases h
 | (y,b)::r,x,d,v,h=>by
  simp only[B4r] at h
  split at h
  ·rename_i e
   obtain⟨h1,h2⟩:=B0w h
   refine⟨?_,h2⟩
   simp only[B0a]
   rw[if_neg (by rw[<- e]; exact h2)]; exact h1
  ·rename_i e
   simp only[B0a] at h ⊢
   split at h
   ·rename_i e2
    rw[if_pos e2]; exact⟨h,fun h3=>e (by rw[<- h3,e2])⟩
   ·rename_i e2
    rw[if_neg e2]; exact B0w h
theorem KOK.put{κ:List (Tmp×Bool)}{U:List AV}(h:KOK κ U)(d:Option Tmp)(v:AV):KOK (B4r κ d) (R9 U d v):=by
 intro x b hx
 cases d with
 | none=>exact h x b (by simpa[B4r] using hx)
 | some d =>
  obtain⟨h1,h2⟩:=B0w hx
  simp only[R9]
  rw[List.getElem?_set,if_neg (Ne.symm h2)]
  exact h x b h1
theorem B5a{κ:List (Tmp×Bool)}{U:List AV}(hk:KOK κ U){d:Option Tmp}{k:List (Tmp×Bool)->Option β}{x:β}(h:splitK κ U d k=some x):∃ κ',KOK κ' U/\k κ'=some x:=by
 unfold splitK at h
 split at h
 ·exact⟨κ,hk,h⟩
 ·rename_i d
  split at h
  ·exact⟨κ,hk,h⟩
  ·split at h
   ·rename_i b hb
    have key:∀ v,b=v->KOK ((d,v)::κ) U:=fun v e y u hy=>by
     simp only[B0a] at hy
     split at hy
     ·rename_i e2; cases hy; rw[e2,<- e]; exact hb
     ·exact hk y u hy
    rcases A2p h with⟨e,h⟩ | ⟨e,h⟩
    ·exact⟨_,key true e,h⟩
    ·exact⟨_,key false e,h⟩
   ·exact⟨κ,hk,h⟩
theorem D3n{ops:Array Oper}{κ:List (Tmp×Bool)}{U:List AV}(hk:KOK κ U){o:Oper}{b:Bool}(h:F2d ops κ U o=some b):A1h ops U o=some b:=by
 unfold F2d at h
 split at h
 ·rename_i hg; cases h; simp only[A1h,hg]
 ·rename_i j want hg
  split at h
  ·rename_i hd; cases h; simp only[A1h,hg,hd]
  ·rename_i d hd
   split at h
   ·rename_i v hv
    cases h
    simp only[A1h,hg,hd,hk d v hv]
   ·exact h
theorem D7f(hr:RefK P prims rk){κ:List (Tmp×Bool)}{U:List AV}(hk:KOK κ U){B:Heap}{op:Op}{k:KV β}{x:β}(h:E8u P rk κ (M4 (gN P) U) B op k=some x) :
  ∃ v B' D,Ev P prims (fun r=>N7 P r (M4 (gN P) U) B op) (v,B',D)/\k v B' D=some x:=by
 unfold E8u at h
 split at h
 ·rename_i a ha
  unfold G1a at ha
  split at ha
  ·rename_i d y z
   simp only[oM] at ha
   obtain⟨t,h1,rfl⟩:=ha
   have h2:=hk d t h1
   refine⟨_,B,[],⟨0,fun m _=>?_⟩,h⟩
   have h3:M4 (gN P) U (.tmp d)=.sbool t:=by simp only[M4,gD,h2,Option.getD_some]
   show N7 P _ _ B _=_
   simp only[N7,aop,A0k,A2c,U4,M0,X7,atl,aqs,afz,afl,afs,U8,h3,only,oS,Option.map_none]
   cases t<;>rfl
  ·cases ha
 ·exact C3o hr h
theorem A5v(hr:RefK P prims rk){ops:Array Oper}:∀ {l:List Oper} {κ:List (Tmp×Bool)} {U:List AV} {B:Heap} {k:List AV->Heap->List Nat->Option β} {x:β},KOK κ U->D7h P rk ops l κ U B k=some x ->
  ∃ U' B' D,Ev P prims (fun r=>N8 P r ops l U B) (U',B',D)/\k U' B' D=some x
 | [],_,U,B,k,x,_,h=>⟨U,B,[],⟨0,fun _ _=>rfl⟩,h⟩
 | o::l,κ0,U,B,k,x,hk0,h=>by
  unfold D7h at h
  obtain⟨κ1,hk1,h⟩:=B5a hk0 h
  obtain⟨κ,hk,h⟩:=B5a hk1 h
  split at h
  ·rename_i hw
   have hw:=D3n hk hw
   obtain⟨v,B1,D1,⟨n1,h1⟩,h⟩:=D7f hr hk h
   rw[O8] at h
   obtain⟨U2,B2,D2,⟨n2,h2⟩,h⟩:=A5v hr (hk.put o.dst v) h
   exact⟨U2,B2,D1++D2,⟨max n1 n2,fun m hm=>by simp only[N8,hw,h1 m (by omega),O8,h2 m (by omega)]⟩,h⟩
  ·rename_i hw
   have hw:=D3n hk hw
   obtain⟨U2,B2,D2,⟨n2,h2⟩,h⟩:=A5v hr (hk.put o.dst G8) h
   exact⟨U2,B2,D2,⟨n2,fun m hm=>by simp only[N8,hw,h2 m hm]⟩,h⟩
  ·cases h
theorem A6x(hr:RefK P prims rk){ops:Array Oper}:∀ {l:List Oper} {U:List AV} {B:Heap} {k:List AV->Heap->List Nat->Option β} {x:β},C3q P rk ops l U B k=some x ->
  ∃ U' B' D,Ev P prims (fun r=>A4t P r ops l U B) (U',B',D)/\k U' B' D=some x
 | [],U,B,k,x,h=>⟨U,B,[],⟨0,fun _ _=>rfl⟩,h⟩
 | o::l,U,B,k,x,h=>by
  unfold C3q at h
  have h:=B0x (B0x h)
  split at h
  ·rename_i hw
   obtain⟨v,B1,D1,⟨n1,h1⟩,h⟩:=C3o hr h
   rw[O8] at h
   obtain⟨U2,B2,D2,⟨n2,h2⟩,h⟩:=A6x hr h
   exact⟨U2,B2,D1++D2,⟨max n1 n2,fun m hm=>by simp only[A4t,hw,h1 m (by omega),O8,h2 m (by omega)]⟩,h⟩
  ·rename_i hw
   obtain⟨U2,B2,D2,⟨n2,h2⟩,h⟩:=A6x hr h
   exact⟨U2,B2,D2,⟨n2,fun m hm=>by simp only[A4t,hw,h2 m hm]⟩,h⟩
  ·cases h
theorem C7r(hr:RefK P prims rk){ops:Array Oper}{m:Nat}{U:List AV}{B:Heap}{k:List AV->Heap->List Nat->Option β}{x:β}(h:C7q P rk ops m U B k=some x) :
  ∃ U' B' D,Ev P prims (fun r=>A6c P r ops m U B) (U',B',D)/\k U' B' D=some x:=by
 unfold C7q at h
 split at h
 ·rename_i hreg
  obtain⟨U1,B1,D1,⟨n1,h1⟩,h⟩:=A5v hr (.nil _) h
  split at h
  ·obtain⟨U2,B2,D2,⟨n2,h2⟩,h⟩:=A6x hr h
   exact⟨U2,B2,D2,⟨max n1 n2,fun m hm=>by simp only[A6c,if_pos hreg,h1 m (by omega),h2 m (by omega)]⟩,h⟩
  ·cases h
 ·cases h
theorem B0d(hr:RefK P prims rk){ops:Array Oper}{m:Nat}{U:List AV}{B:Heap}{k:List AV->Heap->List Nat->Option β}{x:β}(h:B2v P rk ops m U B k=some x) :
  ∃ U' B' D,Ev P prims (fun r=>A2o P r ops m U B) (U',B',D)/\k U' B' D=some x:=by
 unfold B2v at h
 split at h
 ·rename_i hreg
  obtain⟨U1,B1,D1,⟨n1,h1⟩,h⟩:=A5v hr (.nil _) h
  split at h
  ·obtain⟨U2,B2,D2,⟨n2,h2⟩,h⟩:=A5v hr (.nil _) h
   split at h
   ·rename_i hl
    exact⟨U2,B2,D2,⟨max n1 n2,fun m hm=>by simp only[A2o,if_pos hreg,h1 m (by omega),h2 m (by omega),if_pos hl]⟩,h⟩
   ·cases h
  ·cases h
 ·cases h
theorem D5v(hr:RefK P prims rk){ops:Array Oper}{U:List AV}{B:Heap}{k:List AV->Heap->List Nat->Option β}{x:β}(h:E5o P rk ops U B k=some x) :
  ∃ U' B' D,Ev P prims (fun r=>B1s P r ops U B) (U',B',D)/\k U' B' D=some x:=by
 unfold E5o at h
 cases hp:A9m ops with
 | some p =>
  rw[hp] at h
  obtain⟨U',B',D,⟨n,h1⟩,h2⟩:=B0d hr h
  exact⟨U',B',D,⟨n,fun m hm=>by simp only[B1s,hp,h1 m hm]⟩,h2⟩
 | none =>
  rw[hp] at h
  simp only at h
  split at h
  ·rename_i hreg
   obtain⟨U',B',D,⟨n,h1⟩,h2⟩:=C7r hr h
   exact⟨U',B',D,⟨n,fun m hm=>by simp only[B1s,hp,B7s,if_pos hreg,h1 m hm]⟩,h2⟩
  ·rename_i hreg
   obtain⟨U',B',D,⟨n,h1⟩,h2⟩:=B0d hr h
   exact⟨U',B',D,⟨n,fun m hm=>by simp only[B1s,hp,B7s,if_neg hreg,h1 m hm]⟩,h2⟩
theorem D3i(hr:RefK P prims rk){f:AV}{U:List AV}{ps:Array Tmp}{as body:Code}{B:Heap}{k:KV β}{x:β}(h:D8a rk f U ps as body B k=some x) :
  ∃ v B' D,Ev P prims (fun r=>B8c r f U ps as body B) (v,B',D)/\k v B' D=some x:=by
 unfold D8a at h
 split at h
 ·exact hr.call _ _ _ _ _ h
 ·cases h
theorem A3z(hr:RefK P prims rk){bp:Bps}:∀ {c:Code} {U:List AV} {B:Heap} {k:KE β} {x:β},F3 P rk bp c U B k=some x ->
  ∃ e U' B' D,Ev P prims (fun r=>J9 P r bp c U B) (e,U',B',D)/\k e U' B' D=some x:=by
 intro c
 induction c with
 | skip=>intro U B k x h; exact⟨_,_,_,_,⟨0,fun _ _=>rfl⟩,h⟩
 | label l=>intro U B k x h; exact⟨_,_,_,_,⟨0,fun _ _=>rfl⟩,h⟩
 | exit id=>intro U B k x h; exact⟨_,_,_,_,⟨0,fun _ _=>rfl⟩,h⟩
 | ret=>intro U B k x h; exact⟨_,_,_,_,⟨0,fun _ _=>rfl⟩,h⟩
 | goto l=>intro U B k x h; simp[F3] at h
 | refuse y=>intro U B k x h; simp[F3] at h
 | region id ops draw =>
  intro U B k x h
  cases draw with
  | false =>
   simp only[F3] at h
   obtain⟨U1,B1,D1,⟨n1,h1⟩,h⟩:=A6x hr h
   exact⟨_,_,_,_,⟨n1,fun m hm=>by simp only[J9,h1 m hm,oS]⟩,h⟩
  | true =>
   simp only[F3] at h
   obtain⟨U1,B1,D1,⟨n1,h1⟩,h⟩:=D5v hr h
   exact⟨_,_,_,_,⟨n1,fun m hm=>by simp only[J9,h1 m hm,oS]⟩,h⟩
 | seq a b iha ihb =>
  intro U B k x h
  simp only[F3] at h
  obtain⟨e,U1,B1,D1,⟨n1,h1⟩,h⟩:=iha h
  split at h
  ·obtain⟨e2,U2,B2,D2,⟨n2,h2⟩,h⟩:=ihb h
   exact⟨_,_,_,_,⟨max n1 n2,fun m hm=>by simp only[J9,h1 m (by omega),h2 m (by omega),B3k]⟩,h⟩
  ·exact⟨_,_,_,_,⟨n1,fun m hm=>by simp only[J9,h1 m hm]⟩,h⟩
  ·exact⟨_,_,_,_,⟨n1,fun m hm=>by simp only[J9,h1 m hm]⟩,h⟩
 | cond c a b iha ihb =>
  intro U B k x h
  simp only[F3] at h
  have h:=B0x h
  split at h
  ·rename_i hc
   obtain⟨e,U1,B1,D1,⟨n1,h1⟩,h⟩:=iha h
   exact⟨_,_,_,_,⟨n1,fun m hm=>by simp only[J9,hc,h1 m hm]⟩,h⟩
  ·rename_i hc
   obtain⟨e,U1,B1,D1,⟨n1,h1⟩,h⟩:=ihb h
   exact⟨_,_,_,_,⟨n1,fun m hm=>by simp only[J9,hc,h1 m hm]⟩,h⟩
  ·cases h
 | block id c ih =>
  intro U B k x h
  simp only[F3] at h
  split at h
  ·rename_i g hg
   obtain⟨y,h1,h2⟩:=Tr.bind_some h
   exact⟨y.1,y.2.1,y.2.2.1,y.2.2.2,⟨0,fun m _=>by simp only[J9,hg,h1]⟩,h2⟩
  ·rename_i hg
   obtain⟨e,U1,B1,D1,⟨n1,h1⟩,h⟩:=ih h
   split at h
   ·exact⟨_,_,_,_,⟨n1,fun m hm=>by simp only[J9,hg,h1 m hm]⟩,h⟩
   ·exact⟨_,_,_,_,⟨n1,fun m hm=>by simp only[J9,hg,h1 m hm]⟩,h⟩
   ·exact⟨_,_,_,_,⟨n1,fun m hm=>by simp only[J9,hg,h1 m hm]⟩,h⟩
 | loop c ih =>
  intro U B k x h
  simp only[F3] at h
  obtain⟨e,U1,B1,D1,⟨n1,h1⟩,h⟩:=ih h
  split at h
  ·simp only[V8,A1v] at h
   obtain⟨e2,U2,B2,D2,⟨n2,h2⟩,h⟩:=hr.exec _ _ _ _ _ _ h
   exact⟨_,_,_,_,⟨max n1 n2,fun m hm=>by simp only[J9,h1 m (by omega),V8,A1v,h2 m (by omega),B3k]⟩,h⟩
  ·exact⟨_,_,_,_,⟨n1,fun m hm=>by simp only[J9,h1 m hm]⟩,h⟩
  ·exact⟨_,_,_,_,⟨n1,fun m hm=>by simp only[J9,h1 m hm]⟩,h⟩
 | scope c ih =>
  intro U B k x h
  exact ih h
 | rangeFunc f ps as body _ _ =>
  intro U B k x h
  simp only[F3] at h
  obtain⟨v,B1,D1,⟨n1,h1⟩,h⟩:=D3i hr h
  split at h
  ·rename_i lo hl
   split at h
   ·cases h
   ·rename_i hst
    split at h
    ·rename_i hp
     exact⟨_,_,_,_,⟨n1,fun m hm=>by simp only[J9,h1 m hm,hl,if_neg hst,hp]⟩,h⟩
    ·rename_i hp
     exact⟨_,_,_,_,⟨n1,fun m hm=>by simp only[J9,h1 m hm,hl,if_neg hst,hp]⟩,h⟩
    ·rename_i hp
     exact⟨_,_,_,_,⟨n1,fun m hm=>by simp only[J9,h1 m hm,hl,if_neg hst,hp]⟩,h⟩
    ·cases h
  ·cases h
theorem D5q(hr:RefK P prims rk){f:FuncId}{args:List AV}{B:Heap}{k:KV β}{x:β}(h:E5g P prims rk f args B k=some x) :
  ∃ v B' D,Ev P prims (fun r=>A8b P prims r f args B) (v,B',D)/\k v B' D=some x:=by
 unfold E5g at h
 split at h
 ·rename_i g hg
  obtain⟨y,h1,h2⟩:=Tr.bind_some h
  exact⟨y.1,y.2.1,y.2.2,⟨0,fun m _=>by simp only[A8b,hg,h1]⟩,h2⟩
 ·rename_i hg
  split at h
  ·cases h
  ·rename_i fn hfn
   split at h
   ·cases h
   ·rename_i c hc
    simp only[V8,A1v] at h
    obtain⟨e,U1,B1,D1,⟨n1,h1⟩,h⟩:=A3z hr h
    split at h
    ·cases h
    ·rename_i hn
     split at h
     ·rename_i l hl
      refine⟨_,_,_,⟨n1,fun m hm=>?_⟩,h⟩
      simp only[A8b,hg,hfn,hc,V8,A1v,h1 m hm]
      cases e with
      | exit id=>exact(hn id rfl).elim
      | normal=>simp only[hl]
      | ret=>simp only[hl]
     ·cases h
theorem A4i:∀ n,RefK P prims (D6 (β:=β) P prims n)
 | 0=>⟨fun _ _ _ _ _ _ h=>by simp[D6] at h,fun _ _ _ _ _ h=>by simp[D6] at h,rfl⟩
 | n+1=>by
  have ih:=A4i n
  refine⟨fun bp c U B k x h=>?_,fun f args B k x h=>?_,rfl⟩
  ·obtain⟨e,U',B',D,h1,h2⟩:=A3z ih h
   exact⟨e,U',B',D,h1.exec,h2⟩
  ·obtain⟨v,B',D,h1,h2⟩:=D5q ih h
   exact⟨v,B',D,h1.call,h2⟩
def fin:KV (AV×Heap×List Nat):=fun v B D=>some (v,B,D)
theorem Ca.of_runK{n:Nat}{f:FuncId}{args:List AV}{B:Heap}{y:AV×Heap×List Nat}(h:(D6 P prims n).call f args B fin=some y):Ca P prims f args B y:=by
 obtain⟨v,B',D,h1,h2⟩:=(A4i n).call _ _ _ _ _ h
 simp only[fin,sI] at h2
 subst h2; exact h1
end
end Go.Ad
