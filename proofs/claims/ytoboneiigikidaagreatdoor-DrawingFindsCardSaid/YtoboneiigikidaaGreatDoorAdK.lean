/- The evaluator by cases: where a truth value is not known it goes on in both ways. It is held against the direct evaluator, with as much fuel as that needs. -/
import Derived.Test.YtoboneiigikidaaGreatDoorAdFrame
namespace Go.Ad
structure Rec.le (r r':Rec):Prop where
 exec:∀ bp c U B y,r.exec bp c U B=some y->r'.exec bp c U B=some y
 call:∀ f args B y,r.call f args B=some y->r'.call f args B=some y
 ext:r.ext=r'.ext
section
variable {P:Program} {r r':Rec}
end
def Ev(P:Program)(prims:Prims){γ:Type}(F:Rec->Option γ)(y:γ):Prop:=∃ n,∀ m,n<=m->F (run P prims m)=some y
abbrev Ex(P:Program)(prims:Prims)(bp:Bps)(c:Code)(U:List AV)(B:Heap)(y:AEx×List AV×Heap×List Nat):Prop:=Ev P prims (fun r=>r.exec bp c U B) y
abbrev Ca(P:Program)(prims:Prims)(f:FuncId)(args:List AV)(B:Heap)(y:AV×Heap×List Nat):Prop:=Ev P prims (fun r=>r.call f args B) y
section
variable {P:Program} {prims:Prims}
theorem Ev.exec{bp:Bps}{c:Code}{U:List AV}{B:Heap}{y:AEx×List AV×Heap×List Nat}(h:Ev P prims (fun r=>J7 P r bp c U B) y):Ex P prims bp c U B y:=by
 obtain⟨n,h⟩:=h
 refine⟨n+1,fun m hm=>?_⟩
 obtain⟨m,rfl⟩:∃ k,m=k+1:=⟨m-1,by omega⟩
 exact h m (by omega)
theorem Ev.call{f:FuncId}{args:List AV}{B:Heap}{y:AV×Heap×List Nat}(h:Ev P prims (fun r=>A7s P prims r f args B) y):Ca P prims f args B y:=by
 obtain⟨n,h⟩:=h
 refine⟨n+1,fun m hm=>?_⟩
 obtain⟨m,rfl⟩:∃ k,m=k+1:=⟨m-1,by omega⟩
 exact h m (by omega)
theorem Ca.run{f:FuncId}{args:List AV}{B:Heap}{y:AV×Heap×List Nat}(h:Ca P prims f args B y):∃ n,(Ad.run P prims n).call f args B=some y :=
 let ⟨n,h⟩:=h; ⟨n,h n (lR _)⟩
end
def brK{β:Type}(b:Bool)(t f:Option β):Option β:=match b with
 | true=>t
 | false=>f
def Tr.bind{α β:Type}:Tr α->(α->Option β)->Option β
 | .leaf a,k=>k a
 | .br b t f,k=>brK b (t.bind k) (f.bind k)
 | .fail,_=>none
abbrev KE(β:Type):=AEx->List AV->Heap->List Nat->Option β
abbrev KV(β:Type):=AV->Heap->List Nat->Option β
structure RecK (β:Type) where
 exec:Bps->Code->List AV->Heap->KE β->Option β
 call:FuncId->List AV->Heap->KV β->Option β
 ext:FuncId->Option (List AV->Option AV)
section
variable {β:Type}
def D2o(U:List AV)(d:Option Tmp)(k:List AV->Option β):Option β :=
 match d with
 | none=>k U
 | some d =>
  match U[d]? with
  | some (.sbool b)=>brK b (k (U.set d (.bool true))) (k (U.set d (.bool false)))
  | _=>k U
def F1k(P:Program)(U:Operand->AV)(op:Op):Option (IntKind×Int×Nat) :=
 match op with
 | .indexAddr t x i =>
  match U i with
  | .int ..=>none
  | _ =>
   match Q9 (U i),P.underlying t,U x with
   | some (k,n),some (.array m _),_=>some (k,n,m)
   | some (k,n),some (.slice _),.slice _ m _=>some (k,n,m)
   | _,_,_=>none
 | .index t _ i =>
  match U i with
  | .int ..=>none
  | _ =>
   match Q9 (U i),P.underlying t with
   | some (k,n),some (.array m _)=>some (k,n,m)
   | _,_=>none
 | _=>none
def E4s(P:Program)(U:Operand->AV)(B:Heap)(op:Op)(k:IntKind)(j:Nat):A2y :=
 match op with
 | .indexAddr t x _=>only B (Y6 P t (U x) (.int k j))
 | .index t x _=>only B (B3e P t (U x) (.int k j))
 | _=>none
def G5a(n:Int):Nat->Nat->(Nat->Option β)->Option β
 | 0,_,_=>none
 | f+1,j,k=>brK (decide (n=(j:Int))) (k j) (G5a n f (j+1) k)
def opK(P:Program)(U:Operand->AV)(B:Heap)(op:Op)(k:KV β):Option β :=
 match A0c P U op with
 | some (c,v)=>brK c (k v B []) none
 | none =>
  match A1l P U B op with
  | some (c,v,B',D)=>brK c (k v B' D) none
  | none =>
  match F1k P U op with
  | some (kd,n,m)=>G5a n m 0 fun j =>
   match E4s P U B op kd j with
   | some (v,B',D)=>k v B' D
   | none=>none
  | none =>
   match R4 P U B op with
   | some (v,B',D)=>k v B' D
   | none=>none
def D7y(rk:RecK β)(l:Nat)(args:List AV)(B:Heap)(k:KV β):Option β :=
 match B[l]? with
 | some (.loop lo) =>
  if args.length=lo.params.size then
   rk.exec A8f lo.assign ((lo.params.toList.zip args).foldl (fun t (p,a)=>t.set p a) lo.tmps) B fun e U1 B1 D1 =>
   match e with
   | .normal =>
    match B1[l]? with
    | some (.loop lo1) =>
     if lo1.state=.ready then
      rk.exec A8f lo.body U1 (B1.set l (.loop { lo1 with state:=.busy })) fun e _ B2 D2 =>
      match B2[l]? with
      | some (.loop lo2) =>
       match e with
       | .normal=>k (.bool true) (B2.set l (.loop { lo2 with state:=.ready,pending:=none })) (D1++[l]++D2++[l])
       | .ret=>k (.bool false) (B2.set l (.loop { lo2 with state:=.done,pending:=some .ret })) (D1++[l]++D2++[l])
       | .exit id=>k (.bool false) (B2.set l (.loop { lo2 with state:=.done,pending:=some (.exit id) })) (D1++[l]++D2++[l])
      | _=>none
     else none
    | _=>none
   | _=>none
  else none
 | _=>none
def D5p(rk:RecK β)(f:AV)(args:List AV)(B:Heap)(k:KV β):Option β :=
 match f with
 | .func (.func g) first captured=>rk.call g (first++args++captured) B k
 | .func (.yield l) first _=>D7y rk l (first++args) B k
 | _=>none
def F5y(P:Program)(rk:RecK β)(U:Operand->AV)(B:Heap)(op:Op)(k:KV β):Option β :=
 match op with
 | .call { callee:=.value f,args,.. } =>
  match E5n rk.ext (U f) with
  | some h=>match h (args.toList.map U) with
   | some v=>k v B []
   | none=>none
  | none=>D5p rk (U f) (args.toList.map U) B k
 | op=>opK P U B op k
def A9q:List (Tmp×Bool)->Tmp->Option Bool
 | [],_=>none
 | (d,b)::r,x=>if x=d then some b else A9q r x
def B4n:List (Tmp×Bool)->Option Tmp->List (Tmp×Bool)
 | l,none=>l
 | [],_=>[]
 | (d,b)::r,some x=>if x=d then B4n r (some x) else(d,b)::B4n r (some x)
def splitK(κ:List (Tmp×Bool))(U:List AV)(d:Option Tmp)(k:List (Tmp×Bool)->Option β):Option β :=
 match d with
 | none=>k κ
 | some d =>
  match A9q κ d with
  | some _=>k κ
  | none =>
   match U[d]? with
   | some (.sbool b)=>brK b (k ((d,true)::κ)) (k ((d,false)::κ))
   | _=>k κ
def F2d(ops:Array Oper)(κ:List (Tmp×Bool))(U:List AV)(o:Oper):Option Bool :=
 match o.guard with
 | none=>some true
 | some (j,want) =>
  match (ops[j]?).bind (·.dst) with
  | none=>some false
  | some d =>
   match A9q κ d with
   | some b=>some (b==want)
   | none=>A0w ops U o
def G1a(κ:List (Tmp×Bool)):Op->Option Operand
 | .pick (.tmp d) a b=>(A9q κ d).map fun t=>if t then a else b
 | _=>none
def E8r(P:Program)(rk:RecK β)(κ:List (Tmp×Bool))(U:Operand->AV)(B:Heap)(op:Op)(k:KV β):Option β :=
 match G1a κ op with
 | some a=>k (U a) B []
 | none=>F5y P rk U B op k
def D7b(P:Program)(rk:RecK β)(ops:Array Oper):List Oper->List (Tmp×Bool)->List AV->Heap->(List AV->Heap->List Nat->Option β)->Option β
 | [],_,U,B,k=>k U B []
 | o::rest,κ0,U,B,k =>
  splitK κ0 U (B2i ops o) fun κ1=>splitK κ1 U (B5z o) fun κ =>
  match F2d ops κ U o with
  | some true=>E8r P rk κ (M0 (gN P) U) B o.op fun v B1 D1 =>
   P9 v fun v=>D7b P rk ops rest (B4n κ o.dst) (Q5 U o.dst v) B1 fun U2 B2 D2=>k U2 B2 (D1++D2)
  | some false=>D7b P rk ops rest (B4n κ o.dst) (Q5 U o.dst H7) B k
  | none=>none
def C3i(P:Program)(rk:RecK β)(ops:Array Oper):List Oper->List AV->Heap->(List AV->Heap->List Nat->Option β)->Option β
 | [],U,B,k=>k U B []
 | o::rest,U0,B,k =>
  D2o U0 (B2i ops o) fun U1=>D2o U1 (B5z o) fun U =>
  match A0w ops U o with
  | some true=>F5y P rk (M0 (gN P) U) B o.op fun v B1 D1 =>
   P9 v fun v=>C3i P rk ops rest (Q5 U o.dst v) B1 fun U2 B2 D2=>k U2 B2 (D1++D2)
  | some false=>C3i P rk ops rest (Q5 U o.dst H7) B k
  | none=>none
def C7p(P:Program)(rk:RecK β)(ops:Array Oper)(m:Nat)(U:List AV)(B:Heap)(k:List AV->Heap->List Nat->Option β):Option β :=
 if B4u ops m then
  D7b P rk ops (ops.toList.take m) [] U B fun U1 B1 D1 =>
  match D1 with
  | []=>C3i P rk ops (ops.toList.drop m) U1 B1 k
  | _=>none
 else none
def B2p(P:Program)(rk:RecK β)(ops:Array Oper)(m:Nat)(U:List AV)(B:Heap)(k:List AV->Heap->List Nat->Option β):Option β :=
 if B9u ops m then
  D7b P rk ops (ops.toList.take m) [] U B fun U1 B1 D1 =>
  match D1 with
  | []=>D7b P rk ops (ops.toList.drop m) [] U1 B1 fun U2 B2 D2=>if decide (m<=ops.size)&&C6o ops (gN P) U1 D2 m then k U2 B2 D2 else none
  | _=>none
 else none
def E5h(P:Program)(rk:RecK β)(ops:Array Oper)(U:List AV)(B:Heap)(k:List AV->Heap->List Nat->Option β):Option β :=
 match A9a ops with
 | some p=>B2p P rk (A8j ops p.1) p.2 U B k
 | none=>if B4u ops (B5t ops) then C7p P rk ops (B5t ops) U B k else B2p P rk ops (B9t ops) U B k
def D7v(rk:RecK β)(f:AV)(U:List AV)(ps:Array Tmp)(as body:Code)(B:Heap)(k:KV β):Option β :=
 match f with
 | .func (.func g) first captured =>
  rk.call g (first++[AV.func (.yield B.length) [] []]++captured) (B++[AObj.loop { state:=.ready,pending:=none,tmps:=U,params:=ps,assign:=as,body }]) k
 | _=>none
def E8(P:Program)(rk:RecK β)(bp:Bps):Code->List AV->Heap->KE β->Option β
 | .skip,U,B,k=>k .normal U B []
 | .label _,U,B,k=>k .normal U B []
 | .exit id,U,B,k=>k (.exit id) U B []
 | .ret,U,B,k=>k .ret U B []
 | .region _ ops false,U,B,k=>C3i P rk ops ops.toList U B fun U B D=>k .normal U B D
 | .region _ ops true,U,B,k=>E5h P rk ops U B fun U B D=>k .normal U B D
 | .seq a b,U,B,k =>
  E8 P rk bp a U B fun e U1 B1 D1 =>
  match e with
  | .normal=>E8 P rk bp b U1 B1 fun e U2 B2 D2=>k e U2 B2 (D1++D2)
  | .exit id=>k (.exit id) U1 B1 D1
  | .ret=>k .ret U1 B1 D1
 | .cond c a b,U0,B,k =>
  D2o U0 (C5z c) fun U =>
  match M0 (gN P) U c with
  | .bool true=>E8 P rk bp a U B k
  | .bool false=>E8 P rk bp b U B k
  | _=>none
 | .block id c,U,B,k =>
  match bp id with
  | some g=>(g U B).bind fun y=>k y.1 y.2.1 y.2.2.1 y.2.2.2
  | none =>
   E8 P rk bp c U B fun e U1 B1 D1 =>
   match e with
   | .normal=>k .normal U1 B1 D1
   | .exit id'=>k (if id'=id then .normal else .exit id') U1 B1 D1
   | .ret=>k .ret U1 B1 D1
 | .loop c,U,B,k =>
  E8 P rk bp c U B fun e U1 B1 D1 =>
  match e with
  | .normal=>A4c U1 fun U1=>C0k B1 fun B1=>rk.exec bp (.loop c) U1 B1 fun e U2 B2 D2=>k e U2 B2 (D1++D2)
  | .exit id=>k (.exit id) U1 B1 D1
  | .ret=>k .ret U1 B1 D1
 | .scope c,U,B,k=>E8 P rk bp c U B k
 | .rangeFunc f ps as body,U,B,k =>
  D7v rk (M0 (gN P) U f) U ps as body B fun _ B1 D1 =>
  match B1[B.length]? with
  | some (.loop lo) =>
   if lo.state=.busy then none else
   match lo.pending with
   | none=>k .normal U (B1.set B.length (.loop { lo with state:=.exhausted })) (D1++[B.length])
   | some .ret=>k .ret U (B1.set B.length (.loop { lo with state:=.exhausted })) (D1++[B.length])
   | some (.exit id)=>k (.exit id) U (B1.set B.length (.loop { lo with state:=.exhausted })) (D1++[B.length])
   | _=>none
  | _=>none
 | _,_,_,_=>none
def E4z(P:Program)(prims:Prims)(rk:RecK β)(f:FuncId)(args:List AV)(B:Heap)(k:KV β):Option β :=
 match prims.fn f with
 | some g=>(g args B).bind fun y=>k y.1 y.2.1 y.2.2
 | none =>
  match P.funcs[f]? with
  | none=>none
  | some fn =>
   match fn.body with
   | none=>none
   | some c =>
    A4c args fun args=>C0k B fun B =>
    E8 P rk (prims.blk f) c (args++List.replicate (fn.ntmps-args.length) H7) B fun e U B' D =>
    match e with
    | .exit _=>none
    | _ =>
     match X5 P B' U fn.results.toList with
     | some l =>
      match gc B (A1s l) B' D with
      | (v,B2,D2)=>k v B2 D2
     | none=>none
def D5(P:Program)(prims:Prims):Nat->RecK β
 | 0=>{ exec:=fun _ _ _ _ _=>none,call:=fun _ _ _ _=>none,ext:=prims.ext }
 | n+1=>{ exec:=E8 P (D5 P prims n),call:=E4z P prims (D5 P prims n),ext:=prims.ext }
variable {P:Program} {prims:Prims}
structure RefK (P:Program) (prims:Prims) (rk:RecK β):Prop where
 exec:∀ bp c U B k x,rk.exec bp c U B k=some x->∃ e U' B' D,Ex P prims bp c U B (e,U',B',D)/\k e U' B' D=some x
 call:∀ f args B k x,rk.call f args B k=some x->∃ v B' D,Ca P prims f args B (v,B',D)/\k v B' D=some x
 ext:rk.ext=prims.ext
theorem A1y{b:Bool}{t f:Option β}{x:β}(h:brK b t f=some x):(b=true/\t=some x) \/ (b=false/\f=some x):=by
 cases b with
 | true=>exact .inl ⟨rfl,h⟩
 | false=>exact .inr ⟨rfl,h⟩
theorem Tr.bind_some{α:Type}:∀ {t:Tr α} {k:α->Option β} {x:β},t.bind k=some x->∃ a,t.get=some a/\k a=some x
 | .leaf a,k,x,h=>⟨a,rfl,h⟩
 | .br b t f,k,x,h=>by
  rcases A1y h with⟨rfl,h⟩ | ⟨rfl,h⟩
  ·exact Tr.bind_some (t:=t) h
  ·exact Tr.bind_some (t:=f) h
 | .fail,_,_,h=>by cases h
theorem B0o{U:List AV}{d:Option Tmp}{k:List AV->Option β}{x:β}(h:D2o U d k=some x):k (A9r U d)=some x:=by
  unfold D2o at h
  split at h
  · exact h
  · rename_i d
    split at h
    · rename_i b hb
      simp only[A9r,norm,hb]
      rcases A1y h with⟨rfl,h⟩ | ⟨rfl,h⟩<;>exact h
    · rename_i hn
      simp only[A9r,norm]
      first
      | exact h
      | (split
         · rename_i hb; exact(hn _ hb).elim
         · exact h)
theorem C3o{n:Int}{k:Nat->Option β}{x:β}:∀ {f j:Nat},G5a n f j k=some x->∃ i:Nat,n=(i:Int)/\k i=some x
 | 0,_,h=>by cases h
 | f+1,j,h=>by
  rcases A1y h with⟨h1,h2⟩ | ⟨_,h2⟩
  ·exact⟨j,by simpa using h1,h2⟩
  ·exact C3o h2
theorem D5r{a:AV}{k:IntKind}{n:Int}(h:Q9 a=some (k,n)):cnI a=.int k n:=by
 unfold Q9 at h
 split at h<;>first | (cases h; done) | (cases h; rfl)
theorem F3k{U:Operand->AV}{B:Heap}{op:Op}{k:IntKind}{n:Int}{m j:Nat}(h:F1k P U op=some (k,n,m))(hn:n=(j:Int)):E4s P U B op k j=R4 P U B op:=by
 subst hn
 unfold F1k at h
 split at h
 ·split at h
  ·cases h
  ·split at h
   ·rename_i h1 _; cases h; simp only[E4s,R4,D5r h1]
   ·rename_i h1 _ _; cases h; simp only[E4s,R4,D5r h1]
   ·cases h
 ·split at h
  ·cases h
  ·split at h
   ·rename_i h1 _; cases h; simp only[E4s,R4,D5r h1]
   ·cases h
 ·cases h
theorem E8s{U:Operand->AV}{B:Heap}{op:Op}{k:KV β}{x:β}(h:opK P U B op k=some x):∃ v B' D,aop P U B op=some (v,B',D)/\k v B' D=some x:=by
 unfold opK at h
 unfold aop
 split at h
 ·rename_i c v hc
  rcases A1y h with⟨rfl,h⟩ | ⟨_,h⟩
  ·exact⟨v,B,[],by simp only[hc,if_true],h⟩
  ·cases h
 ·rename_i hc
  split at h
  ·rename_i c v B' D hv
   rcases A1y h with⟨rfl,h⟩ | ⟨_,h⟩
   ·exact⟨v,B',D,by simp only[hc,hv,if_true],h⟩
   ·cases h
  rename_i hv
  split at h
  ·rename_i kd n m hs
   obtain⟨i,hi,h⟩:=C3o h
   rw[F3k hs hi] at h
   split at h
   ·rename_i v B' D h1
    exact⟨v,B',D,by simp only[hc,hv,h1],h⟩
   ·cases h
  ·split at h
   ·rename_i v B' D h1
    exact⟨v,B',D,by simp only[hc,hv,h1],h⟩
   ·cases h
variable {rk:RecK β}
theorem D3t(hr:RefK P prims rk){l:Nat}{args:List AV}{B:Heap}{k:KV β}{x:β}(h:D7y rk l args B k=some x) :
  ∃ v B' D,Ev P prims (fun r=>A5v r l args B) (v,B',D)/\k v B' D=some x:=by
 unfold D7y at h
 split at h
 ·rename_i lo hl
  split at h
  ·rename_i hn
   obtain⟨e,U1,B1,D1,⟨n1,h1⟩,h⟩:=hr.exec _ _ _ _ _ _ h
   split at h
   ·split at h
    ·rename_i lo1 hl1
     split at h
     ·rename_i hst
      obtain⟨e2,U2,B2,D2,⟨n2,h2⟩,h⟩:=hr.exec _ _ _ _ _ _ h
      split at h
      ·rename_i lo2 hl2
       cases e2 with
       | normal=>exact⟨_,_,_,⟨max n1 n2,fun m hm=>by simp only[A5v,hl,if_pos hn,h1 m (by omega),hl1,if_pos hst,h2 m (by omega),hl2]⟩,h⟩
       | ret=>exact⟨_,_,_,⟨max n1 n2,fun m hm=>by simp only[A5v,hl,if_pos hn,h1 m (by omega),hl1,if_pos hst,h2 m (by omega),hl2]⟩,h⟩
       | exit id=>exact⟨_,_,_,⟨max n1 n2,fun m hm=>by simp only[A5v,hl,if_pos hn,h1 m (by omega),hl1,if_pos hst,h2 m (by omega),hl2]⟩,h⟩
      ·cases h
     ·cases h
    ·cases h
   ·cases h
  ·cases h
 ·cases h
theorem C9x(hr:RefK P prims rk){f:AV}{args:List AV}{B:Heap}{k:KV β}{x:β}(h:D5p rk f args B k=some x) :
  ∃ v B' D,Ev P prims (fun r=>B7e r f args B) (v,B',D)/\k v B' D=some x:=by
 unfold D5p at h
 split at h
 ·exact hr.call _ _ _ _ _ h
 ·exact D3t hr h
 ·cases h
theorem C3g(hr:RefK P prims rk){U:Operand->AV}{B:Heap}{op:Op}{k:KV β}{x:β}(h:F5y P rk U B op k=some x) :
    ∃ v B' D,Ev P prims (fun r=>M5 P r U B op) (v,B',D)/\k v B' D=some x:=by
  have hxr:∀ m,(run P prims m).ext=prims.ext:=fun m=>by cases m<;>rfl
  unfold F5y at h
  split at h
  · rw[hr.ext] at h
    split at h
    · rename_i hx
      split at h
      · rename_i v hv
        exact⟨v,B,[],⟨0,fun m _=>by simp only[M5,hxr,hx,only,hv,oS]⟩,h⟩
      · cases h
    · rename_i hx
      obtain⟨v,B',D,⟨n,h1⟩,h2⟩:=C9x hr h
      exact⟨v,B',D,⟨n,fun m hm=>by simp only[M5,hxr,hx]; exact h1 m hm⟩,h2⟩
  · rename_i hn
    obtain⟨v,B',D,h1,h2⟩:=E8s h
    refine⟨v,B',D,⟨0,fun m _=>?_⟩,h2⟩
    show M5 P _ U B _=_
    unfold M5
    first
    | exact h1
    | (split
       · exact(hn _ _ _ rfl).elim
       · exact h1)
def KOK(κ:List (Tmp×Bool))(U:List AV):Prop:=∀ d v,A9q κ d=some v->U[d]?=some (.sbool v)
theorem KOK.nil(U:List AV):KOK [] U:=fun _ _ h=>by cases h
theorem B0m:∀ {κ:List (Tmp×Bool)} {x d:Tmp} {v:Bool},A9q (B4n κ (some x)) d=some v->A9q κ d=some v/\d≠x
 | [],_,_,_,h=>by cases h
 | (y,b)::r,x,d,v,h=>by
  simp only[B4n] at h
  split at h
  ·rename_i e
   obtain⟨h1,h2⟩:=B0m h
   refine⟨?_,h2⟩
   simp only[A9q]
   rw[if_neg (by rw[<- e]; exact h2)]; exact h1
  ·rename_i e
   simp only[A9q] at h ⊢
   split at h
   ·rename_i e2
    rw[if_pos e2]; exact⟨h,fun h3=>e (by rw[<- h3,e2])⟩
   ·rename_i e2
    rw[if_neg e2]; exact B0m h
theorem KOK.put{κ:List (Tmp×Bool)}{U:List AV}(h:KOK κ U)(d:Option Tmp)(v:AV):KOK (B4n κ d) (Q5 U d v):=by
 intro x b hx
 cases d with
 | none=>exact h x b (by simpa[B4n] using hx)
 | some d =>
  obtain⟨h1,h2⟩:=B0m hx
  simp only[Q5]
  rw[List.getElem?_set,if_neg (Ne.symm h2)]
  exact h x b h1
theorem B4x{κ:List (Tmp×Bool)}{U:List AV}(hk:KOK κ U){d:Option Tmp}{k:List (Tmp×Bool)->Option β}{x:β}(h:splitK κ U d k=some x):∃ κ',KOK κ' U/\k κ'=some x:=by
 unfold splitK at h
 split at h
 ·exact⟨κ,hk,h⟩
 ·rename_i d
  split at h
  ·exact⟨κ,hk,h⟩
  ·split at h
   ·rename_i b hb
    have key:∀ v,b=v->KOK ((d,v)::κ) U:=fun v e y u hy=>by
     simp only[A9q] at hy
     split at hy
     ·rename_i e2; cases hy; rw[e2,<- e]; exact hb
     ·exact hk y u hy
    rcases A1y h with⟨e,h⟩ | ⟨e,h⟩
    ·exact⟨_,key true e,h⟩
    ·exact⟨_,key false e,h⟩
   ·exact⟨κ,hk,h⟩
theorem D3r{ops:Array Oper}{κ:List (Tmp×Bool)}{U:List AV}(hk:KOK κ U){o:Oper}{b:Bool}(h:F2d ops κ U o=some b):A0w ops U o=some b:=by
 unfold F2d at h
 split at h
 ·rename_i hg; cases h; simp only[A0w,hg]
 ·rename_i j want hg
  split at h
  ·rename_i hd; cases h; simp only[A0w,hg,hd]
  ·rename_i d hd
   split at h
   ·rename_i v hv
    cases h
    simp only[A0w,hg,hd,hk d v hv]
   ·exact h
theorem D7a(hr:RefK P prims rk){κ:List (Tmp×Bool)}{U:List AV}(hk:KOK κ U){B:Heap}{op:Op}{k:KV β}{x:β}(h:E8r P rk κ (M0 (gN P) U) B op k=some x) :
  ∃ v B' D,Ev P prims (fun r=>M5 P r (M0 (gN P) U) B op) (v,B',D)/\k v B' D=some x:=by
 unfold E8r at h
 split at h
 ·rename_i a ha
  unfold G1a at ha
  split at ha
  ·rename_i d y z
   simp only[oM] at ha
   obtain⟨t,h1,rfl⟩:=ha
   have h2:=hk d t h1
   refine⟨_,B,[],⟨0,fun m _=>?_⟩,h⟩
   have h3:M0 (gN P) U (.tmp d)=.sbool t:=by simp only[M0,gD,h2,Option.getD_some]
   show M5 P _ _ B _=_
   simp only[M5,aop,A0c,A1l,Y1,L8,V6,afz,afl,afs,R4,h3,only,oS,Option.map_none]
   cases t<;>rfl
  ·cases ha
 ·exact C3g hr h
theorem A5l(hr:RefK P prims rk){ops:Array Oper}:∀ {l:List Oper} {κ:List (Tmp×Bool)} {U:List AV} {B:Heap} {k:List AV->Heap->List Nat->Option β} {x:β},KOK κ U->D7b P rk ops l κ U B k=some x ->
  ∃ U' B' D,Ev P prims (fun r=>M6 P r ops l U B) (U',B',D)/\k U' B' D=some x
 | [],_,U,B,k,x,_,h=>⟨U,B,[],⟨0,fun _ _=>rfl⟩,h⟩
 | o::l,κ0,U,B,k,x,hk0,h=>by
  unfold D7b at h
  obtain⟨κ1,hk1,h⟩:=B4x hk0 h
  obtain⟨κ,hk,h⟩:=B4x hk1 h
  split at h
  ·rename_i hw
   have hw:=D3r hk hw
   obtain⟨v,B1,D1,⟨n1,h1⟩,h⟩:=D7a hr hk h
   rw[O1] at h
   obtain⟨U2,B2,D2,⟨n2,h2⟩,h⟩:=A5l hr (hk.put o.dst v) h
   exact⟨U2,B2,D1++D2,⟨max n1 n2,fun m hm=>by simp only[M6,hw,h1 m (by omega),O1,h2 m (by omega)]⟩,h⟩
  ·rename_i hw
   have hw:=D3r hk hw
   obtain⟨U2,B2,D2,⟨n2,h2⟩,h⟩:=A5l hr (hk.put o.dst H7) h
   exact⟨U2,B2,D2,⟨n2,fun m hm=>by simp only[M6,hw,h2 m hm]⟩,h⟩
  ·cases h
theorem A6q(hr:RefK P prims rk){ops:Array Oper}:∀ {l:List Oper} {U:List AV} {B:Heap} {k:List AV->Heap->List Nat->Option β} {x:β},C3i P rk ops l U B k=some x ->
  ∃ U' B' D,Ev P prims (fun r=>A4k P r ops l U B) (U',B',D)/\k U' B' D=some x
 | [],U,B,k,x,h=>⟨U,B,[],⟨0,fun _ _=>rfl⟩,h⟩
 | o::l,U,B,k,x,h=>by
  unfold C3i at h
  have h:=B0o (B0o h)
  split at h
  ·rename_i hw
   obtain⟨v,B1,D1,⟨n1,h1⟩,h⟩:=C3g hr h
   rw[O1] at h
   obtain⟨U2,B2,D2,⟨n2,h2⟩,h⟩:=A6q hr h
   exact⟨U2,B2,D1++D2,⟨max n1 n2,fun m hm=>by simp only[A4k,hw,h1 m (by omega),O1,h2 m (by omega)]⟩,h⟩
  ·rename_i hw
   obtain⟨U2,B2,D2,⟨n2,h2⟩,h⟩:=A6q hr h
   exact⟨U2,B2,D2,⟨n2,fun m hm=>by simp only[A4k,hw,h2 m hm]⟩,h⟩
  ·cases h
theorem C7q(hr:RefK P prims rk){ops:Array Oper}{m:Nat}{U:List AV}{B:Heap}{k:List AV->Heap->List Nat->Option β}{x:β}(h:C7p P rk ops m U B k=some x) :
  ∃ U' B' D,Ev P prims (fun r=>A5t P r ops m U B) (U',B',D)/\k U' B' D=some x:=by
 unfold C7p at h
 split at h
 ·rename_i hreg
  obtain⟨U1,B1,D1,⟨n1,h1⟩,h⟩:=A5l hr (.nil _) h
  split at h
  ·obtain⟨U2,B2,D2,⟨n2,h2⟩,h⟩:=A6q hr h
   exact⟨U2,B2,D2,⟨max n1 n2,fun m hm=>by simp only[A5t,if_pos hreg,h1 m (by omega),h2 m (by omega)]⟩,h⟩
  ·cases h
 ·cases h
theorem A9s(hr:RefK P prims rk){ops:Array Oper}{m:Nat}{U:List AV}{B:Heap}{k:List AV->Heap->List Nat->Option β}{x:β}(h:B2p P rk ops m U B k=some x) :
  ∃ U' B' D,Ev P prims (fun r=>A1x P r ops m U B) (U',B',D)/\k U' B' D=some x:=by
 unfold B2p at h
 split at h
 ·rename_i hreg
  obtain⟨U1,B1,D1,⟨n1,h1⟩,h⟩:=A5l hr (.nil _) h
  split at h
  ·obtain⟨U2,B2,D2,⟨n2,h2⟩,h⟩:=A5l hr (.nil _) h
   split at h
   ·rename_i hl
    exact⟨U2,B2,D2,⟨max n1 n2,fun m hm=>by simp only[A1x,if_pos hreg,h1 m (by omega),h2 m (by omega),if_pos hl]⟩,h⟩
   ·cases h
  ·cases h
 ·cases h
theorem D5t(hr:RefK P prims rk){ops:Array Oper}{U:List AV}{B:Heap}{k:List AV->Heap->List Nat->Option β}{x:β}(h:E5h P rk ops U B k=some x) :
  ∃ U' B' D,Ev P prims (fun r=>B1m P r ops U B) (U',B',D)/\k U' B' D=some x:=by
 unfold E5h at h
 cases hp:A9a ops with
 | some p =>
  rw[hp] at h
  obtain⟨U',B',D,⟨n,h1⟩,h2⟩:=A9s hr h
  exact⟨U',B',D,⟨n,fun m hm=>by simp only[B1m,hp,h1 m hm]⟩,h2⟩
 | none =>
  rw[hp] at h
  simp only at h
  split at h
  ·rename_i hreg
   obtain⟨U',B',D,⟨n,h1⟩,h2⟩:=C7q hr h
   exact⟨U',B',D,⟨n,fun m hm=>by simp only[B1m,hp,B7h,if_pos hreg,h1 m hm]⟩,h2⟩
  ·rename_i hreg
   obtain⟨U',B',D,⟨n,h1⟩,h2⟩:=A9s hr h
   exact⟨U',B',D,⟨n,fun m hm=>by simp only[B1m,hp,B7h,if_neg hreg,h1 m hm]⟩,h2⟩
theorem D3l(hr:RefK P prims rk){f:AV}{U:List AV}{ps:Array Tmp}{as body:Code}{B:Heap}{k:KV β}{x:β}(h:D7v rk f U ps as body B k=some x) :
  ∃ v B' D,Ev P prims (fun r=>B7r r f U ps as body B) (v,B',D)/\k v B' D=some x:=by
 unfold D7v at h
 split at h
 ·exact hr.call _ _ _ _ _ h
 ·cases h
theorem A3n(hr:RefK P prims rk){bp:Bps}:∀ {c:Code} {U:List AV} {B:Heap} {k:KE β} {x:β},E8 P rk bp c U B k=some x ->
  ∃ e U' B' D,Ev P prims (fun r=>J7 P r bp c U B) (e,U',B',D)/\k e U' B' D=some x:=by
 intro c
 induction c with
 | skip=>intro U B k x h; exact⟨_,_,_,_,⟨0,fun _ _=>rfl⟩,h⟩
 | label l=>intro U B k x h; exact⟨_,_,_,_,⟨0,fun _ _=>rfl⟩,h⟩
 | exit id=>intro U B k x h; exact⟨_,_,_,_,⟨0,fun _ _=>rfl⟩,h⟩
 | ret=>intro U B k x h; exact⟨_,_,_,_,⟨0,fun _ _=>rfl⟩,h⟩
 | goto l=>intro U B k x h; simp[E8] at h
 | refuse y=>intro U B k x h; simp[E8] at h
 | region id ops draw =>
  intro U B k x h
  cases draw with
  | false =>
   simp only[E8] at h
   obtain⟨U1,B1,D1,⟨n1,h1⟩,h⟩:=A6q hr h
   exact⟨_,_,_,_,⟨n1,fun m hm=>by simp only[J7,h1 m hm,oS]⟩,h⟩
  | true =>
   simp only[E8] at h
   obtain⟨U1,B1,D1,⟨n1,h1⟩,h⟩:=D5t hr h
   exact⟨_,_,_,_,⟨n1,fun m hm=>by simp only[J7,h1 m hm,oS]⟩,h⟩
 | seq a b iha ihb =>
  intro U B k x h
  simp only[E8] at h
  obtain⟨e,U1,B1,D1,⟨n1,h1⟩,h⟩:=iha h
  split at h
  ·obtain⟨e2,U2,B2,D2,⟨n2,h2⟩,h⟩:=ihb h
   exact⟨_,_,_,_,⟨max n1 n2,fun m hm=>by simp only[J7,h1 m (by omega),h2 m (by omega),B3d]⟩,h⟩
  ·exact⟨_,_,_,_,⟨n1,fun m hm=>by simp only[J7,h1 m hm]⟩,h⟩
  ·exact⟨_,_,_,_,⟨n1,fun m hm=>by simp only[J7,h1 m hm]⟩,h⟩
 | cond c a b iha ihb =>
  intro U B k x h
  simp only[E8] at h
  have h:=B0o h
  split at h
  ·rename_i hc
   obtain⟨e,U1,B1,D1,⟨n1,h1⟩,h⟩:=iha h
   exact⟨_,_,_,_,⟨n1,fun m hm=>by simp only[J7,hc,h1 m hm]⟩,h⟩
  ·rename_i hc
   obtain⟨e,U1,B1,D1,⟨n1,h1⟩,h⟩:=ihb h
   exact⟨_,_,_,_,⟨n1,fun m hm=>by simp only[J7,hc,h1 m hm]⟩,h⟩
  ·cases h
 | block id c ih =>
  intro U B k x h
  simp only[E8] at h
  split at h
  ·rename_i g hg
   obtain⟨y,h1,h2⟩:=Tr.bind_some h
   exact⟨y.1,y.2.1,y.2.2.1,y.2.2.2,⟨0,fun m _=>by simp only[J7,hg,h1]⟩,h2⟩
  ·rename_i hg
   obtain⟨e,U1,B1,D1,⟨n1,h1⟩,h⟩:=ih h
   split at h
   ·exact⟨_,_,_,_,⟨n1,fun m hm=>by simp only[J7,hg,h1 m hm]⟩,h⟩
   ·exact⟨_,_,_,_,⟨n1,fun m hm=>by simp only[J7,hg,h1 m hm]⟩,h⟩
   ·exact⟨_,_,_,_,⟨n1,fun m hm=>by simp only[J7,hg,h1 m hm]⟩,h⟩
 | loop c ih =>
  intro U B k x h
  simp only[E8] at h
  obtain⟨e,U1,B1,D1,⟨n1,h1⟩,h⟩:=ih h
  split at h
  ·simp only[U5,A1h] at h
   obtain⟨e2,U2,B2,D2,⟨n2,h2⟩,h⟩:=hr.exec _ _ _ _ _ _ h
   exact⟨_,_,_,_,⟨max n1 n2,fun m hm=>by simp only[J7,h1 m (by omega),U5,A1h,h2 m (by omega),B3d]⟩,h⟩
  ·exact⟨_,_,_,_,⟨n1,fun m hm=>by simp only[J7,h1 m hm]⟩,h⟩
  ·exact⟨_,_,_,_,⟨n1,fun m hm=>by simp only[J7,h1 m hm]⟩,h⟩
 | scope c ih =>
  intro U B k x h
  exact ih h
 | rangeFunc f ps as body _ _ =>
  intro U B k x h
  simp only[E8] at h
  obtain⟨v,B1,D1,⟨n1,h1⟩,h⟩:=D3l hr h
  split at h
  ·rename_i lo hl
   split at h
   ·cases h
   ·rename_i hst
    split at h
    ·rename_i hp
     exact⟨_,_,_,_,⟨n1,fun m hm=>by simp only[J7,h1 m hm,hl,if_neg hst,hp]⟩,h⟩
    ·rename_i hp
     exact⟨_,_,_,_,⟨n1,fun m hm=>by simp only[J7,h1 m hm,hl,if_neg hst,hp]⟩,h⟩
    ·rename_i hp
     exact⟨_,_,_,_,⟨n1,fun m hm=>by simp only[J7,h1 m hm,hl,if_neg hst,hp]⟩,h⟩
    ·cases h
  ·cases h
theorem D5o(hr:RefK P prims rk){f:FuncId}{args:List AV}{B:Heap}{k:KV β}{x:β}(h:E4z P prims rk f args B k=some x) :
  ∃ v B' D,Ev P prims (fun r=>A7s P prims r f args B) (v,B',D)/\k v B' D=some x:=by
 unfold E4z at h
 split at h
 ·rename_i g hg
  obtain⟨y,h1,h2⟩:=Tr.bind_some h
  exact⟨y.1,y.2.1,y.2.2,⟨0,fun m _=>by simp only[A7s,hg,h1]⟩,h2⟩
 ·rename_i hg
  split at h
  ·cases h
  ·rename_i fn hfn
   split at h
   ·cases h
   ·rename_i c hc
    simp only[U5,A1h] at h
    obtain⟨e,U1,B1,D1,⟨n1,h1⟩,h⟩:=A3n hr h
    split at h
    ·cases h
    ·rename_i hn
     split at h
     ·rename_i l hl
      refine⟨_,_,_,⟨n1,fun m hm=>?_⟩,h⟩
      simp only[A7s,hg,hfn,hc,U5,A1h,h1 m hm]
      cases e with
      | exit id=>exact(hn id rfl).elim
      | normal=>simp only[hl]
      | ret=>simp only[hl]
     ·cases h
theorem A3w:∀ n,RefK P prims (D5 (β:=β) P prims n)
 | 0=>⟨fun _ _ _ _ _ _ h=>by simp[D5] at h,fun _ _ _ _ _ h=>by simp[D5] at h,rfl⟩
 | n+1=>by
  have ih:=A3w n
  refine⟨fun bp c U B k x h=>?_,fun f args B k x h=>?_,rfl⟩
  ·obtain⟨e,U',B',D,h1,h2⟩:=A3n ih h
   exact⟨e,U',B',D,h1.exec,h2⟩
  ·obtain⟨v,B',D,h1,h2⟩:=D5o ih h
   exact⟨v,B',D,h1.call,h2⟩
def fin:KV (AV×Heap×List Nat):=fun v B D=>some (v,B,D)
theorem Ca.of_runK{n:Nat}{f:FuncId}{args:List AV}{B:Heap}{y:AV×Heap×List Nat}(h:(D5 P prims n).call f args B fin=some y):Ca P prims f args B y:=by
 obtain⟨v,B',D,h1,h2⟩:=(A3w n).call _ _ _ _ _ h
 simp only[fin,sI] at h2
 subst h2; exact h1
end
end Go.Ad
