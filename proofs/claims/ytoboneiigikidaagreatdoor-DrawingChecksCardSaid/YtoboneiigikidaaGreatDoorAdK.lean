/- The evaluator by cases: where a truth value is not known it goes on in both ways. It is held against the direct evaluator, with as much fuel as that needs. -/
import Derived.Test.YtoboneiigikidaaGreatDoorAdFrame
namespace Go.Ad
structure Rec.le (r r':Rec):Prop where
 exec:∀ bp c ρ B y,r.exec bp c ρ B=some y->r'.exec bp c ρ B=some y
 call:∀ f args B y,r.call f args B=some y->r'.call f args B=some y
 ext:r.ext=r'.ext
section
variable {P:Program} {r r':Rec}
end
def Ev (P:Program) (prims:Prims) {γ:Type} (F:Rec->Option γ) (y:γ):Prop:=∃ n,∀ m,n<=m->F (run P prims m)=some y
abbrev Ex (P:Program) (prims:Prims) (bp:Bps) (c:Code) (ρ:List AV) (B:Heap) (y:AEx × List AV × Heap × List Nat):Prop:=Ev P prims (fun r=>r.exec bp c ρ B) y
abbrev Ca (P:Program) (prims:Prims) (f:FuncId) (args:List AV) (B:Heap) (y:AV × Heap × List Nat):Prop:=Ev P prims (fun r=>r.call f args B) y
section
variable {P:Program} {prims:Prims}
theorem Ev.exec {bp:Bps} {c:Code} {ρ:List AV} {B:Heap} {y:AEx × List AV × Heap × List Nat} (h:Ev P prims (fun r=>J6 P r bp c ρ B) y):Ex P prims bp c ρ B y:=by
 obtain ⟨n,h⟩:=h
 refine ⟨n+1,fun m hm=>?_⟩
 obtain ⟨m,rfl⟩:∃ k,m=k+1:=⟨m - 1,by omega⟩
 exact h m (by omega)
theorem Ev.call {f:FuncId} {args:List AV} {B:Heap} {y:AV × Heap × List Nat} (h:Ev P prims (fun r=>A7m P prims r f args B) y):Ca P prims f args B y:=by
 obtain ⟨n,h⟩:=h
 refine ⟨n+1,fun m hm=>?_⟩
 obtain ⟨m,rfl⟩:∃ k,m=k+1:=⟨m - 1,by omega⟩
 exact h m (by omega)
theorem Ca.run {f:FuncId} {args:List AV} {B:Heap} {y:AV × Heap × List Nat} (h:Ca P prims f args B y):∃ n,(Ad.run P prims n).call f args B=some y :=
 let ⟨n,h⟩:=h; ⟨n,h n (Nat.le_refl _)⟩
end
def brK {β:Type} (b:Bool) (t f:Option β):Option β:=match b with
 | true=>t
 | false=>f
def Tr.bind {α β:Type}:Tr α->(α->Option β)->Option β
 | .leaf a,k=>k a
 | .br b t f,k=>brK b (t.bind k) (f.bind k)
 | .fail,_=>none
abbrev KE (β:Type):=AEx->List AV->Heap->List Nat->Option β
abbrev KV (β:Type):=AV->Heap->List Nat->Option β
structure RecK (β:Type) where
 exec:Bps->Code->List AV->Heap->KE β->Option β
 call:FuncId->List AV->Heap->KV β->Option β
 ext:FuncId->Option (List AV->Option AV)
section
variable {β:Type}
def D1i (ρ:List AV) (d:Option Tmp) (k:List AV->Option β):Option β :=
 match d with
 | none=>k ρ
 | some d =>
  match ρ[d]? with
  | some (.sbool b)=>brK b (k (ρ.set d (.bool true))) (k (ρ.set d (.bool false)))
  | _=>k ρ
def E9m (P:Program) (ρ:Operand->AV) (op:Op):Option (IntKind × Int × Nat) :=
 match op with
 | .indexAddr t x i =>
  match ρ i with
  | .int ..=>none
  | _ =>
   match M3 (ρ i),P.underlying t,ρ x with
   | some (k,n),some (.array m _),_=>some (k,n,m)
   | some (k,n),some (.slice _),.slice _ m _=>some (k,n,m)
   | _,_,_=>none
 | .index t _ i =>
  match ρ i with
  | .int ..=>none
  | _ =>
   match M3 (ρ i),P.underlying t with
   | some (k,n),some (.array m _)=>some (k,n,m)
   | _,_=>none
 | _=>none
def E3e (P:Program) (ρ:Operand->AV) (B:Heap) (op:Op) (k:IntKind) (j:Nat):A3b :=
 match op with
 | .indexAddr t x _=>only B (P7 P t (ρ x) (.int k j))
 | .index t x _=>only B (B2s P t (ρ x) (.int k j))
 | _=>none
def G1x (n:Int):Nat->Nat->(Nat->Option β)->Option β
 | 0,_,_=>none
 | f+1,j,k=>brK (decide (n=(j:Int))) (k j) (G1x n f (j+1) k)
def opK (P:Program) (ρ:Operand->AV) (B:Heap) (op:Op) (k:KV β):Option β :=
 match Z8 P ρ op with
 | some (c,v)=>brK c (k v B []) none
 | none =>
  match A1o P ρ B op with
  | some (c,v,B',D)=>brK c (k v B' D) none
  | none =>
  match E9m P ρ op with
  | some (kd,n,m)=>G1x n m 0 fun j =>
   match E3e P ρ B op kd j with
   | some (v,B',D)=>k v B' D
   | none=>none
  | none =>
   match R8 P ρ B op with
   | some (v,B',D)=>k v B' D
   | none=>none
def D6t (rk:RecK β) (l:Nat) (args:List AV) (B:Heap) (k:KV β):Option β :=
 match B[l]? with
 | some (.loop lo) =>
  if args.length=lo.params.size then
   rk.exec A7z lo.assign ((lo.params.toList.zip args).foldl (fun t (p,a)=>t.set p a) lo.tmps) B fun e ρ1 B1 D1 =>
   match e with
   | .normal =>
    match B1[l]? with
    | some (.loop lo1) =>
     if lo1.state=.ready then
      rk.exec A7z lo.body ρ1 (B1.set l (.loop { lo1 with state:=.busy })) fun e _ B2 D2 =>
      match B2[l]? with
      | some (.loop lo2) =>
       match e with
       | .normal=>k (.bool true) (B2.set l (.loop { lo2 with state:=.ready,pending:=none })) (D1++[l]++D2++[l])
       | .ret=>k (.bool false) (B2.set l (.loop { lo2 with state:=.done,pending:=some .ret })) (D1++[l]++D2++[l])
       | .exit id=>k (.bool false) (B2.set l (.loop { lo2 with state:=.done,pending:=some (.exit id) })) (D1++[l]++D2++[l])
      | _=>none
     else none
    | _=>none
   | _=>none
  else none
 | _=>none
def D4i (rk:RecK β) (f:AV) (args:List AV) (B:Heap) (k:KV β):Option β :=
 match f with
 | .func (.func g) first captured=>rk.call g (first++args++captured) B k
 | .func (.yield l) first _=>D6t rk l (first++args) B k
 | _=>none
def F3w (P:Program) (rk:RecK β) (ρ:Operand->AV) (B:Heap) (op:Op) (k:KV β):Option β :=
 match op with
 | .call { callee:=.value f,args,.. } =>
  match E3y rk.ext (ρ f) with
  | some h=>match h (args.toList.map ρ) with
   | some v=>k v B []
   | none=>none
  | none=>D4i rk (ρ f) (args.toList.map ρ) B k
 | op=>opK P ρ B op k
def A9l:List (Tmp × Bool)->Tmp->Option Bool
 | [],_=>none
 | (d,b) :: r,x=>if x=d then some b else A9l r x
def B4a:List (Tmp × Bool)->Option Tmp->List (Tmp × Bool)
 | l,none=>l
 | [],_=>[]
 | (d,b) :: r,some x=>if x=d then B4a r (some x) else (d,b) :: B4a r (some x)
def splitK (κ:List (Tmp × Bool)) (ρ:List AV) (d:Option Tmp) (k:List (Tmp × Bool)->Option β):Option β :=
 match d with
 | none=>k κ
 | some d =>
  match A9l κ d with
  | some _=>k κ
  | none =>
   match ρ[d]? with
   | some (.sbool b)=>brK b (k ((d,true) :: κ)) (k ((d,false) :: κ))
   | _=>k κ
def F0e (ops:Array Oper) (κ:List (Tmp × Bool)) (ρ:List AV) (o:Oper):Option Bool :=
 match o.guard with
 | none=>some true
 | some (j,want) =>
  match (ops[j]?).bind (·.dst) with
  | none=>some false
  | some d =>
   match A9l κ d with
   | some b=>some (b == want)
   | none=>A0u ops ρ o
def F8p (κ:List (Tmp × Bool)):Op->Option Operand
 | .pick (.tmp d) a b=>(A9l κ d).map fun t=>if t then a else b
 | _=>none
def E6w (P:Program) (rk:RecK β) (κ:List (Tmp × Bool)) (ρ:Operand->AV) (B:Heap) (op:Op) (k:KV β):Option β :=
 match F8p κ op with
 | some a=>k (ρ a) B []
 | none=>F3w P rk ρ B op k
def D5w (P:Program) (rk:RecK β) (ops:Array Oper):List Oper->List (Tmp × Bool)->List AV->Heap->(List AV->Heap->List Nat->Option β)->Option β
 | [],_,ρ,B,k=>k ρ B []
 | o :: rest,κ0,ρ,B,k =>
  splitK κ0 ρ (B1w ops o) fun κ1=>splitK κ1 ρ (B5m o) fun κ =>
  match F0e ops κ ρ o with
  | some true=>E6w P rk κ (L6 (gN P) ρ) B o.op fun v B1 D1 =>
   Q5 v fun v=>D5w P rk ops rest (B4a κ o.dst) (Q8 ρ o.dst v) B1 fun ρ2 B2 D2=>k ρ2 B2 (D1++D2)
  | some false=>D5w P rk ops rest (B4a κ o.dst) (Q8 ρ o.dst G6) B k
  | none=>none
def C2q (P:Program) (rk:RecK β) (ops:Array Oper):List Oper->List AV->Heap->(List AV->Heap->List Nat->Option β)->Option β
 | [],ρ,B,k=>k ρ B []
 | o :: rest,ρ0,B,k =>
  D1i ρ0 (B1w ops o) fun ρ1=>D1i ρ1 (B5m o) fun ρ =>
  match A0u ops ρ o with
  | some true=>F3w P rk (L6 (gN P) ρ) B o.op fun v B1 D1 =>
   Q5 v fun v=>C2q P rk ops rest (Q8 ρ o.dst v) B1 fun ρ2 B2 D2=>k ρ2 B2 (D1++D2)
  | some false=>C2q P rk ops rest (Q8 ρ o.dst G6) B k
  | none=>none
def C6q (P:Program) (rk:RecK β) (ops:Array Oper) (m:Nat) (ρ:List AV) (B:Heap) (k:List AV->Heap->List Nat->Option β):Option β :=
 if B4g ops m then
  D5w P rk ops (ops.toList.take m) [] ρ B fun ρ1 B1 D1 =>
  match D1 with
  | []=>C2q P rk ops (ops.toList.drop m) ρ1 B1 k
  | _=>none
 else none
def B2d (P:Program) (rk:RecK β) (ops:Array Oper) (m:Nat) (ρ:List AV) (B:Heap) (k:List AV->Heap->List Nat->Option β):Option β :=
 if B9j ops m then
  D5w P rk ops (ops.toList.take m) [] ρ B fun ρ1 B1 D1 =>
  match D1 with
  | []=>D5w P rk ops (ops.toList.drop m) [] ρ1 B1 fun ρ2 B2 D2=>if decide (m<=ops.size) && C5s ops (gN P) ρ1 D2 m then k ρ2 B2 D2 else none
  | _=>none
 else none
def E3s (P:Program) (rk:RecK β) (ops:Array Oper) (ρ:List AV) (B:Heap) (k:List AV->Heap->List Nat->Option β):Option β :=
 match A8x ops with
 | some p=>B2d P rk (A8d ops p.1) p.2 ρ B k
 | none=>if B4g ops (B5f ops) then C6q P rk ops (B5f ops) ρ B k else B2d P rk ops (B9i ops) ρ B k
def D6p (rk:RecK β) (f:AV) (ρ:List AV) (ps:Array Tmp) (as body:Code) (B:Heap) (k:KV β):Option β :=
 match f with
 | .func (.func g) first captured =>
  rk.call g (first++[AV.func (.yield B.length) [] []]++captured) (B++[AObj.loop { state:=.ready,pending:=none,tmps:=ρ,params:=ps,assign:=as,body }]) k
 | _=>none
def F3 (P:Program) (rk:RecK β) (bp:Bps):Code->List AV->Heap->KE β->Option β
 | .skip,ρ,B,k=>k .normal ρ B []
 | .label _,ρ,B,k=>k .normal ρ B []
 | .exit id,ρ,B,k=>k (.exit id) ρ B []
 | .ret,ρ,B,k=>k .ret ρ B []
 | .region _ ops false,ρ,B,k=>C2q P rk ops ops.toList ρ B fun ρ B D=>k .normal ρ B D
 | .region _ ops true,ρ,B,k=>E3s P rk ops ρ B fun ρ B D=>k .normal ρ B D
 | .seq a b,ρ,B,k =>
  F3 P rk bp a ρ B fun e ρ1 B1 D1 =>
  match e with
  | .normal=>F3 P rk bp b ρ1 B1 fun e ρ2 B2 D2=>k e ρ2 B2 (D1++D2)
  | .exit id=>k (.exit id) ρ1 B1 D1
  | .ret=>k .ret ρ1 B1 D1
 | .cond c a b,ρ0,B,k =>
  D1i ρ0 (C5b c) fun ρ =>
  match L6 (gN P) ρ c with
  | .bool true=>F3 P rk bp a ρ B k
  | .bool false=>F3 P rk bp b ρ B k
  | _=>none
 | .block id c,ρ,B,k =>
  match bp id with
  | some g=>(g ρ B).bind fun y=>k y.1 y.2.1 y.2.2.1 y.2.2.2
  | none =>
   F3 P rk bp c ρ B fun e ρ1 B1 D1 =>
   match e with
   | .normal=>k .normal ρ1 B1 D1
   | .exit id'=>k (if id'=id then .normal else .exit id') ρ1 B1 D1
   | .ret=>k .ret ρ1 B1 D1
 | .loop c,ρ,B,k =>
  F3 P rk bp c ρ B fun e ρ1 B1 D1 =>
  match e with
  | .normal=>A4a ρ1 fun ρ1=>B9z B1 fun B1=>rk.exec bp (.loop c) ρ1 B1 fun e ρ2 B2 D2=>k e ρ2 B2 (D1++D2)
  | .exit id=>k (.exit id) ρ1 B1 D1
  | .ret=>k .ret ρ1 B1 D1
 | .scope c,ρ,B,k=>F3 P rk bp c ρ B k
 | .rangeFunc f ps as body,ρ,B,k =>
  D6p rk (L6 (gN P) ρ f) ρ ps as body B fun _ B1 D1 =>
  match B1[B.length]? with
  | some (.loop lo) =>
   if lo.state=.busy then none else
   match lo.pending with
   | none=>k .normal ρ (B1.set B.length (.loop { lo with state:=.exhausted })) (D1++[B.length])
   | some .ret=>k .ret ρ (B1.set B.length (.loop { lo with state:=.exhausted })) (D1++[B.length])
   | some (.exit id)=>k (.exit id) ρ (B1.set B.length (.loop { lo with state:=.exhausted })) (D1++[B.length])
   | _=>none
  | _=>none
 | _,_,_,_=>none
def E3l (P:Program) (prims:Prims) (rk:RecK β) (f:FuncId) (args:List AV) (B:Heap) (k:KV β):Option β :=
 match prims.fn f with
 | some g=>(g args B).bind fun y=>k y.1 y.2.1 y.2.2
 | none =>
  match P.funcs[f]? with
  | none=>none
  | some fn =>
   match fn.body with
   | none=>none
   | some c =>
    A4a args fun args=>B9z B fun B =>
    F3 P rk (prims.blk f) c (args++List.replicate (fn.ntmps - args.length) G6) B fun e ρ B' D =>
    match e with
    | .exit _=>none
    | _ =>
     match X5 P B' ρ fn.results.toList with
     | some l =>
      match gc B (A1u l) B' D with
      | (v,B2,D2)=>k v B2 D2
     | none=>none
def D5 (P:Program) (prims:Prims):Nat->RecK β
 | 0=>{ exec:=fun _ _ _ _ _=>none,call:=fun _ _ _ _=>none,ext:=prims.ext }
 | n+1=>{ exec:=F3 P (D5 P prims n),call:=E3l P prims (D5 P prims n),ext:=prims.ext }
variable {P:Program} {prims:Prims}
structure RefK (P:Program) (prims:Prims) (rk:RecK β):Prop where
 exec:∀ bp c ρ B k x,rk.exec bp c ρ B k=some x->∃ e ρ' B' D,Ex P prims bp c ρ B (e,ρ',B',D)/\k e ρ' B' D=some x
 call:∀ f args B k x,rk.call f args B k=some x->∃ v B' D,Ca P prims f args B (v,B',D)/\k v B' D=some x
 ext:rk.ext=prims.ext
theorem A2b {b:Bool} {t f:Option β} {x:β} (h:brK b t f=some x):(b=true/\t=some x) \/ (b=false/\f=some x):=by
 cases b with
 | true=>exact .inl ⟨rfl,h⟩
 | false=>exact .inr ⟨rfl,h⟩
theorem Tr.bind_some {α:Type}:∀ {t:Tr α} {k:α->Option β} {x:β},t.bind k=some x->∃ a,t.get=some a/\k a=some x
 | .leaf a,k,x,h=>⟨a,rfl,h⟩
 | .br b t f,k,x,h=>by
  rcases A2b h with ⟨rfl,h⟩ | ⟨rfl,h⟩
  ·exact Tr.bind_some (t:=t) h
  ·exact Tr.bind_some (t:=f) h
 | .fail,_,_,h=>by cases h
theorem B0h {ρ:List AV} {d:Option Tmp} {k:List AV->Option β} {x:β} (h:D1i ρ d k=some x):k (A9m ρ d)=some x:=by
  unfold D1i at h
  split at h
  · exact h
  · rename_i d
    split at h
    · rename_i b hb
      simp only [A9m,norm,hb]
      rcases A2b h with ⟨rfl,h⟩ | ⟨rfl,h⟩ <;> exact h
    · rename_i hn
      simp only [A9m,norm]
      first
      | exact h
      | (split
         · rename_i hb; exact (hn _ hb).elim
         · exact h)
theorem C2w {n:Int} {k:Nat->Option β} {x:β}:∀ {f j:Nat},G1x n f j k=some x->∃ i:Nat,n=(i:Int)/\k i=some x
 | 0,_,h=>by cases h
 | f+1,j,h=>by
  rcases A2b h with ⟨h1,h2⟩ | ⟨_,h2⟩
  ·exact ⟨j,by simpa using h1,h2⟩
  ·exact C2w h2
theorem D4j {a:AV} {k:IntKind} {n:Int} (h:M3 a=some (k,n)):cnI a=.int k n:=by
 unfold M3 at h
 split at h <;> first | (cases h; done) | (cases h; rfl)
theorem F1i {ρ:Operand->AV} {B:Heap} {op:Op} {k:IntKind} {n:Int} {m j:Nat} (h:E9m P ρ op=some (k,n,m)) (hn:n=(j:Int)):E3e P ρ B op k j=R8 P ρ B op:=by
 subst hn
 unfold E9m at h
 split at h
 ·split at h
  ·cases h
  ·split at h
   ·rename_i h1 _; cases h; simp only [E3e,R8,D4j h1]
   ·rename_i h1 _ _; cases h; simp only [E3e,R8,D4j h1]
   ·cases h
 ·split at h
  ·cases h
  ·split at h
   ·rename_i h1 _; cases h; simp only [E3e,R8,D4j h1]
   ·cases h
 ·cases h
theorem E6x {ρ:Operand->AV} {B:Heap} {op:Op} {k:KV β} {x:β} (h:opK P ρ B op k=some x):∃ v B' D,aop P ρ B op=some (v,B',D)/\k v B' D=some x:=by
 unfold opK at h
 unfold aop
 split at h
 ·rename_i c v hc
  rcases A2b h with ⟨rfl,h⟩ | ⟨_,h⟩
  ·exact ⟨v,B,[],by simp only [hc,if_true],h⟩
  ·cases h
 ·rename_i hc
  split at h
  ·rename_i c v B' D hv
   rcases A2b h with ⟨rfl,h⟩ | ⟨_,h⟩
   ·exact ⟨v,B',D,by simp only [hc,hv,if_true],h⟩
   ·cases h
  rename_i hv
  split at h
  ·rename_i kd n m hs
   obtain ⟨i,hi,h⟩:=C2w h
   rw [F1i hs hi] at h
   split at h
   ·rename_i v B' D h1
    exact ⟨v,B',D,by simp only [hc,hv,h1],h⟩
   ·cases h
  ·split at h
   ·rename_i v B' D h1
    exact ⟨v,B',D,by simp only [hc,hv,h1],h⟩
   ·cases h
variable {rk:RecK β}
theorem D2l (hr:RefK P prims rk) {l:Nat} {args:List AV} {B:Heap} {k:KV β} {x:β} (h:D6t rk l args B k=some x) :
  ∃ v B' D,Ev P prims (fun r=>A5r r l args B) (v,B',D)/\k v B' D=some x:=by
 unfold D6t at h
 split at h
 ·rename_i lo hl
  split at h
  ·rename_i hn
   obtain ⟨e,ρ1,B1,D1,⟨n1,h1⟩,h⟩:=hr.exec _ _ _ _ _ _ h
   split at h
   ·split at h
    ·rename_i lo1 hl1
     split at h
     ·rename_i hst
      obtain ⟨e2,ρ2,B2,D2,⟨n2,h2⟩,h⟩:=hr.exec _ _ _ _ _ _ h
      split at h
      ·rename_i lo2 hl2
       cases e2 with
       | normal=>exact ⟨_,_,_,⟨max n1 n2,fun m hm=>by simp only [A5r,hl,if_pos hn,h1 m (by omega),hl1,if_pos hst,h2 m (by omega),hl2]⟩,h⟩
       | ret=>exact ⟨_,_,_,⟨max n1 n2,fun m hm=>by simp only [A5r,hl,if_pos hn,h1 m (by omega),hl1,if_pos hst,h2 m (by omega),hl2]⟩,h⟩
       | exit id=>exact ⟨_,_,_,⟨max n1 n2,fun m hm=>by simp only [A5r,hl,if_pos hn,h1 m (by omega),hl1,if_pos hst,h2 m (by omega),hl2]⟩,h⟩
      ·cases h
     ·cases h
    ·cases h
   ·cases h
  ·cases h
 ·cases h
theorem C8v (hr:RefK P prims rk) {f:AV} {args:List AV} {B:Heap} {k:KV β} {x:β} (h:D4i rk f args B k=some x) :
  ∃ v B' D,Ev P prims (fun r=>B6r r f args B) (v,B',D)/\k v B' D=some x:=by
 unfold D4i at h
 split at h
 ·exact hr.call _ _ _ _ _ h
 ·exact D2l hr h
 ·cases h
theorem C2o (hr:RefK P prims rk) {ρ:Operand->AV} {B:Heap} {op:Op} {k:KV β} {x:β} (h:F3w P rk ρ B op k=some x) :
    ∃ v B' D,Ev P prims (fun r=>M5 P r ρ B op) (v,B',D)/\k v B' D=some x:=by
  have hxr:∀ m,(run P prims m).ext=prims.ext:=fun m=>by cases m <;> rfl
  unfold F3w at h
  split at h
  · rw [hr.ext] at h
    split at h
    · rename_i hx
      split at h
      · rename_i v hv
        exact ⟨v,B,[],⟨0,fun m _=>by simp only [M5,hxr,hx,only,hv,Option.map_some]⟩,h⟩
      · cases h
    · rename_i hx
      obtain ⟨v,B',D,⟨n,h1⟩,h2⟩:=C8v hr h
      exact ⟨v,B',D,⟨n,fun m hm=>by simp only [M5,hxr,hx]; exact h1 m hm⟩,h2⟩
  · rename_i hn
    obtain ⟨v,B',D,h1,h2⟩:=E6x h
    refine ⟨v,B',D,⟨0,fun m _=>?_⟩,h2⟩
    show M5 P _ ρ B _=_
    unfold M5
    first
    | exact h1
    | (split
       · exact (hn _ _ _ rfl).elim
       · exact h1)
def KOK (κ:List (Tmp × Bool)) (ρ:List AV):Prop:=∀ d v,A9l κ d=some v->ρ[d]?=some (.sbool v)
theorem KOK.nil (ρ:List AV):KOK [] ρ:=fun _ _ h=>by cases h
theorem B0g:∀ {κ:List (Tmp × Bool)} {x d:Tmp} {v:Bool},A9l (B4a κ (some x)) d=some v->A9l κ d=some v/\d ≠ x
 | [],_,_,_,h=>by cases h
 | (y,b) :: r,x,d,v,h=>by
  simp only [B4a] at h
  split at h
  ·rename_i e
   obtain ⟨h1,h2⟩:=B0g h
   refine ⟨?_,h2⟩
   simp only [A9l]
   rw [if_neg (by rw [<- e]; exact h2)]; exact h1
  ·rename_i e
   simp only [A9l] at h ⊢
   split at h
   ·rename_i e2
    rw [if_pos e2]; exact ⟨h,fun h3=>e (by rw [<- h3,e2])⟩
   ·rename_i e2
    rw [if_neg e2]; exact B0g h
theorem KOK.put {κ:List (Tmp × Bool)} {ρ:List AV} (h:KOK κ ρ) (d:Option Tmp) (v:AV):KOK (B4a κ d) (Q8 ρ d v):=by
 intro x b hx
 cases d with
 | none=>exact h x b (by simpa [B4a] using hx)
 | some d =>
  obtain ⟨h1,h2⟩:=B0g hx
  simp only [Q8]
  rw [List.getElem?_set,if_neg (Ne.symm h2)]
  exact h x b h1
theorem B4j {κ:List (Tmp × Bool)} {ρ:List AV} (hk:KOK κ ρ) {d:Option Tmp} {k:List (Tmp × Bool)->Option β} {x:β} (h:splitK κ ρ d k=some x):∃ κ',KOK κ' ρ/\k κ'=some x:=by
 unfold splitK at h
 split at h
 ·exact ⟨κ,hk,h⟩
 ·rename_i d
  split at h
  ·exact ⟨κ,hk,h⟩
  ·split at h
   ·rename_i b hb
    have key:∀ v,b=v->KOK ((d,v) :: κ) ρ:=fun v e y u hy=>by
     simp only [A9l] at hy
     split at hy
     ·rename_i e2; cases hy; rw [e2,<- e]; exact hb
     ·exact hk y u hy
    rcases A2b h with ⟨e,h⟩ | ⟨e,h⟩
    ·exact ⟨_,key true e,h⟩
    ·exact ⟨_,key false e,h⟩
   ·exact ⟨κ,hk,h⟩
theorem D2j {ops:Array Oper} {κ:List (Tmp × Bool)} {ρ:List AV} (hk:KOK κ ρ) {o:Oper} {b:Bool} (h:F0e ops κ ρ o=some b):A0u ops ρ o=some b:=by
 unfold F0e at h
 split at h
 ·rename_i hg; cases h; simp only [A0u,hg]
 ·rename_i j want hg
  split at h
  ·rename_i hd; cases h; simp only [A0u,hg,hd]
  ·rename_i d hd
   split at h
   ·rename_i v hv
    cases h
    simp only [A0u,hg,hd,hk d v hv]
   ·exact h
theorem D5u (hr:RefK P prims rk) {κ:List (Tmp × Bool)} {ρ:List AV} (hk:KOK κ ρ) {B:Heap} {op:Op} {k:KV β} {x:β} (h:E6w P rk κ (L6 (gN P) ρ) B op k=some x) :
  ∃ v B' D,Ev P prims (fun r=>M5 P r (L6 (gN P) ρ) B op) (v,B',D)/\k v B' D=some x:=by
 unfold E6w at h
 split at h
 ·rename_i a ha
  unfold F8p at ha
  split at ha
  ·rename_i d y z
   simp only [Option.map_eq_some_iff] at ha
   obtain ⟨t,h1,rfl⟩:=ha
   have h2:=hk d t h1
   refine ⟨_,B,[],⟨0,fun m _=>?_⟩,h⟩
   have h3:L6 (gN P) ρ (.tmp d)=.sbool t:=by simp only [L6,List.getD_eq_getElem?_getD,h2,Option.getD_some]
   show M5 P _ _ B _=_
   simp only [M5,aop,Z8,A1o,R4,K9,V3,atl,aqs,Y3,afz,afl,R8,h3,only,Option.map_some,Option.map_none]
   cases t <;> rfl
  ·cases ha
 ·exact C2o hr h
theorem A5j (hr:RefK P prims rk) {ops:Array Oper}:∀ {l:List Oper} {κ:List (Tmp × Bool)} {ρ:List AV} {B:Heap} {k:List AV->Heap->List Nat->Option β} {x:β},KOK κ ρ->D5w P rk ops l κ ρ B k=some x ->
  ∃ ρ' B' D,Ev P prims (fun r=>M6 P r ops l ρ B) (ρ',B',D)/\k ρ' B' D=some x
 | [],_,ρ,B,k,x,_,h=>⟨ρ,B,[],⟨0,fun _ _=>rfl⟩,h⟩
 | o :: l,κ0,ρ,B,k,x,hk0,h=>by
  unfold D5w at h
  obtain ⟨κ1,hk1,h⟩:=B4j hk0 h
  obtain ⟨κ,hk,h⟩:=B4j hk1 h
  split at h
  ·rename_i hw
   have hw:=D2j hk hw
   obtain ⟨v,B1,D1,⟨n1,h1⟩,h⟩:=D5u hr hk h
   rw [O4] at h
   obtain ⟨ρ2,B2,D2,⟨n2,h2⟩,h⟩:=A5j hr (hk.put o.dst v) h
   exact ⟨ρ2,B2,D1++D2,⟨max n1 n2,fun m hm=>by simp only [M6,hw,h1 m (by omega),O4,h2 m (by omega)]⟩,h⟩
  ·rename_i hw
   have hw:=D2j hk hw
   obtain ⟨ρ2,B2,D2,⟨n2,h2⟩,h⟩:=A5j hr (hk.put o.dst G6) h
   exact ⟨ρ2,B2,D2,⟨n2,fun m hm=>by simp only [M6,hw,h2 m hm]⟩,h⟩
  ·cases h
theorem A6k (hr:RefK P prims rk) {ops:Array Oper}:∀ {l:List Oper} {ρ:List AV} {B:Heap} {k:List AV->Heap->List Nat->Option β} {x:β},C2q P rk ops l ρ B k=some x ->
  ∃ ρ' B' D,Ev P prims (fun r=>A4h P r ops l ρ B) (ρ',B',D)/\k ρ' B' D=some x
 | [],ρ,B,k,x,h=>⟨ρ,B,[],⟨0,fun _ _=>rfl⟩,h⟩
 | o :: l,ρ,B,k,x,h=>by
  unfold C2q at h
  have h:=B0h (B0h h)
  split at h
  ·rename_i hw
   obtain ⟨v,B1,D1,⟨n1,h1⟩,h⟩:=C2o hr h
   rw [O4] at h
   obtain ⟨ρ2,B2,D2,⟨n2,h2⟩,h⟩:=A6k hr h
   exact ⟨ρ2,B2,D1++D2,⟨max n1 n2,fun m hm=>by simp only [A4h,hw,h1 m (by omega),O4,h2 m (by omega)]⟩,h⟩
  ·rename_i hw
   obtain ⟨ρ2,B2,D2,⟨n2,h2⟩,h⟩:=A6k hr h
   exact ⟨ρ2,B2,D2,⟨n2,fun m hm=>by simp only [A4h,hw,h2 m hm]⟩,h⟩
  ·cases h
theorem C6r (hr:RefK P prims rk) {ops:Array Oper} {m:Nat} {ρ:List AV} {B:Heap} {k:List AV->Heap->List Nat->Option β} {x:β} (h:C6q P rk ops m ρ B k=some x) :
  ∃ ρ' B' D,Ev P prims (fun r=>A5q P r ops m ρ B) (ρ',B',D)/\k ρ' B' D=some x:=by
 unfold C6q at h
 split at h
 ·rename_i hreg
  obtain ⟨ρ1,B1,D1,⟨n1,h1⟩,h⟩:=A5j hr (.nil _) h
  split at h
  ·obtain ⟨ρ2,B2,D2,⟨n2,h2⟩,h⟩:=A6k hr h
   exact ⟨ρ2,B2,D2,⟨max n1 n2,fun m hm=>by simp only [A5q,if_pos hreg,h1 m (by omega),h2 m (by omega)]⟩,h⟩
  ·cases h
 ·cases h
theorem A9n (hr:RefK P prims rk) {ops:Array Oper} {m:Nat} {ρ:List AV} {B:Heap} {k:List AV->Heap->List Nat->Option β} {x:β} (h:B2d P rk ops m ρ B k=some x) :
  ∃ ρ' B' D,Ev P prims (fun r=>A2a P r ops m ρ B) (ρ',B',D)/\k ρ' B' D=some x:=by
 unfold B2d at h
 split at h
 ·rename_i hreg
  obtain ⟨ρ1,B1,D1,⟨n1,h1⟩,h⟩:=A5j hr (.nil _) h
  split at h
  ·obtain ⟨ρ2,B2,D2,⟨n2,h2⟩,h⟩:=A5j hr (.nil _) h
   split at h
   ·rename_i hl
    exact ⟨ρ2,B2,D2,⟨max n1 n2,fun m hm=>by simp only [A2a,if_pos hreg,h1 m (by omega),h2 m (by omega),if_pos hl]⟩,h⟩
   ·cases h
  ·cases h
 ·cases h
theorem D4l (hr:RefK P prims rk) {ops:Array Oper} {ρ:List AV} {B:Heap} {k:List AV->Heap->List Nat->Option β} {x:β} (h:E3s P rk ops ρ B k=some x) :
  ∃ ρ' B' D,Ev P prims (fun r=>B1d P r ops ρ B) (ρ',B',D)/\k ρ' B' D=some x:=by
 unfold E3s at h
 cases hp:A8x ops with
 | some p =>
  rw [hp] at h
  obtain ⟨ρ',B',D,⟨n,h1⟩,h2⟩:=A9n hr h
  exact ⟨ρ',B',D,⟨n,fun m hm=>by simp only [B1d,hp,h1 m hm]⟩,h2⟩
 | none =>
  rw [hp] at h
  simp only at h
  split at h
  ·rename_i hreg
   obtain ⟨ρ',B',D,⟨n,h1⟩,h2⟩:=C6r hr h
   exact ⟨ρ',B',D,⟨n,fun m hm=>by simp only [B1d,hp,B6v,if_pos hreg,h1 m hm]⟩,h2⟩
  ·rename_i hreg
   obtain ⟨ρ',B',D,⟨n,h1⟩,h2⟩:=A9n hr h
   exact ⟨ρ',B',D,⟨n,fun m hm=>by simp only [B1d,hp,B6v,if_neg hreg,h1 m hm]⟩,h2⟩
theorem D2f (hr:RefK P prims rk) {f:AV} {ρ:List AV} {ps:Array Tmp} {as body:Code} {B:Heap} {k:KV β} {x:β} (h:D6p rk f ρ ps as body B k=some x) :
  ∃ v B' D,Ev P prims (fun r=>B7i r f ρ ps as body B) (v,B',D)/\k v B' D=some x:=by
 unfold D6p at h
 split at h
 ·exact hr.call _ _ _ _ _ h
 ·cases h
theorem A3o (hr:RefK P prims rk) {bp:Bps}:∀ {c:Code} {ρ:List AV} {B:Heap} {k:KE β} {x:β},F3 P rk bp c ρ B k=some x ->
  ∃ e ρ' B' D,Ev P prims (fun r=>J6 P r bp c ρ B) (e,ρ',B',D)/\k e ρ' B' D=some x:=by
 intro c
 induction c with
 | skip=>intro ρ B k x h; exact ⟨_,_,_,_,⟨0,fun _ _=>rfl⟩,h⟩
 | label l=>intro ρ B k x h; exact ⟨_,_,_,_,⟨0,fun _ _=>rfl⟩,h⟩
 | exit id=>intro ρ B k x h; exact ⟨_,_,_,_,⟨0,fun _ _=>rfl⟩,h⟩
 | ret=>intro ρ B k x h; exact ⟨_,_,_,_,⟨0,fun _ _=>rfl⟩,h⟩
 | goto l=>intro ρ B k x h; simp [F3] at h
 | refuse y=>intro ρ B k x h; simp [F3] at h
 | region id ops draw =>
  intro ρ B k x h
  cases draw with
  | false =>
   simp only [F3] at h
   obtain ⟨ρ1,B1,D1,⟨n1,h1⟩,h⟩:=A6k hr h
   exact ⟨_,_,_,_,⟨n1,fun m hm=>by simp only [J6,h1 m hm,Option.map_some]⟩,h⟩
  | true =>
   simp only [F3] at h
   obtain ⟨ρ1,B1,D1,⟨n1,h1⟩,h⟩:=D4l hr h
   exact ⟨_,_,_,_,⟨n1,fun m hm=>by simp only [J6,h1 m hm,Option.map_some]⟩,h⟩
 | seq a b iha ihb =>
  intro ρ B k x h
  simp only [F3] at h
  obtain ⟨e,ρ1,B1,D1,⟨n1,h1⟩,h⟩:=iha h
  split at h
  ·obtain ⟨e2,ρ2,B2,D2,⟨n2,h2⟩,h⟩:=ihb h
   exact ⟨_,_,_,_,⟨max n1 n2,fun m hm=>by simp only [J6,h1 m (by omega),h2 m (by omega),B2r]⟩,h⟩
  ·exact ⟨_,_,_,_,⟨n1,fun m hm=>by simp only [J6,h1 m hm]⟩,h⟩
  ·exact ⟨_,_,_,_,⟨n1,fun m hm=>by simp only [J6,h1 m hm]⟩,h⟩
 | cond c a b iha ihb =>
  intro ρ B k x h
  simp only [F3] at h
  have h:=B0h h
  split at h
  ·rename_i hc
   obtain ⟨e,ρ1,B1,D1,⟨n1,h1⟩,h⟩:=iha h
   exact ⟨_,_,_,_,⟨n1,fun m hm=>by simp only [J6,hc,h1 m hm]⟩,h⟩
  ·rename_i hc
   obtain ⟨e,ρ1,B1,D1,⟨n1,h1⟩,h⟩:=ihb h
   exact ⟨_,_,_,_,⟨n1,fun m hm=>by simp only [J6,hc,h1 m hm]⟩,h⟩
  ·cases h
 | block id c ih =>
  intro ρ B k x h
  simp only [F3] at h
  split at h
  ·rename_i g hg
   obtain ⟨y,h1,h2⟩:=Tr.bind_some h
   exact ⟨y.1,y.2.1,y.2.2.1,y.2.2.2,⟨0,fun m _=>by simp only [J6,hg,h1]⟩,h2⟩
  ·rename_i hg
   obtain ⟨e,ρ1,B1,D1,⟨n1,h1⟩,h⟩:=ih h
   split at h
   ·exact ⟨_,_,_,_,⟨n1,fun m hm=>by simp only [J6,hg,h1 m hm]⟩,h⟩
   ·exact ⟨_,_,_,_,⟨n1,fun m hm=>by simp only [J6,hg,h1 m hm]⟩,h⟩
   ·exact ⟨_,_,_,_,⟨n1,fun m hm=>by simp only [J6,hg,h1 m hm]⟩,h⟩
 | loop c ih =>
  intro ρ B k x h
  simp only [F3] at h
  obtain ⟨e,ρ1,B1,D1,⟨n1,h1⟩,h⟩:=ih h
  split at h
  ·simp only [U3,A1h] at h
   obtain ⟨e2,ρ2,B2,D2,⟨n2,h2⟩,h⟩:=hr.exec _ _ _ _ _ _ h
   exact ⟨_,_,_,_,⟨max n1 n2,fun m hm=>by simp only [J6,h1 m (by omega),U3,A1h,h2 m (by omega),B2r]⟩,h⟩
  ·exact ⟨_,_,_,_,⟨n1,fun m hm=>by simp only [J6,h1 m hm]⟩,h⟩
  ·exact ⟨_,_,_,_,⟨n1,fun m hm=>by simp only [J6,h1 m hm]⟩,h⟩
 | scope c ih =>
  intro ρ B k x h
  exact ih h
 | rangeFunc f ps as body _ _ =>
  intro ρ B k x h
  simp only [F3] at h
  obtain ⟨v,B1,D1,⟨n1,h1⟩,h⟩:=D2f hr h
  split at h
  ·rename_i lo hl
   split at h
   ·cases h
   ·rename_i hst
    split at h
    ·rename_i hp
     exact ⟨_,_,_,_,⟨n1,fun m hm=>by simp only [J6,h1 m hm,hl,if_neg hst,hp]⟩,h⟩
    ·rename_i hp
     exact ⟨_,_,_,_,⟨n1,fun m hm=>by simp only [J6,h1 m hm,hl,if_neg hst,hp]⟩,h⟩
    ·rename_i hp
     exact ⟨_,_,_,_,⟨n1,fun m hm=>by simp only [J6,h1 m hm,hl,if_neg hst,hp]⟩,h⟩
    ·cases h
  ·cases h
theorem D4h (hr:RefK P prims rk) {f:FuncId} {args:List AV} {B:Heap} {k:KV β} {x:β} (h:E3l P prims rk f args B k=some x) :
  ∃ v B' D,Ev P prims (fun r=>A7m P prims r f args B) (v,B',D)/\k v B' D=some x:=by
 unfold E3l at h
 split at h
 ·rename_i g hg
  obtain ⟨y,h1,h2⟩:=Tr.bind_some h
  exact ⟨y.1,y.2.1,y.2.2,⟨0,fun m _=>by simp only [A7m,hg,h1]⟩,h2⟩
 ·rename_i hg
  split at h
  ·cases h
  ·rename_i fn hfn
   split at h
   ·cases h
   ·rename_i c hc
    simp only [U3,A1h] at h
    obtain ⟨e,ρ1,B1,D1,⟨n1,h1⟩,h⟩:=A3o hr h
    split at h
    ·cases h
    ·rename_i hn
     split at h
     ·rename_i l hl
      refine ⟨_,_,_,⟨n1,fun m hm=>?_⟩,h⟩
      simp only [A7m,hg,hfn,hc,U3,A1h,h1 m hm]
      cases e with
      | exit id=>exact (hn id rfl).elim
      | normal=>simp only [hl]
      | ret=>simp only [hl]
     ·cases h
theorem A3w:∀ n,RefK P prims (D5 (β:=β) P prims n)
 | 0=>⟨fun _ _ _ _ _ _ h=>by simp [D5] at h,fun _ _ _ _ _ h=>by simp [D5] at h,rfl⟩
 | n+1=>by
  have ih:=A3w n
  refine ⟨fun bp c ρ B k x h=>?_,fun f args B k x h=>?_,rfl⟩
  ·obtain ⟨e,ρ',B',D,h1,h2⟩:=A3o ih h
   exact ⟨e,ρ',B',D,h1.exec,h2⟩
  ·obtain ⟨v,B',D,h1,h2⟩:=D4h ih h
   exact ⟨v,B',D,h1.call,h2⟩
def fin:KV (AV × Heap × List Nat):=fun v B D=>some (v,B,D)
theorem Ca.of_runK {n:Nat} {f:FuncId} {args:List AV} {B:Heap} {y:AV × Heap × List Nat}
  (h:(D5 P prims n).call f args B fin=some y):Ca P prims f args B y:=by
 obtain ⟨v,B',D,h1,h2⟩:=(A3w n).call _ _ _ _ _ h
 simp only [fin,sI] at h2
 subst h2; exact h1
end
end Go.Ad
