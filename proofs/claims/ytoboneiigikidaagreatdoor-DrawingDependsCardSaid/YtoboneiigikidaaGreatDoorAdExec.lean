/- The abstract evaluator of code: regions, branches, loops, calls, ranges over functions. -/
import Derived.Test.YtoboneiigikidaaGreatDoorAdCore
namespace Go.Ad
def P8{β:Type}(n:Nat)(f:Nat->β):β:=Nat.rec (f 0) (fun k _=>f (Nat.succ k)) n
def B3g{β:Type}(n:Int)(f:Int->β):β :=
 match n with
 | .ofNat m=>P8 m fun m=>f (.ofNat m)
 | .negSucc m=>P8 m fun m=>f (.negSucc m)
def A6a{β:Type}:List UInt8->(List UInt8->β)->β
 | [],f=>f []
 | b::r,f=>P8 b.toNat fun n=>A6a r fun r=>f (UInt8.ofNat n::r)
def F2e{β:Type}(b:Bool)(f:Bool->β):β:=match b with | true=>f true | false=>f false
def B3f{β:Type}(a:Option (Nat×Nat))(f:Option (Nat×Nat)->β):β :=
 match a with
 | none=>f none
 | some (b,o)=>P8 b fun b=>P8 o fun o=>f (some (b,o))
mutual
def R5{β:Type}:AV->(AV->β)->β
 | .bad,f=>f .bad
 | .bool b,f=>F2e b fun b=>f (.bool b)
 | .int k n,f=>B3g n fun n=>f (.int k n)
 | .rng k n lo hi,f=>B3g lo fun lo=>B3g hi fun hi=>f (.rng k n lo hi)
 | .str s,f=>A6a s fun s=>f (.str s)
 | .sint k n,f=>f (.sint k n)
 | .sbool b,f=>f (.sbool b)
 | .sstr s,f=>f (.sstr s)
 | .lstr s lo hi,f=>P8 lo fun lo=>P8 hi fun hi=>f (.lstr s lo hi)
 | .ptr a,f=>B3f a fun a=>f (.ptr a)
 | .slice a n c,f=>B3f a fun a=>P8 n fun n=>P8 c fun c=>f (.slice a n c)
 | .sslice b s n,f=>P8 b fun b=>f (.sslice b s n)
 | .aslc b s n,f=>P8 b fun b=>f (.aslc b s n)
 | .sptr b i j,f=>P8 b fun b=>P8 j fun j=>f (.sptr b i j)
 | .dptr b n,f=>P8 b fun b=>f (.dptr b n)
 | .flist n row es,f=>f (.flist n row es)
 | .fptr cs j,f=>P8 j fun j=>f (.fptr cs j)
 | .map none,f=>f (.map none)
 | .map (some r),f=>P8 r fun r=>f (.map (some r))
 | .func fn xs ys,f=>A4m xs fun xs=>A4m ys fun ys=>f (.func fn xs ys)
 | .nilFunc,f=>f .nilFunc
 | .iface t v,f=>R5 v fun v=>f (.iface t v)
 | .nilIface,f=>f .nilIface
 | .agg xs,f=>A4m xs fun xs=>f (.agg xs)
 | .tuple xs,f=>A4m xs fun xs=>f (.tuple xs)
def A4m{β:Type}:List AV->(List AV->β)->β
 | [],f=>f []
 | x::xs,f=>R5 x fun x=>A4m xs fun xs=>f (x::xs)
end
def C8t{β:Type}(o:AObj)(f:AObj->β):β :=
 match o with
 | .cells c es rw ty=>A4m c fun c=>P8 es fun es=>F2e rw fun rw=>f (.cells c es rw ty)
 | .vec n row es ty=>P8 es fun es=>f (.vec n row es ty)
 | .tail n row es tl ty=>P8 es fun es=>A4m tl fun tl=>f (.tail n row es tl ty)
 | .text s ty=>f (.text s ty)
 | .arr pre k m g ty=>A4m pre fun pre=>f (.arr pre k m g ty)
 | .iter s p=>A6a s fun s=>P8 p fun p=>f (.iter s p)
 | .loop l=>A4m l.tmps fun t=>f (.loop { l with tmps:=t })
 | .maps es=>f (.maps es)
 | .smap l=>f (.smap l)
 | .miter=>f .miter
 | .dead=>f .dead
def C0v{β:Type}:Heap->(Heap->β)->β
 | [],f=>f []
 | o::r,f=>C8t o fun o=>C0v r fun r=>f (o::r)
theorem Q7{β:Type}(n:Nat)(f:Nat->β):P8 n f=f n:=by cases n<;>rfl
theorem C0w{β:Type}(n:Int)(f:Int->β):B3g n f=f n:=by cases n<;>simp[B3g,Q7]
theorem A7e{β:Type}:∀ (l:List UInt8) (f:List UInt8->β),A6a l f=f l
 | [],_=>rfl
 | b::r,f=>by simp[A6a,Q7,A7e r]
theorem D3o{β:Type}(b:Bool)(f:Bool->β):F2e b f=f b:=by cases b<;>rfl
theorem B5d{β:Type}(a:Option (Nat×Nat))(f:Option (Nat×Nat)->β):B3f a f=f a:=by
 cases a<;>simp[B3f,Q7]
mutual
theorem O8{β:Type}:∀ (a:AV) (f:AV->β),R5 a f=f a
 | .bad,_=>rfl
 | .bool b,f=>by simp[R5,D3o]
 | .int k n,f=>by simp[R5,C0w]
 | .rng k n lo hi,f=>by simp[R5,C0w]
 | .str s,f=>by simp[R5,A7e]
 | .sint _ _,_=>rfl
 | .sbool _,_=>rfl
 | .sstr _,_=>rfl
 | .lstr ..,_=>by simp[R5,Q7]
 | .ptr a,f=>by simp[R5,B5d]
 | .slice a n c,f=>by simp[R5,B5d,Q7]
 | .sslice ..,f=>by simp[R5,Q7]
 | .aslc ..,f=>by simp[R5,Q7]
 | .sptr ..,f=>by simp[R5,Q7]
 | .dptr ..,f=>by simp[R5,Q7]
 | .flist ..,_=>rfl
 | .fptr ..,f=>by simp[R5,Q7]
 | .map none,f=>rfl
 | .map (some r),f=>by simp[R5,Q7]
 | .func fn xs ys,f=>by simp[R5,V8 xs,V8 ys]
 | .nilFunc,_=>rfl
 | .iface t v,f=>by simp[R5,O8 v]
 | .nilIface,_=>rfl
 | .agg xs,f=>by simp[R5,V8 xs]
 | .tuple xs,f=>by simp[R5,V8 xs]
theorem V8{β:Type}:∀ (l:List AV) (f:List AV->β),A4m l f=f l
 | [],_=>rfl
 | x::xs,f=>by simp[A4m,O8 x,V8 xs]
end
theorem D8d{β:Type}(o:AObj)(f:AObj->β):C8t o f=f o:=by
 cases o<;>simp[C8t,V8,Q7,D3o,A7e]
theorem A1v{β:Type}:∀ (l:Heap) (f:Heap->β),C0v l f=f l
 | [],_=>rfl
 | o::r,f=>by simp[C0v,D8d,A1v r]
inductive AEx where
 | normal
 | exit (id:Nat)
 | ret
abbrev E2a:=Option (AEx×List AV×Heap×List Nat)
inductive Tr (α:Type) where
 | leaf (a:α)
 | br (b:Bool) (t f:Tr α)
 | fail
def Tr.get{α:Type}:Tr α->Option α
 | .leaf a=>some a
 | .br b t f=>match b with
  | true=>t.get
  | false=>f.get
 | .fail=>none
def Tr.of{α:Type}:Option α->Tr α
 | some a=>.leaf a
 | none=>.fail
theorem Tr.get_of{α:Type}(o:Option α):(Tr.of o).get=o:=by cases o<;>rfl
abbrev Blk:=List AV->Heap->Tr (AEx×List AV×Heap×List Nat)
abbrev Bps:=Nat->Option Blk
def A8o:Bps:=fun _=>none
structure Rec where
 exec:Bps->Code->List AV->Heap->E2a
 call:FuncId->List AV->Heap->A3m
 /-- Functions that have no body: the machine knows them. -/
 ext:FuncId->Option (List AV->Option AV)
mutual
def below(n:Nat):AV->Bool
 | .ptr (some (b,_))=>b<n
 | .slice (some (b,_)) _ _=>b<n
 | .sslice b _ _=>b<n
 | .aslc b _ _=>b<n
 | .sptr b _ _=>b<n
 | .dptr b _=>b<n
 | .flist .. | .fptr ..=>decide (0<n)
 | .map (some b)=>b<n
 | .func (.yield l) xs ys=>l<n&&R4 n xs&&R4 n ys
 | .func _ xs ys=>R4 n xs&&R4 n ys
 | .iface _ v=>below n v
 | .agg xs=>R4 n xs
 | .tuple xs=>R4 n xs
 | _=>true
def R4(n:Nat):List AV->Bool
 | []=>true
 | x::xs=>below n x&&R4 n xs
end
mutual
def F5(n:Nat):AV->Bool
 | .ptr (some (b,_))=>b<n
 | .slice (some (b,_)) _ _=>b<n
 | .sslice b _ k=>decide (k=0)||decide (b<n)
 | .aslc b _ _=>b<n
 | .sptr b _ _=>b<n
 | .dptr b k=>decide (k=0)||decide (b<n)
 | .map (some b)=>b<n
 | .func (.yield l) xs ys=>l<n&&I9 n xs&&I9 n ys
 | .func _ xs ys=>I9 n xs&&I9 n ys
 | .iface _ v=>F5 n v
 | .agg xs=>I9 n xs
 | .tuple xs=>I9 n xs
 | _=>true
def I9(n:Nat):List AV->Bool
 | []=>true
 | x::xs=>F5 n x&&I9 n xs
end
def A4e(n:Nat):Option AObj->Bool
 | some (.cells c _ _ _)=>R4 n c
 | some (.iter _ _)=>true
 | some (.vec ..)=>true
 | some (.text ..)=>true
 | some (.arr ..)=>true
 | some .miter=>true
 | some .dead=>true
 | _=>false
def B6d(n:Nat):AV->Option Nat
 | .slice (some (b,_)) _ _=>if n<=b then some b else none
 | .ptr (some (b,_))=>if n<=b then some b else none
 | _=>none
def B2r(n:Nat):List AV->Option Nat
 | []=>none
 | x::xs=>match B6d n x with
  | some b=>some b
  | none=>B2r n xs
def E8p(n:Nat):AV->Option Nat
 | .tuple xs=>B2r n xs
 | v=>B6d n v
def C0e(b n:Nat):AV->AV
 | .slice (some (b',o)) l c=>if b'=b then .slice (some (n,o)) l c else .slice (some (b',o)) l c
 | .ptr (some (b',o))=>if b'=b then .ptr (some (n,o)) else .ptr (some (b',o))
 | v=>v
def B0y(b n:Nat):AV->Bool
 | .slice (some (b',_)) _ _=>b'<n||b'==b
 | .ptr (some (b',_))=>b'<n||b'==b
 | v=>below n v
def G0x(b n:Nat):AV->Bool
 | .tuple xs=>xs.all (B0y b n)
 | v=>B0y b n v
def G1b(b n:Nat):AV->AV
 | .tuple xs=>.tuple (xs.map (C0e b n))
 | v=>C0e b n v
def gc(B:Heap)(v:AV)(B':Heap)(D:List Nat):AV×Heap×List Nat :=
 let n:=B.length
 let D':=D.filter (·<n)
 if below n v&&D'.all (fun b=>A4e n B'[b]?) then
  (v,if D'.isEmpty then B else B'.take n,D')
 else if D'.isEmpty then
  match E8p n v with
  | some b =>
   match B'[b]? with
   | some (.cells c es rw ty) =>
    if G0x b n v&&R4 n c then(G1b b n v,B++[.cells c es rw ty],[]) else(v,B',D')
   | _=>(v,B',D')
  | none=>(v,B',D')
 else(v,B',D')
def Y5(P:Program)(B:Heap)(U:List AV):List ResultVar->Option (List AV)
 | []=>some []
 | .tmp t::r=>(Y5 P B U r).map (U.getD t G8::·)
 | .cell a t::r =>
  match A1c P B t (U.getD a G8),Y5 P B U r with
  | some v,some l=>some (v::l)
  | _,_=>none
def A2i:List AV->AV
 | [v]=>v
 | l=>.tuple l
def A1h(ops:Array Oper)(U:List AV)(o:Oper):Option Bool :=
 match o.guard with
 | none=>some true
 | some (j,want) =>
  match (ops[j]?).bind (·.dst) with
  | none=>some false
  | some d =>
   match U[d]? with
   | some (.bool b)=>some (b==want)
   | some .bad=>none
   | some (.sbool b)=>some (b==want)
   | _=>some false
def R9(U:List AV)(d:Option Tmp)(v:AV):List AV :=
 match d with
 | some d=>U.set d v
 | none=>U
def A6d(r:Rec)(l:Nat)(args:List AV)(B:Heap):A3m :=
 match B[l]? with
 | some (.loop lo) =>
  if args.length=lo.params.size then
   match r.exec A8o lo.assign ((lo.params.toList.zip args).foldl (fun t (p,a)=>t.set p a) lo.tmps) B with
   | some (.normal,U1,B1,D1) =>
    match B1[l]? with
    | some (.loop lo1) =>
     if lo1.state=.ready then
      match r.exec A8o lo.body U1 (B1.set l (.loop { lo1 with state:=.busy })) with
      | some (e,_,B2,D2) =>
       match B2[l]? with
       | some (.loop lo2) =>
        match e with
        | .normal=>some (.bool true,B2.set l (.loop { lo2 with state:=.ready,pending:=none }),D1++[l]++D2++[l])
        | .ret=>some (.bool false,B2.set l (.loop { lo2 with state:=.done,pending:=some .ret }),D1++[l]++D2++[l])
        | .exit id=>some (.bool false,B2.set l (.loop { lo2 with state:=.done,pending:=some (.exit id) }),D1++[l]++D2++[l])
       | _=>none
      | none=>none
     else none
    | _=>none
   | _=>none
  else none
 | _=>none
def B7o(r:Rec)(f:AV)(args:List AV)(B:Heap):A3m :=
 match f with
 | .func (.func g) first captured=>r.call g (first++args++captured) B
 | .func (.yield l) first _=>A6d r l (first++args) B
 | _=>none
def E5u(ext:FuncId->Option (List AV->Option AV)):AV->Option (List AV->Option AV)
 | .func (.func g) [] []=>ext g
 | _=>none
def N7(P:Program)(r:Rec)(U:Operand->AV)(B:Heap)(op:Op):A3m :=
 match op with
 | .call { callee:=.value f,args,.. } =>
  match E5u r.ext (U f) with
  | some h=>only B (h (args.toList.map U))
  | none=>B7o r (U f) (args.toList.map U) B
 | op=>aop P U B op
def N8(P:Program)(r:Rec)(ops:Array Oper):List Oper->List AV->Heap->Option (List AV×Heap×List Nat)
 | [],U,B=>some (U,B,[])
 | o::rest,U,B =>
  match A1h ops U o with
  | some true =>
   match N7 P r (M4 (gN P) U) B o.op with
   | some (v,B1,D1) =>
    R5 v fun v =>
    match N8 P r ops rest (R9 U o.dst v) B1 with
    | some (U2,B2,D2)=>some (U2,B2,D1++D2)
    | none=>none
   | none=>none
  | some false=>N8 P r ops rest (R9 U o.dst G8) B
  | none=>none
def norm(U:List AV)(d:Tmp):List AV :=
 match U[d]? with
 | some (.sbool b)=>U.set d (.bool b)
 | _=>U
def B2n(ops:Array Oper)(o:Oper):Option Tmp :=
 match o.guard with
 | none=>none
 | some (j,_)=>(ops[j]?).bind (·.dst)
def B6f(o:Oper):Option Tmp :=
 match o.op with
 | .pick (.tmp d) _ _=>some d
 | _=>none
def B0b(U:List AV)(d:Option Tmp):List AV :=
 match d with
 | some d=>norm U d
 | none=>U
def A4t(P:Program)(r:Rec)(ops:Array Oper):List Oper->List AV->Heap->Option (List AV×Heap×List Nat)
 | [],U,B=>some (U,B,[])
 | o::rest,U0,B =>
  let U:=B0b (B0b U0 (B2n ops o)) (B6f o)
  match A1h ops U o with
  | some true =>
   match N7 P r (M4 (gN P) U) B o.op with
   | some (v,B1,D1) =>
    R5 v fun v =>
    match A4t P r ops rest (R9 U o.dst v) B1 with
    | some (U2,B2,D2)=>some (U2,B2,D1++D2)
    | none=>none
   | none=>none
  | some false=>A4t P r ops rest (R9 U o.dst G8) B
  | none=>none
def C6b:Operand->Option Tmp
 | .tmp d=>some d
 | _=>none
def looks(ops:Array Oper)(o:Oper):List Tmp :=
 (o.op.operands.toList.filterMap fun | .tmp t=>some t | _=>none) ++
 (match o.guard with
  | some (j,_)=>((ops[j]?).bind (·.dst)).toList
  | none=>[])
def H9:List Oper->List (List Nat)->List (List Nat)
 | [],acc=>acc
 | o::rest,acc =>
  H9 rest (acc++[((o.after.toList.filter (Region.binds .any)).flatMap fun e=>e.on::acc.getD e.on []).eraseDups])
def B4x(ops:Array Oper)(m:Nat):Bool :=
 let l:=ops.toList
 let bs:=H9 l []
 let ix:=List.range l.length
 ix.all (fun i=>match l[i]? with
  | none=>false
  | some o =>
   (o.after.toList.all fun e=>!Region.binds .any e||e.on<i) &&
   (i<m||(List.range i).all fun j=>(bs.getD i []).contains j) &&
   (i >= m||ix.all fun j=>match l[j]? with
    | none=>false
    | some q=>j >= m||i==j||((match q.dst with
     | none=>true
     | some t=>(o.dst != some t)&&(!(looks ops o).contains t||(j<i&&(bs.getD i []).contains j)||(i<j&&(bs.getD j []).contains i))))))
def A6c(P:Program)(r:Rec)(ops:Array Oper)(m:Nat)(U:List AV)(B:Heap):Option (List AV×Heap×List Nat) :=
 if B4x ops m then
  match N8 P r ops (ops.toList.take m) U B with
  | some (U1,B1,[])=>A4t P r ops (ops.toList.drop m) U1 B1
  | _=>none
 else none
def B6c:Op->Bool
 | .store .. | .assign .. | .mapUpdate .. | .insert ..=>true
 | .call { callee:=.builtin .copy,.. }=>true
 | .call { callee:=.builtin .clear,.. }=>true
 | .call { callee:=.builtin .unsafeString,.. }=>true
 | _=>false
def C0c(ops:Array Oper):Nat:=(ops.toList.takeWhile fun o=>!B6c o.op).length
def E7s:Op->Bool
 | .assign ..=>true
 | _=>false
def G0o:Op->Bool
 | .call { callee:=.value (.tmp _),.. }=>true
 | _=>false
def E5q(ops:Array Oper):Nat:=(ops.toList.takeWhile fun o=>!B6c o.op&&!G0o o.op).length
def F5i:Op->Bool
 | .call { callee:=.value (.func _),.. }=>true
 | _=>false
def F9c(ops:Array Oper)(bs:List (List Nat))(m0:Nat):Nat->Nat
 | 0=>m0
 | m+1=>match ops[m]? with
  | some o=>if o.guard.isNone&&(List.range m).all fun j=>(bs.getD m []).contains j then(if F5i o.op then m else F9c ops bs m0 m) else m0
  | none=>m0
def D0n(ops:Array Oper):Nat :=
 if ops.toList.any (fun o=>G0o o.op)&&B4x ops (E5q ops) then E5q ops
 else
  let m:=(ops.toList.takeWhile fun o=>!B6c o.op||E7s o.op).length
  if B4x ops m then m else C0c ops
def B5z(ops:Array Oper):Nat:=F9c ops (H9 ops.toList []) (D0n ops) (D0n ops)
def B8c(r:Rec)(f:AV)(U:List AV)(ps:Array Tmp)(as body:Code)(B:Heap):A3m :=
 match f with
 | .func (.func g) first captured =>
  r.call g (first++[AV.func (.yield B.length) [] []]++captured) (B++[AObj.loop { state:=.ready,pending:=none,tmps:=U,params:=ps,assign:=as,body }])
 | _=>none
def B3k(D:List Nat):E2a->E2a
 | some (e,U,B,D')=>some (e,U,B,D++D')
 | none=>none
def C0d(ops:Array Oper)(m:Nat):Bool :=
 let l:=ops.toList
 let bs:=H9 l []
 let ix:=List.range l.length
 ix.all (fun i=>match l[i]? with
  | none=>false
  | some o =>
   (o.after.toList.all fun e=>!Region.binds .any e||e.on<i) &&
   (i<m||(List.range' m (i-m)).all fun j=>(bs.getD i []).contains j) &&
   ix.all fun j=>match l[j]? with
    | none=>false
    | some q=>match q.dst with
     | none=>true
     | some t=>(i==j||((o.dst != some t)&&(!(looks ops o).contains t||(j<i&&(bs.getD i []).contains j)||(i<j&&(bs.getD j []).contains i)))) &&
      (m<=i||(bs.getD m []).contains i||!(looks ops o).contains t||j<i))
def G0r(ops:Array Oper)(m:Nat):List Nat :=
 let bs:=H9 ops.toList []
 (List.range m).filter fun p=>!(bs.getD m []).contains p
def A8k:Op->Bool
 | .move _ | .extract .. | .fieldAddr .. | .field .. | .nilCheck _ | .index .. | .binOp .. | .unOp .. | .build .. | .makeInterface ..=>true
 | _=>false
def B3v(G:Nat)(U:List AV)(D:List Nat):Op->Bool
 | .load _ a=>match M4 G U a with
  | .ptr (some (b,_))=>!D.contains b
  | .fptr ..=>true
  | _=>false
 | .indexAddr _ x _=>match M4 G U x with
  | .slice ..=>true
  | .flist ..=>true
  | _=>false
 | .slice _ x _ _ _=>match M4 G U x with
  | .slice (some (b,_)) _ _=>!D.contains b
  | _=>false
 | .call { callee:=.builtin .len,args,argTypes:=_ }=>match args.toList.map (M4 G U) with
  | [.slice ..]=>true
  | [.flist ..]=>true
  | [.str _]=>true
  | [.sslice ..]=>true
  | _=>false
 | op=>A8k op
def E1z(G:Nat)(U:List AV)(ops:Array Oper)(m:Nat):Op->Option (List Nat)
 | .store _ (.tmp d) _=>if(ops.toList.drop m).any (fun q=>q.dst==some d) then none else
  match M4 G U (.tmp d) with
  | .ptr (some (b,_))=>some [b]
  | _=>none
 | _=>none
def E0g(ops:Array Oper)(m p:Nat):List Nat:=(List.range' m (ops.size-m)).filter fun x=>!((H9 ops.toList []).getD x []).contains p
def E8f(ops:Array Oper)(G:Nat)(U:List AV)(m p:Nat):Option (List Nat) :=
 if(E0g ops m p).all (fun x=>match ops[x]? with | some o=>(E1z G U ops m o.op).isSome | none=>false) then
  some ((E0g ops m p).flatMap fun x=>match ops[x]? with | some o=>(E1z G U ops m o.op).getD [] | none=>[])
 else none
def C6s(ops:Array Oper)(G:Nat)(U:List AV)(D:List Nat)(m:Nat):Bool :=
 (G0r ops m).all fun p=>match ops[p]? with
  | some o=>B3v G U D o.op||(match E8f ops G U m p with | some D'=>B3v G U D' o.op | none=>false)
  | none=>true
def A2o(P:Program)(r:Rec)(ops:Array Oper)(m:Nat)(U:List AV)(B:Heap):Option (List AV×Heap×List Nat) :=
 if C0d ops m then
  match N8 P r ops (ops.toList.take m) U B with
  | some (U1,B1,[]) =>
   match N8 P r ops (ops.toList.drop m) U1 B1 with
   | some (U2,B2,D2)=>if decide (m<=ops.size)&&C6s ops (gN P) U1 D2 m then some (U2,B2,D2) else none
   | none=>none
  | _=>none
 else none
def isApp:Op->Bool
 | .call { callee:=.builtin .append,.. }=>true
 | _=>false
def D7s(ord:List Nat)(o:Oper):Oper:={ o with after:=o.after.map fun e=>{ e with on:=ord.idxOf e.on },guard:=o.guard.map fun g=>(ord.idxOf g.1,g.2) }
def A8s(ops:Array Oper)(ord:List Nat):Array Oper:=(ord.map fun i=>D7s ord (ops[i]?.getD default)).toArray
def F5r:List Nat->Bool
 | []=>true
 | k::ks=>!ks.contains k&&F5r ks
def D7q(ops:Array Oper)(ord:List Nat):Bool :=
 decide (ord.length=ops.size)&&(F5r ord&&(ord.all (fun i=>decide (i<ops.size))&&ops.toList.all fun o=>o.after.toList.all (fun e=>decide (e.on<ops.size))&&(match o.guard with | some (j,_)=>decide (j<ops.size) | none=>true)))
def D6q:List Oper->Nat->List Nat->List Nat->List Nat×List Nat
 | [],_,done,rest=>(done,rest)
 | o::r,i,done,rest =>
  if A8k o.op&&o.guard.isNone&&(o.after.toList.all fun e=>!Region.binds .any e||done.contains e.on) then D6q r (i+1) (done++[i]) rest else D6q r (i+1) done (rest++[i])
def A9m(ops:Array Oper):Option (List Nat×Nat) :=
 if ops.toList.any (fun o=>isApp o.op) then
  let m:=(ops.toList.takeWhile fun o=>!B6c o.op&&!isApp o.op).length
  let p:=D6q (ops.toList.drop m) m (List.range m) []
  if D7q ops (p.1++p.2)&&C0d (A8s ops (p.1++p.2)) p.1.length then some (p.1++p.2,p.1.length) else none
 else none
def B7s(P:Program)(r:Rec)(ops:Array Oper)(U:List AV)(B:Heap):Option (List AV×Heap×List Nat) :=
 if B4x ops (B5z ops) then A6c P r ops (B5z ops) U B else A2o P r ops (C0c ops) U B
def B1s(P:Program)(r:Rec)(ops:Array Oper)(U:List AV)(B:Heap):Option (List AV×Heap×List Nat) :=
 match A9m ops with
 | some p=>A2o P r (A8s ops p.1) p.2 U B
 | none=>B7s P r ops U B
def J9(P:Program)(r:Rec)(bp:Bps):Code->List AV->Heap->E2a
 | .skip,U,B=>some (.normal,U,B,[])
 | .label _,U,B=>some (.normal,U,B,[])
 | .exit id,U,B=>some (.exit id,U,B,[])
 | .ret,U,B=>some (.ret,U,B,[])
 | .region _ ops false,U,B=>(A4t P r ops ops.toList U B).map fun(U,B,D)=>(.normal,U,B,D)
 | .region _ ops true,U,B=>(B1s P r ops U B).map fun(U,B,D)=>(.normal,U,B,D)
 | .seq a b,U,B =>
  match J9 P r bp a U B with
  | some (.normal,U1,B1,D1)=>B3k D1 (J9 P r bp b U1 B1)
  | x=>x
 | .cond c a b,U0,B =>
  let U:=B0b U0 (C6b c)
  match M4 (gN P) U c with
  | .bool true=>J9 P r bp a U B
  | .bool false=>J9 P r bp b U B
  | _=>none
 | .block id c,U,B =>
  match bp id with
  | some g=>(g U B).get
  | none =>
   match J9 P r bp c U B with
   | some (.exit id',U1,B1,D1)=>some (if id'=id then .normal else .exit id',U1,B1,D1)
   | x=>x
 | .loop c,U,B =>
  match J9 P r bp c U B with
  | some (.normal,U1,B1,D1)=>A4m U1 fun U1=>C0v B1 fun B1=>B3k D1 (r.exec bp (.loop c) U1 B1)
  | x=>x
 | .scope c,U,B=>J9 P r bp c U B
 | .rangeFunc f ps as body,U,B =>
  match B8c r (M4 (gN P) U f) U ps as body B with
  | some (_,B1,D1) =>
   match B1[B.length]? with
   | some (.loop lo) =>
    if lo.state=.busy then none else
    match lo.pending with
    | none=>some (.normal,U,B1.set B.length (.loop { lo with state:=.exhausted }),D1++[B.length])
    | some .ret=>some (.ret,U,B1.set B.length (.loop { lo with state:=.exhausted }),D1++[B.length])
    | some (.exit id)=>some (.exit id,U,B1.set B.length (.loop { lo with state:=.exhausted }),D1++[B.length])
    | _=>none
   | _=>none
  | none=>none
 | _,_,_=>none
structure Prims where
 fn:FuncId->Option (List AV->Heap->Tr (AV×Heap×List Nat))
 ext:FuncId->Option (List AV->Option AV)
 blk:FuncId->Bps
def A8b(P:Program)(prims:Prims)(r:Rec)(f:FuncId)(args:List AV)(B:Heap):A3m :=
 match prims.fn f with
 | some g=>(g args B).get
 | none =>
  match P.funcs[f]? with
  | none=>none
  | some fn =>
   match fn.body with
   | none=>none
   | some c =>
    A4m args fun args=>C0v B fun B =>
    match J9 P r (prims.blk f) c (args++List.replicate (fn.ntmps-args.length) G8) B with
    | some (.exit _,_,_,_)=>none
    | some (_,U,B',D) =>
     match Y5 P B' U fn.results.toList with
     | some l=>some (gc B (A2i l) B' D)
     | none=>none
    | none=>none
def run(P:Program)(prims:Prims):Nat->Rec
 | 0=>{ exec:=fun _ _ _ _=>none,call:=fun _ _ _=>none,ext:=prims.ext }
 | n+1=>{ exec:=fun bp=>J9 P (run P prims n) bp,call:=A8b P prims (run P prims n),ext:=prims.ext }
end Go.Ad
