/- The abstract evaluator of code: regions, branches, loops, calls, ranges over functions. -/
import Derived.Test.YtoboneiigikidaaGreatDoorAdCore
namespace Go.Ad
def O4{β:Type}(n:Nat)(f:Nat->β):β:=Nat.rec (f 0) (fun k _=>f (Nat.succ k)) n
def B3a{β:Type}(n:Int)(f:Int->β):β :=
 match n with
 | .ofNat m=>O4 m fun m=>f (.ofNat m)
 | .negSucc m=>O4 m fun m=>f (.negSucc m)
def A5q{β:Type}:List UInt8->(List UInt8->β)->β
 | [],f=>f []
 | b::r,f=>O4 b.toNat fun n=>A5q r fun r=>f (UInt8.ofNat n::r)
def F2e{β:Type}(b:Bool)(f:Bool->β):β:=match b with | true=>f true | false=>f false
def B2z{β:Type}(a:Option (Nat×Nat))(f:Option (Nat×Nat)->β):β :=
 match a with
 | none=>f none
 | some (b,o)=>O4 b fun b=>O4 o fun o=>f (some (b,o))
mutual
def P9{β:Type}:AV->(AV->β)->β
 | .bad,f=>f .bad
 | .bool b,f=>F2e b fun b=>f (.bool b)
 | .int k n,f=>B3a n fun n=>f (.int k n)
 | .rng k n lo hi,f=>B3a lo fun lo=>B3a hi fun hi=>f (.rng k n lo hi)
 | .str s,f=>A5q s fun s=>f (.str s)
 | .sint k n,f=>f (.sint k n)
 | .sbool b,f=>f (.sbool b)
 | .sstr s,f=>f (.sstr s)
 | .lstr s lo hi,f=>O4 lo fun lo=>O4 hi fun hi=>f (.lstr s lo hi)
 | .ptr a,f=>B2z a fun a=>f (.ptr a)
 | .slice a n c,f=>B2z a fun a=>O4 n fun n=>O4 c fun c=>f (.slice a n c)
 | .sslice b s n,f=>O4 b fun b=>f (.sslice b s n)
 | .aslc b s n,f=>O4 b fun b=>f (.aslc b s n)
 | .sptr b i j,f=>O4 b fun b=>O4 j fun j=>f (.sptr b i j)
 | .dptr b n,f=>O4 b fun b=>f (.dptr b n)
 | .flist n row es,f=>f (.flist n row es)
 | .fptr cs j,f=>O4 j fun j=>f (.fptr cs j)
 | .map none,f=>f (.map none)
 | .map (some r),f=>O4 r fun r=>f (.map (some r))
 | .func fn xs ys,f=>A4c xs fun xs=>A4c ys fun ys=>f (.func fn xs ys)
 | .nilFunc,f=>f .nilFunc
 | .iface t v,f=>P9 v fun v=>f (.iface t v)
 | .nilIface,f=>f .nilIface
 | .agg xs,f=>A4c xs fun xs=>f (.agg xs)
 | .tuple xs,f=>A4c xs fun xs=>f (.tuple xs)
def A4c{β:Type}:List AV->(List AV->β)->β
 | [],f=>f []
 | x::xs,f=>P9 x fun x=>A4c xs fun xs=>f (x::xs)
end
def C8w{β:Type}(o:AObj)(f:AObj->β):β :=
 match o with
 | .cells c es rw ty=>A4c c fun c=>O4 es fun es=>F2e rw fun rw=>f (.cells c es rw ty)
 | .vec n row es ty=>O4 es fun es=>f (.vec n row es ty)
 | .tail n row es tl ty=>O4 es fun es=>A4c tl fun tl=>f (.tail n row es tl ty)
 | .text s ty=>f (.text s ty)
 | .arr pre k m g ty=>A4c pre fun pre=>f (.arr pre k m g ty)
 | .iter s p=>A5q s fun s=>O4 p fun p=>f (.iter s p)
 | .loop l=>A4c l.tmps fun t=>f (.loop { l with tmps:=t })
 | .maps es=>f (.maps es)
 | .smap l=>f (.smap l)
 | .miter=>f .miter
 | .dead=>f .dead
def C0k{β:Type}:Heap->(Heap->β)->β
 | [],f=>f []
 | o::r,f=>C8w o fun o=>C0k r fun r=>f (o::r)
theorem O8{β:Type}(n:Nat)(f:Nat->β):O4 n f=f n:=by cases n<;>rfl
theorem C0l{β:Type}(n:Int)(f:Int->β):B3a n f=f n:=by cases n<;>simp[B3a,O8]
theorem A6w{β:Type}:∀ (l:List UInt8) (f:List UInt8->β),A5q l f=f l
 | [],_=>rfl
 | b::r,f=>by simp[A5q,O8,A6w r]
theorem D3s{β:Type}(b:Bool)(f:Bool->β):F2e b f=f b:=by cases b<;>rfl
theorem B4z{β:Type}(a:Option (Nat×Nat))(f:Option (Nat×Nat)->β):B2z a f=f a:=by
 cases a<;>simp[B2z,O8]
mutual
theorem O1{β:Type}:∀ (a:AV) (f:AV->β),P9 a f=f a
 | .bad,_=>rfl
 | .bool b,f=>by simp[P9,D3s]
 | .int k n,f=>by simp[P9,C0l]
 | .rng k n lo hi,f=>by simp[P9,C0l]
 | .str s,f=>by simp[P9,A6w]
 | .sint _ _,_=>rfl
 | .sbool _,_=>rfl
 | .sstr _,_=>rfl
 | .lstr ..,_=>by simp[P9,O8]
 | .ptr a,f=>by simp[P9,B4z]
 | .slice a n c,f=>by simp[P9,B4z,O8]
 | .sslice ..,f=>by simp[P9,O8]
 | .aslc ..,f=>by simp[P9,O8]
 | .sptr ..,f=>by simp[P9,O8]
 | .dptr ..,f=>by simp[P9,O8]
 | .flist ..,_=>rfl
 | .fptr ..,f=>by simp[P9,O8]
 | .map none,f=>rfl
 | .map (some r),f=>by simp[P9,O8]
 | .func fn xs ys,f=>by simp[P9,U5 xs,U5 ys]
 | .nilFunc,_=>rfl
 | .iface t v,f=>by simp[P9,O1 v]
 | .nilIface,_=>rfl
 | .agg xs,f=>by simp[P9,U5 xs]
 | .tuple xs,f=>by simp[P9,U5 xs]
theorem U5{β:Type}:∀ (l:List AV) (f:List AV->β),A4c l f=f l
 | [],_=>rfl
 | x::xs,f=>by simp[A4c,O1 x,U5 xs]
end
theorem D7x{β:Type}(o:AObj)(f:AObj->β):C8w o f=f o:=by
 cases o<;>simp[C8w,U5,O8,D3s,A6w]
theorem A1h{β:Type}:∀ (l:Heap) (f:Heap->β),C0k l f=f l
 | [],_=>rfl
 | o::r,f=>by simp[C0k,D7x,A1h r]
inductive AEx where
 | normal
 | exit (id:Nat)
 | ret
abbrev E1v:=Option (AEx×List AV×Heap×List Nat)
inductive Tr (α:Type) where
 | leaf (a:α)
 | br (b:Bool) (t f:Tr α)
 | fail
def Tr.get{α:Type}:Tr α->Option α
 | .leaf a=>some a
 | .br b t f=>match b with
  | true=>t.get
  | false=>f.get
 | .fail=>none
def Tr.of{α:Type}:Option α->Tr α
 | some a=>.leaf a
 | none=>.fail
theorem Tr.get_of{α:Type}(o:Option α):(Tr.of o).get=o:=by cases o<;>rfl
abbrev Blk:=List AV->Heap->Tr (AEx×List AV×Heap×List Nat)
abbrev Bps:=Nat->Option Blk
def A8f:Bps:=fun _=>none
structure Rec where
 exec:Bps->Code->List AV->Heap->E1v
 call:FuncId->List AV->Heap->A2y
 /-- Functions that have no body: the machine knows them. -/
 ext:FuncId->Option (List AV->Option AV)
mutual
def below(n:Nat):AV->Bool
 | .ptr (some (b,_))=>b<n
 | .slice (some (b,_)) _ _=>b<n
 | .sslice b _ _=>b<n
 | .aslc b _ _=>b<n
 | .sptr b _ _=>b<n
 | .dptr b _=>b<n
 | .flist .. | .fptr ..=>decide (0<n)
 | .map (some b)=>b<n
 | .func (.yield l) xs ys=>l<n&&P7 n xs&&P7 n ys
 | .func _ xs ys=>P7 n xs&&P7 n ys
 | .iface _ v=>below n v
 | .agg xs=>P7 n xs
 | .tuple xs=>P7 n xs
 | _=>true
def P7(n:Nat):List AV->Bool
 | []=>true
 | x::xs=>below n x&&P7 n xs
end
mutual
def F3(n:Nat):AV->Bool
 | .ptr (some (b,_))=>b<n
 | .slice (some (b,_)) _ _=>b<n
 | .sslice b _ k=>decide (k=0)||decide (b<n)
 | .aslc b _ _=>b<n
 | .sptr b _ _=>b<n
 | .dptr b k=>decide (k=0)||decide (b<n)
 | .map (some b)=>b<n
 | .func (.yield l) xs ys=>l<n&&I8 n xs&&I8 n ys
 | .func _ xs ys=>I8 n xs&&I8 n ys
 | .iface _ v=>F3 n v
 | .agg xs=>I8 n xs
 | .tuple xs=>I8 n xs
 | _=>true
def I8(n:Nat):List AV->Bool
 | []=>true
 | x::xs=>F3 n x&&I8 n xs
end
def A3s(n:Nat):Option AObj->Bool
 | some (.cells c _ _ _)=>P7 n c
 | some (.iter _ _)=>true
 | some (.vec ..)=>true
 | some (.text ..)=>true
 | some (.arr ..)=>true
 | some .miter=>true
 | some .dead=>true
 | _=>false
def B5y(n:Nat):AV->Option Nat
 | .slice (some (b,_)) _ _=>if n<=b then some b else none
 | .ptr (some (b,_))=>if n<=b then some b else none
 | _=>none
def B2l(n:Nat):List AV->Option Nat
 | []=>none
 | x::xs=>match B5y n x with
  | some b=>some b
  | none=>B2l n xs
def E8m(n:Nat):AV->Option Nat
 | .tuple xs=>B2l n xs
 | v=>B5y n v
def B9v(b n:Nat):AV->AV
 | .slice (some (b',o)) l c=>if b'=b then .slice (some (n,o)) l c else .slice (some (b',o)) l c
 | .ptr (some (b',o))=>if b'=b then .ptr (some (n,o)) else .ptr (some (b',o))
 | v=>v
def B0p(b n:Nat):AV->Bool
 | .slice (some (b',_)) _ _=>b'<n||b'==b
 | .ptr (some (b',_))=>b'<n||b'==b
 | v=>below n v
def G0x(b n:Nat):AV->Bool
 | .tuple xs=>xs.all (B0p b n)
 | v=>B0p b n v
def G1b(b n:Nat):AV->AV
 | .tuple xs=>.tuple (xs.map (B9v b n))
 | v=>B9v b n v
def gc(B:Heap)(v:AV)(B':Heap)(D:List Nat):AV×Heap×List Nat :=
 let n:=B.length
 let D':=D.filter (·<n)
 if below n v&&D'.all (fun b=>A3s n B'[b]?) then
  (v,if D'.isEmpty then B else B'.take n,D')
 else if D'.isEmpty then
  match E8m n v with
  | some b =>
   match B'[b]? with
   | some (.cells c es rw ty) =>
    if G0x b n v&&P7 n c then(G1b b n v,B++[.cells c es rw ty],[]) else(v,B',D')
   | _=>(v,B',D')
  | none=>(v,B',D')
 else(v,B',D')
def X5(P:Program)(B:Heap)(U:List AV):List ResultVar->Option (List AV)
 | []=>some []
 | .tmp t::r=>(X5 P B U r).map (U.getD t H7::·)
 | .cell a t::r =>
  match A2m P B t (U.getD a H7),X5 P B U r with
  | some v,some l=>some (v::l)
  | _,_=>none
def A1s:List AV->AV
 | [v]=>v
 | l=>.tuple l
def A0w(ops:Array Oper)(U:List AV)(o:Oper):Option Bool :=
 match o.guard with
 | none=>some true
 | some (j,want) =>
  match (ops[j]?).bind (·.dst) with
  | none=>some false
  | some d =>
   match U[d]? with
   | some (.bool b)=>some (b==want)
   | some .bad=>none
   | some (.sbool b)=>some (b==want)
   | _=>some false
def Q5(U:List AV)(d:Option Tmp)(v:AV):List AV :=
 match d with
 | some d=>U.set d v
 | none=>U
def A5v(r:Rec)(l:Nat)(args:List AV)(B:Heap):A2y :=
 match B[l]? with
 | some (.loop lo) =>
  if args.length=lo.params.size then
   match r.exec A8f lo.assign ((lo.params.toList.zip args).foldl (fun t (p,a)=>t.set p a) lo.tmps) B with
   | some (.normal,U1,B1,D1) =>
    match B1[l]? with
    | some (.loop lo1) =>
     if lo1.state=.ready then
      match r.exec A8f lo.body U1 (B1.set l (.loop { lo1 with state:=.busy })) with
      | some (e,_,B2,D2) =>
       match B2[l]? with
       | some (.loop lo2) =>
        match e with
        | .normal=>some (.bool true,B2.set l (.loop { lo2 with state:=.ready,pending:=none }),D1++[l]++D2++[l])
        | .ret=>some (.bool false,B2.set l (.loop { lo2 with state:=.done,pending:=some .ret }),D1++[l]++D2++[l])
        | .exit id=>some (.bool false,B2.set l (.loop { lo2 with state:=.done,pending:=some (.exit id) }),D1++[l]++D2++[l])
       | _=>none
      | none=>none
     else none
    | _=>none
   | _=>none
  else none
 | _=>none
def B7e(r:Rec)(f:AV)(args:List AV)(B:Heap):A2y :=
 match f with
 | .func (.func g) first captured=>r.call g (first++args++captured) B
 | .func (.yield l) first _=>A5v r l (first++args) B
 | _=>none
def E5n(ext:FuncId->Option (List AV->Option AV)):AV->Option (List AV->Option AV)
 | .func (.func g) [] []=>ext g
 | _=>none
def M5(P:Program)(r:Rec)(U:Operand->AV)(B:Heap)(op:Op):A2y :=
 match op with
 | .call { callee:=.value f,args,.. } =>
  match E5n r.ext (U f) with
  | some h=>only B (h (args.toList.map U))
  | none=>B7e r (U f) (args.toList.map U) B
 | op=>aop P U B op
def M6(P:Program)(r:Rec)(ops:Array Oper):List Oper->List AV->Heap->Option (List AV×Heap×List Nat)
 | [],U,B=>some (U,B,[])
 | o::rest,U,B =>
  match A0w ops U o with
  | some true =>
   match M5 P r (M0 (gN P) U) B o.op with
   | some (v,B1,D1) =>
    P9 v fun v =>
    match M6 P r ops rest (Q5 U o.dst v) B1 with
    | some (U2,B2,D2)=>some (U2,B2,D1++D2)
    | none=>none
   | none=>none
  | some false=>M6 P r ops rest (Q5 U o.dst H7) B
  | none=>none
def norm(U:List AV)(d:Tmp):List AV :=
 match U[d]? with
 | some (.sbool b)=>U.set d (.bool b)
 | _=>U
def B2i(ops:Array Oper)(o:Oper):Option Tmp :=
 match o.guard with
 | none=>none
 | some (j,_)=>(ops[j]?).bind (·.dst)
def B5z(o:Oper):Option Tmp :=
 match o.op with
 | .pick (.tmp d) _ _=>some d
 | _=>none
def A9r(U:List AV)(d:Option Tmp):List AV :=
 match d with
 | some d=>norm U d
 | none=>U
def A4k(P:Program)(r:Rec)(ops:Array Oper):List Oper->List AV->Heap->Option (List AV×Heap×List Nat)
 | [],U,B=>some (U,B,[])
 | o::rest,U0,B =>
  let U:=A9r (A9r U0 (B2i ops o)) (B5z o)
  match A0w ops U o with
  | some true =>
   match M5 P r (M0 (gN P) U) B o.op with
   | some (v,B1,D1) =>
    P9 v fun v =>
    match A4k P r ops rest (Q5 U o.dst v) B1 with
    | some (U2,B2,D2)=>some (U2,B2,D1++D2)
    | none=>none
   | none=>none
  | some false=>A4k P r ops rest (Q5 U o.dst H7) B
  | none=>none
def C5z:Operand->Option Tmp
 | .tmp d=>some d
 | _=>none
def looks(ops:Array Oper)(o:Oper):List Tmp :=
 (o.op.operands.toList.filterMap fun | .tmp t=>some t | _=>none) ++
 (match o.guard with
  | some (j,_)=>((ops[j]?).bind (·.dst)).toList
  | none=>[])
def I4:List Oper->List (List Nat)->List (List Nat)
 | [],acc=>acc
 | o::rest,acc =>
  I4 rest (acc++[((o.after.toList.filter (Region.binds .any)).flatMap fun e=>e.on::acc.getD e.on []).eraseDups])
def B4u(ops:Array Oper)(m:Nat):Bool :=
 let l:=ops.toList
 let bs:=I4 l []
 let ix:=List.range l.length
 ix.all (fun i=>match l[i]? with
  | none=>false
  | some o =>
   (o.after.toList.all fun e=>!Region.binds .any e||e.on<i) &&
   (i<m||(List.range i).all fun j=>(bs.getD i []).contains j) &&
   (i >= m||ix.all fun j=>match l[j]? with
    | none=>false
    | some q=>j >= m||i==j||((match q.dst with
     | none=>true
     | some t=>(o.dst != some t)&&(!(looks ops o).contains t||(j<i&&(bs.getD i []).contains j)||(i<j&&(bs.getD j []).contains i))))))
def A5t(P:Program)(r:Rec)(ops:Array Oper)(m:Nat)(U:List AV)(B:Heap):Option (List AV×Heap×List Nat) :=
 if B4u ops m then
  match M6 P r ops (ops.toList.take m) U B with
  | some (U1,B1,[])=>A4k P r ops (ops.toList.drop m) U1 B1
  | _=>none
 else none
def B5x:Op->Bool
 | .store .. | .assign .. | .mapUpdate .. | .insert ..=>true
 | .call { callee:=.builtin .copy,.. }=>true
 | .call { callee:=.builtin .clear,.. }=>true
 | .call { callee:=.builtin .unsafeString,.. }=>true
 | _=>false
def B9t(ops:Array Oper):Nat:=(ops.toList.takeWhile fun o=>!B5x o.op).length
def E7q:Op->Bool
 | .assign ..=>true
 | _=>false
def G0p:Op->Bool
 | .call { callee:=.value (.tmp _),.. }=>true
 | _=>false
def E5j(ops:Array Oper):Nat:=(ops.toList.takeWhile fun o=>!B5x o.op&&!G0p o.op).length
def F5f:Op->Bool
 | .call { callee:=.value (.func _),.. }=>true
 | _=>false
def F9b(ops:Array Oper)(bs:List (List Nat))(m0:Nat):Nat->Nat
 | 0=>m0
 | m+1=>match ops[m]? with
  | some o=>if o.guard.isNone&&(List.range m).all fun j=>(bs.getD m []).contains j then(if F5f o.op then m else F9b ops bs m0 m) else m0
  | none=>m0
def D0o(ops:Array Oper):Nat :=
 if ops.toList.any (fun o=>G0p o.op)&&B4u ops (E5j ops) then E5j ops
 else
  let m:=(ops.toList.takeWhile fun o=>!B5x o.op||E7q o.op).length
  if B4u ops m then m else B9t ops
def B5t(ops:Array Oper):Nat:=F9b ops (I4 ops.toList []) (D0o ops) (D0o ops)
def B7r(r:Rec)(f:AV)(U:List AV)(ps:Array Tmp)(as body:Code)(B:Heap):A2y :=
 match f with
 | .func (.func g) first captured =>
  r.call g (first++[AV.func (.yield B.length) [] []]++captured) (B++[AObj.loop { state:=.ready,pending:=none,tmps:=U,params:=ps,assign:=as,body }])
 | _=>none
def B3d(D:List Nat):E1v->E1v
 | some (e,U,B,D')=>some (e,U,B,D++D')
 | none=>none
def B9u(ops:Array Oper)(m:Nat):Bool :=
 let l:=ops.toList
 let bs:=I4 l []
 let ix:=List.range l.length
 ix.all (fun i=>match l[i]? with
  | none=>false
  | some o =>
   (o.after.toList.all fun e=>!Region.binds .any e||e.on<i) &&
   (i<m||(List.range' m (i-m)).all fun j=>(bs.getD i []).contains j) &&
   ix.all fun j=>match l[j]? with
    | none=>false
    | some q=>match q.dst with
     | none=>true
     | some t=>(i==j||((o.dst != some t)&&(!(looks ops o).contains t||(j<i&&(bs.getD i []).contains j)||(i<j&&(bs.getD j []).contains i)))) &&
      (m<=i||(bs.getD m []).contains i||!(looks ops o).contains t||j<i))
def G0s(ops:Array Oper)(m:Nat):List Nat :=
 let bs:=I4 ops.toList []
 (List.range m).filter fun p=>!(bs.getD m []).contains p
def A8c:Op->Bool
 | .move _ | .extract .. | .fieldAddr .. | .field .. | .nilCheck _ | .index .. | .binOp .. | .unOp .. | .build .. | .makeInterface ..=>true
 | _=>false
def B3r(G:Nat)(U:List AV)(D:List Nat):Op->Bool
 | .load _ a=>match M0 G U a with
  | .ptr (some (b,_))=>!D.contains b
  | .fptr ..=>true
  | _=>false
 | .indexAddr _ x _=>match M0 G U x with
  | .slice ..=>true
  | .flist ..=>true
  | _=>false
 | .slice _ x _ _ _=>match M0 G U x with
  | .slice (some (b,_)) _ _=>!D.contains b
  | _=>false
 | .call { callee:=.builtin .len,args,argTypes:=_ }=>match args.toList.map (M0 G U) with
  | [.slice ..]=>true
  | [.flist ..]=>true
  | [.str _]=>true
  | [.sslice ..]=>true
  | _=>false
 | op=>A8c op
def E1u(G:Nat)(U:List AV)(ops:Array Oper)(m:Nat):Op->Option (List Nat)
 | .store _ (.tmp d) _=>if(ops.toList.drop m).any (fun q=>q.dst==some d) then none else
  match M0 G U (.tmp d) with
  | .ptr (some (b,_))=>some [b]
  | _=>none
 | _=>none
def E0f(ops:Array Oper)(m p:Nat):List Nat:=(List.range' m (ops.size-m)).filter fun x=>!((I4 ops.toList []).getD x []).contains p
def E8d(ops:Array Oper)(G:Nat)(U:List AV)(m p:Nat):Option (List Nat) :=
 if(E0f ops m p).all (fun x=>match ops[x]? with | some o=>(E1u G U ops m o.op).isSome | none=>false) then
  some ((E0f ops m p).flatMap fun x=>match ops[x]? with | some o=>(E1u G U ops m o.op).getD [] | none=>[])
 else none
def C6o(ops:Array Oper)(G:Nat)(U:List AV)(D:List Nat)(m:Nat):Bool :=
 (G0s ops m).all fun p=>match ops[p]? with
  | some o=>B3r G U D o.op||(match E8d ops G U m p with | some D'=>B3r G U D' o.op | none=>false)
  | none=>true
def A1x(P:Program)(r:Rec)(ops:Array Oper)(m:Nat)(U:List AV)(B:Heap):Option (List AV×Heap×List Nat) :=
 if B9u ops m then
  match M6 P r ops (ops.toList.take m) U B with
  | some (U1,B1,[]) =>
   match M6 P r ops (ops.toList.drop m) U1 B1 with
   | some (U2,B2,D2)=>if decide (m<=ops.size)&&C6o ops (gN P) U1 D2 m then some (U2,B2,D2) else none
   | none=>none
  | _=>none
 else none
def isApp:Op->Bool
 | .call { callee:=.builtin .append,.. }=>true
 | _=>false
def D7n(ord:List Nat)(o:Oper):Oper:={ o with after:=o.after.map fun e=>{ e with on:=ord.idxOf e.on },guard:=o.guard.map fun g=>(ord.idxOf g.1,g.2) }
def A8j(ops:Array Oper)(ord:List Nat):Array Oper:=(ord.map fun i=>D7n ord (ops[i]?.getD default)).toArray
def F5n:List Nat->Bool
 | []=>true
 | k::ks=>!ks.contains k&&F5n ks
def D7l(ops:Array Oper)(ord:List Nat):Bool :=
 decide (ord.length=ops.size)&&(F5n ord&&(ord.all (fun i=>decide (i<ops.size))&&ops.toList.all fun o=>o.after.toList.all (fun e=>decide (e.on<ops.size))&&(match o.guard with | some (j,_)=>decide (j<ops.size) | none=>true)))
def D6m:List Oper->Nat->List Nat->List Nat->List Nat×List Nat
 | [],_,done,rest=>(done,rest)
 | o::r,i,done,rest =>
  if A8c o.op&&o.guard.isNone&&(o.after.toList.all fun e=>!Region.binds .any e||done.contains e.on) then D6m r (i+1) (done++[i]) rest else D6m r (i+1) done (rest++[i])
def A9a(ops:Array Oper):Option (List Nat×Nat) :=
 if ops.toList.any (fun o=>isApp o.op) then
  let m:=(ops.toList.takeWhile fun o=>!B5x o.op&&!isApp o.op).length
  let p:=D6m (ops.toList.drop m) m (List.range m) []
  if D7l ops (p.1++p.2)&&B9u (A8j ops (p.1++p.2)) p.1.length then some (p.1++p.2,p.1.length) else none
 else none
def B7h(P:Program)(r:Rec)(ops:Array Oper)(U:List AV)(B:Heap):Option (List AV×Heap×List Nat) :=
 if B4u ops (B5t ops) then A5t P r ops (B5t ops) U B else A1x P r ops (B9t ops) U B
def B1m(P:Program)(r:Rec)(ops:Array Oper)(U:List AV)(B:Heap):Option (List AV×Heap×List Nat) :=
 match A9a ops with
 | some p=>A1x P r (A8j ops p.1) p.2 U B
 | none=>B7h P r ops U B
def J7(P:Program)(r:Rec)(bp:Bps):Code->List AV->Heap->E1v
 | .skip,U,B=>some (.normal,U,B,[])
 | .label _,U,B=>some (.normal,U,B,[])
 | .exit id,U,B=>some (.exit id,U,B,[])
 | .ret,U,B=>some (.ret,U,B,[])
 | .region _ ops false,U,B=>(A4k P r ops ops.toList U B).map fun(U,B,D)=>(.normal,U,B,D)
 | .region _ ops true,U,B=>(B1m P r ops U B).map fun(U,B,D)=>(.normal,U,B,D)
 | .seq a b,U,B =>
  match J7 P r bp a U B with
  | some (.normal,U1,B1,D1)=>B3d D1 (J7 P r bp b U1 B1)
  | x=>x
 | .cond c a b,U0,B =>
  let U:=A9r U0 (C5z c)
  match M0 (gN P) U c with
  | .bool true=>J7 P r bp a U B
  | .bool false=>J7 P r bp b U B
  | _=>none
 | .block id c,U,B =>
  match bp id with
  | some g=>(g U B).get
  | none =>
   match J7 P r bp c U B with
   | some (.exit id',U1,B1,D1)=>some (if id'=id then .normal else .exit id',U1,B1,D1)
   | x=>x
 | .loop c,U,B =>
  match J7 P r bp c U B with
  | some (.normal,U1,B1,D1)=>A4c U1 fun U1=>C0k B1 fun B1=>B3d D1 (r.exec bp (.loop c) U1 B1)
  | x=>x
 | .scope c,U,B=>J7 P r bp c U B
 | .rangeFunc f ps as body,U,B =>
  match B7r r (M0 (gN P) U f) U ps as body B with
  | some (_,B1,D1) =>
   match B1[B.length]? with
   | some (.loop lo) =>
    if lo.state=.busy then none else
    match lo.pending with
    | none=>some (.normal,U,B1.set B.length (.loop { lo with state:=.exhausted }),D1++[B.length])
    | some .ret=>some (.ret,U,B1.set B.length (.loop { lo with state:=.exhausted }),D1++[B.length])
    | some (.exit id)=>some (.exit id,U,B1.set B.length (.loop { lo with state:=.exhausted }),D1++[B.length])
    | _=>none
   | _=>none
  | none=>none
 | _,_,_=>none
structure Prims where
 fn:FuncId->Option (List AV->Heap->Tr (AV×Heap×List Nat))
 ext:FuncId->Option (List AV->Option AV)
 blk:FuncId->Bps
def A7s(P:Program)(prims:Prims)(r:Rec)(f:FuncId)(args:List AV)(B:Heap):A2y :=
 match prims.fn f with
 | some g=>(g args B).get
 | none =>
  match P.funcs[f]? with
  | none=>none
  | some fn =>
   match fn.body with
   | none=>none
   | some c =>
    A4c args fun args=>C0k B fun B =>
    match J7 P r (prims.blk f) c (args++List.replicate (fn.ntmps-args.length) H7) B with
    | some (.exit _,_,_,_)=>none
    | some (_,U,B',D) =>
     match X5 P B' U fn.results.toList with
     | some l=>some (gc B (A1s l) B' D)
     | none=>none
    | none=>none
def run(P:Program)(prims:Prims):Nat->Rec
 | 0=>{ exec:=fun _ _ _ _=>none,call:=fun _ _ _=>none,ext:=prims.ext }
 | n+1=>{ exec:=fun bp=>J7 P (run P prims n) bp,call:=A7s P prims (run P prims n),ext:=prims.ext }
end Go.Ad
