/- The abstract evaluator of code: regions, branches, loops, calls, ranges over functions. -/
import Derived.Test.YtfjgehlpjppggaaGreatDoorAdCore
namespace Go.Ad
def M3 {β:Type} (n:Nat) (f:Nat->β):β:=Nat.rec (f 0) (fun k _=>f (Nat.succ k)) n
def B2r {β:Type} (n:Int) (f:Int->β):β :=
 match n with
 | .ofNat m=>M3 m fun m=>f (.ofNat m)
 | .negSucc m=>M3 m fun m=>f (.negSucc m)
def A6c {β:Type}:List UInt8->(List UInt8->β)->β
 | [],f=>f []
 | b :: r,f=>M3 b.toNat fun n=>A6c r fun r=>f (UInt8.ofNat n :: r)
def F3b {β:Type} (b:Bool) (f:Bool->β):β:=match b with | true=>f true | false=>f false
def B4h {β:Type} (a:Option (Nat × Nat)) (f:Option (Nat × Nat)->β):β :=
 match a with
 | none=>f none
 | some (b,o)=>M3 b fun b=>M3 o fun o=>f (some (b,o))
mutual
def O9 {β:Type}:AV->(AV->β)->β
 | .bad,f=>f .bad
 | .bool b,f=>F3b b fun b=>f (.bool b)
 | .int k n,f=>B2r n fun n=>f (.int k n)
 | .rng k n lo hi,f=>B2r lo fun lo=>B2r hi fun hi=>f (.rng k n lo hi)
 | .str s,f=>A6c s fun s=>f (.str s)
 | .sint k n,f=>f (.sint k n)
 | .sbool b,f=>f (.sbool b)
 | .sstr s,f=>f (.sstr s)
 | .lstr s lo hi,f=>M3 lo fun lo=>M3 hi fun hi=>f (.lstr s lo hi)
 | .ptr a,f=>B4h a fun a=>f (.ptr a)
 | .slice a n c,f=>B4h a fun a=>M3 n fun n=>M3 c fun c=>f (.slice a n c)
 | .sslice b s n,f=>M3 b fun b=>f (.sslice b s n)
 | .aslc b s n,f=>M3 b fun b=>f (.aslc b s n)
 | .sptr b i j,f=>M3 b fun b=>M3 j fun j=>f (.sptr b i j)
 | .dptr b n,f=>M3 b fun b=>f (.dptr b n)
 | .flist n row es,f=>f (.flist n row es)
 | .fptr cs j,f=>M3 j fun j=>f (.fptr cs j)
 | .map none,f=>f (.map none)
 | .map (some r),f=>M3 r fun r=>f (.map (some r))
 | .func fn xs ys,f=>A3x xs fun xs=>A3x ys fun ys=>f (.func fn xs ys)
 | .nilFunc,f=>f .nilFunc
 | .iface t v,f=>O9 v fun v=>f (.iface t v)
 | .nilIface,f=>f .nilIface
 | .agg xs,f=>A3x xs fun xs=>f (.agg xs)
 | .tuple xs,f=>A3x xs fun xs=>f (.tuple xs)
def A3x {β:Type}:List AV->(List AV->β)->β
 | [],f=>f []
 | x :: xs,f=>O9 x fun x=>A3x xs fun xs=>f (x :: xs)
end
def C6u {β:Type} (o:AObj) (f:AObj->β):β :=
 match o with
 | .cells c es rw ty=>A3x c fun c=>M3 es fun es=>F3b rw fun rw=>f (.cells c es rw ty)
 | .vec n row es ty=>M3 es fun es=>f (.vec n row es ty)
 | .tail n row es tl ty=>M3 es fun es=>A3x tl fun tl=>f (.tail n row es tl ty)
 | .text s ty=>f (.text s ty)
 | .arr pre k m g ty=>A3x pre fun pre=>f (.arr pre k m g ty)
 | .iter s p=>A6c s fun s=>M3 p fun p=>f (.iter s p)
 | .loop l=>A3x l.tmps fun t=>f (.loop { l with tmps:=t })
 | .maps es=>f (.maps es)
 | .miter=>f .miter
 | .dead=>f .dead
def C1t {β:Type}:Heap->(Heap->β)->β
 | [],f=>f []
 | o :: r,f=>C6u o fun o=>C1t r fun r=>f (o :: r)
theorem O5 {β:Type} (n:Nat) (f:Nat->β):M3 n f=f n:=by cases n <;> rfl
theorem C0u {β:Type} (n:Int) (f:Int->β):B2r n f=f n:=by cases n <;> simp [B2r,O5]
theorem A6v {β:Type}:∀ (l:List UInt8) (f:List UInt8->β),A6c l f=f l
 | [],_=>rfl
 | b :: r,f=>by simp [A6c,O5,A6v r]
theorem D1g {β:Type} (b:Bool) (f:Bool->β):F3b b f=f b:=by cases b <;> rfl
theorem B6m {β:Type} (a:Option (Nat × Nat)) (f:Option (Nat × Nat)->β):B4h a f=f a:=by
 cases a <;> simp [B4h,O5]
mutual
theorem Q5 {β:Type}:∀ (a:AV) (f:AV->β),O9 a f=f a
 | .bad,_=>rfl
 | .bool b,f=>by simp [O9,D1g]
 | .int k n,f=>by simp [O9,C0u]
 | .rng k n lo hi,f=>by simp [O9,C0u]
 | .str s,f=>by simp [O9,A6v]
 | .sint _ _,_=>rfl
 | .sbool _,_=>rfl
 | .sstr _,_=>rfl
 | .lstr ..,_=>by simp [O9,O5]
 | .ptr a,f=>by simp [O9,B6m]
 | .slice a n c,f=>by simp [O9,B6m,O5]
 | .sslice ..,f=>by simp [O9,O5]
 | .aslc ..,f=>by simp [O9,O5]
 | .sptr ..,f=>by simp [O9,O5]
 | .dptr ..,f=>by simp [O9,O5]
 | .flist ..,_=>rfl
 | .fptr ..,f=>by simp [O9,O5]
 | .map none,f=>rfl
 | .map (some r),f=>by simp [O9,O5]
 | .func fn xs ys,f=>by simp [O9,R5 xs,R5 ys]
 | .nilFunc,_=>rfl
 | .iface t v,f=>by simp [O9,Q5 v]
 | .nilIface,_=>rfl
 | .agg xs,f=>by simp [O9,R5 xs]
 | .tuple xs,f=>by simp [O9,R5 xs]
theorem R5 {β:Type}:∀ (l:List AV) (f:List AV->β),A3x l f=f l
 | [],_=>rfl
 | x :: xs,f=>by simp [A3x,Q5 x,R5 xs]
end
theorem D4i {β:Type} (o:AObj) (f:AObj->β):C6u o f=f o:=by
 cases o <;> simp [C6u,R5,O5,D1g,A6v]
theorem A0z {β:Type}:∀ (l:Heap) (f:Heap->β),C1t l f=f l
 | [],_=>rfl
 | o :: r,f=>by simp [C1t,D4i,A0z r]
inductive AEx where
 | normal
 | exit (id:Nat)
 | ret
abbrev E4j:=Option (AEx × List AV × Heap × List Nat)
inductive Tr (α:Type) where
 | leaf (a:α)
 | br (b:Bool) (t f:Tr α)
 | fail
def Tr.get {α:Type}:Tr α->Option α
 | .leaf a=>some a
 | .br b t f=>match b with
  | true=>t.get
  | false=>f.get
 | .fail=>none
def Tr.of {α:Type}:Option α->Tr α
 | some a=>.leaf a
 | none=>.fail
theorem Tr.get_of {α:Type} (o:Option α):(Tr.of o).get=o:=by cases o <;> rfl
abbrev Blk:=List AV->Heap->Tr (AEx × List AV × Heap × List Nat)
abbrev Bps:=Nat->Option Blk
def F7:Bps:=fun _=>none
structure Rec where
 exec:Bps->Code->List AV->Heap->E4j
 call:FuncId->List AV->Heap->A4l
 /-- Functions that have no body: the machine knows them. -/
 ext:FuncId->Option (List AV->Option AV)
mutual
def below (n:Nat):AV->Bool
 | .ptr (some (b,_))=>b < n
 | .slice (some (b,_)) _ _=>b < n
 | .sslice b _ _=>b < n
 | .aslc b _ _=>b < n
 | .sptr b _ _=>b < n
 | .dptr b _=>b < n
 | .flist .. | .fptr ..=>decide (0 < n)
 | .map (some b)=>b < n
 | .func (.yield l) xs ys=>l < n && J8 n xs && J8 n ys
 | .func _ xs ys=>J8 n xs && J8 n ys
 | .iface _ v=>below n v
 | .agg xs=>J8 n xs
 | .tuple xs=>J8 n xs
 | _=>true
def J8 (n:Nat):List AV->Bool
 | []=>true
 | x :: xs=>below n x && J8 n xs
end
mutual
def F9 (n:Nat):AV->Bool
 | .ptr (some (b,_))=>b < n
 | .slice (some (b,_)) _ _=>b < n
 | .sslice b _ k=>decide (k=0) || decide (b < n)
 | .aslc b _ _=>b < n
 | .sptr b _ _=>b < n
 | .dptr b k=>decide (k=0) || decide (b < n)
 | .map (some b)=>b < n
 | .func (.yield l) xs ys=>l < n && K3 n xs && K3 n ys
 | .func _ xs ys=>K3 n xs && K3 n ys
 | .iface _ v=>F9 n v
 | .agg xs=>K3 n xs
 | .tuple xs=>K3 n xs
 | _=>true
def K3 (n:Nat):List AV->Bool
 | []=>true
 | x :: xs=>F9 n x && K3 n xs
end
def A3w (n:Nat):Option AObj->Bool
 | some (.cells c _ _ _)=>J8 n c
 | some (.iter _ _)=>true
 | some (.vec ..)=>true
 | some (.text ..)=>true
 | some (.arr ..)=>true
 | some .miter=>true
 | some .dead=>true
 | _=>false
def B7p (n:Nat):AV->Option Nat
 | .slice (some (b,_)) _ _=>if n<=b then some b else none
 | .ptr (some (b,_))=>if n<=b then some b else none
 | _=>none
def B3n (n:Nat):List AV->Option Nat
 | []=>none
 | x :: xs=>match B7p n x with
  | some b=>some b
  | none=>B3n n xs
def E8e (n:Nat):AV->Option Nat
 | .tuple xs=>B3n n xs
 | v=>B7p n v
def B9m (b n:Nat):AV->AV
 | .slice (some (b',o)) l c=>if b'=b then .slice (some (n,o)) l c else .slice (some (b',o)) l c
 | .ptr (some (b',o))=>if b'=b then .ptr (some (n,o)) else .ptr (some (b',o))
 | v=>v
def B2f (b n:Nat):AV->Bool
 | .slice (some (b',_)) _ _=>b' < n || b' == b
 | .ptr (some (b',_))=>b' < n || b' == b
 | v=>below n v
def F9i (b n:Nat):AV->Bool
 | .tuple xs=>xs.all (B2f b n)
 | v=>B2f b n v
def F9f (b n:Nat):AV->AV
 | .tuple xs=>.tuple (xs.map (B9m b n))
 | v=>B9m b n v
def gc (B:Heap) (v:AV) (B':Heap) (D:List Nat):AV × Heap × List Nat :=
 let n:=B.length
 let D':=D.filter (· < n)
 if below n v && D'.all (fun b=>A3w n B'[b]?) then
  (v,if D'.isEmpty then B else B'.take n,D')
 else if D'.isEmpty then
  match E8e n v with
  | some b =>
   match B'[b]? with
   | some (.cells c es rw ty) =>
    if F9i b n v && J8 n c then (F9f b n v,B++[.cells c es rw ty],[]) else (v,B',D')
   | _=>(v,B',D')
  | none=>(v,B',D')
 else (v,B',D')
def X6 (P:Program) (B:Heap) (ρ:List AV):List ResultVar->Option (List AV)
 | []=>some []
 | .tmp t :: r=>(X6 P B ρ r).map (ρ.getD t G6 :: ·)
 | .cell a t :: r =>
  match A2i P B t (ρ.getD a G6),X6 P B ρ r with
  | some v,some l=>some (v :: l)
  | _,_=>none
def A9r:List AV->AV
 | [v]=>v
 | l=>.tuple l
def A1m (ops:Array Oper) (ρ:List AV) (o:Oper):Option Bool :=
 match o.guard with
 | none=>some true
 | some (j,want) =>
  match (ops[j]?).bind (·.dst) with
  | none=>some false
  | some d =>
   match ρ[d]? with
   | some (.bool b)=>some (b == want)
   | some .bad=>none
   | some (.sbool b)=>some (b == want)
   | _=>some false
def A3f (ρ:List AV) (d:Option Tmp) (v:AV):List AV :=
 match d with
 | some d=>ρ.set d v
 | none=>ρ
def A6x (r:Rec) (l:Nat) (args:List AV) (B:Heap):A4l :=
 match B[l]? with
 | some (.loop lo) =>
  if args.length=lo.params.size then
   match r.exec F7 lo.assign ((lo.params.toList.zip args).foldl (fun t (p,a)=>t.set p a) lo.tmps) B with
   | some (.normal,ρ1,B1,D1) =>
    match B1[l]? with
    | some (.loop lo1) =>
     if lo1.state=.ready then
      match r.exec F7 lo.body ρ1 (B1.set l (.loop { lo1 with state:=.busy })) with
      | some (e,_,B2,D2) =>
       match B2[l]? with
       | some (.loop lo2) =>
        match e with
        | .normal=>some (.bool true,B2.set l (.loop { lo2 with state:=.ready,pending:=none }),D1++[l]++D2++[l])
        | .ret=>some (.bool false,B2.set l (.loop { lo2 with state:=.done,pending:=some .ret }),D1++[l]++D2++[l])
        | .exit id=>some (.bool false,B2.set l (.loop { lo2 with state:=.done,pending:=some (.exit id) }),D1++[l]++D2++[l])
       | _=>none
      | none=>none
     else none
    | _=>none
   | _=>none
  else none
 | _=>none
def B9a (r:Rec) (f:AV) (args:List AV) (B:Heap):A4l :=
 match f with
 | .func (.func g) first captured=>r.call g (first++args++captured) B
 | .func (.yield l) first _=>A6x r l (first++args) B
 | _=>none
def F1c (ext:FuncId->Option (List AV->Option AV)):AV->Option (List AV->Option AV)
 | .func (.func g) [] []=>ext g
 | _=>none
def P7 (P:Program) (r:Rec) (ρ:Operand->AV) (B:Heap) (op:Op):A4l :=
 match op with
 | .call { callee:=.value f,args,.. } =>
  match F1c r.ext (ρ f) with
  | some h=>only B (h (args.toList.map ρ))
  | none=>B9a r (ρ f) (args.toList.map ρ) B
 | op=>aop P ρ B op
def U0 (P:Program) (r:Rec) (ops:Array Oper):List Oper->List AV->Heap->Option (List AV × Heap × List Nat)
 | [],ρ,B=>some (ρ,B,[])
 | o :: rest,ρ,B =>
  match A1m ops ρ o with
  | some true =>
   match P7 P r (P9 P.globals.size ρ) B o.op with
   | some (v,B1,D1) =>
    O9 v fun v =>
    match U0 P r ops rest (A3f ρ o.dst v) B1 with
    | some (ρ2,B2,D2)=>some (ρ2,B2,D1++D2)
    | none=>none
   | none=>none
  | some false=>U0 P r ops rest (A3f ρ o.dst G6) B
  | none=>none
def norm (ρ:List AV) (d:Tmp):List AV :=
 match ρ[d]? with
 | some (.sbool b)=>ρ.set d (.bool b)
 | _=>ρ
def B3h (ops:Array Oper) (o:Oper):Option Tmp :=
 match o.guard with
 | none=>none
 | some (j,_)=>(ops[j]?).bind (·.dst)
def B7l (o:Oper):Option Tmp :=
 match o.op with
 | .pick (.tmp d) _ _=>some d
 | _=>none
def B1e (ρ:List AV) (d:Option Tmp):List AV :=
 match d with
 | some d=>norm ρ d
 | none=>ρ
def A4w (P:Program) (r:Rec) (ops:Array Oper):List Oper->List AV->Heap->Option (List AV × Heap × List Nat)
 | [],ρ,B=>some (ρ,B,[])
 | o :: rest,ρ0,B =>
  let ρ:=B1e (B1e ρ0 (B3h ops o)) (B7l o)
  match A1m ops ρ o with
  | some true =>
   match P7 P r (P9 P.globals.size ρ) B o.op with
   | some (v,B1,D1) =>
    O9 v fun v =>
    match A4w P r ops rest (A3f ρ o.dst v) B1 with
    | some (ρ2,B2,D2)=>some (ρ2,B2,D1++D2)
    | none=>none
   | none=>none
  | some false=>A4w P r ops rest (A3f ρ o.dst G6) B
  | none=>none
def C7d:Operand->Option Tmp
 | .tmp d=>some d
 | _=>none
def looks (ops:Array Oper) (o:Oper):List Tmp :=
 (o.op.operands.toList.filterMap fun | .tmp t=>some t | _=>none) ++
 (match o.guard with
  | some (j,_)=>((ops[j]?).bind (·.dst)).toList
  | none=>[])
def H8:List Oper->List (List Nat)->List (List Nat)
 | [],acc=>acc
 | o :: rest,acc =>
  H8 rest (acc++[((o.after.toList.filter (Region.binds .any)).flatMap fun e=>e.on :: acc.getD e.on []).eraseDups])
def B6c (ops:Array Oper) (m:Nat):Bool :=
 let l:=ops.toList
 let bs:=H8 l []
 let ix:=List.range l.length
 ix.all (fun i=>match l[i]? with
  | none=>false
  | some o =>
   (o.after.toList.all fun e=>!Region.binds .any e || e.on < i) &&
   (i < m || (List.range i).all fun j=>(bs.getD i []).contains j) &&
   (i >= m || ix.all fun j=>match l[j]? with
    | none=>false
    | some q=>j >= m || i == j || ((match q.dst with
     | none=>true
     | some t=>(o.dst != some t) && (!(looks ops o).contains t || (j < i && (bs.getD i []).contains j) || (i < j && (bs.getD j []).contains i))))))
def A6z (P:Program) (r:Rec) (ops:Array Oper) (m:Nat) (ρ:List AV) (B:Heap):Option (List AV × Heap × List Nat) :=
 if B6c ops m then
  match U0 P r ops (ops.toList.take m) ρ B with
  | some (ρ1,B1,[])=>A4w P r ops (ops.toList.drop m) ρ1 B1
  | _=>none
 else none
def B7v:Op->Bool
 | .store .. | .assign .. | .mapUpdate .. | .insert ..=>true
 | .call { callee:=.builtin .copy,.. }=>true
 | .call { callee:=.builtin .clear,.. }=>true
 | .call { callee:=.builtin .unsafeString,.. }=>true
 | _=>false
def C1d (ops:Array Oper):Nat:=(ops.toList.takeWhile fun o=>!B7v o.op).length
def E7i:Op->Bool
 | .assign ..=>true
 | _=>false
def F9a:Op->Bool
 | .call { callee:=.value (.tmp _),.. }=>true
 | _=>false
def E9p (ops:Array Oper):Nat:=(ops.toList.takeWhile fun o=>!B7v o.op && !F9a o.op).length
def F4e:Op->Bool
 | .call { callee:=.value (.func _),.. }=>true
 | _=>false
def F9l (ops:Array Oper) (bs:List (List Nat)) (m0:Nat):Nat->Nat
 | 0=>m0
 | m+1=>match ops[m]? with
  | some o=>if o.guard.isNone && (List.range m).all fun j=>(bs.getD m []).contains j then (if F4e o.op then m else F9l ops bs m0 m) else m0
  | none=>m0
def C9i (ops:Array Oper):Nat :=
 if ops.toList.any (fun o=>F9a o.op) && B6c ops (E9p ops) then E9p ops
 else
  let m:=(ops.toList.takeWhile fun o=>!B7v o.op || E7i o.op).length
  if B6c ops m then m else C1d ops
def B7o (ops:Array Oper):Nat:=F9l ops (H8 ops.toList []) (C9i ops) (C9i ops)
def B9g (r:Rec) (f:AV) (ρ:List AV) (ps:Array Tmp) (as body:Code) (B:Heap):A4l :=
 match f with
 | .func (.func g) first captured =>
  r.call g (first++[AV.func (.yield B.length) [] []]++captured) (B++[AObj.loop { state:=.ready,pending:=none,tmps:=ρ,params:=ps,assign:=as,body }])
 | _=>none
def B4p (D:List Nat):E4j->E4j
 | some (e,ρ,B,D')=>some (e,ρ,B,D++D')
 | none=>none
def C0y (ops:Array Oper) (m:Nat):Bool :=
 let l:=ops.toList
 let bs:=H8 l []
 let ix:=List.range l.length
 ix.all (fun i=>match l[i]? with
  | none=>false
  | some o =>
   (o.after.toList.all fun e=>!Region.binds .any e || e.on < i) &&
   (i < m || (List.range' m (i - m)).all fun j=>(bs.getD i []).contains j) &&
   ix.all fun j=>match l[j]? with
    | none=>false
    | some q=>match q.dst with
     | none=>true
     | some t=>(i == j || ((o.dst != some t) && (!(looks ops o).contains t || (j < i && (bs.getD i []).contains j) || (i < j && (bs.getD j []).contains i)))) &&
      (m<=i || (bs.getD m []).contains i || !(looks ops o).contains t || j < i))
def F9e (ops:Array Oper) (m:Nat):List Nat :=
 let bs:=H8 ops.toList []
 (List.range m).filter fun p=>!(bs.getD m []).contains p
def A9o:Op->Bool
 | .move _ | .extract .. | .fieldAddr .. | .field .. | .nilCheck _ | .index .. | .binOp .. | .unOp .. | .build .. | .makeInterface ..=>true
 | _=>false
def C0g (G:Nat) (ρ:List AV) (D:List Nat):Op->Bool
 | .load _ a=>match P9 G ρ a with
  | .ptr (some (b,_))=>!D.contains b
  | _=>false
 | .indexAddr _ x _=>match P9 G ρ x with
  | .slice ..=>true
  | _=>false
 | .call { callee:=.builtin .len,args,argTypes:=_ }=>match args.toList.map (P9 G ρ) with
  | [.slice ..]=>true
  | [.str _]=>true
  | [.sslice ..]=>true
  | _=>false
 | op=>A9o op
def C7z (ops:Array Oper) (G:Nat) (ρ:List AV) (D:List Nat) (m:Nat):Bool :=
 (F9e ops m).all fun p=>match ops[p]? with
  | some o=>C0g G ρ D o.op
  | none=>true
def A2d (P:Program) (r:Rec) (ops:Array Oper) (m:Nat) (ρ:List AV) (B:Heap):Option (List AV × Heap × List Nat) :=
 if C0y ops m then
  match U0 P r ops (ops.toList.take m) ρ B with
  | some (ρ1,B1,[]) =>
   match U0 P r ops (ops.toList.drop m) ρ1 B1 with
   | some (ρ2,B2,D2)=>if decide (m<=ops.size) && C7z ops P.globals.size ρ1 D2 m then some (ρ2,B2,D2) else none
   | none=>none
  | _=>none
 else none
def isApp:Op->Bool
 | .call { callee:=.builtin .append,.. }=>true
 | _=>false
def D4o (ord:List Nat) (o:Oper):Oper:={ o with after:=o.after.map fun e=>{ e with on:=ord.idxOf e.on },guard:=o.guard.map fun g=>(ord.idxOf g.1,g.2) }
def A9k (ops:Array Oper) (ord:List Nat):Array Oper:=(ord.map fun i=>D4o ord (ops[i]?.getD default)).toArray
def F4d:List Nat->Bool
 | []=>true
 | k :: ks=>!ks.contains k && F4d ks
def D6e (ops:Array Oper) (ord:List Nat):Bool :=
 decide (ord.length=ops.size) && (F4d ord && (ord.all (fun i=>decide (i < ops.size)) && ops.toList.all fun o=>o.after.toList.all (fun e=>decide (e.on < ops.size)) && (match o.guard with | some (j,_)=>decide (j < ops.size) | none=>true)))
def D6n:List Oper->Nat->List Nat->List Nat->List Nat × List Nat
 | [],_,done,rest=>(done,rest)
 | o :: r,i,done,rest =>
  if A9o o.op && o.guard.isNone && (o.after.toList.all fun e=>!Region.binds .any e || done.contains e.on) then D6n r (i+1) (done++[i]) rest else D6n r (i+1) done (rest++[i])
def B0d (ops:Array Oper):Option (List Nat × Nat) :=
 if ops.toList.any (fun o=>isApp o.op) then
  let m:=(ops.toList.takeWhile fun o=>!B7v o.op && !isApp o.op).length
  let p:=D6n (ops.toList.drop m) m (List.range m) []
  if D6e ops (p.1++p.2) && C0y (A9k ops (p.1++p.2)) p.1.length then some (p.1++p.2,p.1.length) else none
 else none
def C1q (P:Program) (r:Rec) (ops:Array Oper) (ρ:List AV) (B:Heap):Option (List AV × Heap × List Nat) :=
 if B6c ops (B7o ops) then A6z P r ops (B7o ops) ρ B else A2d P r ops (C1d ops) ρ B
def B3e (P:Program) (r:Rec) (ops:Array Oper) (ρ:List AV) (B:Heap):Option (List AV × Heap × List Nat) :=
 match B0d ops with
 | some p=>A2d P r (A9k ops p.1) p.2 ρ B
 | none=>C1q P r ops ρ B
def I5 (P:Program) (r:Rec) (bp:Bps):Code->List AV->Heap->E4j
 | .skip,ρ,B=>some (.normal,ρ,B,[])
 | .label _,ρ,B=>some (.normal,ρ,B,[])
 | .exit id,ρ,B=>some (.exit id,ρ,B,[])
 | .ret,ρ,B=>some (.ret,ρ,B,[])
 | .region _ ops false,ρ,B=>(A4w P r ops ops.toList ρ B).map fun (ρ,B,D)=>(.normal,ρ,B,D)
 | .region _ ops true,ρ,B=>(B3e P r ops ρ B).map fun (ρ,B,D)=>(.normal,ρ,B,D)
 | .seq a b,ρ,B =>
  match I5 P r bp a ρ B with
  | some (.normal,ρ1,B1,D1)=>B4p D1 (I5 P r bp b ρ1 B1)
  | x=>x
 | .cond c a b,ρ0,B =>
  let ρ:=B1e ρ0 (C7d c)
  match P9 P.globals.size ρ c with
  | .bool true=>I5 P r bp a ρ B
  | .bool false=>I5 P r bp b ρ B
  | _=>none
 | .block id c,ρ,B =>
  match bp id with
  | some g=>(g ρ B).get
  | none =>
   match I5 P r bp c ρ B with
   | some (.exit id',ρ1,B1,D1)=>some (if id'=id then .normal else .exit id',ρ1,B1,D1)
   | x=>x
 | .loop c,ρ,B =>
  match I5 P r bp c ρ B with
  | some (.normal,ρ1,B1,D1)=>A3x ρ1 fun ρ1=>C1t B1 fun B1=>B4p D1 (r.exec bp (.loop c) ρ1 B1)
  | x=>x
 | .scope c,ρ,B=>I5 P r bp c ρ B
 | .rangeFunc f ps as body,ρ,B =>
  match B9g r (P9 P.globals.size ρ f) ρ ps as body B with
  | some (_,B1,D1) =>
   match B1[B.length]? with
   | some (.loop lo) =>
    if lo.state=.busy then none else
    match lo.pending with
    | none=>some (.normal,ρ,B1.set B.length (.loop { lo with state:=.exhausted }),D1++[B.length])
    | some .ret=>some (.ret,ρ,B1.set B.length (.loop { lo with state:=.exhausted }),D1++[B.length])
    | some (.exit id)=>some (.exit id,ρ,B1.set B.length (.loop { lo with state:=.exhausted }),D1++[B.length])
    | _=>none
   | _=>none
  | none=>none
 | _,_,_=>none
structure Prims where
 fn:FuncId->Option (List AV->Heap->Tr (AV × Heap × List Nat))
 ext:FuncId->Option (List AV->Option AV)
 blk:FuncId->Bps
def A8g (P:Program) (prims:Prims) (r:Rec) (f:FuncId) (args:List AV) (B:Heap):A4l :=
 match prims.fn f with
 | some g=>(g args B).get
 | none =>
  match P.funcs[f]? with
  | none=>none
  | some fn =>
   match fn.body with
   | none=>none
   | some c =>
    A3x args fun args=>C1t B fun B =>
    match I5 P r (prims.blk f) c (args++List.replicate (fn.ntmps - args.length) G6) B with
    | some (.exit _,_,_,_)=>none
    | some (_,ρ,B',D) =>
     match X6 P B' ρ fn.results.toList with
     | some l=>some (gc B (A9r l) B' D)
     | none=>none
    | none=>none
def run (P:Program) (prims:Prims):Nat->Rec
 | 0=>{ exec:=fun _ _ _ _=>none,call:=fun _ _ _=>none,ext:=prims.ext }
 | n+1=>{ exec:=fun bp=>I5 P (run P prims n) bp,call:=A8g P prims (run P prims n),ext:=prims.ext }
end Go.Ad
