/- The abstract evaluator of code: regions, branches, loops, calls, ranges over functions. -/
import Derived.Test.YtoboneiigikidaaGreatDoorAdCore
namespace Go.Ad
def O9 {β:Type} (n:Nat) (f:Nat->β):β:=Nat.rec (f 0) (fun k _=>f (Nat.succ k)) n
def B2o {β:Type} (n:Int) (f:Int->β):β :=
 match n with
 | .ofNat m=>O9 m fun m=>f (.ofNat m)
 | .negSucc m=>O9 m fun m=>f (.negSucc m)
def A5o {β:Type}:List UInt8->(List UInt8->β)->β
 | [],f=>f []
 | b :: r,f=>O9 b.toNat fun n=>A5o r fun r=>f (UInt8.ofNat n :: r)
def F0f {β:Type} (b:Bool) (f:Bool->β):β:=match b with | true=>f true | false=>f false
def B2n {β:Type} (a:Option (Nat × Nat)) (f:Option (Nat × Nat)->β):β :=
 match a with
 | none=>f none
 | some (b,o)=>O9 b fun b=>O9 o fun o=>f (some (b,o))
mutual
def Q5 {β:Type}:AV->(AV->β)->β
 | .bad,f=>f .bad
 | .bool b,f=>F0f b fun b=>f (.bool b)
 | .int k n,f=>B2o n fun n=>f (.int k n)
 | .rng k n lo hi,f=>B2o lo fun lo=>B2o hi fun hi=>f (.rng k n lo hi)
 | .str s,f=>A5o s fun s=>f (.str s)
 | .sint k n,f=>f (.sint k n)
 | .sbool b,f=>f (.sbool b)
 | .sstr s,f=>f (.sstr s)
 | .lstr s lo hi,f=>O9 lo fun lo=>O9 hi fun hi=>f (.lstr s lo hi)
 | .ptr a,f=>B2n a fun a=>f (.ptr a)
 | .slice a n c,f=>B2n a fun a=>O9 n fun n=>O9 c fun c=>f (.slice a n c)
 | .sslice b s n,f=>O9 b fun b=>f (.sslice b s n)
 | .aslc b s n,f=>O9 b fun b=>f (.aslc b s n)
 | .sptr b i j,f=>O9 b fun b=>O9 j fun j=>f (.sptr b i j)
 | .dptr b n,f=>O9 b fun b=>f (.dptr b n)
 | .flist n row es,f=>f (.flist n row es)
 | .fptr cs j,f=>O9 j fun j=>f (.fptr cs j)
 | .map none,f=>f (.map none)
 | .map (some r),f=>O9 r fun r=>f (.map (some r))
 | .func fn xs ys,f=>A4a xs fun xs=>A4a ys fun ys=>f (.func fn xs ys)
 | .nilFunc,f=>f .nilFunc
 | .iface t v,f=>Q5 v fun v=>f (.iface t v)
 | .nilIface,f=>f .nilIface
 | .agg xs,f=>A4a xs fun xs=>f (.agg xs)
 | .tuple xs,f=>A4a xs fun xs=>f (.tuple xs)
def A4a {β:Type}:List AV->(List AV->β)->β
 | [],f=>f []
 | x :: xs,f=>Q5 x fun x=>A4a xs fun xs=>f (x :: xs)
end
def C7u {β:Type} (o:AObj) (f:AObj->β):β :=
 match o with
 | .cells c es rw ty=>A4a c fun c=>O9 es fun es=>F0f rw fun rw=>f (.cells c es rw ty)
 | .vec n row es ty=>O9 es fun es=>f (.vec n row es ty)
 | .tail n row es tl ty=>O9 es fun es=>A4a tl fun tl=>f (.tail n row es tl ty)
 | .text s ty=>f (.text s ty)
 | .arr pre k m g ty=>A4a pre fun pre=>f (.arr pre k m g ty)
 | .iter s p=>A5o s fun s=>O9 p fun p=>f (.iter s p)
 | .loop l=>A4a l.tmps fun t=>f (.loop { l with tmps:=t })
 | .maps es=>f (.maps es)
 | .smap l=>f (.smap l)
 | .miter=>f .miter
 | .dead=>f .dead
def B9z {β:Type}:Heap->(Heap->β)->β
 | [],f=>f []
 | o :: r,f=>C7u o fun o=>B9z r fun r=>f (o :: r)
theorem P8 {β:Type} (n:Nat) (f:Nat->β):O9 n f=f n:=by cases n <;> rfl
theorem C0a {β:Type} (n:Int) (f:Int->β):B2o n f=f n:=by cases n <;> simp [B2o,P8]
theorem A6q {β:Type}:∀ (l:List UInt8) (f:List UInt8->β),A5o l f=f l
 | [],_=>rfl
 | b :: r,f=>by simp [A5o,P8,A6q r]
theorem D2k {β:Type} (b:Bool) (f:Bool->β):F0f b f=f b:=by cases b <;> rfl
theorem B4l {β:Type} (a:Option (Nat × Nat)) (f:Option (Nat × Nat)->β):B2n a f=f a:=by
 cases a <;> simp [B2n,P8]
mutual
theorem O4 {β:Type}:∀ (a:AV) (f:AV->β),Q5 a f=f a
 | .bad,_=>rfl
 | .bool b,f=>by simp [Q5,D2k]
 | .int k n,f=>by simp [Q5,C0a]
 | .rng k n lo hi,f=>by simp [Q5,C0a]
 | .str s,f=>by simp [Q5,A6q]
 | .sint _ _,_=>rfl
 | .sbool _,_=>rfl
 | .sstr _,_=>rfl
 | .lstr ..,_=>by simp [Q5,P8]
 | .ptr a,f=>by simp [Q5,B4l]
 | .slice a n c,f=>by simp [Q5,B4l,P8]
 | .sslice ..,f=>by simp [Q5,P8]
 | .aslc ..,f=>by simp [Q5,P8]
 | .sptr ..,f=>by simp [Q5,P8]
 | .dptr ..,f=>by simp [Q5,P8]
 | .flist ..,_=>rfl
 | .fptr ..,f=>by simp [Q5,P8]
 | .map none,f=>rfl
 | .map (some r),f=>by simp [Q5,P8]
 | .func fn xs ys,f=>by simp [Q5,U3 xs,U3 ys]
 | .nilFunc,_=>rfl
 | .iface t v,f=>by simp [Q5,O4 v]
 | .nilIface,_=>rfl
 | .agg xs,f=>by simp [Q5,U3 xs]
 | .tuple xs,f=>by simp [Q5,U3 xs]
theorem U3 {β:Type}:∀ (l:List AV) (f:List AV->β),A4a l f=f l
 | [],_=>rfl
 | x :: xs,f=>by simp [A4a,O4 x,U3 xs]
end
theorem D6s {β:Type} (o:AObj) (f:AObj->β):C7u o f=f o:=by
 cases o <;> simp [C7u,U3,P8,D2k,A6q]
theorem A1h {β:Type}:∀ (l:Heap) (f:Heap->β),B9z l f=f l
 | [],_=>rfl
 | o :: r,f=>by simp [B9z,D6s,A1h r]
inductive AEx where
 | normal
 | exit (id:Nat)
 | ret
abbrev E0k:=Option (AEx × List AV × Heap × List Nat)
inductive Tr (α:Type) where
 | leaf (a:α)
 | br (b:Bool) (t f:Tr α)
 | fail
def Tr.get {α:Type}:Tr α->Option α
 | .leaf a=>some a
 | .br b t f=>match b with
  | true=>t.get
  | false=>f.get
 | .fail=>none
def Tr.of {α:Type}:Option α->Tr α
 | some a=>.leaf a
 | none=>.fail
theorem Tr.get_of {α:Type} (o:Option α):(Tr.of o).get=o:=by cases o <;> rfl
abbrev Blk:=List AV->Heap->Tr (AEx × List AV × Heap × List Nat)
abbrev Bps:=Nat->Option Blk
def A7z:Bps:=fun _=>none
structure Rec where
 exec:Bps->Code->List AV->Heap->E0k
 call:FuncId->List AV->Heap->A3b
 /-- Functions that have no body: the machine knows them. -/
 ext:FuncId->Option (List AV->Option AV)
mutual
def below (n:Nat):AV->Bool
 | .ptr (some (b,_))=>b < n
 | .slice (some (b,_)) _ _=>b < n
 | .sslice b _ _=>b < n
 | .aslc b _ _=>b < n
 | .sptr b _ _=>b < n
 | .dptr b _=>b < n
 | .flist .. | .fptr ..=>decide (0 < n)
 | .map (some b)=>b < n
 | .func (.yield l) xs ys=>l < n && Q3 n xs && Q3 n ys
 | .func _ xs ys=>Q3 n xs && Q3 n ys
 | .iface _ v=>below n v
 | .agg xs=>Q3 n xs
 | .tuple xs=>Q3 n xs
 | _=>true
def Q3 (n:Nat):List AV->Bool
 | []=>true
 | x :: xs=>below n x && Q3 n xs
end
mutual
def F5 (n:Nat):AV->Bool
 | .ptr (some (b,_))=>b < n
 | .slice (some (b,_)) _ _=>b < n
 | .sslice b _ k=>decide (k=0) || decide (b < n)
 | .aslc b _ _=>b < n
 | .sptr b _ _=>b < n
 | .dptr b k=>decide (k=0) || decide (b < n)
 | .map (some b)=>b < n
 | .func (.yield l) xs ys=>l < n && I6 n xs && I6 n ys
 | .func _ xs ys=>I6 n xs && I6 n ys
 | .iface _ v=>F5 n v
 | .agg xs=>I6 n xs
 | .tuple xs=>I6 n xs
 | _=>true
def I6 (n:Nat):List AV->Bool
 | []=>true
 | x :: xs=>F5 n x && I6 n xs
end
def A3s (n:Nat):Option AObj->Bool
 | some (.cells c _ _ _)=>Q3 n c
 | some (.iter _ _)=>true
 | some (.vec ..)=>true
 | some (.text ..)=>true
 | some (.arr ..)=>true
 | some .miter=>true
 | some .dead=>true
 | _=>false
def B5k (n:Nat):AV->Option Nat
 | .slice (some (b,_)) _ _=>if n<=b then some b else none
 | .ptr (some (b,_))=>if n<=b then some b else none
 | _=>none
def B1z (n:Nat):List AV->Option Nat
 | []=>none
 | x :: xs=>match B5k n x with
  | some b=>some b
  | none=>B1z n xs
def E6r (n:Nat):AV->Option Nat
 | .tuple xs=>B1z n xs
 | v=>B5k n v
def B9k (b n:Nat):AV->AV
 | .slice (some (b',o)) l c=>if b'=b then .slice (some (n,o)) l c else .slice (some (b',o)) l c
 | .ptr (some (b',o))=>if b'=b then .ptr (some (n,o)) else .ptr (some (b',o))
 | v=>v
def B0i (b n:Nat):AV->Bool
 | .slice (some (b',_)) _ _=>b' < n || b' == b
 | .ptr (some (b',_))=>b' < n || b' == b
 | v=>below n v
def F8m (b n:Nat):AV->Bool
 | .tuple xs=>xs.all (B0i b n)
 | v=>B0i b n v
def F8q (b n:Nat):AV->AV
 | .tuple xs=>.tuple (xs.map (B9k b n))
 | v=>B9k b n v
def gc (B:Heap) (v:AV) (B':Heap) (D:List Nat):AV × Heap × List Nat :=
 let n:=B.length
 let D':=D.filter (· < n)
 if below n v && D'.all (fun b=>A3s n B'[b]?) then
  (v,if D'.isEmpty then B else B'.take n,D')
 else if D'.isEmpty then
  match E6r n v with
  | some b =>
   match B'[b]? with
   | some (.cells c es rw ty) =>
    if F8m b n v && Q3 n c then (F8q b n v,B++[.cells c es rw ty],[]) else (v,B',D')
   | _=>(v,B',D')
  | none=>(v,B',D')
 else (v,B',D')
def X5 (P:Program) (B:Heap) (ρ:List AV):List ResultVar->Option (List AV)
 | []=>some []
 | .tmp t :: r=>(X5 P B ρ r).map (ρ.getD t G6 :: ·)
 | .cell a t :: r =>
  match A0r P B t (ρ.getD a G6),X5 P B ρ r with
  | some v,some l=>some (v :: l)
  | _,_=>none
def A1u:List AV->AV
 | [v]=>v
 | l=>.tuple l
def A0u (ops:Array Oper) (ρ:List AV) (o:Oper):Option Bool :=
 match o.guard with
 | none=>some true
 | some (j,want) =>
  match (ops[j]?).bind (·.dst) with
  | none=>some false
  | some d =>
   match ρ[d]? with
   | some (.bool b)=>some (b == want)
   | some .bad=>none
   | some (.sbool b)=>some (b == want)
   | _=>some false
def Q8 (ρ:List AV) (d:Option Tmp) (v:AV):List AV :=
 match d with
 | some d=>ρ.set d v
 | none=>ρ
def A5r (r:Rec) (l:Nat) (args:List AV) (B:Heap):A3b :=
 match B[l]? with
 | some (.loop lo) =>
  if args.length=lo.params.size then
   match r.exec A7z lo.assign ((lo.params.toList.zip args).foldl (fun t (p,a)=>t.set p a) lo.tmps) B with
   | some (.normal,ρ1,B1,D1) =>
    match B1[l]? with
    | some (.loop lo1) =>
     if lo1.state=.ready then
      match r.exec A7z lo.body ρ1 (B1.set l (.loop { lo1 with state:=.busy })) with
      | some (e,_,B2,D2) =>
       match B2[l]? with
       | some (.loop lo2) =>
        match e with
        | .normal=>some (.bool true,B2.set l (.loop { lo2 with state:=.ready,pending:=none }),D1++[l]++D2++[l])
        | .ret=>some (.bool false,B2.set l (.loop { lo2 with state:=.done,pending:=some .ret }),D1++[l]++D2++[l])
        | .exit id=>some (.bool false,B2.set l (.loop { lo2 with state:=.done,pending:=some (.exit id) }),D1++[l]++D2++[l])
       | _=>none
      | none=>none
     else none
    | _=>none
   | _=>none
  else none
 | _=>none
def B6r (r:Rec) (f:AV) (args:List AV) (B:Heap):A3b :=
 match f with
 | .func (.func g) first captured=>r.call g (first++args++captured) B
 | .func (.yield l) first _=>A5r r l (first++args) B
 | _=>none
def E3y (ext:FuncId->Option (List AV->Option AV)):AV->Option (List AV->Option AV)
 | .func (.func g) [] []=>ext g
 | _=>none
def M5 (P:Program) (r:Rec) (ρ:Operand->AV) (B:Heap) (op:Op):A3b :=
 match op with
 | .call { callee:=.value f,args,.. } =>
  match E3y r.ext (ρ f) with
  | some h=>only B (h (args.toList.map ρ))
  | none=>B6r r (ρ f) (args.toList.map ρ) B
 | op=>aop P ρ B op
def M6 (P:Program) (r:Rec) (ops:Array Oper):List Oper->List AV->Heap->Option (List AV × Heap × List Nat)
 | [],ρ,B=>some (ρ,B,[])
 | o :: rest,ρ,B =>
  match A0u ops ρ o with
  | some true =>
   match M5 P r (L6 (gN P) ρ) B o.op with
   | some (v,B1,D1) =>
    Q5 v fun v =>
    match M6 P r ops rest (Q8 ρ o.dst v) B1 with
    | some (ρ2,B2,D2)=>some (ρ2,B2,D1++D2)
    | none=>none
   | none=>none
  | some false=>M6 P r ops rest (Q8 ρ o.dst G6) B
  | none=>none
def norm (ρ:List AV) (d:Tmp):List AV :=
 match ρ[d]? with
 | some (.sbool b)=>ρ.set d (.bool b)
 | _=>ρ
def B1w (ops:Array Oper) (o:Oper):Option Tmp :=
 match o.guard with
 | none=>none
 | some (j,_)=>(ops[j]?).bind (·.dst)
def B5m (o:Oper):Option Tmp :=
 match o.op with
 | .pick (.tmp d) _ _=>some d
 | _=>none
def A9m (ρ:List AV) (d:Option Tmp):List AV :=
 match d with
 | some d=>norm ρ d
 | none=>ρ
def A4h (P:Program) (r:Rec) (ops:Array Oper):List Oper->List AV->Heap->Option (List AV × Heap × List Nat)
 | [],ρ,B=>some (ρ,B,[])
 | o :: rest,ρ0,B =>
  let ρ:=A9m (A9m ρ0 (B1w ops o)) (B5m o)
  match A0u ops ρ o with
  | some true =>
   match M5 P r (L6 (gN P) ρ) B o.op with
   | some (v,B1,D1) =>
    Q5 v fun v =>
    match A4h P r ops rest (Q8 ρ o.dst v) B1 with
    | some (ρ2,B2,D2)=>some (ρ2,B2,D1++D2)
    | none=>none
   | none=>none
  | some false=>A4h P r ops rest (Q8 ρ o.dst G6) B
  | none=>none
def C5b:Operand->Option Tmp
 | .tmp d=>some d
 | _=>none
def looks (ops:Array Oper) (o:Oper):List Tmp :=
 (o.op.operands.toList.filterMap fun | .tmp t=>some t | _=>none) ++
 (match o.guard with
  | some (j,_)=>((ops[j]?).bind (·.dst)).toList
  | none=>[])
def H8:List Oper->List (List Nat)->List (List Nat)
 | [],acc=>acc
 | o :: rest,acc =>
  H8 rest (acc++[((o.after.toList.filter (Region.binds .any)).flatMap fun e=>e.on :: acc.getD e.on []).eraseDups])
def B4g (ops:Array Oper) (m:Nat):Bool :=
 let l:=ops.toList
 let bs:=H8 l []
 let ix:=List.range l.length
 ix.all (fun i=>match l[i]? with
  | none=>false
  | some o =>
   (o.after.toList.all fun e=>!Region.binds .any e || e.on < i) &&
   (i < m || (List.range i).all fun j=>(bs.getD i []).contains j) &&
   (i >= m || ix.all fun j=>match l[j]? with
    | none=>false
    | some q=>j >= m || i == j || ((match q.dst with
     | none=>true
     | some t=>(o.dst != some t) && (!(looks ops o).contains t || (j < i && (bs.getD i []).contains j) || (i < j && (bs.getD j []).contains i))))))
def A5q (P:Program) (r:Rec) (ops:Array Oper) (m:Nat) (ρ:List AV) (B:Heap):Option (List AV × Heap × List Nat) :=
 if B4g ops m then
  match M6 P r ops (ops.toList.take m) ρ B with
  | some (ρ1,B1,[])=>A4h P r ops (ops.toList.drop m) ρ1 B1
  | _=>none
 else none
def B5j:Op->Bool
 | .store .. | .assign .. | .mapUpdate .. | .insert ..=>true
 | .call { callee:=.builtin .copy,.. }=>true
 | .call { callee:=.builtin .clear,.. }=>true
 | .call { callee:=.builtin .unsafeString,.. }=>true
 | _=>false
def B9i (ops:Array Oper):Nat:=(ops.toList.takeWhile fun o=>!B5j o.op).length
def E5v:Op->Bool
 | .assign ..=>true
 | _=>false
def F8d:Op->Bool
 | .call { callee:=.value (.tmp _),.. }=>true
 | _=>false
def E3u (ops:Array Oper):Nat:=(ops.toList.takeWhile fun o=>!B5j o.op && !F8d o.op).length
def F3c:Op->Bool
 | .call { callee:=.value (.func _),.. }=>true
 | _=>false
def F6r (ops:Array Oper) (bs:List (List Nat)) (m0:Nat):Nat->Nat
 | 0=>m0
 | m+1=>match ops[m]? with
  | some o=>if o.guard.isNone && (List.range m).all fun j=>(bs.getD m []).contains j then (if F3c o.op then m else F6r ops bs m0 m) else m0
  | none=>m0
def C9m (ops:Array Oper):Nat :=
 if ops.toList.any (fun o=>F8d o.op) && B4g ops (E3u ops) then E3u ops
 else
  let m:=(ops.toList.takeWhile fun o=>!B5j o.op || E5v o.op).length
  if B4g ops m then m else B9i ops
def B5f (ops:Array Oper):Nat:=F6r ops (H8 ops.toList []) (C9m ops) (C9m ops)
def B7i (r:Rec) (f:AV) (ρ:List AV) (ps:Array Tmp) (as body:Code) (B:Heap):A3b :=
 match f with
 | .func (.func g) first captured =>
  r.call g (first++[AV.func (.yield B.length) [] []]++captured) (B++[AObj.loop { state:=.ready,pending:=none,tmps:=ρ,params:=ps,assign:=as,body }])
 | _=>none
def B2r (D:List Nat):E0k->E0k
 | some (e,ρ,B,D')=>some (e,ρ,B,D++D')
 | none=>none
def B9j (ops:Array Oper) (m:Nat):Bool :=
 let l:=ops.toList
 let bs:=H8 l []
 let ix:=List.range l.length
 ix.all (fun i=>match l[i]? with
  | none=>false
  | some o =>
   (o.after.toList.all fun e=>!Region.binds .any e || e.on < i) &&
   (i < m || (List.range' m (i - m)).all fun j=>(bs.getD i []).contains j) &&
   ix.all fun j=>match l[j]? with
    | none=>false
    | some q=>match q.dst with
     | none=>true
     | some t=>(i == j || ((o.dst != some t) && (!(looks ops o).contains t || (j < i && (bs.getD i []).contains j) || (i < j && (bs.getD j []).contains i)))) &&
      (m<=i || (bs.getD m []).contains i || !(looks ops o).contains t || j < i))
def F8g (ops:Array Oper) (m:Nat):List Nat :=
 let bs:=H8 ops.toList []
 (List.range m).filter fun p=>!(bs.getD m []).contains p
def A7v:Op->Bool
 | .move _ | .extract .. | .fieldAddr .. | .field .. | .nilCheck _ | .index .. | .binOp .. | .unOp .. | .build .. | .makeInterface ..=>true
 | _=>false
def B3c (G:Nat) (ρ:List AV) (D:List Nat):Op->Bool
 | .load _ a=>match L6 G ρ a with
  | .ptr (some (b,_))=>!D.contains b
  | .fptr ..=>true
  | _=>false
 | .indexAddr _ x _=>match L6 G ρ x with
  | .slice ..=>true
  | .flist ..=>true
  | _=>false
 | .slice _ x _ _ _=>match L6 G ρ x with
  | .slice (some (b,_)) _ _=>!D.contains b
  | _=>false
 | .call { callee:=.builtin .len,args,argTypes:=_ }=>match args.toList.map (L6 G ρ) with
  | [.slice ..]=>true
  | [.flist ..]=>true
  | [.str _]=>true
  | [.sslice ..]=>true
  | _=>false
 | op=>A7v op
def E0j (G:Nat) (ρ:List AV) (ops:Array Oper) (m:Nat):Op->Option (List Nat)
 | .store _ (.tmp d) _=>if (ops.toList.drop m).any (fun q=>q.dst == some d) then none else
  match L6 G ρ (.tmp d) with
  | .ptr (some (b,_))=>some [b]
  | _=>none
 | _=>none
def D8w (ops:Array Oper) (m p:Nat):List Nat:=(List.range' m (ops.size - m)).filter fun x=>!((H8 ops.toList []).getD x []).contains p
def E6i (ops:Array Oper) (G:Nat) (ρ:List AV) (m p:Nat):Option (List Nat) :=
 if (D8w ops m p).all (fun x=>match ops[x]? with | some o=>(E0j G ρ ops m o.op).isSome | none=>false) then
  some ((D8w ops m p).flatMap fun x=>match ops[x]? with | some o=>(E0j G ρ ops m o.op).getD [] | none=>[])
 else none
def C5s (ops:Array Oper) (G:Nat) (ρ:List AV) (D:List Nat) (m:Nat):Bool :=
 (F8g ops m).all fun p=>match ops[p]? with
  | some o=>B3c G ρ D o.op || (match E6i ops G ρ m p with | some D'=>B3c G ρ D' o.op | none=>false)
  | none=>true
def A2a (P:Program) (r:Rec) (ops:Array Oper) (m:Nat) (ρ:List AV) (B:Heap):Option (List AV × Heap × List Nat) :=
 if B9j ops m then
  match M6 P r ops (ops.toList.take m) ρ B with
  | some (ρ1,B1,[]) =>
   match M6 P r ops (ops.toList.drop m) ρ1 B1 with
   | some (ρ2,B2,D2)=>if decide (m<=ops.size) && C5s ops (gN P) ρ1 D2 m then some (ρ2,B2,D2) else none
   | none=>none
  | _=>none
 else none
def isApp:Op->Bool
 | .call { callee:=.builtin .append,.. }=>true
 | _=>false
def D6h (ord:List Nat) (o:Oper):Oper:={ o with after:=o.after.map fun e=>{ e with on:=ord.idxOf e.on },guard:=o.guard.map fun g=>(ord.idxOf g.1,g.2) }
def A8d (ops:Array Oper) (ord:List Nat):Array Oper:=(ord.map fun i=>D6h ord (ops[i]?.getD default)).toArray
def F3k:List Nat->Bool
 | []=>true
 | k :: ks=>!ks.contains k && F3k ks
def D6f (ops:Array Oper) (ord:List Nat):Bool :=
 decide (ord.length=ops.size) && (F3k ord && (ord.all (fun i=>decide (i < ops.size)) && ops.toList.all fun o=>o.after.toList.all (fun e=>decide (e.on < ops.size)) && (match o.guard with | some (j,_)=>decide (j < ops.size) | none=>true)))
def D5g:List Oper->Nat->List Nat->List Nat->List Nat × List Nat
 | [],_,done,rest=>(done,rest)
 | o :: r,i,done,rest =>
  if A7v o.op && o.guard.isNone && (o.after.toList.all fun e=>!Region.binds .any e || done.contains e.on) then D5g r (i+1) (done++[i]) rest else D5g r (i+1) done (rest++[i])
def A8x (ops:Array Oper):Option (List Nat × Nat) :=
 if ops.toList.any (fun o=>isApp o.op) then
  let m:=(ops.toList.takeWhile fun o=>!B5j o.op && !isApp o.op).length
  let p:=D5g (ops.toList.drop m) m (List.range m) []
  if D6f ops (p.1++p.2) && B9j (A8d ops (p.1++p.2)) p.1.length then some (p.1++p.2,p.1.length) else none
 else none
def B6v (P:Program) (r:Rec) (ops:Array Oper) (ρ:List AV) (B:Heap):Option (List AV × Heap × List Nat) :=
 if B4g ops (B5f ops) then A5q P r ops (B5f ops) ρ B else A2a P r ops (B9i ops) ρ B
def B1d (P:Program) (r:Rec) (ops:Array Oper) (ρ:List AV) (B:Heap):Option (List AV × Heap × List Nat) :=
 match A8x ops with
 | some p=>A2a P r (A8d ops p.1) p.2 ρ B
 | none=>B6v P r ops ρ B
def J6 (P:Program) (r:Rec) (bp:Bps):Code->List AV->Heap->E0k
 | .skip,ρ,B=>some (.normal,ρ,B,[])
 | .label _,ρ,B=>some (.normal,ρ,B,[])
 | .exit id,ρ,B=>some (.exit id,ρ,B,[])
 | .ret,ρ,B=>some (.ret,ρ,B,[])
 | .region _ ops false,ρ,B=>(A4h P r ops ops.toList ρ B).map fun (ρ,B,D)=>(.normal,ρ,B,D)
 | .region _ ops true,ρ,B=>(B1d P r ops ρ B).map fun (ρ,B,D)=>(.normal,ρ,B,D)
 | .seq a b,ρ,B =>
  match J6 P r bp a ρ B with
  | some (.normal,ρ1,B1,D1)=>B2r D1 (J6 P r bp b ρ1 B1)
  | x=>x
 | .cond c a b,ρ0,B =>
  let ρ:=A9m ρ0 (C5b c)
  match L6 (gN P) ρ c with
  | .bool true=>J6 P r bp a ρ B
  | .bool false=>J6 P r bp b ρ B
  | _=>none
 | .block id c,ρ,B =>
  match bp id with
  | some g=>(g ρ B).get
  | none =>
   match J6 P r bp c ρ B with
   | some (.exit id',ρ1,B1,D1)=>some (if id'=id then .normal else .exit id',ρ1,B1,D1)
   | x=>x
 | .loop c,ρ,B =>
  match J6 P r bp c ρ B with
  | some (.normal,ρ1,B1,D1)=>A4a ρ1 fun ρ1=>B9z B1 fun B1=>B2r D1 (r.exec bp (.loop c) ρ1 B1)
  | x=>x
 | .scope c,ρ,B=>J6 P r bp c ρ B
 | .rangeFunc f ps as body,ρ,B =>
  match B7i r (L6 (gN P) ρ f) ρ ps as body B with
  | some (_,B1,D1) =>
   match B1[B.length]? with
   | some (.loop lo) =>
    if lo.state=.busy then none else
    match lo.pending with
    | none=>some (.normal,ρ,B1.set B.length (.loop { lo with state:=.exhausted }),D1++[B.length])
    | some .ret=>some (.ret,ρ,B1.set B.length (.loop { lo with state:=.exhausted }),D1++[B.length])
    | some (.exit id)=>some (.exit id,ρ,B1.set B.length (.loop { lo with state:=.exhausted }),D1++[B.length])
    | _=>none
   | _=>none
  | none=>none
 | _,_,_=>none
structure Prims where
 fn:FuncId->Option (List AV->Heap->Tr (AV × Heap × List Nat))
 ext:FuncId->Option (List AV->Option AV)
 blk:FuncId->Bps
def A7m (P:Program) (prims:Prims) (r:Rec) (f:FuncId) (args:List AV) (B:Heap):A3b :=
 match prims.fn f with
 | some g=>(g args B).get
 | none =>
  match P.funcs[f]? with
  | none=>none
  | some fn =>
   match fn.body with
   | none=>none
   | some c =>
    A4a args fun args=>B9z B fun B =>
    match J6 P r (prims.blk f) c (args++List.replicate (fn.ntmps - args.length) G6) B with
    | some (.exit _,_,_,_)=>none
    | some (_,ρ,B',D) =>
     match X5 P B' ρ fn.results.toList with
     | some l=>some (gc B (A1u l) B' D)
     | none=>none
    | none=>none
def run (P:Program) (prims:Prims):Nat->Rec
 | 0=>{ exec:=fun _ _ _ _=>none,call:=fun _ _ _=>none,ext:=prims.ext }
 | n+1=>{ exec:=fun bp=>J6 P (run P prims n) bp,call:=A7m P prims (run P prims n),ext:=prims.ext }
end Go.Ad
