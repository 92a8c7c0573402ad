/- The abstract evaluator of code: regions, branches, loops, calls, ranges over functions. -/
import Derived.Test.YtkfabaoichndpaaGreatDoorAdCore
namespace Go.Ad
def M7 {β:Type} (n:Nat) (f:Nat->β):β:=Nat.rec (f 0) (fun k _=>f (Nat.succ k)) n
def B2t {β:Type} (n:Int) (f:Int->β):β :=
 match n with
 | .ofNat m=>M7 m fun m=>f (.ofNat m)
 | .negSucc m=>M7 m fun m=>f (.negSucc m)
def A5w {β:Type}:List UInt8->(List UInt8->β)->β
 | [],f=>f []
 | b :: r,f=>M7 b.toNat fun n=>A5w r fun r=>f (UInt8.ofNat n :: r)
def E9t {β:Type} (b:Bool) (f:Bool->β):β:=match b with | true=>f true | false=>f false
def B2y {β:Type} (a:Option (Nat × Nat)) (f:Option (Nat × Nat)->β):β :=
 match a with
 | none=>f none
 | some (b,o)=>M7 b fun b=>M7 o fun o=>f (some (b,o))
mutual
def P5 {β:Type}:AV->(AV->β)->β
 | .bad,f=>f .bad
 | .bool b,f=>E9t b fun b=>f (.bool b)
 | .int k n,f=>B2t n fun n=>f (.int k n)
 | .rng k n lo hi,f=>B2t lo fun lo=>B2t hi fun hi=>f (.rng k n lo hi)
 | .str s,f=>A5w s fun s=>f (.str s)
 | .sint k n,f=>f (.sint k n)
 | .sbool b,f=>f (.sbool b)
 | .sstr s,f=>f (.sstr s)
 | .lstr s lo hi,f=>M7 lo fun lo=>M7 hi fun hi=>f (.lstr s lo hi)
 | .ptr a,f=>B2y a fun a=>f (.ptr a)
 | .slice a n c,f=>B2y a fun a=>M7 n fun n=>M7 c fun c=>f (.slice a n c)
 | .sslice b s n,f=>M7 b fun b=>f (.sslice b s n)
 | .aslc b s n,f=>M7 b fun b=>f (.aslc b s n)
 | .sptr b i j,f=>M7 b fun b=>M7 j fun j=>f (.sptr b i j)
 | .dptr b n,f=>M7 b fun b=>f (.dptr b n)
 | .flist n row es,f=>f (.flist n row es)
 | .fptr cs j,f=>M7 j fun j=>f (.fptr cs j)
 | .map none,f=>f (.map none)
 | .map (some r),f=>M7 r fun r=>f (.map (some r))
 | .func fn xs ys,f=>A4s xs fun xs=>A4s ys fun ys=>f (.func fn xs ys)
 | .nilFunc,f=>f .nilFunc
 | .iface t v,f=>P5 v fun v=>f (.iface t v)
 | .nilIface,f=>f .nilIface
 | .agg xs,f=>A4s xs fun xs=>f (.agg xs)
 | .tuple xs,f=>A4s xs fun xs=>f (.tuple xs)
def A4s {β:Type}:List AV->(List AV->β)->β
 | [],f=>f []
 | x :: xs,f=>P5 x fun x=>A4s xs fun xs=>f (x :: xs)
end
def C6g {β:Type} (o:AObj) (f:AObj->β):β :=
 match o with
 | .cells c es rw ty=>A4s c fun c=>M7 es fun es=>E9t rw fun rw=>f (.cells c es rw ty)
 | .vec n row es ty=>M7 es fun es=>f (.vec n row es ty)
 | .tail n row es tl ty=>M7 es fun es=>A4s tl fun tl=>f (.tail n row es tl ty)
 | .text s ty=>f (.text s ty)
 | .arr pre k m g ty=>A4s pre fun pre=>f (.arr pre k m g ty)
 | .iter s p=>A5w s fun s=>M7 p fun p=>f (.iter s p)
 | .loop l=>A4s l.tmps fun t=>f (.loop { l with tmps:=t })
 | .maps es=>f (.maps es)
 | .miter=>f .miter
 | .dead=>f .dead
def C1l {β:Type}:Heap->(Heap->β)->β
 | [],f=>f []
 | o :: r,f=>C6g o fun o=>C1l r fun r=>f (o :: r)
theorem O6 {β:Type} (n:Nat) (f:Nat->β):M7 n f=f n:=by cases n <;> rfl
theorem C0t {β:Type} (n:Int) (f:Int->β):B2t n f=f n:=by cases n <;> simp [B2t,O6]
theorem A6v {β:Type}:∀ (l:List UInt8) (f:List UInt8->β),A5w l f=f l
 | [],_=>rfl
 | b :: r,f=>by simp [A5w,O6,A6v r]
theorem C8m {β:Type} (b:Bool) (f:Bool->β):E9t b f=f b:=by cases b <;> rfl
theorem B6b {β:Type} (a:Option (Nat × Nat)) (f:Option (Nat × Nat)->β):B2y a f=f a:=by
 cases a <;> simp [B2y,O6]
mutual
theorem Q7 {β:Type}:∀ (a:AV) (f:AV->β),P5 a f=f a
 | .bad,_=>rfl
 | .bool b,f=>by simp [P5,C8m]
 | .int k n,f=>by simp [P5,C0t]
 | .rng k n lo hi,f=>by simp [P5,C0t]
 | .str s,f=>by simp [P5,A6v]
 | .sint _ _,_=>rfl
 | .sbool _,_=>rfl
 | .sstr _,_=>rfl
 | .lstr ..,_=>by simp [P5,O6]
 | .ptr a,f=>by simp [P5,B6b]
 | .slice a n c,f=>by simp [P5,B6b,O6]
 | .sslice ..,f=>by simp [P5,O6]
 | .aslc ..,f=>by simp [P5,O6]
 | .sptr ..,f=>by simp [P5,O6]
 | .dptr ..,f=>by simp [P5,O6]
 | .flist ..,_=>rfl
 | .fptr ..,f=>by simp [P5,O6]
 | .map none,f=>rfl
 | .map (some r),f=>by simp [P5,O6]
 | .func fn xs ys,f=>by simp [P5,R6 xs,R6 ys]
 | .nilFunc,_=>rfl
 | .iface t v,f=>by simp [P5,Q7 v]
 | .nilIface,_=>rfl
 | .agg xs,f=>by simp [P5,R6 xs]
 | .tuple xs,f=>by simp [P5,R6 xs]
theorem R6 {β:Type}:∀ (l:List AV) (f:List AV->β),A4s l f=f l
 | [],_=>rfl
 | x :: xs,f=>by simp [A4s,Q7 x,R6 xs]
end
theorem D4n {β:Type} (o:AObj) (f:AObj->β):C6g o f=f o:=by
 cases o <;> simp [C6g,R6,O6,C8m,A6v]
theorem A1n {β:Type}:∀ (l:Heap) (f:Heap->β),C1l l f=f l
 | [],_=>rfl
 | o :: r,f=>by simp [C1l,D4n,A1n r]
inductive AEx where
 | normal
 | exit (id:Nat)
 | ret
abbrev E3d:=Option (AEx × List AV × Heap × List Nat)
inductive Tr (α:Type) where
 | leaf (a:α)
 | br (b:Bool) (t f:Tr α)
 | fail
def Tr.get {α:Type}:Tr α->Option α
 | .leaf a=>some a
 | .br b t f=>match b with
  | true=>t.get
  | false=>f.get
 | .fail=>none
def Tr.of {α:Type}:Option α->Tr α
 | some a=>.leaf a
 | none=>.fail
theorem Tr.get_of {α:Type} (o:Option α):(Tr.of o).get=o:=by cases o <;> rfl
abbrev Blk:=List AV->Heap->Tr (AEx × List AV × Heap × List Nat)
abbrev Bps:=Nat->Option Blk
def F8:Bps:=fun _=>none
structure Rec where
 exec:Bps->Code->List AV->Heap->E3d
 call:FuncId->List AV->Heap->A4n
 /-- Functions that have no body: the machine knows them. -/
 ext:FuncId->Option (List AV->Option AV)
mutual
def below (n:Nat):AV->Bool
 | .ptr (some (b,_))=>b < n
 | .slice (some (b,_)) _ _=>b < n
 | .sslice b _ _=>b < n
 | .aslc b _ _=>b < n
 | .sptr b _ _=>b < n
 | .dptr b _=>b < n
 | .flist .. | .fptr ..=>decide (0 < n)
 | .map (some b)=>b < n
 | .func (.yield l) xs ys=>l < n && H6 n xs && H6 n ys
 | .func _ xs ys=>H6 n xs && H6 n ys
 | .iface _ v=>below n v
 | .agg xs=>H6 n xs
 | .tuple xs=>H6 n xs
 | _=>true
def H6 (n:Nat):List AV->Bool
 | []=>true
 | x :: xs=>below n x && H6 n xs
end
mutual
def G5 (n:Nat):AV->Bool
 | .ptr (some (b,_))=>b < n
 | .slice (some (b,_)) _ _=>b < n
 | .sslice b _ k=>decide (k=0) || decide (b < n)
 | .aslc b _ _=>b < n
 | .sptr b _ _=>b < n
 | .dptr b k=>decide (k=0) || decide (b < n)
 | .map (some b)=>b < n
 | .func (.yield l) xs ys=>l < n && J6 n xs && J6 n ys
 | .func _ xs ys=>J6 n xs && J6 n ys
 | .iface _ v=>G5 n v
 | .agg xs=>J6 n xs
 | .tuple xs=>J6 n xs
 | _=>true
def J6 (n:Nat):List AV->Bool
 | []=>true
 | x :: xs=>G5 n x && J6 n xs
end
def A4a (n:Nat):Option AObj->Bool
 | some (.cells c _ _ _)=>H6 n c
 | some (.iter _ _)=>true
 | some (.vec ..)=>true
 | some (.text ..)=>true
 | some (.arr ..)=>true
 | some .miter=>true
 | some .dead=>true
 | _=>false
def B6t (n:Nat):AV->Option Nat
 | .slice (some (b,_)) _ _=>if n<=b then some b else none
 | .ptr (some (b,_))=>if n<=b then some b else none
 | _=>none
def B2b (n:Nat):List AV->Option Nat
 | []=>none
 | x :: xs=>match B6t n x with
  | some b=>some b
  | none=>B2b n xs
def E8x (n:Nat):AV->Option Nat
 | .tuple xs=>B2b n xs
 | v=>B6t n v
def B9k (b n:Nat):AV->AV
 | .slice (some (b',o)) l c=>if b'=b then .slice (some (n,o)) l c else .slice (some (b',o)) l c
 | .ptr (some (b',o))=>if b'=b then .ptr (some (n,o)) else .ptr (some (b',o))
 | v=>v
def B1u (b n:Nat):AV->Bool
 | .slice (some (b',_)) _ _=>b' < n || b' == b
 | .ptr (some (b',_))=>b' < n || b' == b
 | v=>below n v
def F8m (b n:Nat):AV->Bool
 | .tuple xs=>xs.all (B1u b n)
 | v=>B1u b n v
def F7t (b n:Nat):AV->AV
 | .tuple xs=>.tuple (xs.map (B9k b n))
 | v=>B9k b n v
def gc (B:Heap) (v:AV) (B':Heap) (D:List Nat):AV × Heap × List Nat :=
 let n:=B.length
 let D':=D.filter (· < n)
 if below n v && D'.all (fun b=>A4a n B'[b]?) then
  (v,if D'.isEmpty then B else B'.take n,D')
 else if D'.isEmpty then
  match E8x n v with
  | some b =>
   match B'[b]? with
   | some (.cells c es rw ty) =>
    if F8m b n v && H6 n c then (F7t b n v,B++[.cells c es rw ty],[]) else (v,B',D')
   | _=>(v,B',D')
  | none=>(v,B',D')
 else (v,B',D')
def Y0 (P:Program) (B:Heap) (ρ:List AV):List ResultVar->Option (List AV)
 | []=>some []
 | .tmp t :: r=>(Y0 P B ρ r).map (ρ.getD t G7 :: ·)
 | .cell a t :: r =>
  match A2j P B t (ρ.getD a G7),Y0 P B ρ r with
  | some v,some l=>some (v :: l)
  | _,_=>none
def A9m:List AV->AV
 | [v]=>v
 | l=>.tuple l
def A1h (ops:Array Oper) (ρ:List AV) (o:Oper):Option Bool :=
 match o.guard with
 | none=>some true
 | some (j,want) =>
  match (ops[j]?).bind (·.dst) with
  | none=>some false
  | some d =>
   match ρ[d]? with
   | some (.bool b)=>some (b == want)
   | some .bad=>none
   | some (.sbool b)=>some (b == want)
   | _=>some false
def A3g (ρ:List AV) (d:Option Tmp) (v:AV):List AV :=
 match d with
 | some d=>ρ.set d v
 | none=>ρ
def A6t (r:Rec) (l:Nat) (args:List AV) (B:Heap):A4n :=
 match B[l]? with
 | some (.loop lo) =>
  if args.length=lo.params.size then
   match r.exec F8 lo.assign ((lo.params.toList.zip args).foldl (fun t (p,a)=>t.set p a) lo.tmps) B with
   | some (.normal,ρ1,B1,D1) =>
    match B1[l]? with
    | some (.loop lo1) =>
     if lo1.state=.ready then
      match r.exec F8 lo.body ρ1 (B1.set l (.loop { lo1 with state:=.busy })) with
      | some (e,_,B2,D2) =>
       match B2[l]? with
       | some (.loop lo2) =>
        match e with
        | .normal=>some (.bool true,B2.set l (.loop { lo2 with state:=.ready,pending:=none }),D1++[l]++D2++[l])
        | .ret=>some (.bool false,B2.set l (.loop { lo2 with state:=.done,pending:=some .ret }),D1++[l]++D2++[l])
        | .exit id=>some (.bool false,B2.set l (.loop { lo2 with state:=.done,pending:=some (.exit id) }),D1++[l]++D2++[l])
       | _=>none
      | none=>none
     else none
    | _=>none
   | _=>none
  else none
 | _=>none
def C0j (r:Rec) (f:AV) (args:List AV) (B:Heap):A4n :=
 match f with
 | .func (.func g) first captured=>r.call g (first++args++captured) B
 | .func (.yield l) first _=>A6t r l (first++args) B
 | _=>none
def F1l (ext:FuncId->Option (List AV->Option AV)):AV->Option (List AV->Option AV)
 | .func (.func g) [] []=>ext g
 | _=>none
def P6 (P:Program) (r:Rec) (ρ:Operand->AV) (B:Heap) (op:Op):A4n :=
 match op with
 | .call { callee:=.value f,args,.. } =>
  match F1l r.ext (ρ f) with
  | some h=>only B (h (args.toList.map ρ))
  | none=>C0j r (ρ f) (args.toList.map ρ) B
 | op=>aop P ρ B op
def U2 (P:Program) (r:Rec) (ops:Array Oper):List Oper->List AV->Heap->Option (List AV × Heap × List Nat)
 | [],ρ,B=>some (ρ,B,[])
 | o :: rest,ρ,B =>
  match A1h ops ρ o with
  | some true =>
   match P6 P r (P9 (gN P) ρ) B o.op with
   | some (v,B1,D1) =>
    P5 v fun v =>
    match U2 P r ops rest (A3g ρ o.dst v) B1 with
    | some (ρ2,B2,D2)=>some (ρ2,B2,D1++D2)
    | none=>none
   | none=>none
  | some false=>U2 P r ops rest (A3g ρ o.dst G7) B
  | none=>none
def norm (ρ:List AV) (d:Tmp):List AV :=
 match ρ[d]? with
 | some (.sbool b)=>ρ.set d (.bool b)
 | _=>ρ
def B3a (ops:Array Oper) (o:Oper):Option Tmp :=
 match o.guard with
 | none=>none
 | some (j,_)=>(ops[j]?).bind (·.dst)
def B7g (o:Oper):Option Tmp :=
 match o.op with
 | .pick (.tmp d) _ _=>some d
 | _=>none
def B0s (ρ:List AV) (d:Option Tmp):List AV :=
 match d with
 | some d=>norm ρ d
 | none=>ρ
def A4y (P:Program) (r:Rec) (ops:Array Oper):List Oper->List AV->Heap->Option (List AV × Heap × List Nat)
 | [],ρ,B=>some (ρ,B,[])
 | o :: rest,ρ0,B =>
  let ρ:=B0s (B0s ρ0 (B3a ops o)) (B7g o)
  match A1h ops ρ o with
  | some true =>
   match P6 P r (P9 (gN P) ρ) B o.op with
   | some (v,B1,D1) =>
    P5 v fun v =>
    match A4y P r ops rest (A3g ρ o.dst v) B1 with
    | some (ρ2,B2,D2)=>some (ρ2,B2,D1++D2)
    | none=>none
   | none=>none
  | some false=>A4y P r ops rest (A3g ρ o.dst G7) B
  | none=>none
def C4z:Operand->Option Tmp
 | .tmp d=>some d
 | _=>none
def looks (ops:Array Oper) (o:Oper):List Tmp :=
 (o.op.operands.toList.filterMap fun | .tmp t=>some t | _=>none) ++
 (match o.guard with
  | some (j,_)=>((ops[j]?).bind (·.dst)).toList
  | none=>[])
def H7:List Oper->List (List Nat)->List (List Nat)
 | [],acc=>acc
 | o :: rest,acc =>
  H7 rest (acc++[((o.after.toList.filter (Region.binds .any)).flatMap fun e=>e.on :: acc.getD e.on []).eraseDups])
def B6g (ops:Array Oper) (m:Nat):Bool :=
 let l:=ops.toList
 let bs:=H7 l []
 let ix:=List.range l.length
 ix.all (fun i=>match l[i]? with
  | none=>false
  | some o =>
   (o.after.toList.all fun e=>!Region.binds .any e || e.on < i) &&
   (i < m || (List.range i).all fun j=>(bs.getD i []).contains j) &&
   (i >= m || ix.all fun j=>match l[j]? with
    | none=>false
    | some q=>j >= m || i == j || ((match q.dst with
     | none=>true
     | some t=>(o.dst != some t) && (!(looks ops o).contains t || (j < i && (bs.getD i []).contains j) || (i < j && (bs.getD j []).contains i))))))
def A6x (P:Program) (r:Rec) (ops:Array Oper) (m:Nat) (ρ:List AV) (B:Heap):Option (List AV × Heap × List Nat) :=
 if B6g ops m then
  match U2 P r ops (ops.toList.take m) ρ B with
  | some (ρ1,B1,[])=>A4y P r ops (ops.toList.drop m) ρ1 B1
  | _=>none
 else none
def B7q:Op->Bool
 | .store .. | .assign .. | .mapUpdate .. | .insert ..=>true
 | .call { callee:=.builtin .copy,.. }=>true
 | .call { callee:=.builtin .clear,.. }=>true
 | .call { callee:=.builtin .unsafeString,.. }=>true
 | _=>false
def B7x (ops:Array Oper):Nat:=(ops.toList.takeWhile fun o=>!B7q o.op).length
def E7g:Op->Bool
 | .assign ..=>true
 | _=>false
def F8e:Op->Bool
 | .call { callee:=.value (.tmp _),.. }=>true
 | _=>false
def E4x (ops:Array Oper):Nat:=(ops.toList.takeWhile fun o=>!B7q o.op && !F8e o.op).length
def F3g:Op->Bool
 | .call { callee:=.value (.func _),.. }=>true
 | _=>false
def F8j (ops:Array Oper) (bs:List (List Nat)) (m0:Nat):Nat->Nat
 | 0=>m0
 | m+1=>match ops[m]? with
  | some o=>if o.guard.isNone && (List.range m).all fun j=>(bs.getD m []).contains j then (if F3g o.op then m else F8j ops bs m0 m) else m0
  | none=>m0
def D1v (ops:Array Oper):Nat :=
 if ops.toList.any (fun o=>F8e o.op) && B6g ops (E4x ops) then E4x ops
 else
  let m:=(ops.toList.takeWhile fun o=>!B7q o.op || E7g o.op).length
  if B6g ops m then m else B7x ops
def B7l (ops:Array Oper):Nat:=F8j ops (H7 ops.toList []) (D1v ops) (D1v ops)
def B9n (r:Rec) (f:AV) (ρ:List AV) (ps:Array Tmp) (as body:Code) (B:Heap):A4n :=
 match f with
 | .func (.func g) first captured =>
  r.call g (first++[AV.func (.yield B.length) [] []]++captured) (B++[AObj.loop { state:=.ready,pending:=none,tmps:=ρ,params:=ps,assign:=as,body }])
 | _=>none
def B4i (D:List Nat):E3d->E3d
 | some (e,ρ,B,D')=>some (e,ρ,B,D++D')
 | none=>none
def B9y (ops:Array Oper) (m:Nat):Bool :=
 let l:=ops.toList
 let bs:=H7 l []
 let ix:=List.range l.length
 ix.all (fun i=>match l[i]? with
  | none=>false
  | some o =>
   (o.after.toList.all fun e=>!Region.binds .any e || e.on < i) &&
   (i < m || (List.range' m (i - m)).all fun j=>(bs.getD i []).contains j) &&
   ix.all fun j=>match l[j]? with
    | none=>false
    | some q=>match q.dst with
     | none=>true
     | some t=>(i == j || ((o.dst != some t) && (!(looks ops o).contains t || (j < i && (bs.getD i []).contains j) || (i < j && (bs.getD j []).contains i)))) &&
      (m<=i || (bs.getD m []).contains i || !(looks ops o).contains t || j < i))
def F8f (ops:Array Oper) (m:Nat):List Nat :=
 let bs:=H7 ops.toList []
 (List.range m).filter fun p=>!(bs.getD m []).contains p
def A7u:Op->Bool
 | .move _ | .extract .. | .fieldAddr .. | .field .. | .nilCheck _ | .index .. | .binOp .. | .unOp .. | .build .. | .makeInterface ..=>true
 | _=>false
def C0z (G:Nat) (ρ:List AV) (D:List Nat):Op->Bool
 | .load _ a=>match P9 G ρ a with
  | .ptr (some (b,_))=>!D.contains b
  | _=>false
 | .indexAddr _ x _=>match P9 G ρ x with
  | .slice ..=>true
  | _=>false
 | .call { callee:=.builtin .len,args,argTypes:=_ }=>match args.toList.map (P9 G ρ) with
  | [.slice ..]=>true
  | [.str _]=>true
  | [.sslice ..]=>true
  | _=>false
 | op=>A7u op
def C5o (ops:Array Oper) (G:Nat) (ρ:List AV) (D:List Nat) (m:Nat):Bool :=
 (F8f ops m).all fun p=>match ops[p]? with
  | some o=>C0z G ρ D o.op
  | none=>true
def A2q (P:Program) (r:Rec) (ops:Array Oper) (m:Nat) (ρ:List AV) (B:Heap):Option (List AV × Heap × List Nat) :=
 if B9y ops m then
  match U2 P r ops (ops.toList.take m) ρ B with
  | some (ρ1,B1,[]) =>
   match U2 P r ops (ops.toList.drop m) ρ1 B1 with
   | some (ρ2,B2,D2)=>if decide (m<=ops.size) && C5o ops (gN P) ρ1 D2 m then some (ρ2,B2,D2) else none
   | none=>none
  | _=>none
 else none
def isApp:Op->Bool
 | .call { callee:=.builtin .append,.. }=>true
 | _=>false
def D5l (ord:List Nat) (o:Oper):Oper:={ o with after:=o.after.map fun e=>{ e with on:=ord.idxOf e.on },guard:=o.guard.map fun g=>(ord.idxOf g.1,g.2) }
def A7s (ops:Array Oper) (ord:List Nat):Array Oper:=(ord.map fun i=>D5l ord (ops[i]?.getD default)).toArray
def F3c:List Nat->Bool
 | []=>true
 | k :: ks=>!ks.contains k && F3c ks
def D6c (ops:Array Oper) (ord:List Nat):Bool :=
 decide (ord.length=ops.size) && (F3c ord && (ord.all (fun i=>decide (i < ops.size)) && ops.toList.all fun o=>o.after.toList.all (fun e=>decide (e.on < ops.size)) && (match o.guard with | some (j,_)=>decide (j < ops.size) | none=>true)))
def D4f:List Oper->Nat->List Nat->List Nat->List Nat × List Nat
 | [],_,done,rest=>(done,rest)
 | o :: r,i,done,rest =>
  if A7u o.op && o.guard.isNone && (o.after.toList.all fun e=>!Region.binds .any e || done.contains e.on) then D4f r (i+1) (done++[i]) rest else D4f r (i+1) done (rest++[i])
def A9t (ops:Array Oper):Option (List Nat × Nat) :=
 if ops.toList.any (fun o=>isApp o.op) then
  let m:=(ops.toList.takeWhile fun o=>!B7q o.op && !isApp o.op).length
  let p:=D4f (ops.toList.drop m) m (List.range m) []
  if D6c ops (p.1++p.2) && B9y (A7s ops (p.1++p.2)) p.1.length then some (p.1++p.2,p.1.length) else none
 else none
def B8o (P:Program) (r:Rec) (ops:Array Oper) (ρ:List AV) (B:Heap):Option (List AV × Heap × List Nat) :=
 if B6g ops (B7l ops) then A6x P r ops (B7l ops) ρ B else A2q P r ops (B7x ops) ρ B
def B3e (P:Program) (r:Rec) (ops:Array Oper) (ρ:List AV) (B:Heap):Option (List AV × Heap × List Nat) :=
 match A9t ops with
 | some p=>A2q P r (A7s ops p.1) p.2 ρ B
 | none=>B8o P r ops ρ B
def I5 (P:Program) (r:Rec) (bp:Bps):Code->List AV->Heap->E3d
 | .skip,ρ,B=>some (.normal,ρ,B,[])
 | .label _,ρ,B=>some (.normal,ρ,B,[])
 | .exit id,ρ,B=>some (.exit id,ρ,B,[])
 | .ret,ρ,B=>some (.ret,ρ,B,[])
 | .region _ ops false,ρ,B=>(A4y P r ops ops.toList ρ B).map fun (ρ,B,D)=>(.normal,ρ,B,D)
 | .region _ ops true,ρ,B=>(B3e P r ops ρ B).map fun (ρ,B,D)=>(.normal,ρ,B,D)
 | .seq a b,ρ,B =>
  match I5 P r bp a ρ B with
  | some (.normal,ρ1,B1,D1)=>B4i D1 (I5 P r bp b ρ1 B1)
  | x=>x
 | .cond c a b,ρ0,B =>
  let ρ:=B0s ρ0 (C4z c)
  match P9 (gN P) ρ c with
  | .bool true=>I5 P r bp a ρ B
  | .bool false=>I5 P r bp b ρ B
  | _=>none
 | .block id c,ρ,B =>
  match bp id with
  | some g=>(g ρ B).get
  | none =>
   match I5 P r bp c ρ B with
   | some (.exit id',ρ1,B1,D1)=>some (if id'=id then .normal else .exit id',ρ1,B1,D1)
   | x=>x
 | .loop c,ρ,B =>
  match I5 P r bp c ρ B with
  | some (.normal,ρ1,B1,D1)=>A4s ρ1 fun ρ1=>C1l B1 fun B1=>B4i D1 (r.exec bp (.loop c) ρ1 B1)
  | x=>x
 | .scope c,ρ,B=>I5 P r bp c ρ B
 | .rangeFunc f ps as body,ρ,B =>
  match B9n r (P9 (gN P) ρ f) ρ ps as body B with
  | some (_,B1,D1) =>
   match B1[B.length]? with
   | some (.loop lo) =>
    if lo.state=.busy then none else
    match lo.pending with
    | none=>some (.normal,ρ,B1.set B.length (.loop { lo with state:=.exhausted }),D1++[B.length])
    | some .ret=>some (.ret,ρ,B1.set B.length (.loop { lo with state:=.exhausted }),D1++[B.length])
    | some (.exit id)=>some (.exit id,ρ,B1.set B.length (.loop { lo with state:=.exhausted }),D1++[B.length])
    | _=>none
   | _=>none
  | none=>none
 | _,_,_=>none
structure Prims where
 fn:FuncId->Option (List AV->Heap->Tr (AV × Heap × List Nat))
 ext:FuncId->Option (List AV->Option AV)
 blk:FuncId->Bps
def A7m (P:Program) (prims:Prims) (r:Rec) (f:FuncId) (args:List AV) (B:Heap):A4n :=
 match prims.fn f with
 | some g=>(g args B).get
 | none =>
  match P.funcs[f]? with
  | none=>none
  | some fn =>
   match fn.body with
   | none=>none
   | some c =>
    A4s args fun args=>C1l B fun B =>
    match I5 P r (prims.blk f) c (args++List.replicate (fn.ntmps - args.length) G7) B with
    | some (.exit _,_,_,_)=>none
    | some (_,ρ,B',D) =>
     match Y0 P B' ρ fn.results.toList with
     | some l=>some (gc B (A9m l) B' D)
     | none=>none
    | none=>none
def run (P:Program) (prims:Prims):Nat->Rec
 | 0=>{ exec:=fun _ _ _ _=>none,call:=fun _ _ _=>none,ext:=prims.ext }
 | n+1=>{ exec:=fun bp=>I5 P (run P prims n) bp,call:=A7m P prims (run P prims n),ext:=prims.ext }
end Go.Ad
