/- The abstract evaluator of code: regions, branches, loops, calls, ranges over functions. -/
import Derived.Test.YtfjgehlpjppggaaGreatDoorAdCore
namespace Go.Ad
def withNat {β:Type} (n:Nat) (f:Nat→β):β:=Nat.rec (f 0) (fun k _=>f (Nat.succ k)) n
def withInt {β:Type} (n:Int) (f:Int→β):β :=
 match n with
 | .ofNat m=>withNat m fun m=>f (.ofNat m)
 | .negSucc m=>withNat m fun m=>f (.negSucc m)
def withBytes {β:Type}:List UInt8→(List UInt8→β)→β
 | [],f=>f []
 | b :: r,f=>withNat b.toNat fun n=>withBytes r fun r=>f (UInt8.ofNat n :: r)
def withB {β:Type} (b:Bool) (f:Bool→β):β:=match b with | true=>f true | false=>f false
def withAddr {β:Type} (a:Option (Nat × Nat)) (f:Option (Nat × Nat)→β):β :=
 match a with
 | none=>f none
 | some (b,o)=>withNat b fun b=>withNat o fun o=>f (some (b,o))
mutual
def withAV {β:Type}:AV→(AV→β)→β
 | .bad,f=>f .bad
 | .bool b,f=>withB b fun b=>f (.bool b)
 | .int k n,f=>withInt n fun n=>f (.int k n)
 | .rng k n lo hi,f=>withInt lo fun lo=>withInt hi fun hi=>f (.rng k n lo hi)
 | .str s,f=>withBytes s fun s=>f (.str s)
 | .sint k n,f=>f (.sint k n)
 | .sbool b,f=>f (.sbool b)
 | .sstr s,f=>f (.sstr s)
 | .lstr s lo hi,f=>withNat lo fun lo=>withNat hi fun hi=>f (.lstr s lo hi)
 | .ptr a,f=>withAddr a fun a=>f (.ptr a)
 | .slice a n c,f=>withAddr a fun a=>withNat n fun n=>withNat c fun c=>f (.slice a n c)
 | .sslice b s n,f=>withNat b fun b=>f (.sslice b s n)
 | .aslc b s n,f=>withNat b fun b=>f (.aslc b s n)
 | .sptr b i j,f=>withNat b fun b=>withNat j fun j=>f (.sptr b i j)
 | .dptr b n,f=>withNat b fun b=>f (.dptr b n)
 | .flist n row es,f=>f (.flist n row es)
 | .fptr cs j,f=>withNat j fun j=>f (.fptr cs j)
 | .map none,f=>f (.map none)
 | .map (some r),f=>withNat r fun r=>f (.map (some r))
 | .func fn xs ys,f=>withL xs fun xs=>withL ys fun ys=>f (.func fn xs ys)
 | .nilFunc,f=>f .nilFunc
 | .iface t v,f=>withAV v fun v=>f (.iface t v)
 | .nilIface,f=>f .nilIface
 | .agg xs,f=>withL xs fun xs=>f (.agg xs)
 | .tuple xs,f=>withL xs fun xs=>f (.tuple xs)
def withL {β:Type}:List AV→(List AV→β)→β
 | [],f=>f []
 | x :: xs,f=>withAV x fun x=>withL xs fun xs=>f (x :: xs)
end
def withObj {β:Type} (o:AObj) (f:AObj→β):β :=
 match o with
 | .cells c es rw ty=>withL c fun c=>withNat es fun es=>withB rw fun rw=>f (.cells c es rw ty)
 | .vec n row es ty=>withNat es fun es=>f (.vec n row es ty)
 | .tail n row es tl ty=>withNat es fun es=>withL tl fun tl=>f (.tail n row es tl ty)
 | .text s ty=>f (.text s ty)
 | .arr pre k m g ty=>withL pre fun pre=>f (.arr pre k m g ty)
 | .iter s p=>withBytes s fun s=>withNat p fun p=>f (.iter s p)
 | .loop l=>withL l.tmps fun t=>f (.loop { l with tmps:=t })
 | .maps es=>f (.maps es)
 | .miter=>f .miter
 | .dead=>f .dead
def withH {β:Type}:Heap→(Heap→β)→β
 | [],f=>f []
 | o :: r,f=>withObj o fun o=>withH r fun r=>f (o :: r)
theorem withNat_eq {β:Type} (n:Nat) (f:Nat→β):withNat n f=f n:=by cases n <;> rfl
theorem withInt_eq {β:Type} (n:Int) (f:Int→β):withInt n f=f n:=by cases n <;> simp [withInt,withNat_eq]
theorem withBytes_eq {β:Type}:∀ (l:List UInt8) (f:List UInt8→β),withBytes l f=f l
 | [],_=>rfl
 | b :: r,f=>by simp [withBytes,withNat_eq,withBytes_eq r]
theorem withB_eq {β:Type} (b:Bool) (f:Bool→β):withB b f=f b:=by cases b <;> rfl
theorem withAddr_eq {β:Type} (a:Option (Nat × Nat)) (f:Option (Nat × Nat)→β):withAddr a f=f a:=by
 cases a <;> simp [withAddr,withNat_eq]
mutual
theorem withAV_eq {β:Type}:∀ (a:AV) (f:AV→β),withAV a f=f a
 | .bad,_=>rfl
 | .bool b,f=>by simp [withAV,withB_eq]
 | .int k n,f=>by simp [withAV,withInt_eq]
 | .rng k n lo hi,f=>by simp [withAV,withInt_eq]
 | .str s,f=>by simp [withAV,withBytes_eq]
 | .sint _ _,_=>rfl
 | .sbool _,_=>rfl
 | .sstr _,_=>rfl
 | .lstr ..,_=>by simp [withAV,withNat_eq]
 | .ptr a,f=>by simp [withAV,withAddr_eq]
 | .slice a n c,f=>by simp [withAV,withAddr_eq,withNat_eq]
 | .sslice ..,f=>by simp [withAV,withNat_eq]
 | .aslc ..,f=>by simp [withAV,withNat_eq]
 | .sptr ..,f=>by simp [withAV,withNat_eq]
 | .dptr ..,f=>by simp [withAV,withNat_eq]
 | .flist ..,_=>rfl
 | .fptr ..,f=>by simp [withAV,withNat_eq]
 | .map none,f=>rfl
 | .map (some r),f=>by simp [withAV,withNat_eq]
 | .func fn xs ys,f=>by simp [withAV,withL_eq xs,withL_eq ys]
 | .nilFunc,_=>rfl
 | .iface t v,f=>by simp [withAV,withAV_eq v]
 | .nilIface,_=>rfl
 | .agg xs,f=>by simp [withAV,withL_eq xs]
 | .tuple xs,f=>by simp [withAV,withL_eq xs]
theorem withL_eq {β:Type}:∀ (l:List AV) (f:List AV→β),withL l f=f l
 | [],_=>rfl
 | x :: xs,f=>by simp [withL,withAV_eq x,withL_eq xs]
end
theorem withObj_eq {β:Type} (o:AObj) (f:AObj→β):withObj o f=f o:=by
 cases o <;> simp [withObj,withL_eq,withNat_eq,withB_eq,withBytes_eq]
theorem withH_eq {β:Type}:∀ (l:Heap) (f:Heap→β),withH l f=f l
 | [],_=>rfl
 | o :: r,f=>by simp [withH,withObj_eq,withH_eq r]
inductive AEx where
 | normal
 | exit (id:Nat)
 | ret
abbrev XRes:=Option (AEx × List AV × Heap × List Nat)
inductive Tr (α:Type) where
 | leaf (a:α)
 | br (b:Bool) (t f:Tr α)
 | fail
def Tr.get {α:Type}:Tr α→Option α
 | .leaf a=>some a
 | .br b t f=>match b with
  | true=>t.get
  | false=>f.get
 | .fail=>none
def Tr.of {α:Type}:Option α→Tr α
 | some a=>.leaf a
 | none=>.fail
theorem Tr.get_of {α:Type} (o:Option α):(Tr.of o).get=o:=by cases o <;> rfl
abbrev Blk:=List AV→Heap→Tr (AEx × List AV × Heap × List Nat)
abbrev Bps:=Nat→Option Blk
def noBps:Bps:=fun _=>none
structure Rec where
 exec:Bps→Code→List AV→Heap→XRes
 call:FuncId→List AV→Heap→ARes
 /-- Functions that have no body: the machine knows them. -/
 ext:FuncId→Option (List AV→Option AV)
mutual
def below (n:Nat):AV→Bool
 | .ptr (some (b,_))=>b < n
 | .slice (some (b,_)) _ _=>b < n
 | .sslice b _ _=>b < n
 | .aslc b _ _=>b < n
 | .sptr b _ _=>b < n
 | .dptr b _=>b < n
 | .flist .. | .fptr ..=>decide (0 < n)
 | .map (some b)=>b < n
 | .func (.yield l) xs ys=>l < n && belowL n xs && belowL n ys
 | .func _ xs ys=>belowL n xs && belowL n ys
 | .iface _ v=>below n v
 | .agg xs=>belowL n xs
 | .tuple xs=>belowL n xs
 | _=>true
def belowL (n:Nat):List AV→Bool
 | []=>true
 | x :: xs=>below n x && belowL n xs
end
mutual
def belowQ (n:Nat):AV→Bool
 | .ptr (some (b,_))=>b < n
 | .slice (some (b,_)) _ _=>b < n
 | .sslice b _ k=>decide (k=0) || decide (b < n)
 | .aslc b _ _=>b < n
 | .sptr b _ _=>b < n
 | .dptr b k=>decide (k=0) || decide (b < n)
 | .map (some b)=>b < n
 | .func (.yield l) xs ys=>l < n && belowQL n xs && belowQL n ys
 | .func _ xs ys=>belowQL n xs && belowQL n ys
 | .iface _ v=>belowQ n v
 | .agg xs=>belowQL n xs
 | .tuple xs=>belowQL n xs
 | _=>true
def belowQL (n:Nat):List AV→Bool
 | []=>true
 | x :: xs=>belowQ n x && belowQL n xs
end
def objBelow (n:Nat):Option AObj→Bool
 | some (.cells c _ _ _)=>belowL n c
 | some (.iter _ _)=>true
 | some (.vec ..)=>true
 | some (.text ..)=>true
 | some (.arr ..)=>true
 | some .miter=>true
 | some .dead=>true
 | _=>false
def newBlk1 (n:Nat):AV→Option Nat
 | .slice (some (b,_)) _ _=>if n≤b then some b else none
 | .ptr (some (b,_))=>if n≤b then some b else none
 | _=>none
def newBlkL (n:Nat):List AV→Option Nat
 | []=>none
 | x :: xs=>match newBlk1 n x with
  | some b=>some b
  | none=>newBlkL n xs
def newBlk (n:Nat):AV→Option Nat
 | .tuple xs=>newBlkL n xs
 | v=>newBlk1 n v
def reloc1 (b n:Nat):AV→AV
 | .slice (some (b',o)) l c=>if b'=b then .slice (some (n,o)) l c else .slice (some (b',o)) l c
 | .ptr (some (b',o))=>if b'=b then .ptr (some (n,o)) else .ptr (some (b',o))
 | v=>v
def oldOr1 (b n:Nat):AV→Bool
 | .slice (some (b',_)) _ _=>b' < n || b' == b
 | .ptr (some (b',_))=>b' < n || b' == b
 | v=>below n v
def oldOr (b n:Nat):AV→Bool
 | .tuple xs=>xs.all (oldOr1 b n)
 | v=>oldOr1 b n v
def reloc (b n:Nat):AV→AV
 | .tuple xs=>.tuple (xs.map (reloc1 b n))
 | v=>reloc1 b n v
def gc (B:Heap) (v:AV) (B':Heap) (D:List Nat):AV × Heap × List Nat :=
 let n:=B.length
 let D':=D.filter (· < n)
 if below n v && D'.all (fun b=>objBelow n B'[b]?) then
  (v,if D'.isEmpty then B else B'.take n,D')
 else if D'.isEmpty then
  match newBlk n v with
  | some b =>
   match B'[b]? with
   | some (.cells c es rw ty) =>
    if oldOr b n v && belowL n c then (reloc b n v,B++[.cells c es rw ty],[]) else (v,B',D')
   | _=>(v,B',D')
  | none=>(v,B',D')
 else (v,B',D')
def aresults (P:Program) (B:Heap) (ρ:List AV):List ResultVar→Option (List AV)
 | []=>some []
 | .tmp t :: r=>(aresults P B ρ r).map (ρ.getD t aundef :: ·)
 | .cell a t :: r =>
  match aload P B t (ρ.getD a aundef),aresults P B ρ r with
  | some v,some l=>some (v :: l)
  | _,_=>none
def aresult:List AV→AV
 | [v]=>v
 | l=>.tuple l
def awant (ops:Array Oper) (ρ:List AV) (o:Oper):Option Bool :=
 match o.guard with
 | none=>some true
 | some (j,want) =>
  match (ops[j]?).bind (·.dst) with
  | none=>some false
  | some d =>
   match ρ[d]? with
   | some (.bool b)=>some (b == want)
   | some .bad=>none
   | some (.sbool b)=>some (b == want)
   | _=>some false
def aput (ρ:List AV) (d:Option Tmp) (v:AV):List AV :=
 match d with
 | some d=>ρ.set d v
 | none=>ρ
def ayield (r:Rec) (l:Nat) (args:List AV) (B:Heap):ARes :=
 match B[l]? with
 | some (.loop lo) =>
  if args.length=lo.params.size then
   match r.exec noBps lo.assign ((lo.params.toList.zip args).foldl (fun t (p,a)=>t.set p a) lo.tmps) B with
   | some (.normal,ρ1,B1,D1) =>
    match B1[l]? with
    | some (.loop lo1) =>
     if lo1.state=.ready then
      match r.exec noBps lo.body ρ1 (B1.set l (.loop { lo1 with state:=.busy })) with
      | some (e,_,B2,D2) =>
       match B2[l]? with
       | some (.loop lo2) =>
        match e with
        | .normal=>some (.bool true,B2.set l (.loop { lo2 with state:=.ready,pending:=none }),D1++[l]++D2++[l])
        | .ret=>some (.bool false,B2.set l (.loop { lo2 with state:=.done,pending:=some .ret }),D1++[l]++D2++[l])
        | .exit id=>some (.bool false,B2.set l (.loop { lo2 with state:=.done,pending:=some (.exit id) }),D1++[l]++D2++[l])
       | _=>none
      | none=>none
     else none
    | _=>none
   | _=>none
  else none
 | _=>none
def acallv (r:Rec) (f:AV) (args:List AV) (B:Heap):ARes :=
 match f with
 | .func (.func g) first captured=>r.call g (first++args++captured) B
 | .func (.yield l) first _=>ayield r l (first++args) B
 | _=>none
def extOf (ext:FuncId→Option (List AV→Option AV)):AV→Option (List AV→Option AV)
 | .func (.func g) [] []=>ext g
 | _=>none
def aone (P:Program) (r:Rec) (ρ:Operand→AV) (B:Heap) (op:Op):ARes :=
 match op with
 | .call { callee:=.value f,args,.. } =>
  match extOf r.ext (ρ f) with
  | some h=>only B (h (args.toList.map ρ))
  | none=>acallv r (ρ f) (args.toList.map ρ) B
 | op=>aop P ρ B op
def aops (P:Program) (r:Rec) (ops:Array Oper):List Oper→List AV→Heap→Option (List AV × Heap × List Nat)
 | [],ρ,B=>some (ρ,B,[])
 | o :: rest,ρ,B =>
  match awant ops ρ o with
  | some true =>
   match aone P r (aval P.globals.size ρ) B o.op with
   | some (v,B1,D1) =>
    withAV v fun v =>
    match aops P r ops rest (aput ρ o.dst v) B1 with
    | some (ρ2,B2,D2)=>some (ρ2,B2,D1++D2)
    | none=>none
   | none=>none
  | some false=>aops P r ops rest (aput ρ o.dst aundef) B
  | none=>none
def norm (ρ:List AV) (d:Tmp):List AV :=
 match ρ[d]? with
 | some (.sbool b)=>ρ.set d (.bool b)
 | _=>ρ
def guardTmp (ops:Array Oper) (o:Oper):Option Tmp :=
 match o.guard with
 | none=>none
 | some (j,_)=>(ops[j]?).bind (·.dst)
def pickTmp (o:Oper):Option Tmp :=
 match o.op with
 | .pick (.tmp d) _ _=>some d
 | _=>none
def normo (ρ:List AV) (d:Option Tmp):List AV :=
 match d with
 | some d=>norm ρ d
 | none=>ρ
def aopsN (P:Program) (r:Rec) (ops:Array Oper):List Oper→List AV→Heap→Option (List AV × Heap × List Nat)
 | [],ρ,B=>some (ρ,B,[])
 | o :: rest,ρ0,B =>
  let ρ:=normo (normo ρ0 (guardTmp ops o)) (pickTmp o)
  match awant ops ρ o with
  | some true =>
   match aone P r (aval P.globals.size ρ) B o.op with
   | some (v,B1,D1) =>
    withAV v fun v =>
    match aopsN P r ops rest (aput ρ o.dst v) B1 with
    | some (ρ2,B2,D2)=>some (ρ2,B2,D1++D2)
    | none=>none
   | none=>none
  | some false=>aopsN P r ops rest (aput ρ o.dst aundef) B
  | none=>none
def condTmp:Operand→Option Tmp
 | .tmp d=>some d
 | _=>none
def looks (ops:Array Oper) (o:Oper):List Tmp :=
 (o.op.operands.toList.filterMap fun | .tmp t=>some t | _=>none) ++
 (match o.guard with
  | some (j,_)=>((ops[j]?).bind (·.dst)).toList
  | none=>[])
def befores:List Oper→List (List Nat)→List (List Nat)
 | [],acc=>acc
 | o :: rest,acc =>
  befores rest (acc++[((o.after.toList.filter (Region.binds .any)).flatMap fun e=>e.on :: acc.getD e.on []).eraseDups])
def regOK (ops:Array Oper) (m:Nat):Bool :=
 let l:=ops.toList
 let bs:=befores l []
 let ix:=List.range l.length
 ix.all (fun i=>match l[i]? with
  | none=>false
  | some o =>
   (o.after.toList.all fun e=>!Region.binds .any e || e.on < i) &&
   (i < m || (List.range i).all fun j=>(bs.getD i []).contains j) &&
   (i ≥ m || ix.all fun j=>match l[j]? with
    | none=>false
    | some q=>j ≥ m || i == j || ((match q.dst with
     | none=>true
     | some t=>(o.dst != some t) && (!(looks ops o).contains t || (j < i && (bs.getD i []).contains j) || (i < j && (bs.getD j []).contains i))))))
def aregion (P:Program) (r:Rec) (ops:Array Oper) (m:Nat) (ρ:List AV) (B:Heap):Option (List AV × Heap × List Nat) :=
 if regOK ops m then
  match aops P r ops (ops.toList.take m) ρ B with
  | some (ρ1,B1,[])=>aopsN P r ops (ops.toList.drop m) ρ1 B1
  | _=>none
 else none
def isWrite:Op→Bool
 | .store .. | .assign .. | .mapUpdate .. | .insert ..=>true
 | .call { callee:=.builtin .copy,.. }=>true
 | .call { callee:=.builtin .clear,.. }=>true
 | .call { callee:=.builtin .unsafeString,.. }=>true
 | _=>false
def quietLen (ops:Array Oper):Nat:=(ops.toList.takeWhile fun o=>!isWrite o.op).length
def isAssign:Op→Bool
 | .assign ..=>true
 | _=>false
def isDyn:Op→Bool
 | .call { callee:=.value (.tmp _),.. }=>true
 | _=>false
def dynLen (ops:Array Oper):Nat:=(ops.toList.takeWhile fun o=>!isWrite o.op && !isDyn o.op).length
def isCallV:Op→Bool
 | .call { callee:=.value (.func _),.. }=>true
 | _=>false
def cutGo (ops:Array Oper) (bs:List (List Nat)) (m0:Nat):Nat→Nat
 | 0=>m0
 | m+1=>match ops[m]? with
  | some o=>if o.guard.isNone && (List.range m).all fun j=>(bs.getD m []).contains j then (if isCallV o.op then m else cutGo ops bs m0 m) else m0
  | none=>m0
def drawLen0 (ops:Array Oper):Nat :=
 if ops.toList.any (fun o=>isDyn o.op) && regOK ops (dynLen ops) then dynLen ops
 else
  let m:=(ops.toList.takeWhile fun o=>!isWrite o.op || isAssign o.op).length
  if regOK ops m then m else quietLen ops
def drawLen (ops:Array Oper):Nat:=cutGo ops (befores ops.toList []) (drawLen0 ops) (drawLen0 ops)
def astart (r:Rec) (f:AV) (ρ:List AV) (ps:Array Tmp) (as body:Code) (B:Heap):ARes :=
 match f with
 | .func (.func g) first captured =>
  r.call g (first++[AV.func (.yield B.length) [] []]++captured) (B++[AObj.loop { state:=.ready,pending:=none,tmps:=ρ,params:=ps,assign:=as,body }])
 | _=>none
def after1 (D:List Nat):XRes→XRes
 | some (e,ρ,B,D')=>some (e,ρ,B,D++D')
 | none=>none
def reg2OK (ops:Array Oper) (m:Nat):Bool :=
 let l:=ops.toList
 let bs:=befores l []
 let ix:=List.range l.length
 ix.all (fun i=>match l[i]? with
  | none=>false
  | some o =>
   (o.after.toList.all fun e=>!Region.binds .any e || e.on < i) &&
   (i < m || (List.range' m (i - m)).all fun j=>(bs.getD i []).contains j) &&
   ix.all fun j=>match l[j]? with
    | none=>false
    | some q=>match q.dst with
     | none=>true
     | some t=>(i == j || ((o.dst != some t) && (!(looks ops o).contains t || (j < i && (bs.getD i []).contains j) || (i < j && (bs.getD j []).contains i)))) &&
      (m≤i || (bs.getD m []).contains i || !(looks ops o).contains t || j < i))
def lates (ops:Array Oper) (m:Nat):List Nat :=
 let bs:=befores ops.toList []
 (List.range m).filter fun p=>!(bs.getD m []).contains p
def heapFree:Op→Bool
 | .move _ | .extract .. | .fieldAddr .. | .field .. | .nilCheck _ | .index .. | .binOp .. | .unOp .. | .build .. | .makeInterface ..=>true
 | _=>false
def lateOK (G:Nat) (ρ:List AV) (D:List Nat):Op→Bool
 | .load _ a=>match aval G ρ a with
  | .ptr (some (b,_))=>!D.contains b
  | _=>false
 | .indexAddr _ x _=>match aval G ρ x with
  | .slice ..=>true
  | _=>false
 | .call { callee:=.builtin .len,args,argTypes:=_ }=>match args.toList.map (aval G ρ) with
  | [.slice ..]=>true
  | [.str _]=>true
  | [.sslice ..]=>true
  | _=>false
 | op=>heapFree op
def lateAll (ops:Array Oper) (G:Nat) (ρ:List AV) (D:List Nat) (m:Nat):Bool :=
 (lates ops m).all fun p=>match ops[p]? with
  | some o=>lateOK G ρ D o.op
  | none=>true
def aregion2 (P:Program) (r:Rec) (ops:Array Oper) (m:Nat) (ρ:List AV) (B:Heap):Option (List AV × Heap × List Nat) :=
 if reg2OK ops m then
  match aops P r ops (ops.toList.take m) ρ B with
  | some (ρ1,B1,[]) =>
   match aops P r ops (ops.toList.drop m) ρ1 B1 with
   | some (ρ2,B2,D2)=>if decide (m≤ops.size) && lateAll ops P.globals.size ρ1 D2 m then some (ρ2,B2,D2) else none
   | none=>none
  | _=>none
 else none
def isApp:Op→Bool
 | .call { callee:=.builtin .append,.. }=>true
 | _=>false
def renQ (ord:List Nat) (o:Oper):Oper:={ o with after:=o.after.map fun e=>{ e with on:=ord.idxOf e.on },guard:=o.guard.map fun g=>(ord.idxOf g.1,g.2) }
def renQs (ops:Array Oper) (ord:List Nat):Array Oper:=(ord.map fun i=>renQ ord (ops[i]?.getD default)).toArray
def ndup:List Nat→Bool
 | []=>true
 | k :: ks=>!ks.contains k && ndup ks
def permOK (ops:Array Oper) (ord:List Nat):Bool :=
 decide (ord.length=ops.size) && (ndup ord && (ord.all (fun i=>decide (i < ops.size)) && ops.toList.all fun o=>o.after.toList.all (fun e=>decide (e.on < ops.size)) && (match o.guard with | some (j,_)=>decide (j < ops.size) | none=>true)))
def moveUp:List Oper→Nat→List Nat→List Nat→List Nat × List Nat
 | [],_,done,rest=>(done,rest)
 | o :: r,i,done,rest =>
  if heapFree o.op && o.guard.isNone && (o.after.toList.all fun e=>!Region.binds .any e || done.contains e.on) then moveUp r (i+1) (done++[i]) rest else moveUp r (i+1) done (rest++[i])
def permSel (ops:Array Oper):Option (List Nat × Nat) :=
 if ops.toList.any (fun o=>isApp o.op) then
  let m:=(ops.toList.takeWhile fun o=>!isWrite o.op && !isApp o.op).length
  let p:=moveUp (ops.toList.drop m) m (List.range m) []
  if permOK ops (p.1++p.2) && reg2OK (renQs ops (p.1++p.2)) p.1.length then some (p.1++p.2,p.1.length) else none
 else none
def adraw0 (P:Program) (r:Rec) (ops:Array Oper) (ρ:List AV) (B:Heap):Option (List AV × Heap × List Nat) :=
 if regOK ops (drawLen ops) then aregion P r ops (drawLen ops) ρ B else aregion2 P r ops (quietLen ops) ρ B
def adraw (P:Program) (r:Rec) (ops:Array Oper) (ρ:List AV) (B:Heap):Option (List AV × Heap × List Nat) :=
 match permSel ops with
 | some p=>aregion2 P r (renQs ops p.1) p.2 ρ B
 | none=>adraw0 P r ops ρ B
def execC (P:Program) (r:Rec) (bp:Bps):Code→List AV→Heap→XRes
 | .skip,ρ,B=>some (.normal,ρ,B,[])
 | .label _,ρ,B=>some (.normal,ρ,B,[])
 | .exit id,ρ,B=>some (.exit id,ρ,B,[])
 | .ret,ρ,B=>some (.ret,ρ,B,[])
 | .region _ ops false,ρ,B=>(aopsN P r ops ops.toList ρ B).map fun (ρ,B,D)=>(.normal,ρ,B,D)
 | .region _ ops true,ρ,B=>(adraw P r ops ρ B).map fun (ρ,B,D)=>(.normal,ρ,B,D)
 | .seq a b,ρ,B =>
  match execC P r bp a ρ B with
  | some (.normal,ρ1,B1,D1)=>after1 D1 (execC P r bp b ρ1 B1)
  | x=>x
 | .cond c a b,ρ0,B =>
  let ρ:=normo ρ0 (condTmp c)
  match aval P.globals.size ρ c with
  | .bool true=>execC P r bp a ρ B
  | .bool false=>execC P r bp b ρ B
  | _=>none
 | .block id c,ρ,B =>
  match bp id with
  | some g=>(g ρ B).get
  | none =>
   match execC P r bp c ρ B with
   | some (.exit id',ρ1,B1,D1)=>some (if id'=id then .normal else .exit id',ρ1,B1,D1)
   | x=>x
 | .loop c,ρ,B =>
  match execC P r bp c ρ B with
  | some (.normal,ρ1,B1,D1)=>withL ρ1 fun ρ1=>withH B1 fun B1=>after1 D1 (r.exec bp (.loop c) ρ1 B1)
  | x=>x
 | .scope c,ρ,B=>execC P r bp c ρ B
 | .rangeFunc f ps as body,ρ,B =>
  match astart r (aval P.globals.size ρ f) ρ ps as body B with
  | some (_,B1,D1) =>
   match B1[B.length]? with
   | some (.loop lo) =>
    if lo.state=.busy then none else
    match lo.pending with
    | none=>some (.normal,ρ,B1.set B.length (.loop { lo with state:=.exhausted }),D1++[B.length])
    | some .ret=>some (.ret,ρ,B1.set B.length (.loop { lo with state:=.exhausted }),D1++[B.length])
    | some (.exit id)=>some (.exit id,ρ,B1.set B.length (.loop { lo with state:=.exhausted }),D1++[B.length])
    | _=>none
   | _=>none
  | none=>none
 | _,_,_=>none
structure Prims where
 fn:FuncId→Option (List AV→Heap→Tr (AV × Heap × List Nat))
 ext:FuncId→Option (List AV→Option AV)
 blk:FuncId→Bps
def callF (P:Program) (prims:Prims) (r:Rec) (f:FuncId) (args:List AV) (B:Heap):ARes :=
 match prims.fn f with
 | some g=>(g args B).get
 | none =>
  match P.funcs[f]? with
  | none=>none
  | some fn =>
   match fn.body with
   | none=>none
   | some c =>
    withL args fun args=>withH B fun B =>
    match execC P r (prims.blk f) c (args++List.replicate (fn.ntmps - args.length) aundef) B with
    | some (.exit _,_,_,_)=>none
    | some (_,ρ,B',D) =>
     match aresults P B' ρ fn.results.toList with
     | some l=>some (gc B (aresult l) B' D)
     | none=>none
    | none=>none
def run (P:Program) (prims:Prims):Nat→Rec
 | 0=>{ exec:=fun _ _ _ _=>none,call:=fun _ _ _=>none,ext:=prims.ext }
 | n+1=>{ exec:=fun bp=>execC P (run P prims n) bp,call:=callF P prims (run P prims n),ext:=prims.ext }
end Go.Ad
