/- The abstract evaluator: a deterministic big-step evaluator of the model's code over abstract values and an abstract heap. Definitions only; its soundness is proved in the texts behind this one. -/
import Derived.Orders
import Derived.Laws.Sem
namespace Go.Ad
theorem dT {p : Prop} [Decidable p] (h : p) : decide p = true := decide_eq_true h
theorem dF {p : Prop} [Decidable p] (h : ¬ p) : decide p = false := decide_eq_false h
theorem sI.{u} {α : Type u} (a b : α) : (some a = some b) = (a = b) := Option.some.injEq a b
theorem pI.{u, v} {α : Type u} {β : Type v} (a : α) (b : β) (c : α) (d : β) : ((a, b) = (c, d)) = (a = c ∧ b = d) := Prod.mk.injEq a b c d
theorem gD.{u}{α:Type u}{l:List α}{i:Nat}{a:α}:List.getD l i a=Option.getD l[i]? a:=List.getD_eq_getElem?_getD
theorem gE.{u}{α:Type u}{l:List α}{i:Nat}(h:i<List.length l):l[i]?=some l[i]:=List.getElem?_eq_getElem h
theorem bA(a b:Bool):((a&&b)=true)=(a=true∧b=true):=Bool.and_eq_true a b
theorem lR(n:Nat):n≤n:=Nat.le_refl n
theorem gS.{u}{α:Type u}{i:Nat}{a:α}{l:List α}:l[i]?=some a↔∃h,l[i]=a:=List.getElem?_eq_some_iff
theorem gA.{u}{α:Type u}{i:Nat}{b:α}{xs:Array α}:xs[i]?=some b↔∃h,xs[i]=b:=Array.getElem?_eq_some_iff
theorem oM.{u,v}{α:Type u}{b:α}{β:Type v}{x:Option β}{f:β→α}:Option.map f x=some b↔∃a,x=some a∧f a=b:=Option.map_eq_some_iff
theorem rK{α β:Type}(a:α)(w:World)(f:α→World→Result β):(Result.ok a w).andThen f=f a w:=Result.andThen_ok a w f
theorem tN(n:Nat):Int.toNat (n:Int)=n:=Int.toNat_natCast n
theorem gL.{u}{α:Type u}{l₁ l₂:List α}{i:Nat}(h:i<l₁.length):(l₁++l₂)[i]?=l₁[i]?:=List.getElem?_append_left h
theorem gR.{u}{α:Type u}{l₁ l₂:List α}{i:Nat}(h:l₁.length≤i):(l₁++l₂)[i]?=l₂[i-l₁.length]?:=List.getElem?_append_right h
theorem aE.{u}{α:Type u}{xs:Array α}{i:Nat}(h:i<xs.size):xs[i]?=some xs[i]:=Array.getElem?_eq_getElem h
theorem gX.{u}{α:Type u}{l:List α}{i j:Nat}(h:i≠j){a:α}:(l.set i a)[j]?=l[j]?:=List.getElem?_set_ne h
theorem gO.{u}{α:Type u}{l:List α}{i:Nat}(h:l.length≤i):l[i]?=none:=List.getElem?_eq_none h
theorem dP.{u}{α:Type u}{xs:List α}{i j:Nat}:(xs.drop i)[j]?=xs[i+j]?:=List.getElem?_drop
theorem tK.{u}{α:Type u}{l:List α}{i j:Nat}:(l.take i)[j]?=if j<i then l[j]? else none:=List.getElem?_take
theorem oS.{u,v}{α:Type u}{β:Type v}(a:α)(f:α→β):Option.map f (some a)=some (f a):=Option.map_some a f
theorem dQ{p:Prop}[Decidable p]:(decide p=true)=p:=decide_eq_true_eq
theorem lA.{u}{α:Type u}{as bs:List α}:(as++bs).length=as.length+bs.length:=List.length_append
inductive FV where
 | int (k:IntKind) (n:Int)
 | bool (b:Bool)
 | str (s:List UInt8)
 | list (n:Nat) (row:Nat->List FV) (es:Nat)
 deriving Inhabited
inductive AV where
 | bad
 | bool (b:Bool)
 | int (k:IntKind) (n:Int)
 /-- A number of which only the least and the greatest value are known. -/
 | rng (k:IntKind) (n lo hi:Int)
 /-- A number,a truth value,a text of which nothing is known to the evaluator: the kernel never looks at them. -/
 | sint (k:IntKind) (n:Int)
 | sbool (b:Bool)
 | sstr (s:List UInt8)
 /-- A text of which the length has known ends. -/
 | lstr (s:List UInt8) (lo hi:Nat)
 | str (s:List UInt8)
 | ptr (a:Option (Nat×Nat))
 | slice (a:Option (Nat×Nat)) (len cap:Nat)
 /-- A list of `n` rows of a block whose rows are known by their number alone,from row `s` on. -/
 | sslice (b s n:Nat)
 /-- Such a list that is there,though it may have no rows: a stretch of an array,or what `make` gives. -/
 | aslc (b s n:Nat)
 /-- The address of cell `j` of row `i`. -/
 | sptr (b i j:Nat)
 /-- The address of the first cell of a list of `n` rows; nil if there is none. -/
 | dptr (b n:Nat)
 /-- A list that never changes; nil if it has no rows. -/
 | flist (n:Nat) (row:Nat->List FV) (es:Nat)
 /-- The address of cell `j` of a row that never changes. -/
 | fptr (cs:List FV) (j:Nat)
 | map (r:Option Nat)
 | func (fn:Fn) (first captured:List AV)
 | nilFunc
 | iface (t:TypeId) (v:AV)
 | nilIface
 | agg (cells:List AV)
 | tuple (vs:List AV)
 deriving Inhabited
def H7:AV:=.tuple []
def FV.av:FV->AV
 | .int k n=>.sint k n
 | .bool b=>.sbool b
 | .str s=>.sstr s
 | .list n row es=>.flist n row es
def AV.fv:AV->FV
 | .int k n=>.int k n
 | .rng k n _ _=>.int k n
 | .sint k n=>.int k n
 | .bool b=>.bool b
 | .sbool b=>.bool b
 | .str s=>.str s
 | .sstr s=>.str s
 | .lstr s _ _=>.str s
 | .flist n row es=>.list n row es
 | _=>.int .i64 0
def AV.fvB:AV->Bool
 | .int .. | .rng .. | .sint .. | .bool _ | .sbool _ | .str _ | .sstr _ | .lstr .. | .flist ..=>true
 | _=>false
structure ALoop where
 state:LoopState
 pending:Option Code
 tmps:List AV
 params:Array Tmp
 assign:Code
 body:Code
inductive AObj where
 | cells (c:List AV) (es:Nat) (rw:Bool) (ty:TypeId)
 /-- `n` rows of `es` cells that hold numbers,texts and truth values. -/
 | vec (n:Nat) (row:Nat->List AV) (es:Nat) (ty:TypeId)
 /-- `n` such rows,and behind them cells that are known. -/
 | tail (n:Nat) (row:Nat->List AV) (es:Nat) (tl:List AV) (ty:TypeId)
 /-- The bytes of a text. -/
 | text (s:List UInt8) (ty:TypeId)
 /-- Known cells,and `m` numbers behind them that are known by their place alone. -/
 | arr (pre:List AV) (k:IntKind) (m:Nat) (f:Nat->Int) (ty:TypeId)
 | iter (s:List UInt8) (pos:Nat)
 | loop (l:ALoop)
 | maps (es:List (AV×AV))
 /-- A map from texts to truth values,all of which are true: the list of its keys is not looked at. -/
 | smap (l:List (List UInt8))
 /-- An iterator over a map: what it has handed out is not known here. -/
 | miter
 | dead
abbrev Heap:=List AObj
def A7g:Value->AV
 | .bool b=>.bool b
 | .int k n=>.int k n
 | .string s=>.str s.data.toList
 | .pointer none=>.ptr none
 | .slice none 0 0=>.slice none 0 0
 | .map none=>.map none
 | .func (.func f) a b=>if a.size=0/\b.size=0 then .func (.func f) [] [] else .bad
 | .nilFunc=>.nilFunc
 | .nilIface=>.nilIface
 | _=>.bad
def F3h:Value->AV
 | .agg cs=>.agg (cs.toList.map A7g)
 | .tuple cs=>.tuple (cs.toList.map A7g)
 | .iface t v=>.iface t (A7g v)
 | v=>A7g v
def gN(P:Program):Nat:=min P.globals.size 8
theorem G6o(P:Program):(gN P)<=P.globals.size:=Nat.min_le_left ..
def M0(G:Nat)(U:List AV):Operand->AV
 | .tmp t=>U.getD t H7
 | .const v=>F3h v
 | .global g=>if g<G then .ptr (some (g,0)) else .bad
 | .func f=>.func (.func f) [] []
def D1q:TypeDesc->Bool
 | .struct _ | .array _ _=>true
 | _=>false
def one:AV->Bool
 | .agg _ | .tuple _ | .bad=>false
 | _=>true
def B8q:AV->Bool
 | .bad=>true
 | _=>false
def A0v:AV->List AV
 | .agg cs=>cs
 | v=>[v]
def A1q{α:Type}:List α->Nat->List α->List α
 | c,_,[]=>c
 | c,o,v::vs=>A1q (c.set o v) (o+1) vs
def ld1(B:Heap)(b o:Nat):Option AV :=
 match B[b]? with
 | some (.cells c _ _ _)=>c[o]?
 | _=>none
def ldN(B:Heap)(b o n:Nat):Option (List AV) :=
 match B[b]? with
 | some (.cells c _ _ _)=>if o+n<=c.length then some ((c.drop o).take n) else none
 | _=>none
def st(B:Heap)(b o:Nat)(vs:List AV):Option Heap :=
 match B[b]? with
 | some (.cells c es true ty)=>if o+vs.length<=c.length/\vs.all one=true then some (B.set b (.cells (A1q c o vs) es true ty)) else none
 | _=>none
abbrev A2y:=Option (AV×Heap×List Nat)
def only(B:Heap)(v:Option AV):A2y:=v.map fun v=>(v,B,[])
def zeroCells?(P:Program)(t:TypeId):Option (List AV):=(P.info? t).bind fun i=>i.zero.map fun v=>v.cells.toList.map A7g
def size?(P:Program)(t:TypeId):Option Nat:=(P.info? t).map (·.size)
def A2m(P:Program)(B:Heap)(t:TypeId):AV->Option AV
 | .ptr (some (b,o)) =>
  match P.underlying t with
  | none=>none
  | some d=>if D1q d then(size? P t).bind fun n=>(ldN B b o n).map .agg else ld1 B b o
 | _=>none
def A7n(P:Program)(B:Heap)(t:TypeId)(p v:AV):A2y :=
 match p with
 | .ptr (some (b,o)) =>
  match size? P t with
  | some n=>if(A0v v).length=n then(st B b o (A0v v)).map fun B'=>(H7,B',[b]) else none
  | none=>none
 | _=>none
def apart(P:Program)(t:TypeId)(cs:List AV)(off:Nat):Option AV :=
 match P.underlying t with
 | none=>none
 | some d=>if D1q d then(size? P t).map fun n=>.agg ((cs.drop off).take n) else cs[off]?
def A9m(place:Nat->Option (Nat×Nat))(cells:List AV):List (Nat×AV)->Option (List AV)
 | []=>some cells
 | (i,v)::rest =>
  match place i with
  | none=>none
  | some (off,size) =>
   if B8q v then none
   else if(A0v v).length≠size \/ off+size>cells.length then none
   else A9m place (A1q cells off (A0v v)) rest
def placesOf(P:Program):List Field->Option (List (Nat×Nat))
 | []=>some []
 | f::fs=>match size? P f.type,placesOf P fs with
  | some n,some r=>some ((f.offset,n)::r)
  | _,_=>none
def D4i(P:Program)(t:TypeId)(parts:List (Nat×AV)):Option AV :=
 match P.underlying t,zeroCells? P t with
 | some (.struct fs),some z =>
  match placesOf P fs.toList with
  | some ps=>(A9m (fun i=>ps[i]?) z parts).map .agg
  | none=>none
 | some (.array _ e),some z =>
  match size? P e with
  | some n=>(A9m (fun i=>some (i*n,n)) z parts).map .agg
  | none=>none
 | _,_=>none
def zeros(z:List AV)(n:Nat):List AV :=
 match z with
 | [v]=>List.replicate n v
 | _=>(List.range (n*z.length)).map fun i=>z.getD (i%z.length) .bad
def A1v(P:Program)(B:Heap)(t:TypeId)(len:Nat)(parts:List (Nat×AV)):A2y :=
 match P.underlying t with
 | some (.slice e) =>
  match size? P e,zeroCells? P e with
  | some n,some z =>
   if z.length=n/\len*n<=2^24/\0<n then
    match A9m (fun i=>some (i*n,n)) (zeros z len) parts with
    | some cs=>some (.slice (some (B.length,0)) len len,B++[.cells cs n true e],[])
    | none=>none
   else none
  | _,_=>none
 | _=>none
def A9w(op:BinOp)(k:IntKind)(a b:Int):Option AV :=
 match op with
 | .add=>some (.int k (k.wrap (a+b)))
 | .sub=>some (.int k (k.wrap (a-b)))
 | .mul=>some (.int k (k.wrap (a*b)))
 | .quo=>if b=0 then none else some (.int k (k.wrap (a.tdiv b)))
 | .rem=>if b=0 then none else some (.int k (a.tmod b))
 | .and=>some (.int k (k.wrap ((BitVec.ofInt k.bits a &&& BitVec.ofInt k.bits b).toNat)))
 | .or=>some (.int k (k.wrap ((BitVec.ofInt k.bits a ||| BitVec.ofInt k.bits b).toNat)))
 | .xor=>some (.int k (k.wrap ((BitVec.ofInt k.bits a ^^^ BitVec.ofInt k.bits b).toNat)))
 | .andNot=>some (.int k (k.wrap ((BitVec.ofInt k.bits a &&& ~~~ BitVec.ofInt k.bits b).toNat)))
 | .eql=>some (.bool (a==b))
 | .neq=>some (.bool (a != b))
 | .lss=>some (.bool (decide (a<b)))
 | .leq=>some (.bool (decide (a<=b)))
 | .gtr=>some (.bool (decide (a>b)))
 | .geq=>some (.bool (decide (a >= b)))
 | _=>none
def D7o(al ah bl bh:Int):Option Bool :=
 if ah<bl \/ bh<al then some false
 else if al=ah/\bl=bh/\al=bl then some true
 else none
def E3t(al ah bl bh:Int):Option Bool :=
 if ah<bl then some true else if bh<=al then some false else none
def E0j(al ah bl bh:Int):Int:=min (min (al*bl) (al*bh)) (min (ah*bl) (ah*bh))
def E0i(al ah bl bh:Int):Int:=max (max (al*bl) (al*bh)) (max (ah*bl) (ah*bh))
def E4q(op:BinOp)(k:IntKind)(a al ah b bl bh:Int):Option AV :=
 match op with
 | .add=>if k.min<=al+bl/\ah+bh<=k.max then some (.rng k (a+b) (al+bl) (ah+bh)) else none
 | .sub=>if k.min<=al-bh/\ah-bl<=k.max then some (.rng k (a-b) (al-bh) (ah-bl)) else none
 | .mul=>if k.min<=E0j al ah bl bh/\E0i al ah bl bh<=k.max then some (.rng k (a*b) (E0j al ah bl bh) (E0i al ah bl bh)) else none
 | .quo=>if 0<=al/\bl=bh/\0<bl/\k.min<=0/\ah<=k.max then some (.rng k (a.tdiv b) (al.tdiv bl) (ah.tdiv bl)) else none
 | .rem=>if 0<=al/\bl=bh/\0<bl then some (.rng k (a.tmod b) 0 (bl-1)) else none
 | .eql=>(D7o al ah bl bh).map .bool
 | .neq=>(D7o al ah bl bh).map fun r=>.bool (!r)
 | .lss=>(E3t al ah bl bh).map .bool
 | .gtr=>(E3t bl bh al ah).map .bool
 | .leq=>(E3t bl bh al ah).map fun r=>.bool (!r)
 | .geq=>(E3t al ah bl bh).map fun r=>.bool (!r)
 | _=>none
def Q9:AV->Option (IntKind×Int)
 | .int k n=>some (k,n)
 | .sint k n=>some (k,n)
 | .rng k n _ _=>some (k,n)
 | _=>none
def sstr?:AV->Option (List UInt8)
 | .str s=>some s
 | .sstr s=>some s
 | .lstr s _ _=>some s
 | _=>none
def sbool?:AV->Option Bool
 | .bool b=>some b
 | .sbool b=>some b
 | _=>none
def C0g(op:BinOp)(k:IntKind)(a b:Int):Option AV :=
 match op with
 | .add=>some (.sint k (k.wrap (a+b)))
 | .sub=>some (.sint k (k.wrap (a-b)))
 | .mul=>some (.sint k (k.wrap (a*b)))
 | .and=>some (.sint k (k.wrap ((BitVec.ofInt k.bits a &&& BitVec.ofInt k.bits b).toNat)))
 | .or=>some (.sint k (k.wrap ((BitVec.ofInt k.bits a ||| BitVec.ofInt k.bits b).toNat)))
 | .xor=>some (.sint k (k.wrap ((BitVec.ofInt k.bits a ^^^ BitVec.ofInt k.bits b).toNat)))
 | .andNot=>some (.sint k (k.wrap ((BitVec.ofInt k.bits a &&& ~~~ BitVec.ofInt k.bits b).toNat)))
 | .eql=>some (.sbool (a==b))
 | .neq=>some (.sbool (a != b))
 | .lss=>some (.sbool (decide (a<b)))
 | .leq=>some (.sbool (decide (a<=b)))
 | .gtr=>some (.sbool (decide (a>b)))
 | .geq=>some (.sbool (decide (a >= b)))
 | _=>none
def F7w(op:BinOp)(k:IntKind)(a b:Int):Option AV :=
 if b=0 then none else
 match op with
 | .quo=>some (.sint k (k.wrap (a.tdiv b)))
 | .rem=>some (.sint k (a.tmod b))
 | _=>none
def F1t(op:BinOp)(a b:List UInt8):Option AV :=
 match op with
 | .eql=>some (.sbool (a==b))
 | .neq=>some (.sbool (!(a==b)))
 | .lss=>some (.sbool (Op.bytesLess a b))
 | .leq=>some (.sbool (Op.bytesLess a b||a==b))
 | .gtr=>some (.sbool (!(Op.bytesLess a b||a==b)))
 | .geq=>some (.sbool (!(Op.bytesLess a b)))
 | _=>none
def C4r(op:BinOp)(k:IntKind)(a b:Int):Option AV :=
 if b<0 then none else
 match op with
 | .shl=>some (.int k (k.wrap (a*2^(min b.toNat k.bits))))
 | .shr=>some (.int k (a.fdiv (2^(min b.toNat k.bits))))
 | _=>none
def E4r(op:BinOp)(a b:List UInt8):Option AV :=
 match op with
 | .add=>if a.length+b.length<2^62 then some (.str (a++b)) else none
 | .eql=>some (.bool (a==b))
 | .neq=>some (.bool (!(a==b)))
 | .lss=>some (.bool (Op.bytesLess a b))
 | .leq=>some (.bool (Op.bytesLess a b||a==b))
 | .gtr=>some (.bool (!(Op.bytesLess a b||a==b)))
 | .geq=>some (.bool (!(Op.bytesLess a b)))
 | _=>none
def E1z(d:TypeDesc)(x y:AV):Option Bool :=
 match d,x,y with
 | .bool,.bool a,.bool b=>some (a==b)
 | .int _,.int k a,.int k' b=>if k=k' then some (a==b) else none
 | .int _,.rng k _ al ah,.int k' b=>if k=k' then D7o al ah b b else none
 | .int _,.int k a,.rng k' _ bl bh=>if k=k' then D7o a a bl bh else none
 | .int _,.rng k _ al ah,.rng k' _ bl bh=>if k=k' then D7o al ah bl bh else none
 | .string,.str a,.str b=>some (a==b)
 | .pointer _,.ptr none,.ptr b=>some b.isNone
 | .pointer _,.ptr (some _),.ptr none=>some false
 | .slice _,.slice none _ _,.slice b _ _=>some b.isNone
 | .slice _,.slice (some _) _ _,.slice none _ _=>some false
 | .map _ _,.map none,.map b=>some b.isNone
 | .map _ _,.map (some _),.map none=>some false
 | .func _ _ _,.nilFunc,.nilFunc=>some true
 | .func _ _ _,.nilFunc,.func _ _ _=>some false
 | .func _ _ _,.func _ _ _,.nilFunc=>some false
 | .interface _,.nilIface,.iface _ _=>some false
 | .interface _,.iface _ _,.nilIface=>some false
 | _,_,_=>none
def F1l(d:TypeDesc)(x y:AV):Option Bool :=
 match E1z d x y with
 | some r=>some r
 | none =>
  match d with
  | .bool=>match sbool? x,sbool? y with
   | some a,some b=>some (a==b)
   | _,_=>none
  | .int _=>match Q9 x,Q9 y with
   | some (k,a),some (k',b)=>if k=k' then some (a==b) else none
   | _,_=>none
  | .string=>match sstr? x,sstr? y with
   | some a,some b=>some (a==b)
   | _,_=>none
  | _=>none
def A2w(P:Program)(rec:TypeId->AV->AV->Option Bool)(xs ys:List AV):List Field->Option Bool
 | []=>some true
 | f::fs =>
  if f.name="_" then A2w P rec xs ys fs else
  match apart P f.type xs f.offset,apart P f.type ys f.offset with
  | some x,some y =>
   match rec f.type x y,A2w P rec xs ys fs with
   | some a,some b=>some (a&&b)
   | _,_=>none
  | _,_=>none
def seq(P:Program):Nat->TypeId->AV->AV->Option Bool
 | 0,_,_,_=>none
 | d+1,t,x,y =>
  match P.underlying t,x,y with
  | some (.struct fs),.agg xs,.agg ys=>if P.stoodInHeld t then none else A2w P (seq P d) xs ys fs.toList
  | some ds,x,y=>F1l ds x y
  | none,_,_=>none
def A6t(P:Program)(t:TypeId)(x y:AV):Option Bool :=
 match x,y with
 | .nilIface,.nilIface=>none
 | .agg _,.agg _=>if P.eqGuardType P.depth t then none else seq P 20 t x y
 | _,_=>seq P 20 t x y
def A2t(P:Program)(rec:TypeId->AV->AV->Option Bool)(xs ys:List AV):List Field->Option Bool
 | []=>some true
 | f::fs =>
  if f.name="_" then A2t P rec xs ys fs else
  match apart P f.type xs f.offset,apart P f.type ys f.offset with
  | some x,some y =>
   match rec f.type x y with
   | some true=>A2t P rec xs ys fs
   | some false=>some false
   | none=>none
  | _,_=>none
def aeq(P:Program):Nat->TypeId->AV->AV->Option Bool
 | 0,_,_,_=>none
 | d+1,t,x,y =>
  match P.underlying t,x,y with
  | some (.struct fs),.agg xs,.agg ys=>if P.stoodInHeld t then none else A2t P (aeq P d) xs ys fs.toList
  | some (.pointer e),.ptr (some (b,o)),.ptr (some (b',o')) =>
   if b=b' then
    match size? P e with
    | some (_+1)=>some (o==o')
    | _=>none
   else none
  | some ds,x,y=>E1z ds x y
  | none,_,_=>none
def isConst:Operand->Bool
 | .const _=>true
 | _=>false
def A5s(P:Program)(t:TypeId)(cx cy:Bool)(x y:AV):Option Bool :=
 match x,y with
 | .nilIface,.nilIface=>if cx||cy then(match P.underlying t with | some (.interface _)=>some true | _=>none) else none
 | .agg _,.agg _=>if P.eqGuardType P.depth t then none else aeq P 20 t x y
 | _,_=>aeq P 20 t x y
def F3g(P:Program)(op:BinOp)(t:TypeId)(cx cy:Bool)(x y:AV):Option AV :=
 match x,y with
 | .int k a,.int k' b =>
  match op with
  | .shl | .shr=>C4r op k a b
  | _=>if k=k' then A9w op k a b else none
 | .str a,.str b=>E4r op a b
 | .rng k a al ah,.int k' b=>if k=k' then(match E4q op k a al ah b b b with
  | some v=>some v
  | none=>match C0g op k a b with
   | some v=>some v
   | none=>F7w op k a b) else none
 | .int k a,.rng k' b bl bh=>if k=k' then(match E4q op k a a a b bl bh with
  | some v=>some v
  | none=>C0g op k a b) else none
 | .rng k a al ah,.rng k' b bl bh=>if k=k' then(match E4q op k a al ah b bl bh with
  | some v=>some v
  | none=>C0g op k a b) else none
 | x,y =>
  match Q9 x,Q9 y,sstr? x,sstr? y with
  | some (k,a),some (k',b),_,_=>if k=k' then(match y with
   | .int _ b=>match C0g op k a b with
    | some v=>some v
    | none=>F7w op k a b
   | _=>C0g op k a b) else none
  | _,_,some a,some b=>F1t op a b
  | _,_,_,_ =>
  match op with
  | .eql=>match A5s P t cx cy x y with
   | some b=>some (.bool b)
   | none=>(A6t P t x y).map .sbool
  | .neq=>match A5s P t cx cy x y with
   | some b=>some (.bool (!b))
   | none=>(A6t P t x y).map fun b=>.sbool (!b)
  | _=>none
def aun(op:UnOp)(x:AV):Option AV :=
 match op,x with
 | .neg,.int k n=>some (.int k (k.wrap (0-n)))
 | .neg,.rng k n lo hi=>if k.min<=0-hi/\0-lo<=k.max then some (.rng k (0-n) (0-hi) (0-lo)) else some (.sint k (k.wrap (0-n)))
 | .not,.bool b=>some (.bool (!b))
 | .neg,.sint k n=>some (.sint k (k.wrap (0-n)))
 | .not,.sbool b=>some (.sbool (!b))
 | .xor,.int k n=>A9w .xor k (if k.signed then -1 else k.max) n
 | _,_=>none
def bytesOf(s:List UInt8):List AV:=s.map fun b=>.int .u8 b.toNat
def A1u:List AV->Option (List UInt8)
 | []=>some []
 | .int .u8 n::r=>(A1u r).map (UInt8.ofNat n.toNat::·)
 | _::_=>none
def A3c(P:Program)(B:Heap)(src dst:TypeId)(x:AV):A2y :=
 match P.underlying src,P.underlying dst,x with
 | some _,some (.int k),.int _ n=>only B (some (.int k (k.wrap n)))
 | some _,some (.int k),.rng _ n lo hi=>if k.min<=lo/\hi<=k.max then only B (some (.rng k n lo hi)) else only B (some (.sint k (k.wrap n)))
 | some _,some (.int k),.sint _ n=>only B (some (.sint k (k.wrap n)))
 | some _,some .string,.str s=>only B (some (.str s))
 | some _,some .string,.sstr s=>only B (some (.sstr s))
 | some _,some .string,.lstr s lo hi=>only B (some (.lstr s lo hi))
 | some _,some .string,.int _ n=>only B (some (.str (Utf8.encode n).data.toList))
 | some _,some (.slice e),.str s =>
  match P.underlying e with
  | some (.int .u8)=>some (.slice (some (B.length,0)) s.length s.length,B++[.cells (bytesOf s) 1 true e],[])
  | _=>none
 | some (.slice e),some .string,.slice none _ _ =>
  match P.underlying e with
  | some (.int .u8)=>only B (some (.str []))
  | _=>none
 | some (.slice e),some .string,.slice (some (b,o)) n _ =>
  match P.underlying e with
  | some (.int .u8)=>only B ((ldN B b o n).bind fun cs=>(A1u cs).map .str)
  | _=>none
 | some (.pointer _),some .unsafePointer,.ptr none=>only B (some (.ptr none))
 | some (.pointer t),some .unsafePointer,.ptr (some (b,o)) =>
  match size? P t,B[b]? with
  | some (_+1),some (.cells c _ _ _)=>if o<c.length then only B (some (.ptr (some (b,o)))) else none
  | _,_=>none
 | some .unsafePointer,some (.pointer _),.ptr none=>only B (some (.ptr none))
 | some .unsafePointer,some (.pointer t),.ptr (some (b,o)) =>
  match size? P t,B[b]? with
  | some _,some (.cells c 0 true ty)=>if liesAt P P.depth ty (c.length / P.cellsOf ty) o t 1 then only B (some (.ptr (some (b,o)))) else none
  | _,_=>none
 | _,_,_=>none
def A3f(P:Program)(B:Heap)(t:TypeId)(l c:AV):A2y :=
 match P.underlying t,l,c with
 | some (.slice e),.int _ l,.int _ c =>
  match P.info? e,zeroCells? P e with
  | some i,some z =>
   if 0<=l/\l<=c/\c<2^31/\i.bytes<=2^16/\z.length=i.size/\0<i.size then
    some (.slice (some (B.length,0)) l.toNat c.toNat,B++[.cells (zeros z c.toNat) i.size true e],[])
   else none
  | _,_=>none
 | _,_,_=>none
def A3b(y:Nat):AV->Option Nat
 | .int _ i=>if 0<=i/\i<=y then some i.toNat else none
 | _=>none
def Z6(len cap:Nat)(lo hi mx:Option AV):Option (Nat×Nat×Nat) :=
 match (match mx with | some v=>A3b cap v | none=>some cap) with
 | none=>none
 | some m =>
  match (match hi with | some v=>A3b m v | none=>if mx.isSome then none else some len) with
  | none=>none
  | some h =>
   match (match lo with | some v=>A3b h v | none=>some 0) with
   | none=>none
   | some l=>some (l,h,m)
def A4u(P:Program)(B:Heap)(t:TypeId)(x:AV)(lo hi mx:Option AV):Option AV :=
 match P.underlying t,x with
 | some .string,.str s =>
  if mx.isSome then none else
  match Z6 s.length s.length lo hi none with
  | some (l,h,_)=>some (.str ((s.take h).drop l))
  | none=>none
 | some (.slice e),.slice none _ _ =>
  match size? P e,Z6 0 0 lo hi mx with
  | some _,some _=>some (.slice none 0 0)
  | _,_=>none
 | some (.slice e),.slice (some (b,o)) n m =>
  match size? P e,Z6 n m lo hi mx,B[b]? with
  | some k,some (l,h,m'),some (.cells c es _ _) =>
   if es=k \/ (es=0/\o+m*k<=c.length) then some (.slice (some (b,o+l*k)) (h-l) (m'-l)) else none
  | _,_,_=>none
 | some (.array n e),.ptr (some (b,o)) =>
  match size? P e,Z6 n n lo hi mx,B[b]? with
  | some k,some (l,h,m'),some (.cells c es _ _) =>
   if(es=0 \/ es=k)/\o+n*k<=c.length then some (.slice (some (b,o+l*k)) (h-l) (m'-l)) else none
  | _,_,_=>none
 | _,_=>none
def A3d(P:Program)(s:TypeId)(p:AV)(f:Nat):Option AV :=
 match P.underlying s,p with
 | some (.struct fs),.ptr (some (b,o)) =>
  match fs[f]? with
  | some fd=>match size? P fd.type with
   | some n=>if n=0 then none else some (.ptr (some (b,o+fd.offset)))
   | none=>none
  | none=>none
 | _,_=>none
def D4n(P:Program)(t:TypeId)(x:AV)(f:Nat):Option AV :=
 match P.underlying t,x with
 | some (.struct fs),.agg cs =>
  match fs[f]? with
  | some fd=>apart P fd.type cs fd.offset
  | none=>none
 | _,_=>none
def Y6(P:Program)(t:TypeId)(x ix:AV):Option AV :=
 match P.underlying t,x,ix with
 | some (.array n e),.ptr (some (b,o)),.int _ i =>
  match size? P e with
  | some k=>if 0<=i/\i<n then some (.ptr (some (b,o+i.toNat*k))) else none
  | none=>none
 | some (.slice e),.slice (some (b,o)) n _,.int _ i =>
  match size? P e with
  | some k=>if 0<=i/\i<n then some (.ptr (some (b,o+i.toNat*k))) else none
  | none=>none
 | _,_,_=>none
def B3e(P:Program)(t:TypeId)(x ix:AV):Option AV :=
 match P.underlying t,x,ix with
 | some (.array n e),.agg cs,.int _ i =>
  match size? P e with
  | some k=>if 0<=i/\i<n then apart P e cs (i.toNat*k) else none
  | none=>none
 | some .string,.str s,.int _ i =>
  if 0<=i then(s[i.toNat]?).map fun b=>.int .u8 b.toNat else none
 | _,_,_=>none
def B7m(P:Program)(t:TypeId)(x:AV):Option AV :=
 match P.underlying t with
 | some (.interface _)=>none
 | some _=>some (.iface t x)
 | none=>none
def B7j(x:AV)(i:Nat):Option AV :=
 match x with
 | .tuple vs=>vs[i]?
 | _=>none
def C1o:AV->Option AV
 | .ptr (some a)=>some (.ptr (some a))
 | .iface t v=>some (.iface t v)
 | .func (.func f) a b=>some (.func (.func f) a b)
 | .func (.yield l) a b=>some (.func (.yield l) a b)
 | _=>none
def A7m(B:Heap)(k n:Nat):AV->Option (List AV)
 | .slice none _ _=>some []
 | .slice (some (b,o)) _ _=>ldN B b o (n*k)
 | .str s=>if k=1 then some ((bytesOf s).take n) else none
 | _=>none
def B5j:AV->Option Nat
 | .slice _ n _=>some n
 | .str s=>some s.length
 | _=>none
def A4s(P:Program)(t:TypeId):Bool :=
 match P.underlying t with
 | some (.slice _) | some .string=>true
 | _=>false
def R9(P:Program)(B:Heap)(ts:Array TypeId)(s x:AV):A2y :=
 match ts.toList,s with
 | [t,tx],.slice base n m =>
  match P.underlying t with
  | some (.slice e) =>
   match P.info? e,zeroCells? P e with
   | some i,some z =>
    if z.length=i.size/\0<i.size/\i.bytes<=2^12/\A4s P tx=true then
     match B5j x with
     | some k =>
      match A7m B i.size k x with
      | some new =>
       if k=0 then some (s,B,[])
       else if n+k<2^31/\new.all one=true then
        match base with
        | none=>some (.slice (some (B.length,0)) k k,B++[.cells new i.size true e],[])
        | some (b,o) =>
         match B[b]? with
         | some (.cells c es true ty) =>
          if es≠i.size \/ ty≠e then none
          else if n+k<=m then
           if o+(n+k)*i.size<=c.length then
            some (.slice (some (b,o)) (n+k) m,B.set b (.cells (A1q c (o+n*i.size) new) es true ty),[b])
           else none
          else if o+n*i.size<=c.length then
           some (.slice (some (B.length,0)) (n+k) (n+k),
            B.set b .dead++[.cells ((c.drop o).take (n*i.size)++new) es true e],[b])
          else none
         | _=>none
       else none
      | none=>none
     | none=>none
    else none
   | _,_=>none
  | _=>none
 | _,_=>none
def C9l(P:Program)(B:Heap)(ts:Array TypeId)(d x:AV):A2y :=
 match ts[0]?,d with
 | some t,.slice base n _ =>
  match P.underlying t with
  | some (.slice e) =>
   match size? P e,B5j x with
   | some i,some k =>
    match A7m B i (min k n) x with
    | some new =>
     match base with
     | none=>only B (some (.int .i64 0))
     | some (b,o)=>(st B b o new).map fun B'=>(.int .i64 (min k n:Nat),B',[b])
    | none=>none
   | _,_=>none
  | _=>none
 | _,_=>none
def B7f(P:Program)(B:Heap)(ts:Array TypeId)(d:AV):A2y :=
 match ts[0]?,d with
 | some t,.slice base n _ =>
  match P.underlying t with
  | some (.slice e) =>
   match zeroCells? P e with
   | some z =>
    if 0<z.length then
     match base with
     | none=>only B (some (.tuple []))
     | some (b,o)=>if n=0 then only B (some (.tuple [])) else(st B b o (zeros z n)).map fun B'=>(.tuple [],B',[b])
    else none
   | none=>none
  | _=>none
 | _,_=>none
def V5(P:Program)(B:Heap)(ts:Array TypeId)(x:AV):Option AV :=
 match (ts[0]?).bind P.underlying,x with
 | some .string,.str s=>some (.int .i64 s.length)
 | some .string,.sstr s=>some (.sint .i64 s.length)
 | some .string,.lstr s lo hi=>some (.rng .i64 s.length lo hi)
 | some (.slice _),.slice _ n _=>some (.int .i64 n)
 | some (.array n _),_=>some (.int .i64 n)
 | some (.map _ _),.map none=>some (.int .i64 0)
 | some (.map _ _),.map (some r)=>match B[r]? with
  | some (.maps es)=>some (.int .i64 es.length)
  | _=>none
 | _,_=>none
def E2g:AV->List AV->Option AV
 | a,[]=>some a
 | .int k x,.int _ y::r=>E2g (.int k (if y>x then y else x)) r
 | a,b::r=>match Q9 a,Q9 b with
  | some (k,x),some (_,y)=>E2g (.sint k (if y>x then y else x)) r
  | _,_=>none
def E2h:AV->List AV->Option AV
 | a,[]=>some a
 | .int k x,.int _ y::r=>E2h (.int k (if y<x then y else x)) r
 | a,b::r=>match Q9 a,Q9 b with
  | some (k,x),some (_,y)=>E2h (.sint k (if y<x then y else x)) r
  | _,_=>none
def A3j:AV->Option AV
 | .slice none _ _=>some (.ptr none)
 | .slice (some a) _ m=>if 0<m then some (.ptr (some a)) else none
 | _=>none
def Q0(P:Program)(B:Heap)(ts:Array TypeId)(p n:AV):A2y :=
 match p,n with
 | .ptr none,.int .i64 n=>if n=0/\ts.size=2 then only B (some (.str [])) else none
 | .ptr (some (b,o)),.int .i64 n =>
  match (match ts.toList with | [pt,_]=>P.underlying pt | _=>none),B[b]? with
  | some (.pointer u),some (.cells c 1 true ty) =>
   if 0<n/\n<2^31/\P.cellsOf ty=1/\sameLayout P P.depth ty u=true then
    match ldN B b o n.toNat with
    | some cs=>(A1u cs).map fun s=>(.str s,B.set b (.cells c 1 false ty),[b])
    | none=>none
   else none
  | _,_=>none
 | _,_=>none
def G1g(P:Program)(ts:Array TypeId)(x:AV):Option AV :=
 match (ts[0]?).bind P.underlying,x with
 | some (.array n _),_=>some (.int .i64 n)
 | some (.slice _),.slice none _ _=>some (.int .i64 0)
 | _,_=>none
def A0u(P:Program)(B:Heap)(b:Builtin)(ts:Array TypeId)(args:List AV):A2y :=
 match b,args with
 | .append,[s,x]=>R9 P B ts s x
 | .copy,[d,x]=>C9l P B ts d x
 | .clear,[d]=>B7f P B ts d
 | .len,[x]=>only B (V5 P B ts x)
 | .max,x::r=>only B (E2g x r)
 | .min,x::r=>only B (E2h x r)
 | .unsafeSliceData,[x]=>only B (A3j x)
 | .unsafeString,[p,n]=>Q0 P B ts p n
 | .cap,[x]=>only B (G1g P ts x)
 | _,_=>none
def A8l(y:Nat):AV->Option (Bool×Nat)
 | .int _ i=>some (decide (0<=i/\i<=(y:Int)),i.toNat)
 | .sint _ i=>some (decide (0<=i/\i<=(y:Int)),i.toNat)
 | .rng _ i _ _=>some (decide (0<=i/\i<=(y:Int)),i.toNat)
 | _=>none
def A8d:AV->Bool
 | .sint .. | .rng .. | .sbool _ | .sstr _ | .lstr ..=>true
 | _=>false
def A0c(P:Program)(U:Operand->AV)(op:Op):Option (Bool×AV) :=
 match op with
 | .index t x i =>
  match P.underlying t,sstr? (U x),Q9 (U i) with
  | some .string,some s,some (_,n) =>
   if A8d (U x)||A8d (U i) then some (decide (0<=n/\n<(s.length:Int)),.rng .u8 ((s.getD n.toNat 0).toNat:Int) 0 255) else none
  | _,_,_=>none
 | .slice t x lo hi none =>
  match P.underlying t,sstr? (U x) with
  | some .string,some s =>
   if A8d (U x)||(lo.map U).any A8d||(hi.map U).any A8d then
    match (match hi with | some h=>A8l s.length (U h) | none=>some (true,s.length)) with
    | some (c,h) =>
     match (match lo with | some l=>A8l h (U l) | none=>some (true,0)) with
     | some (c',l)=>some (c&&c',.sstr ((s.take h).drop l))
     | none=>none
    | none=>none
   else none
  | _,_=>none
 | .binOp .add _ x y _ =>
  match sstr? (U x),sstr? (U y) with
  | some a,some b=>if A8d (U x)||A8d (U y) then some (decide (a.length+b.length<2^62),.sstr (a++b)) else none
  | _,_=>none
 | .binOp .quo _ x y _ =>
  match Q9 (U x),Q9 (U y) with
  | some (k,a),some (k',b)=>if A8d (U y)=true/\k=k' then some (decide (b≠0),.sint k (k.wrap (a.tdiv b))) else none
  | _,_=>none
 | .binOp .rem _ x y _ =>
  match Q9 (U x),Q9 (U y) with
  | some (k,a),some (k',b)=>if A8d (U y)=true/\k=k' then some (decide (b≠0),.sint k (a.tmod b)) else none
  | _,_=>none
 | .binOp .shr _ x y _ =>
  match Q9 (U x),U y with
  | some (k,a),.int _ b=>if A8d (U x)=true/\0<=b then some (true,.sint k (a.fdiv (2^(min b.toNat k.bits)))) else none
  | _,_=>none
 | _=>none
def sameKey(d:TypeDesc)(a b:AV):Option Bool :=
 match d,a,b with
 | .int _,.int k a,.int k' b=>if k=k' then some (a==b) else none
 | .string,.str a,.str b=>some (a==b)
 | .bool,.bool a,.bool b=>some (a==b)
 | _,_,_=>none
def A4o(P:Program)(t:TypeId):Bool :=
 match P.underlying t with
 | some (.int _)=>true
 | some .string=>true
 | some .bool=>true
 | _=>false
def A1c(d:TypeDesc)(k:AV):List (AV×AV)->Nat->Option (Option (Nat×AV))
 | [],_=>some none
 | (a,v)::r,i =>
  match sameKey d k a with
  | some true=>some (some (i,v))
  | some false=>A1c d k r (i+1)
  | none=>none
def mapOf(B:Heap):AV->Option (List (AV×AV))
 | .map none=>some []
 | .map (some r)=>match B[r]? with
  | some (.maps es)=>some es
  | _=>none
 | _=>none
def C0m(P:Program)(t:TypeId):Option AV:=(P.info? t).bind fun i=>i.zero.map F3h
def D3j(P:Program)(t:TypeId):Bool :=
 match P.underlying t with
 | some (.map kt e)=>match P.underlying kt,P.underlying e,C0m P e with
  | some .string,some .bool,some (.bool false)=>true
  | _,_,_=>false
 | _=>false
def A7l(P:Program)(B:Heap)(t:TypeId):Option AV->A2y
 | none=>some (.map (some B.length),B++[if D3j P t then .smap [] else .maps []],[])
 | some _=>none
def C0d(l:List (List UInt8))(s:List UInt8):List (List UInt8):=if s∈l then l else l++[s]
def V8(l:List (List UInt8)):List (AV×AV):=l.map fun s=>(.str s,.bool true)
def C4s(P:Program)(B:Heap)(t:TypeId)(m k:AV)(ok:Bool):Option AV :=
 match m with
 | .map (some r)=>match B[r]?,sstr? k,D3j P t with
  | some (.smap l),some s,true=>some (if ok then .tuple [.sbool (decide (s∈l)),.sbool (decide (s∈l))] else .sbool (decide (s∈l)))
  | _,_,_=>none
 | _=>none
def C4t(P:Program)(B:Heap)(t:TypeId)(m k v:AV):A2y :=
 match m with
 | .map (some r)=>match B[r]?,sstr? k,D3j P t,v with
  | some (.smap l),some s,true,.bool true=>some (H7,B.set r (.smap (C0d l s)),[r])
  | _,_,_,_=>none
 | _=>none
def A7j(P:Program)(B:Heap)(t:TypeId)(m k:AV)(ok:Bool):Option AV :=
 match P.underlying t with
 | some (.map kt e) =>
  if A4o P kt then
   match P.underlying kt,mapOf B m with
   | some d,some es =>
    match A1c d k es 0 with
    | some (some (_,v))=>some (if ok then .tuple [v,.bool true] else v)
    | some none=>(C0m P e).map fun z=>if ok then .tuple [z,.bool false] else z
    | none=>none
   | _,_=>none
  else none
 | _=>none
def C4p(P:Program)(B:Heap)(t:TypeId)(m k:AV)(ok:Bool):Option AV :=
 match A7j P B t m k ok with
 | some v=>some v
 | none=>C4s P B t m k ok
def A0p(P:Program)(B:Heap)(t:TypeId)(m k v:AV):A2y :=
 match P.underlying t,m with
 | some (.map kt _),.map (some r) =>
  if A4o P kt then
   match P.underlying kt,B[r]? with
   | some d,some (.maps es) =>
    match A1c d k es 0 with
    | some (some (i,_))=>some (H7,B.set r (.maps (es.modify i fun e=>(e.1,v))),[r])
    | some none=>some (H7,B.set r (.maps (es++[(k,v)])),[r])
    | none=>none
   | _,_=>none
  else none
 | _,_=>none
def A1k(P:Program)(B:Heap)(t:TypeId)(m k v:AV):A2y :=
 match A0p P B t m k v with
 | some r=>some r
 | none=>C4t P B t m k v
def mrg(b:Bool)(x y:AV):AV :=
 match Q9 x,Q9 y with
 | some (k,m),some (k',n)=>if k=k' then .sint k (bif b then m else n) else .bad
 | _,_=>match sbool? x,sbool? y with
  | some u,some v=>.sbool (bif b then u else v)
  | _,_=>match sstr? x,sstr? y with
   | some u,some v=>.sstr (bif b then u else v)
   | _,_=>.bad
def C1i(b:Bool):List AV->List AV->List AV
 | _,[]=>[]
 | xs,y::ys=>mrg b (xs.headD y) y::C1i b xs.tail ys
def A0h:AV->Bool
 | .bool _ | .int .. | .rng .. | .sint .. | .sbool _ | .sstr _ | .lstr .. | .str _ | .bad | .flist ..=>true
 | _=>false
def roT:TypeId:=4294967295
def A7q(P:Program)(B:Heap)(t tx:TypeId)(b n:Nat)(x:AV):Option (Bool×AV×Heap×List Nat) :=
 match P.underlying t with
 | some (.slice e) =>
  match P.info? e,zeroCells? P e with
  | some i,some zc =>
   if zc.length=i.size/\0<i.size/\i.bytes<=2^12/\A4s P tx=true then
    match B5j x with
    | some 1 =>
     match A7m B i.size 1 x with
     | some new =>
      if(new.all A0h&&new.all one)=true/\new.length=i.size then
       match B[b]? with
       | some (.vec m row es ty) =>
        if es=i.size/\ty=e/\e≠roT then
         some (decide (n+1<2^31/\n=m),
          .sslice B.length 0 (n+1),B.set b .dead++[.vec (n+1) (fun r=>C1i (decide (r<n)) (row r) new) es e],[b])
        else none
       | _=>none
      else none
     | none=>none
    | _=>none
   else none
  | _,_=>none
 | _=>none
def E4t(P:Program)(B:Heap)(tx:TypeId)(x:AV):Option (Bool×List UInt8) :=
 match P.underlying tx,x with
 | some .string,.str t=>some (true,t)
 | some .string,.sstr t=>some (true,t)
 | some .string,.lstr t _ _=>some (true,t)
 | some (.slice _),.slice (some (b,o)) 1 _=>match ldN B b o 1 with
  | some [v]=>match Q9 v with
   | some (.u8,k)=>some (decide (0<=k/\k<256),[k.toNat.toUInt8])
   | _=>none
  | _=>none
 | _,_=>none
def A7p(P:Program)(B:Heap)(t tx:TypeId)(b n:Nat)(x:AV):Option (Bool×AV×Heap×List Nat) :=
 match P.underlying t with
 | some (.slice e) =>
  match P.info? e,zeroCells? P e with
  | some i,some zc =>
   if zc.length=i.size/\i.size=1/\i.bytes<=2^12 then
    match E4t P B tx x with
    | some (c,u) =>
     match B[b]? with
     | some (.text s ty)=>if ty=e then some (c&&decide (n=s.length/\n+u.length<2^31),.sslice B.length 0 (n+u.length),B.set b .dead++[.text (s++u) e],[b]) else none
     | _=>none
    | none=>none
   else none
  | _,_=>none
 | _=>none
def A7o(P:Program)(B:Heap)(ts:Array TypeId)(b n:Nat)(m:AV):Option (Bool×AV×Heap×List Nat) :=
 match Q9 m,(match ts.toList with | [pt,_]=>P.underlying pt | _=>none),B[b]? with
 | some (.i64,m),some (.pointer u),some (.text s ty) =>
  if P.cellsOf ty=1/\sameLayout P P.depth ty u=true then some (decide (m=(n:Int)/\n=s.length/\n<2^31),.sstr s,B.set b .dead,[b]) else none
 | _,_,_=>none
def D4u(P:Program)(B:Heap)(t:TypeId)(b i j:Nat):Option (Bool×AV) :=
 match P.underlying t,B[b]? with
 | some d,some (.vec n row es _) =>
  if D1q d then
   match size? P t with
   | some k=>if j+k<=es then some (decide (i<n),.agg (((row i).drop j).take k)) else none
   | none=>none
  else
   match (row i)[j]? with
   | some v=>some (decide (i<n),v)
   | none=>none
 | _,_=>none
def V6(P:Program)(U:Operand->AV):Op->Option (Bool×AV)
 | .fieldAddr s p f =>
  match U p with
  | .sptr b i j =>
   match P.underlying s with
   | some (.struct fs) =>
    match fs[f]? with
    | some fd=>match size? P fd.type with
     | some n=>if n=0 then none else some (true,.sptr b i (j+fd.offset))
     | none=>none
    | none=>none
   | _=>none
  | _=>none
 | .nilCheck x =>
  match U x with
  | .sptr b i j=>some (true,.sptr b i j)
  | _=>none
 | _=>none
def A3i(pre:List AV)(k:IntKind)(m:Nat)(f:Nat->Int):List AV:=pre++(List.range m).map fun i=>.int k (f i)
def Y5(P:Program)(B:Heap)(t:TypeId):AV->Option (Bool×AV)
 | .ptr (some (b,o)) =>
  match P.underlying t,B[b]? with
  | some d,some (.arr pre k m f _) =>
   if D1q d then
    match size? P t with
    | some n=>if o=0/\n=pre.length+m then some (true,.agg (pre++(List.range m).map fun i=>.sint k (f i))) else none
    | none=>none
   else
    match pre[o]? with
    | some v=>some (true,v)
    | none=>some (decide (o-pre.length<m),.sint k (f (o-pre.length)))
  | _,_=>none
 | .sptr b i j =>
  match P.underlying t,B[b]? with
  | some d,some (.arr pre k m f _)=>if D1q d then none else if j=pre.length then some (decide (i<m),.sint k (f i)) else none
  | _,_=>none
 | _=>none
def A1j(P:Program)(B:Heap)(t:TypeId)(x i:AV):Option (Bool×AV) :=
 match P.underlying t,x,Q9 i with
 | some (.array n e),.ptr (some (b,o)),some (_,i) =>
  match B[b]? with
  | some (.arr pre _ _ _ _)=>if size? P e=some 1/\o=pre.length then some (decide (0<=i/\i<(n:Int)),.sptr b i.toNat o) else none
  | _=>none
 | some (.slice e),.aslc b s n,some (_,i) =>
  match B[b]? with
  | some (.arr pre _ _ _ _)=>if size? P e=some 1 then some (decide (0<=i/\i<(n:Int))&&decide (pre.length<=s),.sptr b (s-pre.length+i.toNat) pre.length) else none
  | _=>none
 | _,_,_=>none
def A2s(len:Nat)(lo hi:Option AV):Option (Bool×Nat×Nat) :=
 match (match hi with | some h=>A8l len h | none=>some (true,len)) with
 | some (c,h) =>
  match (match lo with | some l=>A8l h l | none=>some (true,0)) with
  | some (c',l)=>some (c&&c',l,h)
  | none=>none
 | none=>none
def C1l(P:Program)(B:Heap)(t:TypeId)(x:AV)(lo hi:Option AV):Option (Bool×AV) :=
 match P.underlying t,x with
 | some (.array n e),.ptr (some (b,o)) =>
  match B[b]? with
  | some (.arr pre _ m _ _) =>
   if size? P e=some 1/\o+n<=pre.length+m then
    match A2s n lo hi with
    | some (c,l,h)=>some (c,.aslc b (o+l) (h-l))
    | none=>none
   else none
  | _=>none
 | some (.slice e),.aslc b s n =>
  match B[b]?,A2s n lo hi with
  | some (.arr ..),some (c,l,h)=>if size? P e=some 1 then some (c,.aslc b (s+l) (h-l)) else none
  | _,_=>none
 | _,_=>none
def A1g:List AV->Option (List UInt8)
 | []=>some []
 | a::r=>match Q9 a,A1g r with
  | some (.u8,n),some s=>some (UInt8.ofNat n.toNat::s)
  | _,_=>none
def B6u(P:Program)(B:Heap)(s d:TypeId)(x:AV):Option (Bool×AV) :=
 match P.underlying s,P.underlying d with
 | some (.slice e),some .string =>
  match P.underlying e,x with
  | some (.int .u8),.aslc b s n =>
   match B[b]? with
   | some (.arr pre .u8 m f _)=>some (decide (pre.length<=s)&&decide (s-pre.length+n<=m),.sstr ((List.range n).map fun x=>UInt8.ofNat (f (s-pre.length+x)).toNat))
   | _=>none
  | some (.int .u8),.slice (some (b,o)) n _ =>
   match ldN B b o n with
   | some c=>if c.any A8d then(A1g c).map fun s=>(true,.sstr s) else none
   | none=>none
  | _,_=>none
 | _,_=>none
def A5b(P:Program)(B:Heap)(s d:TypeId)(x:AV):Option (Bool×AV×Heap×List Nat) :=
 match P.underlying s,P.underlying d,x with
 | some .string,some (.slice e),.sstr t =>
  match P.underlying e with
  | some (.int .u8)=>some (true,.aslc B.length 0 t.length,B++[.arr [] .u8 t.length (fun i=>((t.getD i 0).toNat:Int)) e],[])
  | _=>none
 | _,_,_=>none
def Y1(P:Program)(U:Operand->AV)(B:Heap)(op:Op):Option (Bool×AV×Heap×List Nat) :=
 match op with
 | .load t a=>(Y5 P B t (U a)).map fun p=>(p.1,p.2,B,[])
 | .indexAddr t x i=>(A1j P B t (U x) (U i)).map fun p=>(p.1,p.2,B,[])
 | .convert s d x =>
  match A5b P B s d (U x) with
  | some r=>some r
  | none=>(B6u P B s d (U x)).map fun p=>(p.1,p.2,B,[])
 | .call { callee:=.builtin .len,args,argTypes } =>
  match args.toList.map U with
  | [.aslc _ _ n]=>match (argTypes[0]?).bind P.underlying with
   | some (.slice _)=>some (true,.sint .i64 n,B,[])
   | _=>none
  | _=>none
 | _=>none
def L8(P:Program)(U:Operand->AV)(B:Heap)(op:Op):Option (Bool×AV×Heap×List Nat) :=
 match op with
 | .load t a =>
  match U a with
  | .sptr b i j=>(D4u P B t b i j).map fun p=>(p.1,p.2,B,[])
  | _=>none
 | .call { callee:=.builtin .len,args,argTypes } =>
  match args.toList.map U with
  | [.sslice _ _ n] =>
   match (argTypes[0]?).bind P.underlying with
   | some (.slice _)=>some (true,.sint .i64 n,B,[])
   | _=>none
  | _=>none
 | .call { callee:=.builtin .append,args,argTypes } =>
  match args.toList.map U,argTypes.toList with
  | [.sslice b 0 n,x],[t,tx]=>match B[b]? with
   | some (.text _ _)=>A7p P B t tx b n x
   | _=>A7q P B t tx b n x
  | _,_=>none
 | .call { callee:=.builtin .unsafeSliceData,args,.. } =>
  match args.toList.map U with
  | [.sslice b 0 n]=>some (true,.dptr b n,B,[])
  | _=>none
 | .call { callee:=.builtin .unsafeString,args,argTypes } =>
  match args.toList.map U with
  | [.dptr b n,m]=>A7o P B argTypes b n m
  | _=>none
 | .indexAddr t x i =>
  match U x with
  | .sslice b s n =>
   match P.underlying t,Q9 (U i),B[b]? with
   | some (.slice e),some (_,m),some (.vec _ _ es _) =>
    if size? P e=some es then some (decide (0<=m/\m<(n:Int)),.sptr b (s+m.toNat) 0,B,[]) else none
   | _,_,_=>none
  | _=>none
 | op=>(V6 P U op).map fun p=>(p.1,p.2,B,[])
def D9k(P:Program)(B:Heap)(t:TypeId)(x h:AV):Option (Bool×AV) :=
 match P.underlying t,x with
 | some (.slice e),.aslc b 0 n =>
  match B[b]?,A2s n none (some h) with
  | some (.vec _ _ es _),some (c,_,k)=>if size? P e=some es then some (c,.aslc b 0 k) else none
  | _,_=>none
 | some (.slice e),.sslice b 0 n =>
  match B[b]?,A2s n none (some h) with
  | some (.vec _ _ es _),some (c,_,k)=>if size? P e=some es then some (c&&decide (0<n),.aslc b 0 k) else none
  | _,_=>none
 | _,_=>none
def C4m(P:Program)(t:TypeId)(cs:List FV)(j:Nat):Option AV :=
 match P.underlying t with
 | none=>none
 | some d =>
  if D1q d then
   match size? P t with
   | some k=>if j+k<=cs.length then some (.agg (((cs.drop j).take k).map FV.av)) else none
   | none=>none
  else(cs[j]?).map FV.av
def afz(P:Program)(U:Operand->AV)(op:Op):Option (Bool×AV) :=
 match op with
 | .load t a =>
  match U a with
  | .fptr cs j=>(C4m P t cs j).map fun v=>(true,v)
  | _=>none
 | .fieldAddr s p f =>
  match U p with
  | .fptr cs j =>
   match P.underlying s with
   | some (.struct fs) =>
    match fs[f]? with
    | some fd=>match size? P fd.type with
     | some n=>if n=0 then none else some (true,.fptr cs (j+fd.offset))
     | none=>none
    | none=>none
   | _=>none
  | _=>none
 | .nilCheck x =>
  match U x with
  | .fptr cs j=>some (true,.fptr cs j)
  | _=>none
 | .indexAddr t x i =>
  match U x with
  | .flist n row es =>
   match P.underlying t,Q9 (U i) with
   | some (.slice e),some (_,m)=>if size? P e=some es then some (decide (0<=m/\m<(n:Int)),.fptr (row m.toNat) 0) else none
   | _,_=>none
  | _=>none
 | .slice t x lo hi none =>
  match U x with
  | .flist n row es =>
   match P.underlying t,A2s n (lo.map U) (hi.map U) with
   | some (.slice e),some (c,l,h)=>if size? P e=some es then some (c,.flist (h-l) (match lo with | none=>row | some _=>fun i=>row (l+i)) es) else none
   | _,_=>none
  | _=>none
 | .call { callee:=.builtin .len,args,argTypes } =>
  match args.toList.map U with
  | [.flist n _ _] =>
   match (argTypes[0]?).bind P.underlying with
   | some (.slice _)=>some (true,.sint .i64 n)
   | _=>none
  | _=>none
 | _=>none
def avR(row:Nat->List FV)(i:Nat):List AV:=(row i).map FV.av
def B7y(n:Nat)(r0 r1:Nat->List AV)(i:Nat):List AV:=if i<n then r0 i else r1 (i-n)
def afl(P:Program)(U:Operand->AV)(B:Heap)(op:Op):Option (Bool×AV×Heap×List Nat) :=
 match op with
 | .call { callee:=.builtin .append,args,argTypes } =>
  match args.toList.map U,argTypes.toList with
  | [.sslice b 0 n,.flist k row es],[t,tx] =>
   match P.underlying t,P.underlying tx,B[b]? with
   | some (.slice e),some (.slice _),some (.vec m r0 es' ty) =>
    match P.info? e,zeroCells? P e with
    | some i,some zc =>
     if(zc.length=i.size/\0<i.size/\i.bytes<=2^12)/\es=i.size/\es'=i.size/\ty=e/\e≠roT then
      some (decide (n+k<2^31/\n=m),.sslice B.length 0 (n+k),B.set b .dead++[.vec (n+k) (B7y n r0 (avR row)) es e],[b])
     else none
    | _,_=>none
   | _,_,_=>none
  | _,_=>none
 | _=>none
def B1c(i j:Nat)(cs:List AV)(row:Nat->List AV)(r:Nat):List AV:=if r=i then A1q (row r) j cs else row r
def afs(P:Program)(U:Operand->AV)(B:Heap)(op:Op):Option (Bool×AV×Heap×List Nat) :=
 match op with
 | .store t a x =>
  if B8q (U x) then none else
  match U a with
  | .sptr b i j =>
   match size? P t,B[b]? with
   | some k,some (.vec n row es ty) =>
    if(A0v (U x)).length=k/\j+k<=es/\((A0v (U x)).all one&&(A0v (U x)).all A0h)=true/\ty≠roT then
     some (decide (i<n),H7,B.set b (.vec n (B1c i j (A0v (U x)) row) es ty),[b])
    else none
   | _,_=>none
  | _=>none
 | _=>none
def A1l(P:Program)(U:Operand->AV)(B:Heap)(op:Op):Option (Bool×AV×Heap×List Nat) :=
 match Y1 P U B op with
 | some r=>some r
 | none =>
  match L8 P U B op with
  | some r=>some r
  | none =>
   match afz P U op with
   | some p=>some (p.1,p.2,B,[])
   | none =>
    match afl P U B op with
    | some r=>some r
    | none=>afs P U B op
def cnI:AV->AV
 | .sint k n=>.int k n
 | .rng k n _ _=>.int k n
 | a=>a
def R4(P:Program)(U:Operand->AV)(B:Heap)(op:Op):A2y :=
 match op with
 | .move x | .assign x=>only B (some (U x))
 | .pick c a b=>match U c with
  | .bool t=>only B (some (if t then U a else U b))
  | .sbool t=>only B (some (if t then U a else U b))
  | _=>none
 | .alloc t=>(zeroCells? P t).map fun z=>(.ptr (some (B.length,0)),B++[.cells z 0 true t],[])
 | .box t x=>if B8q (U x) then none else some (.ptr (some (B.length,0)),B++[.cells (A0v (U x)) 0 true t],[])
 | .build t ps=>only B (D4i P t (ps.toList.map fun(i,x)=>(i,U x)))
 | .buildSlice t n ps=>A1v P B t n (ps.toList.map fun(i,x)=>(i,U x))
 | .load t a=>only B (A2m P B t (U a))
 | .store t a x=>if B8q (U x) then none else A7n P B t (U a) (U x)
 | .nilCheck x=>only B (C1o (U x))
 | .binOp o t x y _=>only B (F3g P o t (isConst x) (isConst y) (U x) (U y))
 | .unOp o _ x=>only B (aun o (U x))
 | .convert s d x=>A3c P B s d (U x)
 | .makeInterface t x=>only B (B7m P t (U x))
 | .makeFunc (.func f) a b=>only B (some (.func (.func f) (a.toList.map U) (b.toList.map U)))
 | .makeSlice t l c=>A3f P B t (U l) (U c)
 | .slice t x lo hi mx=>only B (A4u P B t (U x) (lo.map U) (hi.map U) (mx.map U))
 | .fieldAddr t x f=>only B (A3d P t (U x) f)
 | .field t x f=>only B (D4n P t (U x) f)
 | .indexAddr t x i=>only B (Y6 P t (U x) (cnI (U i)))
 | .index t x i=>only B (B3e P t (U x) (cnI (U i)))
 | .extract t i=>only B (B7j (U t) i)
 | .call { callee:=.builtin b,args,argTypes }=>A0u P B b argTypes (args.toList.map U)
 | .makeMap t h=>A7l P B t (h.map U)
 | .lookup t m k ok=>only B (C4p P B t (U m) (U k) ok)
 | .mapUpdate t m k x=>A1k P B t (U m) (U k) (U x)
 | .insert t m k x=>A1k P B t (U m) (U k) (U x)
 | _=>none
def aop(P:Program)(U:Operand->AV)(B:Heap)(op:Op):A2y :=
 match A0c P U op with
 | some (c,v)=>if c=true then some (v,B,[]) else none
 | none =>
  match A1l P U B op with
  | some (c,y)=>if c=true then some y else none
  | none=>R4 P U B op
end Go.Ad
