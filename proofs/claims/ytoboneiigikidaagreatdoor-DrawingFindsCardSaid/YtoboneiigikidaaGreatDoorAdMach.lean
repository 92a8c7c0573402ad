/- The machine's own steps, on a frame that may be a round of a range over a function. -/
import Derived.Test.YtoboneiigikidaaGreatDoorAdExec
import Derived.Calls
import Derived.Laws.Sem
namespace Go.Ad
def F(b:Frame)(tmps:Array Value)(ds:List Deferred)(todo:List Item):Frame:={ b with tmps:=tmps,defers:=ds,todo:=todo,mode:=.run }
theorem C3s(b:Frame)(tmps:Array Value)(ds:List Deferred)(todo:List Item)(x:Operand):(F b tmps ds todo).eval x=(Act.mk tmps ds).eval x:=by
 cases x<;>rfl
section
variable {P:Program} {b:Frame} {t:Array Value} {ds:List Deferred} {k:List Item} {cs:List Frame} {w:World}
theorem go_skip:step P (lone (F b t ds (.code .skip::k)) cs w)=.next (lone (F b t ds k) cs w) :=
 step_lone_go (by simp[stepG,stepG.exec,F])
theorem E6k{l:Nat}:step P (lone (F b t ds (.code (.label l)::k)) cs w)=.next (lone (F b t ds k) cs w) :=
 step_lone_go (by simp[stepG,stepG.exec,F])
theorem B0i{i:Nat}:step P (lone (F b t ds (.inBlock i::k)) cs w)=.next (lone (F b t ds k) cs w) :=
 step_lone_go (by simp[stepG,stepG.exec,F])
theorem D6e{c:Code}:step P (lone (F b t ds (.inScope c::k)) cs w)=.next (lone (F b t ds k) cs w) :=
 step_lone_go (by simp[stepG,stepG.exec,F])
theorem A6k{x y:Code}:step P (lone (F b t ds (.code (.seq x y)::k)) cs w)=.next (lone (F b t ds (.code x::.code y::k)) cs w) :=
 step_lone_go (by simp[stepG,stepG.exec,F])
theorem B5w{c:Operand}{x y:Code}{v:Bool}(h:(Act.mk t ds).eval c=.bool v) :
  step P (lone (F b t ds (.code (.cond c x y)::k)) cs w)=.next (lone (F b t ds (.code (if v then x else y)::k)) cs w) :=
 step_lone_go (by
  have:=C3s b t ds (.code (.cond c x y)::k) c
  simp only[F] at this
  simp[stepG,stepG.exec,F,this,h])
theorem A5i{i:Nat}{c:Code}:step P (lone (F b t ds (.code (.block i c)::k)) cs w)=.next (lone (F b t ds (.code c::.inBlock i::k)) cs w) :=
 step_lone_go (by simp[stepG,stepG.exec,F])
theorem go_loop{c:Code}:step P (lone (F b t ds (.code (.loop c)::k)) cs w)=.next (lone (F b t ds (.code c::.inLoop c::k)) cs w) :=
 step_lone_go (by simp[stepG,stepG.exec,F])
theorem A8x{c:Code}:step P (lone (F b t ds (.inLoop c::k)) cs w)=.next (lone (F b t ds (.code c::.inLoop c::k)) cs w) :=
 step_lone_go (by simp[stepG,stepG.exec,F])
theorem E6n{c:Code}:step P (lone (F b t ds (.code (.scope c)::k)) cs w)=.next (lone (F b t ds (.code c::.inScope c::k)) cs w) :=
 step_lone_go (by simp[stepG,stepG.exec,F])
theorem C6l{i:Nat}{k':List Item}(h:exitTo i k=some k'):step P (lone (F b t ds (.code (.exit i)::k)) cs w)=.next (lone (F b t ds k') cs w) :=
 step_lone_go (by simp[stepG,stepG.exec,F,h])
theorem go_ret(h:b.roundOf=none):step P (lone (F b t ds (.code .ret::k)) cs w)=.next (lone { F b t ds (.code .ret::k) with mode:=.returning } cs w) :=
 step_lone_go (by simp[stepG,stepG.exec,F,h])
theorem E6j(h:b.roundOf=none):step P (lone (F b t ds []) cs w)=.next (lone { F b t ds [] with mode:=.returning } cs w) :=
 step_lone_go (by simp[stepG,stepG.exec,F,h])
theorem go_region{i:Nat}{ops:Array Oper} :
  step P (lone (F b t ds (.code (.region i ops false)::k)) cs w)=.next (lone (F b t ds (.inRegion ops (List.range ops.size)::k)) cs w) :=
 step_lone_go (by simp[stepG,stepG.exec,F])
theorem A8a{i:Nat}{ops:Array Oper} :
  step P (lone (F b t ds (.code (.region i ops true)::k)) cs w) =
   .next (lone (F b t ds (.inRegion ops (Region.schedule (P.follows .mixedOrders) ops (w.tape w.drawn (.order b.fn i)))::k)) cs { w with drawn:=w.drawn+1 }) :=
 step_lone_go (by simp[stepG,stepG.exec,F,choose,Sem.run,Question.forced,Question.cut])
theorem U9{ops:Array Oper}:step P (lone (F b t ds (.inRegion ops []::k)) cs w)=.next (lone (F b t ds k) cs w) :=
 step_lone_go (by simp[stepG,stepG.exec,F])
variable {ops:Array Oper} {i:Nat} {rest:List Nat} {o:Oper}
theorem B1f(v:Value)(ho:ops[i]?=some o) :
  (F b t ds (.inRegion ops (i::rest)::k)).finish v=F b ((Act.mk t ds).put o.dst v).tmps ds (.inRegion ops rest::k):=by
 cases h:o.dst<;>simp[Frame.finish,F,Act.put,ho,h]
theorem A3q(ho:ops[i]?=some o)(h:Region.wanted o (yielded ops t)=false) :
  step P (lone (F b t ds (.inRegion ops (i::rest)::k)) cs w)=.next (lone (F b ((Act.mk t ds).put o.dst undef).tmps ds (.inRegion ops rest::k)) cs w):=by
 rw[<- B1f (b:=b) (k:=k) undef ho]
 exact step_lone_go (by simp[F,stepG,stepG.exec,ho,h])
theorem stepG_op'(ho:ops[i]?=some o)(hw:Region.wanted o (yielded ops t)=true)(hd:∀ c,o.op≠.defer c) :
  stepG P true { frame:=F b t ds (.inRegion ops (i::rest)::k),callers:=cs,status:=.running,dying:=none } w =
   stepG.apply P true (F b t ds (.inRegion ops (i::rest)::k)) cs none (execOp (Act.mk t ds).eval o) w:=by
 have he:(F b t ds (.inRegion ops (i::rest)::k)).eval=(Act.mk t ds).eval:=funext (C3s b t ds _)
 have hop:(F b t ds (.inRegion ops (i::rest)::k)).oper?=some o:=by simp[Frame.oper?,F,ho]
 have h1:stepG P true { frame:=F b t ds (.inRegion ops (i::rest)::k),callers:=cs,status:=.running,dying:=none } w =
   stepG.oper P true (F b t ds (.inRegion ops (i::rest)::k)) cs none w:=by
  simp[F,stepG,stepG.exec,ho,hw]
 rw[h1]
 unfold stepG.oper
 simp only[hop,he]
 split
 ·rename_i h2; exact(hd _ h2).elim
 ·rfl
theorem A0t{v:Value}{nx:Next}{w':World}(ho:ops[i]?=some o)(hw:Region.wanted o (yielded ops t)=true)(hd:∀ c,o.op≠.defer c)(hr:(execOp (Act.mk t ds).eval o).run P w=.ok nx w')(hn:nx=.value v \/ nx=.skip/\v=undef) :
  step P (lone (F b t ds (.inRegion ops (i::rest)::k)) cs w)=.next (lone (F b ((Act.mk t ds).put o.dst v).tmps ds (.inRegion ops rest::k)) cs w'):=by
 rw[<- B1f (b:=b) (k:=k) v ho]
 refine step_lone_go ?_
 rw[stepG_op' ho hw hd]
 rcases hn with rfl | ⟨rfl,rfl⟩<;>simp[stepG.apply,hr]
theorem D1k{f:FuncId}{args:Array Value}{w':World}(ho:ops[i]?=some o)(hw:Region.wanted o (yielded ops t)=true)(hd:∀ c,o.op≠.defer c)(hr:(execOp (Act.mk t ds).eval o).run P w=.ok (.enter f args) w') :
  step P (lone (F b t ds (.inRegion ops (i::rest)::k)) cs w)=.next (lone (Frame.enter P f args .normal) (F b t ds (.inRegion ops (i::rest)::k)::cs) w'):=by
 refine step_lone_go ?_
 rw[stepG_op' ho hw hd]
 simp[stepG.apply,hr,F]
theorem D1l{l f:Nat}{tm:Array Value}{as body:Code}{w':World}(ho:ops[i]?=some o)(hw:Region.wanted o (yielded ops t)=true)(hd:∀ c,o.op≠.defer c)(hr:(execOp (Act.mk t ds).eval o).run P w=.ok (.round l f tm as body) w') :
  step P (lone (F b t ds (.inRegion ops (i::rest)::k)) cs w)=.next (lone (Frame.round l f tm as body .normal) (F b t ds (.inRegion ops (i::rest)::k)::cs) w'):=by
 refine step_lone_go ?_
 rw[stepG_op' ho hw hd]
 simp[stepG.apply,hr]
end
end Go.Ad
namespace Go.Ad
section
variable {P:Program} {b:Frame} {t:Array Value} {ds:List Deferred} {k:List Item} {cs:List Frame} {w:World}
theorem A2c{l:Nat}{L:Loop}(h:w.heap[l]?=some (.loop L)):(Instr.getLoop l).run P w=.ok L w:=by
 simp[Instr.getLoop,getObj,Sem.run,h]
theorem B0w{l:Nat}{L:Loop}{o:Obj}(h:w.heap[l]?=some (.loop L)):(setObj l o).run P w=.ok () { w with heap:=w.heap.setIfInBounds l o }:=by
 simp[setObj,Sem.run,h]
theorem C1h{l:Nat}{L:Loop}(hb:b.roundOf=some l)(h:w.heap[l]?=some (.loop L))(hs:L.state=.ready) :
  step P (lone (F b t ds (.beginRound::k)) cs w)=.next (lone (F b t ds k) cs { w with heap:=w.heap.setIfInBounds l (.loop { L with state:=.busy }) }):=by
 refine step_lone_go ?_
 simp[stepG,stepG.exec,F,hb,stepG.apply,Instr.beginRound,A2c h,B0w h,hs,Frame.finish]
theorem E6l{l:Nat}{L:Loop}{c:Frame}{todo:List Item}{jump:Option Code}(hb:b.roundOf=some l)(hk:b.kind=.normal)(h:w.heap[l]?=some (.loop L))(hj:(todo=[]/\jump=none) \/ (∃ k,todo=.code .ret::k/\jump=some .ret) \/ (∃ k i,todo=.code (.exit i)::k/\exitTo i k=none/\jump=some (.exit i))) :
  step P (lone (F b t ds todo) (c::cs) w) =
   .next (lone (c.finish (.bool jump.isNone)) cs { w with heap:=w.heap.setIfInBounds l (.loop { L with state:=if jump.isNone then .ready else .done,pending:=jump }) }):=by
 have hend:(Instr.endRound l jump).run P w=.ok (.bool jump.isNone) { w with heap:=w.heap.setIfInBounds l (.loop { L with state:=if jump.isNone then .ready else .done,pending:=jump }) }:=by
  simp[Instr.endRound,A2c h,B0w h]
 refine step_lone_go ?_
 rcases hj with⟨rfl,rfl⟩ | ⟨k,rfl,rfl⟩ | ⟨k,i,rfl,he,rfl⟩
 ·simp[stepG,stepG.exec,F,hb,hend,Sem.runT_eq,doReturn,hk]
 ·simp[stepG,stepG.exec,F,hb,hend,Sem.runT_eq,doReturn,hk]
 ·simp[stepG,stepG.exec,F,hb,he,hend,Sem.runT_eq,doReturn,hk]
theorem D1j{l:Nat}{L:Loop}(h:w.heap[l]?=some (.loop L))(hs:L.state≠.busy) :
  step P (lone (F b t ds (.endRangeFunc l::k)) cs w)=.next (lone (F b t ds ((L.pending.map Item.code).toList++k)) cs { w with heap:=w.heap.setIfInBounds l (.loop { L with state:=.exhausted }) }):=by
 have hend:(Instr.endLoop l).run P w=.ok L.pending { w with heap:=w.heap.setIfInBounds l (.loop { L with state:=.exhausted }) }:=by
  simp[Instr.endLoop,A2c h,B0w h,hs]
 refine step_lone_go ?_
 simp[stepG,stepG.exec,F,hend,Sem.runT_eq]
theorem C6h{l:Nat}(v:Value):(F b t ds (.inRangeFunc l::k)).finish v=F b t ds (.endRangeFunc l::k):=by
 simp[Frame.finish,F]
theorem E6m{f:Operand}{ps:Array Tmp}{as body:Code}{g:FuncId}{a c:Array Value}{fn:Func}{code:Code}(hb:b.roundOf=none)(hf:(Act.mk t ds).eval f=.func (.func g) a c)(hfn:P.funcs[g]?=some fn)(hbody:fn.body=some code)(hn:fn.name≠"runtime.NumGoroutine") :
  step P (lone (F b t ds (.code (.rangeFunc f ps as body)::k)) cs w) =
   .next (lone (Frame.enter P g (a++#[.func (.yield (w.heap.size+1)) #[] #[]]++c) .normal)
    (F b t ({ target:=.collected w.heap.size,args:=#[] }::ds) (.inRangeFunc (w.heap.size+1)::k)::cs)
    { w with heap:=(w.heap.push (.deferred (some []))).push (.loop { state:=.ready,pending:=none,fn:=b.fn,tmps:=t,params:=ps,assign:=as,body:=body,defers:=w.heap.size }) }):=by
 refine step_lone_go ?_
 have hcall:∀ (args:Array Value) (w:World),(callFunc g args).run P w=.ok (.enter g args) w:=fun args w=>by
  simp[callFunc,hfn,hn,hbody]
 have hres:∀ (U:Operand->Value) (v:Value) (w:World),U f=.func (.func g) a c->U (.const v)=v ->
   ((do let d <- resolve U { callee:=.value f,args:=#[.const v],argTypes:=#[] } 0; invoke d.target d.args):Sem Next).run P w=.ok (.enter g (a++#[v]++c)) w:=fun U v w h1 h2=>by
  simp[resolve,h1,h2,Deferred.ofValue,invoke,hcall]
 have h1:=hres (F b t (({ target:=.collected w.heap.size,args:=#[] }:Deferred)::ds) (.inRangeFunc (w.heap.size+1)::k)).eval (.func (.yield (w.heap.size+1)) #[] #[])
  { w with heap:=(w.heap.push (.deferred (some []))).push (.loop { state:=.ready,pending:=none,fn:=b.fn,tmps:=t,params:=ps,assign:=as,body:=body,defers:=w.heap.size }) }
  (by rw[C3s]; cases f<;>exact hf) rfl
 simp only[F] at h1
 simp[stepG,stepG.exec,F,hb,Instr.enterLoop,Sem.runT_eq,stepG.apply,Sem.run_bind] at h1 ⊢
 rw[h1]
 simp
theorem D1m{f:Operand}{ps:Array Tmp}{as body:Code}{g:FuncId}{a c:Array Value}{fn:Func}{code:Code}{l0:Nat}{L0:Loop}(hb:b.roundOf=some l0)(hL0:w.heap[l0]?=some (.loop L0))(hf:(Act.mk t ds).eval f=.func (.func g) a c)(hfn:P.funcs[g]?=some fn)(hbody:fn.body=some code)(hn:fn.name≠"runtime.NumGoroutine") :
  step P (lone (F b t ds (.code (.rangeFunc f ps as body)::k)) cs w) =
   .next (lone (Frame.enter P g (a++#[.func (.yield w.heap.size) #[] #[]]++c) .normal)
    (F b t ds (.inRangeFunc w.heap.size::k)::cs)
    { w with heap:=w.heap.push (.loop { state:=.ready,pending:=none,fn:=b.fn,tmps:=t,params:=ps,assign:=as,body:=body,defers:=L0.defers }) }):=by
 refine step_lone_go ?_
 have hcall:∀ (args:Array Value) (w:World),(callFunc g args).run P w=.ok (.enter g args) w:=fun args w=>by
  simp[callFunc,hfn,hn,hbody]
 have hres:∀ (U:Operand->Value) (v:Value) (w:World),U f=.func (.func g) a c->U (.const v)=v ->
   ((do let d <- resolve U { callee:=.value f,args:=#[.const v],argTypes:=#[] } 0; invoke d.target d.args):Sem Next).run P w=.ok (.enter g (a++#[v]++c)) w:=fun U v w h1 h2=>by
  simp[resolve,h1,h2,Deferred.ofValue,invoke,hcall]
 have h1:=hres (F b t ds (.inRangeFunc w.heap.size::k)).eval (.func (.yield w.heap.size) #[] #[])
  { w with heap:=w.heap.push (.loop { state:=.ready,pending:=none,fn:=b.fn,tmps:=t,params:=ps,assign:=as,body:=body,defers:=L0.defers }) }
  (by rw[C3s]; cases f<;>exact hf) rfl
 simp only[F] at h1
 simp[stepG,stepG.exec,F,hb,Instr.enterLoop,A2c hL0,Sem.runT_eq,stepG.apply,Sem.run_bind] at h1 ⊢
 rw[h1]
 simp
theorem F4q{r:Nat}{todo:List Item}(h:w.heap[r]?=some (.deferred (some []))) :
  step P (lone { F b t ({ target:=.collected r,args:=#[] }::ds) todo with mode:=.returning } cs w) =
   .next (lone { F b t ds todo with mode:=.returning } cs { w with heap:=w.heap.setIfInBounds r (.deferred none) }):=by
 have ht:(Instr.takeDeferred r).run P w=.ok [] { w with heap:=w.heap.setIfInBounds r (.deferred none) }:=by
  simp[Instr.takeDeferred,getObj,setObj,Sem.run,h]
 refine step_lone_go ?_
 simp[stepG,F,unwind,Sem.runT_eq,ht]
end
end Go.Ad
