/- The machine's own steps at a range over a function. -/
import Derived.Test.YteobbbhfocbgkaaGreatDoorAdMach
import Derived.Laws.Sem
namespace Go.Ad
section
variable {P:Program} {b:Frame} {t:Array Value} {ds:List Deferred} {k:List Item} {cs:List Frame} {w:World}
theorem getLoop_run {l:Nat} {L:Loop} (h:w.heap[l]?=some (.loop L)):(Instr.getLoop l).run P w=.ok L w:=by
 simp [Instr.getLoop,getObj,Sem.run,h]
theorem setObj_run {l:Nat} {L:Loop} {o:Obj} (h:w.heap[l]?=some (.loop L)):(setObj l o).run P w=.ok () { w with heap:=w.heap.setIfInBounds l o }:=by
 simp [setObj,Sem.run,h]
theorem go_beginRound {l:Nat} {L:Loop} (hb:b.roundOf=some l) (h:w.heap[l]?=some (.loop L)) (hs:L.state=.ready) :
  step P (lone (F b t ds (.beginRound :: k)) cs w)=.next (lone (F b t ds k) cs { w with heap:=w.heap.setIfInBounds l (.loop { L with state:=.busy }) }):=by
 refine step_lone_go ?_
 simp [stepG,stepG.exec,F,hb,stepG.apply,Instr.beginRound,getLoop_run h,setObj_run h,hs,Frame.finish]
theorem go_leave {l:Nat} {L:Loop} {c:Frame} {todo:List Item} {jump:Option Code} (hb:b.roundOf=some l) (hk:b.kind=.normal) (h:w.heap[l]?=some (.loop L))
  (hj:(todo=[]∧jump=none) ∨ (∃ k,todo=.code .ret :: k∧jump=some .ret) ∨ (∃ k i,todo=.code (.exit i) :: k∧exitTo i k=none∧jump=some (.exit i))) :
  step P (lone (F b t ds todo) (c :: cs) w) =
   .next (lone (c.finish (.bool jump.isNone)) cs { w with heap:=w.heap.setIfInBounds l (.loop { L with state:=if jump.isNone then .ready else .done,pending:=jump }) }):=by
 have hend:(Instr.endRound l jump).run P w=.ok (.bool jump.isNone) { w with heap:=w.heap.setIfInBounds l (.loop { L with state:=if jump.isNone then .ready else .done,pending:=jump }) }:=by
  simp [Instr.endRound,getLoop_run h,setObj_run h]
 refine step_lone_go ?_
 rcases hj with ⟨rfl,rfl⟩ | ⟨k,rfl,rfl⟩ | ⟨k,i,rfl,he,rfl⟩
 ·simp [stepG,stepG.exec,F,hb,hend,Sem.runT_eq,doReturn,hk]
 ·simp [stepG,stepG.exec,F,hb,hend,Sem.runT_eq,doReturn,hk]
 ·simp [stepG,stepG.exec,F,hb,he,hend,Sem.runT_eq,doReturn,hk]
theorem go_endRange {l:Nat} {L:Loop} (h:w.heap[l]?=some (.loop L)) (hs:L.state ≠ .busy) :
  step P (lone (F b t ds (.endRangeFunc l :: k)) cs w)=.next (lone (F b t ds ((L.pending.map Item.code).toList++k)) cs { w with heap:=w.heap.setIfInBounds l (.loop { L with state:=.exhausted }) }):=by
 have hend:(Instr.endLoop l).run P w=.ok L.pending { w with heap:=w.heap.setIfInBounds l (.loop { L with state:=.exhausted }) }:=by
  simp [Instr.endLoop,getLoop_run h,setObj_run h,hs]
 refine step_lone_go ?_
 simp [stepG,stepG.exec,F,hend,Sem.runT_eq]
theorem finish_range {l:Nat} (v:Value):(F b t ds (.inRangeFunc l :: k)).finish v=F b t ds (.endRangeFunc l :: k):=by
 simp [Frame.finish,F]
theorem go_range {f:Operand} {ps:Array Tmp} {as body:Code} {g:FuncId} {a c:Array Value} {fn:Func} {code:Code} (hb:b.roundOf=none) (hf:(Act.mk t ds).eval f=.func (.func g) a c)
  (hfn:P.funcs[g]?=some fn) (hbody:fn.body=some code) (hn:fn.name ≠ "runtime.NumGoroutine") :
  step P (lone (F b t ds (.code (.rangeFunc f ps as body) :: k)) cs w) =
   .next (lone (Frame.enter P g (a++#[.func (.yield (w.heap.size+1)) #[] #[]]++c) .normal)
    (F b t ({ target:=.collected w.heap.size,args:=#[] } :: ds) (.inRangeFunc (w.heap.size+1) :: k) :: cs)
    { w with heap:=(w.heap.push (.deferred (some []))).push (.loop { state:=.ready,pending:=none,fn:=b.fn,tmps:=t,params:=ps,assign:=as,body:=body,defers:=w.heap.size }) }):=by
 refine step_lone_go ?_
 have hcall:∀ (args:Array Value) (w:World),(callFunc g args).run P w=.ok (.enter g args) w:=fun args w=>by
  simp [callFunc,hfn,hn,hbody]
 have hres:∀ (ρ:Operand→Value) (v:Value) (w:World),ρ f=.func (.func g) a c→ρ (.const v)=v →
   ((do let d ← resolve ρ { callee:=.value f,args:=#[.const v],argTypes:=#[] } 0; invoke d.target d.args):Sem Next).run P w=.ok (.enter g (a++#[v]++c)) w:=fun ρ v w h1 h2=>by
  simp [resolve,h1,h2,Deferred.ofValue,invoke,hcall]
 have h1:=hres (F b t (({ target:=.collected w.heap.size,args:=#[] }:Deferred) :: ds) (.inRangeFunc (w.heap.size+1) :: k)).eval (.func (.yield (w.heap.size+1)) #[] #[])
  { w with heap:=(w.heap.push (.deferred (some []))).push (.loop { state:=.ready,pending:=none,fn:=b.fn,tmps:=t,params:=ps,assign:=as,body:=body,defers:=w.heap.size }) }
  (by rw [F_eval]; cases f <;> exact hf) rfl
 simp only [F] at h1
 simp [stepG,stepG.exec,F,hb,Instr.enterLoop,Sem.runT_eq,stepG.apply,Sem.run_bind] at h1 ⊢
 rw [h1]
 simp
theorem go_range_in {f:Operand} {ps:Array Tmp} {as body:Code} {g:FuncId} {a c:Array Value} {fn:Func} {code:Code} {l0:Nat} {L0:Loop} (hb:b.roundOf=some l0) (hL0:w.heap[l0]?=some (.loop L0)) (hf:(Act.mk t ds).eval f=.func (.func g) a c)
  (hfn:P.funcs[g]?=some fn) (hbody:fn.body=some code) (hn:fn.name ≠ "runtime.NumGoroutine") :
  step P (lone (F b t ds (.code (.rangeFunc f ps as body) :: k)) cs w) =
   .next (lone (Frame.enter P g (a++#[.func (.yield w.heap.size) #[] #[]]++c) .normal)
    (F b t ds (.inRangeFunc w.heap.size :: k) :: cs)
    { w with heap:=w.heap.push (.loop { state:=.ready,pending:=none,fn:=b.fn,tmps:=t,params:=ps,assign:=as,body:=body,defers:=L0.defers }) }):=by
 refine step_lone_go ?_
 have hcall:∀ (args:Array Value) (w:World),(callFunc g args).run P w=.ok (.enter g args) w:=fun args w=>by
  simp [callFunc,hfn,hn,hbody]
 have hres:∀ (ρ:Operand→Value) (v:Value) (w:World),ρ f=.func (.func g) a c→ρ (.const v)=v →
   ((do let d ← resolve ρ { callee:=.value f,args:=#[.const v],argTypes:=#[] } 0; invoke d.target d.args):Sem Next).run P w=.ok (.enter g (a++#[v]++c)) w:=fun ρ v w h1 h2=>by
  simp [resolve,h1,h2,Deferred.ofValue,invoke,hcall]
 have h1:=hres (F b t ds (.inRangeFunc w.heap.size :: k)).eval (.func (.yield w.heap.size) #[] #[])
  { w with heap:=w.heap.push (.loop { state:=.ready,pending:=none,fn:=b.fn,tmps:=t,params:=ps,assign:=as,body:=body,defers:=L0.defers }) }
  (by rw [F_eval]; cases f <;> exact hf) rfl
 simp only [F] at h1
 simp [stepG,stepG.exec,F,hb,Instr.enterLoop,getLoop_run hL0,Sem.runT_eq,stepG.apply,Sem.run_bind] at h1 ⊢
 rw [h1]
 simp
theorem go_take {r:Nat} {todo:List Item} (h:w.heap[r]?=some (.deferred (some []))) :
  step P (lone { F b t ({ target:=.collected r,args:=#[] } :: ds) todo with mode:=.returning } cs w) =
   .next (lone { F b t ds todo with mode:=.returning } cs { w with heap:=w.heap.setIfInBounds r (.deferred none) }):=by
 have ht:(Instr.takeDeferred r).run P w=.ok [] { w with heap:=w.heap.setIfInBounds r (.deferred none) }:=by
  simp [Instr.takeDeferred,getObj,setObj,Sem.run,h]
 refine step_lone_go ?_
 simp [stepG,F,unwind,Sem.runT_eq,ht]
end
end Go.Ad
