/- Loops over maps: whatever the order in which the entries come. The steps of the machine. -/
import Derived.Test.YteobbbhfocbgkaaGreatDoorAdPat
import Derived.Laws.IdiomRangeMap
namespace Go.Ad
section
variable {P:Program} {A:Amb} {r:Rec}
theorem aops_pre (hr:SRec P A r) (hfr:FrOK r) {ops:Array Oper} {b:Frame} {ds:List Deferred} {k:List Item} {cs:List Frame} (rest:List Nat):∀ (l:List Oper) (k0:Nat) (ρ:List AV) (B:Heap) (ρ':List AV) (B':Heap) (D:List Nat)
  (ι:Emb) (w:World) (t:Array Value),(∀ j,j < l.length→l[j]?=ops[k0+j]?)→aops P r ops l ρ B=some (ρ',B',D)→Sim A ι B w.heap→Dom ι B.length→GlobOK P ι→VRL ι ρ t.toList →
  ∃ ι' w' t',Steps P (lone (F b t ds (.inRegion ops (List.range' k0 l.length++rest) :: k)) cs w) (lone (F b t' ds (.inRegion ops rest :: k)) cs w')∧VRL ι' ρ' t'.toList∧After A ι ι' B B' D w w'
 | [],k0,ρ,B,ρ',B',D,ι,w,t,_,h,hs,hd,hg,hv=>by
  simp only [aops,Option.some.injEq,Prod.mk.injEq] at h
  obtain ⟨rfl,rfl,rfl⟩:=h
  exact ⟨ι,w,t,.refl _ _,hv,.refl hs hd⟩
 | o :: l,k0,ρ,B,ρ',B',D,ι,w,t,hl,h,hs,hd,hg,hv=>by
  have ho:ops[k0]?=some o:=by simpa using (hl 0 (by simp)).symm
  have hl':∀ j,j < l.length→l[j]?=ops[k0+1+j]?:=fun j hj=>by have:=hl (j+1) (by simp; omega); simpa [Nat.add_assoc,Nat.add_comm 1 j] using this
  simp only [List.length_cons,List.range'_succ,List.cons_append]
  simp only [aops] at h
  split at h
  ·rename_i hw
   split at h
   ·rename_i v B1 D1 h1
    simp only [withAV_eq] at h
    split at h
    ·rename_i ρ2 B2 D2 h2
     cases h
     obtain ⟨ι1,v',w1,s1,s2,s3⟩:=one_sound (w:=w) (ds:=ds) hr hfr h1 hs hd hg (aval_VR hv hg) ho (want_of hw hv) b (List.range' (k0+1) l.length++rest) k cs
     obtain ⟨ι2,w2,t2,q1,q2,q3⟩:=aops_pre hr hfr rest l (k0+1) _ _ _ _ _ ι1 w1 _ hl' h2 s3.sim s3.dom (hg.mono s3.step.ext) (aput_VRL (ds:=ds) (hv.mono s3.step.ext) s2)
     exact ⟨ι2,w2,t2,s1.trans q1,q2,s3.trans q3⟩
    ·simp at h
   ·simp at h
  ·rename_i hw
   obtain ⟨ι2,w2,t2,q1,q2,q3⟩:=aops_pre hr hfr rest l (k0+1) _ _ _ _ _ ι w _ hl' h hs hd hg (aput_VRL (ds:=ds) (d:=o.dst) hv undef_VR)
   exact ⟨ι2,w2,t2,(Steps.one (go_op_skip ho (want_of hw hv))).trans q1,q2,q3⟩
  ·simp at h
theorem next_any {w:World} {ry bm n c0:Nat} {seen:Array Nat} {en:Array MapEntry} {ck:Nat} (hr:w.heap[ry]?=some (.mapIter (some bm) n seen c0)) (hb:w.heap[bm]?=some (.map en ck)) (hold:∀ x ∈ en.toList,x.born < n) (hsc:n≤c0) (ty:TypeId) :
  ((leftOf en seen).size=0∧(Instr.next (.pointer (some ⟨ry,0,none⟩)) false ty).run P w=.ok (.tuple #[.bool false]) w) ∨
  ∃ e ∈ (leftOf en seen).toList,∃ d,(Instr.next (.pointer (some ⟨ry,0,none⟩)) false ty).run P w=.ok (.tuple #[.bool true,e.key,e.val]) { w with heap:=w.heap.setIfInBounds ry (.mapIter (some bm) n (seen.push e.born) ck),drawn:=d }:=by
 simp only [Instr.next,getObj,Sem.run_bind,Sem.run,hr,hb,Result.andThen,next_test_false seen en n c0 hold hsc,Bool.false_eq_true,if_false]
 unfold leftOf
 have hmem:∀ x ∈ (Array.filter (fun e=>!seen.contains e.born) en).toList,x.born < n:=fun x hx=>hold x (by simp at hx ⊢; exact hx.1)
 generalize Array.filter (fun e=>!seen.contains e.born) en=L at hmem ⊢
 have e1:L.filter (fun x=>decide (x.born < n))=L:=Array.filter_eq_self.2 (fun x hx=>by simpa using hmem x (by simpa using hx))
 have e2:L.filter (fun x=>decide (x.born ≥ n))=#[]:=by
  rw [Array.filter_eq_empty_iff]
  intro x hx
  have:=hmem x (by simpa using hx)
  simp
  omega
 simp only [e1,e2,Array.append_empty]
 by_cases h0:L.size=0
 ·left
  have:L=#[]:=Array.eq_empty_of_size_eq_zero h0
  subst this
  refine ⟨rfl,?_⟩
  simp [choose,Sem.run,Question.forced]
 ·right
  have hne:L.isEmpty=false:=by simp [Array.isEmpty,h0]
  simp only [hne,Bool.false_eq_true,if_false,Array.empty_append,Array.size_map]
  have hch:∃ (j:Nat) (d:Nat),j < L.size∧(choose (Question.mapNext L.size)).run P w=.ok j { w with drawn:=d }:=by
   by_cases hf:L.size≤1
   ·exact ⟨0,w.drawn,by omega,by simp [choose,Sem.run,Question.forced,hf]⟩
   ·exact ⟨_,w.drew.drawn,Nat.mod_lt _ (by omega),by
     simp only [choose,Sem.run,Question.forced,decide_eq_true_eq,hf,if_false,Question.cut]
     rfl⟩
  obtain ⟨j,d,hj,hrun⟩:=hch
  refine ⟨L[j],by simp,d,?_⟩
  have hlt:ry < w.heap.size:=(Array.getElem?_eq_some_iff.1 hr).1
  simp only [hrun,Array.getElem?_map,Array.getElem?_eq_getElem hj,Option.map_some,Sem.run_bind,setObj,Sem.run,Result.andThen,hr]
  rfl
theorem entry_any {w:World} {ry bm n:Nat} {seen:Array Nat} {en:Array MapEntry} {ck:Nat} {e:MapEntry} (hr:w.heap[ry]?=some (.mapIter (some bm) n (seen.push e.born) ck)) (hb:w.heap[bm]?=some (.map en ck)) (he:e ∈ en.toList) (hn:(en.toList.map (·.born)).Nodup) :
  (Instr.entry (.pointer (some ⟨ry,0,none⟩))).run P w=.ok (.tuple #[e.key,e.val]) w:=by
 have hf:en.find? (·.born == e.born)=some e:=by rw [← Array.find?_toList]; exact find_born e en.toList hn he
 simp only [Instr.entry,getObj,Sem.run_bind,Sem.run,hr,hb,Result.andThen,Array.back?_push,bne_self_eq_false,Bool.false_eq_true,if_false,hf]
 rfl
theorem range_any {w:World} {t k e:TypeId} {bm:Nat} {en:Array MapEntry} {ck:Nat} (ht:P.underlying t=some (.map k e)) (hb:w.heap[bm]?=some (.map en ck)) :
  (Instr.range t (.map (some bm))).run P w=.ok (.pointer (some ⟨w.heap.size,0,none⟩)) (w.alloc (.mapIter (some bm) ck #[] ck)):=run_range_map w t k e bm en ck ht hb
end
end Go.Ad
namespace Go.Ad
section
variable {P:Program} {A:Amb} {r:Rec}
theorem emb_same {ι ι2:Emb} {n:Nat} {D:List Nat} {w w2:World} (hs:Step ι ι2 n n D w w2):ι2=ι:=by
 funext b
 cases h:ι b with
 | some l=>exact hs.ext b l h
 | none =>
  cases h2:ι2 b with
  | none=>rfl
  | some l =>
   obtain ⟨p,q,_⟩:=hs.dom b l h h2
   omega
theorem iter_write {ι:Emb} {B:Heap} {w:World} {mi:Nat} {li:Loc} {m:Option Nat} {s c:Nat} {seen:Array Nat} {m':Option Nat} {s' c':Nat} {seen':Array Nat} {d:Nat} (hs:Sim A ι B w.heap) (hmi:B[mi]?=some .miter) (hli:ι mi=some li)
  (h0:w.heap[li.c]?=some (.mapIter m s seen c)) :
  Step ι ι B.length B.length [mi] w { w with heap:=w.heap.setIfInBounds li.c (.mapIter m' s' seen' c'),drawn:=d }∧Sim A ι B (w.heap.setIfInBounds li.c (.mapIter m' s' seen' c')):=by
 have hlt:li.c < w.heap.size:=hs.lt mi li hli
 have hne:∀ x,x ≠ li.c→(w.heap.setIfInBounds li.c (.mapIter m' s' seen' c'))[x]?=w.heap[x]?:=fun x hx=>Array.getElem?_setIfInBounds_ne (Ne.symm hx)
 refine ⟨⟨ι.le_refl,fun x lx p q=>(by rw [p] at q; cases q),by simp,fun c _ hD=>hne c fun e=>hD mi (by simp) li hli e.symm,fun c L0 hL=>?_,fun c d hd'=>?_,rfl,rfl,rfl⟩,?_⟩
 ·by_cases e:c=li.c
  ·subst e; rw [h0] at hL; cases hL
  ·exact ⟨L0,(hne c e).trans hL⟩
 ·by_cases e:c=li.c
  ·subst e; rw [h0] at hd'; cases hd'
  ·exact (hne c e).trans hd'
 ·have:=hs.upd (o':=.miter) hmi hli rfl (by simp) hne ⟨m',s',seen',c',by simp [hlt]⟩
  have hset:B.set mi .miter=B:=by
   apply List.ext_getElem?
   intro i
   rw [List.getElem?_set]
   by_cases e:mi=i
   ·subst e
    rw [if_pos rfl,hmi]
    have:mi < B.length:=(List.getElem?_eq_some_iff.1 hmi).1
    simp [this]
   ·rw [if_neg e]
  rwa [hset] at this
theorem step_comp {ι:Emb} {n mi:Nat} {D D':List Nat} {w w1 w2:World} (h:Step ι ι n n D w w1) (h':Step ι ι n n D' w1 w2) (hD:∀ b,b ∈ D→b=mi) (hD':∀ b,b ∈ D'→b=mi):Step ι ι n n [mi] w w2 :=
 ⟨ι.le_refl,fun b l p q=>(by rw [p] at q; cases q),Nat.le_trans h.size h'.size,fun c hc hk=>(h'.keep c (Nat.lt_of_lt_of_le hc h.size) fun b hb l hl=>hk b (by rw [hD' b hb]; simp) l hl).trans (h.keep c hc fun b hb l hl=>hk b (by rw [hD b hb]; simp) l hl),
  fun c L hL=>let ⟨L1,h1⟩:=h.loops c L hL; h'.loops c L1 h1,fun c d hd=>h'.defs c d (h.defs c d hd),h'.tape.trans h.tape,h'.os.trans h.os,h'.out.trans h.out⟩
theorem left_less {en:Array MapEntry} {seen:Array Nat} {e:MapEntry} (he:e ∈ (leftOf en seen).toList):(leftOf en (seen.push e.born)).size < (leftOf en seen).size:=by
 unfold leftOf at he ⊢
 have hsz:∀ p:MapEntry→Bool,(en.filter p).size=(en.toList.filter p).length:=fun p=>by rw [← Array.length_toList,Array.toList_filter]
 rw [hsz,hsz]
 rw [Array.toList_filter] at he
 obtain ⟨h1,h2⟩:=List.mem_filter.1 he
 exact filter_lt (fun x:MapEntry=>!seen.contains x.born) (fun x:MapEntry=>!(seen.push e.born).contains x.born) (fun x hx=>by
  simp only [Bool.not_eq_true',Array.contains_eq_mem,Array.mem_push,decide_eq_false_iff_not,not_or] at hx ⊢; exact hx.1) e h2 (by simp) _ h1
theorem map_loop (hr:SRec P A r) (hfr:FrOK r) {ρ:List AV} {B:Heap} {mb mi:Nat} {it tn te tok:Tmp} {i2 i3 id0 id1:Nat} {ops2 ops3:Array Oper} {c4:Code} {es:List (AV × AV)} {ρn ρe:List AV}
  (hmi:B[mi]?=some .miter) (hit:ρ[it]?=some (.ptr (some (mi,0))))
  {o2:Oper} (h20:ops2[0]?=some o2) (h2op:o2.op=.next (.tmp it) false) (h2g:o2.guard=none) (h2d:o2.dst=some tn)
  (h2t:aops P r ops2 (ops2.toList.drop 1) (aput ρ (some tn) (.tuple [.bool true,.bad,.bad])) B=some (ρn,B,[]))
  (h2f:aops P r ops2 (ops2.toList.drop 1) (aput ρ (some tn) (.tuple [.bool false])) B=some (ρe,B,[]))
  (hnt:ρn[tok]?=some (.bool true)) (het:ρe[tok]?=some (.bool false)) (hni:ρn[it]?=some (.ptr (some (mi,0))))
  {o3:Oper} (h30:ops3[0]?=some o3) (h3op:o3.op=.entry (.tmp it)) (h3g:o3.guard=none) (h3d:o3.dst=some te)
  (hb:∀ e ∈ es,∃ ρ3,aops P r ops3 (ops3.toList.drop 1) (aput ρn (some te) (.tuple [e.1,e.2])) B=some (ρ3,B,[])∧SEB P A B c4 ⟨ρ3,B,[]⟩ .normal ⟨ρ,B,[]⟩)
  {body:Code} (hbody:body=.seq (.region i2 ops2 false) (.seq (.cond (.tmp tok) .skip (.exit id0)) (.block id1 (.seq (.region i3 ops3 false) c4)))) :
  ∀ (k0:Nat) (seen:Array Nat) (c0:Nat) (ι:Emb) (w:World) (b:Frame) (t:Array Value) (ds:List Deferred) (k:List Item) (cs:List Frame) (li lm:Loc) (en:Array MapEntry) (ck:Nat),(leftOf en seen).size≤k0→ι mi=some li→li.d=0→ι mb=some lm →
   w.heap[li.c]?=some (.mapIter (some lm.c) ck seen c0)→ck≤c0→w.heap[lm.c]?=some (.map en ck)→VRL ι (es.map (·.1)) (en.toList.map (·.key))→VRL ι (es.map (·.2)) (en.toList.map (·.val))→bornOK (en.toList.map (·.born)) ck →
   Sim A ι B w.heap→Dom ι B.length→GlobOK P ι→VRL ι ρ t.toList→∀ N,N≤w.heap.size→DOK N w ds→RoundOK b w→b.kind=.normal →
   ∃ w' t' ds' todo,Steps P (lone (F b t ds (.code body :: .inLoop body :: k)) cs w) (lone (F b t' ds' (.code (.exit id0) :: todo)) cs w')∧exitTo id0 todo=exitTo id0 k∧Step ι ι B.length B.length [mi] w w'∧Sim A ι B w'.heap∧VRL ι ρe t'.toList∧DOK N w' ds':=by
 have hsz2:List.range ops2.size=0 :: List.range' 1 (ops2.toList.drop 1).length:=by
  have h:0 < ops2.size:=(Array.getElem?_eq_some_iff.1 h20).1
  obtain ⟨m,hm⟩:∃ m,ops2.size=m+1:=⟨ops2.size - 1,by omega⟩
  rw [List.range_eq_range',hm,List.range'_succ,List.length_drop,Array.length_toList,hm]; rfl
 have hsz3:List.range ops3.size=0 :: List.range' 1 (ops3.toList.drop 1).length:=by
  have h:0 < ops3.size:=(Array.getElem?_eq_some_iff.1 h30).1
  obtain ⟨m,hm⟩:∃ m,ops3.size=m+1:=⟨ops3.size - 1,by omega⟩
  rw [List.range_eq_range',hm,List.range'_succ,List.length_drop,Array.length_toList,hm]; rfl
 have hl2:∀ j,(ops2.toList.drop 1)[j]?=ops2[1+j]?:=fun j=>by rw [List.getElem?_drop,Array.getElem?_toList]
 have hl3:∀ j,(ops3.toList.drop 1)[j]?=ops3[1+j]?:=fun j=>by rw [List.getElem?_drop,Array.getElem?_toList]
 have hnd2:∀ c,o2.op ≠ .defer c:=fun c hc=>by rw [h2op] at hc; cases hc
 have hnd3:∀ c,o3.op ≠ .defer c:=fun c hc=>by rw [h3op] at hc; cases hc
 have hptr:∀ (ι:Emb) (ρ:List AV) (t:Array Value) (ds:List Deferred) (li:Loc),ι mi=some li→li.d=0→ρ[it]?=some (.ptr (some (mi,0)))→VRL ι ρ t.toList→(Act.mk t ds).eval (.tmp it)=.pointer (some ⟨li.c,0,none⟩):=fun ι ρ t ds li h1 h2 h3 hv=>by
  obtain ⟨y,p,q⟩:=hv.get h3
  simp only [VR] at q
  obtain ⟨l,q1,q2⟩:=q
  rw [h1] at q1; cases q1
  rw [h2] at q2
  simp only [Act.eval]
  have p':t[it]?=some y:=by simpa using p
  rw [Array.getElem?_eq_some_iff] at p'
  obtain ⟨hlt,p'⟩:=p'
  simp [Array.getD,hlt,p',q2]
 have g1:∀ (b:Frame) t ds cs w (K:List Item),Steps P (lone (F b t ds (.code body :: K)) cs w) (lone (F b t ds (.inRegion ops2 (0 :: List.range' 1 (ops2.toList.drop 1).length) :: .code (.seq (.cond (.tmp tok) .skip (.exit id0)) (.block id1 (.seq (.region i3 ops3 false) c4))) :: K)) cs w):=fun b t ds cs w K=>by
  rw [hbody,← hsz2]
  exact (Steps.one go_seq).trans (.one go_region)
 have tokV:∀ (ι:Emb) (ρ:List AV) (t:Array Value) (ds:List Deferred) (v:Bool),ρ[tok]?=some (.bool v)→VRL ι ρ t.toList→(Act.mk t ds).eval (.tmp tok)=.bool v:=fun ι ρ t ds v h hv=>by
  obtain ⟨y,p,q⟩:=hv.get h
  simp only [VR] at q
  subst q
  simp only [Act.eval]
  have p':t[tok]?=some (.bool v):=by simpa using p
  rw [Array.getElem?_eq_some_iff] at p'
  obtain ⟨hlt,p'⟩:=p'
  simp [Array.getD,hlt,p']
 intro k0
 induction k0 using Nat.strongRecOn with
 | _ k0 ih =>
  intro seen c0 ι w b t ds k cs li lm en ck hk hli hd0 hlm hi hcc hm hv1 hv2 hbn hs hd hg hv N hN hds hrd hk0
  have hold:∀ x ∈ en.toList,x.born < ck:=fun x hx=>hbn.2 _ (List.mem_map.2 ⟨x,hx,rfl⟩)
  have hp:=hptr ι ρ t ds li hli hd0 hit hv
  have want2:Region.wanted o2 (yielded ops2 t)=true:=by unfold Region.wanted; rw [h2g]
  have s1:=g1 b t ds cs w (.inLoop body :: k)
  have hlt1:li.c < w.heap.size:=hs.lt mi li hli
  have hlt2:lm.c < w.heap.size:=hs.lt mb lm hlm
  have hcne:lm.c ≠ li.c:=fun e=>by rw [e,hi] at hm; cases hm
  rcases next_any (P:=P) hi hm hold hcc o2.type with ⟨_,hrun⟩ | ⟨e,he,d,hrun⟩
  ·-- the end
   have hex:(execOp (Act.mk t ds).eval o2).run P w=.ok (.value (.tuple #[.bool false])) w:=by
    unfold execOp
    rw [h2op]
    simp only [hp,Sem.run_bind,hrun,Result.andThen]
    rfl
   have s2:=Steps.one (go_op_value (b:=b) (k:=.code (.seq (.cond (.tmp tok) .skip (.exit id0)) (.block id1 (.seq (.region i3 ops3 false) c4))) :: .inLoop body :: k) (cs:=cs) (rest:=List.range' 1 (ops2.toList.drop 1).length) h20 want2 hnd2 hex (.inl rfl))
   have hv':VRL ι (aput ρ (some tn) (.tuple [.bool false])) ((Act.mk t ds).put o2.dst (.tuple #[.bool false])).tmps.toList:=by
    rw [h2d]
    exact aput_VRL (d:=some tn) hv (by simp [VR,VRL])
   obtain ⟨ι2,w2,t2,s3,q2,q3⟩:=aops_sound hr hfr (ops:=ops2) (ops2.toList.drop 1) 1 _ _ _ _ _ ι w _ hl2 h2f hs hd hg hv'
   have hι:=emb_same q3.step
   subst hι
   have s4:Steps P (lone (F b t2 ds (.inRegion ops2 [] :: .code (.seq (.cond (.tmp tok) .skip (.exit id0)) (.block id1 (.seq (.region i3 ops3 false) c4))) :: .inLoop body :: k)) cs w2)
     (lone (F b t2 ds (.code (.exit id0) :: .code (.block id1 (.seq (.region i3 ops3 false) c4)) :: .inLoop body :: k)) cs w2) :=
    (Steps.one go_region_end).trans ((Steps.one go_seq).trans (.one (go_cond (tokV _ _ _ _ _ het q2))))
   refine ⟨w2,t2,ds,_,s1.trans (s2.trans (s3.trans s4)),rfl,?_,q3.sim,q2,hds.keep q3.step⟩
   exact ⟨q3.step.ext,fun b l p q=>(by rw [p] at q; cases q),q3.step.size,fun c hc hD=>q3.step.keep c hc (fun _ h=>by cases h),q3.step.loops,q3.step.defs,q3.step.tape,q3.step.os,q3.step.out⟩
  ·-- an entry
   have hex:(execOp (Act.mk t ds).eval o2).run P w=.ok (.value (.tuple #[.bool true,e.key,e.val])) { w with heap:=w.heap.setIfInBounds li.c (.mapIter (some lm.c) ck (seen.push e.born) ck),drawn:=d }:=by
    unfold execOp
    rw [h2op]
    simp only [hp,Sem.run_bind,hrun,Result.andThen]
    rfl
   obtain ⟨hst1,hsim1⟩:=iter_write (d:=d) (m':=some lm.c) (s':=ck) (seen':=seen.push e.born) (c':=ck) hs hmi hli hi
   have hi1:(w.heap.setIfInBounds li.c (.mapIter (some lm.c) ck (seen.push e.born) ck))[li.c]?=some (.mapIter (some lm.c) ck (seen.push e.born) ck):=by simp [hlt1]
   have hm1:(w.heap.setIfInBounds li.c (.mapIter (some lm.c) ck (seen.push e.born) ck))[lm.c]?=some (.map en ck):=by rw [Array.getElem?_setIfInBounds_ne (Ne.symm hcne)]; exact hm
   have s2:=Steps.one (go_op_value (b:=b) (k:=.code (.seq (.cond (.tmp tok) .skip (.exit id0)) (.block id1 (.seq (.region i3 ops3 false) c4))) :: .inLoop body :: k) (cs:=cs) (rest:=List.range' 1 (ops2.toList.drop 1).length) h20 want2 hnd2 hex (.inl rfl))
   generalize hw1:({ w with heap:=w.heap.setIfInBounds li.c (.mapIter (some lm.c) ck (seen.push e.born) ck),drawn:=d }:World)=w1 at *
   have hh1:w1.heap=w.heap.setIfInBounds li.c (.mapIter (some lm.c) ck (seen.push e.born) ck):=by rw [← hw1]
   rw [← hh1] at hsim1 hi1 hm1
   have hv':VRL ι (aput ρ (some tn) (.tuple [.bool true,.bad,.bad])) ((Act.mk t ds).put o2.dst (.tuple #[.bool true,e.key,e.val])).tmps.toList:=by
    rw [h2d]
    exact aput_VRL (d:=some tn) hv (by simp only [VR,VRL]; exact ⟨_,rfl,_,_,rfl,rfl,_,_,rfl,trivial,_,_,rfl,trivial,rfl⟩)
   obtain ⟨ι2,w2,t2,s3,q2,q3⟩:=aops_sound hr hfr (ops:=ops2) (ops2.toList.drop 1) 1 _ _ _ _ _ ι w1 _ hl2 h2t hsim1 hd hg hv'
   have hι:=emb_same q3.step
   subst hι
   have hi2:=(q3.step.keep li.c (hsim1.lt mi li hli) (fun _ h=>by cases h)).trans hi1
   have hm2:=(q3.step.keep lm.c (hsim1.lt mb lm hlm) (fun _ h=>by cases h)).trans hm1
   have s4:Steps P (lone (F b t2 ds (.inRegion ops2 [] :: .code (.seq (.cond (.tmp tok) .skip (.exit id0)) (.block id1 (.seq (.region i3 ops3 false) c4))) :: .inLoop body :: k)) cs w2)
     (lone (F b t2 ds (.inRegion ops3 (0 :: List.range' 1 (ops3.toList.drop 1).length) :: .code c4 :: .inBlock id1 :: .inLoop body :: k)) cs w2):=by
    rw [← hsz3]
    exact (Steps.one go_region_end).trans ((Steps.one go_seq).trans ((Steps.one (go_cond (tokV _ _ _ _ _ hnt q2))).trans ((Steps.one go_skip).trans ((Steps.one go_block).trans ((Steps.one go_seq).trans (.one go_region))))))
   have hp3:=hptr _ ρn t2 ds li hli hd0 hni q2
   have want3:Region.wanted o3 (yielded ops3 t2)=true:=by unfold Region.wanted; rw [h3g]
   have heen:e ∈ en.toList:=by
    unfold leftOf at he
    rw [Array.toList_filter] at he
    exact (List.mem_filter.1 he).1
   have hent:=entry_any (P:=P) (w:=w2) hi2 hm2 heen hbn.1
   have hex3:(execOp (Act.mk t2 ds).eval o3).run P w2=.ok (.value (.tuple #[e.key,e.val])) w2:=by
    unfold execOp
    rw [h3op]
    simp only [hp3,Sem.run_bind,hent,Result.andThen]
    rfl
   have s5:=Steps.one (go_op_value (b:=b) (k:=.code c4 :: .inBlock id1 :: .inLoop body :: k) (cs:=cs) (rest:=List.range' 1 (ops3.toList.drop 1).length) h30 want3 hnd3 hex3 (.inl rfl))
   obtain ⟨i,hiE⟩:=List.getElem?_of_mem heen
   have hlen:=hv1.length
   rw [List.length_map,List.length_map] at hlen
   have hil:i < es.length:=by
    have:=(List.getElem?_eq_some_iff.1 hiE).1
    omega
   have hx:es[i]?=some es[i]:=List.getElem?_eq_getElem hil
   obtain ⟨y1,p1,p2⟩:=hv1.get (show (es.map (·.1))[i]?=some es[i].1 by rw [List.getElem?_map,hx]; rfl)
   obtain ⟨y2,p3,p4⟩:=hv2.get (show (es.map (·.2))[i]?=some es[i].2 by rw [List.getElem?_map,hx]; rfl)
   rw [List.getElem?_map,hiE] at p1 p3
   cases p1; cases p3
   obtain ⟨ρ3,b1,b2⟩:=hb es[i] (List.getElem_mem hil)
   have hv3:VRL ι2 (aput ρn (some te) (.tuple [es[i].1,es[i].2])) ((Act.mk t2 ds).put o3.dst (.tuple #[e.key,e.val])).tmps.toList:=by
    rw [h3d]
    exact aput_VRL (d:=some te) q2 (by simp only [VR,VRL]; exact ⟨_,rfl,_,_,rfl,p2,_,_,rfl,p4,rfl⟩)
   obtain ⟨ι3,w3,t3,s6,q5,q6⟩:=aops_sound hr hfr (ops:=ops3) (ops3.toList.drop 1) 1 _ _ _ _ _ _ w2 _ hl3 b1 q3.sim hd hg hv3
   have hι:=emb_same q6.step
   subst hι
   have hz1:N≤w3.heap.size:=Nat.le_trans hN (Nat.le_trans hst1.size (Nat.le_trans q3.step.size q6.step.size))
   obtain ⟨ι4,w4,t4,ds4,a1,a2,a3,a4⟩:=SEB.code b2 _ w3 b t3 ds (.inBlock id1 :: .inLoop body :: k) cs q6.sim hd hg q5 N hz1 (((hds.keep hst1).keep q3.step).keep q6.step) (((hrd.keep hst1).keep q3.step).keep q6.step) hk0
   have hι:=emb_same a2.step
   subst hι
   have hi4:=(a2.step.keep li.c (q6.sim.lt mi li hli) (fun _ h=>by cases h)).trans ((q6.step.keep li.c (q3.sim.lt mi li hli) (fun _ h=>by cases h)).trans hi2)
   have hm4:=(a2.step.keep lm.c (q6.sim.lt mb lm hlm) (fun _ h=>by cases h)).trans ((q6.step.keep lm.c (q3.sim.lt mb lm hlm) (fun _ h=>by cases h)).trans hm2)
   have hno:∀ b:Nat,b ∈ ([]:List Nat)→b=mi:=fun _ h=>by cases h
   have hon:∀ b:Nat,b ∈ [mi]→b=mi:=fun _ h=>by simpa using h
   have c1:=step_comp (step_comp (step_comp hst1 q3.step hon hno) q6.step hon hno) a2.step hon hno
   obtain ⟨w',t',ds',todo,f1,f2,f3,f4,f5,f6⟩:=ih _ (Nat.lt_of_lt_of_le (left_less he) hk) (seen.push e.born) ck _ w4 b t4 ds4 k cs li lm en ck (Nat.le_refl _) hli hd0 hlm hi4 (Nat.le_refl _) hm4 hv1 hv2 hbn a2.sim hd hg a3 N (Nat.le_trans hN c1.size) a4 (hrd.keep c1) hk0
   exact ⟨w',t',ds',todo,s1.trans (s2.trans (s3.trans (s4.trans (s5.trans (s6.trans ((Steps.one go_region_end).trans (Steps.trans a1 ((Steps.one go_inBlock).trans ((Steps.one go_inLoop).trans f1))))))))),f2,step_comp c1 f3 hon hon,f4,f5,f6⟩
theorem SEB.rangeMap {prims:Prims} {n:Nat} (hmix:P.follows .mixedOrders=true) (hnum:NoNum P) (hp:PrimOK P A prims) {B0:Heap} {ρ0 ρ1 ρn ρe:List AV} {Bs B1:Heap} {D0 D1:List Nat} {mb:Nat} {it tn te tok mt:Tmp} {i1 i2 i3 id0 id1:Nat} {ops1 ops2 ops3:Array Oper} {c4:Code} {es:List (AV × AV)}
  {l1:List Oper} {o1:Oper} {ty kt et:TypeId} (h1l:ops1.toList=l1++[o1]) (h1op:o1.op=.range ty (.tmp mt)) (h1g:o1.guard=none) (h1d:o1.dst=some it) (hty:P.underlying ty=some (.map kt et))
  (h1:aops P (run P prims n) ops1 l1 ρ0 Bs=some (ρ1,B1,D1)) (hmt:ρ1[mt]?=some (.map (some mb))) (hmb:B1[mb]?=some (.maps es))
  (hit:(aput ρ1 (some it) (.ptr (some (B1.length,0))))[it]?=some (.ptr (some (B1.length,0))))
  {o2:Oper} (h20:ops2[0]?=some o2) (h2op:o2.op=.next (.tmp it) false) (h2g:o2.guard=none) (h2d:o2.dst=some tn)
  (h2t:aops P (run P prims n) ops2 (ops2.toList.drop 1) (aput (aput ρ1 (some it) (.ptr (some (B1.length,0)))) (some tn) (.tuple [.bool true,.bad,.bad])) (B1++[.miter])=some (ρn,B1++[.miter],[]))
  (h2f:aops P (run P prims n) ops2 (ops2.toList.drop 1) (aput (aput ρ1 (some it) (.ptr (some (B1.length,0)))) (some tn) (.tuple [.bool false])) (B1++[.miter])=some (ρe,B1++[.miter],[]))
  (hnt:ρn[tok]?=some (.bool true)) (het:ρe[tok]?=some (.bool false)) (hni:ρn[it]?=some (.ptr (some (B1.length,0))))
  {o3:Oper} (h30:ops3[0]?=some o3) (h3op:o3.op=.entry (.tmp it)) (h3g:o3.guard=none) (h3d:o3.dst=some te)
  (hb:∀ e ∈ es,∃ ρ3,aops P (run P prims n) ops3 (ops3.toList.drop 1) (aput ρn (some te) (.tuple [e.1,e.2])) (B1++[.miter])=some (ρ3,B1++[.miter],[]) ∧
   SEB P A (B1++[.miter]) c4 ⟨ρ3,B1++[.miter],[]⟩ .normal ⟨aput ρ1 (some it) (.ptr (some (B1.length,0))),B1++[.miter],[]⟩) :
  SEB P A B0 (.seq (.region i1 ops1 false) (.block id0 (.loop (.seq (.region i2 ops2 false) (.seq (.cond (.tmp tok) .skip (.exit id0)) (.block id1 (.seq (.region i3 ops3 false) c4))))))) ⟨ρ0,Bs,D0⟩ .normal ⟨ρe,B1++[.miter],D0++(D1++[B1.length])⟩:=by
 have hr:=run_sound hmix hnum hp n
 have hfr:=run_fr P hp.fr n
 intro ι0 w0 ι w b t ds k cs hd0 hg0 ha hv N hN hds hrd hk0
 have hg:=hg0.mono ha.step.ext
 have hsz:List.range ops1.size=List.range' 0 l1.length++[l1.length]:=by
  rw [← Array.length_toList,h1l,List.length_append,List.length_singleton,List.range_eq_range',← List.range'_append_1]; simp
 have hl1:∀ j,j < l1.length→l1[j]?=ops1[0+j]?:=fun j hj=>by
  rw [Nat.zero_add,← Array.getElem?_toList,h1l,List.getElem?_append_left hj]
 have ho1:ops1[l1.length]?=some o1:=by
  rw [← Array.getElem?_toList,h1l,List.getElem?_append_right (Nat.le_refl _),Nat.sub_self]; rfl
 obtain ⟨ι1,w1,t1,s1,q1,q2⟩:=aops_pre hr hfr (ops:=ops1) (b:=b) (ds:=ds) (k:=.code (.block id0 (.loop (.seq (.region i2 ops2 false) (.seq (.cond (.tmp tok) .skip (.exit id0)) (.block id1 (.seq (.region i3 ops3 false) c4)))))) :: k) (cs:=cs) [l1.length] l1 0 ρ0 Bs ρ1 B1 D1 ι w t hl1 h1 ha.sim ha.dom hg hv
 obtain ⟨y,p1,p2⟩:=q1.get hmt
 simp only [VR] at p2
 obtain ⟨lm,hlm,rfl⟩:=p2
 obtain ⟨en,ck,hm,hv1,hv2,hbn⟩:=q2.sim.obj mb _ lm hmb hlm
 have hev:(Act.mk t1 ds).eval (.tmp mt)=.map (some lm.c):=by
  simp only [Act.eval]
  have p':t1[mt]?=some (.map (some lm.c)):=by simpa using p1
  rw [Array.getElem?_eq_some_iff] at p'
  obtain ⟨hlt,p'⟩:=p'
  simp [Array.getD,hlt,p']
 have want1:Region.wanted o1 (yielded ops1 t1)=true:=by unfold Region.wanted; rw [h1g]
 have hnd1:∀ c,o1.op ≠ .defer c:=fun c hc=>by rw [h1op] at hc; cases hc
 have hex:(execOp (Act.mk t1 ds).eval o1).run P w1=.ok (.value (.pointer (some ⟨w1.heap.size,0,none⟩))) (w1.alloc (.mapIter (some lm.c) ck #[] ck)):=by
  unfold execOp
  rw [h1op]
  simp only [hev,Sem.run_bind,range_any hty hm,Result.andThen]
  rfl
 have s2:=Steps.one (go_op_value (b:=b) (k:=.code (.block id0 (.loop (.seq (.region i2 ops2 false) (.seq (.cond (.tmp tok) .skip (.exit id0)) (.block id1 (.seq (.region i3 ops3 false) c4)))))) :: k) (cs:=cs) (rest:=[]) ho1 want1 hnd1 hex (.inl rfl))
 have hn:ι1 B1.length=none:=q2.dom _ (Nat.le_refl _)
 have hsim2:Sim A (ι1.put B1.length ⟨w1.heap.size,0,0,0⟩) (B1++[.miter]) (w1.heap.push (.mapIter (some lm.c) ck #[] ck)):=q2.sim.push hn ⟨some lm.c,ck,#[],ck,by simp⟩
 have hstep2:Step ι1 (ι1.put B1.length ⟨w1.heap.size,0,0,0⟩) B1.length (B1.length+1) [] w1 { w1 with heap:=w1.heap.push (.mapIter (some lm.c) ck #[] ck) }:=by
  have:=Step.push hn (.mapIter (some lm.c) ck #[] ck) 0 0 0 (w:=w1)
  exact ⟨this.ext,this.dom,this.size,this.keep,this.loops,this.defs,rfl,rfl,rfl⟩
 have hdom2:Dom (ι1.put B1.length ⟨w1.heap.size,0,0,0⟩) (B1++[AObj.miter]).length:=by
  rw [List.length_append,List.length_singleton]; exact q2.dom.put
 have hself:(ι1.put B1.length ⟨w1.heap.size,0,0,0⟩) B1.length=some ⟨w1.heap.size,0,0,0⟩:=Emb.put_self _ _ _
 have hlm2:(ι1.put B1.length ⟨w1.heap.size,0,0,0⟩) mb=some lm:=hstep2.ext mb lm hlm
 have hw2:w1.alloc (.mapIter (some lm.c) ck #[] ck)={ w1 with heap:=w1.heap.push (.mapIter (some lm.c) ck #[] ck) }:=rfl
 rw [hw2] at s2
 generalize hι2:ι1.put B1.length ⟨w1.heap.size,0,0,0⟩=ι2 at *
 have hiter:(w1.heap.push (.mapIter (some lm.c) ck #[] ck))[w1.heap.size]?=some (.mapIter (some lm.c) ck #[] ck):=by simp
 have hmap:(w1.heap.push (.mapIter (some lm.c) ck #[] ck))[lm.c]?=some (.map en ck):=by
  have hlt:=q2.sim.lt mb lm hlm
  rw [Array.getElem?_push_lt hlt,← Array.getElem?_eq_getElem hlt]; exact hm
 have hv':VRL ι2 (aput ρ1 (some it) (.ptr (some (B1.length,0)))) ((Act.mk t1 ds).put o1.dst (.pointer (some ⟨w1.heap.size,0,none⟩))).tmps.toList:=by
  rw [h1d]
  exact aput_VRL (d:=some it) (q1.mono hstep2.ext) (by simp only [VR]; exact ⟨_,hself,rfl⟩)
 have ha2:After A ι1 ι2 B1 (B1++[.miter]) [] w1 { w1 with heap:=w1.heap.push (.mapIter (some lm.c) ck #[] ck) }:=by
  refine ⟨by rw [List.length_append,List.length_singleton]; exact hstep2,hsim2,hdom2,⟨by simp,fun b hb _=>?_⟩⟩
  rw [List.getElem?_append_left hb]
 have hst:=ha.step
 have ha12:=(ha.trans q2).trans ha2
 obtain ⟨w',t',ds',todo,f1,f2,f3,f4,f5,f6⟩:=map_loop (A:=A) (mb:=mb) hr hfr (by simp) hit h20 h2op h2g h2d h2t h2f hnt het hni h30 h3op h3g h3d hb rfl (leftOf en #[]).size #[] ck ι2 _ b _ ds (.inBlock id0 :: k) cs ⟨w1.heap.size,0,0,0⟩ lm en ck (Nat.le_refl _) hself rfl hlm2 hiter (Nat.le_refl _) hmap
  (hv1.mono hstep2.ext) (hv2.mono hstep2.ext) hbn hsim2 hdom2 ((hg.mono q2.step.ext).mono hstep2.ext) hv' N (Nat.le_trans hN ha12.step.size) ((hds.keep q2.step).keep hstep2) (hrd.keep ha12.step) hk0
 have hx:exitTo id0 todo=some k:=by rw [f2]; simp [exitTo]
 refine ⟨ι2,w',t',ds',?_,?_,f5,f6⟩
 ·have g0:Steps P (lone (F b t ds (.code (.seq (.region i1 ops1 false) (.block id0 (.loop (.seq (.region i2 ops2 false) (.seq (.cond (.tmp tok) .skip (.exit id0)) (.block id1 (.seq (.region i3 ops3 false) c4))))))) :: k)) cs w) _:=(Steps.one go_seq).trans (.one go_region)
  rw [hsz] at g0
  exact g0.trans (s1.trans (s2.trans ((Steps.one go_region_end).trans ((Steps.one go_block).trans ((Steps.one go_loop).trans (f1.trans (.one (go_exit hx))))))))
 ·have ha3:After A ι2 ι2 (B1++[.miter]) (B1++[.miter]) [B1.length] { w1 with heap:=w1.heap.push (.mapIter (some lm.c) ck #[] ck) } w':=⟨f3,f4,hdom2,Nat.le_refl _,fun _ _ _=>rfl⟩
  have:=ha12.trans ha3
  rw [List.append_nil,List.append_assoc] at this
  exact this
end
end Go.Ad
namespace Go.Ad
def opsR:Code→Array Oper | .region _ o _=>o | _=>#[]
def opD:Oper:={ dst:=none,op:=.move (.tmp 0),type:=0,pos:="",after:=#[],guard:=none }
def lastR (c:Code):Oper:=((opsR c).toList.getLast?).getD opD
def headR (c:Code):Oper:=((opsR c).toList.head?).getD opD
section
variable {P:Program} {A:Amb} {B0:Heap} {c:Code} {e:AEx}
theorem Wk.of_nrmP {sp:AEx→SP} {ρ1:List AV} {B1:Heap} {D1 ds:List Nat} {m:Nat} {e1:AEx} {ls:List Lf} (hm:B0.length=m) (h:nrmP sp m ds e1 ρ1 B1 D1=some (e,ls)) (hok:okD m ds 0 (sp e1).h=true) :
  Wk A B0 ⟨ρ1,B1,ds++D1⟩ ⟨(sp e1).rho ls,(sp e1).heap ls,ds⟩:=by
 unfold nrmP at h
 split at h
 ·rename_i e2 ρ2 B2 ds2 h3
  split at h
  ·rename_i ls' h4
   cases h
   obtain ⟨rfl,hw⟩:=nrm_Wk (A:=A) hm h3
   exact hw.trans (SP.wk hm hok (fun _ h=>h) h4)
  ·cases h
 ·cases h
theorem SEB.of_K0 {prims:Prims} {bp:Bps} (hmix:P.follows .mixedOrders=true) (hnum:NoNum P) (hp:PrimOK P A prims) (hb:BlkOK P A bp c) {ρ ρ':List AV} {B B':Heap} {n:Nat} {live:List Tmp}
  (h:execK P (runK P prims n) bp c ρ B (keepK live)=some (e,ρ',B',[])):SEB P A B0 c ⟨ρ,B,[]⟩ e ⟨ρ',B',[]⟩:=SEB.of_K (D:=[]) hmix hnum hp hb h
end
end Go.Ad
namespace Go.Ad
section
variable {P:Program} {A:Amb}
def OSame (o o':AObj):Prop:=(∀ (ι:Emb) (hh:Array Obj) (l:Loc),OR ι hh l o ↔ OR ι hh l o')∧(o.own=o'.own)∧(o.live=o'.live)
theorem OSame.refl (o:AObj):OSame o o:=⟨fun _ _ _=>Iff.rfl,rfl,rfl⟩
theorem OSame.symm {o o':AObj} (h:OSame o o'):OSame o' o:=⟨fun ι hh l=>(h.1 ι hh l).symm,h.2.1.symm,h.2.2.symm⟩
theorem OSame.rows {n es ty:Nat} {r r':Nat→List AV} (h:∀ i,i < n→r i=r' i):OSame (.vec n r es ty) (.vec n r' es ty) :=
 ⟨fun _ _ _=>⟨fun ho=>OR.rows h ho,fun ho=>OR.rows (fun i hi=>(h i hi).symm) ho⟩,rfl,rfl⟩
def HSame (B B2:Heap):Prop:=B2.length=B.length∧∀ (b:Nat) (o:AObj),B[b]?=some o→∃ o2,B2[b]?=some o2∧OSame o o2
theorem HSame.symm {B B2:Heap} (h:HSame B B2):HSame B2 B:=⟨h.1.symm,fun b o2 hb=>by
 have hlt:b < B.length:=by rw [← h.1]; exact (List.getElem?_eq_some_iff.1 hb).1
 obtain ⟨o2',h1,h2⟩:=h.2 b _ (List.getElem?_eq_getElem hlt)
 rw [hb] at h1; cases h1
 exact ⟨_,List.getElem?_eq_getElem hlt,h2.symm⟩⟩
theorem HSame.sim {ι:Emb} {B B2:Heap} {hh:Array Obj} (h:HSame B B2) (hs:Sim A ι B2 hh):Sim A ι B hh:=by
 refine ⟨fun b o l hb hl=>?_,hs.lt,fun b b' l l' o o' hn hl hl' hb hb' g1 g2=>?_,hs.amb,fun b l o hl hb g1=>?_,hs.gLe⟩
 ·obtain ⟨o2,h1,h2⟩:=h.2 b o hb
  exact (h2.1 _ _ _).2 (hs.obj b o2 l h1 hl)
 ·obtain ⟨o2,h1,h2⟩:=h.2 b o hb
  obtain ⟨o3,h3,h4⟩:=h.2 b' o' hb'
  exact hs.own b b' l l' o2 o3 hn hl hl' h1 h3 (by rw [← h2.2.1]; exact g1) (by rw [← h4.2.2]; exact g2)
 ·obtain ⟨o2,h1,h2⟩:=h.2 b o hb
  exact hs.ownG b l o2 hl h1 (by rw [← h2.2.1]; exact g1)
theorem CallT.same {f:FuncId} {args:List AV} {v:AV} {B B2:Heap} (h:CallT P A f args B v B []) (hb:HSame B B2):CallT P A f args B2 v B2 []:=by
 intro ι w xs hs hd hg hx
 refine (h ι w xs (hb.sim hs) (by rw [← hb.1]; exact hd) hg hx).mono fun e w'=>?_
 rintro ⟨v1,ι1,rfl,hv1,haft⟩
 exact ⟨v1,ι1,rfl,hv1,⟨by rw [hb.1]; exact haft.step,hb.symm.sim haft.sim,by rw [hb.1]; exact haft.dom,⟨Nat.le_refl _,fun _ _ _=>rfl⟩⟩⟩
theorem funQ_okC {f:FuncId} {sp:SP} {m:Nat} {T:List Lf→Tr (SP × List Lf)} (hok:okD m [] 0 sp.h=true)
  (hs:∀ ls sq l,(T ls).get=some (sq,l)→frP [] 0 (sp.heap ls) (sq.heap l)∧CallT P A f (sp.rho ls) (sp.heap ls) (.tuple (sq.rho l)) (sq.heap l) []) :
  ∀ args B v B' D,(funQ sp m [] T args B).get=some (v,B',D)→AFr B B' D∧CallT P A f args B v B' D:=by
 intro args B v B' D h
 unfold funQ at h
 split at h
 ·rename_i ls hlen htk
  have hlen:=of_decide_eq_true hlen
  obtain ⟨sq,l,h1,rfl,rfl,rfl⟩:=funQT_get h
  obtain ⟨h2,h6⟩:=hs ls sq l h1
  have hfr:AFr B (sq.heap l) []:=by
   have hfr:=AFr.of_frP h2
   obtain ⟨_,p2,p3,p4⟩:=SP.parts htk
   refine ⟨by have:=hfr.1; omega,fun b hb hn=>(hfr.2 b (by omega) hn).trans ?_⟩
   have hl:b < (sp.heap ls).length:=by omega
   rcases p4 b _ (List.getElem?_eq_getElem hl) with q | ⟨o,q1,_,q3⟩
   ·omega
   ·have hp:b < sp.h.length:=by omega
    have hsame:=okD_get hok b _ (List.getElem?_eq_getElem hp) (by omega) (by simp)
    rw [List.getElem?_eq_getElem hl,q3 _ (List.getElem?_eq_getElem hp) hsame,q1]
  refine ⟨hfr,fun ι w xs hs hd hg hx=>?_⟩
  obtain ⟨ι2,ha,hv⟩:=SP.wk (A:=A) (B0:=B) (ρ:=args) (D:=[]) hlen hok (fun _ h=>h) htk ι w ι w xs hd (by
   have:=(After.refl hs hd)
   exact ⟨this.step.dirty (fun b hb=>by cases hb),this.sim,this.dom,⟨Nat.le_refl _,fun b _ _=>rfl⟩⟩) hx
  simp only at ha hv
  refine (h6 ι2 w xs ha.sim ha.dom (hg.mono ha.step.ext) hv).mono fun e w'=>?_
  rintro ⟨v1,ι1,rfl,hv1,haft⟩
  exact ⟨v1,ι1,rfl,hv1,ha.trans haft⟩
 ·cases h
end
end Go.Ad
