/- A region whose order is open: whatever order its edges allow gives the same; the schedules. -/
import Derived.Test.YtoboneiigikidaaGreatDoorAdSound4
namespace Go.Ad
section
variable {P:Program} {A:Amb} {r:Rec} {ops:Array Oper} {m:Nat} {U0:List AV} {B0:Heap}
theorem A9n{p:Nat->Bool}{j:Nat}:∀ {l:List Nat},l.Nodup->j∈l->(∀ x,x∈l->(p x=true↔x=j))->l.filter p=[j]
 | [],_,h,_=>by cases h
 | x::l,hn,hj,hp=>by
  rw[List.nodup_cons] at hn
  have hx:=hp x (by simp)
  by_cases e:x=j
  ·subst e
   rw[List.filter_cons_of_pos (hx.2 rfl)]
   have:l.filter p=[]:=by
    rw[List.filter_eq_nil_iff]
    intro y hy h
    have:=(hp y (by simp[hy])).1 h
    subst this; exact hn.1 hy
   rw[this]
  ·rw[List.filter_cons_of_neg (by rw[hx]; exact e)]
   rcases List.mem_cons.1 hj with rfl | hj
   ·exact(e rfl).elim
   ·exact A9n hn.2 hj fun y hy=>hp y (by simp[hy])
theorem R8{l:Array Bool}{i:Nat}(hi:i<l.size):l.getD i true=l.getD i false:=by
 simp[Array.getD,hi]
theorem D2h(hreg:RegOK ops m):∀ (fuel tt j:Nat) (listed:Array Bool),listed.size=ops.size->m<=j->j+fuel=ops.size->(∀ x,x<ops.size->(listed.getD x false=true↔x<j)) ->
  Region.linearise.go .any ops fuel tt listed []=List.range' j fuel
 | 0,tt,j,listed,_,_,_,_=>rfl
 | fuel+1,tt,j,listed,hsz,hmj,hf,hl=>by
  have hjn:j<ops.size:=by omega
  have hcl:Closed ops (·<j):=fun i o hi ho e he hb=>by have:=hreg.back i o ho e he hb; omega
  have hready:Region.ready .any ops listed=[j]:=by
   unfold Region.ready
   refine A9n List.nodup_range (List.mem_range.2 hjn) fun x hx=>?_
   rw[List.mem_range] at hx
   have hmr:=mem_ready (md:=.any) (ops:=ops) (listed:=listed) (j:=x)
   unfold Region.ready at hmr
   rw[List.mem_filter] at hmr
   simp only[List.mem_range,hx,true_and] at hmr
   rw[hmr]
   constructor
   ·rintro⟨h1,o,ho,h2⟩
    rw[R8 (by omega)] at h1
    have hxj:j<=x:=Nat.le_of_not_lt fun h=>by rw[(hl x hx).2 h] at h1; cases h1
    by_cases e:x=j
    ·exact e
    ·have:=O3 hcl hreg.back x o ho (fun e he hb=>(hl e.on (by have:=hreg.back x o ho e he hb; omega)).1 (h2 e he hb)) j (hreg.tail x (by omega) hx j (by omega))
     omega
   ·rintro rfl
    refine⟨?_,_,aE hjn,fun e he hb=>(hl e.on (by have:=hreg.back x _ (aE hjn) e he hb; omega)).2 (hreg.back x _ (aE hjn) e he hb)⟩
    rw[R8 (by omega)]
    cases h:listed.getD x false with
    | false=>rfl
    | true=>have:=(hl x hx).1 h; omega
  simp only[Region.linearise.go]
  change (match (Region.ready .any ops listed)[tt%(Region.ready .any ops listed).length]? with
   | some i=>Region.linearise.go .any ops fuel (tt / (Region.ready .any ops listed).length) (listed.setIfInBounds i true) [i]
   | none=>[].reverse)=_
  rw[hready]
  simp only[List.length_cons,List.length_nil,Nat.zero_add,Nat.mod_one,List.getElem?_cons_zero]
  rw[linearise_go_acc,D2h hreg fuel _ (j+1) _ (by simpa using hsz) (by omega) (by omega) (fun x hx=>?_)]
  ·simp[List.range'_succ]
  ·by_cases e:x=j
   ·subst e; simp[Array.getD,hsz,hjn]
   ·rw[getD_set_ne false (Ne.symm e),hl x hx]; omega
theorem Trc.mono (T : Trc P r ops m U0 B0) (hfr : FrOK r) (hm : m <= ops.size) : ∀ j i, i <= j -> j <= m -> AFr (T.H i) (T.H j) []
  | 0, i, hi, _ => by have : i = 0 := by omega
                      subst this; exact .refl _
  | j + 1, i, hi, hj => by
    by_cases e : i = j + 1
    · subst e; exact .refl _
    · have h1 := T.mono hfr hm j i (by omega) (by omega)
      obtain ⟨b, _, _, h2, h3⟩ := T.stp j _ (by omega) (aE (by omega))
      cases b with
      | true => exact h1.trans (B1o hfr (h2 rfl))
      | false => have := (h3 rfl).2; rw [this]; exact h1
theorem Trc.length(T:Trc P r ops m U0 B0)(hm:m<=ops.size):∀ i,i<=m->(T.R i).length=U0.length
 | 0,_=>by rw[T.r0]
 | i+1,hi=>by
  obtain⟨b,_,h1,_,_⟩:=T.stp i _ (by omega) (aE (by omega))
  rw[h1]
  have:=T.length hm i (by omega)
  cases(ops[i]'(by omega)).dst<;>simp[Q5,this]
theorem Trc.slots(T:Trc P r ops m U0 B0)(hreg:RegBase ops m)(hm:m<=ops.size)(x:Nat)(hx:x<U0.length):∀ i,i<=m ->
  (∀ j o,j<i->ops[j]?=some o->o.dst=some x->(T.R i)[x]?=some (T.V j))/\((∀ j o,j<i->ops[j]?=some o->o.dst≠some x)->(T.R i)[x]?=U0[x]?)
 | 0,_=>⟨fun j o h=>by omega,fun _=>by rw[T.r0]⟩
 | i+1,hi=>by
  obtain⟨h1,h2⟩:=T.slots hreg hm x hx i (by omega)
  have hoi:ops[i]?=some (ops[i]'(by omega)):=aE (by omega)
  obtain⟨b,_,hR,_,_⟩:=T.stp i _ (by omega) hoi
  have hlen:=T.length hm i (by omega)
  have hset:(ops[i]'(by omega)).dst=some x->(T.R (i+1))[x]?=some (T.V i):=fun hd=>by
   rw[hR,hd]; simp[Q5,hlen,hx]
  have hne:(ops[i]'(by omega)).dst≠some x->(T.R (i+1))[x]?=(T.R i)[x]?:=fun hd=>by
   rw[hR]
   cases h:(ops[i]'(by omega)).dst with
   | none=>rfl
   | some d =>
    simp only[Q5]
    rw[List.getElem?_set,if_neg]
    intro e; subst e; exact hd h
  refine⟨fun j o hj ho hd=>?_,fun hno=>?_⟩
  ·by_cases e:j=i
   ·subst e; rw[hoi] at ho; cases ho; exact hset hd
   ·rw[hne (hreg.dsts i j _ o x (by omega) (by omega) (Ne.symm e) hoi ho hd)]
    exact h1 j o (by omega) ho hd
  ·rw[hne (hno i _ (by omega) hoi)]
   exact h2 fun j o hj ho=>hno j o (by omega) ho
theorem Trc.below(T:Trc P r ops m U0 B0)(hr:SRec P A r)(hfr:FrOK r)(hm:m<=ops.size){Z0:Emb}{w0:World}{t0:Array Value}(hs:Sim A Z0 B0 w0.heap)(hd:Dom Z0 B0.length)(hg:GlobOK P Z0)(hv:VRL Z0 U0 t0.toList):∀ i,i<=m->∃ (Z:Emb) (w:World) (t:Array Value),VRL Z (T.R i) t.toList/\After A Z0 Z B0 (T.H i) [] w0 w
 | 0,_=>⟨Z0,w0,t0,by rw[T.r0]; exact hv,by rw[T.h0]; exact .refl hs hd⟩
 | i+1,hi=>by
  obtain⟨Z,w,t,h1,h2⟩:=T.below hr hfr hm hs hd hg hv i (by omega)
  have hoi:ops[i]?=some (ops[i]'(by omega)):=aE (by omega)
  obtain⟨b,hw,hR,ht,hf⟩:=T.stp i _ (by omega) hoi
  cases b with
  | true =>
   obtain⟨Z',v',w',_,q1,q2⟩:=A2v (w:=w) (ds:=[]) hr hfr (ht rfl) h2.sim h2.dom (hg.mono h2.step.ext) (A8r h1 (hg.mono h2.step.ext)) hoi (A6v hw h1) default [] [] []
   have hV:=X4 (ds:=[]) (d:=(ops[i]'(by omega)).dst) (h1.mono q2.step.ext) q1
   exact⟨Z',w',_,by rw[hR]; exact hV,h2.trans q2⟩
  | false =>
   obtain⟨e1,e2⟩:=hf rfl
   have hV:=X4 (ds:=[]) (d:=(ops[i]'(by omega)).dst) h1 X9
   exact⟨Z,w,_,by rw[hR,e1]; exact hV,by rw[e2]; exact h2⟩
structure J (A:Amb) (T:Trc P r ops m U0 B0) (Z0:Emb) (w0:World) (listed:Array Bool) (e:List Nat) (Z:Emb) (w:World) (t:Array Value):Prop where
 size:listed.size=ops.size
 mem:∀ j,j<ops.size->(listed.getD j false=true↔j∈e)
 nd:e.Nodup
 lt:∀ j,j∈e->j<m
 cl:Closed ops (·∈e)
 tsz:t.size=U0.length
 wr:∀ x,x<U0.length->∀ j,j∈e->∀ o,ops[j]?=some o->o.dst=some x->∃ u,t[x]?=some u/\VR Z (T.V j) u
 nw:∀ x a,U0[x]?=some a->(∀ j,j∈e->∀ o,ops[j]?=some o->o.dst≠some x)->∃ u,t[x]?=some u/\VR Z a u
 dom:∀ b l,Z b=some l->(b<B0.length/\∀ o,(T.H m)[b]?=some o->OBel B0.length o) \/
  ∃ j,j∈e/\(T.H j).length<=b/\b<(T.H (j+1)).length/\∀ o,(T.H m)[b]?=some o->OBel (T.H (j+1)).length o
 ext:Z0.le Z
 sim:Sim A Z (T.H m) w.heap
 stp:Step Z0 Z B0.length (T.H m).length [] w0 w
end
end Go.Ad
