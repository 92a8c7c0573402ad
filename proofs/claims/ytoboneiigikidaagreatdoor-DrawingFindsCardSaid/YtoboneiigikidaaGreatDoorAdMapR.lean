/- Loops over maps: whatever the order in which the entries come. The steps of the machine. -/
import Derived.Test.YtoboneiigikidaaGreatDoorAdPat
import Derived.Laws.IdiomRangeMap
namespace Go.Ad
section
variable {P:Program} {A:Amb} {r:Rec}
theorem B7p(hr:SRec P A r)(hfr:FrOK r){ops:Array Oper}{b:Frame}{ds:List Deferred}{k:List Item}{cs:List Frame}(rest:List Nat):∀ (l:List Oper) (k0:Nat) (U:List AV) (B:Heap) (U':List AV) (B':Heap) (D:List Nat)
  (Z:Emb) (w:World) (t:Array Value),(∀ j,j<l.length->l[j]?=ops[k0+j]?)->M6 P r ops l U B=some (U',B',D)->Sim A Z B w.heap->Dom Z B.length->GlobOK P Z->VRL Z U t.toList ->
  ∃ Z' w' t',Steps P (lone (F b t ds (.inRegion ops (List.range' k0 l.length++rest)::k)) cs w) (lone (F b t' ds (.inRegion ops rest::k)) cs w')/\VRL Z' U' t'.toList/\After A Z Z' B B' D w w'
 | [],k0,U,B,U',B',D,Z,w,t,_,h,hs,hd,hg,hv=>by
  simp only[M6,sI,pI] at h
  obtain⟨rfl,rfl,rfl⟩:=h
  exact⟨Z,w,t,.refl _ _,hv,.refl hs hd⟩
 | o::l,k0,U,B,U',B',D,Z,w,t,hl,h,hs,hd,hg,hv=>by
  have ho:ops[k0]?=some o:=by simpa using(hl 0 (by simp)).symm
  have hl':∀ j,j<l.length->l[j]?=ops[k0+1+j]?:=fun j hj=>by have:=hl (j+1) (by simp; omega); simpa[Nat.add_assoc,Nat.add_comm 1 j] using this
  simp only[List.length_cons,List.range'_succ,List.cons_append]
  simp only[M6] at h
  split at h
  ·rename_i hw
   split at h
   ·rename_i v B1 D1 h1
    simp only[O1] at h
    split at h
    ·rename_i U2 B2 D2 h2
     cases h
     obtain⟨Z1,v',w1,s1,s2,s3⟩:=A2v (w:=w) (ds:=ds) hr hfr h1 hs hd hg (A8r hv hg) ho (A6v hw hv) b (List.range' (k0+1) l.length++rest) k cs
     obtain⟨Z2,w2,t2,q1,q2,q3⟩:=B7p hr hfr rest l (k0+1) _ _ _ _ _ Z1 w1 _ hl' h2 s3.sim s3.dom (hg.mono s3.step.ext) (X4 (ds:=ds) (hv.mono s3.step.ext) s2)
     exact⟨Z2,w2,t2,s1.trans q1,q2,s3.trans q3⟩
    ·simp at h
   ·simp at h
  ·rename_i hw
   obtain⟨Z2,w2,t2,q1,q2,q3⟩:=B7p hr hfr rest l (k0+1) _ _ _ _ _ Z w _ hl' h hs hd hg (X4 (ds:=ds) (d:=o.dst) hv X9)
   exact⟨Z2,w2,t2,(Steps.one (A3q ho (A6v hw hv))).trans q1,q2,q3⟩
  ·simp at h
theorem E8n{w:World}{ry bm n c0:Nat}{seen:Array Nat}{en:Array MapEntry}{ck:Nat}(hr:w.heap[ry]?=some (.mapIter (some bm) n seen c0))(hb:w.heap[bm]?=some (.map en ck))(hold:∀ x∈en.toList,x.born<n)(hsc:n<=c0)(ty:TypeId) :
  ((leftOf en seen).size=0/\(Instr.next (.pointer (some ⟨ry,0,none⟩)) false ty).run P w=.ok (.tuple #[.bool false]) w) \/
  ∃ e∈(leftOf en seen).toList,∃ d,(Instr.next (.pointer (some ⟨ry,0,none⟩)) false ty).run P w=.ok (.tuple #[.bool true,e.key,e.val]) { w with heap:=w.heap.setIfInBounds ry (.mapIter (some bm) n (seen.push e.born) ck),drawn:=d }:=by
 simp only[Instr.next,getObj,Sem.run_bind,Sem.run,hr,hb,Result.andThen,next_test_false seen en n c0 hold hsc,Bool.false_eq_true,if_false]
 unfold leftOf
 have hmem:∀ x∈(Array.filter (fun e=>!seen.contains e.born) en).toList,x.born<n:=fun x hx=>hold x (by simp at hx ⊢; exact hx.1)
 generalize Array.filter (fun e=>!seen.contains e.born) en=L at hmem ⊢
 have e1:L.filter (fun x=>decide (x.born<n))=L:=Array.filter_eq_self.2 (fun x hx=>by simpa using hmem x (by simpa using hx))
 have e2:L.filter (fun x=>decide (x.born >= n))=#[]:=by
  rw[Array.filter_eq_empty_iff]
  intro x hx
  have:=hmem x (by simpa using hx)
  simp
  omega
 simp only[e1,e2,Array.append_empty]
 by_cases h0:L.size=0
 ·left
  have:L=#[]:=Array.eq_empty_of_size_eq_zero h0
  subst this
  refine⟨rfl,?_⟩
  simp[choose,Sem.run,Question.forced]
 ·right
  have hne:L.isEmpty=false:=by simp[Array.isEmpty,h0]
  simp only[hne,Bool.false_eq_true,if_false,Array.empty_append,Array.size_map]
  have hch:∃ (j:Nat) (d:Nat),j<L.size/\(choose (Question.mapNext L.size)).run P w=.ok j { w with drawn:=d }:=by
   by_cases hf:L.size<=1
   ·exact⟨0,w.drawn,by omega,by simp[choose,Sem.run,Question.forced,hf]⟩
   ·exact⟨_,w.drew.drawn,Nat.mod_lt _ (by omega),by
     simp only[choose,Sem.run,Question.forced,dQ,hf,if_false,Question.cut]
     rfl⟩
  obtain⟨j,d,hj,hrun⟩:=hch
  refine⟨L[j],by simp,d,?_⟩
  have hlt:ry<w.heap.size:=(gA.1 hr).1
  simp only[hrun,Array.getElem?_map,aE hj,oS,Sem.run_bind,setObj,Sem.run,Result.andThen,hr]
  rfl
theorem E2p{w:World}{ry bm n:Nat}{seen:Array Nat}{en:Array MapEntry}{ck:Nat}{e:MapEntry}(hr:w.heap[ry]?=some (.mapIter (some bm) n (seen.push e.born) ck))(hb:w.heap[bm]?=some (.map en ck))(he:e∈en.toList)(hn:(en.toList.map (·.born)).Nodup) :
  (Instr.entry (.pointer (some ⟨ry,0,none⟩))).run P w=.ok (.tuple #[e.key,e.val]) w:=by
 have hf:en.find? (·.born==e.born)=some e:=by rw[<- Array.find?_toList]; exact find_born e en.toList hn he
 simp only[Instr.entry,getObj,Sem.run_bind,Sem.run,hr,hb,Result.andThen,Array.back?_push,bne_self_eq_false,Bool.false_eq_true,if_false,hf]
 rfl
theorem E3q{w:World}{t k e:TypeId}{bm:Nat}{en:Array MapEntry}{ck:Nat}(ht:P.underlying t=some (.map k e))(hb:w.heap[bm]?=some (.map en ck)) :
  (Instr.range t (.map (some bm))).run P w=.ok (.pointer (some ⟨w.heap.size,0,none⟩)) (w.alloc (.mapIter (some bm) ck #[] ck)):=run_range_map w t k e bm en ck ht hb
end
end Go.Ad
namespace Go.Ad
section
variable {P:Program} {A:Amb} {r:Rec}
theorem B0l{Z:Emb}{B:Heap}{w:World}{mi:Nat}{li:Loc}{m:Option Nat}{s c:Nat}{seen:Array Nat}{m':Option Nat}{s' c':Nat}{seen':Array Nat}{d:Nat}(hs:Sim A Z B w.heap)(hmi:B[mi]?=some .miter)(hli:Z mi=some li)(h0:w.heap[li.c]?=some (.mapIter m s seen c)) :
  Step Z Z B.length B.length [mi] w { w with heap:=w.heap.setIfInBounds li.c (.mapIter m' s' seen' c'),drawn:=d }/\Sim A Z B (w.heap.setIfInBounds li.c (.mapIter m' s' seen' c')):=by
 have hlt:li.c<w.heap.size:=hs.lt mi li hli
 have hne:∀ x,x≠li.c->(w.heap.setIfInBounds li.c (.mapIter m' s' seen' c'))[x]?=w.heap[x]?:=fun x hx=>Array.getElem?_setIfInBounds_ne (Ne.symm hx)
 refine⟨⟨Z.le_refl,fun x lx p q=>(by rw[p] at q; cases q),by simp,fun c _ hD=>hne c fun e=>hD mi (by simp) li hli e.symm,fun c L0 hL=>?_,fun c d hd'=>?_,rfl,rfl,rfl,Q6⟩,?_⟩
 ·by_cases e:c=li.c
  ·subst e; rw[h0] at hL; cases hL
  ·exact⟨L0,(hne c e).trans hL⟩
 ·by_cases e:c=li.c
  ·subst e; rw[h0] at hd'; cases hd'
  ·exact(hne c e).trans hd'
 ·have:=hs.upd (o':=.miter) hmi hli rfl (by simp) hne ⟨m',s',seen',c',by simp[hlt]⟩
  have hset:B.set mi .miter=B:=by
   apply List.ext_getElem?
   intro i
   rw[List.getElem?_set]
   by_cases e:mi=i
   ·subst e
    rw[if_pos rfl,hmi]
    have:mi<B.length:=(gS.1 hmi).1
    simp[this]
   ·rw[if_neg e]
  rwa [hset] at this
theorem E3g{en:Array MapEntry}{seen:Array Nat}{e:MapEntry}(he:e∈(leftOf en seen).toList):(leftOf en (seen.push e.born)).size<(leftOf en seen).size:=by
 unfold leftOf at he ⊢
 have hsz:∀ p:MapEntry->Bool,(en.filter p).size=(en.toList.filter p).length:=fun p=>by rw[<- Array.length_toList,Array.toList_filter]
 rw[hsz,hsz]
 rw[Array.toList_filter] at he
 obtain⟨h1,h2⟩:=List.mem_filter.1 he
 exact filter_lt (fun x:MapEntry=>!seen.contains x.born) (fun x:MapEntry=>!(seen.push e.born).contains x.born) (fun x hx=>by
  simp only[Bool.not_eq_true',Array.contains_eq_mem,Array.mem_push,decide_eq_false_iff_not,not_or] at hx ⊢; exact hx.1) e h2 (by simp) _ h1
end
end Go.Ad
namespace Go.Ad
def E8x:Code->Array Oper | .region _ o _=>o | _=>#[]
def opD:Oper:={ dst:=none,op:=.move (.tmp 0),type:=0,pos:="",after:=#[],guard:=none }
def G0r(c:Code):Oper:=((E8x c).toList.getLast?).getD opD
def D9z(c:Code):Oper:=((E8x c).toList.head?).getD opD
section
variable {P:Program} {A:Amb} {B0:Heap} {c:Code} {e:AEx}
theorem Wk.of_nrmP{sp:AEx->SP}{U1:List AV}{B1:Heap}{D1 ds:List Nat}{m:Nat}{e1:AEx}{ls:List Lf}(hm:B0.length=m)(h:H9 sp m ds e1 U1 B1 D1=some (e,ls))(hok:okD m ds 0 (sp e1).h=true) :
  Wk A B0 ⟨U1,B1,ds++D1⟩ ⟨(sp e1).rho ls,(sp e1).heap ls,ds⟩:=by
 unfold H9 at h
 split at h
 ·rename_i e2 U2 B2 ds2 h3
  split at h
  ·rename_i ls' h4
   cases h
   obtain⟨rfl,hw⟩:=D6x (A:=A) hm h3
   exact hw.trans (SP.wk hm hok (fun _ h=>h) h4)
  ·cases h
 ·cases h
end
end Go.Ad
namespace Go.Ad
section
variable {P:Program} {A:Amb}
def OSame(o o':AObj):Prop:=(∀ (Z:Emb) (hh:Array Obj) (l:Loc),OR Z hh l o↔OR Z hh l o')/\(o.own=o'.own)/\(o.live=o'.live)
theorem OSame.refl(o:AObj):OSame o o:=⟨fun _ _ _=>Iff.rfl,rfl,rfl⟩
end
end Go.Ad
