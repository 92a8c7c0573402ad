/- One operation, and the operations of a region in the order of the text, stand for the machine's steps. -/
import Derived.Test.YtoboneiigikidaaGreatDoorAdSound1
namespace Go.Ad
section
variable {P:Program} {A:Amb} {r:Rec} {Z:Emb} {B:Heap} {w:World}
theorem X4{U:List AV}{t:Array Value}{ds:List Deferred}{d:Option Tmp}{a:AV}{v:Value}(h:VRL Z U t.toList)(hv:VR Z a v) :
  VRL Z (Q5 U d a) ((Act.mk t ds).put d v).tmps.toList:=by
 cases d with
 | none=>exact h
 | some d=>simpa[Q5,Act.put] using h.set d hv
theorem A8r{U:List AV}{t:Array Value}{ds:List Deferred}(h:VRL Z U t.toList)(hg:GlobOK P Z)(x:Operand) :
  VR Z (M0 (gN P) U x) ((Act.mk t ds).eval x):=by
 cases x with
 | tmp d =>
  simp only[M0,Act.eval]
  have hl:=h.length
  by_cases hd:d<U.length
  ·obtain⟨v,h1,h2⟩:=h.get (gE hd)
   have h3:t[d]?=some v:=by simpa using h1
   simp only[gD,gE hd,Option.getD_some]
   simpa[h3] using h2
  ·have hd':U.length<=d:=Nat.le_of_not_lt hd
   have h3:t[d]?=none:=by
    rw[Array.getElem?_eq_none_iff]; simp only[Array.length_toList] at hl; omega
   have h4:U[d]?=none:=by rw[List.getElem?_eq_none_iff]; exact hd'
   simp[h3,h4,H7,undef,VR,VRL]
 | const v=>exact B5s Z v
 | global g =>
  simp only[M0,Act.eval]
  split
  ·rename_i hlt
   obtain⟨l,h1,h2,h3⟩:=hg g hlt
   simp only[VR]
   exact⟨l,h1,by simp[h2,h3]⟩
  ·trivial
 | func f=>simp only[M0,Act.eval,VR,FR]; exact⟨_,_,_,rfl,rfl,by simp[VRL],by simp[VRL]⟩
theorem B1e{ops:Array Oper}{U:List AV}{t:Array Value}{o:Oper}{b:Bool}(h:A0w ops U o=some b)(hs:∀ j want d,o.guard=some (j,want)->(ops[j]?).bind (·.dst)=some d->(U[d]?=none/\t[d]?=none) \/ ∃ a v,U[d]?=some a/\t[d]?=some v/\VR Z a v) :
  Region.wanted o (yielded ops t)=b:=by
 unfold A0w at h
 unfold Region.wanted
 split at h
 ·rename_i hg; rw[hg]; simpa using h
 ·rename_i j want hg
  rw[hg]
  simp only
  split at h
  ·rename_i hd
   cases h
   simp[yielded,hd]
  ·rename_i d hd
   have:=hs j want d hg hd
   unfold yielded
   simp only[hd,Option.bind_some]
   rcases this with⟨h1,h2⟩ | ⟨a,v,h1,h2,h3⟩
   ·rw[h1] at h; simp only[sI] at h; subst h; rw[h2]; rfl
   ·rw[h1] at h; rw[h2]
    cases a with
    | bool x=>simp only[VR] at h3; subst h3; simp only[sI] at h; subst h; simp
    | bad=>simp at h
    | ptr x=>cases x<;>simp only[VR] at h3<;>simp only[sI] at h<;>subst h<;>first | (subst h3; rfl) | (obtain⟨_,_,rfl⟩:=h3; rfl)
    | slice x n m=>cases x<;>simp only[VR] at h3<;>simp only[sI] at h<;>subst h<;>first | (obtain⟨_,_,rfl⟩:=h3; rfl) | (obtain⟨_,_,_,_,_,_,_,_,_,rfl⟩:=h3; rfl)
    | map x=>cases x<;>simp only[VR] at h3<;>simp only[sI] at h<;>subst h<;>first | (subst h3; rfl) | (obtain⟨_,_,rfl⟩:=h3; rfl)
    | str s=>simp only[VR] at h3; obtain⟨_,_,rfl⟩:=h3; simp only[sI] at h; subst h; rfl
    | func f x y=>simp only[VR] at h3; obtain⟨_,_,_,rfl,_⟩:=h3; simp only[sI] at h; subst h; rfl
    | iface t x=>simp only[VR] at h3; obtain⟨_,rfl,_⟩:=h3; simp only[sI] at h; subst h; rfl
    | agg x=>simp only[VR] at h3; obtain⟨_,rfl,_⟩:=h3; simp only[sI] at h; subst h; rfl
    | tuple x=>simp only[VR] at h3; obtain⟨_,rfl,_⟩:=h3; simp only[sI] at h; subst h; rfl
    | sbool x=>simp only[VR] at h3; subst h3; simp only[sI] at h; subst h; simp
    | sstr s=>simp only[VR] at h3; obtain⟨_,_,rfl⟩:=h3; simp only[sI] at h; subst h; rfl
    | sslice b s n=>simp only[VR] at h3; simp only[sI] at h; subst h; rcases h3 with⟨_,_,_,_,_,_,rfl⟩ | ⟨_,rfl⟩<;>rfl
    | aslc b s n=>simp only[VR] at h3; obtain⟨_,_,_,_,_,_,_,_,_,rfl⟩:=h3; simp only[sI] at h; subst h; rfl
    | sptr b i j=>simp only[VR] at h3; obtain⟨_,_,rfl⟩:=h3; simp only[sI] at h; subst h; rfl
    | dptr b n=>simp only[VR] at h3; simp only[sI] at h; subst h; rcases h3 with⟨_,_,_,rfl⟩ | ⟨_,rfl⟩<;>rfl
    | flist n row es=>simp only[VR] at h3; simp only[sI] at h; subst h; rcases h3.shape with rfl | ⟨_,_,_,rfl⟩<;>rfl
    | fptr cs j=>simp only[VR] at h3; simp only[sI] at h; subst h; obtain⟨_,_,_,_,rfl,_⟩:=h3; rfl
    | lstr s lo hi=>simp only[VR] at h3; obtain⟨⟨_,_,rfl⟩,_⟩:=h3; simp only[sI] at h; subst h; rfl
    | rng=>simp only[VR] at h3; obtain⟨rfl,_⟩:=h3; simp only[sI] at h; subst h; rfl
    | _=>simp only[VR] at h3; subst h3; simp only[sI] at h; subst h; rfl
theorem A2v(hr:SRec P A r)(hfr:FrOK r){o:Oper}{f:Operand->AV}{v:AV}{B':Heap}{D:List Nat}{t:Array Value}{ds:List Deferred}(h:M5 P r f B o.op=some (v,B',D))(hs:Sim A Z B w.heap)(hd:Dom Z B.length)(hgl:GlobOK P Z)(hU:∀ x,VR Z (f x) ((Act.mk t ds).eval x)){ops:Array Oper}{i:Nat}(ho:ops[i]?=some o)(hw:Region.wanted o (yielded ops t)=true)(b:Frame)(rest:List Nat)(k:List Item)(cs:List Frame) :
  ∃ Z' v' w',Steps P (lone (F b t ds (.inRegion ops (i::rest)::k)) cs w) (lone (F b ((Act.mk t ds).put o.dst v').tmps ds (.inRegion ops rest::k)) cs w')/\VR Z' v v'/\After A Z Z' B B' D w w':=by
 have hfr':=B1o (P:=P) hfr h
 have hnd:∀ c,o.op≠.defer c:=fun c hc=>by rw[hc] at h; simp[M5,aop,A0c,A1l,Y1,L8,V6,afz,afl,afs,R4] at h
 unfold M5 at h
 split at h
 ·rename_i g args ats hop
  split at h
  ·rename_i hx hext
   unfold E5n at hext
   split at hext
   ·rename_i gf hgv
    have hg:=hU g
    have hargs:VRL Z (args.toList.map f) (args.map (Act.mk t ds).eval).toList:=by simpa using VRL.ofmap hU args.toList
    rw[hgv] at hg
    simp only[VR,FR,VRL] at hg
    obtain⟨f',xs,ys,he,rfl,h1,h2⟩:=hg
    have hxs:xs=#[]:=by apply Array.ext'; simpa using h1
    have hys:ys=#[]:=by apply Array.ext'; simpa using h2
    subst hxs hys
    unfold only at h
    simp only[oM,pI] at h
    obtain⟨v1,hv1,rfl,rfl,rfl⟩:=h
    obtain⟨v',q1,q2⟩:=hr.ext _ _ hext _ _ hv1 Z w (args.map (Act.mk t ds).eval) hargs
    have hrun:(execOp (Act.mk t ds).eval o).run P w=.ok (.value v') w:=by
     obtain⟨dst,op,ty,pos,after,guard⟩:=o
     simp only at hop
     subst hop
     simp[execOp,resolve,he,Deferred.ofValue,invoke,q1]
    exact⟨Z,v',w,.one (A0t ho hw hnd hrun (.inl rfl)),q2,.refl hs hd⟩
   ·cases hext
  rename_i hext
  have hg:=hU g
  have hargs:VRL Z (args.toList.map f) (args.map (Act.mk t ds).eval).toList:=by simpa using VRL.ofmap hU args.toList
  have hex:∀ (g':Fn) (xs ys:Array Value),(Act.mk t ds).eval g=.func g' xs ys ->
    (execOp (Act.mk t ds).eval o).run P w=(invoke (.fn g' ys) (xs++args.map (Act.mk t ds).eval)).run P w:=fun g' xs ys he=>by
   obtain⟨dst,op,ty,pos,after,guard⟩:=o
   simp only at hop
   subst hop
   simp[execOp,resolve,he,Deferred.ofValue]
  unfold B7e at h
  split at h
  ·rename_i gf first captured hgv
   rw[hgv] at hg
   simp only[VR,FR] at hg
   obtain⟨f',xs,ys,he,rfl,hx,hy⟩:=hg
   obtain⟨fn,c,hfn,hbody⟩:=hr.ok _ _ _ _ _ _ h
   have hrun:(execOp (Act.mk t ds).eval o).run P w=.ok (.enter gf (xs++args.map (Act.mk t ds).eval++ys)) w:=by
    rw[hex _ _ _ he]
    simp only[invoke]
    exact C5w hr.num hfn hbody _ _
   have hcall:=hr.call gf _ _ _ _ _ h Z w (xs++args.map (Act.mk t ds).eval++ys) hs hd hgl (by
    have:=(hx.append hargs).append hy
    simpa using this)
   obtain⟨e,w',fr,⟨v',Z',rfl,hv',haft⟩,hcomes,hfn',hleave⟩:=hcall (F b t ds (.inRegion ops (i::rest)::k)::cs)
   refine⟨Z',v',w',?_,hv',haft⟩
   have h1:=D1k (P:=P) (b:=b) (t:=t) (ds:=ds) (k:=k) (cs:=cs) (rest:=rest) ho hw hnd hrun
   have h2:=step_leave_returned (c:=F b t ds (.inRegion ops (i::rest)::k)) (cs:=cs) hleave
   rw[B1f v' ho] at h2
   exact(Steps.one h1).trans (Steps.trans hcomes (.one h2))
  ·rename_i l first captured hgv
   rw[hgv] at hg
   simp only[VR,FR] at hg
   obtain⟨f',xs,ys,he,⟨lc,hl,rfl⟩,hx,hy⟩:=hg
   obtain⟨ff,tm,as,body,hy1,hy2⟩:=D3u (w:=w) hr hfr (xs:=xs++args.map (Act.mk t ds).eval) h hs hd hgl hl (by simpa using hx.append hargs)
   have hrun:(execOp (Act.mk t ds).eval o).run P w=.ok (.round lc.c ff tm as body) w:=by
    rw[hex _ _ _ he]
    exact hy1
   obtain⟨v',Z',w',s1,s2,s3⟩:=hy2 (F b t ds (.inRegion ops (i::rest)::k)) cs
   refine⟨Z',v',w',?_,s2,s3⟩
   have h1:=D1l (P:=P) (b:=b) (t:=t) (ds:=ds) (k:=k) (cs:=cs) (rest:=rest) ho hw hnd hrun
   rw[B1f v' ho] at s1
   exact(Steps.one h1).trans s1
  ·simp at h
 ·obtain⟨Z',v',nx,w',s1,s2,s3,s4⟩:=After.of_got (E2i h hs hd hU) hfr'
  exact⟨Z',v',w',.one (A0t ho hw hnd s1 s2),s3,s4⟩
end
end Go.Ad
