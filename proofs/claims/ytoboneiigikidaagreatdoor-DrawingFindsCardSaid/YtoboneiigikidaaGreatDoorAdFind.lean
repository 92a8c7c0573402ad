/- Index loops that end at the first place where something stops them. -/
import Derived.Test.YtoboneiigikidaaGreatDoorAdDeep
import Derived.Test.YtoboneiigikidaaGreatDoorAdMapR
import Derived.Lib.SlicesCompact
import Derived.Sort.EncStr
import Derived.Sort.Grow
import Derived.Test.YtoboneiigikidaaGreatDoorAdPat
import Derived.Laws.AppendOwn
import Derived.Below
noncomputable section
namespace Go.Ad
def C6w(id:Nat):AEx->AEx
 | .exit j=>if j=id then .normal else .exit j
 | e=>e
section
variable {P:Program} {A:Amb} {B0:Heap}
theorem SEB.block{id:Nat}{c:Code}{s s1:St}{e:AEx}(h:SEB P A B0 c s e s1):SEB P A B0 (.block id c) s (C6w id e) s1:=by
 cases e with
 | normal=>exact SEB.block_other (e:=.normal) h (by simp)
 | ret=>exact SEB.block_other (e:=.ret) h (by simp)
 | exit j =>
  simp only[C6w]
  split
  ·rename_i e; subst e; exact SEB.block_exit h
  ·rename_i e; exact SEB.block_other h (by simpa using e)
theorem SEB.find0{c:Code}{S E:Nat->St}{X:St}{eb ee:AEx}{p:Nat->Bool}{N id:Nat}(h1:∀ n,n<N->p n=true->SEB P A B0 c (S n) .normal (S (n+1)))(h2:∀ n,n<N->p n=false->SEB P A B0 c (S n) eb (E n))(h3:SEB P A B0 c (S N) ee X)(heb:eb≠.normal)(hee:ee≠.normal) :
  (G5 p N 0=N->SEB P A B0 (.block id (.loop c)) (S 0) (C6w id ee) X)/\(G5 p N 0<N->SEB P A B0 (.block id (.loop c)) (S 0) (C6w id eb) (E (G5 p N 0))):=by
 have h:=SEB.scan (P:=P) (A:=A) (B0:=B0) (c:=c) (S:=S) (E:=fun n=>if n=N then X else E n) (e:=fun n=>if n=N then ee else eb) (p:=p) (N:=N)
  (fun n=>by split<;>assumption) h1 (fun n hn hp=>by
   split
   ·rename_i e; subst e; exact h3
   ·rename_i e; exact h2 n (by omega) (hp (by omega))) 0 (by omega)
 simp only[Nat.sub_zero] at h
 constructor
 ·intro e
  rw[if_pos e,if_pos e] at h
  exact h.block
 ·intro e
  rw[if_neg (by omega),if_neg (by omega)] at h
  exact h.block
theorem SEB.find{prims:Prims}{bp:Bps}{c:Code}(F7:P.follows .mixedOrders=true)(F9:A0o P)(hp:PrimOK P A prims)(hbp:BlkOK P A bp c){m k N id:Nat}{ds:List Nat}{sp:SP}{sq:AEx->SP}{L Lb:Nat->List Lf}{Le:List Lf}{eb ee:AEx}{p:Nat->Bool}(hm:B0.length=m)(hsq:sq .normal=sp)(hok:okD m ds 0 sp.h=true)(hokb:okD m ds 0 (sq eb).h=true)(hoke:okD m ds 0 (sq ee).h=true)(heb:eb≠.normal)(hee:ee≠.normal)(h1:∀ n,n<N->p n=true->E8 P (D5 P prims k) bp c (sp.rho (L n)) (sp.heap (L n)) (H9 sq m ds)=some (.normal,L (n+1)))(h2:∀ n,n<N->p n=false->E8 P (D5 P prims k) bp c (sp.rho (L n)) (sp.heap (L n)) (H9 sq m ds)=some (eb,Lb n))(h3:E8 P (D5 P prims k) bp c (sp.rho (L N)) (sp.heap (L N)) (H9 sq m ds)=some (ee,Le)) :
  (G5 p N 0=N->SEB P A B0 (.block id (.loop c)) ⟨sp.rho (L 0),sp.heap (L 0),ds⟩ (C6w id ee) ⟨(sq ee).rho Le,(sq ee).heap Le,ds⟩) /\
  (G5 p N 0<N->SEB P A B0 (.block id (.loop c)) ⟨sp.rho (L 0),sp.heap (L 0),ds⟩ (C6w id eb) ⟨(sq eb).rho (Lb (G5 p N 0)),(sq eb).heap (Lb (G5 p N 0)),ds⟩) :=
 SEB.find0 (S:=fun n=>⟨sp.rho (L n),sp.heap (L n),ds⟩) (E:=fun n=>⟨(sq eb).rho (Lb n),(sq eb).heap (Lb n),ds⟩) (X:=⟨(sq ee).rho Le,(sq ee).heap Le,ds⟩) (p:=p) (N:=N)
  (fun n hn hpn=>by have:=SEB.of_KP F7 F9 hp hbp hm (h1 n hn hpn) (by rw[hsq]; exact hok); rw[hsq] at this; exact this)
  (fun n hn hpn=>SEB.of_KP F7 F9 hp hbp hm (h2 n hn hpn) hokb)
  (SEB.of_KP F7 F9 hp hbp hm h3 hoke) heb hee
def F9j(t:Bool)(a b:AEx×SP×List Lf):Tr (AEx×SP×List Lf):=.br t (.leaf a) (.leaf b)
theorem E2r{t:Bool}{a b x:AEx×SP×List Lf}(h:(F9j t a b).get=some x):(t=true/\x=a) \/ (t=false/\x=b):=by
 unfold F9j at h
 cases t with
 | true=>simp only[Tr.get,sI] at h; exact .inl ⟨rfl,h.symm⟩
 | false=>simp only[Tr.get,sI] at h; exact .inr ⟨rfl,h.symm⟩
end
theorem Y8:∀ {c:Code} {id:Nat} {c':Code},(id,c')∈blocks c->∀ p,p∈blocks c'->p∈blocks c
 | .seq a b,id,c',h,p,hp=>by
  simp only[blocks,List.mem_append] at h ⊢
  exact h.imp (fun h=>Y8 h p hp) (fun h=>Y8 h p hp)
 | .cond _ a b,id,c',h,p,hp=>by
  simp only[blocks,List.mem_append] at h ⊢
  exact h.imp (fun h=>Y8 h p hp) (fun h=>Y8 h p hp)
 | .block i c,id,c',h,p,hp=>by
  simp only[blocks,List.mem_cons,pI] at h ⊢
  rcases h with⟨_,rfl⟩ | h
  ·exact .inr hp
  ·exact .inr (Y8 h p hp)
 | .loop c,id,c',h,p,hp=>by
  simp only[blocks] at h ⊢
  exact Y8 h p hp
 | .scope c,id,c',h,p,hp=>by
  simp only[blocks] at h ⊢
  exact Y8 h p hp
 | .skip,_,_,h,_,_ | .region ..,_,_,h,_,_ | .rangeFunc ..,_,_,h,_,_ | .exit _,_,_,h,_,_ | .label _,_,_,h,_,_ | .goto _,_,_,h,_,_ | .ret,_,_,h,_,_=>by simp[blocks] at h
theorem BlkOK.sub{P:Program}{A:Amb}{bp:Bps}{c body:Code}{id:Nat}(h:BlkOK P A bp c)(hb:(blocks c).filter (fun p=>p.1==id)=[(id,.loop body)]):BlkOK P A bp body:=fun p hp=>by
 have hm:(id,Code.loop body)∈blocks c:=by
  have:(id,Code.loop body)∈(blocks c).filter (fun p=>p.1==id):=by rw[hb]; simp
  exact(List.mem_filter.1 this).1
 exact h p (Y8 hm p (by simpa only[blocks] using hp))
def fdC{β:Type}(L:β->Nat->List Lf)(dec:List Lf->β)(Inv:β->Prop)(ls:List Lf):Bool:=E9 (ls=L (dec ls) 0/\Inv (dec ls))
def fdE{β:Type}(p:β->Nat->Bool)(N:β->Nat)(x:β):Bool:=decide (G5 (p x) (N x) 0=N x)
theorem J5{β:Type}{L:β->Nat->List Lf}{dec:List Lf->β}{Inv:β->Prop}{x:β}(h:dec (L x 0)=x)(hi:Inv x):fdC L dec Inv (L x 0)=true:=A9 ⟨by rw[h],by rw[h]; exact hi⟩
def fdT{β:Type}(sq:AEx->SP)(id:Nat)(eb ee:AEx)(dec:List Lf->β)(L:β->Nat->List Lf)(Lb:List Lf->Nat->List Lf)(Le:List Lf->List Lf)(N:β->Nat)(p:β->Nat->Bool)(Inv:β->Prop)(ls:List Lf):Tr (AEx×SP×List Lf) :=
 .br (fdC L dec Inv ls) (.br (fdE p N (dec ls)) (.leaf (C6w id ee,sq ee,Le ls)) (.leaf (C6w id eb,sq eb,Lb ls (G5 (p (dec ls)) (N (dec ls)) 0)))) .fail
theorem SEB.findR{P:Program}{A:Amb}{prims prims0:Prims}(F7:P.follows .mixedOrders=true)(F9:A0o P)(hp0:PrimOK P A prims0)(hp:PrimOK P A prims){f:FuncId}{id:Nat}{fn:Func}{c body:Code}(hf:P.funcs[f]?=some fn)(hc:fn.body=some c)(hb:(blocks c).filter (fun p=>p.1==id)=[(id,.loop body)]){β:Type}{sp:SP}{sq:AEx->SP}{m k:Nat}{ds:List Nat}{eb ee:AEx}{dec:List Lf->β}{L:β->Nat->List Lf}{Lb:List Lf->Nat->List Lf}{Le:List Lf->List Lf}{N:β->Nat}{p:β->Nat->Bool}{Inv:β->Prop}(hsq:sq .normal=sp)(hok:okD m ds 0 sp.h=true)(hokb:okD m ds 0 (sq eb).h=true)(hoke:okD m ds 0 (sq ee).h=true)(heb:eb≠.normal)(hee:ee≠.normal)(hfr:∀ x n,frP ds 0 (sp.heap (L x 0)) ((sq eb).heap (Lb (L x 0) n))/\frP ds 0 (sp.heap (L x 0)) ((sq ee).heap (Le (L x 0))))(hr:∀ x,Inv x->∀ n,n<=N x->E8 P (D5 P prims0 k) (prims0.blk f) body (sp.rho (L x n)) (sp.heap (L x n)) (H9 sq m ds)=some (if n<N x then(bif p x n then(.normal,L x (n+1)) else(eb,Lb (L x 0) n)) else(ee,Le (L x 0)))) :
  PrimOK P A (prims.addb f id (hookP sp m ds (fdT sq id eb ee dec L Lb Le N p Inv))):=by
 refine hp.addbP hf hc hb hok fun ls e sq2 l h=>?_
 obtain⟨h1,h2⟩:=Tr.br1 h
 obtain⟨h1,hi⟩:=H6 h1
 revert h1 hi h2
 generalize dec ls=x
 intro h2 h1 hi
 subst h1
 have key:=fun(Bb:Heap) (hB:Bb.length=m)=>SEB.find (P:=P) (A:=A) (B0:=Bb) (id:=id) F7 F9 hp0 ((hp0.blk f fn c hf hc).sub hb) hB hsq hok hokb hoke heb hee (L:=L x) (Lb:=Lb (L x 0)) (Le:=Le (L x 0)) (p:=p x) (N:=N x)
  (fun n hn hpn=>by rw[hr x hi n (by omega),if_pos hn,hpn]; rfl) (fun n hn hpn=>by rw[hr x hi n (by omega),if_pos hn,hpn]; rfl) (by rw[hr x hi _ (lR _),if_neg (by omega)])
 rcases E2r h2 with⟨q1,q2⟩ | ⟨q1,q2⟩
 ·cases q2
  exact⟨(hfr x 0).2,fun Bb hB=>(key Bb hB).1 (of_decide_eq_true q1)⟩
 ·cases q2
  have:=(A3x (p x) (N x) 0).2
  exact⟨(hfr x _).1,fun Bb hB=>(key Bb hB).2 (by have:=of_decide_eq_false q1; omega)⟩
def S9(g:Nat->Int)(N:Nat):Int:=if G5 (fun i=>decide (g i=0)) N 0=N then 0 else g (G5 (fun i=>decide (g i=0)) N 0)
theorem D1g{g:Nat->Int}{N:Nat}(h:G5 (fun i=>decide (g i=0)) N 0=N):S9 g N=0:=if_pos h
theorem B3m{g:Nat->Int}{N:Nat}(h:G5 (fun i=>decide (g i=0)) N 0<N):S9 g N=g (G5 (fun i=>decide (g i=0)) N 0)/\g (G5 (fun i=>decide (g i=0)) N 0)≠0:=by
 refine⟨if_neg (by omega),?_⟩
 have:=A6s (p:=fun i=>decide (g i=0)) (k:=N) (n:=0) (by omega)
 simpa using this
theorem G6l{g:Nat->Int}{N:Nat}:S9 g N=0↔∀ i,i<N->g i=0:=by
 constructor
 ·intro h i hi
  have hle:=(A3x (fun i=>decide (g i=0)) N 0).2
  by_cases he:G5 (fun i=>decide (g i=0)) N 0=N
  ·have:=A1p (p:=fun i=>decide (g i=0)) (k:=N) (n:=0) (m:=i) (by omega) (by omega)
   simpa using this
  ·have:=B3m (g:=g) (N:=N) (by omega)
   exact absurd (this.1.symm.trans h) this.2
 ·intro h
  refine D1g (B2t (by omega) (by omega) (fun j _ hj=>by simp[h j hj]) (fun h=>by omega))
theorem G6m{g:Nat->Int}{N:Nat}:S9 g N=0↔G5 (fun i=>decide (g i=0)) N 0=N:=by
 constructor
 ·intro h
  have hle:=(A3x (fun i=>decide (g i=0)) N 0).2
  by_cases he:G5 (fun i=>decide (g i=0)) N 0=N
  ·exact he
  ·have:=B3m (g:=g) (N:=N) (by omega)
   exact absurd (this.1.symm.trans h) this.2
 ·exact D1g
def A2b(p:Nat->Bool)(N:Nat):Nat:=G5 (fun i=>!p i) N 0
def D6i(p:Nat->Bool)(N:Nat):Int:=if A2b p N=N then -1 else A2b p N
theorem B5v{p:Nat->Bool}{N:Nat}:A2b p N<=N:=by have:=(A3x (fun i=>!p i) N 0).2; unfold A2b; omega
theorem C6i{p:Nat->Bool}{N:Nat}(h:A2b p N<N):p (A2b p N)=true:=by
 have:=A6s (p:=fun i=>!p i) (k:=N) (n:=0) (by unfold A2b at h; omega)
 simpa[A2b] using this
theorem A7w{p:Nat->Bool}{N i:Nat}(h:i<A2b p N):p i=false:=by
 have:=A1p (p:=fun i=>!p i) (k:=N) (n:=0) (m:=i) (by omega) h
 simpa using this
end Go.Ad
namespace Go.Ad
theorem Z8{β:Type}{p:β->Nat->Bool}{N:β->Nat}{x:β}(g:Nat->Int)(h:∀ i,i<N x->p x i=decide (g i=0)):fdE p N x=decide (S9 g (N x)=0):=by
 have e:G5 (p x) (N x) 0=G5 (fun i=>decide (g i=0)) (N x) 0:=A8m fun m _ h2=>h m (by omega)
 unfold fdE
 rw[e]
 by_cases h0:S9 g (N x)=0
 ·rw[dT h0,dT (G6m.1 h0)]
 ·rw[dF h0,dF fun h=>h0 (G6m.2 h)]
theorem X8{p:Nat->Bool}{N:Nat}{g:Nat->Int}(h:∀ i,i<N->p i=decide (g i=0))(h0:S9 g N≠0):G5 p N 0<N/\g (G5 p N 0)=S9 g N:=by
 have e:G5 p N 0=G5 (fun i=>decide (g i=0)) N 0:=A8m fun m _ h2=>h m (by omega)
 have hle:=(A3x (fun i=>decide (g i=0)) N 0).2
 have hlt:G5 (fun i=>decide (g i=0)) N 0<N:=by
  have:G5 (fun i=>decide (g i=0)) N 0≠N:=fun h=>h0 (G6m.2 h)
  omega
 rw[e]
 exact⟨hlt,(B3m hlt).1.symm⟩
end Go.Ad
namespace Go.Ad
theorem F3t{β:Type}{p:β->Nat->Bool}{N:β->Nat}{x:β}:fdE p N x=true↔∀ i,i<N x->p x i=true:=by
 unfold fdE
 rw[dQ]
 constructor
 ·intro h i hi
  exact A1p (p:=p x) (k:=N x) (n:=0) (by omega) (by omega)
 ·intro h
  exact B2t (by omega) (by omega) (fun j _ hj=>h j hj) (fun h=>by omega)
end Go.Ad
namespace Go.Ad
abbrev Txt:=List UInt8
def SS(l:List Txt):Prop:=l.Pairwise (fun a b=>a<b)
theorem B9d(a:Txt):¬ a<a:=List.lt_irrefl a
theorem E8j{a b:Txt}(h:a<b):¬ b<a:=fun h2=>B9d a (List.lt_trans h h2)
theorem G0t{a b c:Txt}(h:a<b)(h2:b<c):a<c:=List.lt_trans h h2
theorem G3a(a b:Txt)(h:¬ a<b)(hn:a≠b):b<a:=by
 have h1:b<=a:=h
 rcases List.le_iff_lt_or_eq.1 h1 with h2 | h2
 ·exact h2
 ·exact absurd h2.symm hn
theorem C4b:∀ {l m:List Txt},SS l->SS m->(∀ x,x∈l↔x∈m)->l=m
 | [],[],_,_,_=>rfl
 | [],y::_,_,_,h=>absurd ((h y).2 (by simp)) (by simp)
 | x::_,[],_,_,h=>absurd ((h x).1 (by simp)) (by simp)
 | x::l,y::m,h1,h2,h=>by
  obtain⟨a1,a2⟩:=List.pairwise_cons.1 h1
  obtain⟨b1,b2⟩:=List.pairwise_cons.1 h2
  have e:x=y:=by
   have hx:x∈y::m:=(h x).1 (by simp)
   have hy:y∈x::l:=(h y).2 (by simp)
   rcases List.mem_cons.1 hx with e | hx
   ·exact e
   ·rcases List.mem_cons.1 hy with e | hy
    ·exact e.symm
    ·exact absurd (b1 x hx) (E8j (a1 y hy))
  subst e
  rw[C4b a2 b2 fun z=>?_]
  constructor
  ·intro hz
   rcases List.mem_cons.1 ((h z).1 (List.mem_cons_of_mem _ hz)) with e | e
   ·exact absurd (a1 z hz) (by rw[e]; exact B9d x)
   ·exact e
  ·intro hz
   rcases List.mem_cons.1 ((h z).2 (List.mem_cons_of_mem _ hz)) with e | e
   ·exact absurd (b1 z hz) (by rw[e]; exact B9d x)
   ·exact e
def A4y(s:Txt)(o:List Txt×Bool)(x:Txt):List Txt×Bool :=
 let o1:=if !o.2&&decide (s<=x) then(o.1++[s],true) else o
 if x=s then o1 else(o1.1++[x],o1.2)
def E9q(s:Txt)(o:List Txt×Bool):List Txt:=if o.2 then o.1 else o.1++[s]
def O6(l:List Txt)(s:Txt):List Txt:=E9q s (l.foldl (A4y s) ([],false))
theorem D2z(s:Txt):∀ (l out:List Txt),l.foldl (A4y s) (out,true)=(out++l.filter (fun x=>decide (x≠s)),true)
 | [],out=>by simp
 | x::l,out=>by
  rw[List.foldl_cons]
  have e:A4y s (out,true) x=(if x=s then out else out++[x],true):=by
   unfold A4y
   by_cases h:x=s<;>simp[h]
  rw[e,D2z s l]
  by_cases h:x=s<;>simp[h]
def B0s(s:Txt):List Txt->List Txt
 | []=>[s]
 | x::l=>if s<=x then s::(x::l).filter (fun x=>decide (x≠s)) else x::B0s s l
theorem D3a(s:Txt):∀ (l out:List Txt),E9q s (l.foldl (A4y s) (out,false))=out++B0s s l
 | [],out=>by simp[E9q,B0s]
 | x::l,out=>by
  rw[List.foldl_cons]
  by_cases h:s<=x
  ·have e:A4y s (out,false) x=(if x=s then out++[s] else out++[s]++[x],true):=by
    unfold A4y
    by_cases h2:x=s<;>simp[h,h2]
   rw[e,D2z]
   by_cases h2:x=s<;>simp[E9q,B0s,h,h2]
  ·have hn:x≠s:=fun e=>h (by rw[e]; exact List.le_refl _)
   have e:A4y s (out,false) x=(out++[x],false):=by
    unfold A4y
    simp[h,hn]
   rw[e,D3a s l]
   simp[B0s,h]
theorem C7k(l:List Txt)(s:Txt):O6 l s=B0s s l:=by
 have:=D3a s l []
 simpa[O6] using this
theorem D2y{s:Txt}:∀ {l:List Txt} {y:Txt},y∈B0s s l↔y=s \/ y∈l
 | [],y=>by simp[B0s]
 | x::l,y=>by
  unfold B0s
  split
  ·simp only[List.mem_cons,List.mem_filter,dQ]
   constructor
   ·rintro(h | ⟨h,_⟩)
    ·exact .inl h
    ·exact .inr h
   ·rintro(h | h)
    ·exact .inl h
    ·by_cases e:y=s
     ·exact .inl e
     ·exact .inr ⟨h,e⟩
  ·simp only[List.mem_cons,D2y (l:=l)]
   constructor
   ·rintro(h | h | h)
    ·exact .inr (.inl h)
    ·exact .inl h
    ·exact .inr (.inr h)
   ·rintro(h | h | h)
    ·exact .inr (.inl h)
    ·exact .inl h
    ·exact .inr (.inr h)
theorem E0w{s:Txt}:∀ {l:List Txt},SS l->SS (B0s s l)
 | [],_=>by simp[B0s,SS]
 | x::l,h=>by
  obtain⟨a1,a2⟩:=List.pairwise_cons.1 h
  unfold B0s
  split
  ·rename_i hs
   refine List.pairwise_cons.2 ⟨fun y hy=>?_,List.Pairwise.sublist List.filter_sublist h⟩
   obtain⟨h1,h2⟩:=List.mem_filter.1 hy
   have h2:y≠s:=of_decide_eq_true h2
   have hle:¬ y<s:=by
    rcases List.mem_cons.1 h1 with e | e
    ·rw[e]; exact hs
    ·exact fun hlt=>hs (G0t (a1 y e) hlt)
   exact G3a y s hle h2
  ·rename_i hs
   have hs:x<s:=Classical.byContradiction fun h=>hs h
   refine List.pairwise_cons.2 ⟨fun y hy=>?_,E0w a2⟩
   rcases D2y.1 hy with e | e
   ·rw[e]; exact hs
   ·exact a1 y e
def setF(l:List Txt):List Txt:=l.foldl O6 []
theorem A2u{l:List Txt}:∀ {o:List Txt},SS o->SS (l.foldl O6 o)/\∀ x,x∈l.foldl O6 o↔x∈o \/ x∈l:=by
 induction l with
 | nil=>intro o h; exact⟨h,fun x=>by simp⟩
 | cons a l ih =>
  intro o h
  rw[List.foldl_cons]
  have h1:SS (O6 o a):=by rw[C7k]; exact E0w h
  obtain⟨q1,q2⟩:=ih h1
  refine⟨q1,fun x=>?_⟩
  rw[q2,C7k,D2y,List.mem_cons]
  constructor
  ·rintro((h | h) | h)
   ·exact .inr (.inl h)
   ·exact .inl h
   ·exact .inr (.inr h)
  ·rintro(h | h | h)
   ·exact .inl (.inr h)
   ·exact .inl (.inl h)
   ·exact .inr h
theorem C7t(l:List Txt):SS (setF l):=(A2u (o:=[]) List.Pairwise.nil).1
theorem D3h{l:List Txt}{x:Txt}:x∈setF l↔x∈l:=by rw[setF,(A2u (o:=[]) List.Pairwise.nil).2]; simp
theorem B2u{l m:List Txt}(h:SS m)(h2:∀ x,x∈m↔x∈l):setF l=m:=C4b (C7t l) h fun x=>by rw[D3h,h2]
theorem C0c{l m:List Txt}(h:∀ x,x∈l↔x∈m):setF l=setF m:=B2u (C7t m) fun x=>by rw[D3h,h]
def leT(x y:Txt):Bool:=decide (x<=y)
theorem G7m{a b c:Txt}(h:a<=b)(h2:b<=c):a<=c:=List.le_trans h h2
theorem E3u(l:List Txt):(l.mergeSort leT).Pairwise (fun a b=>a<=b):=by
 have:=List.pairwise_mergeSort (le:=leT) (fun a b c h1 h2=>by simp only[leT,dQ] at *; exact G7m h1 h2) (fun a b=>by
  simp only[leT,Bool.or_eq_true,dQ]
  by_cases h:b<a
  ·exact .inr (fun h2=>E8j h h2)
  ·exact .inl h) l
 exact this.imp fun h=>of_decide_eq_true h
theorem C1c{zs:List Txt}(hs:zs.Pairwise (fun a b=>a<=b)):∀ m,m<=zs.length->SS (Lib.compactUpTo zs.toArray m)/\∀ x,x∈Lib.compactUpTo zs.toArray m↔x∈zs.take m:=by
 intro m
 induction m with
 | zero=>intro _; exact⟨by simp[Lib.compactUpTo,SS],fun x=>by simp[Lib.compactUpTo]⟩
 | succ m ih =>
  intro h
  obtain⟨q1,q2⟩:=ih (by omega)
  have hm:m<zs.length:=by omega
  have eg:∀ j,(hj:j<zs.length)->zs.toArray[j]! = zs[j]:=fun j hj=>by simp[hj]
  rw[Lib.compactUpTo_succ,List.take_succ_eq_append_getElem hm,eg m hm]
  have hle:∀ x,x∈zs.take m->x<=zs[m]:=fun x hx=>by
   obtain⟨j,hj,rfl⟩:=List.getElem_of_mem hx
   rw[List.length_take] at hj
   rw[List.getElem_take]
   exact List.pairwise_iff_getElem.1 hs j m (by omega) hm (by omega)
  cases hk:Lib.keeps zs.toArray m with
  | true =>
   simp only[if_true]
   refine⟨List.pairwise_append.2 ⟨q1,by simp,fun a ha b hb=>?_⟩,fun x=>by simp only[List.mem_append,q2,List.mem_singleton]⟩
   rw[List.mem_singleton] at hb
   subst hb
   have ha:=(q2 a).1 ha
   by_cases h0:m=0
   ·subst h0; simp at ha
   ·have hne:zs[m]≠zs[m-1]:=by
     unfold Lib.keeps at hk
     rw[dQ,eg m hm,eg (m-1) (by omega)] at hk
     exact hk.resolve_left h0
    have h1:zs[m-1]<=zs[m]:=List.pairwise_iff_getElem.1 hs (m-1) m (by omega) hm (by omega)
    have h2:zs[m-1]<zs[m]:=by
     rcases List.le_iff_lt_or_eq.1 h1 with e | e
     ·exact e
     ·exact absurd e.symm hne
    obtain⟨j,hj,rfl⟩:=List.getElem_of_mem ha
    rw[List.length_take] at hj
    rw[List.getElem_take]
    by_cases hj2:j=m-1
    ·subst hj2; exact h2
    ·have h3:zs[j]<=zs[m-1]:=List.pairwise_iff_getElem.1 hs j (m-1) (by omega) (by omega) (by omega)
     rcases List.le_iff_lt_or_eq.1 h3 with e | e
     ·exact G0t e h2
     ·rw[e]; exact h2
  | false =>
   have hk2:¬ (m=0 \/ zs[m]≠zs[m-1]):=by
    unfold Lib.keeps at hk
    rw[decide_eq_false_iff_not,eg m hm,eg (m-1) (by omega)] at hk
    exact hk
   rw[not_or,Classical.not_not] at hk2
   simp only[Bool.false_eq_true,if_false,List.append_nil]
   refine⟨q1,fun x=>?_⟩
   rw[q2,List.mem_append,List.mem_singleton]
   refine⟨.inl,fun hx=>hx.elim id fun e=>?_⟩
   rw[e,hk2.2]
   have:(zs.take m)[m-1]?=some zs[m-1]:=by rw[List.getElem?_take_of_lt (by omega),gE]
   exact List.mem_of_getElem? this
theorem A6u(l:List Txt):Lib.compact (l.mergeSort leT)=setF l:=by
 obtain⟨h1,h2⟩:=C1c (E3u l) _ (lR _)
 refine(B2u h1 fun x=>?_).symm
 rw[h2,List.take_length,List.mem_mergeSort]
inductive Rch (nb:Txt->List Txt):Txt->Txt->Prop
 | one {a b:Txt}:b∈nb a->Rch nb a b
 | more {a b c:Txt}:Rch nb a b->c∈nb b->Rch nb a c
theorem Rch.trans{nb:Txt->List Txt}{a b c:Txt}(h:Rch nb a b)(h2:Rch nb b c):Rch nb a c:=by
 induction h2 with
 | one h3=>exact .more h h3
 | more _ h4 ih=>exact .more ih h4
theorem Rch.closed{nb:Txt->List Txt}{a:Txt}{l:List Txt}(h1:∀ x,x∈nb a->x∈l)(h2:∀ x,x∈l->∀ y,y∈nb x->y∈l){b:Txt}(h:Rch nb a b):b∈l:=by
 induction h with
 | one h=>exact h1 _ h
 | more _ h ih=>exact h2 _ ih _ h
def dfs(nb:Txt->List Txt):Nat->List Txt->Txt->List Txt
 | 0,l,_=>l
 | k+1,l,s=>(nb s).foldl (fun l x=>if x∈l then l else dfs nb k (l++[x]) x) l
def left(u l:List Txt):Nat:=(u.filter fun x=>decide (x∉l)).length
theorem B3s{u l m:List Txt}(h:∀ x,x∈l->x∈m):left u m<=left u l:=by
 unfold left
 induction u with
 | nil=>simp
 | cons a u ih =>
  by_cases h1:a∈m
  ·by_cases h2:a∈l<;>simp only[List.filter_cons,h1,h2,not_true_eq_false,not_false_eq_true,decide_true,decide_false,if_true,Bool.false_eq_true,if_false,List.length_cons]<;>omega
  ·have h2:a∉l:=fun h3=>h1 (h a h3)
   simp only[List.filter_cons,h1,h2,not_false_eq_true,decide_true,if_true,List.length_cons]; omega
theorem D2e{u l:List Txt}{x:Txt}(hx:x∈u)(h:x∉l):left u (l++[x])<left u l:=by
 unfold left
 induction u with
 | nil=>simp at hx
 | cons a u ih =>
  by_cases e:a=x
  ·subst e
   have hle:(u.filter fun y=>decide (y∉l++[a])).length<=(u.filter fun y=>decide (y∉l)).length:=B3s (u:=u) fun y hy=>List.mem_append_left _ hy
   simp only[List.filter_cons,h,not_false_eq_true,decide_true,if_true,List.length_cons,List.mem_append,List.mem_singleton,or_true,not_true_eq_false,decide_false,Bool.false_eq_true,if_false] at hle ⊢
   omega
  ·have:=ih ((List.mem_cons.1 hx).resolve_left (Ne.symm e))
   by_cases h2:a∈l
   ·simp only[List.filter_cons,h2,List.mem_append,true_or,not_true_eq_false,decide_false,Bool.false_eq_true,if_false] at this ⊢; exact this
   ·simp only[List.filter_cons,h2,List.mem_append,List.mem_singleton,e,or_self,not_false_eq_true,decide_true,if_true,List.length_cons] at this ⊢; omega
structure Vis (nb:Txt->List Txt) (l m:List Txt) (ok:Txt->Prop):Prop where
 sub:∀ x,x∈l->x∈m
 new:∀ x,x∈m->x∈l \/ (ok x/\∀ y,y∈nb x->y∈m)
 nd:l.Nodup->m.Nodup
theorem Vis.refl{nb:Txt->List Txt}{l:List Txt}{ok:Txt->Prop}:Vis nb l l ok:=⟨fun _ h=>h,fun _ h=>.inl h,fun h=>h⟩
theorem Vis.trans{nb:Txt->List Txt}{l m k:List Txt}{ok:Txt->Prop}(h:Vis nb l m ok)(h2:Vis nb m k ok):Vis nb l k ok :=
 ⟨fun x hx=>h2.sub x (h.sub x hx),fun x hx=>by
  rcases h2.new x hx with q | q
  ·rcases h.new x q with q | ⟨q1,q2⟩
   ·exact .inl q
   ·exact .inr ⟨q1,fun y hy=>h2.sub y (q2 y hy)⟩
  ·exact .inr q,fun h3=>h2.nd (h.nd h3)⟩
theorem D9r{nb:Txt->List Txt}{u:List Txt}(hu:∀ x,x∈u->∀ y,y∈nb x->y∈u):∀ (k:Nat) (l:List Txt) (s:Txt),s∈u->left u l<=k->(k=0->nb s=[] \/ ∀ x,x∈nb s->x∈l) ->
  Vis nb l (dfs nb k l s) (Rch nb s)/\∀ x,x∈nb s->x∈dfs nb k l s
 | 0,l,s,_,_,h0=>⟨by unfold dfs; exact Vis.refl,fun x hx=>by
  unfold dfs
  rcases h0 rfl with e | e
  ·rw[e] at hx; cases hx
  ·exact e x hx⟩
 | k+1,l,s,hs,hk,_=>by
  unfold dfs
  have key:∀ (t:List Txt) (l:List Txt),(∀ x,x∈t->x∈nb s)->left u l<=k+1 ->
    Vis nb l (t.foldl (fun l x=>if x∈l then l else dfs nb k (l++[x]) x) l) (Rch nb s)/\∀ x,x∈t->x∈t.foldl (fun l x=>if x∈l then l else dfs nb k (l++[x]) x) l:=by
   intro t
   induction t with
   | nil=>intro l _ _; exact⟨Vis.refl,fun x hx=>by cases hx⟩
   | cons a t ih =>
    intro l ht hl
    rw[List.foldl_cons]
    have ha:a∈nb s:=ht a (by simp)
    by_cases hin:a∈l
    ·rw[if_pos hin]
     obtain⟨q1,q2⟩:=ih l (fun x hx=>ht x (List.mem_cons_of_mem _ hx)) hl
     refine⟨q1,fun x hx=>?_⟩
     rcases List.mem_cons.1 hx with e | e
     ·rw[e]; exact q1.sub a hin
     ·exact q2 x e
    ·rw[if_neg hin]
     have hau:a∈u:=hu s hs a ha
     have hlt:=D2e hau hin
     obtain⟨v1,v2⟩:=D9r hu k (l++[a]) a hau (by omega) (fun hk0=>.inr fun x hx=>by
      have h0:left u (l++[a])=0:=by omega
      have hxu:=hu a hau x hx
      unfold left at h0
      rw[List.length_eq_zero_iff,List.filter_eq_nil_iff] at h0
      have:=h0 x hxu
      simp only[List.mem_append,List.mem_singleton,dQ,Classical.not_not] at this
      simpa using this)
     have v3:Vis nb l (dfs nb k (l++[a]) a) (Rch nb s):=by
      refine⟨fun x hx=>v1.sub x (List.mem_append_left _ hx),fun x hx=>?_,fun hnd=>v1.nd ?_⟩
      ·rcases v1.new x hx with q | ⟨q1,q2⟩
       ·rcases List.mem_append.1 q with q | q
        ·exact .inl q
        ·rw[List.mem_singleton] at q
         subst q
         exact .inr ⟨.one ha,v2⟩
       ·exact .inr ⟨(Rch.one ha).trans q1,q2⟩
      ·rw[List.nodup_append]
       exact⟨hnd,by simp,fun x hx y hy=>by rw[List.mem_singleton] at hy; subst hy; exact fun e=>hin (e ▸ hx)⟩
     obtain⟨q1,q2⟩:=ih (dfs nb k (l++[a]) a) (fun x hx=>ht x (List.mem_cons_of_mem _ hx)) (Nat.le_trans (B3s v3.sub) hl)
     refine⟨v3.trans q1,fun x hx=>?_⟩
     rcases List.mem_cons.1 hx with e | e
     ·rw[e]; exact q1.sub a (v1.sub a (by simp))
     ·exact q2 x e
  exact key (nb s) l (fun _ h=>h) hk
theorem D9p{nb:Txt->List Txt}{u:List Txt}(hu:∀ x,x∈u->∀ y,y∈nb x->y∈u){k:Nat}{s:Txt}(hs:s∈u)(hk:u.length<k):(dfs nb k [] s).Nodup/\∀ x,x∈dfs nb k [] s↔Rch nb s x:=by
 have hl:left u []<=k:=by unfold left; have:=List.length_filter_le (fun x=>decide (x∉([]:List Txt))) u; omega
 obtain⟨v,v2⟩:=D9r hu k [] s hs hl (fun h=>by omega)
 refine⟨v.nd (by simp),fun x=>⟨fun hx=>?_,fun hx=>Rch.closed v2 (fun y hy z hz=>?_) hx⟩⟩
 ·rcases v.new x hx with q | q
  ·cases q
  ·exact q.1
 ·rcases v.new y hy with q | q
  ·cases q
  ·exact q.2 z hz
def B5o(nb:Txt->List Txt)(o:List Txt):List Txt:=o.foldl (fun o x=>(nb x).foldl O6 o) o
def X7(nb:Txt->List Txt):Nat->List Txt->List Txt
 | 0,o=>o
 | n+1,o=>X7 nb n (B5o nb o)
theorem A5m(nb:Txt->List Txt):∀ (l o:List Txt),SS o->SS (l.foldl (fun o x=>(nb x).foldl O6 o) o)/\∀ y,y∈l.foldl (fun o x=>(nb x).foldl O6 o) o↔y∈o \/ ∃ x,x∈l/\y∈nb x
 | [],o,h=>⟨h,fun y=>by simp⟩
 | a::l,o,h=>by
  rw[List.foldl_cons]
  obtain⟨p1,p2⟩:=A2u (l:=nb a) h
  obtain⟨q1,q2⟩:=A5m nb l _ p1
  refine⟨q1,fun y=>?_⟩
  rw[q2,p2]
  constructor
  ·rintro((h | h) | ⟨x,h,h2⟩)
   ·exact .inl h
   ·exact .inr ⟨a,by simp,h⟩
   ·exact .inr ⟨x,List.mem_cons_of_mem _ h,h2⟩
  ·rintro(h | ⟨x,h,h2⟩)
   ·exact .inl (.inl h)
   ·rcases List.mem_cons.1 h with e | e
    ·subst e; exact .inl (.inr h2)
    ·exact .inr ⟨x,e,h2⟩
theorem SS.nodup{l:List Txt}(h:SS l):l.Nodup:=List.Pairwise.imp (fun{a b} (hab:a<b)=>fun(e:a=b)=>by rw[e] at hab; exact B9d b hab) h
theorem A5k:∀ {l u:List Txt},l.Nodup->(∀ x,x∈l->x∈u)->l.length<=u.length
 | [],u,_,_=>Nat.zero_le _
 | a::l,u,h,hu=>by
  obtain⟨h1,h2⟩:=List.nodup_cons.1 h
  have ha:a∈u:=hu a (by simp)
  have:=A5k (u:=u.erase a) h2 fun x hx=>(List.mem_erase_of_ne (fun(e:x=a)=>h1 (by rw[<- e]; exact hx))).2 (hu x (List.mem_cons_of_mem _ hx))
  rw[List.length_erase_of_mem ha] at this
  have hp:0<u.length:=List.length_pos_of_mem ha
  simp only[List.length_cons]; omega
theorem B9y{nb:Txt->List Txt}{u:List Txt}(hu:∀ x,x∈u->∀ y,y∈nb x->y∈u){s:Txt}(hs:s∈u):∀ (n:Nat) (o:List Txt),SS o->(∀ x,x∈nb s->x∈o)->(∀ x,x∈o->Rch nb s x)->(∀ x,x∈o->x∈u)->u.length<=n+o.length ->
  SS (X7 nb n o)/\∀ x,x∈X7 nb n o↔Rch nb s x
 | 0,o,h,h1,h2,h3,h4=>by
  refine⟨h,fun x=>⟨h2 x,fun hx=>?_⟩⟩
  show x∈o
  refine Rch.closed h1 (fun y hy z hz=>?_) hx
  have hz:=hu y (h3 y hy) z hz
  refine Classical.byContradiction fun hn=>?_
  have:(z::o).length<=u.length:=A5k (List.nodup_cons.2 ⟨hn,h.nodup⟩) fun w hw=>(List.mem_cons.1 hw).elim (fun e=>e ▸ hz) (h3 w)
  simp at this
  omega
 | n+1,o,h,h1,h2,h3,h4=>by
  obtain⟨q1,q2⟩:=A5m nb o o h
  have hsub:∀ x,x∈o->x∈B5o nb o:=fun x hx=>(q2 x).2 (.inl hx)
  by_cases hc:∀ x,x∈B5o nb o->x∈o
  ·have e:B5o nb o=o:=C4b q1 h fun x=>⟨hc x,hsub x⟩
   have er:∀ n,X7 nb n o=o:=fun n=>by
    induction n with
    | zero=>rfl
    | succ n ih=>rw[X7,e,ih]
   rw[er]
   refine⟨h,fun x=>⟨h2 x,fun hx=>Rch.closed h1 (fun y hy z hz=>hc z ((q2 z).2 (.inr ⟨y,hy,hz⟩))) hx⟩⟩
  ·have h5:o.length+1<=(B5o nb o).length:=by
    have hex:∃ x,x∈B5o nb o/\x∉o:=Classical.byContradiction fun hn=>hc fun x hx=>Classical.byContradiction fun hx2=>hn ⟨x,hx,hx2⟩
    obtain⟨x,hx,hx2⟩:=hex
    have:(x::o).length<=(B5o nb o).length:=A5k (List.nodup_cons.2 ⟨hx2,h.nodup⟩) fun w hw=>(List.mem_cons.1 hw).elim (fun e=>e ▸ hx) (hsub w)
    simpa using this
   rw[X7]
   exact B9y hu hs n _ q1 (fun x hx=>hsub x (h1 x hx)) (fun x hx=>by
    rcases(q2 x).1 hx with q | ⟨y,q,q3⟩
    ·exact h2 x q
    ·exact .more (h2 y q) q3) (fun x hx=>by
    rcases(q2 x).1 hx with q | ⟨y,q,q3⟩
    ·exact h3 x q
    ·exact hu y (h3 y q) x q3) (by omega)
theorem D6t{nb:Txt->List Txt}{u:List Txt}(hu:∀ x,x∈u->∀ y,y∈nb x->y∈u){k n:Nat}{s:Txt}(hs:s∈u)(hk:u.length<k)(hn:u.length<=n):setF (dfs nb k [] s)=X7 nb n (setF (nb s)):=by
 obtain⟨_,h2⟩:=D9p hu hs hk
 obtain⟨h3,h4⟩:=B9y hu hs n (setF (nb s)) (C7t _) (fun x hx=>D3h.2 hx) (fun x hx=>.one (D3h.1 hx)) (fun x hx=>hu s hs x (D3h.1 hx)) (by omega)
 exact B2u h3 fun x=>by rw[h2,h4]
end Go.Ad
namespace Go.Ad
def D6(l:List Txt):Nat->List AV:=fun i=>[.sstr (l.getD i [])]
def H0t:List AV->Txt
 | [a]=>(sstr? a).getD []
 | _=>[]
def P6(n:Nat)(row:Nat->List AV):List Txt:=(List.range n).map fun i=>H0t (row i)
theorem C0i(n:Nat)(row:Nat->List AV):(P6 n row).length=n:=by simp[P6]
theorem A1r(l:List Txt):P6 l.length (D6 l)=l:=by
 refine List.ext_getElem (by simp[P6]) fun i h1 h2=>?_
 simp[P6,D6,H0t,sstr?,gD,h2]
theorem A3p(l:List Txt):flat l.length (D6 l)=l.map AV.sstr:=by
 refine List.ext_getElem? fun i=>?_
 rw[List.getElem?_map]
 have hl:(flat l.length (D6 l)).length=l.length:=by rw[G8 (es:=1) fun i _=>rfl,Nat.mul_one]
 by_cases h:i<l.length
 ·have:=flat_get (row:=D6 l) (es:=1) (i:=i) (j:=0) (by omega) (n:=l.length) (fun i _=>rfl) h
  rw[Nat.mul_one,Nat.add_zero] at this
  rw[this]
  simp[D6,gD,h]
 ·rw[gO (by omega),gO (by omega)]; rfl
open Go.Sort (putRow grow)
open Go.Proofs (encStr)
section
variable {P:Program} {A:Amb} {Z:Emb} {B:Heap} {w:World}
theorem OR.holds{l:Loc}{L:List Txt}{ty:TypeId}(ht:ty≠roT)(ho:OR Z w.heap l (.vec L.length (D6 L) 1 ty)):Go.Sort.Holds encStr w l.c l.d L.toArray:=by
 obtain⟨_,_,arr,e,fz,h1,h2,h3,h4,h5⟩:=ho
 rw[A3p] at h3 h4
 intro j hj
 have hj:j<L.length:=by simpa using hj
 obtain⟨v,p,q⟩:=h4 j (.sstr L[j]) (by simp[hj])
 constructor
 ·unfold World.cell?
  simp only[h1,Option.isSome_none,Bool.false_eq_true,if_false,p]
  simp only[VR] at q
  obtain⟨b,q1,rfl⟩:=q
  have:(L.toArray)[j]! = b.data.toList:=by simp[hj,q1]
  rw[this]
 ·unfold World.frozen?
  obtain⟨lo,hi⟩:=fz
  simp only[h1]
  have hlt:l.d+j<l.n:=by
   have:=(gA.1 p).1
   omega
  rcases(h5 ht).2 (l.d+j) (by omega) hlt with q | q
  ·simp only at q; rw[Bool.and_eq_false_iff]; left; simp; omega
  ·simp only at q; rw[Bool.and_eq_false_iff]; right; simp; omega
theorem B9s{w':World}{b:Nat}{l:Loc}{L L' M:List Txt}{ty:TypeId}(hs:Sim A Z B w.heap)(hd:Dom Z B.length)(hb:B[b]?=some (.vec L.length (D6 L) 1 ty))(ht:ty≠roT)(hl:Z b=some l)(hM:M.length=L.length)(hpre:L' <+: M)(hw:∃ n os,w'=grow (putRow encStr (Go.Sort.ahead w n) l.c l.d M.toArray) os) :
  After A Z Z B (B.set b (.vec L'.length (D6 L') 1 ty)) [b] w w':=by
 obtain⟨n,os,rfl⟩:=hw
 obtain⟨h00,h0,arr,e,fz,h1,h2,h3,h4,h5⟩:=hs.obj b _ l hb hl
 have hlt:l.c<w.heap.size:=hs.lt b l hl
 have hL':L'.length<=L.length:=by rw[<- hM]; exact hpre.length_le
 rw[A3p,List.length_map] at h3
 have hne:∀ x,x≠l.c->(putRow encStr (Go.Sort.ahead w n) l.c l.d M.toArray).heap[x]?=w.heap[x]?:=fun x hx=>by
  show(w.heap.modify l.c _)[x]?=_
  rw[Array.getElem?_modify,if_neg (Ne.symm hx)]
 have hself:(putRow encStr (Go.Sort.ahead w n) l.c l.d M.toArray).heap[l.c]?=some (.cells (Go.Sort.putCells encStr l.d M.toArray arr) e fz):=by
  show(w.heap.modify l.c _)[l.c]?=_
  rw[Array.getElem?_modify,if_pos rfl,h1]; rfl
 have hsz:(putRow encStr (Go.Sort.ahead w n) l.c l.d M.toArray).heap.size=w.heap.size:=by
  show(w.heap.modify l.c _).size=_
  simp
 have hor:OR Z (putRow encStr (Go.Sort.ahead w n) l.c l.d M.toArray).heap l (.vec L'.length (D6 L') 1 ty):=by
  refine⟨⟨by omega,fun i _=>⟨rfl,rfl⟩⟩,h0,_,e,fz,hself,by simp[Go.Sort.putCells,h2],by rw[A3p,List.length_map]; omega,fun i a hi=>?_,h5⟩
  rw[A3p,List.getElem?_map] at hi
  simp only[oM] at hi
  obtain⟨s,hs1,rfl⟩:=hi
  have hi2:i<L'.length:=(gS.1 hs1).1
  have hMi:M[i]?=some s:=by
   obtain⟨r,hr⟩:=hpre
   rw[<- hr,gL hi2]; exact hs1
  have hlt2:l.d+i<arr.size:=by omega
  refine⟨encStr s,?_,?_⟩
  ·unfold Go.Sort.putCells
   have hMl:i<M.length:=by omega
   rw[Array.getElem?_mapIdx,aE hlt2]
   simp only[oS,List.size_toArray]
   rw[if_pos ⟨by omega,by omega⟩]
   have:M.toArray[l.d+i-l.d]! = s:=by
    rw[show l.d+i-l.d=i by omega]
    have:=(gS.1 hMi).2
    simp[hMl,this]
   rw[this]
  ·simp only[VR]
   exact⟨⟨s.toArray⟩,by simp,rfl⟩
 have a1:After A Z Z B (B.set b (.vec L'.length (D6 L') 1 ty)) [b] w (putRow encStr (Go.Sort.ahead w n) l.c l.d M.toArray):=by
  refine⟨⟨Z.le_refl,fun x lx p q=>(by rw[p] at q; cases q),by rw[hsz]; exact lR _,fun c _ hD=>hne c fun e=>hD b (by simp) l hl e.symm,fun c L0 hL=>?_,fun c d hd'=>?_,rfl,rfl,rfl,Q6⟩,
   hs.upd hb hl (by simp[AObj.own,ht]) hsz hne hor,by simpa using hd,⟨by simp,fun x hx hn=>?_⟩⟩
  ·by_cases e:c=l.c
   ·subst e; rw[h1] at hL; cases hL
   ·exact⟨L0,(hne c e).trans hL⟩
  ·by_cases e:c=l.c
   ·subst e; rw[h1] at hd'; cases hd'
   ·exact(hne c e).trans hd'
  ·rw[List.getElem?_set]
   simp only[List.mem_singleton] at hn
   rw[if_neg (fun e=>hn e.symm)]
 have a2:=(show Quiet (putRow encStr (Go.Sort.ahead w n) l.c l.d M.toArray) (grow (putRow encStr (Go.Sort.ahead w n) l.c l.d M.toArray) os) from
  ⟨by simp[grow],fun c hc=>by simp only[grow]; rw[Array.getElem?_append_left hc],rfl,rfl,rfl⟩).after a1.sim a1.dom
 have:=a1.trans a2
 rwa [List.append_nil] at this
theorem D7t{f:FuncId}(hsh:∀ (blk off cap:Nat) (ss:List Txt) (w:World),Go.Sort.Holds encStr w blk off ss.toArray->blk<w.heap.size->ss.length<4611686018427387904 ->
   Calls P f #[.slice (some ⟨blk,off,none⟩) ss.length cap] w fun e w'=>e=.returned (.tuple #[])/\∃ n os,w'=grow (putRow encStr (Go.Sort.ahead w n) blk off (ss.mergeSort leT).toArray) os){b:Nat}{L:List Txt}{ty:TypeId}(h0:L=[]->CallT P A f [.slice none 0 0] B (.tuple []) B [])(hb:B[b]?=some (.vec L.length (D6 L) 1 ty))(ht:ty≠roT)(hsz:L.length<4611686018427387904) :
  CallT P A f [.sslice b 0 L.length] B (.tuple []) (B.set b (.vec (L.mergeSort leT).length (D6 (L.mergeSort leT)) 1 ty)) [b]:=by
 intro Z w xs hs hd hg hx
 simp only[VRL] at hx
 obtain⟨v,r,hxs,hv,rfl⟩:=hx
 have hxs:xs=#[v]:=by apply Array.ext'; simpa using hxs
 subst hxs
 by_cases hL:L=[]
 ·have hv0:VR Z (.slice none 0 0) v:=by
   simp only[VR] at hv
   rcases hv with⟨h,_⟩ | ⟨_,h⟩
   ·rw[hL] at h; simp at h
   ·rw[h]; simp[VR]
  refine(h0 hL Z w _ hs hd hg (by simp only[VRL]; exact⟨v,[],rfl,hv0,rfl⟩)).mono fun e w'=>?_
  rintro⟨v',Z',rfl,q1,q2⟩
  ·refine⟨v',Z',rfl,q1,?_⟩
   have e:B.set b (.vec (L.mergeSort leT).length (D6 (L.mergeSort leT)) 1 ty)=B:=by
    subst hL
    apply List.ext_getElem?
    intro i
    rw[List.getElem?_set]
    split
    ·rename_i h; subst h
     have:b<B.length:=(gS.1 hb).1
     rw[if_pos this,hb]; simp
    ·rfl
   rw[e]
   exact⟨q2.step.dirty (fun _ h=>by cases h),q2.sim,q2.dom,⟨q2.fr.1,fun c hc _=>q2.fr.2 c hc (by simp)⟩⟩
 ·simp only[VR] at hv
  rcases hv with⟨_,l,cap,hl,_,_,rfl⟩ | ⟨h,_⟩
  ·simp only[Nat.zero_mul,Nat.add_zero]
   refine(hsh l.c l.d cap L w (hs.obj b _ l hb hl |>.holds ht) (hs.lt b l hl) hsz).mono fun e w'=>?_
   rintro⟨rfl,hw⟩
   exact⟨_,Z,rfl,by simp[VR,VRL],B9s hs hd hb ht hl (List.length_mergeSort ..) (List.prefix_rfl) hw⟩
  ·exact absurd (List.eq_nil_of_length_eq_zero h) hL
theorem C1b{f:FuncId}(hsh:∀ (blk off cap:Nat) (zs:List Txt) (w:World),Go.Sort.Holds encStr w blk off zs.toArray->zs.length<=9223372036854775807->zs.length<=cap ->
   Calls P f #[.slice (some ⟨blk,off,none⟩) zs.length cap] w fun e w'=>e=.returned (.slice (some ⟨blk,off,none⟩) (Lib.compact zs).length cap)/\∃ q,w'=putRow encStr (Go.Sort.ahead w q) blk off (Lib.compact zs++List.replicate (zs.length-(Lib.compact zs).length) []).toArray)(hsh0:∀ (a:Option Addr) (cap:Nat) (w:World),Calls P f #[.slice a 0 cap] w fun e w'=>e=.returned (.slice a 0 cap)/\w'=w){b:Nat}{L:List Txt}{ty:TypeId}(hb:B[b]?=some (.vec L.length (D6 L) 1 ty))(ht:ty≠roT)(hsz:L.length<4611686018427387904)(hne:L≠[]->Lib.compact L≠[])(hle:(Lib.compact L).length<=L.length) :
  CallT P A f [.sslice b 0 L.length] B (.sslice b 0 (Lib.compact L).length) (B.set b (.vec (Lib.compact L).length (D6 (Lib.compact L)) 1 ty)) [b]:=by
 intro Z w xs hs hd hg hx
 simp only[VRL] at hx
 obtain⟨v,r,hxs,hv,rfl⟩:=hx
 have hxs:xs=#[v]:=by apply Array.ext'; simpa using hxs
 subst hxs
 by_cases hL:L=[]
 ·subst hL
  simp only[VR] at hv
  rcases hv with⟨h,_⟩ | ⟨_,rfl⟩
  ·simp at h
  refine(hsh0 none 0 w).mono fun e w'=>?_
  rintro⟨rfl,rfl⟩
  refine⟨_,Z,rfl,by simp[VR,Lib.compact,Lib.compactUpTo],?_⟩
  have e:B.set b (.vec (Lib.compact ([]:List Txt)).length (D6 (Lib.compact [])) 1 ty)=B:=by
   apply List.ext_getElem?
   intro i
   rw[List.getElem?_set]
   split
   ·rename_i h; subst h
    have:b<B.length:=(gS.1 hb).1
    rw[if_pos this,hb]; simp[Lib.compact,Lib.compactUpTo]
   ·rfl
  rw[e]
  exact⟨(Step.refl _ _ _).dirty (fun _ h=>by cases h),hs,hd,⟨lR _,fun c hc _=>rfl⟩⟩
 ·simp only[VR] at hv
  rcases hv with⟨_,l,cap,hl,hc1,hc2,rfl⟩ | ⟨h,_⟩
  ·simp only[Nat.zero_mul,Nat.add_zero] at hc2 ⊢
   refine(hsh l.c l.d cap L w (hs.obj b _ l hb hl |>.holds ht) (by omega) hc1).mono fun e w'=>?_
   rintro⟨rfl,q,hw⟩
   refine⟨_,Z,rfl,?_,B9s (M:=Lib.compact L++List.replicate (L.length-(Lib.compact L).length) []) hs hd hb ht hl (by simp; omega) (List.prefix_append _ _) ⟨q,#[],by rw[hw]; simp⟩⟩
   simp only[VR,Nat.zero_mul,Nat.add_zero]
   exact .inl ⟨List.length_pos_iff.2 (hne hL),l,cap,hl,by omega,by omega,rfl⟩
  ·exact absurd (List.eq_nil_of_length_eq_zero h) hL
end
end Go.Ad
namespace Go.Ad
section
variable {P:Program} {A:Amb} {r:Rec}
def SEBx(P:Program)(A:Amb)(B0:Heap)(c:Code)(s:St)(e:AEx)(Q:St->Prop):Prop :=
 ∀ Z0 w0 Z w (b:Frame) t ds k cs,Dom Z0 B0.length->GlobOK P Z0->After A Z0 Z B0 s.B s.D w0 w->VRL Z s.U t.toList->∀ N,N<=w0.heap.size->DOK N w ds->RoundOK b w0->b.kind=.normal ->
  ∃ s',Q s'/\∃ Z' w' t' ds',Arr P (lone (F b t ds (.code c::k)) cs w) b k cs e t' ds' w'/\After A Z0 Z' B0 s'.B s'.D w0 w'/\VRL Z' s'.U t'.toList/\DOK N w' ds'
theorem SEBx.seq{B0:Heap}{c c':Code}{s s2:St}{e:AEx}{Q:St->Prop}(h1:SEBx P A B0 c s .normal Q)(h2:∀ s1,Q s1->SEB P A B0 c' s1 e s2):SEB P A B0 (.seq c c') s e s2:=by
 intro Z0 w0 Z w b t ds k cs hd hg ha hv N hN hds hrd hk
 obtain⟨s1,hQ,Z1,w1,t1,ds1,a1,a2,a3,a4⟩:=h1 Z0 w0 Z w b t ds (.code c'::k) cs hd hg ha hv N hN hds hrd hk
 obtain⟨Z2,w2,t2,ds2,q1,q2,q3,q4⟩:=h2 s1 hQ Z0 w0 Z1 w1 b t1 ds1 k cs hd hg a2 a3 N hN a4 hrd hk
 exact⟨Z2,w2,t2,ds2,.head (.head A6k a1) q1,q2,q3,q4⟩
def B5m(e:MapEntry):Txt:=match e.key with | .string b=>b.data.toList | _=>[]
theorem E0e{Z:Emb}:∀ {l:List Txt} {en:List MapEntry},VRL Z (l.map AV.str) (en.map (·.key))->l=en.map B5m
 | [],en,h=>by
  simp only[List.map_nil,VRL] at h
  have:en=[]:=by simpa using h
  rw[this]; rfl
 | s::l,en,h=>by
  simp only[List.map_cons,VRL] at h
  obtain⟨y,ys,e1,h1,h2⟩:=h
  cases en with
  | nil=>simp at e1
  | cons e en =>
   simp only[List.map_cons,List.cons.injEq] at e1
   obtain⟨rfl,rfl⟩:=e1
   simp only[VR] at h1
   obtain⟨b,q1,q2⟩:=h1
   rw[List.map_cons,<- E0e h2]
   have:B5m e=s:=by unfold B5m; rw[q2]; exact q1
   rw[this]
theorem born_inj:∀ {en:List MapEntry},(en.map (·.born)).Nodup->∀ {e e':MapEntry},e∈en->e'∈en->e.born=e'.born->e=e'
 | [],_,_,_,h,_,_=>by cases h
 | a::en,hn,e,e',h,h',hb=>by
  simp only[List.map_cons,List.nodup_cons] at hn
  rcases List.mem_cons.1 h with q | q<;>rcases List.mem_cons.1 h' with q' | q'
  ·rw[q,q']
  ·exact absurd (List.mem_map.2 ⟨e',q',by rw[<- hb,q]⟩) hn.1
  ·exact absurd (List.mem_map.2 ⟨e,q,by rw[hb,q']⟩) hn.1
  ·exact born_inj hn.2 q q' hb
def setIter(w:World)(c:Nat)(o:Obj):World:={ w with heap:=w.heap.setIfInBounds c o }
theorem D4o{Z0 Z:Emb}{Bm B:Heap}{we w w1:World}{li:Loc}{o o':Obj}(hc:li.c<we.heap.size)(h:After A Z0 Z Bm B [] (setIter we li.c o) w)(hs:Sim A Z B w1.heap)(hsz:w1.heap.size=w.heap.size)(hself:w1.heap[li.c]?=some o')(hoth:∀ c,c≠li.c->w1.heap[c]?=w.heap[c]?)(ht:w1.tape=w.tape)(ho:w1.os=w.os)(hout:w1.output=w.output):After A Z0 Z Bm B [] (setIter we li.c o') w1:=by
 have hst:=h.step
 have hz:∀ o,(setIter we li.c o).heap.size=we.heap.size:=fun o=>by simp[setIter]
 have hkeep:∀ c,c<we.heap.size->w1.heap[c]?=(setIter we li.c o').heap[c]?:=fun c hc1=>by
  by_cases e:c=li.c
  ·subst e; rw[hself]; simp[setIter,hc]
  ·rw[hoth c e,hst.keep c (by rw[hz]; exact hc1) (fun b hb=>by cases hb)]
   simp only[setIter]
   rw[Array.getElem?_setIfInBounds_ne (Ne.symm e),Array.getElem?_setIfInBounds_ne (Ne.symm e)]
 refine⟨⟨hst.ext,fun b l p q=>?_,by rw[hz,hsz]; have:=hst.size; rw[hz] at this; exact this,fun c hc1 _=>hkeep c (by rwa [hz] at hc1),fun c L hL=>?_,fun c d hL=>?_,by rw[ht,hst.tape]; rfl,by rw[ho,hst.os]; rfl,by rw[hout,hst.out]; rfl,fun c v p q=>?_⟩,hs,h.dom,h.fr⟩
 ·have:=hst.dom b l p q; rw[hz] at this ⊢; exact this
 ·have hc1:c<we.heap.size:=by have:=(gA.1 hL).1; rwa [hz] at this
  exact⟨L,(hkeep c hc1).trans hL⟩
 ·have hc1:c<we.heap.size:=by have:=(gA.1 hL).1; rwa [hz] at this
  exact(hkeep c hc1).trans hL
 ·have:=hst.fdom c v p q; rw[hz] at this ⊢; exact this
theorem E3h(hr:SRec P A r)(hfr:FrOK r){U Un Ue:List Txt->List AV}{Bv:List Txt->Heap}{Bm:Heap}{mi:Nat}{it tn te tok:Tmp}{i2 i3 id0 id1:Nat}{ops2 ops3:Array Oper}{c4:Code}{l:List Txt}(hmi:∀ v,(Bv v)[mi]?=some .miter)(hit:∀ v,(U v)[it]?=some (.ptr (some (mi,0)))){o2:Oper}(h20:ops2[0]?=some o2)(h2op:o2.op=.next (.tmp it) false)(h2g:o2.guard=none)(h2d:o2.dst=some tn)(h2t:∀ v,M6 P r ops2 (ops2.toList.drop 1) (Q5 (U v) (some tn) (.tuple [.bool true,.bad,.bad])) (Bv v)=some (Un v,Bv v,[]))(h2f:∀ v,M6 P r ops2 (ops2.toList.drop 1) (Q5 (U v) (some tn) (.tuple [.bool false])) (Bv v)=some (Ue v,Bv v,[]))(hnt:∀ v,(Un v)[tok]?=some (.bool true))(het:∀ v,(Ue v)[tok]?=some (.bool false))(hni:∀ v,(Un v)[it]?=some (.ptr (some (mi,0)))){o3:Oper}(h30:ops3[0]?=some o3)(h3op:o3.op=.entry (.tmp it))(h3g:o3.guard=none)(h3d:o3.dst=some te)(hb:∀ v x,v.length<l.length->x∈l->∃ U3,M6 P r ops3 (ops3.toList.drop 1) (Q5 (Un v) (some te) (.tuple [.sstr x,.bool true])) (Bv v)=some (U3,Bv v,[])/\SEB P A Bm c4 ⟨U3,Bv v,[]⟩ .normal ⟨U (v++[x]),Bv (v++[x]),[]⟩){body:Code}(hbody:body=.seq (.region i2 ops2 false) (.seq (.cond (.tmp tok) .skip (.exit id0)) (.block id1 (.seq (.region i3 ops3 false) c4)))){Z0:Emb}{we:World}{li lm:Loc}{en:Array MapEntry}{ck:Nat}(hli:Z0 mi=some li)(hd0:li.d=0)(hcl:li.c<we.heap.size)(hcm:lm.c<we.heap.size)(hme:we.heap[lm.c]?=some (.map en ck))(hnelm:lm.c≠li.c)(hkeys:l=en.toList.map B5m)(hkv:∀ e∈en.toList,VR Z0 (.sstr (B5m e)) e.key/\VR Z0 (.bool true) e.val)(hbn:B7x (en.toList.map (·.born)) ck)(hdm:Dom Z0 Bm.length)(hg0:GlobOK P Z0)(hstep:∀ s c,Step Z0 Z0 Bm.length Bm.length [mi] we (setIter we li.c (.mapIter (some lm.c) ck s c))) :
  ∀ (k0:Nat) (seen:Array Nat) (c0:Nat) (v:List Txt) (Z:Emb) (w:World) (b:Frame) (t:Array Value) (ds:List Deferred) (k:List Item) (cs:List Frame),(leftOf en seen).size<=k0->(leftOf en seen).size+v.length<=l.length ->
   (∀ e∈en.toList,e.born∈seen->B5m e∈v)->(∀ x∈v,x∈l)->ck<=c0 ->
   After A Z0 Z Bm (Bv v) [] (setIter we li.c (.mapIter (some lm.c) ck seen c0)) w->VRL Z (U v) t.toList->∀ N,N<=we.heap.size->DOK N w ds->RoundOK b we->b.kind=.normal ->
   ∃ v',(∀ x,x∈v'↔x∈l)/\v'.length<=l.length/\∃ Z' w' t' ds' todo s' c',Steps P (lone (F b t ds (.code body::.inLoop body::k)) cs w) (lone (F b t' ds' (.code (.exit id0)::todo)) cs w')/\exitTo id0 todo=exitTo id0 k /\
    After A Z0 Z' Bm (Bv v') [] (setIter we li.c (.mapIter (some lm.c) ck s' c')) w'/\VRL Z' (Ue v') t'.toList/\DOK N w' ds':=by
 have hsz2:List.range ops2.size=0::List.range' 1 (ops2.toList.drop 1).length:=by
  have h:0<ops2.size:=(gA.1 h20).1
  obtain⟨m,hm⟩:∃ m,ops2.size=m+1:=⟨ops2.size-1,by omega⟩
  rw[List.range_eq_range',hm,List.range'_succ,List.length_drop,Array.length_toList,hm]; rfl
 have hsz3:List.range ops3.size=0::List.range' 1 (ops3.toList.drop 1).length:=by
  have h:0<ops3.size:=(gA.1 h30).1
  obtain⟨m,hm⟩:∃ m,ops3.size=m+1:=⟨ops3.size-1,by omega⟩
  rw[List.range_eq_range',hm,List.range'_succ,List.length_drop,Array.length_toList,hm]; rfl
 have hl2:∀ j,(ops2.toList.drop 1)[j]?=ops2[1+j]?:=fun j=>by rw[dP,Array.getElem?_toList]
 have hl3:∀ j,(ops3.toList.drop 1)[j]?=ops3[1+j]?:=fun j=>by rw[dP,Array.getElem?_toList]
 have hnd2:∀ c,o2.op≠.defer c:=fun c hc=>by rw[h2op] at hc; cases hc
 have hnd3:∀ c,o3.op≠.defer c:=fun c hc=>by rw[h3op] at hc; cases hc
 have hptr:∀ (Z:Emb) (U:List AV) (t:Array Value) (ds:List Deferred),Z mi=some li->U[it]?=some (.ptr (some (mi,0)))->VRL Z U t.toList->(Act.mk t ds).eval (.tmp it)=.pointer (some ⟨li.c,0,none⟩):=fun Z U t ds h1 h3 hv=>by
  obtain⟨y,p,q⟩:=hv.get h3
  simp only[VR] at q
  obtain⟨l,q1,q2⟩:=q
  rw[h1] at q1; cases q1
  rw[hd0] at q2
  simp only[Act.eval]
  have p':t[it]?=some y:=by simpa using p
  rw[gA] at p'
  obtain⟨hlt,p'⟩:=p'
  simp[Array.getD,hlt,p',q2]
 have g1:∀ (b:Frame) t ds cs w (K:List Item),Steps P (lone (F b t ds (.code body::K)) cs w) (lone (F b t ds (.inRegion ops2 (0::List.range' 1 (ops2.toList.drop 1).length)::.code (.seq (.cond (.tmp tok) .skip (.exit id0)) (.block id1 (.seq (.region i3 ops3 false) c4)))::K)) cs w):=fun b t ds cs w K=>by
  rw[hbody,<- hsz2]
  exact(Steps.one A6k).trans (.one go_region)
 have tokV:∀ (Z:Emb) (U:List AV) (t:Array Value) (ds:List Deferred) (v:Bool),U[tok]?=some (.bool v)->VRL Z U t.toList->(Act.mk t ds).eval (.tmp tok)=.bool v:=fun Z U t ds v h hv=>by
  obtain⟨y,p,q⟩:=hv.get h
  simp only[VR] at q
  subst q
  simp only[Act.eval]
  have p':t[tok]?=some (.bool v):=by simpa using p
  rw[gA] at p'
  obtain⟨hlt,p'⟩:=p'
  simp[Array.getD,hlt,p']
 have hold:∀ x∈en.toList,x.born<ck:=fun x hx=>hbn.2 _ (List.mem_map.2 ⟨x,hx,rfl⟩)
 have hzz:∀ o,(setIter we li.c o).heap.size=we.heap.size:=fun o=>by simp[setIter]
 have hig:∀ o,(setIter we li.c o).heap[li.c]?=some o:=fun o=>by simp[setIter,hcl]
 have hmg:∀ o,(setIter we li.c o).heap[lm.c]?=some (.map en ck):=fun o=>by
  simp only[setIter]
  rw[Array.getElem?_setIfInBounds_ne (Ne.symm hnelm)]; exact hme
 have look:∀ {Z:Emb} {v:List Txt} {o:Obj} {w:World},After A Z0 Z Bm (Bv v) [] (setIter we li.c o) w->w.heap[li.c]?=some o/\w.heap[lm.c]?=some (.map en ck)/\Z mi=some li:=fun{Z v o w} h =>
  ⟨(h.step.keep li.c (by rw[hzz]; exact hcl) (fun _ h=>by cases h)).trans (hig o),(h.step.keep lm.c (by rw[hzz]; exact hcm) (fun _ h=>by cases h)).trans (hmg o),h.step.ext mi li hli⟩
 intro k0
 induction k0 using Nat.strongRecOn with
 | _ k0 ih =>
  intro seen c0 v Z w b t ds k cs hk hlen hin hsub hcc ha hv N hN hds hrd hk0
  obtain⟨hi,hm,hli1⟩:=look ha
  have hg:=hg0.mono ha.step.ext
  have hp:=hptr Z (U v) t ds hli1 (hit v) hv
  have want2:Region.wanted o2 (yielded ops2 t)=true:=by unfold Region.wanted; rw[h2g]
  have s1:=g1 b t ds cs w (.inLoop body::k)
  rcases E8n (P:=P) hi hm hold hcc o2.type with⟨h00,hrun⟩ | ⟨e,he,d,hrun⟩
  ·-- the end
   have hex:(execOp (Act.mk t ds).eval o2).run P w=.ok (.value (.tuple #[.bool false])) w:=by
    unfold execOp
    rw[h2op]
    simp only[hp,Sem.run_bind,hrun,Result.andThen]
    rfl
   have s2:=Steps.one (A0t (b:=b) (k:=.code (.seq (.cond (.tmp tok) .skip (.exit id0)) (.block id1 (.seq (.region i3 ops3 false) c4)))::.inLoop body::k) (cs:=cs) (rest:=List.range' 1 (ops2.toList.drop 1).length) h20 want2 hnd2 hex (.inl rfl))
   have hv':VRL Z (Q5 (U v) (some tn) (.tuple [.bool false])) ((Act.mk t ds).put o2.dst (.tuple #[.bool false])).tmps.toList:=by
    rw[h2d]
    exact X4 (d:=some tn) hv (by simp[VR,VRL])
   obtain⟨Z2,w2,t2,s3,q2,q3⟩:=A3g hr hfr (ops:=ops2) (ops2.toList.drop 1) 1 _ _ _ _ _ Z w _ hl2 (h2f v) ha.sim ha.dom hg hv'
   have s4:Steps P (lone (F b t2 ds (.inRegion ops2 []::.code (.seq (.cond (.tmp tok) .skip (.exit id0)) (.block id1 (.seq (.region i3 ops3 false) c4)))::.inLoop body::k)) cs w2)
     (lone (F b t2 ds (.code (.exit id0)::.code (.block id1 (.seq (.region i3 ops3 false) c4))::.inLoop body::k)) cs w2) :=
    (Steps.one U9).trans ((Steps.one A6k).trans (.one (B5w (tokV _ _ _ _ _ (het v) q2))))
   refine⟨v,fun x=>⟨hsub x,fun hx=>?_⟩,by omega,Z2,w2,t2,ds,_,seen,c0,s1.trans (s2.trans (s3.trans s4)),rfl,ha.trans q3,q2,hds.keep q3.step⟩
   rw[hkeys] at hx
   obtain⟨e,he,rfl⟩:=List.mem_map.1 hx
   refine hin e he ?_
   have hemp:=Array.eq_empty_of_size_eq_zero h00
   unfold leftOf at hemp
   rw[Array.filter_eq_empty_iff] at hemp
   have:=hemp e (by simpa using he)
   simpa using this
  ·-- an entry
   have hex:(execOp (Act.mk t ds).eval o2).run P w=.ok (.value (.tuple #[.bool true,e.key,e.val])) { w with heap:=w.heap.setIfInBounds li.c (.mapIter (some lm.c) ck (seen.push e.born) ck),drawn:=d }:=by
    unfold execOp
    rw[h2op]
    simp only[hp,Sem.run_bind,hrun,Result.andThen]
    rfl
   obtain⟨hst1,hsim1⟩:=B0l (d:=d) (m':=some lm.c) (s':=ck) (seen':=seen.push e.born) (c':=ck) ha.sim (hmi v) hli1 hi
   have hlt1:li.c<w.heap.size:=ha.sim.lt mi li hli1
   have hi1:(w.heap.setIfInBounds li.c (.mapIter (some lm.c) ck (seen.push e.born) ck))[li.c]?=some (.mapIter (some lm.c) ck (seen.push e.born) ck):=by simp[hlt1]
   have s2:=Steps.one (A0t (b:=b) (k:=.code (.seq (.cond (.tmp tok) .skip (.exit id0)) (.block id1 (.seq (.region i3 ops3 false) c4)))::.inLoop body::k) (cs:=cs) (rest:=List.range' 1 (ops2.toList.drop 1).length) h20 want2 hnd2 hex (.inl rfl))
   generalize hw1:({ w with heap:=w.heap.setIfInBounds li.c (.mapIter (some lm.c) ck (seen.push e.born) ck),drawn:=d }:World)=w1 at *
   have hh1:w1.heap=w.heap.setIfInBounds li.c (.mapIter (some lm.c) ck (seen.push e.born) ck):=by rw[<- hw1]
   rw[<- hh1] at hsim1 hi1
   have ha1:After A Z0 Z Bm (Bv v) [] (setIter we li.c (.mapIter (some lm.c) ck (seen.push e.born) ck)) w1 :=
    D4o hcl ha hsim1 (by rw[hh1]; simp) hi1 (fun c hc=>by rw[hh1,Array.getElem?_setIfInBounds_ne (Ne.symm hc)]) (by rw[<- hw1]) (by rw[<- hw1]) (by rw[<- hw1])
   have hv':VRL Z (Q5 (U v) (some tn) (.tuple [.bool true,.bad,.bad])) ((Act.mk t ds).put o2.dst (.tuple #[.bool true,e.key,e.val])).tmps.toList:=by
    rw[h2d]
    exact X4 (d:=some tn) hv (by simp only[VR,VRL]; exact⟨_,rfl,_,_,rfl,rfl,_,_,rfl,trivial,_,_,rfl,trivial,rfl⟩)
   obtain⟨Z2,w2,t2,s3,q2,q3⟩:=A3g hr hfr (ops:=ops2) (ops2.toList.drop 1) 1 _ _ _ _ _ Z w1 _ hl2 (h2t v) hsim1 ha.dom hg hv'
   have ha2:=ha1.trans q3
   obtain⟨hi2,hm2,hli2⟩:=look ha2
   have hg2:=hg0.mono ha2.step.ext
   have s4:Steps P (lone (F b t2 ds (.inRegion ops2 []::.code (.seq (.cond (.tmp tok) .skip (.exit id0)) (.block id1 (.seq (.region i3 ops3 false) c4)))::.inLoop body::k)) cs w2)
     (lone (F b t2 ds (.inRegion ops3 (0::List.range' 1 (ops3.toList.drop 1).length)::.code c4::.inBlock id1::.inLoop body::k)) cs w2):=by
    rw[<- hsz3]
    exact(Steps.one U9).trans ((Steps.one A6k).trans ((Steps.one (B5w (tokV _ _ _ _ _ (hnt v) q2))).trans ((Steps.one go_skip).trans ((Steps.one A5i).trans ((Steps.one A6k).trans (.one go_region))))))
   have hp3:=hptr Z2 (Un v) t2 ds hli2 (hni v) q2
   have want3:Region.wanted o3 (yielded ops3 t2)=true:=by unfold Region.wanted; rw[h3g]
   have heen:e∈en.toList:=by
    unfold leftOf at he
    rw[Array.toList_filter] at he
    exact(List.mem_filter.1 he).1
   have hent:=E2p (P:=P) (w:=w2) hi2 hm2 heen hbn.1
   have hex3:(execOp (Act.mk t2 ds).eval o3).run P w2=.ok (.value (.tuple #[e.key,e.val])) w2:=by
    unfold execOp
    rw[h3op]
    simp only[hp3,Sem.run_bind,hent,Result.andThen]
    rfl
   have s5:=Steps.one (A0t (b:=b) (k:=.code c4::.inBlock id1::.inLoop body::k) (cs:=cs) (rest:=List.range' 1 (ops3.toList.drop 1).length) h30 want3 hnd3 hex3 (.inl rfl))
   have hxl:B5m e∈l:=by rw[hkeys]; exact List.mem_map.2 ⟨e,heen,rfl⟩
   have hpos:0<(leftOf en seen).size:=by rw[<- Array.length_toList]; exact List.length_pos_of_mem he
   obtain⟨U3,b1,b2⟩:=hb v (B5m e) (by omega) hxl
   have hv3:VRL Z2 (Q5 (Un v) (some te) (.tuple [.sstr (B5m e),.bool true])) ((Act.mk t2 ds).put o3.dst (.tuple #[e.key,e.val])).tmps.toList:=by
    rw[h3d]
    exact X4 (d:=some te) q2 (by simp only[VRL,VR]; exact⟨_,rfl,_,_,rfl,by simpa only[VR] using(hkv e heen).1.mono ha2.step.ext,_,_,rfl,by simpa only[VR] using(hkv e heen).2,rfl⟩)
   obtain⟨Z3,w3,t3,s6,q5,q6⟩:=A3g hr hfr (ops:=ops3) (ops3.toList.drop 1) 1 _ _ _ _ _ _ w2 _ hl3 b1 ha2.sim ha2.dom hg2 hv3
   have ha3:=ha2.trans q6
   have hds3:DOK N w3 ds:=((hds.keep hst1).keep q3.step).keep q6.step
   obtain⟨Z4,w4,t4,ds4,a1,a2,a3,a4⟩:=b2 Z0 (setIter we li.c (.mapIter (some lm.c) ck (seen.push e.born) ck)) Z3 w3 b t3 ds (.inBlock id1::.inLoop body::k) cs hdm hg0 ha3 q5 N (by rw[hzz]; exact hN) hds3 (hrd.keep (hstep _ _)) hk0
   have hless:=E3g he
   obtain⟨v',m1,m2,Z',w',t',ds',todo,s',c',f1,f2,f3,f4,f5⟩:=ih _ (Nat.lt_of_lt_of_le hless hk) (seen.push e.born) ck (v++[B5m e]) Z4 w4 b t4 ds4 k cs (lR _) (by rw[lA,List.length_singleton]; omega)
    (fun e' he' hb'=>by
     rw[Array.mem_push] at hb'
     rcases hb' with q | q
     ·exact List.mem_append_left _ (hin e' he' q)
     ·rw[born_inj hbn.1 he' heen q]; simp)
    (fun x hx=>by
     rcases List.mem_append.1 hx with q | q
     ·exact hsub x q
     ·rw[List.mem_singleton.1 q]; exact hxl)
    (lR _) a2 a3 N hN a4 hrd hk0
   exact⟨v',m1,m2,Z',w',t',ds',todo,s',c',s1.trans (s2.trans (s3.trans (s4.trans (s5.trans (s6.trans ((Steps.one U9).trans (Steps.trans a1 ((Steps.one B0i).trans ((Steps.one A8x).trans f1))))))))),f2,f3,f4,f5⟩
theorem G0q{Z:Emb}:∀ {l:List Txt} {en:List MapEntry},VRL Z (l.map AV.str) (en.map (·.key))->VRL Z (l.map fun _=>AV.bool true) (en.map (·.val))->∀ e∈en,VR Z (.sstr (B5m e)) e.key/\VR Z (.bool true) e.val
 | [],en,h,_,e,he=>by
  simp only[List.map_nil,VRL] at h
  have:en=[]:=by simpa using h
  rw[this] at he; cases he
 | s::l,en,h,h2,e,he=>by
  simp only[List.map_cons,VRL] at h h2
  obtain⟨y,ys,e1,p1,p2⟩:=h
  obtain⟨z,zs,e2,p3,p4⟩:=h2
  cases en with
  | nil=>cases he
  | cons a en =>
   simp only[List.map_cons,List.cons.injEq] at e1 e2
   obtain⟨rfl,rfl⟩:=e1
   obtain⟨rfl,rfl⟩:=e2
   rcases List.mem_cons.1 he with q | q
   ·subst q
    refine⟨?_,p3⟩
    simp only[VR] at p1 ⊢
    obtain⟨b,q1,q2⟩:=p1
    exact⟨b,by unfold B5m; rw[q2],q2⟩
   ·exact G0q p2 p4 e q
theorem SEBx.rangeSet{prims:Prims}{n:Nat}(F7:P.follows .mixedOrders=true)(F9:A0o P)(hp:PrimOK P A prims){B0:Heap}{U0 U1:List AV}{U Un Ue:List Txt->List AV}{Bv:List Txt->Heap}{Bs B1:Heap}{D0 D1:List Nat}{mb:Nat}{it tn te tok mt:Tmp}{i1 i2 i3 id0 id1:Nat}{ops1 ops2 ops3:Array Oper}{c4:Code}{l:List Txt}{l1:List Oper}{o1:Oper}{ty kt et:TypeId}(h1l:ops1.toList=l1++[o1])(h1op:o1.op=.range ty (.tmp mt))(h1g:o1.guard=none)(h1d:o1.dst=some it)(hty:P.underlying ty=some (.map kt et))(h1:M6 P (run P prims n) ops1 l1 U0 Bs=some (U1,B1,D1))(hmt:U1[mt]?=some (.map (some mb)))(hmb:B1[mb]?=some (.smap l))(hstart:Wk A (B1++[.miter]) ⟨Q5 U1 (some it) (.ptr (some (B1.length,0))),B1++[.miter],[]⟩ ⟨U [],Bv [],[]⟩)(hmi:∀ v,(Bv v)[B1.length]?=some .miter)(hit:∀ v,(U v)[it]?=some (.ptr (some (B1.length,0)))){o2:Oper}(h20:ops2[0]?=some o2)(h2op:o2.op=.next (.tmp it) false)(h2g:o2.guard=none)(h2d:o2.dst=some tn)(h2t:∀ v,M6 P (run P prims n) ops2 (ops2.toList.drop 1) (Q5 (U v) (some tn) (.tuple [.bool true,.bad,.bad])) (Bv v)=some (Un v,Bv v,[]))(h2f:∀ v,M6 P (run P prims n) ops2 (ops2.toList.drop 1) (Q5 (U v) (some tn) (.tuple [.bool false])) (Bv v)=some (Ue v,Bv v,[]))(hnt:∀ v,(Un v)[tok]?=some (.bool true))(het:∀ v,(Ue v)[tok]?=some (.bool false))(hni:∀ v,(Un v)[it]?=some (.ptr (some (B1.length,0)))){o3:Oper}(h30:ops3[0]?=some o3)(h3op:o3.op=.entry (.tmp it))(h3g:o3.guard=none)(h3d:o3.dst=some te)(hb:∀ v x,v.length<l.length->x∈l->∃ U3,M6 P (run P prims n) ops3 (ops3.toList.drop 1) (Q5 (Un v) (some te) (.tuple [.sstr x,.bool true])) (Bv v)=some (U3,Bv v,[])/\SEB P A (B1++[.miter]) c4 ⟨U3,Bv v,[]⟩ .normal ⟨U (v++[x]),Bv (v++[x]),[]⟩) :
  SEBx P A B0 (.seq (.region i1 ops1 false) (.block id0 (.loop (.seq (.region i2 ops2 false) (.seq (.cond (.tmp tok) .skip (.exit id0)) (.block id1 (.seq (.region i3 ops3 false) c4))))))) ⟨U0,Bs,D0⟩ .normal
   (fun s'=>∃ v,(∀ x,x∈v↔x∈l)/\v.length<=l.length/\s'=⟨Ue v,Bv v,D0++(D1++[B1.length])⟩):=by
 have hr:=A5n F7 F9 hp n
 have hfr:=B3y P hp.fr n
 intro Z0 w0 Z w b t ds k cs hdm0 hg0 ha hv N hN hds hrd hk0
 have hg:=hg0.mono ha.step.ext
 have hsz:List.range ops1.size=List.range' 0 l1.length++[l1.length]:=by
  rw[<- Array.length_toList,h1l,lA,List.length_singleton,List.range_eq_range',<- List.range'_append_1]; simp
 have hl1:∀ j,j<l1.length->l1[j]?=ops1[0+j]?:=fun j hj=>by
  rw[Nat.zero_add,<- Array.getElem?_toList,h1l,gL hj]
 have ho1:ops1[l1.length]?=some o1:=by
  rw[<- Array.getElem?_toList,h1l,gR (lR _),Nat.sub_self]; rfl
 obtain⟨Z1,w1,t1,s1,q1,q2⟩:=B7p hr hfr (ops:=ops1) (b:=b) (ds:=ds) (k:=.code (.block id0 (.loop (.seq (.region i2 ops2 false) (.seq (.cond (.tmp tok) .skip (.exit id0)) (.block id1 (.seq (.region i3 ops3 false) c4))))))::k) (cs:=cs) [l1.length] l1 0 U0 Bs U1 B1 D1 Z w t hl1 h1 ha.sim ha.dom hg hv
 obtain⟨y,p1,p2⟩:=q1.get hmt
 simp only[VR] at p2
 obtain⟨lm,hlm,rfl⟩:=p2
 obtain⟨en,ck,hm,hv1,hv2,hbn⟩:=q2.sim.obj mb _ lm hmb hlm
 have hev:(Act.mk t1 ds).eval (.tmp mt)=.map (some lm.c):=by
  simp only[Act.eval]
  have p':t1[mt]?=some (.map (some lm.c)):=by simpa using p1
  rw[gA] at p'
  obtain⟨hlt,p'⟩:=p'
  simp[Array.getD,hlt,p']
 have want1:Region.wanted o1 (yielded ops1 t1)=true:=by unfold Region.wanted; rw[h1g]
 have hnd1:∀ c,o1.op≠.defer c:=fun c hc=>by rw[h1op] at hc; cases hc
 have hex:(execOp (Act.mk t1 ds).eval o1).run P w1=.ok (.value (.pointer (some ⟨w1.heap.size,0,none⟩))) (w1.alloc (.mapIter (some lm.c) ck #[] ck)):=by
  unfold execOp
  rw[h1op]
  simp only[hev,Sem.run_bind,E3q hty hm,Result.andThen]
  rfl
 have s2:=Steps.one (A0t (b:=b) (k:=.code (.block id0 (.loop (.seq (.region i2 ops2 false) (.seq (.cond (.tmp tok) .skip (.exit id0)) (.block id1 (.seq (.region i3 ops3 false) c4))))))::k) (cs:=cs) (rest:=[]) ho1 want1 hnd1 hex (.inl rfl))
 have hn:Z1 B1.length=none:=q2.dom _ (lR _)
 have hsim2:Sim A (Z1.put B1.length ⟨w1.heap.size,0,0,0⟩) (B1++[.miter]) (w1.heap.push (.mapIter (some lm.c) ck #[] ck)):=q2.sim.push hn ⟨some lm.c,ck,#[],ck,by simp⟩
 have hstep2:Step Z1 (Z1.put B1.length ⟨w1.heap.size,0,0,0⟩) B1.length (B1.length+1) [] w1 { w1 with heap:=w1.heap.push (.mapIter (some lm.c) ck #[] ck) }:=by
  have:=Step.push hn (.mapIter (some lm.c) ck #[] ck) 0 0 0 (w:=w1)
  exact⟨this.ext,this.dom,this.size,this.keep,this.loops,this.defs,rfl,rfl,rfl,this.fdom⟩
 have hdom2:Dom (Z1.put B1.length ⟨w1.heap.size,0,0,0⟩) (B1++[AObj.miter]).length:=by
  rw[lA,List.length_singleton]; exact q2.dom.put
 have hself:(Z1.put B1.length ⟨w1.heap.size,0,0,0⟩) B1.length=some ⟨w1.heap.size,0,0,0⟩:=Emb.put_self _ _ _
 have hlm2:(Z1.put B1.length ⟨w1.heap.size,0,0,0⟩) mb=some lm:=hstep2.ext mb lm hlm
 have hw2:w1.alloc (.mapIter (some lm.c) ck #[] ck)={ w1 with heap:=w1.heap.push (.mapIter (some lm.c) ck #[] ck) }:=rfl
 rw[hw2] at s2
 generalize hZ2:Z1.put B1.length ⟨w1.heap.size,0,0,0⟩=Z2 at *
 have hiter:(w1.heap.push (.mapIter (some lm.c) ck #[] ck))[w1.heap.size]?=some (.mapIter (some lm.c) ck #[] ck):=by simp
 have hmlt:=q2.sim.lt mb lm hlm
 have hmap:(w1.heap.push (.mapIter (some lm.c) ck #[] ck))[lm.c]?=some (.map en ck):=by
  rw[Array.getElem?_push_lt hmlt,<- aE hmlt]; exact hm
 have hv':VRL Z2 (Q5 U1 (some it) (.ptr (some (B1.length,0)))) ((Act.mk t1 ds).put o1.dst (.pointer (some ⟨w1.heap.size,0,none⟩))).tmps.toList:=by
  rw[h1d]
  exact X4 (d:=some it) (q1.mono hstep2.ext) (by simp only[VR]; exact⟨_,hself,rfl⟩)
 have ha2:After A Z1 Z2 B1 (B1++[.miter]) [] w1 { w1 with heap:=w1.heap.push (.mapIter (some lm.c) ck #[] ck) }:=by
  refine⟨by rw[lA,List.length_singleton]; exact hstep2,hsim2,hdom2,⟨by simp,fun b hb _=>?_⟩⟩
  rw[gL hb]
 have ha12:=(ha.trans q2).trans ha2
 have hsm:(B1++[AObj.miter])[B1.length]?=some .miter:=by simp
 obtain⟨we,hwe⟩:∃ we:World,we={ w1 with heap:=w1.heap.push (.mapIter (some lm.c) ck #[] ck) }:=⟨_,rfl⟩
 have hweh:we.heap=w1.heap.push (.mapIter (some lm.c) ck #[] ck):=by rw[hwe]
 rw[<- hwe] at ha12 s2
 rw[<- hweh] at hiter hmap hsim2
 have hwsz:we.heap.size=w1.heap.size+1:=by rw[hweh]; simp
 have hset:setIter we w1.heap.size (.mapIter (some lm.c) ck #[] ck)=we:=by
  unfold setIter
  have:we.heap.setIfInBounds w1.heap.size (.mapIter (some lm.c) ck #[] ck)=we.heap:=by
   apply Array.ext_getElem?
   intro i
   rw[Array.getElem?_setIfInBounds]
   split
   ·rename_i e; subst e; rw[if_pos (by omega),hiter]
   ·rfl
  rw[this]
 obtain⟨Z3,ha3,hv3⟩:=hstart Z2 we Z2 we _ hdom2 (.refl hsim2 hdom2) hv'
 have hstp:∀ s c,Step Z2 Z2 (B1++[AObj.miter]).length (B1++[AObj.miter]).length [B1.length] we (setIter we w1.heap.size (.mapIter (some lm.c) ck s c)):=fun s c=>by
  have:=(B0l (w:=we) (d:=we.drawn) (m':=some lm.c) (s':=ck) (seen':=s) (c':=c) hsim2 hsm hself hiter).1
  exact this
 have hsimS:∀ s c,Sim A Z2 (B1++[AObj.miter]) (setIter we w1.heap.size (.mapIter (some lm.c) ck s c)).heap:=fun s c =>
  (B0l (w:=we) (d:=we.drawn) (m':=some lm.c) (s':=ck) (seen':=s) (c':=c) hsim2 hsm hself hiter).2
 have hleft:(leftOf en #[]).size=l.length:=by
  have h1:=hv1.length
  have e:leftOf en #[]=en:=by unfold leftOf; simp
  rw[e,<- Array.length_toList]
  simpa using h1
 obtain⟨v',m1,m2,Z',w',t',ds',todo,s',c',f1,f2,f3,f4,f5⟩:=E3h (A:=A) (mi:=B1.length) (Bm:=B1++[.miter]) (U:=U) (Un:=Un) (Ue:=Ue) (Bv:=Bv) (l:=l) (Z0:=Z2) (we:=we) (li:=⟨w1.heap.size,0,0,0⟩) (lm:=lm) (en:=en) (ck:=ck) hr hfr hmi hit h20 h2op h2g h2d h2t h2f hnt het hni h30 h3op h3g h3d hb rfl hself rfl
  (by rw[hwsz]; simp) (by omega) hmap (by simp; omega) (E0e hv1) (fun e he=>G0q (hv1.mono hstep2.ext) (hv2.mono hstep2.ext) e he) hbn hdom2 ((hg.mono q2.step.ext).mono hstep2.ext) hstp
  (leftOf en #[]).size #[] ck [] Z3 we b _ ds (.inBlock id0::k) cs (lR _) (by rw[hleft]; simp) (fun e _ h=>by simp at h) (fun x hx=>by cases hx) (lR _) (by
   show After A Z2 Z3 (B1++[AObj.miter]) (Bv []) [] (setIter we w1.heap.size (.mapIter (some lm.c) ck #[] ck)) we
   rw[hset]; exact ha3) hv3 N (Nat.le_trans hN ha12.step.size) ((hds.keep q2.step).keep (by rw[hwe]; exact hstep2)) (hrd.keep ha12.step) hk0
 have hx:exitTo id0 todo=some k:=by rw[f2]; simp[exitTo]
 refine⟨_,⟨v',m1,m2,rfl⟩,Z',w',t',ds',?_,?_,f4,f5⟩
 ·have g0:Steps P (lone (F b t ds (.code (.seq (.region i1 ops1 false) (.block id0 (.loop (.seq (.region i2 ops2 false) (.seq (.cond (.tmp tok) .skip (.exit id0)) (.block id1 (.seq (.region i3 ops3 false) c4)))))))::k)) cs w) _:=(Steps.one A6k).trans (.one go_region)
  rw[hsz] at g0
  exact g0.trans (s1.trans (s2.trans ((Steps.one U9).trans ((Steps.one A5i).trans ((Steps.one go_loop).trans (f1.trans (.one (C6l hx))))))))
 ·have hit2:After A Z2 Z2 (B1++[.miter]) (B1++[.miter]) [B1.length] we (setIter we w1.heap.size (.mapIter (some lm.c) ck s' c')):=⟨hstp s' c',hsimS s' c',hdom2,lR _,fun _ _ _=>rfl⟩
  have:=ha12.trans (hit2.trans f3)
  rw[List.append_nil,List.append_assoc,List.append_nil] at this
  exact this
end
end Go.Ad
namespace Go.Ad
section
variable {P:Program} {A:Amb}
def itC{β:Type}(L0:β->List Lf)(dec:List Lf->β)(Inv:β->Prop)(ls:List Lf):Bool:=E9 (ls=L0 (dec ls)/\Inv (dec ls))
theorem P5{β:Type}{L0:β->List Lf}{dec:List Lf->β}{Inv:β->Prop}{x:β}(h:dec (L0 x)=x)(hi:Inv x):itC L0 dec Inv (L0 x)=true:=A9 ⟨by rw[h],by rw[h]; exact hi⟩
def itT{β:Type}(sq:SP)(id:Nat)(ee:AEx)(dec:List Lf->β)(L0:β->List Lf)(Le:List Lf->β->List Lf)(Inv:β->Prop)(ls:List Lf):Tr (AEx×SP×List Lf) :=
 .br (itC L0 dec Inv ls) (.leaf (C6w id ee,sq,Le ls (dec ls))) .fail
theorem SEB.iterR{prims:Prims}(hp:PrimOK P A prims){f:FuncId}{id:Nat}{fn:Func}{c body:Code}(hf:P.funcs[f]?=some fn)(hc:fn.body=some c)(hb:(blocks c).filter (fun p=>p.1==id)=[(id,.loop body)]){β:Type}{sp0 sp sq:SP}{m:Nat}{ds:List Nat}{ee:AEx}{dec:List Lf->β}{L0:β->List Lf}{L:β->Nat->List Lf}{Le:List Lf->β->List Lf}{N:β->Nat}{Inv:β->Prop}(hok:okD m ds 0 sp0.h=true)(hee:ee≠.normal)(hfr:∀ x,frP ds 0 (sp0.heap (L0 x)) (sq.heap (Le (L0 x) x)))(hent:∀ x,Inv x->∀ Bb:Heap,Bb.length=m->Wk A Bb ⟨sp0.rho (L0 x),sp0.heap (L0 x),ds⟩ ⟨sp.rho (L x 0),sp.heap (L x 0),ds⟩)(hr:∀ x,Inv x->∀ n,n<N x->∀ Bb:Heap,Bb.length=m->SEB P A Bb body ⟨sp.rho (L x n),sp.heap (L x n),ds⟩ .normal ⟨sp.rho (L x (n+1)),sp.heap (L x (n+1)),ds⟩)(he:∀ x,Inv x->∀ Bb:Heap,Bb.length=m->SEB P A Bb body ⟨sp.rho (L x (N x)),sp.heap (L x (N x)),ds⟩ ee ⟨sq.rho (Le (L0 x) x),sq.heap (Le (L0 x) x),ds⟩) :
  PrimOK P A (prims.addb f id (hookP sp0 m ds (itT sq id ee dec L0 Le Inv))):=by
 refine hp.addbP hf hc hb hok fun ls e sq2 l h=>?_
 obtain⟨h1,h2⟩:=Tr.br1 h
 obtain⟨h1,hi⟩:=H6 h1
 revert h1 hi h2
 generalize dec ls=x
 intro h2 h1 hi
 subst h1
 simp only[Tr.get,sI,pI] at h2
 obtain⟨rfl,rfl,rfl⟩:=h2
 exact⟨hfr x,fun Bb hB=>SEB.wk_in (hent x hi Bb hB) (SEB.block (SEB.loop_nat (I:=fun n=>⟨sp.rho (L x n),sp.heap (L x n),ds⟩) (N:=N x) (fun i hi2=>hr x hi i hi2 Bb hB) (he x hi Bb hB) hee (Nat.zero_le _)))⟩
end
end Go.Ad
namespace Go.Ad
section
variable {P:Program} {A:Amb}
theorem PrimOK.addDC{prims:Prims}(hp:PrimOK P A prims)(hG:(gN P)<=A.G){f:FuncId}{g:List AV->Tr AV}{fn:Func}(hf:P.funcs[f]?=some fn)(hc:fn.body.isSome=true)(hg:∀ args v,(g args).get=some v->∃ args' v' B',(∀ (Z:Emb) (xs:List Value),VRL Z args xs->VRL Z args' xs)/\(∀ (Z:Emb) (x:Value),VR Z v' x->VR Z v x)/\I8 0 args'=true/\F3 0 v'=true /\
   CallT P A f args' (Bg (gN P)) v' B' []):PrimOK P A (prims.addt f g):=by
 refine hp.put hf hc fun args B v B' D h=>?_
 rw[Tr.get_plain] at h
 refine⟨A0a h,fun Z w xs hs hd _ hx=>?_⟩
 unfold only at h
 simp only[oM,pI] at h
 obtain⟨v1,h1,rfl,rfl,rfl⟩:=h
 obtain⟨args',v',B',h2,h3,h4,h5,h6⟩:=hg args _ h1
 refine(h6 (A2o (gN P) Z.fz) w xs (F1q _ hs.amb hs.gLe hG hs.fzOK) (D5s _) C2p (A3a (Z:=Z) (Z':=A2o (gN P) Z.fz) (fun _ _ h=>h) h4 (h2 Z _ hx))).mono fun e w'=>?_
 rintro⟨y,Z1,rfl,q1,q2⟩
 have hst:=q2.step
 have hk:∀ c,c<w.heap.size->w'.heap[c]?=w.heap[c]?:=fun c hc=>hst.keep c hc fun _ h=>by cases h
 have hext:∀ c v,Z.fz c=some v->Z1.fz c=some v:=hst.ext.fz
 have hle:Z.le ⟨Z.bl,Z1.fz⟩:=⟨fun _ _ h=>h,hext⟩
 refine⟨y,⟨Z.bl,Z1.fz⟩,rfl,h3 _ y (B5r (Z:=Z1) (Z':=⟨Z.bl,Z1.fz⟩) (fun _ _ h=>h) h5 q1),⟨⟨hle,fun b l p q=>(by(have p2:Z.bl b=Option.none:=p); rw[show(⟨Z.bl,Z1.fz⟩:Emb) b=Z.bl b from rfl,p2] at q; cases q),hst.size,fun c hc _=>hk c hc,hst.loops,hst.defs,hst.tape,hst.os,hst.out,fun c v p q=>?_⟩,⟨fun b o l hb hl=>?_,fun b l hl=>?_,hs.own,q2.sim.amb,hs.ownG,q2.sim.gLe,q2.sim.fzOK,fun c v b l o p hl hb g1=>?_⟩,hd,.refl _⟩⟩
 ·rcases hst.fdom c v p q with h | ⟨b0,h,_⟩
  ·exact .inl h
  ·cases h
 ·exact(hs.obj b o l hb hl).keep hle (hk _ (hs.lt b l hl))
 ·exact Nat.lt_of_lt_of_le (hs.lt b l hl) hst.size
 ·cases hq:Z.fz c with
  | some v'=>exact hs.fzSep c v' b l o hq hl hb g1
  | none =>
   rcases hst.fdom c v hq p with h | ⟨b0,h,_⟩
   ·have:=hs.lt b l hl; omega
   ·cases h
theorem PrimOK.addParB{prims:Prims}(hp:PrimOK P A prims)(hG:(gN P)<=A.G){β:Type}(p:Par β)(V:β->Tr AV){f:FuncId}{fn:Func}{c:Code}(hf:P.funcs[f]?=some fn)(hc:fn.body=some c)(h:∀ x v,(V x).get=some v->∃ e s' vs,SEB P A (Bg (gN P)) c ⟨p.av x++List.replicate (fn.ntmps-(p.av x).length) H7,Bg (gN P),[]⟩ e s'/\(∀ id,e≠.exit id)/\X5 P s'.B s'.U fn.results.toList=some vs/\s'.D=[]/\F3 0 (A1s vs)=true /\
   ∀ (Z:Emb) y,VR Z (A1s vs) y->VR Z v y):PrimOK P A (prims.addt f (M8 p V)):=by
 refine PrimOK.addDC hp hG hf (by rw[hc]; rfl) fun args v hv=>?_
 unfold M8 at hv
 split at hv
 ·rename_i cc x hx
  obtain⟨rfl,hv⟩:=Tr.br1 hv
  obtain⟨e,s',vs,h1,h2,h3,h4,h5,h6⟩:=h x v hv
  refine⟨p.av x,A1s vs,s'.B,fun Z xs hx2=>p.ok hx hx2,h6,p.free x,h5,fun Z w xs hs hd hg hx3=>?_⟩
  have:=A4v hf hc h1 h2 h3 Z w xs hs hd hg hx3
  rw[h4] at this
  exact this
 ·cases hv
end
def txF(s:Txt):List FV:=[.str s]
theorem U4(a b:Txt)(h:txF a=txF b):a=b:=by simpa[txF] using h
abbrev Q4(l:List Txt):AV:=.flist l.length (A7 txF l) 1
theorem G2u{Z:Emb}{f g:Nat->List FV}{es:Nat}{v:Value}(h:VR Z (.flist 0 f es) v):VR Z (.flist 0 g es) v:=by
 simp only[VR,FVR] at h ⊢
 rcases h with⟨_,h⟩ | h
 ·exact .inl ⟨trivial,h⟩
 ·obtain⟨h0,_⟩:=h
  omega
end Go.Ad
namespace Go.Ad
theorem B7g(O:List Txt)(x:Txt)(i:Nat):K4 O.length (D6 O) [.sstr x] i=[.sstr (bif decide (i<O.length) then O.getD i [] else x)]:=rfl
theorem A1w(O:List Txt)(x:Txt){i:Nat}(hi:i<O.length+1):K4 O.length (D6 O) [.sstr x] i=D6 (O++[x]) i:=by
 rw[B7g]
 unfold D6
 by_cases h:i<O.length
 ·rw[dT h,cond_true,gD,gD,gL h]
 ·have e:i=O.length:=by omega
  rw[dF h,cond_false,e,gD,gR (lR _)]
  simp
theorem E1y(O:List Txt)(s x:Txt){i:Nat}(hi:i<O.length+1+1):K4 (O.length+1) (K4 O.length (D6 O) [.sstr s]) [.sstr x] i=D6 (O++[s]++[x]) i:=by
 have e1:K4 (O.length+1) (K4 O.length (D6 O) [.sstr s]) [.sstr x] i=[.sstr (bif decide (i<O.length+1) then(bif decide (i<O.length) then O.getD i [] else s) else x)]:=rfl
 have e2:=A1w (O++[s]) x (i:=i) (by simp; omega)
 rw[B7g] at e2
 rw[e1,<- e2]
 simp only[lA,List.length_singleton]
 by_cases h:i<O.length+1
 ·rw[dT h,cond_true,cond_true]
  have:=A1w O s h
  rw[B7g] at this
  unfold D6 at this
  exact this
 ·rw[dF h]; rfl
section
variable {A:Amb} {B0:Heap}
theorem Wk.rowsQ{B:Heap}{U:List AV}{D:List Nat}{b n es:Nat}{r r':Nat->List AV}{ty:TypeId}(hb:B[b]?=some (.vec n r es ty))(hD:b<B0.length->b∈D)(h:∀ i,i<n->r i=r' i):Wk A B0 ⟨U,B,D⟩ ⟨U,B.set b (.vec n r' es ty),D⟩ :=
 Wk.obj hb hD (fun h=>h) (fun h=>h) fun _ _ _ ho=>OR.rows h ho
end
theorem B9r(s:Txt):∀ (l:List Txt) (o:List Txt×Bool),(l.foldl (A4y s) o).1.length<=o.1.length+2*l.length
 | [],o=>by simp
 | x::l,o=>by
  rw[List.foldl_cons]
  have h1:=B9r s l (A4y s o x)
  have h2:(A4y s o x).1.length<=o.1.length+2:=by
   unfold A4y
   split<;>split<;>simp
  simp only[List.length_cons]; omega
end Go.Ad
namespace Go.Ad
theorem SEB.iterK{P:Program}{A:Amb}{prims prims0:Prims}(F7:P.follows .mixedOrders=true)(F9:A0o P)(hp0:PrimOK P A prims0)(hp:PrimOK P A prims){f:FuncId}{id:Nat}{fn:Func}{c body:Code}(hf:P.funcs[f]?=some fn)(hc:fn.body=some c)(hb:(blocks c).filter (fun p=>p.1==id)=[(id,.loop body)]){β:Type}{sp0 sp:SP}{sq:AEx->SP}{m k:Nat}{ds:List Nat}{ee:AEx}{dec:List Lf->β}{L0:β->List Lf}{L:β->Nat->List Lf}{Le:List Lf->β->List Lf}{N:β->Nat}{Inv:β->Prop}(hsq:sq .normal=sp)(hok0:okD m ds 0 sp0.h=true)(hok:okD m ds 0 sp.h=true)(hoke:okD m ds 0 (sq ee).h=true)(hee:ee≠.normal)(hfr:∀ x,frP ds 0 (sp0.heap (L0 x)) ((sq ee).heap (Le (L0 x) x)))(hent:∀ x,Inv x->∀ Bb:Heap,Bb.length=m->Wk A Bb ⟨sp0.rho (L0 x),sp0.heap (L0 x),ds⟩ ⟨sp.rho (L x 0),sp.heap (L x 0),ds⟩)(hr:∀ x,Inv x->∀ n,n<=N x->E8 P (D5 P prims0 k) (prims0.blk f) body (sp.rho (L x n)) (sp.heap (L x n)) (H9 sq m ds)=some (if n<N x then(.normal,L x (n+1)) else(ee,Le (L0 x) x))) :
  PrimOK P A (prims.addb f id (hookP sp0 m ds (itT (sq ee) id ee dec L0 Le Inv))) :=
 SEB.iterR (N:=N) (L:=L) hp hf hc hb hok0 hee hfr hent
  (fun x hx n hn Bb hB=>by
   have h:=hr x hx n (Nat.le_of_lt hn)
   rw[if_pos hn] at h
   have:=SEB.of_KP (e:=.normal) (sp:=sq) (B0:=Bb) (ds:=ds) F7 F9 hp0 ((hp0.blk f fn c hf hc).sub hb) hB h (by rw[hsq]; exact hok)
   rw[hsq] at this
   exact this)
  (fun x hx Bb hB=>by
   have h:=hr x hx _ (lR _)
   rw[if_neg (by omega)] at h
   exact SEB.of_KP (e:=ee) (sp:=sq) (B0:=Bb) (ds:=ds) F7 F9 hp0 ((hp0.blk f fn c hf hc).sub hb) hB h hoke)
theorem D9j{f g:Nat->List FV}{es:Nat}(Z:Emb)(v:Value)(h:VR Z (.flist 0 f es) v):VR Z (.flist 0 g es) v:=G2u h
theorem E4m{i:Nat}{a a':AV}{U:List AV}(ha:U[i]?=some a)(h:∀ (Z:Emb) (v:Value),VR Z a v->VR Z a' v)(Z:Emb):∀ l:List Value,VRL Z U l->VRL Z (U.set i a') l:=by
 induction U generalizing i with
 | nil=>intro l hl; simp at ha
 | cons r U ih =>
  intro l hl
  simp only[VRL] at hl
  obtain⟨y,r2,rfl,h1,h2⟩:=hl
  cases i with
  | zero =>
   simp only[List.getElem?_cons_zero,sI] at ha
   subst ha
   exact⟨y,r2,rfl,h Z y h1,h2⟩
  | succ i =>
   simp only[List.getElem?_cons_succ] at ha
   exact⟨y,r2,rfl,h1,ih ha r2 h2⟩
end Go.Ad
namespace Go.Ad
section
variable {P:Program} {A:Amb} {Z:Emb} {B:Heap} {w:World}
def rdL{α:Type}(rd:Heap->List AV->Option α)(es:Nat)(B:Heap):AV->Option (List α)
 | .slice none 0 0=>some []
 | .slice (some (b,o)) n _=>match B[b]? with
  | some (.cells cs _ _ _)=>if o+n*es<=cs.length then(List.range n).mapM fun i=>rd B ((cs.drop (o+i*es)).take es) else none
  | _=>none
 | _=>none
def E9r(_:Heap):List AV->Option Dat
 | [a,b]=>match sstr? a,i64? b with
  | some s,some m=>some ⟨s,m⟩
  | _,_=>none
 | _=>none
def E9x(B:Heap):List AV->Option Frm
 | [a,b,c,d,e]=>match i64? a,sbool? b,i64? c,i64? d,rdL E9r 2 B e with
  | some k,some u,some t,some m,some l=>some ⟨k,u,t,m,l⟩
  | _,_,_,_,_=>none
 | _=>none
def E9v(B:Heap):List AV->Option Fea
 | [a,b,c,d,e,f,g,h,i]=>match sstr? a,i64? b,i64? c,i64? d,i64? e,i64? f,i64? g,i64? h,rdL E9x 5 B i with
  | some s,some k,some a,some x,some y,some z,some lo,some hi,some l=>some ⟨s,k,a,x,y,z,lo,hi,l⟩
  | _,_,_,_,_,_,_,_,_=>none
 | _=>none
def E9t(_:Heap):List AV->Option Dim
 | [a,b,c,d,e]=>match sstr? a,sstr? b,i64? c,i64? d,i64? e with
  | some f,some t,some a,some lo,some hi=>some ⟨f,t,a,lo,hi⟩
  | _,_,_,_,_=>none
 | _=>none
def E0x(B:Heap):List AV->Option Drw
 | [a,b,c]=>match sstr? a,rdL E9v 9 B b,rdL E9t 5 B c with
  | some s,some l,some m=>some ⟨s,l,m⟩
  | _,_,_=>none
 | _=>none
theorem B9e{α β:Type}{f:α->Option β}:∀ {l:List α} {r:List β},l.mapM f=some r->r.length=l.length/\∀ (i:Nat) (a:α),l[i]?=some a->∃ b,r[i]?=some b/\f a=some b
 | [],r,h=>by
  simp only[List.mapM_nil] at h
  cases h
  exact⟨rfl,fun i a hi=>by simp at hi⟩
 | x::l,r,h=>by
  rw[List.mapM_cons] at h
  cases hx:f x with
  | none=>rw[hx] at h; cases h
  | some y =>
   rw[hx] at h
   cases hl:l.mapM f with
   | none=>rw[hl] at h; cases h
   | some ys =>
    rw[hl] at h
    cases h
    obtain⟨h1,h2⟩:=B9e hl
    refine⟨by simp[h1],fun i a hi=>?_⟩
    cases i with
    | zero=>simp at hi; subst hi; exact⟨y,rfl,hx⟩
    | succ i=>simp at hi ⊢; exact h2 i a hi
def E4k{α:Type}(_A:Amb)(Z:Emb)(B:Heap)(w:World)(fv:α->List FV)(rd:Heap->List AV->Option α):Prop:=∀ l x,rd B l=some x->∀ vs,VRL Z l vs->FVRL (fzW w) (fv x) vs
theorem C7o{α:Type}[Inhabited α]{fv:α->List FV}{rd:Heap->List AV->Option α}{es:Nat}(hs:Sim A Z B w.heap)(hr:E4k A Z B w fv rd){a:AV}{l:List α}(h:rdL rd es B a=some l){v:Value}(hv:VR Z a v) :
  FVR (fzW w) (B5n fv es l) v:=by
 unfold rdL at h
 split at h
 ·cases h
  simp only[VR] at hv
  obtain⟨_,_,rfl⟩:=hv
  simp[B5n,FVR]
 ·rename_i b o n m
  split at h
  ·rename_i cs es' rw ty hb
   split at h
   ·rename_i hlen
    obtain⟨g1,g2⟩:=B9e h
    rw[List.length_range] at g1
    simp only[VR] at hv
    obtain⟨lc,cap,off,hl,h1,h2,h3,h4,h5,rfl⟩:=hv
    simp only[B5n,FVR]
    rcases Nat.eq_zero_or_pos n with rfl | hn
    ·exact .inl ⟨g1,.inr ⟨_,_,rfl⟩⟩
    ·have hoff:off=lc.d+o:=by rcases h3 with h3 | h3<;>omega
     subst hoff
     obtain⟨q0,arr,_,fz,q1,q2,q3,q4,_⟩:=hs.obj b _ lc hb hl
     refine .inr ⟨by omega,lc.c,lc.d+o,cap,arr.toList,by unfold fzW; rw[q1],by omega,by rw[g1],by rw[g1,Array.length_toList]; omega,fun i hi=>?_⟩
     rw[g1] at hi
     obtain⟨x,r1,r2⟩:=g2 i i (by rw[List.getElem?_range hi])
     have e1:A7 fv l i=fv x:=by
      unfold A7
      rw[gD,r1]; rfl
     rw[e1]
     have hle:i*es+es<=n*es:=by rw[<- Nat.succ_mul]; exact Nat.mul_le_mul_right es hi
     refine hr _ x r2 _ (.of_get (by simp only[List.length_take,List.length_drop,Array.length_toList]; omega) fun j u hj=>?_)
     rw[tK] at hj ⊢
     split at hj
     ·rename_i hjl
      rw[if_pos hjl]
      rw[dP] at hj ⊢
      obtain⟨u',p,q⟩:=q4 _ _ hj
      exact⟨u',by rw[Array.getElem?_toList,show lc.d+o+i*es+j=lc.d+(o+i*es+j) by omega]; exact p,q⟩
     ·cases hj
   ·cases h
  ·cases h
 ·cases h
theorem E9s:E4k A Z B w Dat.fv E9r:=fun l x h vs hv=>by
 unfold E9r at h
 split at h
 ·split at h
  ·rename_i h1 h2
   cases h
   simp only[VRL] at hv
   obtain⟨y1,l1,rfl,g1,y2,l2,rfl,g2,rfl⟩:=hv
   have k1:=A0l h1 g1
   have k2:=M9 h2 g2
   simp only[VR] at k1 k2
   simp only[Dat.fv,FVRL,FVR]
   exact⟨_,_,rfl,k1,_,_,rfl,k2,rfl⟩
  ·cases h
 ·cases h
theorem E9y(hs:Sim A Z B w.heap):E4k A Z B w Frm.fv E9x:=fun l x h vs hv=>by
 unfold E9x at h
 split at h
 ·split at h
  ·rename_i h1 h2 h3 h4 h5
   cases h
   simp only[VRL] at hv
   obtain⟨y1,l1,rfl,g1,y2,l2,rfl,g2,y3,l3,rfl,g3,y4,l4,rfl,g4,y5,l5,rfl,g5,rfl⟩:=hv
   have k1:=M9 h1 g1
   have k2:=C3m h2 g2
   have k3:=M9 h3 g3
   have k4:=M9 h4 g4
   have k5:=C7o hs E9s h5 g5
   simp only[VR] at k1 k2 k3 k4
   simp only[Frm.fv,FVRL]
   refine⟨_,_,rfl,by simp only[FVR]; exact k1,_,_,rfl,by simp only[FVR]; exact k2,_,_,rfl,by simp only[FVR]; exact k3,_,_,rfl,by simp only[FVR]; exact k4,_,_,rfl,k5,rfl⟩
  ·cases h
 ·cases h
theorem E9w(hs:Sim A Z B w.heap):E4k A Z B w Fea.fv E9v:=fun l x h vs hv=>by
 unfold E9v at h
 split at h
 ·split at h
  ·rename_i h1 h2 h3 h4 h5 h6 h7 h8 h9
   cases h
   simp only[VRL] at hv
   obtain⟨y1,l1,rfl,g1,y2,l2,rfl,g2,y3,l3,rfl,g3,y4,l4,rfl,g4,y5,l5,rfl,g5,y6,l6,rfl,g6,y7,l7,rfl,g7,y8,l8,rfl,g8,y9,l9,rfl,g9,rfl⟩:=hv
   have k1:=A0l h1 g1
   have k2:=M9 h2 g2
   have k3:=M9 h3 g3
   have k4:=M9 h4 g4
   have k5:=M9 h5 g5
   have k6:=M9 h6 g6
   have k7:=M9 h7 g7
   have k8:=M9 h8 g8
   have k9:=C7o hs (E9y hs) h9 g9
   simp only[VR] at k1 k2 k3 k4 k5 k6 k7 k8
   simp only[Fea.fv,FVRL]
   refine⟨_,_,rfl,by simp only[FVR]; exact k1,_,_,rfl,by simp only[FVR]; exact k2,_,_,rfl,by simp only[FVR]; exact k3,_,_,rfl,by simp only[FVR]; exact k4,_,_,rfl,by simp only[FVR]; exact k5,
    _,_,rfl,by simp only[FVR]; exact k6,_,_,rfl,by simp only[FVR]; exact k7,_,_,rfl,by simp only[FVR]; exact k8,_,_,rfl,k9,rfl⟩
  ·cases h
 ·cases h
theorem E9u:E4k A Z B w Dim.fv E9t:=fun l x h vs hv=>by
 unfold E9t at h
 split at h
 ·split at h
  ·rename_i h1 h2 h3 h4 h5
   cases h
   simp only[VRL] at hv
   obtain⟨y1,l1,rfl,g1,y2,l2,rfl,g2,y3,l3,rfl,g3,y4,l4,rfl,g4,y5,l5,rfl,g5,rfl⟩:=hv
   have k1:=A0l h1 g1
   have k2:=A0l h2 g2
   have k3:=M9 h3 g3
   have k4:=M9 h4 g4
   have k5:=M9 h5 g5
   simp only[VR] at k1 k2 k3 k4 k5
   simp only[Dim.fv,FVRL,FVR]
   exact⟨_,_,rfl,k1,_,_,rfl,k2,_,_,rfl,k3,_,_,rfl,k4,_,_,rfl,k5,rfl⟩
  ·cases h
 ·cases h
theorem D3b(hs:Sim A Z B w.heap){n:Nat}{l:List AV}{x:Drw}(h:E0x B l=some x){vs:List Value}(hv:VRL Z l vs):VRL (A2o n (fzW w)) x.av vs:=by
 unfold E0x at h
 split at h
 ·split at h
  ·rename_i h1 h2 h3
   cases h
   simp only[VRL] at hv
   obtain⟨y1,l1,rfl,g1,y2,l2,rfl,g2,y3,l3,rfl,g3,rfl⟩:=hv
   have k1:=A0l h1 g1
   have k2:=C7o hs (E9w hs) h2 g2
   have k3:=C7o hs E9u h3 g3
   simp only[VR] at k1
   simp only[Drw.av,VRL]
   refine⟨_,_,rfl,by simp only[VR]; exact k1,_,_,rfl,?_,_,_,rfl,?_,rfl⟩
   ·show FVR _ _ _; exact k2
   ·show FVR _ _ _; exact k3
  ·cases h
 ·cases h
def F6w(B:Heap)(L:List Txt):AV:=if L.length=0 then .slice none 0 0 else .slice (some (B.length,0)) L.length L.length
def E9z(B:Heap)(L:List Txt)(ty:TypeId):Heap:=if L.length=0 then B else B++[.cells (L.map AV.str) 1 true ty]
theorem PrimOK.addX{prims:Prims}(hp:PrimOK P A prims)(hG:gN P<=A.G){f:FuncId}{fn:Func}(hf:P.funcs[f]?=some fn)(hc:fn.body.isSome=true){ty:TypeId}(ht:ty≠roT)(g:List AV->Heap->Option (List Txt))(h:∀ args B L,g args B=some L->∃ args',(∀ (Z:Emb) (w:World) (xs:List Value),Sim A Z B w.heap->VRL Z args xs->VRL (A2o (gN P) (fzW w)) args' xs) /\
   CallT P A f args' (Bg (gN P)) (.sslice (gN P) 0 L.length) (Bg (gN P)++[.vec L.length (D6 L) 1 ty]) []) :
  PrimOK P A (prims.addh f fun args B=>match g args B with | some L=>.leaf (F6w B L,E9z B L ty,[]) | Option.none=>.fail):=by
 refine hp.put hf hc fun args B v B' D hv=>?_
 split at hv
 case h_2=>cases hv
 rename_i L hgL
 cases hv
 refine⟨by unfold E9z; split; exact .refl _; exact .push _ _,fun Z w xs hs hd _ hx=>?_⟩
 obtain⟨args',h1,h2⟩:=h args B L hgL
 refine(h2 (A2o (gN P) (fzW w)) w xs (F1q _ hs.amb hs.gLe hG fun _ _ h=>D6d h) (D5s _) C2p (h1 Z w _ hs hx)).mono fun e w'=>?_
 rintro⟨y,Z1,rfl,q1,q2⟩
 have hst:=q2.step
 have hk:∀ c,c<w.heap.size->w'.heap[c]?=w.heap[c]?:=fun c hc=>hst.keep c hc fun _ h=>by cases h
 simp only[VR] at q1
 have hgl:(Bg (gN P)).length=gN P:=by simp[Bg]
 have hlast:(Bg (gN P)++[AObj.vec L.length (D6 L) 1 ty])[gN P]?=some (.vec L.length (D6 L) 1 ty):=by
  rw[gR (by omega),hgl,Nat.sub_self]; rfl
 rcases q1 with⟨h0,l,cap,hl,hnc,hroom,rfl⟩ | ⟨h0,rfl⟩
 ·have hne:¬ L.length=0:=by omega
  unfold F6w E9z
  rw[if_neg hne,if_neg hne]
  have hnew:w.heap.size<=l.c:=by
   have hn0:(A2o (gN P) (fzW w)) (gN P)=Option.none:=D5s _ _ (by rw[hgl]; exact lR _)
   obtain⟨_,_,p⟩:=hst.dom (gN P) l hn0 hl
   rcases p with p | ⟨_,p,_⟩
   ·exact p
   ·cases p
  have hlt:=q2.sim.lt (gN P) l hl
  have hown:(AObj.vec L.length (D6 L) 1 ty).own=true:=by simp[AObj.own,ht]
  have hGl:=q2.sim.ownG (gN P) l _ hl hlast hown
  have hor:=q2.sim.obj (gN P) _ l hlast hl
  obtain⟨_,hles,_⟩:=hor
  have hor:=(q2.sim.obj (gN P) _ l hlast hl).hard ht
  rw[A3p] at hor
  have hnone:Z B.length=Option.none:=hd _ (lR _)
  have hget:∀ {x:Nat} {p:AObj},(B++[AObj.cells (L.map AV.str) 1 true ty])[x]?=some p->x≠B.length->B[x]?=some p:=fun{x p} hp hx=>by
   rw[List.getElem?_append] at hp
   split at hp
   ·exact hp
   ·rw[gO (by simp; omega)] at hp; cases hp
  have hself:∀ {p:AObj},(B++[AObj.cells (L.map AV.str) 1 true ty])[B.length]?=some p->p=.cells (L.map AV.str) 1 true ty:=fun{p} hp=>by simpa using hp.symm
  have hle:Z.le (Z.put B.length l):=Emb.le_put hnone
  refine⟨_,Z.put B.length l,rfl,?_,⟨⟨hle,fun b l' p q=>?_,hst.size,fun c hc _=>hk c hc,hst.loops,hst.defs,hst.tape,hst.os,hst.out,fun c v p q=>?_⟩,⟨fun b o l' hb hl'=>?_,fun b l' hl'=>?_,fun b b' l1 l2 o1 o2 hne2 e1 e2 b1 b2 w1 w2=>?_,q2.sim.amb,fun b l' o e1 b1 w1=>?_,q2.sim.gLe,fun c v hc=>?_,fun c v b l' o hc e1 b1 w1=>?_⟩,?_,.push _ _⟩⟩
  ·simp only[VR]
   exact⟨l,cap,l.d,Emb.put_self _ _ _,lR _,hnc,.inl rfl,lR _,by simpa using hroom,by simp⟩
  ·by_cases e:b=B.length
   ·subst e; rw[Emb.put_self] at q; cases q
    exact⟨lR _,by simp,.inl hnew⟩
   ·rw[Emb.put_ne e,p] at q; cases q
  ·have q':Z.fz c=some v:=q
   rw[p] at q'; cases q'
  ·by_cases e:b=B.length
   ·subst e; rw[Emb.put_self] at hl'; cases hl'
    rw[hself hb]
    obtain⟨p0,arr,e0,fz,p1,p2,p3,p4,p5⟩:=hor
    refine⟨p0,arr,e0,fz,p1,p2,by simpa using p3,fun i a hi=>?_,fun h=>⟨fun h'=>absurd h' (by decide),(p5 h).2⟩⟩
    rw[List.getElem?_map,oM] at hi
    obtain⟨s,hi,rfl⟩:=hi
    obtain⟨v,r1,r2⟩:=p4 i (.sstr s) (by rw[List.getElem?_map,hi]; rfl)
    exact⟨v,r1,by simpa only[VR] using r2⟩
   ·rw[Emb.put_ne e] at hl'
    exact(hs.obj b o l' (hget hb e) hl').keep hle (hk _ (hs.lt b l' hl'))
  ·by_cases e:b=B.length
   ·subst e; rw[Emb.put_self] at hl'; cases hl'; exact hlt
   ·rw[Emb.put_ne e] at hl'; exact Nat.lt_of_lt_of_le (hs.lt b l' hl') hst.size
  ·by_cases e:b=B.length
   ·subst e; rw[Emb.put_self] at e1; cases e1
    rw[Emb.put_ne (Ne.symm hne2)] at e2
    have:=hs.lt b' l2 e2; omega
   ·rw[Emb.put_ne e] at e1
    by_cases e':b'=B.length
    ·subst e'; rw[Emb.put_self] at e2; cases e2
     have:=hs.lt b l1 e1; omega
    ·rw[Emb.put_ne e'] at e2
     exact hs.own b b' l1 l2 o1 o2 hne2 e1 e2 (hget b1 e) (hget b2 e') w1 w2
  ·by_cases e:b=B.length
   ·subst e; rw[Emb.put_self] at e1; cases e1; exact hGl
   ·rw[Emb.put_ne e] at e1
    exact hs.ownG b l' o e1 (hget b1 e) w1
  ·exact(hs.fzOK c v hc).keep (hk c (hs.fzOK c v hc).lt)
  ·by_cases e:b=B.length
   ·subst e; rw[Emb.put_self] at e1; cases e1
    have:=(hs.fzOK c v hc).lt; omega
   ·rw[Emb.put_ne e] at e1
    exact hs.fzSep c v b l' o hc e1 (hget b1 e) w1
  ·simpa using hd.put
 ·unfold F6w E9z
  rw[if_pos h0,if_pos h0]
  refine⟨_,Z,rfl,by simp[VR],⟨⟨Z.le_refl,fun b l p q=>(by rw[p] at q; cases q),hst.size,fun c hc _=>hk c hc,hst.loops,hst.defs,hst.tape,hst.os,hst.out,Q6⟩,
   ⟨fun b o l hb hl=>(hs.obj b o l hb hl).keep Z.le_refl (hk _ (hs.lt b l hl)),fun b l hl=>Nat.lt_of_lt_of_le (hs.lt b l hl) hst.size,hs.own,q2.sim.amb,hs.ownG,q2.sim.gLe,fun c v hc=>(hs.fzOK c v hc).keep (hk c (hs.fzOK c v hc).lt),hs.fzSep⟩,hd,.refl _⟩⟩
end
end Go.Ad
namespace Go.Ad
def B3l:List UInt8->List UInt8->Bool
 | [],[]=>true
 | a::l,b::m=>(a==b)&&B3l l m
 | _,_=>false
theorem A4n:∀ {l m:List UInt8},B3l l m=true->l=m
 | [],[],_=>rfl
 | a::l,b::m,h=>by
  simp only[B3l,bA,beq_iff_eq] at h
  rw[h.1,A4n h.2]
 | [],_::_,h=>by simp[B3l] at h
 | _::_,[],h=>by simp[B3l] at h
def F3r:Option (Nat×Nat)->Option (Nat×Nat)->Bool
 | none,none=>true
 | some (a,b),some (c,d)=>(a==c)&&(b==d)
 | _,_=>false
theorem D9t{a b:Option (Nat×Nat)}(h:F3r a b=true):a=b:=by
 unfold F3r at h
 split at h
 ·rfl
 ·simp only[bA,beq_iff_eq] at h; rw[h.1,h.2]
 ·cases h
def G2j:Option Nat->Option Nat->Bool
 | none,none=>true
 | some a,some b=>a==b
 | _,_=>false
theorem F3s{a b:Option Nat}(h:G2j a b=true):a=b:=by
 unfold G2j at h
 split at h
 ·rfl
 ·simp only[beq_iff_eq] at h; rw[h]
 ·cases h
def eqK:IntKind->IntKind->Bool
 | .i64,.i64=>true
 | .u8,.u8=>true
 | _,_=>false
theorem G2i{a b:IntKind}(h:eqK a b=true):a=b:=by
 unfold eqK at h
 split at h
 ·rfl
 ·rfl
 ·cases h
mutual
def eqA:AV->AV->Bool
 | .bool a,.bool b=>a==b
 | .int k n,.int k' n'=>eqK k k'&&(n==n')
 | .str s,.str t=>B3l s t
 | .ptr a,.ptr b=>F3r a b
 | .slice a n m,.slice b n' m'=>F3r a b&&(n==n')&&(m==m')
 | .map a,.map b=>G2j a b
 | .func (.func f) a b,.func (.func g) c d=>(f==g)&&eqL a c&&eqL b d
 | .nilFunc,.nilFunc=>true
 | .nilIface,.nilIface=>true
 | .agg l,.agg m=>eqL l m
 | .tuple l,.tuple m=>eqL l m
 | _,_=>false
def eqL:List AV->List AV->Bool
 | [],[]=>true
 | a::l,b::m=>eqA a b&&eqL l m
 | _,_=>false
end
mutual
theorem D5v:∀ {a b:AV},eqA a b=true->a=b:=fun{a b} h=>by
 unfold eqA at h
 split at h
 ·simp only[beq_iff_eq] at h; rw[h]
 ·simp only[bA,beq_iff_eq] at h; rw[G2i h.1,h.2]
 ·rw[A4n h]
 ·rw[D9t h]
 ·simp only[bA,beq_iff_eq] at h; rw[D9t h.1.1,h.1.2,h.2]
 ·rw[F3s h]
 ·simp only[bA,beq_iff_eq] at h; rw[h.1.1,B0d h.1.2,B0d h.2]
 ·rfl
 ·rfl
 ·rw[B0d h]
 ·rw[B0d h]
 ·cases h
theorem B0d:∀ {l m:List AV},eqL l m=true->l=m
 | [],[],_=>rfl
 | a::l,b::m,h=>by
  simp only[eqL,bA] at h
  rw[D5v h.1,B0d h.2]
 | [],_::_,h=>by simp[eqL] at h
 | _::_,[],h=>by simp[eqL] at h
end
def eqM:List (AV×AV)->List (AV×AV)->Bool
 | [],[]=>true
 | (a,b)::l,(c,d)::m=>eqA a c&&eqA b d&&eqM l m
 | _,_=>false
theorem E5l:∀ {l m:List (AV×AV)},eqM l m=true->l=m
 | [],[],_=>rfl
 | (a,b)::l,(c,d)::m,h=>by
  simp only[eqM,bA] at h
  rw[D5v h.1.1,D5v h.1.2,E5l h.2]
 | [],_::_,h=>by simp[eqM] at h
 | _::_,[],h=>by simp[eqM] at h
def eqO:AObj->AObj->Bool
 | .cells c es rw ty,.cells c' es' rw' ty'=>eqL c c'&&(es==es')&&(rw==rw')&&(ty==ty')
 | .maps l,.maps m=>eqM l m
 | .dead,.dead=>true
 | _,_=>false
theorem G2k{a b:AObj}(h:eqO a b=true):a=b:=by
 unfold eqO at h
 split at h
 ·simp only[bA,beq_iff_eq] at h; rw[B0d h.1.1.1,h.1.1.2,h.1.2,h.2]
 ·rw[E5l h]
 ·rfl
 ·cases h
def eqH:Heap->Heap->Bool
 | [],[]=>true
 | a::l,b::m=>eqO a b&&eqH l m
 | _,_=>false
theorem E5k:∀ {l m:Heap},eqH l m=true->l=m
 | [],[],_=>rfl
 | a::l,b::m,h=>by
  simp only[eqH,bA] at h
  rw[G2k h.1,E5k h.2]
 | [],_::_,h=>by simp[eqH] at h
 | _::_,[],h=>by simp[eqH] at h
structure Memo where
 args:List AV
 heap:Heap
 val:AV
 heap':Heap
 D:List Nat
def B9f:List Memo->List AV->Heap->Tr (AV×Heap×List Nat)
 | [],_,_=>.fail
 | e::es,args,B=>bif eqL args e.args&&eqH B e.heap then .leaf (e.val,e.heap',e.D) else B9f es args B
section
variable {P:Program} {A:Amb}
def MemoOK(P:Program)(A:Amb)(f:FuncId)(e:Memo):Prop:=AFr e.heap e.heap' e.D/\CallT P A f e.args e.heap e.val e.heap' e.D
theorem D2j{f:FuncId}:∀ {es:List Memo},(∀ e,e∈es->MemoOK P A f e)->∀ args B v B' D,(B9f es args B).get=some (v,B',D)->AFr B B' D/\CallT P A f args B v B' D
 | [],_,_,_,_,_,_,h=>by cases h
 | e::es,he,args,B,v,B',D,h=>by
  unfold B9f at h
  cases hc:(eqL args e.args&&eqH B e.heap) with
  | true =>
   rw[hc] at h
   cases h
   rw[bA] at hc
   rw[B0d hc.1,E5k hc.2]
   exact he e (by simp)
  | false =>
   rw[hc] at h
   exact D2j (fun e h=>he e (by simp[h])) args B v B' D h
theorem MemoOK.of_run(F7:P.follows .mixedOrders=true)(F9:A0o P){prims:Prims}(hp:PrimOK P A prims){f:FuncId}{e:Memo}{n:Nat}(h:(D5 P prims n).call f e.args e.heap fin=some (e.val,e.heap',e.D)):MemoOK P A f e :=
 CallT.of_Ca F7 F9 hp (Ca.of_runK h)
theorem PrimOK.memo{prims:Prims}(hp:PrimOK P A prims){G:Nat}(hGP:gN P=G){f:FuncId}{fn:Func}(hf:P.funcs[f]?=some fn)(hc:fn.body.isSome=true){es:List Memo}(h:∀ e,e∈es->MemoOK P A f e) :
  PrimOK P A (prims.addh f (B9a G (B9f es))):=hp.addl hGP hf hc (D2j h)
theorem PrimOK.addXi{prims:Prims}(hp:PrimOK P A prims)(hG:gN P<=A.G){f:FuncId}{fn:Func}(hf:P.funcs[f]?=some fn)(hc:fn.body.isSome=true)(g:List AV->Heap->Option Int)(h:∀ args B n,g args B=some n->∃ args' B',(∀ (Z:Emb) (w:World) (xs:List Value),Sim A Z B w.heap->VRL Z args xs->VRL (A2o (gN P) (fzW w)) args' xs) /\
   CallT P A f args' (Bg (gN P)) (.sint .i64 n) B' []) :
  PrimOK P A (prims.addh f fun args B=>match g args B with | some n=>.leaf (.int .i64 n,B,[]) | Option.none=>.fail):=by
 refine hp.put hf hc fun args B v B' D hv=>?_
 split at hv
 case h_2=>cases hv
 rename_i n hgn
 cases hv
 refine⟨.refl _,fun Z w xs hs hd _ hx=>?_⟩
 obtain⟨args',B',h1,h2⟩:=h args B n hgn
 refine(h2 (A2o (gN P) (fzW w)) w xs (F1q _ hs.amb hs.gLe hG fun _ _ h=>D6d h) (D5s _) C2p (h1 Z w _ hs hx)).mono fun e w'=>?_
 rintro⟨y,Z1,rfl,q1,q2⟩
 have hst:=q2.step
 have hk:∀ c,c<w.heap.size->w'.heap[c]?=w.heap[c]?:=fun c hc=>hst.keep c hc fun _ h=>by cases h
 refine⟨y,Z,rfl,by simpa only[VR] using q1,⟨⟨Z.le_refl,fun b l p q=>(by rw[p] at q; cases q),hst.size,fun c hc _=>hk c hc,hst.loops,hst.defs,hst.tape,hst.os,hst.out,Q6⟩,
  ⟨fun b o l hb hl=>(hs.obj b o l hb hl).keep Z.le_refl (hk _ (hs.lt b l hl)),fun b l hl=>Nat.lt_of_lt_of_le (hs.lt b l hl) hst.size,hs.own,q2.sim.amb,hs.ownG,q2.sim.gLe,fun c v hc=>(hs.fzOK c v hc).keep (hk c (hs.fzOK c v hc).lt),hs.fzSep⟩,hd,.refl _⟩⟩
end
def C2i:List Dat->List Dat->Bool
 | [],[]=>true
 | a::l,b::m=>B3l a.s b.s&&(a.m==b.m)&&C2i l m
 | _,_=>false
theorem D0r:∀ {l m:List Dat},C2i l m=true->l=m
 | [],[],_=>rfl
 | ⟨_,_⟩::l,⟨_,_⟩::m,h=>by
  simp only[C2i,bA,beq_iff_eq] at h
  rw[A4n h.1.1,h.1.2,D0r h.2]
 | [],_::_,h=>by simp[C2i] at h
 | _::_,[],h=>by simp[C2i] at h
def C2m:List Frm->List Frm->Bool
 | [],[]=>true
 | a::l,b::m=>(a.k==b.k)&&(a.d==b.d)&&(a.t==b.t)&&(a.m==b.m)&&C2i a.l b.l&&C2m l m
 | _,_=>false
theorem D0v:∀ {l m:List Frm},C2m l m=true->l=m
 | [],[],_=>rfl
 | ⟨_,_,_,_,_⟩::l,⟨_,_,_,_,_⟩::m,h=>by
  simp only[C2m,bA,beq_iff_eq] at h
  obtain⟨⟨⟨⟨⟨rfl,rfl⟩,rfl⟩,rfl⟩,h5⟩,h6⟩:=h
  rw[D0r h5,D0v h6]
 | [],_::_,h=>by simp[C2m] at h
 | _::_,[],h=>by simp[C2m] at h
def C2l:List Fea->List Fea->Bool
 | [],[]=>true
 | a::l,b::m=>B3l a.s b.s&&(a.k==b.k)&&(a.a==b.a)&&(a.x==b.x)&&(a.y==b.y)&&(a.z==b.z)&&(a.lo==b.lo)&&(a.hi==b.hi)&&C2m a.l b.l&&C2l l m
 | _,_=>false
theorem D0u:∀ {l m:List Fea},C2l l m=true->l=m
 | [],[],_=>rfl
 | ⟨_,_,_,_,_,_,_,_,_⟩::l,⟨_,_,_,_,_,_,_,_,_⟩::m,h=>by
  simp only[C2l,bA,beq_iff_eq] at h
  obtain⟨⟨⟨⟨⟨⟨⟨⟨⟨h1,rfl⟩,rfl⟩,rfl⟩,rfl⟩,rfl⟩,rfl⟩,rfl⟩,h5⟩,h6⟩:=h
  rw[A4n h1,D0v h5,D0u h6]
 | [],_::_,h=>by simp[C2l] at h
 | _::_,[],h=>by simp[C2l] at h
def C2j:List Dim->List Dim->Bool
 | [],[]=>true
 | a::l,b::m=>B3l a.f b.f&&B3l a.t b.t&&(a.a==b.a)&&(a.lo==b.lo)&&(a.hi==b.hi)&&C2j l m
 | _,_=>false
theorem D0s:∀ {l m:List Dim},C2j l m=true->l=m
 | [],[],_=>rfl
 | ⟨_,_,_,_,_⟩::l,⟨_,_,_,_,_⟩::m,h=>by
  simp only[C2j,bA,beq_iff_eq] at h
  obtain⟨⟨⟨⟨⟨h1,h2⟩,rfl⟩,rfl⟩,rfl⟩,h6⟩:=h
  rw[A4n h1,A4n h2,D0s h6]
 | [],_::_,h=>by simp[C2j] at h
 | _::_,[],h=>by simp[C2j] at h
def C2k(a b:Drw):Bool:=B3l a.s b.s&&C2l a.l b.l&&C2j a.m b.m
theorem D0t{a b:Drw}(h:C2k a b=true):a=b:=by
 cases a; cases b
 simp only[C2k,bA] at h
 rw[A4n h.1.1,D0u h.1.2,D0s h.2]
end Go.Ad
namespace Go.Ad
section
variable {P:Program} {A:Amb} {Z:Emb} {B:Heap} {w w':World}
theorem Sim.below(hs:Sim A Z B w.heap)(h:RowKit.Below w.heap.size w w'):Sim A Z B w'.heap :=
 ⟨fun b o l hb hl=>(hs.obj b o l hb hl).keep Z.le_refl (h.block _ (hs.lt b l hl)),fun b l hl=>Nat.lt_of_lt_of_le (hs.lt b l hl) h.size,hs.own,
  fun c hc=>(h.block c (Nat.lt_of_lt_of_le hc hs.gLe)).trans (hs.amb c hc),hs.ownG,Nat.le_trans hs.gLe h.size,fun c v hc=>(hs.fzOK c v hc).keep (h.block c (hs.fzOK c v hc).lt),hs.fzSep⟩
theorem A5w{Z':Emb}{n n':Nat}(hn:n<=n')(h:RowKit.Below w.heap.size w w')(hle:Z.le Z')(hdom:∀ b l,Z b=none->Z' b=some l->n<=b/\b<n'/\w.heap.size<=l.c)(hfd:∀ c v,Z.fz c=none->Z'.fz c=some v->w.heap.size<=c):Step Z Z' n n' [] w w' :=
 ⟨hle,fun b l p q=>⟨(hdom b l p q).1,(hdom b l p q).2.1,.inl (hdom b l p q).2.2⟩,h.size,fun c hc _=>h.block c hc,
  fun c L hL=>⟨L,by rw[h.block c (gA.1 hL).1]; exact hL⟩,fun c d hL=>by rw[h.block c (gA.1 hL).1]; exact hL,
  h.tape,h.os,h.output,fun c v p q=>.inl (hfd c v p q)⟩
def B5q(P:Program)(f:FuncId)(ty:TypeId)(es:Nat):Prop :=
 (∀ (a:Addr) (n c:Nat) (news:List Value) (w:World),news.length=n*es->(∀ j u,news[j]?=some u->w.cell? (a.add j)=some u)->(∀ u∈news,u.oneCell'=true)->n<2^31 ->
  Calls P f #[.slice (some a) n c] w fun e w'=>∃ v',e=.returned v'/\w'.ownsRow w.heap.size ty es v' n news/\v'≠.slice none 0 0/\RowKit.Below w.heap.size w w') /\
 ∀ (n c:Nat) (w:World),Calls P f #[.slice none n c] w fun e w'=>e=.returned (.slice none 0 0)/\w'=w
theorem C2o(hs:Sim A Z B w.heap){k es:Nat}{row:Nat->List FV}{y:Value}(h0:0<k)(hy:VR Z (.flist k row es) y) :
  ∃ (a:Addr) (cap:Nat) (news:List Value),y=.slice (some a) k cap/\news.length=k*es/\(∀ j u,news[j]?=some u->w.cell? (a.add j)=some u)/\(∀ u∈news,u.oneCell'=true) /\
   (∀ i,i<k->FVRL Z.fz (row i) ((news.drop (i*es)).take es))/\VRL Z (flat k (avR row)) news/\∀ i,i<k->(avR row i).length=es:=by
 simp only[VR,FVR] at hy
 rcases hy with⟨h,_⟩ | ⟨_,c,off,cap,cs,g1,g2,rfl,g4,g5⟩
 ·omega
 ·obtain⟨arr,e,z,r1,r2⟩:=hs.fzOK c cs g1
  have hxl:((cs.drop off).take (k*es)).length=k*es:=by rw[List.length_take,List.length_drop]; omega
  have hle:∀ i,i<k->i*es+es<=k*es:=fun i hi=>by rw[<- Nat.succ_mul]; exact Nat.mul_le_mul_right es hi
  have hlen:∀ i,i<k->(avR row i).length=es:=fun i hi=>by
   have:=hle i hi
   rw[avR,List.length_map,<- (g5 i hi).length,List.length_take,List.length_drop]; omega
  have hrow:∀ i,i<k->FVRL Z.fz (row i) (((((cs.drop off).take (k*es)).drop (i*es))).take es):=fun i hi=>by
   have h3:=hle i hi
   have e:(((cs.drop off).take (k*es)).drop (i*es)).take es=(cs.drop (off+i*es)).take es:=by
    rw[List.drop_take,List.take_take,List.drop_drop]; congr 1; omega
   rw[e]; exact g5 i hi
  have hvr:VRL Z (flat k (avR row)) ((cs.drop off).take (k*es)):=by
   refine .of_get (by rw[hxl,G8 hlen]) fun i a hi=>?_
   have hi0:i<k*es:=by have:=(gS.1 hi).1; rwa [G8 hlen] at this
   have hes:0<es:=by
    rcases Nat.eq_zero_or_pos es with rfl | h
    ·simp at hi0
    ·exact h
   have hm:i%es<es:=Nat.mod_lt _ hes
   have hd:i / es<k:=Nat.div_lt_of_lt_mul (by rw[Nat.mul_comm]; exact hi0)
   have hsplit:i=i / es*es+i%es:=by have:=Nat.div_add_mod i es; rw[Nat.mul_comm] at this; exact this.symm
   have hi2:(avR row (i / es))[i%es]?=some a:=by rw[<- flat_get hm hlen hd,<- hsplit]; exact hi
   rw[avR,List.getElem?_map,oM] at hi2
   obtain⟨f,q1,rfl⟩:=hi2
   obtain⟨v,p1,p2⟩:=(hrow _ hd).get q1
   rw[tK,if_pos hm,dP,<- hsplit] at p1
   exact⟨v,p1,FV.av_VR p2⟩
  refine⟨⟨c,off,none⟩,cap,_,rfl,hxl,fun j u hj=>?_,C6v (cs:=flat k (avR row)) ?_ hvr,hrow,hvr,hlen⟩
  ·rw[tK] at hj
   split at hj
   ·rw[dP] at hj
    rw[M3,cell_of r1]; exact r2 _ _ hj
   ·cases hj
  ·rw[List.all_eq_true]; intro a ha
   simp only[flat,List.mem_flatMap] at ha
   obtain⟨i,_,hi⟩:=ha
   exact List.all_eq_true.1 (D9l row i) a hi
def cloF(es:Nat):List AV->Heap->Tr (AV×Heap×List Nat)
 | [.flist n row e],B=>if e=es then .br (decide (n<2^31)) (.leaf (.flist n row es,B,[])) .fail else .fail
 | _,_=>.fail
def cloT(es:Nat)(ty:TypeId):List AV->Heap->Tr (AV×Heap×List Nat)
 | [.flist n row e],B=>if e=es then .br (decide (n<2^31)) (.br (decide (0<n)) (.leaf (.sslice B.length 0 n,B++[.vec n (avR row) es ty],[])) (.leaf (.flist 0 row es,B,[]))) .fail else .fail
 | _,_=>.fail
theorem C5y(hs:Sim A Z B w.heap)(hd:Dom Z B.length)(hb:RowKit.Below w.heap.size w w'){ty:TypeId}{es k:Nat}{row:Nat->List FV}{v':Value}{news:List Value}(hk:0<k)(ho:w'.ownsRow w.heap.size ty es v' k news)(hr:∀ i,i<k->FVRL Z.fz (row i) ((news.drop (i*es)).take es)):∃ Z',VR Z' (.flist k row es) v'/\After A Z Z' B B [] w w':=by
 obtain⟨hl,⟨_,h0⟩ | ⟨g,cap,cur,rfl,hg,hcur,hnc,_,hsz,ht⟩⟩:=ho
 ·omega
 have hgt:g<w'.heap.size:=(gA.1 hcur).1
 have hgn:Z.fz g=none:=by
  cases e:Z.fz g with
  | none=>rfl
  | some v=>have:=(hs.fzOK g v e).lt; omega
 have hle:Z.le ⟨Z.bl,fun c=>if c=g then some news else Z.fz c⟩:=⟨fun b l h=>h,fun c v h=>by
  show(if c=g then some news else Z.fz c)=some v
  rw[if_neg (fun e=>by subst e; rw[hgn] at h; cases h)]; exact h⟩
 have hsim:=hs.below hb
 refine⟨⟨Z.bl,fun c=>if c=g then some news else Z.fz c⟩,?_,⟨A5w (lR _) hb hle (fun b l p q=>by rw[show Z b=some l from q] at p; cases p) fun c v p q=>?_,?_,hd,.refl _⟩⟩
 ·simp only[VR,FVR]
  refine .inr ⟨hk,g,0,cap,news,by simp,hnc,rfl,by rw[hl]; omega,fun i hi=>?_⟩
  rw[Nat.zero_add]
  exact(hr i hi).mono hle.fz
 ·have q':(if c=g then some news else Z.fz c)=some v:=q
  by_cases e:c=g
  ·subst e; exact hg
  ·rw[if_neg e,p] at q'; cases q'
 ·refine⟨fun b o l hb' hl'=>(hsim.obj b o l hb' hl').keep hle rfl,hsim.lt,hsim.own,hsim.amb,hsim.ownG,hsim.gLe,fun c v hc=>?_,fun c v b l o hc hl' hb' h1=>?_⟩
  ·have hc':(if c=g then some news else Z.fz c)=some v:=hc
   by_cases e:c=g
   ·subst e
    rw[if_pos rfl] at hc'
    cases hc'
    refine⟨cur,ty,_,hcur,fun i x hx=>?_⟩
    rw[<- ht,tK] at hx
    split at hx
    ·simpa using hx
    ·cases hx
   ·rw[if_neg e] at hc'
    exact hsim.fzOK c v hc'
  ·have hc':(if c=g then some news else Z.fz c)=some v:=hc
   by_cases e:c=g
   ·subst e
    have:=hs.lt b l hl'; omega
   ·rw[if_neg e] at hc'
    exact hsim.fzSep c v b l o hc' hl' hb' h1
theorem Sim.fresh{h:Array Obj}(hs:Sim A Z B h)(hn:Z B.length=none){l:Loc}{o:AObj}(hb:∀ b l',Z b=some l'->l'.c<l.c)(hf:∀ c v,Z.fz c=some v->c<l.c)(hG:A.G<=l.c)(hlt:l.c<h.size)(ho:OR (Z.put B.length l) h l o):Sim A (Z.put B.length l) (B++[o]) h:=by
 have hle:Z.le (Z.put B.length l):=Emb.le_put hn
 have hget:∀ {x:Nat} {p:AObj},(B++[o])[x]?=some p->x≠B.length->B[x]?=some p:=fun{x p} hp hx=>by
  rw[List.getElem?_append] at hp
  split at hp
  ·exact hp
  ·rw[gO (by simp; omega)] at hp; cases hp
 have hself:∀ {p:AObj},(B++[o])[B.length]?=some p->p=o:=fun{p} hp=>by simpa using hp.symm
 refine⟨fun b o' l' hb' hl'=>?_,fun b l' hl'=>?_,fun b b' l1 l2 o1 o2 hne2 e1 e2 b1 b2 w1 w2=>?_,hs.amb,fun b l' o' e1 b1 w1=>?_,hs.gLe,hs.fzOK,fun c v b l' o' hc e1 b1 w1=>?_⟩
 ·by_cases e:b=B.length
  ·subst e; rw[Emb.put_self] at hl'; cases hl'
   rw[hself hb']; exact ho
  ·rw[Emb.put_ne e] at hl'
   exact(hs.obj b o' l' (hget hb' e) hl').keep hle rfl
 ·by_cases e:b=B.length
  ·subst e; rw[Emb.put_self] at hl'; cases hl'; exact hlt
  ·rw[Emb.put_ne e] at hl'; exact hs.lt b l' hl'
 ·by_cases e:b=B.length
  ·subst e; rw[Emb.put_self] at e1; cases e1
   rw[Emb.put_ne (Ne.symm hne2)] at e2
   have:=hb b' l2 e2; omega
  ·rw[Emb.put_ne e] at e1
   by_cases e':b'=B.length
   ·subst e'; rw[Emb.put_self] at e2; cases e2
    have:=hb b l1 e1; omega
   ·rw[Emb.put_ne e'] at e2
    exact hs.own b b' l1 l2 o1 o2 hne2 e1 e2 (hget b1 e) (hget b2 e') w1 w2
 ·by_cases e:b=B.length
  ·subst e; rw[Emb.put_self] at e1; cases e1; exact hG
  ·rw[Emb.put_ne e] at e1
   exact hs.ownG b l' o' e1 (hget b1 e) w1
 ·by_cases e:b=B.length
  ·subst e; rw[Emb.put_self] at e1; cases e1
   have:=hf c v hc; omega
  ·rw[Emb.put_ne e] at e1
   exact hs.fzSep c v b l' o' hc e1 (hget b1 e) w1
theorem D5q(hs:Sim A Z B w.heap)(hd:Dom Z B.length)(hb:RowKit.Below w.heap.size w w'){ty:TypeId}{es k:Nat}{row:Nat->List FV}{v':Value}{news:List Value}(hk:0<k)(hes:0<es)(ho:w'.ownsRow w.heap.size ty es v' k news)(hr:VRL Z (flat k (avR row)) news)(hl:∀ i,i<k->(avR row i).length=es) :
  ∃ Z',VR Z' (.sslice B.length 0 k) v'/\After A Z Z' B (B++[.vec k (avR row) es ty]) [] w w':=by
 obtain⟨hnl,⟨_,h0⟩ | ⟨g,cap,cur,rfl,hg,hcur,hnc,_,hsz,ht⟩⟩:=ho
 ·omega
 have hgt:g<w'.heap.size:=(gA.1 hcur).1
 have hsim:=hs.below hb
 have hn:Z B.length=none:=hd _ (lR _)
 have hfl:(flat k (avR row)).length=k*es:=G8 hl
 have hmul:k*es<=cap*es:=Nat.mul_le_mul_right es hnc
 refine⟨Z.put B.length ⟨g,0,cur.size,es⟩,?_,⟨A5w (by simp) hb (Emb.le_put hn) (fun b l p q=>?_) (fun c v p q=>?_),hsim.fresh hn (fun b l h=>?_) (fun c v h=>?_) (Nat.le_trans hs.gLe hg) hgt ?_,by simpa using hd.put,.push _ _⟩⟩
 ·simp only[VR]
  exact .inl ⟨hk,_,cap,Emb.put_self _ _ _,hnc,by simp[hsz],by simp⟩
 ·by_cases e:b=B.length
  ·subst e; rw[Emb.put_self] at q; cases q
   exact⟨lR _,by simp,hg⟩
  ·rw[Emb.put_ne e,p] at q; cases q
 ·have q':Z.fz c=some v:=q
  rw[p] at q'; cases q'
 ·have:=hs.lt b l h
  exact Nat.lt_of_lt_of_le this hg
 ·have:=(hs.fzOK c v h).lt
  exact Nat.lt_of_lt_of_le this hg
 ·refine⟨⟨hes,fun i hi=>⟨hl i hi,B3h _ _⟩⟩,rfl,cur,ty,_,hcur,rfl,by simp only[hfl,hsz]; omega,fun i a hi=>?_,fun _=>⟨rfl,fun off _ _=>.inr (by simp)⟩⟩
  obtain⟨v,p,q⟩:=hr.get hi
  refine⟨v,?_,q.mono (Emb.le_put hn)⟩
  rw[<- ht,tK] at p
  split at p
  ·simpa using p
  ·cases p
theorem PrimOK.cloF{prims:Prims}(hp:PrimOK P A prims){f:FuncId}{fn:Func}(hf:P.funcs[f]?=some fn)(hc:fn.body.isSome=true){ty:TypeId}{es:Nat}(h:B5q P f ty es):PrimOK P A (prims.addh f (cloF es)):=by
 refine hp.put hf hc fun args B v B' D hv=>?_
 unfold Go.Ad.cloF at hv
 split at hv
 case h_2=>cases hv
 rename_i n row e
 split at hv
 case isFalse=>cases hv
 rename_i he
 subst he
 simp only[Tr.get] at hv
 split at hv
 case h_2=>cases hv
 rename_i hlt
 cases hv
 refine⟨.refl _,fun Z w xs hs hd _ hx=>?_⟩
 simp only[VRL] at hx
 obtain⟨y,l0,e1,hy,rfl⟩:=hx
 have e2:xs=#[y]:=by apply Array.ext'; simpa using e1
 subst e2
 have hlt:=of_decide_eq_true hlt
 rcases Nat.eq_zero_or_pos n with rfl | h0
 ·simp only[VR,FVR] at hy
  rcases hy with⟨_,rfl | ⟨a,cap,rfl⟩⟩ | ⟨h,_⟩
  ·refine(h.2 0 0 w).mono fun e w'=>?_
   rintro⟨rfl,rfl⟩
   exact⟨_,Z,rfl,by simp[VR,FVR],⟨.refl _ _ _,hs,hd,.refl _⟩⟩
  ·refine(h.1 a 0 cap [] w (by simp) (fun j u hj=>by simp at hj) (fun u hu=>by cases hu) (by omega)).mono fun e w'=>?_
   rintro⟨v',rfl,⟨_,⟨q,_⟩ | ⟨g,cap,cur,rfl,_⟩⟩,hne,hb⟩
   ·exact absurd q hne
   ·exact⟨_,Z,rfl,by simp only[VR,FVR]; exact .inl ⟨trivial,.inr ⟨_,_,rfl⟩⟩,⟨A5w (lR _) hb Z.le_refl (fun b l p q=>(by rw[p] at q; cases q)) (fun c v p q=>by rw[p] at q; cases q),hs.below hb,hd,.refl _⟩⟩
  ·omega
 ·obtain⟨a,cap,news,rfl,q1,q2,q3,q4,_,_⟩:=C2o hs h0 hy
  refine(h.1 a n cap news w q1 q2 q3 hlt).mono fun e w'=>?_
  rintro⟨v',rfl,ho,_,hb⟩
  obtain⟨Z',r1,r2⟩:=C5y hs hd hb h0 ho q4
  exact⟨v',Z',rfl,r1,r2⟩
theorem PrimOK.cloT{prims:Prims}(hp:PrimOK P A prims){f:FuncId}{fn:Func}(hf:P.funcs[f]?=some fn)(hc:fn.body.isSome=true){ty:TypeId}{es:Nat}(hes:0<es)(h:B5q P f ty es):PrimOK P A (prims.addh f (cloT es ty)):=by
 refine hp.put hf hc fun args B v B' D hv=>?_
 unfold Go.Ad.cloT at hv
 split at hv
 case h_2=>cases hv
 rename_i n row e
 split at hv
 case isFalse=>cases hv
 rename_i he
 subst he
 simp only[Tr.get] at hv
 split at hv
 case h_2=>cases hv
 rename_i hlt
 have hlt:=of_decide_eq_true hlt
 have hvec:∀ {xs:Array Value} {Z:Emb},VRL Z [AV.flist n row e] xs.toList->∃ y,xs=#[y]/\VR Z (.flist n row e) y:=fun{xs Z} hx=>by
  simp only[VRL] at hx
  obtain⟨y,l0,e1,hy,rfl⟩:=hx
  exact⟨y,by apply Array.ext'; simpa using e1,hy⟩
 split at hv
 ·rename_i h0
  have h0:=of_decide_eq_true h0
  cases hv
  refine⟨.push _ _,fun Z w xs hs hd _ hx=>?_⟩
  obtain⟨y,rfl,hy⟩:=hvec hx
  obtain⟨a,cap,news,rfl,q1,q2,q3,_,q5,q6⟩:=C2o hs h0 hy
  refine(h.1 a n cap news w q1 q2 q3 hlt).mono fun e w'=>?_
  rintro⟨v',rfl,ho,_,hb⟩
  obtain⟨Z',r1,r2⟩:=D5q hs hd hb h0 hes ho q5 q6
  exact⟨v',Z',rfl,r1,r2⟩
 ·rename_i h0
  have h0:=of_decide_eq_false h0
  cases hv
  have hn0:n=0:=by omega
  subst hn0
  refine⟨.refl _,fun Z w xs hs hd _ hx=>?_⟩
  obtain⟨y,rfl,hy⟩:=hvec hx
  simp only[VR,FVR] at hy
  rcases hy with⟨_,rfl | ⟨a,cap,rfl⟩⟩ | ⟨h,_⟩
  ·refine(h.2 0 0 w).mono fun e w'=>?_
   rintro⟨rfl,rfl⟩
   exact⟨_,Z,rfl,by simp[VR,FVR],⟨.refl _ _ _,hs,hd,.refl _⟩⟩
  ·refine(h.1 a 0 cap [] w (by simp) (fun j u hj=>by simp at hj) (fun u hu=>by cases hu) (by omega)).mono fun e w'=>?_
   rintro⟨v',rfl,⟨_,⟨q,_⟩ | ⟨g,cap,cur,rfl,_⟩⟩,hne,hb⟩
   ·exact absurd q hne
   ·exact⟨_,Z,rfl,by simp only[VR,FVR]; exact .inl ⟨trivial,.inr ⟨_,_,rfl⟩⟩,⟨A5w (lR _) hb Z.le_refl (fun b l p q=>(by rw[p] at q; cases q)) (fun c v p q=>by rw[p] at q; cases q),hs.below hb,hd,.refl _⟩⟩
  ·omega
end
end Go.Ad
