/- The abstract evaluator's operations stand for the model's: all operations together. -/
import Derived.Test.YtoboneiigikidaaGreatDoorAdOpsC
namespace Go.Ad
section
variable {P:Program} {A:Amb} {Z:Emb} {B:Heap} {w:World}
theorem E0m{a:AV}(h:B8q a=false):a≠.bad:=fun e=>by subst e; simp[B8q] at h
theorem VRL.ofmap{f:Operand->AV}{g:Operand->Value}(h:∀ x,VR Z (f x) (g x))(l:List Operand):VRL Z (l.map f) (l.map g):=VRL.map f g h l
theorem B7a{b:Builtin}{ts:Array TypeId}{ty:TypeId}{cs:Array Bool}{args:List AV}{xs:List Value}{v:AV}{B':Heap}{D:List Nat}(hs:Sim A Z B w.heap)(hd:Dom Z B.length)(h:A0u P B b ts args=some (v,B',D))(hx:VRL Z args xs):Got P A Z B w (builtin b ts ty cs xs.toArray) v B' D:=by
 unfold A0u at h
 split at h
 ·rename_i s x
  simp only[VRL] at hx
  obtain⟨s',_,rfl,h1,x',_,rfl,h2,rfl⟩:=hx
  exact U7 hs hd h h1 h2
 ·rename_i s x
  simp only[VRL] at hx
  obtain⟨s',_,rfl,h1,x',_,rfl,h2,rfl⟩:=hx
  exact C9m hs hd h h1 h2
 ·rename_i s
  simp only[VRL] at hx
  obtain⟨s',_,rfl,h1,rfl⟩:=hx
  exact C4i hs hd h h1
 ·rename_i x
  simp only[VRL] at hx
  obtain⟨x',_,rfl,h1,rfl⟩:=hx
  exact F6 hs hd h fun v hv=>A4t hs hv h1
 ·rename_i x r
  simp only[VRL] at hx
  obtain⟨x',xs',rfl,h1,h2⟩:=hx
  exact F6 (s:=Builtin.max_ ts ty (x'::xs').toArray) hs hd h fun v hv=>A9x hv h1 h2
 ·rename_i x r
  simp only[VRL] at hx
  obtain⟨x',xs',rfl,h1,h2⟩:=hx
  exact F6 (s:=Builtin.min_ ts ty (x'::xs').toArray) hs hd h fun v hv=>A9y hv h1 h2
 ·rename_i x
  simp only[VRL] at hx
  obtain⟨x',_,rfl,h1,rfl⟩:=hx
  exact F6 hs hd h fun v hv=>A5f hv h1
 ·rename_i s x
  simp only[VRL] at hx
  obtain⟨s',_,rfl,h1,x',_,rfl,h2,rfl⟩:=hx
  exact A0d hs hd h h1 h2
 ·rename_i x
  simp only[VRL] at hx
  obtain⟨x',_,rfl,h1,rfl⟩:=hx
  exact F6 hs hd h fun v hv=>D4j hv h1
 ·simp at h
theorem E5b{a:AV}{v:Value}(h:VR Z a v):VR Z (cnI a) v:=by
 unfold cnI
 split
 ·simpa only[VR] using h
 ·simp only[VR] at h ⊢; exact h.1
 ·exact h
theorem D4q{o:Oper}{U:Operand->AV}{U':Operand->Value}{v:AV}{B':Heap}{D:List Nat}(h:R4 P U B o.op=some (v,B',D))(hs:Sim A Z B w.heap)(hd:Dom Z B.length)(hU:∀ x,VR Z (U x) (U' x)):Got P A Z B w (execOp U' o) v B' D:=by
 obtain⟨dst,op,ty,pos,after,guard⟩:=o
 cases op with
 | move x =>
  exact F6 (s:=pure (U' x)) hs hd h fun v hv=>by cases hv; exact⟨_,rfl,hU x⟩
 | assign x =>
  exact F6 (s:=pure (U' x)) hs hd h fun v hv=>by cases hv; exact⟨_,rfl,hU x⟩
 | pick c a b =>
  simp only[R4] at h
  split at h
  ·rename_i t ht
   have hc:=hU c
   rw[ht] at hc
   simp only[VR] at hc
   cases h
   refine⟨Z,if t then U' a else U' b,.value (if t then U' a else U' b),w,?_,.inl rfl,.refl _ _ _,?_,hs,lR _,hd⟩
   ·show(do pure (.value (if <- asBool (U' c) then U' a else U' b)):Sem Next).run P w=_
    rw[hc]; rfl
   ·cases t
    ·exact hU b
    ·exact hU a
  ·rename_i t ht
   have hc:=hU c
   rw[ht] at hc
   simp only[VR] at hc
   cases h
   refine⟨Z,if t then U' a else U' b,.value (if t then U' a else U' b),w,?_,.inl rfl,.refl _ _ _,?_,hs,lR _,hd⟩
   ·show(do pure (.value (if <- asBool (U' c) then U' a else U' b)):Sem Next).run P w=_
    rw[hc]; rfl
   ·cases t
    ·exact hU b
    ·exact hU a
  ·simp at h
 | alloc t =>
  simp only[R4,oM,pI] at h
  obtain⟨z,hz,rfl,rfl,rfl⟩:=h
  exact C4e hs hd hz
 | box t x =>
  simp only[R4] at h
  split at h
  ·simp at h
  ·rename_i hb
   cases h
   exact D4h hs hd (E0m (by simpa using hb)) (hU x)
 | build t ps =>
  refine F6 hs hd h fun v hv=>C4h hv ?_
  have:=PartsR.map hU ps.toList
  simpa using this
 | buildSlice t n ps =>
  refine B1k hs hd h ?_
  have:=PartsR.map hU ps.toList
  simpa using this
 | load t a=>exact F6 hs hd h fun v hv=>Y7 hs hv (hU a)
 | store t a x =>
  simp only[R4] at h
  split at h
  ·simp at h
  ·rename_i hb
   exact B1s hs hd h (E0m (by simpa using hb)) (hU a) (hU x)
 | nilCheck x =>
  have hx:=hU x
  have h':=h
  simp only[R4,only,oM,pI] at h'
  obtain⟨v',hv',rfl,rfl,rfl⟩:=h'
  unfold C1o at hv'
  refine⟨Z,U' x,.value (U' x),w,?_,.inl rfl,.refl _ _ _,?_,hs,lR _,hd⟩
  ·show(match U' x with
    | .pointer none | .nilIface | .nilFunc=>runtimePanic .nilDeref
    | .func (.method name) first captured=>_
    | x=>pure (.value x):Sem Next).run P w=_
   split at hv'<;>first | (simp at hv'; done) | skip
   ·rename_i a he; rw[he] at hx; obtain⟨b,o⟩:=a; simp only[VR] at hx; obtain⟨l,_,e⟩:=hx; rw[e]; rfl
   ·rename_i t a he; rw[he] at hx; simp only[VR] at hx; obtain⟨y,e,_⟩:=hx; rw[e]; rfl
   ·rename_i f a b he; rw[he] at hx; simp only[VR,FR] at hx; obtain⟨f',xs,ys,e,rfl,_⟩:=hx; rw[e]; rfl
   ·rename_i f a b he; rw[he] at hx; simp only[VR,FR] at hx; obtain⟨f',xs,ys,e,⟨lo,_,rfl⟩,_⟩:=hx; rw[e]; rfl
  ·split at hv'<;>first | (simp at hv'; done) | (rename_i he; cases hv'; rw[he] at hx; exact hx)
 | binOp op t x y yt=>exact F6 (s:=do eqGuard op t x y (U' x) (U' y); binOp op t (U' x) (U' y)) hs hd h fun v hv=>B6x hv (hU x) (hU y)
 | unOp op t x=>exact F6 hs hd h fun v hv=>E2m hv (hU x)
 | convert s d x=>exact A7h hs hd h (hU x)
 | makeInterface t x=>exact F6 hs hd h fun v hv=>B7n hv (hU x)
 | makeFunc f a b =>
  cases f with
  | func f =>
   refine F6 (s:=Instr.makeFunc (.func f) (a.map U') (b.map U')) hs hd h fun v hv=>?_
   cases hv
   refine⟨_,rfl,?_⟩
   simp only[VR,FR]
   exact⟨_,_,_,rfl,rfl,by simpa using VRL.ofmap hU a.toList,by simpa using VRL.ofmap hU b.toList⟩
  | _=>simp[R4] at h
 | makeSlice t l c=>exact B3f hs hd h (hU l) (hU c)
 | slice t x lo hi mx=>exact F6 hs hd h fun v hv=>B1r hs hv (hU x) (VRo.map hU lo) (VRo.map hU hi) (VRo.map hU mx)
 | fieldAddr t x f=>exact F6 hs hd h fun v hv=>A5c hv (hU x)
 | field t x f=>exact F6 hs hd h fun v hv=>C4l hv (hU x)
 | indexAddr t x i=>exact F6 hs hd h fun v hv=>Z7 hv (hU x) (E5b (hU i))
 | index t x i=>exact F6 hs hd h fun v hv=>B1n hv (hU x) (E5b (hU i))
 | makeMap t r=>exact B7l hs hd h (VRo.map hU r)
 | lookup t m k ok=>exact F6 hs hd h fun v hv=>C0x hs hv (hU m) (hU k)
 | mapUpdate t m k x=>exact A5d hs hd h (hU m) (hU k) (hU x)
 | insert t m k x=>exact A5d hs hd h (hU m) (hU k) (hU x)
 | extract t i=>exact F6 hs hd h fun v hv=>B7k hv (hU t)
 | call c =>
  obtain⟨callee,args,ats⟩:=c
  cases callee with
  | builtin b =>
   simp only[R4] at h
   have:=B7a (ty:=ty) (cs:=args.map fun | .const _=>true | _=>false) hs hd h (VRL.ofmap hU args.toList)
   have e:(args.toList.map U').toArray=args.map U':=by apply Array.ext'; simp
   rw[e] at this
   exact this
  | value f=>simp[R4] at h
  | invoke r m=>simp[R4] at h
 | _=>simp[R4] at h
def cn:AV->AV
 | .sint k n=>.int k n
 | .rng k n _ _=>.int k n
 | .sbool b=>.bool b
 | .sstr s=>.str s
 | .lstr s _ _=>.str s
 | a=>a
theorem F9a{a:AV}{v:Value}(h:VR Z a v):VR Z (cn a) v:=by
 unfold cn
 split
 ·simpa only[VR] using h
 ·simp only[VR] at h ⊢; exact h.1
 ·simpa only[VR] using h
 ·simpa only[VR] using h
 ·simp only[VR] at h ⊢; exact h.1
 ·exact h
theorem A1t{y:Nat}{a:AV}{n:Nat}(h:A8l y a=some (true,n)):A3b y (cn a)=some n:=by
 unfold A8l at h
 split at h
 ·simp only[sI,pI,dQ] at h
  simp only[cn,A3b,if_pos h.1,h.2]
 ·simp only[sI,pI,dQ] at h
  simp only[cn,A3b,if_pos h.1,h.2]
 ·simp only[sI,pI,dQ] at h
  simp only[cn,A3b,if_pos h.1,h.2]
 ·cases h
theorem E6i{s:List UInt8}{i:Nat}(h:i<s.length):s[i]?=some (s.getD i 0):=by
 rw[gD,gE h,Option.getD_some]
theorem D4p{t:TypeId}(hu:P.underlying t=some .string){s:List UInt8}{k:IntKind}{i:Int}(h:0<=i/\i<(s.length:Int)) :
  B3e P t (.str s) (.int k i)=some (.int .u8 ((s.getD i.toNat 0).toNat:Int)):=by
 have hlt:i.toNat<s.length:=by omega
 simp only[B3e,hu,if_pos h.1,E6i hlt,oS]
theorem D4l{o:Oper}{U:Operand->AV}{U':Operand->Value}{v:AV}(h:A0c P U o.op=some (true,v))(hs:Sim A Z B w.heap)(hd:Dom Z B.length)(hU:∀ x,VR Z (U x) (U' x)):Got P A Z B w (execOp U' o) v B []:=by
 obtain⟨dst,op,ty,pos,after,guard⟩:=o
 have hB:only B (some v)=some (v,B,[]):=rfl
 cases op with
 | index t x i =>
  refine F6 (s:=Instr.index t (U' x) (U' i)) hs hd hB fun v' hv=>?_
  cases hv
  have hx:=hU x
  have hi:=hU i
  have key:∀ {s:List UInt8} {k:IntKind} {i':Int},P.underlying t=some .string->sstr? (U x)=some s->Q9 (U i)=some (k,i')->(0<=i'/\i'<(s.length:Int)) ->
    v=.rng .u8 ((s.getD i'.toNat 0).toNat:Int) 0 255->Pure P w Z (Instr.index t (U' x) (U' i)) v:=by
   intro s k i' hu e1 e2 hc ev
   have hx:VR Z (.str s) (U' x):=by
    obtain⟨b,h1,h2⟩:=N8 e1 hx
    simp only[VR]; exact⟨b,h1,h2⟩
   have hi:VR Z (.int k i') (U' i):=by simp only[VR]; exact L6 e2 hi
   obtain⟨r,p,q⟩:=B1n (P:=P) (w:=w) (D4p (k:=k) hu hc) hx hi
   refine⟨r,p,?_⟩
   simp only[VR] at q
   rw[ev,q]
   simp only[VR]
   have hb:=(s.getD i'.toNat 0).toNat_lt
   exact⟨trivial,by omega,by omega⟩
  simp only[A0c] at h
  split at h
  ·rename_i s k n e1 e2 e3
   split at h
   ·simp only[sI,pI,dQ] at h
    exact key e1 e2 e3 h.1 h.2.symm
   ·cases h
  ·cases h
 | slice t x lo hi mx =>
  cases mx with
  | some _=>simp[A0c] at h
  | none =>
   refine F6 (s:=Instr.sliceAt t (U' x) (lo.map U') (hi.map U') none) hs hd hB fun v' hv=>?_
   cases hv
   simp only[A0c] at h
   split at h
   ·rename_i s hu e1
    split at h
    ·split at h
     ·rename_i c h' e2
      split at h
      ·rename_i c' l' e3
       simp only[sI,pI,bA] at h
       obtain⟨⟨rfl,rfl⟩,rfl⟩:=h
       have hx:VR Z (.str s) (U' x):=by
        obtain⟨b,h1,h2⟩:=N8 e1 (hU x)
        simp only[VR]; exact⟨b,h1,h2⟩
       have hb:Z6 s.length s.length (lo.map fun x=>cn (U x)) (hi.map fun x=>cn (U x)) none=some (l',h',s.length):=by
        unfold Z6
        cases hi<;>cases lo<;>simp only[Option.map_none,oS,Option.isSome_none,Bool.false_eq_true,if_false,sI,pI,true_and] at e2 e3 ⊢
        ·subst e2 e3; exact⟨rfl,rfl,trivial⟩
        ·subst e2; rw[A1t e3]
        ·subst e3; rw[A1t e2]
        ·rw[A1t e2]; simp only; rw[A1t e3]
       have ha:A4u P B t (.str s) (lo.map fun x=>cn (U x)) (hi.map fun x=>cn (U x)) none=some (.str ((s.take h').drop l')):=by
        simp only[A4u,hu,Option.isSome_none,Bool.false_eq_true,if_false,hb]
       obtain⟨r,p,q⟩:=B1r (P:=P) (w:=w) hs ha hx (VRo.map (fun x=>F9a (hU x)) lo) (VRo.map (fun x=>F9a (hU x)) hi) (mx':=none) (by simp[VRo])
       exact⟨r,p,by simpa only[VR] using q⟩
      ·cases h
     ·cases h
    ·cases h
   ·cases h
 | binOp op t x y yt =>
  refine F6 (s:=do eqGuard op t x y (U' x) (U' y); binOp op t (U' x) (U' y)) hs hd hB fun v' hv=>?_
  cases hv
  have hx:=hU x
  have hy:=hU y
  have kstr:∀ {a b:List UInt8},sstr? (U x)=some a->sstr? (U y)=some b->op=.add->a.length+b.length<2^62->v=.sstr (a++b) ->
    Pure P w Z (do eqGuard op t x y (U' x) (U' y); binOp op t (U' x) (U' y)) v:=by
   intro a b e1 e2 eo hl ev
   have h1:VR Z (.str a) (U' x):=by simp only[VR]; exact N8 e1 hx
   have h2:VR Z (.str b) (U' y):=by simp only[VR]; exact N8 e2 hy
   obtain⟨r,p,q⟩:=B6x (P:=P) (w:=w) (op:=op) (t:=t) (x:=x) (y:=y) (v:=.str (a++b)) (by subst eo; simp only[F3g,E4r,if_pos hl]) h1 h2
   exact⟨r,p,by rw[ev]; simpa only[VR] using q⟩
  have kint:∀ {k:IntKind} {a b:Int},Q9 (U x)=some (k,a)->Q9 (U y)=some (k,b)->op=.quo \/ op=.rem->b≠0->(op=.quo->v=.sint k (k.wrap (a.tdiv b)))->(op=.rem->v=.sint k (a.tmod b)) ->
    Pure P w Z (do eqGuard op t x y (U' x) (U' y); binOp op t (U' x) (U' y)) v:=by
   intro k a b e1 e2 eo hb ev ev'
   have h1:=L6 e1 hx
   have hy:=L6 e2 hy
   have hg:(eqGuard op t x y (.int k a) (.int k b)).run P w=.ok () w:=Y9 (by simp) (by simp)
   rw[h1,hy]
   rcases eo with eo | eo<;>subst eo
   ·obtain⟨r,p,q⟩:=A3e (P:=P) (w:=w) (Z:=Z) (op:=.quo) (k:=k) (a:=a) (b:=b) (v:=.int k (k.wrap (a.tdiv b))) ⟨by simp,by simp⟩ (by simp only[A9w,if_neg hb]) t
    exact⟨r,by simp only[Sem.run_bind,hg,rK,p],by rw[ev rfl]; simpa only[VR] using q⟩
   ·obtain⟨r,p,q⟩:=A3e (P:=P) (w:=w) (Z:=Z) (op:=.rem) (k:=k) (a:=a) (b:=b) (v:=.int k (a.tmod b)) ⟨by simp,by simp⟩ (by simp only[A9w,if_neg hb]) t
    exact⟨r,by simp only[Sem.run_bind,hg,rK,p],by rw[ev' rfl]; simpa only[VR] using q⟩
  unfold A0c at h
  split at h
  ·rename_i eop; cases eop
  ·rename_i eop; cases eop
  ·rename_i eop
   cases eop
   split at h
   ·rename_i e1 e2
    split at h
    ·simp only[sI,pI,dQ] at h
     exact kstr e1 e2 rfl h.1 h.2.symm
    ·cases h
   ·cases h
  ·rename_i eop
   cases eop
   split at h
   ·rename_i e1 e2
    split at h
    ·rename_i hk
     obtain⟨_,hk⟩:=hk
     subst hk
     simp only[sI,pI,dQ] at h
     exact kint e1 e2 (.inl rfl) h.1 (fun _=>h.2.symm) (fun e=>by cases e)
    ·cases h
   ·cases h
  ·rename_i eop
   cases eop
   split at h
   ·rename_i e1 e2
    split at h
    ·rename_i hk
     obtain⟨_,hk⟩:=hk
     subst hk
     simp only[sI,pI,dQ] at h
     exact kint e1 e2 (.inr rfl) h.1 (fun e=>by cases e) (fun _=>h.2.symm)
    ·cases h
   ·cases h
  ·rename_i eop
   cases eop
   split at h
   ·rename_i k a k' b e1 e2
    split at h
    ·rename_i hb
     simp only[sI,pI,true_and] at h
     have h1:=L6 e1 hx
     rw[e2] at hy
     simp only[VR] at hy
     rw[h1,hy]
     have hg:(eqGuard .shr t x y (.int k a) (.int k' b)).run P w=.ok () w:=Y9 (by simp) (by simp)
     obtain⟨r,p,q⟩:=A5u (P:=P) (w:=w) (Z:=Z) (k':=k') (op:=.shr) (k:=k) (a:=a) (b:=b) (v:=.int k (a.fdiv (2^(min b.toNat k.bits)))) (by simp only[C4r,if_neg (show ¬ b<0 by omega)]) t
     exact⟨r,by simp only[Sem.run_bind,hg,rK,p],by rw[<- h]; simpa only[VR] using q⟩
    ·cases h
   ·cases h
  ·cases h
 | _=>simp[A0c] at h
theorem E2i{o:Oper}{U:Operand->AV}{U':Operand->Value}{v:AV}{B':Heap}{D:List Nat}(h:aop P U B o.op=some (v,B',D))(hs:Sim A Z B w.heap)(hd:Dom Z B.length)(hU:∀ x,VR Z (U x) (U' x)):Got P A Z B w (execOp U' o) v B' D:=by
 unfold aop at h
 split at h
 ·rename_i c v' hc
  split at h
  ·rename_i ht
   cases h
   subst ht
   exact D4l hc hs hd hU
  ·cases h
 ·split at h
  ·rename_i c y hv
   split at h
   ·rename_i ht
    cases h
    subst ht
    exact D4t hv hs hd hU
   ·cases h
  ·exact D4q h hs hd hU
end
end Go.Ad
