/- The abstract evaluator's operations stand for the model's: all operations together. -/
import Derived.Test.YtoboneiigikidaaGreatDoorAdOpsC
namespace Go.Ad
section
variable {P:Program} {A:Amb} {ι:Emb} {B:Heap} {w:World}
theorem D9c {a:AV} (h:A7w a=false):a ≠ .bad:=fun e=>by subst e; simp [A7w] at h
theorem VRL.ofmap {f:Operand->AV} {g:Operand->Value} (h:∀ x,VR ι (f x) (g x)) (l:List Operand):VRL ι (l.map f) (l.map g):=VRL.map f g h l
theorem B6q {b:Builtin} {ts:Array TypeId} {ty:TypeId} {cs:Array Bool} {args:List AV} {xs:List Value} {v:AV} {B':Heap} {D:List Nat} (hs:Sim A ι B w.heap) (hd:Dom ι B.length)
  (h:A0q P B b ts args=some (v,B',D)) (hx:VRL ι args xs):Got P A ι B w (builtin b ts ty cs xs.toArray) v B' D:=by
 unfold A0q at h
 split at h
 ·rename_i s x
  simp only [VRL] at hx
  obtain ⟨s',_,rfl,h1,x',_,rfl,h2,rfl⟩:=hx
  exact O6 hs hd h h1 h2
 ·rename_i s x
  simp only [VRL] at hx
  obtain ⟨s',_,rfl,h1,x',_,rfl,h2,rfl⟩:=hx
  exact B3s hs hd h h1 h2
 ·rename_i s
  simp only [VRL] at hx
  obtain ⟨s',_,rfl,h1,rfl⟩:=hx
  exact C3p hs hd h h1
 ·rename_i x
  simp only [VRL] at hx
  obtain ⟨x',_,rfl,h1,rfl⟩:=hx
  exact F4 hs hd h fun v hv=>A4p hs hv h1
 ·rename_i x r
  simp only [VRL] at hx
  obtain ⟨x',xs',rfl,h1,h2⟩:=hx
  exact F4 (s:=Builtin.max_ ts ty (x' :: xs').toArray) hs hd h fun v hv=>A9t hv h1 h2
 ·rename_i x r
  simp only [VRL] at hx
  obtain ⟨x',xs',rfl,h1,h2⟩:=hx
  exact F4 (s:=Builtin.min_ ts ty (x' :: xs').toArray) hs hd h fun v hv=>A9u hv h1 h2
 ·rename_i x
  simp only [VRL] at hx
  obtain ⟨x',_,rfl,h1,rfl⟩:=hx
  exact F4 hs hd h fun v hv=>A5c hv h1
 ·rename_i s x
  simp only [VRL] at hx
  obtain ⟨s',_,rfl,h1,x',_,rfl,h2,rfl⟩:=hx
  exact Z9 hs hd h h1 h2
 ·rename_i x
  simp only [VRL] at hx
  obtain ⟨x',_,rfl,h1,rfl⟩:=hx
  exact F4 hs hd h fun v hv=>D3c hv h1
 ·simp at h
theorem E3n {a:AV} {v:Value} (h:VR ι a v):VR ι (cnI a) v:=by
 unfold cnI
 split
 ·simpa only [VR] using h
 ·simp only [VR] at h ⊢; exact h.1
 ·exact h
theorem D3j {o:Oper} {ρ:Operand->AV} {ρ':Operand->Value} {v:AV} {B':Heap} {D:List Nat} (h:R8 P ρ B o.op=some (v,B',D)) (hs:Sim A ι B w.heap) (hd:Dom ι B.length)
  (hρ:∀ x,VR ι (ρ x) (ρ' x)):Got P A ι B w (execOp ρ' o) v B' D:=by
 obtain ⟨dst,op,ty,pos,after,guard⟩:=o
 cases op with
 | move x =>
  exact F4 (s:=pure (ρ' x)) hs hd h fun v hv=>by cases hv; exact ⟨_,rfl,hρ x⟩
 | assign x =>
  exact F4 (s:=pure (ρ' x)) hs hd h fun v hv=>by cases hv; exact ⟨_,rfl,hρ x⟩
 | pick c a b =>
  simp only [R8] at h
  split at h
  ·rename_i t ht
   have hc:=hρ c
   rw [ht] at hc
   simp only [VR] at hc
   cases h
   refine ⟨ι,if t then ρ' a else ρ' b,.value (if t then ρ' a else ρ' b),w,?_,.inl rfl,.refl _ _ _,?_,hs,Nat.le_refl _,hd⟩
   ·show (do pure (.value (if <- asBool (ρ' c) then ρ' a else ρ' b)):Sem Next).run P w=_
    rw [hc]; rfl
   ·cases t
    ·exact hρ b
    ·exact hρ a
  ·rename_i t ht
   have hc:=hρ c
   rw [ht] at hc
   simp only [VR] at hc
   cases h
   refine ⟨ι,if t then ρ' a else ρ' b,.value (if t then ρ' a else ρ' b),w,?_,.inl rfl,.refl _ _ _,?_,hs,Nat.le_refl _,hd⟩
   ·show (do pure (.value (if <- asBool (ρ' c) then ρ' a else ρ' b)):Sem Next).run P w=_
    rw [hc]; rfl
   ·cases t
    ·exact hρ b
    ·exact hρ a
  ·simp at h
 | alloc t =>
  simp only [R8,Option.map_eq_some_iff,pI] at h
  obtain ⟨z,hz,rfl,rfl,rfl⟩:=h
  exact C3j hs hd hz
 | box t x =>
  simp only [R8] at h
  split at h
  ·simp at h
  ·rename_i hb
   cases h
   exact D3a hs hd (D9c (by simpa using hb)) (hρ x)
 | build t ps =>
  refine F4 hs hd h fun v hv=>C3o hv ?_
  have:=PartsR.map hρ ps.toList
  simpa using this
 | buildSlice t n ps =>
  refine B1b hs hd h ?_
  have:=PartsR.map hρ ps.toList
  simpa using this
 | load t a=>exact F4 hs hd h fun v hv=>V8 hs hv (hρ a)
 | store t a x =>
  simp only [R8] at h
  split at h
  ·simp at h
  ·rename_i hb
   exact A2t hs hd h (D9c (by simpa using hb)) (hρ a) (hρ x)
 | nilCheck x =>
  have hx:=hρ x
  have h':=h
  simp only [R8,only,Option.map_eq_some_iff,pI] at h'
  obtain ⟨v',hv',rfl,rfl,rfl⟩:=h'
  unfold C0z at hv'
  refine ⟨ι,ρ' x,.value (ρ' x),w,?_,.inl rfl,.refl _ _ _,?_,hs,Nat.le_refl _,hd⟩
  ·show (match ρ' x with
    | .pointer none | .nilIface | .nilFunc=>runtimePanic .nilDeref
    | .func (.method name) first captured=>_
    | x=>pure (.value x):Sem Next).run P w=_
   split at hv' <;> first | (simp at hv'; done) | skip
   ·rename_i a he; rw [he] at hx; obtain ⟨b,o⟩:=a; simp only [VR] at hx; obtain ⟨l,_,e⟩:=hx; rw [e]; rfl
   ·rename_i t a he; rw [he] at hx; simp only [VR] at hx; obtain ⟨y,e,_⟩:=hx; rw [e]; rfl
   ·rename_i f a b he; rw [he] at hx; simp only [VR,FR] at hx; obtain ⟨f',xs,ys,e,rfl,_⟩:=hx; rw [e]; rfl
   ·rename_i f a b he; rw [he] at hx; simp only [VR,FR] at hx; obtain ⟨f',xs,ys,e,⟨lo,_,rfl⟩,_⟩:=hx; rw [e]; rfl
  ·split at hv' <;> first | (simp at hv'; done) | (rename_i he; cases hv'; rw [he] at hx; exact hx)
 | binOp op t x y yt=>exact F4 (s:=do eqGuard op t x y (ρ' x) (ρ' y); binOp op t (ρ' x) (ρ' y)) hs hd h fun v hv=>B6n hv (hρ x) (hρ y)
 | unOp op t x=>exact F4 hs hd h fun v hv=>E1c hv (hρ x)
 | convert s d x=>exact A7d hs hd h (hρ x)
 | makeInterface t x=>exact F4 hs hd h fun v hv=>B7e hv (hρ x)
 | makeFunc f a b =>
  cases f with
  | func f =>
   refine F4 (s:=Instr.makeFunc (.func f) (a.map ρ') (b.map ρ')) hs hd h fun v hv=>?_
   cases hv
   refine ⟨_,rfl,?_⟩
   simp only [VR,FR]
   exact ⟨_,_,_,rfl,rfl,by simpa using VRL.ofmap hρ a.toList,by simpa using VRL.ofmap hρ b.toList⟩
  | _=>simp [R8] at h
 | makeSlice t l c=>exact A5a hs hd h (hρ l) (hρ c)
 | slice t x lo hi mx=>exact F4 hs hd h fun v hv=>A0t hs hv (hρ x) (VRo.map hρ lo) (VRo.map hρ hi) (VRo.map hρ mx)
 | fieldAddr t x f=>exact F4 hs hd h fun v hv=>A4z hv (hρ x)
 | field t x f=>exact F4 hs hd h fun v hv=>C3s hv (hρ x)
 | indexAddr t x i=>exact F4 hs hd h fun v hv=>Q7 hv (hρ x) (E3n (hρ i))
 | index t x i=>exact F4 hs hd h fun v hv=>B1e hv (hρ x) (E3n (hρ i))
 | makeMap t r=>exact B6z hs hd h (VRo.map hρ r)
 | lookup t m k ok=>exact F4 hs hd h fun v hv=>C0n hs hv (hρ m) (hρ k)
 | mapUpdate t m k x=>exact A5b hs hd h (hρ m) (hρ k) (hρ x)
 | insert t m k x=>exact A5b hs hd h (hρ m) (hρ k) (hρ x)
 | extract t i=>exact F4 hs hd h fun v hv=>B6y hv (hρ t)
 | call c =>
  obtain ⟨callee,args,ats⟩:=c
  cases callee with
  | builtin b =>
   simp only [R8] at h
   have:=B6q (ty:=ty) (cs:=args.map fun | .const _=>true | _=>false) hs hd h (VRL.ofmap hρ args.toList)
   have e:(args.toList.map ρ').toArray=args.map ρ':=by apply Array.ext'; simp
   rw [e] at this
   exact this
  | value f=>simp [R8] at h
  | invoke r m=>simp [R8] at h
 | _=>simp [R8] at h
def cn:AV->AV
 | .sint k n=>.int k n
 | .rng k n _ _=>.int k n
 | .sbool b=>.bool b
 | .sstr s=>.str s
 | .lstr s _ _=>.str s
 | a=>a
theorem F6q {a:AV} {v:Value} (h:VR ι a v):VR ι (cn a) v:=by
 unfold cn
 split
 ·simpa only [VR] using h
 ·simp only [VR] at h ⊢; exact h.1
 ·simpa only [VR] using h
 ·simpa only [VR] using h
 ·simp only [VR] at h ⊢; exact h.1
 ·exact h
theorem A1v {y:Nat} {a:AV} {n:Nat} (h:A8f y a=some (true,n)):A3e y (cn a)=some n:=by
 unfold A8f at h
 split at h
 ·simp only [sI,pI,decide_eq_true_eq] at h
  simp only [cn,A3e,if_pos h.1,h.2]
 ·simp only [sI,pI,decide_eq_true_eq] at h
  simp only [cn,A3e,if_pos h.1,h.2]
 ·simp only [sI,pI,decide_eq_true_eq] at h
  simp only [cn,A3e,if_pos h.1,h.2]
 ·cases h
theorem E4q {s:List UInt8} {i:Nat} (h:i < s.length):s[i]?=some (s.getD i 0):=by
 rw [List.getD_eq_getElem?_getD,List.getElem?_eq_getElem h,Option.getD_some]
theorem D3i {t:TypeId} (hu:P.underlying t=some .string) {s:List UInt8} {k:IntKind} {i:Int} (h:0<=i/\i < (s.length:Int)) :
  B2s P t (.str s) (.int k i)=some (.int .u8 ((s.getD i.toNat 0).toNat:Int)):=by
 have hlt:i.toNat < s.length:=by omega
 simp only [B2s,hu,if_pos h.1,E4q hlt,Option.map_some]
theorem D3e {o:Oper} {ρ:Operand->AV} {ρ':Operand->Value} {v:AV} (h:Z8 P ρ o.op=some (true,v)) (hs:Sim A ι B w.heap) (hd:Dom ι B.length)
  (hρ:∀ x,VR ι (ρ x) (ρ' x)):Got P A ι B w (execOp ρ' o) v B []:=by
 obtain ⟨dst,op,ty,pos,after,guard⟩:=o
 have hB:only B (some v)=some (v,B,[]):=rfl
 cases op with
 | index t x i =>
  refine F4 (s:=Instr.index t (ρ' x) (ρ' i)) hs hd hB fun v' hv=>?_
  cases hv
  have hx:=hρ x
  have hi:=hρ i
  have key:∀ {s:List UInt8} {k:IntKind} {i':Int},P.underlying t=some .string->sstr? (ρ x)=some s->M3 (ρ i)=some (k,i')->(0<=i'/\i' < (s.length:Int)) ->
    v=.rng .u8 ((s.getD i'.toNat 0).toNat:Int) 0 255->Pure P w ι (Instr.index t (ρ' x) (ρ' i)) v:=by
   intro s k i' hu e1 e2 hc ev
   have hx:VR ι (.str s) (ρ' x):=by
    obtain ⟨b,h1,h2⟩:=N8 e1 hx
    simp only [VR]; exact ⟨b,h1,h2⟩
   have hi:VR ι (.int k i') (ρ' i):=by simp only [VR]; exact J8 e2 hi
   obtain ⟨r,p,q⟩:=B1e (P:=P) (w:=w) (D3i (k:=k) hu hc) hx hi
   refine ⟨r,p,?_⟩
   simp only [VR] at q
   rw [ev,q]
   simp only [VR]
   have hb:=(s.getD i'.toNat 0).toNat_lt
   exact ⟨trivial,by omega,by omega⟩
  simp only [Z8] at h
  split at h
  ·rename_i s k n e1 e2 e3
   split at h
   ·simp only [sI,pI,decide_eq_true_eq] at h
    exact key e1 e2 e3 h.1 h.2.symm
   ·cases h
  ·cases h
 | slice t x lo hi mx =>
  cases mx with
  | some _=>simp [Z8] at h
  | none =>
   refine F4 (s:=Instr.sliceAt t (ρ' x) (lo.map ρ') (hi.map ρ') none) hs hd hB fun v' hv=>?_
   cases hv
   simp only [Z8] at h
   split at h
   ·rename_i s hu e1
    split at h
    ·split at h
     ·rename_i c h' e2
      split at h
      ·rename_i c' l' e3
       simp only [sI,pI,Bool.and_eq_true] at h
       obtain ⟨⟨rfl,rfl⟩,rfl⟩:=h
       have hx:VR ι (.str s) (ρ' x):=by
        obtain ⟨b,h1,h2⟩:=N8 e1 (hρ x)
        simp only [VR]; exact ⟨b,h1,h2⟩
       have hb:Z4 s.length s.length (lo.map fun x=>cn (ρ x)) (hi.map fun x=>cn (ρ x)) none=some (l',h',s.length):=by
        unfold Z4
        cases hi <;> cases lo <;> simp only [Option.map_none,Option.map_some,Option.isSome_none,Bool.false_eq_true,if_false,sI,pI,true_and] at e2 e3 ⊢
        ·subst e2 e3; exact ⟨rfl,rfl,trivial⟩
        ·subst e2; rw [A1v e3]
        ·subst e3; rw [A1v e2]
        ·rw [A1v e2]; simp only; rw [A1v e3]
       have ha:A1m P B t (.str s) (lo.map fun x=>cn (ρ x)) (hi.map fun x=>cn (ρ x)) none=some (.str ((s.take h').drop l')):=by
        simp only [A1m,hu,Option.isSome_none,Bool.false_eq_true,if_false,hb]
       obtain ⟨r,p,q⟩:=A0t (P:=P) (w:=w) hs ha hx (VRo.map (fun x=>F6q (hρ x)) lo) (VRo.map (fun x=>F6q (hρ x)) hi) (mx':=none) (by simp [VRo])
       exact ⟨r,p,by simpa only [VR] using q⟩
      ·cases h
     ·cases h
    ·cases h
   ·cases h
 | binOp op t x y yt =>
  refine F4 (s:=do eqGuard op t x y (ρ' x) (ρ' y); binOp op t (ρ' x) (ρ' y)) hs hd hB fun v' hv=>?_
  cases hv
  have hx:=hρ x
  have hy:=hρ y
  have kstr:∀ {a b:List UInt8},sstr? (ρ x)=some a->sstr? (ρ y)=some b->op=.add->a.length+b.length < 2 ^ 62->v=.sstr (a++b) ->
    Pure P w ι (do eqGuard op t x y (ρ' x) (ρ' y); binOp op t (ρ' x) (ρ' y)) v:=by
   intro a b e1 e2 eo hl ev
   have h1:VR ι (.str a) (ρ' x):=by simp only [VR]; exact N8 e1 hx
   have h2:VR ι (.str b) (ρ' y):=by simp only [VR]; exact N8 e2 hy
   obtain ⟨r,p,q⟩:=B6n (P:=P) (w:=w) (op:=op) (t:=t) (x:=x) (y:=y) (v:=.str (a++b)) (by subst eo; simp only [F1e,E3d,if_pos hl]) h1 h2
   exact ⟨r,p,by rw [ev]; simpa only [VR] using q⟩
  have kint:∀ {k:IntKind} {a b:Int},M3 (ρ x)=some (k,a)->M3 (ρ y)=some (k,b)->op=.quo \/ op=.rem->b ≠ 0->(op=.quo->v=.sint k (k.wrap (a.tdiv b)))->(op=.rem->v=.sint k (a.tmod b)) ->
    Pure P w ι (do eqGuard op t x y (ρ' x) (ρ' y); binOp op t (ρ' x) (ρ' y)) v:=by
   intro k a b e1 e2 eo hb ev ev'
   have h1:=J8 e1 hx
   have hy:=J8 e2 hy
   have hg:(eqGuard op t x y (.int k a) (.int k b)).run P w=.ok () w:=A0c (by simp) (by simp)
   rw [h1,hy]
   rcases eo with eo | eo <;> subst eo
   ·obtain ⟨r,p,q⟩:=A3h (P:=P) (w:=w) (ι:=ι) (op:=.quo) (k:=k) (a:=a) (b:=b) (v:=.int k (k.wrap (a.tdiv b))) ⟨by simp,by simp⟩ (by simp only [A9r,if_neg hb]) t
    exact ⟨r,by simp only [Sem.run_bind,hg,Result.andThen_ok,p],by rw [ev rfl]; simpa only [VR] using q⟩
   ·obtain ⟨r,p,q⟩:=A3h (P:=P) (w:=w) (ι:=ι) (op:=.rem) (k:=k) (a:=a) (b:=b) (v:=.int k (a.tmod b)) ⟨by simp,by simp⟩ (by simp only [A9r,if_neg hb]) t
    exact ⟨r,by simp only [Sem.run_bind,hg,Result.andThen_ok,p],by rw [ev' rfl]; simpa only [VR] using q⟩
  unfold Z8 at h
  split at h
  ·rename_i eop; cases eop
  ·rename_i eop; cases eop
  ·rename_i eop
   cases eop
   split at h
   ·rename_i e1 e2
    split at h
    ·simp only [sI,pI,decide_eq_true_eq] at h
     exact kstr e1 e2 rfl h.1 h.2.symm
    ·cases h
   ·cases h
  ·rename_i eop
   cases eop
   split at h
   ·rename_i e1 e2
    split at h
    ·rename_i hk
     obtain ⟨_,hk⟩:=hk
     subst hk
     simp only [sI,pI,decide_eq_true_eq] at h
     exact kint e1 e2 (.inl rfl) h.1 (fun _=>h.2.symm) (fun e=>by cases e)
    ·cases h
   ·cases h
  ·rename_i eop
   cases eop
   split at h
   ·rename_i e1 e2
    split at h
    ·rename_i hk
     obtain ⟨_,hk⟩:=hk
     subst hk
     simp only [sI,pI,decide_eq_true_eq] at h
     exact kint e1 e2 (.inr rfl) h.1 (fun e=>by cases e) (fun _=>h.2.symm)
    ·cases h
   ·cases h
  ·cases h
 | _=>simp [Z8] at h
theorem E0v {o:Oper} {ρ:Operand->AV} {ρ':Operand->Value} {v:AV} {B':Heap} {D:List Nat} (h:aop P ρ B o.op=some (v,B',D)) (hs:Sim A ι B w.heap) (hd:Dom ι B.length)
  (hρ:∀ x,VR ι (ρ x) (ρ' x)):Got P A ι B w (execOp ρ' o) v B' D:=by
 unfold aop at h
 split at h
 ·rename_i c v' hc
  split at h
  ·rename_i ht
   cases h
   subst ht
   exact D3e hc hs hd hρ
  ·cases h
 ·split at h
  ·rename_i c y hv
   split at h
   ·rename_i ht
    cases h
    subst ht
    exact D3n hv hs hd hρ
   ·cases h
  ·exact D3j h hs hd hρ
end
end Go.Ad
