/- The abstract evaluator's operations stand for the model's: all operations together. -/
import Derived.Test.YtkfabaoichndpaaGreatDoorAdOpsC
namespace Go.Ad
section
variable {P:Program} {A:Amb} {ι:Emb} {B:Heap} {w:World}
theorem D7q {a:AV} (h:B0j a=false):a ≠ .bad:=fun e=>by subst e; simp [B0j] at h
theorem VRL.ofmap {f:Operand->AV} {g:Operand->Value} (h:∀ x,VR ι (f x) (g x)) (l:List Operand):VRL ι (l.map f) (l.map g):=VRL.map f g h l
theorem B8x {b:Builtin} {ts:Array TypeId} {ty:TypeId} {cs:Array Bool} {args:List AV} {xs:List Value} {v:AV} {B':Heap} {D:List Nat} (hs:Sim A ι B w.heap) (hd:Dom ι B.length)
  (h:A2h P B b ts args=some (v,B',D)) (hx:VRL ι args xs):Got P A ι B w (builtin b ts ty cs xs.toArray) v B' D:=by
 unfold A2h at h
 split at h
 ·rename_i s x
  simp only [VRL] at hx
  obtain ⟨s',_,rfl,h1,x',_,rfl,h2,rfl⟩:=hx
  exact M5 hs hd h h1 h2
 ·rename_i s x
  simp only [VRL] at hx
  obtain ⟨s',_,rfl,h1,x',_,rfl,h2,rfl⟩:=hx
  exact B5x hs hd h h1 h2
 ·rename_i s
  simp only [VRL] at hx
  obtain ⟨s',_,rfl,h1,rfl⟩:=hx
  exact C7z hs hd h h1
 ·rename_i x
  simp only [VRL] at hx
  obtain ⟨x',_,rfl,h1,rfl⟩:=hx
  exact E8 hs hd h fun v hv=>A5k hs hv h1
 ·rename_i x r
  simp only [VRL] at hx
  obtain ⟨x',xs',rfl,h1,h2⟩:=hx
  exact E8 (s:=Builtin.max_ ts ty (x' :: xs').toArray) hs hd h fun v hv=>B1t hv h1 h2
 ·rename_i x r
  simp only [VRL] at hx
  obtain ⟨x',xs',rfl,h1,h2⟩:=hx
  exact E8 (s:=Builtin.min_ ts ty (x' :: xs').toArray) hs hd h fun v hv=>B1s hv h1 h2
 ·rename_i x
  simp only [VRL] at hx
  obtain ⟨x',_,rfl,h1,rfl⟩:=hx
  exact E8 hs hd h fun v hv=>A6k hv h1
 ·rename_i s x
  simp only [VRL] at hx
  obtain ⟨s',_,rfl,h1,x',_,rfl,h2,rfl⟩:=hx
  exact Z7 hs hd h h1 h2
 ·rename_i x
  simp only [VRL] at hx
  obtain ⟨x',_,rfl,h1,rfl⟩:=hx
  exact E8 hs hd h fun v hv=>D2u hv h1
 ·simp at h
theorem E6m {a:AV} {v:Value} (h:VR ι a v):VR ι (cnI a) v:=by
 unfold cnI
 split
 ·simpa only [VR] using h
 ·simp only [VR] at h ⊢; exact h.1
 ·exact h
theorem D6d {o:Oper} {ρ:Operand->AV} {ρ':Operand->Value} {v:AV} {B':Heap} {D:List Nat} (h:V5 P ρ B o.op=some (v,B',D)) (hs:Sim A ι B w.heap) (hd:Dom ι B.length)
  (hρ:∀ x,VR ι (ρ x) (ρ' x)):Got P A ι B w (execOp ρ' o) v B' D:=by
 obtain ⟨dst,op,ty,pos,after,guard⟩:=o
 cases op with
 | move x =>
  exact E8 (s:=pure (ρ' x)) hs hd h fun v hv=>by cases hv; exact ⟨_,rfl,hρ x⟩
 | assign x =>
  exact E8 (s:=pure (ρ' x)) hs hd h fun v hv=>by cases hv; exact ⟨_,rfl,hρ x⟩
 | pick c a b =>
  simp only [V5] at h
  split at h
  ·rename_i t ht
   have hc:=hρ c
   rw [ht] at hc
   simp only [VR] at hc
   cases h
   refine ⟨ι,if t then ρ' a else ρ' b,.value (if t then ρ' a else ρ' b),w,?_,.inl rfl,.refl _ _ _,?_,hs,Nat.le_refl _,hd⟩
   ·show (do pure (.value (if <- asBool (ρ' c) then ρ' a else ρ' b)):Sem Next).run P w=_
    rw [hc]; rfl
   ·cases t
    ·exact hρ b
    ·exact hρ a
  ·rename_i t ht
   have hc:=hρ c
   rw [ht] at hc
   simp only [VR] at hc
   cases h
   refine ⟨ι,if t then ρ' a else ρ' b,.value (if t then ρ' a else ρ' b),w,?_,.inl rfl,.refl _ _ _,?_,hs,Nat.le_refl _,hd⟩
   ·show (do pure (.value (if <- asBool (ρ' c) then ρ' a else ρ' b)):Sem Next).run P w=_
    rw [hc]; rfl
   ·cases t
    ·exact hρ b
    ·exact hρ a
  ·simp at h
 | alloc t =>
  simp only [V5,Option.map_eq_some_iff,pI] at h
  obtain ⟨z,hz,rfl,rfl,rfl⟩:=h
  exact C8a hs hd hz
 | box t x =>
  simp only [V5] at h
  split at h
  ·simp at h
  ·rename_i hb
   cases h
   exact D6l hs hd (D7q (by simpa using hb)) (hρ x)
 | build t ps =>
  refine E8 hs hd h fun v hv=>C6i hv ?_
  have:=PartsR.map hρ ps.toList
  simpa using this
 | buildSlice t n ps =>
  refine B2h hs hd h ?_
  have:=PartsR.map hρ ps.toList
  simpa using this
 | load t a=>exact E8 hs hd h fun v hv=>V3 hs hv (hρ a)
 | store t a x =>
  simp only [V5] at h
  split at h
  ·simp at h
  ·rename_i hb
   exact A3a hs hd h (D7q (by simpa using hb)) (hρ a) (hρ x)
 | nilCheck x =>
  have hx:=hρ x
  have h':=h
  simp only [V5,only,Option.map_eq_some_iff,pI] at h'
  obtain ⟨v',hv',rfl,rfl,rfl⟩:=h'
  unfold C3o at hv'
  refine ⟨ι,ρ' x,.value (ρ' x),w,?_,.inl rfl,.refl _ _ _,?_,hs,Nat.le_refl _,hd⟩
  ·show (match ρ' x with
    | .pointer none | .nilIface | .nilFunc=>runtimePanic .nilDeref
    | .func (.method name) first captured=>_
    | x=>pure (.value x):Sem Next).run P w=_
   split at hv' <;> first | (simp at hv'; done) | skip
   ·rename_i a he; rw [he] at hx; obtain ⟨b,o⟩:=a; simp only [VR] at hx; obtain ⟨l,_,e⟩:=hx; rw [e]; rfl
   ·rename_i t a he; rw [he] at hx; simp only [VR] at hx; obtain ⟨y,e,_⟩:=hx; rw [e]; rfl
   ·rename_i f a b he; rw [he] at hx; simp only [VR,FR] at hx; obtain ⟨f',xs,ys,e,rfl,_⟩:=hx; rw [e]; rfl
   ·rename_i f a b he; rw [he] at hx; simp only [VR,FR] at hx; obtain ⟨f',xs,ys,e,⟨lo,_,rfl⟩,_⟩:=hx; rw [e]; rfl
  ·split at hv' <;> first | (simp at hv'; done) | (rename_i he; cases hv'; rw [he] at hx; exact hx)
 | binOp op t x y yt=>exact E8 (s:=do eqGuard op t x y (ρ' x) (ρ' y); binOp op t (ρ' x) (ρ' y)) hs hd h fun v hv=>B8p hv (hρ x) (hρ y)
 | unOp op t x=>exact E8 hs hd h fun v hv=>E3f hv (hρ x)
 | convert s d x=>exact C1j hs hd h (hρ x)
 | makeInterface t x=>exact E8 hs hd h fun v hv=>B9r hv (hρ x)
 | makeFunc f a b =>
  cases f with
  | func f =>
   refine E8 (s:=Instr.makeFunc (.func f) (a.map ρ') (b.map ρ')) hs hd h fun v hv=>?_
   cases hv
   refine ⟨_,rfl,?_⟩
   simp only [VR,FR]
   exact ⟨_,_,_,rfl,rfl,by simpa using VRL.ofmap hρ a.toList,by simpa using VRL.ofmap hρ b.toList⟩
  | _=>simp [V5] at h
 | makeSlice t l c=>exact A5z hs hd h (hρ l) (hρ c)
 | slice t x lo hi mx=>exact E8 hs hd h fun v hv=>A1g hs hv (hρ x) (VRo.map hρ lo) (VRo.map hρ hi) (VRo.map hρ mx)
 | fieldAddr t x f=>exact E8 hs hd h fun v hv=>A6a hv (hρ x)
 | field t x f=>exact E8 hs hd h fun v hv=>C7h hv (hρ x)
 | indexAddr t x i=>exact E8 hs hd h fun v hv=>Q8 hv (hρ x) (E6m (hρ i))
 | index t x i=>exact E8 hs hd h fun v hv=>B3b hv (hρ x) (E6m (hρ i))
 | makeMap t r=>exact B9a hs hd h (VRo.map hρ r)
 | lookup t m k ok=>exact E8 hs hd h fun v hv=>C2i hs hv (hρ m) (hρ k)
 | mapUpdate t m k x=>exact A5v hs hd h (hρ m) (hρ k) (hρ x)
 | insert t m k x=>exact A5v hs hd h (hρ m) (hρ k) (hρ x)
 | extract t i=>exact E8 hs hd h fun v hv=>C1x hv (hρ t)
 | call c =>
  obtain ⟨callee,args,ats⟩:=c
  cases callee with
  | builtin b =>
   simp only [V5] at h
   have:=B8x (ty:=ty) (cs:=args.map fun | .const _=>true | _=>false) hs hd h (VRL.ofmap hρ args.toList)
   have e:(args.toList.map ρ').toArray=args.map ρ':=by apply Array.ext'; simp
   rw [e] at this
   exact this
  | value f=>simp [V5] at h
  | invoke r m=>simp [V5] at h
 | _=>simp [V5] at h
def cn:AV->AV
 | .sint k n=>.int k n
 | .rng k n _ _=>.int k n
 | .sbool b=>.bool b
 | .sstr s=>.str s
 | .lstr s _ _=>.str s
 | a=>a
theorem F7w {a:AV} {v:Value} (h:VR ι a v):VR ι (cn a) v:=by
 unfold cn
 split
 ·simpa only [VR] using h
 ·simp only [VR] at h ⊢; exact h.1
 ·simpa only [VR] using h
 ·simpa only [VR] using h
 ·simp only [VR] at h ⊢; exact h.1
 ·exact h
theorem A2c {y:Nat} {a:AV} {n:Nat} (h:A8j y a=some (true,n)):A3s y (cn a)=some n:=by
 unfold A8j at h
 split at h
 ·simp only [sI,pI,decide_eq_true_eq] at h
  simp only [cn,A3s,if_pos h.1,h.2]
 ·simp only [sI,pI,decide_eq_true_eq] at h
  simp only [cn,A3s,if_pos h.1,h.2]
 ·simp only [sI,pI,decide_eq_true_eq] at h
  simp only [cn,A3s,if_pos h.1,h.2]
 ·cases h
theorem E8o {s:List UInt8} {i:Nat} (h:i < s.length):s[i]?=some (s.getD i 0):=by
 rw [List.getD_eq_getElem?_getD,List.getElem?_eq_getElem h,Option.getD_some]
theorem D3i {t:TypeId} (hu:P.underlying t=some .string) {s:List UInt8} {k:IntKind} {i:Int} (h:0<=i/\i < (s.length:Int)) :
  B4d P t (.str s) (.int k i)=some (.int .u8 ((s.getD i.toNat 0).toNat:Int)):=by
 have hlt:i.toNat < s.length:=by omega
 simp only [B4d,hu,if_pos h.1,E8o hlt,Option.map_some]
theorem D3l {o:Oper} {ρ:Operand->AV} {ρ':Operand->Value} {v:AV} (h:A2t P ρ o.op=some (true,v)) (hs:Sim A ι B w.heap) (hd:Dom ι B.length)
  (hρ:∀ x,VR ι (ρ x) (ρ' x)):Got P A ι B w (execOp ρ' o) v B []:=by
 obtain ⟨dst,op,ty,pos,after,guard⟩:=o
 have hB:only B (some v)=some (v,B,[]):=rfl
 cases op with
 | index t x i =>
  refine E8 (s:=Instr.index t (ρ' x) (ρ' i)) hs hd hB fun v' hv=>?_
  cases hv
  have hx:=hρ x
  have hi:=hρ i
  have key:∀ {s:List UInt8} {k:IntKind} {i':Int},P.underlying t=some .string->sstr? (ρ x)=some s->H8 (ρ i)=some (k,i')->(0<=i'/\i' < (s.length:Int)) ->
    v=.rng .u8 ((s.getD i'.toNat 0).toNat:Int) 0 255->Pure P w ι (Instr.index t (ρ' x) (ρ' i)) v:=by
   intro s k i' hu e1 e2 hc ev
   have hx:VR ι (.str s) (ρ' x):=by
    obtain ⟨b,h1,h2⟩:=K5 e1 hx
    simp only [VR]; exact ⟨b,h1,h2⟩
   have hi:VR ι (.int k i') (ρ' i):=by simp only [VR]; exact F7 e2 hi
   obtain ⟨r,p,q⟩:=B3b (P:=P) (w:=w) (D3i (k:=k) hu hc) hx hi
   refine ⟨r,p,?_⟩
   simp only [VR] at q
   rw [ev,q]
   simp only [VR]
   have hb:=(s.getD i'.toNat 0).toNat_lt
   exact ⟨trivial,by omega,by omega⟩
  simp only [A2t] at h
  split at h
  ·rename_i s k n e1 e2 e3
   split at h
   ·simp only [sI,pI,decide_eq_true_eq] at h
    exact key e1 e2 e3 h.1 h.2.symm
   ·cases h
  ·cases h
 | slice t x lo hi mx =>
  cases mx with
  | some _=>simp [A2t] at h
  | none =>
   refine E8 (s:=Instr.sliceAt t (ρ' x) (lo.map ρ') (hi.map ρ') none) hs hd hB fun v' hv=>?_
   cases hv
   simp only [A2t] at h
   split at h
   ·rename_i s hu e1
    split at h
    ·split at h
     ·rename_i c h' e2
      split at h
      ·rename_i c' l' e3
       simp only [sI,pI,Bool.and_eq_true] at h
       obtain ⟨⟨rfl,rfl⟩,rfl⟩:=h
       have hx:VR ι (.str s) (ρ' x):=by
        obtain ⟨b,h1,h2⟩:=K5 e1 (hρ x)
        simp only [VR]; exact ⟨b,h1,h2⟩
       have hb:Z6 s.length s.length (lo.map fun x=>cn (ρ x)) (hi.map fun x=>cn (ρ x)) none=some (l',h',s.length):=by
        unfold Z6
        cases hi <;> cases lo <;> simp only [Option.map_none,Option.map_some,Option.isSome_none,Bool.false_eq_true,if_false,sI,pI,true_and] at e2 e3 ⊢
        ·subst e2 e3; exact ⟨rfl,rfl,trivial⟩
        ·subst e2; rw [A2c e3]
        ·subst e3; rw [A2c e2]
        ·rw [A2c e2]; simp only; rw [A2c e3]
       have ha:A9d P B t (.str s) (lo.map fun x=>cn (ρ x)) (hi.map fun x=>cn (ρ x)) none=some (.str ((s.take h').drop l')):=by
        simp only [A9d,hu,Option.isSome_none,Bool.false_eq_true,if_false,hb]
       obtain ⟨r,p,q⟩:=A1g (P:=P) (w:=w) hs ha hx (VRo.map (fun x=>F7w (hρ x)) lo) (VRo.map (fun x=>F7w (hρ x)) hi) (mx':=none) (by simp [VRo])
       exact ⟨r,p,by simpa only [VR] using q⟩
      ·cases h
     ·cases h
    ·cases h
   ·cases h
 | binOp op t x y yt =>
  refine E8 (s:=do eqGuard op t x y (ρ' x) (ρ' y); binOp op t (ρ' x) (ρ' y)) hs hd hB fun v' hv=>?_
  cases hv
  have hx:=hρ x
  have hy:=hρ y
  have kstr:∀ {a b:List UInt8},sstr? (ρ x)=some a->sstr? (ρ y)=some b->op=.add->a.length+b.length < 2 ^ 62->v=.sstr (a++b) ->
    Pure P w ι (do eqGuard op t x y (ρ' x) (ρ' y); binOp op t (ρ' x) (ρ' y)) v:=by
   intro a b e1 e2 eo hl ev
   have h1:VR ι (.str a) (ρ' x):=by simp only [VR]; exact K5 e1 hx
   have h2:VR ι (.str b) (ρ' y):=by simp only [VR]; exact K5 e2 hy
   obtain ⟨r,p,q⟩:=B8p (P:=P) (w:=w) (op:=op) (t:=t) (x:=x) (y:=y) (v:=.str (a++b)) (by subst eo; simp only [F7k,F2s,if_pos hl]) h1 h2
   exact ⟨r,p,by rw [ev]; simpa only [VR] using q⟩
  have kint:∀ {k:IntKind} {a b:Int},H8 (ρ x)=some (k,a)->H8 (ρ y)=some (k,b)->op=.quo \/ op=.rem->b ≠ 0->(op=.quo->v=.sint k (k.wrap (a.tdiv b)))->(op=.rem->v=.sint k (a.tmod b)) ->
    Pure P w ι (do eqGuard op t x y (ρ' x) (ρ' y); binOp op t (ρ' x) (ρ' y)) v:=by
   intro k a b e1 e2 eo hb ev ev'
   have h1:=F7 e1 hx
   have hy:=F7 e2 hy
   have hg:(eqGuard op t x y (.int k a) (.int k b)).run P w=.ok () w:=A0c (by simp) (by simp)
   rw [h1,hy]
   rcases eo with eo | eo <;> subst eo
   ·obtain ⟨r,p,q⟩:=A4e (P:=P) (w:=w) (ι:=ι) (op:=.quo) (k:=k) (a:=a) (b:=b) (v:=.int k (k.wrap (a.tdiv b))) ⟨by simp,by simp⟩ (by simp only [B1p,if_neg hb]) t
    exact ⟨r,by simp only [Sem.run_bind,hg,Result.andThen_ok,p],by rw [ev rfl]; simpa only [VR] using q⟩
   ·obtain ⟨r,p,q⟩:=A4e (P:=P) (w:=w) (ι:=ι) (op:=.rem) (k:=k) (a:=a) (b:=b) (v:=.int k (a.tmod b)) ⟨by simp,by simp⟩ (by simp only [B1p,if_neg hb]) t
    exact ⟨r,by simp only [Sem.run_bind,hg,Result.andThen_ok,p],by rw [ev' rfl]; simpa only [VR] using q⟩
  unfold A2t at h
  split at h
  ·rename_i eop; cases eop
  ·rename_i eop; cases eop
  ·rename_i eop
   cases eop
   split at h
   ·rename_i e1 e2
    split at h
    ·simp only [sI,pI,decide_eq_true_eq] at h
     exact kstr e1 e2 rfl h.1 h.2.symm
    ·cases h
   ·cases h
  ·rename_i eop
   cases eop
   split at h
   ·rename_i e1 e2
    split at h
    ·rename_i hk
     obtain ⟨_,hk⟩:=hk
     subst hk
     simp only [sI,pI,decide_eq_true_eq] at h
     exact kint e1 e2 (.inl rfl) h.1 (fun _=>h.2.symm) (fun e=>by cases e)
    ·cases h
   ·cases h
  ·rename_i eop
   cases eop
   split at h
   ·rename_i e1 e2
    split at h
    ·rename_i hk
     obtain ⟨_,hk⟩:=hk
     subst hk
     simp only [sI,pI,decide_eq_true_eq] at h
     exact kint e1 e2 (.inr rfl) h.1 (fun e=>by cases e) (fun _=>h.2.symm)
    ·cases h
   ·cases h
  ·cases h
 | _=>simp [A2t] at h
theorem E3r {o:Oper} {ρ:Operand->AV} {ρ':Operand->Value} {v:AV} {B':Heap} {D:List Nat} (h:aop P ρ B o.op=some (v,B',D)) (hs:Sim A ι B w.heap) (hd:Dom ι B.length)
  (hρ:∀ x,VR ι (ρ x) (ρ' x)):Got P A ι B w (execOp ρ' o) v B' D:=by
 unfold aop at h
 split at h
 ·rename_i c v' hc
  split at h
  ·rename_i ht
   cases h
   subst ht
   exact D3l hc hs hd hρ
  ·cases h
 ·split at h
  ·rename_i c y hv
   split at h
   ·rename_i ht
    cases h
    subst ht
    exact D2w hv hs hd hρ
   ·cases h
  ·exact D6d h hs hd hρ
end
end Go.Ad
