/- The abstract evaluator's operations stand for the model's: equality, operators, lengths. -/
import Derived.Test.YtoboneiigikidaaGreatDoorAdOps4
namespace Go.Ad
section
variable {P:Program} {A:Amb} {Z:Emb} {B:Heap} {w:World}
theorem B7i{t:TypeId}{d:TypeDesc}{x y:AV}{x' y':Value}{r:Bool}(h:E1z d x y=some r)(hu:P.underlying t=some d)(hx:VR Z x x')(hy:VR Z y y')(D:Nat) :
  (Op.equalIn (D+1) t x' y').run P w=.ok r w:=by
 unfold E1z at h
 split at h<;>(try simp only[sI,reduceCtorEq] at h)
 ·simp only[VR] at hx hy; subst hx hy h
  simp only[Op.equalIn,Sem.run_bind,und hu,rK,Sem.run_pure]
 ·simp only[VR] at hx hy; subst hx hy
  split at h
  ·rename_i hk; subst hk; cases h
   simp only[Op.equalIn,Sem.run_bind,und hu,rK,if_true,Sem.run_pure]
  ·simp at h
 ·simp only[VR] at hx hy; obtain⟨rfl,p1,p2⟩:=hx; subst hy
  split at h
  ·rename_i hk; subst hk
   simp only[Op.equalIn,Sem.run_bind,und hu,rK,if_true,Sem.run_pure]
   rw[A3v h ⟨p1,p2⟩ ⟨Int.le_refl _,Int.le_refl _⟩]
  ·simp at h
 ·simp only[VR] at hx hy; subst hx; obtain⟨rfl,q1,q2⟩:=hy
  split at h
  ·rename_i hk; subst hk
   simp only[Op.equalIn,Sem.run_bind,und hu,rK,if_true,Sem.run_pure]
   rw[A3v h ⟨Int.le_refl _,Int.le_refl _⟩ ⟨q1,q2⟩]
  ·simp at h
 ·simp only[VR] at hx hy; obtain⟨rfl,p1,p2⟩:=hx; obtain⟨rfl,q1,q2⟩:=hy
  split at h
  ·rename_i hk; subst hk
   simp only[Op.equalIn,Sem.run_bind,und hu,rK,if_true,Sem.run_pure]
   rw[A3v h ⟨p1,p2⟩ ⟨q1,q2⟩]
  ·simp at h
 ·simp only[VR] at hx hy; obtain⟨a,rfl,rfl⟩:=hx; obtain⟨b,rfl,rfl⟩:=hy; subst h
  simp only[Op.equalIn,Sem.run_bind,und hu,rK,Sem.run_pure]
  rw[beq_toListBytes,toList_data,toList_data]
 ·rename_i b
  simp only[VR] at hx; subst hx h
  cases b with
  | none=>simp only[VR] at hy; subst hy; simp[Op.equalIn,und hu]
  | some p=>simp only[VR] at hy; obtain⟨l,_,rfl⟩:=hy; simp[Op.equalIn,und hu]
 ·simp only[VR] at hx hy; obtain⟨l,_,rfl⟩:=hx; subst hy h; simp[Op.equalIn,und hu]
 ·rename_i b _ _
  simp only[VR] at hx; obtain⟨_,_,rfl⟩:=hx; subst h
  cases b with
  | none=>simp only[VR] at hy; obtain⟨_,_,rfl⟩:=hy; simp[Op.equalIn,und hu]
  | some p=>simp only[VR] at hy; obtain⟨l,_,_,_,_,_,_,_,_,rfl⟩:=hy; simp[Op.equalIn,und hu]
 ·simp only[VR] at hx hy; obtain⟨l,_,_,_,_,_,_,_,_,rfl⟩:=hx; obtain⟨_,_,rfl⟩:=hy; subst h; simp[Op.equalIn,und hu]
 ·rename_i b
  simp only[VR] at hx; subst hx h
  cases b with
  | none=>simp only[VR] at hy; subst hy; simp[Op.equalIn,und hu]
  | some p=>simp only[VR] at hy; obtain⟨l,_,rfl⟩:=hy; simp[Op.equalIn,und hu]
 ·simp only[VR] at hx hy; obtain⟨l,_,rfl⟩:=hx; subst hy h; simp[Op.equalIn,und hu]
 ·simp only[VR] at hx hy; subst hx hy h; simp[Op.equalIn,und hu]
 ·simp only[VR] at hx hy; subst hx h; obtain⟨_,_,_,rfl,_⟩:=hy; simp[Op.equalIn,und hu]
 ·simp only[VR] at hx hy; subst hy h; obtain⟨_,_,_,rfl,_⟩:=hx; simp[Op.equalIn,und hu]
 ·simp only[VR] at hx hy; subst hx h; obtain⟨_,rfl,_⟩:=hy; simp[Op.equalIn,und hu]
 ·simp only[VR] at hx hy; subst hy h; obtain⟨_,rfl,_⟩:=hx; simp[Op.equalIn,und hu]
theorem A2f{rec:TypeId->AV->AV->Option Bool}{d:Nat}(hrec:∀ t x y r x' y',rec t x y=some r->VR Z x x'->VR Z y y'->(Op.equalIn d t x' y').run P w=.ok r w){xs ys:List AV}{xs' ys':Array Value}(hx:VRL Z xs xs'.toList)(hy:VRL Z ys ys'.toList) :
  ∀ (fs:List Field) (r:Bool),A2t P rec xs ys fs=some r->(Op.eqFields d xs' ys' fs).run P w=.ok r w
 | [],r,h=>by simp only[A2t,sI] at h; subst h; rfl
 | f::fs,r,h=>by
  simp only[A2t] at h
  split at h
  ·rename_i hn
   simp only[Op.eqFields,hn,ne_eq,not_true,if_false]
   exact A2f hrec hx hy fs r h
  ·rename_i hn
   split at h
   ·rename_i a b ha hb
    obtain⟨a',p1,p2⟩:=A0r (P:=P) (w:=w) ha hx
    obtain⟨b',q1,q2⟩:=A0r (P:=P) (w:=w) hb hy
    simp only[Op.eqFields,hn,ne_eq,not_false_eq_true,if_true,Sem.run_bind,p1,q1,rK]
    split at h
    ·rename_i hr
     rw[hrec _ _ _ _ _ _ hr p2 q2]
     simpa using A2f hrec hx hy fs r h
    ·rename_i hr
     cases h
     rw[hrec _ _ _ _ _ _ hr p2 q2]
     simp
    ·simp at h
   ·simp at h
theorem B3c:∀ (d:Nat) (t:TypeId) (x y:AV) (r:Bool) (x' y':Value),aeq P d t x y=some r->VR Z x x'->VR Z y y'->∀ D,d<=D->(Op.equalIn D t x' y').run P w=.ok r w
 | 0,_,_,_,_,_,_,h,_,_,_,_=>by simp[aeq] at h
 | d+1,t,x,y,r,x',y',h,hx,hy,D,hD=>by
  obtain⟨D,rfl⟩:∃ D',D=D'+1:=⟨D-1,by omega⟩
  simp only[aeq] at h
  split at h
  ·rename_i fs xs ys hu
   simp only[VR] at hx hy
   obtain⟨xs',rfl,hx⟩:=hx
   obtain⟨ys',rfl,hy⟩:=hy
   split at h
   ·simp at h
   ·rename_i hst
    have hf:P.fieldsOf t=fs:=by simp[Program.fieldsOf,hu]
    rw[run_equalIn_struct w D t xs' ys' (by rw[hf]; exact hu) (by simpa using hst),hf]
    exact A2f (fun t x y r x' y' h1 h2 h3=>B3c d t x y r x' y' h1 h2 h3 D (by omega)) hx hy _ _ h
  ·rename_i e b o b' o' hu
   split at h
   ·rename_i hbb
    subst hbb
    split at h
    ·rename_i n hn
     cases h
     simp only[VR] at hx hy
     obtain⟨l,hl,rfl⟩:=hx
     obtain⟨l',hl',rfl⟩:=hy
     rw[hl] at hl'; cases hl'
     simp only[Op.equalIn,Sem.run_bind,und hu,rK,A2e hn,Sem.run_ite]
     rw[if_pos (by omega)]
     simp only[sameAddr,beq_self_eq_true,if_true,Sem.run_pure]
     congr 1
     rw[Bool.eq_iff_iff]
     simp
    ·cases h
   ·cases h
  ·rename_i ds _ _ hu _ _
   exact B7i h hu hx hy D
  ·simp at h
theorem Y9{op:BinOp}{t:TypeId}{x y:Operand}{a b:Value}(h:¬ (a=.nilIface/\b=.nilIface))(h':∀ p q,¬ (a=.agg p/\b=.agg q)) :
  (eqGuard op t x y a b).run P w=.ok () w:=by
 cases op<;>first | rfl | skip
 all_goals (cases a<;>cases b<;>first | rfl | exact(h ⟨rfl,rfl⟩).elim | exact(h' _ _ ⟨rfl,rfl⟩).elim)
theorem C2r{op:BinOp}{t:TypeId}{x y:Operand}{a b:Array Value}(h:P.eqGuardType P.depth t=false) :
  (eqGuard op t x y (.agg a) (.agg b)).run P w=.ok () w:=by
 cases op<;>first | rfl | simp[eqGuard,h]
theorem D1o{op:BinOp}{t:TypeId}{x y:Operand}(h:isConst x=true \/ isConst y=true) :
  (eqGuard op t x y .nilIface .nilIface).run P w=.ok () w:=by
 cases op<;>first | rfl | skip
 all_goals (cases x<;>cases y<;>first | rfl | (simp[isConst] at h))
theorem binOp_eql{t:TypeId}{x y:Value}(h1:∀ k a k' b,¬ (x=.int k a/\y=.int k' b))(h2:∀ a b,¬ (x=.string a/\y=.string b))(h3:∀ k a k' b,¬ (x=.float k a/\y=.float k' b))(h4:∀ k a b k' c d,¬ (x=.complex k a b/\y=.complex k' c d)) :
  binOp .eql t x y=(do pure (.bool (<- Op.equal t x y))):=by
 unfold binOp
 cases x<;>cases y<;>first | rfl | exact(h1 _ _ _ _ ⟨rfl,rfl⟩).elim | exact(h2 _ _ ⟨rfl,rfl⟩).elim | exact(h3 _ _ _ _ ⟨rfl,rfl⟩).elim | exact(h4 _ _ _ _ _ _ ⟨rfl,rfl⟩).elim
theorem binOp_neq{t:TypeId}{x y:Value}(h1:∀ k a k' b,¬ (x=.int k a/\y=.int k' b))(h2:∀ a b,¬ (x=.string a/\y=.string b))(h3:∀ k a k' b,¬ (x=.float k a/\y=.float k' b))(h4:∀ k a b k' c d,¬ (x=.complex k a b/\y=.complex k' c d)) :
  binOp .neq t x y=(do pure (.bool (!(<- Op.equal t x y)))):=by
 unfold binOp
 cases x<;>cases y<;>first | rfl | exact(h1 _ _ _ _ ⟨rfl,rfl⟩).elim | exact(h2 _ _ ⟨rfl,rfl⟩).elim | exact(h3 _ _ _ _ ⟨rfl,rfl⟩).elim | exact(h4 _ _ _ _ _ _ ⟨rfl,rfl⟩).elim
theorem A8p{a:AV}{v:Value}(h:VR Z a v)(hb:a≠.bad):(∀ k n,v=.int k n->Q9 a=some (k,n))/\(∀ s,v=.string s->sstr? a=some s.data.toList) /\
  (∀ k n,v≠.float k n)/\(∀ k m n,v≠.complex k m n)/\(v=.nilIface->a=.nilIface)/\(∀ p,v=.agg p->∃ q,a=.agg q):=by
 cases a with
 | bad=>exact(hb rfl).elim
 | ptr x=>cases x with
  | none=>simp only[VR] at h; subst h; simp
  | some p=>simp only[VR] at h; obtain⟨l,_,rfl⟩:=h; simp
 | slice x n m=>cases x with
  | none=>simp only[VR] at h; obtain⟨_,_,rfl⟩:=h; simp
  | some p=>simp only[VR] at h; obtain⟨l,_,_,_,_,_,_,_,_,rfl⟩:=h; simp
 | map x=>cases x with
  | none=>simp only[VR] at h; subst h; simp
  | some p=>simp only[VR] at h; obtain⟨l,_,rfl⟩:=h; simp
 | str s=>simp only[VR] at h; obtain⟨b,h1,rfl⟩:=h; simp[h1,sstr?]
 | sstr s=>simp only[VR] at h; obtain⟨b,h1,rfl⟩:=h; simp[h1,sstr?]
 | lstr s lo hi=>simp only[VR] at h; obtain⟨⟨b,h1,rfl⟩,_⟩:=h; simp[h1,sstr?]
 | sslice b s n=>simp only[VR] at h; rcases h with⟨_,_,_,_,_,_,rfl⟩ | ⟨_,rfl⟩<;>simp
 | aslc b s n=>simp only[VR] at h; obtain⟨_,_,_,_,_,_,_,_,_,rfl⟩:=h; simp
 | sptr b i j=>simp only[VR] at h; obtain⟨_,_,rfl⟩:=h; simp
 | dptr b n=>simp only[VR] at h; rcases h with⟨_,_,_,rfl⟩ | ⟨_,rfl⟩<;>simp
 | flist n row es=>simp only[VR] at h; rcases h.shape with rfl | ⟨_,_,_,rfl⟩<;>simp
 | fptr cs j=>simp only[VR] at h; obtain⟨_,_,_,_,rfl,_⟩:=h; simp
 | rng k n lo hi=>simp only[VR] at h; obtain⟨rfl,h1,h2⟩:=h; simp[Q9]
 | int k n=>simp only[VR] at h; subst h; simp[Q9]
 | sint k n=>simp only[VR] at h; subst h; simp[Q9]
 | func f x y=>simp only[VR] at h; obtain⟨_,_,_,rfl,_⟩:=h; simp
 | iface t x=>simp only[VR] at h; obtain⟨_,rfl,_⟩:=h; simp
 | tuple x=>simp only[VR] at h; obtain⟨_,rfl,_⟩:=h; simp
 | agg x=>simp only[VR] at h; obtain⟨_,rfl,_⟩:=h; simp
 | _=>simp only[VR] at h; subst h; simp
theorem N8{a:AV}{v:Value}{s:List UInt8}(h:sstr? a=some s)(hv:VR Z a v):∃ b:ByteArray,b.data.toList=s/\v=.string b:=sstr?_VR h hv
theorem A5o{a:AV}{v:Value}{b:Bool}(h:sbool? a=some b)(hv:VR Z a v):v=.bool b:=by
 unfold sbool? at h
 split at h
 ·cases h; simpa only[VR] using hv
 ·cases h; simpa only[VR] using hv
 ·cases h
theorem A3z{op:BinOp}{k:IntKind}{a b:Int}{v:AV}(h:C0g op k a b=some v):¬ op=.shl/\¬ op=.shr/\∃ v',A9w op k a b=some v'/\∀ x,VR Z v' x->VR Z v x:=by
 cases op<;>simp only[C0g,reduceCtorEq,sI] at h<;>subst h <;>
  exact⟨by simp,by simp,_,rfl,fun x hx=>by simpa only[VR] using hx⟩
theorem C3n{op:BinOp}{k:IntKind}{a b:Int}{v:AV}(h:F7w op k a b=some v):¬ op=.shl/\¬ op=.shr/\∃ v',A9w op k a b=some v'/\∀ x,VR Z v' x->VR Z v x:=by
 unfold F7w at h
 split at h
 ·cases h
 ·rename_i hb
  cases op<;>simp only[reduceCtorEq,sI] at h<;>subst h
  ·exact⟨by simp,by simp,.int k (k.wrap (a.tdiv b)),by simp only[A9w,hb,if_false],fun x hx=>by simpa only[VR] using hx⟩
  ·exact⟨by simp,by simp,.int k (a.tmod b),by simp only[A9w,hb,if_false],fun x hx=>by simpa only[VR] using hx⟩
theorem D7u{op:BinOp}{a b:List UInt8}{v:AV}(h:F1t op a b=some v):∃ v',E4r op a b=some v'/\∀ x,VR Z v' x->VR Z v x:=by
 cases op<;>simp only[F1t,reduceCtorEq,sI] at h<;>subst h <;>
  exact⟨_,rfl,fun x hx=>by simpa only[VR] using hx⟩
theorem D7r{t:TypeId}{d:TypeDesc}{x y:AV}{x' y':Value}{r:Bool}(h:F1l d x y=some r)(hu:P.underlying t=some d)(hx:VR Z x x')(hy:VR Z y y')(D:Nat) :
  (Op.equalIn (D+1) t x' y').run P w=.ok r w:=by
 unfold F1l at h
 split at h
 ·rename_i h1; cases h; exact B7i h1 hu hx hy D
 ·split at h
  ·split at h
   ·rename_i h1 h2
    cases h
    rw[A5o h1 hx,A5o h2 hy]
    simp only[Op.equalIn,Sem.run_bind,und hu,rK,Sem.run_pure]
   ·cases h
  ·split at h
   ·rename_i h1 h2
    split at h
    ·rename_i hk; subst hk; cases h
     rw[L6 h1 hx,L6 h2 hy]
     simp only[Op.equalIn,Sem.run_bind,und hu,rK,if_true,Sem.run_pure]
    ·cases h
   ·cases h
  ·split at h
   ·rename_i h1 h2
    cases h
    obtain⟨a,rfl,rfl⟩:=N8 h1 hx
    obtain⟨b,rfl,rfl⟩:=N8 h2 hy
    simp only[Op.equalIn,Sem.run_bind,und hu,rK,Sem.run_pure]
    rw[beq_toListBytes,toList_data,toList_data]
   ·cases h
  ·cases h
theorem A2l{rec:TypeId->AV->AV->Option Bool}{d:Nat}(hrec:∀ t x y r x' y',rec t x y=some r->VR Z x x'->VR Z y y'->(Op.equalIn d t x' y').run P w=.ok r w){xs ys:List AV}{xs' ys':Array Value}(hx:VRL Z xs xs'.toList)(hy:VRL Z ys ys'.toList) :
  ∀ (fs:List Field) (r:Bool),A2w P rec xs ys fs=some r->(Op.eqFields d xs' ys' fs).run P w=.ok r w
 | [],r,h=>by simp only[A2w,sI] at h; subst h; rfl
 | f::fs,r,h=>by
  simp only[A2w] at h
  split at h
  ·rename_i hn
   simp only[Op.eqFields,hn,ne_eq,not_true,if_false]
   exact A2l hrec hx hy fs r h
  ·rename_i hn
   split at h
   ·rename_i a b ha hb
    obtain⟨a',p1,p2⟩:=A0r (P:=P) (w:=w) ha hx
    obtain⟨b',q1,q2⟩:=A0r (P:=P) (w:=w) hb hy
    simp only[Op.eqFields,hn,ne_eq,not_false_eq_true,if_true,Sem.run_bind,p1,q1,rK]
    split at h
    ·rename_i a b hr hr2
     rw[hrec _ _ _ _ _ _ hr p2 q2]
     cases h
     cases a
     ·simp
     ·simpa using A2l hrec hx hy fs _ hr2
    ·simp at h
   ·simp at h
theorem B3z:∀ (d:Nat) (t:TypeId) (x y:AV) (r:Bool) (x' y':Value),seq P d t x y=some r->VR Z x x'->VR Z y y'->∀ D,d<=D->(Op.equalIn D t x' y').run P w=.ok r w
 | 0,_,_,_,_,_,_,h,_,_,_,_=>by simp[seq] at h
 | d+1,t,x,y,r,x',y',h,hx,hy,D,hD=>by
  obtain⟨D,rfl⟩:∃ D',D=D'+1:=⟨D-1,by omega⟩
  simp only[seq] at h
  split at h
  ·rename_i fs xs ys hu
   simp only[VR] at hx hy
   obtain⟨xs',rfl,hx⟩:=hx
   obtain⟨ys',rfl,hy⟩:=hy
   split at h
   ·simp at h
   ·rename_i hst
    have hf:P.fieldsOf t=fs:=by simp[Program.fieldsOf,hu]
    rw[run_equalIn_struct w D t xs' ys' (by rw[hf]; exact hu) (by simpa using hst),hf]
    exact A2l (fun t x y r x' y' h1 h2 h3=>B3z d t x y r x' y' h1 h2 h3 D (by omega)) hx hy _ _ h
  ·rename_i ds _ _ hu _
   exact D7r h hu hx hy D
  ·simp at h
theorem G2l{t:TypeId}{ms:Array (String×TypeId)}(hu:P.underlying t=some (.interface ms))(d:Nat):(Op.equalIn (d+1) t .nilIface .nilIface).run P w=.ok true w:=by
 simp only[Op.equalIn,Sem.run_bind,und hu,rK,Sem.run_pure]
theorem C4k{t:TypeId}{x y:Operand}{a b:AV}{a' b':Value}{r:Bool}(h:A5s P t (isConst x) (isConst y) a b=some r)(ha:VR Z a a')(hb:VR Z b b')(hna:a≠.bad)(hnb:b≠.bad)(op:BinOp) :
  (eqGuard op t x y a' b').run P w=.ok () w/\(Op.equal t a' b').run P w=.ok r w:=by
 obtain⟨_,_,_,_,f1,f2⟩:=A8p ha hna
 obtain⟨_,_,_,_,g1,g2⟩:=A8p hb hnb
 unfold A5s at h
 split at h
 ·simp only[VR] at ha hb; subst ha hb
  split at h
  ·rename_i hc
   split at h
   ·rename_i ms hu
    cases h
    exact⟨D1o (by simpa using hc),G2l hu 9999⟩
   ·simp at h
  ·simp at h
 ·rename_i p q
  split at h
  ·simp at h
  ·rename_i hg
   have hq:=B3c (P:=P) (w:=w) _ _ _ _ _ _ _ h ha hb 10000 (by omega)
   simp only[VR] at ha hb
   obtain⟨_,rfl,_⟩:=ha
   obtain⟨_,rfl,_⟩:=hb
   exact⟨C2r (by simpa using hg),hq⟩
 ·rename_i h1 h2
  refine⟨Y9 (fun⟨e1,e2⟩=>h1 (f1 e1) (g1 e2)) (fun p q ⟨e1,e2⟩=>?_),B3c (P:=P) (w:=w) _ _ _ _ _ _ _ h ha hb 10000 (by omega)⟩
  obtain⟨p',e3⟩:=f2 p e1
  obtain⟨q',e4⟩:=g2 q e2
  exact h2 _ _ e3 e4
theorem C9n{d:TypeDesc}{x y:AV}{r:Bool}(h:E1z d x y=some r):x≠.bad/\y≠.bad:=by
 unfold E1z at h
 split at h<;>first | (simp at h; done) | exact⟨fun e=>(by cases e),fun e=>(by cases e)⟩
theorem D4m{t:TypeId}{cx cy:Bool}{x y:AV}{r:Bool}(h:A5s P t cx cy x y=some r):x≠.bad/\y≠.bad:=by
 unfold A5s at h
 split at h
 ·exact⟨fun e=>(by cases e),fun e=>(by cases e)⟩
 ·exact⟨fun e=>(by cases e),fun e=>(by cases e)⟩
 ·simp only[aeq] at h
  split at h
  ·exact⟨fun e=>(by cases e),fun e=>(by cases e)⟩
  ·exact⟨fun e=>(by cases e),fun e=>(by cases e)⟩
  ·exact C9n h
  ·simp at h
theorem F1m{d:TypeDesc}{x y:AV}{r:Bool}(h:F1l d x y=some r):x≠.bad/\y≠.bad:=by
 unfold F1l at h
 split at h
 ·rename_i h1; exact C9n h1
 ·constructor<;>(intro e; subst e; split at h<;>simp[sbool?,Q9,sstr?] at h)
theorem D7s{t:TypeId}{x y:AV}{r:Bool}(h:A6t P t x y=some r):x≠.bad/\y≠.bad:=by
 unfold A6t at h
 split at h
 ·exact⟨fun e=>(by cases e),fun e=>(by cases e)⟩
 ·exact⟨fun e=>(by cases e),fun e=>(by cases e)⟩
 ·simp only[seq] at h
  split at h
  ·exact⟨fun e=>(by cases e),fun e=>(by cases e)⟩
  ·exact F1m h
  ·simp at h
theorem C7r{t:TypeId}{x y:Operand}{a b:AV}{a' b':Value}{r:Bool}(h:A6t P t a b=some r)(ha:VR Z a a')(hb:VR Z b b')(hna:a≠.bad)(hnb:b≠.bad)(op:BinOp) :
  (eqGuard op t x y a' b').run P w=.ok () w/\(Op.equal t a' b').run P w=.ok r w:=by
 obtain⟨_,_,_,_,f1,f2⟩:=A8p ha hna
 obtain⟨_,_,_,_,g1,g2⟩:=A8p hb hnb
 unfold A6t at h
 split at h
 ·cases h
 ·rename_i p q
  split at h
  ·simp at h
  ·rename_i hg
   have hq:=B3z (P:=P) (w:=w) _ _ _ _ _ _ _ h ha hb 10000 (by omega)
   simp only[VR] at ha hb
   obtain⟨_,rfl,_⟩:=ha
   obtain⟨_,rfl,_⟩:=hb
   exact⟨C2r (by simpa using hg),hq⟩
 ·rename_i h1 h2
  refine⟨Y9 (fun⟨e1,e2⟩=>h1 (f1 e1) (g1 e2)) (fun p q ⟨e1,e2⟩=>?_),B3z (P:=P) (w:=w) _ _ _ _ _ _ _ h ha hb 10000 (by omega)⟩
  obtain⟨p',e3⟩:=f2 p e1
  obtain⟨q',e4⟩:=g2 q e2
  exact h2 _ _ e3 e4
theorem B6x{op:BinOp}{t:TypeId}{x y:Operand}{a b v:AV}{a' b':Value}(h:F3g P op t (isConst x) (isConst y) a b=some v)(ha:VR Z a a')(hb:VR Z b b') :
  Pure P w Z (do eqGuard op t x y a' b'; binOp op t a' b') v:=by
 have hsi:∀ {k:IntKind} {m n:Int} {v':AV},a'=.int k m->b'=.int k n->¬ op=.shl->¬ op=.shr->A9w op k m n=some v'->(∀ x,VR Z v' x->VR Z v x) ->
   Pure P w Z (do eqGuard op t x y a' b'; binOp op t a' b') v:=by
  intro k m n v' ea eb s1 s2 s3 s4
  subst ea eb
  have hg:(eqGuard op t x y (.int k m) (.int k n)).run P w=.ok () w:=Y9 (by simp) (by simp)
  obtain⟨r,p,q⟩:=A3e (P:=P) (w:=w) (Z:=Z) ⟨s1,s2⟩ s3 t
  exact⟨r,by simp only[Sem.run_bind,hg,rK,p],s4 _ q⟩
 unfold F3g at h
 split at h
 ·rename_i k m k' n
  simp only[VR] at ha hb; subst ha hb
  have hg:(eqGuard op t x y (.int k m) (.int k' n)).run P w=.ok () w:=Y9 (by simp) (by simp)
  split at h
  ·obtain⟨r,p,q⟩:=A5u (P:=P) (w:=w) (Z:=Z) (k':=k') h t
   exact⟨r,by simp only[Sem.run_bind,hg,rK,p],q⟩
  ·obtain⟨r,p,q⟩:=A5u (P:=P) (w:=w) (Z:=Z) (k':=k') h t
   exact⟨r,by simp only[Sem.run_bind,hg,rK,p],q⟩
  ·rename_i h1 h2
   split at h
   ·rename_i hk; subst hk
    obtain⟨r,p,q⟩:=A3e (P:=P) (w:=w) (Z:=Z) ⟨h1,h2⟩ h t
    exact⟨r,by simp only[Sem.run_bind,hg,rK,p],q⟩
   ·simp at h
 ·rename_i s s'
  simp only[VR] at ha hb
  obtain⟨p,rfl,rfl⟩:=ha
  obtain⟨q,rfl,rfl⟩:=hb
  have hg:(eqGuard op t x y (.string p) (.string q)).run P w=.ok () w:=Y9 (by simp) (by simp)
  obtain⟨r,p,q⟩:=B7s (P:=P) (w:=w) (Z:=Z) h t
  exact⟨r,by simp only[Sem.run_bind,hg,rK,p],q⟩
 ·rename_i k m al ah k' n
  simp only[VR] at ha hb; obtain⟨rfl,p1,p2⟩:=ha; subst hb
  split at h
  ·rename_i hk; subst hk
   have hg:(eqGuard op t x y (.int k m) (.int k n)).run P w=.ok () w:=Y9 (by simp) (by simp)
   split at h
   ·rename_i h6
    cases h
    obtain⟨r,p,q⟩:=A9z (P:=P) (w:=w) (Z:=Z) h6 ⟨p1,p2⟩ ⟨Int.le_refl _,Int.le_refl _⟩ t
    exact⟨r,by simp only[Sem.run_bind,hg,rK,p],q⟩
   ·split at h
    ·rename_i v1 h6
     cases h
     obtain⟨s1,s2,v',s3,s4⟩:=A3z (Z:=Z) h6
     exact hsi rfl rfl s1 s2 s3 s4
    ·obtain⟨s1,s2,v',s3,s4⟩:=C3n (Z:=Z) h
     exact hsi rfl rfl s1 s2 s3 s4
  ·simp at h
 ·rename_i k m k' n bl bh
  simp only[VR] at ha hb; subst ha; obtain⟨rfl,q1,q2⟩:=hb
  split at h
  ·rename_i hk; subst hk
   have hg:(eqGuard op t x y (.int k m) (.int k n)).run P w=.ok () w:=Y9 (by simp) (by simp)
   split at h
   ·rename_i h6
    cases h
    obtain⟨r,p,q⟩:=A9z (P:=P) (w:=w) (Z:=Z) h6 ⟨Int.le_refl _,Int.le_refl _⟩ ⟨q1,q2⟩ t
    exact⟨r,by simp only[Sem.run_bind,hg,rK,p],q⟩
   ·obtain⟨s1,s2,v',s3,s4⟩:=A3z (Z:=Z) h
    exact hsi rfl rfl s1 s2 s3 s4
  ·simp at h
 ·rename_i k m al ah k' n bl bh
  simp only[VR] at ha hb; obtain⟨rfl,p1,p2⟩:=ha; obtain⟨rfl,q1,q2⟩:=hb
  split at h
  ·rename_i hk; subst hk
   have hg:(eqGuard op t x y (.int k m) (.int k n)).run P w=.ok () w:=Y9 (by simp) (by simp)
   split at h
   ·rename_i h6
    cases h
    obtain⟨r,p,q⟩:=A9z (P:=P) (w:=w) (Z:=Z) h6 ⟨p1,p2⟩ ⟨q1,q2⟩ t
    exact⟨r,by simp only[Sem.run_bind,hg,rK,p],q⟩
   ·obtain⟨s1,s2,v',s3,s4⟩:=A3z (Z:=Z) h
    exact hsi rfl rfl s1 s2 s3 s4
  ·simp at h
 ·rename_i h1 h2 h3 h4 h5
  split at h
  ·rename_i k m k' n e1 e2
   split at h
   ·rename_i hk; subst hk
    have ea:=L6 e1 ha
    have eb:=L6 e2 hb
    split at h
    ·rename_i k2 n2
     have hn:n=n2:=by simp only[Q9,sI,pI] at e2; exact e2.2.symm
     subst hn
     split at h
     ·rename_i v1 h6
      cases h
      obtain⟨s1,s2,v',s3,s4⟩:=A3z (Z:=Z) h6
      exact hsi ea eb s1 s2 s3 s4
     ·obtain⟨s1,s2,v',s3,s4⟩:=C3n (Z:=Z) h
      exact hsi ea eb s1 s2 s3 s4
    ·obtain⟨s1,s2,v',s3,s4⟩:=A3z (Z:=Z) h
     exact hsi ea eb s1 s2 s3 s4
   ·cases h
  ·rename_i s s' e1 e2 _
   obtain⟨p,rfl,rfl⟩:=N8 e1 ha
   obtain⟨q,rfl,rfl⟩:=N8 e2 hb
   have hg:(eqGuard op t x y (.string p) (.string q)).run P w=.ok () w:=Y9 (by simp) (by simp)
   obtain⟨v',s3,s4⟩:=D7u (Z:=Z) h
   obtain⟨r,p,q⟩:=B7s (P:=P) (w:=w) (Z:=Z) s3 t
   exact⟨r,by simp only[Sem.run_bind,hg,rK,p],s4 _ q⟩
  ·rename_i hn hst
   have key0:a≠.bad->b≠.bad->binOp .eql t a' b'=(do pure (.bool (<- Op.equal t a' b')))/\binOp .neq t a' b'=(do pure (.bool (!(<- Op.equal t a' b')))):=fun n1 n2=>by
    obtain⟨f1,f2,f3,f4,_,_⟩:=A8p ha n1
    obtain⟨g1,g2,g3,g4,_,_⟩:=A8p hb n2
    have i1:∀ k m k' n,¬ (a'=.int k m/\b'=.int k' n):=by
     rintro k m k' n ⟨e1,e2⟩; exact hn _ _ _ _ (f1 _ _ e1) (g1 _ _ e2)
    have i2:∀ m n,¬ (a'=.string m/\b'=.string n):=by
     rintro m n ⟨e1,e2⟩; exact hst _ _ (f2 _ e1) (g2 _ e2)
    have i3:∀ k m k' n,¬ (a'=.float k m/\b'=.float k' n):=by
     rintro k m k' n ⟨e1,e2⟩; exact f3 _ _ e1
    have i4:∀ k m n k' c d,¬ (a'=.complex k m n/\b'=.complex k' c d):=by
     rintro k m n k' c d ⟨e1,e2⟩; exact f4 _ _ _ e1
    exact⟨binOp_eql i1 i2 i3 i4,binOp_neq i1 i2 i3 i4⟩
   have key:∀ r,(A5s P t (isConst x) (isConst y) a b=some r \/ A6t P t a b=some r)->(eqGuard op t x y a' b').run P w=.ok () w/\(Op.equal t a' b').run P w=.ok r w /\
     binOp .eql t a' b'=(do pure (.bool (<- Op.equal t a' b')))/\binOp .neq t a' b'=(do pure (.bool (!(<- Op.equal t a' b')))):=fun r hr=>by
    rcases hr with hr | hr
    ·obtain⟨n1,n2⟩:=D4m hr
     obtain⟨q1,q2⟩:=C4k (P:=P) (w:=w) hr ha hb n1 n2 op
     exact⟨q1,q2,key0 n1 n2⟩
    ·obtain⟨n1,n2⟩:=D7s hr
     obtain⟨q1,q2⟩:=C7r (P:=P) (w:=w) (x:=x) (y:=y) hr ha hb n1 n2 op
     exact⟨q1,q2,key0 n1 n2⟩
   split at h
   ·have hr:∃ r,(A5s P t (isConst x) (isConst y) a b=some r \/ A6t P t a b=some r)/\(v=.bool r \/ v=.sbool r):=by
     split at h
     ·rename_i r hr; cases h; exact⟨r,.inl hr,.inl rfl⟩
     ·simp only[oM] at h
      obtain⟨r,hr,rfl⟩:=h
      exact⟨r,.inr hr,.inr rfl⟩
    obtain⟨r,hr,hv⟩:=hr
    obtain⟨q1,q2,q3,_⟩:=key r hr
    exact⟨.bool r,by simp only[Sem.run_bind,q1,rK,q3,q2,Sem.run_pure],by rcases hv with rfl | rfl<;>simp only[VR]⟩
   ·have hr:∃ r,(A5s P t (isConst x) (isConst y) a b=some r \/ A6t P t a b=some r)/\(v=.bool (!r) \/ v=.sbool (!r)):=by
     split at h
     ·rename_i r hr; cases h; exact⟨r,.inl hr,.inl rfl⟩
     ·simp only[oM] at h
      obtain⟨r,hr,rfl⟩:=h
      exact⟨r,.inr hr,.inr rfl⟩
    obtain⟨r,hr,hv⟩:=hr
    obtain⟨q1,q2,_,q4⟩:=key r hr
    exact⟨.bool (!r),by simp only[Sem.run_bind,q1,rK,q4,q2,Sem.run_pure],by rcases hv with rfl | rfl<;>simp only[VR]⟩
   ·simp at h
theorem A9x:∀ {l:List AV} {xs:List Value} {a v:AV} {x:Value},E2g a l=some v->VR Z a x->VRL Z l xs->∃ y,(xs.foldlM Builtin.max2 x).run P w=.ok y w/\VR Z v y
 | [],xs,a,v,x,h,ha,hl=>by
  simp only[E2g,sI] at h; subst h; simp only[VRL] at hl; subst hl; exact⟨x,rfl,ha⟩
 | b::l,xs,a,v,x,h,ha,hl=>by
  simp only[VRL] at hl
  obtain⟨y,ys,rfl,h1,h2⟩:=hl
  unfold E2g at h
  split at h
  ·rename_i e; cases e
  ·rename_i k m k' n l' e
   cases e
   simp only[VR] at ha h1; subst ha h1
   obtain⟨z,p,q⟩:=A9x (x:=.int k (if n>m then n else m)) h (by simp only[VR]) h2
   exact⟨z,by simp only[List.foldlM_cons,Sem.run_bind,Builtin.max2,Sem.run_pure,rK,p],q⟩
  ·rename_i b' l' _ e
   cases e
   split at h
   ·rename_i k m k' n e1 e2
    rw[L6 e1 ha,L6 e2 h1]
    obtain⟨z,p,q⟩:=A9x (x:=.int k (if n>m then n else m)) h (by simp only[VR]) h2
    exact⟨z,by simp only[List.foldlM_cons,Sem.run_bind,Builtin.max2,Sem.run_pure,rK,p],q⟩
   ·cases h
theorem A9y:∀ {l:List AV} {xs:List Value} {a v:AV} {x:Value},E2h a l=some v->VR Z a x->VRL Z l xs->∃ y,(xs.foldlM Builtin.min2 x).run P w=.ok y w/\VR Z v y
 | [],xs,a,v,x,h,ha,hl=>by
  simp only[E2h,sI] at h; subst h; simp only[VRL] at hl; subst hl; exact⟨x,rfl,ha⟩
 | b::l,xs,a,v,x,h,ha,hl=>by
  simp only[VRL] at hl
  obtain⟨y,ys,rfl,h1,h2⟩:=hl
  unfold E2h at h
  split at h
  ·rename_i e; cases e
  ·rename_i k m k' n l' e
   cases e
   simp only[VR] at ha h1; subst ha h1
   obtain⟨z,p,q⟩:=A9y (x:=.int k (if n<m then n else m)) h (by simp only[VR]) h2
   exact⟨z,by simp only[List.foldlM_cons,Sem.run_bind,Builtin.min2,Sem.run_pure,rK,p],q⟩
  ·rename_i b' l' _ e
   cases e
   split at h
   ·rename_i k m k' n e1 e2
    rw[L6 e1 ha,L6 e2 h1]
    obtain⟨z,p,q⟩:=A9y (x:=.int k (if n<m then n else m)) h (by simp only[VR]) h2
    exact⟨z,by simp only[List.foldlM_cons,Sem.run_bind,Builtin.min2,Sem.run_pure,rK,p],q⟩
   ·cases h
theorem A4t{ts:Array TypeId}{ty:TypeId}{a v:AV}{x:Value}(hs:Sim A Z B w.heap)(h:V5 P B ts a=some v)(hx:VR Z a x):Pure P w Z (Builtin.len_ ts ty #[x]) v:=by
 unfold V5 at h
 have ht:∀ d,(ts[0]?).bind P.underlying=some d->∃ t,ts[0]?=some t/\P.underlying t=some d:=fun d hd=>by
  simpa[Option.bind_eq_some_iff] using hd
 split at h
 ·rename_i s hd
  obtain⟨t,h1,h2⟩:=ht _ hd
  simp only[VR] at hx; obtain⟨b,rfl,rfl⟩:=hx; cases h
  exact⟨.int .i64 b.size,by simp[Builtin.len_,h1,und h2,goInt],by simp[VR]⟩
 ·rename_i s hd
  obtain⟨t,h1,h2⟩:=ht _ hd
  simp only[VR] at hx; obtain⟨b,rfl,rfl⟩:=hx; cases h
  exact⟨.int .i64 b.size,by simp[Builtin.len_,h1,und h2,goInt],by simp[VR]⟩
 ·rename_i s lo hi hd
  obtain⟨t,h1,h2⟩:=ht _ hd
  simp only[VR] at hx; obtain⟨⟨b,rfl,rfl⟩,h3,h4⟩:=hx; cases h
  refine⟨.int .i64 b.size,by simp[Builtin.len_,h1,und h2,goInt],?_⟩
  simp only[VR]
  exact⟨by simp,by omega,by omega⟩
 ·rename_i e y n m hd
  obtain⟨t,h1,h2⟩:=ht _ hd
  cases h
  refine⟨.int .i64 n,?_,by simp[VR]⟩
  cases y with
  | none=>simp only[VR] at hx; obtain⟨rfl,rfl,rfl⟩:=hx; simp[Builtin.len_,h1,und h2,goInt]
  | some p=>simp only[VR] at hx; obtain⟨l,_,_,_,_,_,_,_,_,rfl⟩:=hx; simp[Builtin.len_,h1,und h2,goInt]
 ·rename_i y n e hd
  obtain⟨t,h1,h2⟩:=ht _ hd
  cases h
  exact⟨.int .i64 n,by simp[Builtin.len_,h1,und h2,goInt],by simp[VR]⟩
 ·rename_i k e hd
  obtain⟨t,h1,h2⟩:=ht _ hd
  simp only[VR] at hx; subst hx; cases h
  exact⟨.int .i64 0,by simp[Builtin.len_,h1,und h2,goInt],by simp[VR]⟩
 ·rename_i k e r hd
  obtain⟨t,h1,h2⟩:=ht _ hd
  simp only[VR] at hx; obtain⟨l,hl,rfl⟩:=hx
  split at h
  ·rename_i es hb
   cases h
   obtain⟨en,ck,q1,q2,q3,_⟩:=hs.obj r _ l hb hl
   have hlen:=q2.length
   refine⟨.int .i64 es.length,?_,by simp[VR]⟩
   have:en.size=es.length:=by simpa using hlen
   simp[Builtin.len_,h1,und h2,goInt,getObj,Sem.run,q1,this]
  ·simp at h
 ·simp at h
end
end Go.Ad
