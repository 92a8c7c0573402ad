/- Drawings: what a feature needs: names are visited. -/
import Derived.Test.YtoboneiigikidaaGreatDoorNf
import Derived.Test.YtoboneiigikidaaGreatDoorAdFind
import Derived.Test.YtoboneiigikidaaGreatDoorShelf
import Derived.Test.YtoboneiigikidaaGreatDoorAdMapR
noncomputable section
namespace Go.Proofs.Tryz
open Go.Ad
def nbO(d:Drw)(s:Txt):List Txt:=V3 (D8 d (D7 d s).toNat) (D8 d (D7 d s).toNat).l.length
def c10:AObj:=.cells [.map (some 9)] 0 true 130
def c11:AObj:=.cells [(.func (.func 94) [] [.ptr (some (8,0)),.ptr (some (10,0)),.ptr (some (11,0))])] 0 true 131
def A94(s:Txt):List AV:=[.sstr s,.ptr (some (8,0)),.ptr (some (10,0)),.ptr (some (11,0))]
def H94(d:Drw)(l:List Txt):Heap:=Bg 8++[C9 d,.smap l,c10,c11]
def C94(k:Nat)(d:Drw)(s:Txt)(l:List Txt):Prop:=GrD d/\s∈H5 d/\left (H5 d) l<k
def E94(k:Nat)(o:AObj)(s:Txt)(l:List Txt)(args:List AV)(B:Heap):Prop:=C94 k (I6 o) s l/\args=A94 s/\B=H94 (I6 o) l
def G94(k:Nat)(args:List AV)(B:Heap):Tr (AV×Heap×List Nat):=match args,B.getD 9 .dead with
 | a::_,.smap l=>(match sstr? a with
  | some s=>.br (E9 (E94 k (B.getD 8 .dead) s l args B)) (.leaf (.tuple [],B.set 9 (.smap (dfs (nbO (I6 (B.getD 8 .dead))) (k-1) l s)),[9])) .fail
  | none=>.fail)
 | _,_=>.fail
def pFo(k:Nat):Prims:=pNh.addh 94 (G94 k)
def D5m:Code:=I7 (J6 0 (f94.body.getD .skip))
def sp94:SP:=⟨dr 2++[.is (.ptr (some (10,0)))]++[.is (.ptr (some (11,0)))]++dr 10++[.flist 1]++[.int .i64]++[.int .i64]++dr 13,dd8++[.any,.any,.cells [.is (.map (some 9))] 0 true 130,.cells [.is (.func (.func 94) [] [.ptr (some (8,0)),.ptr (some (10,0)),.ptr (some (11,0))])] 0 true 131]⟩
def A9u:AEx->SP
 | .exit 0=>⟨dr 30,dd8++[.any,.any,.cells [.is (.map (some 9))] 0 true 130,.cells [.is (.func (.func 94) [] [.ptr (some (8,0)),.ptr (some (10,0)),.ptr (some (11,0))])] 0 true 131]⟩
 | _=>sp94
def D6l(d:Drw)(l M:List Txt)(a n:Int):List Lf:=[.n M.length,.fr (A7 txF M),.i a,.i n,.o (C9 d),.o (.smap l)]
theorem F7m(k:Nat)(d:Drw)(l M:List Txt)(a n:Int):E8 prog (D5 prog (pFo k) 60) ((pFo k).blk 94) D5m (sp94.rho (D6l d l M a n)) (sp94.heap (D6l d l M a n)) (H9 A9u 12 [9]) =
  brK (decide (n<a)) (brK (decide (0<=n/\n<(M.length:Int))) (brK (!decide (M.getD n.toNat default∈l)) (brK (E9 (E94 k (C9 d) (M.getD n.toNat default) (C0d l (M.getD n.toNat default)) (A94 (M.getD n.toNat default)) (H94 d (C0d l (M.getD n.toNat default)))))
   (some (.normal,D6l d (dfs (nbO (I6 (C9 d))) (k-1) (C0d l (M.getD n.toNat default)) (M.getD n.toNat default)) M a (W (n+1)))) none) (some (.normal,D6l d l M a (W (n+1))))) none) (some (.exit 0,[.o (C9 d),.o (.smap l)])):=by kernel_rfl
theorem D9q(nb:Txt->List Txt):∀ (k:Nat) (l:List Txt) (s x:Txt),x∈l->x∈dfs nb k l s
 | 0,l,s,x,h=>by unfold dfs; exact h
 | k+1,l,s,x,h=>by
  unfold dfs
  have key:∀ (t l:List Txt),x∈l->x∈t.foldl (fun l x=>if x∈l then l else dfs nb k (l++[x]) x) l:=by
   intro t
   induction t with
   | nil=>intro l h; exact h
   | cons a t ih =>
    intro l h
    rw[List.foldl_cons]
    refine ih _ ?_
    split
    ·exact h
    ·exact D9q nb k _ a x (List.mem_append_left _ h)
  exact key _ l h
def B4c(nb:Txt->List Txt)(k:Nat)(M l:List Txt)(n:Nat):List Txt:=(M.take n).foldl (fun l x=>if x∈l then l else dfs nb (k-1) (l++[x]) x) l
theorem C3r{nb:Txt->List Txt}{k:Nat}{M l:List Txt}{n:Nat}(h:n<M.length):B4c nb k M l (n+1)=if M.getD n default∈B4c nb k M l n then B4c nb k M l n else dfs nb (k-1) (B4c nb k M l n++[M.getD n default]) (M.getD n default):=by
 unfold B4c
 rw[List.take_succ_eq_append_getElem h,List.foldl_append,gD,gE h]
 rfl
theorem D3q{nb:Txt->List Txt}{k:Nat}{M l:List Txt}{x:Txt}(hx:x∈l):∀ n,n<=M.length->x∈B4c nb k M l n
 | 0,_=>hx
 | n+1,hn=>by
  have:=D3q (nb:=nb) (k:=k) (M:=M) hx n (by omega)
  rw[C3r (by omega)]
  split
  ·exact this
  ·exact D9q nb _ _ _ _ (List.mem_append_left _ this)
theorem F2c{nb:Txt->List Txt}{u:List Txt}{k:Nat}{l:List Txt}{s:Txt}(hn:∀ x,x∈nb s->x∈u)(hl:left u l<=k):B4c nb k (nb s) l (nb s).length=dfs nb k l s:=by
 unfold B4c
 rw[List.take_length]
 cases k with
 | zero =>
  have h0:left u l=0:=by omega
  unfold left at h0
  rw[List.length_eq_zero_iff,List.filter_eq_nil_iff] at h0
  have hin:∀ x,x∈nb s->x∈l:=fun x hx=>by
   have:=h0 x (hn x hx)
   simpa using this
  unfold dfs
  generalize nb s=t at hin
  clear hn
  induction t with
  | nil=>rfl
  | cons a t ih=>rw[List.foldl_cons,if_pos (hin a (by simp))]; exact ih fun x hx=>hin x (List.mem_cons_of_mem _ hx)
 | succ k=>rfl
abbrev β94:=Drw×List Txt×List Txt
def L94(k:Nat)(x:β94)(n:Nat):List Lf:=D6l x.1 (B4c (nbO x.1) k x.2.1 x.2.2 n) x.2.1 x.2.1.length n
def A7f(x:β94):List Lf:=D6l x.1 x.2.2 x.2.1 x.2.1.length 0
def C9c(k:Nat):List Lf->β94->List Lf
 | [_,_,_,_,o,_],x=>[o,.o (.smap (B4c (nbO x.1) k x.2.1 x.2.2 x.2.1.length))]
 | _,_=>[]
def N94(x:β94):Nat:=x.2.1.length
def E3e(k:Nat)(x:β94):Prop:=GrD x.1/\(∀ y,y∈x.2.1->y∈H5 x.1)/\left (H5 x.1) x.2.2<=k/\x.2.1.length<=100000
def B8i:List Lf->β94
 | [.n m,.fr g,_,_,.o o,.o (.smap l)]=>(I6 o,ofR txF m g,l)
 | _=>(default,[],[])
theorem D9n(x:β94):B8i (A7f x)=x:=by simp[B8i,A7f,D6l,D9,I1 U4]
theorem F1o{l:List Txt}{x:Txt}(h:x∉l):C0d l x=l++[x]:=by unfold C0d; rw[if_neg h]
theorem G5q(k:Nat)(x:β94)(hx:E3e k x)(n:Nat)(hn:n<=N94 x):E8 prog (D5 prog (pFo k) 60) ((pFo k).blk 94) D5m (sp94.rho (L94 k x n)) (sp94.heap (L94 k x n)) (H9 A9u 12 [9])=some (if n<N94 x then(.normal,L94 k x (n+1)) else(.exit 0,C9c k (A7f x) x)):=by
 obtain⟨d,M,l⟩:=x
 obtain⟨h1,h2,h3,h4⟩:=hx
 dsimp only at h1 h2 h3 h4
 have hn2:n<=M.length:=hn
 simp only[L94]
 rw[F7m,I5 hn (show N94 (d,M,l)<2^62 by show M.length<2^62; omega)]
 simp only[tN,D9]
 by_cases h:n<N94 (d,M,l)
 ·rw[if_pos h]
  simp only[N94] at h
  rw[C3r h]
  refine A8 (dT (by omega)) (A8 (dT (by omega)) ?_)
  by_cases hm:M.getD n default∈B4c (nbO d) k M l n
  ·rw[if_pos hm]
   exact C8 (by rw[dT hm]; rfl) rfl
  ·rw[if_neg hm,F1o hm]
   refine A8 (by rw[dF hm]; rfl) (A8 (A9 ?_) rfl)
   have hu:=h2 _ (B3n h)
   have:=D2e hu hm
   have h5:left (H5 d) (B4c (nbO d) k M l n)<=left (H5 d) l:=B3s fun y hy=>D3q hy n hn2
   refine⟨⟨?_,?_,?_⟩,rfl,?_⟩
   ·rw[D9]; exact h1
   ·rw[D9]; exact hu
   ·rw[D9]; omega
   ·rw[D9]
 ·rw[if_neg h]
  have e:n=N94 (d,M,l):=Nat.le_antisymm hn (Nat.le_of_not_lt h)
  subst e
  exact C8 (dF (by unfold N94; dsimp only; omega)) rfl
theorem G6i(k:Nat){A:Amb}(x:β94)(_hx:E3e k x)(Bb:Heap)(hB:Bb.length=12):Wk A Bb ⟨sp94.rho (A7f x),sp94.heap (A7f x),[9]⟩ ⟨sp94.rho (L94 k x 0),sp94.heap (L94 k x 0),[9]⟩:=by
 have _:=hB
 exact Wk.refl
def G7d(k:Nat):Blk:=hookP sp94 12 [9] (itT (A9u (.exit 0)) 0 (.exit 0) B8i A7f (C9c k) (E3e k))
theorem F5e(k:Nat){A:Amb}{q:Prims}(h0:PrimOK prog A (pFo k))(hq:PrimOK prog A q):PrimOK prog A (q.addb 94 0 (G7d k)) :=
 SEB.iterK (id:=0) (ds:=[9]) (dec:=B8i) (sp0:=sp94) (sp:=sp94) (sq:=A9u) (m:=12) (ee:=.exit 0) (L0:=A7f) (L:=L94 k) (Le:=C9c k) (N:=N94) (Inv:=E3e k) (k:=60) F7 F9 h0 hq func94 (show f94.body=some (f94.body.getD .skip) by kernel_rfl) (body:=D5m) (by kernel_rfl)
  rfl rfl rfl rfl (by simp) (fun _=>⟨.inr rfl,.inr rfl,.inr rfl,.inr rfl,.inr rfl,.inr rfl,.inr rfl,.inr rfl,.inr rfl,.inl rfl,.inr rfl,.inr rfl,trivial⟩) (G6i k) (G5q k)
def E3n(k:Nat):Prims:=(pFo k).addb 94 0 (G7d k)
abbrev F94(d:Drw)(s:Txt):Fea:=d.l.getD (D7 (drE d) s).toNat default
abbrev M94(d:Drw)(s:Txt):List Txt:=V3 (feE (F94 d s)) (ofR Frm.fv (F94 d s).l.length (A7 Frm.fv (F94 d s).l)).length
theorem H0e(k:Nat)(d:Drw)(l:List Txt)(s:Txt):E8 prog (D5 prog (E3n k) 60) ((E3n k).blk 94) (f94.body.getD .skip) (A94 s++List.replicate 26 H7) (H94 d l) (H9 (fun _=>A9u (.exit 0)) 12 [9]) =
  brK (oD d) (brK (decide ((ofR Fea.fv d.l.length (A7 Fea.fv d.l)).length<4611686018427387904)) (brK (decide (0<=D7 (drE d) s/\D7 (drE d) s<(d.l.length:Int))) (brK (E9 (okR Frm.fv (F94 d s).l.length (A7 Frm.fv (F94 d s).l))) (brK (E9 (SmlF (feE (F94 d s))))
   (brK (itC A7f B8i (E3e k) (A7f (d,M94 d s,l))) (some (.normal,C9c k (A7f (d,M94 d s,l)) (B8i (A7f (d,M94 d s,l))))) none) none) none) none) none) none:=by kernel_rfl
theorem G1e(d:Drw)(s:Txt):M94 d s=nbO d s:=by
 unfold M94 F94 nbO
 rw[P8,A3o,I1 Frm.inj]
theorem F5m{d:Drw}(h:GrD d){s:Txt}(hs:s∈H5 d):(nbO d s).length<=10000:=by
 have hi:=X0 d s
 have h0:=G7e.2 hs
 have h1:=h.sml (D7 d s).toNat (by omega)
 have h2:=A8e h1 _ (lR _)
 have h3:=h1.l
 unfold nbO
 omega
theorem B2o(x:Fea)(y:Txt):∀ n,n<=x.l.length->(y∈K9 x n↔y∈V3 x n)
 | 0,_=>by simp[K9,V3]
 | n+1,hn=>by
  rw[A9b (by omega),B3u (by omega),List.mem_append,<- B2o x y n (by omega)]
  have h:=C7l x n (by omega)
  revert h
  generalize K9 x n=o
  unfold A9j
  generalize (F4 x n).l=l
  intro h
  have e:l.foldl (fun o y=>O6 o y.s) o=(l.map (·.s)).foldl O6 o:=by rw[List.foldl_map]
  rw[e,(A2u h).2]
theorem D6r(d:Drw)(s y:Txt):y∈nbR d s↔y∈nbO d s:=B2o _ y _ (lR _)
theorem B3v{d:Drw}(h:GrD d){s:Txt}(hs:s∈H5 d):∀ y,y∈nbO d s->y∈H5 d:=fun y hy=>D6q h hs y ((D6r d s y).2 hy)
theorem H0u{A:Amb}{k:Nat}(hp:PrimOK prog A (pFo k)){d:Drw}{l:List Txt}{s:Txt}(h1:GrD d)(h2:s∈H5 d)(h3:left (H5 d) l<=k) :
  CallT prog A 94 (A94 s) (H94 d l) (.tuple []) ((H94 d l).set 9 (.smap (dfs (nbO d) k l s))) [9]:=by
 have hq:PrimOK prog A (E3n k):=F5e k hp hp
 have hl:=h1.len
 have h0:=G7e.2 h2
 have hi:=X0 d s
 have hb:BlkOK prog A ((E3n k).blk 94) (f94.body.getD .skip):=hq.blk 94 f94 (f94.body.getD .skip) func94 (show f94.body=some (f94.body.getD .skip) by kernel_rfl)
 have hk:=H0e k d l s
 rw[G1e,D9n] at hk
 have hit:itC A7f B8i (E3e k) (A7f (d,nbO d s,l))=true:=P5 (D9n _) ⟨h1,B3v h1 h2,h3,Nat.le_trans (F5m h1 h2) (by omega)⟩
 have hsm:=h1.sml (D7 d s).toNat (by omega)
 have hk2:E8 prog (D5 prog (E3n k) 60) ((E3n k).blk 94) (f94.body.getD .skip) (A94 s++List.replicate 26 H7) (H94 d l) (H9 (fun _=>A9u (.exit 0)) 12 [9])=some (.normal,C9c k (A7f (d,nbO d s,l)) (d,nbO d s,l)):=by
  rw[hk]
  simp only[A3r,J8,P8,A3o,I1 Fea.inj]
  exact A8 rfl (A8 (dT (by omega)) (A8 (dT (by omega)) (A8 rfl (A8 (A9 (show SmlF (F94 d s) by unfold F94; rw[P8]; exact hsm)) (A8 hit rfl)))))
 have hs:SEB prog A (H94 d l) (f94.body.getD .skip) ⟨A94 s++List.replicate 26 H7,H94 d l,[]⟩ .normal ⟨(A9u (.exit 0)).rho (C9c k (A7f (d,nbO d s,l)) (d,nbO d s,l)),(A9u (.exit 0)).heap (C9c k (A7f (d,nbO d s,l)) (d,nbO d s,l)),[9]⟩ :=
  SEB.wk_in (Wk.dirty fun _ h=>by cases h) (SEB.of_KP (e:=.normal) (sp:=fun _=>A9u (.exit 0)) (B0:=H94 d l) (ds:=[9]) F7 F9 hq hb rfl hk2 rfl)
 intro Z w xs hs1 hd hg hx
 have:=A4v (fn:=f94) (vs:=[]) func94 (show f94.body=some (f94.body.getD .skip) by kernel_rfl) hs (by simp) (by kernel_rfl) Z w xs hs1 hd hg hx
 have e:(A9u (.exit 0)).heap (C9c k (A7f (d,nbO d s,l)) (d,nbO d s,l))=(H94 d l).set 9 (.smap (B4c (nbO d) k (nbO d s) l (nbO d s).length)):=rfl
 rw[F2c (fun x hx=>B3v h1 h2 x hx) h3] at e
 rw[e] at this
 exact this
theorem E3x{A:Amb}{k:Nat}(h:∀ d l s,GrD d->s∈H5 d->left (H5 d) l<k->CallT prog A 94 (A94 s) (H94 d l) (.tuple []) ((H94 d l).set 9 (.smap (dfs (nbO d) (k-1) l s))) [9]) :
  ∀ args B v B' D,(G94 k args B).get=some (v,B',D)->AFr B B' D/\CallT prog A 94 args B v B' D:=by
 intro args B v B' D hv
 unfold G94 at hv
 split at hv
 ·split at hv
  ·rename_i l _ _ s hs
   obtain⟨hc,hv⟩:=Tr.br1 hv
   obtain⟨hc,he,hB⟩:=H6 hc
   generalize I6 (B.getD 8 .dead)=d at hc he hB hv
   cases hv
   rw[he,hB]
   exact⟨⟨Nat.le_of_eq (by rw[List.length_set]),fun b _ hb=>by rw[gX (fun e=>hb (by rw[<- e]; simp))]⟩,h d l s hc.1 hc.2.1 hc.2.2⟩
  ·cases hv
 ·cases hv
theorem E9f{A:Amb}(hT:Tab A)(hG:gN prog<=A.G):∀ k,PrimOK prog A (pFo k)
 | 0=>PrimOK.put (C7f hT hG) func94 (by kernel_rfl) (E3x fun d l s _ _ h=>(Nat.not_lt_zero _ h).elim)
 | k+1=>PrimOK.put (C7f hT hG) func94 (by kernel_rfl) (E3x fun d l s h1 h2 h3=>H0u (E9f hT hG k) h1 h2 (by omega))
def R3(l:List Txt):List Txt:=l.mergeSort leT
theorem A2x(l:List Txt):(R3 l).length=l.length:=List.length_mergeSort l
def F2f(args:List AV)(B:Heap):Tr (AV×Heap×List Nat):=match args with
 | [.sslice b 0 n]=>(match B.getD b .dead with
  | .vec m r 1 ty=>.br (E9 (n=m/\r=D6 (P6 n r)/\ty=9/\n<4611686018427387904)) (.leaf (.tuple [],B.set b (.vec (R3 (P6 n r)).length (D6 (R3 (P6 n r))) 1 ty),[b])) .fail
  | _=>.fail)
 | _=>.fail
def F2g(args:List AV)(B:Heap):Tr (AV×Heap×List Nat):=match args with
 | [.sslice b 0 n]=>(match B.getD b .dead with
  | .vec m r 1 ty=>.br (E9 (n=m/\r=D6 (P6 n r)/\ty=9/\n<4611686018427387904)) (.leaf (.sslice b 0 (Lib.compact (P6 n r)).length,B.set b (.vec (Lib.compact (P6 n r)).length (D6 (Lib.compact (P6 n r))) 1 ty),[b])) .fail
  | _=>.fail)
 | _=>.fail
theorem G4n:(D5 prog pNh 60).call 141 [.slice none 0 0] (Bg 8) F8=some (.tuple []):=by kernel_rfl
theorem G3c{A:Amb}(hT:Tab A)(hG:gN prog<=A.G)(B:Heap):CallT prog A 141 [.slice none 0 0] B (.tuple []) B []:=by
 have h0:=C7f hT hG
 have:=PrimOK.addD (g:=fun args=>.br (E9 (args=[.slice none 0 0])) (.leaf (.tuple [])) .fail) F7 F9 h0 hG func141 (by kernel_rfl) fun args v hv=>by
  obtain⟨hz,hv⟩:=Tr.br1 hv
  cases hv
  obtain⟨B',hca⟩:=Ca.of_finV G4n
  exact⟨pNh,[.slice none 0 0],.tuple [],B',h0,fun Z xs hx=>by rw[H6 hz] at hx; exact hx,fun _ _ h=>h,rfl,rfl,by rw[gsz]; exact hca⟩
 have h2:=(this.fn 141 _ (by unfold Prims.addt; rfl)).2 [.slice none 0 0] B (.tuple []) B [] (by
  show(Tr.br _ _ _).get=_
  rw[A9 rfl]
  rfl)
 exact h2.2
theorem E1b{n:Nat}{r:Nat->List AV}(h:r=D6 (P6 n r)):AObj.vec n r 1 9=.vec (P6 n r).length (D6 (P6 n r)) 1 9:=by rw[C0i,<- h]
theorem F1p{B:Heap}{b:Nat}{o:AObj}:AFr B (B.set b o) [b]:=⟨Nat.le_of_eq (by rw[List.length_set]),fun c _ hc=>by rw[gX (fun e=>hc (by rw[<- e]; simp))]⟩
theorem getD_some{B:Heap}{b:Nat}{o:AObj}(h:B.getD b .dead=o)(ho:o≠.dead):B[b]?=some o:=by
 rw[gD] at h
 cases hb:B[b]? with
 | none=>rw[hb] at h; exact absurd h.symm ho
 | some x=>rw[hb] at h; rw[<- h]; rfl
theorem D8a{A:Amb}(hT:Tab A)(hG:gN prog<=A.G):∀ args B v B' D,(F2f args B).get=some (v,B',D)->AFr B B' D/\CallT prog A 141 args B v B' D:=by
 intro args B v B' D hv
 unfold F2f at hv
 split at hv
 ·split at hv
  ·rename_i b n _ m r ty hb
   obtain⟨hc,hv2⟩:=Tr.br1 hv
   clear hv
   obtain⟨rfl,hr,rfl,hn⟩:=H6 hc
   cases hv2
   have hb2:=getD_some hb (by simp)
   clear hb
   rw[E1b hr] at hb2
   have hl:=C0i n r
   revert hb2 hl hr
   generalize P6 n r=L
   intro hr hb2 hl
   subst hl
   exact⟨F1p,D7t (L:=L) (ty:=9) (fun blk off cap ss w h1 h2 h3=>Tryz.slices_Sort_string blk off cap ss w h1 h2 h3) (fun _=>G3c hT hG B) hb2 (by simp[roT]) hn⟩
  ·cases hv
 ·cases hv
theorem B4k(L:List Txt):(L≠[]->Lib.compact L≠[])/\(Lib.compact L).length<=L.length:=by
 constructor
 ·intro h h2
  obtain⟨x,hx⟩:∃ x,x∈Lib.compact L:=by
   cases L with
   | nil=>exact absurd rfl h
   | cons a L =>
    refine⟨(a::L).toArray[0]!, ?_⟩
    unfold Lib.compact Lib.compactUpTo
    rw[List.mem_map]
    refine⟨0,?_,rfl⟩
    rw[List.mem_filter]
    exact⟨List.mem_range.2 (by simp),Lib.keeps_lt_one _ 0 (by omega)⟩
  rw[h2] at hx
  cases hx
 ·unfold Lib.compact Lib.compactUpTo
  rw[List.length_map]
  have:=List.length_filter_le (Lib.keeps L.toArray) (List.range L.length)
  rw[List.length_range] at this
  exact this
theorem D8b{A:Amb}:∀ args B v B' D,(F2g args B).get=some (v,B',D)->AFr B B' D/\CallT prog A 142 args B v B' D:=by
 intro args B v B' D hv
 unfold F2g at hv
 split at hv
 ·split at hv
  ·rename_i b n _ m r ty hb
   obtain⟨hc,hv2⟩:=Tr.br1 hv
   clear hv
   obtain⟨rfl,hr,rfl,hn⟩:=H6 hc
   cases hv2
   have hb2:=getD_some hb (by simp)
   clear hb
   rw[E1b hr] at hb2
   have hl:=C0i n r
   revert hb2 hl hr
   generalize P6 n r=L
   intro hr hb2 hl
   subst hl
   exact⟨F1p,C1b (L:=L) (ty:=9) (fun blk off cap zs w h1 h2 h3=>Tryz.slices_Compact_string blk off cap zs w h1 h2 h3) (fun a cap w=>Tryz.slices_Compact_string_empty a cap w) hb2 (by simp[roT]) hn (B4k L).1 (B4k L).2⟩
  ·cases hv
 ·cases hv
def pSo(k:Nat):Prims:=((pFo k).addh 141 F2f).addh 142 F2g
theorem E9o{A:Amb}(hT:Tab A)(hG:gN prog<=A.G)(k:Nat):PrimOK prog A (pSo k) :=
 ((E9f hT hG k).put func141 (by kernel_rfl) (D8a hT hG)).put func142 (by kernel_rfl) D8b
def A0m:Code:=f45.body.getD .skip
def r0:Code:=A9f A0m
def r1:Code:=A9f (A1f A0m)
def r2:Code:=A9f (A1f (A1f A0m))
def r3:Code:=A9f (A1f (A1f (A1f A0m)))
def r4:Code:=A9f (A1f (A1f (A1f (A1f A0m))))
def r5:Code:=A9f (A1f (A1f (A1f (A1f (A1f A0m)))))
def m6:Code:=A9f (A1f (A1f (A1f (A1f (A1f (A1f A0m))))))
def r10:Code:=A1f (A1f (A1f (A1f (A1f (A1f (A1f A0m))))))
theorem C1t:A0m=.seq r0 (.seq r1 (.seq r2 (.seq r3 (.seq r4 (.seq r5 (.seq m6 r10)))))):=by kernel_rfl
def l6:Code:=I7 (J6 0 A0m)
def o6:Array Oper:=E8x (A9f m6)
def o7:Array Oper:=E8x (A9f l6)
def b8:Code:=(J6 1 A0m).getD .skip
def o8:Array Oper:=E8x (A9f b8)
def c9:Code:=A1f b8
theorem G0u:m6=.seq (.region 6 o6 false) (.block 0 (.loop (.seq (.region 7 o7 false) (.seq (.cond (.tmp 17) .skip (.exit 0)) (.block 1 (.seq (.region 8 o8 false) c9)))))):=by kernel_rfl
def s1:SP:=⟨dr 1++[.str,.is (.ptr (some (8,0)))]++dr 23,dd8++[.any]⟩
def s2:SP:=⟨dr 1++[.str,.is (.ptr (some (8,0)))]++dr 2++[.is (.ptr (some (10,0)))]++dr 20,dd8++[.any,.any,.cells [.is (.map (some 9))] 0 true 130]⟩
def s3:SP:=⟨dr 1++[.str,.is (.ptr (some (8,0)))]++dr 2++[.is (.ptr (some (10,0))),.is (.ptr (some (11,0)))]++dr 19,dd8++[.any,.any,.cells [.is (.map (some 9))] 0 true 130,.any]⟩
def s4:SP:=⟨dr 1++[.str]++dr 3++[.is (.ptr (some (10,0))),.is (.ptr (some (11,0)))]++dr 19,dd8++[.any,.any,.cells [.is (.map (some 9))] 0 true 130,.cells [.is (.func (.func 94) [] [.ptr (some (8,0)),.ptr (some (10,0)),.ptr (some (11,0))])] 0 true 131]⟩
def s5:SP:=⟨dr 5++[.is (.ptr (some (10,0)))]++dr 20,dd8++[.any,.any,.cells [.is (.map (some 9))] 0 true 130,.cells [.is (.func (.func 94) [] [.ptr (some (8,0)),.ptr (some (10,0)),.ptr (some (11,0))])] 0 true 131]⟩
def s6:SP:=⟨dr 5++[.is (.ptr (some (10,0)))]++dr 1++[.is (.slice none 0 0)]++dr 18,dd8++[.any,.any,.cells [.is (.map (some 9))] 0 true 130,.cells [.is (.func (.func 94) [] [.ptr (some (8,0)),.ptr (some (10,0)),.ptr (some (11,0))])] 0 true 131]⟩
variable (k:Nat) (d:Drw) (s:Txt) (V v:List Txt) (x:Txt)
abbrev exK(c:Code)(U:List AV)(B:Heap)(live:List Tmp):Option (AEx×List AV×Heap×List Nat):=E8 prog (D5 prog (pSo k) 60) A8f c U B (E8c live)
abbrev exS(c:Code)(U:List AV)(B:Heap)(sp:SP)(m:Nat):Option (AEx×List Lf):=E8 prog (D5 prog (pSo k) 60) A8f c U B (H9 (fun _=>sp) m [])
theorem rn0:exK k r0 ([.agg d.av,.sstr s]++List.replicate 24 H7) (Bg 8) [1,2]=some (.normal,s1.rho [.s s,.o (C9 d)],s1.heap [.s s,.o (C9 d)],[]):=by kernel_rfl
theorem rn1:exK k r1 (s1.rho [.s s,.o (C9 d)]) (s1.heap [.s s,.o (C9 d)]) [1,2,5]=some (.normal,s2.rho [.s s,.o (C9 d),.o (.smap [])],s2.heap [.s s,.o (C9 d),.o (.smap [])],[10]):=by kernel_rfl
theorem rn2:exK k r2 (s2.rho [.s s,.o (C9 d),.o (.smap [])]) (s2.heap [.s s,.o (C9 d),.o (.smap [])]) [1,2,5,6]=some (.normal,s3.rho [.s s,.o (C9 d),.o (.smap []),.o (.cells [.nilFunc] 0 true 131)],s3.heap [.s s,.o (C9 d),.o (.smap []),.o (.cells [.nilFunc] 0 true 131)],[]):=by kernel_rfl
theorem rn3:exK k r3 (s3.rho [.s s,.o (C9 d),.o (.smap []),.o (.cells [.nilFunc] 0 true 131)]) (s3.heap [.s s,.o (C9 d),.o (.smap []),.o (.cells [.nilFunc] 0 true 131)]) [1,5,6]=some (.normal,s4.rho [.s s,.o (C9 d),.o (.smap [])],s4.heap [.s s,.o (C9 d),.o (.smap [])],[11]):=by kernel_rfl
theorem rn4:exK k r4 (s4.rho [.s s,.o (C9 d),.o (.smap [])]) (s4.heap [.s s,.o (C9 d),.o (.smap [])]) [5]=brK (E9 (E94 k (C9 d) s [] (A94 s) (H94 d []))) (some (.normal,s5.rho [.o (C9 d),.o (.smap (dfs (nbO (I6 (C9 d))) (k-1) [] s))],s5.heap [.o (C9 d),.o (.smap (dfs (nbO (I6 (C9 d))) (k-1) [] s))],[9])) none:=by kernel_rfl
theorem rn5:exK k r5 (s5.rho [.o (C9 d),.o (.smap V)]) (s5.heap [.o (C9 d),.o (.smap V)]) [5,7]=some (.normal,s6.rho [.o (C9 d),.o (.smap V)],s6.heap [.o (C9 d),.o (.smap V)],[]):=by kernel_rfl
def sL:SP:=⟨dr 7++[.list 13]++dr 7++[.is (.ptr (some (12,0)))]++dr 10,dd8++[.any,.any,.any,.any,.any,.vec 1 9]⟩
def lfL(d:Drw)(V:List Txt)(m:Nat)(r:Nat->List AV):List Lf:=[.n m,.o (C9 d),.o (.smap V),.o c10,.o c11,.o .miter,.n m,.r r]
abbrev UL:List AV:=sL.rho (lfL d V v.length (D6 v))
abbrev BL:Heap:=sL.heap (lfL d V v.length (D6 v))
abbrev U6:List AV:=s6.rho [.o (C9 d),.o (.smap V)]
abbrev B6:Heap:=s6.heap [.o (C9 d),.o (.smap V)]
theorem q6:M6 prog (run prog (pSo k) 60) o6 (o6.toList.dropLast) (U6 d V) (B6 d V)=some (Q5 (U6 d V) (some 14) (.map (some 9)),B6 d V,[]):=by kernel_rfl
theorem q6s:H9 (fun _=>sL) 13 [] AEx.normal (Q5 (Q5 (U6 d V) (some 14) (.map (some 9))) (some 15) (.ptr (some ((B6 d V).length,0)))) (B6 d V++[.miter]) []=some (.normal,lfL d V 0 fun _=>[]):=by kernel_rfl
abbrev UN(b:AV)(c:Bool):List AV:=Q5 (Q5 (UL d V v) (some 16) b) (some 17) (.bool c)
theorem q7t:M6 prog (run prog (pSo k) 60) o7 (o7.toList.drop 1) (Q5 (UL d V v) (some 16) (.tuple [.bool true,.bad,.bad])) (BL d V v)=some (UN d V v (.tuple [.bool true,.bad,.bad]) true,BL d V v,[]):=by kernel_rfl
theorem q7f:M6 prog (run prog (pSo k) 60) o7 (o7.toList.drop 1) (Q5 (UL d V v) (some 16) (.tuple [.bool false])) (BL d V v)=some (UN d V v (.tuple [.bool false]) false,BL d V v,[]):=by kernel_rfl
abbrev UE:List AV:=Q5 (Q5 (Q5 (UN d V v (.tuple [.bool true,.bad,.bad]) true) (some 18) (.tuple [.sstr x,.bool true])) (some 19) (.sstr x)) (some 8) (.sstr x)
theorem q8:M6 prog (run prog (pSo k) 60) o8 (o8.toList.drop 1) (Q5 (UN d V v (.tuple [.bool true,.bad,.bad]) true) (some 18) (.tuple [.sstr x,.bool true])) (BL d V v)=some (UE d V v x,BL d V v,[]):=by kernel_rfl
theorem q9:exS k c9 (UE d V v x) (BL d V v) sL 13=brK (decide (v.length+1<2147483648/\v.length=v.length)) (some (.normal,lfL d V (v.length+1) (K4 v.length (D6 v) [.sstr x]))) none:=by kernel_rfl
def spR:SP:=⟨dr 4++[.flist 1]++dr 21,dd8⟩
theorem H2q(k:Nat)(d:Drw)(V v:List Txt):E8 prog (D5 prog (pSo k) 60) A8f r10 (UN d V v (.tuple [.bool false]) false) (BL d V v) (D6w (fun _=>[.frz 4]) (fun _=>spR) 8 []) =
  brK (E9 (v.length=v.length/\D6 v=D6 (P6 v.length (D6 v))/\(9:Nat)=9/\v.length<4611686018427387904)) (brK (E9 (v.length=(R3 (P6 v.length (D6 v))).length/\D6 (R3 (P6 v.length (D6 v)))=D6 (P6 v.length (D6 (R3 (P6 v.length (D6 v)))))/\(9:Nat)=9/\v.length<4611686018427387904))
   (fzT .ret (Lib.compact (P6 v.length (D6 (R3 (P6 v.length (D6 v)))))).length (D6 (Lib.compact (P6 v.length (D6 (R3 (P6 v.length (D6 v)))))))) none) none:=by kernel_rfl
theorem G4g{A:Amb}{k:Nat}(hp:PrimOK prog A (pSo k))(d:Drw)(V v:List Txt)(hv:v.length<4611686018427387904)(L:List Txt)(hL:Go.Ad.setF v=L){D:List Nat}(hD:∀ b,b∈D->8<=b) :
  SEB prog A (Bg 8) r10 ⟨UN d V v (.tuple [.bool false]) false,BL d V v,D⟩ .ret ⟨spR.rho [.n L.length,.fr (A2r (D6 L))],spR.heap [.n L.length,.fr (A2r (D6 L))],[]⟩:=by
 have hk:=H2q k d V v
 rw[A1r] at hk
 have e:P6 v.length (D6 (R3 v))=R3 v:=by
  have:=A1r (R3 v)
  rw[A2x] at this
  exact this
 rw[e,A9 ⟨rfl,rfl,rfl,hv⟩,A9 ⟨(A2x v).symm,rfl,rfl,hv⟩,show Lib.compact (R3 v)=Go.Ad.setF v from A6u v,hL] at hk
 unfold fzT at hk
 rw[A9 (A8w L)] at hk
 refine SEB.wk_in (Wk.dset (D2:=[]) fun b hb hlt=>?_) (SEB.of_KG (e:=.ret) (sp:=fun _=>spR) (gs:=fun _=>[.frz 4]) (B0:=Bg 8) (ds:=[]) F7 F9 hp (.none _) rfl hk rfl)
 have:=hD b hb
 have h8:(Bg 8).length=8:=rfl
 omega
theorem B4r(d:Drw)(V:List Txt):(B6 d V++[AObj.miter]).length=13:=rfl
theorem okL:okD 13 [] 0 sL.h=true:=by kernel_rfl
theorem H0k{A:Amb}{k:Nat}(hp:PrimOK prog A (pSo k)){d:Drw}{s:Txt}(h1:GrD d)(h2:s∈H5 d)(h3:d.l.length<k)(hlen:(dfs (nbO d) (k-1) [] s).length<1000000) :
  SEB prog A (Bg 8) A0m ⟨[.agg d.av,.sstr s]++List.replicate 24 H7,Bg 8,[]⟩ .ret ⟨spR.rho [.n (Go.Ad.setF (dfs (nbO d) (k-1) [] s)).length,.fr (A2r (D6 (Go.Ad.setF (dfs (nbO d) (k-1) [] s))))],spR.heap [.n (Go.Ad.setF (dfs (nbO d) (k-1) [] s)).length,.fr (A2r (D6 (Go.Ad.setF (dfs (nbO d) (k-1) [] s))))],[]⟩:=by
 have hc:E94 k (C9 d) s [] (A94 s) (H94 d []):=by
  refine⟨⟨?_,?_,?_⟩,rfl,?_⟩
  ·rw[D9]; exact h1
  ·rw[D9]; exact h2
  ·rw[D9]
   unfold left
   have:=List.length_filter_le (fun x=>decide (x∉([]:List Txt))) (H5 d)
   have h4:(H5 d).length=d.l.length:=by unfold H5; rw[List.length_map]
   omega
  ·rw[D9]
 have hk4:=rn4 k d s
 rw[A9 hc,D9] at hk4
 generalize dfs (nbO d) (k-1) [] s=V at hk4 hlen ⊢
 rw[C1t]
 refine SEB.seq (SEB.of_K F7 F9 hp (.none _) (rn0 k d s)) (SEB.seq (SEB.of_K F7 F9 hp (.none _) (rn1 k d s)) (SEB.seq (SEB.of_K F7 F9 hp (.none _) (rn2 k d s)) (SEB.seq (SEB.of_K F7 F9 hp (.none _) (rn3 k d s)) (SEB.seq (SEB.of_K F7 F9 hp (.none _) hk4) (SEB.seq (SEB.of_K F7 F9 hp (.none _) (rn5 k d V)) ?_)))))
 have hx:=SEBx.rangeSet (A:=A) (B0:=Bg 8) (prims:=pSo k) (n:=60) F7 F9 hp (U0:=U6 d V) (U1:=Q5 (U6 d V) (some 14) (.map (some 9))) (Bs:=B6 d V) (B1:=B6 d V) (D0:=((((([]++[])++[10])++[])++[11])++[9])++[]) (D1:=[]) (mb:=9) (it:=15) (tn:=16) (te:=18) (tok:=17) (mt:=14) (i1:=6) (i2:=7) (i3:=8) (id0:=0) (id1:=1)
  (ops1:=o6) (ops2:=o7) (ops3:=o8) (c4:=c9) (l:=V) (l1:=o6.toList.dropLast) (o1:=G0r (A9f m6)) (ty:=130) (kt:=9) (et:=4) (U:=fun v=>UL d V v) (Bv:=fun v=>BL d V v) (Un:=fun v=>UN d V v (.tuple [.bool true,.bad,.bad]) true) (Ue:=fun v=>UN d V v (.tuple [.bool false]) false)
  (by kernel_rfl) (by kernel_rfl) (by kernel_rfl) (by kernel_rfl) (by kernel_rfl) (q6 k d V) rfl rfl
  ((Wk.of_nrmP (sp:=fun _=>sL) (ds:=[]) (m:=13) (B4r d V) (q6s d V) okL).trans (Wk.rowsQ (A:=A) (B0:=B6 d V++[.miter]) (U:=sL.rho (lfL d V 0 fun _=>[])) (D:=[]) (B:=sL.heap (lfL d V 0 fun _=>[])) (b:=13) (r':=D6 []) (ty:=9) rfl (fun h=>by rw[B4r] at h; omega) (fun i hi=>(Nat.not_lt_zero i hi).elim)))
  (fun _=>rfl) (fun _=>rfl) (o2:=D9z (A9f l6)) (by kernel_rfl) (by kernel_rfl) (by kernel_rfl) (by kernel_rfl) (fun v=>q7t k d V v) (fun v=>q7f k d V v) (fun _=>rfl) (fun _=>rfl) (fun _=>rfl)
  (o3:=D9z (A9f b8)) (by kernel_rfl) (by kernel_rfl) (by kernel_rfl) (by kernel_rfl) (fun v x hv _=>⟨UE d V v x,q8 k d V v x,by
   have hk:=q9 k d V v x
   rw[dT (show v.length+1<2147483648/\v.length=v.length from⟨by omega,rfl⟩)] at hk
   have h:=SEB.of_KP (A:=A) (e:=.normal) (sp:=fun _=>sL) (B0:=B6 d V++[.miter]) (ds:=[]) F7 F9 hp (.none _) (B4r d V) hk okL
   refine SEB.wk_out h ?_
   have w:=Wk.rowsQ (A:=A) (B0:=B6 d V++[.miter]) (U:=sL.rho (lfL d V (v.length+1) (K4 v.length (D6 v) [.sstr x]))) (D:=[]) (B:=sL.heap (lfL d V (v.length+1) (K4 v.length (D6 v) [.sstr x]))) (b:=13) (r':=D6 (v++[x])) (ty:=9) rfl (fun h=>by rw[B4r] at h; omega) (fun i hi=>A1w v x hi)
   have e:(v++[x]).length=v.length+1:=by simp
   unfold UL BL
   rw[e]
   exact w⟩)
 rw[<- G0u] at hx
 refine SEBx.seq hx fun st hQ=>?_
 obtain⟨v,hv1,hv2,rfl⟩:=hQ
 refine G4g hp d V v (by omega) (Go.Ad.setF V) (C0c hv1) fun b hb=>?_
 simp at hb
 have h12:(B6 d V).length=12:=rfl
 omega
theorem C6b{d:Drw}(h:GrD d){s:Txt}(hs:s∈H5 d):(dfs (nbO d) 99 [] s).length<=64:=by
 have hl:(H5 d).length=d.l.length:=by unfold H5; rw[List.length_map]
 have h1:=h.len
 obtain⟨q1,q2⟩:=D9p (nb:=nbO d) (u:=H5 d) (fun x hx y hy=>B3v h hx y hy) (k:=99) hs (by omega)
 have:=A5k (u:=H5 d) q1 fun x hx=>by
  have hr:=(q2 x).1 hx
  clear hx q1 q2
  induction hr with
  | one h2=>exact B3v h hs _ h2
  | more _ h2 ih=>exact B3v h ih _ h2
 omega
theorem B9x{nb nb':Txt->List Txt}(h:∀ s x,x∈nb s↔x∈nb' s):∀ (n:Nat) (o:List Txt),SS o->X7 nb n o=X7 nb' n o
 | 0,_,_=>rfl
 | n+1,o,ho=>by
  obtain⟨p1,p2⟩:=A5m nb o o ho
  obtain⟨q1,q2⟩:=A5m nb' o o ho
  have e:B5o nb o=B5o nb' o:=C4b p1 q1 fun x=>by
   show x∈o.foldl (fun o x=>(nb x).foldl O6 o) o↔x∈o.foldl (fun o x=>(nb' x).foldl O6 o) o
   rw[p2,q2]
   constructor
   ·rintro(h1 | ⟨y,h1,h2⟩)
    ·exact .inl h1
    ·exact .inr ⟨y,h1,(h y x).1 h2⟩
   ·rintro(h1 | ⟨y,h1,h2⟩)
    ·exact .inl h1
    ·exact .inr ⟨y,h1,(h y x).2 h2⟩
  rw[X7,X7,<- e]
  exact B9x h n _ p1
theorem B9k{d:Drw}(h:GrD d){s:Txt}(hs:s∈H5 d):Go.Ad.setF (dfs (nbO d) 99 [] s)=K5 d s:=by
 have hl:(H5 d).length=d.l.length:=by unfold H5; rw[List.length_map]
 have h1:=h.len
 rw[D6t (nb:=nbO d) (u:=H5 d) (fun x hx y hy=>B3v h hx y hy) (k:=99) (n:=d.l.length) hs (by omega) (by omega)]
 have e:Go.Ad.setF (nbO d s)=nbR d s:=B2u (D6p d s) (fun x=>D6r d s x)
 rw[e]
 exact(B9x (fun s x=>D6r d s x) _ _ (D6p d s)).symm
def pNs:Prims:=pNh.addt 45 (M8 A2p VNe)
theorem E9k{A:Amb}(hT:Tab A)(hG:gN prog<=A.G):PrimOK prog A pNs:=by
 have h0:=C7f hT hG
 refine PrimOK.addParB h0 hG A2p VNe func45 (show f45.body=some A0m by kernel_rfl) fun x v hv=>?_
 obtain⟨hz,hv⟩:=Tr.br1 hv
 cases hv
 obtain⟨d,s⟩:=x
 obtain⟨h1,h2⟩:=H6 hz
 dsimp only at h1 h2
 have h3:=h1.len
 have hs:=H0k (k:=100) (E9o hT hG 100) h1 h2 (by omega) (by have:=C6b h1 h2; show(dfs (nbO d) 99 [] s).length<_; omega)
 rw[show(100:Nat)-1=99 from rfl,B9k h1 h2] at hs
 refine⟨.ret,⟨spR.rho [.n (K5 d s).length,.fr (A2r (D6 (K5 d s)))],spR.heap [.n (K5 d s).length,.fr (A2r (D6 (K5 d s)))],[]⟩,[Q4 (K5 d s)],?_,by simp,by kernel_rfl,rfl,rfl,fun Z y hy=>hy⟩
 rw[gsz]
 exact hs
def A8s:Code:=I7 (J6 0 (f41.body.getD .skip))
def sp41a:SP:=⟨dr 1++[.is (.ptr (some (8,0)))]++dr 1++[.list 9]++dr 3++[.flist 9]++[.int .i64]++[.int .i64]++dr 10,dd8++[.any,.vec 1 9]⟩
def B0x:AEx->SP
 | .exit 0=>⟨dr 3++[.list 9]++dr 16,dd8++[.any,.vec 1 9]⟩
 | _=>sp41a
theorem D3f(d:Drw)(T:List Txt)(a n:Int):E8 prog (D5 prog pNs 60) (pNs.blk 41) A8s (sp41a.rho [.n T.length,.n d.l.length,.fr (A7 Fea.fv d.l),.i a,.i n,.o (C9 d),.n T.length,.r (D6 T)]) (sp41a.heap [.n T.length,.n d.l.length,.fr (A7 Fea.fv d.l),.i a,.i n,.o (C9 d),.n T.length,.r (D6 T)]) (H9 B0x 9 [9]) =
  brK (decide (n<a)) (brK (decide (0<=n/\n<(d.l.length:Int))) (brK (E9 (okR Frm.fv (d.l.getD n.toNat default).l.length (A7 Frm.fv (d.l.getD n.toNat default).l))) (brK (E9 (SmlF (feE (d.l.getD n.toNat default)))) (brK (decide (T.length+(V3 (feE (d.l.getD n.toNat default)) (ofR Frm.fv (d.l.getD n.toNat default).l.length (A7 Frm.fv (d.l.getD n.toNat default).l)).length).length<2147483648/\T.length=T.length)) (some (.normal,[.n (T.length+(V3 (feE (d.l.getD n.toNat default)) (ofR Frm.fv (d.l.getD n.toNat default).l.length (A7 Frm.fv (d.l.getD n.toNat default).l)).length).length),.n (d.l.length),.fr (A7 Fea.fv d.l),.i (a),.i (W (n+1)),.o (C9 d),.n (T.length+(V3 (feE (d.l.getD n.toNat default)) (ofR Frm.fv (d.l.getD n.toNat default).l.length (A7 Frm.fv (d.l.getD n.toNat default).l)).length).length),.r (B7y T.length (D6 T) (avR (A7 txF (V3 (feE (d.l.getD n.toNat default)) (ofR Frm.fv (d.l.getD n.toNat default).l.length (A7 Frm.fv (d.l.getD n.toNat default).l)).length))))])) none) none) none) none) (some (.exit 0,[.n (T.length),.o (C9 d),.n (T.length),.r (D6 T)])):=by kernel_rfl
def usO(d:Drw)(n:Nat):List Txt:=(d.l.take n).flatMap fun x=>V3 x x.l.length
theorem C0j{d:Drw}{n:Nat}(h:n<d.l.length):usO d (n+1)=usO d n++V3 (D8 d n) (D8 d n).l.length:=by
 unfold usO D8
 rw[List.take_succ_eq_append_getElem h,List.flatMap_append,gD,gE h]
 simp
theorem C8u{d:Drw}(h:GrD d):∀ n,n<=d.l.length->(usO d n).length<=10000*n
 | 0,_=>by simp[usO]
 | n+1,hn=>by
  rw[C0j (by omega),lA]
  have h2:=C8u h n (by omega)
  have h3:=h.sml n (by omega)
  have h4:=A8e h3 _ (lR _)
  have h5:=h3.l
  omega
theorem E5a(O M:List Txt){i:Nat}:B7y O.length (D6 O) (avR (A7 txF M)) i=D6 (O++M) i:=by
 unfold B7y avR A7 D6 txF
 split
 ·rename_i h
  rw[gD,gD,gL h]
 ·rename_i h
  rw[gD,gD,gR (by omega)]
  rfl
def lf41(d:Drw)(n:Nat)(m:Nat)(r:Nat->List AV):List Lf:=[.n m,.n d.l.length,.fr (A7 Fea.fv d.l),.i d.l.length,.i n,.o (C9 d),.n m,.r r]
def B6d(d:Drw)(n:Nat):List Lf:=lf41 d n (usO d n).length (D6 (usO d n))
def A4f(d:Drw):List Lf:=lf41 d 0 0 (fun _=>[])
def D8t(_:List Lf)(d:Drw):List Lf:=[.n (usO d d.l.length).length,.o (C9 d),.n (usO d d.l.length).length,.r (D6 (usO d d.l.length))]
def B0b:List Lf->Drw
 | [_,_,_,_,_,.o o,_,_]=>I6 o
 | _=>default
theorem D0e(d:Drw):B0b (A4f d)=d:=by simp[B0b,A4f,lf41,D9]
theorem SEB.step41a{A:Amb}(hq:PrimOK prog A pNs)(d:Drw)(hd:GrD d)(n:Nat)(hn:n<d.l.length)(Bb:Heap)(hB:Bb.length=9) :
  SEB prog A Bb A8s ⟨sp41a.rho (B6d d n),sp41a.heap (B6d d n),[9]⟩ .normal ⟨sp41a.rho (B6d d (n+1)),sp41a.heap (B6d d (n+1)),[9]⟩:=by
 have hl:=hd.len
 have hs:SmlF (d.l.getD n default):=hd.sml n hn
 have hlen:=C8u hd n (by omega)
 have h3:=A8e hs _ (lR _)
 have h4:=hs.l
 have hk:=D3f d (usO d n) d.l.length n
 simp only[tN,J8,A3o,I1 Frm.inj] at hk
 rw[dT (show(n:Int)<(d.l.length:Int) by omega),dT (show 0<=(n:Int)/\(n:Int)<(d.l.length:Int) by omega),A9 hs,
  dT (show(usO d n).length+(V3 (d.l.getD n default) (d.l.getD n default).l.length).length<2147483648/\True from⟨by omega,trivial⟩),C4d (show n<2^62 by omega)] at hk
 have hbl:BlkOK prog A (pNs.blk 41) A8s:=(hq.blk 41 f41 (f41.body.getD .skip) func41 (show f41.body=some (f41.body.getD .skip) by kernel_rfl)).sub (id:=0) (by kernel_rfl)
 have h3:=SEB.of_KP (e:=.normal) (sp:=B0x) (B0:=Bb) (ds:=[9]) F7 F9 hq hbl hB hk rfl
 refine SEB.wk_out h3 ?_
 unfold B6d
 rw[C0j hn]
 have w:=Wk.rowsQ (A:=A) (B0:=Bb) (U:=sp41a.rho (lf41 d (n+1) ((usO d n).length+(V3 (d.l.getD n default) (d.l.getD n default).l.length).length) (B7y (usO d n).length (D6 (usO d n)) (avR (A7 txF (V3 (d.l.getD n default) (d.l.getD n default).l.length)))))) (D:=[9]) (B:=sp41a.heap (lf41 d (n+1) ((usO d n).length+(V3 (d.l.getD n default) (d.l.getD n default).l.length).length) (B7y (usO d n).length (D6 (usO d n)) (avR (A7 txF (V3 (d.l.getD n default) (d.l.getD n default).l.length)))))) (b:=9) (r':=D6 (usO d n++V3 (d.l.getD n default) (d.l.getD n default).l.length)) (ty:=9) rfl (fun h=>by omega) (fun i _=>E5a _ _)
 have e:(usO d n++V3 (D8 d n) (D8 d n).l.length).length=(usO d n).length+(V3 (d.l.getD n default) (d.l.getD n default).l.length).length:=by exact lA
 rw[e]
 exact w
theorem SEB.end41a{A:Amb}(hq:PrimOK prog A pNs)(d:Drw)(Bb:Heap)(hB:Bb.length=9) :
  SEB prog A Bb A8s ⟨sp41a.rho (B6d d d.l.length),sp41a.heap (B6d d d.l.length),[9]⟩ (.exit 0) ⟨(B0x (.exit 0)).rho (D8t (A4f d) d),(B0x (.exit 0)).heap (D8t (A4f d) d),[9]⟩:=by
 have hk:=D3f d (usO d d.l.length) d.l.length d.l.length
 rw[dF (show ¬ (d.l.length:Int)<(d.l.length:Int) by omega)] at hk
 have hbl:BlkOK prog A (pNs.blk 41) A8s:=(hq.blk 41 f41 (f41.body.getD .skip) func41 (show f41.body=some (f41.body.getD .skip) by kernel_rfl)).sub (id:=0) (by kernel_rfl)
 exact SEB.of_KP (e:=.exit 0) (sp:=B0x) (B0:=Bb) (ds:=[9]) F7 F9 hq hbl hB hk rfl
theorem G1v{A:Amb}(d:Drw)(Bb:Heap)(hB:Bb.length=9):Wk A Bb ⟨sp41a.rho (A4f d),sp41a.heap (A4f d),[9]⟩ ⟨sp41a.rho (B6d d 0),sp41a.heap (B6d d 0),[9]⟩:=by
 have e:usO d 0=[]:=by simp[usO]
 unfold B6d
 rw[e]
 exact Wk.rowsQ (A:=A) (B0:=Bb) (U:=sp41a.rho (A4f d)) (D:=[9]) (B:=sp41a.heap (A4f d)) (b:=9) (r':=D6 []) (ty:=9) rfl (fun h=>by omega) (fun i hi=>(Nat.not_lt_zero i hi).elim)
def F9t:Blk:=hookP sp41a 9 [9] (itT (B0x (.exit 0)) 0 (.exit 0) B0b A4f D8t GrD)
theorem E6t{A:Amb}{q:Prims}(h0:PrimOK prog A pNs)(hq:PrimOK prog A q):PrimOK prog A (q.addb 41 0 F9t) :=
 SEB.iterR (P:=prog) (sp0:=sp41a) (sp:=sp41a) (sq:=B0x (.exit 0)) (m:=9) (ds:=[9]) (ee:=.exit 0) (dec:=B0b) (L0:=A4f) (L:=B6d) (Le:=D8t) (N:=fun d=>d.l.length) (Inv:=GrD) hq func41 (show f41.body=some (f41.body.getD .skip) by kernel_rfl) (body:=A8s) (by kernel_rfl)
  rfl (by simp) (fun _=>⟨.inr rfl,.inr rfl,.inr rfl,.inr rfl,.inr rfl,.inr rfl,.inr rfl,.inr rfl,.inr rfl,.inl rfl,trivial⟩) (fun d _ Bb hB=>G1v d Bb hB) (fun d hd n hn Bb hB=>SEB.step41a h0 d hd n hn Bb hB) (fun d _ Bb hB=>SEB.end41a h0 d Bb hB)
def pUs0:Prims:=((pNs.addh 141 F2f).addh 142 F2g).addb 41 0 F9t
theorem F6q{A:Amb}(hT:Tab A)(hG:gN prog<=A.G):PrimOK prog A pUs0:=by
 have h0:=E9k hT hG
 exact E6t h0 (PrimOK.put (PrimOK.put h0 func141 (by kernel_rfl) (D8a hT hG)) func142 (by kernel_rfl) D8b)
def spUs:SP:=⟨dr 2++[.flist 1]++dr 17,dd8⟩
def v41(d:Drw):List Txt:=usO (B0b (A4f d)) (B0b (A4f d)).l.length
theorem D5a(d:Drw):E8 prog (D5 prog pUs0 60) (pUs0.blk 41) (f41.body.getD .skip) ([.agg d.av]++List.replicate 19 H7) (Bg 8) (D6w (fun _=>[.frz 2]) (fun _=>spUs) 8 []) =
  brK (itC A4f B0b GrD (A4f d)) (brK (E9 ((v41 d).length=(v41 d).length/\D6 (v41 d)=D6 (P6 (v41 d).length (D6 (v41 d)))/\(9:Nat)=9/\(v41 d).length<4611686018427387904)) (brK (E9 ((v41 d).length=(R3 (P6 (v41 d).length (D6 (v41 d)))).length/\D6 (R3 (P6 (v41 d).length (D6 (v41 d))))=D6 (P6 (v41 d).length (D6 (R3 (P6 (v41 d).length (D6 (v41 d))))))/\(9:Nat)=9/\(v41 d).length<4611686018427387904))
   (fzT .ret (Lib.compact (P6 (v41 d).length (D6 (R3 (P6 (v41 d).length (D6 (v41 d))))))).length (D6 (Lib.compact (P6 (v41 d).length (D6 (R3 (P6 (v41 d).length (D6 (v41 d))))))))) none) none) none:=by kernel_rfl
theorem B1d(d:Drw):∀ n,n<=d.l.length->SS (A5p d n)/\∀ x,x∈A5p d n↔x∈usO d n
 | 0,_=>⟨List.Pairwise.nil,fun x=>by simp[A5p,usO]⟩
 | n+1,hn=>by
  obtain⟨h1,h2⟩:=B1d d n (by omega)
  rw[B4b (by omega),C0j (by omega)]
  obtain⟨q1,q2⟩:=A2u (l:=K9 (D8 d n) (D8 d n).l.length) h1
  refine⟨q1,fun x=>?_⟩
  rw[q2,h2,List.mem_append,B2o (D8 d n) x _ (lR _)]
theorem F8y(d:Drw):Go.Ad.setF (usO d d.l.length)=A4b d :=
 B2u (B1d d _ (lR _)).1 (B1d d _ (lR _)).2
theorem G5u(d:Drw):v41 d=usO d d.l.length:=by unfold v41; rw[D0e]
def pUs:Prims:=pNs.addt 41 (M8 O5 VNg)
theorem E9p{A:Amb}(hT:Tab A)(hG:gN prog<=A.G):PrimOK prog A pUs:=by
 have h0:=E9k hT hG
 have h2:=F6q hT hG
 refine PrimOK.addParB h0 hG O5 VNg func41 (show f41.body=some (f41.body.getD .skip) by kernel_rfl) fun d v hv=>?_
 obtain⟨hz,hv⟩:=Tr.br1 hv
 cases hv
 have hz:=H6 hz
 have hl:=hz.len
 have hb:BlkOK prog A (pUs0.blk 41) (f41.body.getD .skip):=h2.blk 41 f41 (f41.body.getD .skip) func41 (show f41.body=some (f41.body.getD .skip) by kernel_rfl)
 have hk:=D5a d
 have hn:(usO d d.l.length).length<4611686018427387904:=by
  have:=C8u hz _ (lR _)
  omega
 have e0:=F8y d
 rw[P5 (D0e d) hz,G5u] at hk
 generalize usO d d.l.length=v at hk hn e0
 rw[A1r] at hk
 have e:P6 v.length (D6 (R3 v))=R3 v:=by
  have:=A1r (R3 v)
  rw[A2x] at this
  exact this
 rw[e,A9 ⟨rfl,rfl,rfl,hn⟩,A9 ⟨(A2x v).symm,rfl,rfl,hn⟩,show Lib.compact (R3 v)=Go.Ad.setF v from A6u v,e0] at hk
 unfold fzT at hk
 rw[A9 (A8w (A4b d))] at hk
 refine⟨.ret,⟨spUs.rho [.n (A4b d).length,.fr (A2r (D6 (A4b d)))],spUs.heap [.n (A4b d).length,.fr (A2r (D6 (A4b d)))],[]⟩,[Q4 (A4b d)],?_,by simp,by kernel_rfl,rfl,rfl,fun Z y hy=>hy⟩
 rw[gsz]
 exact SEB.of_KG (e:=.ret) (sp:=fun _=>spUs) (gs:=fun _=>[.frz 2]) (B0:=Bg 8) (ds:=[]) F7 F9 h2 hb rfl hk rfl
theorem D2m{d:Drw}{n:Nat}(h:n<d.l.length):(d.l.getD n default).s∈H5 d:=by
 unfold H5
 rw[gD,gE h]
 exact List.mem_map.2 ⟨_,List.getElem_mem h,rfl⟩
theorem B0n{d:Drw}(h:GrD d){s:Txt}(hs:s∈H5 d):(K5 d s).length<=64:=by
 have h1:=C6b h hs
 rw[<- B9k h hs]
 have h2:=V7 (dfs (nbO d) 99 [] s) []
 unfold Go.Ad.setF
 simp only[List.length_nil,Nat.zero_add] at h2
 omega
def ownB(d:Drw)(n:Nat):Bool:=!decide ((d.l.getD n default).s∈K5 d (d.l.getD n default).s)
def D4v:Code:=I7 (J6 0 (f13.body.getD .skip))
def sp13:SP:=⟨dr 1++[.is (.ptr (some (8,0)))]++dr 17++[.flist 9]++[.int .i64]++[.int .i64]++dr 13,dd8++[.any]⟩
def E1e:AEx->SP
 | .ret=>⟨dr 2++[.int .i64]++dr 32,dd8++[.any]⟩
 | .exit 0=>⟨dr 1++[.is (.ptr (some (8,0)))]++dr 33,dd8++[.any]⟩
 | _=>sp13
theorem F6y(d:Drw)(n:Int):E8 prog (D5 prog pUs 60) (pUs.blk 13) D4v (sp13.rho [.n d.l.length,.fr (A7 Fea.fv d.l),.i d.l.length,.i n,.o (C9 d)]) (sp13.heap [.n d.l.length,.fr (A7 Fea.fv d.l),.i d.l.length,.i n,.o (C9 d)]) (H9 E1e 9 []) =
  brK (decide (n<(d.l.length:Int))) (brK (decide (0<=n/\n<(d.l.length:Int))) (brK (oD d) (brK (E9 (GrD (drE d)/\(d.l.getD n.toNat default).s∈H5 (drE d))) (brK (E9 (okR txF (K5 (drE d) (d.l.getD n.toNat default).s).length (A7 txF (K5 (drE d) (d.l.getD n.toNat default).s)))) (brK (decide ((ofR txF (K5 (drE d) (d.l.getD n.toNat default).s).length (A7 txF (K5 (drE d) (d.l.getD n.toNat default).s))).length<4611686018427387904)) (brK (decide ((d.l.getD n.toNat default).s∈ofR txF (K5 (drE d) (d.l.getD n.toNat default).s).length (A7 txF (K5 (drE d) (d.l.getD n.toNat default).s)))) (some (.ret,[.i (16),.o (C9 d)])) (some (.normal,[.n (d.l.length),.fr (A7 Fea.fv d.l),.i ((d.l.length:Int)),.i (W (n+1)),.o (C9 d)]))) none) none) none) none) none) (some (.exit 0,[.o (C9 d)])):=by kernel_rfl
def L13(x:Drw)(n:Nat):List Lf:=[.n x.l.length,.fr (A7 Fea.fv x.l),.i x.l.length,.i n,.o (C9 x)]
def F2h:List Lf->Nat->List Lf
 | [_,_,_,_,o],_=>[.i 16,o]
 | _,_=>[]
def F2o:List Lf->List Lf
 | [_,_,_,_,o]=>[o]
 | _=>[]
def N13(x:Drw):Nat:=x.l.length
def p13(x:Drw)(n:Nat):Bool:=ownB x n
def E7t(x:Drw):Prop:=GrD x
def B8a:List Lf->Drw
 | [_,_,_,_,.o o]=>I6 o
 | _=>default
theorem G5c(x:Drw)(hx:E7t x)(n:Nat)(hn:n<=N13 x):E8 prog (D5 prog pUs 60) (pUs.blk 13) D4v (sp13.rho (L13 x n)) (sp13.heap (L13 x n)) (H9 E1e 9 [])=some (if n<N13 x then(bif p13 x n then(.normal,L13 x (n+1)) else(.ret,F2h (L13 x 0) n)) else(.exit 0,F2o (L13 x 0))):=by
 have h1:GrD x:=hx
 have hl:=h1.len
 simp only[L13,F2h,F2o]
 rw[F6y,I5 hn (show N13 x<2^62 by show x.l.length<2^62; omega)]
 simp only[tN,A3r,J8,P8,I1 U4]
 by_cases h:n<N13 x
 ·rw[if_pos h]
  simp only[N13] at h
  have h2:=D2m h
  have h3:=B0n h1 h2
  refine A8 (dT (by omega)) (A8 (dT (by omega)) (A8 rfl (A8 (A9 ⟨h1,h2⟩) ?_)))
  refine A8 rfl (A8 (dT (by omega)) ?_)
  by_cases c:(x.l.getD n default).s∈K5 x (x.l.getD n default).s
  ·have hp:p13 x n=false:=by unfold p13 ownB; rw[dT c]; rfl
   rw[hp,cond_false]
   exact A8 (dT c) rfl
  ·have hp:p13 x n=true:=by unfold p13 ownB; rw[dF c]; rfl
   rw[hp,cond_true]
   exact C8 (dF c) rfl
 ·rw[if_neg h]
  simp only[N13] at h
  exact C8 (dF (by omega)) rfl
def G6q:Blk:=hookP sp13 9 [] (fdT E1e 0 .ret (.exit 0) B8a L13 F2h F2o N13 p13 E7t)
theorem F4r{A:Amb}{q:Prims}(h0:PrimOK prog A pUs)(hq:PrimOK prog A q):PrimOK prog A (q.addb 13 0 G6q) :=
 SEB.findR (id:=0) (ds:=[]) (dec:=B8a) (sp:=sp13) (sq:=E1e) (m:=9) (eb:=.ret) (ee:=.exit 0) (L:=L13) (Lb:=F2h) (Le:=F2o) (N:=N13) (p:=p13) (Inv:=E7t) (k:=60) F7 F9 h0 hq func13 (show f13.body=some (f13.body.getD .skip) by kernel_rfl) (body:=D4v) (by kernel_rfl)
  rfl rfl rfl rfl (by simp) (by simp) (fun _ _=>⟨⟨.inr rfl,.inr rfl,.inr rfl,.inr rfl,.inr rfl,.inr rfl,.inr rfl,.inr rfl,.inr rfl,trivial⟩,⟨.inr rfl,.inr rfl,.inr rfl,.inr rfl,.inr rfl,.inr rfl,.inr rfl,.inr rfl,.inr rfl,trivial⟩⟩) G5c
def D4w:Code:=I7 (J6 0 (f14.body.getD .skip))
def sp14:SP:=⟨dr 1++[.is (.ptr (some (8,0)))]++dr 4++[.int .i64]++dr 40,dd8++[.any]⟩
def E1f:AEx->SP
 | .ret=>⟨dr 2++[.int .i64]++dr 44,dd8++[.any]⟩
 | .exit 0=>⟨dr 1++[.is (.ptr (some (8,0)))]++dr 45,dd8++[.any]⟩
 | _=>sp14
theorem F6z(d:Drw)(n:Int):E8 prog (D5 prog pUs 60) (pUs.blk 14) D4w (sp14.rho [.i n,.o (C9 d)]) (sp14.heap [.i n,.o (C9 d)]) (H9 E1f 9 []) =
  brK (decide (n<(d.l.length:Int))) (brK (decide (0<=n/\n<(d.l.length:Int))) (brK (oD d) (brK (E9 (GrD (drE d)/\(d.l.getD n.toNat default).s∈H5 (drE d))) (brK (decide (0<=n/\n<(d.l.length:Int))) (brK (E9 (okR txF (K5 (drE d) (d.l.getD n.toNat default).s).length (A7 txF (K5 (drE d) (d.l.getD n.toNat default).s)))) (brK (decide ((ofR txF (K5 (drE d) (d.l.getD n.toNat default).s).length (A7 txF (K5 (drE d) (d.l.getD n.toNat default).s))).length<4611686018427387904)) (brK (decide ((d.l.getD n.toNat default).s∈ofR txF (K5 (drE d) (d.l.getD n.toNat default).s).length (A7 txF (K5 (drE d) (d.l.getD n.toNat default).s)))) (some (.ret,[.i (16),.o (C9 d)])) (some (.normal,[.i (W (n+1)),.o (C9 d)]))) none) none) none) none) none) none) (some (.exit 0,[.o (C9 d)])):=by kernel_rfl
def L14(x:Drw)(n:Nat):List Lf:=[.i n,.o (C9 x)]
def F2i:List Lf->Nat->List Lf
 | [_,o],_=>[.i 16,o]
 | _,_=>[]
def F2p:List Lf->List Lf
 | [_,o]=>[o]
 | _=>[]
def N14(x:Drw):Nat:=x.l.length
def p14(x:Drw)(n:Nat):Bool:=ownB x n
def E7u(x:Drw):Prop:=GrD x
def B8b:List Lf->Drw
 | [_,.o o]=>I6 o
 | _=>default
theorem G5d(x:Drw)(hx:E7u x)(n:Nat)(hn:n<=N14 x):E8 prog (D5 prog pUs 60) (pUs.blk 14) D4w (sp14.rho (L14 x n)) (sp14.heap (L14 x n)) (H9 E1f 9 [])=some (if n<N14 x then(bif p14 x n then(.normal,L14 x (n+1)) else(.ret,F2i (L14 x 0) n)) else(.exit 0,F2p (L14 x 0))):=by
 have h1:GrD x:=hx
 have hl:=h1.len
 simp only[L14,F2i,F2p]
 rw[F6z,I5 hn (show N14 x<2^62 by show x.l.length<2^62; omega)]
 simp only[tN,A3r,J8,P8,I1 U4]
 by_cases h:n<N14 x
 ·rw[if_pos h]
  simp only[N14] at h
  have h2:=D2m h
  have h3:=B0n h1 h2
  refine A8 (dT (by omega)) (A8 (dT (by omega)) (A8 rfl (A8 (A9 ⟨h1,h2⟩) ?_)))
  refine A8 (dT (by omega)) ?_
  refine A8 rfl (A8 (dT (by omega)) ?_)
  by_cases c:(x.l.getD n default).s∈K5 x (x.l.getD n default).s
  ·have hp:p14 x n=false:=by unfold p14 ownB; rw[dT c]; rfl
   rw[hp,cond_false]
   exact A8 (dT c) rfl
  ·have hp:p14 x n=true:=by unfold p14 ownB; rw[dF c]; rfl
   rw[hp,cond_true]
   exact C8 (dF c) rfl
 ·rw[if_neg h]
  simp only[N14] at h
  exact C8 (dF (by omega)) rfl
def G6r:Blk:=hookP sp14 9 [] (fdT E1f 0 .ret (.exit 0) B8b L14 F2i F2p N14 p14 E7u)
theorem F4s{A:Amb}{q:Prims}(h0:PrimOK prog A pUs)(hq:PrimOK prog A q):PrimOK prog A (q.addb 14 0 G6r) :=
 SEB.findR (id:=0) (ds:=[]) (dec:=B8b) (sp:=sp14) (sq:=E1f) (m:=9) (eb:=.ret) (ee:=.exit 0) (L:=L14) (Lb:=F2i) (Le:=F2p) (N:=N14) (p:=p14) (Inv:=E7u) (k:=60) F7 F9 h0 hq func14 (show f14.body=some (f14.body.getD .skip) by kernel_rfl) (body:=D4w) (by kernel_rfl)
  rfl rfl rfl rfl (by simp) (by simp) (fun _ _=>⟨⟨.inr rfl,.inr rfl,.inr rfl,.inr rfl,.inr rfl,.inr rfl,.inr rfl,.inr rfl,.inr rfl,trivial⟩,⟨.inr rfl,.inr rfl,.inr rfl,.inr rfl,.inr rfl,.inr rfl,.inr rfl,.inr rfl,.inr rfl,trivial⟩⟩) G5d
theorem C9z(d:Drw)(a b c e:Lf):B8a [a,b,c,e,Lf.o (C9 d)]=d:=by simp[B8a,D9]
theorem D0a(d:Drw)(a:Lf):B8b [a,Lf.o (C9 d)]=d:=by simp[B8b,D9]
def E9b:Prims:=(pUs.addb 13 0 G6q).addb 14 0 G6r
theorem E0q{A:Amb}(hT:Tab A)(hG:gN prog<=A.G):PrimOK prog A E9b:=by
 have h0:=E9p hT hG
 exact F4s h0 (F4r h0 h0)
def B3w(d:Drw):Bool:=fdE p13 N13 d
theorem E8p(d:Drw):fdE p14 N14 d=B3w d:=rfl
theorem E8o(d:Drw):fdE p13 N13 d=B3w d:=rfl
def J4(d:Drw):Int:=if G7 d.s≠0 then G7 d.s else if A1i d≠0 then A1i d else if B3w d=false then 16 else B2c d
theorem G8w(d:Drw):(D5 prog E9b 60).call 13 [.agg d.av] (Bg 8) F8 =
  brK (I9 d.s) (brK (G7 d.s != 0) (some (.sint IntKind.i64 (G7 d.s))) (brK (oD d) (brK (E9 (OkD (drE d))) (brK (A1i (drE d) != 0) (some (.sint IntKind.i64 (A1i (drE d)))) (brK (fdC L13 B8a E7t [.n (d.l.length),.fr (A7 Fea.fv d.l),.i ((d.l.length:Int)),.i (0),.o (C9 d)]) (brK (fdE p13 N13 (B8a [.n (d.l.length),.fr (A7 Fea.fv d.l),.i ((d.l.length:Int)),.i (0),.o (C9 d)])) (brK (oD d) (brK (E9 (RightD (drE d))) (some (.sint IntKind.i64 (B2c (drE d)))) none) none) (some (.sint IntKind.i64 (16)))) none)) none) none)) none:=by kernel_rfl
theorem G8x(d:Drw):(D5 prog E9b 60).call 14 [.agg d.av] (Bg 8) F8 =
  brK (I9 d.s) (brK (G7 d.s != 0) (some (.sint IntKind.i64 (G7 d.s))) (brK (oD d) (brK (E9 (OkD (drE d))) (brK (A2n (drE d) != 0) (some (.sint IntKind.i64 (A2n (drE d)))) (brK (oD d) (brK (E9 (OkD (drE d))) (brK (A0y (drE d) != 0) (some (.sint IntKind.i64 (A0y (drE d)))) (brK (fdC L14 B8b E7u [.i (0),.o (C9 d)]) (brK (fdE p14 N14 (B8b [.i (0),.o (C9 d)])) (brK (oD d) (brK (E9 (RightD (drE d))) (some (.sint IntKind.i64 (B2c (drE d)))) none) none) (some (.sint IntKind.i64 (16)))) none)) none) none)) none) none)) none:=by kernel_rfl
theorem G3b(k:Int):msT k<=3:=by
 unfold msT
 generalize k.toNat=n
 match n with
 | 0 | 1 | 2 | 3 | 4 | 5 | 6 | 7 | 8=>decide
 | n+9=>simp
theorem E2q{f:Fea}{x:Frm}(h:X6 f x=0):x.l.length<=100:=by
 have:=G3b x.k
 refine Classical.byContradiction fun hn=>?_
 unfold X6 at h
 (repeat' split at h)<;>omega
theorem D5w{x:Fea}(h:W9 x=0):SmlF x:=by
 unfold W9 at h
 split at h
 ·omega
 ·split at h
  ·omega
  ·rename_i h8
   refine⟨by omega,fun i hi=>?_⟩
   have h2:=G6l.1 h i hi
   unfold A0i at h2
   split at h2
   ·omega
   ·rename_i h3
    exact E2q (f:=x) (by omega)
theorem D6g{d:Drw}(he:A2n d=0)(hd:A0y d=0):GrD d:=by
 have h1:d.l.length<=32/\S9 (gFe d) d.l.length=0:=by
  unfold A2n at he
  split at he
  ·omega
  ·exact⟨by omega,he⟩
 refine⟨by omega,fun i hi=>?_,fun i hi y hy=>?_⟩
 ·have h2:=G6l.1 h1.2 i hi
  unfold gFe at h2
  split at h2
  ·omega
  ·exact D5w (by omega)
 ·have h2:=G6l.1 hd i hi
  rw[B2o _ _ _ (lR _)] at hy
  unfold V3 at hy
  rw[List.take_length,List.mem_flatMap] at hy
  obtain⟨f,hf,hy⟩:=hy
  rw[List.mem_map] at hy
  obtain⟨z,hz,rfl⟩:=hy
  obtain⟨k,hk,rfl⟩:=List.getElem_of_mem hf
  obtain⟨n,hn,rfl⟩:=List.getElem_of_mem hz
  have h3:=G6l.1 h2 k hk
  have e1:F4 (D8 d i) k=(D8 d i).l[k]:=by unfold F4; rw[gD,gE hk]; rfl
  rw[e1] at h3
  have h4:=G6l.1 h3 n hn
  have e2:V4 (D8 d i).l[k] n=(D8 d i).l[k].l[n]:=by unfold V4; rw[gD,gE hn]; rfl
  rw[e2] at h4
  refine G7e.1 ?_
  unfold gDt at h4
  split at h4
  ·omega
  ·omega
theorem B0e{d:Drw}(h:A1i d=0):A2n d=0/\A0y d=0:=by
 unfold A1i at h
 split at h
 ·omega
 ·exact⟨by omega,h⟩
theorem G7u(d:Drw)(hk:OkD d):(D5 prog E9b 60).call 13 [.agg d.av] (Bg 8) F8=some (.sint .i64 (J4 d)):=by
 rw[G8w]
 simp only[A3r,P8,C9z,E8o]
 unfold J4
 refine A8 hk.nm ?_
 by_cases c1:G7 d.s≠0
 ·rw[if_pos c1]; exact A8 (by simpa using c1) rfl
 rw[if_neg c1]
 refine C8 (by simpa using c1) (A8 rfl (A8 (A9 hk) ?_))
 by_cases c2:A1i d≠0
 ·rw[if_pos c2]; exact A8 (by simpa using c2) rfl
 rw[if_neg c2]
 have c2':A1i d=0:=by omega
 have hz:=B0e c2'
 refine C8 (by simpa using c2') (A8 (J5 (L:=L13) (dec:=B8a) (Inv:=E7t) (x:=d) (C9z d _ _ _ _) (D6g hz.1 hz.2)) ?_)
 cases c3:B3w d with
 | false=>rw[if_pos rfl]; exact C8 rfl rfl
 | true=>rw[if_neg (by simp)]; exact A8 rfl (A8 rfl (A8 (A9 (B9w hk hz.1)) rfl))
theorem H1f(d:Drw)(hk:OkD d):(D5 prog E9b 60).call 14 [.agg d.av] (Bg 8) F8=some (.sint .i64 (J4 d)):=by
 rw[G8x]
 simp only[A3r,P8,D0a,E8p]
 unfold J4
 refine A8 hk.nm ?_
 by_cases c1:G7 d.s≠0
 ·rw[if_pos c1]; exact A8 (by simpa using c1) rfl
 rw[if_neg c1]
 refine C8 (by simpa using c1) (A8 rfl (A8 (A9 hk) ?_))
 by_cases c2:A2n d≠0
 ·rw[if_pos (show A1i d≠0 by unfold A1i; rw[if_pos c2]; exact c2)]
  refine A8 (by simpa using c2) ?_
  unfold A1i; rw[if_pos c2]
 have e:A1i d=A0y d:=by unfold A1i; rw[if_neg c2]
 rw[e]
 have c2':A2n d=0:=by omega
 refine C8 (by simpa using c2') (A8 rfl (A8 (A9 hk) ?_))
 by_cases c4:A0y d≠0
 ·rw[if_pos c4]; exact A8 (by simpa using c4) rfl
 rw[if_neg c4]
 have c4':A0y d=0:=by omega
 refine C8 (by simpa using c4') (A8 (J5 (L:=L14) (dec:=B8b) (Inv:=E7u) (x:=d) (D0a d _) (D6g c2' c4')) ?_)
 cases c3:B3w d with
 | false=>rw[if_pos rfl]; exact C8 rfl rfl
 | true=>rw[if_neg (by simp)]; exact A8 rfl (A8 rfl (A8 (A9 (B9w hk c2')) rfl))
def VCk(d:Drw):Tr AV:=.br (E9 (OkD d)) (.leaf (.sint .i64 (J4 d))) .fail
def pCk:Prims:=(pUs.addt 13 (M8 O5 VCk)).addt 14 (M8 O5 VCk)
theorem G3j{A:Amb}(hT:Tab A)(hG:gN prog<=A.G):PrimOK prog A pCk:=by
 have h0:=E0q hT hG
 refine H8 hG h0 (H8 hG h0 (E9p hT hG) O5 VCk func13 (by kernel_rfl) fun x v hv=>?_) O5 VCk func14 (by kernel_rfl) fun x v hv=>?_
 ·obtain⟨hz,hv⟩:=Tr.br1 hv
  cases hv
  exact⟨_,G7u x (H6 hz),rfl,fun Z y hy=>hy⟩
 ·obtain⟨hz,hv⟩:=Tr.br1 hv
  cases hv
  exact⟨_,H1f x (H6 hz),rfl,fun Z y hy=>hy⟩
theorem G8u(d:Drw):(D5 prog pCk 60).call 11 [.agg d.av] (Bg 8) F8 =
  brK (oD d) (brK (E9 (OkD (drE d))) (brK (J4 (drE d) != 0) (some (.tuple [.slice none 0 0,.sint IntKind.i64 (J4 (drE d)) ])) (brK (oD d) (brK (E9 (GrD (drE d))) (some (.tuple [.flist (((A4b (drE d))).length) (fun i=>txF ((A4b (drE d)).getD i default)) 1,.int .i64 0])) none) none)) none) none:=by kernel_rfl
theorem G8v(d:Drw):(D5 prog pCk 60).call 12 [.agg d.av] (Bg 8) F8 =
  brK (oD d) (brK (E9 (OkD (drE d))) (brK (J4 (drE d) != 0) (some (.tuple [.slice none 0 0,.sint IntKind.i64 (J4 (drE d)) ])) (brK (oD d) (brK (E9 (GrD (drE d))) (some (.tuple [.flist (((A4b (drE d))).length) (fun i=>txF ((A4b (drE d)).getD i default)) 1,.int .i64 0])) none) none)) none) none:=by kernel_rfl
def C1d(d:Drw):List Txt:=if J4 d=0 then A4b d else[]
theorem B8j{d:Drw}(h:J4 d=0):G7 d.s=0/\A1i d=0/\B3w d=true/\B2c d=0:=by
 unfold J4 at h
 split at h
 ·omega
 ·split at h
  ·omega
  ·split at h
   ·omega
   ·rename_i h3
    exact⟨by omega,by omega,by simpa using h3,h⟩
theorem A8b{d:Drw}(h:J4 d=0):GrD d:=by
 obtain⟨_,h2,_,_⟩:=B8j h
 have hz:=B0e h2
 exact D6g hz.1 hz.2
def G7f(d:Drw)(v:AV):Prop:=F3 0 v=true/\∀ (Z:Emb) (y:Value),VR Z v y->VR Z (.tuple [Q4 (C1d d),.sint .i64 (J4 d)]) y
theorem H1d(d:Drw)(hk:OkD d):∃ v,(D5 prog pCk 60).call 11 [.agg d.av] (Bg 8) F8=some v/\G7f d v:=by
 rw[G8u]
 simp only[A3r,P8]
 by_cases c:J4 d=0
 ·refine exV (A8 rfl (A8 (A9 hk) (C8 (by simpa using c) (A8 rfl (A8 (A9 (A8b c)) rfl))))) ⟨rfl,fun Z y hy=>?_⟩
  have e:C1d d=A4b d:=by unfold C1d; rw[if_pos c]
  rw[e,c]
  simp only[VR] at hy ⊢
  obtain⟨l,rfl,h⟩:=hy
  refine⟨l,rfl,?_⟩
  simp only[VRL,VR] at h ⊢
  exact h
 ·refine exV (A8 rfl (A8 (A9 hk) (A8 (by simpa using c) rfl))) ⟨rfl,fun Z y hy=>?_⟩
  have e:C1d d=[]:=by unfold C1d; rw[if_neg c]
  rw[e]
  simp only[VR,VRL] at hy ⊢
  obtain⟨l,rfl,y1,l1,h1,h2,h3⟩:=hy
  refine⟨l,rfl,y1,l1,h1,?_,h3⟩
  obtain⟨_,_,rfl⟩:=h2
  simp[FVR]
theorem H1e(d:Drw)(hk:OkD d):∃ v,(D5 prog pCk 60).call 12 [.agg d.av] (Bg 8) F8=some v/\G7f d v:=by
 rw[G8v]
 simp only[A3r,P8]
 by_cases c:J4 d=0
 ·refine exV (A8 rfl (A8 (A9 hk) (C8 (by simpa using c) (A8 rfl (A8 (A9 (A8b c)) rfl))))) ⟨rfl,fun Z y hy=>?_⟩
  have e:C1d d=A4b d:=by unfold C1d; rw[if_pos c]
  rw[e,c]
  simp only[VR] at hy ⊢
  obtain⟨l,rfl,h⟩:=hy
  refine⟨l,rfl,?_⟩
  simp only[VRL,VR] at h ⊢
  exact h
 ·refine exV (A8 rfl (A8 (A9 hk) (A8 (by simpa using c) rfl))) ⟨rfl,fun Z y hy=>?_⟩
  have e:C1d d=[]:=by unfold C1d; rw[if_neg c]
  rw[e]
  simp only[VR,VRL] at hy ⊢
  obtain⟨l,rfl,y1,l1,h1,h2,h3⟩:=hy
  refine⟨l,rfl,y1,l1,h1,?_,h3⟩
  obtain⟨_,_,rfl⟩:=h2
  simp[FVR]
def VDa(d:Drw):Tr AV:=.br (E9 (OkD d)) (.leaf (.tuple [Q4 (C1d d),.sint .i64 (J4 d)])) .fail
def pDa:Prims:=(pCk.addt 11 (M8 O5 VDa)).addt 12 (M8 O5 VDa)
theorem G3k{A:Amb}(hT:Tab A)(hG:gN prog<=A.G):PrimOK prog A pDa:=by
 have h0:=G3j hT hG
 refine H8 hG h0 (H8 hG h0 h0 O5 VDa func11 (by kernel_rfl) fun x v hv=>?_) O5 VDa func12 (by kernel_rfl) fun x v hv=>?_
 ·obtain⟨hz,hv⟩:=Tr.br1 hv
  cases hv
  obtain⟨v',h1,h2,h3⟩:=H1d x (H6 hz)
  exact⟨v',h1,h2,h3⟩
 ·obtain⟨hz,hv⟩:=Tr.br1 hv
  cases hv
  obtain⟨v',h1,h2,h3⟩:=H1e x (H6 hz)
  exact⟨v',h1,h2,h3⟩
end Go.Proofs.Tryz
