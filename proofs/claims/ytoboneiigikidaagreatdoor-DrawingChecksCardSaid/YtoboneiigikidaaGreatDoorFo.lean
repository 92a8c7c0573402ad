/- Drawings: what a feature needs: names are visited. -/
import Derived.Test.YtoboneiigikidaaGreatDoorNf
import Derived.Test.YtoboneiigikidaaGreatDoorAdFind
import Derived.Test.YtoboneiigikidaaGreatDoorShelf
import Derived.Test.YtoboneiigikidaaGreatDoorAdMapR
noncomputable section
namespace Go.Proofs.Tryz
open Go.Ad
def nbO (d:Drw) (s:Txt):List Txt:=U5 (D9 d (E5 d s).toNat) (D9 d (E5 d s).toNat).l.length
def c10:AObj:=.cells [.map (some 9)] 0 true 130
def c11:AObj:=.cells [(.func (.func 94) [] [.ptr (some (8,0)),.ptr (some (10,0)),.ptr (some (11,0))])] 0 true 131
def A94 (s:Txt):List AV:=[.sstr s,.ptr (some (8,0)),.ptr (some (10,0)),.ptr (some (11,0))]
def H94 (d:Drw) (l:List Txt):Heap:=Bg 8++[A9 d,.smap l,c10,c11]
def C94 (k:Nat) (d:Drw) (s:Txt) (l:List Txt):Prop:=GrD d/\s ∈ H7 d/\left (H7 d) l < k
def E94 (k:Nat) (o:AObj) (s:Txt) (l:List Txt) (args:List AV) (B:Heap):Prop:=C94 k (I1 o) s l/\args=A94 s/\B=H94 (I1 o) l
def G94 (k:Nat) (args:List AV) (B:Heap):Tr (AV × Heap × List Nat):=match args,B.getD 9 .dead with
 | a :: _,.smap l=>(match sstr? a with
  | some s=>.br (D8 (E94 k (B.getD 8 .dead) s l args B)) (.leaf (.tuple [],B.set 9 (.smap (dfs (nbO (I1 (B.getD 8 .dead))) (k - 1) l s)),[9])) .fail
  | none=>.fail)
 | _,_=>.fail
def pFo (k:Nat):Prims:=pNh.addh 94 (G94 k)
end Go.Proofs.Tryz
namespace Go.Proofs.Tryz
open Go.Ad
def D4f:Code:=I9 (J7 0 (f94.body.getD .skip))
def sp94:SP:=⟨dr 2++[.is (.ptr (some (10,0)))]++[.is (.ptr (some (11,0)))]++dr 10++[.flist 1]++[.int .i64]++[.int .i64]++dr 13,dd8++[.any,.any,.cells [.is (.map (some 9))] 0 true 130,.cells [.is (.func (.func 94) [] [.ptr (some (8,0)),.ptr (some (10,0)),.ptr (some (11,0))])] 0 true 131]⟩
def A9p:AEx->SP
 | .exit 0=>⟨dr 30,dd8++[.any,.any,.cells [.is (.map (some 9))] 0 true 130,.cells [.is (.func (.func 94) [] [.ptr (some (8,0)),.ptr (some (10,0)),.ptr (some (11,0))])] 0 true 131]⟩
 | _=>sp94
def D5f (d:Drw) (l M:List Txt) (a n:Int):List Lf:=[.n M.length,.fr (A7 txF M),.i a,.i n,.o (A9 d),.o (.smap l)]
theorem F5g (k:Nat) (d:Drw) (l M:List Txt) (a n:Int):F3 prog (D5 prog (pFo k) 60) ((pFo k).blk 94) D4f (sp94.rho (D5f d l M a n)) (sp94.heap (D5f d l M a n)) (H9 A9p 12 [9]) =
  brK (decide (n < a)) (brK (decide (0<=n/\n < (M.length:Int))) (brK (!decide (M.getD n.toNat default ∈ l)) (brK (D8 (E94 k (A9 d) (M.getD n.toNat default) (B9r l (M.getD n.toNat default)) (A94 (M.getD n.toNat default)) (H94 d (B9r l (M.getD n.toNat default)))))
   (some (.normal,D5f d (dfs (nbO (I1 (A9 d))) (k - 1) (B9r l (M.getD n.toNat default)) (M.getD n.toNat default)) M a (W (n+1)))) none) (some (.normal,D5f d l M a (W (n+1))))) none) (some (.exit 0,[.o (A9 d),.o (.smap l)])):=by kernel_rfl
theorem D8j (nb:Txt->List Txt):∀ (k:Nat) (l:List Txt) (s x:Txt),x ∈ l->x ∈ dfs nb k l s
 | 0,l,s,x,h=>by unfold dfs; exact h
 | k+1,l,s,x,h=>by
  unfold dfs
  have key:∀ (t l:List Txt),x ∈ l->x ∈ t.foldl (fun l x=>if x ∈ l then l else dfs nb k (l++[x]) x) l:=by
   intro t
   induction t with
   | nil=>intro l h; exact h
   | cons a t ih =>
    intro l h
    rw [List.foldl_cons]
    refine ih _ ?_
    split
    ·exact h
    ·exact D8j nb k _ a x (List.mem_append_left _ h)
  exact key _ l h
def B3o (nb:Txt->List Txt) (k:Nat) (M l:List Txt) (n:Nat):List Txt:=(M.take n).foldl (fun l x=>if x ∈ l then l else dfs nb (k - 1) (l++[x]) x) l
theorem C2z {nb:Txt->List Txt} {k:Nat} {M l:List Txt} {n:Nat} (h:n < M.length):B3o nb k M l (n+1)=if M.getD n default ∈ B3o nb k M l n then B3o nb k M l n else dfs nb (k - 1) (B3o nb k M l n++[M.getD n default]) (M.getD n default):=by
 unfold B3o
 rw [List.take_succ_eq_append_getElem h,List.foldl_append,List.getD_eq_getElem?_getD,List.getElem?_eq_getElem h]
 rfl
theorem D2i {nb:Txt->List Txt} {k:Nat} {M l:List Txt} {x:Txt} (hx:x ∈ l):∀ n,n<=M.length->x ∈ B3o nb k M l n
 | 0,_=>hx
 | n+1,hn=>by
  have:=D2i (nb:=nb) (k:=k) (M:=M) hx n (by omega)
  rw [C2z (by omega)]
  split
  ·exact this
  ·exact D8j nb _ _ _ _ (List.mem_append_left _ this)
theorem F0d {nb:Txt->List Txt} {u:List Txt} {k:Nat} {l:List Txt} {s:Txt} (hn:∀ x,x ∈ nb s->x ∈ u) (hl:left u l<=k):B3o nb k (nb s) l (nb s).length=dfs nb k l s:=by
 unfold B3o
 rw [List.take_length]
 cases k with
 | zero =>
  have h0:left u l=0:=by omega
  unfold left at h0
  rw [List.length_eq_zero_iff,List.filter_eq_nil_iff] at h0
  have hin:∀ x,x ∈ nb s->x ∈ l:=fun x hx=>by
   have:=h0 x (hn x hx)
   simpa using this
  unfold dfs
  generalize nb s=t at hin
  clear hn
  induction t with
  | nil=>rfl
  | cons a t ih=>rw [List.foldl_cons,if_pos (hin a (by simp))]; exact ih fun x hx=>hin x (List.mem_cons_of_mem _ hx)
 | succ k=>rfl
abbrev β94:=Drw × List Txt × List Txt
def L94 (k:Nat) (x:β94) (n:Nat):List Lf:=D5f x.1 (B3o (nbO x.1) k x.2.1 x.2.2 n) x.2.1 x.2.1.length n
def A6z (x:β94):List Lf:=D5f x.1 x.2.2 x.2.1 x.2.1.length 0
def C8a (k:Nat):List Lf->β94->List Lf
 | [_,_,_,_,o,_],x=>[o,.o (.smap (B3o (nbO x.1) k x.2.1 x.2.2 x.2.1.length))]
 | _,_=>[]
def N94 (x:β94):Nat:=x.2.1.length
def E1r (k:Nat) (x:β94):Prop:=GrD x.1/\(∀ y,y ∈ x.2.1->y ∈ H7 x.1)/\left (H7 x.1) x.2.2<=k/\x.2.1.length<=100000
def B7y:List Lf->β94
 | [.n m,.fr g,_,_,.o o,.o (.smap l)]=>(I1 o,ofR txF m g,l)
 | _=>(default,[],[])
theorem D8g (x:β94):B7y (A6z x)=x:=by simp [B7y,A6z,D5f,E8,J3 U9]
theorem E9q {l:List Txt} {x:Txt} (h:x ∉ l):B9r l x=l++[x]:=by unfold B9r; rw [if_neg h]
theorem G2m (k:Nat) (x:β94) (hx:E1r k x) (n:Nat) (hn:n<=N94 x):F3 prog (D5 prog (pFo k) 60) ((pFo k).blk 94) D4f (sp94.rho (L94 k x n)) (sp94.heap (L94 k x n)) (H9 A9p 12 [9])=some (if n < N94 x then (.normal,L94 k x (n+1)) else (.exit 0,C8a k (A6z x) x)):=by
 obtain ⟨d,M,l⟩:=x
 obtain ⟨h1,h2,h3,h4⟩:=hx
 dsimp only at h1 h2 h3 h4
 have hn2:n<=M.length:=hn
 simp only [L94]
 rw [F5g,I4 hn (show N94 (d,M,l) < 2 ^ 62 by show M.length < 2 ^ 62; omega)]
 simp only [Int.toNat_natCast,E8]
 by_cases h:n < N94 (d,M,l)
 ·rw [if_pos h]
  simp only [N94] at h
  rw [C2z h]
  refine A8 (dT (by omega)) (A8 (dT (by omega)) ?_)
  by_cases hm:M.getD n default ∈ B3o (nbO d) k M l n
  ·rw [if_pos hm]
   exact C8 (by rw [dT hm]; rfl) rfl
  ·rw [if_neg hm,E9q hm]
   refine A8 (by rw [dF hm]; rfl) (A8 (D6 ?_) rfl)
   have hu:=h2 _ (B2z h)
   have:=D0y hu hm
   have h5:left (H7 d) (B3o (nbO d) k M l n)<=left (H7 d) l:=B3d fun y hy=>D2i hy n hn2
   refine ⟨⟨?_,?_,?_⟩,rfl,?_⟩
   ·rw [E8]; exact h1
   ·rw [E8]; exact hu
   ·rw [E8]; omega
   ·rw [E8]
 ·rw [if_neg h]
  have e:n=N94 (d,M,l):=Nat.le_antisymm hn (Nat.le_of_not_lt h)
  subst e
  exact C8 (dF (by unfold N94; dsimp only; omega)) rfl
theorem G2z (k:Nat) {A:Amb} (x:β94) (_hx:E1r k x) (Bb:Heap) (hB:Bb.length=12):Wk A Bb ⟨sp94.rho (A6z x),sp94.heap (A6z x),[9]⟩ ⟨sp94.rho (L94 k x 0),sp94.heap (L94 k x 0),[9]⟩:=by
 have _:=hB
 exact Wk.refl
def G3s (k:Nat):Blk:=hookP sp94 12 [9] (itT (A9p (.exit 0)) 0 (.exit 0) B7y A6z (C8a k) (E1r k))
theorem F3b (k:Nat) {A:Amb} {q:Prims} (h0:PrimOK prog A (pFo k)) (hq:PrimOK prog A q):PrimOK prog A (q.addb 94 0 (G3s k)) :=
 SEB.iterK (id:=0) (ds:=[9]) (dec:=B7y) (sp0:=sp94) (sp:=sp94) (sq:=A9p) (m:=12) (ee:=.exit 0) (L0:=A6z) (L:=L94 k) (Le:=C8a k) (N:=N94) (Inv:=E1r k) (k:=60) F7 F8 h0 hq func94 (show f94.body=some (f94.body.getD .skip) by kernel_rfl) (body:=D4f) (by kernel_rfl)
  rfl rfl rfl rfl (by simp) (fun _=>⟨.inr rfl,.inr rfl,.inr rfl,.inr rfl,.inr rfl,.inr rfl,.inr rfl,.inr rfl,.inr rfl,.inl rfl,.inr rfl,.inr rfl,trivial⟩) (G2z k) (G2m k)
def E2a (k:Nat):Prims:=(pFo k).addb 94 0 (G3s k)
end Go.Proofs.Tryz
namespace Go.Proofs.Tryz
open Go.Ad
abbrev F94 (d:Drw) (s:Txt):Fea:=d.l.getD (E5 (drE d) s).toNat default
abbrev M94 (d:Drw) (s:Txt):List Txt:=U5 (feE (F94 d s)) (ofR Frm.fv (F94 d s).l.length (A7 Frm.fv (F94 d s).l)).length
theorem G6h (k:Nat) (d:Drw) (l:List Txt) (s:Txt):F3 prog (D5 prog (E2a k) 60) ((E2a k).blk 94) (f94.body.getD .skip) (A94 s++List.replicate 26 G6) (H94 d l) (H9 (fun _=>A9p (.exit 0)) 12 [9]) =
  brK (D8 (okR Fea.fv d.l.length (A7 Fea.fv d.l)) && D8 (okR Dim.fv d.m.length (A7 Dim.fv d.m))) (brK (decide ((ofR Fea.fv d.l.length (A7 Fea.fv d.l)).length < 4611686018427387904)) (brK (decide (0<=E5 (drE d) s/\E5 (drE d) s < (d.l.length:Int))) (brK (D8 (okR Frm.fv (F94 d s).l.length (A7 Frm.fv (F94 d s).l))) (brK (D8 (SmlF (feE (F94 d s))))
   (brK (itC A6z B7y (E1r k) (A6z (d,M94 d s,l))) (some (.normal,C8a k (A6z (d,M94 d s,l)) (B7y (A6z (d,M94 d s,l))))) none) none) none) none) none) none:=by kernel_rfl
theorem F8s (d:Drw) (s:Txt):M94 d s=nbO d s:=by
 unfold M94 F94 nbO
 rw [Y9,A7p,J3 Frm.inj]
theorem F3j {d:Drw} (h:GrD d) {s:Txt} (hs:s ∈ H7 d):(nbO d s).length<=10000:=by
 have hi:=A0h d s
 have h0:=G3t.2 hs
 have h1:=h.sml (E5 d s).toNat (by omega)
 have h2:=A7y h1 _ (Nat.le_refl _)
 have h3:=h1.l
 unfold nbO
 omega
theorem B2c (x:Fea) (y:Txt):∀ n,n<=x.l.length->(y ∈ K8 x n ↔ y ∈ U5 x n)
 | 0,_=>by simp [K8,U5]
 | n+1,hn=>by
  rw [A8y (by omega),B3g (by omega),List.mem_append,<- B2c x y n (by omega)]
  have h:=C6m x n (by omega)
  revert h
  generalize K8 x n=o
  unfold A9e
  generalize (F6 x n).l=l
  intro h
  have e:l.foldl (fun o y=>P5 o y.s) o=(l.map (·.s)).foldl P5 o:=by rw [List.foldl_map]
  rw [e,(A2x h).2]
theorem D5l (d:Drw) (s y:Txt):y ∈ nbR d s ↔ y ∈ nbO d s:=B2c _ y _ (Nat.le_refl _)
theorem B3h {d:Drw} (h:GrD d) {s:Txt} (hs:s ∈ H7 d):∀ y,y ∈ nbO d s->y ∈ H7 d:=fun y hy=>D5k h hs y ((D5l d s y).2 hy)
theorem G6y {A:Amb} {k:Nat} (hp:PrimOK prog A (pFo k)) {d:Drw} {l:List Txt} {s:Txt} (h1:GrD d) (h2:s ∈ H7 d) (h3:left (H7 d) l<=k) :
  CallT prog A 94 (A94 s) (H94 d l) (.tuple []) ((H94 d l).set 9 (.smap (dfs (nbO d) k l s))) [9]:=by
 have hq:PrimOK prog A (E2a k):=F3b k hp hp
 have hl:=h1.len
 have h0:=G3t.2 h2
 have hi:=A0h d s
 have hb:BlkOK prog A ((E2a k).blk 94) (f94.body.getD .skip):=hq.blk 94 f94 (f94.body.getD .skip) func94 (show f94.body=some (f94.body.getD .skip) by kernel_rfl)
 have hk:=G6h k d l s
 rw [F8s,D8g] at hk
 have hit:itC A6z B7y (E1r k) (A6z (d,nbO d s,l))=true:=X7 (D8g _) ⟨h1,B3h h1 h2,h3,Nat.le_trans (F3j h1 h2) (by omega)⟩
 have hsm:=h1.sml (E5 d s).toNat (by omega)
 have hk2:F3 prog (D5 prog (E2a k) 60) ((E2a k).blk 94) (f94.body.getD .skip) (A94 s++List.replicate 26 G6) (H94 d l) (H9 (fun _=>A9p (.exit 0)) 12 [9])=some (.normal,C8a k (A6z (d,nbO d s,l)) (d,nbO d s,l)):=by
  rw [hk]
  simp only [L8,Bool.and_self,Y9,A7p,J3 Fea.inj,J3 Frm.inj]
  exact A8 rfl (A8 (dT (by omega)) (A8 (dT (by omega)) (A8 rfl (A8 (D6 (show SmlF (F94 d s) by unfold F94; rw [Y9]; exact hsm)) (A8 hit rfl)))))
 have hs:SEB prog A (H94 d l) (f94.body.getD .skip) ⟨A94 s++List.replicate 26 G6,H94 d l,[]⟩ .normal ⟨(A9p (.exit 0)).rho (C8a k (A6z (d,nbO d s,l)) (d,nbO d s,l)),(A9p (.exit 0)).heap (C8a k (A6z (d,nbO d s,l)) (d,nbO d s,l)),[9]⟩ :=
  SEB.wk_in (Wk.dirty fun _ h=>by cases h) (SEB.of_KP (e:=.normal) (sp:=fun _=>A9p (.exit 0)) (B0:=H94 d l) (ds:=[9]) F7 F8 hq hb rfl hk2 rfl)
 intro ι w xs hs1 hd hg hx
 have:=A4q (fn:=f94) (vs:=[]) func94 (show f94.body=some (f94.body.getD .skip) by kernel_rfl) hs (by simp) (by kernel_rfl) ι w xs hs1 hd hg hx
 have e:(A9p (.exit 0)).heap (C8a k (A6z (d,nbO d s,l)) (d,nbO d s,l))=(H94 d l).set 9 (.smap (B3o (nbO d) k (nbO d s) l (nbO d s).length)):=rfl
 rw [F0d (fun x hx=>B3h h1 h2 x hx) h3] at e
 rw [e] at this
 exact this
theorem E2l {A:Amb} {k:Nat} (h:∀ d l s,GrD d->s ∈ H7 d->left (H7 d) l < k->CallT prog A 94 (A94 s) (H94 d l) (.tuple []) ((H94 d l).set 9 (.smap (dfs (nbO d) (k - 1) l s))) [9]) :
  ∀ args B v B' D,(G94 k args B).get=some (v,B',D)->AFr B B' D/\CallT prog A 94 args B v B' D:=by
 intro args B v B' D hv
 unfold G94 at hv
 split at hv
 ·split at hv
  ·rename_i l _ _ s hs
   obtain ⟨hc,hv⟩:=Tr.br1 hv
   obtain ⟨hc,he,hB⟩:=J4 hc
   generalize I1 (B.getD 8 .dead)=d at hc he hB hv
   cases hv
   rw [he,hB]
   exact ⟨⟨Nat.le_of_eq (by rw [List.length_set]),fun b _ hb=>by rw [List.getElem?_set_ne (fun e=>hb (by rw [<- e]; simp))]⟩,h d l s hc.1 hc.2.1 hc.2.2⟩
  ·cases hv
 ·cases hv
theorem E7k {A:Amb} (hT:Tab A) (hG:gN prog<=A.G):∀ k,PrimOK prog A (pFo k)
 | 0=>PrimOK.put (C6h hT hG) func94 (by kernel_rfl) (E2l fun d l s _ _ h=>(Nat.not_lt_zero _ h).elim)
 | k+1=>PrimOK.put (C6h hT hG) func94 (by kernel_rfl) (E2l fun d l s h1 h2 h3=>G6y (E7k hT hG k) h1 h2 (by omega))
end Go.Proofs.Tryz
namespace Go.Proofs.Tryz
open Go.Ad
def R7 (l:List Txt):List Txt:=l.mergeSort leT
theorem A3a (l:List Txt):(R7 l).length=l.length:=List.length_mergeSort l
def F0g (args:List AV) (B:Heap):Tr (AV × Heap × List Nat):=match args with
 | [.sslice b 0 n]=>(match B.getD b .dead with
  | .vec m r 1 ty=>.br (D8 (n=m/\r=C9 (P9 n r)/\ty=9/\n < 4611686018427387904)) (.leaf (.tuple [],B.set b (.vec (R7 (P9 n r)).length (C9 (R7 (P9 n r))) 1 ty),[b])) .fail
  | _=>.fail)
 | _=>.fail
def F0h (args:List AV) (B:Heap):Tr (AV × Heap × List Nat):=match args with
 | [.sslice b 0 n]=>(match B.getD b .dead with
  | .vec m r 1 ty=>.br (D8 (n=m/\r=C9 (P9 n r)/\ty=9/\n < 4611686018427387904)) (.leaf (.sslice b 0 (Lib.compact (P9 n r)).length,B.set b (.vec (Lib.compact (P9 n r)).length (C9 (Lib.compact (P9 n r))) 1 ty),[b])) .fail
  | _=>.fail)
 | _=>.fail
theorem G1m:(D5 prog pNh 60).call 141 [.slice none 0 0] (Bg 8) F9=some (.tuple []):=by kernel_rfl
theorem G0j {A:Amb} (hT:Tab A) (hG:gN prog<=A.G) (B:Heap):CallT prog A 141 [.slice none 0 0] B (.tuple []) B []:=by
 have h0:=C6h hT hG
 have:=PrimOK.addD (g:=fun args=>.br (D8 (args=[.slice none 0 0])) (.leaf (.tuple [])) .fail) F7 F8 h0 hG func141 (by kernel_rfl) fun args v hv=>by
  obtain ⟨hz,hv⟩:=Tr.br1 hv
  cases hv
  obtain ⟨B',hca⟩:=Ca.of_finV G1m
  exact ⟨pNh,[.slice none 0 0],.tuple [],B',h0,fun ι xs hx=>by rw [J4 hz] at hx; exact hx,fun _ _ h=>h,rfl,rfl,by rw [gsz]; exact hca⟩
 have h2:=(this.fn 141 _ (by unfold Prims.addt; rfl)).2 [.slice none 0 0] B (.tuple []) B [] (by
  show (Tr.br _ _ _).get=_
  rw [D6 rfl]
  rfl)
 exact h2.2
theorem D9q {n:Nat} {r:Nat->List AV} (h:r=C9 (P9 n r)):AObj.vec n r 1 9=.vec (P9 n r).length (C9 (P9 n r)) 1 9:=by rw [B9w,<- h]
theorem E9r {B:Heap} {b:Nat} {o:AObj}:AFr B (B.set b o) [b]:=⟨Nat.le_of_eq (by rw [List.length_set]),fun c _ hc=>by rw [List.getElem?_set_ne (fun e=>hc (by rw [<- e]; simp))]⟩
theorem getD_some {B:Heap} {b:Nat} {o:AObj} (h:B.getD b .dead=o) (ho:o ≠ .dead):B[b]?=some o:=by
 rw [List.getD_eq_getElem?_getD] at h
 cases hb:B[b]? with
 | none=>rw [hb] at h; exact absurd h.symm ho
 | some x=>rw [hb] at h; rw [<- h]; rfl
theorem D6v {A:Amb} (hT:Tab A) (hG:gN prog<=A.G):∀ args B v B' D,(F0g args B).get=some (v,B',D)->AFr B B' D/\CallT prog A 141 args B v B' D:=by
 intro args B v B' D hv
 unfold F0g at hv
 split at hv
 ·split at hv
  ·rename_i b n _ m r ty hb
   obtain ⟨hc,hv2⟩:=Tr.br1 hv
   clear hv
   obtain ⟨rfl,hr,rfl,hn⟩:=J4 hc
   cases hv2
   have hb2:=getD_some hb (by simp)
   clear hb
   rw [D9q hr] at hb2
   have hl:=B9w n r
   revert hb2 hl hr
   generalize P9 n r=L
   intro hr hb2 hl
   subst hl
   exact ⟨E9r,D6n (L:=L) (ty:=9) (fun blk off cap ss w h1 h2 h3=>Tryz.slices_Sort_string blk off cap ss w h1 h2 h3) (fun _=>G0j hT hG B) hb2 (by simp [roT]) hn⟩
  ·cases hv
 ·cases hv
theorem B3x (L:List Txt):(L ≠ []->Lib.compact L ≠ [])/\(Lib.compact L).length<=L.length:=by
 constructor
 ·intro h h2
  obtain ⟨x,hx⟩:∃ x,x ∈ Lib.compact L:=by
   cases L with
   | nil=>exact absurd rfl h
   | cons a L =>
    refine ⟨(a :: L).toArray[0]!, ?_⟩
    unfold Lib.compact Lib.compactUpTo
    rw [List.mem_map]
    refine ⟨0,?_,rfl⟩
    rw [List.mem_filter]
    exact ⟨List.mem_range.2 (by simp),Lib.keeps_lt_one _ 0 (by omega)⟩
  rw [h2] at hx
  cases hx
 ·unfold Lib.compact Lib.compactUpTo
  rw [List.length_map]
  have:=List.length_filter_le (Lib.keeps L.toArray) (List.range L.length)
  rw [List.length_range] at this
  exact this
theorem D6w {A:Amb}:∀ args B v B' D,(F0h args B).get=some (v,B',D)->AFr B B' D/\CallT prog A 142 args B v B' D:=by
 intro args B v B' D hv
 unfold F0h at hv
 split at hv
 ·split at hv
  ·rename_i b n _ m r ty hb
   obtain ⟨hc,hv2⟩:=Tr.br1 hv
   clear hv
   obtain ⟨rfl,hr,rfl,hn⟩:=J4 hc
   cases hv2
   have hb2:=getD_some hb (by simp)
   clear hb
   rw [D9q hr] at hb2
   have hl:=B9w n r
   revert hb2 hl hr
   generalize P9 n r=L
   intro hr hb2 hl
   subst hl
   exact ⟨E9r,C0s (L:=L) (ty:=9) (fun blk off cap zs w h1 h2 h3=>Tryz.slices_Compact_string blk off cap zs w h1 h2 h3) (fun a cap w=>Tryz.slices_Compact_string_empty a cap w) hb2 (by simp [roT]) hn (B3x L).1 (B3x L).2⟩
  ·cases hv
 ·cases hv
def pSo (k:Nat):Prims:=((pFo k).addh 141 F0g).addh 142 F0h
theorem E7t {A:Amb} (hT:Tab A) (hG:gN prog<=A.G) (k:Nat):PrimOK prog A (pSo k) :=
 ((E7k hT hG k).put func141 (by kernel_rfl) (D6v hT hG)).put func142 (by kernel_rfl) D6w
end Go.Proofs.Tryz
namespace Go.Proofs.Tryz
open Go.Ad
def A0k:Code:=f45.body.getD .skip
def r0:Code:=A9b A0k
def r1:Code:=A9b (A1f A0k)
def r2:Code:=A9b (A1f (A1f A0k))
def r3:Code:=A9b (A1f (A1f (A1f A0k)))
def r4:Code:=A9b (A1f (A1f (A1f (A1f A0k))))
def r5:Code:=A9b (A1f (A1f (A1f (A1f (A1f A0k)))))
def m6:Code:=A9b (A1f (A1f (A1f (A1f (A1f (A1f A0k))))))
def r10:Code:=A1f (A1f (A1f (A1f (A1f (A1f (A1f A0k))))))
theorem C1f:A0k=.seq r0 (.seq r1 (.seq r2 (.seq r3 (.seq r4 (.seq r5 (.seq m6 r10)))))):=by kernel_rfl
def l6:Code:=I9 (J7 0 A0k)
def o6:Array Oper:=E7c (A9b m6)
def o7:Array Oper:=E7c (A9b l6)
def b8:Code:=(J7 1 A0k).getD .skip
def o8:Array Oper:=E7c (A9b b8)
def c9:Code:=A1f b8
theorem F8i:m6=.seq (.region 6 o6 false) (.block 0 (.loop (.seq (.region 7 o7 false) (.seq (.cond (.tmp 17) .skip (.exit 0)) (.block 1 (.seq (.region 8 o8 false) c9)))))):=by kernel_rfl
def s1:SP:=⟨dr 1++[.str,.is (.ptr (some (8,0)))]++dr 23,dd8++[.any]⟩
def s2:SP:=⟨dr 1++[.str,.is (.ptr (some (8,0)))]++dr 2++[.is (.ptr (some (10,0)))]++dr 20,dd8++[.any,.any,.cells [.is (.map (some 9))] 0 true 130]⟩
def s3:SP:=⟨dr 1++[.str,.is (.ptr (some (8,0)))]++dr 2++[.is (.ptr (some (10,0))),.is (.ptr (some (11,0)))]++dr 19,dd8++[.any,.any,.cells [.is (.map (some 9))] 0 true 130,.any]⟩
def s4:SP:=⟨dr 1++[.str]++dr 3++[.is (.ptr (some (10,0))),.is (.ptr (some (11,0)))]++dr 19,dd8++[.any,.any,.cells [.is (.map (some 9))] 0 true 130,.cells [.is (.func (.func 94) [] [.ptr (some (8,0)),.ptr (some (10,0)),.ptr (some (11,0))])] 0 true 131]⟩
def s5:SP:=⟨dr 5++[.is (.ptr (some (10,0)))]++dr 20,dd8++[.any,.any,.cells [.is (.map (some 9))] 0 true 130,.cells [.is (.func (.func 94) [] [.ptr (some (8,0)),.ptr (some (10,0)),.ptr (some (11,0))])] 0 true 131]⟩
def s6:SP:=⟨dr 5++[.is (.ptr (some (10,0)))]++dr 1++[.is (.slice none 0 0)]++dr 18,dd8++[.any,.any,.cells [.is (.map (some 9))] 0 true 130,.cells [.is (.func (.func 94) [] [.ptr (some (8,0)),.ptr (some (10,0)),.ptr (some (11,0))])] 0 true 131]⟩
end Go.Proofs.Tryz
namespace Go.Proofs.Tryz
open Go.Ad
variable (k:Nat) (d:Drw) (s:Txt) (V v:List Txt) (x:Txt)
abbrev exK (c:Code) (ρ:List AV) (B:Heap) (live:List Tmp):Option (AEx × List AV × Heap × List Nat):=F3 prog (D5 prog (pSo k) 60) A7z c ρ B (E6g live)
abbrev exS (c:Code) (ρ:List AV) (B:Heap) (sp:SP) (m:Nat):Option (AEx × List Lf):=F3 prog (D5 prog (pSo k) 60) A7z c ρ B (H9 (fun _=>sp) m [])
theorem rn0:exK k r0 ([.agg d.av,.sstr s]++List.replicate 24 G6) (Bg 8) [1,2]=some (.normal,s1.rho [.s s,.o (A9 d)],s1.heap [.s s,.o (A9 d)],[]):=by kernel_rfl
theorem rn1:exK k r1 (s1.rho [.s s,.o (A9 d)]) (s1.heap [.s s,.o (A9 d)]) [1,2,5]=some (.normal,s2.rho [.s s,.o (A9 d),.o (.smap [])],s2.heap [.s s,.o (A9 d),.o (.smap [])],[10]):=by kernel_rfl
theorem rn2:exK k r2 (s2.rho [.s s,.o (A9 d),.o (.smap [])]) (s2.heap [.s s,.o (A9 d),.o (.smap [])]) [1,2,5,6]=some (.normal,s3.rho [.s s,.o (A9 d),.o (.smap []),.o (.cells [.nilFunc] 0 true 131)],s3.heap [.s s,.o (A9 d),.o (.smap []),.o (.cells [.nilFunc] 0 true 131)],[]):=by kernel_rfl
theorem rn3:exK k r3 (s3.rho [.s s,.o (A9 d),.o (.smap []),.o (.cells [.nilFunc] 0 true 131)]) (s3.heap [.s s,.o (A9 d),.o (.smap []),.o (.cells [.nilFunc] 0 true 131)]) [1,5,6]=some (.normal,s4.rho [.s s,.o (A9 d),.o (.smap [])],s4.heap [.s s,.o (A9 d),.o (.smap [])],[11]):=by kernel_rfl
theorem rn4:exK k r4 (s4.rho [.s s,.o (A9 d),.o (.smap [])]) (s4.heap [.s s,.o (A9 d),.o (.smap [])]) [5]=brK (D8 (E94 k (A9 d) s [] (A94 s) (H94 d []))) (some (.normal,s5.rho [.o (A9 d),.o (.smap (dfs (nbO (I1 (A9 d))) (k - 1) [] s))],s5.heap [.o (A9 d),.o (.smap (dfs (nbO (I1 (A9 d))) (k - 1) [] s))],[9])) none:=by kernel_rfl
theorem rn5:exK k r5 (s5.rho [.o (A9 d),.o (.smap V)]) (s5.heap [.o (A9 d),.o (.smap V)]) [5,7]=some (.normal,s6.rho [.o (A9 d),.o (.smap V)],s6.heap [.o (A9 d),.o (.smap V)],[]):=by kernel_rfl
def sL:SP:=⟨dr 7++[.list 13]++dr 7++[.is (.ptr (some (12,0)))]++dr 10,dd8++[.any,.any,.any,.any,.any,.vec 1 9]⟩
def lfL (d:Drw) (V:List Txt) (m:Nat) (r:Nat->List AV):List Lf:=[.n m,.o (A9 d),.o (.smap V),.o c10,.o c11,.o .miter,.n m,.r r]
abbrev ρL:List AV:=sL.rho (lfL d V v.length (C9 v))
abbrev BL:Heap:=sL.heap (lfL d V v.length (C9 v))
abbrev ρ6:List AV:=s6.rho [.o (A9 d),.o (.smap V)]
abbrev B6:Heap:=s6.heap [.o (A9 d),.o (.smap V)]
theorem q6:M6 prog (run prog (pSo k) 60) o6 (o6.toList.dropLast) (ρ6 d V) (B6 d V)=some (Q8 (ρ6 d V) (some 14) (.map (some 9)),B6 d V,[]):=by kernel_rfl
theorem q6s:H9 (fun _=>sL) 13 [] AEx.normal (Q8 (Q8 (ρ6 d V) (some 14) (.map (some 9))) (some 15) (.ptr (some ((B6 d V).length,0)))) (B6 d V++[.miter]) []=some (.normal,lfL d V 0 fun _=>[]):=by kernel_rfl
abbrev ρN (b:AV) (c:Bool):List AV:=Q8 (Q8 (ρL d V v) (some 16) b) (some 17) (.bool c)
theorem q7t:M6 prog (run prog (pSo k) 60) o7 (o7.toList.drop 1) (Q8 (ρL d V v) (some 16) (.tuple [.bool true,.bad,.bad])) (BL d V v)=some (ρN d V v (.tuple [.bool true,.bad,.bad]) true,BL d V v,[]):=by kernel_rfl
theorem q7f:M6 prog (run prog (pSo k) 60) o7 (o7.toList.drop 1) (Q8 (ρL d V v) (some 16) (.tuple [.bool false])) (BL d V v)=some (ρN d V v (.tuple [.bool false]) false,BL d V v,[]):=by kernel_rfl
abbrev ρE:List AV:=Q8 (Q8 (Q8 (ρN d V v (.tuple [.bool true,.bad,.bad]) true) (some 18) (.tuple [.sstr x,.bool true])) (some 19) (.sstr x)) (some 8) (.sstr x)
theorem q8:M6 prog (run prog (pSo k) 60) o8 (o8.toList.drop 1) (Q8 (ρN d V v (.tuple [.bool true,.bad,.bad]) true) (some 18) (.tuple [.sstr x,.bool true])) (BL d V v)=some (ρE d V v x,BL d V v,[]):=by kernel_rfl
theorem q9:exS k c9 (ρE d V v x) (BL d V v) sL 13=brK (decide (v.length+1 < 2147483648/\v.length=v.length)) (some (.normal,lfL d V (v.length+1) (K3 v.length (C9 v) [.sstr x]))) none:=by kernel_rfl
end Go.Proofs.Tryz
namespace Go.Proofs.Tryz
open Go.Ad
def spR:SP:=⟨dr 4++[.flist 1]++dr 21,dd8⟩
theorem G8m (k:Nat) (d:Drw) (V v:List Txt):F3 prog (D5 prog (pSo k) 60) A7z r10 (ρN d V v (.tuple [.bool false]) false) (BL d V v) (D5q (fun _=>[.frz 4]) (fun _=>spR) 8 []) =
  brK (D8 (v.length=v.length/\C9 v=C9 (P9 v.length (C9 v))/\(9:Nat)=9/\v.length < 4611686018427387904)) (brK (D8 (v.length=(R7 (P9 v.length (C9 v))).length/\C9 (R7 (P9 v.length (C9 v)))=C9 (P9 v.length (C9 (R7 (P9 v.length (C9 v)))))/\(9:Nat)=9/\v.length < 4611686018427387904))
   (fzT .ret (Lib.compact (P9 v.length (C9 (R7 (P9 v.length (C9 v)))))).length (C9 (Lib.compact (P9 v.length (C9 (R7 (P9 v.length (C9 v)))))))) none) none:=by kernel_rfl
theorem G1g {A:Amb} {k:Nat} (hp:PrimOK prog A (pSo k)) (d:Drw) (V v:List Txt) (hv:v.length < 4611686018427387904) (L:List Txt) (hL:Go.Ad.setF v=L) {D:List Nat} (hD:∀ b,b ∈ D->8<=b) :
  SEB prog A (Bg 8) r10 ⟨ρN d V v (.tuple [.bool false]) false,BL d V v,D⟩ .ret ⟨spR.rho [.n L.length,.fr (A4t (C9 L))],spR.heap [.n L.length,.fr (A4t (C9 L))],[]⟩:=by
 have hk:=G8m k d V v
 rw [A1t] at hk
 have e:P9 v.length (C9 (R7 v))=R7 v:=by
  have:=A1t (R7 v)
  rw [A3a] at this
  exact this
 rw [e,D6 ⟨rfl,rfl,rfl,hv⟩,D6 ⟨(A3a v).symm,rfl,rfl,hv⟩,show Lib.compact (R7 v)=Go.Ad.setF v from A6o v,hL] at hk
 unfold fzT at hk
 rw [D6 (A8t L)] at hk
 refine SEB.wk_in (Wk.dset (D2:=[]) fun b hb hlt=>?_) (SEB.of_KG (e:=.ret) (sp:=fun _=>spR) (gs:=fun _=>[.frz 4]) (B0:=Bg 8) (ds:=[]) F7 F8 hp (.none _) rfl hk rfl)
 have:=hD b hb
 have h8:(Bg 8).length=8:=rfl
 omega
theorem B4c (d:Drw) (V:List Txt):(B6 d V++[AObj.miter]).length=13:=rfl
theorem okL:okD 13 [] 0 sL.h=true:=by kernel_rfl
theorem G6n {A:Amb} {k:Nat} (hp:PrimOK prog A (pSo k)) {d:Drw} {s:Txt} (h1:GrD d) (h2:s ∈ H7 d) (h3:d.l.length < k) (hlen:(dfs (nbO d) (k - 1) [] s).length < 1000000) :
  SEB prog A (Bg 8) A0k ⟨[.agg d.av,.sstr s]++List.replicate 24 G6,Bg 8,[]⟩ .ret ⟨spR.rho [.n (Go.Ad.setF (dfs (nbO d) (k - 1) [] s)).length,.fr (A4t (C9 (Go.Ad.setF (dfs (nbO d) (k - 1) [] s))))],spR.heap [.n (Go.Ad.setF (dfs (nbO d) (k - 1) [] s)).length,.fr (A4t (C9 (Go.Ad.setF (dfs (nbO d) (k - 1) [] s))))],[]⟩:=by
 have hc:E94 k (A9 d) s [] (A94 s) (H94 d []):=by
  refine ⟨⟨?_,?_,?_⟩,rfl,?_⟩
  ·rw [E8]; exact h1
  ·rw [E8]; exact h2
  ·rw [E8]
   unfold left
   have:=List.length_filter_le (fun x=>decide (x ∉ ([]:List Txt))) (H7 d)
   have h4:(H7 d).length=d.l.length:=by unfold H7; rw [List.length_map]
   omega
  ·rw [E8]
 have hk4:=rn4 k d s
 rw [D6 hc,E8] at hk4
 generalize dfs (nbO d) (k - 1) [] s=V at hk4 hlen ⊢
 rw [C1f]
 refine SEB.seq (SEB.of_K F7 F8 hp (.none _) (rn0 k d s)) (SEB.seq (SEB.of_K F7 F8 hp (.none _) (rn1 k d s)) (SEB.seq (SEB.of_K F7 F8 hp (.none _) (rn2 k d s)) (SEB.seq (SEB.of_K F7 F8 hp (.none _) (rn3 k d s)) (SEB.seq (SEB.of_K F7 F8 hp (.none _) hk4) (SEB.seq (SEB.of_K F7 F8 hp (.none _) (rn5 k d V)) ?_)))))
 have hx:=SEBx.rangeSet (A:=A) (B0:=Bg 8) (prims:=pSo k) (n:=60) F7 F8 hp (ρ0:=ρ6 d V) (ρ1:=Q8 (ρ6 d V) (some 14) (.map (some 9))) (Bs:=B6 d V) (B1:=B6 d V) (D0:=((((([]++[])++[10])++[])++[11])++[9])++[]) (D1:=[]) (mb:=9) (it:=15) (tn:=16) (te:=18) (tok:=17) (mt:=14) (i1:=6) (i2:=7) (i3:=8) (id0:=0) (id1:=1)
  (ops1:=o6) (ops2:=o7) (ops3:=o8) (c4:=c9) (l:=V) (l1:=o6.toList.dropLast) (o1:=F8f (A9b m6)) (ty:=130) (kt:=9) (et:=4) (ρ:=fun v=>ρL d V v) (Bv:=fun v=>BL d V v) (ρn:=fun v=>ρN d V v (.tuple [.bool true,.bad,.bad]) true) (ρe:=fun v=>ρN d V v (.tuple [.bool false]) false)
  (by kernel_rfl) (by kernel_rfl) (by kernel_rfl) (by kernel_rfl) (by kernel_rfl) (q6 k d V) rfl rfl
  ((Wk.of_nrmP (sp:=fun _=>sL) (ds:=[]) (m:=13) (B4c d V) (q6s d V) okL).trans (Wk.rowsQ (A:=A) (B0:=B6 d V++[.miter]) (ρ:=sL.rho (lfL d V 0 fun _=>[])) (D:=[]) (B:=sL.heap (lfL d V 0 fun _=>[])) (b:=13) (r':=C9 []) (ty:=9) rfl (fun h=>by rw [B4c] at h; omega) (fun i hi=>(Nat.not_lt_zero i hi).elim)))
  (fun _=>rfl) (fun _=>rfl) (o2:=D8t (A9b l6)) (by kernel_rfl) (by kernel_rfl) (by kernel_rfl) (by kernel_rfl) (fun v=>q7t k d V v) (fun v=>q7f k d V v) (fun _=>rfl) (fun _=>rfl) (fun _=>rfl)
  (o3:=D8t (A9b b8)) (by kernel_rfl) (by kernel_rfl) (by kernel_rfl) (by kernel_rfl) (fun v x hv _=>⟨ρE d V v x,q8 k d V v x,by
   have hk:=q9 k d V v x
   rw [dT (show v.length+1 < 2147483648/\v.length=v.length from ⟨by omega,rfl⟩)] at hk
   have h:=SEB.of_KP (A:=A) (e:=.normal) (sp:=fun _=>sL) (B0:=B6 d V++[.miter]) (ds:=[]) F7 F8 hp (.none _) (B4c d V) hk okL
   refine SEB.wk_out h ?_
   have w:=Wk.rowsQ (A:=A) (B0:=B6 d V++[.miter]) (ρ:=sL.rho (lfL d V (v.length+1) (K3 v.length (C9 v) [.sstr x]))) (D:=[]) (B:=sL.heap (lfL d V (v.length+1) (K3 v.length (C9 v) [.sstr x]))) (b:=13) (r':=C9 (v++[x])) (ty:=9) rfl (fun h=>by rw [B4c] at h; omega) (fun i hi=>A1z v x hi)
   have e:(v++[x]).length=v.length+1:=by simp
   unfold ρL BL
   rw [e]
   exact w⟩)
 rw [<- F8i] at hx
 refine SEBx.seq hx fun st hQ=>?_
 obtain ⟨v,hv1,hv2,rfl⟩:=hQ
 refine G1g hp d V v (by omega) (Go.Ad.setF V) (B9q hv1) fun b hb=>?_
 simp at hb
 have h12:(B6 d V).length=12:=rfl
 omega
end Go.Proofs.Tryz
namespace Go.Proofs.Tryz
open Go.Ad
theorem C5d {d:Drw} (h:GrD d) {s:Txt} (hs:s ∈ H7 d):(dfs (nbO d) 99 [] s).length<=64:=by
 have hl:(H7 d).length=d.l.length:=by unfold H7; rw [List.length_map]
 have h1:=h.len
 obtain ⟨q1,q2⟩:=D8i (nb:=nbO d) (u:=H7 d) (fun x hx y hy=>B3h h hx y hy) (k:=99) hs (by omega)
 have:=A5i (u:=H7 d) q1 fun x hx=>by
  have hr:=(q2 x).1 hx
  clear hx q1 q2
  induction hr with
  | one h2=>exact B3h h hs _ h2
  | more _ h2 ih=>exact B3h h ih _ h2
 omega
theorem B9l {nb nb':Txt->List Txt} (h:∀ s x,x ∈ nb s ↔ x ∈ nb' s):∀ (n:Nat) (o:List Txt),SS o->X8 nb n o=X8 nb' n o
 | 0,_,_=>rfl
 | n+1,o,ho=>by
  obtain ⟨p1,p2⟩:=A5k nb o o ho
  obtain ⟨q1,q2⟩:=A5k nb' o o ho
  have e:B5c nb o=B5c nb' o:=C3g p1 q1 fun x=>by
   show x ∈ o.foldl (fun o x=>(nb x).foldl P5 o) o ↔ x ∈ o.foldl (fun o x=>(nb' x).foldl P5 o) o
   rw [p2,q2]
   constructor
   ·rintro (h1 | ⟨y,h1,h2⟩)
    ·exact .inl h1
    ·exact .inr ⟨y,h1,(h y x).1 h2⟩
   ·rintro (h1 | ⟨y,h1,h2⟩)
    ·exact .inl h1
    ·exact .inr ⟨y,h1,(h y x).2 h2⟩
  rw [X8,X8,<- e]
  exact B9l h n _ p1
theorem B8z {d:Drw} (h:GrD d) {s:Txt} (hs:s ∈ H7 d):Go.Ad.setF (dfs (nbO d) 99 [] s)=M9 d s:=by
 have hl:(H7 d).length=d.l.length:=by unfold H7; rw [List.length_map]
 have h1:=h.len
 rw [D5n (nb:=nbO d) (u:=H7 d) (fun x hx y hy=>B3h h hx y hy) (k:=99) (n:=d.l.length) hs (by omega) (by omega)]
 have e:Go.Ad.setF (nbO d s)=nbR d s:=B2i (D5j d s) (fun x=>D5l d s x)
 rw [e]
 exact (B9l (fun s x=>D5l d s x) _ _ (D5j d s)).symm
def pNs:Prims:=pNh.addt 45 (R6 B4f VNe)
theorem E7p {A:Amb} (hT:Tab A) (hG:gN prog<=A.G):PrimOK prog A pNs:=by
 have h0:=C6h hT hG
 refine PrimOK.addParB h0 hG B4f VNe func45 (show f45.body=some A0k by kernel_rfl) fun x v hv=>?_
 obtain ⟨hz,hv⟩:=Tr.br1 hv
 cases hv
 obtain ⟨d,s⟩:=x
 obtain ⟨h1,h2⟩:=J4 hz
 dsimp only at h1 h2
 have h3:=h1.len
 have hs:=G6n (k:=100) (E7t hT hG 100) h1 h2 (by omega) (by have:=C5d h1 h2; show (dfs (nbO d) 99 [] s).length < _; omega)
 rw [show (100:Nat) - 1=99 from rfl,B8z h1 h2] at hs
 refine ⟨.ret,⟨spR.rho [.n (M9 d s).length,.fr (A4t (C9 (M9 d s)))],spR.heap [.n (M9 d s).length,.fr (A4t (C9 (M9 d s)))],[]⟩,[V7 (M9 d s)],?_,by simp,by kernel_rfl,rfl,rfl,fun ι y hy=>hy⟩
 rw [gsz]
 exact hs
end Go.Proofs.Tryz
namespace Go.Proofs.Tryz
open Go.Ad
def A8p:Code:=I9 (J7 0 (f41.body.getD .skip))
def sp41a:SP:=⟨dr 1++[.is (.ptr (some (8,0)))]++dr 1++[.list 9]++dr 3++[.flist 9]++[.int .i64]++[.int .i64]++dr 10,dd8++[.any,.vec 1 9]⟩
def B0q:AEx->SP
 | .exit 0=>⟨dr 3++[.list 9]++dr 16,dd8++[.any,.vec 1 9]⟩
 | _=>sp41a
theorem D1y (d:Drw) (T:List Txt) (a n:Int):F3 prog (D5 prog pNs 60) (pNs.blk 41) A8p (sp41a.rho [.n T.length,.n d.l.length,.fr (A7 Fea.fv d.l),.i a,.i n,.o (A9 d),.n T.length,.r (C9 T)]) (sp41a.heap [.n T.length,.n d.l.length,.fr (A7 Fea.fv d.l),.i a,.i n,.o (A9 d),.n T.length,.r (C9 T)]) (H9 B0q 9 [9]) =
  brK (decide (n < a)) (brK (decide (0<=n/\n < (d.l.length:Int))) (brK (D8 (okR Frm.fv (d.l.getD n.toNat default).l.length (A7 Frm.fv (d.l.getD n.toNat default).l))) (brK (D8 (SmlF (feE (d.l.getD n.toNat default)))) (brK (decide (T.length+(U5 (feE (d.l.getD n.toNat default)) (ofR Frm.fv (d.l.getD n.toNat default).l.length (A7 Frm.fv (d.l.getD n.toNat default).l)).length).length < 2147483648/\T.length=T.length)) (some (.normal,[.n (T.length+(U5 (feE (d.l.getD n.toNat default)) (ofR Frm.fv (d.l.getD n.toNat default).l.length (A7 Frm.fv (d.l.getD n.toNat default).l)).length).length),.n (d.l.length),.fr (A7 Fea.fv d.l),.i (a),.i (W (n+1)),.o (A9 d),.n (T.length+(U5 (feE (d.l.getD n.toNat default)) (ofR Frm.fv (d.l.getD n.toNat default).l.length (A7 Frm.fv (d.l.getD n.toNat default).l)).length).length),.r (B7p T.length (C9 T) (avR (A7 txF (U5 (feE (d.l.getD n.toNat default)) (ofR Frm.fv (d.l.getD n.toNat default).l.length (A7 Frm.fv (d.l.getD n.toNat default).l)).length))))])) none) none) none) none) (some (.exit 0,[.n (T.length),.o (A9 d),.n (T.length),.r (C9 T)])):=by kernel_rfl
def usO (d:Drw) (n:Nat):List Txt:=(d.l.take n).flatMap fun x=>U5 x x.l.length
theorem B9x {d:Drw} {n:Nat} (h:n < d.l.length):usO d (n+1)=usO d n++U5 (D9 d n) (D9 d n).l.length:=by
 unfold usO D9
 rw [List.take_succ_eq_append_getElem h,List.flatMap_append,List.getD_eq_getElem?_getD,List.getElem?_eq_getElem h]
 simp
theorem C7s {d:Drw} (h:GrD d):∀ n,n<=d.l.length->(usO d n).length<=10000*n
 | 0,_=>by simp [usO]
 | n+1,hn=>by
  rw [B9x (by omega),List.length_append]
  have h2:=C7s h n (by omega)
  have h3:=h.sml n (by omega)
  have h4:=A7y h3 _ (Nat.le_refl _)
  have h5:=h3.l
  omega
theorem E3m (O M:List Txt) {i:Nat}:B7p O.length (C9 O) (avR (A7 txF M)) i=C9 (O++M) i:=by
 unfold B7p avR A7 C9 txF
 split
 ·rename_i h
  rw [List.getD_eq_getElem?_getD,List.getD_eq_getElem?_getD,List.getElem?_append_left h]
 ·rename_i h
  rw [List.getD_eq_getElem?_getD,List.getD_eq_getElem?_getD,List.getElem?_append_right (by omega)]
  rfl
def lf41 (d:Drw) (n:Nat) (m:Nat) (r:Nat->List AV):List Lf:=[.n m,.n d.l.length,.fr (A7 Fea.fv d.l),.i d.l.length,.i n,.o (A9 d),.n m,.r r]
def B5q (d:Drw) (n:Nat):List Lf:=lf41 d n (usO d n).length (C9 (usO d n))
def A4d (d:Drw):List Lf:=lf41 d 0 0 (fun _=>[])
def D7o (_:List Lf) (d:Drw):List Lf:=[.n (usO d d.l.length).length,.o (A9 d),.n (usO d d.l.length).length,.r (C9 (usO d d.l.length))]
def A9x:List Lf->Drw
 | [_,_,_,_,_,.o o,_,_]=>I1 o
 | _=>default
theorem C9c (d:Drw):A9x (A4d d)=d:=by simp [A9x,A4d,lf41,E8]
theorem SEB.step41a {A:Amb} (hq:PrimOK prog A pNs) (d:Drw) (hd:GrD d) (n:Nat) (hn:n < d.l.length) (Bb:Heap) (hB:Bb.length=9) :
  SEB prog A Bb A8p ⟨sp41a.rho (B5q d n),sp41a.heap (B5q d n),[9]⟩ .normal ⟨sp41a.rho (B5q d (n+1)),sp41a.heap (B5q d (n+1)),[9]⟩:=by
 have hl:=hd.len
 have hs:SmlF (d.l.getD n default):=hd.sml n hn
 have hlen:=C7s hd n (by omega)
 have h3:=A7y hs _ (Nat.le_refl _)
 have h4:=hs.l
 have hk:=D1y d (usO d n) d.l.length n
 simp only [Int.toNat_natCast,L8,A7p,J3 Frm.inj] at hk
 rw [dT (show (n:Int) < (d.l.length:Int) by omega),dT (show 0<=(n:Int)/\(n:Int) < (d.l.length:Int) by omega),D6 hs,
  dT (show (usO d n).length+(U5 (d.l.getD n default) (d.l.getD n default).l.length).length < 2147483648/\True from ⟨by omega,trivial⟩),C3i (show n < 2 ^ 62 by omega)] at hk
 have hbl:BlkOK prog A (pNs.blk 41) A8p:=(hq.blk 41 f41 (f41.body.getD .skip) func41 (show f41.body=some (f41.body.getD .skip) by kernel_rfl)).sub (id:=0) (by kernel_rfl)
 have h3:=SEB.of_KP (e:=.normal) (sp:=B0q) (B0:=Bb) (ds:=[9]) F7 F8 hq hbl hB hk rfl
 refine SEB.wk_out h3 ?_
 unfold B5q
 rw [B9x hn]
 have w:=Wk.rowsQ (A:=A) (B0:=Bb) (ρ:=sp41a.rho (lf41 d (n+1) ((usO d n).length+(U5 (d.l.getD n default) (d.l.getD n default).l.length).length) (B7p (usO d n).length (C9 (usO d n)) (avR (A7 txF (U5 (d.l.getD n default) (d.l.getD n default).l.length)))))) (D:=[9]) (B:=sp41a.heap (lf41 d (n+1) ((usO d n).length+(U5 (d.l.getD n default) (d.l.getD n default).l.length).length) (B7p (usO d n).length (C9 (usO d n)) (avR (A7 txF (U5 (d.l.getD n default) (d.l.getD n default).l.length)))))) (b:=9) (r':=C9 (usO d n++U5 (d.l.getD n default) (d.l.getD n default).l.length)) (ty:=9) rfl (fun h=>by omega) (fun i _=>E3m _ _)
 have e:(usO d n++U5 (D9 d n) (D9 d n).l.length).length=(usO d n).length+(U5 (d.l.getD n default) (d.l.getD n default).l.length).length:=by exact List.length_append
 rw [e]
 exact w
theorem SEB.end41a {A:Amb} (hq:PrimOK prog A pNs) (d:Drw) (Bb:Heap) (hB:Bb.length=9) :
  SEB prog A Bb A8p ⟨sp41a.rho (B5q d d.l.length),sp41a.heap (B5q d d.l.length),[9]⟩ (.exit 0) ⟨(B0q (.exit 0)).rho (D7o (A4d d) d),(B0q (.exit 0)).heap (D7o (A4d d) d),[9]⟩:=by
 have hk:=D1y d (usO d d.l.length) d.l.length d.l.length
 rw [dF (show ¬ (d.l.length:Int) < (d.l.length:Int) by omega)] at hk
 have hbl:BlkOK prog A (pNs.blk 41) A8p:=(hq.blk 41 f41 (f41.body.getD .skip) func41 (show f41.body=some (f41.body.getD .skip) by kernel_rfl)).sub (id:=0) (by kernel_rfl)
 exact SEB.of_KP (e:=.exit 0) (sp:=B0q) (B0:=Bb) (ds:=[9]) F7 F8 hq hbl hB hk rfl
theorem F9g {A:Amb} (d:Drw) (Bb:Heap) (hB:Bb.length=9):Wk A Bb ⟨sp41a.rho (A4d d),sp41a.heap (A4d d),[9]⟩ ⟨sp41a.rho (B5q d 0),sp41a.heap (B5q d 0),[9]⟩:=by
 have e:usO d 0=[]:=by simp [usO]
 unfold B5q
 rw [e]
 exact Wk.rowsQ (A:=A) (B0:=Bb) (ρ:=sp41a.rho (A4d d)) (D:=[9]) (B:=sp41a.heap (A4d d)) (b:=9) (r':=C9 []) (ty:=9) rfl (fun h=>by omega) (fun i hi=>(Nat.not_lt_zero i hi).elim)
def F7k:Blk:=hookP sp41a 9 [9] (itT (B0q (.exit 0)) 0 (.exit 0) A9x A4d D7o GrD)
theorem E5b {A:Amb} {q:Prims} (h0:PrimOK prog A pNs) (hq:PrimOK prog A q):PrimOK prog A (q.addb 41 0 F7k) :=
 SEB.iterR (P:=prog) (sp0:=sp41a) (sp:=sp41a) (sq:=B0q (.exit 0)) (m:=9) (ds:=[9]) (ee:=.exit 0) (dec:=A9x) (L0:=A4d) (L:=B5q) (Le:=D7o) (N:=fun d=>d.l.length) (Inv:=GrD) hq func41 (show f41.body=some (f41.body.getD .skip) by kernel_rfl) (body:=A8p) (by kernel_rfl)
  rfl (by simp) (fun _=>⟨.inr rfl,.inr rfl,.inr rfl,.inr rfl,.inr rfl,.inr rfl,.inr rfl,.inr rfl,.inr rfl,.inl rfl,trivial⟩) (fun d _ Bb hB=>F9g d Bb hB) (fun d hd n hn Bb hB=>SEB.step41a h0 d hd n hn Bb hB) (fun d _ Bb hB=>SEB.end41a h0 d Bb hB)
def pUs0:Prims:=((pNs.addh 141 F0g).addh 142 F0h).addb 41 0 F7k
theorem F4l {A:Amb} (hT:Tab A) (hG:gN prog<=A.G):PrimOK prog A pUs0:=by
 have h0:=E7p hT hG
 exact E5b h0 (PrimOK.put (PrimOK.put h0 func141 (by kernel_rfl) (D6v hT hG)) func142 (by kernel_rfl) D6w)
def spUs:SP:=⟨dr 2++[.flist 1]++dr 17,dd8⟩
end Go.Proofs.Tryz
namespace Go.Proofs.Tryz
open Go.Ad
def v41 (d:Drw):List Txt:=usO (A9x (A4d d)) (A9x (A4d d)).l.length
theorem D3t (d:Drw):F3 prog (D5 prog pUs0 60) (pUs0.blk 41) (f41.body.getD .skip) ([.agg d.av]++List.replicate 19 G6) (Bg 8) (D5q (fun _=>[.frz 2]) (fun _=>spUs) 8 []) =
  brK (itC A4d A9x GrD (A4d d)) (brK (D8 ((v41 d).length=(v41 d).length/\C9 (v41 d)=C9 (P9 (v41 d).length (C9 (v41 d)))/\(9:Nat)=9/\(v41 d).length < 4611686018427387904)) (brK (D8 ((v41 d).length=(R7 (P9 (v41 d).length (C9 (v41 d)))).length/\C9 (R7 (P9 (v41 d).length (C9 (v41 d))))=C9 (P9 (v41 d).length (C9 (R7 (P9 (v41 d).length (C9 (v41 d))))))/\(9:Nat)=9/\(v41 d).length < 4611686018427387904))
   (fzT .ret (Lib.compact (P9 (v41 d).length (C9 (R7 (P9 (v41 d).length (C9 (v41 d))))))).length (C9 (Lib.compact (P9 (v41 d).length (C9 (R7 (P9 (v41 d).length (C9 (v41 d))))))))) none) none) none:=by kernel_rfl
theorem B0v (d:Drw):∀ n,n<=d.l.length->SS (A5n d n)/\∀ x,x ∈ A5n d n ↔ x ∈ usO d n
 | 0,_=>⟨List.Pairwise.nil,fun x=>by simp [A5n,usO]⟩
 | n+1,hn=>by
  obtain ⟨h1,h2⟩:=B0v d n (by omega)
  rw [B3n (by omega),B9x (by omega)]
  obtain ⟨q1,q2⟩:=A2x (l:=K8 (D9 d n) (D9 d n).l.length) h1
  refine ⟨q1,fun x=>?_⟩
  rw [q2,h2,List.mem_append,B2c (D9 d n) x _ (Nat.le_refl _)]
theorem F6o (d:Drw):Go.Ad.setF (usO d d.l.length)=A2r d :=
 B2i (B0v d _ (Nat.le_refl _)).1 (B0v d _ (Nat.le_refl _)).2
theorem G2p (d:Drw):v41 d=usO d d.l.length:=by unfold v41; rw [C9c]
def pUs:Prims:=pNs.addt 41 (R6 Q4 VNg)
theorem E7u {A:Amb} (hT:Tab A) (hG:gN prog<=A.G):PrimOK prog A pUs:=by
 have h0:=E7p hT hG
 have h2:=F4l hT hG
 refine PrimOK.addParB h0 hG Q4 VNg func41 (show f41.body=some (f41.body.getD .skip) by kernel_rfl) fun d v hv=>?_
 obtain ⟨hz,hv⟩:=Tr.br1 hv
 cases hv
 have hz:=J4 hz
 have hl:=hz.len
 have hb:BlkOK prog A (pUs0.blk 41) (f41.body.getD .skip):=h2.blk 41 f41 (f41.body.getD .skip) func41 (show f41.body=some (f41.body.getD .skip) by kernel_rfl)
 have hk:=D3t d
 have hn:(usO d d.l.length).length < 4611686018427387904:=by
  have:=C7s hz _ (Nat.le_refl _)
  omega
 have e0:=F6o d
 rw [X7 (C9c d) hz,G2p] at hk
 generalize usO d d.l.length=v at hk hn e0
 rw [A1t] at hk
 have e:P9 v.length (C9 (R7 v))=R7 v:=by
  have:=A1t (R7 v)
  rw [A3a] at this
  exact this
 rw [e,D6 ⟨rfl,rfl,rfl,hn⟩,D6 ⟨(A3a v).symm,rfl,rfl,hn⟩,show Lib.compact (R7 v)=Go.Ad.setF v from A6o v,e0] at hk
 unfold fzT at hk
 rw [D6 (A8t (A2r d))] at hk
 refine ⟨.ret,⟨spUs.rho [.n (A2r d).length,.fr (A4t (C9 (A2r d)))],spUs.heap [.n (A2r d).length,.fr (A4t (C9 (A2r d)))],[]⟩,[V7 (A2r d)],?_,by simp,by kernel_rfl,rfl,rfl,fun ι y hy=>hy⟩
 rw [gsz]
 exact SEB.of_KG (e:=.ret) (sp:=fun _=>spUs) (gs:=fun _=>[.frz 2]) (B0:=Bg 8) (ds:=[]) F7 F8 h2 hb rfl hk rfl
end Go.Proofs.Tryz
namespace Go.Proofs.Tryz
open Go.Ad
theorem D1g {d:Drw} {n:Nat} (h:n < d.l.length):(d.l.getD n default).s ∈ H7 d:=by
 unfold H7
 rw [List.getD_eq_getElem?_getD,List.getElem?_eq_getElem h]
 exact List.mem_map.2 ⟨_,List.getElem_mem h,rfl⟩
theorem B8y {d:Drw} (h:GrD d) {s:Txt} (hs:s ∈ H7 d):(M9 d s).length<=64:=by
 have h1:=C5d h hs
 rw [<- B8z h hs]
 have h2:=V5 (dfs (nbO d) 99 [] s) []
 unfold Go.Ad.setF
 simp only [List.length_nil,Nat.zero_add] at h2
 omega
def ownB (d:Drw) (n:Nat):Bool:=!decide ((d.l.getD n default).s ∈ M9 d (d.l.getD n default).s)
def D3p:Code:=I9 (J7 0 (f13.body.getD .skip))
def sp13:SP:=⟨dr 1++[.is (.ptr (some (8,0)))]++dr 17++[.flist 9]++[.int .i64]++[.int .i64]++dr 13,dd8++[.any]⟩
def D9t:AEx->SP
 | .ret=>⟨dr 2++[.int .i64]++dr 32,dd8++[.any]⟩
 | .exit 0=>⟨dr 1++[.is (.ptr (some (8,0)))]++dr 33,dd8++[.any]⟩
 | _=>sp13
theorem F4t (d:Drw) (n:Int):F3 prog (D5 prog pUs 60) (pUs.blk 13) D3p (sp13.rho [.n d.l.length,.fr (A7 Fea.fv d.l),.i d.l.length,.i n,.o (A9 d)]) (sp13.heap [.n d.l.length,.fr (A7 Fea.fv d.l),.i d.l.length,.i n,.o (A9 d)]) (H9 D9t 9 []) =
  brK (decide (n < (d.l.length:Int))) (brK (decide (0<=n/\n < (d.l.length:Int))) (brK (D8 (okR Fea.fv d.l.length (A7 Fea.fv d.l)) && D8 (okR Dim.fv d.m.length (A7 Dim.fv d.m))) (brK (D8 (GrD (drE d)/\(d.l.getD n.toNat default).s ∈ H7 (drE d))) (brK (D8 (okR txF (M9 (drE d) (d.l.getD n.toNat default).s).length (A7 txF (M9 (drE d) (d.l.getD n.toNat default).s)))) (brK (decide ((ofR txF (M9 (drE d) (d.l.getD n.toNat default).s).length (A7 txF (M9 (drE d) (d.l.getD n.toNat default).s))).length < 4611686018427387904)) (brK (decide ((d.l.getD n.toNat default).s ∈ ofR txF (M9 (drE d) (d.l.getD n.toNat default).s).length (A7 txF (M9 (drE d) (d.l.getD n.toNat default).s)))) (some (.ret,[.i (16),.o (A9 d)])) (some (.normal,[.n (d.l.length),.fr (A7 Fea.fv d.l),.i ((d.l.length:Int)),.i (W (n+1)),.o (A9 d)]))) none) none) none) none) none) (some (.exit 0,[.o (A9 d)])):=by kernel_rfl
def L13 (x:Drw) (n:Nat):List Lf:=[.n x.l.length,.fr (A7 Fea.fv x.l),.i x.l.length,.i n,.o (A9 x)]
def F0i:List Lf->Nat->List Lf
 | [_,_,_,_,o],_=>[.i 16,o]
 | _,_=>[]
def F0p:List Lf->List Lf
 | [_,_,_,_,o]=>[o]
 | _=>[]
def N13 (x:Drw):Nat:=x.l.length
def p13 (x:Drw) (n:Nat):Bool:=ownB x n
def E5w (x:Drw):Prop:=GrD x
def B7r:List Lf->Drw
 | [_,_,_,_,.o o]=>I1 o
 | _=>default
theorem G1z (x:Drw) (hx:E5w x) (n:Nat) (hn:n<=N13 x):F3 prog (D5 prog pUs 60) (pUs.blk 13) D3p (sp13.rho (L13 x n)) (sp13.heap (L13 x n)) (H9 D9t 9 [])=some (if n < N13 x then (bif p13 x n then (.normal,L13 x (n+1)) else (.ret,F0i (L13 x 0) n)) else (.exit 0,F0p (L13 x 0))):=by
 have h1:GrD x:=hx
 have hl:=h1.len
 simp only [L13,F0i,F0p]
 rw [F4t,I4 hn (show N13 x < 2 ^ 62 by show x.l.length < 2 ^ 62; omega)]
 simp only [Int.toNat_natCast,L8,Bool.and_self,Y9,J3 U9]
 by_cases h:n < N13 x
 ·rw [if_pos h]
  simp only [N13] at h
  have h2:=D1g h
  have h3:=B8y h1 h2
  refine A8 (dT (by omega)) (A8 (dT (by omega)) (A8 rfl (A8 (D6 ⟨h1,h2⟩) ?_)))
  refine A8 rfl (A8 (dT (by omega)) ?_)
  by_cases c:(x.l.getD n default).s ∈ M9 x (x.l.getD n default).s
  ·have hp:p13 x n=false:=by unfold p13 ownB; rw [dT c]; rfl
   rw [hp,cond_false]
   exact A8 (dT c) rfl
  ·have hp:p13 x n=true:=by unfold p13 ownB; rw [dF c]; rfl
   rw [hp,cond_true]
   exact C8 (dF c) rfl
 ·rw [if_neg h]
  simp only [N13] at h
  exact C8 (dF (by omega)) rfl
def G3g:Blk:=hookP sp13 9 [] (fdT D9t 0 .ret (.exit 0) B7r L13 F0i F0p N13 p13 E5w)
theorem F2p {A:Amb} {q:Prims} (h0:PrimOK prog A pUs) (hq:PrimOK prog A q):PrimOK prog A (q.addb 13 0 G3g) :=
 SEB.findR (id:=0) (ds:=[]) (dec:=B7r) (sp:=sp13) (sq:=D9t) (m:=9) (eb:=.ret) (ee:=.exit 0) (L:=L13) (Lb:=F0i) (Le:=F0p) (N:=N13) (p:=p13) (Inv:=E5w) (k:=60) F7 F8 h0 hq func13 (show f13.body=some (f13.body.getD .skip) by kernel_rfl) (body:=D3p) (by kernel_rfl)
  rfl rfl rfl rfl (by simp) (by simp) (fun _ _=>⟨⟨.inr rfl,.inr rfl,.inr rfl,.inr rfl,.inr rfl,.inr rfl,.inr rfl,.inr rfl,.inr rfl,trivial⟩,⟨.inr rfl,.inr rfl,.inr rfl,.inr rfl,.inr rfl,.inr rfl,.inr rfl,.inr rfl,.inr rfl,trivial⟩⟩) G1z
def D3q:Code:=I9 (J7 0 (f14.body.getD .skip))
def sp14:SP:=⟨dr 1++[.is (.ptr (some (8,0)))]++dr 4++[.int .i64]++dr 40,dd8++[.any]⟩
def D9u:AEx->SP
 | .ret=>⟨dr 2++[.int .i64]++dr 44,dd8++[.any]⟩
 | .exit 0=>⟨dr 1++[.is (.ptr (some (8,0)))]++dr 45,dd8++[.any]⟩
 | _=>sp14
theorem F4u (d:Drw) (n:Int):F3 prog (D5 prog pUs 60) (pUs.blk 14) D3q (sp14.rho [.i n,.o (A9 d)]) (sp14.heap [.i n,.o (A9 d)]) (H9 D9u 9 []) =
  brK (decide (n < (d.l.length:Int))) (brK (decide (0<=n/\n < (d.l.length:Int))) (brK (D8 (okR Fea.fv d.l.length (A7 Fea.fv d.l)) && D8 (okR Dim.fv d.m.length (A7 Dim.fv d.m))) (brK (D8 (GrD (drE d)/\(d.l.getD n.toNat default).s ∈ H7 (drE d))) (brK (decide (0<=n/\n < (d.l.length:Int))) (brK (D8 (okR txF (M9 (drE d) (d.l.getD n.toNat default).s).length (A7 txF (M9 (drE d) (d.l.getD n.toNat default).s)))) (brK (decide ((ofR txF (M9 (drE d) (d.l.getD n.toNat default).s).length (A7 txF (M9 (drE d) (d.l.getD n.toNat default).s))).length < 4611686018427387904)) (brK (decide ((d.l.getD n.toNat default).s ∈ ofR txF (M9 (drE d) (d.l.getD n.toNat default).s).length (A7 txF (M9 (drE d) (d.l.getD n.toNat default).s)))) (some (.ret,[.i (16),.o (A9 d)])) (some (.normal,[.i (W (n+1)),.o (A9 d)]))) none) none) none) none) none) none) (some (.exit 0,[.o (A9 d)])):=by kernel_rfl
def L14 (x:Drw) (n:Nat):List Lf:=[.i n,.o (A9 x)]
def F0j:List Lf->Nat->List Lf
 | [_,o],_=>[.i 16,o]
 | _,_=>[]
def F0q:List Lf->List Lf
 | [_,o]=>[o]
 | _=>[]
def N14 (x:Drw):Nat:=x.l.length
def p14 (x:Drw) (n:Nat):Bool:=ownB x n
def E5x (x:Drw):Prop:=GrD x
def B7s:List Lf->Drw
 | [_,.o o]=>I1 o
 | _=>default
theorem G2a (x:Drw) (hx:E5x x) (n:Nat) (hn:n<=N14 x):F3 prog (D5 prog pUs 60) (pUs.blk 14) D3q (sp14.rho (L14 x n)) (sp14.heap (L14 x n)) (H9 D9u 9 [])=some (if n < N14 x then (bif p14 x n then (.normal,L14 x (n+1)) else (.ret,F0j (L14 x 0) n)) else (.exit 0,F0q (L14 x 0))):=by
 have h1:GrD x:=hx
 have hl:=h1.len
 simp only [L14,F0j,F0q]
 rw [F4u,I4 hn (show N14 x < 2 ^ 62 by show x.l.length < 2 ^ 62; omega)]
 simp only [Int.toNat_natCast,L8,Bool.and_self,Y9,J3 U9]
 by_cases h:n < N14 x
 ·rw [if_pos h]
  simp only [N14] at h
  have h2:=D1g h
  have h3:=B8y h1 h2
  refine A8 (dT (by omega)) (A8 (dT (by omega)) (A8 rfl (A8 (D6 ⟨h1,h2⟩) ?_)))
  refine A8 (dT (by omega)) ?_
  refine A8 rfl (A8 (dT (by omega)) ?_)
  by_cases c:(x.l.getD n default).s ∈ M9 x (x.l.getD n default).s
  ·have hp:p14 x n=false:=by unfold p14 ownB; rw [dT c]; rfl
   rw [hp,cond_false]
   exact A8 (dT c) rfl
  ·have hp:p14 x n=true:=by unfold p14 ownB; rw [dF c]; rfl
   rw [hp,cond_true]
   exact C8 (dF c) rfl
 ·rw [if_neg h]
  simp only [N14] at h
  exact C8 (dF (by omega)) rfl
def G3h:Blk:=hookP sp14 9 [] (fdT D9u 0 .ret (.exit 0) B7s L14 F0j F0q N14 p14 E5x)
theorem F2q {A:Amb} {q:Prims} (h0:PrimOK prog A pUs) (hq:PrimOK prog A q):PrimOK prog A (q.addb 14 0 G3h) :=
 SEB.findR (id:=0) (ds:=[]) (dec:=B7s) (sp:=sp14) (sq:=D9u) (m:=9) (eb:=.ret) (ee:=.exit 0) (L:=L14) (Lb:=F0j) (Le:=F0q) (N:=N14) (p:=p14) (Inv:=E5x) (k:=60) F7 F8 h0 hq func14 (show f14.body=some (f14.body.getD .skip) by kernel_rfl) (body:=D3q) (by kernel_rfl)
  rfl rfl rfl rfl (by simp) (by simp) (fun _ _=>⟨⟨.inr rfl,.inr rfl,.inr rfl,.inr rfl,.inr rfl,.inr rfl,.inr rfl,.inr rfl,.inr rfl,trivial⟩,⟨.inr rfl,.inr rfl,.inr rfl,.inr rfl,.inr rfl,.inr rfl,.inr rfl,.inr rfl,.inr rfl,trivial⟩⟩) G2a
end Go.Proofs.Tryz
namespace Go.Proofs.Tryz
open Go.Ad
theorem C8y (d:Drw) (a b c e:Lf):B7r [a,b,c,e,Lf.o (A9 d)]=d:=by simp [B7r,E8]
theorem C8z (d:Drw) (a:Lf):B7s [a,Lf.o (A9 d)]=d:=by simp [B7s,E8]
def E7g:Prims:=(pUs.addb 13 0 G3g).addb 14 0 G3h
theorem D9g {A:Amb} (hT:Tab A) (hG:gN prog<=A.G):PrimOK prog A E7g:=by
 have h0:=E7u hT hG
 exact F2q h0 (F2p h0 h0)
def B3i (d:Drw):Bool:=fdE p13 N13 d
theorem E6u (d:Drw):fdE p14 N14 d=B3i d:=rfl
theorem E6t (d:Drw):fdE p13 N13 d=B3i d:=rfl
def V4 (d:Drw):Int:=if G8 d.s ≠ 0 then G8 d.s else if A1i d ≠ 0 then A1i d else if B3i d=false then 16 else B1r d
end Go.Proofs.Tryz
namespace Go.Proofs.Tryz
open Go.Ad
theorem G5j (d:Drw):(D5 prog E7g 60).call 13 [.agg d.av] (Bg 8) F9 =
  brK (I5 d.s) (brK (G8 d.s != 0) (some (.sint IntKind.i64 (G8 d.s))) (brK (D8 (okR Fea.fv d.l.length (A7 Fea.fv d.l)) && D8 (okR Dim.fv d.m.length (A7 Dim.fv d.m))) (brK (D8 (OkD (drE d))) (brK (A1i (drE d) != 0) (some (.sint IntKind.i64 (A1i (drE d)))) (brK (fdC L13 B7r E5w [.n (d.l.length),.fr (A7 Fea.fv d.l),.i ((d.l.length:Int)),.i (0),.o (A9 d)]) (brK (fdE p13 N13 (B7r [.n (d.l.length),.fr (A7 Fea.fv d.l),.i ((d.l.length:Int)),.i (0),.o (A9 d)])) (brK (D8 (okR Fea.fv d.l.length (A7 Fea.fv d.l)) && D8 (okR Dim.fv d.m.length (A7 Dim.fv d.m))) (brK (D8 (RightD (drE d))) (some (.sint IntKind.i64 (B1r (drE d)))) none) none) (some (.sint IntKind.i64 (16)))) none)) none) none)) none:=by kernel_rfl
theorem G5k (d:Drw):(D5 prog E7g 60).call 14 [.agg d.av] (Bg 8) F9 =
  brK (I5 d.s) (brK (G8 d.s != 0) (some (.sint IntKind.i64 (G8 d.s))) (brK (D8 (okR Fea.fv d.l.length (A7 Fea.fv d.l)) && D8 (okR Dim.fv d.m.length (A7 Dim.fv d.m))) (brK (D8 (OkD (drE d))) (brK (A2q (drE d) != 0) (some (.sint IntKind.i64 (A2q (drE d)))) (brK (D8 (okR Fea.fv d.l.length (A7 Fea.fv d.l)) && D8 (okR Dim.fv d.m.length (A7 Dim.fv d.m))) (brK (D8 (OkD (drE d))) (brK (A0w (drE d) != 0) (some (.sint IntKind.i64 (A0w (drE d)))) (brK (fdC L14 B7s E5x [.i (0),.o (A9 d)]) (brK (fdE p14 N14 (B7s [.i (0),.o (A9 d)])) (brK (D8 (okR Fea.fv d.l.length (A7 Fea.fv d.l)) && D8 (okR Dim.fv d.m.length (A7 Dim.fv d.m))) (brK (D8 (RightD (drE d))) (some (.sint IntKind.i64 (B1r (drE d)))) none) none) (some (.sint IntKind.i64 (16)))) none)) none) none)) none) none)) none:=by kernel_rfl
theorem G0i (k:Int):msT k<=3:=by
 unfold msT
 generalize k.toNat=n
 match n with
 | 0 | 1 | 2 | 3 | 4 | 5 | 6 | 7 | 8=>decide
 | n+9=>simp
theorem E1f {f:Fea} {x:Frm} (h:X6 f x=0):x.l.length<=100:=by
 have:=G0i x.k
 refine Classical.byContradiction fun hn=>?_
 unfold X6 at h
 (repeat' split at h) <;> omega
theorem D4o {x:Fea} (h:X0 x=0):SmlF x:=by
 unfold X0 at h
 split at h
 ·omega
 ·split at h
  ·omega
  ·rename_i h8
   refine ⟨by omega,fun i hi=>?_⟩
   have h2:=G3c.1 h i hi
   unfold A0b at h2
   split at h2
   ·omega
   ·rename_i h3
    exact E1f (f:=x) (by omega)
theorem D5a {d:Drw} (he:A2q d=0) (hd:A0w d=0):GrD d:=by
 have h1:d.l.length<=32/\U1 (gFe d) d.l.length=0:=by
  unfold A2q at he
  split at he
  ·omega
  ·exact ⟨by omega,he⟩
 refine ⟨by omega,fun i hi=>?_,fun i hi y hy=>?_⟩
 ·have h2:=G3c.1 h1.2 i hi
  unfold gFe at h2
  split at h2
  ·omega
  ·exact D4o (by omega)
 ·have h2:=G3c.1 hd i hi
  rw [B2c _ _ _ (Nat.le_refl _)] at hy
  unfold U5 at hy
  rw [List.take_length,List.mem_flatMap] at hy
  obtain ⟨f,hf,hy⟩:=hy
  rw [List.mem_map] at hy
  obtain ⟨z,hz,rfl⟩:=hy
  obtain ⟨k,hk,rfl⟩:=List.getElem_of_mem hf
  obtain ⟨n,hn,rfl⟩:=List.getElem_of_mem hz
  have h3:=G3c.1 h2 k hk
  have e1:F6 (D9 d i) k=(D9 d i).l[k]:=by unfold F6; rw [List.getD_eq_getElem?_getD,List.getElem?_eq_getElem hk]; rfl
  rw [e1] at h3
  have h4:=G3c.1 h3 n hn
  have e2:U6 (D9 d i).l[k] n=(D9 d i).l[k].l[n]:=by unfold U6; rw [List.getD_eq_getElem?_getD,List.getElem?_eq_getElem hn]; rfl
  rw [e2] at h4
  refine G3t.1 ?_
  unfold gDt at h4
  split at h4
  ·omega
  ·omega
theorem B7z {d:Drw} (h:A1i d=0):A2q d=0/\A0w d=0:=by
 unfold A1i at h
 split at h
 ·omega
 ·exact ⟨by omega,h⟩
theorem G4j (d:Drw) (hk:OkD d):(D5 prog E7g 60).call 13 [.agg d.av] (Bg 8) F9=some (.sint .i64 (V4 d)):=by
 rw [G5j]
 simp only [L8,Bool.and_self,Y9,C8y,E6t]
 unfold V4
 refine A8 hk.nm ?_
 by_cases c1:G8 d.s ≠ 0
 ·rw [if_pos c1]; exact A8 (by simpa using c1) rfl
 rw [if_neg c1]
 refine C8 (by simpa using c1) (A8 rfl (A8 (D6 hk) ?_))
 by_cases c2:A1i d ≠ 0
 ·rw [if_pos c2]; exact A8 (by simpa using c2) rfl
 rw [if_neg c2]
 have c2':A1i d=0:=by omega
 have hz:=B7z c2'
 refine C8 (by simpa using c2') (A8 (I8 (L:=L13) (dec:=B7r) (Inv:=E5w) (x:=d) (C8y d _ _ _ _) (D5a hz.1 hz.2)) ?_)
 cases c3:B3i d with
 | false=>rw [if_pos rfl]; exact C8 rfl rfl
 | true=>rw [if_neg (by simp)]; exact A8 rfl (A8 rfl (A8 (D6 (D1w hk hz.1)) rfl))
theorem G7k (d:Drw) (hk:OkD d):(D5 prog E7g 60).call 14 [.agg d.av] (Bg 8) F9=some (.sint .i64 (V4 d)):=by
 rw [G5k]
 simp only [L8,Bool.and_self,Y9,C8z,E6u]
 unfold V4
 refine A8 hk.nm ?_
 by_cases c1:G8 d.s ≠ 0
 ·rw [if_pos c1]; exact A8 (by simpa using c1) rfl
 rw [if_neg c1]
 refine C8 (by simpa using c1) (A8 rfl (A8 (D6 hk) ?_))
 by_cases c2:A2q d ≠ 0
 ·rw [if_pos (show A1i d ≠ 0 by unfold A1i; rw [if_pos c2]; exact c2)]
  refine A8 (by simpa using c2) ?_
  unfold A1i; rw [if_pos c2]
 have e:A1i d=A0w d:=by unfold A1i; rw [if_neg c2]
 rw [e]
 have c2':A2q d=0:=by omega
 refine C8 (by simpa using c2') (A8 rfl (A8 (D6 hk) ?_))
 by_cases c4:A0w d ≠ 0
 ·rw [if_pos c4]; exact A8 (by simpa using c4) rfl
 rw [if_neg c4]
 have c4':A0w d=0:=by omega
 refine C8 (by simpa using c4') (A8 (I8 (L:=L14) (dec:=B7s) (Inv:=E5x) (x:=d) (C8z d _) (D5a c2' c4')) ?_)
 cases c3:B3i d with
 | false=>rw [if_pos rfl]; exact C8 rfl rfl
 | true=>rw [if_neg (by simp)]; exact A8 rfl (A8 rfl (A8 (D6 (D1w hk c2')) rfl))
def VCk (d:Drw):Tr AV:=.br (D8 (OkD d)) (.leaf (.sint .i64 (V4 d))) .fail
def pCk:Prims:=(pUs.addt 13 (R6 Q4 VCk)).addt 14 (R6 Q4 VCk)
theorem G0p {A:Amb} (hT:Tab A) (hG:gN prog<=A.G):PrimOK prog A pCk:=by
 have h0:=D9g hT hG
 refine J5 hG h0 (J5 hG h0 (E7u hT hG) Q4 VCk func13 (by kernel_rfl) fun x v hv=>?_) Q4 VCk func14 (by kernel_rfl) fun x v hv=>?_
 ·obtain ⟨hz,hv⟩:=Tr.br1 hv
  cases hv
  exact ⟨_,G4j x (J4 hz),rfl,fun ι y hy=>hy⟩
 ·obtain ⟨hz,hv⟩:=Tr.br1 hv
  cases hv
  exact ⟨_,G7k x (J4 hz),rfl,fun ι y hy=>hy⟩
end Go.Proofs.Tryz
namespace Go.Proofs.Tryz
open Go.Ad
theorem G5h (d:Drw):(D5 prog pCk 60).call 11 [.agg d.av] (Bg 8) F9 =
  brK (D8 (okR Fea.fv d.l.length (A7 Fea.fv d.l)) && D8 (okR Dim.fv d.m.length (A7 Dim.fv d.m))) (brK (D8 (OkD (drE d))) (brK (V4 (drE d) != 0) (some (.tuple [.slice none 0 0,.sint IntKind.i64 (V4 (drE d)) ])) (brK (D8 (okR Fea.fv d.l.length (A7 Fea.fv d.l)) && D8 (okR Dim.fv d.m.length (A7 Dim.fv d.m))) (brK (D8 (GrD (drE d))) (some (.tuple [.flist (((A2r (drE d))).length) (fun i=>txF ((A2r (drE d)).getD i default)) 1,.int .i64 0])) none) none)) none) none:=by kernel_rfl
theorem G5i (d:Drw):(D5 prog pCk 60).call 12 [.agg d.av] (Bg 8) F9 =
  brK (D8 (okR Fea.fv d.l.length (A7 Fea.fv d.l)) && D8 (okR Dim.fv d.m.length (A7 Dim.fv d.m))) (brK (D8 (OkD (drE d))) (brK (V4 (drE d) != 0) (some (.tuple [.slice none 0 0,.sint IntKind.i64 (V4 (drE d)) ])) (brK (D8 (okR Fea.fv d.l.length (A7 Fea.fv d.l)) && D8 (okR Dim.fv d.m.length (A7 Dim.fv d.m))) (brK (D8 (GrD (drE d))) (some (.tuple [.flist (((A2r (drE d))).length) (fun i=>txF ((A2r (drE d)).getD i default)) 1,.int .i64 0])) none) none)) none) none:=by kernel_rfl
def A4r (d:Drw):List Txt:=if V4 d=0 then A2r d else []
theorem D4p {d:Drw} (h:V4 d=0):G8 d.s=0/\A1i d=0/\B3i d=true/\B1r d=0:=by
 unfold V4 at h
 split at h
 ·omega
 ·split at h
  ·omega
  ·split at h
   ·omega
   ·rename_i h3
    exact ⟨by omega,by omega,by simpa using h3,h⟩
theorem C5o {d:Drw} (h:V4 d=0):GrD d:=by
 obtain ⟨_,h2,_,_⟩:=D4p h
 have hz:=B7z h2
 exact D5a hz.1 hz.2
def G3u (d:Drw) (v:AV):Prop:=F5 0 v=true/\∀ (ι:Emb) (y:Value),VR ι v y->VR ι (.tuple [V7 (A4r d),.sint .i64 (V4 d)]) y
theorem G7i (d:Drw) (hk:OkD d):∃ v,(D5 prog pCk 60).call 11 [.agg d.av] (Bg 8) F9=some v/\G3u d v:=by
 rw [G5h]
 simp only [L8,Bool.and_self,Y9]
 by_cases c:V4 d=0
 ·refine exV (A8 rfl (A8 (D6 hk) (C8 (by simpa using c) (A8 rfl (A8 (D6 (C5o c)) rfl))))) ⟨rfl,fun ι y hy=>?_⟩
  have e:A4r d=A2r d:=by unfold A4r; rw [if_pos c]
  rw [e,c]
  simp only [VR] at hy ⊢
  obtain ⟨l,rfl,h⟩:=hy
  refine ⟨l,rfl,?_⟩
  simp only [VRL,VR] at h ⊢
  exact h
 ·refine exV (A8 rfl (A8 (D6 hk) (A8 (by simpa using c) rfl))) ⟨rfl,fun ι y hy=>?_⟩
  have e:A4r d=[]:=by unfold A4r; rw [if_neg c]
  rw [e]
  simp only [VR,VRL] at hy ⊢
  obtain ⟨l,rfl,y1,l1,h1,h2,h3⟩:=hy
  refine ⟨l,rfl,y1,l1,h1,?_,h3⟩
  obtain ⟨_,_,rfl⟩:=h2
  simp [FVR]
theorem G7j (d:Drw) (hk:OkD d):∃ v,(D5 prog pCk 60).call 12 [.agg d.av] (Bg 8) F9=some v/\G3u d v:=by
 rw [G5i]
 simp only [L8,Bool.and_self,Y9]
 by_cases c:V4 d=0
 ·refine exV (A8 rfl (A8 (D6 hk) (C8 (by simpa using c) (A8 rfl (A8 (D6 (C5o c)) rfl))))) ⟨rfl,fun ι y hy=>?_⟩
  have e:A4r d=A2r d:=by unfold A4r; rw [if_pos c]
  rw [e,c]
  simp only [VR] at hy ⊢
  obtain ⟨l,rfl,h⟩:=hy
  refine ⟨l,rfl,?_⟩
  simp only [VRL,VR] at h ⊢
  exact h
 ·refine exV (A8 rfl (A8 (D6 hk) (A8 (by simpa using c) rfl))) ⟨rfl,fun ι y hy=>?_⟩
  have e:A4r d=[]:=by unfold A4r; rw [if_neg c]
  rw [e]
  simp only [VR,VRL] at hy ⊢
  obtain ⟨l,rfl,y1,l1,h1,h2,h3⟩:=hy
  refine ⟨l,rfl,y1,l1,h1,?_,h3⟩
  obtain ⟨_,_,rfl⟩:=h2
  simp [FVR]
def VDa (d:Drw):Tr AV:=.br (D8 (OkD d)) (.leaf (.tuple [V7 (A4r d),.sint .i64 (V4 d)])) .fail
def pDa:Prims:=(pCk.addt 11 (R6 Q4 VDa)).addt 12 (R6 Q4 VDa)
theorem G0q {A:Amb} (hT:Tab A) (hG:gN prog<=A.G):PrimOK prog A pDa:=by
 have h0:=G0p hT hG
 refine J5 hG h0 (J5 hG h0 h0 Q4 VDa func11 (by kernel_rfl) fun x v hv=>?_) Q4 VDa func12 (by kernel_rfl) fun x v hv=>?_
 ·obtain ⟨hz,hv⟩:=Tr.br1 hv
  cases hv
  obtain ⟨v',h1,h2,h3⟩:=G7i x (J4 hz)
  exact ⟨v',h1,h2,h3⟩
 ·obtain ⟨hz,hv⟩:=Tr.br1 hv
  cases hv
  obtain ⟨v',h1,h2,h3⟩:=G7j x (J4 hz)
  exact ⟨v',h1,h2,h3⟩
end Go.Proofs.Tryz
