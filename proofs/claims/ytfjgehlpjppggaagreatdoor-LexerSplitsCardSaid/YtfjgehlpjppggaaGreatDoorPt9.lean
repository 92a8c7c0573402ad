/- The lexer's program: the loop of the reference's Parts as a known piece. -/
import Derived.Test.YtfjgehlpjppggaaGreatDoorPt1
import Derived.Test.YtfjgehlpjppggaaGreatDoorE1
noncomputable section
namespace Go.Proofs.Tryz
open Go.Ad
def F5v:Option PR->List (List Tok)
 | some (D,C,_)=>D++[C]
 | none=>[]
def G3t:Option PR->List UInt8
 | some (_,_,o)=>o
 | none=>[]
def T36 (K:Nat) (N:Nat) (r:Nat->List AV) (ty:Nat) (p:Option PR):Tr (AEx × SP × List Lf) :=
 .br p.isNone (.leaf (.ret,sp36r,[.i 3,.n N,.r r,.n ty])) (.leaf (.normal,sp36e,[.n K,.fr (N9 (F5v p)),.s (G3t p),.n N,.r r,.n ty]))
def B1h (lp:Bool):SP:=⟨[F6v lp,.str]++dr 4++[.list 9,.str,.int .i64]++dr 119,dd8++[.vecT 3,.tail 1 [.is C2f] 27]⟩
def D6w (lp:Bool):Blk:=hookP (B1h lp) 10 [9] fun
 | [.n k,.s s,.n K,.s o,.i i,.n N,.r r,.n ty,.n D,.r d]=>.br (A9 (K=1/\o=[]/\i=0/\D=0/\d=(fun _=>[])/\U2 N r/\k<=N/\N<=4097))
   (T36 (F5v (V3 s ((J9 N r).take k) A0i)).length N r ty (V3 s ((J9 N r).take k) A0i)) .fail
 | _=>.fail
def F0w:Prims:=pP.addb 36 0 (F6z (B1h false) (D6w false) (D6w true))
abbrev B6w (s:List UInt8) (L:List Tok) (k ty:Nat):List Lf:=[.n k,.s s,.n 1,.s [],.i 0,.n L.length,.r (F5 L),.n ty,.n 0,.r (fun _=>[])]
theorem F4m {A:Amb} (lp:Bool) (s:List UInt8) (L:List Tok) (k ty:Nat) {Bb:Heap} (hB:Bb.length=10) :
  Wk A Bb ⟨(B1h lp).rho (B6w s L k ty),(B1h lp).heap (B6w s L k ty),[9]⟩ (G4z lp s L k ty 0 A0i):=by
 have h1:Wk A Bb ⟨(B1h lp).rho (B6w s L k ty),(B1h lp).heap (B6w s L k ty),[9]⟩
   ⟨((B1h lp).rho (B6w s L k ty)).set 6 (.sslice 10 0 1),((B1h lp).heap (B6w s L k ty)).set 9 .dead++[.tail 0 (fun _=>[]) 1 [C2f] 27],[9]⟩:=by
  refine Wk.mov (b:=9) (o:=.tail 0 (fun _=>[]) 1 [C2f] 27) (by cases lp <;> rfl) (by simp) fun ι ι2 hle hnew vs hv=>?_
  have hl:((B1h lp).heap (B6w s L k ty)).length=10:=by cases lp <;> rfl
  rw [hl] at hnew
  refine B7g hle (t:=6) (a:=.sslice 9 0 1) (by cases lp <;> rfl) (fun v hv=>?_) hv
  simp only [VR] at hv ⊢
  rw [hnew]; exact hv
 refine Wk.trans h1 ?_
 exact B4s (t:=6) (es:=3) (ty:=52) (bs:=[10]) (by cases lp <;> rfl) fun b hb=>.inl (by rw [List.mem_singleton] at hb; omega)
theorem C3i {A:Amb} (hT:Tab A) (hG:prog.globals.size<=A.G) (lp:Bool):∀ ρ B e' ρ' B' D,(D6w lp ρ B).get=some (e',ρ',B',D)->AFr B B' D/\SEB prog A B (.block 0 (.loop C7a)) ⟨ρ,B,[]⟩ e' ⟨ρ',B',D⟩:=by
 refine M8 (by cases lp <;> rfl) fun ls e sq l h=>?_
 split at h
 ·rename_i k s K o i N r ty D d
  obtain ⟨hc,hv⟩:=Tr.br1 h
  clear h
  obtain ⟨rfl,rfl,rfl,rfl,rfl,⟨h7,h8⟩,h9,h10⟩:=D7 hc
  obtain ⟨L,hL⟩:∃ L,L=J9 N r:=⟨_,rfl⟩
  have hn:N=L.length:=by rw [hL]; simp [J9]
  rw [<- hL] at h7 h8 hv
  subst hn h7
  have key:=fun (Bb:Heap) (hB:Bb.length=10)=>(G2p hT hG lp s L k ty h9 h10 hB).wk_in (F4m lp s L k ty hB)
  have fr:∀ (sq:SP) (l:List Lf),sq.heap l=Bg 8++[.vec L.length (F5 L) 3 ty,.dead]->frP [9] 0 ((B1h lp).heap (B6w s L k ty)) (sq.heap l):=by
   intro sq l h
   rw [h]
   cases lp <;> exact ⟨.inr rfl,.inr rfl,.inr rfl,.inr rfl,.inr rfl,.inr rfl,.inr rfl,.inr rfl,.inr rfl,.inl rfl,trivial⟩
  cases hj:V3 s (L.take k) A0i with
  | none =>
   rw [hj] at hv
   simp only [T36,Option.isNone_none,Tr.get,sI,pI] at hv
   obtain ⟨rfl,rfl,rfl⟩:=hv
   refine ⟨fr _ _ rfl,fun Bb hB=>SEB.block_other (id:=0) ?_ (by simp)⟩
   have:=key Bb hB
   rw [hj] at this
   exact this
  | some y =>
   obtain ⟨D,C,o⟩:=y
   rw [hj] at hv
   simp only [T36,F5v,G3t,Option.isNone_some,Tr.get,sI,pI] at hv
   obtain ⟨rfl,rfl,rfl⟩:=hv
   refine ⟨fr _ _ rfl,fun Bb hB=>SEB.block_exit (id:=0) ?_⟩
   have:=key Bb hB
   rw [hj] at this
   have e:D.length+1=(D++[C]).length:=by simp
   simp only [C2y,e] at this
   exact this.wk_out (Wk.setT (t:=6) (a:=.flist (D++[C]).length (J3 (Q8 (D++[C]))) 1) (a2:=.flist (D++[C]).length (N9 (D++[C])) 1) rfl fun ι v hv=>D2k hv)
 ·cases h
theorem E0q {A:Amb} (hT:Tab A) (hG:prog.globals.size<=A.G):PrimOK prog A F0w:=by
 refine (C0p hT hG).addb func36 (show f36.body=some E9m by kernel_rfl) (body:=.loop C7a) (by kernel_rfl) fun ρ B e' ρ' B' D h=>?_
 unfold F6z at h
 split at h
 ·exact C3i hT hG false _ _ _ _ _ _ h
 ·exact C3i hT hG true _ _ _ _ _ _ h
end Go.Proofs.Tryz
namespace Go.Proofs.Tryz
open Go.Ad
def B0y:RO->List UInt8
 | none=>[]
 | some (Q,q)=>Q.take q
def okQ:RO->Prop
 | none=>True
 | some (Q,q)=>q<=Q.length
structure RelO (O:RO) (o:List UInt8):Prop where
 ok:okQ O
 list:(B0y O).map (fun x=>[x])=o.map clo
theorem RelO.len {O:RO} {o:List UInt8} (h:RelO O o):A6t O=o.length:=by
 have h1:=congrArg List.length h.list
 rw [List.length_map,List.length_map] at h1
 rw [<- h1]
 cases O with
 | none=>rfl
 | some p =>
  have:=h.ok
  simp only [okQ] at this
  simp only [A6t,B0y,List.length_take]; omega
theorem RelO.push {O:RO} {o:List UInt8} (h:RelO O o) (x y:UInt8) (hxy:clo y=[x]):RelO (A5k x O) (o++[y]):=by
 cases O with
 | none =>
  have:o=[]:=by have:=h.list; simpa [B0y] using this.symm
  subst this
  exact ⟨by simp [okQ,A5k],by simp [A5k,B0y,hxy]⟩
 | some p =>
  obtain ⟨Q,q⟩:=p
  have h1:=h.ok
  simp only [okQ] at h1
  have h2:=h.list
  simp only [B0y] at h2
  have hl:(Q.take q).length=q:=by rw [List.length_take]; omega
  refine ⟨by simp only [okQ,A5k,List.length_append,hl,List.length_singleton]; omega,?_⟩
  simp only [A5k,B0y]
  rw [List.take_of_length_le (by rw [List.length_append,hl,List.length_singleton]; exact Nat.le_refl _),List.map_append,List.map_append,h2,List.map_singleton,List.map_singleton,hxy]
theorem RelO.pop {O:RO} {o:List UInt8} (h:RelO O o):RelO (D3h O) (o.take (o.length - 1)):=by
 have hl:=h.len
 cases O with
 | none =>
  have:o=[]:=by have:=h.list; simpa [B0y] using this.symm
  subst this
  exact ⟨trivial,rfl⟩
 | some p =>
  obtain ⟨Q,q⟩:=p
  have h1:=h.ok
  simp only [okQ] at h1
  have h2:=h.list
  simp only [B0y] at h2
  simp only [A6t] at hl
  refine ⟨by simp only [okQ,D3h]; omega,?_⟩
  simp only [D3h,B0y]
  have h3:=congrArg (List.take (q - 1)) h2
  rw [<- List.map_take,<- List.map_take,List.take_take,Nat.min_eq_left (by omega)] at h3
  rw [<- hl]; exact h3
theorem RelO.top {O:RO} {o:List UInt8} (h:RelO O o) (h0:A6t O ≠ 0):E4m O=clo (o.getD (o.length - 1) 0):=by
 have hl:=h.len
 cases O with
 | none=>exact absurd rfl h0
 | some p =>
  obtain ⟨Q,q⟩:=p
  have h1:=h.ok
  simp only [okQ] at h1
  have h2:=h.list
  simp only [B0y] at h2
  simp only [A6t] at hl h0
  have h3:=congrArg (fun l=>l[q - 1]?) h2
  simp only [List.getElem?_map] at h3
  rw [List.getElem?_take_of_lt (by omega),List.getElem?_eq_getElem (show q - 1 < Q.length by omega),List.getElem?_eq_getElem (show q - 1 < o.length by omega)] at h3
  simp only [Option.map_some,sI] at h3
  rw [<- hl]
  show [Q.getD (q - 1) (Q.getLastD 0)]=clo (o.getD (q - 1) 0)
  rw [List.getD_eq_getElem?_getD,List.getD_eq_getElem?_getD,List.getElem?_eq_getElem (show q - 1 < Q.length by omega),List.getElem?_eq_getElem (show q - 1 < o.length by omega)]
  exact h3
def G6v:Option PK->Option PR->Prop
 | none,none=>True
 | some (D,C,O),some (D',C',o)=>D'=D/\C'=C/\RelO O o
 | _,_=>False
theorem E8x (s:List UInt8) (t:Tok) {D:List (List Tok)} {C:List Tok} {O:RO} {o:List UInt8} (h:RelO O o):G6v (A8x s t (D,C,O)) (B1g s t (D,C,o)):=by
 unfold A8x B1g
 simp only
 rw [h.len]
 cases h1:decide (o.length=0) && isS t s with
 | true=>exact ⟨rfl,rfl,h⟩
 | false =>
  simp only [cond_false]
  cases isS t [40] with
  | true=>exact ⟨rfl,rfl,h.push 41 40 rfl⟩
  | false =>
   simp only [cond_false]
   cases isS t [91] with
   | true=>exact ⟨rfl,rfl,h.push 93 91 rfl⟩
   | false =>
    simp only [cond_false]
    cases isS t [41] || isS t [93] with
    | false=>exact ⟨rfl,rfl,h⟩
    | true =>
     simp only [cond_true]
     by_cases h5:o.length=0
     ·rw [dT h5]; trivial
     ·rw [dF h5,h.top (by rw [h.len]; exact h5)]
      simp only [cond_false]
      cases clo (o.getD (o.length - 1) 0) == t.2.1 with
      | true=>exact ⟨rfl,rfl,h.pop⟩
      | false=>trivial
theorem C3t (s:List UInt8):∀ (M:List Tok) (D:List (List Tok)) (C:List Tok) (O:RO) (o:List UInt8),RelO O o->G6v (P8 s M (D,C,O)) (V3 s M (D,C,o))
 | [],D,C,O,o,h=>⟨rfl,rfl,h⟩
 | t :: M,D,C,O,o,h=>by
  have h1:=E8x s t (D:=D) (C:=C) h
  simp only [P8,V3]
  cases h2:A8x s t (D,C,O) with
  | none =>
   rw [h2] at h1
   cases h3:B1g s t (D,C,o) with
   | none=>trivial
   | some y=>rw [h3] at h1; exact h1.elim
  | some x =>
   obtain ⟨D',C',O'⟩:=x
   rw [h2] at h1
   cases h3:B1g s t (D,C,o) with
   | none=>rw [h3] at h1; exact h1.elim
   | some y =>
    obtain ⟨D2,C2,o2⟩:=y
    rw [h3] at h1
    obtain ⟨rfl,rfl,h1⟩:=h1
    exact C3t s M _ _ _ _ h1
def E6c:Option PR->List (List Tok) × Int
 | some (D,C,o)=>bif decide (o.length=0) then (D++[C],0) else ([],3)
 | none=>([],3)
theorem C9e (s:List UInt8) (M:List Tok):E6c (V3 s M A0i)=C2g (P8 s M U7):=by
 have h:=C3t s M [] [] none [] ⟨trivial,rfl⟩
 unfold A0i U7
 cases h1:P8 s M ([],[],none) with
 | none =>
  rw [h1] at h
  cases h2:V3 s M ([],[],[]) with
  | none=>rfl
  | some y=>rw [h2] at h; exact h.elim
 | some x =>
  obtain ⟨D,C,O⟩:=x
  rw [h1] at h
  cases h2:V3 s M ([],[],[]) with
  | none=>rw [h2] at h; exact h.elim
  | some y =>
   obtain ⟨D2,C2,o2⟩:=y
   rw [h2] at h
   obtain ⟨rfl,rfl,h⟩:=h
   unfold E6c C2g
   simp only
   rw [h.len]
section
variable (s:List UInt8) (n ty:Nat) (r:Nat->Tok)
def E0b (p:Option PR):Option (List Lf):=brK p.isNone (A7o n ty r 3) (brK (!(G3t p == [])) (A7o n ty r 3) (F5a n ty r (F5v p)))
def E6e:Option (List Lf) :=
 brK (decide ((n:Int) > 0)) (brK (decide (0<=W ((n:Int) - 1)/\W ((n:Int) - 1) < (n:Int))) (brK (decide (0+(W ((n:Int) - 1)).toNat < n)) (brK ((r (0+(W ((n:Int) - 1)).toNat)).1 == 3)
  (brK (decide (0<=W ((n:Int) - 1)/\W ((n:Int) - 1)<=(n:Int)) && true && decide (0 < n))
   (brK (A9 (1=1/\([]:List UInt8)=[]/\(0:Int)=0/\0=0/\(fun _=>[]:Nat->List AV)=(fun _=>[])/\U2 n (fun i=>I1 (r i))/\(W ((n:Int) - 1)).toNat<=n/\n<=4097))
    (E0b n ty r (V3 s ((J9 n (fun i=>I1 (r i))).take (W ((n:Int) - 1)).toNat) A0i)) none) none)
  (brK (A9 (1=1/\([]:List UInt8)=[]/\(0:Int)=0/\0=0/\(fun _=>[]:Nat->List AV)=(fun _=>[])/\U2 n (fun i=>I1 (r i))/\n<=n/\n<=4097))
    (E0b n ty r (V3 s ((J9 n (fun i=>I1 (r i))).take n) A0i)) none)) none) none)
  (brK (A9 (1=1/\([]:List UInt8)=[]/\(0:Int)=0/\0=0/\(fun _=>[]:Nat->List AV)=(fun _=>[])/\U2 n (fun i=>I1 (r i))/\n<=n/\n<=4097))
    (E0b n ty r (V3 s ((J9 n (fun i=>I1 (r i))).take n) A0i)) none)
def C5a:Option (List Lf) :=
 brK (decide ((n:Int) > 4097)) (A7o n ty r 5) (brK ((s.length:Int) != 1) (A7o n ty r 1) (brK (decide ((0:Int)<=0/\(0:Int) < (s.length:Int))) (brK (!(A2g (bAt s 0))) (A7o n ty r 1)
  (brK (s == [40]) (A7o n ty r 1) (brK (s == [41]) (A7o n ty r 1) (brK (s == [91]) (A7o n ty r 1) (brK (s == [93]) (A7o n ty r 1) (E6e s n ty r)))))) none))
theorem G2q:(C8 prog F0w 60).call 36 (spPt.rho [.n n,.s s,.n n,.r (fun i=>I1 (r i)),.n ty]) (spPt.heap [.n n,.s s,.n n,.r (fun i=>I1 (r i)),.n ty]) (O8 sqP 9 [])=C5a s n ty r:=by kernel_rfl
end
theorem C3h (L:List Tok) (ty:Nat) (p:Option PR):E0b L.length ty (fun i=>L.getD i I9) p=B1o L ty (E6c p):=by
 cases p with
 | none=>rfl
 | some y =>
  obtain ⟨D,C,o⟩:=y
  cases o <;> rfl
theorem E5x {s:List UInt8} {L:List Tok} {ty:Nat} (hz:∀ t,t ∈ L->D9 t.2.1=true) (hL:L.length<=4097):E6e s L.length ty (fun i=>L.getD i I9)=B1o L ty (C2g (P8 s (D2b L) U7)):=by
 have h3:=A8e hz
 have hL2:(J9 L.length (fun i=>I1 (L.getD i I9)))=L:=A4v L
 unfold E6e D2b
 rw [hL2,C3h,C3h,C9e,C9e]
 have p1:A9 (1=1/\([]:List UInt8)=[]/\(0:Int)=0/\0=0/\(fun _=>[]:Nat->List AV)=(fun _=>[])/\U2 L.length (fun i=>I1 (L.getD i I9))/\L.length<=L.length/\L.length<=4097)=true :=
  A8 ⟨rfl,rfl,rfl,rfl,rfl,h3,Nat.le_refl _,hL⟩
 rw [p1,List.take_length]
 by_cases h0:L.length=0
 ·rw [dF (show ¬ (L.length:Int) > 0 by omega),dF (show ¬ 0 < L.length by omega)]; rfl
 ·have e1:W ((L.length:Int) - 1)=((L.length - 1:Nat):Int):=by rw [W,wrap64 (by omega) (by omega)]; omega
  rw [e1,Int.toNat_natCast,Nat.zero_add]
  have p2:A9 (1=1/\([]:List UInt8)=[]/\(0:Int)=0/\0=0/\(fun _=>[]:Nat->List AV)=(fun _=>[])/\U2 L.length (fun i=>I1 (L.getD i I9))/\L.length - 1<=L.length/\L.length<=4097)=true :=
   A8 ⟨rfl,rfl,rfl,rfl,rfl,h3,by omega,hL⟩
  rw [p2,dT (show (L.length:Int) > 0 by omega),dT (show 0<=((L.length - 1:Nat):Int)/\((L.length - 1:Nat):Int) < (L.length:Int) by omega),dT (show L.length - 1 < L.length by omega),
   dT (show 0<=((L.length - 1:Nat):Int)/\((L.length - 1:Nat):Int)<=(L.length:Int) by omega),dT (show 0 < L.length by omega)]
  cases (L.getD (L.length - 1) I9).1 == 3 <;> rfl
theorem C2w {s:List UInt8} {L:List Tok} {ty:Nat} (hz:∀ t,t ∈ L->D9 t.2.1=true):C5a s L.length ty (fun i=>L.getD i I9)=B1o L ty (A2n s L):=by
 unfold C5a A2n
 by_cases hn:L.length<=4097
 ·rw [dF (show ¬ (L.length:Int) > 4097 by omega),dT hn,E5x hz hn]
  by_cases hs:s.length=1
  ·rw [show ((s.length:Int) != 1)=false by rw [hs]; rfl,dT (show (0:Int)<=0/\(0:Int) < (s.length:Int) by omega)]
   unfold D5j
   rw [dT hs]
   cases A2g (bAt s 0) <;> cases s == [40] <;> cases s == [41] <;> cases s == [91] <;> cases s == [93] <;> rfl
  ·rw [show ((s.length:Int) != 1)=true by rw [bne_iff_ne]; omega]
   unfold D5j
   rw [dF hs]; rfl
 ·rw [dT (show (L.length:Int) > 4097 by omega),dF hn]; rfl
def pPb:Prims:=pPa.addh 36 (G8 8 (funQ spPt 9 [] TPa))
theorem G1m {A:Amb} (hT:Tab A) (hG:prog.globals.size<=A.G):PrimOK prog A pPb :=
 (G0d hT hG).addl gsz func36 (by kernel_rfl) (F8p rfl fun s L ty hz=>⟨F0w,E0q hT hG,(G2q s L.length ty fun i=>L.getD i I9).trans (C2w hz)⟩)
end Go.Proofs.Tryz
namespace Go.Proofs.Tryz
open Go.Ad
def E7a:Code:=f20.body.getD .skip
def D5s:Code:=I7 (J7 0 E7a)
def spF:SP:=⟨[.flist 3,.flist 3,.drop,.drop,.drop,.int .i64]++dr 20,dd8⟩
def spFr:SP:=⟨[.drop,.drop,.drop,.drop,.bool]++dr 21,dd8⟩
def E7j:AEx->SP
 | .ret=>spFr
 | _=>spF
def lfF (n m:Nat) (i:Int) (f g:Nat->List FV):List Lf:=[.n n,.fr f,.n m,.fr g,.i i]
def D1x (t u:Tok):Bool:=t.1 == u.1 && (t.2.1 == u.2.1 && (t.2.2 == u.2.2 && true))
def E0u (n m:Nat) (i:Int) (t u:Tok) (f g:Nat->List FV):Option (AEx × List Lf) :=
 brK (decide (i < (n:Int))) (brK (decide (0<=i/\i < (n:Int))) (brK (decide (0<=i/\i < (m:Int))) (brK (!(D1x t u)) (some (.ret,[.b false])) (some (.normal,lfF n m (W (i+1)) f g))) none) none)
  (some (.exit 0,lfF n m i f g))
theorem F7w (n m:Nat) (i:Int) (r q:Nat->Tok):E9 prog (C8 prog pP 60) F7 D5s (spF.rho (lfF n m i (J3 fun i=>I1 (r i)) (J3 fun i=>I1 (q i)))) (spF.heap (lfF n m i (J3 fun i=>I1 (r i)) (J3 fun i=>I1 (q i)))) (H6 E7j 8 []) =
  E0u n m i (r i.toNat) (q i.toNat) (J3 fun i=>I1 (r i)) (J3 fun i=>I1 (q i)):=by kernel_rfl
theorem E6k (t u:Tok):D1x t u=decide (t=u):=by
 obtain ⟨a,b,c⟩:=t
 obtain ⟨a',b',c'⟩:=u
 by_cases h:(a,b,c)=(a',b',c')
 ·cases h; simp [D1x]
 ·rw [dF h]
  cases hs:D1x (a,b,c) (a',b',c') with
  | false=>rfl
  | true =>
   simp only [D1x,Bool.and_true,Bool.and_eq_true,beq_iff_eq] at hs
   exact absurd (by rw [hs.1,hs.2.1,hs.2.2]) h
theorem F1y {n i:Nat} {t u:Tok} {f g:Nat->List FV} (hi:i < n) (hn:n<=5000):E0u n n i t u f g=some (bif decide (t=u) then (.normal,lfF n n ((i+1:Nat):Int) f g) else (.ret,[.b false])):=by
 unfold E0u
 have e2:W ((i:Int)+1)=((i+1:Nat):Int):=by rw [W,wrap64 (by omega) (by omega)]; omega
 rw [e2,E6k,dT (show (i:Int) < n by omega),dT (show 0<=(i:Int)/\(i:Int) < n by omega)]
 cases decide (t=u) <;> rfl
def B6q (L M:List Tok):AEx × St :=
 bif decide (L=M) then (.exit 0,⟨spF.rho (lfF L.length L.length L.length (J3 (F5 L)) (J3 (F5 M))),spF.heap (lfF L.length L.length L.length (J3 (F5 L)) (J3 (F5 M))),[]⟩)
 else (.ret,⟨spFr.rho [.b false],spFr.heap [.b false],[]⟩)
section
variable {A:Amb} (hT:Tab A) (hG:prog.globals.size<=A.G)
include hT hG
theorem G8t (L M:List Tok) (hL:L.length<=4097) (hM:M.length=L.length) {Bb:Heap} (hB:Bb.length=8) :
  SEB prog A Bb (.loop D5s) ⟨spF.rho (lfF L.length L.length 0 (J3 (F5 L)) (J3 (F5 M))),spF.heap (lfF L.length L.length 0 (J3 (F5 L)) (J3 (F5 M))),[]⟩ (B6q L M).1 (B6q L M).2:=by
 have hp:=C0p hT hG
 have hok:∀ e,okD 8 [] 0 (E7j e).h=true:=fun e=>by cases e <;> rfl
 refine SEB.while (fun i:Nat=>i<=L.length/\decide (L.drop i=M.drop i)=decide (L=M)) (fun i=>L.length - i) (fun i=>⟨spF.rho (lfF L.length L.length i (J3 (F5 L)) (J3 (F5 M))),spF.heap (lfF L.length L.length i (J3 (F5 L)) (J3 (F5 M))),[]⟩) (fun _=>B6q L M) (fun i hx=>?_) 0 ⟨Nat.zero_le _,rfl⟩
 obtain ⟨h1,h3⟩:=hx
 have hk:=F7w L.length L.length i (fun i=>L.getD i I9) (fun i=>M.getD i I9)
 rw [Int.toNat_natCast] at hk
 by_cases hi:i < L.length
 ·obtain ⟨t,L',hd,ht,hL',_,_⟩:=B3x hi
  obtain ⟨u,M',hd2,hu,hM',_,_⟩:=B3x (L:=M) (i:=i) (by omega)
  rw [ht,hu,F1y hi (by omega)] at hk
  rw [hd,hd2] at h3
  cases he:decide (t=u) with
  | true =>
   left
   rw [he,cond_true] at hk
   have e:=of_decide_eq_true he
   refine ⟨i+1,⟨by omega,?_⟩,by omega,rfl,SEB.of_KP (e:=.normal) (sp:=E7j) D5 D6 hp (.none _) hB hk (hok .normal)⟩
   rw [hL',hM',<- h3,e]
   simp
  | false =>
   right
   rw [he,cond_false] at hk
   have e:=of_decide_eq_false he
   have h4:decide (L=M)=false:=by rw [<- h3]; simp [e]
   have ho:B6q L M=(.ret,⟨spFr.rho [.b false],spFr.heap [.b false],[]⟩):=by
    unfold B6q; rw [h4]; rfl
   rw [ho]
   exact ⟨by simp,SEB.of_KP (e:=.ret) (sp:=E7j) D5 D6 hp (.none _) hB hk (hok .ret)⟩
 ·right
  have e:i=L.length:=by omega
  subst e
  rw [List.drop_length,<- hM,List.drop_length] at h3
  have ho:B6q L M=(.exit 0,⟨spF.rho (lfF L.length L.length L.length (J3 (F5 L)) (J3 (F5 M))),spF.heap (lfF L.length L.length L.length (J3 (F5 L)) (J3 (F5 M))),[]⟩):=by
   unfold B6q; rw [<- h3]; rfl
  rw [ho]
  unfold E0u at hk
  rw [dF (show ¬ ((L.length:Nat):Int) < (L.length:Int) by omega)] at hk
  exact ⟨by simp,SEB.of_KP (e:=.exit 0) (sp:=E7j) D5 D6 hp (.none _) hB hk (hok _)⟩
end
def G7o:List FV->Tok
 | [.int _ a,.str s,.int _ b]=>(a,s,b)
 | _=>I9
def Q4 (n:Nat) (f:Nat->List FV):List Tok:=(List.range n).map fun i=>G7o (f i)
theorem D3t (L:List Tok):Q4 L.length (J3 (F5 L))=L:=by
 unfold Q4
 apply List.ext_getElem?
 intro i
 rw [List.getElem?_map]
 by_cases h:i < L.length
 ·rw [List.getElem?_range h,Option.map_some,List.getElem?_eq_getElem h]
  show some (G7o ((I1 (L.getD i I9)).map AV.fv))=_
  rw [List.getD_eq_getElem?_getD,List.getElem?_eq_getElem h]; rfl
 ·rw [List.getElem?_eq_none (by simp; omega),List.getElem?_eq_none (by omega)]; rfl
theorem B0c (n:Nat) (f:Nat->List FV):(Q4 n f).length=n:=by simp [Q4]
def G4f:Blk:=hookP spF 8 [] fun
 | [.n n,.fr f,.n m,.fr g,.i i]=>.br (A9 (m=n/\i=0/\f=J3 (F5 (Q4 n f))/\g=J3 (F5 (Q4 n g))/\n<=4097)) (.br (decide (Q4 n f=Q4 n g)) (.leaf (.normal,spF,lfF n n n f g)) (.leaf (.ret,spFr,[.b false]))) .fail
 | _=>.fail
def G0e:Prims:=pP.addb 20 0 G4f
theorem F7k {A:Amb} (hT:Tab A) (hG:prog.globals.size<=A.G):PrimOK prog A G0e:=by
 refine (C0p hT hG).addb func20 (show f20.body=some E7a by kernel_rfl) (body:=.loop D5s) (by kernel_rfl) (M8 (by rfl) fun ls e sq l h=>?_)
 split at h
 ·rename_i n f m g i
  obtain ⟨hc,hv⟩:=Tr.br1 h
  clear h
  obtain ⟨h1,h4,h5,h6,h7⟩:=D7 hc
  have h1:=h1.symm
  subst h1 h4
  obtain ⟨L,hL⟩:∃ L,L=Q4 n f:=⟨_,rfl⟩
  obtain ⟨M,hM⟩:∃ M,M=Q4 n g:=⟨_,rfl⟩
  have hn:n=L.length:=by rw [hL,B0c]
  have hn2:M.length=n:=by rw [hM,B0c]
  rw [<- hL,<- hM] at hv
  rw [<- hL] at h5
  rw [<- hM] at h6
  subst hn h5 h6
  have key:=fun (Bb:Heap) (hB:Bb.length=8)=>G8t hT hG L M h7 hn2 hB
  unfold B6q at key
  cases he:decide (L=M) with
  | true =>
   rw [he] at hv
   simp only [Tr.get,sI,pI] at hv
   obtain ⟨rfl,rfl,rfl⟩:=hv
   refine ⟨⟨.inr rfl,.inr rfl,.inr rfl,.inr rfl,.inr rfl,.inr rfl,.inr rfl,.inr rfl,trivial⟩,fun Bb hB=>SEB.block_exit (id:=0) ?_⟩
   have:=key Bb hB
   rw [he] at this
   exact this
  | false =>
   rw [he] at hv
   simp only [Tr.get,sI,pI] at hv
   obtain ⟨rfl,rfl,rfl⟩:=hv
   refine ⟨⟨.inr rfl,.inr rfl,.inr rfl,.inr rfl,.inr rfl,.inr rfl,.inr rfl,.inr rfl,trivial⟩,fun Bb hB=>SEB.block_other (id:=0) ?_ (by simp)⟩
   have:=key Bb hB
   rw [he] at this
   exact this
 ·cases h
def spF2:SP:=⟨[.flist 3,.flist 3],dd8⟩
def G5s:SP:=⟨[.bool],dd8⟩
def TF2:List Lf->Tr (SP × List Lf)
 | [.n n,.fr f,.n m,.fr g]=>.br (A9 (f=J3 (F5 (Q4 n f))/\g=J3 (F5 (Q4 m g))/\n<=4097)) (.leaf (G5s,[.b (decide (Q4 n f=Q4 m g))])) .fail
 | _=>.fail
def D6h (n m:Nat) (f g:Nat->List FV) (L M:List Tok):Option (List Lf) :=
 brK ((n:Int) != m) (some [.b false]) (brK (A9 (m=n/\(0:Int)=0/\f=J3 (F5 (Q4 n f))/\g=J3 (F5 (Q4 n g))/\n<=4097)) (brK (decide (L=M)) (some [.b true]) (some [.b false])) none)
theorem G8e (n m:Nat) (f g:Nat->List FV):(C8 prog G0e 60).call 20 (spF2.rho [.n n,.fr f,.n m,.fr g]) (spF2.heap [.n n,.fr f,.n m,.fr g]) (V8 G5s 8 [])=D6h n m f g (Q4 n f) (Q4 n g):=by kernel_rfl
theorem E3v {n m:Nat} {f g:Nat->List FV} (hf:f=J3 (F5 (Q4 n f))) (hg:g=J3 (F5 (Q4 m g))) (hn:n<=4097):D6h n m f g (Q4 n f) (Q4 n g)=some [.b (decide (Q4 n f=Q4 m g))]:=by
 unfold D6h
 by_cases h:n=m
 ·subst h
  rw [show ((n:Int) != n)=false by simp,A8 (show _/\_ from ⟨rfl,rfl,hf,hg,hn⟩)]
  cases decide (Q4 n f=Q4 n g) <;> rfl
 ·rw [show ((n:Int) != m)=true by simp; omega]
  have:decide (Q4 n f=Q4 m g)=false:=dF fun e=>h (by rw [<- B0c n f,e,B0c])
  rw [this]; rfl
def pSm:Prims:=pPb.addh 20 (G8 8 (funP spF2 8 [] TF2))
theorem E6f {A:Amb} (hT:Tab A) (hG:prog.globals.size<=A.G):PrimOK prog A pSm:=by
 refine (G1m hT hG).addl gsz func20 (by kernel_rfl) (K6 D5 D6 rfl fun ls sq l h=>?_)
 unfold TF2 at h
 split at h
 ·rename_i n f m g
  obtain ⟨hc,hv⟩:=Tr.br1 h
  obtain ⟨h2,h3,h4⟩:=D7 hc
  cases hv
  exact ⟨⟨.inr rfl,.inr rfl,.inr rfl,.inr rfl,.inr rfl,.inr rfl,.inr rfl,.inr rfl,trivial⟩,rfl,rfl,G0e,60,F7k hT hG,(G8e _ _ f g).trans (E3v h2 h3 h4)⟩
 ·cases h
end Go.Proofs.Tryz
namespace Go.Proofs.Tryz
open Go.Ad
def pBg:Prims:=(pDr.over pE1).over pSm
theorem D6z {A:Amb} (hT:Tab A) (hG:prog.globals.size<=A.G):PrimOK prog A pBg:=((G0i hT hG).over (G2f hT hG)).over (E6f hT hG)
def spSi:SP:=⟨[.list 8,.int .i64],dd8++[.vecT 3]⟩
def F7v:SP:=⟨[.str,.int .i64,.int .i64],dd8++[.vecT 3]⟩
section
variable (n ty:Nat) (a:Int) (r:Nat->Tok)
abbrev A9c (s:List UInt8) (i e:Int):Option (List Lf):=some [.s s,.i i,.i e,.n n,.r (fun i=>I1 (r i)),.n ty]
abbrev atT (j:Int) (X:Option (List Lf)):Option (List Lf):=brK (decide (0<=j/\j < (n:Int))) (brK (decide (0+j.toNat < n)) X none) none
abbrev E8h (j:Int) (u:Tok):Option (List Lf):=brK ((O6 u.2.1).2 != 0) (A9c n ty r [] 0 (O6 u.2.1).2) (A9c n ty r (O6 u.2.1).1 (W (j+1)) 0)
abbrev C8p (t:Tok) (j:Int) (u:Tok):Option (List Lf) :=
 brK (decide (j >= (n:Int))) (A9c n ty r [] 0 4) (atT n j (brK (u.1 != 1) (A9c n ty r [] 0 4) (atT n j (brK (D9 u.2.1) (brK ((O6 u.2.1).2 == 0) (brK (isS t [45]) (brK (szH (O6 u.2.1).1)
  (brK ((C6c (O6 u.2.1).1).2 != 0) (A9c n ty r [] 0 (C6c (O6 u.2.1).1).2) (A9c n ty r (C6c (O6 u.2.1).1).1 (W (j+1)) 0)) none) (E8h n ty r j u)) (E8h n ty r j u)) none))))
abbrev C6k:Option (List Lf) :=
 brK (decide (a < 0)) (A9c n ty r [] 0 2) (brK (decide (a >= (n:Int))) (A9c n ty r [] 0 2) (atT n a (brK (isS (r (0+a.toNat)) [45]) (C8p n ty r (r (0+a.toNat)) (W (a+1)) (r (0+(W (a+1)).toNat)))
  (atT n a (brK (isS (r (0+a.toNat)) [43]) (C8p n ty r (r (0+a.toNat)) (W (a+1)) (r (0+(W (a+1)).toNat))) (C8p n ty r (r (0+a.toNat)) a (r (0+a.toNat))))))))
theorem G4d:(C8 prog pBg 60).call 34 (spSi.rho [.n n,.i a,.n n,.r (fun i=>I1 (r i)),.n ty]) (spSi.heap [.n n,.i a,.n n,.r (fun i=>I1 (r i)),.n ty]) (O8 F7v 9 [])=C6k n ty a r:=by kernel_rfl
abbrev F8u (j:Int) (u:Tok) (b:Option Bool):Option (List Lf):=match b with
 | some b=>brK b (brK (A9 (A0r (O6 u.2.1).1=0/\szH (O6 u.2.1).1=true)) (A9c n ty r (A3c (-A7 (H5 (O6 u.2.1).1).1) (A7 (H5 (O6 u.2.1).1).2.1)) (W (j+1)) 0) none) (A9c n ty r (O6 u.2.1).1 (W (j+1)) 0)
 | none=>A9c n ty r (O6 u.2.1).1 (W (j+1)) 0
abbrev C2s (j:Int) (u:Tok) (b:Option Bool):Option (List Lf) :=
 brK (decide (j >= (n:Int))) (A9c n ty r [] 0 4) (atT n j (brK (u.1 != 1) (A9c n ty r [] 0 4) (atT n j (brK (D9 u.2.1) (brK ((O6 u.2.1).2 != 0) (A9c n ty r [] 0 (O6 u.2.1).2) (F8u n ty r j u b)) none))))
abbrev C5x:Option (List Lf) :=
 brK (decide (a < 0)) (A9c n ty r [] 0 2) (brK (decide (a >= (n:Int))) (A9c n ty r [] 0 2) (atT n a (brK ((r (0+a.toNat)).1 == 2)
  (atT n a (brK ((r (0+a.toNat)).2.1 == [45]) (atT n a (C2s n ty r (W (a+1)) (r (0+(W (a+1)).toNat)) (some ((r (0+a.toNat)).2.1 == [45]))))
   (atT n a (brK ((r (0+a.toNat)).2.1 == [43]) (atT n a (C2s n ty r (W (a+1)) (r (0+(W (a+1)).toNat)) (some ((r (0+a.toNat)).2.1 == [45])))) (C2s n ty r a (r (0+a.toNat)) none)))))
  (C2s n ty r a (r (0+a.toNat)) none))))
theorem G1h:(C8 prog pBg 60).call 35 (spSi.rho [.n n,.i a,.n n,.r (fun i=>I1 (r i)),.n ty]) (spSi.heap [.n n,.i a,.n n,.r (fun i=>I1 (r i)),.n ty]) (O8 F7v 9 [])=C5x n ty a r:=by kernel_rfl
end
end Go.Proofs.Tryz
namespace Go.Proofs.Tryz
open Go.Ad
def F1v (m:Bool) (j:Nat) (u:Tok):List UInt8 × Int × Int :=
 if u.1 ≠ 1 then ([],0,4) else if (O6 u.2.1).2 ≠ 0 then ([],0,(O6 u.2.1).2)
 else (bif m then A3c (-A7 (H5 (O6 u.2.1).1).1) (A7 (H5 (O6 u.2.1).1).2.1) else (O6 u.2.1).1,((j+1:Nat):Int),0)
def D0r (L:List Tok) (m:Bool) (j:Nat):List UInt8 × Int × Int:=if j < L.length then F1v m j (L.getD j I9) else ([],0,4)
def A4y (L:List Tok) (a:Int):List UInt8 × Int × Int :=
 if 0<=a/\a < (L.length:Int) then D0r L (isS (L.getD a.toNat I9) [45]) (bif isS (L.getD a.toNat I9) [45] || isS (L.getD a.toNat I9) [43] then a.toNat+1 else a.toNat) else ([],0,2)
theorem D8w {t:List UInt8} (h:(O6 t).2=0):A0r (O6 t).1=0/\szH (O6 t).1=true:=by
 have h0:A0s t=0:=by
  unfold O6 at h
  split at h
  ·rename_i h1; exact absurd h h1
  ·rename_i h1; simpa using h1
 obtain ⟨a,b,_,_⟩:=E2i h0
 exact ⟨a,b⟩
section
variable {L:List Tok} {ty:Nat} {a:Int}
abbrev A1n (L:List Tok) (ty:Nat) (p:List UInt8 × Int × Int):Option (List Lf):=A9c L.length ty (fun i=>L.getD i I9) p.1 p.2.1 p.2.2
theorem B2a {n j:Nat} (h:j < n) (X:Option (List Lf)):atT n (j:Int) X=X:=by
 unfold atT
 rw [dT (show 0<=(j:Int)/\(j:Int) < (n:Int) by omega),Int.toNat_natCast,dT (show 0+j < n by omega)]; rfl
theorem C9s {t:Tok} {j:Nat} (hL:L.length<=10000) (hz:∀ t,t ∈ L->D9 t.2.1=true):C8p L.length ty (fun i=>L.getD i I9) t (j:Int) (L.getD j I9)=A1n L ty (D0r L (isS t [45]) j):=by
 unfold C8p D0r
 by_cases hj:j < L.length
 ·rw [dF (show ¬ (j:Int) >= (L.length:Int) by omega),if_pos hj,B2a hj,B2a hj]
  have hu:L.getD j I9 ∈ L:=by
   rw [List.getD_eq_getElem?_getD,List.getElem?_eq_getElem hj]; exact List.getElem_mem hj
  have hzu:=hz _ hu
  generalize L.getD j I9=u at *
  have e2:W ((j:Int)+1)=((j+1:Nat):Int):=by rw [W,wrap64 (by omega) (by omega)]; omega
  unfold F1v E8h
  rw [hzu,e2]
  by_cases h1:u.1=1
  ·rw [show (u.1 != 1)=false by rw [h1]; rfl,if_neg (by simpa using h1)]
   by_cases h2:(O6 u.2.1).2=0
   ·obtain ⟨q1,q2⟩:=D8w h2
    rw [if_neg (by simpa using h2),h2,q2]
    unfold C6c
    rw [if_neg (by simpa using q1)]
    cases isS t [45] <;> rfl
   ·rw [if_pos h2,show ((O6 u.2.1).2 == 0)=false by rw [beq_eq_false_iff_ne]; exact h2,show ((O6 u.2.1).2 != 0)=true by rw [bne_iff_ne]; exact h2]; rfl
  ·rw [show (u.1 != 1)=true by rw [bne_iff_ne]; exact h1,if_pos h1]; rfl
 ·rw [dT (show (j:Int) >= (L.length:Int) by omega),if_neg hj]; rfl
theorem D1w {m:Bool} {b:Option Bool} {j:Nat} (hb:b.getD false=m) (hL:L.length<=10000) (hz:∀ t,t ∈ L->D9 t.2.1=true):C2s L.length ty (fun i=>L.getD i I9) (j:Int) (L.getD j I9) b=A1n L ty (D0r L m j):=by
 unfold C2s D0r
 by_cases hj:j < L.length
 ·rw [dF (show ¬ (j:Int) >= (L.length:Int) by omega),if_pos hj,B2a hj,B2a hj]
  have hu:L.getD j I9 ∈ L:=by
   rw [List.getD_eq_getElem?_getD,List.getElem?_eq_getElem hj]; exact List.getElem_mem hj
  have hzu:=hz _ hu
  generalize L.getD j I9=u at *
  have e2:W ((j:Int)+1)=((j+1:Nat):Int):=by rw [W,wrap64 (by omega) (by omega)]; omega
  unfold F1v F8u
  rw [hzu,e2]
  by_cases h1:u.1=1
  ·rw [show (u.1 != 1)=false by rw [h1]; rfl,if_neg (by simpa using h1)]
   by_cases h2:(O6 u.2.1).2=0
   ·obtain ⟨q1,q2⟩:=D8w h2
    rw [if_neg (by simpa using h2),h2,A8 (show A0r (O6 u.2.1).1=0/\szH (O6 u.2.1).1=true from ⟨q1,q2⟩)]
    cases b with
    | none=>subst hb; rfl
    | some b=>subst hb; cases b <;> rfl
   ·rw [if_pos h2,show ((O6 u.2.1).2 != 0)=true by rw [bne_iff_ne]; exact h2]; rfl
  ·rw [show (u.1 != 1)=true by rw [bne_iff_ne]; exact h1,if_pos h1]; rfl
 ·rw [dT (show (j:Int) >= (L.length:Int) by omega),if_neg hj]; rfl
theorem D4p (hL:L.length<=10000) (hz:∀ t,t ∈ L->D9 t.2.1=true):C6k L.length ty a (fun i=>L.getD i I9)=A1n L ty (A4y L a):=by
 unfold C6k A4y
 by_cases h0:a < 0
 ·rw [dT h0,if_neg (by omega)]; rfl
 obtain ⟨j,rfl⟩:∃ j:Nat,a=j:=⟨a.toNat,by omega⟩
 rw [dF h0]
 by_cases h1:j < L.length
 ·have e2:W ((j:Int)+1)=((j+1:Nat):Int):=by rw [W,wrap64 (by omega) (by omega)]; omega
  rw [dF (show ¬ (j:Int) >= (L.length:Int) by omega),if_pos (by omega),B2a h1,B2a h1,e2,Int.toNat_natCast,Int.toNat_natCast,Nat.zero_add,Nat.zero_add,C9s hL hz,C9s hL hz]
  cases isS (L.getD j I9) [45] <;> cases isS (L.getD j I9) [43] <;> rfl
 ·rw [dT (show (j:Int) >= (L.length:Int) by omega),if_neg (by omega)]; rfl
theorem D5y (hL:L.length<=10000) (hz:∀ t,t ∈ L->D9 t.2.1=true):C5x L.length ty a (fun i=>L.getD i I9)=A1n L ty (A4y L a):=by
 unfold C5x A4y
 by_cases h0:a < 0
 ·rw [dT h0,if_neg (by omega)]; rfl
 obtain ⟨j,rfl⟩:∃ j:Nat,a=j:=⟨a.toNat,by omega⟩
 rw [dF h0]
 by_cases h1:j < L.length
 ·have e2:W ((j:Int)+1)=((j+1:Nat):Int):=by rw [W,wrap64 (by omega) (by omega)]; omega
  have i45:isS (L.getD j I9) [45]=((L.getD j I9).1 == 2 && (L.getD j I9).2.1 == [45]):=rfl
  have i43:isS (L.getD j I9) [43]=((L.getD j I9).1 == 2 && (L.getD j I9).2.1 == [43]):=rfl
  simp only [B2a h1,e2,Int.toNat_natCast,Nat.zero_add]
  rw [dF (show ¬ (j:Int) >= (L.length:Int) by omega),if_pos (by omega)]
  have v1:=fun m b (hb:b.getD false=m)=>D1w (L:=L) (ty:=ty) (m:=m) (b:=b) (j:=j) hb hL hz
  have v2:=fun m b (hb:b.getD false=m)=>D1w (L:=L) (ty:=ty) (m:=m) (b:=b) (j:=j+1) hb hL hz
  rw [i45,i43]
  cases (L.getD j I9).1 == 2 with
  | false=>exact v1 false none rfl
  | true =>
   cases (L.getD j I9).2.1 == [45] with
   | true=>exact v2 true (some true) rfl
   | false =>
    cases (L.getD j I9).2.1 == [43] with
    | true=>exact v2 false (some false) rfl
    | false=>exact v1 false none rfl
 ·rw [dT (show (j:Int) >= (L.length:Int) by omega),if_neg (by omega)]; rfl
end
def TSi:List Lf->Tr (SP × List Lf)
 | [.n n,.i a,.n n',.r f,.n ty]=>.br (A9 (n'=n/\U2 n f/\n<=10000)) (.leaf (F7v,[.s (A4y (J9 n f) a).1,.i (A4y (J9 n f) a).2.1,.i (A4y (J9 n f) a).2.2,.n n,.r f,.n ty])) .fail
 | _=>.fail
theorem F8n {A:Amb} {f:FuncId} (hr:∀ (a:Int) (L:List Tok) (ty:Nat),L.length<=10000->(∀ t,t ∈ L->D9 t.2.1=true)->∃ prims,PrimOK prog A prims /\
   (C8 prog prims 60).call f (spSi.rho [.n L.length,.i a,.n L.length,.r (F5 L),.n ty]) (spSi.heap [.n L.length,.i a,.n L.length,.r (F5 L),.n ty]) (O8 F7v 9 [])=A1n L ty (A4y L a)) :
  ∀ args B v B' D,(funQ spSi 9 [] TSi args B).get=some (v,B',D)->AFr B B' D/\CallT prog A f args B v B' D:=by
 refine I6 D5 D6 rfl fun ls sq l h=>?_
 unfold TSi at h
 split at h
 ·rename_i n a n' f ty
  obtain ⟨hc,hv⟩:=Tr.br1 h
  obtain ⟨rfl,⟨h2,h3⟩,h4⟩:=D7 hc
  cases hv
  obtain ⟨L,hL⟩:∃ L,L=J9 n' f:=⟨_,rfl⟩
  have hn:n'=L.length:=by rw [hL]; simp [J9]
  rw [<- hL] at h2 h3 ⊢
  subst hn h2
  obtain ⟨prims,h5,h6⟩:=hr a L ty h4 h3
  exact ⟨⟨.inr rfl,.inr rfl,.inr rfl,.inr rfl,.inr rfl,.inr rfl,.inr rfl,.inr rfl,.inr rfl,trivial⟩,rfl,prims,60,_,h5,h6,fun _ _=>.refl⟩
 ·cases h
def pSi:Prims:=(pBg.addh 34 (G8 8 (funQ spSi 9 [] TSi))).addh 35 (G8 8 (funQ spSi 9 [] TSi))
theorem G3d {A:Amb} (hT:Tab A) (hG:prog.globals.size<=A.G):PrimOK prog A pSi :=
 ((D6z hT hG).addl gsz func34 (by kernel_rfl) (F8n fun a L ty h1 h2=>⟨pBg,D6z hT hG,(G4d L.length ty a fun i=>L.getD i I9).trans (D4p h1 h2)⟩)).addl gsz func35 (by kernel_rfl)
  (F8n fun a L ty h1 h2=>⟨pBg,D6z hT hG,(G1h L.length ty a fun i=>L.getD i I9).trans (D5y h1 h2)⟩)
end Go.Proofs.Tryz
namespace Go.Proofs.Tryz
open Go.Ad
def spP0:SP:=⟨[.row 8,.str],dd8++[.vecT 3]⟩
theorem F5j (s:List UInt8) (ty:Nat):(C8 prog F2s 60).call 33 (spP0.rho [.n 0,.s s,.n 0,.r (F5 []),.n ty]) (spP0.heap [.n 0,.s s,.n 0,.r (F5 []),.n ty]) (O8 sqP 9 [])=E1m s 0 ty (fun i=>[].getD i I9):=by kernel_rfl
theorem F6t (s:List UInt8) (ty:Nat):(C8 prog F0w 60).call 36 (spP0.rho [.n 0,.s s,.n 0,.r (F5 []),.n ty]) (spP0.heap [.n 0,.s s,.n 0,.r (F5 []),.n ty]) (O8 sqP 9 [])=C5a s 0 ty (fun i=>[].getD i I9):=by kernel_rfl
def F4x:List Lf->Tr (SP × List Lf)
 | [.n n,.s s,.n n',.r f,.n ty]=>.br (A9 (n=0/\n'=0/\f=F5 [])) (.leaf (sqP,[.n (A2n s []).1.length,.fr (N9 (A2n s []).1),.i (A2n s []).2,.n 0,.r f,.n ty])) .fail
 | _=>.fail
theorem E7y {A:Amb} {f:FuncId} (hr:∀ (s:List UInt8) (ty:Nat),∃ prims,PrimOK prog A prims /\
   (C8 prog prims 60).call f (spP0.rho [.n 0,.s s,.n 0,.r (F5 []),.n ty]) (spP0.heap [.n 0,.s s,.n 0,.r (F5 []),.n ty]) (O8 sqP 9 [])=B1o [] ty (A2n s [])) :
  ∀ args B v B' D,(funQ spP0 9 [] F4x args B).get=some (v,B',D)->AFr B B' D/\CallT prog A f args B v B' D:=by
 refine I6 D5 D6 rfl fun ls sq l h=>?_
 unfold F4x at h
 split at h
 ·rename_i n s n' f ty
  obtain ⟨hc,hv⟩:=Tr.br1 h
  obtain ⟨rfl,rfl,rfl⟩:=D7 hc
  cases hv
  obtain ⟨prims,h4,h5⟩:=hr s ty
  obtain ⟨l0,hl0⟩:∃ l0,B1o [] ty (A2n s [])=some l0:=by
   unfold B1o
   cases (A2n s []).2 == 0 <;> exact ⟨_,rfl⟩
  exact ⟨⟨.inr rfl,.inr rfl,.inr rfl,.inr rfl,.inr rfl,.inr rfl,.inr rfl,.inr rfl,.inr rfl,trivial⟩,rfl,prims,60,l0,h4,h5.trans hl0,fun Bb _=>wkP [] ty _ B9i hl0⟩
 ·cases h
def pS0:Prims:=(pSm.addh 33 (G8 8 (funQ spP0 9 [] F4x))).addh 36 (G8 8 (funQ spP0 9 [] F4x))
theorem G5m {A:Amb} (hT:Tab A) (hG:prog.globals.size<=A.G):PrimOK prog A pS0 :=
 ((E6f hT hG).addl gsz func33 (by kernel_rfl) (E7y fun s ty=>⟨F2s,D8c hT hG,(F5j s ty).trans (D0o (L:=[]) (fun t h=>by cases h))⟩)).addl gsz func36 (by kernel_rfl)
  (E7y fun s ty=>⟨F0w,E0q hT hG,(F6t s ty).trans (C2w (L:=[]) (fun t h=>by cases h))⟩)
def E9n:Code:=f10.body.getD .skip
def D3n:Code:=I7 (J7 0 E9n)
def sp10:SP:=⟨dr 13++[.flist 1,.flist 1]++dr 60++[.int .i64,.int .i64]++dr 14,dd8++[.vecT 3]⟩
def lf10 (K:Nat) (g:Nat->List FV) (i:Int) (n:Nat) (f:Nat->List AV) (ty:Nat):List Lf:=[.n K,.fr g,.n K,.fr g,.i K,.i i,.n n,.r f,.n ty]
def B9e (K:Nat) (D:List (List Tok)) (i:Int) (n:Nat) (f:Nat->List AV) (ty:Nat) (X:List Tok):Option (AEx × List Lf) :=
 brK (decide (i < (K:Int))) (brK (decide (0<=i/\i < (K:Int))) (brK (decide (0<=i/\i < (K:Int)))
  (brK (A9 (J3 (F5 X)=J3 (F5 (Q4 X.length (J3 (F5 X))))/\J3 (F5 X)=J3 (F5 (Q4 X.length (J3 (F5 X))))/\X.length<=4097))
   (brK (!decide (Q4 X.length (J3 (F5 X))=Q4 X.length (J3 (F5 X)))) (some (.ret,lf10 K (N9 D) i n f ty)) (some (.normal,lf10 K (N9 D) (W (i+1)) n f ty))) none) none) none)
  (some (.exit 0,lf10 K (N9 D) i n f ty))
theorem F5b {prims:Prims} (hp:prims=pSi \/ prims=pS0) (K:Nat) (D:List (List Tok)) (i:Int) (n:Nat) (f:Nat->List AV) (ty:Nat) :
  E9 prog (C8 prog prims 60) F7 D3n (sp10.rho (lf10 K (N9 D) i n f ty)) (sp10.heap (lf10 K (N9 D) i n f ty)) (H6 (fun _=>sp10) 9 [])=B9e K D i n f ty (D.getD i.toNat []):=by
 rcases hp with rfl | rfl <;> kernel_rfl
def B8u (D:List (List Tok)):Prop:=∀ i,(D.getD i []).length<=4097
theorem G3p {A:Amb} {prims:Prims} (hp:prims=pSi \/ prims=pS0) (hpo:PrimOK prog A prims) (D:List (List Tok)) (n:Nat) (f:Nat->List AV) (ty:Nat) (hD:D.length<=5000) (hs:B8u D) {Bb:Heap} (hB:Bb.length=9) :
  SEB prog A Bb (.loop D3n) ⟨sp10.rho (lf10 D.length (N9 D) 0 n f ty),sp10.heap (lf10 D.length (N9 D) 0 n f ty),[]⟩ (.exit 0) ⟨sp10.rho (lf10 D.length (N9 D) D.length n f ty),sp10.heap (lf10 D.length (N9 D) D.length n f ty),[]⟩:=by
 refine SEB.while (fun i:Nat=>i<=D.length) (fun i=>D.length - i) (fun i=>⟨sp10.rho (lf10 D.length (N9 D) i n f ty),sp10.heap (lf10 D.length (N9 D) i n f ty),[]⟩)
  (fun _=>(.exit 0,⟨sp10.rho (lf10 D.length (N9 D) D.length n f ty),sp10.heap (lf10 D.length (N9 D) D.length n f ty),[]⟩)) (fun i hx=>?_) 0 (Nat.zero_le _)
 have hk:=F5b hp D.length D i n f ty
 by_cases hi:i < D.length
 ·left
  have e2:W ((i:Int)+1)=((i+1:Nat):Int):=by rw [W,wrap64 (by omega) (by omega)]; omega
  have ht:B9e D.length D i n f ty (D.getD (i:Int).toNat [])=some (.normal,lf10 D.length (N9 D) ((i+1:Nat):Int) n f ty):=by
   rw [Int.toNat_natCast]
   unfold B9e
   rw [e2,dT (show (i:Int) < (D.length:Int) by omega),dT (show 0<=(i:Int)/\(i:Int) < (D.length:Int) by omega),D3t,A8 (show _/\_/\_ from ⟨rfl,rfl,hs i⟩),dT rfl]; rfl
  rw [ht] at hk
  exact ⟨i+1,by omega,by omega,rfl,SEB.of_KP (e:=.normal) (sp:=fun _=>sp10) D5 D6 hpo (.none _) hB hk rfl⟩
 ·right
  have e:i=D.length:=by omega
  subst e
  have ht:B9e D.length D D.length n f ty (D.getD (D.length:Int).toNat [])=some (.exit 0,lf10 D.length (N9 D) D.length n f ty):=by
   unfold B9e
   rw [dF (show ¬ (D.length:Int) < (D.length:Int) by omega)]; rfl
  rw [ht] at hk
  exact ⟨by simp,SEB.of_KP (e:=.exit 0) (sp:=fun _=>sp10) D5 D6 hpo (.none _) hB hk rfl⟩
def D6y:Blk:=hookP sp10 9 [] fun
 | [.n K,.fr g,.n K',.fr g',.i m,.i i,.n n,.r f,.n ty]=>.br (A9 (K'=K/\g'=g/\m=K/\i=0/\∃ D,K=D.length/\g=N9 D/\B8u D/\D.length<=5000)) (.leaf (.normal,sp10,lf10 K g K n f ty)) .fail
 | _=>.fail
theorem C4v {A:Amb} {prims:Prims} (hp:prims=pSi \/ prims=pS0) (hpo:PrimOK prog A prims):PrimOK prog A (prims.addb 10 0 D6y):=by
 refine hpo.addb func10 (show f10.body=some E9n by kernel_rfl) (body:=.loop D3n) (by kernel_rfl) (M8 (by rfl) fun ls e sq l h=>?_)
 split at h
 ·rename_i K g K' g' m i n f ty
  obtain ⟨hc,hv⟩:=Tr.br1 h
  clear h
  obtain ⟨rfl,rfl,rfl,rfl,D,rfl,rfl,h5,h6⟩:=D7 hc
  simp only [Tr.get,sI,pI] at hv
  obtain ⟨rfl,rfl,rfl⟩:=hv
  exact ⟨⟨.inr rfl,.inr rfl,.inr rfl,.inr rfl,.inr rfl,.inr rfl,.inr rfl,.inr rfl,.inr rfl,trivial⟩,fun Bb hB=>SEB.block_exit (id:=0) (G3p hp hpo D n f ty h6 h5 hB)⟩
 ·cases h
end Go.Proofs.Tryz
