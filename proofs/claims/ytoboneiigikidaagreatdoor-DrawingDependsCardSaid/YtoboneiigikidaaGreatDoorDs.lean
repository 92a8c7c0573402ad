/- Drawings: how far features reach. -/
import Derived.Test.YtoboneiigikidaaGreatDoorFt
import Derived.Test.YtoboneiigikidaaGreatDoorAdFind
import Derived.Test.YtoboneiigikidaaGreatDoorShelf
noncomputable section
namespace Go.Proofs.Tryz
open Go.Ad
def A5o(k a ax:Int):Bool:=k==4||(bif k==1||k==2 then ax != a else ax==a)
def coI(f:Fea)(ax:Int):Int:=if ax=0 then f.x else if ax=1 then f.y else f.z
def rLo(f:Fea)(ax:Int):Int:=W (coI f ax-W ((W (f.hi+1)).tdiv 2))
def rHi(f:Fea)(ax:Int):Int:=W (coI f ax+W ((W (f.hi+1)).tdiv 2))
def E9b(n:Int):Bool:=decide (n < -100000)||decide (n>100000)
def rch(f:Fea)(ax:Int):Int×Int×Int:=bif A5o f.k f.a ax then(bif E9b (rLo f ax)||E9b (rHi f ax) then(0,0,2) else(rLo f ax,rHi f ax,0)) else(0,0,14)
abbrev rT(a b c:AV):Option AV:=some (.tuple [.agg [a,b],c])
abbrev rE(n:Int):Option AV:=rT (.int .i64 0) (.int .i64 0) (.int .i64 n)
abbrev rTr(f:Fea)(ax:Int)(c _lo hi:Int):Option AV:=bif A5o f.k f.a ax then brK (decide (W (c-W ((W (hi+1)).tdiv 2)) >= -100000)) (brK (!decide (W (c-W ((W (hi+1)).tdiv 2))<=100000)) (rE 2) (brK (decide (W (c+W ((W (hi+1)).tdiv 2)) >= -100000))
 (brK (!decide (W (c+W ((W (hi+1)).tdiv 2))<=100000)) (rE 2) (rT (.sint .i64 (W (c-W ((W (hi+1)).tdiv 2)))) (.sint .i64 (W (c+W ((W (hi+1)).tdiv 2)))) (.int .i64 0))) (rE 2))) (rE 2) else rE 14
abbrev rPr(f:Fea)(r:Option AV):Option AV:=brK (D8 (okR Frm.fv f.l.length (A7 Frm.fv f.l))) (brK (I8 f.s) (brK (K4 ⟨f.s,f.k,f.a,f.x,f.y,f.z,f.lo,f.hi,ofR Frm.fv f.l.length (A7 Frm.fv f.l)⟩ != 0) (brK (K4 ⟨f.s,f.k,f.a,f.x,f.y,f.z,f.lo,f.hi,ofR Frm.fv f.l.length (A7 Frm.fv f.l)⟩ != 0) (rT (.int .i64 0) (.int .i64 0) (.sint .i64 (K4 ⟨f.s,f.k,f.a,f.x,f.y,f.z,f.lo,f.hi,ofR Frm.fv f.l.length (A7 Frm.fv f.l)⟩))) r) r) none) none
abbrev F1n(f:Fea)(k a:Int):Fea:={ f with k:=k,a:=a }
abbrev A8r(f:Fea)(ax:Int):Prop:=(D6 prog pFt 60).call 126 [.agg f.av,.sint .i64 ax] (Bg 8) G7=rPr f (rTr f ax (coI f ax) 0 f.hi)
theorem A2z{k:Int}(h:0<=k/\k<3):k=0 \/ k=1 \/ k=2:=by omega
theorem F6t(f:Fea){a ax:Int}(h:0<=a/\a<3)(h2:0<=ax/\ax<3):A8r (F1n f 0 a) ax:=by
 rcases A2z h with rfl | rfl | rfl<;>rcases A2z h2 with rfl | rfl | rfl<;>(delta A8r; kernel_rfl)
theorem F6u(f:Fea){a ax:Int}(h:0<=a/\a<3)(h2:0<=ax/\ax<3):A8r (F1n f 1 a) ax:=by
 rcases A2z h with rfl | rfl | rfl<;>rcases A2z h2 with rfl | rfl | rfl<;>(delta A8r; kernel_rfl)
theorem F6v(f:Fea){a ax:Int}(h:0<=a/\a<3)(h2:0<=ax/\ax<3):A8r (F1n f 2 a) ax:=by
 rcases A2z h with rfl | rfl | rfl<;>rcases A2z h2 with rfl | rfl | rfl<;>(delta A8r; kernel_rfl)
theorem F6w(f:Fea){a ax:Int}(h:0<=a/\a<3)(h2:0<=ax/\ax<3):A8r (F1n f 3 a) ax:=by
 rcases A2z h with rfl | rfl | rfl<;>rcases A2z h2 with rfl | rfl | rfl<;>(delta A8r; kernel_rfl)
theorem F6x(f:Fea){a ax:Int}(h:0<=a/\a<3)(h2:0<=ax/\ax<3):A8r (F1n f 4 a) ax:=by
 rcases A2z h with rfl | rfl | rfl<;>rcases A2z h2 with rfl | rfl | rfl<;>(delta A8r; kernel_rfl)
def E3h(x:Int×Int×Int)(v:AV):Prop:=∃ a b c,v=.tuple [.agg [a,b],c]/\T9 x.1 a/\T9 x.2.1 b/\T9 x.2.2 c
theorem F5l{x:Int×Int×Int}{v:AV}(h:E3h x v)(Z:Emb)(y:Value)(hy:VR Z v y):VR Z (.tuple [.agg [.sint .i64 x.1,.sint .i64 x.2.1],.sint .i64 x.2.2]) y:=by
 obtain⟨a,b,c,rfl,h1,h2,h3⟩:=h
 simp only[VR,VRL] at hy
 obtain⟨l,rfl,y1,l1,e1,⟨m,rfl,z1,l2,e2,g1,z2,l3,rfl,g2,g3⟩,y2,l4,e3,g4,g5⟩:=hy
 have k1:=K7 h1 Z _ g1
 have k2:=K7 h2 Z _ g2
 have k3:=K7 h3 Z _ g4
 simp only[VR,VRL]
 simp only[VR] at k1 k2 k3
 exact⟨l,rfl,_,l1,e1,⟨m,rfl,z1,_,e2,k1,z2,l3,rfl,k2,g3⟩,y2,l4,e3,k3,g5⟩
theorem D1r{x:Int×Int×Int}{v:AV}(h:E3h x v):F5 0 v=true:=by
 obtain⟨a,b,c,rfl,h1,h2,h3⟩:=h
 simp only[F5,I9,H8 h1,H8 h2,H8 h3,Bool.and_self]
theorem D5z{f:Fea}(h:K4 f=0):0<=f.a/\f.a<3:=by
 refine Classical.byContradiction fun hn=>?_
 unfold K4 at h
 split at h
 ·omega
 ·rw[if_pos (by omega)] at h; omega
theorem E3z(f:Fea)(ax:Int)(he:K4 f=0)(h2:0<=ax/\ax<3):A8r f ax:=by
 have ha:=D5z he
 have hk:=B0q he
 obtain⟨s,k,a,x,y,z,lo,hi,l⟩:=f
 simp only at ha hk
 rcases Y3 hk with h3 | h3 | h3 | h3 | h3<;>subst h3
 ·exact F6t ⟨s,0,a,x,y,z,lo,hi,l⟩ ha h2
 ·exact F6u ⟨s,0,a,x,y,z,lo,hi,l⟩ ha h2
 ·exact F6v ⟨s,0,a,x,y,z,lo,hi,l⟩ ha h2
 ·exact F6w ⟨s,0,a,x,y,z,lo,hi,l⟩ ha h2
 ·exact F6x ⟨s,0,a,x,y,z,lo,hi,l⟩ ha h2
theorem G3x(f:Fea)(ax:Int):∃ v,rTr f ax (coI f ax) 0 f.hi=some v/\E3h (rch f ax) v:=by
 unfold rTr rch
 have e1:∀ (a b c:Int),E3h (a,b,c) (.tuple [.agg [.int .i64 a,.int .i64 b],.int .i64 c]):=fun a b c=>⟨_,_,_,rfl,.inl rfl,.inl rfl,.inl rfl⟩
 have e2:∀ (a b c:Int),E3h (a,b,c) (.tuple [.agg [.sint .i64 a,.sint .i64 b],.int .i64 c]):=fun a b c=>⟨_,_,_,rfl,.inr rfl,.inr rfl,.inl rfl⟩
 cases A5o f.k f.a ax with
 | false=>exact⟨_,rfl,e1 0 0 14⟩
 | true =>
  simp only[cond_true]
  unfold E9b
  rw[show W (coI f ax-W ((W (f.hi+1)).tdiv 2))=rLo f ax from rfl,show W (coI f ax+W ((W (f.hi+1)).tdiv 2))=rHi f ax from rfl]
  by_cases c1:rLo f ax < -100000
  ·rw[dT c1,dF (show ¬ rLo f ax >= -100000 by omega)]; exact⟨_,rfl,e1 0 0 2⟩
  rw[dF c1,dT (show rLo f ax >= -100000 by omega)]
  by_cases c2:rLo f ax>100000
  ·rw[dT c2,dF (show ¬ rLo f ax<=100000 by omega)]; exact⟨_,rfl,e1 0 0 2⟩
  rw[dF c2,dT (show rLo f ax<=100000 by omega)]
  by_cases c3:rHi f ax < -100000
  ·rw[dT c3,dF (show ¬ rHi f ax >= -100000 by omega)]; exact⟨_,rfl,e1 0 0 2⟩
  rw[dF c3,dT (show rHi f ax >= -100000 by omega)]
  by_cases c4:rHi f ax>100000
  ·rw[dT c4,dF (show ¬ rHi f ax<=100000 by omega)]; exact⟨_,rfl,e1 0 0 2⟩
  rw[dF c4,dT (show rHi f ax<=100000 by omega)]
  exact⟨_,rfl,e2 _ _ 0⟩
theorem G7m(f:Fea)(ax:Int)(hz:I8 f.s=true)(he:K4 f=0)(h2:0<=ax/\ax<3):∃ v,(D6 prog pFt 60).call 126 [.agg f.av,.sint .i64 ax] (Bg 8) G7=some v/\E3h (rch f ax) v:=by
 have h1:(D6 prog pFt 60).call 126 [.agg f.av,.sint .i64 ax] (Bg 8) G7=rPr f (rTr f ax (coI f ax) 0 f.hi):=E3z f ax he h2
 have e:rPr f (rTr f ax (coI f ax) 0 f.hi)=rTr f ax (coI f ax) 0 f.hi:=by
  unfold rPr
  rw[B8v,K5,hz,he]; rfl
 rw[h1,e]
 exact G3x f ax
def E0v:Par (Fea×Int) where
 get:=fun | [.agg l,a]=>(match D0y l,i64? a with | some (c,x),some n=>some (c,(x,n)) | _,_=>none) | _=>none
 av:=fun x=>[.agg x.1.av,.sint .i64 x.2]
 ok:=by
  intro l x h Z vs hv
  split at h
  ·split at h
   ·rename_i h1 h2
    simp only[sI,pI] at h
    obtain⟨rfl,rfl⟩:=h
    simp only[VRL,VR] at hv ⊢
    obtain⟨y,r,e,⟨a,q1,q2⟩,y2,r2,e2,q4,q3⟩:=hv
    have:=O1 h2 q4
    simp only[VR] at this
    exact⟨y,r,e,⟨a,q1,C6i h1 q2⟩,y2,r2,e2,this,q3⟩
   ·cases h
  ·cases h
 free:=fun _=>rfl
def B6e:Par (Drw×List UInt8×List UInt8×Int) where
 get:=fun | [.agg l,a,b,i]=>(match D0p l,sstr? a,sstr? b,i64? i with | some (c,x),some s,some t,some n=>some (c,(x,s,t,n)) | _,_,_,_=>none) | _=>none
 av:=fun x=>[.agg x.1.av,.sstr x.2.1,.sstr x.2.2.1,.sint .i64 x.2.2.2]
 ok:=by
  intro l x h Z vs hv
  split at h
  ·split at h
   ·rename_i h1 h2 h3 h4
    simp only[sI,pI] at h
    obtain⟨rfl,rfl⟩:=h
    simp only[VRL,VR] at hv ⊢
    obtain⟨y,r,e,⟨a,q1,q2⟩,y2,r2,e2,q4,y3,r3,e3,q5,y4,r4,e4,q6,q3⟩:=hv
    have:=O1 h4 q6
    simp only[VR] at this
    exact⟨y,r,e,⟨a,q1,C6g h1 q2⟩,y2,r2,e2,O3 h2 q4,y3,r3,e3,O3 h3 q5,y4,r4,e4,this,q3⟩
   ·cases h
  ·cases h
 free:=fun _=>rfl
theorem G4d(f:Fea)(ax:Int):(D6 prog pFt 60).call 128 [.agg f.av,.sint .i64 ax] (Bg 8) G7 =
  brK (f.k==4) (some (.bool true)) (brK (f.k==1) (some (.sbool (ax != f.a))) (brK (f.k==2) (some (.sbool (ax != f.a))) (some (.sbool (ax==f.a))))):=by kernel_rfl
theorem G7n(f:Fea)(ax:Int):∃ v,(D6 prog pFt 60).call 128 [.agg f.av,.sint .i64 ax] (Bg 8) G7=some v/\A5e (A5o f.k f.a ax) v:=by
 rw[G4d]
 by_cases c1:f.k=4
 rotate_left
 by_cases c2:f.k=1
 rotate_left
 by_cases c3:f.k=2
 rotate_left
 all_goals
  apply exV
  focus
   repeat first
    | exact rfl
    | refine A8 rfl ?_
    | refine C8 rfl ?_
    | refine A8 (by simp only[SBs]; omega) ?_
    | refine C8 (by simp only[SBs]; omega) ?_
  focus
   first
    | apply vbB
    | apply vbS
   repeat first
    | exact rfl
    | omega
    | refine J3 (by omega) ?_
    | refine H5 (by omega) ?_
    | (unfold A5o; simp only[c1]; rfl)
    | (unfold A5o; simp only[c2]; rfl)
    | (unfold A5o; simp only[c3]; rfl)
    | (unfold A5o; rw[beq_eq_false_iff_ne.2 c1,beq_eq_false_iff_ne.2 c2,beq_eq_false_iff_ne.2 c3]; rfl)
def VRc(x:Fea×Int):Tr AV:=.br (I8 x.1.s&&(decide (K4 x.1=0)&&decide (0<=x.2/\x.2<3))) (.leaf (.tuple [.agg [.sint .i64 (rch x.1 x.2).1,.sint .i64 (rch x.1 x.2).2.1],.sint .i64 (rch x.1 x.2).2.2])) .fail
def pDs:Prims:=(pFt.addt 126 (Q8 E0v VRc)).addt 128 (Q8 E0v fun x=>.leaf (.sbool (A5o x.1.k x.1.a x.2)))
theorem E9g{A:Amb}(hT:Tab A)(hG:gN prog<=A.G):PrimOK prog A pDs:=by
 have h0:=G3l hT hG
 refine J4 hG h0 (J4 hG h0 h0 E0v VRc func126 (by kernel_rfl) fun x v hv=>?_) E0v _ func128 (by kernel_rfl) fun x v hv=>?_
 ·obtain⟨hz,hv⟩:=Tr.br1 hv
  cases hv
  simp only[bA,dQ] at hz
  obtain⟨v',h1,h2⟩:=G7m x.1 x.2 hz.1 hz.2.1 hz.2.2
  exact⟨v',h1,D1r h2,F5l h2⟩
 ·cases hv
  obtain⟨v',h1,h2⟩:=G7n x.1 x.2
  exact⟨v',h1,V7 h2,A0s h2⟩
def drE(d:Drw):Drw:=⟨d.s,ofR Fea.fv d.l.length (A7 Fea.fv d.l),ofR Dim.fv d.m.length (A7 Dim.fv d.m)⟩
def feE(f:Fea):Fea:=⟨f.s,f.k,f.a,f.x,f.y,f.z,f.lo,f.hi,ofR Frm.fv f.l.length (A7 Frm.fv f.l)⟩
theorem V9(d:Drw):drE d=d:=G1v d
theorem A8e(f:Fea):feE f=f:=B8v f
def A6f(a b:List UInt8):Int:=if Op.bytesLess a b=true then -1 else if a=b then 0 else 1
theorem gtF{a b:List UInt8}(h:a=b):(!(Op.bytesLess a b||a==b))=false:=by subst h; simp
theorem gtT{a b:List UInt8}(h1:¬ Op.bytesLess a b=true)(h2:¬ a=b):(!(Op.bytesLess a b||a==b))=true:=by simp[h1,h2]
theorem neF{a:List UInt8}:(!(a==a))=false:=by simp
theorem nei{a:Int}:(!(a==a))=false:=by simp
def A2q(a b:Int):Int:=if a<b then -1 else if a>b then 1 else 0
def A7l(a b:Dim):Bool:=if a.f≠b.f then Op.bytesLess a.f b.f else if a.t≠b.t then Op.bytesLess a.t b.t else if a.a≠b.a then decide (a.a<b.a) else if a.lo≠b.lo then decide (a.lo<b.lo) else decide (a.hi<b.hi)
def B0z(a b:Dim):Int:=if A6f a.f b.f≠0 then A6f a.f b.f else if A6f a.t b.t≠0 then A6f a.t b.t else if A2q a.a b.a≠0 then A2q a.a b.a else if A2q a.lo b.lo≠0 then A2q a.lo b.lo else if A2q a.hi b.hi≠0 then A2q a.hi b.hi else 0
theorem G4f(a b:List UInt8):(D6 prog pDs 60).call 148 [.sstr a,.sstr b] (Bg 8) G7 =
  brK (!a==a) (brK (!b==b) (some (.int .i64 0)) (some (.int .i64 (-1)))) (brK (!b==b) (some (.int .i64 1)) (brK (Op.bytesLess a b) (some (.int .i64 (-1))) (brK (!(Op.bytesLess a b||a==b)) (some (.int .i64 1)) (some (.int .i64 0))))):=by kernel_rfl
theorem G7p(a b:List UInt8):∃ v,(D6 prog pDs 60).call 148 [.sstr a,.sstr b] (Bg 8) G7=some v/\T9 (A6f a b) v:=by
 rw[G4f]
 by_cases c1:Op.bytesLess a b=true
 rotate_left
 by_cases c2:a=b
 rotate_left
 all_goals
  apply exV
  focus
   repeat first
    | exact rfl
    | refine A8 rfl ?_
    | refine C8 rfl ?_
    | refine A8 (by simp only[SBs]; omega) ?_
    | refine C8 (by simp only[SBs]; omega) ?_
    | refine C8 neF ?_
    | refine C8 neG ?_
    | refine A8 c1 ?_
    | refine C8 (by simpa using c1) ?_
    | refine C8 (gtF c2) ?_
    | refine A8 (gtT c1 c2) ?_
  focus
   first
    | apply viI
    | apply viS
   dsimp only [A6f]
   repeat first
    | exact rfl
    | omega
    | refine J3 (by omega) ?_
    | refine H5 (by omega) ?_
    | refine J3 c1 ?_
    | refine H5 c1 ?_
    | refine J3 c2 ?_
    | refine H5 c2 ?_
theorem G4g(a b:Int):(D6 prog pDs 60).call 149 [.sint .i64 a,.sint .i64 b] (Bg 8) G7 =
  brK (a != a) (brK (b != b) (some (.int .i64 0)) (some (.int .i64 (-1)))) (brK (b != b) (some (.int .i64 1)) (brK (decide (a<b)) (some (.int .i64 (-1))) (brK (decide (a>b)) (some (.int .i64 1)) (some (.int .i64 0))))):=by kernel_rfl
theorem G7q(a b:Int):∃ v,(D6 prog pDs 60).call 149 [.sint .i64 a,.sint .i64 b] (Bg 8) G7=some v/\T9 (A2q a b) v:=by
 rw[G4g]
 by_cases c1:a<b
 rotate_left
 by_cases c2:a>b
 rotate_left
 all_goals
  apply exV
  focus
   repeat first
    | exact rfl
    | refine A8 rfl ?_
    | refine C8 rfl ?_
    | refine A8 (by simp only[SBs]; omega) ?_
    | refine C8 (by simp only[SBs]; omega) ?_
    | refine C8 nei ?_
    | refine C8 nej ?_
  focus
   first
    | apply viI
    | apply viS
   dsimp only [A2q]
   repeat first
    | exact rfl
    | omega
    | refine J3 (by omega) ?_
    | refine H5 (by omega) ?_
def TCs:List Lf->Tr AV
 | [.s a,.s b]=>.leaf (.sint .i64 (A6f a b))
 | _=>.fail
def TCi:List Lf->Tr AV
 | [.i a,.i b]=>.leaf (.sint .i64 (A2q a b))
 | _=>.fail
def E9o:Prims:=(pDs.addt 148 (gP [.str,.str] TCs)).addt 149 (gP [.int .i64,.int .i64] TCi)
theorem F6r{A:Amb}(hT:Tab A)(hG:gN prog<=A.G):PrimOK prog A E9o:=by
 have h0:=E9g hT hG
 refine C4q hG h0 (C4q hG h0 h0 [.str,.str] TCs func148 (by kernel_rfl) fun ls v hv=>?_) [.int .i64,.int .i64] TCi func149 (by kernel_rfl) fun ls v hv=>?_
 ·unfold TCs at hv
  split at hv
  ·rename_i a b
   cases hv
   obtain⟨v',h1,h2⟩:=G7p a b
   exact⟨rfl,v',h1,A6t h2,K7 h2⟩
  ·cases hv
 ·unfold TCi at hv
  split at hv
  ·rename_i a b
   cases hv
   obtain⟨v',h1,h2⟩:=G7q a b
   exact⟨rfl,v',h1,A6t h2,K7 h2⟩
  ·cases hv
def E0t:Par (Dim×Dim) where
 get:=fun | [.agg l,.agg m]=>(match E5n l,E5n m with | some x,some y=>some (true,(x,y)) | _,_=>none) | _=>none
 av:=fun x=>[.agg x.1.av,.agg x.2.av]
 ok:=by
  intro l x h Z vs hv
  split at h
  ·split at h
   ·rename_i h1 h2
    simp only[sI,pI,true_and] at h
    subst h
    simp only[VRL,VR] at hv ⊢
    obtain⟨y,r,e,⟨a,q1,q2⟩,y2,r2,e2,⟨a2,q4,q5⟩,q3⟩:=hv
    exact⟨y,r,e,⟨a,q1,C6f h1 q2⟩,y2,r2,e2,⟨a2,q4,C6f h2 q5⟩,q3⟩
   ·cases h
  ·cases h
 free:=fun _=>rfl
theorem G9s(a b:Dim):(D6 prog E9o 60).call 96 [.agg a.av,.agg b.av] (Bg 8) G7 =
  brK (A6f a.f b.f != 0) (some (.sint IntKind.i64 (A6f a.f b.f))) (brK (A6f a.t b.t != 0) (some (.sint IntKind.i64 (A6f a.t b.t))) (brK (A2q a.a b.a != 0) (some (.sint IntKind.i64 (A2q a.a b.a))) (brK (A2q a.lo b.lo != 0) (some (.sint IntKind.i64 (A2q a.lo b.lo))) (brK (A2q a.hi b.hi != 0) (some (.sint IntKind.i64 (A2q a.hi b.hi))) (some (.int .i64 0)))))):=by kernel_rfl
theorem H1q(a b:Dim):∃ v,(D6 prog E9o 60).call 96 [.agg a.av,.agg b.av] (Bg 8) G7=some v/\T9 (B0z a b) v:=by
 rw[G9s]
 by_cases c1:A6f a.f b.f≠0
 rotate_left
 by_cases c2:A6f a.t b.t≠0
 rotate_left
 by_cases c3:A2q a.a b.a≠0
 rotate_left
 by_cases c4:A2q a.lo b.lo≠0
 rotate_left
 by_cases c5:A2q a.hi b.hi≠0
 rotate_left
 all_goals
  apply exV
  focus
   repeat first
    | exact rfl
    | refine A8 rfl ?_
    | refine C8 rfl ?_
    | refine A8 (by simp only[SBs]; omega) ?_
    | refine C8 (by simp only[SBs]; omega) ?_
  focus
   first
    | apply viI
    | apply viS
   dsimp only [B0z]
   repeat first
    | exact rfl
    | omega
    | refine J3 (by omega) ?_
    | refine H5 (by omega) ?_
theorem G4b(a b:Dim):(D6 prog E9o 60).call 100 [.agg a.av,.agg b.av] (Bg 8) G7 =
  brK (!a.f==b.f) (some (.sbool (Op.bytesLess a.f b.f))) (brK (!a.t==b.t) (some (.sbool (Op.bytesLess a.t b.t))) (brK (a.a != b.a) (some (.sbool (decide (a.a<b.a)))) (brK (a.lo != b.lo) (some (.sbool (decide (a.lo<b.lo)))) (some (.sbool (decide (a.hi<b.hi))))))):=by kernel_rfl
theorem G7k(a b:Dim):∃ v,(D6 prog E9o 60).call 100 [.agg a.av,.agg b.av] (Bg 8) G7=some v/\A5e (A7l a b) v:=by
 rw[G4b]
 by_cases c1:a.f≠b.f
 rotate_left
 by_cases c2:a.t≠b.t
 rotate_left
 by_cases c3:a.a≠b.a
 rotate_left
 by_cases c4:a.lo≠b.lo
 rotate_left
 all_goals
  apply exV
  focus
   repeat first
    | exact rfl
    | refine A8 rfl ?_
    | refine C8 rfl ?_
    | refine A8 (by simp only[SBs]; omega) ?_
    | refine C8 (by simp only[SBs]; omega) ?_
    | refine A8 (by simpa using c1) ?_
    | refine C8 (by simpa using c1) ?_
    | refine A8 (by simpa using c2) ?_
    | refine C8 (by simpa using c2) ?_
  focus
   first
    | apply vbB
    | apply vbS
   dsimp only [A7l]
   repeat first
    | exact rfl
    | omega
    | refine J3 (by omega) ?_
    | refine H5 (by omega) ?_
    | refine J3 c1 ?_
    | refine H5 c1 ?_
    | refine J3 c2 ?_
    | refine H5 c2 ?_
theorem H0l{a b:List UInt8}:A6f a b=0↔a=b:=by
 unfold A6f
 constructor
 ·intro h
  split at h
  ·cases h
  ·split at h
   ·assumption
   ·cases h
 ·rintro rfl
  rw[if_neg (by rw[Go.Proofs.bytesLess_eq]; simp[B9m]),if_pos rfl]
theorem C9w{a b:List UInt8}(h:a≠b):A6f a b >= 0↔Op.bytesLess a b=false:=by
 unfold A6f
 cases Op.bytesLess a b with
 | true=>simp
 | false=>simp[h]
theorem H0k{a b:Int}:A2q a b=0↔a=b:=by unfold A2q; split<;>(try split)<;>omega
theorem B8k{a b:Int}:A2q a b >= 0↔decide (a<b)=false:=by unfold A2q; rw[decide_eq_false_iff_not]; split<;>(try split)<;>omega
theorem M6(a b:Dim):B0z a b >= 0↔A7l a b=false:=by
 by_cases h1:a.f=b.f
 ·by_cases h2:a.t=b.t
  ·by_cases h3:a.a=b.a
   ·by_cases h4:a.lo=b.lo
    ·have e2:A7l a b=decide (a.hi<b.hi):=by unfold A7l; rw[if_neg (fun h=>h h1),if_neg (fun h=>h h2),if_neg (fun h=>h h3),if_neg (fun h=>h h4)]
     have e1:B0z a b=A2q a.hi b.hi:=by
      unfold B0z
      rw[if_neg (fun h=>h (H0l.2 h1)),if_neg (fun h=>h (H0l.2 h2)),if_neg (fun h=>h (H0k.2 h3)),if_neg (fun h=>h (H0k.2 h4))]
      split
      ·rfl
      ·rename_i h5
       exact(Classical.byContradiction fun h=>h5 h:A2q a.hi b.hi=0).symm
     rw[e1,e2]; exact B8k
    ·have e2:A7l a b=decide (a.lo<b.lo):=by unfold A7l; rw[if_neg (fun h=>h h1),if_neg (fun h=>h h2),if_neg (fun h=>h h3),if_pos h4]
     have e1:B0z a b=A2q a.lo b.lo:=by
      unfold B0z
      rw[if_neg (fun h=>h (H0l.2 h1)),if_neg (fun h=>h (H0l.2 h2)),if_neg (fun h=>h (H0k.2 h3)),if_pos (fun h=>h4 (H0k.1 h))]
     rw[e1,e2]; exact B8k
   ·have e2:A7l a b=decide (a.a<b.a):=by unfold A7l; rw[if_neg (fun h=>h h1),if_neg (fun h=>h h2),if_pos h3]
    have e1:B0z a b=A2q a.a b.a:=by
     unfold B0z
     rw[if_neg (fun h=>h (H0l.2 h1)),if_neg (fun h=>h (H0l.2 h2)),if_pos (fun h=>h3 (H0k.1 h))]
    rw[e1,e2]; exact B8k
  ·have e2:A7l a b=Op.bytesLess a.t b.t:=by unfold A7l; rw[if_neg (fun h=>h h1),if_pos h2]
   have e1:B0z a b=A6f a.t b.t:=by
    unfold B0z
    rw[if_neg (fun h=>h (H0l.2 h1)),if_pos (fun h=>h2 (H0l.1 h))]
   rw[e1,e2]; exact C9w h2
 ·have e2:A7l a b=Op.bytesLess a.f b.f:=by unfold A7l; rw[if_pos h1]
  have e1:B0z a b=A6f a.f b.f:=by
   unfold B0z
   rw[if_pos (fun h=>h1 (H0l.1 h))]
  rw[e1,e2]; exact C9w h1
def pOd:Prims:=(pDs.addt 96 (Q8 E0t fun x=>.leaf (.sint .i64 (B0z x.1 x.2)))).addt 100 (Q8 E0t fun x=>.leaf (.sbool (A7l x.1 x.2)))
theorem G3s{A:Amb}(hT:Tab A)(hG:gN prog<=A.G):PrimOK prog A pOd:=by
 have h0:=F6r hT hG
 refine J4 hG h0 (J4 hG h0 (E9g hT hG) E0t _ func96 (by kernel_rfl) fun x v hv=>?_) E0t _ func100 (by kernel_rfl) fun x v hv=>?_
 ·cases hv
  obtain⟨v',h1,h2⟩:=H1q x.1 x.2
  exact⟨v',h1,H8 h2,K7 h2⟩
 ·cases hv
  obtain⟨v',h1,h2⟩:=G7k x.1 x.2
  exact⟨v',h1,V7 h2,A0s h2⟩
structure RightD (d:Drw):Prop where
 ok:OkD d
 fe:∀ i,i<d.l.length->K4 (D9 d i)=0
def X4(d:Drw)(s t:List UInt8)(ax:Int):Int×Int:=if E5 d s<0 then(0,6) else if E5 d t<0 then(0,6) else if A5o (d.l.getD (E5 d s).toNat default).k (d.l.getD (E5 d s).toNat default).a ax=false then(0,14)
 else if A5o (d.l.getD (E5 d t).toNat default).k (d.l.getD (E5 d t).toNat default).a ax=false then(0,14) else(W (coI (d.l.getD (E5 d t).toNat default) ax-coI (d.l.getD (E5 d s).toNat default) ax),0)
def E3g(x:Int×Int)(v:AV):Prop:=∃ a b,v=.tuple [a,b]/\T9 x.1 a/\T9 x.2 b
theorem vpI{x:Int×Int}{n m:Int}(h:x=(n,m)):E3g x (.tuple [.int .i64 n,.int .i64 m]):=by subst h; exact⟨_,_,rfl,.inl rfl,.inl rfl⟩
theorem vpS{x:Int×Int}{n m:Int}(h:x=(n,m)):E3g x (.tuple [.sint .i64 n,.int .i64 m]):=by subst h; exact⟨_,_,rfl,.inr rfl,.inl rfl⟩
theorem E0e{x:Int×Int}{v:AV}(h:E3g x v)(Z:Emb)(y:Value)(hy:VR Z v y):VR Z (.tuple [.sint .i64 x.1,.sint .i64 x.2]) y:=by
 obtain⟨a,b,rfl,h1,h2⟩:=h
 simp only[VR,VRL] at hy
 obtain⟨l,rfl,y1,l1,e1,g1,y2,l2,e2,g2,g3⟩:=hy
 have k1:=K7 h1 Z _ g1
 have k2:=K7 h2 Z _ g2
 simp only[VR,VRL]
 simp only[VR] at k1 k2
 exact⟨l,rfl,_,l1,e1,k1,y2,l2,e2,k2,g3⟩
theorem B4s{x:Int×Int}{v:AV}(h:E3g x v):F5 0 v=true:=by
 obtain⟨a,b,rfl,h1,h2⟩:=h
 simp only[F5,I9,H8 h1,H8 h2,Bool.and_self]
theorem C7o{f:Fea}{ax:Int}(h:A5o f.k f.a ax=false):((rch f ax).2.2==14)=true:=by unfold rch; rw[h]; rfl
theorem C7n{f:Fea}{ax:Int}(h:¬ A5o f.k f.a ax=false):((rch f ax).2.2==14)=false:=by
 unfold rch
 rw[show A5o f.k f.a ax=true by simpa using h,cond_true]
 cases E9b (rLo f ax)||E9b (rHi f ax)<;>rfl
theorem A9r{b:Bool}(h:¬ b=false):(!b)=false:=by cases b<;>simp_all
theorem RightD.at{d:Drw}(h:RightD d){ax:Int}(hax:0<=ax/\ax<3)(i:Int)(hi:0<=i/\i<(d.l.length:Int)):(I8 (d.l.getD i.toNat default).s&&(decide (K4 (d.l.getD i.toNat default)=0)&&decide (0<=ax/\ax<3)))=true:=by
 have h1:=h.ok.sz i.toNat (by omega)
 have h2:=h.fe i.toNat (by omega)
 simp only[bA,dQ]
 exact⟨F1w h1,h2,hax⟩
theorem G9k(d:Drw)(s t:List UInt8)(ax:Int):(D6 prog pOd 60).call 75 [.agg d.av,.sstr s,.sstr t,.sint .i64 ax] (Bg 8) G7 =
  brK (D8 (okR Fea.fv d.l.length (A7 Fea.fv d.l))&&D8 (okR Dim.fv d.m.length (A7 Dim.fv d.m))) (brK (decide ((ofR Fea.fv d.l.length (A7 Fea.fv d.l)).length<4611686018427387904)) (brK (D8 (okR Fea.fv d.l.length (A7 Fea.fv d.l))&&D8 (okR Dim.fv d.m.length (A7 Dim.fv d.m))) (brK (decide ((ofR Fea.fv d.l.length (A7 Fea.fv d.l)).length<4611686018427387904)) (brK (decide (E5 (drE d) s<0)) (some (.tuple [.int .i64 0,.int .i64 6])) (brK (decide (E5 (drE d) t<0)) (some (.tuple [.int .i64 0,.int .i64 6])) (brK (decide (0<=E5 (drE d) s/\E5 (drE d) s<(d.l.length:Int))) (brK (D8 (okR Frm.fv (d.l.getD (E5 (drE d) s).toNat default).l.length (A7 Frm.fv (d.l.getD (E5 (drE d) s).toNat default).l))) (brK (I8 (d.l.getD (E5 (drE d) s).toNat default).s&&(decide (K4 (feE (d.l.getD (E5 (drE d) s).toNat default))=0)&&decide (0<=ax/\ax<3))) (brK ((rch (feE (d.l.getD (E5 (drE d) s).toNat default)) ax).snd.snd==14) (some (.tuple [.int .i64 0,.int .i64 14])) (brK (decide (0<=E5 (drE d) t/\E5 (drE d) t<(d.l.length:Int))) (brK (D8 (okR Frm.fv (d.l.getD (E5 (drE d) t).toNat default).l.length (A7 Frm.fv (d.l.getD (E5 (drE d) t).toNat default).l))) (brK (I8 (d.l.getD (E5 (drE d) t).toNat default).s&&(decide (K4 (feE (d.l.getD (E5 (drE d) t).toNat default))=0)&&decide (0<=ax/\ax<3))) (brK ((rch (feE (d.l.getD (E5 (drE d) t).toNat default)) ax).snd.snd==14) (some (.tuple [.int .i64 0,.int .i64 14])) (brK (decide (0<=E5 (drE d) t/\E5 (drE d) t<(d.l.length:Int))) (brK (decide (ax=0)) (brK (decide (0<=E5 (drE d) s/\E5 (drE d) s<(d.l.length:Int))) (brK (decide (ax=0)) (some (.tuple [.sint IntKind.i64 (W ((d.l.getD (E5 (drE d) t).toNat default).x-(d.l.getD (E5 (drE d) s).toNat default).x)) ,.int .i64 0])) (brK (decide (ax=1)) (some (.tuple [.sint IntKind.i64 (W ((d.l.getD (E5 (drE d) t).toNat default).x-(d.l.getD (E5 (drE d) s).toNat default).y)) ,.int .i64 0])) (brK (decide (ax=2)) (some (.tuple [.sint IntKind.i64 (W ((d.l.getD (E5 (drE d) t).toNat default).x-(d.l.getD (E5 (drE d) s).toNat default).z)) ,.int .i64 0])) none))) none) (brK (decide (ax=1)) (brK (decide (0<=E5 (drE d) s/\E5 (drE d) s<(d.l.length:Int))) (brK (decide (ax=0)) (some (.tuple [.sint IntKind.i64 (W ((d.l.getD (E5 (drE d) t).toNat default).y-(d.l.getD (E5 (drE d) s).toNat default).x)) ,.int .i64 0])) (brK (decide (ax=1)) (some (.tuple [.sint IntKind.i64 (W ((d.l.getD (E5 (drE d) t).toNat default).y-(d.l.getD (E5 (drE d) s).toNat default).y)) ,.int .i64 0])) (brK (decide (ax=2)) (some (.tuple [.sint IntKind.i64 (W ((d.l.getD (E5 (drE d) t).toNat default).y-(d.l.getD (E5 (drE d) s).toNat default).z)) ,.int .i64 0])) none))) none) (brK (decide (ax=2)) (brK (decide (0<=E5 (drE d) s/\E5 (drE d) s<(d.l.length:Int))) (brK (decide (ax=0)) (some (.tuple [.sint IntKind.i64 (W ((d.l.getD (E5 (drE d) t).toNat default).z-(d.l.getD (E5 (drE d) s).toNat default).x)) ,.int .i64 0])) (brK (decide (ax=1)) (some (.tuple [.sint IntKind.i64 (W ((d.l.getD (E5 (drE d) t).toNat default).z-(d.l.getD (E5 (drE d) s).toNat default).y)) ,.int .i64 0])) (brK (decide (ax=2)) (some (.tuple [.sint IntKind.i64 (W ((d.l.getD (E5 (drE d) t).toNat default).z-(d.l.getD (E5 (drE d) s).toNat default).z)) ,.int .i64 0])) none))) none) none))) none)) none) none) none)) none) none) none))) none) none) none) none:=by kernel_rfl
theorem H1l(d:Drw)(s t:List UInt8)(ax:Int)(hk:RightD d)(hax:0<=ax/\ax<3):∃ v,(D6 prog pOd 60).call 75 [.agg d.av,.sstr s,.sstr t,.sint .i64 ax] (Bg 8) G7=some v/\E3g (X4 d s t ax) v:=by
 rw[G9k]
 have hl:=hk.ok.len
 have hb1:=A0h d s
 have hb2:=A0h d t
 simp only[K5,Bool.and_self,F5o,V9,A8e]
 rcases A2z hax with ha | ha | ha
 all_goals
  by_cases c1:E5 d s<0
  rotate_left
  by_cases c2:E5 d t<0
  rotate_left
  by_cases c3:A5o (d.l.getD (E5 d s).toNat default).k (d.l.getD (E5 d s).toNat default).a ax=false
  rotate_left
  by_cases c4:A5o (d.l.getD (E5 d t).toNat default).k (d.l.getD (E5 d t).toNat default).a ax=false
  rotate_left
  all_goals
   apply exV
   focus
    repeat first
     | exact rfl
     | refine A8 rfl ?_
     | refine C8 rfl ?_
     | refine A8 (by simp only[SBs]; omega) ?_
     | refine C8 (by simp only[SBs]; omega) ?_
     | refine A8 (hk.at hax _ (by omega)) ?_
     | refine A8 (C7o c3) ?_
     | refine C8 (C7n c3) ?_
     | refine A8 (C7o c4) ?_
     | refine C8 (C7n c4) ?_
     | refine A8 (notT c3) ?_
     | refine C8 (A9r c3) ?_
     | refine A8 (notT c4) ?_
     | refine C8 (A9r c4) ?_
   focus
    first
     | apply vpI
     | apply vpS
    dsimp only [X4]
    repeat first
     | exact rfl
     | omega
     | refine J3 (by omega) ?_
     | refine H5 (by omega) ?_
     | refine J3 c3 ?_
     | refine H5 c3 ?_
     | refine J3 c4 ?_
     | refine H5 c4 ?_
     | (simp only[coI,ha]; rfl)
theorem G9l(d:Drw)(s t:List UInt8)(ax:Int):(D6 prog pOd 60).call 77 [.agg d.av,.sstr s,.sstr t,.sint .i64 ax] (Bg 8) G7 =
  brK (D8 (okR Fea.fv d.l.length (A7 Fea.fv d.l))&&D8 (okR Dim.fv d.m.length (A7 Dim.fv d.m))) (brK (decide ((ofR Fea.fv d.l.length (A7 Fea.fv d.l)).length<4611686018427387904)) (brK (D8 (okR Fea.fv d.l.length (A7 Fea.fv d.l))&&D8 (okR Dim.fv d.m.length (A7 Dim.fv d.m))) (brK (decide ((ofR Fea.fv d.l.length (A7 Fea.fv d.l)).length<4611686018427387904)) (brK (decide (E5 (drE d) s<0)) (some (.tuple [.int .i64 0,.int .i64 6])) (brK (decide (E5 (drE d) t<0)) (some (.tuple [.int .i64 0,.int .i64 6])) (brK (decide (0<=E5 (drE d) s/\E5 (drE d) s<(d.l.length:Int))) (brK (decide (0<=E5 (drE d) t/\E5 (drE d) t<(d.l.length:Int))) (brK (D8 (okR Frm.fv (d.l.getD (E5 (drE d) s).toNat default).l.length (A7 Frm.fv (d.l.getD (E5 (drE d) s).toNat default).l))) (brK (!A5o (d.l.getD (E5 (drE d) s).toNat default).k (d.l.getD (E5 (drE d) s).toNat default).a ax) (some (.tuple [.int .i64 0,.int .i64 14])) (brK (D8 (okR Frm.fv (d.l.getD (E5 (drE d) t).toNat default).l.length (A7 Frm.fv (d.l.getD (E5 (drE d) t).toNat default).l))) (brK (!A5o (d.l.getD (E5 (drE d) t).toNat default).k (d.l.getD (E5 (drE d) t).toNat default).a ax) (some (.tuple [.int .i64 0,.int .i64 14])) (brK (decide (ax=0)) (brK (decide (ax=0)) (some (.tuple [.sint IntKind.i64 (W ((d.l.getD (E5 (drE d) t).toNat default).x-(d.l.getD (E5 (drE d) s).toNat default).x)) ,.int .i64 0])) (brK (decide (ax=1)) (some (.tuple [.sint IntKind.i64 (W ((d.l.getD (E5 (drE d) t).toNat default).x-(d.l.getD (E5 (drE d) s).toNat default).y)) ,.int .i64 0])) (brK (decide (ax=2)) (some (.tuple [.sint IntKind.i64 (W ((d.l.getD (E5 (drE d) t).toNat default).x-(d.l.getD (E5 (drE d) s).toNat default).z)) ,.int .i64 0])) none))) (brK (decide (ax=1)) (brK (decide (ax=0)) (some (.tuple [.sint IntKind.i64 (W ((d.l.getD (E5 (drE d) t).toNat default).y-(d.l.getD (E5 (drE d) s).toNat default).x)) ,.int .i64 0])) (brK (decide (ax=1)) (some (.tuple [.sint IntKind.i64 (W ((d.l.getD (E5 (drE d) t).toNat default).y-(d.l.getD (E5 (drE d) s).toNat default).y)) ,.int .i64 0])) (brK (decide (ax=2)) (some (.tuple [.sint IntKind.i64 (W ((d.l.getD (E5 (drE d) t).toNat default).y-(d.l.getD (E5 (drE d) s).toNat default).z)) ,.int .i64 0])) none))) (brK (decide (ax=2)) (brK (decide (ax=0)) (some (.tuple [.sint IntKind.i64 (W ((d.l.getD (E5 (drE d) t).toNat default).z-(d.l.getD (E5 (drE d) s).toNat default).x)) ,.int .i64 0])) (brK (decide (ax=1)) (some (.tuple [.sint IntKind.i64 (W ((d.l.getD (E5 (drE d) t).toNat default).z-(d.l.getD (E5 (drE d) s).toNat default).y)) ,.int .i64 0])) (brK (decide (ax=2)) (some (.tuple [.sint IntKind.i64 (W ((d.l.getD (E5 (drE d) t).toNat default).z-(d.l.getD (E5 (drE d) s).toNat default).z)) ,.int .i64 0])) none))) none)))) none)) none) none) none))) none) none) none) none:=by kernel_rfl
theorem H1m(d:Drw)(s t:List UInt8)(ax:Int)(hk:RightD d)(hax:0<=ax/\ax<3):∃ v,(D6 prog pOd 60).call 77 [.agg d.av,.sstr s,.sstr t,.sint .i64 ax] (Bg 8) G7=some v/\E3g (X4 d s t ax) v:=by
 rw[G9l]
 have hl:=hk.ok.len
 have hb1:=A0h d s
 have hb2:=A0h d t
 simp only[K5,Bool.and_self,F5o,V9]
 rcases A2z hax with ha | ha | ha
 all_goals
  by_cases c1:E5 d s<0
  rotate_left
  by_cases c2:E5 d t<0
  rotate_left
  by_cases c3:A5o (d.l.getD (E5 d s).toNat default).k (d.l.getD (E5 d s).toNat default).a ax=false
  rotate_left
  by_cases c4:A5o (d.l.getD (E5 d t).toNat default).k (d.l.getD (E5 d t).toNat default).a ax=false
  rotate_left
  all_goals
   apply exV
   focus
    repeat first
     | exact rfl
     | refine A8 rfl ?_
     | refine C8 rfl ?_
     | refine A8 (by simp only[SBs]; omega) ?_
     | refine C8 (by simp only[SBs]; omega) ?_
     | refine A8 (hk.at hax _ (by omega)) ?_
     | refine A8 (C7o c3) ?_
     | refine C8 (C7n c3) ?_
     | refine A8 (C7o c4) ?_
     | refine C8 (C7n c4) ?_
     | refine A8 (notT c3) ?_
     | refine C8 (A9r c3) ?_
     | refine A8 (notT c4) ?_
     | refine C8 (A9r c4) ?_
   focus
    first
     | apply vpI
     | apply vpS
    dsimp only [X4]
    repeat first
     | exact rfl
     | omega
     | refine J3 (by omega) ?_
     | refine H5 (by omega) ?_
     | refine J3 c3 ?_
     | refine H5 c3 ?_
     | refine J3 c4 ?_
     | refine H5 c4 ?_
     | (simp only[coI,ha]; rfl)
def VDt(x:Drw×List UInt8×List UInt8×Int):Tr AV:=.br (D8 (RightD x.1/\0<=x.2.2.2/\x.2.2.2<3)) (.leaf (.tuple [.sint .i64 (X4 x.1 x.2.1 x.2.2.1 x.2.2.2).1,.sint .i64 (X4 x.1 x.2.1 x.2.2.1 x.2.2.2).2])) .fail
def pDt:Prims:=(pOd.addt 75 (Q8 B6e VDt)).addt 77 (Q8 B6e VDt)
theorem E9h{A:Amb}(hT:Tab A)(hG:gN prog<=A.G):PrimOK prog A pDt:=by
 have h0:=G3s hT hG
 refine J4 hG h0 (J4 hG h0 h0 B6e VDt func75 (by kernel_rfl) fun x v hv=>?_) B6e VDt func77 (by kernel_rfl) fun x v hv=>?_
 ·obtain⟨hz,hv⟩:=Tr.br1 hv
  cases hv
  obtain⟨q1,q2⟩:=J7 hz
  obtain⟨v',h1,h2⟩:=H1l x.1 x.2.1 x.2.2.1 x.2.2.2 q1 q2
  exact⟨v',h1,B4s h2,E0e h2⟩
 ·obtain⟨hz,hv⟩:=Tr.br1 hv
  cases hv
  obtain⟨q1,q2⟩:=J7 hz
  obtain⟨v',h1,h2⟩:=H1m x.1 x.2.1 x.2.2.1 x.2.2.2 q1 q2
  exact⟨v',h1,B4s h2,E0e h2⟩
end Go.Proofs.Tryz
