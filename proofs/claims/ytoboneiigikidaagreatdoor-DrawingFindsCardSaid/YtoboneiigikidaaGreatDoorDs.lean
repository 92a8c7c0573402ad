/- Drawings: how far features reach. -/
import Derived.Test.YtoboneiigikidaaGreatDoorFt
import Derived.Test.YtoboneiigikidaaGreatDoorAdFind
import Derived.Test.YtoboneiigikidaaGreatDoorShelf
noncomputable section
namespace Go.Proofs.Tryz
open Go.Ad
def A5g(k a ax:Int):Bool:=k==4||(bif k==1||k==2 then ax != a else ax==a)
def coI(f:Fea)(ax:Int):Int:=if ax=0 then f.x else if ax=1 then f.y else f.z
def rLo(f:Fea)(ax:Int):Int:=W (coI f ax-W ((W (f.hi+1)).tdiv 2))
def rHi(f:Fea)(ax:Int):Int:=W (coI f ax+W ((W (f.hi+1)).tdiv 2))
def E8y(n:Int):Bool:=decide (n < -100000)||decide (n>100000)
def rch(f:Fea)(ax:Int):Int×Int×Int:=bif A5g f.k f.a ax then(bif E8y (rLo f ax)||E8y (rHi f ax) then(0,0,2) else(rLo f ax,rHi f ax,0)) else(0,0,14)
abbrev rT(a b c:AV):Option AV:=some (.tuple [.agg [a,b],c])
abbrev rE(n:Int):Option AV:=rT (.int .i64 0) (.int .i64 0) (.int .i64 n)
abbrev rTr(f:Fea)(ax:Int)(c _lo hi:Int):Option AV:=bif A5g f.k f.a ax then brK (decide (W (c-W ((W (hi+1)).tdiv 2)) >= -100000)) (brK (!decide (W (c-W ((W (hi+1)).tdiv 2))<=100000)) (rE 2) (brK (decide (W (c+W ((W (hi+1)).tdiv 2)) >= -100000))
 (brK (!decide (W (c+W ((W (hi+1)).tdiv 2))<=100000)) (rE 2) (rT (.sint .i64 (W (c-W ((W (hi+1)).tdiv 2)))) (.sint .i64 (W (c+W ((W (hi+1)).tdiv 2)))) (.int .i64 0))) (rE 2))) (rE 2) else rE 14
abbrev rPr(f:Fea)(r:Option AV):Option AV:=brK (E9 (okR Frm.fv f.l.length (A7 Frm.fv f.l))) (brK (I9 f.s) (brK (K3 ⟨f.s,f.k,f.a,f.x,f.y,f.z,f.lo,f.hi,ofR Frm.fv f.l.length (A7 Frm.fv f.l)⟩ != 0) (brK (K3 ⟨f.s,f.k,f.a,f.x,f.y,f.z,f.lo,f.hi,ofR Frm.fv f.l.length (A7 Frm.fv f.l)⟩ != 0) (rT (.int .i64 0) (.int .i64 0) (.sint .i64 (K3 ⟨f.s,f.k,f.a,f.x,f.y,f.z,f.lo,f.hi,ofR Frm.fv f.l.length (A7 Frm.fv f.l)⟩))) r) r) none) none
abbrev F1n(f:Fea)(k a:Int):Fea:={ f with k:=k,a:=a }
abbrev A8i(f:Fea)(ax:Int):Prop:=(D5 prog pFt 60).call 126 [.agg f.av,.sint .i64 ax] (Bg 8) F8=rPr f (rTr f ax (coI f ax) 0 f.hi)
theorem A2j{k:Int}(h:0<=k/\k<3):k=0 \/ k=1 \/ k=2:=by omega
theorem F6r(f:Fea){a ax:Int}(h:0<=a/\a<3)(h2:0<=ax/\ax<3):A8i (F1n f 0 a) ax:=by
 rcases A2j h with rfl | rfl | rfl<;>rcases A2j h2 with rfl | rfl | rfl<;>(delta A8i; kernel_rfl)
theorem F6s(f:Fea){a ax:Int}(h:0<=a/\a<3)(h2:0<=ax/\ax<3):A8i (F1n f 1 a) ax:=by
 rcases A2j h with rfl | rfl | rfl<;>rcases A2j h2 with rfl | rfl | rfl<;>(delta A8i; kernel_rfl)
theorem F6t(f:Fea){a ax:Int}(h:0<=a/\a<3)(h2:0<=ax/\ax<3):A8i (F1n f 2 a) ax:=by
 rcases A2j h with rfl | rfl | rfl<;>rcases A2j h2 with rfl | rfl | rfl<;>(delta A8i; kernel_rfl)
theorem F6u(f:Fea){a ax:Int}(h:0<=a/\a<3)(h2:0<=ax/\ax<3):A8i (F1n f 3 a) ax:=by
 rcases A2j h with rfl | rfl | rfl<;>rcases A2j h2 with rfl | rfl | rfl<;>(delta A8i; kernel_rfl)
theorem F6v(f:Fea){a ax:Int}(h:0<=a/\a<3)(h2:0<=ax/\ax<3):A8i (F1n f 4 a) ax:=by
 rcases A2j h with rfl | rfl | rfl<;>rcases A2j h2 with rfl | rfl | rfl<;>(delta A8i; kernel_rfl)
def E2z(x:Int×Int×Int)(v:AV):Prop:=∃ a b c,v=.tuple [.agg [a,b],c]/\O9 x.1 a/\O9 x.2.1 b/\O9 x.2.2 c
theorem F5h{x:Int×Int×Int}{v:AV}(h:E2z x v)(Z:Emb)(y:Value)(hy:VR Z v y):VR Z (.tuple [.agg [.sint .i64 x.1,.sint .i64 x.2.1],.sint .i64 x.2.2]) y:=by
 obtain⟨a,b,c,rfl,h1,h2,h3⟩:=h
 simp only[VR,VRL] at hy
 obtain⟨l,rfl,y1,l1,e1,⟨m,rfl,z1,l2,e2,g1,z2,l3,rfl,g2,g3⟩,y2,l4,e3,g4,g5⟩:=hy
 have k1:=J9 h1 Z _ g1
 have k2:=J9 h2 Z _ g2
 have k3:=J9 h3 Z _ g4
 simp only[VR,VRL]
 simp only[VR] at k1 k2 k3
 exact⟨l,rfl,_,l1,e1,⟨m,rfl,z1,_,e2,k1,z2,l3,rfl,k2,g3⟩,y2,l4,e3,k3,g5⟩
theorem D1s{x:Int×Int×Int}{v:AV}(h:E2z x v):F3 0 v=true:=by
 obtain⟨a,b,c,rfl,h1,h2,h3⟩:=h
 simp only[F3,I8,G9 h1,G9 h2,G9 h3,Bool.and_self]
theorem D5x{f:Fea}(h:K3 f=0):0<=f.a/\f.a<3:=by
 refine Classical.byContradiction fun hn=>?_
 unfold K3 at h
 split at h
 ·omega
 ·rw[if_pos (by omega)] at h; omega
theorem E3r(f:Fea)(ax:Int)(he:K3 f=0)(h2:0<=ax/\ax<3):A8i f ax:=by
 have ha:=D5x he
 have hk:=B0f he
 obtain⟨s,k,a,x,y,z,lo,hi,l⟩:=f
 simp only at ha hk
 rcases X3 hk with h3 | h3 | h3 | h3 | h3<;>subst h3
 ·exact F6r ⟨s,0,a,x,y,z,lo,hi,l⟩ ha h2
 ·exact F6s ⟨s,0,a,x,y,z,lo,hi,l⟩ ha h2
 ·exact F6t ⟨s,0,a,x,y,z,lo,hi,l⟩ ha h2
 ·exact F6u ⟨s,0,a,x,y,z,lo,hi,l⟩ ha h2
 ·exact F6v ⟨s,0,a,x,y,z,lo,hi,l⟩ ha h2
theorem G4f(f:Fea)(ax:Int):∃ v,rTr f ax (coI f ax) 0 f.hi=some v/\E2z (rch f ax) v:=by
 unfold rTr rch
 have e1:∀ (a b c:Int),E2z (a,b,c) (.tuple [.agg [.int .i64 a,.int .i64 b],.int .i64 c]):=fun a b c=>⟨_,_,_,rfl,.inl rfl,.inl rfl,.inl rfl⟩
 have e2:∀ (a b c:Int),E2z (a,b,c) (.tuple [.agg [.sint .i64 a,.sint .i64 b],.int .i64 c]):=fun a b c=>⟨_,_,_,rfl,.inr rfl,.inr rfl,.inl rfl⟩
 cases A5g f.k f.a ax with
 | false=>exact⟨_,rfl,e1 0 0 14⟩
 | true =>
  simp only[cond_true]
  unfold E8y
  rw[show W (coI f ax-W ((W (f.hi+1)).tdiv 2))=rLo f ax from rfl,show W (coI f ax+W ((W (f.hi+1)).tdiv 2))=rHi f ax from rfl]
  by_cases c1:rLo f ax < -100000
  ·rw[dT c1,dF (show ¬ rLo f ax >= -100000 by omega)]; exact⟨_,rfl,e1 0 0 2⟩
  rw[dF c1,dT (show rLo f ax >= -100000 by omega)]
  by_cases c2:rLo f ax>100000
  ·rw[dT c2,dF (show ¬ rLo f ax<=100000 by omega)]; exact⟨_,rfl,e1 0 0 2⟩
  rw[dF c2,dT (show rLo f ax<=100000 by omega)]
  by_cases c3:rHi f ax < -100000
  ·rw[dT c3,dF (show ¬ rHi f ax >= -100000 by omega)]; exact⟨_,rfl,e1 0 0 2⟩
  rw[dF c3,dT (show rHi f ax >= -100000 by omega)]
  by_cases c4:rHi f ax>100000
  ·rw[dT c4,dF (show ¬ rHi f ax<=100000 by omega)]; exact⟨_,rfl,e1 0 0 2⟩
  rw[dF c4,dT (show rHi f ax<=100000 by omega)]
  exact⟨_,rfl,e2 _ _ 0⟩
theorem G7s(f:Fea)(ax:Int)(hz:I9 f.s=true)(he:K3 f=0)(h2:0<=ax/\ax<3):∃ v,(D5 prog pFt 60).call 126 [.agg f.av,.sint .i64 ax] (Bg 8) F8=some v/\E2z (rch f ax) v:=by
 have h1:(D5 prog pFt 60).call 126 [.agg f.av,.sint .i64 ax] (Bg 8) F8=rPr f (rTr f ax (coI f ax) 0 f.hi):=E3r f ax he h2
 have e:rPr f (rTr f ax (coI f ax) 0 f.hi)=rTr f ax (coI f ax) 0 f.hi:=by
  unfold rPr
  rw[B8k,J8,hz,he]; rfl
 rw[h1,e]
 exact G4f f ax
def E0u:Par (Fea×Int) where
 get:=fun | [.agg l,a]=>(match C1f l,i64? a with | some (c,x),some n=>some (c,(x,n)) | _,_=>none) | _=>none
 av:=fun x=>[.agg x.1.av,.sint .i64 x.2]
 ok:=by
  intro l x h Z vs hv
  split at h
  ·split at h
   ·rename_i h1 h2
    simp only[sI,pI] at h
    obtain⟨rfl,rfl⟩:=h
    simp only[VRL,VR] at hv ⊢
    obtain⟨y,r,e,⟨a,q1,q2⟩,y2,r2,e2,q4,q3⟩:=hv
    have:=M9 h2 q4
    simp only[VR] at this
    exact⟨y,r,e,⟨a,q1,B2e h1 q2⟩,y2,r2,e2,this,q3⟩
   ·cases h
  ·cases h
 free:=fun _=>rfl
def A4q:Par (Drw×List UInt8×List UInt8×Int) where
 get:=fun | [.agg l,a,b,i]=>(match D0q l,sstr? a,sstr? b,i64? i with | some (c,x),some s,some t,some n=>some (c,(x,s,t,n)) | _,_,_,_=>none) | _=>none
 av:=fun x=>[.agg x.1.av,.sstr x.2.1,.sstr x.2.2.1,.sint .i64 x.2.2.2]
 ok:=by
  intro l x h Z vs hv
  split at h
  ·split at h
   ·rename_i h1 h2 h3 h4
    simp only[sI,pI] at h
    obtain⟨rfl,rfl⟩:=h
    simp only[VRL,VR] at hv ⊢
    obtain⟨y,r,e,⟨a,q1,q2⟩,y2,r2,e2,q4,y3,r3,e3,q5,y4,r4,e4,q6,q3⟩:=hv
    have:=M9 h4 q6
    simp only[VR] at this
    exact⟨y,r,e,⟨a,q1,C6d h1 q2⟩,y2,r2,e2,N8 h2 q4,y3,r3,e3,N8 h3 q5,y4,r4,e4,this,q3⟩
   ·cases h
  ·cases h
 free:=fun _=>rfl
theorem G4m(f:Fea)(ax:Int):(D5 prog pFt 60).call 128 [.agg f.av,.sint .i64 ax] (Bg 8) F8 =
  brK (f.k==4) (some (.bool true)) (brK (f.k==1) (some (.sbool (ax != f.a))) (brK (f.k==2) (some (.sbool (ax != f.a))) (some (.sbool (ax==f.a))))):=by kernel_rfl
theorem G7t(f:Fea)(ax:Int):∃ v,(D5 prog pFt 60).call 128 [.agg f.av,.sint .i64 ax] (Bg 8) F8=some v/\A4e (A5g f.k f.a ax) v:=by
 rw[G4m]
 by_cases c1:f.k=4
 rotate_left
 by_cases c2:f.k=1
 rotate_left
 by_cases c3:f.k=2
 rotate_left
 all_goals
  apply exV
  focus
   repeat first
    | exact rfl
    | refine A8 rfl ?_
    | refine C8 rfl ?_
    | refine A8 (by simp only[SBs]; omega) ?_
    | refine C8 (by simp only[SBs]; omega) ?_
  focus
   first
    | apply vbB
    | apply vbS
   repeat first
    | exact rfl
    | omega
    | refine J3 (by omega) ?_
    | refine G6 (by omega) ?_
    | (unfold A5g; simp only[c1]; rfl)
    | (unfold A5g; simp only[c2]; rfl)
    | (unfold A5g; simp only[c3]; rfl)
    | (unfold A5g; rw[beq_eq_false_iff_ne.2 c1,beq_eq_false_iff_ne.2 c2,beq_eq_false_iff_ne.2 c3]; rfl)
def VRc(x:Fea×Int):Tr AV:=.br (I9 x.1.s&&(decide (K3 x.1=0)&&decide (0<=x.2/\x.2<3))) (.leaf (.tuple [.agg [.sint .i64 (rch x.1 x.2).1,.sint .i64 (rch x.1 x.2).2.1],.sint .i64 (rch x.1 x.2).2.2])) .fail
def pDs:Prims:=(pFt.addt 126 (M8 E0u VRc)).addt 128 (M8 E0u fun x=>.leaf (.sbool (A5g x.1.k x.1.a x.2)))
theorem E9d{A:Amb}(hT:Tab A)(hG:gN prog<=A.G):PrimOK prog A pDs:=by
 have h0:=G3r hT hG
 refine H8 hG h0 (H8 hG h0 h0 E0u VRc func126 (by kernel_rfl) fun x v hv=>?_) E0u _ func128 (by kernel_rfl) fun x v hv=>?_
 ·obtain⟨hz,hv⟩:=Tr.br1 hv
  cases hv
  simp only[bA,dQ] at hz
  obtain⟨v',h1,h2⟩:=G7s x.1 x.2 hz.1 hz.2.1 hz.2.2
  exact⟨v',h1,D1s h2,F5h h2⟩
 ·cases hv
  obtain⟨v',h1,h2⟩:=G7t x.1 x.2
  exact⟨v',h1,Q3 h2,Z9 h2⟩
def drE(d:Drw):Drw:=⟨d.s,ofR Fea.fv d.l.length (A7 Fea.fv d.l),ofR Dim.fv d.m.length (A7 Dim.fv d.m)⟩
def feE(f:Fea):Fea:=⟨f.s,f.k,f.a,f.x,f.y,f.z,f.lo,f.hi,ofR Frm.fv f.l.length (A7 Frm.fv f.l)⟩
theorem P8(d:Drw):drE d=d:=G1u d
theorem A3o(f:Fea):feE f=f:=B8k f
def A5y(a b:List UInt8):Int:=if Op.bytesLess a b=true then -1 else if a=b then 0 else 1
theorem gtF{a b:List UInt8}(h:a=b):(!(Op.bytesLess a b||a==b))=false:=by subst h; simp
theorem gtT{a b:List UInt8}(h1:¬ Op.bytesLess a b=true)(h2:¬ a=b):(!(Op.bytesLess a b||a==b))=true:=by simp[h1,h2]
theorem neF{a:List UInt8}:(!(a==a))=false:=by simp
theorem nei{a:Int}:(!(a==a))=false:=by simp
def A1z(a b:Int):Int:=if a<b then -1 else if a>b then 1 else 0
def A7c(a b:Dim):Bool:=if a.f≠b.f then Op.bytesLess a.f b.f else if a.t≠b.t then Op.bytesLess a.t b.t else if a.a≠b.a then decide (a.a<b.a) else if a.lo≠b.lo then decide (a.lo<b.lo) else decide (a.hi<b.hi)
def B0q(a b:Dim):Int:=if A5y a.f b.f≠0 then A5y a.f b.f else if A5y a.t b.t≠0 then A5y a.t b.t else if A1z a.a b.a≠0 then A1z a.a b.a else if A1z a.lo b.lo≠0 then A1z a.lo b.lo else if A1z a.hi b.hi≠0 then A1z a.hi b.hi else 0
theorem G4o(a b:List UInt8):(D5 prog pDs 60).call 148 [.sstr a,.sstr b] (Bg 8) F8 =
  brK (!a==a) (brK (!b==b) (some (.int .i64 0)) (some (.int .i64 (-1)))) (brK (!b==b) (some (.int .i64 1)) (brK (Op.bytesLess a b) (some (.int .i64 (-1))) (brK (!(Op.bytesLess a b||a==b)) (some (.int .i64 1)) (some (.int .i64 0))))):=by kernel_rfl
theorem G7v(a b:List UInt8):∃ v,(D5 prog pDs 60).call 148 [.sstr a,.sstr b] (Bg 8) F8=some v/\O9 (A5y a b) v:=by
 rw[G4o]
 by_cases c1:Op.bytesLess a b=true
 rotate_left
 by_cases c2:a=b
 rotate_left
 all_goals
  apply exV
  focus
   repeat first
    | exact rfl
    | refine A8 rfl ?_
    | refine C8 rfl ?_
    | refine A8 (by simp only[SBs]; omega) ?_
    | refine C8 (by simp only[SBs]; omega) ?_
    | refine C8 neF ?_
    | refine C8 neG ?_
    | refine A8 c1 ?_
    | refine C8 (by simpa using c1) ?_
    | refine C8 (gtF c2) ?_
    | refine A8 (gtT c1 c2) ?_
  focus
   first
    | apply viI
    | apply viS
   dsimp only [A5y]
   repeat first
    | exact rfl
    | omega
    | refine J3 (by omega) ?_
    | refine G6 (by omega) ?_
    | refine J3 c1 ?_
    | refine G6 c1 ?_
    | refine J3 c2 ?_
    | refine G6 c2 ?_
theorem G4p(a b:Int):(D5 prog pDs 60).call 149 [.sint .i64 a,.sint .i64 b] (Bg 8) F8 =
  brK (a != a) (brK (b != b) (some (.int .i64 0)) (some (.int .i64 (-1)))) (brK (b != b) (some (.int .i64 1)) (brK (decide (a<b)) (some (.int .i64 (-1))) (brK (decide (a>b)) (some (.int .i64 1)) (some (.int .i64 0))))):=by kernel_rfl
theorem G7w(a b:Int):∃ v,(D5 prog pDs 60).call 149 [.sint .i64 a,.sint .i64 b] (Bg 8) F8=some v/\O9 (A1z a b) v:=by
 rw[G4p]
 by_cases c1:a<b
 rotate_left
 by_cases c2:a>b
 rotate_left
 all_goals
  apply exV
  focus
   repeat first
    | exact rfl
    | refine A8 rfl ?_
    | refine C8 rfl ?_
    | refine A8 (by simp only[SBs]; omega) ?_
    | refine C8 (by simp only[SBs]; omega) ?_
    | refine C8 nei ?_
    | refine C8 nej ?_
  focus
   first
    | apply viI
    | apply viS
   dsimp only [A1z]
   repeat first
    | exact rfl
    | omega
    | refine J3 (by omega) ?_
    | refine G6 (by omega) ?_
def TCs:List Lf->Tr AV
 | [.s a,.s b]=>.leaf (.sint .i64 (A5y a b))
 | _=>.fail
def TCi:List Lf->Tr AV
 | [.i a,.i b]=>.leaf (.sint .i64 (A1z a b))
 | _=>.fail
def E9l:Prims:=(pDs.addt 148 (gP [.str,.str] TCs)).addt 149 (gP [.int .i64,.int .i64] TCi)
theorem F6m{A:Amb}(hT:Tab A)(hG:gN prog<=A.G):PrimOK prog A E9l:=by
 have h0:=E9d hT hG
 refine C4j hG h0 (C4j hG h0 h0 [.str,.str] TCs func148 (by kernel_rfl) fun ls v hv=>?_) [.int .i64,.int .i64] TCi func149 (by kernel_rfl) fun ls v hv=>?_
 ·unfold TCs at hv
  split at hv
  ·rename_i a b
   cases hv
   obtain⟨v',h1,h2⟩:=G7v a b
   exact⟨rfl,v',h1,A6n h2,J9 h2⟩
  ·cases hv
 ·unfold TCi at hv
  split at hv
  ·rename_i a b
   cases hv
   obtain⟨v',h1,h2⟩:=G7w a b
   exact⟨rfl,v',h1,A6n h2,J9 h2⟩
  ·cases hv
def E0s:Par (Dim×Dim) where
 get:=fun | [.agg l,.agg m]=>(match E5g l,E5g m with | some x,some y=>some (true,(x,y)) | _,_=>none) | _=>none
 av:=fun x=>[.agg x.1.av,.agg x.2.av]
 ok:=by
  intro l x h Z vs hv
  split at h
  ·split at h
   ·rename_i h1 h2
    simp only[sI,pI,true_and] at h
    subst h
    simp only[VRL,VR] at hv ⊢
    obtain⟨y,r,e,⟨a,q1,q2⟩,y2,r2,e2,⟨a2,q4,q5⟩,q3⟩:=hv
    exact⟨y,r,e,⟨a,q1,C6c h1 q2⟩,y2,r2,e2,⟨a2,q4,C6c h2 q5⟩,q3⟩
   ·cases h
  ·cases h
 free:=fun _=>rfl
theorem H0g(a b:Dim):(D5 prog E9l 60).call 96 [.agg a.av,.agg b.av] (Bg 8) F8 =
  brK (A5y a.f b.f != 0) (some (.sint IntKind.i64 (A5y a.f b.f))) (brK (A5y a.t b.t != 0) (some (.sint IntKind.i64 (A5y a.t b.t))) (brK (A1z a.a b.a != 0) (some (.sint IntKind.i64 (A1z a.a b.a))) (brK (A1z a.lo b.lo != 0) (some (.sint IntKind.i64 (A1z a.lo b.lo))) (brK (A1z a.hi b.hi != 0) (some (.sint IntKind.i64 (A1z a.hi b.hi))) (some (.int .i64 0)))))):=by kernel_rfl
theorem H2g(a b:Dim):∃ v,(D5 prog E9l 60).call 96 [.agg a.av,.agg b.av] (Bg 8) F8=some v/\O9 (B0q a b) v:=by
 rw[H0g]
 by_cases c1:A5y a.f b.f≠0
 rotate_left
 by_cases c2:A5y a.t b.t≠0
 rotate_left
 by_cases c3:A1z a.a b.a≠0
 rotate_left
 by_cases c4:A1z a.lo b.lo≠0
 rotate_left
 by_cases c5:A1z a.hi b.hi≠0
 rotate_left
 all_goals
  apply exV
  focus
   repeat first
    | exact rfl
    | refine A8 rfl ?_
    | refine C8 rfl ?_
    | refine A8 (by simp only[SBs]; omega) ?_
    | refine C8 (by simp only[SBs]; omega) ?_
  focus
   first
    | apply viI
    | apply viS
   dsimp only [B0q]
   repeat first
    | exact rfl
    | omega
    | refine J3 (by omega) ?_
    | refine G6 (by omega) ?_
theorem G4k(a b:Dim):(D5 prog E9l 60).call 100 [.agg a.av,.agg b.av] (Bg 8) F8 =
  brK (!a.f==b.f) (some (.sbool (Op.bytesLess a.f b.f))) (brK (!a.t==b.t) (some (.sbool (Op.bytesLess a.t b.t))) (brK (a.a != b.a) (some (.sbool (decide (a.a<b.a)))) (brK (a.lo != b.lo) (some (.sbool (decide (a.lo<b.lo)))) (some (.sbool (decide (a.hi<b.hi))))))):=by kernel_rfl
theorem G7q(a b:Dim):∃ v,(D5 prog E9l 60).call 100 [.agg a.av,.agg b.av] (Bg 8) F8=some v/\A4e (A7c a b) v:=by
 rw[G4k]
 by_cases c1:a.f≠b.f
 rotate_left
 by_cases c2:a.t≠b.t
 rotate_left
 by_cases c3:a.a≠b.a
 rotate_left
 by_cases c4:a.lo≠b.lo
 rotate_left
 all_goals
  apply exV
  focus
   repeat first
    | exact rfl
    | refine A8 rfl ?_
    | refine C8 rfl ?_
    | refine A8 (by simp only[SBs]; omega) ?_
    | refine C8 (by simp only[SBs]; omega) ?_
    | refine A8 (by simpa using c1) ?_
    | refine C8 (by simpa using c1) ?_
    | refine A8 (by simpa using c2) ?_
    | refine C8 (by simpa using c2) ?_
  focus
   first
    | apply vbB
    | apply vbS
   dsimp only [A7c]
   repeat first
    | exact rfl
    | omega
    | refine J3 (by omega) ?_
    | refine G6 (by omega) ?_
    | refine J3 c1 ?_
    | refine G6 c1 ?_
    | refine J3 c2 ?_
    | refine G6 c2 ?_
theorem H0x{a b:List UInt8}:A5y a b=0↔a=b:=by
 unfold A5y
 constructor
 ·intro h
  split at h
  ·cases h
  ·split at h
   ·assumption
   ·cases h
 ·rintro rfl
  rw[if_neg (by rw[Go.Proofs.bytesLess_eq]; simp[B9d]),if_pos rfl]
theorem C9y{a b:List UInt8}(h:a≠b):A5y a b >= 0↔Op.bytesLess a b=false:=by
 unfold A5y
 cases Op.bytesLess a b with
 | true=>simp
 | false=>simp[h]
theorem H0w{a b:Int}:A1z a b=0↔a=b:=by unfold A1z; split<;>(try split)<;>omega
theorem B7z{a b:Int}:A1z a b >= 0↔decide (a<b)=false:=by unfold A1z; rw[decide_eq_false_iff_not]; split<;>(try split)<;>omega
theorem M4(a b:Dim):B0q a b >= 0↔A7c a b=false:=by
 by_cases h1:a.f=b.f
 ·by_cases h2:a.t=b.t
  ·by_cases h3:a.a=b.a
   ·by_cases h4:a.lo=b.lo
    ·have e2:A7c a b=decide (a.hi<b.hi):=by unfold A7c; rw[if_neg (fun h=>h h1),if_neg (fun h=>h h2),if_neg (fun h=>h h3),if_neg (fun h=>h h4)]
     have e1:B0q a b=A1z a.hi b.hi:=by
      unfold B0q
      rw[if_neg (fun h=>h (H0x.2 h1)),if_neg (fun h=>h (H0x.2 h2)),if_neg (fun h=>h (H0w.2 h3)),if_neg (fun h=>h (H0w.2 h4))]
      split
      ·rfl
      ·rename_i h5
       exact(Classical.byContradiction fun h=>h5 h:A1z a.hi b.hi=0).symm
     rw[e1,e2]; exact B7z
    ·have e2:A7c a b=decide (a.lo<b.lo):=by unfold A7c; rw[if_neg (fun h=>h h1),if_neg (fun h=>h h2),if_neg (fun h=>h h3),if_pos h4]
     have e1:B0q a b=A1z a.lo b.lo:=by
      unfold B0q
      rw[if_neg (fun h=>h (H0x.2 h1)),if_neg (fun h=>h (H0x.2 h2)),if_neg (fun h=>h (H0w.2 h3)),if_pos (fun h=>h4 (H0w.1 h))]
     rw[e1,e2]; exact B7z
   ·have e2:A7c a b=decide (a.a<b.a):=by unfold A7c; rw[if_neg (fun h=>h h1),if_neg (fun h=>h h2),if_pos h3]
    have e1:B0q a b=A1z a.a b.a:=by
     unfold B0q
     rw[if_neg (fun h=>h (H0x.2 h1)),if_neg (fun h=>h (H0x.2 h2)),if_pos (fun h=>h3 (H0w.1 h))]
    rw[e1,e2]; exact B7z
  ·have e2:A7c a b=Op.bytesLess a.t b.t:=by unfold A7c; rw[if_neg (fun h=>h h1),if_pos h2]
   have e1:B0q a b=A5y a.t b.t:=by
    unfold B0q
    rw[if_neg (fun h=>h (H0x.2 h1)),if_pos (fun h=>h2 (H0x.1 h))]
   rw[e1,e2]; exact C9y h2
 ·have e2:A7c a b=Op.bytesLess a.f b.f:=by unfold A7c; rw[if_pos h1]
  have e1:B0q a b=A5y a.f b.f:=by
   unfold B0q
   rw[if_pos (fun h=>h1 (H0x.1 h))]
  rw[e1,e2]; exact C9y h1
def pOd:Prims:=(pDs.addt 96 (M8 E0s fun x=>.leaf (.sint .i64 (B0q x.1 x.2)))).addt 100 (M8 E0s fun x=>.leaf (.sbool (A7c x.1 x.2)))
theorem G3x{A:Amb}(hT:Tab A)(hG:gN prog<=A.G):PrimOK prog A pOd:=by
 have h0:=F6m hT hG
 refine H8 hG h0 (H8 hG h0 (E9d hT hG) E0s _ func96 (by kernel_rfl) fun x v hv=>?_) E0s _ func100 (by kernel_rfl) fun x v hv=>?_
 ·cases hv
  obtain⟨v',h1,h2⟩:=H2g x.1 x.2
  exact⟨v',h1,G9 h2,J9 h2⟩
 ·cases hv
  obtain⟨v',h1,h2⟩:=G7q x.1 x.2
  exact⟨v',h1,Q3 h2,Z9 h2⟩
structure RightD (d:Drw):Prop where
 ok:OkD d
 fe:∀ i,i<d.l.length->K3 (D8 d i)=0
def Q7(d:Drw)(s t:List UInt8)(ax:Int):Int×Int:=if D7 d s<0 then(0,6) else if D7 d t<0 then(0,6) else if A5g (d.l.getD (D7 d s).toNat default).k (d.l.getD (D7 d s).toNat default).a ax=false then(0,14)
 else if A5g (d.l.getD (D7 d t).toNat default).k (d.l.getD (D7 d t).toNat default).a ax=false then(0,14) else(W (coI (d.l.getD (D7 d t).toNat default) ax-coI (d.l.getD (D7 d s).toNat default) ax),0)
def E2y(x:Int×Int)(v:AV):Prop:=∃ a b,v=.tuple [a,b]/\O9 x.1 a/\O9 x.2 b
theorem vpI{x:Int×Int}{n m:Int}(h:x=(n,m)):E2y x (.tuple [.int .i64 n,.int .i64 m]):=by subst h; exact⟨_,_,rfl,.inl rfl,.inl rfl⟩
theorem vpS{x:Int×Int}{n m:Int}(h:x=(n,m)):E2y x (.tuple [.sint .i64 n,.int .i64 m]):=by subst h; exact⟨_,_,rfl,.inr rfl,.inl rfl⟩
theorem E0d{x:Int×Int}{v:AV}(h:E2y x v)(Z:Emb)(y:Value)(hy:VR Z v y):VR Z (.tuple [.sint .i64 x.1,.sint .i64 x.2]) y:=by
 obtain⟨a,b,rfl,h1,h2⟩:=h
 simp only[VR,VRL] at hy
 obtain⟨l,rfl,y1,l1,e1,g1,y2,l2,e2,g2,g3⟩:=hy
 have k1:=J9 h1 Z _ g1
 have k2:=J9 h2 Z _ g2
 simp only[VR,VRL]
 simp only[VR] at k1 k2
 exact⟨l,rfl,_,l1,e1,k1,y2,l2,e2,k2,g3⟩
theorem B4q{x:Int×Int}{v:AV}(h:E2y x v):F3 0 v=true:=by
 obtain⟨a,b,rfl,h1,h2⟩:=h
 simp only[F3,I8,G9 h1,G9 h2,Bool.and_self]
theorem C7n{f:Fea}{ax:Int}(h:A5g f.k f.a ax=false):((rch f ax).2.2==14)=true:=by unfold rch; rw[h]; rfl
theorem C7m{f:Fea}{ax:Int}(h:¬ A5g f.k f.a ax=false):((rch f ax).2.2==14)=false:=by
 unfold rch
 rw[show A5g f.k f.a ax=true by simpa using h,cond_true]
 cases E8y (rLo f ax)||E8y (rHi f ax)<;>rfl
theorem A9h{b:Bool}(h:¬ b=false):(!b)=false:=by cases b<;>simp_all
theorem RightD.at{d:Drw}(h:RightD d){ax:Int}(hax:0<=ax/\ax<3)(i:Int)(hi:0<=i/\i<(d.l.length:Int)):(I9 (d.l.getD i.toNat default).s&&(decide (K3 (d.l.getD i.toNat default)=0)&&decide (0<=ax/\ax<3)))=true:=by
 have h1:=h.ok.sz i.toNat (by omega)
 have h2:=h.fe i.toNat (by omega)
 simp only[bA,dQ]
 exact⟨F1x h1,h2,hax⟩
theorem G9x(d:Drw)(s t:List UInt8)(ax:Int):(D5 prog pOd 60).call 75 [.agg d.av,.sstr s,.sstr t,.sint .i64 ax] (Bg 8) F8 =
  brK (oD d) (brK (decide ((ofR Fea.fv d.l.length (A7 Fea.fv d.l)).length<4611686018427387904)) (brK (oD d) (brK (decide ((ofR Fea.fv d.l.length (A7 Fea.fv d.l)).length<4611686018427387904)) (brK (decide (D7 (drE d) s<0)) (some (.tuple [.int .i64 0,.int .i64 6])) (brK (decide (D7 (drE d) t<0)) (some (.tuple [.int .i64 0,.int .i64 6])) (brK (decide (0<=D7 (drE d) s/\D7 (drE d) s<(d.l.length:Int))) (brK (E9 (okR Frm.fv (d.l.getD (D7 (drE d) s).toNat default).l.length (A7 Frm.fv (d.l.getD (D7 (drE d) s).toNat default).l))) (brK (I9 (d.l.getD (D7 (drE d) s).toNat default).s&&(decide (K3 (feE (d.l.getD (D7 (drE d) s).toNat default))=0)&&decide (0<=ax/\ax<3))) (brK ((rch (feE (d.l.getD (D7 (drE d) s).toNat default)) ax).snd.snd==14) (some (.tuple [.int .i64 0,.int .i64 14])) (brK (decide (0<=D7 (drE d) t/\D7 (drE d) t<(d.l.length:Int))) (brK (E9 (okR Frm.fv (d.l.getD (D7 (drE d) t).toNat default).l.length (A7 Frm.fv (d.l.getD (D7 (drE d) t).toNat default).l))) (brK (I9 (d.l.getD (D7 (drE d) t).toNat default).s&&(decide (K3 (feE (d.l.getD (D7 (drE d) t).toNat default))=0)&&decide (0<=ax/\ax<3))) (brK ((rch (feE (d.l.getD (D7 (drE d) t).toNat default)) ax).snd.snd==14) (some (.tuple [.int .i64 0,.int .i64 14])) (brK (decide (0<=D7 (drE d) t/\D7 (drE d) t<(d.l.length:Int))) (brK (decide (ax=0)) (brK (decide (0<=D7 (drE d) s/\D7 (drE d) s<(d.l.length:Int))) (brK (decide (ax=0)) (some (.tuple [.sint IntKind.i64 (W ((d.l.getD (D7 (drE d) t).toNat default).x-(d.l.getD (D7 (drE d) s).toNat default).x)) ,.int .i64 0])) (brK (decide (ax=1)) (some (.tuple [.sint IntKind.i64 (W ((d.l.getD (D7 (drE d) t).toNat default).x-(d.l.getD (D7 (drE d) s).toNat default).y)) ,.int .i64 0])) (brK (decide (ax=2)) (some (.tuple [.sint IntKind.i64 (W ((d.l.getD (D7 (drE d) t).toNat default).x-(d.l.getD (D7 (drE d) s).toNat default).z)) ,.int .i64 0])) none))) none) (brK (decide (ax=1)) (brK (decide (0<=D7 (drE d) s/\D7 (drE d) s<(d.l.length:Int))) (brK (decide (ax=0)) (some (.tuple [.sint IntKind.i64 (W ((d.l.getD (D7 (drE d) t).toNat default).y-(d.l.getD (D7 (drE d) s).toNat default).x)) ,.int .i64 0])) (brK (decide (ax=1)) (some (.tuple [.sint IntKind.i64 (W ((d.l.getD (D7 (drE d) t).toNat default).y-(d.l.getD (D7 (drE d) s).toNat default).y)) ,.int .i64 0])) (brK (decide (ax=2)) (some (.tuple [.sint IntKind.i64 (W ((d.l.getD (D7 (drE d) t).toNat default).y-(d.l.getD (D7 (drE d) s).toNat default).z)) ,.int .i64 0])) none))) none) (brK (decide (ax=2)) (brK (decide (0<=D7 (drE d) s/\D7 (drE d) s<(d.l.length:Int))) (brK (decide (ax=0)) (some (.tuple [.sint IntKind.i64 (W ((d.l.getD (D7 (drE d) t).toNat default).z-(d.l.getD (D7 (drE d) s).toNat default).x)) ,.int .i64 0])) (brK (decide (ax=1)) (some (.tuple [.sint IntKind.i64 (W ((d.l.getD (D7 (drE d) t).toNat default).z-(d.l.getD (D7 (drE d) s).toNat default).y)) ,.int .i64 0])) (brK (decide (ax=2)) (some (.tuple [.sint IntKind.i64 (W ((d.l.getD (D7 (drE d) t).toNat default).z-(d.l.getD (D7 (drE d) s).toNat default).z)) ,.int .i64 0])) none))) none) none))) none)) none) none) none)) none) none) none))) none) none) none) none:=by kernel_rfl
theorem H2b(d:Drw)(s t:List UInt8)(ax:Int)(hk:RightD d)(hax:0<=ax/\ax<3):∃ v,(D5 prog pOd 60).call 75 [.agg d.av,.sstr s,.sstr t,.sint .i64 ax] (Bg 8) F8=some v/\E2y (Q7 d s t ax) v:=by
 rw[G9x]
 have hl:=hk.ok.len
 have hb1:=X0 d s
 have hb2:=X0 d t
 simp only[A3r,J8,F5k,P8,A3o]
 rcases A2j hax with ha | ha | ha
 all_goals
  by_cases c1:D7 d s<0
  rotate_left
  by_cases c2:D7 d t<0
  rotate_left
  by_cases c3:A5g (d.l.getD (D7 d s).toNat default).k (d.l.getD (D7 d s).toNat default).a ax=false
  rotate_left
  by_cases c4:A5g (d.l.getD (D7 d t).toNat default).k (d.l.getD (D7 d t).toNat default).a ax=false
  rotate_left
  all_goals
   apply exV
   focus
    repeat first
     | exact rfl
     | refine A8 rfl ?_
     | refine C8 rfl ?_
     | refine A8 (by simp only[SBs]; omega) ?_
     | refine C8 (by simp only[SBs]; omega) ?_
     | refine A8 (hk.at hax _ (by omega)) ?_
     | refine A8 (C7n c3) ?_
     | refine C8 (C7m c3) ?_
     | refine A8 (C7n c4) ?_
     | refine C8 (C7m c4) ?_
     | refine A8 (notT c3) ?_
     | refine C8 (A9h c3) ?_
     | refine A8 (notT c4) ?_
     | refine C8 (A9h c4) ?_
   focus
    first
     | apply vpI
     | apply vpS
    dsimp only [Q7]
    repeat first
     | exact rfl
     | omega
     | refine J3 (by omega) ?_
     | refine G6 (by omega) ?_
     | refine J3 c3 ?_
     | refine G6 c3 ?_
     | refine J3 c4 ?_
     | refine G6 c4 ?_
     | (simp only[coI,ha]; rfl)
theorem G9y(d:Drw)(s t:List UInt8)(ax:Int):(D5 prog pOd 60).call 77 [.agg d.av,.sstr s,.sstr t,.sint .i64 ax] (Bg 8) F8 =
  brK (oD d) (brK (decide ((ofR Fea.fv d.l.length (A7 Fea.fv d.l)).length<4611686018427387904)) (brK (oD d) (brK (decide ((ofR Fea.fv d.l.length (A7 Fea.fv d.l)).length<4611686018427387904)) (brK (decide (D7 (drE d) s<0)) (some (.tuple [.int .i64 0,.int .i64 6])) (brK (decide (D7 (drE d) t<0)) (some (.tuple [.int .i64 0,.int .i64 6])) (brK (decide (0<=D7 (drE d) s/\D7 (drE d) s<(d.l.length:Int))) (brK (decide (0<=D7 (drE d) t/\D7 (drE d) t<(d.l.length:Int))) (brK (E9 (okR Frm.fv (d.l.getD (D7 (drE d) s).toNat default).l.length (A7 Frm.fv (d.l.getD (D7 (drE d) s).toNat default).l))) (brK (!A5g (d.l.getD (D7 (drE d) s).toNat default).k (d.l.getD (D7 (drE d) s).toNat default).a ax) (some (.tuple [.int .i64 0,.int .i64 14])) (brK (E9 (okR Frm.fv (d.l.getD (D7 (drE d) t).toNat default).l.length (A7 Frm.fv (d.l.getD (D7 (drE d) t).toNat default).l))) (brK (!A5g (d.l.getD (D7 (drE d) t).toNat default).k (d.l.getD (D7 (drE d) t).toNat default).a ax) (some (.tuple [.int .i64 0,.int .i64 14])) (brK (decide (ax=0)) (brK (decide (ax=0)) (some (.tuple [.sint IntKind.i64 (W ((d.l.getD (D7 (drE d) t).toNat default).x-(d.l.getD (D7 (drE d) s).toNat default).x)) ,.int .i64 0])) (brK (decide (ax=1)) (some (.tuple [.sint IntKind.i64 (W ((d.l.getD (D7 (drE d) t).toNat default).x-(d.l.getD (D7 (drE d) s).toNat default).y)) ,.int .i64 0])) (brK (decide (ax=2)) (some (.tuple [.sint IntKind.i64 (W ((d.l.getD (D7 (drE d) t).toNat default).x-(d.l.getD (D7 (drE d) s).toNat default).z)) ,.int .i64 0])) none))) (brK (decide (ax=1)) (brK (decide (ax=0)) (some (.tuple [.sint IntKind.i64 (W ((d.l.getD (D7 (drE d) t).toNat default).y-(d.l.getD (D7 (drE d) s).toNat default).x)) ,.int .i64 0])) (brK (decide (ax=1)) (some (.tuple [.sint IntKind.i64 (W ((d.l.getD (D7 (drE d) t).toNat default).y-(d.l.getD (D7 (drE d) s).toNat default).y)) ,.int .i64 0])) (brK (decide (ax=2)) (some (.tuple [.sint IntKind.i64 (W ((d.l.getD (D7 (drE d) t).toNat default).y-(d.l.getD (D7 (drE d) s).toNat default).z)) ,.int .i64 0])) none))) (brK (decide (ax=2)) (brK (decide (ax=0)) (some (.tuple [.sint IntKind.i64 (W ((d.l.getD (D7 (drE d) t).toNat default).z-(d.l.getD (D7 (drE d) s).toNat default).x)) ,.int .i64 0])) (brK (decide (ax=1)) (some (.tuple [.sint IntKind.i64 (W ((d.l.getD (D7 (drE d) t).toNat default).z-(d.l.getD (D7 (drE d) s).toNat default).y)) ,.int .i64 0])) (brK (decide (ax=2)) (some (.tuple [.sint IntKind.i64 (W ((d.l.getD (D7 (drE d) t).toNat default).z-(d.l.getD (D7 (drE d) s).toNat default).z)) ,.int .i64 0])) none))) none)))) none)) none) none) none))) none) none) none) none:=by kernel_rfl
theorem H2c(d:Drw)(s t:List UInt8)(ax:Int)(hk:RightD d)(hax:0<=ax/\ax<3):∃ v,(D5 prog pOd 60).call 77 [.agg d.av,.sstr s,.sstr t,.sint .i64 ax] (Bg 8) F8=some v/\E2y (Q7 d s t ax) v:=by
 rw[G9y]
 have hl:=hk.ok.len
 have hb1:=X0 d s
 have hb2:=X0 d t
 simp only[A3r,J8,F5k,P8]
 rcases A2j hax with ha | ha | ha
 all_goals
  by_cases c1:D7 d s<0
  rotate_left
  by_cases c2:D7 d t<0
  rotate_left
  by_cases c3:A5g (d.l.getD (D7 d s).toNat default).k (d.l.getD (D7 d s).toNat default).a ax=false
  rotate_left
  by_cases c4:A5g (d.l.getD (D7 d t).toNat default).k (d.l.getD (D7 d t).toNat default).a ax=false
  rotate_left
  all_goals
   apply exV
   focus
    repeat first
     | exact rfl
     | refine A8 rfl ?_
     | refine C8 rfl ?_
     | refine A8 (by simp only[SBs]; omega) ?_
     | refine C8 (by simp only[SBs]; omega) ?_
     | refine A8 (hk.at hax _ (by omega)) ?_
     | refine A8 (C7n c3) ?_
     | refine C8 (C7m c3) ?_
     | refine A8 (C7n c4) ?_
     | refine C8 (C7m c4) ?_
     | refine A8 (notT c3) ?_
     | refine C8 (A9h c3) ?_
     | refine A8 (notT c4) ?_
     | refine C8 (A9h c4) ?_
   focus
    first
     | apply vpI
     | apply vpS
    dsimp only [Q7]
    repeat first
     | exact rfl
     | omega
     | refine J3 (by omega) ?_
     | refine G6 (by omega) ?_
     | refine J3 c3 ?_
     | refine G6 c3 ?_
     | refine J3 c4 ?_
     | refine G6 c4 ?_
     | (simp only[coI,ha]; rfl)
def VDt(x:Drw×List UInt8×List UInt8×Int):Tr AV:=.br (E9 (RightD x.1/\0<=x.2.2.2/\x.2.2.2<3)) (.leaf (.tuple [.sint .i64 (Q7 x.1 x.2.1 x.2.2.1 x.2.2.2).1,.sint .i64 (Q7 x.1 x.2.1 x.2.2.1 x.2.2.2).2])) .fail
def pDt:Prims:=(pOd.addt 75 (M8 A4q VDt)).addt 77 (M8 A4q VDt)
theorem E9e{A:Amb}(hT:Tab A)(hG:gN prog<=A.G):PrimOK prog A pDt:=by
 have h0:=G3x hT hG
 refine H8 hG h0 (H8 hG h0 h0 A4q VDt func75 (by kernel_rfl) fun x v hv=>?_) A4q VDt func77 (by kernel_rfl) fun x v hv=>?_
 ·obtain⟨hz,hv⟩:=Tr.br1 hv
  cases hv
  obtain⟨q1,q2⟩:=H6 hz
  obtain⟨v',h1,h2⟩:=H2b x.1 x.2.1 x.2.2.1 x.2.2.2 q1 q2
  exact⟨v',h1,B4q h2,E0d h2⟩
 ·obtain⟨hz,hv⟩:=Tr.br1 hv
  cases hv
  obtain⟨q1,q2⟩:=H6 hz
  obtain⟨v',h1,h2⟩:=H2c x.1 x.2.1 x.2.2.1 x.2.2.2 q1 q2
  exact⟨v',h1,B4q h2,E0d h2⟩
end Go.Proofs.Tryz
