/- What the abstract evaluator does not write stays as it was. -/
import Derived.Test.YtoboneiigikidaaGreatDoorAdExec
namespace Go.Ad
def AFr(B B':Heap)(D:List Nat):Prop:=B.length<=B'.length/\∀ b,b<B.length->b∉D->B'[b]?=B[b]?
theorem AFr.refl(B:Heap):AFr B B []:=⟨lR _,fun _ _ _=>rfl⟩
theorem AFr.trans{B B1 B2:Heap}{D D':List Nat}(h:AFr B B1 D)(h':AFr B1 B2 D'):AFr B B2 (D++D') :=
 ⟨Nat.le_trans h.1 h'.1,fun b hb hD=>(h'.2 b (Nat.lt_of_lt_of_le hb h.1) fun hm=>hD (by simp[hm])).trans (h.2 b hb fun hm=>hD (by simp[hm]))⟩
theorem AFr.push(B:Heap)(o:AObj):AFr B (B++[o]) [] :=
 ⟨by simp,fun b hb _=>gL hb⟩
theorem AFr.set(B:Heap)(b:Nat)(o:AObj):AFr B (B.set b o) [b] :=
 ⟨by simp,fun x _ hx=>by rw[List.getElem?_set]; simp at hx; rw[if_neg (Ne.symm hx)]⟩
variable {P:Program} {B:Heap}
theorem A0a{o:Option AV}{v:AV}{B':Heap}{D:List Nat}(h:only B o=some (v,B',D)):AFr B B' D:=by
 unfold only at h
 simp only[oM,pI] at h
 obtain⟨_,_,_,rfl,rfl⟩:=h
 exact .refl _
theorem F1u{b o:Nat}{vs:List AV}{B':Heap}(h:st B b o vs=some B'):AFr B B' [b]:=by
 unfold st at h
 split at h
 ·split at h
  ·cases h; exact .set _ _ _
  ·simp at h
 ·simp at h
theorem D4e{ts:Array TypeId}{s x:AV}{v:AV}{B':Heap}{D:List Nat}(h:R9 P B ts s x=some (v,B',D)):AFr B B' D:=by
 unfold R9 at h
 (repeat' split at h)<;>first
  | (simp at h; done)
  | (simp only[sI,pI] at h; obtain⟨rfl,rfl,rfl⟩:=h; first | exact .refl _ | exact .push _ _ | exact .set _ _ _ | exact(AFr.set _ _ _).trans (.push _ _))
theorem E4o{ts:Array TypeId}{s x:AV}{v:AV}{B':Heap}{D:List Nat}(h:C9l P B ts s x=some (v,B',D)):AFr B B' D:=by
 unfold C9l at h
 (repeat' split at h)<;>first
  | (simp at h; done)
  | exact A0a h
  | (simp only[oM,pI] at h; obtain⟨_,h1,_,rfl,rfl⟩:=h; exact F1u h1)
theorem E1x{ts:Array TypeId}{s:AV}{v:AV}{B':Heap}{D:List Nat}(h:B7f P B ts s=some (v,B',D)):AFr B B' D:=by
 unfold B7f at h
 (repeat' split at h)<;>first
  | (simp at h; done)
  | exact A0a h
  | (simp only[oM,pI] at h; obtain⟨_,h1,_,rfl,rfl⟩:=h; exact F1u h1)
theorem B3g{ts:Array TypeId}{p n v:AV}{B':Heap}{D:List Nat}(h:Q0 P B ts p n=some (v,B',D)):AFr B B' D:=by
 unfold Q0 at h
 (repeat' split at h)<;>first
  | (simp at h; done)
  | exact A0a h
  | (simp only[oM,pI] at h; obtain⟨_,_,_,rfl,rfl⟩:=h; exact .set _ _ _)
theorem C9j{b:Builtin}{ts:Array TypeId}{args:List AV}{v:AV}{B':Heap}{D:List Nat}(h:A0u P B b ts args=some (v,B',D)):AFr B B' D:=by
 unfold A0u at h
 split at h<;>first | exact D4e h | exact E4o h | exact E1x h | exact A0a h | exact B3g h | (simp at h; done)
theorem B6z{t:TypeId}{n:Nat}{ps:List (Nat×AV)}{v:AV}{B':Heap}{D:List Nat}(h:A1v P B t n ps=some (v,B',D)):AFr B B' D:=by
 unfold A1v at h
 (repeat' split at h)<;>first
  | (simp at h; done)
  | (simp only[sI,pI] at h; obtain⟨rfl,rfl,rfl⟩:=h; exact .push _ _)
theorem C0y{t:TypeId}{x y v:AV}{B':Heap}{D:List Nat}(h:A3f P B t x y=some (v,B',D)):AFr B B' D:=by
 unfold A3f at h
 (repeat' split at h)<;>first
  | (simp at h; done)
  | (simp only[sI,pI] at h; obtain⟨rfl,rfl,rfl⟩:=h; exact .push _ _)
theorem C9k{s d:TypeId}{x v:AV}{B':Heap}{D:List Nat}(h:A3c P B s d x=some (v,B',D)):AFr B B' D:=by
 unfold A3c at h
 (repeat' split at h)<;>first
  | (simp at h; done)
  | exact A0a h
  | (simp only[sI,pI] at h; obtain⟨rfl,rfl,rfl⟩:=h; exact .push _ _)
theorem E2l{t:TypeId}{p x v:AV}{B':Heap}{D:List Nat}(h:A7n P B t p x=some (v,B',D)):AFr B B' D:=by
 unfold A7n at h
 (repeat' split at h)<;>first
  | (simp at h; done)
  | (simp only[oM,pI] at h; obtain⟨_,h1,_,rfl,rfl⟩:=h; exact F1u h1)
theorem C9p{t:TypeId}{x:Option AV}{v:AV}{B':Heap}{D:List Nat}(h:A7l P B t x=some (v,B',D)):AFr B B' D:=by
 unfold A7l at h
 split at h
 ·simp only[sI,pI] at h; obtain⟨rfl,rfl,rfl⟩:=h; exact .push _ _
 ·cases h
theorem C0z{t:TypeId}{m k x v:AV}{B':Heap}{D:List Nat}(h:A1k P B t m k x=some (v,B',D)):AFr B B' D:=by
 unfold A1k at h
 split at h
 ·rename_i r hr
  cases h
  unfold A0p at hr
  (repeat' split at hr)<;>first
   | (simp at hr; done)
   | (simp only[sI,pI] at hr; obtain⟨rfl,rfl,rfl⟩:=hr; exact .set _ _ _)
 ·unfold C4t at h
  (repeat' split at h)<;>first
   | (simp at h; done)
   | (simp only[sI,pI] at h; obtain⟨rfl,rfl,rfl⟩:=h; exact .set _ _ _)
theorem F3i{U:Operand->AV}{op:Op}{v:AV}{B':Heap}{D:List Nat}(h:R4 P U B op=some (v,B',D)):AFr B B' D:=by
 unfold R4 at h
 split at h<;>first
  | exact A0a h
  | exact B6z h
  | exact C0y h
  | exact C9k h
  | exact C9j h
  | exact C9p h
  | exact C0z h
  | (simp at h; done)
  | (split at h<;>first | exact A0a h | exact E2l h | (simp at h; done) | (simp only[sI,pI] at h; obtain⟨rfl,rfl,rfl⟩:=h; exact .push _ _))
  | (simp only[oM,pI] at h; obtain⟨_,_,_,rfl,rfl⟩:=h; exact .push _ _)
theorem C9t{t tx:TypeId}{b n:Nat}{x:AV}{c:Bool}{v:AV}{B':Heap}{D:List Nat}(h:A7q P B t tx b n x=some (c,v,B',D)):AFr B B' D:=by
 unfold A7q at h
 (repeat' split at h)<;>first
  | (simp at h; done)
  | (simp only[sI,pI] at h; obtain⟨_,_,rfl,rfl⟩:=h; exact(AFr.set _ _ _).trans (.push _ _))
theorem C9s{t tx:TypeId}{b n:Nat}{x:AV}{c:Bool}{v:AV}{B':Heap}{D:List Nat}(h:A7p P B t tx b n x=some (c,v,B',D)):AFr B B' D:=by
 unfold A7p at h
 (repeat' split at h)<;>first
  | (simp at h; done)
  | (simp only[sI,pI] at h; obtain⟨_,_,rfl,rfl⟩:=h; exact(AFr.set _ _ _).trans (.push _ _))
theorem C9r{ts:Array TypeId}{b n:Nat}{m:AV}{c:Bool}{v:AV}{B':Heap}{D:List Nat}(h:A7o P B ts b n m=some (c,v,B',D)):AFr B B' D:=by
 unfold A7o at h
 (repeat' split at h)<;>first
  | (simp at h; done)
  | (simp only[sI,pI] at h; obtain⟨_,_,rfl,rfl⟩:=h; exact .set _ _ _)
theorem E4u{U:Operand->AV}{op:Op}{c:Bool}{v:AV}{B':Heap}{D:List Nat}(h:L8 P U B op=some (c,v,B',D)):AFr B B' D:=by
 unfold L8 at h
 split at h
 ·split at h
  ·simp only[oM,pI] at h; obtain⟨_,_,_,_,rfl,rfl⟩:=h; exact .refl _
  ·cases h
 ·split at h
  ·split at h
   ·simp only[sI,pI] at h; obtain⟨_,_,rfl,rfl⟩:=h; exact .refl _
   ·cases h
  ·cases h
 ·split at h
  ·split at h
   ·exact C9s h
   ·exact C9t h
  ·cases h
 ·split at h
  ·simp only[sI,pI] at h; obtain⟨_,_,rfl,rfl⟩:=h; exact .refl _
  ·cases h
 ·split at h
  ·exact C9r h
  ·cases h
 ·split at h
  ·split at h
   ·split at h
    ·simp only[sI,pI] at h; obtain⟨_,_,rfl,rfl⟩:=h; exact .refl _
    ·cases h
   ·cases h
  ·cases h
 ·simp only[oM,pI] at h; obtain⟨_,_,_,_,rfl,rfl⟩:=h; exact .refl _
theorem C4f{s d:TypeId}{x:AV}{c:Bool}{v:AV}{B':Heap}{D:List Nat}(h:A5b P B s d x=some (c,v,B',D)):AFr B B' D:=by
 unfold A5b at h
 (repeat' split at h)<;>first
  | (simp at h; done)
  | (simp only[sI,pI] at h; obtain⟨_,_,rfl,rfl⟩:=h; exact .push _ _)
theorem F3f{U:Operand->AV}{op:Op}{c:Bool}{v:AV}{B':Heap}{D:List Nat}(h:Y1 P U B op=some (c,v,B',D)):AFr B B' D:=by
 unfold Y1 at h
 (repeat' split at h)<;>first
  | (simp at h; done)
  | (rename_i hb; simp only[sI] at h; subst h; exact C4f hb)
  | (simp only[oM,pI] at h; obtain⟨_,_,_,_,rfl,rfl⟩:=h; exact .refl _)
  | (simp only[sI,pI] at h; obtain⟨_,_,rfl,rfl⟩:=h; exact .refl _)
theorem G1h{U:Operand->AV}{op:Op}{c:Bool}{v:AV}{B':Heap}{D:List Nat}(h:afl P U B op=some (c,v,B',D)):AFr B B' D:=by
 unfold afl at h
 (repeat' split at h)<;>first
  | (simp at h; done)
  | (simp only[sI,pI] at h; obtain⟨_,_,rfl,rfl⟩:=h; first | exact .refl _ | exact(AFr.set _ _ _).trans (.push _ _))
theorem G1i{U:Operand->AV}{op:Op}{c:Bool}{v:AV}{B':Heap}{D:List Nat}(h:afs P U B op=some (c,v,B',D)):AFr B B' D:=by
 unfold afs at h
 (repeat' split at h)<;>first
  | (simp at h; done)
  | (simp only[sI,pI] at h; obtain⟨_,_,rfl,rfl⟩:=h; first | exact .refl _ | exact(AFr.set _ _ _))
theorem F3l{U:Operand->AV}{op:Op}{c:Bool}{v:AV}{B':Heap}{D:List Nat}(h:A1l P U B op=some (c,v,B',D)):AFr B B' D:=by
 unfold A1l at h
 split at h
 ·rename_i r hr; cases h; exact F3f hr
 split at h
 ·rename_i r hr; cases h; exact E4u hr
 split at h
 ·simp only[sI,pI] at h; obtain⟨_,_,rfl,rfl⟩:=h; exact .refl _
 split at h
 ·rename_i r hr; cases h; exact G1h hr
 ·exact G1i h
theorem G1j{U:Operand->AV}{op:Op}{v:AV}{B':Heap}{D:List Nat}(h:aop P U B op=some (v,B',D)):AFr B B' D:=by
 unfold aop at h
 split at h
 ·split at h
  ·cases h; exact .refl _
  ·cases h
 ·split at h
  ·rename_i hc
   split at h
   ·cases h; exact F3l hc
   ·cases h
  ·exact F3i h
def FrBp(bp:Bps):Prop:=∀ id g,bp id=some g->∀ U B e U' B' D,(g U B).get=some (e,U',B',D)->AFr B B' D
theorem FrBp.none:FrBp A8f:=fun _ _ h=>by cases h
structure FrOK (r:Rec):Prop where
 exec:∀ bp c U B e U' B' D,FrBp bp->r.exec bp c U B=some (e,U',B',D)->AFr B B' D
 call:∀ f args B v B' D,r.call f args B=some (v,B',D)->AFr B B' D
variable {r:Rec}
theorem C1q(hr:FrOK r){l:Nat}{args:List AV}{v:AV}{B':Heap}{D:List Nat}(h:A5v r l args B=some (v,B',D)):AFr B B' D:=by
 unfold A5v at h
 split at h
 ·split at h
  ·split at h
   ·rename_i U1 B1 D1 h1
    split at h
    ·split at h
     ·split at h
      ·rename_i e U2 B2 D2 h2
       split at h
       ·have key:∀ o,AFr B (B2.set l o) (D1++[l]++D2++[l]):=fun o =>
         ((((hr.exec _ _ _ _ _ _ _ _ .none h1).trans (.set _ _ _)).trans (hr.exec _ _ _ _ _ _ _ _ .none h2)).trans (.set _ _ _))
        cases e<;>(simp only[sI,pI] at h; obtain⟨_,rfl,rfl⟩:=h; exact key _)
       ·simp at h
      ·simp at h
     ·simp at h
    ·simp at h
   ·simp at h
  ·simp at h
 ·simp at h
theorem E1w(hr:FrOK r){f:AV}{args:List AV}{v:AV}{B':Heap}{D:List Nat}(h:B7e r f args B=some (v,B',D)):AFr B B' D:=by
 unfold B7e at h
 split at h
 ·exact hr.call _ _ _ _ _ _ h
 ·exact C1q hr h
 ·simp at h
theorem B1o(hr:FrOK r){U:Operand->AV}{op:Op}{v:AV}{B':Heap}{D:List Nat}(h:M5 P r U B op=some (v,B',D)):AFr B B' D:=by
 unfold M5 at h
 split at h
 ·split at h
  ·exact A0a h
  ·exact E1w hr h
 ·exact G1j h
theorem B1q(hr:FrOK r){ops:Array Oper}:∀ {l:List Oper} {U U':List AV} {B B':Heap} {D:List Nat},M6 P r ops l U B=some (U',B',D)->AFr B B' D
 | [],U,U',B,B',D,h=>by simp only[M6,sI,pI] at h; obtain⟨_,rfl,rfl⟩:=h; exact .refl _
 | o::l,U,U',B,B',D,h=>by
  simp only[M6] at h
  split at h
  ·split at h
   ·rename_i v B1 D1 h1
    simp only[O1] at h
    split at h
    ·rename_i U2 B2 D2 h2
     cases h
     exact(B1o hr h1).trans (B1q hr h2)
    ·simp at h
   ·simp at h
  ·exact B1q hr h
  ·simp at h
theorem B1p(hr:FrOK r){ops:Array Oper}:∀ {l:List Oper} {U U':List AV} {B B':Heap} {D:List Nat},A4k P r ops l U B=some (U',B',D)->AFr B B' D
 | [],U,U',B,B',D,h=>by simp only[A4k,sI,pI] at h; obtain⟨_,rfl,rfl⟩:=h; exact .refl _
 | o::l,U,U',B,B',D,h=>by
  simp only[A4k] at h
  split at h
  ·split at h
   ·rename_i v B1 D1 h1
    simp only[O1] at h
    split at h
    ·rename_i U2 B2 D2 h2
     cases h
     exact(B1o hr h1).trans (B1p hr h2)
    ·simp at h
   ·simp at h
  ·exact B1p hr h
  ·simp at h
theorem D4r(hr:FrOK r){ops:Array Oper}{m:Nat}{U U':List AV}{B':Heap}{D:List Nat}(h:A5t P r ops m U B=some (U',B',D)):AFr B B' D:=by
 unfold A5t at h
 split at h
 ·split at h
  ·rename_i h1
   exact(B1q hr h1).trans (B1p hr h)
  ·simp at h
 ·simp at h
theorem B4g(hr:FrOK r){ops:Array Oper}{m:Nat}{U U':List AV}{B':Heap}{D:List Nat}(h:A1x P r ops m U B=some (U',B',D)):AFr B B' D:=by
 unfold A1x at h
 split at h
 ·split at h
  ·rename_i h1
   split at h
   ·rename_i h2
    split at h
    ·cases h; exact(B1q hr h1).trans (B1q hr h2)
    ·cases h
   ·cases h
  ·simp at h
 ·simp at h
theorem E4p(hr:FrOK r){ops:Array Oper}{U U':List AV}{B':Heap}{D:List Nat}(h:B1m P r ops U B=some (U',B',D)):AFr B B' D:=by
 unfold B1m at h
 split at h
 ·exact B4g hr h
 ·unfold B7h at h
  split at h
  ·exact D4r hr h
  ·exact B4g hr h
theorem A8q{D D':List Nat}{x:E1v}{e:AEx}{U:List AV}{B:Heap}(h:B3d D x=some (e,U,B,D')):∃ D1,x=some (e,U,B,D1)/\D'=D++D1:=by
 unfold B3d at h
 split at h
 ·cases h; exact⟨_,rfl,rfl⟩
 ·simp at h
theorem E2k(hr:FrOK r){f:AV}{U:List AV}{ps:Array Tmp}{as body:Code}{v:AV}{B':Heap}{D:List Nat}(h:B7r r f U ps as body B=some (v,B',D)):AFr B B' D:=by
 unfold B7r at h
 split at h
 ·exact(AFr.push B _).trans (hr.call _ _ _ _ _ _ h)
 ·simp at h
theorem D0w(hr:FrOK r){bp:Bps}(hb:FrBp bp):∀ {c:Code} {U U':List AV} {B B':Heap} {D:List Nat} {e:AEx},J7 P r bp c U B=some (e,U',B',D)->AFr B B' D:=by
 intro c
 induction c with
 | seq a b iha ihb =>
  intro U U' B B' D e h
  simp only[J7] at h
  split at h
  ·rename_i h1
   obtain⟨D1,h2,rfl⟩:=A8q h
   exact(iha h1).trans (ihb h2)
  ·exact iha h
 | cond c a b iha ihb =>
  intro U U' B B' D e h
  simp only[J7] at h
  split at h
  ·exact iha h
  ·exact ihb h
  ·simp at h
 | block id c ih =>
  intro U U' B B' D e h
  simp only[J7] at h
  split at h
  ·rename_i g hg; exact hb _ _ hg _ _ _ _ _ _ h
  split at h
  ·rename_i h1; cases h; exact ih h1
  ·exact ih h
 | loop c ih =>
  intro U U' B B' D e h
  simp only[J7,U5,A1h] at h
  split at h
  ·rename_i h1
   obtain⟨D1,h2,rfl⟩:=A8q h
   exact(ih h1).trans (hr.exec _ _ _ _ _ _ _ _ hb h2)
  ·exact ih h
 | scope c ih =>
  intro U U' B B' D e h
  exact ih h
 | region id ops draw =>
  intro U U' B B' D e h
  cases draw<;>simp only[J7,oM,pI,Prod.exists] at h
  ·obtain⟨_,_,_,h1,_,_,rfl,rfl⟩:=h; exact B1p hr h1
  ·obtain⟨_,_,_,h1,_,_,rfl,rfl⟩:=h; exact E4p hr h1
 | rangeFunc f ps as body iha ihb =>
  intro U U' B B' D e h
  simp only[J7] at h
  split at h
  ·rename_i h1
   have h2:=E2k hr h1
   split at h
   ·split at h
    ·simp at h
    ·split at h<;>first | (simp at h; done) | (cases h; exact h2.trans (.set _ _ _))
   ·simp at h
  ·simp at h
 | _ =>
  intro U U' B B' D e h
  simp only[J7,sI,pI,reduceCtorEq] at h
  try (obtain⟨_,_,rfl,rfl⟩:=h; exact .refl _)
theorem G6p{v v':AV}{B' B'':Heap}{D D'':List Nat}(h:AFr B B' D)(hg:gc B v B' D=(v',B'',D'')):AFr B B'' D'':=by
 have hf:∀ b,b<B.length->b∉D.filter (·<B.length)->B'[b]?=B[b]?:=fun b hb hn=>h.2 b hb fun hm=>hn (by simp[hm,hb])
 unfold gc at hg
 simp only at hg
 split at hg
 ·cases hg
  split
  ·exact⟨lR _,fun _ _ _=>rfl⟩
  ·refine⟨by simp[Nat.min_eq_left h.1],fun b hb hn=>?_⟩
   rw[tK,if_pos hb]; exact hf b hb hn
 ·split at hg
  ·split at hg
   ·split at hg
    ·split at hg
     ·cases hg; exact .push _ _
     ·cases hg; exact⟨h.1,hf⟩
    ·cases hg; exact⟨h.1,hf⟩
   ·cases hg; exact⟨h.1,hf⟩
  ·cases hg; exact⟨h.1,hf⟩
def D4c(prims:Prims):Prop:=(∀ f g,prims.fn f=some g->∀ args B v B' D,(g args B).get=some (v,B',D)->AFr B B' D)/\∀ f,FrBp (prims.blk f)
theorem E4x{prims:Prims}(hp:D4c prims)(hr:FrOK r){f:FuncId}{args:List AV}{v:AV}{B':Heap}{D:List Nat}(h:A7s P prims r f args B=some (v,B',D)):AFr B B' D:=by
 unfold A7s at h
 split at h
 ·rename_i hg; exact hp.1 _ _ hg _ _ _ _ _ h
 ·split at h
  ·simp at h
  ·split at h
   ·simp at h
   ·simp only[U5,A1h] at h
    split at h
    ·simp at h
    ·rename_i h1
     split at h
     ·simp only[sI] at h
      exact G6p (D0w hr (hp.2 _) h1) h
     ·simp at h
    ·simp at h
theorem B3y(P:Program){prims:Prims}(hp:D4c prims):∀ n,FrOK (run P prims n)
 | 0=>⟨fun _ _ _ _ _ _ _ _ _ h=>by simp[run] at h,fun _ _ _ _ _ _ h=>by simp[run] at h⟩
 | n+1=>⟨fun _ _ _ _ _ _ _ _ hb h=>D0w (B3y P hp n) hb h,fun _ _ _ _ _ _ h=>E4x hp (B3y P hp n) h⟩
end Go.Ad
