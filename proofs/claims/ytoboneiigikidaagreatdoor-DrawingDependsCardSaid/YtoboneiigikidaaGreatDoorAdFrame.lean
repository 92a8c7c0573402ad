/- What the abstract evaluator does not write stays as it was. -/
import Derived.Test.YtoboneiigikidaaGreatDoorAdExec
namespace Go.Ad
def AFr(B B':Heap)(D:List Nat):Prop:=B.length<=B'.length/\∀ b,b<B.length->b∉D->B'[b]?=B[b]?
theorem AFr.refl(B:Heap):AFr B B []:=⟨lR _,fun _ _ _=>rfl⟩
theorem AFr.trans{B B1 B2:Heap}{D D':List Nat}(h:AFr B B1 D)(h':AFr B1 B2 D'):AFr B B2 (D++D') :=
 ⟨Nat.le_trans h.1 h'.1,fun b hb hD=>(h'.2 b (Nat.lt_of_lt_of_le hb h.1) fun hm=>hD (by simp[hm])).trans (h.2 b hb fun hm=>hD (by simp[hm]))⟩
theorem AFr.push(B:Heap)(o:AObj):AFr B (B++[o]) [] :=
 ⟨by simp,fun b hb _=>gL hb⟩
theorem AFr.set(B:Heap)(b:Nat)(o:AObj):AFr B (B.set b o) [b] :=
 ⟨by simp,fun x _ hx=>by rw[List.getElem?_set]; simp at hx; rw[if_neg (Ne.symm hx)]⟩
variable {P:Program} {B:Heap}
theorem A0i{o:Option AV}{v:AV}{B':Heap}{D:List Nat}(h:only B o=some (v,B',D)):AFr B B' D:=by
 unfold only at h
 simp only[oM,pI] at h
 obtain⟨_,_,_,rfl,rfl⟩:=h
 exact .refl _
theorem F1t{b o:Nat}{vs:List AV}{B':Heap}(h:st B b o vs=some B'):AFr B B' [b]:=by
 unfold st at h
 split at h
 ·split at h
  ·cases h; exact .set _ _ _
  ·simp at h
 ·simp at h
theorem D4c{ts:Array TypeId}{s x:AV}{v:AV}{B':Heap}{D:List Nat}(h:O9 P B ts s x=some (v,B',D)):AFr B B' D:=by
 unfold O9 at h
 (repeat' split at h)<;>first
  | (simp at h; done)
  | (simp only[sI,pI] at h; obtain⟨rfl,rfl,rfl⟩:=h; first | exact .refl _ | exact .push _ _ | exact .set _ _ _ | exact(AFr.set _ _ _).trans (.push _ _))
theorem E4v{ts:Array TypeId}{s x:AV}{v:AV}{B':Heap}{D:List Nat}(h:B7q P B ts s x=some (v,B',D)):AFr B B' D:=by
 unfold B7q at h
 (repeat' split at h)<;>first
  | (simp at h; done)
  | exact A0i h
  | (simp only[oM,pI] at h; obtain⟨_,h1,_,rfl,rfl⟩:=h; exact F1t h1)
theorem E2c{ts:Array TypeId}{s:AV}{v:AV}{B':Heap}{D:List Nat}(h:B7p P B ts s=some (v,B',D)):AFr B B' D:=by
 unfold B7p at h
 (repeat' split at h)<;>first
  | (simp at h; done)
  | exact A0i h
  | (simp only[oM,pI] at h; obtain⟨_,h1,_,rfl,rfl⟩:=h; exact F1t h1)
theorem B3m{ts:Array TypeId}{p n v:AV}{B':Heap}{D:List Nat}(h:R6 P B ts p n=some (v,B',D)):AFr B B' D:=by
 unfold R6 at h
 (repeat' split at h)<;>first
  | (simp at h; done)
  | exact A0i h
  | (simp only[oM,pI] at h; obtain⟨_,_,_,rfl,rfl⟩:=h; exact .set _ _ _)
theorem C9j{b:Builtin}{ts:Array TypeId}{args:List AV}{v:AV}{B':Heap}{D:List Nat}(h:A1b P B b ts args=some (v,B',D)):AFr B B' D:=by
 unfold A1b at h
 split at h<;>first | exact D4c h | exact E4v h | exact E2c h | exact A0i h | exact B3m h | (simp at h; done)
theorem B7m{t:TypeId}{n:Nat}{ps:List (Nat×AV)}{v:AV}{B':Heap}{D:List Nat}(h:A2m P B t n ps=some (v,B',D)):AFr B B' D:=by
 unfold A2m at h
 (repeat' split at h)<;>first
  | (simp at h; done)
  | (simp only[sI,pI] at h; obtain⟨rfl,rfl,rfl⟩:=h; exact .push _ _)
theorem C1n{t:TypeId}{x y v:AV}{B':Heap}{D:List Nat}(h:A0u P B t x y=some (v,B',D)):AFr B B' D:=by
 unfold A0u at h
 (repeat' split at h)<;>first
  | (simp at h; done)
  | (simp only[sI,pI] at h; obtain⟨rfl,rfl,rfl⟩:=h; exact .push _ _)
theorem C9k{s d:TypeId}{x v:AV}{B':Heap}{D:List Nat}(h:A3q P B s d x=some (v,B',D)):AFr B B' D:=by
 unfold A3q at h
 (repeat' split at h)<;>first
  | (simp at h; done)
  | exact A0i h
  | (simp only[sI,pI] at h; obtain⟨rfl,rfl,rfl⟩:=h; exact .push _ _)
theorem E2r{t:TypeId}{p x v:AV}{B':Heap}{D:List Nat}(h:A1f P B t p x=some (v,B',D)):AFr B B' D:=by
 unfold A1f at h
 (repeat' split at h)<;>first
  | (simp at h; done)
  | (simp only[oM,pI] at h; obtain⟨_,h1,_,rfl,rfl⟩:=h; exact F1t h1)
theorem C9n{t:TypeId}{x:Option AV}{v:AV}{B':Heap}{D:List Nat}(h:A7w P B t x=some (v,B',D)):AFr B B' D:=by
 unfold A7w at h
 split at h
 ·simp only[sI,pI] at h; obtain⟨rfl,rfl,rfl⟩:=h; exact .push _ _
 ·cases h
theorem C1o{t:TypeId}{m k x v:AV}{B':Heap}{D:List Nat}(h:A1z P B t m k x=some (v,B',D)):AFr B B' D:=by
 unfold A1z at h
 split at h
 ·rename_i r hr
  cases h
  unfold A0x at hr
  (repeat' split at hr)<;>first
   | (simp at hr; done)
   | (simp only[sI,pI] at hr; obtain⟨rfl,rfl,rfl⟩:=hr; exact .set _ _ _)
 ·unfold C4z at h
  (repeat' split at h)<;>first
   | (simp at h; done)
   | (simp only[sI,pI] at h; obtain⟨rfl,rfl,rfl⟩:=h; exact .set _ _ _)
theorem F3f{U:Operand->AV}{op:Op}{v:AV}{B':Heap}{D:List Nat}(h:U8 P U B op=some (v,B',D)):AFr B B' D:=by
 unfold U8 at h
 split at h<;>first
  | exact A0i h
  | exact B7m h
  | exact C1n h
  | exact C9k h
  | exact C9j h
  | exact C9n h
  | exact C1o h
  | (simp at h; done)
  | (split at h<;>first | exact A0i h | exact E2r h | (simp at h; done) | (simp only[sI,pI] at h; obtain⟨rfl,rfl,rfl⟩:=h; exact .push _ _))
  | (simp only[oM,pI] at h; obtain⟨_,_,_,rfl,rfl⟩:=h; exact .push _ _)
theorem C9r{t tx:TypeId}{b n:Nat}{x:AV}{c:Bool}{v:AV}{B':Heap}{D:List Nat}(h:A7z P B t tx b n x=some (c,v,B',D)):AFr B B' D:=by
 unfold A7z at h
 (repeat' split at h)<;>first
  | (simp at h; done)
  | (simp only[sI,pI] at h; obtain⟨_,_,rfl,rfl⟩:=h; exact(AFr.set _ _ _).trans (.push _ _))
theorem C9q{t tx:TypeId}{b n:Nat}{x:AV}{c:Bool}{v:AV}{B':Heap}{D:List Nat}(h:A7y P B t tx b n x=some (c,v,B',D)):AFr B B' D:=by
 unfold A7y at h
 (repeat' split at h)<;>first
  | (simp at h; done)
  | (simp only[sI,pI] at h; obtain⟨_,_,rfl,rfl⟩:=h; exact(AFr.set _ _ _).trans (.push _ _))
theorem C9p{ts:Array TypeId}{b n:Nat}{m:AV}{c:Bool}{v:AV}{B':Heap}{D:List Nat}(h:A7x P B ts b n m=some (c,v,B',D)):AFr B B' D:=by
 unfold A7x at h
 (repeat' split at h)<;>first
  | (simp at h; done)
  | (simp only[sI,pI] at h; obtain⟨_,_,rfl,rfl⟩:=h; exact .set _ _ _)
theorem E5b{U:Operand->AV}{op:Op}{c:Bool}{v:AV}{B':Heap}{D:List Nat}(h:M0 P U B op=some (c,v,B',D)):AFr B B' D:=by
 unfold M0 at h
 split at h
 ·split at h
  ·simp only[oM,pI] at h; obtain⟨_,_,_,_,rfl,rfl⟩:=h; exact .refl _
  ·cases h
 ·split at h
  ·split at h
   ·simp only[sI,pI] at h; obtain⟨_,_,rfl,rfl⟩:=h; exact .refl _
   ·cases h
  ·cases h
 ·split at h
  ·split at h
   ·exact C9q h
   ·exact C9r h
  ·cases h
 ·split at h
  ·simp only[sI,pI] at h; obtain⟨_,_,rfl,rfl⟩:=h; exact .refl _
  ·cases h
 ·split at h
  ·exact C9p h
  ·cases h
 ·split at h
  ·split at h
   ·split at h
    ·simp only[sI,pI] at h; obtain⟨_,_,rfl,rfl⟩:=h; exact .refl _
    ·cases h
   ·cases h
  ·cases h
 ·simp only[oM,pI] at h; obtain⟨_,_,_,_,rfl,rfl⟩:=h; exact .refl _
theorem B7j{t:TypeId}{cs:List AV}{c:Bool}{v:AV}{B':Heap}{D:List Nat}(h:A4r P B t cs=some (c,v,B',D)):AFr B B' D:=by
 unfold A4r at h
 (repeat' split at h)<;>first
  | (simp at h; done)
  | (simp only[sI,pI] at h; obtain⟨_,_,rfl,rfl⟩:=h; exact .push _ _)
theorem C4m{t:TypeId}{x p:AV}{c:Bool}{v:AV}{B':Heap}{D:List Nat}(h:A1y P B t x p=some (c,v,B',D)):AFr B B' D:=by
 unfold A1y at h
 (repeat' split at h)<;>first
  | (simp at h; done)
  | (simp only[sI,pI] at h; obtain⟨_,_,rfl,rfl⟩:=h; exact .set _ _ _)
theorem C9g{ts:Array TypeId}{d x:AV}{c:Bool}{v:AV}{B':Heap}{D:List Nat}(h:A7p P B ts d x=some (c,v,B',D)):AFr B B' D:=by
 unfold A7p at h
 (repeat' split at h)<;>first
  | (simp at h; done)
  | (simp only[sI,pI] at h; obtain⟨_,_,rfl,rfl⟩:=h; exact .set _ _ _)
theorem C9h{t:TypeId}{l n:AV}{c:Bool}{v:AV}{B':Heap}{D:List Nat}(h:A7q P B t l n=some (c,v,B',D)):AFr B B' D:=by
 unfold A7q at h
 (repeat' split at h)<;>first
  | (simp at h; done)
  | (simp only[sI,pI] at h; obtain⟨_,_,rfl,rfl⟩:=h; exact .push _ _)
theorem C4k{s d:TypeId}{x:AV}{c:Bool}{v:AV}{B':Heap}{D:List Nat}(h:A5i P B s d x=some (c,v,B',D)):AFr B B' D:=by
 unfold A5i at h
 (repeat' split at h)<;>first
  | (simp at h; done)
  | (simp only[sI,pI] at h; obtain⟨_,_,rfl,rfl⟩:=h; exact .push _ _)
theorem F3c{U:Operand->AV}{op:Op}{c:Bool}{v:AV}{B':Heap}{D:List Nat}(h:U4 P U B op=some (c,v,B',D)):AFr B B' D:=by
 unfold U4 at h
 (repeat' split at h)<;>first
  | (simp at h; done)
  | exact C4m h
  | exact B7j h
  | exact C9g h
  | exact C9h h
  | (rename_i hb; simp only[sI] at h; subst h; exact C4k hb)
  | (simp only[oM,pI] at h; obtain⟨_,_,_,_,rfl,rfl⟩:=h; exact .refl _)
  | (simp only[sI,pI] at h; obtain⟨_,_,rfl,rfl⟩:=h; exact .refl _)
  | (simp only[Option.bind_eq_some_iff] at h; obtain⟨_,_,h⟩:=h; exact B7j h)
theorem G1p{U:Operand->AV}{op:Op}{c:Bool}{v:AV}{B':Heap}{D:List Nat}(h:atl P U B op=some (c,v,B',D)):AFr B B' D:=by
 unfold atl at h
 (repeat' split at h)<;>first
  | (simp at h; done)
  | (simp only[sI,pI] at h; obtain⟨_,_,rfl,rfl⟩:=h; first | exact .refl _ | exact .set _ _ _ | exact(AFr.set _ _ _).trans (.push _ _))
theorem G1n{U:Operand->AV}{op:Op}{c:Bool}{v:AV}{B':Heap}{D:List Nat}(h:aqs P U B op=some (c,v,B',D)):AFr B B' D:=by
 unfold aqs at h
 (repeat' split at h)<;>first
  | (simp at h; done)
  | (simp only[oM,pI] at h; obtain⟨_,_,_,_,rfl,rfl⟩:=h; exact .refl _)
  | (simp only[sI,pI] at h; obtain⟨_,_,rfl,rfl⟩:=h; first | exact .refl _ | exact(AFr.set _ _ _).trans (.push _ _))
theorem G1k{U:Operand->AV}{op:Op}{c:Bool}{v:AV}{B':Heap}{D:List Nat}(h:afl P U B op=some (c,v,B',D)):AFr B B' D:=by
 unfold afl at h
 (repeat' split at h)<;>first
  | (simp at h; done)
  | (simp only[sI,pI] at h; obtain⟨_,_,rfl,rfl⟩:=h; first | exact .refl _ | exact(AFr.set _ _ _).trans (.push _ _))
theorem G1l{U:Operand->AV}{op:Op}{c:Bool}{v:AV}{B':Heap}{D:List Nat}(h:afs P U B op=some (c,v,B',D)):AFr B B' D:=by
 unfold afs at h
 (repeat' split at h)<;>first
  | (simp at h; done)
  | (simp only[sI,pI] at h; obtain⟨_,_,rfl,rfl⟩:=h; first | exact .refl _ | exact(AFr.set _ _ _))
theorem F3j{U:Operand->AV}{op:Op}{c:Bool}{v:AV}{B':Heap}{D:List Nat}(h:A2c P U B op=some (c,v,B',D)):AFr B B' D:=by
 unfold A2c at h
 split at h
 ·rename_i r hr; cases h; exact F3c hr
 ·split at h
  ·rename_i r hr; cases h; exact E5b hr
  split at h
  ·rename_i r hr; cases h; exact G1p hr
  split at h
  ·rename_i r hr; cases h; exact G1n hr
  split at h
  ·simp only[sI,pI] at h; obtain⟨_,_,rfl,rfl⟩:=h; exact .refl _
  split at h
  ·rename_i r hr; cases h; exact G1k hr
  ·exact G1l h
theorem G1m{U:Operand->AV}{op:Op}{v:AV}{B':Heap}{D:List Nat}(h:aop P U B op=some (v,B',D)):AFr B B' D:=by
 unfold aop at h
 split at h
 ·split at h
  ·cases h; exact .refl _
  ·cases h
 ·split at h
  ·rename_i hc
   split at h
   ·cases h; exact F3j hc
   ·cases h
  ·exact F3f h
def FrBp(bp:Bps):Prop:=∀ id g,bp id=some g->∀ U B e U' B' D,(g U B).get=some (e,U',B',D)->AFr B B' D
theorem FrBp.none:FrBp A8o:=fun _ _ h=>by cases h
structure FrOK (r:Rec):Prop where
 exec:∀ bp c U B e U' B' D,FrBp bp->r.exec bp c U B=some (e,U',B',D)->AFr B B' D
 call:∀ f args B v B' D,r.call f args B=some (v,B',D)->AFr B B' D
variable {r:Rec}
theorem C2b(hr:FrOK r){l:Nat}{args:List AV}{v:AV}{B':Heap}{D:List Nat}(h:A6d r l args B=some (v,B',D)):AFr B B' D:=by
 unfold A6d at h
 split at h
 ·split at h
  ·split at h
   ·rename_i U1 B1 D1 h1
    split at h
    ·split at h
     ·split at h
      ·rename_i e U2 B2 D2 h2
       split at h
       ·have key:∀ o,AFr B (B2.set l o) (D1++[l]++D2++[l]):=fun o =>
         ((((hr.exec _ _ _ _ _ _ _ _ .none h1).trans (.set _ _ _)).trans (hr.exec _ _ _ _ _ _ _ _ .none h2)).trans (.set _ _ _))
        cases e<;>(simp only[sI,pI] at h; obtain⟨_,rfl,rfl⟩:=h; exact key _)
       ·simp at h
      ·simp at h
     ·simp at h
    ·simp at h
   ·simp at h
  ·simp at h
 ·simp at h
theorem E2b(hr:FrOK r){f:AV}{args:List AV}{v:AV}{B':Heap}{D:List Nat}(h:B7o r f args B=some (v,B',D)):AFr B B' D:=by
 unfold B7o at h
 split at h
 ·exact hr.call _ _ _ _ _ _ h
 ·exact C2b hr h
 ·simp at h
theorem B1u(hr:FrOK r){U:Operand->AV}{op:Op}{v:AV}{B':Heap}{D:List Nat}(h:N7 P r U B op=some (v,B',D)):AFr B B' D:=by
 unfold N7 at h
 split at h
 ·split at h
  ·exact A0i h
  ·exact E2b hr h
 ·exact G1m h
theorem B1w(hr:FrOK r){ops:Array Oper}:∀ {l:List Oper} {U U':List AV} {B B':Heap} {D:List Nat},N8 P r ops l U B=some (U',B',D)->AFr B B' D
 | [],U,U',B,B',D,h=>by simp only[N8,sI,pI] at h; obtain⟨_,rfl,rfl⟩:=h; exact .refl _
 | o::l,U,U',B,B',D,h=>by
  simp only[N8] at h
  split at h
  ·split at h
   ·rename_i v B1 D1 h1
    simp only[O8] at h
    split at h
    ·rename_i U2 B2 D2 h2
     cases h
     exact(B1u hr h1).trans (B1w hr h2)
    ·simp at h
   ·simp at h
  ·exact B1w hr h
  ·simp at h
theorem B1v(hr:FrOK r){ops:Array Oper}:∀ {l:List Oper} {U U':List AV} {B B':Heap} {D:List Nat},A4t P r ops l U B=some (U',B',D)->AFr B B' D
 | [],U,U',B,B',D,h=>by simp only[A4t,sI,pI] at h; obtain⟨_,rfl,rfl⟩:=h; exact .refl _
 | o::l,U,U',B,B',D,h=>by
  simp only[A4t] at h
  split at h
  ·split at h
   ·rename_i v B1 D1 h1
    simp only[O8] at h
    split at h
    ·rename_i U2 B2 D2 h2
     cases h
     exact(B1u hr h1).trans (B1v hr h2)
    ·simp at h
   ·simp at h
  ·exact B1v hr h
  ·simp at h
theorem D4p(hr:FrOK r){ops:Array Oper}{m:Nat}{U U':List AV}{B':Heap}{D:List Nat}(h:A6c P r ops m U B=some (U',B',D)):AFr B B' D:=by
 unfold A6c at h
 split at h
 ·split at h
  ·rename_i h1
   exact(B1w hr h1).trans (B1v hr h)
  ·simp at h
 ·simp at h
theorem B4k(hr:FrOK r){ops:Array Oper}{m:Nat}{U U':List AV}{B':Heap}{D:List Nat}(h:A2o P r ops m U B=some (U',B',D)):AFr B B' D:=by
 unfold A2o at h
 split at h
 ·split at h
  ·rename_i h1
   split at h
   ·rename_i h2
    split at h
    ·cases h; exact(B1w hr h1).trans (B1w hr h2)
    ·cases h
   ·cases h
  ·simp at h
 ·simp at h
theorem E4w(hr:FrOK r){ops:Array Oper}{U U':List AV}{B':Heap}{D:List Nat}(h:B1s P r ops U B=some (U',B',D)):AFr B B' D:=by
 unfold B1s at h
 split at h
 ·exact B4k hr h
 ·unfold B7s at h
  split at h
  ·exact D4p hr h
  ·exact B4k hr h
theorem A9b{D D':List Nat}{x:E2a}{e:AEx}{U:List AV}{B:Heap}(h:B3k D x=some (e,U,B,D')):∃ D1,x=some (e,U,B,D1)/\D'=D++D1:=by
 unfold B3k at h
 split at h
 ·cases h; exact⟨_,rfl,rfl⟩
 ·simp at h
theorem E2q(hr:FrOK r){f:AV}{U:List AV}{ps:Array Tmp}{as body:Code}{v:AV}{B':Heap}{D:List Nat}(h:B8c r f U ps as body B=some (v,B',D)):AFr B B' D:=by
 unfold B8c at h
 split at h
 ·exact(AFr.push B _).trans (hr.call _ _ _ _ _ _ h)
 ·simp at h
theorem D0v(hr:FrOK r){bp:Bps}(hb:FrBp bp):∀ {c:Code} {U U':List AV} {B B':Heap} {D:List Nat} {e:AEx},J9 P r bp c U B=some (e,U',B',D)->AFr B B' D:=by
 intro c
 induction c with
 | seq a b iha ihb =>
  intro U U' B B' D e h
  simp only[J9] at h
  split at h
  ·rename_i h1
   obtain⟨D1,h2,rfl⟩:=A9b h
   exact(iha h1).trans (ihb h2)
  ·exact iha h
 | cond c a b iha ihb =>
  intro U U' B B' D e h
  simp only[J9] at h
  split at h
  ·exact iha h
  ·exact ihb h
  ·simp at h
 | block id c ih =>
  intro U U' B B' D e h
  simp only[J9] at h
  split at h
  ·rename_i g hg; exact hb _ _ hg _ _ _ _ _ _ h
  split at h
  ·rename_i h1; cases h; exact ih h1
  ·exact ih h
 | loop c ih =>
  intro U U' B B' D e h
  simp only[J9,V8,A1v] at h
  split at h
  ·rename_i h1
   obtain⟨D1,h2,rfl⟩:=A9b h
   exact(ih h1).trans (hr.exec _ _ _ _ _ _ _ _ hb h2)
  ·exact ih h
 | scope c ih =>
  intro U U' B B' D e h
  exact ih h
 | region id ops draw =>
  intro U U' B B' D e h
  cases draw<;>simp only[J9,oM,pI,Prod.exists] at h
  ·obtain⟨_,_,_,h1,_,_,rfl,rfl⟩:=h; exact B1v hr h1
  ·obtain⟨_,_,_,h1,_,_,rfl,rfl⟩:=h; exact E4w hr h1
 | rangeFunc f ps as body iha ihb =>
  intro U U' B B' D e h
  simp only[J9] at h
  split at h
  ·rename_i h1
   have h2:=E2q hr h1
   split at h
   ·split at h
    ·simp at h
    ·split at h<;>first | (simp at h; done) | (cases h; exact h2.trans (.set _ _ _))
   ·simp at h
  ·simp at h
 | _ =>
  intro U U' B B' D e h
  simp only[J9,sI,pI,reduceCtorEq] at h
  try (obtain⟨_,_,rfl,rfl⟩:=h; exact .refl _)
theorem G6g{v v':AV}{B' B'':Heap}{D D'':List Nat}(h:AFr B B' D)(hg:gc B v B' D=(v',B'',D'')):AFr B B'' D'':=by
 have hf:∀ b,b<B.length->b∉D.filter (·<B.length)->B'[b]?=B[b]?:=fun b hb hn=>h.2 b hb fun hm=>hn (by simp[hm,hb])
 unfold gc at hg
 simp only at hg
 split at hg
 ·cases hg
  split
  ·exact⟨lR _,fun _ _ _=>rfl⟩
  ·refine⟨by simp[Nat.min_eq_left h.1],fun b hb hn=>?_⟩
   rw[tK,if_pos hb]; exact hf b hb hn
 ·split at hg
  ·split at hg
   ·split at hg
    ·split at hg
     ·cases hg; exact .push _ _
     ·cases hg; exact⟨h.1,hf⟩
    ·cases hg; exact⟨h.1,hf⟩
   ·cases hg; exact⟨h.1,hf⟩
  ·cases hg; exact⟨h.1,hf⟩
def D3z(prims:Prims):Prop:=(∀ f g,prims.fn f=some g->∀ args B v B' D,(g args B).get=some (v,B',D)->AFr B B' D)/\∀ f,FrBp (prims.blk f)
theorem E5e{prims:Prims}(hp:D3z prims)(hr:FrOK r){f:FuncId}{args:List AV}{v:AV}{B':Heap}{D:List Nat}(h:A8b P prims r f args B=some (v,B',D)):AFr B B' D:=by
 unfold A8b at h
 split at h
 ·rename_i hg; exact hp.1 _ _ hg _ _ _ _ _ h
 ·split at h
  ·simp at h
  ·split at h
   ·simp at h
   ·simp only[V8,A1v] at h
    split at h
    ·simp at h
    ·rename_i h1
     split at h
     ·simp only[sI] at h
      exact G6g (D0v hr (hp.2 _) h1) h
     ·simp at h
    ·simp at h
theorem B4b(P:Program){prims:Prims}(hp:D3z prims):∀ n,FrOK (run P prims n)
 | 0=>⟨fun _ _ _ _ _ _ _ _ _ h=>by simp[run] at h,fun _ _ _ _ _ _ h=>by simp[run] at h⟩
 | n+1=>⟨fun _ _ _ _ _ _ _ _ hb h=>D0v (B4b P hp n) hb h,fun _ _ _ _ _ _ h=>E5e hp (B4b P hp n) h⟩
end Go.Ad
