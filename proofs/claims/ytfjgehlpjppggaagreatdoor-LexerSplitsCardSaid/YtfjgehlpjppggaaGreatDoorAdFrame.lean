/- What the abstract evaluator does not write stays as it was. -/
import Derived.Test.YtfjgehlpjppggaaGreatDoorAdExec
namespace Go.Ad
def AFr (B B':Heap) (D:List Nat):Prop:=B.length<=B'.length/\∀ b,b < B.length->b ∉ D->B'[b]?=B[b]?
theorem AFr.refl (B:Heap):AFr B B []:=⟨Nat.le_refl _,fun _ _ _=>rfl⟩
theorem AFr.trans {B B1 B2:Heap} {D D':List Nat} (h:AFr B B1 D) (h':AFr B1 B2 D'):AFr B B2 (D++D') :=
 ⟨Nat.le_trans h.1 h'.1,fun b hb hD=>(h'.2 b (Nat.lt_of_lt_of_le hb h.1) fun hm=>hD (by simp [hm])).trans (h.2 b hb fun hm=>hD (by simp [hm]))⟩
theorem AFr.push (B:Heap) (o:AObj):AFr B (B++[o]) [] :=
 ⟨by simp,fun b hb _=>List.getElem?_append_left hb⟩
theorem AFr.set (B:Heap) (b:Nat) (o:AObj):AFr B (B.set b o) [b] :=
 ⟨by simp,fun x _ hx=>by rw [List.getElem?_set]; simp at hx; rw [if_neg (Ne.symm hx)]⟩
variable {P:Program} {B:Heap}
theorem A1l {o:Option AV} {v:AV} {B':Heap} {D:List Nat} (h:only B o=some (v,B',D)):AFr B B' D:=by
 unfold only at h
 simp only [Option.map_eq_some_iff,pI] at h
 obtain ⟨_,_,_,rfl,rfl⟩:=h
 exact .refl _
theorem E5o {b o:Nat} {vs:List AV} {B':Heap} (h:st B b o vs=some B'):AFr B B' [b]:=by
 unfold st at h
 split at h
 ·split at h
  ·cases h; exact .set _ _ _
  ·simp at h
 ·simp at h
theorem D4c {ts:Array TypeId} {s x:AV} {v:AV} {B':Heap} {D:List Nat} (h:M5 P B ts s x=some (v,B',D)):AFr B B' D:=by
 unfold M5 at h
 (repeat' split at h) <;> first
  | (simp at h; done)
  | (simp only [sI,pI] at h; obtain ⟨rfl,rfl,rfl⟩:=h; first | exact .refl _ | exact .push _ _ | exact .set _ _ _ | exact (AFr.set _ _ _).trans (.push _ _))
theorem F0g {ts:Array TypeId} {s x:AV} {v:AV} {B':Heap} {D:List Nat} (h:C0j P B ts s x=some (v,B',D)):AFr B B' D:=by
 unfold C0j at h
 (repeat' split at h) <;> first
  | (simp at h; done)
  | exact A1l h
  | (simp only [Option.map_eq_some_iff,pI] at h; obtain ⟨_,h1,_,rfl,rfl⟩:=h; exact E5o h1)
theorem E2e {ts:Array TypeId} {s:AV} {v:AV} {B':Heap} {D:List Nat} (h:B8v P B ts s=some (v,B',D)):AFr B B' D:=by
 unfold B8v at h
 (repeat' split at h) <;> first
  | (simp at h; done)
  | exact A1l h
  | (simp only [Option.map_eq_some_iff,pI] at h; obtain ⟨_,h1,_,rfl,rfl⟩:=h; exact E5o h1)
theorem B5p {ts:Array TypeId} {p n v:AV} {B':Heap} {D:List Nat} (h:Q3 P B ts p n=some (v,B',D)):AFr B B' D:=by
 unfold Q3 at h
 (repeat' split at h) <;> first
  | (simp at h; done)
  | exact A1l h
  | (simp only [Option.map_eq_some_iff,pI] at h; obtain ⟨_,_,_,rfl,rfl⟩:=h; exact .set _ _ _)
theorem D1s {b:Builtin} {ts:Array TypeId} {args:List AV} {v:AV} {B':Heap} {D:List Nat} (h:A2k P B b ts args=some (v,B',D)):AFr B B' D:=by
 unfold A2k at h
 split at h <;> first | exact D4c h | exact F0g h | exact E2e h | exact A1l h | exact B5p h | (simp at h; done)
theorem B8n {t:TypeId} {n:Nat} {ps:List (Nat × AV)} {v:AV} {B':Heap} {D:List Nat} (h:A2l P B t n ps=some (v,B',D)):AFr B B' D:=by
 unfold A2l at h
 (repeat' split at h) <;> first
  | (simp at h; done)
  | (simp only [sI,pI] at h; obtain ⟨rfl,rfl,rfl⟩:=h; exact .push _ _)
theorem C2p {t:TypeId} {x y v:AV} {B':Heap} {D:List Nat} (h:A0h P B t x y=some (v,B',D)):AFr B B' D:=by
 unfold A0h at h
 (repeat' split at h) <;> first
  | (simp at h; done)
  | (simp only [sI,pI] at h; obtain ⟨rfl,rfl,rfl⟩:=h; exact .push _ _)
theorem C8u {s d:TypeId} {x v:AV} {B':Heap} {D:List Nat} (h:A9j P B s d x=some (v,B',D)):AFr B B' D:=by
 unfold A9j at h
 (repeat' split at h) <;> first
  | (simp at h; done)
  | exact A1l h
  | (simp only [sI,pI] at h; obtain ⟨rfl,rfl,rfl⟩:=h; exact .push _ _)
theorem E2z {t:TypeId} {p x v:AV} {B':Heap} {D:List Nat} (h:A3r P B t p x=some (v,B',D)):AFr B B' D:=by
 unfold A3r at h
 (repeat' split at h) <;> first
  | (simp at h; done)
  | (simp only [Option.map_eq_some_iff,pI] at h; obtain ⟨_,h1,_,rfl,rfl⟩:=h; exact E5o h1)
theorem D0k {x:Option AV} {v:AV} {B':Heap} {D:List Nat} (h:A8r B x=some (v,B',D)):AFr B B' D:=by
 unfold A8r at h
 split at h
 ·simp only [sI,pI] at h; obtain ⟨rfl,rfl,rfl⟩:=h; exact .push _ _
 ·cases h
theorem C2j {t:TypeId} {m k x v:AV} {B':Heap} {D:List Nat} (h:A1u P B t m k x=some (v,B',D)):AFr B B' D:=by
 unfold A1u at h
 (repeat' split at h) <;> first
  | (simp at h; done)
  | (simp only [sI,pI] at h; obtain ⟨rfl,rfl,rfl⟩:=h; exact .set _ _ _)
theorem F5u {ρ:Operand->AV} {op:Op} {v:AV} {B':Heap} {D:List Nat} (h:V4 P ρ B op=some (v,B',D)):AFr B B' D:=by
 unfold V4 at h
 split at h <;> first
  | exact A1l h
  | exact B8n h
  | exact C2p h
  | exact C8u h
  | exact D1s h
  | exact D0k h
  | exact C2j h
  | (simp at h; done)
  | (split at h <;> first | exact A1l h | exact E2z h | (simp at h; done) | (simp only [sI,pI] at h; obtain ⟨rfl,rfl,rfl⟩:=h; exact .push _ _))
  | (simp only [Option.map_eq_some_iff,pI] at h; obtain ⟨_,_,_,rfl,rfl⟩:=h; exact .push _ _)
theorem C9j {t tx:TypeId} {b n:Nat} {x:AV} {c:Bool} {v:AV} {B':Heap} {D:List Nat} (h:A7w P B t tx b n x=some (c,v,B',D)):AFr B B' D:=by
 unfold A7w at h
 (repeat' split at h) <;> first
  | (simp at h; done)
  | (simp only [sI,pI] at h; obtain ⟨_,_,rfl,rfl⟩:=h; exact (AFr.set _ _ _).trans (.push _ _))
theorem D2m {t tx:TypeId} {b n:Nat} {x:AV} {c:Bool} {v:AV} {B':Heap} {D:List Nat} (h:A8f P B t tx b n x=some (c,v,B',D)):AFr B B' D:=by
 unfold A8f at h
 (repeat' split at h) <;> first
  | (simp at h; done)
  | (simp only [sI,pI] at h; obtain ⟨_,_,rfl,rfl⟩:=h; exact (AFr.set _ _ _).trans (.push _ _))
theorem C9h {ts:Array TypeId} {b n:Nat} {m:AV} {c:Bool} {v:AV} {B':Heap} {D:List Nat} (h:A7x P B ts b n m=some (c,v,B',D)):AFr B B' D:=by
 unfold A7x at h
 (repeat' split at h) <;> first
  | (simp at h; done)
  | (simp only [sI,pI] at h; obtain ⟨_,_,rfl,rfl⟩:=h; exact .set _ _ _)
theorem E8r {ρ:Operand->AV} {op:Op} {c:Bool} {v:AV} {B':Heap} {D:List Nat} (h:M9 P ρ B op=some (c,v,B',D)):AFr B B' D:=by
 unfold M9 at h
 split at h
 ·split at h
  ·simp only [Option.map_eq_some_iff,pI] at h; obtain ⟨_,_,_,_,rfl,rfl⟩:=h; exact .refl _
  ·cases h
 ·split at h
  ·split at h
   ·simp only [sI,pI] at h; obtain ⟨_,_,rfl,rfl⟩:=h; exact .refl _
   ·cases h
  ·cases h
 ·split at h
  ·split at h
   ·exact D2m h
   ·exact C9j h
  ·cases h
 ·split at h
  ·simp only [sI,pI] at h; obtain ⟨_,_,rfl,rfl⟩:=h; exact .refl _
  ·cases h
 ·split at h
  ·exact C9h h
  ·cases h
 ·split at h
  ·split at h
   ·split at h
    ·simp only [sI,pI] at h; obtain ⟨_,_,rfl,rfl⟩:=h; exact .refl _
    ·cases h
   ·cases h
  ·cases h
 ·simp only [Option.map_eq_some_iff,pI] at h; obtain ⟨_,_,_,_,rfl,rfl⟩:=h; exact .refl _
theorem B8b {t:TypeId} {cs:List AV} {c:Bool} {v:AV} {B':Heap} {D:List Nat} (h:A4u P B t cs=some (c,v,B',D)):AFr B B' D:=by
 unfold A4u at h
 (repeat' split at h) <;> first
  | (simp at h; done)
  | (simp only [sI,pI] at h; obtain ⟨_,_,rfl,rfl⟩:=h; exact .push _ _)
theorem C6t {t:TypeId} {x p:AV} {c:Bool} {v:AV} {B':Heap} {D:List Nat} (h:A5t P B t x p=some (c,v,B',D)):AFr B B' D:=by
 unfold A5t at h
 (repeat' split at h) <;> first
  | (simp at h; done)
  | (simp only [sI,pI] at h; obtain ⟨_,_,rfl,rfl⟩:=h; exact .set _ _ _)
theorem C9m {ts:Array TypeId} {d x:AV} {c:Bool} {v:AV} {B':Heap} {D:List Nat} (h:A9e P B ts d x=some (c,v,B',D)):AFr B B' D:=by
 unfold A9e at h
 (repeat' split at h) <;> first
  | (simp at h; done)
  | (simp only [sI,pI] at h; obtain ⟨_,_,rfl,rfl⟩:=h; exact .set _ _ _)
theorem D2e {t:TypeId} {l n:AV} {c:Bool} {v:AV} {B':Heap} {D:List Nat} (h:A7s P B t l n=some (c,v,B',D)):AFr B B' D:=by
 unfold A7s at h
 (repeat' split at h) <;> first
  | (simp at h; done)
  | (simp only [sI,pI] at h; obtain ⟨_,_,rfl,rfl⟩:=h; exact .push _ _)
theorem F6y {ρ:Operand->AV} {op:Op} {c:Bool} {v:AV} {B':Heap} {D:List Nat} (h:U3 P ρ B op=some (c,v,B',D)):AFr B B' D:=by
 unfold U3 at h
 (repeat' split at h) <;> first
  | (simp at h; done)
  | exact C6t h
  | exact B8b h
  | exact C9m h
  | exact D2e h
  | (simp only [Option.map_eq_some_iff,pI] at h; obtain ⟨_,_,_,_,rfl,rfl⟩:=h; exact .refl _)
  | (simp only [sI,pI] at h; obtain ⟨_,_,rfl,rfl⟩:=h; exact .refl _)
  | (simp only [Option.bind_eq_some_iff] at h; obtain ⟨_,_,h⟩:=h; exact B8b h)
theorem G4e {ρ:Operand->AV} {op:Op} {c:Bool} {v:AV} {B':Heap} {D:List Nat} (h:atl P ρ B op=some (c,v,B',D)):AFr B B' D:=by
 unfold atl at h
 (repeat' split at h) <;> first
  | (simp at h; done)
  | (simp only [sI,pI] at h; obtain ⟨_,_,rfl,rfl⟩:=h; first | exact .refl _ | exact .set _ _ _ | exact (AFr.set _ _ _).trans (.push _ _))
theorem G4q {ρ:Operand->AV} {op:Op} {c:Bool} {v:AV} {B':Heap} {D:List Nat} (h:aqs P ρ B op=some (c,v,B',D)):AFr B B' D:=by
 unfold aqs at h
 (repeat' split at h) <;> first
  | (simp at h; done)
  | (simp only [Option.map_eq_some_iff,pI] at h; obtain ⟨_,_,_,_,rfl,rfl⟩:=h; exact .refl _)
  | (simp only [sI,pI] at h; obtain ⟨_,_,rfl,rfl⟩:=h; first | exact .refl _ | exact (AFr.set _ _ _).trans (.push _ _))
theorem F4g {ρ:Operand->AV} {op:Op} {c:Bool} {v:AV} {B':Heap} {D:List Nat} (h:A6k P ρ B op=some (c,v,B',D)):AFr B B' D:=by
 unfold A6k at h
 split at h
 ·rename_i r hr; cases h; exact F6y hr
 ·split at h
  ·rename_i r hr; cases h; exact E8r hr
  split at h
  ·rename_i r hr; cases h; exact G4e hr
  split at h
  ·rename_i r hr; cases h; exact G4q hr
  ·simp only [Option.map_eq_some_iff,pI] at h; obtain ⟨_,_,_,_,rfl,rfl⟩:=h; exact .refl _
theorem G1j {ρ:Operand->AV} {op:Op} {v:AV} {B':Heap} {D:List Nat} (h:aop P ρ B op=some (v,B',D)):AFr B B' D:=by
 unfold aop at h
 split at h
 ·split at h
  ·cases h; exact .refl _
  ·cases h
 ·split at h
  ·rename_i hc
   split at h
   ·cases h; exact F4g hc
   ·cases h
  ·exact F5u h
def FrBp (bp:Bps):Prop:=∀ id g,bp id=some g->∀ ρ B e ρ' B' D,(g ρ B).get=some (e,ρ',B',D)->AFr B B' D
theorem FrBp.none:FrBp F7:=fun _ _ h=>by cases h
structure FrOK (r:Rec):Prop where
 exec:∀ bp c ρ B e ρ' B' D,FrBp bp->r.exec bp c ρ B=some (e,ρ',B',D)->AFr B B' D
 call:∀ f args B v B' D,r.call f args B=some (v,B',D)->AFr B B' D
variable {r:Rec}
theorem C4t (hr:FrOK r) {l:Nat} {args:List AV} {v:AV} {B':Heap} {D:List Nat} (h:A6x r l args B=some (v,B',D)):AFr B B' D:=by
 unfold A6x at h
 split at h
 ·split at h
  ·split at h
   ·rename_i ρ1 B1 D1 h1
    split at h
    ·split at h
     ·split at h
      ·rename_i e ρ2 B2 D2 h2
       split at h
       ·have key:∀ o,AFr B (B2.set l o) (D1++[l]++D2++[l]):=fun o =>
         ((((hr.exec _ _ _ _ _ _ _ _ .none h1).trans (.set _ _ _)).trans (hr.exec _ _ _ _ _ _ _ _ .none h2)).trans (.set _ _ _))
        cases e <;> (simp only [sI,pI] at h; obtain ⟨_,rfl,rfl⟩:=h; exact key _)
       ·simp at h
      ·simp at h
     ·simp at h
    ·simp at h
   ·simp at h
  ·simp at h
 ·simp at h
theorem E3m (hr:FrOK r) {f:AV} {args:List AV} {v:AV} {B':Heap} {D:List Nat} (h:B9a r f args B=some (v,B',D)):AFr B B' D:=by
 unfold B9a at h
 split at h
 ·exact hr.call _ _ _ _ _ _ h
 ·exact C4t hr h
 ·simp at h
theorem B4b (hr:FrOK r) {ρ:Operand->AV} {op:Op} {v:AV} {B':Heap} {D:List Nat} (h:P7 P r ρ B op=some (v,B',D)):AFr B B' D:=by
 unfold P7 at h
 split at h
 ·split at h
  ·exact A1l h
  ·exact E3m hr h
 ·exact G1j h
theorem B3p (hr:FrOK r) {ops:Array Oper}:∀ {l:List Oper} {ρ ρ':List AV} {B B':Heap} {D:List Nat},U0 P r ops l ρ B=some (ρ',B',D)->AFr B B' D
 | [],ρ,ρ',B,B',D,h=>by simp only [U0,sI,pI] at h; obtain ⟨_,rfl,rfl⟩:=h; exact .refl _
 | o :: l,ρ,ρ',B,B',D,h=>by
  simp only [U0] at h
  split at h
  ·split at h
   ·rename_i v B1 D1 h1
    simp only [Q5] at h
    split at h
    ·rename_i ρ2 B2 D2 h2
     cases h
     exact (B4b hr h1).trans (B3p hr h2)
    ·simp at h
   ·simp at h
  ·exact B3p hr h
  ·simp at h
theorem B3b (hr:FrOK r) {ops:Array Oper}:∀ {l:List Oper} {ρ ρ':List AV} {B B':Heap} {D:List Nat},A4w P r ops l ρ B=some (ρ',B',D)->AFr B B' D
 | [],ρ,ρ',B,B',D,h=>by simp only [A4w,sI,pI] at h; obtain ⟨_,rfl,rfl⟩:=h; exact .refl _
 | o :: l,ρ,ρ',B,B',D,h=>by
  simp only [A4w] at h
  split at h
  ·split at h
   ·rename_i v B1 D1 h1
    simp only [Q5] at h
    split at h
    ·rename_i ρ2 B2 D2 h2
     cases h
     exact (B4b hr h1).trans (B3b hr h2)
    ·simp at h
   ·simp at h
  ·exact B3b hr h
  ·simp at h
theorem D6s (hr:FrOK r) {ops:Array Oper} {m:Nat} {ρ ρ':List AV} {B':Heap} {D:List Nat} (h:A6z P r ops m ρ B=some (ρ',B',D)):AFr B B' D:=by
 unfold A6z at h
 split at h
 ·split at h
  ·rename_i h1
   exact (B3p hr h1).trans (B3b hr h)
  ·simp at h
 ·simp at h
theorem B6s (hr:FrOK r) {ops:Array Oper} {m:Nat} {ρ ρ':List AV} {B':Heap} {D:List Nat} (h:A2d P r ops m ρ B=some (ρ',B',D)):AFr B B' D:=by
 unfold A2d at h
 split at h
 ·split at h
  ·rename_i h1
   split at h
   ·rename_i h2
    split at h
    ·cases h; exact (B3p hr h1).trans (B3p hr h2)
    ·cases h
   ·cases h
  ·simp at h
 ·simp at h
theorem F0h (hr:FrOK r) {ops:Array Oper} {ρ ρ':List AV} {B':Heap} {D:List Nat} (h:B3e P r ops ρ B=some (ρ',B',D)):AFr B B' D:=by
 unfold B3e at h
 split at h
 ·exact B6s hr h
 ·unfold C1q at h
  split at h
  ·exact D6s hr h
  ·exact B6s hr h
theorem A9y {D D':List Nat} {x:E4j} {e:AEx} {ρ:List AV} {B:Heap} (h:B4p D x=some (e,ρ,B,D')):∃ D1,x=some (e,ρ,B,D1)/\D'=D++D1:=by
 unfold B4p at h
 split at h
 ·cases h; exact ⟨_,rfl,rfl⟩
 ·simp at h
theorem E4h (hr:FrOK r) {f:AV} {ρ:List AV} {ps:Array Tmp} {as body:Code} {v:AV} {B':Heap} {D:List Nat} (h:B9g r f ρ ps as body B=some (v,B',D)):AFr B B' D:=by
 unfold B9g at h
 split at h
 ·exact (AFr.push B _).trans (hr.call _ _ _ _ _ _ h)
 ·simp at h
theorem C9t (hr:FrOK r) {bp:Bps} (hb:FrBp bp):∀ {c:Code} {ρ ρ':List AV} {B B':Heap} {D:List Nat} {e:AEx},I5 P r bp c ρ B=some (e,ρ',B',D)->AFr B B' D:=by
 intro c
 induction c with
 | seq a b iha ihb =>
  intro ρ ρ' B B' D e h
  simp only [I5] at h
  split at h
  ·rename_i h1
   obtain ⟨D1,h2,rfl⟩:=A9y h
   exact (iha h1).trans (ihb h2)
  ·exact iha h
 | cond c a b iha ihb =>
  intro ρ ρ' B B' D e h
  simp only [I5] at h
  split at h
  ·exact iha h
  ·exact ihb h
  ·simp at h
 | block id c ih =>
  intro ρ ρ' B B' D e h
  simp only [I5] at h
  split at h
  ·rename_i g hg; exact hb _ _ hg _ _ _ _ _ _ h
  split at h
  ·rename_i h1; cases h; exact ih h1
  ·exact ih h
 | loop c ih =>
  intro ρ ρ' B B' D e h
  simp only [I5,R5,A0z] at h
  split at h
  ·rename_i h1
   obtain ⟨D1,h2,rfl⟩:=A9y h
   exact (ih h1).trans (hr.exec _ _ _ _ _ _ _ _ hb h2)
  ·exact ih h
 | scope c ih =>
  intro ρ ρ' B B' D e h
  exact ih h
 | region id ops draw =>
  intro ρ ρ' B B' D e h
  cases draw <;> simp only [I5,Option.map_eq_some_iff,pI,Prod.exists] at h
  ·obtain ⟨_,_,_,h1,_,_,rfl,rfl⟩:=h; exact B3b hr h1
  ·obtain ⟨_,_,_,h1,_,_,rfl,rfl⟩:=h; exact F0h hr h1
 | rangeFunc f ps as body iha ihb =>
  intro ρ ρ' B B' D e h
  simp only [I5] at h
  split at h
  ·rename_i h1
   have h2:=E4h hr h1
   split at h
   ·split at h
    ·simp at h
    ·split at h <;> first | (simp at h; done) | (cases h; exact h2.trans (.set _ _ _))
   ·simp at h
  ·simp at h
 | _ =>
  intro ρ ρ' B B' D e h
  simp only [I5,sI,pI,reduceCtorEq] at h
  try (obtain ⟨_,_,rfl,rfl⟩:=h; exact .refl _)
theorem G9n {v v':AV} {B' B'':Heap} {D D'':List Nat} (h:AFr B B' D) (hg:gc B v B' D=(v',B'',D'')):AFr B B'' D'':=by
 have hf:∀ b,b < B.length->b ∉ D.filter (· < B.length)->B'[b]?=B[b]?:=fun b hb hn=>h.2 b hb fun hm=>hn (by simp [hm,hb])
 unfold gc at hg
 simp only at hg
 split at hg
 ·cases hg
  split
  ·exact ⟨Nat.le_refl _,fun _ _ _=>rfl⟩
  ·refine ⟨by simp [Nat.min_eq_left h.1],fun b hb hn=>?_⟩
   rw [List.getElem?_take,if_pos hb]; exact hf b hb hn
 ·split at hg
  ·split at hg
   ·split at hg
    ·split at hg
     ·cases hg; exact .push _ _
     ·cases hg; exact ⟨h.1,hf⟩
    ·cases hg; exact ⟨h.1,hf⟩
   ·cases hg; exact ⟨h.1,hf⟩
  ·cases hg; exact ⟨h.1,hf⟩
def D5i (prims:Prims):Prop:=(∀ f g,prims.fn f=some g->∀ args B v B' D,(g args B).get=some (v,B',D)->AFr B B' D)/\∀ f,FrBp (prims.blk f)
theorem E8k {prims:Prims} (hp:D5i prims) (hr:FrOK r) {f:FuncId} {args:List AV} {v:AV} {B':Heap} {D:List Nat} (h:A8g P prims r f args B=some (v,B',D)):AFr B B' D:=by
 unfold A8g at h
 split at h
 ·rename_i hg; exact hp.1 _ _ hg _ _ _ _ _ h
 ·split at h
  ·simp at h
  ·split at h
   ·simp at h
   ·simp only [R5,A0z] at h
    split at h
    ·simp at h
    ·rename_i h1
     split at h
     ·simp only [sI] at h
      exact G9n (C9t hr (hp.2 _) h1) h
     ·simp at h
    ·simp at h
theorem B9n (P:Program) {prims:Prims} (hp:D5i prims):∀ n,FrOK (run P prims n)
 | 0=>⟨fun _ _ _ _ _ _ _ _ _ h=>by simp [run] at h,fun _ _ _ _ _ _ h=>by simp [run] at h⟩
 | n+1=>⟨fun _ _ _ _ _ _ _ _ hb h=>C9t (B9n P hp n) hb h,fun _ _ _ _ _ _ h=>E8k hp (B9n P hp n) h⟩
end Go.Ad
